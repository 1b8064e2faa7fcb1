/- Joined texts of this claim's proof: RdZ, SynN, Pa1, SynQ, WtA, WtC, WtD, WtE. -/
import Derived.Test.YtceggplnggkdnaaGreatDoorPk19
import Derived.Test.YtceggplnggkdnaaGreatDoorPk12
import Derived.Test.YtceggplnggkdnaaGreatDoorPk1
import Derived.Test.YtceggplnggkdnaaGreatDoorPk3
import Derived.Test.YtceggplnggkdnaaGreatDoorPk2
import Derived.BigQuiet
set_option linter.unusedSimpArgs false
set_option linter.unusedVariables false
namespace Go.Proofs.YtceggplnggkdnaaGreatDoor
open Go.RowKit NatP LexP
def GuP (r : SynP.PR SynP.Ln) (R : Nat) (tv : Value) (L : List Tok) (fin : Nat) (nv : Value) (w : World) (e : Ending) (w' : World) : Prop :=
 match r with
 | none => False
 | some (.error (c, k)) => e = .returned (.agg #[.int .i64 (c : Nat), .int .i64 (k : Nat)]) ∧ Wr R nv.ownBlock w w'
 | some (.ok (n, s')) => e = .returned (.agg #[.int .i64 0, .int .i64 0]) ∧ ∃ a' nv' ns', RS w' R tv L fin a' s' nv' ns' ∧ Wr R nv.ownBlock w w' ∧ ns'.map Prod.fst = n.flat
theorem Wr.sets {R g o : Nat} {og : Option Nat} {w w2 : World} (h : Wr R og w w2) (hg : w.heap.size ≤ g) (u : Value) : Wr R og w (w2.setCell ⟨g, o, none⟩ u) :=
 ⟨h.os, h.tape, h.output, by simpa [World.setCell] using h.size, fun k hk hR ho => (heap_setCell_other w2 ⟨g, o, none⟩ k u (by show k ≠ g; omega)).trans (h.block k hk hR ho)⟩
theorem Wr.allocs {R : Nat} {og : Option Nat} {w w2 : World} (h : Wr R og w w2) (x : Obj) : Wr R og w (w2.alloc x) :=
 ⟨h.os, h.tape, h.output, Nat.le_trans h.size (below_alloc w2 x).size, fun k hk hR ho => ((below_alloc w2 x).block k (Nat.lt_of_lt_of_le hk h.size)).trans (h.block k hk hR ho)⟩
theorem grown_setG {g o : Nat} (w : World) (u : Value) : w.grownBy (w.setCell ⟨g, o, none⟩ u) (some g) :=
 ⟨rfl, rfl, rfl, by simp [World.setCell], fun k _ hk => heap_setCell_other w ⟨g, o, none⟩ k u (fun e => hk (by rw [e]))⟩
set_option maxRecDepth 100000 in
theorem guarded_line (fin f : Nat) (R : Nat) (tv : Value) (L : List Tok) (s : SynP.St) (nv : Value) (w : World) (h : RS w R tv L fin 0 s nv []) (hne : SynP.line fin f s ≠ none) :
  Calls Tryz.prog 52 #[.func (.func 53) #[.pointer (some ⟨R, 0, none⟩)] #[]] w (GuP (SynP.line fin f s) R tv L fin nv w) := by
 have hmf : ∀ (fn : Fn) (first cap : Array Value) (w : World), (Instr.makeFunc fn first cap).run Tryz.prog w = .ok (.func fn first cap) w := fun _ _ _ _ => rfl
 have HA := Lib.hid (below_alloc w (.cells #[.int .i64 0, .int .i64 0] 105))
 have HS := Lib.hid (h.below HA.out)
 have hRl := h.lt
 have HB := Lib.hid (heap_alloc_new w (.cells #[.int .i64 0, .int .i64 0] 105))
 have HNE := Lib.hid hne
 have HLT : Hid (∀ q, nv.ownBlock = some q → q < w.heap.size) := fun q hq => (h.own.lt q hq).2
 clear h hne
 go_enter_defers Tryz.func52, Tryz.ntmps52
 go_wp2_with fail
 refine (line_any fin f R tv L s nv _ HS.out HNE.out).mono ?_
 rintro e w2 hn
 rcases hN : SynP.line fin f s with - | (⟨c, k⟩ | ⟨n, s'⟩) <;> rw [hN] at hn
 ·exact hn.elim
 ·obtain ⟨rfl, n1⟩ := hn
  have hb : w2.heap[w.heap.size]? = some (.cells #[.int .i64 0, .int .i64 0] 105 (0, 0)) := (n1.block w.heap.size (by simp) (by omega) (fun e => by have := HLT.out _ e.symm; omega)).trans HB.out
  have hwr := (Wr.of_below (R := R) (og := nv.ownBlock) HA.out).trans (Mv.refl _ _) n1
  have HWR := Lib.hid hwr
  clear n1 hwr
  refine leaves_cons (f := 86) (args := #[.pointer (some ⟨w.heap.size, 0, none⟩)]) (by simp) (by simp [go_sem]) ?_
  refine (catch_fault w.heap.size c k _ _ _ hb).mono ?_
  rintro e u' w3 ⟨rfl, rfl, hw3⟩
  have hfin : Wr R nv.ownBlock w w3 := by rw [hw3]; exact ((HWR.out.sets (Nat.le_refl _) _).sets (Nat.le_refl _) _).allocs _
  have hlt := (Array.getElem?_eq_some_iff.1 hb).1
  have s1 := heap_setCell_same w2 w.heap.size 0 _ 105 (.int .i64 (c : Nat)) hb
  have s2 := heap_setCell_same (w2.setCell ⟨w.heap.size, 0, none⟩ (.int .i64 (c : Nat))) w.heap.size 1 _ 105 (.int .i64 (k : Nat)) s1
  have s3 : w3.heap[w.heap.size]? = some (.cells #[.int .i64 (c : Nat), .int .i64 (k : Nat)] 105 (0, 0)) := by
   rw [hw3]
   exact ((below_alloc _ _).block w.heap.size (by simpa [World.setCell] using hlt)).trans (s2.trans (by simp))
  have q0 : w3.cell? ⟨w.heap.size, 0, none⟩ = some (.int .i64 (c : Nat)) := by rw [cell_of_row _ _ 0 _ _ _ s3]; rfl
  have q1 : w3.cell? ⟨w.heap.size, 1, none⟩ = some (.int .i64 (k : Nat)) := by rw [cell_of_row _ _ 1 _ _ _ s3]; rfl
  have HF := Lib.hid hfin
  clear s1 s2 s3 hw3 hfin hb
  simp [Leaves, settle, results, Tryz.results52, go_sem, q0, q1]
  exact ⟨rfl, HF.out⟩
 ·obtain ⟨rfl, a', nv', ns', n1, n2, n3, n4, n5⟩ := hn
  have hb : w2.heap[w.heap.size]? = some (.cells #[.int .i64 0, .int .i64 0] 105 (0, 0)) := (n2.block w.heap.size (by simp) (by omega) (fun e => by have := HLT.out _ e.symm; omega)).trans HB.out
  have hz0 : w2.frozen? ⟨w.heap.size, 0, none⟩ = false := frozen_of_row _ _ 0 _ _ hb
  have hz1 : w2.frozen? ⟨w.heap.size, 1, none⟩ = false := frozen_of_row _ _ 1 _ _ hb
  have hc0 : w2.cell? ⟨w.heap.size, 0, none⟩ = some (.int .i64 0) := by rw [cell_of_row _ _ 0 _ _ _ hb]; rfl
  have hc1 : w2.cell? ⟨w.heap.size, 1, none⟩ = some (.int .i64 0) := by rw [cell_of_row _ _ 1 _ _ _ hb]; rfl
  have hne1 : nv'.ownBlock ≠ some w.heap.size := fun e => by
   rcases n4 _ e with h1 | h1
   ·have := HLT.out _ h1; omega
   ·simp at h1; omega
  have hne2 : ∀ p ∈ ns', p.2.ownBlock ≠ some w.heap.size := fun p hp e => by
   have h1 := n5 p hp _ e
   simp at h1
   omega
  have g1 := (n1.growK (grown_setG (g := w.heap.size) (o := 0) w2 (.int .i64 0)) (fun q hq => by cases hq; exact ⟨hRl, hne1, hne2⟩)).1
  have g2 := (g1.growK (grown_setG (g := w.heap.size) (o := 1) _ (.int .i64 0)) (fun q hq => by cases hq; exact ⟨hRl, hne1, hne2⟩)).1
  have G2 := Lib.hid g2
  have HWR := Lib.hid (((((Wr.of_below (R := R) (og := nv.ownBlock) HA.out).trans (Mv.refl _ _) n2).sets (g := w.heap.size) (o := 0) (Nat.le_refl _) (.int .i64 0)).sets (g := w.heap.size) (o := 1) (Nat.le_refl _) (.int .i64 0)))
  have N3 := Lib.hid n3
  have s1 := heap_setCell_same w2 w.heap.size 0 _ 105 (.int .i64 0) hb
  have S2 := Lib.hid (heap_setCell_same (w2.setCell ⟨w.heap.size, 0, none⟩ (.int .i64 0)) w.heap.size 1 _ 105 (.int .i64 0) s1)
  clear n1 n2 n3 n4 n5 hb hne1 hne2 g1 g2 s1
  go_wp2_with fail
  refine leaves_cons (f := 86) (args := #[.pointer (some ⟨w.heap.size, 0, none⟩)]) (by simp) (by simp [go_sem]) ?_
  refine (catch_none w.heap.size _).mono ?_
  rintro e u' w3 ⟨rfl, rfl, hw3⟩
  rw [← hw3] at G2 HWR
  have q0 : w3.cell? ⟨w.heap.size, 0, none⟩ = some (.int .i64 0) := by rw [hw3, cell_of_row _ _ 0 _ _ _ S2.out]; rfl
  have q1 : w3.cell? ⟨w.heap.size, 1, none⟩ = some (.int .i64 0) := by rw [hw3, cell_of_row _ _ 1 _ _ _ S2.out]; rfl
  clear hw3
  simp [Leaves, settle, results, Tryz.results52, go_sem, q0, q1]
  rw [hN]
  exact ⟨rfl, a', nv', ns', G2.out, HWR.out, N3.out⟩
end Go.Proofs.YtceggplnggkdnaaGreatDoor
namespace Go.Proofs.YtceggplnggkdnaaGreatDoor
open LexP NumP
theorem digit_byte : ∀ l : Bytes, ∀ c ∈ chars l, isNum c = true → ∃ b, c.2 = [b] ∧ (isDig b = true ∨ b = 95) ∧ (kd c = 3 → isDig b = true) := by
 apply chars_ind
 ·intro c hc; simp [chars_nil] at hc
 ·intro l hl ih c hc
  rw [chars_cons hl] at hc
  rcases List.mem_cons.1 hc with rfl | hc
  ·intro hn
   cases hd : dec l with
   | none =>
    have hv : val l = none := by simp [val, hd]
    rw [hv] at hn; simp [isNum, kd, rn] at hn
   | some p =>
    obtain ⟨v, n⟩ := p
    have hv : val l = some v := by simp [val, hd]
    have hw : wid l = n := by simp [wid, hd]
    rw [hv] at hn
    rw [hw, hv]
    have hn' : (kindOf v == 3 || v == 95) = true := hn
    have h3 : kindOf v = 3 → 48 ≤ v ∧ v ≤ 57 := by
     unfold kindOf
     repeat' split
     all_goals omega
    have hv2 : (48 ≤ v ∧ v ≤ 57) ∨ v = 95 := by
     simp only [Bool.or_eq_true, beq_iff_eq] at hn'
     rcases hn' with h | h
     ·exact .inl (h3 h)
     ·exact .inr h
    obtain ⟨rfl, ht⟩ := dec_ascii hd (by omega)
    have htn : v.toUInt8.toNat = v := by simp; omega
    refine ⟨v.toUInt8, ht, ?_, ?_⟩
    ·rcases hv2 with h | rfl
     ·left; simp only [isDig, htn, Bool.and_eq_true, decide_eq_true_eq]; exact h
     ·right; rfl
    ·intro hk
     have := h3 hk
     simp only [isDig, htn, Bool.and_eq_true, decide_eq_true_eq]; exact this
  ·exact ih c hc
theorem numrun_text {S : Bytes} {cs : List C} (h : ∀ c ∈ cs, c ∈ chars S) : numRun (bytesOf (cs.take (runLen isNum cs))) := by
 intro b hb
 simp only [bytesOf, List.mem_flatMap] at hb
 obtain ⟨c, hc, hbc⟩ := hb
 have h1 := takeWhile_all _ c hc
 obtain ⟨x, hx, h2, _⟩ := digit_byte S c (h c (List.mem_of_mem_take hc)) h1
 rw [hx] at hbc
 simp only [List.mem_singleton] at hbc
 subst hbc; exact h2
def NumTok (t : Tok) : Prop := t.1 = 1 → numRun t.2.1 ∧ 0 < t.2.1.length ∧ anyBad t.2.1 = false
theorem toks_nums (S : Bytes) : ∀ (n : Nat) (cs : List C) (col : Nat) (ts : List Tok), cs.length ≤ n → (∀ c ∈ cs, c ∈ chars S) → Toks col cs = .ok ts → ∀ t ∈ ts, NumTok t := by
 intro n
 induction n with
 | zero =>
  intro cs col ts hl _ h
  rw [List.eq_nil_of_length_eq_zero (Nat.le_zero.1 hl), Toks_nil] at h
  cases h
  intro t ht; cases ht
 | succ n ih =>
  intro cs col ts hl hS h
  cases cs with
  | nil =>
   rw [Toks_nil] at h
   cases h
   intro t ht; cases ht
  | cons c cs =>
   have step : ∀ (k col : Nat) (m : List Tok), 1 ≤ k → Toks col ((c :: cs).drop k) = .ok m → ∀ t ∈ m, NumTok t := by
    intro k col m hk hm
    exact ih _ _ _ (by rw [List.length_drop]; omega) (fun d hd => hS d (List.mem_of_mem_drop hd)) hm
   have hk := kd_le c
   by_cases k0 : kd c = 0
   ·rw [Toks_bad _ k0] at h; cases h
   by_cases k1 : kd c = 1
   ·rw [Toks_blank _ k1] at h
    exact step 1 _ _ (Nat.le_refl _) h
   by_cases k2 : kd c = 2
   ·rw [Toks_hash _ k2] at h
    split at h
    ·cases h
    ·cases h
     intro t ht; cases ht
   by_cases k3 : kd c = 3
   ·rw [Toks_num _ k3] at h
    split at h
    ·cases h
    ·rename_i hb
     obtain ⟨m, hm, rfl⟩ := SynP.after_mem h
     have hc : isNum c = true := by simp [isNum, k3]
     have hp := runLen_pos (p := isNum) (c := c) (cs := cs) hc
     have := step _ _ _ hp hm
     intro t ht
     rcases List.mem_cons.1 ht with rfl | ht
     ·intro _
      have hr := numrun_text (S := S) (cs := c :: cs) hS
      obtain ⟨x, hx, -, h2⟩ := digit_byte S c (hS c (by simp)) hc
      obtain ⟨j, hj⟩ : ∃ j, runLen isNum (c :: cs) = j + 1 := ⟨runLen isNum (c :: cs) - 1, by omega⟩
      have e : bytesOf ((c :: cs).take (runLen isNum (c :: cs))) = x :: bytesOf (cs.take j) := by rw [hj, List.take_succ_cons]; simp [bytesOf, hx]
      refine ⟨hr, by show 0 < (bytesOf _).length; rw [e]; simp, ?_⟩
      have hb2 : badNum (bytesOf ((c :: cs).take (runLen isNum (c :: cs)))) = false := by simpa using hb
      show anyBad (bytesOf _) = false
      rw [← badNum_anyBad, hb2]
      rw [e]
      intro h95
      have h95' : x = 95 := by simpa using h95
      have := h2 k3
      rw [h95'] at this
      exact absurd this (by decide)
     ·exact this t ht
   by_cases k4 : kd c = 4
   ·rw [Toks_name _ k4] at h
    split at h
    ·cases h
    ·obtain ⟨m, hm, rfl⟩ := SynP.after_mem h
     have := step _ _ _ (runLen_pos (p := isAl) (c := c) (cs := cs) (by simp [isAl, k4])) hm
     intro t ht
     rcases List.mem_cons.1 ht with rfl | ht
     ·intro h1; cases h1
     ·exact this t ht
   by_cases k5 : kd c = 5
   ·rw [Toks_mark _ k5] at h
    obtain ⟨m, hm, rfl⟩ := SynP.after_mem h
    have := step 1 _ _ (Nat.le_refl _) hm
    intro t ht
    rcases List.mem_cons.1 ht with rfl | ht
    ·intro h1; cases h1
    ·exact this t ht
   ·rw [Toks_other _ (by omega)] at h; cases h
theorem toks_nums_of {S : Bytes} {ts : List Tok} (h : Toks 1 (chars S) = .ok ts) : ∀ t ∈ ts, NumTok t := toks_nums S _ _ _ _ (Nat.le_refl _) (fun _ h => h) h
end Go.Proofs.YtceggplnggkdnaaGreatDoor
namespace Go.Proofs.YtceggplnggkdnaaGreatDoor
open Go.RowKit NatP LexP
theorem below_next {a b c : World} (h : Below a.heap.size a b) (k : Below b.heap.size b c) : Below a.heap.size a c := h.trans (k.mono h.size)
def Fits (l : Bytes) : Prop := l.length ≤ 67108864
theorem toks_lb : ∀ (n : Nat) (cs : List C) (col : Nat) (ts : List Tok), cs.length ≤ n → Toks col cs = .ok ts → (ts.map fun t => t.2.1.length + 1).sum ≤ (bytesOf cs).length + 2 * cs.length := by
 intro n
 induction n with
 | zero =>
  intro cs col ts hl h
  rw [List.eq_nil_of_length_eq_zero (Nat.le_zero.1 hl), Toks_nil] at h
  cases h
  exact Nat.zero_le _
 | succ n ih =>
  intro cs col ts hl h
  cases cs with
  | nil =>
   rw [Toks_nil] at h
   cases h
   exact Nat.zero_le _
  | cons c cs =>
   have step : ∀ (k col : Nat) (m : List Tok), 1 ≤ k → Toks col ((c :: cs).drop k) = .ok m → (m.map fun t => t.2.1.length + 1).sum + (bytesOf ((c :: cs).take k)).length + 2 ≤ (bytesOf (c :: cs)).length + 2 * (c :: cs).length := by
    intro k col m hk hm
    have e := congrArg List.length (SynP.bytes_split k (c :: cs))
    rw [List.length_append] at e
    have hd : ((c :: cs).drop k).length + 1 ≤ (c :: cs).length := by rw [List.length_drop, List.length_cons]; omega
    have := ih _ _ _ (by omega) hm
    omega
   have hk := kd_le c
   by_cases k0 : kd c = 0
   ·rw [Toks_bad _ k0] at h; cases h
   by_cases k1 : kd c = 1
   ·rw [Toks_blank _ k1] at h
    have := step 1 _ _ (Nat.le_refl _) h
    omega
   by_cases k2 : kd c = 2
   ·rw [Toks_hash _ k2] at h
    split at h
    ·cases h
    ·cases h
     exact Nat.zero_le _
   by_cases k3 : kd c = 3
   ·rw [Toks_num _ k3] at h
    split at h
    ·cases h
    ·obtain ⟨m, hm, rfl⟩ := SynP.after_mem h
     have := step _ _ _ (runLen_pos (p := isNum) (c := c) (cs := cs) (by simp [isNum, k3])) hm
     rw [List.map_append, List.sum_append]
     simp only [List.map_cons, List.map_nil, List.sum_cons, List.sum_nil]
     omega
   by_cases k4 : kd c = 4
   ·rw [Toks_name _ k4] at h
    split at h
    ·cases h
    ·obtain ⟨m, hm, rfl⟩ := SynP.after_mem h
     have := step _ _ _ (runLen_pos (p := isAl) (c := c) (cs := cs) (by simp [isAl, k4])) hm
     rw [List.map_append, List.sum_append]
     simp only [List.map_cons, List.map_nil, List.sum_cons, List.sum_nil]
     omega
   by_cases k5 : kd c = 5
   ·rw [Toks_mark _ k5] at h
    obtain ⟨m, hm, rfl⟩ := SynP.after_mem h
    have := step 1 _ _ (Nat.le_refl _) hm
    have e1 : bytesOf ((c :: cs).take 1) = c.2 := by simp [bytesOf]
    rw [e1] at this
    have hs : (signOf c).length ≤ c.2.length + 1 := by
     unfold signOf
     repeat' split
     all_goals simp
    rw [List.map_append, List.sum_append]
    simp only [List.map_cons, List.map_nil, List.sum_cons, List.sum_nil]
    omega
   ·rw [Toks_other _ (by omega)] at h; cases h
theorem Fits.toks {l : Bytes} (h : Fits l) {ts : List Tok} (ht : Toks 1 (chars l) = .ok ts) : ts.length ≤ 67108864 ∧ (ts.map fun t => t.2.1.length + 1).sum ≤ 201326592 := by
 unfold Fits at h
 have h1 := (Toks_bounds _ _ _ ht).1
 have h2 := chars_len l
 have h3 := toks_lb _ _ _ _ (Nat.le_refl _) ht
 rw [bytesOf_chars] at h3
 omega
theorem Fits.good {l : Bytes} (h : Fits l) {ts : List Tok} (ht : Toks 1 (chars l) = .ok ts) : ∀ t ∈ ts, TokOk t := fun t hm h1 => by
 obtain ⟨a, b, c⟩ := toks_nums_of ht t hm h1
 refine ⟨a, b, ?_, c⟩
 have h2 := SynP.toks_text _ _ _ _ (Nat.le_refl _) ht t hm h1
 rw [bytesOf_chars] at h2
 exact Nat.le_trans h2 h
def StP (l : Bytes) (w : World) (e : Ending) (w' : World) : Prop :=
 match Toks 1 (chars l) with
 | .error (c, k) => e = .returned (.tuple #[.pointer none, .int .i64 (c : Nat), .int .i64 (k : Nat)]) ∧ Below w.heap.size w w'
 | .ok ts => ∃ R tv, e = .returned (.tuple #[.pointer (some ⟨R, 0, none⟩), .int .i64 0, .int .i64 0]) ∧ w.heap.size ≤ R ∧ Below w.heap.size w w' ∧ RS w' R tv ts ((chars l).length + 1) 0 ⟨ts, 0⟩ (.slice none 0 0) []
set_option maxRecDepth 100000 in
theorem start_any (s : ByteArray) (w : World) (hf : Fits s.data.toList) (hx : Lx w) (hs : SG w) (hsz : 6 < w.heap.size) :
  Calls Tryz.prog 51 #[.string s] w (StP s.data.toList w) := by
 have HF := Lib.hid hf
 have HX := Lib.hid hx
 have HSG := Lib.hid hs
 have hs4 : s.size ≤ 67108864 := by rw [Lib.size_eq]; exact hf
 clear hf hx hs
 go_enter Tryz.func51, Tryz.ntmps51
 go_wp2_with fail
 refine (tokens_big s _ hs4 HX.out).mono ?_
 rintro e w1 ⟨v, rfl, h1, h2⟩
 cases hT : Toks 1 (chars s.data.toList) with
 | error p =>
  obtain ⟨c, k⟩ := p
  have HT := Lib.hid hT
  have hk0 := (Toks_err _ _ _ hT).1
  have H2 := Lib.hid h2
  clear h1 h2 hT
  have ec : (resCol (.error (c, k)) : Nat) = c := rfl
  have ek : (resErr (.error (c, k)) : Nat) = k := rfl
  rw [ec, ek]
  simp only at hk0
  have hkk : ((k : Int) != 0) = true := by simp; omega
  go_wp2_with fail
  go_ret3
  unfold StP
  rw [HT.out]
  exact ⟨rfl, H2.out⟩
 | ok ts =>
  have HT := Lib.hid hT
  have h1' : w1.ownsRow w.heap.size 165 3 v ts.length (tkCells ts) := by rw [hT] at h1; exact h1
  have H1 := Lib.hid h1'
  obtain ⟨ao, cap, rfl, -, -, -⟩ := ownsRow_shape h1'
  have H2 := Lib.hid h2
  have hcl := SynP.Toks_clean _ _ _ hT
  have HCL : Hid (colRes s.data.toList = ((chars s.data.toList).length, 0)) := by show _ = _; unfold colRes; rw [if_pos hcl]
  have hlen := chars_len s.data.toList
  rw [← Lib.size_eq] at hlen
  clear h1 h1' h2 hT hcl
  have ec : (resCol (.ok ts) : Nat) = 0 := rfl
  have ek : (resErr (.ok ts) : Nat) = 0 := rfl
  rw [ec, ek]
  go_wp2_with fail
  refine (columns_big s _ hs4).mono ?_
  rintro e w2 ⟨rfl, h3⟩
  rw [HCL.out]
  have H3 := Lib.hid h3
  clear h3
  obtain ⟨n, hn⟩ : ∃ n, n = (chars s.data.toList).length := ⟨_, rfl⟩
  rw [← hn] at hlen
  simp only
  rw [← hn]
  have HN := Lib.hid hn
  clear hn
  go_wp2_with fail
  go_ret3
  have hb := below_next H2.out H3.out
  obtain ⟨hts, hsm⟩ := HF.out.toks HT.out
  unfold StP
  rw [HT.out]
  refine ⟨w2.heap.size, .slice ao ts.length cap, rfl, hb.size, below_next hb (below_alloc _ _), ?_⟩
  have hal := below_alloc w2 (.cells #[.slice ao ts.length cap, .int .i64 0, .int .i64 ((n : Int) + 1), .int .i64 0, .slice none 0 0] 109)
  refine { blk := ?_, tks := ?_, drop := rfl, le := Nat.zero_le _, own := World.ownsRow_nil _ _ _ _, kids := (fun p hp => by cases hp), apart := (fun i j p q k h => by simp at h), few := (by show 0 + ts.length ≤ _; omega), deep := Nat.zero_le _, short := hts, sum := hsm, good := HF.out.good HT.out, sg := ?_, sgl := ?_ }
  ·rw [← HN.out]; exact heap_alloc_new w2 _
  ·obtain ⟨ao', cap', e, a1, a2, a3⟩ := ownsRow_shape H1.out
   cases e
   refine ⟨ao, cap, rfl, a1, a2, fun h0 => ?_⟩
   obtain ⟨g, rfl, b1, b2, b3⟩ := a3 h0
   refine ⟨g, rfl, Nat.lt_of_lt_of_le b2 H3.out.size, fun j t hj => ?_⟩
   have hjl := (List.getElem?_eq_some_iff.1 hj).1
   obtain ⟨c1, c2, c3⟩ := tkCells_at ts j t hj
   have hc : ∀ o, (w2.alloc (.cells #[.slice (some ⟨g, 0, none⟩) ts.length cap, .int .i64 0, .int .i64 ((n : Int) + 1), .int .i64 0, .slice none 0 0] 109)).cell? ⟨g, o, none⟩ = w1.cell? ⟨g, o, none⟩ := fun o =>
    (hal.cell (p := ⟨g, o, none⟩) (Nat.lt_of_lt_of_le b2 H3.out.size)).trans (H3.out.cell (p := ⟨g, o, none⟩) b2)
   exact ⟨by rw [hc, b3 _ (by omega)]; exact c1, by rw [hc, b3 _ (by omega)]; exact c2, by rw [hc, b3 _ (by omega), c3]⟩
  ·exact HSG.out.below (below_next hb hal) hsz
  ·exact Nat.lt_of_lt_of_le hsz hb.size
structure Tr (w : World) (B : Nat) (nv : Value) (ns : List Nv) : Prop where
 own : w.ownsRow B 70 3 nv ns.length (ndCells ns)
 kids : ∀ p ∈ ns, KR w B nv.ownBlock p.2 p.1.kids
 apart : ∀ (i j : Nat) (p q : Nv) (k : Nat), ns[i]? = some p → ns[j]? = some q → p.2.ownBlock = some k → q.2.ownBlock = some k → i = j
theorem ownsRow_low {w : World} {B B' k n : Nat} {e : TypeId} {v : Value} {cs : List Value} (h : w.ownsRow B e k v n cs) (hB : B' ≤ B) : w.ownsRow B' e k v n cs := by
 refine ⟨h.1, ?_⟩
 rcases h.2 with hn | ⟨g, cap, cur, rfl, hb, hgg, rest⟩
 ·exact .inl hn
 ·exact .inr ⟨g, cap, cur, rfl, Nat.le_trans hB hb, hgg, rest⟩
theorem KR.low {w : World} {R R' : Nat} {og : Option Nat} {v : Value} {ks : List Nat} (h : KR w R og v ks) (hr : R' ≤ R) : KR w R' og v ks := by
 obtain ⟨ao, cap, rfl, h1, h2, h3, h4⟩ := h
 exact ⟨ao, cap, rfl, h1, h2, fun q hq => ⟨Nat.lt_of_le_of_lt hr (h3 q hq).1, (h3 q hq).2⟩, h4⟩
theorem RS.tr {w : World} {R : Nat} {tv : Value} {L : List Tok} {fin a : Nat} {s : SynP.St} {nv : Value} {ns : List Nv} (h : RS w R tv L fin a s nv ns) {B : Nat} (hB : B ≤ R) : Tr w B nv ns :=
 ⟨ownsRow_low h.own (by omega), fun p hp => (h.kids p hp).low hB, h.apart⟩
def PaP (l : Bytes) (w : World) (e : Ending) (w' : World) : Prop :=
 match SynP.parseV l with
 | .error (c, k) => e = .returned (.tuple #[.slice none 0 0, .int .i64 (c : Nat), .int .i64 (k : Nat)]) ∧ Below w.heap.size w w'
 | .ok n => ∃ nv ns, e = .returned (.tuple #[nv, .int .i64 0, .int .i64 0]) ∧ Below w.heap.size w w' ∧ Tr w' w.heap.size nv ns ∧ ns.map Prod.fst = n.flat
theorem Wr.belowR {R : Nat} {w0 w w' : World} (h : Wr R none w w') (hb : Below w0.heap.size w0 w) (hB : w0.heap.size ≤ R) : Below w0.heap.size w0 w' :=
 ⟨h.os.trans hb.os, h.tape.trans hb.tape, h.output.trans hb.output, Nat.le_trans hb.size h.size, fun k hk => (h.block k (Nat.lt_of_lt_of_le hk hb.size) (by omega) (by simp)).trans (hb.block k hk)⟩
end Go.Proofs.YtceggplnggkdnaaGreatDoor
namespace SynP
open LexP
def SegN (l : List NI) (o : Nat) (ns : List Node) : Prop := ∀ j n, ns[j]? = some n → l[o + j]? = some n.toI
theorem SegN.one {l : List NI} {o : Nat} {n : Node} (h : SegN l o [n]) : l[o]? = some n.toI := by simpa using h 0 n rfl
theorem SegN.all (ns : List Node) : SegN (nL ns) 0 ns := fun j n hj => by simp [nL, hj]
def piece (i : Nat) (e : Ex) : Bytes := (if 0 < i then [44, 32] else []) ++ e.pr
theorem foldl_max : ∀ (l : List Nat) (m : Nat), l.foldl max m = max m (l.foldl max 0)
 | [], m => by simp
 | a :: l, m => by
  show l.foldl max (max m a) = max m (l.foldl max (max 0 a))
  rw [foldl_max l (max m a), foldl_max l (max 0 a)]
  omega
end SynP
namespace Go.Proofs.YtceggplnggkdnaaGreatDoor
open Go.RowKit NatP LexP
end Go.Proofs.YtceggplnggkdnaaGreatDoor
namespace Go.Proofs.YtceggplnggkdnaaGreatDoor
open Go.RowKit NatP LexP
theorem wr_frame {g : Nat} {w2 : World} (x y : Value) : Wr g none w2 ((w2.setCell ⟨g, 0, none⟩ x).setCell ⟨g, 1, none⟩ y) :=
 (Wr.of_set w2 0 x).trans (Mv.refl _ _) (Wr.of_set _ 1 y)
set_option maxRecDepth 100000 in
set_option maxHeartbeats 1000000 in
theorem guarded_mat (pp mp : Value) (w : World) (E : Nat → Nat → World → Prop) (Q : World → Prop)
  (hc : Calls Tryz.prog 96 #[pp, mp] (w.alloc (.cells #[.int .i64 0, .int .i64 0] 105)) fun e w' => w'.heap[w.heap.size]? = some (.cells #[.int .i64 0, .int .i64 0] 105 (0, 0)) ∧ ((∃ c k, e = FaultE c k ∧ E c k w') ∨ (e = .returned (.tuple #[]) ∧ Q w'))) :
  Calls Tryz.prog 52 #[.func (.func 96) #[] #[pp, mp]] w fun e w' => ∃ w2, w2.heap[w.heap.size]? = some (.cells #[.int .i64 0, .int .i64 0] 105 (0, 0)) ∧ Wr w.heap.size none w2 w' ∧ ((∃ c k, e = .returned (.agg #[.int .i64 (c : Nat), .int .i64 (k : Nat)]) ∧ E c k w2) ∨ (e = .returned (.agg #[.int .i64 0, .int .i64 0]) ∧ Q w2)) := by
 have hmf : ∀ (fn : Fn) (first cap : Array Value) (w : World), (Instr.makeFunc fn first cap).run Tryz.prog w = .ok (.func fn first cap) w := fun _ _ _ _ => rfl
 have HC := Lib.hid hc
 clear hc
 go_enter_defers Tryz.func52, Tryz.ntmps52
 go_wp2_with fail
 refine HC.out.mono ?_
 rintro e w2 ⟨hb, ⟨c, k, rfl, n1⟩ | ⟨rfl, n1⟩⟩
 ·have HE := Lib.hid n1
  clear n1
  refine leaves_cons (f := 86) (args := #[.pointer (some ⟨w.heap.size, 0, none⟩)]) (by simp) (by simp [go_sem]) ?_
  refine (catch_fault w.heap.size c k _ _ _ hb).mono ?_
  rintro e u' w3 ⟨rfl, rfl, hw3⟩
  have hfin : Wr w.heap.size none w2 w3 := by rw [hw3]; exact (wr_frame _ _).trans (Mv.refl _ _) (Wr.of_below (below_alloc _ _))
  have HBB := Lib.hid hb
  have hlt := (Array.getElem?_eq_some_iff.1 hb).1
  have s1 := heap_setCell_same w2 w.heap.size 0 _ 105 (.int .i64 (c : Nat)) hb
  have s2 := heap_setCell_same (w2.setCell ⟨w.heap.size, 0, none⟩ (.int .i64 (c : Nat))) w.heap.size 1 _ 105 (.int .i64 (k : Nat)) s1
  have s3 : w3.heap[w.heap.size]? = some (.cells #[.int .i64 (c : Nat), .int .i64 (k : Nat)] 105 (0, 0)) := by
   rw [hw3]
   exact ((below_alloc _ _).block w.heap.size (by simpa [World.setCell] using hlt)).trans (s2.trans (by simp))
  have q0 : w3.cell? ⟨w.heap.size, 0, none⟩ = some (.int .i64 (c : Nat)) := by rw [cell_of_row _ _ 0 _ _ _ s3]; rfl
  have q1 : w3.cell? ⟨w.heap.size, 1, none⟩ = some (.int .i64 (k : Nat)) := by rw [cell_of_row _ _ 1 _ _ _ s3]; rfl
  have HF := Lib.hid hfin
  clear s1 s2 s3 hw3 hfin hb
  simp [Leaves, settle, results, Tryz.results52, go_sem, q0, q1]
  exact ⟨w2, HBB.out, HF.out, .inl ⟨c, k, ⟨rfl, rfl⟩, HE.out⟩⟩
 ·have HBB := Lib.hid hb
  have hz0 : w2.frozen? ⟨w.heap.size, 0, none⟩ = false := frozen_of_row _ _ 0 _ _ hb
  have hz1 : w2.frozen? ⟨w.heap.size, 1, none⟩ = false := frozen_of_row _ _ 1 _ _ hb
  have hc0 : w2.cell? ⟨w.heap.size, 0, none⟩ = some (.int .i64 0) := by rw [cell_of_row _ _ 0 _ _ _ hb]; rfl
  have hc1 : w2.cell? ⟨w.heap.size, 1, none⟩ = some (.int .i64 0) := by rw [cell_of_row _ _ 1 _ _ _ hb]; rfl
  have s1 := heap_setCell_same w2 w.heap.size 0 _ 105 (.int .i64 0) hb
  have S2 := Lib.hid (heap_setCell_same (w2.setCell ⟨w.heap.size, 0, none⟩ (.int .i64 0)) w.heap.size 1 _ 105 (.int .i64 0) s1)
  have HE := Lib.hid n1
  clear n1 hb s1
  go_wp2_with fail
  refine leaves_cons (f := 86) (args := #[.pointer (some ⟨w.heap.size, 0, none⟩)]) (by simp) (by simp [go_sem]) ?_
  refine (catch_none w.heap.size _).mono ?_
  rintro e u' w3 ⟨rfl, rfl, hw3⟩
  have HF : Hid (Wr w.heap.size none w2 w3) := by show Wr _ _ _ _; rw [hw3]; exact wr_frame _ _
  have q0 : w3.cell? ⟨w.heap.size, 0, none⟩ = some (.int .i64 0) := by rw [hw3, cell_of_row _ _ 0 _ _ _ S2.out]; rfl
  have q1 : w3.cell? ⟨w.heap.size, 1, none⟩ = some (.int .i64 0) := by rw [hw3, cell_of_row _ _ 1 _ _ _ S2.out]; rfl
  clear hw3
  simp [Leaves, settle, results, Tryz.results52, go_sem, q0, q1]
  exact ⟨w2, HBB.out, HF.out, .inr HE.out⟩
end Go.Proofs.YtceggplnggkdnaaGreatDoor
namespace Go.Proofs.YtceggplnggkdnaaGreatDoor
open Go.RowKit NatP LexP
theorem IRs.stay {w w' : World} {v : Value} {l : List (Bool × Nat)} {q : Nat} (h : IRs w v l) (hq : ∀ o, (∀ b, w.cell? ⟨q, o, none⟩ ≠ some (.bool b)) ∧ ∀ x, w.cell? ⟨q, o, none⟩ ≠ some (.int .u64 x)) (hg : w.grownBy w' (some q)) : IRs w' v l := by
 obtain ⟨ao, cap, e, h1, h2, h3⟩ := h
 refine ⟨ao, cap, e, h1, h2, fun h0 => ?_⟩
 obtain ⟨g, o, rfl, a2, a3⟩ := h3 h0
 have hgq : g ≠ q := by
  intro e
  subst e
  obtain ⟨m, xs, b1, -⟩ := a3 0 l[0] (List.getElem?_eq_getElem h0)
  exact (hq _).1 _ b1
 refine ⟨g, o, rfl, Nat.lt_of_lt_of_le a2 hg.size, fun j p hj => ?_⟩
 obtain ⟨m, xs, b1, b2, b3, b4, b5, b6⟩ := a3 j p hj
 have hc : ∀ i, w'.cell? ⟨g, i, none⟩ = w.cell? ⟨g, i, none⟩ := fun i => World.cell?_of_block (hg.block g a2 (fun e => hgq (by cases e; rfl)))
 refine ⟨m, xs, (hc _).trans b1, (hc _).trans b2, ?_, b4, b5, b6⟩
 obtain ⟨c0, ao, cap, rfl, c1, c2, c3, c4⟩ := b3
 refine ⟨fun k hk => Nat.lt_of_lt_of_le (c0 k hk) hg.size, ao, cap, rfl, c1, c2, c3, fun i x hx => ?_⟩
 obtain ⟨g2, o2, rfl, c5⟩ := c4 i x hx
 refine ⟨g2, o2, rfl, ?_⟩
 have hlt := World.block_lt_of_cell? w _ c5
 have hne : g2 ≠ q := by
  intro e
  subst e
  exact (hq _).2 _ c5
 exact (World.cell?_of_block (hg.block g2 hlt (fun e => hne (by cases e; rfl)))).trans c5
def MatR (fin f : Nat) (s : SynP.St) : SynP.PR SynP.MatV := (SynP.matrix fin f s).bind fun m s => SynP.done fin m s
def RmP (r : SynP.PR SynP.MatV) (R mb : Nat) (w : World) (e : Ending) (w' : World) : Prop :=
 match r with
 | none => False
 | some (.error (c, k)) => e = FaultE c k ∧ Wr R (some mb) w w'
 | some (.ok (m, _)) => e = .returned (.tuple #[]) ∧ Wr R (some mb) w w' ∧ ∃ av, w'.heap[mb]? = some (.cells #[.int .i64 (m.rows : Nat), .int .i64 (m.cols : Nat), av] 54 (0, 0)) ∧ IRs w' av m.at_
set_option maxRecDepth 100000 in
set_option maxHeartbeats 2000000 in
theorem rm_lit (R : Nat) (tv : Value) (L : List Tok) (fin f : Nat) (s : SynP.St) (pb mb : Nat) (w : World) (h : RS w R tv L fin 0 s (.slice none 0 0) []) (hp : w.heap[pb]? = some (.cells #[.pointer (some ⟨R, 0, none⟩)] 101 (0, 0))) (hm : w.heap[mb]? = some (.cells #[.int .i64 0, .int .i64 0, .slice none 0 0] 54 (0, 0))) (hpR : R < pb) (hmR : R < mb) (hpm : pb ≠ mb) (hne : SynP.matrix fin f s ≠ none) :
  Calls Tryz.prog 96 #[.pointer (some ⟨pb, 0, none⟩), .pointer (some ⟨mb, 0, none⟩)] w (RmP (MatR fin f s) R mb w) := by
 have HS := Lib.hid h
 have HNE := Lib.hid hne
 have hpl := (Array.getElem?_eq_some_iff.1 hp).1
 have hml := (Array.getElem?_eq_some_iff.1 hm).1
 have HP := Lib.hid hp
 have HM := Lib.hid hm
 obtain ⟨r, hr⟩ : ∃ r, r = MatR fin f s := ⟨_, rfl⟩
 have HR := Lib.hid hr
 rw [← hr]
 have c0 : w.cell? ⟨pb, 0, none⟩ = some (.pointer (some ⟨R, 0, none⟩)) := by rw [cell_of_row _ _ 0 _ _ _ hp]; rfl
 clear h hne hp hm hr
 go_enter Tryz.func96, Tryz.ntmps96
 go_wp2_with fail
 refine (rd_matrix R tv L fin 0 s _ [] _ HS.out f HNE.out).mono ?_
 rintro e w1 hn
 rcases hN : SynP.matrix fin f s with - | (⟨fc, fk⟩ | ⟨m, s2⟩) <;> rw [hN] at hn
 ·exact hn.elim
 ·obtain ⟨rfl, n1⟩ := hn
  refine ⟨rfl, ?_⟩
  have hre : r = some (.error (fc, fk)) := by rw [HR.out]; unfold MatR; rw [hN]; rfl
  rw [hre]
  exact ⟨rfl, n1.weak _⟩
 obtain ⟨v2, a2, rfl, n1, n2, n3, av, rfl, n4⟩ := hn
 have HR1 : Hid (r = SynP.done fin m s2) := by show _ = _; rw [HR.out]; unfold MatR; rw [hN]; rfl
 have hm1 : w1.heap[mb]? = some (.cells #[.int .i64 0, .int .i64 0, .slice none 0 0] 54 (0, 0)) := (n2.block mb hml (by omega) (by simp)).trans HM.out
 have hp1 : w1.heap[pb]? = some (.cells #[.pointer (some ⟨R, 0, none⟩)] 101 (0, 0)) := (n2.block pb hpl (by omega) (by simp)).trans HP.out
 have hml1 := (Array.getElem?_eq_some_iff.1 hm1).1
 have hpl1 := (Array.getElem?_eq_some_iff.1 hp1).1
 have hnb : ∀ o, (∀ b, w1.cell? ⟨mb, o, none⟩ ≠ some (.bool b)) ∧ ∀ x, w1.cell? ⟨mb, o, none⟩ ≠ some (.int .u64 x) := by
  intro o
  rw [cell_of_row _ _ o _ _ _ hm1]
  match o with
  | 0 => exact ⟨fun b e => by simp at e, fun x e => by simp at e⟩
  | 1 => exact ⟨fun b e => by simp at e, fun x e => by simp at e⟩
  | 2 => exact ⟨fun b e => by simp at e, fun x e => by simp at e⟩
  | o + 3 => exact ⟨fun b e => by simp at e, fun x e => by simp at e⟩
 have N4 := Lib.hid n4
 obtain ⟨ao, cap, rfl, -, -, -⟩ := n4
 have e0 : w1.cell? ⟨pb, 0, none⟩ = some (.pointer (some ⟨R, 0, none⟩)) := by rw [cell_of_row _ _ 0 _ _ _ hp1]; rfl
 have d0 : w1.cell? ⟨mb, 0, none⟩ = some (.int .i64 0) := by rw [cell_of_row _ _ 0 _ _ _ hm1]; rfl
 have d1 : w1.cell? ⟨mb, 1, none⟩ = some (.int .i64 0) := by rw [cell_of_row _ _ 1 _ _ _ hm1]; rfl
 have d2 : w1.cell? ⟨mb, 2, none⟩ = some (.slice none 0 0) := by rw [cell_of_row _ _ 2 _ _ _ hm1]; rfl
 have z0 : w1.frozen? ⟨mb, 0, none⟩ = false := frozen_of_row _ _ 0 _ _ hm1
 have z1 : w1.frozen? ⟨mb, 1, none⟩ = false := frozen_of_row _ _ 1 _ _ hm1
 have z2 : w1.frozen? ⟨mb, 2, none⟩ = false := frozen_of_row _ _ 2 _ _ hm1
 obtain ⟨ln, hln⟩ : ∃ ln, ln = m.at_.length := ⟨_, rfl⟩
 rw [← hln] at N4 ⊢
 have s0 := heap_setCell_same w1 mb 0 _ 54 (.int .i64 (m.rows : Nat)) hm1
 have s1 := heap_setCell_same _ mb 1 _ 54 (.int .i64 (m.cols : Nat)) s0
 have s2' := heap_setCell_same _ mb 2 _ 54 (.slice ao ln cap) s1
 have hgr : w1.grownBy (((w1.setCell ⟨mb, 0, none⟩ (.int .i64 (m.rows : Nat))).setCell ⟨mb, 1, none⟩ (.int .i64 (m.cols : Nat))).setCell ⟨mb, 2, none⟩ (.slice ao ln cap)) (some mb) := by
  refine ⟨rfl, rfl, rfl, by simp [World.setCell], fun k _ hk => ?_⟩
  have hne : k ≠ mb := fun e => hk (by rw [e])
  exact (heap_setCell_other _ ⟨mb, 2, none⟩ k _ hne).trans ((heap_setCell_other _ ⟨mb, 1, none⟩ k _ hne).trans (heap_setCell_other _ ⟨mb, 0, none⟩ k _ hne))
 have HGR := Lib.hid hgr
 have HMB : Hid ((((w1.setCell ⟨mb, 0, none⟩ (.int .i64 (m.rows : Nat))).setCell ⟨mb, 1, none⟩ (.int .i64 (m.cols : Nat))).setCell ⟨mb, 2, none⟩ (.slice ao ln cap)).heap[mb]? = some (.cells #[.int .i64 (m.rows : Nat), .int .i64 (m.cols : Nat), .slice ao ln cap] 54 (0, 0))) := s2'.trans (by simp)
 have HIR : Hid (IRs (((w1.setCell ⟨mb, 0, none⟩ (.int .i64 (m.rows : Nat))).setCell ⟨mb, 1, none⟩ (.int .i64 (m.cols : Nat))).setCell ⟨mb, 2, none⟩ (.slice ao ln cap)) (.slice ao ln cap) m.at_) := N4.out.stay hnb hgr
 have HRS := Lib.hid (n1.growK hgr (fun q hq => by cases hq; exact ⟨hmR, by simp [Value.ownBlock], fun p hp => by cases hp⟩)).1
 have HPB : Hid ((((w1.setCell ⟨mb, 0, none⟩ (.int .i64 (m.rows : Nat))).setCell ⟨mb, 1, none⟩ (.int .i64 (m.cols : Nat))).setCell ⟨mb, 2, none⟩ (.slice ao ln cap)).heap[pb]? = some (.cells #[.pointer (some ⟨R, 0, none⟩)] 101 (0, 0))) := (hgr.block pb hpl1 (by simp; exact hpm)).trans hp1
 have HWR : Hid (Wr R (some mb) w (((w1.setCell ⟨mb, 0, none⟩ (.int .i64 (m.rows : Nat))).setCell ⟨mb, 1, none⟩ (.int .i64 (m.cols : Nat))).setCell ⟨mb, 2, none⟩ (.slice ao ln cap))) := (n2.weak _).trans (Mv.refl _ _) (Wr.of_grown hgr)
 obtain ⟨a5, ha5⟩ : ∃ a5, a5 = a2 := ⟨_, rfl⟩
 clear n1 n2 n3 hN hm1 hp1 hnb s0 s1 s2' hgr hln ha5
 go_wp2_with fail
 obtain ⟨w3, hw3⟩ : ∃ w3, w3 = ((w1.setCell ⟨mb, 0, none⟩ (.int .i64 (m.rows : Nat))).setCell ⟨mb, 1, none⟩ (.int .i64 (m.cols : Nat))).setCell ⟨mb, 2, none⟩ (.slice ao ln cap) := ⟨_, rfl⟩
 rw [← hw3] at HGR HMB HIR HRS HPB HWR ⊢
 clear hw3 d0 d1 d2 z0 z1 z2 e0 c0
 refine (rd_done R tv L fin a2 s2 _ _ _ HRS.out).mono ?_
 rintro e w4 ⟨rfl, b1⟩
 have HRS4 := Lib.hid (HRS.out.below b1)
 have hm4 : w4.heap[mb]? = some (.cells #[.int .i64 (m.rows : Nat), .int .i64 (m.cols : Nat), .slice ao ln cap] 54 (0, 0)) := (b1.block mb ((Array.getElem?_eq_some_iff.1 HMB.out).1)).trans HMB.out
 have HM4 := Lib.hid hm4
 have HI4 := Lib.hid (HIR.out.below b1)
 have HW4 : Hid (Wr R (some mb) w w4) := HWR.out.trans (Mv.refl _ _) (Wr.of_below b1)
 have c4 : w4.cell? ⟨pb, 0, none⟩ = some (.pointer (some ⟨R, 0, none⟩)) := by
  have := (b1.block pb ((Array.getElem?_eq_some_iff.1 HPB.out).1)).trans HPB.out
  rw [cell_of_row _ _ 0 _ _ _ this]; rfl
 clear b1 hm4
 by_cases hts : s2.ts = []
 ·have HR4 : Hid (r = some (.ok (m, s2))) := by show _ = _; rw [HR1.out]; unfold SynP.done; rw [if_pos hts]; rfl
  rw [decide_eq_true hts]
  clear hts
  go_wp2_with fail
  first | go_end0 | refine bodyPost_ret (results_none rfl _ _ _) rfl ?_
  rw [HR4.out]
  exact ⟨rfl, HW4.out, _, HM4.out, HI4.out⟩
 ·have HR4 : Hid (r = SynP.unfit fin s2) := by show _ = _; rw [HR1.out]; unfold SynP.done; rw [if_neg hts]
  rw [decide_eq_false hts]
  clear hts
  go_wp2_with fail
  refine (rd_unfit R tv L fin a2 s2 _ _ _ HRS4.out).mono ?_
  rintro e w5 ⟨rfl, b1⟩
  refine ⟨rfl, ?_⟩
  rw [HR4.out]
  exact ⟨rfl, HW4.out.trans (Mv.refl _ _) ((Wr.of_below (R := R) (og := none) b1).weak _)⟩
end Go.Proofs.YtceggplnggkdnaaGreatDoor
namespace Go.Proofs.YtceggplnggkdnaaGreatDoor
open Go.RowKit NatP LexP
theorem Wr.grown1 {g : Nat} {w w' : World} (h : Wr g none w w') : w.grownBy w' (some g) := ⟨h.os, h.tape, h.output, h.size, fun k hk hne => h.block k hk (fun e => hne (by rw [e])) (by simp)⟩
theorem results_cell_tmp_row {P : Program} {fn : Func} {p u : Tmp} {ty : TypeId} (h : fn.results = #[.cell p ty, .tmp u]) (tmps : Array Value) (w : World) (g : Nat) (t : TypeId) (cs : Array Value) (fr : Nat × Nat) (d : TypeDesc)
  (hp : tmps.getD p undef = .pointer (some ⟨g, 0, none⟩)) (hg : w.heap[g]? = some (.cells cs t fr))
  (hu : P.underlying ty = some d) (hd : (match d with | .struct _ | .array _ _ => true | _ => false) = true) (hi : (P.info? ty).map (·.size) = some cs.size) :
  (results fn tmps).run P w = .ok (.tuple #[.agg cs, tmps.getD u undef]) w := by
 have hp' : tmps[p]?.getD undef = .pointer (some ⟨g, 0, none⟩) := by simpa using hp
 simp [results, h, hp', asAddr, run_loadVar_row w g t ty cs fr d hg hu hd hi]
theorem rmat_set {w : World} {g : Nat} {x y z : Value} (h : w.heap[g]? = some (.cells #[x, y, z] 54 (0, 0))) (x' y' z' : Value) :
  (((w.setCell ⟨g, 0, none⟩ x').setCell ⟨g, 1, none⟩ y').setCell ⟨g, 2, none⟩ z').heap[g]? = some (.cells #[x', y', z'] 54 (0, 0)) ∧ w.grownBy (((w.setCell ⟨g, 0, none⟩ x').setCell ⟨g, 1, none⟩ y').setCell ⟨g, 2, none⟩ z') (some g) := by
 have s0 := heap_setCell_same w g 0 _ 54 x' h
 have s1 := heap_setCell_same _ g 1 _ 54 y' s0
 have s2 := heap_setCell_same _ g 2 _ 54 z' s1
 refine ⟨s2.trans (by simp), rfl, rfl, rfl, by simp [World.setCell], fun k _ hk => ?_⟩
 have hne : k ≠ g := fun e => hk (by rw [e])
 exact (heap_setCell_other _ ⟨g, 2, none⟩ k _ hne).trans ((heap_setCell_other _ ⟨g, 1, none⟩ k _ hne).trans (heap_setCell_other _ ⟨g, 0, none⟩ k _ hne))
theorem rmat_cells {w : World} {g : Nat} {x y z : Value} (h : w.heap[g]? = some (.cells #[x, y, z] 54 (0, 0))) :
  w.cell? ⟨g, 0, none⟩ = some x ∧ w.cell? ⟨g, 1, none⟩ = some y ∧ w.cell? ⟨g, 2, none⟩ = some z ∧ w.frozen? ⟨g, 0, none⟩ = false ∧ w.frozen? ⟨g, 1, none⟩ = false ∧ w.frozen? ⟨g, 2, none⟩ = false := by
 refine ⟨?_, ?_, ?_, frozen_of_row _ _ 0 _ _ h, frozen_of_row _ _ 1 _ _ h, frozen_of_row _ _ 2 _ _ h⟩ <;> rw [cell_of_row _ _ _ _ _ _ h] <;> rfl
theorem below_rmat {w w' w'' : World} {g : Nat} (h : Below w.heap.size w w') (hg : w'.grownBy w'' (some g)) (hb : w.heap.size ≤ g) : Below w.heap.size w w'' :=
 ⟨hg.os.trans h.os, hg.tape.trans h.tape, hg.output.trans h.output, Nat.le_trans h.size hg.size, fun k hk => (hg.block k (Nat.lt_of_lt_of_le hk h.size) (fun e => by cases e; omega)).trans (h.block k hk)⟩
theorem rmat_no {w : World} {g : Nat} {x y : Int} {z : Value} (h : w.heap[g]? = some (.cells #[.int .i64 x, .int .i64 y, z] 54 (0, 0))) (hz : (∀ b, z ≠ .bool b) ∧ ∀ x, z ≠ .int .u64 x) : ∀ o, (∀ b, w.cell? ⟨g, o, none⟩ ≠ some (.bool b)) ∧ ∀ x, w.cell? ⟨g, o, none⟩ ≠ some (.int .u64 x) := by
 intro o
 rw [cell_of_row _ _ o _ _ _ h]
 match o with
 | 0 => exact ⟨fun b e => by simp at e, fun x e => by simp at e⟩
 | 1 => exact ⟨fun b e => by simp at e, fun x e => by simp at e⟩
 | 2 => exact ⟨fun b e => hz.1 b (by simpa using e), fun x e => hz.2 x (by simpa using e)⟩
 | o + 3 => exact ⟨fun b e => by simp at e, fun x e => by simp at e⟩
theorem fault_no {w : World} {g : Nat} {x y : Int} (h : w.heap[g]? = some (.cells #[.int .i64 x, .int .i64 y] 105 (0, 0))) : ∀ o, (∀ b, w.cell? ⟨g, o, none⟩ ≠ some (.bool b)) ∧ ∀ x, w.cell? ⟨g, o, none⟩ ≠ some (.int .u64 x) := by
 intro o
 rw [cell_of_row _ _ o _ _ _ h]
 match o with
 | 0 => exact ⟨fun b e => by simp at e, fun x e => by simp at e⟩
 | 1 => exact ⟨fun b e => by simp at e, fun x e => by simp at e⟩
 | o + 2 => exact ⟨fun b e => by simp at e, fun x e => by simp at e⟩
def RmPost (t : Bytes) (w : World) (e : Ending) (w' : World) : Prop :=
 match SynP.readM t with
 | .error k => e = .returned (.tuple #[.agg #[.int .i64 0, .int .i64 0, .slice none 0 0], .int .i64 (k : Nat)]) ∧ Below w.heap.size w w'
 | .ok m => ∃ av, e = .returned (.tuple #[.agg #[.int .i64 (m.rows : Nat), .int .i64 (m.cols : Nat), av], .int .i64 0]) ∧ Below w.heap.size w w' ∧ IRs w' av m.at_
set_option maxRecDepth 100000 in
set_option maxHeartbeats 4000000 in
theorem readMat_any (t : Bytes) (w : World) (ht : t.length ≤ 67108864) (hx : Lx w) (hs : SG w) (hsz : 6 < w.heap.size) :
  Calls Tryz.prog 57 #[.string ⟨t.toArray⟩] w (RmPost t w) := by
 have hmf : ∀ (fn : Fn) (first cap : Array Value) (w : World), (Instr.makeFunc fn first cap).run Tryz.prog w = .ok (.func fn first cap) w := fun _ _ _ _ => rfl
 obtain ⟨T, hT⟩ : ∃ T : ByteArray, T = ⟨t.toArray⟩ := ⟨_, rfl⟩
 have hTl : T.data.toList = t := by rw [hT]
 have HF : Hid (Fits T.data.toList) := by show Fits _; rw [hTl]; exact ht
 have HTL := Lib.hid hTl
 rw [← hT]
 have HA0 := Lib.hid (below_alloc w (.cells #[.int .i64 0, .int .i64 0, .slice none 0 0] 54))
 have HB0 := Lib.hid (heap_alloc_new w (.cells #[.int .i64 0, .int .i64 0, .slice none 0 0] 54))
 have HX := Lib.hid (hx.below HA0.out)
 have HSG := Lib.hid (hs.below HA0.out hsz)
 have hsz1 : 6 < (w.alloc (.cells #[.int .i64 0, .int .i64 0, .slice none 0 0] 54)).heap.size := by simp; omega
 clear hx hs hT hTl ht
 go_enter Tryz.func57, Tryz.ntmps57
 go_wp2_with fail
 refine (start_any T _ HF.out HX.out HSG.out hsz1).mono ?_
 rintro e w1 hn
 unfold StP at hn
 rw [HTL.out] at hn
 cases hK : Toks 1 (chars t) with
 | error p =>
  obtain ⟨c, k⟩ := p
  rw [hK] at hn
  obtain ⟨rfl, hb⟩ := hn
  have hk0 := (Toks_err _ _ _ hK).1
  have HV : Hid (SynP.readM t = .error 7) := by show _ = _; unfold SynP.readM; rw [hK]
  simp only at hk0
  have hkk : ((k : Int) != 0) = true := by simp; omega
  have hb1 : Below w.heap.size w w1 := below_next HA0.out hb
  have hg1 : w1.heap[w.heap.size]? = some (.cells #[.int .i64 0, .int .i64 0, .slice none 0 0] 54 (0, 0)) := (hb.block _ (by simp)).trans HB0.out
  have hgl : w.heap.size < w1.heap.size := (Array.getElem?_eq_some_iff.1 hg1).1
  obtain ⟨c0, c1, c2, z0, z1, z2⟩ := rmat_cells hg1
  obtain ⟨k1, k2⟩ := rmat_set hg1 (.int .i64 0) (.int .i64 0) (.slice none 0 0)
  have k3 := below_rmat hb1 k2 (Nat.le_refl _)
  have K1 := Lib.hid (fun b : Obj => ((below_alloc (((w1.setCell ⟨w.heap.size, 0, none⟩ (.int .i64 0)).setCell ⟨w.heap.size, 1, none⟩ (.int .i64 0)).setCell ⟨w.heap.size, 2, none⟩ (.slice none 0 0)) b).block w.heap.size (Nat.lt_of_lt_of_le hgl k2.size)).trans k1)
  have K2 := Lib.hid (fun b : Obj => below_next k3 (below_alloc (((w1.setCell ⟨w.heap.size, 0, none⟩ (.int .i64 0)).setCell ⟨w.heap.size, 1, none⟩ (.int .i64 0)).setCell ⟨w.heap.size, 2, none⟩ (.slice none 0 0)) b))
  clear hb hb1 hg1 k1 k2 k3 hK hk0
  go_wp2_with fail
  refine bodyPost_ret (results_cell_tmp_row rfl _ _ w.heap.size 54 _ _ _ rfl (K1.out _) Tryz.underlying54 rfl (by kernel_rfl)) rfl ?_
  unfold RmPost
  rw [HV.out]
  exact ⟨rfl, K2.out _⟩
 | ok ts =>
  rw [hK] at hn
  obtain ⟨R, tv, rfl, hR, hb, h⟩ := hn
  obtain ⟨fin, hfin⟩ : ∃ fin, fin = (chars t).length + 1 := ⟨_, rfl⟩
  rw [← hfin] at h
  have hgood := SynP.good_matrix fin (ts.length + 3) (s := ⟨ts, 0⟩) (Nat.le_refl _) (Nat.le_refl _)
  have hne : SynP.matrix fin (ts.length + 3) ⟨ts, 0⟩ ≠ none := by
   intro e
   simp only [e] at hgood
   exact hgood.elim
  have hgr : SynP.Good ts.length (MatR fin (ts.length + 3) ⟨ts, 0⟩) := SynP.Good.bind hgood (fun a s hl => by
   unfold SynP.done
   split
   ·exact SynP.good_ret a (by simp at hl; omega)
   ·exact SynP.good_unfit _ _ _)
  have HRE : Hid (SynP.readM t = match MatR fin (ts.length + 3) ⟨ts, 0⟩ with | none => .error 0 | some (.error (_, k)) => .error (if k = 2 ∨ k = 5 then k else 7) | some (.ok (m, _)) => .ok m) := by
   show _ = _
   unfold SynP.readM
   rw [hK, hfin]
   rfl
  have HGOOD := Lib.hid hgr
  have HNE := Lib.hid hne
  have hb1 : Below w.heap.size w w1 := below_next HA0.out hb
  have hg1 : w1.heap[w.heap.size]? = some (.cells #[.int .i64 0, .int .i64 0, .slice none 0 0] 54 (0, 0)) := (hb.block _ (by simp)).trans HB0.out
  have hRw : w.heap.size < R := by simp at hR; omega
  have hRl := h.lt
  obtain ⟨w2, hw2⟩ : ∃ w2, w2 = (w1.alloc (.cells #[.pointer (some ⟨R, 0, none⟩)] 101)).alloc (.cells #[.int .i64 0, .int .i64 0, .slice none 0 0] 54) := ⟨_, rfl⟩
  have hb2 : Below w1.heap.size w1 w2 := by rw [hw2]; exact below_next (below_alloc _ _) (below_alloc _ _)
  have hp2 : w2.heap[w1.heap.size]? = some (.cells #[.pointer (some ⟨R, 0, none⟩)] 101 (0, 0)) := by
   rw [hw2]
   exact ((below_alloc _ _).block _ (by simp)).trans (heap_alloc_new w1 _)
  have hm2 : w2.heap[w1.heap.size + 1]? = some (.cells #[.int .i64 0, .int .i64 0, .slice none 0 0] 54 (0, 0)) := by
   rw [hw2]
   have := heap_alloc_new (w1.alloc (.cells #[.pointer (some ⟨R, 0, none⟩)] 101)) (.cells #[.int .i64 0, .int .i64 0, .slice none 0 0] 54)
   rw [show (w1.alloc (.cells #[.pointer (some ⟨R, 0, none⟩)] 101)).heap.size = w1.heap.size + 1 by simp] at this
   exact this
  have hsz2 : w2.heap.size = w1.heap.size + 2 := by rw [hw2]; simp
  obtain ⟨G, hG⟩ : ∃ G, G = w1.heap.size := ⟨_, rfl⟩
  rw [← hG] at hp2 hm2 hsz2 hRl
  have hWa := below_alloc w2 (.cells #[.int .i64 0, .int .i64 0] 105)
  have hWn := heap_alloc_new w2 (.cells #[.int .i64 0, .int .i64 0] 105)
  have HGU := Lib.hid (guarded_mat (.pointer (some ⟨G, 0, none⟩)) (.pointer (some ⟨G + 1, 0, none⟩)) w2
   (fun c k w' => MatR fin (ts.length + 3) ⟨ts, 0⟩ = some (.error (c, k)) ∧ Wr R (some (G + 1)) w2 w')
   (fun w' => ∃ m s', MatR fin (ts.length + 3) ⟨ts, 0⟩ = some (.ok (m, s')) ∧ Wr R (some (G + 1)) w2 w' ∧ ∃ av, w'.heap[G + 1]? = some (.cells #[.int .i64 (m.rows : Nat), .int .i64 (m.cols : Nat), av] 54 (0, 0)) ∧ IRs w' av m.at_)
   ((rm_lit R tv ts fin (ts.length + 3) ⟨ts, 0⟩ G (G + 1) _ ((h.below hb2).below hWa) ((hWa.block G (by omega)).trans hp2) ((hWa.block (G + 1) (by omega)).trans hm2) (by omega) (by omega) (by omega) hne).mono fun e w' hq => by
      unfold RmP at hq
      have fr : ∀ w', Wr R (some (G + 1)) (w2.alloc (.cells #[.int .i64 0, .int .i64 0] 105)) w' → w'.heap[w2.heap.size]? = some (.cells #[.int .i64 0, .int .i64 0] 105 (0, 0)) ∧ Wr R (some (G + 1)) w2 w' := fun w' hw =>
       ⟨(hw.block _ (by simp) (by omega) (by simp; omega)).trans hWn, (Wr.of_below hWa).trans (Mv.refl _ _) hw⟩
      rcases hL : MatR fin (ts.length + 3) ⟨ts, 0⟩ with - | (⟨c, k⟩ | ⟨m, s'⟩) <;> rw [hL] at hq
      ·exact hq.elim
      ·exact ⟨(fr w' hq.2).1, .inl ⟨c, k, hq.1, rfl, (fr w' hq.2).2⟩⟩
      ·exact ⟨(fr w' hq.2.1).1, .inr ⟨hq.1, m, s', rfl, (fr w' hq.2.1).2, hq.2.2⟩⟩))
  have hb3 := below_next hb1 (hb2.mono (by omega))
  have HBW := Lib.hid (below_next hb1 hb2)
  have hg2 : w2.heap[w.heap.size]? = some (.cells #[.int .i64 0, .int .i64 0, .slice none 0 0] 54 (0, 0)) := (hb2.block _ (by omega)).trans hg1
  have HG2 := Lib.hid hg2
  clear h hb hb1 hg1 hb2 hp2 hm2 hgood hne hgr hWa hWn hb3 hg2 hK hfin
  go_wp2_with fail
  rw [← hw2, ← hG]
  clear hw2 hG
  refine HGU.out.mono ?_
  rintro e w4 ⟨w3, hg3, hw34, ⟨c, k, rfl, hL, hw23⟩ | ⟨rfl, m, s', hL, hw23, av, hm3, hi3⟩⟩
  ·have hk0 : 0 < k := by
    have := HGOOD.out
    rw [hL] at this
    exact this
   have HV : Hid (SynP.readM t = .error (if k = 2 ∨ k = 5 then k else 7)) := by show _ = _; rw [HRE.out, hL]
   have hB4 : Below (w.heap.size + 1) w2 w4 := hw34.to_below (hw23.to_below (Below.refl _ _) (by omega) (by omega) (fun q hq => by cases hq; omega)) (by have := hw23.size; omega) (by omega) (fun q hq => by cases hq)
   have hke0 : ((k : Int) == 0) = false := by simp; omega
   have hlt4 : w.heap.size < w4.heap.size := by have := hB4.size; omega
   have hg4 := (hB4.block w.heap.size (by omega)).trans HG2.out
   have hw4 : Below w.heap.size w w4 := HBW.out.trans (hB4.mono (by omega))
   obtain ⟨y0, y1, y2, x0, x1, x2⟩ := rmat_cells hg4
   obtain ⟨j1, j2⟩ := rmat_set hg4 (.int .i64 0) (.int .i64 0) (.slice none 0 0)
   have j3 := below_rmat hw4 j2 (Nat.le_refl _)
   have J1 := Lib.hid (fun b : Obj => ((below_alloc (((w4.setCell ⟨w.heap.size, 0, none⟩ (.int .i64 0)).setCell ⟨w.heap.size, 1, none⟩ (.int .i64 0)).setCell ⟨w.heap.size, 2, none⟩ (.slice none 0 0)) b).block w.heap.size (Nat.lt_of_lt_of_le hlt4 j2.size)).trans j1)
   have J2 := Lib.hid (fun b : Obj => below_next j3 (below_alloc (((w4.setCell ⟨w.heap.size, 0, none⟩ (.int .i64 0)).setCell ⟨w.heap.size, 1, none⟩ (.int .i64 0)).setCell ⟨w.heap.size, 2, none⟩ (.slice none 0 0)) b))
   clear hg3 hw34 hL hw23 hB4 hg4 hw4 j1 j2 j3
   by_cases h2 : k = 2
   ·subst h2
    have HV2 : Hid (SynP.readM t = .error 2) := by show _ = _; rw [HV.out, if_pos (.inl rfl)]
    go_wp2_with fail
    go_region
    all_goals
     go_wp2_with fail
     refine bodyPost_ret (results_cell_tmp_row rfl _ _ w.heap.size 54 _ _ _ rfl (J1.out _) Tryz.underlying54 rfl (by kernel_rfl)) rfl ?_
     unfold RmPost
     rw [HV2.out]
     exact ⟨rfl, (J2.out _).drew⟩
   ·by_cases h5 : k = 5
    ·subst h5
     have HV2 : Hid (SynP.readM t = .error 5) := by show _ = _; rw [HV.out, if_pos (.inr rfl)]
     go_wp2_with fail
     go_region
     all_goals
      go_wp2_with fail
      refine bodyPost_ret (results_cell_tmp_row rfl _ _ w.heap.size 54 _ _ _ rfl (J1.out _) Tryz.underlying54 rfl (by kernel_rfl)) rfl ?_
      unfold RmPost
      rw [HV2.out]
      exact ⟨rfl, (J2.out _).drew⟩
    ·have e2 : ((k : Int) == 2) = false := by simp; omega
     have e5 : ((k : Int) == 5) = false := by simp; omega
     have HV2 : Hid (SynP.readM t = .error 7) := by show _ = _; rw [HV.out, if_neg (by omega)]
     go_wp2_with fail
     refine bodyPost_ret (results_cell_tmp_row rfl _ _ w.heap.size 54 _ _ _ rfl (J1.out _) Tryz.underlying54 rfl (by kernel_rfl)) rfl ?_
     unfold RmPost
     rw [HV2.out]
     exact ⟨rfl, J2.out _⟩
  ·have HV : Hid (SynP.readM t = .ok m) := by show _ = _; rw [HRE.out, hL]
   have hB4 : Below (w.heap.size + 1) w2 w4 := hw34.to_below (hw23.to_below (Below.refl _ _) (by omega) (by omega) (fun q hq => by cases hq; omega)) (by have := hw23.size; omega) (by omega) (fun q hq => by cases hq)
   have ha := below_alloc w4 (.cells #[.int .i64 0, .int .i64 0] 105)
   have hlt4 : w.heap.size < w4.heap.size := by have := hB4.size; omega
   have hg4 := (hB4.block w.heap.size (by omega)).trans HG2.out
   have hw4 : Below w.heap.size w w4 := HBW.out.trans (hB4.mono (by omega))
   have hi4 := hi3.stay (fault_no hg3) hw34.grown1
   have hm4 : w4.heap[G + 1]? = some (.cells #[.int .i64 (m.rows : Nat), .int .i64 (m.cols : Nat), av] 54 (0, 0)) := (hw34.block (G + 1) ((Array.getElem?_eq_some_iff.1 hm3).1) (by omega) (by simp)).trans hm3
   have hG4 : G + 1 < w4.heap.size := (Array.getElem?_eq_some_iff.1 hm4).1
   obtain ⟨ao, cap, rfl, -, -, -⟩ := hi3
   obtain ⟨ln, hln⟩ : ∃ ln, ln = m.at_.length := ⟨_, rfl⟩
   rw [← hln] at hi4 hm4
   obtain ⟨c0, c1, c2, z0, z1, z2⟩ := rmat_cells hg4
   obtain ⟨d0, d1, d2, -, -, -⟩ := rmat_cells hm4
   obtain ⟨j1, j2⟩ := rmat_set hg4 (.int .i64 (m.rows : Nat)) (.int .i64 (m.cols : Nat)) (.slice ao ln cap)
   have j3 := below_rmat hw4 j2 (Nat.le_refl _)
   have J1 := Lib.hid (fun b : Obj => ((below_alloc (((w4.setCell ⟨w.heap.size, 0, none⟩ (.int .i64 (m.rows : Nat))).setCell ⟨w.heap.size, 1, none⟩ (.int .i64 (m.cols : Nat))).setCell ⟨w.heap.size, 2, none⟩ (.slice ao ln cap)) b).block w.heap.size (Nat.lt_of_lt_of_le hlt4 j2.size)).trans j1)
   have J2 := Lib.hid (fun b : Obj => below_next j3 (below_alloc (((w4.setCell ⟨w.heap.size, 0, none⟩ (.int .i64 (m.rows : Nat))).setCell ⟨w.heap.size, 1, none⟩ (.int .i64 (m.cols : Nat))).setCell ⟨w.heap.size, 2, none⟩ (.slice ao ln cap)) b))
   have J3 := Lib.hid (fun b : Obj => (hi4.stay (rmat_no (z := .slice none 0 0) hg4 ⟨(fun b e => by cases e), (fun x e => by cases e)⟩) j2).below (below_alloc _ b))
   clear hg3 hw34 hL hw23 hB4 hg4 hw4 j1 j2 j3 hi4 hm3 hm4 hln ha
   go_wp2_with fail
   refine bodyPost_ret (results_cell_tmp_row rfl _ _ w.heap.size 54 _ _ _ rfl (J1.out _) Tryz.underlying54 rfl (by kernel_rfl)) rfl ?_
   unfold RmPost
   rw [HV.out]
   exact ⟨.slice ao ln cap, rfl, J2.out _, J3.out _⟩
end Go.Proofs.YtceggplnggkdnaaGreatDoor
