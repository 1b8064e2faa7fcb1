/- Joined texts of this claim's proof: RdC, RdD, RdE, RdF, RdG, EvR, EvC. -/
import Derived.Test.YtceggplnggkdnaaGreatDoorPk13
import Derived.Test.YtceggplnggkdnaaGreatDoorPk2
import Derived.Test.YtceggplnggkdnaaGreatDoorPk3
import Derived.Test.YtceggplnggkdnaaGreatDoorPk6
import Derived.Test.YtceggplnggkdnaaGreatDoorPk11
import Derived.Lib.MinMax
set_option linter.unusedSimpArgs false
set_option linter.unusedVariables false
namespace Go.Proofs.YtceggplnggkdnaaGreatDoor
open Go.RowKit NatP LexP
set_option maxRecDepth 100000 in
theorem rd_bracket (R : Nat) (lv : Value) (L : List Tok) (fin a : Nat) (s : SynP.St) (nv : Value) (ns : List Nv) (w : World) (h : RS w R lv L fin a s nv ns) (h0 : s.ts ≠ []) :
  Calls Tryz.prog 562 #[.pointer (some ⟨R, 0, none⟩)] w (RB (SynP.openB fin s) R lv L fin s nv ns (fun _ v _ => v = .tuple #[]) w) := by
 have H := Lib.hid h
 have c3 := h.cells.2.2.2.1
 have f3 := h.fro 3
 have hsh := h.short
 have hle := h.le
 have hdp := h.deep
 obtain ⟨op, hop⟩ : ∃ op, op = s.opened := ⟨_, rfl⟩
 rw [← hop] at c3 hdp
 have e1 : (((op + 1 : Nat)) : Int) = (op : Int) + 1 := by omega
 have HOP := Lib.hid hop
 by_cases hlt : 100 < op + 1
 ·have hset := heap_setCell_same w R 3 #[lv, .int .i64 (a : Nat), .int .i64 (fin : Nat), .int .i64 (s.opened : Nat), nv] 109 (.int .i64 ((op : Int) + 1)) h.blk
  have hw : Wr R none w (w.setCell ⟨R, 3, none⟩ (.int .i64 ((op : Int) + 1))) := Wr.of_set w 3 _
  have hcl : ∀ (o : Nat) (u : Value), (#[lv, .int .i64 (a : Nat), .int .i64 (fin : Nat), .int .i64 ((op : Int) + 1), nv] : Array Value)[o]? = some u → (w.setCell ⟨R, 3, none⟩ (.int .i64 ((op : Int) + 1))).cell? ⟨R, o, none⟩ = some u := by
   intro o u hu
   rw [cell_of_row _ _ _ _ _ _ hset]
   simpa using hu
  have HC0 := Lib.hid (hcl 0 _ rfl)
  have HC1 := Lib.hid (hcl 1 _ rfl)
  have HC2 := Lib.hid (hcl 2 _ rfl)
  have hc3 := hcl 3 _ rfl
  have HT := Lib.hid (h.tks.wr hw h.lt (fun q hq => by cases hq))
  have HD := Lib.hid h.drop
  have HW := Lib.hid hw
  have hb : (100 : Int) < (op : Int) + 1 := by omega
  clear h hset hw hcl hop e1
  go_enter Tryz.func562, Tryz.ntmps562
  go_wp2_with fail
  refine (col_raw R lv L fin a _ _ HC0.out HC1.out HC2.out HT.out HD.out hle).mono ?_
  rintro e w1 ⟨rfl, b1⟩
  have HB1 := Lib.hid b1
  clear b1
  go_wp2_with fail
  refine ⟨rfl, ?_⟩
  unfold SynP.openB
  rw [if_pos (by rw [← HOP.out]; exact hlt)]
  exact ⟨rfl, HW.out.trans (Mv.refl _ _) (Wr.of_below HB1.out)⟩
 ·have hb : ¬ ((100 : Int) < (op : Int) + 1) := by omega
  obtain ⟨g1, g2⟩ := h.setN 3 (.int .i64 ((s.opened + 1 : Nat) : Int)) a { s with opened := s.opened + 1 } (by simp) h.drop h.le h.few (by show s.opened + 1 ≤ _; omega)
  obtain ⟨g3, g4⟩ := g1.adv (s := { s with opened := s.opened + 1 }) h0
  have hc1 := g1.cells.2.1
  have hf1 := g1.fro 1
  rw [← hop, e1] at g1 g2 g3 g4 hc1 hf1
  have G1 := Lib.hid g1
  have G2 := Lib.hid g2
  have G3 := Lib.hid g3
  have G4 := Lib.hid g4
  clear h h0 g1 g2 g3 g4 hop e1
  go_enter Tryz.func562, Tryz.ntmps562
  go_wp2_with fail
  go_end0
  unfold SynP.openB
  rw [if_neg (by rw [← HOP.out]; exact hlt), ← HOP.out]
  exact ⟨_, _, rfl, G3.out, G2.out.trans (Mv.refl _ _) G4.out, tail_le s, rfl⟩
set_option maxRecDepth 100000 in
theorem rd_closing (R : Nat) (lv : Value) (L : List Tok) (fin a : Nat) (s : SynP.St) (nv : Value) (ns : List Nv) (w : World) (h : RS w R lv L fin a s nv ns) (ho : 0 < s.opened) :
  Calls Tryz.prog 563 #[.pointer (some ⟨R, 0, none⟩)] w (RB (SynP.closeB fin s) R lv L fin s nv ns (fun _ v _ => v = .tuple #[]) w) := by
 have H := Lib.hid h
 clear h
 cases hm : SynP.isMark [41] s.ts with
 | false =>
  have hw : SynP.want fin [41] s = SynP.unfit fin s := by unfold SynP.want; rw [if_neg (by rw [hm]; decide)]
  have HW := Lib.hid hw
  clear hm hw
  go_enter Tryz.func563, Tryz.ntmps563
  go_wp2_with fail
  refine (rd_want R lv L fin a s nv ns _ H.out [41]).mono ?_
  rintro e w1 hw1
  rw [HW.out] at hw1
  obtain ⟨rfl, b1⟩ := hw1
  refine ⟨rfl, ?_⟩
  unfold SynP.closeB
  rw [HW.out]
  exact ⟨rfl, b1⟩
 | true =>
  have hw : SynP.want fin [41] s = SynP.ret () s.adv := by unfold SynP.want; rw [if_pos hm]
  have HW := Lib.hid hw
  clear hm hw
  go_enter Tryz.func563, Tryz.ntmps563
  go_wp2_with fail
  refine (rd_want R lv L fin a s nv ns _ H.out [41]).mono ?_
  rintro e w1 hw1
  rw [HW.out] at hw1
  obtain ⟨v, a', rfl, b1, b2, b3, rfl⟩ := hw1
  have c3 := b1.cells.2.2.2.1
  have f3 := b1.fro 3
  obtain ⟨op, hop⟩ : ∃ op, s.opened = op + 1 := ⟨s.opened - 1, by omega⟩
  have e1 : s.adv.opened = op + 1 := hop
  obtain ⟨g1, g2⟩ := b1.setN 3 (.int .i64 (op : Int)) a' { s.adv with opened := op } (by simp) b1.drop b1.le b1.few (by have := b1.deep; show op ≤ _; omega)
  rw [e1] at c3
  have e2 : ((op + 1 : Nat) : Int) = (op : Int) + 1 := by omega
  rw [e2] at c3
  have hd : op ≤ 100 := by have := b1.deep; omega
  have G1 := Lib.hid g1
  have G2 := Lib.hid g2
  have B2 := Lib.hid b2
  have HOP := Lib.hid hop
  clear b1 b2 b3 hop e1 g1 g2 e2 ho
  go_wp2_with fail
  go_end0
  unfold SynP.closeB
  rw [HW.out]
  refine ⟨_, a', rfl, ?_, B2.out.trans (Mv.refl _ _) G2.out, tail_le s, rfl⟩
  have e3 : s.adv.opened - 1 = op := by show s.opened - 1 = op; rw [HOP.out]; omega
  rw [e3]
  exact G1.out
end Go.Proofs.YtceggplnggkdnaaGreatDoor
namespace Go.Proofs.YtceggplnggkdnaaGreatDoor
open Go.RowKit NatP LexP
set_option maxRecDepth 100000 in
set_option maxHeartbeats 1000000 in
theorem side_any (v : Value) (n : Nat) (w : World) (h : NRd w v n) :
  Calls Tryz.prog 185 #[v] w fun e w' => e = .returned (.int .i64 (SynP.side n : Nat)) ∧ Below w.heap.size w w' := by
 obtain ⟨xs, hr, hv, hl⟩ := h
 have HR := Lib.hid hr
 obtain ⟨ao, cap, rfl, hnc, hcm, hok, hsh⟩ := hr.2
 have HB0 := Lib.hid (below_alloc w (.cells #[.int .u64 64] 215))
 have hblk : Blk (w.alloc (.cells #[.int .u64 64] 215)) w.heap.size [64] := ⟨heap_alloc_new w _, by intro x hx; simp at hx; subst hx; unfold BB; omega⟩
 have HR64 := Lib.hid (hblk.whole (by simp))
 have HV := Lib.hid hv
 have h64 : NatP.val [64] = 64 := by simp [NatP.val]
 obtain ⟨ci, hci⟩ : ∃ ci, ci = cmpI (NatP.val xs) (NatP.val [64]) := ⟨_, rfl⟩
 have HCI := Lib.hid hci
 by_cases hlt : 64 < n
 ·have hcb : (0 : Int) < ci := by
   rw [hci, h64, hv]
   unfold cmpI
   rw [if_neg (by omega), if_pos (by omega)]; decide
  have HS : Hid (SynP.side n = 65) := by show _ = _; unfold SynP.side; rw [if_pos hlt]
  clear hr hv hok hsh hblk h64 hci hlt
  go_enter Tryz.func185, Tryz.ntmps185
  go_wp2_with fail
  refine (cmp_any _ _ xs [64] _ (HR.out.below HB0.out) HR64.out).mono ?_
  rintro e w1 ⟨rfl, b1⟩
  rw [← HCI.out]
  have HB1 := Lib.hid (HB0.out.trans (b1.mono (by simp)))
  clear b1
  go_wp2_with fail
  go_ret
  exact ⟨by rw [HS.out]; rfl, HB1.out⟩
 ·have hcb : ¬ ((0 : Int) < ci) := by
   rw [hci, h64, hv]
   unfold cmpI
   split
   ·decide
   ·first | decide | (rw [if_neg (by omega)]; decide)
  have HS : Hid (SynP.side n = n) := by show _ = _; unfold SynP.side; rw [if_neg hlt]
  by_cases hx0 : xs.length = 0
  ·have hx : xs = [] := List.eq_nil_of_length_eq_zero hx0
   subst hx
   have hn0 : n = 0 := by rw [← hv]; rfl
   subst hn0
   clear hr hv hok hsh hblk h64 hci hlt
   go_enter Tryz.func185, Tryz.ntmps185
   go_wp2_with fail
   refine (cmp_any _ _ [] [64] _ (HR.out.below HB0.out) HR64.out).mono ?_
   rintro e w1 ⟨rfl, b1⟩
   rw [← HCI.out]
   have HB1 := Lib.hid (HB0.out.trans (b1.mono (by simp)))
   clear b1
   go_wp2_with fail
   go_ret
   exact ⟨by rw [HS.out]; rfl, HB1.out⟩
  ·obtain ⟨x, ys, rfl⟩ : ∃ x ys, xs = x :: ys := by
    cases xs with
    | nil => exact absurd rfl hx0
    | cons x ys => exact ⟨x, ys, rfl⟩
   have hxn : x = n := by
    have e : NatP.val (x :: ys) = x + BB * NatP.val ys := rfl
    rw [hv] at e
    by_cases hy : NatP.val ys = 0
    ·rw [hy] at e; omega
    ·have : BB * 1 ≤ BB * NatP.val ys := Nat.mul_le_mul (Nat.le_refl _) (by omega)
     have hbb : 64 < BB := by unfold BB; omega
     omega
   subst hxn
   obtain ⟨g, o, rfl, c0⟩ := hsh 0 x rfl
   rw [Nat.add_zero] at c0
   have hgl : g < w.heap.size := hr.lt rfl
   have HC0 := Lib.hid c0
   have hb0 : ((((x :: ys).length : Nat) : Int) == 0) = false := by simp; omega
   have hpos : (0 : Int) < (((x :: ys).length : Nat) : Int) := by simp
   obtain ⟨ll, hll⟩ : ∃ ll, ll = (x :: ys).length := ⟨_, rfl⟩
   rw [← hll] at hb0 hpos HR ⊢
   have HLL := Lib.hid hll
   clear hr hv hok hsh hblk h64 hci c0 hll hx0
   go_enter Tryz.func185, Tryz.ntmps185
   go_wp2_with fail
   have hrd := HR.out.below HB0.out
   refine (cmp_any _ _ (x :: ys) [64] _ hrd HR64.out).mono ?_
   rintro e w1 ⟨rfl, b1⟩
   rw [← HCI.out]
   have HB1 := Lib.hid (HB0.out.trans (b1.mono (by simp)))
   have d0 : w1.cell? ⟨g, o, none⟩ = some (.int .u64 (x : Nat)) := (HB1.out.cell (p := ⟨g, o, none⟩) hgl).trans HC0.out
   have hw : IntKind.i64.wrap (x : Int) = (x : Int) := IntWalk.i64_in _ (by omega)
   clear b1 hrd
   go_wp2_with fail
   go_ret
   exact ⟨by rw [HS.out]; rfl, HB1.out⟩
end Go.Proofs.YtceggplnggkdnaaGreatDoor
namespace Go.Proofs.YtceggplnggkdnaaGreatDoor
open Go.RowKit NatP LexP
def leftOf (L : List Tok) (R : Nat) (w : World) : Nat := L.length - (intOf ((w.cell? ⟨R, 1, none⟩).getD (.bool false))).toNat
theorem RS.left {w : World} {R : Nat} {lv : Value} {L : List Tok} {fin a : Nat} {s : SynP.St} {nv : Value} {ns : List Nv} (h : RS w R lv L fin a s nv ns) : leftOf L R w = s.ts.length := by
 unfold leftOf
 rw [h.cells.2.1, ← h.drop, List.length_drop]
 simp [intOf]
theorem Wr.grown0 {R : Nat} {w0 w w' : World} {row : Option Nat} (h : Wr R none w0 w) (hg : w.grownBy w' row) (hr : ∀ q, row = some q → w0.heap.size ≤ q) : Wr R none w0 w' :=
 ⟨hg.os.trans h.os, hg.tape.trans h.tape, hg.output.trans h.output, Nat.le_trans h.size hg.size, fun k hk hR ho => (hg.block k (Nat.lt_of_lt_of_le hk h.size) (fun e => by have := hr k e.symm; omega)).trans (h.block k hk hR ho)⟩
theorem RS.loc {w0 w w' : World} {R : Nat} {lv : Value} {L : List Tok} {fin a0 a : Nat} {s0 s : SynP.St} {nv : Value} {ns : List Nv} {row : Option Nat} (h0 : RS w0 R lv L fin a0 s0 nv ns) (h : RS w R lv L fin a s nv ns) (hw : Wr R none w0 w) (hg : w.grownBy w' row) (hr : ∀ q, row = some q → w0.heap.size ≤ q) :
  RS w' R lv L fin a s nv ns ∧ Wr R none w0 w' := by
 have h1 := hw.grown0 hg hr
 refine ⟨h0.reset h1 ((hg.block R h.lt (fun e => by have := hr R e.symm; have := h0.lt; omega)).trans h.blk) h.drop h.le h.few h.deep, h1⟩
theorem RS.step {w0 w w' : World} {R : Nat} (h : Wr R none w0 w) (k : Wr R none w w') : Wr R none w0 w' := h.trans (og' := none) (Mv.refl _ _) k
def icells (l : List (Bool × Value)) : List Value := l.flatMap fun p => [.bool p.1, p.2]
theorem icells_app (a b : List (Bool × Value)) : icells (a ++ b) = icells a ++ icells b := by simp [icells]
theorem icells_at : ∀ (l : List (Bool × Value)) (j : Nat) (p : Bool × Value), l[j]? = some p → (icells l)[j * 2]? = some (.bool p.1) ∧ (icells l)[j * 2 + 1]? = some p.2
 | a :: l, 0, p, h => by
  simp at h; subst h; exact ⟨rfl, rfl⟩
 | a :: l, j + 1, p, h => by
  have := icells_at l j p (by simpa using h)
  have e1 : (j + 1) * 2 = j * 2 + 2 := by omega
  rw [e1]
  exact this
def ints (l : List Nat) : List Value := l.map fun n => .int .i64 (n : Nat)
structure En (w : World) (B : Nat) (av lv : Value) (cs : List (Bool × Value)) (acc : List (Bool × Nat)) (lens : List Nat) : Prop where
 own1 : w.ownsRow B 115 2 av cs.length (icells cs)
 own2 : w.ownsRow B 3 1 lv lens.length (ints lens)
 ne : ∀ q, av.ownBlock = some q → lv.ownBlock ≠ some q
 len : cs.length = acc.length
 el : ∀ (j : Nat) (c : Bool × Value) (p : Bool × Nat), cs[j]? = some c → acc[j]? = some p → c.1 = p.1 ∧ NFr B w c.2 p.2 ∧ ∀ q, c.2.ownBlock = some q → av.ownBlock ≠ some q ∧ lv.ownBlock ≠ some q
theorem En.nil (w : World) (B : Nat) : En w B (.slice none 0 0) (.slice none 0 0) [] [] [] := ⟨World.ownsRow_nil _ _ _ _, World.ownsRow_nil _ _ _ _, fun q h => by simp [Value.ownBlock] at h, rfl, fun j c p h => by simp at h⟩
theorem ownsRow_wr {w w' : World} {R B : Nat} {e : TypeId} {z : Nat} {v : Value} {n : Nat} {xs : List Value} (h : w.ownsRow B e z v n xs) (hw : Wr R none w w') (hR : R < B) : w'.ownsRow B e z v n xs := by
 refine ⟨h.1, ?_⟩
 rcases h.2 with hn | ⟨g, cap, cur, rfl, hb, hgg, rest⟩
 ·exact .inl hn
 ·exact .inr ⟨g, cap, cur, rfl, hb, (hw.block g (Array.getElem?_eq_some_iff.1 hgg).1 (by omega) (by simp)).trans hgg, rest⟩
theorem En.wr {w w' : World} {B R : Nat} {av lv : Value} {cs : List (Bool × Value)} {acc : List (Bool × Nat)} {lens : List Nat} (h : En w B av lv cs acc lens) (hw : Wr R none w w') (hR : R < B) : En w' B av lv cs acc lens :=
 ⟨ownsRow_wr h.own1 hw hR, ownsRow_wr h.own2 hw hR, h.ne, h.len, fun j c p hc hp => ⟨(h.el j c p hc hp).1, (h.el j c p hc hp).2.1.wr hw hR (fun q hq => by cases hq), (h.el j c p hc hp).2.2⟩⟩
theorem NFr.grown {B : Nat} {w w' : World} {v : Value} {n : Nat} {row : Option Nat} (h : NFr B w v n) (hg : w.grownBy w' row) (hr : ∀ q, v.ownBlock = some q → row ≠ some q) : NFr B w' v n := by
 obtain ⟨⟨xs, h1, h2, h3⟩, h4, h5⟩ := h
 exact ⟨⟨xs, h1.kept hg (fun k hk e => hr k e hk), h2, h3⟩, fun q hq => ⟨(h4 q hq).1, Nat.lt_of_lt_of_le (h4 q hq).2 hg.size⟩, h5⟩
theorem En.push {w w' : World} {B g cap : Nat} {av lv : Value} {cs : List (Bool × Value)} {acc : List (Bool × Nat)} {lens : List Nat} (h : En w B av lv cs acc lens) {neg : Bool} {m : Value} {k : Nat} (hm : NFr B w m k) (hd : ∀ q, m.ownBlock = some q → av.ownBlock ≠ some q ∧ lv.ownBlock ≠ some q)
  (hown : w'.ownsRow B 115 2 (.slice (some ⟨g, 0, none⟩) (cs.length + 1) cap) (cs.length + 1) (icells cs ++ [.bool neg, m])) (hg : w.grownBy w' av.ownBlock) (hat : av.ownBlock = some g ∨ g = w.heap.size) :
  En w' B (.slice (some ⟨g, 0, none⟩) (cs.length + 1) cap) lv (cs ++ [(neg, m)]) (acc ++ [(neg, k)]) lens := by
 have hnew : ∀ q, q < w.heap.size → av.ownBlock ≠ some q → (Value.ownBlock (.slice (some ⟨g, 0, none⟩) (cs.length + 1) cap)) ≠ some q := by
  intro q hq hne e
  cases e
  rcases hat with h | h
  ·exact hne h
  ·change g < _ at hq; omega
 have hl : (cs ++ [(neg, m)]).length = cs.length + 1 := by simp
 refine ⟨?_, h.own2.kept hg ?_, ?_, by simp [h.len], ?_⟩
 ·rw [hl, icells_app]; exact hown
 ·cases ho : lv.ownBlock with
  | none => exact .inl rfl
  | some q => exact .inr (fun e => h.ne q e.symm ho)
 ·intro q hq e
  have h1 := (h.own2.lt q e).2
  exact hnew q h1 (fun h2 => h.ne q h2 e) hq
 ·intro j c p hc hp
  by_cases hlt : j < cs.length
  ·rw [List.getElem?_append_left hlt] at hc
   rw [List.getElem?_append_left (by rw [← h.len]; exact hlt)] at hp
   obtain ⟨q1, q2, q3⟩ := h.el j c p hc hp
   exact ⟨q1, q2.grown hg (fun q hq => (q3 q hq).1), fun q hq => ⟨hnew q (q2.2.1 q hq).2 (q3 q hq).1, (q3 q hq).2⟩⟩
  ·have hj : j = cs.length := by
    have := (List.getElem?_eq_some_iff.1 hc).1
    rw [hl] at this; omega
   subst hj
   rw [List.getElem?_append_right (Nat.le_refl _)] at hc
   rw [h.len, List.getElem?_append_right (Nat.le_refl _)] at hp
   simp at hc hp
   subst hc; subst hp
   exact ⟨rfl, hm.grown hg (fun q hq => (hd q hq).1), fun q hq => ⟨hnew q (hm.2.1 q hq).2 (hd q hq).1, (hd q hq).2⟩⟩
theorem En.pushL {w w' : World} {B g cap : Nat} {av lv : Value} {cs : List (Bool × Value)} {acc : List (Bool × Nat)} {lens : List Nat} (h : En w B av lv cs acc lens) {n : Nat}
  (hown : w'.ownsRow B 3 1 (.slice (some ⟨g, 0, none⟩) (lens.length + 1) cap) (lens.length + 1) (ints lens ++ [.int .i64 (n : Nat)])) (hg : w.grownBy w' lv.ownBlock) (hat : lv.ownBlock = some g ∨ g = w.heap.size) :
  En w' B av (.slice (some ⟨g, 0, none⟩) (lens.length + 1) cap) cs acc (lens ++ [n]) := by
 have hnew : ∀ q, q < w.heap.size → lv.ownBlock ≠ some q → (Value.ownBlock (.slice (some ⟨g, 0, none⟩) (lens.length + 1) cap)) ≠ some q := by
  intro q hq hne e
  cases e
  rcases hat with h | h
  ·exact hne h
  ·change g < _ at hq; omega
 refine ⟨h.own1.kept hg ?_, ?_, ?_, h.len, ?_⟩
 ·cases ho : av.ownBlock with
  | none => exact .inl rfl
  | some q => exact .inr (fun e => h.ne q ho e.symm)
 ·rw [show (lens ++ [n]).length = lens.length + 1 from by simp, show ints (lens ++ [n]) = ints lens ++ [.int .i64 (n : Nat)] from by simp [ints]]
  exact hown
 ·intro q hq
  exact hnew q (h.own1.lt q hq).2 (h.ne q hq)
 ·intro j c p hc hp
  obtain ⟨q1, q2, q3⟩ := h.el j c p hc hp
  exact ⟨q1, q2.grown hg (fun q hq => (q3 q hq).2), fun q hq => ⟨(q3 q hq).1, hnew q (q2.2.1 q hq).2 (q3 q hq).2⟩⟩
end Go.Proofs.YtceggplnggkdnaaGreatDoor
namespace Go.Proofs.YtceggplnggkdnaaGreatDoor
open Go.RowKit NatP LexP
theorem Tryz.infoAI : (Tryz.prog.info? 115).map (fun i => (i.zero, i.size, i.bytes)) = some (some (.agg #[.bool false, .slice none 0 0]), 2, 32) := by kernel_rfl
theorem number_len {fin : Nat} {s s' : SynP.St} {m : Nat} (h : SynP.number fin s = some (.ok (m, s'))) : s'.ts.length + 1 = s.ts.length ∧ s'.opened = s.opened := by
 unfold SynP.number at h
 split at h
 ·rename_i hk
  unfold SynP.ret at h
  cases h
  refine ⟨?_, rfl⟩
  have := isKind_ne hk
  have h2 := List.length_pos_iff.2 this
  show s.ts.tail.length + 1 = _
  rw [List.length_tail]; omega
 ·cases h
theorem want_len {fin : Nat} {x : Bytes} {s s' : SynP.St} {u : Unit} (h : SynP.want fin x s = some (.ok (u, s'))) : s'.ts.length + 1 = s.ts.length ∧ s'.opened = s.opened := by
 unfold SynP.want at h
 split at h
 ·rename_i hk
  unfold SynP.ret at h
  cases h
  refine ⟨?_, rfl⟩
  have h2 := List.length_pos_iff.2 (isMark_ne hk)
  show s.ts.tail.length + 1 = _
  rw [List.length_tail]; omega
 ·cases h
def EnO (R : Nat) (tv : Value) (L : List Tok) (fin : Nat) (nv : Value) (ns : List Nv) (w : World) (N : Nat) (r : SynP.PR (List (Bool × Nat) × List Nat)) (av lv : Value) (wr : World) : Prop :=
 ∃ f acc lens cs a' s', SynP.entries fin f acc lens s' = r ∧ RS wr R tv L fin a' s' nv ns ∧ Wr R none w wr ∧ En wr w.heap.size av lv cs acc lens ∧ acc.length + s'.ts.length ≤ 67108864 ∧ lens.length + s'.ts.length ≤ 67108864 ∧ s'.ts.length ≤ N
def EnI (R : Nat) (tv : Value) (L : List Tok) (fin : Nat) (nv : Value) (ns : List Nv) (w : World) (N : Nat) (lens : List Nat) (lv : Value) (r : SynP.PR (Nat × List (Bool × Nat))) (av nn : Value) (wr : World) : Prop :=
 ∃ f n acc cs a' s', SynP.entryRow fin f n acc s' = r ∧ nn = .int .i64 ((n : Nat) : Int) ∧ RS wr R tv L fin a' s' nv ns ∧ Wr R none w wr ∧ En wr w.heap.size av lv cs acc lens ∧ acc.length + s'.ts.length ≤ 67108864 ∧ n ≤ acc.length ∧ lens.length + s'.ts.length ≤ 67108864 ∧ (0 < n → lens.length + s'.ts.length + 1 ≤ 67108864) ∧ s'.ts.length ≤ N
def EnQ (B : Nat) (x : List (Bool × Nat) × List Nat) (v : Value) (w' : World) : Prop := ∃ av lv cs, v = .tuple #[av, lv] ∧ En w' B av lv cs x.1 x.2
set_option maxRecDepth 100000 in
set_option maxHeartbeats 4000000 in
theorem rd_entries (R : Nat) (tv : Value) (L : List Tok) (fin a : Nat) (s : SynP.St) (nv : Value) (ns : List Nv) (w : World) (h : RS w R tv L fin a s nv ns) (f : Nat) (hf : SynP.entries fin f [] [] s ≠ none) :
  Calls Tryz.prog 187 #[.pointer (some ⟨R, 0, none⟩)] w (RB (SynP.entries fin f [] [] s) R tv L fin s nv ns (EnQ w.heap.size) w) := by
 have H := Lib.hid h
 have hRl := h.lt
 obtain ⟨r, hr⟩ : ∃ r, r = SynP.entries fin f [] [] s := ⟨_, rfl⟩
 rw [← hr] at hf ⊢
 have HR := Lib.hid hr
 have HNE := Lib.hid hf
 have hts : s.ts.length ≤ 67108864 := by have := h.short; rw [← h.drop, List.length_drop]; omega
 have HST : Hid (EnO R tv L fin nv ns w s.ts.length r (.slice none 0 0) (.slice none 0 0) w) := ⟨f, [], [], [], a, s, hr.symm, h, Wr.refl _ _ _, En.nil _ _, by simpa using hts, by simpa using hts, Nat.le_refl _⟩
 obtain ⟨i0, hi, hz0, hz1, hz2'⟩ := info_parts Tryz.infoAI
 obtain ⟨j0, hj, hk0, hk1, hk2⟩ := info_parts Tryz.infoInt
 clear h hr hf
 go_enter Tryz.func187, Tryz.ntmps187
 go_wp2_with fail
 go_loopw [2, 3, 4, 5, 6] (fun av lv _ _ _ wr => EnO R tv L fin nv ns w s.ts.length r av lv wr) (fun _ _ _ _ _ wr => leftOf L R wr)
 case atStart => exact HST.out
 case round =>
  obtain ⟨f, acc, lens, cs, a', s', hen, hrs, hwr, hEn, hb1, hb2, hbN⟩ := hrel
  obtain ⟨wo, rfl⟩ : ∃ wo, wo = wr := ⟨_, rfl⟩
  cases f with
  | zero => exact absurd hen.symm (by have := HNE.out; intro e; exact this e)
  | succ f =>
   obtain ⟨r2, hr2⟩ : ∃ r2, r2 = SynP.entryRow fin f 0 acc s' := ⟨_, rfl⟩
   have hen2 : r2.bind (fun x s => if SynP.isMark [93] s.ts then SynP.ret (x.2, lens ++ [x.1]) s.adv else (SynP.want fin [59] s).bind fun _ s => SynP.entries fin f x.2 (lens ++ [x.1]) s) = r := by rw [hr2]; exact hen
   have HE2 := Lib.hid hen2
   have HR2N : Hid (r2 ≠ none) := by
    intro e
    rw [e] at hen2
    exact HNE.out hen2.symm
   have HRS0 := Lib.hid hrs
   have HLEFT := Lib.hid hrs.left
   have HI : Hid (EnI R tv L fin nv ns w s'.ts.length lens u3 r2 u2 (.int .i64 0) wo) := ⟨f, 0, acc, cs, a', s', hr2.symm, rfl, hrs, hwr, hEn, hb1, Nat.zero_le _, hb2, fun h => absurd h (Nat.lt_irrefl _), Nat.le_refl _⟩
   clear hen hrs hwr hEn hen2 hr2
   go_wp2_with fail
   go_loopw [2, 4, 5, 6] (fun av nn _ _ wr => EnI R tv L fin nv ns w s'.ts.length lens u3 r2 av nn wr) (fun _ _ _ _ wr => leftOf L R wr)
   case atStart => exact HI.out
   clear HI
   case round =>
    obtain ⟨f2, n, acc2, cs2, a2, s2, her, rfl, hrs, hwr, hEn, hb1, hnl, hb2, hb3, hbM⟩ := hrel
    cases f2 with
    | zero => exact absurd her.symm HR2N.out
    | succ f2 =>
     obtain ⟨wx, hwx⟩ : ∃ wx, wx = wr := ⟨_, rfl⟩
     have HLF0 := Lib.hid hrs.left
     have HSX0 := Lib.hid hrs
     have HWX0 := Lib.hid hwr
     have HEX0 := Lib.hid hEn
     have HER := Lib.hid her
     have hn31 : n ≤ 67108864 := by omega
     clear hrs hwr hEn her hwx
     by_cases hn0 : n = 0
     case' pos =>
      have hnb : ((n : Int) == 0) = true := by simp [hn0]
      have HSTEP : Hid ((SynP.number fin (if SynP.isMark [45] s2.ts then s2.adv else s2)).bind (fun m s' => SynP.entryRow fin f2 (n + 1) (acc2 ++ [(SynP.isMark [45] s2.ts && decide (0 < m), m)]) s') = r2) := by
       have h1 := HER.out
       unfold SynP.entryRow at h1
       rw [if_pos (show (decide (n = 0) || SynP.isMark [45] s2.ts || SynP.isKind 1 s2.ts) = true from by simp [hn0])] at h1
       exact h1
      have HN0 := Lib.hid hn0
      clear hn0
      have HSX := HSX0
      have HWX := HWX0
      have HEX := HEX0
      clear HSX0 HWX0 HEX0
     case' neg =>
      have hnb : ((n : Int) == 0) = false := by simp [hn0]
      have hpos : 0 < n := by omega
      have hb4 := hb3 hpos
      have HN0 := Lib.hid hn0
      clear hn0 hb3
      cases hm : SynP.isMark [45] s2.ts
      case' true =>
       have HSTEP : Hid ((SynP.number fin (if SynP.isMark [45] s2.ts then s2.adv else s2)).bind (fun m s' => SynP.entryRow fin f2 (n + 1) (acc2 ++ [(SynP.isMark [45] s2.ts && decide (0 < m), m)]) s') = r2) := by
        have h1 := HER.out
        unfold SynP.entryRow at h1
        rw [if_pos (show (decide (n = 0) || SynP.isMark [45] s2.ts || SynP.isKind 1 s2.ts) = true from by simp [hm])] at h1
        exact h1
       have HM := Lib.hid hm
       clear hm
       go_wp2_with fail
       refine (rd_mark R tv L fin a2 s2 nv ns _ HSX0.out [45]).mono ?_
       rintro e wx ⟨rfl, bx⟩
       rw [HM.out]
       have HSX := Lib.hid (HSX0.out.below bx)
       have HWX := Lib.hid (RS.step HWX0.out (Wr.of_below bx))
       have HEX := Lib.hid (HEX0.out.wr (R := R) (Wr.of_below bx) hRl)
       clear bx
      case' false =>
       cases hk : SynP.isKind 1 s2.ts
       case' true =>
        have HSTEP : Hid ((SynP.number fin (if SynP.isMark [45] s2.ts then s2.adv else s2)).bind (fun m s' => SynP.entryRow fin f2 (n + 1) (acc2 ++ [(SynP.isMark [45] s2.ts && decide (0 < m), m)]) s') = r2) := by
         have h1 := HER.out
         unfold SynP.entryRow at h1
         rw [if_pos (show (decide (n = 0) || SynP.isMark [45] s2.ts || SynP.isKind 1 s2.ts) = true from by simp [hk])] at h1
         exact h1
        have HM := Lib.hid hm
        have hck := comes_kind 1 [] s2.ts (by decide)
        rw [hk] at hck
        have HK := Lib.hid hck
        clear hm hk hck
        go_wp2_with fail
        refine (rd_mark R tv L fin a2 s2 nv ns _ HSX0.out [45]).mono ?_
        rintro e wy ⟨rfl, bx⟩
        rw [HM.out]
        have HSY := Lib.hid (HSX0.out.below bx)
        have HWY := Lib.hid (RS.step HWX0.out (Wr.of_below bx))
        have HEY := Lib.hid (HEX0.out.wr (R := R) (Wr.of_below bx) hRl)
        clear bx
        go_wp2_with fail
        refine (rd_comes R tv L fin a2 s2 nv ns _ HSY.out 0 1 [] (by omega) (by omega)).mono ?_
        rintro e wx ⟨rfl, bx⟩
        rw [HK.out]
        have HSX := Lib.hid (HSY.out.below bx)
        have HWX := Lib.hid (RS.step HWY.out (Wr.of_below bx))
        have HEX := Lib.hid (HEY.out.wr (R := R) (Wr.of_below bx) hRl)
        clear bx
       case false =>
        have HRR : Hid (r = if SynP.isMark [93] s2.ts then SynP.ret (acc2, lens ++ [n]) s2.adv else (SynP.want fin [59] s2).bind fun _ s => SynP.entries fin f acc2 (lens ++ [n]) s) := by
         have h1 := HER.out
         unfold SynP.entryRow at h1
         rw [if_neg (show ¬ (decide (n = 0) || SynP.isMark [45] s2.ts || SynP.isKind 1 s2.ts) = true from by simp [hk, hm, HN0.out])] at h1
         show _ = _
         rw [← HE2.out, ← h1]; rfl
        have HM := Lib.hid hm
        have hck := comes_kind 1 [] s2.ts (by decide)
        rw [hk] at hck
        have HK := Lib.hid hck
        clear hm hk hck
        go_wp2_with fail
        refine (rd_mark R tv L fin a2 s2 nv ns _ HSX0.out [45]).mono ?_
        rintro e wy ⟨rfl, bx⟩
        rw [HM.out]
        have HSY := Lib.hid (HSX0.out.below bx)
        have HWY := Lib.hid (RS.step HWX0.out (Wr.of_below bx))
        have HEY := Lib.hid (HEX0.out.wr (R := R) (Wr.of_below bx) hRl)
        clear bx
        go_wp2_with fail
        refine (rd_comes R tv L fin a2 s2 nv ns _ HSY.out 0 1 [] (by omega) (by omega)).mono ?_
        rintro e wx ⟨rfl, bx⟩
        rw [HK.out]
        have HSX := Lib.hid (HSY.out.below bx)
        have HWX := Lib.hid (RS.step HWY.out (Wr.of_below bx))
        have HEX := Lib.hid (HEY.out.wr (R := R) (Wr.of_below bx) hRl)
        have hszx := HWX.out.size
        clear bx
        have HAL := Lib.hid (below_alloc wx (.cells #[.int .i64 (n : Nat)] 3))
        have HRS4 := Lib.hid (HSX.out.below HAL.out)
        have HW4 := Lib.hid (RS.step HWX.out (Wr.of_below HAL.out))
        have HEN4 := Lib.hid (HEX.out.wr (R := R) (Wr.of_below HAL.out) hRl)
        obtain ⟨nc, hnc⟩ : ∃ nc, nc = lens.length := ⟨_, rfl⟩
        have HNC := Lib.hid hnc
        have hOW : (wx.alloc (.cells #[.int .i64 (n : Nat)] 3)).ownsRow w.heap.size 3 1 u3 nc (ints lens) := by rw [hnc]; exact HEN4.out.own2
        have HOW := Lib.hid hOW
        have hnc2 : nc ≤ 67108864 := by omega
        clear hnc hOW
        go_wp2_with (at_builtin; refine wpList_append_lies _ rfl _ _ 68 rfl w.heap.size 3 j0 (.int .i64 0) 1 8 Tryz.underlying68 hj hk0 hk1 hk2 rfl (by omega) u3 nc (ints lens) rfl HOW.out ⟨wx.heap.size, 0, none⟩ 1 1 [.int .i64 (n : Nat)] rfl rfl (LexP.cells_new _ _ _ _ rfl) (by simp [Value.oneCell']) (by omega) (by unfold maxLen; omega) (by omega) (by simp; omega) (wx.heap.size + 1) (by simp) ?_)
        intro gg cap w5 hown5 hgrow hat hlt5
        have q1 := HEN4.out.pushL (n := n) (by rw [← HNC.out]; exact hown5) hgrow (by simpa using hat)
        obtain ⟨q2, q3⟩ := H.out.loc HRS4.out HW4.out hgrow (fun q hq => (HEN4.out.own2.lt q hq).1)
        rw [← HNC.out] at q1
        have HQ1 := Lib.hid q1
        have HQ2 := Lib.hid q2
        have HQ3 := Lib.hid q3
        clear hown5 hgrow hat hlt5 q1 q2 q3
        go_wp2_with fail
        refine (rd_take R tv L fin a2 s2 nv ns _ HQ2.out [93]).mono ?_
        rintro e w6 ⟨rfl, t1, t2⟩
        have T1 := Lib.hid (RS.step HQ3.out t1)
        have TE := Lib.hid (HQ1.out.wr t1 hRl)
        clear t1
        cases h93 : SynP.isMark [93] s2.ts with
        | true =>
         rw [if_pos h93] at t2
         have T2 := Lib.hid t2
         have H93 := Lib.hid h93
         clear t2 h93
         go_wp2_with fail
         go_ret2
         rw [HRR.out, if_pos H93.out]
         exact ⟨_, _, rfl, T2.out, T1.out, Nat.le_trans (tail_le s2) (by omega), _, _, _, rfl, TE.out⟩
        | false =>
         rw [if_neg (by rw [h93]; decide)] at t2
         have T2 := Lib.hid t2
         have H93 := Lib.hid h93
         clear t2 h93
         go_wp2_with fail
         refine (rd_want R tv L fin a2 s2 nv ns _ T2.out [59]).mono ?_
         rintro e w7 hn
         rcases hN : SynP.want fin [59] s2 with - | (⟨fc, fk⟩ | ⟨m, s3⟩)
         ·rw [hN] at hn; exact hn.elim
         ·rw [hN] at hn
          obtain ⟨rfl, n1⟩ := hn
          refine ⟨rfl, ?_⟩
          have hr : r = some (.error (fc, fk)) := by rw [HRR.out, if_neg (by rw [H93.out]; decide), hN]; rfl
          rw [hr]
          exact ⟨rfl, RS.step T1.out n1⟩
         ·rw [hN] at hn
          obtain ⟨v, a3, rfl, n1, n2, n3, rfl⟩ := hn
          have hwl := want_len hN
          have hr : SynP.entries fin f acc2 (lens ++ [n]) s3 = r := by rw [HRR.out, if_neg (by rw [H93.out]; decide), hN]; rfl
          have HRF := Lib.hid hr
          have HL7 := Lib.hid n1.left
          have HN1 := Lib.hid n1
          have HN2 := Lib.hid (RS.step T1.out n2)
          have HE7 := Lib.hid (TE.out.wr n2 hRl)
          clear n1 n2 n3 hr hN
          go_wp2_with fail
          have hfin : EnO R tv L fin nv ns w s.ts.length r u2 (.slice (some ⟨gg, 0, none⟩) (nc + 1) cap) w7 := ⟨f, acc2, lens ++ [n], _, a3, s3, HRF.out, HN1.out, HN2.out, HE7.out, by omega, by rw [List.length_append, List.length_singleton]; omega, by omega⟩
          have hlf : leftOf L R w7 < leftOf L R wo := by rw [HL7.out, HLEFT.out]; omega
          exact ⟨hfin, hlf⟩
     all_goals
      obtain ⟨s1, hs1⟩ : ∃ s1, s1 = (if SynP.isMark [45] s2.ts then s2.adv else s2) := ⟨_, rfl⟩
      have HS1 := Lib.hid hs1
      clear hs1
      go_wp2_with fail
      refine (rd_take R tv L fin a2 s2 nv ns _ HSX.out [45]).mono ?_
      rintro e w1 ⟨rfl, t1, t2⟩
      have t3 : ∃ b1, RS w1 R tv L fin b1 s1 nv ns := by
       rw [HS1.out]
       split at t2
       ·rename_i hq; rw [if_pos hq]; exact ⟨_, t2⟩
       ·rename_i hq; rw [if_neg hq]; exact ⟨_, t2⟩
      obtain ⟨b1, t3⟩ := t3
      have T1 := Lib.hid (RS.step HWX.out t1)
      have T3 := Lib.hid t3
      have TE := Lib.hid (HEX.out.wr t1 hRl)
      have hs1l : s1.ts.length ≤ s2.ts.length := by
       rw [HS1.out]
       split
       ·exact tail_le s2
       ·exact Nat.le_refl _
      obtain ⟨ng, hng⟩ : ∃ ng, ng = SynP.isMark [45] s2.ts := ⟨_, rfl⟩
      rw [← hng]
      have HNG := Lib.hid hng
      clear t1 t2 t3 hng
      go_wp2_with fail
      refine (rd_number R tv L fin b1 s1 nv ns _ T3.out).mono ?_
      rintro e w2 hn
      rcases hN : SynP.number fin s1 with - | (⟨fc, fk⟩ | ⟨m, s3⟩)
      ·rw [hN] at hn; exact hn.elim
      ·rw [hN] at hn
       obtain ⟨rfl, n1⟩ := hn
       refine ⟨rfl, ?_⟩
       have hr2 : r2 = some (.error (fc, fk)) := by rw [← HSTEP.out, ← HS1.out, hN]; rfl
       have hr : r = some (.error (fc, fk)) := by rw [← HE2.out, hr2]; rfl
       rw [hr]
       exact ⟨rfl, RS.step T1.out n1⟩
      ·rw [hN] at hn
       obtain ⟨v, a3, rfl, n1, n2, n3, n4⟩ := hn
       have hnl := number_len hN
       obtain ⟨vo, vcap, vl, rfl⟩ : ∃ vo vcap vl, v = .slice vo vl vcap := by
        obtain ⟨⟨xs, hx, -⟩, -⟩ := n4
        obtain ⟨vo, vcap, e, -⟩ := hx.2
        exact ⟨vo, vcap, _, e⟩
       have hz : decide (0 < vl) = decide (0 < m) := by
        have : vl = 0 ↔ m = 0 := n4.2.2.zero
        simp only [decide_eq_decide]; omega
       have HN2 := Lib.hid (RS.step T1.out n2)
       have HRS3 := Lib.hid n1
       have HEN3 := Lib.hid (TE.out.wr n2 hRl)
       have HN4 := Lib.hid n4
       obtain ⟨b, hb⟩ : ∃ b, b = (ng && decide (0 < m)) := ⟨_, rfl⟩
       have HB := Lib.hid hb
       have HZ := Lib.hid hz
       have HNX : Hid (r2 = SynP.entryRow fin f2 (n + 1) (acc2 ++ [(b, m)]) s3) := by
        show _ = _
        rw [← HSTEP.out, ← HS1.out, hN, HB.out, HNG.out]; rfl
       have hcl : cs2.length ≤ 67108864 := by rw [HEN3.out.len]; omega
       have HCL := Lib.hid hcl
       have HAL := Lib.hid (below_alloc w2 (.cells #[.bool b, .slice vo vl vcap] 115))
       have HRS4 := Lib.hid (HRS3.out.below HAL.out)
       have HW4 := Lib.hid (RS.step HN2.out (Wr.of_below HAL.out))
       have HEN4 := Lib.hid (HEN3.out.wr (R := R) (Wr.of_below HAL.out) hRl)
       have hn4' := (HN4.out.wr (R := R) (og := none) (Wr.of_below HAL.out) (Nat.lt_of_lt_of_le hRl T1.out.size) (fun q hq => by cases hq))
       have HN4' := Lib.hid hn4'
       have HSZ := Lib.hid T1.out.size
       obtain ⟨nc, hnc⟩ : ∃ nc, nc = cs2.length := ⟨_, rfl⟩
       have HNC := Lib.hid hnc
       have hOW : (w2.alloc (.cells #[.bool b, .slice vo vl vcap] 115)).ownsRow w.heap.size 115 2 u2 nc (icells cs2) := by rw [hnc]; exact HEN4.out.own1
       have HOW := Lib.hid hOW
       have hnc2 : nc ≤ 67108864 := by rw [hnc]; exact hcl
       have hb0 : b = (ng && decide (0 < vl)) := by rw [HB.out, HZ.out]
       have hz2 := HN2.out.size
       have hsz4 : w.heap.size ≤ (w2.alloc (.cells #[.bool b, .slice vo vl vcap] 115)).heap.size := by simp; omega
       have HSZ4 := Lib.hid hsz4
       have HB0 := Lib.hid hb0
       clear n1 n2 n4 hn4' hb hz hnc hOW hcl hN hb0 hsz4
       cases hngc : ng
       case' true =>
        subst hngc
        have hbz : (decide (0 < vl)) = b := by rw [HB0.out]; rfl
       case' false =>
        subst hngc
        have hbf : b = false := by rw [HB0.out]; rfl
        subst hbf
       all_goals
        go_wp2_with (at_builtin; refine wpList_append_lies _ rfl _ _ 52 rfl w.heap.size 115 i0 (.agg #[.bool false, .slice none 0 0]) 2 32 Tryz.underlying52 hi hz0 hz1 hz2' rfl (by omega) u2 nc (icells cs2) rfl HOW.out ⟨w2.heap.size, 0, none⟩ 1 1 [.bool _, .slice vo vl vcap] rfl rfl (LexP.cells_new _ _ _ _ rfl) (by simp [Value.oneCell']) (by omega) (by unfold maxLen; omega) (by omega) (by simp; omega) (w2.heap.size + 1) (by simp) ?_)
        intro gg cap w5 hown5 hgrow hat hlt5
        have q1 := HEN4.out.push (m := .slice vo vl vcap) (k := m) (HN4'.out.mono HSZ.out) (fun q hq => by
         have h1 := HN4.out.2.1 q hq
         refine ⟨fun e => ?_, fun e => ?_⟩
         ·have := (TE.out.own1.lt q e).2; omega
         ·have := (TE.out.own2.lt q e).2; omega) (by rw [← HNC.out]; exact hown5) hgrow (by simpa using hat)
        obtain ⟨q2, q3⟩ := H.out.loc HRS4.out HW4.out hgrow (fun q hq => (HEN4.out.own1.lt q hq).1)
        have HQ1 := Lib.hid q1
        have HQ2 := Lib.hid q2
        have HQ3 := Lib.hid q3
        rw [← HNC.out] at HQ1
        have HLFT := Lib.hid q2.left
        clear hown5 hgrow hat hlt5 q1 q2 q3
        go_wp2_with fail
        have hfin : EnI R tv L fin nv ns w s'.ts.length lens u3 r2 (.slice (some ⟨gg, 0, none⟩) (nc + 1) cap) (.int .i64 ((n : Int) + 1)) w5 := ⟨f2, n + 1, acc2 ++ [(_, m)], _, a3, s3, HNX.out.symm, by congr 1, HQ2.out, HQ3.out, HQ1.out, by rw [List.length_append, List.length_singleton]; omega, by rw [List.length_append, List.length_singleton]; omega, by omega, fun _ => by omega, by omega⟩
        have hlf : leftOf L R w5 < leftOf L R wr := by rw [HLFT.out, HLF0.out]; omega
        exact ⟨hfin, hlf⟩
end Go.Proofs.YtceggplnggkdnaaGreatDoor
namespace Go.Proofs.YtceggplnggkdnaaGreatDoor
open Go.RowKit NatP LexP
theorem made_two (a b : Value) (n j : Nat) (hj : j < n) : (madeCells #[a, b] (n * 2))[j * 2]? = some a ∧ (madeCells #[a, b] (n * 2))[j * 2 + 1]? = some b := by
 unfold madeCells
 constructor
 ·rw [Array.getElem?_map, Array.getElem?_range, if_pos (by omega)]
  show some (#[a, b][(j * 2) % 2]!) = _
  rw [show (j * 2) % 2 = 0 from by omega]; rfl
 ·rw [Array.getElem?_map, Array.getElem?_range, if_pos (by omega)]
  show some (#[a, b][(j * 2 + 1) % 2]!) = _
  rw [show (j * 2 + 1) % 2 = 1 from by omega]; rfl
theorem make_ints (n : Nat) (hn : n ≤ 4096) : ∀ w : World, (Instr.makeSlice 52 (.int .i64 (n : Int)) (.int .i64 (n : Int))).run Tryz.prog w = .ok (.slice (some ⟨w.heap.size, 0, none⟩) n n) (w.alloc (.cells (madeCells #[.bool false, .slice none 0 0] (n * 2)) 115)) := by
 obtain ⟨i0, hi, hz0, hz1, hz2⟩ := info_parts Tryz.infoAI
 intro w
 have hb : (i0.bytes : Int) * (n : Int) ≤ 281474976710656 := by rw [hz2]; omega
 have hr := run_make (P := Tryz.prog) w 52 115 i0 (.agg #[.bool false, .slice none 0 0]) Tryz.underlying52 hi hz0 .i64 .i64 n n (by omega) (Int.le_refl _) hb (by omega)
 simp only [Int.toNat_natCast] at hr
 rw [hr, hz1]
 rfl
def IRs (w : World) (v : Value) (l : List (Bool × Nat)) : Prop := ∃ ao cap, v = .slice ao l.length cap ∧ l.length ≤ cap ∧ cap ≤ maxLen ∧ (0 < l.length → ∃ g o, ao = some ⟨g, o, none⟩ ∧ g < w.heap.size ∧ ∀ j p, l[j]? = some p → ∃ m xs, w.cell? ⟨g, o + j * 2, none⟩ = some (.bool p.1) ∧ w.cell? ⟨g, o + j * 2 + 1, none⟩ = some m ∧ Rd w m xs ∧ NatP.val xs = p.2 ∧ xs.length ≤ 67108864 ∧ CanL xs.length p.2)
theorem IRs.ird {w : World} {v : Value} {l : List (Bool × Nat)} (h : IRs w v l) : IRd w v l := by
 obtain ⟨ao, cap, e, h1, h2, h3⟩ := h
 refine ⟨ao, cap, e, h1, h2, fun h0 => ?_⟩
 obtain ⟨g, o, rfl, a2, a3⟩ := h3 h0
 refine ⟨g, o, rfl, a2, fun j p hj => ?_⟩
 obtain ⟨m, xs, b1, b2, b3, b4, b5, -⟩ := a3 j p hj
 exact ⟨m, xs, b1, b2, b3, b4, b5⟩
theorem IRs.below {w w' : World} {v : Value} {l : List (Bool × Nat)} (h : IRs w v l) (hb : Below w.heap.size w w') : IRs w' v l := by
 obtain ⟨ao, cap, e, h1, h2, h3⟩ := h
 refine ⟨ao, cap, e, h1, h2, fun h0 => ?_⟩
 obtain ⟨g, o, rfl, a2, a3⟩ := h3 h0
 refine ⟨g, o, rfl, Nat.lt_of_lt_of_le a2 hb.size, fun j p hj => ?_⟩
 obtain ⟨m, xs, b1, b2, b3, b4, b5, b6⟩ := a3 j p hj
 exact ⟨m, xs, (hb.cell (p := ⟨g, o + j * 2, none⟩) a2).trans b1, (hb.cell (p := ⟨g, o + j * 2 + 1, none⟩) a2).trans b2, b3.below hb, b4, b5, b6⟩
theorem IRs.zeros (w : World) (n : Nat) (hn : n ≤ 4096) : IRs (w.alloc (.cells (madeCells #[.bool false, .slice none 0 0] (n * 2)) 115)) (.slice (some ⟨w.heap.size, 0, none⟩) n n) (List.replicate n (false, 0)) := by
 have hb := heap_alloc_new w (.cells (madeCells #[.bool false, .slice none 0 0] (n * 2)) 115)
 refine ⟨_, n, by rw [List.length_replicate], by rw [List.length_replicate]; omega, by unfold maxLen; omega, fun _ => ⟨w.heap.size, 0, rfl, by simp, fun j p hj => ?_⟩⟩
 have hlt : j < n := by have := (List.getElem?_eq_some_iff.1 hj).1; rwa [List.length_replicate] at this
 have hp : p = (false, 0) := by rw [List.getElem?_replicate, if_pos hlt] at hj; simpa using hj.symm
 subst hp
 obtain ⟨m1, m2⟩ := made_two (.bool false) (.slice none 0 0) n j hlt
 refine ⟨.slice none 0 0, [], ?_, ?_, Rd.nil _, rfl, by simp, by simp, by simp⟩
 ·rw [Nat.zero_add]; exact (cell_of_row _ _ _ _ _ _ hb).trans m1
 ·rw [Nat.zero_add]; exact (cell_of_row _ _ _ _ _ _ hb).trans m2
theorem En.irs {w : World} {B : Nat} {av lv : Value} {cs : List (Bool × Value)} {acc : List (Bool × Nat)} {lens : List Nat} (h : En w B av lv cs acc lens) : IRs w av acc := by
 obtain ⟨ao, cap, e, h1, h2, h3⟩ := ownsRow_shape h.own1
 refine ⟨ao, cap, by rw [← h.len]; exact e, by rw [← h.len]; exact h1, h2, fun h0 => ?_⟩
 obtain ⟨g, rfl, a1, a2, a3⟩ := h3 (by rw [h.len]; exact h0)
 refine ⟨g, 0, rfl, a2, fun j p hj => ?_⟩
 have hlt : j < cs.length := by rw [h.len]; exact (List.getElem?_eq_some_iff.1 hj).1
 obtain ⟨q1, ⟨⟨xs, x1, x2, x3⟩, -, x4⟩, -⟩ := h.el j cs[j] p (List.getElem?_eq_getElem hlt) hj
 have x5 : CanL xs.length p.2 := by
  obtain ⟨ao', cap', e, -⟩ := x1.2
  rw [e] at x4; exact x4
 obtain ⟨i1, i2⟩ := icells_at cs j cs[j] (List.getElem?_eq_getElem hlt)
 refine ⟨_, xs, ?_, ?_, x1, x2, x3, x5⟩
 ·rw [Nat.zero_add, a3 _ (by omega), i1, q1]
 ·rw [Nat.zero_add, a3 _ (by omega), i2]
theorem mat_set {w w' : World} {g : Nat} {x y z u v t : Value} (h : w.heap[g]? = some (.cells #[u, v, t] 54 (0, 0))) (hw : w' = ((w.setCell ⟨g, 0, none⟩ x).setCell ⟨g, 1, none⟩ y).setCell ⟨g, 2, none⟩ z) :
  w'.heap[g]? = some (.cells #[x, y, z] 54 (0, 0)) ∧ w.grownBy w' (some g) ∧ w'.heap.size = w.heap.size ∧ Wr g none w w' := by
 have s1 := heap_setCell_same w g 0 #[u, v, t] 54 x h
 have s2 := heap_setCell_same (w.setCell ⟨g, 0, none⟩ x) g 1 _ 54 y s1
 have s3 := heap_setCell_same ((w.setCell ⟨g, 0, none⟩ x).setCell ⟨g, 1, none⟩ y) g 2 _ 54 z s2
 have r1 : Wr g none w w' := by
  rw [hw]
  exact RS.step (RS.step (Wr.of_set w 0 x) (Wr.of_set _ 1 y)) (Wr.of_set _ 2 z)
 refine ⟨by rw [hw]; exact s3.trans (by simp), ⟨r1.os, r1.tape, r1.output, r1.size, fun k hk hne => r1.block k hk (fun e => hne (by rw [e])) (by simp)⟩, by rw [hw]; simp [World.setCell], r1⟩
def MatQ (m : SynP.MatV) (v : Value) (w' : World) : Prop := ∃ av, v = .agg #[.int .i64 (m.rows : Nat), .int .i64 (m.cols : Nat), av] ∧ IRs w' av m.at_
end Go.Proofs.YtceggplnggkdnaaGreatDoor
namespace Go.Proofs.YtceggplnggkdnaaGreatDoor
open Go.RowKit NatP LexP Go.ChangeMaps
def Ck (w w' : World) : Prop := (∀ p v, w.cell? p = some v → w'.cell? p = some v) ∧ w.heap.size ≤ w'.heap.size
theorem Ck.below {w w' : World} (h : Below w.heap.size w w') : Ck w w' := ⟨fun p v hv => (h.cell (World.block_lt_of_cell? w p hv)).trans hv, h.size⟩
theorem Ck.trans {w w1 w2 : World} (h : Ck w w1) (k : Ck w1 w2) : Ck w w2 := ⟨fun p v hv => k.1 p v (h.1 p v hv), Nat.le_trans h.2 k.2⟩
theorem no_cell_map {w : World} {M clock : Nat} {es : Array MapEntry} (hb : w.heap[M]? = some (.map es clock)) {p : Addr} {v : Value} (h : w.cell? p = some v) : p.block ≠ M := by
 intro e
 unfold World.cell? at h
 rw [e, hb] at h
 simp at h
theorem Ck.grown {w w' : World} {M clock : Nat} {es : Array MapEntry} (hb : w.heap[M]? = some (.map es clock)) (h : w.grownBy w' (some M)) : Ck w w' :=
 ⟨fun p v hv => (World.cell?_of_block (h.block p.block (World.block_lt_of_cell? w p hv) (fun e => no_cell_map hb hv (by simpa using e)))).trans hv, h.size⟩
theorem Rd.ck {w w' : World} {v : Value} {xs : List Nat} (h : Rd w v xs) (k : Ck w w') : Rd w' v xs := by
 obtain ⟨h0, ao, cap, rfl, h1, h2, h3, h4⟩ := h
 refine ⟨fun q hq => Nat.lt_of_lt_of_le (h0 q hq) k.2, ao, cap, rfl, h1, h2, h3, fun i x hx => ?_⟩
 obtain ⟨g, o, e, hc⟩ := h4 i x hx
 exact ⟨g, o, e, k.1 _ _ hc⟩
theorem IRs.ck {w w' : World} {v : Value} {l : List (Bool × Nat)} (h : IRs w v l) (k : Ck w w') : IRs w' v l := by
 obtain ⟨ao, cap, e, h1, h2, h3⟩ := h
 refine ⟨ao, cap, e, h1, h2, fun h0 => ?_⟩
 obtain ⟨g, o, rfl, a2, a3⟩ := h3 h0
 refine ⟨g, o, rfl, Nat.lt_of_lt_of_le a2 k.2, fun j p hj => ?_⟩
 obtain ⟨m, xs, b1, b2, b3, b4, b5, b6⟩ := a3 j p hj
 exact ⟨m, xs, k.1 _ _ b1, k.1 _ _ b2, b3.ck k, b4, b5, b6⟩
theorem Sl.ck {w w' : World} {v : Value} {n : Nat} {R R' : Nat → Value → Prop} (h : Sl w v n R) (k : Ck w w') (hr : ∀ j u, R j u → R' j u) : Sl w' v n R' := by
 obtain ⟨ao, cap, e, h1, h2, h3⟩ := h
 refine ⟨ao, cap, e, h1, h2, fun h0 => ?_⟩
 obtain ⟨g, o, rfl, a2, a3⟩ := h3 h0
 refine ⟨g, o, rfl, Nat.lt_of_lt_of_le a2 k.2, fun j hj => ?_⟩
 obtain ⟨u, b1, b2⟩ := a3 j hj
 exact ⟨u, k.1 _ _ b1, hr j u b2⟩
theorem CRd.ck {w w' : World} {v : Value} {l : List (List Nat)} (h : CRd w v l) (k : Ck w w') : CRd w' v l :=
 Sl.ck h k fun _ _ ⟨s, a, b⟩ => ⟨s, a, Sl.ck b k fun _ _ ⟨n, c, ⟨xs, d1, d2, d3⟩⟩ => ⟨n, c, xs, d1.ck k, d2, d3⟩⟩
def VR (w : World) (v : Value) : SynP.Vl → Prop
 | .num p => ∃ m xs, v = .iface 117 (.agg #[.bool p.1, m]) ∧ Rd w m xs ∧ NatP.val xs = p.2 ∧ xs.length ≤ 67108864 ∧ CanL xs.length p.2
 | .mat m => ∃ av, v = .iface 122 (.agg #[.int .i64 (m.rows : Nat), .int .i64 (m.cols : Nat), av]) ∧ IRs w av m.at_ ∧ m.rows ≤ 64 ∧ m.cols ≤ 64 ∧ m.at_.length = m.rows * m.cols
 | .cpx _ => False
theorem VR.ck {w w' : World} {v : Value} {x : SynP.Vl} (h : VR w v x) (k : Ck w w') : VR w' v x := by
 cases x with
 | num p => obtain ⟨m, xs, e, h1, h2, h3, h4⟩ := h; exact ⟨m, xs, e, h1.ck k, h2, h3, h4⟩
 | mat m => obtain ⟨av, e, h1, h2⟩ := h; exact ⟨av, e, h1.ck k, h2⟩
 | cpx l => exact h.elim
theorem VR.below {w w' : World} {v : Value} {x : SynP.Vl} (h : VR w v x) (hb : Below w.heap.size w w') : VR w' v x := h.ck (Ck.below hb)
theorem VR.iface {w : World} {v : Value} {x : SynP.Vl} (h : VR w v x) : ∃ t u, v = .iface t u := by
 cases x with
 | num p => obtain ⟨m, xs, e, -⟩ := h; exact ⟨_, _, e⟩
 | mat m => obtain ⟨av, e, -⟩ := h; exact ⟨_, _, e⟩
 | cpx l => exact h.elim
def Tb (w : World) (E M : Nat) (t : SynP.Nms) : Prop := E < M + 2 ∧ w.heap[E]? = some (.cells #[.map (some M)] 60 (0, 0)) ∧ ∃ es clock, w.heap[M]? = some (.map es clock) ∧ EsR (VR w) es.toList t
theorem Tb.below {w w' : World} {E M : Nat} {t : SynP.Nms} (h : Tb w E M t) (hb : Below w.heap.size w w') : Tb w' E M t := by
 obtain ⟨h0, h1, es, clock, h2, h3⟩ := h
 exact ⟨h0, (hb.block E (Array.getElem?_eq_some_iff.1 h1).1).trans h1, es, clock, (hb.block M (Array.getElem?_eq_some_iff.1 h2).1).trans h2, h3.mono fun v u hv => hv.below hb⟩
set_option maxRecDepth 100000 in
theorem new_any (w : World) : Calls Tryz.prog 13 #[] w fun e w' => e = .returned (.pointer (some ⟨w.heap.size + 1, 0, none⟩)) ∧ Tb w' (w.heap.size + 1) w.heap.size [] ∧ Below w.heap.size w w' := by
 have h1 := heap_alloc_new w (.map #[] 0)
 have h2 := heap_alloc_new (w.alloc (.map #[] 0)) (.cells #[.map (some w.heap.size)] 60)
 have b1 := below_alloc w (.map #[] 0)
 have b2 := below_alloc (w.alloc (.map #[] 0)) (.cells #[.map (some w.heap.size)] 60)
 have HT : Hid (Tb ((w.alloc (.map #[] 0)).alloc (.cells #[.map (some w.heap.size)] 60)) (w.heap.size + 1) w.heap.size []) := by
  refine ⟨by omega, ?_, #[], 0, ?_, trivial⟩
  ·rw [World.size_alloc] at h2; exact h2
  ·exact (b2.block w.heap.size (by simp)).trans h1
 have HB : Hid (Below w.heap.size w ((w.alloc (.map #[] 0)).alloc (.cells #[.map (some w.heap.size)] 60))) := b1.trans (b2.mono b1.size)
 clear h1 h2 b1 b2
 have hmm : ∀ w : World, (Instr.makeMap 58 none).run Tryz.prog w = .ok (.map (some w.heap.size)) (w.alloc (.map #[] 0)) := fun _ => rfl
 go_enter Tryz.func13, Tryz.ntmps13
 go_wp2_with fail
 go_ret
 exact ⟨rfl, HT.out, HB.out⟩
def failE (k : Nat) : Value := if k = 0 then .nilIface else .iface 125 (.int .i64 (k : Nat))
set_option maxRecDepth 100000 in
theorem fail_any (k : Nat) (w : World) : Calls Tryz.prog 56 #[.int .i64 (k : Nat)] w fun e w' => e = .returned (failE k) ∧ w = w' := by
 by_cases h : k = 0
 ·subst h
  go_enter Tryz.func56, Tryz.ntmps56
  go_wp2_with fail
  go_ret
  exact ⟨rfl, rfl⟩
 ·have h1 : ((k : Int) == 0) = false := by simp; omega
  have HF : Hid (failE k = .iface 125 (.int .i64 (k : Nat))) := if_neg h
  clear h
  go_enter Tryz.func56, Tryz.ntmps56
  go_wp2_with fail
  go_ret
  refine ⟨?_, rfl⟩
  rw [HF.out]; rfl
end Go.Proofs.YtceggplnggkdnaaGreatDoor
namespace Go.Proofs.YtceggplnggkdnaaGreatDoor
open Go.RowKit NatP LexP Go.ChangeMaps
def mbl (l : List (Bool × Nat)) : Nat := l.foldl (fun a p => max a (SynP.bitsV p.2)) 0
theorem mbl_snoc {l : List (Bool × Nat)} {k : Nat} {p : Bool × Nat} (h : l[k]? = some p) : mbl (l.take (k + 1)) = max (mbl (l.take k)) (SynP.bitsV p.2) := by
 obtain ⟨hl, he⟩ := List.getElem?_eq_some_iff.1 h
 unfold mbl
 rw [List.take_add_one, h]
 simp [List.foldl_append]
set_option maxRecDepth 100000 in
set_option maxHeartbeats 1000000 in
theorem mbits_any (r c : Int) (l : List (Bool × Nat)) (v : Value) (w : World) (hv : IRs w v l) (hn : l.length ≤ 1073741824) :
  Calls Tryz.prog 111 #[.agg #[.int .i64 r, .int .i64 c, v]] w fun e w' => e = .returned (.int .i64 (mbl l : Nat)) ∧ Below w.heap.size w w' := by
 have HV := Lib.hid hv
 obtain ⟨ao, cap, rfl, h1, h2, h3⟩ := hv
 obtain ⟨n, hnn⟩ : ∃ n, n = l.length := ⟨_, rfl⟩
 rw [← hnn] at h1 hn h3 HV ⊢
 have HN := Lib.hid hnn
 have H3 := Lib.hid h3
 have HA := Lib.hid (below_alloc w (.cells #[.int .i64 r, .int .i64 c, .slice ao n cap] 122))
 clear hnn h3
 go_enter Tryz.func111, Tryz.ntmps111
 go_wp2_with fail
 generalize w.alloc (.cells #[.int .i64 r, .int .i64 c, .slice ao n cap] 122) = w1 at *
 go_loopw [3, 10] (fun m i wr => ∃ k, k ≤ n ∧ i = .int .i64 (k : Nat) ∧ m = .int .i64 (mbl (l.take k) : Nat) ∧ Below w.heap.size w wr) (fun _ i _ => n - (intOf i).toNat)
 case atStart => exact ⟨0, Nat.zero_le _, rfl, rfl, HA.out⟩
 case round =>
  obtain ⟨k, hk, rfl, rfl, hb⟩ := hrel
  have HB := Lib.hid hb
  clear hb
  by_cases hlt : k < n
  ·obtain ⟨p, hp⟩ : ∃ p, l[k]? = some p := ⟨_, List.getElem?_eq_getElem (by have := HN.out; omega)⟩
   obtain ⟨g, o, hao, a2, a3⟩ := H3.out (by omega)
   subst hao
   obtain ⟨m, xs, b1, b2, b3, b4, b5, b6⟩ := a3 k p hp
   have c1 := (HB.out.cell (p := ⟨g, o + k * 2, none⟩) a2).trans b1
   have c2 := (HB.out.cell (p := ⟨g, o + k * 2 + 1, none⟩) a2).trans b2
   obtain ⟨mo, mcap, hm, -, -, hok, -⟩ := b3.2
   subst hm
   have HB2 := Lib.hid (HB.out.trans ((below_alloc wr (.cells #[.bool p.1, .slice mo xs.length mcap] 115)).mono HB.out.size))
   have HX := Lib.hid (b3.below HB2.out)
   have HBV : Hid (bitsN xs = SynP.bitsV p.2) := by show _ = _; rw [bitsN_val xs hok, b4]
   obtain ⟨q, hq⟩ : ∃ q, q = SynP.bitsV p.2 := ⟨_, rfl⟩
   rw [← hq] at HBV
   obtain ⟨M, hM⟩ : ∃ M, M = mbl (l.take k) := ⟨_, rfl⟩
   have HNX : Hid (mbl (l.take (k + 1)) = max M q) := by show _ = _; rw [mbl_snoc hp, hM, hq]
   rw [← hM]
   have hmx : max (M : Int) (q : Int) = ((max M q : Nat) : Int) := by omega
   have HMX := Lib.hid hmx
   have hxl : xs.length ≤ 1099511627776 := by omega
   clear hM hq hp a3 b1 b2 b3 b4 b5 b6 hok hmx
   go_wp2_with fail
   refine (bitLen_any _ xs _ HX.out hxl).mono ?_
   rintro e w2 ⟨rfl, rfl⟩
   rw [HBV.out]
   have hmx := HMX.out
   go_wp2_with fail
   have hfin : ∃ k', k' ≤ n ∧ (Value.int .i64 ((k : Int) + 1)) = .int .i64 (k' : Nat) ∧ (Value.int .i64 ((max M q : Nat) : Int)) = .int .i64 (mbl (l.take k') : Nat) ∧ Below w.heap.size w (wr.alloc (.cells #[.bool p.1, .slice mo xs.length mcap] 115)) :=
    ⟨k + 1, by omega, by go_num, by rw [HNX.out], HB2.out⟩
   exact ⟨hfin, by simp [intOf]; omega⟩
  ·obtain rfl : k = n := by omega
   have HT : Hid (l.take k = l) := by show _ = _; rw [List.take_of_length_le (by have := HN.out; omega)]
   go_wp2_with fail
   go_ret
   exact ⟨by rw [HT.out]; rfl, HB.out⟩
set_option maxRecDepth 100000 in
theorem digits_any (n : Nat) (w : World) (hn : n < 9223372036854775807) :
  Calls Tryz.prog 112 #[.int .i64 (n : Nat)] w fun e w' => e = .returned (.int .i64 (SynP.bitsV n : Nat)) ∧ Below w.heap.size w w' := by
 have hw : IntKind.u64.wrap (n : Int) = (n : Int) := u64_in n (by omega)
 have hb := heap_alloc_new w (.cells #[.int .u64 (n : Nat)] 215)
 have HA := Lib.hid (below_alloc w (.cells #[.int .u64 (n : Nat)] 215))
 have HR : Hid (Rd (w.alloc (.cells #[.int .u64 (n : Nat)] 215)) (.slice (some ⟨w.heap.size, 0, none⟩) 1 1) [n]) := by
  refine ⟨fun k hk => by cases hk; simp, _, 1, rfl, by simp, by unfold maxLen; omega, ?_, fun i x hx => ⟨_, _, rfl, ?_⟩⟩
  ·intro d hd
   rw [List.mem_singleton] at hd
   subst hd
   unfold BB; omega
  ·match i, hx with
   | 0, hx =>
    cases hx
    exact (cell_of_row _ _ _ _ _ _ hb).trans rfl
 have HV : Hid (bitsN [n] = SynP.bitsV n) := by show _ = _; rw [bitsN_val [n] HR.out.ok]; simp [NatP.val]
 clear hb
 go_enter Tryz.func112, Tryz.ntmps112
 go_wp2_with fail
 refine (bitLen_any _ [n] _ HR.out (by simp)).mono ?_
 rintro e w2 ⟨rfl, rfl⟩
 rw [HV.out]
 go_wp2_with fail
 go_ret
 exact ⟨rfl, HA.out⟩
end Go.Proofs.YtceggplnggkdnaaGreatDoor
