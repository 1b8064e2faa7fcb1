/- Joined texts of this claim's proof: Pa1, SynG, SynD, SynV. -/
import Derived.Test.YtgfmiladfeoldaaGreatDoorPl32
import Derived.Test.YtgfmiladfeoldaaGreatDoorPl34
import Derived.Test.YtgfmiladfeoldaaGreatDoorPl26
import Derived.Test.YtgfmiladfeoldaaGreatDoorPl33
set_option linter.unusedSimpArgs false
set_option linter.unusedVariables false
namespace Go.Proofs.YtgfmiladfeoldaaGreatDoor
open Go.RowKit NatP LexP
theorem below_next {a b c : World} (h : Below a.heap.size a b) (k : Below b.heap.size b c) : Below a.heap.size a c := h.trans (k.mono h.size)
def Fits (l : Bytes) : Prop := l.length ≤ 67108864
theorem toks_lb : ∀ (n : Nat) (cs : List C) (col : Nat) (ts : List Tok), cs.length ≤ n → Toks col cs = .ok ts → (ts.map fun t => t.2.1.length + 1).sum ≤ (bytesOf cs).length + 2 * cs.length := by
 intro n
 induction n with
 | zero =>
  intro cs col ts hl h
  rw [List.eq_nil_of_length_eq_zero (Nat.le_zero.1 hl), Toks_nil] at h
  cases h
  exact Nat.zero_le _
 | succ n ih =>
  intro cs col ts hl h
  cases cs with
  | nil =>
   rw [Toks_nil] at h
   cases h
   exact Nat.zero_le _
  | cons c cs =>
   have step : ∀ (k col : Nat) (m : List Tok), 1 ≤ k → Toks col ((c :: cs).drop k) = .ok m → (m.map fun t => t.2.1.length + 1).sum + (bytesOf ((c :: cs).take k)).length + 2 ≤ (bytesOf (c :: cs)).length + 2 * (c :: cs).length := by
    intro k col m hk hm
    have e := congrArg List.length (SynP.bytes_split k (c :: cs))
    rw [List.length_append] at e
    have hd : ((c :: cs).drop k).length + 1 ≤ (c :: cs).length := by rw [List.length_drop, List.length_cons]; omega
    have := ih _ _ _ (by omega) hm
    omega
   have hk := kd_le c
   by_cases k0 : kd c = 0
   ·rw [Toks_bad _ k0] at h; cases h
   by_cases k1 : kd c = 1
   ·rw [Toks_blank _ k1] at h
    have := step 1 _ _ (Nat.le_refl _) h
    omega
   by_cases k2 : kd c = 2
   ·rw [Toks_hash _ k2] at h
    split at h
    ·cases h
    ·cases h
     exact Nat.zero_le _
   by_cases k3 : kd c = 3
   ·rw [Toks_num _ k3] at h
    split at h
    ·cases h
    ·obtain ⟨m, hm, rfl⟩ := SynP.after_mem h
     have := step _ _ _ (runLen_pos (p := isNum) (c := c) (cs := cs) (by simp [isNum, k3])) hm
     rw [List.map_append, List.sum_append]
     simp only [List.map_cons, List.map_nil, List.sum_cons, List.sum_nil]
     omega
   by_cases k4 : kd c = 4
   ·rw [Toks_name _ k4] at h
    split at h
    ·cases h
    ·obtain ⟨m, hm, rfl⟩ := SynP.after_mem h
     have := step _ _ _ (runLen_pos (p := isAl) (c := c) (cs := cs) (by simp [isAl, k4])) hm
     rw [List.map_append, List.sum_append]
     simp only [List.map_cons, List.map_nil, List.sum_cons, List.sum_nil]
     omega
   by_cases k5 : kd c = 5
   ·rw [Toks_mark _ k5] at h
    obtain ⟨m, hm, rfl⟩ := SynP.after_mem h
    have := step 1 _ _ (Nat.le_refl _) hm
    have e1 : bytesOf ((c :: cs).take 1) = c.2 := by simp [bytesOf]
    rw [e1] at this
    have hs : (signOf c).length ≤ c.2.length + 1 := by
     unfold signOf
     repeat' split
     all_goals simp
    rw [List.map_append, List.sum_append]
    simp only [List.map_cons, List.map_nil, List.sum_cons, List.sum_nil]
    omega
   ·rw [Toks_other _ (by omega)] at h; cases h
theorem Fits.toks {l : Bytes} (h : Fits l) {ts : List Tok} (ht : Toks 1 (chars l) = .ok ts) : ts.length ≤ 67108864 ∧ (ts.map fun t => t.2.1.length + 1).sum ≤ 201326592 := by
 unfold Fits at h
 have h1 := (Toks_bounds _ _ _ ht).1
 have h2 := chars_len l
 have h3 := toks_lb _ _ _ _ (Nat.le_refl _) ht
 rw [bytesOf_chars] at h3
 omega
theorem Fits.good {l : Bytes} (h : Fits l) {ts : List Tok} (ht : Toks 1 (chars l) = .ok ts) : ∀ t ∈ ts, TokOk t := fun t hm h1 => by
 obtain ⟨a, b, c⟩ := toks_nums_of ht t hm h1
 refine ⟨a, b, ?_, c⟩
 have h2 := SynP.toks_text _ _ _ _ (Nat.le_refl _) ht t hm h1
 rw [bytesOf_chars] at h2
 exact Nat.le_trans h2 h
def StP (l : Bytes) (w : World) (e : Ending) (w' : World) : Prop :=
 match Toks 1 (chars l) with
 | .error (c, k) => e = .returned (.tuple #[.pointer none, .int .i64 (c : Nat), .int .i64 (k : Nat)]) ∧ Below w.heap.size w w'
 | .ok ts => ∃ R tv, e = .returned (.tuple #[.pointer (some ⟨R, 0, none⟩), .int .i64 0, .int .i64 0]) ∧ w.heap.size ≤ R ∧ Below w.heap.size w w' ∧ RS w' R tv ts ((chars l).length + 1) 0 ⟨ts, 0⟩ (.slice none 0 0) []
set_option maxRecDepth 100000 in
theorem start_any (s : ByteArray) (w : World) (hf : Fits s.data.toList) (hx : Lx w) (hs : SG w) (hsz : 4 < w.heap.size) :
  Calls Tryz.prog 47 #[.string s] w (StP s.data.toList w) := by
 have HF := Lib.hid hf
 have HX := Lib.hid hx
 have HSG := Lib.hid hs
 have hs4 : s.size ≤ 67108864 := by rw [Lib.size_eq]; exact hf
 clear hf hx hs
 go_enter Tryz.func47, Tryz.ntmps47
 go_wp2_with fail
 refine (tokens_big s _ hs4 HX.out).mono ?_
 rintro e w1 ⟨v, rfl, h1, h2⟩
 cases hT : Toks 1 (chars s.data.toList) with
 | error p =>
  obtain ⟨c, k⟩ := p
  have HT := Lib.hid hT
  have hk0 := (Toks_err _ _ _ hT).1
  have H2 := Lib.hid h2
  clear h1 h2 hT
  have ec : (resCol (.error (c, k)) : Nat) = c := rfl
  have ek : (resErr (.error (c, k)) : Nat) = k := rfl
  rw [ec, ek]
  simp only at hk0
  have hkk : ((k : Int) != 0) = true := by simp; omega
  go_wp2_with fail
  go_ret3
  unfold StP
  rw [HT.out]
  exact ⟨rfl, H2.out⟩
 | ok ts =>
  have HT := Lib.hid hT
  have h1' : w1.ownsRow w.heap.size 119 3 v ts.length (tkCells ts) := by rw [hT] at h1; exact h1
  have H1 := Lib.hid h1'
  obtain ⟨ao, cap, rfl, -, -, -⟩ := ownsRow_shape h1'
  have H2 := Lib.hid h2
  have hcl := SynP.Toks_clean _ _ _ hT
  have HCL : Hid (colRes s.data.toList = ((chars s.data.toList).length, 0)) := by show _ = _; unfold colRes; rw [if_pos hcl]
  have hlen := chars_len s.data.toList
  rw [← Lib.size_eq] at hlen
  clear h1 h1' h2 hT hcl
  have ec : (resCol (.ok ts) : Nat) = 0 := rfl
  have ek : (resErr (.ok ts) : Nat) = 0 := rfl
  rw [ec, ek]
  go_wp2_with fail
  refine (columns_big s _ hs4).mono ?_
  rintro e w2 ⟨rfl, h3⟩
  rw [HCL.out]
  have H3 := Lib.hid h3
  clear h3
  obtain ⟨n, hn⟩ : ∃ n, n = (chars s.data.toList).length := ⟨_, rfl⟩
  rw [← hn] at hlen
  simp only
  rw [← hn]
  have HN := Lib.hid hn
  clear hn
  go_wp2_with fail
  go_ret3
  have hb := below_next H2.out H3.out
  obtain ⟨hts, hsm⟩ := HF.out.toks HT.out
  unfold StP
  rw [HT.out]
  refine ⟨w2.heap.size, .slice ao ts.length cap, rfl, hb.size, below_next hb (below_alloc _ _), ?_⟩
  have hal := below_alloc w2 (.cells #[.slice ao ts.length cap, .int .i64 0, .int .i64 ((n : Int) + 1), .int .i64 0, .slice none 0 0] 85)
  refine { blk := ?_, tks := ?_, drop := rfl, le := Nat.zero_le _, own := World.ownsRow_nil _ _ _ _, kids := (fun p hp => by cases hp), apart := (fun i j p q k h => by simp at h), few := (by show 0 + ts.length ≤ _; omega), deep := Nat.zero_le _, short := hts, sum := hsm, good := HF.out.good HT.out, sg := ?_, sgl := ?_ }
  ·rw [← HN.out]; exact heap_alloc_new w2 _
  ·obtain ⟨ao', cap', e, a1, a2, a3⟩ := ownsRow_shape H1.out
   cases e
   refine ⟨ao, cap, rfl, a1, a2, fun h0 => ?_⟩
   obtain ⟨g, rfl, b1, b2, b3⟩ := a3 h0
   refine ⟨g, rfl, Nat.lt_of_lt_of_le b2 H3.out.size, fun j t hj => ?_⟩
   have hjl := (List.getElem?_eq_some_iff.1 hj).1
   obtain ⟨c1, c2, c3⟩ := tkCells_at ts j t hj
   have hc : ∀ o, (w2.alloc (.cells #[.slice (some ⟨g, 0, none⟩) ts.length cap, .int .i64 0, .int .i64 ((n : Int) + 1), .int .i64 0, .slice none 0 0] 85)).cell? ⟨g, o, none⟩ = w1.cell? ⟨g, o, none⟩ := fun o =>
    (hal.cell (p := ⟨g, o, none⟩) (Nat.lt_of_lt_of_le b2 H3.out.size)).trans (H3.out.cell (p := ⟨g, o, none⟩) b2)
   exact ⟨by rw [hc, b3 _ (by omega)]; exact c1, by rw [hc, b3 _ (by omega)]; exact c2, by rw [hc, b3 _ (by omega), c3]⟩
  ·exact HSG.out.below (below_next hb hal) hsz
  ·exact Nat.lt_of_lt_of_le hsz hb.size
structure Tr (w : World) (B : Nat) (nv : Value) (ns : List Nv) : Prop where
 own : w.ownsRow B 43 3 nv ns.length (ndCells ns)
 kids : ∀ p ∈ ns, KR w B nv.ownBlock p.2 p.1.kids
 apart : ∀ (i j : Nat) (p q : Nv) (k : Nat), ns[i]? = some p → ns[j]? = some q → p.2.ownBlock = some k → q.2.ownBlock = some k → i = j
theorem ownsRow_low {w : World} {B B' k n : Nat} {e : TypeId} {v : Value} {cs : List Value} (h : w.ownsRow B e k v n cs) (hB : B' ≤ B) : w.ownsRow B' e k v n cs := by
 refine ⟨h.1, ?_⟩
 rcases h.2 with hn | ⟨g, cap, cur, rfl, hb, hgg, rest⟩
 ·exact .inl hn
 ·exact .inr ⟨g, cap, cur, rfl, Nat.le_trans hB hb, hgg, rest⟩
theorem KR.low {w : World} {R R' : Nat} {og : Option Nat} {v : Value} {ks : List Nat} (h : KR w R og v ks) (hr : R' ≤ R) : KR w R' og v ks := by
 obtain ⟨ao, cap, rfl, h1, h2, h3, h4⟩ := h
 exact ⟨ao, cap, rfl, h1, h2, fun q hq => ⟨Nat.lt_of_le_of_lt hr (h3 q hq).1, (h3 q hq).2⟩, h4⟩
theorem RS.tr {w : World} {R : Nat} {tv : Value} {L : List Tok} {fin a : Nat} {s : SynP.St} {nv : Value} {ns : List Nv} (h : RS w R tv L fin a s nv ns) {B : Nat} (hB : B ≤ R) : Tr w B nv ns :=
 ⟨ownsRow_low h.own (by omega), fun p hp => (h.kids p hp).low hB, h.apart⟩
def PaP (l : Bytes) (w : World) (e : Ending) (w' : World) : Prop :=
 match SynP.parseV l with
 | .error (c, k) => e = .returned (.tuple #[.slice none 0 0, .int .i64 (c : Nat), .int .i64 (k : Nat)]) ∧ Below w.heap.size w w'
 | .ok n => ∃ nv ns, e = .returned (.tuple #[nv, .int .i64 0, .int .i64 0]) ∧ Below w.heap.size w w' ∧ Tr w' w.heap.size nv ns ∧ ns.map Prod.fst = n.flat
theorem Wr.belowR {R : Nat} {w0 w w' : World} (h : Wr R none w w') (hb : Below w0.heap.size w0 w) (hB : w0.heap.size ≤ R) : Below w0.heap.size w0 w' :=
 ⟨h.os.trans hb.os, h.tape.trans hb.tape, h.output.trans hb.output, Nat.le_trans hb.size h.size, fun k hk => (h.block k (Nat.lt_of_lt_of_le hk hb.size) (by omega) (by simp)).trans (hb.block k hk)⟩
end Go.Proofs.YtgfmiladfeoldaaGreatDoor
namespace SynP
open LexP
structure NI where
 op : Int
 text : Bytes
 kids : List Int
deriving DecidableEq
def Node.toI (n : Node) : NI := ⟨n.op, n.text, n.kids.map fun k : Nat => (k : Int)⟩
def cnt (op : Int) (k : Nat) : Bool :=
 if op = 1 ∨ op = 2 ∨ op = 3 ∨ op = 13 ∨ op = 14 then k == 0
 else if op = 4 ∨ op = 5 ∨ op = 9 ∨ op = 11 then k == 1
 else if op = 6 ∨ op = 7 ∨ op = 8 then k == 2
 else if op = 10 then decide (1 ≤ k)
 else decide (op = 12)
def wholeI (op : Int) : Bool := op == 11 || op == 12 || op == 14
def kidsOf (free : List Nat) (k : Nat) : List Int := (free.drop (free.length - k)).map fun k : Nat => (k : Int)
def stepOk (W : Int → Bytes → Bool) (n i : Nat) (free : List Nat) (x : NI) : Bool :=
 !(wholeI x.op != (i + 1 == n) || !cnt x.op x.kids.length || decide (free.length < x.kids.length) || !W x.op x.text)
def grownL (W : Int → Bytes → Bool) (n : Nat) : Nat → List Nat → List NI → Bool
 | _, free, [] => free.length == 1
 | i, free, x :: l =>
  if stepOk W n i free x then
   if x.kids = kidsOf free x.kids.length then grownL W n (i + 1) (free.take (free.length - x.kids.length) ++ [i]) l else false
  else false
structure WOk (W : Int → Bytes → Bool) : Prop where
 num : ∀ t, W 1 t = true ↔ ∃ n, t = decT n
 pow : ∀ t, W 9 t = true ↔ ∃ n, t = decT n
 name : ∀ t, W 2 t = true ↔ NameOk t
 call : ∀ t, W 10 t = true ↔ NameOk t
 lets : ∀ t, W 11 t = true ↔ NameOk t
 cmd : ∀ t, W 12 t = true ↔ NameOk t ∧ t ≠ letB
 mat : ∀ t, W 3 t = true ↔ ∃ m, MatOk m ∧ t = matT m
 cpx : ∀ t, W 13 t = true ↔ ∃ l, CpxOk l ∧ t = cpxT l
 none : ∀ (op : Int) t, op = 4 ∨ op = 5 ∨ op = 6 ∨ op = 7 ∨ op = 8 ∨ op = 14 → (W op t = true ↔ t = [])
def nL (l : List Node) : List NI := l.map Node.toI
theorem nL_app (a b : List Node) : nL (a ++ b) = nL a ++ nL b := by simp [nL]
theorem step_go {W : Int → Bytes → Bool} {n i : Nat} {free fr : List Nat} {x : NI} {ks : List Nat} {l : List NI} (hf : free = fr ++ ks) (hk : x.kids = ks.map fun k : Nat => (k : Int)) (hc : cnt x.op ks.length = true) (ht : W x.op x.text = true) (hw : wholeI x.op = (i + 1 == n)) :
  grownL W n i free (x :: l) = grownL W n (i + 1) (fr ++ [i]) l := by
 subst hf
 have hkl : x.kids.length = ks.length := by rw [hk, List.length_map]
 rw [grownL, if_pos, if_pos]
 ·have : (fr ++ ks).length - x.kids.length = fr.length := by rw [hkl, List.length_append]; omega
  rw [this, List.take_left]
 ·unfold kidsOf
  have : (fr ++ ks).length - x.kids.length = fr.length := by rw [hkl, List.length_append]; omega
  rw [this, List.drop_left]; exact hk
 ·unfold stepOk
  rw [hkl, hc, ht, hw]
  have : ¬ ((fr ++ ks).length < ks.length) := by rw [List.length_append]; omega
  simp [this]
theorem size_pos' : ∀ e : Ex, 0 < e.size := by
 intro e; cases e <;> simp [Ex.size]
mutual
theorem ex_grown {W : Int → Bytes → Bool} (hW : WOk W) (n : Nat) : ∀ (e : Ex) (o : Nat) (free : List Nat) (l : List NI), e.wf → o + e.size < n → grownL W n o free (nL (e.flat o) ++ l) = grownL W n (o + e.size) (free ++ [o + e.size - 1]) l
 | .num m, o, free, l, _, hn => by
  have hn' : o + 1 < n := hn
  exact step_go (ks := []) (by simp) rfl rfl ((hW.num _).2 ⟨m, rfl⟩) (by show false = _; simp; omega)
 | .name x, o, free, l, h, hn => by
  have hn' : o + 1 < n := hn
  exact step_go (ks := []) (by simp) rfl rfl ((hW.name _).2 h) (by show false = _; simp; omega)
 | .mat m, o, free, l, h, hn => by
  have hn' : o + 1 < n := hn
  exact step_go (ks := []) (by simp) rfl rfl ((hW.mat _).2 ⟨m, h, rfl⟩) (by show false = _; simp; omega)
 | .cpx c, o, free, l, h, hn => by
  have hn' : o + 1 < n := hn
  exact step_go (ks := []) (by simp) rfl rfl ((hW.cpx _).2 ⟨c, h, rfl⟩) (by show false = _; simp; omega)
 | .neg a, o, free, l, h, hn => by
  have hn' : o + (a.size + 1) < n := hn
  have hp := size_pos' a
  show grownL W n o free (nL (a.flat o ++ [⟨4, [], [o + a.size - 1]⟩]) ++ l) = _
  rw [nL_app, List.append_assoc, ex_grown hW n a o free _ h (by omega)]
  have := step_go (W := W) (n := n) (i := o + a.size) (free := free ++ [o + a.size - 1]) (fr := free) (x := Node.toI ⟨4, [], [o + a.size - 1]⟩) (ks := [o + a.size - 1]) (l := l) rfl rfl rfl ((hW.none 4 _ (by simp)).2 rfl) (by show false = _; simp; omega)
  exact this
 | .turn a, o, free, l, h, hn => by
  have hn' : o + (a.size + 1) < n := hn
  have hp := size_pos' a
  show grownL W n o free (nL (a.flat o ++ [⟨5, [], [o + a.size - 1]⟩]) ++ l) = _
  rw [nL_app, List.append_assoc, ex_grown hW n a o free _ h (by omega)]
  have := step_go (W := W) (n := n) (i := o + a.size) (free := free ++ [o + a.size - 1]) (fr := free) (x := Node.toI ⟨5, [], [o + a.size - 1]⟩) (ks := [o + a.size - 1]) (l := l) rfl rfl rfl ((hW.none 5 _ (by simp)).2 rfl) (by show false = _; simp; omega)
  exact this
 | .pow a m, o, free, l, h, hn => by
  have hn' : o + (a.size + 1) < n := hn
  have hp := size_pos' a
  show grownL W n o free (nL (a.flat o ++ [⟨9, decT m, [o + a.size - 1]⟩]) ++ l) = _
  rw [nL_app, List.append_assoc, ex_grown hW n a o free _ h (by omega)]
  have := step_go (W := W) (n := n) (i := o + a.size) (free := free ++ [o + a.size - 1]) (fr := free) (x := Node.toI ⟨9, decT m, [o + a.size - 1]⟩) (ks := [o + a.size - 1]) (l := l) rfl rfl rfl ((hW.pow _).2 ⟨m, rfl⟩) (by show false = _; simp; omega)
  exact this
 | .add a b, o, free, l, h, hn => by
  have hn' : o + (a.size + b.size + 1) < n := hn
  have hp := size_pos' a
  have hq := size_pos' b
  show grownL W n o free (nL (a.flat o ++ b.flat (o + a.size) ++ [⟨6, [], [o + a.size - 1, o + a.size + b.size - 1]⟩]) ++ l) = _
  rw [nL_app, nL_app, List.append_assoc, List.append_assoc, ex_grown hW n a o free _ h.1 (by omega), ex_grown hW n b _ _ _ h.2 (by omega)]
  have := step_go (W := W) (n := n) (i := o + a.size + b.size) (free := free ++ [o + a.size - 1] ++ [o + a.size + b.size - 1]) (fr := free) (x := Node.toI ⟨6, [], [o + a.size - 1, o + a.size + b.size - 1]⟩) (ks := [o + a.size - 1, o + a.size + b.size - 1]) (l := l) (by simp) rfl rfl ((hW.none 6 _ (by simp)).2 rfl) (by show false = _; simp; omega)
  refine this.trans ?_
  have e : o + (Ex.add a b).size = o + a.size + b.size + 1 := by show o + (a.size + b.size + 1) = _; omega
  rw [e]; rfl
 | .sub a b, o, free, l, h, hn => by
  have hn' : o + (a.size + b.size + 1) < n := hn
  have hp := size_pos' a
  have hq := size_pos' b
  show grownL W n o free (nL (a.flat o ++ b.flat (o + a.size) ++ [⟨7, [], [o + a.size - 1, o + a.size + b.size - 1]⟩]) ++ l) = _
  rw [nL_app, nL_app, List.append_assoc, List.append_assoc, ex_grown hW n a o free _ h.1 (by omega), ex_grown hW n b _ _ _ h.2 (by omega)]
  have := step_go (W := W) (n := n) (i := o + a.size + b.size) (free := free ++ [o + a.size - 1] ++ [o + a.size + b.size - 1]) (fr := free) (x := Node.toI ⟨7, [], [o + a.size - 1, o + a.size + b.size - 1]⟩) (ks := [o + a.size - 1, o + a.size + b.size - 1]) (l := l) (by simp) rfl rfl ((hW.none 7 _ (by simp)).2 rfl) (by show false = _; simp; omega)
  refine this.trans ?_
  have e : o + (Ex.sub a b).size = o + a.size + b.size + 1 := by show o + (a.size + b.size + 1) = _; omega
  rw [e]; rfl
 | .mul a b, o, free, l, h, hn => by
  have hn' : o + (a.size + b.size + 1) < n := hn
  have hp := size_pos' a
  have hq := size_pos' b
  show grownL W n o free (nL (a.flat o ++ b.flat (o + a.size) ++ [⟨8, [], [o + a.size - 1, o + a.size + b.size - 1]⟩]) ++ l) = _
  rw [nL_app, nL_app, List.append_assoc, List.append_assoc, ex_grown hW n a o free _ h.1 (by omega), ex_grown hW n b _ _ _ h.2 (by omega)]
  have := step_go (W := W) (n := n) (i := o + a.size + b.size) (free := free ++ [o + a.size - 1] ++ [o + a.size + b.size - 1]) (fr := free) (x := Node.toI ⟨8, [], [o + a.size - 1, o + a.size + b.size - 1]⟩) (ks := [o + a.size - 1, o + a.size + b.size - 1]) (l := l) (by simp) rfl rfl ((hW.none 8 _ (by simp)).2 rfl) (by show false = _; simp; omega)
  refine this.trans ?_
  have e : o + (Ex.mul a b).size = o + a.size + b.size + 1 := by show o + (a.size + b.size + 1) = _; omega
  rw [e]; rfl
 | .call x ks, o, free, l, h, hn => by
  have hn' : o + (ks.size + 1) < n := hn
  show grownL W n o free (nL (ks.flat o ++ [⟨10, x, ks.roots o⟩]) ++ l) = _
  rw [nL_app, List.append_assoc, exs_grown hW n ks o free _ h.2.2 (by omega)]
  have hlen : cnt 10 (ks.roots o).length = true := by
   cases ks with
   | nil => exact absurd rfl h.2.1
   | cons a k => simp [cnt, Exs.roots]
  have := step_go (W := W) (n := n) (i := o + ks.size) (free := free ++ ks.roots o) (fr := free) (x := Node.toI ⟨10, x, ks.roots o⟩) (ks := ks.roots o) (l := l) rfl rfl hlen ((hW.call _).2 h.1) (by show false = _; simp; omega)
  exact this
theorem exs_grown {W : Int → Bytes → Bool} (hW : WOk W) (n : Nat) : ∀ (ks : Exs) (o : Nat) (free : List Nat) (l : List NI), ks.wf → o + ks.size < n → grownL W n o free (nL (ks.flat o) ++ l) = grownL W n (o + ks.size) (free ++ ks.roots o) l
 | .nil, o, free, l, _, _ => by
  show grownL W n o free ([] ++ l) = grownL W n (o + 0) (free ++ []) l
  rw [List.append_nil]; rfl
 | .cons a ks, o, free, l, h, hn => by
  have hn' : o + (a.size + ks.size) < n := hn
  show grownL W n o free (nL (a.flat o ++ ks.flat (o + a.size)) ++ l) = grownL W n (o + (a.size + ks.size)) (free ++ (o + a.size - 1) :: ks.roots (o + a.size)) l
  rw [nL_app, List.append_assoc, ex_grown hW n a o free _ h.1 (by omega), exs_grown hW n ks _ _ _ h.2 (by omega)]
  rw [List.append_assoc, Nat.add_assoc]; rfl
end
theorem line_grown {W : Int → Bytes → Bool} (hW : WOk W) (ln : Ln) (h : ln.wf) : grownL W ln.size 0 [] (nL ln.flat) = true := by
 cases ln with
 | nothing =>
  show grownL W 1 0 [] (Node.toI ⟨14, [], []⟩ :: []) = true
  have := step_go (W := W) (n := 1) (i := 0) (free := []) (fr := []) (x := Node.toI ⟨14, [], []⟩) (ks := []) (l := []) rfl rfl rfl ((hW.none 14 _ (by simp)).2 rfl) rfl
  exact this.trans rfl
 | lets x e =>
  have hp := size_pos' e
  show grownL W (e.size + 1) 0 [] (nL (e.flat 0 ++ [⟨11, x, [e.size - 1]⟩])) = true
  rw [nL_app, ex_grown hW _ e 0 [] _ h.2 (by omega)]
  have := step_go (W := W) (n := e.size + 1) (i := 0 + e.size) (free := [] ++ [0 + e.size - 1]) (fr := []) (x := Node.toI ⟨11, x, [e.size - 1]⟩) (ks := [e.size - 1]) (l := []) (by simp) rfl rfl ((hW.lets _).2 h.1) (by show true = _; simp)
  exact this.trans rfl
 | cmd x ks =>
  show grownL W (ks.size + 1) 0 [] (nL (ks.flat 0 ++ [⟨12, x, ks.roots 0⟩])) = true
  rw [nL_app, exs_grown hW _ ks 0 [] _ h.2.2 (by omega)]
  have := step_go (W := W) (n := ks.size + 1) (i := 0 + ks.size) (free := [] ++ ks.roots 0) (fr := []) (x := Node.toI ⟨12, x, ks.roots 0⟩) (ks := ks.roots 0) (l := []) rfl rfl rfl ((hW.cmd _).2 ⟨h.1, h.2.1⟩) (by show true = _; simp)
  exact this.trans rfl
end SynP
namespace SynP
open LexP
theorem join_lx {α : Type} {sep : Bytes} {sk : List KT} (hs : LxA sep sk) (hd : Sd sep) (f : α → Bytes) (g : α → List KT) : ∀ l : List α, (∀ x ∈ l, LxD (f x) (g x)) → LxD (joinB sep (l.map f)) (joinK sk (l.map g))
 | [], _ => LxA.nil.d
 | [a], h => h a (by simp)
 | a :: b :: l, h => by
  have h1 := join_lx hs hd f g (b :: l) (fun x hx => h x (List.mem_cons_of_mem _ hx))
  have h2 := ((h a (by simp)).appA hs hd).appD h1
  exact h2
theorem joinK_nil : ∀ l : List (List KT), joinK [] l = l.flatten
 | [] => rfl
 | [a] => by simp [joinK]
 | a :: b :: l => by
  show a ++ [] ++ joinK [] (b :: l) = _
  rw [joinK_nil (b :: l)]; simp
theorem rowsOf_map {α β : Type} (f : α → β) (c : Nat) : ∀ (r : Nat) (l : List α), rowsOf c r (l.map f) = (rowsOf c r l).map (List.map f)
 | 0, _ => rfl
 | r + 1, l => by
  show (l.map f).take c :: rowsOf c r ((l.map f).drop c) = (l.take c).map f :: (rowsOf c r (l.drop c)).map (List.map f)
  rw [← rowsOf_map f c r, List.map_take, List.map_drop]
theorem sd (x : UInt8) (t : Bytes) (h : delim x = true) : Sd (x :: t) := ⟨x, t, rfl, h⟩
theorem intT_lx (x : Bool × Nat) : LxD (intT x) (intK x) := by
 unfold intT intK
 cases x.1 with
 | true => exact (lx_mark (x := 45) (by decide)).appD (lx_num x.2)
 | false => exact lx_num x.2
theorem row_lx (l : List (Bool × Nat)) : LxD (joinB [32] (l.map intT)) (l.flatMap intK) := by
 have := join_lx lx_blank (sd 32 [] (by decide)) intT intK l (fun x _ => intT_lx x)
 rw [joinK_nil] at this
 rwa [List.flatMap]
theorem mat_lx (m : MatV) : LxA (matT m) (matK m) := by
 unfold matT matK
 have hb := lx_mark (x := 91) (by decide)
 have he := lx_mark (x := 93) (by decide)
 split
 ·have h1 := (((hb.appD (lx_num m.rows)).appA (lx_mark (x := 58) (by decide)) (sd 58 [] (by decide))).appD (lx_num m.cols)).appA he (sd 93 [] (by decide))
  exact h1
 ·rw [rowsOf_map, List.map_map]
  have h1 := join_lx (sep := [59, 32]) ((lx_mark (x := 59) (by decide)).app lx_blank) (sd 59 [32] (by decide)) (joinB [32] ∘ List.map intT) (fun l => l.flatMap intK) (rowsOf m.cols m.rows m.at_) (fun l _ => row_lx l)
  have h2 := (hb.appD h1).appA he (sd 93 [] (by decide))
  exact h2
theorem cpx_lx (l : List (List Nat)) : LxA (cpxT l) (cpxK l) := by
 unfold cpxT cpxK
 have h0 : ∀ s : List Nat, LxD (joinB [32] (s.map decT)) (s.map numK) := by
  intro s
  have := join_lx lx_blank (sd 32 [] (by decide)) decT (fun n => [numK n]) s (fun x _ => lx_num x)
  rw [joinK_nil] at this
  have e : ∀ l : List Nat, (l.map fun n => [numK n]).flatten = l.map numK := by
   intro l
   induction l with
   | nil => rfl
   | cons a l ih => simp [ih]
  rwa [e] at this
 have h1 := join_lx (sep := [44, 32]) ((lx_mark (x := 44) (by decide)).app lx_blank) (sd 44 [32] (by decide)) (fun s : List Nat => joinB [32] (s.map decT)) (fun s => s.map numK) l (fun s _ => h0 s)
 exact ((lx_mark (x := 123) (by decide)).appD h1).appA (lx_mark (x := 125) (by decide)) (sd 125 [] (by decide))
theorem par_lx {b : Bool} {t : Bytes} {l : List KT} (h : LxD t l) : LxD (par b t) (parK b l) := by
 cases b with
 | false => exact h
 | true => exact (((lx_mark (x := 40) (by decide)).appD h).appA (lx_mark (x := 41) (by decide)) (sd 41 [] (by decide))).d
theorem sum_lx (x : UInt8) (hx : x.toNat < 128 ∧ kindOf x.toNat = 5) : LxA [32, x, 32] [mk x] := (lx_blank.app (lx_mark hx)).app lx_blank
mutual
theorem ex_lx : ∀ e : Ex, e.wf → LxD e.pr e.tk
 | .num n, _ => lx_num n
 | .name x, h => lx_name h
 | .mat m, _ => (mat_lx m).d
 | .cpx l, _ => (cpx_lx l).d
 | .neg a, h => (lx_mark (x := 45) (by decide)).appD (par_lx (ex_lx a h))
 | .turn a, h => ((par_lx (ex_lx a h)).appA (lx_mark (x := 39) (by decide)) (sd 39 [] (by decide))).d
 | .add a b, h => by
  have h1 := ((par_lx (b := loose 6 0 a.op) (ex_lx a h.1)).appA (sum_lx 43 (by decide)) (sd 32 [43, 32] (by decide))).appD (par_lx (b := loose 6 1 b.op) (ex_lx b h.2))
  rw [List.append_assoc (parK _ _)] at h1
  exact h1
 | .sub a b, h => by
  have h1 := ((par_lx (b := loose 7 0 a.op) (ex_lx a h.1)).appA (sum_lx 45 (by decide)) (sd 32 [45, 32] (by decide))).appD (par_lx (b := loose 7 1 b.op) (ex_lx b h.2))
  rw [List.append_assoc (parK _ _)] at h1
  exact h1
 | .mul a b, h => by
  have h1 := ((par_lx (b := loose 8 0 a.op) (ex_lx a h.1)).appA (lx_mark (x := 42) (by decide)) (sd 42 [] (by decide))).appD (par_lx (b := loose 8 1 b.op) (ex_lx b h.2))
  rw [List.append_assoc (parK _ _)] at h1
  exact h1
 | .pow a n, h => by
  have h1 := (par_lx (b := loose 9 0 a.op) (ex_lx a h)).appD ((lx_mark (x := 94) (by decide)).appD (lx_num n)) (sd 94 _ (by decide))
  exact h1
 | .call x l, h => by
  have h1 := (lx_name h.1).appA (((lx_mark (x := 40) (by decide)).appD (exs_lx l h.2.2)).appA (lx_mark (x := 41) (by decide)) (sd 41 [] (by decide))) (sd 40 _ (by decide))
  exact h1.d
theorem exs_lx : ∀ l : Exs, l.wf → LxD l.pr l.tk
 | .nil, _ => LxA.nil.d
 | .cons a l, h => by
  cases l with
  | nil =>
   show LxD (a.pr ++ []) (a.tk ++ [])
   rw [List.append_nil, List.append_nil]
   exact ex_lx a h.1
  | cons b l => exact (ex_lx a h.1).appD (tail_lx (.cons b l) h.2) (sd 44 _ (by decide))
theorem tail_lx : ∀ l : Exs, l.wf → LxD l.prTail l.tkTail
 | .nil, _ => LxA.nil.d
 | .cons a l, h => by
  have h0 : LxA [44, 32] [mk 44] := (lx_mark (x := 44) (by decide)).app lx_blank
  cases l with
  | nil =>
   show LxD ([44, 32] ++ a.pr ++ []) (mk 44 :: (a.tk ++ []))
   rw [List.append_nil, List.append_nil]
   exact h0.appD (ex_lx a h.1)
  | cons b l =>
   have h1 := (h0.appD (ex_lx a h.1)).appD (tail_lx (.cons b l) h.2) (sd 44 _ (by decide))
   exact h1
end
theorem letB_ok : NameOk letB := ⟨1, by rfl⟩
theorem line_lx : ∀ n : Ln, n.wf → LxD n.pr n.tk
 | .nothing, _ => LxA.nil.d
 | .lets x e, h => by
  have h1 := (((((lx_name letB_ok).appA lx_blank (sd 32 [] (by decide))).appD (lx_name h.1)).appA (sum_lx 61 (by decide)) (sd 32 [61, 32] (by decide))).appD (ex_lx e h.2))
  exact h1
 | .cmd x .nil, h => by
  have h1 := lx_name h.1
  show LxD x [(2, x)]
  exact h1
 | .cmd x (.cons a l), h => by
  have h1 := ((lx_name h.1).appA lx_blank (sd 32 [] (by decide))).appD (exs_lx (.cons a l) h.2.2)
  exact h1
theorem parse_pr {n : Ln} (hw : n.wf) (hd : n.dp ≤ 100) : parseV n.pr = if 4096 < n.size then .error (1, 5) else .ok n := by
 obtain ⟨k, ts, h1, h2⟩ := line_lx n hw 1 [] (.inl rfl)
 rw [List.append_nil, chars_nil, Toks_nil] at h1
 have hT : Toks 1 (chars n.pr) = .ok ts := by rw [h1]; simp [Res.after]
 have hi : Is ts n.tk [] := by rw [← h2]; exact Is.all ts
 obtain ⟨f, hf⟩ := line_is ((chars n.pr).length + 1) hw hd hi
 have hg := good_line ((chars n.pr).length + 1) ⟨ts, 0⟩
 rcases hL : line ((chars n.pr).length + 1) (10 * ts.length + 9) ⟨ts, 0⟩ with - | r
 ·simp only [hL] at hg
  exact hg.elim
 ·have e : r = .ok (n, ⟨[], 0⟩) := Ev.one (fun f => line_mono ((chars n.pr).length + 1) f ⟨ts, 0⟩) ⟨_, hL⟩ ⟨f, hf⟩
  subst e
  exact parseV_ok hT hL
end SynP
namespace SynP
open LexP
def readM (t : Bytes) : Except Nat MatV :=
 match Toks 1 (chars t) with
 | .error _ => .error 7
 | .ok ts =>
  match (matrix ((chars t).length + 1) (ts.length + 3) ⟨ts, 0⟩).bind fun m s => done ((chars t).length + 1) m s with
  | none => .error 0
  | some (.error (_, k)) => .error (if k = 2 ∨ k = 5 then k else 7)
  | some (.ok (m, _)) => .ok m
def readC (t : Bytes) : Option (List (List Nat)) :=
 match Toks 1 (chars t) with
 | .error _ => none
 | .ok ts =>
  match (complex ((chars t).length + 1) (ts.length + 2) ⟨ts, 0⟩).bind fun l s => done ((chars t).length + 1) l s with
  | some (.ok (l, _)) => some l
  | _ => none
theorem readM_ok {t : Bytes} {m : MatV} (h : readM t = .ok m) : MatOk m := by
 unfold readM at h
 split at h
 ·cases h
 ·split at h
  ·cases h
  ·cases h
  ·rename_i m' s' he
   cases h
   obtain ⟨a, s, h1, h2⟩ := bind_ok he
   have := done_ok h2
   cases this
   exact matrix_ok h1
theorem readC_ok {t : Bytes} {l : List (List Nat)} (h : readC t = some l) : CpxOk l := by
 unfold readC at h
 split at h
 ·cases h
 ·split at h
  ·rename_i l' s' he
   cases h
   obtain ⟨a, s, h1, h2⟩ := bind_ok he
   have := done_ok h2
   cases this
   exact complex_ne h1
  ·cases h
theorem lxA_toks {t : Bytes} {k : List KT} (h : LxA t k) : ∃ ts, Toks 1 (chars t) = .ok ts ∧ Is ts k [] := by
 obtain ⟨n, ts, h1, h2⟩ := h 1 []
 rw [List.append_nil, chars_nil, Toks_nil] at h1
 exact ⟨ts, by rw [h1]; simp [Res.after], by rw [← h2]; exact Is.all ts⟩
theorem readM_print {m : MatV} (hm : MatOk m) : readM (matT m) = .ok m := by
 obtain ⟨ts, hT, hi⟩ := lxA_toks (mat_lx m)
 obtain ⟨f, hf⟩ := matrix_is ((chars (matT m)).length + 1) (o := 0) hm hi
 have hg := good_matrix ((chars (matT m)).length + 1) (ts.length + 3) (s := ⟨ts, 0⟩) (Nat.le_refl _) (Nat.le_refl _)
 rcases hL : matrix ((chars (matT m)).length + 1) (ts.length + 3) ⟨ts, 0⟩ with - | r
 ·simp only [hL] at hg
  exact hg.elim
 ·have e : r = .ok (m, ⟨[], 0⟩) := Ev.one (fun f => matrix_mono ((chars (matT m)).length + 1) f ⟨ts, 0⟩) ⟨_, hL⟩ ⟨f, hf⟩
  subst e
  unfold readM
  rw [hT]
  simp only [hL]
  rfl
theorem readC_print {l : List (List Nat)} (hl : CpxOk l) : readC (cpxT l) = some l := by
 obtain ⟨ts, hT, hi⟩ := lxA_toks (cpx_lx l)
 obtain ⟨f, hf⟩ := complex_is ((chars (cpxT l)).length + 1) (o := 0) hl hi
 have hg := good_complex ((chars (cpxT l)).length + 1) (ts.length + 2) (s := ⟨ts, 0⟩) (Nat.le_refl _) (Nat.le_refl _)
 rcases hL : complex ((chars (cpxT l)).length + 1) (ts.length + 2) ⟨ts, 0⟩ with - | r
 ·simp only [hL] at hg
  exact hg.elim
 ·have e : r = .ok (l, ⟨[], 0⟩) := Ev.one (fun f => complex_mono ((chars (cpxT l)).length + 1) f ⟨ts, 0⟩) ⟨_, hL⟩ ⟨f, hf⟩
  subst e
  unfold readC
  rw [hT]
  simp only [hL]
  rfl
def numV (t : Bytes) : Bool := decide (t ≠ []) && t.all NumP.isDig && (decT (valOf t) == t)
def namV (t : Bytes) : Bool :=
 match Toks 1 (chars t) with
 | .ok [(k, x, _)] => k == 2 && x == t
 | _ => false
def matV (t : Bytes) : Bool :=
 match readM t with
 | .ok m => matT m == t
 | .error _ => false
def cpxV (t : Bytes) : Bool :=
 match readC t with
 | some l => cpxT l == t
 | none => false
def WV (op : Int) (t : Bytes) : Bool :=
 if op = 1 ∨ op = 9 then numV t
 else if op = 2 ∨ op = 10 ∨ op = 11 then namV t
 else if op = 12 then namV t && t != letB
 else if op = 3 then matV t
 else if op = 13 then cpxV t
 else t == []
theorem numV_iff (t : Bytes) : numV t = true ↔ ∃ n, t = decT n := by
 unfold numV
 constructor
 ·intro h
  simp only [Bool.and_eq_true, beq_iff_eq] at h
  exact ⟨_, h.2.symm⟩
 ·rintro ⟨n, rfl⟩
  rw [valOf_decT]
  simp only [Bool.and_eq_true, beq_iff_eq, decide_eq_true_eq, and_true]
  exact ⟨decT_ne n, List.all_eq_true.2 (decT_dig n)⟩
theorem namV_iff (t : Bytes) : namV t = true ↔ NameOk t := by
 unfold namV NameOk
 constructor
 ·intro h
  split at h
  ·rename_i k x c he
   simp only [Bool.and_eq_true, beq_iff_eq] at h
   obtain ⟨rfl, rfl⟩ := h
   exact ⟨c, he⟩
  ·cases h
 ·rintro ⟨c, h⟩
  rw [h]
  simp
theorem matV_iff (t : Bytes) : matV t = true ↔ ∃ m, MatOk m ∧ t = matT m := by
 unfold matV
 constructor
 ·intro h
  split at h
  ·rename_i m he
   exact ⟨m, readM_ok he, (beq_iff_eq.1 h).symm⟩
  ·cases h
 ·rintro ⟨m, hm, rfl⟩
  rw [readM_print hm]
  simp
theorem cpxV_iff (t : Bytes) : cpxV t = true ↔ ∃ l, CpxOk l ∧ t = cpxT l := by
 unfold cpxV
 constructor
 ·intro h
  split at h
  ·rename_i m he
   exact ⟨m, readC_ok he, (beq_iff_eq.1 h).symm⟩
  ·cases h
 ·rintro ⟨m, hm, rfl⟩
  rw [readC_print hm]
  simp
theorem wv_ok : WOk WV where
 num := numV_iff
 pow := numV_iff
 name := namV_iff
 call := namV_iff
 lets := namV_iff
 cmd := fun t => by
  show (namV t && t != letB) = true ↔ _
  rw [Bool.and_eq_true, namV_iff]
  simp
 mat := matV_iff
 cpx := cpxV_iff
 none := fun op t h => by
  rcases h with rfl | rfl | rfl | rfl | rfl | rfl <;> (show (t == []) = true ↔ _; simp)
end SynP
