/- Joined texts of this claim's proof: NSub, GcA, GcB, Zin2, ZopA. -/
import Derived.Test.YtceggplnggkdnaaGreatDoorPk6
import Derived.Test.YtceggplnggkdnaaGreatDoorPk7
import Derived.Test.YtceggplnggkdnaaGreatDoorPk8
import Derived.Deep.LoopGhost
import Derived.Test.YtceggplnggkdnaaGreatDoorPk11
set_option linter.unusedSimpArgs false
set_option linter.unusedVariables false
namespace Go.Proofs.YtceggplnggkdnaaGreatDoor
open Go.RowKit NatP
def SbSt (A B : List Nat) (i c : Nat) (M : List Nat) : Prop := M.length = A.length ∧ val (M.take i) + val (B.take i) = val (A.take i) + BB ^ i * c
theorem SbSt.start (A B : List Nat) : SbSt A B 0 0 (List.replicate A.length 0) := ⟨List.length_replicate, by simp [val]⟩
theorem sub_carry {P m b a p c x y s c' : Nat} (h4 : m + b = a + P * c) (hs : s + y + c = x + p * c') : m + P * s + (b + P * y) = a + P * x + P * p * c' := by
 have e1 : P * s + P * y + P * c = P * x + P * p * c' := by
  rw [Nat.mul_assoc, ← Nat.mul_add, ← Nat.mul_add, ← Nat.mul_add, hs]
 omega
theorem SbSt.step {A B M : List Nat} {i c x y s c' : Nat} (h : SbSt A B i c M) (hx : A[i]? = some x) (hy : (B[i]? = some y) ∨ (B.length ≤ i ∧ y = 0)) (hs : s + y + c = x + BB * c') : SbSt A B (i + 1) c' (M.set i s) := by
 obtain ⟨h1, h4⟩ := h
 obtain ⟨hi, hv⟩ := List.getElem?_eq_some_iff.1 hx
 refine ⟨by rw [List.length_set, h1], ?_⟩
 have hmid := set_mid (l := M) (o := 0) (i := i) s (by omega)
 rw [List.drop_zero, List.drop_zero, Nat.zero_add] at hmid
 have e1 : val (A.take (i + 1)) = val (A.take i) + BB ^ i * x := by rw [val_take_succ hi, hv]
 have e2 : val (B.take (i + 1)) = val (B.take i) + BB ^ i * y := by
  rcases hy with hy | ⟨hy, rfl⟩
  ·obtain ⟨hyl, hyv⟩ := List.getElem?_eq_some_iff.1 hy
   rw [val_take_succ hyl, hyv]
  ·rw [List.take_of_length_le (by omega), List.take_of_length_le (by omega)]; simp
 rw [hmid, e1, e2, val_snoc, List.length_take, Nat.min_eq_left (by omega), Nat.pow_succ]
 exact sub_carry h4 hs
theorem SbSt.done {A B M : List Nat} {c : Nat} (h : SbSt A B A.length c M) (hB : B.length ≤ A.length) (hM : ok M) (hle : val B ≤ val A) : M.length = A.length ∧ val M = val A - val B := by
 obtain ⟨h1, h4⟩ := h
 rw [List.take_of_length_le (by omega), List.take_length, List.take_of_length_le hB] at h4
 refine ⟨h1, ?_⟩
 have h5 := val_lt hM
 rw [h1] at h5
 have h6 : c = 0 := by
  apply Nat.eq_zero_of_not_pos
  intro h7
  have : BB ^ A.length * 1 ≤ BB ^ A.length * c := Nat.mul_le_mul_left _ h7
  omega
 subst h6
 omega
def SbRel (A B : List Nat) (g : Nat) (w1 : World) (cv i : Value) (wr : World) : Prop := ∃ (k cc : Nat) (M : List Nat), k ≤ A.length ∧ i = .int .i64 (k : Nat) ∧ cv = .int .u64 (cc : Nat) ∧ Hid (cc ≤ 1) ∧ Blk wr g M ∧ SbSt A B k cc M ∧ w1.grownBy wr (some g)
def SubNPost (n m : Nat) (w : World) (e : Ending) (w' : World) : Prop := ∃ v xs, e = .returned (.tuple #[v, .int .i64 0]) ∧ Fr w.heap.size w' v xs ∧ val xs = n ∧ xs.length ≤ m ∧ strip xs = xs ∧ Below w.heap.size w w'
theorem sub_done {w w1 w2 : World} {A M : List Nat} {n c m : Nat} (hl : M.length = A.length) (hv : val M = n) (hc : c = A.length) (hB : Blk w2 w.heap.size M) (hb : Below w.heap.size w w1) (hg : w1.grownBy w2 (some w.heap.size)) (hs : A.length ≤ 549755813888)
  (hm : A.length ≤ m) : SubNPost n m w (.returned (.tuple #[.slice (some ⟨w.heap.size, 0, none⟩) (strip M).length c, .int .i64 0])) w2 := by
 subst hc
 have h1 := strip_le M
 have h2 := hB.rd (o := 0) (n := (strip M).length) (c := A.length) (by omega) (by omega) (by unfold maxLen; omega)
 rw [List.drop_zero, ← (strip_take M).1] at h2
 exact ⟨_, strip M, rfl, ⟨h2, fun k hk => by cases hk; exact ⟨Nat.le_refl _, hB.lt⟩⟩, by rw [val_strip, hv], by omega, strip_strip M, Below.grown hb hg hb.size (fun k hk => by cases hk; exact Nat.le_refl _)⟩
theorem canN {xs : List Nat} (hok : ok xs) (hs : strip xs = xs) (h : 0 < xs.length) : BB ^ (xs.length - 1) ≤ val xs := by
 obtain ⟨m, hm⟩ : ∃ m, xs.length = m + 1 := ⟨xs.length - 1, by omega⟩
 obtain ⟨d, hd, hd0⟩ := strip_last xs m (by rw [hs]; exact hm)
 rw [hs] at hd
 obtain ⟨hl, he⟩ := List.getElem?_eq_some_iff.1 hd
 rw [show xs.length - 1 = m by omega, val_split xs m (by omega), List.drop_eq_getElem_cons hl, he]
 show BB ^ m ≤ val (xs.take m) + BB ^ m * (d + BB * val (xs.drop (m + 1)))
 have h1 : BB ^ m * 1 ≤ BB ^ m * (d + BB * val (xs.drop (m + 1))) := Nat.mul_le_mul_left _ (by omega)
 omega
theorem val_len_le {A B : List Nat} (hA : ok A) (hB : strip B = B) (hoB : ok B) (h : val B ≤ val A) : B.length ≤ A.length := by
 refine Decidable.byContradiction fun hn => ?_
 have h1 := canN hoB hB (by omega)
 have h2 := val_lt hA
 have h3 : BB ^ A.length ≤ BB ^ (B.length - 1) := Nat.pow_le_pow_right BB_pos (by omega)
 omega
set_option maxRecDepth 100000 in
set_option maxHeartbeats 4000000 in
theorem natSub_any (xs ys : List Nat) (v u : Value) (w : World) (hlx : xs.length ≤ 274877906944) (hv : Rd w v xs) (hu : Rd w u ys) (hle : val ys ≤ val xs) :
  Calls Tryz.prog 200 #[v, u] w (SubNPost (val xs - val ys) (strip xs).length w) := by
 have HV := Lib.hid hv
 have HU := Lib.hid hu
 obtain ⟨_, ao, cap, rfl, -⟩ := hv
 obtain ⟨_, bo, cap2, rfl, -⟩ := hu
 have q1 := strip_le xs
 have q2 := strip_le ys
 obtain ⟨X, hX⟩ : ∃ X, X = strip xs := ⟨_, rfl⟩
 obtain ⟨Y, hY⟩ : ∃ Y, Y = strip ys := ⟨_, rfl⟩
 have HVX : Hid (val X = val xs) := by show _ = _; rw [hX, val_strip]
 have HVY : Hid (val Y = val ys) := by show _ = _; rw [hY, val_strip]
 rw [← hX] at q1
 rw [← hY] at q2
 rw [← hX]
 have HX := Lib.hid hX
 have HY := Lib.hid hY
 have HOX : Hid (ok X) := by show ok _; rw [hX]; exact ok_strip HV.out.ok
 have HOY : Hid (ok Y) := by show ok _; rw [hY]; exact ok_strip HU.out.ok
 have h21 : Y.length ≤ X.length := val_len_le HOX.out (by rw [hY]; exact strip_strip _) HOY.out (by rw [HVX.out, HVY.out]; exact hle)
 have HLE := Lib.hid hle
 have hcmp : Hid (cmpI (val xs) (val ys) = 0 ∨ cmpI (val xs) (val ys) = 1) := by
  show _ ∨ _
  unfold cmpI
  rw [if_neg (by omega)]
  split
  ·exact .inr rfl
  ·exact .inl rfl
 obtain ⟨cv, hcv⟩ : ∃ cv, cv = cmpI (val xs) (val ys) := ⟨_, rfl⟩
 have hc0 : decide (cv < 0) = false := by
  rw [decide_eq_false_iff_not, hcv]
  rcases hcmp.out with h | h <;> rw [h] <;> omega
 have HCV := Lib.hid hcv
 clear hX hY hle hcv hcmp
 have HMK : ∀ w : World, (Instr.makeSlice 111 (.int .i64 (X.length : Int)) (.int .i64 (X.length : Int))).run Tryz.prog w = .ok (.slice (some ⟨w.heap.size, 0, none⟩) X.length X.length) (w.alloc (.cells (madeCells #[.int .u64 0] X.length) 215)) := make_words X.length (by omega)
 go_enter Tryz.func200, Tryz.ntmps200
 go_wp2_with fail
 refine (cmp_any _ _ xs ys _ HV.out HU.out).mono ?_
 rintro e w0 ⟨rfl, hb0⟩
 rw [← HCV.out]
 have HB0 := Lib.hid hb0
 have HV0 := Lib.hid (HV.out.below hb0)
 have HU0 := Lib.hid (HU.out.below hb0)
 clear hb0
 go_wp2_with fail
 refine (size_any _ xs _ HV0.out).mono ?_
 rintro e w' ⟨rfl, rfl⟩
 rw [← HX.out]
 go_wp2_with fail
 refine (size_any _ ys _ HU0.out).mono ?_
 rintro e w' ⟨rfl, rfl⟩
 rw [← HY.out]
 have HZ := Lib.hid (Blk.made w0 X.length)
 have HBL := Lib.hid (below_alloc w0 (.cells (madeCells #[.int .u64 0] X.length) 215))
 have NA := Lib.hid (HV0.out.ne (Nat.le_refl w0.heap.size))
 have NB := Lib.hid (HU0.out.ne (Nat.le_refl w0.heap.size))
 have RA := Lib.hid (HV0.out.below HBL.out)
 have RB := Lib.hid (HU0.out.below HBL.out)
 go_wp2_with fail
 generalize w0.alloc (.cells (madeCells #[.int .u64 0] X.length) 215) = w1 at *
 go_loopw [9, 23] (fun cv i wr => SbRel X Y w0.heap.size w1 cv i wr) (fun _ i _ => X.length - (intOf i).toNat)
 case atStart => exact ⟨0, 0, _, Nat.zero_le _, rfl, rfl, Nat.zero_le _, HZ.out, SbSt.start X Y, grown_refl w1 _⟩
 case round =>
  obtain ⟨k, cc, M, hk, rfl, rfl, hcc, hM, hst, hgr⟩ := hrel
  have HM := Lib.hid hM
  have HST := Lib.hid hst
  have HGR := Lib.hid hgr
  have hml3 : M.length = X.length := hst.1
  have hgw := hM.lt
  clear hM hst hgr
  by_cases hlt : k < X.length
  ·obtain ⟨x, hx⟩ : ∃ x, X[k]? = some x := ⟨_, List.getElem?_eq_getElem hlt⟩
   obtain ⟨z, hz⟩ : ∃ z, M[k]? = some z := ⟨_, List.getElem?_eq_getElem (by omega)⟩
   have RA2 := RA.out.kept HGR.out (by intro q hq e2; cases hq; exact NA.out e2)
   have RB2 := RB.out.kept HGR.out (by intro q hq e2; cases hq; exact NB.out e2)
   obtain ⟨ga, oa, hao, e1, hi1⟩ := RA2.cellAt (i := k) (x := x) (by rw [← HX.out]; exact hx)
   subst hao
   have c1 := HM.out.cell hz
   have c2 := HM.out.frozen k
   have hxb := HOX.out x (List.mem_of_getElem? hx)
   have HL3 := Lib.hid hml3
   clear hz hml3
   by_cases hkb : k < Y.length
   ·obtain ⟨y, hy⟩ : ∃ y, Y[k]? = some y := ⟨_, List.getElem?_eq_getElem hkb⟩
    obtain ⟨gb, ob, hbo, e2, hi2⟩ := RB2.cellAt (i := k) (x := y) (by rw [← HY.out]; exact hy)
    subst hbo
    obtain ⟨s, c', hs1, hs2, hs3, hrun⟩ := sub64_ex x y cc hxb (HOY.out y (List.mem_of_getElem? hy)) hcc.out
    have HN := Lib.hid (HST.out.step hx (.inl hy) hs3)
    have HS := Lib.hid (HM.out.set k hs1)
    have HC := Lib.hid hs2
    clear hx hy hs3 RA2 RB2 hxb hs1 hs2 hcc
    go_wp2_with fail
    have hfin : SbRel X Y w0.heap.size w1 (.int .u64 (c' : Nat)) (.int .i64 ((k : Int) + 1)) (wr.setCell ⟨w0.heap.size, k, none⟩ (.int .u64 (s : Nat))) := ⟨k + 1, c', _, by omega, by go_num, rfl, HC.out, HS.out.1, HN.out, grown_set HGR.out HS.out.2⟩
    exact ⟨hfin, by simp [intOf]; omega⟩
   ·obtain ⟨s, c', hs1, hs2, hs3, hrun⟩ := sub64_ex x 0 cc hxb BB_pos hcc.out
    have hrun2 : ∀ w : World, (callFunc 350 #[.int .u64 (x : Nat), .int .u64 0, .int .u64 (cc : Nat)]).run Tryz.prog w = .ok (.value (.tuple #[.int .u64 (s : Nat), .int .u64 (c' : Nat)])) w := hrun
    have HN := Lib.hid (HST.out.step hx (.inr ⟨by omega, rfl⟩) hs3)
    have HS := Lib.hid (HM.out.set k hs1)
    have HC := Lib.hid hs2
    clear hx hs3 RA2 RB2 hxb hs1 hs2 hrun hcc
    go_wp2_with fail
    have hfin : SbRel X Y w0.heap.size w1 (.int .u64 (c' : Nat)) (.int .i64 ((k : Int) + 1)) (wr.setCell ⟨w0.heap.size, k, none⟩ (.int .u64 (s : Nat))) := ⟨k + 1, c', _, by omega, by go_num, rfl, HC.out, HS.out.1, HN.out, grown_set HGR.out HS.out.2⟩
    exact ⟨hfin, by simp [intOf]; omega⟩
  ·obtain rfl : k = X.length := by omega
   have HD := Lib.hid (HST.out.done h21 HM.out.2 (by rw [HVX.out, HVY.out]; exact HLE.out))
   have R := Lib.hid (HM.out.whole (by rw [HD.out.1]; omega))
   have hRl := HD.out.1
   rw [hRl] at R
   have hsl := strip_le M
   rw [hRl] at hsl
   clear hlt hk hml3 hRl hcc
   go_wp2_with fail
   refine (size_any _ M _ R.out).mono ?_
   rintro e w' ⟨rfl, rfl⟩
   go_wp2_with fail
   go_ret2
   obtain ⟨v, rs, r1, r2, r3, r4, r5, r6⟩ := sub_done (m := X.length) HD.out.1 HD.out.2 rfl HM.out HBL.out HGR.out (by omega) (Nat.le_refl _)
   exact ⟨v, rs, r1, r2.mono HB0.out.size, by rw [r3, HVX.out, HVY.out], r4, r5, HB0.out.trans (r6.mono HB0.out.size)⟩
end Go.Proofs.YtceggplnggkdnaaGreatDoor
namespace Go.Proofs.YtceggplnggkdnaaGreatDoor
open Go.RowKit NatP
theorem nil_of_val {l : List Nat} (hs : strip l = l) (h : val l = 0) : l = [] := by
 cases hl : l.length with
 | zero => exact List.eq_nil_of_length_eq_zero hl
 | succ m =>
  have h1 := strip_ge (l := l) (m := m) (by rw [hs]; exact hl)
  rw [h] at h1
  exact absurd (Nat.pow_pos (n := m) BB_pos) (by omega)
end Go.Proofs.YtceggplnggkdnaaGreatDoor
namespace Go.Proofs.YtceggplnggkdnaaGreatDoor
open Go.RowKit NatP
theorem fro_keep {w w' : World} {p : Addr} {v : Value} (h : Below w.heap.size w w') (hc : w.cell? p = some v) (hf : w.frozen? p = false) : w'.frozen? p = false := by
 have hl : p.block < w.heap.size := World.block_lt_of_cell? w p hc
 unfold World.frozen? at hf ⊢
 rw [h.block p.block hl]; exact hf
theorem cell_keep {w w' : World} {p : Addr} {v : Value} (h : Below w.heap.size w w') (hc : w.cell? p = some v) : w'.cell? p = some v :=
 (h.cell (World.block_lt_of_cell? w p hc)).trans hc
end Go.Proofs.YtceggplnggkdnaaGreatDoor
namespace Go.Proofs.YtceggplnggkdnaaGreatDoor
open Go.RowKit NatP LexP
set_option maxRecDepth 100000 in
theorem of_zint2 (neg : Bool) (v : Value) (xs : List Nat) (w : World) (hv : Rd w v xs) :
  Calls Tryz.prog 192 #[.bool neg, v] w fun e w' => e = .returned (.agg #[.bool (neg && decide (0 < xs.length)), v]) ∧ Below w.heap.size w w' := by
 cases neg with
 | false => exact of_zint v xs w hv
 | true =>
  obtain ⟨ao, cap, rfl, -, hcm, -, -⟩ := hv.2
  clear hv
  have hb : xs.length ≤ 9223372036854775807 → decide ((0 : Int) < (xs.length : Int)) = decide (0 < xs.length) := fun _ => by
   rw [Bool.eq_iff_iff]; simp
  go_enter Tryz.func192, Tryz.ntmps192
  go_wp2_with fail
  refine bodyPost_ret (results_cell_row rfl _ _ w.heap.size 115 _ _ _ rfl (heap_alloc_new w _) Tryz.underlying115 rfl (by kernel_rfl)) rfl ?_
  exact ⟨by simp, below_alloc _ _⟩
theorem len_pos_iff {xs : List Nat} (hs : strip xs = xs) : decide (0 < xs.length) = decide (val xs ≠ 0) := by
 rw [Bool.eq_iff_iff]
 simp only [decide_eq_true_eq]
 constructor
 ·intro h e
  rw [nil_of_val hs e] at h
  exact absurd h (Nat.lt_irrefl 0)
 ·intro h
  refine Nat.pos_of_ne_zero fun e => h ?_
  rw [List.eq_nil_of_length_eq_zero e]; rfl
theorem isSome_keep {w w' : World} {p : Addr} (h : Below w.heap.size w w') (hc : (w.cell? p).isSome = true) : (w'.cell? p).isSome = true := by
 obtain ⟨v, hv⟩ := Option.isSome_iff_exists.1 hc
 rw [cell_keep h hv]; rfl
theorem isSome_set' {w : World} {p q : Addr} {x : Value} (h : (w.cell? q).isSome = true) : ((w.setCell p x).cell? q).isSome = true := by
 obtain ⟨v, hv⟩ := Option.isSome_iff_exists.1 h
 by_cases e : q = p
 ·subst e; rw [World.cell?_setCell_same w _ _ hv]; rfl
 ·have := World.cell?_setCell_other w p q x (fun h => e h.symm)
  rw [this, hv]; rfl
theorem set2_ne {w : World} {p1 p2 q : Addr} {x y : Value} (h1 : q.block ≠ p1.block) (h2 : q.block ≠ p2.block) : ((w.setCell p1 x).setCell p2 y).cell? q = w.cell? q :=
 (World.cell?_setCell_other _ _ _ _ (fun e => h2 (by rw [← e]))).trans (World.cell?_setCell_other _ _ _ _ (fun e => h1 (by rw [← e])))
theorem set2_fro {w : World} {p1 p2 q : Addr} {x y : Value} : ((w.setCell p1 x).setCell p2 y).frozen? q = w.frozen? q :=
 (World.frozen?_setCell _ _ _ _).trans (World.frozen?_setCell _ _ _ _)
theorem fr_set2 {B g i j : Nat} {w : World} {x y v : Value} {xs : List Nat} (h : Fr B w v xs) (hB : g < B) : Fr B ((w.setCell ⟨g, i, none⟩ x).setCell ⟨g, j, none⟩ y) v xs := by
 have hr : Wr g none w ((w.setCell ⟨g, i, none⟩ x).setCell ⟨g, j, none⟩ y) := (Wr.of_set w i x).trans (Mv.refl _ _) (Wr.of_set _ j y)
 exact ⟨h.1.wr hr (fun k hk => ⟨by have := (h.2 k hk).1; omega, by simp⟩), fun k hk => ⟨(h.2 k hk).1, Nat.lt_of_lt_of_le (h.2 k hk).2 hr.size⟩⟩
theorem below_set2 {B g i j : Nat} {w w' : World} {x y : Value} (h : Below B w w') (hB : B ≤ g) : Below B w ((w'.setCell ⟨g, i, none⟩ x).setCell ⟨g, j, none⟩ y) :=
 (h.setCell (p := ⟨g, i, none⟩) hB _).setCell (p := ⟨g, j, none⟩) hB _
theorem someU : ∃ U : Nat → Nat → World → Value, ∀ b j w', (w'.cell? ⟨b, j, none⟩).isSome = true → w'.cell? ⟨b, j, none⟩ = some (U b j w') :=
 ⟨fun b j w' => (w'.cell? ⟨b, j, none⟩).getD undef, fun b j w' h => by obtain ⟨v, hv⟩ := Option.isSome_iff_exists.1 h; simp [hv]⟩
end Go.Proofs.YtceggplnggkdnaaGreatDoor
namespace Go.Proofs.YtceggplnggkdnaaGreatDoor
open Go.RowKit NatP LexP
def ZQ (z : Int) (w : World) (e : Ending) (w' : World) : Prop := ∃ v xs, e = .returned (.agg #[.bool (decide (z < 0)), v]) ∧ Fr w.heap.size w' v xs ∧ val xs = z.natAbs ∧ strip xs = xs ∧ Below w.heap.size w w'
theorem zq_of {b : Bool} {n : Nat} {z : Int} (h : SynP.zi (b, n) = z) : (b && decide (n ≠ 0)) = decide (z < 0) ∧ n = z.natAbs := by
 subst h
 unfold SynP.zi
 cases b with
 | false => constructor <;> simp
 | true =>
  simp only [Bool.true_and, if_true]
  constructor
  ·rw [Bool.eq_iff_iff]; simp only [decide_eq_true_eq]; omega
  ·omega
theorem zi_mul (a b : Bool) (x y : Nat) : SynP.zi (a != b, x * y) = SynP.zi (a, x) * SynP.zi (b, y) := by
 unfold SynP.zi
 cases a <;> cases b <;> simp [Int.natCast_mul, Int.neg_mul, Int.mul_neg]
theorem zi_add (b : Bool) (x y : Nat) : SynP.zi (b, x + y) = SynP.zi (b, x) + SynP.zi (b, y) := by
 unfold SynP.zi
 cases b <;> simp <;> omega
theorem zi_sub (b : Bool) {x y : Nat} (h : y ≤ x) : SynP.zi (b, x - y) = SynP.zi (b, x) + SynP.zi (!b, y) := by
 unfold SynP.zi
 cases b <;> simp <;> omega
theorem al3 (w : World) (c0 c1 c2 : Array Value) (t : TypeId) : ∃ g w0, w.heap.size = g ∧ ((w.alloc (.cells c0 t)).alloc (.cells c1 t)).alloc (.cells c2 t) = w0 ∧ Below w.heap.size w w0 ∧ w0.heap[g]? = some (.cells c0 t (0, 0)) ∧ w0.heap[g + 1]? = some (.cells c1 t (0, 0)) ∧ w0.heap[g + 1 + 1]? = some (.cells c2 t (0, 0)) := by
 have a1 := below_alloc w (.cells c0 t)
 have a2 := below_alloc (w.alloc (.cells c0 t)) (.cells c1 t)
 have a3 := below_alloc ((w.alloc (.cells c0 t)).alloc (.cells c1 t)) (.cells c2 t)
 have n1 := heap_alloc_new w (.cells c0 t)
 have n2 := heap_alloc_new (w.alloc (.cells c0 t)) (.cells c1 t)
 have n3 := heap_alloc_new ((w.alloc (.cells c0 t)).alloc (.cells c1 t)) (.cells c2 t)
 rw [World.size_alloc] at n2
 rw [World.size_alloc, World.size_alloc] at n3
 exact ⟨_, _, rfl, rfl, a1.trans ((a2.trans (a3.mono a2.size)).mono a1.size), (a3.block _ (by simp <;> omega)).trans ((a2.block _ (by simp)).trans n1), (a3.block _ (by simp)).trans n2, n3⟩
theorem al4 (w : World) (c0 c1 c2 c3 : Array Value) (t : TypeId) : ∃ g w0, w.heap.size = g ∧ (((w.alloc (.cells c0 t)).alloc (.cells c1 t)).alloc (.cells c2 t)).alloc (.cells c3 t) = w0 ∧ Below w.heap.size w w0 ∧ w0.heap[g]? = some (.cells c0 t (0, 0)) ∧ w0.heap[g + 1]? = some (.cells c1 t (0, 0)) ∧ w0.heap[g + 1 + 1]? = some (.cells c2 t (0, 0)) ∧ w0.heap[g + 1 + 1 + 1]? = some (.cells c3 t (0, 0)) := by
 obtain ⟨g, w0, rfl, rfl, h1, h2, h3, h4⟩ := al3 w c0 c1 c2 t
 have a4 := below_alloc (((w.alloc (.cells c0 t)).alloc (.cells c1 t)).alloc (.cells c2 t)) (.cells c3 t)
 have n4 := heap_alloc_new (((w.alloc (.cells c0 t)).alloc (.cells c1 t)).alloc (.cells c2 t)) (.cells c3 t)
 rw [World.size_alloc, World.size_alloc, World.size_alloc] at n4
 exact ⟨_, _, rfl, rfl, h1.trans (a4.mono h1.size), (a4.block _ (by simp <;> omega)).trans h2, (a4.block _ (by simp <;> omega)).trans h3, (a4.block _ (by simp)).trans h4, n4⟩
theorem blk_keep {w w' : World} {k : Nat} {o : Obj} (h : Below w.heap.size w w') (hk : w.heap[k]? = some o) : w'.heap[k]? = some o :=
 (h.block k (Array.getElem?_eq_some_iff.1 hk).1).trans hk
set_option maxRecDepth 100000 in
set_option maxHeartbeats 2000000 in
theorem mul_zint (na nb : Bool) (v u : Value) (xs ys : List Nat) (w : World) (hv : Rd w v xs) (hu : Rd w u ys) (hl : xs.length + ys.length < 274877906944) :
  Calls Tryz.prog 109 #[.agg #[.bool na, v], .agg #[.bool nb, u]] w (ZQ (SynP.zi (na, val xs) * SynP.zi (nb, val ys)) w) := by
 have HV := Lib.hid hv
 have HU2 := Lib.hid hu
 obtain ⟨ao, ca, rfl, -, -, -, -⟩ := hv.2
 obtain ⟨bo, cb, rfl, -, -, -, -⟩ := hu.2
 clear hv hu
 go_enter Tryz.func109, Tryz.ntmps109
 go_wp2_with fail
 obtain ⟨g, w0, hg, hw0, hB0, hb0, hb1, hb2⟩ := al3 w #[.bool na, .slice ao xs.length ca] #[.bool nb, .slice bo ys.length cb] #[.bool false, .slice none 0 0] 115
 rw [hw0, hg]
 obtain ⟨g1, hg1⟩ : ∃ g1, g1 = g + 1 := ⟨_, rfl⟩
 rw [← hg1] at hb1 hb2 ⊢
 obtain ⟨g2, hg2⟩ : ∃ g2, g2 = g1 + 1 := ⟨_, rfl⟩
 rw [← hg2] at hb2 ⊢
 have c00 : w0.cell? ⟨g, 0, none⟩ = some (.bool na) := (cell_of_row w0 _ _ _ _ _ hb0).trans rfl
 have c01 : w0.cell? ⟨g, 1, none⟩ = some (.slice ao xs.length ca) := (cell_of_row w0 _ _ _ _ _ hb0).trans rfl
 have ne0 : g ≠ g2 := by omega
 have c10 : w0.cell? ⟨g1, 0, none⟩ = some (.bool nb) := (cell_of_row w0 _ _ _ _ _ hb1).trans rfl
 have c11 : w0.cell? ⟨g1, 1, none⟩ = some (.slice bo ys.length cb) := (cell_of_row w0 _ _ _ _ _ hb1).trans rfl
 have ne1 : g1 ≠ g2 := by omega
 have r0 : w0.cell? ⟨g2, 0, none⟩ = some (.bool false) := (cell_of_row w0 _ _ _ _ _ hb2).trans rfl
 have r1 : w0.cell? ⟨g2, 1, none⟩ = some (.slice none 0 0) := (cell_of_row w0 _ _ _ _ _ hb2).trans rfl
 have f0 : w0.frozen? ⟨g2, 0, none⟩ = false := frozen_of_row w0 _ 0 _ _ hb2
 have f1 : w0.frozen? ⟨g2, 1, none⟩ = false := frozen_of_row w0 _ 1 _ _ hb2
 have HB0 := Lib.hid hB0
 have HV0 := Lib.hid (HV.out.below hB0)
 have HV1 := Lib.hid (HU2.out.below hB0)
 have HR := Lib.hid hb2
 have HSZ : Hid (g2 < w0.heap.size) := (Array.getElem?_eq_some_iff.1 hb2).1
 have HG1 : Hid (w.heap.size ≤ g2) := by show _ ≤ _; omega
 clear hw0 hB0 hb0 hb1 hb2 hg hg1 hg2
 have Y0 : Hid ((w0.cell? ⟨g2, 0, none⟩).isSome = true) := by show _ = _; rw [r0]; rfl
 have Y1 : Hid ((w0.cell? ⟨g2, 1, none⟩).isSome = true) := by show _ = _; rw [r1]; rfl
 have R0 := Lib.hid r0
 have R1 := Lib.hid r1
 clear r0 r1
 obtain ⟨U, hU⟩ := someU
 have HU := Lib.hid hU
 clear hU
 go_region_held3 (fun w' => w'.cell? ⟨g, 0, none⟩ = some (.bool na) ∧ w'.cell? ⟨g, 1, none⟩ = some (.slice ao xs.length ca) ∧ w'.cell? ⟨g1, 0, none⟩ = some (.bool nb) ∧ w'.cell? ⟨g1, 1, none⟩ = some (.slice bo ys.length cb) ∧ w'.frozen? ⟨g2, 0, none⟩ = false ∧ w'.frozen? ⟨g2, 1, none⟩ = false ∧ w'.cell? ⟨g2, 0, none⟩ = some (U g2 0 w') ∧ w'.cell? ⟨g2, 1, none⟩ = some (U g2 1 w'))
  (first
   | (refine ⟨?_, ?_, ?_, ?_, ?_, ?_, HU.out _ _ _ (by exact Y0.out), HU.out _ _ _ (by exact Y1.out)⟩ <;> go_keep)
   | exact ⟨(set2_ne ne0 ne0).trans (cell_keep b2 (cell_keep b1 c00)), (set2_ne ne0 ne0).trans (cell_keep b2 (cell_keep b1 c01)), (set2_ne ne1 ne1).trans (cell_keep b2 (cell_keep b1 c10)), (set2_ne ne1 ne1).trans (cell_keep b2 (cell_keep b1 c11)), set2_fro.trans (fro_keep b2 (cell_keep b1 R0.out) (fro_keep b1 R0.out f0)), set2_fro.trans (fro_keep b2 (cell_keep b1 R1.out) (fro_keep b1 R1.out f1)), HU.out _ _ _ (isSome_set' (isSome_set' (isSome_keep b2 (isSome_keep b1 Y0.out)))), HU.out _ _ _ (isSome_set' (isSome_set' (isSome_keep b2 (isSome_keep b1 Y1.out))))⟩
   | exact ⟨cell_keep b2 (cell_keep b1 c00), cell_keep b2 (cell_keep b1 c01), cell_keep b2 (cell_keep b1 c10), cell_keep b2 (cell_keep b1 c11), fro_keep b2 (cell_keep b1 R0.out) (fro_keep b1 R0.out f0), fro_keep b2 (cell_keep b1 R1.out) (fro_keep b1 R1.out f1), HU.out _ _ _ (isSome_keep b2 (isSome_keep b1 Y0.out)), HU.out _ _ _ (isSome_keep b2 (isSome_keep b1 Y1.out))⟩
   | exact ⟨cell_keep b1 c00, cell_keep b1 c01, cell_keep b1 c10, cell_keep b1 c11, fro_keep b1 R0.out f0, fro_keep b1 R1.out f1, HU.out _ _ _ (isSome_keep b1 Y0.out), HU.out _ _ _ (isSome_keep b1 Y1.out)⟩)
  (first
   | (go_at_call 202; refine (mul_any xs ys _ _ _ (by omega) (by exact HV0.out) (by exact HV1.out)).mono ?_; rintro e w1 ⟨q, rs, rfl, h1, h2, h3, h4, b1⟩; obtain ⟨uo, ucap, rfl, -, -, -, -⟩ := h1.1.2)
   | (go_at_call 192; refine (of_zint2 (na != nb) _ rs _ (by exact h1.1)).mono ?_; rintro e w2 ⟨rfl, b2⟩))
 have HB2 : Hid (Below w.heap.size w w2) := HB0.out.drew.trans ((b1.trans (b2.mono b1.size)).mono HB0.out.size)
 have HRR : Hid (w2.heap[g2]? = some (.cells #[.bool false, .slice none 0 0] 115 (0, 0))) := blk_keep b2 (blk_keep b1 HR.out)
 have H1 := Lib.hid (h1.below b2)
 have H2 := Lib.hid h2
 have H4 := Lib.hid h4
 clear h1 h2 h4 b1 b2
 go_wp2_with fail
 have s1 := heap_setCell_same w2 g2 0 #[.bool false, .slice none 0 0] 115 (.bool ((na != nb) && decide (0 < rs.length))) HRR.out
 have s2 := heap_setCell_same _ g2 1 _ 115 (.slice uo rs.length ucap) s1
 refine bodyPost_ret (results_cell_row rfl _ _ g2 115 _ _ _ rfl s2 Tryz.underlying115 rfl (by kernel_rfl)) rfl ?_
 have hz := zq_of (zi_mul na nb (val xs) (val ys))
 refine ⟨_, rs, ?_, (fr_set2 H1.out HSZ.out).mono (Nat.le_of_lt (Nat.lt_of_le_of_lt HG1.out HSZ.out)), by rw [H2.out, hz.2], H4.out, below_set2 HB2.out HG1.out⟩
 rw [len_pos_iff H4.out, H2.out, hz.1]
 rfl
set_option maxRecDepth 100000 in
set_option maxHeartbeats 2000000 in
theorem add_same (na : Bool) (v u : Value) (xs ys : List Nat) (w : World) (hv : Rd w v xs) (hu : Rd w u ys) (hl : xs.length ≤ 274877906944) (hl2 : ys.length ≤ 274877906944) :
  Calls Tryz.prog 104 #[.agg #[.bool na, v], .agg #[.bool na, u]] w (ZQ (SynP.zi (na, val xs) + SynP.zi (na, val ys)) w) := by
 have HV := Lib.hid hv
 have HU2 := Lib.hid hu
 obtain ⟨ao, ca, rfl, -, -, -, -⟩ := hv.2
 obtain ⟨bo, cb, rfl, -, -, -, -⟩ := hu.2
 clear hv hu
 go_enter Tryz.func104, Tryz.ntmps104
 go_wp2_with fail
 obtain ⟨g, w0, hg, hw0, hB0, hb0, hb1, hb2⟩ := al3 w #[.bool na, .slice ao xs.length ca] #[.bool na, .slice bo ys.length cb] #[.bool false, .slice none 0 0] 115
 rw [hw0, hg]
 obtain ⟨g1, hg1⟩ : ∃ g1, g1 = g + 1 := ⟨_, rfl⟩
 rw [← hg1] at hb1 hb2 ⊢
 obtain ⟨g2, hg2⟩ : ∃ g2, g2 = g1 + 1 := ⟨_, rfl⟩
 rw [← hg2] at hb2 ⊢
 have c00 : w0.cell? ⟨g, 0, none⟩ = some (.bool na) := (cell_of_row w0 _ _ _ _ _ hb0).trans rfl
 have c01 : w0.cell? ⟨g, 1, none⟩ = some (.slice ao xs.length ca) := (cell_of_row w0 _ _ _ _ _ hb0).trans rfl
 have ne0 : g ≠ g2 := by omega
 have c10 : w0.cell? ⟨g1, 0, none⟩ = some (.bool na) := (cell_of_row w0 _ _ _ _ _ hb1).trans rfl
 have c11 : w0.cell? ⟨g1, 1, none⟩ = some (.slice bo ys.length cb) := (cell_of_row w0 _ _ _ _ _ hb1).trans rfl
 have ne1 : g1 ≠ g2 := by omega
 have r0 : w0.cell? ⟨g2, 0, none⟩ = some (.bool false) := (cell_of_row w0 _ _ _ _ _ hb2).trans rfl
 have r1 : w0.cell? ⟨g2, 1, none⟩ = some (.slice none 0 0) := (cell_of_row w0 _ _ _ _ _ hb2).trans rfl
 have f0 : w0.frozen? ⟨g2, 0, none⟩ = false := frozen_of_row w0 _ 0 _ _ hb2
 have f1 : w0.frozen? ⟨g2, 1, none⟩ = false := frozen_of_row w0 _ 1 _ _ hb2
 have HB0 := Lib.hid hB0
 have HV0 := Lib.hid (HV.out.below hB0)
 have HV1 := Lib.hid (HU2.out.below hB0)
 have HR := Lib.hid hb2
 have HSZ : Hid (g2 < w0.heap.size) := (Array.getElem?_eq_some_iff.1 hb2).1
 have HG1 : Hid (w.heap.size ≤ g2) := by show _ ≤ _; omega
 clear hw0 hB0 hb0 hb1 hb2 hg hg1 hg2
 have Y0 : Hid ((w0.cell? ⟨g2, 0, none⟩).isSome = true) := by show _ = _; rw [r0]; rfl
 have Y1 : Hid ((w0.cell? ⟨g2, 1, none⟩).isSome = true) := by show _ = _; rw [r1]; rfl
 have R0 := Lib.hid r0
 have R1 := Lib.hid r1
 clear r0 r1
 obtain ⟨U, hU⟩ := someU
 have HU := Lib.hid hU
 clear hU
 have hbb : (na == na) = true := by simp
 go_wp2_with fail
 go_region_held3 (fun w' => w'.cell? ⟨g, 0, none⟩ = some (.bool na) ∧ w'.cell? ⟨g, 1, none⟩ = some (.slice ao xs.length ca) ∧ w'.cell? ⟨g1, 1, none⟩ = some (.slice bo ys.length cb) ∧ w'.frozen? ⟨g2, 0, none⟩ = false ∧ w'.frozen? ⟨g2, 1, none⟩ = false ∧ w'.cell? ⟨g2, 0, none⟩ = some (U g2 0 w') ∧ w'.cell? ⟨g2, 1, none⟩ = some (U g2 1 w'))
  (first
   | (refine ⟨?_, ?_, ?_, ?_, ?_, HU.out _ _ _ (by exact Y0.out), HU.out _ _ _ (by exact Y1.out)⟩ <;> go_keep)
   | exact ⟨(set2_ne ne0 ne0).trans (cell_keep b2 (cell_keep b1 c00)), (set2_ne ne0 ne0).trans (cell_keep b2 (cell_keep b1 c01)), (set2_ne ne1 ne1).trans (cell_keep b2 (cell_keep b1 c11)), set2_fro.trans (fro_keep b2 (cell_keep b1 R0.out) (fro_keep b1 R0.out f0)), set2_fro.trans (fro_keep b2 (cell_keep b1 R1.out) (fro_keep b1 R1.out f1)), HU.out _ _ _ (isSome_set' (isSome_set' (isSome_keep b2 (isSome_keep b1 Y0.out)))), HU.out _ _ _ (isSome_set' (isSome_set' (isSome_keep b2 (isSome_keep b1 Y1.out))))⟩
   | exact ⟨cell_keep b2 (cell_keep b1 c00), cell_keep b2 (cell_keep b1 c01), cell_keep b2 (cell_keep b1 c11), fro_keep b2 (cell_keep b1 R0.out) (fro_keep b1 R0.out f0), fro_keep b2 (cell_keep b1 R1.out) (fro_keep b1 R1.out f1), HU.out _ _ _ (isSome_keep b2 (isSome_keep b1 Y0.out)), HU.out _ _ _ (isSome_keep b2 (isSome_keep b1 Y1.out))⟩
   | exact ⟨cell_keep b1 c00, cell_keep b1 c01, cell_keep b1 c11, fro_keep b1 R0.out f0, fro_keep b1 R1.out f1, HU.out _ _ _ (isSome_keep b1 Y0.out), HU.out _ _ _ (isSome_keep b1 Y1.out)⟩)
  (first
   | (go_at_call 198; refine (natAdd_any xs ys _ _ _ hl hl2 (by exact HV0.out) (by exact HV1.out)).mono ?_; rintro e w1 ⟨q, rs, rfl, h1, h2, h3, h4, b1⟩; obtain ⟨uo, ucap, rfl, -, -, -, -⟩ := h1.1.2)
   | (go_at_call 192; refine (of_zint2 na _ rs _ (by exact h1.1)).mono ?_; rintro e w2 ⟨rfl, b2⟩))
 have HB2 : Hid (Below w.heap.size w w2) := HB0.out.drew.trans ((b1.trans (b2.mono b1.size)).mono HB0.out.size)
 have HRR : Hid (w2.heap[g2]? = some (.cells #[.bool false, .slice none 0 0] 115 (0, 0))) := blk_keep b2 (blk_keep b1 HR.out)
 have H1 := Lib.hid (h1.below b2)
 have H2 := Lib.hid h2
 have H4 := Lib.hid h4
 clear h1 h2 h4 b1 b2
 go_wp2_with fail
 have s1 := heap_setCell_same w2 g2 0 #[.bool false, .slice none 0 0] 115 (.bool (na && decide (0 < rs.length))) HRR.out
 have s2 := heap_setCell_same _ g2 1 _ 115 (.slice uo rs.length ucap) s1
 refine bodyPost_ret (results_cell_row rfl _ _ g2 115 _ _ _ rfl s2 Tryz.underlying115 rfl (by kernel_rfl)) rfl ?_
 have hz := zq_of (zi_add na (val xs) (val ys))
 refine ⟨_, rs, ?_, (fr_set2 H1.out HSZ.out).mono (Nat.le_of_lt (Nat.lt_of_le_of_lt HG1.out HSZ.out)), by rw [H2.out, hz.2], H4.out, below_set2 HB2.out HG1.out⟩
 rw [len_pos_iff H4.out, H2.out, hz.1]
 rfl
theorem len_of_val {rs : List Nat} {k : Nat} (hok : ok rs) (hs : strip rs = rs) (h : val rs < BB ^ k) : rs.length ≤ k := by
 refine Decidable.byContradiction fun hn => ?_
 have h1 := canN hok hs (by omega)
 have h2 : BB ^ k ≤ BB ^ (rs.length - 1) := Nat.pow_le_pow_right BB_pos (by omega)
 omega
theorem rd_set {w : World} {v : Value} {xs : List Nat} {g i : Nat} {u : Value} (h : Rd w v xs) (hne : ∀ k, v.ownBlock = some k → k ≠ g) : Rd (w.setCell ⟨g, i, none⟩ u) v xs :=
 h.wr (og := none) (Wr.of_set w i u) (fun k hk => ⟨hne k hk, by simp⟩)
theorem cmpI_neg (a b : Nat) : decide (cmpI a b < 0) = decide (a < b) := by
 unfold cmpI
 split
 ·rename_i h; simp [h]
 ·rename_i h
  split <;> simp <;> omega
set_option maxRecDepth 100000 in
set_option maxHeartbeats 2000000 in
theorem add_diff (na : Bool) (v u : Value) (xs ys : List Nat) (w : World) (hv : Rd w v xs) (hu : Rd w u ys) (hl : xs.length ≤ 274877906944) (hl2 : ys.length ≤ 274877906944) :
  Calls Tryz.prog 104 #[.agg #[.bool na, v], .agg #[.bool (!na), u]] w (ZQ (SynP.zi (na, val xs) + SynP.zi (!na, val ys)) w) := by
 have HV := Lib.hid hv
 have HU2 := Lib.hid hu
 obtain ⟨ao, ca, rfl, -, -, -, -⟩ := hv.2
 obtain ⟨bo, cb, rfl, -, -, -, -⟩ := hu.2
 clear hv hu
 have N0 : ∀ k, k < w.heap.size → k ≠ w.heap.size := fun k hk => by omega
 have HX0 := Lib.hid HV.out.1
 have HY0 := Lib.hid HU2.out.1
 go_enter Tryz.func104, Tryz.ntmps104
 go_wp2_with fail
 obtain ⟨g, w0, hg, hw0, hB0, hb0, hb1, hb2⟩ := al3 w #[.bool na, .slice ao xs.length ca] #[.bool (!na), .slice bo ys.length cb] #[.bool false, .slice none 0 0] 115
 rw [hw0, hg]
 obtain ⟨g1, hg1⟩ : ∃ g1, g1 = g + 1 := ⟨_, rfl⟩
 rw [← hg1] at hb1 hb2 ⊢
 obtain ⟨g2, hg2⟩ : ∃ g2, g2 = g1 + 1 := ⟨_, rfl⟩
 rw [← hg2] at hb2 ⊢
 have c00 : w0.cell? ⟨g, 0, none⟩ = some (.bool na) := (cell_of_row w0 _ _ _ _ _ hb0).trans rfl
 have c01 : w0.cell? ⟨g, 1, none⟩ = some (.slice ao xs.length ca) := (cell_of_row w0 _ _ _ _ _ hb0).trans rfl
 have ne0 : g ≠ g2 := by omega
 have c10 : w0.cell? ⟨g1, 0, none⟩ = some (.bool (!na)) := (cell_of_row w0 _ _ _ _ _ hb1).trans rfl
 have c11 : w0.cell? ⟨g1, 1, none⟩ = some (.slice bo ys.length cb) := (cell_of_row w0 _ _ _ _ _ hb1).trans rfl
 have ne1 : g1 ≠ g2 := by omega
 have r0 : w0.cell? ⟨g2, 0, none⟩ = some (.bool false) := (cell_of_row w0 _ _ _ _ _ hb2).trans rfl
 have r1 : w0.cell? ⟨g2, 1, none⟩ = some (.slice none 0 0) := (cell_of_row w0 _ _ _ _ _ hb2).trans rfl
 have f0 : w0.frozen? ⟨g2, 0, none⟩ = false := frozen_of_row w0 _ 0 _ _ hb2
 have f1 : w0.frozen? ⟨g2, 1, none⟩ = false := frozen_of_row w0 _ 1 _ _ hb2
 have HB0 := Lib.hid hB0
 have HV0 := Lib.hid (HV.out.below hB0)
 have HV1 := Lib.hid (HU2.out.below hB0)
 have HR := Lib.hid hb2
 have HSZ : Hid (g2 < w0.heap.size) := (Array.getElem?_eq_some_iff.1 hb2).1
 have HG1 : Hid (w.heap.size ≤ g2) := by show _ ≤ _; omega
 have GB0 := Lib.hid hb0; have GB1 := Lib.hid hb1; have GG := Lib.hid hg; have GG1 := Lib.hid hg1
 clear hw0 hB0 hb0 hb1 hb2 hg hg1 hg2
 have Y0 : Hid ((w0.cell? ⟨g2, 0, none⟩).isSome = true) := by show _ = _; rw [r0]; rfl
 have Y1 : Hid ((w0.cell? ⟨g2, 1, none⟩).isSome = true) := by show _ = _; rw [r1]; rfl
 have R0 := Lib.hid r0
 have R1 := Lib.hid r1
 clear r0 r1
 obtain ⟨U, hU⟩ := someU
 have HU := Lib.hid hU
 clear hU
 have hbb : (na == !na) = false := by cases na <;> rfl
 have ne01 : g ≠ g1 := by have := GG1.out; omega
 have ne10 : g1 ≠ g := fun e => ne01 e.symm
 have HXN : Hid (∀ q, (Value.slice ao xs.length ca).ownBlock = some q → q ≠ g ∧ q ≠ g1) := fun q hq => by have := HX0.out q hq; have := GG.out; have := GG1.out; omega
 have HYN : Hid (∀ q, (Value.slice bo ys.length cb).ownBlock = some q → q ≠ g ∧ q ≠ g1) := fun q hq => by have := HY0.out q hq; have := GG.out; have := GG1.out; omega
 clear N0
 go_wp2_with fail
 refine (cmp_any _ _ xs ys _ HV0.out HV1.out).mono ?_
 rintro e w1 ⟨rfl, b1⟩
 have HCM := Lib.hid (cmpI_neg (val xs) (val ys))
 obtain ⟨cc, hcc⟩ : ∃ cc, cc = cmpI (val xs) (val ys) := ⟨_, rfl⟩
 rw [← hcc] at HCM
 rw [← hcc]
 have HB1 := Lib.hid b1
 have d00 := cell_keep b1 c00
 have d01 := cell_keep b1 c01
 have d10 := cell_keep b1 c10
 have d11 := cell_keep b1 c11
 have F0 := fro_keep b1 R0.out f0
 have F1 := fro_keep b1 R1.out f1
 have e0 := fro_keep b1 c00 (frozen_of_row w0 _ 0 _ _ GB0.out)
 have e1 := fro_keep b1 c01 (frozen_of_row w0 _ 1 _ _ GB0.out)
 have e2 := fro_keep b1 c10 (frozen_of_row w0 _ 0 _ _ GB1.out)
 have e3 := fro_keep b1 c11 (frozen_of_row w0 _ 1 _ _ GB1.out)
 have HA1 := Lib.hid (blk_keep b1 GB0.out)
 have HA2 := Lib.hid (blk_keep b1 GB1.out)
 have HW0 := Lib.hid (HV0.out.below b1)
 have HW1 := Lib.hid (HV1.out.below b1)
 have HRW := Lib.hid (blk_keep b1 HR.out)
 clear hcc b1 c00 c01 c10 c11 f0 f1
 by_cases hlt : val xs < val ys
 ·skip
  have hcl : decide (cc < 0) = true := by rw [HCM.out]; exact decide_eq_true hlt
  have HLT := Lib.hid hlt
  clear hlt
  go_wp2_with fail
  refine (natSub_any ys xs _ _ _ hl2 (by exact rd_set (rd_set (rd_set (rd_set HW1.out (fun k hk => (HYN.out k hk).1)) (fun k hk => (HYN.out k hk).1)) (fun k hk => (HYN.out k hk).2)) (fun k hk => (HYN.out k hk).2)) (by exact rd_set (rd_set (rd_set (rd_set HW0.out (fun k hk => (HXN.out k hk).1)) (fun k hk => (HXN.out k hk).1)) (fun k hk => (HXN.out k hk).2)) (fun k hk => (HXN.out k hk).2)) (Nat.le_of_lt HLT.out)).mono ?_
  rintro e w2 ⟨q, rs, rfl, h1, h2, h3, h4, b2⟩
  obtain ⟨uo, ucap, rfl, -, -, hok2, -⟩ := h1.1.2
  have k1 := heap_setCell_same w1 g 0 _ _ (.bool (!na)) HA1.out
  have k2 := heap_setCell_same _ g 1 _ _ (.slice bo ys.length cb) k1
  obtain ⟨w5, hw5⟩ : ∃ w5, w5 = (((w1.setCell ⟨g, 0, none⟩ (.bool (!na))).setCell ⟨g, 1, none⟩ (.slice bo ys.length cb)).setCell ⟨g1, 0, none⟩ (.bool na)).setCell ⟨g1, 1, none⟩ (.slice ao xs.length ca) := ⟨_, rfl⟩
  rw [← hw5] at b2 h1
  have k3 : w5.heap[g]? = some (.cells #[.bool (!na), .slice bo ys.length cb] 115 (0, 0)) := by rw [hw5]; exact (heap_setCell_other _ ⟨g1, 1, none⟩ g _ ne01).trans ((heap_setCell_other _ ⟨g1, 0, none⟩ g _ ne01).trans k2)
  have k4 : w5.heap[g2]? = some (.cells #[.bool false, .slice none 0 0] 115 (0, 0)) := by rw [hw5]; exact (heap_setCell_other _ ⟨g1, 1, none⟩ g2 _ ne1.symm).trans ((heap_setCell_other _ ⟨g1, 0, none⟩ g2 _ ne1.symm).trans ((heap_setCell_other _ ⟨g, 1, none⟩ g2 _ ne0.symm).trans ((heap_setCell_other _ ⟨g, 0, none⟩ g2 _ ne0.symm).trans HRW.out)))
  have HB5 : Hid (Below w.heap.size w w5) := by show Below _ _ _; rw [hw5]; exact below_set2 (below_set2 (HB0.out.trans (HB1.out.mono HB0.out.size)) (by have := GG.out; omega)) (by have := GG.out; have := GG1.out; omega)
  have hsz5 : w.heap.size ≤ w5.heap.size := HB5.out.size
  have m0 : w2.cell? ⟨g, 0, none⟩ = some (.bool (!na)) := (cell_of_row w2 _ _ _ _ _ (blk_keep b2 k3)).trans rfl
  have HRR := Lib.hid (blk_keep b2 k4)
  have n0 : w2.frozen? ⟨g2, 0, none⟩ = false := frozen_of_row w2 _ 0 _ _ HRR.out
  have n1 : w2.frozen? ⟨g2, 1, none⟩ = false := frozen_of_row w2 _ 1 _ _ HRR.out
  have HB2 : Hid (Below w.heap.size w w2) := HB5.out.trans (b2.mono HB5.out.size)
  have H1 := Lib.hid h1
  have H2 := Lib.hid h2
  have H4 := Lib.hid h4
  have HS5 : Hid (g2 < w5.heap.size) := (Array.getElem?_eq_some_iff.1 k4).1
  clear k1 k2
  clear h1 h2 h4 b2 k3 k4 d00 d01 d10 d11 F0 F1 e0 e1 e2 e3 hw5
  go_wp2_with fail
  refine (of_zint2 (!na) _ rs _ (by exact H1.out.1)).mono ?_
  rintro e w3 ⟨rfl, b3⟩
  have HRS := Lib.hid (blk_keep b3 HRR.out)
  have HB3 : Hid (Below w.heap.size w w3) := HB2.out.trans (b3.mono HB2.out.size)
  have H1b := Lib.hid (H1.out.below b3)
  have n0 : w3.frozen? ⟨g2, 0, none⟩ = false := frozen_of_row w3 _ 0 _ _ HRS.out
  have n1 : w3.frozen? ⟨g2, 1, none⟩ = false := frozen_of_row w3 _ 1 _ _ HRS.out
  have z0 : w3.cell? ⟨g2, 0, none⟩ = some (.bool false) := (cell_of_row w3 _ _ _ _ _ HRS.out).trans rfl
  have z1 : w3.cell? ⟨g2, 1, none⟩ = some (.slice none 0 0) := (cell_of_row w3 _ _ _ _ _ HRS.out).trans rfl
  clear b3
  go_wp2_with fail
  have s1 := heap_setCell_same w3 g2 0 #[.bool false, .slice none 0 0] 115 (.bool ((!na) && decide (0 < rs.length))) HRS.out
  have s2 := heap_setCell_same _ g2 1 _ 115 (.slice uo rs.length ucap) s1
  refine bodyPost_ret (results_cell_row rfl _ _ g2 115 _ _ _ rfl s2 Tryz.underlying115 rfl (by kernel_rfl)) rfl ?_
  have hz := zq_of (z := SynP.zi (na, val xs) + SynP.zi (!na, val ys)) ((zi_sub (!na) (Nat.le_of_lt HLT.out)).trans (by rw [Bool.not_not]; exact Int.add_comm _ _))
  refine ⟨_, rs, ?_, (fr_set2 H1b.out HS5.out).mono HB5.out.size, by rw [H2.out, hz.2], H4.out, below_set2 HB3.out HG1.out⟩
  rw [len_pos_iff H4.out, H2.out, hz.1]
  rfl
 ·skip
  have hcl : decide (cc < 0) = false := by rw [HCM.out]; exact decide_eq_false hlt
  have HLT := Lib.hid hlt
  clear hlt
  go_wp2_with fail
  refine (natSub_any xs ys _ _ _ hl HW0.out HW1.out (Nat.le_of_not_lt HLT.out)).mono ?_
  rintro e w2 ⟨q, rs, rfl, h1, h2, h3, h4, b2⟩
  obtain ⟨uo, ucap, rfl, -, -, hok2, -⟩ := h1.1.2
  obtain ⟨w5, hw5⟩ : ∃ w5, w5 = w1 := ⟨_, rfl⟩
  rw [← hw5] at b2 h1
  have k3 : w5.heap[g]? = some (.cells #[.bool na, .slice ao xs.length ca] 115 (0, 0)) := by rw [hw5]; exact HA1.out
  have k4 : w5.heap[g2]? = some (.cells #[.bool false, .slice none 0 0] 115 (0, 0)) := by rw [hw5]; exact HRW.out
  have HB5 : Hid (Below w.heap.size w w5) := by show Below _ _ _; rw [hw5]; exact HB0.out.trans (HB1.out.mono HB0.out.size)
  have m0 : w2.cell? ⟨g, 0, none⟩ = some (.bool na) := (cell_of_row w2 _ _ _ _ _ (blk_keep b2 k3)).trans rfl
  have HRR := Lib.hid (blk_keep b2 k4)
  have n0 : w2.frozen? ⟨g2, 0, none⟩ = false := frozen_of_row w2 _ 0 _ _ HRR.out
  have n1 : w2.frozen? ⟨g2, 1, none⟩ = false := frozen_of_row w2 _ 1 _ _ HRR.out
  have HB2 : Hid (Below w.heap.size w w2) := HB5.out.trans (b2.mono HB5.out.size)
  have H1 := Lib.hid h1
  have H2 := Lib.hid h2
  have H4 := Lib.hid h4
  have HS5 : Hid (g2 < w5.heap.size) := (Array.getElem?_eq_some_iff.1 k4).1
  clear h1 h2 h4 b2 k3 k4 d00 d01 d10 d11 F0 F1 e0 e1 e2 e3 hw5
  go_wp2_with fail
  refine (of_zint2 na _ rs _ (by exact H1.out.1)).mono ?_
  rintro e w3 ⟨rfl, b3⟩
  have HRS := Lib.hid (blk_keep b3 HRR.out)
  have HB3 : Hid (Below w.heap.size w w3) := HB2.out.trans (b3.mono HB2.out.size)
  have H1b := Lib.hid (H1.out.below b3)
  have n0 : w3.frozen? ⟨g2, 0, none⟩ = false := frozen_of_row w3 _ 0 _ _ HRS.out
  have n1 : w3.frozen? ⟨g2, 1, none⟩ = false := frozen_of_row w3 _ 1 _ _ HRS.out
  have z0 : w3.cell? ⟨g2, 0, none⟩ = some (.bool false) := (cell_of_row w3 _ _ _ _ _ HRS.out).trans rfl
  have z1 : w3.cell? ⟨g2, 1, none⟩ = some (.slice none 0 0) := (cell_of_row w3 _ _ _ _ _ HRS.out).trans rfl
  clear b3
  go_wp2_with fail
  have s1 := heap_setCell_same w3 g2 0 #[.bool false, .slice none 0 0] 115 (.bool (na && decide (0 < rs.length))) HRS.out
  have s2 := heap_setCell_same _ g2 1 _ 115 (.slice uo rs.length ucap) s1
  refine bodyPost_ret (results_cell_row rfl _ _ g2 115 _ _ _ rfl s2 Tryz.underlying115 rfl (by kernel_rfl)) rfl ?_
  have hz := zq_of (zi_sub na (Nat.le_of_not_lt HLT.out))
  refine ⟨_, rs, ?_, (fr_set2 H1b.out HS5.out).mono HB5.out.size, by rw [H2.out, hz.2], H4.out, below_set2 HB3.out HG1.out⟩
  rw [len_pos_iff H4.out, H2.out, hz.1]
  rfl
theorem add_zint (na nb : Bool) (v u : Value) (xs ys : List Nat) (w : World) (hv : Rd w v xs) (hu : Rd w u ys) (hl : xs.length ≤ 274877906944) (hl2 : ys.length ≤ 274877906944) :
  Calls Tryz.prog 104 #[.agg #[.bool na, v], .agg #[.bool nb, u]] w (ZQ (SynP.zi (na, val xs) + SynP.zi (nb, val ys)) w) := by
 by_cases h : nb = na
 ·subst h; exact add_same nb v u xs ys w hv hu hl hl2
 ·obtain rfl : nb = !na := by cases na <;> cases nb <;> simp_all
  exact add_diff na v u xs ys w hv hu hl hl2
set_option maxRecDepth 100000 in
set_option maxHeartbeats 2000000 in
theorem mulAdd_zint (na nb nc : Bool) (v u t : Value) (xs ys zs : List Nat) (w : World) (hv : Rd w v xs) (hu : Rd w u ys) (ht : Rd w t zs) (hl : xs.length + ys.length < 274877906944) (hl2 : zs.length ≤ 274877906944) :
  Calls Tryz.prog 354 #[.agg #[.bool na, v], .agg #[.bool nb, u], .agg #[.bool nc, t]] w (ZQ (SynP.zi (na, val xs) * SynP.zi (nb, val ys) + SynP.zi (nc, val zs)) w) := by
 have HV := Lib.hid hv
 have HU2 := Lib.hid hu
 have HT2 := Lib.hid ht
 obtain ⟨ao, ca, rfl, -, -, -, -⟩ := hv.2
 obtain ⟨bo, cb, rfl, -, -, -, -⟩ := hu.2
 obtain ⟨eo, ce, rfl, -, -, -, -⟩ := ht.2
 clear hv hu ht
 have HZ : Hid (SynP.zi (decide (SynP.zi (na, val xs) * SynP.zi (nb, val ys) < 0), (SynP.zi (na, val xs) * SynP.zi (nb, val ys)).natAbs) = SynP.zi (na, val xs) * SynP.zi (nb, val ys)) := SynP.zi_iz _
 have HML : Hid (∀ rs, ok rs → strip rs = rs → val rs = (SynP.zi (na, val xs) * SynP.zi (nb, val ys)).natAbs → rs.length ≤ 274877906944) := fun rs h1 h2 h3 => Nat.le_of_lt (Nat.lt_of_le_of_lt (len_of_val h1 h2 (by rw [h3, Int.natAbs_mul, zi_abs, zi_abs, Nat.pow_add]; exact Nat.mul_lt_mul_of_lt_of_le (val_lt HV.out.ok) (Nat.le_of_lt (val_lt HU2.out.ok)) (Nat.pow_pos BB_pos))) hl)
 obtain ⟨Z, hZ⟩ : ∃ Z, Z = SynP.zi (na, val xs) * SynP.zi (nb, val ys) := ⟨_, rfl⟩
 have HZZ := Lib.hid hZ
 rw [← hZ] at HZ HML
 rw [← hZ]
 clear hZ
 go_enter Tryz.func354, Tryz.ntmps354
 go_wp2_with fail
 obtain ⟨g, w0, hg, hw0, hB0, hb0, hb1, hb2, hb3⟩ := al4 w #[.bool na, .slice ao xs.length ca] #[.bool nb, .slice bo ys.length cb] #[.bool nc, .slice eo zs.length ce] #[.bool false, .slice none 0 0] 115
 rw [hw0, hg]
 obtain ⟨g1, hg1⟩ : ∃ g1, g1 = g + 1 := ⟨_, rfl⟩
 rw [← hg1] at hb1 hb2 hb3 ⊢
 obtain ⟨g2, hg2⟩ : ∃ g2, g2 = g1 + 1 := ⟨_, rfl⟩
 rw [← hg2] at hb2 hb3 ⊢
 obtain ⟨g3, hg3⟩ : ∃ g3, g3 = g2 + 1 := ⟨_, rfl⟩
 rw [← hg3] at hb3 ⊢
 have c00 : w0.cell? ⟨g, 0, none⟩ = some (.bool na) := (cell_of_row w0 _ _ _ _ _ hb0).trans rfl
 have c01 : w0.cell? ⟨g, 1, none⟩ = some (.slice ao xs.length ca) := (cell_of_row w0 _ _ _ _ _ hb0).trans rfl
 have ne0 : g ≠ g3 := by omega
 have c10 : w0.cell? ⟨g1, 0, none⟩ = some (.bool nb) := (cell_of_row w0 _ _ _ _ _ hb1).trans rfl
 have c11 : w0.cell? ⟨g1, 1, none⟩ = some (.slice bo ys.length cb) := (cell_of_row w0 _ _ _ _ _ hb1).trans rfl
 have ne1 : g1 ≠ g3 := by omega
 have c20 : w0.cell? ⟨g2, 0, none⟩ = some (.bool nc) := (cell_of_row w0 _ _ _ _ _ hb2).trans rfl
 have c21 : w0.cell? ⟨g2, 1, none⟩ = some (.slice eo zs.length ce) := (cell_of_row w0 _ _ _ _ _ hb2).trans rfl
 have ne2 : g2 ≠ g3 := by omega
 have r0 : w0.cell? ⟨g3, 0, none⟩ = some (.bool false) := (cell_of_row w0 _ _ _ _ _ hb3).trans rfl
 have r1 : w0.cell? ⟨g3, 1, none⟩ = some (.slice none 0 0) := (cell_of_row w0 _ _ _ _ _ hb3).trans rfl
 have f0 : w0.frozen? ⟨g3, 0, none⟩ = false := frozen_of_row w0 _ 0 _ _ hb3
 have f1 : w0.frozen? ⟨g3, 1, none⟩ = false := frozen_of_row w0 _ 1 _ _ hb3
 have HB0 := Lib.hid hB0
 have HV0 := Lib.hid (HV.out.below hB0)
 have HV1 := Lib.hid (HU2.out.below hB0)
 have HV2 := Lib.hid (HT2.out.below hB0)
 have HR := Lib.hid hb3
 have HSZ : Hid (g3 < w0.heap.size) := (Array.getElem?_eq_some_iff.1 hb3).1
 have HG1 : Hid (w.heap.size ≤ g3) := by show _ ≤ _; omega
 clear hw0 hB0 hb0 hb1 hb2 hb3 hg hg1 hg2 hg3
 have Y0 : Hid ((w0.cell? ⟨g3, 0, none⟩).isSome = true) := by show _ = _; rw [r0]; rfl
 have Y1 : Hid ((w0.cell? ⟨g3, 1, none⟩).isSome = true) := by show _ = _; rw [r1]; rfl
 have R0 := Lib.hid r0
 have R1 := Lib.hid r1
 clear r0 r1
 obtain ⟨U, hU⟩ := someU
 have HU := Lib.hid hU
 clear hU
 go_region_held3 (fun w' => w'.cell? ⟨g, 0, none⟩ = some (.bool na) ∧ w'.cell? ⟨g, 1, none⟩ = some (.slice ao xs.length ca) ∧ w'.cell? ⟨g1, 0, none⟩ = some (.bool nb) ∧ w'.cell? ⟨g1, 1, none⟩ = some (.slice bo ys.length cb) ∧ w'.cell? ⟨g2, 0, none⟩ = some (.bool nc) ∧ w'.cell? ⟨g2, 1, none⟩ = some (.slice eo zs.length ce) ∧ w'.frozen? ⟨g3, 0, none⟩ = false ∧ w'.frozen? ⟨g3, 1, none⟩ = false ∧ w'.cell? ⟨g3, 0, none⟩ = some (U g3 0 w') ∧ w'.cell? ⟨g3, 1, none⟩ = some (U g3 1 w'))
  (first
   | (refine ⟨?_, ?_, ?_, ?_, ?_, ?_, ?_, ?_, HU.out _ _ _ (by exact Y0.out), HU.out _ _ _ (by exact Y1.out)⟩ <;> go_keep)
   | exact ⟨(set2_ne ne0 ne0).trans (cell_keep b2 (cell_keep b1 c00)), (set2_ne ne0 ne0).trans (cell_keep b2 (cell_keep b1 c01)), (set2_ne ne1 ne1).trans (cell_keep b2 (cell_keep b1 c10)), (set2_ne ne1 ne1).trans (cell_keep b2 (cell_keep b1 c11)), (set2_ne ne2 ne2).trans (cell_keep b2 (cell_keep b1 c20)), (set2_ne ne2 ne2).trans (cell_keep b2 (cell_keep b1 c21)), set2_fro.trans (fro_keep b2 (cell_keep b1 R0.out) (fro_keep b1 R0.out f0)), set2_fro.trans (fro_keep b2 (cell_keep b1 R1.out) (fro_keep b1 R1.out f1)), HU.out _ _ _ (isSome_set' (isSome_set' (isSome_keep b2 (isSome_keep b1 Y0.out)))), HU.out _ _ _ (isSome_set' (isSome_set' (isSome_keep b2 (isSome_keep b1 Y1.out))))⟩
   | exact ⟨cell_keep b2 (cell_keep b1 c00), cell_keep b2 (cell_keep b1 c01), cell_keep b2 (cell_keep b1 c10), cell_keep b2 (cell_keep b1 c11), cell_keep b2 (cell_keep b1 c20), cell_keep b2 (cell_keep b1 c21), fro_keep b2 (cell_keep b1 R0.out) (fro_keep b1 R0.out f0), fro_keep b2 (cell_keep b1 R1.out) (fro_keep b1 R1.out f1), HU.out _ _ _ (isSome_keep b2 (isSome_keep b1 Y0.out)), HU.out _ _ _ (isSome_keep b2 (isSome_keep b1 Y1.out))⟩
   | exact ⟨cell_keep b1 c00, cell_keep b1 c01, cell_keep b1 c10, cell_keep b1 c11, cell_keep b1 c20, cell_keep b1 c21, fro_keep b1 R0.out f0, fro_keep b1 R1.out f1, HU.out _ _ _ (isSome_keep b1 Y0.out), HU.out _ _ _ (isSome_keep b1 Y1.out)⟩)
  (first
   | (go_at_call 109; refine (mul_zint na nb _ _ xs ys _ (by exact HV0.out) (by exact HV1.out) hl).mono ?_; rw [← HZZ.out]; rintro e w1 ⟨q, rs, rfl, h1, h2, h3, b1⟩; obtain ⟨uo, ucap, rfl, -, -, -, -⟩ := h1.1.2)
   | (go_at_call 104; refine (add_zint (decide (Z < 0)) nc _ _ rs zs _ (by exact h1.1) (by exact (show Rd w0.drew _ _ from HV2.out.below ⟨rfl, rfl, rfl, Nat.le_refl _, fun _ _ => rfl⟩).below b1) (by exact HML.out _ h1.1.ok h3 h2) hl2).mono ?_; rw [h2, HZ.out]; rintro e w2 ⟨q2, ts, rfl, k1, k2, k3, b2⟩; obtain ⟨xo, xcap, rfl, -, -, -, -⟩ := k1.1.2))
 have HB2 : Hid (Below w.heap.size w w2) := HB0.out.drew.trans ((b1.trans (b2.mono b1.size)).mono HB0.out.size)
 have HRR : Hid (w2.heap[g3]? = some (.cells #[.bool false, .slice none 0 0] 115 (0, 0))) := blk_keep b2 (blk_keep b1 HR.out)
 have H1 := Lib.hid k1
 have H2 := Lib.hid k2
 have H4 := Lib.hid k3
 have HSS : Hid (g3 < w1.heap.size) := Nat.lt_of_lt_of_le HSZ.out b1.size
 clear h1 h2 h3 k1 k2 k3 b1 b2
 go_wp2_with fail
 have s1 := heap_setCell_same w2 g3 0 #[.bool false, .slice none 0 0] 115 (.bool (decide (Z + SynP.zi (nc, val zs) < 0))) HRR.out
 have s2 := heap_setCell_same _ g3 1 _ 115 (.slice xo ts.length xcap) s1
 refine bodyPost_ret (results_cell_row rfl _ _ g3 115 _ _ _ rfl s2 Tryz.underlying115 rfl (by kernel_rfl)) rfl ?_
 refine ⟨_, ts, rfl, (fr_set2 H1.out HSS.out).mono (Nat.le_of_lt (Nat.lt_of_le_of_lt HG1.out HSS.out)), H2.out, H4.out, below_set2 HB2.out HG1.out⟩
end Go.Proofs.YtceggplnggkdnaaGreatDoor
