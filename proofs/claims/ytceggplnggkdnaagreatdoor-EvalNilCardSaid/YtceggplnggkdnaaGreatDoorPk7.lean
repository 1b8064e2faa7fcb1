/- Joined texts of this claim's proof: DivB, DivC, DivG, DivH. -/
import Derived.Test.YtceggplnggkdnaaGreatDoorPk6
import Derived.Test.YtceggplnggkdnaaGreatDoorPk5
set_option linter.unusedSimpArgs false
set_option linter.unusedVariables false
namespace Go.Proofs.YtceggplnggkdnaaGreatDoor
open Go.RowKit NatP
def cmpI (a b : Nat) : Int := if a < b then -1 else if b < a then 1 else 0
theorem val_drop {l : List Nat} {k x : Nat} (h : l[k]? = some x) : val (l.drop k) = x + BB * val (l.drop (k + 1)) := by
 have hlt : k < l.length := (List.getElem?_eq_some_iff.1 h).1
 rw [List.drop_eq_getElem_cons hlt]
 have := List.getElem?_eq_getElem hlt
 rw [h] at this
 rw [← Option.some.inj this]; rfl
theorem strip_ge {l : List Nat} {m : Nat} (h : (strip l).length = m + 1) : BB ^ m ≤ val l := by
 rw [← val_strip l]
 obtain ⟨d, hd, hd0⟩ := strip_last l m h
 rw [val_split (strip l) m (by omega), val_drop hd]
 have h1 : BB ^ m * 1 ≤ BB ^ m * (d + BB * val ((strip l).drop (m + 1))) := Nat.mul_le_mul_left _ (by omega)
 omega
theorem cmp_len {xs ys : List Nat} (hx : ok xs) (h : (strip xs).length < (strip ys).length) : val xs < val ys := by
 obtain ⟨m, hm⟩ : ∃ m, (strip ys).length = m + 1 := ⟨(strip ys).length - 1, by omega⟩
 have h1 := strip_ge hm
 have h2 := val_lt (ok_strip hx)
 rw [val_strip] at h2
 have h3 : BB ^ (strip xs).length ≤ BB ^ m := Nat.pow_le_pow_right BB_pos (by omega)
 omega
theorem cmp_word {X Y : List Nat} {k x y : Nat} (hX : ok X) (hx : X[k]? = some x) (hy : Y[k]? = some y) (hd : val (X.drop (k + 1)) = val (Y.drop (k + 1))) (hlt : x < y) : val X < val Y := by
 have lx : k < X.length := (List.getElem?_eq_some_iff.1 hx).1
 have ly : k < Y.length := (List.getElem?_eq_some_iff.1 hy).1
 rw [val_split X k (by omega), val_split Y k (by omega), val_drop hx, val_drop hy, hd]
 have h1 := val_lt (ok_take hX k)
 rw [List.length_take, Nat.min_eq_left (by omega)] at h1
 have h2 : BB ^ k * (x + BB * val (Y.drop (k + 1)) + 1) ≤ BB ^ k * (y + BB * val (Y.drop (k + 1))) := Nat.mul_le_mul_left _ (by omega)
 rw [Nat.mul_add, Nat.mul_one] at h2
 omega
def CmpPost (a b : Nat) (w : World) (e : Ending) (w' : World) : Prop := e = .returned (.int .i64 (cmpI a b)) ∧ Below w.heap.size w w'
def CmpRel (X Y : List Nat) (w : World) (i : Value) (wr : World) : Prop := ∃ k : Nat, k ≤ X.length ∧ i = .int .i64 ((k : Int) - 1) ∧ val (X.drop k) = val (Y.drop k) ∧ Below w.heap.size w wr
theorem cmp_eqv {X Y : List Nat} (h : val (X.drop 0) = val (Y.drop 0)) : cmpI (val X) (val Y) = 0 := by
 rw [List.drop_zero, List.drop_zero] at h
 unfold cmpI; rw [h]; simp
theorem cmpI_lt {a b : Nat} (h : a < b) : cmpI a b = -1 := if_pos h
theorem cmpI_gt {a b : Nat} (h : b < a) : cmpI a b = 1 := by unfold cmpI; rw [if_neg (by omega), if_pos h]
set_option maxRecDepth 100000 in
set_option maxHeartbeats 2000000 in
theorem cmp_any (v u : Value) (xs ys : List Nat) (w : World) (hv : Rd w v xs) (hu : Rd w u ys) :
  Calls Tryz.prog 199 #[v, u] w (CmpPost (val xs) (val ys) w) := by
 have HV := Lib.hid hv
 have HU := Lib.hid hu
 obtain ⟨ao, cap, rfl, hnc, hcm, hok, -⟩ := hv.2
 obtain ⟨bo, cap2, rfl, hnc2, hcm2, hok2, -⟩ := hu.2
 have HOK := Lib.hid hok
 have HOK2 := Lib.hid hok2
 have hle := strip_le xs
 have hle2 := strip_le ys
 obtain ⟨n, hn⟩ : ∃ n, n = (strip xs).length := ⟨_, rfl⟩
 obtain ⟨m, hm⟩ : ∃ m, m = (strip ys).length := ⟨_, rfl⟩
 rw [← hn] at hle
 rw [← hm] at hle2
 have hb : xs.length ≤ 9223372036854775807 := by unfold maxLen at hcm; omega
 have hb2 : ys.length ≤ 9223372036854775807 := by unfold maxLen at hcm2; omega
 have HN := Lib.hid hn
 have HM := Lib.hid hm
 clear hv hu hok hok2 hcm hcm2 hn hm
 go_enter Tryz.func199, Tryz.ntmps199
 go_wp2_with fail
 refine (size_any _ xs _ HV.out).mono ?_
 rintro e w' ⟨rfl, rfl⟩
 rw [← HN.out]
 go_wp2_with fail
 refine (size_any _ ys _ HU.out).mono ?_
 rintro e w' ⟨rfl, rfl⟩
 rw [← HM.out]
 by_cases hnm : n = m
 ·have hnmB : ((n : Int) != (m : Int)) = false := by simp [hnm]
  have HNM := Lib.hid hnm
  clear hnm
  have HX : Hid (val xs = val (xs.take n)) := by show _ = _; rw [HN.out, ← (strip_take xs).1, val_strip]
  have HY : Hid (val ys = val (ys.take n)) := by show _ = _; rw [HNM.out, HM.out, ← (strip_take ys).1, val_strip]
  have hle3 : n ≤ ys.length := by have := HNM.out; omega
  go_wp2_with fail
  go_loopw [7] (fun i wr => CmpRel (xs.take n) (ys.take n) w i wr) (fun i _ => (intOf i + 1).toNat)
  case atStart => exact ⟨n, by rw [List.length_take]; omega, rfl, by rw [List.drop_eq_nil_of_le (by rw [List.length_take]; omega), List.drop_eq_nil_of_le (by rw [List.length_take]; omega)], Below.refl _ _⟩
  case round =>
   obtain ⟨k, hk, rfl, hd, hbl⟩ := hrel
   rw [List.length_take, Nat.min_eq_left hle] at hk
   have HD := Lib.hid hd
   have HBL := Lib.hid hbl
   clear hd hbl
   cases k with
   | zero =>
    have hge : ¬ ((0 : Int) ≤ ((0 : Nat) : Int) - 1) := by omega
    have HZ := Lib.hid (cmp_eqv HD.out)
    rw [← HX.out, ← HY.out] at HZ
    go_wp2_with fail
    go_ret
    exact ⟨by rw [HZ.out]; rfl, HBL.out⟩
   | succ k =>
    have hkk : (((k + 1 : Nat) : Int) - 1) = (k : Int) := by omega
    rw [hkk]
    clear hkk
    obtain ⟨x, hx⟩ : ∃ x, xs[k]? = some x := ⟨_, List.getElem?_eq_getElem (by omega)⟩
    obtain ⟨y, hy⟩ : ∃ y, ys[k]? = some y := ⟨_, List.getElem?_eq_getElem (by omega)⟩
    obtain ⟨ao', cap', e, -, -, -, hsh⟩ := (HV.out.below HBL.out).2
    cases e
    obtain ⟨g, o, rfl, e1⟩ := hsh k x hx
    obtain ⟨bo', cap2', e', -, -, -, hsh2⟩ := (HU.out.below HBL.out).2
    cases e'
    obtain ⟨g2, o2, rfl, e2⟩ := hsh2 k y hy
    have hxt : (xs.take n)[k]? = some x := by rw [List.getElem?_take, if_pos (by omega)]; exact hx
    have hyt : (ys.take n)[k]? = some y := by rw [List.getElem?_take, if_pos (by omega)]; exact hy
    have HXT := Lib.hid hxt
    have HYT := Lib.hid hyt
    have hi0 : (0 : Int) ≤ (k : Int) := Int.natCast_nonneg _
    have hi1 : (k : Int) < (xs.length : Int) := by omega
    have hi2 : (k : Int) < (ys.length : Int) := by omega
    clear hsh hsh2 hx hy hxt hyt
    by_cases hlt : x < y
    ·have hb1 : decide (x < y) = true := by simp [hlt]
     have HF : Hid (cmpI (val xs) (val ys) = -1) := by
      show _ = _
      rw [HX.out, HY.out]
      exact cmpI_lt (cmp_word (ok_take HOK.out _) HXT.out HYT.out HD.out hlt)
     clear hlt
     go_wp2_with fail
     go_quiet (fail)
     go_wp2_with fail
     go_ret
     exact ⟨by rw [HF.out]; rfl, below_drewN HBL.out _⟩
    ·have hb1 : decide (x < y) = false := by simp [hlt]
     by_cases hgt : y < x
     ·have hb3 : decide (y < x) = true := by simp [hgt]
      have HF : Hid (cmpI (val xs) (val ys) = 1) := by
       show _ = _
       rw [HX.out, HY.out]
       exact cmpI_gt (cmp_word (ok_take HOK2.out _) HYT.out HXT.out HD.out.symm hgt)
      clear hlt hgt
      go_wp2_with fail
      go_quiet (fail)
      go_wp2_with fail
      go_quiet (fail)
      go_wp2_with fail
      go_ret
      exact ⟨by rw [HF.out]; rfl, below_drewN (below_drewN HBL.out _) _⟩
     ·have hb3 : decide (y < x) = false := by simp [hgt]
      have HF : Hid (val ((xs.take n).drop k) = val ((ys.take n).drop k)) := by
       show _ = _
       rw [val_drop HXT.out, val_drop HYT.out, HD.out, show x = y from by omega]
      clear hlt hgt
      go_wp2_with fail
      go_quiet (fail)
      go_wp2_with fail
      go_quiet (fail)
      go_wp2_with fail
      exact ⟨⟨k, by rw [List.length_take]; omega, rfl, HF.out, below_drewN HBL.out _⟩, by simp [intOf] <;> omega⟩
 ·have hnmB : ((n : Int) != (m : Int)) = true := by simp; omega
  by_cases hlt : n < m
  ·have hb1 : decide (n < m) = true := by simp [hlt]
   have HF : Hid (cmpI (val xs) (val ys) = -1) := cmpI_lt (cmp_len HOK.out (by rw [← HN.out, ← HM.out]; exact hlt))
   clear hlt hnm
   go_wp2_with fail
   go_ret
   exact ⟨by rw [HF.out]; rfl, Below.refl _ _⟩
  ·have hb1 : decide (n < m) = false := by simp [hlt]
   have HF : Hid (cmpI (val xs) (val ys) = 1) := cmpI_gt (cmp_len HOK2.out (by rw [← HN.out, ← HM.out]; omega))
   clear hlt hnm
   go_wp2_with fail
   go_ret
   exact ⟨by rw [HF.out]; rfl, Below.refl _ _⟩
def WdSt (L : List Nat) (y k r : Nat) (M : List Nat) : Prop := M.length = L.length ∧ M.take k = L.take k ∧ r < y ∧ val (L.drop k) = val (M.drop k) * y + r
theorem WdSt.start (L : List Nat) {y : Nat} (hy : 0 < y) : WdSt L y L.length 0 L := ⟨rfl, rfl, hy, by rw [List.drop_eq_nil_of_le (Nat.le_refl _)]; simp [val]⟩
theorem WdSt.at {L M : List Nat} {y k r x : Nat} (h : WdSt L y (k + 1) r M) (hx : M[k]? = some x) : L[k]? = some x := by
 have := congrArg (fun l => l[k]?) h.2.1
 simp only [List.getElem?_take, Nat.lt_succ_self, if_true] at this
 rw [← this]; exact hx
theorem WdSt.step {L M : List Nat} {y k r x : Nat} (h : WdSt L y (k + 1) r M) (hx : M[k]? = some x) : WdSt L y k ((r * BB + x) % y) (M.set k ((r * BB + x) / y)) := by
 have hL := h.at hx
 obtain ⟨h1, h2, h3, h4⟩ := h
 have hk : k < M.length := (List.getElem?_eq_some_iff.1 hx).1
 refine ⟨by rw [List.length_set, h1], ?_, Nat.mod_lt _ (by omega), ?_⟩
 ·rw [set_take _ (Nat.le_refl _)]
  have := congrArg (List.take k) h2
  rw [List.take_take, List.take_take, Nat.min_eq_left (Nat.le_succ k)] at this
  exact this
 ·have e1 : (M.set k ((r * BB + x) / y))[k]? = some ((r * BB + x) / y) := by rw [List.getElem?_set_self hk]
  rw [val_drop hL, val_drop e1, set_drop, h4]
  have := Nat.div_add_mod (r * BB + x) y
  generalize (r * BB + x) / y = q at *
  generalize (r * BB + x) % y = t at *
  rw [Nat.mul_add, Nat.add_mul, Nat.mul_comm BB r, Nat.mul_assoc, Nat.mul_comm y q] at *
  omega
theorem WdSt.fin {L M : List Nat} {y r : Nat} (h : WdSt L y 0 r M) : M.length = L.length ∧ val M = val L / y ∧ r = val L % y := by
 obtain ⟨h1, _, h3, h4⟩ := h
 rw [List.drop_zero, List.drop_zero] at h4
 have hy : 0 < y := by omega
 refine ⟨h1, ?_, ?_⟩
 ·rw [h4, Nat.mul_comm, Nat.mul_add_div hy, Nat.div_eq_of_lt h3, Nat.add_zero]
 ·rw [h4, Nat.mul_comm, Nat.mul_add_mod, Nat.mod_eq_of_lt h3]
def WordPost (a y m : Nat) (w : World) (e : Ending) (w' : World) : Prop := ∃ v qs, e = .returned (.tuple #[v, .int .u64 (a % y : Nat), .int .i64 0]) ∧ Fr w.heap.size w' v qs ∧ val qs = a / y ∧ qs.length ≤ m ∧ strip qs = qs ∧ Below w.heap.size w w'
set_option maxRecDepth 100000 in
set_option maxHeartbeats 2000000 in
theorem divWord_any (v : Value) (xs : List Nat) (y : Nat) (w : World) (hv : Rd w v xs) (hl : xs.length ≤ 549755813888) (hy0 : 0 < y) (hy : y < BB) :
  Calls Tryz.prog 541 #[v, .int .u64 (y : Nat)] w (WordPost (val xs) y xs.length w) := by
 have HV := Lib.hid hv
 obtain ⟨ao, cap, rfl, hnc, hcm, hok, -⟩ := hv.2
 have hyz : ((y : Int) == 0) = false := by simp; omega
 have HY := Lib.hid hy
 have HY0 := Lib.hid hy0
 clear hv hok hcm hy hy0
 go_enter Tryz.func541, Tryz.ntmps541
 go_wp2_with fail
 refine (least_blk _ xs _ HV.out (by omega)).mono ?_
 rintro e w1 ⟨rfl, hB, hb⟩
 obtain ⟨X, hX⟩ : ∃ X, X = strip xs := ⟨_, rfl⟩
 have hXl : X.length ≤ 549755813888 := by have := strip_le xs; rw [hX]; omega
 have hXl2 : X.length ≤ xs.length := by have := strip_le xs; rw [hX]; omega
 rw [← hX] at hB ⊢
 have HX := Lib.hid hX
 have HB := Lib.hid hB
 have HBL := Lib.hid hb
 have HST0 := Lib.hid (WdSt.start X HY0.out)
 obtain ⟨g, hg⟩ : ∃ g, g = w.heap.size := ⟨_, rfl⟩
 rw [← hg] at HB ⊢
 have HG := Lib.hid hg
 obtain ⟨n, hn⟩ : ∃ n, n = X.length := ⟨_, rfl⟩
 rw [← hn] at hXl hXl2 HST0 ⊢
 have HN := Lib.hid hn
 clear hX hB hb hg hn
 go_wp2_with fail
 go_loopw [8, 9] (fun r i wr => ∃ (k rr : Nat) (M : List Nat), k ≤ n ∧ i = .int .i64 ((k : Int) - 1) ∧ r = .int .u64 (rr : Nat) ∧ WdSt X y k rr M ∧ Blk wr g M ∧ w1.grownBy wr (some g)) (fun _ i _ => (intOf i + 1).toNat)
 case atStart => exact ⟨n, 0, X, Nat.le_refl _, rfl, rfl, HST0.out, HB.out, grown_refl _ _⟩
 case round =>
  obtain ⟨k, rr, M, hk, rfl, rfl, hst, hM, hgr⟩ := hrel
  have HST := Lib.hid hst
  have HM := Lib.hid hM
  have HGR := Lib.hid hgr
  have hml : M.length = n := by rw [hst.1, HN.out]
  clear hst hM hgr
  cases k with
  | zero =>
   have hge : ¬ ((0 : Int) ≤ ((0 : Nat) : Int) - 1) := by omega
   have HF := Lib.hid HST.out.fin
   have HWB : Hid (Below w.heap.size w wr) := Below.grown HBL.out HGR.out HBL.out.size (fun q hq => by cases hq; rw [HG.out]; exact Nat.le_refl _)
   have HR : Hid (Rd wr (.slice (some ⟨g, 0, none⟩) n n) M) := by
    have h0 := HM.out.whole (by omega)
    rw [hml] at h0
    exact h0
   clear HST0 HB
   go_wp2_with fail
   refine (least_blk _ M _ HR.out (by omega)).mono ?_
   rintro e w3 ⟨rfl, hB3, hb3⟩
   have HB3 := Lib.hid hB3
   have HBL3 : Hid (Below w.heap.size w w3) := HWB.out.trans (hb3.mono HWB.out.size)
   have hz := HWB.out.size
   clear hB3 hb3
   go_wp2_with fail
   go_ret3
   have hsM := strip_le M
   refine ⟨_, strip M, by rw [← val_strip xs, ← HX.out, ← HF.out.2.2]; rfl, ⟨HB3.out.whole (by omega), fun q hq => by cases hq; exact ⟨hz, HB3.out.lt⟩⟩, ?_, by omega, strip_strip M, HBL3.out⟩
   rw [val_strip, HF.out.2.1, HX.out, val_strip]
  | succ k =>
   have hkk : (((k + 1 : Nat) : Int) - 1) = (k : Int) := by omega
   rw [hkk]
   clear hkk
   obtain ⟨x, hx⟩ : ∃ x, M[k]? = some x := ⟨_, List.getElem?_eq_getElem (by omega)⟩
   have hxb := HM.out.2 x (List.mem_of_getElem? hx)
   have HXB := Lib.hid hxb
   have hrr := HST.out.2.2.1
   have HRR := Lib.hid hrr
   have HS2 := Lib.hid (HST.out.step hx)
   have e1 := HM.out.cell hx
   have hq : (rr * BB + x) / y < BB := by
    rw [Nat.div_lt_iff_lt_mul HY0.out]
    have h2 : (rr + 1) * BB ≤ y * BB := Nat.mul_le_mul_right _ hrr
    rw [Nat.mul_comm BB y]
    rw [Nat.add_mul, Nat.one_mul] at h2
    omega
   obtain ⟨q, hqe⟩ : ∃ q, q = (rr * BB + x) / y := ⟨_, rfl⟩
   obtain ⟨r2, hre⟩ : ∃ r2, r2 = (rr * BB + x) % y := ⟨_, rfl⟩
   rw [← hqe] at hq HS2
   rw [← hre] at HS2
   have HQ := Lib.hid hq
   have HQE := Lib.hid hqe
   have HRE := Lib.hid hre
   have hi0 : (0 : Int) ≤ (k : Int) := Int.natCast_nonneg _
   have hi1 : (k : Int) < (n : Int) := by omega
   clear hx hxb hq hrr hqe hre
   go_wp2_with fail
   refine (div64_any rr x y _ HXB.out HRR.out HY.out).mono ?_
   rintro e w3 ⟨rfl, hb3⟩
   rw [← HQE.out, ← HRE.out]
   have HM3 := Lib.hid (HM.out.below hb3 HM.out.lt)
   have HGR3 := Lib.hid (gb_below HGR.out hb3)
   have HS := Lib.hid (HM3.out.set k HQ.out)
   obtain ⟨z, hz⟩ : ∃ z, M[k]? = some z := ⟨_, List.getElem?_eq_getElem (by omega)⟩
   have e4 := HM3.out.cell hz
   have e3 := HM3.out.frozen k
   clear hz hb3 e1
   go_wp2_with fail
   have hfin : ∃ (k' rr' : Nat) (M' : List Nat), k' ≤ n ∧ Value.int .i64 ((k : Int) - 1) = .int .i64 ((k' : Int) - 1) ∧ Value.int .u64 (r2 : Nat) = .int .u64 (rr' : Nat) ∧ WdSt X y k' rr' M' ∧ Blk (w3.setCell ⟨g, k, none⟩ (.int .u64 (q : Nat))) g M' ∧ w1.grownBy (w3.setCell ⟨g, k, none⟩ (.int .u64 (q : Nat))) (some g) :=
    ⟨k, r2, M.set k q, by omega, rfl, rfl, HS2.out, HS.out.1, grown_set HGR3.out HS.out.2⟩
   exact ⟨hfin, by simp [intOf] <;> omega⟩
end Go.Proofs.YtceggplnggkdnaaGreatDoor
namespace Go.Proofs.YtceggplnggkdnaaGreatDoor
open Go.RowKit NatP
def ShSt (L : List Nat) (S n i c : Nat) (M : List Nat) : Prop := M.length = n ∧ c < S ∧ val (M.take i) + BB ^ i * c = val (L.take i) * S
theorem ShSt.start (L : List Nat) {S : Nat} (hS : 0 < S) (n : Nat) : ShSt L S n 0 0 (List.replicate n 0) := ⟨List.length_replicate, hS, by simp [val]⟩
theorem ShSt.step {L M : List Nat} {S n i c x c2 lo : Nat} (h : ShSt L S n i c M) (hi : i < n) (hx : (L[i]? = some x) ∨ (L.length ≤ i ∧ x = 0)) (hs : x * S = c2 * BB + lo) (hc : c2 < S) : ShSt L S n (i + 1) c2 (M.set i (lo + c)) := by
 obtain ⟨h1, h2, h3⟩ := h
 refine ⟨by rw [List.length_set, h1], hc, ?_⟩
 have e1 : (M.set i (lo + c)).take (i + 1) = M.take i ++ [lo + c] := by
  have := set_mid (l := M) (o := 0) (i := i) (lo + c) (by omega)
  rw [List.drop_zero, List.drop_zero, Nat.zero_add] at this; exact this
 have e2 : val (L.take (i + 1)) = val (L.take i) + BB ^ i * x := by
  rcases hx with hx | ⟨hx, rfl⟩
  ·have hlt : i < L.length := (List.getElem?_eq_some_iff.1 hx).1
   rw [val_take_succ hlt]
   have := List.getElem?_eq_getElem hlt
   rw [hx] at this
   rw [← Option.some.inj this]
  ·rw [List.take_of_length_le hx, List.take_of_length_le (by omega)]; simp
 rw [e1, val_snoc, List.length_take, Nat.min_eq_left (by omega), e2, Nat.add_mul, ← h3, Nat.mul_assoc, hs]
 rw [Nat.pow_succ, Nat.mul_add, Nat.mul_add, Nat.mul_assoc, Nat.mul_comm BB c2]
 omega
theorem ShSt.fin {L M : List Nat} {S n c : Nat} (h : ShSt L S n n c M) (hl : L.length ≤ n) (hv : val L * S < BB ^ n) : val M = val L * S := by
 obtain ⟨h1, h2, h3⟩ := h
 rw [List.take_of_length_le (by omega), List.take_of_length_le hl] at h3
 exact (no_carry h3 hv).2
theorem shift_word {x s t : Nat} (hx : x < BB) (hst : s + t = 64) (hs : s < 64) : ∃ lo c2, x * 2 ^ s = c2 * BB + lo ∧ lo < BB ∧ lo % 2 ^ s = 0 ∧ c2 < 2 ^ s ∧ IntKind.u64.wrap ((x : Int) * 2 ^ s) = (lo : Int) ∧ (x : Int) / 2 ^ t = (c2 : Int) ∧ (s = 0 → c2 = 0) := by
 have hT : BB = 2 ^ t * 2 ^ s := by rw [← Nat.pow_add, show t + s = 64 from by omega]; rfl
 have hps : 0 < 2 ^ s := Nat.pow_pos (by omega)
 have hpt : 0 < 2 ^ t := Nat.pow_pos (by omega)
 have e : (x : Int) * 2 ^ s = ((x * 2 ^ s : Nat) : Int) := by rw [Int.natCast_mul, Int.natCast_pow]; rfl
 have e2 : (x : Int) / 2 ^ t = ((x / 2 ^ t : Nat) : Int) := by rw [Int.natCast_ediv, Int.natCast_pow]; rfl
 have hd : x * 2 ^ s / BB = x / 2 ^ t := by rw [hT]; exact Nat.mul_div_mul_right _ _ hps
 have hdm := Nat.div_add_mod (x * 2 ^ s) BB
 rw [hd, Nat.mul_comm] at hdm
 refine ⟨x * 2 ^ s % BB, x / 2 ^ t, hdm.symm, Nat.mod_lt _ BB_pos, ?_, ?_, ?_, e2, ?_⟩
 ·rw [hT, Nat.mul_mod_mul_right, Nat.mul_mod_left]
 ·rw [Nat.div_lt_iff_lt_mul hpt, Nat.mul_comm, ← hT]; exact hx
 ·rw [e, IntKind.wrap_u64]
  have : ((x * 2 ^ s % BB : Nat) : Int) = ((x * 2 ^ s : Nat) : Int) % (BB : Nat) := Int.natCast_emod _ _
  rw [this]; rfl
 ·rintro rfl
  have : t = 64 := by omega
  subst this
  exact Nat.div_eq_of_lt hx
theorem below_of_grown {w1 wr : World} {B g : Nat} (h : w1.grownBy wr (some g)) (hB : B ≤ w1.heap.size) (hg : B ≤ g) : Below B w1 wr :=
 ⟨h.os, h.tape, h.output, h.size, fun k hk => h.block k (by omega) (fun e => by cases e; omega)⟩
def DShPost (V n : Nat) (w : World) (e : Ending) (w' : World) : Prop := ∃ M, e = .returned (.slice (some ⟨w.heap.size, 0, none⟩) n n) ∧ Blk w' w.heap.size M ∧ M.length = n ∧ val M = V ∧ Below w.heap.size w w'
def ShRel (L : List Nat) (S n g : Nat) (w1 : World) (cv i : Value) (wr : World) : Prop := ∃ (k c : Nat) (M : List Nat), k ≤ n ∧ i = .int .i64 (k : Nat) ∧ cv = .int .u64 (c : Nat) ∧ ShSt L S n k c M ∧ Blk wr g M ∧ w1.grownBy wr (some g)
set_option maxRecDepth 100000 in
set_option maxHeartbeats 2000000 in
theorem dshifted_any (v : Value) (xs : List Nat) (s n : Nat) (w : World) (hv : Rd w v xs) (hs : s < 64) (hn : n ≤ 1099511627776) (hl : xs.length ≤ n) (hfit : val xs * 2 ^ s < BB ^ n) :
  Calls Tryz.prog 581 #[v, .int .u64 (s : Nat), .int .i64 (n : Nat)] w (DShPost (val xs * 2 ^ s) n w) := by
 have HV := Lib.hid hv
 obtain ⟨ao, cap, rfl, hnc, hcm, hok, -⟩ := hv.2
 have HOK := Lib.hid hok
 have HMK := make_words n hn
 obtain ⟨g, hg⟩ : ∃ g, g = w.heap.size := ⟨_, rfl⟩
 have HB := (Blk.made w n).1
 obtain ⟨w1, hw1⟩ : ∃ w1, w1 = w.alloc (.cells (madeCells #[.int .u64 0] n) 215) := ⟨_, rfl⟩
 have HBL := below_alloc w (.cells (madeCells #[.int .u64 0] n) 215)
 rw [← hw1] at HBL
 have HB1 : Hid (Blk w1 g (List.replicate n 0)) := by rw [hw1, hg]; exact Blk.made w n
 obtain ⟨t, ht⟩ : ∃ t, t = 64 - s := ⟨_, rfl⟩
 have hst : s + t = 64 := by omega
 have E1 : IntKind.u64.wrap (64 - (s : Int)) = (t : Int) := by rw [IntKind.wrap_u64]; omega
 have E2 : min s 64 = s := by omega
 have E3 : min t 64 = t := by omega
 have HST0 := Lib.hid (ShSt.start xs (Nat.pow_pos (n := s) (show 0 < 2 by omega)) n)
 have HFIT := Lib.hid hfit
 have HHBL := Lib.hid HBL
 have HG := Lib.hid hg
 have HW1 := Lib.hid hw1
 have HT := Lib.hid ht
 clear hv hok hcm HB HBL hg hw1 ht hfit
 go_enter Tryz.func581, Tryz.ntmps581
 go_wp2_with fail
 rw [← HW1.out, ← HG.out]
 go_loopw [8, 15] (fun cv i wr => ShRel xs (2 ^ s) n g w1 cv i wr) (fun _ i _ => n - (intOf i).toNat)
 case atStart => exact ⟨0, 0, _, Nat.zero_le _, rfl, rfl, HST0.out, HB1.out, grown_refl _ _⟩
 case round =>
  obtain ⟨k, c, M, hk, rfl, rfl, hst2, hM, hgr⟩ := hrel
  have HST := Lib.hid hst2
  have HM := Lib.hid hM
  have HGR := Lib.hid hgr
  have hml : M.length = n := hst2.1
  have HML := Lib.hid hml
  clear hst2 hM hgr hml
  by_cases hlt : k < n
  ·obtain ⟨z, hz⟩ : ∃ z, M[k]? = some z := ⟨_, List.getElem?_eq_getElem (by rw [HML.out]; exact hlt)⟩
   have e4 := HM.out.cell hz
   have e3 := HM.out.frozen k
   have hi0 : (0 : Int) ≤ (k : Int) := Int.natCast_nonneg _
   have hi1 : (k : Int) < (n : Int) := by omega
   clear hz
   have fin : ∀ x lo c2, ((xs[k]? = some x) ∨ (xs.length ≤ k ∧ x = 0)) → x * 2 ^ s = c2 * BB + lo → c2 < 2 ^ s → lo + c < BB →
     ShRel xs (2 ^ s) n g w1 (.int .u64 (c2 : Nat)) (.int .i64 ((k : Int) + 1)) (wr.setCell ⟨g, k, none⟩ (.int .u64 ((lo + c : Nat) : Int))) := fun x lo c2 h1 h2 h3 h4 => by
    have HS := HM.out.set k h4
    exact ⟨k + 1, c2, _, by omega, by go_num, rfl, HST.out.step hlt h1 h2 h3, HS.1, grown_set HGR.out HS.2⟩
   have sum : ∀ lo c2 x, lo < BB → lo % 2 ^ s = 0 → x * 2 ^ s = c2 * BB + lo → lo + c < BB ∧ bits BinOp.or IntKind.u64 (lo : Int) (c : Int) = ((lo + c : Nat) : Int) := fun lo c2 x h1 h2 h3 => by
    have hc := HST.out.2.1
    have hps : 0 < 2 ^ s := Nat.pow_pos (by omega)
    have h5 : lo + c < BB := by
     have hT : BB = 2 ^ t * 2 ^ s := by rw [← Nat.pow_add, show t + s = 64 from by omega]; rfl
     obtain ⟨q, hq⟩ := Nat.dvd_of_mod_eq_zero h2
     rw [hT] at h1 ⊢
     rw [hq, Nat.mul_comm] at h1 ⊢
     have h6 := Nat.lt_of_mul_lt_mul_right h1
     have h7 : (q + 1) * 2 ^ s ≤ 2 ^ t * 2 ^ s := Nat.mul_le_mul_right _ h6
     rw [Nat.add_mul, Nat.one_mul] at h7
     omega
    exact ⟨h5, or_join lo c s h1 h2 hc (by unfold BB at h5; omega)⟩
   by_cases hin : k < xs.length
   ·obtain ⟨x, hx⟩ : ∃ x, xs[k]? = some x := ⟨_, List.getElem?_eq_getElem hin⟩
    obtain ⟨ao', cap', e, -, -, -, hsh⟩ := (HV.out.below (HHBL.out.trans (below_of_grown HGR.out HHBL.out.size (by rw [HG.out]; exact Nat.le_refl _)))).2
    cases e
    obtain ⟨g2, o2, rfl, e5⟩ := hsh k x hx
    obtain ⟨lo, c2, f1, f2, f3, f4, f5, f6, f7⟩ := shift_word (HOK.out x (List.mem_of_getElem? hx)) hst hs
    obtain ⟨f8, f9⟩ := sum lo c2 x f2 f3 f1
    have HFIN := Lib.hid (fin x lo c2 (.inl hx) f1 f4 f8)
    have HF7 := Lib.hid f7
    have hi2 : (k : Int) < (xs.length : Int) := by omega
    obtain ⟨sm, hsm⟩ : ∃ sm, sm = lo + c := ⟨_, rfl⟩
    rw [← hsm] at f9 HFIN
    clear hsh hx f1 f2 f3 f4 f7 f8 fin sum hsm
    by_cases hs0 : 0 < s
    ·have hsb : decide (0 < (s : Int)) = true := by simp; omega
     go_wp2_with fail
     exact ⟨HFIN.out, by simp [intOf] <;> omega⟩
    ·have hs00 : s = 0 := by omega
     have hsb : decide (0 < (s : Int)) = false := by simp; omega
     obtain rfl := HF7.out hs00
     clear hs00 f6
     go_wp2_with fail
     exact ⟨HFIN.out, by simp [intOf] <;> omega⟩
   ·have f1 : 0 * 2 ^ s = 0 * BB + 0 := by simp
    obtain ⟨f8, f9⟩ := sum 0 0 0 BB_pos (Nat.zero_mod _) f1
    have HFIN := Lib.hid (fin 0 0 0 (.inr ⟨by omega, rfl⟩) f1 (Nat.pow_pos (by omega)) f8)
    have f9' : bits BinOp.or IntKind.u64 0 (c : Int) = (c : Int) := by
     rw [Nat.zero_add] at f9; exact f9
    rw [Nat.zero_add] at HFIN
    have f5 : IntKind.u64.wrap (0 : Int) = 0 := rfl
    have hi2 : ¬ ((k : Int) < (xs.length : Int)) := by omega
    clear f1 f8 f9 fin sum
    by_cases hs0 : 0 < s
    ·have hsb : decide (0 < (s : Int)) = true := by simp; omega
     go_wp2_with fail
     exact ⟨HFIN.out, by simp [intOf] <;> omega⟩
    ·have hsb : decide (0 < (s : Int)) = false := by simp; omega
     go_wp2_with fail
     exact ⟨HFIN.out, by simp [intOf] <;> omega⟩
  ·obtain rfl : k = n := by omega
   have HF := Lib.hid (HST.out.fin hl HFIT.out)
   go_wp2_with fail
   go_ret
   exact ⟨M, by rw [← HG.out]; rfl, by rw [← HG.out]; exact HM.out, HML.out, HF.out, HHBL.out.trans (below_of_grown HGR.out HHBL.out.size (by rw [HG.out]; exact Nat.le_refl _))⟩
end Go.Proofs.YtceggplnggkdnaaGreatDoor
namespace Go.Proofs.YtceggplnggkdnaaGreatDoor
open Go.RowKit NatP
def GsRel (v1 W Q : Nat) (d rr : Value) : Prop := ∃ dn rn : Nat, d = .int .u64 (dn : Nat) ∧ rr = .int .u64 (rn : Nat) ∧ Hid (dn * v1 + rn = W) ∧ Hid (Q ≤ dn) ∧ Hid (rn < BB) ∧ Hid (dn < BB)
structure GDown (v1 W Q dn rn d2 s c : Nat) : Prop where
 f1 : IntKind.u64.wrap ((dn : Int) - 1) = (d2 : Int)
 run : ∀ w : World, (callFunc 349 #[.int .u64 (rn : Nat), .int .u64 (v1 : Nat), .int .u64 0]).run Tryz.prog w = .ok (.value (.tuple #[.int .u64 (s : Nat), .int .u64 (c : Nat)])) w
 lt : d2 < dn
 way : (((c : Int) != 0) = true ∧ Q = d2) ∨ (((c : Int) != 0) = false ∧ GsRel v1 W Q (.int .u64 (d2 : Nat)) (.int .u64 (s : Nat)))
theorem gs_down {W u0 v1 v0 Q dn rn : Nat} (hQ : Q = gq (W * BB + u0) (v1 * BB + v0)) (hv0 : v0 < BB) (hv1 : 0 < v1) (hv1b : v1 < BB) (hi : dn * v1 + rn = W) (hr : rn < BB) (hd : dn < BB) (ht : rn * BB + u0 < dn * v0) :
  ∃ d2 s c, GDown v1 W Q dn rn d2 s c := by
 have h0 : 0 < dn := Nat.pos_of_ne_zero fun h => by rw [h, Nat.zero_mul] at ht; omega
 have hq := gq_step hi ht hv1
 rw [← hQ] at hq
 obtain ⟨s, c, hs, hc, hsum, hrun⟩ := add64_ex rn v1 0 hr hv1b (Nat.zero_le _)
 have hI : (dn - 1) * v1 + (rn + v1) = W := by
  obtain ⟨k, rfl⟩ : ∃ k, dn = k + 1 := ⟨dn - 1, by omega⟩
  rw [Nat.add_mul, Nat.one_mul] at hi
  rw [Nat.add_sub_cancel]; omega
 refine ⟨dn - 1, s, c, ?_, hrun, by omega, ?_⟩
 ·unfold BB at hd; rw [IntKind.wrap_u64]; omega
 ·by_cases hc0 : c = 0
  ·subst hc0
   exact .inr ⟨by simp, dn - 1, s, rfl, rfl, by show _ = _; rw [Nat.mul_zero] at hsum; rw [show s = rn + v1 from by omega]; exact hI, hq, hs, show dn - 1 < BB by omega⟩
  ·refine .inl ⟨by simp; omega, ?_⟩
   have hc1 : c = 1 := by omega
   rw [hc1, Nat.mul_one] at hsum
   rw [hQ]
   exact gq_over hI (by omega) hv0 (by omega) (by rw [← hQ]; exact hq) hv1
theorem gs_cases {W u0 v1 v0 Q dn rn hi lo : Nat} (hQ : Q = gq (W * BB + u0) (v1 * BB + v0)) (hu0 : u0 < BB) (hv0 : v0 < BB) (hv1 : 0 < v1) (hv1b : v1 < BB) (hI : dn * v1 + rn = W) (hg : Q ≤ dn) (hr : rn < BB) (hd : dn < BB)
  (hlo : lo < BB) (hp : hi * BB + lo = dn * v0) :
  (decide (hi < rn) = true ∧ Q = dn) ∨ (decide (hi < rn) = false ∧ ((hi : Int) == (rn : Int)) = true ∧ decide (lo ≤ u0) = true ∧ Q = dn) ∨
  (decide (hi < rn) = false ∧ (((hi : Int) == (rn : Int)) = false ∨ (((hi : Int) == (rn : Int)) = true ∧ decide (lo ≤ u0) = false)) ∧ ∃ d2 s c, GDown v1 W Q dn rn d2 s c) := by
 by_cases h1 : hi < rn
 ·refine .inl ⟨by simp [h1], ?_⟩
  rw [hQ]
  refine gq_exit hI hd ?_ (by rw [← hQ]; exact hg) hv1
  rw [← hp]
  have : (hi + 1) * BB ≤ rn * BB := Nat.mul_le_mul_right _ h1
  rw [Nat.add_mul, Nat.one_mul] at this
  omega
 ·by_cases h2 : hi = rn
  ·subst h2
   by_cases h3 : lo ≤ u0
   ·refine .inr (.inl ⟨by simp, by simp, by simp [h3], ?_⟩)
    rw [hQ]
    exact gq_exit hI hd (by rw [← hp]; omega) (by rw [← hQ]; exact hg) hv1
   ·exact .inr (.inr ⟨by simp, .inr ⟨by simp, by simp [h3]⟩, gs_down hQ hv0 hv1 hv1b hI hr hd (by rw [← hp]; omega)⟩)
  ·refine .inr (.inr ⟨by simp; omega, .inl (by simp; omega), gs_down hQ hv0 hv1 hv1b hI hr hd ?_⟩)
   rw [← hp]
   have : (rn + 1) * BB ≤ hi * BB := Nat.mul_le_mul_right _ (by omega)
   rw [Nat.add_mul, Nat.one_mul] at this
   omega
def GuessPost (q : Nat) (w : World) (e : Ending) (w' : World) : Prop := e = .returned (.int .u64 (q : Nat)) ∧ ∃ k, w' = w.drewN k
set_option maxRecDepth 100000 in
set_option maxHeartbeats 4000000 in
theorem guess_any (u2 u1 u0 v1 v0 : Nat) (w : World) (hu2 : u2 ≤ v1) (hu1 : u1 < BB) (hu0 : u0 < BB) (hv1 : 0 < v1) (hv1b : v1 < BB) (hv0 : v0 < BB) :
  Calls Tryz.prog 582 #[.int .u64 (u2 : Nat), .int .u64 (u1 : Nat), .int .u64 (u0 : Nat), .int .u64 (v1 : Nat), .int .u64 (v0 : Nat)] w (GuessPost (gq ((u2 * BB + u1) * BB + u0) (v1 * BB + v0)) w) := by
 obtain ⟨W, hW⟩ : ∃ W, W = u2 * BB + u1 := ⟨_, rfl⟩
 rw [← hW]
 obtain ⟨Q, hQ⟩ : ∃ Q, Q = gq (W * BB + u0) (v1 * BB + v0) := ⟨_, rfl⟩
 rw [← hQ]
 have HQ := Lib.hid hQ
 have HW := Lib.hid hW
 have HU1 := Lib.hid hu1
 have HU0 := Lib.hid hu0
 have HV1 := Lib.hid hv1
 have HV1B := Lib.hid hv1b
 have HV0 := Lib.hid hv0
 by_cases hge : v1 ≤ u2
 ·obtain ⟨s, c, hs, hc, hsum, hrun⟩ := add64_ex u1 v1 0 hu1 hv1b (Nat.zero_le _)
  have hrun' : ∀ w : World, (callFunc 349 #[.int .u64 (u1 : Nat), .int .u64 (v1 : Nat), .int .u64 0]).run Tryz.prog w = .ok (.value (.tuple #[.int .u64 (s : Nat), .int .u64 (c : Nat)])) w := hrun
  have hgeb : decide (v1 ≤ u2) = true := by simp [hge]
  have he : u2 = v1 := by omega
  have hI : (BB - 1) * v1 + (u1 + v1) = W := by
   rw [hW, he]
   have : v1 * BB = (BB - 1) * v1 + v1 := by
    have h1 : BB = BB - 1 + 1 := by have := BB_pos; omega
    conv => lhs; rw [h1, Nat.mul_add, Nat.mul_one, Nat.mul_comm]
   omega
  have htop : Q ≤ BB - 1 := by rw [hQ]; exact gq_top
  have HBEL : Hid (∃ k, w = w.drewN k) := ⟨0, rfl⟩
  by_cases hc0 : c = 0
  ·have hcb : ((c : Int) != 0) = false := by simp [hc0]
   have HST : Hid (GsRel v1 W Q (.int .u64 18446744073709551615) (.int .u64 (s : Nat))) := by
    refine ⟨BB - 1, s, rfl, rfl, ?_, htop, hs, ?_⟩
    ·show _ = _
     rw [hc0, Nat.mul_zero] at hsum
     rw [show s = u1 + v1 from by omega]; exact hI
    ·show _ < _
     have := BB_pos; omega
   clear hQ hW hu1 hu0 hv1 hv1b hv0 hu2 hge hs hc hsum hrun hc0 he hI htop
   go_enter Tryz.func582, Tryz.ntmps582
   go_wp2_with fail
   go_step3
   go_wp2_with fail
   go_step3
   go_wp2_with fail
   go_loopw [11, 12] (fun d rr wr => GsRel v1 W Q d rr ∧ wr = w) (fun d _ _ => (intOf d).toNat)
   case atStart => exact ⟨HST.out, rfl⟩
   clear HST
   case round =>
    obtain ⟨⟨dn, rn, rfl, rfl, hi1, hg1, hrn, hdn⟩, rfl⟩ := hrel
    obtain ⟨hi, lo, hlo, hp, hmul⟩ := mul64_ex dn v0 hdn.out HV0.out
    have HC := Lib.hid (gs_cases HQ.out HU0.out HV0.out HV1.out HV1B.out hi1.out hg1.out hrn.out hdn.out hlo hp)
    have HMUL := Lib.hid hmul
    clear hlo hp hmul
    rcases HC.out with ⟨t1, hq⟩ | ⟨t1, t2, t3, hq⟩ | ⟨t1, t2 | ⟨t2, t3⟩, d2, s2, c2, f1, hrun2, hlt, ⟨t4, hq⟩ | ⟨t4, hrel⟩⟩
    ·have HQ2 := Lib.hid hq
     clear hq HC
     go_wp2_with fail
     refine (HMUL.out _).mono ?_
     rintro e w9 ⟨rfl, rfl⟩
     go_wp2_with fail
     rw [Exit.noGoto_ret]
     go_ret
     exact ⟨by rw [HQ2.out]; rfl, HBEL.out⟩
    ·have HQ2 := Lib.hid hq
     clear hq HC
     go_wp2_with fail
     refine (HMUL.out _).mono ?_
     rintro e w9 ⟨rfl, rfl⟩
     go_wp2_with fail
     rw [Exit.noGoto_ret]
     go_ret
     exact ⟨by rw [HQ2.out]; rfl, HBEL.out⟩
    ·have HQ2 := Lib.hid hq
     clear hq HC hlt
     go_wp2_with fail
     refine (HMUL.out _).mono ?_
     rintro e w9 ⟨rfl, rfl⟩
     go_wp2_with fail
     rw [Exit.noGoto_ret]
     go_ret
     exact ⟨by rw [HQ2.out]; rfl, HBEL.out⟩
    ·have HR2 := Lib.hid hrel
     clear hrel HC
     go_wp2_with fail
     refine (HMUL.out _).mono ?_
     rintro e w9 ⟨rfl, rfl⟩
     go_wp2_with fail
     first | exact ⟨⟨HR2.out, trivial⟩, by simp [intOf] <;> omega⟩ | exact ⟨⟨HR2.out, rfl⟩, by simp [intOf] <;> omega⟩
    ·have HQ2 := Lib.hid hq
     clear hq HC hlt
     go_wp2_with fail
     refine (HMUL.out _).mono ?_
     rintro e w9 ⟨rfl, rfl⟩
     go_wp2_with fail
     rw [Exit.noGoto_ret]
     go_ret
     exact ⟨by rw [HQ2.out]; rfl, HBEL.out⟩
    ·have HR2 := Lib.hid hrel
     clear hrel HC
     go_wp2_with fail
     refine (HMUL.out _).mono ?_
     rintro e w9 ⟨rfl, rfl⟩
     go_wp2_with fail
     first | exact ⟨⟨HR2.out, trivial⟩, by simp [intOf] <;> omega⟩ | exact ⟨⟨HR2.out, rfl⟩, by simp [intOf] <;> omega⟩
  ·have hcb : ((c : Int) != 0) = true := by simp; omega
   have HQ2 : Hid (Q = 18446744073709551615) := by
    show _ = _
    have hc1 : c = 1 := by omega
    rw [hc1, Nat.mul_one] at hsum
    have h9 : gq (W * BB + u0) (v1 * BB + v0) = BB - 1 := gq_over hI (Nat.sub_lt BB_pos Nat.one_pos) hv0 (by omega) (by rw [← hQ]; exact htop) hv1
    rw [hQ, h9]; rfl
   clear hQ hW hu1 hu0 hv1 hv1b hv0 hu2 hge hs hc hsum hrun hc0 he hI htop
   go_enter Tryz.func582, Tryz.ntmps582
   go_wp2_with fail
   go_step3
   go_wp2_with fail
   rw [Exit.noGoto_ret]
   go_ret
   exact ⟨by rw [HQ2.out]; rfl, HBEL.out⟩
 ·have hlt2 : u2 < v1 := by omega
  have HLT2 := Lib.hid hlt2
  have hgeb : decide (v1 ≤ u2) = false := by simp; omega
  have hWv : W < v1 * BB := by
   rw [hW]
   have : (u2 + 1) * BB ≤ v1 * BB := Nat.mul_le_mul_right _ hlt2
   rw [Nat.add_mul, Nat.one_mul] at this
   omega
  have HST : Hid (GsRel v1 W Q (.int .u64 (W / v1 : Nat)) (.int .u64 (W % v1 : Nat))) := by
   refine ⟨W / v1, W % v1, rfl, rfl, ?_, ?_, Nat.lt_trans (Nat.mod_lt _ hv1) hv1b, (Nat.div_lt_iff_lt_mul hv1).2 (by rw [Nat.mul_comm]; exact hWv)⟩
   ·show _ = _
    rw [Nat.mul_comm]; exact Nat.div_add_mod W v1
   ·show _ ≤ _
    rw [hQ]; exact gq_start hu0 hv1
  obtain ⟨q, hq⟩ : ∃ q, q = W / v1 := ⟨_, rfl⟩
  obtain ⟨r, hr⟩ : ∃ r, r = W % v1 := ⟨_, rfl⟩
  rw [← hq, ← hr] at HST
  have HQE := Lib.hid hq
  have HRE := Lib.hid hr
  clear hQ hW hu1 hu0 hv1 hv1b hv0 hu2 hge hlt2 hWv hq hr
  go_enter Tryz.func582, Tryz.ntmps582
  go_wp2_with fail
  go_step3
  go_wp2_with fail
  refine (div64_q u2 u1 v1 _ HU1.out HLT2.out HV1B.out).mono ?_
  rintro e w1 ⟨rfl, hb⟩
  rw [← HW.out, ← HQE.out, ← HRE.out]
  have HBEL := Lib.hid hb
  clear hb
  go_wp2_with fail
  go_step3
  go_wp2_with fail
  go_loopw [11, 12] (fun d rr wr => GsRel v1 W Q d rr ∧ wr = w1) (fun d _ _ => (intOf d).toNat)
  case atStart => exact ⟨HST.out, rfl⟩
  clear HST
  case round =>
   obtain ⟨⟨dn, rn, rfl, rfl, hi1, hg1, hrn, hdn⟩, rfl⟩ := hrel
   obtain ⟨hi, lo, hlo, hp, hmul⟩ := mul64_ex dn v0 hdn.out HV0.out
   have HC := Lib.hid (gs_cases HQ.out HU0.out HV0.out HV1.out HV1B.out hi1.out hg1.out hrn.out hdn.out hlo hp)
   have HMUL := Lib.hid hmul
   clear hlo hp hmul
   rcases HC.out with ⟨t1, hq⟩ | ⟨t1, t2, t3, hq⟩ | ⟨t1, t2 | ⟨t2, t3⟩, d2, s2, c2, f1, hrun2, hlt, ⟨t4, hq⟩ | ⟨t4, hrel⟩⟩
   ·have HQ2 := Lib.hid hq
    clear hq HC
    go_wp2_with fail
    refine (HMUL.out _).mono ?_
    rintro e w9 ⟨rfl, rfl⟩
    go_wp2_with fail
    rw [Exit.noGoto_ret]
    go_ret
    exact ⟨by rw [HQ2.out]; rfl, HBEL.out⟩
   ·have HQ2 := Lib.hid hq
    clear hq HC
    go_wp2_with fail
    refine (HMUL.out _).mono ?_
    rintro e w9 ⟨rfl, rfl⟩
    go_wp2_with fail
    rw [Exit.noGoto_ret]
    go_ret
    exact ⟨by rw [HQ2.out]; rfl, HBEL.out⟩
   ·have HQ2 := Lib.hid hq
    clear hq HC hlt
    go_wp2_with fail
    refine (HMUL.out _).mono ?_
    rintro e w9 ⟨rfl, rfl⟩
    go_wp2_with fail
    rw [Exit.noGoto_ret]
    go_ret
    exact ⟨by rw [HQ2.out]; rfl, HBEL.out⟩
   ·have HR2 := Lib.hid hrel
    clear hrel HC
    go_wp2_with fail
    refine (HMUL.out _).mono ?_
    rintro e w9 ⟨rfl, rfl⟩
    go_wp2_with fail
    first | exact ⟨⟨HR2.out, trivial⟩, by simp [intOf] <;> omega⟩ | exact ⟨⟨HR2.out, rfl⟩, by simp [intOf] <;> omega⟩
   ·have HQ2 := Lib.hid hq
    clear hq HC hlt
    go_wp2_with fail
    refine (HMUL.out _).mono ?_
    rintro e w9 ⟨rfl, rfl⟩
    go_wp2_with fail
    rw [Exit.noGoto_ret]
    go_ret
    exact ⟨by rw [HQ2.out]; rfl, HBEL.out⟩
   ·have HR2 := Lib.hid hrel
    clear hrel HC
    go_wp2_with fail
    refine (HMUL.out _).mono ?_
    rintro e w9 ⟨rfl, rfl⟩
    go_wp2_with fail
    first | exact ⟨⟨HR2.out, trivial⟩, by simp [intOf] <;> omega⟩ | exact ⟨⟨HR2.out, rfl⟩, by simp [intOf] <;> omega⟩
end Go.Proofs.YtceggplnggkdnaaGreatDoor
namespace Go.Proofs.YtceggplnggkdnaaGreatDoor
open Go.RowKit NatP
def TkSt (L V : List Nat) (d o i carry lent : Nat) (M : List Nat) : Prop :=
 M.length = L.length ∧ M.take o = L.take o ∧ M.drop (o + i) = L.drop (o + i) ∧ val ((L.drop o).take i) + BB ^ i * (carry + lent) = val ((M.drop o).take i) + d * val (V.take i) ∧ carry < BB ∧ lent ≤ 1
theorem TkSt.start (L V : List Nat) (d o : Nat) : TkSt L V d o 0 0 0 L := ⟨rfl, rfl, rfl, by simp [val], BB_pos, Nat.zero_le _⟩
theorem TkSt.at {L V M : List Nat} {d o i carry lent z : Nat} (h : TkSt L V d o i carry lent M) (hz : M[o + i]? = some z) : L[o + i]? = some z := by
 have := congrArg (fun l => l[0]?) h.2.2.1
 simp only [List.getElem?_drop, Nat.add_zero] at this
 rw [← this]; exact hz
theorem mid_take {L : List Nat} {o i z : Nat} (h : L[o + i]? = some z) : val ((L.drop o).take (i + 1)) = val ((L.drop o).take i) + BB ^ i * z := by
 have hlt : o + i < L.length := (List.getElem?_eq_some_iff.1 h).1
 have h2 : i < (L.drop o).length := by rw [List.length_drop]; omega
 rw [val_take_succ h2]
 have h3 := List.getElem?_eq_getElem h2
 rw [List.getElem?_drop, h] at h3
 rw [← Option.some.inj h3]
theorem TkSt.set {L V M : List Nat} {d o i carry lent z s : Nat} (h : TkSt L V d o i carry lent M) (hz : M[o + i]? = some z) :
  (M.set (o + i) s).length = L.length ∧ (M.set (o + i) s).take o = L.take o ∧ (M.set (o + i) s).drop (o + (i + 1)) = L.drop (o + (i + 1)) ∧ val (((M.set (o + i) s).drop o).take (i + 1)) = val ((M.drop o).take i) + BB ^ i * s := by
 obtain ⟨h1, h2, h3, -⟩ := h
 have hlt : o + i < M.length := (List.getElem?_eq_some_iff.1 hz).1
 refine ⟨by rw [List.length_set, h1], by rw [set_take _ (Nat.le_add_right _ _), h2], ?_, ?_⟩
 ·rw [← Nat.add_assoc, set_drop]
  have := congrArg (List.drop 1) h3
  rw [List.drop_drop, List.drop_drop] at this
  exact this
 ·rw [set_mid s hlt, val_snoc, List.length_take, List.length_drop, Nat.min_eq_left (by omega)]
theorem TkSt.step {L V M : List Nat} {d o i carry lent z v hi lo lo2 c s lent' : Nat} (h : TkSt L V d o i carry lent M) (hd : d < BB) (hvb : v < BB) (hz : M[o + i]? = some z) (hv : V[i]? = some v)
  (hm : hi * BB + lo = d * v) (ha : lo + carry = lo2 + c * BB) (hs : z + lent' * BB = s + lo2 + lent) (hl : lent' ≤ 1) : TkSt L V d o (i + 1) (hi + c) lent' (M.set (o + i) s) := by
 have hL := h.at hz
 obtain ⟨e1, e2, e3, e4⟩ := h.set (s := s) hz
 obtain ⟨-, -, -, h4, h5, h6⟩ := h
 refine ⟨e1, e2, e3, ?_, take_carry hd hvb h5 hm ha, hl⟩
 have hlt : i < V.length := (List.getElem?_eq_some_iff.1 hv).1
 have e5 : val (V.take (i + 1)) = val (V.take i) + BB ^ i * v := by
  rw [val_take_succ hlt]
  have := List.getElem?_eq_getElem hlt
  rw [hv] at this
  rw [← Option.some.inj this]
 rw [e4, mid_take hL, e5, Nat.pow_succ]
 have := take_step (P := BB ^ i) hm ha hs h4
 exact this
theorem TkSt.fin {L V M : List Nat} {d o n carry lent z s lent' : Nat} (h : TkSt L V d o n carry lent M) (hn : V.length = n) (hz : M[o + n]? = some z) (hs : z + lent' * BB = s + carry + lent) :
  (M.set (o + n) s).length = L.length ∧ (M.set (o + n) s).take o = L.take o ∧ (M.set (o + n) s).drop (o + (n + 1)) = L.drop (o + (n + 1)) ∧
   val ((L.drop o).take (n + 1)) + BB ^ (n + 1) * lent' = val (((M.set (o + n) s).drop o).take (n + 1)) + d * val V := by
 have hL := h.at hz
 obtain ⟨e1, e2, e3, e4⟩ := h.set (s := s) hz
 obtain ⟨-, -, -, h4, h5, h6⟩ := h
 rw [List.take_of_length_le (l := V) (by omega)] at h4
 refine ⟨e1, e2, e3, ?_⟩
 rw [e4, mid_take hL, Nat.pow_succ, Nat.mul_assoc, Nat.add_assoc, ← Nat.mul_add, Nat.mul_comm BB lent', hs]
 have e6 : BB ^ n * (s + carry + lent) = BB ^ n * s + BB ^ n * (carry + lent) := by rw [← Nat.mul_add, Nat.add_assoc]
 rw [e6]
 omega
theorem ne_zero_bool (x : Nat) : ((x : Int) != 0) = decide (x ≠ 0) := by
 rw [Bool.eq_iff_iff]
 simp [Int.natCast_eq_zero]
def TakePost (L V : List Nat) (d o n g : Nat) (w : World) (e : Ending) (w' : World) : Prop := ∃ (lent : Nat) (M : List Nat), e = .returned (.bool (decide (lent ≠ 0))) ∧ lent ≤ 1 ∧ Blk w' g M ∧ M.length = L.length ∧ M.take o = L.take o ∧ M.drop (o + (n + 1)) = L.drop (o + (n + 1)) ∧
 val ((L.drop o).take (n + 1)) + BB ^ (n + 1) * lent = val ((M.drop o).take (n + 1)) + d * val V ∧ w.grownBy w' (some g)
def TakeRel (L V : List Nat) (d o n g : Nat) (w : World) (cv lv i : Value) (wr : World) : Prop := ∃ (k c l : Nat) (M : List Nat), k ≤ n ∧ i = .int .i64 (k : Nat) ∧ cv = .int .u64 (c : Nat) ∧ lv = .int .u64 (l : Nat) ∧ TkSt L V d o k c l M ∧ Blk wr g M ∧ w.grownBy wr (some g)
set_option maxRecDepth 100000 in
set_option maxHeartbeats 2000000 in
theorem take_any (g o cap d : Nat) (L V : List Nat) (v : Value) (w : World) (hL : Blk w g L) (hn : o + V.length + 1 ≤ L.length) (hnc : V.length + 1 ≤ cap) (hc : L.length ≤ 1099511627776) (hv : Rd w v V) (hvb : v.ownBlock ≠ some g) (hd : d < BB) :
  Calls Tryz.prog 583 #[.slice (some ⟨g, o, none⟩) (V.length + 1) cap, v, .int .u64 (d : Nat)] w (TakePost L V d o V.length g w) := by
 have HV := Lib.hid hv
 obtain ⟨ao, vcap, rfl, -, hcm, hok, -⟩ := hv.2
 have HOK := Lib.hid hok
 have HB := Lib.hid hL
 have HST0 := Lib.hid (TkSt.start L V d o)
 have HD := Lib.hid hd
 have HVB := Lib.hid hvb
 obtain ⟨n, hnn⟩ : ∃ n, n = V.length := ⟨_, rfl⟩
 rw [← hnn] at hn hnc ⊢
 have HNN := Lib.hid hnn
 have hmn : n ≤ 9223372036854775806 := by omega
 clear hv hok hcm hL hd hvb hnn
 go_enter Tryz.func583, Tryz.ntmps583
 go_wp2_with fail
 go_loopw [7, 8, 16] (fun cv lv i wr => TakeRel L V d o n g w cv lv i wr) (fun _ _ i _ => n - (intOf i).toNat)
 case atStart => exact ⟨0, 0, 0, L, Nat.zero_le _, rfl, rfl, rfl, HST0.out, HB.out, grown_refl _ _⟩
 clear HST0 HB
 case round =>
  obtain ⟨k, c, l, M, hk, rfl, rfl, rfl, hst, hM, hgr⟩ := hrel
  have HST := Lib.hid hst
  have HM := Lib.hid hM
  have HGR := Lib.hid hgr
  have hml : M.length = L.length := hst.1
  have HML := Lib.hid hml
  have hcb := hst.2.2.2.2.1
  have hlb := hst.2.2.2.2.2
  clear hst hM hgr
  obtain ⟨z, hz⟩ : ∃ z, M[o + k]? = some z := ⟨_, List.getElem?_eq_getElem (by omega)⟩
  have hzb := HM.out.2 z (List.mem_of_getElem? hz)
  have HZ := Lib.hid hz
  by_cases hlt : k < n
  ·obtain ⟨y, hy⟩ : ∃ y, V[k]? = some y := ⟨_, List.getElem?_eq_getElem (by have := HNN.out; omega)⟩
   have hyb := HOK.out y (List.mem_of_getElem? hy)
   obtain ⟨ao', cap', e, -, -, -, hsh⟩ := (HV.out.kept HGR.out (fun q hq => by cases hq; exact HVB.out)).2
   cases e
   obtain ⟨g2, o2, rfl, e2⟩ := hsh k y hy
   obtain ⟨hi, lo, hlo, hp, hmul⟩ := mul64_ex d y HD.out hyb
   obtain ⟨lo2, c2, hlo2, hc2, ha, hrun1⟩ := add64_ex lo c 0 hlo hcb (Nat.zero_le _)
   obtain ⟨s, l2, hs, hl2, hsu, hrun2⟩ := sub64_ex z lo2 l hzb hlo2 hlb
   rw [Nat.add_zero, Nat.mul_comm] at ha
   rw [Nat.mul_comm] at hsu
   have HN := Lib.hid (HST.out.step HD.out hyb hz hy hp ha.symm hsu.symm hl2)
   have hcar : hi + c2 < BB := HN.out.2.2.2.2.1
   obtain ⟨c3, hc3⟩ : ∃ c3, c3 = hi + c2 := ⟨_, rfl⟩
   rw [← hc3] at HN hcar
   have hw1 : IntKind.u64.wrap ((hi : Int) + (c2 : Int)) = (c3 : Int) := by unfold BB at hcar; rw [IntKind.wrap_u64]; omega
   have HS := Lib.hid (HM.out.set (o + k) hs)
   have e1 := HM.out.cell hz
   have e3 := HM.out.frozen (o + k)
   have HMUL := Lib.hid hmul
   have HRUN1 : Hid (∀ w : World, (callFunc 349 #[.int .u64 (lo : Nat), .int .u64 (c : Nat), .int .u64 0]).run Tryz.prog w = .ok (.value (.tuple #[.int .u64 (lo2 : Nat), .int .u64 (c2 : Nat)])) w) := hrun1
   have HRUN2 := Lib.hid hrun2
   have hi0 : (0 : Int) ≤ (k : Int) := Int.natCast_nonneg _
   have hi1 : (k : Int) < (n : Int) + 1 := by omega
   have hi2 : (k : Int) < (V.length : Int) := by have := HNN.out; omega
   have HW1 := Lib.hid hw1
   clear hsh hy hz hyb hzb hmul hrun1 hrun2 hp ha hsu hc3 hw1 hlo hlo2 hs hcar hcb
   have hvl : (V.length : Int) = (n : Int) := by have := HNN.out; omega
   go_wp2_with fail
   refine (HMUL.out _).mono ?_
   rintro e w' ⟨rfl, rfl⟩
   have hrun1 := HRUN1.out
   have hrun2 := HRUN2.out
   have hw1 := HW1.out
   go_wp2_with fail
   have hfin : TakeRel L V d o n g w (.int .u64 (c3 : Nat)) (.int .u64 (l2 : Nat)) (.int .i64 ((k : Int) + 1)) (wr.setCell ⟨g, o + k, none⟩ (.int .u64 (s : Nat))) := ⟨k + 1, c3, l2, _, by omega, by go_num, rfl, rfl, HN.out, HS.out.1, grown_set HGR.out HS.out.2⟩
   exact ⟨hfin, by simp [intOf] <;> omega⟩
  ·obtain rfl : k = n := by omega
   obtain ⟨s, l2, hs, hl2, hsu, hrun2⟩ := sub64_ex z c l hzb hcb hlb
   rw [Nat.mul_comm] at hsu
   have HF := Lib.hid (HST.out.fin HNN.out.symm hz hsu.symm)
   have HS := Lib.hid (HM.out.set (o + k) hs)
   have e1 := HM.out.cell hz
   have e3 := HM.out.frozen (o + k)
   have hi0 : (0 : Int) ≤ (k : Int) := Int.natCast_nonneg _
   have hi1 : (k : Int) < (k : Int) + 1 := by omega
   have hvl : (V.length : Int) = (k : Int) := by have := HNN.out; omega
   have HDN : Hid (∀ b : Bool, b = decide (l2 ≠ 0) → TakePost L V d o k g w (.returned (.bool b)) (wr.setCell ⟨g, o + k, none⟩ (.int .u64 (s : Nat)))) := by
    rintro b rfl
    exact ⟨l2, _, rfl, hl2, HS.out.1, HF.out.1, HF.out.2.1, HF.out.2.2.1, HF.out.2.2.2, grown_set HGR.out HS.out.2⟩
   clear hz hzb hs hsu hcb
   go_wp2_with fail
   go_ret
   exact HDN.out _ (ne_zero_bool l2)
def GivePost (L V : List Nat) (o n g : Nat) (w : World) (e : Ending) (w' : World) : Prop := ∃ (c : Nat) (M : List Nat), e = .returned (.tuple #[]) ∧ Blk w' g M ∧ M.length = L.length ∧ M.take o = L.take o ∧ M.drop (o + (n + 1)) = L.drop (o + (n + 1)) ∧
 val ((M.drop o).take (n + 1)) + BB ^ (n + 1) * c = val ((L.drop o).take (n + 1)) + val V ∧ w.grownBy w' (some g)
def GvRel (L V : List Nat) (o n g : Nat) (w : World) (cv i : Value) (wr : World) : Prop := ∃ (k c : Nat) (M : List Nat), k ≤ n ∧ i = .int .i64 (k : Nat) ∧ cv = .int .u64 (c : Nat) ∧ c ≤ 1 ∧ AddSt L V o k c M ∧ Blk wr g M ∧ w.grownBy wr (some g)
set_option maxRecDepth 100000 in
set_option maxHeartbeats 2000000 in
theorem give_any (g o cap : Nat) (L V : List Nat) (v : Value) (w : World) (hL : Blk w g L) (hn : o + V.length + 1 ≤ L.length) (hnc : V.length + 1 ≤ cap) (hc : L.length ≤ 1099511627776) (hv : Rd w v V) (hvb : v.ownBlock ≠ some g) :
  Calls Tryz.prog 584 #[.slice (some ⟨g, o, none⟩) (V.length + 1) cap, v] w (GivePost L V o V.length g w) := by
 have HV := Lib.hid hv
 obtain ⟨ao, vcap, rfl, -, hcm, hok, -⟩ := hv.2
 have HOK := Lib.hid hok
 have HB := Lib.hid hL
 have HST0 := Lib.hid (AddSt.start L V o)
 have HVB := Lib.hid hvb
 obtain ⟨n, hnn⟩ : ∃ n, n = V.length := ⟨_, rfl⟩
 rw [← hnn] at hn hnc ⊢
 have HNN := Lib.hid hnn
 have hmn : n ≤ 9223372036854775806 := by omega
 clear hv hok hcm hL hvb hnn
 go_enter Tryz.func584, Tryz.ntmps584
 go_wp2_with fail
 go_loopw [4, 8] (fun cv i wr => GvRel L V o n g w cv i wr) (fun _ i _ => n - (intOf i).toNat)
 case atStart => exact ⟨0, 0, L, Nat.zero_le _, rfl, rfl, Nat.zero_le _, HST0.out, HB.out, grown_refl _ _⟩
 clear HST0 HB
 case round =>
  obtain ⟨k, c, M, hk, rfl, rfl, hcc, hst, hM, hgr⟩ := hrel
  have HST := Lib.hid hst
  have HM := Lib.hid hM
  have HGR := Lib.hid hgr
  have hml : M.length = L.length := hst.1
  have HML := Lib.hid hml
  clear hst hM hgr
  obtain ⟨z, hz⟩ : ∃ z, M[o + k]? = some z := ⟨_, List.getElem?_eq_getElem (by omega)⟩
  have hzb := HM.out.2 z (List.mem_of_getElem? hz)
  by_cases hlt : k < n
  ·obtain ⟨y, hyy⟩ : ∃ y, V[k]? = some y := ⟨_, List.getElem?_eq_getElem (by have := HNN.out; omega)⟩
   obtain ⟨s, c', hs1, hs2, hs3, hrun⟩ := add64_ex z y c hzb (HOK.out y (List.mem_of_getElem? hyy)) hcc
   obtain ⟨ao', cap', e, -, -, -, hsh⟩ := (HV.out.kept HGR.out (fun q hq => by cases hq; exact HVB.out)).2
   cases e
   obtain ⟨g2, o2, rfl, e2⟩ := hsh k y hyy
   have e1 := HM.out.cell hz
   have e3 := HM.out.frozen (o + k)
   have HN := Lib.hid (HST.out.step hz (.inl hyy) hs3)
   have HS := Lib.hid (Blk.set (w := wr.drewN 1) HM.out (o + k) hs1)
   have hi0 : (0 : Int) ≤ (k : Int) := Int.natCast_nonneg _
   have hi1 : (k : Int) < (n : Int) + 1 := by omega
   have hi2 : (k : Int) < (V.length : Int) := by have := HNN.out; omega
   have hvl : (V.length : Int) = (n : Int) := by have := HNN.out; omega
   clear hyy hz hsh hs3 hzb hml
   go_wp2_with fail
   go_region_law (fail)
   all_goals
    go_wp2_with fail
    have hfin : GvRel L V o n g w (.int .u64 (c' : Nat)) (.int .i64 ((k : Int) + 1)) ((wr.drewN 1).setCell ⟨g, o + k, none⟩ (.int .u64 (s : Nat))) :=
     ⟨k + 1, c', M.set (o + k) s, by omega, by go_num, rfl, hs2, HN.out, HS.out.1, grown_set (grown_set HGR.out (grown_drewN wr 1 _)) HS.out.2⟩
    exact ⟨hfin, by simp [intOf] <;> omega⟩
  ·obtain rfl : k = n := by omega
   obtain ⟨s, hs⟩ : ∃ s, s = (z + c) % BB := ⟨_, rfl⟩
   have hsb : s < BB := by rw [hs]; exact Nat.mod_lt _ BB_pos
   have hs3 : s + BB * ((z + c) / BB) = z + 0 + c := by rw [hs, Nat.add_zero]; exact Nat.mod_add_div _ _
   have HN := Lib.hid (HST.out.step (y := 0) hz (.inr ⟨by have := HNN.out; omega, rfl⟩) hs3)
   have hw1 : IntKind.u64.wrap ((z : Int) + (c : Int)) = (s : Int) := by unfold BB at hs; rw [IntKind.wrap_u64]; omega
   have HS := Lib.hid (HM.out.set (o + k) hsb)
   have e1 := HM.out.cell hz
   have e3 := HM.out.frozen (o + k)
   have hi0 : (0 : Int) ≤ (k : Int) := Int.natCast_nonneg _
   have hi1 : (k : Int) < (k : Int) + 1 := by omega
   have hvl : (V.length : Int) = (k : Int) := by have := HNN.out; omega
   clear hz hzb hs hsb hs3 hml
   go_wp2_with fail
   go_end0
   have h4 := HN.out.2.2.2
   rw [List.take_of_length_le (l := V) (by have := HNN.out; omega)] at h4
   exact ⟨(z + c) / BB, _, rfl, HS.out.1, HN.out.1, HN.out.2.1, HN.out.2.2.1, h4, grown_set HGR.out HS.out.2⟩
end Go.Proofs.YtceggplnggkdnaaGreatDoor
