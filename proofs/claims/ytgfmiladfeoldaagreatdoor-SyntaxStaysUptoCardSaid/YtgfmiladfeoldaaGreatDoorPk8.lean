/- Joined texts of this claim's proof: DivK. -/
import Derived.Test.YtgfmiladfeoldaaGreatDoorPk7
set_option linter.unusedSimpArgs false
set_option linter.unusedVariables false
namespace Go.Proofs.YtgfmiladfeoldaaGreatDoor
open Go.RowKit NatP
def DmPost (a b m n : Nat) (w : World) (e : Ending) (w' : World) : Prop := ∃ v u qs rs, e = .returned (.tuple #[v, u, .int .i64 0]) ∧ Fr w.heap.size w' v qs ∧ val qs = a / b ∧ qs.length ≤ m ∧ strip qs = qs ∧ Fr w.heap.size w' u rs ∧ val rs = a % b ∧ rs.length ≤ n ∧ strip rs = rs ∧ Below w.heap.size w w'
theorem Fr.nil (B : Nat) (w : World) : Fr B w (.slice none 0 0) [] := ⟨Rd.nil w, fun k hk => by cases hk⟩
set_option maxRecDepth 100000 in
set_option maxHeartbeats 4000000 in
theorem divMod_any (v u : Value) (xs ys : List Nat) (w : World) (hv : Rd w v xs) (hu : Rd w u ys) (hl : xs.length ≤ 274877906944) (hl2 : ys.length ≤ 274877906944) (h0 : 0 < val ys) :
  Calls Tryz.prog 239 #[v, u] w (DmPost (val xs) (val ys) xs.length ys.length w) := by
 have HV := Lib.hid hv
 have HU := Lib.hid hu
 have HL := Lib.hid hl
 have HL2 := Lib.hid hl2
 obtain ⟨ao, cap, rfl, hnc, hcm, hok, -⟩ := hv.2
 obtain ⟨bo, cap2, rfl, hnc2, hcm2, hok2, -⟩ := hu.2
 have HOK := Lib.hid hok
 have HOK2 := Lib.hid hok2
 obtain ⟨Y, hY⟩ : ∃ Y, Y = strip ys := ⟨_, rfl⟩
 have hYl : Y.length ≤ ys.length := by rw [hY]; exact strip_le ys
 have hYv : val Y = val ys := by rw [hY, val_strip]
 have hYs : strip Y = Y := by rw [hY, strip_strip]
 have hYok : ok Y := by rw [hY]; exact ok_strip hok2
 have hY0 : Y.length ≠ 0 := fun e => by
  rw [← hYv, List.eq_nil_of_length_eq_zero e] at h0
  simp [val] at h0
 obtain ⟨n, hn⟩ : ∃ n, n = Y.length := ⟨_, rfl⟩
 have HY := Lib.hid hY
 have HYV := Lib.hid hYv
 have HYS := Lib.hid hYs
 have HYOK := Lib.hid hYok
 have HN := Lib.hid hn
 have hn0 : ((n : Int) == 0) = false := by simp; omega
 have H0 := Lib.hid h0
 rw [← hn] at hYl hY0
 clear hv hu hok hok2 hcm hcm2 hl hl2 hY hYv hYs hYok hn h0
 by_cases h1 : n = 1
 ·have h1b : ((n : Int) == 1) = true := by simp [h1]
  obtain ⟨y, hy⟩ : ∃ y, Y[0]? = some y := ⟨_, List.getElem?_eq_getElem (by rw [← HN.out]; omega)⟩
  have hyb := HYOK.out y (List.mem_of_getElem? hy)
  have hYy : val Y = y := by
   rw [← List.drop_zero (l := Y), drop_val hy, List.drop_eq_nil_of_le (by rw [← HN.out]; omega)]
   simp [val]
  have hy0 : 0 < y := by have := H0.out; rw [← HYV.out, hYy] at this; exact this
  have HYY := Lib.hid hYy
  have HYB := Lib.hid hyb
  have HY0 := Lib.hid hy0
  have HYC := Lib.hid hy
  have hn1 : 0 < n := by omega
  clear hy hyb hYy hy0 h1
  go_enter Tryz.func239, Tryz.ntmps239
  go_wp2_with fail
  refine (least_blk _ ys _ HU.out (by have := HL2.out; omega)).mono ?_
  rintro e w1 ⟨rfl, hB, hb⟩
  rw [← HY.out, ← HN.out] at *
  have e1 := hB.cell HYC.out
  have HBL := Lib.hid hb
  have HV1 := Lib.hid (HV.out.below hb)
  have hz1 := hb.size
  clear hB hb
  go_wp2_with fail
  refine (divWord_any _ xs y _ HV1.out (by have := HL.out; omega) HY0.out HYB.out).mono ?_
  rintro e w2 ⟨qv, qs, rfl, q1, q2, q3, q4, q5⟩
  have Q1 := Lib.hid q1
  have Q2 : Hid (val qs = val xs / val ys) := by show _ = _; rw [q2, ← HYV.out, HYY.out]
  have Q3 := Lib.hid q3
  have Q4 := Lib.hid q4
  have HBL2 : Hid (Below w.heap.size w w2) := HBL.out.trans (q5.mono hz1)
  obtain ⟨r, hr⟩ : ∃ r, r = val xs % y := ⟨_, rfl⟩
  rw [← hr]
  have hrb : r < BB := by rw [hr]; exact Nat.lt_trans (Nat.mod_lt _ HY0.out) HYB.out
  have HR : Hid (r = val xs % val ys) := by show _ = _; rw [hr, ← HYV.out, HYY.out]
  have HRW := Lib.hid (rd_word w2 r hrb)
  have hz2 := HBL2.out.size
  have ha := below_alloc w2 (.cells #[.int .u64 (r : Nat)] 101)
  have HA := Lib.hid ha
  clear q1 q2 q3 q4 q5 hr hrb ha
  go_wp2_with fail
  refine (least_any _ [r] _ HRW.out (by simp)).mono ?_
  rintro e w3 ⟨rv, rfl, p1, p2⟩
  have P1 := Lib.hid p1
  have HB3 := Lib.hid (HA.out.trans (p2.mono HA.out.size))
  clear p1 p2
  go_wp2_with fail
  go_ret3
  have hsl := strip_le [r]
  refine ⟨_, _, qs, strip [r], rfl, (Q1.out.mono hz1).below HB3.out, Q2.out, Q3.out, Q4.out, P1.out.mono (Nat.le_trans hz2 HA.out.size), by rw [val_strip, ← HR.out]; simp [val], ?_, strip_strip _, HBL2.out.trans (HB3.out.mono hz2)⟩
  simp only [List.length_cons, List.length_nil] at hsl
  omega
 ·have h1b : ((n : Int) == 1) = false := by simp; omega
  have hn2 : 2 ≤ n := by omega
  obtain ⟨X, hX⟩ : ∃ X, X = strip xs := ⟨_, rfl⟩
  have hXl : X.length ≤ xs.length := by rw [hX]; exact strip_le xs
  have hXv : val X = val xs := by rw [hX, val_strip]
  have hXs : strip X = X := by rw [hX, strip_strip]
  have hXok : ok X := by rw [hX]; exact ok_strip HOK.out
  have HX := Lib.hid hX
  have HXL := Lib.hid hXl
  have HXV := Lib.hid hXv
  have HXS := Lib.hid hXs
  have HXOK := Lib.hid hXok
  clear hX hXl hXv hXs hXok h1
  by_cases hlt : val xs < val ys
  ·have hc : cmpI (val X) (val Y) = -1 := cmpI_lt (by rw [HXV.out, HYV.out]; exact hlt)
   have HC := Lib.hid hc
   have HD : Hid (val xs / val ys = 0 ∧ val xs % val ys = val xs) := ⟨Nat.div_eq_of_lt hlt, Nat.mod_eq_of_lt hlt⟩
   have hXY : X.length ≤ n := by
    refine Nat.le_of_not_lt fun h => ?_
    have := cmp_len (xs := Y) (ys := X) HYOK.out (by rw [HYS.out, HXS.out, ← HN.out]; exact h)
    rw [HXV.out, HYV.out] at this
    omega
   clear hc hlt
   go_enter Tryz.func239, Tryz.ntmps239
   go_wp2_with fail
   refine (least_any _ ys _ HU.out (by have := HL2.out; omega)).mono ?_
   rintro e w1 ⟨yv, rfl, hB, hb⟩
   rw [← HY.out] at hB
   obtain ⟨yo, ycap, rfl, -, -, -, -⟩ := hB.1.2
   have HB := Lib.hid hB
   have HBL := Lib.hid hb
   have HV1 := Lib.hid (HV.out.below hb)
   have hz1 := hb.size
   clear hB hb
   rw [← HN.out]
   go_wp2_with fail
   refine (least_any _ xs _ HV1.out (by have := HL.out; omega)).mono ?_
   rintro e w2 ⟨xv, rfl, hB2, hb2⟩
   rw [← HX.out] at hB2
   have HB2 := Lib.hid hB2
   have HY2 := Lib.hid (HB.out.below hb2)
   have HBL2 : Hid (Below w.heap.size w w2) := HBL.out.trans (hb2.mono hz1)
   have hz2 := HBL2.out.size
   rw [← HN.out] at HY2
   clear hB2 hb2
   go_wp2_with fail
   refine (cmp_any _ _ X Y _ HB2.out.1 HY2.out.1).mono ?_
   rintro e w3 ⟨rfl, hb3⟩
   rw [HC.out]
   have HB3 := Lib.hid hb3
   clear hb3
   go_wp2_with fail
   go_ret3
   exact ⟨_, _, [], X, rfl, Fr.nil _ _, by rw [HD.out.1]; rfl, Nat.zero_le _, rfl, (HB2.out.mono hz1).below HB3.out, by rw [HXV.out, HD.out.2], by omega, HXS.out, HBL2.out.trans (HB3.out.mono hz2)⟩
  ·obtain ⟨c, hc⟩ : ∃ c, c = cmpI (val X) (val Y) := ⟨_, rfl⟩
   have hcb : decide (c < 0) = false := by
    rw [hc, HXV.out, HYV.out]
    unfold cmpI
    rw [if_neg hlt]
    split <;> decide
   have HC := Lib.hid hc
   have hXY : n ≤ X.length := by
    refine Nat.le_of_not_lt fun h => ?_
    have := cmp_len (xs := X) (ys := Y) HXOK.out (by rw [HYS.out, HXS.out, ← HN.out]; exact h)
    rw [HXV.out, HYV.out] at this
    omega
   clear hc hlt
   go_enter Tryz.func239, Tryz.ntmps239
   go_wp2_with fail
   refine (least_any _ ys _ HU.out (by have := HL2.out; omega)).mono ?_
   rintro e w1 ⟨yv, rfl, hB, hb⟩
   rw [← HY.out] at hB
   obtain ⟨yo, ycap, rfl, -, -, -, -⟩ := hB.1.2
   have HB := Lib.hid hB
   have HBL := Lib.hid hb
   have HV1 := Lib.hid (HV.out.below hb)
   have hz1 := hb.size
   clear hB hb
   rw [← HN.out]
   go_wp2_with fail
   refine (least_any _ xs _ HV1.out (by have := HL.out; omega)).mono ?_
   rintro e w2 ⟨xv, rfl, hB2, hb2⟩
   rw [← HX.out] at hB2
   have HB2 := Lib.hid hB2
   have HY2 := Lib.hid (HB.out.below hb2)
   have HBL2 : Hid (Below w.heap.size w w2) := HBL.out.trans (hb2.mono hz1)
   have hz2 := HBL2.out.size
   rw [← HN.out] at HY2
   clear hB2 hb2
   go_wp2_with fail
   refine (cmp_any _ _ X Y _ HB2.out.1 HY2.out.1).mono ?_
   rintro e w3 ⟨rfl, hb3⟩
   rw [← HC.out]
   have HB3 := Lib.hid (HB2.out.below hb3)
   have HY3 := Lib.hid (HY2.out.below hb3)
   have HBL3 : Hid (Below w.heap.size w w3) := HBL2.out.trans (hb3.mono hz2)
   have hz3 := HBL3.out.size
   clear hb3
   go_wp2_with fail
   refine (long_any _ _ X Y (n - 2) _ HB3.out.1 HY3.out.1 (by rw [← HN.out]; omega) HYS.out (by rw [← HN.out]; exact hXY) (by have := HXL.out; have := HL.out; omega)).mono ?_
   rintro e w4 ⟨qv, rv, qs, rs, rfl, q1, q2, q3, q4, r1, r2, r3, r4, hb4⟩
   have Q1 := Lib.hid (q1.mono hz3)
   have R1 := Lib.hid (r1.mono hz3)
   have HBL4 : Hid (Below w.heap.size w w4) := HBL3.out.trans (hb4.mono hz3)
   have Q2 : Hid (val qs = val xs / val ys) := by show _ = _; rw [q2, HXV.out, HYV.out]
   have R2 : Hid (val rs = val xs % val ys) := by show _ = _; rw [r2, HXV.out, HYV.out]
   have Q3 : Hid (qs.length ≤ xs.length) := by show _ ≤ _; have := HXL.out; have := HN.out; omega
   have R3 : Hid (rs.length ≤ ys.length) := by show _ ≤ _; have := HN.out; omega
   have Q4 := Lib.hid q4
   have R4 := Lib.hid r4
   clear q1 q2 q3 q4 r1 r2 r3 r4 hb4
   go_wp2_with fail
   go_ret3
   exact ⟨_, _, qs, rs, rfl, Q1.out, Q2.out, Q3.out, Q4.out, R1.out, R2.out, R3.out, R4.out, HBL4.out⟩
end Go.Proofs.YtgfmiladfeoldaaGreatDoor
