/- Joined texts of this claim's proof: Num6, Num7. -/
import Derived.Test.YtgfmiladfeoldaaGreatDoorPl9
set_option linter.unusedSimpArgs false
set_option linter.unusedVariables false
namespace Go.Proofs.YtgfmiladfeoldaaGreatDoor
open Go.RowKit NatP
theorem ProdOk.mono {n m : Nat} (h : ProdOk n) (hm : m ≤ n) : ProdOk m := fun xs ys v u w hl hv hu => h xs ys v u w (by omega) hv hu
theorem Rd.some' {w : World} {ao : Option Addr} {n c : Nat} {xs : List Nat} (h : Rd w (.slice ao n c) xs) (h0 : 0 < xs.length) : ∃ g o, ao = some ⟨g, o, none⟩ := by
 obtain ⟨_, ao', cap', e, _, _, _, h4⟩ := h
 simp only [Value.slice.injEq] at e
 obtain ⟨rfl, -, -⟩ := e
 obtain ⟨g, o, h5, _⟩ := h4 0 xs[0] (List.getElem?_eq_getElem h0)
 exact ⟨g, o, h5⟩
theorem prod_done {w w1 w2 : World} {e : Ending} {A B M xs ys : List Nat} {n : Nat} (h1 : M.length = A.length + B.length) (h2 : val M = val A * val B) (hn : n = M.length) (he : e = .returned (.slice (some ⟨w.heap.size, 0, none⟩) n n)) (hB : Blk w2 w.heap.size M) (hb : Below w.heap.size w w1) (hg : w1.grownBy w2 (some w.heap.size))
  (hAB : (A = strip xs ∧ B = strip ys) ∨ (A = strip ys ∧ B = strip xs)) : ProdPost xs ys w e w2 := by
 subst hn
 refine ⟨_, M, he, Nat.le_refl _, hB, ?_, ?_, Below.grown hb hg hb.size (fun k hk => by cases hk; exact Nat.le_refl _)⟩
 ·rcases hAB with ⟨rfl, rfl⟩ | ⟨rfl, rfl⟩
  ·exact h1
  ·rw [h1, Nat.add_comm]
 ·rcases hAB with ⟨rfl, rfl⟩ | ⟨rfl, rfl⟩
  ·rw [h2, val_strip, val_strip]
  ·rw [h2, val_strip, val_strip, Nat.mul_comm]
def PiRel (A B : List Nat) (g : Nat) (w1 : World) (i : Value) (wr : World) : Prop := ∃ (k : Nat) (M : List Nat), i = .int .i64 (k : Nat) ∧ k ≤ A.length + B.length ∧ Blk wr g M ∧ PiSt A B (min k A.length) M ∧ w1.grownBy wr (some g)
set_option maxRecDepth 100000 in
set_option maxHeartbeats 4000000 in
theorem prod_step (n : Nat) (IH : ProdOk n) (hn : n ≤ 274877906944) (xs ys : List Nat) (v u : Value) (w : World) (hl : xs.length + ys.length ≤ n) (hv : Rd w v xs) (hu : Rd w u ys) :
  Calls Tryz.prog 253 #[v, u] w (ProdPost xs ys w) := by
 have HV := Lib.hid hv
 have HU := Lib.hid hu
 obtain ⟨_, ao, cap, rfl, -⟩ := hv
 obtain ⟨_, bo, cap2, rfl, -⟩ := hu
 have TA := Lib.hid (trim_rd' HV.out)
 have TB := Lib.hid (trim_rd' HU.out)
 have q1 := strip_le xs
 have q2 := strip_le ys
 have HI := Lib.hid IH
 obtain ⟨X, hX⟩ : ∃ X, X = strip xs := ⟨_, rfl⟩
 obtain ⟨Y, hY⟩ : ∃ Y, Y = strip ys := ⟨_, rfl⟩
 rw [← hX] at TA q1
 rw [← hY] at TB q2
 have HX := Lib.hid hX
 have HY := Lib.hid hY
 clear IH hX hY
 by_cases hsw : X.length < Y.length
 ·have h21 : X.length ≤ Y.length := by omega
  have HAB : Hid ((Y = strip xs ∧ X = strip ys) ∨ (Y = strip ys ∧ X = strip xs)) := .inr ⟨HY.out, HX.out⟩
  have HMK : ∀ w : World, (Instr.makeSlice 59 (.int .i64 ((Y.length : Int) + (X.length : Int))) (.int .i64 ((Y.length : Int) + (X.length : Int)))).run Tryz.prog w = .ok (.slice (some ⟨w.heap.size, 0, none⟩) (Y.length + X.length) (Y.length + X.length)) (w.alloc (.cells (madeCells #[.int .u64 0] (Y.length + X.length)) 101)) := make_words (Y.length + X.length) (by omega)
  have HZ := Lib.hid (Blk.made w (Y.length + X.length))
  have HBL := Lib.hid (below_alloc w (.cells (madeCells #[.int .u64 0] (Y.length + X.length)) 101))
  have NA := Lib.hid (TB.out.ne (Nat.le_refl w.heap.size))
  have NB := Lib.hid (TA.out.ne (Nat.le_refl w.heap.size))
  have RA := Lib.hid (TB.out.below HBL.out)
  have RB := Lib.hid (TA.out.below HBL.out)
  by_cases h24 : X.length < 24
  ·go_enter Tryz.func253, Tryz.ntmps253
   go_wp2_with fail
   refine (mtrim_any' _ _ _ xs _ HV.out).mono ?_
   rintro e w' ⟨rfl, rfl⟩
   rw [← HX.out]
   go_wp2_with fail
   refine (mtrim_any' _ _ _ ys _ HU.out).mono ?_
   rintro e w' ⟨rfl, rfl⟩
   rw [← HY.out]
   go_wp2_with fail
   refine (rows_any w.heap.size (Y.length + X.length) Y X _ _ _ HZ.out rfl (by omega) RA.out NA.out RB.out NB.out).mono ?_
   rintro e w2 ⟨rfl, M, hM, hml, hmv, hgr⟩
   have HM := Lib.hid hM
   have HML := Lib.hid hml
   have HMV := Lib.hid hmv
   have HGR := Lib.hid hgr
   clear hM hml hmv hgr
   go_wp2_with fail
   go_ret
   exact prod_done HML.out HMV.out HML.out.symm rfl HM.out HBL.out HGR.out HAB.out
  obtain ⟨ga, oa, hao⟩ := TB.out.some' (by omega)
  obtain ⟨gb, ob, hbo⟩ := TA.out.some' (by omega)
  subst hao hbo
  have hga : ga ≠ w.heap.size := fun e => NA.out (by rw [e]; rfl)
  have hgb : gb ≠ w.heap.size := fun e => NB.out (by rw [e]; rfl)
  have d1 : decide ((X.length : Int) < 24) = false := by simp; omega
  by_cases hbig : 2 * X.length ≤ Y.length
  ·have d2 : decide (2 * (X.length : Int) ≤ (Y.length : Int)) = true := by simp; omega
   go_enter Tryz.func253, Tryz.ntmps253
   go_wp2_with fail
   refine (mtrim_any' _ _ _ xs _ HV.out).mono ?_
   rintro e w' ⟨rfl, rfl⟩
   rw [← HX.out]
   go_wp2_with fail
   refine (mtrim_any' _ _ _ ys _ HU.out).mono ?_
   rintro e w' ⟨rfl, rfl⟩
   rw [← HY.out]
   go_wp2_with fail
   generalize w.alloc (.cells (madeCells #[.int .u64 0] (Y.length + X.length)) 101) = w1 at *
   go_loopw [6] (fun i wr => PiRel Y X w.heap.size w1 i wr) (fun i _ => Y.length - (intOf i).toNat)
   case atStart => exact ⟨0, _, rfl, Nat.zero_le _, HZ.out, by rw [Nat.zero_min]; exact PiSt.start Y X, grown_refl w1 _⟩
   case round =>
    obtain ⟨k, M, rfl, hk, hM, hst, hgr⟩ := hrel
    have HM := Lib.hid hM
    have HST := Lib.hid hst
    have HGR := Lib.hid hgr
    have hwz := hgr.size
    have hwb := HBL.out.size
    have hgw := hM.lt
    clear hM hst hgr
    by_cases hlt : k < Y.length
    ·obtain ⟨e, he⟩ : ∃ e, e = min (k + X.length) Y.length := ⟨_, rfl⟩
     have hke : k ≤ e := by omega
     have hea : e ≤ Y.length := by omega
     have hkl : e - k ≤ X.length := by omega
     have hmin : min ((k : Int) + (X.length : Int)) (Y.length : Int) = (e : Int) := by omega
     have HMIN2 : Hid (min (k + X.length) Y.length = e) := he.symm
     have hst2 : PiSt Y X k M := by have := HST.out; rw [Nat.min_eq_left (by omega)] at this; exact this
     have HST2 := Lib.hid hst2
     have HA1 := Lib.hid (((RA.out.kept HGR.out (by intro q hq e2; cases hq; exact NA.out e2)).drop (n := k) (by omega)).take (n := e - k) (c := e - k) (by rw [List.length_drop]; omega) (Nat.le_refl _) (by omega))
     have HB1 := Lib.hid (RB.out.kept HGR.out (by intro q hq e2; cases hq; exact NB.out e2))
     have hi0 : (0 : Int) ≤ (k : Int) := Int.natCast_nonneg _
     have hi1 : (k : Int) ≤ ((Y.length : Int) + (X.length : Int)) := by omega
     have hi2 : (k : Int) ≤ (e : Int) := by omega
     have hi3 : (e : Int) ≤ (Y.length : Int) := by omega
     have hc1 : ¬ (Y.length + X.length = k) := by omega
     have hc2 : ¬ (e = k) := by omega
     have hdl : ((Y.drop k).take (e - k)).length = e - k := by rw [List.length_take, List.length_drop]; omega
     have HDL := Lib.hid hdl
     clear he hst2 hdl
     go_wp2_with fail
     go_region_held3 (fun _ => True) (trivial)
      (first
       | (go_at_call 253; refine (HI.out ((Y.drop k).take (e - k)) X _ _ _ (by have := List.length_take_le (e - k) (Y.drop k); omega) (by exact HA1.out) (by exact HB1.out)).mono ?_; rintro e2 w3 ⟨g3, P, rfl, hg3, hB3, hl3, hv3, hbel3⟩; have HR3 := Lib.hid (hB3.whole (by have p1 := strip_le ((Y.drop k).take (e - k)); have p2 := strip_le X; have p3 := List.length_take_le (e - k) (Y.drop k); omega)); have HV3 := Lib.hid hv3; have HB3 := Lib.hid hbel3; have n3 : g3 ≠ w.heap.size := (Nat.ne_of_lt (Nat.lt_of_lt_of_le hgw hg3)).symm; clear hl3 hv3 hB3 hbel3)
       | (go_at_call 273; refine (mtrim_any' _ _ _ P _ (by exact HR3.out)).mono ?_; rintro e2 w' ⟨rfl, rfl⟩)
       | (go_at_call 275; refine (addTo_any w.heap.size k (Y.length + X.length - k) (Y.length + X.length - k) M (strip P) _ _ (by exact Blk.below (w := wr.drew) HM.out HB3.out hgw) (by have := HST2.out.1; omega) (Nat.le_refl _) (by omega) (trim_rd' HR3.out) (by intro e2; cases e2; exact n3 rfl) (piece_len RA.out.ok RB.out.ok hea HV3.out hke)).mono ?_; rintro e2 w4 ⟨rfl, M', hB4, ⟨hlm, htm, hcm⟩, hgr4⟩))
     have HN := Lib.hid (PiSt.step RA.out.ok RB.out.ok HST2.out hke hea HV3.out hlm htm hcm)
     have HM4 := Lib.hid hB4
     have HG4 : Hid (w1.grownBy w4 (some w.heap.size)) := gb_step (gb_below (w := wr.drew) (gb_step HGR.out (grown_drewN wr 1 (some w.heap.size)) (.inl rfl)) HB3.out) hgr4 (.inl rfl)
     clear hB4 hlm htm hcm hgr4
     go_wp2_with fail
     have hfin : PiRel Y X w.heap.size w1 (.int .i64 ((k : Int) + (X.length : Int))) w4 := ⟨k + X.length, M', by go_num, by omega, HM4.out, by rw [HMIN2.out]; exact HN.out, HG4.out⟩
     first | exact ⟨hfin, by simp [intOf]; omega⟩ | exact ⟨by (repeat apply Exists.intro); exact ⟨hfin, rfl⟩, by simp [intOf]; omega⟩
    ·have HD := Lib.hid (PiSt.done (xs := Y) (ys := X) (M := M) (by have := HST.out; rw [Nat.min_eq_right (by omega)] at this; exact this))
     go_wp2_with fail
     go_ret
     exact prod_done HD.out.1 HD.out.2 HD.out.1.symm rfl HM.out HBL.out HGR.out HAB.out
  ·go_enter Tryz.func253, Tryz.ntmps253
   go_wp2_with fail
   refine (mtrim_any' _ _ _ xs _ HV.out).mono ?_
   rintro e w' ⟨rfl, rfl⟩
   rw [← HX.out]
   go_wp2_with fail
   refine (mtrim_any' _ _ _ ys _ HU.out).mono ?_
   rintro e w' ⟨rfl, rfl⟩
   rw [← HY.out]
   go_wp2_with fail
   refine (halves_any w.heap.size ga oa gb ob ((Y.length + 1) / 2) Y X _ (HI.out.mono (by omega)) HZ.out (by omega) RA.out RB.out hga hgb rfl h21 (by omega) (by omega)).mono ?_
   rintro e w2 ⟨rfl, M, hM, hml, hmv, hgr⟩
   have HM := Lib.hid hM
   have HML := Lib.hid hml
   have HMV := Lib.hid hmv
   have HGR := Lib.hid hgr
   clear hM hml hmv hgr
   go_wp2_with fail
   go_ret
   exact prod_done HML.out HMV.out HML.out.symm rfl HM.out HBL.out HGR.out HAB.out
 ·have h21 : Y.length ≤ X.length := by omega
  have HAB : Hid ((X = strip xs ∧ Y = strip ys) ∨ (X = strip ys ∧ Y = strip xs)) := .inl ⟨HX.out, HY.out⟩
  have HMK : ∀ w : World, (Instr.makeSlice 59 (.int .i64 ((X.length : Int) + (Y.length : Int))) (.int .i64 ((X.length : Int) + (Y.length : Int)))).run Tryz.prog w = .ok (.slice (some ⟨w.heap.size, 0, none⟩) (X.length + Y.length) (X.length + Y.length)) (w.alloc (.cells (madeCells #[.int .u64 0] (X.length + Y.length)) 101)) := make_words (X.length + Y.length) (by omega)
  have HZ := Lib.hid (Blk.made w (X.length + Y.length))
  have HBL := Lib.hid (below_alloc w (.cells (madeCells #[.int .u64 0] (X.length + Y.length)) 101))
  have NA := Lib.hid (TA.out.ne (Nat.le_refl w.heap.size))
  have NB := Lib.hid (TB.out.ne (Nat.le_refl w.heap.size))
  have RA := Lib.hid (TA.out.below HBL.out)
  have RB := Lib.hid (TB.out.below HBL.out)
  by_cases h24 : Y.length < 24
  ·go_enter Tryz.func253, Tryz.ntmps253
   go_wp2_with fail
   refine (mtrim_any' _ _ _ xs _ HV.out).mono ?_
   rintro e w' ⟨rfl, rfl⟩
   rw [← HX.out]
   go_wp2_with fail
   refine (mtrim_any' _ _ _ ys _ HU.out).mono ?_
   rintro e w' ⟨rfl, rfl⟩
   rw [← HY.out]
   go_wp2_with fail
   refine (rows_any w.heap.size (X.length + Y.length) X Y _ _ _ HZ.out rfl (by omega) RA.out NA.out RB.out NB.out).mono ?_
   rintro e w2 ⟨rfl, M, hM, hml, hmv, hgr⟩
   have HM := Lib.hid hM
   have HML := Lib.hid hml
   have HMV := Lib.hid hmv
   have HGR := Lib.hid hgr
   clear hM hml hmv hgr
   go_wp2_with fail
   go_ret
   exact prod_done HML.out HMV.out HML.out.symm rfl HM.out HBL.out HGR.out HAB.out
  obtain ⟨ga, oa, hao⟩ := TA.out.some' (by omega)
  obtain ⟨gb, ob, hbo⟩ := TB.out.some' (by omega)
  subst hao hbo
  have hga : ga ≠ w.heap.size := fun e => NA.out (by rw [e]; rfl)
  have hgb : gb ≠ w.heap.size := fun e => NB.out (by rw [e]; rfl)
  have d1 : decide ((Y.length : Int) < 24) = false := by simp; omega
  by_cases hbig : 2 * Y.length ≤ X.length
  ·have d2 : decide (2 * (Y.length : Int) ≤ (X.length : Int)) = true := by simp; omega
   go_enter Tryz.func253, Tryz.ntmps253
   go_wp2_with fail
   refine (mtrim_any' _ _ _ xs _ HV.out).mono ?_
   rintro e w' ⟨rfl, rfl⟩
   rw [← HX.out]
   go_wp2_with fail
   refine (mtrim_any' _ _ _ ys _ HU.out).mono ?_
   rintro e w' ⟨rfl, rfl⟩
   rw [← HY.out]
   go_wp2_with fail
   generalize w.alloc (.cells (madeCells #[.int .u64 0] (X.length + Y.length)) 101) = w1 at *
   go_loopw [6] (fun i wr => PiRel X Y w.heap.size w1 i wr) (fun i _ => X.length - (intOf i).toNat)
   case atStart => exact ⟨0, _, rfl, Nat.zero_le _, HZ.out, by rw [Nat.zero_min]; exact PiSt.start X Y, grown_refl w1 _⟩
   case round =>
    obtain ⟨k, M, rfl, hk, hM, hst, hgr⟩ := hrel
    have HM := Lib.hid hM
    have HST := Lib.hid hst
    have HGR := Lib.hid hgr
    have hwz := hgr.size
    have hwb := HBL.out.size
    have hgw := hM.lt
    clear hM hst hgr
    by_cases hlt : k < X.length
    ·obtain ⟨e, he⟩ : ∃ e, e = min (k + Y.length) X.length := ⟨_, rfl⟩
     have hke : k ≤ e := by omega
     have hea : e ≤ X.length := by omega
     have hkl : e - k ≤ Y.length := by omega
     have hmin : min ((k : Int) + (Y.length : Int)) (X.length : Int) = (e : Int) := by omega
     have HMIN2 : Hid (min (k + Y.length) X.length = e) := he.symm
     have hst2 : PiSt X Y k M := by have := HST.out; rw [Nat.min_eq_left (by omega)] at this; exact this
     have HST2 := Lib.hid hst2
     have HA1 := Lib.hid (((RA.out.kept HGR.out (by intro q hq e2; cases hq; exact NA.out e2)).drop (n := k) (by omega)).take (n := e - k) (c := e - k) (by rw [List.length_drop]; omega) (Nat.le_refl _) (by omega))
     have HB1 := Lib.hid (RB.out.kept HGR.out (by intro q hq e2; cases hq; exact NB.out e2))
     have hi0 : (0 : Int) ≤ (k : Int) := Int.natCast_nonneg _
     have hi1 : (k : Int) ≤ ((X.length : Int) + (Y.length : Int)) := by omega
     have hi2 : (k : Int) ≤ (e : Int) := by omega
     have hi3 : (e : Int) ≤ (X.length : Int) := by omega
     have hc1 : ¬ (X.length + Y.length = k) := by omega
     have hc2 : ¬ (e = k) := by omega
     have hdl : ((X.drop k).take (e - k)).length = e - k := by rw [List.length_take, List.length_drop]; omega
     have HDL := Lib.hid hdl
     clear he hst2 hdl
     go_wp2_with fail
     go_region_held3 (fun _ => True) (trivial)
      (first
       | (go_at_call 253; refine (HI.out ((X.drop k).take (e - k)) Y _ _ _ (by have := List.length_take_le (e - k) (X.drop k); omega) (by exact HA1.out) (by exact HB1.out)).mono ?_; rintro e2 w3 ⟨g3, P, rfl, hg3, hB3, hl3, hv3, hbel3⟩; have HR3 := Lib.hid (hB3.whole (by have p1 := strip_le ((X.drop k).take (e - k)); have p2 := strip_le Y; have p3 := List.length_take_le (e - k) (X.drop k); omega)); have HV3 := Lib.hid hv3; have HB3 := Lib.hid hbel3; have n3 : g3 ≠ w.heap.size := (Nat.ne_of_lt (Nat.lt_of_lt_of_le hgw hg3)).symm; clear hl3 hv3 hB3 hbel3)
       | (go_at_call 273; refine (mtrim_any' _ _ _ P _ (by exact HR3.out)).mono ?_; rintro e2 w' ⟨rfl, rfl⟩)
       | (go_at_call 275; refine (addTo_any w.heap.size k (X.length + Y.length - k) (X.length + Y.length - k) M (strip P) _ _ (by exact Blk.below (w := wr.drew) HM.out HB3.out hgw) (by have := HST2.out.1; omega) (Nat.le_refl _) (by omega) (trim_rd' HR3.out) (by intro e2; cases e2; exact n3 rfl) (piece_len RA.out.ok RB.out.ok hea HV3.out hke)).mono ?_; rintro e2 w4 ⟨rfl, M', hB4, ⟨hlm, htm, hcm⟩, hgr4⟩))
     have HN := Lib.hid (PiSt.step RA.out.ok RB.out.ok HST2.out hke hea HV3.out hlm htm hcm)
     have HM4 := Lib.hid hB4
     have HG4 : Hid (w1.grownBy w4 (some w.heap.size)) := gb_step (gb_below (w := wr.drew) (gb_step HGR.out (grown_drewN wr 1 (some w.heap.size)) (.inl rfl)) HB3.out) hgr4 (.inl rfl)
     clear hB4 hlm htm hcm hgr4
     go_wp2_with fail
     have hfin : PiRel X Y w.heap.size w1 (.int .i64 ((k : Int) + (Y.length : Int))) w4 := ⟨k + Y.length, M', by go_num, by omega, HM4.out, by rw [HMIN2.out]; exact HN.out, HG4.out⟩
     first | exact ⟨hfin, by simp [intOf]; omega⟩ | exact ⟨by (repeat apply Exists.intro); exact ⟨hfin, rfl⟩, by simp [intOf]; omega⟩
    ·have HD := Lib.hid (PiSt.done (xs := X) (ys := Y) (M := M) (by have := HST.out; rw [Nat.min_eq_right (by omega)] at this; exact this))
     go_wp2_with fail
     go_ret
     exact prod_done HD.out.1 HD.out.2 HD.out.1.symm rfl HM.out HBL.out HGR.out HAB.out
  ·go_enter Tryz.func253, Tryz.ntmps253
   go_wp2_with fail
   refine (mtrim_any' _ _ _ xs _ HV.out).mono ?_
   rintro e w' ⟨rfl, rfl⟩
   rw [← HX.out]
   go_wp2_with fail
   refine (mtrim_any' _ _ _ ys _ HU.out).mono ?_
   rintro e w' ⟨rfl, rfl⟩
   rw [← HY.out]
   go_wp2_with fail
   refine (halves_any w.heap.size ga oa gb ob ((X.length + 1) / 2) X Y _ (HI.out.mono (by omega)) HZ.out (by omega) RA.out RB.out hga hgb rfl h21 (by omega) (by omega)).mono ?_
   rintro e w2 ⟨rfl, M, hM, hml, hmv, hgr⟩
   have HM := Lib.hid hM
   have HML := Lib.hid hml
   have HMV := Lib.hid hmv
   have HGR := Lib.hid hgr
   clear hM hml hmv hgr
   go_wp2_with fail
   go_ret
   exact prod_done HML.out HMV.out HML.out.symm rfl HM.out HBL.out HGR.out HAB.out
theorem prod_all : ∀ n, n ≤ 274877906944 → ProdOk n
 | 0, _ => fun xs ys v u w h _ _ => absurd h (Nat.not_lt_zero _)
 | n + 1, hn => fun xs ys v u w h hv hu => prod_step n (prod_all n (by omega)) (by omega) xs ys v u w (by omega) hv hu
theorem product_any (xs ys : List Nat) (v u : Value) (w : World) (hl : xs.length + ys.length < 274877906944) (hv : Rd w v xs) (hu : Rd w u ys) :
  Calls Tryz.prog 253 #[v, u] w (ProdPost xs ys w) := prod_all _ (Nat.le_refl _) xs ys v u w hl hv hu
end Go.Proofs.YtgfmiladfeoldaaGreatDoor
namespace Go.Proofs.YtgfmiladfeoldaaGreatDoor
open Go.RowKit NatP
def NumPost (n : Nat) (m : Nat) (w : World) (e : Ending) (w' : World) : Prop := ∃ v xs, e = .returned v ∧ Fr w.heap.size w' v xs ∧ val xs = n ∧ xs.length ≤ m ∧ strip xs = xs ∧ Below w.heap.size w w'
theorem strip_strip (l : List Nat) : strip (strip l) = strip l := by
 refine snoc_ind (P := fun l => strip (strip l) = strip l) rfl (fun l d ih => ?_) l
 by_cases h : d = 0
 ·subst h; rw [strip_snoc_zero]; exact ih
 ·rw [strip_snoc_pos _ _ h, strip_snoc_pos _ _ h]
theorem NumPost.of_new {xs : List Nat} {n m : Nat} {w w' : World} {e : Ending} (h : NewPost (strip xs) w e w') (hv : val xs = n) (hm : (strip xs).length ≤ m) : NumPost n m w e w' := by
 obtain ⟨v, he, hf, hb⟩ := h
 exact ⟨v, strip xs, he, hf, by rw [val_strip, hv], hm, strip_strip _, hb⟩
set_option maxRecDepth 100000 in
set_option maxHeartbeats 1000000 in
theorem mul_any (xs ys : List Nat) (v u : Value) (w : World) (hl : xs.length + ys.length < 274877906944) (hv : Rd w v xs) (hu : Rd w u ys) :
  Calls Tryz.prog 237 #[v, u] w (NumPost (val xs * val ys) (xs.length + ys.length) w) := by
 have HV := Lib.hid hv
 have HU := Lib.hid hu
 clear hv hu
 go_enter Tryz.func237, Tryz.ntmps237
 go_wp2_with fail
 refine (product_any xs ys _ _ _ hl HV.out HU.out).mono ?_
 rintro e w1 ⟨g, M, rfl, hg, hM, hml, hmv, hb⟩
 have q1 := strip_le xs
 have q2 := strip_le ys
 have hMl : M.length ≤ xs.length + ys.length := by omega
 have R := Lib.hid (hM.whole (by omega))
 have HB := Lib.hid hb
 have HV := Lib.hid hmv
 clear hM hml hmv hb
 go_wp2_with fail
 refine (least_any _ M _ R.out (by omega)).mono ?_
 rintro e w2 ⟨v2, rfl, hf, hb2⟩
 have HF := Lib.hid (hf.mono HB.out.size)
 have HB2 : Hid (Below w.heap.size w w2) := HB.out.trans (hb2.mono HB.out.size)
 clear hf hb2
 go_wp2_with fail
 go_ret
 exact NumPost.of_new ⟨_, rfl, HF.out, HB2.out⟩ HV.out (Nat.le_trans (strip_le M) hMl)
set_option maxRecDepth 100000 in
set_option maxHeartbeats 1000000 in
theorem square_any (xs : List Nat) (v : Value) (w : World) (hl : xs.length + xs.length < 274877906944) (hv : Rd w v xs) :
  Calls Tryz.prog 215 #[v] w (NumPost (val xs * val xs) (xs.length + xs.length) w) := by
 have HV := Lib.hid hv
 clear hv
 go_enter Tryz.func215, Tryz.ntmps215
 go_wp2_with fail
 refine (mul_any xs xs _ _ _ hl HV.out HV.out).mono ?_
 rintro e w1 ⟨v1, zs, rfl, h1, h2, h3, h4, h5⟩
 have H1 := Lib.hid h1
 have H2 := Lib.hid h2
 have H3 := Lib.hid h3
 have H4 := Lib.hid h4
 have H5 := Lib.hid h5
 clear h1 h2 h3 h4 h5
 go_wp2_with fail
 go_ret
 exact ⟨_, zs, rfl, H1.out, H2.out, H3.out, H4.out, H5.out⟩
theorem rd_word (w : World) (x : Nat) (hx : x < BB) : Rd (w.alloc (.cells #[.int .u64 (x : Nat)] 101)) (.slice (some ⟨w.heap.size, 0, none⟩) 1 1) [x] := by
 refine ⟨fun k hk => by cases hk; simp, _, 1, rfl, Nat.le_refl _, by unfold maxLen; omega, ok_cons hx ok_nil, fun i y hy => ?_⟩
 cases i with
 | zero =>
  simp at hy; subst hy
  exact ⟨_, _, rfl, by simp [go_sem]⟩
 | succ i => simp at hy
set_option maxRecDepth 100000 in
set_option maxHeartbeats 1000000 in
theorem word_any (xs : List Nat) (x : Nat) (v : Value) (w : World) (hl : xs.length < 137438953472) (hx : x < BB) (hv : Rd w v xs) :
  Calls Tryz.prog 272 #[v, .int .u64 (x : Nat)] w (NumPost (val xs * x) (xs.length + 1) w) := by
 have HV := Lib.hid hv
 have HX := Lib.hid hx
 clear hv hx
 go_enter Tryz.func272, Tryz.ntmps272
 go_wp2_with fail
 refine (mul_any xs [x] _ _ _ (by simp; omega) (HV.out.alloc _) (rd_word w x HX.out)).mono ?_
 rintro e w1 ⟨v1, zs, rfl, h1, h2, h3, h4, h5⟩
 have H1 : Hid (Fr w.heap.size w1 v1 zs) := h1.mono (by simp)
 have H2 : Hid (val zs = val xs * x) := by show _ = _; rw [h2]; simp [val]
 have H3 : Hid (zs.length ≤ xs.length + 1) := h3
 have H4 := Lib.hid h4
 have H5 : Hid (Below w.heap.size w w1) := (below_alloc w _).trans (h5.mono (by simp))
 clear h1 h2 h3 h4 h5
 go_wp2_with fail
 go_ret
 exact ⟨_, zs, rfl, H1.out, H2.out, H3.out, H4.out, H5.out⟩
end Go.Proofs.YtgfmiladfeoldaaGreatDoor
