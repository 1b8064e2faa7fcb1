/- Joined texts of this claim's proof: Num6, Num7, Num8, DivA, EvB. -/
import Derived.Test.YtceggplnggkdnaaGreatDoorPk5
import Derived.Test.YtceggplnggkdnaaGreatDoorPk4
import Derived.Lib.ItoaNum
import Derived.Test.YtceggplnggkdnaaGreatDoorPk3
set_option linter.unusedSimpArgs false
set_option linter.unusedVariables false
namespace Go.Proofs.YtceggplnggkdnaaGreatDoor
open Go.RowKit NatP
theorem ProdOk.mono {n m : Nat} (h : ProdOk n) (hm : m ≤ n) : ProdOk m := fun xs ys v u w hl hv hu => h xs ys v u w (by omega) hv hu
theorem Rd.some' {w : World} {ao : Option Addr} {n c : Nat} {xs : List Nat} (h : Rd w (.slice ao n c) xs) (h0 : 0 < xs.length) : ∃ g o, ao = some ⟨g, o, none⟩ := by
 obtain ⟨_, ao', cap', e, _, _, _, h4⟩ := h
 simp only [Value.slice.injEq] at e
 obtain ⟨rfl, -, -⟩ := e
 obtain ⟨g, o, h5, _⟩ := h4 0 xs[0] (List.getElem?_eq_getElem h0)
 exact ⟨g, o, h5⟩
theorem prod_done {w w1 w2 : World} {e : Ending} {A B M xs ys : List Nat} {n : Nat} (h1 : M.length = A.length + B.length) (h2 : val M = val A * val B) (hn : n = M.length) (he : e = .returned (.slice (some ⟨w.heap.size, 0, none⟩) n n)) (hB : Blk w2 w.heap.size M) (hb : Below w.heap.size w w1) (hg : w1.grownBy w2 (some w.heap.size))
  (hAB : (A = strip xs ∧ B = strip ys) ∨ (A = strip ys ∧ B = strip xs)) : ProdPost xs ys w e w2 := by
 subst hn
 refine ⟨_, M, he, Nat.le_refl _, hB, ?_, ?_, Below.grown hb hg hb.size (fun k hk => by cases hk; exact Nat.le_refl _)⟩
 ·rcases hAB with ⟨rfl, rfl⟩ | ⟨rfl, rfl⟩
  ·exact h1
  ·rw [h1, Nat.add_comm]
 ·rcases hAB with ⟨rfl, rfl⟩ | ⟨rfl, rfl⟩
  ·rw [h2, val_strip, val_strip]
  ·rw [h2, val_strip, val_strip, Nat.mul_comm]
def PiRel (A B : List Nat) (g : Nat) (w1 : World) (i : Value) (wr : World) : Prop := ∃ (k : Nat) (M : List Nat), i = .int .i64 (k : Nat) ∧ k ≤ A.length + B.length ∧ Blk wr g M ∧ PiSt A B (min k A.length) M ∧ w1.grownBy wr (some g)
set_option maxRecDepth 100000 in
set_option maxHeartbeats 4000000 in
theorem prod_step (n : Nat) (IH : ProdOk n) (hn : n ≤ 274877906944) (xs ys : List Nat) (v u : Value) (w : World) (hl : xs.length + ys.length ≤ n) (hv : Rd w v xs) (hu : Rd w u ys) :
  Calls Tryz.prog 352 #[v, u] w (ProdPost xs ys w) := by
 have HV := Lib.hid hv
 have HU := Lib.hid hu
 obtain ⟨_, ao, cap, rfl, -⟩ := hv
 obtain ⟨_, bo, cap2, rfl, -⟩ := hu
 have TA := Lib.hid (trim_rd' HV.out)
 have TB := Lib.hid (trim_rd' HU.out)
 have q1 := strip_le xs
 have q2 := strip_le ys
 have HI := Lib.hid IH
 obtain ⟨X, hX⟩ : ∃ X, X = strip xs := ⟨_, rfl⟩
 obtain ⟨Y, hY⟩ : ∃ Y, Y = strip ys := ⟨_, rfl⟩
 rw [← hX] at TA q1
 rw [← hY] at TB q2
 have HX := Lib.hid hX
 have HY := Lib.hid hY
 clear IH hX hY
 by_cases hsw : X.length < Y.length
 ·have h21 : X.length ≤ Y.length := by omega
  have HAB : Hid ((Y = strip xs ∧ X = strip ys) ∨ (Y = strip ys ∧ X = strip xs)) := .inr ⟨HY.out, HX.out⟩
  have HMK : ∀ w : World, (Instr.makeSlice 111 (.int .i64 ((Y.length : Int) + (X.length : Int))) (.int .i64 ((Y.length : Int) + (X.length : Int)))).run Tryz.prog w = .ok (.slice (some ⟨w.heap.size, 0, none⟩) (Y.length + X.length) (Y.length + X.length)) (w.alloc (.cells (madeCells #[.int .u64 0] (Y.length + X.length)) 215)) := make_words (Y.length + X.length) (by omega)
  have HZ := Lib.hid (Blk.made w (Y.length + X.length))
  have HBL := Lib.hid (below_alloc w (.cells (madeCells #[.int .u64 0] (Y.length + X.length)) 215))
  have NA := Lib.hid (TB.out.ne (Nat.le_refl w.heap.size))
  have NB := Lib.hid (TA.out.ne (Nat.le_refl w.heap.size))
  have RA := Lib.hid (TB.out.below HBL.out)
  have RB := Lib.hid (TA.out.below HBL.out)
  by_cases h24 : X.length < 24
  ·go_enter Tryz.func352, Tryz.ntmps352
   go_wp2_with fail
   refine (mtrim_any' _ _ _ xs _ HV.out).mono ?_
   rintro e w' ⟨rfl, rfl⟩
   rw [← HX.out]
   go_wp2_with fail
   refine (mtrim_any' _ _ _ ys _ HU.out).mono ?_
   rintro e w' ⟨rfl, rfl⟩
   rw [← HY.out]
   go_wp2_with fail
   refine (rows_any w.heap.size (Y.length + X.length) Y X _ _ _ HZ.out rfl (by omega) RA.out NA.out RB.out NB.out).mono ?_
   rintro e w2 ⟨rfl, M, hM, hml, hmv, hgr⟩
   have HM := Lib.hid hM
   have HML := Lib.hid hml
   have HMV := Lib.hid hmv
   have HGR := Lib.hid hgr
   clear hM hml hmv hgr
   go_wp2_with fail
   go_ret
   exact prod_done HML.out HMV.out HML.out.symm rfl HM.out HBL.out HGR.out HAB.out
  obtain ⟨ga, oa, hao⟩ := TB.out.some' (by omega)
  obtain ⟨gb, ob, hbo⟩ := TA.out.some' (by omega)
  subst hao hbo
  have hga : ga ≠ w.heap.size := fun e => NA.out (by rw [e]; rfl)
  have hgb : gb ≠ w.heap.size := fun e => NB.out (by rw [e]; rfl)
  have d1 : decide ((X.length : Int) < 24) = false := by simp; omega
  by_cases hbig : 2 * X.length ≤ Y.length
  ·have d2 : decide (2 * (X.length : Int) ≤ (Y.length : Int)) = true := by simp; omega
   go_enter Tryz.func352, Tryz.ntmps352
   go_wp2_with fail
   refine (mtrim_any' _ _ _ xs _ HV.out).mono ?_
   rintro e w' ⟨rfl, rfl⟩
   rw [← HX.out]
   go_wp2_with fail
   refine (mtrim_any' _ _ _ ys _ HU.out).mono ?_
   rintro e w' ⟨rfl, rfl⟩
   rw [← HY.out]
   go_wp2_with fail
   generalize w.alloc (.cells (madeCells #[.int .u64 0] (Y.length + X.length)) 215) = w1 at *
   go_loopw [6] (fun i wr => PiRel Y X w.heap.size w1 i wr) (fun i _ => Y.length - (intOf i).toNat)
   case atStart => exact ⟨0, _, rfl, Nat.zero_le _, HZ.out, by rw [Nat.zero_min]; exact PiSt.start Y X, grown_refl w1 _⟩
   case round =>
    obtain ⟨k, M, rfl, hk, hM, hst, hgr⟩ := hrel
    have HM := Lib.hid hM
    have HST := Lib.hid hst
    have HGR := Lib.hid hgr
    have hwz := hgr.size
    have hwb := HBL.out.size
    have hgw := hM.lt
    clear hM hst hgr
    by_cases hlt : k < Y.length
    ·obtain ⟨e, he⟩ : ∃ e, e = min (k + X.length) Y.length := ⟨_, rfl⟩
     have hke : k ≤ e := by omega
     have hea : e ≤ Y.length := by omega
     have hkl : e - k ≤ X.length := by omega
     have hmin : min ((k : Int) + (X.length : Int)) (Y.length : Int) = (e : Int) := by omega
     have HMIN2 : Hid (min (k + X.length) Y.length = e) := he.symm
     have hst2 : PiSt Y X k M := by have := HST.out; rw [Nat.min_eq_left (by omega)] at this; exact this
     have HST2 := Lib.hid hst2
     have HA1 := Lib.hid (((RA.out.kept HGR.out (by intro q hq e2; cases hq; exact NA.out e2)).drop (n := k) (by omega)).take (n := e - k) (c := e - k) (by rw [List.length_drop]; omega) (Nat.le_refl _) (by omega))
     have HB1 := Lib.hid (RB.out.kept HGR.out (by intro q hq e2; cases hq; exact NB.out e2))
     have hi0 : (0 : Int) ≤ (k : Int) := Int.natCast_nonneg _
     have hi1 : (k : Int) ≤ ((Y.length : Int) + (X.length : Int)) := by omega
     have hi2 : (k : Int) ≤ (e : Int) := by omega
     have hi3 : (e : Int) ≤ (Y.length : Int) := by omega
     have hc1 : ¬ (Y.length + X.length = k) := by omega
     have hc2 : ¬ (e = k) := by omega
     have hdl : ((Y.drop k).take (e - k)).length = e - k := by rw [List.length_take, List.length_drop]; omega
     have HDL := Lib.hid hdl
     clear he hst2 hdl
     go_wp2_with fail
     go_region_held3 (fun _ => True) (trivial)
      (first
       | (go_at_call 352; refine (HI.out ((Y.drop k).take (e - k)) X _ _ _ (by have := List.length_take_le (e - k) (Y.drop k); omega) (by exact HA1.out) (by exact HB1.out)).mono ?_; rintro e2 w3 ⟨g3, P, rfl, hg3, hB3, hl3, hv3, hbel3⟩; have HR3 := Lib.hid (hB3.whole (by have p1 := strip_le ((Y.drop k).take (e - k)); have p2 := strip_le X; have p3 := List.length_take_le (e - k) (Y.drop k); omega)); have HV3 := Lib.hid hv3; have HB3 := Lib.hid hbel3; have n3 : g3 ≠ w.heap.size := (Nat.ne_of_lt (Nat.lt_of_lt_of_le hgw hg3)).symm; clear hl3 hv3 hB3 hbel3)
       | (go_at_call 456; refine (mtrim_any' _ _ _ P _ (by exact HR3.out)).mono ?_; rintro e2 w' ⟨rfl, rfl⟩)
       | (go_at_call 458; refine (addTo_any w.heap.size k (Y.length + X.length - k) (Y.length + X.length - k) M (strip P) _ _ (by exact Blk.below (w := wr.drew) HM.out HB3.out hgw) (by have := HST2.out.1; omega) (Nat.le_refl _) (by omega) (trim_rd' HR3.out) (by intro e2; cases e2; exact n3 rfl) (piece_len RA.out.ok RB.out.ok hea HV3.out hke)).mono ?_; rintro e2 w4 ⟨rfl, M', hB4, ⟨hlm, htm, hcm⟩, hgr4⟩))
     have HN := Lib.hid (PiSt.step RA.out.ok RB.out.ok HST2.out hke hea HV3.out hlm htm hcm)
     have HM4 := Lib.hid hB4
     have HG4 : Hid (w1.grownBy w4 (some w.heap.size)) := gb_step (gb_below (w := wr.drew) (gb_step HGR.out (grown_drewN wr 1 (some w.heap.size)) (.inl rfl)) HB3.out) hgr4 (.inl rfl)
     clear hB4 hlm htm hcm hgr4
     go_wp2_with fail
     have hfin : PiRel Y X w.heap.size w1 (.int .i64 ((k : Int) + (X.length : Int))) w4 := ⟨k + X.length, M', by go_num, by omega, HM4.out, by rw [HMIN2.out]; exact HN.out, HG4.out⟩
     exact ⟨hfin, by simp [intOf]; omega⟩
    ·have HD := Lib.hid (PiSt.done (xs := Y) (ys := X) (M := M) (by have := HST.out; rw [Nat.min_eq_right (by omega)] at this; exact this))
     go_wp2_with fail
     go_ret
     exact prod_done HD.out.1 HD.out.2 HD.out.1.symm rfl HM.out HBL.out HGR.out HAB.out
  ·go_enter Tryz.func352, Tryz.ntmps352
   go_wp2_with fail
   refine (mtrim_any' _ _ _ xs _ HV.out).mono ?_
   rintro e w' ⟨rfl, rfl⟩
   rw [← HX.out]
   go_wp2_with fail
   refine (mtrim_any' _ _ _ ys _ HU.out).mono ?_
   rintro e w' ⟨rfl, rfl⟩
   rw [← HY.out]
   go_wp2_with fail
   refine (halves_any w.heap.size ga oa gb ob ((Y.length + 1) / 2) Y X _ (HI.out.mono (by omega)) HZ.out (by omega) RA.out RB.out hga hgb rfl h21 (by omega) (by omega)).mono ?_
   rintro e w2 ⟨rfl, M, hM, hml, hmv, hgr⟩
   have HM := Lib.hid hM
   have HML := Lib.hid hml
   have HMV := Lib.hid hmv
   have HGR := Lib.hid hgr
   clear hM hml hmv hgr
   go_wp2_with fail
   go_ret
   exact prod_done HML.out HMV.out HML.out.symm rfl HM.out HBL.out HGR.out HAB.out
 ·have h21 : Y.length ≤ X.length := by omega
  have HAB : Hid ((X = strip xs ∧ Y = strip ys) ∨ (X = strip ys ∧ Y = strip xs)) := .inl ⟨HX.out, HY.out⟩
  have HMK : ∀ w : World, (Instr.makeSlice 111 (.int .i64 ((X.length : Int) + (Y.length : Int))) (.int .i64 ((X.length : Int) + (Y.length : Int)))).run Tryz.prog w = .ok (.slice (some ⟨w.heap.size, 0, none⟩) (X.length + Y.length) (X.length + Y.length)) (w.alloc (.cells (madeCells #[.int .u64 0] (X.length + Y.length)) 215)) := make_words (X.length + Y.length) (by omega)
  have HZ := Lib.hid (Blk.made w (X.length + Y.length))
  have HBL := Lib.hid (below_alloc w (.cells (madeCells #[.int .u64 0] (X.length + Y.length)) 215))
  have NA := Lib.hid (TA.out.ne (Nat.le_refl w.heap.size))
  have NB := Lib.hid (TB.out.ne (Nat.le_refl w.heap.size))
  have RA := Lib.hid (TA.out.below HBL.out)
  have RB := Lib.hid (TB.out.below HBL.out)
  by_cases h24 : Y.length < 24
  ·go_enter Tryz.func352, Tryz.ntmps352
   go_wp2_with fail
   refine (mtrim_any' _ _ _ xs _ HV.out).mono ?_
   rintro e w' ⟨rfl, rfl⟩
   rw [← HX.out]
   go_wp2_with fail
   refine (mtrim_any' _ _ _ ys _ HU.out).mono ?_
   rintro e w' ⟨rfl, rfl⟩
   rw [← HY.out]
   go_wp2_with fail
   refine (rows_any w.heap.size (X.length + Y.length) X Y _ _ _ HZ.out rfl (by omega) RA.out NA.out RB.out NB.out).mono ?_
   rintro e w2 ⟨rfl, M, hM, hml, hmv, hgr⟩
   have HM := Lib.hid hM
   have HML := Lib.hid hml
   have HMV := Lib.hid hmv
   have HGR := Lib.hid hgr
   clear hM hml hmv hgr
   go_wp2_with fail
   go_ret
   exact prod_done HML.out HMV.out HML.out.symm rfl HM.out HBL.out HGR.out HAB.out
  obtain ⟨ga, oa, hao⟩ := TA.out.some' (by omega)
  obtain ⟨gb, ob, hbo⟩ := TB.out.some' (by omega)
  subst hao hbo
  have hga : ga ≠ w.heap.size := fun e => NA.out (by rw [e]; rfl)
  have hgb : gb ≠ w.heap.size := fun e => NB.out (by rw [e]; rfl)
  have d1 : decide ((Y.length : Int) < 24) = false := by simp; omega
  by_cases hbig : 2 * Y.length ≤ X.length
  ·have d2 : decide (2 * (Y.length : Int) ≤ (X.length : Int)) = true := by simp; omega
   go_enter Tryz.func352, Tryz.ntmps352
   go_wp2_with fail
   refine (mtrim_any' _ _ _ xs _ HV.out).mono ?_
   rintro e w' ⟨rfl, rfl⟩
   rw [← HX.out]
   go_wp2_with fail
   refine (mtrim_any' _ _ _ ys _ HU.out).mono ?_
   rintro e w' ⟨rfl, rfl⟩
   rw [← HY.out]
   go_wp2_with fail
   generalize w.alloc (.cells (madeCells #[.int .u64 0] (X.length + Y.length)) 215) = w1 at *
   go_loopw [6] (fun i wr => PiRel X Y w.heap.size w1 i wr) (fun i _ => X.length - (intOf i).toNat)
   case atStart => exact ⟨0, _, rfl, Nat.zero_le _, HZ.out, by rw [Nat.zero_min]; exact PiSt.start X Y, grown_refl w1 _⟩
   case round =>
    obtain ⟨k, M, rfl, hk, hM, hst, hgr⟩ := hrel
    have HM := Lib.hid hM
    have HST := Lib.hid hst
    have HGR := Lib.hid hgr
    have hwz := hgr.size
    have hwb := HBL.out.size
    have hgw := hM.lt
    clear hM hst hgr
    by_cases hlt : k < X.length
    ·obtain ⟨e, he⟩ : ∃ e, e = min (k + Y.length) X.length := ⟨_, rfl⟩
     have hke : k ≤ e := by omega
     have hea : e ≤ X.length := by omega
     have hkl : e - k ≤ Y.length := by omega
     have hmin : min ((k : Int) + (Y.length : Int)) (X.length : Int) = (e : Int) := by omega
     have HMIN2 : Hid (min (k + Y.length) X.length = e) := he.symm
     have hst2 : PiSt X Y k M := by have := HST.out; rw [Nat.min_eq_left (by omega)] at this; exact this
     have HST2 := Lib.hid hst2
     have HA1 := Lib.hid (((RA.out.kept HGR.out (by intro q hq e2; cases hq; exact NA.out e2)).drop (n := k) (by omega)).take (n := e - k) (c := e - k) (by rw [List.length_drop]; omega) (Nat.le_refl _) (by omega))
     have HB1 := Lib.hid (RB.out.kept HGR.out (by intro q hq e2; cases hq; exact NB.out e2))
     have hi0 : (0 : Int) ≤ (k : Int) := Int.natCast_nonneg _
     have hi1 : (k : Int) ≤ ((X.length : Int) + (Y.length : Int)) := by omega
     have hi2 : (k : Int) ≤ (e : Int) := by omega
     have hi3 : (e : Int) ≤ (X.length : Int) := by omega
     have hc1 : ¬ (X.length + Y.length = k) := by omega
     have hc2 : ¬ (e = k) := by omega
     have hdl : ((X.drop k).take (e - k)).length = e - k := by rw [List.length_take, List.length_drop]; omega
     have HDL := Lib.hid hdl
     clear he hst2 hdl
     go_wp2_with fail
     go_region_held3 (fun _ => True) (trivial)
      (first
       | (go_at_call 352; refine (HI.out ((X.drop k).take (e - k)) Y _ _ _ (by have := List.length_take_le (e - k) (X.drop k); omega) (by exact HA1.out) (by exact HB1.out)).mono ?_; rintro e2 w3 ⟨g3, P, rfl, hg3, hB3, hl3, hv3, hbel3⟩; have HR3 := Lib.hid (hB3.whole (by have p1 := strip_le ((X.drop k).take (e - k)); have p2 := strip_le Y; have p3 := List.length_take_le (e - k) (X.drop k); omega)); have HV3 := Lib.hid hv3; have HB3 := Lib.hid hbel3; have n3 : g3 ≠ w.heap.size := (Nat.ne_of_lt (Nat.lt_of_lt_of_le hgw hg3)).symm; clear hl3 hv3 hB3 hbel3)
       | (go_at_call 456; refine (mtrim_any' _ _ _ P _ (by exact HR3.out)).mono ?_; rintro e2 w' ⟨rfl, rfl⟩)
       | (go_at_call 458; refine (addTo_any w.heap.size k (X.length + Y.length - k) (X.length + Y.length - k) M (strip P) _ _ (by exact Blk.below (w := wr.drew) HM.out HB3.out hgw) (by have := HST2.out.1; omega) (Nat.le_refl _) (by omega) (trim_rd' HR3.out) (by intro e2; cases e2; exact n3 rfl) (piece_len RA.out.ok RB.out.ok hea HV3.out hke)).mono ?_; rintro e2 w4 ⟨rfl, M', hB4, ⟨hlm, htm, hcm⟩, hgr4⟩))
     have HN := Lib.hid (PiSt.step RA.out.ok RB.out.ok HST2.out hke hea HV3.out hlm htm hcm)
     have HM4 := Lib.hid hB4
     have HG4 : Hid (w1.grownBy w4 (some w.heap.size)) := gb_step (gb_below (w := wr.drew) (gb_step HGR.out (grown_drewN wr 1 (some w.heap.size)) (.inl rfl)) HB3.out) hgr4 (.inl rfl)
     clear hB4 hlm htm hcm hgr4
     go_wp2_with fail
     have hfin : PiRel X Y w.heap.size w1 (.int .i64 ((k : Int) + (Y.length : Int))) w4 := ⟨k + Y.length, M', by go_num, by omega, HM4.out, by rw [HMIN2.out]; exact HN.out, HG4.out⟩
     exact ⟨hfin, by simp [intOf]; omega⟩
    ·have HD := Lib.hid (PiSt.done (xs := X) (ys := Y) (M := M) (by have := HST.out; rw [Nat.min_eq_right (by omega)] at this; exact this))
     go_wp2_with fail
     go_ret
     exact prod_done HD.out.1 HD.out.2 HD.out.1.symm rfl HM.out HBL.out HGR.out HAB.out
  ·go_enter Tryz.func352, Tryz.ntmps352
   go_wp2_with fail
   refine (mtrim_any' _ _ _ xs _ HV.out).mono ?_
   rintro e w' ⟨rfl, rfl⟩
   rw [← HX.out]
   go_wp2_with fail
   refine (mtrim_any' _ _ _ ys _ HU.out).mono ?_
   rintro e w' ⟨rfl, rfl⟩
   rw [← HY.out]
   go_wp2_with fail
   refine (halves_any w.heap.size ga oa gb ob ((X.length + 1) / 2) X Y _ (HI.out.mono (by omega)) HZ.out (by omega) RA.out RB.out hga hgb rfl h21 (by omega) (by omega)).mono ?_
   rintro e w2 ⟨rfl, M, hM, hml, hmv, hgr⟩
   have HM := Lib.hid hM
   have HML := Lib.hid hml
   have HMV := Lib.hid hmv
   have HGR := Lib.hid hgr
   clear hM hml hmv hgr
   go_wp2_with fail
   go_ret
   exact prod_done HML.out HMV.out HML.out.symm rfl HM.out HBL.out HGR.out HAB.out
theorem prod_all : ∀ n, n ≤ 274877906944 → ProdOk n
 | 0, _ => fun xs ys v u w h _ _ => absurd h (Nat.not_lt_zero _)
 | n + 1, hn => fun xs ys v u w h hv hu => prod_step n (prod_all n (by omega)) (by omega) xs ys v u w (by omega) hv hu
theorem product_any (xs ys : List Nat) (v u : Value) (w : World) (hl : xs.length + ys.length < 274877906944) (hv : Rd w v xs) (hu : Rd w u ys) :
  Calls Tryz.prog 352 #[v, u] w (ProdPost xs ys w) := prod_all _ (Nat.le_refl _) xs ys v u w hl hv hu
end Go.Proofs.YtceggplnggkdnaaGreatDoor
namespace Go.Proofs.YtceggplnggkdnaaGreatDoor
open Go.RowKit NatP
def NumPost (n : Nat) (m : Nat) (w : World) (e : Ending) (w' : World) : Prop := ∃ v xs, e = .returned v ∧ Fr w.heap.size w' v xs ∧ val xs = n ∧ xs.length ≤ m ∧ strip xs = xs ∧ Below w.heap.size w w'
theorem strip_strip (l : List Nat) : strip (strip l) = strip l := by
 refine snoc_ind (P := fun l => strip (strip l) = strip l) rfl (fun l d ih => ?_) l
 by_cases h : d = 0
 ·subst h; rw [strip_snoc_zero]; exact ih
 ·rw [strip_snoc_pos _ _ h, strip_snoc_pos _ _ h]
theorem NumPost.of_new {xs : List Nat} {n m : Nat} {w w' : World} {e : Ending} (h : NewPost (strip xs) w e w') (hv : val xs = n) (hm : (strip xs).length ≤ m) : NumPost n m w e w' := by
 obtain ⟨v, he, hf, hb⟩ := h
 exact ⟨v, strip xs, he, hf, by rw [val_strip, hv], hm, strip_strip _, hb⟩
set_option maxRecDepth 100000 in
set_option maxHeartbeats 1000000 in
theorem mul_any (xs ys : List Nat) (v u : Value) (w : World) (hl : xs.length + ys.length < 274877906944) (hv : Rd w v xs) (hu : Rd w u ys) :
  Calls Tryz.prog 202 #[v, u] w (NumPost (val xs * val ys) (xs.length + ys.length) w) := by
 have HV := Lib.hid hv
 have HU := Lib.hid hu
 clear hv hu
 go_enter Tryz.func202, Tryz.ntmps202
 go_wp2_with fail
 refine (product_any xs ys _ _ _ hl HV.out HU.out).mono ?_
 rintro e w1 ⟨g, M, rfl, hg, hM, hml, hmv, hb⟩
 have q1 := strip_le xs
 have q2 := strip_le ys
 have hMl : M.length ≤ xs.length + ys.length := by omega
 have R := Lib.hid (hM.whole (by omega))
 have HB := Lib.hid hb
 have HV := Lib.hid hmv
 clear hM hml hmv hb
 go_wp2_with fail
 refine (least_any _ M _ R.out (by omega)).mono ?_
 rintro e w2 ⟨v2, rfl, hf, hb2⟩
 have HF := Lib.hid (hf.mono HB.out.size)
 have HB2 : Hid (Below w.heap.size w w2) := HB.out.trans (hb2.mono HB.out.size)
 clear hf hb2
 go_wp2_with fail
 go_ret
 exact NumPost.of_new ⟨_, rfl, HF.out, HB2.out⟩ HV.out (Nat.le_trans (strip_le M) hMl)
set_option maxRecDepth 100000 in
set_option maxHeartbeats 1000000 in
theorem square_any (xs : List Nat) (v : Value) (w : World) (hl : xs.length + xs.length < 274877906944) (hv : Rd w v xs) :
  Calls Tryz.prog 355 #[v] w (NumPost (val xs * val xs) (xs.length + xs.length) w) := by
 have HV := Lib.hid hv
 clear hv
 go_enter Tryz.func355, Tryz.ntmps355
 go_wp2_with fail
 refine (mul_any xs xs _ _ _ hl HV.out HV.out).mono ?_
 rintro e w1 ⟨v1, zs, rfl, h1, h2, h3, h4, h5⟩
 have H1 := Lib.hid h1
 have H2 := Lib.hid h2
 have H3 := Lib.hid h3
 have H4 := Lib.hid h4
 have H5 := Lib.hid h5
 clear h1 h2 h3 h4 h5
 go_wp2_with fail
 go_ret
 exact ⟨_, zs, rfl, H1.out, H2.out, H3.out, H4.out, H5.out⟩
theorem rd_word (w : World) (x : Nat) (hx : x < BB) : Rd (w.alloc (.cells #[.int .u64 (x : Nat)] 215)) (.slice (some ⟨w.heap.size, 0, none⟩) 1 1) [x] := by
 refine ⟨fun k hk => by cases hk; simp, _, 1, rfl, Nat.le_refl _, by unfold maxLen; omega, ok_cons hx ok_nil, fun i y hy => ?_⟩
 cases i with
 | zero =>
  simp at hy; subst hy
  exact ⟨_, _, rfl, by simp [go_sem]⟩
 | succ i => simp at hy
set_option maxRecDepth 100000 in
set_option maxHeartbeats 1000000 in
theorem word_any (xs : List Nat) (x : Nat) (v : Value) (w : World) (hl : xs.length < 137438953472) (hx : x < BB) (hv : Rd w v xs) :
  Calls Tryz.prog 336 #[v, .int .u64 (x : Nat)] w (NumPost (val xs * x) (xs.length + 1) w) := by
 have HV := Lib.hid hv
 have HX := Lib.hid hx
 clear hv hx
 go_enter Tryz.func336, Tryz.ntmps336
 go_wp2_with fail
 refine (mul_any xs [x] _ _ _ (by simp; omega) (HV.out.alloc _) (rd_word w x HX.out)).mono ?_
 rintro e w1 ⟨v1, zs, rfl, h1, h2, h3, h4, h5⟩
 have H1 : Hid (Fr w.heap.size w1 v1 zs) := h1.mono (by simp)
 have H2 : Hid (val zs = val xs * x) := by show _ = _; rw [h2]; simp [val]
 have H3 : Hid (zs.length ≤ xs.length + 1) := h3
 have H4 := Lib.hid h4
 have H5 : Hid (Below w.heap.size w w1) := (below_alloc w _).trans (h5.mono (by simp))
 clear h1 h2 h3 h4 h5
 go_wp2_with fail
 go_ret
 exact ⟨_, zs, rfl, H1.out, H2.out, H3.out, H4.out, H5.out⟩
end Go.Proofs.YtceggplnggkdnaaGreatDoor
namespace Go.Proofs.YtceggplnggkdnaaGreatDoor
open Go.RowKit NatP
def SmSt (A B : List Nat) (i c : Nat) (M : List Nat) : Prop := M.length = A.length + 1 ∧ val (M.take i) + BB ^ i * c = val (A.take i) + val (B.take i)
theorem SmSt.start (A B : List Nat) : SmSt A B 0 0 (List.replicate (A.length + 1) 0) := ⟨List.length_replicate, by simp [val]⟩
theorem SmSt.step {A B M : List Nat} {i c x y s c' : Nat} (h : SmSt A B i c M) (hx : A[i]? = some x) (hy : (B[i]? = some y) ∨ (B.length ≤ i ∧ y = 0)) (hs : s + BB * c' = x + y + c) : SmSt A B (i + 1) c' (M.set i s) := by
 obtain ⟨h1, h4⟩ := h
 obtain ⟨hi, hv⟩ := List.getElem?_eq_some_iff.1 hx
 refine ⟨by rw [List.length_set, h1], ?_⟩
 have hmid := set_mid (l := M) (o := 0) (i := i) s (by omega)
 rw [List.drop_zero, List.drop_zero, Nat.zero_add] at hmid
 have e1 : val (A.take (i + 1)) = val (A.take i) + BB ^ i * x := by rw [val_take_succ hi, hv]
 have e2 : val (B.take (i + 1)) = val (B.take i) + BB ^ i * y := by
  rcases hy with hy | ⟨hy, rfl⟩
  ·obtain ⟨hyl, hyv⟩ := List.getElem?_eq_some_iff.1 hy
   rw [val_take_succ hyl, hyv]
  ·rw [List.take_of_length_le (by omega), List.take_of_length_le (by omega)]; simp
 rw [hmid, e1, e2, val_snoc, List.length_take, Nat.min_eq_left (by omega), Nat.pow_succ]
 exact carry_add h4 hs
theorem SmSt.done {A B M : List Nat} {c : Nat} (h : SmSt A B A.length c M) (hB : B.length ≤ A.length) : (M.set A.length c).length = A.length + 1 ∧ val (M.set A.length c) = val A + val B := by
 obtain ⟨h1, h4⟩ := h
 have hmid := set_mid (l := M) (o := 0) (i := A.length) c (by omega)
 rw [List.drop_zero, List.drop_zero, Nat.zero_add] at hmid
 rw [List.take_of_length_le (by rw [List.length_set]; omega)] at hmid
 refine ⟨by rw [List.length_set, h1], ?_⟩
 rw [hmid, val_snoc, List.length_take, Nat.min_eq_left (by omega)]
 rw [List.take_length, List.take_of_length_le hB] at h4
 exact h4
theorem Rd.cellAt {w : World} {ao : Option Addr} {n c : Nat} {xs : List Nat} (h : Rd w (.slice ao n c) xs) {i x : Nat} (hx : (strip xs)[i]? = some x) : ∃ g o, ao = some ⟨g, o, none⟩ ∧ w.cell? ⟨g, o + i, none⟩ = some (.int .u64 (x : Nat)) ∧ i < n := by
 obtain ⟨_, ao', cap', e, _, _, _, h4⟩ := h
 simp only [Value.slice.injEq] at e
 obtain ⟨rfl, rfl, -⟩ := e
 have h1 : xs[i]? = some x := by
  rw [(strip_take xs).1, List.getElem?_take] at hx
  split at hx
  ·exact hx
  ·cases hx
 obtain ⟨g, o, h5, h6⟩ := h4 i x h1
 exact ⟨g, o, h5, h6, (List.getElem?_eq_some_iff.1 h1).1⟩
def SmRel (A B : List Nat) (g : Nat) (w1 : World) (cv i : Value) (wr : World) : Prop := ∃ (k cc : Nat) (M : List Nat), k ≤ A.length ∧ i = .int .i64 (k : Nat) ∧ cv = .int .u64 (cc : Nat) ∧ Hid (cc ≤ 1) ∧ Blk wr g M ∧ SmSt A B k cc M ∧ w1.grownBy wr (some g)
theorem add_done {w w1 w2 : World} {A B M : List Nat} {n m c : Nat} (hl : M.length = A.length + 1) (hv : val M = val A + val B) (hc : c = A.length + 1) (hB : Blk w2 w.heap.size M) (hb : Below w.heap.size w w1) (hg : w1.grownBy w2 (some w.heap.size)) (hs : A.length ≤ 549755813888)
  (hn : val A + val B = n) (hm : A.length + 1 ≤ m) : NumPost n m w (.returned (.slice (some ⟨w.heap.size, 0, none⟩) (strip M).length c)) w2 := by
 subst hc
 have h1 := strip_le M
 have h2 := hB.rd (o := 0) (n := (strip M).length) (c := A.length + 1) (by omega) (by omega) (by unfold maxLen; omega)
 rw [List.drop_zero, ← (strip_take M).1] at h2
 exact ⟨_, strip M, rfl, ⟨h2, fun k hk => by cases hk; exact ⟨Nat.le_refl _, hB.lt⟩⟩, by rw [val_strip, hv, hn], by omega, strip_strip M, Below.grown hb hg hb.size (fun k hk => by cases hk; exact Nat.le_refl _)⟩
set_option maxRecDepth 100000 in
set_option maxHeartbeats 4000000 in
theorem natAdd_any (xs ys : List Nat) (v u : Value) (w : World) (hlx : xs.length ≤ 274877906944) (hly : ys.length ≤ 274877906944) (hv : Rd w v xs) (hu : Rd w u ys) :
  Calls Tryz.prog 198 #[v, u] w (NumPost (val xs + val ys) (max (strip xs).length (strip ys).length + 1) w) := by
 have HV := Lib.hid hv
 have HU := Lib.hid hu
 obtain ⟨_, ao, cap, rfl, -⟩ := hv
 obtain ⟨_, bo, cap2, rfl, -⟩ := hu
 have q1 := strip_le xs
 have q2 := strip_le ys
 obtain ⟨X, hX⟩ : ∃ X, X = strip xs := ⟨_, rfl⟩
 obtain ⟨Y, hY⟩ : ∃ Y, Y = strip ys := ⟨_, rfl⟩
 have HVX : Hid (val X = val xs) := by show _ = _; rw [hX, val_strip]
 have HVY : Hid (val Y = val ys) := by show _ = _; rw [hY, val_strip]
 rw [← hX] at q1
 rw [← hY] at q2
 rw [← hX, ← hY]
 have HX := Lib.hid hX
 have HY := Lib.hid hY
 have HOX : Hid (ok X) := by show ok _; rw [hX]; exact ok_strip HV.out.ok
 have HOY : Hid (ok Y) := by show ok _; rw [hY]; exact ok_strip HU.out.ok
 clear hX hY
 by_cases hsw : X.length < Y.length
 ·have h21 : X.length ≤ Y.length := by omega
  have HMK : ∀ w : World, (Instr.makeSlice 111 (.int .i64 ((Y.length : Int) + 1)) (.int .i64 ((Y.length : Int) + 1))).run Tryz.prog w = .ok (.slice (some ⟨w.heap.size, 0, none⟩) (Y.length + 1) (Y.length + 1)) (w.alloc (.cells (madeCells #[.int .u64 0] (Y.length + 1)) 215)) := make_words (Y.length + 1) (by omega)
  have HZ := Lib.hid (Blk.made w (Y.length + 1))
  have HBL := Lib.hid (below_alloc w (.cells (madeCells #[.int .u64 0] (Y.length + 1)) 215))
  have NA := Lib.hid (HU.out.ne (Nat.le_refl w.heap.size))
  have NB := Lib.hid (HV.out.ne (Nat.le_refl w.heap.size))
  have RA := Lib.hid (HU.out.below HBL.out)
  have RB := Lib.hid (HV.out.below HBL.out)
  go_enter Tryz.func198, Tryz.ntmps198
  go_wp2_with fail
  refine (size_any _ xs _ HV.out).mono ?_
  rintro e w' ⟨rfl, rfl⟩
  rw [← HX.out]
  go_wp2_with fail
  refine (size_any _ ys _ HU.out).mono ?_
  rintro e w' ⟨rfl, rfl⟩
  rw [← HY.out]
  go_wp2_with fail
  refine (size_any _ ys _ HU.out).mono ?_
  rintro e w' ⟨rfl, rfl⟩
  rw [← HY.out]
  go_wp2_with fail
  refine (size_any _ xs _ HV.out).mono ?_
  rintro e w' ⟨rfl, rfl⟩
  rw [← HX.out]
  go_wp2_with fail
  generalize w.alloc (.cells (madeCells #[.int .u64 0] (Y.length + 1)) 215) = w1 at *
  go_loopw [8, 26] (fun cv i wr => SmRel Y X w.heap.size w1 cv i wr) (fun _ i _ => Y.length - (intOf i).toNat)
  case atStart => exact ⟨0, 0, _, Nat.zero_le _, rfl, rfl, Nat.zero_le _, HZ.out, SmSt.start Y X, grown_refl w1 _⟩
  case round =>
   obtain ⟨k, cc, M, hk, rfl, rfl, hcc, hM, hst, hgr⟩ := hrel
   have HM := Lib.hid hM
   have HST := Lib.hid hst
   have HGR := Lib.hid hgr
   have hml : k < M.length := by have := hst.1; omega
   have hml2 : Y.length < M.length := by have := hst.1; omega
   have hml3 : M.length ≤ Y.length + 1 := by have := hst.1; omega
   have hgw := hM.lt
   clear hM hst hgr
   by_cases hlt : k < Y.length
   ·obtain ⟨x, hx⟩ : ∃ x, Y[k]? = some x := ⟨_, List.getElem?_eq_getElem hlt⟩
    obtain ⟨z, hz⟩ : ∃ z, M[k]? = some z := ⟨_, List.getElem?_eq_getElem hml⟩
    have RA2 := RA.out.kept HGR.out (by intro q hq e2; cases hq; exact NA.out e2)
    have RB2 := RB.out.kept HGR.out (by intro q hq e2; cases hq; exact NB.out e2)
    obtain ⟨ga, oa, hao, e1, hi1⟩ := RA2.cellAt (i := k) (x := x) (by rw [← HY.out]; exact hx)
    subst hao
    have c1 := HM.out.cell hz
    have c2 := HM.out.frozen k
    have hxb := HOY.out x (List.mem_of_getElem? hx)
    clear hz
    by_cases hkb : k < X.length
    ·obtain ⟨y, hy⟩ : ∃ y, X[k]? = some y := ⟨_, List.getElem?_eq_getElem hkb⟩
     obtain ⟨gb, ob, hbo, e2, hi2⟩ := RB2.cellAt (i := k) (x := y) (by rw [← HX.out]; exact hy)
     subst hbo
     obtain ⟨s, c', hs1, hs2, hs3, hrun⟩ := add64_ex x y cc hxb (HOX.out y (List.mem_of_getElem? hy)) hcc.out
     have HN := Lib.hid (HST.out.step hx (.inl hy) hs3)
     have HS := Lib.hid (HM.out.set k hs1)
     have HC := Lib.hid hs2
     clear hx hy hs3 RA2 RB2 hxb hs1 hs2 hcc
     go_wp2_with fail
     have hfin : SmRel Y X w.heap.size w1 (.int .u64 (c' : Nat)) (.int .i64 ((k : Int) + 1)) (wr.setCell ⟨w.heap.size, k, none⟩ (.int .u64 (s : Nat))) := ⟨k + 1, c', _, by omega, by go_num, rfl, HC.out, HS.out.1, HN.out, grown_set HGR.out HS.out.2⟩
     exact ⟨hfin, by simp [intOf]; omega⟩
    ·obtain ⟨s, c', hs1, hs2, hs3, hrun⟩ := add64_ex x 0 cc hxb BB_pos hcc.out
     have hrun2 : ∀ w : World, (callFunc 349 #[.int .u64 (x : Nat), .int .u64 0, .int .u64 (cc : Nat)]).run Tryz.prog w = .ok (.value (.tuple #[.int .u64 (s : Nat), .int .u64 (c' : Nat)])) w := hrun
     have HN := Lib.hid (HST.out.step hx (.inr ⟨by omega, rfl⟩) hs3)
     have HS := Lib.hid (HM.out.set k hs1)
     have HC := Lib.hid hs2
     clear hx hs3 RA2 RB2 hxb hs1 hs2 hrun hcc
     go_wp2_with fail
     have hfin : SmRel Y X w.heap.size w1 (.int .u64 (c' : Nat)) (.int .i64 ((k : Int) + 1)) (wr.setCell ⟨w.heap.size, k, none⟩ (.int .u64 (s : Nat))) := ⟨k + 1, c', _, by omega, by go_num, rfl, HC.out, HS.out.1, HN.out, grown_set HGR.out HS.out.2⟩
     exact ⟨hfin, by simp [intOf]; omega⟩
   ·obtain rfl : k = Y.length := by omega
    obtain ⟨z, hz⟩ : ∃ z, M[Y.length]? = some z := ⟨_, List.getElem?_eq_getElem hml⟩
    have c1 := HM.out.cell hz
    have c2 := HM.out.frozen Y.length
    have HD := Lib.hid (HST.out.done h21)
    have HS := Lib.hid (HM.out.set Y.length (show cc < BB by have := hcc.out; unfold BB; omega))
    have R := Lib.hid (HS.out.1.whole (by rw [HD.out.1]; omega))
    have hRl := HD.out.1
    rw [hRl] at R
    have hsl := strip_le (M.set Y.length cc)
    rw [hRl] at hsl
    clear hz hlt hk hml hml2 hml3 hRl hcc
    go_wp2_with fail
    refine (size_any _ (M.set Y.length cc) _ R.out).mono ?_
    rintro e w' ⟨rfl, rfl⟩
    go_wp2_with fail
    go_ret
    exact add_done HD.out.1 HD.out.2 rfl HS.out.1 HBL.out (grown_set HGR.out HS.out.2) (by omega) (by rw [HVX.out, HVY.out]; exact Nat.add_comm _ _) (by omega)
 ·have h21 : Y.length ≤ X.length := by omega
  have HMK : ∀ w : World, (Instr.makeSlice 111 (.int .i64 ((X.length : Int) + 1)) (.int .i64 ((X.length : Int) + 1))).run Tryz.prog w = .ok (.slice (some ⟨w.heap.size, 0, none⟩) (X.length + 1) (X.length + 1)) (w.alloc (.cells (madeCells #[.int .u64 0] (X.length + 1)) 215)) := make_words (X.length + 1) (by omega)
  have HZ := Lib.hid (Blk.made w (X.length + 1))
  have HBL := Lib.hid (below_alloc w (.cells (madeCells #[.int .u64 0] (X.length + 1)) 215))
  have NA := Lib.hid (HV.out.ne (Nat.le_refl w.heap.size))
  have NB := Lib.hid (HU.out.ne (Nat.le_refl w.heap.size))
  have RA := Lib.hid (HV.out.below HBL.out)
  have RB := Lib.hid (HU.out.below HBL.out)
  go_enter Tryz.func198, Tryz.ntmps198
  go_wp2_with fail
  refine (size_any _ xs _ HV.out).mono ?_
  rintro e w' ⟨rfl, rfl⟩
  rw [← HX.out]
  go_wp2_with fail
  refine (size_any _ ys _ HU.out).mono ?_
  rintro e w' ⟨rfl, rfl⟩
  rw [← HY.out]
  go_wp2_with fail
  refine (size_any _ xs _ HV.out).mono ?_
  rintro e w' ⟨rfl, rfl⟩
  rw [← HX.out]
  go_wp2_with fail
  refine (size_any _ ys _ HU.out).mono ?_
  rintro e w' ⟨rfl, rfl⟩
  rw [← HY.out]
  go_wp2_with fail
  generalize w.alloc (.cells (madeCells #[.int .u64 0] (X.length + 1)) 215) = w1 at *
  go_loopw [8, 26] (fun cv i wr => SmRel X Y w.heap.size w1 cv i wr) (fun _ i _ => X.length - (intOf i).toNat)
  case atStart => exact ⟨0, 0, _, Nat.zero_le _, rfl, rfl, Nat.zero_le _, HZ.out, SmSt.start X Y, grown_refl w1 _⟩
  case round =>
   obtain ⟨k, cc, M, hk, rfl, rfl, hcc, hM, hst, hgr⟩ := hrel
   have HM := Lib.hid hM
   have HST := Lib.hid hst
   have HGR := Lib.hid hgr
   have hml : k < M.length := by have := hst.1; omega
   have hml2 : X.length < M.length := by have := hst.1; omega
   have hml3 : M.length ≤ X.length + 1 := by have := hst.1; omega
   have hgw := hM.lt
   clear hM hst hgr
   by_cases hlt : k < X.length
   ·obtain ⟨x, hx⟩ : ∃ x, X[k]? = some x := ⟨_, List.getElem?_eq_getElem hlt⟩
    obtain ⟨z, hz⟩ : ∃ z, M[k]? = some z := ⟨_, List.getElem?_eq_getElem hml⟩
    have RA2 := RA.out.kept HGR.out (by intro q hq e2; cases hq; exact NA.out e2)
    have RB2 := RB.out.kept HGR.out (by intro q hq e2; cases hq; exact NB.out e2)
    obtain ⟨ga, oa, hao, e1, hi1⟩ := RA2.cellAt (i := k) (x := x) (by rw [← HX.out]; exact hx)
    subst hao
    have c1 := HM.out.cell hz
    have c2 := HM.out.frozen k
    have hxb := HOX.out x (List.mem_of_getElem? hx)
    clear hz
    by_cases hkb : k < Y.length
    ·obtain ⟨y, hy⟩ : ∃ y, Y[k]? = some y := ⟨_, List.getElem?_eq_getElem hkb⟩
     obtain ⟨gb, ob, hbo, e2, hi2⟩ := RB2.cellAt (i := k) (x := y) (by rw [← HY.out]; exact hy)
     subst hbo
     obtain ⟨s, c', hs1, hs2, hs3, hrun⟩ := add64_ex x y cc hxb (HOY.out y (List.mem_of_getElem? hy)) hcc.out
     have HN := Lib.hid (HST.out.step hx (.inl hy) hs3)
     have HS := Lib.hid (HM.out.set k hs1)
     have HC := Lib.hid hs2
     clear hx hy hs3 RA2 RB2 hxb hs1 hs2 hcc
     go_wp2_with fail
     have hfin : SmRel X Y w.heap.size w1 (.int .u64 (c' : Nat)) (.int .i64 ((k : Int) + 1)) (wr.setCell ⟨w.heap.size, k, none⟩ (.int .u64 (s : Nat))) := ⟨k + 1, c', _, by omega, by go_num, rfl, HC.out, HS.out.1, HN.out, grown_set HGR.out HS.out.2⟩
     exact ⟨hfin, by simp [intOf]; omega⟩
    ·obtain ⟨s, c', hs1, hs2, hs3, hrun⟩ := add64_ex x 0 cc hxb BB_pos hcc.out
     have hrun2 : ∀ w : World, (callFunc 349 #[.int .u64 (x : Nat), .int .u64 0, .int .u64 (cc : Nat)]).run Tryz.prog w = .ok (.value (.tuple #[.int .u64 (s : Nat), .int .u64 (c' : Nat)])) w := hrun
     have HN := Lib.hid (HST.out.step hx (.inr ⟨by omega, rfl⟩) hs3)
     have HS := Lib.hid (HM.out.set k hs1)
     have HC := Lib.hid hs2
     clear hx hs3 RA2 RB2 hxb hs1 hs2 hrun hcc
     go_wp2_with fail
     have hfin : SmRel X Y w.heap.size w1 (.int .u64 (c' : Nat)) (.int .i64 ((k : Int) + 1)) (wr.setCell ⟨w.heap.size, k, none⟩ (.int .u64 (s : Nat))) := ⟨k + 1, c', _, by omega, by go_num, rfl, HC.out, HS.out.1, HN.out, grown_set HGR.out HS.out.2⟩
     exact ⟨hfin, by simp [intOf]; omega⟩
   ·obtain rfl : k = X.length := by omega
    obtain ⟨z, hz⟩ : ∃ z, M[X.length]? = some z := ⟨_, List.getElem?_eq_getElem hml⟩
    have c1 := HM.out.cell hz
    have c2 := HM.out.frozen X.length
    have HD := Lib.hid (HST.out.done h21)
    have HS := Lib.hid (HM.out.set X.length (show cc < BB by have := hcc.out; unfold BB; omega))
    have R := Lib.hid (HS.out.1.whole (by rw [HD.out.1]; omega))
    have hRl := HD.out.1
    rw [hRl] at R
    have hsl := strip_le (M.set X.length cc)
    rw [hRl] at hsl
    clear hz hlt hk hml hml2 hml3 hRl hcc
    go_wp2_with fail
    refine (size_any _ (M.set X.length cc) _ R.out).mono ?_
    rintro e w' ⟨rfl, rfl⟩
    go_wp2_with fail
    go_ret
    exact add_done HD.out.1 HD.out.2 rfl HS.out.1 HBL.out (grown_set HGR.out HS.out.2) (by omega) (by rw [HVX.out, HVY.out]) (by omega)
set_option maxRecDepth 100000 in
set_option maxHeartbeats 1000000 in
theorem mulAdd_any (xs ys zs : List Nat) (v u t : Value) (w : World) (hl : xs.length + ys.length < 274877906944) (hlz : zs.length ≤ 274877906944) (hv : Rd w v xs) (hu : Rd w u ys) (ht : Rd w t zs) :
  Calls Tryz.prog 333 #[v, u, t] w (NumPost (val xs * val ys + val zs) (max (xs.length + ys.length) zs.length + 1) w) := by
 have HV := Lib.hid hv
 have HU := Lib.hid hu
 have HT := Lib.hid ht
 clear hv hu ht
 go_enter Tryz.func333, Tryz.ntmps333
 go_wp2_with fail
 refine (product_any xs ys _ _ _ hl HV.out HU.out).mono ?_
 rintro e w1 ⟨g, M, rfl, hg, hM, hml, hmv, hb⟩
 have q1 := strip_le xs
 have q2 := strip_le ys
 have q3 := strip_le zs
 have q4 := strip_le M
 have hMl : M.length ≤ xs.length + ys.length := by omega
 have R := Lib.hid (hM.whole (by omega))
 have HB := Lib.hid hb
 have HMV := Lib.hid hmv
 have HT1 := Lib.hid (HT.out.below hb)
 clear hM hml hmv hb
 go_wp2_with fail
 refine (natAdd_any M zs _ _ _ (by omega) hlz R.out HT1.out).mono ?_
 rintro e w2 ⟨v2, rs, rfl, h1, h2, h3, h4, h5⟩
 have H1 := Lib.hid (h1.mono HB.out.size)
 have H2 : Hid (val rs = val xs * val ys + val zs) := by show _ = _; rw [h2, HMV.out]
 have H3 : Hid (rs.length ≤ max (xs.length + ys.length) zs.length + 1) := by show _ ≤ _; omega
 have H4 := Lib.hid h4
 have H5 : Hid (Below w.heap.size w w2) := HB.out.trans (h5.mono HB.out.size)
 clear h1 h2 h3 h4 h5
 go_wp2_with fail
 go_ret
 exact ⟨_, rs, rfl, H1.out, H2.out, H3.out, H4.out, H5.out⟩
end Go.Proofs.YtceggplnggkdnaaGreatDoor
namespace Go.Proofs.YtceggplnggkdnaaGreatDoor
open Go.RowKit NatP
def bitsN (xs : List Nat) : Nat := if (strip xs).length = 0 then 0 else 64 * ((strip xs).length - 1) + Lib.bitLen ((strip xs).getD ((strip xs).length - 1) 0)
theorem bitLen_bounds {x : Nat} (h0 : 0 < x) (h : x < BB) : 1 ≤ Lib.bitLen x ∧ Lib.bitLen x ≤ 64 ∧ 2 ^ (Lib.bitLen x - 1) ≤ x ∧ x < 2 ^ Lib.bitLen x := by
 have h' : x < 2 ^ 64 := h
 obtain ⟨h1, h2, h3⟩ := Lib.bitLenAux_bounds 64 x h' (by omega)
 exact ⟨h1, Lib.bitLen_le x 64 (Nat.le_refl _) h', h2, h3⟩
theorem bitsN_zero (xs : List Nat) (hok : ok xs) : bitsN xs = 0 ↔ val xs = 0 := by
 rw [← val_strip xs]
 unfold bitsN
 by_cases h : (strip xs).length = 0
 ·rw [if_pos h, List.eq_nil_of_length_eq_zero h]; simp [val]
 ·rw [if_neg h]
  obtain ⟨n, hn⟩ : ∃ n, (strip xs).length = n + 1 := ⟨(strip xs).length - 1, by omega⟩
  obtain ⟨d, hd, hd0⟩ := strip_last xs n hn
  have hdb : d < BB := ok_strip hok d (List.mem_of_getElem? hd)
  rw [hn, Nat.add_sub_cancel, List.getD_eq_getElem?_getD, hd]
  have := bitLen_bounds (Nat.pos_of_ne_zero hd0) hdb
  simp only [Option.getD_some]
  have hs := val_split (strip xs) n (by omega)
  have hdr : (strip xs).drop n = [d] := by
   have h2 : n < (strip xs).length := by omega
   rw [List.drop_eq_getElem_cons h2]
   have h3 := List.getElem?_eq_getElem h2
   rw [hd] at h3
   rw [← Option.some.inj h3, List.drop_eq_nil_of_le (by omega)]
  rw [hdr] at hs
  have hp : 0 < BB ^ n * val [d] := Nat.mul_pos (Nat.pow_pos BB_pos) (by simp [val]; omega)
  omega
set_option maxRecDepth 100000 in
set_option maxHeartbeats 1000000 in
theorem bitLen_any (v : Value) (xs : List Nat) (w : World) (hr : Rd w v xs) (hl : xs.length ≤ 1099511627776) :
  Calls Tryz.prog 189 #[v] w fun e w' => e = .returned (.int .i64 (bitsN xs : Nat)) ∧ w = w' := by
 have HR := Lib.hid hr
 obtain ⟨ao, cap, rfl, hnc, hcm, hok, hsh⟩ := hr.2
 have HSH := Lib.hid hsh
 have HOK := Lib.hid hok
 have hle := strip_le xs
 obtain ⟨n, hn⟩ : ∃ n, n = (strip xs).length := ⟨_, rfl⟩
 rw [← hn] at hle
 have HN := Lib.hid hn
 clear hsh hok hcm hr
 by_cases h0 : n = 0
 ·have hb : bitsN xs = 0 := by unfold bitsN; rw [if_pos (by omega)]
  have HB := Lib.hid hb
  subst h0
  clear hb hn
  go_enter Tryz.func189, Tryz.ntmps189
  go_wp2_with fail
  refine (size_any _ xs _ HR.out).mono ?_
  rintro e w' ⟨rfl, rfl⟩
  rw [← HN.out]
  go_wp2_with fail
  go_ret
  exact ⟨by rw [HB.out]; rfl, rfl⟩
 ·obtain ⟨m, rfl⟩ : ∃ m, n = m + 1 := ⟨n - 1, by omega⟩
  obtain ⟨d, hd, hd0⟩ := strip_last xs m hn.symm
  have hdx : xs[m]? = some d := by
   rw [(strip_take xs).1, List.getElem?_take] at hd
   split at hd
   ·exact hd
   ·cases hd
  have hdb := HOK.out d (List.mem_of_getElem? hdx)
  have hb : bitsN xs = 64 * m + Lib.bitLen d := by
   unfold bitsN
   rw [if_neg (by omega), ← hn, Nat.add_sub_cancel, List.getD_eq_getElem?_getD, hd]; rfl
  have hbl := (bitLen_bounds (Nat.pos_of_ne_zero hd0) hdb).2.1
  obtain ⟨k, hk⟩ : ∃ k, k = Lib.bitLen d := ⟨_, rfl⟩
  rw [← hk] at hb hbl
  obtain ⟨g, o, rfl, e1⟩ := HSH.out m d hdx
  have HB := Lib.hid hb
  have HK := Lib.hid hk
  have HDB := Lib.hid hdb
  clear hb hd hdx hk hdb hn hd0
  go_enter Tryz.func189, Tryz.ntmps189
  go_wp2_with fail
  refine (size_any _ xs _ HR.out).mono ?_
  rintro e w' ⟨rfl, rfl⟩
  rw [← HN.out]
  go_wp2_with fail
  refine (Tryz.bits_Len64 (d : Int) _ (by omega) (by have := HDB.out; unfold BB at this; omega)).mono ?_
  rintro e w1 ⟨rfl, rfl⟩
  rw [Int.toNat_natCast, ← HK.out]
  go_wp2_with fail
  go_ret
  exact ⟨by rw [HB.out]; exact ret_i64' (by omega), rfl⟩
end Go.Proofs.YtceggplnggkdnaaGreatDoor
namespace Go.Proofs.YtceggplnggkdnaaGreatDoor
open NatP
theorem bitsV_of {n k : Nat} (h1 : 2 ^ k ≤ n) (h2 : n < 2 ^ (k + 1)) : SynP.bitsV n = k + 1 := by
 have h0 : n ≠ 0 := by have := Nat.pow_pos (n := k) (show 0 < 2 by omega); omega
 unfold SynP.bitsV
 rw [if_neg h0]
 have a := (Nat.le_log2 h0).2 h1
 have b := (Nat.log2_lt h0).2 h2
 omega
theorem lt_bits (n : Nat) : n < 2 ^ SynP.bitsV n := by
 unfold SynP.bitsV
 by_cases h : n = 0
 ·rw [if_pos h, h]; decide
 ·rw [if_neg h]; exact Nat.lt_log2_self
theorem bitsN_val (xs : List Nat) (hok : ok xs) : bitsN xs = SynP.bitsV (val xs) := by
 rw [← val_strip xs]
 unfold bitsN
 by_cases h : (strip xs).length = 0
 ·rw [if_pos h, List.eq_nil_of_length_eq_zero h]; rfl
 ·rw [if_neg h]
  obtain ⟨n, hn⟩ : ∃ n, (strip xs).length = n + 1 := ⟨(strip xs).length - 1, by omega⟩
  obtain ⟨d, hd, hd0⟩ := strip_last xs n hn
  have hdb : d < BB := ok_strip hok d (List.mem_of_getElem? hd)
  rw [hn, Nat.add_sub_cancel, List.getD_eq_getElem?_getD, hd]
  obtain ⟨b1, b2, b3, b4⟩ := bitLen_bounds (Nat.pos_of_ne_zero hd0) hdb
  simp only [Option.getD_some]
  have hs := val_split (strip xs) n (by omega)
  have hdr : (strip xs).drop n = [d] := by
   have h2 : n < (strip xs).length := by omega
   rw [List.drop_eq_getElem_cons h2]
   have h3 := List.getElem?_eq_getElem h2
   rw [hd] at h3
   rw [← Option.some.inj h3, List.drop_eq_nil_of_le (by omega)]
  have hv : val [d] = d := by simp [val]
  rw [hdr, hv] at hs
  have hlt := val_lt (ok_take (ok_strip hok) n)
  rw [List.length_take, Nat.min_eq_left (by omega)] at hlt
  have hBB : BB ^ n = 2 ^ (64 * n) := by rw [Nat.pow_mul]; rfl
  rw [hBB] at hs hlt
  generalize val (List.take n (strip xs)) = L at hs hlt
  generalize val (strip xs) = V at hs ⊢
  obtain ⟨k, hk⟩ : ∃ k, Lib.bitLen d = k + 1 := ⟨Lib.bitLen d - 1, by omega⟩
  rw [hk] at b3 b4 ⊢
  rw [Nat.add_sub_cancel] at b3
  rw [← Nat.add_assoc]
  symm
  refine bitsV_of ?_ ?_
  ·rw [Nat.pow_add]
   have := Nat.mul_le_mul_left (2 ^ (64 * n)) b3
   omega
  ·rw [Nat.add_assoc, Nat.pow_add]
   have h5 := Nat.mul_le_mul_left (2 ^ (64 * n)) (show d + 1 ≤ 2 ^ (k + 1) from b4)
   rw [Nat.mul_add, Nat.mul_one] at h5
   omega
theorem foldl_max {f : Bool × Nat → Nat} : ∀ (l : List (Bool × Nat)) (a : Nat), a ≤ l.foldl (fun a p => max a (f p)) a ∧ ∀ p ∈ l, f p ≤ l.foldl (fun a p => max a (f p)) a
 | [], a => ⟨Nat.le_refl _, fun p hp => by cases hp⟩
 | q :: l, a => by
  obtain ⟨h1, h2⟩ := foldl_max l (max a (f q))
  refine ⟨Nat.le_trans (Nat.le_max_left _ _) h1, fun p hp => ?_⟩
  rcases List.mem_cons.1 hp with rfl | hp
  ·exact Nat.le_trans (Nat.le_max_right _ _) h1
  ·exact h2 p hp
theorem ent_lt (m : SynP.MatV) (k : Nat) : (SynP.ent m k).2 < 2 ^ SynP.mbits m := by
 unfold SynP.ent
 rw [List.getD_eq_getElem?_getD]
 cases h : m.at_[k]? with
 | none => simp only [Option.getD_none]; exact Nat.pow_pos (by omega)
 | some p =>
  simp only [Option.getD_some]
  have h1 : SynP.bitsV p.2 ≤ SynP.mbits m := (foldl_max (f := fun p => SynP.bitsV p.2) m.at_ 0).2 p (List.mem_of_getElem? h)
  exact Nat.lt_of_lt_of_le (lt_bits p.2) (Nat.pow_le_pow_right (by omega) h1)
theorem zi_abs (p : Bool × Nat) : (SynP.zi p).natAbs = p.2 := by
 unfold SynP.zi; split <;> omega
theorem dotK_le (a b : SynP.MatV) (i j : Nat) : ∀ k, (SynP.dotK a b i j k).natAbs ≤ k * (2 ^ SynP.mbits a * 2 ^ SynP.mbits b)
 | 0 => by simp [SynP.dotK]
 | k + 1 => by
  have ih := dotK_le a b i j k
  have h1 : (SynP.zi (SynP.ent a (i * a.cols + k)) * SynP.zi (SynP.ent b (k * b.cols + j))).natAbs ≤ 2 ^ SynP.mbits a * 2 ^ SynP.mbits b := by
   rw [Int.natAbs_mul, zi_abs, zi_abs]
   exact Nat.mul_le_mul (Nat.le_of_lt (ent_lt a _)) (Nat.le_of_lt (ent_lt b _))
  unfold SynP.dotK
  have h2 := Int.natAbs_add_le (SynP.zi (SynP.ent a (i * a.cols + k)) * SynP.zi (SynP.ent b (k * b.cols + j))) (SynP.dotK a b i j k)
  rw [Nat.succ_mul]
  omega
theorem dotK_lt (a b : SynP.MatV) {N : Nat} (h : SynP.mbits a + SynP.mbits b + SynP.bitsV a.cols ≤ N) (i j k : Nat) (hk : k ≤ a.cols) : (SynP.dotK a b i j k).natAbs < 2 ^ N := by
 have h1 := dotK_le a b i j k
 have h2 := lt_bits a.cols
 have h3 : k * (2 ^ SynP.mbits a * 2 ^ SynP.mbits b) < 2 ^ SynP.bitsV a.cols * (2 ^ SynP.mbits a * 2 ^ SynP.mbits b) :=
  Nat.mul_lt_mul_of_pos_right (by omega) (Nat.mul_pos (Nat.pow_pos (by omega)) (Nat.pow_pos (by omega)))
 have h4 : 2 ^ SynP.bitsV a.cols * (2 ^ SynP.mbits a * 2 ^ SynP.mbits b) ≤ 2 ^ N := by
  rw [← Nat.pow_add, ← Nat.pow_add]; exact Nat.pow_le_pow_right (by omega) (by omega)
 exact Nat.lt_of_le_of_lt h1 (Nat.lt_of_lt_of_le h3 h4)
theorem few_words {xs : List Nat} {N : Nat} (hN : N ≤ 4096) (hok : ok xs) (hs : strip xs = xs) (h : val xs < 2 ^ N) : xs.length ≤ 64 := by
 refine Decidable.byContradiction fun hn => ?_
 obtain ⟨m, hm⟩ : ∃ m, xs.length = m + 1 := ⟨xs.length - 1, by omega⟩
 obtain ⟨d, hd, hd0⟩ := strip_last xs m (by rw [hs]; exact hm)
 rw [hs] at hd
 obtain ⟨hl, he⟩ := List.getElem?_eq_some_iff.1 hd
 have h1 := val_split xs m (by omega)
 rw [List.drop_eq_getElem_cons hl, he] at h1
 have h2 : BB ^ m * 1 ≤ BB ^ m * (d + BB * val (xs.drop (m + 1))) := Nat.mul_le_mul_left _ (by omega)
 have h3 : val xs = val (xs.take m) + BB ^ m * (d + BB * val (xs.drop (m + 1))) := h1
 have h4 : 2 ^ N ≤ BB ^ m := by
  rw [show BB = 2 ^ 64 from rfl, ← Nat.pow_mul]
  exact Nat.pow_le_pow_right (by omega) (by omega)
 omega
end Go.Proofs.YtceggplnggkdnaaGreatDoor
