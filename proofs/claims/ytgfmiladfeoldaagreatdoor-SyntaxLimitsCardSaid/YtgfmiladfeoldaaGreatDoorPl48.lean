/- Joined texts of this claim's proof: LimL1, LimL2, LimL3. -/
import Derived.Test.YtgfmiladfeoldaaGreatDoorPl47
set_option linter.unusedSimpArgs false
set_option linter.unusedVariables false
namespace Go.Proofs.YtgfmiladfeoldaaGreatDoor
open Go.RowKit NatP LexP
set_option maxHeartbeats 8000000
set_option maxRecDepth 100000 in
theorem limits_1 (x : Int) (hsm : ∀ w, Calls Tryz.prog 17 #[.int .i64 x, .int .i64 3] w fun e w' => e = .returned (.int .i64 1) ∧ w = w') (w : World) (hx : Lx w) (hs : SG w) (hsz : 4 < w.heap.size) :
  Calls Tryz.prog 10 #[.int .i64 x] w fun e w' => e = .returned (.bool true) ∧ Below w.heap.size w w' := by
 have HX := Lib.hid hx
 have HS := Lib.hid hs
 have HW := Lib.hid (wakes_any w hx hs hsz)
 have HSM := Lib.hid hsm
 clear hx hs hsm
 obtain ⟨T1, hT1⟩ : ∃ T : ByteArray, T = ⟨(SynP.timesB [40] 100).toArray⟩ := ⟨_, rfl⟩
 have CT1 : Hid (∀ w, Calls Tryz.prog 40 #[.string ⟨#[40]⟩, .int .i64 100] w fun e w' => e = .returned (.string T1) ∧ Below w.heap.size w w') := fun w => by rw [hT1]; exact times_any [40] 100 w (by decide) (by decide)
 have zT1 : T1.size = 100 := by rw [hT1, Lib.size_eq]; show (SynP.timesB _ _).length = _; rw [SynP.timesB_len]; rfl
 obtain ⟨T2, hT2⟩ : ∃ T : ByteArray, T = ⟨(SynP.timesB [41] 100).toArray⟩ := ⟨_, rfl⟩
 have CT2 : Hid (∀ w, Calls Tryz.prog 40 #[.string ⟨#[41]⟩, .int .i64 100] w fun e w' => e = .returned (.string T2) ∧ Below w.heap.size w w') := fun w => by rw [hT2]; exact times_any [41] 100 w (by decide) (by decide)
 have zT2 : T2.size = 100 := by rw [hT2, Lib.size_eq]; show (SynP.timesB _ _).length = _; rw [SynP.timesB_len]; rfl
 obtain ⟨T3, hT3⟩ : ∃ T : ByteArray, T = ⟨(SynP.timesB [32, 43, 32, 98] 2047).toArray⟩ := ⟨_, rfl⟩
 have CT3 : Hid (∀ w, Calls Tryz.prog 40 #[.string ⟨#[32, 43, 32, 98]⟩, .int .i64 2047] w fun e w' => e = .returned (.string T3) ∧ Below w.heap.size w w') := fun w => by rw [hT3]; exact times_any [32, 43, 32, 98] 2047 w (by decide) (by decide)
 have zT3 : T3.size = 8188 := by rw [hT3, Lib.size_eq]; show (SynP.timesB _ _).length = _; rw [SynP.timesB_len]; rfl
 obtain ⟨T4, hT4⟩ : ∃ T : ByteArray, T = ⟨(SynP.timesB [49, 32] 63).toArray⟩ := ⟨_, rfl⟩
 have CT4 : Hid (∀ w, Calls Tryz.prog 40 #[.string ⟨#[49, 32]⟩, .int .i64 63] w fun e w' => e = .returned (.string T4) ∧ Below w.heap.size w w') := fun w => by rw [hT4]; exact times_any [49, 32] 63 w (by decide) (by decide)
 have zT4 : T4.size = 126 := by rw [hT4, Lib.size_eq]; show (SynP.timesB _ _).length = _; rw [SynP.timesB_len]; rfl
 obtain ⟨T5, hT5⟩ : ∃ T : ByteArray, T = ⟨(SynP.timesB [49, 59] 62).toArray⟩ := ⟨_, rfl⟩
 have CT5 : Hid (∀ w, Calls Tryz.prog 40 #[.string ⟨#[49, 59]⟩, .int .i64 62] w fun e w' => e = .returned (.string T5) ∧ Below w.heap.size w w') := fun w => by rw [hT5]; exact times_any [49, 59] 62 w (by decide) (by decide)
 have zT5 : T5.size = 124 := by rw [hT5, Lib.size_eq]; show (SynP.timesB _ _).length = _; rw [SynP.timesB_len]; rfl
 obtain ⟨I1, hI1⟩ : ∃ T : ByteArray, T = ⟨#[54, 51]⟩ := ⟨_, rfl⟩
 have CI1 : Hid (∀ w, Calls Tryz.prog 41 #[.int .i64 63] w fun e w' => e = .returned (.string I1) ∧ w' = w) := fun w => by rw [hI1]; exact (show Lib.decDigits 63 = [54, 51] by kernel_rfl) ▸ Tryz.strconv_Itoa_small 63 (by decide) w
 have zI1 : I1.size = 2 := by rw [hI1]; rfl
 obtain ⟨I2, hI2⟩ : ∃ T : ByteArray, T = ⟨#[49]⟩ := ⟨_, rfl⟩
 have CI2 : Hid (∀ w, Calls Tryz.prog 41 #[.int .i64 1] w fun e w' => e = .returned (.string I2) ∧ w' = w) := fun w => by rw [hI2]; exact (show Lib.decDigits 1 = [49] by kernel_rfl) ▸ Tryz.strconv_Itoa_small 1 (by decide) w
 have zI2 : I2.size = 1 := by rw [hI2]; rfl
 have HP1 : Hid (PaC ((⟨#[112, 114, 105, 110, 116, 32]⟩ : ByteArray) ++ T1 ++ (⟨#[55]⟩ : ByteArray) ++ T2) (SynP.brT 100)) := paC (by rw [app_list, app_list, app_list, hT1, hT2]; rfl) (by decide)
 have HP2 : Hid (PaC ((⟨#[112, 114, 105, 110, 116, 32, 97]⟩ : ByteArray) ++ T3) (SynP.printB ++ [32, 97] ++ SynP.timesB [32, 43, 32, 98] 2047)) := paC (by rw [app_list, hT3]; rfl) (by rw [List.length_append, SynP.timesB_len]; decide)
 have HR1 : Hid (RmC ((⟨#[91]⟩ : ByteArray) ++ I1 ++ (⟨#[58]⟩ : ByteArray) ++ I2 ++ (⟨#[93]⟩ : ByteArray)) [91, 54, 51, 58, 49, 93]) := rmC (by rw [app_list, app_list, app_list, app_list, hI1, hI2]; rfl) (by decide)
 have HR2 : Hid (RmC ((⟨#[91]⟩ : ByteArray) ++ T4 ++ (⟨#[93]⟩ : ByteArray)) (SynP.rowB 63)) := rmC (by rw [app_list, app_list, hT4]; rfl) (by decide)
 have HR3 : Hid (RmC ((⟨#[91]⟩ : ByteArray) ++ T5 ++ (⟨#[49, 93]⟩ : ByteArray)) (SynP.colB 62)) := rmC (by rw [app_list, app_list, hT5]; rfl) (by decide)
 have HPE : Hid ((⟨(SynP.sumL 2047).pr.toArray⟩ : ByteArray) = (⟨#[112, 114, 105, 110, 116, 32, 97]⟩ : ByteArray) ++ T3) := by show _ = _; rw [SynP.sumL_pr, ba_eq (show ((⟨#[112, 114, 105, 110, 116, 32, 97]⟩ : ByteArray) ++ T3).data.toList = SynP.printB ++ [32, 97] ++ SynP.timesB [32, 43, 32, 98] 2047 by rw [app_list, hT3]; rfl)]
 have m0 : ¬ 9223372036854775807 < 6 + T1.size := by omega
 have m1 : ¬ 9223372036854775807 < 6 + T1.size + 1 := by omega
 have m2 : ¬ 9223372036854775807 < 6 + T1.size + 1 + T2.size := by omega
 have m3 : ¬ 9223372036854775807 < 7 + T3.size := by omega
 have m4 : ¬ 9223372036854775807 < 1 + I1.size := by omega
 have m5 : ¬ 9223372036854775807 < 1 + I1.size + 1 := by omega
 have m6 : ¬ 9223372036854775807 < 1 + I1.size + 1 + I2.size := by omega
 have m7 : ¬ 9223372036854775807 < 1 + I1.size + 1 + I2.size + 1 := by omega
 have m8 : ¬ 9223372036854775807 < 1 + T4.size := by omega
 have m9 : ¬ 9223372036854775807 < 1 + T4.size + 1 := by omega
 have m10 : ¬ 9223372036854775807 < 1 + T5.size := by omega
 have m11 : ¬ 9223372036854775807 < 1 + T5.size + 2 := by omega
 clear hT1 hT2 hT3 hT4 hT5 hI1 hI2 zT1 zT2 zT3 zT4 zT5 zI1 zI2
 go_enter Tryz.func10, Tryz.ntmps10
 go_wp2_with fail
 refine HW.out.mono ?_
 rintro e w1 ⟨rfl, hb1⟩
 have HB1 := Lib.hid hb1
 have hsz1 : 4 < w1.heap.size := Nat.lt_of_lt_of_le hsz hb1.size
 have HX1 := Lib.hid (HX.out.below hb1)
 have HS1 := Lib.hid (HS.out.below hb1 hsz)
 clear hb1 HX HS HW
 go_wp2_with fail
 refine (HSM.out _).mono ?_
 rintro e w2 ⟨rfl, rfl⟩
 go_wp2_with fail
 refine (CT1.out _).mono ?_
 rintro e w2 ⟨rfl, hb2⟩
 have HB2 := Lib.hid (below_next HB1.out hb2)
 have hsz2 : 4 < w2.heap.size := Nat.lt_of_lt_of_le hsz1 hb2.size
 have HX2 := Lib.hid (HX1.out.below hb2)
 have HS2 := Lib.hid (HS1.out.below hb2 hsz1)
 clear hb2
 go_wp2_with fail
 refine (CT2.out _).mono ?_
 rintro e w3 ⟨rfl, hb3⟩
 have HB3 := Lib.hid (below_next HB2.out hb3)
 have hsz3 : 4 < w3.heap.size := Nat.lt_of_lt_of_le hsz2 hb3.size
 have HX3 := Lib.hid (HX2.out.below hb3)
 have HS3 := Lib.hid (HS2.out.below hb3 hsz2)
 clear hb3
 go_wp2_with fail
 refine (pa_ok HP1.out SynP.br_100 (k := 2) rfl _ HX3.out HS3.out hsz3).mono ?_
 rintro e w4 ⟨ao, cap, rfl, hb4, -⟩
 have HB4 := Lib.hid (below_next HB3.out hb4)
 have hsz4 : 4 < w4.heap.size := Nat.lt_of_lt_of_le hsz3 hb4.size
 have HX4 := Lib.hid (HX3.out.below hb4)
 have HS4 := Lib.hid (HS3.out.below hb4 hsz3)
 clear hb4
 go_wp2_with fail
 refine (CT3.out _).mono ?_
 rintro e w5 ⟨rfl, hb5⟩
 have HB5 := Lib.hid (below_next HB4.out hb5)
 have hsz5 : 4 < w5.heap.size := Nat.lt_of_lt_of_le hsz4 hb5.size
 have HX5 := Lib.hid (HX4.out.below hb5)
 have HS5 := Lib.hid (HS4.out.below hb5 hsz4)
 clear hb5
 go_wp2_with fail
 refine (pa_ok HP2.out (sum_ok (by decide)) (k := 4096) (SynP.sumL_size _) _ HX5.out HS5.out hsz5).mono ?_
 rintro e w6 ⟨ao2, cap2, rfl, hb6, HNA⟩
 have HB6 := Lib.hid (below_next HB5.out hb6)
 have hsz6 : 4 < w6.heap.size := Nat.lt_of_lt_of_le hsz5 hb6.size
 have HX6 := Lib.hid (HX5.out.below hb6)
 have HS6 := Lib.hid (HS5.out.below hb6 hsz5)
 clear hb6
 go_wp2_with fail
 refine (copy_any _ (SynP.nL (SynP.sumL 2047).flat) _ (fit_len (sumL_fit (by decide))) (fit_kids (sumL_fit (by decide))) HNA.out).mono ?_
 rintro e w7 ⟨u7, rfl, hn7, hb7⟩
 have HN7 := Lib.hid hn7
 have HB7 := Lib.hid (below_next HB6.out hb7)
 have hsz7 : 4 < w7.heap.size := Nat.lt_of_lt_of_le hsz6 hb7.size
 have HX7 := Lib.hid (HX6.out.below hb7)
 have HS7 := Lib.hid (HS6.out.below hb7 hsz6)
 clear hb7 hn7 HNA
 go_wp2_with fail
 refine (print_good (SynP.sumL 2047) u7 _ _ (sumL_fit (by decide)) HN7.out (Nat.le_refl _) HX7.out HS7.out hsz7).mono ?_
 rintro e w8 ⟨he, hb8⟩
 rw [if_neg (by rw [SynP.sumL_dp]; decide), HPE.out] at he
 subst he
 have HB8 := Lib.hid (below_next HB7.out hb8)
 have hsz8 : 4 < w8.heap.size := Nat.lt_of_lt_of_le hsz7 hb8.size
 have HX8 := Lib.hid (HX7.out.below hb8)
 have HS8 := Lib.hid (HS7.out.below hb8 hsz7)
 clear hb8
 go_wp2_with fail
 refine (CT3.out _).mono ?_
 rintro e w9 ⟨rfl, hb9⟩
 have HB9 := Lib.hid (below_next HB8.out hb9)
 have hsz9 : 4 < w9.heap.size := Nat.lt_of_lt_of_le hsz8 hb9.size
 have HX9 := Lib.hid (HX8.out.below hb9)
 have HS9 := Lib.hid (HS8.out.below hb9 hsz8)
 clear hb9
 go_wp2_with fail
 refine (CI1.out _).mono ?_
 rintro e w10 ⟨rfl, rfl⟩
 go_wp2_with fail
 refine (CI2.out _).mono ?_
 rintro e w10 ⟨rfl, rfl⟩
 go_wp2_with fail
 refine (rm_ok HR1.out SynP.shp_63 _ HX9.out HS9.out hsz9).mono ?_
 rintro e w10 ⟨aoa, capa, rfl, hb10⟩
 simp only [List.length_replicate, List.length_nil]
 have HB10 := Lib.hid (below_next HB9.out hb10)
 have hsz10 : 4 < w10.heap.size := Nat.lt_of_lt_of_le hsz9 hb10.size
 have HX10 := Lib.hid (HX9.out.below hb10)
 have HS10 := Lib.hid (HS9.out.below hb10 hsz9)
 clear hb10
 go_wp2_with fail
 obtain ⟨w11, hw11⟩ : ∃ w11, w11 = w10.alloc (.cells #[.int .i64 63, .int .i64 1, .slice aoa 63 capa] 47) := ⟨_, rfl⟩
 rw [← hw11]
 obtain ⟨ga, hga⟩ : ∃ ga, ga = w10.heap.size := ⟨_, rfl⟩
 rw [← hga]
 have ha11 : w11.heap[ga]? = some (.cells #[.int .i64 63, .int .i64 1, .slice aoa 63 capa] 47 (0, 0)) := by rw [hw11, hga]; exact heap_alloc_new _ _
 have hb11 : Below w10.heap.size w10 w11 := by rw [hw11]; exact below_alloc _ _
 have HB11 := Lib.hid (below_next HB10.out hb11)
 have hsz11 : 4 < w11.heap.size := Nat.lt_of_lt_of_le hsz10 hb11.size
 have HX11 := Lib.hid (HX10.out.below hb11)
 have HS11 := Lib.hid (HS10.out.below hb11 hsz10)
 have HA11 := Lib.hid ha11
 clear hb11 hw11 hga ha11
 refine (CT4.out _).mono ?_
 rintro e w12 ⟨rfl, hb12⟩
 have HB12 := Lib.hid (below_next HB11.out hb12)
 have hsz12 : 4 < w12.heap.size := Nat.lt_of_lt_of_le hsz11 hb12.size
 have HX12 := Lib.hid (HX11.out.below hb12)
 have HS12 := Lib.hid (HS11.out.below hb12 hsz11)
 have HA12 := Lib.hid ((hb12.block ga (Array.getElem?_eq_some_iff.1 HA11.out).1).trans HA11.out)
 clear hb12
 go_wp2_with fail
 refine (rm_ok HR2.out SynP.row_63 _ HX12.out HS12.out hsz12).mono ?_
 rintro e w13 ⟨aob, capb, rfl, hb13⟩
 simp only [List.length_replicate, List.length_nil]
 have HB13 := Lib.hid (below_next HB12.out hb13)
 have hsz13 : 4 < w13.heap.size := Nat.lt_of_lt_of_le hsz12 hb13.size
 have HX13 := Lib.hid (HX12.out.below hb13)
 have HS13 := Lib.hid (HS12.out.below hb13 hsz12)
 have HA13 := Lib.hid ((hb13.block ga (Array.getElem?_eq_some_iff.1 HA12.out).1).trans HA12.out)
 clear hb13
 go_wp2_with fail
 obtain ⟨w14, hw14⟩ : ∃ w14, w14 = w13.alloc (.cells #[.int .i64 1, .int .i64 63, .slice aob 63 capb] 47) := ⟨_, rfl⟩
 rw [← hw14]
 obtain ⟨gb, hgb⟩ : ∃ gb, gb = w13.heap.size := ⟨_, rfl⟩
 rw [← hgb]
 have hd14 : w14.heap[gb]? = some (.cells #[.int .i64 1, .int .i64 63, .slice aob 63 capb] 47 (0, 0)) := by rw [hw14, hgb]; exact heap_alloc_new _ _
 have hb14 : Below w13.heap.size w13 w14 := by rw [hw14]; exact below_alloc _ _
 have HB14 := Lib.hid (below_next HB13.out hb14)
 have hsz14 : 4 < w14.heap.size := Nat.lt_of_lt_of_le hsz13 hb14.size
 have HX14 := Lib.hid (HX13.out.below hb14)
 have HS14 := Lib.hid (HS13.out.below hb14 hsz13)
 have HA14 := Lib.hid ((hb14.block ga (Array.getElem?_eq_some_iff.1 HA13.out).1).trans HA13.out)
 have HD14 := Lib.hid hd14
 clear hb14 hw14 hgb hd14
 refine (CT5.out _).mono ?_
 rintro e w15 ⟨rfl, hb15⟩
 have HB15 := Lib.hid (below_next HB14.out hb15)
 have hsz15 : 4 < w15.heap.size := Nat.lt_of_lt_of_le hsz14 hb15.size
 have HX15 := Lib.hid (HX14.out.below hb15)
 have HS15 := Lib.hid (HS14.out.below hb15 hsz14)
 have HA15 := Lib.hid ((hb15.block ga (Array.getElem?_eq_some_iff.1 HA14.out).1).trans HA14.out)
 have HD15 := Lib.hid ((hb15.block gb (Array.getElem?_eq_some_iff.1 HD14.out).1).trans HD14.out)
 clear hb15
 go_wp2_with fail
 refine (rm_ok HR3.out SynP.col_63 _ HX15.out HS15.out hsz15).mono ?_
 rintro e w16 ⟨aoc, capc, rfl, hb16⟩
 simp only [List.length_replicate, List.length_nil]
 have HB16 := Lib.hid (below_next HB15.out hb16)
 have HA16 := (hb16.block ga (Array.getElem?_eq_some_iff.1 HA15.out).1).trans HA15.out
 have HD16 := (hb16.block gb (Array.getElem?_eq_some_iff.1 HD15.out).1).trans HD15.out
 clear hb16
 have hal := (Array.getElem?_eq_some_iff.1 HA16).1
 have hdl := (Array.getElem?_eq_some_iff.1 HD16).1
 obtain ⟨a0, a1, a2⟩ := cell3 HA16
 obtain ⟨d0, d1, d2⟩ := cell3 HD16
 clear HA16 HD16
 go_wp2_with fail
 go_ret
 exact ⟨rfl, HB16.out.alloc HB16.out.size _⟩
end Go.Proofs.YtgfmiladfeoldaaGreatDoor
namespace Go.Proofs.YtgfmiladfeoldaaGreatDoor
open Go.RowKit NatP LexP
set_option maxHeartbeats 8000000
set_option maxRecDepth 100000 in
theorem limits_2 (x : Int) (hsm : ∀ w, Calls Tryz.prog 17 #[.int .i64 x, .int .i64 3] w fun e w' => e = .returned (.int .i64 2) ∧ w = w') (w : World) (hx : Lx w) (hs : SG w) (hsz : 4 < w.heap.size) :
  Calls Tryz.prog 10 #[.int .i64 x] w fun e w' => e = .returned (.bool true) ∧ Below w.heap.size w w' := by
 have HX := Lib.hid hx
 have HS := Lib.hid hs
 have HW := Lib.hid (wakes_any w hx hs hsz)
 have HSM := Lib.hid hsm
 clear hx hs hsm
 obtain ⟨T1, hT1⟩ : ∃ T : ByteArray, T = ⟨(SynP.timesB [40] 101).toArray⟩ := ⟨_, rfl⟩
 have CT1 : Hid (∀ w, Calls Tryz.prog 40 #[.string ⟨#[40]⟩, .int .i64 101] w fun e w' => e = .returned (.string T1) ∧ Below w.heap.size w w') := fun w => by rw [hT1]; exact times_any [40] 101 w (by decide) (by decide)
 have zT1 : T1.size = 101 := by rw [hT1, Lib.size_eq]; show (SynP.timesB _ _).length = _; rw [SynP.timesB_len]; rfl
 obtain ⟨T2, hT2⟩ : ∃ T : ByteArray, T = ⟨(SynP.timesB [41] 101).toArray⟩ := ⟨_, rfl⟩
 have CT2 : Hid (∀ w, Calls Tryz.prog 40 #[.string ⟨#[41]⟩, .int .i64 101] w fun e w' => e = .returned (.string T2) ∧ Below w.heap.size w w') := fun w => by rw [hT2]; exact times_any [41] 101 w (by decide) (by decide)
 have zT2 : T2.size = 101 := by rw [hT2, Lib.size_eq]; show (SynP.timesB _ _).length = _; rw [SynP.timesB_len]; rfl
 obtain ⟨T3, hT3⟩ : ∃ T : ByteArray, T = ⟨(SynP.timesB [32, 43, 32, 98] 2048).toArray⟩ := ⟨_, rfl⟩
 have CT3 : Hid (∀ w, Calls Tryz.prog 40 #[.string ⟨#[32, 43, 32, 98]⟩, .int .i64 2048] w fun e w' => e = .returned (.string T3) ∧ Below w.heap.size w w') := fun w => by rw [hT3]; exact times_any [32, 43, 32, 98] 2048 w (by decide) (by decide)
 have zT3 : T3.size = 8192 := by rw [hT3, Lib.size_eq]; show (SynP.timesB _ _).length = _; rw [SynP.timesB_len]; rfl
 obtain ⟨T4, hT4⟩ : ∃ T : ByteArray, T = ⟨(SynP.timesB [49, 32] 64).toArray⟩ := ⟨_, rfl⟩
 have CT4 : Hid (∀ w, Calls Tryz.prog 40 #[.string ⟨#[49, 32]⟩, .int .i64 64] w fun e w' => e = .returned (.string T4) ∧ Below w.heap.size w w') := fun w => by rw [hT4]; exact times_any [49, 32] 64 w (by decide) (by decide)
 have zT4 : T4.size = 128 := by rw [hT4, Lib.size_eq]; show (SynP.timesB _ _).length = _; rw [SynP.timesB_len]; rfl
 obtain ⟨T5, hT5⟩ : ∃ T : ByteArray, T = ⟨(SynP.timesB [49, 59] 63).toArray⟩ := ⟨_, rfl⟩
 have CT5 : Hid (∀ w, Calls Tryz.prog 40 #[.string ⟨#[49, 59]⟩, .int .i64 63] w fun e w' => e = .returned (.string T5) ∧ Below w.heap.size w w') := fun w => by rw [hT5]; exact times_any [49, 59] 63 w (by decide) (by decide)
 have zT5 : T5.size = 126 := by rw [hT5, Lib.size_eq]; show (SynP.timesB _ _).length = _; rw [SynP.timesB_len]; rfl
 obtain ⟨I1, hI1⟩ : ∃ T : ByteArray, T = ⟨#[54, 52]⟩ := ⟨_, rfl⟩
 have CI1 : Hid (∀ w, Calls Tryz.prog 41 #[.int .i64 64] w fun e w' => e = .returned (.string I1) ∧ w' = w) := fun w => by rw [hI1]; exact (show Lib.decDigits 64 = [54, 52] by kernel_rfl) ▸ Tryz.strconv_Itoa_small 64 (by decide) w
 have zI1 : I1.size = 2 := by rw [hI1]; rfl
 obtain ⟨I2, hI2⟩ : ∃ T : ByteArray, T = ⟨#[50]⟩ := ⟨_, rfl⟩
 have CI2 : Hid (∀ w, Calls Tryz.prog 41 #[.int .i64 2] w fun e w' => e = .returned (.string I2) ∧ w' = w) := fun w => by rw [hI2]; exact (show Lib.decDigits 2 = [50] by kernel_rfl) ▸ Tryz.strconv_Itoa_small 2 (by decide) w
 have zI2 : I2.size = 1 := by rw [hI2]; rfl
 have HP1 : Hid (PaC ((⟨#[112, 114, 105, 110, 116, 32]⟩ : ByteArray) ++ T1 ++ (⟨#[55]⟩ : ByteArray) ++ T2) (SynP.brT 101)) := paC (by rw [app_list, app_list, app_list, hT1, hT2]; rfl) (by decide)
 have HP2 : Hid (PaC ((⟨#[112, 114, 105, 110, 116, 32, 97]⟩ : ByteArray) ++ T3) (SynP.printB ++ [32, 97] ++ SynP.timesB [32, 43, 32, 98] 2048)) := paC (by rw [app_list, hT3]; rfl) (by rw [List.length_append, SynP.timesB_len]; decide)
 have HR1 : Hid (RmC ((⟨#[91]⟩ : ByteArray) ++ I1 ++ (⟨#[58]⟩ : ByteArray) ++ I2 ++ (⟨#[93]⟩ : ByteArray)) [91, 54, 52, 58, 50, 93]) := rmC (by rw [app_list, app_list, app_list, app_list, hI1, hI2]; rfl) (by decide)
 have HR2 : Hid (RmC ((⟨#[91]⟩ : ByteArray) ++ T4 ++ (⟨#[93]⟩ : ByteArray)) (SynP.rowB 64)) := rmC (by rw [app_list, app_list, hT4]; rfl) (by decide)
 have HR3 : Hid (RmC ((⟨#[91]⟩ : ByteArray) ++ T5 ++ (⟨#[49, 93]⟩ : ByteArray)) (SynP.colB 63)) := rmC (by rw [app_list, app_list, hT5]; rfl) (by decide)
 have m0 : ¬ 9223372036854775807 < 6 + T1.size := by omega
 have m1 : ¬ 9223372036854775807 < 6 + T1.size + 1 := by omega
 have m2 : ¬ 9223372036854775807 < 6 + T1.size + 1 + T2.size := by omega
 have m3 : ¬ 9223372036854775807 < 7 + T3.size := by omega
 have m4 : ¬ 9223372036854775807 < 1 + I1.size := by omega
 have m5 : ¬ 9223372036854775807 < 1 + I1.size + 1 := by omega
 have m6 : ¬ 9223372036854775807 < 1 + I1.size + 1 + I2.size := by omega
 have m7 : ¬ 9223372036854775807 < 1 + I1.size + 1 + I2.size + 1 := by omega
 have m8 : ¬ 9223372036854775807 < 1 + T4.size := by omega
 have m9 : ¬ 9223372036854775807 < 1 + T4.size + 1 := by omega
 have m10 : ¬ 9223372036854775807 < 1 + T5.size := by omega
 have m11 : ¬ 9223372036854775807 < 1 + T5.size + 2 := by omega
 clear hT1 hT2 hT3 hT4 hT5 hI1 hI2 zT1 zT2 zT3 zT4 zT5 zI1 zI2
 go_enter Tryz.func10, Tryz.ntmps10
 go_wp2_with fail
 refine HW.out.mono ?_
 rintro e w1 ⟨rfl, hb1⟩
 have HB1 := Lib.hid hb1
 have hsz1 : 4 < w1.heap.size := Nat.lt_of_lt_of_le hsz hb1.size
 have HX1 := Lib.hid (HX.out.below hb1)
 have HS1 := Lib.hid (HS.out.below hb1 hsz)
 clear hb1 HX HS HW
 go_wp2_with fail
 refine (HSM.out _).mono ?_
 rintro e w2 ⟨rfl, rfl⟩
 go_wp2_with fail
 refine (CT1.out _).mono ?_
 rintro e w2 ⟨rfl, hb2⟩
 have HB2 := Lib.hid (below_next HB1.out hb2)
 have hsz2 : 4 < w2.heap.size := Nat.lt_of_lt_of_le hsz1 hb2.size
 have HX2 := Lib.hid (HX1.out.below hb2)
 have HS2 := Lib.hid (HS1.out.below hb2 hsz1)
 clear hb2
 go_wp2_with fail
 refine (CT2.out _).mono ?_
 rintro e w3 ⟨rfl, hb3⟩
 have HB3 := Lib.hid (below_next HB2.out hb3)
 have hsz3 : 4 < w3.heap.size := Nat.lt_of_lt_of_le hsz2 hb3.size
 have HX3 := Lib.hid (HX2.out.below hb3)
 have HS3 := Lib.hid (HS2.out.below hb3 hsz2)
 clear hb3
 go_wp2_with fail
 refine (pa_er HP1.out SynP.br_101 _ HX3.out HS3.out hsz3).mono ?_
 rintro e w4 ⟨rfl, hb4⟩
 have HB4 := Lib.hid (below_next HB3.out hb4)
 have hsz4 : 4 < w4.heap.size := Nat.lt_of_lt_of_le hsz3 hb4.size
 have HX4 := Lib.hid (HX3.out.below hb4)
 have HS4 := Lib.hid (HS3.out.below hb4 hsz3)
 clear hb4
 go_wp2_with fail
 refine (CT3.out _).mono ?_
 rintro e w5 ⟨rfl, hb5⟩
 have HB5 := Lib.hid (below_next HB4.out hb5)
 have hsz5 : 4 < w5.heap.size := Nat.lt_of_lt_of_le hsz4 hb5.size
 have HX5 := Lib.hid (HX4.out.below hb5)
 have HS5 := Lib.hid (HS4.out.below hb5 hsz4)
 clear hb5
 go_wp2_with fail
 refine (pa_er HP2.out (sum_er (by decide)) _ HX5.out HS5.out hsz5).mono ?_
 rintro e w6 ⟨rfl, hb9⟩
 obtain ⟨w9, hw9⟩ : ∃ w9, w9 = w6 := ⟨_, rfl⟩
 subst hw9
 have HB9 := Lib.hid (below_next HB5.out hb9)
 have hsz9 : 4 < w9.heap.size := Nat.lt_of_lt_of_le hsz5 hb9.size
 have HX9 := Lib.hid (HX5.out.below hb9)
 have HS9 := Lib.hid (HS5.out.below hb9 hsz5)
 clear hb9
 go_wp2_with fail
 refine (CI1.out _).mono ?_
 rintro e w10 ⟨rfl, rfl⟩
 go_wp2_with fail
 refine (CI2.out _).mono ?_
 rintro e w10 ⟨rfl, rfl⟩
 go_wp2_with fail
 refine (rm_ok HR1.out SynP.shp_64 _ HX9.out HS9.out hsz9).mono ?_
 rintro e w10 ⟨aoa, capa, rfl, hb10⟩
 simp only [List.length_replicate, List.length_nil]
 have HB10 := Lib.hid (below_next HB9.out hb10)
 have hsz10 : 4 < w10.heap.size := Nat.lt_of_lt_of_le hsz9 hb10.size
 have HX10 := Lib.hid (HX9.out.below hb10)
 have HS10 := Lib.hid (HS9.out.below hb10 hsz9)
 clear hb10
 go_wp2_with fail
 obtain ⟨w11, hw11⟩ : ∃ w11, w11 = w10.alloc (.cells #[.int .i64 64, .int .i64 2, .slice aoa 128 capa] 47) := ⟨_, rfl⟩
 rw [← hw11]
 obtain ⟨ga, hga⟩ : ∃ ga, ga = w10.heap.size := ⟨_, rfl⟩
 rw [← hga]
 have ha11 : w11.heap[ga]? = some (.cells #[.int .i64 64, .int .i64 2, .slice aoa 128 capa] 47 (0, 0)) := by rw [hw11, hga]; exact heap_alloc_new _ _
 have hb11 : Below w10.heap.size w10 w11 := by rw [hw11]; exact below_alloc _ _
 have HB11 := Lib.hid (below_next HB10.out hb11)
 have hsz11 : 4 < w11.heap.size := Nat.lt_of_lt_of_le hsz10 hb11.size
 have HX11 := Lib.hid (HX10.out.below hb11)
 have HS11 := Lib.hid (HS10.out.below hb11 hsz10)
 have HA11 := Lib.hid ha11
 clear hb11 hw11 hga ha11
 refine (CT4.out _).mono ?_
 rintro e w12 ⟨rfl, hb12⟩
 have HB12 := Lib.hid (below_next HB11.out hb12)
 have hsz12 : 4 < w12.heap.size := Nat.lt_of_lt_of_le hsz11 hb12.size
 have HX12 := Lib.hid (HX11.out.below hb12)
 have HS12 := Lib.hid (HS11.out.below hb12 hsz11)
 have HA12 := Lib.hid ((hb12.block ga (Array.getElem?_eq_some_iff.1 HA11.out).1).trans HA11.out)
 clear hb12
 go_wp2_with fail
 refine (rm_ok HR2.out SynP.row_64 _ HX12.out HS12.out hsz12).mono ?_
 rintro e w13 ⟨aob, capb, rfl, hb13⟩
 simp only [List.length_replicate, List.length_nil]
 have HB13 := Lib.hid (below_next HB12.out hb13)
 have hsz13 : 4 < w13.heap.size := Nat.lt_of_lt_of_le hsz12 hb13.size
 have HX13 := Lib.hid (HX12.out.below hb13)
 have HS13 := Lib.hid (HS12.out.below hb13 hsz12)
 have HA13 := Lib.hid ((hb13.block ga (Array.getElem?_eq_some_iff.1 HA12.out).1).trans HA12.out)
 clear hb13
 go_wp2_with fail
 obtain ⟨w14, hw14⟩ : ∃ w14, w14 = w13.alloc (.cells #[.int .i64 1, .int .i64 64, .slice aob 64 capb] 47) := ⟨_, rfl⟩
 rw [← hw14]
 obtain ⟨gb, hgb⟩ : ∃ gb, gb = w13.heap.size := ⟨_, rfl⟩
 rw [← hgb]
 have hd14 : w14.heap[gb]? = some (.cells #[.int .i64 1, .int .i64 64, .slice aob 64 capb] 47 (0, 0)) := by rw [hw14, hgb]; exact heap_alloc_new _ _
 have hb14 : Below w13.heap.size w13 w14 := by rw [hw14]; exact below_alloc _ _
 have HB14 := Lib.hid (below_next HB13.out hb14)
 have hsz14 : 4 < w14.heap.size := Nat.lt_of_lt_of_le hsz13 hb14.size
 have HX14 := Lib.hid (HX13.out.below hb14)
 have HS14 := Lib.hid (HS13.out.below hb14 hsz13)
 have HA14 := Lib.hid ((hb14.block ga (Array.getElem?_eq_some_iff.1 HA13.out).1).trans HA13.out)
 have HD14 := Lib.hid hd14
 clear hb14 hw14 hgb hd14
 refine (CT5.out _).mono ?_
 rintro e w15 ⟨rfl, hb15⟩
 have HB15 := Lib.hid (below_next HB14.out hb15)
 have hsz15 : 4 < w15.heap.size := Nat.lt_of_lt_of_le hsz14 hb15.size
 have HX15 := Lib.hid (HX14.out.below hb15)
 have HS15 := Lib.hid (HS14.out.below hb15 hsz14)
 have HA15 := Lib.hid ((hb15.block ga (Array.getElem?_eq_some_iff.1 HA14.out).1).trans HA14.out)
 have HD15 := Lib.hid ((hb15.block gb (Array.getElem?_eq_some_iff.1 HD14.out).1).trans HD14.out)
 clear hb15
 go_wp2_with fail
 refine (rm_ok HR3.out SynP.col_64 _ HX15.out HS15.out hsz15).mono ?_
 rintro e w16 ⟨aoc, capc, rfl, hb16⟩
 simp only [List.length_replicate, List.length_nil]
 have HB16 := Lib.hid (below_next HB15.out hb16)
 have HA16 := (hb16.block ga (Array.getElem?_eq_some_iff.1 HA15.out).1).trans HA15.out
 have HD16 := (hb16.block gb (Array.getElem?_eq_some_iff.1 HD15.out).1).trans HD15.out
 clear hb16
 have hal := (Array.getElem?_eq_some_iff.1 HA16).1
 have hdl := (Array.getElem?_eq_some_iff.1 HD16).1
 obtain ⟨a0, a1, a2⟩ := cell3 HA16
 obtain ⟨d0, d1, d2⟩ := cell3 HD16
 clear HA16 HD16
 go_wp2_with fail
 go_ret
 exact ⟨rfl, HB16.out.alloc HB16.out.size _⟩
end Go.Proofs.YtgfmiladfeoldaaGreatDoor
namespace Go.Proofs.YtgfmiladfeoldaaGreatDoor
open Go.RowKit NatP LexP
set_option maxHeartbeats 8000000
set_option maxRecDepth 100000 in
theorem limits_3 (x : Int) (hsm : ∀ w, Calls Tryz.prog 17 #[.int .i64 x, .int .i64 3] w fun e w' => e = .returned (.int .i64 3) ∧ w = w') (w : World) (hx : Lx w) (hs : SG w) (hsz : 4 < w.heap.size) :
  Calls Tryz.prog 10 #[.int .i64 x] w fun e w' => e = .returned (.bool true) ∧ Below w.heap.size w w' := by
 have HX := Lib.hid hx
 have HS := Lib.hid hs
 have HW := Lib.hid (wakes_any w hx hs hsz)
 have HSM := Lib.hid hsm
 clear hx hs hsm
 obtain ⟨T1, hT1⟩ : ∃ T : ByteArray, T = ⟨(SynP.timesB [40] 102).toArray⟩ := ⟨_, rfl⟩
 have CT1 : Hid (∀ w, Calls Tryz.prog 40 #[.string ⟨#[40]⟩, .int .i64 102] w fun e w' => e = .returned (.string T1) ∧ Below w.heap.size w w') := fun w => by rw [hT1]; exact times_any [40] 102 w (by decide) (by decide)
 have zT1 : T1.size = 102 := by rw [hT1, Lib.size_eq]; show (SynP.timesB _ _).length = _; rw [SynP.timesB_len]; rfl
 obtain ⟨T2, hT2⟩ : ∃ T : ByteArray, T = ⟨(SynP.timesB [41] 102).toArray⟩ := ⟨_, rfl⟩
 have CT2 : Hid (∀ w, Calls Tryz.prog 40 #[.string ⟨#[41]⟩, .int .i64 102] w fun e w' => e = .returned (.string T2) ∧ Below w.heap.size w w') := fun w => by rw [hT2]; exact times_any [41] 102 w (by decide) (by decide)
 have zT2 : T2.size = 102 := by rw [hT2, Lib.size_eq]; show (SynP.timesB _ _).length = _; rw [SynP.timesB_len]; rfl
 obtain ⟨T3, hT3⟩ : ∃ T : ByteArray, T = ⟨(SynP.timesB [32, 43, 32, 98] 2049).toArray⟩ := ⟨_, rfl⟩
 have CT3 : Hid (∀ w, Calls Tryz.prog 40 #[.string ⟨#[32, 43, 32, 98]⟩, .int .i64 2049] w fun e w' => e = .returned (.string T3) ∧ Below w.heap.size w w') := fun w => by rw [hT3]; exact times_any [32, 43, 32, 98] 2049 w (by decide) (by decide)
 have zT3 : T3.size = 8196 := by rw [hT3, Lib.size_eq]; show (SynP.timesB _ _).length = _; rw [SynP.timesB_len]; rfl
 obtain ⟨T4, hT4⟩ : ∃ T : ByteArray, T = ⟨(SynP.timesB [49, 32] 65).toArray⟩ := ⟨_, rfl⟩
 have CT4 : Hid (∀ w, Calls Tryz.prog 40 #[.string ⟨#[49, 32]⟩, .int .i64 65] w fun e w' => e = .returned (.string T4) ∧ Below w.heap.size w w') := fun w => by rw [hT4]; exact times_any [49, 32] 65 w (by decide) (by decide)
 have zT4 : T4.size = 130 := by rw [hT4, Lib.size_eq]; show (SynP.timesB _ _).length = _; rw [SynP.timesB_len]; rfl
 obtain ⟨T5, hT5⟩ : ∃ T : ByteArray, T = ⟨(SynP.timesB [49, 59] 64).toArray⟩ := ⟨_, rfl⟩
 have CT5 : Hid (∀ w, Calls Tryz.prog 40 #[.string ⟨#[49, 59]⟩, .int .i64 64] w fun e w' => e = .returned (.string T5) ∧ Below w.heap.size w w') := fun w => by rw [hT5]; exact times_any [49, 59] 64 w (by decide) (by decide)
 have zT5 : T5.size = 128 := by rw [hT5, Lib.size_eq]; show (SynP.timesB _ _).length = _; rw [SynP.timesB_len]; rfl
 obtain ⟨I1, hI1⟩ : ∃ T : ByteArray, T = ⟨#[54, 53]⟩ := ⟨_, rfl⟩
 have CI1 : Hid (∀ w, Calls Tryz.prog 41 #[.int .i64 65] w fun e w' => e = .returned (.string I1) ∧ w' = w) := fun w => by rw [hI1]; exact (show Lib.decDigits 65 = [54, 53] by kernel_rfl) ▸ Tryz.strconv_Itoa_small 65 (by decide) w
 have zI1 : I1.size = 2 := by rw [hI1]; rfl
 obtain ⟨I2, hI2⟩ : ∃ T : ByteArray, T = ⟨#[51]⟩ := ⟨_, rfl⟩
 have CI2 : Hid (∀ w, Calls Tryz.prog 41 #[.int .i64 3] w fun e w' => e = .returned (.string I2) ∧ w' = w) := fun w => by rw [hI2]; exact (show Lib.decDigits 3 = [51] by kernel_rfl) ▸ Tryz.strconv_Itoa_small 3 (by decide) w
 have zI2 : I2.size = 1 := by rw [hI2]; rfl
 have HP1 : Hid (PaC ((⟨#[112, 114, 105, 110, 116, 32]⟩ : ByteArray) ++ T1 ++ (⟨#[55]⟩ : ByteArray) ++ T2) (SynP.brT 102)) := paC (by rw [app_list, app_list, app_list, hT1, hT2]; rfl) (by decide)
 have HP2 : Hid (PaC ((⟨#[112, 114, 105, 110, 116, 32, 97]⟩ : ByteArray) ++ T3) (SynP.printB ++ [32, 97] ++ SynP.timesB [32, 43, 32, 98] 2049)) := paC (by rw [app_list, hT3]; rfl) (by rw [List.length_append, SynP.timesB_len]; decide)
 have HR1 : Hid (RmC ((⟨#[91]⟩ : ByteArray) ++ I1 ++ (⟨#[58]⟩ : ByteArray) ++ I2 ++ (⟨#[93]⟩ : ByteArray)) [91, 54, 53, 58, 51, 93]) := rmC (by rw [app_list, app_list, app_list, app_list, hI1, hI2]; rfl) (by decide)
 have HR2 : Hid (RmC ((⟨#[91]⟩ : ByteArray) ++ T4 ++ (⟨#[93]⟩ : ByteArray)) (SynP.rowB 65)) := rmC (by rw [app_list, app_list, hT4]; rfl) (by decide)
 have HR3 : Hid (RmC ((⟨#[91]⟩ : ByteArray) ++ T5 ++ (⟨#[49, 93]⟩ : ByteArray)) (SynP.colB 64)) := rmC (by rw [app_list, app_list, hT5]; rfl) (by decide)
 have m0 : ¬ 9223372036854775807 < 6 + T1.size := by omega
 have m1 : ¬ 9223372036854775807 < 6 + T1.size + 1 := by omega
 have m2 : ¬ 9223372036854775807 < 6 + T1.size + 1 + T2.size := by omega
 have m3 : ¬ 9223372036854775807 < 7 + T3.size := by omega
 have m4 : ¬ 9223372036854775807 < 1 + I1.size := by omega
 have m5 : ¬ 9223372036854775807 < 1 + I1.size + 1 := by omega
 have m6 : ¬ 9223372036854775807 < 1 + I1.size + 1 + I2.size := by omega
 have m7 : ¬ 9223372036854775807 < 1 + I1.size + 1 + I2.size + 1 := by omega
 have m8 : ¬ 9223372036854775807 < 1 + T4.size := by omega
 have m9 : ¬ 9223372036854775807 < 1 + T4.size + 1 := by omega
 have m10 : ¬ 9223372036854775807 < 1 + T5.size := by omega
 have m11 : ¬ 9223372036854775807 < 1 + T5.size + 2 := by omega
 clear hT1 hT2 hT3 hT4 hT5 hI1 hI2 zT1 zT2 zT3 zT4 zT5 zI1 zI2
 go_enter Tryz.func10, Tryz.ntmps10
 go_wp2_with fail
 refine HW.out.mono ?_
 rintro e w1 ⟨rfl, hb1⟩
 have HB1 := Lib.hid hb1
 have hsz1 : 4 < w1.heap.size := Nat.lt_of_lt_of_le hsz hb1.size
 have HX1 := Lib.hid (HX.out.below hb1)
 have HS1 := Lib.hid (HS.out.below hb1 hsz)
 clear hb1 HX HS HW
 go_wp2_with fail
 refine (HSM.out _).mono ?_
 rintro e w2 ⟨rfl, rfl⟩
 go_wp2_with fail
 refine (CT1.out _).mono ?_
 rintro e w2 ⟨rfl, hb2⟩
 have HB2 := Lib.hid (below_next HB1.out hb2)
 have hsz2 : 4 < w2.heap.size := Nat.lt_of_lt_of_le hsz1 hb2.size
 have HX2 := Lib.hid (HX1.out.below hb2)
 have HS2 := Lib.hid (HS1.out.below hb2 hsz1)
 clear hb2
 go_wp2_with fail
 refine (CT2.out _).mono ?_
 rintro e w3 ⟨rfl, hb3⟩
 have HB3 := Lib.hid (below_next HB2.out hb3)
 have hsz3 : 4 < w3.heap.size := Nat.lt_of_lt_of_le hsz2 hb3.size
 have HX3 := Lib.hid (HX2.out.below hb3)
 have HS3 := Lib.hid (HS2.out.below hb3 hsz2)
 clear hb3
 go_wp2_with fail
 refine (pa_er HP1.out SynP.br_102 _ HX3.out HS3.out hsz3).mono ?_
 rintro e w4 ⟨rfl, hb4⟩
 have HB4 := Lib.hid (below_next HB3.out hb4)
 have hsz4 : 4 < w4.heap.size := Nat.lt_of_lt_of_le hsz3 hb4.size
 have HX4 := Lib.hid (HX3.out.below hb4)
 have HS4 := Lib.hid (HS3.out.below hb4 hsz3)
 clear hb4
 go_wp2_with fail
 refine (CT3.out _).mono ?_
 rintro e w5 ⟨rfl, hb5⟩
 have HB5 := Lib.hid (below_next HB4.out hb5)
 have hsz5 : 4 < w5.heap.size := Nat.lt_of_lt_of_le hsz4 hb5.size
 have HX5 := Lib.hid (HX4.out.below hb5)
 have HS5 := Lib.hid (HS4.out.below hb5 hsz4)
 clear hb5
 go_wp2_with fail
 refine (pa_er HP2.out (sum_er (by decide)) _ HX5.out HS5.out hsz5).mono ?_
 rintro e w6 ⟨rfl, hb9⟩
 obtain ⟨w9, hw9⟩ : ∃ w9, w9 = w6 := ⟨_, rfl⟩
 subst hw9
 have HB9 := Lib.hid (below_next HB5.out hb9)
 have hsz9 : 4 < w9.heap.size := Nat.lt_of_lt_of_le hsz5 hb9.size
 have HX9 := Lib.hid (HX5.out.below hb9)
 have HS9 := Lib.hid (HS5.out.below hb9 hsz5)
 clear hb9
 go_wp2_with fail
 refine (CI1.out _).mono ?_
 rintro e w10 ⟨rfl, rfl⟩
 go_wp2_with fail
 refine (CI2.out _).mono ?_
 rintro e w10 ⟨rfl, rfl⟩
 go_wp2_with fail
 refine (rm_er HR1.out SynP.shp_65 _ HX9.out HS9.out hsz9).mono ?_
 rintro e w10 ⟨rfl, hb10⟩
 have HB10 := Lib.hid (below_next HB9.out hb10)
 have hsz10 : 4 < w10.heap.size := Nat.lt_of_lt_of_le hsz9 hb10.size
 have HX10 := Lib.hid (HX9.out.below hb10)
 have HS10 := Lib.hid (HS9.out.below hb10 hsz9)
 clear hb10
 go_wp2_with fail
 obtain ⟨w11, hw11⟩ : ∃ w11, w11 = w10.alloc (.cells #[.int .i64 0, .int .i64 0, .slice none 0 0] 47) := ⟨_, rfl⟩
 rw [← hw11]
 obtain ⟨ga, hga⟩ : ∃ ga, ga = w10.heap.size := ⟨_, rfl⟩
 rw [← hga]
 have ha11 : w11.heap[ga]? = some (.cells #[.int .i64 0, .int .i64 0, .slice none 0 0] 47 (0, 0)) := by rw [hw11, hga]; exact heap_alloc_new _ _
 have hb11 : Below w10.heap.size w10 w11 := by rw [hw11]; exact below_alloc _ _
 have HB11 := Lib.hid (below_next HB10.out hb11)
 have hsz11 : 4 < w11.heap.size := Nat.lt_of_lt_of_le hsz10 hb11.size
 have HX11 := Lib.hid (HX10.out.below hb11)
 have HS11 := Lib.hid (HS10.out.below hb11 hsz10)
 have HA11 := Lib.hid ha11
 clear hb11 hw11 hga ha11
 refine (CT4.out _).mono ?_
 rintro e w12 ⟨rfl, hb12⟩
 have HB12 := Lib.hid (below_next HB11.out hb12)
 have hsz12 : 4 < w12.heap.size := Nat.lt_of_lt_of_le hsz11 hb12.size
 have HX12 := Lib.hid (HX11.out.below hb12)
 have HS12 := Lib.hid (HS11.out.below hb12 hsz11)
 have HA12 := Lib.hid ((hb12.block ga (Array.getElem?_eq_some_iff.1 HA11.out).1).trans HA11.out)
 clear hb12
 go_wp2_with fail
 refine (rm_er HR2.out SynP.row_65 _ HX12.out HS12.out hsz12).mono ?_
 rintro e w13 ⟨rfl, hb13⟩
 have HB13 := Lib.hid (below_next HB12.out hb13)
 have hsz13 : 4 < w13.heap.size := Nat.lt_of_lt_of_le hsz12 hb13.size
 have HX13 := Lib.hid (HX12.out.below hb13)
 have HS13 := Lib.hid (HS12.out.below hb13 hsz12)
 have HA13 := Lib.hid ((hb13.block ga (Array.getElem?_eq_some_iff.1 HA12.out).1).trans HA12.out)
 clear hb13
 go_wp2_with fail
 obtain ⟨w14, hw14⟩ : ∃ w14, w14 = w13.alloc (.cells #[.int .i64 0, .int .i64 0, .slice none 0 0] 47) := ⟨_, rfl⟩
 rw [← hw14]
 obtain ⟨gb, hgb⟩ : ∃ gb, gb = w13.heap.size := ⟨_, rfl⟩
 rw [← hgb]
 have hd14 : w14.heap[gb]? = some (.cells #[.int .i64 0, .int .i64 0, .slice none 0 0] 47 (0, 0)) := by rw [hw14, hgb]; exact heap_alloc_new _ _
 have hb14 : Below w13.heap.size w13 w14 := by rw [hw14]; exact below_alloc _ _
 have HB14 := Lib.hid (below_next HB13.out hb14)
 have hsz14 : 4 < w14.heap.size := Nat.lt_of_lt_of_le hsz13 hb14.size
 have HX14 := Lib.hid (HX13.out.below hb14)
 have HS14 := Lib.hid (HS13.out.below hb14 hsz13)
 have HA14 := Lib.hid ((hb14.block ga (Array.getElem?_eq_some_iff.1 HA13.out).1).trans HA13.out)
 have HD14 := Lib.hid hd14
 clear hb14 hw14 hgb hd14
 refine (CT5.out _).mono ?_
 rintro e w15 ⟨rfl, hb15⟩
 have HB15 := Lib.hid (below_next HB14.out hb15)
 have hsz15 : 4 < w15.heap.size := Nat.lt_of_lt_of_le hsz14 hb15.size
 have HX15 := Lib.hid (HX14.out.below hb15)
 have HS15 := Lib.hid (HS14.out.below hb15 hsz14)
 have HA15 := Lib.hid ((hb15.block ga (Array.getElem?_eq_some_iff.1 HA14.out).1).trans HA14.out)
 have HD15 := Lib.hid ((hb15.block gb (Array.getElem?_eq_some_iff.1 HD14.out).1).trans HD14.out)
 clear hb15
 go_wp2_with fail
 refine (rm_er HR3.out SynP.col_65 _ HX15.out HS15.out hsz15).mono ?_
 rintro e w16 ⟨rfl, hb16⟩
 have HB16 := Lib.hid (below_next HB15.out hb16)
 have HA16 := (hb16.block ga (Array.getElem?_eq_some_iff.1 HA15.out).1).trans HA15.out
 have HD16 := (hb16.block gb (Array.getElem?_eq_some_iff.1 HD15.out).1).trans HD15.out
 clear hb16
 have hal := (Array.getElem?_eq_some_iff.1 HA16).1
 have hdl := (Array.getElem?_eq_some_iff.1 HD16).1
 obtain ⟨a0, a1, a2⟩ := cell3 HA16
 obtain ⟨d0, d1, d2⟩ := cell3 HD16
 clear HA16 HD16
 go_wp2_with fail
 go_ret
 exact ⟨rfl, HB16.out.alloc HB16.out.size _⟩
end Go.Proofs.YtgfmiladfeoldaaGreatDoor
