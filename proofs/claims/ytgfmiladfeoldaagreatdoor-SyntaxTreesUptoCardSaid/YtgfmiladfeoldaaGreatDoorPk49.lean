/- Joined texts of this claim's proof: LwE, SyRow. -/
import Derived.Test.YtgfmiladfeoldaaGreatDoorPk48
import Derived.Test.YtgfmiladfeoldaaGreatDoorRows
import Derived.Test.YtgfmiladfeoldaaGreatDoorPk15
import Derived.Test.YtgfmiladfeoldaaGreatDoorPk4
import Derived.ProofKit
import Derived.OpenShut
import Derived.ShutString
import Derived.JoinedCond
import Derived.HandedShaped
import Derived.Below
import Derived.ReadAgain
import Derived.ChangeOld
import Derived.Deep.DeepHandedRow
import Derived.Lib.LaidTab
import Derived.MakeChecks
set_option linter.unusedSimpArgs false
set_option linter.unusedVariables false
namespace Go.Proofs.YtgfmiladfeoldaaGreatDoor
open Go.RowKit NatP LexP
theorem text_sum {x : SynP.NI} : ∀ {l : List SynP.NI}, x ∈ l → x.text.length ≤ (l.map fun x => x.text.length).sum
 | [], h => by cases h
 | a :: l, h => by
  simp only [List.map_cons, List.sum_cons]
  rcases List.mem_cons.1 h with rfl | h
  ·omega
  ·have := text_sum h; omega
theorem grown_kidsle {W : Int → Bytes → Bool} {n : Nat} : ∀ (l : List SynP.NI) (i : Nat) (free : List Nat), free.length ≤ i → SynP.grownL W n i free l = true → ∀ x ∈ l, x.kids.length ≤ i + l.length := by
 intro l
 induction l with
 | nil => intro _ _ _ _ x hx; cases hx
 | cons a l ih =>
  intro i free hf hg x hx
  unfold SynP.grownL at hg
  split at hg
  ·rename_i hst
   split at hg
   ·have hle : a.kids.length ≤ free.length := by
     unfold SynP.stepOk at hst
     simp only [Bool.not_eq_true', Bool.or_eq_false_iff, decide_eq_false_iff_not] at hst
     omega
    rcases List.mem_cons.1 hx with rfl | hx
    ·omega
    ·have := ih (i + 1) _ (by rw [List.length_append, List.length_take]; simp; omega) hg x hx
     simp only [List.length_cons]
     omega
   ·cases hg
  ·cases hg
theorem fit_kids {n : SynP.Ln} (h : LnFit n) : ∀ x ∈ SynP.nL n.flat, x.kids.length ≤ 4194304 := fun x hx => by
 have h1 := grown_kidsle _ 0 [] (Nat.le_refl _) (fit_grown h.wf) x hx
 have h2 := h.size
 rw [show (SynP.nL n.flat).length = n.size by rw [SynP.nL, List.length_map, ln_size]] at h1
 omega
theorem fit_len {n : SynP.Ln} (h : LnFit n) : (SynP.nL n.flat).length ≤ 4194304 := by
 have h2 := h.size
 rw [show (SynP.nL n.flat).length = n.size by rw [SynP.nL, List.length_map, ln_size]]
 omega
set_option maxRecDepth 100000 in
set_option maxHeartbeats 4000000 in
theorem back_walk (s : ByteArray) (w : World) (hsl : s.size ≤ 1048576) (hx : Lx w) (hs : SG w) (hsz : 4 < w.heap.size) :
  Calls Tryz.prog 3 #[.string s] w fun e w' => e = .returned (.bool true) ∧ Below w.heap.size w w' := by
 have HX := Lib.hid hx
 have HS := Lib.hid hs
 have HW := Lib.hid (wakes_any w hx hs hsz)
 have hsl2 : s.data.toList.length ≤ 1048576 := by rw [← Lib.size_eq]; exact hsl
 clear hx hs
 go_enter Tryz.func3, Tryz.ntmps3
 go_wp2_with fail
 refine HW.out.mono ?_
 rintro e w1 ⟨rfl, hb1⟩
 have HB1 := Lib.hid hb1
 have hsz1 : 4 < w1.heap.size := Nat.lt_of_lt_of_le hsz hb1.size
 have HX1 := Lib.hid (HX.out.below hb1)
 have HS1 := Lib.hid (HS.out.below hb1 hsz)
 clear hb1
 go_wp2_with fail
 refine (parse_any s _ (by show _ ≤ _; omega) HX1.out HS1.out hsz1).mono ?_
 rintro e w2 hn
 unfold PaP at hn
 rcases hV : SynP.parseV s.data.toList with ⟨c, ek⟩ | n
 ·rw [hV] at hn
  obtain ⟨rfl, hb2⟩ := hn
  have hek := SynP.parseV_fault hV
  have HB2 := Lib.hid (below_next HB1.out hb2)
  have hek0 : ((ek : Int) != 0) = true := by simp; omega
  have hc1 : decide ((1 : Int) ≤ ((c : Nat) : Int)) = true := decide_eq_true (by omega)
  clear hb2 hV hek
  go_wp2_with fail
  go_ret
  exact ⟨rfl, HB2.out⟩
 ·rw [hV] at hn
  obtain ⟨nv, ns, rfl, hb2, htr, hfl⟩ := hn
  have HFT := Lib.hid (parseV_fit hV hsl2)
  have hdp := (parseV_wf hV).2.1
  have hnd := htr.ndl
  rw [hfl] at hnd
  have HNA := Lib.hid (hnd.nda (Nat.le_refl _))
  have HB2 := Lib.hid (below_next HB1.out hb2)
  have hsz2 : 4 < w2.heap.size := Nat.lt_of_lt_of_le hsz1 hb2.size
  have HX2 := Lib.hid (HX1.out.below hb2)
  have HS2 := Lib.hid (HS1.out.below hb2 hsz1)
  have HPR : Hid (SynP.parseV n.pr = .ok n) := parseV_pr HFT.out hdp
  have HDP := Lib.hid hdp
  clear hb2 hV htr hfl hnd hdp
  obtain ⟨ao, cap, rfl, -, -, -⟩ := HNA.out
  obtain ⟨m, hm⟩ : ∃ m, m = (SynP.nL n.flat).length := ⟨_, rfl⟩
  rw [← hm] at HNA ⊢
  clear hm
  go_wp2_with fail
  refine (copy_any _ (SynP.nL n.flat) _ (fit_len HFT.out) (fit_kids HFT.out) HNA.out).mono ?_
  rintro e w3 ⟨u3, rfl, hn3, hb3⟩
  have HN3 := Lib.hid hn3
  have HB3 := Lib.hid (below_next HB2.out hb3)
  have hsz3 : 4 < w3.heap.size := Nat.lt_of_lt_of_le hsz2 hb3.size
  have HX3 := Lib.hid (HX2.out.below hb3)
  have HS3 := Lib.hid (HS2.out.below hb3 hsz2)
  have HA3 := Lib.hid (HNA.out.below hb3)
  clear hb3 hn3
  go_wp2_with fail
  refine (print_good n u3 _ _ HFT.out HN3.out (Nat.le_refl _) HX3.out HS3.out hsz3).mono ?_
  rintro e w4 ⟨he, hb4⟩
  rw [if_neg (by have := HDP.out; omega)] at he
  subst he
  have HB4 := Lib.hid (below_next HB3.out hb4)
  have hsz4 : 4 < w4.heap.size := Nat.lt_of_lt_of_le hsz3 hb4.size
  have HX4 := Lib.hid (HX3.out.below hb4)
  have HS4 := Lib.hid (HS3.out.below hb4 hsz3)
  have HA4 := Lib.hid (HA3.out.below hb4)
  obtain ⟨T, hT⟩ : ∃ T : ByteArray, T = ⟨n.pr.toArray⟩ := ⟨_, rfl⟩
  have hTl : T.data.toList = n.pr := by rw [hT]
  rw [← hT]
  have HT := Lib.hid hT
  have HTL := Lib.hid hTl
  clear hb4 hT hTl
  go_wp2_with fail
  refine (parse_any T _ (by show _ ≤ _; rw [HTL.out]; exact HFT.out.prl) HX4.out HS4.out hsz4).mono ?_
  rintro e w5 hn
  unfold PaP at hn
  rw [HTL.out, HPR.out] at hn
  obtain ⟨nv5, ns5, rfl, hb5, htr, hfl⟩ := hn
  have hnd := htr.ndl
  rw [hfl] at hnd
  have HNA5 := Lib.hid (hnd.nda (Nat.le_refl _))
  have HB5 := Lib.hid (below_next HB4.out hb5)
  have hsz5 : 4 < w5.heap.size := Nat.lt_of_lt_of_le hsz4 hb5.size
  have HX5 := Lib.hid (HX4.out.below hb5)
  have HS5 := Lib.hid (HS4.out.below hb5 hsz4)
  have HA5 := Lib.hid (HA4.out.below hb5)
  clear hb5 htr hfl hnd
  obtain ⟨ao5, cap5, rfl, -, -, -⟩ := HNA5.out
  obtain ⟨m5, hm5⟩ : ∃ m, m = (SynP.nL n.flat).length := ⟨_, rfl⟩
  rw [← hm5] at HNA5 ⊢
  clear hm5
  go_wp2_with fail
  refine (copy_any _ (SynP.nL n.flat) _ (fit_len HFT.out) (fit_kids HFT.out) HNA5.out).mono ?_
  rintro e w6 ⟨u6, rfl, hn6, hb6⟩
  have HN6 := Lib.hid hn6
  have HB6 := Lib.hid (below_next HB5.out hb6)
  have hsz6 : 4 < w6.heap.size := Nat.lt_of_lt_of_le hsz5 hb6.size
  have HX6 := Lib.hid (HX5.out.below hb6)
  have HS6 := Lib.hid (HS5.out.below hb6 hsz5)
  have HA6 := Lib.hid (HA5.out.below hb6)
  have HC6 := Lib.hid (HNA5.out.below hb6)
  clear hb6 hn6
  go_wp2_with fail
  refine (print_good n u6 _ _ HFT.out HN6.out (Nat.le_refl _) HX6.out HS6.out hsz6).mono ?_
  rintro e w7 ⟨he, hb7⟩
  rw [if_neg (by have := HDP.out; omega), ← HT.out] at he
  subst he
  have HB7 := Lib.hid (below_next HB6.out hb7)
  have HA7 := Lib.hid (HA6.out.below hb7)
  have HC7 := Lib.hid (HC6.out.below hb7)
  clear hb7
  go_wp2_with fail
  refine (same_same _ _ (SynP.nL n.flat) _ HA7.out HC7.out).mono ?_
  rintro e w8 ⟨rfl, hb8⟩
  have HB8 := Lib.hid (below_next HB7.out hb8)
  clear hb8
  go_wp2_with fail
  go_ret
  exact ⟨by simp, HB8.out⟩
set_option maxRecDepth 100000 in
set_option maxHeartbeats 4000000 in
theorem trees_walk (v : Value) (l : List SynP.NI) (w : World) (hv : NdA w v l) (hl : l.length ≤ 4194304) (hk : ∀ x ∈ l, x.kids.length ≤ 4194304) (ht : (l.map fun x => x.text.length).sum ≤ 1048576) (hx : Lx w) (hs : SG w) (hsz : 4 < w.heap.size) :
  Calls Tryz.prog 4 #[v] w fun e w' => e = .returned (.bool true) ∧ Below w.heap.size w w' := by
 have HX := Lib.hid hx
 have HS := Lib.hid hs
 have HW := Lib.hid (wakes_any w hx hs hsz)
 have HV := Lib.hid hv
 have HL := Lib.hid hl
 have HK := Lib.hid hk
 have htx : ∀ x ∈ l, x.text.length ≤ 67108864 := fun x hx => by
  have : x.text.length ≤ (l.map fun x => x.text.length).sum := text_sum hx
  omega
 have HTX := Lib.hid htx
 have HTS := Lib.hid ht
 obtain ⟨ao, cap, rfl, -, -, -⟩ := hv
 obtain ⟨m, hm⟩ : ∃ m, m = l.length := ⟨_, rfl⟩
 rw [← hm] at HV ⊢
 have HM := Lib.hid hm
 clear hx hs htx ht hm hk hl
 go_enter Tryz.func4, Tryz.ntmps4
 go_wp2_with fail
 refine HW.out.mono ?_
 rintro e w1 ⟨rfl, hb1⟩
 have HB1 := Lib.hid hb1
 have hsz1 : 4 < w1.heap.size := Nat.lt_of_lt_of_le hsz hb1.size
 have HX1 := Lib.hid (HX.out.below hb1)
 have HS1 := Lib.hid (HS.out.below hb1 hsz)
 have HV1 := Lib.hid (HV.out.below hb1)
 clear hb1
 go_wp2_with fail
 refine (copy_any _ l _ HL.out HK.out HV1.out).mono ?_
 rintro e w3 ⟨u3, rfl, hn3, hb3⟩
 have HN3 := Lib.hid hn3
 have HB3 := Lib.hid (below_next HB1.out hb3)
 have hsz3 : 4 < w3.heap.size := Nat.lt_of_lt_of_le hsz1 hb3.size
 have HX3 := Lib.hid (HX1.out.below hb3)
 have HS3 := Lib.hid (HS1.out.below hb3 hsz1)
 have HV3 := Lib.hid (HV1.out.below hb3)
 clear hb3 hn3
 by_cases hbig : 4096 < l.length
 ·obtain ⟨uo, uc, hu, -⟩ := HN3.out
  subst hu
  have hl63 : l.length ≤ 9223372036854775807 := by have := HL.out; omega
  have HPB := Lib.hid (print_big l uo uc w3 hbig hl63)
  obtain ⟨q, hq⟩ : ∃ q, q = l.length := ⟨_, rfl⟩
  rw [← hq] at HPB ⊢
  clear hbig hl63 hq HN3
  go_wp2_with fail
  refine HPB.out.mono ?_
  rintro e w4 ⟨rfl, rfl⟩
  go_wp2_with fail
  go_ret
  exact ⟨rfl, HB3.out⟩
 ·cases hg : SynP.grownL SynP.WV l.length 0 [] l with
  | false =>
   have HPB := Lib.hid (print_bad l u3 w3 _ (by omega) hg HTX.out HN3.out (Nat.le_refl _) HX3.out HS3.out hsz3)
   clear hg hbig
   go_wp2_with fail
   refine HPB.out.mono ?_
   rintro e w4 ⟨rfl, hb4⟩
   have HB4 := Lib.hid (below_next HB3.out hb4)
   clear hb4
   go_wp2_with fail
   go_ret
   exact ⟨rfl, HB4.out⟩
  | true =>
   have hl0 : l ≠ [] := by rintro rfl; simp [SynP.grownL] at hg
   obtain ⟨n, hft, hnl⟩ := grown_fit hg hl0 (by omega) HTS.out
   have HFT := Lib.hid hft
   have HNL := Lib.hid hnl
   have HN3' : Hid (NdL w3 w3.heap.size u3 (SynP.nL n.flat)) := by show NdL _ _ _ _; rw [hnl]; exact HN3.out
   have HPB := Lib.hid (print_good n u3 w3 _ hft HN3'.out (Nat.le_refl _) HX3.out HS3.out hsz3)
   clear hg hbig hl0 hft hnl
   go_wp2_with fail
   refine HPB.out.mono ?_
   rintro e w4 ⟨he, hb4⟩
   have HB4 := Lib.hid (below_next HB3.out hb4)
   have hsz4 : 4 < w4.heap.size := Nat.lt_of_lt_of_le hsz3 hb4.size
   have HX4 := Lib.hid (HX3.out.below hb4)
   have HS4 := Lib.hid (HS3.out.below hb4 hsz3)
   have HV4 := Lib.hid (HV3.out.below hb4)
   clear hb4
   by_cases hd : 100 < n.dp
   ·rw [if_pos hd] at he
    subst he
    clear hd
    go_wp2_with fail
    go_ret
    exact ⟨rfl, HB4.out⟩
   ·rw [if_neg hd] at he
    subst he
    have HPR : Hid (SynP.parseV n.pr = .ok n) := parseV_pr HFT.out (by omega)
    obtain ⟨T, hT⟩ : ∃ T : ByteArray, T = ⟨n.pr.toArray⟩ := ⟨_, rfl⟩
    have hTl : T.data.toList = n.pr := by rw [hT]
    rw [← hT]
    have HTL := Lib.hid hTl
    clear hT hTl hd
    go_wp2_with fail
    refine (parse_any T _ (by show _ ≤ _; rw [HTL.out]; exact HFT.out.prl) HX4.out HS4.out hsz4).mono ?_
    rintro e w5 hn
    unfold PaP at hn
    rw [HTL.out, HPR.out] at hn
    obtain ⟨nv5, ns5, rfl, hb5, htr, hfl⟩ := hn
    have hnd := htr.ndl
    rw [hfl, HNL.out] at hnd
    have HNA5 := Lib.hid (hnd.nda (Nat.le_refl _))
    have HB5 := Lib.hid (below_next HB4.out hb5)
    have HV5 := Lib.hid (HV4.out.below hb5)
    clear hb5 htr hfl hnd
    obtain ⟨ao5, cap5, rfl, -, -, -⟩ := HNA5.out
    rw [← HM.out] at HNA5 ⊢
    go_wp2_with fail
    refine (same_same _ _ l _ HV5.out HNA5.out).mono ?_
    rintro e w8 ⟨rfl, hb8⟩
    have HB8 := Lib.hid (below_next HB5.out hb8)
    clear hb8
    go_wp2_with fail
    go_ret
    exact ⟨rfl, HB8.out⟩
end Go.Proofs.YtgfmiladfeoldaaGreatDoor
namespace Go.Proofs.YtgfmiladfeoldaaGreatDoor
open Go.ChangeShapes Go.WideShapes Go.ChangeAt Go.RowKit
theorem own : ownKnob Tryz.prog.godebug = none := by kernel_rfl
theorem kidsS : Kids Tryz.prog (· < Tryz.prog.types.size) := kids_rows (by kernel_rfl) (by kernel_rfl)
theorem fullS : ∀ t e, t < Tryz.prog.types.size → Tryz.prog.underlying t = some (.slice e) → 0 < Tryz.prog.cellsOf e := slices_full_of Tryz.prog (by kernel_rfl)
theorem gSigns : Tryz.prog.globalNamed "trellis/radix.signs" = some 4 := by kernel_rfl
theorem tSigns : (Tryz.prog.globals[4]?).map (·.type) = some 258 := by kernel_rfl
theorem uSigns : Tryz.prog.underlying 258 = some (.array 36 5) := by kernel_rfl
theorem uU8 : Tryz.prog.underlying 5 = some (.int .u8) := by kernel_rfl
theorem cU8 : Tryz.prog.cellsOf 5 = 1 := by kernel_rfl
theorem cSigns : Tryz.prog.cellsOf 258 = 36 := by kernel_rfl
def signZs : List Int := [48, 49, 50, 51, 52, 53, 54, 55, 56, 57, 97, 98, 99, 100, 101, 102, 103, 104, 105, 106, 107, 108, 109, 110, 111, 112, 113, 114, 115, 116, 117, 118, 119, 120, 121, 122]
def laid1 : List (String × DataW Unit) := [("trellis/radix.signs", Rows.laid_trellis_radix_signs)]
theorem lx_of_shaped {w : World} (h : w.ShapedOpen Tryz.prog) : Lx w :=
 Go.Proofs.cell_of_shapedOpen_int (zero := #[.int .i64 0]) (t := 3) h (of_decide_eq_true (by kernel_rfl)) (by kernel_rfl) rfl (by kernel_rfl) (by kernel_rfl) (by kernel_rfl)
theorem sg_of_laid {w : World} (h : laidMetH Tryz.prog laid1 w) : SG w ∧ 4 < w.heap.size := by
 rw [MakeChecks.laidMetH_plain _ _ _ (by kernel_rfl)] at h
 have ht : Lib.TabIs Tryz.prog w "trellis/radix.signs" .u8 signZs := Lib.tabIs_of_head (zs := signZs) gSigns tSigns uSigns uU8 cU8 cSigns h
 have hs : SG w := by
  intro d hd
  have h2 := World.var?_cell gSigns ht d
  rw [h2]
  match d, hd with
  | 0, _ => rfl
  | 1, _ => rfl
  | 2, _ => rfl
  | 3, _ => rfl
  | 4, _ => rfl
  | 5, _ => rfl
  | 6, _ => rfl
  | 7, _ => rfl
  | 8, _ => rfl
  | 9, _ => rfl
 exact ⟨hs, World.block_lt_of_cell? w _ (hs 0 (by omega))⟩
noncomputable def laidWorld (os : Os) : World :=
 { World.holding Tryz.prog os ⟨#[], #[], []⟩ with heap := (World.holding Tryz.prog os ⟨#[], #[], []⟩).heap.modify 4 fun
   | .cells _ t frozen => .cells (signZs.map fun z => Value.int .u8 z).toArray t frozen
   | o => o }
theorem laid_met (os : Os) (args : Array Value) : laidMetH Tryz.prog laid1 ((laidWorld os).forCall (fun _ _ => 0) ⟨#[], args, []⟩).memory := by
 rw [MakeChecks.laidMetH_plain _ _ _ (by kernel_rfl)]
 exact laidMet_of_run' 8 (by kernel_rfl) (by kernel_rfl)
theorem bulk {H : Type} {l : List (DataW H)} (hk : Rows.uptoSmall H l = true) : Rows.uptoBulkAll l ≤ 1048576 := of_decide_eq_true hk
end Go.Proofs.YtgfmiladfeoldaaGreatDoor
