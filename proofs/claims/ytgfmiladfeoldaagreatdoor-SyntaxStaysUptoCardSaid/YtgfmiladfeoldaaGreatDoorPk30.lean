/- Joined texts of this claim's proof: StF. -/
import Derived.Test.YtgfmiladfeoldaaGreatDoorPk22
import Derived.Test.YtgfmiladfeoldaaGreatDoorPk23
import Derived.Test.YtgfmiladfeoldaaGreatDoorPk24
import Derived.Test.YtgfmiladfeoldaaGreatDoorPk25
import Derived.Test.YtgfmiladfeoldaaGreatDoorPk28
set_option linter.unusedSimpArgs false
set_option linter.unusedVariables false
namespace Go.Proofs.YtgfmiladfeoldaaGreatDoor
open Go.RowKit NatP LexP
def StL1 (w2 : World) (E GA B n : Nat) (l : List (Bool × List Nat)) (wv iv : Value) (wr : World) : Prop := ∃ (i : Nat) (sh : Shp), iv = .int .i64 (i : Nat) ∧ i ≤ n ∧ sh.length = i ∧ RowW wr B wv sh ∧ AtW wr GA n B l sh ∧ Wr GA (some E) w2 wr ∧ Mv w2 (some E) wv.ownBlock
theorem RowW.other {w w' : World} {B : Nat} {wv : Value} {sh : Shp} (hr : RowW w B wv sh) (hg : w.grownBy w' wv.ownBlock) {k : Nat} {c : Array Value} (hc : w.heap[k]? = some (.cells c 101 (0, 0))) : w'.heap[k]? = w.heap[k]? := by
 refine hg.block k (Array.getElem?_eq_some_iff.1 hc).1 fun e => ?_
 rcases hr.2 with ⟨e', -⟩ | ⟨g, cap, cur, rfl, -, hgg, -⟩
 ·rw [e'] at e; cases e
 ·cases e
  rw [hgg] at hc; simp at hc
theorem RowL.other {w w' : World} {B : Nat} {lv : Value} {hs : Shp} (hr : RowL w B lv hs) (hg : w.grownBy w' lv.ownBlock) {k : Nat} {c : Array Value} (hc : w.heap[k]? = some (.cells c 3 (0, 0))) : w'.heap[k]? = w.heap[k]? := by
 refine hg.block k (Array.getElem?_eq_some_iff.1 hc).1 fun e => ?_
 rcases hr.2 with ⟨e', -⟩ | ⟨g, cap, cur, rfl, -, hgg, -⟩
 ·rw [e'] at e; cases e
 ·cases e
  rw [hgg] at hc; simp at hc
def StL2 (wB : World) (GH E2 B m : Nat) (fs : List (List Int)) (lv jv : Value) (wr : World) : Prop := ∃ (j : Nat) (hs : Shp), jv = .int .i64 (j : Nat) ∧ j ≤ m ∧ hs.length = j ∧ RowL wr B lv hs ∧ HoldW wr GH m B fs hs ∧ Wr GH (some E2) wB wr ∧ Mv wB (some E2) lv.ownBlock
set_option maxRecDepth 100000 in
set_option maxHeartbeats 8000000 in
theorem stays_walk (r c r2 c2 : Int) (l : List (Bool × List Nat)) (ql : List FW) (fs : List (List Int)) (av qv fv : Value) (w : World) (hx : Lx w) (hs : SG w) (hsz : 4 < w.heap.size) (ha : IWw w av l) (hq : QWw w qv ql) (hf : FRd w fv fs)
    (hl : l.length ≤ 1048576) (hll : ∀ p ∈ l, p.2.length ≤ 1048576) (hql : ql.length ≤ 1048576) (hqll : ∀ p ∈ ql, p.1.2.length ≤ 1048576 ∧ p.2.2.length ≤ 1048576) (hfl : fs.length ≤ 1048575) (hfll : ∀ ks ∈ fs, ks.length ≤ 1048575 ∧ ∀ k ∈ ks, k ≤ 9223372036854775807) :
    Calls Tryz.prog 7 #[.agg #[.int .i64 r, .int .i64 c, av], .agg #[.int .i64 r2, .int .i64 c2, qv], fv] w fun e w' => e = .returned (.bool true) ∧ Below w.heap.size w w' := by
  have HX := Lib.hid hx
  have HS := Lib.hid hs
  have HA := Lib.hid ha
  have HQ := Lib.hid hq
  have HF := Lib.hid hf
  have HLL := Lib.hid hll
  have HQLL := Lib.hid hqll
  have HFLL := Lib.hid hfll
  obtain ⟨ao, cap, rfl, -, hcm, -⟩ := ha
  obtain ⟨qo, qcap, rfl, -, -, -⟩ := hq
  obtain ⟨fo, fcap, rfl, -, -, -⟩ := hf
  obtain ⟨n, hn⟩ : ∃ n, n = l.length := ⟨_, rfl⟩
  obtain ⟨qn, hqn⟩ : ∃ qn, qn = ql.length := ⟨_, rfl⟩
  obtain ⟨m, hm⟩ : ∃ m, m = fs.length := ⟨_, rfl⟩
  rw [← hn] at hl ⊢
  rw [← hqn] at hql ⊢
  rw [← hm] at hfl ⊢
  have HN := Lib.hid hn
  have HQN := Lib.hid hqn
  have HM := Lib.hid hm
  obtain ⟨w0, hw0⟩ : ∃ w0, w0 = (w.alloc (.cells #[.int .i64 r, .int .i64 c, .slice ao n cap] 47)).alloc (.cells #[.int .i64 r2, .int .i64 c2, .slice qo qn qcap] 58) := ⟨_, rfl⟩
  have hb0 : Below w.heap.size w w0 := by
    rw [hw0]
    exact (below_alloc w _).trans ((below_alloc _ _).mono (below_alloc w (.cells #[.int .i64 r, .int .i64 c, .slice ao n cap] 47)).size)
  obtain ⟨g3, hg3⟩ : ∃ g3, g3 = w.heap.size := ⟨_, rfl⟩
  have hbx3 : w0.heap[g3]? = some (.cells #[.int .i64 r, .int .i64 c, .slice ao n cap] 47 (0, 0)) := by
    rw [hw0, hg3]; exact ((below_alloc (w.alloc (.cells #[.int .i64 r, .int .i64 c, .slice ao n cap] 47)) _).block w.heap.size (by simp)).trans (heap_alloc_new w _)
  have hbx4 : w0.heap[g3 + 1]? = some (.cells #[.int .i64 r2, .int .i64 c2, .slice qo qn qcap] 58 (0, 0)) := by
    rw [hw0, hg3]
    have := heap_alloc_new (w.alloc (.cells #[.int .i64 r, .int .i64 c, .slice ao n cap] 47)) (.cells #[.int .i64 r2, .int .i64 c2, .slice qo qn qcap] 58)
    rw [World.size_alloc] at this; exact this
  have HW0 := Lib.hid hw0
  have HB0 := Lib.hid hb0
  have HG3 := Lib.hid hg3
  have HX3 := Lib.hid hbx3
  have HX4 := Lib.hid hbx4
  have hs0 : 4 < w0.heap.size := Nat.lt_of_lt_of_le hsz hb0.size
  have HWK := Lib.hid (wakes_w w0 (hx.below hb0) (hs.below hb0 hsz) hs0)
  have HMK := make_intq (n + 1) (by omega)
  rw [show (((n + 1 : Nat)) : Int) = (n : Int) + 1 by omega] at HMK
  have HCM := Lib.hid hcm
  obtain ⟨i0, hi, hz0, hz1, hz2⟩ := info_parts Tryz.infoWs
  clear hx hs hll hqll hfll hcm hn hqn hm hw0 hb0 hg3 hbx3 hbx4
  go_enter Tryz.func7, Tryz.ntmps7
  go_wp2_with fail
  rw [← HW0.out, ← HG3.out]
  refine HWK.out.mono ?_
  rintro e w1 ⟨rfl, b1⟩
  have hg3l : g3 + 1 < w0.heap.size := (Array.getElem?_eq_some_iff.1 HX4.out).1
  have HB1 := Lib.hid (HB0.out.trans (b1.mono HB0.out.size))
  have hx3 := (b1.block g3 (by omega)).trans HX3.out
  have hx4 := (b1.block (g3 + 1) hg3l).trans HX4.out
  have k0 : w1.cell? ⟨g3, 0, none⟩ = some (.int .i64 r) := (cell_of_row w1 _ _ _ _ _ hx3).trans rfl
  have k1 : w1.cell? ⟨g3, 1, none⟩ = some (.int .i64 c) := (cell_of_row w1 _ _ _ _ _ hx3).trans rfl
  have k2 : w1.cell? ⟨g3, 2, none⟩ = some (.slice ao n cap) := (cell_of_row w1 _ _ _ _ _ hx3).trans rfl
  have HX31 := Lib.hid hx3
  have HX41 := Lib.hid hx4
  obtain ⟨wA, hwA⟩ : ∃ wA, wA = (w1.alloc (.cells #[] 59)).alloc (.cells #[.int .i64 r, .int .i64 c, .slice none 0 0] 47) := ⟨_, rfl⟩
  have ba : Below w1.heap.size w1 ((w1.alloc (.cells #[] 59)).alloc (.cells #[.int .i64 r, .int .i64 c, .slice none 0 0] 47)) := (below_alloc w1 _).trans ((below_alloc _ _).mono (below_alloc w1 (.cells #[] 59)).size)
  have kA2 := cell_keep ba k2
  clear b1 hx3 hx4 HX3 HX4 HWK hwA
  go_wp2_with fail
  obtain ⟨E, hE⟩ : ∃ E, E = w1.heap.size := ⟨_, rfl⟩
  obtain ⟨p7, hp7⟩ : ∃ p7, p7 = E + 1 := ⟨_, rfl⟩
  obtain ⟨GA, hGA⟩ : ∃ GA, GA = E + 1 + 1 := ⟨_, rfl⟩
  obtain ⟨w2, hw2⟩ : ∃ w2, w2 = ((w1.alloc (.cells #[] 59)).alloc (.cells #[.int .i64 r, .int .i64 c, .slice none 0 0] 47)).alloc (.cells (madeCells #[.bool false, .slice none 0 0] ((n + 1) * 2)) 62) := ⟨_, rfl⟩
  have b2 : Below w1.heap.size w1 w2 := by rw [hw2]; exact ba.trans ((below_alloc _ _).mono ba.size)
  have hAt : AtW w2 GA n w.heap.size l [] := by
    refine ⟨madeCells #[.bool false, .slice none 0 0] ((n + 1) * 2), ?_, by simp [madeCells], fun j s h => by simp at h⟩
    have := heap_alloc_new ((w1.alloc (.cells #[] 59)).alloc (.cells #[.int .i64 r, .int .i64 c, .slice none 0 0] 47)) (.cells (madeCells #[.bool false, .slice none 0 0] ((n + 1) * 2)) 62)
    rw [World.size_alloc, World.size_alloc, ← hE, ← hGA, ← hw2] at this
    exact this
  have hp : w2.heap[p7]? = some (.cells #[.int .i64 r, .int .i64 c, .slice none 0 0] 47 (0, 0)) := by
    have := heap_alloc_new (w1.alloc (.cells #[] 59)) (.cells #[.int .i64 r, .int .i64 c, .slice none 0 0] 47)
    rw [World.size_alloc, ← hE, ← hp7] at this
    rw [hw2]
    exact ((below_alloc _ _).block p7 (by simp; omega)).trans this
  have hRow : RowW w2 w.heap.size (.slice (some ⟨E, 0, none⟩) 0 0) [] := by
    refine ⟨rfl, .inr ⟨E, 0, #[], rfl, by rw [hE]; exact HB1.out.size, ?_, Nat.le_refl _, by unfold maxLen; omega, rfl, rfl⟩⟩
    rw [hw2, hE]
    exact ((below_alloc _ _).block w1.heap.size (by simp; omega)).trans (((below_alloc _ _).block w1.heap.size (by simp)).trans (heap_alloc_new w1 _))
  rw [← hw2, ← hE, ← hGA, ← hp7]
  have HE := Lib.hid hE
  have HP7 := Lib.hid hp7
  have HGA := Lib.hid hGA
  have HB2 := Lib.hid b2
  have HAT := Lib.hid hAt
  have HPB := Lib.hid hp
  have HROW := Lib.hid hRow
  have HW1 := Lib.hid HB1.out.size
  clear hE hp7 hGA hw2 b2 hAt hp hRow ba kA2 k0 k1 k2 HMK HW0 HB0
  go_loopw [8, 10] (fun wv iv wr => StL1 w2 E GA w.heap.size n l wv iv wr) (fun _ iv _ => n - (intOf iv).toNat)
  case atStart => exact ⟨0, [], rfl, Nat.zero_le _, rfl, HROW.out, HAT.out, Wr.refl _ _ _, Mv.refl _ _⟩
  clear HROW HAT
  case round =>
    obtain ⟨i, sh, rfl, hin, hlen, hrow, hat, hwr, hmv⟩ := hrel
    have HLEN := Lib.hid hlen
    have HROW := Lib.hid hrow
    have HAT := Lib.hid hat
    have HWR := Lib.hid hwr
    have HMV := Lib.hid hmv
    have hEl : E = w1.heap.size := HE.out
    have hbw : Below w.heap.size w wr := HWR.out.to_below (HB1.out.trans (HB2.out.mono HW1.out)) (Nat.le_trans HW1.out HB2.out.size) (by have := HGA.out; have := HW1.out; omega) (fun k hk => by cases hk; rw [hEl]; exact HW1.out)
    have hx3 : wr.heap[g3]? = some (.cells #[.int .i64 r, .int .i64 c, .slice ao n cap] 47 (0, 0)) := by
      have h1 := (Array.getElem?_eq_some_iff.1 HX31.out).1
      refine (hwr.block g3 (Nat.lt_of_lt_of_le h1 HB2.out.size) (by have := HGA.out; omega) (by simp; omega)).trans ((HB2.out.block g3 h1).trans HX31.out)
    have k2 : wr.cell? ⟨g3, 2, none⟩ = some (.slice ao n cap) := (cell_of_row wr _ _ _ _ _ hx3).trans rfl
    have HBW := Lib.hid hbw
    have HX3 := Lib.hid hx3
    have hzw := hbw.size
    by_cases hlt : i < n
    · obtain ⟨e, he⟩ : ∃ e, l[i]? = some e := ⟨_, List.getElem?_eq_getElem (by rw [← HN.out]; exact hlt)⟩
      obtain ⟨b, xs⟩ := e
      obtain ⟨ao', cap', e', -, -, hc⟩ := HA.out.below hbw
      rw [← HN.out] at e'; cases e'
      obtain ⟨ga, o, rfl, hga, hc2⟩ := hc (by rw [← HN.out]; omega)
      obtain ⟨m1, e0, e1, hrd⟩ := hc2 i _ he
      obtain ⟨mo, mcap, rfl, -, -, -, -⟩ := hrd.2
      simp only at e0 e1 hrd
      have hxl := HLL.out _ (List.mem_of_getElem? he)
      simp only at hxl
      have HEE := Lib.hid he
      have HRD := Lib.hid hrd
      have hi0 : (0 : Int) ≤ (i : Int) := Int.natCast_nonneg _
      have hi1 : (i : Int) < (n : Int) := by omega
      clear he hrd hc hc2 hrow hat hwr hmv hbw hx3 hlen hEl
      go_wp2_with fail
      refine (roomy_any _ xs _ HRD.out (by omega)).mono ?_
      rintro e w3 ⟨rfl, hblk, b3⟩
      obtain ⟨gi, hgi⟩ : ∃ gi, gi = wr.heap.size := ⟨_, rfl⟩
      rw [← hgi] at hblk ⊢
      have hA4 := below_alloc w3 (.cells #[.slice (some ⟨gi, 0, none⟩) (xs.length + 80) (xs.length + 80)] 59)
      have b4 : Below wr.heap.size wr (w3.alloc (.cells #[.slice (some ⟨gi, 0, none⟩) (xs.length + 80) (xs.length + 80)] 59)) := b3.trans (hA4.mono b3.size)
      have HROW4 := Lib.hid (HROW.out.below b4)
      have HAT4 := Lib.hid (HAT.out.below b4)
      have HBLK4 := Lib.hid (hblk.below hA4 hblk.lt)
      have HB4 := Lib.hid b4
      have HGI := Lib.hid hgi
      have hOW : (w3.alloc (.cells #[.slice (some ⟨gi, 0, none⟩) (xs.length + 80) (xs.length + 80)] 59)).ownsRow w.heap.size 59 1 u8 i (sh.map fun s => Value.slice (some ⟨s.1, 0, none⟩) s.2.2 s.2.2) := by
        have := HROW4.out
        unfold RowW at this
        rw [HLEN.out] at this; exact this
      have HOW := Lib.hid hOW
      have hz3 : w.heap.size ≤ w3.heap.size := Nat.le_trans hzw b3.size
      clear hblk hA4 b4 hgi hOW b3 k2 e0 e1
      go_wp2_with (at_builtin; refine wpList_append_lies _ rfl _ _ 36 rfl w.heap.size 59 i0 (.slice none 0 0) 1 24 Tryz.underlying36 hi hz0 hz1 hz2 rfl (by omega) u8 i _ rfl HOW.out ⟨w3.heap.size, 0, none⟩ 1 1 [.slice (some ⟨gi, 0, none⟩) (xs.length + 80) (xs.length + 80)] rfl rfl (LexP.cells_new _ _ _ _ rfl) (by simp [Value.oneCell']) (by omega) (by unfold maxLen; omega) (by omega) (by simp; omega) (w3.heap.size + 1) (by simp) ?_)
      intro gg capg w5 hown5 hgrow hat5 hlt5
      have hrow5 : RowW w5 w.heap.size (.slice (some ⟨gg, 0, none⟩) (i + 1) capg) (sh ++ [(gi, xs.length, xs.length + 80)]) := by
        unfold RowW
        rw [show (sh ++ [(gi, xs.length, xs.length + 80)]).length = i + 1 by rw [List.length_append, HLEN.out]; rfl, List.map_append]
        exact hown5
      have hat' := HAT4.out.grown HROW4.out hgrow
      have hblk5 : Blk w5 gi (roomL xs) := ⟨(HROW4.out.other hgrow HBLK4.out.1).trans HBLK4.out.1, HBLK4.out.2⟩
      have hwr5 : Wr GA (some E) w2 w5 := HWR.out.trans HMV.out ((Wr.of_below HB4.out).trans (Mv.refl _ _) (Wr.of_grown hgrow))
      have hmv5 : Mv w2 (some E) (Value.slice (some ⟨gg, 0, none⟩) (i + 1) capg).ownBlock := fun k hk => by
        cases hk
        rcases hat5 with h | h
        · exact HMV.out _ h
        · have h1 := HWR.out.size
          have h2 := HB4.out.size
          have h3 := hlt5
          rw [World.size_alloc] at h2
          exact .inr (by show w2.heap.size ≤ gg; omega)
      have hEl : E = w1.heap.size := HE.out
      have hbel5 : Below w.heap.size w w5 := hwr5.to_below (HB1.out.trans (HB2.out.mono HW1.out)) (Nat.le_trans HW1.out HB2.out.size) (by have := HGA.out; have := HW1.out; omega) (fun k hk => by cases hk; rw [hEl]; exact HW1.out)
      have hx35 : w5.heap[g3]? = some (.cells #[.int .i64 r, .int .i64 c, .slice (some ⟨ga, o, none⟩) n cap] 47 (0, 0)) := by
        have h1 := (Array.getElem?_eq_some_iff.1 HX31.out).1
        exact (hwr5.block g3 (Nat.lt_of_lt_of_le h1 HB2.out.size) (by have := HGA.out; omega) (by rw [hEl]; simp; omega)).trans ((HB2.out.block g3 h1).trans HX31.out)
      obtain ⟨ao', cap', e', -, -, hc⟩ := HA.out.below hbel5
      rw [← HN.out] at e'; cases e'
      obtain ⟨ga', o', e', hga', hc2⟩ := hc (by rw [← HN.out]; omega)
      cases e'
      obtain ⟨m1, e0, e1, hrd5⟩ := hc2 i _ HEE.out
      obtain ⟨mo5, mcap5, rfl, -, -, -, -⟩ := hrd5.2
      simp only at e0 e1
      have hgal : ga < w.heap.size := by
        obtain ⟨ao'', cap'', e'', -, -, hc''⟩ := HA.out
        rw [← HN.out] at e''; cases e''
        obtain ⟨ga'', o'', e'', hga'', -⟩ := hc'' (by rw [← HN.out]; omega)
        cases e''; exact hga''
      obtain ⟨cur, hq1, hq2, -⟩ := hat'
      have bd : Below w5.heap.size w5 w5.drew := (Below.refl w5.heap.size w5).drew
      have k2 : w5.cell? ⟨g3, 2, none⟩ = some (.slice (some ⟨ga, o, none⟩) n cap) := (cell_of_row w5 _ _ _ _ _ hx35).trans rfl
      have f0 : w5.frozen? ⟨GA, i * 2, none⟩ = false := frozen_of_row _ _ _ _ _ hq1
      have f1 : w5.frozen? ⟨GA, i * 2 + 1, none⟩ = false := frozen_of_row _ _ _ _ _ hq1
      have y0 : (w5.cell? ⟨GA, i * 2, none⟩).isSome = true := by rw [cell_of_row _ _ _ _ _ _ hq1, Array.getElem?_eq_getElem (by omega)]; rfl
      have y1 : (w5.cell? ⟨GA, i * 2 + 1, none⟩).isSome = true := by rw [cell_of_row _ _ _ _ _ _ hq1, Array.getElem?_eq_getElem (by omega)]; rfl
      have K2 := Lib.hid (cell_keep bd k2)
      have E0 := Lib.hid (cell_keep bd e0)
      have E1 := Lib.hid (cell_keep bd e1)
      have F0 := Lib.hid (fro_keep bd (Option.isSome_iff_exists.1 y0).choose_spec f0)
      have F1 := Lib.hid (fro_keep bd (Option.isSome_iff_exists.1 y1).choose_spec f1)
      have Y0 := Lib.hid (isSome_keep bd y0)
      have Y1 := Lib.hid (isSome_keep bd y1)
      have hne3 : g3 ≠ GA := by have := HGA.out; have := (Array.getElem?_eq_some_iff.1 HX31.out).1; omega
      have hnea : ga ≠ GA := by have := HGA.out; have := HW1.out; omega
      have hbl5 : w.heap.size ≤ gi := by rw [HGI.out]; exact hzw
      have hatw : AtW w5 GA n w.heap.size l sh := HAT4.out.grown HROW4.out hgrow
      have HATS := Lib.hid (hatw.set HLEN.out hlt HEE.out hbl5 hblk5)
      have HROWS := Lib.hid (hrow5.wr ((Wr.of_set w5 (i * 2) (.bool b)).trans (Mv.refl _ _) (Wr.of_set _ (i * 2 + 1) (.slice (some ⟨gi, 0, none⟩) xs.length (xs.length + 80)))) ⟨cur, hq1⟩)
      have HWRS : Hid (Wr GA (some E) w2 ((w5.setCell ⟨GA, i * 2, none⟩ (.bool b)).setCell ⟨GA, i * 2 + 1, none⟩ (.slice (some ⟨gi, 0, none⟩) xs.length (xs.length + 80)))) := hwr5.trans (Mv.refl _ _) ((Wr.of_set w5 (i * 2) (.bool b)).trans (Mv.refl _ _) (Wr.of_set _ (i * 2 + 1) (.slice (some ⟨gi, 0, none⟩) xs.length (xs.length + 80))))
      have HMVS := Lib.hid hmv5
      have hsl0 : (0 : Int) ≤ (xs.length : Int) := Int.natCast_nonneg _
      have hsl2 : (xs.length : Int) ≤ (xs.length : Int) + 80 := by omega
      have hsl1 : (xs.length : Int) ≤ ((xs.length + 80 : Nat) : Int) := by omega
      have hi2 : (i : Int) < (n : Int) + 1 := by omega
      have hi3 : (i : Int) < ((n + 1 : Nat) : Int) := by omega
      obtain ⟨v0, z0⟩ := Option.isSome_iff_exists.1 y0
      obtain ⟨v1, z1⟩ := Option.isSome_iff_exists.1 y1
      obtain ⟨U, hU⟩ := someU
      have HU := Lib.hid hU
      clear hown5 hgrow hat5 hlt5 hrow5 hblk5 hwr5 hmv5 hEl hbel5 hx35 hc hc2 hrd5 hga' hq1 hq2 bd hU hatw y0 y1
      go_wp2_with fail
      go_region_held3 (fun w' => w'.cell? ⟨g3, 2, none⟩ = some (.slice (some ⟨ga, o, none⟩) n cap) ∧ w'.cell? ⟨ga, o + i * 2, none⟩ = some (.bool b) ∧ w'.cell? ⟨ga, o + i * 2 + 1, none⟩ = some (.slice mo5 xs.length mcap5) ∧ w'.frozen? ⟨GA, i * 2, none⟩ = false ∧ w'.frozen? ⟨GA, i * 2 + 1, none⟩ = false ∧ w'.cell? ⟨GA, i * 2, none⟩ = some (U GA (i * 2) w') ∧ w'.cell? ⟨GA, i * 2 + 1, none⟩ = some (U GA (i * 2 + 1) w'))
        (first
          | with_reducible exact ⟨K2.out, E0.out, E1.out, F0.out, F1.out, HU.out _ _ _ Y0.out, HU.out _ _ _ Y1.out⟩
          | (refine ⟨?_, ?_, ?_, ?_, ?_, HU.out _ _ _ (isSome_set' (isSome_set' ?_)), HU.out _ _ _ (isSome_set' (isSome_set' ?_))⟩
             · exact (set2_ne hne3 hne3).trans k2
             · exact (set2_ne hnea hnea).trans e0
             · exact (set2_ne hnea hnea).trans e1
             · exact set2_fro.trans f0
             · exact set2_fro.trans f1
             · exact Y0.out
             · exact Y1.out))
        (fail)
      have hfin : StL1 w2 E GA w.heap.size n l (.slice (some ⟨gg, 0, none⟩) (i + 1) capg) (.int .i64 ((i : Int) + 1)) ((w5.setCell ⟨GA, i * 2, none⟩ (.bool b)).setCell ⟨GA, i * 2 + 1, none⟩ (.slice (some ⟨gi, 0, none⟩) xs.length (xs.length + 80))).drew :=
        ⟨i + 1, _, by go_num, by omega, by rw [List.length_append, HLEN.out]; rfl, HROWS.out.below (Below.refl _ _).drew, HATS.out.below (Below.refl _ _).drew, HWRS.out.trans (Mv.refl _ _) (Wr.of_below (Below.refl _ _).drew), HMVS.out⟩
      have HFIN := Lib.hid hfin
      clear hfin k2 e0 e1 f0 f1 z0 z1
      go_wp2_with fail
      have hfin := HFIN.out
      first | exact ⟨hfin, by simp [intOf] <;> omega⟩ | exact ⟨by (repeat apply Exists.intro); exact ⟨hfin, rfl⟩, by simp [intOf] <;> omega⟩
    · have hie : i = n := by omega
      rw [hie] at HLEN
      clear hie
      obtain ⟨cur, hq1, hq2, -⟩ := hat
      have f0 : wr.frozen? ⟨GA, n * 2, none⟩ = false := frozen_of_row _ _ _ _ _ hq1
      have f1 : wr.frozen? ⟨GA, n * 2 + 1, none⟩ = false := frozen_of_row _ _ _ _ _ hq1
      obtain ⟨v0, z0⟩ : ∃ v0, wr.cell? ⟨GA, n * 2, none⟩ = some v0 := ⟨_, by rw [cell_of_row _ _ _ _ _ _ hq1, Array.getElem?_eq_getElem (by omega)]⟩
      obtain ⟨v1, z1⟩ : ∃ v1, wr.cell? ⟨GA, n * 2 + 1, none⟩ = some v1 := ⟨_, by rw [cell_of_row _ _ _ _ _ _ hq1, Array.getElem?_eq_getElem (by omega)]⟩
      have hp7l : p7 < w2.heap.size := (Array.getElem?_eq_some_iff.1 HPB.out).1
      have hpb : wr.heap[p7]? = some (.cells #[.int .i64 r, .int .i64 c, .slice none 0 0] 47 (0, 0)) := (hwr.block p7 hp7l (by have := HGA.out; have := HP7.out; omega) (by have := HP7.out; simp; omega)).trans HPB.out
      have p2 : wr.cell? ⟨p7, 2, none⟩ = some (.slice none 0 0) := (cell_of_row wr _ _ _ _ _ hpb).trans rfl
      have pf : wr.frozen? ⟨p7, 2, none⟩ = false := frozen_of_row _ _ _ _ _ hpb
      have hpG : p7 ≠ GA := by have := HGA.out; have := HP7.out; omega
      have hg3G : g3 ≠ GA := by have := HGA.out; have := (Array.getElem?_eq_some_iff.1 HX31.out).1; omega
      have hi2 : (n : Int) < (n : Int) + 1 := by omega
      have hi3 : (n : Int) < ((n + 1 : Nat) : Int) := by omega
      have hi4 : (n : Int) ≤ (n : Int) + 1 := by omega
      have hi5 : (n : Int) ≤ ((n + 1 : Nat) : Int) := by omega
      have HMK := run_make_row' (P := Tryz.prog) 38 41 (.slice none 0 0) 24 Tryz.underlying38 Tryz.infoLs rfl .i64 .i64 (m + 1) (by omega) (by omega)
      rw [show (((m + 1 : Nat)) : Int) = (m : Int) + 1 by omega] at HMK
      have hx4 : wr.heap[g3 + 1]? = some (.cells #[.int .i64 r2, .int .i64 c2, .slice qo qn qcap] 58 (0, 0)) := by
        have h1 := (Array.getElem?_eq_some_iff.1 HX41.out).1
        exact (hwr.block (g3 + 1) (Nat.lt_of_lt_of_le h1 HB2.out.size) (by have := HGA.out; omega) (by rw [hEl]; simp; omega)).trans ((HB2.out.block (g3 + 1) h1).trans HX41.out)
      have hGAl : w.heap.size ≤ GA := by have := HGA.out; have := HW1.out; omega
      have HGAB := Lib.hid hGAl
      have hp7l' : w.heap.size ≤ p7 := by have := HP7.out; have := HW1.out; omega
      have hstk := StK.start hx3 hx4 hpb HAT.out hrow HLEN.out hbw (by have := HP7.out; have := (Array.getElem?_eq_some_iff.1 HX31.out).1; omega) (by have := HP7.out; have := (Array.getElem?_eq_some_iff.1 HX41.out).1; omega) hGAl hp7l'
      have HSTK := Lib.hid hstk
      have hszw : ∀ x y z : Value, (((wr.setCell ⟨GA, n * 2, none⟩ x).setCell ⟨GA, n * 2 + 1, none⟩ y).setCell ⟨p7, 2, none⟩ z).heap.size = wr.heap.size := fun x y z => by simp [World.setCell]
      clear hrow hwr hmv hlen hEl hbw hx3 hx4 hq1 hq2 hpb hstk
      go_wp2_with fail
      obtain ⟨w6, hw6⟩ : ∃ w6, w6 = ((wr.setCell ⟨GA, n * 2, none⟩ (.bool true)).setCell ⟨GA, n * 2 + 1, none⟩ (.slice none 0 0)).setCell ⟨p7, 2, none⟩ (.slice (some ⟨GA, 0, none⟩) n (n + 1)) := ⟨_, rfl⟩
      rw [← hw6] at HSTK ⊢
      have h6 : w6.heap.size = wr.heap.size := by rw [hw6]; exact hszw _ _ _
      obtain ⟨GH, hGH⟩ : ∃ GH, GH = wr.heap.size := ⟨_, rfl⟩
      obtain ⟨E2, hE2⟩ : ∃ E2, E2 = GH + 1 := ⟨_, rfl⟩
      obtain ⟨wB, hwB⟩ : ∃ wB, wB = (w6.alloc (.cells (madeCells #[.slice none 0 0] (m + 1)) 41)).alloc (.cells #[] 41) := ⟨_, rfl⟩
      have b6 : Below w6.heap.size w6 wB := by rw [hwB]; exact (below_alloc w6 _).trans ((below_alloc _ _).mono (below_alloc w6 (.cells (madeCells #[.slice none 0 0] (m + 1)) 41)).size)
      have hgh : wB.heap[GH]? = some (.cells (madeCells #[.slice none 0 0] (m + 1)) 41 (0, 0)) := by
        rw [hwB, hGH, ← h6]
        exact ((below_alloc _ _).block w6.heap.size (by simp)).trans (heap_alloc_new w6 _)
      have he2 : wB.heap[E2]? = some (.cells #[] 41 (0, 0)) := by
        rw [hwB, hE2, hGH, ← h6]
        have := heap_alloc_new (w6.alloc (.cells (madeCells #[.slice none 0 0] (m + 1)) 41)) (.cells #[] 41)
        rw [World.size_alloc] at this
        exact this
      rw [← hwB, ← hGH, ← hE2]
      have HSTB := Lib.hid (HSTK.out.below b6)
      have hBH : w.heap.size ≤ GH := by rw [hGH]; exact hzw
      have HGHB := Lib.hid hBH
      have hRL : RowL wB w.heap.size (.slice (some ⟨E2, 0, none⟩) 0 0) [] := ⟨rfl, .inr ⟨E2, 0, #[], rfl, by omega, he2, Nat.le_refl _, by unfold maxLen; omega, rfl, rfl⟩⟩
      have hHW : HoldW wB GH m w.heap.size fs [] := ⟨_, hgh, by simp [madeCells], by simp [madeCells, Nat.mod_one], fun j s h => by simp at h⟩
      have HRL := Lib.hid hRL
      have HHW := Lib.hid hHW
      have HGH := Lib.hid hgh
      have HE2 := Lib.hid he2
      have HEQ2 := Lib.hid hE2
      obtain ⟨j0, hj0', hy0, hy1, hy2⟩ := info_parts Tryz.infoLs
      obtain ⟨k0i, hk0', hx0, hx1, hx2⟩ := info_parts Tryz.infoInt
      clear h6 hw6 hwB b6 hgh he2 hRL hHW hE2 hGH hszw HSTK HMK f0 f1 z0 z1 p2 pf
      go_loopw [13, 14] (fun lv jv wr => StL2 wB GH E2 w.heap.size m fs lv jv wr) (fun _ jv _ => m - (intOf jv).toNat)
      case atStart => exact ⟨0, [], rfl, Nat.zero_le _, rfl, HRL.out, HHW.out, Wr.refl _ _ _, Mv.refl _ _⟩
      clear HRL HHW
      case round =>
        obtain ⟨j, hs, rfl, hjm, hlen, hrow, hhw, hwr, hmv⟩ := hrel
        have HLEN2 := Lib.hid hlen
        have HROW2 := Lib.hid hrow
        have HHW := Lib.hid hhw
        have HWR2 := Lib.hid hwr
        have HMV2 := Lib.hid hmv
        have hbw : Below w.heap.size w wr := hwr.to_below HSTB.out.bel HSTB.out.bel.size hBH (fun k hk => by cases hk; have := HEQ2.out; omega)
        have HBW2 := Lib.hid hbw
        have hzr := hbw.size
        by_cases hjt : j < m
        · obtain ⟨fo', fcap', e', -, -, hc⟩ := HF.out.below hbw
          rw [← HM.out] at e' hc; cases e'
          obtain ⟨gf, of, rfl, hgf, hc2⟩ := hc (by omega)
          obtain ⟨u, e0, ks, hks, hka⟩ := hc2 j hjt
          have hka' := hka
          obtain ⟨so, scap, rfl, -, -, -⟩ := hka'
          obtain ⟨hkl, hkb⟩ := HFLL.out ks (List.mem_of_getElem? hks)
          have HKS := Lib.hid hks
          have HKA := Lib.hid (hka.below (below_alloc wr (.cells #[] 3)))
          have HNA := Lib.hid (heap_alloc_new wr (.cells #[] 3))
          have HBA := Lib.hid (below_alloc wr (.cells #[] 3))
          have k0 := cell_keep (below_alloc wr (.cells #[] 3)) e0
          have hi0 : (0 : Int) ≤ (j : Int) := Int.natCast_nonneg _
          have hi1 : (j : Int) < (m : Int) := by omega
          clear hc hc2 hks hka hrow hhw hwr hmv hbw hlen
          go_wp2_with (at_builtin; refine wpList_copy_own rfl _ _ rfl wr.heap.size rfl HNA.out (.slice so ks.length scap) ks rfl HKA.out (by omega) ?_)
          intro w3 g1 cap1 q1 b3
          have hb3 : Below wr.heap.size wr w3 := HBA.out.trans b3.out
          have hz3 := hb3.size
          have HA4 := Lib.hid (below_alloc w3 (.cells #[.int .i64 (-77)] 3))
          have hOW : (w3.alloc (.cells #[.int .i64 (-77)] 3)).ownsRow wr.heap.size 3 1 (.slice (some ⟨g1, 0, none⟩) ks.length cap1) ks.length (ks.map fun k => Value.int .i64 k) := q1.out.alloc _
          have HOW := Lib.hid hOW
          have HB3 := Lib.hid hb3
          clear hOW hb3 q1 b3 k0 e0
          go_wp2_with (at_builtin; refine wpList_append_lies _ rfl _ _ 41 rfl wr.heap.size 3 k0i (.int .i64 0) 1 8 Tryz.underlying41 hk0' hx0 hx1 hx2 rfl (by omega) (.slice (some ⟨g1, 0, none⟩) ks.length cap1) ks.length _ rfl HOW.out ⟨w3.heap.size, 0, none⟩ 1 1 [.int .i64 (-77)] rfl rfl (LexP.cells_new _ _ _ _ rfl) (by simp [Value.oneCell']) (by omega) (by unfold maxLen; omega) (by omega) (by simp; omega) (w3.heap.size + 1) (by simp) ?_)
          intro g2 cap2 w4 hown4 hgrow4 hat4 hlt4
          obtain ⟨ib, ib1, ib2, ib3⟩ := IntB.of_row (K := ks ++ [-77]) (by rw [List.map_append]; exact hown4) (by simp)
          have hb4 : Below wr.heap.size wr w4 := Below.grown (HB3.out.trans (HA4.out.mono hz3)) hgrow4 (HB3.out.trans (HA4.out.mono hz3)).size (fun q hq => (HOW.out.lt q hq).1)
          have hz4 := hb4.size
          have hA5 := below_alloc w4 (.cells #[.slice (some ⟨g2, 0, none⟩) (ks.length + 1) cap2] 41)
          have hb5 : Below wr.heap.size wr (w4.alloc (.cells #[.slice (some ⟨g2, 0, none⟩) (ks.length + 1) cap2] 41)) := hb4.trans (hA5.mono hz4)
          have HB5 := Lib.hid hb5
          have HROW5 := Lib.hid (HROW2.out.below hb5)
          have HHW5 := Lib.hid (HHW.out.below hb5)
          have hIB5 : IntB (w4.alloc (.cells #[.slice (some ⟨g2, 0, none⟩) (ks.length + 1) cap2] 41)) g2 (ks ++ [-77]) := by
            obtain ⟨d, d1, d2⟩ := ib
            exact ⟨d, (hA5.block g2 (Array.getElem?_eq_some_iff.1 d1).1).trans d1, d2⟩
          have HIB5 := Lib.hid hIB5
          have hOW5 : (w4.alloc (.cells #[.slice (some ⟨g2, 0, none⟩) (ks.length + 1) cap2] 41)).ownsRow w.heap.size 41 1 u13 j (hs.map fun s => Value.slice (some ⟨s.1, 0, none⟩) (s.2.1 + 1) s.2.2) := by
            have := HROW5.out
            unfold RowL at this
            rw [HLEN2.out] at this; exact this
          have HOW5 := Lib.hid hOW5
          have hzw4 : w.heap.size ≤ w4.heap.size := Nat.le_trans hzr hz4
          clear hown4 hgrow4 hat4 hlt4 ib hb4 hA5 hb5 hIB5 hOW5 HOW
          go_wp2_with (at_builtin; refine wpList_append_lies _ rfl _ _ 38 rfl w.heap.size 41 j0 (.slice none 0 0) 1 24 Tryz.underlying38 hj0' hy0 hy1 hy2 rfl (by omega) u13 j _ rfl HOW5.out ⟨w4.heap.size, 0, none⟩ 1 1 [.slice (some ⟨g2, 0, none⟩) (ks.length + 1) cap2] rfl rfl (LexP.cells_new _ _ _ _ rfl) (by simp [Value.oneCell']) (by omega) (by unfold maxLen; omega) (by omega) (by simp; omega) (w4.heap.size + 1) (by simp) ?_)
          intro g6 cap6 w6 hown6 hgrow6 hat6 hlt6
          have hrow6 : RowL w6 w.heap.size (.slice (some ⟨g6, 0, none⟩) (j + 1) cap6) (hs ++ [(g2, ks.length, cap2)]) := by
            unfold RowL
            rw [show (hs ++ [(g2, ks.length, cap2)]).length = j + 1 by rw [List.length_append, HLEN2.out]; rfl, List.map_append]
            exact hown6
          have hGHl : GH < wB.heap.size := (Array.getElem?_eq_some_iff.1 HGH.out).1
          have hown13 : u13.ownBlock ≠ some GH := fun e => by
            rcases HMV2.out GH e with h | h
            · simp at h; have := HEQ2.out; omega
            · omega
          have hhw6 := HHW5.out.grown HROW5.out hgrow6 hown13
          have hib6 : IntB w6 g2 (ks ++ [-77]) := by
            obtain ⟨d, d1, d2⟩ := HIB5.out
            exact ⟨d, (HROW5.out.other hgrow6 d1).trans d1, d2⟩
          have hwr6 : Wr GH (some E2) wB w6 := HWR2.out.trans HMV2.out ((Wr.of_below HB5.out).trans (Mv.refl _ _) (Wr.of_grown hgrow6))
          have hg6 : g6 ≠ GH := by
            rcases hat6 with h | h
            · exact fun e => hown13 (by rw [h, e])
            · have h1 := HWR2.out.size
              omega
          have hmv6 : Mv wB (some E2) (Value.slice (some ⟨g6, 0, none⟩) (j + 1) cap6).ownBlock := fun k hk => by
            cases hk
            rcases hat6 with h | h
            · exact HMV2.out _ h
            · have h1 := HWR2.out.size
              exact .inr (by show wB.heap.size ≤ g6; omega)
          have hbel6 : Below w.heap.size w w6 := hwr6.to_below HSTB.out.bel HSTB.out.bel.size hBH (fun k hk => by cases hk; have := HEQ2.out; omega)
          obtain ⟨fo', fcap', e', -, -, hc⟩ := HF.out.below hbel6
          rw [← HM.out] at e' hc; cases e'
          obtain ⟨gf', of', e', hgf', hc2⟩ := hc (by omega)
          cases e'
          obtain ⟨u, e0, ks', hks', hka⟩ := hc2 j hjt
          rw [HKS.out] at hks'; cases hks'
          obtain ⟨so6, scap6, rfl, -, -, -⟩ := hka
          obtain ⟨cur6, p1, p2, -⟩ := id hhw6
          have f0 : w6.frozen? ⟨GH, j, none⟩ = false := frozen_of_row _ _ _ _ _ p1
          obtain ⟨v0, z0⟩ : ∃ v0, w6.cell? ⟨GH, j, none⟩ = some v0 := ⟨_, by rw [cell_of_row _ _ _ _ _ _ p1, Array.getElem?_eq_getElem (by omega)]⟩
          have hsl0 : (0 : Int) ≤ (ks.length : Int) := Int.natCast_nonneg _
          have hsl1 : (ks.length : Int) ≤ (cap2 : Int) := by omega
          have hi2 : (j : Int) < (m : Int) + 1 := by omega
          have hi3 : (j : Int) < ((m + 1 : Nat) : Int) := by omega
          have hset := hhw6.set (c := cap2) HLEN2.out hjt HKS.out (Nat.le_trans hzr ib1) hib6 ib2 ib3
          have hrws := hrow6.wr (GH := GH) (Wr.of_set (R := GH) (og := none) w6 j (.slice (some ⟨g2, 0, none⟩) ks.length cap2)) (fun e => hg6 (Option.some.inj e))
          have hfin : StL2 wB GH E2 w.heap.size m fs (.slice (some ⟨g6, 0, none⟩) (j + 1) cap6) (.int .i64 ((j : Int) + 1)) (w6.setCell ⟨GH, j, none⟩ (.slice (some ⟨g2, 0, none⟩) ks.length cap2)) :=
            ⟨j + 1, _, by go_num, by omega, by rw [List.length_append, HLEN2.out]; rfl, hrws, hset, hwr6.trans (Mv.refl _ _) (Wr.of_set w6 j _), hmv6⟩
          have HFIN := Lib.hid hfin
          clear hown6 hgrow6 hat6 hlt6 hrow6 hhw6 hib6 hwr6 hmv6 hbel6 hc hc2 p1 p2 hset hrws hfin
          go_wp2_with fail
          have hfin := HFIN.out
          first | exact ⟨hfin, by simp [intOf] <;> omega⟩ | exact ⟨by (repeat apply Exists.intro); exact ⟨hfin, rfl⟩, by simp [intOf] <;> omega⟩
        · have hje : j = m := by omega
          rw [hje] at HLEN2
          have hstk2 := HSTB.out.wr2 HWR2.out ⟨_, HGH.out⟩ ⟨_, HE2.out⟩ hBH (by have := HEQ2.out; omega)
          have HK := Lib.hid hstk2
          have HFH := Lib.hid (HHW.out.frd (c := m + 1) (by rw [HLEN2.out, HM.out]) (by rw [← HM.out]; omega) (by unfold maxLen; omega))
          have HSG1 := Lib.hid (HS.out.below HK.out.bel hsz)
          have HQW := Lib.hid (HQ.out.below HK.out.bel)
          rw [← HQN.out] at HQW
          have hsr : 4 < wr.heap.size := Nat.lt_of_lt_of_le hsz hzr
          have x0 : wr.cell? ⟨g3 + 1, 0, none⟩ = some (.int .i64 r2) := (cell_of_row wr _ _ _ _ _ HK.out.box4).trans rfl
          have x1 : wr.cell? ⟨g3 + 1, 1, none⟩ = some (.int .i64 c2) := (cell_of_row wr _ _ _ _ _ HK.out.box4).trans rfl
          have x2 : wr.cell? ⟨g3 + 1, 2, none⟩ = some (.slice qo qn qcap) := (cell_of_row wr _ _ _ _ _ HK.out.box4).trans rfl
          have HQN2 : Hid (ql.length ≤ 1073741824) := by show _ ≤ _; rw [← HQN.out]; omega
          have HQL2 : Hid (∀ p ∈ ql, p.1.2.length ≤ 1073741824 ∧ p.2.2.length ≤ 1073741824) := fun p hp => by have := HQLL.out p hp; omega
          have HLN2 : Hid (l.length ≤ 1073741824) := by show _ ≤ _; rw [← HN.out]; omega
          have HLL2 : Hid (∀ p ∈ l, p.2.length ≤ 1073741824) := fun p hp => by have := HLL.out p hp; omega
          have HIN : Hid ((ivs l).length ≤ 1073741824) := by show _ ≤ _; rw [ivs, List.length_map, ← HN.out]; omega
          have HQVN : Hid ((qvs ql).length ≤ 1073741824) := by show _ ≤ _; rw [qvs, List.length_map, ← HQN.out]; omega
          clear hje hrow hhw hwr hmv hlen hbw hstk2
          go_wp2_with fail
          refine (copyqmat_any r2 c2 ql _ _ HQW.out (by rw [← HQN.out]; omega) HQL2.out).mono ?_
          rintro e w7 ⟨u7', rfl, i7, b7⟩
          obtain ⟨qo7, qcap7, rfl, -⟩ := id i7
          obtain ⟨p16, hp16⟩ : ∃ p16, p16 = w7.heap.size := ⟨_, rfl⟩
          rw [← HQN.out]
          have a7 := below_alloc w7 (.cells #[.int .i64 r2, .int .i64 c2, .slice qo7 qn qcap7] 58)
          have n7 := heap_alloc_new w7 (.cells #[.int .i64 r2, .int .i64 c2, .slice qo7 qn qcap7] 58)
          rw [← hp16] at n7
          have hb8 := b7.trans (a7.mono b7.size)
          have H16 := Lib.hid n7
          have HI7 := Lib.hid (i7.below a7)
          have HB8 := Lib.hid hb8
          have HP16 := Lib.hid hp16
          have K8 := Lib.hid (HK.out.below hb8)
          have y0 : (w7.alloc (.cells #[.int .i64 r2, .int .i64 c2, .slice qo7 qn qcap7] 58)).cell? ⟨p7, 0, none⟩ = some (.int .i64 r) := (cell_of_row _ _ _ _ _ _ K8.out.b7).trans rfl
          have y1 : (w7.alloc (.cells #[.int .i64 r2, .int .i64 c2, .slice qo7 qn qcap7] 58)).cell? ⟨p7, 1, none⟩ = some (.int .i64 c) := (cell_of_row _ _ _ _ _ _ K8.out.b7).trans rfl
          have y2 : (w7.alloc (.cells #[.int .i64 r2, .int .i64 c2, .slice qo7 qn qcap7] 58)).cell? ⟨p7, 2, none⟩ = some (.slice (some ⟨GA, 0, none⟩) n (n + 1)) := (cell_of_row _ _ _ _ _ _ K8.out.b7).trans rfl
          clear x0 x1 x2 b7 a7 n7 hb8 i7 hp16
          go_wp2_with fail
          obtain ⟨w8, hw8⟩ : ∃ w8, w8 = w7.alloc (.cells #[.int .i64 r2, .int .i64 c2, .slice qo7 qn qcap7] 58) := ⟨_, rfl⟩
          rw [← hw8] at H16 HI7 HB8 K8
          rw [← hw8, ← HP16.out]
          clear hw8 y0 y1 y2
          have HIW8 := Lib.hid (K8.out.at_.iwd (m := n + 1) (by rw [HLEN.out, HN.out]) (by rw [← HN.out]; omega) (by unfold maxLen; omega) HLL.out)
          rw [← HN.out] at HIW8
          have HIR8 := Lib.hid (HIW8.out.ird (fun p hp => by have := HLL.out p hp; omega))
          refine (mt_any r c (ivs l) _ _ (HSG1.out.below HB8.out hsr) HIR8.out HIN.out).mono ?_
          rintro e w9 ⟨rfl, b9⟩
          obtain ⟨T1, hT1⟩ : ∃ T, T = mtT r c (ivs l) := ⟨_, rfl⟩
          obtain ⟨E1, hE1⟩ : ∃ E, E = mtE r c (ivs l) := ⟨_, rfl⟩
          rw [← hT1, ← hE1]
          have HT1 := Lib.hid hT1
          have HE1 := Lib.hid hE1
          have HC9 := Lib.hid b9
          have HB9 := Lib.hid (HB8.out.trans (b9.mono HB8.out.size))
          have K9 := Lib.hid (HK.out.below HB9.out)
          have HA9 := Lib.hid (HA.out.below K9.out.bel)
          rw [← HN.out] at HA9
          have z0 : w9.cell? ⟨g3, 0, none⟩ = some (.int .i64 r) := (cell_of_row _ _ _ _ _ _ K9.out.box3).trans rfl
          have z1 : w9.cell? ⟨g3, 1, none⟩ = some (.int .i64 c) := (cell_of_row _ _ _ _ _ _ K9.out.box3).trans rfl
          have z2 : w9.cell? ⟨g3, 2, none⟩ = some (.slice ao n cap) := (cell_of_row _ _ _ _ _ _ K9.out.box3).trans rfl
          clear hT1 hE1 b9
          go_wp2_with fail
          refine (copymat_any r c l _ _ HA9.out HLN2.out HLL2.out).mono ?_
          rintro e w10 ⟨u10, rfl, i10, b10⟩
          obtain ⟨mo10, mcap10, rfl, -⟩ := id i10
          have HC10 := Lib.hid (HC9.out.trans (b10.mono HC9.out.size))
          have HB10 := Lib.hid (HB9.out.trans (b10.mono HB9.out.size))
          have HIR10 := Lib.hid (i10.ird (fun p hp => by have := HLL.out p hp; omega))
          clear b10 i10 z0 z1 z2
          go_wp2_with fail
          refine (mt_any r c (ivs l) _ _ (HSG1.out.below HB10.out hsr) HIR10.out HIN.out).mono ?_
          rintro e w11 ⟨rfl, b11⟩
          rw [← HT1.out, ← HE1.out]
          have HC11 := Lib.hid (HC10.out.trans (b11.mono HC10.out.size))
          have HB11 := Lib.hid (HB10.out.trans (b11.mono HB10.out.size))
          have HFH11 := Lib.hid (HFH.out.below HB11.out)
          rw [← HM.out] at HFH11
          have hm0 : (0 : Int) ≤ (m : Int) := Int.natCast_nonneg _
          have hm1 : (m : Int) ≤ (m : Int) + 1 := by omega
          have hm2 : (m : Int) ≤ ((m + 1 : Nat) : Int) := by omega
          have hm3 : (m : Int) < (m : Int) + 1 := by omega
          have hm4 : (m : Int) < ((m + 1 : Nat) : Int) := by omega
          have hn3 : (n : Int) < (n : Int) + 1 := by omega
          have HFL2 : Hid (∀ ks ∈ fs, ks.length ≤ 1048576 ∧ ∀ k ∈ ks, k ≤ 9223372036854775807) := fun ks hks => ⟨by have := (HFLL.out ks hks).1; omega, (HFLL.out ks hks).2⟩
          have HFN2 : Hid (fs.length ≤ 1048576) := by show _ ≤ _; rw [← HM.out]; omega
          clear b11
          go_wp2_with fail
          refine (ct_any fs _ _ (HSG1.out.below HB11.out hsr) HFH11.out HFN2.out HFL2.out).mono ?_
          rintro e w12 ⟨rfl, b12⟩
          obtain ⟨T2, hT2⟩ : ∃ T, T = ctT fs := ⟨_, rfl⟩
          obtain ⟨E2', hE2'⟩ : ∃ E, E = ctE fs := ⟨_, rfl⟩
          rw [← hT2, ← hE2']
          have HT2 := Lib.hid hT2
          have HE2' := Lib.hid hE2'
          have HC12 := Lib.hid (HC11.out.trans (b12.mono HC11.out.size))
          have HB12 := Lib.hid (HB11.out.trans (b12.mono HB11.out.size))
          have HF12 := Lib.hid (HF.out.below (HK.out.below HB12.out).bel)
          rw [← HM.out] at HF12
          clear b12 hT2 hE2'
          go_wp2_with fail
          refine (copylists_any fs _ _ HF12.out (Nat.le_trans HFN2.out (by omega)) (fun ks hks => Nat.le_trans (HFL2.out ks hks).1 (by omega))).mono ?_
          rintro e w13 ⟨u13', rfl, i13, b13⟩
          have HI13 := Lib.hid i13
          obtain ⟨uo13, ucap13, rfl, -⟩ := i13
          have HC13 := Lib.hid (HC12.out.trans (b13.mono HC12.out.size))
          have HB13 := Lib.hid (HB12.out.trans (b13.mono HB12.out.size))
          clear b13
          go_wp2_with fail
          refine (ct_any fs _ _ (HSG1.out.below HB13.out hsr) HI13.out HFN2.out HFL2.out).mono ?_
          rintro e w14 ⟨rfl, b14⟩
          rw [← HT2.out, ← HE2'.out]
          have HC14 := Lib.hid (HC13.out.trans (b14.mono HC13.out.size))
          have HB14 := Lib.hid (HB13.out.trans (b14.mono HB13.out.size))
          have h16 := (HC14.out.block p16 (Array.getElem?_eq_some_iff.1 H16.out).1).trans H16.out
          have z0 : w14.cell? ⟨p16, 0, none⟩ = some (.int .i64 r2) := (cell_of_row _ _ _ _ _ _ h16).trans rfl
          have z1 : w14.cell? ⟨p16, 1, none⟩ = some (.int .i64 c2) := (cell_of_row _ _ _ _ _ _ h16).trans rfl
          have z2 : w14.cell? ⟨p16, 2, none⟩ = some (.slice qo7 qn qcap7) := (cell_of_row _ _ _ _ _ _ h16).trans rfl
          have HQR14 := Lib.hid ((HI7.out.below HC14.out).qrd HQLL.out)
          rw [← HQN.out] at HQR14
          clear b14 h16
          go_wp2_with fail
          refine (qm_any r2 c2 (qvs ql) _ _ (HSG1.out.below HB14.out hsr) HQR14.out HQVN.out).mono ?_
          rintro e w15 ⟨rfl, b15⟩
          obtain ⟨T3, hT3⟩ : ∃ T, T = qmT r2 c2 (qvs ql) := ⟨_, rfl⟩
          obtain ⟨E3, hE3⟩ : ∃ E, E = qmE r2 c2 (qvs ql) := ⟨_, rfl⟩
          rw [← hT3, ← hE3]
          have HT3 := Lib.hid hT3
          have HE3 := Lib.hid hE3
          have HC15 := Lib.hid (HC14.out.trans (b15.mono HC14.out.size))
          have HB15 := Lib.hid (HB14.out.trans (b15.mono HB14.out.size))
          have K15 := Lib.hid (HK.out.below HB15.out)
          have HQ15 := Lib.hid (HQ.out.below K15.out.bel)
          rw [← HQN.out] at HQ15
          have x0 : w15.cell? ⟨g3 + 1, 0, none⟩ = some (.int .i64 r2) := (cell_of_row _ _ _ _ _ _ K15.out.box4).trans rfl
          have x1 : w15.cell? ⟨g3 + 1, 1, none⟩ = some (.int .i64 c2) := (cell_of_row _ _ _ _ _ _ K15.out.box4).trans rfl
          have x2 : w15.cell? ⟨g3 + 1, 2, none⟩ = some (.slice qo qn qcap) := (cell_of_row _ _ _ _ _ _ K15.out.box4).trans rfl
          clear hT3 hE3 b15 z0 z1 z2
          go_wp2_with fail
          refine (copyqmat_any r2 c2 ql _ _ HQ15.out (by rw [← HQN.out]; omega) HQL2.out).mono ?_
          rintro e w16 ⟨u16', rfl, i16, b16⟩
          obtain ⟨qo16, qcap16, rfl, -⟩ := id i16
          have HC16 := Lib.hid (HC15.out.trans (b16.mono HC15.out.size))
          have HB16 := Lib.hid (HB15.out.trans (b16.mono HB15.out.size))
          have HQR16 := Lib.hid (i16.qrd HQLL.out)
          clear b16 i16 x0 x1 x2
          go_wp2_with fail
          refine (qm_any r2 c2 (qvs ql) _ _ (HSG1.out.below HB16.out hsr) HQR16.out HQVN.out).mono ?_
          rintro e w17 ⟨rfl, b17⟩
          rw [← HT3.out, ← HE3.out]
          have HC17 := Lib.hid (HC16.out.trans (b17.mono HC16.out.size))
          have HB17 := Lib.hid (HB16.out.trans (b17.mono HB16.out.size))
          have K17 := Lib.hid (HK.out.below HB17.out)
          have z2 : w17.cell? ⟨g3, 2, none⟩ = some (.slice ao n cap) := (cell_of_row _ _ _ _ _ _ K17.out.box3).trans rfl
          have zf : w17.cell? ⟨GA, n * 2, none⟩ = some (.bool true) := K17.out.flag
          have HHW17 := Lib.hid (HHW.out.below HB17.out)
          have HRL17 := Lib.hid (HROW2.out.below HB17.out)
          obtain ⟨cur17, v1, v2, v3, -⟩ := HHW17.out
          have zh : w17.cell? ⟨GH, m, none⟩ = some (.slice none 0 0) := by rw [cell_of_row _ _ _ _ _ _ v1]; exact v3
          have hn0 : (0 : Int) ≤ (n : Int) := Int.natCast_nonneg _
          have hn4 : (n : Int) < ((n + 1 : Nat) : Int) := by omega
          have HI17 := Lib.hid (HI7.out.below HC17.out)
          clear b17 v1 v2 v3
          go_wp2_with fail
          obtain ⟨wE, hwE⟩ : ∃ wE, wE = wr := ⟨_, rfl⟩
          subst hwE
          have hrow17 := K17.out.row
          unfold RowW at hrow17
          rw [HLEN.out] at hrow17
          obtain ⟨ao8, cap8, rfl, hc8, hcm8, hs8⟩ := ownsRow_shape hrow17
          have HS8 := Lib.hid hs8
          clear hrow17 hs8 z2 zf zh
          go_loopw [29] (fun kv wx => ∃ k : Nat, kv = .int .i64 (k : Nat) ∧ k ≤ n ∧ Below w17.heap.size w17 wx) (fun kv _ => n - (intOf kv).toNat)
          case atStart => exact ⟨0, rfl, Nat.zero_le _, Below.refl _ _⟩
          case round =>
            obtain ⟨k, rfl, hkn, hbx⟩ := hrel
            have HBX := Lib.hid hbx
            have KX := Lib.hid (K17.out.below hbx)
            have z2 : wr.cell? ⟨g3, 2, none⟩ = some (.slice ao n cap) := (cell_of_row _ _ _ _ _ _ KX.out.box3).trans rfl
            by_cases hlt3 : k < n
            · obtain ⟨e, he⟩ : ∃ e, l[k]? = some e := ⟨_, List.getElem?_eq_getElem (by rw [← HN.out]; exact hlt3)⟩
              obtain ⟨b, xs⟩ := e
              obtain ⟨ao', cap', e', -, -, hc⟩ := HA.out.below KX.out.bel
              rw [← HN.out] at e'; cases e'
              obtain ⟨ga, o, rfl, hga, hc2⟩ := hc (by rw [← HN.out]; omega)
              obtain ⟨m1, e0, e1, hrd⟩ := hc2 k _ he
              obtain ⟨mo, mcap, rfl, -, -, -, -⟩ := hrd.2
              simp only at e0 e1 hrd
              have hxl := HLL.out _ (List.mem_of_getElem? he)
              simp only at hxl
              obtain ⟨cur, a1, a2, a3⟩ := KX.out.at_
              obtain ⟨s, hsk⟩ : ∃ s, sh[k]? = some s := ⟨_, List.getElem?_eq_getElem (by rw [HLEN.out]; exact hlt3)⟩
              obtain ⟨b', ys, c1, c2', c3, c4, c5, c6, c7⟩ := a3 k s hsk
              rw [he] at c1; cases c1
              rw [c2', c3] at c7
              obtain ⟨gw, rfl, hgwB, hgwl, hcw⟩ := HS8.out (by omega)
              have d0 : wr.cell? ⟨gw, k, none⟩ = some (.slice (some ⟨s.1, 0, none⟩) (xs.length + 80) (xs.length + 80)) := by
                have h1 := hcw k (by omega)
                rw [List.getElem?_map, hsk] at h1
                rw [← c3]
                exact cell_keep hbx h1
              have d1 : wr.cell? ⟨GA, k * 2, none⟩ = some (.bool b) := by rw [cell_of_row _ _ _ _ _ _ a1]; exact c6
              have d2 : wr.cell? ⟨GA, k * 2 + 1, none⟩ = some (.slice (some ⟨s.1, 0, none⟩) xs.length (xs.length + 80)) := by rw [cell_of_row _ _ _ _ _ _ a1]; exact c7
              have bd : Below wr.heap.size wr wr.drew := (Below.refl wr.heap.size wr).drew
              have hrr := c5.rd (o := 0) (n := xs.length + 80) (c := xs.length + 80) (by rw [roomL_len]; omega) (Nat.le_refl _) (by unfold maxLen; omega)
              rw [List.drop_zero, List.take_of_length_le (by rw [roomL_len]; exact Nat.le_refl _)] at hrr
              have hra := c5.rd (o := 0) (n := xs.length) (c := xs.length + 80) (by rw [roomL_len]; omega) (by omega) (by unfold maxLen; omega)
              rw [List.drop_zero, roomL_take] at hra
              have HRR := Lib.hid (hrr.below bd)
              have HRA := Lib.hid (hra.below bd)
              have HRD := Lib.hid (hrd.below bd)
              have D0 := Lib.hid (cell_keep bd d0)
              have D1 := Lib.hid (cell_keep bd d1)
              have D2 := Lib.hid (cell_keep bd d2)
              have X0 := Lib.hid (cell_keep bd e0)
              have X1 := Lib.hid (cell_keep bd e1)
              have X2 := Lib.hid (cell_keep bd z2)
              have hi0 : (0 : Int) ≤ (k : Int) := Int.natCast_nonneg _
              have hi1 : (k : Int) < (n : Int) := by omega
              have hi2 : (k : Int) < (n : Int) + 1 := by omega
              have hi3 : (k : Int) < ((n + 1 : Nat) : Int) := by omega
              have hbb : (b != b) = false := by cases b <;> rfl
              have hxl2 : xs.length ≤ 1073741824 := by omega
              clear he hc hc2 hrd hrr hra a1 a2 a3 hsk c2' c3 c4 c5 c6 c7 hcw hbx bd
              go_wp2_with fail
              go_region_held3 (fun w' => w'.cell? ⟨gw, k, none⟩ = some (.slice (some ⟨s.1, 0, none⟩) (xs.length + 80) (xs.length + 80)) ∧ w'.cell? ⟨g3, 2, none⟩ = some (.slice (some ⟨ga, o, none⟩) n cap) ∧ w'.cell? ⟨ga, o + k * 2, none⟩ = some (.bool b) ∧ w'.cell? ⟨ga, o + k * 2 + 1, none⟩ = some (.slice mo xs.length mcap) ∧ w'.cell? ⟨GA, k * 2, none⟩ = some (.bool b) ∧ w'.cell? ⟨GA, k * 2 + 1, none⟩ = some (.slice (some ⟨s.1, 0, none⟩) xs.length (xs.length + 80)))
                (first
                  | (have hq := bS; with_reducible exact ⟨cell_keep bS (cell_keep bK D0.out), cell_keep bS (cell_keep bK X2.out), cell_keep bS (cell_keep bK X0.out), cell_keep bS (cell_keep bK X1.out), cell_keep bS (cell_keep bK D1.out), cell_keep bS (cell_keep bK D2.out)⟩)
                  | (have hq := bK; with_reducible exact ⟨cell_keep bK D0.out, cell_keep bK X2.out, cell_keep bK X0.out, cell_keep bK X1.out, cell_keep bK D1.out, cell_keep bK D2.out⟩)
                  | exact ⟨D0.out, X2.out, X0.out, X1.out, D1.out, D2.out⟩)
                (first
                  | (have hq := bK; go_at_call 36; refine (same_any1 _ _ xs _ (HRA.out.below bK).weak (HRD.out.below bK)).mono ?_; rintro e wS ⟨rfl, bS⟩)
                  | (go_at_call 35; refine (kept_any _ _ xs _ HRR.out.weak HRD.out hxl2).mono ?_; rintro e wK ⟨rfl, bK⟩))
              have HBF := Lib.hid (HBX.out.trans ((Below.refl wr.heap.size wr).drew.trans (bK.trans (bS.mono bK.size)) |>.mono HBX.out.size))
              clear bK bS d0 d1 d2 e0 e1 z2
              go_wp2_with fail
              have hfin : Below w17.heap.size w17 wS := HBF.out
              first | exact ⟨⟨k + 1, by go_num, by omega, hfin⟩, by simp [intOf] <;> omega⟩ | exact ⟨by (repeat apply Exists.intro); exact ⟨⟨k + 1, by go_num, by omega, hfin⟩, rfl⟩, by simp [intOf] <;> omega⟩
            · clear hbx
              go_wp2_with fail
              clear z2
              obtain ⟨wG, hwG⟩ : ∃ wG, wG = wr := ⟨_, rfl⟩
              subst hwG
              have HBG := Lib.hid HBX.out
              have hrl := HRL17.out
              unfold RowL at hrl
              rw [HLEN2.out] at hrl
              obtain ⟨ao13, cap13, rfl, hc13, hcm13, hs13⟩ := ownsRow_shape hrl
              have HS13 := Lib.hid hs13
              clear hrl hs13
              go_loopw [30] (fun kv wx => ∃ k : Nat, kv = .int .i64 (k : Nat) ∧ k ≤ m ∧ Below w17.heap.size w17 wx) (fun kv _ => m - (intOf kv).toNat)
              case atStart => exact ⟨0, rfl, Nat.zero_le _, HBG.out⟩
              case round =>
                obtain ⟨k, rfl, hkm, hbx⟩ := hrel
                have HBX := Lib.hid hbx
                have KX := Lib.hid (K17.out.below hbx)
                have HHWX := Lib.hid (HHW17.out.below hbx)
                by_cases hlt4 : k < m
                · obtain ⟨fo', fcap', e', -, -, hc⟩ := HF.out.below KX.out.bel
                  rw [← HM.out] at e' hc; cases e'
                  obtain ⟨gf, of, rfl, hgf, hc2⟩ := hc (by omega)
                  obtain ⟨u, e0, ks, hks, hka⟩ := hc2 k hlt4
                  obtain ⟨so, scap, rfl, -, -, -⟩ := id hka
                  obtain ⟨cur, a1, a2, a3, a4⟩ := HHWX.out
                  obtain ⟨s, hsk⟩ : ∃ s, hs[k]? = some s := ⟨_, List.getElem?_eq_getElem (by rw [HLEN2.out]; exact hlt4)⟩
                  obtain ⟨s1, s2, s3⟩ := s
                  obtain ⟨ks', c1, c2, c3, c4, c5, c6, c7⟩ := a4 k _ hsk
                  rw [hks] at c1; cases c1
                  simp only at c2 c3 c4 c5 c6 c7
                  subst c2
                  obtain ⟨gl, rfl, hglB, hgll, hcl⟩ := HS13.out (by omega)
                  have d0 : wr.cell? ⟨gl, k, none⟩ = some (.slice (some ⟨s1, 0, none⟩) (ks.length + 1) s3) := by
                    have h1 := hcl k (by omega)
                    rw [List.getElem?_map, hsk] at h1
                    exact cell_keep hbx h1
                  have d1 : wr.cell? ⟨GH, k, none⟩ = some (.slice (some ⟨s1, 0, none⟩) ks.length s3) := by rw [cell_of_row _ _ _ _ _ _ a1]; exact c7
                  have hkl : ks.length ≤ 1073741824 := by have := (HFLL.out ks (List.mem_of_getElem? hks)).1; omega
                  have hkb := c6.ka (n := ks.length + 1) (by simp) c4 c5
                  rw [List.take_of_length_le (by simp)] at hkb
                  have HKEEP : Hid (∀ wx, Below wr.heap.size wr wx → wx.cell? ⟨gl, k, none⟩ = some (.slice (some ⟨s1, 0, none⟩) (ks.length + 1) s3) ∧ wx.cell? ⟨gf, of + k, none⟩ = some (.slice so ks.length scap) ∧ wx.cell? ⟨GH, k, none⟩ = some (.slice (some ⟨s1, 0, none⟩) ks.length s3)) := fun wx hb => ⟨cell_keep hb d0, cell_keep hb e0, cell_keep hb d1⟩
                  have HKA := Lib.hid hka
                  have HKB := Lib.hid hkb
                  have HKL := Lib.hid hkl
                  have HLS : Hid (∀ x ∈ [ks ++ [-77]], x.length ≤ 1073741824) := fun x hx => by
                    rw [List.mem_singleton.1 hx, List.length_append, List.length_singleton]
                    have := (HFLL.out ks (List.mem_of_getElem? hks)).1; omega
                  have hi0 : (0 : Int) ≤ (k : Int) := Int.natCast_nonneg _
                  have hi1 : (k : Int) < (m : Int) := by omega
                  have hi2 : (k : Int) < (m : Int) + 1 := by omega
                  have hi3 : (k : Int) < ((m + 1 : Nat) : Int) := by omega
                  have hkk : ((ks.length : Int) != (ks.length : Int)) = false := by simp
                  clear hbx hc hc2 hks hka a1 a2 a3 a4 hsk c3 c4 c5 c6 c7 hcl d0 d1 e0 hkb hkl
                  go_wp2_with fail
                  refine Early.reg37_wp ks wr _ HKEEP HKA HKB HKL HLS hi0 hi1 hi3 (Lib.hid ?_)
                  intro _ _ _ _ _ _ _ _ _ _ _ _ _ _ _ _ _ _ _ _ _ _ _ _ _ _ _ _ w' hb
                  have HBN := Lib.hid (HBX.out.trans (hb.mono HBX.out.size))
                  clear hb hi0 hi1 hi2 hi3 hkk
                  go_wp2_with fail
                  have hfin : Below w17.heap.size w17 w' := HBN.out
                  first | exact ⟨⟨k + 1, by go_num, by omega, hfin⟩, by simp [intOf] <;> omega⟩ | exact ⟨by (repeat apply Exists.intro); exact ⟨⟨k + 1, by go_num, by omega, hfin⟩, rfl⟩, by simp [intOf] <;> omega⟩
                · clear hbx
                  go_wp2_with fail
                  obtain ⟨wH, hwH⟩ : ∃ wH, wH = wr := ⟨_, rfl⟩
                  subst hwH
                  have HBH := Lib.hid HBX.out
                  go_loopw [31] (fun kv wx => ∃ k : Nat, kv = .int .i64 (k : Nat) ∧ k ≤ qn ∧ Below w17.heap.size w17 wx) (fun kv _ => qn - (intOf kv).toNat)
                  case atStart => exact ⟨0, rfl, Nat.zero_le _, HBH.out⟩
                  case round =>
                    obtain ⟨k, rfl, hkq, hbx⟩ := hrel
                    have HBX := Lib.hid hbx
                    have KX := Lib.hid (K17.out.below hbx)
                    have z4 : wr.cell? ⟨g3 + 1, 2, none⟩ = some (.slice qo qn qcap) := (cell_of_row _ _ _ _ _ _ KX.out.box4).trans rfl
                    by_cases hlt5 : k < qn
                    · obtain ⟨p, hp⟩ : ∃ p, ql[k]? = some p := ⟨_, List.getElem?_eq_getElem (by rw [← HQN.out]; exact hlt5)⟩
                      obtain ⟨⟨b1, xs⟩, ⟨b2, ys⟩⟩ := p
                      obtain ⟨qo', qc', e', -, -, hcq⟩ := HQ.out.below KX.out.bel
                      rw [← HQN.out] at e'; cases e'
                      obtain ⟨gq, oq, rfl, hgq, hcq2⟩ := hcq (by rw [← HQN.out]; omega)
                      obtain ⟨m1, m2, q0, q1, q2, q3, q4, q5⟩ := hcq2 k _ hp
                      simp only at q0 q1 q2 q3 q4 q5
                      obtain ⟨qo1, qc1, rfl, -⟩ := id q2.2
                      obtain ⟨qo2, qc2, rfl, -⟩ := id q5.2
                      have h17 := (HC17.out.block p16 (Array.getElem?_eq_some_iff.1 H16.out).1).trans H16.out
                      have h18 := (hbx.block p16 (Array.getElem?_eq_some_iff.1 h17).1).trans h17
                      obtain ⟨po', pc', e'', -, -, hcp⟩ := HI17.out.below hbx
                      rw [← HQN.out] at e''; cases e''
                      obtain ⟨gp, op, rfl, hgp, hcp2⟩ := hcp (by rw [← HQN.out]; omega)
                      obtain ⟨m3, m4, p0, p1, p2, p3, p4, p5⟩ := hcp2 k _ hp
                      simp only at p0 p1 p2 p3 p4 p5
                      obtain ⟨po1, pc1, rfl, -⟩ := id p2.2
                      obtain ⟨po2, pc2, rfl, -⟩ := id p5.2
                      have z5 : wr.cell? ⟨p16, 2, none⟩ = some (.slice (some ⟨gp, op, none⟩) qn qcap7) := (cell_of_row _ _ _ _ _ _ h18).trans rfl
                      have HKEEP := Lib.hid (fun (wx : World) (hb : Below wr.heap.size wr wx) => And.intro (cell_keep hb z5) (And.intro (cell_keep hb z4) (And.intro (cell_keep hb p0) (And.intro (cell_keep hb p1) (And.intro (cell_keep hb p3) (And.intro (cell_keep hb p4) (And.intro (cell_keep hb q0) (And.intro (cell_keep hb q1) (And.intro (cell_keep hb q3) (cell_keep hb q4))))))))))
                      have HP2 := Lib.hid p2.weak
                      have HP5 := Lib.hid p5.weak
                      have HQ2 := Lib.hid q2
                      have HQ5 := Lib.hid q5
                      have hi0 : (0 : Int) ≤ (k : Int) := Int.natCast_nonneg _
                      have hi1 : (k : Int) < (qn : Int) := by omega
                      clear hbx hp hcq hcq2 hcp hcp2 q0 q1 q2 q3 q4 q5 p0 p1 p2 p3 p4 p5 h17 h18 z5
                      go_wp2_with fail
                      refine reg42_wp xs ys wr _ HKEEP HP2 HP5 HQ2 HQ5 hi0 hi1 (Lib.hid ?_)
                      intro _ _ _ _ _ _ _ _ _ _ _ _ _ _ _ _ _ _ _ _ _ _ _ _ _ _ _ w' hb
                      have HBN := Lib.hid (HBX.out.trans (hb.mono HBX.out.size))
                      clear hb hi0 hi1
                      go_wp2_with fail
                      have hfin : Below w17.heap.size w17 w' := HBN.out
                      first | exact ⟨⟨k + 1, by go_num, by omega, hfin⟩, by simp [intOf] <;> omega⟩ | exact ⟨by (repeat apply Exists.intro); exact ⟨⟨k + 1, by go_num, by omega, hfin⟩, rfl⟩, by simp [intOf] <;> omega⟩
                    · have HWS := Lib.hid (KX.out.at_.ws HGAB.out (fun p hp => HLL.out p hp))
                      have HHS := Lib.hid ((HHW17.out.below hbx).hst HGHB.out (fun ks h => (HFLL.out ks h).2))
                      have hb7 := KX.out.b7
                      have y0 : wr.cell? ⟨p7, 0, none⟩ = some (.int .i64 r) := (cell_of_row _ _ _ _ _ _ hb7).trans rfl
                      have y1 : wr.cell? ⟨p7, 1, none⟩ = some (.int .i64 c) := (cell_of_row _ _ _ _ _ _ hb7).trans rfl
                      have y2 : wr.cell? ⟨p7, 2, none⟩ = some (.slice (some ⟨GA, 0, none⟩) n (n + 1)) := (cell_of_row _ _ _ _ _ _ hb7).trans rfl
                      clear hbx hb7
                      go_wp2_with fail
                      have HAG : Hid (∀ wz, Below wr.heap.size wr wz → Calls Tryz.prog 37 #[.agg #[.int .i64 r, .int .i64 c, .slice (some ⟨GA, 0, none⟩) n (n + 1)], .slice (some ⟨GH, 0, none⟩) m (m + 1)] wz fun e w' => e = .returned (.bool true) ∧ Below w.heap.size wz w') := fun wz hb => by
                        refine again_any w.heap.size GA GH n (n + 1) m (m + 1) r c sh hs wz (HS.out.below (KX.out.bel.trans (hb.mono KX.out.bel.size)) hsz) hsz (HWS.out.below hb) (HHS.out.below hb) HLEN.out.symm HLEN2.out.symm hl (by omega) (Nat.le_succ _) (by unfold maxLen; omega) (Nat.le_succ _) (by unfold maxLen; omega) (fun s hs' => ?_) (fun s hs' => ?_)
                        · obtain ⟨j, hj⟩ := List.getElem?_of_mem hs'
                          obtain ⟨cur, -, -, h3⟩ := KX.out.at_
                          obtain ⟨b, xs, h4, h5, -⟩ := h3 j s hj
                          rw [h5]
                          exact HLL.out _ (List.mem_of_getElem? h4)
                        · obtain ⟨j, hj⟩ := List.getElem?_of_mem hs'
                          obtain ⟨cur, -, -, -, h3⟩ := HHW17.out
                          obtain ⟨ks, h4, h5, -⟩ := h3 j s hj
                          rw [h5]
                          have := (HFLL.out ks (List.mem_of_getElem? h4)).1
                          omega
                      clear z4
                      go_region_with ((go_at_call 37; refine (HAG.out _ (by first | exact (Below.refl _ _).drew | exact Below.refl _ _)).mono ?_; rintro e wE ⟨rfl, bE⟩))
                      all_goals
                        have HBE := Lib.hid (KX.out.bel.drew.trans bE)
                        clear bE
                        go_wp2_with fail
                        go_ret
                        exact ⟨rfl, HBE.out⟩
end Go.Proofs.YtgfmiladfeoldaaGreatDoor
