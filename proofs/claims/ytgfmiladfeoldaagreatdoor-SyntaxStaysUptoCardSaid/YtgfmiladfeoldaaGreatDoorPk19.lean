/- Joined texts of this claim's proof: FraO, FraB, FraT, QmW, KpD. -/
import Derived.Test.YtgfmiladfeoldaaGreatDoorPk18
import Derived.Test.YtgfmiladfeoldaaGreatDoorPk13
import Derived.Deep.RegionHeld3
set_option linter.unusedSimpArgs false
set_option linter.unusedVariables false
namespace Go.Proofs.YtgfmiladfeoldaaGreatDoor
open Go.RowKit NatP LexP
theorem four_cells {w : World} {g : Nat} {a b c d : Value} {t : TypeId} (h : w.heap[g]? = some (.cells #[a, b, c, d] t (0, 0))) :
  w.cell? ⟨g, 0, none⟩ = some a ∧ w.cell? ⟨g, 1, none⟩ = some b ∧ w.cell? ⟨g, 2, none⟩ = some c ∧ w.cell? ⟨g, 3, none⟩ = some d ∧ w.frozen? ⟨g, 0, none⟩ = false ∧ w.frozen? ⟨g, 1, none⟩ = false ∧ w.frozen? ⟨g, 2, none⟩ = false ∧ w.frozen? ⟨g, 3, none⟩ = false := by
 refine ⟨?_, ?_, ?_, ?_, frozen_of_row _ _ 0 _ _ h, frozen_of_row _ _ 1 _ _ h, frozen_of_row _ _ 2 _ _ h, frozen_of_row _ _ 3 _ _ h⟩ <;> rw [cell_of_row _ _ _ _ _ _ h] <;> rfl
theorem two_cells {w : World} {g : Nat} {a b : Value} {t : TypeId} (h : w.heap[g]? = some (.cells #[a, b] t (0, 0))) :
  w.cell? ⟨g, 0, none⟩ = some a ∧ w.cell? ⟨g, 1, none⟩ = some b ∧ w.frozen? ⟨g, 0, none⟩ = false ∧ w.frozen? ⟨g, 1, none⟩ = false := by
 refine ⟨?_, ?_, frozen_of_row _ _ 0 _ _ h, frozen_of_row _ _ 1 _ _ h⟩ <;> rw [cell_of_row _ _ _ _ _ _ h] <;> rfl
theorem set_four {w : World} {g : Nat} {a b c d : Value} {t : TypeId} (h : w.heap[g]? = some (.cells #[a, b, c, d] t (0, 0))) (a' b' c' d' : Value) :
  ((((w.setCell ⟨g, 0, none⟩ a').setCell ⟨g, 1, none⟩ b').setCell ⟨g, 2, none⟩ c').setCell ⟨g, 3, none⟩ d').heap[g]? = some (.cells #[a', b', c', d'] t (0, 0)) := by
 have s0 := heap_setCell_same w g 0 _ t a' h
 have s1 := heap_setCell_same _ g 1 _ t b' s0
 have s2 := heap_setCell_same _ g 2 _ t c' s1
 exact heap_setCell_same _ g 3 _ t d' s2
theorem wr_four (w : World) (g : Nat) (a' b' c' d' : Value) : Wr g none w ((((w.setCell ⟨g, 0, none⟩ a').setCell ⟨g, 1, none⟩ b').setCell ⟨g, 2, none⟩ c').setCell ⟨g, 3, none⟩ d') :=
 (((Wr.of_set w 0 _).trans (Mv.refl _ _) (Wr.of_set _ 1 _)).trans (Mv.refl _ _) (Wr.of_set _ 2 _)).trans (Mv.refl _ _) (Wr.of_set _ 3 _)
theorem sign_pos {n : Nat} (h : n ≠ 0) : signI false n = 1 := by unfold signI; rw [if_neg h, if_neg (by decide)]
theorem sign_neg {n : Nat} (h : n ≠ 0) : signI true n = -1 := by unfold signI; rw [if_neg h, if_pos rfl]
theorem set22 {w : World} {g1 g2 : Nat} {a b c d : Value} {t t2 : TypeId} (h1 : w.heap[g1]? = some (.cells #[a, b] t (0, 0))) (h2 : w.heap[g2]? = some (.cells #[c, d] t2 (0, 0))) (hne : g1 ≠ g2) (a' b' c' d' : Value) :
  ((((w.setCell ⟨g1, 0, none⟩ a').setCell ⟨g1, 1, none⟩ b').setCell ⟨g2, 0, none⟩ c').setCell ⟨g2, 1, none⟩ d').heap[g1]? = some (.cells #[a', b'] t (0, 0)) ∧
  ((((w.setCell ⟨g1, 0, none⟩ a').setCell ⟨g1, 1, none⟩ b').setCell ⟨g2, 0, none⟩ c').setCell ⟨g2, 1, none⟩ d').heap[g2]? = some (.cells #[c', d'] t2 (0, 0)) ∧
  Wr g1 (some g2) w ((((w.setCell ⟨g1, 0, none⟩ a').setCell ⟨g1, 1, none⟩ b').setCell ⟨g2, 0, none⟩ c').setCell ⟨g2, 1, none⟩ d') := by
 have s0 := heap_setCell_same w g1 0 _ t a' h1
 have s1 := heap_setCell_same _ g1 1 _ t b' s0
 have u0 := (heap_setCell_other (w.setCell ⟨g1, 0, none⟩ a') ⟨g1, 1, none⟩ g2 b' hne.symm).trans ((heap_setCell_other w ⟨g1, 0, none⟩ g2 a' hne.symm).trans h2)
 have u1 := heap_setCell_same _ g2 0 _ t2 c' u0
 have u2 := heap_setCell_same _ g2 1 _ t2 d' u1
 refine ⟨?_, u2, rfl, rfl, rfl, by simp [World.setCell], fun k _ k1 k2 => ?_⟩
 ·exact (heap_setCell_other _ ⟨g2, 1, none⟩ g1 d' hne).trans ((heap_setCell_other _ ⟨g2, 0, none⟩ g1 c' hne).trans s1)
 ·have k3 : k ≠ g2 := fun e => k2 (by rw [e])
  exact (heap_setCell_other _ ⟨g2, 1, none⟩ k d' k3).trans ((heap_setCell_other _ ⟨g2, 0, none⟩ k c' k3).trans ((heap_setCell_other _ ⟨g1, 1, none⟩ k b' k1).trans (heap_setCell_other _ ⟨g1, 0, none⟩ k a' k1)))
def zeroF : Value := .agg #[.bool false, .slice none 0 0, .bool false, .slice none 0 0]
def OfFPost (na nb : Bool) (a b m : Nat) (w : World) (e : Ending) (w' : World) : Prop :=
 if b = 0 then e = .returned (.tuple #[zeroF, .int .i64 4]) ∧ Below w.heap.size w w'
 else ∃ v u ps qs, e = .returned (.tuple #[.agg #[.bool ((na != nb) && decide (a / Nat.gcd a b ≠ 0)), v, .bool false, u], .int .i64 0]) ∧ Fr w.heap.size w' v ps ∧ val ps = a / Nat.gcd a b ∧ strip ps = ps ∧ ps.length ≤ m ∧ Fr w.heap.size w' u qs ∧ val qs = b / Nat.gcd a b ∧ strip qs = qs ∧ qs.length ≤ m ∧ Below w.heap.size w w'
set_option maxRecDepth 100000 in
set_option maxHeartbeats 1000000 in
theorem of_frac (na nb : Bool) (v u : Value) (xs ys : List Nat) (m : Nat) (w : World) (hv : Rd w v xs) (hu : Rd w u ys) (hl : xs.length ≤ m) (hl2 : ys.length ≤ m) (hm : m ≤ 274877906944) :
  Calls Tryz.prog 124 #[.agg #[.bool na, v], .agg #[.bool nb, u]] w (OfFPost na nb (val xs) (val ys) m w) := by
 have HV := Lib.hid hv
 have HU := Lib.hid hu
 obtain ⟨ao, cap, rfl, -, -, -, -⟩ := hv.2
 obtain ⟨bo, cap2, rfl, -, -, -, -⟩ := hu.2
 clear hv hu
 obtain ⟨w0, hw0, HB0, b0, b1, b2, hsz⟩ := three_boxes w #[.bool na, .slice ao xs.length cap] #[.bool nb, .slice bo ys.length cap2] #[.bool false, .slice none 0 0, .bool false, .slice none 0 0] 62 71
 have HVA := Lib.hid (HV.out.below HB0.out)
 have HUA := Lib.hid (HU.out.below HB0.out)
 have HW0 := Lib.hid hw0
 obtain ⟨g, hg⟩ : ∃ g, g = w.heap.size := ⟨_, rfl⟩
 have HG := Lib.hid hg
 rw [← hg] at b0 b1 b2 hsz
 have B0 := Lib.hid b0
 have B1 := Lib.hid b1
 have B2 := Lib.hid b2
 obtain ⟨c10, c11, -, -⟩ := two_cells b1
 clear hw0 b0 b1 b2 hg
 by_cases h0 : val ys = 0
 ·have hs : signI nb (val ys) = 0 := by unfold signI; rw [if_pos h0]
  have HS := Lib.hid hs
  have H0 := Lib.hid h0
  clear hs h0
  go_enter Tryz.func124, Tryz.ntmps124
  go_wp2_with fail
  rw [← HW0.out, ← HG.out]
  go_wp2_with fail
  refine (sign_zint nb _ ys _ HUA.out (by omega)).mono ?_
  rintro e w1 ⟨rfl, hb1⟩
  rw [HS.out]
  have HB1 := Lib.hid hb1
  have j2 := (hb1.block (g + 1 + 1) hsz).trans B2.out
  have J2 := Lib.hid j2
  obtain ⟨r0, r1, r2, r3, f0, f1, f2, f3⟩ := four_cells j2
  clear hb1 j2 c10 c11
  go_wp2_with fail
  refine bodyPost_ret (results_ct_row rfl _ _ (g + 1 + 1) 71 _ _ _ rfl (set_four J2.out _ _ _ _) Tryz.underlying71 rfl (by kernel_rfl)) rfl ?_
  unfold OfFPost
  rw [if_pos H0.out]
  exact ⟨rfl, (wr_four _ _ _ _ _ _).to_below (HB0.out.trans (HB1.out.mono HB0.out.size)) (HB0.out.trans (HB1.out.mono HB0.out.size)).size (by have := HG.out; omega) (fun k hk => by cases hk)⟩
 ·have H0 := Lib.hid h0
  obtain ⟨G, hG⟩ : ∃ G, G = Nat.gcd (val xs) (val ys) := ⟨_, rfl⟩
  have hGp : 0 < G := by rw [hG]; exact Nat.gcd_pos_of_pos_right _ (Nat.pos_of_ne_zero h0)
  have hdx : G ∣ val xs := by rw [hG]; exact Nat.gcd_dvd_left _ _
  have hdy : G ∣ val ys := by rw [hG]; exact Nat.gcd_dvd_right _ _
  have hyg : val ys / G ≠ 0 := Nat.pos_iff_ne_zero.1 (Nat.div_pos (Nat.le_of_dvd (Nat.pos_of_ne_zero h0) hdy) hGp)
  have HGG := Lib.hid hG
  have HGP := Lib.hid hGp
  have HDX := Lib.hid hdx
  have HDY := Lib.hid hdy
  have HYG := Lib.hid hyg
  obtain ⟨s, hs⟩ : ∃ s, s = signI nb (val ys) := ⟨_, rfl⟩
  have hs0 : (s == 0) = false := by
   rw [hs]; unfold signI; rw [if_neg h0]; cases nb <;> rfl
  have HS := Lib.hid hs
  have HL := Lib.hid hl
  have HL2 := Lib.hid hl2
  clear hs h0 hG hGp hdx hdy hyg hl hl2
  go_enter Tryz.func124, Tryz.ntmps124
  go_wp2_with fail
  rw [← HW0.out, ← HG.out]
  go_wp2_with fail
  refine (sign_zint nb _ ys _ HUA.out (by have := HL2.out; omega)).mono ?_
  rintro e w1 ⟨rfl, hb1⟩
  rw [← HS.out]
  have HB1 := Lib.hid hb1
  have hz1 := hb1.size
  obtain ⟨d0, d1, -, -⟩ := two_cells ((hb1.block g (by omega)).trans B0.out)
  obtain ⟨d10, d11, -, -⟩ := two_cells ((hb1.block (g + 1) (by omega)).trans B1.out)
  have HV1 := Lib.hid (HVA.out.below hb1)
  have HU1 := Lib.hid (HUA.out.below hb1)
  clear hb1 c10 c11
  go_wp2_with fail
  refine (bez_gcd na nb _ _ xs ys m _ HV1.out HU1.out HL.out HL2.out hm).mono ?_
  rintro e w2 ⟨q, gs, rfl, q1, q2, q3, q4, hb2⟩
  obtain ⟨qo, qcap, rfl, -, -, -, -⟩ := q1.1.2
  rw [← HGG.out] at q2
  have HQ1 := Lib.hid q1
  have HQ2 := Lib.hid q2
  have HQ4 := Lib.hid q4
  have HB2 := Lib.hid (HB1.out.trans (hb2.mono hz1))
  have hz2 := HB2.out.size
  obtain ⟨e0, e1, -, -⟩ := two_cells ((HB2.out.block g (by omega)).trans B0.out)
  have k0 := cell_keep (below_alloc w2 (.cells #[.bool false, .slice qo gs.length qcap] 62)) e0
  have k1 := cell_keep (below_alloc w2 (.cells #[.bool false, .slice qo gs.length qcap] 62)) e1
  obtain ⟨w3, hw3⟩ : ∃ w3, w3 = w2.alloc (.cells #[.bool false, .slice qo gs.length qcap] 62) := ⟨_, rfl⟩
  have HA3 := Lib.hid (below_alloc w2 (.cells #[.bool false, .slice qo gs.length qcap] 62))
  have HN3 := Lib.hid (heap_alloc_new w2 (.cells #[.bool false, .slice qo gs.length qcap] 62))
  rw [← hw3] at HA3 HN3
  have HW3 := Lib.hid hw3
  have HB3 := Lib.hid (HB2.out.trans (HA3.out.mono hz2))
  have HV3 := Lib.hid (HVA.out.below HB3.out)
  have HU3 := Lib.hid (HUA.out.below HB3.out)
  have HQ3 := Lib.hid (HQ1.out.below HA3.out)
  have hz3 := HB3.out.size
  clear q1 q2 q3 q4 hb2 d0 d1 d10 d11 hw3
  go_wp2_with fail
  rw [← HW3.out]
  obtain ⟨h7, hh7⟩ : ∃ h7, h7 = w2.heap.size := ⟨_, rfl⟩
  rw [← hh7] at HN3 hz2 ⊢
  have HH7 := Lib.hid hh7
  clear hh7 e0 e1 k0 k1
  have HGV : Hid (0 < val gs) := by show 0 < _; rw [HQ2.out]; exact HGP.out
  have HLG := Lib.hid (show gs.length ≤ 274877906944 from Nat.le_trans HQ4.out hm)
  refine (exact_zint na false _ _ xs gs _ HV3.out HQ3.out.1 (by have := HL.out; omega) HLG.out HGV.out (by rw [HQ2.out]; exact HDX.out)).mono ?_
  rintro e w4 ⟨n1, ns, rfl, p1, p2, p3, p4, hb4⟩
  obtain ⟨no, ncap, rfl, -, -, -, -⟩ := p1.1.2
  rw [HQ2.out] at p2 ⊢
  have P1 := Lib.hid p1
  have P2 := Lib.hid p2
  have P3 := Lib.hid p3
  have P4 := Lib.hid (Nat.le_trans p4 HL.out)
  obtain ⟨fn, hfn⟩ : ∃ fn, fn = ((na != false) && decide (val xs / G ≠ 0)) := ⟨_, rfl⟩
  rw [← hfn]
  have HFN := Lib.hid hfn
  have HB4 := Lib.hid (HB3.out.trans (hb4.mono hz3))
  have hz4 := HB4.out.size
  have hh7 : h7 < w4.heap.size := by have := hb4.size; have := (Array.getElem?_eq_some_iff.1 HN3.out).1; omega
  have hk7 := (hb4.block h7 (Array.getElem?_eq_some_iff.1 HN3.out).1).trans HN3.out
  have HK7 := Lib.hid hk7
  obtain ⟨e10, e11, -, -⟩ := two_cells ((HB4.out.block (g + 1) (by omega)).trans B1.out)
  obtain ⟨e0, e1, -, -⟩ := two_cells hk7
  have k0 := cell_keep (below_alloc w4 (.cells #[.bool fn, .slice no ns.length ncap] 62)) e0
  have k1 := cell_keep (below_alloc w4 (.cells #[.bool fn, .slice no ns.length ncap] 62)) e1
  have k10 := cell_keep (below_alloc w4 (.cells #[.bool fn, .slice no ns.length ncap] 62)) e10
  have k11 := cell_keep (below_alloc w4 (.cells #[.bool fn, .slice no ns.length ncap] 62)) e11
  obtain ⟨w5, hw5⟩ : ∃ w5, w5 = w4.alloc (.cells #[.bool fn, .slice no ns.length ncap] 62) := ⟨_, rfl⟩
  have HA5 := Lib.hid (below_alloc w4 (.cells #[.bool fn, .slice no ns.length ncap] 62))
  have HN5 := Lib.hid (heap_alloc_new w4 (.cells #[.bool fn, .slice no ns.length ncap] 62))
  rw [← hw5] at HA5 HN5
  have HW5 := Lib.hid hw5
  have HB5 := Lib.hid (HB4.out.trans (HA5.out.mono hz4))
  have HU5 := Lib.hid (HUA.out.below HB5.out)
  have HQ5 := Lib.hid ((HQ3.out.below hb4).below HA5.out)
  have HP5 := Lib.hid (P1.out.below HA5.out)
  have hz5 := HB5.out.size
  obtain ⟨h8, hh8⟩ : ∃ h8, h8 = w4.heap.size := ⟨_, rfl⟩
  have HH8 := Lib.hid hh8
  clear p1 p2 p3 p4 hfn hb4 hk7 hw5 e10 e11 e0 e1 hh8
  go_wp2_with fail
  rw [← HW5.out, ← HH8.out]
  rw [← HH8.out] at HN5
  clear k0 k1 k10 k11
  refine (exact_zint nb false _ _ ys gs _ HU5.out HQ5.out.1 (by have := HL2.out; omega) HLG.out HGV.out (by rw [HQ2.out]; exact HDY.out)).mono ?_
  rintro e w6 ⟨d1, ds, rfl, p1, p2, p3, p4, hb6⟩
  obtain ⟨dd, dcap, rfl, -, -, -, -⟩ := p1.1.2
  rw [HQ2.out] at p2 ⊢
  have S1 := Lib.hid p1
  have S2 := Lib.hid p2
  have S3 := Lib.hid p3
  have S4 := Lib.hid (Nat.le_trans p4 HL2.out)
  obtain ⟨fd, hfd⟩ : ∃ fd, fd = ((nb != false) && decide (val ys / G ≠ 0)) := ⟨_, rfl⟩
  rw [← hfd]
  have HFD := Lib.hid hfd
  have HB6 := Lib.hid (HB5.out.trans (hb6.mono hz5))
  have hz6 := HB6.out.size
  have HP6 := Lib.hid (HP5.out.below hb6)
  have hh8 : h8 < w6.heap.size := by have := hb6.size; have := (Array.getElem?_eq_some_iff.1 HN5.out).1; omega
  have hk8 := (hb6.block h8 (Array.getElem?_eq_some_iff.1 HN5.out).1).trans HN5.out
  have hj2 := (HB6.out.block (g + 1 + 1) hsz).trans B2.out
  obtain ⟨e80, e81, -, -⟩ := two_cells hk8
  obtain ⟨er0, er1, er2, er3, ef0, ef1, ef2, ef3⟩ := four_cells hj2
  have ha7 := below_alloc w6 (.cells #[.bool fd, .slice dd ds.length dcap] 62)
  have k80 := cell_keep ha7 e80
  have k81 := cell_keep ha7 e81
  have r0 := cell_keep ha7 er0
  have r1 := cell_keep ha7 er1
  have r2 := cell_keep ha7 er2
  have r3 := cell_keep ha7 er3
  have f0 := fro_keep ha7 er0 ef0
  have f1 := fro_keep ha7 er1 ef1
  have f2 := fro_keep ha7 er2 ef2
  have f3 := fro_keep ha7 er3 ef3
  clear e80 e81 er0 er1 er2 er3 ef0 ef1 ef2 ef3 hj2 ha7
  have HA7 := Lib.hid (below_alloc w6 (.cells #[.bool fd, .slice dd ds.length dcap] 62))
  have HK8 := Lib.hid ((HA7.out.block h8 hh8).trans hk8)
  have HK10 := Lib.hid (heap_alloc_new w6 (.cells #[.bool fd, .slice dd ds.length dcap] 62))
  obtain ⟨w7, hw7⟩ : ∃ w7, w7 = w6.alloc (.cells #[.bool fd, .slice dd ds.length dcap] 62) := ⟨_, rfl⟩
  rw [← hw7] at HA7 HK8 HK10
  have HW7 := Lib.hid hw7
  have HB7 := Lib.hid (HB6.out.trans (HA7.out.mono hz6))
  have HP7 := Lib.hid (HP6.out.below HA7.out)
  have HS7 := Lib.hid (S1.out.below HA7.out)
  have hz7 := HB7.out.size
  obtain ⟨h10, hh10⟩ : ∃ h10, h10 = w6.heap.size := ⟨_, rfl⟩
  have HH10 := Lib.hid hh10
  rw [← hh10] at HK10
  have hne : h8 ≠ h10 := by omega
  have HBW7 := Lib.hid (HB0.out.trans (HB7.out.mono HB0.out.size))
  have HJ2 := Lib.hid ((HB7.out.block (g + 1 + 1) hsz).trans B2.out)
  clear p1 p2 p3 p4 hfd hb6 hk8 hw7 hh10
  cases nb with
  | false =>
   have hsn : s = 1 := by rw [HS.out]; exact sign_pos H0.out
   have hlt : decide (s < 0) = false := by rw [hsn]; rfl
   clear hsn
   go_wp2_with fail
   rw [← HW7.out]
   refine bodyPost_ret (results_ct_row rfl _ _ (g + 1 + 1) 71 _ _ _ rfl (set_four HJ2.out _ _ _ _) Tryz.underlying71 rfl (by kernel_rfl)) rfl ?_
   have hw := wr_four w7 (g + 1 + 1) (.bool fn) (.slice no ns.length ncap) (.bool fd) (.slice dd ds.length dcap)
   unfold OfFPost
   rw [if_neg H0.out, ← HGG.out]
   refine ⟨_, _, ns, ds, ?_, ⟨HP7.out.1.wr hw (fun k hk => ⟨?_, by simp⟩), fun k hk => ⟨?_, ?_⟩⟩, P2.out, P3.out, P4.out, ⟨HS7.out.1.wr hw (fun k hk => ⟨?_, by simp⟩), fun k hk => ⟨?_, ?_⟩⟩, S2.out, S3.out, S4.out, hw.to_below HBW7.out HBW7.out.size (by have := HG.out; omega) (fun k hk => by cases hk)⟩
   ·rw [HFN.out, HFD.out]; rfl
   ·have := (HP7.out.2 k hk).1; omega
   ·have := (HP7.out.2 k hk).1; have := HB0.out.size; omega
   ·exact Nat.lt_of_lt_of_le (HP7.out.2 k hk).2 hw.size
   ·have := (HS7.out.2 k hk).1; omega
   ·have := (HS7.out.2 k hk).1; have := HB0.out.size; omega
   ·exact Nat.lt_of_lt_of_le (HS7.out.2 k hk).2 hw.size
  | true =>
   have hsn : s = -1 := by rw [HS.out]; exact sign_neg H0.out
   have hlt : decide (s < 0) = true := by rw [hsn]; rfl
   clear hsn
   go_wp2_with fail
   rw [← HW7.out, ← HH10.out]
   rw [← HW7.out] at r0 r1 r2 r3 f0 f1 f2 f3
   clear k80 k81
   obtain ⟨y0, y1, z0, z1⟩ := two_cells HK8.out
   obtain ⟨y2, y3, z2, z3⟩ := two_cells HK10.out
   have hm1 : ns.length ≤ 274877906944 := Nat.le_trans P4.out hm
   have hm2 : ds.length ≤ 274877906944 := Nat.le_trans S4.out hm
   have b7 : Below w7.heap.size w7 w7.drew := (Below.refl _ _).drew
   have HPD := Lib.hid (HP7.out.1.below b7)
   have HSD := Lib.hid (HS7.out.1.below b7)
   have Y0 := Lib.hid (cell_keep b7 y0)
   have Y1 := Lib.hid (cell_keep b7 y1)
   have Y2 := Lib.hid (cell_keep b7 y2)
   have Y3 := Lib.hid (cell_keep b7 y3)
   have Z0 := Lib.hid (fro_keep b7 y0 z0)
   have Z1 := Lib.hid (fro_keep b7 y1 z1)
   have Z2 := Lib.hid (fro_keep b7 y2 z2)
   have Z3 := Lib.hid (fro_keep b7 y3 z3)
   clear z0 z1 z2 z3 b7 r0 r1 r2 r3 f0 f1 f2 f3
   go_region_with
    (first
     | (have hq8 := b8; go_at_call 175; refine (neg_zint fd _ ds _ (HSD.out.below b8) hm2).mono ?_; rintro e w9 ⟨t0, ds2, rfl, t1, t2, t3, t4, b9⟩; obtain ⟨do2, dcap2, rfl, -, -, -, -⟩ := t1.1.2; have u0 := cell_keep b9 (cell_keep b8 Y0.out); have u1 := cell_keep b9 (cell_keep b8 Y1.out); have u2 := cell_keep b9 x2; have u3 := cell_keep b9 x3; have v0 := fro_keep b9 (cell_keep b8 Y0.out) (fro_keep b8 Y0.out Z0.out); have v1 := fro_keep b9 (cell_keep b8 Y1.out) (fro_keep b8 Y1.out Z1.out); have v2 := fro_keep b9 x2 (fro_keep b8 Y2.out Z2.out); have v3 := fro_keep b9 x3 (fro_keep b8 Y3.out Z3.out))
     | (go_at_call 175; refine (neg_zint fn _ ns _ HPD.out hm1).mono ?_; rintro e w8 ⟨n0, ns2, rfl, n1, n2, n3, n4, b8⟩; obtain ⟨no2, ncap2, rfl, -, -, -, -⟩ := n1.1.2; have x2 := cell_keep b8 Y2.out; have x3 := cell_keep b8 Y3.out))
   all_goals
    have hb9 : Below w7.heap.size w7 w9 := (Below.refl w7.heap.size w7).drew.trans (b8.trans (b9.mono b8.size))
    have l8 : h8 < w7.heap.size := (Array.getElem?_eq_some_iff.1 HK8.out).1
    have l10 : h10 < w7.heap.size := (Array.getElem?_eq_some_iff.1 HK10.out).1
    have lj : g + 1 + 1 < w7.heap.size := (Array.getElem?_eq_some_iff.1 HJ2.out).1
    obtain ⟨m8, m10, hwr⟩ := set22 ((hb9.block h8 l8).trans HK8.out) ((hb9.block h10 l10).trans HK10.out) hne (.bool (!fn && !decide (val ns = 0))) (.slice no2 ns2.length ncap2) (.bool (!fd && !decide (val ds = 0))) (.slice do2 ds2.length dcap2)
    have mj := (hb9.block (g + 1 + 1) lj).trans HJ2.out
    have n9 := (n1.below b9)
    have HN9 := Lib.hid n9
    have HT9 := Lib.hid t1
    have HB9 := Lib.hid (HBW7.out.trans (hb9.mono HBW7.out.size))
    have HZ8 : Hid (w7.heap.size ≤ w8.heap.size) := b8.size
    obtain ⟨w10, hw10⟩ : ∃ w10, w10 = (((w9.setCell ⟨h8, 0, none⟩ (.bool (!fn && !decide (val ns = 0)))).setCell ⟨h8, 1, none⟩ (.slice no2 ns2.length ncap2)).setCell ⟨h10, 0, none⟩ (.bool (!fd && !decide (val ds = 0)))).setCell ⟨h10, 1, none⟩ (.slice do2 ds2.length dcap2) := ⟨_, rfl⟩
    rw [← hw10] at m8 m10 hwr ⊢
    have mj10 := (hwr.block (g + 1 + 1) (Array.getElem?_eq_some_iff.1 mj).1 (by have := HH8.out; omega) (by simp; have := HH10.out; omega)).trans mj
    obtain ⟨r0, r1, r2, r3, f0, f1, f2, f3⟩ := four_cells mj10
    obtain ⟨e0, e1, -, -⟩ := two_cells m8
    obtain ⟨e2, e3, -, -⟩ := two_cells m10
    have HM := Lib.hid mj10
    have HWR := Lib.hid hwr
    have HNV := Lib.hid n2
    have HTV := Lib.hid t2
    have HNS := Lib.hid n3
    have HTS := Lib.hid t3
    have HNL := Lib.hid n4
    have HTL := Lib.hid t4
    clear b8 b9 x2 x3 u0 u1 u2 u3 v0 v1 v2 v3 y0 y1 y2 y3 hb9 m8 m10 hwr mj mj10 n9 n1 t1 hw10 n2 n3 n4 t2 t3 t4
    go_wp2_with fail
    refine bodyPost_ret (results_ct_row rfl _ _ (g + 1 + 1) 71 _ _ _ rfl (set_four HM.out _ _ _ _) Tryz.underlying71 rfl (by kernel_rfl)) rfl ?_
    have hw := wr_four w10 (g + 1 + 1) (.bool (!fn && !decide (val ns = 0))) (.slice no2 ns2.length ncap2) (.bool (!fd && !decide (val ds = 0))) (.slice do2 ds2.length dcap2)
    unfold OfFPost
    rw [if_neg H0.out, ← HGG.out]
    have q2 := strip_le ns
    refine ⟨_, _, ns2, ds2, ?_, ⟨(HN9.out.1.wr HWR.out (fun k hk => ⟨?_, ?_⟩)).wr hw (fun k hk => ⟨?_, by simp⟩), fun k hk => ⟨?_, ?_⟩⟩, by rw [HNV.out, P2.out], HNS.out, Nat.le_trans HNL.out P4.out, ⟨(HT9.out.1.wr HWR.out (fun k hk => ⟨?_, ?_⟩)).wr hw (fun k hk => ⟨?_, by simp⟩), fun k hk => ⟨?_, ?_⟩⟩, by rw [HTV.out, S2.out], HTS.out, Nat.le_trans HTL.out S4.out, hw.to_below (HWR.out.to_below HB9.out HB9.out.size (by have := HH8.out; have := HB0.out.size; have := HB4.out.size; omega) (fun k hk => by cases hk; have := HH10.out; have := HB0.out.size; have := HB6.out.size; omega)) (Nat.le_trans HB9.out.size HWR.out.size) (by have := HG.out; omega) (fun k hk => by cases hk)⟩
    ·rw [P2.out, S2.out, HFN.out, HFD.out]
     have hy := HYG.out
     cases na <;> by_cases hx : val xs / G = 0 <;> simp [hx, hy]
    ·have := (HN9.out.2 k hk).1; simp at this; omega
    ·have := (HN9.out.2 k hk).1; simp at this ⊢; omega
    ·have := (HN9.out.2 k hk).1; simp at this; omega
    ·have := (HN9.out.2 k hk).1; have := HBW7.out.size; simp at *; omega
    ·exact Nat.lt_of_lt_of_le (HN9.out.2 k hk).2 (Nat.le_trans HWR.out.size hw.size)
    ·have := (HT9.out.2 k hk).1; have := HZ8.out; omega
    ·have := (HT9.out.2 k hk).1; have := HZ8.out; simp; omega
    ·have := (HT9.out.2 k hk).1; have := HZ8.out; omega
    ·have := (HT9.out.2 k hk).1; have := HZ8.out; have := HBW7.out.size; omega
    ·exact Nat.lt_of_lt_of_le (HT9.out.2 k hk).2 (Nat.le_trans HWR.out.size hw.size)
end Go.Proofs.YtgfmiladfeoldaaGreatDoor
namespace Go.Proofs.YtgfmiladfeoldaaGreatDoor
open Go.RowKit NatP LexP
theorem cmpI_range (a b : Nat) : cmpI a b = -1 ∨ cmpI a b = 0 ∨ cmpI a b = 1 := by
 unfold cmpI; split
 ·exact .inl rfl
 ·split
  ·exact .inr (.inr rfl)
  ·exact .inr (.inl rfl)
theorem cmpI_zero {a b : Nat} : cmpI a b = 0 ↔ a = b := by
 unfold cmpI; split
 ·constructor
  ·intro h; cases h
  ·intro h; omega
 ·split
  ·constructor
   ·intro h; cases h
   ·intro h; omega
  ·constructor
   ·intro _; omega
   ·intro _; rfl
theorem sign_one (v : Value) (xs : List Nat) (w : World) (hv : Rd w v xs) (hl : xs.length ≤ 1099511627776) (h : signI false (val xs) = 1) :
  Calls Tryz.prog 121 #[.agg #[.bool false, v]] w fun e w' => e = .returned (.int .i64 1) ∧ Below w.heap.size w w' := by
 have := sign_zint false v xs w hv hl
 rw [h] at this; exact this
set_option maxRecDepth 100000 in
set_option maxHeartbeats 2000000 in
theorem cmp_zint (v u : Value) (xs ys : List Nat) (w : World) (hv : Rd w v xs) (hu : Rd w u ys) (hl : xs.length ≤ 274877906944) (hl2 : ys.length ≤ 274877906944) (h0 : val xs ≠ 0) (h1 : val ys ≠ 0) :
  Calls Tryz.prog 125 #[.agg #[.bool false, v], .agg #[.bool false, u]] w fun e w' => e = .returned (.int .i64 (cmpI (val xs) (val ys))) ∧ Below w.heap.size w w' := by
 have HV := Lib.hid hv
 have HU := Lib.hid hu
 have H0 := Lib.hid (sign_pos h0)
 have H1 := Lib.hid (sign_pos h1)
 obtain ⟨ao, cap, rfl, -, -, -, -⟩ := hv.2
 obtain ⟨bo, cap2, rfl, -, -, -, -⟩ := hu.2
 obtain ⟨c, hc⟩ : ∃ c, c = cmpI (val xs) (val ys) := ⟨_, rfl⟩
 have hcr : wrap64 c = c := by
  rcases cmpI_range (val xs) (val ys) with h | h | h <;> (rw [hc, h]; exact IntWalk.wrap64_in _ (by omega))
 have HC := Lib.hid hc
 have HCR := Lib.hid hcr
 clear hcr
 clear hv hu h0 h1 hc
 have HA1 := Lib.hid (below_alloc w (.cells #[.bool false, .slice ao xs.length cap] 62))
 have HA2 := Lib.hid (HA1.out.trans ((below_alloc (w.alloc (.cells #[.bool false, .slice ao xs.length cap] 62)) (.cells #[.bool false, .slice bo ys.length cap2] 62)).mono HA1.out.size))
 obtain ⟨w0, hw0⟩ : ∃ w0, w0 = (w.alloc (.cells #[.bool false, .slice ao xs.length cap] 62)).alloc (.cells #[.bool false, .slice bo ys.length cap2] 62) := ⟨_, rfl⟩
 have b0 : w0.heap[w.heap.size]? = some (.cells #[.bool false, .slice ao xs.length cap] 62 (0, 0)) := by
  rw [hw0]; exact ((below_alloc (w.alloc (.cells #[.bool false, .slice ao xs.length cap] 62)) _).block w.heap.size (by simp)).trans (heap_alloc_new w _)
 have b1 : w0.heap[w.heap.size + 1]? = some (.cells #[.bool false, .slice bo ys.length cap2] 62 (0, 0)) := by
  rw [hw0]
  have := heap_alloc_new (w.alloc (.cells #[.bool false, .slice ao xs.length cap] 62)) (.cells #[.bool false, .slice bo ys.length cap2] 62)
  rw [World.size_alloc] at this; exact this
 rw [← hw0] at HA2
 obtain ⟨g, hg⟩ : ∃ g, g = w.heap.size := ⟨_, rfl⟩
 rw [← hg] at b0 b1
 have HG := Lib.hid hg
 have HW0 := Lib.hid hw0
 have B0 := Lib.hid b0
 have B1 := Lib.hid b1
 have hsz : g + 1 < w0.heap.size := (Array.getElem?_eq_some_iff.1 b1).1
 have HV0 := Lib.hid (HV.out.below HA2.out)
 have HU0 := Lib.hid (HU.out.below HA2.out)
 clear b0 b1 hg hw0
 go_enter Tryz.func125, Tryz.ntmps125
 go_wp2_with fail
 rw [← HW0.out, ← HG.out]
 obtain ⟨c0, c1, -, -⟩ := two_cells B0.out
 obtain ⟨c10, c11, -, -⟩ := two_cells B1.out
 have HVD := Lib.hid (HV0.out.below (Below.refl w0.heap.size w0).drew)
 have HUD := Lib.hid (HU0.out.below (Below.refl w0.heap.size w0).drew)
 have hm1 : xs.length ≤ 1099511627776 := by omega
 have hm2 : ys.length ≤ 1099511627776 := by omega
 go_region_held3 (fun w' => w'.cell? ⟨g, 0, none⟩ = some (.bool false) ∧ w'.cell? ⟨g, 1, none⟩ = some (.slice ao xs.length cap) ∧ w'.cell? ⟨g + 1, 0, none⟩ = some (.bool false) ∧ w'.cell? ⟨g + 1, 1, none⟩ = some (.slice bo ys.length cap2))
  (first
   | go_keep
   | exact ⟨cell_keep b2 (cell_keep b1 c0), cell_keep b2 (cell_keep b1 c1), cell_keep b2 (cell_keep b1 c10), cell_keep b2 (cell_keep b1 c11)⟩
   | exact ⟨cell_keep b1 c0, cell_keep b1 c1, cell_keep b1 c10, cell_keep b1 c11⟩)
  (first
   | (have hq := b1; go_at_call 121; refine (sign_one _ ys _ (HUD.out.below b1) hm2 H1.out).mono ?_; rintro e w2 ⟨rfl, b2⟩)
   | (go_at_call 121; refine (sign_one _ xs _ HVD.out hm1 H0.out).mono ?_; rintro e w1 ⟨rfl, b1⟩))
 have hb2 : Below w0.heap.size w0 w2 := (Below.refl w0.heap.size w0).drew.trans (b1.trans (b2.mono b1.size))
 have HB2 := Lib.hid hb2
 obtain ⟨-, d1, -, -⟩ := two_cells ((hb2.block g (by omega)).trans B0.out)
 obtain ⟨-, d11, -, -⟩ := two_cells ((hb2.block (g + 1) hsz).trans B1.out)
 clear b1 b2 hb2 c0 c1 c10 c11
 go_wp2_with fail
 refine (cmp_any _ _ xs ys _ (HV0.out.below HB2.out) (HU0.out.below HB2.out)).mono ?_
 rintro e w3 ⟨rfl, hb3⟩
 rw [← HC.out]
 have HB3 := Lib.hid (HA2.out.trans ((HB2.out.trans (hb3.mono HB2.out.size)).mono HA2.out.size))
 clear hb3
 go_wp2_with fail
 go_ret
 refine ⟨?_, HB3.out⟩
 show Ending.returned (.int .i64 (wrap64 c)) = _
 rw [HCR.out, HC.out]
def fracT (na nb : Bool) (a b : Nat) : Bytes := intTx ((na != nb) && decide (a / Nat.gcd a b ≠ 0)) (a / Nat.gcd a b) ++ (if b / Nat.gcd a b = 1 then [] else 47 :: intTx false (b / Nat.gcd a b))
end Go.Proofs.YtgfmiladfeoldaaGreatDoor
namespace Go.Proofs.YtgfmiladfeoldaaGreatDoor
open Go.RowKit NatP LexP
def TxFPost (na nb : Bool) (a b : Nat) (w : World) (e : Ending) (w' : World) : Prop :=
 (if b = 0 then e = .returned (.tuple #[.string ⟨#[]⟩, .int .i64 4]) else e = .returned (.tuple #[.string ⟨(fracT na nb a b).toArray⟩, .int .i64 0])) ∧ Below w.heap.size w w'
set_option maxRecDepth 100000 in
set_option maxHeartbeats 2000000 in
theorem text_frac (na nb : Bool) (v u : Value) (xs ys : List Nat) (w : World) (hs : SG w) (hv : Rd w v xs) (hu : Rd w u ys) (hl : xs.length ≤ 67108864) (hl2 : ys.length ≤ 67108864) :
  Calls Tryz.prog 68 #[.agg #[.bool na, v, .bool nb, u]] w (TxFPost na nb (val xs) (val ys) w) := by
 have HV := Lib.hid hv
 have HU := Lib.hid hu
 have HSG := Lib.hid hs
 have hsz : 4 < w.heap.size := World.block_lt_of_cell? w _ (hs 0 (by omega))
 obtain ⟨ao, cap, rfl, -, -, -, -⟩ := hv.2
 obtain ⟨bo, cap2, rfl, -, -, -, -⟩ := hu.2
 have HA := Lib.hid (below_alloc w (.cells #[.bool na, .slice ao xs.length cap, .bool nb, .slice bo ys.length cap2] 71))
 have HVA := Lib.hid (HV.out.below HA.out)
 have HUA := Lib.hid (HU.out.below HA.out)
 have HL := Lib.hid hl
 have HL2 := Lib.hid hl2
 clear hs hv hu hl hl2
 by_cases h0 : val ys = 0
 ·have H0 := Lib.hid h0
  clear h0
  go_enter Tryz.func68, Tryz.ntmps68
  go_wp2_with fail
  refine (of_frac na nb _ _ xs ys 67108864 _ HVA.out HUA.out HL.out HL2.out (by omega)).mono ?_
  intro e w1 hp
  unfold OfFPost at hp
  rw [if_pos H0.out] at hp
  obtain ⟨rfl, hb1⟩ := hp
  have HB1 := Lib.hid (HA.out.trans (hb1.mono HA.out.size))
  clear hb1
  unfold zeroF
  go_wp2_with fail
  go_ret2
  refine ⟨?_, HB1.out.alloc HB1.out.size _⟩
  rw [if_pos H0.out]; rfl
 ·have H0 := Lib.hid h0
  clear h0
  go_enter Tryz.func68, Tryz.ntmps68
  go_wp2_with fail
  refine (of_frac na nb _ _ xs ys 67108864 _ HVA.out HUA.out HL.out HL2.out (by omega)).mono ?_
  intro e w1 hp
  unfold OfFPost at hp
  rw [if_neg H0.out] at hp
  obtain ⟨p, q, ps, qs, rfl, p1, p2, p3, p4, q1, q2, q3, q4, hb1⟩ := hp
  obtain ⟨po, pcap, rfl, -, -, -, -⟩ := p1.1.2
  obtain ⟨qo, qcap, rfl, -, -, -, -⟩ := q1.1.2
  obtain ⟨fn, hfn⟩ : ∃ fn, fn = ((na != nb) && decide (val xs / Nat.gcd (val xs) (val ys) ≠ 0)) := ⟨_, rfl⟩
  rw [← hfn]
  have HFN := Lib.hid hfn
  have HP1 := Lib.hid p1.1
  have HP2 := Lib.hid p2
  have HP4 := Lib.hid p4
  have HQ1 := Lib.hid q1.1
  have HQ2 := Lib.hid q2
  have HQ4 := Lib.hid q4
  have HB1 := Lib.hid (HA.out.trans (hb1.mono HA.out.size))
  clear p1 p2 p3 p4 q1 q2 q3 q4 hb1 hfn
  go_wp2_with fail
  obtain ⟨w2, hw2⟩ : ∃ w2, w2 = w1.alloc (.cells #[.bool fn, .slice po ps.length pcap, .bool false, .slice qo qs.length qcap] 71) := ⟨_, rfl⟩
  obtain ⟨h4, hh4⟩ : ∃ h4, h4 = w1.heap.size := ⟨_, rfl⟩
  have ha2 := below_alloc w1 (.cells #[.bool fn, .slice po ps.length pcap, .bool false, .slice qo qs.length qcap] 71)
  have hn2 := heap_alloc_new w1 (.cells #[.bool fn, .slice po ps.length pcap, .bool false, .slice qo qs.length qcap] 71)
  rw [← hw2] at ha2 hn2 ⊢
  rw [← hh4] at hn2 ⊢
  have hl4 : h4 < w2.heap.size := (Array.getElem?_eq_some_iff.1 hn2).1
  obtain ⟨c0, c1, c2, c3, -, -, -, -⟩ := four_cells hn2
  have HB2 := Lib.hid (HB1.out.trans (ha2.mono HB1.out.size))
  have HPA := Lib.hid (HP1.out.below ha2)
  have HQA := Lib.hid (HQ1.out.below ha2)
  have HQD := Lib.hid (HQA.out.below (Below.refl w2.heap.size w2).drew)
  have HN2 := Lib.hid hn2
  have HQZ : Hid (val qs ≠ 0) := by
   show _ ≠ _
   rw [HQ2.out]
   exact Nat.pos_iff_ne_zero.1 (Nat.div_pos (Nat.le_of_dvd (Nat.pos_of_ne_zero H0.out) (Nat.gcd_dvd_right _ _)) (Nat.gcd_pos_of_pos_right _ (Nat.pos_of_ne_zero H0.out)))
  have hm1 : qs.length ≤ 274877906944 := by have := HQ4.out; omega
  clear hw2 hh4 ha2 hn2
  go_region_held3 (fun w' => w'.cell? ⟨h4, 2, none⟩ = some (.bool false) ∧ w'.cell? ⟨h4, 3, none⟩ = some (.slice qo qs.length qcap))
   (first
    | go_keep
    | exact ⟨cell_keep b4 (cell_keep b3 c2), cell_keep b4 (cell_keep b3 c3)⟩
    | exact ⟨cell_keep b3 c2, cell_keep b3 c3⟩)
   (first
    | (have hq := b3; go_at_call 125; refine (cmp_zint _ _ qs os _ (HQD.out.below b3) o1 hm1 o3 HQZ.out o4).mono ?_; rintro e w4 ⟨rfl, b4⟩)
    | (go_at_call 122; refine (Of_zint 1 _ (by omega)).mono ?_; rintro e w3 ⟨ov, os, rfl, o1, o2, o3', b3⟩; have o3 : os.length ≤ 274877906944 := (by omega); have o4 : val os ≠ 0 := (by omega); obtain ⟨oo, ocap, rfl, -, -, -, -⟩ := o1.2))
  have hb4 : Below w2.heap.size w2 w4 := (Below.refl w2.heap.size w2).drew.trans (b3.trans (b4.mono b3.size))
  have HB4 := Lib.hid hb4
  have HBW4 := Lib.hid (HB2.out.trans (hb4.mono HB2.out.size))
  have HO2 := Lib.hid o2
  obtain ⟨d0, d1, d2, d3, -, -, -, -⟩ := four_cells ((hb4.block h4 hl4).trans HN2.out)
  have HSG4 := Lib.hid (HSG.out.below HBW4.out hsz)
  have HP4' := Lib.hid (HPA.out.below hb4)
  have HQ4' := Lib.hid (HQA.out.below hb4)
  have hsz4 : 4 < w4.heap.size := Nat.lt_of_lt_of_le hsz HBW4.out.size
  have HT1 := Lib.hid (intTx_len fn HP4.out HP1.out.ok)
  have HT2 := Lib.hid (intTx_len false HQ4.out HQ1.out.ok)
  have hl5 : ps.length ≤ 8589934592 := by have := HP4.out; omega
  have hl6 : qs.length ≤ 8589934592 := by have := HQ4.out; omega
  clear b3 b4 hb4 c0 c1 c2 c3 o1 o2 o3 o3' o4
  by_cases h1 : val qs = 1
  ·have hc : cmpI (val qs) 1 = 0 := cmpI_zero.2 h1
   have HF : Hid (fracT na nb (val xs) (val ys) = intTx fn (val ps)) := by
    show _ = _
    unfold fracT
    rw [← HQ2.out, if_pos h1, List.append_nil, ← HP2.out, HFN.out, ← HP2.out]
   clear h1
   rw [hc]
   go_wp2_with fail
   refine (text_zint fn _ ps _ HSG4.out HP4'.out hl5).mono ?_
   rintro e w5 ⟨rfl, hb5⟩
   have HB5 := Lib.hid (HBW4.out.trans (hb5.mono HBW4.out.size))
   clear hb5
   go_wp2_with fail
   go_ret2
   refine ⟨?_, HB5.out⟩
   rw [if_neg H0.out, HF.out]; rfl
  ·have hc : (cmpI (val qs) 1 == 0) = false := by
    rw [beq_eq_false_iff_ne]
    intro h
    exact h1 (cmpI_zero.1 h)
   have HF : Hid (fracT na nb (val xs) (val ys) = intTx fn (val ps) ++ 47 :: intTx false (val qs)) := by
    show _ = _
    unfold fracT
    rw [← HQ2.out, if_neg h1, ← HP2.out, HFN.out, ← HP2.out]
   obtain ⟨c, hcc⟩ : ∃ c, c = cmpI (val qs) 1 := ⟨_, rfl⟩
   rw [← hcc] at hc ⊢
   have hcat1 : ¬ 9223372036854775807 < (intTx fn (val ps)).length + 1 := by have := HT1.out; omega
   have hcat2 : ¬ 9223372036854775807 < (intTx fn (val ps)).length + 1 + (intTx false (val qs)).length := by have := HT1.out; have := HT2.out; omega
   have HSGD := Lib.hid (HSG4.out.below (Below.refl w4.heap.size w4).drew hsz4)
   have HPD := Lib.hid (HP4'.out.below (Below.refl w4.heap.size w4).drew)
   have HQD4 := Lib.hid (HQ4'.out.below (Below.refl w4.heap.size w4).drew)
   clear h1 hcc
   go_wp2_with fail
   go_region_held3 (fun w' => w'.cell? ⟨h4, 0, none⟩ = some (.bool fn) ∧ w'.cell? ⟨h4, 1, none⟩ = some (.slice po ps.length pcap) ∧ w'.cell? ⟨h4, 2, none⟩ = some (.bool false) ∧ w'.cell? ⟨h4, 3, none⟩ = some (.slice qo qs.length qcap))
    (first
     | go_keep
     | exact ⟨cell_keep b6 (cell_keep b5 d0), cell_keep b6 (cell_keep b5 d1), cell_keep b6 (cell_keep b5 d2), cell_keep b6 (cell_keep b5 d3)⟩
     | exact ⟨cell_keep b5 d0, cell_keep b5 d1, cell_keep b5 d2, cell_keep b5 d3⟩)
    (first
     | (have hq := b5; go_at_call 65; refine (text_zint false _ qs _ (HSGD.out.below b5 hsz4) (HQD4.out.below b5) hl6).mono ?_; rintro e w6 ⟨rfl, b6⟩)
     | (go_at_call 65; refine (text_zint fn _ ps _ HSGD.out HPD.out hl5).mono ?_; rintro e w5 ⟨rfl, b5⟩))
   have HB6 := Lib.hid (HBW4.out.drew.trans ((b5.trans (b6.mono b5.size)).mono HBW4.out.size))
   clear b5 b6 d0 d1 d2 d3
   go_wp2_with fail
   go_ret2
   refine ⟨?_, HB6.out⟩
   rw [if_neg H0.out, HF.out]
   show Ending.returned (.tuple #[.string ((⟨(intTx fn (val ps)).toArray⟩ : ByteArray) ++ ⟨#[47]⟩ ++ ⟨(intTx false (val qs)).toArray⟩), .int .i64 0]) = _
   rw [ba_app, ba_app]
   simp
end Go.Proofs.YtgfmiladfeoldaaGreatDoor
namespace Go.Proofs.YtgfmiladfeoldaaGreatDoor
open Go.RowKit NatP LexP
def ZC (w : World) (g o : Nat) (p : Bool × Nat) : Prop := ∃ m xs, w.cell? ⟨g, o, none⟩ = some (.bool p.1) ∧ w.cell? ⟨g, o + 1, none⟩ = some m ∧ Rd w m xs ∧ NatP.val xs = p.2 ∧ xs.length ≤ 1048576
theorem ZC.below {w w' : World} {g o : Nat} {p : Bool × Nat} (h : ZC w g o p) (hb : Below w.heap.size w w') : ZC w' g o p := by
 obtain ⟨m, xs, b1, b2, b3, b4, b5⟩ := h
 exact ⟨m, xs, cell_keep hb b1, cell_keep hb b2, b3.below hb, b4, b5⟩
def QRd (w : World) (v : Value) (l : List ((Bool × Nat) × (Bool × Nat))) : Prop := ∃ ao cap, v = .slice ao l.length cap ∧ l.length ≤ cap ∧ cap ≤ maxLen ∧ (0 < l.length → ∃ g o, ao = some ⟨g, o, none⟩ ∧ g < w.heap.size ∧ ∀ j p, l[j]? = some p → ZC w g (o + j * 4) p.1 ∧ ZC w g (o + j * 4 + 2) p.2)
theorem QRd.below {w w' : World} {v : Value} {l : List ((Bool × Nat) × (Bool × Nat))} (h : QRd w v l) (hb : Below w.heap.size w w') : QRd w' v l := by
 obtain ⟨ao, cap, e, h1, h2, h3⟩ := h
 refine ⟨ao, cap, e, h1, h2, fun h0 => ?_⟩
 obtain ⟨g, o, rfl, a2, a3⟩ := h3 h0
 refine ⟨g, o, rfl, Nat.lt_of_lt_of_le a2 hb.size, fun j p hj => ?_⟩
 exact ⟨(a3 j p hj).1.below hb, (a3 j p hj).2.below hb⟩
theorem Tryz.infoIq : (Tryz.prog.info? 62).map (fun i => (i.zero, i.size, i.bytes)) = some (some (.agg #[.bool false, .slice none 0 0]), 2, 32) := by kernel_rfl
theorem make_intq (n : Nat) (hn : n ≤ 1099511627776) : ∀ w : World, (Instr.makeSlice 45 (.int .i64 (n : Int)) (.int .i64 (n : Int))).run Tryz.prog w = .ok (.slice (some ⟨w.heap.size, 0, none⟩) n n) (w.alloc (.cells (madeCells #[.bool false, .slice none 0 0] (n * 2)) 62)) := by
 obtain ⟨i0, hi, hz0, hz1, hz2⟩ := info_parts Tryz.infoIq
 intro w
 have hb : (i0.bytes : Int) * (n : Int) ≤ 281474976710656 := by rw [hz2]; omega
 have hr := run_make (P := Tryz.prog) w 45 62 i0 (.agg #[.bool false, .slice none 0 0]) Tryz.underlying45 hi hz0 .i64 .i64 n n (by omega) (Int.le_refl _) hb (by omega)
 simp only [Int.toNat_natCast] at hr
 rw [hr, hz1]
 rfl
def qTx (p : (Bool × Nat) × (Bool × Nat)) : Bytes := fracT p.1.1 p.2.1 p.1.2 p.2.2
def qsT (l : List ((Bool × Nat) × (Bool × Nat))) : List Bytes := l.map qTx
def denOk (l : List ((Bool × Nat) × (Bool × Nat))) : Prop := ∀ p ∈ l, p.2.2 ≠ 0
instance (l : List ((Bool × Nat) × (Bool × Nat))) : Decidable (denOk l) := by unfold denOk; infer_instance
def QmPost (r c : Int) (l : List ((Bool × Nat) × (Bool × Nat))) (w : World) (e : Ending) (w' : World) : Prop :=
 (if SoundM r c l.length then if denOk l then e = .returned (.tuple #[.string ⟨(gridT r.toNat c.toNat (qsT l)).toArray⟩, .int .i64 0]) else e = .returned (.tuple #[.string ⟨#[]⟩, .int .i64 4])
  else e = .returned (.tuple #[.string ⟨#[]⟩, .int .i64 1])) ∧ Below w.heap.size w w'
set_option maxRecDepth 100000 in
set_option maxHeartbeats 2000000 in
theorem qmat_bad (r c : Int) (l : List ((Bool × Nat) × (Bool × Nat))) (v : Value) (w : World) (hv : QRd w v l) (hn : l.length ≤ 1073741824) (h : ¬ SoundM r c l.length) :
  Calls Tryz.prog 34 #[.agg #[.int .i64 r, .int .i64 c, v]] w fun e w' => e = .returned (.tuple #[.string ⟨#[]⟩, .int .i64 1]) ∧ Below w.heap.size w w' := by
 obtain ⟨ao, cap, rfl, h1, h2, -⟩ := hv
 obtain ⟨n, hnn⟩ : ∃ n, n = l.length := ⟨_, rfl⟩
 rw [← hnn] at h hn h1 ⊢
 have H := Lib.hid h
 have HMK := make_intq n (by omega)
 have HA := Lib.hid (below_alloc w (.cells #[.int .i64 r, .int .i64 c, .slice ao n cap] 58))
 have hb0 := heap_alloc_new w (.cells #[.int .i64 r, .int .i64 c, .slice ao n cap] 58)
 obtain ⟨w0, hw0⟩ : ∃ w0, w0 = w.alloc (.cells #[.int .i64 r, .int .i64 c, .slice ao n cap] 58) := ⟨_, rfl⟩
 rw [← hw0] at HA hb0
 have HW0 := Lib.hid hw0
 obtain ⟨g, hg⟩ : ∃ g, g = w.heap.size := ⟨_, rfl⟩
 rw [← hg] at hb0
 have HG := Lib.hid hg
 have c0 : w0.cell? ⟨g, 0, none⟩ = some (.int .i64 r) := (cell_of_row w0 _ _ _ _ _ hb0).trans rfl
 have c1 : w0.cell? ⟨g, 1, none⟩ = some (.int .i64 c) := (cell_of_row w0 _ _ _ _ _ hb0).trans rfl
 have c2 : w0.cell? ⟨g, 2, none⟩ = some (.slice ao n cap) := (cell_of_row w0 _ _ _ _ _ hb0).trans rfl
 have k0 := Lib.hid (cell_keep (below_alloc w0.drew (.cells (madeCells #[.bool false, .slice none 0 0] (n * 2)) 62)) (cell_keep (Below.refl w0.heap.size w0).drew c0))
 have k1 := Lib.hid (cell_keep (below_alloc w0.drew (.cells (madeCells #[.bool false, .slice none 0 0] (n * 2)) 62)) (cell_keep (Below.refl w0.heap.size w0).drew c1))
 have k2 := Lib.hid (cell_keep (below_alloc w0.drew (.cells (madeCells #[.bool false, .slice none 0 0] (n * 2)) 62)) (cell_keep (Below.refl w0.heap.size w0).drew c2))
 clear h h2 hnn hw0 hb0 hg
 go_enter Tryz.func34, Tryz.ntmps34
 go_wp2_with fail
 rw [← HW0.out, ← HG.out]
 go_region_held3 (fun w' => w'.cell? ⟨g, 0, none⟩ = some (.int .i64 r) ∧ w'.cell? ⟨g, 1, none⟩ = some (.int .i64 c) ∧ w'.cell? ⟨g, 2, none⟩ = some (.slice ao n cap))
  (first
   | go_keep
   | exact ⟨cell_keep b1 k0.out, cell_keep b1 k1.out, cell_keep b1 k2.out⟩)
  ((go_at_call 64; refine (mcheck_bad r c n n _ _ hn H.out).mono ?_; rintro e w1 ⟨rfl, b1⟩))
 have HB1 := Lib.hid (HA.out.drew.trans (((below_alloc _ _).trans (b1.mono (below_alloc _ _).size)).mono HA.out.size))
 clear b1 c0 c1 c2
 go_wp2_with fail
 go_ret2
 exact ⟨rfl, HB1.out⟩
end Go.Proofs.YtgfmiladfeoldaaGreatDoor
namespace Go.Proofs.YtgfmiladfeoldaaGreatDoor
open Go.RowKit NatP LexP
def IWd (w : World) (v : Value) (l : List (Bool × List Nat)) : Prop := ∃ ao cap, v = .slice ao l.length cap ∧ l.length ≤ cap ∧ cap ≤ maxLen ∧ (0 < l.length → ∃ g o, ao = some ⟨g, o, none⟩ ∧ g < w.heap.size ∧ ∀ j p, l[j]? = some p → ∃ m, w.cell? ⟨g, o + j * 2, none⟩ = some (.bool p.1) ∧ w.cell? ⟨g, o + j * 2 + 1, none⟩ = some m ∧ Rd w m p.2)
theorem IWd.below {w w' : World} {v : Value} {l : List (Bool × List Nat)} (h : IWd w v l) (hb : Below w.heap.size w w') : IWd w' v l := by
 obtain ⟨ao, cap, e, h1, h2, h3⟩ := h
 refine ⟨ao, cap, e, h1, h2, fun h0 => ?_⟩
 obtain ⟨g, o, rfl, a2, a3⟩ := h3 h0
 refine ⟨g, o, rfl, Nat.lt_of_lt_of_le a2 hb.size, fun j p hj => ?_⟩
 obtain ⟨m, b1, b2, b3⟩ := a3 j p hj
 exact ⟨m, cell_keep hb b1, cell_keep hb b2, b3.below hb⟩
def IWw (w : World) (v : Value) (l : List (Bool × List Nat)) : Prop := ∃ ao cap, v = .slice ao l.length cap ∧ l.length ≤ cap ∧ cap ≤ maxLen ∧ (0 < l.length → ∃ g o, ao = some ⟨g, o, none⟩ ∧ g < w.heap.size ∧ ∀ j p, l[j]? = some p → ∃ m, w.cell? ⟨g, o + j * 2, none⟩ = some (.bool p.1) ∧ w.cell? ⟨g, o + j * 2 + 1, none⟩ = some m ∧ RdW w m p.2)
theorem IWw.below {w w' : World} {v : Value} {l : List (Bool × List Nat)} (h : IWw w v l) (hb : Below w.heap.size w w') : IWw w' v l := by
 obtain ⟨ao, cap, e, h1, h2, h3⟩ := h
 refine ⟨ao, cap, e, h1, h2, fun h0 => ?_⟩
 obtain ⟨g, o, rfl, a2, a3⟩ := h3 h0
 refine ⟨g, o, rfl, Nat.lt_of_lt_of_le a2 hb.size, fun j p hj => ?_⟩
 obtain ⟨m, b1, b2, b3⟩ := a3 j p hj
 exact ⟨m, cell_keep hb b1, cell_keep hb b2, b3.below hb⟩
theorem IWd.weak {w : World} {v : Value} {l : List (Bool × List Nat)} (h : IWd w v l) : IWw w v l := by
 obtain ⟨ao, cap, e, h1, h2, h3⟩ := h
 refine ⟨ao, cap, e, h1, h2, fun h0 => ?_⟩
 obtain ⟨g, o, rfl, a2, a3⟩ := h3 h0
 refine ⟨g, o, rfl, a2, fun j p hj => ?_⟩
 obtain ⟨m, b1, b2, b3⟩ := a3 j p hj
 exact ⟨m, b1, b2, b3.weak⟩
def ivs (l : List (Bool × List Nat)) : List (Bool × Nat) := l.map fun p => (p.1, val p.2)
theorem IWd.ird {w : World} {v : Value} {l : List (Bool × List Nat)} (h : IWd w v l) (hl : ∀ p ∈ l, p.2.length ≤ 67108864) : IRd w v (ivs l) := by
 obtain ⟨ao, cap, e, h1, h2, h3⟩ := h
 have hn : (ivs l).length = l.length := by simp [ivs]
 refine ⟨ao, cap, by rw [hn]; exact e, by rw [hn]; exact h1, h2, fun h0 => ?_⟩
 obtain ⟨g, o, rfl, a2, a3⟩ := h3 (by rw [← hn]; exact h0)
 refine ⟨g, o, rfl, a2, fun j p hj => ?_⟩
 simp only [ivs, List.getElem?_map, Option.map_eq_some_iff] at hj
 obtain ⟨q, hq, rfl⟩ := hj
 obtain ⟨m, b1, b2, b3⟩ := a3 j q hq
 exact ⟨m, q.2, b1, b2, b3, rfl, hl q (List.mem_of_getElem? hq)⟩
def ABk (w : World) (q n B : Nat) (l : List (Bool × List Nat)) (i : Nat) : Prop := ∃ cur : Array Value, w.heap[q]? = some (.cells cur 62 (0, 0)) ∧ cur.size = n * 2 ∧ ∀ j p, j < i → l[j]? = some p → ∃ m, cur[j * 2]? = some (.bool p.1) ∧ cur[j * 2 + 1]? = some m ∧ Rd w m p.2 ∧ m.ownBlock ≠ some q ∧ ∀ k, m.ownBlock = some k → B ≤ k
theorem ABk.lt {w : World} {q n B i : Nat} {l : List (Bool × List Nat)} (h : ABk w q n B l i) : q < w.heap.size := by
 obtain ⟨cur, h1, -⟩ := h; exact (Array.getElem?_eq_some_iff.1 h1).1
theorem ABk.below {w w' : World} {q n B i : Nat} {l : List (Bool × List Nat)} (h : ABk w q n B l i) (hb : Below w.heap.size w w') : ABk w' q n B l i := by
 obtain ⟨cur, h1, h2, h3⟩ := h
 refine ⟨cur, (hb.block q (Array.getElem?_eq_some_iff.1 h1).1).trans h1, h2, fun j p hj hp => ?_⟩
 obtain ⟨m, a1, a2, a3, a4⟩ := h3 j p hj hp
 exact ⟨m, a1, a2, a3.below hb, a4⟩
theorem ABk.made (w : World) (n B : Nat) (l : List (Bool × List Nat)) : ABk (w.alloc (.cells (madeCells #[.bool false, .slice none 0 0] (n * 2)) 62)) w.heap.size n B l 0 :=
 ⟨_, heap_alloc_new w _, by simp [madeCells], fun j p hj _ => absurd hj (Nat.not_lt_zero _)⟩
theorem ABk.wr {w w' : World} {R q n B i : Nat} {l : List (Bool × List Nat)} (h : ABk w q n B l i) (hw : Wr R none w w') (hq : q ≠ R) (hR : R < B) : ABk w' q n B l i := by
 obtain ⟨cur, h1, h2, h3⟩ := h
 refine ⟨cur, (hw.block q (Array.getElem?_eq_some_iff.1 h1).1 hq (by simp)).trans h1, h2, fun j p hj hp => ?_⟩
 obtain ⟨m, a1, a2, a3, a4, a5⟩ := h3 j p hj hp
 exact ⟨m, a1, a2, a3.wr hw (fun k hk => ⟨by have := a5 k hk; omega, by simp⟩), a4, a5⟩
theorem ABk.set {w : World} {q n B i : Nat} {l : List (Bool × List Nat)} (h : ABk w q n B l i) (hi : i < n) {b : Bool} {xs : List Nat} (hx : l[i]? = some (b, xs)) {m : Value} (hm : Rd w m xs) (hq : m.ownBlock ≠ some q) (hB : ∀ k, m.ownBlock = some k → B ≤ k) :
  ABk ((w.setCell ⟨q, i * 2, none⟩ (.bool b)).setCell ⟨q, i * 2 + 1, none⟩ m) q n B l (i + 1) := by
 obtain ⟨cur, h1, h2, h3⟩ := h
 have s0 := heap_setCell_same w q (i * 2) _ 62 (.bool b) h1
 have s1 := heap_setCell_same _ q (i * 2 + 1) _ 62 m s0
 have hwr : Wr q none w ((w.setCell ⟨q, i * 2, none⟩ (.bool b)).setCell ⟨q, i * 2 + 1, none⟩ m) := (Wr.of_set w _ _).trans (Mv.refl _ _) (Wr.of_set _ _ _)
 refine ⟨_, s1, by simp [h2], fun j p hj hp => ?_⟩
 by_cases hji : j = i
 ·subst hji
  rw [hx] at hp; cases hp
  refine ⟨m, ?_, ?_, hm.wr hwr (fun k hk => ⟨fun e => hq (by rw [hk, e]), by simp⟩), hq, hB⟩
  ·simp [Array.getElem?_setIfInBounds]; omega
  ·simp [Array.getElem?_setIfInBounds]; omega
 ·obtain ⟨m', a1, a2, a3, a4, a5⟩ := h3 j p (by omega) hp
  refine ⟨m', ?_, ?_, a3.wr hwr (fun k hk => ⟨fun e => a4 (by rw [hk, e]), by simp⟩), a4, a5⟩
  ·rw [← a1]; simp [Array.getElem?_setIfInBounds]; rw [if_neg (by omega), if_neg (by omega)]
  ·rw [← a2]; simp [Array.getElem?_setIfInBounds]; rw [if_neg (by omega), if_neg (by omega)]
theorem ABk.iwd {w : World} {q n B : Nat} {l : List (Bool × List Nat)} (h : ABk w q n B l l.length) (m : Nat) (hm : l.length ≤ m) (hmx : m ≤ maxLen) : IWd w (.slice (some ⟨q, 0, none⟩) l.length m) l := by
 have hl := h.lt
 obtain ⟨cur, h1, h2, h3⟩ := h
 refine ⟨_, _, rfl, hm, hmx, fun h0 => ⟨q, 0, rfl, hl, fun j p hp => ?_⟩⟩
 obtain ⟨m, a1, a2, a3, -⟩ := h3 j p (List.getElem?_eq_some_iff.1 hp).1 hp
 exact ⟨m, by rw [Nat.zero_add, cell_of_row _ _ _ _ _ _ h1]; exact a1, by rw [Nat.zero_add, cell_of_row _ _ _ _ _ _ h1]; exact a2, a3⟩
structure CmS (l : List (Bool × List Nat)) (r c : Int) (n cap g : Nat) (ao : Option Addr) (w : World) (p q i : Nat) (wr : World) : Prop where
 box : wr.heap[g]? = some (.cells #[.int .i64 r, .int .i64 c, .slice ao n cap] 47 (0, 0))
 res : wr.heap[g + 1]? = some (.cells #[.int .i64 0, .int .i64 0, .slice none 0 0] 47 (0, 0))
 out : wr.heap[p]? = some (.cells #[.int .i64 r, .int .i64 c, .slice (some ⟨q, 0, none⟩) n n] 47 (0, 0))
 blk : ABk wr q n (g + 2) l i
 bel : Below w.heap.size w wr
 ap : q ≠ p ∧ q ≠ g ∧ q ≠ g + 1
 le : w.heap.size ≤ q ∧ w.heap.size ≤ g ∧ p ≠ g + 1 ∧ w.heap.size ≤ p
theorem CmS.start {l : List (Bool × List Nat)} {r c : Int} {n cap g p q : Nat} {ao : Option Addr} {w w0 wx : World} (hb0 : Below w.heap.size w w0) (hb : Below w0.heap.size w0 wx)
  (h0 : w0.heap[g]? = some (.cells #[.int .i64 r, .int .i64 c, .slice ao n cap] 47 (0, 0))) (h1 : w0.heap[g + 1]? = some (.cells #[.int .i64 0, .int .i64 0, .slice none 0 0] 47 (0, 0)))
  (out : wx.heap[p]? = some (.cells #[.int .i64 r, .int .i64 c, .slice (some ⟨q, 0, none⟩) n n] 47 (0, 0))) (blk : ABk wx q n (g + 2) l 0) (hpq : q ≠ p) (hp : w0.heap.size ≤ p) (hq : w0.heap.size ≤ q) (hg : w.heap.size ≤ g) : CmS l r c n cap g ao w p q 0 wx := by
 have l0 := (Array.getElem?_eq_some_iff.1 h0).1
 have l1 := (Array.getElem?_eq_some_iff.1 h1).1
 have := hb0.size
 exact ⟨(hb.block g l0).trans h0, (hb.block (g + 1) l1).trans h1, out, blk, hb0.trans (hb.mono hb0.size), ⟨hpq, by omega, by omega⟩, ⟨by omega, hg, by omega, by omega⟩⟩
theorem CmS.below {l : List (Bool × List Nat)} {r c : Int} {n cap g p q i : Nat} {ao : Option Addr} {w wr wx : World} (h : CmS l r c n cap g ao w p q i wr) (hb : Below wr.heap.size wr wx) : CmS l r c n cap g ao w p q i wx :=
 ⟨(hb.block g (Array.getElem?_eq_some_iff.1 h.box).1).trans h.box, (hb.block (g + 1) (Array.getElem?_eq_some_iff.1 h.res).1).trans h.res, (hb.block p (Array.getElem?_eq_some_iff.1 h.out).1).trans h.out, h.blk.below hb, h.bel.trans (hb.mono h.bel.size), h.ap, h.le⟩
theorem CmS.set {l : List (Bool × List Nat)} {r c : Int} {n cap g p q i : Nat} {ao : Option Addr} {w wr : World} (h : CmS l r c n cap g ao w p q i wr) (hi : i < n) {b : Bool} {xs : List Nat} (hx : l[i]? = some (b, xs)) {m : Value} (hm : Rd wr m xs) (hq : m.ownBlock ≠ some q) (hB : ∀ k, m.ownBlock = some k → g + 2 ≤ k) :
  CmS l r c n cap g ao w p q (i + 1) ((wr.setCell ⟨q, i * 2, none⟩ (.bool b)).setCell ⟨q, i * 2 + 1, none⟩ m) := by
 have hwr : Wr q none wr ((wr.setCell ⟨q, i * 2, none⟩ (.bool b)).setCell ⟨q, i * 2 + 1, none⟩ m) := (Wr.of_set wr _ _).trans (Mv.refl _ _) (Wr.of_set _ _ _)
 have k := fun k (hk : k < wr.heap.size) (hne : k ≠ q) => hwr.block k hk hne (by simp)
 exact ⟨(k g (Array.getElem?_eq_some_iff.1 h.box).1 h.ap.2.1.symm).trans h.box, (k (g + 1) (Array.getElem?_eq_some_iff.1 h.res).1 h.ap.2.2.symm).trans h.res, (k p (Array.getElem?_eq_some_iff.1 h.out).1 h.ap.1.symm).trans h.out, h.blk.set hi hx hm hq hB, hwr.to_below h.bel h.bel.size h.le.1 (fun k hk => by cases hk), h.ap, h.le⟩
set_option maxRecDepth 100000 in
set_option maxHeartbeats 2000000 in
theorem copymat_any (r c : Int) (l : List (Bool × List Nat)) (v : Value) (w : World) (hv : IWw w v l) (hn : l.length ≤ 1073741824) (hl : ∀ p ∈ l, p.2.length ≤ 1073741824) :
  Calls Tryz.prog 31 #[.agg #[.int .i64 r, .int .i64 c, v]] w fun e w' => ∃ u, e = .returned (.agg #[.int .i64 r, .int .i64 c, u]) ∧ IWd w' u l ∧ Below w.heap.size w w' := by
 have HV := Lib.hid hv
 obtain ⟨ao, cap, rfl, h1, h2, -⟩ := hv
 obtain ⟨n, hnn⟩ : ∃ n, n = l.length := ⟨_, rfl⟩
 rw [← hnn] at h1 hn ⊢
 have HNN := Lib.hid hnn
 have HL := Lib.hid hl
 have HMK := make_intq n (by omega)
 clear hl hnn h2
 go_enter Tryz.func31, Tryz.ntmps31
 go_upto_region 1 with fail
 obtain ⟨g, hg⟩ : ∃ g, g = w.heap.size := ⟨_, rfl⟩
 obtain ⟨w0, hw0⟩ : ∃ w0, w0 = (w.alloc (.cells #[.int .i64 r, .int .i64 c, .slice ao n cap] 47)).alloc (.cells #[.int .i64 0, .int .i64 0, .slice none 0 0] 47) := ⟨_, rfl⟩
 have HB0 : Hid (Below w.heap.size w w0) := by
  rw [hw0]
  exact (below_alloc w (.cells #[.int .i64 r, .int .i64 c, .slice ao n cap] 47)).trans ((below_alloc _ _).mono (below_alloc w (.cells #[.int .i64 r, .int .i64 c, .slice ao n cap] 47)).size)
 have hb0 : w0.heap[g]? = some (.cells #[.int .i64 r, .int .i64 c, .slice ao n cap] 47 (0, 0)) := by
  rw [hw0, hg]; exact (below_alloc (w.alloc (.cells #[.int .i64 r, .int .i64 c, .slice ao n cap] 47)) _).block w.heap.size (by simp) |>.trans (heap_alloc_new w _)
 have hb1 : w0.heap[g + 1]? = some (.cells #[.int .i64 0, .int .i64 0, .slice none 0 0] 47 (0, 0)) := by
  rw [hw0, hg]
  have := heap_alloc_new (w.alloc (.cells #[.int .i64 r, .int .i64 c, .slice ao n cap] 47)) (.cells #[.int .i64 0, .int .i64 0, .slice none 0 0] 47)
  rw [World.size_alloc] at this; exact this
 rw [← hw0, ← hg]
 have c0 : w0.cell? ⟨g, 0, none⟩ = some (.int .i64 r) := (cell_of_row w0 _ _ _ _ _ hb0).trans rfl
 have c1 : w0.cell? ⟨g, 1, none⟩ = some (.int .i64 c) := (cell_of_row w0 _ _ _ _ _ hb0).trans rfl
 have c2 : w0.cell? ⟨g, 2, none⟩ = some (.slice ao n cap) := (cell_of_row w0 _ _ _ _ _ hb0).trans rfl
 have HG := Lib.hid hg
 have HH0 := Lib.hid hb0
 have HH1 := Lib.hid hb1
 clear hw0 hb0 hb1 hg
 have hgl : g + 1 < w0.heap.size := (Array.getElem?_eq_some_iff.1 HH1.out).1
 go_cut [3] (fun pv wx => ∃ p q : Nat, pv = .pointer (some ⟨p, 0, none⟩) ∧ Hid (CmS l r c n cap g ao w p q 0 wx))
 case first =>
  go_region_held3 (fun w' => w'.cell? ⟨g, 0, none⟩ = some (.int .i64 r) ∧ w'.cell? ⟨g, 1, none⟩ = some (.int .i64 c) ∧ w'.cell? ⟨g, 2, none⟩ = some (.slice ao n cap))
   (go_keep)
   (fail)
  ·go_wp2_with fail
   go_meet
   refine ⟨w0.heap.size + 1, w0.heap.size, rfl, CmS.start HB0.out ((below_alloc w0 _).trans ((below_alloc _ _).mono (below_alloc w0 _).size)).drew HH0.out HH1.out ?_ ((ABk.made w0 n (g + 2) l).below (below_alloc _ _).drew) (by omega) (by omega) (Nat.le_refl _) (by rw [HG.out]; exact Nat.le_refl _)⟩
   have := heap_alloc_new (w0.alloc (.cells (madeCells #[.bool false, .slice none 0 0] (n * 2)) 62)) (.cells #[.int .i64 r, .int .i64 c, .slice (some ⟨w0.heap.size, 0, none⟩) n n] 47)
   rw [World.size_alloc] at this
   exact this
  ·go_wp2_with fail
   go_meet
   refine ⟨w0.heap.size, w0.heap.size + 1, rfl, CmS.start HB0.out ((below_alloc w0 _).trans ((below_alloc _ _).mono (below_alloc w0 _).size)).drew HH0.out HH1.out ((below_alloc _ _).drew.block _ (by simp) |>.trans (heap_alloc_new w0 _)) ?_ (by omega) (Nat.le_refl _) (by omega) (by rw [HG.out]; exact Nat.le_refl _)⟩
   have := (ABk.made (w0.alloc (.cells #[.int .i64 r, .int .i64 c, .slice (some ⟨w0.heap.size + 1, 0, none⟩) n n] 47)) n (g + 2) l).below (Below.refl _ _).drew
   rw [World.size_alloc] at this
   exact this
 case rest =>
  obtain ⟨p, q, rfl, HST⟩ := hcut
  clear HH0 HH1 hgl c0 c1 c2 HB0 HMK
  go_wp2_with fail
  go_loopw [4] (fun iv wr => ∃ i : Nat, iv = .int .i64 (i : Nat) ∧ i ≤ n ∧ CmS l r c n cap g ao w p q i wr) (fun iv _ => n - (intOf iv).toNat)
  case atStart => exact ⟨0, rfl, Nat.zero_le _, HST.out⟩
  clear HST
  case round =>
   obtain ⟨i, rfl, hin, hst⟩ := hrel
   have HST := Lib.hid hst
   have k2 : wr.cell? ⟨g, 2, none⟩ = some (.slice ao n cap) := (cell_of_row wr _ _ _ _ _ hst.box).trans rfl
   by_cases hlt : i < n
   ·have kp : wr.cell? ⟨p, 2, none⟩ = some (.slice (some ⟨q, 0, none⟩) n n) := (cell_of_row wr _ _ _ _ _ hst.out).trans rfl
    obtain ⟨e, he⟩ : ∃ e, l[i]? = some e := ⟨_, List.getElem?_eq_getElem (by rw [← HNN.out]; exact hlt)⟩
    obtain ⟨b, xs⟩ := e
    obtain ⟨ao', cap', e', -, -, hc⟩ := HV.out
    cases e'
    obtain ⟨ga, o, rfl, hga, hc2⟩ := hc (by rw [← HNN.out]; omega)
    obtain ⟨m, e0, e1, hrd⟩ := hc2 i _ he
    replace e0 := (hst.bel.cell (p := ⟨ga, o + i * 2, none⟩) hga).trans e0
    replace e1 := (hst.bel.cell (p := ⟨ga, o + i * 2 + 1, none⟩) hga).trans e1
    replace hrd := hrd.below hst.bel
    obtain ⟨mo, mcap, rfl, -, -, -, -⟩ := hrd.2
    simp only at e0 e1 hrd
    have HRD := Lib.hid (hrd.below (Below.refl wr.heap.size wr).drew)
    have HE := Lib.hid he
    have hxl := HL.out _ (List.mem_of_getElem? he)
    simp only at hxl
    obtain ⟨cur, hq1, hq2, -⟩ := hst.blk
    have y0 : (wr.cell? ⟨q, i * 2, none⟩).isSome = true := by rw [cell_of_row _ _ _ _ _ _ hq1, Array.getElem?_eq_getElem (by omega)]; rfl
    have y1 : (wr.cell? ⟨q, i * 2 + 1, none⟩).isSome = true := by rw [cell_of_row _ _ _ _ _ _ hq1, Array.getElem?_eq_getElem (by omega)]; rfl
    have f0 : wr.frozen? ⟨q, i * 2, none⟩ = false := frozen_of_row _ _ _ _ _ hq1
    have f1 : wr.frozen? ⟨q, i * 2 + 1, none⟩ = false := frozen_of_row _ _ _ _ _ hq1
    have Y0 := Lib.hid y0
    have Y1 := Lib.hid y1
    have hql := hst.blk.lt
    have hpq := hst.ap.1
    have hgq := hst.ap.2.1
    have hi0 : (0 : Int) ≤ (i : Int) := Int.natCast_nonneg _
    have hi1 : (i : Int) < (n : Int) := by omega
    have hqa : ga ≠ q := by have := hst.le.1; omega
    have hpq' : p ≠ q := hpq.symm
    have hgq' : g ≠ q := hgq.symm
    obtain ⟨U, hU⟩ := someU
    have HU := Lib.hid hU
    clear hU he hrd hq1 y0 y1 hst hc hc2 hq2
    go_wp2_with fail
    go_region_held3 (fun w' => w'.cell? ⟨p, 2, none⟩ = some (.slice (some ⟨q, 0, none⟩) n n) ∧ w'.cell? ⟨g, 2, none⟩ = some (.slice (some ⟨ga, o, none⟩) n cap) ∧ w'.cell? ⟨ga, o + i * 2, none⟩ = some (.bool b) ∧ w'.cell? ⟨ga, o + i * 2 + 1, none⟩ = some (.slice mo xs.length mcap) ∧ w'.frozen? ⟨q, i * 2, none⟩ = false ∧ w'.frozen? ⟨q, i * 2 + 1, none⟩ = false ∧ w'.cell? ⟨q, i * 2, none⟩ = some (U q (i * 2) w') ∧ w'.cell? ⟨q, i * 2 + 1, none⟩ = some (U q (i * 2 + 1) w'))
     (first
      | (refine ⟨?_, ?_, ?_, ?_, ?_, ?_, HU.out _ _ _ (by exact Y0.out), HU.out _ _ _ (by exact Y1.out)⟩ <;> go_keep)
      | exact ⟨(set2_ne hpq' hpq').trans (cell_keep b2 kp), (set2_ne hgq' hgq').trans (cell_keep b2 k2), (set2_ne hqa hqa).trans (cell_keep b2 e0), (set2_ne hqa hqa).trans (cell_keep b2 e1), set2_fro.trans (fro_keep2 b2 hql f0), set2_fro.trans (fro_keep2 b2 hql f1), HU.out _ _ _ (isSome_set' (isSome_set' (isSome_keep b2 Y0.out))), HU.out _ _ _ (isSome_set' (isSome_set' (isSome_keep b2 Y1.out)))⟩
      | exact ⟨cell_keep b2 kp, cell_keep b2 k2, cell_keep b2 e0, cell_keep b2 e1, fro_keep2 b2 hql f0, fro_keep2 b2 hql f1, HU.out _ _ _ (isSome_keep b2 Y0.out), HU.out _ _ _ (isSome_keep b2 Y1.out)⟩)
     ((go_at_call 63; refine (copyint_any b _ xs _ (by exact HRD.out) hxl).mono ?_; rintro e w2 ⟨uo, ucap, rfl, q1, b2⟩))
    have h9 : CmS l r c n cap g (some ⟨ga, o, none⟩) w p q (i + 1) ((w2.setCell ⟨q, i * 2, none⟩ (.bool b)).setCell ⟨q, i * 2 + 1, none⟩ (.slice uo xs.length ucap)) :=
     (HST.out.below ((Below.refl wr.heap.size wr).drew.trans b2)).set hlt HE.out q1.1 (fun e => by have := (q1.2 q e).1; change wr.heap.size ≤ q at this; omega) (fun k hk => by have := (q1.2 k hk).1; change wr.heap.size ≤ k at this; have := (Array.getElem?_eq_some_iff.1 HST.out.res).1; omega)
    have H9 := Lib.hid h9
    clear h9 q1 b2 kp k2 e0 e1 f0 f1
    go_wp2_with fail
    have hfin := H9.out
    first | exact ⟨⟨i + 1, by go_num, by omega, hfin⟩, by simp [intOf] <;> omega⟩ | exact ⟨by (repeat apply Exists.intro); exact ⟨⟨i + 1, by go_num, by omega, hfin⟩, rfl⟩, by simp [intOf] <;> omega⟩
   ·have hie : i = n := by omega
    have kp0 : wr.cell? ⟨p, 0, none⟩ = some (.int .i64 r) := (cell_of_row wr _ _ _ _ _ hst.out).trans rfl
    have kp1 : wr.cell? ⟨p, 1, none⟩ = some (.int .i64 c) := (cell_of_row wr _ _ _ _ _ hst.out).trans rfl
    have kp2 : wr.cell? ⟨p, 2, none⟩ = some (.slice (some ⟨q, 0, none⟩) n n) := (cell_of_row wr _ _ _ _ _ hst.out).trans rfl
    have r0 : wr.cell? ⟨g + 1, 0, none⟩ = some (.int .i64 0) := (cell_of_row wr _ _ _ _ _ hst.res).trans rfl
    have r1 : wr.cell? ⟨g + 1, 1, none⟩ = some (.int .i64 0) := (cell_of_row wr _ _ _ _ _ hst.res).trans rfl
    have r2 : wr.cell? ⟨g + 1, 2, none⟩ = some (.slice none 0 0) := (cell_of_row wr _ _ _ _ _ hst.res).trans rfl
    have f0 : wr.frozen? ⟨g + 1, 0, none⟩ = false := frozen_of_row _ _ _ _ _ hst.res
    have f1 : wr.frozen? ⟨g + 1, 1, none⟩ = false := frozen_of_row _ _ _ _ _ hst.res
    have f2 : wr.frozen? ⟨g + 1, 2, none⟩ = false := frozen_of_row _ _ _ _ _ hst.res
    rw [hie] at HST
    clear hst
    go_wp2_with fail
    have hwr : Wr (g + 1) none wr (((wr.setCell ⟨g + 1, 0, none⟩ (.int .i64 r)).setCell ⟨g + 1, 1, none⟩ (.int .i64 c)).setCell ⟨g + 1, 2, none⟩ (.slice (some ⟨q, 0, none⟩) n n)) := ((Wr.of_set wr _ _).trans (Mv.refl _ _) (Wr.of_set _ _ _)).trans (Mv.refl _ _) (Wr.of_set _ _ _)
    have hab := HST.out.blk.wr hwr HST.out.ap.2.2 (by omega)
    rw [HNN.out] at hab
    have hiw := hab.iwd n (by rw [HNN.out]; exact Nat.le_refl _) (by unfold maxLen; omega)
    rw [← HNN.out] at hiw
    refine bodyPost_ret (results_cell_row rfl _ _ (g + 1) 47 _ _ _ rfl (heap_setCell_same _ (g + 1) 2 _ 47 _ (heap_setCell_same _ (g + 1) 1 _ 47 _ (heap_setCell_same wr (g + 1) 0 _ 47 _ HST.out.res))) Tryz.underlying47 rfl (by kernel_rfl)) rfl ?_
    exact ⟨_, rfl, hiw, hwr.to_below HST.out.bel HST.out.bel.size (by have := HG.out; omega) (fun k hk => by cases hk)⟩
end Go.Proofs.YtgfmiladfeoldaaGreatDoor
