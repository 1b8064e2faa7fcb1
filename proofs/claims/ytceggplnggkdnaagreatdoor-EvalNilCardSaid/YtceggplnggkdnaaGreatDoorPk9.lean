/- Joined texts of this claim's proof: Num9, Num10, Num11, DecM, DecW, DecPP. -/
import Derived.Test.YtceggplnggkdnaaGreatDoorPk6
import Derived.Test.YtceggplnggkdnaaGreatDoorPk1
import Derived.Test.YtceggplnggkdnaaGreatDoorPk8
import Derived.Deep.AppendLies
import Derived.Deep.RegionLaw
set_option linter.unusedSimpArgs false
set_option linter.unusedVariables false
namespace Go.Proofs.YtceggplnggkdnaaGreatDoor
open Go.RowKit NatP
set_option maxRecDepth 100000 in
set_option maxHeartbeats 1000000 in
theorem value_any (c : Nat) (w : World) (hc : c ≤ 0x10ffff) :
  Calls Tryz.prog 182 #[.int .i32 (c : Nat)] w fun e w' => e = .returned (.int .i64 (digVal c : Nat)) ∧ w = w' := by
 have G : (48 ≤ c ∧ c ≤ 57) ∨ (97 ≤ c ∧ c ≤ 122) ∨ (65 ≤ c ∧ c ≤ 90) ∨ c < 48 ∨ (57 < c ∧ c < 65) ∨ (90 < c ∧ c < 97) ∨ 122 < c := by omega
 rcases G with G | G | G | G | G | G | G
 ·have e : digVal c = c - 48 := by unfold digVal; rw [if_pos G]
  rw [e]; clear e
  go_enter Tryz.func182, Tryz.ntmps182
  go_wp2_with fail
  go_ret
  exact ⟨ret_i64' (by omega), rfl⟩
 ·have e : digVal c = c - 87 := by unfold digVal; rw [if_neg (by omega), if_pos G]
  rw [e]; clear e
  go_enter Tryz.func182, Tryz.ntmps182
  go_wp2_with fail
  go_ret
  exact ⟨ret_i64' (by omega), rfl⟩
 ·have e : digVal c = c - 55 := by unfold digVal; rw [if_neg (by omega), if_neg (by omega), if_pos G]
  rw [e]; clear e
  go_enter Tryz.func182, Tryz.ntmps182
  go_wp2_with fail
  go_ret
  exact ⟨ret_i64' (by omega), rfl⟩
 all_goals
  have e : digVal c = 36 := by unfold digVal; rw [if_neg (by omega), if_neg (by omega), if_neg (by omega)]
  rw [e]; clear e
  go_enter Tryz.func182, Tryz.ntmps182
  go_wp2_with fail
  go_ret
  exact ⟨ret_i64' (by omega), rfl⟩
set_option maxRecDepth 100000 in
set_option maxHeartbeats 2000000 in
theorem piece_ten (w : World) :
  Calls Tryz.prog 335 #[.int .i64 10] w fun e w' => e = .returned (.tuple #[.int .i64 19, .int .u64 10000000000000000000]) ∧ w = w' := by
 go_enter Tryz.func335, Tryz.ntmps335
 go_wp2_with fail
 refine wp_loop_rounds 20 ?_
 repeat (rw [rounds_succ]; go_wp2_with fail)
 go_ret2
 exact ⟨rfl, rfl⟩
def PwRel (N : Nat) (w : World) (nv pv bv : Value) (wr : World) : Prop := ∃ (n q e : Nat) (ps bs : List Nat), nv = .int .i64 (n : Nat) ∧ Fr w.heap.size wr pv ps ∧ Fr w.heap.size wr bv bs ∧ val ps = 10 ^ q ∧ (1 ≤ n → val bs = 10 ^ e) ∧ q + e * n = N ∧ n ≤ N ∧ strip ps = ps ∧ strip bs = bs ∧ Below w.heap.size w wr ∧ 1 ≤ e
theorem pow_half {N q e n : Nat} (h : q + e * n = N) (he : 1 ≤ e) (hn : 1 ≤ n) : e ≤ N ∧ q ≤ N := by
 have := Nat.mul_le_mul_left e hn
 have h2 := Nat.mul_le_mul_right n he
 omega
set_option maxRecDepth 100000 in
set_option maxHeartbeats 2000000 in
theorem power_ten (N : Nat) (w : World) (hN : N ≤ 1073741824) :
  Calls Tryz.prog 334 #[.int .i64 10, .int .i64 (N : Nat)] w (NumPost (10 ^ N) (N + 1) w) := by
 have R1 := rd_word w 1 (by unfold BB; omega)
 have R2 := rd_word (w.alloc (.cells #[.int .u64 (1 : Nat)] 215)) 10 (by unfold BB; omega)
 have b1 := below_alloc w (.cells #[.int .u64 (1 : Nat)] 215)
 have b2 := below_alloc (w.alloc (.cells #[.int .u64 (1 : Nat)] 215)) (.cells #[.int .u64 (10 : Nat)] 215)
 have HS : Hid (PwRel N w (.int .i64 (N : Nat)) (.slice (some ⟨w.heap.size, 0, none⟩) 1 1) (.slice (some ⟨w.heap.size + 1, 0, none⟩) 1 1) ((w.alloc (.cells #[.int .u64 1] 215)).alloc (.cells #[.int .u64 10] 215))) :=
  ⟨N, 0, 1, [1], [10], rfl, ⟨R1.below b2, fun k hk => by cases hk; exact ⟨Nat.le_refl _, by simp; omega⟩⟩, ⟨by simpa using R2, fun k hk => by cases hk; exact ⟨by show w.heap.size ≤ w.heap.size + 1; omega, by simp⟩⟩, by simp [val], fun _ => by simp [val], by omega, Nat.le_refl _, by decide, by decide, b1.trans (b2.mono b1.size), Nat.le_refl _⟩
 clear R1 R2 b1 b2
 go_enter Tryz.func334, Tryz.ntmps334
 go_wp2_with fail
 go_loopw [1, 5, 6] (fun n p b wr => PwRel N w n p b wr) (fun n _ _ _ => (intOf n).toNat)
 case atStart => exact HS.out
 clear HS
 case round =>
  obtain ⟨n, q, e, ps, bs, rfl, hp, hb, hvp, hvb, hqe, hnN, hsp, hsb, hbel, he⟩ := hrel
  have HP := Lib.hid hp
  have HB := Lib.hid hb
  have HVP := Lib.hid hvp
  have HVB := Lib.hid hvb
  have HQE := Lib.hid hqe
  have HSP := Lib.hid hsp
  have HSB := Lib.hid hsb
  have HBEL := Lib.hid hbel
  have hwz := hbel.size
  clear hp hb hvp hvb hqe hsp hsb hbel
  by_cases hn0 : n = 0
  ·subst hn0
   have hq : q = N := by have := HQE.out; omega
   have HQ : Hid (val ps = 10 ^ N) := by show _ = _; rw [HVP.out, hq]
   clear hq
   go_wp2_with fail
   go_ret
   exact ⟨_, ps, rfl, HP.out, HQ.out, dec_len' HSP.out (Nat.le_of_eq HQ.out), HSP.out, HBEL.out⟩
  ·have hn1 : 1 ≤ n := by omega
   obtain ⟨heN, hqN⟩ := pow_half HQE.out he hn1
   have hpl := dec_len' HSP.out (Nat.le_of_eq HVP.out)
   have hbl := dec_len' HSB.out (Nat.le_of_eq (HVB.out hn1))
   have VB := Lib.hid (HVB.out hn1)
   clear HVB
   obtain ⟨m, r, hm, hr⟩ : ∃ m r, n = 2 * m + r ∧ r < 2 := ⟨n / 2, n % 2, by omega, by omega⟩
   have hrem : (n : Int) % 2 = (r : Int) := by omega
   have hquo : (n : Int) / 2 = (m : Int) := by omega
   have HM := Lib.hid hm
   have hmn : m < n := by omega
   have hmN : m ≤ N := by omega
   by_cases hr1 : r = 1
   ·have hrb : ((r : Int) == 1) = true := by simp [hr1]
    have HR := Lib.hid hr1
    clear hm hr1
    go_wp2_with fail
    refine (mul_any ps bs _ _ _ (by omega) HP.out.1 HB.out.1).mono ?_
    rintro e2 w2 ⟨pv2, ps2, rfl, p1, p2, p3, p4, p5⟩
    have HP2 := Lib.hid (p1.mono hwz)
    have HVP2 : Hid (val ps2 = 10 ^ (q + e)) := by show _ = _; rw [p2, HVP.out, VB.out, Nat.pow_add]
    have HSP2 := Lib.hid p4
    have HB2 := Lib.hid (HB.out.below p5)
    have HBEL2 : Hid (Below w.heap.size w w2) := HBEL.out.trans (p5.mono hwz)
    have hwz2 := HBEL2.out.size
    clear p1 p2 p3 p4 p5
    by_cases hn2 : 1 < n
    ·go_wp2_with fail
     refine (square_any bs _ _ (by omega) HB2.out.1).mono ?_
     rintro e3 w3 ⟨bv3, bs3, rfl, s1, s2, s3, s4, s5⟩
     have HB3 := Lib.hid (s1.mono hwz2)
     have HVB3 : Hid (val bs3 = 10 ^ (2 * e)) := by show _ = _; rw [s2, VB.out, ← Nat.pow_add, show e + e = 2 * e from by omega]
     have HSB3 := Lib.hid s4
     have HP3 := Lib.hid (HP2.out.below s5)
     have HBEL3 : Hid (Below w.heap.size w w3) := HBEL2.out.trans (s5.mono hwz2)
     have HQ3 : Hid (q + e + 2 * e * m = N) := by
      show _ = _
      have h1 := HQE.out
      rw [HM.out, HR.out, Nat.mul_add, Nat.mul_one, Nat.mul_left_comm, ← Nat.mul_assoc] at h1
      omega
     clear s1 s2 s3 s4 s5
     go_wp2_with fail
     have hfin : PwRel N w (.int .i64 (m : Nat)) pv2 bv3 w3 := ⟨m, q + e, 2 * e, ps2, bs3, rfl, HP3.out, HB3.out, HVP2.out, fun _ => HVB3.out, HQ3.out, hmN, HSP2.out, HSB3.out, HBEL3.out, by omega⟩
     exact ⟨hfin, by simp [intOf]; omega⟩
    ·have hm0 : m = 0 := by have := HM.out; omega
     have HQ3 : Hid (q + e + e * m = N) := by
      show _ = _
      have h1 := HQE.out
      have h2 := HM.out
      rw [HR.out, hm0] at h2
      rw [h2] at h1
      rw [hm0, Nat.mul_zero]
      rw [Nat.mul_zero, Nat.zero_add, Nat.mul_one] at h1
      exact h1
     clear hm0
     go_wp2_with fail
     have hfin : PwRel N w (.int .i64 (m : Nat)) pv2 u6 w2 := ⟨m, q + e, e, ps2, bs, rfl, HP2.out, HB2.out, HVP2.out, fun _ => VB.out, HQ3.out, hmN, HSP2.out, HSB.out, HBEL2.out, he⟩
     exact ⟨hfin, by simp [intOf]; omega⟩
   ·have hrb : ((r : Int) == 1) = false := by simp; omega
    have hr0 : r = 0 := by omega
    have HR := Lib.hid hr0
    have hn2 : 1 < n := by omega
    clear hm hr1 hr0
    go_wp2_with fail
    refine (square_any bs _ _ (by omega) HB.out.1).mono ?_
    rintro e3 w3 ⟨bv3, bs3, rfl, s1, s2, s3, s4, s5⟩
    have HB3 := Lib.hid (s1.mono hwz)
    have HVB3 : Hid (val bs3 = 10 ^ (2 * e)) := by show _ = _; rw [s2, VB.out, ← Nat.pow_add, show e + e = 2 * e from by omega]
    have HSB3 := Lib.hid s4
    have HP3 := Lib.hid (HP.out.below s5)
    have HBEL3 : Hid (Below w.heap.size w w3) := HBEL.out.trans (s5.mono hwz)
    have HQ3 : Hid (q + 2 * e * m = N) := by
     show _ = _
     have h1 := HQE.out
     rw [HM.out, HR.out, Nat.add_zero, Nat.mul_left_comm, ← Nat.mul_assoc] at h1
     omega
    clear s1 s2 s3 s4 s5
    go_wp2_with fail
    have hfin : PwRel N w (.int .i64 (m : Nat)) u5 bv3 w3 := ⟨m, q, 2 * e, ps, bs3, rfl, HP3.out, HB3.out, HVP.out, fun _ => HVB3.out, HQ3.out, hmN, HSP.out, HSB3.out, HBEL3.out, by omega⟩
    exact ⟨hfin, by simp [intOf]; omega⟩
end Go.Proofs.YtceggplnggkdnaaGreatDoor
namespace Go.Proofs.YtceggplnggkdnaaGreatDoor
open Go.RowKit NatP
def RdD (w : World) (v : Value) (ds : List Nat) : Prop :=
 (∀ k, v.ownBlock = some k → k < w.heap.size) ∧ ∃ ao cap, v = .slice ao ds.length cap ∧ ds.length ≤ cap ∧ cap ≤ maxLen ∧ (∀ x ∈ ds, x < 10) ∧ ∀ i x, ds[i]? = some x → ∃ g o, ao = some ⟨g, o, none⟩ ∧ w.cell? ⟨g, o + i, none⟩ = some (.int .u8 (x : Nat))
theorem RdD.below {w w' : World} {v : Value} {ds : List Nat} (h : RdD w v ds) (hb : Below w.heap.size w w') : RdD w' v ds := by
 obtain ⟨h0, ao, cap, rfl, h1, h2, h3, h4⟩ := h
 refine ⟨fun k hk => Nat.lt_of_lt_of_le (h0 k hk) hb.size, ao, cap, rfl, h1, h2, h3, fun i x hx => ?_⟩
 obtain ⟨g, o, rfl, hc⟩ := h4 i x hx
 exact ⟨g, o, rfl, by rw [hb.cell (p := ⟨g, o + i, none⟩) (h0 g rfl)]; exact hc⟩
theorem RdD.drewN {w : World} {v : Value} {ds : List Nat} (h : RdD w v ds) (n : Nat) : RdD (w.drewN n) v ds := h.below (below_drewN' w n)
theorem RdD.take {w : World} {ao : Option Addr} {len cap n c : Nat} {ds : List Nat} (h : RdD w (.slice ao len cap) ds) (hn : n ≤ ds.length) (hc : n ≤ c) (hm : c ≤ cap) : RdD w (.slice ao n c) (ds.take n) := by
 obtain ⟨h0, ao', cap', e, h1, h2, h3, h4⟩ := h
 simp only [Value.slice.injEq] at e
 obtain ⟨rfl, rfl, rfl⟩ := e
 refine ⟨fun k hk => h0 k (by cases ao <;> first | exact hk | cases hk), ao, c, by rw [List.length_take, Nat.min_eq_left hn], by rw [List.length_take]; omega, by omega, fun x hx => h3 x (List.mem_of_mem_take hx), fun i x hx => ?_⟩
 rw [List.getElem?_take] at hx
 split at hx
 ·exact h4 i x hx
 ·cases hx
theorem RdD.drop {w : World} {g o len cap n : Nat} {ds : List Nat} (h : RdD w (.slice (some ⟨g, o, none⟩) len cap) ds) (hn : n ≤ ds.length) : RdD w (.slice (some ⟨g, o + n, none⟩) (ds.length - n) (cap - n)) (ds.drop n) := by
 obtain ⟨h0, ao', cap', e, h1, h2, h3, h4⟩ := h
 simp only [Value.slice.injEq] at e
 obtain ⟨rfl, rfl, rfl⟩ := e
 refine ⟨fun k hk => h0 k hk, _, _, by rw [List.length_drop], by rw [List.length_drop]; omega, by omega, fun x hx => h3 x (List.mem_of_mem_drop hx), fun i x hx => ⟨g, o + n, rfl, ?_⟩⟩
 rw [List.getElem?_drop] at hx
 obtain ⟨g', o', e, hc⟩ := h4 (n + i) x hx
 cases e
 rw [Nat.add_assoc]; exact hc
theorem RdD.dropAll {w : World} {g o len cap n : Nat} {ds : List Nat} (h : RdD w (.slice (some ⟨g, o, none⟩) len cap) ds) (hn : ds.length ≤ n) : RdD w (.slice (some ⟨g, o, none⟩) 0 0) (ds.drop n) := by
 rw [List.drop_eq_nil_of_le hn]
 exact ⟨fun k hk => h.1 k hk, _, 0, rfl, Nat.le_refl _, by unfold maxLen; omega, fun x hx => (by cases hx), fun i x hx => (by simp at hx)⟩
theorem RdD.some' {w : World} {ao : Option Addr} {n c : Nat} {ds : List Nat} (h : RdD w (.slice ao n c) ds) (h0 : 0 < ds.length) : ∃ g o, ao = some ⟨g, o, none⟩ := by
 obtain ⟨_, ao', cap', e, _, _, _, h4⟩ := h
 simp only [Value.slice.injEq] at e
 obtain ⟨rfl, -, -⟩ := e
 obtain ⟨g, o, h5, _⟩ := h4 0 ds[0] (List.getElem?_eq_getElem h0)
 exact ⟨g, o, h5⟩
theorem RdD.shape {w : World} {v : Value} {ds : List Nat} (h : RdD w v ds) : ∃ ao cap, v = .slice ao ds.length cap ∧ ds.length ≤ cap ∧ cap ≤ maxLen := by
 obtain ⟨_, ao, cap, h1, h2, h3, _⟩ := h; exact ⟨ao, cap, h1, h2, h3⟩
theorem RdD.dig {w : World} {v : Value} {ds : List Nat} (h : RdD w v ds) : ∀ x ∈ ds, x < 10 := by obtain ⟨_, _, _, _, _, _, h3, _⟩ := h; exact h3
def NumberOk (n : Nat) : Prop := ∀ (ds : List Nat) (v : Value) (w : World), ds.length < n → RdD w v ds → Calls Tryz.prog 184 #[v, .int .i64 10] w (NumPost (decV ds) ds.length w)
set_option maxRecDepth 100000 in
set_option maxHeartbeats 4000000 in
theorem number_long (n : Nat) (IH : NumberOk n) (hn : n ≤ 1073741824) (ds : List Nat) (v : Value) (w : World) (hl : ds.length ≤ n) (h200 : 200 < ds.length) (hv : RdD w v ds) :
  Calls Tryz.prog 184 #[v, .int .i64 10] w (NumPost (decV ds) ds.length w) := by
 have HV := Lib.hid hv
 obtain ⟨ao, cap, rfl, hdc, hcm⟩ := hv.shape
 obtain ⟨g, o, rfl⟩ := hv.some' (by omega)
 obtain ⟨lo, hlo⟩ : ∃ lo, lo = ds.length / 2 := ⟨_, rfl⟩
 obtain ⟨cu, hcu⟩ : ∃ cu, cu = ds.length - lo := ⟨_, rfl⟩
 have h1 : 1 ≤ lo := by omega
 have h2 : lo < ds.length := by omega
 have h3 : 1 ≤ cu := by omega
 have h4 : cu < ds.length := by omega
 have h5 : lo + cu ≤ ds.length := by omega
 have h6 : ds.length ≤ lo + cu := by omega
 have hquo : (ds.length : Int) / 2 = (lo : Int) := by omega
 have hsub : (ds.length : Int) - (lo : Int) = (cu : Int) := by omega
 have HA1 := Lib.hid (HV.out.take (n := cu) (c := cap) (by omega) (by omega) (Nat.le_refl _))
 have HA2 := Lib.hid (HV.out.drop (n := cu) (by omega))
 have HI := Lib.hid IH
 have hi0 : (0 : Int) ≤ (cu : Int) := Int.natCast_nonneg _
 have hi1 : (cu : Int) ≤ (ds.length : Int) := by omega
 have hcc : ¬ (cap = cu) := by omega
 have hi2 : (cu : Int) ≤ (cap : Int) := by omega
 have hcap2 : cap ≤ 9223372036854775807 := by unfold maxLen at hcm; omega
 have HL1 : Hid ((ds.take cu).length ≤ cu) := List.length_take_le _ _
 have HL2 : Hid ((ds.drop cu).length ≤ lo) := by show _ ≤ _; rw [List.length_drop]; omega
 have HD : Hid (decV ds = decV (ds.take cu) * 10 ^ lo + decV (ds.drop cu)) := by
  show _ = _
  rw [decV_split ds cu (by omega), show ds.length - cu = lo from by omega]
 have HDL := Lib.hid (decV_lt HV.out.dig)
 clear IH hv hcm hlo hcu
 go_enter Tryz.func184, Tryz.ntmps184
 go_wp2_with fail
 go_region_held3 (fun _ => True) (trivial)
  (first
   | (go_at_call_of 184 (Value.slice (some ⟨g, o, none⟩) cu cap); refine (HI.out (ds.take cu) _ _ (by have := HL1.out; omega) (by exact HA1.out)).mono ?_; rintro e1 w1 ⟨v1, x1, rfl, a1, a2, a3, a4, a5⟩; have A1 := Lib.hid a1; have A2 := Lib.hid a2; have A3 := Lib.hid a3; have A5 := Lib.hid a5; have hz1 := a5.size; clear a1 a2 a3 a4 a5)
   | (go_at_call 334; refine (power_ten lo _ (by omega)).mono ?_; rintro e2 w2 ⟨v2, x2, rfl, a1, a2, a3, a4, a5⟩; have B1 := Lib.hid a1; have B2 := Lib.hid a2; have B3 := Lib.hid a3; have B5 := Lib.hid a5; have hz2 := a5.size; clear a1 a2 a3 a4 a5)
   | (go_at_call 184; refine (HI.out (ds.drop cu) _ _ (by have := HL2.out; omega) (by exact (RdD.below (w := w.drew) HA2.out A5.out).below B5.out)).mono ?_; rintro e3 w3 ⟨v3, x3, rfl, a1, a2, a3, a4, a5⟩; have C1 := Lib.hid a1; have C2 := Lib.hid a2; have C3 := Lib.hid a3; have C5 := Lib.hid a5; have hz3 := a5.size; clear a1 a2 a3 a4 a5)
   | (go_at_call 333; refine (mulAdd_any x1 x2 x3 _ _ _ _ (by have := A3.out; have := B3.out; have := HL1.out; omega) (by have := C3.out; have := HL2.out; omega) ((A1.out.1.below B5.out).below C5.out) (B1.out.1.below C5.out) C1.out.1).mono ?_; rintro e4 w4 ⟨v4, x4, rfl, a1, a2, a3, a4, a5⟩))
 have D1 := Lib.hid (a1.mono (Nat.le_trans hz1 (Nat.le_trans hz2 hz3)))
 have D2 : Hid (val x4 = decV ds) := by show _ = _; rw [a2, A2.out, B2.out, C2.out, HD.out]
 have D4 := Lib.hid a4
 have D5 : Hid (Below w.heap.size w w4) := ((below_drewN' w 1).trans (A5.out.trans ((B5.out.trans ((C5.out.trans (a5.mono hz3)).mono hz2)).mono hz1)))
 have D3 : Hid (x4.length ≤ ds.length) := dec_len a4 (by rw [D2.out]; exact HDL.out)
 clear a1 a2 a3 a4 a5
 go_wp2_with fail
 go_ret
 exact ⟨_, x4, rfl, D1.out, D2.out, D3.out, D4.out, D5.out⟩
end Go.Proofs.YtceggplnggkdnaaGreatDoor
namespace Go.Proofs.YtceggplnggkdnaaGreatDoor
open Go.RowKit NatP
def szS : Value → Nat | .slice _ n _ => n | _ => 0
def pw (j : Nat) : Nat := 10 ^ j
def NoRel (ds : List Nat) (w : World) (dv av : Value) (wr : World) : Prop := ∃ (pos rem : Nat) (ao : Option Addr) (c : Nat) (zs : List Nat), pos + rem = ds.length ∧ dv = .slice ao rem c ∧ RdD wr dv (ds.drop pos) ∧ Fr w.heap.size wr av zs ∧ val zs = decV (ds.take pos) ∧ strip zs = zs ∧ Below w.heap.size w wr
theorem no_step {ds : List Nat} {pos n : Nat} (h : pos + n ≤ ds.length) : decV (ds.take (pos + n)) = decV (ds.take pos) * pw n + decV ((ds.drop pos).take n) := by
 have e : ds.take (pos + n) = ds.take pos ++ (ds.drop pos).take n := List.take_add
 rw [e, decV_append, List.length_take, List.length_drop, Nat.min_eq_left (by omega)]; rfl
set_option maxRecDepth 100000 in
set_option maxHeartbeats 4000000 in
theorem number_short (ds : List Nat) (v : Value) (w : World) (h200 : ds.length ≤ 200) (hv : RdD w v ds) :
  Calls Tryz.prog 184 #[v, .int .i64 10] w (NumPost (decV ds) ds.length w) := by
 have HV := Lib.hid hv
 obtain ⟨ao, cap, rfl, hdc, hcm⟩ := hv.shape
 have hcap2 : cap ≤ 9223372036854775807 := by unfold maxLen at hcm; omega
 have HDL := Lib.hid (decV_lt HV.out.dig)
 clear hv hcm
 go_enter Tryz.func184, Tryz.ntmps184
 go_wp2_with fail
 refine (piece_ten _).mono ?_
 rintro e w' ⟨rfl, rfl⟩
 go_wp2_with fail
 go_loopw [0, 9] (fun d a wr => NoRel ds w d a wr) (fun d _ _ => szS d)
 case atStart => exact ⟨0, ds.length, ao, cap, [], by omega, rfl, HV.out, ⟨Rd.nil w, fun k hk => by cases hk⟩, rfl, rfl, Below.refl _ _⟩
 case round =>
  obtain ⟨pos, rem, ao, c, zs, hpr, rfl, hd, ha, hva, hsa, hb⟩ := hrel
  have HD := Lib.hid hd
  have HA := Lib.hid ha
  have HVA := Lib.hid hva
  have HSA := Lib.hid hsa
  have HB := Lib.hid hb
  have HPR := Lib.hid hpr
  have hwz := hb.size
  obtain ⟨_, _, hsv, hrc, hcm⟩ := hd.shape
  simp only [Value.slice.injEq] at hsv
  obtain ⟨-, -, rfl⟩ := hsv
  have hdl : (ds.drop pos).length = rem := by rw [List.length_drop]; omega
  rw [hdl] at hrc
  have hc2 : c ≤ 9223372036854775807 := by unfold maxLen at hcm; omega
  have hr200 : rem ≤ 200 := by omega
  have hal : zs.length ≤ 200 := by
   have := dec_len hsa (n := pos) (by
    rw [hva]
    have h1 := decV_lt (ds := ds.take pos) (fun x hx => HV.out.dig x (List.mem_of_mem_take hx))
    rw [List.length_take, Nat.min_eq_left (by omega)] at h1; exact h1)
   omega
  clear hd ha hva hsa hb hpr hcm
  by_cases hr0 : rem = 0
  ·have hfin : decV (ds.take pos) = decV ds := by rw [List.take_of_length_le (by have := HPR.out; omega)]
   have HF := Lib.hid hfin
   clear hfin hdl
   have h0 : ¬ 0 < rem := by omega
   clear hr0
   go_wp2_with fail
   go_ret
   exact ⟨_, zs, rfl, HA.out, by rw [HVA.out, HF.out], dec_len HSA.out (by rw [HVA.out, HF.out]; exact HDL.out), HSA.out, HB.out⟩
  ·obtain ⟨n, hn⟩ : ∃ n, n = min 19 rem := ⟨_, rfl⟩
   have hn1 : 1 ≤ n := by omega
   have hn2 : n ≤ rem := by omega
   have hn3 : n ≤ 19 := by omega
   have hmin : min (19 : Int) (rem : Int) = (n : Int) := by omega
   obtain ⟨g, o, rfl⟩ := HD.out.some' (by rw [hdl]; omega)
   have HP := Lib.hid (HD.out.take (n := n) (c := c) (by rw [hdl]; omega) (by omega) (Nat.le_refl _))
   obtain ⟨P, hP⟩ : ∃ P, P = (ds.drop pos).take n := ⟨_, rfl⟩
   rw [← hP] at HP
   have hPl : P.length = n := by rw [hP, List.length_take, hdl]; omega
   have HPL := Lib.hid hPl
   have HPE := Lib.hid hP
   have HDD := Lib.hid hdl
   have hrp : 0 < rem := by omega
   obtain ⟨_, _, _, hsv, _, _, hdig, hcell⟩ := HP.out
   simp only [Value.slice.injEq] at hsv
   obtain ⟨rfl, -, -⟩ := hsv
   have HDG := Lib.hid hdig
   have HCE := Lib.hid hcell
   have hi0 : (n : Int) ≤ (c : Int) := by omega
   clear hn hPl hP hdl hdig hcell hr0
   go_wp2_with fail
   go_loop [11, 12, 55] (fun vv pp i => ∃ j : Nat, j ≤ n ∧ i = .int .i64 (j : Nat) ∧ vv = .int .u64 (decV (P.take j) : Nat) ∧ pp = .int .u64 (pw j : Nat)) (fun _ _ i => n - (intOf i).toNat)
   case atStart => exact ⟨0, Nat.zero_le _, rfl, rfl, rfl⟩
   case round =>
    obtain ⟨j, hj, rfl, rfl, rfl⟩ := hrel
    by_cases hlt : j < n
    ·obtain ⟨x, hx⟩ : ∃ x, P[j]? = some x := ⟨_, List.getElem?_eq_getElem (by have := HPL.out; omega)⟩
     obtain ⟨g', o', hao, e1⟩ := HCE.out j x hx
     cases hao
     have hx10 := HDG.out x (List.mem_of_getElem? hx)
     have hstep := decV_take_succ hx
     have hlt1 := decV_lt (ds := P.take (j + 1)) (fun y hy => HDG.out y (List.mem_of_mem_take hy))
     have hlt2 := ten_19 (n := (P.take (j + 1)).length) (by rw [List.length_take]; omega)
     have hp1 := ten_19 (n := j + 1) (by omega)
     obtain ⟨m1, hm1⟩ : ∃ m1, m1 = decV (P.take j) * 10 := ⟨_, rfl⟩
     have hpw : pw (j + 1) = pw j * 10 := by unfold pw; rw [Nat.pow_succ]
     have hpw2 : pw (j + 1) < BB := hp1
     have hw1 : IntKind.u64.wrap ((decV (P.take j) : Int) * 10) = (m1 : Int) := by unfold BB at *; rw [IntKind.wrap_u64]; omega
     have hw2 : IntKind.u64.wrap ((m1 : Int) + (x : Int)) = (decV (P.take (j + 1)) : Int) := by unfold BB at *; rw [IntKind.wrap_u64]; omega
     have hw3 : IntKind.u64.wrap ((pw j : Int) * 10) = (pw (j + 1) : Int) := by unfold BB at *; rw [IntKind.wrap_u64]; omega
     clear hx hstep hlt1 hlt2 hp1 hm1 hpw hpw2
     go_wp2_with fail
     exact ⟨⟨j + 1, by omega, by go_num, rfl, rfl⟩, by simp [intOf]; omega⟩
    ·obtain rfl : j = n := by omega
     have hpt : P.take j = P := List.take_of_length_le (by have := HPL.out; omega)
     rw [hpt]
     have hvb : decV P < BB := by
      have h1 := decV_lt HDG.out
      have h2 := ten_19 (n := P.length) (by have := HPL.out; omega)
      omega
     have hpb : pw j < BB := ten_19 hn3
     have HVB := Lib.hid hvb
     have HPB := Lib.hid hpb
     clear hpt hvb hpb hlt hj
     go_wp2_with fail
     refine (word_any zs (pw j) _ _ (by omega) HPB.out HA.out.1).mono ?_
     rintro e w2 ⟨v2, z2, rfl, a1, a2, a3, a4, a5⟩
     have A1 := Lib.hid a1.1
     have A2 := Lib.hid a2
     have A3 := Lib.hid a3
     have A5 := Lib.hid a5
     have hz2 := a5.size
     clear a1 a2 a3 a4 a5
     go_wp2_with fail
     refine (natAdd_any z2 [decV P] _ _ _ (by have := A3.out; omega) (by simp) (A1.out.alloc _) (rd_word w2 (decV P) HVB.out)).mono ?_
     rintro e w3 ⟨v3, z3, rfl, a1, a2, a3, a4, a5⟩
     have B1 : Hid (Fr w.heap.size w3 v3 z3) := a1.mono (by simp; omega)
     have B2 : Hid (val z3 = decV (ds.take (pos + j))) := by
      show _ = _
      rw [a2, A2.out, HVA.out, no_step (by have := HPR.out; omega), ← HPE.out]
      simp [val]
     have B4 := Lib.hid a4
     have C5 : Below wr.heap.size wr w3 := A5.out.trans (((below_alloc w2 _).trans (a5.mono (by simp))).mono hz2)
     have B5 : Hid (Below w.heap.size w w3) := HB.out.trans (C5.mono hwz)
     have HD3 := Lib.hid (HD.out.below C5)
     clear a1 a2 a3 a4 a5 C5
     by_cases hcn : c = j
     ·have HDA : Hid (RdD w3 (.slice (some ⟨g, o, none⟩) 0 0) (ds.drop (pos + j))) := by
       show RdD _ _ _
       have := HD3.out.dropAll (n := j) (by rw [HDD.out]; omega)
       rw [List.drop_drop] at this; exact this
      have hjr : rem ≤ j := by omega
      go_wp2_with fail
      have hfin : NoRel ds w (.slice (some ⟨g, o, none⟩) 0 0) v3 w3 := ⟨pos + j, 0, _, 0, z3, by have := HPR.out; omega, rfl, HDA.out, B1.out, B2.out, B4.out, B5.out⟩
      exact ⟨hfin, by simp [szS]; omega⟩
     ·have HDA : Hid (RdD w3 (.slice (some ⟨g, o + j, none⟩) (rem - j) (c - j)) (ds.drop (pos + j))) := by
       show RdD _ _ _
       have := HD3.out.drop (n := j) (by rw [HDD.out]; omega)
       rw [List.drop_drop, HDD.out] at this; exact this
      go_wp2_with fail
      have hfin : NoRel ds w (.slice (some ⟨g, o + j, none⟩) (rem - j) (c - j)) v3 w3 := ⟨pos + j, rem - j, _, c - j, z3, by have := HPR.out; omega, rfl, HDA.out, B1.out, B2.out, B4.out, B5.out⟩
      exact ⟨hfin, by simp [szS]; omega⟩
theorem number_all : ∀ n, n ≤ 1073741824 → NumberOk n
 | 0, _ => fun ds v w h _ => absurd h (Nat.not_lt_zero _)
 | n + 1, hn => fun ds v w h hv => by
  by_cases h200 : ds.length ≤ 200
  ·exact number_short ds v w h200 hv
  ·exact number_long n (number_all n (by omega)) (by omega) ds v w (by omega) (by omega) hv
theorem number_any (ds : List Nat) (v : Value) (w : World) (hl : ds.length < 1073741824) (hv : RdD w v ds) :
  Calls Tryz.prog 184 #[v, .int .i64 10] w (NumPost (decV ds) ds.length w) := number_all _ (Nat.le_refl _) ds v w hl hv
end Go.Proofs.YtceggplnggkdnaaGreatDoor
namespace Go.Proofs.YtceggplnggkdnaaGreatDoor
open Go.RowKit NatP LexP
structure Wr (R : Nat) (og : Option Nat) (w w' : World) : Prop where
 os : w'.os = w.os
 tape : w'.tape = w.tape
 output : w'.output = w.output
 size : w.heap.size ≤ w'.heap.size
 block : ∀ k, k < w.heap.size → k ≠ R → some k ≠ og → w'.heap[k]? = w.heap[k]?
def Mv (w : World) (og og' : Option Nat) : Prop := ∀ k, og' = some k → og = some k ∨ w.heap.size ≤ k
theorem Wr.refl (R : Nat) (og : Option Nat) (w : World) : Wr R og w w := ⟨rfl, rfl, rfl, Nat.le_refl _, fun _ _ _ _ => rfl⟩
theorem Mv.refl (w : World) (og : Option Nat) : Mv w og og := fun _ h => .inl h
theorem Wr.trans {R : Nat} {og og' : Option Nat} {w w' w'' : World} (h : Wr R og w w') (hm : Mv w og og') (k : Wr R og' w' w'') : Wr R og w w'' :=
 ⟨k.os.trans h.os, k.tape.trans h.tape, k.output.trans h.output, Nat.le_trans h.size k.size, fun i hi hR ho => (k.block i (Nat.lt_of_lt_of_le hi h.size) hR (fun e => by
  rcases hm i e.symm with h1 | h1
  ·exact ho h1.symm
  ·omega)).trans (h.block i hi hR ho)⟩
theorem Mv.trans {R : Nat} {w w' : World} {og og' og'' : Option Nat} (h : Mv w og og') (hw : w.heap.size ≤ w'.heap.size) (k : Mv w' og' og'') : Mv w og og'' := fun i hi => by
 rcases k i hi with h1 | h1
 ·exact h i h1
 ·exact .inr (by omega)
theorem Wr.of_below {R : Nat} {og : Option Nat} {w w' : World} (h : Below w.heap.size w w') : Wr R og w w' := ⟨h.os, h.tape, h.output, h.size, fun k hk _ _ => h.block k hk⟩
theorem Wr.of_grown {R : Nat} {og : Option Nat} {w w' : World} (h : w.grownBy w' og) : Wr R og w w' := ⟨h.os, h.tape, h.output, h.size, fun k hk _ ho => h.block k hk ho⟩
theorem Wr.of_set {R : Nat} {og : Option Nat} (w : World) (o : Nat) (u : Value) : Wr R og w (w.setCell ⟨R, o, none⟩ u) :=
 ⟨rfl, rfl, rfl, by simp [World.setCell], fun k _ hR _ => heap_setCell_other w ⟨R, o, none⟩ k u hR⟩
theorem Wr.to_below {R B : Nat} {og : Option Nat} {w0 w w' : World} (h : Wr R og w w') (hb : Below B w0 w) (hB : B ≤ w.heap.size) (hR : B ≤ R) (ho : ∀ k, og = some k → B ≤ k) : Below B w0 w' :=
 ⟨h.os.trans hb.os, h.tape.trans hb.tape, h.output.trans hb.output, Nat.le_trans hb.size h.size, fun k hk => (h.block k (by omega) (by omega) (fun e => by have := ho k e.symm; omega)).trans (hb.block k hk)⟩
theorem Rd.wr {R : Nat} {og : Option Nat} {w w' : World} {v : Value} {xs : List Nat} (h : Rd w v xs) (hw : Wr R og w w') (h1 : ∀ k, v.ownBlock = some k → k ≠ R ∧ og ≠ some k) : Rd w' v xs := by
 obtain ⟨h0, ao, cap, rfl, a1, a2, a3, a4⟩ := h
 refine ⟨fun k hk => Nat.lt_of_lt_of_le (h0 k hk) hw.size, ao, cap, rfl, a1, a2, a3, fun i x hx => ?_⟩
 obtain ⟨g, o, rfl, hc⟩ := a4 i x hx
 obtain ⟨b1, b2⟩ := h1 g rfl
 exact ⟨g, o, rfl, (World.cell?_of_block (hw.block g (World.block_lt_of_cell? w _ hc) b1 (fun e => b2 e.symm))).trans hc⟩
def u8s (l : Bytes) : List Value := l.map fun b => .int .u8 ((b.toNat : Nat) : Int)
theorem u8s_len (l : Bytes) : (u8s l).length = l.length := by simp [u8s]
theorem u8s_app (a b : Bytes) : u8s (a ++ b) = u8s a ++ u8s b := by simp [u8s]
theorem u8s_one (l : Bytes) : ∀ u ∈ u8s l, u.oneCell' = true := by
 intro u hu; simp only [u8s, List.mem_map] at hu; obtain ⟨d, _, rfl⟩ := hu; rfl
theorem Tryz.infoU8d : (Tryz.prog.info? 5).map (fun i => (i.zero, i.size, i.bytes)) = some (some (.int .u8 0), 1, 1) := by kernel_rfl
def SG (w : World) : Prop := ∀ d, d < 10 → w.cell? ⟨6, d, none⟩ = some (.int .u8 ((48 + d : Nat) : Int))
theorem SG.below {w w' : World} {B : Nat} (h : SG w) (hb : Below B w w') (hB : 6 < B) : SG w' := fun d hd => by rw [hb.cell (p := ⟨6, d, none⟩) hB]; exact h d hd
theorem SG.wr {R : Nat} {og : Option Nat} {w w' : World} (h : SG w) (hw : Wr R og w w') (h1 : 6 ≠ R) (h2 : og ≠ some 6) : SG w' := fun d hd =>
 (World.cell?_of_block (hw.block _ (World.block_lt_of_cell? w _ (h d hd)) h1 (fun e => h2 e.symm))).trans (h d hd)
structure WS (w : World) (R : Nat) (pv ov : Value) (out : Bytes) : Prop where
 blk : w.heap[R]? = some (.cells #[.int .i64 10, .int .i64 19, .int .u64 10000000000000000000, pv, ov] 502 (0, 0))
 own : w.ownsRow (R + 1) 5 1 ov out.length (u8s out)
 big : 6 < R
theorem WS.ne {w : World} {R : Nat} {pv ov : Value} {out : Bytes} (h : WS w R pv ov out) : ∀ k, ov.ownBlock = some k → R < k ∧ k < w.heap.size := fun k hk => by
 have := h.own.lt k hk; omega
theorem WS.lt {w : World} {R : Nat} {pv ov : Value} {out : Bytes} (h : WS w R pv ov out) : R < w.heap.size := (Array.getElem?_eq_some_iff.1 h.blk).1
theorem WS.cell {w : World} {R : Nat} {pv ov : Value} {out : Bytes} (h : WS w R pv ov out) : w.cell? ⟨R, 0, none⟩ = some (.int .i64 10) ∧ w.cell? ⟨R, 1, none⟩ = some (.int .i64 19) ∧ w.cell? ⟨R, 2, none⟩ = some (.int .u64 10000000000000000000) ∧ w.cell? ⟨R, 3, none⟩ = some pv ∧ w.cell? ⟨R, 4, none⟩ = some ov ∧ w.frozen? ⟨R, 4, none⟩ = false := by
 refine ⟨?_, ?_, ?_, ?_, ?_, frozen_of_row w R 4 _ _ h.blk⟩ <;> rw [cell_of_row w R _ _ _ _ h.blk] <;> rfl
theorem WS.kept {w w' : World} {R : Nat} {pv ov : Value} {out : Bytes} {row : Option Nat} (h : WS w R pv ov out) (hg : w.grownBy w' row) (h1 : row ≠ some R) (h2 : ∀ k, row = some k → ov.ownBlock ≠ some k) : WS w' R pv ov out :=
 ⟨(hg.block R h.lt (fun e => h1 e.symm)).trans h.blk, h.own.kept hg (by
  cases ho : ov.ownBlock with
  | none => exact .inl rfl
  | some k => exact .inr (fun e => h2 k e.symm (by rw [ho]))), h.big⟩
theorem WS.below {w w' : World} {R : Nat} {pv ov : Value} {out : Bytes} (h : WS w R pv ov out) (hb : Below w.heap.size w w') : WS w' R pv ov out :=
 h.kept (row := none) ⟨hb.os, hb.tape, hb.output, hb.size, fun k hk _ => hb.block k hk⟩ (by simp) (fun k hk => by cases hk)
def WsPost (w : World) (R : Nat) (pv ov : Value) (out l : Bytes) (e : Ending) (w' : World) : Prop := ∃ ov', e = .returned (.tuple #[]) ∧ WS w' R pv ov' (out ++ l) ∧ Wr R ov.ownBlock w w' ∧ Mv w ov.ownBlock ov'.ownBlock
theorem WS.grow {w w2 : World} {R gg n cap : Nat} {pv ov : Value} {out l : Bytes} (h : WS w R pv ov out) (hown : w2.ownsRow (R + 1) 5 1 (.slice (some ⟨gg, 0, none⟩) n cap) n (u8s out ++ u8s l)) (hn : n = (out ++ l).length)
  (hg : w.grownBy w2 ov.ownBlock) (hat : ov.ownBlock = some gg ∨ gg = w.heap.size) :
  WS (w2.setCell ⟨R, 4, none⟩ (.slice (some ⟨gg, 0, none⟩) n cap)) R pv (.slice (some ⟨gg, 0, none⟩) n cap) (out ++ l) ∧ Wr R ov.ownBlock w (w2.setCell ⟨R, 4, none⟩ (.slice (some ⟨gg, 0, none⟩) n cap)) ∧ Mv w ov.ownBlock (Value.ownBlock (.slice (some ⟨gg, 0, none⟩) n cap)) := by
 have hne : some R ≠ ov.ownBlock := fun e => by have := h.ne R e.symm; omega
 have hb := (hg.block R h.lt hne).trans h.blk
 have hset := heap_setCell_same w2 R 4 #[.int .i64 10, .int .i64 19, .int .u64 10000000000000000000, pv, ov] 502 (.slice (some ⟨gg, 0, none⟩) n cap) hb
 refine ⟨⟨hset.trans (by simp), ?_, h.big⟩, (Wr.of_grown hg).trans (Mv.refl _ _) (Wr.of_set w2 4 _), ?_⟩
 ·subst hn
  rw [u8s_app]
  exact ownsRow_setCell_below hown (by simp) _
 ·intro k hk
  cases hk
  rcases hat with h | h
  ·exact .inl h
  ·exact .inr (Nat.le_of_eq h.symm)
end Go.Proofs.YtceggplnggkdnaaGreatDoor
namespace Go.Proofs.YtceggplnggkdnaaGreatDoor
open Go.RowKit NatP LexP
def sgn (d : Nat) : UInt8 := UInt8.ofNat (48 + d)
theorem sgn_val {d : Nat} (h : d < 10) : (sgn d).toNat = 48 + d := by unfold sgn; rw [UInt8.toNat_ofNat']; omega
def u8c (L : List Nat) : List Value := L.map fun d => Value.int .u8 ((d : Nat) : Int)
def DB (w : World) (D : Nat) (L : List Nat) : Prop := w.heap[D]? = some (.cells (u8c L).toArray 556 (0, 0)) ∧ L.length = 64
theorem DB.lt {w : World} {D : Nat} {L : List Nat} (h : DB w D L) : D < w.heap.size := (Array.getElem?_eq_some_iff.1 h.1).1
theorem DB.cell {w : World} {D i x : Nat} {L : List Nat} (h : DB w D L) (hx : L[i]? = some x) : w.cell? ⟨D, i, none⟩ = some (.int .u8 ((x : Nat) : Int)) := by
 rw [cell_of_row w D i _ _ _ h.1]; simp [u8c, hx]
theorem DB.frozen {w : World} {D : Nat} {L : List Nat} (h : DB w D L) (i : Nat) : w.frozen? ⟨D, i, none⟩ = false := frozen_of_row w D i _ _ h.1
theorem DB.set {w : World} {D : Nat} {L : List Nat} (h : DB w D L) (i x : Nat) : DB (w.setCell ⟨D, i, none⟩ (.int .u8 ((x : Nat) : Int))) D (L.set i x) ∧ w.grownBy (w.setCell ⟨D, i, none⟩ (.int .u8 ((x : Nat) : Int))) (some D) := by
 refine ⟨⟨?_, by rw [List.length_set, h.2]⟩, ⟨rfl, rfl, rfl, by simp, fun k _ hk => heap_setCell_other w ⟨D, i, none⟩ k _ (fun e => hk (by simp [e]))⟩⟩
 have := heap_setCell_same w D i (u8c L).toArray 556 (.int .u8 ((x : Nat) : Int)) h.1
 rw [this]
 simp [u8c, List.map_set]
theorem DB.made (w : World) : DB (w.alloc (.cells (u8c (List.replicate 64 0)).toArray 556)) w.heap.size (List.replicate 64 0) := ⟨heap_alloc_new w _, List.length_replicate⟩
def DgSt (v v' n : Nat) (L : List Nat) : Prop := ∃ rest : List Nat, dg v = dg v' ++ rest ∧ n + rest.length = 64 ∧ L.drop n = rest.map (48 + ·)
theorem DgSt.start (v : Nat) : DgSt v v 64 (List.replicate 64 0) := ⟨[], by simp, rfl, by simp⟩
theorem DgSt.step {v v' n : Nat} {L : List Nat} (h : DgSt v v' (n + 1) L) (hL : L.length = 64) (hv : 0 < v') : DgSt v (v' / 10) n (L.set n (48 + v' % 10)) := by
 obtain ⟨rest, h1, h2, h3⟩ := h
 refine ⟨(v' % 10) :: rest, ?_, by simp only [List.length_cons]; omega, ?_⟩
 ·rw [h1, dg_pos hv, List.append_assoc]; rfl
 ·have hlt : n < (L.set n (48 + v' % 10)).length := by rw [List.length_set]; omega
  rw [List.drop_eq_getElem_cons hlt, List.getElem_set_self, List.drop_set_of_lt (Nat.lt_succ_self n), h3]
  rfl
theorem dg_twenty {v : Nat} (h : v < BB) : (dg v).length ≤ 20 := dg_len_le (Nat.lt_trans h (by unfold BB; decide))
theorem DgSt.room {v v' n : Nat} {L : List Nat} (h : DgSt v v' n L) (hv : v < BB) : 44 ≤ n := by
 obtain ⟨rest, h1, h2, _⟩ := h
 have := dg_twenty hv
 rw [h1, List.length_append] at this
 omega
def PdSt (v n : Nat) (L : List Nat) : Prop := ∃ j, n + j + (dg v).length = 64 ∧ L.drop n = (List.replicate j 0 ++ dg v).map (48 + ·)
theorem PdSt.start {v n : Nat} {L : List Nat} (h : DgSt v 0 n L) : PdSt v n L := by
 obtain ⟨rest, h1, h2, h3⟩ := h
 rw [dg_zero, List.nil_append] at h1
 exact ⟨0, by rw [h1]; omega, by rw [h3, h1]; rfl⟩
theorem PdSt.step {v n : Nat} {L : List Nat} (h : PdSt v (n + 1) L) (hL : L.length = 64) : PdSt v n (L.set n 48) := by
 obtain ⟨j, h1, h2⟩ := h
 refine ⟨j + 1, by omega, ?_⟩
 have hlt : n < (L.set n 48).length := by rw [List.length_set]; omega
 rw [List.drop_eq_getElem_cons hlt, List.getElem_set_self, List.drop_set_of_lt (Nat.lt_succ_self n), h2]
 rfl
def WdA (v D : Nat) (w : World) (vv nv : Value) (wr : World) : Prop := ∃ (v' n : Nat) (L : List Nat), vv = .int .u64 (v' : Nat) ∧ nv = .int .i64 (n : Nat) ∧ v' ≤ v ∧ DgSt v v' n L ∧ DB wr D L ∧ Below w.heap.size w wr
def WdB (v width D : Nat) (w : World) (nv : Value) (wr : World) : Prop := ∃ (n : Nat) (L : List Nat), nv = .int .i64 (n : Nat) ∧ n ≤ 64 ∧ 44 ≤ n ∧ (64 - n ≤ width ∨ 64 - n = (dg v).length) ∧ PdSt v n L ∧ DB wr D L ∧ Below w.heap.size w wr
set_option maxRecDepth 100000 in
set_option maxHeartbeats 4000000 in
theorem wword_any (R v width : Nat) (pv ov : Value) (out : Bytes) (w : World) (h : WS w R pv ov out) (hs : SG w) (hv : v < BB) (hw : width ≤ 19) (h0 : 0 < v ∨ 0 < width) (hl : out.length ≤ 1099511627776) :
  Calls Tryz.prog 560 #[.pointer (some ⟨R, 0, none⟩), .int .u64 (v : Nat), .int .i64 (width : Nat)] w (WsPost w R pv ov out ((pad v width).map sgn)) := by
 have HS := Lib.hid h
 have HSG := Lib.hid hs
 have HV := Lib.hid hv
 have HST0 := Lib.hid (DgSt.start v)
 have hsz : 6 < w.heap.size := by have := h.big; have := h.lt; omega
 have hRlt := h.lt
 clear h hs hv
 go_enter Tryz.func560, Tryz.ntmps560
 go_wp2_with fail
 go_loopw [1, 7] (fun vv nv wr => WdA v w.heap.size w vv nv wr) (fun vv _ _ => (intOf vv).toNat)
 case atStart => exact ⟨v, 64, List.replicate 64 0, rfl, rfl, Nat.le_refl _, HST0.out, DB.made w, below_alloc w _⟩
 clear HST0
 case round =>
  obtain ⟨v', n, L, rfl, rfl, hvv, hst, hdb, hbl⟩ := hrel
  have HST := Lib.hid hst
  have HDB := Lib.hid hdb
  have HBL := Lib.hid hbl
  have hroom := hst.room HV.out
  clear hst hdb hbl
  by_cases hv0 : v' = 0
  ·subst hv0
   have HPD := Lib.hid (PdSt.start HST.out)
   have HLEN : Hid (64 - n = (dg v).length) := by
    obtain ⟨rest, a1, a2, _⟩ := HST.out
    show _ = _
    rw [dg_zero, List.nil_append] at a1
    rw [a1]; omega
   have hn64 : n ≤ 64 := by obtain ⟨rest, a1, a2, _⟩ := HST.out; omega
   go_wp2_with fail
   go_loopw [7] (fun nv wr => WdB v width w.heap.size w nv wr) (fun nv _ => (intOf nv).toNat)
   case atStart => exact ⟨n, L, rfl, hn64, hroom, .inr HLEN.out, HPD.out, HDB.out, HBL.out⟩
   clear HST HDB HBL HPD HLEN hroom hn64
   case round =>
    rename_i wr2 _
    obtain ⟨n, L, rfl, hn64, hroom, hway, hst, hdb, hbl⟩ := hrel
    have HST := Lib.hid hst
    have HDB := Lib.hid hdb
    have HBL := Lib.hid hbl
    have HWAY := Lib.hid hway
    clear hst hdb hbl hway
    by_cases hlt : 64 - n < width
    ·obtain ⟨m, rfl⟩ : ∃ m, n = m + 1 := ⟨n - 1, by omega⟩
     have F0 : ((m + 1 : Nat) : Int) = (m : Int) + 1 := by omega
     have F1 : (64 : Int) - ((m : Int) + 1) < (width : Int) := by omega
     have HN := Lib.hid (HST.out.step HDB.out.2)
     obtain ⟨z, hz⟩ : ∃ z, L[m]? = some z := ⟨_, List.getElem?_eq_getElem (by rw [HDB.out.2]; omega)⟩
     have c3 := HDB.out.cell hz
     have c4 := HDB.out.frozen m
     have HSET := Lib.hid (HDB.out.set m 48)
     have hm64 : m < 64 := by omega
     clear hz
     rw [F0]
     go_wp2_with fail
     have hfin : WdB v width w.heap.size w (.int .i64 (m : Nat)) (wr.setCell ⟨w.heap.size, m, none⟩ (.int .u8 48)) :=
      ⟨m, L.set m 48, rfl, by omega, by omega, .inl (by omega), HN.out, HSET.out.1, HBL.out.trans ((Below.refl _ _).setCell (by exact Nat.le_refl _) _)⟩
     exact ⟨hfin, by simp [intOf] <;> omega⟩
    ·have F1 : ¬ ((64 : Int) - (n : Int) < (width : Int)) := by omega
     have hpad : L.drop n = (pad v width).map (48 + ·) ∧ (pad v width).length = 64 - n := by
      obtain ⟨j, a1, a2⟩ := HST.out
      have hj : j = width - (dg v).length := by rcases HWAY.out with h | h <;> omega
      refine ⟨by rw [a2, hj]; rfl, ?_⟩
      unfold pad
      rw [List.length_append, List.length_replicate]; omega
     obtain ⟨hp1, hp2⟩ := hpad
     obtain ⟨m, hm⟩ : ∃ m, m = 64 - n := ⟨_, rfl⟩
     rw [← hm] at hp2
     have hm1 : 0 < m := by
      rw [← hp2]
      unfold pad
      rw [List.length_append, List.length_replicate]
      rcases h0 with h | h
      ·have : 0 < (dg v).length := by rw [dg_pos h]; simp
       omega
      ·omega
     have hm64 : m ≤ 64 := by omega
     have HS2 := Lib.hid (HS.out.below HBL.out)
     obtain ⟨i0, hi, hz0, hz1, hz2⟩ := info_parts Tryz.infoU8d
     obtain ⟨c0, c1, c2, c3, c4, c5⟩ := HS2.out.cell
     have HP1 := Lib.hid hp1
     have HP2 := Lib.hid hp2
     have HM := Lib.hid hm
     have hi0 : (0 : Int) ≤ (n : Int) := Int.natCast_nonneg _
     have hi1 : (n : Int) ≤ 64 := by omega
     have hi2 : ¬ (64 = n) := by omega
     have hi3 : n < 64 := by omega
     have HNEWS : Hid (∀ (j : Nat) (u : Value), (u8s ((pad v width).map sgn))[j]? = some u → wr.cell? ((⟨w.heap.size, n, none⟩ : Addr).add j) = some u) := by
      intro j u hu
      have e : (⟨w.heap.size, n, none⟩ : Addr).add j = ⟨w.heap.size, n + j, none⟩ := by unfold Addr.add; split <;> simp_all
      rw [e]
      simp only [u8s, List.map_map, List.getElem?_map, Option.map_eq_some_iff] at hu
      obtain ⟨d, hd, rfl⟩ := hu
      have hL : L[n + j]? = some (48 + d) := by
       rw [← List.getElem?_drop, HP1.out, List.getElem?_map, hd]; rfl
      rw [HDB.out.cell hL]
      have hd10 : d < 10 := by
       have := List.mem_of_getElem? hd
       unfold pad at this
       rcases List.mem_append.1 this with h | h
       ·rw [List.mem_replicate] at h; omega
       ·exact dg_lt v d h
      simp only [Function.comp]
      rw [sgn_val hd10]
     have HLT : Hid (R < wr.drew.heap.size) := HS2.out.lt
     have HNE : Hid (some R ≠ ov.ownBlock) := fun e => by have := HS2.out.ne R e.symm; omega
     clear hp1 hp2 hm
     go_wp2_with fail
     go_region_law ((refine step_append_lies _ (by rfl) _ _ _ (by rfl) (R + 1) 5 i0 _ 1 1 Tryz.underlying45 hi hz0 hz1 hz2 rfl (by omega) ov out.length (u8s out) (by rfl) (HS2.out.own.drew) ⟨w.heap.size, n, none⟩ (64 - n) (64 - n) (u8s ((pad v width).map sgn)) (by rfl) (by rw [u8s_len, List.length_map]; have := HP2.out; have := HM.out; omega) (fun j u hu => HNEWS.out j u hu) (u8s_one _) (by omega) (by unfold maxLen; omega) (by omega) (by have := HS2.out.lt; simp; omega) wr.heap.size (by simp) ?_; intro gg cap w2 hown2 hgrow hat hlt2; have d4 : w2.cell? ⟨R, 4, none⟩ = some ov := (hgrow.cell_far ⟨R, 4, none⟩ HLT.out HNE.out).trans c4; have d5 : w2.frozen? ⟨R, 4, none⟩ = false := (hgrow.frozen_far ⟨R, 4, none⟩ HLT.out HNE.out).trans c5))
     all_goals
      obtain ⟨g1, g2, g3⟩ := HS2.out.grow (l := (pad v width).map sgn) hown2 (by rw [List.length_append, List.length_map]; have := HP2.out; have := HM.out; omega) ⟨hgrow.os, hgrow.tape, hgrow.output, hgrow.size, hgrow.block⟩ hat
      clear hown2 hgrow hat hlt2 d4 d5
      go_end0
      exact ⟨_, rfl, g1, (Wr.of_below HBL.out).trans (Mv.refl _ _) g2, fun k hk => (g3 k hk).imp id (fun h => Nat.le_trans HBL.out.size h)⟩
  ·have hvp : 0 < v' := by omega
   obtain ⟨m, rfl⟩ : ∃ m, n = m + 1 := ⟨n - 1, by omega⟩
   obtain ⟨d, hd⟩ : ∃ d, d = v' % 10 := ⟨_, rfl⟩
   obtain ⟨q, hq⟩ : ∃ q, q = v' / 10 := ⟨_, rfl⟩
   have hd10 : d < 10 := by omega
   have F0 : ((m + 1 : Nat) : Int) = (m : Int) + 1 := by omega
   have F1 : (v' : Int) % 10 = (d : Int) := by omega
   have F2 : (v' : Int) / 10 = (q : Int) := by omega
   have hqv : q < v' := by omega
   have F3 : IntKind.u64.wrap (q : Int) = (q : Int) := u64_in _ (by have := HV.out; unfold BB at this; omega)
   have HN := Lib.hid (HST.out.step HDB.out.2 hvp)
   rw [← hd, ← hq] at HN
   have HSG2 := HSG.out.below HBL.out hsz
   have c1 := HSG2 d hd10
   have HS2 := HS.out.below HBL.out
   have c2 := HS2.cell.1
   obtain ⟨z, hz⟩ : ∃ z, L[m]? = some z := ⟨_, List.getElem?_eq_getElem (by rw [HDB.out.2]; have := HST.out; obtain ⟨r, _, h2, _⟩ := this; omega)⟩
   have hm64 : m < 64 := by have := (List.getElem?_eq_some_iff.1 hz).1; rw [HDB.out.2] at this; exact this
   have c3 := HDB.out.cell hz
   have c4 := HDB.out.frozen m
   have HSET := Lib.hid (HDB.out.set m (48 + d))
   have HV2 := Lib.hid hvv
   clear hd hq hz HSG2 HS2
   rw [F0]
   go_wp2_with fail
   have hfin : WdA v w.heap.size w (.int .u64 (q : Nat)) (.int .i64 (m : Nat)) (wr.setCell ⟨w.heap.size, m, none⟩ (.int .u8 (48 + (d : Int)))) :=
    ⟨q, m, L.set m (48 + d), rfl, rfl, by omega, HN.out, HSET.out.1, HBL.out.trans ((Below.refl _ _).setCell (by exact Nat.le_refl _) _)⟩
   exact ⟨hfin, by simp [intOf] <;> omega⟩
end Go.Proofs.YtceggplnggkdnaaGreatDoor
namespace NatP
def UU : Nat := 10000000000000000000
theorem UU_def : UU = 10 ^ 19 := rfl
theorem UU_pos : 0 < UU := by unfold UU; omega
theorem UU_lt : UU < BB := by unfold UU BB; omega
def prt (N i : Nat) : Nat := N / UU ^ i % UU
def prts (N k : Nat) : List Nat := (List.range k).map (prt N)
theorem prts_succ (N k : Nat) : prts N (k + 1) = prts N k ++ [prt N k] := by simp [prts, List.range_succ]
theorem prts_at {N k i : Nat} (h : i < k) : (prts N k)[i]? = some (prt N i) := by simp [prts, h]
theorem prt_lt (N i : Nat) : prt N i < UU := Nat.mod_lt _ UU_pos
theorem prt_next (N k : Nat) : N / UU ^ (k + 1) = N / UU ^ k / UU := by rw [Nat.pow_succ, Nat.div_div_eq_div_mul]
theorem prt_split (N k : Nat) : N / UU ^ k = N / UU ^ (k + 1) * 10 ^ 19 + prt N k := by
 rw [prt_next, prt, ← UU_def, Nat.mul_comm]
 exact (Nat.div_add_mod _ _).symm
theorem UU_two (L : Nat) : BB ^ L ≤ UU ^ (2 * L) := by
 rw [Nat.pow_mul]
 exact Nat.pow_le_pow_left (by unfold BB UU; decide) L
theorem prt_count {N k L : Nat} (hN : N < BB ^ L) (h : 0 < N / UU ^ k) : k < 2 * L := by
 have h1 : UU ^ k ≤ N := (Nat.div_pos_iff.1 h).2
 have h2 : UU ^ k < UU ^ (2 * L) := Nat.lt_of_le_of_lt h1 (Nat.lt_of_lt_of_le hN (UU_two L))
 exact (Nat.pow_lt_pow_iff_right (by unfold UU; omega)).1 h2
theorem pad_zero (w : Nat) : pad 0 w = List.replicate w 0 := by unfold pad; rw [dg_zero]; simp
theorem pad_mid {N k w : Nat} (h : 0 < N / UU ^ (k + 1)) : pad (N / UU ^ k) (w - 19 * k) = pad (N / UU ^ (k + 1)) (w - 19 * (k + 1)) ++ pad (prt N k) 19 := by
 have hr : prt N k < 10 ^ 19 := prt_lt N k
 rw [prt_split N k, pad_split h hr, pad_fw hr, show w - 19 * k - 19 = w - 19 * (k + 1) from by omega]
theorem pad_top {N k w : Nat} (h : N / UU ^ (k + 1) = 0) : pad (N / UU ^ k) (w - 19 * k) = pad (N / UU ^ (k + 1)) (w - 19 * (k + 1)) ++ pad (prt N k) (min (w - 19 * k) 19) := by
 have hr : prt N k < 10 ^ 19 := prt_lt N k
 have e := prt_split N k
 rw [h, Nat.zero_mul, Nat.zero_add] at e
 rw [h, pad_zero, e]
 have hl := dg_len_le hr
 unfold pad
 rw [← List.append_assoc]
 congr 1
 rw [List.replicate_append_replicate]
 congr 1
 omega
theorem pad_len (n w : Nat) : (pad n w).length = max w (dg n).length := by
 unfold pad
 rw [List.length_append, List.length_replicate]; omega
theorem dg_len_BB {n L : Nat} (h : n < BB ^ L) : (dg n).length ≤ 20 * L := by
 refine dg_len_le (Nat.lt_of_lt_of_le h ?_)
 rw [Nat.pow_mul]
 exact Nat.pow_le_pow_left (by unfold BB; decide) L
end NatP
