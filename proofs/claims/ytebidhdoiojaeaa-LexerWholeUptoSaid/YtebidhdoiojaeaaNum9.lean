/- Walks of radix.value, radix.piece, radix.power at base ten. -/
import Derived.Test.YtebidhdoiojaeaaNum8
import Derived.Test.YtebidhdoiojaeaaNatP4
namespace Go.Proofs.Ytebidhdoiojaeaa
open Go.RowKit NatP

set_option maxRecDepth 100000 in
set_option maxHeartbeats 1000000 in
theorem value_any (c : Nat) (w : World) (hc : c ≤ 0x10ffff) :
    Calls Try.prog 42 #[.int .i32 (c : Nat)] w fun e w' => e = .returned (.int .i64 (digVal c : Nat)) ∧ w = w' := by
  have G : (48 ≤ c ∧ c ≤ 57) ∨ (97 ≤ c ∧ c ≤ 122) ∨ (65 ≤ c ∧ c ≤ 90) ∨ c < 48 ∨ (57 < c ∧ c < 65) ∨ (90 < c ∧ c < 97) ∨ 122 < c := by omega
  rcases G with G | G | G | G | G | G | G
  · have e : digVal c = c - 48 := by unfold digVal; rw [if_pos G]
    rw [e]; clear e
    go_enter Try.func42, Try.ntmps42
    go_wp2_with fail
    go_ret
    exact ⟨ret_i64' (by omega), rfl⟩
  · have e : digVal c = c - 87 := by unfold digVal; rw [if_neg (by omega), if_pos G]
    rw [e]; clear e
    go_enter Try.func42, Try.ntmps42
    go_wp2_with fail
    go_ret
    exact ⟨ret_i64' (by omega), rfl⟩
  · have e : digVal c = c - 55 := by unfold digVal; rw [if_neg (by omega), if_neg (by omega), if_pos G]
    rw [e]; clear e
    go_enter Try.func42, Try.ntmps42
    go_wp2_with fail
    go_ret
    exact ⟨ret_i64' (by omega), rfl⟩
  all_goals
    have e : digVal c = 36 := by unfold digVal; rw [if_neg (by omega), if_neg (by omega), if_neg (by omega)]
    rw [e]; clear e
    go_enter Try.func42, Try.ntmps42
    go_wp2_with fail
    go_ret
    exact ⟨ret_i64' (by omega), rfl⟩

set_option maxRecDepth 100000 in
set_option maxHeartbeats 2000000 in
theorem piece_ten (w : World) :
    Calls Try.prog 77 #[.int .i64 10] w fun e w' => e = .returned (.tuple #[.int .i64 19, .int .u64 10000000000000000000]) ∧ w = w' := by
  go_enter Try.func77, Try.ntmps77
  go_wp2_with fail
  refine wp_loop_rounds 20 ?_
  repeat (rw [rounds_succ]; go_wp2_with fail)
  go_ret2
  exact ⟨rfl, rfl⟩

def PwRel (N : Nat) (w : World) (nv pv bv : Value) (wr : World) : Prop := ∃ (n q e : Nat) (ps bs : List Nat), nv = .int .i64 (n : Nat) ∧ Fr w.heap.size wr pv ps ∧ Fr w.heap.size wr bv bs ∧ val ps = 10 ^ q ∧ (1 ≤ n → val bs = 10 ^ e) ∧ q + e * n = N ∧ n ≤ N ∧ strip ps = ps ∧ strip bs = bs ∧ Below w.heap.size w wr ∧ 1 ≤ e

theorem pow_half {N q e n : Nat} (h : q + e * n = N) (he : 1 ≤ e) (hn : 1 ≤ n) : e ≤ N ∧ q ≤ N := by
  have := Nat.mul_le_mul_left e hn
  have h2 := Nat.mul_le_mul_right n he
  omega

set_option maxRecDepth 100000 in
set_option maxHeartbeats 2000000 in
theorem power_ten (N : Nat) (w : World) (hN : N ≤ 1073741824) :
    Calls Try.prog 76 #[.int .i64 10, .int .i64 (N : Nat)] w (NumPost (10 ^ N) (N + 1) w) := by
  have R1 := rd_word w 1 (by unfold BB; omega)
  have R2 := rd_word (w.alloc (.cells #[.int .u64 (1 : Nat)] 89)) 10 (by unfold BB; omega)
  have b1 := below_alloc w (.cells #[.int .u64 (1 : Nat)] 89)
  have b2 := below_alloc (w.alloc (.cells #[.int .u64 (1 : Nat)] 89)) (.cells #[.int .u64 (10 : Nat)] 89)
  have HS : Hid (PwRel N w (.int .i64 (N : Nat)) (.slice (some ⟨w.heap.size, 0, none⟩) 1 1) (.slice (some ⟨w.heap.size + 1, 0, none⟩) 1 1) ((w.alloc (.cells #[.int .u64 1] 89)).alloc (.cells #[.int .u64 10] 89))) :=
    ⟨N, 0, 1, [1], [10], rfl, ⟨R1.below b2, fun k hk => by cases hk; exact ⟨Nat.le_refl _, by simp; omega⟩⟩, ⟨by simpa using R2, fun k hk => by cases hk; exact ⟨by show w.heap.size ≤ w.heap.size + 1; omega, by simp⟩⟩, by simp [val], fun _ => by simp [val], by omega, Nat.le_refl _, by decide, by decide, b1.trans (b2.mono b1.size), Nat.le_refl _⟩
  clear R1 R2 b1 b2
  go_enter Try.func76, Try.ntmps76
  go_wp2_with fail
  go_loopw [1, 5, 6] (fun n p b wr => PwRel N w n p b wr) (fun n _ _ _ => (intOf n).toNat)
  case atStart => exact HS.out
  clear HS
  case round =>
    obtain ⟨n, q, e, ps, bs, rfl, hp, hb, hvp, hvb, hqe, hnN, hsp, hsb, hbel, he⟩ := hrel
    have HP := Lib.hid hp
    have HB := Lib.hid hb
    have HVP := Lib.hid hvp
    have HVB := Lib.hid hvb
    have HQE := Lib.hid hqe
    have HSP := Lib.hid hsp
    have HSB := Lib.hid hsb
    have HBEL := Lib.hid hbel
    have hwz := hbel.size
    clear hp hb hvp hvb hqe hsp hsb hbel
    by_cases hn0 : n = 0
    · subst hn0
      have hq : q = N := by have := HQE.out; omega
      have HQ : Hid (val ps = 10 ^ N) := by show _ = _; rw [HVP.out, hq]
      clear hq
      go_wp2_with fail
      go_ret
      exact ⟨_, ps, rfl, HP.out, HQ.out, dec_len' HSP.out (Nat.le_of_eq HQ.out), HSP.out, HBEL.out⟩
    · have hn1 : 1 ≤ n := by omega
      obtain ⟨heN, hqN⟩ := pow_half HQE.out he hn1
      have hpl := dec_len' HSP.out (Nat.le_of_eq HVP.out)
      have hbl := dec_len' HSB.out (Nat.le_of_eq (HVB.out hn1))
      have VB := Lib.hid (HVB.out hn1)
      clear HVB
      obtain ⟨m, r, hm, hr⟩ : ∃ m r, n = 2 * m + r ∧ r < 2 := ⟨n / 2, n % 2, by omega, by omega⟩
      have hrem : (n : Int) % 2 = (r : Int) := by omega
      have hquo : (n : Int) / 2 = (m : Int) := by omega
      have HM := Lib.hid hm
      have hmn : m < n := by omega
      have hmN : m ≤ N := by omega
      by_cases hr1 : r = 1
      · have hrb : ((r : Int) == 1) = true := by simp [hr1]
        have HR := Lib.hid hr1
        clear hm hr1
        go_wp2_with fail
        refine (mul_any ps bs _ _ _ (by omega) HP.out.1 HB.out.1).mono ?_
        rintro e2 w2 ⟨pv2, ps2, rfl, p1, p2, p3, p4, p5⟩
        have HP2 := Lib.hid (p1.mono hwz)
        have HVP2 : Hid (val ps2 = 10 ^ (q + e)) := by show _ = _; rw [p2, HVP.out, VB.out, Nat.pow_add]
        have HSP2 := Lib.hid p4
        have HB2 := Lib.hid (HB.out.below p5)
        have HBEL2 : Hid (Below w.heap.size w w2) := HBEL.out.trans (p5.mono hwz)
        have hwz2 := HBEL2.out.size
        clear p1 p2 p3 p4 p5
        by_cases hn2 : 1 < n
        · go_wp2_with fail
          refine (square_any bs _ _ (by omega) HB2.out.1).mono ?_
          rintro e3 w3 ⟨bv3, bs3, rfl, s1, s2, s3, s4, s5⟩
          have HB3 := Lib.hid (s1.mono hwz2)
          have HVB3 : Hid (val bs3 = 10 ^ (2 * e)) := by show _ = _; rw [s2, VB.out, ← Nat.pow_add, show e + e = 2 * e from by omega]
          have HSB3 := Lib.hid s4
          have HP3 := Lib.hid (HP2.out.below s5)
          have HBEL3 : Hid (Below w.heap.size w w3) := HBEL2.out.trans (s5.mono hwz2)
          have HQ3 : Hid (q + e + 2 * e * m = N) := by
            show _ = _
            have h1 := HQE.out
            rw [HM.out, HR.out, Nat.mul_add, Nat.mul_one, Nat.mul_left_comm, ← Nat.mul_assoc] at h1
            omega
          clear s1 s2 s3 s4 s5
          go_wp2_with fail
          have hfin : PwRel N w (.int .i64 (m : Nat)) pv2 bv3 w3 := ⟨m, q + e, 2 * e, ps2, bs3, rfl, HP3.out, HB3.out, HVP2.out, fun _ => HVB3.out, HQ3.out, hmN, HSP2.out, HSB3.out, HBEL3.out, by omega⟩
          first | exact ⟨hfin, by simp [intOf]; omega⟩ | exact ⟨by (repeat apply Exists.intro); exact ⟨hfin, rfl⟩, by simp [intOf]; omega⟩
        · have hm0 : m = 0 := by have := HM.out; omega
          have HQ3 : Hid (q + e + e * m = N) := by
            show _ = _
            have h1 := HQE.out
            have h2 := HM.out
            rw [HR.out, hm0] at h2
            rw [h2] at h1
            rw [hm0, Nat.mul_zero]
            rw [Nat.mul_zero, Nat.zero_add, Nat.mul_one] at h1
            exact h1
          clear hm0
          go_wp2_with fail
          have hfin : PwRel N w (.int .i64 (m : Nat)) pv2 u6 w2 := ⟨m, q + e, e, ps2, bs, rfl, HP2.out, HB2.out, HVP2.out, fun _ => VB.out, HQ3.out, hmN, HSP2.out, HSB.out, HBEL2.out, he⟩
          first | exact ⟨hfin, by simp [intOf]; omega⟩ | exact ⟨by (repeat apply Exists.intro); exact ⟨hfin, rfl⟩, by simp [intOf]; omega⟩
      · have hrb : ((r : Int) == 1) = false := by simp; omega
        have hr0 : r = 0 := by omega
        have HR := Lib.hid hr0
        have hn2 : 1 < n := by omega
        clear hm hr1 hr0
        go_wp2_with fail
        refine (square_any bs _ _ (by omega) HB.out.1).mono ?_
        rintro e3 w3 ⟨bv3, bs3, rfl, s1, s2, s3, s4, s5⟩
        have HB3 := Lib.hid (s1.mono hwz)
        have HVB3 : Hid (val bs3 = 10 ^ (2 * e)) := by show _ = _; rw [s2, VB.out, ← Nat.pow_add, show e + e = 2 * e from by omega]
        have HSB3 := Lib.hid s4
        have HP3 := Lib.hid (HP.out.below s5)
        have HBEL3 : Hid (Below w.heap.size w w3) := HBEL.out.trans (s5.mono hwz)
        have HQ3 : Hid (q + 2 * e * m = N) := by
          show _ = _
          have h1 := HQE.out
          rw [HM.out, HR.out, Nat.add_zero, Nat.mul_left_comm, ← Nat.mul_assoc] at h1
          omega
        clear s1 s2 s3 s4 s5
        go_wp2_with fail
        have hfin : PwRel N w (.int .i64 (m : Nat)) u5 bv3 w3 := ⟨m, q, 2 * e, ps, bs3, rfl, HP3.out, HB3.out, HVP.out, fun _ => HVB3.out, HQ3.out, hmN, HSP.out, HSB3.out, HBEL3.out, by omega⟩
        first | exact ⟨hfin, by simp [intOf]; omega⟩ | exact ⟨by (repeat apply Exists.intro); exact ⟨hfin, rfl⟩, by simp [intOf]; omega⟩
end Go.Proofs.Ytebidhdoiojaeaa
