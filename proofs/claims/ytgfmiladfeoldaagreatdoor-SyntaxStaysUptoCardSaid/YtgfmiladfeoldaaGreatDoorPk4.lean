/- Joined texts of this claim's proof: DivW2, Num2, Num3. -/
import Derived.Test.YtgfmiladfeoldaaGreatDoorPk3
import Derived.Lib.ItoaNum
import Derived.Deep.DeepCutAuto
import Derived.Deep.CutBlock
import Derived.Shelf.Spec.BitsCarry
import Derived.StillTailTactics
import Derived.Deep.RegionLaw
set_option linter.unusedSimpArgs false
set_option linter.unusedVariables false
namespace Go.Proofs.YtgfmiladfeoldaaGreatDoor
open Go.RowKit NatP
theorem digit_over {W u1 v1 v0 d rest b : Nat} (h : d * v1 + rest = W) (hW : W < v1 * b + v0) (hv0 : v0 < b) (hr : b ≤ rest) (hg : (W * b + u1) / (v1 * b + v0) ≤ d) : (W * b + u1) / (v1 * b + v0) = d := by
 have hd : d < b := by
  refine Nat.lt_of_not_le fun hd => ?_
  have h1 : b * v1 ≤ d * v1 := Nat.mul_le_mul_right _ hd
  rw [Nat.mul_comm b v1] at h1
  omega
 refine dg_exit h ?_ hg (by omega)
 have h1 : d * v0 ≤ b * b := Nat.mul_le_mul (by omega) (by omega)
 have h2 : b * b ≤ rest * b := Nat.mul_le_mul_right _ hr
 omega
def DigRel (v1 W Q : Nat) (d rr : Value) : Prop := ∃ dn rn : Nat, d = .int .u64 (dn : Nat) ∧ rr = .int .u64 (rn : Nat) ∧ Hid (dn * v1 + rn = W) ∧ Hid (Q ≤ dn) ∧ rn < 4294967296 ∧ dn ≤ 8589934592
theorem big_digit {W u1 v1 v0 d Q : Nat} (hQ : Q = (W * 4294967296 + u1) / (v1 * 4294967296 + v0)) (hd : 4294967296 ≤ d) (hW : W < v1 * 4294967296 + v0) (hu : u1 < 4294967296) : Q ≤ d - 1 := by
 have := dg_lt_base hW hu
 rw [← hQ] at this; omega
structure Down (v1 W Q dn rn d2 r2 : Nat) : Prop where
 f1 : IntKind.u64.wrap ((dn : Int) - 1) = (d2 : Int)
 f2 : IntKind.u64.wrap ((rn : Int) + (v1 : Int)) = (r2 : Int)
 lt : d2 < dn
 way : (decide ((4294967296 : Int) ≤ (r2 : Int)) = true ∧ Q = d2) ∨ (decide ((4294967296 : Int) ≤ (r2 : Int)) = false ∧ DigRel v1 W Q (.int .u64 (d2 : Nat)) (.int .u64 (r2 : Nat)))
structure Test (v0 u1 dn rn m k z : Nat) : Prop where
 f3 : IntKind.u64.wrap ((dn : Int) * (v0 : Int)) = (m : Int)
 f4 : IntKind.u64.wrap (4294967296 * (rn : Int)) = (k : Int)
 f5 : IntKind.u64.wrap ((k : Int) + (u1 : Int)) = (z : Int)
theorem dig_cases {W u1 v1 v0 Q y2 dn rn : Nat} (hQ : Q = (W * 4294967296 + u1) / (v1 * 4294967296 + v0)) (hV : v1 * 4294967296 + v0 = y2) (hW : W < y2) (hv0 : v0 < 4294967296) (hu : u1 < 4294967296) (hl : 2147483648 ≤ v1) (hh : v1 < 4294967296)
  (hi : dn * v1 + rn = W) (hg : Q ≤ dn) (hr : rn < 4294967296) (hd : dn ≤ 8589934592) :
  (decide ((4294967296 : Int) ≤ (dn : Int)) = true ∧ ∃ d2 r2, Down v1 W Q dn rn d2 r2) ∨
  (decide ((4294967296 : Int) ≤ (dn : Int)) = false ∧ ∃ m k z, Test v0 u1 dn rn m k z ∧ ((decide (z < m) = true ∧ ∃ d2 r2, Down v1 W Q dn rn d2 r2) ∨ (decide (z < m) = false ∧ Q = dn))) := by
 have down : 0 < dn → Q ≤ dn - 1 → ∃ d2 r2, Down v1 W Q dn rn d2 r2 := by
  intro h0 hq
  have hI : (dn - 1) * v1 + (rn + v1) = W := by
   obtain ⟨k, rfl⟩ : ∃ k, dn = k + 1 := ⟨dn - 1, by omega⟩
   rw [Nat.add_mul, Nat.one_mul] at hi
   rw [Nat.add_sub_cancel]; omega
  refine ⟨dn - 1, rn + v1, by rw [IntKind.wrap_u64]; omega, by rw [IntKind.wrap_u64]; omega, by omega, ?_⟩
  by_cases ho : 4294967296 ≤ rn + v1
  ·refine .inl ⟨by simp only [decide_eq_true_eq]; omega, ?_⟩
   rw [hQ]
   exact digit_over hI (by rw [hV]; exact hW) hv0 ho (by rw [← hQ]; exact hq)
  ·exact .inr ⟨by simp only [decide_eq_false_iff_not]; omega, dn - 1, rn + v1, rfl, rfl, hI, hq, by omega, by omega⟩
 by_cases hb : 4294967296 ≤ dn
 ·exact .inl ⟨by simp only [decide_eq_true_eq]; omega, down (by omega) (big_digit hQ hb (by rw [hV]; exact hW) hu)⟩
 ·obtain ⟨m, hm⟩ : ∃ m, m = dn * v0 := ⟨_, rfl⟩
  obtain ⟨k, hk⟩ : ∃ k, k = 4294967296 * rn := ⟨_, rfl⟩
  obtain ⟨z, hz⟩ : ∃ z, z = k + u1 := ⟨_, rfl⟩
  have hmb : m ≤ 18446744065119617025 := by
   have h1 : dn ≤ 4294967295 := by omega
   have h2 : v0 ≤ 4294967295 := by omega
   have h3 := Nat.mul_le_mul h1 h2
   rw [hm]; omega
  have e : ((dn : Int) * (v0 : Int)) = (m : Int) := by rw [hm, Int.natCast_mul]
  have g3 : IntKind.u64.wrap ((dn : Int) * (v0 : Int)) = (m : Int) := by rw [e]; exact u64_in _ (by omega)
  have g4 : IntKind.u64.wrap (4294967296 * (rn : Int)) = (k : Int) := by rw [IntKind.wrap_u64]; omega
  have g5 : IntKind.u64.wrap ((k : Int) + (u1 : Int)) = (z : Int) := by rw [IntKind.wrap_u64]; omega
  refine .inr ⟨by simp only [decide_eq_false_iff_not]; omega, m, k, z, ⟨g3, g4, g5⟩, ?_⟩
  ·have e2 : rn * 4294967296 + u1 = z := by rw [hz, hk, Nat.mul_comm]
   rw [hm]
   by_cases ht : z < dn * v0
   ·refine .inl ⟨by simp only [decide_eq_true_eq]; exact ht, down ?_ ?_⟩
    ·refine Nat.pos_of_ne_zero fun h => ?_
     rw [h, Nat.zero_mul] at ht; omega
    ·rw [hQ]; exact dg_step hi (by rw [e2]; exact ht) (by omega)
   ·refine .inr ⟨by simp only [decide_eq_false_iff_not]; exact ht, ?_⟩
    rw [hQ]; exact dg_exit hi (by rw [e2]; omega) (by rw [← hQ]; exact hg) (by omega)
structure Left (W u1 Q y2 A1 A2 A3 X : Nat) : Prop where
 g1 : IntKind.u64.wrap ((W : Int) * 4294967296) = (A1 : Int)
 g2 : IntKind.u64.wrap ((A1 : Int) + (u1 : Int)) = (A2 : Int)
 g3 : IntKind.u64.wrap ((Q : Int) * (y2 : Int)) = (A3 : Int)
 g4 : IntKind.u64.wrap ((A2 : Int) - (A3 : Int)) = (X : Int)
 gx : X = (W * 4294967296 + u1) % y2
theorem left_words {W u1 Q y2 : Nat} (hQ : Q = (W * 4294967296 + u1) / y2) (h0 : 0 < y2) (hy : y2 < 18446744073709551616) : ∃ A1 A2 A3 X, Left W u1 Q y2 A1 A2 A3 X := by
 obtain ⟨N, hN⟩ : ∃ N, N = W * 4294967296 + u1 := ⟨_, rfl⟩
 rw [← hN] at hQ
 have hdm := Nat.div_add_mod N y2
 rw [← hQ, Nat.mul_comm] at hdm
 have hlt := Nat.mod_lt N h0
 obtain ⟨P, hP⟩ : ∃ P, P = Q * y2 := ⟨_, rfl⟩
 rw [← hP] at hdm
 have e3 : ((Q : Int) * (y2 : Int)) = (P : Int) := by rw [hP, Int.natCast_mul]
 refine ⟨W * 4294967296 % 18446744073709551616, N % 18446744073709551616, P % 18446744073709551616, N % y2, ?_, ?_, ?_, ?_, by rw [hN]⟩
 ·rw [IntKind.wrap_u64]; omega
 ·clear hP hQ hlt hdm e3
  rw [IntKind.wrap_u64]; omega
 ·rw [e3, IntKind.wrap_u64]; omega
 ·clear hP hQ e3 hN
  generalize N % y2 = X at *
  rw [IntKind.wrap_u64]; omega
theorem div_fin {hi lo y s n W t u1 u0 Q Q2 X : Nat} (hP : 0 < 2 ^ n) (hS : 0 < 2 ^ s) (hT : 18446744073709551616 = 2 ^ n * 2 ^ s) (hW : W = hi * 2 ^ s + lo / 2 ^ n) (ht : t = lo * 2 ^ s % 18446744073709551616)
  (hu1 : u1 = t / 4294967296) (hu0 : u0 = t % 4294967296) (hQ : Q = (W * 4294967296 + u1) / (y * 2 ^ s)) (hX : X = (W * 4294967296 + u1) % (y * 2 ^ s)) (hQ2 : Q2 = (X * 4294967296 + u0) / (y * 2 ^ s)) (hy : 0 < y) :
  (hi * 18446744073709551616 + lo) / y = Q * 4294967296 + Q2 ∧ (hi * 18446744073709551616 + lo) % y = (X * 4294967296 + u0) % (y * 2 ^ s) / 2 ^ s := by
 have h1 := shift_words (hi := hi) (lo := lo) hS hT
 rw [← hW, ← ht] at h1
 have h2 : W * 18446744073709551616 + t = (W * 4294967296 + u1) * 4294967296 + u0 := by omega
 rw [h2] at h1
 obtain ⟨b1, b2⟩ := shift_back (N := hi * 18446744073709551616 + lo) (y := y) hS
 have hV : 0 < y * 2 ^ s := Nat.mul_pos hy hS
 obtain ⟨d1, d2⟩ := two_digits (by omega) hV h1
 rw [← hQ, ← hX, ← hQ2] at d1
 rw [← hX] at d2
 exact ⟨by rw [b1, d1], by rw [b2, d2]⟩
theorem shift_facts (y : Nat) (h0 : 0 < y) (h : y < 18446744073709551616) :
  ∃ n, Lib.bitLen y = n ∧ 1 ≤ n ∧ n ≤ 64 ∧ 9223372036854775808 ≤ y * 2 ^ (64 - n) ∧ y * 2 ^ (64 - n) < 18446744073709551616 := by
 obtain ⟨h1, h2, h3⟩ := Lib.bitLenAux_bounds 64 y h (by omega)
 have h4 := Lib.bitLen_le y 64 (Nat.le_refl _) h
 refine ⟨Lib.bitLenAux 64 y, rfl, h1, h4, ?_, ?_⟩
 ·have e : (9223372036854775808 : Nat) = 2 ^ (Lib.bitLenAux 64 y - 1) * 2 ^ (64 - Lib.bitLenAux 64 y) := by
   rw [← Nat.pow_add, show Lib.bitLenAux 64 y - 1 + (64 - Lib.bitLenAux 64 y) = 63 from by have : Lib.bitLenAux 64 y ≤ 64 := h4; omega]
  rw [e]; exact Nat.mul_le_mul_right _ h2
 ·have e : (18446744073709551616 : Nat) = 2 ^ (Lib.bitLenAux 64 y) * 2 ^ (64 - Lib.bitLenAux 64 y) := by
   rw [← Nat.pow_add, show Lib.bitLenAux 64 y + (64 - Lib.bitLenAux 64 y) = 64 from by have : Lib.bitLenAux 64 y ≤ 64 := h4; omega]
  rw [e]; exact Nat.mul_lt_mul_of_pos_right h3 (Nat.pow_pos (by omega))
def Div64Q (hi lo y : Nat) (w : World) (e : Ending) (w' : World) : Prop :=
 e = .returned (.tuple #[.int .u64 ((hi * BB + lo) / y : Nat), .int .u64 ((hi * BB + lo) % y : Nat)]) ∧ w = w'
set_option maxRecDepth 100000 in
set_option maxHeartbeats 2000000 in
theorem div64_some (hi lo y : Nat) (w : World) (hlo : lo < BB) (hhi : hi < y) (hh0 : 0 < hi) (hy : y < BB) :
  Calls Tryz.prog 277 #[.int .u64 (hi : Nat), .int .u64 (lo : Nat), .int .u64 (y : Nat)] w (Div64Q hi lo y w) := by
 have hBB : BB = 18446744073709551616 := rfl
 rw [hBB] at hlo hy
 clear hBB
 have hyz : ((y : Int) == 0) = false := by simp; omega
 have hhz : ((hi : Int) == 0) = false := by simp; omega
 obtain ⟨n, hn, hn1, hn2, hy2l, hy2h⟩ := shift_facts y (by omega) hy
 obtain ⟨s, hs⟩ : ∃ s, s = 64 - n := ⟨_, rfl⟩
 rw [← hs] at hy2l hy2h
 have hs63 : s ≤ 63 := by omega
 have E1 : IntKind.u64.wrap (64 - (n : Int)) = (s : Int) := by rw [IntKind.wrap_u64]; omega
 have E1b : IntKind.u64.wrap (64 - (s : Int)) = (n : Int) := by rw [IntKind.wrap_u64]; omega
 have E2 : min s 64 = s := by omega
 have E2b : min n 64 = n := by omega
 obtain ⟨y2, hy2⟩ : ∃ y2, y2 = y * 2 ^ s := ⟨_, rfl⟩
 have E3 : IntKind.u64.wrap ((y : Int) * 2 ^ s) = (y2 : Int) := by
  have e : ((y : Int) * 2 ^ s) = ((y * 2 ^ s : Nat) : Int) := by rw [Int.natCast_mul, Int.natCast_pow]; rfl
  rw [e, ← hy2]; exact u64_in _ (by rw [hy2]; exact hy2h)
 rw [← hy2] at hy2l hy2h
 obtain ⟨v1, hv1⟩ : ∃ v1, v1 = y2 / 4294967296 := ⟨_, rfl⟩
 have hv1b : 2147483648 ≤ v1 ∧ v1 < 4294967296 := by omega
 have E4 : (y2 : Int) / 4294967296 = (v1 : Int) := by omega
 have hv1z : ((v1 : Int) == 0) = false := by simp; omega
 have hpn : 0 < 2 ^ n := Nat.pow_pos (by omega)
 have hps : 0 < 2 ^ s := Nat.pow_pos (by omega)
 have hT : 18446744073709551616 = 2 ^ n * 2 ^ s := by rw [← Nat.pow_add, show n + s = 64 from by omega]
 have hsl := shift_lt (P := 2 ^ n) (S := 2 ^ s) hpn hT hhi hlo
 rw [← hy2] at hsl
 obtain ⟨a1, ha1⟩ : ∃ a1, a1 = hi * 2 ^ s := ⟨_, rfl⟩
 obtain ⟨b1, hb1⟩ : ∃ b1, b1 = lo / 2 ^ n := ⟨_, rfl⟩
 obtain ⟨W, hW⟩ : ∃ W, W = a1 + b1 := ⟨_, rfl⟩
 rw [← ha1, ← hb1, ← hW] at hsl
 have E5 : IntKind.u64.wrap ((hi : Int) * 2 ^ s) = (a1 : Int) := by
  have e : ((hi : Int) * 2 ^ s) = ((hi * 2 ^ s : Nat) : Int) := by rw [Int.natCast_mul, Int.natCast_pow]; rfl
  rw [e, ← ha1]; exact u64_in _ (by omega)
 have E6 : (lo : Int) / 2 ^ n = (b1 : Int) := by
  have e : (lo : Int) / 2 ^ n = ((lo / 2 ^ n : Nat) : Int) := by rw [Int.natCast_ediv, Int.natCast_pow]; rfl
  rw [e, ← hb1]
 have E7 : bits BinOp.or IntKind.u64 (a1 : Int) (b1 : Int) = (W : Int) := by
  rw [hW]
  refine or_join a1 b1 s (by omega) (by rw [ha1]; exact Nat.mul_mod_left _ _) ?_ (by omega)
  rw [hb1, Nat.div_lt_iff_lt_mul hpn, Nat.mul_comm, ← hT]; exact hlo
 obtain ⟨t, ht⟩ : ∃ t, t = lo * 2 ^ s % 18446744073709551616 := ⟨_, rfl⟩
 have htb : t < 18446744073709551616 := by omega
 have E8 : IntKind.u64.wrap ((lo : Int) * 2 ^ s) = (t : Int) := by
  have e : ((lo : Int) * 2 ^ s) = ((lo * 2 ^ s : Nat) : Int) := by rw [Int.natCast_mul, Int.natCast_pow]; rfl
  rw [e, IntKind.wrap_u64, ht]; rfl
 obtain ⟨u1, hu1⟩ : ∃ u1, u1 = t / 4294967296 := ⟨_, rfl⟩
 obtain ⟨u0, hu0⟩ : ∃ u0, u0 = t % 4294967296 := ⟨_, rfl⟩
 obtain ⟨v0, hv0⟩ : ∃ v0, v0 = y2 % 4294967296 := ⟨_, rfl⟩
 have E9 : (t : Int) / 4294967296 = (u1 : Int) := by omega
 have E10 : bits BinOp.and IntKind.u64 (t : Int) 4294967295 = (u0 : Int) := by rw [hu0]; exact and32 t htb
 have E11 : bits BinOp.and IntKind.u64 (y2 : Int) 4294967295 = (v0 : Int) := by rw [hv0]; exact and32 y2 hy2h
 obtain ⟨q, hq⟩ : ∃ q, q = W / v1 := ⟨_, rfl⟩
 obtain ⟨p, hp⟩ : ∃ p, p = q * v1 := ⟨_, rfl⟩
 obtain ⟨r, hr⟩ : ∃ r, r = W % v1 := ⟨_, rfl⟩
 have hdm : p + r = W := by
  have := Nat.div_add_mod W v1
  rw [← hq, ← hr, Nat.mul_comm, ← hp] at this; exact this
 have hqW : q ≤ W := by rw [hq]; exact Nat.div_le_self _ _
 have E12 : (W : Int) / (v1 : Int) = (q : Int) := by rw [hq]; rfl
 have E12b : IntKind.u64.wrap (q : Int) = (q : Int) := u64_in _ (by omega)
 have E13 : IntKind.u64.wrap ((q : Int) * (v1 : Int)) = (p : Int) := by
  have e : ((q : Int) * (v1 : Int)) = ((q * v1 : Nat) : Int) := by rw [Int.natCast_mul]
  rw [e, ← hp]; exact u64_in _ (by omega)
 have E14 : IntKind.u64.wrap ((W : Int) - (p : Int)) = (r : Int) := by rw [IntKind.wrap_u64]; omega
 have Hha1 := Lib.hid ha1
 have Hhb1 := Lib.hid hb1
 have HhW := Lib.hid hW
 have Hht := Lib.hid ht
 have Hhu1 := Lib.hid hu1
 have Hhu0 := Lib.hid hu0
 have Hhv0 := Lib.hid hv0
 have Hhq := Lib.hid hq
 have Hhp := Lib.hid hp
 have Hhr := Lib.hid hr
 have HhT := Lib.hid hT
 have Hhdm := Lib.hid hdm
 have Hhs := Lib.hid hs
 have Hhy2 := Lib.hid hy2
 have Hhv1 := Lib.hid hv1
 have Hhpn := Lib.hid hpn
 have Hhps := Lib.hid hps
 have Hhn := Lib.hid hn
 clear ha1 hb1 hW ht hu1 hu0 hv0 hq hp hr hT hdm hs hy2 hv1 hpn hps
 go_enter Tryz.func277, Tryz.ntmps277
 go_wp2_with fail
 refine (Tryz.bits_LeadingZeros64 (y : Int) _ (by omega) (by omega)).mono ?_
 rintro e w1 ⟨rfl, rfl⟩
 rw [Int.toNat_natCast, hn]
 obtain ⟨Q, hQ⟩ : ∃ Q, Q = (W * 4294967296 + u1) / (v1 * 4294967296 + v0) := ⟨_, rfl⟩
 have HQ := Lib.hid hQ
 clear hQ
 have hv0b : v0 < 4294967296 := by rw [Hhv0.out]; exact Nat.mod_lt _ (by omega)
 have hu1b : u1 < 4294967296 := by rw [Hhu1.out]; omega
 have HV : Hid (v1 * 4294967296 + v0 = y2) := by show _ = _; rw [Hhv0.out, Hhv1.out]; omega
 have hqb : q ≤ 8589934592 := by
  have h1 := Hhdm.out
  rw [Hhp.out] at h1
  refine Nat.le_of_not_lt fun h2 => ?_
  have h3 : 8589934593 * 2147483648 ≤ q * v1 := Nat.mul_le_mul h2 hv1b.1
  omega
 have hrb : r < 4294967296 := by rw [Hhr.out]; exact Nat.lt_trans (Nat.mod_lt _ (by omega)) hv1b.2
 have HST : Hid (DigRel v1 W Q (.int .u64 (q : Nat)) (.int .u64 (r : Nat))) := ⟨q, r, rfl, rfl, by show _ = _; rw [← Hhp.out]; exact Hhdm.out, by
  show _ ≤ _
  rw [HQ.out, Hhq.out]; exact dg_start hu1b (by omega), hrb, hqb⟩
 obtain ⟨hv1l, hv1h⟩ := hv1b
 go_upto_block 0 with fail
 go_cut [15, 16] (fun d _ wx => d = .int .u64 (Q : Nat) ∧ wx = w1)
 case first =>
  go_wp2_with fail
  have HV1L := Lib.hid hv1l
  have HV1H := Lib.hid hv1h
  have HV0B := Lib.hid hv0b
  have HU1B := Lib.hid hu1b
  have HSL := Lib.hid hsl
  have HQB := Lib.hid hqb
  have HRB := Lib.hid hrb
  have HTB := Lib.hid htb
  have HLO := Lib.hid hlo
  have HY := Lib.hid hy
  have HY2L := Lib.hid hy2l
  have HY2H := Lib.hid hy2h
  have HHI := Lib.hid hhi
  have HQW := Lib.hid hqW
  clear hv1l hv1h hv0b hu1b hsl hqb hrb htb hlo hy hy2l hy2h hhi hqW
  go_loopw [15, 16] (fun d rr wr => DigRel v1 W Q d rr ∧ wr = w1) (fun d _ _ => (intOf d).toNat)
  case atStart => exact ⟨HST.out, rfl⟩
  case round =>
   obtain ⟨⟨dn, rn, rfl, rfl, hi1, hg1, hrn, hdn⟩, rfl⟩ := hrel
   have HRN := Lib.hid hrn
   have HDN := Lib.hid hdn
   clear hrn hdn
   have HC := Lib.hid (dig_cases HQ.out HV.out HSL.out HV0B.out HU1B.out HV1L.out HV1H.out hi1.out hg1.out HRN.out HDN.out)
   rcases HC.out with ⟨t1, d2, r2, hdown⟩ | ⟨t1, m, k, z, htest, ⟨t3, d2, r2, hdown⟩ | ⟨t3, hq⟩⟩
   ·obtain ⟨f1, f2, hlt, ⟨t2, hq⟩ | ⟨t2, hrel⟩⟩ := hdown
    ·have HQ2 := Lib.hid hq
     clear hq hlt
     go_wp2_with fail
     go_meet
     exact ⟨by rw [HQ2.out], rfl⟩
    ·have HR2 := Lib.hid hrel
     clear hrel
     go_wp2_with fail
     have hfin := HR2.out
     first | exact ⟨hfin, by simp [intOf]; omega⟩ | exact ⟨⟨hfin, rfl⟩, by simp [intOf]; omega⟩ | exact ⟨by (repeat apply Exists.intro); first | exact ⟨hfin, rfl⟩ | exact ⟨⟨hfin, rfl⟩, rfl⟩ | exact ⟨hfin, trivial⟩ | exact ⟨⟨hfin, trivial⟩, rfl⟩, by simp [intOf]; omega⟩
   ·obtain ⟨f3, f4, f5⟩ := htest
    obtain ⟨f1, f2, hlt, ⟨t2, hq⟩ | ⟨t2, hrel⟩⟩ := hdown
    ·have HQ2 := Lib.hid hq
     clear hq hlt
     go_wp2_with fail
     go_meet
     exact ⟨by rw [HQ2.out], rfl⟩
    ·have HR2 := Lib.hid hrel
     clear hrel
     go_wp2_with fail
     have hfin := HR2.out
     first | exact ⟨hfin, by simp [intOf]; omega⟩ | exact ⟨⟨hfin, rfl⟩, by simp [intOf]; omega⟩ | exact ⟨by (repeat apply Exists.intro); first | exact ⟨hfin, rfl⟩ | exact ⟨⟨hfin, rfl⟩, rfl⟩ | exact ⟨hfin, trivial⟩ | exact ⟨⟨hfin, trivial⟩, rfl⟩, by simp [intOf]; omega⟩
   ·obtain ⟨f3, f4, f5⟩ := htest
    have HQ2 := Lib.hid hq
    clear hq
    go_wp2_with fail
    go_meet
    exact ⟨by rw [HQ2.out], rfl⟩
 case rest =>
  obtain ⟨rfl, hwc⟩ := hcut
  subst wc
  clear HST
  obtain ⟨A1, A2, A3, X, hL⟩ := left_words (W := W) (u1 := u1) (Q := Q) (y2 := y2) (by rw [HQ.out, HV.out]) (by omega) hy2h
  have HX := Lib.hid hL.gx
  have hXy : X < y2 := by rw [HX.out]; exact Nat.mod_lt _ (by omega)
  obtain ⟨L1, L2, L3, L4, -⟩ := hL
  obtain ⟨q2, hq2⟩ : ∃ q2, q2 = X / v1 := ⟨_, rfl⟩
  obtain ⟨p2, hp2⟩ : ∃ p2, p2 = q2 * v1 := ⟨_, rfl⟩
  obtain ⟨r2, hr2⟩ : ∃ r2, r2 = X % v1 := ⟨_, rfl⟩
  have hdm2 : p2 + r2 = X := by
   have := Nat.div_add_mod X v1
   rw [← hq2, ← hr2, Nat.mul_comm, ← hp2] at this; exact this
  have hqX : q2 ≤ X := by rw [hq2]; exact Nat.div_le_self _ _
  have M12 : (X : Int) / (v1 : Int) = (q2 : Int) := by rw [hq2]; rfl
  have M12b : IntKind.u64.wrap (q2 : Int) = (q2 : Int) := u64_in _ (by omega)
  have M13 : IntKind.u64.wrap ((q2 : Int) * (v1 : Int)) = (p2 : Int) := by
   have e : ((q2 : Int) * (v1 : Int)) = ((q2 * v1 : Nat) : Int) := by rw [Int.natCast_mul]
   rw [e, ← hp2]; exact u64_in _ (by omega)
  have M14 : IntKind.u64.wrap ((X : Int) - (p2 : Int)) = (r2 : Int) := by rw [IntKind.wrap_u64]; omega
  have Hhq2 := Lib.hid hq2
  have Hhp2 := Lib.hid hp2
  have Hhr2 := Lib.hid hr2
  have Hhdm2 := Lib.hid hdm2
  clear hq2 hp2 hr2 hdm2
  obtain ⟨Q2, hQ2⟩ : ∃ Q2, Q2 = (X * 4294967296 + u0) / (v1 * 4294967296 + v0) := ⟨_, rfl⟩
  have HQ2 := Lib.hid hQ2
  have hu0b : u0 < 4294967296 := by rw [Hhu0.out]; exact Nat.mod_lt _ (by omega)
  have hq2b : q2 ≤ 8589934592 := by
   have h1 := Hhdm2.out
   rw [Hhp2.out] at h1
   refine Nat.le_of_not_lt fun h2 => ?_
   have h3 : 8589934593 * 2147483648 ≤ q2 * v1 := Nat.mul_le_mul h2 hv1l
   omega
  have hr2b : r2 < 4294967296 := by rw [Hhr2.out]; exact Nat.lt_trans (Nat.mod_lt _ (by omega)) hv1h
  have HST2 : Hid (DigRel v1 X Q2 (.int .u64 (q2 : Nat)) (.int .u64 (r2 : Nat))) := ⟨q2, r2, rfl, rfl, by show _ = _; rw [← Hhp2.out]; exact Hhdm2.out, by
   show _ ≤ _
   rw [HQ2.out, Hhq2.out]; exact dg_start hu0b (by omega), hr2b, hq2b⟩
  clear hQ2
  go_upto_block 2 with fail
  go_cut [18, 16] (fun d _ wx => d = .int .u64 (Q2 : Nat) ∧ wx = w1)
  case first =>
   go_wp2_with fail
   have HV1L := Lib.hid hv1l
   have HV1H := Lib.hid hv1h
   have HV0B := Lib.hid hv0b
   have HU1B := Lib.hid hu1b
   have HU0B := Lib.hid hu0b
   have HXY := Lib.hid hXy
   clear hv1l hv1h hv0b hu1b hsl hqb hrb htb hlo hy hy2l hy2h hhi hqW hXy hu0b hq2b hr2b hqX
   go_loopw [18, 16] (fun d rr wr => DigRel v1 X Q2 d rr ∧ wr = w1) (fun d _ _ => (intOf d).toNat)
   case atStart => exact ⟨HST2.out, rfl⟩
   case round =>
    obtain ⟨⟨dn, rn, rfl, rfl, hi1, hg1, hrn, hdn⟩, rfl⟩ := hrel
    have HRN := Lib.hid hrn
    have HDN := Lib.hid hdn
    clear hrn hdn
    have HC := Lib.hid (dig_cases HQ2.out HV.out HXY.out HV0B.out HU0B.out HV1L.out HV1H.out hi1.out hg1.out HRN.out HDN.out)
    rcases HC.out with ⟨t1, d2, r2, hdown⟩ | ⟨t1, m, k, z, htest, ⟨t3, d2, r2, hdown⟩ | ⟨t3, hq⟩⟩
    ·obtain ⟨f1, f2, hlt, ⟨t2, hq⟩ | ⟨t2, hrel⟩⟩ := hdown
     ·have HQ3 := Lib.hid hq
      clear hq hlt
      go_wp2_with fail
      go_meet
      exact ⟨by rw [HQ3.out], rfl⟩
     ·have HR2 := Lib.hid hrel
      clear hrel
      go_wp2_with fail
      have hfin := HR2.out
      first | exact ⟨hfin, by simp [intOf]; omega⟩ | exact ⟨⟨hfin, rfl⟩, by simp [intOf]; omega⟩ | exact ⟨by (repeat apply Exists.intro); first | exact ⟨hfin, rfl⟩ | exact ⟨⟨hfin, rfl⟩, rfl⟩ | exact ⟨hfin, trivial⟩ | exact ⟨⟨hfin, trivial⟩, rfl⟩, by simp [intOf]; omega⟩
    ·obtain ⟨f3, f4, f5⟩ := htest
     obtain ⟨f1, f2, hlt, ⟨t2, hq⟩ | ⟨t2, hrel⟩⟩ := hdown
     ·have HQ3 := Lib.hid hq
      clear hq hlt
      go_wp2_with fail
      go_meet
      exact ⟨by rw [HQ3.out], rfl⟩
     ·have HR2 := Lib.hid hrel
      clear hrel
      go_wp2_with fail
      have hfin := HR2.out
      first | exact ⟨hfin, by simp [intOf]; omega⟩ | exact ⟨⟨hfin, rfl⟩, by simp [intOf]; omega⟩ | exact ⟨by (repeat apply Exists.intro); first | exact ⟨hfin, rfl⟩ | exact ⟨⟨hfin, rfl⟩, rfl⟩ | exact ⟨hfin, trivial⟩ | exact ⟨⟨hfin, trivial⟩, rfl⟩, by simp [intOf]; omega⟩
    ·obtain ⟨f3, f4, f5⟩ := htest
     have HQ3 := Lib.hid hq
     clear hq
     go_wp2_with fail
     go_meet
     exact ⟨by rw [HQ3.out], rfl⟩
  case rest =>
   obtain ⟨rfl, hwc⟩ := hcut
   subst wc
   clear HST2
   have hfin := div_fin (hi := hi) (lo := lo) (y := y) (s := s) (n := n) (W := W) (t := t) (u1 := u1) (u0 := u0) (Q := Q) (Q2 := Q2) (X := X) Hhpn.out Hhps.out HhT.out (by rw [HhW.out, Hha1.out, Hhb1.out]) Hht.out Hhu1.out Hhu0.out (by rw [HQ.out, HV.out, Hhy2.out]) (by rw [HX.out, Hhy2.out]) (by rw [HQ2.out, HV.out, Hhy2.out]) (by omega)
   have hZ : (hi * 18446744073709551616 + lo) / y < 18446744073709551616 := by
    rw [Nat.div_lt_iff_lt_mul (by omega)]
    have : (hi + 1) * 18446744073709551616 ≤ y * 18446744073709551616 := Nat.mul_le_mul_right _ hhi
    omega
   obtain ⟨Z, hZ1⟩ : ∃ Z, Z = (hi * 18446744073709551616 + lo) / y := ⟨_, rfl⟩
   rw [← hZ1] at hZ hfin
   obtain ⟨h1, h2⟩ := hfin
   obtain ⟨B1, hB1⟩ : ∃ B1, B1 = Q * 4294967296 := ⟨_, rfl⟩
   have N1 : IntKind.u64.wrap ((Q : Int) * 4294967296) = (B1 : Int) := by
    rw [IntKind.wrap_u64]; omega
   have N2 : IntKind.u64.wrap ((B1 : Int) + (Q2 : Int)) = (Z : Int) := by
    rw [IntKind.wrap_u64]; omega
   obtain ⟨C1, C2, C3, R, hL⟩ := left_words (W := X) (u1 := u0) (Q := Q2) (y2 := y2) (by rw [HQ2.out, HV.out]) (by omega) hy2h
   obtain ⟨O1, O2, O3, O4, hR⟩ := hL
   obtain ⟨rr, hrr⟩ : ∃ rr, rr = R / 2 ^ s := ⟨_, rfl⟩
   have N3 : (R : Int) / 2 ^ s = (rr : Int) := by
    have e : (R : Int) / 2 ^ s = ((R / 2 ^ s : Nat) : Int) := by rw [Int.natCast_ediv, Int.natCast_pow]; rfl
    rw [e, ← hrr]
   have HFin : Hid (Z = (hi * BB + lo) / y ∧ rr = (hi * BB + lo) % y) := by
    refine ⟨hZ1, ?_⟩
    show rr = (hi * 18446744073709551616 + lo) % y
    rw [h2, hrr, hR, Hhy2.out]
   clear hZ1 hB1 hR hrr h1 h2 hZ
   go_wp2_with fail
   go_ret2
   exact ⟨by rw [← HFin.out.1, ← HFin.out.2]; rfl, rfl⟩
theorem div64_q (hi lo y : Nat) (w : World) (hlo : lo < BB) (hhi : hi < y) (hy : y < BB) :
  Calls Tryz.prog 277 #[.int .u64 (hi : Nat), .int .u64 (lo : Nat), .int .u64 (y : Nat)] w (Div64Post hi lo y w) := by
 by_cases h0 : hi = 0
 ·subst h0; exact div64_zero lo y w hlo hhi hy
 ·exact (div64_some hi lo y w hlo hhi (by omega) hy).mono fun e w' ⟨h1, h2⟩ => by subst h2; exact ⟨h1, 0, rfl⟩
theorem div64_any (hi lo y : Nat) (w : World) (hlo : lo < BB) (hhi : hi < y) (hy : y < BB) :
  Calls Tryz.prog 277 #[.int .u64 (hi : Nat), .int .u64 (lo : Nat), .int .u64 (y : Nat)] w fun e w' => e = .returned (.tuple #[.int .u64 ((hi * BB + lo) / y : Nat), .int .u64 ((hi * BB + lo) % y : Nat)]) ∧ Below w.heap.size w w' :=
 (div64_q hi lo y w hlo hhi hy).mono fun e w' ⟨h1, k, h2⟩ => by subst h2; exact ⟨h1, ⟨rfl, rfl, rfl, Nat.le_refl _, fun _ _ => rfl⟩⟩
end Go.Proofs.YtgfmiladfeoldaaGreatDoor
namespace Go.Proofs.YtgfmiladfeoldaaGreatDoor
open Go.RowKit NatP
theorem make_words (n : Nat) (hn : n ≤ 1099511627776) : ∀ w : World, (Instr.makeSlice 59 (.int .i64 (n : Int)) (.int .i64 (n : Int))).run Tryz.prog w = .ok (.slice (some ⟨w.heap.size, 0, none⟩) n n) (w.alloc (.cells (madeCells #[.int .u64 0] n) 101)) := by
 obtain ⟨i0, hi, hz0, hz1, hz2⟩ := info_parts Tryz.infoW
 intro w
 have hb : (i0.bytes : Int) * (n : Int) ≤ 281474976710656 := by rw [hz2]; omega
 have hr := run_make (P := Tryz.prog) w 59 101 i0 (.int .u64 0) Tryz.underlying59 hi hz0 .i64 .i64 n n (by omega) (Int.le_refl _) hb (by omega)
 simp only [Int.toNat_natCast] at hr
 rw [hr, hz1, Nat.mul_one]
 rfl
theorem below_alloc (w : World) (o : Obj) : Below w.heap.size w (w.alloc o) := (Below.refl _ _).alloc (Nat.le_refl _) o
def OwnPost (xs : List Nat) (w : World) (e : Ending) (w' : World) : Prop := e = .returned (.slice (some ⟨w.heap.size, 0, none⟩) xs.length xs.length) ∧ Blk w' w.heap.size xs ∧ Below w.heap.size w w'
set_option maxRecDepth 100000 in
set_option maxHeartbeats 1000000 in
theorem own_blk (v : Value) (xs : List Nat) (w : World) (hr : Rd w v xs) (hl : xs.length ≤ 1099511627776) :
  Calls Tryz.prog 217 #[v] w (OwnPost (strip xs) w) := by
 have HR := Lib.hid hr
 obtain ⟨ao, cap, rfl, hnc, hcm, hok, hsh⟩ := hr.2
 have hsl := strip_le xs
 have HT := Lib.hid (strip_take xs).1
 have HOK := Lib.hid (ok_strip hok)
 have HSH := Lib.hid hsh
 have HMK := make_words (strip xs).length (by omega)
 clear hsh hcm hok
 go_enter Tryz.func217, Tryz.ntmps217
 go_wp2_with fail
 refine (size_any _ xs _ HR.out).mono ?_
 rintro e w' ⟨rfl, rfl⟩
 generalize hns : (strip xs).length = n at *
 have HN := Lib.hid hns
 clear hns
 have HB := Lib.hid (Blk.made w n).1
 have HBL := Lib.hid (below_alloc w (.cells (madeCells #[.int .u64 0] n) 101))
 have hcl : (ws (strip xs)).length = n := by rw [ws_length, HN.out]
 have HCL := Lib.hid hcl
 have hmin : Nat.min xs.length n = n := Nat.min_eq_right (by omega)
 have HMIN := Lib.hid hmin
 clear hcl hmin
 have HPOS : Hid (0 < (ws (strip xs)).length → ∃ ad, ao = some ad ∧ ∀ (j : Nat) (v : Value), (ws (strip xs))[j]? = some v → (w.alloc (.cells (madeCells #[.int .u64 0] n) 101)).cell? (ad.add j) = some v) := by
  intro h0
  rw [HCL.out] at h0
  obtain ⟨g, o, rfl, _⟩ := HSH.out 0 xs[0] (List.getElem?_eq_getElem (by omega))
  refine ⟨_, rfl, fun j u hu => ?_⟩
  simp only [ws, List.getElem?_map, Option.map_eq_some_iff] at hu
  obtain ⟨x, hx, rfl⟩ := hu
  rw [HT.out, List.getElem?_take] at hx
  split at hx
  ·obtain ⟨g', o', e, hc⟩ := HSH.out j x hx
   cases e
   have hlt := World.block_lt_of_cell? w _ hc
   have e2 : (⟨g, o, none⟩ : Addr).add j = ⟨g, o + j, none⟩ := by unfold Addr.add; split <;> simp_all
   rw [e2, HBL.out.cell (p := ⟨g, o + j, none⟩) hlt]; exact hc
  ·cases hx
 have HFIT : Hid (0 + (ws (strip xs)).length ≤ (ws (List.replicate n 0)).length) := by
  show _ ≤ _
  rw [HCL.out, ws_length, List.length_replicate]; omega
 go_wp2_with ((with_reducible refine wpList_copy_splice (o := ⟨some 11, _, _, _, _, _⟩) rfl (.tmp 9) (.tmp 10) 59 59 rfl 101 Tryz.underlying59 Tryz.infoW1 (some ⟨w.heap.size, 0, none⟩) ao n n xs.length cap rfl rfl w.heap.size 0 (ws (List.replicate n 0)) 101 HB.out (ws (strip xs)) (by rw [HCL.out, HMIN.out]) (fun h => ⟨rfl, HPOS.out h⟩) HFIT.out (ws_one _) w.heap.size w HBL.out (Nat.le_refl _) ?_); intro w2 hg2 hb2)
 have HF : Hid (Blk w2 w.heap.size (strip xs)) := by
  refine ⟨?_, HOK.out⟩
  have h1 := hg2.out
  rw [h1]
  congr 2
  simp only [splice, List.take_zero, List.nil_append, Nat.zero_add]
  rw [HCL.out, List.drop_eq_nil_of_le (by rw [ws_length, List.length_replicate]; omega), List.append_nil]
 have HB2 := Lib.hid hb2
 clear hg2 hb2
 go_wp2_with fail
 go_ret
 exact ⟨by rw [HN.out]; rfl, HF.out, HB2.out⟩
theorem new_of_own {xs : List Nat} {w : World} {e : Ending} {w' : World} (hl : xs.length ≤ 1099511627776) (h : OwnPost xs w e w') : NewPost xs w e w' := by
 obtain ⟨rfl, h2, h3⟩ := h
 refine ⟨_, rfl, ⟨?_, fun k hk => ?_⟩, h3⟩
 ·have := h2.rd (o := 0) (n := xs.length) (c := xs.length) (by omega) (Nat.le_refl _) (by unfold maxLen; omega)
  rw [List.drop_zero, List.take_of_length_le (Nat.le_refl _)] at this
  exact this
 ·cases hk; exact ⟨Nat.le_refl _, h2.lt⟩
theorem own_any (v : Value) (xs : List Nat) (w : World) (hr : Rd w v xs) (hl : xs.length ≤ 1099511627776) :
  Calls Tryz.prog 217 #[v] w (NewPost (strip xs) w) :=
 (own_blk v xs w hr hl).mono fun _ _ h => new_of_own (by have := strip_le xs; omega) h
set_option maxRecDepth 100000 in
set_option maxHeartbeats 1000000 in
theorem least_blk (v : Value) (xs : List Nat) (w : World) (hr : Rd w v xs) (hl : xs.length ≤ 1099511627776) :
  Calls Tryz.prog 171 #[v] w (OwnPost (strip xs) w) := by
 have HR := Lib.hid hr
 clear hr
 go_enter Tryz.func171, Tryz.ntmps171
 go_wp2_with fail
 refine (own_blk _ xs _ HR.out hl).mono ?_
 rintro e w' ⟨rfl, hf, hb⟩
 have HF := Lib.hid hf
 have HB := Lib.hid hb
 clear hf hb
 go_wp2_with fail
 go_ret
 exact ⟨rfl, HF.out, HB.out⟩
set_option maxRecDepth 100000 in
set_option maxHeartbeats 1000000 in
theorem least_any (v : Value) (xs : List Nat) (w : World) (hr : Rd w v xs) (hl : xs.length ≤ 1099511627776) :
  Calls Tryz.prog 171 #[v] w (NewPost (strip xs) w) := by
 have HR := Lib.hid hr
 clear hr
 go_enter Tryz.func171, Tryz.ntmps171
 go_wp2_with fail
 refine (own_any _ xs _ HR.out hl).mono ?_
 rintro e w' ⟨v', rfl, hf, hb⟩
 have HF := Lib.hid hf
 have HB := Lib.hid hb
 clear hf hb
 go_wp2_with fail
 go_ret
 exact ⟨_, rfl, HF.out, HB.out⟩
end Go.Proofs.YtgfmiladfeoldaaGreatDoor
namespace Go.Proofs.YtgfmiladfeoldaaGreatDoor
open Go.RowKit NatP
theorem add64_ex (x y c : Nat) (hx : x < BB) (hy : y < BB) (hc : c ≤ 1) : ∃ s c' : Nat, s < BB ∧ c' ≤ 1 ∧ s + BB * c' = x + y + c ∧
  ∀ w : World, (callFunc 286 #[.int .u64 (x : Nat), .int .u64 (y : Nat), .int .u64 (c : Nat)]).run Tryz.prog w = .ok (.value (.tuple #[.int .u64 (s : Nat), .int .u64 (c' : Nat)])) w := by
 unfold BB at *
 refine ⟨(x + y + c) % 18446744073709551616, (x + y + c) / 18446744073709551616, by omega, by omega, by omega, fun w => ?_⟩
 rw [run_callFunc_extern Tryz.func286 (by kernel_rfl) (by kernel_rfl) (by kernel_rfl) (e := add64Entry) (by kernel_rfl), run_add64 x y c (by omega) (by omega) (by omega) (by omega)]
 simp only [Result.andThen]
 congr 5 <;> omega
theorem sub64_ex (x y c : Nat) (hx : x < BB) (hy : y < BB) (hc : c ≤ 1) : ∃ s c' : Nat, s < BB ∧ c' ≤ 1 ∧ s + y + c = x + BB * c' ∧
  ∀ w : World, (callFunc 290 #[.int .u64 (x : Nat), .int .u64 (y : Nat), .int .u64 (c : Nat)]).run Tryz.prog w = .ok (.value (.tuple #[.int .u64 (s : Nat), .int .u64 (c' : Nat)])) w := by
 unfold BB at *
 refine ⟨(x + 18446744073709551616 - y - c) % 18446744073709551616, (if x < y + c then 1 else 0), by omega, by split <;> omega, by split <;> omega, fun w => ?_⟩
 rw [run_callFunc_extern Tryz.func290 (by kernel_rfl) (by kernel_rfl) (by kernel_rfl) (e := sub64Entry) (by kernel_rfl), run_sub64 x y c hc]
 rfl
def AddSt (L ys : List Nat) (o i c : Nat) (M : List Nat) : Prop :=
 M.length = L.length ∧ M.take o = L.take o ∧ M.drop (o + i) = L.drop (o + i) ∧ val ((M.drop o).take i) + BB ^ i * c = val ((L.drop o).take i) + val (ys.take i)
theorem AddSt.start (L ys : List Nat) (o : Nat) : AddSt L ys o 0 0 L := ⟨rfl, rfl, rfl, by simp [val]⟩
theorem AddSt.at {L ys M : List Nat} {o i c z : Nat} (h : AddSt L ys o i c M) (hz : M[o + i]? = some z) : L[o + i]? = some z := by
 have h1 := congrArg (fun l => l[0]?) h.2.2.1
 simp only [List.getElem?_drop, Nat.add_zero] at h1
 rw [← h1]; exact hz
theorem AddSt.step {L ys M : List Nat} {o i c z y s c' : Nat} (h : AddSt L ys o i c M) (hz : M[o + i]? = some z) (hy : (ys[i]? = some y) ∨ (ys.length ≤ i ∧ y = 0)) (hs : s + BB * c' = z + y + c) :
  AddSt L ys o (i + 1) c' (M.set (o + i) s) := by
 have hLz := h.at hz
 obtain ⟨h1, h2, h3, h4⟩ := h
 have hlt : o + i < M.length := (List.getElem?_eq_some_iff.1 hz).1
 refine ⟨by rw [List.length_set, h1], by rw [set_take _ (by omega), h2], ?_, ?_⟩
 ·rw [show o + (i + 1) = o + i + 1 from by omega, set_drop]
  have := congrArg (List.drop 1) h3
  rw [List.drop_drop, List.drop_drop] at this
  exact this
 ·rw [set_mid _ hlt]
  have hLl : o + i < L.length := (List.getElem?_eq_some_iff.1 hLz).1
  have e1 : (L.drop o).take (i + 1) = (L.drop o).take i ++ [z] := by
   rw [List.take_add_one, List.getElem?_drop, hLz]; rfl
  have e2 : val (ys.take (i + 1)) = val (ys.take i) + BB ^ i * y := by
   rcases hy with hy | ⟨hy, rfl⟩
   ·have hyl : i < ys.length := (List.getElem?_eq_some_iff.1 hy).1
    rw [val_take_succ hyl]
    have : ys[i] = y := by rw [List.getElem?_eq_getElem hyl] at hy; exact Option.some.inj hy
    rw [this]
   ·rw [List.take_of_length_le (by omega), List.take_of_length_le (by omega)]; simp
  rw [e1, e2, val_snoc, val_snoc, List.length_take, List.length_take, List.length_drop, List.length_drop, Nat.min_eq_left (by omega), Nat.min_eq_left (by omega), Nat.pow_succ]
  exact carry_add h4 hs
def Added (L ys : List Nat) (o : Nat) (M : List Nat) : Prop := M.length = L.length ∧ M.take o = L.take o ∧ ∃ c, val (M.drop o) + BB ^ (L.length - o) * c = val (L.drop o) + val ys
theorem AddSt.done_all {L ys M : List Nat} {o i c : Nat} (h : AddSt L ys o i c M) (hi : o + i = L.length) (hy : ys.length ≤ i) : Added L ys o M := by
 obtain ⟨h1, h2, h3, h4⟩ := h
 refine ⟨h1, h2, c, ?_⟩
 rw [List.take_of_length_le (by rw [List.length_drop]; omega), List.take_of_length_le (by rw [List.length_drop]; omega), List.take_of_length_le hy] at h4
 rw [show L.length - o = i from by omega]; exact h4
theorem AddSt.done_zero {L ys M : List Nat} {o i : Nat} (h : AddSt L ys o i 0 M) (hi : o + i ≤ L.length) (hy : ys.length ≤ i) : Added L ys o M := by
 obtain ⟨h1, h2, h3, h4⟩ := h
 refine ⟨h1, h2, 0, ?_⟩
 rw [List.take_of_length_le hy] at h4
 have e1 := val_split (M.drop o) i (by rw [List.length_drop]; omega)
 have e2 := val_split (L.drop o) i (by rw [List.length_drop]; omega)
 rw [List.drop_drop] at e1 e2
 rw [e1, e2, h3]
 simp only [Nat.mul_zero, Nat.add_zero] at h4 ⊢
 omega
def AddPost (L ys : List Nat) (g o : Nat) (w : World) (e : Ending) (w' : World) : Prop := e = .returned (.tuple #[]) ∧ ∃ M, Blk w' g M ∧ Added L ys o M ∧ w.grownBy w' (some g)
theorem grown_set {w0 w : World} {g : Nat} (h : w0.grownBy w (some g)) {w' : World} (h2 : w.grownBy w' (some g)) : w0.grownBy w' (some g) :=
 ⟨h2.os.trans h.os, h2.tape.trans h.tape, h2.output.trans h.output, Nat.le_trans h.size h2.size, fun k hk hn => (h2.block k (Nat.lt_of_lt_of_le hk h.size) hn).trans (h.block k hk hn)⟩
theorem grown_refl (w : World) (row : Option Nat) : w.grownBy w row := ⟨rfl, rfl, rfl, Nat.le_refl _, fun _ _ _ => rfl⟩
theorem grown_drewN (w : World) (n : Nat) (row : Option Nat) : w.grownBy (w.drewN n) row := ⟨rfl, rfl, rfl, Nat.le_refl _, fun _ _ _ => rfl⟩
set_option maxRecDepth 100000 in
set_option maxHeartbeats 1000000 in
theorem addTo_any (g o n c : Nat) (L ys : List Nat) (v : Value) (w : World) (hL : Blk w g L) (hn : o + n = L.length) (hnc : n ≤ c) (hc : c ≤ 1099511627776) (hv : Rd w v ys) (hvb : v.ownBlock ≠ some g) (hy : ys.length ≤ n) :
  Calls Tryz.prog 275 #[.slice (some ⟨g, o, none⟩) n c, v] w (AddPost L ys g o w) := by
 have HV := Lib.hid hv
 obtain ⟨ao, cap, rfl, -, hcm, hok, hsh⟩ := hv.2
 have HB := Lib.hid hL
 have HOK := Lib.hid hok
 have hll : o + n ≤ L.length := by omega
 have HLL := Lib.hid hn
 clear hL hok hsh hcm hn
 go_enter Tryz.func275, Tryz.ntmps275
 go_wp2_with fail
 go_loopw [4, 9] (fun cv i wr => ∃ (k cc : Nat) (M : List Nat), k ≤ ys.length ∧ i = .int .i64 (k : Nat) ∧ cv = .int .u64 (cc : Nat) ∧ cc ≤ 1 ∧ Blk wr g M ∧ AddSt L ys o k cc M ∧ w.grownBy wr (some g)) (fun _ i _ => ys.length - (intOf i).toNat)
 case atStart => exact ⟨0, 0, L, Nat.zero_le _, rfl, rfl, Nat.zero_le _, HB.out, AddSt.start L ys o, grown_refl w _⟩
 case round =>
  obtain ⟨k, cc, M, hk, rfl, rfl, hcc, hM, hst, hgr⟩ := hrel
  have HM := Lib.hid hM
  have HST := Lib.hid hst
  have HGR := Lib.hid hgr
  have hml : M.length = L.length := hst.1
  clear hM hst hgr
  by_cases hlt : k < ys.length
  ·obtain ⟨y, hyy⟩ : ∃ y, ys[k]? = some y := ⟨_, List.getElem?_eq_getElem hlt⟩
   obtain ⟨z, hz⟩ : ∃ z, M[o + k]? = some z := ⟨_, List.getElem?_eq_getElem (by omega)⟩
   obtain ⟨s, c', hs1, hs2, hs3, hrun⟩ := add64_ex z y cc (HM.out.2 z (List.mem_of_getElem? hz)) (HOK.out y (List.mem_of_getElem? hyy)) hcc
   obtain ⟨ao', cap', e, -, -, -, hsh⟩ := (HV.out.kept HGR.out (fun q hq => by cases hq; exact hvb)).2
   cases e
   obtain ⟨g2, o2, rfl, e2⟩ := hsh k y hyy
   have e1 := HM.out.cell hz
   have e3 := HM.out.frozen (o + k)
   have HN := Lib.hid (HST.out.step hz (.inl hyy) hs3)
   have HS := Lib.hid (Blk.set (w := wr.drewN 1) HM.out (o + k) hs1)
   have hi0 : (0 : Int) ≤ (k : Int) := Int.natCast_nonneg _
   have hi1 : (k : Int) < (n : Int) := by omega
   have hi2 : (k : Int) < (ys.length : Int) := by omega
   clear hyy hz hsh hs3
   go_wp2_with fail
   go_region_law (fail)
   all_goals
    go_wp2_with fail
    have hfin : ∃ (k' cc' : Nat) (M' : List Nat), k' ≤ ys.length ∧ Value.int .i64 ((k : Int) + 1) = .int .i64 (k' : Nat) ∧ Value.int .u64 (c' : Nat) = .int .u64 (cc' : Nat) ∧ cc' ≤ 1 ∧ Blk ((wr.drewN 1).setCell ⟨g, o + k, none⟩ (.int .u64 (s : Nat))) g M' ∧ AddSt L ys o k' cc' M' ∧ w.grownBy ((wr.drewN 1).setCell ⟨g, o + k, none⟩ (.int .u64 (s : Nat))) (some g) :=
     ⟨k + 1, c', M.set (o + k) s, by omega, by go_num, rfl, hs2, HS.out.1, HN.out, grown_set (grown_set HGR.out (grown_drewN wr 1 _)) HS.out.2⟩
    first | exact ⟨hfin, by simp [intOf]; omega⟩ | exact ⟨by (repeat apply Exists.intro); exact ⟨hfin, rfl⟩, by simp [intOf]; omega⟩
  ·obtain rfl : k = ys.length := by omega
   have hyn := hy
   clear hlt hk hy
   go_wp2_with fail
   go_loopw [4, 6] (fun cv i wr => ∃ (k cc : Nat) (M : List Nat), ys.length ≤ k ∧ k ≤ n ∧ i = .int .i64 (k : Nat) ∧ cv = .int .u64 (cc : Nat) ∧ cc ≤ 1 ∧ Blk wr g M ∧ AddSt L ys o k cc M ∧ w.grownBy wr (some g)) (fun _ i _ => n - (intOf i).toNat)
   case atStart => exact ⟨ys.length, cc, M, Nat.le_refl _, hyn, rfl, rfl, hcc, HM.out, HST.out, HGR.out⟩
   clear HM HST HGR hml hcc
   case round =>
    obtain ⟨k, cc, M, hyk, hk, rfl, rfl, hcc, hM, hst, hgr⟩ := hrel
    have HM := Lib.hid hM
    have HST := Lib.hid hst
    have HGR := Lib.hid hgr
    have hml : M.length = L.length := hst.1
    clear hM hst hgr
    by_cases hc0 : cc = 0
    ·subst hc0
     have HD := Lib.hid (HST.out.done_zero (by omega) hyk)
     go_wp2_with fail
     go_end0
     exact ⟨rfl, M, HM.out, HD.out, HGR.out⟩
    ·have hcb : ((cc : Int) != 0) = true := by simp; omega
     by_cases hlt : k < n
     ·obtain ⟨z, hz⟩ : ∃ z, M[o + k]? = some z := ⟨_, List.getElem?_eq_getElem (by omega)⟩
      obtain ⟨s, c', hs1, hs2, hs3, hrun⟩ := add64_ex z 0 cc (HM.out.2 z (List.mem_of_getElem? hz)) BB_pos hcc
      have hrun2 : ∀ w : World, (callFunc 286 #[.int .u64 (z : Nat), .int .u64 0, .int .u64 (cc : Nat)]).run Tryz.prog w = .ok (.value (.tuple #[.int .u64 (s : Nat), .int .u64 (c' : Nat)])) w := hrun
      have e1 := HM.out.cell hz
      have e3 := HM.out.frozen (o + k)
      have HN := Lib.hid (HST.out.step (y := 0) hz (.inr ⟨hyk, rfl⟩) hs3)
      have HS := Lib.hid (HM.out.set (o + k) hs1)
      have hi0 : (0 : Int) ≤ (k : Int) := Int.natCast_nonneg _
      have hi1 : (k : Int) < (n : Int) := by omega
      clear hz hs3 hrun
      go_wp2_with fail
      have hfin : ∃ (k' cc' : Nat) (M' : List Nat), ys.length ≤ k' ∧ k' ≤ n ∧ Value.int .i64 ((k : Int) + 1) = .int .i64 (k' : Nat) ∧ Value.int .u64 (c' : Nat) = .int .u64 (cc' : Nat) ∧ cc' ≤ 1 ∧ Blk (wr.setCell ⟨g, o + k, none⟩ (.int .u64 (s : Nat))) g M' ∧ AddSt L ys o k' cc' M' ∧ w.grownBy (wr.setCell ⟨g, o + k, none⟩ (.int .u64 (s : Nat))) (some g) :=
       ⟨k + 1, c', M.set (o + k) s, by omega, by omega, by go_num, rfl, hs2, HS.out.1, HN.out, grown_set HGR.out HS.out.2⟩
      first | exact ⟨hfin, by simp [intOf]; omega⟩ | exact ⟨by (repeat apply Exists.intro); exact ⟨hfin, rfl⟩, by simp [intOf]; omega⟩
     ·have HD := Lib.hid (HST.out.done_all (by have := HLL.out; omega) hyk)
      go_wp2_with fail
      go_end0
      exact ⟨rfl, M, HM.out, HD.out, HGR.out⟩
def SubSt (L ys : List Nat) (i c : Nat) (M : List Nat) : Prop :=
 M.length = L.length ∧ M.drop i = L.drop i ∧ val (M.take i) + val (ys.take i) = val (L.take i) + BB ^ i * c
theorem SubSt.start (L ys : List Nat) : SubSt L ys 0 0 L := ⟨rfl, rfl, by simp [val]⟩
theorem carry_sub {P X Y Z x y c s c' : Nat} (h : Z + Y = X + P * c) (hs : s + y + c = x + BB * c') : (Z + P * s) + (Y + P * y) = (X + P * x) + P * BB * c' := by
 have h1 : P * s + P * y + P * c = P * x + P * (BB * c') := by rw [← Nat.mul_add, ← Nat.mul_add, hs, Nat.mul_add]
 rw [Nat.mul_assoc]
 omega
theorem SubSt.step {L ys M : List Nat} {i c z y s c' : Nat} (h : SubSt L ys i c M) (hz : M[i]? = some z) (hy : (ys[i]? = some y) ∨ (ys.length ≤ i ∧ y = 0)) (hs : s + y + c = z + BB * c') :
  SubSt L ys (i + 1) c' (M.set i s) := by
 obtain ⟨h1, h3, h4⟩ := h
 have hlt : i < M.length := (List.getElem?_eq_some_iff.1 hz).1
 have hLz : L[i]? = some z := by
  have h5 := congrArg (fun l => l[0]?) h3
  simp only [List.getElem?_drop, Nat.add_zero] at h5
  rw [← h5]; exact hz
 have hLl : i < L.length := (List.getElem?_eq_some_iff.1 hLz).1
 refine ⟨by rw [List.length_set, h1], ?_, ?_⟩
 ·rw [set_drop]
  have := congrArg (List.drop 1) h3
  rw [List.drop_drop, List.drop_drop] at this
  exact this
 ·have hmid := set_mid (l := M) (o := 0) (i := i) s (by omega)
  rw [List.drop_zero, List.drop_zero, Nat.zero_add] at hmid
  rw [hmid]
  have e1 : L.take (i + 1) = L.take i ++ [z] := by rw [List.take_add_one, hLz]; rfl
  have e2 : val (ys.take (i + 1)) = val (ys.take i) + BB ^ i * y := by
   rcases hy with hy | ⟨hy, rfl⟩
   ·have hyl : i < ys.length := (List.getElem?_eq_some_iff.1 hy).1
    rw [val_take_succ hyl]
    have : ys[i] = y := by rw [List.getElem?_eq_getElem hyl] at hy; exact Option.some.inj hy
    rw [this]
   ·rw [List.take_of_length_le (by omega), List.take_of_length_le (by omega)]; simp
  rw [e1, e2, val_snoc, val_snoc, List.length_take, List.length_take, Nat.min_eq_left (by omega), Nat.min_eq_left (by omega), Nat.pow_succ]
  exact carry_sub h4 hs
theorem SubSt.done_zero {L ys M : List Nat} {i : Nat} (h : SubSt L ys i 0 M) (hi : i ≤ L.length) (hy : ys.length ≤ i) : M.length = L.length ∧ val M + val ys = val L := by
 obtain ⟨h1, h3, h4⟩ := h
 refine ⟨h1, ?_⟩
 rw [List.take_of_length_le hy] at h4
 have e1 := val_split M i (by omega)
 have e2 := val_split L i hi
 rw [e1, e2, h3]
 simp only [Nat.mul_zero, Nat.add_zero] at h4
 omega
theorem SubSt.done_all {L ys M : List Nat} {c : Nat} (h : SubSt L ys L.length c M) (hM : ok M) (hy : ys.length ≤ L.length) (hle : val ys ≤ val L) : M.length = L.length ∧ val M + val ys = val L := by
 obtain ⟨h1, h3, h4⟩ := h
 refine ⟨h1, ?_⟩
 rw [List.take_of_length_le hy, List.take_of_length_le (by omega), List.take_length] at h4
 have h5 := val_lt hM
 rw [h1] at h5
 cases c with
 | zero => simpa using h4
 | succ c =>
  rw [Nat.mul_succ] at h4
  omega
def SubPost (L ys : List Nat) (g : Nat) (w : World) (e : Ending) (w' : World) : Prop := e = .returned (.tuple #[]) ∧ ∃ M, Blk w' g M ∧ M.length = L.length ∧ val M + val ys = val L ∧ w.grownBy w' (some g)
set_option maxRecDepth 100000 in
set_option maxHeartbeats 1000000 in
theorem subFrom_any (g n c : Nat) (L ys : List Nat) (v : Value) (w : World) (hL : Blk w g L) (hn : n = L.length) (hnc : n ≤ c) (hc : c ≤ 1099511627776) (hv : Rd w v ys) (hvb : v.ownBlock ≠ some g) (hy : ys.length ≤ n) (hle : val ys ≤ val L) :
  Calls Tryz.prog 289 #[.slice (some ⟨g, 0, none⟩) n c, v] w (SubPost L ys g w) := by
 have HV := Lib.hid hv
 obtain ⟨ao, cap, rfl, -, hcm, hok, hsh⟩ := hv.2
 have HB := Lib.hid hL
 have HOK := Lib.hid hok
 have HLE := Lib.hid hle
 have hll : n ≤ L.length := by omega
 have HLL := Lib.hid hn
 clear hL hok hsh hcm hn hle
 go_enter Tryz.func289, Tryz.ntmps289
 go_wp2_with fail
 go_loopw [4, 9] (fun cv i wr => ∃ (k cc : Nat) (M : List Nat), k ≤ n ∧ i = .int .i64 (k : Nat) ∧ cv = .int .u64 (cc : Nat) ∧ cc ≤ 1 ∧ Blk wr g M ∧ SubSt L ys k cc M ∧ w.grownBy wr (some g)) (fun _ i _ => n - (intOf i).toNat)
 case atStart => exact ⟨0, 0, L, Nat.zero_le _, rfl, rfl, Nat.zero_le _, HB.out, SubSt.start L ys, grown_refl w _⟩
 case round =>
  obtain ⟨k, cc, M, hk, rfl, rfl, hcc, hM, hst, hgr⟩ := hrel
  have HM := Lib.hid hM
  have HST := Lib.hid hst
  have HGR := Lib.hid hgr
  have hml : M.length = L.length := hst.1
  clear hM hst hgr
  by_cases hlt : k < n
  ·obtain ⟨z, hz⟩ : ∃ z, M[k]? = some z := ⟨_, List.getElem?_eq_getElem (by omega)⟩
   have e1 := HM.out.cell hz
   have e3 := HM.out.frozen k
   have hi0 : (0 : Int) ≤ (k : Int) := Int.natCast_nonneg _
   have hi1 : (k : Int) < (n : Int) := by omega
   by_cases hky : k < ys.length
   ·obtain ⟨y, hyy⟩ : ∃ y, ys[k]? = some y := ⟨_, List.getElem?_eq_getElem hky⟩
    obtain ⟨s, c', hs1, hs2, hs3, hrun⟩ := sub64_ex z y cc (HM.out.2 z (List.mem_of_getElem? hz)) (HOK.out y (List.mem_of_getElem? hyy)) hcc
    obtain ⟨ao', cap', e, -, -, -, hsh⟩ := (HV.out.kept HGR.out (fun q hq => by cases hq; exact hvb)).2
    cases e
    obtain ⟨g2, o2, rfl, e2⟩ := hsh k y hyy
    have HN := Lib.hid (HST.out.step hz (.inl hyy) hs3)
    have HS := Lib.hid (HM.out.set k hs1)
    clear hyy hz hsh hs3
    go_wp2_with fail
    have hfin : ∃ (k' cc' : Nat) (M' : List Nat), k' ≤ n ∧ Value.int .i64 ((k : Int) + 1) = .int .i64 (k' : Nat) ∧ Value.int .u64 (c' : Nat) = .int .u64 (cc' : Nat) ∧ cc' ≤ 1 ∧ Blk (wr.setCell ⟨g, k, none⟩ (.int .u64 (s : Nat))) g M' ∧ SubSt L ys k' cc' M' ∧ w.grownBy (wr.setCell ⟨g, k, none⟩ (.int .u64 (s : Nat))) (some g) :=
     ⟨k + 1, c', M.set k s, by omega, by go_num, rfl, hs2, HS.out.1, HN.out, grown_set HGR.out HS.out.2⟩
    first | exact ⟨hfin, by simp [intOf]; omega⟩ | exact ⟨by (repeat apply Exists.intro); exact ⟨hfin, rfl⟩, by simp [intOf]; omega⟩
   ·by_cases hc0 : cc = 0
    ·subst hc0
     have HD := Lib.hid (HST.out.done_zero (by omega) (by omega))
     clear hz
     go_wp2_with fail
     refine bodyPost_ret (results_none rfl _ _ _) rfl ?_
     exact ⟨rfl, M, HM.out, HD.out.1, HD.out.2, HGR.out⟩
    ·have hcb : ((cc : Int) == 0) = false := by simp; omega
     obtain ⟨s, c', hs1, hs2, hs3, hrun⟩ := sub64_ex z 0 cc (HM.out.2 z (List.mem_of_getElem? hz)) BB_pos hcc
     have hrun2 : ∀ w : World, (callFunc 290 #[.int .u64 (z : Nat), .int .u64 0, .int .u64 (cc : Nat)]).run Tryz.prog w = .ok (.value (.tuple #[.int .u64 (s : Nat), .int .u64 (c' : Nat)])) w := hrun
     have HN := Lib.hid (HST.out.step (y := 0) hz (.inr ⟨by omega, rfl⟩) hs3)
     have HS := Lib.hid (HM.out.set k hs1)
     clear hz hs3 hrun
     go_wp2_with fail
     have hfin : ∃ (k' cc' : Nat) (M' : List Nat), k' ≤ n ∧ Value.int .i64 ((k : Int) + 1) = .int .i64 (k' : Nat) ∧ Value.int .u64 (c' : Nat) = .int .u64 (cc' : Nat) ∧ cc' ≤ 1 ∧ Blk (wr.setCell ⟨g, k, none⟩ (.int .u64 (s : Nat))) g M' ∧ SubSt L ys k' cc' M' ∧ w.grownBy (wr.setCell ⟨g, k, none⟩ (.int .u64 (s : Nat))) (some g) :=
      ⟨k + 1, c', M.set k s, by omega, by go_num, rfl, hs2, HS.out.1, HN.out, grown_set HGR.out HS.out.2⟩
     first | exact ⟨hfin, by simp [intOf]; omega⟩ | exact ⟨by (repeat apply Exists.intro); exact ⟨hfin, rfl⟩, by simp [intOf]; omega⟩
  ·obtain rfl : k = n := by omega
   have HD : Hid (M.length = L.length ∧ val M + val ys = val L) := SubSt.done_all (by rw [← HLL.out]; exact HST.out) HM.out.2 (by omega) HLE.out
   go_wp2_with fail
   go_end0
   exact ⟨rfl, M, HM.out, HD.out.1, HD.out.2, HGR.out⟩
end Go.Proofs.YtgfmiladfeoldaaGreatDoor
