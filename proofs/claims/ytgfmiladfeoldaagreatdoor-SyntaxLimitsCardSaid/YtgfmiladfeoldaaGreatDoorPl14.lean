/- Joined texts of this claim's proof: DivJ, DivK. -/
import Derived.Test.YtgfmiladfeoldaaGreatDoorPl13
set_option linter.unusedSimpArgs false
set_option linter.unusedVariables false
namespace Go.Proofs.YtgfmiladfeoldaaGreatDoor
open Go.RowKit NatP
def LongPost (a b m n : Nat) (w : World) (e : Ending) (w' : World) : Prop := ∃ v u qs rs, e = .returned (.tuple #[v, u]) ∧ Fr w.heap.size w' v qs ∧ val qs = a / b ∧ qs.length ≤ m ∧ strip qs = qs ∧ Fr w.heap.size w' u rs ∧ val rs = a % b ∧ rs.length ≤ n ∧ strip rs = rs ∧ Below w.heap.size w w'
def LgRel (L V : List Nat) (n nz gv gu gz : Nat) (w : World) (i : Value) (wr : World) : Prop := ∃ (k : Nat) (M Q : List Nat), k ≤ nz ∧ i = .int .i64 ((k : Int) - 1) ∧ Q.length = nz ∧ LgSt L V n k M Q ∧ Blk wr gv V ∧ Blk wr gu M ∧ Blk wr gz Q ∧ Below w.heap.size w wr
theorem shift_top {ys : List Nat} {n top s : Nat} (hok : ok ys) (hl : ys.length = n + 1) (ht : ys[n]? = some top) (h1 : 9223372036854775808 ≤ top * 2 ^ s) (h2 : top * 2 ^ s < 18446744073709551616) (hs : s ≤ 63) :
  val ys * 2 ^ s < BB ^ (n + 1) ∧ 9223372036854775808 * BB ^ n ≤ val ys * 2 ^ s := by
 have e := val_split ys n (by omega)
 rw [drop_val ht, List.drop_eq_nil_of_le (by omega)] at e
 have e0 : val ([] : List Nat) = 0 := rfl
 rw [e0, Nat.mul_zero, Nat.add_zero] at e
 have hlow := val_lt (ok_take hok n)
 rw [List.length_take, Nat.min_eq_left (by omega)] at hlow
 have hps : 0 < 2 ^ s := Nat.pow_pos (by omega)
 constructor
 ·have hT : BB = 2 ^ (64 - s) * 2 ^ s := by rw [← Nat.pow_add, show 64 - s + s = 64 from by omega]; rfl
  have h3 : top < 2 ^ (64 - s) := by
   have h2' : top * 2 ^ s < 2 ^ (64 - s) * 2 ^ s := by rw [← hT]; exact h2
   exact Nat.lt_of_mul_lt_mul_right h2'
  have h4 : val ys < BB ^ n * 2 ^ (64 - s) := by
   have := Nat.mul_le_mul_left (BB ^ n) h3
   rw [Nat.mul_succ] at this
   omega
  have h5 := Nat.mul_lt_mul_of_pos_right h4 hps
  rw [Nat.mul_assoc, ← hT] at h5
  rw [Nat.pow_succ]; exact h5
 ·rw [e, Nat.add_mul, Nat.mul_assoc, Nat.mul_comm _ (BB ^ n)]
  have := Nat.mul_le_mul_left (BB ^ n) h1
  omega
theorem top_word {V : List Nat} {n v1 : Nat} (hok : ok V) (hl : V.length = n + 1) (ht : V[n]? = some v1) (h : 9223372036854775808 * BB ^ n ≤ val V) : 9223372036854775808 ≤ v1 := by
 have e := val_split V n (by omega)
 rw [drop_val ht, List.drop_eq_nil_of_le (by omega)] at e
 have e0 : val ([] : List Nat) = 0 := rfl
 rw [e0, Nat.mul_zero, Nat.add_zero] at e
 have hlow := val_lt (ok_take hok n)
 rw [List.length_take, Nat.min_eq_left (by omega)] at hlow
 refine Nat.le_of_not_lt fun hlt => ?_
 have := Nat.mul_le_mul_left (BB ^ n) hlt
 rw [Nat.mul_succ] at this
 rw [Nat.mul_comm] at h
 omega
set_option maxRecDepth 100000 in
set_option maxHeartbeats 4000000 in
theorem long_any (v u : Value) (xs ys : List Nat) (p : Nat) (w : World) (hv : Rd w v xs) (hu : Rd w u ys) (hyl : ys.length = p + 2) (hys : strip ys = ys) (hlx : ys.length ≤ xs.length) (hl : xs.length ≤ 274877906944) :
  Calls Tryz.prog 256 #[v, u] w (LongPost (val xs) (val ys) (xs.length - ys.length + 1) ys.length w) := by
 have HV := Lib.hid hv
 have HU := Lib.hid hu
 obtain ⟨ao, cap, rfl, hnc, hcm, hok, -⟩ := hv.2
 obtain ⟨bo, cap2, rfl, hnc2, hcm2, hok2, hsh2⟩ := hu.2
 have HOK := Lib.hid hok
 have HOK2 := Lib.hid hok2
 obtain ⟨top, htop, htop0⟩ := strip_last ys (p + 1) (by rw [hys, hyl])
 rw [hys] at htop
 have htb := hok2 top (List.mem_of_getElem? htop)
 obtain ⟨g2, o2, rfl, e1⟩ := hsh2 (p + 1) top htop
 obtain ⟨nb, hnb, hnb1, hnb2, hy2l, hy2h⟩ := shift_facts top (by omega) htb
 obtain ⟨s, hs⟩ : ∃ s, s = 64 - nb := ⟨_, rfl⟩
 rw [← hs] at hy2l hy2h
 have hs63 : s ≤ 63 := by omega
 obtain ⟨n, hn⟩ : ∃ n, n = ys.length := ⟨_, rfl⟩
 obtain ⟨m, hm⟩ : ∃ m, m = xs.length := ⟨_, rfl⟩
 obtain ⟨nz, hnq⟩ : ∃ nz, nz = m - n + 1 := ⟨_, rfl⟩
 obtain ⟨mu, hmu⟩ : ∃ mu, mu = m + 1 := ⟨_, rfl⟩
 have hnp : n = p + 2 := by omega
 have hmn : n ≤ m := by omega
 have hm2 : m ≤ 274877906944 := by omega
 have F0 : (ys.length : Int) = (n : Int) := by omega
 have F0x : (xs.length : Int) = (m : Int) := by omega
 have F1 : (64 - (nb : Int)) = (s : Int) := by omega
 have F1b : IntKind.u64.wrap (s : Int) = (s : Int) := u64_in _ (by omega)
 have F2 : ((n : Int) - 1).toNat = p + 1 := by omega
 have F3 : (m : Int) - (n : Int) = (nz : Int) - 1 := by omega
 have F4 : (m : Int) + 1 = (mu : Int) := by omega
 have hmu2 : mu ≤ 274877906945 := by omega
 obtain ⟨st1, st2⟩ := shift_top hok2 hyl htop hy2l hy2h hs63
 have HST1 : Hid (val ys * 2 ^ s < BB ^ n) := by show _ < _; rw [hnp]; exact st1
 have HST2 : Hid (9223372036854775808 * BB ^ (p + 1) ≤ val ys * 2 ^ s) := st2
 have hxfit : val xs * 2 ^ s < BB ^ (m + 1) := by
  have a := val_lt hok
  rw [← hm] at a
  have b : 2 ^ s < BB := by
   have : 2 ^ s ≤ 2 ^ 63 := Nat.pow_le_pow_right (by omega) hs63
   unfold BB; omega
  rw [Nat.pow_succ]
  exact Nat.mul_lt_mul'' a b
 have HXF := Lib.hid hxfit
 have HS := Lib.hid hs
 have HN := Lib.hid hn
 have HM := Lib.hid hm
 have HNB := Lib.hid hnb
 have HTB := Lib.hid htb
 have HYL := Lib.hid hyl
 have HNQ := Lib.hid hnq
 have HHL := Lib.hid hl
 have HNP := Lib.hid hnp
 have HMU := Lib.hid hmu
 have hn1 : 1 ≤ n := by omega
 have hi1 : (0 : Int) ≤ (n : Int) - 1 := by omega
 have hi2 : (n : Int) - 1 < (n : Int) := by omega
 have HMK := make_words nz (by omega)
 clear hv hu hok hok2 hcm hcm2 hsh2 htop htop0 htb hnb hy2l hy2h hs hyl hys hlx hl hxfit st1 st2 hn hm hnq hnp hmu
 go_enter Tryz.func256, Tryz.ntmps256
 go_wp2_with fail
 refine (Tryz.bits_LeadingZeros64 (top : Int) _ (by omega) (by have := HTB.out; unfold BB at this; omega)).mono ?_
 rintro e w1 ⟨rfl, rfl⟩
 rw [Int.toNat_natCast, HNB.out]
 go_wp2_with fail
 refine (dshifted_any _ ys s n _ HU.out (by omega) (by omega) (by have := HN.out; omega) HST1.out).mono ?_
 rintro e w2 ⟨V, rfl, hB2, hVl, hVv, hb2⟩
 obtain ⟨gv, hgv⟩ : ∃ gv, gv = w1.heap.size := ⟨_, rfl⟩
 rw [← hgv] at hB2 ⊢
 have hlv1 : gv < w2.heap.size := hB2.lt
 have hgvB : w1.heap.size ≤ gv := by omega
 have HGV := Lib.hid hgv
 clear hgv
 go_wp2_with fail
 refine (dshifted_any _ xs s mu _ (HV.out.below hb2) (by omega) (by omega) (by have := HM.out; have := HMU.out; omega) (by rw [HMU.out]; exact HXF.out)).mono ?_
 rintro e w3 ⟨L, rfl, hB3, hLl, hLv, hb3⟩
 obtain ⟨gu, hgu⟩ : ∃ gu, gu = w2.heap.size := ⟨_, rfl⟩
 rw [← hgu] at hB3 ⊢
 have hlvu : gv < gu := by omega
 have hguB : w1.heap.size ≤ gu := by have := hb2.size; omega
 have hlu1 : gu < w3.heap.size := hB3.lt
 have HGU := Lib.hid hgu
 clear hgu
 obtain ⟨gz, hgz⟩ : ∃ gz, gz = w3.heap.size := ⟨_, rfl⟩
 have hluz : gu < gz := by omega
 have HBA : Hid (Below w1.heap.size w1 w3) := hb2.trans (hb3.mono hb2.size)
 have hz1 := HBA.out.size
 have HBV3 : Hid (Blk w3 gv V) := hB2.below hb3 hB2.lt
 have HBU3 := Lib.hid hB3
 have HGZ := Lib.hid hgz
 have HVL := Lib.hid hVl
 have HVV := Lib.hid hVv
 have HLL := Lib.hid hLl
 have HLV := Lib.hid hLv
 have hgzB : w1.heap.size ≤ gz := by omega
 clear hB2 hVl hVv hb2 hB3 hLl hLv hb3 hgz
 go_wp2_with fail
 rw [← HGZ.out]
 obtain ⟨w4, hw4⟩ : ∃ w4, w4 = w3.alloc (.cells (madeCells #[.int .u64 0] nz) 101) := ⟨_, rfl⟩
 have ha := below_alloc w3 (.cells (madeCells #[.int .u64 0] nz) 101)
 rw [← hw4] at ha
 have HB4 : Hid (LgRel L V n nz gv gu gz w1 (.int .i64 ((nz : Int) - 1)) w4) := by
  refine ⟨nz, L, List.replicate nz 0, Nat.le_refl _, rfl, List.length_replicate, ?_, HBV3.out.below ha HBV3.out.lt, HBU3.out.below ha HBU3.out.lt, ?_, HBA.out.trans (ha.mono hz1)⟩
  ·have hk : nz + n = m + 1 := by have := HNQ.out; omega
   have hmu := HMU.out
   refine LgSt.start (by rw [HLL.out, hmu]; omega) ?_ (by rw [List.length_replicate]; exact Nat.le_refl _)
   have hx := val_lt HOK.out
   rw [← HM.out] at hx
   have hS : 2 ^ s ≤ 9223372036854775808 := by
    have : 2 ^ s ≤ 2 ^ 63 := Nat.pow_le_pow_right (by omega) hs63
    exact this
   exact lg_top (n := n) HLV.out hx (HLL.out.trans hmu) hk HVV.out hS hn1 (by rw [show n - 1 = p + 1 from by have := HNP.out; omega, HVV.out]; exact HST2.out)
  ·rw [hw4, HGZ.out]; exact Blk.made w3 nz
 rw [← hw4]
 clear hw4 ha
 have HF2 := Lib.hid F2
 have HF3 := Lib.hid F3
 have HF1 := Lib.hid F1
 clear F2 F1 F3 F4 e1
 go_loopw [11] (fun i wr => LgRel L V n nz gv gu gz w1 i wr) (fun i _ => (intOf i + 1).toNat)
 case atStart => exact HB4.out
 clear HB4
 case round =>
  obtain ⟨k, M, Q, hk, rfl, hQl, hst, hBV, hBU, hBQ, hbl⟩ := hrel
  have HST := Lib.hid hst
  have HBV := Lib.hid hBV
  have HBU := Lib.hid hBU
  have HBQ := Lib.hid hBQ
  have HBL := Lib.hid hbl
  have HQL := Lib.hid hQl
  have hml : M.length = mu := by rw [hst.len, HLL.out]
  have HML := Lib.hid hml
  clear hst hBV hBU hBQ hbl hQl hml
  cases k with
  | zero =>
   have hge : ¬ ((0 : Int) ≤ ((0 : Nat) : Int) - 1) := by omega
   obtain ⟨r1, r2⟩ := HST.out.fin
   have hnz : nz ≤ 1099511627776 := by have := HNQ.out; omega
   have hS : 0 < 2 ^ s := Nat.pow_pos (by omega)
   obtain ⟨b1, b2⟩ := shift_back (N := val xs) (y := val ys) hS
   have HQV : Hid (val Q = val xs / val ys) := by show _ = _; rw [r1, HLV.out, HVV.out, ← b1]
   have HRV : Hid (val (M.take n) / 2 ^ s = val xs % val ys) := by show _ = _; rw [r2, HLV.out, HVV.out, ← b2]
   have hnm : n ≤ mu := by have := HMU.out; omega
   have hRM := (HBU.out.whole (by rw [HML.out]; omega))
   rw [HML.out] at hRM
   have HRM := Lib.hid (hRM.take (n := n) (c := mu) (by rw [HML.out]; exact hnm) hnm (Nat.le_refl _))
   have hRQ := (HBQ.out.whole (by rw [HQL.out]; omega))
   rw [HQL.out] at hRQ
   have HRQ := Lib.hid hRQ
   clear r1 r2 b1 b2 hS hRM hRQ
   have i0 : (0 : Int) ≤ (n : Int) := Int.natCast_nonneg _
   have i1 : (n : Int) ≤ (mu : Int) := by omega
   go_wp2_with fail
   refine (shr_any _ (M.take n) s _ HRM.out (by omega) (by rw [List.length_take, HML.out]; omega)).mono ?_
   rintro e w5 ⟨rv, rs, rfl, q1, q2, q3, q4, q5⟩
   have HBL5 : Hid (Below w1.heap.size w1 w5) := HBL.out.trans (q5.mono HBL.out.size)
   have hz5 := HBL.out.size
   have hz6 := HBL5.out.size
   have HRQ5 := Lib.hid (HRQ.out.below q5)
   have Q1 := Lib.hid q1
   have Q2 : Hid (val rs = val xs % val ys) := by show _ = _; rw [q2, HRV.out]
   have Q3 : Hid (rs.length ≤ ys.length) := by show _ ≤ _; rw [List.length_take] at q3; have := HN.out; omega
   have Q4 := Lib.hid q4
   clear q1 q2 q3 q4 q5
   go_wp2_with fail
   refine (least_any _ Q _ HRQ5.out (by rw [HQL.out]; omega)).mono ?_
   rintro e w6 ⟨qv, rfl, p1, p2⟩
   have P1 := Lib.hid p1
   have P2 := Lib.hid p2
   clear p1 p2
   go_wp2_with fail
   go_ret2
   have hsq := strip_le Q
   have hQl := HQL.out
   refine ⟨_, _, strip Q, rs, rfl, P1.out.mono hz6, by rw [val_strip, HQV.out], by have := HNQ.out; have := HM.out; have := HN.out; omega, strip_strip Q, (Q1.out.mono hz5).below P2.out, Q2.out, Q3.out, Q4.out, HBL5.out.trans (P2.out.mono hz6)⟩
  | succ k =>
   have hkk : (((k + 1 : Nat) : Int) - 1) = (k : Int) := by omega
   rw [hkk]
   clear hkk
   have hkn : k + n ≤ m := by have := HNQ.out; omega
   have hnp := HNP.out
   have hVlen := HVL.out
   have hMlen := HML.out
   have hmu := HMU.out
   obtain ⟨z, hz⟩ : ∃ z, M[k]? = some z := ⟨_, List.getElem?_eq_getElem (by omega)⟩
   obtain ⟨u2, h2⟩ : ∃ u2, M[k + p + 2]? = some u2 := ⟨_, List.getElem?_eq_getElem (by omega)⟩
   obtain ⟨u1, h1⟩ : ∃ u1, M[k + p + 1]? = some u1 := ⟨_, List.getElem?_eq_getElem (by omega)⟩
   obtain ⟨u0, h0⟩ : ∃ u0, M[k + p]? = some u0 := ⟨_, List.getElem?_eq_getElem (by omega)⟩
   obtain ⟨v1, k1⟩ : ∃ v1, V[p + 1]? = some v1 := ⟨_, List.getElem?_eq_getElem (by omega)⟩
   obtain ⟨v0, k0⟩ : ∃ v0, V[p]? = some v0 := ⟨_, List.getElem?_eq_getElem (by omega)⟩
   have hu2b := HBU.out.2 u2 (List.mem_of_getElem? h2)
   have hu1b := HBU.out.2 u1 (List.mem_of_getElem? h1)
   have hu0b := HBU.out.2 u0 (List.mem_of_getElem? h0)
   have hv1b := HBV.out.2 v1 (List.mem_of_getElem? k1)
   have hv0b := HBV.out.2 v0 (List.mem_of_getElem? k0)
   have hv1big := top_word HBV.out.2 (by omega) k1 (by rw [HVV.out]; exact HST2.out)
   have hst' : LgSt L V (p + 2) (k + 1) M Q := by have := HST.out; rw [hnp] at this; exact this
   obtain ⟨G1, G2, G3, G4⟩ := lg_guess hst' HBU.out.2 HBV.out.2 (by omega) (by omega) hz h2 h1 h0 k1 k0 (by omega)
   obtain ⟨d, hd⟩ : ∃ d, d = gq ((u2 * BB + u1) * BB + u0) (v1 * BB + v0) := ⟨_, rfl⟩
   have hdb : d < BB := by rw [hd]; exact Nat.lt_of_le_of_lt (Nat.min_le_left _ _) (Nat.sub_lt BB_pos Nat.one_pos)
   rw [← hd] at G3 G4
   obtain ⟨U, hU⟩ : ∃ U, U = val (mid M k (n + 1)) := ⟨_, rfl⟩
   have hU' : val (mid M k (p + 3)) = U := by rw [hU, hnp]
   rw [hU'] at G1 G3 G4
   obtain ⟨a2, ha2⟩ : ∃ a2, a2 = k + n := ⟨_, rfl⟩
   obtain ⟨a1, ha1⟩ : ∃ a1, a1 = k + p + 1 := ⟨_, rfl⟩
   obtain ⟨a0, ha0⟩ : ∃ a0, a0 = k + p := ⟨_, rfl⟩
   obtain ⟨n1, hn1'⟩ : ∃ n1, n1 = p + 1 := ⟨_, rfl⟩
   have S1 : IntKind.i64.wrap ((k : Int) + (n : Int)) = (a2 : Int) := by rw [IntWalk.i64_in _ (by omega)]; omega
   have S1' : (k : Int) + (n : Int) = (a2 : Int) := by omega
   have S0 : IntKind.i64.wrap (a2 : Int) = (a2 : Int) := IntWalk.i64_in _ (by omega)
   obtain ⟨a3, ha3⟩ : ∃ a3, a3 = a2 + 1 := ⟨_, rfl⟩
   have S6 : (a2 : Int) + 1 = (a3 : Int) := by omega
   have S2 : IntKind.i64.wrap ((a2 : Int) - 1) = (a1 : Int) := by rw [IntWalk.i64_in _ (by omega)]; omega
   have S3 : IntKind.i64.wrap ((a2 : Int) - 2) = (a0 : Int) := by rw [IntWalk.i64_in _ (by omega)]; omega
   have S4 : IntKind.i64.wrap ((n : Int) - 1) = (n1 : Int) := by rw [IntWalk.i64_in _ (by omega)]; omega
   have S5 : IntKind.i64.wrap ((n : Int) - 2) = (p : Int) := by rw [IntWalk.i64_in _ (by omega)]; omega
   have c2 := HBU.out.cell (show M[a2]? = some u2 by rw [ha2, hnp]; exact h2)
   have c1 := HBU.out.cell (show M[a1]? = some u1 by rw [ha1]; exact h1)
   have c0 := HBU.out.cell (show M[a0]? = some u0 by rw [ha0]; exact h0)
   have d1 := HBV.out.cell (show V[n1]? = some v1 by rw [hn1']; exact k1)
   have d0 := HBV.out.cell k0
   have b0 : (0 : Int) ≤ (k : Int) := Int.natCast_nonneg _
   have b1 : (0 : Int) ≤ (a2 : Int) := Int.natCast_nonneg _
   have b2 : (a2 : Int) < (mu : Int) := by omega
   have b3 : (0 : Int) ≤ (a1 : Int) := Int.natCast_nonneg _
   have b4 : (a1 : Int) < (mu : Int) := by omega
   have b5 : (0 : Int) ≤ (a0 : Int) := Int.natCast_nonneg _
   have b6 : (a0 : Int) < (mu : Int) := by omega
   have b7 : (0 : Int) ≤ (n1 : Int) := Int.natCast_nonneg _
   have b8 : (n1 : Int) < (n : Int) := by omega
   have b9 : (0 : Int) ≤ (p : Int) := Int.natCast_nonneg _
   have b10 : (p : Int) < (n : Int) := by omega
   have HGUESS : Hid (∀ w0 : World, Calls Tryz.prog 280 #[.int .u64 (u2 : Nat), .int .u64 (u1 : Nat), .int .u64 (u0 : Nat), .int .u64 (v1 : Nat), .int .u64 (v0 : Nat)] w0 (GuessPost d w0)) := fun w0 => by rw [hd]; exact guess_any u2 u1 u0 v1 v0 w0 G2 hu1b hu0b (by omega) hv1b hv0b
   have HD := Lib.hid hd
   have HDB := Lib.hid hdb
   have HU1 := Lib.hid hU
   have HG1 := Lib.hid G1
   have HG3 := Lib.hid G3
   have HG4 := Lib.hid G4
   have HZ := Lib.hid hz
   have hA2 : a2 ≤ m := by omega
   have HA2 := Lib.hid ha2
   have HA3 := Lib.hid ha3
   have hA3 : a3 ≤ mu := by omega
   clear hmu ha3 hnp hVlen hMlen hz h2 h1 h0 k1 k0 hu2b hu1b hu0b hv1b hv0b hv1big hst' G1 G2 G3 G4 hd hdb hU hU' ha2 ha1 ha0 hn1'
   go_wp2_with fail
   go_quiet ((go_at_call 280; exact Calls.quiet_of (HGUESS.out _)))
   go_wp2_with fail
   obtain ⟨wg, hwg⟩ : ∃ wg, wg = wr.drewN nq := ⟨_, rfl⟩
   rw [← hwg]
   have hbg : Below wr.heap.size wr wg := by rw [hwg]; exact below_drewN' wr nq
   have HWG := Lib.hid hwg
   clear hwg
   have HBV2 : Hid (Blk wg gv V) := HBV.out.below hbg HBV.out.lt
   have HBU2 : Hid (Blk wg gu M) := HBU.out.below hbg HBU.out.lt
   have HBQ2 : Hid (Blk wg gz Q) := HBQ.out.below hbg HBQ.out.lt
   have HBL2 : Hid (Below w1.heap.size w1 wg) := HBL.out.trans (hbg.mono HBL.out.size)
   have hsz2 := HBL2.out.size
   have e3 : a3 - k = V.length + 1 := by have := HVL.out; have := HA3.out; have := HA2.out; omega
   have HRV := Lib.hid (HBV2.out.whole (by rw [HVL.out]; omega))
   rw [HVL.out] at HRV
   rw [e3]
   clear c2 c1 c0 d1 d0 hbg
   refine (take_any gu k (mu - k) d M V _ wg HBU2.out (by rw [HVL.out, HML.out]; have := HA3.out; have := HA2.out; omega) (by rw [HVL.out]; have := HA3.out; have := HA2.out; omega) (by rw [HML.out]; omega) HRV.out (by simp [Value.ownBlock] <;> omega) HDB.out).mono ?_
   rintro e w5 ⟨lent, M1, rfl, hlent, hB5, l1, l2, l3, heq, hgr⟩
   rw [HVL.out] at l3 heq
   have HEQ := Lib.hid heq
   have HB5 := Lib.hid hB5
   have HL1 := Lib.hid l1
   have HL2 := Lib.hid l2
   have HGR := Lib.hid hgr
   have HBV5 : Hid (Blk w5 gv V) := HBV2.out.kept hgr (by simp <;> omega)
   have HBQ5 : Hid (Blk w5 gz Q) := HBQ2.out.kept hgr (by simp <;> omega)
   have HBL5 : Hid (Below w1.heap.size w1 w5) := Below.grown HBL2.out hgr hsz2 (fun q hq => by cases hq; exact hguB)
   clear heq hB5 l1 l2 l3 hgr
   obtain ⟨q0, hq0⟩ : ∃ q0, Q[k]? = some q0 := ⟨_, List.getElem?_eq_getElem (by rw [HQL.out]; omega)⟩
   have i0 : (k : Int) < (nz : Int) := by omega
   by_cases hl0 : lent = 0
   ·have hlb : decide (lent ≠ 0) = false := by simp [hl0]
    obtain ⟨r1, r2⟩ := word_fit HG3.out (Nat.lt_of_le_of_lt (Nat.zero_le _) HST.out.lt) (by rw [← HU1.out] at HEQ; exact HEQ.out) hl0
    have HSTN := Lib.hid (HST.out.step (d := d) HBV.out.2 HVL.out HB5.out.2 HL1.out (by rw [HML.out]; have := HA3.out; have := HA2.out; omega) HZ.out (by rw [HQL.out]; omega) HL2.out (by rw [← HU1.out]; exact r1) (by rw [← HU1.out]; exact r2))
    have e4 := HBQ5.out.cell hq0
    have e5 := HBQ5.out.frozen k
    have HSQ := Lib.hid (HBQ5.out.set k HDB.out)
    clear r1 r2 hq0 hl0
    rw [hlb]
    clear hlb
    go_wp2_with fail
    have hfin : LgRel L V n nz gv gu gz w1 (.int .i64 ((k : Int) - 1)) (w5.setCell ⟨gz, k, none⟩ (.int .u64 (d : Nat))) :=
     ⟨k, M1, Q.set k d, by omega, rfl, by rw [List.length_set, HQL.out], HSTN.out, HBV5.out.kept HSQ.out.2 (by simp <;> omega), HB5.out.kept HSQ.out.2 (by simp <;> omega), HSQ.out.1, Below.grown HBL5.out HSQ.out.2 HBL5.out.size (fun q hq => by cases hq; exact hgzB)⟩
    first | exact ⟨hfin, by simp [intOf] <;> omega⟩ | exact ⟨by (repeat apply Exists.intro); exact ⟨hfin, rfl⟩, by simp [intOf] <;> omega⟩
   ·have hl1 : lent = 1 := by omega
    have hlb : decide (lent ≠ 0) = true := by simp [hl0]
    have HEQ1 : Hid (U + BB ^ (n + 1) * 1 = val (mid M1 k (n + 1)) + d * val V) := by
     show _ = _
     have h := HEQ.out
     rw [hl1] at h
     rw [HU1.out]; exact h
    rw [hlb]
    clear hlb hl1 hl0 HEQ
    have hd0 : 0 < d := by
     refine Nat.pos_of_ne_zero fun h0 => ?_
     have h1 := HEQ1.out
     have h2 := mid_lt HB5.out.2 k (n + 1) (by rw [HL1.out, HML.out]; have := HA3.out; have := HA2.out; omega)
     rw [h0, Nat.zero_mul] at h1
     omega
    obtain ⟨d', hd'⟩ : ∃ d', d' = d - 1 := ⟨_, rfl⟩
    have W1 : IntKind.u64.wrap ((d : Int) - 1) = (d' : Int) := by have := HDB.out; unfold BB at this; rw [IntKind.wrap_u64]; omega
    have hdb' : d' < BB := by have := HDB.out; omega
    have HDB' := Lib.hid hdb'
    have HD' := Lib.hid hd'
    clear hdb' hd' hd0
    go_wp2_with fail
    have HRV5 := Lib.hid (HBV5.out.whole (by rw [HVL.out]; omega))
    rw [HVL.out] at HRV5
    refine (give_any gu k (mu - k) M1 V _ w5 HB5.out (by rw [HVL.out, HL1.out, HML.out]; have := HA3.out; have := HA2.out; omega) (by rw [HVL.out]; have := HA3.out; have := HA2.out; omega) (by rw [HL1.out, HML.out]; omega) HRV5.out (by simp [Value.ownBlock] <;> omega)).mono ?_
    rintro e w6 ⟨cg, M2, rfl, hB6, l1, l2, l3, heq, hgr⟩
    rw [HVL.out] at l3 heq
    have hVP : 0 < val V := Nat.lt_of_le_of_lt (Nat.zero_le _) HST.out.lt
    have hVT : val V < BB ^ (n + 1) := Nat.lt_of_lt_of_le (val_lt HBV.out.2) (Nat.pow_le_pow_right BB_pos (by rw [HVL.out]; omega))
    obtain ⟨r1, r2⟩ := lg_back HB5.out.2 hB6.2 (by rw [HL1.out, HML.out]; have := HA3.out; have := HA2.out; omega) (by rw [l1, HL1.out, HML.out]; have := HA3.out; have := HA2.out; omega) HG3.out HG4.out hVP hVT HEQ1.out heq
    have HSTN := Lib.hid (HST.out.step (d := d') HBV.out.2 HVL.out hB6.2 (l1.trans HL1.out) (by rw [HML.out]; have := HA3.out; have := HA2.out; omega) HZ.out (by rw [HQL.out]; omega) (by rw [← HL2.out]; exact l2) (by rw [← HU1.out, HD'.out]; exact r1) (by rw [← HU1.out]; exact r2))
    have HB6 := Lib.hid hB6
    have HBV6 : Hid (Blk w6 gv V) := HBV5.out.kept hgr (by simp <;> omega)
    have HBQ6 : Hid (Blk w6 gz Q) := HBQ5.out.kept hgr (by simp <;> omega)
    have HBL6 : Hid (Below w1.heap.size w1 w6) := Below.grown HBL5.out hgr HBL5.out.size (fun q hq => by cases hq; exact hguB)
    have e4 := HBQ6.out.cell hq0
    have e5 := HBQ6.out.frozen k
    have HSQ := Lib.hid (HBQ6.out.set k HDB'.out)
    clear r1 r2 hq0 hB6 l1 l2 l3 heq hgr hVP hVT
    go_wp2_with fail
    have hfin : LgRel L V n nz gv gu gz w1 (.int .i64 ((k : Int) - 1)) (w6.setCell ⟨gz, k, none⟩ (.int .u64 (d' : Nat))) :=
     ⟨k, M2, Q.set k d', by omega, rfl, by rw [List.length_set, HQL.out], HSTN.out, HBV6.out.kept HSQ.out.2 (by simp <;> omega), HB6.out.kept HSQ.out.2 (by simp <;> omega), HSQ.out.1, Below.grown HBL6.out HSQ.out.2 HBL6.out.size (fun q hq => by cases hq; exact hgzB)⟩
    first | exact ⟨hfin, by simp [intOf] <;> omega⟩ | exact ⟨by (repeat apply Exists.intro); exact ⟨hfin, rfl⟩, by simp [intOf] <;> omega⟩
end Go.Proofs.YtgfmiladfeoldaaGreatDoor
namespace Go.Proofs.YtgfmiladfeoldaaGreatDoor
open Go.RowKit NatP
def DmPost (a b m n : Nat) (w : World) (e : Ending) (w' : World) : Prop := ∃ v u qs rs, e = .returned (.tuple #[v, u, .int .i64 0]) ∧ Fr w.heap.size w' v qs ∧ val qs = a / b ∧ qs.length ≤ m ∧ strip qs = qs ∧ Fr w.heap.size w' u rs ∧ val rs = a % b ∧ rs.length ≤ n ∧ strip rs = rs ∧ Below w.heap.size w w'
theorem Fr.nil (B : Nat) (w : World) : Fr B w (.slice none 0 0) [] := ⟨Rd.nil w, fun k hk => by cases hk⟩
set_option maxRecDepth 100000 in
set_option maxHeartbeats 4000000 in
theorem divMod_any (v u : Value) (xs ys : List Nat) (w : World) (hv : Rd w v xs) (hu : Rd w u ys) (hl : xs.length ≤ 274877906944) (hl2 : ys.length ≤ 274877906944) (h0 : 0 < val ys) :
  Calls Tryz.prog 239 #[v, u] w (DmPost (val xs) (val ys) xs.length ys.length w) := by
 have HV := Lib.hid hv
 have HU := Lib.hid hu
 have HL := Lib.hid hl
 have HL2 := Lib.hid hl2
 obtain ⟨ao, cap, rfl, hnc, hcm, hok, -⟩ := hv.2
 obtain ⟨bo, cap2, rfl, hnc2, hcm2, hok2, -⟩ := hu.2
 have HOK := Lib.hid hok
 have HOK2 := Lib.hid hok2
 obtain ⟨Y, hY⟩ : ∃ Y, Y = strip ys := ⟨_, rfl⟩
 have hYl : Y.length ≤ ys.length := by rw [hY]; exact strip_le ys
 have hYv : val Y = val ys := by rw [hY, val_strip]
 have hYs : strip Y = Y := by rw [hY, strip_strip]
 have hYok : ok Y := by rw [hY]; exact ok_strip hok2
 have hY0 : Y.length ≠ 0 := fun e => by
  rw [← hYv, List.eq_nil_of_length_eq_zero e] at h0
  simp [val] at h0
 obtain ⟨n, hn⟩ : ∃ n, n = Y.length := ⟨_, rfl⟩
 have HY := Lib.hid hY
 have HYV := Lib.hid hYv
 have HYS := Lib.hid hYs
 have HYOK := Lib.hid hYok
 have HN := Lib.hid hn
 have hn0 : ((n : Int) == 0) = false := by simp; omega
 have H0 := Lib.hid h0
 rw [← hn] at hYl hY0
 clear hv hu hok hok2 hcm hcm2 hl hl2 hY hYv hYs hYok hn h0
 by_cases h1 : n = 1
 ·have h1b : ((n : Int) == 1) = true := by simp [h1]
  obtain ⟨y, hy⟩ : ∃ y, Y[0]? = some y := ⟨_, List.getElem?_eq_getElem (by rw [← HN.out]; omega)⟩
  have hyb := HYOK.out y (List.mem_of_getElem? hy)
  have hYy : val Y = y := by
   rw [← List.drop_zero (l := Y), drop_val hy, List.drop_eq_nil_of_le (by rw [← HN.out]; omega)]
   simp [val]
  have hy0 : 0 < y := by have := H0.out; rw [← HYV.out, hYy] at this; exact this
  have HYY := Lib.hid hYy
  have HYB := Lib.hid hyb
  have HY0 := Lib.hid hy0
  have HYC := Lib.hid hy
  have hn1 : 0 < n := by omega
  clear hy hyb hYy hy0 h1
  go_enter Tryz.func239, Tryz.ntmps239
  go_wp2_with fail
  refine (least_blk _ ys _ HU.out (by have := HL2.out; omega)).mono ?_
  rintro e w1 ⟨rfl, hB, hb⟩
  rw [← HY.out, ← HN.out] at *
  have e1 := hB.cell HYC.out
  have HBL := Lib.hid hb
  have HV1 := Lib.hid (HV.out.below hb)
  have hz1 := hb.size
  clear hB hb
  go_wp2_with fail
  refine (divWord_any _ xs y _ HV1.out (by have := HL.out; omega) HY0.out HYB.out).mono ?_
  rintro e w2 ⟨qv, qs, rfl, q1, q2, q3, q4, q5⟩
  have Q1 := Lib.hid q1
  have Q2 : Hid (val qs = val xs / val ys) := by show _ = _; rw [q2, ← HYV.out, HYY.out]
  have Q3 := Lib.hid q3
  have Q4 := Lib.hid q4
  have HBL2 : Hid (Below w.heap.size w w2) := HBL.out.trans (q5.mono hz1)
  obtain ⟨r, hr⟩ : ∃ r, r = val xs % y := ⟨_, rfl⟩
  rw [← hr]
  have hrb : r < BB := by rw [hr]; exact Nat.lt_trans (Nat.mod_lt _ HY0.out) HYB.out
  have HR : Hid (r = val xs % val ys) := by show _ = _; rw [hr, ← HYV.out, HYY.out]
  have HRW := Lib.hid (rd_word w2 r hrb)
  have hz2 := HBL2.out.size
  have ha := below_alloc w2 (.cells #[.int .u64 (r : Nat)] 101)
  have HA := Lib.hid ha
  clear q1 q2 q3 q4 q5 hr hrb ha
  go_wp2_with fail
  refine (least_any _ [r] _ HRW.out (by simp)).mono ?_
  rintro e w3 ⟨rv, rfl, p1, p2⟩
  have P1 := Lib.hid p1
  have HB3 := Lib.hid (HA.out.trans (p2.mono HA.out.size))
  clear p1 p2
  go_wp2_with fail
  go_ret3
  have hsl := strip_le [r]
  refine ⟨_, _, qs, strip [r], rfl, (Q1.out.mono hz1).below HB3.out, Q2.out, Q3.out, Q4.out, P1.out.mono (Nat.le_trans hz2 HA.out.size), by rw [val_strip, ← HR.out]; simp [val], ?_, strip_strip _, HBL2.out.trans (HB3.out.mono hz2)⟩
  simp only [List.length_cons, List.length_nil] at hsl
  omega
 ·have h1b : ((n : Int) == 1) = false := by simp; omega
  have hn2 : 2 ≤ n := by omega
  obtain ⟨X, hX⟩ : ∃ X, X = strip xs := ⟨_, rfl⟩
  have hXl : X.length ≤ xs.length := by rw [hX]; exact strip_le xs
  have hXv : val X = val xs := by rw [hX, val_strip]
  have hXs : strip X = X := by rw [hX, strip_strip]
  have hXok : ok X := by rw [hX]; exact ok_strip HOK.out
  have HX := Lib.hid hX
  have HXL := Lib.hid hXl
  have HXV := Lib.hid hXv
  have HXS := Lib.hid hXs
  have HXOK := Lib.hid hXok
  clear hX hXl hXv hXs hXok h1
  by_cases hlt : val xs < val ys
  ·have hc : cmpI (val X) (val Y) = -1 := cmpI_lt (by rw [HXV.out, HYV.out]; exact hlt)
   have HC := Lib.hid hc
   have HD : Hid (val xs / val ys = 0 ∧ val xs % val ys = val xs) := ⟨Nat.div_eq_of_lt hlt, Nat.mod_eq_of_lt hlt⟩
   have hXY : X.length ≤ n := by
    refine Nat.le_of_not_lt fun h => ?_
    have := cmp_len (xs := Y) (ys := X) HYOK.out (by rw [HYS.out, HXS.out, ← HN.out]; exact h)
    rw [HXV.out, HYV.out] at this
    omega
   clear hc hlt
   go_enter Tryz.func239, Tryz.ntmps239
   go_wp2_with fail
   refine (least_any _ ys _ HU.out (by have := HL2.out; omega)).mono ?_
   rintro e w1 ⟨yv, rfl, hB, hb⟩
   rw [← HY.out] at hB
   obtain ⟨yo, ycap, rfl, -, -, -, -⟩ := hB.1.2
   have HB := Lib.hid hB
   have HBL := Lib.hid hb
   have HV1 := Lib.hid (HV.out.below hb)
   have hz1 := hb.size
   clear hB hb
   rw [← HN.out]
   go_wp2_with fail
   refine (least_any _ xs _ HV1.out (by have := HL.out; omega)).mono ?_
   rintro e w2 ⟨xv, rfl, hB2, hb2⟩
   rw [← HX.out] at hB2
   have HB2 := Lib.hid hB2
   have HY2 := Lib.hid (HB.out.below hb2)
   have HBL2 : Hid (Below w.heap.size w w2) := HBL.out.trans (hb2.mono hz1)
   have hz2 := HBL2.out.size
   rw [← HN.out] at HY2
   clear hB2 hb2
   go_wp2_with fail
   refine (cmp_any _ _ X Y _ HB2.out.1 HY2.out.1).mono ?_
   rintro e w3 ⟨rfl, hb3⟩
   rw [HC.out]
   have HB3 := Lib.hid hb3
   clear hb3
   go_wp2_with fail
   go_ret3
   exact ⟨_, _, [], X, rfl, Fr.nil _ _, by rw [HD.out.1]; rfl, Nat.zero_le _, rfl, (HB2.out.mono hz1).below HB3.out, by rw [HXV.out, HD.out.2], by omega, HXS.out, HBL2.out.trans (HB3.out.mono hz2)⟩
  ·obtain ⟨c, hc⟩ : ∃ c, c = cmpI (val X) (val Y) := ⟨_, rfl⟩
   have hcb : decide (c < 0) = false := by
    rw [hc, HXV.out, HYV.out]
    unfold cmpI
    rw [if_neg hlt]
    split <;> decide
   have HC := Lib.hid hc
   have hXY : n ≤ X.length := by
    refine Nat.le_of_not_lt fun h => ?_
    have := cmp_len (xs := X) (ys := Y) HXOK.out (by rw [HYS.out, HXS.out, ← HN.out]; exact h)
    rw [HXV.out, HYV.out] at this
    omega
   clear hc hlt
   go_enter Tryz.func239, Tryz.ntmps239
   go_wp2_with fail
   refine (least_any _ ys _ HU.out (by have := HL2.out; omega)).mono ?_
   rintro e w1 ⟨yv, rfl, hB, hb⟩
   rw [← HY.out] at hB
   obtain ⟨yo, ycap, rfl, -, -, -, -⟩ := hB.1.2
   have HB := Lib.hid hB
   have HBL := Lib.hid hb
   have HV1 := Lib.hid (HV.out.below hb)
   have hz1 := hb.size
   clear hB hb
   rw [← HN.out]
   go_wp2_with fail
   refine (least_any _ xs _ HV1.out (by have := HL.out; omega)).mono ?_
   rintro e w2 ⟨xv, rfl, hB2, hb2⟩
   rw [← HX.out] at hB2
   have HB2 := Lib.hid hB2
   have HY2 := Lib.hid (HB.out.below hb2)
   have HBL2 : Hid (Below w.heap.size w w2) := HBL.out.trans (hb2.mono hz1)
   have hz2 := HBL2.out.size
   rw [← HN.out] at HY2
   clear hB2 hb2
   go_wp2_with fail
   refine (cmp_any _ _ X Y _ HB2.out.1 HY2.out.1).mono ?_
   rintro e w3 ⟨rfl, hb3⟩
   rw [← HC.out]
   have HB3 := Lib.hid (HB2.out.below hb3)
   have HY3 := Lib.hid (HY2.out.below hb3)
   have HBL3 : Hid (Below w.heap.size w w3) := HBL2.out.trans (hb3.mono hz2)
   have hz3 := HBL3.out.size
   clear hb3
   go_wp2_with fail
   refine (long_any _ _ X Y (n - 2) _ HB3.out.1 HY3.out.1 (by rw [← HN.out]; omega) HYS.out (by rw [← HN.out]; exact hXY) (by have := HXL.out; have := HL.out; omega)).mono ?_
   rintro e w4 ⟨qv, rv, qs, rs, rfl, q1, q2, q3, q4, r1, r2, r3, r4, hb4⟩
   have Q1 := Lib.hid (q1.mono hz3)
   have R1 := Lib.hid (r1.mono hz3)
   have HBL4 : Hid (Below w.heap.size w w4) := HBL3.out.trans (hb4.mono hz3)
   have Q2 : Hid (val qs = val xs / val ys) := by show _ = _; rw [q2, HXV.out, HYV.out]
   have R2 : Hid (val rs = val xs % val ys) := by show _ = _; rw [r2, HXV.out, HYV.out]
   have Q3 : Hid (qs.length ≤ xs.length) := by show _ ≤ _; have := HXL.out; have := HN.out; omega
   have R3 : Hid (rs.length ≤ ys.length) := by show _ ≤ _; have := HN.out; omega
   have Q4 := Lib.hid q4
   have R4 := Lib.hid r4
   clear q1 q2 q3 q4 r1 r2 r3 r4 hb4
   go_wp2_with fail
   go_ret3
   exact ⟨_, _, qs, rs, rfl, Q1.out, Q2.out, Q3.out, Q4.out, R1.out, R2.out, R3.out, R4.out, HBL4.out⟩
end Go.Proofs.YtgfmiladfeoldaaGreatDoor
