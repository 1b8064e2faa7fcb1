/- Joined texts of this claim's proof: DivI, DivQ, DivJ, DivK. -/
import Derived.Test.YtceggplnggkdnaaGreatDoorPk7
import Derived.IntWalk
import Derived.Test.YtceggplnggkdnaaGreatDoorPk3
set_option linter.unusedSimpArgs false
set_option linter.unusedVariables false
namespace Go.Proofs.YtceggplnggkdnaaGreatDoor
open Go.RowKit NatP
def shrW (L : List Nat) (s t i : Nat) : Nat := L.getD i 0 / 2 ^ s + L.getD (i + 1) 0 * 2 ^ t % BB
theorem shrW_lt {L : List Nat} {s t i : Nat} (hL : ok L) (hst : s + t = 64) : shrW L s t i < BB ∧ L.getD i 0 / 2 ^ s < 2 ^ t ∧ (L.getD (i + 1) 0 * 2 ^ t % BB) % 2 ^ t = 0 := by
 have hT : BB = 2 ^ t * 2 ^ s := by rw [← Nat.pow_add, show t + s = 64 from by omega]; rfl
 have hps : 0 < 2 ^ s := Nat.pow_pos (by omega)
 have hpt : 0 < 2 ^ t := Nat.pow_pos (by omega)
 have hx : L.getD i 0 < BB := by
  rw [List.getD_eq_getElem?_getD]
  cases h : L[i]? with
  | none => exact BB_pos
  | some x => exact hL x (List.mem_of_getElem? h)
 have h1 : L.getD i 0 / 2 ^ s < 2 ^ t := by rw [Nat.div_lt_iff_lt_mul hps, ← hT]; exact hx
 have h2 : (L.getD (i + 1) 0 * 2 ^ t % BB) % 2 ^ t = 0 := by
  rw [hT, Nat.mul_comm (2 ^ t) (2 ^ s), Nat.mul_mod_mul_right, Nat.mul_mod_left]
 refine ⟨?_, h1, h2⟩
 have h3 : L.getD (i + 1) 0 * 2 ^ t % BB < BB := Nat.mod_lt _ BB_pos
 unfold shrW
 obtain ⟨q, hq⟩ := Nat.dvd_of_mod_eq_zero h2
 rw [hq, hT] at h3
 rw [hq, hT]
 have h6 := Nat.lt_of_mul_lt_mul_left h3
 have h7 : 2 ^ t * (q + 1) ≤ 2 ^ t * 2 ^ s := Nat.mul_le_mul_left _ h6
 rw [Nat.mul_add, Nat.mul_one] at h7
 omega
theorem shr_part {y s t : Nat} (hst : s + t = 64) : y * 2 ^ t % BB = 2 ^ t * (y % 2 ^ s) := by
 have hT : BB = 2 ^ t * 2 ^ s := by rw [← Nat.pow_add, show t + s = 64 from by omega]; rfl
 rw [hT, Nat.mul_comm y, Nat.mul_mod_mul_left]
theorem shr_sum {s t : Nat} (hst : s + t = 64) : ∀ (L M : List Nat), M.length = L.length → (∀ i, i < L.length → M[i]? = some (shrW L s t i)) → 2 ^ s * val M + L.getD 0 0 % 2 ^ s = val L := by
 have hT : BB = 2 ^ s * 2 ^ t := by rw [← Nat.pow_add, hst]; rfl
 intro L
 induction L with
 | nil => intro M hl _; rw [List.eq_nil_of_length_eq_zero hl]; simp [val]
 | cons x L ih =>
  intro M hl hM
  cases M with
  | nil => simp at hl
  | cons m M =>
   have hrec := ih M (by simpa using hl) (fun i hi => by
    have := hM (i + 1) (by simpa using hi)
    simpa [shrW] using this)
   have h0 := hM 0 (by simp)
   simp only [List.getElem?_cons_zero, shrW, List.getD_cons_zero, Option.some.injEq, Nat.zero_add, List.getD_cons_succ] at h0
   rw [shr_part hst] at h0
   show 2 ^ s * (m + BB * val M) + x % 2 ^ s = x + BB * val L
   have hdm := Nat.div_add_mod x (2 ^ s)
   rw [← hrec, h0]
   generalize x / 2 ^ s = a at *
   generalize x % 2 ^ s = b at *
   generalize L.getD 0 0 % 2 ^ s = c at *
   rw [← hdm, Nat.mul_add, Nat.mul_add, Nat.mul_add, ← Nat.mul_assoc (2 ^ s) (2 ^ t) c, ← hT, Nat.mul_left_comm BB (2 ^ s) (val M)]
   omega
theorem shr_fin {s t : Nat} (hst : s + t = 64) {L M : List Nat} (hl : M.length = L.length) (hM : ∀ i, i < L.length → M[i]? = some (shrW L s t i)) : val M = val L / 2 ^ s := by
 have hps : 0 < 2 ^ s := Nat.pow_pos (by omega)
 have h := shr_sum hst L M hl hM
 have hb := Nat.mod_lt (L.getD 0 0) hps
 rw [← h, Nat.mul_add_div hps, Nat.div_eq_of_lt hb, Nat.add_zero]
theorem or_join' (x y i : Nat) (hx : x < 18446744073709551616) (hd : x % 2 ^ i = 0) (hy : y < 2 ^ i) (hy2 : y < 18446744073709551616) : bits BinOp.or IntKind.u64 (y : Int) (x : Int) = ((y + x : Nat) : Int) := by
 have h := or_join x y i hx hd hy hy2
 rw [bits_or_u64_nat x y hx hy2, Nat.or_comm, ← bits_or_u64_nat y x hy2 hx] at h
 rw [h, Nat.add_comm]
def SrRel (L : List Nat) (s t n g : Nat) (w1 : World) (i : Value) (wr : World) : Prop := ∃ (k : Nat) (M : List Nat), k ≤ n ∧ i = .int .i64 (k : Nat) ∧ M.length = n ∧ (∀ i, i < k → M[i]? = some (shrW L s t i)) ∧ Blk wr g M ∧ w1.grownBy wr (some g)
theorem set_keep {M : List Nat} {k x : Nat} {f : Nat → Nat} (h : ∀ i, i < k → M[i]? = some (f i)) (hk : k < M.length) (hx : x = f k) : ∀ i, i < k + 1 → (M.set k x)[i]? = some (f i) := by
 intro i hi
 by_cases e : i = k
 ·subst e; rw [List.getElem?_set_self hk, hx]
 ·rw [List.getElem?_set_ne (by omega)]; exact h i (by omega)
def ShrPost (V m : Nat) (w : World) (e : Ending) (w' : World) : Prop := ∃ v xs, e = .returned (.tuple #[v, .int .i64 0]) ∧ Fr w.heap.size w' v xs ∧ val xs = V ∧ xs.length ≤ m ∧ strip xs = xs ∧ Below w.heap.size w w'
set_option maxRecDepth 100000 in
set_option maxHeartbeats 2000000 in
theorem shr_any (v : Value) (xs : List Nat) (s : Nat) (w : World) (hv : Rd w v xs) (hs : s < 64) (hl : xs.length ≤ 1099511627776) :
  Calls Tryz.prog 585 #[v, .int .i64 (s : Nat)] w (ShrPost (val xs / 2 ^ s) xs.length w) := by
 have HV := Lib.hid hv
 obtain ⟨ao, cap, rfl, hnc, hcm, hok, -⟩ := hv.2
 have HOK := Lib.hid hok
 obtain ⟨X, hX⟩ : ∃ X, X = strip xs := ⟨_, rfl⟩
 have hXx : ∀ (i x : Nat), X[i]? = some x → xs[i]? = some x := by
  intro i x h
  rw [hX, (strip_take xs).1, List.getElem?_take] at h
  split at h
  ·exact h
  ·cases h
 obtain ⟨n, hn⟩ : ∃ n, n = X.length := ⟨_, rfl⟩
 have hnl : n ≤ xs.length := by rw [hn, hX]; exact strip_le xs
 have hvX : val X = val xs := by rw [hX, val_strip]
 have hokX : ok X := by rw [hX]; exact ok_strip hok
 obtain ⟨t, ht⟩ : ∃ t, t = 64 - s := ⟨_, rfl⟩
 have hst : s + t = 64 := by omega
 have E0 : (s : Int) / 64 = 0 := by omega
 have hsn : decide ((s : Int) < 0) = false := by simp
 have E0b : (s : Int) % 64 = (s : Int) := by omega
 have E1 : IntKind.u64.wrap (64 - (s : Int)) = (t : Int) := by rw [IntKind.wrap_u64]; omega
 have E1b : IntKind.u64.wrap (s : Int) = (s : Int) := u64_in _ (by omega)
 have E2 : min s 64 = s := by omega
 have E3 : min t 64 = t := by omega
 have HX := Lib.hid hX
 have HN := Lib.hid hn
 have HVX := Lib.hid hvX
 have HOKX := Lib.hid hokX
 have HXX := Lib.hid hXx
 have hcap : cap ≤ 9223372036854775807 := by unfold maxLen at hcm; omega
 clear hv hok hcm hX hn hvX hokX hXx ht
 by_cases h0 : n = 0
 ·have hv0 : val xs / 2 ^ s = 0 := by
   have hX0 : X = [] := List.eq_nil_of_length_eq_zero (by rw [← HN.out]; exact h0)
   rw [← HVX.out, hX0]
   simp [val]
  have HV0 := Lib.hid hv0
  subst h0
  clear hv0
  go_enter Tryz.func585, Tryz.ntmps585
  go_wp2_with fail
  refine (size_any _ xs _ HV.out).mono ?_
  rintro e w' ⟨rfl, rfl⟩
  rw [← HX.out, ← HN.out]
  go_wp2_with fail
  go_ret2
  exact ⟨_, [], rfl, ⟨Rd.nil w, fun k hk => by cases hk⟩, by rw [HV0.out]; rfl, Nat.zero_le _, rfl, Below.refl _ _⟩
 ·have hn1 : 1 ≤ n := by omega
  have HMK := make_words n (by omega)
  obtain ⟨g, hg⟩ : ∃ g, g = w.heap.size := ⟨_, rfl⟩
  obtain ⟨w1, hw1⟩ : ∃ w1, w1 = w.alloc (.cells (madeCells #[.int .u64 0] n) 215) := ⟨_, rfl⟩
  have HBL : Hid (Below w.heap.size w w1) := by rw [hw1]; exact below_alloc w _
  have HB1 : Hid (Blk w1 g (List.replicate n 0)) := by rw [hw1, hg]; exact Blk.made w n
  have HG := Lib.hid hg
  have HW1 := Lib.hid hw1
  clear hg hw1
  go_enter Tryz.func585, Tryz.ntmps585
  go_wp2_with fail
  refine (size_any _ xs _ HV.out).mono ?_
  rintro e w' ⟨rfl, rfl⟩
  rw [← HX.out, ← HN.out]
  go_wp2_with fail
  rw [← HW1.out, ← HG.out]
  clear E0b
  go_loopw [29] (fun i wr => SrRel X s t n g w1 i wr) (fun i _ => n - (intOf i).toNat)
  case atStart => exact ⟨0, _, Nat.zero_le _, rfl, List.length_replicate, fun i hi => by omega, HB1.out, grown_refl _ _⟩
  clear HB1
  case round =>
   obtain ⟨k, M, hk, rfl, hml, hst2, hM, hgr⟩ := hrel
   have HST := Lib.hid hst2
   have HM := Lib.hid hM
   have HGR := Lib.hid hgr
   have HML := Lib.hid hml
   clear hst2 hM hgr hml
   have HWB : Hid (Below w.heap.size w wr) := HBL.out.trans (below_of_grown HGR.out HBL.out.size (by rw [HG.out]; exact Nat.le_refl _))
   by_cases hlt : k < n
   ·obtain ⟨z, hz⟩ : ∃ z, M[k]? = some z := ⟨_, List.getElem?_eq_getElem (by rw [HML.out]; exact hlt)⟩
    obtain ⟨x, hx⟩ : ∃ x, X[k]? = some x := ⟨_, List.getElem?_eq_getElem (by rw [← HN.out]; exact hlt)⟩
    have e4 := HM.out.cell hz
    have e3 := HM.out.frozen k
    have hxb := HOKX.out x (List.mem_of_getElem? hx)
    obtain ⟨ao', cap', e, -, -, -, hsh⟩ := (HV.out.below HWB.out).2
    cases e
    obtain ⟨g2, o2, rfl, e5⟩ := hsh k x (HXX.out k x hx)
    have hg2 : g2 < g := by rw [HG.out]; exact HV.out.1 g2 rfl
    obtain ⟨a, ha⟩ : ∃ a, a = x / 2 ^ s := ⟨_, rfl⟩
    have hab : a < BB := by rw [ha]; exact Nat.lt_of_le_of_lt (Nat.div_le_self _ _) hxb
    have F1 : (x : Int) / 2 ^ s = (a : Int) := by rw [ha, Int.natCast_ediv, Int.natCast_pow]; rfl
    have HS := Lib.hid (HM.out.set k hab)
    have HA := Lib.hid ha
    have HX1 := Lib.hid hx
    have hi0 : (0 : Int) ≤ (k : Int) := Int.natCast_nonneg _
    have hi1 : (k : Int) < (n : Int) := by omega
    have hi2 : (k : Int) < (xs.length : Int) := by omega
    have HSH := Lib.hid hsh
    clear hsh hx hxb ha hab hz
    by_cases hin : k + 1 < n
    ·obtain ⟨y, hy⟩ : ∃ y, X[k + 1]? = some y := ⟨_, List.getElem?_eq_getElem (by rw [← HN.out]; exact hin)⟩
     obtain ⟨g3, o3, e, e6⟩ := HSH.out (k + 1) y (HXX.out (k + 1) y hy)
     cases e
     obtain ⟨b, hb⟩ : ∃ b, b = y * 2 ^ t % BB := ⟨_, rfl⟩
     have F2 : IntKind.u64.wrap ((y : Int) * 2 ^ t) = (b : Int) := by
      have e : ((y : Int) * 2 ^ t) = ((y * 2 ^ t : Nat) : Int) := by rw [Int.natCast_mul, Int.natCast_pow]; rfl
      rw [e, IntKind.wrap_u64, hb]; rfl
     obtain ⟨h1, h2, h3⟩ := shrW_lt (i := k) HOKX.out hst
     have hg0 : X.getD k 0 = x := by rw [List.getD_eq_getElem?_getD, HX1.out]; rfl
     have hg1 : X.getD (k + 1) 0 = y := by rw [List.getD_eq_getElem?_getD, hy]; rfl
     have hsw : shrW X s t k = a + b := by unfold shrW; rw [hg0, hg1, ← HA.out, ← hb]
     rw [hg0, ← HA.out] at h2
     rw [hg1, ← hb] at h3
     have hbb : b < BB := by rw [hb]; exact Nat.mod_lt _ BB_pos
     have hab : a < BB := Nat.lt_of_le_of_lt (Nat.le_add_right a b) (by rw [← hsw]; exact h1)
     have F3 : bits BinOp.or IntKind.u64 (a : Int) (b : Int) = ((a + b : Nat) : Int) := or_join' b a t hbb h3 h2 hab
     obtain ⟨c, hc⟩ : ∃ c, c = a + b := ⟨_, rfl⟩
     rw [← hc] at F3 hsw
     rw [hsw] at h1
     have e7 : (wr.setCell ⟨g, k, none⟩ (.int .u64 (a : Nat))).cell? ⟨g, k, none⟩ = some (.int .u64 (a : Nat)) := HS.out.1.cell (by rw [List.getElem?_set_self (by rw [HML.out]; exact hlt)])
     have e8 : (wr.setCell ⟨g, k, none⟩ (.int .u64 (a : Nat))).frozen? ⟨g, k, none⟩ = false := HS.out.1.frozen k
     have e9 : (wr.setCell ⟨g, k, none⟩ (.int .u64 (a : Nat))).cell? ⟨g2, o2 + (k + 1), none⟩ = some (.int .u64 (y : Nat)) := HS.out.2.cell e6 (by simp; omega)
     have HS2 := Lib.hid (Blk.set (w := (wr.setCell ⟨g, k, none⟩ (.int .u64 (a : Nat))).drewN 1) HS.out.1 k h1)
     have HSW := Lib.hid hsw
     have hi3 : (k : Int) + 1 < (n : Int) := by omega
     have hi4 : (k : Int) + 1 < (xs.length : Int) := by omega
     clear hy hb h1 h2 h3 hg0 hg1 hsw hbb hab hc HSH e6 hg2
     have W1 : IntKind.i64.wrap (k : Int) = (k : Int) := IntWalk.i64_in _ (by omega)
     have W2 : IntKind.i64.wrap ((k : Int) + 1) = (k : Int) + 1 := IntWalk.i64_in _ (by omega)
     have W3 : ((k : Int) + 1).toNat = k + 1 := by omega
     have W4 : (0 : Int) ≤ (k : Int) + 1 := by omega
     go_wp2_with fail
     go_region_law (fail)
     all_goals
      go_wp2_with fail
      have hfin : SrRel X s t n g w1 (.int .i64 ((k : Int) + 1)) (((wr.setCell ⟨g, k, none⟩ (.int .u64 (a : Nat))).drewN 1).setCell ⟨g, k, none⟩ (.int .u64 (c : Nat))) :=
       ⟨k + 1, (M.set k a).set k c, by omega, by go_num, by rw [List.length_set, List.length_set, HML.out], set_keep (f := shrW X s t) (fun i hi => by rw [List.getElem?_set_ne (by omega)]; exact HST.out i hi) (by rw [List.length_set, HML.out]; exact hlt) HSW.out.symm, HS2.out.1, grown_set (grown_set (grown_set HGR.out HS.out.2) (grown_drewN _ 1 _)) HS2.out.2⟩
      exact ⟨hfin, by simp [intOf] <;> omega⟩
    ·have hi3 : ¬ ((k : Int) + 1 < (n : Int)) := by omega
     have hsw : shrW X s t k = a := by
      have hg0 : X.getD k 0 = x := by rw [List.getD_eq_getElem?_getD, HX1.out]; rfl
      have hg1 : X.getD (k + 1) 0 = 0 := by rw [List.getD_eq_getElem?_getD, List.getElem?_eq_none (by rw [← HN.out]; omega)]; rfl
      unfold shrW
      rw [hg0, hg1, ← HA.out]; simp
     have HSW := Lib.hid hsw
     clear hsw HSH
     go_wp2_with fail
     have hfin : SrRel X s t n g w1 (.int .i64 ((k : Int) + 1)) (wr.setCell ⟨g, k, none⟩ (.int .u64 (a : Nat))) :=
      ⟨k + 1, M.set k a, by omega, by go_num, by rw [List.length_set, HML.out], set_keep (f := shrW X s t) HST.out (by rw [HML.out]; exact hlt) HSW.out.symm, HS.out.1, grown_set HGR.out HS.out.2⟩
     exact ⟨hfin, by simp [intOf] <;> omega⟩
   ·obtain rfl : k = n := by omega
    have hF := shr_fin hst (L := X) (M := M) (by rw [HML.out, HN.out]) (fun i hi => HST.out i (by rw [HN.out]; exact hi))
    rw [HVX.out] at hF
    have HF := Lib.hid hF
    have hR := HM.out.whole (by rw [HML.out]; omega)
    rw [HML.out] at hR
    have HR := Lib.hid hR
    have hsl := strip_le M
    rw [HML.out] at hsl
    obtain ⟨m, hm⟩ : ∃ m, m = (strip M).length := ⟨_, rfl⟩
    rw [← hm] at hsl
    have HMM := Lib.hid hm
    have hT := hR.take (n := m) (c := k) (by rw [HML.out]; exact hsl) hsl (Nat.le_refl _)
    rw [hm, ← (strip_take M).1, ← hm] at hT
    have HT := Lib.hid hT
    have hml2 : (strip M).length ≤ xs.length := by omega
    have HML2 := Lib.hid hml2
    clear hF hR hm hT hml2
    go_wp2_with fail
    refine (size_any _ M _ HR.out).mono ?_
    rintro e w' ⟨rfl, rfl⟩
    rw [← HMM.out]
    go_wp2_with fail
    go_ret2
    exact ⟨_, strip M, rfl, ⟨HT.out, fun q hq => by cases hq; exact ⟨by rw [HG.out]; exact Nat.le_refl _, HM.out.lt⟩⟩, by rw [val_strip, HF.out], HML2.out, strip_strip M, HWB.out⟩
end Go.Proofs.YtceggplnggkdnaaGreatDoor
namespace NatP
abbrev mid (M : List Nat) (o n : Nat) : List Nat := (M.drop o).take n
theorem mid_succ {M : List Nat} {o n z : Nat} (h : M[o + n]? = some z) : val (mid M o (n + 1)) = val (mid M o n) + BB ^ n * z := by
 have hlt : o + n < M.length := (List.getElem?_eq_some_iff.1 h).1
 have h2 : n < (M.drop o).length := by rw [List.length_drop]; omega
 rw [mid, val_take_succ h2]
 have h3 := List.getElem?_eq_getElem h2
 rw [List.getElem?_drop, h] at h3
 rw [← Option.some.inj h3]
theorem drop_val {l : List Nat} {k x : Nat} (h : l[k]? = some x) : val (l.drop k) = x + BB * val (l.drop (k + 1)) := by
 have hlt : k < l.length := (List.getElem?_eq_some_iff.1 h).1
 rw [List.drop_eq_getElem_cons hlt]
 have := List.getElem?_eq_getElem hlt
 rw [h] at this
 rw [← Option.some.inj this]; rfl
theorem mid_cons {M : List Nat} {o n z : Nat} (h : M[o]? = some z) : val (mid M o (n + 1)) = z + BB * val (mid M (o + 1) n) := by
 have hlt : o < M.length := (List.getElem?_eq_some_iff.1 h).1
 unfold mid
 rw [List.drop_eq_getElem_cons hlt]
 have := List.getElem?_eq_getElem hlt
 rw [h] at this
 rw [← Option.some.inj this]; rfl
theorem mid_lt {M : List Nat} (hM : ok M) (o n : Nat) (h : o + n ≤ M.length) : val (mid M o n) < BB ^ n := by
 have := val_lt (ok_take (ok_drop hM o) n)
 rw [List.length_take, List.length_drop, Nat.min_eq_left (by omega)] at this
 exact this
structure LgSt (L V : List Nat) (n k : Nat) (M Q : List Nat) : Prop where
 len : M.length = L.length
 low : M.take k = L.take k
 eq : val (L.drop k) = val (Q.drop k) * val V + val (mid M k n)
 lt : val (mid M k n) < val V
theorem LgSt.at {L V M Q : List Nat} {n k z : Nat} (h : LgSt L V n (k + 1) M Q) (hz : M[k]? = some z) : L[k]? = some z := by
 have := congrArg (fun l => l[k]?) h.low
 simp only [List.getElem?_take, Nat.lt_succ_self, if_true] at this
 rw [← this]; exact hz
theorem lg_guess {L V M Q : List Nat} {n k z u2 u1 u0 v1 v0 : Nat} (h : LgSt L V (n + 2) (k + 1) M Q) (hM : ok M) (hV : ok V) (hVl : V.length = n + 2) (hml : k + (n + 2) < M.length) (hz : M[k]? = some z)
  (h2 : M[k + n + 2]? = some u2) (h1 : M[k + n + 1]? = some u1) (h0 : M[k + n]? = some u0) (g1 : V[n + 1]? = some v1) (g0 : V[n]? = some v0) (hv1 : 0 < v1) :
  val (mid M k (n + 3)) < val V * BB ∧ u2 ≤ v1 ∧
  val (mid M k (n + 3)) / val V ≤ gq ((u2 * BB + u1) * BB + u0) (v1 * BB + v0) ∧ gq ((u2 * BB + u1) * BB + u0) (v1 * BB + v0) ≤ val (mid M k (n + 3)) / val V + 1 := by
 have e1 := mid_cons (n := n + 2) hz
 have hzb : z < BB := hM z (List.mem_of_getElem? hz)
 have hlt := h.lt
 have hU : val (mid M k (n + 3)) < val V * BB := by
  rw [e1]
  have : (val (mid M (k + 1) (n + 2)) + 1) * BB ≤ val V * BB := Nat.mul_le_mul_right _ hlt
  rw [Nat.add_mul, Nat.one_mul, Nat.mul_comm _ BB] at this
  omega
 have e2 : val (mid M k (n + 3)) = val (mid M k n) + BB ^ n * (u0 + BB * (u1 + BB * u2)) := by
  rw [mid_succ (by rw [show k + (n + 2) = k + n + 2 from rfl]; exact h2), mid_succ (by rw [show k + (n + 1) = k + n + 1 from rfl]; exact h1), mid_succ h0, Nat.pow_succ, Nat.pow_succ]
  simp only [Nat.mul_add, Nat.mul_assoc, Nat.add_assoc, Nat.pow_succ]
 have e3 : val V = val (V.take n) + BB ^ n * (v0 + BB * v1) := by
  have a := val_split V n (by omega)
  rw [drop_val g0, drop_val g1, List.drop_eq_nil_of_le (by omega)] at a
  simpa [val] using a
 have hlow : val (mid M k n) < BB ^ n := mid_lt hM k n (by omega)
 have hlowV : val (V.take n) < BB ^ n := by
  have := val_lt (ok_take hV n)
  rw [List.length_take, Nat.min_eq_left (by omega)] at this
  exact this
 have e2' : val (mid M k (n + 3)) = ((u2 * BB + u1) * BB + u0) * BB ^ n + val (mid M k n) := by
  rw [e2, Nat.mul_comm (BB ^ n), show u0 + BB * (u1 + BB * u2) = (u2 * BB + u1) * BB + u0 from by rw [Nat.mul_comm BB (u1 + BB * u2), Nat.mul_comm BB u2, Nat.add_comm u1, Nat.add_comm]]
  omega
 have e3' : val V = (v1 * BB + v0) * BB ^ n + val (V.take n) := by
  rw [e3, Nat.mul_comm (BB ^ n), show v0 + BB * v1 = v1 * BB + v0 from by rw [Nat.mul_comm BB v1]; omega]
  omega
 have hv2 : BB ≤ v1 * BB + v0 := by
  have := Nat.mul_le_mul_right BB hv1
  omega
 refine ⟨hU, ?_, gq_right e2' hlow e3' hlowV hU hv2⟩
 refine Nat.le_of_not_lt fun hgt => ?_
 have h3 : (v1 + 1) * BB ≤ u2 * BB := Nat.mul_le_mul_right _ hgt
 have h4 : (v1 * BB + v0 + 1) * BB ≤ ((u2 * BB + u1) * BB + u0) := by
  rw [Nat.add_mul, Nat.one_mul] at h3
  have hv0b := hV v0 (List.mem_of_getElem? g0)
  have : (v1 * BB + v0 + 1) * BB ≤ (u2 * BB + u1) * BB := Nat.mul_le_mul_right _ (by omega)
  omega
 have h5 : (v1 * BB + v0 + 1) * BB * BB ^ n ≤ ((u2 * BB + u1) * BB + u0) * BB ^ n := Nat.mul_le_mul_right _ h4
 have h6 : val V * BB ≤ (v1 * BB + v0 + 1) * BB * BB ^ n := by
  rw [e3', Nat.mul_right_comm]
  refine Nat.mul_le_mul_right _ ?_
  rw [Nat.add_mul (v1 * BB + v0), Nat.one_mul]; omega
 omega
theorem mid_short {M : List Nat} {o n R : Nat} (hM : ok M) (hl : o + n < M.length) (hv : val (mid M o (n + 1)) = R) (hR : R < BB ^ n) : val (mid M o n) = R := by
 obtain ⟨z, hz⟩ : ∃ z, M[o + n]? = some z := ⟨_, List.getElem?_eq_getElem hl⟩
 rw [mid_succ hz] at hv
 have : z = 0 := by
  refine Nat.eq_zero_of_not_pos fun hp => ?_
  have := Nat.mul_le_mul_left (BB ^ n) hp
  omega
 subst this
 simpa using hv
theorem LgSt.step {L V M M' Q : List Nat} {n k z d : Nat} (h : LgSt L V n (k + 1) M Q) (hV : ok V) (hVl : V.length = n) (hM' : ok M') (hl : M'.length = M.length) (hml : k + n < M.length) (hz : M[k]? = some z) (hk : k < Q.length)
  (hlow : M'.take k = M.take k) (hd : d = val (mid M k (n + 1)) / val V) (hR : val (mid M' k (n + 1)) = val (mid M k (n + 1)) % val V) : LgSt L V n k M' (Q.set k d) := by
 have hL := h.at hz
 have hVp : 0 < val V := Nat.lt_of_le_of_lt (Nat.zero_le _) h.lt
 have hRlt := Nat.mod_lt (val (mid M k (n + 1))) hVp
 have hVb : val V < BB ^ n := by rw [← hVl]; exact val_lt hV
 have hs := mid_short hM' (by omega) hR (Nat.lt_trans hRlt hVb)
 refine ⟨by rw [hl, h.len], ?_, ?_, by rw [hs]; exact hRlt⟩
 ·rw [hlow]
  have := congrArg (List.take k) h.low
  rw [List.take_take, List.take_take, Nat.min_eq_left (Nat.le_succ k)] at this
  exact this
 ·have e1 : (Q.set k d)[k]? = some d := by rw [List.getElem?_set_self hk]
  rw [drop_val hL, h.eq, drop_val e1, set_drop, hs]
  have e2 := mid_cons (n := n) hz
  have hdm := Nat.div_add_mod (val (mid M k (n + 1))) (val V)
  rw [← hd] at hdm
  generalize val (mid M k (n + 1)) % val V = R' at *
  generalize val (mid M k (n + 1)) = U at *
  generalize val (mid M (k + 1) n) = R at *
  generalize val (List.drop (k + 1) Q) = q at *
  generalize val V = v at *
  rw [Nat.mul_add, Nat.add_mul, Nat.mul_comm v d] at *
  rw [Nat.mul_assoc]
  omega
theorem lg_back {M1 M2 : List Nat} {k n U V g c : Nat} (hM1 : ok M1) (hM2 : ok M2) (hl1 : k + (n + 1) ≤ M1.length) (hl2 : k + (n + 1) ≤ M2.length) (h1 : U / V ≤ g) (h2 : g ≤ U / V + 1) (hV : 0 < V) (hVT : V < BB ^ (n + 1)) (ht : U + BB ^ (n + 1) * 1 = val (mid M1 k (n + 1)) + g * V)
  (hg : val (mid M2 k (n + 1)) + BB ^ (n + 1) * c = val (mid M1 k (n + 1)) + V) : g - 1 = U / V ∧ val (mid M2 k (n + 1)) = U % V := by
 have hR := mid_lt hM1 k (n + 1) hl1
 have hR2 := mid_lt hM2 k (n + 1) hl2
 rw [Nat.mul_one] at ht
 obtain ⟨a, b⟩ := word_back h1 h2 hV hR ht
 refine ⟨a, ?_⟩
 rw [b] at hg
 have hVlt := Nat.mod_lt U hV
 generalize BB ^ (n + 1) = T at *
 have hc : c = 1 := by
  rcases Nat.lt_trichotomy c 1 with h | h | h
  ·have : c = 0 := by omega
   subst this; omega
  ·exact h
  ·have := Nat.mul_le_mul_left T h
   omega
 subst hc
 omega
theorem LgSt.fin {L V M Q : List Nat} {n : Nat} (h : LgSt L V n 0 M Q) : val Q = val L / val V ∧ val (M.take n) = val L % val V := by
 have h1 := h.eq
 have h2 := h.lt
 unfold mid at h1 h2
 rw [List.drop_zero, List.drop_zero, List.drop_zero] at h1
 rw [List.drop_zero] at h2
 have hV : 0 < val V := by omega
 rw [h1, Nat.mul_comm (val Q)]
 exact ⟨by rw [Nat.mul_add_div hV, Nat.div_eq_of_lt h2, Nat.add_zero], by rw [Nat.mul_add_mod, Nat.mod_eq_of_lt h2]⟩
theorem LgSt.start {L V Q : List Nat} {n k : Nat} (hl : L.length = k + n) (hlt : val (L.drop k) < val V) (hQ : Q.length ≤ k) : LgSt L V n k L Q where
 len := rfl
 low := rfl
 eq := by
  rw [List.drop_eq_nil_of_le hQ]
  have : mid L k n = L.drop k := List.take_of_length_le (by rw [List.length_drop]; omega)
  rw [this]; simp [val]
 lt := by
  have : mid L k n = L.drop k := List.take_of_length_le (by rw [List.length_drop]; omega)
  rw [this]; exact hlt
theorem lg_top {x y S m n k : Nat} {L V : List Nat} (hLv : val L = x * S) (hx : x < BB ^ m) (hLl : L.length = m + 1) (hk : k + n = m + 1) (hV : val V = y * S) (hS : S ≤ 9223372036854775808) (hn : 1 ≤ n) (hVt : 9223372036854775808 * BB ^ (n - 1) ≤ val V) : val (L.drop k) < val V := by
 have h1 := val_split L k (by omega)
 have h2 : BB ^ k * val (L.drop k) ≤ x * S := by omega
 have h3 : x * S < BB ^ m * 9223372036854775808 := by
  have a : x * S ≤ x * 9223372036854775808 := Nat.mul_le_mul_left _ hS
  have b : x * 9223372036854775808 < BB ^ m * 9223372036854775808 := Nat.mul_lt_mul_of_pos_right hx (by omega)
  omega
 have h4 : BB ^ k * (9223372036854775808 * BB ^ (n - 1)) ≤ BB ^ k * val V := Nat.mul_le_mul_left _ hVt
 have h5 : BB ^ k * (9223372036854775808 * BB ^ (n - 1)) = BB ^ m * 9223372036854775808 := by
  rw [Nat.mul_left_comm, ← Nat.pow_add, show k + (n - 1) = m from by omega, Nat.mul_comm]
 exact Nat.lt_of_mul_lt_mul_left (a := BB ^ k) (by omega)
end NatP
namespace Go.Proofs.YtceggplnggkdnaaGreatDoor
open Go.RowKit NatP
def LongPost (a b m n : Nat) (w : World) (e : Ending) (w' : World) : Prop := ∃ v u qs rs, e = .returned (.tuple #[v, u]) ∧ Fr w.heap.size w' v qs ∧ val qs = a / b ∧ qs.length ≤ m ∧ strip qs = qs ∧ Fr w.heap.size w' u rs ∧ val rs = a % b ∧ rs.length ≤ n ∧ strip rs = rs ∧ Below w.heap.size w w'
def LgRel (L V : List Nat) (n nz gv gu gz : Nat) (w : World) (i : Value) (wr : World) : Prop := ∃ (k : Nat) (M Q : List Nat), k ≤ nz ∧ i = .int .i64 ((k : Int) - 1) ∧ Q.length = nz ∧ LgSt L V n k M Q ∧ Blk wr gv V ∧ Blk wr gu M ∧ Blk wr gz Q ∧ Below w.heap.size w wr
theorem shift_top {ys : List Nat} {n top s : Nat} (hok : ok ys) (hl : ys.length = n + 1) (ht : ys[n]? = some top) (h1 : 9223372036854775808 ≤ top * 2 ^ s) (h2 : top * 2 ^ s < 18446744073709551616) (hs : s ≤ 63) :
  val ys * 2 ^ s < BB ^ (n + 1) ∧ 9223372036854775808 * BB ^ n ≤ val ys * 2 ^ s := by
 have e := val_split ys n (by omega)
 rw [drop_val ht, List.drop_eq_nil_of_le (by omega)] at e
 have e0 : val ([] : List Nat) = 0 := rfl
 rw [e0, Nat.mul_zero, Nat.add_zero] at e
 have hlow := val_lt (ok_take hok n)
 rw [List.length_take, Nat.min_eq_left (by omega)] at hlow
 have hps : 0 < 2 ^ s := Nat.pow_pos (by omega)
 constructor
 ·have hT : BB = 2 ^ (64 - s) * 2 ^ s := by rw [← Nat.pow_add, show 64 - s + s = 64 from by omega]; rfl
  have h3 : top < 2 ^ (64 - s) := by
   have h2' : top * 2 ^ s < 2 ^ (64 - s) * 2 ^ s := by rw [← hT]; exact h2
   exact Nat.lt_of_mul_lt_mul_right h2'
  have h4 : val ys < BB ^ n * 2 ^ (64 - s) := by
   have := Nat.mul_le_mul_left (BB ^ n) h3
   rw [Nat.mul_succ] at this
   omega
  have h5 := Nat.mul_lt_mul_of_pos_right h4 hps
  rw [Nat.mul_assoc, ← hT] at h5
  rw [Nat.pow_succ]; exact h5
 ·rw [e, Nat.add_mul, Nat.mul_assoc, Nat.mul_comm _ (BB ^ n)]
  have := Nat.mul_le_mul_left (BB ^ n) h1
  omega
theorem top_word {V : List Nat} {n v1 : Nat} (hok : ok V) (hl : V.length = n + 1) (ht : V[n]? = some v1) (h : 9223372036854775808 * BB ^ n ≤ val V) : 9223372036854775808 ≤ v1 := by
 have e := val_split V n (by omega)
 rw [drop_val ht, List.drop_eq_nil_of_le (by omega)] at e
 have e0 : val ([] : List Nat) = 0 := rfl
 rw [e0, Nat.mul_zero, Nat.add_zero] at e
 have hlow := val_lt (ok_take hok n)
 rw [List.length_take, Nat.min_eq_left (by omega)] at hlow
 refine Nat.le_of_not_lt fun hlt => ?_
 have := Nat.mul_le_mul_left (BB ^ n) hlt
 rw [Nat.mul_succ] at this
 rw [Nat.mul_comm] at h
 omega
set_option maxRecDepth 100000 in
set_option maxHeartbeats 4000000 in
theorem long_any (v u : Value) (xs ys : List Nat) (p : Nat) (w : World) (hv : Rd w v xs) (hu : Rd w u ys) (hyl : ys.length = p + 2) (hys : strip ys = ys) (hlx : ys.length ≤ xs.length) (hl : xs.length ≤ 274877906944) :
  Calls Tryz.prog 542 #[v, u] w (LongPost (val xs) (val ys) (xs.length - ys.length + 1) ys.length w) := by
 have HV := Lib.hid hv
 have HU := Lib.hid hu
 obtain ⟨ao, cap, rfl, hnc, hcm, hok, -⟩ := hv.2
 obtain ⟨bo, cap2, rfl, hnc2, hcm2, hok2, hsh2⟩ := hu.2
 have HOK := Lib.hid hok
 have HOK2 := Lib.hid hok2
 obtain ⟨top, htop, htop0⟩ := strip_last ys (p + 1) (by rw [hys, hyl])
 rw [hys] at htop
 have htb := hok2 top (List.mem_of_getElem? htop)
 obtain ⟨g2, o2, rfl, e1⟩ := hsh2 (p + 1) top htop
 obtain ⟨nb, hnb, hnb1, hnb2, hy2l, hy2h⟩ := shift_facts top (by omega) htb
 obtain ⟨s, hs⟩ : ∃ s, s = 64 - nb := ⟨_, rfl⟩
 rw [← hs] at hy2l hy2h
 have hs63 : s ≤ 63 := by omega
 obtain ⟨n, hn⟩ : ∃ n, n = ys.length := ⟨_, rfl⟩
 obtain ⟨m, hm⟩ : ∃ m, m = xs.length := ⟨_, rfl⟩
 obtain ⟨nz, hnq⟩ : ∃ nz, nz = m - n + 1 := ⟨_, rfl⟩
 obtain ⟨mu, hmu⟩ : ∃ mu, mu = m + 1 := ⟨_, rfl⟩
 have hnp : n = p + 2 := by omega
 have hmn : n ≤ m := by omega
 have hm2 : m ≤ 274877906944 := by omega
 have F0 : (ys.length : Int) = (n : Int) := by omega
 have F0x : (xs.length : Int) = (m : Int) := by omega
 have F1 : (64 - (nb : Int)) = (s : Int) := by omega
 have F1b : IntKind.u64.wrap (s : Int) = (s : Int) := u64_in _ (by omega)
 have F2 : ((n : Int) - 1).toNat = p + 1 := by omega
 have F3 : (m : Int) - (n : Int) = (nz : Int) - 1 := by omega
 have F4 : (m : Int) + 1 = (mu : Int) := by omega
 have hmu2 : mu ≤ 274877906945 := by omega
 obtain ⟨st1, st2⟩ := shift_top hok2 hyl htop hy2l hy2h hs63
 have HST1 : Hid (val ys * 2 ^ s < BB ^ n) := by show _ < _; rw [hnp]; exact st1
 have HST2 : Hid (9223372036854775808 * BB ^ (p + 1) ≤ val ys * 2 ^ s) := st2
 have hxfit : val xs * 2 ^ s < BB ^ (m + 1) := by
  have a := val_lt hok
  rw [← hm] at a
  have b : 2 ^ s < BB := by
   have : 2 ^ s ≤ 2 ^ 63 := Nat.pow_le_pow_right (by omega) hs63
   unfold BB; omega
  rw [Nat.pow_succ]
  exact Nat.mul_lt_mul'' a b
 have HXF := Lib.hid hxfit
 have HS := Lib.hid hs
 have HN := Lib.hid hn
 have HM := Lib.hid hm
 have HNB := Lib.hid hnb
 have HTB := Lib.hid htb
 have HYL := Lib.hid hyl
 have HNQ := Lib.hid hnq
 have HHL := Lib.hid hl
 have HNP := Lib.hid hnp
 have HMU := Lib.hid hmu
 have hn1 : 1 ≤ n := by omega
 have hi1 : (0 : Int) ≤ (n : Int) - 1 := by omega
 have hi2 : (n : Int) - 1 < (n : Int) := by omega
 have HMK := make_words nz (by omega)
 clear hv hu hok hok2 hcm hcm2 hsh2 htop htop0 htb hnb hy2l hy2h hs hyl hys hlx hl hxfit st1 st2 hn hm hnq hnp hmu
 go_enter Tryz.func542, Tryz.ntmps542
 go_wp2_with fail
 refine (Tryz.bits_LeadingZeros64 (top : Int) _ (by omega) (by have := HTB.out; unfold BB at this; omega)).mono ?_
 rintro e w1 ⟨rfl, rfl⟩
 rw [Int.toNat_natCast, HNB.out]
 go_wp2_with fail
 refine (dshifted_any _ ys s n _ HU.out (by omega) (by omega) (by have := HN.out; omega) HST1.out).mono ?_
 rintro e w2 ⟨V, rfl, hB2, hVl, hVv, hb2⟩
 obtain ⟨gv, hgv⟩ : ∃ gv, gv = w1.heap.size := ⟨_, rfl⟩
 rw [← hgv] at hB2 ⊢
 have hlv1 : gv < w2.heap.size := hB2.lt
 have hgvB : w1.heap.size ≤ gv := by omega
 have HGV := Lib.hid hgv
 clear hgv
 go_wp2_with fail
 refine (dshifted_any _ xs s mu _ (HV.out.below hb2) (by omega) (by omega) (by have := HM.out; have := HMU.out; omega) (by rw [HMU.out]; exact HXF.out)).mono ?_
 rintro e w3 ⟨L, rfl, hB3, hLl, hLv, hb3⟩
 obtain ⟨gu, hgu⟩ : ∃ gu, gu = w2.heap.size := ⟨_, rfl⟩
 rw [← hgu] at hB3 ⊢
 have hlvu : gv < gu := by omega
 have hguB : w1.heap.size ≤ gu := by have := hb2.size; omega
 have hlu1 : gu < w3.heap.size := hB3.lt
 have HGU := Lib.hid hgu
 clear hgu
 obtain ⟨gz, hgz⟩ : ∃ gz, gz = w3.heap.size := ⟨_, rfl⟩
 have hluz : gu < gz := by omega
 have HBA : Hid (Below w1.heap.size w1 w3) := hb2.trans (hb3.mono hb2.size)
 have hz1 := HBA.out.size
 have HBV3 : Hid (Blk w3 gv V) := hB2.below hb3 hB2.lt
 have HBU3 := Lib.hid hB3
 have HGZ := Lib.hid hgz
 have HVL := Lib.hid hVl
 have HVV := Lib.hid hVv
 have HLL := Lib.hid hLl
 have HLV := Lib.hid hLv
 have hgzB : w1.heap.size ≤ gz := by omega
 clear hB2 hVl hVv hb2 hB3 hLl hLv hb3 hgz
 go_wp2_with fail
 rw [← HGZ.out]
 obtain ⟨w4, hw4⟩ : ∃ w4, w4 = w3.alloc (.cells (madeCells #[.int .u64 0] nz) 215) := ⟨_, rfl⟩
 have ha := below_alloc w3 (.cells (madeCells #[.int .u64 0] nz) 215)
 rw [← hw4] at ha
 have HB4 : Hid (LgRel L V n nz gv gu gz w1 (.int .i64 ((nz : Int) - 1)) w4) := by
  refine ⟨nz, L, List.replicate nz 0, Nat.le_refl _, rfl, List.length_replicate, ?_, HBV3.out.below ha HBV3.out.lt, HBU3.out.below ha HBU3.out.lt, ?_, HBA.out.trans (ha.mono hz1)⟩
  ·have hk : nz + n = m + 1 := by have := HNQ.out; omega
   have hmu := HMU.out
   refine LgSt.start (by rw [HLL.out, hmu]; omega) ?_ (by rw [List.length_replicate]; exact Nat.le_refl _)
   have hx := val_lt HOK.out
   rw [← HM.out] at hx
   have hS : 2 ^ s ≤ 9223372036854775808 := by
    have : 2 ^ s ≤ 2 ^ 63 := Nat.pow_le_pow_right (by omega) hs63
    exact this
   exact lg_top (n := n) HLV.out hx (HLL.out.trans hmu) hk HVV.out hS hn1 (by rw [show n - 1 = p + 1 from by have := HNP.out; omega, HVV.out]; exact HST2.out)
  ·rw [hw4, HGZ.out]; exact Blk.made w3 nz
 rw [← hw4]
 clear hw4 ha
 have HF2 := Lib.hid F2
 have HF3 := Lib.hid F3
 have HF1 := Lib.hid F1
 clear F2 F1 F3 F4 e1
 go_loopw [11] (fun i wr => LgRel L V n nz gv gu gz w1 i wr) (fun i _ => (intOf i + 1).toNat)
 case atStart => exact HB4.out
 clear HB4
 case round =>
  obtain ⟨k, M, Q, hk, rfl, hQl, hst, hBV, hBU, hBQ, hbl⟩ := hrel
  have HST := Lib.hid hst
  have HBV := Lib.hid hBV
  have HBU := Lib.hid hBU
  have HBQ := Lib.hid hBQ
  have HBL := Lib.hid hbl
  have HQL := Lib.hid hQl
  have hml : M.length = mu := by rw [hst.len, HLL.out]
  have HML := Lib.hid hml
  clear hst hBV hBU hBQ hbl hQl hml
  cases k with
  | zero =>
   have hge : ¬ ((0 : Int) ≤ ((0 : Nat) : Int) - 1) := by omega
   obtain ⟨r1, r2⟩ := HST.out.fin
   have hnz : nz ≤ 1099511627776 := by have := HNQ.out; omega
   have hS : 0 < 2 ^ s := Nat.pow_pos (by omega)
   obtain ⟨b1, b2⟩ := shift_back (N := val xs) (y := val ys) hS
   have HQV : Hid (val Q = val xs / val ys) := by show _ = _; rw [r1, HLV.out, HVV.out, ← b1]
   have HRV : Hid (val (M.take n) / 2 ^ s = val xs % val ys) := by show _ = _; rw [r2, HLV.out, HVV.out, ← b2]
   have hnm : n ≤ mu := by have := HMU.out; omega
   have hRM := (HBU.out.whole (by rw [HML.out]; omega))
   rw [HML.out] at hRM
   have HRM := Lib.hid (hRM.take (n := n) (c := mu) (by rw [HML.out]; exact hnm) hnm (Nat.le_refl _))
   have hRQ := (HBQ.out.whole (by rw [HQL.out]; omega))
   rw [HQL.out] at hRQ
   have HRQ := Lib.hid hRQ
   clear r1 r2 b1 b2 hS hRM hRQ
   have i0 : (0 : Int) ≤ (n : Int) := Int.natCast_nonneg _
   have i1 : (n : Int) ≤ (mu : Int) := by omega
   go_wp2_with fail
   refine (shr_any _ (M.take n) s _ HRM.out (by omega) (by rw [List.length_take, HML.out]; omega)).mono ?_
   rintro e w5 ⟨rv, rs, rfl, q1, q2, q3, q4, q5⟩
   have HBL5 : Hid (Below w1.heap.size w1 w5) := HBL.out.trans (q5.mono HBL.out.size)
   have hz5 := HBL.out.size
   have hz6 := HBL5.out.size
   have HRQ5 := Lib.hid (HRQ.out.below q5)
   have Q1 := Lib.hid q1
   have Q2 : Hid (val rs = val xs % val ys) := by show _ = _; rw [q2, HRV.out]
   have Q3 : Hid (rs.length ≤ ys.length) := by show _ ≤ _; rw [List.length_take] at q3; have := HN.out; omega
   have Q4 := Lib.hid q4
   clear q1 q2 q3 q4 q5
   go_wp2_with fail
   refine (least_any _ Q _ HRQ5.out (by rw [HQL.out]; omega)).mono ?_
   rintro e w6 ⟨qv, rfl, p1, p2⟩
   have P1 := Lib.hid p1
   have P2 := Lib.hid p2
   clear p1 p2
   go_wp2_with fail
   go_ret2
   have hsq := strip_le Q
   have hQl := HQL.out
   refine ⟨_, _, strip Q, rs, rfl, P1.out.mono hz6, by rw [val_strip, HQV.out], by have := HNQ.out; have := HM.out; have := HN.out; omega, strip_strip Q, (Q1.out.mono hz5).below P2.out, Q2.out, Q3.out, Q4.out, HBL5.out.trans (P2.out.mono hz6)⟩
  | succ k =>
   have hkk : (((k + 1 : Nat) : Int) - 1) = (k : Int) := by omega
   rw [hkk]
   clear hkk
   have hkn : k + n ≤ m := by have := HNQ.out; omega
   have hnp := HNP.out
   have hVlen := HVL.out
   have hMlen := HML.out
   have hmu := HMU.out
   obtain ⟨z, hz⟩ : ∃ z, M[k]? = some z := ⟨_, List.getElem?_eq_getElem (by omega)⟩
   obtain ⟨u2, h2⟩ : ∃ u2, M[k + p + 2]? = some u2 := ⟨_, List.getElem?_eq_getElem (by omega)⟩
   obtain ⟨u1, h1⟩ : ∃ u1, M[k + p + 1]? = some u1 := ⟨_, List.getElem?_eq_getElem (by omega)⟩
   obtain ⟨u0, h0⟩ : ∃ u0, M[k + p]? = some u0 := ⟨_, List.getElem?_eq_getElem (by omega)⟩
   obtain ⟨v1, k1⟩ : ∃ v1, V[p + 1]? = some v1 := ⟨_, List.getElem?_eq_getElem (by omega)⟩
   obtain ⟨v0, k0⟩ : ∃ v0, V[p]? = some v0 := ⟨_, List.getElem?_eq_getElem (by omega)⟩
   have hu2b := HBU.out.2 u2 (List.mem_of_getElem? h2)
   have hu1b := HBU.out.2 u1 (List.mem_of_getElem? h1)
   have hu0b := HBU.out.2 u0 (List.mem_of_getElem? h0)
   have hv1b := HBV.out.2 v1 (List.mem_of_getElem? k1)
   have hv0b := HBV.out.2 v0 (List.mem_of_getElem? k0)
   have hv1big := top_word HBV.out.2 (by omega) k1 (by rw [HVV.out]; exact HST2.out)
   have hst' : LgSt L V (p + 2) (k + 1) M Q := by have := HST.out; rw [hnp] at this; exact this
   obtain ⟨G1, G2, G3, G4⟩ := lg_guess hst' HBU.out.2 HBV.out.2 (by omega) (by omega) hz h2 h1 h0 k1 k0 (by omega)
   obtain ⟨d, hd⟩ : ∃ d, d = gq ((u2 * BB + u1) * BB + u0) (v1 * BB + v0) := ⟨_, rfl⟩
   have hdb : d < BB := by rw [hd]; exact Nat.lt_of_le_of_lt (Nat.min_le_left _ _) (Nat.sub_lt BB_pos Nat.one_pos)
   rw [← hd] at G3 G4
   obtain ⟨U, hU⟩ : ∃ U, U = val (mid M k (n + 1)) := ⟨_, rfl⟩
   have hU' : val (mid M k (p + 3)) = U := by rw [hU, hnp]
   rw [hU'] at G1 G3 G4
   obtain ⟨a2, ha2⟩ : ∃ a2, a2 = k + n := ⟨_, rfl⟩
   obtain ⟨a1, ha1⟩ : ∃ a1, a1 = k + p + 1 := ⟨_, rfl⟩
   obtain ⟨a0, ha0⟩ : ∃ a0, a0 = k + p := ⟨_, rfl⟩
   obtain ⟨n1, hn1'⟩ : ∃ n1, n1 = p + 1 := ⟨_, rfl⟩
   have S1 : IntKind.i64.wrap ((k : Int) + (n : Int)) = (a2 : Int) := by rw [IntWalk.i64_in _ (by omega)]; omega
   have S1' : (k : Int) + (n : Int) = (a2 : Int) := by omega
   have S0 : IntKind.i64.wrap (a2 : Int) = (a2 : Int) := IntWalk.i64_in _ (by omega)
   obtain ⟨a3, ha3⟩ : ∃ a3, a3 = a2 + 1 := ⟨_, rfl⟩
   have S6 : (a2 : Int) + 1 = (a3 : Int) := by omega
   have S2 : IntKind.i64.wrap ((a2 : Int) - 1) = (a1 : Int) := by rw [IntWalk.i64_in _ (by omega)]; omega
   have S3 : IntKind.i64.wrap ((a2 : Int) - 2) = (a0 : Int) := by rw [IntWalk.i64_in _ (by omega)]; omega
   have S4 : IntKind.i64.wrap ((n : Int) - 1) = (n1 : Int) := by rw [IntWalk.i64_in _ (by omega)]; omega
   have S5 : IntKind.i64.wrap ((n : Int) - 2) = (p : Int) := by rw [IntWalk.i64_in _ (by omega)]; omega
   have c2 := HBU.out.cell (show M[a2]? = some u2 by rw [ha2, hnp]; exact h2)
   have c1 := HBU.out.cell (show M[a1]? = some u1 by rw [ha1]; exact h1)
   have c0 := HBU.out.cell (show M[a0]? = some u0 by rw [ha0]; exact h0)
   have d1 := HBV.out.cell (show V[n1]? = some v1 by rw [hn1']; exact k1)
   have d0 := HBV.out.cell k0
   have b0 : (0 : Int) ≤ (k : Int) := Int.natCast_nonneg _
   have b1 : (0 : Int) ≤ (a2 : Int) := Int.natCast_nonneg _
   have b2 : (a2 : Int) < (mu : Int) := by omega
   have b3 : (0 : Int) ≤ (a1 : Int) := Int.natCast_nonneg _
   have b4 : (a1 : Int) < (mu : Int) := by omega
   have b5 : (0 : Int) ≤ (a0 : Int) := Int.natCast_nonneg _
   have b6 : (a0 : Int) < (mu : Int) := by omega
   have b7 : (0 : Int) ≤ (n1 : Int) := Int.natCast_nonneg _
   have b8 : (n1 : Int) < (n : Int) := by omega
   have b9 : (0 : Int) ≤ (p : Int) := Int.natCast_nonneg _
   have b10 : (p : Int) < (n : Int) := by omega
   have HGUESS : Hid (∀ w0 : World, Calls Tryz.prog 582 #[.int .u64 (u2 : Nat), .int .u64 (u1 : Nat), .int .u64 (u0 : Nat), .int .u64 (v1 : Nat), .int .u64 (v0 : Nat)] w0 (GuessPost d w0)) := fun w0 => by rw [hd]; exact guess_any u2 u1 u0 v1 v0 w0 G2 hu1b hu0b (by omega) hv1b hv0b
   have HD := Lib.hid hd
   have HDB := Lib.hid hdb
   have HU1 := Lib.hid hU
   have HG1 := Lib.hid G1
   have HG3 := Lib.hid G3
   have HG4 := Lib.hid G4
   have HZ := Lib.hid hz
   have hA2 : a2 ≤ m := by omega
   have HA2 := Lib.hid ha2
   have HA3 := Lib.hid ha3
   have hA3 : a3 ≤ mu := by omega
   clear hmu ha3 hnp hVlen hMlen hz h2 h1 h0 k1 k0 hu2b hu1b hu0b hv1b hv0b hv1big hst' G1 G2 G3 G4 hd hdb hU hU' ha2 ha1 ha0 hn1'
   go_wp2_with fail
   go_quiet ((go_at_call 582; exact Calls.quiet_of (HGUESS.out _)))
   go_wp2_with fail
   obtain ⟨wg, hwg⟩ : ∃ wg, wg = wr.drewN nq := ⟨_, rfl⟩
   rw [← hwg]
   have hbg : Below wr.heap.size wr wg := by rw [hwg]; exact below_drewN' wr nq
   have HWG := Lib.hid hwg
   clear hwg
   have HBV2 : Hid (Blk wg gv V) := HBV.out.below hbg HBV.out.lt
   have HBU2 : Hid (Blk wg gu M) := HBU.out.below hbg HBU.out.lt
   have HBQ2 : Hid (Blk wg gz Q) := HBQ.out.below hbg HBQ.out.lt
   have HBL2 : Hid (Below w1.heap.size w1 wg) := HBL.out.trans (hbg.mono HBL.out.size)
   have hsz2 := HBL2.out.size
   have e3 : a3 - k = V.length + 1 := by have := HVL.out; have := HA3.out; have := HA2.out; omega
   have HRV := Lib.hid (HBV2.out.whole (by rw [HVL.out]; omega))
   rw [HVL.out] at HRV
   rw [e3]
   clear c2 c1 c0 d1 d0 hbg
   refine (take_any gu k (mu - k) d M V _ wg HBU2.out (by rw [HVL.out, HML.out]; have := HA3.out; have := HA2.out; omega) (by rw [HVL.out]; have := HA3.out; have := HA2.out; omega) (by rw [HML.out]; omega) HRV.out (by simp [Value.ownBlock] <;> omega) HDB.out).mono ?_
   rintro e w5 ⟨lent, M1, rfl, hlent, hB5, l1, l2, l3, heq, hgr⟩
   rw [HVL.out] at l3 heq
   have HEQ := Lib.hid heq
   have HB5 := Lib.hid hB5
   have HL1 := Lib.hid l1
   have HL2 := Lib.hid l2
   have HGR := Lib.hid hgr
   have HBV5 : Hid (Blk w5 gv V) := HBV2.out.kept hgr (by simp <;> omega)
   have HBQ5 : Hid (Blk w5 gz Q) := HBQ2.out.kept hgr (by simp <;> omega)
   have HBL5 : Hid (Below w1.heap.size w1 w5) := Below.grown HBL2.out hgr hsz2 (fun q hq => by cases hq; exact hguB)
   clear heq hB5 l1 l2 l3 hgr
   obtain ⟨q0, hq0⟩ : ∃ q0, Q[k]? = some q0 := ⟨_, List.getElem?_eq_getElem (by rw [HQL.out]; omega)⟩
   have i0 : (k : Int) < (nz : Int) := by omega
   by_cases hl0 : lent = 0
   ·have hlb : decide (lent ≠ 0) = false := by simp [hl0]
    obtain ⟨r1, r2⟩ := word_fit HG3.out (Nat.lt_of_le_of_lt (Nat.zero_le _) HST.out.lt) (by rw [← HU1.out] at HEQ; exact HEQ.out) hl0
    have HSTN := Lib.hid (HST.out.step (d := d) HBV.out.2 HVL.out HB5.out.2 HL1.out (by rw [HML.out]; have := HA3.out; have := HA2.out; omega) HZ.out (by rw [HQL.out]; omega) HL2.out (by rw [← HU1.out]; exact r1) (by rw [← HU1.out]; exact r2))
    have e4 := HBQ5.out.cell hq0
    have e5 := HBQ5.out.frozen k
    have HSQ := Lib.hid (HBQ5.out.set k HDB.out)
    clear r1 r2 hq0 hl0
    rw [hlb]
    clear hlb
    go_wp2_with fail
    have hfin : LgRel L V n nz gv gu gz w1 (.int .i64 ((k : Int) - 1)) (w5.setCell ⟨gz, k, none⟩ (.int .u64 (d : Nat))) :=
     ⟨k, M1, Q.set k d, by omega, rfl, by rw [List.length_set, HQL.out], HSTN.out, HBV5.out.kept HSQ.out.2 (by simp <;> omega), HB5.out.kept HSQ.out.2 (by simp <;> omega), HSQ.out.1, Below.grown HBL5.out HSQ.out.2 HBL5.out.size (fun q hq => by cases hq; exact hgzB)⟩
    exact ⟨hfin, by simp [intOf] <;> omega⟩
   ·have hl1 : lent = 1 := by omega
    have hlb : decide (lent ≠ 0) = true := by simp [hl0]
    have HEQ1 : Hid (U + BB ^ (n + 1) * 1 = val (mid M1 k (n + 1)) + d * val V) := by
     show _ = _
     have h := HEQ.out
     rw [hl1] at h
     rw [HU1.out]; exact h
    rw [hlb]
    clear hlb hl1 hl0 HEQ
    have hd0 : 0 < d := by
     refine Nat.pos_of_ne_zero fun h0 => ?_
     have h1 := HEQ1.out
     have h2 := mid_lt HB5.out.2 k (n + 1) (by rw [HL1.out, HML.out]; have := HA3.out; have := HA2.out; omega)
     rw [h0, Nat.zero_mul] at h1
     omega
    obtain ⟨d', hd'⟩ : ∃ d', d' = d - 1 := ⟨_, rfl⟩
    have W1 : IntKind.u64.wrap ((d : Int) - 1) = (d' : Int) := by have := HDB.out; unfold BB at this; rw [IntKind.wrap_u64]; omega
    have hdb' : d' < BB := by have := HDB.out; omega
    have HDB' := Lib.hid hdb'
    have HD' := Lib.hid hd'
    clear hdb' hd' hd0
    go_wp2_with fail
    have HRV5 := Lib.hid (HBV5.out.whole (by rw [HVL.out]; omega))
    rw [HVL.out] at HRV5
    refine (give_any gu k (mu - k) M1 V _ w5 HB5.out (by rw [HVL.out, HL1.out, HML.out]; have := HA3.out; have := HA2.out; omega) (by rw [HVL.out]; have := HA3.out; have := HA2.out; omega) (by rw [HL1.out, HML.out]; omega) HRV5.out (by simp [Value.ownBlock] <;> omega)).mono ?_
    rintro e w6 ⟨cg, M2, rfl, hB6, l1, l2, l3, heq, hgr⟩
    rw [HVL.out] at l3 heq
    have hVP : 0 < val V := Nat.lt_of_le_of_lt (Nat.zero_le _) HST.out.lt
    have hVT : val V < BB ^ (n + 1) := Nat.lt_of_lt_of_le (val_lt HBV.out.2) (Nat.pow_le_pow_right BB_pos (by rw [HVL.out]; omega))
    obtain ⟨r1, r2⟩ := lg_back HB5.out.2 hB6.2 (by rw [HL1.out, HML.out]; have := HA3.out; have := HA2.out; omega) (by rw [l1, HL1.out, HML.out]; have := HA3.out; have := HA2.out; omega) HG3.out HG4.out hVP hVT HEQ1.out heq
    have HSTN := Lib.hid (HST.out.step (d := d') HBV.out.2 HVL.out hB6.2 (l1.trans HL1.out) (by rw [HML.out]; have := HA3.out; have := HA2.out; omega) HZ.out (by rw [HQL.out]; omega) (by rw [← HL2.out]; exact l2) (by rw [← HU1.out, HD'.out]; exact r1) (by rw [← HU1.out]; exact r2))
    have HB6 := Lib.hid hB6
    have HBV6 : Hid (Blk w6 gv V) := HBV5.out.kept hgr (by simp <;> omega)
    have HBQ6 : Hid (Blk w6 gz Q) := HBQ5.out.kept hgr (by simp <;> omega)
    have HBL6 : Hid (Below w1.heap.size w1 w6) := Below.grown HBL5.out hgr HBL5.out.size (fun q hq => by cases hq; exact hguB)
    have e4 := HBQ6.out.cell hq0
    have e5 := HBQ6.out.frozen k
    have HSQ := Lib.hid (HBQ6.out.set k HDB'.out)
    clear r1 r2 hq0 hB6 l1 l2 l3 heq hgr hVP hVT
    go_wp2_with fail
    have hfin : LgRel L V n nz gv gu gz w1 (.int .i64 ((k : Int) - 1)) (w6.setCell ⟨gz, k, none⟩ (.int .u64 (d' : Nat))) :=
     ⟨k, M2, Q.set k d', by omega, rfl, by rw [List.length_set, HQL.out], HSTN.out, HBV6.out.kept HSQ.out.2 (by simp <;> omega), HB6.out.kept HSQ.out.2 (by simp <;> omega), HSQ.out.1, Below.grown HBL6.out HSQ.out.2 HBL6.out.size (fun q hq => by cases hq; exact hgzB)⟩
    exact ⟨hfin, by simp [intOf] <;> omega⟩
end Go.Proofs.YtceggplnggkdnaaGreatDoor
namespace Go.Proofs.YtceggplnggkdnaaGreatDoor
open Go.RowKit NatP
def DmPost (a b m n : Nat) (w : World) (e : Ending) (w' : World) : Prop := ∃ v u qs rs, e = .returned (.tuple #[v, u, .int .i64 0]) ∧ Fr w.heap.size w' v qs ∧ val qs = a / b ∧ qs.length ≤ m ∧ strip qs = qs ∧ Fr w.heap.size w' u rs ∧ val rs = a % b ∧ rs.length ≤ n ∧ strip rs = rs ∧ Below w.heap.size w w'
theorem Fr.nil (B : Nat) (w : World) : Fr B w (.slice none 0 0) [] := ⟨Rd.nil w, fun k hk => by cases hk⟩
set_option maxRecDepth 100000 in
set_option maxHeartbeats 4000000 in
theorem divMod_any (v u : Value) (xs ys : List Nat) (w : World) (hv : Rd w v xs) (hu : Rd w u ys) (hl : xs.length ≤ 274877906944) (hl2 : ys.length ≤ 274877906944) (h0 : 0 < val ys) :
  Calls Tryz.prog 471 #[v, u] w (DmPost (val xs) (val ys) xs.length ys.length w) := by
 have HV := Lib.hid hv
 have HU := Lib.hid hu
 have HL := Lib.hid hl
 have HL2 := Lib.hid hl2
 obtain ⟨ao, cap, rfl, hnc, hcm, hok, -⟩ := hv.2
 obtain ⟨bo, cap2, rfl, hnc2, hcm2, hok2, -⟩ := hu.2
 have HOK := Lib.hid hok
 have HOK2 := Lib.hid hok2
 obtain ⟨Y, hY⟩ : ∃ Y, Y = strip ys := ⟨_, rfl⟩
 have hYl : Y.length ≤ ys.length := by rw [hY]; exact strip_le ys
 have hYv : val Y = val ys := by rw [hY, val_strip]
 have hYs : strip Y = Y := by rw [hY, strip_strip]
 have hYok : ok Y := by rw [hY]; exact ok_strip hok2
 have hY0 : Y.length ≠ 0 := fun e => by
  rw [← hYv, List.eq_nil_of_length_eq_zero e] at h0
  simp [val] at h0
 obtain ⟨n, hn⟩ : ∃ n, n = Y.length := ⟨_, rfl⟩
 have HY := Lib.hid hY
 have HYV := Lib.hid hYv
 have HYS := Lib.hid hYs
 have HYOK := Lib.hid hYok
 have HN := Lib.hid hn
 have hn0 : ((n : Int) == 0) = false := by simp; omega
 have H0 := Lib.hid h0
 rw [← hn] at hYl hY0
 clear hv hu hok hok2 hcm hcm2 hl hl2 hY hYv hYs hYok hn h0
 by_cases h1 : n = 1
 ·have h1b : ((n : Int) == 1) = true := by simp [h1]
  obtain ⟨y, hy⟩ : ∃ y, Y[0]? = some y := ⟨_, List.getElem?_eq_getElem (by rw [← HN.out]; omega)⟩
  have hyb := HYOK.out y (List.mem_of_getElem? hy)
  have hYy : val Y = y := by
   rw [← List.drop_zero (l := Y), drop_val hy, List.drop_eq_nil_of_le (by rw [← HN.out]; omega)]
   simp [val]
  have hy0 : 0 < y := by have := H0.out; rw [← HYV.out, hYy] at this; exact this
  have HYY := Lib.hid hYy
  have HYB := Lib.hid hyb
  have HY0 := Lib.hid hy0
  have HYC := Lib.hid hy
  have hn1 : 0 < n := by omega
  clear hy hyb hYy hy0 h1
  go_enter Tryz.func471, Tryz.ntmps471
  go_wp2_with fail
  refine (least_blk _ ys _ HU.out (by have := HL2.out; omega)).mono ?_
  rintro e w1 ⟨rfl, hB, hb⟩
  rw [← HY.out, ← HN.out] at *
  have e1 := hB.cell HYC.out
  have HBL := Lib.hid hb
  have HV1 := Lib.hid (HV.out.below hb)
  have hz1 := hb.size
  clear hB hb
  go_wp2_with fail
  refine (divWord_any _ xs y _ HV1.out (by have := HL.out; omega) HY0.out HYB.out).mono ?_
  rintro e w2 ⟨qv, qs, rfl, q1, q2, q3, q4, q5⟩
  have Q1 := Lib.hid q1
  have Q2 : Hid (val qs = val xs / val ys) := by show _ = _; rw [q2, ← HYV.out, HYY.out]
  have Q3 := Lib.hid q3
  have Q4 := Lib.hid q4
  have HBL2 : Hid (Below w.heap.size w w2) := HBL.out.trans (q5.mono hz1)
  obtain ⟨r, hr⟩ : ∃ r, r = val xs % y := ⟨_, rfl⟩
  rw [← hr]
  have hrb : r < BB := by rw [hr]; exact Nat.lt_trans (Nat.mod_lt _ HY0.out) HYB.out
  have HR : Hid (r = val xs % val ys) := by show _ = _; rw [hr, ← HYV.out, HYY.out]
  have HRW := Lib.hid (rd_word w2 r hrb)
  have hz2 := HBL2.out.size
  have ha := below_alloc w2 (.cells #[.int .u64 (r : Nat)] 215)
  have HA := Lib.hid ha
  clear q1 q2 q3 q4 q5 hr hrb ha
  go_wp2_with fail
  refine (least_any _ [r] _ HRW.out (by simp)).mono ?_
  rintro e w3 ⟨rv, rfl, p1, p2⟩
  have P1 := Lib.hid p1
  have HB3 := Lib.hid (HA.out.trans (p2.mono HA.out.size))
  clear p1 p2
  go_wp2_with fail
  go_ret3
  have hsl := strip_le [r]
  refine ⟨_, _, qs, strip [r], rfl, (Q1.out.mono hz1).below HB3.out, Q2.out, Q3.out, Q4.out, P1.out.mono (Nat.le_trans hz2 HA.out.size), by rw [val_strip, ← HR.out]; simp [val], ?_, strip_strip _, HBL2.out.trans (HB3.out.mono hz2)⟩
  simp only [List.length_cons, List.length_nil] at hsl
  omega
 ·have h1b : ((n : Int) == 1) = false := by simp; omega
  have hn2 : 2 ≤ n := by omega
  obtain ⟨X, hX⟩ : ∃ X, X = strip xs := ⟨_, rfl⟩
  have hXl : X.length ≤ xs.length := by rw [hX]; exact strip_le xs
  have hXv : val X = val xs := by rw [hX, val_strip]
  have hXs : strip X = X := by rw [hX, strip_strip]
  have hXok : ok X := by rw [hX]; exact ok_strip HOK.out
  have HX := Lib.hid hX
  have HXL := Lib.hid hXl
  have HXV := Lib.hid hXv
  have HXS := Lib.hid hXs
  have HXOK := Lib.hid hXok
  clear hX hXl hXv hXs hXok h1
  by_cases hlt : val xs < val ys
  ·have hc : cmpI (val X) (val Y) = -1 := cmpI_lt (by rw [HXV.out, HYV.out]; exact hlt)
   have HC := Lib.hid hc
   have HD : Hid (val xs / val ys = 0 ∧ val xs % val ys = val xs) := ⟨Nat.div_eq_of_lt hlt, Nat.mod_eq_of_lt hlt⟩
   have hXY : X.length ≤ n := by
    refine Nat.le_of_not_lt fun h => ?_
    have := cmp_len (xs := Y) (ys := X) HYOK.out (by rw [HYS.out, HXS.out, ← HN.out]; exact h)
    rw [HXV.out, HYV.out] at this
    omega
   clear hc hlt
   go_enter Tryz.func471, Tryz.ntmps471
   go_wp2_with fail
   refine (least_any _ ys _ HU.out (by have := HL2.out; omega)).mono ?_
   rintro e w1 ⟨yv, rfl, hB, hb⟩
   rw [← HY.out] at hB
   obtain ⟨yo, ycap, rfl, -, -, -, -⟩ := hB.1.2
   have HB := Lib.hid hB
   have HBL := Lib.hid hb
   have HV1 := Lib.hid (HV.out.below hb)
   have hz1 := hb.size
   clear hB hb
   rw [← HN.out]
   go_wp2_with fail
   refine (least_any _ xs _ HV1.out (by have := HL.out; omega)).mono ?_
   rintro e w2 ⟨xv, rfl, hB2, hb2⟩
   rw [← HX.out] at hB2
   have HB2 := Lib.hid hB2
   have HY2 := Lib.hid (HB.out.below hb2)
   have HBL2 : Hid (Below w.heap.size w w2) := HBL.out.trans (hb2.mono hz1)
   have hz2 := HBL2.out.size
   rw [← HN.out] at HY2
   clear hB2 hb2
   go_wp2_with fail
   refine (cmp_any _ _ X Y _ HB2.out.1 HY2.out.1).mono ?_
   rintro e w3 ⟨rfl, hb3⟩
   rw [HC.out]
   have HB3 := Lib.hid hb3
   clear hb3
   go_wp2_with fail
   go_ret3
   exact ⟨_, _, [], X, rfl, Fr.nil _ _, by rw [HD.out.1]; rfl, Nat.zero_le _, rfl, (HB2.out.mono hz1).below HB3.out, by rw [HXV.out, HD.out.2], by omega, HXS.out, HBL2.out.trans (HB3.out.mono hz2)⟩
  ·obtain ⟨c, hc⟩ : ∃ c, c = cmpI (val X) (val Y) := ⟨_, rfl⟩
   have hcb : decide (c < 0) = false := by
    rw [hc, HXV.out, HYV.out]
    unfold cmpI
    rw [if_neg hlt]
    split <;> decide
   have HC := Lib.hid hc
   have hXY : n ≤ X.length := by
    refine Nat.le_of_not_lt fun h => ?_
    have := cmp_len (xs := X) (ys := Y) HXOK.out (by rw [HYS.out, HXS.out, ← HN.out]; exact h)
    rw [HXV.out, HYV.out] at this
    omega
   clear hc hlt
   go_enter Tryz.func471, Tryz.ntmps471
   go_wp2_with fail
   refine (least_any _ ys _ HU.out (by have := HL2.out; omega)).mono ?_
   rintro e w1 ⟨yv, rfl, hB, hb⟩
   rw [← HY.out] at hB
   obtain ⟨yo, ycap, rfl, -, -, -, -⟩ := hB.1.2
   have HB := Lib.hid hB
   have HBL := Lib.hid hb
   have HV1 := Lib.hid (HV.out.below hb)
   have hz1 := hb.size
   clear hB hb
   rw [← HN.out]
   go_wp2_with fail
   refine (least_any _ xs _ HV1.out (by have := HL.out; omega)).mono ?_
   rintro e w2 ⟨xv, rfl, hB2, hb2⟩
   rw [← HX.out] at hB2
   have HB2 := Lib.hid hB2
   have HY2 := Lib.hid (HB.out.below hb2)
   have HBL2 : Hid (Below w.heap.size w w2) := HBL.out.trans (hb2.mono hz1)
   have hz2 := HBL2.out.size
   rw [← HN.out] at HY2
   clear hB2 hb2
   go_wp2_with fail
   refine (cmp_any _ _ X Y _ HB2.out.1 HY2.out.1).mono ?_
   rintro e w3 ⟨rfl, hb3⟩
   rw [← HC.out]
   have HB3 := Lib.hid (HB2.out.below hb3)
   have HY3 := Lib.hid (HY2.out.below hb3)
   have HBL3 : Hid (Below w.heap.size w w3) := HBL2.out.trans (hb3.mono hz2)
   have hz3 := HBL3.out.size
   clear hb3
   go_wp2_with fail
   refine (long_any _ _ X Y (n - 2) _ HB3.out.1 HY3.out.1 (by rw [← HN.out]; omega) HYS.out (by rw [← HN.out]; exact hXY) (by have := HXL.out; have := HL.out; omega)).mono ?_
   rintro e w4 ⟨qv, rv, qs, rs, rfl, q1, q2, q3, q4, r1, r2, r3, r4, hb4⟩
   have Q1 := Lib.hid (q1.mono hz3)
   have R1 := Lib.hid (r1.mono hz3)
   have HBL4 : Hid (Below w.heap.size w w4) := HBL3.out.trans (hb4.mono hz3)
   have Q2 : Hid (val qs = val xs / val ys) := by show _ = _; rw [q2, HXV.out, HYV.out]
   have R2 : Hid (val rs = val xs % val ys) := by show _ = _; rw [r2, HXV.out, HYV.out]
   have Q3 : Hid (qs.length ≤ xs.length) := by show _ ≤ _; have := HXL.out; have := HN.out; omega
   have R3 : Hid (rs.length ≤ ys.length) := by show _ ≤ _; have := HN.out; omega
   have Q4 := Lib.hid q4
   have R4 := Lib.hid r4
   clear q1 q2 q3 q4 r1 r2 r3 r4 hb4
   go_wp2_with fail
   go_ret3
   exact ⟨_, _, qs, rs, rfl, Q1.out, Q2.out, Q3.out, Q4.out, R1.out, R2.out, R3.out, R4.out, HBL4.out⟩
end Go.Proofs.YtceggplnggkdnaaGreatDoor
