/- Joined texts of this claim's proof: DivI, DivQ. -/
import Derived.Test.YtgfmiladfeoldaaGreatDoorPl12
import Derived.IntWalk
import Derived.Test.YtgfmiladfeoldaaGreatDoorPl5
set_option linter.unusedSimpArgs false
set_option linter.unusedVariables false
namespace Go.Proofs.YtgfmiladfeoldaaGreatDoor
open Go.RowKit NatP
def shrW (L : List Nat) (s t i : Nat) : Nat := L.getD i 0 / 2 ^ s + L.getD (i + 1) 0 * 2 ^ t % BB
theorem shrW_lt {L : List Nat} {s t i : Nat} (hL : ok L) (hst : s + t = 64) : shrW L s t i < BB ∧ L.getD i 0 / 2 ^ s < 2 ^ t ∧ (L.getD (i + 1) 0 * 2 ^ t % BB) % 2 ^ t = 0 := by
 have hT : BB = 2 ^ t * 2 ^ s := by rw [← Nat.pow_add, show t + s = 64 from by omega]; rfl
 have hps : 0 < 2 ^ s := Nat.pow_pos (by omega)
 have hpt : 0 < 2 ^ t := Nat.pow_pos (by omega)
 have hx : L.getD i 0 < BB := by
  rw [List.getD_eq_getElem?_getD]
  cases h : L[i]? with
  | none => exact BB_pos
  | some x => exact hL x (List.mem_of_getElem? h)
 have h1 : L.getD i 0 / 2 ^ s < 2 ^ t := by rw [Nat.div_lt_iff_lt_mul hps, ← hT]; exact hx
 have h2 : (L.getD (i + 1) 0 * 2 ^ t % BB) % 2 ^ t = 0 := by
  rw [hT, Nat.mul_comm (2 ^ t) (2 ^ s), Nat.mul_mod_mul_right, Nat.mul_mod_left]
 refine ⟨?_, h1, h2⟩
 have h3 : L.getD (i + 1) 0 * 2 ^ t % BB < BB := Nat.mod_lt _ BB_pos
 unfold shrW
 obtain ⟨q, hq⟩ := Nat.dvd_of_mod_eq_zero h2
 rw [hq, hT] at h3
 rw [hq, hT]
 have h6 := Nat.lt_of_mul_lt_mul_left h3
 have h7 : 2 ^ t * (q + 1) ≤ 2 ^ t * 2 ^ s := Nat.mul_le_mul_left _ h6
 rw [Nat.mul_add, Nat.mul_one] at h7
 omega
theorem shr_part {y s t : Nat} (hst : s + t = 64) : y * 2 ^ t % BB = 2 ^ t * (y % 2 ^ s) := by
 have hT : BB = 2 ^ t * 2 ^ s := by rw [← Nat.pow_add, show t + s = 64 from by omega]; rfl
 rw [hT, Nat.mul_comm y, Nat.mul_mod_mul_left]
theorem shr_sum {s t : Nat} (hst : s + t = 64) : ∀ (L M : List Nat), M.length = L.length → (∀ i, i < L.length → M[i]? = some (shrW L s t i)) → 2 ^ s * val M + L.getD 0 0 % 2 ^ s = val L := by
 have hT : BB = 2 ^ s * 2 ^ t := by rw [← Nat.pow_add, hst]; rfl
 intro L
 induction L with
 | nil => intro M hl _; rw [List.eq_nil_of_length_eq_zero hl]; simp [val]
 | cons x L ih =>
  intro M hl hM
  cases M with
  | nil => simp at hl
  | cons m M =>
   have hrec := ih M (by simpa using hl) (fun i hi => by
    have := hM (i + 1) (by simpa using hi)
    simpa [shrW] using this)
   have h0 := hM 0 (by simp)
   simp only [List.getElem?_cons_zero, shrW, List.getD_cons_zero, Option.some.injEq, Nat.zero_add, List.getD_cons_succ] at h0
   rw [shr_part hst] at h0
   show 2 ^ s * (m + BB * val M) + x % 2 ^ s = x + BB * val L
   have hdm := Nat.div_add_mod x (2 ^ s)
   rw [← hrec, h0]
   generalize x / 2 ^ s = a at *
   generalize x % 2 ^ s = b at *
   generalize L.getD 0 0 % 2 ^ s = c at *
   rw [← hdm, Nat.mul_add, Nat.mul_add, Nat.mul_add, ← Nat.mul_assoc (2 ^ s) (2 ^ t) c, ← hT, Nat.mul_left_comm BB (2 ^ s) (val M)]
   omega
theorem shr_fin {s t : Nat} (hst : s + t = 64) {L M : List Nat} (hl : M.length = L.length) (hM : ∀ i, i < L.length → M[i]? = some (shrW L s t i)) : val M = val L / 2 ^ s := by
 have hps : 0 < 2 ^ s := Nat.pow_pos (by omega)
 have h := shr_sum hst L M hl hM
 have hb := Nat.mod_lt (L.getD 0 0) hps
 rw [← h, Nat.mul_add_div hps, Nat.div_eq_of_lt hb, Nat.add_zero]
theorem or_join' (x y i : Nat) (hx : x < 18446744073709551616) (hd : x % 2 ^ i = 0) (hy : y < 2 ^ i) (hy2 : y < 18446744073709551616) : bits BinOp.or IntKind.u64 (y : Int) (x : Int) = ((y + x : Nat) : Int) := by
 have h := or_join x y i hx hd hy hy2
 rw [bits_or_u64_nat x y hx hy2, Nat.or_comm, ← bits_or_u64_nat y x hy2 hx] at h
 rw [h, Nat.add_comm]
def SrRel (L : List Nat) (s t n g : Nat) (w1 : World) (i : Value) (wr : World) : Prop := ∃ (k : Nat) (M : List Nat), k ≤ n ∧ i = .int .i64 (k : Nat) ∧ M.length = n ∧ (∀ i, i < k → M[i]? = some (shrW L s t i)) ∧ Blk wr g M ∧ w1.grownBy wr (some g)
theorem set_keep {M : List Nat} {k x : Nat} {f : Nat → Nat} (h : ∀ i, i < k → M[i]? = some (f i)) (hk : k < M.length) (hx : x = f k) : ∀ i, i < k + 1 → (M.set k x)[i]? = some (f i) := by
 intro i hi
 by_cases e : i = k
 ·subst e; rw [List.getElem?_set_self hk, hx]
 ·rw [List.getElem?_set_ne (by omega)]; exact h i (by omega)
def ShrPost (V m : Nat) (w : World) (e : Ending) (w' : World) : Prop := ∃ v xs, e = .returned (.tuple #[v, .int .i64 0]) ∧ Fr w.heap.size w' v xs ∧ val xs = V ∧ xs.length ≤ m ∧ strip xs = xs ∧ Below w.heap.size w w'
set_option maxRecDepth 100000 in
set_option maxHeartbeats 2000000 in
theorem shr_any (v : Value) (xs : List Nat) (s : Nat) (w : World) (hv : Rd w v xs) (hs : s < 64) (hl : xs.length ≤ 1099511627776) :
  Calls Tryz.prog 283 #[v, .int .i64 (s : Nat)] w (ShrPost (val xs / 2 ^ s) xs.length w) := by
 have HV := Lib.hid hv
 obtain ⟨ao, cap, rfl, hnc, hcm, hok, -⟩ := hv.2
 have HOK := Lib.hid hok
 obtain ⟨X, hX⟩ : ∃ X, X = strip xs := ⟨_, rfl⟩
 have hXx : ∀ (i x : Nat), X[i]? = some x → xs[i]? = some x := by
  intro i x h
  rw [hX, (strip_take xs).1, List.getElem?_take] at h
  split at h
  ·exact h
  ·cases h
 obtain ⟨n, hn⟩ : ∃ n, n = X.length := ⟨_, rfl⟩
 have hnl : n ≤ xs.length := by rw [hn, hX]; exact strip_le xs
 have hvX : val X = val xs := by rw [hX, val_strip]
 have hokX : ok X := by rw [hX]; exact ok_strip hok
 obtain ⟨t, ht⟩ : ∃ t, t = 64 - s := ⟨_, rfl⟩
 have hst : s + t = 64 := by omega
 have E0 : (s : Int) / 64 = 0 := by omega
 have hsn : decide ((s : Int) < 0) = false := by simp
 have E0b : (s : Int) % 64 = (s : Int) := by omega
 have E1 : IntKind.u64.wrap (64 - (s : Int)) = (t : Int) := by rw [IntKind.wrap_u64]; omega
 have E1b : IntKind.u64.wrap (s : Int) = (s : Int) := u64_in _ (by omega)
 have E2 : min s 64 = s := by omega
 have E3 : min t 64 = t := by omega
 have HX := Lib.hid hX
 have HN := Lib.hid hn
 have HVX := Lib.hid hvX
 have HOKX := Lib.hid hokX
 have HXX := Lib.hid hXx
 have hcap : cap ≤ 9223372036854775807 := by unfold maxLen at hcm; omega
 clear hv hok hcm hX hn hvX hokX hXx ht
 by_cases h0 : n = 0
 ·have hv0 : val xs / 2 ^ s = 0 := by
   have hX0 : X = [] := List.eq_nil_of_length_eq_zero (by rw [← HN.out]; exact h0)
   rw [← HVX.out, hX0]
   simp [val]
  have HV0 := Lib.hid hv0
  subst h0
  clear hv0
  go_enter Tryz.func283, Tryz.ntmps283
  go_wp2_with fail
  refine (size_any _ xs _ HV.out).mono ?_
  rintro e w' ⟨rfl, rfl⟩
  rw [← HX.out, ← HN.out]
  go_wp2_with fail
  go_ret2
  exact ⟨_, [], rfl, ⟨Rd.nil w, fun k hk => by cases hk⟩, by rw [HV0.out]; rfl, Nat.zero_le _, rfl, Below.refl _ _⟩
 ·have hn1 : 1 ≤ n := by omega
  have HMK := make_words n (by omega)
  obtain ⟨g, hg⟩ : ∃ g, g = w.heap.size := ⟨_, rfl⟩
  obtain ⟨w1, hw1⟩ : ∃ w1, w1 = w.alloc (.cells (madeCells #[.int .u64 0] n) 101) := ⟨_, rfl⟩
  have HBL : Hid (Below w.heap.size w w1) := by rw [hw1]; exact below_alloc w _
  have HB1 : Hid (Blk w1 g (List.replicate n 0)) := by rw [hw1, hg]; exact Blk.made w n
  have HG := Lib.hid hg
  have HW1 := Lib.hid hw1
  clear hg hw1
  go_enter Tryz.func283, Tryz.ntmps283
  go_wp2_with fail
  refine (size_any _ xs _ HV.out).mono ?_
  rintro e w' ⟨rfl, rfl⟩
  rw [← HX.out, ← HN.out]
  go_wp2_with fail
  rw [← HW1.out, ← HG.out]
  clear E0b
  go_loopw [29] (fun i wr => SrRel X s t n g w1 i wr) (fun i _ => n - (intOf i).toNat)
  case atStart => exact ⟨0, _, Nat.zero_le _, rfl, List.length_replicate, fun i hi => by omega, HB1.out, grown_refl _ _⟩
  clear HB1
  case round =>
   obtain ⟨k, M, hk, rfl, hml, hst2, hM, hgr⟩ := hrel
   have HST := Lib.hid hst2
   have HM := Lib.hid hM
   have HGR := Lib.hid hgr
   have HML := Lib.hid hml
   clear hst2 hM hgr hml
   have HWB : Hid (Below w.heap.size w wr) := HBL.out.trans (below_of_grown HGR.out HBL.out.size (by rw [HG.out]; exact Nat.le_refl _))
   by_cases hlt : k < n
   ·obtain ⟨z, hz⟩ : ∃ z, M[k]? = some z := ⟨_, List.getElem?_eq_getElem (by rw [HML.out]; exact hlt)⟩
    obtain ⟨x, hx⟩ : ∃ x, X[k]? = some x := ⟨_, List.getElem?_eq_getElem (by rw [← HN.out]; exact hlt)⟩
    have e4 := HM.out.cell hz
    have e3 := HM.out.frozen k
    have hxb := HOKX.out x (List.mem_of_getElem? hx)
    obtain ⟨ao', cap', e, -, -, -, hsh⟩ := (HV.out.below HWB.out).2
    cases e
    obtain ⟨g2, o2, rfl, e5⟩ := hsh k x (HXX.out k x hx)
    have hg2 : g2 < g := by rw [HG.out]; exact HV.out.1 g2 rfl
    obtain ⟨a, ha⟩ : ∃ a, a = x / 2 ^ s := ⟨_, rfl⟩
    have hab : a < BB := by rw [ha]; exact Nat.lt_of_le_of_lt (Nat.div_le_self _ _) hxb
    have F1 : (x : Int) / 2 ^ s = (a : Int) := by rw [ha, Int.natCast_ediv, Int.natCast_pow]; rfl
    have HS := Lib.hid (HM.out.set k hab)
    have HA := Lib.hid ha
    have HX1 := Lib.hid hx
    have hi0 : (0 : Int) ≤ (k : Int) := Int.natCast_nonneg _
    have hi1 : (k : Int) < (n : Int) := by omega
    have hi2 : (k : Int) < (xs.length : Int) := by omega
    have HSH := Lib.hid hsh
    clear hsh hx hxb ha hab hz
    by_cases hin : k + 1 < n
    ·obtain ⟨y, hy⟩ : ∃ y, X[k + 1]? = some y := ⟨_, List.getElem?_eq_getElem (by rw [← HN.out]; exact hin)⟩
     obtain ⟨g3, o3, e, e6⟩ := HSH.out (k + 1) y (HXX.out (k + 1) y hy)
     cases e
     obtain ⟨b, hb⟩ : ∃ b, b = y * 2 ^ t % BB := ⟨_, rfl⟩
     have F2 : IntKind.u64.wrap ((y : Int) * 2 ^ t) = (b : Int) := by
      have e : ((y : Int) * 2 ^ t) = ((y * 2 ^ t : Nat) : Int) := by rw [Int.natCast_mul, Int.natCast_pow]; rfl
      rw [e, IntKind.wrap_u64, hb]; rfl
     obtain ⟨h1, h2, h3⟩ := shrW_lt (i := k) HOKX.out hst
     have hg0 : X.getD k 0 = x := by rw [List.getD_eq_getElem?_getD, HX1.out]; rfl
     have hg1 : X.getD (k + 1) 0 = y := by rw [List.getD_eq_getElem?_getD, hy]; rfl
     have hsw : shrW X s t k = a + b := by unfold shrW; rw [hg0, hg1, ← HA.out, ← hb]
     rw [hg0, ← HA.out] at h2
     rw [hg1, ← hb] at h3
     have hbb : b < BB := by rw [hb]; exact Nat.mod_lt _ BB_pos
     have hab : a < BB := Nat.lt_of_le_of_lt (Nat.le_add_right a b) (by rw [← hsw]; exact h1)
     have F3 : bits BinOp.or IntKind.u64 (a : Int) (b : Int) = ((a + b : Nat) : Int) := or_join' b a t hbb h3 h2 hab
     obtain ⟨c, hc⟩ : ∃ c, c = a + b := ⟨_, rfl⟩
     rw [← hc] at F3 hsw
     rw [hsw] at h1
     have e7 : (wr.setCell ⟨g, k, none⟩ (.int .u64 (a : Nat))).cell? ⟨g, k, none⟩ = some (.int .u64 (a : Nat)) := HS.out.1.cell (by rw [List.getElem?_set_self (by rw [HML.out]; exact hlt)])
     have e8 : (wr.setCell ⟨g, k, none⟩ (.int .u64 (a : Nat))).frozen? ⟨g, k, none⟩ = false := HS.out.1.frozen k
     have e9 : (wr.setCell ⟨g, k, none⟩ (.int .u64 (a : Nat))).cell? ⟨g2, o2 + (k + 1), none⟩ = some (.int .u64 (y : Nat)) := HS.out.2.cell e6 (by simp; omega)
     have HS2 := Lib.hid (Blk.set (w := (wr.setCell ⟨g, k, none⟩ (.int .u64 (a : Nat))).drewN 1) HS.out.1 k h1)
     have HSW := Lib.hid hsw
     have hi3 : (k : Int) + 1 < (n : Int) := by omega
     have hi4 : (k : Int) + 1 < (xs.length : Int) := by omega
     clear hy hb h1 h2 h3 hg0 hg1 hsw hbb hab hc HSH e6 hg2
     have W1 : IntKind.i64.wrap (k : Int) = (k : Int) := IntWalk.i64_in _ (by omega)
     have W2 : IntKind.i64.wrap ((k : Int) + 1) = (k : Int) + 1 := IntWalk.i64_in _ (by omega)
     have W3 : ((k : Int) + 1).toNat = k + 1 := by omega
     have W4 : (0 : Int) ≤ (k : Int) + 1 := by omega
     go_wp2_with fail
     go_region_law (fail)
     all_goals
      go_wp2_with fail
      have hfin : SrRel X s t n g w1 (.int .i64 ((k : Int) + 1)) (((wr.setCell ⟨g, k, none⟩ (.int .u64 (a : Nat))).drewN 1).setCell ⟨g, k, none⟩ (.int .u64 (c : Nat))) :=
       ⟨k + 1, (M.set k a).set k c, by omega, by go_num, by rw [List.length_set, List.length_set, HML.out], set_keep (f := shrW X s t) (fun i hi => by rw [List.getElem?_set_ne (by omega)]; exact HST.out i hi) (by rw [List.length_set, HML.out]; exact hlt) HSW.out.symm, HS2.out.1, grown_set (grown_set (grown_set HGR.out HS.out.2) (grown_drewN _ 1 _)) HS2.out.2⟩
      first | exact ⟨hfin, by simp [intOf] <;> omega⟩ | exact ⟨by (repeat apply Exists.intro); exact ⟨hfin, rfl⟩, by simp [intOf] <;> omega⟩
    ·have hi3 : ¬ ((k : Int) + 1 < (n : Int)) := by omega
     have hsw : shrW X s t k = a := by
      have hg0 : X.getD k 0 = x := by rw [List.getD_eq_getElem?_getD, HX1.out]; rfl
      have hg1 : X.getD (k + 1) 0 = 0 := by rw [List.getD_eq_getElem?_getD, List.getElem?_eq_none (by rw [← HN.out]; omega)]; rfl
      unfold shrW
      rw [hg0, hg1, ← HA.out]; simp
     have HSW := Lib.hid hsw
     clear hsw HSH
     go_wp2_with fail
     have hfin : SrRel X s t n g w1 (.int .i64 ((k : Int) + 1)) (wr.setCell ⟨g, k, none⟩ (.int .u64 (a : Nat))) :=
      ⟨k + 1, M.set k a, by omega, by go_num, by rw [List.length_set, HML.out], set_keep (f := shrW X s t) HST.out (by rw [HML.out]; exact hlt) HSW.out.symm, HS.out.1, grown_set HGR.out HS.out.2⟩
     first | exact ⟨hfin, by simp [intOf] <;> omega⟩ | exact ⟨by (repeat apply Exists.intro); exact ⟨hfin, rfl⟩, by simp [intOf] <;> omega⟩
   ·obtain rfl : k = n := by omega
    have hF := shr_fin hst (L := X) (M := M) (by rw [HML.out, HN.out]) (fun i hi => HST.out i (by rw [HN.out]; exact hi))
    rw [HVX.out] at hF
    have HF := Lib.hid hF
    have hR := HM.out.whole (by rw [HML.out]; omega)
    rw [HML.out] at hR
    have HR := Lib.hid hR
    have hsl := strip_le M
    rw [HML.out] at hsl
    obtain ⟨m, hm⟩ : ∃ m, m = (strip M).length := ⟨_, rfl⟩
    rw [← hm] at hsl
    have HMM := Lib.hid hm
    have hT := hR.take (n := m) (c := k) (by rw [HML.out]; exact hsl) hsl (Nat.le_refl _)
    rw [hm, ← (strip_take M).1, ← hm] at hT
    have HT := Lib.hid hT
    have hml2 : (strip M).length ≤ xs.length := by omega
    have HML2 := Lib.hid hml2
    clear hF hR hm hT hml2
    go_wp2_with fail
    refine (size_any _ M _ HR.out).mono ?_
    rintro e w' ⟨rfl, rfl⟩
    rw [← HMM.out]
    go_wp2_with fail
    go_ret2
    exact ⟨_, strip M, rfl, ⟨HT.out, fun q hq => by cases hq; exact ⟨by rw [HG.out]; exact Nat.le_refl _, HM.out.lt⟩⟩, by rw [val_strip, HF.out], HML2.out, strip_strip M, HWB.out⟩
end Go.Proofs.YtgfmiladfeoldaaGreatDoor
namespace NatP
abbrev mid (M : List Nat) (o n : Nat) : List Nat := (M.drop o).take n
theorem mid_succ {M : List Nat} {o n z : Nat} (h : M[o + n]? = some z) : val (mid M o (n + 1)) = val (mid M o n) + BB ^ n * z := by
 have hlt : o + n < M.length := (List.getElem?_eq_some_iff.1 h).1
 have h2 : n < (M.drop o).length := by rw [List.length_drop]; omega
 rw [mid, val_take_succ h2]
 have h3 := List.getElem?_eq_getElem h2
 rw [List.getElem?_drop, h] at h3
 rw [← Option.some.inj h3]
theorem drop_val {l : List Nat} {k x : Nat} (h : l[k]? = some x) : val (l.drop k) = x + BB * val (l.drop (k + 1)) := by
 have hlt : k < l.length := (List.getElem?_eq_some_iff.1 h).1
 rw [List.drop_eq_getElem_cons hlt]
 have := List.getElem?_eq_getElem hlt
 rw [h] at this
 rw [← Option.some.inj this]; rfl
theorem mid_cons {M : List Nat} {o n z : Nat} (h : M[o]? = some z) : val (mid M o (n + 1)) = z + BB * val (mid M (o + 1) n) := by
 have hlt : o < M.length := (List.getElem?_eq_some_iff.1 h).1
 unfold mid
 rw [List.drop_eq_getElem_cons hlt]
 have := List.getElem?_eq_getElem hlt
 rw [h] at this
 rw [← Option.some.inj this]; rfl
theorem mid_lt {M : List Nat} (hM : ok M) (o n : Nat) (h : o + n ≤ M.length) : val (mid M o n) < BB ^ n := by
 have := val_lt (ok_take (ok_drop hM o) n)
 rw [List.length_take, List.length_drop, Nat.min_eq_left (by omega)] at this
 exact this
structure LgSt (L V : List Nat) (n k : Nat) (M Q : List Nat) : Prop where
 len : M.length = L.length
 low : M.take k = L.take k
 eq : val (L.drop k) = val (Q.drop k) * val V + val (mid M k n)
 lt : val (mid M k n) < val V
theorem LgSt.at {L V M Q : List Nat} {n k z : Nat} (h : LgSt L V n (k + 1) M Q) (hz : M[k]? = some z) : L[k]? = some z := by
 have := congrArg (fun l => l[k]?) h.low
 simp only [List.getElem?_take, Nat.lt_succ_self, if_true] at this
 rw [← this]; exact hz
theorem lg_guess {L V M Q : List Nat} {n k z u2 u1 u0 v1 v0 : Nat} (h : LgSt L V (n + 2) (k + 1) M Q) (hM : ok M) (hV : ok V) (hVl : V.length = n + 2) (hml : k + (n + 2) < M.length) (hz : M[k]? = some z)
  (h2 : M[k + n + 2]? = some u2) (h1 : M[k + n + 1]? = some u1) (h0 : M[k + n]? = some u0) (g1 : V[n + 1]? = some v1) (g0 : V[n]? = some v0) (hv1 : 0 < v1) :
  val (mid M k (n + 3)) < val V * BB ∧ u2 ≤ v1 ∧
  val (mid M k (n + 3)) / val V ≤ gq ((u2 * BB + u1) * BB + u0) (v1 * BB + v0) ∧ gq ((u2 * BB + u1) * BB + u0) (v1 * BB + v0) ≤ val (mid M k (n + 3)) / val V + 1 := by
 have e1 := mid_cons (n := n + 2) hz
 have hzb : z < BB := hM z (List.mem_of_getElem? hz)
 have hlt := h.lt
 have hU : val (mid M k (n + 3)) < val V * BB := by
  rw [e1]
  have : (val (mid M (k + 1) (n + 2)) + 1) * BB ≤ val V * BB := Nat.mul_le_mul_right _ hlt
  rw [Nat.add_mul, Nat.one_mul, Nat.mul_comm _ BB] at this
  omega
 have e2 : val (mid M k (n + 3)) = val (mid M k n) + BB ^ n * (u0 + BB * (u1 + BB * u2)) := by
  rw [mid_succ (by rw [show k + (n + 2) = k + n + 2 from rfl]; exact h2), mid_succ (by rw [show k + (n + 1) = k + n + 1 from rfl]; exact h1), mid_succ h0, Nat.pow_succ, Nat.pow_succ]
  simp only [Nat.mul_add, Nat.mul_assoc, Nat.add_assoc, Nat.pow_succ]
 have e3 : val V = val (V.take n) + BB ^ n * (v0 + BB * v1) := by
  have a := val_split V n (by omega)
  rw [drop_val g0, drop_val g1, List.drop_eq_nil_of_le (by omega)] at a
  simpa [val] using a
 have hlow : val (mid M k n) < BB ^ n := mid_lt hM k n (by omega)
 have hlowV : val (V.take n) < BB ^ n := by
  have := val_lt (ok_take hV n)
  rw [List.length_take, Nat.min_eq_left (by omega)] at this
  exact this
 have e2' : val (mid M k (n + 3)) = ((u2 * BB + u1) * BB + u0) * BB ^ n + val (mid M k n) := by
  rw [e2, Nat.mul_comm (BB ^ n), show u0 + BB * (u1 + BB * u2) = (u2 * BB + u1) * BB + u0 from by rw [Nat.mul_comm BB (u1 + BB * u2), Nat.mul_comm BB u2, Nat.add_comm u1, Nat.add_comm]]
  omega
 have e3' : val V = (v1 * BB + v0) * BB ^ n + val (V.take n) := by
  rw [e3, Nat.mul_comm (BB ^ n), show v0 + BB * v1 = v1 * BB + v0 from by rw [Nat.mul_comm BB v1]; omega]
  omega
 have hv2 : BB ≤ v1 * BB + v0 := by
  have := Nat.mul_le_mul_right BB hv1
  omega
 refine ⟨hU, ?_, gq_right e2' hlow e3' hlowV hU hv2⟩
 refine Nat.le_of_not_lt fun hgt => ?_
 have h3 : (v1 + 1) * BB ≤ u2 * BB := Nat.mul_le_mul_right _ hgt
 have h4 : (v1 * BB + v0 + 1) * BB ≤ ((u2 * BB + u1) * BB + u0) := by
  rw [Nat.add_mul, Nat.one_mul] at h3
  have hv0b := hV v0 (List.mem_of_getElem? g0)
  have : (v1 * BB + v0 + 1) * BB ≤ (u2 * BB + u1) * BB := Nat.mul_le_mul_right _ (by omega)
  omega
 have h5 : (v1 * BB + v0 + 1) * BB * BB ^ n ≤ ((u2 * BB + u1) * BB + u0) * BB ^ n := Nat.mul_le_mul_right _ h4
 have h6 : val V * BB ≤ (v1 * BB + v0 + 1) * BB * BB ^ n := by
  rw [e3', Nat.mul_right_comm]
  refine Nat.mul_le_mul_right _ ?_
  rw [Nat.add_mul (v1 * BB + v0), Nat.one_mul]; omega
 omega
theorem mid_short {M : List Nat} {o n R : Nat} (hM : ok M) (hl : o + n < M.length) (hv : val (mid M o (n + 1)) = R) (hR : R < BB ^ n) : val (mid M o n) = R := by
 obtain ⟨z, hz⟩ : ∃ z, M[o + n]? = some z := ⟨_, List.getElem?_eq_getElem hl⟩
 rw [mid_succ hz] at hv
 have : z = 0 := by
  refine Nat.eq_zero_of_not_pos fun hp => ?_
  have := Nat.mul_le_mul_left (BB ^ n) hp
  omega
 subst this
 simpa using hv
theorem LgSt.step {L V M M' Q : List Nat} {n k z d : Nat} (h : LgSt L V n (k + 1) M Q) (hV : ok V) (hVl : V.length = n) (hM' : ok M') (hl : M'.length = M.length) (hml : k + n < M.length) (hz : M[k]? = some z) (hk : k < Q.length)
  (hlow : M'.take k = M.take k) (hd : d = val (mid M k (n + 1)) / val V) (hR : val (mid M' k (n + 1)) = val (mid M k (n + 1)) % val V) : LgSt L V n k M' (Q.set k d) := by
 have hL := h.at hz
 have hVp : 0 < val V := Nat.lt_of_le_of_lt (Nat.zero_le _) h.lt
 have hRlt := Nat.mod_lt (val (mid M k (n + 1))) hVp
 have hVb : val V < BB ^ n := by rw [← hVl]; exact val_lt hV
 have hs := mid_short hM' (by omega) hR (Nat.lt_trans hRlt hVb)
 refine ⟨by rw [hl, h.len], ?_, ?_, by rw [hs]; exact hRlt⟩
 ·rw [hlow]
  have := congrArg (List.take k) h.low
  rw [List.take_take, List.take_take, Nat.min_eq_left (Nat.le_succ k)] at this
  exact this
 ·have e1 : (Q.set k d)[k]? = some d := by rw [List.getElem?_set_self hk]
  rw [drop_val hL, h.eq, drop_val e1, set_drop, hs]
  have e2 := mid_cons (n := n) hz
  have hdm := Nat.div_add_mod (val (mid M k (n + 1))) (val V)
  rw [← hd] at hdm
  generalize val (mid M k (n + 1)) % val V = R' at *
  generalize val (mid M k (n + 1)) = U at *
  generalize val (mid M (k + 1) n) = R at *
  generalize val (List.drop (k + 1) Q) = q at *
  generalize val V = v at *
  rw [Nat.mul_add, Nat.add_mul, Nat.mul_comm v d] at *
  rw [Nat.mul_assoc]
  omega
theorem lg_back {M1 M2 : List Nat} {k n U V g c : Nat} (hM1 : ok M1) (hM2 : ok M2) (hl1 : k + (n + 1) ≤ M1.length) (hl2 : k + (n + 1) ≤ M2.length) (h1 : U / V ≤ g) (h2 : g ≤ U / V + 1) (hV : 0 < V) (hVT : V < BB ^ (n + 1)) (ht : U + BB ^ (n + 1) * 1 = val (mid M1 k (n + 1)) + g * V)
  (hg : val (mid M2 k (n + 1)) + BB ^ (n + 1) * c = val (mid M1 k (n + 1)) + V) : g - 1 = U / V ∧ val (mid M2 k (n + 1)) = U % V := by
 have hR := mid_lt hM1 k (n + 1) hl1
 have hR2 := mid_lt hM2 k (n + 1) hl2
 rw [Nat.mul_one] at ht
 obtain ⟨a, b⟩ := word_back h1 h2 hV hR ht
 refine ⟨a, ?_⟩
 rw [b] at hg
 have hVlt := Nat.mod_lt U hV
 generalize BB ^ (n + 1) = T at *
 have hc : c = 1 := by
  rcases Nat.lt_trichotomy c 1 with h | h | h
  ·have : c = 0 := by omega
   subst this; omega
  ·exact h
  ·have := Nat.mul_le_mul_left T h
   omega
 subst hc
 omega
theorem LgSt.fin {L V M Q : List Nat} {n : Nat} (h : LgSt L V n 0 M Q) : val Q = val L / val V ∧ val (M.take n) = val L % val V := by
 have h1 := h.eq
 have h2 := h.lt
 unfold mid at h1 h2
 rw [List.drop_zero, List.drop_zero, List.drop_zero] at h1
 rw [List.drop_zero] at h2
 have hV : 0 < val V := by omega
 rw [h1, Nat.mul_comm (val Q)]
 exact ⟨by rw [Nat.mul_add_div hV, Nat.div_eq_of_lt h2, Nat.add_zero], by rw [Nat.mul_add_mod, Nat.mod_eq_of_lt h2]⟩
theorem LgSt.start {L V Q : List Nat} {n k : Nat} (hl : L.length = k + n) (hlt : val (L.drop k) < val V) (hQ : Q.length ≤ k) : LgSt L V n k L Q where
 len := rfl
 low := rfl
 eq := by
  rw [List.drop_eq_nil_of_le hQ]
  have : mid L k n = L.drop k := List.take_of_length_le (by rw [List.length_drop]; omega)
  rw [this]; simp [val]
 lt := by
  have : mid L k n = L.drop k := List.take_of_length_le (by rw [List.length_drop]; omega)
  rw [this]; exact hlt
theorem lg_top {x y S m n k : Nat} {L V : List Nat} (hLv : val L = x * S) (hx : x < BB ^ m) (hLl : L.length = m + 1) (hk : k + n = m + 1) (hV : val V = y * S) (hS : S ≤ 9223372036854775808) (hn : 1 ≤ n) (hVt : 9223372036854775808 * BB ^ (n - 1) ≤ val V) : val (L.drop k) < val V := by
 have h1 := val_split L k (by omega)
 have h2 : BB ^ k * val (L.drop k) ≤ x * S := by omega
 have h3 : x * S < BB ^ m * 9223372036854775808 := by
  have a : x * S ≤ x * 9223372036854775808 := Nat.mul_le_mul_left _ hS
  have b : x * 9223372036854775808 < BB ^ m * 9223372036854775808 := Nat.mul_lt_mul_of_pos_right hx (by omega)
  omega
 have h4 : BB ^ k * (9223372036854775808 * BB ^ (n - 1)) ≤ BB ^ k * val V := Nat.mul_le_mul_left _ hVt
 have h5 : BB ^ k * (9223372036854775808 * BB ^ (n - 1)) = BB ^ m * 9223372036854775808 := by
  rw [Nat.mul_left_comm, ← Nat.pow_add, show k + (n - 1) = m from by omega, Nat.mul_comm]
 exact Nat.lt_of_mul_lt_mul_left (a := BB ^ k) (by omega)
end NatP
