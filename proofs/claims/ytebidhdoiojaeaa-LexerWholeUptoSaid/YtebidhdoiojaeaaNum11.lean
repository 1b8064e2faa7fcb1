/- Walk of radix.number at base ten: up to 200 digits; any number of digits. -/
import Derived.Test.YtebidhdoiojaeaaNum10
namespace Go.Proofs.Ytebidhdoiojaeaa
open Go.RowKit NatP

def szS : Value → Nat | .slice _ n _ => n | _ => 0
def pw (j : Nat) : Nat := 10 ^ j

def NoRel (ds : List Nat) (w : World) (dv av : Value) (wr : World) : Prop := ∃ (pos rem : Nat) (ao : Option Addr) (c : Nat) (zs : List Nat), pos + rem = ds.length ∧ dv = .slice ao rem c ∧ RdD wr dv (ds.drop pos) ∧ Fr w.heap.size wr av zs ∧ val zs = decV (ds.take pos) ∧ strip zs = zs ∧ Below w.heap.size w wr

theorem no_step {ds : List Nat} {pos n : Nat} (h : pos + n ≤ ds.length) : decV (ds.take (pos + n)) = decV (ds.take pos) * pw n + decV ((ds.drop pos).take n) := by
  have e : ds.take (pos + n) = ds.take pos ++ (ds.drop pos).take n := List.take_add
  rw [e, decV_append, List.length_take, List.length_drop, Nat.min_eq_left (by omega)]; rfl

set_option maxRecDepth 100000 in
set_option maxHeartbeats 4000000 in
theorem number_short (ds : List Nat) (v : Value) (w : World) (h200 : ds.length ≤ 200) (hv : RdD w v ds) :
    Calls Try.prog 67 #[v, .int .i64 10] w (NumPost (decV ds) ds.length w) := by
  have HV := Lib.hid hv
  obtain ⟨ao, cap, rfl, hdc, hcm⟩ := hv.shape
  have hcap2 : cap ≤ 9223372036854775807 := by unfold maxLen at hcm; omega
  have HDL := Lib.hid (decV_lt HV.out.dig)
  clear hv hcm
  go_enter Try.func67, Try.ntmps67
  go_wp2_with fail
  refine (piece_ten _).mono ?_
  rintro e w' ⟨rfl, rfl⟩
  go_wp2_with fail
  go_loopw [0, 9] (fun d a wr => NoRel ds w d a wr) (fun d _ _ => szS d)
  case atStart => exact ⟨0, ds.length, ao, cap, [], by omega, rfl, HV.out, ⟨Rd.nil w, fun k hk => by cases hk⟩, rfl, rfl, Below.refl _ _⟩
  case round =>
    obtain ⟨pos, rem, ao, c, zs, hpr, rfl, hd, ha, hva, hsa, hb⟩ := hrel
    have HD := Lib.hid hd
    have HA := Lib.hid ha
    have HVA := Lib.hid hva
    have HSA := Lib.hid hsa
    have HB := Lib.hid hb
    have HPR := Lib.hid hpr
    have hwz := hb.size
    obtain ⟨_, _, hsv, hrc, hcm⟩ := hd.shape
    simp only [Value.slice.injEq] at hsv
    obtain ⟨-, -, rfl⟩ := hsv
    have hdl : (ds.drop pos).length = rem := by rw [List.length_drop]; omega
    rw [hdl] at hrc
    have hc2 : c ≤ 9223372036854775807 := by unfold maxLen at hcm; omega
    have hr200 : rem ≤ 200 := by omega
    have hal : zs.length ≤ 200 := by
      have := dec_len hsa (n := pos) (by
        rw [hva]
        have h1 := decV_lt (ds := ds.take pos) (fun x hx => HV.out.dig x (List.mem_of_mem_take hx))
        rw [List.length_take, Nat.min_eq_left (by omega)] at h1; exact h1)
      omega
    clear hd ha hva hsa hb hpr hcm
    by_cases hr0 : rem = 0
    · have hfin : decV (ds.take pos) = decV ds := by rw [List.take_of_length_le (by have := HPR.out; omega)]
      have HF := Lib.hid hfin
      clear hfin hdl
      have h0 : ¬ 0 < rem := by omega
      clear hr0
      go_wp2_with fail
      go_ret
      exact ⟨_, zs, rfl, HA.out, by rw [HVA.out, HF.out], dec_len HSA.out (by rw [HVA.out, HF.out]; exact HDL.out), HSA.out, HB.out⟩
    · obtain ⟨n, hn⟩ : ∃ n, n = min 19 rem := ⟨_, rfl⟩
      have hn1 : 1 ≤ n := by omega
      have hn2 : n ≤ rem := by omega
      have hn3 : n ≤ 19 := by omega
      have hmin : min (19 : Int) (rem : Int) = (n : Int) := by omega
      obtain ⟨g, o, rfl⟩ := HD.out.some' (by rw [hdl]; omega)
      have HP := Lib.hid (HD.out.take (n := n) (c := c) (by rw [hdl]; omega) (by omega) (Nat.le_refl _))
      obtain ⟨P, hP⟩ : ∃ P, P = (ds.drop pos).take n := ⟨_, rfl⟩
      rw [← hP] at HP
      have hPl : P.length = n := by rw [hP, List.length_take, hdl]; omega
      have HPL := Lib.hid hPl
      have HPE := Lib.hid hP
      have HDD := Lib.hid hdl
      have hrp : 0 < rem := by omega
      obtain ⟨_, _, _, hsv, _, _, hdig, hcell⟩ := HP.out
      simp only [Value.slice.injEq] at hsv
      obtain ⟨rfl, -, -⟩ := hsv
      have HDG := Lib.hid hdig
      have HCE := Lib.hid hcell
      have hi0 : (n : Int) ≤ (c : Int) := by omega
      clear hn hPl hP hdl hdig hcell hr0
      go_wp2_with fail
      go_loop [11, 12, 55] (fun vv pp i => ∃ j : Nat, j ≤ n ∧ i = .int .i64 (j : Nat) ∧ vv = .int .u64 (decV (P.take j) : Nat) ∧ pp = .int .u64 (pw j : Nat)) (fun _ _ i => n - (intOf i).toNat)
      case atStart => exact ⟨0, Nat.zero_le _, rfl, rfl, rfl⟩
      case round =>
        obtain ⟨j, hj, rfl, rfl, rfl⟩ := hrel
        by_cases hlt : j < n
        · obtain ⟨x, hx⟩ : ∃ x, P[j]? = some x := ⟨_, List.getElem?_eq_getElem (by have := HPL.out; omega)⟩
          obtain ⟨g', o', hao, e1⟩ := HCE.out j x hx
          cases hao
          have hx10 := HDG.out x (List.mem_of_getElem? hx)
          have hstep := decV_take_succ hx
          have hlt1 := decV_lt (ds := P.take (j + 1)) (fun y hy => HDG.out y (List.mem_of_mem_take hy))
          have hlt2 := ten_19 (n := (P.take (j + 1)).length) (by rw [List.length_take]; omega)
          have hp1 := ten_19 (n := j + 1) (by omega)
          obtain ⟨m1, hm1⟩ : ∃ m1, m1 = decV (P.take j) * 10 := ⟨_, rfl⟩
          have hpw : pw (j + 1) = pw j * 10 := by unfold pw; rw [Nat.pow_succ]
          have hpw2 : pw (j + 1) < BB := hp1
          have hw1 : IntKind.u64.wrap ((decV (P.take j) : Int) * 10) = (m1 : Int) := by unfold BB at *; rw [IntKind.wrap_u64]; omega
          have hw2 : IntKind.u64.wrap ((m1 : Int) + (x : Int)) = (decV (P.take (j + 1)) : Int) := by unfold BB at *; rw [IntKind.wrap_u64]; omega
          have hw3 : IntKind.u64.wrap ((pw j : Int) * 10) = (pw (j + 1) : Int) := by unfold BB at *; rw [IntKind.wrap_u64]; omega
          clear hx hstep hlt1 hlt2 hp1 hm1 hpw hpw2
          go_wp2_with fail
          exact ⟨⟨j + 1, by omega, by go_num, rfl, rfl⟩, by simp [intOf]; omega⟩
        · obtain rfl : j = n := by omega
          have hpt : P.take j = P := List.take_of_length_le (by have := HPL.out; omega)
          rw [hpt]
          have hvb : decV P < BB := by
            have h1 := decV_lt HDG.out
            have h2 := ten_19 (n := P.length) (by have := HPL.out; omega)
            omega
          have hpb : pw j < BB := ten_19 hn3
          have HVB := Lib.hid hvb
          have HPB := Lib.hid hpb
          clear hpt hvb hpb hlt hj
          go_wp2_with fail
          refine (word_any zs (pw j) _ _ (by omega) HPB.out HA.out.1).mono ?_
          rintro e w2 ⟨v2, z2, rfl, a1, a2, a3, a4, a5⟩
          have A1 := Lib.hid a1.1
          have A2 := Lib.hid a2
          have A3 := Lib.hid a3
          have A5 := Lib.hid a5
          have hz2 := a5.size
          clear a1 a2 a3 a4 a5
          go_wp2_with fail
          refine (natAdd_any z2 [decV P] _ _ _ (by have := A3.out; omega) (by simp) (A1.out.alloc _) (rd_word w2 (decV P) HVB.out)).mono ?_
          rintro e w3 ⟨v3, z3, rfl, a1, a2, a3, a4, a5⟩
          have B1 : Hid (Fr w.heap.size w3 v3 z3) := a1.mono (by simp; omega)
          have B2 : Hid (val z3 = decV (ds.take (pos + j))) := by
            show _ = _
            rw [a2, A2.out, HVA.out, no_step (by have := HPR.out; omega), ← HPE.out]
            simp [val]
          have B4 := Lib.hid a4
          have C5 : Below wr.heap.size wr w3 := A5.out.trans (((below_alloc w2 _).trans (a5.mono (by simp))).mono hz2)
          have B5 : Hid (Below w.heap.size w w3) := HB.out.trans (C5.mono hwz)
          have HD3 := Lib.hid (HD.out.below C5)
          clear a1 a2 a3 a4 a5 C5
          by_cases hcn : c = j
          · have HDA : Hid (RdD w3 (.slice (some ⟨g, o, none⟩) 0 0) (ds.drop (pos + j))) := by
              show RdD _ _ _
              have := HD3.out.dropAll (n := j) (by rw [HDD.out]; omega)
              rw [List.drop_drop] at this; exact this
            have hjr : rem ≤ j := by omega
            go_wp2_with fail
            have hfin : NoRel ds w (.slice (some ⟨g, o, none⟩) 0 0) v3 w3 := ⟨pos + j, 0, _, 0, z3, by have := HPR.out; omega, rfl, HDA.out, B1.out, B2.out, B4.out, B5.out⟩
            first | exact ⟨hfin, by simp [szS]; omega⟩ | exact ⟨by (repeat apply Exists.intro); exact ⟨hfin, rfl⟩, by simp [szS]; omega⟩
          · have HDA : Hid (RdD w3 (.slice (some ⟨g, o + j, none⟩) (rem - j) (c - j)) (ds.drop (pos + j))) := by
              show RdD _ _ _
              have := HD3.out.drop (n := j) (by rw [HDD.out]; omega)
              rw [List.drop_drop, HDD.out] at this; exact this
            go_wp2_with fail
            have hfin : NoRel ds w (.slice (some ⟨g, o + j, none⟩) (rem - j) (c - j)) v3 w3 := ⟨pos + j, rem - j, _, c - j, z3, by have := HPR.out; omega, rfl, HDA.out, B1.out, B2.out, B4.out, B5.out⟩
            first | exact ⟨hfin, by simp [szS]; omega⟩ | exact ⟨by (repeat apply Exists.intro); exact ⟨hfin, rfl⟩, by simp [szS]; omega⟩

theorem number_all : ∀ n, n ≤ 1073741824 → NumberOk n
  | 0, _ => fun ds v w h _ => absurd h (Nat.not_lt_zero _)
  | n + 1, hn => fun ds v w h hv => by
    by_cases h200 : ds.length ≤ 200
    · exact number_short ds v w h200 hv
    · exact number_long n (number_all n (by omega)) (by omega) ds v w (by omega) (by omega) hv

/-- number of any digits. -/
theorem number_any (ds : List Nat) (v : Value) (w : World) (hl : ds.length < 1073741824) (hv : RdD w v ds) :
    Calls Try.prog 67 #[v, .int .i64 10] w (NumPost (decV ds) ds.length w) := number_all _ (Nat.le_refl _) ds v w hl hv
end Go.Proofs.Ytebidhdoiojaeaa
