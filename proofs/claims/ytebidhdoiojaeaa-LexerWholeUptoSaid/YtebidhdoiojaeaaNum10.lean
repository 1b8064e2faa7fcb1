/- Walk of radix.number at base ten. -/
import Derived.Test.YtebidhdoiojaeaaNum9
namespace Go.Proofs.Ytebidhdoiojaeaa
open Go.RowKit NatP

/-- A slice of digits, to be read. -/
def RdD (w : World) (v : Value) (ds : List Nat) : Prop :=
  (∀ k, v.ownBlock = some k → k < w.heap.size) ∧ ∃ ao cap, v = .slice ao ds.length cap ∧ ds.length ≤ cap ∧ cap ≤ maxLen ∧ (∀ x ∈ ds, x < 10) ∧ ∀ i x, ds[i]? = some x → ∃ g o, ao = some ⟨g, o, none⟩ ∧ w.cell? ⟨g, o + i, none⟩ = some (.int .u8 (x : Nat))

theorem RdD.below {w w' : World} {v : Value} {ds : List Nat} (h : RdD w v ds) (hb : Below w.heap.size w w') : RdD w' v ds := by
  obtain ⟨h0, ao, cap, rfl, h1, h2, h3, h4⟩ := h
  refine ⟨fun k hk => Nat.lt_of_lt_of_le (h0 k hk) hb.size, ao, cap, rfl, h1, h2, h3, fun i x hx => ?_⟩
  obtain ⟨g, o, rfl, hc⟩ := h4 i x hx
  exact ⟨g, o, rfl, by rw [hb.cell (p := ⟨g, o + i, none⟩) (h0 g rfl)]; exact hc⟩
theorem RdD.drewN {w : World} {v : Value} {ds : List Nat} (h : RdD w v ds) (n : Nat) : RdD (w.drewN n) v ds := h.below (below_drewN' w n)
theorem RdD.take {w : World} {ao : Option Addr} {len cap n c : Nat} {ds : List Nat} (h : RdD w (.slice ao len cap) ds) (hn : n ≤ ds.length) (hc : n ≤ c) (hm : c ≤ cap) : RdD w (.slice ao n c) (ds.take n) := by
  obtain ⟨h0, ao', cap', e, h1, h2, h3, h4⟩ := h
  simp only [Value.slice.injEq] at e
  obtain ⟨rfl, rfl, rfl⟩ := e
  refine ⟨fun k hk => h0 k (by cases ao <;> first | exact hk | cases hk), ao, c, by rw [List.length_take, Nat.min_eq_left hn], by rw [List.length_take]; omega, by omega, fun x hx => h3 x (List.mem_of_mem_take hx), fun i x hx => ?_⟩
  rw [List.getElem?_take] at hx
  split at hx
  · exact h4 i x hx
  · cases hx
theorem RdD.drop {w : World} {g o len cap n : Nat} {ds : List Nat} (h : RdD w (.slice (some ⟨g, o, none⟩) len cap) ds) (hn : n ≤ ds.length) : RdD w (.slice (some ⟨g, o + n, none⟩) (ds.length - n) (cap - n)) (ds.drop n) := by
  obtain ⟨h0, ao', cap', e, h1, h2, h3, h4⟩ := h
  simp only [Value.slice.injEq] at e
  obtain ⟨rfl, rfl, rfl⟩ := e
  refine ⟨fun k hk => h0 k hk, _, _, by rw [List.length_drop], by rw [List.length_drop]; omega, by omega, fun x hx => h3 x (List.mem_of_mem_drop hx), fun i x hx => ⟨g, o + n, rfl, ?_⟩⟩
  rw [List.getElem?_drop] at hx
  obtain ⟨g', o', e, hc⟩ := h4 (n + i) x hx
  cases e
  rw [Nat.add_assoc]; exact hc
theorem RdD.dropAll {w : World} {g o len cap n : Nat} {ds : List Nat} (h : RdD w (.slice (some ⟨g, o, none⟩) len cap) ds) (hn : ds.length ≤ n) : RdD w (.slice (some ⟨g, o, none⟩) 0 0) (ds.drop n) := by
  rw [List.drop_eq_nil_of_le hn]
  exact ⟨fun k hk => h.1 k hk, _, 0, rfl, Nat.le_refl _, by unfold maxLen; omega, fun x hx => (by cases hx), fun i x hx => (by simp at hx)⟩
theorem RdD.some' {w : World} {ao : Option Addr} {n c : Nat} {ds : List Nat} (h : RdD w (.slice ao n c) ds) (h0 : 0 < ds.length) : ∃ g o, ao = some ⟨g, o, none⟩ := by
  obtain ⟨_, ao', cap', e, _, _, _, h4⟩ := h
  simp only [Value.slice.injEq] at e
  obtain ⟨rfl, -, -⟩ := e
  obtain ⟨g, o, h5, _⟩ := h4 0 ds[0] (List.getElem?_eq_getElem h0)
  exact ⟨g, o, h5⟩
theorem RdD.shape {w : World} {v : Value} {ds : List Nat} (h : RdD w v ds) : ∃ ao cap, v = .slice ao ds.length cap ∧ ds.length ≤ cap ∧ cap ≤ maxLen := by
  obtain ⟨_, ao, cap, h1, h2, h3, _⟩ := h; exact ⟨ao, cap, h1, h2, h3⟩
theorem RdD.dig {w : World} {v : Value} {ds : List Nat} (h : RdD w v ds) : ∀ x ∈ ds, x < 10 := by obtain ⟨_, _, _, _, _, _, h3, _⟩ := h; exact h3

def NumberOk (n : Nat) : Prop := ∀ (ds : List Nat) (v : Value) (w : World), ds.length < n → RdD w v ds → Calls Try.prog 67 #[v, .int .i64 10] w (NumPost (decV ds) ds.length w)

set_option maxRecDepth 100000 in
set_option maxHeartbeats 4000000 in
theorem number_long (n : Nat) (IH : NumberOk n) (hn : n ≤ 1073741824) (ds : List Nat) (v : Value) (w : World) (hl : ds.length ≤ n) (h200 : 200 < ds.length) (hv : RdD w v ds) :
    Calls Try.prog 67 #[v, .int .i64 10] w (NumPost (decV ds) ds.length w) := by
  have HV := Lib.hid hv
  obtain ⟨ao, cap, rfl, hdc, hcm⟩ := hv.shape
  obtain ⟨g, o, rfl⟩ := hv.some' (by omega)
  obtain ⟨lo, hlo⟩ : ∃ lo, lo = ds.length / 2 := ⟨_, rfl⟩
  obtain ⟨cu, hcu⟩ : ∃ cu, cu = ds.length - lo := ⟨_, rfl⟩
  have h1 : 1 ≤ lo := by omega
  have h2 : lo < ds.length := by omega
  have h3 : 1 ≤ cu := by omega
  have h4 : cu < ds.length := by omega
  have h5 : lo + cu ≤ ds.length := by omega
  have h6 : ds.length ≤ lo + cu := by omega
  have hquo : (ds.length : Int) / 2 = (lo : Int) := by omega
  have hsub : (ds.length : Int) - (lo : Int) = (cu : Int) := by omega
  have HA1 := Lib.hid (HV.out.take (n := cu) (c := cap) (by omega) (by omega) (Nat.le_refl _))
  have HA2 := Lib.hid (HV.out.drop (n := cu) (by omega))
  have HI := Lib.hid IH
  have hi0 : (0 : Int) ≤ (cu : Int) := Int.natCast_nonneg _
  have hi1 : (cu : Int) ≤ (ds.length : Int) := by omega
  have hcc : ¬ (cap = cu) := by omega
  have hi2 : (cu : Int) ≤ (cap : Int) := by omega
  have hcap2 : cap ≤ 9223372036854775807 := by unfold maxLen at hcm; omega
  have HL1 : Hid ((ds.take cu).length ≤ cu) := List.length_take_le _ _
  have HL2 : Hid ((ds.drop cu).length ≤ lo) := by show _ ≤ _; rw [List.length_drop]; omega
  have HD : Hid (decV ds = decV (ds.take cu) * 10 ^ lo + decV (ds.drop cu)) := by
    show _ = _
    rw [decV_split ds cu (by omega), show ds.length - cu = lo from by omega]
  have HDL := Lib.hid (decV_lt HV.out.dig)
  clear IH hv hcm hlo hcu
  go_enter Try.func67, Try.ntmps67
  go_wp2_with fail
  go_region_held3 (fun _ => True) (trivial)
    (first
      | (go_at_call_of 67 (Value.slice (some ⟨g, o, none⟩) cu cap); refine (HI.out (ds.take cu) _ _ (by have := HL1.out; omega) (by exact HA1.out)).mono ?_; rintro e1 w1 ⟨v1, x1, rfl, a1, a2, a3, a4, a5⟩; have A1 := Lib.hid a1; have A2 := Lib.hid a2; have A3 := Lib.hid a3; have A5 := Lib.hid a5; have hz1 := a5.size; clear a1 a2 a3 a4 a5)
      | (go_at_call 76; refine (power_ten lo _ (by omega)).mono ?_; rintro e2 w2 ⟨v2, x2, rfl, a1, a2, a3, a4, a5⟩; have B1 := Lib.hid a1; have B2 := Lib.hid a2; have B3 := Lib.hid a3; have B5 := Lib.hid a5; have hz2 := a5.size; clear a1 a2 a3 a4 a5)
      | (go_at_call 67; refine (HI.out (ds.drop cu) _ _ (by have := HL2.out; omega) (by exact (RdD.below (w := w.drew) HA2.out A5.out).below B5.out)).mono ?_; rintro e3 w3 ⟨v3, x3, rfl, a1, a2, a3, a4, a5⟩; have C1 := Lib.hid a1; have C2 := Lib.hid a2; have C3 := Lib.hid a3; have C5 := Lib.hid a5; have hz3 := a5.size; clear a1 a2 a3 a4 a5)
      | (go_at_call 75; refine (mulAdd_any x1 x2 x3 _ _ _ _ (by have := A3.out; have := B3.out; have := HL1.out; omega) (by have := C3.out; have := HL2.out; omega) ((A1.out.1.below B5.out).below C5.out) (B1.out.1.below C5.out) C1.out.1).mono ?_; rintro e4 w4 ⟨v4, x4, rfl, a1, a2, a3, a4, a5⟩))
  have D1 := Lib.hid (a1.mono (Nat.le_trans hz1 (Nat.le_trans hz2 hz3)))
  have D2 : Hid (val x4 = decV ds) := by show _ = _; rw [a2, A2.out, B2.out, C2.out, HD.out]
  have D4 := Lib.hid a4
  have D5 : Hid (Below w.heap.size w w4) := ((below_drewN' w 1).trans (A5.out.trans ((B5.out.trans ((C5.out.trans (a5.mono hz3)).mono hz2)).mono hz1)))
  have D3 : Hid (x4.length ≤ ds.length) := dec_len a4 (by rw [D2.out]; exact HDL.out)
  clear a1 a2 a3 a4 a5
  go_wp2_with fail
  go_ret
  exact ⟨_, x4, rfl, D1.out, D2.out, D3.out, D4.out, D5.out⟩
end Go.Proofs.Ytebidhdoiojaeaa
