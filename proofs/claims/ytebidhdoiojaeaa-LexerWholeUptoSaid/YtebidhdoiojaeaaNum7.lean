/- Walks of nat.Add, mulnat.Mul, mulnat.Square, mulnat.Word, mulnat.MulAdd. -/
import Derived.Test.YtebidhdoiojaeaaNum6
namespace Go.Proofs.Ytebidhdoiojaeaa
open Go.RowKit NatP

/-- What a function answers that makes a number: its words in memory of its own, without zero words at the high end. -/
def NumPost (n : Nat) (m : Nat) (w : World) (e : Ending) (w' : World) : Prop := ∃ v xs, e = .returned v ∧ Fr w.heap.size w' v xs ∧ val xs = n ∧ xs.length ≤ m ∧ strip xs = xs ∧ Below w.heap.size w w'

theorem strip_strip (l : List Nat) : strip (strip l) = strip l := by
  refine snoc_ind (P := fun l => strip (strip l) = strip l) rfl (fun l d ih => ?_) l
  by_cases h : d = 0
  · subst h; rw [strip_snoc_zero]; exact ih
  · rw [strip_snoc_pos _ _ h, strip_snoc_pos _ _ h]

theorem NumPost.of_new {xs : List Nat} {n m : Nat} {w w' : World} {e : Ending} (h : NewPost (strip xs) w e w') (hv : val xs = n) (hm : (strip xs).length ≤ m) : NumPost n m w e w' := by
  obtain ⟨v, he, hf, hb⟩ := h
  exact ⟨v, strip xs, he, hf, by rw [val_strip, hv], hm, strip_strip _, hb⟩

set_option maxRecDepth 100000 in
set_option maxHeartbeats 1000000 in
theorem mul_any (xs ys : List Nat) (v u : Value) (w : World) (hl : xs.length + ys.length < 274877906944) (hv : Rd w v xs) (hu : Rd w u ys) :
    Calls Try.prog 86 #[v, u] w (NumPost (val xs * val ys) (xs.length + ys.length) w) := by
  have HV := Lib.hid hv
  have HU := Lib.hid hu
  clear hv hu
  go_enter Try.func86, Try.ntmps86
  go_wp2_with fail
  refine (product_any xs ys _ _ _ hl HV.out HU.out).mono ?_
  rintro e w1 ⟨g, M, rfl, hg, hM, hml, hmv, hb⟩
  have q1 := strip_le xs
  have q2 := strip_le ys
  have hMl : M.length ≤ xs.length + ys.length := by omega
  have R := Lib.hid (hM.whole (by omega))
  have HB := Lib.hid hb
  have HV := Lib.hid hmv
  clear hM hml hmv hb
  go_wp2_with fail
  refine (least_any _ M _ R.out (by omega)).mono ?_
  rintro e w2 ⟨v2, rfl, hf, hb2⟩
  have HF := Lib.hid (hf.mono HB.out.size)
  have HB2 : Hid (Below w.heap.size w w2) := HB.out.trans (hb2.mono HB.out.size)
  clear hf hb2
  go_wp2_with fail
  go_ret
  exact NumPost.of_new ⟨_, rfl, HF.out, HB2.out⟩ HV.out (Nat.le_trans (strip_le M) hMl)

set_option maxRecDepth 100000 in
set_option maxHeartbeats 1000000 in
theorem square_any (xs : List Nat) (v : Value) (w : World) (hl : xs.length + xs.length < 274877906944) (hv : Rd w v xs) :
    Calls Try.prog 87 #[v] w (NumPost (val xs * val xs) (xs.length + xs.length) w) := by
  have HV := Lib.hid hv
  clear hv
  go_enter Try.func87, Try.ntmps87
  go_wp2_with fail
  refine (mul_any xs xs _ _ _ hl HV.out HV.out).mono ?_
  rintro e w1 ⟨v1, zs, rfl, h1, h2, h3, h4, h5⟩
  have H1 := Lib.hid h1
  have H2 := Lib.hid h2
  have H3 := Lib.hid h3
  have H4 := Lib.hid h4
  have H5 := Lib.hid h5
  clear h1 h2 h3 h4 h5
  go_wp2_with fail
  go_ret
  exact ⟨_, zs, rfl, H1.out, H2.out, H3.out, H4.out, H5.out⟩

/-- One word in a block of its own. -/
theorem rd_word (w : World) (x : Nat) (hx : x < BB) : Rd (w.alloc (.cells #[.int .u64 (x : Nat)] 89)) (.slice (some ⟨w.heap.size, 0, none⟩) 1 1) [x] := by
  refine ⟨fun k hk => by cases hk; simp, _, 1, rfl, Nat.le_refl _, by unfold maxLen; omega, ok_cons hx ok_nil, fun i y hy => ?_⟩
  cases i with
  | zero =>
    simp at hy; subst hy
    exact ⟨_, _, rfl, by simp [go_sem]⟩
  | succ i => simp at hy

set_option maxRecDepth 100000 in
set_option maxHeartbeats 1000000 in
theorem word_any (xs : List Nat) (x : Nat) (v : Value) (w : World) (hl : xs.length < 137438953472) (hx : x < BB) (hv : Rd w v xs) :
    Calls Try.prog 79 #[v, .int .u64 (x : Nat)] w (NumPost (val xs * x) (xs.length + 1) w) := by
  have HV := Lib.hid hv
  have HX := Lib.hid hx
  clear hv hx
  go_enter Try.func79, Try.ntmps79
  go_wp2_with fail
  refine (mul_any xs [x] _ _ _ (by simp; omega) (HV.out.alloc _) (rd_word w x HX.out)).mono ?_
  rintro e w1 ⟨v1, zs, rfl, h1, h2, h3, h4, h5⟩
  have H1 : Hid (Fr w.heap.size w1 v1 zs) := h1.mono (by simp)
  have H2 : Hid (val zs = val xs * x) := by show _ = _; rw [h2]; simp [val]
  have H3 : Hid (zs.length ≤ xs.length + 1) := h3
  have H4 := Lib.hid h4
  have H5 : Hid (Below w.heap.size w w1) := (below_alloc w _).trans (h5.mono (by simp))
  clear h1 h2 h3 h4 h5
  go_wp2_with fail
  go_ret
  exact ⟨_, zs, rfl, H1.out, H2.out, H3.out, H4.out, H5.out⟩
end Go.Proofs.Ytebidhdoiojaeaa
