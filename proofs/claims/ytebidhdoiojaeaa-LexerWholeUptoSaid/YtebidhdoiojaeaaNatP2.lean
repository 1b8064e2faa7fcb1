/- Plain numbers: a product word by word. -/
import Derived.Test.YtebidhdoiojaeaaNatP
namespace NatP

theorem val_set : ∀ (l : List Nat) (i s : Nat) (h : i < l.length), val (l.set i s) + BB ^ i * l[i] = val l + BB ^ i * s
  | [], i, s, h => by simp at h
  | x :: l, 0, s, h => by simp [val]; omega
  | x :: l, i + 1, s, h => by
    have ih := val_set l i s (by simpa using h)
    simp only [List.set_cons_succ, val, List.getElem_cons_succ, Nat.pow_succ]
    have e : ∀ q, BB ^ i * BB * q = BB * (BB ^ i * q) := fun q => by rw [Nat.mul_comm (BB ^ i) BB, Nat.mul_assoc]
    rw [e, e]
    have : BB * val (l.set i s) + BB * (BB ^ i * l[i]'(by simpa using h)) = BB * val l + BB * (BB ^ i * s) := by rw [← Nat.mul_add, ih, Nat.mul_add]
    omega

theorem val_set' {l : List Nat} {i s z : Nat} (h : l[i]? = some z) : val (l.set i s) + BB ^ i * z = val l + BB ^ i * s := by
  obtain ⟨h1, h2⟩ := List.getElem?_eq_some_iff.1 h
  have := val_set l i s h1
  rw [h2] at this; exact this

/-- Four words and two carries of one step. -/
theorem row_words {x y z cc hi lo s1 c1 h2 s2 c2 : Nat} (hx : x < BB) (hy : y < BB) (hz : z < BB) (hc : cc < BB) (hp : hi * BB + lo = x * y) (h1 : s1 + BB * c1 = lo + cc) (h3 : h2 = hi + c1) (h4 : s2 + BB * c2 = z + s1) :
    h2 < BB ∧ s2 + BB * (h2 + c2) = z + x * y + cc ∧ h2 + c2 < BB := by
  have hxy : x * y ≤ 18446744073709551615 * 18446744073709551615 := Nat.mul_le_mul (by unfold BB at hx; omega) (by unfold BB at hy; omega)
  unfold BB at *
  refine ⟨by omega, by omega, by omega⟩

/-- The inner loop: of the row of x the words below j are done. -/
def InSt (M0 ys : List Nat) (k x j cc : Nat) (M : List Nat) : Prop :=
  M.length = M0.length ∧ (∀ q, k + ys.length ≤ q → M[q]? = M0[q]?) ∧ val M + BB ^ (k + j) * cc = val M0 + BB ^ k * (x * val (ys.take j))

theorem InSt.start (M0 ys : List Nat) (k x : Nat) : InSt M0 ys k x 0 0 M0 := ⟨rfl, fun _ _ => rfl, by simp [val]⟩

theorem InSt.step {M0 ys M : List Nat} {k x j cc z y s cc' : Nat} (h : InSt M0 ys k x j cc M) (hz : M[k + j]? = some z) (hy : ys[j]? = some y) (hs : s + BB * cc' = z + x * y + cc) :
    InSt M0 ys k x (j + 1) cc' (M.set (k + j) s) := by
  obtain ⟨h1, h2, h3⟩ := h
  obtain ⟨hjl, hyv⟩ := List.getElem?_eq_some_iff.1 hy
  refine ⟨by rw [List.length_set, h1], fun q hq => ?_, ?_⟩
  · rw [List.getElem?_set_ne (by omega)]; exact h2 q hq
  · have e1 := val_set' (s := s) hz
    have e2 := val_take_succ hjl
    rw [hyv] at e2
    rw [e2, ← Nat.add_assoc, Nat.pow_succ]
    have e3 : BB ^ k * (x * (val (ys.take j) + BB ^ j * y)) = BB ^ k * (x * val (ys.take j)) + BB ^ (k + j) * (x * y) := by
      rw [Nat.mul_add, Nat.mul_add, Nat.pow_add]
      congr 1
      rw [Nat.mul_left_comm x, Nat.mul_assoc]
    rw [e3]
    generalize BB ^ (k + j) = P at *
    have e4 : P * s + P * (BB * cc') = P * z + P * (x * y) + P * cc := by rw [← Nat.mul_add, hs, Nat.mul_add, Nat.mul_add]
    rw [Nat.mul_assoc]
    omega

/-- The outer loop: the rows of the words below k are done. -/
def OutSt (xs ys : List Nat) (k : Nat) (M : List Nat) : Prop :=
  M.length = xs.length + ys.length ∧ (∀ q, k + ys.length ≤ q → q < M.length → M[q]? = some 0) ∧ val M = val (xs.take k) * val ys

theorem OutSt.start (xs ys : List Nat) : OutSt xs ys 0 (List.replicate (xs.length + ys.length) 0) :=
  ⟨List.length_replicate, fun q _ hq => by rw [List.length_replicate] at hq; simp [hq], by rw [val_replicate]; simp [val]⟩

theorem OutSt.zero {xs ys M : List Nat} {k : Nat} (h : OutSt xs ys k M) (hx : xs[k]? = some 0) : OutSt xs ys (k + 1) M := by
  obtain ⟨h1, h2, h3⟩ := h
  obtain ⟨hk, hv⟩ := List.getElem?_eq_some_iff.1 hx
  refine ⟨h1, fun q hq hl => h2 q (by omega) hl, ?_⟩
  rw [val_take_succ hk, hv, h3]; simp

theorem OutSt.row {xs ys M0 M : List Nat} {k x cc : Nat} (h : OutSt xs ys k M0) (hx : xs[k]? = some x) (hi : InSt M0 ys k x ys.length cc M) : OutSt xs ys (k + 1) (M.set (k + ys.length) cc) ∧ M[k + ys.length]? = some 0 := by
  obtain ⟨h1, h2, h3⟩ := h
  obtain ⟨i1, i2, i3⟩ := hi
  obtain ⟨hk, hv⟩ := List.getElem?_eq_some_iff.1 hx
  have hz : M[k + ys.length]? = some 0 := by rw [i2 _ (Nat.le_refl _)]; exact h2 _ (Nat.le_refl _) (by omega)
  refine ⟨⟨by rw [List.length_set, i1, h1], fun q hq hl => ?_, ?_⟩, hz⟩
  · rw [List.getElem?_set_ne (by omega), i2 q (by omega)]
    rw [List.length_set] at hl
    exact h2 q (by omega) (by omega)
  · have e1 := val_set' (s := cc) hz
    rw [List.take_length] at i3
    rw [val_take_succ hk, hv, Nat.add_mul, ← h3]
    have e2 : BB ^ k * x * val ys = BB ^ k * (x * val ys) := Nat.mul_assoc _ _ _
    rw [e2, ← i3]
    simp only [Nat.mul_zero, Nat.add_zero] at e1
    omega

theorem OutSt.done {xs ys M : List Nat} (h : OutSt xs ys xs.length M) : M.length = xs.length + ys.length ∧ val M = val xs * val ys := by
  obtain ⟨h1, _, h3⟩ := h
  rw [List.take_length] at h3
  exact ⟨h1, h3⟩

theorem no_carry {V W P c : Nat} (h : V + P * c = W) (hW : W < P) : c = 0 ∧ V = W := by
  cases c with
  | zero => exact ⟨rfl, by simpa using h⟩
  | succ c => rw [Nat.mul_succ] at h; omega
theorem two_BB : 2 ≤ BB := by unfold BB; omega
theorem two_below {a b m : Nat} (ha : a < BB ^ m) (hb : b < BB ^ m) : a + b < BB ^ (m + 1) := by
  rw [Nat.pow_succ]
  have h := Nat.mul_le_mul_left (BB ^ m) two_BB
  generalize BB ^ m * BB = Q at *
  generalize BB ^ m = P at *
  omega
end NatP
