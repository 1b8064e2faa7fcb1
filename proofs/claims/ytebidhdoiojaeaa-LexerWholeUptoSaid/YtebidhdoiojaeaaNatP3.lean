/- Plain numbers: a product out of three products of half the length. -/
import Derived.Test.YtebidhdoiojaeaaNatP2
namespace NatP

theorem mid_eq (A0 A1 B0 B1 : Nat) : (A0 + A1) * (B0 + B1) = A0 * B0 + A1 * B1 + (A0 * B1 + A1 * B0) := by
  rw [Nat.add_mul, Nat.mul_add, Nat.mul_add]; omega
theorem whole_eq (A0 A1 B0 B1 P : Nat) : (A0 + P * A1) * (B0 + P * B1) = A0 * B0 + P * P * (A1 * B1) + P * (A0 * B1 + A1 * B0) := by
  rw [Nat.add_mul, Nat.mul_add, Nat.mul_add]
  have e1 : A0 * (P * B1) = P * (A0 * B1) := by rw [Nat.mul_left_comm]
  have e2 : P * A1 * B0 = P * (A1 * B0) := Nat.mul_assoc _ _ _
  have e3 : P * A1 * (P * B1) = P * P * (A1 * B1) := by rw [Nat.mul_assoc, Nat.mul_assoc, Nat.mul_left_comm A1]
  rw [e1, e2, e3, Nat.mul_add]; omega

theorem mul_lt_pow {xs ys : List Nat} (hx : ok xs) (hy : ok ys) : val xs * val ys < BB ^ (xs.length + ys.length) := by
  rw [Nat.pow_add]
  exact Nat.mul_lt_mul_of_lt_of_le (val_lt hx) (Nat.le_of_lt (val_lt hy)) (Nat.pow_pos BB_pos)

theorem strip_short (l : List Nat) {n : Nat} (h : val l < BB ^ n) : (strip l).length ≤ n := strip_len_of_lt l n h

/-- What is known when the three products have been made. -/
structure Half (xs ys : List Nat) (h : Nat) : Prop where
  okx : ok xs
  oky : ok ys
  hx : h ≤ xs.length
  hy : h ≤ ys.length

theorem Half.vx {xs ys : List Nat} {h : Nat} (H : Half xs ys h) : val xs = val (xs.take h) + BB ^ h * val (xs.drop h) := val_split xs h H.hx
theorem Half.vy {xs ys : List Nat} {h : Nat} (H : Half xs ys h) : val ys = val (ys.take h) + BB ^ h * val (ys.drop h) := val_split ys h H.hy

theorem Half.low_len {xs ys L : List Nat} {h : Nat} (H : Half xs ys h) (hL : val L = val (xs.take h) * val (ys.take h)) : (strip L).length ≤ 2 * h := by
  refine strip_short L ?_
  have := mul_lt_pow (ok_take H.okx h) (ok_take H.oky h)
  rw [List.length_take, List.length_take, Nat.min_eq_left H.hx, Nat.min_eq_left H.hy] at this
  rw [hL, show 2 * h = h + h from by omega]; exact this
theorem Half.high_len {xs ys L : List Nat} {h : Nat} (H : Half xs ys h) (hL : val L = val (xs.drop h) * val (ys.drop h)) : (strip L).length ≤ xs.length + ys.length - 2 * h := by
  refine strip_short L ?_
  have := mul_lt_pow (ok_drop H.okx h) (ok_drop H.oky h)
  rw [List.length_drop, List.length_drop] at this
  have h1 := H.hx
  have h2 := H.hy
  rw [hL, show xs.length + ys.length - 2 * h = xs.length - h + (ys.length - h) from by omega]; exact this

/-- The middle product, what is taken off it, and what is left. -/
theorem Half.sub1 {xs ys Lm Ll : List Nat} {h : Nat} (hm : ok Lm) (hv : val Lm = (val (xs.take h) + val (xs.drop h)) * (val (ys.take h) + val (ys.drop h))) (hl : val Ll = val (xs.take h) * val (ys.take h)) :
    val (strip Ll) ≤ val Lm ∧ (strip Ll).length ≤ Lm.length := by
  have h1 : val Ll ≤ val Lm := by rw [hv, hl, mid_eq]; omega
  exact ⟨by rw [val_strip]; exact h1, strip_short Ll (Nat.lt_of_le_of_lt h1 (val_lt hm))⟩
theorem Half.sub2 {xs ys Lm Ll Lh M1 : List Nat} {h : Nat} (hm : ok M1) (hv : val Lm = (val (xs.take h) + val (xs.drop h)) * (val (ys.take h) + val (ys.drop h))) (hl : val Ll = val (xs.take h) * val (ys.take h)) (hh : val Lh = val (xs.drop h) * val (ys.drop h))
    (h1 : val M1 + val (strip Ll) = val Lm) : val (strip Lh) ≤ val M1 ∧ (strip Lh).length ≤ M1.length := by
  have h2 : val Lh ≤ val M1 := by
    rw [val_strip, hv, hl, mid_eq] at h1
    rw [hh]; omega
  exact ⟨by rw [val_strip]; exact h2, strip_short Lh (Nat.lt_of_le_of_lt h2 (val_lt hm))⟩
theorem Half.mid {xs ys Lm Ll Lh M1 M2 : List Nat} {h : Nat} (hv : val Lm = (val (xs.take h) + val (xs.drop h)) * (val (ys.take h) + val (ys.drop h))) (hl : val Ll = val (xs.take h) * val (ys.take h)) (hh : val Lh = val (xs.drop h) * val (ys.drop h))
    (h1 : val M1 + val (strip Ll) = val Lm) (h2 : val M2 + val (strip Lh) = val M1) : val M2 = val (xs.take h) * val (ys.drop h) + val (xs.drop h) * val (ys.take h) := by
  rw [val_strip, hv, hl, mid_eq] at h1
  rw [val_strip, hh] at h2
  omega
theorem Half.mid_len {xs ys M2 : List Nat} {h : Nat} (H : Half xs ys h) (hv : val M2 = val (xs.take h) * val (ys.drop h) + val (xs.drop h) * val (ys.take h)) : (strip M2).length ≤ xs.length + ys.length - h := by
  refine strip_short M2 ?_
  have h1 := mul_lt_pow H.okx H.oky
  rw [H.vx, H.vy, whole_eq, ← hv] at h1
  have h2 := H.hx
  have h3 : BB ^ (xs.length + ys.length) = BB ^ h * BB ^ (xs.length + ys.length - h) := by rw [← Nat.pow_add]; congr 1; omega
  rw [h3] at h1
  exact Nat.lt_of_mul_lt_mul_left (a := BB ^ h) (by omega)

/-- What the additions leave. -/
theorem Half.add1 {xs ys Ll Lh M : List Nat} {h N : Nat} (H : Half xs ys h) (hN : N = xs.length + ys.length) (hl : val Ll = val (xs.take h) * val (ys.take h)) (hh : val Lh = val (xs.drop h) * val (ys.drop h)) {Z : List Nat} (hZ : Z = strip Ll ++ List.replicate (N - (strip Ll).length) 0)
    (hM : M.length = Z.length) (ht : M.take (2 * h) = Z.take (2 * h)) (hc : ∃ c, val (M.drop (2 * h)) + BB ^ (Z.length - 2 * h) * c = val (Z.drop (2 * h)) + val (strip Lh)) :
    M.length = N ∧ val M = val (xs.take h) * val (ys.take h) + BB ^ h * BB ^ h * (val (xs.drop h) * val (ys.drop h)) := by
  have h1 := H.hx
  have h2 := H.hy
  have hll := H.low_len hl
  have hZl : Z.length = N := by rw [hZ, List.length_append, List.length_replicate]; omega
  have hZd : val (Z.drop (2 * h)) = 0 := by
    rw [hZ, List.drop_append, List.drop_eq_nil_of_le hll, List.nil_append, List.drop_replicate, val_replicate]
  have hZt : val (Z.take (2 * h)) = val (xs.take h) * val (ys.take h) := by
    have e := val_split Z (2 * h) (by omega)
    rw [hZd] at e
    have e2 : val Z = val (strip Ll) := by rw [hZ, val_append, val_replicate]; simp
    rw [e2, val_strip, hl] at e
    simpa using e.symm
  obtain ⟨c, hc⟩ := hc
  rw [hZd, Nat.zero_add, val_strip, hh, hZl] at hc
  have hb : val (xs.drop h) * val (ys.drop h) < BB ^ (N - 2 * h) := by
    have := mul_lt_pow (ok_drop H.okx h) (ok_drop H.oky h)
    rw [List.length_drop, List.length_drop] at this
    rw [show N - 2 * h = xs.length - h + (ys.length - h) from by omega]; exact this
  obtain ⟨_, hd⟩ := no_carry hc hb
  refine ⟨by rw [hM, hZl], ?_⟩
  rw [val_split M (2 * h) (by omega), ht, hZt, hd, ← Nat.pow_add, show h + h = 2 * h from by omega]

theorem Half.add2 {xs ys M2 Lm Z : List Nat} {h : Nat} (H : Half xs ys h) (hZ : Z.length = xs.length + ys.length) (hv : val Z = val (xs.take h) * val (ys.take h) + BB ^ h * BB ^ h * (val (xs.drop h) * val (ys.drop h)))
    (hm : val Lm = val (xs.take h) * val (ys.drop h) + val (xs.drop h) * val (ys.take h))
    (hM : M2.length = Z.length) (ht : M2.take h = Z.take h) (hc : ∃ c, val (M2.drop h) + BB ^ (Z.length - h) * c = val (Z.drop h) + val (strip Lm)) :
    M2.length = xs.length + ys.length ∧ val M2 = val xs * val ys := by
  have h1 := H.hx
  refine ⟨by rw [hM, hZ], ?_⟩
  obtain ⟨c, hc⟩ := hc
  have e1 := val_split M2 h (by omega)
  have e2 := val_split Z h (by omega)
  rw [ht] at e1
  have e3 : val M2 + BB ^ Z.length * c = val Z + BB ^ h * val (strip Lm) := by
    have : BB ^ Z.length = BB ^ h * BB ^ (Z.length - h) := by rw [← Nat.pow_add]; congr 1; omega
    rw [this, Nat.mul_assoc, e1, e2, Nat.add_assoc, ← Nat.mul_add, hc, Nat.mul_add, Nat.add_assoc]
  have e4 : val Z + BB ^ h * val (strip Lm) = val xs * val ys := by
    rw [val_strip, hm, hv, H.vx, H.vy, whole_eq]
  rw [e4, hZ] at e3
  exact (no_carry e3 (mul_lt_pow H.okx H.oky)).2

/-- A product piece by piece. -/
def PiSt (xs ys : List Nat) (i : Nat) (M : List Nat) : Prop := M.length = xs.length + ys.length ∧ val M = val (xs.take i) * val ys
theorem PiSt.start (xs ys : List Nat) : PiSt xs ys 0 (List.replicate (xs.length + ys.length) 0) := ⟨List.length_replicate, by rw [val_replicate]; simp [val]⟩
theorem PiSt.step {xs ys L M P : List Nat} {i e : Nat} (hx : ok xs) (hy : ok ys) (h : PiSt xs ys i L) (hie : i ≤ e) (he : e ≤ xs.length) (hP : val P = val ((xs.drop i).take (e - i)) * val ys)
    (hM : M.length = L.length) (ht : M.take i = L.take i) (hc : ∃ c, val (M.drop i) + BB ^ (L.length - i) * c = val (L.drop i) + val (strip P)) : PiSt xs ys e M := by
  obtain ⟨h1, h2⟩ := h
  refine ⟨by rw [hM, h1], ?_⟩
  obtain ⟨c, hc⟩ := hc
  have e1 := val_split M i (by omega)
  have e2 := val_split L i (by omega)
  rw [ht] at e1
  have e3 : val M + BB ^ L.length * c = val L + BB ^ i * val (strip P) := by
    have : BB ^ L.length = BB ^ i * BB ^ (L.length - i) := by rw [← Nat.pow_add]; congr 1; omega
    rw [this, Nat.mul_assoc, e1, e2, Nat.add_assoc, ← Nat.mul_add, hc, Nat.mul_add, Nat.add_assoc]
  have e4 : val L + BB ^ i * val (strip P) = val (xs.take e) * val ys := by
    have e5 := val_split (xs.take e) i (by rw [List.length_take]; omega)
    rw [List.take_take, Nat.min_eq_left hie, List.drop_take] at e5
    rw [val_strip, hP, h2, e5, Nat.add_mul, Nat.mul_assoc]
  rw [e4, h1] at e3
  refine (no_carry e3 ?_).2
  have h3 := mul_lt_pow (ok_take hx e) hy
  refine Nat.lt_of_lt_of_le h3 (Nat.pow_le_pow_right BB_pos ?_)
  rw [List.length_take]; omega
theorem PiSt.done {xs ys M : List Nat} (h : PiSt xs ys xs.length M) : M.length = xs.length + ys.length ∧ val M = val xs * val ys := by
  obtain ⟨h1, h2⟩ := h
  rw [List.take_length] at h2
  exact ⟨h1, h2⟩
theorem piece_len {xs ys P : List Nat} {i e : Nat} (hx : ok xs) (hy : ok ys) (he : e ≤ xs.length) (hP : val P = val ((xs.drop i).take (e - i)) * val ys) (hie : i ≤ e) : (strip P).length ≤ xs.length + ys.length - i := by
  refine strip_short P ?_
  have := mul_lt_pow (ok_take (ok_drop hx i) (e - i)) hy
  rw [hP]
  refine Nat.lt_of_lt_of_le this (Nat.pow_le_pow_right BB_pos ?_)
  rw [List.length_take, List.length_drop]; omega
end NatP
