/- Joined texts of this claim's proof: NatP, NatP2, NatP3, NatP4, DecP, LexPure, NumP, LexPure4, GrpP. -/
import Derived.Lib.IndexMore
set_option linter.unusedSimpArgs false
set_option linter.unusedVariables false
namespace NatP
def BB : Nat := 18446744073709551616
theorem BB_pos : 0 < BB := by unfold BB; omega
def val : List Nat → Nat
 | [] => 0
 | x :: l => x + BB * val l
def ok (l : List Nat) : Prop := ∀ x ∈ l, x < BB
theorem ok_nil : ok [] := fun x h => by cases h
theorem ok_cons {x : Nat} {l : List Nat} (hx : x < BB) (h : ok l) : ok (x :: l) := fun y hy => by
 rcases List.mem_cons.1 hy with rfl | hy
 ·exact hx
 ·exact h y hy
theorem ok_take {l : List Nat} (h : ok l) (n : Nat) : ok (l.take n) := fun x hx => h x (List.mem_of_mem_take hx)
theorem ok_drop {l : List Nat} (h : ok l) (n : Nat) : ok (l.drop n) := fun x hx => h x (List.mem_of_mem_drop hx)
theorem ok_append {a b : List Nat} (ha : ok a) (hb : ok b) : ok (a ++ b) := fun x hx => by
 rcases List.mem_append.1 hx with h | h
 ·exact ha x h
 ·exact hb x h
theorem ok_set {l : List Nat} (h : ok l) (i : Nat) {x : Nat} (hx : x < BB) : ok (l.set i x) := fun y hy => by
 rcases List.mem_or_eq_of_mem_set hy with h1 | rfl
 ·exact h y h1
 ·exact hx
theorem ok_replicate (n : Nat) : ok (List.replicate n 0) := fun x hx => by
 rw [List.eq_of_mem_replicate hx]; exact BB_pos
theorem val_append : ∀ (a b : List Nat), val (a ++ b) = val a + BB ^ a.length * val b
 | [], b => by simp [val]
 | x :: a, b => by
  simp only [List.cons_append, val, List.length_cons, Nat.pow_succ, val_append a b]
  rw [Nat.mul_add, Nat.mul_comm (BB ^ a.length) BB, Nat.mul_assoc, Nat.add_assoc]
theorem val_snoc (a : List Nat) (x : Nat) : val (a ++ [x]) = val a + BB ^ a.length * x := by
 rw [val_append]; simp [val]
theorem val_take_succ {l : List Nat} {i : Nat} (h : i < l.length) : val (l.take (i + 1)) = val (l.take i) + BB ^ i * l[i] := by
 rw [List.take_succ_eq_append_getElem h, val_snoc, List.length_take, Nat.min_eq_left (by omega)]
theorem val_split (l : List Nat) (i : Nat) (h : i ≤ l.length) : val l = val (l.take i) + BB ^ i * val (l.drop i) := by
 have := val_append (l.take i) (l.drop i)
 rw [List.take_append_drop, List.length_take, Nat.min_eq_left h] at this
 exact this
theorem val_replicate (n : Nat) : val (List.replicate n 0) = 0 := by
 induction n with
 | zero => rfl
 | succ n ih => rw [List.replicate_succ]; simp [val, ih]
theorem val_lt : ∀ {a : List Nat}, ok a → val a < BB ^ a.length
 | [], _ => by simp [val]
 | x :: a, h => by
  have h1 := h x (by simp)
  have h2 := val_lt (a := a) fun d hd => h d (by simp [hd])
  simp only [val, List.length_cons, Nat.pow_succ]
  have h3 : BB * val a + BB ≤ BB * BB ^ a.length := by
   rw [← Nat.mul_succ]; exact Nat.mul_le_mul_left _ h2
  rw [Nat.mul_comm (BB ^ a.length)]
  omega
def strip (l : List Nat) : List Nat := (l.reverse.dropWhile (· == 0)).reverse
theorem strip_snoc_zero (l : List Nat) : strip (l ++ [0]) = strip l := by simp [strip]
theorem strip_snoc_pos (l : List Nat) (d : Nat) (h : d ≠ 0) : strip (l ++ [d]) = l ++ [d] := by simp [strip, h]
theorem strip_nil : strip [] = [] := rfl
theorem snoc_ind {P : List Nat → Prop} (h0 : P []) (h1 : ∀ l d, P l → P (l ++ [d])) (l : List Nat) : P l := by
 have : ∀ m : List Nat, P m.reverse := by
  intro m
  induction m with
  | nil => exact h0
  | cons d m ih => rw [List.reverse_cons]; exact h1 _ _ ih
 have h := this l.reverse
 rwa [List.reverse_reverse] at h
theorem strip_take : ∀ l : List Nat, strip l = l.take (strip l).length ∧ (strip l).length ≤ l.length := by
 apply snoc_ind
 ·exact ⟨rfl, Nat.le_refl _⟩
 ·intro l d ih
  by_cases h : d = 0
  ·subst h
   rw [strip_snoc_zero]
   refine ⟨?_, by rw [List.length_append]; omega⟩
   rw [List.take_append_of_le_length ih.2]; exact ih.1
  ·rw [strip_snoc_pos _ _ h]
   exact ⟨by rw [List.take_length], Nat.le_refl _⟩
theorem val_strip : ∀ l : List Nat, val (strip l) = val l := by
 apply snoc_ind
 ·rfl
 ·intro l d ih
  by_cases h : d = 0
  ·subst h
   rw [strip_snoc_zero, ih, val_snoc]; simp
  ·rw [strip_snoc_pos _ _ h]
theorem strip_le (l : List Nat) : (strip l).length ≤ l.length := (strip_take l).2
theorem ok_strip {l : List Nat} (h : ok l) : ok (strip l) := by rw [(strip_take l).1]; exact ok_take h _
theorem strip_len_of_lt : ∀ (l : List Nat) (n : Nat), val l < BB ^ n → (strip l).length ≤ n := by
 apply snoc_ind (P := fun l => ∀ n, val l < BB ^ n → (strip l).length ≤ n)
 ·intro n _; exact Nat.zero_le _
 ·intro l d ih n h
  by_cases hd : d = 0
  ·subst hd
   rw [strip_snoc_zero]
   rw [val_snoc] at h
   exact ih n (by simpa using h)
  ·rw [strip_snoc_pos _ _ hd, List.length_append]
   rw [val_snoc] at h
   apply Classical.byContradiction
   intro hc
   simp only [List.length_cons, List.length_nil, Nat.zero_add, Nat.not_le] at hc
   have h1 : BB ^ n ≤ BB ^ l.length := Nat.pow_le_pow_right BB_pos (by omega)
   have h2 : BB ^ l.length * 1 ≤ BB ^ l.length * d := Nat.mul_le_mul_left _ (by omega)
   omega
theorem strip_last : ∀ (l : List Nat) (n : Nat), (strip l).length = n + 1 → ∃ d, (strip l)[n]? = some d ∧ d ≠ 0 := by
 apply snoc_ind (P := fun l => ∀ n, (strip l).length = n + 1 → ∃ d, (strip l)[n]? = some d ∧ d ≠ 0)
 ·intro n h; simp [strip_nil] at h
 ·intro l d ih n h
  by_cases hd : d = 0
  ·subst hd
   rw [strip_snoc_zero] at h ⊢
   exact ih n h
  ·rw [strip_snoc_pos _ _ hd] at h ⊢
   rw [List.length_append] at h
   simp only [List.length_cons, List.length_nil] at h
   obtain rfl : n = l.length := by omega
   exact ⟨d, by simp, hd⟩
theorem strip_step {l : List Nat} {n : Nat} (hn : n ≤ l.length) (h : strip (l.take n) = strip l) (h0 : ∀ m, n = m + 1 → l[m]? = some 0) : n = 0 ∨ strip (l.take (n - 1)) = strip l := by
 cases n with
 | zero => exact .inl rfl
 | succ m =>
  right
  have h1 := h0 m rfl
  have hm : m < l.length := by omega
  have h2 : l[m] = 0 := by rw [List.getElem?_eq_getElem hm] at h1; exact Option.some.inj h1
  rw [Nat.add_sub_cancel]
  rw [List.take_succ_eq_append_getElem hm, h2, strip_snoc_zero] at h
  exact h
theorem strip_stop {l : List Nat} {n : Nat} (hn : n ≤ l.length) (h : strip (l.take n) = strip l) (h0 : n = 0 ∨ ∃ m x, n = m + 1 ∧ l[m]? = some x ∧ x ≠ 0) : (strip l).length = n := by
 rcases h0 with rfl | ⟨m, x, rfl, h1, h2⟩
 ·rw [← h]; rfl
 ·have hm : m < l.length := by omega
  have h3 : l[m] = x := by rw [List.getElem?_eq_getElem hm] at h1; exact Option.some.inj h1
  rw [List.take_succ_eq_append_getElem hm, h3, strip_snoc_pos _ _ h2] at h
  rw [← h, List.length_append, List.length_take, Nat.min_eq_left (by omega)]; rfl
theorem carry_add {P X Y Z x y c s c' : Nat} (h : Z + P * c = X + Y) (hs : s + BB * c' = x + y + c) : (Z + P * s) + P * BB * c' = (X + P * x) + (Y + P * y) := by
 have h1 : P * s + P * (BB * c') = P * x + P * y + P * c := by rw [← Nat.mul_add, hs, Nat.mul_add, Nat.mul_add]
 rw [Nat.mul_assoc]
 omega
theorem set_take {l : List Nat} {i o : Nat} (x : Nat) (h : o ≤ i) : (l.set i x).take o = l.take o := by
 rw [List.take_set, List.set_eq_of_length_le]
 rw [List.length_take]; omega
theorem set_drop {l : List Nat} {i : Nat} (x : Nat) : (l.set i x).drop (i + 1) = l.drop (i + 1) := by
 rw [List.drop_set_of_lt (by omega)]
theorem set_mid {l : List Nat} {o i : Nat} (x : Nat) (h : o + i < l.length) : ((l.set (o + i) x).drop o).take (i + 1) = (l.drop o).take i ++ [x] := by
 have h1 : (l.set (o + i) x).drop o = (l.drop o).set i x := by
  rw [List.drop_set]; rw [if_neg (by omega), Nat.add_sub_cancel_left]
 rw [h1, List.take_succ_eq_append_getElem (by rw [List.length_set, List.length_drop]; omega), set_take x (Nat.le_refl i)]
 simp
end NatP
namespace NatP
theorem val_set : ∀ (l : List Nat) (i s : Nat) (h : i < l.length), val (l.set i s) + BB ^ i * l[i] = val l + BB ^ i * s
 | [], i, s, h => by simp at h
 | x :: l, 0, s, h => by simp [val]; omega
 | x :: l, i + 1, s, h => by
  have ih := val_set l i s (by simpa using h)
  simp only [List.set_cons_succ, val, List.getElem_cons_succ, Nat.pow_succ]
  have e : ∀ q, BB ^ i * BB * q = BB * (BB ^ i * q) := fun q => by rw [Nat.mul_comm (BB ^ i) BB, Nat.mul_assoc]
  rw [e, e]
  have : BB * val (l.set i s) + BB * (BB ^ i * l[i]'(by simpa using h)) = BB * val l + BB * (BB ^ i * s) := by rw [← Nat.mul_add, ih, Nat.mul_add]
  omega
theorem val_set' {l : List Nat} {i s z : Nat} (h : l[i]? = some z) : val (l.set i s) + BB ^ i * z = val l + BB ^ i * s := by
 obtain ⟨h1, h2⟩ := List.getElem?_eq_some_iff.1 h
 have := val_set l i s h1
 rw [h2] at this; exact this
theorem row_words {x y z cc hi lo s1 c1 h2 s2 c2 : Nat} (hx : x < BB) (hy : y < BB) (hz : z < BB) (hc : cc < BB) (hp : hi * BB + lo = x * y) (h1 : s1 + BB * c1 = lo + cc) (h3 : h2 = hi + c1) (h4 : s2 + BB * c2 = z + s1) :
  h2 < BB ∧ s2 + BB * (h2 + c2) = z + x * y + cc ∧ h2 + c2 < BB := by
 have hxy : x * y ≤ 18446744073709551615 * 18446744073709551615 := Nat.mul_le_mul (by unfold BB at hx; omega) (by unfold BB at hy; omega)
 unfold BB at *
 refine ⟨by omega, by omega, by omega⟩
def InSt (M0 ys : List Nat) (k x j cc : Nat) (M : List Nat) : Prop :=
 M.length = M0.length ∧ (∀ q, k + ys.length ≤ q → M[q]? = M0[q]?) ∧ val M + BB ^ (k + j) * cc = val M0 + BB ^ k * (x * val (ys.take j))
theorem InSt.start (M0 ys : List Nat) (k x : Nat) : InSt M0 ys k x 0 0 M0 := ⟨rfl, fun _ _ => rfl, by simp [val]⟩
theorem InSt.step {M0 ys M : List Nat} {k x j cc z y s cc' : Nat} (h : InSt M0 ys k x j cc M) (hz : M[k + j]? = some z) (hy : ys[j]? = some y) (hs : s + BB * cc' = z + x * y + cc) :
  InSt M0 ys k x (j + 1) cc' (M.set (k + j) s) := by
 obtain ⟨h1, h2, h3⟩ := h
 obtain ⟨hjl, hyv⟩ := List.getElem?_eq_some_iff.1 hy
 refine ⟨by rw [List.length_set, h1], fun q hq => ?_, ?_⟩
 ·rw [List.getElem?_set_ne (by omega)]; exact h2 q hq
 ·have e1 := val_set' (s := s) hz
  have e2 := val_take_succ hjl
  rw [hyv] at e2
  rw [e2, ← Nat.add_assoc, Nat.pow_succ]
  have e3 : BB ^ k * (x * (val (ys.take j) + BB ^ j * y)) = BB ^ k * (x * val (ys.take j)) + BB ^ (k + j) * (x * y) := by
   rw [Nat.mul_add, Nat.mul_add, Nat.pow_add]
   congr 1
   rw [Nat.mul_left_comm x, Nat.mul_assoc]
  rw [e3]
  generalize BB ^ (k + j) = P at *
  have e4 : P * s + P * (BB * cc') = P * z + P * (x * y) + P * cc := by rw [← Nat.mul_add, hs, Nat.mul_add, Nat.mul_add]
  rw [Nat.mul_assoc]
  omega
def OutSt (xs ys : List Nat) (k : Nat) (M : List Nat) : Prop :=
 M.length = xs.length + ys.length ∧ (∀ q, k + ys.length ≤ q → q < M.length → M[q]? = some 0) ∧ val M = val (xs.take k) * val ys
theorem OutSt.start (xs ys : List Nat) : OutSt xs ys 0 (List.replicate (xs.length + ys.length) 0) :=
 ⟨List.length_replicate, fun q _ hq => by rw [List.length_replicate] at hq; simp [hq], by rw [val_replicate]; simp [val]⟩
theorem OutSt.zero {xs ys M : List Nat} {k : Nat} (h : OutSt xs ys k M) (hx : xs[k]? = some 0) : OutSt xs ys (k + 1) M := by
 obtain ⟨h1, h2, h3⟩ := h
 obtain ⟨hk, hv⟩ := List.getElem?_eq_some_iff.1 hx
 refine ⟨h1, fun q hq hl => h2 q (by omega) hl, ?_⟩
 rw [val_take_succ hk, hv, h3]; simp
theorem OutSt.row {xs ys M0 M : List Nat} {k x cc : Nat} (h : OutSt xs ys k M0) (hx : xs[k]? = some x) (hi : InSt M0 ys k x ys.length cc M) : OutSt xs ys (k + 1) (M.set (k + ys.length) cc) ∧ M[k + ys.length]? = some 0 := by
 obtain ⟨h1, h2, h3⟩ := h
 obtain ⟨i1, i2, i3⟩ := hi
 obtain ⟨hk, hv⟩ := List.getElem?_eq_some_iff.1 hx
 have hz : M[k + ys.length]? = some 0 := by rw [i2 _ (Nat.le_refl _)]; exact h2 _ (Nat.le_refl _) (by omega)
 refine ⟨⟨by rw [List.length_set, i1, h1], fun q hq hl => ?_, ?_⟩, hz⟩
 ·rw [List.getElem?_set_ne (by omega), i2 q (by omega)]
  rw [List.length_set] at hl
  exact h2 q (by omega) (by omega)
 ·have e1 := val_set' (s := cc) hz
  rw [List.take_length] at i3
  rw [val_take_succ hk, hv, Nat.add_mul, ← h3]
  have e2 : BB ^ k * x * val ys = BB ^ k * (x * val ys) := Nat.mul_assoc _ _ _
  rw [e2, ← i3]
  simp only [Nat.mul_zero, Nat.add_zero] at e1
  omega
theorem OutSt.done {xs ys M : List Nat} (h : OutSt xs ys xs.length M) : M.length = xs.length + ys.length ∧ val M = val xs * val ys := by
 obtain ⟨h1, _, h3⟩ := h
 rw [List.take_length] at h3
 exact ⟨h1, h3⟩
theorem no_carry {V W P c : Nat} (h : V + P * c = W) (hW : W < P) : c = 0 ∧ V = W := by
 cases c with
 | zero => exact ⟨rfl, by simpa using h⟩
 | succ c => rw [Nat.mul_succ] at h; omega
theorem two_BB : 2 ≤ BB := by unfold BB; omega
theorem two_below {a b m : Nat} (ha : a < BB ^ m) (hb : b < BB ^ m) : a + b < BB ^ (m + 1) := by
 rw [Nat.pow_succ]
 have h := Nat.mul_le_mul_left (BB ^ m) two_BB
 generalize BB ^ m * BB = Q at *
 generalize BB ^ m = P at *
 omega
end NatP
namespace NatP
theorem mid_eq (A0 A1 B0 B1 : Nat) : (A0 + A1) * (B0 + B1) = A0 * B0 + A1 * B1 + (A0 * B1 + A1 * B0) := by
 rw [Nat.add_mul, Nat.mul_add, Nat.mul_add]; omega
theorem whole_eq (A0 A1 B0 B1 P : Nat) : (A0 + P * A1) * (B0 + P * B1) = A0 * B0 + P * P * (A1 * B1) + P * (A0 * B1 + A1 * B0) := by
 rw [Nat.add_mul, Nat.mul_add, Nat.mul_add]
 have e1 : A0 * (P * B1) = P * (A0 * B1) := by rw [Nat.mul_left_comm]
 have e2 : P * A1 * B0 = P * (A1 * B0) := Nat.mul_assoc _ _ _
 have e3 : P * A1 * (P * B1) = P * P * (A1 * B1) := by rw [Nat.mul_assoc, Nat.mul_assoc, Nat.mul_left_comm A1]
 rw [e1, e2, e3, Nat.mul_add]; omega
theorem mul_lt_pow {xs ys : List Nat} (hx : ok xs) (hy : ok ys) : val xs * val ys < BB ^ (xs.length + ys.length) := by
 rw [Nat.pow_add]
 exact Nat.mul_lt_mul_of_lt_of_le (val_lt hx) (Nat.le_of_lt (val_lt hy)) (Nat.pow_pos BB_pos)
theorem strip_short (l : List Nat) {n : Nat} (h : val l < BB ^ n) : (strip l).length ≤ n := strip_len_of_lt l n h
structure Half (xs ys : List Nat) (h : Nat) : Prop where
 okx : ok xs
 oky : ok ys
 hx : h ≤ xs.length
 hy : h ≤ ys.length
theorem Half.vx {xs ys : List Nat} {h : Nat} (H : Half xs ys h) : val xs = val (xs.take h) + BB ^ h * val (xs.drop h) := val_split xs h H.hx
theorem Half.vy {xs ys : List Nat} {h : Nat} (H : Half xs ys h) : val ys = val (ys.take h) + BB ^ h * val (ys.drop h) := val_split ys h H.hy
theorem Half.low_len {xs ys L : List Nat} {h : Nat} (H : Half xs ys h) (hL : val L = val (xs.take h) * val (ys.take h)) : (strip L).length ≤ 2 * h := by
 refine strip_short L ?_
 have := mul_lt_pow (ok_take H.okx h) (ok_take H.oky h)
 rw [List.length_take, List.length_take, Nat.min_eq_left H.hx, Nat.min_eq_left H.hy] at this
 rw [hL, show 2 * h = h + h from by omega]; exact this
theorem Half.high_len {xs ys L : List Nat} {h : Nat} (H : Half xs ys h) (hL : val L = val (xs.drop h) * val (ys.drop h)) : (strip L).length ≤ xs.length + ys.length - 2 * h := by
 refine strip_short L ?_
 have := mul_lt_pow (ok_drop H.okx h) (ok_drop H.oky h)
 rw [List.length_drop, List.length_drop] at this
 have h1 := H.hx
 have h2 := H.hy
 rw [hL, show xs.length + ys.length - 2 * h = xs.length - h + (ys.length - h) from by omega]; exact this
theorem Half.sub1 {xs ys Lm Ll : List Nat} {h : Nat} (hm : ok Lm) (hv : val Lm = (val (xs.take h) + val (xs.drop h)) * (val (ys.take h) + val (ys.drop h))) (hl : val Ll = val (xs.take h) * val (ys.take h)) :
  val (strip Ll) ≤ val Lm ∧ (strip Ll).length ≤ Lm.length := by
 have h1 : val Ll ≤ val Lm := by rw [hv, hl, mid_eq]; omega
 exact ⟨by rw [val_strip]; exact h1, strip_short Ll (Nat.lt_of_le_of_lt h1 (val_lt hm))⟩
theorem Half.sub2 {xs ys Lm Ll Lh M1 : List Nat} {h : Nat} (hm : ok M1) (hv : val Lm = (val (xs.take h) + val (xs.drop h)) * (val (ys.take h) + val (ys.drop h))) (hl : val Ll = val (xs.take h) * val (ys.take h)) (hh : val Lh = val (xs.drop h) * val (ys.drop h))
  (h1 : val M1 + val (strip Ll) = val Lm) : val (strip Lh) ≤ val M1 ∧ (strip Lh).length ≤ M1.length := by
 have h2 : val Lh ≤ val M1 := by
  rw [val_strip, hv, hl, mid_eq] at h1
  rw [hh]; omega
 exact ⟨by rw [val_strip]; exact h2, strip_short Lh (Nat.lt_of_le_of_lt h2 (val_lt hm))⟩
theorem Half.mid {xs ys Lm Ll Lh M1 M2 : List Nat} {h : Nat} (hv : val Lm = (val (xs.take h) + val (xs.drop h)) * (val (ys.take h) + val (ys.drop h))) (hl : val Ll = val (xs.take h) * val (ys.take h)) (hh : val Lh = val (xs.drop h) * val (ys.drop h))
  (h1 : val M1 + val (strip Ll) = val Lm) (h2 : val M2 + val (strip Lh) = val M1) : val M2 = val (xs.take h) * val (ys.drop h) + val (xs.drop h) * val (ys.take h) := by
 rw [val_strip, hv, hl, mid_eq] at h1
 rw [val_strip, hh] at h2
 omega
theorem Half.mid_len {xs ys M2 : List Nat} {h : Nat} (H : Half xs ys h) (hv : val M2 = val (xs.take h) * val (ys.drop h) + val (xs.drop h) * val (ys.take h)) : (strip M2).length ≤ xs.length + ys.length - h := by
 refine strip_short M2 ?_
 have h1 := mul_lt_pow H.okx H.oky
 rw [H.vx, H.vy, whole_eq, ← hv] at h1
 have h2 := H.hx
 have h3 : BB ^ (xs.length + ys.length) = BB ^ h * BB ^ (xs.length + ys.length - h) := by rw [← Nat.pow_add]; congr 1; omega
 rw [h3] at h1
 exact Nat.lt_of_mul_lt_mul_left (a := BB ^ h) (by omega)
theorem Half.add1 {xs ys Ll Lh M : List Nat} {h N : Nat} (H : Half xs ys h) (hN : N = xs.length + ys.length) (hl : val Ll = val (xs.take h) * val (ys.take h)) (hh : val Lh = val (xs.drop h) * val (ys.drop h)) {Z : List Nat} (hZ : Z = strip Ll ++ List.replicate (N - (strip Ll).length) 0)
  (hM : M.length = Z.length) (ht : M.take (2 * h) = Z.take (2 * h)) (hc : ∃ c, val (M.drop (2 * h)) + BB ^ (Z.length - 2 * h) * c = val (Z.drop (2 * h)) + val (strip Lh)) :
  M.length = N ∧ val M = val (xs.take h) * val (ys.take h) + BB ^ h * BB ^ h * (val (xs.drop h) * val (ys.drop h)) := by
 have h1 := H.hx
 have h2 := H.hy
 have hll := H.low_len hl
 have hZl : Z.length = N := by rw [hZ, List.length_append, List.length_replicate]; omega
 have hZd : val (Z.drop (2 * h)) = 0 := by
  rw [hZ, List.drop_append, List.drop_eq_nil_of_le hll, List.nil_append, List.drop_replicate, val_replicate]
 have hZt : val (Z.take (2 * h)) = val (xs.take h) * val (ys.take h) := by
  have e := val_split Z (2 * h) (by omega)
  rw [hZd] at e
  have e2 : val Z = val (strip Ll) := by rw [hZ, val_append, val_replicate]; simp
  rw [e2, val_strip, hl] at e
  simpa using e.symm
 obtain ⟨c, hc⟩ := hc
 rw [hZd, Nat.zero_add, val_strip, hh, hZl] at hc
 have hb : val (xs.drop h) * val (ys.drop h) < BB ^ (N - 2 * h) := by
  have := mul_lt_pow (ok_drop H.okx h) (ok_drop H.oky h)
  rw [List.length_drop, List.length_drop] at this
  rw [show N - 2 * h = xs.length - h + (ys.length - h) from by omega]; exact this
 obtain ⟨_, hd⟩ := no_carry hc hb
 refine ⟨by rw [hM, hZl], ?_⟩
 rw [val_split M (2 * h) (by omega), ht, hZt, hd, ← Nat.pow_add, show h + h = 2 * h from by omega]
theorem Half.add2 {xs ys M2 Lm Z : List Nat} {h : Nat} (H : Half xs ys h) (hZ : Z.length = xs.length + ys.length) (hv : val Z = val (xs.take h) * val (ys.take h) + BB ^ h * BB ^ h * (val (xs.drop h) * val (ys.drop h)))
  (hm : val Lm = val (xs.take h) * val (ys.drop h) + val (xs.drop h) * val (ys.take h))
  (hM : M2.length = Z.length) (ht : M2.take h = Z.take h) (hc : ∃ c, val (M2.drop h) + BB ^ (Z.length - h) * c = val (Z.drop h) + val (strip Lm)) :
  M2.length = xs.length + ys.length ∧ val M2 = val xs * val ys := by
 have h1 := H.hx
 refine ⟨by rw [hM, hZ], ?_⟩
 obtain ⟨c, hc⟩ := hc
 have e1 := val_split M2 h (by omega)
 have e2 := val_split Z h (by omega)
 rw [ht] at e1
 have e3 : val M2 + BB ^ Z.length * c = val Z + BB ^ h * val (strip Lm) := by
  have : BB ^ Z.length = BB ^ h * BB ^ (Z.length - h) := by rw [← Nat.pow_add]; congr 1; omega
  rw [this, Nat.mul_assoc, e1, e2, Nat.add_assoc, ← Nat.mul_add, hc, Nat.mul_add, Nat.add_assoc]
 have e4 : val Z + BB ^ h * val (strip Lm) = val xs * val ys := by
  rw [val_strip, hm, hv, H.vx, H.vy, whole_eq]
 rw [e4, hZ] at e3
 exact (no_carry e3 (mul_lt_pow H.okx H.oky)).2
def PiSt (xs ys : List Nat) (i : Nat) (M : List Nat) : Prop := M.length = xs.length + ys.length ∧ val M = val (xs.take i) * val ys
theorem PiSt.start (xs ys : List Nat) : PiSt xs ys 0 (List.replicate (xs.length + ys.length) 0) := ⟨List.length_replicate, by rw [val_replicate]; simp [val]⟩
theorem PiSt.step {xs ys L M P : List Nat} {i e : Nat} (hx : ok xs) (hy : ok ys) (h : PiSt xs ys i L) (hie : i ≤ e) (he : e ≤ xs.length) (hP : val P = val ((xs.drop i).take (e - i)) * val ys)
  (hM : M.length = L.length) (ht : M.take i = L.take i) (hc : ∃ c, val (M.drop i) + BB ^ (L.length - i) * c = val (L.drop i) + val (strip P)) : PiSt xs ys e M := by
 obtain ⟨h1, h2⟩ := h
 refine ⟨by rw [hM, h1], ?_⟩
 obtain ⟨c, hc⟩ := hc
 have e1 := val_split M i (by omega)
 have e2 := val_split L i (by omega)
 rw [ht] at e1
 have e3 : val M + BB ^ L.length * c = val L + BB ^ i * val (strip P) := by
  have : BB ^ L.length = BB ^ i * BB ^ (L.length - i) := by rw [← Nat.pow_add]; congr 1; omega
  rw [this, Nat.mul_assoc, e1, e2, Nat.add_assoc, ← Nat.mul_add, hc, Nat.mul_add, Nat.add_assoc]
 have e4 : val L + BB ^ i * val (strip P) = val (xs.take e) * val ys := by
  have e5 := val_split (xs.take e) i (by rw [List.length_take]; omega)
  rw [List.take_take, Nat.min_eq_left hie, List.drop_take] at e5
  rw [val_strip, hP, h2, e5, Nat.add_mul, Nat.mul_assoc]
 rw [e4, h1] at e3
 refine (no_carry e3 ?_).2
 have h3 := mul_lt_pow (ok_take hx e) hy
 refine Nat.lt_of_lt_of_le h3 (Nat.pow_le_pow_right BB_pos ?_)
 rw [List.length_take]; omega
theorem PiSt.done {xs ys M : List Nat} (h : PiSt xs ys xs.length M) : M.length = xs.length + ys.length ∧ val M = val xs * val ys := by
 obtain ⟨h1, h2⟩ := h
 rw [List.take_length] at h2
 exact ⟨h1, h2⟩
theorem piece_len {xs ys P : List Nat} {i e : Nat} (hx : ok xs) (hy : ok ys) (he : e ≤ xs.length) (hP : val P = val ((xs.drop i).take (e - i)) * val ys) (hie : i ≤ e) : (strip P).length ≤ xs.length + ys.length - i := by
 refine strip_short P ?_
 have := mul_lt_pow (ok_take (ok_drop hx i) (e - i)) hy
 rw [hP]
 refine Nat.lt_of_lt_of_le this (Nat.pow_le_pow_right BB_pos ?_)
 rw [List.length_take, List.length_drop]; omega
end NatP
namespace NatP
def decV (ds : List Nat) : Nat := ds.foldl (fun a x => a * 10 + x) 0
theorem foldl_dec : ∀ (b : List Nat) (a : Nat), b.foldl (fun a x => a * 10 + x) a = a * 10 ^ b.length + decV b
 | [], a => by simp [decV]
 | x :: b, a => by
  have h1 := foldl_dec b (a * 10 + x)
  have h2 := foldl_dec b (0 * 10 + x)
  have e : decV (x :: b) = b.foldl (fun a x => a * 10 + x) (0 * 10 + x) := rfl
  rw [List.foldl_cons, h1, e, h2, List.length_cons, Nat.pow_succ, Nat.zero_mul, Nat.zero_add, Nat.add_mul, Nat.mul_assoc, Nat.mul_comm 10, Nat.add_assoc]
theorem decV_append (a b : List Nat) : decV (a ++ b) = decV a * 10 ^ b.length + decV b := by
 unfold decV; rw [List.foldl_append]; exact foldl_dec b _
theorem decV_snoc (a : List Nat) (x : Nat) : decV (a ++ [x]) = decV a * 10 + x := by
 rw [decV_append]; simp [decV]
theorem decV_lt {ds : List Nat} (h : ∀ x ∈ ds, x < 10) : decV ds < 10 ^ ds.length := by
 refine snoc_ind (P := fun ds => (∀ x ∈ ds, x < 10) → decV ds < 10 ^ ds.length) (fun _ => by simp [decV]) (fun l d ih h => ?_) ds h
 have h1 := ih fun x hx => h x (by simp [hx])
 have h2 := h d (by simp)
 rw [decV_snoc, List.length_append, List.length_cons, List.length_nil, Nat.pow_succ]
 omega
theorem decV_take_succ {ds : List Nat} {i x : Nat} (h : ds[i]? = some x) : decV (ds.take (i + 1)) = decV (ds.take i) * 10 + x := by
 rw [List.take_add_one, h]; exact decV_snoc _ _
theorem ten_BB (n : Nat) : 10 ^ n ≤ BB ^ n := Nat.pow_le_pow_left (by unfold BB; omega) n
theorem ten_19 {n : Nat} (h : n ≤ 19) : 10 ^ n < BB := by
 have h1 : 10 ^ n ≤ 10 ^ 19 := Nat.pow_le_pow_right (by omega) h
 have h2 : (10 : Nat) ^ 19 < BB := by unfold BB; decide
 omega
theorem dec_len {l : List Nat} {n : Nat} (hs : strip l = l) (h : val l < 10 ^ n) : l.length ≤ n := by
 have := strip_len_of_lt l n (Nat.lt_of_lt_of_le h (ten_BB n))
 rw [hs] at this; exact this
theorem dec_len' {l : List Nat} {n : Nat} (hs : strip l = l) (h : val l ≤ 10 ^ n) : l.length ≤ n + 1 := by
 refine dec_len hs (Nat.lt_of_le_of_lt h ?_)
 rw [Nat.pow_succ]
 have : 0 < 10 ^ n := Nat.pow_pos (by omega)
 omega
theorem decV_split (ds : List Nat) (i : Nat) (h : i ≤ ds.length) : decV ds = decV (ds.take i) * 10 ^ (ds.length - i) + decV (ds.drop i) := by
 have := decV_append (ds.take i) (ds.drop i)
 rw [List.take_append_drop, List.length_drop] at this
 exact this
def digVal (c : Nat) : Nat := if 48 ≤ c ∧ c ≤ 57 then c - 48 else if 97 ≤ c ∧ c ≤ 122 then c - 87 else if 65 ≤ c ∧ c ≤ 90 then c - 55 else 36
end NatP
namespace NatP
def dg (n : Nat) : List Nat := if n = 0 then [] else dg (n / 10) ++ [n % 10]
termination_by n
decreasing_by omega
theorem dg_zero : dg 0 = [] := by rw [dg]; rfl
theorem dg_pos {n : Nat} (h : 0 < n) : dg n = dg (n / 10) ++ [n % 10] := by rw [dg, if_neg (by omega)]
theorem dg_lt : ∀ n, ∀ x ∈ dg n, x < 10 := by
 intro n
 induction n using Nat.strongRecOn with
 | ind n ih =>
  intro x hx
  by_cases h : n = 0
  ·subst h; rw [dg_zero] at hx; cases hx
  ·rw [dg_pos (by omega)] at hx
   rcases List.mem_append.1 hx with hx | hx
   ·exact ih (n / 10) (by omega) x hx
   ·simp at hx; omega
def fw (n : Nat) : Nat → List Nat
 | 0 => []
 | w + 1 => fw (n / 10) w ++ [n % 10]
theorem fw_len (n : Nat) : ∀ w, (fw n w).length = w := by
 intro w
 induction w generalizing n with
 | zero => rfl
 | succ w ih => rw [fw, List.length_append, ih]; rfl
theorem fw_zero (w : Nat) : fw 0 w = List.replicate w 0 := by
 induction w with
 | zero => rfl
 | succ w ih => rw [fw, Nat.zero_div, ih, ← List.replicate_succ']
def pad (n w : Nat) : List Nat := List.replicate (w - (dg n).length) 0 ++ dg n
theorem dg_len_le {n w : Nat} (h : n < 10 ^ w) : (dg n).length ≤ w := by
 induction w generalizing n with
 | zero =>
  have : n = 0 := by rw [Nat.pow_zero] at h; omega
  subst this; rw [dg_zero]; exact Nat.le_refl _
 | succ w ih =>
  by_cases h0 : n = 0
  ·subst h0; rw [dg_zero]; exact Nat.zero_le _
  ·rw [dg_pos (by omega), List.length_append]
   have := ih (n := n / 10) (by rw [Nat.pow_succ] at h; omega)
   simp only [List.length_cons, List.length_nil]; omega
theorem pad_fw {n w : Nat} (h : n < 10 ^ w) : pad n w = fw n w := by
 induction w generalizing n with
 | zero =>
  have : n = 0 := by rw [Nat.pow_zero] at h; omega
  subst this; simp [pad, dg_zero, fw]
 | succ w ih =>
  by_cases h0 : n = 0
  ·subst h0; rw [fw_zero]; simp [pad, dg_zero]
  ·have h1 : n / 10 < 10 ^ w := by rw [Nat.pow_succ] at h; omega
   have h2 := ih h1
   rw [fw, ← h2, pad, pad, dg_pos (by omega : 0 < n), List.length_append, List.length_cons, List.length_nil]
   rw [show w + 1 - ((dg (n / 10)).length + (0 + 1)) = w - (dg (n / 10)).length from by omega, List.append_assoc]
theorem dg_split {q r l : Nat} (hq : 0 < q) (hr : r < 10 ^ l) : dg (q * 10 ^ l + r) = dg q ++ fw r l := by
 induction l generalizing r with
 | zero =>
  have : r = 0 := by rw [Nat.pow_zero] at hr; omega
  subst this; simp [fw]
 | succ l ih =>
  have hp : 0 < 10 ^ l := Nat.pow_pos (by omega)
  have hq2 : 0 < q * 10 ^ l := Nat.mul_pos hq hp
  have e : q * 10 ^ (l + 1) + r = 10 * (q * 10 ^ l) + r := by rw [Nat.pow_succ, ← Nat.mul_assoc, Nat.mul_comm _ 10]
  have h1 : r / 10 < 10 ^ l := by rw [Nat.pow_succ] at hr; omega
  have e2 : (10 * (q * 10 ^ l) + r) / 10 = q * 10 ^ l + r / 10 := by omega
  have e3 : (10 * (q * 10 ^ l) + r) % 10 = r % 10 := by omega
  rw [e, dg_pos (by omega), e2, e3, ih h1, fw, List.append_assoc]
theorem pad_split {q r l w : Nat} (hq : 0 < q) (hr : r < 10 ^ l) : pad (q * 10 ^ l + r) w = pad q (w - l) ++ fw r l := by
 rw [pad, dg_split hq hr, List.length_append, fw_len, pad, ← List.append_assoc]
 rw [show w - ((dg q).length + l) = w - l - (dg q).length from by omega]
def gq (U V : Nat) : Nat := min (BB - 1) (U / V)
theorem gq_right {U V P u3 v2 ul vl : Nat} (hU : U = u3 * P + ul) (hul : ul < P) (hV : V = v2 * P + vl) (hvl : vl < P) (hlt : U < V * BB) (hv2 : BB ≤ v2) :
  U / V ≤ gq u3 v2 ∧ gq u3 v2 ≤ U / V + 1 := by
 have hP : 0 < P := by omega
 have hB := BB_pos
 have hv0 : 0 < v2 := by omega
 have hV0 : 0 < V := by rw [hV]; have := Nat.mul_pos hv0 hP; omega
 constructor
 ·unfold gq
  refine Nat.le_min.2 ⟨?_, ?_⟩
  ·have : U / V < BB := (Nat.div_lt_iff_lt_mul hV0).2 (by rw [Nat.mul_comm]; exact hlt)
   omega
  ·rw [Nat.le_div_iff_mul_le hv0]
   have h1 : U / V * V ≤ U := Nat.div_mul_le_self U V
   have h2 : U / V * v2 * P ≤ U / V * V := by
    rw [Nat.mul_assoc]; exact Nat.mul_le_mul_left _ (by rw [hV]; omega)
   have h3 : U < (u3 + 1) * P := by rw [hU, Nat.add_mul, Nat.one_mul]; omega
   have h4 : U / V * v2 * P < (u3 + 1) * P := by omega
   have h5 := Nat.lt_of_mul_lt_mul_right h4
   omega
 ·have hg1 : gq u3 v2 ≤ u3 / v2 := Nat.min_le_right _ _
  have hg2 : gq u3 v2 ≤ BB - 1 := Nat.min_le_left _ _
  generalize gq u3 v2 = g at *
  cases g with
  | zero => exact Nat.zero_le _
  | succ g =>
   have h1 : (g + 1) * v2 ≤ u3 := (Nat.le_div_iff_mul_le hv0).1 hg1
   have h2 : (g + 1) * v2 * P ≤ u3 * P := Nat.mul_le_mul_right P h1
   have h3 : g * V ≤ U := by
    have e1 : (g + 1) * v2 * P = g * (v2 * P) + v2 * P := by rw [Nat.mul_assoc, Nat.add_mul, Nat.one_mul]
    have e2 : g * V = g * (v2 * P) + g * vl := by rw [hV, Nat.mul_add]
    have h4 : g * vl ≤ v2 * P := Nat.mul_le_mul (by omega) (by omega)
    omega
   have := (Nat.le_div_iff_mul_le hV0).2 h3
   omega
end NatP
namespace LexP
abbrev Bytes := List UInt8
abbrev C := Option Nat × Bytes
abbrev Tok := Nat × Bytes × Nat
def okRune (v : Nat) : Bool := v < 0xD800 || (0xE000 ≤ v && v ≤ 0x10FFFF)
def isCont (b : UInt8) : Bool := b.toNat / 64 == 2
def dec : Bytes → Option (Nat × Nat)
 | [] => none
 | b :: t =>
  if b.toNat < 0x80 then some (b.toNat, 1)
  else if b.toNat / 32 = 6 then
   match t with
   | c :: _ => if isCont c && 0x80 ≤ (b.toNat % 32) * 64 + c.toNat % 64 then some ((b.toNat % 32) * 64 + c.toNat % 64, 2) else none
   | _ => none
  else if b.toNat / 16 = 14 then
   match t with
   | c :: d :: _ =>
    if isCont c && isCont d && 0x800 ≤ (b.toNat % 16) * 4096 + (c.toNat % 64) * 64 + d.toNat % 64 && okRune ((b.toNat % 16) * 4096 + (c.toNat % 64) * 64 + d.toNat % 64)
    then some ((b.toNat % 16) * 4096 + (c.toNat % 64) * 64 + d.toNat % 64, 3) else none
   | _ => none
  else if b.toNat / 8 = 30 then
   match t with
   | c :: d :: f :: _ =>
    if isCont c && isCont d && isCont f && 0x10000 ≤ (b.toNat % 8) * 262144 + (c.toNat % 64) * 4096 + (d.toNat % 64) * 64 + f.toNat % 64 && okRune ((b.toNat % 8) * 262144 + (c.toNat % 64) * 4096 + (d.toNat % 64) * 64 + f.toNat % 64)
    then some ((b.toNat % 8) * 262144 + (c.toNat % 64) * 4096 + (d.toNat % 64) * 64 + f.toNat % 64, 4) else none
   | _ => none
  else none
theorem dec_width {l : Bytes} {v n : Nat} (h : dec l = some (v, n)) : 1 ≤ n ∧ n ≤ l.length ∧ n ≤ 4 := by
 unfold dec at h
 split at h
 ·cases h
 ·rename_i b t
  split at h
  ·cases h; simp
  split at h
  ·split at h
   ·split at h <;> simp at h; obtain ⟨_, rfl⟩ := h; simp
   ·cases h
  split at h
  ·split at h
   ·split at h <;> simp at h; obtain ⟨_, rfl⟩ := h; simp
   ·cases h
  split at h
  ·split at h
   ·split at h <;> simp at h; obtain ⟨_, rfl⟩ := h; simp
   ·cases h
  ·cases h
theorem dec_le {l : Bytes} {v n : Nat} (h : dec l = some (v, n)) : v ≤ 0x10FFFF := by
 unfold dec at h
 split at h
 ·cases h
 ·rename_i b t
  split at h
  ·cases h; omega
  split at h
  ·split at h
   ·split at h <;> simp at h; omega
   ·cases h
  split at h
  ·split at h
   ·split at h <;> simp at h; omega
   ·cases h
  split at h
  ·split at h
   ·split at h
    ·rename_i hc
     simp only [Bool.and_eq_true, okRune, Bool.or_eq_true, decide_eq_true_eq] at hc
     simp at h; omega
    ·cases h
   ·cases h
  ·cases h
theorem dec_append {l : Bytes} {v n : Nat} (h : dec l = some (v, n)) (t : Bytes) : dec (l ++ t) = some (v, n) := by
 unfold dec at h
 split at h
 ·cases h
 ·rename_i b r
  simp only [List.cons_append]
  unfold dec
  split at h
  ·rename_i h0; simp only [h0, if_true]; exact h
  rename_i h0
  split at h
  ·rename_i h1
   split at h
   ·simp only [h0, h1, if_true, if_false, List.cons_append]; exact h
   ·cases h
  rename_i h1
  split at h
  ·rename_i h2
   split at h
   ·simp only [h0, h1, h2, if_true, if_false, List.cons_append]; exact h
   ·cases h
  rename_i h2
  split at h
  ·rename_i h3
   split at h
   ·simp only [h0, h1, h2, h3, if_true, if_false, List.cons_append]; exact h
   ·cases h
  ·cases h
def chop : Nat → Bytes → List C
 | 0, _ => []
 | _, [] => []
 | n + 1, b :: t =>
  match dec (b :: t) with
  | some (v, k) => (some v, (b :: t).take k) :: chop n ((b :: t).drop k)
  | none => (none, [b]) :: chop n t
def chars (l : Bytes) : List C := chop l.length l
theorem chop_more : ∀ (n : Nat) (l : Bytes), l.length ≤ n → chop n l = chop l.length l := by
 intro n
 induction n using Nat.strongRecOn with
 | ind n ih =>
  intro l hl
  cases l with
  | nil => cases n <;> rfl
  | cons b t =>
   cases n with
   | zero => simp at hl
   | succ n =>
    simp only [List.length_cons, chop]
    simp only [List.length_cons] at hl
    cases hd : dec (b :: t) with
    | none =>
     simp only
     rw [ih n (by omega) t (by omega)]
    | some p =>
     obtain ⟨v, k⟩ := p
     simp only
     have hk := dec_width hd
     have hdl : ((b :: t).drop k).length = t.length + 1 - k := by simp
     rw [ih n (by omega) _ (by rw [hdl]; omega)]
     by_cases hnt : t.length = n
     ·rw [hnt, ih n (by omega) _ (by rw [hdl]; omega)]
     ·rw [ih t.length (by omega) _ (by rw [hdl]; omega)]
theorem chars_nil : chars [] = [] := rfl
theorem chars_some {l : Bytes} {v k : Nat} (h : dec l = some (v, k)) : chars l = (some v, l.take k) :: chars (l.drop k) := by
 cases l with
 | nil => cases h
 | cons b t =>
  have hk := dec_width h
  unfold chars
  simp only [List.length_cons, chop, h]
  rw [chop_more t.length _ (by simp; omega)]
theorem chars_none {b : UInt8} {t : Bytes} (h : dec (b :: t) = none) : chars (b :: t) = (none, [b]) :: chars t := by
 unfold chars
 simp only [List.length_cons, chop, h]
def wid (l : Bytes) : Nat := match dec l with | some (_, k) => k | none => 1
def val (l : Bytes) : Option Nat := (dec l).map (·.1)
theorem wid_pos (l : Bytes) : 1 ≤ wid l := by
 unfold wid
 cases h : dec l with
 | none => simp
 | some p => obtain ⟨v, k⟩ := p; have := dec_width h; simp; omega
theorem wid_le {l : Bytes} (hl : l ≠ []) : wid l ≤ l.length := by
 unfold wid
 cases h : dec l with
 | none => cases l with | nil => exact absurd rfl hl | cons b t => simp
 | some p => obtain ⟨v, k⟩ := p; have := dec_width h; simp; omega
theorem chars_cons {l : Bytes} (hl : l ≠ []) : chars l = (val l, l.take (wid l)) :: chars (l.drop (wid l)) := by
 cases h : dec l with
 | none =>
  cases l with
  | nil => exact absurd rfl hl
  | cons b t => rw [chars_none h]; simp [val, wid, h]
 | some p => obtain ⟨v, k⟩ := p; rw [chars_some h]; simp [val, wid, h]
theorem chars_ind {P : Bytes → Prop} (h0 : P []) (h1 : ∀ l, l ≠ [] → P (l.drop (wid l)) → P l) : ∀ l, P l := by
 intro l
 have : ∀ n (l : Bytes), l.length ≤ n → P l := by
  intro n
  induction n with
  | zero => intro l hl; cases l with | nil => exact h0 | cons _ _ => simp at hl
  | succ n ih =>
   intro l hl
   by_cases he : l = []
   ·rw [he]; exact h0
   ·refine h1 l he (ih _ ?_)
    have := wid_pos l
    have := wid_le he
    simp only [List.length_drop]; omega
 exact this _ l (Nat.le_refl _)
theorem chars_len : ∀ l : Bytes, (chars l).length ≤ l.length := by
 apply chars_ind
 ·simp [chars_nil]
 ·intro l hl ih
  rw [chars_cons hl]
  have := wid_pos l
  have := wid_le hl
  simp only [List.length_cons, List.length_drop] at ih ⊢
  omega
def bytesOf (cs : List C) : Bytes := cs.flatMap (·.2)
theorem bytesOf_chars : ∀ l : Bytes, bytesOf (chars l) = l := by
 apply chars_ind
 ·rfl
 ·intro l hl ih
  rw [chars_cons hl]
  simp only [bytesOf, List.flatMap_cons] at ih ⊢
  rw [ih, List.take_append_drop]
def kindOf (r : Nat) : Nat :=
 if r = 32 ∨ r = 9 ∨ r = 0xa0 then 1
 else if r = 35 then 2
 else if 48 ≤ r ∧ r ≤ 57 then 3
 else if (97 ≤ r ∧ r ≤ 122) ∨ (65 ≤ r ∧ r ≤ 90) ∨ r = 95 then 4
 else if r = 0x2212 ∨ r = 0xd7 then 5
 else if (0xc0 ≤ r ∧ r ≤ 0x2af ∧ r ≠ 0xf7) ∨ (0x370 ≤ r ∧ r ≤ 0x3ff) then 4
 else if r < 0x80 ∧ (r.toUInt8 ∈ ([43, 45, 42, 94, 39, 40, 41, 91, 93, 123, 125, 44, 59, 58, 61] : Bytes)) then 5
 else 6
def kd (c : C) : Nat := match c.1 with | some v => kindOf v | none => 0
def rn (c : C) : Nat := match c.1 with | some v => v | none => 0xFFFD
theorem kindOf_pos (r : Nat) : 1 ≤ kindOf r ∧ kindOf r ≤ 6 := by
 unfold kindOf; repeat' split
 all_goals omega
def isNum (c : C) : Bool := kd c == 3 || rn c == 95
def isAl (c : C) : Bool := kd c == 3 || kd c == 4
def notBad (c : C) : Bool := kd c != 0
def badNum (t : Bytes) : Bool := Go.Lib.hasSuffix t [95] || Go.Lib.contains t [95, 95]
def signOf (c : C) : Bytes := if rn c = 0x2212 then [45] else if rn c = 0xd7 then [42] else c.2
def runLen (p : C → Bool) (cs : List C) : Nat := (cs.takeWhile p).length
abbrev Res := Except (Nat × Nat) (List Tok)
def Res.after (a : List Tok) : Res → Res
 | .ok l => .ok (a ++ l)
 | .error e => .error e
def toks : Nat → Nat → List C → Res
 | 0, _, _ => .ok []
 | _, _, [] => .ok []
 | n + 1, col, c :: cs =>
  if kd c = 1 then toks n (col + 1) cs
  else if kd c = 2 then
   if runLen notBad (c :: cs) < (c :: cs).length then .error (col + runLen notBad (c :: cs), 12) else .ok []
  else if kd c = 0 then .error (col, 12)
  else if kd c = 3 then
   if badNum (bytesOf ((c :: cs).take (runLen isNum (c :: cs)))) then .error (col, 7)
   else (toks n (col + runLen isNum (c :: cs)) ((c :: cs).drop (runLen isNum (c :: cs)))).after [(1, bytesOf ((c :: cs).take (runLen isNum (c :: cs))), col)]
  else if kd c = 4 then
   if 32 < (bytesOf ((c :: cs).take (runLen isAl (c :: cs)))).length then .error (col, 17)
   else (toks n (col + runLen isAl (c :: cs)) ((c :: cs).drop (runLen isAl (c :: cs)))).after [(2, bytesOf ((c :: cs).take (runLen isAl (c :: cs))), col)]
  else if kd c = 5 then (toks n (col + 1) cs).after [(3, signOf c, col)]
  else .error (col, 13)
theorem Res.after_after (a b : List Tok) (r : Res) : (r.after b).after a = r.after (a ++ b) := by
 cases r <;> simp [Res.after]
theorem Res.after_nil (r : Res) : r.after [] = r := by cases r <;> simp [Res.after]
theorem runLen_le (p : C → Bool) (cs : List C) : runLen p cs ≤ cs.length := by
 unfold runLen
 induction cs with
 | nil => simp
 | cons c cs ih => simp only [List.takeWhile_cons]; split <;> simp; exact ih
theorem runLen_pos {p : C → Bool} {c : C} {cs : List C} (h : p c = true) : 1 ≤ runLen p (c :: cs) := by
 simp [runLen, h]
theorem toks_more : ∀ (n : Nat) (col : Nat) (cs : List C), cs.length ≤ n → toks n col cs = toks cs.length col cs := by
 intro n
 induction n using Nat.strongRecOn with
 | ind n ih =>
  intro col cs hl
  cases cs with
  | nil => cases n <;> rfl
  | cons c cs =>
   cases n with
   | zero => simp at hl
   | succ n =>
    simp only [List.length_cons] at hl
    have key : ∀ (m col : Nat) (r : List C), n ≤ m ∨ cs.length ≤ m → r.length ≤ cs.length → m ≤ n → toks m col r = toks r.length col r := by
     intro m col r hm hr hmn
     exact ih m (by omega) col r (by omega)
    have e : ∀ (col : Nat) (r : List C), r.length ≤ cs.length → toks n col r = toks cs.length col r := by
     intro col r hr
     rw [key n col r (.inl (Nat.le_refl _)) hr (Nat.le_refl _), key cs.length col r (.inr (Nat.le_refl _)) hr (by omega)]
    have d1 : kd c = 3 → ((c :: cs).drop (runLen isNum (c :: cs))).length ≤ cs.length := by
     intro hk
     have := runLen_pos (p := isNum) (c := c) (cs := cs) (by simp [isNum, hk])
     simp only [List.length_drop, List.length_cons]; omega
    have d2 : kd c = 4 → ((c :: cs).drop (runLen isAl (c :: cs))).length ≤ cs.length := by
     intro hk
     have := runLen_pos (p := isAl) (c := c) (cs := cs) (by simp [isAl, hk])
     simp only [List.length_drop, List.length_cons]; omega
    simp only [toks, List.length_cons]
    by_cases k1 : kd c = 1
    ·rw [if_pos k1, if_pos k1, e _ _ (Nat.le_refl _)]
    ·rw [if_neg k1, if_neg k1]
     by_cases k2 : kd c = 2
     ·rw [if_pos k2, if_pos k2]
     ·rw [if_neg k2, if_neg k2]
      by_cases k0 : kd c = 0
      ·rw [if_pos k0, if_pos k0]
      ·rw [if_neg k0, if_neg k0]
       by_cases k3 : kd c = 3
       ·rw [if_pos k3, if_pos k3, e _ _ (d1 k3)]
       ·rw [if_neg k3, if_neg k3]
        by_cases k4 : kd c = 4
        ·rw [if_pos k4, if_pos k4, e _ _ (d2 k4)]
        ·rw [if_neg k4, if_neg k4, e _ _ (Nat.le_refl _)]
def Toks (col : Nat) (cs : List C) : Res := toks cs.length col cs
theorem Toks_nil (col : Nat) : Toks col [] = .ok [] := rfl
theorem toks_Toks (n col : Nat) (cs : List C) (h : cs.length ≤ n) : toks n col cs = Toks col cs := toks_more n col cs h
theorem Toks_blank {c : C} {cs : List C} (col : Nat) (h : kd c = 1) : Toks col (c :: cs) = Toks (col + 1) cs := by
 simp only [Toks, List.length_cons, toks]; rw [if_pos h]
theorem Toks_hash {c : C} {cs : List C} (col : Nat) (h : kd c = 2) :
  Toks col (c :: cs) = if runLen notBad (c :: cs) < (c :: cs).length then .error (col + runLen notBad (c :: cs), 12) else .ok [] := by
 simp only [Toks, List.length_cons, toks, h]; simp
theorem Toks_bad {c : C} {cs : List C} (col : Nat) (h : kd c = 0) : Toks col (c :: cs) = .error (col, 12) := by
 simp only [Toks, List.length_cons, toks, h]; simp
theorem Toks_num {c : C} {cs : List C} (col : Nat) (h : kd c = 3) :
  Toks col (c :: cs) = if badNum (bytesOf ((c :: cs).take (runLen isNum (c :: cs)))) then .error (col, 7)
   else (Toks (col + runLen isNum (c :: cs)) ((c :: cs).drop (runLen isNum (c :: cs)))).after [(1, bytesOf ((c :: cs).take (runLen isNum (c :: cs))), col)] := by
 have hp := runLen_pos (p := isNum) (c := c) (cs := cs) (by simp [isNum, h])
 rw [← toks_Toks cs.length _ ((c :: cs).drop _) (by simp only [List.length_drop, List.length_cons]; omega)]
 simp only [Toks, List.length_cons, toks, h]; simp
theorem Toks_name {c : C} {cs : List C} (col : Nat) (h : kd c = 4) :
  Toks col (c :: cs) = if 32 < (bytesOf ((c :: cs).take (runLen isAl (c :: cs)))).length then .error (col, 17)
   else (Toks (col + runLen isAl (c :: cs)) ((c :: cs).drop (runLen isAl (c :: cs)))).after [(2, bytesOf ((c :: cs).take (runLen isAl (c :: cs))), col)] := by
 have hp := runLen_pos (p := isAl) (c := c) (cs := cs) (by simp [isAl, h])
 rw [← toks_Toks cs.length _ ((c :: cs).drop _) (by simp only [List.length_drop, List.length_cons]; omega)]
 simp only [Toks, List.length_cons, toks, h]; simp
theorem Toks_mark {c : C} {cs : List C} (col : Nat) (h : kd c = 5) : Toks col (c :: cs) = (Toks (col + 1) cs).after [(3, signOf c, col)] := by
 simp only [Toks, List.length_cons, toks, h]; simp
theorem Toks_other {c : C} {cs : List C} (col : Nat) (h : kd c = 6) : Toks col (c :: cs) = .error (col, 13) := by
 simp only [Toks, List.length_cons, toks, h]; simp
theorem kd_le (c : C) : kd c ≤ 6 := by
 unfold kd; split
 ·exact (kindOf_pos _).2
 ·omega
theorem runLen_eq (p : C → Bool) : ∀ (l : List C) (m : Nat), m ≤ l.length → (∀ c ∈ l.take m, p c = true) → (∀ c, l[m]? = some c → p c = false) → runLen p l = m := by
 intro l
 induction l with
 | nil => intro m hm _ _; simp at hm; subst hm; rfl
 | cons d l ih =>
  intro m hm h1 h2
  cases m with
  | zero => simp [runLen, h2 d (by simp)]
  | succ m =>
   have hd : p d = true := h1 d (by simp)
   have := ih m (by simpa using hm) (fun c hc => h1 c (by simp [hc])) (fun c hc => h2 c (by simpa using hc))
   simp only [runLen] at this
   simp [runLen, hd, this]
theorem bytes_mid (l : Bytes) (i j : Nat) (h : i ≤ j) :
  (l.drop (bytesOf ((chars l).take i)).length).take ((bytesOf ((chars l).take j)).length - (bytesOf ((chars l).take i)).length) = bytesOf (((chars l).drop i).take (j - i)) := by
 have e1 : bytesOf ((chars l).take i) ++ bytesOf ((chars l).drop i) = l := by
  have := bytesOf_chars l
  simp only [bytesOf] at *
  rw [← List.flatMap_append, List.take_append_drop, this]
 have e2 : (chars l).take j = (chars l).take i ++ ((chars l).drop i).take (j - i) := by
  have := List.take_add (l := chars l) (i := i) (j := j - i)
  rw [show i + (j - i) = j from by omega] at this
  exact this
 have e3 : bytesOf ((chars l).drop i) = bytesOf (((chars l).drop i).take (j - i)) ++ bytesOf (((chars l).drop i).drop (j - i)) := by
  simp only [bytesOf]; rw [← List.flatMap_append, List.take_append_drop]
 have e4 : l.drop (bytesOf ((chars l).take i)).length = bytesOf ((chars l).drop i) := by
  have h2 := List.drop_left (l₁ := bytesOf ((chars l).take i)) (l₂ := bytesOf ((chars l).drop i))
  rw [e1] at h2; exact h2
 rw [e4, e3, e2]
 have e5 : (bytesOf ((chars l).take i ++ ((chars l).drop i).take (j - i))).length - (bytesOf ((chars l).take i)).length = (bytesOf (((chars l).drop i).take (j - i))).length := by
  simp only [bytesOf, List.flatMap_append, List.length_append]; omega
 rw [e5, List.take_left]
theorem bytes_len (cs : List C) (i : Nat) : (bytesOf (cs.take i)).length ≤ (bytesOf cs).length := by
 have : bytesOf (cs.take i) ++ bytesOf (cs.drop i) = bytesOf cs := by simp only [bytesOf]; rw [← List.flatMap_append, List.take_append_drop]
 rw [← this, List.length_append]; omega
end LexP
namespace NumP
def isDig (c : UInt8) : Bool := 48 ≤ c.toNat && c.toNat ≤ 57
end NumP
namespace LexP
open Go.Lib
def usBad (t : Bytes) (i : Nat) : Bool := t[i]? == some 95 && (i == 0 || decide (t.length ≤ i + 1) || t[i - 1]? == some 95 || t[i + 1]? == some 95)
def anyBad (t : Bytes) : Bool := (List.range t.length).any (usBad t)
theorem anyBad_iff (t : Bytes) : anyBad t = true ↔ ∃ i, i < t.length ∧ usBad t i = true := by
 simp [anyBad, List.any_eq_true]
theorem occ_two (t : Bytes) (j : Nat) : occAt t [95, 95] j = true ↔ t[j]? = some 95 ∧ t[j + 1]? = some 95 := by
 unfold occAt
 rw [List.isPrefixOf_iff_prefix]
 have h0 : (t.drop j)[0]? = t[j]? := by rw [List.getElem?_drop]; rfl
 have h1 : (t.drop j)[1]? = t[j + 1]? := by rw [List.getElem?_drop]
 rw [← h0, ← h1]
 match t.drop j with
 | [] => simp
 | [a] => simp
 | a :: b :: r => simp; constructor <;> (rintro ⟨rfl, rfl⟩; exact ⟨rfl, rfl⟩)
theorem contains_iff (t sub : Bytes) (hs : sub ≠ []) : contains t sub = true ↔ ∃ j, occAt t sub j = true := by
 unfold contains
 rw [decide_eq_true_eq]
 constructor
 ·intro h
  apply Classical.byContradiction
  intro hn
  have : index t sub = -1 := index_none fun j _ => by
   cases ho : occAt t sub j with
   | false => rfl
   | true => exact absurd ⟨j, ho⟩ hn
  omega
 ·rintro ⟨j, hj⟩
  have key : ∀ n, (∃ j, j < n ∧ occAt t sub j = true) → ∃ i, occAt t sub i = true ∧ ∀ k, k < i → occAt t sub k = false := by
   intro n
   induction n with
   | zero => rintro ⟨j, h, _⟩; omega
   | succ n ih =>
    rintro ⟨j, h1, h2⟩
    by_cases h : ∃ j, j < n ∧ occAt t sub j = true
    ·exact ih h
    ·have hjn : j = n := by
      apply Classical.byContradiction
      intro hc
      exact h ⟨j, by omega, h2⟩
     subst hjn
     refine ⟨j, h2, fun k hk => ?_⟩
     cases ho : occAt t sub k with
     | false => rfl
     | true => exact absurd ⟨k, hk, ho⟩ h
  obtain ⟨i, h1, h2⟩ := key (j + 1) ⟨j, by omega, hj⟩
  have hle : i ≤ t.length := by
   rcases occAt_room h1 with h | h
   ·omega
   ·exact absurd h hs
  rw [index_first hle h1 h2]
  omega
theorem suffix_iff (t : Bytes) : hasSuffix t [95] = true ↔ ∃ i, t.length = i + 1 ∧ t[i]? = some 95 := by
 unfold hasSuffix
 rw [List.isSuffixOf_iff_suffix]
 constructor
 ·rintro ⟨q, rfl⟩
  exact ⟨q.length, by simp, by simp⟩
 ·rintro ⟨i, h1, h2⟩
  refine ⟨t.take i, ?_⟩
  have := List.take_add_one (l := t) (i := i)
  rw [h2, ← h1, List.take_length] at this
  exact this.symm
theorem badNum_anyBad {t : Bytes} (h0 : t[0]? ≠ some 95) : badNum t = anyBad t := by
 rw [Bool.eq_iff_iff, anyBad_iff]
 unfold badNum
 rw [Bool.or_eq_true, suffix_iff, contains_iff t [95, 95] (by simp)]
 constructor
 ·rintro (⟨i, h1, h2⟩ | ⟨j, hj⟩)
  ·have h3 : decide (t.length ≤ i + 1) = true := decide_eq_true (by omega)
   exact ⟨i, by omega, by simp only [usBad, h2, h3, beq_self_eq_true, Bool.true_and, Bool.or_true, Bool.true_or]⟩
  ·rw [occ_two] at hj
   have : j < t.length := (List.getElem?_eq_some_iff.1 hj.1).1
   exact ⟨j, this, by simp only [usBad, hj.1, hj.2, beq_self_eq_true, Bool.true_and, Bool.or_true]⟩
 ·rintro ⟨i, h1, h2⟩
  simp only [usBad, Bool.and_eq_true, beq_iff_eq, Bool.or_eq_true, decide_eq_true_eq] at h2
  obtain ⟨ha, ((hb | hb) | hb) | hb⟩ := h2
  ·subst hb; exact absurd ha h0
  ·exact .inl ⟨i, by omega, ha⟩
  ·have : i ≠ 0 := by rintro rfl; exact h0 ha
   exact .inr ⟨i - 1, by rw [occ_two]; exact ⟨hb, by rw [show i - 1 + 1 = i from by omega]; exact ha⟩⟩
  ·exact .inr ⟨i, by rw [occ_two]; exact ⟨ha, hb⟩⟩
def numRun (t : Bytes) : Prop := ∀ c ∈ t, NumP.isDig c = true ∨ c = 95
end LexP
namespace LexP
def okUpto (t : Bytes) (pos : Nat) : Prop := ∀ j, j < pos → t[j]? = some 95 → 0 < j ∧ t[j - 1]? ≠ some 95
def btw (t : Bytes) (pos : Nat) : Bool := decide (0 < pos) && (t[pos - 1]? != some 95)
theorem okUpto_zero (t : Bytes) : okUpto t 0 := fun j h => absurd h (Nat.not_lt_zero _)
theorem btw_succ (t : Bytes) (pos : Nat) : btw t (pos + 1) = (t[pos]? != some 95) := by simp [btw]
theorem okUpto_succ {t : Bytes} {pos : Nat} (h : okUpto t pos) (hb : t[pos]? = some 95 → btw t pos = true) : okUpto t (pos + 1) := by
 intro j hj h95
 rcases Nat.lt_succ_iff_lt_or_eq.1 hj with h1 | rfl
 ·exact h j h1 h95
 ·have := hb h95
  simp only [btw, Bool.and_eq_true, decide_eq_true_eq, bne_iff_ne] at this
  exact this
theorem rg_fail {t : Bytes} {pos : Nat} (h : t[pos]? = some 95) (hb : btw t pos = false) : anyBad t = true := by
 rw [anyBad_iff]
 refine ⟨pos, (List.getElem?_eq_some_iff.1 h).1, ?_⟩
 simp only [btw, Bool.and_eq_false_iff, decide_eq_false_iff_not, bne_eq_false_iff_eq] at hb
 simp only [usBad, h, beq_self_eq_true, Bool.true_and]
 rcases hb with hb | hb
 ·have : pos = 0 := by omega
  subst this; simp
 ·rw [hb]; simp
theorem rg_end_bad {t : Bytes} (h0 : t ≠ []) (hb : btw t t.length = false) : anyBad t = true := by
 rw [anyBad_iff]
 have hl : 0 < t.length := List.length_pos_iff.2 h0
 simp only [btw, Bool.and_eq_false_iff, decide_eq_false_iff_not, bne_eq_false_iff_eq] at hb
 rcases hb with hb | hb
 ·omega
 ·refine ⟨t.length - 1, by omega, ?_⟩
  have : decide (t.length ≤ t.length - 1 + 1) = true := decide_eq_true (by omega)
  simp only [usBad, hb, beq_self_eq_true, this, Bool.true_and, Bool.or_true, Bool.true_or]
theorem rg_end_ok {t : Bytes} (h : okUpto t t.length) (hb : btw t t.length = true) : anyBad t = false := by
 cases ha : anyBad t with
 | false => rfl
 | true =>
  exfalso
  obtain ⟨j, hj, hu⟩ := (anyBad_iff t).1 ha
  simp only [usBad, Bool.and_eq_true, Bool.or_eq_true, beq_iff_eq, decide_eq_true_eq] at hu
  obtain ⟨h95, hu⟩ := hu
  obtain ⟨h1, h2⟩ := h j hj h95
  simp only [btw, Bool.and_eq_true, decide_eq_true_eq, bne_iff_ne] at hb
  rcases hu with ((hu | hu) | hu) | hu
  ·omega
  ·have : t.length - 1 = j := by omega
   rw [this] at hb; exact hb.2 h95
  ·exact h2 hu
  ·have hlt : j + 1 < t.length := (List.getElem?_eq_some_iff.1 hu).1
   obtain ⟨_, h4⟩ := h (j + 1) hlt hu
   rw [Nat.add_sub_cancel] at h4
   exact h4 h95
theorem btw_of_ok {t : Bytes} (h0 : t ≠ []) (h : anyBad t = false) : btw t t.length = true := by
 cases hb : btw t t.length with
 | true => rfl
 | false => rw [rg_end_bad h0 hb] at h; cases h
theorem dec_low {b : UInt8} {r : Bytes} (h : b.toNat < 128) : val (b :: r) = some b.toNat ∧ wid (b :: r) = 1 := by
 have : dec (b :: r) = some (b.toNat, 1) := by
  show (if b.toNat < 0x80 then _ else _) = _
  rw [if_pos h]
 simp [val, wid, this]
def digs (l : Bytes) : List Nat := l.map fun c => c.toNat - 48
theorem digs_append (a b : Bytes) : digs (a ++ b) = digs a ++ digs b := by simp [digs]
end LexP
