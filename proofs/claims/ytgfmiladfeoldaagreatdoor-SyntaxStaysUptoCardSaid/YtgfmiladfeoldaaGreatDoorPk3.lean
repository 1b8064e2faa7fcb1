/- Joined texts of this claim's proof: NatP, NatP2, NatP3, NatP4, DecP, DivP, Div64P, Num1, DivW1. -/
import Derived.Lib.IndexMore
import Derived.Test.YtgfmiladfeoldaaGreatDoorPk1
import Derived.Test.YtgfmiladfeoldaaGreatDoorChecked
import Derived.WalkKit
import Derived.WalkSpells
import Derived.Handy
import Derived.BigQuiet
import Derived.Deep.QuietTactic
import Derived.Lib.Hide
import Derived.Below
import Derived.Laws.CopyOwn
import Derived.Laws.OwnMore
import Derived.Deep.OwnRows
import Derived.Lib.EndianBits
set_option linter.unusedSimpArgs false
set_option linter.unusedVariables false
namespace NatP
def BB : Nat := 18446744073709551616
theorem BB_pos : 0 < BB := by unfold BB; omega
def val : List Nat → Nat
 | [] => 0
 | x :: l => x + BB * val l
def ok (l : List Nat) : Prop := ∀ x ∈ l, x < BB
theorem ok_nil : ok [] := fun x h => by cases h
theorem ok_cons {x : Nat} {l : List Nat} (hx : x < BB) (h : ok l) : ok (x :: l) := fun y hy => by
 rcases List.mem_cons.1 hy with rfl | hy
 ·exact hx
 ·exact h y hy
theorem ok_take {l : List Nat} (h : ok l) (n : Nat) : ok (l.take n) := fun x hx => h x (List.mem_of_mem_take hx)
theorem ok_drop {l : List Nat} (h : ok l) (n : Nat) : ok (l.drop n) := fun x hx => h x (List.mem_of_mem_drop hx)
theorem ok_append {a b : List Nat} (ha : ok a) (hb : ok b) : ok (a ++ b) := fun x hx => by
 rcases List.mem_append.1 hx with h | h
 ·exact ha x h
 ·exact hb x h
theorem ok_set {l : List Nat} (h : ok l) (i : Nat) {x : Nat} (hx : x < BB) : ok (l.set i x) := fun y hy => by
 rcases List.mem_or_eq_of_mem_set hy with h1 | rfl
 ·exact h y h1
 ·exact hx
theorem ok_replicate (n : Nat) : ok (List.replicate n 0) := fun x hx => by
 rw [List.eq_of_mem_replicate hx]; exact BB_pos
theorem val_append : ∀ (a b : List Nat), val (a ++ b) = val a + BB ^ a.length * val b
 | [], b => by simp [val]
 | x :: a, b => by
  simp only [List.cons_append, val, List.length_cons, Nat.pow_succ, val_append a b]
  rw [Nat.mul_add, Nat.mul_comm (BB ^ a.length) BB, Nat.mul_assoc, Nat.add_assoc]
theorem val_snoc (a : List Nat) (x : Nat) : val (a ++ [x]) = val a + BB ^ a.length * x := by
 rw [val_append]; simp [val]
theorem val_take_succ {l : List Nat} {i : Nat} (h : i < l.length) : val (l.take (i + 1)) = val (l.take i) + BB ^ i * l[i] := by
 rw [List.take_succ_eq_append_getElem h, val_snoc, List.length_take, Nat.min_eq_left (by omega)]
theorem val_split (l : List Nat) (i : Nat) (h : i ≤ l.length) : val l = val (l.take i) + BB ^ i * val (l.drop i) := by
 have := val_append (l.take i) (l.drop i)
 rw [List.take_append_drop, List.length_take, Nat.min_eq_left h] at this
 exact this
theorem val_replicate (n : Nat) : val (List.replicate n 0) = 0 := by
 induction n with
 | zero => rfl
 | succ n ih => rw [List.replicate_succ]; simp [val, ih]
theorem val_lt : ∀ {a : List Nat}, ok a → val a < BB ^ a.length
 | [], _ => by simp [val]
 | x :: a, h => by
  have h1 := h x (by simp)
  have h2 := val_lt (a := a) fun d hd => h d (by simp [hd])
  simp only [val, List.length_cons, Nat.pow_succ]
  have h3 : BB * val a + BB ≤ BB * BB ^ a.length := by
   rw [← Nat.mul_succ]; exact Nat.mul_le_mul_left _ h2
  rw [Nat.mul_comm (BB ^ a.length)]
  omega
def strip (l : List Nat) : List Nat := (l.reverse.dropWhile (· == 0)).reverse
theorem strip_snoc_zero (l : List Nat) : strip (l ++ [0]) = strip l := by simp [strip]
theorem strip_snoc_pos (l : List Nat) (d : Nat) (h : d ≠ 0) : strip (l ++ [d]) = l ++ [d] := by simp [strip, h]
theorem strip_nil : strip [] = [] := rfl
theorem snoc_ind {P : List Nat → Prop} (h0 : P []) (h1 : ∀ l d, P l → P (l ++ [d])) (l : List Nat) : P l := by
 have : ∀ m : List Nat, P m.reverse := by
  intro m
  induction m with
  | nil => exact h0
  | cons d m ih => rw [List.reverse_cons]; exact h1 _ _ ih
 have h := this l.reverse
 rwa [List.reverse_reverse] at h
theorem strip_take : ∀ l : List Nat, strip l = l.take (strip l).length ∧ (strip l).length ≤ l.length := by
 apply snoc_ind
 ·exact ⟨rfl, Nat.le_refl _⟩
 ·intro l d ih
  by_cases h : d = 0
  ·subst h
   rw [strip_snoc_zero]
   refine ⟨?_, by rw [List.length_append]; omega⟩
   rw [List.take_append_of_le_length ih.2]; exact ih.1
  ·rw [strip_snoc_pos _ _ h]
   exact ⟨by rw [List.take_length], Nat.le_refl _⟩
theorem val_strip : ∀ l : List Nat, val (strip l) = val l := by
 apply snoc_ind
 ·rfl
 ·intro l d ih
  by_cases h : d = 0
  ·subst h
   rw [strip_snoc_zero, ih, val_snoc]; simp
  ·rw [strip_snoc_pos _ _ h]
theorem strip_le (l : List Nat) : (strip l).length ≤ l.length := (strip_take l).2
theorem ok_strip {l : List Nat} (h : ok l) : ok (strip l) := by rw [(strip_take l).1]; exact ok_take h _
theorem strip_len_of_lt : ∀ (l : List Nat) (n : Nat), val l < BB ^ n → (strip l).length ≤ n := by
 apply snoc_ind (P := fun l => ∀ n, val l < BB ^ n → (strip l).length ≤ n)
 ·intro n _; exact Nat.zero_le _
 ·intro l d ih n h
  by_cases hd : d = 0
  ·subst hd
   rw [strip_snoc_zero]
   rw [val_snoc] at h
   exact ih n (by simpa using h)
  ·rw [strip_snoc_pos _ _ hd, List.length_append]
   rw [val_snoc] at h
   apply Classical.byContradiction
   intro hc
   simp only [List.length_cons, List.length_nil, Nat.zero_add, Nat.not_le] at hc
   have h1 : BB ^ n ≤ BB ^ l.length := Nat.pow_le_pow_right BB_pos (by omega)
   have h2 : BB ^ l.length * 1 ≤ BB ^ l.length * d := Nat.mul_le_mul_left _ (by omega)
   omega
theorem strip_last : ∀ (l : List Nat) (n : Nat), (strip l).length = n + 1 → ∃ d, (strip l)[n]? = some d ∧ d ≠ 0 := by
 apply snoc_ind (P := fun l => ∀ n, (strip l).length = n + 1 → ∃ d, (strip l)[n]? = some d ∧ d ≠ 0)
 ·intro n h; simp [strip_nil] at h
 ·intro l d ih n h
  by_cases hd : d = 0
  ·subst hd
   rw [strip_snoc_zero] at h ⊢
   exact ih n h
  ·rw [strip_snoc_pos _ _ hd] at h ⊢
   rw [List.length_append] at h
   simp only [List.length_cons, List.length_nil] at h
   obtain rfl : n = l.length := by omega
   exact ⟨d, by simp, hd⟩
theorem strip_step {l : List Nat} {n : Nat} (hn : n ≤ l.length) (h : strip (l.take n) = strip l) (h0 : ∀ m, n = m + 1 → l[m]? = some 0) : n = 0 ∨ strip (l.take (n - 1)) = strip l := by
 cases n with
 | zero => exact .inl rfl
 | succ m =>
  right
  have h1 := h0 m rfl
  have hm : m < l.length := by omega
  have h2 : l[m] = 0 := by rw [List.getElem?_eq_getElem hm] at h1; exact Option.some.inj h1
  rw [Nat.add_sub_cancel]
  rw [List.take_succ_eq_append_getElem hm, h2, strip_snoc_zero] at h
  exact h
theorem strip_stop {l : List Nat} {n : Nat} (hn : n ≤ l.length) (h : strip (l.take n) = strip l) (h0 : n = 0 ∨ ∃ m x, n = m + 1 ∧ l[m]? = some x ∧ x ≠ 0) : (strip l).length = n := by
 rcases h0 with rfl | ⟨m, x, rfl, h1, h2⟩
 ·rw [← h]; rfl
 ·have hm : m < l.length := by omega
  have h3 : l[m] = x := by rw [List.getElem?_eq_getElem hm] at h1; exact Option.some.inj h1
  rw [List.take_succ_eq_append_getElem hm, h3, strip_snoc_pos _ _ h2] at h
  rw [← h, List.length_append, List.length_take, Nat.min_eq_left (by omega)]; rfl
theorem carry_add {P X Y Z x y c s c' : Nat} (h : Z + P * c = X + Y) (hs : s + BB * c' = x + y + c) : (Z + P * s) + P * BB * c' = (X + P * x) + (Y + P * y) := by
 have h1 : P * s + P * (BB * c') = P * x + P * y + P * c := by rw [← Nat.mul_add, hs, Nat.mul_add, Nat.mul_add]
 rw [Nat.mul_assoc]
 omega
theorem set_take {l : List Nat} {i o : Nat} (x : Nat) (h : o ≤ i) : (l.set i x).take o = l.take o := by
 rw [List.take_set, List.set_eq_of_length_le]
 rw [List.length_take]; omega
theorem set_drop {l : List Nat} {i : Nat} (x : Nat) : (l.set i x).drop (i + 1) = l.drop (i + 1) := by
 rw [List.drop_set_of_lt (by omega)]
theorem set_mid {l : List Nat} {o i : Nat} (x : Nat) (h : o + i < l.length) : ((l.set (o + i) x).drop o).take (i + 1) = (l.drop o).take i ++ [x] := by
 have h1 : (l.set (o + i) x).drop o = (l.drop o).set i x := by
  rw [List.drop_set]; rw [if_neg (by omega), Nat.add_sub_cancel_left]
 rw [h1, List.take_succ_eq_append_getElem (by rw [List.length_set, List.length_drop]; omega), set_take x (Nat.le_refl i)]
 simp
end NatP
namespace NatP
theorem val_set : ∀ (l : List Nat) (i s : Nat) (h : i < l.length), val (l.set i s) + BB ^ i * l[i] = val l + BB ^ i * s
 | [], i, s, h => by simp at h
 | x :: l, 0, s, h => by simp [val]; omega
 | x :: l, i + 1, s, h => by
  have ih := val_set l i s (by simpa using h)
  simp only [List.set_cons_succ, val, List.getElem_cons_succ, Nat.pow_succ]
  have e : ∀ q, BB ^ i * BB * q = BB * (BB ^ i * q) := fun q => by rw [Nat.mul_comm (BB ^ i) BB, Nat.mul_assoc]
  rw [e, e]
  have : BB * val (l.set i s) + BB * (BB ^ i * l[i]'(by simpa using h)) = BB * val l + BB * (BB ^ i * s) := by rw [← Nat.mul_add, ih, Nat.mul_add]
  omega
theorem val_set' {l : List Nat} {i s z : Nat} (h : l[i]? = some z) : val (l.set i s) + BB ^ i * z = val l + BB ^ i * s := by
 obtain ⟨h1, h2⟩ := List.getElem?_eq_some_iff.1 h
 have := val_set l i s h1
 rw [h2] at this; exact this
theorem row_words {x y z cc hi lo s1 c1 h2 s2 c2 : Nat} (hx : x < BB) (hy : y < BB) (hz : z < BB) (hc : cc < BB) (hp : hi * BB + lo = x * y) (h1 : s1 + BB * c1 = lo + cc) (h3 : h2 = hi + c1) (h4 : s2 + BB * c2 = z + s1) :
  h2 < BB ∧ s2 + BB * (h2 + c2) = z + x * y + cc ∧ h2 + c2 < BB := by
 have hxy : x * y ≤ 18446744073709551615 * 18446744073709551615 := Nat.mul_le_mul (by unfold BB at hx; omega) (by unfold BB at hy; omega)
 unfold BB at *
 refine ⟨by omega, by omega, by omega⟩
def InSt (M0 ys : List Nat) (k x j cc : Nat) (M : List Nat) : Prop :=
 M.length = M0.length ∧ (∀ q, k + ys.length ≤ q → M[q]? = M0[q]?) ∧ val M + BB ^ (k + j) * cc = val M0 + BB ^ k * (x * val (ys.take j))
theorem InSt.start (M0 ys : List Nat) (k x : Nat) : InSt M0 ys k x 0 0 M0 := ⟨rfl, fun _ _ => rfl, by simp [val]⟩
theorem InSt.step {M0 ys M : List Nat} {k x j cc z y s cc' : Nat} (h : InSt M0 ys k x j cc M) (hz : M[k + j]? = some z) (hy : ys[j]? = some y) (hs : s + BB * cc' = z + x * y + cc) :
  InSt M0 ys k x (j + 1) cc' (M.set (k + j) s) := by
 obtain ⟨h1, h2, h3⟩ := h
 obtain ⟨hjl, hyv⟩ := List.getElem?_eq_some_iff.1 hy
 refine ⟨by rw [List.length_set, h1], fun q hq => ?_, ?_⟩
 ·rw [List.getElem?_set_ne (by omega)]; exact h2 q hq
 ·have e1 := val_set' (s := s) hz
  have e2 := val_take_succ hjl
  rw [hyv] at e2
  rw [e2, ← Nat.add_assoc, Nat.pow_succ]
  have e3 : BB ^ k * (x * (val (ys.take j) + BB ^ j * y)) = BB ^ k * (x * val (ys.take j)) + BB ^ (k + j) * (x * y) := by
   rw [Nat.mul_add, Nat.mul_add, Nat.pow_add]
   congr 1
   rw [Nat.mul_left_comm x, Nat.mul_assoc]
  rw [e3]
  generalize BB ^ (k + j) = P at *
  have e4 : P * s + P * (BB * cc') = P * z + P * (x * y) + P * cc := by rw [← Nat.mul_add, hs, Nat.mul_add, Nat.mul_add]
  rw [Nat.mul_assoc]
  omega
def OutSt (xs ys : List Nat) (k : Nat) (M : List Nat) : Prop :=
 M.length = xs.length + ys.length ∧ (∀ q, k + ys.length ≤ q → q < M.length → M[q]? = some 0) ∧ val M = val (xs.take k) * val ys
theorem OutSt.start (xs ys : List Nat) : OutSt xs ys 0 (List.replicate (xs.length + ys.length) 0) :=
 ⟨List.length_replicate, fun q _ hq => by rw [List.length_replicate] at hq; simp [hq], by rw [val_replicate]; simp [val]⟩
theorem OutSt.zero {xs ys M : List Nat} {k : Nat} (h : OutSt xs ys k M) (hx : xs[k]? = some 0) : OutSt xs ys (k + 1) M := by
 obtain ⟨h1, h2, h3⟩ := h
 obtain ⟨hk, hv⟩ := List.getElem?_eq_some_iff.1 hx
 refine ⟨h1, fun q hq hl => h2 q (by omega) hl, ?_⟩
 rw [val_take_succ hk, hv, h3]; simp
theorem OutSt.row {xs ys M0 M : List Nat} {k x cc : Nat} (h : OutSt xs ys k M0) (hx : xs[k]? = some x) (hi : InSt M0 ys k x ys.length cc M) : OutSt xs ys (k + 1) (M.set (k + ys.length) cc) ∧ M[k + ys.length]? = some 0 := by
 obtain ⟨h1, h2, h3⟩ := h
 obtain ⟨i1, i2, i3⟩ := hi
 obtain ⟨hk, hv⟩ := List.getElem?_eq_some_iff.1 hx
 have hz : M[k + ys.length]? = some 0 := by rw [i2 _ (Nat.le_refl _)]; exact h2 _ (Nat.le_refl _) (by omega)
 refine ⟨⟨by rw [List.length_set, i1, h1], fun q hq hl => ?_, ?_⟩, hz⟩
 ·rw [List.getElem?_set_ne (by omega), i2 q (by omega)]
  rw [List.length_set] at hl
  exact h2 q (by omega) (by omega)
 ·have e1 := val_set' (s := cc) hz
  rw [List.take_length] at i3
  rw [val_take_succ hk, hv, Nat.add_mul, ← h3]
  have e2 : BB ^ k * x * val ys = BB ^ k * (x * val ys) := Nat.mul_assoc _ _ _
  rw [e2, ← i3]
  simp only [Nat.mul_zero, Nat.add_zero] at e1
  omega
theorem OutSt.done {xs ys M : List Nat} (h : OutSt xs ys xs.length M) : M.length = xs.length + ys.length ∧ val M = val xs * val ys := by
 obtain ⟨h1, _, h3⟩ := h
 rw [List.take_length] at h3
 exact ⟨h1, h3⟩
theorem no_carry {V W P c : Nat} (h : V + P * c = W) (hW : W < P) : c = 0 ∧ V = W := by
 cases c with
 | zero => exact ⟨rfl, by simpa using h⟩
 | succ c => rw [Nat.mul_succ] at h; omega
theorem two_BB : 2 ≤ BB := by unfold BB; omega
theorem two_below {a b m : Nat} (ha : a < BB ^ m) (hb : b < BB ^ m) : a + b < BB ^ (m + 1) := by
 rw [Nat.pow_succ]
 have h := Nat.mul_le_mul_left (BB ^ m) two_BB
 generalize BB ^ m * BB = Q at *
 generalize BB ^ m = P at *
 omega
end NatP
namespace NatP
theorem mid_eq (A0 A1 B0 B1 : Nat) : (A0 + A1) * (B0 + B1) = A0 * B0 + A1 * B1 + (A0 * B1 + A1 * B0) := by
 rw [Nat.add_mul, Nat.mul_add, Nat.mul_add]; omega
theorem whole_eq (A0 A1 B0 B1 P : Nat) : (A0 + P * A1) * (B0 + P * B1) = A0 * B0 + P * P * (A1 * B1) + P * (A0 * B1 + A1 * B0) := by
 rw [Nat.add_mul, Nat.mul_add, Nat.mul_add]
 have e1 : A0 * (P * B1) = P * (A0 * B1) := by rw [Nat.mul_left_comm]
 have e2 : P * A1 * B0 = P * (A1 * B0) := Nat.mul_assoc _ _ _
 have e3 : P * A1 * (P * B1) = P * P * (A1 * B1) := by rw [Nat.mul_assoc, Nat.mul_assoc, Nat.mul_left_comm A1]
 rw [e1, e2, e3, Nat.mul_add]; omega
theorem mul_lt_pow {xs ys : List Nat} (hx : ok xs) (hy : ok ys) : val xs * val ys < BB ^ (xs.length + ys.length) := by
 rw [Nat.pow_add]
 exact Nat.mul_lt_mul_of_lt_of_le (val_lt hx) (Nat.le_of_lt (val_lt hy)) (Nat.pow_pos BB_pos)
theorem strip_short (l : List Nat) {n : Nat} (h : val l < BB ^ n) : (strip l).length ≤ n := strip_len_of_lt l n h
structure Half (xs ys : List Nat) (h : Nat) : Prop where
 okx : ok xs
 oky : ok ys
 hx : h ≤ xs.length
 hy : h ≤ ys.length
theorem Half.vx {xs ys : List Nat} {h : Nat} (H : Half xs ys h) : val xs = val (xs.take h) + BB ^ h * val (xs.drop h) := val_split xs h H.hx
theorem Half.vy {xs ys : List Nat} {h : Nat} (H : Half xs ys h) : val ys = val (ys.take h) + BB ^ h * val (ys.drop h) := val_split ys h H.hy
theorem Half.low_len {xs ys L : List Nat} {h : Nat} (H : Half xs ys h) (hL : val L = val (xs.take h) * val (ys.take h)) : (strip L).length ≤ 2 * h := by
 refine strip_short L ?_
 have := mul_lt_pow (ok_take H.okx h) (ok_take H.oky h)
 rw [List.length_take, List.length_take, Nat.min_eq_left H.hx, Nat.min_eq_left H.hy] at this
 rw [hL, show 2 * h = h + h from by omega]; exact this
theorem Half.high_len {xs ys L : List Nat} {h : Nat} (H : Half xs ys h) (hL : val L = val (xs.drop h) * val (ys.drop h)) : (strip L).length ≤ xs.length + ys.length - 2 * h := by
 refine strip_short L ?_
 have := mul_lt_pow (ok_drop H.okx h) (ok_drop H.oky h)
 rw [List.length_drop, List.length_drop] at this
 have h1 := H.hx
 have h2 := H.hy
 rw [hL, show xs.length + ys.length - 2 * h = xs.length - h + (ys.length - h) from by omega]; exact this
theorem Half.sub1 {xs ys Lm Ll : List Nat} {h : Nat} (hm : ok Lm) (hv : val Lm = (val (xs.take h) + val (xs.drop h)) * (val (ys.take h) + val (ys.drop h))) (hl : val Ll = val (xs.take h) * val (ys.take h)) :
  val (strip Ll) ≤ val Lm ∧ (strip Ll).length ≤ Lm.length := by
 have h1 : val Ll ≤ val Lm := by rw [hv, hl, mid_eq]; omega
 exact ⟨by rw [val_strip]; exact h1, strip_short Ll (Nat.lt_of_le_of_lt h1 (val_lt hm))⟩
theorem Half.sub2 {xs ys Lm Ll Lh M1 : List Nat} {h : Nat} (hm : ok M1) (hv : val Lm = (val (xs.take h) + val (xs.drop h)) * (val (ys.take h) + val (ys.drop h))) (hl : val Ll = val (xs.take h) * val (ys.take h)) (hh : val Lh = val (xs.drop h) * val (ys.drop h))
  (h1 : val M1 + val (strip Ll) = val Lm) : val (strip Lh) ≤ val M1 ∧ (strip Lh).length ≤ M1.length := by
 have h2 : val Lh ≤ val M1 := by
  rw [val_strip, hv, hl, mid_eq] at h1
  rw [hh]; omega
 exact ⟨by rw [val_strip]; exact h2, strip_short Lh (Nat.lt_of_le_of_lt h2 (val_lt hm))⟩
theorem Half.mid {xs ys Lm Ll Lh M1 M2 : List Nat} {h : Nat} (hv : val Lm = (val (xs.take h) + val (xs.drop h)) * (val (ys.take h) + val (ys.drop h))) (hl : val Ll = val (xs.take h) * val (ys.take h)) (hh : val Lh = val (xs.drop h) * val (ys.drop h))
  (h1 : val M1 + val (strip Ll) = val Lm) (h2 : val M2 + val (strip Lh) = val M1) : val M2 = val (xs.take h) * val (ys.drop h) + val (xs.drop h) * val (ys.take h) := by
 rw [val_strip, hv, hl, mid_eq] at h1
 rw [val_strip, hh] at h2
 omega
theorem Half.mid_len {xs ys M2 : List Nat} {h : Nat} (H : Half xs ys h) (hv : val M2 = val (xs.take h) * val (ys.drop h) + val (xs.drop h) * val (ys.take h)) : (strip M2).length ≤ xs.length + ys.length - h := by
 refine strip_short M2 ?_
 have h1 := mul_lt_pow H.okx H.oky
 rw [H.vx, H.vy, whole_eq, ← hv] at h1
 have h2 := H.hx
 have h3 : BB ^ (xs.length + ys.length) = BB ^ h * BB ^ (xs.length + ys.length - h) := by rw [← Nat.pow_add]; congr 1; omega
 rw [h3] at h1
 exact Nat.lt_of_mul_lt_mul_left (a := BB ^ h) (by omega)
theorem Half.add1 {xs ys Ll Lh M : List Nat} {h N : Nat} (H : Half xs ys h) (hN : N = xs.length + ys.length) (hl : val Ll = val (xs.take h) * val (ys.take h)) (hh : val Lh = val (xs.drop h) * val (ys.drop h)) {Z : List Nat} (hZ : Z = strip Ll ++ List.replicate (N - (strip Ll).length) 0)
  (hM : M.length = Z.length) (ht : M.take (2 * h) = Z.take (2 * h)) (hc : ∃ c, val (M.drop (2 * h)) + BB ^ (Z.length - 2 * h) * c = val (Z.drop (2 * h)) + val (strip Lh)) :
  M.length = N ∧ val M = val (xs.take h) * val (ys.take h) + BB ^ h * BB ^ h * (val (xs.drop h) * val (ys.drop h)) := by
 have h1 := H.hx
 have h2 := H.hy
 have hll := H.low_len hl
 have hZl : Z.length = N := by rw [hZ, List.length_append, List.length_replicate]; omega
 have hZd : val (Z.drop (2 * h)) = 0 := by
  rw [hZ, List.drop_append, List.drop_eq_nil_of_le hll, List.nil_append, List.drop_replicate, val_replicate]
 have hZt : val (Z.take (2 * h)) = val (xs.take h) * val (ys.take h) := by
  have e := val_split Z (2 * h) (by omega)
  rw [hZd] at e
  have e2 : val Z = val (strip Ll) := by rw [hZ, val_append, val_replicate]; simp
  rw [e2, val_strip, hl] at e
  simpa using e.symm
 obtain ⟨c, hc⟩ := hc
 rw [hZd, Nat.zero_add, val_strip, hh, hZl] at hc
 have hb : val (xs.drop h) * val (ys.drop h) < BB ^ (N - 2 * h) := by
  have := mul_lt_pow (ok_drop H.okx h) (ok_drop H.oky h)
  rw [List.length_drop, List.length_drop] at this
  rw [show N - 2 * h = xs.length - h + (ys.length - h) from by omega]; exact this
 obtain ⟨_, hd⟩ := no_carry hc hb
 refine ⟨by rw [hM, hZl], ?_⟩
 rw [val_split M (2 * h) (by omega), ht, hZt, hd, ← Nat.pow_add, show h + h = 2 * h from by omega]
theorem Half.add2 {xs ys M2 Lm Z : List Nat} {h : Nat} (H : Half xs ys h) (hZ : Z.length = xs.length + ys.length) (hv : val Z = val (xs.take h) * val (ys.take h) + BB ^ h * BB ^ h * (val (xs.drop h) * val (ys.drop h)))
  (hm : val Lm = val (xs.take h) * val (ys.drop h) + val (xs.drop h) * val (ys.take h))
  (hM : M2.length = Z.length) (ht : M2.take h = Z.take h) (hc : ∃ c, val (M2.drop h) + BB ^ (Z.length - h) * c = val (Z.drop h) + val (strip Lm)) :
  M2.length = xs.length + ys.length ∧ val M2 = val xs * val ys := by
 have h1 := H.hx
 refine ⟨by rw [hM, hZ], ?_⟩
 obtain ⟨c, hc⟩ := hc
 have e1 := val_split M2 h (by omega)
 have e2 := val_split Z h (by omega)
 rw [ht] at e1
 have e3 : val M2 + BB ^ Z.length * c = val Z + BB ^ h * val (strip Lm) := by
  have : BB ^ Z.length = BB ^ h * BB ^ (Z.length - h) := by rw [← Nat.pow_add]; congr 1; omega
  rw [this, Nat.mul_assoc, e1, e2, Nat.add_assoc, ← Nat.mul_add, hc, Nat.mul_add, Nat.add_assoc]
 have e4 : val Z + BB ^ h * val (strip Lm) = val xs * val ys := by
  rw [val_strip, hm, hv, H.vx, H.vy, whole_eq]
 rw [e4, hZ] at e3
 exact (no_carry e3 (mul_lt_pow H.okx H.oky)).2
def PiSt (xs ys : List Nat) (i : Nat) (M : List Nat) : Prop := M.length = xs.length + ys.length ∧ val M = val (xs.take i) * val ys
theorem PiSt.start (xs ys : List Nat) : PiSt xs ys 0 (List.replicate (xs.length + ys.length) 0) := ⟨List.length_replicate, by rw [val_replicate]; simp [val]⟩
theorem PiSt.step {xs ys L M P : List Nat} {i e : Nat} (hx : ok xs) (hy : ok ys) (h : PiSt xs ys i L) (hie : i ≤ e) (he : e ≤ xs.length) (hP : val P = val ((xs.drop i).take (e - i)) * val ys)
  (hM : M.length = L.length) (ht : M.take i = L.take i) (hc : ∃ c, val (M.drop i) + BB ^ (L.length - i) * c = val (L.drop i) + val (strip P)) : PiSt xs ys e M := by
 obtain ⟨h1, h2⟩ := h
 refine ⟨by rw [hM, h1], ?_⟩
 obtain ⟨c, hc⟩ := hc
 have e1 := val_split M i (by omega)
 have e2 := val_split L i (by omega)
 rw [ht] at e1
 have e3 : val M + BB ^ L.length * c = val L + BB ^ i * val (strip P) := by
  have : BB ^ L.length = BB ^ i * BB ^ (L.length - i) := by rw [← Nat.pow_add]; congr 1; omega
  rw [this, Nat.mul_assoc, e1, e2, Nat.add_assoc, ← Nat.mul_add, hc, Nat.mul_add, Nat.add_assoc]
 have e4 : val L + BB ^ i * val (strip P) = val (xs.take e) * val ys := by
  have e5 := val_split (xs.take e) i (by rw [List.length_take]; omega)
  rw [List.take_take, Nat.min_eq_left hie, List.drop_take] at e5
  rw [val_strip, hP, h2, e5, Nat.add_mul, Nat.mul_assoc]
 rw [e4, h1] at e3
 refine (no_carry e3 ?_).2
 have h3 := mul_lt_pow (ok_take hx e) hy
 refine Nat.lt_of_lt_of_le h3 (Nat.pow_le_pow_right BB_pos ?_)
 rw [List.length_take]; omega
theorem PiSt.done {xs ys M : List Nat} (h : PiSt xs ys xs.length M) : M.length = xs.length + ys.length ∧ val M = val xs * val ys := by
 obtain ⟨h1, h2⟩ := h
 rw [List.take_length] at h2
 exact ⟨h1, h2⟩
theorem piece_len {xs ys P : List Nat} {i e : Nat} (hx : ok xs) (hy : ok ys) (he : e ≤ xs.length) (hP : val P = val ((xs.drop i).take (e - i)) * val ys) (hie : i ≤ e) : (strip P).length ≤ xs.length + ys.length - i := by
 refine strip_short P ?_
 have := mul_lt_pow (ok_take (ok_drop hx i) (e - i)) hy
 rw [hP]
 refine Nat.lt_of_lt_of_le this (Nat.pow_le_pow_right BB_pos ?_)
 rw [List.length_take, List.length_drop]; omega
end NatP
namespace NatP
def decV (ds : List Nat) : Nat := ds.foldl (fun a x => a * 10 + x) 0
theorem foldl_dec : ∀ (b : List Nat) (a : Nat), b.foldl (fun a x => a * 10 + x) a = a * 10 ^ b.length + decV b
 | [], a => by simp [decV]
 | x :: b, a => by
  have h1 := foldl_dec b (a * 10 + x)
  have h2 := foldl_dec b (0 * 10 + x)
  have e : decV (x :: b) = b.foldl (fun a x => a * 10 + x) (0 * 10 + x) := rfl
  rw [List.foldl_cons, h1, e, h2, List.length_cons, Nat.pow_succ, Nat.zero_mul, Nat.zero_add, Nat.add_mul, Nat.mul_assoc, Nat.mul_comm 10, Nat.add_assoc]
theorem decV_append (a b : List Nat) : decV (a ++ b) = decV a * 10 ^ b.length + decV b := by
 unfold decV; rw [List.foldl_append]; exact foldl_dec b _
theorem decV_snoc (a : List Nat) (x : Nat) : decV (a ++ [x]) = decV a * 10 + x := by
 rw [decV_append]; simp [decV]
theorem decV_lt {ds : List Nat} (h : ∀ x ∈ ds, x < 10) : decV ds < 10 ^ ds.length := by
 refine snoc_ind (P := fun ds => (∀ x ∈ ds, x < 10) → decV ds < 10 ^ ds.length) (fun _ => by simp [decV]) (fun l d ih h => ?_) ds h
 have h1 := ih fun x hx => h x (by simp [hx])
 have h2 := h d (by simp)
 rw [decV_snoc, List.length_append, List.length_cons, List.length_nil, Nat.pow_succ]
 omega
theorem decV_take_succ {ds : List Nat} {i x : Nat} (h : ds[i]? = some x) : decV (ds.take (i + 1)) = decV (ds.take i) * 10 + x := by
 rw [List.take_add_one, h]; exact decV_snoc _ _
theorem ten_BB (n : Nat) : 10 ^ n ≤ BB ^ n := Nat.pow_le_pow_left (by unfold BB; omega) n
theorem ten_19 {n : Nat} (h : n ≤ 19) : 10 ^ n < BB := by
 have h1 : 10 ^ n ≤ 10 ^ 19 := Nat.pow_le_pow_right (by omega) h
 have h2 : (10 : Nat) ^ 19 < BB := by unfold BB; decide
 omega
theorem dec_len {l : List Nat} {n : Nat} (hs : strip l = l) (h : val l < 10 ^ n) : l.length ≤ n := by
 have := strip_len_of_lt l n (Nat.lt_of_lt_of_le h (ten_BB n))
 rw [hs] at this; exact this
theorem dec_len' {l : List Nat} {n : Nat} (hs : strip l = l) (h : val l ≤ 10 ^ n) : l.length ≤ n + 1 := by
 refine dec_len hs (Nat.lt_of_le_of_lt h ?_)
 rw [Nat.pow_succ]
 have : 0 < 10 ^ n := Nat.pow_pos (by omega)
 omega
theorem decV_split (ds : List Nat) (i : Nat) (h : i ≤ ds.length) : decV ds = decV (ds.take i) * 10 ^ (ds.length - i) + decV (ds.drop i) := by
 have := decV_append (ds.take i) (ds.drop i)
 rw [List.take_append_drop, List.length_drop] at this
 exact this
def digVal (c : Nat) : Nat := if 48 ≤ c ∧ c ≤ 57 then c - 48 else if 97 ≤ c ∧ c ≤ 122 then c - 87 else if 65 ≤ c ∧ c ≤ 90 then c - 55 else 36
end NatP
namespace NatP
def dg (n : Nat) : List Nat := if n = 0 then [] else dg (n / 10) ++ [n % 10]
termination_by n
decreasing_by omega
theorem dg_zero : dg 0 = [] := by rw [dg]; rfl
theorem dg_pos {n : Nat} (h : 0 < n) : dg n = dg (n / 10) ++ [n % 10] := by rw [dg, if_neg (by omega)]
theorem dg_lt : ∀ n, ∀ x ∈ dg n, x < 10 := by
 intro n
 induction n using Nat.strongRecOn with
 | ind n ih =>
  intro x hx
  by_cases h : n = 0
  ·subst h; rw [dg_zero] at hx; cases hx
  ·rw [dg_pos (by omega)] at hx
   rcases List.mem_append.1 hx with hx | hx
   ·exact ih (n / 10) (by omega) x hx
   ·simp at hx; omega
def fw (n : Nat) : Nat → List Nat
 | 0 => []
 | w + 1 => fw (n / 10) w ++ [n % 10]
theorem fw_len (n : Nat) : ∀ w, (fw n w).length = w := by
 intro w
 induction w generalizing n with
 | zero => rfl
 | succ w ih => rw [fw, List.length_append, ih]; rfl
theorem fw_zero (w : Nat) : fw 0 w = List.replicate w 0 := by
 induction w with
 | zero => rfl
 | succ w ih => rw [fw, Nat.zero_div, ih, ← List.replicate_succ']
def pad (n w : Nat) : List Nat := List.replicate (w - (dg n).length) 0 ++ dg n
theorem dg_len_le {n w : Nat} (h : n < 10 ^ w) : (dg n).length ≤ w := by
 induction w generalizing n with
 | zero =>
  have : n = 0 := by rw [Nat.pow_zero] at h; omega
  subst this; rw [dg_zero]; exact Nat.le_refl _
 | succ w ih =>
  by_cases h0 : n = 0
  ·subst h0; rw [dg_zero]; exact Nat.zero_le _
  ·rw [dg_pos (by omega), List.length_append]
   have := ih (n := n / 10) (by rw [Nat.pow_succ] at h; omega)
   simp only [List.length_cons, List.length_nil]; omega
theorem pad_fw {n w : Nat} (h : n < 10 ^ w) : pad n w = fw n w := by
 induction w generalizing n with
 | zero =>
  have : n = 0 := by rw [Nat.pow_zero] at h; omega
  subst this; simp [pad, dg_zero, fw]
 | succ w ih =>
  by_cases h0 : n = 0
  ·subst h0; rw [fw_zero]; simp [pad, dg_zero]
  ·have h1 : n / 10 < 10 ^ w := by rw [Nat.pow_succ] at h; omega
   have h2 := ih h1
   rw [fw, ← h2, pad, pad, dg_pos (by omega : 0 < n), List.length_append, List.length_cons, List.length_nil]
   rw [show w + 1 - ((dg (n / 10)).length + (0 + 1)) = w - (dg (n / 10)).length from by omega, List.append_assoc]
theorem dg_split {q r l : Nat} (hq : 0 < q) (hr : r < 10 ^ l) : dg (q * 10 ^ l + r) = dg q ++ fw r l := by
 induction l generalizing r with
 | zero =>
  have : r = 0 := by rw [Nat.pow_zero] at hr; omega
  subst this; simp [fw]
 | succ l ih =>
  have hp : 0 < 10 ^ l := Nat.pow_pos (by omega)
  have hq2 : 0 < q * 10 ^ l := Nat.mul_pos hq hp
  have e : q * 10 ^ (l + 1) + r = 10 * (q * 10 ^ l) + r := by rw [Nat.pow_succ, ← Nat.mul_assoc, Nat.mul_comm _ 10]
  have h1 : r / 10 < 10 ^ l := by rw [Nat.pow_succ] at hr; omega
  have e2 : (10 * (q * 10 ^ l) + r) / 10 = q * 10 ^ l + r / 10 := by omega
  have e3 : (10 * (q * 10 ^ l) + r) % 10 = r % 10 := by omega
  rw [e, dg_pos (by omega), e2, e3, ih h1, fw, List.append_assoc]
theorem pad_split {q r l w : Nat} (hq : 0 < q) (hr : r < 10 ^ l) : pad (q * 10 ^ l + r) w = pad q (w - l) ++ fw r l := by
 rw [pad, dg_split hq hr, List.length_append, fw_len, pad, ← List.append_assoc]
 rw [show w - ((dg q).length + l) = w - l - (dg q).length from by omega]
def gq (U V : Nat) : Nat := min (BB - 1) (U / V)
theorem gq_right {U V P u3 v2 ul vl : Nat} (hU : U = u3 * P + ul) (hul : ul < P) (hV : V = v2 * P + vl) (hvl : vl < P) (hlt : U < V * BB) (hv2 : BB ≤ v2) :
  U / V ≤ gq u3 v2 ∧ gq u3 v2 ≤ U / V + 1 := by
 have hP : 0 < P := by omega
 have hB := BB_pos
 have hv0 : 0 < v2 := by omega
 have hV0 : 0 < V := by rw [hV]; have := Nat.mul_pos hv0 hP; omega
 constructor
 ·unfold gq
  refine Nat.le_min.2 ⟨?_, ?_⟩
  ·have : U / V < BB := (Nat.div_lt_iff_lt_mul hV0).2 (by rw [Nat.mul_comm]; exact hlt)
   omega
  ·rw [Nat.le_div_iff_mul_le hv0]
   have h1 : U / V * V ≤ U := Nat.div_mul_le_self U V
   have h2 : U / V * v2 * P ≤ U / V * V := by
    rw [Nat.mul_assoc]; exact Nat.mul_le_mul_left _ (by rw [hV]; omega)
   have h3 : U < (u3 + 1) * P := by rw [hU, Nat.add_mul, Nat.one_mul]; omega
   have h4 : U / V * v2 * P < (u3 + 1) * P := by omega
   have h5 := Nat.lt_of_mul_lt_mul_right h4
   omega
 ·have hg1 : gq u3 v2 ≤ u3 / v2 := Nat.min_le_right _ _
  have hg2 : gq u3 v2 ≤ BB - 1 := Nat.min_le_left _ _
  generalize gq u3 v2 = g at *
  cases g with
  | zero => exact Nat.zero_le _
  | succ g =>
   have h1 : (g + 1) * v2 ≤ u3 := (Nat.le_div_iff_mul_le hv0).1 hg1
   have h2 : (g + 1) * v2 * P ≤ u3 * P := Nat.mul_le_mul_right P h1
   have h3 : g * V ≤ U := by
    have e1 : (g + 1) * v2 * P = g * (v2 * P) + v2 * P := by rw [Nat.mul_assoc, Nat.add_mul, Nat.one_mul]
    have e2 : g * V = g * (v2 * P) + g * vl := by rw [hV, Nat.mul_add]
    have h4 : g * vl ≤ v2 * P := Nat.mul_le_mul (by omega) (by omega)
    omega
   have := (Nat.le_div_iff_mul_le hV0).2 h3
   omega
end NatP
namespace NatP
section guess
variable {W u0 v1 v0 d rest : Nat}
theorem gq_mul : d * (v1 * BB + v0) = d * v1 * BB + d * v0 := by rw [Nat.mul_add, Nat.mul_assoc]
theorem gq_exit (h : d * v1 + rest = W) (hd : d < BB) (ht : d * v0 ≤ rest * BB + u0) (hg : gq (W * BB + u0) (v1 * BB + v0) ≤ d) (hv : 0 < v1) : gq (W * BB + u0) (v1 * BB + v0) = d := by
 have hV : 0 < v1 * BB + v0 := by have := Nat.mul_pos hv BB_pos; omega
 refine Nat.le_antisymm hg ?_
 unfold gq
 refine Nat.le_min.2 ⟨by omega, ?_⟩
 rw [Nat.le_div_iff_mul_le hV, gq_mul, ← h, Nat.add_mul]
 omega
theorem gq_step (h : d * v1 + rest = W) (ht : rest * BB + u0 < d * v0) (hv : 0 < v1) : gq (W * BB + u0) (v1 * BB + v0) ≤ d - 1 := by
 have hV : 0 < v1 * BB + v0 := by have := Nat.mul_pos hv BB_pos; omega
 refine Nat.le_trans (Nat.min_le_right _ _) ?_
 have : (W * BB + u0) / (v1 * BB + v0) < d := by
  rw [Nat.div_lt_iff_lt_mul hV, gq_mul, ← h, Nat.add_mul]
  omega
 omega
theorem gq_over (h : d * v1 + rest = W) (hd : d < BB) (hv0 : v0 < BB) (hr : BB ≤ rest) (hg : gq (W * BB + u0) (v1 * BB + v0) ≤ d) (hv : 0 < v1) : gq (W * BB + u0) (v1 * BB + v0) = d := by
 refine gq_exit h hd ?_ hg hv
 have h1 : d * v0 ≤ BB * BB := Nat.mul_le_mul (by omega) (by omega)
 have h2 : BB * BB ≤ rest * BB := Nat.mul_le_mul_right _ hr
 omega
theorem gq_start (hu : u0 < BB) (hv : 0 < v1) : gq (W * BB + u0) (v1 * BB + v0) ≤ W / v1 := by
 have hV : 0 < v1 * BB + v0 := by have := Nat.mul_pos hv BB_pos; omega
 refine Nat.le_trans (Nat.min_le_right _ _) ?_
 have : (W * BB + u0) / (v1 * BB + v0) < W / v1 + 1 := by
  rw [Nat.div_lt_iff_lt_mul hV, gq_mul]
  have h1 : W < (W / v1 + 1) * v1 := by
   have := Nat.lt_div_mul_add (a := W) hv
   rw [Nat.add_mul, Nat.one_mul]; omega
  have h2 : (W + 1) * BB ≤ (W / v1 + 1) * v1 * BB := Nat.mul_le_mul_right _ h1
  rw [Nat.add_mul, Nat.one_mul] at h2
  omega
 omega
theorem gq_top : gq (W * BB + u0) (v1 * BB + v0) ≤ BB - 1 := Nat.min_le_left _ _
end guess
theorem take_step {A A' P d Vi vi ui u' carry lent hi lo lo2 c lent' : Nat} (hm : hi * BB + lo = d * vi) (ha : lo + carry = lo2 + c * BB) (hs : ui + lent' * BB = u' + lo2 + lent)
  (h : A + P * (carry + lent) = A' + d * Vi) : A + P * ui + P * BB * (hi + c + lent') = A' + P * u' + d * (Vi + P * vi) := by
 have e1 : ui + BB * (hi + c + lent') = u' + lent + carry + d * vi := by
  rw [Nat.mul_add, Nat.mul_add, Nat.mul_comm BB hi, Nat.mul_comm BB c, Nat.mul_comm BB lent']; omega
 have e2 : P * ui + P * BB * (hi + c + lent') = P * (ui + BB * (hi + c + lent')) := by rw [Nat.mul_add P ui (BB * (hi + c + lent')), Nat.mul_assoc]
 have e3 : P * (u' + lent + carry + d * vi) = P * u' + P * (carry + lent) + d * (P * vi) := by
  rw [show u' + lent + carry + d * vi = u' + (carry + lent) + d * vi from by omega, Nat.mul_add, Nat.mul_add, ← Nat.mul_assoc, Nat.mul_comm P d, Nat.mul_assoc]
 have e4 : d * (Vi + P * vi) = d * Vi + d * (P * vi) := Nat.mul_add _ _ _
 rw [Nat.add_assoc, e2, e1, e3, e4]
 omega
theorem take_carry {d vi carry hi lo lo2 c : Nat} (hd : d < BB) (hv : vi < BB) (hc : carry < BB) (hm : hi * BB + lo = d * vi) (ha : lo + carry = lo2 + c * BB) : hi + c < BB := by
 have h1 : d * vi ≤ (BB - 1) * (BB - 1) := Nat.mul_le_mul (by omega) (by omega)
 have h2 : (BB - 1) * (BB - 1) + (BB - 1) = (BB - 1) * BB := by
  have : BB = BB - 1 + 1 := by have := BB_pos; omega
  conv => rhs; rw [this]
  rw [Nat.add_sub_cancel, Nat.mul_add, Nat.mul_one]
 have h3 : (hi + c) * BB ≤ (BB - 1) * BB := by rw [Nat.add_mul]; omega
 have h4 := Nat.le_of_mul_le_mul_right h3 BB_pos
 have := BB_pos
 omega
theorem word_fit {U V R g T lent : Nat} (h1 : U / V ≤ g) (hV : 0 < V) (h : U + T * lent = R + g * V) (hl : lent = 0) : g = U / V ∧ R = U % V := by
 subst hl
 rw [Nat.mul_zero, Nat.add_zero] at h
 have h2 : g ≤ U / V := (Nat.le_div_iff_mul_le hV).2 (by omega)
 have h3 : g = U / V := Nat.le_antisymm h2 h1
 refine ⟨h3, ?_⟩
 have := Nat.div_add_mod U V
 rw [Nat.mul_comm, ← h3] at this
 omega
theorem word_back {U V R g T : Nat} (h1 : U / V ≤ g) (h2 : g ≤ U / V + 1) (hV : 0 < V) (hR : R < T) (h : U + T = R + g * V) : g - 1 = U / V ∧ R + V = U % V + T := by
 have h3 : ¬ g = U / V := fun e => by
  have := Nat.div_mul_le_self U V
  rw [← e] at this; omega
 have h4 : g = U / V + 1 := by omega
 refine ⟨by rw [h4, Nat.add_sub_cancel], ?_⟩
 rw [h4, Nat.add_mul, Nat.one_mul] at h
 have := Nat.div_add_mod U V
 rw [Nat.mul_comm] at this
 omega
end NatP
namespace NatP
theorem dg_exit {W u1 v1 v0 d rest b : Nat} (h : d * v1 + rest = W) (ht : d * v0 ≤ rest * b + u1) (hg : (W * b + u1) / (v1 * b + v0) ≤ d) (hv : 0 < v1 * b + v0) : (W * b + u1) / (v1 * b + v0) = d := by
 refine Nat.le_antisymm hg ?_
 rw [Nat.le_div_iff_mul_le hv, Nat.mul_add, ← h, Nat.add_mul, ← Nat.mul_assoc]
 omega
theorem dg_step {W u1 v1 v0 d rest b : Nat} (h : d * v1 + rest = W) (ht : rest * b + u1 < d * v0) (hv : 0 < v1 * b + v0) : (W * b + u1) / (v1 * b + v0) ≤ d - 1 := by
 have : (W * b + u1) / (v1 * b + v0) < d := by
  rw [Nat.div_lt_iff_lt_mul hv, Nat.mul_add, ← h, Nat.add_mul, ← Nat.mul_assoc]
  omega
 omega
theorem dg_start {W u1 v1 v0 b : Nat} (hu : u1 < b) (hv : 0 < v1) : (W * b + u1) / (v1 * b + v0) ≤ W / v1 := by
 have hb : 0 < b := by omega
 have hV : 0 < v1 * b + v0 := by have := Nat.mul_pos hv hb; omega
 have : (W * b + u1) / (v1 * b + v0) < W / v1 + 1 := by
  rw [Nat.div_lt_iff_lt_mul hV, Nat.mul_add, ← Nat.mul_assoc]
  have h1 : W < (W / v1 + 1) * v1 := by
   have := Nat.lt_div_mul_add (a := W) hv
   rw [Nat.add_mul, Nat.one_mul]; omega
  have h2 : (W + 1) * b ≤ (W / v1 + 1) * v1 * b := Nat.mul_le_mul_right _ h1
  rw [Nat.add_mul, Nat.one_mul] at h2
  omega
 omega
theorem dg_lt_base {W u1 V b : Nat} (hW : W < V) (hu : u1 < b) : (W * b + u1) / V < b := by
 rw [Nat.div_lt_iff_lt_mul (by omega)]
 have : (W + 1) * b ≤ V * b := Nat.mul_le_mul_right _ hW
 rw [Nat.add_mul, Nat.one_mul, Nat.mul_comm V b] at this
 omega
theorem two_digits {N V b W u1 u0 : Nat} (hb : 0 < b) (hV : 0 < V) (hN : N = (W * b + u1) * b + u0) :
  N / V = (W * b + u1) / V * b + ((W * b + u1) % V * b + u0) / V ∧ N % V = ((W * b + u1) % V * b + u0) % V := by
 have h1 := Nat.div_add_mod (W * b + u1) V
 generalize (W * b + u1) / V = q at *
 generalize (W * b + u1) % V = r at *
 have e : N = V * (q * b) + (r * b + u0) := by rw [hN, ← h1, Nat.add_mul, Nat.mul_assoc, Nat.add_assoc]
 rw [e]
 exact ⟨Nat.mul_add_div hV _ _, Nat.mul_add_mod _ _ _⟩
theorem shift_words {hi lo P S T : Nat} (hS : 0 < S) (hT : T = P * S) : (hi * T + lo) * S = (hi * S + lo / P) * T + lo * S % T := by
 have h1 : lo * S / T = lo / P := by rw [hT]; exact Nat.mul_div_mul_right _ _ hS
 have h2 := Nat.div_add_mod (lo * S) T
 rw [h1, Nat.mul_comm T] at h2
 rw [Nat.add_mul, Nat.add_mul, Nat.add_assoc, h2, Nat.mul_right_comm]
theorem shift_back {N y S : Nat} (hS : 0 < S) : N / y = N * S / (y * S) ∧ N % y = N * S % (y * S) / S := by
 refine ⟨(Nat.mul_div_mul_right _ _ hS).symm, ?_⟩
 rw [Nat.mul_mod_mul_right, Nat.mul_div_cancel _ hS]
theorem shift_lt {hi lo y P S T : Nat} (hP : 0 < P) (hT : T = P * S) (hh : hi < y) (hlo : lo < T) : hi * S + lo / P < y * S := by
 have h1 : lo / P < S := by rw [Nat.div_lt_iff_lt_mul hP, Nat.mul_comm, ← hT]; exact hlo
 have h2 : (hi + 1) * S ≤ y * S := Nat.mul_le_mul_right _ hh
 rw [Nat.add_mul, Nat.one_mul] at h2
 omega
end NatP
namespace Go.Proofs.YtgfmiladfeoldaaGreatDoor
open Go.RowKit NatP LexP
theorem ret_i64' {a b : Int} (h : a = b) : Ending.returned (.int .i64 a) = .returned (.int .i64 b) := by rw [h]
def ws (l : List Nat) : List Value := l.map fun d => .int .u64 (d : Nat)
theorem ws_length (l : List Nat) : (ws l).length = l.length := by simp [ws]
theorem ws_at {l : List Nat} {i x : Nat} (h : l[i]? = some x) : (ws l)[i]? = some (.int .u64 (x : Nat)) := by simp [ws, h]
theorem ws_one (l : List Nat) : ∀ u ∈ ws l, u.oneCell' = true := by
 intro u hu; simp only [ws, List.mem_map] at hu; obtain ⟨d, _, rfl⟩ := hu; rfl
theorem Tryz.infoW : (Tryz.prog.info? 101).map (fun i => (i.zero, i.size, i.bytes)) = some (some (.int .u64 0), 1, 8) := by kernel_rfl
theorem Tryz.infoW1 : (Tryz.prog.info? 101).map (·.size) = some 1 := by kernel_rfl
def Rd (w : World) (v : Value) (xs : List Nat) : Prop :=
 (∀ k, v.ownBlock = some k → k < w.heap.size) ∧ ∃ ao cap, v = .slice ao xs.length cap ∧ xs.length ≤ cap ∧ cap ≤ maxLen ∧ ok xs ∧ ∀ i x, xs[i]? = some x → ∃ g o, ao = some ⟨g, o, none⟩ ∧ w.cell? ⟨g, o + i, none⟩ = some (.int .u64 (x : Nat))
theorem Rd.kept {w w' : World} {v : Value} {xs : List Nat} {row : Option Nat} (h : Rd w v xs) (hg : w.grownBy w' row) (hne : ∀ k, row = some k → v.ownBlock ≠ some k) : Rd w' v xs := by
 obtain ⟨h0, ao, cap, rfl, h1, h2, h3, h4⟩ := h
 refine ⟨fun k hk => Nat.lt_of_lt_of_le (h0 k hk) hg.size, ao, cap, rfl, h1, h2, h3, fun i x hx => ?_⟩
 obtain ⟨g, o, rfl, hc⟩ := h4 i x hx
 exact ⟨g, o, rfl, hg.cell hc (fun e => hne g e.symm rfl)⟩
theorem Rd.below {w w' : World} {v : Value} {xs : List Nat} (h : Rd w v xs) (hb : Below w.heap.size w w') : Rd w' v xs :=
 h.kept (row := none) ⟨hb.os, hb.tape, hb.output, hb.size, fun k hk _ => hb.block k hk⟩ (fun k hk => by cases hk)
theorem Rd.drewN {w : World} {v : Value} {xs : List Nat} (h : Rd w v xs) (n : Nat) : Rd (w.drewN n) v xs :=
 h.below ⟨rfl, rfl, rfl, Nat.le_refl _, fun _ _ => rfl⟩
theorem Rd.alloc {w : World} {v : Value} {xs : List Nat} (h : Rd w v xs) (o : Obj) : Rd (w.alloc o) v xs :=
 h.below ((Below.refl _ _).alloc (Nat.le_refl _) o)
theorem Rd.nil (w : World) : Rd w (.slice none 0 0) [] := ⟨fun k hk => (by cases hk), none, 0, rfl, Nat.le_refl _, Nat.zero_le _, ok_nil, fun i x h => by simp at h⟩
theorem Rd.take {w : World} {ao : Option Addr} {len cap n c : Nat} {xs : List Nat} (h : Rd w (.slice ao len cap) xs) (hn : n ≤ xs.length) (hc : n ≤ c) (hm : c ≤ cap) : Rd w (.slice ao n c) (xs.take n) := by
 obtain ⟨h0, ao', cap', e, h1, h2, h3, h4⟩ := h
 simp only [Value.slice.injEq] at e
 obtain ⟨rfl, rfl, rfl⟩ := e
 refine ⟨fun k hk => h0 k (by cases ao <;> first | exact hk | cases hk), ao, c, by rw [List.length_take, Nat.min_eq_left hn], by rw [List.length_take]; omega, by omega, ok_take h3 _, fun i x hx => ?_⟩
 rw [List.getElem?_take] at hx
 split at hx
 ·exact h4 i x hx
 ·cases hx
theorem Rd.lt {w : World} {v : Value} {xs : List Nat} (h : Rd w v xs) {k : Nat} (hk : v.ownBlock = some k) : k < w.heap.size := h.1 k hk
theorem Rd.ne {w : World} {v : Value} {xs : List Nat} (h : Rd w v xs) {g : Nat} (hg : w.heap.size ≤ g) : v.ownBlock ≠ some g := fun e => by have := h.1 g e; omega
def Blk (w : World) (g : Nat) (L : List Nat) : Prop := w.heap[g]? = some (.cells (ws L).toArray 101 (0, 0)) ∧ ok L
theorem Blk.lt {w : World} {g : Nat} {L : List Nat} (h : Blk w g L) : g < w.heap.size := (Array.getElem?_eq_some_iff.1 h.1).1
theorem Blk.cell {w : World} {g : Nat} {L : List Nat} (h : Blk w g L) {i x : Nat} (hx : L[i]? = some x) : w.cell? ⟨g, i, none⟩ = some (.int .u64 (x : Nat)) := by
 rw [cell_of_row w g i _ _ _ h.1]; simp [ws, hx]
theorem Blk.frozen {w : World} {g : Nat} {L : List Nat} (h : Blk w g L) (i : Nat) : w.frozen? ⟨g, i, none⟩ = false := frozen_of_row w g i _ _ h.1
theorem Blk.set {w : World} {g : Nat} {L : List Nat} (h : Blk w g L) (i : Nat) {x : Nat} (hx : x < BB) : Blk (w.setCell ⟨g, i, none⟩ (.int .u64 (x : Nat))) g (L.set i x) ∧ w.grownBy (w.setCell ⟨g, i, none⟩ (.int .u64 (x : Nat))) (some g) := by
 refine ⟨⟨?_, ok_set h.2 i hx⟩, ⟨rfl, rfl, rfl, by simp, fun k _ hk => heap_setCell_other w ⟨g, i, none⟩ k _ (fun e => hk (by simp [e]))⟩⟩
 have := heap_setCell_same w g i (ws L).toArray 101 (.int .u64 (x : Nat)) h.1
 rw [this]
 simp [ws, List.map_set]
theorem Blk.kept {w w' : World} {g : Nat} {L : List Nat} {row : Option Nat} (h : Blk w g L) (hg : w.grownBy w' row) (hne : row ≠ some g) : Blk w' g L :=
 ⟨(hg.block g h.lt (fun e => hne e.symm)).trans h.1, h.2⟩
theorem Blk.below {w w' : World} {g B : Nat} {L : List Nat} (h : Blk w g L) (hb : Below B w w') (hB : g < B) : Blk w' g L := ⟨(hb.block g hB).trans h.1, h.2⟩
theorem Blk.rd {w : World} {g : Nat} {L : List Nat} (h : Blk w g L) {o n c : Nat} (ho : o + n ≤ L.length) (hnc : n ≤ c) (hc : c ≤ maxLen) : Rd w (.slice (some ⟨g, o, none⟩) n c) ((L.drop o).take n) := by
 refine ⟨fun k hk => by cases hk; exact h.lt, _, c, by rw [List.length_take, List.length_drop, Nat.min_eq_left (by omega)], by rw [List.length_take]; omega, hc, ok_take (ok_drop h.2 _) _, fun i x hx => ⟨g, o, rfl, h.cell ?_⟩⟩
 rw [List.getElem?_take] at hx
 split at hx
 ·rw [List.getElem?_drop] at hx; exact hx
 ·cases hx
theorem Blk.made (w : World) (n : Nat) : Blk (w.alloc (.cells (madeCells #[.int .u64 0] n) 101)) w.heap.size (List.replicate n 0) := by
 refine ⟨?_, ok_replicate n⟩
 have h1 : (w.alloc (.cells (madeCells #[.int .u64 0] n) 101)).heap[w.heap.size]? = some (.cells (madeCells #[.int .u64 0] n) 101 (0, 0)) := by first | exact heap_alloc_new w _
 rw [h1]
 have h2 := toList_madeCells_one (.int .u64 0) n
 have h3 : madeCells #[Value.int .u64 0] n = (ws (List.replicate n 0)).toArray := by
  apply Array.toList_inj.1
  rw [h2]; simp [ws]
 rw [h3]
def Fr (B : Nat) (w : World) (v : Value) (xs : List Nat) : Prop := Rd w v xs ∧ ∀ k, v.ownBlock = some k → B ≤ k ∧ k < w.heap.size
theorem Fr.below {B : Nat} {w w' : World} {v : Value} {xs : List Nat} (h : Fr B w v xs) (hb : Below w.heap.size w w') : Fr B w' v xs := ⟨h.1.below hb, fun k hk => ⟨(h.2 k hk).1, Nat.lt_of_lt_of_le (h.2 k hk).2 hb.size⟩⟩
theorem Fr.mono {B B' : Nat} {w : World} {v : Value} {xs : List Nat} (h : Fr B w v xs) (hb : B' ≤ B) : Fr B' w v xs := ⟨h.1, fun k hk => ⟨Nat.le_trans hb (h.2 k hk).1, (h.2 k hk).2⟩⟩
def NewPost (xs : List Nat) (w : World) (e : Ending) (w' : World) : Prop := ∃ v, e = .returned v ∧ Fr w.heap.size w' v xs ∧ Below w.heap.size w w'
set_option maxRecDepth 100000 in
set_option maxHeartbeats 1000000 in
theorem size_any (v : Value) (xs : List Nat) (w : World) (hr : Rd w v xs) :
  Calls Tryz.prog 115 #[v] w fun e w' => e = .returned (.int .i64 ((strip xs).length : Nat)) ∧ w = w' := by
 obtain ⟨ao, cap, rfl, hnc, hcm, hok, hsh⟩ := hr.2
 have HS := Lib.hid hsh
 have hm : xs.length ≤ 9223372036854775807 := by unfold maxLen at hcm; omega
 clear hsh hcm hok
 go_enter Tryz.func115, Tryz.ntmps115
 go_wp2_with fail
 go_loop [3] (fun i => ∃ n : Nat, n ≤ xs.length ∧ i = .int .i64 (n : Nat) ∧ strip (xs.take n) = strip xs) (fun i => (intOf i).toNat)
 case atStart => exact ⟨xs.length, Nat.le_refl _, rfl, by rw [List.take_length]⟩
 case round =>
  obtain ⟨n, hn, rfl, hst⟩ := hrel
  have HST := Lib.hid hst
  clear hst
  cases n with
  | zero =>
   have HE := Lib.hid (strip_stop hn HST.out (.inl rfl))
   go_wp2_with fail
   go_ret
   exact ⟨ret_i64' (by rw [HE.out]; rfl), rfl⟩
  | succ m =>
   obtain ⟨x, hx⟩ : ∃ x, xs[m]? = some x := ⟨_, List.getElem?_eq_getElem (by omega)⟩
   obtain ⟨g, o, rfl, e1⟩ := HS.out m x hx
   have HX := Lib.hid hx
   clear hx
   by_cases h0 : x = 0
   ·have h1 : ((x : Int) == 0) = true := by simp [h0]
    have HN : Hid (strip (xs.take m) = strip xs) := by
     rcases strip_step hn HST.out (fun m' e => by cases e; rw [HX.out, h0]) with h | h
     ·cases h
     ·exact h
    clear h0
    go_wp2_with fail
    go_round
    case rel => exact ⟨m, by omega, by first | rfl | go_num, HN.out⟩
    case measure => simp [intOf] <;> omega
   ·have h1 : ((x : Int) == 0) = false := by simp [h0]
    have HE := Lib.hid (strip_stop hn HST.out (.inr ⟨m, x, rfl, HX.out, h0⟩))
    clear h0
    go_wp2_with fail
    go_ret
    exact ⟨ret_i64' (by rw [HE.out] <;> first | rfl | omega), rfl⟩
set_option maxRecDepth 100000 in
set_option maxHeartbeats 1000000 in
theorem mtrim_any (ao : Option Addr) (cap : Nat) (xs : List Nat) (w : World) (hr : Rd w (.slice ao xs.length cap) xs) :
  Calls Tryz.prog 273 #[.slice ao xs.length cap] w fun e w' => e = .returned (.slice ao (strip xs).length (strip xs).length) ∧ w = w' := by
 obtain ⟨ao, cap, e, hnc, hcm, hok, hsh⟩ := hr.2
 simp only [Value.slice.injEq] at e
 obtain ⟨rfl, -, rfl⟩ := e
 have HS := Lib.hid hsh
 have hm : cap ≤ 9223372036854775807 := by unfold maxLen at hcm; omega
 clear hsh hcm hok
 go_enter Tryz.func273, Tryz.ntmps273
 go_wp2_with fail
 go_loop [3] (fun i => ∃ n : Nat, n ≤ xs.length ∧ i = .int .i64 (n : Nat) ∧ strip (xs.take n) = strip xs) (fun i => (intOf i).toNat)
 case atStart => exact ⟨xs.length, Nat.le_refl _, rfl, by rw [List.take_length]⟩
 case round =>
  obtain ⟨n, hn, rfl, hst⟩ := hrel
  have HST := Lib.hid hst
  clear hst
  cases n with
  | zero =>
   have HE := Lib.hid (strip_stop hn HST.out (.inl rfl))
   go_wp2_with fail
   go_ret
   exact ⟨by first | (rw [HE.out]; done) | (rw [HE.out]; rfl), rfl⟩
  | succ m =>
   obtain ⟨x, hx⟩ : ∃ x, xs[m]? = some x := ⟨_, List.getElem?_eq_getElem (by omega)⟩
   obtain ⟨g, o, rfl, e1⟩ := HS.out m x hx
   have HX := Lib.hid hx
   clear hx
   by_cases h0 : x = 0
   ·have h1 : ((x : Int) == 0) = true := by simp [h0]
    have HN : Hid (strip (xs.take m) = strip xs) := by
     rcases strip_step hn HST.out (fun m' e => by cases e; rw [HX.out, h0]) with h | h
     ·cases h
     ·exact h
    clear h0
    go_wp2_with fail
    go_round
    case rel => exact ⟨m, by omega, by first | rfl | go_num, HN.out⟩
    case measure => simp [intOf] <;> omega
   ·have h1 : ((x : Int) == 0) = false := by simp [h0]
    have HE := Lib.hid (strip_stop hn HST.out (.inr ⟨m, x, rfl, HX.out, h0⟩))
    clear h0
    go_wp2_with fail
    go_ret
    exact ⟨by first | (rw [HE.out]; done) | (rw [HE.out]; rfl), rfl⟩
theorem trim_rd {ao : Option Addr} {cap : Nat} {xs : List Nat} {w : World} (hr : Rd w (.slice ao xs.length cap) xs) : Rd w (.slice ao (strip xs).length (strip xs).length) (strip xs) := by
 have h1 := strip_take xs
 have h2 := hr
 obtain ⟨ao', cap', e, hnc, -, -, -⟩ := h2.2
 simp only [Value.slice.injEq] at e
 obtain ⟨rfl, -, rfl⟩ := e
 have := hr.take (n := (strip xs).length) (c := (strip xs).length) h1.2 (Nat.le_refl _) (Nat.le_trans h1.2 hnc)
 rw [← h1.1] at this
 exact this
end Go.Proofs.YtgfmiladfeoldaaGreatDoor
namespace Go.Proofs.YtgfmiladfeoldaaGreatDoor
open Go.RowKit NatP
theorem u64_in (n : Nat) (h : n < 18446744073709551616) : IntKind.u64.wrap (n : Int) = (n : Int) := by rw [IntKind.wrap_u64]; omega
theorem and32 (x : Nat) (h : x < 18446744073709551616) : bits BinOp.and IntKind.u64 (x : Int) 4294967295 = ((x % 4294967296 : Nat) : Int) := by
 have h1 := bits_and_u64_nat x 4294967295 h (by omega)
 have h2 : x &&& 4294967295 = x % 4294967296 := Nat.and_two_pow_sub_one_eq_mod x 32
 rw [h2] at h1; exact h1
theorem or_join (x y i : Nat) (hx : x < 18446744073709551616) (hd : x % 2 ^ i = 0) (hy : y < 2 ^ i) (hy2 : y < 18446744073709551616) : bits BinOp.or IntKind.u64 (x : Int) (y : Int) = ((x + y : Nat) : Int) := by
 have h := bits_join .u64 64 (by decide) wraps_u64 i (x : Int) (y : Int) (by omega) (by exact_mod_cast hd) (by exact_mod_cast hx) (by omega) (by exact_mod_cast hy) (by exact_mod_cast hy2)
 rw [h]; rfl
def Div64Post (hi lo y : Nat) (w : World) (e : Ending) (w' : World) : Prop :=
 e = .returned (.tuple #[.int .u64 ((hi * BB + lo) / y : Nat), .int .u64 ((hi * BB + lo) % y : Nat)]) ∧ ∃ k, w' = w.drewN k
set_option maxRecDepth 100000 in
set_option maxHeartbeats 2000000 in
theorem div64_zero (lo y : Nat) (w : World) (hlo : lo < BB) (hy0 : 0 < y) (hy : y < BB) :
  Calls Tryz.prog 277 #[.int .u64 (0 : Nat), .int .u64 (lo : Nat), .int .u64 (y : Nat)] w (Div64Post 0 lo y w) := by
 have hBB : BB = 18446744073709551616 := rfl
 rw [hBB] at hlo hy
 have HQ : Hid ((0 * BB + lo) / y = lo / y ∧ (0 * BB + lo) % y = lo % y) := by rw [Nat.zero_mul, Nat.zero_add]; exact ⟨rfl, rfl⟩
 clear hBB
 have hyz : ((y : Int) == 0) = false := by simp; omega
 have hqb : lo / y < 18446744073709551616 := Nat.lt_of_le_of_lt (Nat.div_le_self _ _) hlo
 have hrb : lo % y < 18446744073709551616 := Nat.lt_trans (Nat.mod_lt _ hy0) hy
 have hqi : IntKind.u64.wrap ((lo : Int) / (y : Int)) = ((lo / y : Nat) : Int) := by
  have e : ((lo : Int) / (y : Int)) = ((lo / y : Nat) : Int) := rfl
  rw [e]; exact u64_in _ hqb
 have hri : (lo : Int) % (y : Int) = ((lo % y : Nat) : Int) := rfl
 clear hqb hrb
 go_enter Tryz.func277, Tryz.ntmps277
 go_wp2_with fail
 go_quiet (fail)
 go_wp2_with fail
 go_ret2
 exact ⟨by rw [HQ.out.1, HQ.out.2]; rfl, ⟨_, rfl⟩⟩
end Go.Proofs.YtgfmiladfeoldaaGreatDoor
