/- Plain numbers: lists of words to the base 2^64, the lowest first. No program in sight. -/
import Derived.Lib.IndexMore
namespace NatP

def BB : Nat := 18446744073709551616
theorem BB_pos : 0 < BB := by unfold BB; omega
theorem BB_def : BB = 18446744073709551616 := rfl

/-- The value of a list of words. -/
def val : List Nat → Nat
  | [] => 0
  | x :: l => x + BB * val l

def ok (l : List Nat) : Prop := ∀ x ∈ l, x < BB

theorem ok_nil : ok [] := fun x h => by cases h
theorem ok_cons {x : Nat} {l : List Nat} (hx : x < BB) (h : ok l) : ok (x :: l) := fun y hy => by
  rcases List.mem_cons.1 hy with rfl | hy
  · exact hx
  · exact h y hy
theorem ok_take {l : List Nat} (h : ok l) (n : Nat) : ok (l.take n) := fun x hx => h x (List.mem_of_mem_take hx)
theorem ok_drop {l : List Nat} (h : ok l) (n : Nat) : ok (l.drop n) := fun x hx => h x (List.mem_of_mem_drop hx)
theorem ok_append {a b : List Nat} (ha : ok a) (hb : ok b) : ok (a ++ b) := fun x hx => by
  rcases List.mem_append.1 hx with h | h
  · exact ha x h
  · exact hb x h
theorem ok_set {l : List Nat} (h : ok l) (i : Nat) {x : Nat} (hx : x < BB) : ok (l.set i x) := fun y hy => by
  rcases List.mem_or_eq_of_mem_set hy with h1 | rfl
  · exact h y h1
  · exact hx
theorem ok_replicate (n : Nat) : ok (List.replicate n 0) := fun x hx => by
  rw [List.eq_of_mem_replicate hx]; exact BB_pos

theorem val_append : ∀ (a b : List Nat), val (a ++ b) = val a + BB ^ a.length * val b
  | [], b => by simp [val]
  | x :: a, b => by
    simp only [List.cons_append, val, List.length_cons, Nat.pow_succ, val_append a b]
    rw [Nat.mul_add, Nat.mul_comm (BB ^ a.length) BB, Nat.mul_assoc, Nat.add_assoc]

theorem val_snoc (a : List Nat) (x : Nat) : val (a ++ [x]) = val a + BB ^ a.length * x := by
  rw [val_append]; simp [val]

theorem val_take_succ {l : List Nat} {i : Nat} (h : i < l.length) : val (l.take (i + 1)) = val (l.take i) + BB ^ i * l[i] := by
  rw [List.take_succ_eq_append_getElem h, val_snoc, List.length_take, Nat.min_eq_left (by omega)]

theorem val_split (l : List Nat) (i : Nat) (h : i ≤ l.length) : val l = val (l.take i) + BB ^ i * val (l.drop i) := by
  have := val_append (l.take i) (l.drop i)
  rw [List.take_append_drop, List.length_take, Nat.min_eq_left h] at this
  exact this

theorem val_replicate (n : Nat) : val (List.replicate n 0) = 0 := by
  induction n with
  | zero => rfl
  | succ n ih => rw [List.replicate_succ]; simp [val, ih]

theorem val_lt : ∀ {a : List Nat}, ok a → val a < BB ^ a.length
  | [], _ => by simp [val]
  | x :: a, h => by
    have h1 := h x (by simp)
    have h2 := val_lt (a := a) fun d hd => h d (by simp [hd])
    simp only [val, List.length_cons, Nat.pow_succ]
    have h3 : BB * val a + BB ≤ BB * BB ^ a.length := by
      rw [← Nat.mul_succ]; exact Nat.mul_le_mul_left _ h2
    rw [Nat.mul_comm (BB ^ a.length)]
    omega

/-- Without zero words at the high end. -/
def strip (l : List Nat) : List Nat := (l.reverse.dropWhile (· == 0)).reverse

theorem strip_snoc_zero (l : List Nat) : strip (l ++ [0]) = strip l := by simp [strip]
theorem strip_snoc_pos (l : List Nat) (d : Nat) (h : d ≠ 0) : strip (l ++ [d]) = l ++ [d] := by simp [strip, h]
theorem strip_nil : strip [] = [] := rfl

/-- Induction from the high end. -/
theorem snoc_ind {P : List Nat → Prop} (h0 : P []) (h1 : ∀ l d, P l → P (l ++ [d])) (l : List Nat) : P l := by
  have : ∀ m : List Nat, P m.reverse := by
    intro m
    induction m with
    | nil => exact h0
    | cons d m ih => rw [List.reverse_cons]; exact h1 _ _ ih
  have h := this l.reverse
  rwa [List.reverse_reverse] at h

theorem strip_take : ∀ l : List Nat, strip l = l.take (strip l).length ∧ (strip l).length ≤ l.length := by
  apply snoc_ind
  · exact ⟨rfl, Nat.le_refl _⟩
  · intro l d ih
    by_cases h : d = 0
    · subst h
      rw [strip_snoc_zero]
      refine ⟨?_, by rw [List.length_append]; omega⟩
      rw [List.take_append_of_le_length ih.2]; exact ih.1
    · rw [strip_snoc_pos _ _ h]
      exact ⟨by rw [List.take_length], Nat.le_refl _⟩

theorem val_strip : ∀ l : List Nat, val (strip l) = val l := by
  apply snoc_ind
  · rfl
  · intro l d ih
    by_cases h : d = 0
    · subst h
      rw [strip_snoc_zero, ih, val_snoc]; simp
    · rw [strip_snoc_pos _ _ h]

theorem strip_le (l : List Nat) : (strip l).length ≤ l.length := (strip_take l).2
theorem ok_strip {l : List Nat} (h : ok l) : ok (strip l) := by rw [(strip_take l).1]; exact ok_take h _

/-- The size of a number below a power. -/
theorem strip_len_of_lt : ∀ (l : List Nat) (n : Nat), val l < BB ^ n → (strip l).length ≤ n := by
  apply snoc_ind (P := fun l => ∀ n, val l < BB ^ n → (strip l).length ≤ n)
  · intro n _; exact Nat.zero_le _
  · intro l d ih n h
    by_cases hd : d = 0
    · subst hd
      rw [strip_snoc_zero]
      rw [val_snoc] at h
      exact ih n (by simpa using h)
    · rw [strip_snoc_pos _ _ hd, List.length_append]
      rw [val_snoc] at h
      apply Classical.byContradiction
      intro hc
      simp only [List.length_cons, List.length_nil, Nat.zero_add, Nat.not_le] at hc
      have h1 : BB ^ n ≤ BB ^ l.length := Nat.pow_le_pow_right BB_pos (by omega)
      have h2 : BB ^ l.length * 1 ≤ BB ^ l.length * d := Nat.mul_le_mul_left _ (by omega)
      omega

/-- The last word of a stripped number is not zero. -/
theorem strip_last : ∀ (l : List Nat) (n : Nat), (strip l).length = n + 1 → ∃ d, (strip l)[n]? = some d ∧ d ≠ 0 := by
  apply snoc_ind (P := fun l => ∀ n, (strip l).length = n + 1 → ∃ d, (strip l)[n]? = some d ∧ d ≠ 0)
  · intro n h; simp [strip_nil] at h
  · intro l d ih n h
    by_cases hd : d = 0
    · subst hd
      rw [strip_snoc_zero] at h ⊢
      exact ih n h
    · rw [strip_snoc_pos _ _ hd] at h ⊢
      rw [List.length_append] at h
      simp only [List.length_cons, List.length_nil] at h
      obtain rfl : n = l.length := by omega
      exact ⟨d, by simp, hd⟩

/-- What the loop that looks for the highest word does. -/
theorem strip_step {l : List Nat} {n : Nat} (hn : n ≤ l.length) (h : strip (l.take n) = strip l) (h0 : ∀ m, n = m + 1 → l[m]? = some 0) : n = 0 ∨ strip (l.take (n - 1)) = strip l := by
  cases n with
  | zero => exact .inl rfl
  | succ m =>
    right
    have h1 := h0 m rfl
    have hm : m < l.length := by omega
    have h2 : l[m] = 0 := by rw [List.getElem?_eq_getElem hm] at h1; exact Option.some.inj h1
    rw [Nat.add_sub_cancel]
    rw [List.take_succ_eq_append_getElem hm, h2, strip_snoc_zero] at h
    exact h
theorem strip_stop {l : List Nat} {n : Nat} (hn : n ≤ l.length) (h : strip (l.take n) = strip l) (h0 : n = 0 ∨ ∃ m x, n = m + 1 ∧ l[m]? = some x ∧ x ≠ 0) : (strip l).length = n := by
  rcases h0 with rfl | ⟨m, x, rfl, h1, h2⟩
  · rw [← h]; rfl
  · have hm : m < l.length := by omega
    have h3 : l[m] = x := by rw [List.getElem?_eq_getElem hm] at h1; exact Option.some.inj h1
    rw [List.take_succ_eq_append_getElem hm, h3, strip_snoc_pos _ _ h2] at h
    rw [← h, List.length_append, List.length_take, Nat.min_eq_left (by omega)]; rfl

/-! ### A word with its carry -/
theorem carry_add {P X Y Z x y c s c' : Nat} (h : Z + P * c = X + Y) (hs : s + BB * c' = x + y + c) : (Z + P * s) + P * BB * c' = (X + P * x) + (Y + P * y) := by
  have h1 : P * s + P * (BB * c') = P * x + P * y + P * c := by rw [← Nat.mul_add, hs, Nat.mul_add, Nat.mul_add]
  rw [Nat.mul_assoc]
  omega

theorem set_take {l : List Nat} {i o : Nat} (x : Nat) (h : o ≤ i) : (l.set i x).take o = l.take o := by
  rw [List.take_set, List.set_eq_of_length_le]
  rw [List.length_take]; omega
theorem set_drop {l : List Nat} {i : Nat} (x : Nat) : (l.set i x).drop (i + 1) = l.drop (i + 1) := by
  rw [List.drop_set_of_lt (by omega)]
theorem set_mid {l : List Nat} {o i : Nat} (x : Nat) (h : o + i < l.length) : ((l.set (o + i) x).drop o).take (i + 1) = (l.drop o).take i ++ [x] := by
  have h1 : (l.set (o + i) x).drop o = (l.drop o).set i x := by
    rw [List.drop_set]; rw [if_neg (by omega), Nat.add_sub_cancel_left]
  rw [h1, List.take_succ_eq_append_getElem (by rw [List.length_set, List.length_drop]; omega), set_take x (Nat.le_refl i)]
  simp
end NatP
