/- Plain laws: bounds of tokens, tokens of a text without comments. -/
import Derived.Test.YtebidhdoiojaeaaLexPure2
namespace LexP

def resTok : Res → List Tok | .ok l => l | .error _ => []
def resCol : Res → Nat | .ok _ => 0 | .error e => e.1
def resErr : Res → Nat | .ok _ => 0 | .error e => e.2

theorem resTok_ok (l : List Tok) : resTok (.ok l) = l := rfl
theorem resCol_ok (l : List Tok) : resCol (.ok l) = 0 := rfl
theorem resErr_ok (l : List Tok) : resErr (.ok l) = 0 := rfl
theorem resTok_error (e : Nat × Nat) : resTok (.error e) = [] := rfl
theorem resCol_error (e : Nat × Nat) : resCol (.error e) = e.1 := rfl
theorem resErr_error (e : Nat × Nat) : resErr (.error e) = e.2 := rfl

theorem takeWhile_all {p : C → Bool} (l : List C) : ∀ c ∈ l.take (runLen p l), p c = true := by
  have h1 : l.take (runLen p l) = l.takeWhile p := by
    unfold runLen
    induction l with
    | nil => rfl
    | cons d l ih =>
      by_cases h : p d = true
      · simp [h, ih]
      · simp [h]
  intro c hc
  rw [h1] at hc
  have : ∀ (l : List C), ∀ c ∈ l.takeWhile p, p c = true := by
    intro l
    induction l with
    | nil => intro c hc; simp at hc
    | cons d l ih =>
      intro c hc
      rw [List.takeWhile_cons] at hc
      split at hc
      · rename_i h
        rcases List.mem_cons.1 hc with rfl | hc
        · exact h
        · exact ih c hc
      · simp at hc
  exact this l c hc

/-- What Tokens does, step by step. -/
theorem Toks_ind {P : Nat → List C → Res → Prop} (h0 : ∀ col, P col [] (.ok []))
    (hblank : ∀ col c A, kd c = 1 → P (col + 1) A (Toks (col + 1) A) → P col (c :: A) (Toks (col + 1) A))
    (hhash : ∀ col c A, kd c = 2 → P col (c :: A) (if runLen notBad (c :: A) < (c :: A).length then .error (col + runLen notBad (c :: A), 12) else .ok []))
    (herr : ∀ col c A e, kd c ≠ 1 → kd c ≠ 2 → 0 < e → P col (c :: A) (.error (col, e)))
    (htok : ∀ col c A n k t, kd c ≠ 0 → kd c ≠ 1 → kd c ≠ 2 → 1 ≤ n → n ≤ (c :: A).length → (∀ d ∈ (c :: A).take n, notBad d = true) →
      P (col + n) ((c :: A).drop n) (Toks (col + n) ((c :: A).drop n)) → P col (c :: A) ((Toks (col + n) ((c :: A).drop n)).after [(k, t, col)])) :
    ∀ A col, P col A (Toks col A) := by
  have main : ∀ n A col, A.length ≤ n → P col A (Toks col A) := by
    intro n
    induction n with
    | zero =>
      intro A col hl
      obtain rfl : A = [] := List.eq_nil_of_length_eq_zero (by omega)
      exact h0 col
    | succ n ih =>
      intro A col hl
      cases A with
      | nil => exact h0 col
      | cons c A =>
        simp only [List.length_cons] at hl
        have hk := kd_le c
        by_cases k0 : kd c = 0
        · rw [Toks_bad _ k0]; exact herr _ _ _ _ (by omega) (by omega) (by omega)
        by_cases k1 : kd c = 1
        · rw [Toks_blank _ k1]; exact hblank _ _ _ k1 (ih A _ (by omega))
        by_cases k2 : kd c = 2
        · rw [Toks_hash _ k2]; exact hhash _ _ _ k2
        by_cases k3 : kd c = 3
        · have h1 := runLen_pos (p := isNum) (c := c) (cs := A) (by simp [isNum, k3])
          have h2 := runLen_le isNum (c :: A)
          rw [Toks_num _ k3]
          split
          · exact herr _ _ _ _ k1 k2 (by omega)
          · refine htok _ _ _ _ _ _ k0 k1 k2 h1 h2 ?_ (ih _ _ (by simp only [List.length_drop, List.length_cons]; omega))
            intro d hd
            have := takeWhile_all _ d hd
            unfold isNum at this
            unfold notBad
            simp only [Bool.or_eq_true, beq_iff_eq] at this
            rcases this with h | h
            · simp [h]
            · unfold rn at h; unfold kd
              split at h
              · rename_i v hv
                have := (kindOf_pos v).1
                simp; omega
              · omega
        by_cases k4 : kd c = 4
        · have h1 := runLen_pos (p := isAl) (c := c) (cs := A) (by simp [isAl, k4])
          have h2 := runLen_le isAl (c :: A)
          rw [Toks_name _ k4]
          split
          · exact herr _ _ _ _ k1 k2 (by omega)
          · refine htok _ _ _ _ _ _ k0 k1 k2 h1 h2 ?_ (ih _ _ (by simp only [List.length_drop, List.length_cons]; omega))
            intro d hd
            have := takeWhile_all _ d hd
            unfold isAl at this
            unfold notBad
            simp only [Bool.or_eq_true, beq_iff_eq] at this
            rcases this with h | h <;> simp [h]
        by_cases k5 : kd c = 5
        · rw [Toks_mark _ k5]
          have := htok col c A 1 3 (signOf c) k0 k1 k2 (Nat.le_refl _) (by simp) (by intro d hd; simp at hd; subst hd; simp [notBad, k5])
          simp only [List.drop_succ_cons, List.drop_zero] at this
          exact this (ih A _ (by omega))
        · have k6 : kd c = 6 := by omega
          rw [Toks_other _ k6]; exact herr _ _ _ _ k1 k2 (by omega)
  exact fun A col => main _ A col (Nat.le_refl _)

/-- Where an error is told it is a number above 0. -/
theorem Toks_err : ∀ A col e, Toks col A = .error e → 0 < e.2 ∧ col ≤ e.1 ∧ e.1 ≤ col + A.length := by
  refine Toks_ind (P := fun col A r => ∀ e, r = .error e → 0 < e.2 ∧ col ≤ e.1 ∧ e.1 ≤ col + A.length) ?_ ?_ ?_ ?_ ?_
  · intro col e h; cases h
  · intro col c A _ ih e h
    have := ih e h
    simp only [List.length_cons]; omega
  · intro col c A _ e h
    split at h
    · have := runLen_le notBad (c :: A)
      cases h
      simp only; omega
    · cases h
  · intro col c A x _ _ hx e h
    cases h; simp only [List.length_cons]; omega
  · intro col c A n k t _ _ _ h1 h2 _ ih e h
    cases hr : Toks (col + n) ((c :: A).drop n) with
    | ok l => rw [hr] at h; cases h
    | error x =>
      rw [hr] at h
      simp only [Res.after] at h
      have := ih e (by rw [hr]; exact h)
      simp only [List.length_drop, List.length_cons] at this h2 ⊢
      omega

/-- How many tokens there are, and where they stand. -/
theorem Toks_bounds : ∀ A col l, Toks col A = .ok l → l.length ≤ A.length ∧ ∀ t ∈ l, col ≤ t.2.2 ∧ t.2.2 < col + A.length := by
  refine Toks_ind (P := fun col A r => ∀ l, r = .ok l → l.length ≤ A.length ∧ ∀ t ∈ l, col ≤ t.2.2 ∧ t.2.2 < col + A.length) ?_ ?_ ?_ ?_ ?_
  · intro col l h; cases h; simp
  · intro col c A _ ih l h
    obtain ⟨h1, h2⟩ := ih l h
    simp only [List.length_cons]
    exact ⟨by omega, fun t ht => by have := h2 t ht; omega⟩
  · intro col c A _ l h
    split at h
    · cases h
    · cases h; simp
  · intro col c A x _ _ hx l h; cases h
  · intro col c A n k t _ _ _ h1 h2 _ ih l h
    cases hr : Toks (col + n) ((c :: A).drop n) with
    | error x => rw [hr] at h; cases h
    | ok m =>
      rw [hr] at h
      simp only [Res.after, Except.ok.injEq] at h
      obtain ⟨g1, g2⟩ := ih m hr
      simp only [List.length_drop, List.length_cons] at g1 g2 h2 ⊢
      subst h
      refine ⟨by simp; omega, fun x hx => ?_⟩
      simp only [List.singleton_append, List.mem_cons] at hx
      rcases hx with rfl | hx
      · simp only; omega
      · have := g2 x hx; omega

/-- A text that is read whole and has no comment has no bad byte. -/
theorem Toks_notBad : ∀ A col l, Toks col A = .ok l → (∀ c ∈ A, kd c ≠ 2) → A.all notBad = true := by
  refine Toks_ind (P := fun col A r => ∀ l, r = .ok l → (∀ c ∈ A, kd c ≠ 2) → A.all notBad = true) ?_ ?_ ?_ ?_ ?_
  · intro col l _ _; rfl
  · intro col c A hk ih l h h2
    simp only [List.all_cons, Bool.and_eq_true]
    exact ⟨by simp [notBad, hk], ih l h fun d hd => h2 d (by simp [hd])⟩
  · intro col c A hk l _ h2
    exact absurd hk (h2 c (by simp))
  · intro col c A x _ _ hx l h; cases h
  · intro col c A n k t _ _ _ h1 hn ha ih l h h2
    cases hr : Toks (col + n) ((c :: A).drop n) with
    | error x => rw [hr] at h; cases h
    | ok m =>
      have h3 := ih m hr fun d hd => h2 d (List.mem_of_mem_drop hd)
      have e : (c :: A) = (c :: A).take n ++ (c :: A).drop n := (List.take_append_drop n _).symm
      rw [e, List.all_append, h3, Bool.and_true, List.all_eq_true]
      exact ha

/-- Two lines with a blank of one byte between: the tokens of both. -/
theorem beside {a b : Bytes} {g : UInt8} (hg : g = 32 ∨ g = 9) (ha : a.any (· == 35) = false) :
    Toks 1 (chars (a ++ g :: b)) = match Toks 1 (chars a), Toks 1 (chars b) with
      | .error e, _ => .error e
      | .ok _, .error e => .error (e.1 + ((chars a).length + 1), e.2)
      | .ok l, .ok m => .ok (l ++ shiftT ((chars a).length + 1) m) := by
  have hg2 : g.toNat < 0x80 := by rcases hg with rfl | rfl <;> decide
  have hk : kd (some g.toNat, [g]) = 1 := by rcases hg with rfl | rfl <;> decide
  have hr : rn (some g.toNat, [g]) ≠ 95 := by rcases hg with rfl | rfl <;> decide
  rw [chars_append_ascii hg2, chars_ascii hg2, Toks_join hk hr _ _ _ _ (Nat.le_refl _) (hash_byte a ha)]
  cases hA : Toks 1 (chars a) with
  | error e => rfl
  | ok l =>
    simp only [joined]
    have := Toks_shift ((chars a).length + 1) _ (chars b) 1 (Nat.le_refl _)
    rw [show 1 + (chars a).length + 1 = 1 + ((chars a).length + 1) from by omega, this]
    cases Toks 1 (chars b) <;> rfl

/-- A comment is read if it holds no bad byte. -/
theorem comment_toks (b : Bytes) : ∃ k, 2 ≤ k ∧ k ≤ b.length + 2 ∧ Toks 1 (chars (35 :: b)) = if (chars b).all notBad then .ok [] else .error (k, 12) := by
  have h35 : kd (some (35 : UInt8).toNat, [35]) = 2 := by decide
  rw [chars_ascii (by decide), Toks_hash _ h35]
  refine ⟨1 + runLen notBad ((some (35 : UInt8).toNat, [35]) :: chars b), ?_, ?_, ?_⟩
  · have := runLen_pos (p := notBad) (c := (some (35 : UInt8).toNat, [35])) (cs := chars b) (by decide)
    omega
  · have := runLen_le notBad ((some (35 : UInt8).toNat, [35]) :: chars b)
    have h2 := chars_len b
    simp only [List.length_cons] at this; omega
  · have hr : runLen notBad ((some (35 : UInt8).toNat, [35]) :: chars b) = 1 + runLen notBad (chars b) := by
      unfold runLen
      rw [List.takeWhile_cons, if_pos (by decide)]
      simp; omega
    cases hall : (chars b).all notBad with
    | true =>
      have : runLen notBad (chars b) = (chars b).length := by
        refine runLen_eq _ _ _ (Nat.le_refl _) ?_ ?_
        · intro c hc; rw [List.take_length] at hc; exact List.all_eq_true.1 hall c hc
        · intro c hc; simp at hc
      rw [hr, this, if_neg (by simp; omega)]; rfl
    | false =>
      have hlt : runLen notBad (chars b) < (chars b).length := by
        rcases Nat.lt_or_eq_of_le (runLen_le notBad (chars b)) with h | h
        · exact h
        · exfalso
          have h2 := takeWhile_all (p := notBad) (chars b)
          rw [h, List.take_length] at h2
          have : (chars b).all notBad = true := List.all_eq_true.2 h2
          rw [this] at hall; cases hall
      rw [if_pos (by rw [hr]; simp; omega)]
      simp

end LexP
