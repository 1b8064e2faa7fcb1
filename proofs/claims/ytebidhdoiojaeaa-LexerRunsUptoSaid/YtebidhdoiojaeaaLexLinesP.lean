/- Plain laws: the lines of a text. -/
import Derived.Test.YtebidhdoiojaeaaLexPure
namespace LexP

def trimR (l : Bytes) : Bytes := Go.Lib.trimSuffix l [13]
def foreL (l : Bytes) : Bytes := l.takeWhile (· != 10)
def behind (l : Bytes) : Bytes := (l.dropWhile (· != 10)).drop 1

def linesN : Nat → Bytes → List Bytes
  | 0, _ => []
  | _ + 1, [] => []
  | n + 1, b :: l => trimR (foreL (b :: l)) :: linesN n (behind (b :: l))

/-- The lines of a text. -/
def lines (l : Bytes) : List Bytes := linesN l.length l

theorem behind_len (b : UInt8) (l : Bytes) : (behind (b :: l)).length ≤ l.length := by
  unfold behind
  have : ∀ l : Bytes, (l.dropWhile (· != 10)).length ≤ l.length := by
    intro l
    induction l with
    | nil => simp
    | cons c l ih => rw [List.dropWhile_cons]; split <;> simp <;> omega
  rw [List.dropWhile_cons]
  split
  · have := this l; rw [List.length_drop]; omega
  · simp

theorem linesN_more : ∀ (n : Nat) (l : Bytes), l.length ≤ n → linesN n l = linesN l.length l := by
  intro n
  induction n using Nat.strongRecOn with
  | ind n ih =>
    intro l hl
    cases l with
    | nil => cases n <;> rfl
    | cons b l =>
      cases n with
      | zero => simp at hl
      | succ n =>
        simp only [List.length_cons] at hl
        have hb := behind_len b l
        simp only [linesN, List.length_cons]
        by_cases hn : l.length = n
        · rw [hn]
        · rw [ih n (by omega) _ (by omega), ih l.length (by omega) _ hb]

theorem lines_nil : lines [] = [] := rfl
theorem lines_cons {l : Bytes} (h : l ≠ []) : lines l = trimR (foreL l) :: lines (behind l) := by
  cases l with
  | nil => exact absurd rfl h
  | cons b l =>
    unfold lines
    simp only [List.length_cons, linesN]
    rw [linesN_more l.length _ (behind_len b l)]

theorem behind_lt {l : Bytes} (h : l ≠ []) : (behind l).length < l.length := by
  cases l with
  | nil => exact absurd rfl h
  | cons b l => have := behind_len b l; simp only [List.length_cons]; omega

/-- What strings.Cut answers at a line feed. -/
theorem index_ten : ∀ l : Bytes, Go.Lib.index l [10] = if l.any (· == 10) then ((foreL l).length : Int) else -1 := by
  intro l
  induction l with
  | nil => rfl
  | cons b l ih =>
    unfold Go.Lib.index
    by_cases hb : b = 10
    · subst hb; simp [foreL]
    · have h1 : ([10] : Bytes).isPrefixOf (b :: l) = false := by simp only [List.isPrefixOf, Bool.and_eq_false_iff, beq_eq_false_iff_ne]; exact .inl (Ne.symm hb)
      have h2 : (b != 10) = true := by simp [hb]
      have h3 : (b == 10) = false := by simp [hb]
      rw [h1, ih]
      simp only [List.any_cons, h3, Bool.false_or]
      cases ha : l.any (· == 10) with
      | true =>
        simp only [if_true]
        have : (((foreL l).length : Int) == -1) = false := by rw [beq_eq_false_iff_ne]; omega
        rw [this]
        simp only [foreL, List.takeWhile_cons, h2, if_true, List.length_cons, Bool.false_eq_true, if_false]
        push_cast
        rfl
      | false => simp

theorem fore_all {l : Bytes} (h : l.any (· == 10) = false) : foreL l = l ∧ behind l = [] := by
  unfold foreL behind
  induction l with
  | nil => simp
  | cons b l ih =>
    simp only [List.any_cons, Bool.or_eq_false_iff, beq_eq_false_iff_ne] at h
    have hb : (b != 10) = true := by simp [h.1]
    obtain ⟨h1, h2⟩ := ih h.2
    rw [List.takeWhile_cons, List.dropWhile_cons, hb]
    simp [h1, h2]

theorem fore_some {l : Bytes} (h : l.any (· == 10) = true) : l = foreL l ++ 10 :: behind l ∧ (foreL l).any (· == 10) = false := by
  unfold foreL behind
  induction l with
  | nil => simp at h
  | cons b l ih =>
    by_cases hb : b = 10
    · subst hb; simp
    · have hb2 : (b != 10) = true := by simp [hb]
      have hb3 : (b == 10) = false := by simp [hb]
      simp only [List.any_cons, hb3, Bool.false_or] at h
      obtain ⟨h1, h2⟩ := ih h
      rw [List.takeWhile_cons, List.dropWhile_cons, hb2]
      simp only [if_true, List.cons_append, List.cons.injEq, true_and, List.any_cons, hb3, Bool.false_or]
      exact ⟨h1, h2⟩

theorem split_at {l A B : Bytes} (h : l = A ++ 10 :: B) : l.take A.length = A ∧ l.drop (A.length + 1) = B := by
  subst h
  exact ⟨List.take_left, by rw [List.drop_append]; simp⟩

theorem cut_ten (l : Bytes) : (Go.Lib.cut l [10]).1 = foreL l ∧ (Go.Lib.cut l [10]).2.1 = behind l := by
  unfold Go.Lib.cut
  rw [index_ten]
  cases h : l.any (· == 10) with
  | true =>
    obtain ⟨h1, _⟩ := fore_some h
    simp only [if_true]
    rw [if_pos (by omega)]
    simp only [Int.toNat_natCast, List.length_cons, List.length_nil]
    exact split_at h1
  | false =>
    obtain ⟨h1, h2⟩ := fore_all h
    simp [h1, h2]

theorem fore_append {a t : Bytes} (h : a.any (· == 10) = false) : foreL (a ++ 10 :: t) = a ∧ behind (a ++ 10 :: t) = t := by
  unfold foreL behind
  induction a with
  | nil => simp
  | cons b a ih =>
    simp only [List.any_cons, Bool.or_eq_false_iff, beq_eq_false_iff_ne] at h
    have hb : (b != 10) = true := by simp [h.1]
    obtain ⟨h1, h2⟩ := ih h.2
    simp only [List.cons_append]
    rw [List.takeWhile_cons, List.dropWhile_cons, hb]
    simp only [if_true]
    exact ⟨by rw [h1], h2⟩

/-- The lines of two texts with a line feed between. -/
theorem lines_join (t : Bytes) : ∀ (n : Nat) (s : Bytes), s.length ≤ n → lines (s ++ 10 :: t) = lines (s ++ [10]) ++ lines t := by
  intro n
  induction n with
  | zero =>
    intro s hs
    obtain rfl : s = [] := List.eq_nil_of_length_eq_zero (by omega)
    rw [lines_cons (by simp), lines_cons (l := [] ++ [10]) (by simp)]
    obtain ⟨h1, h2⟩ := fore_append (a := []) (t := t) rfl
    obtain ⟨h3, h4⟩ := fore_append (a := []) (t := []) rfl
    rw [h1, h2, h3, h4, lines_nil]; rfl
  | succ n ih =>
    intro s hs
    cases h : s.any (· == 10) with
    | false =>
      obtain ⟨h1, h2⟩ := fore_append (a := s) (t := t) h
      obtain ⟨h3, h4⟩ := fore_append (a := s) (t := []) h
      rw [lines_cons (l := s ++ 10 :: t) (by simp), lines_cons (l := s ++ [10]) (by simp), h1, h2, h3, h4, lines_nil]; rfl
    | true =>
      obtain ⟨h1, h2⟩ := fore_some h
      have hl : (behind s).length ≤ n := by
        have := congrArg List.length h1
        simp only [List.length_append, List.length_cons] at this; omega
      have e1 : s ++ 10 :: t = foreL s ++ 10 :: (behind s ++ 10 :: t) := by
        conv => lhs; rw [h1]
        simp
      have e2 : s ++ [10] = foreL s ++ 10 :: (behind s ++ [10]) := by
        conv => lhs; rw [h1]
        simp
      obtain ⟨h3, h4⟩ := fore_append (a := foreL s) (t := behind s ++ 10 :: t) h2
      obtain ⟨h5, h6⟩ := fore_append (a := foreL s) (t := behind s ++ [10]) h2
      rw [e1, e2, lines_cons (by simp), lines_cons (l := foreL s ++ 10 :: (behind s ++ [10])) (by simp), h3, h4, h5, h6, ih _ hl]; rfl

theorem lines_one {s : Bytes} (h : s.any (· == 10) = false) (hs : s ≠ []) : lines s = [trimR s] := by
  obtain ⟨h1, h2⟩ := fore_all h
  rw [lines_cons hs, h1, h2, lines_nil]
theorem lines_one_lf {s : Bytes} (h : s.any (· == 10) = false) : lines (s ++ [10]) = [trimR s] := by
  obtain ⟨h1, h2⟩ := fore_append (a := s) (t := []) h
  rw [lines_cons (by simp), h1, h2, lines_nil]

theorem lines_len : ∀ (n : Nat) (l : Bytes), l.length ≤ n → (lines l).length ≤ l.length := by
  intro n
  induction n with
  | zero => intro l hl; obtain rfl : l = [] := List.eq_nil_of_length_eq_zero (by omega); simp [lines_nil]
  | succ n ih =>
    intro l hl
    by_cases h : l = []
    · subst h; simp [lines_nil]
    · have h1 := behind_lt h
      rw [lines_cons h, List.length_cons]
      have := ih (behind l) (by omega)
      omega

theorem behind_drop (l : Bytes) : ∃ k, behind l = l.drop k ∧ k ≤ l.length := by
  refine ⟨l.length - (behind l).length, ?_, by omega⟩
  cases h : l.any (· == 10) with
  | true =>
    obtain ⟨h1, _⟩ := fore_some h
    have hl := congrArg List.length h1
    simp only [List.length_append, List.length_cons] at hl
    rw [show l.length - (behind l).length = (foreL l).length + 1 from by omega]
    exact (split_at h1).2.symm
  | false =>
    obtain ⟨_, h2⟩ := fore_all h
    rw [h2]; simp

/-! ### Piece by piece -/
def piece (l : Bytes) (f i : Nat) : Bytes := (l.drop f).take (i - f)

theorem piece_self (l : Bytes) (f : Nat) : piece l f f = [] := by simp [piece]
theorem piece_succ {l : Bytes} {f i : Nat} (h : f ≤ i) (hi : i < l.length) : piece l f (i + 1) = piece l f i ++ [l[i]] := by
  unfold piece
  rw [show i + 1 - f = (i - f) + 1 from by omega, List.take_add_one, List.getElem?_drop, show f + (i - f) = i from by omega, List.getElem?_eq_getElem hi]
  rfl

theorem drop_piece {l : Bytes} {f i : Nat} (h : f ≤ i) : l.drop f = piece l f i ++ l.drop i := by
  unfold piece
  have := (List.take_append_drop (i - f) (l.drop f)).symm
  rw [List.drop_drop, show f + (i - f) = i from by omega] at this
  exact this

theorem lines_step {l : Bytes} {f i : Nat} (h : f ≤ i) (hi : i < l.length) (hn : (piece l f i).any (· == 10) = false) (hc : l[i] = 10) :
    lines (l.drop f) = trimR (piece l f i) :: lines (l.drop (i + 1)) := by
  have e : l.drop f = piece l f i ++ 10 :: l.drop (i + 1) := by
    rw [drop_piece h, List.drop_eq_getElem_cons hi, hc]
  obtain ⟨h1, h2⟩ := fore_append (t := l.drop (i + 1)) hn
  rw [e, lines_cons (by simp), h1, h2]

theorem lines_last {l : Bytes} {f : Nat} (h : f < l.length) (hn : (piece l f l.length).any (· == 10) = false) : lines (l.drop f) = [trimR (piece l f l.length)] := by
  have e : l.drop f = piece l f l.length := by rw [drop_piece (i := l.length) (by omega)]; simp
  rw [e]
  refine lines_one hn ?_
  intro h0
  have := congrArg List.length h0
  rw [← e] at this
  simp at this; omega

theorem trimR_keep {p : Bytes} (h : p.getLast? ≠ some 13) : trimR p = p := by
  unfold trimR Go.Lib.trimSuffix
  rw [if_neg]
  intro hs
  obtain ⟨q, rfl⟩ := List.isSuffixOf_iff_suffix.1 hs
  exact h (by simp)

theorem trimR_cut (q : Bytes) : trimR (q ++ [13]) = q := by
  unfold trimR Go.Lib.trimSuffix
  have h : Go.Lib.hasSuffix (q ++ [13]) [13] = true := List.isSuffixOf_iff_suffix.2 ⟨q, rfl⟩
  rw [if_pos h]
  simp

end LexP
