/- Plain laws: which runs of digits and '_' are numbers. -/
import Derived.Test.YtebidhdoiojaeaaLexPure
import Derived.Test.YtebidhdoiojaeaaNumP
namespace LexP
open Go.Lib

/-- Does a '_' stand in the place i where it may not? -/
def usBad (t : Bytes) (i : Nat) : Bool := t[i]? == some 95 && (i == 0 || decide (t.length ≤ i + 1) || t[i - 1]? == some 95 || t[i + 1]? == some 95)
def anyBad (t : Bytes) : Bool := (List.range t.length).any (usBad t)

theorem anyBad_iff (t : Bytes) : anyBad t = true ↔ ∃ i, i < t.length ∧ usBad t i = true := by
  simp [anyBad, List.any_eq_true]

theorem occ_two (t : Bytes) (j : Nat) : occAt t [95, 95] j = true ↔ t[j]? = some 95 ∧ t[j + 1]? = some 95 := by
  unfold occAt
  rw [List.isPrefixOf_iff_prefix]
  have h0 : (t.drop j)[0]? = t[j]? := by rw [List.getElem?_drop]; rfl
  have h1 : (t.drop j)[1]? = t[j + 1]? := by rw [List.getElem?_drop]
  rw [← h0, ← h1]
  match t.drop j with
  | [] => simp
  | [a] => simp
  | a :: b :: r => simp; constructor <;> (rintro ⟨rfl, rfl⟩; exact ⟨rfl, rfl⟩)

theorem contains_iff (t sub : Bytes) (hs : sub ≠ []) : contains t sub = true ↔ ∃ j, occAt t sub j = true := by
  unfold contains
  rw [decide_eq_true_eq]
  constructor
  · intro h
    apply Classical.byContradiction
    intro hn
    have : index t sub = -1 := index_none fun j _ => by
      cases ho : occAt t sub j with
      | false => rfl
      | true => exact absurd ⟨j, ho⟩ hn
    omega
  · rintro ⟨j, hj⟩
    have key : ∀ n, (∃ j, j < n ∧ occAt t sub j = true) → ∃ i, occAt t sub i = true ∧ ∀ k, k < i → occAt t sub k = false := by
      intro n
      induction n with
      | zero => rintro ⟨j, h, _⟩; omega
      | succ n ih =>
        rintro ⟨j, h1, h2⟩
        by_cases h : ∃ j, j < n ∧ occAt t sub j = true
        · exact ih h
        · have hjn : j = n := by
            apply Classical.byContradiction
            intro hc
            exact h ⟨j, by omega, h2⟩
          subst hjn
          refine ⟨j, h2, fun k hk => ?_⟩
          cases ho : occAt t sub k with
          | false => rfl
          | true => exact absurd ⟨k, hk, ho⟩ h
    obtain ⟨i, h1, h2⟩ := key (j + 1) ⟨j, by omega, hj⟩
    have hle : i ≤ t.length := by
      rcases occAt_room h1 with h | h
      · omega
      · exact absurd h hs
    rw [index_first hle h1 h2]
    omega

theorem suffix_iff (t : Bytes) : hasSuffix t [95] = true ↔ ∃ i, t.length = i + 1 ∧ t[i]? = some 95 := by
  unfold hasSuffix
  rw [List.isSuffixOf_iff_suffix]
  constructor
  · rintro ⟨q, rfl⟩
    exact ⟨q.length, by simp, by simp⟩
  · rintro ⟨i, h1, h2⟩
    refine ⟨t.take i, ?_⟩
    have := List.take_add_one (l := t) (i := i)
    rw [h2, ← h1, List.take_length] at this
    exact this.symm

/-- The two ways to say that a run is no number. -/
theorem badNum_anyBad {t : Bytes} (h0 : t[0]? ≠ some 95) : badNum t = anyBad t := by
  rw [Bool.eq_iff_iff, anyBad_iff]
  unfold badNum
  rw [Bool.or_eq_true, suffix_iff, contains_iff t [95, 95] (by simp)]
  constructor
  · rintro (⟨i, h1, h2⟩ | ⟨j, hj⟩)
    · have h3 : decide (t.length ≤ i + 1) = true := decide_eq_true (by omega)
      exact ⟨i, by omega, by simp only [usBad, h2, h3, beq_self_eq_true, Bool.true_and, Bool.or_true, Bool.true_or]⟩
    · rw [occ_two] at hj
      have : j < t.length := (List.getElem?_eq_some_iff.1 hj.1).1
      exact ⟨j, this, by simp only [usBad, hj.1, hj.2, beq_self_eq_true, Bool.true_and, Bool.or_true]⟩
  · rintro ⟨i, h1, h2⟩
    simp only [usBad, Bool.and_eq_true, beq_iff_eq, Bool.or_eq_true, decide_eq_true_eq] at h2
    obtain ⟨ha, ((hb | hb) | hb) | hb⟩ := h2
    · subst hb; exact absurd ha h0
    · exact .inl ⟨i, by omega, ha⟩
    · have : i ≠ 0 := by rintro rfl; exact h0 ha
      exact .inr ⟨i - 1, by rw [occ_two]; exact ⟨hb, by rw [show i - 1 + 1 = i from by omega]; exact ha⟩⟩
    · exact .inr ⟨i, by rw [occ_two]; exact ⟨ha, hb⟩⟩

/-- A run of digits and '_'. -/
def numRun (t : Bytes) : Prop := ∀ c ∈ t, NumP.isDig c = true ∨ c = 95

end LexP
