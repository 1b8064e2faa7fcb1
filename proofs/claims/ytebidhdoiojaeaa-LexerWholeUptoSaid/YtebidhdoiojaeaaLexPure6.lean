/- Plain laws: the characters of a text one after the other, by bytes. -/
import Derived.Test.YtebidhdoiojaeaaLexPure5
import Derived.Test.YtebidhdoiojaeaaLexPure3
namespace LexP

/-- How many bytes the first k characters have. -/
def blen (l : Bytes) (k : Nat) : Nat := (bytesOf ((chars l).take k)).length

theorem blen_zero (l : Bytes) : blen l 0 = 0 := by simp [blen, bytesOf]
theorem chars_blen (l : Bytes) (k : Nat) : chars (l.drop (blen l k)) = (chars l).drop k := (chars_drop k l).symm
theorem blen_le (l : Bytes) (k : Nat) : blen l k ≤ l.length := by
  have h := bytes_len (chars l) k
  rw [bytesOf_chars] at h; exact h
theorem chars_nil_iff (l : Bytes) : chars l = [] ↔ l = [] := by
  constructor
  · intro h
    by_cases hl : l = []
    · exact hl
    · rw [chars_cons hl] at h; cases h
  · rintro rfl; rfl
theorem blen_lt_iff (l : Bytes) (k : Nat) : blen l k < l.length ↔ k < (chars l).length := by
  have h1 := chars_nil_iff (l.drop (blen l k))
  rw [chars_blen, List.drop_eq_nil_iff, List.drop_eq_nil_iff] at h1
  omega
theorem drop_ne {l : Bytes} {k : Nat} (h : k < (chars l).length) : l.drop (blen l k) ≠ [] := by
  have := (blen_lt_iff l k).2 h
  intro h2; rw [List.drop_eq_nil_iff] at h2; omega
theorem chars_at {l : Bytes} {k : Nat} (h : k < (chars l).length) : (chars l)[k]? = some (val (l.drop (blen l k)), (l.drop (blen l k)).take (wid (l.drop (blen l k)))) := by
  have h1 := chars_cons (drop_ne h)
  rw [chars_blen] at h1
  have h2 : ((chars l).drop k)[0]? = (chars l)[k]? := by rw [List.getElem?_drop]; rfl
  rw [← h2, h1]; rfl
theorem blen_succ {l : Bytes} {k : Nat} (h : k < (chars l).length) : blen l (k + 1) = blen l k + wid (l.drop (blen l k)) := by
  have h1 := chars_at h
  have h2 := wid_le (drop_ne h)
  show (bytesOf ((chars l).take (k + 1))).length = _
  rw [List.take_add_one, h1]
  simp only [Option.toList_some, bytesOf, List.flatMap_append, List.flatMap_cons, List.flatMap_nil, List.append_nil, List.length_append, List.length_take]
  rw [Nat.min_eq_left h2]; rfl
theorem blen_add (l : Bytes) (i k : Nat) : blen l (i + k) = blen l i + blen (l.drop (blen l i)) k := by
  unfold blen
  rw [← chars_drop, List.take_add, bytesOf, List.flatMap_append, List.length_append]; rfl

theorem charRes_cases (l : Bytes) : (charRes l = (0, 0) ∧ val l = none) ∨
    ∃ v n, charRes l = (v, n) ∧ 1 ≤ n ∧ n ≤ l.length ∧ n ≤ 4 ∧ v ≤ 0x10ffff ∧ val l = some v ∧ wid l = n := by
  unfold charRes val wid
  cases h : dec l with
  | none => exact .inl ⟨rfl, rfl⟩
  | some p =>
    obtain ⟨v, n⟩ := p
    have h1 := dec_width h
    exact .inr ⟨v, n, rfl, h1.1, h1.2.1, h1.2.2, dec_le h, rfl, rfl⟩

theorem runLen_at {p : C → Bool} {cs : List C} {j : Nat} {c : C} (hj : j < cs.length) (hall : ∀ d ∈ cs.take j, p d = true) (hc : cs[j]? = some c) (hp : p c = false) : runLen p cs = j :=
  runLen_eq p cs j (by omega) hall (fun d hd => by rw [hc] at hd; cases hd; exact hp)
theorem runLen_end {p : C → Bool} {cs : List C} (hall : ∀ d ∈ cs.take cs.length, p d = true) : runLen p cs = cs.length :=
  runLen_eq p cs cs.length (Nat.le_refl _) hall (fun d hd => by simp at hd)
theorem all_snoc {p : C → Bool} {cs : List C} {j : Nat} {c : C} (hall : ∀ d ∈ cs.take j, p d = true) (hc : cs[j]? = some c) (hp : p c = true) : ∀ d ∈ cs.take (j + 1), p d = true := by
  intro d hd
  rw [List.take_add_one, hc] at hd
  simp at hd
  rcases hd with hd | rfl
  · exact hall d hd
  · exact hp
end LexP
