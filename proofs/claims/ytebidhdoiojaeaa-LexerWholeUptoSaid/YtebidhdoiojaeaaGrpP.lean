/- Plain laws: grouped numbers, seen from the left. -/
import Derived.Test.YtebidhdoiojaeaaLexPure4
namespace LexP

def okUpto (t : Bytes) (pos : Nat) : Prop := ∀ j, j < pos → t[j]? = some 95 → 0 < j ∧ t[j - 1]? ≠ some 95
def btw (t : Bytes) (pos : Nat) : Bool := decide (0 < pos) && (t[pos - 1]? != some 95)

theorem okUpto_zero (t : Bytes) : okUpto t 0 := fun j h => absurd h (Nat.not_lt_zero _)
theorem btw_zero (t : Bytes) : btw t 0 = false := rfl
theorem btw_succ (t : Bytes) (pos : Nat) : btw t (pos + 1) = (t[pos]? != some 95) := by simp [btw]
theorem okUpto_succ {t : Bytes} {pos : Nat} (h : okUpto t pos) (hb : t[pos]? = some 95 → btw t pos = true) : okUpto t (pos + 1) := by
  intro j hj h95
  rcases Nat.lt_succ_iff_lt_or_eq.1 hj with h1 | rfl
  · exact h j h1 h95
  · have := hb h95
    simp only [btw, Bool.and_eq_true, decide_eq_true_eq, bne_iff_ne] at this
    exact this
theorem rg_fail {t : Bytes} {pos : Nat} (h : t[pos]? = some 95) (hb : btw t pos = false) : anyBad t = true := by
  rw [anyBad_iff]
  refine ⟨pos, (List.getElem?_eq_some_iff.1 h).1, ?_⟩
  simp only [btw, Bool.and_eq_false_iff, decide_eq_false_iff_not, bne_eq_false_iff_eq] at hb
  simp only [usBad, h, beq_self_eq_true, Bool.true_and]
  rcases hb with hb | hb
  · have : pos = 0 := by omega
    subst this; simp
  · rw [hb]; simp
theorem rg_end_bad {t : Bytes} (h0 : t ≠ []) (hb : btw t t.length = false) : anyBad t = true := by
  rw [anyBad_iff]
  have hl : 0 < t.length := List.length_pos_iff.2 h0
  simp only [btw, Bool.and_eq_false_iff, decide_eq_false_iff_not, bne_eq_false_iff_eq] at hb
  rcases hb with hb | hb
  · omega
  · refine ⟨t.length - 1, by omega, ?_⟩
    have : decide (t.length ≤ t.length - 1 + 1) = true := decide_eq_true (by omega)
    simp only [usBad, hb, beq_self_eq_true, this, Bool.true_and, Bool.or_true, Bool.true_or]
theorem rg_end_ok {t : Bytes} (h : okUpto t t.length) (hb : btw t t.length = true) : anyBad t = false := by
  cases ha : anyBad t with
  | false => rfl
  | true =>
    exfalso
    obtain ⟨j, hj, hu⟩ := (anyBad_iff t).1 ha
    simp only [usBad, Bool.and_eq_true, Bool.or_eq_true, beq_iff_eq, decide_eq_true_eq] at hu
    obtain ⟨h95, hu⟩ := hu
    obtain ⟨h1, h2⟩ := h j hj h95
    simp only [btw, Bool.and_eq_true, decide_eq_true_eq, bne_iff_ne] at hb
    rcases hu with ((hu | hu) | hu) | hu
    · omega
    · have : t.length - 1 = j := by omega
      rw [this] at hb; exact hb.2 h95
    · exact h2 hu
    · have hlt : j + 1 < t.length := (List.getElem?_eq_some_iff.1 hu).1
      obtain ⟨_, h4⟩ := h (j + 1) hlt hu
      rw [Nat.add_sub_cancel] at h4
      exact h4 h95
theorem btw_of_ok {t : Bytes} (h0 : t ≠ []) (h : anyBad t = false) : btw t t.length = true := by
  cases hb : btw t t.length with
  | true => rfl
  | false => rw [rg_end_bad h0 hb] at h; cases h

/-- The first character of a text that begins with a byte below 128. -/
theorem dec_low {b : UInt8} {r : Bytes} (h : b.toNat < 128) : val (b :: r) = some b.toNat ∧ wid (b :: r) = 1 := by
  have : dec (b :: r) = some (b.toNat, 1) := by
    show (if b.toNat < 0x80 then _ else _) = _
    rw [if_pos h]
  simp [val, wid, this]

/-- What digits are worth. -/
def digs (l : Bytes) : List Nat := l.map fun c => c.toNat - 48
theorem digs_append (a b : Bytes) : digs (a ++ b) = digs a ++ digs b := by simp [digs]
end LexP
