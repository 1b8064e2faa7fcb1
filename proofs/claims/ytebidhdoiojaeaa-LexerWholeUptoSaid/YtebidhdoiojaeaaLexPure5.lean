/- The character that a text begins with, read byte by byte as the document does. -/
import Derived.Test.YtebidhdoiojaeaaLexPure3
namespace LexP

def contFold : Nat → Bytes → Option Nat
  | v, [] => some v
  | v, c :: t => if isCont c then contFold (64 * v + c.toNat % 64) t else none

def nxt (b : Nat) : Nat × Nat × Nat :=
  if b < 0x80 then (1, b, 0) else if b / 32 = 6 then (2, b % 32, 0x80) else if b / 16 = 14 then (3, b % 16, 0x800) else if b / 8 = 30 then (4, b % 8, 0x10000) else (0, 0, 0)

def badV (v m : Nat) : Bool := v < m || 0x10ffff < v || (0xd800 ≤ v && v ≤ 0xdfff)

def fin (v m n : Nat) : Option (Nat × Nat) := if badV v m then none else some (v, n)

theorem contFold_snoc (c : UInt8) : ∀ (l : Bytes) (v v' : Nat), contFold v l = some v' → contFold v (l ++ [c]) = if isCont c then some (64 * v' + c.toNat % 64) else none := by
  intro l
  induction l with
  | nil => intro v v' h; simp [contFold] at h; subst h; rfl
  | cons d l ih =>
    intro v v' h
    simp only [List.cons_append, contFold] at h ⊢
    by_cases hd : isCont d
    · rw [if_pos hd] at h ⊢; exact ih _ _ h
    · rw [if_neg hd] at h; cases h

theorem contFold_stop : ∀ (k : Nat) (l : Bytes) (v : Nat), contFold v (l.take k) = none → contFold v l = none := by
  intro k l
  induction l generalizing k with
  | nil => intro v h; simpa using h
  | cons d l ih =>
    intro v h
    cases k with
    | zero => simp [contFold] at h
    | succ k =>
      simp only [List.take_succ_cons, contFold] at h ⊢
      by_cases hd : isCont d
      · rw [if_pos hd] at h ⊢; exact ih _ _ h
      · rw [if_neg hd]

theorem ite_flip {α : Type} {p q : Bool} {a b : α} (h : p = !q) : (if p = true then a else b) = if q = true then b else a := by subst h; cases q <;> rfl

theorem dec_fold (b : UInt8) (t : Bytes) :
    dec (b :: t) = if (nxt b.toNat).1 = 0 ∨ t.length + 1 < (nxt b.toNat).1 then none else (contFold (nxt b.toNat).2.1 (t.take ((nxt b.toNat).1 - 1))).bind fun v => fin v (nxt b.toNat).2.2 (nxt b.toNat).1 := by
  have hb := b.toNat_lt
  by_cases h0 : b.toNat < 0x80
  · simp [dec, nxt, h0, contFold, fin, badV]; omega
  by_cases h1 : b.toNat / 32 = 6
  · match t with
    | [] => simp [dec, nxt, h0, h1]
    | c :: t =>
      by_cases hc : isCont c
      · simp only [dec, nxt, h0, h1, contFold, fin, badV, hc, if_true, if_false, List.take_succ_cons, List.length_cons, Nat.add_one_sub_one, List.take_zero, Option.bind_some, Bool.true_and]
        rw [if_neg (show ¬ (2 = 0 ∨ t.length + 1 + 1 < 2) by omega)]
        have e : b.toNat % 32 * 64 = 64 * (b.toNat % 32) := by omega
        rw [e]
        generalize hv : 64 * (b.toNat % 32) + c.toNat % 64 = v
        by_cases k : 128 ≤ v
        · have : (decide (v < 128) || decide (1114111 < v) || decide (55296 ≤ v) && decide (v ≤ 57343)) = false := by
            simp; omega
          rw [this]; simp [k]
        · have : (decide (v < 128) || decide (1114111 < v) || decide (55296 ≤ v) && decide (v ≤ 57343)) = true := by
            simp; omega
          rw [this]; simp [k]
      · simp [dec, nxt, h0, h1, contFold, hc]
  by_cases h2 : b.toNat / 16 = 14
  · match t with
    | [] => simp [dec, nxt, h0, h1, h2]
    | [c] => simp [dec, nxt, h0, h1, h2]
    | c :: d :: t =>
      by_cases hc : isCont c
      · by_cases hd : isCont d
        · simp only [dec, nxt, h0, h1, h2, contFold, fin, badV, hc, hd, if_true, if_false, List.take_succ_cons, List.length_cons, Nat.add_one_sub_one, List.take_zero, Option.bind_some, Bool.true_and, show (3 - 1 : Nat) = 1 + 1 from rfl]
          rw [if_neg (show ¬ (3 = 0 ∨ t.length + 1 + 1 + 1 < 3) by omega)]
          have e : b.toNat % 16 * 4096 + c.toNat % 64 * 64 + d.toNat % 64 = 64 * (64 * (b.toNat % 16) + c.toNat % 64) + d.toNat % 64 := by omega
          rw [e]
          generalize hv : 64 * (64 * (b.toNat % 16) + c.toNat % 64) + d.toNat % 64 = v
          simp only [okRune]
          exact ite_flip (by rw [Bool.eq_iff_iff]; simp; omega)
        · simp [dec, nxt, h0, h1, h2, contFold, hc, hd]
      · simp [dec, nxt, h0, h1, h2, contFold, hc]
  by_cases h3 : b.toNat / 8 = 30
  · match t with
    | [] => simp [dec, nxt, h0, h1, h2, h3]
    | [c] => simp [dec, nxt, h0, h1, h2, h3]
    | [c, d] => simp [dec, nxt, h0, h1, h2, h3]
    | c :: d :: f :: t =>
      by_cases hc : isCont c
      · by_cases hd : isCont d
        · by_cases hf : isCont f
          · simp only [dec, nxt, h0, h1, h2, h3, contFold, fin, badV, hc, hd, hf, if_true, if_false, List.take_succ_cons, List.length_cons, Nat.add_one_sub_one, List.take_zero, Option.bind_some, Bool.true_and, show (4 - 1 : Nat) = 1 + 1 + 1 from rfl]
            rw [if_neg (show ¬ (4 = 0 ∨ t.length + 1 + 1 + 1 + 1 < 4) by omega)]
            have e : b.toNat % 8 * 262144 + c.toNat % 64 * 4096 + d.toNat % 64 * 64 + f.toNat % 64 = 64 * (64 * (64 * (b.toNat % 8) + c.toNat % 64) + d.toNat % 64) + f.toNat % 64 := by omega
            rw [e]
            generalize hv : 64 * (64 * (64 * (b.toNat % 8) + c.toNat % 64) + d.toNat % 64) + f.toNat % 64 = v
            simp only [okRune]
            exact ite_flip (by rw [Bool.eq_iff_iff]; simp; omega)
          · simp [dec, nxt, h0, h1, h2, h3, contFold, hc, hd, hf]
        · simp [dec, nxt, h0, h1, h2, h3, contFold, hc, hd]
      · simp [dec, nxt, h0, h1, h2, h3, contFold, hc]
  · simp [dec, nxt, h0, h1, h2, h3]

def charRes (l : Bytes) : Nat × Nat := (dec l).getD (0, 0)

theorem charRes_none {b : UInt8} {t : Bytes} (h : (nxt b.toNat).1 = 0 ∨ t.length + 1 < (nxt b.toNat).1) : charRes (b :: t) = (0, 0) := by
  unfold charRes; rw [dec_fold, if_pos h]; rfl
theorem charRes_cut {b : UInt8} {t : Bytes} (k : Nat) (hk : k ≤ (nxt b.toNat).1 - 1) (h : contFold (nxt b.toNat).2.1 (t.take k) = none) : charRes (b :: t) = (0, 0) := by
  unfold charRes; rw [dec_fold]
  split
  · rfl
  · rw [contFold_stop k (t.take ((nxt b.toNat).1 - 1)) _ (by rw [List.take_take, Nat.min_eq_left hk]; exact h)]; rfl
theorem charRes_end {b : UInt8} {t : Bytes} {v : Nat} (h : ¬ ((nxt b.toNat).1 = 0 ∨ t.length + 1 < (nxt b.toNat).1)) (hv : contFold (nxt b.toNat).2.1 (t.take ((nxt b.toNat).1 - 1)) = some v) :
    charRes (b :: t) = if badV v (nxt b.toNat).2.2 then (0, 0) else (v, (nxt b.toNat).1) := by
  unfold charRes; rw [dec_fold, if_neg h, hv]
  simp only [Option.bind_some, fin]
  split <;> rfl

def lim (j : Nat) : Nat := 2 * 64 ^ j
theorem lim_succ (j : Nat) : lim (j + 1) = 64 * lim j := by unfold lim; rw [Nat.pow_succ]; omega
theorem lim_le {j : Nat} (h : j ≤ 4) : lim j ≤ 33554432 := by
  unfold lim
  have := Nat.pow_le_pow_right (n := 64) (by omega) h
  omega

theorem nxt_le (b : Nat) : (nxt b).1 ≤ 4 ∧ (nxt b).2.1 < lim 1 ∧ (nxt b).2.2 ≤ 65536 := by
  unfold nxt lim; repeat' split
  all_goals simp <;> omega

end LexP
