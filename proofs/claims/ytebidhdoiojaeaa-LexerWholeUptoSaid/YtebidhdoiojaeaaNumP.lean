/- Plain laws on numbers as lists of digits to the base 65536, the lowest first. -/
import Derived.Lib.IndexMore
namespace NumP

def ontoL : List Nat → Nat → Nat → List Nat
  | [], _, v => if 0 < v then [v] else []
  | d :: ds, b, v => (d * b + v) % 65536 :: ontoL ds b ((d * b + v) / 65536)

/-- The number that digits write. -/
def valD : List Nat → Nat
  | [] => 0
  | d :: ds => d + 65536 * valD ds

theorem valD_onto : ∀ (ds : List Nat) (b v : Nat), valD (ontoL ds b v) = valD ds * b + v := by
  intro ds
  induction ds with
  | nil => intro b v; unfold ontoL; split <;> simp [valD]; omega
  | cons d ds ih =>
    intro b v
    simp only [ontoL, valD, ih]
    have := Nat.mod_add_div (d * b + v) 65536
    rw [Nat.mul_add, ← Nat.mul_assoc, Nat.add_mul, Nat.mul_assoc 65536]
    generalize valD ds * b = q at *
    omega

theorem onto_small : ∀ (ds : List Nat) (b v : Nat), (∀ d ∈ ds, d < 65536) → b ≤ 65536 → v < 65536 → ∀ d ∈ ontoL ds b v, d < 65536 := by
  intro ds
  induction ds with
  | nil => intro b v _ _ hv d hd; unfold ontoL at hd; split at hd <;> simp at hd; omega
  | cons x ds ih =>
    intro b v hds hb hv d hd
    simp only [ontoL, List.mem_cons] at hd
    rcases hd with rfl | hd
    · omega
    · have hx := hds x (by simp)
      have h1 : x * b ≤ 65535 * 65536 := Nat.mul_le_mul (by omega) hb
      exact ih b _ (fun y hy => hds y (by simp [hy])) hb (by omega) d hd

theorem onto_len : ∀ (ds : List Nat) (b v : Nat), (ontoL ds b v).length ≤ ds.length + 1 := by
  intro ds
  induction ds with
  | nil => intro b v; unfold ontoL; split <;> simp
  | cons d ds ih => intro b v; simp only [ontoL, List.length_cons]; have := ih b ((d * b + v) / 65536); omega

def stripZ (l : List Nat) : List Nat := (l.reverse.dropWhile (· == 0)).reverse

theorem stripZ_snoc_zero (l : List Nat) : stripZ (l ++ [0]) = stripZ l := by simp [stripZ]
theorem stripZ_snoc_pos (l : List Nat) (d : Nat) (h : d ≠ 0) : stripZ (l ++ [d]) = l ++ [d] := by simp [stripZ, h]
theorem stripZ_nil : stripZ [] = [] := rfl

/-- The word that up to four digits write. -/
def word4 (l : List Nat) : Nat := valD (l.take 4)

def joinN : Nat → List Nat → List Nat
  | 0, _ => []
  | _ + 1, [] => []
  | n + 1, d :: ds => word4 (d :: ds) :: joinN n ((d :: ds).drop 4)
def joinL (l : List Nat) : List Nat := joinN l.length l

theorem joinN_more : ∀ (n : Nat) (l : List Nat), l.length ≤ n → joinN n l = joinN l.length l := by
  intro n
  induction n using Nat.strongRecOn with
  | ind n ih =>
    intro l hl
    cases l with
    | nil => cases n <;> rfl
    | cons b l =>
      cases n with
      | zero => simp at hl
      | succ n =>
        simp only [List.length_cons] at hl
        simp only [joinN, List.length_cons]
        by_cases hn : l.length = n
        · rw [hn]
        · rw [ih n (by omega) _ (by simp; omega), ih l.length (by omega) _ (by simp)]

theorem joinL_nil : joinL [] = [] := rfl
theorem joinL_cons {l : List Nat} (h : l ≠ []) : joinL l = word4 l :: joinL (l.drop 4) := by
  cases l with
  | nil => exact absurd rfl h
  | cons d l =>
    unfold joinL
    simp only [List.length_cons, joinN]
    rw [joinN_more l.length _ (by simp)]

theorem valD_append : ∀ (a b : List Nat), valD (a ++ b) = valD a + 65536 ^ a.length * valD b := by
  intro a
  induction a with
  | nil => intro b; simp [valD]
  | cons d a ih =>
    intro b
    simp only [List.cons_append, valD, ih, List.length_cons, Nat.pow_succ]
    rw [Nat.mul_add, ← Nat.mul_assoc, Nat.mul_comm 65536 (65536 ^ a.length)]
    omega

theorem valD_lt : ∀ (a : List Nat), (∀ d ∈ a, d < 65536) → valD a < 65536 ^ a.length := by
  intro a
  induction a with
  | nil => intro _; simp [valD]
  | cons d a ih =>
    intro h
    have h1 := ih fun x hx => h x (by simp [hx])
    have h2 := h d (by simp)
    simp only [valD, List.length_cons, Nat.pow_succ]
    have h3 : 65536 * (valD a + 1) ≤ 65536 * 65536 ^ a.length := Nat.mul_le_mul_left _ h1
    rw [Nat.mul_comm (65536 ^ a.length)]
    omega

/-- The digits to the base 65536 of the number that a text writes. -/
def numD (l : List UInt8) : List Nat := l.foldl (fun d c => ontoL d 10 (c.toNat - 48)) []
def isDig (c : UInt8) : Bool := 48 ≤ c.toNat && c.toNat ≤ 57

theorem numD_snoc (l : List UInt8) (c : UInt8) : numD (l ++ [c]) = ontoL (numD l) 10 (c.toNat - 48) := by simp [numD, List.foldl_append]
theorem numD_small (l : List UInt8) : ∀ d ∈ numD l, d < 65536 := by
  have : ∀ (l : List UInt8) (a : List Nat), (∀ d ∈ a, d < 65536) → ∀ d ∈ l.foldl (fun d c => ontoL d 10 (c.toNat - 48)) a, d < 65536 := by
    intro l
    induction l with
    | nil => intro a h; exact h
    | cons c l ih => intro a h; exact ih _ (onto_small a 10 _ h (by omega) (by have := c.toNat_lt; omega))
  exact this l [] (by simp)
theorem numD_len (l : List UInt8) : (numD l).length ≤ l.length := by
  have : ∀ (l : List UInt8) (a : List Nat), (l.foldl (fun d c => ontoL d 10 (c.toNat - 48)) a).length ≤ a.length + l.length := by
    intro l
    induction l with
    | nil => intro a; simp
    | cons c l ih => intro a; simp only [List.foldl_cons, List.length_cons]; have := ih (ontoL a 10 (c.toNat - 48)); have := onto_len a 10 (c.toNat - 48); omega
  have h2 := this l []
  simp only [List.length_nil, Nat.zero_add] at h2; exact h2

end NumP
