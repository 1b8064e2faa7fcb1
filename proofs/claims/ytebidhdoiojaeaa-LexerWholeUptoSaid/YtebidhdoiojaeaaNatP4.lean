/- Plain numbers: what digits write in base ten. -/
import Derived.Test.YtebidhdoiojaeaaNatP3
namespace NatP

def decV (ds : List Nat) : Nat := ds.foldl (fun a x => a * 10 + x) 0
theorem decV_nil : decV [] = 0 := rfl
theorem foldl_dec : ∀ (b : List Nat) (a : Nat), b.foldl (fun a x => a * 10 + x) a = a * 10 ^ b.length + decV b
  | [], a => by simp [decV]
  | x :: b, a => by
    have h1 := foldl_dec b (a * 10 + x)
    have h2 := foldl_dec b (0 * 10 + x)
    have e : decV (x :: b) = b.foldl (fun a x => a * 10 + x) (0 * 10 + x) := rfl
    rw [List.foldl_cons, h1, e, h2, List.length_cons, Nat.pow_succ, Nat.zero_mul, Nat.zero_add, Nat.add_mul, Nat.mul_assoc, Nat.mul_comm 10, Nat.add_assoc]
theorem decV_append (a b : List Nat) : decV (a ++ b) = decV a * 10 ^ b.length + decV b := by
  unfold decV; rw [List.foldl_append]; exact foldl_dec b _
theorem decV_snoc (a : List Nat) (x : Nat) : decV (a ++ [x]) = decV a * 10 + x := by
  rw [decV_append]; simp [decV]
theorem decV_lt {ds : List Nat} (h : ∀ x ∈ ds, x < 10) : decV ds < 10 ^ ds.length := by
  refine snoc_ind (P := fun ds => (∀ x ∈ ds, x < 10) → decV ds < 10 ^ ds.length) (fun _ => by simp [decV]) (fun l d ih h => ?_) ds h
  have h1 := ih fun x hx => h x (by simp [hx])
  have h2 := h d (by simp)
  rw [decV_snoc, List.length_append, List.length_cons, List.length_nil, Nat.pow_succ]
  omega
theorem decV_take_succ {ds : List Nat} {i x : Nat} (h : ds[i]? = some x) : decV (ds.take (i + 1)) = decV (ds.take i) * 10 + x := by
  rw [List.take_add_one, h]; exact decV_snoc _ _
theorem ten_BB (n : Nat) : 10 ^ n ≤ BB ^ n := Nat.pow_le_pow_left (by unfold BB; omega) n
theorem ten_19 {n : Nat} (h : n ≤ 19) : 10 ^ n < BB := by
  have h1 : 10 ^ n ≤ 10 ^ 19 := Nat.pow_le_pow_right (by omega) h
  have h2 : (10 : Nat) ^ 19 < BB := by unfold BB; decide
  omega
theorem dec_len {l : List Nat} {n : Nat} (hs : strip l = l) (h : val l < 10 ^ n) : l.length ≤ n := by
  have := strip_len_of_lt l n (Nat.lt_of_lt_of_le h (ten_BB n))
  rw [hs] at this; exact this
theorem dec_len' {l : List Nat} {n : Nat} (hs : strip l = l) (h : val l ≤ 10 ^ n) : l.length ≤ n + 1 := by
  refine dec_len hs (Nat.lt_of_le_of_lt h ?_)
  rw [Nat.pow_succ]
  have : 0 < 10 ^ n := Nat.pow_pos (by omega)
  omega
theorem decV_split (ds : List Nat) (i : Nat) (h : i ≤ ds.length) : decV ds = decV (ds.take i) * 10 ^ (ds.length - i) + decV (ds.drop i) := by
  have := decV_append (ds.take i) (ds.drop i)
  rw [List.take_append_drop, List.length_drop] at this
  exact this

/-- What a character is worth as a digit. -/
def digVal (c : Nat) : Nat := if 48 ≤ c ∧ c ≤ 57 then c - 48 else if 97 ≤ c ∧ c ≤ 122 then c - 87 else if 65 ≤ c ∧ c ≤ 90 then c - 55 else 36
end NatP
