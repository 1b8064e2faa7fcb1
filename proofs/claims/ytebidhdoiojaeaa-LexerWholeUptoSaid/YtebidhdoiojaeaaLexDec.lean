/- The model's decoder of a text is the plain one. -/
import Derived.Test.YtebidhdoiojaeaaLexMem
namespace LexP
open Go

theorem get_list (s : ByteArray) (i : Nat) : s.get! i = (s.data.toList[i]?).getD default := by
  obtain ⟨⟨l⟩⟩ := s
  simp [ByteArray.get!]

theorem decode_eq (s : ByteArray) (i : Nat) (hi : i < s.size) :
    Utf8.decode s i = match dec (s.data.toList.drop i) with | some (v, n) => (v, n) | none => (0xFFFD, 1) := by
  have hsz : s.size = s.data.toList.length := Lib.size_eq s
  have hg : ∀ k, s.get! (i + k) = ((s.data.toList.drop i)[k]?).getD default := by
    intro k; rw [get_list, List.getElem?_drop]
  have hc : ∀ k, i + k < s.size ↔ k < (s.data.toList.drop i).length := by intro k; rw [hsz, List.length_drop]; omega
  have hne : 0 < (s.data.toList.drop i).length := by rw [List.length_drop]; omega
  generalize s.data.toList.drop i = l at *
  simp only [Utf8.decode, hg, hc]
  match l, hne with
  | b :: t, _ =>
    simp only [List.getElem?_cons_zero, Option.getD_some, List.getElem?_cons_succ, List.length_cons]
    by_cases h0 : b.toNat < 0x80
    · simp [dec, h0]
    simp only [h0, if_false]
    by_cases h1 : b.toNat / 32 = 6
    · have h2 : ¬ b.toNat / 16 = 14 := by omega
      have h3 : ¬ b.toNat / 8 = 30 := by omega
      match t with
      | [] => simp [dec, h0, h1, Utf8.runeError]
      | c :: t =>
        by_cases k1 : c.toNat / 64 = 2
        · by_cases k2 : 128 ≤ b.toNat % 32 * 64 + c.toNat % 64
          · simp [dec, h0, h1, k1, isCont, k2]
          · simp [dec, h0, h1, k1, isCont, k2, Utf8.runeError]
        · simp [dec, h0, h1, k1, isCont, h2, h3, Utf8.runeError]
    by_cases h2 : b.toNat / 16 = 14
    · have h3 : ¬ b.toNat / 8 = 30 := by omega
      match t with
      | [] => simp [dec, h0, h1, h2, Utf8.runeError]
      | [c] => simp [dec, h0, h1, h2, Utf8.runeError]
      | c :: d :: t =>
        have hv : ∀ v : Nat, Utf8.valid (v : Int) = okRune v := by
          intro v; simp only [Utf8.valid, okRune]; rw [Bool.eq_iff_iff]; simp; omega
        by_cases k1 : c.toNat / 64 = 2
        · by_cases k2 : d.toNat / 64 = 2
          · simp only [dec, h0, h1, h2, k1, k2, isCont, if_true, if_false, beq_self_eq_true, Bool.true_and, Bool.and_true, hv, List.length_cons, List.getElem?_cons_zero, Option.getD_some]
            by_cases k3 : 2048 ≤ b.toNat % 16 * 4096 + c.toNat % 64 * 64 + d.toNat % 64 ∧ okRune (b.toNat % 16 * 4096 + c.toNat % 64 * 64 + d.toNat % 64) = true
            · simp [k2, h1, k3]
            · simp [Utf8.runeError, k2, h1, k3]
          · simp [dec, h0, h1, h2, k1, k2, isCont, h3, Utf8.runeError]
        · simp [dec, h0, h1, h2, k1, isCont, h3, Utf8.runeError]
    by_cases h3 : b.toNat / 8 = 30
    · match t with
      | [] => simp [dec, h0, h1, h2, h3, Utf8.runeError]
      | [c] => simp [dec, h0, h1, h2, h3, Utf8.runeError]
      | [c, d] => simp [dec, h0, h1, h2, h3, Utf8.runeError]
      | c :: d :: f :: t =>
        have hv : ∀ v : Nat, Utf8.valid (v : Int) = okRune v := by
          intro v; simp only [Utf8.valid, okRune]; rw [Bool.eq_iff_iff]; simp; omega
        by_cases k1 : c.toNat / 64 = 2
        · by_cases k2 : d.toNat / 64 = 2
          · by_cases k4 : f.toNat / 64 = 2
            · simp only [dec, h0, h1, h2, h3, k1, k2, k4, isCont, if_true, if_false, beq_self_eq_true, Bool.true_and, Bool.and_true, hv, List.length_cons, List.getElem?_cons_zero, Option.getD_some]
              by_cases k3 : 65536 ≤ b.toNat % 8 * 262144 + c.toNat % 64 * 4096 + d.toNat % 64 * 64 + f.toNat % 64 ∧ okRune (b.toNat % 8 * 262144 + c.toNat % 64 * 4096 + d.toNat % 64 * 64 + f.toNat % 64) = true
              · simp [k2, k4, h1, h2, k3]
              · simp [Utf8.runeError, k2, k4, h1, h2, k3]
            · simp [dec, h0, h1, h2, h3, k1, k2, k4, isCont, Utf8.runeError]
          · simp [dec, h0, h1, h2, h3, k1, k2, isCont, Utf8.runeError]
        · simp [dec, h0, h1, h2, h3, k1, isCont, Utf8.runeError]
    · simp [dec, h0, h1, h2, h3, Utf8.runeError]

theorem decode_fst (s : ByteArray) (i : Nat) (hi : i < s.size) : (Utf8.decode s i).1 = (val (s.data.toList.drop i)).getD 0xFFFD := by
  rw [decode_eq s i hi]; unfold val
  cases dec (s.data.toList.drop i) <;> rfl
theorem decode_snd (s : ByteArray) (i : Nat) (hi : i < s.size) : (Utf8.decode s i).2 = wid (s.data.toList.drop i) := by
  rw [decode_eq s i hi]; unfold wid
  cases dec (s.data.toList.drop i) <;> rfl

theorem val_le {l : Bytes} {v : Nat} (h : val l = some v) : v ≤ 0x10FFFF := by
  unfold val at h
  cases hd : dec l with
  | none => simp [hd] at h
  | some p => obtain ⟨a, b⟩ := p; simp [hd] at h; subst h; exact dec_le hd

/-- The character U+FFFD itself is written by these three bytes, and by no others. -/
theorem val_fffd (l : Bytes) : (val l).getD 0xFFFD = 0xFFFD → (Lib.hasPrefix l [239, 191, 189] = (val l).isSome) := by
  intro h
  cases hv : val l with
  | none =>
    cases hp : Lib.hasPrefix l [239, 191, 189] with
    | false => rfl
    | true =>
      exfalso
      obtain ⟨t, rfl⟩ := List.isPrefixOf_iff_prefix.1 hp
      simp [val, dec, isCont, okRune] at hv
  | some v =>
    have h' : v = 0xFFFD := by simpa [hv] using h
    subst h'
    simp only [Option.isSome_some]
    unfold val at hv
    unfold dec at hv
    split at hv
    · simp at hv
    · rename_i b t
      split at hv
      · simp at hv; omega
      split at hv
      · split at hv
        · split at hv
          · simp at hv; omega
          · simp at hv
        · simp at hv
      split at hv
      · split at hv
        · rename_i c d r
          split at hv
          · rename_i k
            simp only [Bool.and_eq_true, isCont, beq_iff_eq] at k
            simp at hv
            have hb : b.toNat = 239 := by have := b.toNat_lt; omega
            have hc : c.toNat = 191 := by have := c.toNat_lt; omega
            have hd : d.toNat = 189 := by have := d.toNat_lt; omega
            have eb : b = 239 := UInt8.toNat_inj.1 hb
            have ec : c = 191 := UInt8.toNat_inj.1 hc
            have ed : d = 189 := UInt8.toNat_inj.1 hd
            subst eb ec ed
            simp [Lib.hasPrefix]
          · simp at hv
        · simp at hv
      split at hv
      · split at hv
        · split at hv
          · rename_i k
            simp only [Bool.and_eq_true, decide_eq_true_eq] at k
            simp at hv; omega
          · simp at hv
        · simp at hv
      · simp at hv

end LexP
