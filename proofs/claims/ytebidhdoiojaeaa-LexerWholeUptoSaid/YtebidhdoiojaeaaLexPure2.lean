/- Plain laws: texts side by side, their characters and tokens. -/
import Derived.Test.YtebidhdoiojaeaaLexPure
namespace LexP

theorem notBad_some (v : Nat) (t : Bytes) : notBad (some v, t) = true := by
  have := (kindOf_pos v).1
  simp [notBad, kd]; omega
theorem notBad_none (t : Bytes) : notBad (none, t) = false := by simp [notBad, kd]

theorem chars_append_ok : ∀ (a b : Bytes), (chars a).all notBad = true → chars (a ++ b) = chars a ++ chars b := by
  intro a b
  revert a
  apply chars_ind
  · intro _; simp [chars_nil]
  · intro l hl ih hall
    have hc := chars_cons hl
    rw [hc] at hall
    simp only [List.all_cons, Bool.and_eq_true] at hall
    cases hd : dec l with
    | none => simp [val, hd, notBad_none] at hall
    | some p =>
      obtain ⟨v, n⟩ := p
      have hw : wid l = n := by simp [wid, hd]
      have hk := dec_width hd
      have h2 := chars_some (dec_append hd b)
      rw [List.drop_append_of_le_length hk.2.1, List.take_append_of_le_length hk.2.1] at h2
      rw [h2, hc, hw]
      rw [hw] at ih hall
      rw [ih hall.2]
      simp [val, hd]

theorem isCont_ascii {g : UInt8} (hg : g.toNat < 0x80) : isCont g = false := by simp [isCont]; omega

theorem dec_ascii_behind {l : Bytes} (hl : l ≠ []) {g : UInt8} (hg : g.toNat < 0x80) (b : Bytes) : dec (l ++ g :: b) = dec l := by
  cases hd : dec l with
  | some p => obtain ⟨v, n⟩ := p; exact dec_append hd _
  | none =>
    have hc := isCont_ascii hg
    cases l with
    | nil => exact absurd rfl hl
    | cons x t =>
      simp only [List.cons_append]
      simp only [dec] at hd ⊢
      by_cases h0 : x.toNat < 0x80
      · simp [h0] at hd
      rw [if_neg h0]
      by_cases h1 : x.toNat / 32 = 6
      · rw [if_pos h1]
        simp only [h0, h1, if_true, if_false] at hd
        match t with
        | [] => simp [hc]
        | c :: t => simp only [List.cons_append] at hd ⊢; exact hd
      rw [if_neg h1]
      by_cases h2 : x.toNat / 16 = 14
      · rw [if_pos h2]
        simp only [h0, h1, h2, if_true, if_false] at hd
        match t with
        | [] => cases b <;> simp [hc]
        | [c] => simp [hc]
        | c :: d :: t => simp only [List.cons_append] at hd ⊢; exact hd
      rw [if_neg h2]
      by_cases h3 : x.toNat / 8 = 30
      · rw [if_pos h3]
        simp only [h0, h1, h2, h3, if_true, if_false] at hd
        match t with
        | [] => match b with
          | [] => simp
          | [x] => simp
          | x :: y :: r => simp [hc]
        | [c] => cases b <;> simp [hc]
        | [c, d] => simp [hc]
        | c :: d :: f :: t => simp only [List.cons_append] at hd ⊢; exact hd
      · rw [if_neg h3]

/-- Behind a character of one byte a text begins anew, whatever stood ahead of it. -/
theorem chars_append_ascii {g : UInt8} (hg : g.toNat < 0x80) (b : Bytes) : ∀ a : Bytes, chars (a ++ g :: b) = chars a ++ chars (g :: b) := by
  apply chars_ind
  · simp [chars_nil]
  · intro l hl ih
    have h1 := chars_cons hl
    have h2 := chars_cons (l := l ++ g :: b) (by simp)
    have hd := dec_ascii_behind hl hg b
    have hv : val (l ++ g :: b) = val l := by simp [val, hd]
    have hw : wid (l ++ g :: b) = wid l := by simp [wid, hd]
    have hk := wid_le hl
    rw [h2, h1, hv, hw, List.take_append_of_le_length hk, List.drop_append_of_le_length hk, ih]
    rfl

theorem chars_ascii {g : UInt8} (hg : g.toNat < 0x80) (b : Bytes) : chars (g :: b) = (some g.toNat, [g]) :: chars b := by
  have h : dec (g :: b) = some (g.toNat, 1) := by simp [dec, hg]
  rw [chars_some h]; rfl

/-! ### Tokens side by side -/
theorem takeWhile_stop {p : C → Bool} {g : C} (hg : p g = false) (A B : List C) : (A ++ g :: B).takeWhile p = A.takeWhile p := by
  induction A with
  | nil => simp [hg]
  | cons a A ih => simp only [List.cons_append, List.takeWhile_cons]; split <;> simp [ih]

theorem runLen_stop {p : C → Bool} {g : C} (hg : p g = false) (A B : List C) : runLen p (A ++ g :: B) = runLen p A := by
  simp [runLen, takeWhile_stop hg]

def joined (B : Nat → Res) (n : Nat) : Res → Res
  | .ok l => (B n).after l
  | .error e => .error e

theorem joined_after (B : Nat → Res) (n : Nat) (r : Res) (l : List Tok) : joined B n (r.after l) = (joined B n r).after l := by
  cases r with
  | ok m => simp [joined, Res.after]
            cases B n <;> simp
  | error e => rfl

theorem Toks_join {g : C} (hg : kd g = 1) (hr : rn g ≠ 95) (B : List C) : ∀ (n : Nat) (A : List C) (col : Nat), A.length ≤ n → (∀ c ∈ A, kd c ≠ 2) →
    Toks col (A ++ g :: B) = joined (fun k => Toks k B) (col + A.length + 1) (Toks col A) := by
  have hnum : isNum g = false := by simp [isNum, hg, hr]
  have hal : isAl g = false := by simp [isAl, hg]
  intro n
  induction n with
  | zero =>
    intro A col hl _
    obtain rfl : A = [] := List.eq_nil_of_length_eq_zero (by omega)
    simp only [List.nil_append, Toks_nil, joined, List.length_nil, Nat.add_zero]
    rw [Toks_blank _ hg, Res.after_nil]
  | succ n ih =>
    intro A col hl h2
    cases A with
    | nil =>
      simp only [List.nil_append, Toks_nil, joined, List.length_nil, Nat.add_zero]
      rw [Toks_blank _ hg, Res.after_nil]
    | cons c A =>
      simp only [List.length_cons] at hl
      have h2c := h2 c (by simp)
      have h2A : ∀ c ∈ A, kd c ≠ 2 := fun d hd => h2 d (by simp [hd])
      have hk := kd_le c
      have key : ∀ (p : C → Bool) (hp : p g = false) (hpc : p c = true) (t : Tok),
          (Toks (col + runLen p (c :: A)) ((c :: A ++ g :: B).drop (runLen p (c :: A)))).after [t] =
          joined (fun k => Toks k B) (col + (c :: A).length + 1) ((Toks (col + runLen p (c :: A)) ((c :: A).drop (runLen p (c :: A)))).after [t]) := by
        intro p hp hpc t
        have h1 := runLen_pos (cs := A) hpc
        have h3 := runLen_le p (c :: A)
        rw [List.drop_append_of_le_length h3, ih _ _ (by simp only [List.length_drop, List.length_cons]; omega) (fun d hd => h2 d (List.mem_of_mem_drop hd)), joined_after]
        congr 2
        simp only [List.length_drop, List.length_cons] at h3 ⊢
        omega
      have take_eq : ∀ (p : C → Bool), (c :: A ++ g :: B).take (runLen p (c :: A)) = (c :: A).take (runLen p (c :: A)) := fun p => List.take_append_of_le_length (runLen_le p _)
      by_cases k0 : kd c = 0
      · rw [List.cons_append, Toks_bad _ k0, Toks_bad _ k0]; rfl
      by_cases k1 : kd c = 1
      · rw [List.cons_append, Toks_blank _ k1, Toks_blank _ k1, ih A _ (by omega) h2A]
        congr 1; simp only [List.length_cons]; omega
      by_cases k3 : kd c = 3
      · rw [List.cons_append, Toks_num _ k3, Toks_num _ k3]
        rw [← List.cons_append, runLen_stop hnum, take_eq]
        split
        · rfl
        · exact key isNum hnum (by simp [isNum, k3]) _
      by_cases k4 : kd c = 4
      · rw [List.cons_append, Toks_name _ k4, Toks_name _ k4]
        rw [← List.cons_append, runLen_stop hal, take_eq]
        split
        · rfl
        · exact key isAl hal (by simp [isAl, k4]) _
      by_cases k5 : kd c = 5
      · rw [List.cons_append, Toks_mark _ k5, Toks_mark _ k5, ih A _ (by omega) h2A, joined_after]
        congr 2; simp only [List.length_cons]; omega
      · have k6 : kd c = 6 := by omega
        rw [List.cons_append, Toks_other _ k6, Toks_other _ k6]; rfl

def shiftT (d : Nat) (l : List Tok) : List Tok := l.map fun t => (t.1, t.2.1, t.2.2 + d)
def shiftR (d : Nat) : Res → Res
  | .ok l => .ok (shiftT d l)
  | .error e => .error (e.1 + d, e.2)

theorem shiftR_after (d : Nat) (r : Res) (l : List Tok) : shiftR d (r.after l) = (shiftR d r).after (shiftT d l) := by
  cases r <;> simp [shiftR, Res.after, shiftT]

theorem Toks_shift (d : Nat) : ∀ (n : Nat) (A : List C) (col : Nat), A.length ≤ n → Toks (col + d) A = shiftR d (Toks col A) := by
  intro n
  induction n with
  | zero =>
    intro A col hl
    obtain rfl : A = [] := List.eq_nil_of_length_eq_zero (by omega)
    rfl
  | succ n ih =>
    intro A col hl
    cases A with
    | nil => rfl
    | cons c A =>
      simp only [List.length_cons] at hl
      have hk := kd_le c
      by_cases k0 : kd c = 0
      · rw [Toks_bad _ k0, Toks_bad _ k0]; rfl
      by_cases k1 : kd c = 1
      · rw [Toks_blank _ k1, Toks_blank _ k1, ← ih A _ (by omega)]
        congr 1; omega
      by_cases k2 : kd c = 2
      · rw [Toks_hash _ k2, Toks_hash _ k2]
        split
        · simp only [shiftR]; congr 2; omega
        · rfl
      by_cases k3 : kd c = 3
      · have h1 := runLen_pos (p := isNum) (c := c) (cs := A) (by simp [isNum, k3])
        rw [Toks_num _ k3, Toks_num _ k3]
        split
        · rfl
        · rw [shiftR_after, ← ih _ _ (by simp only [List.length_drop, List.length_cons]; omega)]
          congr 2; omega
      by_cases k4 : kd c = 4
      · have h1 := runLen_pos (p := isAl) (c := c) (cs := A) (by simp [isAl, k4])
        rw [Toks_name _ k4, Toks_name _ k4]
        split
        · rfl
        · rw [shiftR_after, ← ih _ _ (by simp only [List.length_drop, List.length_cons]; omega)]
          congr 2; omega
      by_cases k5 : kd c = 5
      · rw [Toks_mark _ k5, Toks_mark _ k5, shiftR_after, ← ih A _ (by omega)]
        congr 2; omega
      · have k6 : kd c = 6 := by omega
        rw [Toks_other _ k6, Toks_other _ k6]; rfl

/-- A character of kind hash is the byte 35 itself. -/
theorem hash_byte : ∀ (a : Bytes), a.any (· == 35) = false → ∀ c ∈ chars a, kd c ≠ 2 := by
  apply chars_ind
  · intro _ c hc; simp [chars_nil] at hc
  · intro l hl ih h c hc
    rw [chars_cons hl] at hc
    rcases List.mem_cons.1 hc with rfl | hc
    · intro hk
      cases l with
      | nil => exact hl rfl
      | cons x t =>
        simp only [List.any_cons, Bool.or_eq_false_iff, beq_eq_false_iff_ne] at h
        unfold kd at hk
        cases hd : dec (x :: t) with
        | none => simp [val, hd] at hk
        | some p =>
          obtain ⟨v, n⟩ := p
          simp only [val, hd, Option.map_some] at hk
          have h35 : v = 35 := by
            unfold kindOf at hk
            repeat' split at hk
            all_goals omega
          subst h35
          simp only [dec] at hd
          split at hd
          · simp at hd
            exact h.1 (UInt8.toNat_inj.1 (by simpa using hd.1))
          split at hd
          · split at hd
            · split at hd
              · rename_i k; simp only [Bool.and_eq_true, decide_eq_true_eq] at k; simp at hd; omega
              · simp at hd
            · cases hd
          split at hd
          · split at hd
            · split at hd
              · rename_i k; simp only [Bool.and_eq_true, decide_eq_true_eq] at k; simp at hd; omega
              · simp at hd
            · cases hd
          split at hd
          · split at hd
            · split at hd
              · rename_i k; simp only [Bool.and_eq_true, decide_eq_true_eq] at k; simp at hd; omega
              · simp at hd
            · cases hd
          · cases hd
    · refine ih ?_ c hc
      rw [List.any_eq_false] at h ⊢
      exact fun x hx => h x (List.mem_of_mem_drop hx)

/-- How many bytes are no second, third or fourth byte of a character. -/
def leads (l : Bytes) : Nat := (l.filter fun c => c.toNat < 0x80 || 0xc0 ≤ c.toNat).length

theorem leads_append (a b : Bytes) : leads (a ++ b) = leads a + leads b := by simp [leads, List.filter_append]

theorem dec_leads {l : Bytes} {v n : Nat} (h : dec l = some (v, n)) : leads (l.take n) = 1 := by
  unfold dec at h
  split at h
  · cases h
  · rename_i b t
    have hcont : ∀ c : UInt8, isCont c = true → leads [c] = 0 := by
      intro c hc
      simp only [isCont, beq_iff_eq] at hc
      simp [leads]; omega
    have hlead : ∀ c : UInt8, (c.toNat < 0x80 ∨ 0xc0 ≤ c.toNat) → leads [c] = 1 := by
      intro c hc
      have : (decide (c.toNat < 128) || decide (192 ≤ c.toNat)) = true := by simp; omega
      simp [leads, this]
    split at h
    · rename_i h0
      simp at h
      obtain ⟨_, rfl⟩ := h
      exact hlead b (.inl h0)
    split at h
    · rename_i h1
      split at h
      · split at h
        · rename_i c r k
          simp only [Bool.and_eq_true] at k
          simp at h
          obtain ⟨_, rfl⟩ := h
          show leads ([b] ++ [c]) = 1
          rw [leads_append, hlead b (.inr (by omega)), hcont c k.1]
        · simp at h
      · cases h
    split at h
    · rename_i h1
      split at h
      · split at h
        · rename_i c d r k
          simp only [Bool.and_eq_true] at k
          simp at h
          obtain ⟨_, rfl⟩ := h
          show leads ([b] ++ ([c] ++ [d])) = 1
          rw [leads_append, leads_append, hlead b (.inr (by omega)), hcont c k.1.1.1, hcont d k.1.1.2]
        · simp at h
      · cases h
    split at h
    · rename_i h1
      split at h
      · split at h
        · rename_i c d f r k
          simp only [Bool.and_eq_true] at k
          simp at h
          obtain ⟨_, rfl⟩ := h
          show leads ([b] ++ ([c] ++ ([d] ++ [f]))) = 1
          rw [leads_append, leads_append, leads_append, hlead b (.inr (by omega)), hcont c k.1.1.1.1, hcont d k.1.1.1.2, hcont f k.1.1.2]
        · simp at h
      · cases h
    · cases h

theorem leads_chars : ∀ a : Bytes, (chars a).all notBad = true → leads a = (chars a).length := by
  apply chars_ind
  · intro _; rfl
  · intro l hl ih hall
    have hc := chars_cons hl
    rw [hc] at hall ⊢
    simp only [List.all_cons, Bool.and_eq_true] at hall
    cases hd : dec l with
    | none => simp [val, hd, notBad_none] at hall
    | some p =>
      obtain ⟨v, n⟩ := p
      have hw : wid l = n := by simp [wid, hd]
      have e : leads l = leads (l.take n) + leads (l.drop n) := by rw [← leads_append, List.take_append_drop]
      rw [hw] at ih hall ⊢
      rw [e, dec_leads hd, ih hall.2, List.length_cons]
      omega

end LexP
