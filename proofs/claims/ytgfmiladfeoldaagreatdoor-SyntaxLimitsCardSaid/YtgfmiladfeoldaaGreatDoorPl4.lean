/- Joined texts of this claim's proof: LexPure2, LexPure3, LexW7. -/
import Derived.Test.YtgfmiladfeoldaaGreatDoorPl1
import Derived.Test.YtgfmiladfeoldaaGreatDoorPl3
set_option linter.unusedSimpArgs false
set_option linter.unusedVariables false
namespace LexP
theorem notBad_none (t : Bytes) : notBad (none, t) = false := by simp [notBad, kd]
theorem chars_append_ok : ∀ (a b : Bytes), (chars a).all notBad = true → chars (a ++ b) = chars a ++ chars b := by
 intro a b
 revert a
 apply chars_ind
 ·intro _; simp [chars_nil]
 ·intro l hl ih hall
  have hc := chars_cons hl
  rw [hc] at hall
  simp only [List.all_cons, Bool.and_eq_true] at hall
  cases hd : dec l with
  | none => simp [val, hd, notBad_none] at hall
  | some p =>
   obtain ⟨v, n⟩ := p
   have hw : wid l = n := by simp [wid, hd]
   have hk := dec_width hd
   have h2 := chars_some (dec_append hd b)
   rw [List.drop_append_of_le_length hk.2.1, List.take_append_of_le_length hk.2.1] at h2
   rw [h2, hc, hw]
   rw [hw] at ih hall
   rw [ih hall.2]
   simp [val, hd]
theorem isCont_ascii {g : UInt8} (hg : g.toNat < 0x80) : isCont g = false := by simp [isCont]; omega
theorem dec_ascii_behind {l : Bytes} (hl : l ≠ []) {g : UInt8} (hg : g.toNat < 0x80) (b : Bytes) : dec (l ++ g :: b) = dec l := by
 cases hd : dec l with
 | some p => obtain ⟨v, n⟩ := p; exact dec_append hd _
 | none =>
  have hc := isCont_ascii hg
  cases l with
  | nil => exact absurd rfl hl
  | cons x t =>
   simp only [List.cons_append]
   simp only [dec] at hd ⊢
   by_cases h0 : x.toNat < 0x80
   ·simp [h0] at hd
   rw [if_neg h0]
   by_cases h1 : x.toNat / 32 = 6
   ·rw [if_pos h1]
    simp only [h0, h1, if_true, if_false] at hd
    match t with
    | [] => simp [hc]
    | c :: t => simp only [List.cons_append] at hd ⊢; exact hd
   rw [if_neg h1]
   by_cases h2 : x.toNat / 16 = 14
   ·rw [if_pos h2]
    simp only [h0, h1, h2, if_true, if_false] at hd
    match t with
    | [] => cases b <;> simp [hc]
    | [c] => simp [hc]
    | c :: d :: t => simp only [List.cons_append] at hd ⊢; exact hd
   rw [if_neg h2]
   by_cases h3 : x.toNat / 8 = 30
   ·rw [if_pos h3]
    simp only [h0, h1, h2, h3, if_true, if_false] at hd
    match t with
    | [] => match b with
     | [] => simp
     | [x] => simp
     | x :: y :: r => simp [hc]
    | [c] => cases b <;> simp [hc]
    | [c, d] => simp [hc]
    | c :: d :: f :: t => simp only [List.cons_append] at hd ⊢; exact hd
   ·rw [if_neg h3]
theorem chars_append_ascii {g : UInt8} (hg : g.toNat < 0x80) (b : Bytes) : ∀ a : Bytes, chars (a ++ g :: b) = chars a ++ chars (g :: b) := by
 apply chars_ind
 ·simp [chars_nil]
 ·intro l hl ih
  have h1 := chars_cons hl
  have h2 := chars_cons (l := l ++ g :: b) (by simp)
  have hd := dec_ascii_behind hl hg b
  have hv : val (l ++ g :: b) = val l := by simp [val, hd]
  have hw : wid (l ++ g :: b) = wid l := by simp [wid, hd]
  have hk := wid_le hl
  rw [h2, h1, hv, hw, List.take_append_of_le_length hk, List.drop_append_of_le_length hk, ih]
  rfl
theorem chars_ascii {g : UInt8} (hg : g.toNat < 0x80) (b : Bytes) : chars (g :: b) = (some g.toNat, [g]) :: chars b := by
 have h : dec (g :: b) = some (g.toNat, 1) := by simp [dec, hg]
 rw [chars_some h]; rfl
theorem takeWhile_stop {p : C → Bool} {g : C} (hg : p g = false) (A B : List C) : (A ++ g :: B).takeWhile p = A.takeWhile p := by
 induction A with
 | nil => simp [hg]
 | cons a A ih => simp only [List.cons_append, List.takeWhile_cons]; split <;> simp [ih]
theorem runLen_stop {p : C → Bool} {g : C} (hg : p g = false) (A B : List C) : runLen p (A ++ g :: B) = runLen p A := by
 simp [runLen, takeWhile_stop hg]
def joined (B : Nat → Res) (n : Nat) : Res → Res
 | .ok l => (B n).after l
 | .error e => .error e
theorem joined_after (B : Nat → Res) (n : Nat) (r : Res) (l : List Tok) : joined B n (r.after l) = (joined B n r).after l := by
  cases r with
  | ok m => simp [joined, Res.after]
            cases B n <;> simp
  | error e => rfl
theorem Toks_join {g : C} (hg : kd g = 1) (hr : rn g ≠ 95) (B : List C) : ∀ (n : Nat) (A : List C) (col : Nat), A.length ≤ n → (∀ c ∈ A, kd c ≠ 2) →
  Toks col (A ++ g :: B) = joined (fun k => Toks k B) (col + A.length + 1) (Toks col A) := by
 have hnum : isNum g = false := by simp [isNum, hg, hr]
 have hal : isAl g = false := by simp [isAl, hg]
 intro n
 induction n with
 | zero =>
  intro A col hl _
  obtain rfl : A = [] := List.eq_nil_of_length_eq_zero (by omega)
  simp only [List.nil_append, Toks_nil, joined, List.length_nil, Nat.add_zero]
  rw [Toks_blank _ hg, Res.after_nil]
 | succ n ih =>
  intro A col hl h2
  cases A with
  | nil =>
   simp only [List.nil_append, Toks_nil, joined, List.length_nil, Nat.add_zero]
   rw [Toks_blank _ hg, Res.after_nil]
  | cons c A =>
   simp only [List.length_cons] at hl
   have h2c := h2 c (by simp)
   have h2A : ∀ c ∈ A, kd c ≠ 2 := fun d hd => h2 d (by simp [hd])
   have hk := kd_le c
   have key : ∀ (p : C → Bool) (hp : p g = false) (hpc : p c = true) (t : Tok),
     (Toks (col + runLen p (c :: A)) ((c :: A ++ g :: B).drop (runLen p (c :: A)))).after [t] =
     joined (fun k => Toks k B) (col + (c :: A).length + 1) ((Toks (col + runLen p (c :: A)) ((c :: A).drop (runLen p (c :: A)))).after [t]) := by
    intro p hp hpc t
    have h1 := runLen_pos (cs := A) hpc
    have h3 := runLen_le p (c :: A)
    rw [List.drop_append_of_le_length h3, ih _ _ (by simp only [List.length_drop, List.length_cons]; omega) (fun d hd => h2 d (List.mem_of_mem_drop hd)), joined_after]
    congr 2
    simp only [List.length_drop, List.length_cons] at h3 ⊢
    omega
   have take_eq : ∀ (p : C → Bool), (c :: A ++ g :: B).take (runLen p (c :: A)) = (c :: A).take (runLen p (c :: A)) := fun p => List.take_append_of_le_length (runLen_le p _)
   by_cases k0 : kd c = 0
   ·rw [List.cons_append, Toks_bad _ k0, Toks_bad _ k0]; rfl
   by_cases k1 : kd c = 1
   ·rw [List.cons_append, Toks_blank _ k1, Toks_blank _ k1, ih A _ (by omega) h2A]
    congr 1; simp only [List.length_cons]; omega
   by_cases k3 : kd c = 3
   ·rw [List.cons_append, Toks_num _ k3, Toks_num _ k3]
    rw [← List.cons_append, runLen_stop hnum, take_eq]
    split
    ·rfl
    ·exact key isNum hnum (by simp [isNum, k3]) _
   by_cases k4 : kd c = 4
   ·rw [List.cons_append, Toks_name _ k4, Toks_name _ k4]
    rw [← List.cons_append, runLen_stop hal, take_eq]
    split
    ·rfl
    ·exact key isAl hal (by simp [isAl, k4]) _
   by_cases k5 : kd c = 5
   ·rw [List.cons_append, Toks_mark _ k5, Toks_mark _ k5, ih A _ (by omega) h2A, joined_after]
    congr 2; simp only [List.length_cons]; omega
   ·have k6 : kd c = 6 := by omega
    rw [List.cons_append, Toks_other _ k6, Toks_other _ k6]; rfl
def shiftT (d : Nat) (l : List Tok) : List Tok := l.map fun t => (t.1, t.2.1, t.2.2 + d)
def shiftR (d : Nat) : Res → Res
 | .ok l => .ok (shiftT d l)
 | .error e => .error (e.1 + d, e.2)
theorem shiftR_after (d : Nat) (r : Res) (l : List Tok) : shiftR d (r.after l) = (shiftR d r).after (shiftT d l) := by
 cases r <;> simp [shiftR, Res.after, shiftT]
theorem Toks_shift (d : Nat) : ∀ (n : Nat) (A : List C) (col : Nat), A.length ≤ n → Toks (col + d) A = shiftR d (Toks col A) := by
 intro n
 induction n with
 | zero =>
  intro A col hl
  obtain rfl : A = [] := List.eq_nil_of_length_eq_zero (by omega)
  rfl
 | succ n ih =>
  intro A col hl
  cases A with
  | nil => rfl
  | cons c A =>
   simp only [List.length_cons] at hl
   have hk := kd_le c
   by_cases k0 : kd c = 0
   ·rw [Toks_bad _ k0, Toks_bad _ k0]; rfl
   by_cases k1 : kd c = 1
   ·rw [Toks_blank _ k1, Toks_blank _ k1, ← ih A _ (by omega)]
    congr 1; omega
   by_cases k2 : kd c = 2
   ·rw [Toks_hash _ k2, Toks_hash _ k2]
    split
    ·simp only [shiftR]; congr 2; omega
    ·rfl
   by_cases k3 : kd c = 3
   ·have h1 := runLen_pos (p := isNum) (c := c) (cs := A) (by simp [isNum, k3])
    rw [Toks_num _ k3, Toks_num _ k3]
    split
    ·rfl
    ·rw [shiftR_after, ← ih _ _ (by simp only [List.length_drop, List.length_cons]; omega)]
     congr 2; omega
   by_cases k4 : kd c = 4
   ·have h1 := runLen_pos (p := isAl) (c := c) (cs := A) (by simp [isAl, k4])
    rw [Toks_name _ k4, Toks_name _ k4]
    split
    ·rfl
    ·rw [shiftR_after, ← ih _ _ (by simp only [List.length_drop, List.length_cons]; omega)]
     congr 2; omega
   by_cases k5 : kd c = 5
   ·rw [Toks_mark _ k5, Toks_mark _ k5, shiftR_after, ← ih A _ (by omega)]
    congr 2; omega
   ·have k6 : kd c = 6 := by omega
    rw [Toks_other _ k6, Toks_other _ k6]; rfl
theorem hash_byte : ∀ (a : Bytes), a.any (· == 35) = false → ∀ c ∈ chars a, kd c ≠ 2 := by
 apply chars_ind
 ·intro _ c hc; simp [chars_nil] at hc
 ·intro l hl ih h c hc
  rw [chars_cons hl] at hc
  rcases List.mem_cons.1 hc with rfl | hc
  ·intro hk
   cases l with
   | nil => exact hl rfl
   | cons x t =>
    simp only [List.any_cons, Bool.or_eq_false_iff, beq_eq_false_iff_ne] at h
    unfold kd at hk
    cases hd : dec (x :: t) with
    | none => simp [val, hd] at hk
    | some p =>
     obtain ⟨v, n⟩ := p
     simp only [val, hd, Option.map_some] at hk
     have h35 : v = 35 := by
      unfold kindOf at hk
      repeat' split at hk
      all_goals omega
     subst h35
     simp only [dec] at hd
     split at hd
     ·simp at hd
      exact h.1 (UInt8.toNat_inj.1 (by simpa using hd.1))
     split at hd
     ·split at hd
      ·split at hd
       ·rename_i k; simp only [Bool.and_eq_true, decide_eq_true_eq] at k; simp at hd; omega
       ·simp at hd
      ·cases hd
     split at hd
     ·split at hd
      ·split at hd
       ·rename_i k; simp only [Bool.and_eq_true, decide_eq_true_eq] at k; simp at hd; omega
       ·simp at hd
      ·cases hd
     split at hd
     ·split at hd
      ·split at hd
       ·rename_i k; simp only [Bool.and_eq_true, decide_eq_true_eq] at k; simp at hd; omega
       ·simp at hd
      ·cases hd
     ·cases hd
  ·refine ih ?_ c hc
   rw [List.any_eq_false] at h ⊢
   exact fun x hx => h x (List.mem_of_mem_drop hx)
end LexP
namespace LexP
def resTok : Res → List Tok | .ok l => l | .error _ => []
def resCol : Res → Nat | .ok _ => 0 | .error e => e.1
def resErr : Res → Nat | .ok _ => 0 | .error e => e.2
theorem takeWhile_all {p : C → Bool} (l : List C) : ∀ c ∈ l.take (runLen p l), p c = true := by
 have h1 : l.take (runLen p l) = l.takeWhile p := by
  unfold runLen
  induction l with
  | nil => rfl
  | cons d l ih =>
   by_cases h : p d = true
   ·simp [h, ih]
   ·simp [h]
 intro c hc
 rw [h1] at hc
 have : ∀ (l : List C), ∀ c ∈ l.takeWhile p, p c = true := by
  intro l
  induction l with
  | nil => intro c hc; simp at hc
  | cons d l ih =>
   intro c hc
   rw [List.takeWhile_cons] at hc
   split at hc
   ·rename_i h
    rcases List.mem_cons.1 hc with rfl | hc
    ·exact h
    ·exact ih c hc
   ·simp at hc
 exact this l c hc
theorem Toks_ind {P : Nat → List C → Res → Prop} (h0 : ∀ col, P col [] (.ok []))
  (hblank : ∀ col c A, kd c = 1 → P (col + 1) A (Toks (col + 1) A) → P col (c :: A) (Toks (col + 1) A))
  (hhash : ∀ col c A, kd c = 2 → P col (c :: A) (if runLen notBad (c :: A) < (c :: A).length then .error (col + runLen notBad (c :: A), 12) else .ok []))
  (herr : ∀ col c A e, kd c ≠ 1 → kd c ≠ 2 → 0 < e → P col (c :: A) (.error (col, e)))
  (htok : ∀ col c A n k t, kd c ≠ 0 → kd c ≠ 1 → kd c ≠ 2 → 1 ≤ n → n ≤ (c :: A).length → (∀ d ∈ (c :: A).take n, notBad d = true) →
   P (col + n) ((c :: A).drop n) (Toks (col + n) ((c :: A).drop n)) → P col (c :: A) ((Toks (col + n) ((c :: A).drop n)).after [(k, t, col)])) :
  ∀ A col, P col A (Toks col A) := by
 have main : ∀ n A col, A.length ≤ n → P col A (Toks col A) := by
  intro n
  induction n with
  | zero =>
   intro A col hl
   obtain rfl : A = [] := List.eq_nil_of_length_eq_zero (by omega)
   exact h0 col
  | succ n ih =>
   intro A col hl
   cases A with
   | nil => exact h0 col
   | cons c A =>
    simp only [List.length_cons] at hl
    have hk := kd_le c
    by_cases k0 : kd c = 0
    ·rw [Toks_bad _ k0]; exact herr _ _ _ _ (by omega) (by omega) (by omega)
    by_cases k1 : kd c = 1
    ·rw [Toks_blank _ k1]; exact hblank _ _ _ k1 (ih A _ (by omega))
    by_cases k2 : kd c = 2
    ·rw [Toks_hash _ k2]; exact hhash _ _ _ k2
    by_cases k3 : kd c = 3
    ·have h1 := runLen_pos (p := isNum) (c := c) (cs := A) (by simp [isNum, k3])
     have h2 := runLen_le isNum (c :: A)
     rw [Toks_num _ k3]
     split
     ·exact herr _ _ _ _ k1 k2 (by omega)
     ·refine htok _ _ _ _ _ _ k0 k1 k2 h1 h2 ?_ (ih _ _ (by simp only [List.length_drop, List.length_cons]; omega))
      intro d hd
      have := takeWhile_all _ d hd
      unfold isNum at this
      unfold notBad
      simp only [Bool.or_eq_true, beq_iff_eq] at this
      rcases this with h | h
      ·simp [h]
      ·unfold rn at h; unfold kd
       split at h
       ·rename_i v hv
        have := (kindOf_pos v).1
        simp; omega
       ·omega
    by_cases k4 : kd c = 4
    ·have h1 := runLen_pos (p := isAl) (c := c) (cs := A) (by simp [isAl, k4])
     have h2 := runLen_le isAl (c :: A)
     rw [Toks_name _ k4]
     split
     ·exact herr _ _ _ _ k1 k2 (by omega)
     ·refine htok _ _ _ _ _ _ k0 k1 k2 h1 h2 ?_ (ih _ _ (by simp only [List.length_drop, List.length_cons]; omega))
      intro d hd
      have := takeWhile_all _ d hd
      unfold isAl at this
      unfold notBad
      simp only [Bool.or_eq_true, beq_iff_eq] at this
      rcases this with h | h <;> simp [h]
    by_cases k5 : kd c = 5
    ·rw [Toks_mark _ k5]
     have := htok col c A 1 3 (signOf c) k0 k1 k2 (Nat.le_refl _) (by simp) (by intro d hd; simp at hd; subst hd; simp [notBad, k5])
     simp only [List.drop_succ_cons, List.drop_zero] at this
     exact this (ih A _ (by omega))
    ·have k6 : kd c = 6 := by omega
     rw [Toks_other _ k6]; exact herr _ _ _ _ k1 k2 (by omega)
 exact fun A col => main _ A col (Nat.le_refl _)
theorem Toks_err : ∀ A col e, Toks col A = .error e → 0 < e.2 ∧ col ≤ e.1 ∧ e.1 ≤ col + A.length := by
 refine Toks_ind (P := fun col A r => ∀ e, r = .error e → 0 < e.2 ∧ col ≤ e.1 ∧ e.1 ≤ col + A.length) ?_ ?_ ?_ ?_ ?_
 ·intro col e h; cases h
 ·intro col c A _ ih e h
  have := ih e h
  simp only [List.length_cons]; omega
 ·intro col c A _ e h
  split at h
  ·have := runLen_le notBad (c :: A)
   cases h
   simp only; omega
  ·cases h
 ·intro col c A x _ _ hx e h
  cases h; simp only [List.length_cons]; omega
 ·intro col c A n k t _ _ _ h1 h2 _ ih e h
  cases hr : Toks (col + n) ((c :: A).drop n) with
  | ok l => rw [hr] at h; cases h
  | error x =>
   rw [hr] at h
   simp only [Res.after] at h
   have := ih e (by rw [hr]; exact h)
   simp only [List.length_drop, List.length_cons] at this h2 ⊢
   omega
theorem Toks_bounds : ∀ A col l, Toks col A = .ok l → l.length ≤ A.length ∧ ∀ t ∈ l, col ≤ t.2.2 ∧ t.2.2 < col + A.length := by
 refine Toks_ind (P := fun col A r => ∀ l, r = .ok l → l.length ≤ A.length ∧ ∀ t ∈ l, col ≤ t.2.2 ∧ t.2.2 < col + A.length) ?_ ?_ ?_ ?_ ?_
 ·intro col l h; cases h; simp
 ·intro col c A _ ih l h
  obtain ⟨h1, h2⟩ := ih l h
  simp only [List.length_cons]
  exact ⟨by omega, fun t ht => by have := h2 t ht; omega⟩
 ·intro col c A _ l h
  split at h
  ·cases h
  ·cases h; simp
 ·intro col c A x _ _ hx l h; cases h
 ·intro col c A n k t _ _ _ h1 h2 _ ih l h
  cases hr : Toks (col + n) ((c :: A).drop n) with
  | error x => rw [hr] at h; cases h
  | ok m =>
   rw [hr] at h
   simp only [Res.after, Except.ok.injEq] at h
   obtain ⟨g1, g2⟩ := ih m hr
   simp only [List.length_drop, List.length_cons] at g1 g2 h2 ⊢
   subst h
   refine ⟨by simp; omega, fun x hx => ?_⟩
   simp only [List.singleton_append, List.mem_cons] at hx
   rcases hx with rfl | hx
   ·simp only; omega
   ·have := g2 x hx; omega
theorem beside {a b : Bytes} {g : UInt8} (hg : g = 32 ∨ g = 9) (ha : a.any (· == 35) = false) :
  Toks 1 (chars (a ++ g :: b)) = match Toks 1 (chars a), Toks 1 (chars b) with
   | .error e, _ => .error e
   | .ok _, .error e => .error (e.1 + ((chars a).length + 1), e.2)
   | .ok l, .ok m => .ok (l ++ shiftT ((chars a).length + 1) m) := by
 have hg2 : g.toNat < 0x80 := by rcases hg with rfl | rfl <;> decide
 have hk : kd (some g.toNat, [g]) = 1 := by rcases hg with rfl | rfl <;> decide
 have hr : rn (some g.toNat, [g]) ≠ 95 := by rcases hg with rfl | rfl <;> decide
 rw [chars_append_ascii hg2, chars_ascii hg2, Toks_join hk hr _ _ _ _ (Nat.le_refl _) (hash_byte a ha)]
 cases hA : Toks 1 (chars a) with
 | error e => rfl
 | ok l =>
  simp only [joined]
  have := Toks_shift ((chars a).length + 1) _ (chars b) 1 (Nat.le_refl _)
  rw [show 1 + (chars a).length + 1 = 1 + ((chars a).length + 1) from by omega, this]
  cases Toks 1 (chars b) <;> rfl
end LexP
namespace Go.Proofs.YtgfmiladfeoldaaGreatDoor
open Go.RowKit LexP
theorem dec_ascii {l : Bytes} {v n : Nat} (h : dec l = some (v, n)) (hv : v < 128) : n = 1 ∧ l.take n = [v.toUInt8] := by
 unfold dec at h
 split at h
 ·cases h
 ·rename_i b t
  split at h
  ·cases h
   refine ⟨rfl, ?_⟩
   simp
  split at h
  ·split at h
   ·split at h
    ·rename_i k; simp only [Bool.and_eq_true, decide_eq_true_eq] at k; simp at h; omega
    ·simp at h
   ·cases h
  split at h
  ·split at h
   ·split at h
    ·rename_i k; simp only [Bool.and_eq_true, decide_eq_true_eq] at k; simp at h; omega
    ·simp at h
   ·cases h
  split at h
  ·split at h
   ·split at h
    ·rename_i k; simp only [Bool.and_eq_true, decide_eq_true_eq] at k; simp at h; omega
    ·simp at h
   ·cases h
  ·cases h
theorem markOk_chars : ∀ l : Bytes, ∀ c ∈ chars l, MarkOk c := by
 apply chars_ind
 ·intro c hc; simp [chars_nil] at hc
 ·intro l hl ih c hc
  rw [chars_cons hl] at hc
  rcases List.mem_cons.1 hc with rfl | hc
  ·intro hk hlt
   unfold rn at hlt ⊢
   simp only at hlt ⊢
   cases hd : dec l with
   | none => simp [val, hd] at hlt
   | some p =>
    obtain ⟨v, n⟩ := p
    have hv : val l = some v := by simp [val, hd]
    have hw : wid l = n := by simp [wid, hd]
    rw [hv] at hlt ⊢
    rw [hw]
    exact (dec_ascii hd hlt).2
  ·exact ih c hc
theorem drop_cons {cs : List C} {i : Nat} {c : C} (h : cs[i]? = some c) : cs.drop i = c :: cs.drop (i + 1) := by
 have hlt : i < cs.length := (List.getElem?_eq_some_iff.1 h).1
 rw [List.drop_eq_getElem_cons hlt]
 have := List.getElem?_eq_getElem hlt
 rw [h] at this
 rw [Option.some.inj this]
theorem Toks_next {cs : List C} {i : Nat} {c : C} (h : cs[i]? = some c) (h1 : kd c ≠ 1) (h2 : kd c ≠ 2) :
  ((nextRes cs i c).2.2.2 ≠ 0 → Toks (i + 1) (cs.drop i) = .error (i + 1, (nextRes cs i c).2.2.2)) ∧
  ((nextRes cs i c).2.2.2 = 0 → i < (nextRes cs i c).2.2.1 ∧ (nextRes cs i c).2.2.1 ≤ cs.length ∧
   Toks (i + 1) (cs.drop i) = (Toks ((nextRes cs i c).2.2.1 + 1) (cs.drop (nextRes cs i c).2.2.1)).after [((nextRes cs i c).1, (nextRes cs i c).2.1, i + 1)]) := by
 have hlt : i < cs.length := (List.getElem?_eq_some_iff.1 h).1
 have hd := drop_cons h
 have hk := kd_le c
 have hl : ∀ p, i + runLen p (cs.drop i) ≤ cs.length := fun p => by have := runLen_le p (cs.drop i); rw [List.length_drop] at this; omega
 by_cases h0 : kd c = 0
 ·unfold nextRes; simp only [h0, if_true]
  exact ⟨fun _ => by rw [hd, Toks_bad _ h0], fun h => by simp at h⟩
 by_cases h3 : kd c = 3
 ·have e := Toks_num (c := c) (cs := cs.drop (i + 1)) (i + 1) h3
  rw [← hd] at e
  have hp : 1 ≤ runLen isNum (cs.drop i) := by rw [hd]; exact runLen_pos (by simp [isNum, h3])
  unfold nextRes; simp only [h3, Nat.reduceEqDiff, if_true, if_false]
  rw [e]
  split
  ·exact ⟨fun _ => rfl, fun h => by simp at h⟩
  ·refine ⟨fun h => by simp at h, fun _ => ⟨by simp only; omega, hl _, ?_⟩⟩
   simp only [List.drop_drop]
   rw [show i + 1 + runLen isNum (cs.drop i) = i + runLen isNum (cs.drop i) + 1 from by omega]
 by_cases h4 : kd c = 4
 ·have e := Toks_name (c := c) (cs := cs.drop (i + 1)) (i + 1) h4
  rw [← hd] at e
  have hp : 1 ≤ runLen isAl (cs.drop i) := by rw [hd]; exact runLen_pos (by simp [isAl, h4])
  unfold nextRes; simp only [h4, Nat.reduceEqDiff, if_true, if_false]
  rw [e]
  split
  ·exact ⟨fun _ => rfl, fun h => by simp at h⟩
  ·refine ⟨fun h => by simp at h, fun _ => ⟨by simp only; omega, hl _, ?_⟩⟩
   simp only [List.drop_drop]
   rw [show i + 1 + runLen isAl (cs.drop i) = i + runLen isAl (cs.drop i) + 1 from by omega]
 by_cases h5 : kd c = 5
 ·unfold nextRes; simp only [h5, Nat.reduceEqDiff, if_true, if_false]
  refine ⟨fun h => by simp at h, fun _ => ⟨by omega, by omega, ?_⟩⟩
  rw [hd, Toks_mark _ h5]
 ·have h6 : kd c = 6 := by omega
  unfold nextRes; simp only [h6, Nat.reduceEqDiff, if_false]
  exact ⟨fun _ => by rw [hd, Toks_other _ h6], fun h => by simp at h⟩
def TokPost (r : Res) (w : World) (e : Ending) (w' : World) : Prop :=
 ∃ v, e = .returned (.tuple #[v, .int .i64 (resCol r : Nat), .int .i64 (resErr r : Nat)]) ∧ w'.ownsRow w.heap.size 119 3 v (resTok r).length (tkCells (resTok r)) ∧ Below w.heap.size w w'
theorem Tryz.infoTok : (Tryz.prog.info? 119).map (fun i => (i.zero, i.size, i.bytes)) = some (some (.agg #[.int .i64 0, .string ⟨#[]⟩, .int .i64 0]), 3, 32) := by kernel_rfl
def TkRel (cs : List C) (w1 : World) (v i : Value) (wr : World) : Prop :=
 ∃ k acc, k ≤ cs.length ∧ i = .int .i64 (k : Nat) ∧ wr.ownsRow w1.heap.size 119 3 v acc.length (tkCells acc) ∧ Below w1.heap.size w1 wr ∧
  Toks 1 cs = (Toks (k + 1) (cs.drop k)).after acc ∧ acc.length ≤ k
theorem tokpost_err {r : Res} {w w' : World} {x y : Value} (c e : Nat) (hx : x = .int .i64 (c : Nat)) (hy : y = .int .i64 (e : Nat)) (h : r = .error (c, e)) (hb : Below w.heap.size w w') : TokPost r w (.returned (.tuple #[.slice none 0 0, x, y])) w' := by
 subst h hx hy; exact ⟨_, rfl, World.ownsRow_nil _ _ _ _, hb⟩
theorem tokpost_ok {r : Res} {w w' : World} {v : Value} {l : List Tok} (h : r = .ok l) (ho : w'.ownsRow w.heap.size 119 3 v l.length (tkCells l)) (hb : Below w.heap.size w w') : TokPost r w (.returned (.tuple #[v, .int .i64 0, .int .i64 0])) w' := by
 subst h; exact ⟨_, rfl, ho, hb⟩
theorem after_err {r : Res} {acc : List Tok} {e : Nat × Nat} (h : r = .error e) : r.after acc = .error e := by subst h; rfl
theorem after_ok {r : Res} {acc : List Tok} (h : r = .ok []) : r.after acc = .ok acc := by subst h; simp [Res.after]
set_option maxRecDepth 100000 in
set_option maxHeartbeats 1000000 in
theorem tokens_big (s : ByteArray) (w : World) (hs : s.size ≤ 67108864) (hx : Lx w) :
  Calls Tryz.prog 90 #[.string s] w (TokPost (Toks 1 (chars s.data.toList)) w) := by
 obtain ⟨i0, hi, hz0, hz1, hz2⟩ := info_parts Tryz.infoTok
 have HX := Lib.hid hx
 have HMK := Lib.hid (markOk_chars s.data.toList)
 have hn : (chars s.data.toList).length ≤ 67108864 := by have := chars_len s.data.toList; rw [← Lib.size_eq] at this; omega
 clear hx
 go_enter Tryz.func90, Tryz.ntmps90
 go_wp2_with fail
 refine (chars_any s _ hs).mono ?_
 rintro e w1 ⟨v, rfl, hown, hbel⟩
 have HR : Hid (RdCh w1 v (chars s.data.toList)) := ownsRow_mono hown (Nat.zero_le _)
 have HB := Lib.hid hbel
 have hsz := hbel.size
 clear hown hbel
 obtain ⟨ao, cap, hv, hnc, hcm, hsh⟩ := HR.out.shape
 have HSH := Lib.hid hsh
 clear hsh hcm
 subst hv
 go_wp2_with fail
 go_loopw [2, 6] (fun v i wr => TkRel (chars s.data.toList) w1 v i wr) (fun _ i _ => (chars s.data.toList).length - (intOf i).toNat)
 case atStart => exact ⟨0, [], Nat.zero_le _, rfl, World.ownsRow_nil _ _ _ _, Below.refl _ _, by simp [Res.after_nil], Nat.le_refl _⟩
 case round =>
  obtain ⟨k, acc, hk, rfl, hown, hb, htk, hal⟩ := hrel
  have HTK := Lib.hid htk
  have HB2 : Hid (Below w.heap.size w wr) := HB.out.trans (hb.mono HB.out.size)
  have hzz := hb.size
  clear htk
  by_cases hlt : k < (chars s.data.toList).length
  ·obtain ⟨c, hc⟩ : ∃ c, (chars s.data.toList)[k]? = some c := ⟨_, List.getElem?_eq_getElem hlt⟩
   obtain ⟨g, rfl, hgs, e1, e2, e3⟩ := HSH.out _ c hc
   rw [← hb.cell (p := ⟨g, _, none⟩) hgs] at e1 e2 e3
   have HC := Lib.hid hc
   have HD := Lib.hid (drop_cons hc)
   clear hc HSH
   by_cases hk1 : kd c = 1
   ·have HE : Hid (Toks (k + 1) ((chars s.data.toList).drop k) = Toks (k + 1 + 1) ((chars s.data.toList).drop (k + 1))) := by show _ = _; rw [HD.out, Toks_blank _ hk1]
    rw [hk1] at e1
    clear hk1
    go_wp2_with fail
    have hfin : TkRel (chars s.data.toList) w1 u2 (.int .i64 (k + 1)) wr := ⟨k + 1, acc, by omega, by go_num, hown, hb, by rw [HTK.out, HE.out], by omega⟩
    first | exact ⟨hfin, by simp [intOf]; omega⟩ | exact ⟨by (repeat apply Exists.intro); exact ⟨hfin, rfl⟩, by simp [intOf]; omega⟩
   by_cases hk2 : kd c = 2
   ·have HE := Lib.hid (Toks_hash (cs := (chars s.data.toList).drop (k + 1)) (k + 1) hk2)
    rw [← HD.out] at HE
    have hle := runLen_le notBad ((chars s.data.toList).drop k)
    rw [List.length_drop] at hle
    rw [hk2] at e1
    clear hk1 hk2
    go_wp2_with fail
    refine (run_any _ notBad takes_notBad _ (chars s.data.toList) k _ (HR.out.below hb) hk).mono ?_
    rintro e w2 ⟨rfl, hb2⟩
    by_cases hl2 : k + runLen notBad ((chars s.data.toList).drop k) < (chars s.data.toList).length
    ·go_wp2_with fail
     go_ret3
     exact tokpost_err (k + 1 + runLen notBad ((chars s.data.toList).drop k)) 12 (by show Value.int .i64 _ = _; congr 1; omega) rfl
      (HTK.out.trans (after_err (HE.out.trans (if_pos (by rw [List.length_drop]; omega))))) (HB2.out.trans (hb2.mono HB2.out.size))
    ·go_wp2_with fail
     have hfin : TkRel (chars s.data.toList) w1 u2 (.int .i64 (↑k + ↑(runLen notBad ((chars s.data.toList).drop k)))) w2 := by
      refine ⟨k + runLen notBad ((chars s.data.toList).drop k), acc, by omega, by go_num, ownsRow_below hown hb2 (Nat.le_refl _), hb.trans (hb2.mono hzz), ?_, by omega⟩
      have hdn : List.drop (k + runLen notBad ((chars s.data.toList).drop k)) (chars s.data.toList) = [] := List.drop_eq_nil_of_le (by omega)
      rw [hdn, Toks_nil, HTK.out, HE.out, if_neg (by rw [List.length_drop]; omega)]
     have hrun : 1 ≤ runLen notBad ((chars s.data.toList).drop k) := by omega
     first | exact ⟨hfin, by simp [intOf]; omega⟩ | exact ⟨by (repeat apply Exists.intro); exact ⟨hfin, rfl⟩, by simp [intOf]; omega⟩
   ·have HN := Toks_next HC.out hk1 hk2
    have HNE := Lib.hid HN.1
    have HNO := Lib.hid HN.2
    have HMC := HMK.out c (List.mem_of_getElem? HC.out)
    have n1 : ((kd c : Int) == 1) = false := by simp; omega
    have n2 : ((kd c : Int) == 2) = false := by simp; omega
    clear HN
    go_wp2_with fail
    refine (next_any s _ k c _ (HR.out.below hb) HC.out hs hk1 hk2 HMC (HX.out.below HB2.out)).mono ?_
    rintro e w2 ⟨rfl, hb2⟩
    generalize nextRes (chars s.data.toList) k c = nr at *
    obtain ⟨k3, t3, j3, e3⟩ := nr
    simp only at HNE HNO ⊢
    clear HMC hk1 hk2 n1 n2 e1 e2 HD HC
    by_cases he : e3 = 0
    ·subst he
     obtain ⟨hj1, hj2, hj3⟩ := HNO.out rfl
     have HJ := Lib.hid hj3
     have q0 := ownsRow_below hown hb2 (Nat.le_refl _)
     have hzw2 := hb2.size
     clear hj3 HNE HNO
     go_wp2_with (at_builtin; refine wpList_append_own _ rfl _ _ 83 rfl w1.heap.size 119 i0 (.agg #[.int .i64 0, .string ⟨#[]⟩, .int .i64 0]) 3 32 Tryz.underlying83 hi hz0 hz1 hz2 rfl (by decide) _ _ _ rfl ((q0.alloc _).alloc _) ⟨w2.heap.size + 1, 0, none⟩ 1 1 (tkCells [(k3, t3, k + 1)]) rfl rfl ?c1 ?c2 ?c3 ?c4 ?c5 ?_)
     case c1 => exact cells_new _ _ _ _ (by simp)
     case c2 => intro u hu; simp [tkCells] at hu; rcases hu with rfl | rfl | rfl <;> rfl
     case c3 => unfold maxLen; omega
     case c4 => omega
     case c5 => simp; omega
     intro v' w3 hown3 hgrow3 _
     have HO3 : Hid (w3.ownsRow w1.heap.size 119 3 v' (acc ++ [(k3, t3, k + 1)]).length (tkCells (acc ++ [(k3, t3, k + 1)]))) := by
      show World.ownsRow _ _ _ _ _ _ _
      rw [tkCells_append, List.length_append]; exact hown3
     have HB3 : Hid (Below w1.heap.size w1 w3) := Below.grown ((((hb.trans (hb2.mono hzz)).alloc (by omega) _).alloc (by simp; omega) _)) hgrow3 (by simp; omega) (fun k hk => (q0.lt k hk).1)
     clear hown3 hgrow3 q0 hown
     go_wp2_with fail
     have hfin : TkRel (chars s.data.toList) w1 v' (.int .i64 ↑j3) w3 := ⟨j3, acc ++ [(k3, t3, k + 1)], hj2, rfl, HO3.out, HB3.out, by rw [HTK.out, HJ.out, Res.after_after], by simp; omega⟩
     first | exact ⟨hfin, by simp [intOf]; omega⟩ | exact ⟨by (repeat apply Exists.intro); exact ⟨hfin, rfl⟩, by simp [intOf]; omega⟩
    ·have he2 : ((e3 : Int) != 0) = true := by simp; omega
     go_wp2_with fail
     go_ret3
     exact tokpost_err (k + 1) e3 (by show Value.int .i64 _ = _; congr 1) rfl (HTK.out.trans (after_err (HNE.out he))) ((HB2.out.trans (hb2.mono HB2.out.size)).alloc (by have := hb2.size; have := HB2.out.size; omega) _)
  ·go_wp2_with fail
   go_ret3
   refine tokpost_ok (HTK.out.trans (after_ok ?_)) (ownsRow_mono hown HB.out.size) HB2.out
   rw [List.drop_of_length_le (by omega), Toks_nil]
end Go.Proofs.YtgfmiladfeoldaaGreatDoor
