/- Joined texts of this claim's proof: LexPure3, RunsP, SynL, LexPure5, LexPure6, PadP, SynE, SynS, SynW, SynD, SynV, EvP, EvM, DivP, Div64P, LexMem, Num1. -/
import Derived.Test.YtceggplnggkdnaaGreatDoorPk2
import Derived.Test.YtceggplnggkdnaaGreatDoorPk1
import Derived.Maps.Own
import Derived.WalkKit
import Derived.WalkSpells
import Derived.WalkSmall
import Derived.WalkLawsBesides
import Derived.Lib.OthersKept
import Derived.Lib.Hide
import Derived.Test.YtceggplnggkdnaaGreatDoorProg
import Derived.Handy
import Derived.BigQuiet
import Derived.Deep.QuietTactic
import Derived.Below
import Derived.Laws.CopyOwn
import Derived.Laws.OwnMore
import Derived.Deep.OwnRows
set_option linter.unusedSimpArgs false
set_option linter.unusedVariables false
namespace LexP
def resTok : Res → List Tok | .ok l => l | .error _ => []
def resCol : Res → Nat | .ok _ => 0 | .error e => e.1
def resErr : Res → Nat | .ok _ => 0 | .error e => e.2
theorem takeWhile_all {p : C → Bool} (l : List C) : ∀ c ∈ l.take (runLen p l), p c = true := by
 have h1 : l.take (runLen p l) = l.takeWhile p := by
  unfold runLen
  induction l with
  | nil => rfl
  | cons d l ih =>
   by_cases h : p d = true
   ·simp [h, ih]
   ·simp [h]
 intro c hc
 rw [h1] at hc
 have : ∀ (l : List C), ∀ c ∈ l.takeWhile p, p c = true := by
  intro l
  induction l with
  | nil => intro c hc; simp at hc
  | cons d l ih =>
   intro c hc
   rw [List.takeWhile_cons] at hc
   split at hc
   ·rename_i h
    rcases List.mem_cons.1 hc with rfl | hc
    ·exact h
    ·exact ih c hc
   ·simp at hc
 exact this l c hc
theorem Toks_ind {P : Nat → List C → Res → Prop} (h0 : ∀ col, P col [] (.ok []))
  (hblank : ∀ col c A, kd c = 1 → P (col + 1) A (Toks (col + 1) A) → P col (c :: A) (Toks (col + 1) A))
  (hhash : ∀ col c A, kd c = 2 → P col (c :: A) (if runLen notBad (c :: A) < (c :: A).length then .error (col + runLen notBad (c :: A), 12) else .ok []))
  (herr : ∀ col c A e, kd c ≠ 1 → kd c ≠ 2 → 0 < e → P col (c :: A) (.error (col, e)))
  (htok : ∀ col c A n k t, kd c ≠ 0 → kd c ≠ 1 → kd c ≠ 2 → 1 ≤ n → n ≤ (c :: A).length → (∀ d ∈ (c :: A).take n, notBad d = true) →
   P (col + n) ((c :: A).drop n) (Toks (col + n) ((c :: A).drop n)) → P col (c :: A) ((Toks (col + n) ((c :: A).drop n)).after [(k, t, col)])) :
  ∀ A col, P col A (Toks col A) := by
 have main : ∀ n A col, A.length ≤ n → P col A (Toks col A) := by
  intro n
  induction n with
  | zero =>
   intro A col hl
   obtain rfl : A = [] := List.eq_nil_of_length_eq_zero (by omega)
   exact h0 col
  | succ n ih =>
   intro A col hl
   cases A with
   | nil => exact h0 col
   | cons c A =>
    simp only [List.length_cons] at hl
    have hk := kd_le c
    by_cases k0 : kd c = 0
    ·rw [Toks_bad _ k0]; exact herr _ _ _ _ (by omega) (by omega) (by omega)
    by_cases k1 : kd c = 1
    ·rw [Toks_blank _ k1]; exact hblank _ _ _ k1 (ih A _ (by omega))
    by_cases k2 : kd c = 2
    ·rw [Toks_hash _ k2]; exact hhash _ _ _ k2
    by_cases k3 : kd c = 3
    ·have h1 := runLen_pos (p := isNum) (c := c) (cs := A) (by simp [isNum, k3])
     have h2 := runLen_le isNum (c :: A)
     rw [Toks_num _ k3]
     split
     ·exact herr _ _ _ _ k1 k2 (by omega)
     ·refine htok _ _ _ _ _ _ k0 k1 k2 h1 h2 ?_ (ih _ _ (by simp only [List.length_drop, List.length_cons]; omega))
      intro d hd
      have := takeWhile_all _ d hd
      unfold isNum at this
      unfold notBad
      simp only [Bool.or_eq_true, beq_iff_eq] at this
      rcases this with h | h
      ·simp [h]
      ·unfold rn at h; unfold kd
       split at h
       ·rename_i v hv
        have := (kindOf_pos v).1
        simp; omega
       ·omega
    by_cases k4 : kd c = 4
    ·have h1 := runLen_pos (p := isAl) (c := c) (cs := A) (by simp [isAl, k4])
     have h2 := runLen_le isAl (c :: A)
     rw [Toks_name _ k4]
     split
     ·exact herr _ _ _ _ k1 k2 (by omega)
     ·refine htok _ _ _ _ _ _ k0 k1 k2 h1 h2 ?_ (ih _ _ (by simp only [List.length_drop, List.length_cons]; omega))
      intro d hd
      have := takeWhile_all _ d hd
      unfold isAl at this
      unfold notBad
      simp only [Bool.or_eq_true, beq_iff_eq] at this
      rcases this with h | h <;> simp [h]
    by_cases k5 : kd c = 5
    ·rw [Toks_mark _ k5]
     have := htok col c A 1 3 (signOf c) k0 k1 k2 (Nat.le_refl _) (by simp) (by intro d hd; simp at hd; subst hd; simp [notBad, k5])
     simp only [List.drop_succ_cons, List.drop_zero] at this
     exact this (ih A _ (by omega))
    ·have k6 : kd c = 6 := by omega
     rw [Toks_other _ k6]; exact herr _ _ _ _ k1 k2 (by omega)
 exact fun A col => main _ A col (Nat.le_refl _)
theorem Toks_err : ∀ A col e, Toks col A = .error e → 0 < e.2 ∧ col ≤ e.1 ∧ e.1 ≤ col + A.length := by
 refine Toks_ind (P := fun col A r => ∀ e, r = .error e → 0 < e.2 ∧ col ≤ e.1 ∧ e.1 ≤ col + A.length) ?_ ?_ ?_ ?_ ?_
 ·intro col e h; cases h
 ·intro col c A _ ih e h
  have := ih e h
  simp only [List.length_cons]; omega
 ·intro col c A _ e h
  split at h
  ·have := runLen_le notBad (c :: A)
   cases h
   simp only; omega
  ·cases h
 ·intro col c A x _ _ hx e h
  cases h; simp only [List.length_cons]; omega
 ·intro col c A n k t _ _ _ h1 h2 _ ih e h
  cases hr : Toks (col + n) ((c :: A).drop n) with
  | ok l => rw [hr] at h; cases h
  | error x =>
   rw [hr] at h
   simp only [Res.after] at h
   have := ih e (by rw [hr]; exact h)
   simp only [List.length_drop, List.length_cons] at this h2 ⊢
   omega
theorem Toks_bounds : ∀ A col l, Toks col A = .ok l → l.length ≤ A.length ∧ ∀ t ∈ l, col ≤ t.2.2 ∧ t.2.2 < col + A.length := by
 refine Toks_ind (P := fun col A r => ∀ l, r = .ok l → l.length ≤ A.length ∧ ∀ t ∈ l, col ≤ t.2.2 ∧ t.2.2 < col + A.length) ?_ ?_ ?_ ?_ ?_
 ·intro col l h; cases h; simp
 ·intro col c A _ ih l h
  obtain ⟨h1, h2⟩ := ih l h
  simp only [List.length_cons]
  exact ⟨by omega, fun t ht => by have := h2 t ht; omega⟩
 ·intro col c A _ l h
  split at h
  ·cases h
  ·cases h; simp
 ·intro col c A x _ _ hx l h; cases h
 ·intro col c A n k t _ _ _ h1 h2 _ ih l h
  cases hr : Toks (col + n) ((c :: A).drop n) with
  | error x => rw [hr] at h; cases h
  | ok m =>
   rw [hr] at h
   simp only [Res.after, Except.ok.injEq] at h
   obtain ⟨g1, g2⟩ := ih m hr
   simp only [List.length_drop, List.length_cons] at g1 g2 h2 ⊢
   subst h
   refine ⟨by simp; omega, fun x hx => ?_⟩
   simp only [List.singleton_append, List.mem_cons] at hx
   rcases hx with rfl | hx
   ·simp only; omega
   ·have := g2 x hx; omega
theorem beside {a b : Bytes} {g : UInt8} (hg : g = 32 ∨ g = 9) (ha : a.any (· == 35) = false) :
  Toks 1 (chars (a ++ g :: b)) = match Toks 1 (chars a), Toks 1 (chars b) with
   | .error e, _ => .error e
   | .ok _, .error e => .error (e.1 + ((chars a).length + 1), e.2)
   | .ok l, .ok m => .ok (l ++ shiftT ((chars a).length + 1) m) := by
 have hg2 : g.toNat < 0x80 := by rcases hg with rfl | rfl <;> decide
 have hk : kd (some g.toNat, [g]) = 1 := by rcases hg with rfl | rfl <;> decide
 have hr : rn (some g.toNat, [g]) ≠ 95 := by rcases hg with rfl | rfl <;> decide
 rw [chars_append_ascii hg2, chars_ascii hg2, Toks_join hk hr _ _ _ _ (Nat.le_refl _) (hash_byte a ha)]
 cases hA : Toks 1 (chars a) with
 | error e => rfl
 | ok l =>
  simp only [joined]
  have := Toks_shift ((chars a).length + 1) _ (chars b) 1 (Nat.le_refl _)
  rw [show 1 + (chars a).length + 1 = 1 + ((chars a).length + 1) from by omega, this]
  cases Toks 1 (chars b) <;> rfl
end LexP
namespace LexP
end LexP
namespace SynP
open LexP
def delim (b : UInt8) : Bool := b.toNat < 128 && kindOf b.toNat != 3 && kindOf b.toNat != 4 && b.toNat != 95
def Dl (r : Bytes) : Prop := r = [] ∨ ∃ b t, r = b :: t ∧ delim b = true
def LxA (b : Bytes) (l : List KT) : Prop := ∀ col r, ∃ n ts, Toks col (chars (b ++ r)) = (Toks (col + n) (chars r)).after ts ∧ kt ts = l
def LxD (b : Bytes) (l : List KT) : Prop := ∀ col r, Dl r → ∃ n ts, Toks col (chars (b ++ r)) = (Toks (col + n) (chars r)).after ts ∧ kt ts = l
theorem LxA.d {b : Bytes} {l : List KT} (h : LxA b l) : LxD b l := fun col r _ => h col r
theorem LxA.nil : LxA [] [] := fun col r => ⟨0, [], by simp [Res.after_nil], rfl⟩
theorem after_mem {r : Res} {a l : List Tok} (h : r.after a = .ok l) : ∃ m, r = .ok m ∧ l = a ++ m := by
 cases r with
 | error e => cases h
 | ok m => exact ⟨m, rfl, by simpa [Res.after] using h.symm⟩
theorem bytes_split (k : Nat) (L : List C) : bytesOf L = bytesOf (L.take k) ++ bytesOf (L.drop k) := by
 unfold bytesOf
 rw [← List.flatMap_append, List.take_append_drop]
end SynP
namespace LexP
def badV (v m : Nat) : Bool := v < m || 0x10ffff < v || (0xd800 ≤ v && v ≤ 0xdfff)
def fin (v m n : Nat) : Option (Nat × Nat) := if badV v m then none else some (v, n)
end LexP
namespace LexP
end LexP
namespace LexP
open NumP
def Pad (P : Bytes) (k : Nat) : Prop := k ≤ P.length ∧ ∃ cs : List C, (∀ c ∈ cs, kd c = 1) ∧ cs.length = k ∧ ∀ r, chars (P ++ r) = cs ++ chars r
theorem Pad.nil : Pad [] 0 := ⟨Nat.le_refl _, [], by simp, rfl, fun r => rfl⟩
theorem Pad.one {P : Bytes} {k : Nat} (h : Pad P k) (b : UInt8) (hb : b = 32 ∨ b = 9) : Pad (P ++ [b]) (k + 1) := by
 obtain ⟨h0, cs, h1, h2, h3⟩ := h
 have hlow : b.toNat < 0x80 := by rcases hb with rfl | rfl <;> decide
 refine ⟨by simp; omega, cs ++ [(some b.toNat, [b])], ?_, by simp [h2], fun r => ?_⟩
 ·intro c hc
  rcases List.mem_append.1 hc with hc | hc
  ·exact h1 c hc
  ·simp only [List.mem_singleton] at hc
   subst hc; rcases hb with rfl | rfl <;> decide
 ·rw [List.append_assoc, h3, List.singleton_append, chars_ascii hlow, List.append_assoc]; rfl
theorem Pad.two {P : Bytes} {k : Nat} (h : Pad P k) : Pad (P ++ [194, 160]) (k + 1) := by
 obtain ⟨h0, cs, h1, h2, h3⟩ := h
 refine ⟨by simp; omega, cs ++ [(some 160, [194, 160])], ?_, by simp [h2], fun r => ?_⟩
 ·intro c hc
  rcases List.mem_append.1 hc with hc | hc
  ·exact h1 c hc
  ·simp only [List.mem_singleton] at hc
   subst hc; decide
 ·have hd : dec (194 :: 160 :: r) = some (160, 2) := by simp [dec, isCont]
  rw [List.append_assoc, h3]
  show cs ++ chars (194 :: 160 :: r) = _
  rw [chars_some hd, List.append_assoc]; rfl
theorem Toks_blanks : ∀ (cs : List C) (col : Nat) (r : List C), (∀ c ∈ cs, kd c = 1) → Toks col (cs ++ r) = Toks (col + cs.length) r := by
 intro cs
 induction cs with
 | nil => intro col r _; rfl
 | cons c cs ih =>
  intro col r h
  rw [List.cons_append, Toks_blank col (h c (by simp)), ih _ _ (fun d hd => h d (by simp [hd])), List.length_cons]
  congr 1; omega
theorem Pad.toks {P : Bytes} {k : Nat} (h : Pad P k) (col : Nat) (r : Bytes) : Toks col (chars (P ++ r)) = Toks (col + k) (chars r) := by
 obtain ⟨h0, cs, h1, h2, h3⟩ := h
 rw [h3, Toks_blanks _ _ _ h1, h2]
theorem Pad.zero {P : Bytes} (h : Pad P 0) : P = [] := by
 obtain ⟨h0, cs, h1, h2, h3⟩ := h
 obtain rfl : cs = [] := List.eq_nil_of_length_eq_zero h2
 have h4 := h3 []
 rw [List.append_nil, chars_nil, List.nil_append] at h4
 have h5 := bytesOf_chars P
 rw [h4] at h5; exact h5.symm
end LexP
namespace SynP
open LexP
def Sfx (s s' : St) : Prop := s'.opened = s.opened ∧ ∃ k, s'.ts = s.ts.drop k
theorem Sfx.refl (s : St) : Sfx s s := ⟨rfl, 0, rfl⟩
theorem Sfx.trans {a b c : St} (h : Sfx a b) (k : Sfx b c) : Sfx a c := ⟨k.1.trans h.1, by
 obtain ⟨i, hi⟩ := h.2
 obtain ⟨j, hj⟩ := k.2
 exact ⟨i + j, by rw [hj, hi, List.drop_drop]⟩⟩
theorem Sfx.adv (s : St) : Sfx s s.adv := ⟨rfl, 1, by show s.ts.tail = _; cases s.ts <;> rfl⟩
def Fit (c : Nat → Bool) (o : Nat) (e : Ex) : Prop := o + e.dp + 1 ≤ 100 ∨ (c e.op = true ∧ o + e.dp ≤ 100)
theorem Fit.mono {c c' : Nat → Bool} {o : Nat} {e : Ex} (h : Fit c o e) (hc : ∀ op, c op = true → c' op = true) : Fit c' o e := h.imp id (fun h => ⟨hc _ h.1, h.2⟩)
theorem Fit.le {c : Nat → Bool} {o : Nat} {e : Ex} (h : Fit c o e) : o + e.dp ≤ 100 := by rcases h with h | h <;> omega
def Ans (c : Nat → Bool) (s : St) (r : Ex × St) : Prop := Sfx s r.2 ∧ r.1.wf ∧ Fit c s.opened r.1
theorem Ans.mono {c c' : Nat → Bool} {s : St} {r : Ex × St} (h : Ans c s r) (hc : ∀ op, c op = true → c' op = true) : Ans c' s r := ⟨h.1, h.2.1, h.2.2.mono hc⟩
theorem Ans.from {c : Nat → Bool} {s s1 : St} {r : Ex × St} (hs : Sfx s s1) (h : Ans c s1 r) : Ans c s r := ⟨hs.trans h.1, h.2.1, by rw [← hs.1]; exact h.2.2⟩
def AnsL (s : St) (r : Exs × St) : Prop := Sfx s r.2 ∧ r.1.wf ∧ s.opened + r.1.dp ≤ 100 ∧ r.1 ≠ .nil
theorem AnsL.from {s s1 : St} {r : Exs × St} (hs : Sfx s s1) (h : AnsL s1 r) : AnsL s r := ⟨hs.trans h.1, h.2.1, by rw [← hs.1]; exact h.2.2.1, h.2.2.2⟩
theorem done_ok {α : Type} {fin : Nat} {a : α} {s : St} {r : α × St} (h : done fin a s = some (.ok r)) : r = (a, s) := by
 unfold done at h
 split at h
 ·exact ret_ok h
 ·exact (fault_ok h).elim
theorem toks_text : ∀ (n : Nat) (cs : List C) (col : Nat) (ts : List Tok), cs.length ≤ n → Toks col cs = .ok ts → ∀ t ∈ ts, t.1 = 1 → t.2.1.length ≤ (bytesOf cs).length := by
 intro n
 induction n with
 | zero =>
  intro cs col ts hl h
  rw [List.eq_nil_of_length_eq_zero (Nat.le_zero.1 hl), Toks_nil] at h
  cases h
  intro t ht; cases ht
 | succ n ih =>
  intro cs col ts hl h
  cases cs with
  | nil =>
   rw [Toks_nil] at h
   cases h
   intro t ht; cases ht
  | cons c cs =>
   have step : ∀ (k col : Nat) (m : List Tok), 1 ≤ k → Toks col ((c :: cs).drop k) = .ok m → ∀ t ∈ m, t.1 = 1 → t.2.1.length ≤ (bytesOf (c :: cs)).length := by
    intro k col m hk hm t ht h1
    have e := congrArg List.length (bytes_split k (c :: cs))
    rw [List.length_append] at e
    have := ih _ _ _ (by rw [List.length_drop]; omega) hm t ht h1
    omega
   have hk := kd_le c
   by_cases k0 : kd c = 0
   ·rw [Toks_bad _ k0] at h; cases h
   by_cases k1 : kd c = 1
   ·rw [Toks_blank _ k1] at h
    exact step 1 _ _ (Nat.le_refl _) h
   by_cases k2 : kd c = 2
   ·rw [Toks_hash _ k2] at h
    split at h
    ·cases h
    ·cases h
     intro t ht; cases ht
   by_cases k3 : kd c = 3
   ·rw [Toks_num _ k3] at h
    split at h
    ·cases h
    ·obtain ⟨m, hm, rfl⟩ := after_mem h
     have := step _ _ _ (runLen_pos (p := isNum) (c := c) (cs := cs) (by simp [isNum, k3])) hm
     intro t ht h1
     rcases List.mem_cons.1 ht with rfl | ht
     ·exact bytes_len _ _
     ·exact this t ht h1
   by_cases k4 : kd c = 4
   ·rw [Toks_name _ k4] at h
    split at h
    ·cases h
    ·obtain ⟨m, hm, rfl⟩ := after_mem h
     have := step _ _ _ (runLen_pos (p := isAl) (c := c) (cs := cs) (by simp [isAl, k4])) hm
     intro t ht h1
     rcases List.mem_cons.1 ht with rfl | ht
     ·cases h1
     ·exact this t ht h1
   by_cases k5 : kd c = 5
   ·rw [Toks_mark _ k5] at h
    obtain ⟨m, hm, rfl⟩ := after_mem h
    have := step 1 _ _ (Nat.le_refl _) hm
    intro t ht h1
    rcases List.mem_cons.1 ht with rfl | ht
    ·cases h1
    ·exact this t ht h1
   ·rw [Toks_other _ (by omega)] at h; cases h
end SynP
namespace SynP
open LexP
section
variable {φ : Nat → Nat} {α β : Type}
end
end SynP
namespace SynP
open LexP
theorem after_ok {r : Res} {t : List Tok} {ts : List Tok} (h : r.after t = .ok ts) : ∃ m, r = .ok m ∧ ts = t ++ m := by
 cases r with
 | error e => cases h
 | ok m => exact ⟨m, rfl, by simpa [Res.after] using h.symm⟩
theorem notBad_kd {c : C} (h : kd c ≠ 0) : notBad c = true := by simp [notBad, h]
theorem Toks_clean : ∀ (A : List C) (col : Nat) (ts : List Tok), Toks col A = .ok ts → A.all notBad = true := by
 intro A col ts h
 refine (Toks_ind (P := fun _ A r => (∃ l, r = Except.ok l) → A.all notBad = true) ?_ ?_ ?_ ?_ ?_ A col) ⟨ts, h⟩
 ·intro _ _; rfl
 ·intro col c A hk ih hr
  rw [List.all_cons, ih hr, notBad_kd (by omega)]; rfl
 ·intro col c A hk hr
  obtain ⟨l, hl⟩ := hr
  split at hl
  ·cases hl
  ·rename_i hn
   have h1 := runLen_le notBad (c :: A)
   have h2 := takeWhile_all (p := notBad) (c :: A)
   rw [show runLen notBad (c :: A) = (c :: A).length from by omega, List.take_length] at h2
   exact List.all_eq_true.2 h2
 ·intro col c A e _ _ _ hr
  obtain ⟨l, hl⟩ := hr
  cases hl
 ·intro col c A n k t _ _ _ h1 h2 h3 ih hr
  obtain ⟨l, hl⟩ := hr
  obtain ⟨m, hm, -⟩ := after_ok hl
  have h4 := ih ⟨m, hm⟩
  rw [← List.take_append_drop n (c :: A), List.all_append, h4, List.all_eq_true.2 h3]; rfl
def parseV (l : Bytes) : Except (Nat × Nat) Ln :=
 match Toks 1 (chars l) with
 | .error e => .error e
 | .ok ts =>
  match line ((chars l).length + 1) (10 * ts.length + 9) ⟨ts, 0⟩ with
  | none => .error (0, 0)
  | some (.error e) => .error e
  | some (.ok (n, _)) => if 4096 < n.size then .error (1, 5) else .ok n
theorem parseV_tok {l : Bytes} {e : Nat × Nat} (h : Toks 1 (chars l) = .error e) : parseV l = .error e := by unfold parseV; rw [h]
theorem parseV_err {l : Bytes} {ts : List Tok} {e : Nat × Nat} (h : Toks 1 (chars l) = .ok ts) (k : line ((chars l).length + 1) (10 * ts.length + 9) ⟨ts, 0⟩ = some (.error e)) : parseV l = .error e := by
 unfold parseV; rw [h]; simp only [k]
theorem parseV_ok {l : Bytes} {ts : List Tok} {n : Ln} {s : St} (h : Toks 1 (chars l) = .ok ts) (k : line ((chars l).length + 1) (10 * ts.length + 9) ⟨ts, 0⟩ = some (.ok (n, s))) : parseV l = if 4096 < n.size then .error (1, 5) else .ok n := by
 unfold parseV; rw [h]; simp only [k]
end SynP
namespace SynP
open LexP
end SynP
namespace SynP
open LexP
def readM (t : Bytes) : Except Nat MatV :=
 match Toks 1 (chars t) with
 | .error _ => .error 7
 | .ok ts =>
  match (matrix ((chars t).length + 1) (ts.length + 3) ⟨ts, 0⟩).bind fun m s => done ((chars t).length + 1) m s with
  | none => .error 0
  | some (.error (_, k)) => .error (if k = 2 ∨ k = 5 then k else 7)
  | some (.ok (m, _)) => .ok m
theorem readM_ok {t : Bytes} {m : MatV} (h : readM t = .ok m) : MatOk m := by
 unfold readM at h
 split at h
 ·cases h
 ·split at h
  ·cases h
  ·cases h
  ·rename_i m' s' he
   cases h
   obtain ⟨a, s, h1, h2⟩ := bind_ok he
   have := done_ok h2
   cases this
   exact matrix_ok h1
end SynP
namespace SynP
open LexP
inductive Vl where
 | num (p : Bool × Nat) | mat (m : MatV) | cpx (l : List (List Nat))
def zi (p : Bool × Nat) : Int := if p.1 then -(p.2 : Int) else p.2
def iz (z : Int) : Bool × Nat := (decide (z < 0), z.natAbs)
theorem zi_iz (z : Int) : zi (iz z) = z := by
 unfold zi iz
 by_cases h : z < 0
 ·rw [show decide (z < 0) = true from decide_eq_true h, if_pos rfl]; omega
 ·rw [show decide (z < 0) = false from decide_eq_false h, if_neg (by simp)]; omega
def bitsV : Nat → Nat := fun n => if n = 0 then 0 else n.log2 + 1
def ent (m : MatV) (k : Nat) : Bool × Nat := m.at_.getD k (false, 0)
def mbits (m : MatV) : Nat := m.at_.foldl (fun a p => max a (bitsV p.2)) 0
def dotK (a b : MatV) (i j : Nat) : Nat → Int
 | 0 => 0
 | k + 1 => zi (ent a (i * a.cols + k)) * zi (ent b (k * b.cols + j)) + dotK a b i j k
def mulM (a b : MatV) : MatV := ⟨a.rows, b.cols, (List.range (a.rows * b.cols)).map fun t => iz (dotK a b (t / b.cols) (t % b.cols) a.cols)⟩
def mulV (a b : MatV) : Except Nat Vl :=
 if a.cols ≠ b.rows then .error 2 else if 4096 < mbits a + mbits b + bitsV a.cols then .error 5 else .ok (.mat (mulM a b))
def atS {α : Type} : List (List UInt8 × α) → List UInt8 → Option (Nat × α)
 | [], _ => none
 | (y, v) :: l, x => if x = y then some (0, v) else (atS l x).map fun p => (p.1 + 1, p.2)
def putS {α : Type} (l : List (List UInt8 × α)) (x : List UInt8) (v : α) : List (List UInt8 × α) :=
 match atS l x with
 | some (i, _) => l.set i (x, v)
 | none => l ++ [(x, v)]
abbrev Nms := List (Bytes × Vl)
def Nms.get (l : Nms) (x : Bytes) : Option Vl := (atS l x).map (·.2)
def kidV (vs : List Vl) (n : Node) (i : Nat) : Option Vl := (n.kids[i]?).bind fun k => vs[k]?
def nodeV (t : Nms) (vs : List Vl) (n : Node) : Except Nat Vl :=
 match n.op with
 | 3 => (readM n.text).map .mat
 | 2 => match t.get n.text with
  | some v => .ok v
  | none => .error 15
 | 8 => match kidV vs n 0, kidV vs n 1 with
  | some (.mat a), some (.mat b) => mulV a b
  | _, _ => .error 0
 | _ => .error 0
def nodesV (t : Nms) : List Node → List Vl → Except Nat (List Vl)
 | [], vs => .ok vs
 | n :: l, vs => match nodeV t vs n with
  | .ok v => nodesV t l (vs ++ [v])
  | .error e => .error e
end SynP
namespace Go.Proofs.YtceggplnggkdnaaGreatDoor
open Go.Maps Go.RowKit Go.ChangeMaps SynP
def EsR {α : Type} (R : Value → α → Prop) : List MapEntry → List (List UInt8 × α) → Prop
 | [], [] => True
 | e :: es, p :: xs => (e.key = .string ⟨p.1.toArray⟩ ∧ R e.val p.2) ∧ EsR R es xs
 | _, _ => False
theorem ba_inj {x y : List UInt8} (h : (⟨x.toArray⟩ : ByteArray) = ⟨y.toArray⟩) : x = y := by
 have := congrArg (fun b : ByteArray => b.data.toList) h
 simpa using this
theorem findNow_es {α : Type} {R : Value → α → Prop} : ∀ (es : List MapEntry) (xs : List (List UInt8 × α)) (x : List UInt8) (i : Nat), EsR R es xs →
  (∃ v u, atS xs x = some (v, u) ∧ ∃ e, es[v]? = some e ∧ e.key = .string ⟨x.toArray⟩ ∧ R e.val u ∧ Instr.findNow .string (.string ⟨x.toArray⟩) es i = some (some (i + v, e.val))) ∨
  (atS xs x = none ∧ Instr.findNow .string (.string ⟨x.toArray⟩) es i = some none)
 | [], [], x, i, h => .inr ⟨rfl, rfl⟩
 | [], _ :: _, x, i, h => h.elim
 | _ :: _, [], x, i, h => h.elim
 | e :: es, (y, u) :: xs, x, i, ⟨⟨hk, hR⟩, h2⟩ => by
   simp only at hk hR
   by_cases hxy : x = y
   ·subst hxy
    refine .inl ⟨0, u, by simp [atS], e, rfl, hk, hR, ?_⟩
    have hse : ((⟨x.toArray⟩ : ByteArray) == ⟨x.toArray⟩) = true := (MapKept.bytes_beq _ _).2 rfl
    simp [Instr.findNow, hk, Instr.sameNow, hse]
   ·have hne : ((⟨x.toArray⟩ : ByteArray) == ⟨y.toArray⟩) = false := by
     cases hb : ((⟨x.toArray⟩ : ByteArray) == ⟨y.toArray⟩) with
     | false => rfl
     | true => exact absurd (ba_inj ((MapKept.bytes_beq _ _).1 hb)) hxy
    rcases findNow_es es xs x (i + 1) h2 with ⟨v, u', h3, e', h4, h5, h6, h7⟩ | ⟨h3, h4⟩
    ·refine .inl ⟨v + 1, u', by simp [atS, hxy, h3], e', by simpa using h4, h5, h6, ?_⟩
     simp only [Instr.findNow, hk, Instr.sameNow, hne]
     rw [h7]; simp only [Option.some.injEq, Prod.mk.injEq, and_true]; omega
    ·refine .inr ⟨by simp [atS, hxy, h3], ?_⟩
     simp only [Instr.findNow, hk, Instr.sameNow, hne]
     exact h4
theorem run_findKey_s {P : Program} {k : TypeId} (hk : P.underlying k = some .string) {w : World} {x : Value} {es : List MapEntry} {r : Option (Nat × Value)} (h : Instr.findNow .string x es 0 = some r) :
  (Instr.findKey k x es).run P w = .ok r w := by
 unfold Instr.findKey
 simp [run_underlying hk, h, Result.andThen]
theorem run_checkKey_s {P : Program} {k : TypeId} (hk : P.underlying k = some .string) {w : World} (c : Bool) (s : ByteArray) : (Instr.checkKey c 10000 k (.string s)).run P w = .ok () w := by
 unfold Instr.checkKey
 simp [run_underlying hk, Result.andThen]
theorem run_look_s {P : Program} {t k e : TypeId} (ht : P.underlying t = some (.map k e)) (hk : P.underlying k = some .string) {α : Type} {R : Value → α → Prop} {w : World} {b clock : Nat} {es : Array MapEntry} (hb : w.heap[b]? = some (.map es clock))
  {xs : List (List UInt8 × α)} (hes : EsR R es.toList xs) {z : Value} (hz : (zeroValue e).run P w = .ok z w) (x : List UInt8) :
  (∃ i u v, atS xs x = some (i, u) ∧ R v u ∧ (Instr.lookup t (.map (some b)) (.string ⟨x.toArray⟩) true).run P w = .ok (.tuple #[v, .bool true]) w) ∨
  (atS xs x = none ∧ (Instr.lookup t (.map (some b)) (.string ⟨x.toArray⟩) true).run P w = .ok (.tuple #[z, .bool false]) w) := by
 rcases findNow_es es.toList xs x 0 hes with ⟨i, u, h1, e0, h2, h3, h4, h5⟩ | ⟨h1, h2⟩
 ·refine .inl ⟨i, u, e0.val, h1, h4, ?_⟩
  simp [Instr.lookup, run_underlying ht, MapKept.run_getObj_map hb, run_checkKey_s hk, run_findKey_s hk h5, Result.andThen]
 ·refine .inr ⟨h1, ?_⟩
  simp [Instr.lookup, run_underlying ht, MapKept.run_getObj_map hb, run_checkKey_s hk, run_findKey_s hk h2, hz, Result.andThen]
theorem EsR.length {α : Type} {R : Value → α → Prop} : ∀ {es : List MapEntry} {xs : List (List UInt8 × α)}, EsR R es xs → es.length = xs.length
 | [], [], _ => rfl
 | [], _ :: _, h => h.elim
 | _ :: _, [], h => h.elim
 | _ :: es, _ :: xs, h => by simp [EsR.length h.2]
theorem EsR.mono {α : Type} {R R' : Value → α → Prop} (hR : ∀ v u, R v u → R' v u) : ∀ {es : List MapEntry} {xs : List (List UInt8 × α)}, EsR R es xs → EsR R' es xs
 | [], [], _ => trivial
 | [], _ :: _, h => h.elim
 | _ :: _, [], h => h.elim
 | _ :: es, _ :: xs, h => ⟨⟨h.1.1, hR _ _ h.1.2⟩, EsR.mono hR h.2⟩
theorem EsR.snoc {α : Type} {R : Value → α → Prop} : ∀ {es : List MapEntry} {xs : List (List UInt8 × α)}, EsR R es xs → ∀ {e : MapEntry} {x : List UInt8} {u : α}, e.key = .string ⟨x.toArray⟩ → R e.val u → EsR R (es ++ [e]) (xs ++ [(x, u)])
 | [], [], _, _, _, _, h1, h2 => ⟨⟨h1, h2⟩, trivial⟩
 | [], _ :: _, h, _, _, _, _, _ => h.elim
 | _ :: _, [], h, _, _, _, _, _ => h.elim
 | _ :: es, _ :: xs, h, _, _, _, h1, h2 => ⟨h.1, EsR.snoc h.2 h1 h2⟩
theorem EsR.set {α : Type} {R : Value → α → Prop} : ∀ {es : List MapEntry} {xs : List (List UInt8 × α)}, EsR R es xs → ∀ (i : Nat) {e : MapEntry} {x : List UInt8} {u : α}, e.key = .string ⟨x.toArray⟩ → R e.val u → EsR R (es.set i e) (xs.set i (x, u))
 | [], [], _, _, _, _, _, _, _ => trivial
 | [], _ :: _, h, _, _, _, _, _, _ => h.elim
 | _ :: _, [], h, _, _, _, _, _, _ => h.elim
 | _ :: es, _ :: xs, h, 0, _, _, _, h1, h2 => ⟨⟨h1, h2⟩, h.2⟩
 | _ :: es, _ :: xs, h, i + 1, _, _, _, h1, h2 => ⟨h.1, EsR.set h.2 i h1 h2⟩
theorem stays_s {P : Program} (w : World) (s : ByteArray) : (Instr.keyThatStays (.string s) (.string s)).run P w = .ok (.string s) w := by
 have hse : (s == s) = true := (MapKept.bytes_beq _ _).2 rfl
 simp [Instr.keyThatStays, Instr.sameBits, hse]
theorem run_store_s {P : Program} {t k e : TypeId} (ht : P.underlying t = some (.map k e)) (hk : P.underlying k = some .string) {α : Type} {R : Value → α → Prop} {w : World} {b clock : Nat} {es : Array MapEntry} (hb : w.heap[b]? = some (.map es clock))
  {xs : List (List UInt8 × α)} (hes : EsR R es.toList xs) (x : List UInt8) {v : Value} {u : α} (hv : R v u) :
  ∃ es' clock', (Instr.mapUpdate t (.map (some b)) (.string ⟨x.toArray⟩) v).run P w = .ok () (setBlock w b (.map es' clock')) ∧ EsR R es'.toList (putS xs x u) := by
 rcases findNow_es es.toList xs x 0 hes with ⟨i, u', h1, e0, h2, h3, h4, h5⟩ | ⟨h1, h2⟩
 ·have hj : es[i]? = some e0 := by simpa using h2
  refine ⟨es.modify i (fun e' => { e' with key := .string ⟨x.toArray⟩, val := v }), clock, ?_, ?_⟩
  ·simp [Instr.mapUpdate, run_underlying ht, MapKept.run_getObj_map hb, run_checkKey_s hk, run_findKey_s hk h5, hj, h3, stays_s, MapKept.run_setObj_map _ hb, Result.andThen, setBlock]
  ·unfold putS
   rw [h1]
   have hlist : (es.modify i (fun e' => { e' with key := .string ⟨x.toArray⟩, val := v })).toList = es.toList.set i { e0 with key := .string ⟨x.toArray⟩, val := v } := by rw [Array.toList_modify, modify_eq_set _ _ _ _ h2]
   rw [hlist]
   exact hes.set i rfl hv
 ·refine ⟨es.push ⟨.string ⟨x.toArray⟩, v, clock⟩, clock + 1, ?_, ?_⟩
  ·simp [Instr.mapUpdate, run_underlying ht, MapKept.run_getObj_map hb, run_checkKey_s hk, run_findKey_s hk h2, MapKept.run_setObj_map _ hb, Result.andThen, setBlock]
  ·unfold putS
   rw [h1, Array.toList_push]
   exact hes.snoc rfl hv
theorem grown_setBlock {w : World} {b clock : Nat} {es : Array MapEntry} (hb : w.heap[b]? = some (.map es clock)) (o : Obj) : w.grownBy (setBlock w b o) (some b) :=
 ⟨rfl, rfl, rfl, by simp [setBlock], fun i _ hi => heap_setBlock_other hb _ (fun e => hi (by rw [e]))⟩
end Go.Proofs.YtceggplnggkdnaaGreatDoor
namespace NatP
section guess
variable {W u0 v1 v0 d rest : Nat}
theorem gq_mul : d * (v1 * BB + v0) = d * v1 * BB + d * v0 := by rw [Nat.mul_add, Nat.mul_assoc]
theorem gq_exit (h : d * v1 + rest = W) (hd : d < BB) (ht : d * v0 ≤ rest * BB + u0) (hg : gq (W * BB + u0) (v1 * BB + v0) ≤ d) (hv : 0 < v1) : gq (W * BB + u0) (v1 * BB + v0) = d := by
 have hV : 0 < v1 * BB + v0 := by have := Nat.mul_pos hv BB_pos; omega
 refine Nat.le_antisymm hg ?_
 unfold gq
 refine Nat.le_min.2 ⟨by omega, ?_⟩
 rw [Nat.le_div_iff_mul_le hV, gq_mul, ← h, Nat.add_mul]
 omega
theorem gq_step (h : d * v1 + rest = W) (ht : rest * BB + u0 < d * v0) (hv : 0 < v1) : gq (W * BB + u0) (v1 * BB + v0) ≤ d - 1 := by
 have hV : 0 < v1 * BB + v0 := by have := Nat.mul_pos hv BB_pos; omega
 refine Nat.le_trans (Nat.min_le_right _ _) ?_
 have : (W * BB + u0) / (v1 * BB + v0) < d := by
  rw [Nat.div_lt_iff_lt_mul hV, gq_mul, ← h, Nat.add_mul]
  omega
 omega
theorem gq_over (h : d * v1 + rest = W) (hd : d < BB) (hv0 : v0 < BB) (hr : BB ≤ rest) (hg : gq (W * BB + u0) (v1 * BB + v0) ≤ d) (hv : 0 < v1) : gq (W * BB + u0) (v1 * BB + v0) = d := by
 refine gq_exit h hd ?_ hg hv
 have h1 : d * v0 ≤ BB * BB := Nat.mul_le_mul (by omega) (by omega)
 have h2 : BB * BB ≤ rest * BB := Nat.mul_le_mul_right _ hr
 omega
theorem gq_start (hu : u0 < BB) (hv : 0 < v1) : gq (W * BB + u0) (v1 * BB + v0) ≤ W / v1 := by
 have hV : 0 < v1 * BB + v0 := by have := Nat.mul_pos hv BB_pos; omega
 refine Nat.le_trans (Nat.min_le_right _ _) ?_
 have : (W * BB + u0) / (v1 * BB + v0) < W / v1 + 1 := by
  rw [Nat.div_lt_iff_lt_mul hV, gq_mul]
  have h1 : W < (W / v1 + 1) * v1 := by
   have := Nat.lt_div_mul_add (a := W) hv
   rw [Nat.add_mul, Nat.one_mul]; omega
  have h2 : (W + 1) * BB ≤ (W / v1 + 1) * v1 * BB := Nat.mul_le_mul_right _ h1
  rw [Nat.add_mul, Nat.one_mul] at h2
  omega
 omega
theorem gq_top : gq (W * BB + u0) (v1 * BB + v0) ≤ BB - 1 := Nat.min_le_left _ _
end guess
theorem take_step {A A' P d Vi vi ui u' carry lent hi lo lo2 c lent' : Nat} (hm : hi * BB + lo = d * vi) (ha : lo + carry = lo2 + c * BB) (hs : ui + lent' * BB = u' + lo2 + lent)
  (h : A + P * (carry + lent) = A' + d * Vi) : A + P * ui + P * BB * (hi + c + lent') = A' + P * u' + d * (Vi + P * vi) := by
 have e1 : ui + BB * (hi + c + lent') = u' + lent + carry + d * vi := by
  rw [Nat.mul_add, Nat.mul_add, Nat.mul_comm BB hi, Nat.mul_comm BB c, Nat.mul_comm BB lent']; omega
 have e2 : P * ui + P * BB * (hi + c + lent') = P * (ui + BB * (hi + c + lent')) := by rw [Nat.mul_add P ui (BB * (hi + c + lent')), Nat.mul_assoc]
 have e3 : P * (u' + lent + carry + d * vi) = P * u' + P * (carry + lent) + d * (P * vi) := by
  rw [show u' + lent + carry + d * vi = u' + (carry + lent) + d * vi from by omega, Nat.mul_add, Nat.mul_add, ← Nat.mul_assoc, Nat.mul_comm P d, Nat.mul_assoc]
 have e4 : d * (Vi + P * vi) = d * Vi + d * (P * vi) := Nat.mul_add _ _ _
 rw [Nat.add_assoc, e2, e1, e3, e4]
 omega
theorem take_carry {d vi carry hi lo lo2 c : Nat} (hd : d < BB) (hv : vi < BB) (hc : carry < BB) (hm : hi * BB + lo = d * vi) (ha : lo + carry = lo2 + c * BB) : hi + c < BB := by
 have h1 : d * vi ≤ (BB - 1) * (BB - 1) := Nat.mul_le_mul (by omega) (by omega)
 have h2 : (BB - 1) * (BB - 1) + (BB - 1) = (BB - 1) * BB := by
  have : BB = BB - 1 + 1 := by have := BB_pos; omega
  conv => rhs; rw [this]
  rw [Nat.add_sub_cancel, Nat.mul_add, Nat.mul_one]
 have h3 : (hi + c) * BB ≤ (BB - 1) * BB := by rw [Nat.add_mul]; omega
 have h4 := Nat.le_of_mul_le_mul_right h3 BB_pos
 have := BB_pos
 omega
theorem word_fit {U V R g T lent : Nat} (h1 : U / V ≤ g) (hV : 0 < V) (h : U + T * lent = R + g * V) (hl : lent = 0) : g = U / V ∧ R = U % V := by
 subst hl
 rw [Nat.mul_zero, Nat.add_zero] at h
 have h2 : g ≤ U / V := (Nat.le_div_iff_mul_le hV).2 (by omega)
 have h3 : g = U / V := Nat.le_antisymm h2 h1
 refine ⟨h3, ?_⟩
 have := Nat.div_add_mod U V
 rw [Nat.mul_comm, ← h3] at this
 omega
theorem word_back {U V R g T : Nat} (h1 : U / V ≤ g) (h2 : g ≤ U / V + 1) (hV : 0 < V) (hR : R < T) (h : U + T = R + g * V) : g - 1 = U / V ∧ R + V = U % V + T := by
 have h3 : ¬ g = U / V := fun e => by
  have := Nat.div_mul_le_self U V
  rw [← e] at this; omega
 have h4 : g = U / V + 1 := by omega
 refine ⟨by rw [h4, Nat.add_sub_cancel], ?_⟩
 rw [h4, Nat.add_mul, Nat.one_mul] at h
 have := Nat.div_add_mod U V
 rw [Nat.mul_comm] at this
 omega
end NatP
namespace NatP
theorem dg_exit {W u1 v1 v0 d rest b : Nat} (h : d * v1 + rest = W) (ht : d * v0 ≤ rest * b + u1) (hg : (W * b + u1) / (v1 * b + v0) ≤ d) (hv : 0 < v1 * b + v0) : (W * b + u1) / (v1 * b + v0) = d := by
 refine Nat.le_antisymm hg ?_
 rw [Nat.le_div_iff_mul_le hv, Nat.mul_add, ← h, Nat.add_mul, ← Nat.mul_assoc]
 omega
theorem dg_step {W u1 v1 v0 d rest b : Nat} (h : d * v1 + rest = W) (ht : rest * b + u1 < d * v0) (hv : 0 < v1 * b + v0) : (W * b + u1) / (v1 * b + v0) ≤ d - 1 := by
 have : (W * b + u1) / (v1 * b + v0) < d := by
  rw [Nat.div_lt_iff_lt_mul hv, Nat.mul_add, ← h, Nat.add_mul, ← Nat.mul_assoc]
  omega
 omega
theorem dg_start {W u1 v1 v0 b : Nat} (hu : u1 < b) (hv : 0 < v1) : (W * b + u1) / (v1 * b + v0) ≤ W / v1 := by
 have hb : 0 < b := by omega
 have hV : 0 < v1 * b + v0 := by have := Nat.mul_pos hv hb; omega
 have : (W * b + u1) / (v1 * b + v0) < W / v1 + 1 := by
  rw [Nat.div_lt_iff_lt_mul hV, Nat.mul_add, ← Nat.mul_assoc]
  have h1 : W < (W / v1 + 1) * v1 := by
   have := Nat.lt_div_mul_add (a := W) hv
   rw [Nat.add_mul, Nat.one_mul]; omega
  have h2 : (W + 1) * b ≤ (W / v1 + 1) * v1 * b := Nat.mul_le_mul_right _ h1
  rw [Nat.add_mul, Nat.one_mul] at h2
  omega
 omega
theorem dg_lt_base {W u1 V b : Nat} (hW : W < V) (hu : u1 < b) : (W * b + u1) / V < b := by
 rw [Nat.div_lt_iff_lt_mul (by omega)]
 have : (W + 1) * b ≤ V * b := Nat.mul_le_mul_right _ hW
 rw [Nat.add_mul, Nat.one_mul, Nat.mul_comm V b] at this
 omega
theorem two_digits {N V b W u1 u0 : Nat} (hb : 0 < b) (hV : 0 < V) (hN : N = (W * b + u1) * b + u0) :
  N / V = (W * b + u1) / V * b + ((W * b + u1) % V * b + u0) / V ∧ N % V = ((W * b + u1) % V * b + u0) % V := by
 have h1 := Nat.div_add_mod (W * b + u1) V
 generalize (W * b + u1) / V = q at *
 generalize (W * b + u1) % V = r at *
 have e : N = V * (q * b) + (r * b + u0) := by rw [hN, ← h1, Nat.add_mul, Nat.mul_assoc, Nat.add_assoc]
 rw [e]
 exact ⟨Nat.mul_add_div hV _ _, Nat.mul_add_mod _ _ _⟩
theorem shift_words {hi lo P S T : Nat} (hS : 0 < S) (hT : T = P * S) : (hi * T + lo) * S = (hi * S + lo / P) * T + lo * S % T := by
 have h1 : lo * S / T = lo / P := by rw [hT]; exact Nat.mul_div_mul_right _ _ hS
 have h2 := Nat.div_add_mod (lo * S) T
 rw [h1, Nat.mul_comm T] at h2
 rw [Nat.add_mul, Nat.add_mul, Nat.add_assoc, h2, Nat.mul_right_comm]
theorem shift_back {N y S : Nat} (hS : 0 < S) : N / y = N * S / (y * S) ∧ N % y = N * S % (y * S) / S := by
 refine ⟨(Nat.mul_div_mul_right _ _ hS).symm, ?_⟩
 rw [Nat.mul_mod_mul_right, Nat.mul_div_cancel _ hS]
theorem shift_lt {hi lo y P S T : Nat} (hP : 0 < P) (hT : T = P * S) (hh : hi < y) (hlo : lo < T) : hi * S + lo / P < y * S := by
 have h1 : lo / P < S := by rw [Nat.div_lt_iff_lt_mul hP, Nat.mul_comm, ← hT]; exact hlo
 have h2 : (hi + 1) * S ≤ y * S := Nat.mul_le_mul_right _ hh
 rw [Nat.add_mul, Nat.one_mul] at h2
 omega
end NatP
namespace LexP
open Go Go.RowKit
def chCells : Nat → List C → List Value
 | _, [] => []
 | p, c :: cs => .int .i64 (kd c : Nat) :: .int .i32 (rn c : Nat) :: .int .i64 (p : Nat) :: chCells (p + c.2.length) cs
theorem chCells_append : ∀ (a b : List C) (p : Nat), chCells p (a ++ b) = chCells p a ++ chCells (p + (bytesOf a).length) b := by
 intro a
 induction a with
 | nil => intro b p; simp [chCells, bytesOf]
 | cons c cs ih => intro b p; simp [chCells, bytesOf, ih, Nat.add_assoc]
theorem chCells_one (p : Nat) (c : C) : chCells p [c] = [.int .i64 (kd c : Nat), .int .i32 (rn c : Nat), .int .i64 (p : Nat)] := rfl
theorem chCells_at : ∀ (a : List C) (p k : Nat) (c : C), a[k]? = some c →
  (chCells p a)[k * 3]? = some (.int .i64 (kd c : Nat)) ∧ (chCells p a)[k * 3 + 1]? = some (.int .i32 (rn c : Nat)) ∧
  (chCells p a)[k * 3 + 2]? = some (.int .i64 (p + (bytesOf (a.take k)).length : Nat)) := by
 intro a
 induction a with
 | nil => intro p k c h; simp at h
 | cons d cs ih =>
  intro p k c h
  cases k with
  | zero => simp at h; subst h; simp [chCells, bytesOf]
  | succ k =>
   simp only [List.getElem?_cons_succ] at h
   obtain ⟨h1, h2, h3⟩ := ih (p + d.2.length) k c h
   have e0 : (k + 1) * 3 = k * 3 + 1 + 1 + 1 := by omega
   have e1 : (k + 1) * 3 + 1 = k * 3 + 1 + 1 + 1 + 1 := by omega
   have e2 : (k + 1) * 3 + 2 = k * 3 + 2 + 1 + 1 + 1 := by omega
   refine ⟨?_, ?_, ?_⟩
   ·rw [e0]; simp only [chCells, List.getElem?_cons_succ]; exact h1
   ·rw [e1]; simp only [chCells, List.getElem?_cons_succ]; exact h2
   ·rw [e2]; simp only [chCells, List.getElem?_cons_succ, List.take_succ_cons, bytesOf, List.flatMap_cons, List.length_append]; rw [h3]; simp only [bytesOf, Nat.add_assoc]
def tkCells (l : List Tok) : List Value := l.flatMap fun t => [.int .i64 (t.1 : Nat), .string ⟨t.2.1.toArray⟩, .int .i64 (t.2.2 : Nat)]
theorem tkCells_append (a b : List Tok) : tkCells (a ++ b) = tkCells a ++ tkCells b := by simp [tkCells]
theorem tkCells_at : ∀ (a : List Tok) (k : Nat) (t : Tok), a[k]? = some t →
  (tkCells a)[k * 3]? = some (.int .i64 (t.1 : Nat)) ∧ (tkCells a)[k * 3 + 1]? = some (.string ⟨t.2.1.toArray⟩) ∧ (tkCells a)[k * 3 + 2]? = some (.int .i64 (t.2.2 : Nat)) := by
 intro a
 induction a with
 | nil => intro k t h; simp at h
 | cons d cs ih =>
  intro k t h
  cases k with
  | zero => simp at h; subst h; simp [tkCells]
  | succ k =>
   simp only [List.getElem?_cons_succ] at h
   obtain ⟨h1, h2, h3⟩ := ih k t h
   have e0 : (k + 1) * 3 = k * 3 + 1 + 1 + 1 := by omega
   have e1 : (k + 1) * 3 + 1 = k * 3 + 1 + 1 + 1 + 1 := by omega
   have e2 : (k + 1) * 3 + 2 = k * 3 + 2 + 1 + 1 + 1 := by omega
   have ec : tkCells (d :: cs) = .int .i64 (d.1 : Nat) :: .string ⟨d.2.1.toArray⟩ :: .int .i64 (d.2.2 : Nat) :: tkCells cs := rfl
   refine ⟨?_, ?_, ?_⟩
   ·rw [e0, ec]; simp only [List.getElem?_cons_succ]; exact h1
   ·rw [e1, ec]; simp only [List.getElem?_cons_succ]; exact h2
   ·rw [e2, ec]; simp only [List.getElem?_cons_succ]; exact h3
theorem ownsRow_mono {w : World} {b b' : Nat} {e : TypeId} {size : Nat} {v : Value} {n : Nat} {xs : List Value} (h : w.ownsRow b e size v n xs) (hb : b' ≤ b) : w.ownsRow b' e size v n xs := by
 refine ⟨h.1, ?_⟩
 rcases h.2 with h2 | ⟨g, cap, cur, hv, hg, r⟩
 ·exact .inl h2
 ·exact .inr ⟨g, cap, cur, hv, Nat.le_trans hb hg, r⟩
theorem ownsRow_below {w w' : World} {b B : Nat} {e : TypeId} {size : Nat} {v : Value} {n : Nat} {xs : List Value} (h : w.ownsRow b e size v n xs) (hb : Below B w w') (hB : w.heap.size ≤ B) : w'.ownsRow b e size v n xs := by
 refine ⟨h.1, ?_⟩
 rcases h.2 with h2 | ⟨g, cap, cur, hv, hg, hh, r⟩
 ·exact .inl h2
 ·have hlt : g < w.heap.size := (Array.getElem?_eq_some_iff.1 hh).1
  exact .inr ⟨g, cap, cur, hv, hg, by rw [hb.block g (by omega)]; exact hh, r⟩
theorem ownsRow_open {w : World} {b : Nat} {e : TypeId} {size : Nat} {v : Value} {n : Nat} {xs : List Value} (h : w.ownsRow b e size v n xs) :
  (v = .slice none 0 0 ∧ n = 0 ∧ xs = []) ∨ ∃ g cap, v = .slice (some ⟨g, 0, none⟩) n cap ∧ b ≤ g ∧ g < w.heap.size ∧ n ≤ cap ∧ cap ≤ maxLen ∧ ∀ j, j < n * size → w.cell? ⟨g, j, none⟩ = xs[j]? := by
 rcases h.2 with ⟨rfl, rfl⟩ | ⟨g, cap, cur, rfl, hg, hh, hn, hc, _⟩
 ·exact .inl ⟨rfl, rfl, List.eq_nil_of_length_eq_zero (by simpa using h.1)⟩
 ·exact .inr ⟨g, cap, rfl, hg, (Array.getElem?_eq_some_iff.1 hh).1, hn, hc, fun j hj => h.cellAt j hj⟩
theorem cells_new (w : World) (cs : List Value) (t : TypeId) (n : Nat) (hn : n = w.heap.size) : ∀ j u, cs[j]? = some u → (w.alloc (.cells cs.toArray t)).cell? ((⟨n, 0, none⟩ : Addr).add j) = some u := by
 intro j u h
 subst hn
 rw [Addr.add_lit, World.cell?_alloc_at _ _ _ _ rfl]
 simpa using h
theorem ownsRow_shape {w : World} {b : Nat} {e : TypeId} {size : Nat} {v : Value} {n : Nat} {xs : List Value} (h : w.ownsRow b e size v n xs) :
  ∃ ao cap, v = .slice ao n cap ∧ n ≤ cap ∧ cap ≤ maxLen ∧ (0 < n → ∃ g, ao = some ⟨g, 0, none⟩ ∧ b ≤ g ∧ g < w.heap.size ∧ ∀ j, j < n * size → w.cell? ⟨g, j, none⟩ = xs[j]?) := by
 rcases h.2 with ⟨rfl, rfl⟩ | ⟨g, cap, cur, rfl, hg, hh, hn, hc, _⟩
 ·exact ⟨none, 0, rfl, Nat.le_refl _, Nat.zero_le _, fun h0 => absurd h0 (Nat.lt_irrefl _)⟩
 ·exact ⟨_, cap, rfl, hn, hc, fun _ => ⟨g, rfl, hg, (Array.getElem?_eq_some_iff.1 hh).1, fun j hj => h.cellAt j hj⟩⟩
end LexP
namespace Go.Proofs.YtceggplnggkdnaaGreatDoor
open Go.RowKit NatP LexP
theorem ret_i64' {a b : Int} (h : a = b) : Ending.returned (.int .i64 a) = .returned (.int .i64 b) := by rw [h]
def ws (l : List Nat) : List Value := l.map fun d => .int .u64 (d : Nat)
theorem ws_length (l : List Nat) : (ws l).length = l.length := by simp [ws]
theorem ws_at {l : List Nat} {i x : Nat} (h : l[i]? = some x) : (ws l)[i]? = some (.int .u64 (x : Nat)) := by simp [ws, h]
theorem ws_one (l : List Nat) : ∀ u ∈ ws l, u.oneCell' = true := by
 intro u hu; simp only [ws, List.mem_map] at hu; obtain ⟨d, _, rfl⟩ := hu; rfl
theorem Tryz.infoW : (Tryz.prog.info? 215).map (fun i => (i.zero, i.size, i.bytes)) = some (some (.int .u64 0), 1, 8) := by kernel_rfl
theorem Tryz.infoW1 : (Tryz.prog.info? 215).map (·.size) = some 1 := by kernel_rfl
def Rd (w : World) (v : Value) (xs : List Nat) : Prop :=
 (∀ k, v.ownBlock = some k → k < w.heap.size) ∧ ∃ ao cap, v = .slice ao xs.length cap ∧ xs.length ≤ cap ∧ cap ≤ maxLen ∧ ok xs ∧ ∀ i x, xs[i]? = some x → ∃ g o, ao = some ⟨g, o, none⟩ ∧ w.cell? ⟨g, o + i, none⟩ = some (.int .u64 (x : Nat))
theorem Rd.kept {w w' : World} {v : Value} {xs : List Nat} {row : Option Nat} (h : Rd w v xs) (hg : w.grownBy w' row) (hne : ∀ k, row = some k → v.ownBlock ≠ some k) : Rd w' v xs := by
 obtain ⟨h0, ao, cap, rfl, h1, h2, h3, h4⟩ := h
 refine ⟨fun k hk => Nat.lt_of_lt_of_le (h0 k hk) hg.size, ao, cap, rfl, h1, h2, h3, fun i x hx => ?_⟩
 obtain ⟨g, o, rfl, hc⟩ := h4 i x hx
 exact ⟨g, o, rfl, hg.cell hc (fun e => hne g e.symm rfl)⟩
theorem Rd.below {w w' : World} {v : Value} {xs : List Nat} (h : Rd w v xs) (hb : Below w.heap.size w w') : Rd w' v xs :=
 h.kept (row := none) ⟨hb.os, hb.tape, hb.output, hb.size, fun k hk _ => hb.block k hk⟩ (fun k hk => by cases hk)
theorem Rd.drewN {w : World} {v : Value} {xs : List Nat} (h : Rd w v xs) (n : Nat) : Rd (w.drewN n) v xs :=
 h.below ⟨rfl, rfl, rfl, Nat.le_refl _, fun _ _ => rfl⟩
theorem Rd.alloc {w : World} {v : Value} {xs : List Nat} (h : Rd w v xs) (o : Obj) : Rd (w.alloc o) v xs :=
 h.below ((Below.refl _ _).alloc (Nat.le_refl _) o)
theorem Rd.nil (w : World) : Rd w (.slice none 0 0) [] := ⟨fun k hk => (by cases hk), none, 0, rfl, Nat.le_refl _, Nat.zero_le _, ok_nil, fun i x h => by simp at h⟩
theorem Rd.take {w : World} {ao : Option Addr} {len cap n c : Nat} {xs : List Nat} (h : Rd w (.slice ao len cap) xs) (hn : n ≤ xs.length) (hc : n ≤ c) (hm : c ≤ cap) : Rd w (.slice ao n c) (xs.take n) := by
 obtain ⟨h0, ao', cap', e, h1, h2, h3, h4⟩ := h
 simp only [Value.slice.injEq] at e
 obtain ⟨rfl, rfl, rfl⟩ := e
 refine ⟨fun k hk => h0 k (by cases ao <;> first | exact hk | cases hk), ao, c, by rw [List.length_take, Nat.min_eq_left hn], by rw [List.length_take]; omega, by omega, ok_take h3 _, fun i x hx => ?_⟩
 rw [List.getElem?_take] at hx
 split at hx
 ·exact h4 i x hx
 ·cases hx
theorem Rd.lt {w : World} {v : Value} {xs : List Nat} (h : Rd w v xs) {k : Nat} (hk : v.ownBlock = some k) : k < w.heap.size := h.1 k hk
theorem Rd.ne {w : World} {v : Value} {xs : List Nat} (h : Rd w v xs) {g : Nat} (hg : w.heap.size ≤ g) : v.ownBlock ≠ some g := fun e => by have := h.1 g e; omega
def Blk (w : World) (g : Nat) (L : List Nat) : Prop := w.heap[g]? = some (.cells (ws L).toArray 215 (0, 0)) ∧ ok L
theorem Blk.lt {w : World} {g : Nat} {L : List Nat} (h : Blk w g L) : g < w.heap.size := (Array.getElem?_eq_some_iff.1 h.1).1
theorem Blk.cell {w : World} {g : Nat} {L : List Nat} (h : Blk w g L) {i x : Nat} (hx : L[i]? = some x) : w.cell? ⟨g, i, none⟩ = some (.int .u64 (x : Nat)) := by
 rw [cell_of_row w g i _ _ _ h.1]; simp [ws, hx]
theorem Blk.frozen {w : World} {g : Nat} {L : List Nat} (h : Blk w g L) (i : Nat) : w.frozen? ⟨g, i, none⟩ = false := frozen_of_row w g i _ _ h.1
theorem Blk.set {w : World} {g : Nat} {L : List Nat} (h : Blk w g L) (i : Nat) {x : Nat} (hx : x < BB) : Blk (w.setCell ⟨g, i, none⟩ (.int .u64 (x : Nat))) g (L.set i x) ∧ w.grownBy (w.setCell ⟨g, i, none⟩ (.int .u64 (x : Nat))) (some g) := by
 refine ⟨⟨?_, ok_set h.2 i hx⟩, ⟨rfl, rfl, rfl, by simp, fun k _ hk => heap_setCell_other w ⟨g, i, none⟩ k _ (fun e => hk (by simp [e]))⟩⟩
 have := heap_setCell_same w g i (ws L).toArray 215 (.int .u64 (x : Nat)) h.1
 rw [this]
 simp [ws, List.map_set]
theorem Blk.kept {w w' : World} {g : Nat} {L : List Nat} {row : Option Nat} (h : Blk w g L) (hg : w.grownBy w' row) (hne : row ≠ some g) : Blk w' g L :=
 ⟨(hg.block g h.lt (fun e => hne e.symm)).trans h.1, h.2⟩
theorem Blk.below {w w' : World} {g B : Nat} {L : List Nat} (h : Blk w g L) (hb : Below B w w') (hB : g < B) : Blk w' g L := ⟨(hb.block g hB).trans h.1, h.2⟩
theorem Blk.rd {w : World} {g : Nat} {L : List Nat} (h : Blk w g L) {o n c : Nat} (ho : o + n ≤ L.length) (hnc : n ≤ c) (hc : c ≤ maxLen) : Rd w (.slice (some ⟨g, o, none⟩) n c) ((L.drop o).take n) := by
 refine ⟨fun k hk => by cases hk; exact h.lt, _, c, by rw [List.length_take, List.length_drop, Nat.min_eq_left (by omega)], by rw [List.length_take]; omega, hc, ok_take (ok_drop h.2 _) _, fun i x hx => ⟨g, o, rfl, h.cell ?_⟩⟩
 rw [List.getElem?_take] at hx
 split at hx
 ·rw [List.getElem?_drop] at hx; exact hx
 ·cases hx
theorem Blk.made (w : World) (n : Nat) : Blk (w.alloc (.cells (madeCells #[.int .u64 0] n) 215)) w.heap.size (List.replicate n 0) := by
 refine ⟨?_, ok_replicate n⟩
 have h1 : (w.alloc (.cells (madeCells #[.int .u64 0] n) 215)).heap[w.heap.size]? = some (.cells (madeCells #[.int .u64 0] n) 215 (0, 0)) := by first | exact heap_alloc_new w _
 rw [h1]
 have h2 := toList_madeCells_one (.int .u64 0) n
 have h3 : madeCells #[Value.int .u64 0] n = (ws (List.replicate n 0)).toArray := by
  apply Array.toList_inj.1
  rw [h2]; simp [ws]
 rw [h3]
def Fr (B : Nat) (w : World) (v : Value) (xs : List Nat) : Prop := Rd w v xs ∧ ∀ k, v.ownBlock = some k → B ≤ k ∧ k < w.heap.size
theorem Fr.below {B : Nat} {w w' : World} {v : Value} {xs : List Nat} (h : Fr B w v xs) (hb : Below w.heap.size w w') : Fr B w' v xs := ⟨h.1.below hb, fun k hk => ⟨(h.2 k hk).1, Nat.lt_of_lt_of_le (h.2 k hk).2 hb.size⟩⟩
theorem Fr.mono {B B' : Nat} {w : World} {v : Value} {xs : List Nat} (h : Fr B w v xs) (hb : B' ≤ B) : Fr B' w v xs := ⟨h.1, fun k hk => ⟨Nat.le_trans hb (h.2 k hk).1, (h.2 k hk).2⟩⟩
def NewPost (xs : List Nat) (w : World) (e : Ending) (w' : World) : Prop := ∃ v, e = .returned v ∧ Fr w.heap.size w' v xs ∧ Below w.heap.size w w'
set_option maxRecDepth 100000 in
set_option maxHeartbeats 1000000 in
theorem size_any (v : Value) (xs : List Nat) (w : World) (hr : Rd w v xs) :
  Calls Tryz.prog 340 #[v] w fun e w' => e = .returned (.int .i64 ((strip xs).length : Nat)) ∧ w = w' := by
 obtain ⟨ao, cap, rfl, hnc, hcm, hok, hsh⟩ := hr.2
 have HS := Lib.hid hsh
 have hm : xs.length ≤ 9223372036854775807 := by unfold maxLen at hcm; omega
 clear hsh hcm hok
 go_enter Tryz.func340, Tryz.ntmps340
 go_wp2_with fail
 go_loop [3] (fun i => ∃ n : Nat, n ≤ xs.length ∧ i = .int .i64 (n : Nat) ∧ strip (xs.take n) = strip xs) (fun i => (intOf i).toNat)
 case atStart => exact ⟨xs.length, Nat.le_refl _, rfl, by rw [List.take_length]⟩
 case round =>
  obtain ⟨n, hn, rfl, hst⟩ := hrel
  have HST := Lib.hid hst
  clear hst
  cases n with
  | zero =>
   have HE := Lib.hid (strip_stop hn HST.out (.inl rfl))
   go_wp2_with fail
   go_ret
   exact ⟨ret_i64' (by rw [HE.out]; rfl), rfl⟩
  | succ m =>
   obtain ⟨x, hx⟩ : ∃ x, xs[m]? = some x := ⟨_, List.getElem?_eq_getElem (by omega)⟩
   obtain ⟨g, o, rfl, e1⟩ := HS.out m x hx
   have HX := Lib.hid hx
   clear hx
   by_cases h0 : x = 0
   ·have h1 : ((x : Int) == 0) = true := by simp [h0]
    have HN : Hid (strip (xs.take m) = strip xs) := by
     rcases strip_step hn HST.out (fun m' e => by cases e; rw [HX.out, h0]) with h | h
     ·cases h
     ·exact h
    clear h0
    go_wp2_with fail
    go_round
    case rel => exact ⟨m, by omega, by first | rfl | go_num, HN.out⟩
    case measure => simp [intOf] <;> omega
   ·have h1 : ((x : Int) == 0) = false := by simp [h0]
    have HE := Lib.hid (strip_stop hn HST.out (.inr ⟨m, x, rfl, HX.out, h0⟩))
    clear h0
    go_wp2_with fail
    go_ret
    exact ⟨ret_i64' (by rw [HE.out] <;> first | rfl | omega), rfl⟩
set_option maxRecDepth 100000 in
set_option maxHeartbeats 1000000 in
theorem mtrim_any (ao : Option Addr) (cap : Nat) (xs : List Nat) (w : World) (hr : Rd w (.slice ao xs.length cap) xs) :
  Calls Tryz.prog 456 #[.slice ao xs.length cap] w fun e w' => e = .returned (.slice ao (strip xs).length (strip xs).length) ∧ w = w' := by
 obtain ⟨ao, cap, e, hnc, hcm, hok, hsh⟩ := hr.2
 simp only [Value.slice.injEq] at e
 obtain ⟨rfl, -, rfl⟩ := e
 have HS := Lib.hid hsh
 have hm : cap ≤ 9223372036854775807 := by unfold maxLen at hcm; omega
 clear hsh hcm hok
 go_enter Tryz.func456, Tryz.ntmps456
 go_wp2_with fail
 go_loop [3] (fun i => ∃ n : Nat, n ≤ xs.length ∧ i = .int .i64 (n : Nat) ∧ strip (xs.take n) = strip xs) (fun i => (intOf i).toNat)
 case atStart => exact ⟨xs.length, Nat.le_refl _, rfl, by rw [List.take_length]⟩
 case round =>
  obtain ⟨n, hn, rfl, hst⟩ := hrel
  have HST := Lib.hid hst
  clear hst
  cases n with
  | zero =>
   have HE := Lib.hid (strip_stop hn HST.out (.inl rfl))
   go_wp2_with fail
   go_ret
   exact ⟨by first | (rw [HE.out]; done) | (rw [HE.out]; rfl), rfl⟩
  | succ m =>
   obtain ⟨x, hx⟩ : ∃ x, xs[m]? = some x := ⟨_, List.getElem?_eq_getElem (by omega)⟩
   obtain ⟨g, o, rfl, e1⟩ := HS.out m x hx
   have HX := Lib.hid hx
   clear hx
   by_cases h0 : x = 0
   ·have h1 : ((x : Int) == 0) = true := by simp [h0]
    have HN : Hid (strip (xs.take m) = strip xs) := by
     rcases strip_step hn HST.out (fun m' e => by cases e; rw [HX.out, h0]) with h | h
     ·cases h
     ·exact h
    clear h0
    go_wp2_with fail
    go_round
    case rel => exact ⟨m, by omega, by first | rfl | go_num, HN.out⟩
    case measure => simp [intOf] <;> omega
   ·have h1 : ((x : Int) == 0) = false := by simp [h0]
    have HE := Lib.hid (strip_stop hn HST.out (.inr ⟨m, x, rfl, HX.out, h0⟩))
    clear h0
    go_wp2_with fail
    go_ret
    exact ⟨by first | (rw [HE.out]; done) | (rw [HE.out]; rfl), rfl⟩
theorem trim_rd {ao : Option Addr} {cap : Nat} {xs : List Nat} {w : World} (hr : Rd w (.slice ao xs.length cap) xs) : Rd w (.slice ao (strip xs).length (strip xs).length) (strip xs) := by
 have h1 := strip_take xs
 have h2 := hr
 obtain ⟨ao', cap', e, hnc, -, -, -⟩ := h2.2
 simp only [Value.slice.injEq] at e
 obtain ⟨rfl, -, rfl⟩ := e
 have := hr.take (n := (strip xs).length) (c := (strip xs).length) h1.2 (Nat.le_refl _) (Nat.le_trans h1.2 hnc)
 rw [← h1.1] at this
 exact this
end Go.Proofs.YtceggplnggkdnaaGreatDoor
