/- Joined texts of this claim's proof: SynM, SynT, SynR. -/
import Derived.Test.YtgfmiladfeoldaaGreatDoorPl18
set_option linter.unusedSimpArgs false
set_option linter.unusedVariables false
namespace SynP
open LexP
def Le {α : Type} (a b : PR α) : Prop := a = none ∨ a = b
theorem Le.refl {α : Type} (a : PR α) : Le a a := .inr rfl
theorem Le.none {α : Type} (b : PR α) : Le (none : PR α) b := .inl rfl
theorem Le.bind {α β : Type} {a a' : PR α} {f f' : α → St → PR β} (h : Le a a') (hf : ∀ x s, Le (f x s) (f' x s)) : Le (a.bind f) (a'.bind f') := by
 rcases h with rfl | rfl
 ·exact .inl rfl
 ·rcases a with _ | (e | ⟨x, s⟩)
  ·exact .inl rfl
  ·exact .inr rfl
  ·exact hf x s
theorem Le.ite {α : Type} {c : Bool} {a b a' b' : PR α} (h1 : Le a a') (h2 : Le b b') : Le (if c then a else b) (if c then a' else b') := by
 cases c
 ·exact h2
 ·exact h1
theorem Le.itep {α : Type} {c : Prop} [Decidable c] {a b a' b' : PR α} (h1 : Le a a') (h2 : Le b b') : Le (if c then a else b) (if c then a' else b') := by
 by_cases h : c
 ·rw [if_pos h, if_pos h]; exact h1
 ·rw [if_neg h, if_neg h]; exact h2
theorem Le.some {α : Type} {a b : PR α} {r : Except (Nat × Nat) (α × St)} (h : Le a b) (ha : a = some r) : b = some r := by
 rcases h with h | h
 ·rw [h] at ha; cases ha
 ·rw [← h]; exact ha
theorem entryRow_mono (fin : Nat) : ∀ f n acc s, Le (entryRow fin f n acc s) (entryRow fin (f + 1) n acc s) := by
 intro f
 induction f with
 | zero => intro n acc s; exact Le.none _
 | succ f ih =>
  intro n acc s
  rw [entryRow, entryRow]
  exact Le.ite (Le.bind (Le.refl _) fun m s' => ih _ _ _) (Le.refl _)
theorem entries_mono (fin : Nat) : ∀ f acc lens s, Le (entries fin f acc lens s) (entries fin (f + 1) acc lens s) := by
 intro f
 induction f with
 | zero => intro acc lens s; exact Le.none _
 | succ f ih =>
  intro acc lens s
  rw [entries, entries]
  exact Le.bind (entryRow_mono fin f 0 acc s) fun r s => Le.ite (Le.refl _) (Le.bind (Le.refl _) fun _ _ => ih _ _ _)
theorem matrix_mono (fin f : Nat) (s : St) : Le (matrix fin f s) (matrix fin (f + 1) s) := by
 unfold matrix
 exact Le.bind (Le.refl _) fun _ s => Le.ite (Le.refl _) (Le.bind (entries_mono _ _ _ _ _) fun _ _ => Le.refl _)
theorem simplex_mono (fin : Nat) : ∀ f acc s, Le (simplex fin f acc s) (simplex fin (f + 1) acc s) := by
 intro f
 induction f with
 | zero => intro acc s; exact Le.none _
 | succ f ih =>
  intro acc s
  rw [simplex, simplex]
  exact Le.ite (Le.bind (Le.refl _) fun _ _ => ih _ _) (Le.refl _)
theorem cpxLoop_mono (fin : Nat) : ∀ f acc s, Le (cpxLoop fin f acc s) (cpxLoop fin (f + 1) acc s) := by
 intro f
 induction f with
 | zero => intro acc s; exact Le.none _
 | succ f ih =>
  intro acc s
  rw [cpxLoop, cpxLoop]
  exact Le.bind (Le.refl _) fun n s => Le.bind (simplex_mono _ _ _ _) fun x s => Le.ite (Le.refl _) (Le.bind (Le.refl _) fun _ _ => ih _ _)
theorem complex_mono (fin f : Nat) (s : St) : Le (complex fin f s) (complex fin (f + 1) s) := by
 unfold complex
 exact Le.bind (Le.refl _) fun _ s => Le.ite (Le.refl _) (cpxLoop_mono _ _ _ _)
theorem minuses_mono : ∀ f n s, Le (minuses f n s) (minuses (f + 1) n s) := by
 intro f
 induction f with
 | zero => intro n s; exact Le.none _
 | succ f ih => intro n s; rw [minuses, minuses]; exact Le.ite (ih _ _) (Le.refl _)
theorem turns_mono : ∀ f k s, Le (turns f k s) (turns (f + 1) k s) := by
 intro f
 induction f with
 | zero => intro n s; exact Le.none _
 | succ f ih => intro n s; rw [turns, turns]; exact Le.ite (ih _ _) (Le.refl _)
structure AllMono (fin f : Nat) : Prop where
 e : ∀ s, Le (expr fin f s) (expr fin (f + 1) s)
 el : ∀ k s, Le (exprLoop fin f k s) (exprLoop fin (f + 1) k s)
 t : ∀ s, Le (term fin f s) (term fin (f + 1) s)
 tl : ∀ k s, Le (termLoop fin f k s) (termLoop fin (f + 1) k s)
 fa : ∀ s, Le (factor fin f s) (factor fin (f + 1) s)
 po : ∀ s, Le (post fin f s) (post fin (f + 1) s)
 at_ : ∀ s, Le (atom fin f s) (atom fin (f + 1) s)
 pa : ∀ s, Le (parts fin f s) (parts fin (f + 1) s)
 pl : ∀ k s, Le (partsLoop fin f k s) (partsLoop fin (f + 1) k s)
theorem all_mono (fin : Nat) : ∀ f, AllMono fin f := by
 intro f
 induction f with
 | zero => constructor <;> intros <;> (first | rw [expr] | rw [exprLoop] | rw [term] | rw [termLoop] | rw [factor] | rw [post] | rw [atom] | rw [parts] | rw [partsLoop]) <;> exact Le.none _
 | succ f ih =>
  constructor
  ·intro s; rw [expr, expr]; exact Le.bind (ih.t _) fun _ _ => ih.el _ _
  ·intro k s; rw [exprLoop, exprLoop]
   exact Le.ite (Le.bind (ih.t _) fun _ _ => ih.el _ _) (Le.ite (Le.bind (ih.t _) fun _ _ => ih.el _ _) (Le.refl _))
  ·intro s; rw [term, term]; exact Le.bind (ih.fa _) fun _ _ => ih.tl _ _
  ·intro k s; rw [termLoop, termLoop]; exact Le.ite (Le.bind (ih.fa _) fun _ _ => ih.tl _ _) (Le.refl _)
  ·intro s; rw [factor, factor]
   exact Le.bind (minuses_mono _ _ _) fun _ _ => Le.bind (ih.po _) fun _ _ => Le.refl _
  ·intro s; rw [post, post]; exact Le.bind (ih.at_ _) fun _ _ => turns_mono _ _ _
  ·intro s; rw [atom, atom]
   refine Le.ite (Le.refl _) (Le.ite ?_ (Le.ite (Le.refl _) (Le.ite ?_ (Le.ite ?_ (Le.ite ?_ (Le.refl _))))))
   ·exact Le.bind (Le.refl _) fun _ _ => Le.bind (Le.refl _) fun _ _ => Le.bind (ih.pa _) fun _ _ => Le.refl _
   ·exact Le.bind (Le.refl _) fun _ _ => Le.bind (ih.e _) fun _ _ => Le.refl _
   ·exact Le.bind (matrix_mono _ _ _) fun _ _ => Le.refl _
   ·exact Le.bind (complex_mono _ _ _) fun _ _ => Le.refl _
  ·intro s; rw [parts, parts]; exact Le.bind (ih.e _) fun _ _ => ih.pl _ _
  ·intro k s; rw [partsLoop, partsLoop]; exact Le.ite (Le.bind (ih.e _) fun _ _ => ih.pl _ _) (Le.refl _)
theorem line_mono (fin f : Nat) (s : St) : Le (line fin f s) (line fin (f + 1) s) := by
 unfold line
 refine Le.itep (Le.refl _) (Le.ite ?_ ?_)
 ·exact Le.bind (Le.refl _) fun _ _ => Le.bind (Le.refl _) fun _ _ => Le.bind ((all_mono fin f).e _) fun _ _ => Le.refl _
 ·exact Le.bind (Le.refl _) fun _ _ => Le.itep (Le.refl _) (Le.bind ((all_mono fin f).pa _) fun _ _ => Le.refl _)
def Stab {α : Type} (g : Nat → PR α) : Prop := ∀ f, Le (g f) (g (f + 1))
def Ev {α : Type} (g : Nat → PR α) (r : Except (Nat × Nat) (α × St)) : Prop := ∃ f, g f = some r
theorem Stab.le {α : Type} {g : Nat → PR α} (h : Stab g) {f f' : Nat} (hf : f ≤ f') {r : Except (Nat × Nat) (α × St)} (hr : g f = some r) : g f' = some r := by
 induction hf with
 | refl => exact hr
 | step _ ih => exact (h _).some ih
theorem Ev.one {α : Type} {g : Nat → PR α} (h : Stab g) {r r' : Except (Nat × Nat) (α × St)} (h1 : Ev g r) (h2 : Ev g r') : r = r' := by
 obtain ⟨f1, h1⟩ := h1
 obtain ⟨f2, h2⟩ := h2
 have a := h.le (Nat.le_max_left f1 f2) h1
 rw [h.le (Nat.le_max_right f1 f2) h2] at a
 exact (Option.some.inj a).symm
end SynP
namespace SynP
open LexP
def Good {α : Type} (n : Nat) : PR α → Prop
 | none => False
 | some (.error e) => 0 < e.2
 | some (.ok (_, s)) => s.ts.length ≤ n
theorem Good.bind {α β : Type} {x : PR α} {f : α → St → PR β} {n m : Nat} (h : Good n x) (hf : ∀ a s, s.ts.length ≤ n → Good m (f a s)) : Good m (x.bind f) := by
 rcases x with _ | (e | ⟨a, s⟩)
 ·exact h
 ·exact h
 ·exact hf a s h
theorem Good.mono {α : Type} {x : PR α} {n m : Nat} (h : Good n x) (hm : n ≤ m) : Good m x := by
 rcases x with _ | (e | ⟨a, s⟩)
 ·exact h
 ·exact h
 ·exact Nat.le_trans h hm
theorem Good.ite {α : Type} {c : Bool} {a b : PR α} {n : Nat} (h1 : c = true → Good n a) (h2 : c = false → Good n b) : Good n (if c then a else b) := by
 cases c
 ·exact h2 rfl
 ·exact h1 rfl
theorem Good.itep {α : Type} {c : Prop} [Decidable c] {a b : PR α} {n : Nat} (h1 : c → Good n a) (h2 : ¬ c → Good n b) : Good n (if c then a else b) := by
 by_cases h : c
 ·rw [if_pos h]; exact h1 h
 ·rw [if_neg h]; exact h2 h
theorem good_unfit {α : Type} (fin n : Nat) (s : St) : Good n (unfit fin s : PR α) := (by decide : 0 < 14)
theorem good_fault {α : Type} (c : Nat) {e : Nat} (he : 0 < e) (n : Nat) : Good n (fault c e : PR α) := he
theorem good_ret {α : Type} (a : α) {n : Nat} {s : St} (h : s.ts.length ≤ n) : Good n (ret a s) := h
theorem adv_len {s : St} {n : Nat} (h : s.ts.length ≤ n) : s.adv.ts.length ≤ n - 1 := by
 show s.ts.tail.length ≤ _
 rw [List.length_tail]; omega
theorem mark_ne {x : Bytes} {ts : List Tok} (h : isMark x ts = true) : 0 < ts.length := by
 cases ts with
 | nil => cases h
 | cons => simp
theorem kind_ne {k : Nat} {ts : List Tok} (h : isKind k ts = true) : 0 < ts.length := by
 cases ts with
 | nil => cases h
 | cons => simp
theorem good_want (fin : Nat) (x : Bytes) {s : St} {n : Nat} (h : s.ts.length ≤ n) : Good (n - 1) (want fin x s) := by
 unfold want; exact Good.ite (fun _ => good_ret _ (adv_len h)) (fun _ => good_unfit _ _ _)
theorem good_number (fin : Nat) {s : St} {n : Nat} (h : s.ts.length ≤ n) : Good (n - 1) (number fin s) := by
 unfold number; exact Good.ite (fun _ => good_ret _ (adv_len h)) (fun _ => good_unfit _ _ _)
theorem good_name (fin : Nat) {s : St} {n : Nat} (h : s.ts.length ≤ n) : Good (n - 1) (name fin s) := by
 unfold name; exact Good.ite (fun _ => good_ret _ (adv_len h)) (fun _ => good_unfit _ _ _)
theorem good_entryRow (fin : Nat) : ∀ f n k acc s, s.ts.length ≤ n → n + 2 ≤ f → Good n (entryRow fin f k acc s) := by
 intro f
 induction f with
 | zero => intro n k acc s h hf; omega
 | succ f ih =>
  intro n k acc s h hf
  rw [entryRow]
  refine Good.ite (fun _ => ?_) (fun _ => good_ret _ h)
  have h2 : (if isMark [45] s.ts then s.adv else s).ts.length ≤ n := by
   split
   ·exact Nat.le_trans (adv_len h) (Nat.sub_le _ _)
   ·exact h
  by_cases hn : n = 0
  ·subst hn
   have h3 : (if isMark [45] s.ts then s.adv else s).ts = [] := List.eq_nil_of_length_eq_zero (by omega)
   have h4 : number fin (if isMark [45] s.ts then s.adv else s) = unfit fin (if isMark [45] s.ts then s.adv else s) := by unfold number; rw [h3]; rfl
   rw [h4]; exact (by decide : 0 < 14)
  ·exact (good_number fin h2).bind fun m s' h3 => (ih (n - 1) _ _ _ h3 (by omega)).mono (by omega)
theorem good_entries (fin : Nat) : ∀ f n acc lens s, s.ts.length ≤ n → n + 3 ≤ f → Good n (entries fin f acc lens s) := by
 intro f
 induction f with
 | zero => intro n acc lens s h hf; omega
 | succ f ih =>
  intro n acc lens s h hf
  rw [entries]
  refine (good_entryRow fin f n 0 acc s h (by omega)).bind fun r s h => Good.ite (fun _ => good_ret _ (Nat.le_trans (adv_len h) (Nat.sub_le _ _))) (fun _ => ?_)
  by_cases hn : n = 0
  ·subst hn
   have h3 : s.ts = [] := List.eq_nil_of_length_eq_zero (by omega)
   have h4 : want fin [59] s = unfit fin s := by unfold want; rw [h3]; rfl
   rw [h4]; exact (by decide : 0 < 14)
  ·exact (good_want fin _ h).bind fun _ s h => (ih (n - 1) _ _ _ h (by omega)).mono (by omega)
theorem good_matShape (fin col : Nat) {s : St} {n : Nat} (h : s.ts.length ≤ n) : Good n (matShape fin col s) := by
 unfold matShape
 refine (good_number fin h).bind fun _ s h => (good_want fin _ h).bind fun _ s h => (good_number fin h).bind fun _ s h => (good_want fin _ h).bind fun _ s h => ?_
 exact Good.ite (fun _ => good_fault _ (by decide) _) (fun _ => good_ret _ (by omega))
theorem good_matDone (col : Nat) (a : List (Bool × Nat) × List Nat) {s : St} {n : Nat} (h : s.ts.length ≤ n) : Good n (matDone col a s) := by
 unfold matDone
 exact Good.ite (fun _ => good_fault _ (by decide) _) (fun _ => Good.ite (fun _ => good_fault _ (by decide) _) (fun _ => good_ret _ h))
theorem good_matrix (fin f : Nat) {s : St} {n : Nat} (h : s.ts.length ≤ n) (hf : n + 3 ≤ f) : Good (n - 1) (matrix fin f s) := by
 unfold matrix
 refine (good_want fin _ h).bind fun _ s h => Good.ite (fun _ => good_matShape _ _ h) (fun _ => ?_)
 exact (good_entries fin f _ _ _ _ h (by omega)).bind fun _ _ h => good_matDone _ _ h
theorem good_simplex (fin : Nat) : ∀ f n acc s, s.ts.length ≤ n → n + 1 ≤ f → Good n (simplex fin f acc s) := by
 intro f
 induction f with
 | zero => intro n acc s h hf; omega
 | succ f ih =>
  intro n acc s h hf
  rw [simplex]
  refine Good.ite (fun hk => ?_) (fun _ => good_ret _ h)
  have := kind_ne hk
  exact (good_number fin h).bind fun _ s h => (ih (n - 1) _ _ h (by omega)).mono (by omega)
theorem good_cpxLoop (fin : Nat) : ∀ f n acc s, s.ts.length ≤ n → n + 2 ≤ f → Good n (cpxLoop fin f acc s) := by
 intro f
 induction f with
 | zero => intro n acc s h hf; omega
 | succ f ih =>
  intro n acc s h hf
  rw [cpxLoop]
  refine (good_number fin h).bind fun _ s h => (good_simplex fin f (n - 1) _ _ h (by omega)).bind fun _ s h => Good.ite (fun _ => good_ret _ (Nat.le_trans (adv_len h) (by omega))) (fun _ => ?_)
  by_cases hn : n - 1 = 0
  ·have h3 : s.ts = [] := List.eq_nil_of_length_eq_zero (by omega)
   have h4 : want fin [44] s = unfit fin s := by unfold want; rw [h3]; rfl
   rw [h4]; exact (by decide : 0 < 14)
  ·exact (good_want fin _ h).bind fun _ s h => (ih (n - 1 - 1) _ _ h (by omega)).mono (by omega)
theorem good_complex (fin f : Nat) {s : St} {n : Nat} (h : s.ts.length ≤ n) (hf : n + 2 ≤ f) : Good (n - 1) (complex fin f s) := by
 unfold complex
 refine (good_want fin _ h).bind fun _ s h => Good.ite (fun _ => good_ret _ (Nat.le_trans (adv_len h) (by omega))) (fun _ => ?_)
 exact good_cpxLoop fin f _ _ _ h (by omega)
theorem good_minuses : ∀ f n k s, s.ts.length ≤ n → n + 1 ≤ f → Good n (minuses f k s) := by
 intro f
 induction f with
 | zero => intro n k s h hf; omega
 | succ f ih =>
  intro n k s h hf
  rw [minuses]
  refine Good.ite (fun hk => ?_) (fun _ => good_ret _ h)
  have := mark_ne hk
  exact (ih (n - 1) _ _ (adv_len h) (by omega)).mono (by omega)
theorem good_turns : ∀ f n k s, s.ts.length ≤ n → n + 1 ≤ f → Good n (turns f k s) := by
 intro f
 induction f with
 | zero => intro n k s h hf; omega
 | succ f ih =>
  intro n k s h hf
  rw [turns]
  refine Good.ite (fun hk => ?_) (fun _ => good_ret _ h)
  have := mark_ne hk
  exact (ih (n - 1) _ _ (adv_len h) (by omega)).mono (by omega)
theorem good_openB (fin : Nat) {s : St} {n : Nat} (h : s.ts.length ≤ n) : Good (n - 1) (openB fin s) := by
 unfold openB; exact Good.itep (fun _ => good_fault _ (by decide) _) (fun _ => good_ret _ (adv_len h))
theorem good_closeB (fin : Nat) {s : St} {n : Nat} (h : s.ts.length ≤ n) : Good (n - 1) (closeB fin s) := by
 unfold closeB; exact (good_want fin _ h).bind fun _ s h => good_ret _ h
structure AllGood (fin n : Nat) : Prop where
 at_ : ∀ f s, s.ts.length ≤ n → 10 * n + 4 ≤ f → Good (n - 1) (atom fin f s)
 po : ∀ f s, s.ts.length ≤ n → 10 * n + 5 ≤ f → Good (n - 1) (post fin f s)
 fa : ∀ f s, s.ts.length ≤ n → 10 * n + 6 ≤ f → Good (n - 1) (factor fin f s)
 tl : ∀ f k s, s.ts.length ≤ n → 10 * n + 4 ≤ f → Good n (termLoop fin f k s)
 t : ∀ f s, s.ts.length ≤ n → 10 * n + 7 ≤ f → Good (n - 1) (term fin f s)
 el : ∀ f k s, s.ts.length ≤ n → 10 * n + 4 ≤ f → Good n (exprLoop fin f k s)
 e : ∀ f s, s.ts.length ≤ n → 10 * n + 8 ≤ f → Good (n - 1) (expr fin f s)
 pl : ∀ f k s, s.ts.length ≤ n → 10 * n + 4 ≤ f → Good n (partsLoop fin f k s)
 pa : ∀ f s, s.ts.length ≤ n → 10 * n + 9 ≤ f → Good (n - 1) (parts fin f s)
theorem fuel_succ {f n k : Nat} (h : 10 * n + k ≤ f) (hk : 0 < k) : ∃ g, f = g + 1 ∧ 10 * n + k ≤ g + 1 := ⟨f - 1, by omega, by omega⟩
theorem all_good (fin : Nat) : ∀ n, AllGood fin n := by
 intro n
 induction n using Nat.strongRecOn with
 | ind n ih =>
  have at_ : ∀ f s, s.ts.length ≤ n → 10 * n + 4 ≤ f → Good (n - 1) (atom fin f s) := by
   intro f s h hf
   obtain ⟨f, rfl, hf⟩ := fuel_succ hf (by omega)
   rw [atom]
   refine Good.ite (fun _ => (good_number fin h).bind fun _ s h => good_ret _ h) fun _ => Good.ite (fun hk => ?_) fun _ => Good.ite (fun _ => (good_name fin h).bind fun _ s h => good_ret _ h) fun _ => Good.ite (fun hk => ?_) fun _ => Good.ite (fun _ => ?_) fun _ => Good.ite (fun _ => ?_) fun _ => good_unfit _ _ _
   ·have := kind_ne (Bool.and_eq_true_iff.1 hk).1
    refine (good_name fin h).bind fun _ s h => (good_openB fin h).bind fun _ s h => ((ih (n - 1) (by omega)).pa f s (by omega) (by omega)).bind fun _ s h => (good_closeB fin h).bind fun _ s h => good_ret _ (by omega)
   ·have := mark_ne hk
    refine (good_openB fin h).bind fun _ s h => ((ih (n - 1) (by omega)).e f s h (by omega)).bind fun _ s h => (good_closeB fin h).bind fun _ s h => good_ret _ (by omega)
   ·exact (good_matrix fin f h (by omega)).bind fun _ s h => good_ret _ h
   ·exact (good_complex fin f h (by omega)).bind fun _ s h => good_ret _ h
  have po : ∀ f s, s.ts.length ≤ n → 10 * n + 5 ≤ f → Good (n - 1) (post fin f s) := by
   intro f s h hf
   obtain ⟨f, rfl, hf⟩ := fuel_succ hf (by omega)
   rw [post]
   exact (at_ f s h (by omega)).bind fun _ s h => good_turns f _ _ _ h (by omega)
  have fa : ∀ f s, s.ts.length ≤ n → 10 * n + 6 ≤ f → Good (n - 1) (factor fin f s) := by
   intro f s h hf
   obtain ⟨f, rfl, hf⟩ := fuel_succ hf (by omega)
   rw [factor]
   exact (good_minuses f _ _ _ h (by omega)).bind fun _ s h => (po f s h (by omega)).bind fun _ s h => Good.ite (fun _ => (good_number fin (adv_len h)).bind fun _ s h => good_ret _ (by omega)) (fun _ => good_ret _ h)
  have tl : ∀ f k s, s.ts.length ≤ n → 10 * n + 4 ≤ f → Good n (termLoop fin f k s) := by
   intro f k s h hf
   obtain ⟨f, rfl, hf⟩ := fuel_succ hf (by omega)
   rw [termLoop]
   refine Good.ite (fun hk => ?_) (fun _ => good_ret _ h)
   have := mark_ne hk
   exact ((ih (n - 1) (by omega)).fa f s.adv (adv_len h) (by omega)).bind fun _ s h => ((ih (n - 1) (by omega)).tl f _ s (by omega) (by omega)).mono (by omega)
  have t : ∀ f s, s.ts.length ≤ n → 10 * n + 7 ≤ f → Good (n - 1) (term fin f s) := by
   intro f s h hf
   obtain ⟨f, rfl, hf⟩ := fuel_succ hf (by omega)
   rw [term]
   refine (fa f s h (by omega)).bind fun _ s h => ?_
   by_cases hn : n = 0
   ·subst hn; exact tl f _ s h (by omega)
   ·exact (ih (n - 1) (by omega)).tl f _ s h (by omega)
  have el : ∀ f k s, s.ts.length ≤ n → 10 * n + 4 ≤ f → Good n (exprLoop fin f k s) := by
   intro f k s h hf
   obtain ⟨f, rfl, hf⟩ := fuel_succ hf (by omega)
   rw [exprLoop]
   refine Good.ite (fun hk => ?_) (fun _ => Good.ite (fun hk => ?_) (fun _ => good_ret _ h))
   all_goals
    have := mark_ne hk
    exact ((ih (n - 1) (by omega)).t f s.adv (adv_len h) (by omega)).bind fun _ s h => ((ih (n - 1) (by omega)).el f _ s (by omega) (by omega)).mono (by omega)
  have e : ∀ f s, s.ts.length ≤ n → 10 * n + 8 ≤ f → Good (n - 1) (expr fin f s) := by
   intro f s h hf
   obtain ⟨f, rfl, hf⟩ := fuel_succ hf (by omega)
   rw [expr]
   refine (t f s h (by omega)).bind fun _ s h => ?_
   by_cases hn : n = 0
   ·subst hn; exact el f _ s h (by omega)
   ·exact (ih (n - 1) (by omega)).el f _ s h (by omega)
  have pl : ∀ f k s, s.ts.length ≤ n → 10 * n + 4 ≤ f → Good n (partsLoop fin f k s) := by
   intro f k s h hf
   obtain ⟨f, rfl, hf⟩ := fuel_succ hf (by omega)
   rw [partsLoop]
   refine Good.ite (fun hk => ?_) (fun _ => good_ret _ h)
   have := mark_ne hk
   exact ((ih (n - 1) (by omega)).e f s.adv (adv_len h) (by omega)).bind fun _ s h => ((ih (n - 1) (by omega)).pl f _ s (by omega) (by omega)).mono (by omega)
  have pa : ∀ f s, s.ts.length ≤ n → 10 * n + 9 ≤ f → Good (n - 1) (parts fin f s) := by
   intro f s h hf
   obtain ⟨f, rfl, hf⟩ := fuel_succ hf (by omega)
   rw [parts]
   refine (e f s h (by omega)).bind fun _ s h => ?_
   by_cases hn : n = 0
   ·subst hn; exact pl f _ s h (by omega)
   ·exact (ih (n - 1) (by omega)).pl f _ s h (by omega)
  exact ⟨at_, po, fa, tl, t, el, e, pl, pa⟩
theorem good_line (fin : Nat) (s : St) : Good s.ts.length (line fin (10 * s.ts.length + 9) s) := by
 unfold line
 refine Good.itep (fun _ => good_ret _ (Nat.le_refl _)) (fun _ => Good.ite (fun _ => ?_) (fun _ => ?_))
 ·refine (good_name fin (adv_len (Nat.le_refl _))).bind fun _ s1 h => (good_want fin _ h).bind fun _ s1 h => ((all_good fin s.ts.length).e _ s1 (by omega) (by omega)).bind fun _ s1 h => ?_
  unfold done; exact Good.itep (fun _ => good_ret _ (by omega)) (fun _ => good_unfit _ _ _)
 ·refine (good_name fin (Nat.le_refl _)).bind fun _ s1 h => Good.itep (fun _ => ?_) (fun _ => ((all_good fin s.ts.length).pa _ s1 (by omega) (by omega)).bind fun _ s1 h => ?_)
  ·unfold done; exact Good.itep (fun _ => good_ret _ (by omega)) (fun _ => good_unfit _ _ _)
  ·unfold done; exact Good.itep (fun _ => good_ret _ (by omega)) (fun _ => good_unfit _ _ _)
end SynP
namespace SynP
open LexP
abbrev KT := Nat × Bytes
def kt (ts : List Tok) : List KT := ts.map fun t => (t.1, t.2.1)
def Is (ts : List Tok) (l : List KT) (r : List Tok) : Prop := ∃ a, ts = a ++ r ∧ kt a = l
theorem Is.nil {ts r : List Tok} (h : Is ts [] r) : ts = r := by
 obtain ⟨a, rfl, h⟩ := h
 cases a with
 | nil => rfl
 | cons x a => simp [kt] at h
theorem Is.cons {ts r : List Tok} {x : KT} {l : List KT} (h : Is ts (x :: l) r) : ∃ c ts', ts = (x.1, x.2, c) :: ts' ∧ Is ts' l r := by
 obtain ⟨a, rfl, h⟩ := h
 cases a with
 | nil => simp [kt] at h
 | cons y a =>
  simp only [kt, List.map_cons, List.cons.injEq] at h
  refine ⟨y.2.2, a ++ r, ?_, a, rfl, h.2⟩
  rw [← h.1]; rfl
theorem Is.app {ts r : List Tok} {l1 l2 : List KT} (h : Is ts (l1 ++ l2) r) : ∃ m, Is ts l1 m ∧ Is m l2 r := by
 obtain ⟨a, rfl, h⟩ := h
 unfold kt at h
 obtain ⟨b, c, rfl, h1, h2⟩ := List.map_eq_append_iff.1 h
 exact ⟨c ++ r, ⟨b, by rw [List.append_assoc], h1⟩, c, rfl, h2⟩
theorem Is.refl (r : List Tok) : Is r [] r := ⟨[], rfl, rfl⟩
theorem Is.all (ts : List Tok) : Is ts (kt ts) [] := ⟨ts, by simp, rfl⟩
theorem Ev.const {α : Type} {x : PR α} {r : Except (Nat × Nat) (α × St)} (h : x = some r) : Ev (fun _ => x) r := ⟨0, h⟩
theorem Ev.succ {α : Type} {g : Nat → PR α} {r : Except (Nat × Nat) (α × St)} (h : Ev (fun f => g (f + 1)) r) : Ev g r := by
 obtain ⟨f, h⟩ := h; exact ⟨f + 1, h⟩
theorem Ev.bind {α β : Type} {g : Nat → PR α} {h : Nat → α → St → PR β} {a : α} {s : St} {r : Except (Nat × Nat) (β × St)} (sg : Stab g) (sh : ∀ a s, Stab fun f => h f a s)
  (h1 : Ev g (.ok (a, s))) (h2 : Ev (fun f => h f a s) r) : Ev (fun f => (g f).bind (h f)) r := by
 obtain ⟨f1, h1⟩ := h1
 obtain ⟨f2, h2⟩ := h2
 refine ⟨max f1 f2, ?_⟩
 simp only
 rw [sg.le (Nat.le_max_left f1 f2) h1]
 exact (sh a s).le (Nat.le_max_right f1 f2) h2
theorem Stab.const {α : Type} (x : PR α) : Stab fun _ => x := fun _ => Le.refl _
theorem ret_bind {α β : Type} (a : α) (s : St) (f : α → St → PR β) : (ret a s).bind f = f a s := rfl
theorem dig_val {d : Nat} (h : d < 10) : NumP.isDig (UInt8.ofNat (48 + d)) = true ∧ (UInt8.ofNat (48 + d)).toNat - 48 = d := by
 have e : (UInt8.ofNat (48 + d)).toNat = 48 + d := by rw [UInt8.toNat_ofNat']; omega
 unfold NumP.isDig
 rw [e]
 refine ⟨?_, by omega⟩
 simp only [Bool.and_eq_true, decide_eq_true_eq]; omega
theorem decT_dig (n : Nat) : ∀ c ∈ decT n, NumP.isDig c = true := by
 intro c hc
 unfold decT at hc
 split at hc
 ·simp only [List.mem_singleton] at hc; subst hc; rfl
 ·simp only [List.mem_map] at hc
  obtain ⟨d, hd, rfl⟩ := hc
  exact (dig_val (NatP.dg_lt _ _ hd)).1
theorem decT_ne (n : Nat) : decT n ≠ [] := by
 unfold decT
 split
 ·simp
 ·rename_i h
  rw [NatP.dg_pos (by omega)]; simp
theorem valOf_decT (n : Nat) : valOf (decT n) = n := by
 unfold valOf
 rw [List.filter_eq_self.2 (decT_dig n)]
 unfold decT
 split
 ·rename_i h; subst h; rfl
 ·have : digs ((NatP.dg n).map fun d => UInt8.ofNat (48 + d)) = NatP.dg n := by
   unfold digs
   rw [List.map_map]
   conv => rhs; rw [← List.map_id (NatP.dg n)]
   refine List.map_congr_left fun d hd => ?_
   exact (dig_val (NatP.dg_lt _ _ hd)).2
  rw [this, NatP.decV_dg]
abbrev mk (x : UInt8) : KT := (3, [x])
def numK (n : Nat) : KT := (1, decT n)
def intK (x : Bool × Nat) : List KT := (if x.1 then [mk 45] else []) ++ [numK x.2]
def joinK (sep : List KT) : List (List KT) → List KT
 | [] => []
 | [a] => a
 | a :: l => a ++ sep ++ joinK sep l
def matK (m : MatV) : List KT :=
 if m.at_ = [] then [mk 91, numK m.rows, mk 58, numK m.cols, mk 93]
 else mk 91 :: (joinK [mk 59] ((rowsOf m.cols m.rows m.at_).map fun l => l.flatMap intK) ++ [mk 93])
def cpxK (l : List (List Nat)) : List KT := mk 123 :: (joinK [mk 44] (l.map fun s => s.map numK) ++ [mk 125])
def parK (b : Bool) (t : List KT) : List KT := if b then mk 40 :: (t ++ [mk 41]) else t
mutual
def Ex.tk : Ex → List KT
 | .num n => [numK n]
 | .name x => [(2, x)]
 | .mat m => matK m
 | .cpx l => cpxK l
 | .neg a => mk 45 :: parK (loose 4 0 a.op) a.tk
 | .turn a => parK (loose 5 0 a.op) a.tk ++ [mk 39]
 | .add a b => parK (loose 6 0 a.op) a.tk ++ mk 43 :: parK (loose 6 1 b.op) b.tk
 | .sub a b => parK (loose 7 0 a.op) a.tk ++ mk 45 :: parK (loose 7 1 b.op) b.tk
 | .mul a b => parK (loose 8 0 a.op) a.tk ++ mk 42 :: parK (loose 8 1 b.op) b.tk
 | .pow a n => parK (loose 9 0 a.op) a.tk ++ [mk 94, numK n]
 | .call x l => (2, x) :: mk 40 :: (l.tk ++ [mk 41])
def Exs.tk : Exs → List KT
 | .nil => []
 | .cons a l => a.tk ++ l.tkTail
def Exs.tkTail : Exs → List KT
 | .nil => []
 | .cons a l => mk 44 :: (a.tk ++ l.tkTail)
end
def Ln.tk : Ln → List KT
 | .nothing => []
 | .lets x e => (2, letB) :: (2, x) :: mk 61 :: e.tk
 | .cmd x l => (2, x) :: l.tk
def MatOk (m : MatV) : Prop := m.rows ≤ 64 ∧ m.cols ≤ 64 ∧ m.at_.length = m.rows * m.cols ∧ ∀ x ∈ m.at_, x.1 = true → 0 < x.2
def CpxOk (l : List (List Nat)) : Prop := ∀ s ∈ l, s ≠ []
def NameOk (x : Bytes) : Prop := ∃ c, Toks 1 (chars x) = .ok [(2, x, c)]
mutual
def Ex.wf : Ex → Prop
 | .num _ => True
 | .name x => NameOk x
 | .mat m => MatOk m
 | .cpx l => CpxOk l
 | .neg a => a.wf | .turn a => a.wf
 | .add a b => a.wf ∧ b.wf | .sub a b => a.wf ∧ b.wf | .mul a b => a.wf ∧ b.wf
 | .pow a _ => a.wf
 | .call x l => NameOk x ∧ l ≠ .nil ∧ l.wf
def Exs.wf : Exs → Prop
 | .nil => True
 | .cons a l => a.wf ∧ l.wf
end
def Ln.wf : Ln → Prop
 | .nothing => True
 | .lets x e => NameOk x ∧ e.wf
 | .cmd x l => NameOk x ∧ x ≠ letB ∧ l.wf
theorem isMark_kind {k : Nat} (hk : k ≠ 3) (x y : Bytes) (c : Nat) (ts : List Tok) : isMark x ((k, y, c) :: ts) = false := by simp [isMark, hk]
theorem number_is (fin : Nat) {n o : Nat} {ts r : List Tok} (h : Is ts [numK n] r) : number fin ⟨ts, o⟩ = ret n ⟨r, o⟩ := by
 obtain ⟨c, ts', rfl, h3⟩ := h.cons
 have e := Is.nil h3
 subst e
 unfold number
 rw [if_pos (by rfl)]
 show ret (valOf (decT n)) _ = _
 rw [valOf_decT]; rfl
end SynP
