/- Joined texts of this claim's proof: SynS, SynW, Pa1. -/
import Derived.Test.YtgfmiladfeoldaaGreatDoorPk28
import Derived.Test.YtgfmiladfeoldaaGreatDoorPk3
import Derived.Test.YtgfmiladfeoldaaGreatDoorPk24
import Derived.Test.YtgfmiladfeoldaaGreatDoorPk33
import Derived.Test.YtgfmiladfeoldaaGreatDoorPk32
import Derived.Test.YtgfmiladfeoldaaGreatDoorPk34
set_option linter.unusedSimpArgs false
set_option linter.unusedVariables false
namespace SynP
open LexP
def mapT (φ : Nat → Nat) (l : List Tok) : List Tok := l.map fun t => (t.1, t.2.1, φ t.2.2)
def mpS (φ : Nat → Nat) (s : St) : St := ⟨mapT φ s.ts, s.opened⟩
def mpR {α : Type} (φ : Nat → Nat) : PR α → PR α
 | none => none
 | some (.error (c, k)) => some (.error (φ c, k))
 | some (.ok (a, s)) => some (.ok (a, mpS φ s))
section
variable {φ : Nat → Nat} {α β : Type}
theorem mp_bind {x x' : PR α} {f f' : α → St → PR β} (hx : x' = mpR φ x) (hf : ∀ a s, f' a (mpS φ s) = mpR φ (f a s)) : x'.bind f' = mpR φ (x.bind f) := by
 subst hx
 rcases x with - | (⟨c, k⟩ | ⟨a, s⟩)
 ·rfl
 ·rfl
 ·exact hf a s
theorem mp_if {c : Prop} [Decidable c] {A A' B B' : PR α} (h1 : c → A' = mpR φ A) (h2 : ¬ c → B' = mpR φ B) : (if c then A' else B') = mpR φ (if c then A else B) := by
 by_cases h : c
 ·rw [if_pos h, if_pos h]; exact h1 h
 ·rw [if_neg h, if_neg h]; exact h2 h
theorem mp_mark (x : Bytes) (s : St) : isMark x (mpS φ s).ts = isMark x s.ts := by
 obtain ⟨ts, o⟩ := s
 cases ts <;> rfl
theorem mp_kind (k : Nat) (s : St) : isKind k (mpS φ s).ts = isKind k s.ts := by
 obtain ⟨ts, o⟩ := s
 cases ts <;> rfl
theorem mp_head (s : St) : headText (mpS φ s).ts = headText s.ts := by
 obtain ⟨ts, o⟩ := s
 cases ts <;> rfl
theorem mp_adv (s : St) : (mpS φ s).adv = mpS φ s.adv := by
 obtain ⟨ts, o⟩ := s
 cases ts <;> rfl
theorem mp_mark1 (x : Bytes) (s : St) : isMark x (mpS φ s).ts.tail = isMark x s.ts.tail := by
 obtain ⟨ts, o⟩ := s
 rcases ts with - | ⟨a, - | ⟨b, l⟩⟩ <;> rfl
theorem mp_nil (s : St) : ((mpS φ s).ts = []) = (s.ts = []) := by
 obtain ⟨ts, o⟩ := s
 cases ts <;> simp [mpS, mapT]
theorem mp_col (fin : Nat) (s : St) : colOf (φ fin) (mpS φ s).ts = φ (colOf fin s.ts) := by
 obtain ⟨ts, o⟩ := s
 cases ts <;> rfl
theorem mp_unfit (fin : Nat) (s : St) : (unfit (φ fin) (mpS φ s) : PR α) = mpR φ (unfit fin s) := by
 unfold unfit; rw [mp_col]; rfl
theorem mp_want (fin : Nat) (x : Bytes) (s : St) : want (φ fin) x (mpS φ s) = mpR φ (want fin x s) := by
 unfold want
 simp only [mp_mark, mp_adv]
 exact mp_if (fun _ => rfl) (fun _ => mp_unfit _ _)
theorem mp_number (fin : Nat) (s : St) : number (φ fin) (mpS φ s) = mpR φ (number fin s) := by
 unfold number
 simp only [mp_kind, mp_adv, mp_head]
 exact mp_if (fun _ => rfl) (fun _ => mp_unfit _ _)
theorem mp_name (fin : Nat) (s : St) : name (φ fin) (mpS φ s) = mpR φ (name fin s) := by
 unfold name
 simp only [mp_kind, mp_adv, mp_head]
 exact mp_if (fun _ => rfl) (fun _ => mp_unfit _ _)
theorem mp_entryRow (fin : Nat) : ∀ (f n : Nat) (acc : List (Bool × Nat)) (s : St), entryRow (φ fin) f n acc (mpS φ s) = mpR φ (entryRow fin f n acc s)
 | 0, _, _, _ => rfl
 | f + 1, n, acc, s => by
  rw [entryRow, entryRow]
  simp only [mp_mark, mp_kind, mp_adv]
  refine mp_if (fun _ => ?_) (fun _ => rfl)
  refine mp_bind ?_ (fun m s' => mp_entryRow fin f _ _ s')
  cases isMark [45] s.ts
  ·exact mp_number fin s
  ·exact mp_number fin s.adv
theorem mp_entries (fin : Nat) : ∀ (f : Nat) (acc : List (Bool × Nat)) (lens : List Nat) (s : St), entries (φ fin) f acc lens (mpS φ s) = mpR φ (entries fin f acc lens s)
 | 0, _, _, _ => rfl
 | f + 1, acc, lens, s => by
  rw [entries, entries]
  refine mp_bind (mp_entryRow fin f _ _ _) (fun r s => ?_)
  simp only [mp_mark, mp_adv]
  refine mp_if (fun _ => rfl) (fun _ => ?_)
  exact mp_bind (mp_want fin _ s) (fun _ s => mp_entries fin f _ _ s)
theorem mp_matShape (fin col : Nat) (s : St) : matShape (φ fin) (φ col) (mpS φ s) = mpR φ (matShape fin col s) := by
 unfold matShape
 refine mp_bind (mp_number fin s) (fun r s => mp_bind (mp_want fin _ s) (fun _ s => mp_bind (mp_number fin s) (fun c s => mp_bind (mp_want fin _ s) (fun _ s => ?_))))
 exact mp_if (fun _ => rfl) (fun _ => rfl)
theorem mp_matDone (col : Nat) (a : List (Bool × Nat) × List Nat) (s : St) : matDone (φ col) a (mpS φ s) = mpR φ (matDone col a s) := by
 unfold matDone
 exact mp_if (fun _ => rfl) (fun _ => mp_if (fun _ => rfl) (fun _ => rfl))
theorem mp_matrix (fin f : Nat) (s : St) : matrix (φ fin) f (mpS φ s) = mpR φ (matrix fin f s) := by
 unfold matrix
 rw [mp_col]
 refine mp_bind (mp_want fin _ s) (fun _ s' => ?_)
 simp only [mp_kind, mp_mark1]
 refine mp_if (fun _ => mp_matShape fin _ s') (fun _ => ?_)
 exact mp_bind (mp_entries fin f _ _ s') (fun a s => mp_matDone _ a s)
theorem mp_simplex (fin : Nat) : ∀ (f : Nat) (acc : List Nat) (s : St), simplex (φ fin) f acc (mpS φ s) = mpR φ (simplex fin f acc s)
 | 0, _, _ => rfl
 | f + 1, acc, s => by
  rw [simplex, simplex]
  simp only [mp_kind]
  refine mp_if (fun _ => ?_) (fun _ => rfl)
  exact mp_bind (mp_number fin s) (fun n s => mp_simplex fin f _ s)
theorem mp_cpxLoop (fin : Nat) : ∀ (f : Nat) (acc : List (List Nat)) (s : St), cpxLoop (φ fin) f acc (mpS φ s) = mpR φ (cpxLoop fin f acc s)
 | 0, _, _ => rfl
 | f + 1, acc, s => by
  rw [cpxLoop, cpxLoop]
  refine mp_bind (mp_number fin s) (fun n s => mp_bind (mp_simplex fin f _ s) (fun x s => ?_))
  simp only [mp_mark, mp_adv]
  refine mp_if (fun _ => rfl) (fun _ => ?_)
  exact mp_bind (mp_want fin _ s) (fun _ s => mp_cpxLoop fin f _ s)
theorem mp_complex (fin f : Nat) (s : St) : complex (φ fin) f (mpS φ s) = mpR φ (complex fin f s) := by
 unfold complex
 refine mp_bind (mp_want fin _ s) (fun _ s => ?_)
 simp only [mp_mark, mp_adv]
 exact mp_if (fun _ => rfl) (fun _ => mp_cpxLoop fin f _ s)
theorem mp_minuses : ∀ (f n : Nat) (s : St), minuses f n (mpS φ s) = mpR φ (minuses f n s)
 | 0, _, _ => rfl
 | f + 1, n, s => by
  rw [minuses, minuses]
  simp only [mp_mark, mp_adv]
  exact mp_if (fun _ => mp_minuses f _ _) (fun _ => rfl)
theorem mp_turns : ∀ (f : Nat) (k : Ex) (s : St), turns f k (mpS φ s) = mpR φ (turns f k s)
 | 0, _, _ => rfl
 | f + 1, k, s => by
  rw [turns, turns]
  simp only [mp_mark, mp_adv]
  exact mp_if (fun _ => mp_turns f _ _) (fun _ => rfl)
theorem mp_openB (fin : Nat) (s : St) : openB (φ fin) (mpS φ s) = mpR φ (openB fin s) := by
 unfold openB
 rw [mp_col]
 refine mp_if (fun _ => rfl) (fun _ => ?_)
 rw [mp_adv]; rfl
theorem mp_closeB (fin : Nat) (s : St) : closeB (φ fin) (mpS φ s) = mpR φ (closeB fin s) := by
 unfold closeB
 exact mp_bind (mp_want fin _ s) (fun _ s => rfl)
structure AllMp (φ : Nat → Nat) (fin f : Nat) : Prop where
 ex : ∀ s, expr (φ fin) f (mpS φ s) = mpR φ (expr fin f s)
 exl : ∀ k s, exprLoop (φ fin) f k (mpS φ s) = mpR φ (exprLoop fin f k s)
 te : ∀ s, term (φ fin) f (mpS φ s) = mpR φ (term fin f s)
 tel : ∀ k s, termLoop (φ fin) f k (mpS φ s) = mpR φ (termLoop fin f k s)
 fa : ∀ s, factor (φ fin) f (mpS φ s) = mpR φ (factor fin f s)
 po : ∀ s, post (φ fin) f (mpS φ s) = mpR φ (post fin f s)
 at_ : ∀ s, atom (φ fin) f (mpS φ s) = mpR φ (atom fin f s)
 pa : ∀ s, parts (φ fin) f (mpS φ s) = mpR φ (parts fin f s)
 pal : ∀ k s, partsLoop (φ fin) f k (mpS φ s) = mpR φ (partsLoop fin f k s)
theorem all_mp (φ : Nat → Nat) (fin : Nat) : ∀ f, AllMp φ fin f
 | 0 => by
  constructor <;> intros
  ·rw [expr, expr]; rfl
  ·rw [exprLoop, exprLoop]; rfl
  ·rw [term, term]; rfl
  ·rw [termLoop, termLoop]; rfl
  ·rw [factor, factor]; rfl
  ·rw [post, post]; rfl
  ·rw [atom, atom]; rfl
  ·rw [parts, parts]; rfl
  ·rw [partsLoop, partsLoop]; rfl
 | f + 1 => by
  have ih := all_mp φ fin f
  constructor
  ·intro s
   rw [expr, expr]
   exact mp_bind (ih.te s) (fun k s => ih.exl k s)
  ·intro k s
   rw [exprLoop, exprLoop]
   simp only [mp_mark, mp_adv]
   refine mp_if (fun _ => ?_) (fun _ => mp_if (fun _ => ?_) (fun _ => rfl))
   ·exact mp_bind (ih.te _) (fun t s => ih.exl _ s)
   ·exact mp_bind (ih.te _) (fun t s => ih.exl _ s)
  ·intro s
   rw [term, term]
   exact mp_bind (ih.fa s) (fun k s => ih.tel k s)
  ·intro k s
   rw [termLoop, termLoop]
   simp only [mp_mark, mp_adv]
   refine mp_if (fun _ => ?_) (fun _ => rfl)
   exact mp_bind (ih.fa _) (fun t s => ih.tel _ s)
  ·intro s
   rw [factor, factor]
   refine mp_bind (mp_minuses f 0 s) (fun n s => mp_bind (ih.po s) (fun k s => ?_))
   simp only [mp_mark, mp_adv]
   refine mp_if (fun _ => ?_) (fun _ => rfl)
   exact mp_bind (mp_number fin s.adv) (fun m s => rfl)
  ·intro s
   rw [post, post]
   exact mp_bind (ih.at_ s) (fun k s => mp_turns f k s)
  ·intro s
   rw [atom, atom]
   simp only [mp_kind, mp_mark, mp_mark1]
   refine mp_if (fun _ => mp_bind (mp_number fin s) (fun _ _ => rfl)) (fun _ => mp_if (fun _ => ?_) (fun _ => mp_if (fun _ => mp_bind (mp_name fin s) (fun _ _ => rfl)) (fun _ => mp_if (fun _ => ?_) (fun _ => mp_if (fun _ => ?_) (fun _ => mp_if (fun _ => ?_) (fun _ => mp_unfit fin s))))))
   ·exact mp_bind (mp_name fin s) (fun x s => mp_bind (mp_openB fin s) (fun _ s => mp_bind (ih.pa s) (fun ks s => mp_bind (mp_closeB fin s) (fun _ _ => rfl))))
   ·exact mp_bind (mp_openB fin s) (fun _ s => mp_bind (ih.ex s) (fun ks s => mp_bind (mp_closeB fin s) (fun _ _ => rfl)))
   ·exact mp_bind (mp_matrix fin f s) (fun _ _ => rfl)
   ·exact mp_bind (mp_complex fin f s) (fun _ _ => rfl)
  ·intro s
   rw [parts, parts]
   exact mp_bind (ih.ex s) (fun k s => ih.pal _ s)
  ·intro k s
   rw [partsLoop, partsLoop]
   simp only [mp_mark, mp_adv]
   refine mp_if (fun _ => ?_) (fun _ => rfl)
   exact mp_bind (ih.ex _) (fun t s => ih.pal _ s)
theorem mp_done (fin : Nat) (a : α) (s : St) : done (φ fin) a (mpS φ s) = mpR φ (done fin a s) := by
 unfold done
 simp only [mp_nil]
 exact mp_if (fun _ => rfl) (fun _ => mp_unfit fin s)
theorem mp_line (fin f : Nat) (s : St) : line (φ fin) f (mpS φ s) = mpR φ (line fin f s) := by
 have ih := all_mp φ fin f
 unfold line
 simp only [mp_nil, mp_kind, mp_head, mp_adv]
 refine mp_if (fun _ => rfl) (fun _ => mp_if (fun _ => ?_) (fun _ => ?_))
 ·exact mp_bind (mp_name fin _) (fun x s => mp_bind (mp_want fin _ s) (fun _ s => mp_bind (ih.ex s) (fun e s => mp_done fin _ s)))
 ·refine mp_bind (mp_name fin s) (fun x s => ?_)
  simp only [mp_nil]
  exact mp_if (fun _ => mp_done fin _ s) (fun _ => mp_bind (ih.pa s) (fun ks s => mp_done fin _ s))
end
theorem mapT_id {φ : Nat → Nat} : ∀ {l : List Tok}, (∀ t ∈ l, φ t.2.2 = t.2.2) → mapT φ l = l
 | [], _ => rfl
 | t :: l, h => by
  show (t.1, t.2.1, φ t.2.2) :: mapT φ l = t :: l
  rw [mapT_id (fun u hu => h u (List.mem_cons_of_mem _ hu)), h t (by simp)]
theorem mpS_id {φ : Nat → Nat} {ts : List Tok} {o : Nat} (h : ∀ t ∈ ts, φ t.2.2 = t.2.2) : mpS φ ⟨ts, o⟩ = ⟨ts, o⟩ := by
 show St.mk (mapT φ ts) o = _
 rw [mapT_id h]
theorem line_fin {fin fin' f : Nat} {ts : List Tok} {o : Nat} {r : Ln × St} (hc : ∀ t ∈ ts, t.2.2 < fin) (h : line fin f ⟨ts, o⟩ = some (.ok r)) : ∃ s', line fin' f ⟨ts, o⟩ = some (.ok (r.1, s')) := by
 have e := mp_line (φ := fun c => if c = fin then fin' else c) fin f ⟨ts, o⟩
 have e1 : mpS (fun c => if c = fin then fin' else c) ⟨ts, o⟩ = ⟨ts, o⟩ := mpS_id (fun t ht => by
  have := hc t ht
  show (if t.2.2 = fin then fin' else t.2.2) = t.2.2
  rw [if_neg (by omega)])
 rw [e1, h] at e
 simp only [if_true] at e
 exact ⟨_, e⟩
end SynP
namespace SynP
open LexP
theorem after_ok {r : Res} {t : List Tok} {ts : List Tok} (h : r.after t = .ok ts) : ∃ m, r = .ok m ∧ ts = t ++ m := by
 cases r with
 | error e => cases h
 | ok m => exact ⟨m, rfl, by simpa [Res.after] using h.symm⟩
theorem notBad_kd {c : C} (h : kd c ≠ 0) : notBad c = true := by simp [notBad, h]
theorem Toks_clean : ∀ (A : List C) (col : Nat) (ts : List Tok), Toks col A = .ok ts → A.all notBad = true := by
 intro A col ts h
 refine (Toks_ind (P := fun _ A r => (∃ l, r = Except.ok l) → A.all notBad = true) ?_ ?_ ?_ ?_ ?_ A col) ⟨ts, h⟩
 ·intro _ _; rfl
 ·intro col c A hk ih hr
  rw [List.all_cons, ih hr, notBad_kd (by omega)]; rfl
 ·intro col c A hk hr
  obtain ⟨l, hl⟩ := hr
  split at hl
  ·cases hl
  ·rename_i hn
   have h1 := runLen_le notBad (c :: A)
   have h2 := takeWhile_all (p := notBad) (c :: A)
   rw [show runLen notBad (c :: A) = (c :: A).length from by omega, List.take_length] at h2
   exact List.all_eq_true.2 h2
 ·intro col c A e _ _ _ hr
  obtain ⟨l, hl⟩ := hr
  cases hl
 ·intro col c A n k t _ _ _ h1 h2 h3 ih hr
  obtain ⟨l, hl⟩ := hr
  obtain ⟨m, hm, -⟩ := after_ok hl
  have h4 := ih ⟨m, hm⟩
  rw [← List.take_append_drop n (c :: A), List.all_append, h4, List.all_eq_true.2 h3]; rfl
theorem Toks_tail {g : C} {B : List C} (hg : kd g = 1 ∨ kd g = 2) (hr : rn g ≠ 95) (hB : ∀ k, Toks k (g :: B) = .ok []) (hb : (g :: B).all notBad = true) :
  ∀ (n : Nat) (A : List C) (col : Nat) (ts : List Tok), A.length ≤ n → Toks col A = .ok ts → Toks col (A ++ g :: B) = .ok ts := by
 have hnum : isNum g = false := by rcases hg with h | h <;> simp [isNum, h, hr]
 have hal : isAl g = false := by rcases hg with h | h <;> simp [isAl, h]
 intro n
 induction n with
 | zero =>
  intro A col ts hl h
  obtain rfl : A = [] := List.eq_nil_of_length_eq_zero (by omega)
  rw [Toks_nil] at h
  rw [List.nil_append, hB, ← h]
 | succ n ih =>
  intro A col ts hl h
  cases A with
  | nil =>
   rw [Toks_nil] at h
   rw [List.nil_append, hB, ← h]
  | cons c A =>
   simp only [List.length_cons] at hl
   have hk := kd_le c
   have key : ∀ (p : C → Bool) (hp : p g = false) (hpc : p c = true) (t : Tok),
     (Toks (col + runLen p (c :: A)) ((c :: A).drop (runLen p (c :: A)))).after [t] = .ok ts →
     (Toks (col + runLen p (c :: A)) ((c :: A ++ g :: B).drop (runLen p (c :: A)))).after [t] = .ok ts := by
    intro p hp hpc t h
    have h1 := runLen_pos (cs := A) hpc
    have h3 := runLen_le p (c :: A)
    obtain ⟨m, hm, e⟩ := after_ok h
    rw [List.drop_append_of_le_length h3, ih _ _ m (by simp only [List.length_drop, List.length_cons]; omega) hm, e]; rfl
   have take_eq : ∀ (p : C → Bool), (c :: A ++ g :: B).take (runLen p (c :: A)) = (c :: A).take (runLen p (c :: A)) := fun p => List.take_append_of_le_length (runLen_le p _)
   by_cases k0 : kd c = 0
   ·rw [Toks_bad _ k0] at h; cases h
   by_cases k1 : kd c = 1
   ·rw [Toks_blank _ k1] at h
    rw [List.cons_append, Toks_blank _ k1]; exact ih A _ ts (by omega) h
   by_cases k2 : kd c = 2
   ·have hcl := Toks_clean _ _ _ h
    rw [Toks_hash _ k2] at h
    split at h
    ·cases h
    ·cases h
     rw [List.cons_append, Toks_hash _ k2, if_neg]
     have hall : ∀ d ∈ c :: (A ++ g :: B), notBad d = true := by
      rw [← List.cons_append]
      intro d hd
      rcases List.mem_append.1 hd with hd | hd
      ·exact List.all_eq_true.1 hcl d hd
      ·exact List.all_eq_true.1 hb d hd
     rw [run_full hall]; omega
   by_cases k3 : kd c = 3
   ·rw [Toks_num _ k3] at h
    rw [List.cons_append, Toks_num _ k3]
    rw [← List.cons_append, runLen_stop hnum, take_eq]
    split at h
    ·cases h
    ·rename_i hc
     rw [if_neg hc]
     exact key isNum hnum (by simp [isNum, k3]) _ h
   by_cases k4 : kd c = 4
   ·rw [Toks_name _ k4] at h
    rw [List.cons_append, Toks_name _ k4]
    rw [← List.cons_append, runLen_stop hal, take_eq]
    split at h
    ·cases h
    ·rename_i hc
     rw [if_neg hc]
     exact key isAl hal (by simp [isAl, k4]) _ h
   by_cases k5 : kd c = 5
   ·rw [Toks_mark _ k5] at h
    obtain ⟨m, hm, e⟩ := after_ok h
    rw [List.cons_append, Toks_mark _ k5, ih A _ m (by omega) hm, e]; rfl
   ·have k6 : kd c = 6 := by omega
    rw [Toks_other _ k6] at h; cases h
def parseV (l : Bytes) : Except (Nat × Nat) Ln :=
 match Toks 1 (chars l) with
 | .error e => .error e
 | .ok ts =>
  match line ((chars l).length + 1) (10 * ts.length + 9) ⟨ts, 0⟩ with
  | none => .error (0, 0)
  | some (.error e) => .error e
  | some (.ok (n, _)) => if 4096 < n.size then .error (1, 5) else .ok n
theorem parseV_tok {l : Bytes} {e : Nat × Nat} (h : Toks 1 (chars l) = .error e) : parseV l = .error e := by unfold parseV; rw [h]
theorem parseV_err {l : Bytes} {ts : List Tok} {e : Nat × Nat} (h : Toks 1 (chars l) = .ok ts) (k : line ((chars l).length + 1) (10 * ts.length + 9) ⟨ts, 0⟩ = some (.error e)) : parseV l = .error e := by
 unfold parseV; rw [h]; simp only [k]
theorem parseV_ok {l : Bytes} {ts : List Tok} {n : Ln} {s : St} (h : Toks 1 (chars l) = .ok ts) (k : line ((chars l).length + 1) (10 * ts.length + 9) ⟨ts, 0⟩ = some (.ok (n, s))) : parseV l = if 4096 < n.size then .error (1, 5) else .ok n := by
 unfold parseV; rw [h]; simp only [k]
theorem parseV_pad {P : Bytes} {k : Nat} (hp : Pad P k) (l : Bytes) :
  (∃ n, parseV l = .ok n ∧ parseV (P ++ l) = .ok n) ∨ (∃ c e, parseV l = .error (c, e) ∧ (parseV (P ++ l) = .error (c + k, e) ∨ (c = 1 ∧ e = 5 ∧ parseV (P ++ l) = .error (1, 5)))) := by
 obtain ⟨-, cs, h1, h2, h3⟩ := hp
 have hl : (chars (P ++ l)).length + 1 = ((chars l).length + 1) + k := by rw [h3, List.length_append, h2]; omega
 have ht : Toks 1 (chars (P ++ l)) = shiftR k (Toks 1 (chars l)) := by
  rw [h3, Toks_blanks cs 1 _ h1, h2]
  exact Toks_shift k _ _ _ (Nat.le_refl _)
 cases hT : Toks 1 (chars l) with
 | error e =>
  obtain ⟨c, e⟩ := e
  rw [hT] at ht
  exact .inr ⟨c, e, parseV_tok hT, .inl (parseV_tok ht)⟩
 | ok ts =>
  rw [hT] at ht
  have ht' : Toks 1 (chars (P ++ l)) = .ok (shiftT k ts) := ht
  have hm := mp_line (φ := fun c => c + k) ((chars l).length + 1) (10 * ts.length + 9) ⟨ts, 0⟩
  have hln : (shiftT k ts).length = ts.length := by simp [shiftT]
  have hm' : line ((chars (P ++ l)).length + 1) (10 * (shiftT k ts).length + 9) ⟨shiftT k ts, 0⟩ = mpR (fun c => c + k) (line ((chars l).length + 1) (10 * ts.length + 9) ⟨ts, 0⟩) := by
   rw [hl, hln]; exact hm
  have hg := good_line ((chars l).length + 1) ⟨ts, 0⟩
  rcases hL : line ((chars l).length + 1) (10 * ts.length + 9) ⟨ts, 0⟩ with - | (⟨c, e⟩ | ⟨n, s⟩)
  ·simp only [hL] at hg
   exact hg.elim
  ·rw [hL] at hm'
   exact .inr ⟨c, e, parseV_err hT hL, .inl (parseV_err ht' hm')⟩
  ·rw [hL] at hm'
   have e1 := parseV_ok hT hL
   have e2 := parseV_ok ht' hm'
   by_cases hn : 4096 < n.size
   ·rw [if_pos hn] at e1 e2
    exact .inr ⟨1, 5, e1, .inr ⟨rfl, rfl, e2⟩⟩
   ·rw [if_neg hn] at e1 e2
    exact .inl ⟨n, e1, e2⟩
theorem parseV_tail {P : Bytes} {k : Nat} (hp : Pad P k) {R : Bytes} {h : C} {B : List C} (hR : chars R = h :: B) (hh : kd h = 2) (hb : (h :: B).all notBad = true) (hr : rn h ≠ 95) {l : Bytes} {n : Ln} (hl : parseV l = .ok n) : parseV (l ++ (P ++ R)) = .ok n := by
 obtain ⟨-, cs, h1, h2, h3⟩ := hp
 cases hT : Toks 1 (chars l) with
 | error e => rw [parseV_tok hT] at hl; cases hl
 | ok ts =>
  have hc := Toks_clean _ _ _ hT
  have hch : chars (l ++ (P ++ R)) = chars l ++ (cs ++ h :: B) := by rw [chars_append_ok _ _ hc, h3, hR]
  have hH : ∀ k, Toks k (h :: B) = .ok [] := by
   intro k
   rw [Toks_hash _ hh, if_neg]
   rw [run_full (fun d hd => List.all_eq_true.1 hb d hd)]; omega
  have hB : ∀ k, Toks k (cs ++ h :: B) = .ok [] := by
   intro k
   rw [Toks_blanks cs k _ h1]; exact hH _
  have hbb : (cs ++ h :: B).all notBad = true := by
   rw [List.all_append, hb, Bool.and_true]
   exact List.all_eq_true.2 fun c hc => notBad_kd (by rw [h1 c hc]; decide)
  have hT2 : Toks 1 (chars (l ++ (P ++ R))) = .ok ts := by
   rw [hch]
   cases cs with
   | nil => exact Toks_tail (.inr hh) hr hB hbb _ _ _ _ (Nat.le_refl _) hT
   | cons g cs =>
    refine Toks_tail (.inl (h1 g (by simp))) ?_ hB hbb _ _ _ _ (Nat.le_refl _) hT
    intro e
    have := h1 g (by simp)
    obtain ⟨v, t⟩ := g
    cases v with
    | none => cases this
    | some v =>
     have ev : v = 95 := e
     subst ev
     have h5 : kindOf 95 = 1 := this
     exact absurd h5 (by decide)
  have hg := good_line ((chars l).length + 1) ⟨ts, 0⟩
  rcases hL : line ((chars l).length + 1) (10 * ts.length + 9) ⟨ts, 0⟩ with - | (⟨c, e⟩ | ⟨m, s⟩)
  ·simp only [hL] at hg
   exact hg.elim
  ·rw [parseV_err hT hL] at hl; cases hl
  ·rw [parseV_ok hT hL] at hl
   obtain ⟨s', hs'⟩ := line_fin (fin' := (chars (l ++ (P ++ R))).length + 1) (fun t ht => by have := (Toks_bounds _ _ _ hT).2 t ht; omega) hL
   rw [parseV_ok hT2 hs']; exact hl
theorem parseV_fault {l : Bytes} {c e : Nat} (h : parseV l = .error (c, e)) : 0 < e ∧ 1 ≤ c := by
 cases hT : Toks 1 (chars l) with
 | error e =>
  rw [parseV_tok hT] at h
  cases h
  have := Toks_err _ _ _ hT
  exact ⟨this.1, this.2.1⟩
 | ok ts =>
  have hg := good_line ((chars l).length + 1) ⟨ts, 0⟩
  rcases hL : line ((chars l).length + 1) (10 * ts.length + 9) ⟨ts, 0⟩ with - | (⟨c', e'⟩ | ⟨m, s⟩)
  ·simp only [hL] at hg
   exact hg.elim
  ·rw [parseV_err hT hL] at h
   cases h
   simp only [hL] at hg
   refine ⟨hg, ?_⟩
   have hm := mp_line (φ := fun c => max c 1) ((chars l).length + 1) (10 * ts.length + 9) ⟨ts, 0⟩
   have e1 : mpS (fun c => max c 1) ⟨ts, 0⟩ = ⟨ts, 0⟩ := mpS_id (fun t ht => by
    have := (Toks_bounds _ _ _ hT).2 t ht
    show max t.2.2 1 = t.2.2
    omega)
   rw [e1, hL] at hm
   have e2 : max ((chars l).length + 1) 1 = (chars l).length + 1 := by omega
   simp only [e2, hL, mpR] at hm
   injection hm with hm
   injection hm with hm
   injection hm with hm _
   omega
  ·rw [parseV_ok hT hL] at h
   split at h
   ·cases h; exact ⟨by decide, by decide⟩
   ·cases h
end SynP
namespace Go.Proofs.YtgfmiladfeoldaaGreatDoor
open Go.RowKit NatP LexP
theorem below_next {a b c : World} (h : Below a.heap.size a b) (k : Below b.heap.size b c) : Below a.heap.size a c := h.trans (k.mono h.size)
def Fits (l : Bytes) : Prop := l.length ≤ 67108864
theorem toks_lb : ∀ (n : Nat) (cs : List C) (col : Nat) (ts : List Tok), cs.length ≤ n → Toks col cs = .ok ts → (ts.map fun t => t.2.1.length + 1).sum ≤ (bytesOf cs).length + 2 * cs.length := by
 intro n
 induction n with
 | zero =>
  intro cs col ts hl h
  rw [List.eq_nil_of_length_eq_zero (Nat.le_zero.1 hl), Toks_nil] at h
  cases h
  exact Nat.zero_le _
 | succ n ih =>
  intro cs col ts hl h
  cases cs with
  | nil =>
   rw [Toks_nil] at h
   cases h
   exact Nat.zero_le _
  | cons c cs =>
   have step : ∀ (k col : Nat) (m : List Tok), 1 ≤ k → Toks col ((c :: cs).drop k) = .ok m → (m.map fun t => t.2.1.length + 1).sum + (bytesOf ((c :: cs).take k)).length + 2 ≤ (bytesOf (c :: cs)).length + 2 * (c :: cs).length := by
    intro k col m hk hm
    have e := congrArg List.length (SynP.bytes_split k (c :: cs))
    rw [List.length_append] at e
    have hd : ((c :: cs).drop k).length + 1 ≤ (c :: cs).length := by rw [List.length_drop, List.length_cons]; omega
    have := ih _ _ _ (by omega) hm
    omega
   have hk := kd_le c
   by_cases k0 : kd c = 0
   ·rw [Toks_bad _ k0] at h; cases h
   by_cases k1 : kd c = 1
   ·rw [Toks_blank _ k1] at h
    have := step 1 _ _ (Nat.le_refl _) h
    omega
   by_cases k2 : kd c = 2
   ·rw [Toks_hash _ k2] at h
    split at h
    ·cases h
    ·cases h
     exact Nat.zero_le _
   by_cases k3 : kd c = 3
   ·rw [Toks_num _ k3] at h
    split at h
    ·cases h
    ·obtain ⟨m, hm, rfl⟩ := SynP.after_mem h
     have := step _ _ _ (runLen_pos (p := isNum) (c := c) (cs := cs) (by simp [isNum, k3])) hm
     rw [List.map_append, List.sum_append]
     simp only [List.map_cons, List.map_nil, List.sum_cons, List.sum_nil]
     omega
   by_cases k4 : kd c = 4
   ·rw [Toks_name _ k4] at h
    split at h
    ·cases h
    ·obtain ⟨m, hm, rfl⟩ := SynP.after_mem h
     have := step _ _ _ (runLen_pos (p := isAl) (c := c) (cs := cs) (by simp [isAl, k4])) hm
     rw [List.map_append, List.sum_append]
     simp only [List.map_cons, List.map_nil, List.sum_cons, List.sum_nil]
     omega
   by_cases k5 : kd c = 5
   ·rw [Toks_mark _ k5] at h
    obtain ⟨m, hm, rfl⟩ := SynP.after_mem h
    have := step 1 _ _ (Nat.le_refl _) hm
    have e1 : bytesOf ((c :: cs).take 1) = c.2 := by simp [bytesOf]
    rw [e1] at this
    have hs : (signOf c).length ≤ c.2.length + 1 := by
     unfold signOf
     repeat' split
     all_goals simp
    rw [List.map_append, List.sum_append]
    simp only [List.map_cons, List.map_nil, List.sum_cons, List.sum_nil]
    omega
   ·rw [Toks_other _ (by omega)] at h; cases h
theorem Fits.toks {l : Bytes} (h : Fits l) {ts : List Tok} (ht : Toks 1 (chars l) = .ok ts) : ts.length ≤ 67108864 ∧ (ts.map fun t => t.2.1.length + 1).sum ≤ 201326592 := by
 unfold Fits at h
 have h1 := (Toks_bounds _ _ _ ht).1
 have h2 := chars_len l
 have h3 := toks_lb _ _ _ _ (Nat.le_refl _) ht
 rw [bytesOf_chars] at h3
 omega
theorem Fits.good {l : Bytes} (h : Fits l) {ts : List Tok} (ht : Toks 1 (chars l) = .ok ts) : ∀ t ∈ ts, TokOk t := fun t hm h1 => by
 obtain ⟨a, b, c⟩ := toks_nums_of ht t hm h1
 refine ⟨a, b, ?_, c⟩
 have h2 := SynP.toks_text _ _ _ _ (Nat.le_refl _) ht t hm h1
 rw [bytesOf_chars] at h2
 exact Nat.le_trans h2 h
def StP (l : Bytes) (w : World) (e : Ending) (w' : World) : Prop :=
 match Toks 1 (chars l) with
 | .error (c, k) => e = .returned (.tuple #[.pointer none, .int .i64 (c : Nat), .int .i64 (k : Nat)]) ∧ Below w.heap.size w w'
 | .ok ts => ∃ R tv, e = .returned (.tuple #[.pointer (some ⟨R, 0, none⟩), .int .i64 0, .int .i64 0]) ∧ w.heap.size ≤ R ∧ Below w.heap.size w w' ∧ RS w' R tv ts ((chars l).length + 1) 0 ⟨ts, 0⟩ (.slice none 0 0) []
set_option maxRecDepth 100000 in
theorem start_any (s : ByteArray) (w : World) (hf : Fits s.data.toList) (hx : Lx w) (hs : SG w) (hsz : 4 < w.heap.size) :
  Calls Tryz.prog 47 #[.string s] w (StP s.data.toList w) := by
 have HF := Lib.hid hf
 have HX := Lib.hid hx
 have HSG := Lib.hid hs
 have hs4 : s.size ≤ 67108864 := by rw [Lib.size_eq]; exact hf
 clear hf hx hs
 go_enter Tryz.func47, Tryz.ntmps47
 go_wp2_with fail
 refine (tokens_big s _ hs4 HX.out).mono ?_
 rintro e w1 ⟨v, rfl, h1, h2⟩
 cases hT : Toks 1 (chars s.data.toList) with
 | error p =>
  obtain ⟨c, k⟩ := p
  have HT := Lib.hid hT
  have hk0 := (Toks_err _ _ _ hT).1
  have H2 := Lib.hid h2
  clear h1 h2 hT
  have ec : (resCol (.error (c, k)) : Nat) = c := rfl
  have ek : (resErr (.error (c, k)) : Nat) = k := rfl
  rw [ec, ek]
  simp only at hk0
  have hkk : ((k : Int) != 0) = true := by simp; omega
  go_wp2_with fail
  go_ret3
  unfold StP
  rw [HT.out]
  exact ⟨rfl, H2.out⟩
 | ok ts =>
  have HT := Lib.hid hT
  have h1' : w1.ownsRow w.heap.size 119 3 v ts.length (tkCells ts) := by rw [hT] at h1; exact h1
  have H1 := Lib.hid h1'
  obtain ⟨ao, cap, rfl, -, -, -⟩ := ownsRow_shape h1'
  have H2 := Lib.hid h2
  have hcl := SynP.Toks_clean _ _ _ hT
  have HCL : Hid (colRes s.data.toList = ((chars s.data.toList).length, 0)) := by show _ = _; unfold colRes; rw [if_pos hcl]
  have hlen := chars_len s.data.toList
  rw [← Lib.size_eq] at hlen
  clear h1 h1' h2 hT hcl
  have ec : (resCol (.ok ts) : Nat) = 0 := rfl
  have ek : (resErr (.ok ts) : Nat) = 0 := rfl
  rw [ec, ek]
  go_wp2_with fail
  refine (columns_big s _ hs4).mono ?_
  rintro e w2 ⟨rfl, h3⟩
  rw [HCL.out]
  have H3 := Lib.hid h3
  clear h3
  obtain ⟨n, hn⟩ : ∃ n, n = (chars s.data.toList).length := ⟨_, rfl⟩
  rw [← hn] at hlen
  simp only
  rw [← hn]
  have HN := Lib.hid hn
  clear hn
  go_wp2_with fail
  go_ret3
  have hb := below_next H2.out H3.out
  obtain ⟨hts, hsm⟩ := HF.out.toks HT.out
  unfold StP
  rw [HT.out]
  refine ⟨w2.heap.size, .slice ao ts.length cap, rfl, hb.size, below_next hb (below_alloc _ _), ?_⟩
  have hal := below_alloc w2 (.cells #[.slice ao ts.length cap, .int .i64 0, .int .i64 ((n : Int) + 1), .int .i64 0, .slice none 0 0] 85)
  refine { blk := ?_, tks := ?_, drop := rfl, le := Nat.zero_le _, own := World.ownsRow_nil _ _ _ _, kids := (fun p hp => by cases hp), apart := (fun i j p q k h => by simp at h), few := (by show 0 + ts.length ≤ _; omega), deep := Nat.zero_le _, short := hts, sum := hsm, good := HF.out.good HT.out, sg := ?_, sgl := ?_ }
  ·rw [← HN.out]; exact heap_alloc_new w2 _
  ·obtain ⟨ao', cap', e, a1, a2, a3⟩ := ownsRow_shape H1.out
   cases e
   refine ⟨ao, cap, rfl, a1, a2, fun h0 => ?_⟩
   obtain ⟨g, rfl, b1, b2, b3⟩ := a3 h0
   refine ⟨g, rfl, Nat.lt_of_lt_of_le b2 H3.out.size, fun j t hj => ?_⟩
   have hjl := (List.getElem?_eq_some_iff.1 hj).1
   obtain ⟨c1, c2, c3⟩ := tkCells_at ts j t hj
   have hc : ∀ o, (w2.alloc (.cells #[.slice (some ⟨g, 0, none⟩) ts.length cap, .int .i64 0, .int .i64 ((n : Int) + 1), .int .i64 0, .slice none 0 0] 85)).cell? ⟨g, o, none⟩ = w1.cell? ⟨g, o, none⟩ := fun o =>
    (hal.cell (p := ⟨g, o, none⟩) (Nat.lt_of_lt_of_le b2 H3.out.size)).trans (H3.out.cell (p := ⟨g, o, none⟩) b2)
   exact ⟨by rw [hc, b3 _ (by omega)]; exact c1, by rw [hc, b3 _ (by omega)]; exact c2, by rw [hc, b3 _ (by omega), c3]⟩
  ·exact HSG.out.below (below_next hb hal) hsz
  ·exact Nat.lt_of_lt_of_le hsz hb.size
structure Tr (w : World) (B : Nat) (nv : Value) (ns : List Nv) : Prop where
 own : w.ownsRow B 43 3 nv ns.length (ndCells ns)
 kids : ∀ p ∈ ns, KR w B nv.ownBlock p.2 p.1.kids
 apart : ∀ (i j : Nat) (p q : Nv) (k : Nat), ns[i]? = some p → ns[j]? = some q → p.2.ownBlock = some k → q.2.ownBlock = some k → i = j
theorem ownsRow_low {w : World} {B B' k n : Nat} {e : TypeId} {v : Value} {cs : List Value} (h : w.ownsRow B e k v n cs) (hB : B' ≤ B) : w.ownsRow B' e k v n cs := by
 refine ⟨h.1, ?_⟩
 rcases h.2 with hn | ⟨g, cap, cur, rfl, hb, hgg, rest⟩
 ·exact .inl hn
 ·exact .inr ⟨g, cap, cur, rfl, Nat.le_trans hB hb, hgg, rest⟩
theorem KR.low {w : World} {R R' : Nat} {og : Option Nat} {v : Value} {ks : List Nat} (h : KR w R og v ks) (hr : R' ≤ R) : KR w R' og v ks := by
 obtain ⟨ao, cap, rfl, h1, h2, h3, h4⟩ := h
 exact ⟨ao, cap, rfl, h1, h2, fun q hq => ⟨Nat.lt_of_le_of_lt hr (h3 q hq).1, (h3 q hq).2⟩, h4⟩
theorem RS.tr {w : World} {R : Nat} {tv : Value} {L : List Tok} {fin a : Nat} {s : SynP.St} {nv : Value} {ns : List Nv} (h : RS w R tv L fin a s nv ns) {B : Nat} (hB : B ≤ R) : Tr w B nv ns :=
 ⟨ownsRow_low h.own (by omega), fun p hp => (h.kids p hp).low hB, h.apart⟩
def PaP (l : Bytes) (w : World) (e : Ending) (w' : World) : Prop :=
 match SynP.parseV l with
 | .error (c, k) => e = .returned (.tuple #[.slice none 0 0, .int .i64 (c : Nat), .int .i64 (k : Nat)]) ∧ Below w.heap.size w w'
 | .ok n => ∃ nv ns, e = .returned (.tuple #[nv, .int .i64 0, .int .i64 0]) ∧ Below w.heap.size w w' ∧ Tr w' w.heap.size nv ns ∧ ns.map Prod.fst = n.flat
theorem Wr.belowR {R : Nat} {w0 w w' : World} (h : Wr R none w w') (hb : Below w0.heap.size w0 w) (hB : w0.heap.size ≤ R) : Below w0.heap.size w0 w' :=
 ⟨h.os.trans hb.os, h.tape.trans hb.tape, h.output.trans hb.output, Nat.le_trans hb.size h.size, fun k hk => (h.block k (Nat.lt_of_lt_of_le hk hb.size) (by omega) (by simp)).trans (hb.block k hk)⟩
end Go.Proofs.YtgfmiladfeoldaaGreatDoor
