/- Plain laws for LexerRuns: blanks, then one run. No program in sight. -/
import Derived.Test.YtebidhdoiojaeaaLexPure3
import Derived.Test.YtebidhdoiojaeaaLexPure4
namespace LexP

def padB (bs : List Bool) : Bytes := bs.flatMap fun b => if b then [194, 160] else [32]
def padC (bs : List Bool) : List C := bs.map fun b => if b then (some 160, [194, 160]) else (some 32, [32])

theorem dec_nbsp (r : Bytes) : dec (194 :: 160 :: r) = some (160, 2) := by simp [dec, isCont]
theorem chars_pad : ∀ (bs : List Bool) (r : Bytes), chars (padB bs ++ r) = padC bs ++ chars r := by
  intro bs
  induction bs with
  | nil => intro r; rfl
  | cons b bs ih =>
    intro r
    cases b with
    | true =>
      show chars (194 :: 160 :: (padB bs ++ r)) = _
      rw [chars_some (dec_nbsp _)]
      show (some 160, [194, 160]) :: chars (padB bs ++ r) = _
      rw [ih]; rfl
    | false =>
      show chars (32 :: (padB bs ++ r)) = _
      rw [chars_ascii (by decide), ih]; rfl

theorem Toks_pad : ∀ (bs : List Bool) (col : Nat) (cs : List C), Toks col (padC bs ++ cs) = Toks (col + bs.length) cs := by
  intro bs
  induction bs with
  | nil => intro col cs; rfl
  | cons b bs ih =>
    intro col cs
    have : kd (if b then (some 160, [194, 160]) else (some 32, [32]) : C) = 1 := by cases b <;> rfl
    show Toks col ((if b then (some 160, [194, 160]) else (some 32, [32]) : C) :: (padC bs ++ cs)) = _
    rw [Toks_blank col this, ih, List.length_cons]
    congr 1; omega

def letter : Nat → Bytes
  | 0 => [97] | 1 => [90] | 2 => [95] | 3 => [48] | 4 => [57] | 5 => [195, 169] | 6 => [202, 175] | 7 => [205, 191] | 8 => [207, 191] | _ => [55]
def letterC : Nat → C
  | 0 => (some 97, [97]) | 1 => (some 90, [90]) | 2 => (some 95, [95]) | 3 => (some 48, [48]) | 4 => (some 57, [57]) | 5 => (some 233, [195, 169]) | 6 => (some 687, [202, 175]) | 7 => (some 895, [205, 191]) | 8 => (some 1023, [207, 191]) | _ => (some 55, [55])
def numeral : Nat → Bool
  | 2 => true | 3 => true | 4 => true | 9 => true | _ => false
def runB (ps : List Nat) : Bytes := ps.flatMap letter
def runC (ps : List Nat) : List C := ps.map letterC
def numB (ps : List Nat) : Bytes := ps.flatMap fun p => if numeral p then letter p else []

theorem letter_len (p : Nat) : (letter p).length ≤ 2 := by unfold letter; split <;> decide
theorem runB_len (ps : List Nat) : (runB ps).length ≤ 2 * ps.length := by
  induction ps with
  | nil => simp [runB]
  | cons p ps ih =>
    have := letter_len p
    simp only [runB, List.flatMap_cons, List.length_append, List.length_cons] at ih ⊢; omega
theorem numeral_cases (p : Nat) : (numeral p = true ∧ (p = 2 ∨ p = 3 ∨ p = 4 ∨ p = 9)) ∨ numeral p = false := by
  unfold numeral; split <;> simp
theorem numB_len (ps : List Nat) : (numB ps).length ≤ ps.length := by
  induction ps with
  | nil => simp [numB]
  | cons p ps ih =>
    have : (if numeral p then letter p else []).length ≤ 1 := by rcases numeral_cases p with ⟨h, rfl | rfl | rfl | rfl⟩ | h <;> simp [h, letter]
    simp only [numB, List.flatMap_cons, List.length_append, List.length_cons] at ih ⊢; omega
theorem numB_run (ps : List Nat) : numRun (numB ps) := by
  intro c hc
  simp only [numB, List.mem_flatMap] at hc
  obtain ⟨p, -, hp⟩ := hc
  rcases numeral_cases p with ⟨h, rfl | rfl | rfl | rfl⟩ | h <;> simp [h, letter] at hp <;> subst hp <;> simp [NumP.isDig]
theorem padB_len (bs : List Bool) : (padB bs).length ≤ 2 * bs.length := by
  induction bs with
  | nil => simp [padB]
  | cons p ps ih => cases p <;> simp [padB] at ih ⊢ <;> omega

theorem letter_dec (p : Nat) (r : Bytes) : ∃ v, dec (letter p ++ r) = some (v, (letter p).length) ∧ letterC p = (some v, letter p) := by
  unfold letter letterC
  split <;> exact ⟨_, by simp [dec, isCont], rfl⟩
theorem letter_al (p : Nat) : isAl (letterC p) = true := by unfold letterC; split <;> rfl

theorem chars_run : ∀ (ps : List Nat) (r : Bytes), chars (runB ps ++ r) = runC ps ++ chars r := by
  intro ps
  induction ps with
  | nil => intro r; rfl
  | cons p ps ih =>
    intro r
    obtain ⟨v, hd, hc⟩ := letter_dec p (runB ps ++ r)
    have e : runB (p :: ps) ++ r = letter p ++ (runB ps ++ r) := by simp [runB]
    rw [e, chars_some hd, List.take_left, List.drop_left, ih]
    show _ = letterC p :: _
    rw [hc]; rfl

theorem bytes_run (ps : List Nat) : bytesOf (runC ps) = runB ps := by
  have := bytesOf_chars (runB ps)
  have h2 := chars_run ps []
  rw [List.append_nil, chars_nil, List.append_nil] at h2
  rw [← h2, this]

theorem run_all {p : C → Bool} {A : List C} (hA : ∀ c ∈ A, p c = true) {g : C} (hg : p g = false) (B : List C) : runLen p (A ++ g :: B) = A.length := by
  refine runLen_eq p _ _ (by simp) (fun c hc => hA c ?_) (fun c hc => ?_)
  · rw [List.take_left] at hc; exact hc
  · rw [List.getElem?_append_right (Nat.le_refl _)] at hc
    simp at hc; rw [← hc]; exact hg
theorem run_full {p : C → Bool} {A : List C} (hA : ∀ c ∈ A, p c = true) : runLen p A = A.length :=
  runLen_eq p _ _ (Nat.le_refl _) (fun c hc => hA c (List.mem_of_mem_take hc)) (fun c hc => by simp at hc)

theorem runs_name (bs : List Bool) (ps : List Nat) : Toks 1 (chars (padB bs ++ 120 :: (runB ps ++ [32]))) =
    if 32 < (runB ps).length + 1 then .error (bs.length + 1, 17) else .ok [(2, 120 :: runB ps, bs.length + 1)] := by
  have e32 : chars [32] = [(some 32, [32])] := by decide
  rw [chars_pad, Toks_pad, chars_ascii (by decide), chars_run, e32]
  have hk : kd (some (120 : UInt8).toNat, [120]) = 4 := by decide
  have hA : ∀ c ∈ ((some (120 : UInt8).toNat, [120]) : C) :: runC ps, isAl c = true := by
    intro c hc
    rcases List.mem_cons.1 hc with rfl | hc
    · decide
    · obtain ⟨p, _, rfl⟩ := List.mem_map.1 hc; exact letter_al p
  have hr := run_all hA (g := (some 32, [32])) (by decide) []
  rw [Toks_name _ hk]
  rw [← List.cons_append, hr, List.take_left, List.drop_left]
  have hb : bytesOf (((some (120 : UInt8).toNat, [120]) : C) :: runC ps) = 120 :: runB ps := by
    rw [← bytes_run]; rfl
  rw [hb, Toks_blank _ (by decide), Toks_nil]
  simp only [List.length_cons, Res.after, List.append_nil]
  rw [show 1 + bs.length = bs.length + 1 from by omega]

def asC (t : Bytes) : List C := t.map fun b => (some b.toNat, [b])
theorem asC_len (t : Bytes) : (asC t).length = t.length := by simp [asC]
theorem chars_num : ∀ (t r : Bytes), numRun t → chars (t ++ r) = asC t ++ chars r := by
  intro t
  induction t with
  | nil => intro r _; rfl
  | cons b t ih =>
    intro r h
    have hb : b.toNat < 0x80 := by
      rcases h b (by simp) with h | rfl
      · simp [NumP.isDig] at h; omega
      · decide
    rw [List.cons_append, chars_ascii hb, ih r (fun c hc => h c (by simp [hc]))]; rfl
theorem bytes_as (t : Bytes) : bytesOf (asC t) = t := by
  induction t with
  | nil => rfl
  | cons b t ih => show b :: bytesOf (asC t) = _; rw [ih]
theorem numRun_one {t : Bytes} (h : numRun t) : numRun (49 :: t) := by
  intro c hc
  rcases List.mem_cons.1 hc with rfl | hc
  · exact .inl (by decide)
  · exact h c hc
theorem asC_num {t : Bytes} (h : numRun t) : ∀ c ∈ asC t, isNum c = true := by
  intro c hc
  obtain ⟨b, hb, rfl⟩ := List.mem_map.1 hc
  rcases h b hb with hd | rfl
  · simp only [NumP.isDig, Bool.and_eq_true, decide_eq_true_eq] at hd
    have : kindOf b.toNat = 3 := by unfold kindOf; rw [if_neg (by omega), if_neg (by omega), if_pos (by omega)]
    simp [isNum, kd, this]
  · decide

theorem runs_bad (bs : List Bool) (t : Bytes) (h : numRun t) : Toks 1 (chars (padB bs ++ 49 :: (t ++ [32, 255]))) =
    if badNum (49 :: t) then .error (bs.length + 1, 7) else .error (bs.length + t.length + 3, 12) := by
  have e32 : chars [32, 255] = [(some 32, [32]), (none, [255])] := by decide
  have h1 := numRun_one h
  rw [chars_pad, Toks_pad, ← List.cons_append, chars_num _ _ h1, e32]
  have hr := run_all (asC_num h1) (g := (some 32, [32])) (by decide) [(none, [255])]
  show Toks _ (((some (49 : UInt8).toNat, [49]) : C) :: (asC t ++ _)) = _
  rw [Toks_num _ (by decide)]
  show (if badNum (bytesOf ((asC (49 :: t) ++ _).take (runLen isNum (asC (49 :: t) ++ _)))) then _ else (Toks (_ + runLen isNum (asC (49 :: t) ++ _)) ((asC (49 :: t) ++ _).drop (runLen isNum (asC (49 :: t) ++ _)))).after [(1, bytesOf ((asC (49 :: t) ++ _).take (runLen isNum (asC (49 :: t) ++ _))), _)]) = _
  rw [hr, List.take_left, List.drop_left, bytes_as, Toks_blank _ (by decide), Toks_bad _ (by decide), asC_len]
  simp only [Res.after, List.length_cons]
  rw [show 1 + bs.length = bs.length + 1 from by omega, show bs.length + 1 + (t.length + 1) + 1 = bs.length + t.length + 3 from by omega]

theorem runs_num (bs : List Bool) (t : Bytes) (h : numRun t) : Toks 1 (chars (padB bs ++ 49 :: t)) =
    if badNum (49 :: t) then .error (bs.length + 1, 7) else .ok [(1, 49 :: t, bs.length + 1)] := by
  have h1 := numRun_one h
  have e := chars_num (49 :: t) [] h1
  rw [List.append_nil, chars_nil, List.append_nil] at e
  rw [chars_pad, Toks_pad, e]
  have hr := run_full (asC_num h1)
  show Toks _ (((some (49 : UInt8).toNat, [49]) : C) :: asC t) = _
  rw [Toks_num _ (by decide)]
  show (if badNum (bytesOf ((asC (49 :: t)).take (runLen isNum (asC (49 :: t))))) then _ else (Toks (_ + runLen isNum (asC (49 :: t))) ((asC (49 :: t)).drop (runLen isNum (asC (49 :: t))))).after [(1, bytesOf ((asC (49 :: t)).take (runLen isNum (asC (49 :: t)))), _)]) = _
  rw [hr, List.take_length, List.drop_length, bytes_as, Toks_nil]
  simp only [Res.after, List.append_nil]
  rw [show 1 + bs.length = bs.length + 1 from by omega]
end LexP
