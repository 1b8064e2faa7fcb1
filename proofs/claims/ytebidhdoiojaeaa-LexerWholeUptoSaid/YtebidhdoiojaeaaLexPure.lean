/- Plain lists and numbers: characters of a text, tokens of a list of characters, lines of a text. No program in sight. -/
import Derived.Lib.IndexMore
namespace LexP
abbrev Bytes := List UInt8
abbrev C := Option Nat × Bytes
abbrev Tok := Nat × Bytes × Nat

def okRune (v : Nat) : Bool := v < 0xD800 || (0xE000 ≤ v && v ≤ 0x10FFFF)
def isCont (b : UInt8) : Bool := b.toNat / 64 == 2

/-- The character that a text begins with: its value and how many bytes it has. -/
def dec : Bytes → Option (Nat × Nat)
  | [] => none
  | b :: t =>
    if b.toNat < 0x80 then some (b.toNat, 1)
    else if b.toNat / 32 = 6 then
      match t with
      | c :: _ => if isCont c && 0x80 ≤ (b.toNat % 32) * 64 + c.toNat % 64 then some ((b.toNat % 32) * 64 + c.toNat % 64, 2) else none
      | _ => none
    else if b.toNat / 16 = 14 then
      match t with
      | c :: d :: _ =>
        if isCont c && isCont d && 0x800 ≤ (b.toNat % 16) * 4096 + (c.toNat % 64) * 64 + d.toNat % 64 && okRune ((b.toNat % 16) * 4096 + (c.toNat % 64) * 64 + d.toNat % 64)
        then some ((b.toNat % 16) * 4096 + (c.toNat % 64) * 64 + d.toNat % 64, 3) else none
      | _ => none
    else if b.toNat / 8 = 30 then
      match t with
      | c :: d :: f :: _ =>
        if isCont c && isCont d && isCont f && 0x10000 ≤ (b.toNat % 8) * 262144 + (c.toNat % 64) * 4096 + (d.toNat % 64) * 64 + f.toNat % 64 && okRune ((b.toNat % 8) * 262144 + (c.toNat % 64) * 4096 + (d.toNat % 64) * 64 + f.toNat % 64)
        then some ((b.toNat % 8) * 262144 + (c.toNat % 64) * 4096 + (d.toNat % 64) * 64 + f.toNat % 64, 4) else none
      | _ => none
    else none

theorem dec_width {l : Bytes} {v n : Nat} (h : dec l = some (v, n)) : 1 ≤ n ∧ n ≤ l.length ∧ n ≤ 4 := by
  unfold dec at h
  split at h
  · cases h
  · rename_i b t
    split at h
    · cases h; simp
    split at h
    · split at h
      · split at h <;> simp at h; obtain ⟨_, rfl⟩ := h; simp
      · cases h
    split at h
    · split at h
      · split at h <;> simp at h; obtain ⟨_, rfl⟩ := h; simp
      · cases h
    split at h
    · split at h
      · split at h <;> simp at h; obtain ⟨_, rfl⟩ := h; simp
      · cases h
    · cases h

theorem dec_le {l : Bytes} {v n : Nat} (h : dec l = some (v, n)) : v ≤ 0x10FFFF := by
  unfold dec at h
  split at h
  · cases h
  · rename_i b t
    split at h
    · cases h; omega
    split at h
    · split at h
      · split at h <;> simp at h; omega
      · cases h
    split at h
    · split at h
      · split at h <;> simp at h; omega
      · cases h
    split at h
    · split at h
      · split at h
        · rename_i hc
          simp only [Bool.and_eq_true, okRune, Bool.or_eq_true, decide_eq_true_eq] at hc
          simp at h; omega
        · cases h
      · cases h
    · cases h

/-- The bytes of the character alone decide: what stands behind does not matter. -/
theorem dec_append {l : Bytes} {v n : Nat} (h : dec l = some (v, n)) (t : Bytes) : dec (l ++ t) = some (v, n) := by
  unfold dec at h
  split at h
  · cases h
  · rename_i b r
    simp only [List.cons_append]
    unfold dec
    split at h
    · rename_i h0; simp only [h0, if_true]; exact h
    rename_i h0
    split at h
    · rename_i h1
      split at h
      · simp only [h0, h1, if_true, if_false, List.cons_append]; exact h
      · cases h
    rename_i h1
    split at h
    · rename_i h2
      split at h
      · simp only [h0, h1, h2, if_true, if_false, List.cons_append]; exact h
      · cases h
    rename_i h2
    split at h
    · rename_i h3
      split at h
      · simp only [h0, h1, h2, h3, if_true, if_false, List.cons_append]; exact h
      · cases h
    · cases h

def chop : Nat → Bytes → List C
  | 0, _ => []
  | _, [] => []
  | n + 1, b :: t =>
    match dec (b :: t) with
    | some (v, k) => (some v, (b :: t).take k) :: chop n ((b :: t).drop k)
    | none => (none, [b]) :: chop n t

/-- The characters and bad bytes of a text, each with its bytes. -/
def chars (l : Bytes) : List C := chop l.length l

theorem chop_more : ∀ (n : Nat) (l : Bytes), l.length ≤ n → chop n l = chop l.length l := by
  intro n
  induction n using Nat.strongRecOn with
  | ind n ih =>
    intro l hl
    cases l with
    | nil => cases n <;> rfl
    | cons b t =>
      cases n with
      | zero => simp at hl
      | succ n =>
        simp only [List.length_cons, chop]
        simp only [List.length_cons] at hl
        cases hd : dec (b :: t) with
        | none =>
          simp only
          rw [ih n (by omega) t (by omega)]
        | some p =>
          obtain ⟨v, k⟩ := p
          simp only
          have hk := dec_width hd
          have hdl : ((b :: t).drop k).length = t.length + 1 - k := by simp
          rw [ih n (by omega) _ (by rw [hdl]; omega)]
          by_cases hnt : t.length = n
          · rw [hnt, ih n (by omega) _ (by rw [hdl]; omega)]
          · rw [ih t.length (by omega) _ (by rw [hdl]; omega)]

theorem chars_nil : chars [] = [] := rfl

theorem chars_some {l : Bytes} {v k : Nat} (h : dec l = some (v, k)) : chars l = (some v, l.take k) :: chars (l.drop k) := by
  cases l with
  | nil => cases h
  | cons b t =>
    have hk := dec_width h
    unfold chars
    simp only [List.length_cons, chop, h]
    rw [chop_more t.length _ (by simp; omega)]

theorem chars_none {b : UInt8} {t : Bytes} (h : dec (b :: t) = none) : chars (b :: t) = (none, [b]) :: chars t := by
  unfold chars
  simp only [List.length_cons, chop, h]

/-- How many bytes the first character, or bad byte, has. -/
def wid (l : Bytes) : Nat := match dec l with | some (_, k) => k | none => 1
def val (l : Bytes) : Option Nat := (dec l).map (·.1)

theorem wid_pos (l : Bytes) : 1 ≤ wid l := by
  unfold wid
  cases h : dec l with
  | none => simp
  | some p => obtain ⟨v, k⟩ := p; have := dec_width h; simp; omega

theorem wid_le {l : Bytes} (hl : l ≠ []) : wid l ≤ l.length := by
  unfold wid
  cases h : dec l with
  | none => cases l with | nil => exact absurd rfl hl | cons b t => simp
  | some p => obtain ⟨v, k⟩ := p; have := dec_width h; simp; omega

theorem chars_cons {l : Bytes} (hl : l ≠ []) : chars l = (val l, l.take (wid l)) :: chars (l.drop (wid l)) := by
  cases h : dec l with
  | none =>
    cases l with
    | nil => exact absurd rfl hl
    | cons b t => rw [chars_none h]; simp [val, wid, h]
  | some p => obtain ⟨v, k⟩ := p; rw [chars_some h]; simp [val, wid, h]

/-- Induction along the characters of a text. -/
theorem chars_ind {P : Bytes → Prop} (h0 : P []) (h1 : ∀ l, l ≠ [] → P (l.drop (wid l)) → P l) : ∀ l, P l := by
  intro l
  have : ∀ n (l : Bytes), l.length ≤ n → P l := by
    intro n
    induction n with
    | zero => intro l hl; cases l with | nil => exact h0 | cons _ _ => simp at hl
    | succ n ih =>
      intro l hl
      by_cases he : l = []
      · rw [he]; exact h0
      · refine h1 l he (ih _ ?_)
        have := wid_pos l
        have := wid_le he
        simp only [List.length_drop]; omega
  exact this _ l (Nat.le_refl _)

theorem chars_len : ∀ l : Bytes, (chars l).length ≤ l.length := by
  apply chars_ind
  · simp [chars_nil]
  · intro l hl ih
    rw [chars_cons hl]
    have := wid_pos l
    have := wid_le hl
    simp only [List.length_cons, List.length_drop] at ih ⊢
    omega

def bytesOf (cs : List C) : Bytes := cs.flatMap (·.2)

theorem bytesOf_chars : ∀ l : Bytes, bytesOf (chars l) = l := by
  apply chars_ind
  · rfl
  · intro l hl ih
    rw [chars_cons hl]
    simp only [bytesOf, List.flatMap_cons] at ih ⊢
    rw [ih, List.take_append_drop]

/-- What begins at the place behind the first k characters. -/
theorem chars_drop : ∀ (k : Nat) (l : Bytes), (chars l).drop k = chars (l.drop (bytesOf ((chars l).take k)).length) := by
  intro k
  induction k with
  | zero => intro l; simp [bytesOf]
  | succ k ih =>
    intro l
    by_cases hl : l = []
    · subst hl; simp [chars_nil, bytesOf]
    · have hc := chars_cons hl
      rw [hc]
      simp only [List.drop_succ_cons, List.take_succ_cons, bytesOf, List.flatMap_cons, List.length_append]
      have hw : (l.take (wid l)).length = wid l := by have := wid_le hl; simp; omega
      rw [hw, ih, List.drop_drop]
      simp only [bytesOf]

def isAscii (cs : C) (n : Nat) : Prop := cs = (some n, [UInt8.ofNat n])

/-! ### Kinds -/
def kindOf (r : Nat) : Nat :=
  if r = 32 ∨ r = 9 ∨ r = 0xa0 then 1
  else if r = 35 then 2
  else if 48 ≤ r ∧ r ≤ 57 then 3
  else if (97 ≤ r ∧ r ≤ 122) ∨ (65 ≤ r ∧ r ≤ 90) ∨ r = 95 then 4
  else if r = 0x2212 ∨ r = 0xd7 then 5
  else if (0xc0 ≤ r ∧ r ≤ 0x2af ∧ r ≠ 0xf7) ∨ (0x370 ≤ r ∧ r ≤ 0x3ff) then 4
  else if r < 0x80 ∧ (r.toUInt8 ∈ ([43, 45, 42, 94, 39, 40, 41, 91, 93, 123, 125, 44, 59, 58, 61] : Bytes)) then 5
  else 6

def kd (c : C) : Nat := match c.1 with | some v => kindOf v | none => 0
def rn (c : C) : Nat := match c.1 with | some v => v | none => 0xFFFD

theorem kindOf_pos (r : Nat) : 1 ≤ kindOf r ∧ kindOf r ≤ 6 := by
  unfold kindOf; repeat' split
  all_goals omega

def isNum (c : C) : Bool := kd c == 3 || rn c == 95
def isAl (c : C) : Bool := kd c == 3 || kd c == 4
def notBad (c : C) : Bool := kd c != 0

/-- Is a run of digits and '_' no number? -/
def badNum (t : Bytes) : Bool := Go.Lib.hasSuffix t [95] || Go.Lib.contains t [95, 95]

def signOf (c : C) : Bytes := if rn c = 0x2212 then [45] else if rn c = 0xd7 then [42] else c.2

def runLen (p : C → Bool) (cs : List C) : Nat := (cs.takeWhile p).length

abbrev Res := Except (Nat × Nat) (List Tok)
def Res.after (a : List Tok) : Res → Res
  | .ok l => .ok (a ++ l)
  | .error e => .error e

def toks : Nat → Nat → List C → Res
  | 0, _, _ => .ok []
  | _, _, [] => .ok []
  | n + 1, col, c :: cs =>
    if kd c = 1 then toks n (col + 1) cs
    else if kd c = 2 then
      if runLen notBad (c :: cs) < (c :: cs).length then .error (col + runLen notBad (c :: cs), 12) else .ok []
    else if kd c = 0 then .error (col, 12)
    else if kd c = 3 then
      if badNum (bytesOf ((c :: cs).take (runLen isNum (c :: cs)))) then .error (col, 7)
      else (toks n (col + runLen isNum (c :: cs)) ((c :: cs).drop (runLen isNum (c :: cs)))).after [(1, bytesOf ((c :: cs).take (runLen isNum (c :: cs))), col)]
    else if kd c = 4 then
      if 32 < (bytesOf ((c :: cs).take (runLen isAl (c :: cs)))).length then .error (col, 17)
      else (toks n (col + runLen isAl (c :: cs)) ((c :: cs).drop (runLen isAl (c :: cs)))).after [(2, bytesOf ((c :: cs).take (runLen isAl (c :: cs))), col)]
    else if kd c = 5 then (toks n (col + 1) cs).after [(3, signOf c, col)]
    else .error (col, 13)

theorem Res.after_after (a b : List Tok) (r : Res) : (r.after b).after a = r.after (a ++ b) := by
  cases r <;> simp [Res.after]
theorem Res.after_nil (r : Res) : r.after [] = r := by cases r <;> simp [Res.after]

theorem runLen_le (p : C → Bool) (cs : List C) : runLen p cs ≤ cs.length := by
  unfold runLen
  induction cs with
  | nil => simp
  | cons c cs ih => simp only [List.takeWhile_cons]; split <;> simp; exact ih

theorem runLen_pos {p : C → Bool} {c : C} {cs : List C} (h : p c = true) : 1 ≤ runLen p (c :: cs) := by
  simp [runLen, h]

theorem toks_more : ∀ (n : Nat) (col : Nat) (cs : List C), cs.length ≤ n → toks n col cs = toks cs.length col cs := by
  intro n
  induction n using Nat.strongRecOn with
  | ind n ih =>
    intro col cs hl
    cases cs with
    | nil => cases n <;> rfl
    | cons c cs =>
      cases n with
      | zero => simp at hl
      | succ n =>
        simp only [List.length_cons] at hl
        have key : ∀ (m col : Nat) (r : List C), n ≤ m ∨ cs.length ≤ m → r.length ≤ cs.length → m ≤ n → toks m col r = toks r.length col r := by
          intro m col r hm hr hmn
          exact ih m (by omega) col r (by omega)
        have e : ∀ (col : Nat) (r : List C), r.length ≤ cs.length → toks n col r = toks cs.length col r := by
          intro col r hr
          rw [key n col r (.inl (Nat.le_refl _)) hr (Nat.le_refl _), key cs.length col r (.inr (Nat.le_refl _)) hr (by omega)]
        have d1 : kd c = 3 → ((c :: cs).drop (runLen isNum (c :: cs))).length ≤ cs.length := by
          intro hk
          have := runLen_pos (p := isNum) (c := c) (cs := cs) (by simp [isNum, hk])
          simp only [List.length_drop, List.length_cons]; omega
        have d2 : kd c = 4 → ((c :: cs).drop (runLen isAl (c :: cs))).length ≤ cs.length := by
          intro hk
          have := runLen_pos (p := isAl) (c := c) (cs := cs) (by simp [isAl, hk])
          simp only [List.length_drop, List.length_cons]; omega
        simp only [toks, List.length_cons]
        by_cases k1 : kd c = 1
        · rw [if_pos k1, if_pos k1, e _ _ (Nat.le_refl _)]
        · rw [if_neg k1, if_neg k1]
          by_cases k2 : kd c = 2
          · rw [if_pos k2, if_pos k2]
          · rw [if_neg k2, if_neg k2]
            by_cases k0 : kd c = 0
            · rw [if_pos k0, if_pos k0]
            · rw [if_neg k0, if_neg k0]
              by_cases k3 : kd c = 3
              · rw [if_pos k3, if_pos k3, e _ _ (d1 k3)]
              · rw [if_neg k3, if_neg k3]
                by_cases k4 : kd c = 4
                · rw [if_pos k4, if_pos k4, e _ _ (d2 k4)]
                · rw [if_neg k4, if_neg k4, e _ _ (Nat.le_refl _)]

/-- The tokens of a list of characters, the first of which stands in column col; or the fault's column and number. -/
def Toks (col : Nat) (cs : List C) : Res := toks cs.length col cs

theorem Toks_nil (col : Nat) : Toks col [] = .ok [] := rfl

theorem toks_Toks (n col : Nat) (cs : List C) (h : cs.length ≤ n) : toks n col cs = Toks col cs := toks_more n col cs h

theorem Toks_blank {c : C} {cs : List C} (col : Nat) (h : kd c = 1) : Toks col (c :: cs) = Toks (col + 1) cs := by
  simp only [Toks, List.length_cons, toks]; rw [if_pos h]
theorem Toks_hash {c : C} {cs : List C} (col : Nat) (h : kd c = 2) :
    Toks col (c :: cs) = if runLen notBad (c :: cs) < (c :: cs).length then .error (col + runLen notBad (c :: cs), 12) else .ok [] := by
  simp only [Toks, List.length_cons, toks, h]; simp
theorem Toks_bad {c : C} {cs : List C} (col : Nat) (h : kd c = 0) : Toks col (c :: cs) = .error (col, 12) := by
  simp only [Toks, List.length_cons, toks, h]; simp
theorem Toks_num {c : C} {cs : List C} (col : Nat) (h : kd c = 3) :
    Toks col (c :: cs) = if badNum (bytesOf ((c :: cs).take (runLen isNum (c :: cs)))) then .error (col, 7)
      else (Toks (col + runLen isNum (c :: cs)) ((c :: cs).drop (runLen isNum (c :: cs)))).after [(1, bytesOf ((c :: cs).take (runLen isNum (c :: cs))), col)] := by
  have hp := runLen_pos (p := isNum) (c := c) (cs := cs) (by simp [isNum, h])
  rw [← toks_Toks cs.length _ ((c :: cs).drop _) (by simp only [List.length_drop, List.length_cons]; omega)]
  simp only [Toks, List.length_cons, toks, h]; simp
theorem Toks_name {c : C} {cs : List C} (col : Nat) (h : kd c = 4) :
    Toks col (c :: cs) = if 32 < (bytesOf ((c :: cs).take (runLen isAl (c :: cs)))).length then .error (col, 17)
      else (Toks (col + runLen isAl (c :: cs)) ((c :: cs).drop (runLen isAl (c :: cs)))).after [(2, bytesOf ((c :: cs).take (runLen isAl (c :: cs))), col)] := by
  have hp := runLen_pos (p := isAl) (c := c) (cs := cs) (by simp [isAl, h])
  rw [← toks_Toks cs.length _ ((c :: cs).drop _) (by simp only [List.length_drop, List.length_cons]; omega)]
  simp only [Toks, List.length_cons, toks, h]; simp
theorem Toks_mark {c : C} {cs : List C} (col : Nat) (h : kd c = 5) : Toks col (c :: cs) = (Toks (col + 1) cs).after [(3, signOf c, col)] := by
  simp only [Toks, List.length_cons, toks, h]; simp
theorem Toks_other {c : C} {cs : List C} (col : Nat) (h : kd c = 6) : Toks col (c :: cs) = .error (col, 13) := by
  simp only [Toks, List.length_cons, toks, h]; simp

theorem kd_le (c : C) : kd c ≤ 6 := by
  unfold kd; split
  · exact (kindOf_pos _).2
  · omega

theorem runLen_eq (p : C → Bool) : ∀ (l : List C) (m : Nat), m ≤ l.length → (∀ c ∈ l.take m, p c = true) → (∀ c, l[m]? = some c → p c = false) → runLen p l = m := by
  intro l
  induction l with
  | nil => intro m hm _ _; simp at hm; subst hm; rfl
  | cons d l ih =>
    intro m hm h1 h2
    cases m with
    | zero => simp [runLen, h2 d (by simp)]
    | succ m =>
      have hd : p d = true := h1 d (by simp)
      have := ih m (by simpa using hm) (fun c hc => h1 c (by simp [hc])) (fun c hc => h2 c (by simpa using hc))
      simp only [runLen] at this
      simp [runLen, hd, this]

/-- The bytes from the character in the place i up to that in the place j. -/
theorem bytes_mid (l : Bytes) (i j : Nat) (h : i ≤ j) :
    (l.drop (bytesOf ((chars l).take i)).length).take ((bytesOf ((chars l).take j)).length - (bytesOf ((chars l).take i)).length) = bytesOf (((chars l).drop i).take (j - i)) := by
  have e1 : bytesOf ((chars l).take i) ++ bytesOf ((chars l).drop i) = l := by
    have := bytesOf_chars l
    simp only [bytesOf] at *
    rw [← List.flatMap_append, List.take_append_drop, this]
  have e2 : (chars l).take j = (chars l).take i ++ ((chars l).drop i).take (j - i) := by
    have := List.take_add (l := chars l) (i := i) (j := j - i)
    rw [show i + (j - i) = j from by omega] at this
    exact this
  have e3 : bytesOf ((chars l).drop i) = bytesOf (((chars l).drop i).take (j - i)) ++ bytesOf (((chars l).drop i).drop (j - i)) := by
    simp only [bytesOf]; rw [← List.flatMap_append, List.take_append_drop]
  have e4 : l.drop (bytesOf ((chars l).take i)).length = bytesOf ((chars l).drop i) := by
    have h2 := List.drop_left (l₁ := bytesOf ((chars l).take i)) (l₂ := bytesOf ((chars l).drop i))
    rw [e1] at h2; exact h2
  rw [e4, e3, e2]
  have e5 : (bytesOf ((chars l).take i ++ ((chars l).drop i).take (j - i))).length - (bytesOf ((chars l).take i)).length = (bytesOf (((chars l).drop i).take (j - i))).length := by
    simp only [bytesOf, List.flatMap_append, List.length_append]; omega
  rw [e5, List.take_left]

theorem bytes_len (cs : List C) (i : Nat) : (bytesOf (cs.take i)).length ≤ (bytesOf cs).length := by
  have : bytesOf (cs.take i) ++ bytesOf (cs.drop i) = bytesOf cs := by simp only [bytesOf]; rw [← List.flatMap_append, List.take_append_drop]
  rw [← this, List.length_append]; omega

end LexP
