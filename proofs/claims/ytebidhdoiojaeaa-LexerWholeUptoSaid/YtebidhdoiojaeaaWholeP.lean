/- Plain laws for LexerWhole: the tokens' texts, with blanks between, are the line. -/
import Derived.Test.YtebidhdoiojaeaaRefLex4
namespace Go.Proofs.Ytebidhdoiojaeaa
open LexP NumP

theorem dec_take {l : Bytes} {v n : Nat} (h : dec l = some (v, n)) : dec (l.take n) = some (v, n) := by
  unfold dec at h
  split at h
  · cases h
  · rename_i b t
    split at h
    · rename_i h0; cases h; simp [dec, h0]
    rename_i h0
    split at h
    · rename_i h1
      split at h
      · rename_i c r
        split at h <;> simp only [Option.some.injEq, Prod.mk.injEq, reduceCtorEq] at h
        rename_i hc
        obtain ⟨rfl, rfl⟩ := h
        show dec [b, c] = _
        unfold dec; simp only [h0, h1, if_true, if_false]; rw [if_pos hc]
      · cases h
    rename_i h1
    split at h
    · rename_i h2
      split at h
      · rename_i c d r
        split at h <;> simp only [Option.some.injEq, Prod.mk.injEq, reduceCtorEq] at h
        rename_i hc
        obtain ⟨rfl, rfl⟩ := h
        show dec [b, c, d] = _
        unfold dec; simp only [h0, h1, h2, if_true, if_false]; rw [if_pos hc]
      · cases h
    rename_i h2
    split at h
    · rename_i h3
      split at h
      · rename_i c d f r
        split at h <;> simp only [Option.some.injEq, Prod.mk.injEq, reduceCtorEq] at h
        rename_i hc
        obtain ⟨rfl, rfl⟩ := h
        show dec [b, c, d, f] = _
        unfold dec; simp only [h0, h1, h2, h3, if_true, if_false]; rw [if_pos hc]
      · cases h
    · cases h

theorem dec_low2 {b : UInt8} {t : Bytes} {v n : Nat} (h : dec (b :: t) = some (v, n)) (hb : b.toNat < 128) : v = b.toNat := by
  unfold dec at h
  simp only [hb, if_true] at h
  cases h; rfl

theorem dec_two {l : Bytes} {v n : Nat} (h : dec l = some (v, n)) (h1 : 128 ≤ v) (h2 : v < 2048) :
    ∃ b c, n = 2 ∧ l.take 2 = [b, c] ∧ b.toNat / 32 = 6 ∧ c.toNat / 64 = 2 ∧ v = (b.toNat % 32) * 64 + c.toNat % 64 := by
  unfold dec at h
  split at h
  · cases h
  · rename_i b t
    split at h
    · cases h; omega
    split at h
    · rename_i h6
      split at h
      · rename_i c r
        split at h <;> simp only [Option.some.injEq, Prod.mk.injEq, reduceCtorEq] at h
        rename_i hc
        simp only [Bool.and_eq_true, isCont, beq_iff_eq] at hc
        obtain ⟨rfl, rfl⟩ := h
        exact ⟨b, c, rfl, rfl, h6, hc.1, rfl⟩
      · cases h
    split at h
    · split at h
      · split at h
        · rename_i k; simp only [Bool.and_eq_true, decide_eq_true_eq] at k; simp at h; omega
        · simp at h
      · cases h
    split at h
    · split at h
      · split at h
        · rename_i k; simp only [Bool.and_eq_true, decide_eq_true_eq] at k; simp at h; omega
        · simp at h
      · cases h
    · cases h

theorem dec_three {l : Bytes} {v n : Nat} (h : dec l = some (v, n)) (h1 : 2048 ≤ v) (h2 : v < 65536) :
    ∃ b c d, n = 3 ∧ l.take 3 = [b, c, d] ∧ b.toNat / 16 = 14 ∧ c.toNat / 64 = 2 ∧ d.toNat / 64 = 2 ∧ v = (b.toNat % 16) * 4096 + (c.toNat % 64) * 64 + d.toNat % 64 := by
  unfold dec at h
  split at h
  · cases h
  · rename_i b t
    split at h
    · cases h; omega
    split at h
    · split at h
      · split at h
        · rename_i k; simp only [Bool.and_eq_true, decide_eq_true_eq] at k; simp at h; omega
        · simp at h
      · cases h
    split at h
    · rename_i h6
      split at h
      · rename_i c d r
        split at h <;> simp only [Option.some.injEq, Prod.mk.injEq, reduceCtorEq] at h
        rename_i hc
        simp only [Bool.and_eq_true, isCont, beq_iff_eq] at hc
        obtain ⟨rfl, rfl⟩ := h
        exact ⟨b, c, d, rfl, rfl, h6, hc.1.1.1, hc.1.1.2, rfl⟩
      · cases h
    split at h
    · split at h
      · split at h
        · rename_i k; simp only [Bool.and_eq_true, decide_eq_true_eq] at k; simp at h; omega
        · simp at h
      · cases h
    · cases h

theorem byte_eq {b : UInt8} {k : Nat} (h : b.toNat = k) (hk : k < 256) : b = UInt8.ofNat k := by
  apply UInt8.toNat.inj
  rw [UInt8.toNat_ofNat', h]; omega

theorem two_160 {l : Bytes} {n : Nat} (h : dec l = some (160, n)) : n = 2 ∧ l.take 2 = [194, 160] := by
  obtain ⟨b, c, h1, h2, h3, h4, h5⟩ := dec_two h (by omega) (by omega)
  have hb := byte_eq (b := b) (k := 194) (by have := c.toNat_lt; omega) (by omega)
  have hc := byte_eq (b := c) (k := 160) (by have := c.toNat_lt; omega) (by omega)
  exact ⟨h1, by rw [h2, hb, hc]; rfl⟩
theorem two_215 {l : Bytes} {n : Nat} (h : dec l = some (215, n)) : n = 2 ∧ l.take 2 = [195, 151] := by
  obtain ⟨b, c, h1, h2, h3, h4, h5⟩ := dec_two h (by omega) (by omega)
  have hb := byte_eq (b := b) (k := 195) (by have := c.toNat_lt; omega) (by omega)
  have hc := byte_eq (b := c) (k := 151) (by have := c.toNat_lt; omega) (by omega)
  exact ⟨h1, by rw [h2, hb, hc]; rfl⟩
theorem three_8722 {l : Bytes} {n : Nat} (h : dec l = some (8722, n)) : n = 3 ∧ l.take 3 = [226, 136, 146] := by
  obtain ⟨b, c, d, h1, h2, h3, h4, h5, h6⟩ := dec_three h (by omega) (by omega)
  have hb := byte_eq (b := b) (k := 226) (by omega) (by omega)
  have hc := byte_eq (b := c) (k := 136) (by omega) (by omega)
  have hd := byte_eq (b := d) (k := 146) (by omega) (by omega)
  exact ⟨h1, by rw [h2, hb, hc, hd]; rfl⟩

theorem take_head {L A : Bytes} {k : Nat} (h : L.take k = A) : L = A ++ L.drop k := by rw [← h, List.take_append_drop]

/-! ### Blanks -/
def Pad (P : Bytes) (k : Nat) : Prop := k ≤ P.length ∧ ∃ cs : List C, (∀ c ∈ cs, kd c = 1) ∧ cs.length = k ∧ ∀ r, chars (P ++ r) = cs ++ chars r
theorem Pad.nil : Pad [] 0 := ⟨Nat.le_refl _, [], by simp, rfl, fun r => rfl⟩
theorem Pad.one {P : Bytes} {k : Nat} (h : Pad P k) (b : UInt8) (hb : b = 32 ∨ b = 9) : Pad (P ++ [b]) (k + 1) := by
  obtain ⟨h0, cs, h1, h2, h3⟩ := h
  have hlow : b.toNat < 0x80 := by rcases hb with rfl | rfl <;> decide
  refine ⟨by simp; omega, cs ++ [(some b.toNat, [b])], ?_, by simp [h2], fun r => ?_⟩
  · intro c hc
    rcases List.mem_append.1 hc with hc | hc
    · exact h1 c hc
    · simp only [List.mem_singleton] at hc
      subst hc; rcases hb with rfl | rfl <;> decide
  · rw [List.append_assoc, h3, List.singleton_append, chars_ascii hlow, List.append_assoc]; rfl
theorem Pad.two {P : Bytes} {k : Nat} (h : Pad P k) : Pad (P ++ [194, 160]) (k + 1) := by
  obtain ⟨h0, cs, h1, h2, h3⟩ := h
  refine ⟨by simp; omega, cs ++ [(some 160, [194, 160])], ?_, by simp [h2], fun r => ?_⟩
  · intro c hc
    rcases List.mem_append.1 hc with hc | hc
    · exact h1 c hc
    · simp only [List.mem_singleton] at hc
      subst hc; decide
  · have hd : dec (194 :: 160 :: r) = some (160, 2) := by simp [dec, isCont]
    rw [List.append_assoc, h3]
    show cs ++ chars (194 :: 160 :: r) = _
    rw [chars_some hd, List.append_assoc]; rfl
theorem Toks_blanks : ∀ (cs : List C) (col : Nat) (r : List C), (∀ c ∈ cs, kd c = 1) → Toks col (cs ++ r) = Toks (col + cs.length) r := by
  intro cs
  induction cs with
  | nil => intro col r _; rfl
  | cons c cs ih =>
    intro col r h
    rw [List.cons_append, Toks_blank col (h c (by simp)), ih _ _ (fun d hd => h d (by simp [hd])), List.length_cons]
    congr 1; omega
theorem Pad.toks {P : Bytes} {k : Nat} (h : Pad P k) (col : Nat) (r : Bytes) : Toks col (chars (P ++ r)) = Toks (col + k) (chars r) := by
  obtain ⟨h0, cs, h1, h2, h3⟩ := h
  rw [h3, Toks_blanks _ _ _ h1, h2]
theorem Pad.zero {P : Bytes} (h : Pad P 0) : P = [] := by
  obtain ⟨h0, cs, h1, h2, h3⟩ := h
  obtain rfl : cs = [] := List.eq_nil_of_length_eq_zero h2
  have h4 := h3 []
  rw [List.append_nil, chars_nil, List.nil_append] at h4
  have h5 := bytesOf_chars P
  rw [h4] at h5; exact h5.symm

/-- The first character is no blank. -/
def NoBl (L : Bytes) : Prop := ∀ c, (chars L)[0]? = some c → kd c ≠ 1
theorem nobl_of {L : Bytes} (h1 : [32].isPrefixOf L = false) (h2 : [9].isPrefixOf L = false) (h3 : [194, 160].isPrefixOf L = false) : NoBl L := by
  intro c hc hk
  by_cases hl : L = []
  · subst hl; simp [chars_nil] at hc
  · rw [chars_cons hl] at hc
    simp only [List.getElem?_cons_zero, Option.some.injEq] at hc
    subst hc
    cases hd : dec L with
    | none => simp [kd, val, hd] at hk
    | some p =>
      obtain ⟨v, n⟩ := p
      have hv : kindOf v = 1 := by simpa [kd, val, hd] using hk
      have hv2 : v = 32 ∨ v = 9 ∨ v = 160 := by
        revert hv; unfold kindOf; repeat' split
        all_goals omega
      rcases hv2 with rfl | rfl | rfl
      · obtain ⟨rfl, ht⟩ := dec_ascii hd (by omega)
        rw [Bool.eq_false_iff] at h1
        exact h1 (List.isPrefixOf_iff_prefix.2 ⟨L.drop 1, (take_head ht).symm⟩)
      · obtain ⟨rfl, ht⟩ := dec_ascii hd (by omega)
        rw [Bool.eq_false_iff] at h2
        exact h2 (List.isPrefixOf_iff_prefix.2 ⟨L.drop 1, (take_head ht).symm⟩)
      · obtain ⟨rfl, ht⟩ := two_160 hd
        rw [Bool.eq_false_iff] at h3
        exact h3 (List.isPrefixOf_iff_prefix.2 ⟨L.drop 2, (take_head ht).symm⟩)

/-! ### One token -/
def Glue (gl : Nat) (cs : List C) : Prop := (gl = 1 → ∀ c, cs[0]? = some c → isNum c = false) ∧ (gl = 2 → ∀ c, cs[0]? = some c → isAl c = false)
theorem glue_zero (cs : List C) : Glue 0 cs := ⟨fun h => by omega, fun h => by omega⟩

theorem chars_take : ∀ (k : Nat) (L : Bytes), (∀ c ∈ (chars L).take k, notBad c = true) → chars (bytesOf ((chars L).take k)) = (chars L).take k := by
  intro k
  induction k with
  | zero => intro L _; rfl
  | succ k ih =>
    intro L h
    by_cases hl : L = []
    · subst hl; rfl
    · have hc := chars_cons hl
      rw [hc] at h ⊢
      simp only [List.take_succ_cons] at h ⊢
      have h0 := h _ List.mem_cons_self
      cases hd : dec L with
      | none => simp [val, hd, notBad_none] at h0
      | some p =>
        obtain ⟨v, n⟩ := p
        have hv : val L = some v := by simp [val, hd]
        have hw : wid L = n := by simp [wid, hd]
        have hk := dec_width hd
        rw [hv, hw] at h hc ⊢
        have hn : (L.take n).length = n := by simp; omega
        have e : bytesOf ((some v, L.take n) :: (chars (L.drop n)).take k) = L.take n ++ bytesOf ((chars (L.drop n)).take k) := rfl
        rw [e]
        have hd2 := dec_append (dec_take hd) (bytesOf ((chars (L.drop n)).take k))
        have h2 := chars_some hd2
        have hdn : (L.take n).drop n = [] := List.drop_eq_nil_of_le (by omega)
        rw [List.take_append_of_le_length (by omega), List.drop_append_of_le_length (by omega), List.take_take, Nat.min_self, hdn, List.nil_append] at h2
        rw [h2, ih (L.drop n) (fun c hc => h c (List.mem_cons_of_mem _ hc))]

theorem left_take {L A B : Bytes} (h : L = A ++ B) : L.take A.length = A := by subst h; exact List.take_left
theorem text_split (L : Bytes) (k : Nat) : L.take (bytesOf ((chars L).take k)).length = bytesOf ((chars L).take k) := by
  have e : L = bytesOf ((chars L).take k) ++ bytesOf ((chars L).drop k) := by
    have := bytesOf_chars L
    simp only [bytesOf] at *
    rw [← List.flatMap_append, List.take_append_drop, this]
  exact left_take e

theorem run_stop (p : C → Bool) : ∀ (cs : List C) (c : C), (cs.drop (runLen p cs))[0]? = some c → p c = false := by
  intro cs
  induction cs with
  | nil => intro c h; simp at h
  | cons d cs ih =>
    intro c h
    cases hp : p d with
    | false =>
      have : runLen p (d :: cs) = 0 := by simp [runLen, hp]
      rw [this] at h; simp at h; rw [← h]; exact hp
    | true =>
      have : runLen p (d :: cs) = runLen p cs + 1 := by simp [runLen, hp]
      rw [this] at h; exact ih c h

def firstDig (t : Bytes) : Bool := match t with | [] => false | b :: _ => decide (48 ≤ b.toNat ∧ b.toNat ≤ 57)
def firstUs (t : Bytes) : Bool := match t with | [] => false | b :: _ => b == 95

inductive Step (L : Bytes) (gl : Nat) (t : Tok) (n wide : Nat) : Prop
  | num (hk : t.1 = 1) (ht : t.2.1 = L.take n) (hd : firstDig t.2.1 = true) (hb : anyBad t.2.1 = false) (hr : numRun t.2.1) (h1 : gl ≠ 1) (h2 : gl ≠ 2)
  | name (hk : t.1 = 2) (ht : t.2.1 = L.take n) (hd : firstDig t.2.1 = false) (hl : t.2.1.length ≤ 32) (h2 : gl ≠ 2) (h1 : gl = 1 → firstUs t.2.1 = false)
  | minus (hk : t.1 = 3) (hw : wide = 1) (ht : t.2.1 = [45]) (hn : n = 3) (hL : L.take 3 = [226, 136, 146])
  | times (hk : t.1 = 3) (hw : wide = 1) (ht : t.2.1 = [42]) (hn : n = 2) (hL : L.take 2 = [195, 151])
  | mark (hk : t.1 = 3) (hw : wide = 1) (b : UInt8) (hb : b.toNat < 128) (ht : t.2.1 = [b]) (hn : n = 1) (hL : L.take 1 = [b])

theorem after_ok_cons {r : Res} {a t : Tok} {m : List Tok} (h : r.after [a] = .ok (t :: m)) : t = a ∧ r = .ok m := by
  cases r with
  | error e => cases h
  | ok l => simp only [Res.after, List.singleton_append, Except.ok.injEq, List.cons.injEq] at h; exact ⟨h.1.symm, by rw [h.2]⟩

theorem cols_ok {t : Bytes} {cs : List C} (h : chars t = cs) (hb : ∀ c ∈ cs, notBad c = true) : colRes t = (cs.length, 0) := by
  unfold colRes
  rw [h, if_pos (List.all_eq_true.2 hb)]

theorem letter_first {b : UInt8} {r : Bytes} {v n : Nat} (hd : dec (b :: r) = some (v, n)) (hk : kindOf v = 4) : firstDig (b :: r) = false ∧ (firstUs (b :: r) = true → v = 95) := by
  constructor
  · simp only [firstDig, decide_eq_false_iff_not]
    intro h
    have := dec_low2 hd (by omega)
    have h3 : kindOf v = 3 := by rw [this]; unfold kindOf; rw [if_neg (by omega), if_neg (by omega), if_pos (by omega)]
    omega
  · intro h
    simp only [firstUs, beq_iff_eq] at h
    subst h
    exact dec_low2 hd (by decide)

theorem one_step {L : Bytes} {col gl : Nat} {t : Tok} {m : List Tok} (h : Toks col (chars L) = .ok (t :: m)) (hnb : NoBl L) (hg : Glue gl (chars L)) :
    ∃ n wide, t.2.2 = col ∧ colRes t.2.1 = (wide, 0) ∧ t.2.1 ≠ [] ∧ t.2.1.length ≤ n ∧ n ≤ L.length ∧ wide ≤ n ∧ Toks (col + wide) (chars (L.drop n)) = .ok m ∧ Glue t.1 (chars (L.drop n)) ∧ Step L gl t n wide := by
  by_cases hl : L = []
  · subst hl; rw [chars_nil, Toks_nil] at h; cases h
  have hc := chars_cons hl
  have h0 : (chars L)[0]? = some (val L, L.take (wid L)) := by rw [hc]; rfl
  have hnb1 := hnb _ h0
  cases hd : dec L with
  | none =>
    have hv : val L = none := by simp [val, hd]
    rw [hc, hv, Toks_bad _ rfl] at h; cases h
  | some p =>
    obtain ⟨v, n0⟩ := p
    have hv : val L = some v := by simp [val, hd]
    have hw : wid L = n0 := by simp [wid, hd]
    have hwd := dec_width hd
    rw [hv, hw] at hc h0 hnb1
    have hkd : kd (some v, L.take n0) = kindOf v := rfl
    have hcases : kindOf v = 2 ∨ kindOf v = 3 ∨ kindOf v = 4 ∨ kindOf v = 5 ∨ kindOf v = 6 := by
      have := kindOf_pos v; rw [hkd] at hnb1; omega
    have hnb2 : notBad (some v, L.take n0) = true := notBad_some _ _
    rcases hcases with hk | hk | hk | hk | hk
    · rw [hc, Toks_hash _ (by rw [hkd, hk])] at h
      split at h <;> cases h
    · -- a number
      have h2 := h
      rw [hc, Toks_num _ (by rw [hkd, hk]), ← hc] at h
      split at h
      · cases h
      rename_i hbad
      obtain ⟨rfl, hm⟩ := after_ok_cons h
      have hall := takeWhile_all (p := isNum) (chars L)
      have hnbad : ∀ c ∈ (chars L).take (runLen isNum (chars L)), notBad c = true := fun c hc => by
        have h5 := hall c hc
        obtain ⟨b, _, _, _⟩ := num_bytes L c (List.mem_of_mem_take hc) h5
        cases hcv : c.1 with
        | none =>
          have : c = (none, c.2) := by rw [← hcv]
          rw [this] at h5; simp [isNum, kd, rn] at h5
        | some x =>
          have : c = (some x, c.2) := by rw [← hcv]
          rw [this]; exact notBad_some _ _
      have hrun := num_text L 0
      have hfst := num_first L (k := 0) (by rw [List.drop_zero]; exact hc) hk
      simp only [List.drop_zero] at hrun hfst
      have hct := chars_take _ L hnbad
      have hlen := List.length_take (i := runLen isNum (chars L)) (l := chars L)
      have hrl := runLen_le isNum (chars L)
      have hsp := text_split L (runLen isNum (chars L))
      have hbl := bytes_len (chars L) (runLen isNum (chars L))
      rw [bytesOf_chars] at hbl
      have hcd := chars_drop (runLen isNum (chars L)) L
      refine ⟨(bytesOf ((chars L).take (runLen isNum (chars L)))).length, runLen isNum (chars L), rfl, ?_, ?_, Nat.le_refl _, hbl, ?_, ?_, ?_, ?_⟩
      · rw [cols_ok hct hnbad, hlen, Nat.min_eq_left hrl]
      · obtain ⟨x, hx, _⟩ := hfst
        intro he; simp only at he; rw [he] at hx; simp at hx
      · have := chars_len (bytesOf ((chars L).take (runLen isNum (chars L))))
        rw [hct, hlen, Nat.min_eq_left hrl] at this; exact this
      · rw [← hcd]; exact hm
      · rw [← hcd]
        exact ⟨fun _ c hc => run_stop isNum _ c hc, fun h => by simp at h⟩
      · obtain ⟨x, hx, hxd⟩ := hfst
        refine .num rfl hsp.symm ?_ ?_ hrun ?_ ?_
        · simp only
          cases hB : bytesOf ((chars L).take (runLen isNum (chars L))) with
          | nil => rw [hB] at hx; simp at hx
          | cons y r =>
            rw [hB] at hx; simp at hx; subst hx
            simpa [firstDig, isDig] using hxd
        · rw [← badNum_anyBad]
          · simpa using hbad
          · simp only; rw [hx]; intro he
            have : x = 95 := Option.some.inj he
            subst this; exact absurd hxd (by decide)
        · intro h1
          have := hg.1 h1 _ h0
          simp [isNum, hkd, hk] at this
        · intro h1
          have := hg.2 h1 _ h0
          simp [isAl, hkd, hk] at this
    · -- a name
      rw [hc, Toks_name _ (by rw [hkd, hk]), ← hc] at h
      split at h
      · cases h
      rename_i hlong
      obtain ⟨rfl, hm⟩ := after_ok_cons h
      have hall := takeWhile_all (p := isAl) (chars L)
      have hnbad : ∀ c ∈ (chars L).take (runLen isAl (chars L)), notBad c = true := fun c hc => by
        have h5 := hall c hc
        simp only [isAl, Bool.or_eq_true, beq_iff_eq] at h5
        simp only [notBad, bne_iff_ne]; omega
      have hct := chars_take _ L hnbad
      have hlen := List.length_take (i := runLen isAl (chars L)) (l := chars L)
      have hrl := runLen_le isAl (chars L)
      have hsp := text_split L (runLen isAl (chars L))
      have hbl := bytes_len (chars L) (runLen isAl (chars L))
      rw [bytesOf_chars] at hbl
      have hcd := chars_drop (runLen isAl (chars L)) L
      have hp1 : 1 ≤ runLen isAl (chars L) := by rw [hc]; exact runLen_pos (by simp [isAl, hkd, hk])
      have hwl : runLen isAl (chars L) ≤ (bytesOf ((chars L).take (runLen isAl (chars L)))).length := by
        have := chars_len (bytesOf ((chars L).take (runLen isAl (chars L))))
        rw [hct, hlen, Nat.min_eq_left hrl] at this; exact this
      have hne : bytesOf ((chars L).take (runLen isAl (chars L))) ≠ [] := by
        intro he; rw [he] at hwl; simp at hwl; omega
      obtain ⟨b, r, hL⟩ : ∃ b r, L = b :: r := by cases L with | nil => exact absurd rfl hl | cons b r => exact ⟨b, r, rfl⟩
      have hfst : ∃ r', bytesOf ((chars L).take (runLen isAl (chars L))) = b :: r' := by
        cases hB : bytesOf ((chars L).take (runLen isAl (chars L))) with
        | nil => exact absurd hB hne
        | cons y r' =>
          rw [hB] at hsp
          have h6 : (L.take (y :: r').length)[0]? = (y :: r')[0]? := by rw [hsp]
          rw [hL] at h6
          simp at h6
          exact ⟨r', by rw [h6]⟩
      obtain ⟨r', hr'⟩ := hfst
      have hlf := letter_first (by rw [← hL]; exact hd) hk
      refine ⟨(bytesOf ((chars L).take (runLen isAl (chars L)))).length, runLen isAl (chars L), rfl, ?_, hne, Nat.le_refl _, hbl, hwl, ?_, ?_, ?_⟩
      · rw [cols_ok hct hnbad, hlen, Nat.min_eq_left hrl]
      · rw [← hcd]; exact hm
      · rw [← hcd]
        exact ⟨fun h => by simp at h, fun _ c hc => run_stop isAl _ c hc⟩
      · refine .name rfl hsp.symm ?_ (by simp only; omega) ?_ ?_
        · simp only; rw [hr']; exact hlf.1
        · intro h1
          have := hg.2 h1 _ h0
          simp [isAl, hkd, hk] at this
        · intro h1
          have h7 := hg.1 h1 _ h0
          simp only; rw [hr']
          cases hu : firstUs (b :: r') with
          | false => rfl
          | true =>
            have := hlf.2 hu
            subst this
            simp [isNum, rn] at h7
    · -- a mark
      rw [hc, Toks_mark _ (by rw [hkd, hk])] at h
      obtain ⟨rfl, hm⟩ := after_ok_cons h
      have hrn : rn (some v, L.take n0) = v := rfl
      have hone : ∀ b : UInt8, b.toNat < 128 → colRes [b] = (1, 0) := fun b hb => by
        have e : chars [b] = [(some b.toNat, [b])] := by rw [chars_ascii hb]; rfl
        rw [cols_ok e (by intro c hc; simp only [List.mem_singleton] at hc; subst hc; exact notBad_some _ _)]; rfl
      have hgl : Glue 3 (chars (L.drop n0)) := ⟨fun h => by omega, fun h => by omega⟩
      by_cases hm1 : v = 8722
      · subst hm1
        have hs : signOf (some 8722, L.take n0) = [45] := by simp [signOf, rn]
        obtain ⟨rfl, hL3⟩ := three_8722 hd
        rw [hs]
        exact ⟨3, 1, rfl, hone 45 (by decide), by simp, by simp, hwd.2.1, by omega, hm, hgl, .minus rfl rfl rfl rfl hL3⟩
      by_cases hm2 : v = 215
      · subst hm2
        have hs : signOf (some 215, L.take n0) = [42] := by simp [signOf, rn]
        obtain ⟨rfl, hL3⟩ := two_215 hd
        rw [hs]
        exact ⟨2, 1, rfl, hone 42 (by decide), by simp, by simp, hwd.2.1, by omega, hm, hgl, .times rfl rfl rfl rfl hL3⟩
      have hv128 : v < 128 := by
        revert hk; unfold kindOf
        repeat' split
        all_goals first | omega | (rename_i hx; intro _; exact hx.1)
      have hs : signOf (some v, L.take n0) = L.take n0 := by simp [signOf, rn, hm1, hm2]
      obtain ⟨rfl, ht⟩ := dec_ascii hd hv128
      rw [hs, ht]
      exact ⟨1, 1, rfl, hone _ (by simp; omega), by simp, by simp, hwd.2.1, by omega, hm, hgl, .mark rfl rfl _ (by simp; omega) rfl rfl ht⟩
    · rw [hc, Toks_other _ (by rw [hkd, hk])] at h; cases h

/-- Behind the last token there is nothing, or a comment. -/
theorem last_step {L : Bytes} {col : Nat} (h : Toks col (chars L) = .ok []) (hnb : NoBl L) : L = [] ∨ ∃ r, L = 35 :: r := by
  by_cases hl : L = []
  · exact .inl hl
  right
  have hc := chars_cons hl
  have h0 : (chars L)[0]? = some (val L, L.take (wid L)) := by rw [hc]; rfl
  have hnb1 := hnb _ h0
  cases hd : dec L with
  | none =>
    have hv : val L = none := by simp [val, hd]
    rw [hc, hv, Toks_bad _ rfl] at h; cases h
  | some p =>
    obtain ⟨v, n0⟩ := p
    have hv : val L = some v := by simp [val, hd]
    rw [hv] at hc hnb1
    generalize L.take (wid L) = T at *
    have hkd : kd (some v, T) = kindOf v := rfl
    have hno : ∀ (r : Res) (a : Tok), r.after [a] = .ok [] → False := fun r a h => by cases r <;> simp [Res.after] at h
    have hcases : kindOf v = 2 ∨ kindOf v = 3 ∨ kindOf v = 4 ∨ kindOf v = 5 ∨ kindOf v = 6 := by
      have := kindOf_pos v; rw [hkd] at hnb1; omega
    rcases hcases with hk | hk | hk | hk | hk
    · have h35 : v = 35 := kind_hash.1 hk
      subst h35
      obtain ⟨rfl, ht⟩ := dec_ascii hd (by omega)
      exact ⟨L.drop 1, take_head ht⟩
    · rw [hc, Toks_num _ (by rw [hkd, hk])] at h
      split at h
      · cases h
      · exact (hno _ _ h).elim
    · rw [hc, Toks_name _ (by rw [hkd, hk])] at h
      split at h
      · cases h
      · exact (hno _ _ h).elim
    · rw [hc, Toks_mark _ (by rw [hkd, hk])] at h
      exact (hno _ _ h).elim
    · rw [hc, Toks_other _ (by rw [hkd, hk])] at h; cases h
end Go.Proofs.Ytebidhdoiojaeaa
