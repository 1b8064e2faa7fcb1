/- Joined texts of this claim's proof: SynR2. -/
import Derived.Test.YtgfmiladfeoldaaGreatDoorPl24
set_option linter.unusedSimpArgs false
set_option linter.unusedVariables false
namespace SynP
open LexP
theorem isMark_mem {ts r : List Tok} {l : List KT} {x : Bytes} (h : Is ts l r) (hl : l ≠ []) (hm : isMark x ts = true) : (3, x) ∈ l := by
 cases l with
 | nil => exact absurd rfl hl
 | cons k l =>
  obtain ⟨c, ts', rfl, h'⟩ := h.cons
  obtain ⟨a, b⟩ := k
  simp only [isMark, Bool.and_eq_true, beq_iff_eq] at hm
  rw [← hm.1, ← hm.2]; exact List.mem_cons_self
theorem Is.tail {ts r : List Tok} {k : KT} {l : List KT} (h : Is ts (k :: l) r) : Is ts.tail l r := by
 obtain ⟨c, ts', rfl, h'⟩ := h.cons; exact h'
theorem flat_cons {α : Type} (x : Bool × Nat) (l : List (Bool × Nat)) : (x :: l).flatMap intK = intK x ++ l.flatMap intK := rfl
theorem entryRow_is (fin : Nat) : ∀ (l : List (Bool × Nat)) (n : Nat) (acc : List (Bool × Nat)) (ts r : List Tok) (o : Nat), (∀ x ∈ l, x.1 = true → 0 < x.2) → Is ts (l.flatMap intK) r → isMark [45] r = false → isKind 1 r = false → (n = 0 → l ≠ []) →
  Ev (fun f => entryRow fin f n acc ⟨ts, o⟩) (.ok ((n + l.length, acc ++ l), ⟨r, o⟩)) := by
 intro l
 induction l with
 | nil =>
  intro n acc ts r o _ h h1 h2 hn
  have hts := Is.nil h
  subst hts
  refine ⟨1, ?_⟩
  show entryRow fin 1 n acc ⟨ts, o⟩ = _
  rw [entryRow]
  have h3 : (decide (n = 0) || isMark [45] ts || isKind 1 ts) = false := by
   rw [h1, h2]
   have : n ≠ 0 := fun e => hn e rfl
   simp [this]
  simp only [h3]
  simp [ret]
 | cons x l ih =>
  intro n acc ts r o hx h h1 h2 hn
  obtain ⟨neg, v⟩ := x
  rw [flat_cons (α := Unit)] at h
  obtain ⟨m, ha, hb⟩ := h.app
  have key : ∀ ts', (decide (n = 0) || isMark [45] ts || isKind 1 ts) = true → (if isMark [45] ts then (⟨ts, o⟩ : St).adv else ⟨ts, o⟩) = ⟨ts', o⟩ → Is ts' [numK v] m → (isMark [45] ts && decide (0 < v)) = neg →
    Ev (fun f => entryRow fin f n acc ⟨ts, o⟩) (.ok ((n + (l.length + 1), acc ++ (neg, v) :: l), ⟨r, o⟩)) := by
   intro ts' c1 c2 c3 c4
   have hrec := ih (n + 1) (acc ++ [(neg, v)]) m r o (fun y hy => hx y (List.mem_cons_of_mem _ hy)) hb h1 h2 (by omega)
   obtain ⟨f, hf⟩ := hrec
   refine ⟨f + 1, ?_⟩
   show entryRow fin (f + 1) n acc ⟨ts, o⟩ = _
   rw [entryRow]
   simp only [c1, if_true]
   rw [c2, number_is fin c3, ret_bind, c4]
   simp only at hf
   have e1 : n + 1 + l.length = n + (l.length + 1) := by omega
   have e2 : acc ++ [(neg, v)] ++ l = acc ++ (neg, v) :: l := by simp
   rw [e1, e2] at hf
   exact hf
  cases neg with
  | true =>
   obtain ⟨c, ts', rfl, h3⟩ := Is.cons (x := mk 45) (l := [numK v]) ha
   have hp : 0 < v := hx (true, v) List.mem_cons_self rfl
   refine key ts' ?_ ?_ h3 ?_
   ·simp [isMark]
   ·simp [isMark, St.adv]
   ·simp [isMark, hp]
  | false =>
   have ha' : Is ts [numK v] m := ha
   obtain ⟨c, ts', rfl, h3⟩ := ha'.cons
   refine key _ ?_ ?_ ha' ?_
   ·simp [numK, isKind]
   ·simp [numK, isMark]
   ·simp [numK, isMark]
theorem entries_is (fin : Nat) : ∀ (rows : List (List (Bool × Nat))) (acc : List (Bool × Nat)) (lens : List Nat) (ts r : List Tok) (o : Nat), rows ≠ [] → (∀ l ∈ rows, l ≠ [] ∧ ∀ x ∈ l, x.1 = true → 0 < x.2) →
  Is ts (joinK [mk 59] (rows.map fun l => l.flatMap intK) ++ [mk 93]) r →
  Ev (fun f => entries fin f acc lens ⟨ts, o⟩) (.ok ((acc ++ rows.flatten, lens ++ rows.map List.length), ⟨r, o⟩)) := by
 intro rows
 induction rows with
 | nil => intro acc lens ts r o h; exact absurd rfl h
 | cons l rows ih =>
  intro acc lens ts r o _ hall h
  obtain ⟨hl, hx⟩ := hall l List.mem_cons_self
  cases rows with
  | nil =>
   have h' : Is ts (l.flatMap intK ++ [mk 93]) r := h
   obtain ⟨m, ha, hb⟩ := h'.app
   obtain ⟨c, ts', rfl, h3⟩ := hb.cons
   have := Is.nil h3
   subst this
   obtain ⟨f, hf⟩ := entryRow_is fin l 0 acc ts _ o hx ha (by simp [isMark]) (by simp [isKind]) (fun _ => hl)
   refine ⟨f + 1, ?_⟩
   show entries fin (f + 1) acc lens ⟨ts, o⟩ = _
   simp only at hf
   rw [entries, hf]
   simp [PR.bind, isMark, ret, St.adv]
  | cons l2 rows =>
   have h' : Is ts (l.flatMap intK ++ (mk 59 :: (joinK [mk 59] ((l2 :: rows).map fun l => l.flatMap intK) ++ [mk 93]))) r := by
    have e : joinK [mk 59] ((l :: l2 :: rows).map fun l => l.flatMap intK) ++ [mk 93] = l.flatMap intK ++ (mk 59 :: (joinK [mk 59] ((l2 :: rows).map fun l => l.flatMap intK) ++ [mk 93])) := by
     simp [joinK, List.append_assoc]
    rw [← e]; exact h
   obtain ⟨m, ha, hb⟩ := h'.app
   obtain ⟨c, ts', rfl, h3⟩ := hb.cons
   obtain ⟨f1, hf1⟩ := entryRow_is fin l 0 acc ts _ o hx ha (by simp [isMark]) (by simp [isKind]) (fun _ => hl)
   obtain ⟨f2, hf2⟩ := ih (acc ++ l) (lens ++ [l.length]) ts' r o (by simp) (fun y hy => hall y (List.mem_cons_of_mem _ hy)) h3
   refine ⟨max f1 f2 + 1, ?_⟩
   show entries fin (max f1 f2 + 1) acc lens ⟨ts, o⟩ = _
   have s1 : Stab fun f => entryRow fin f 0 acc ⟨ts, o⟩ := fun f => entryRow_mono _ _ _ _ _
   have s2 : Stab fun f => entries fin f (acc ++ l) (lens ++ [l.length]) ⟨ts', o⟩ := fun f => entries_mono _ _ _ _ _
   have g1 := s1.le (Nat.le_max_left f1 f2) hf1
   have g2 := s2.le (Nat.le_max_right f1 f2) hf2
   simp only at g1 g2
   rw [entries, g1]
   simp only [PR.bind, Nat.zero_add]
   have e1 : isMark [93] ((3, [59], c) :: ts') = false := by simp [isMark]
   have e2 : want fin [59] ⟨(3, [59], c) :: ts', o⟩ = some (.ok ((), ⟨ts', o⟩)) := by simp [want, isMark, ret, St.adv]
   simp only [e1, e2, PR.bind]
   rw [if_neg (by simp), g2]
   simp [List.append_assoc]
theorem rowsOf_len {α : Type} (cols : Nat) : ∀ (r : Nat) (l : List α), l.length = r * cols → (rowsOf cols r l).map List.length = List.replicate r cols ∧ (rowsOf cols r l).flatten = l := by
 intro r
 induction r with
 | zero => intro l h; rw [Nat.zero_mul] at h; exact ⟨rfl, (List.eq_nil_of_length_eq_zero h).symm⟩
 | succ r ih =>
  intro l h
  rw [Nat.add_mul, Nat.one_mul] at h
  obtain ⟨h1, h2⟩ := ih (l.drop cols) (by rw [List.length_drop]; omega)
  refine ⟨?_, ?_⟩
  ·simp only [rowsOf, List.map_cons, List.replicate_succ, h1]
   rw [List.length_take, Nat.min_eq_left (by omega)]
  ·simp only [rowsOf, List.flatten_cons, h2, List.take_append_drop]
theorem rowsOf_mem {α : Type} (cols : Nat) : ∀ (r : Nat) (l : List α), ∀ y ∈ rowsOf cols r l, ∀ x ∈ y, x ∈ l := by
 intro r
 induction r with
 | zero => intro l y h; cases h
 | succ r ih =>
  intro l y h x hx
  simp only [rowsOf, List.mem_cons] at h
  rcases h with rfl | h
  ·exact List.mem_of_mem_take hx
  ·exact List.mem_of_mem_drop (ih _ _ h x hx)
theorem no_colon {rows : List (List (Bool × Nat))} : ∀ k ∈ joinK [mk 59] (rows.map fun l => l.flatMap intK) ++ [mk 93], k ≠ mk 58 := by
 have h1 : ∀ l : List (Bool × Nat), ∀ k ∈ l.flatMap intK, k ≠ mk 58 := by
  intro l k hk
  simp only [List.mem_flatMap] at hk
  obtain ⟨x, _, hk⟩ := hk
  unfold intK at hk
  split at hk <;> simp [numK] at hk
  ·rcases hk with rfl | rfl <;> simp
  ·subst hk; simp
 have h2 : ∀ rows : List (List (Bool × Nat)), ∀ k ∈ joinK [mk 59] (rows.map fun l => l.flatMap intK), k ≠ mk 58 := by
  intro rows
  induction rows with
  | nil => intro k hk; cases hk
  | cons l rows ih =>
   intro k hk
   cases rows with
   | nil => exact h1 l k hk
   | cons l2 rows =>
    simp only [List.map_cons, joinK, List.append_assoc, List.mem_append, List.mem_singleton] at hk
    rcases hk with hk | rfl | hk
    ·exact h1 l k hk
    ·simp
    ·exact ih k hk
 intro k hk
 rw [List.mem_append] at hk
 rcases hk with hk | hk
 ·exact h2 rows k hk
 ·simp only [List.mem_singleton] at hk; subst hk; simp
theorem matrix_is (fin : Nat) {m : MatV} (hm : MatOk m) {ts r : List Tok} {o : Nat} (h : Is ts (matK m) r) : Ev (fun f => matrix fin f ⟨ts, o⟩) (.ok (m, ⟨r, o⟩)) := by
 obtain ⟨hr, hc, hl, hx⟩ := hm
 unfold matK at h
 by_cases h0 : m.at_ = []
 ·rw [if_pos h0] at h
  have hz : m.rows * m.cols = 0 := by rw [← hl, h0]; rfl
  obtain ⟨c1, t1, rfl, k1⟩ := h.cons
  obtain ⟨c2, t2, rfl, k2⟩ := k1.cons
  obtain ⟨c3, t3, rfl, k3⟩ := k2.cons
  obtain ⟨c4, t4, rfl, k4⟩ := k3.cons
  obtain ⟨c5, t5, rfl, k5⟩ := k4.cons
  have := Is.nil k5
  subst this
  refine ⟨0, ?_⟩
  have n1 : ¬ (64 < m.rows) := by omega
  have n2 : ¬ (64 < m.cols) := by omega
  have e : (⟨m.rows, m.cols, List.replicate (m.rows * m.cols) (false, 0)⟩ : MatV) = m := by
   rw [hz]
   cases m
   simp only at h0
   simp [h0]
  simp only [matrix, want, isMark, numK, St.adv, ret, PR.bind, isKind, matShape, number, headText, valOf_decT, side, n1, n2, List.tail_cons, beq_self_eq_true, Bool.and_self, if_true, if_false, decide_false, Bool.or_self, Bool.false_eq_true]
  rw [e]
 ·rw [if_neg h0] at h
  have hpos : 0 < m.rows * m.cols := by rw [← hl]; exact List.length_pos_iff.2 h0
  have hrp : 0 < m.rows := Nat.pos_of_mul_pos_right hpos
  have hcp : 0 < m.cols := Nat.pos_of_mul_pos_left hpos
  obtain ⟨h1, h2⟩ := rowsOf_len m.cols m.rows m.at_ hl
  obtain ⟨c1, t1, rfl, h'⟩ := Is.cons (x := mk 91) h
  clear h
  have h := h'
  clear h'
  have hne : (joinK [mk 59] ((rowsOf m.cols m.rows m.at_).map fun l => l.flatMap intK) ++ [mk 93]) ≠ [] := by simp
  have hshape : (isKind 1 t1 && isMark [58] t1.tail) = false := by
   cases hk : isKind 1 t1 && isMark [58] t1.tail with
   | false => rfl
   | true =>
    exfalso
    simp only [Bool.and_eq_true] at hk
    generalize hL : (joinK [mk 59] ((rowsOf m.cols m.rows m.at_).map fun l => l.flatMap intK) ++ [mk 93]) = L at h hne
    have hno : ∀ k ∈ L, k ≠ mk 58 := by rw [← hL]; exact no_colon
    cases L with
    | nil => exact hne rfl
    | cons k L =>
     have ht := h.tail
     by_cases hL0 : L = []
     ·subst hL0
      have hlast : mk 93 ∈ [k] := by rw [← hL]; simp
      simp only [List.mem_singleton] at hlast
      subst hlast
      obtain ⟨c, t, rfl, _⟩ := h.cons
      simp [isKind] at hk
     ·exact hno _ (List.mem_cons_of_mem _ (isMark_mem ht hL0 hk.2)) rfl
  have hrows : ∀ l ∈ rowsOf m.cols m.rows m.at_, l ≠ [] ∧ ∀ x ∈ l, x.1 = true → 0 < x.2 := by
   intro l hl2
   refine ⟨fun e => ?_, fun x hx2 => hx x (rowsOf_mem _ _ _ l hl2 x hx2)⟩
   have : l.length ∈ (rowsOf m.cols m.rows m.at_).map List.length := List.mem_map_of_mem hl2
   rw [h1, List.mem_replicate] at this
   rw [e] at this
   simp at this
   omega
  have hrne : rowsOf m.cols m.rows m.at_ ≠ [] := by
   intro e
   rw [e] at h1
   have := congrArg List.length h1
   simp at this
   omega
  obtain ⟨f, hf⟩ := entries_is fin _ [] [] t1 r o hrne hrows h
  refine ⟨f, ?_⟩
  simp only at hf
  show matrix fin f ⟨(3, [91], c1) :: t1, o⟩ = _
  unfold matrix
  have e1 : want fin [91] ⟨(3, [91], c1) :: t1, o⟩ = some (.ok ((), ⟨t1, o⟩)) := by simp [want, isMark, ret, St.adv]
  rw [e1]
  simp only [PR.bind, hshape, Bool.false_eq_true, if_false, hf, List.nil_append, h1, h2]
  unfold matDone
  have hrep : (List.replicate m.rows m.cols).headD 0 = m.cols := by
   obtain ⟨k, hk⟩ : ∃ k, m.rows = k + 1 := ⟨m.rows - 1, by omega⟩
   rw [hk, List.replicate_succ]; rfl
  have hany : (List.replicate m.rows m.cols).any (· != m.cols) = false := by
   rw [List.any_eq_false]
   intro x hx2
   rw [List.mem_replicate] at hx2
   simp [hx2.2]
  simp only [hrep, hany, Bool.false_eq_true, if_false, List.length_replicate]
  have n1 : ¬ (64 < m.rows) := by omega
  have n2 : ¬ (64 < m.cols) := by omega
  simp [n1, n2, ret]
theorem simplex_is (fin : Nat) : ∀ (s acc : List Nat) (ts r : List Tok) (o : Nat), Is ts (s.map numK) r → isKind 1 r = false → Ev (fun f => simplex fin f acc ⟨ts, o⟩) (.ok (acc ++ s, ⟨r, o⟩)) := by
 intro s
 induction s with
 | nil =>
  intro acc ts r o h hr
  have := Is.nil h
  subst this
  refine ⟨1, ?_⟩
  show simplex fin 1 acc ⟨ts, o⟩ = _
  rw [simplex, hr]; simp [ret]
 | cons n s ih =>
  intro acc ts r o h hr
  obtain ⟨m, ha, hb⟩ := Is.app (l1 := [numK n]) (l2 := s.map numK) h
  obtain ⟨f, hf⟩ := ih (acc ++ [n]) m r o hb hr
  refine ⟨f + 1, ?_⟩
  show simplex fin (f + 1) acc ⟨ts, o⟩ = _
  have hk : isKind 1 ts = true := by obtain ⟨c, t, rfl, _⟩ := ha.cons; rfl
  simp only at hf
  rw [simplex, hk, number_is fin ha, ret_bind, hf]
  simp
theorem cpxLoop_is (fin : Nat) : ∀ (l acc : List (List Nat)) (ts r : List Tok) (o : Nat), l ≠ [] → CpxOk l → Is ts (joinK [mk 44] (l.map fun s => s.map numK) ++ [mk 125]) r → Ev (fun f => cpxLoop fin f acc ⟨ts, o⟩) (.ok (acc ++ l, ⟨r, o⟩)) := by
 intro l
 induction l with
 | nil => intro acc ts r o h; exact absurd rfl h
 | cons s l ih =>
  intro acc ts r o _ hok h
  have hs := hok s List.mem_cons_self
  obtain ⟨n, s, rfl⟩ : ∃ n s', s = n :: s' := by cases s with | nil => exact absurd rfl hs | cons n s => exact ⟨n, s, rfl⟩
  cases l with
  | nil =>
   have h' : Is ts ([numK n] ++ (s.map numK ++ [mk 125])) r := h
   obtain ⟨m1, ha, hb⟩ := h'.app
   obtain ⟨m2, hb2, hc⟩ := hb.app
   obtain ⟨c, ts', rfl, h3⟩ := hc.cons
   have := Is.nil h3
   subst this
   obtain ⟨f, hf⟩ := simplex_is fin s [n] m1 _ o hb2 (by simp [isKind])
   refine ⟨f + 1, ?_⟩
   show cpxLoop fin (f + 1) acc ⟨ts, o⟩ = _
   simp only at hf
   rw [cpxLoop, number_is fin ha, ret_bind, hf]
   simp [PR.bind, isMark, ret, St.adv]
  | cons s2 l =>
   have h' : Is ts ([numK n] ++ (s.map numK ++ (mk 44 :: (joinK [mk 44] ((s2 :: l).map fun s => s.map numK) ++ [mk 125])))) r := by
    have e : joinK [mk 44] (((n :: s) :: s2 :: l).map fun s => s.map numK) ++ [mk 125] = [numK n] ++ (s.map numK ++ (mk 44 :: (joinK [mk 44] ((s2 :: l).map fun s => s.map numK) ++ [mk 125]))) := by
     simp [joinK, List.append_assoc]
    rw [← e]; exact h
   obtain ⟨m1, ha, hb⟩ := h'.app
   obtain ⟨m2, hb2, hc⟩ := hb.app
   obtain ⟨c, ts', rfl, h3⟩ := hc.cons
   obtain ⟨f1, hf1⟩ := simplex_is fin s [n] m1 _ o hb2 (by simp [isKind])
   obtain ⟨f2, hf2⟩ := ih (acc ++ [n :: s]) ts' r o (by simp) (fun y hy => hok y (List.mem_cons_of_mem _ hy)) h3
   have g1 := Stab.le (g := fun f => simplex fin f [n] ⟨m1, o⟩) (fun f => simplex_mono _ _ _ _) (Nat.le_max_left f1 f2) hf1
   have g2 := Stab.le (g := fun f => cpxLoop fin f (acc ++ [n :: s]) ⟨ts', o⟩) (fun f => cpxLoop_mono _ _ _ _) (Nat.le_max_right f1 f2) hf2
   simp only at g1 g2
   refine ⟨max f1 f2 + 1, ?_⟩
   show cpxLoop fin (max f1 f2 + 1) acc ⟨ts, o⟩ = _
   rw [cpxLoop, number_is fin ha, ret_bind, g1]
   have e1 : isMark [125] ((3, [44], c) :: ts') = false := by simp [isMark]
   have e2 : want fin [44] ⟨(3, [44], c) :: ts', o⟩ = some (.ok ((), ⟨ts', o⟩)) := by simp [want, isMark, ret, St.adv]
   have e3 : ([n] ++ s) = n :: s := rfl
   simp only [PR.bind, e1, e2, e3, Bool.false_eq_true, if_false, g2]
   simp [List.append_assoc]
theorem complex_is (fin : Nat) {l : List (List Nat)} (hok : CpxOk l) {ts r : List Tok} {o : Nat} (h : Is ts (cpxK l) r) : Ev (fun f => complex fin f ⟨ts, o⟩) (.ok (l, ⟨r, o⟩)) := by
 unfold cpxK at h
 obtain ⟨c1, t1, rfl, h'⟩ := Is.cons (x := mk 123) h
 clear h
 have h := h'
 clear h'
 have e1 : want fin [123] ⟨(3, [123], c1) :: t1, o⟩ = some (.ok ((), ⟨t1, o⟩)) := by simp [want, isMark, ret, St.adv]
 cases l with
 | nil =>
  obtain ⟨c2, t2, rfl, h'⟩ := Is.cons (x := mk 125) (l := []) h
  have := Is.nil h'
  subst this
  refine ⟨0, ?_⟩
  show complex fin 0 ⟨(3, [123], c1) :: (3, [125], c2) :: t2, o⟩ = _
  unfold complex
  rw [e1]
  simp [PR.bind, isMark, ret, St.adv]
 | cons s l =>
  obtain ⟨f, hf⟩ := cpxLoop_is fin (s :: l) [] t1 r o (by simp) hok h
  refine ⟨f, ?_⟩
  show complex fin f ⟨(3, [123], c1) :: t1, o⟩ = _
  unfold complex
  simp only at hf
  rw [e1]
  have hs := hok s List.mem_cons_self
  have hm : isMark [125] t1 = false := by
   cases s with
   | nil => exact absurd rfl hs
   | cons n s =>
    have : ∃ L, joinK [mk 44] (((n :: s) :: l).map fun s => s.map numK) ++ [mk 125] = numK n :: L := by
     cases l with
     | nil => exact ⟨_, rfl⟩
     | cons s2 l => exact ⟨_, rfl⟩
    obtain ⟨L, hL⟩ := this
    rw [hL] at h
    obtain ⟨c, t, rfl, _⟩ := h.cons
    simp [isMark, numK]
  simp only [PR.bind, hm, Bool.false_eq_true, if_false, hf]
  simp
end SynP
