/- Lists of characters, tokens and texts as cells of memory. -/
import Derived.WalkKit
import Derived.WalkSpells
import Derived.WalkSmall
import Derived.WalkLawsBesides
import Derived.Lib.OthersKept
import Derived.Lib.Hide
import Derived.Test.YtebidhdoiojaeaaLexPure
namespace LexP
open Go Go.RowKit

/-- The cells of a list of characters, the first of which begins at byte p. -/
def chCells : Nat → List C → List Value
  | _, [] => []
  | p, c :: cs => .int .i64 (kd c : Nat) :: .int .i32 (rn c : Nat) :: .int .i64 (p : Nat) :: chCells (p + c.2.length) cs

theorem chCells_append : ∀ (a b : List C) (p : Nat), chCells p (a ++ b) = chCells p a ++ chCells (p + (bytesOf a).length) b := by
  intro a
  induction a with
  | nil => intro b p; simp [chCells, bytesOf]
  | cons c cs ih => intro b p; simp [chCells, bytesOf, ih, Nat.add_assoc]

theorem chCells_length : ∀ (a : List C) (p : Nat), (chCells p a).length = a.length * 3 := by
  intro a
  induction a with
  | nil => intro p; rfl
  | cons c cs ih => intro p; simp only [chCells, List.length_cons, ih]; omega

theorem chCells_one (p : Nat) (c : C) : chCells p [c] = [.int .i64 (kd c : Nat), .int .i32 (rn c : Nat), .int .i64 (p : Nat)] := rfl

/-- The three cells of the character in the place k. -/
theorem chCells_at : ∀ (a : List C) (p k : Nat) (c : C), a[k]? = some c →
    (chCells p a)[k * 3]? = some (.int .i64 (kd c : Nat)) ∧ (chCells p a)[k * 3 + 1]? = some (.int .i32 (rn c : Nat)) ∧
    (chCells p a)[k * 3 + 2]? = some (.int .i64 (p + (bytesOf (a.take k)).length : Nat)) := by
  intro a
  induction a with
  | nil => intro p k c h; simp at h
  | cons d cs ih =>
    intro p k c h
    cases k with
    | zero => simp at h; subst h; simp [chCells, bytesOf]
    | succ k =>
      simp only [List.getElem?_cons_succ] at h
      obtain ⟨h1, h2, h3⟩ := ih (p + d.2.length) k c h
      have e0 : (k + 1) * 3 = k * 3 + 1 + 1 + 1 := by omega
      have e1 : (k + 1) * 3 + 1 = k * 3 + 1 + 1 + 1 + 1 := by omega
      have e2 : (k + 1) * 3 + 2 = k * 3 + 2 + 1 + 1 + 1 := by omega
      refine ⟨?_, ?_, ?_⟩
      · rw [e0]; simp only [chCells, List.getElem?_cons_succ]; exact h1
      · rw [e1]; simp only [chCells, List.getElem?_cons_succ]; exact h2
      · rw [e2]; simp only [chCells, List.getElem?_cons_succ, List.take_succ_cons, bytesOf, List.flatMap_cons, List.length_append]; rw [h3]; simp only [bytesOf, Nat.add_assoc]

def tkCells (l : List Tok) : List Value := l.flatMap fun t => [.int .i64 (t.1 : Nat), .string ⟨t.2.1.toArray⟩, .int .i64 (t.2.2 : Nat)]

theorem tkCells_append (a b : List Tok) : tkCells (a ++ b) = tkCells a ++ tkCells b := by simp [tkCells]
theorem tkCells_length (a : List Tok) : (tkCells a).length = a.length * 3 := by
  induction a with
  | nil => rfl
  | cons t ts ih => simp [tkCells] at ih ⊢; omega

theorem tkCells_at : ∀ (a : List Tok) (k : Nat) (t : Tok), a[k]? = some t →
    (tkCells a)[k * 3]? = some (.int .i64 (t.1 : Nat)) ∧ (tkCells a)[k * 3 + 1]? = some (.string ⟨t.2.1.toArray⟩) ∧ (tkCells a)[k * 3 + 2]? = some (.int .i64 (t.2.2 : Nat)) := by
  intro a
  induction a with
  | nil => intro k t h; simp at h
  | cons d cs ih =>
    intro k t h
    cases k with
    | zero => simp at h; subst h; simp [tkCells]
    | succ k =>
      simp only [List.getElem?_cons_succ] at h
      obtain ⟨h1, h2, h3⟩ := ih k t h
      have e0 : (k + 1) * 3 = k * 3 + 1 + 1 + 1 := by omega
      have e1 : (k + 1) * 3 + 1 = k * 3 + 1 + 1 + 1 + 1 := by omega
      have e2 : (k + 1) * 3 + 2 = k * 3 + 2 + 1 + 1 + 1 := by omega
      have ec : tkCells (d :: cs) = .int .i64 (d.1 : Nat) :: .string ⟨d.2.1.toArray⟩ :: .int .i64 (d.2.2 : Nat) :: tkCells cs := rfl
      refine ⟨?_, ?_, ?_⟩
      · rw [e0, ec]; simp only [List.getElem?_cons_succ]; exact h1
      · rw [e1, ec]; simp only [List.getElem?_cons_succ]; exact h2
      · rw [e2, ec]; simp only [List.getElem?_cons_succ]; exact h3

def stCells (l : List Bytes) : List Value := l.map fun t => .string ⟨t.toArray⟩

theorem ownsRow_mono {w : World} {b b' : Nat} {e : TypeId} {size : Nat} {v : Value} {n : Nat} {xs : List Value} (h : w.ownsRow b e size v n xs) (hb : b' ≤ b) : w.ownsRow b' e size v n xs := by
  refine ⟨h.1, ?_⟩
  rcases h.2 with h2 | ⟨g, cap, cur, hv, hg, r⟩
  · exact .inl h2
  · exact .inr ⟨g, cap, cur, hv, Nat.le_trans hb hg, r⟩

theorem ownsRow_below {w w' : World} {b B : Nat} {e : TypeId} {size : Nat} {v : Value} {n : Nat} {xs : List Value} (h : w.ownsRow b e size v n xs) (hb : Below B w w') (hB : w.heap.size ≤ B) : w'.ownsRow b e size v n xs := by
  refine ⟨h.1, ?_⟩
  rcases h.2 with h2 | ⟨g, cap, cur, hv, hg, hh, r⟩
  · exact .inl h2
  · have hlt : g < w.heap.size := (Array.getElem?_eq_some_iff.1 hh).1
    exact .inr ⟨g, cap, cur, hv, hg, by rw [hb.block g (by omega)]; exact hh, r⟩

/-- A slice that reads as a list of cells: its shape, for a walk: nil and empty, or an address and its cells. -/
theorem ownsRow_open {w : World} {b : Nat} {e : TypeId} {size : Nat} {v : Value} {n : Nat} {xs : List Value} (h : w.ownsRow b e size v n xs) :
    (v = .slice none 0 0 ∧ n = 0 ∧ xs = []) ∨ ∃ g cap, v = .slice (some ⟨g, 0, none⟩) n cap ∧ b ≤ g ∧ g < w.heap.size ∧ n ≤ cap ∧ cap ≤ maxLen ∧ ∀ j, j < n * size → w.cell? ⟨g, j, none⟩ = xs[j]? := by
  rcases h.2 with ⟨rfl, rfl⟩ | ⟨g, cap, cur, rfl, hg, hh, hn, hc, _⟩
  · exact .inl ⟨rfl, rfl, List.eq_nil_of_length_eq_zero (by simpa using h.1)⟩
  · exact .inr ⟨g, cap, rfl, hg, (Array.getElem?_eq_some_iff.1 hh).1, hn, hc, fun j hj => h.cellAt j hj⟩

/-- The cells of a new block: for the law on append. -/
theorem cells_new (w : World) (cs : List Value) (t : TypeId) (n : Nat) (hn : n = w.heap.size) : ∀ j u, cs[j]? = some u → (w.alloc (.cells cs.toArray t)).cell? ((⟨n, 0, none⟩ : Addr).add j) = some u := by
  intro j u h
  subst hn
  rw [Addr.add_lit, World.cell?_alloc_at _ _ _ _ rfl]
  simpa using h

/-- A slice that reads as a list of cells, its shape in one piece. -/
theorem ownsRow_shape {w : World} {b : Nat} {e : TypeId} {size : Nat} {v : Value} {n : Nat} {xs : List Value} (h : w.ownsRow b e size v n xs) :
    ∃ ao cap, v = .slice ao n cap ∧ n ≤ cap ∧ cap ≤ maxLen ∧ (0 < n → ∃ g, ao = some ⟨g, 0, none⟩ ∧ b ≤ g ∧ g < w.heap.size ∧ ∀ j, j < n * size → w.cell? ⟨g, j, none⟩ = xs[j]?) := by
  rcases h.2 with ⟨rfl, rfl⟩ | ⟨g, cap, cur, rfl, hg, hh, hn, hc, _⟩
  · exact ⟨none, 0, rfl, Nat.le_refl _, Nat.zero_le _, fun h0 => absurd h0 (Nat.lt_irrefl _)⟩
  · exact ⟨_, cap, rfl, hn, hc, fun _ => ⟨g, rfl, hg, (Array.getElem?_eq_some_iff.1 hh).1, fun j hj => h.cellAt j hj⟩⟩

end LexP
