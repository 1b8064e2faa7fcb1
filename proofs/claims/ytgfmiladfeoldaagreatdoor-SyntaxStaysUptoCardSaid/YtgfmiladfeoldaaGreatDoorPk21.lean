/- Joined texts of this claim's proof: StA, StB, QmX, StC, KpB, StD, StE. -/
import Derived.Test.YtgfmiladfeoldaaGreatDoorPk19
import Derived.Test.YtgfmiladfeoldaaGreatDoorPk20
import Derived.Deep.DeepCutAuto
import Derived.Deep.CutBlock
import Derived.Deep.Slices
import Derived.Test.YtgfmiladfeoldaaGreatDoorPk18
set_option linter.unusedSimpArgs false
set_option linter.unusedVariables false
namespace Go.Proofs.YtgfmiladfeoldaaGreatDoor
open Go.RowKit NatP LexP
def WSt (B : Nat) (w : World) (GA : Nat) (sh : List (Nat × Nat × Nat)) : Prop := B ≤ GA ∧ ∃ cur : Array Value, w.heap[GA]? = some (.cells cur 62 (0, 0)) ∧
 ∀ (j : Nat) (s : Nat × Nat × Nat), sh[j]? = some s → (∃ b, cur[j * 2]? = some (.bool b)) ∧ cur[j * 2 + 1]? = some (.slice (some ⟨s.1, 0, none⟩) s.2.1 s.2.2) ∧ B ≤ s.1 ∧ s.2.1 ≤ s.2.2 ∧ s.2.2 ≤ maxLen ∧ ∃ L, Blk w s.1 L ∧ s.2.1 ≤ L.length
theorem WSt.below {B GA : Nat} {w w' : World} {sh : List (Nat × Nat × Nat)} (h : WSt B w GA sh) (hb : Below w.heap.size w w') : WSt B w' GA sh := by
 obtain ⟨h0, cur, h1, h2⟩ := h
 refine ⟨h0, cur, (hb.block GA (Array.getElem?_eq_some_iff.1 h1).1).trans h1, fun j s hs => ?_⟩
 obtain ⟨a1, a2, a3, a4, a5, L, a6, a7⟩ := h2 j s hs
 exact ⟨a1, a2, a3, a4, a5, L, a6.below hb a6.lt, a7⟩
theorem WSt.flag {B GA k : Nat} {w : World} {sh : List (Nat × Nat × Nat)} {s : Nat × Nat × Nat} (h : WSt B w GA sh) (hk : sh[k]? = some s) : ∃ b, w.cell? ⟨GA, k * 2, none⟩ = some (.bool b) ∧ w.frozen? ⟨GA, k * 2, none⟩ = false ∧ w.cell? ⟨GA, k * 2 + 1, none⟩ = some (.slice (some ⟨s.1, 0, none⟩) s.2.1 s.2.2) := by
 obtain ⟨-, cur, h1, h2⟩ := h
 obtain ⟨⟨b, a1⟩, a2, -⟩ := h2 k s hk
 exact ⟨b, by rw [cell_of_row _ _ _ _ _ _ h1]; exact a1, frozen_of_row _ _ _ _ _ h1, by rw [cell_of_row _ _ _ _ _ _ h1]; exact a2⟩
theorem WSt.word {B GA k i : Nat} {w : World} {sh : List (Nat × Nat × Nat)} {s : Nat × Nat × Nat} (h : WSt B w GA sh) (hk : sh[k]? = some s) (hi : i < s.2.1) : ∃ x, x < BB ∧ w.cell? ⟨s.1, i, none⟩ = some (.int .u64 (x : Nat)) ∧ w.frozen? ⟨s.1, i, none⟩ = false := by
 obtain ⟨-, cur, h1, h2⟩ := h
 obtain ⟨-, -, -, -, -, L, a6, a7⟩ := h2 k s hk
 obtain ⟨x, hx⟩ : ∃ x, L[i]? = some x := ⟨_, List.getElem?_eq_getElem (by omega)⟩
 exact ⟨x, a6.2 x (List.mem_of_getElem? hx), a6.cell hx, a6.frozen i⟩
theorem WSt.setFlag {B GA k : Nat} {w : World} {sh : List (Nat × Nat × Nat)} {s : Nat × Nat × Nat} (h : WSt B w GA sh) (hk : sh[k]? = some s) (b : Bool) : WSt B (w.setCell ⟨GA, k * 2, none⟩ (.bool b)) GA sh := by
 obtain ⟨h0, cur, h1, h2⟩ := h
 have s0 := heap_setCell_same w GA (k * 2) _ 62 (.bool b) h1
 refine ⟨h0, _, s0, fun j t ht => ?_⟩
 obtain ⟨⟨b', a1⟩, a2, a3, a4, a5, L, a6, a7⟩ := h2 j t ht
 have hne : t.1 ≠ GA := fun e => by
  have := a6.1; rw [e, h1] at this; simp at this
 refine ⟨?_, ?_, a3, a4, a5, L, ⟨(heap_setCell_other w ⟨GA, k * 2, none⟩ t.1 _ hne).trans a6.1, a6.2⟩, a7⟩
 ·by_cases hjk : j = k
  ·subst hjk
   exact ⟨b, by simp [Array.getElem?_setIfInBounds]; exact (Array.getElem?_eq_some_iff.1 a1).1⟩
  ·exact ⟨b', by rw [← a1, Array.getElem?_setIfInBounds, if_neg (by omega)]⟩
 ·rw [← a2, Array.getElem?_setIfInBounds, if_neg (by omega)]
theorem WSt.setWord {B GA k i x : Nat} {w : World} {sh : List (Nat × Nat × Nat)} {s : Nat × Nat × Nat} (h : WSt B w GA sh) (hk : sh[k]? = some s) (hx : x < BB) : WSt B (w.setCell ⟨s.1, i, none⟩ (.int .u64 (x : Nat))) GA sh := by
 obtain ⟨h0, cur, h1, h2⟩ := h
 obtain ⟨-, -, -, -, -, L0, c6, c7⟩ := h2 k s hk
 have hne : GA ≠ s.1 := fun e => by
  have := c6.1; rw [← e, h1] at this; simp at this
 refine ⟨h0, cur, (heap_setCell_other w ⟨s.1, i, none⟩ GA _ hne).trans h1, fun j t ht => ?_⟩
 obtain ⟨a1, a2, a3, a4, a5, L, a6, a7⟩ := h2 j t ht
 by_cases e : t.1 = s.1
 ·rw [e] at a6 ⊢
  exact ⟨a1, by rw [← e]; exact a2, by rw [← e]; exact a3, a4, a5, _, (a6.set i hx).1, by rw [List.length_set]; exact a7⟩
 ·exact ⟨a1, a2, a3, a4, a5, L, ⟨(heap_setCell_other w ⟨s.1, i, none⟩ t.1 _ e).trans a6.1, a6.2⟩, a7⟩
def HSt (B : Nat) (w : World) (GH : Nat) (sh : List (Nat × Nat × Nat)) : Prop := B ≤ GH ∧ ∃ cur : Array Value, w.heap[GH]? = some (.cells cur 41 (0, 0)) ∧
 ∀ (j : Nat) (s : Nat × Nat × Nat), sh[j]? = some s → cur[j]? = some (.slice (some ⟨s.1, 0, none⟩) s.2.1 s.2.2) ∧ B ≤ s.1 ∧ s.2.1 ≤ s.2.2 ∧ s.2.2 ≤ maxLen ∧ ∃ K : Array Value, w.heap[s.1]? = some (.cells K 3 (0, 0)) ∧ ∀ i, i < s.2.1 → ∃ z : Int, K[i]? = some (.int .i64 z) ∧ z ≤ 9223372036854775807
theorem HSt.below {B GH : Nat} {w w' : World} {sh : List (Nat × Nat × Nat)} (h : HSt B w GH sh) (hb : Below w.heap.size w w') : HSt B w' GH sh := by
 obtain ⟨h0, cur, h1, h2⟩ := h
 refine ⟨h0, cur, (hb.block GH (Array.getElem?_eq_some_iff.1 h1).1).trans h1, fun j s hs => ?_⟩
 obtain ⟨a2, a3, a4, a5, K, a6, a7⟩ := h2 j s hs
 exact ⟨a2, a3, a4, a5, K, (hb.block s.1 (Array.getElem?_eq_some_iff.1 a6).1).trans a6, a7⟩
theorem HSt.at {B GH k : Nat} {w : World} {sh : List (Nat × Nat × Nat)} {s : Nat × Nat × Nat} (h : HSt B w GH sh) (hk : sh[k]? = some s) : w.cell? ⟨GH, k, none⟩ = some (.slice (some ⟨s.1, 0, none⟩) s.2.1 s.2.2) := by
 obtain ⟨-, cur, h1, h2⟩ := h
 obtain ⟨a2, -⟩ := h2 k s hk
 rw [cell_of_row _ _ _ _ _ _ h1]; exact a2
theorem HSt.num {B GH k i : Nat} {w : World} {sh : List (Nat × Nat × Nat)} {s : Nat × Nat × Nat} (h : HSt B w GH sh) (hk : sh[k]? = some s) (hi : i < s.2.1) : ∃ z : Int, w.cell? ⟨s.1, i, none⟩ = some (.int .i64 z) ∧ w.frozen? ⟨s.1, i, none⟩ = false := by
 obtain ⟨-, cur, h1, h2⟩ := h
 obtain ⟨-, -, -, -, K, a6, a7⟩ := h2 k s hk
 obtain ⟨z, a8, -⟩ := a7 i hi
 exact ⟨z, by rw [cell_of_row _ _ _ _ _ _ a6]; exact a8, frozen_of_row _ _ _ _ _ a6⟩
theorem HSt.setNum {B GH k i : Nat} {z : Int} {w : World} {sh : List (Nat × Nat × Nat)} {s : Nat × Nat × Nat} (h : HSt B w GH sh) (hk : sh[k]? = some s) (hz : z ≤ 9223372036854775807) : HSt B (w.setCell ⟨s.1, i, none⟩ (.int .i64 z)) GH sh := by
 obtain ⟨h0, cur, h1, h2⟩ := h
 obtain ⟨-, -, -, -, K0, c6, -⟩ := h2 k s hk
 have hne : GH ≠ s.1 := fun e => by
  rw [← e, h1] at c6; simp at c6
 refine ⟨h0, cur, (heap_setCell_other w ⟨s.1, i, none⟩ GH _ hne).trans h1, fun j t ht => ?_⟩
 obtain ⟨a2, a3, a4, a5, K, a6, a7⟩ := h2 j t ht
 by_cases e : t.1 = s.1
 ·rw [e] at a6
  have s0 := heap_setCell_same w s.1 i _ 3 (.int .i64 z) a6
  refine ⟨a2, a3, a4, a5, _, by rw [e]; exact s0, fun q hq => ?_⟩
  obtain ⟨y, b1, b2⟩ := a7 q hq
  by_cases hqi : q = i
  ·subst hqi
   exact ⟨z, by simp [Array.getElem?_setIfInBounds]; exact (Array.getElem?_eq_some_iff.1 b1).1, hz⟩
  ·exact ⟨y, by rw [← b1, Array.getElem?_setIfInBounds, if_neg (fun e => hqi e.symm)], b2⟩
 ·exact ⟨a2, a3, a4, a5, K, (heap_setCell_other w ⟨s.1, i, none⟩ t.1 _ e).trans a6, a7⟩
theorem HSt.word {B GA GH k i x : Nat} {w : World} {sh hs : List (Nat × Nat × Nat)} {s : Nat × Nat × Nat} (h : HSt B w GH hs) (hw : WSt B w GA sh) (hk : sh[k]? = some s) : HSt B (w.setCell ⟨s.1, i, none⟩ (.int .u64 (x : Nat))) GH hs := by
 obtain ⟨h0, cur, h1, h2⟩ := h
 obtain ⟨-, cu, -, g2⟩ := hw
 obtain ⟨-, -, -, -, -, L, c6, -⟩ := g2 k s hk
 have hne : GH ≠ s.1 := fun e => by have := c6.1; rw [← e, h1] at this; simp at this
 refine ⟨h0, cur, (heap_setCell_other w ⟨s.1, i, none⟩ GH _ hne).trans h1, fun j t ht => ?_⟩
 obtain ⟨a2, a3, a4, a5, K, a6, a7⟩ := h2 j t ht
 have e : t.1 ≠ s.1 := fun e => by have := c6.1; rw [← e, a6] at this; simp at this
 exact ⟨a2, a3, a4, a5, K, (heap_setCell_other w ⟨s.1, i, none⟩ t.1 _ e).trans a6, a7⟩
theorem HSt.flag {B GA GH k : Nat} {w : World} {sh hs : List (Nat × Nat × Nat)} {b : Bool} (h : HSt B w GH hs) (hw : WSt B w GA sh) : HSt B (w.setCell ⟨GA, k, none⟩ (.bool b)) GH hs := by
 obtain ⟨h0, cur, h1, h2⟩ := h
 obtain ⟨-, c, c1, -⟩ := hw
 have hne : GH ≠ GA := fun e => by rw [e, c1] at h1; simp at h1
 refine ⟨h0, cur, (heap_setCell_other w ⟨GA, k, none⟩ GH _ hne).trans h1, fun j t ht => ?_⟩
 obtain ⟨a2, a3, a4, a5, K, a6, a7⟩ := h2 j t ht
 have e : t.1 ≠ GA := fun e => by rw [e, c1] at a6; simp at a6
 exact ⟨a2, a3, a4, a5, K, (heap_setCell_other w ⟨GA, k, none⟩ t.1 _ e).trans a6, a7⟩
theorem WSt.num {B GA GH k i : Nat} {z : Int} {w : World} {sh hs : List (Nat × Nat × Nat)} {s : Nat × Nat × Nat} (h : WSt B w GA sh) (hw : HSt B w GH hs) (hk : hs[k]? = some s) : WSt B (w.setCell ⟨s.1, i, none⟩ (.int .i64 z)) GA sh := by
 obtain ⟨h0, cur, h1, h2⟩ := h
 obtain ⟨-, cu, -, g2⟩ := hw
 obtain ⟨-, -, -, -, K, c6, -⟩ := g2 k s hk
 have hne : GA ≠ s.1 := fun e => by rw [← e, h1] at c6; simp at c6
 refine ⟨h0, cur, (heap_setCell_other w ⟨s.1, i, none⟩ GA _ hne).trans h1, fun j t ht => ?_⟩
 obtain ⟨a1, a2, a3, a4, a5, L, a6, a7⟩ := h2 j t ht
 have e : t.1 ≠ s.1 := fun e => by have := a6.1; rw [e, c6] at this; simp at this
 exact ⟨a1, a2, a3, a4, a5, L, ⟨(heap_setCell_other w ⟨s.1, i, none⟩ t.1 _ e).trans a6.1, a6.2⟩, a7⟩
end Go.Proofs.YtgfmiladfeoldaaGreatDoor
namespace Go.Proofs.YtgfmiladfeoldaaGreatDoor
open Go.RowKit NatP LexP Go.Deep
theorem WSt.iwd {B GA cap : Nat} {w : World} {sh : List (Nat × Nat × Nat)} (h : WSt B w GA sh) (hc : sh.length ≤ cap) (hm : cap ≤ maxLen) : ∃ l, IWd w (.slice (some ⟨GA, 0, none⟩) sh.length cap) l ∧ l.length = sh.length ∧ ∀ (j : Nat) (p : Bool × List Nat) (s : Nat × Nat × Nat), l[j]? = some p → sh[j]? = some s → p.2.length = s.2.1 := by
 have hl : GA < w.heap.size := by obtain ⟨-, cur, h1, -⟩ := h; exact (Array.getElem?_eq_some_iff.1 h1).1
 obtain ⟨-, cur, h1, h2⟩ := h
 have hx : ∀ j, j < sh.length → ∃ p : Bool × List Nat, (∃ m, w.cell? ⟨GA, 0 + j * 2, none⟩ = some (.bool p.1) ∧ w.cell? ⟨GA, 0 + j * 2 + 1, none⟩ = some m ∧ Rd w m p.2) ∧ ∀ s, sh[j]? = some s → p.2.length = s.2.1 := fun j hj => by
  obtain ⟨⟨b, a1⟩, a2, -, a4, a5, L, a6, a7⟩ := h2 j _ (List.getElem?_eq_getElem hj)
  refine ⟨(b, L.take sh[j].2.1), ⟨_, by rw [Nat.zero_add, cell_of_row _ _ _ _ _ _ h1]; exact a1, by rw [Nat.zero_add, cell_of_row _ _ _ _ _ _ h1]; exact a2, ?_⟩, fun s hs => ?_⟩
  ·have := a6.rd (o := 0) (n := sh[j].2.1) (c := sh[j].2.2) (by omega) a4 a5
   rw [List.drop_zero] at this; exact this
  ·rw [List.getElem?_eq_getElem hj] at hs; cases hs
   rw [List.length_take]; omega
 obtain ⟨q, hq⟩ := choose_lt (n := sh.length) (p := fun j (p : Bool × List Nat) => (∃ m, w.cell? ⟨GA, 0 + j * 2, none⟩ = some (.bool p.1) ∧ w.cell? ⟨GA, 0 + j * 2 + 1, none⟩ = some m ∧ Rd w m p.2) ∧ ∀ s, sh[j]? = some s → p.2.length = s.2.1) hx
 refine ⟨(List.range sh.length).map q, ⟨_, cap, by simp, by simpa using hc, hm, fun h0 => ⟨GA, 0, rfl, hl, fun j p hj => ?_⟩⟩, by simp, fun j p s hj hs => ?_⟩
 all_goals
  rw [List.getElem?_map] at hj
  obtain ⟨i, hi, rfl⟩ := Option.map_eq_some_iff.1 hj
  obtain ⟨hi1, hi2⟩ := List.getElem?_eq_some_iff.1 hi
  simp only [List.length_range] at hi1
  simp only [List.getElem_range] at hi2
  subst hi2
 ·exact (hq j hi1).1
 ·exact (hq j hi1).2 s hs
theorem HSt.frd {B GH cap : Nat} {w : World} {sh : List (Nat × Nat × Nat)} (h : HSt B w GH sh) (hc : sh.length ≤ cap) (hm : cap ≤ maxLen) : ∃ fs, FRd w (.slice (some ⟨GH, 0, none⟩) sh.length cap) fs ∧ fs.length = sh.length ∧ ∀ ks ∈ fs, (∃ s ∈ sh, ks.length = s.2.1) ∧ ∀ k ∈ ks, k ≤ 9223372036854775807 := by
 have hl : GH < w.heap.size := by obtain ⟨-, cur, h1, -⟩ := h; exact (Array.getElem?_eq_some_iff.1 h1).1
 obtain ⟨-, cur, h1, h2⟩ := h
 have hx : ∀ j, j < sh.length → ∃ ks : List Int, (∃ u, w.cell? ⟨GH, 0 + j, none⟩ = some u ∧ KA w u ks) ∧ (∃ s ∈ sh, ks.length = s.2.1) ∧ ∀ k ∈ ks, k ≤ 9223372036854775807 := fun j hj => by
  obtain ⟨a2, -, a4, a5, K, a6, a7⟩ := h2 j _ (List.getElem?_eq_getElem hj)
  obtain ⟨zs, hzs⟩ := choose_lt (n := sh[j].2.1) (p := fun i (z : Int) => K[i]? = some (.int .i64 z) ∧ z ≤ 9223372036854775807) a7
  refine ⟨(List.range sh[j].2.1).map zs, ⟨_, by rw [Nat.zero_add, cell_of_row _ _ _ _ _ _ h1]; exact a2, ⟨_, sh[j].2.2, by simp, by simpa using a4, a5, fun i z hz => ⟨_, 0, rfl, (Array.getElem?_eq_some_iff.1 a6).1, ?_⟩⟩⟩, ⟨sh[j], List.getElem_mem hj, by simp⟩, fun k hk => ?_⟩
  ·rw [List.getElem?_map] at hz
   obtain ⟨i', hi, rfl⟩ := Option.map_eq_some_iff.1 hz
   obtain ⟨hi1, hi2⟩ := List.getElem?_eq_some_iff.1 hi
   simp only [List.length_range] at hi1
   simp only [List.getElem_range] at hi2
   subst hi2
   rw [Nat.zero_add, cell_of_row _ _ _ _ _ _ a6]
   exact (hzs i hi1).1
  ·obtain ⟨i, hi, rfl⟩ := List.mem_map.1 hk
   exact (hzs i (List.mem_range.1 hi)).2
 obtain ⟨q, hq⟩ := choose_lt (n := sh.length) (p := fun j (ks : List Int) => (∃ u, w.cell? ⟨GH, 0 + j, none⟩ = some u ∧ KA w u ks) ∧ (∃ s ∈ sh, ks.length = s.2.1) ∧ ∀ k ∈ ks, k ≤ 9223372036854775807) hx
 refine ⟨(List.range sh.length).map q, ⟨_, cap, by simp, by simpa using hc, hm, fun h0 => ⟨GH, 0, rfl, hl, fun j hj => ?_⟩⟩, by simp, fun ks hks => ?_⟩
 ·have hj' : j < sh.length := by simpa using hj
  obtain ⟨u, e1, e2⟩ := (hq j hj').1
  exact ⟨u, e1, q j, by rw [List.getElem?_map, List.getElem?_range hj']; rfl, e2⟩
 ·obtain ⟨j, hj, rfl⟩ := List.mem_map.1 hks
  exact (hq j (List.mem_range.1 hj)).2
structure AgS (B GA GH gb n cap : Nat) (r c : Int) (sh hs : List (Nat × Nat × Nat)) (w wr : World) : Prop where
 box : wr.heap[gb]? = some (.cells #[.int .i64 r, .int .i64 c, .slice (some ⟨GA, 0, none⟩) n cap] 47 (0, 0))
 ws : WSt B wr GA sh
 hs : HSt B wr GH hs
 bel : Below B w wr
theorem AgS.below {B GA GH gb n cap : Nat} {r c : Int} {sh hs : List (Nat × Nat × Nat)} {w wr wx : World} (h : AgS B GA GH gb n cap r c sh hs w wr) (hB : B ≤ wr.heap.size) (hb : Below wr.heap.size wr wx) : AgS B GA GH gb n cap r c sh hs w wx :=
 ⟨(hb.block gb (Array.getElem?_eq_some_iff.1 h.box).1).trans h.box, h.ws.below hb, h.hs.below hb, h.bel.trans (hb.mono hB)⟩
theorem AgS.flag {B GA GH gb n cap k : Nat} {r c : Int} {sh hs : List (Nat × Nat × Nat)} {w wr : World} {s : Nat × Nat × Nat} (h : AgS B GA GH gb n cap r c sh hs w wr) (hk : sh[k]? = some s) (b : Bool) : AgS B GA GH gb n cap r c sh hs w (wr.setCell ⟨GA, k * 2, none⟩ (.bool b)) := by
 have hne : gb ≠ GA := fun e => by
  obtain ⟨-, cur, h1, -⟩ := h.ws
  have := h.box; rw [e, h1] at this; simp at this
 exact ⟨(heap_setCell_other wr ⟨GA, k * 2, none⟩ gb _ hne).trans h.box, h.ws.setFlag hk b, h.hs.flag h.ws, h.bel.setCell (p := ⟨GA, k * 2, none⟩) h.ws.1 _⟩
theorem AgS.word {B GA GH gb n cap k i x : Nat} {r c : Int} {sh hs : List (Nat × Nat × Nat)} {w wr : World} {s : Nat × Nat × Nat} (h : AgS B GA GH gb n cap r c sh hs w wr) (hk : sh[k]? = some s) (hx : x < BB) : AgS B GA GH gb n cap r c sh hs w (wr.setCell ⟨s.1, i, none⟩ (.int .u64 (x : Nat))) := by
 obtain ⟨-, cu, -, g2⟩ := h.ws
 obtain ⟨-, -, hB, -, -, L, c6, -⟩ := g2 k s hk
 have hne : gb ≠ s.1 := fun e => by
  have := h.box; rw [e, c6.1] at this; simp at this
 exact ⟨(heap_setCell_other wr ⟨s.1, i, none⟩ gb _ hne).trans h.box, h.ws.setWord hk hx, h.hs.word h.ws hk, h.bel.setCell (p := ⟨s.1, i, none⟩) hB _⟩
theorem AgS.num {B GA GH gb n cap k i : Nat} {z : Int} {r c : Int} {sh hs : List (Nat × Nat × Nat)} {w wr : World} {s : Nat × Nat × Nat} (h : AgS B GA GH gb n cap r c sh hs w wr) (hk : hs[k]? = some s) (hz : z ≤ 9223372036854775807) : AgS B GA GH gb n cap r c sh hs w (wr.setCell ⟨s.1, i, none⟩ (.int .i64 z)) := by
 obtain ⟨-, cu, -, g2⟩ := h.hs
 obtain ⟨-, hB, -, -, K, c6, -⟩ := g2 k s hk
 have hne : gb ≠ s.1 := fun e => by
  have := h.box; rw [e, c6] at this; simp at this
 exact ⟨(heap_setCell_other wr ⟨s.1, i, none⟩ gb _ hne).trans h.box, h.ws.num h.hs hk, h.hs.setNum hk hz, h.bel.setCell (p := ⟨s.1, i, none⟩) hB _⟩
end Go.Proofs.YtgfmiladfeoldaaGreatDoor
namespace Go.Proofs.YtgfmiladfeoldaaGreatDoor
open Go.RowKit NatP LexP
theorem intTx_div_len {xs : List Nat} (hok : ok xs) (hl : xs.length ≤ 1048576) (b : Bool) (d : Nat) : (intTx b (val xs / d)).length ≤ 1073741823 := by
 have h : (decTx (val xs / d)).length ≤ 1073741822 := by
  unfold decTx
  split
  ·simp
  ·have h1 : val xs / d < BB ^ xs.length := Nat.lt_of_le_of_lt (Nat.div_le_self _ _) (val_lt hok)
   have := dg_len_BB h1
   rw [List.length_map]; omega
 unfold intTx
 split
 ·simp only [List.length_cons]; omega
 ·omega
def QokPost (r c : Nat) (l : List ((Bool × Nat) × (Bool × Nat))) (w : World) (e : Ending) (w' : World) : Prop :=
 (if denOk l then e = .returned (.tuple #[.string ⟨(gridT r c (qsT l)).toArray⟩, .int .i64 0]) else e = .returned (.tuple #[.string ⟨#[]⟩, .int .i64 4])) ∧ Below w.heap.size w w'
set_option maxRecDepth 100000 in
set_option maxHeartbeats 4000000 in
theorem qmat_ok (r c : Nat) (l : List ((Bool × Nat) × (Bool × Nat))) (v : Value) (w : World) (hs : SG w) (hv : QRd w v l) (hr : r ≤ 64) (hc : c ≤ 64) (hn : l.length = r * c) :
  Calls Tryz.prog 34 #[.agg #[.int .i64 (r : Nat), .int .i64 (c : Nat), v]] w (QokPost r c l w) := by
 have HSG := Lib.hid hs
 have HV := Lib.hid hv
 have hsz : 4 < w.heap.size := World.block_lt_of_cell? w _ (hs 0 (by omega))
 obtain ⟨ao, cap, rfl, h1, h2, h3⟩ := hv
 obtain ⟨n, hnn⟩ : ∃ n, n = l.length := ⟨_, rfl⟩
 rw [← hnn] at h1 hn ⊢
 have hn4 : n ≤ 4096 := by rw [hn]; exact Nat.mul_le_mul hr hc
 have HN := Lib.hid hn
 have HNN := Lib.hid hnn
 have H3 := Lib.hid h3
 have HMK := make_intq n (by omega)
 have HA := Lib.hid (below_alloc w (.cells #[.int .i64 (r : Nat), .int .i64 (c : Nat), .slice ao n cap] 58))
 have hb0 := heap_alloc_new w (.cells #[.int .i64 (r : Nat), .int .i64 (c : Nat), .slice ao n cap] 58)
 obtain ⟨w0, hw0⟩ : ∃ w0, w0 = w.alloc (.cells #[.int .i64 (r : Nat), .int .i64 (c : Nat), .slice ao n cap] 58) := ⟨_, rfl⟩
 rw [← hw0] at HA hb0
 have HW0 := Lib.hid hw0
 obtain ⟨g, hg⟩ : ∃ g, g = w.heap.size := ⟨_, rfl⟩
 rw [← hg] at hb0
 have HG := Lib.hid hg
 have HB0 := Lib.hid hb0
 have c0 : w0.cell? ⟨g, 0, none⟩ = some (.int .i64 (r : Nat)) := (cell_of_row w0 _ _ _ _ _ hb0).trans rfl
 have c1 : w0.cell? ⟨g, 1, none⟩ = some (.int .i64 (c : Nat)) := (cell_of_row w0 _ _ _ _ _ hb0).trans rfl
 have c2 : w0.cell? ⟨g, 2, none⟩ = some (.slice ao n cap) := (cell_of_row w0 _ _ _ _ _ hb0).trans rfl
 have k0 := Lib.hid (cell_keep (below_alloc w0.drew (.cells (madeCells #[.bool false, .slice none 0 0] (n * 2)) 62)) (cell_keep (Below.refl w0.heap.size w0).drew c0))
 have k1 := Lib.hid (cell_keep (below_alloc w0.drew (.cells (madeCells #[.bool false, .slice none 0 0] (n * 2)) 62)) (cell_keep (Below.refl w0.heap.size w0).drew c1))
 have k2 := Lib.hid (cell_keep (below_alloc w0.drew (.cells (madeCells #[.bool false, .slice none 0 0] (n * 2)) 62)) (cell_keep (Below.refl w0.heap.size w0).drew c2))
 clear hs hn hnn h3 hw0 hb0 hg
 obtain ⟨i0, hi, hz0, hz1', hz2'⟩ := info_parts Tryz.infoSt
 go_enter Tryz.func34, Tryz.ntmps34
 go_wp2_with fail
 rw [← HW0.out, ← HG.out]
 go_region_held3 (fun w' => w'.cell? ⟨g, 0, none⟩ = some (.int .i64 (r : Nat)) ∧ w'.cell? ⟨g, 1, none⟩ = some (.int .i64 (c : Nat)) ∧ w'.cell? ⟨g, 2, none⟩ = some (.slice ao n cap))
  (first
   | go_keep
   | exact ⟨cell_keep b1 k0.out, cell_keep b1 k1.out, cell_keep b1 k2.out⟩)
  ((go_at_call 64; refine (mcheck r c n n _ _ hr hc HN.out).mono ?_; rintro e w1 ⟨rfl, b1⟩))
 have hb01 : Below w0.heap.size w0 w1 := (Below.refl w0.heap.size w0).drew.trans (show Below w0.heap.size w0.drew w1 from (below_alloc w0.drew (.cells (madeCells #[.bool false, .slice none 0 0] (n * 2)) 62)).trans (b1.mono (below_alloc w0.drew (.cells (madeCells #[.bool false, .slice none 0 0] (n * 2)) 62)).size))
 have hgl : g < w0.heap.size := (Array.getElem?_eq_some_iff.1 HB0.out).1
 have HB1 := Lib.hid (HA.out.trans (hb01.mono HA.out.size))
 have HBK1 := Lib.hid ((hb01.block g hgl).trans HB0.out)
 have hw1 : g < w1.heap.size := Nat.lt_of_lt_of_le hgl hb01.size
 have e0 : w1.cell? ⟨g, 0, none⟩ = some (.int .i64 (r : Nat)) := (cell_of_row w1 _ _ _ _ _ HBK1.out).trans rfl
 have e1 : w1.cell? ⟨g, 1, none⟩ = some (.int .i64 (c : Nat)) := (cell_of_row w1 _ _ _ _ _ HBK1.out).trans rfl
 have e2 : w1.cell? ⟨g, 2, none⟩ = some (.slice ao n cap) := (cell_of_row w1 _ _ _ _ _ HBK1.out).trans rfl
 clear b1 c0 c1 c2 hb01 k0 k1 k2 HMK
 go_wp2_with (at_make; refine wpList_make_own _ rfl _ _ 105 rfl w1.heap.size 9 i0 (.string ⟨#[]⟩) 1 Tryz.underlying105 hi hz0 hz1' _ _ _ n rfl rfl rfl (by rw [hz2']; omega) (by unfold maxLen; omega) (Nat.le_refl _) ?_)
 intro w2 hown2 hgrow2
 have hb2 : Below w1.heap.size w1 w2 := Below.grown (Below.refl _ _) hgrow2 (Nat.le_refl _) (fun k hk => by cases hk)
 have HO2 := Lib.hid hown2
 have HB2 := Lib.hid hb2
 have f2 : w2.cell? ⟨g, 2, none⟩ = some (.slice ao n cap) := cell_keep hb2 e2
 clear hown2 hgrow2 hb2
 go_wp2_with fail
 clear e0 e1 e2 f2
 go_loopw [5, 30] (fun lv iv wr => ∃ i : Nat, iv = .int .i64 (i : Nat) ∧ i ≤ n ∧ wr.ownsRow w1.heap.size 9 1 lv i (sts (qsT (l.take i))) ∧ Below w1.heap.size w1 wr ∧ denOk (l.take i)) (fun _ iv _ => (n - intOf iv).toNat)
 case atStart => exact ⟨0, rfl, Nat.zero_le _, by simpa [qsT, sts] using HO2.out, HB2.out, fun p hp => by simp at hp⟩
 case round =>
  obtain ⟨i, rfl, hin, hown, hbl, hden⟩ := hrel
  have HOWN := Lib.hid hown
  have HBL := Lib.hid hbl
  have HDN := Lib.hid hden
  obtain ⟨bo, bcap, rfl, hbc, hbm, hbs⟩ := ownsRow_shape hown
  have hz1 := hbl.size
  clear hown hbl hbs hden
  by_cases hlt : i < n
  ·obtain ⟨ga, o, rfl, hga, hcell⟩ := H3.out (by rw [← HNN.out]; omega)
   obtain ⟨p, hp⟩ : ∃ p, l[i]? = some p := ⟨_, List.getElem?_eq_getElem (by rw [← HNN.out]; omega)⟩
   have hbw : Below w.heap.size w wr := HB1.out.trans (HBL.out.mono HB1.out.size)
   obtain ⟨hz1, hz2⟩ := hcell i p hp
   obtain ⟨⟨neg, k⟩, ⟨neg2, k2⟩⟩ := p
   obtain ⟨m, xs, d0, d1, hrd, hval, hxl⟩ := hz1.below hbw
   obtain ⟨m2, ys, d2, d3, hrd2, hval2, hyl⟩ := hz2.below hbw
   simp only at d0 d2 hval hval2
   replace d3 : wr.cell? ⟨ga, o + i * 4 + 3, none⟩ = some m2 := d3
   obtain ⟨mo, mcap, hme, -⟩ := hrd.2
   subst hme
   obtain ⟨mo2, mcap2, hme2, -⟩ := hrd2.2
   subst hme2
   have HAL := Lib.hid (below_alloc wr (.cells #[.bool neg, .slice mo xs.length mcap, .bool neg2, .slice mo2 ys.length mcap2] 71))
   have HRD := Lib.hid (hrd.below HAL.out)
   have HRD2 := Lib.hid (hrd2.below HAL.out)
   have HVAL := Lib.hid hval
   have HVAL2 := Lib.hid hval2
   have HP := Lib.hid hp
   have HBW := Lib.hid hbw
   have HSGA := Lib.hid ((HSG.out.below hbw hsz).below HAL.out (Nat.lt_of_lt_of_le hsz hbw.size))
   clear hrd hval hp hcell hbw hrd2 hval2 hz1 hz2
   go_wp2_with fail
   refine (text_frac neg neg2 _ _ xs ys _ HSGA.out HRD.out HRD2.out (by omega) (by omega)).mono ?_
   rintro e w3 ⟨he, hb3⟩
   rw [HVAL.out, HVAL2.out] at he
   have HB3 : Hid (Below wr.heap.size wr w3) := HAL.out.trans (hb3.mono HAL.out.size)
   clear hb3
   by_cases hk2 : k2 = 0
   ·rw [if_pos hk2] at he
    subst he
    have HND : Hid (¬ denOk l) := fun h => h _ (List.mem_of_getElem? HP.out) hk2
    clear hk2
    go_wp2_with fail
    go_ret2
    refine ⟨?_, HBW.out.trans (HB3.out.mono HBW.out.size)⟩
    rw [if_neg HND.out]; rfl
   ·rw [if_neg hk2] at he
    subst he
    obtain ⟨T, hT⟩ : ∃ T, T = fracT neg neg2 k k2 := ⟨_, rfl⟩
    rw [← hT]
    have HT := Lib.hid hT
    have HO3 := Lib.hid (ownsRow_below HOWN.out HB3.out (Nat.le_refl _))
    have hz3 := HB3.out.size
    have HD4 : Hid (denOk (l.take (i + 1))) := by
     intro q hq
     rw [List.take_add_one, HP.out] at hq
     rcases List.mem_append.1 hq with hq | hq
     ·exact HDN.out q hq
     ·simp at hq; subst hq; exact hk2
    clear hT hk2 d0 d1 d2 d3
    go_wp2_with (at_builtin; refine wpList_append_own_at _ rfl _ _ 105 rfl w1.heap.size 9 i0 (.string ⟨#[]⟩) 1 16 Tryz.underlying105 hi hz0 hz1' hz2' rfl (by decide) _ _ _ rfl (World.ownsRow.alloc HO3.out _) ⟨w3.heap.size, 0, none⟩ 1 1 [.string ⟨T.toArray⟩] rfl rfl (LexP.cells_new _ _ _ _ rfl) (by simp [Value.oneCell']) (by unfold maxLen; omega) (by omega) (by simp; omega) ?_)
    intro v4 w4 hown4 hgrow4 _ hbk4
    have hrows : sts (qsT (l.take (i + 1))) = sts (qsT (l.take i)) ++ [.string ⟨T.toArray⟩] := by
     rw [List.take_add_one, HP.out]
     simp [qsT, sts, qTx, HT.out]
    have HO4 : Hid (w4.ownsRow w1.heap.size 9 1 v4 (i + 1) (sts (qsT (l.take (i + 1))))) := by
     show World.ownsRow _ _ _ _ _ _ _
     rw [hrows]; exact hown4
    have HB4 : Hid (Below w1.heap.size w1 w4) := Below.grown ((HBL.out.trans (HB3.out.mono HBL.out.size)).alloc (by have := HBL.out.size; omega) _) hgrow4 (by simp; have := HBL.out.size; omega) (fun q hq => (World.ownsRow.lt HO3.out q hq).1)
    clear hown4 hgrow4 hbk4 hrows
    go_wp2_with fail
    have hfin : w4.ownsRow w1.heap.size 9 1 v4 (i + 1) (sts (qsT (l.take (i + 1)))) ∧ Below w1.heap.size w1 w4 ∧ denOk (l.take (i + 1)) := ⟨HO4.out, HB4.out, HD4.out⟩
    first | exact ⟨⟨i + 1, rfl, by omega, hfin⟩, by simp [intOf] <;> omega⟩ | exact ⟨by (repeat apply Exists.intro); exact ⟨⟨i + 1, rfl, by omega, hfin⟩, rfl⟩, by simp [intOf] <;> omega⟩
  ·have hie : i = n := by omega
   have htk : l.take i = l := List.take_of_length_le (by rw [hie]; exact Nat.le_of_eq HNN.out.symm)
   rw [htk] at HOWN HDN
   have hbk := (HBL.out.block g hw1).trans HBK1.out
   have e0 : wr.cell? ⟨g, 0, none⟩ = some (.int .i64 (r : Nat)) := (cell_of_row wr _ _ _ _ _ hbk).trans rfl
   have e1 : wr.cell? ⟨g, 1, none⟩ = some (.int .i64 (c : Nat)) := (cell_of_row wr _ _ _ _ _ hbk).trans rfl
   have HBW : Hid (Below w.heap.size w wr) := HB1.out.trans (HBL.out.mono HB1.out.size)
   have HIE := Lib.hid hie
   clear hbk htk hie
   go_wp2_with fail
   have hil : (qsT l).length = r * c := by unfold qsT; rw [List.length_map, ← HNN.out, HN.out]
   have hgrid : Calls Tryz.prog 66 #[.int .i64 (r : Nat), .int .i64 (c : Nat), .slice bo i bcap] wr (StrPost (gridT r c (qsT l)) wr) := by
    by_cases h0 : qsT l = []
    ·have hi0 : i = 0 := by
      have := congrArg List.length h0
      rw [hil, List.length_nil, ← HN.out] at this
      rw [HIE.out]; exact this
     subst hi0
     rw [h0]
     exact grid_shape r c bcap bo _ (HSG.out.below HBW.out hsz) hr hc
    ·refine grid_rows r c (qsT l) _ _ (SS.of_row HOWN.out) h0 hr hc hil ?_
     intro b hb
     unfold qsT at hb
     rw [List.mem_map] at hb
     obtain ⟨p, hp, rfl⟩ := hb
     obtain ⟨j, hj⟩ := List.getElem?_of_mem hp
     have hl0 : 0 < l.length := by have := (List.getElem?_eq_some_iff.1 hj).1; omega
     obtain ⟨ga, o, _, _, hcell⟩ := H3.out hl0
     obtain ⟨⟨m, xs, -, -, hrd, hval, hxl⟩, ⟨m2, ys, -, -, hrd2, hval2, hyl⟩⟩ := hcell j p hj
     unfold qTx fracT
     rw [← hval, ← hval2]
     have q1 := intTx_div_len hrd.ok hxl ((p.1.1 != p.2.1) && decide (val xs / Nat.gcd (val xs) (val ys) ≠ 0)) (Nat.gcd (val xs) (val ys))
     have q2 := intTx_div_len hrd2.ok hyl false (Nat.gcd (val xs) (val ys))
     rw [List.length_append]
     split
     ·simp only [List.length_nil]; omega
     ·simp only [List.length_cons]; omega
   refine hgrid.mono ?_
   rintro e w5 ⟨rfl, hb5⟩
   have HB5 := Lib.hid hb5
   clear hb5 hgrid
   go_wp2_with fail
   go_ret2
   refine ⟨?_, HBW.out.trans (HB5.out.mono HBW.out.size)⟩
   rw [if_pos HDN.out]; rfl
theorem qmat_text (r c : Int) (l : List ((Bool × Nat) × (Bool × Nat))) (v : Value) (w : World) (hs : SG w) (hv : QRd w v l) (hn : l.length ≤ 1073741824) :
  Calls Tryz.prog 34 #[.agg #[.int .i64 r, .int .i64 c, v]] w (QmPost r c l w) := by
 by_cases h : SoundM r c l.length
 ·obtain ⟨a, b, rfl, rfl, ha, hb, hab⟩ := h.nat
  refine (qmat_ok a b l v w hs hv ha hb hab).mono ?_
  rintro e w1 ⟨he, hb1⟩
  refine ⟨?_, hb1⟩
  rw [if_pos h]; exact he
 ·refine (qmat_bad r c l v w hv hn h).mono ?_
  rintro e w1 ⟨he, hb1⟩
  refine ⟨?_, hb1⟩
  rw [if_neg h]; exact he
end Go.Proofs.YtgfmiladfeoldaaGreatDoor
namespace Go.Proofs.YtgfmiladfeoldaaGreatDoor
open Go.RowKit NatP LexP
def mtT (r c : Int) (l : List (Bool × Nat)) : ByteArray := if SoundM r c l.length then ⟨(gridT r.toNat c.toNat (intsT l)).toArray⟩ else ⟨#[]⟩
def mtE (r c : Int) (l : List (Bool × Nat)) : Int := if SoundM r c l.length then 0 else 1
theorem mt_any (r c : Int) (l : List (Bool × Nat)) (v : Value) (w : World) (hs : SG w) (hv : IRd w v l) (hn : l.length ≤ 1073741824) :
  Calls Tryz.prog 30 #[.agg #[.int .i64 r, .int .i64 c, v]] w fun e w' => e = .returned (.tuple #[.string (mtT r c l), .int .i64 (mtE r c l)]) ∧ Below w.heap.size w w' := by
 refine (mat_text_any r c l v w hs hv hn).mono ?_
 rintro e w' ⟨he, hb⟩
 refine ⟨?_, hb⟩
 unfold mtT mtE
 by_cases h : SoundM r c l.length
 ·rw [if_pos h] at he; rw [if_pos h, if_pos h]; exact he
 ·rw [if_neg h] at he; rw [if_neg h, if_neg h]; exact he
def ctT (fs : List (List Int)) : ByteArray := if cxOk fs then ⟨(SynP.cpxT (fs.map natOf)).toArray⟩ else ⟨#[]⟩
def ctE (fs : List (List Int)) : Int := if cxOk fs then 0 else 3
theorem ct_any (fs : List (List Int)) (v : Value) (w : World) (hs : SG w) (hv : FRd w v fs) (hn : fs.length ≤ 1048576) (hm : ∀ ks ∈ fs, ks.length ≤ 1048576 ∧ ∀ k ∈ ks, k ≤ 9223372036854775807) :
  Calls Tryz.prog 32 #[v] w fun e w' => e = .returned (.tuple #[.string (ctT fs), .int .i64 (ctE fs)]) ∧ Below w.heap.size w w' := by
 refine (cpxtext_any fs v w hs hv hn hm).mono ?_
 rintro e w' ⟨he, hb⟩
 refine ⟨?_, hb⟩
 unfold ctT ctE
 by_cases h : cxOk fs
 ·rw [if_pos h] at he; rw [if_pos h, if_pos h]; exact he
 ·rw [if_neg h] at he; rw [if_neg h, if_neg h]; exact he
def qmT (r c : Int) (l : List ((Bool × Nat) × (Bool × Nat))) : ByteArray := if SoundM r c l.length then if denOk l then ⟨(gridT r.toNat c.toNat (qsT l)).toArray⟩ else ⟨#[]⟩ else ⟨#[]⟩
def qmE (r c : Int) (l : List ((Bool × Nat) × (Bool × Nat))) : Int := if SoundM r c l.length then if denOk l then 0 else 4 else 1
theorem qm_any (r c : Int) (l : List ((Bool × Nat) × (Bool × Nat))) (v : Value) (w : World) (hs : SG w) (hv : QRd w v l) (hn : l.length ≤ 1073741824) :
  Calls Tryz.prog 34 #[.agg #[.int .i64 r, .int .i64 c, v]] w fun e w' => e = .returned (.tuple #[.string (qmT r c l), .int .i64 (qmE r c l)]) ∧ Below w.heap.size w w' := by
 refine (qmat_text r c l v w hs hv hn).mono ?_
 rintro e w' ⟨he, hb⟩
 refine ⟨?_, hb⟩
 unfold qmT qmE
 by_cases h : SoundM r c l.length
 ·rw [if_pos h] at he; rw [if_pos h, if_pos h]
  by_cases h2 : denOk l
  ·rw [if_pos h2] at he; rw [if_pos h2, if_pos h2]; exact he
  ·rw [if_neg h2] at he; rw [if_neg h2, if_neg h2]; exact he
 ·rw [if_neg h] at he; rw [if_neg h, if_neg h]; exact he
theorem add3_word {x : Nat} (hx : x < BB) : ∃ y, y < BB ∧ IntKind.u64.wrap ((x : Int) + 3) = (y : Int) :=
 ⟨(x + 3) % BB, Nat.mod_lt _ BB_pos, by rw [IntKind.wrap_u64]; unfold BB; omega⟩
set_option maxRecDepth 100000 in
set_option maxHeartbeats 4000000 in
theorem again_any (B GA GH n cap m hcap : Nat) (r c : Int) (sh hs : List (Nat × Nat × Nat)) (w : World) (hsg : SG w) (hsB : 4 < B) (hws : WSt B w GA sh) (hhs : HSt B w GH hs) (hn : n = sh.length) (hm : m = hs.length)
  (hn2 : n ≤ 1048576) (hm2 : m ≤ 1048576) (hc : n ≤ cap) (hcm : cap ≤ maxLen) (hc2 : m ≤ hcap) (hcm2 : hcap ≤ maxLen) (hsl : ∀ s ∈ sh, s.2.1 ≤ 1048576) (hhl : ∀ s ∈ hs, s.2.1 ≤ 1048576) :
  Calls Tryz.prog 37 #[.agg #[.int .i64 r, .int .i64 c, .slice (some ⟨GA, 0, none⟩) n cap], .slice (some ⟨GH, 0, none⟩) m hcap] w fun e w' => e = .returned (.bool true) ∧ Below B w w' := by
 have hBw : B ≤ w.heap.size := by
  obtain ⟨h0, cur, h1, -⟩ := hws
  have := (Array.getElem?_eq_some_iff.1 h1).1; omega
 have HSG := Lib.hid hsg
 have HN := Lib.hid hn
 have HM := Lib.hid hm
 have HSL := Lib.hid hsl
 have HHL := Lib.hid hhl
 have HCM := Lib.hid hcm
 have HCM2 := Lib.hid hcm2
 have hA := below_alloc w (.cells #[.int .i64 r, .int .i64 c, .slice (some ⟨GA, 0, none⟩) n cap] 47)
 have hst : AgS B GA GH w.heap.size n cap r c sh hs w (w.alloc (.cells #[.int .i64 r, .int .i64 c, .slice (some ⟨GA, 0, none⟩) n cap] 47)) := ⟨heap_alloc_new w _, hws.below hA, hhs.below hA, hA.mono hBw⟩
 obtain ⟨gb, hgb⟩ : ∃ gb, gb = w.heap.size := ⟨_, rfl⟩
 rw [← hgb] at hst
 have HST := Lib.hid hst
 have HGB := Lib.hid hgb
 clear hsg hws hhs hn hm hsl hhl hcm hcm2 hA hst hgb
 go_enter Tryz.func37, Tryz.ntmps37
 go_wp2_with fail
 rw [← HGB.out]
 go_loopw [5] (fun iv wr => ∃ k : Nat, iv = .int .i64 (k : Nat) ∧ k ≤ n ∧ AgS B GA GH gb n cap r c sh hs w wr) (fun iv _ => n - (intOf iv).toNat)
 case atStart => exact ⟨0, rfl, Nat.zero_le _, HST.out⟩
 clear HST
 case round =>
  obtain ⟨k, rfl, hk, hag⟩ := hrel
  have HAG := Lib.hid hag
  have kb : wr.cell? ⟨gb, 2, none⟩ = some (.slice (some ⟨GA, 0, none⟩) n cap) := (cell_of_row wr _ _ _ _ _ hag.box).trans rfl
  by_cases hlt : k < n
  ·obtain ⟨s, hsk⟩ : ∃ s, sh[k]? = some s := ⟨_, List.getElem?_eq_getElem (by rw [← HN.out]; exact hlt)⟩
   obtain ⟨b, e0, f0, e1⟩ := hag.ws.flag hsk
   have HSK := Lib.hid hsk
   have hi0 : (0 : Int) ≤ (k : Int) := Int.natCast_nonneg _
   have hi1 : (k : Int) < (n : Int) := by omega
   have hsl := HSL.out s (List.mem_of_getElem? hsk)
   have h9 : AgS B GA GH gb n cap r c sh hs w (wr.drew.setCell ⟨GA, k * 2, none⟩ (.bool (!b))) := (hag.below (Nat.le_trans hBw hag.bel.size) (Below.refl _ _).drew).flag hsk (!b)
   have H9 := Lib.hid h9
   clear hag hsk h9
   go_upto_region 4 with fail
   go_cut [35] (fun _ wx => Hid (AgS B GA GH gb n cap r c sh hs w wx))
   case first =>
    go_region
    all_goals
     go_wp2_with fail
     go_meet
     exact H9.out
   case rest =>
    have HAC := hcut
    clear hcut kb e0 f0 e1 H9
    go_wp2_with fail
    go_loopw [6] (fun jv wx => ∃ j : Nat, jv = .int .i64 (j : Nat) ∧ j ≤ s.2.1 ∧ AgS B GA GH gb n cap r c sh hs w wx) (fun jv _ => s.2.1 - (intOf jv).toNat)
    case atStart => exact ⟨0, rfl, Nat.zero_le _, HAC.out⟩
    clear HAC
    case round =>
     obtain ⟨j, rfl, hj, hag⟩ := hrel
     have HAG2 := Lib.hid hag
     have kb : wr.cell? ⟨gb, 2, none⟩ = some (.slice (some ⟨GA, 0, none⟩) n cap) := (cell_of_row wr _ _ _ _ _ hag.box).trans rfl
     obtain ⟨b', -, -, e1⟩ := hag.ws.flag HSK.out
     by_cases hjt : j < s.2.1
     ·obtain ⟨x, hx, d0, d1⟩ := hag.ws.word HSK.out hjt
      obtain ⟨y, hy, W0⟩ := add3_word hx
      have hj0 : (0 : Int) ≤ (j : Int) := Int.natCast_nonneg _
      have hj1 : (j : Int) < (s.2.1 : Int) := by omega
      have H9 := Lib.hid (hag.word (i := j) HSK.out hy)
      clear hag
      go_wp2_with fail
      have hfin := H9.out
      first | exact ⟨⟨j + 1, by go_num, by omega, hfin⟩, by simp [intOf] <;> omega⟩ | exact ⟨by (repeat apply Exists.intro); exact ⟨⟨j + 1, by go_num, by omega, hfin⟩, rfl⟩, by simp [intOf] <;> omega⟩
     ·clear hag
      go_wp2_with fail
      have hfin := HAG2.out
      first | exact ⟨⟨k + 1, by go_num, by omega, hfin⟩, by simp [intOf] <;> omega⟩ | exact ⟨by (repeat apply Exists.intro); exact ⟨⟨k + 1, by go_num, by omega, hfin⟩, rfl⟩, by simp [intOf] <;> omega⟩
  ·clear hag
   go_wp2_with fail
   clear kb
   go_loopw [7] (fun iv wr => ∃ k : Nat, iv = .int .i64 (k : Nat) ∧ k ≤ m ∧ AgS B GA GH gb n cap r c sh hs w wr) (fun iv _ => m - (intOf iv).toNat)
   case atStart => exact ⟨0, rfl, Nat.zero_le _, HAG.out⟩
   clear HAG
   case round =>
    obtain ⟨k, rfl, hk, hag⟩ := hrel
    have HAG := Lib.hid hag
    by_cases hlt : k < m
    ·obtain ⟨s, hsk⟩ : ∃ s, hs[k]? = some s := ⟨_, List.getElem?_eq_getElem (by rw [← HM.out]; exact hlt)⟩
     have HSK := Lib.hid hsk
     have hi0 : (0 : Int) ≤ (k : Int) := Int.natCast_nonneg _
     have hi1 : (k : Int) < (m : Int) := by omega
     have hsl := HHL.out s (List.mem_of_getElem? hsk)
     clear hag hsk
     go_wp2_with fail
     go_loopw [8] (fun jv wx => ∃ j : Nat, jv = .int .i64 (j : Nat) ∧ j ≤ s.2.1 ∧ AgS B GA GH gb n cap r c sh hs w wx) (fun jv _ => s.2.1 - (intOf jv).toNat)
     case atStart => exact ⟨0, rfl, Nat.zero_le _, HAG.out⟩
     clear HAG
     case round =>
      obtain ⟨j, rfl, hj, hag⟩ := hrel
      have HAG2 := Lib.hid hag
      have e1 := hag.hs.at HSK.out
      by_cases hjt : j < s.2.1
      ·obtain ⟨z, d0, d1⟩ := hag.hs.num HSK.out hjt
       have hj0 : (0 : Int) ≤ (j : Int) := Int.natCast_nonneg _
       have hj1 : (j : Int) < (s.2.1 : Int) := by omega
       have h9 : AgS B GA GH gb n cap r c sh hs w ((wr.setCell ⟨s.1, j, none⟩ (.int .i64 ((wrap64 (z + 7)).tmod 1000))).drew) := by
        have h1 := hag.num (i := j) (z := (wrap64 (z + 7)).tmod 1000) HSK.out (by have := Int.tmod_lt_of_pos (wrap64 (z + 7)) (show (0 : Int) < 1000 by omega); omega)
        exact h1.below (Nat.le_trans hBw h1.bel.size) (Below.refl _ _).drew
       have H9 := Lib.hid h9
       clear hag h9
       go_wp2_with fail
       go_region
       all_goals
        go_wp2_with fail
        have hfin := H9.out
        first | exact ⟨⟨j + 1, by go_num, by omega, hfin⟩, by simp [intOf] <;> omega⟩ | exact ⟨by (repeat apply Exists.intro); exact ⟨⟨j + 1, by go_num, by omega, hfin⟩, rfl⟩, by simp [intOf] <;> omega⟩
      ·clear hag
       go_wp2_with fail
       have hfin := HAG2.out
       first | exact ⟨⟨k + 1, by go_num, by omega, hfin⟩, by simp [intOf] <;> omega⟩ | exact ⟨by (repeat apply Exists.intro); exact ⟨⟨k + 1, by go_num, by omega, hfin⟩, rfl⟩, by simp [intOf] <;> omega⟩
    ·obtain ⟨l, i1, i2, i3⟩ := hag.ws.iwd (cap := cap) (by rw [← HN.out]; exact hc) HCM.out
     obtain ⟨fs, j1, j2, j3⟩ := hag.hs.frd (cap := hcap) (by rw [← HM.out]; exact hc2) HCM2.out
     rw [← HN.out] at i1 i2
     rw [← HM.out] at j1 j2
     have hll : ∀ p ∈ l, p.2.length ≤ 1048576 := fun p hp => by
      obtain ⟨q, hq⟩ := List.getElem?_of_mem hp
      have hql := (List.getElem?_eq_some_iff.1 hq).1
      obtain ⟨s, hs'⟩ : ∃ s, sh[q]? = some s := ⟨_, List.getElem?_eq_getElem (by rw [← HN.out, ← i2]; exact hql)⟩
      rw [i3 q p s hq hs']
      exact HSL.out s (List.mem_of_getElem? hs')
     have hfl : ∀ ks ∈ fs, ks.length ≤ 1048576 ∧ ∀ k ∈ ks, k ≤ 9223372036854775807 := fun ks hks => by
      obtain ⟨⟨s, hs', e⟩, h2⟩ := j3 ks hks
      exact ⟨by rw [e]; exact HHL.out s hs', h2⟩
     have hbw : Below B w wr := hag.bel
     have hBr : B ≤ wr.heap.size := Nat.le_trans hBw hbw.size
     have HIW := Lib.hid i1
     have HIR := Lib.hid (i1.ird (fun p hp => Nat.le_trans (hll p hp) (by omega)))
     have HFR := Lib.hid j1
     have HI2 := Lib.hid i2
     have HJ2 := Lib.hid j2
     have HLL := Lib.hid hll
     have HFL := Lib.hid hfl
     have HIN : Hid ((ivs l).length ≤ 1073741824) := by show _ ≤ _; rw [ivs, List.length_map, i2]; omega
     have HBW := Lib.hid hbw
     have HSG1 := Lib.hid (HSG.out.below hbw hsB)
     have hsr : 4 < wr.heap.size := Nat.lt_of_lt_of_le hsB hBr
     have kb0 : wr.cell? ⟨gb, 0, none⟩ = some (.int .i64 r) := (cell_of_row wr _ _ _ _ _ hag.box).trans rfl
     have kb1 : wr.cell? ⟨gb, 1, none⟩ = some (.int .i64 c) := (cell_of_row wr _ _ _ _ _ hag.box).trans rfl
     have kb2 : wr.cell? ⟨gb, 2, none⟩ = some (.slice (some ⟨GA, 0, none⟩) n cap) := (cell_of_row wr _ _ _ _ _ hag.box).trans rfl
     clear hag i1 i2 i3 j1 j2 j3 hll hfl hbw
     go_wp2_with fail
     refine (mt_any r c (ivs l) _ _ HSG1.out HIR.out HIN.out).mono ?_
     rintro e w1 ⟨rfl, b1⟩
     obtain ⟨T1, hT1⟩ : ∃ T, T = mtT r c (ivs l) := ⟨_, rfl⟩
     obtain ⟨E1, hE1⟩ : ∃ E, E = mtE r c (ivs l) := ⟨_, rfl⟩
     rw [← hT1, ← hE1]
     have HT1 := Lib.hid hT1
     have HE1 := Lib.hid hE1
     have HB1 := Lib.hid b1
     have k10 := cell_keep b1 kb0
     have k11 := cell_keep b1 kb1
     have k12 := cell_keep b1 kb2
     have HIW1 := Lib.hid (HIW.out.below b1)
     clear hT1 hE1 b1 kb0 kb1 kb2
     go_wp2_with fail
     refine (copymat_any r c l _ _ HIW1.out.weak (by rw [HI2.out]; omega) (fun p hp => Nat.le_trans (HLL.out p hp) (by omega))).mono ?_
     rintro e w2 ⟨u2, rfl, i2, b2⟩
     have HB2 := Lib.hid (HB1.out.trans (b2.mono HB1.out.size))
     have HIR2 := Lib.hid (i2.ird (fun p hp => Nat.le_trans (HLL.out p hp) (by omega)))
     obtain ⟨uo, ucap, rfl, -⟩ := i2
     have HSG2 := Lib.hid (HSG1.out.below HB2.out hsr)
     have hs2 : 4 < w2.heap.size := Nat.lt_of_lt_of_le hsr HB2.out.size
     clear b2 k10 k11 k12
     go_wp2_with fail
     refine (mt_any r c (ivs l) _ _ HSG2.out HIR2.out HIN.out).mono ?_
     rintro e w3 ⟨rfl, b3⟩
     rw [← HT1.out, ← HE1.out]
     have HB3 := Lib.hid (HB2.out.trans (b3.mono HB2.out.size))
     have HSG3 := Lib.hid (HSG1.out.below HB3.out hsr)
     have HFR3 := Lib.hid (HFR.out.below HB3.out)
     clear b3
     go_wp2_with fail
     refine (ct_any fs _ _ HSG3.out HFR3.out (by rw [HJ2.out]; exact hm2) HFL.out).mono ?_
     rintro e w4 ⟨rfl, b4⟩
     obtain ⟨T2, hT2⟩ : ∃ T, T = ctT fs := ⟨_, rfl⟩
     obtain ⟨E2, hE2⟩ : ∃ E, E = ctE fs := ⟨_, rfl⟩
     rw [← hT2, ← hE2]
     have HT2 := Lib.hid hT2
     have HE2 := Lib.hid hE2
     have HB4 := Lib.hid (HB3.out.trans (b4.mono HB3.out.size))
     have HFR4 := Lib.hid (HFR.out.below HB4.out)
     clear b4 hT2 hE2
     go_wp2_with fail
     refine (copylists_any fs _ _ HFR4.out (by rw [HJ2.out]; omega) (fun ks hks => Nat.le_trans (HFL.out ks hks).1 (by omega))).mono ?_
     rintro e w5 ⟨u5, rfl, i5, b5⟩
     have HI5 := Lib.hid i5
     obtain ⟨uo5, ucap5, rfl, -⟩ := i5
     have HB5 := Lib.hid (HB4.out.trans (b5.mono HB4.out.size))
     have HSG5 := Lib.hid (HSG1.out.below HB5.out hsr)
     clear b5
     go_wp2_with fail
     refine (ct_any fs _ _ HSG5.out HI5.out (by rw [HJ2.out]; exact hm2) HFL.out).mono ?_
     rintro e w6 ⟨rfl, b6⟩
     rw [← HT2.out, ← HE2.out]
     have HB6 := Lib.hid (HB5.out.trans (b6.mono HB5.out.size))
     clear b6
     go_wp2_with fail
     go_ret
     exact ⟨rfl, HBW.out.trans (HB6.out.mono hBr)⟩
end Go.Proofs.YtgfmiladfeoldaaGreatDoor
namespace Go.Proofs.YtgfmiladfeoldaaGreatDoor
open Go.RowKit NatP
set_option maxRecDepth 100000 in
set_option maxHeartbeats 2000000 in
theorem kept_any (v u : Value) (xs : List Nat) (w : World) (hv : RdW w v (roomL xs)) (hu : RdW w u xs) (hl : xs.length ≤ 1073741824) :
  Calls Tryz.prog 35 #[v, u] w fun e w' => e = .returned (.bool true) ∧ Below w.heap.size w w' := by
 have HV := Lib.hid hv
 have HU := Lib.hid hu
 obtain ⟨ao, cap, rfl, -, hcm, -, -⟩ := hv.2
 obtain ⟨bo, cap2, rfl, -, -, -, -⟩ := hu.2
 obtain ⟨n, hn⟩ : ∃ n, n = (roomL xs).length := ⟨_, rfl⟩
 obtain ⟨m, hm⟩ : ∃ m, m = xs.length := ⟨_, rfl⟩
 have hnm : n = m + 80 := by rw [hn, hm, roomL_len]
 have HN := Lib.hid hn
 have HM := Lib.hid hm
 have HNM := Lib.hid hnm
 rw [← hn, ← hm]
 rw [← hm] at hl
 have hne : ((n : Int) != (m : Int) + 80) = false := by simp; omega
 have hmb : m ≤ 9223372036854775000 := by omega
 have hnb : n ≤ 9223372036854775807 := by omega
 clear hv hu hcm hn hm hnm
 go_enter Tryz.func35, Tryz.ntmps35
 go_wp2_with fail
 go_loopw [5] (fun iv wr => ∃ k : Nat, iv = .int .i64 (k : Nat) ∧ k ≤ n ∧ Below w.heap.size w wr) (fun iv _ => n - (intOf iv).toNat)
 case atStart => exact ⟨0, rfl, Nat.zero_le _, Below.refl _ _⟩
 case round =>
  obtain ⟨k, rfl, hk, hb⟩ := hrel
  have HB := Lib.hid hb
  clear hb
  by_cases hlt : k < n
  ·have hi0 : (0 : Int) ≤ (k : Int) := Int.natCast_nonneg _
   have hi1 : (k : Int) < (n : Int) := by omega
   have HDR := Lib.hid HB.out.drew
   by_cases hin : k < m
   ·obtain ⟨x, hx⟩ : ∃ x, xs[k]? = some x := ⟨_, List.getElem?_eq_getElem (by rw [← HM.out]; exact hin)⟩
    have hrx : (roomL xs)[k]? = some x := by rw [roomL_lo (by rw [← HM.out]; exact hin)]; exact hx
    obtain ⟨ao', cap', e, -, -, -, hsh⟩ := (HV.out.below HB.out).2
    rw [← HN.out] at e; cases e
    obtain ⟨g, o, rfl, e1⟩ := hsh k x hrx
    obtain ⟨bo', cap2', e', -, -, -, hsh2⟩ := (HU.out.below HB.out).2
    rw [← HM.out] at e'; cases e'
    obtain ⟨g2, o2, rfl, e2⟩ := hsh2 k x hx
    have hkm : (k : Int) < (m : Int) := by omega
    have hkm2 : ¬ (m : Int) ≤ (k : Int) := by omega
    clear hx hsh hsh2 hrx
    go_wp2_with fail
    go_region
    go_wp2_with fail
    have hfin : Below w.heap.size w wr.drew := HDR.out
    first | exact ⟨⟨k + 1, by go_num, by omega, hfin⟩, by simp [intOf] <;> omega⟩ | exact ⟨by (repeat apply Exists.intro); exact ⟨⟨k + 1, by go_num, by omega, hfin⟩, rfl⟩, by simp [intOf] <;> omega⟩
   ·have hrx := roomL_hi (xs := xs) (i := k) (by rw [← HM.out]; omega) (by rw [← HM.out]; have := HNM.out; omega)
    obtain ⟨ao', cap', e, -, -, -, hsh⟩ := (HV.out.below HB.out).2
    rw [← HN.out] at e; cases e
    obtain ⟨g, o, rfl, e1⟩ := hsh k _ hrx
    have hkm : ¬ (k : Int) < (m : Int) := by omega
    have hkm2 : (m : Int) ≤ (k : Int) := by omega
    have W0 : IntKind.u64.wrap (k : Int) = (k : Int) := by rw [IntKind.wrap_u64]; omega
    have W1 : IntKind.u64.wrap (6510516211317473280 + (k : Int)) = 6510516211317473280 + (k : Int) := by rw [IntKind.wrap_u64]; omega
    rw [show ((6510516211317473280 + k : Nat) : Int) = 6510516211317473280 + (k : Int) by omega] at e1
    clear hsh hrx
    go_wp2_with fail
    go_region
    go_wp2_with fail
    have hfin : Below w.heap.size w wr.drew := HDR.out
    first | exact ⟨⟨k + 1, by go_num, by omega, hfin⟩, by simp [intOf] <;> omega⟩ | exact ⟨by (repeat apply Exists.intro); exact ⟨⟨k + 1, by go_num, by omega, hfin⟩, rfl⟩, by simp [intOf] <;> omega⟩
  ·go_wp2_with fail
   go_ret
   exact ⟨rfl, HB.out⟩
end Go.Proofs.YtgfmiladfeoldaaGreatDoor
namespace Go.Proofs.YtgfmiladfeoldaaGreatDoor
open Go.RowKit NatP LexP
abbrev Shp := List (Nat × Nat × Nat)
def RowW (w : World) (B : Nat) (wv : Value) (sh : Shp) : Prop := w.ownsRow B 59 1 wv sh.length (sh.map fun s => Value.slice (some ⟨s.1, 0, none⟩) s.2.2 s.2.2)
def AtW (w : World) (GA n B : Nat) (l : List (Bool × List Nat)) (sh : Shp) : Prop := ∃ cur : Array Value, w.heap[GA]? = some (.cells cur 62 (0, 0)) ∧ cur.size = (n + 1) * 2 ∧
 ∀ (j : Nat) (s : Nat × Nat × Nat), sh[j]? = some s → ∃ b xs, l[j]? = some (b, xs) ∧ s.2.1 = xs.length ∧ s.2.2 = xs.length + 80 ∧ B ≤ s.1 ∧ Blk w s.1 (roomL xs) ∧ cur[j * 2]? = some (.bool b) ∧ cur[j * 2 + 1]? = some (.slice (some ⟨s.1, 0, none⟩) s.2.1 s.2.2)
theorem RowW.below {w w' : World} {B : Nat} {wv : Value} {sh : Shp} (h : RowW w B wv sh) (hb : Below w.heap.size w w') : RowW w' B wv sh := ownsRow_below h hb (Nat.le_refl _)
theorem AtW.lt {w : World} {GA n B : Nat} {l : List (Bool × List Nat)} {sh : Shp} (h : AtW w GA n B l sh) : GA < w.heap.size := by
 obtain ⟨cur, h1, -⟩ := h; exact (Array.getElem?_eq_some_iff.1 h1).1
theorem AtW.keep {w w' : World} {GA n B : Nat} {l : List (Bool × List Nat)} {sh : Shp} (h : AtW w GA n B l sh) (hG : w'.heap[GA]? = w.heap[GA]?) (hk : ∀ (k : Nat) (c : Array Value), w.heap[k]? = some (.cells c 101 (0, 0)) → w'.heap[k]? = w.heap[k]?) : AtW w' GA n B l sh := by
 obtain ⟨cur, h1, h2, h3⟩ := h
 refine ⟨cur, hG.trans h1, h2, fun j s hs => ?_⟩
 obtain ⟨b, xs, a1, a2, a3, a4, a5, a6⟩ := h3 j s hs
 exact ⟨b, xs, a1, a2, a3, a4, ⟨(hk s.1 _ a5.1).trans a5.1, a5.2⟩, a6⟩
theorem AtW.below {w w' : World} {GA n B : Nat} {l : List (Bool × List Nat)} {sh : Shp} (h : AtW w GA n B l sh) (hb : Below w.heap.size w w') : AtW w' GA n B l sh :=
 h.keep (hb.block GA h.lt) (fun k c hc => hb.block k (Array.getElem?_eq_some_iff.1 hc).1)
theorem AtW.grown {w w' : World} {GA n B B' : Nat} {l : List (Bool × List Nat)} {sh sh' : Shp} {wv : Value} (h : AtW w GA n B l sh) (hr : RowW w B' wv sh') (hg : w.grownBy w' wv.ownBlock) : AtW w' GA n B l sh := by
 have hty : ∀ k, wv.ownBlock = some k → ∃ c, w.heap[k]? = some (.cells c 59 (0, 0)) := fun k hk => by
  rcases hr.2 with ⟨e, -⟩ | ⟨g, cap, cur, rfl, -, hgg, -⟩
  ·rw [e] at hk; cases hk
  ·cases hk; exact ⟨_, hgg⟩
 refine h.keep (hg.block GA h.lt fun e => ?_) (fun k c hc => hg.block k (Array.getElem?_eq_some_iff.1 hc).1 fun e => ?_)
 ·obtain ⟨c, hc⟩ := hty GA e.symm
  obtain ⟨cur, h1, -⟩ := h
  rw [h1] at hc; simp at hc
 ·obtain ⟨c', hc'⟩ := hty k e.symm
  rw [hc] at hc'; simp at hc'
theorem AtW.set {w : World} {GA n B i : Nat} {l : List (Bool × List Nat)} {sh : Shp} (h : AtW w GA n B l sh) (hi : sh.length = i) (hin : i < n) {b : Bool} {xs : List Nat} (hx : l[i]? = some (b, xs)) {g : Nat} (hB : B ≤ g) (hb : Blk w g (roomL xs)) :
  AtW ((w.setCell ⟨GA, i * 2, none⟩ (.bool b)).setCell ⟨GA, i * 2 + 1, none⟩ (.slice (some ⟨g, 0, none⟩) xs.length (xs.length + 80))) GA n B l (sh ++ [(g, xs.length, xs.length + 80)]) := by
 obtain ⟨cur, h1, h2, h3⟩ := h
 have s0 := heap_setCell_same w GA (i * 2) _ 62 (.bool b) h1
 have s1 := heap_setCell_same _ GA (i * 2 + 1) _ 62 (.slice (some ⟨g, 0, none⟩) xs.length (xs.length + 80)) s0
 have hoth : ∀ (k : Nat) (c : Array Value), w.heap[k]? = some (.cells c 101 (0, 0)) → ((w.setCell ⟨GA, i * 2, none⟩ (.bool b)).setCell ⟨GA, i * 2 + 1, none⟩ (.slice (some ⟨g, 0, none⟩) xs.length (xs.length + 80))).heap[k]? = w.heap[k]? := fun k c hc => by
  have hne : k ≠ GA := fun e => by rw [e, h1] at hc; simp at hc
  exact (heap_setCell_other _ ⟨GA, i * 2 + 1, none⟩ k _ hne).trans (heap_setCell_other _ ⟨GA, i * 2, none⟩ k _ hne)
 refine ⟨_, s1, by simp [h2], fun j s hs => ?_⟩
 by_cases hj : j < sh.length
 ·rw [List.getElem?_append_left hj] at hs
  obtain ⟨b', ys, a1, a2, a3, a4, a5, a6, a7⟩ := h3 j s hs
  refine ⟨b', ys, a1, a2, a3, a4, ⟨(hoth _ _ a5.1).trans a5.1, a5.2⟩, ?_, ?_⟩
  ·rw [← a6]; simp [Array.getElem?_setIfInBounds]; rw [if_neg (by omega), if_neg (by omega)]
  ·rw [← a7]; simp [Array.getElem?_setIfInBounds]; rw [if_neg (by omega), if_neg (by omega)]
 ·have hji : j = i := by
   have := (List.getElem?_eq_some_iff.1 hs).1
   simp at this; omega
  subst hji
  rw [List.getElem?_append_right (by omega), hi, Nat.sub_self] at hs
  simp at hs
  subst hs
  refine ⟨b, xs, hx, rfl, rfl, hB, ⟨(hoth _ _ hb.1).trans hb.1, hb.2⟩, ?_, ?_⟩
  ·simp [Array.getElem?_setIfInBounds]; omega
  ·simp [Array.getElem?_setIfInBounds]; omega
theorem RowW.wr {w w' : World} {GA B : Nat} {wv : Value} {sh : Shp} (h : RowW w B wv sh) (hw : Wr GA none w w') (hG : ∃ c, w.heap[GA]? = some (.cells c 62 (0, 0))) : RowW w' B wv sh := by
 refine ownsRow_keep h fun k hk _ hkl => hw.block k hkl (fun e => ?_) (by simp)
 obtain ⟨c, hc⟩ := hG
 rcases h.2 with ⟨e', -⟩ | ⟨g, cap, cur, rfl, -, hgg, -⟩
 ·rw [e'] at hk; cases hk
 ·cases hk
  replace e : g = GA := e
  rw [e, hc] at hgg; simp at hgg
theorem AtW.ws {w : World} {GA n B : Nat} {l : List (Bool × List Nat)} {sh : Shp} (h : AtW w GA n B l sh) (hB : B ≤ GA) (hl : ∀ p ∈ l, p.2.length ≤ 1048576) : WSt B w GA sh := by
 obtain ⟨cur, h1, h2, h3⟩ := h
 refine ⟨hB, cur, h1, fun j s hs => ?_⟩
 obtain ⟨b, xs, a1, a2, a3, a4, a5, a6, a7⟩ := h3 j s hs
 have := hl _ (List.mem_of_getElem? a1)
 simp only at this
 exact ⟨⟨b, a6⟩, a7, a4, by omega, by rw [a3]; unfold maxLen; omega, _, a5, by rw [roomL_len]; omega⟩
theorem AtW.iwd {w : World} {GA n B m : Nat} {l : List (Bool × List Nat)} {sh : Shp} (h : AtW w GA n B l sh) (hn : sh.length = l.length) (hm : l.length ≤ m) (hmx : m ≤ maxLen) (hl : ∀ p ∈ l, p.2.length ≤ 1048576) : IWd w (.slice (some ⟨GA, 0, none⟩) l.length m) l := by
 have hG := h.lt
 obtain ⟨cur, h1, h2, h3⟩ := h
 refine ⟨_, m, rfl, hm, hmx, fun h0 => ⟨GA, 0, rfl, hG, fun j p hj => ?_⟩⟩
 have hjl := (List.getElem?_eq_some_iff.1 hj).1
 obtain ⟨b, xs, a1, a2, a3, a4, a5, a6, a7⟩ := h3 j _ (List.getElem?_eq_getElem (show j < sh.length by omega))
 rw [hj] at a1; cases a1
 have hxl := hl _ (List.mem_of_getElem? hj)
 simp only at hxl
 have hrd := a5.rd (o := 0) (n := xs.length) (c := xs.length + 80) (by rw [roomL_len]; omega) (by omega) (by unfold maxLen; omega)
 rw [List.drop_zero, roomL_take] at hrd
 rw [a2, a3] at a7
 exact ⟨_, by rw [Nat.zero_add, cell_of_row _ _ _ _ _ _ h1]; exact a6, by rw [Nat.zero_add, cell_of_row _ _ _ _ _ _ h1]; exact a7, hrd⟩
end Go.Proofs.YtgfmiladfeoldaaGreatDoor
namespace Go.Proofs.YtgfmiladfeoldaaGreatDoor
open Go.RowKit NatP LexP Go.Deep
def IntB (w : World) (h : Nat) (K : List Int) : Prop := ∃ c : Array Value, w.heap[h]? = some (.cells c 3 (0, 0)) ∧ ∀ (i : Nat) (z : Int), K[i]? = some z → c[i]? = some (.int .i64 z)
theorem IntB.of_row {w : World} {B n g cap : Nat} {K : List Int} (h : w.ownsRow B 3 1 (.slice (some ⟨g, 0, none⟩) n cap) n (K.map fun k => Value.int .i64 k)) (hn : n = K.length) : IntB w g K ∧ B ≤ g ∧ n ≤ cap ∧ cap ≤ maxLen := by
 subst hn
 have hlt := h.lt g rfl
 obtain ⟨ao, cap', e, h1, h2, h3⟩ := ownsRow_shape h
 cases e
 refine ⟨?_, hlt.1, h1, h2⟩
 rcases h.2 with ⟨e, -⟩ | ⟨g', cap', cur, e, -, hgg, -⟩
 ·cases e
 ·cases e
  refine ⟨cur, hgg, fun i z hz => ?_⟩
  have hil := (List.getElem?_eq_some_iff.1 hz).1
  obtain ⟨g2, e2, -, -, a3⟩ := h3 (by omega)
  cases e2
  have h4 := a3 i (by omega)
  rw [cell_of_row _ _ _ _ _ _ hgg] at h4
  rw [h4]; simp [hz]
theorem IntB.ka {w : World} {h : Nat} {K : List Int} (hb : IntB w h K) {n c : Nat} (hn : n ≤ K.length) (hc : n ≤ c) (hm : c ≤ maxLen) : KA w (.slice (some ⟨h, 0, none⟩) n c) (K.take n) := by
 obtain ⟨cur, h1, h2⟩ := hb
 refine ⟨_, c, by rw [List.length_take, Nat.min_eq_left hn], by rw [List.length_take]; omega, hm, fun j k hj => ⟨h, 0, rfl, (Array.getElem?_eq_some_iff.1 h1).1, ?_⟩⟩
 have hjl := (List.getElem?_eq_some_iff.1 hj).1
 rw [List.length_take] at hjl
 rw [List.getElem?_take, if_pos (by omega)] at hj
 rw [Nat.zero_add, cell_of_row _ _ _ _ _ _ h1]
 exact h2 j k hj
def RowL (w : World) (B : Nat) (lv : Value) (hs : Shp) : Prop := w.ownsRow B 41 1 lv hs.length (hs.map fun s => Value.slice (some ⟨s.1, 0, none⟩) (s.2.1 + 1) s.2.2)
def HoldW (w : World) (GH m B : Nat) (fs : List (List Int)) (hs : Shp) : Prop := ∃ cur : Array Value, w.heap[GH]? = some (.cells cur 41 (0, 0)) ∧ cur.size = m + 1 ∧ cur[m]? = some (.slice none 0 0) ∧
 ∀ (j : Nat) (s : Nat × Nat × Nat), hs[j]? = some s → ∃ ks, fs[j]? = some ks ∧ s.2.1 = ks.length ∧ B ≤ s.1 ∧ ks.length + 1 ≤ s.2.2 ∧ s.2.2 ≤ maxLen ∧ IntB w s.1 (ks ++ [-77]) ∧ cur[j]? = some (.slice (some ⟨s.1, 0, none⟩) s.2.1 s.2.2)
theorem RowL.below {w w' : World} {B : Nat} {lv : Value} {hs : Shp} (h : RowL w B lv hs) (hb : Below w.heap.size w w') : RowL w' B lv hs := ownsRow_below h hb (Nat.le_refl _)
theorem HoldW.lt {w : World} {GH m B : Nat} {fs : List (List Int)} {hs : Shp} (h : HoldW w GH m B fs hs) : GH < w.heap.size := by
 obtain ⟨cur, h1, -⟩ := h; exact (Array.getElem?_eq_some_iff.1 h1).1
theorem HoldW.keep {w w' : World} {GH m B : Nat} {fs : List (List Int)} {hs : Shp} (h : HoldW w GH m B fs hs) (hG : w'.heap[GH]? = w.heap[GH]?) (hk : ∀ (k : Nat) (c : Array Value), w.heap[k]? = some (.cells c 3 (0, 0)) → w'.heap[k]? = w.heap[k]?) : HoldW w' GH m B fs hs := by
 obtain ⟨cur, h1, h2, h4, h3⟩ := h
 refine ⟨cur, hG.trans h1, h2, h4, fun j s hs => ?_⟩
 obtain ⟨ks, a1, a2, a3, a4, a5, ⟨c, b1, b2⟩, a7⟩ := h3 j s hs
 exact ⟨ks, a1, a2, a3, a4, a5, ⟨c, (hk s.1 _ b1).trans b1, b2⟩, a7⟩
theorem HoldW.below {w w' : World} {GH m B : Nat} {fs : List (List Int)} {hs : Shp} (h : HoldW w GH m B fs hs) (hb : Below w.heap.size w w') : HoldW w' GH m B fs hs :=
 h.keep (hb.block GH h.lt) (fun k c hc => hb.block k (Array.getElem?_eq_some_iff.1 hc).1)
theorem HoldW.grown {w w' : World} {GH m B B' : Nat} {fs : List (List Int)} {hs hs' : Shp} {lv : Value} (h : HoldW w GH m B fs hs) (hr : RowL w B' lv hs') (hg : w.grownBy w' lv.ownBlock) (hne : lv.ownBlock ≠ some GH) : HoldW w' GH m B fs hs := by
 have hty : ∀ k, lv.ownBlock = some k → ∃ c, w.heap[k]? = some (.cells c 41 (0, 0)) := fun k hk => by
  rcases hr.2 with ⟨e, -⟩ | ⟨g, cap, cur, rfl, -, hgg, -⟩
  ·rw [e] at hk; cases hk
  ·cases hk; exact ⟨_, hgg⟩
 refine h.keep (hg.block GH h.lt fun e => hne e.symm) (fun k c hc => hg.block k (Array.getElem?_eq_some_iff.1 hc).1 fun e => ?_)
 obtain ⟨c', hc'⟩ := hty k e.symm
 rw [hc] at hc'; simp at hc'
theorem HoldW.set {w : World} {GH m B i : Nat} {fs : List (List Int)} {hs : Shp} (h : HoldW w GH m B fs hs) (hi : hs.length = i) (him : i < m) {ks : List Int} (hx : fs[i]? = some ks) {g c : Nat} (hB : B ≤ g) (hb : IntB w g (ks ++ [-77])) (hc : ks.length + 1 ≤ c) (hcm : c ≤ maxLen) :
  HoldW (w.setCell ⟨GH, i, none⟩ (.slice (some ⟨g, 0, none⟩) ks.length c)) GH m B fs (hs ++ [(g, ks.length, c)]) := by
 obtain ⟨cur, h1, h2, h4, h3⟩ := h
 have s0 := heap_setCell_same w GH i _ 41 (.slice (some ⟨g, 0, none⟩) ks.length c) h1
 have hoth : ∀ (k : Nat) (c' : Array Value), w.heap[k]? = some (.cells c' 3 (0, 0)) → (w.setCell ⟨GH, i, none⟩ (.slice (some ⟨g, 0, none⟩) ks.length c)).heap[k]? = w.heap[k]? := fun k c' hc => by
  have hne : k ≠ GH := fun e => by rw [e, h1] at hc; simp at hc
  exact heap_setCell_other _ ⟨GH, i, none⟩ k _ hne
 refine ⟨_, s0, by simp [h2], by rw [← h4, Array.getElem?_setIfInBounds, if_neg (by omega)], fun j s hs' => ?_⟩
 by_cases hj : j < hs.length
 ·rw [List.getElem?_append_left hj] at hs'
  obtain ⟨ys, a1, a2, a3, a4, a5, ⟨c1, b1, b2⟩, a7⟩ := h3 j s hs'
  exact ⟨ys, a1, a2, a3, a4, a5, ⟨c1, (hoth _ _ b1).trans b1, b2⟩, by rw [← a7, Array.getElem?_setIfInBounds, if_neg (by omega)]⟩
 ·have hji : j = i := by
   have := (List.getElem?_eq_some_iff.1 hs').1
   simp at this; omega
  subst hji
  rw [List.getElem?_append_right (by omega), hi, Nat.sub_self] at hs'
  simp at hs'
  subst hs'
  obtain ⟨c1, b1, b2⟩ := hb
  exact ⟨ks, hx, rfl, hB, hc, hcm, ⟨c1, (hoth _ _ b1).trans b1, b2⟩, by simp [Array.getElem?_setIfInBounds]; omega⟩
theorem RowL.wr {w w' : World} {GH B : Nat} {lv : Value} {hs : Shp} (h : RowL w B lv hs) (hw : Wr GH none w w') (hne : lv.ownBlock ≠ some GH) : RowL w' B lv hs :=
 ownsRow_keep h fun k hk _ hkl => hw.block k hkl (fun e => hne (by rw [hk, e])) (by simp)
theorem HoldW.hst {w : World} {GH m B : Nat} {fs : List (List Int)} {hs : Shp} (h : HoldW w GH m B fs hs) (hB : B ≤ GH) (hl : ∀ ks ∈ fs, ∀ k ∈ ks, k ≤ 9223372036854775807) : HSt B w GH hs := by
 obtain ⟨cur, h1, h2, h4, h3⟩ := h
 refine ⟨hB, cur, h1, fun j s hs' => ?_⟩
 obtain ⟨ks, a1, a2, a3, a4, a5, ⟨c, b1, b2⟩, a7⟩ := h3 j s hs'
 refine ⟨a7, a3, by omega, a5, c, b1, fun i hi => ?_⟩
 have hz : ks[i]? = some (ks[i]'(by omega)) := List.getElem?_eq_getElem (by omega)
 exact ⟨_, b2 i _ (by rw [List.getElem?_append_left (by omega)]; exact hz), hl ks (List.mem_of_getElem? a1) _ (List.getElem_mem _)⟩
theorem HoldW.frd {w : World} {GH m B c : Nat} {fs : List (List Int)} {hs : Shp} (h : HoldW w GH m B fs hs) (hn : hs.length = fs.length) (hc : fs.length ≤ c) (hcm : c ≤ maxLen) : FRd w (.slice (some ⟨GH, 0, none⟩) fs.length c) fs := by
 have hG := h.lt
 obtain ⟨cur, h1, h2, h4, h3⟩ := h
 refine ⟨_, c, rfl, hc, hcm, fun h0 => ⟨GH, 0, rfl, hG, fun j hj => ?_⟩⟩
 obtain ⟨ks, a1, a2, a3, a4, a5, a6, a7⟩ := h3 j _ (List.getElem?_eq_getElem (show j < hs.length by omega))
 refine ⟨_, by rw [Nat.zero_add, cell_of_row _ _ _ _ _ _ h1]; exact a7, ks, a1, ?_⟩
 have := a6.ka (n := ks.length) (by simp) (show ks.length ≤ hs[j].2.2 by omega) a5
 rw [List.take_left] at this
 rw [a2]; exact this
end Go.Proofs.YtgfmiladfeoldaaGreatDoor
