/- Joined texts of this claim's proof: SyTreesM. -/
import Derived.Test.YtgfmiladfeoldaaGreatDoorPk49
import Derived.Deep.Slices
import Derived.ChangeSame
set_option linter.unusedSimpArgs false
set_option linter.unusedVariables false
namespace Go.Proofs.YtgfmiladfeoldaaGreatDoor
open Go.ChangeShapes Go.WideShapes Go.ChangeAt Go.RowKit LexP Go.Deep
theorem trodAll_again {H : Type} {enc : TypeId × Value → H} {P : Program} {W W' : World} {base : Nat} {sp : Nat → Bool} {hd : Bool} (hb : Below W.heap.size W W') : ∀ {ts : List TypeId} {vs : List Value} {ds : List (DataW H)} {ps : List MemPlace},
  DataW.TrodAll enc P W base sp hd ts vs ds ps → (∀ p ∈ ps, p.block < W.heap.size) → DataW.TrodAll enc P W' base sp hd ts vs ds ps
 | [], [], [], _, h, _ => h
 | _ :: _, _ :: _, _ :: _, _, ⟨p, q, ⟨n, h⟩, hs, e⟩, hlt => by
  subst e
  exact ⟨p, q, ⟨n, DataW.trod_carry n _ _ _ h fun x hx => hb.same (hlt x (List.mem_append_left _ hx))⟩, trodAll_again hb hs (fun x hx => hlt x (List.mem_append_right _ hx)), rfl⟩
 | [], _ :: _, _, _, h, _ => h.elim
 | [], [], _ :: _, _, h, _ => h.elim
 | _ :: _, [], _, _, h, _ => h.elim
 | _ :: _, _ :: _, [], _, h, _ => h.elim
theorem blk_lt {w : World} {a : Addr} {v : Value} (h : w.cell? a = some v) : a.block < w.heap.size := by
 rcases Nat.lt_or_ge a.block w.heap.size with h' | h'
 ·exact h'
 ·simp [World.cell?, Array.getElem?_eq_none h'] at h
theorem uNodes : Tryz.prog.underlying 23 = some (.slice 43) := by kernel_rfl
theorem uNode : ∃ f0 f1 f2 : Field, Tryz.prog.underlying 43 = some (.struct #[f0, f1, f2]) ∧ f0.offset = 0 ∧ f1.offset = 1 ∧ f2.offset = 2 ∧ f0.type = 3 ∧ f1.type = 9 ∧ f2.type = 41 := ⟨_, _, _, Tryz.underlying43, rfl, rfl, rfl, rfl, rfl, rfl⟩
theorem cNode : Tryz.prog.cellsOf 43 = 3 := by kernel_rfl
theorem cInt : Tryz.prog.cellsOf 3 = 1 := by kernel_rfl
theorem cStr : Tryz.prog.cellsOf 9 = 1 := by kernel_rfl
theorem cInts : Tryz.prog.cellsOf 41 = 1 := by kernel_rfl
instance : Inhabited SynP.NI := ⟨⟨0, [], []⟩⟩
theorem bulk_lits {H : Type} (k : IntKind) (zs : List Int) : Rows.uptoBulkAll (lits (H := H) k zs) = zs.length := by
 induction zs with
 | nil => rfl
 | cons a l ih => simp only [lits, List.map_cons, Rows.uptoBulkAll, Rows.uptoBulk, List.length_cons] at ih ⊢; omega
theorem bulk_map {H : Type} (f : Nat → DataW H) (g : Nat → Nat) : ∀ (l : List Nat), (∀ i ∈ l, g i ≤ Rows.uptoBulk (f i)) → (l.map g).sum ≤ Rows.uptoBulkAll (l.map f)
 | [], _ => Nat.le_refl _
 | a :: l, h => by
  have h1 := bulk_map f g l (fun i hi => h i (List.mem_cons_of_mem _ hi))
  have h2 := h a (List.mem_cons_self ..)
  simp only [List.map_cons, List.sum_cons, Rows.uptoBulkAll]
  omega
theorem open_kids {H : Type} {enc : TypeId × Value → H} {W : World} {v : Value} {fuel : Nat} {x : DataW H × List MemPlace} (h : DataW.trod enc Tryz.prog W 0 (fun _ => true) true fuel 41 [v] = some x) :
  ∃ ks : List Int, KA W v ks ∧ ks.length ≤ Rows.uptoBulk x.1 := by
 rcases open_ints (by kernel_rfl : Tryz.prog.underlying 41 = some (.slice 3)) Tryz.underlying3 cInt h with ⟨hcs, hx⟩ | ⟨a, len, cap, zs, hcs, -, hl, hm, hz, hx, hcell, -⟩
 ·cases hcs
  exact ⟨[], ⟨none, 0, rfl, Nat.le_refl _, Nat.zero_le _, fun j k h => by cases h⟩, Nat.zero_le _⟩
 ·cases hcs
  simp only [if_true] at hz
  refine ⟨zs.take len, ⟨some a, cap, by rw [List.length_take]; congr 1; omega, by rw [List.length_take]; omega, hm, fun j k hj => ?_⟩, ?_⟩
  ·have hjl := (List.getElem?_eq_some_iff.1 hj).1
   rw [List.length_take] at hjl
   have h0 := hcell 0 (by omega)
   have h1 := hcell j (by omega)
   obtain ⟨g, o, sp⟩ := a
   have hsp : sp = none := by simpa [Addr.add] using World.cell?_spot h0
   subst hsp
   rw [add_ad] at h1
   refine ⟨g, o, rfl, blk_lt h1, ?_⟩
   rw [List.getElem?_take] at hj
   split at hj
   ·rw [h1, List.getD_eq_getElem?_getD, hj]; rfl
   ·cases hj
  ·rw [hx]
   simp only [Rows.uptoBulk, bulk_lits, List.length_take]
   omega
set_option maxRecDepth 100000 in
theorem open_node {H : Type} {enc : TypeId × Value → H} {W : World} {a : Addr} {cs : List Value} {fuel : Nat} {x : DataW H × List MemPlace} (hc : W.cells? 0 a 3 = some cs) (h : DataW.trod enc Tryz.prog W 0 (fun _ => true) true fuel 43 cs = some x) :
  ∃ n : SynP.NI, (W.cell? (a.add 0) = some (.int .i64 n.op) ∧ W.cell? (a.add 1) = some (.string ⟨n.text.toArray⟩) ∧ ∃ kv, W.cell? (a.add 2) = some kv ∧ KA W kv n.kids) ∧ n.text.length + n.kids.length + 1 ≤ Rows.uptoBulk x.1 := by
 obtain ⟨f0, f1, f2, hu, o0, o1, o2, t0, t1, t2⟩ := uNode
 obtain ⟨-, hl, hcell⟩ := World.cells?_some hc
 obtain ⟨xs, n, -, rfl, -, hxl, hf⟩ := DataW.trod_struct hu h
 match xs, hxl, cs, hl with
 | [y0, y1, y2], _, [v0, v1, v2], _ =>
  have g0 := hf 0 f0 rfl
  have g1 := hf 1 f1 rfl
  have g2 := hf 2 f2 rfl
  simp [o0, o1, o2, t0, t1, t2, cInt, cStr, cInts] at g0 g1 g2
  obtain ⟨z, e0, rfl, -⟩ := DataW.trod_int Tryz.underlying3 g0
  obtain ⟨s, e1, rfl, -⟩ := DataW.trod_string Tryz.underlying9 g1
  obtain ⟨ks, hka, hkl⟩ := open_kids g2
  cases e0
  cases e1
  have c0 := hcell 0 (by omega)
  have c1 := hcell 1 (by omega)
  have c2 := hcell 2 (by omega)
  refine ⟨⟨z, s.data.toList, ks⟩, ⟨by simpa using c0, by simpa using c1, v2, by simpa using c2, hka⟩, ?_⟩
  simp only [List.map_cons, List.map_nil, Rows.uptoBulk, Rows.uptoBulkAll]
  omega
theorem open_tree {H : Type} {enc : TypeId × Value → H} {W : World} {v : Value} {fuel : Nat} {x : DataW H × List MemPlace} (h : DataW.trod enc Tryz.prog W 0 (fun _ => true) true fuel 23 [v] = some x) :
  ∃ l : List SynP.NI, NdA W v l ∧ (l.map fun n => n.text.length + n.kids.length + 1).sum ≤ Rows.uptoBulk x.1 := by
 rcases open_slice uNodes h with ⟨hcs, hx⟩ | ⟨a, len, cap, m, n, D, Pl, hcs, -, hl, hm, hmm, rfl, hx⟩
 ·cases hcs
  exact ⟨[], NdA.nil _, Nat.zero_le _⟩
 ·cases hcs
  have hlm : len ≤ m := by rw [hmm]; split <;> omega
  obtain ⟨q, hq⟩ := choose_lt (n := len) (p := fun i (n : SynP.NI) => (W.cell? ((a.add (i * 3)).add 0) = some (.int .i64 n.op) ∧ W.cell? ((a.add (i * 3)).add 1) = some (.string ⟨n.text.toArray⟩) ∧ ∃ kv, W.cell? ((a.add (i * 3)).add 2) = some kv ∧ KA W kv n.kids) ∧ n.text.length + n.kids.length + 1 ≤ Rows.uptoBulk (D i)) (fun i hi => by
   obtain ⟨cs', h1, h2⟩ := hx i (by omega)
   rw [cNode] at h1
   exact open_node h1 h2)
  refine ⟨(List.range len).map q, ⟨some a, cap, by simp, by simp; exact hl, hm, fun j x hj => ?_⟩, ?_⟩
  ·rw [List.getElem?_map] at hj
   obtain ⟨i, hi, rfl⟩ := Option.map_eq_some_iff.1 hj
   obtain ⟨hi1, hi2⟩ := List.getElem?_eq_some_iff.1 hi
   simp only [List.length_range] at hi1
   simp only [List.getElem_range] at hi2
   subst hi2
   obtain ⟨⟨c0, c1, kv, c2, hka⟩, -⟩ := hq j hi1
   have h0 := (hq 0 (by omega)).1.1
   obtain ⟨g, o, sp⟩ := a
   have hsp : sp = none := by simpa [Addr.add] using World.cell?_spot h0
   subst hsp
   rw [add_ad, add_ad] at c0 c1 c2
   exact ⟨g, o, rfl, blk_lt c0, c0, c1, kv, c2, hka⟩
  ·rw [List.map_map]
   have := bulk_map D (fun i => (q i).text.length + (q i).kids.length + 1) (List.range len) (fun i hi => (hq i (List.mem_range.1 hi)).2)
   simp only [Rows.uptoBulk]
   exact Nat.le_trans this (by omega)
theorem sum_le_of {l : List SynP.NI} {M : Nat} (h : (l.map fun n => n.text.length + n.kids.length + 1).sum ≤ M) : l.length ≤ M ∧ (l.map fun x => x.text.length).sum ≤ M ∧ ∀ x ∈ l, x.kids.length ≤ M := by
 induction l generalizing M with
 | nil => exact ⟨Nat.zero_le _, Nat.zero_le _, fun x hx => by cases hx⟩
 | cons a l ih =>
  simp only [List.map_cons, List.sum_cons] at h
  obtain ⟨h1, h2, h3⟩ := ih (M := (l.map fun n => n.text.length + n.kids.length + 1).sum) (Nat.le_refl _)
  refine ⟨by simp only [List.length_cons]; omega, by simp only [List.map_cons, List.sum_cons]; omega, fun x hx => ?_⟩
  rcases List.mem_cons.1 hx with rfl | hx
  ·omega
  ·have := h3 x hx; omega
end Go.Proofs.YtgfmiladfeoldaaGreatDoor
