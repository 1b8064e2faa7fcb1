/- Joined texts of this claim's proof: SynB, RdG, RdH, RdK, SynO, RdL, RdN, RdO, RdQ, RdR, RdS, RdT, RdU, SynC, RdV, RdW, RdX, RdY, RdZ. -/
import Derived.Test.YtgfmiladfeoldaaGreatDoorPk12
import Derived.Test.YtgfmiladfeoldaaGreatDoorPk14
import Derived.Recover
set_option linter.unusedSimpArgs false
set_option linter.unusedVariables false
namespace SynP
open LexP
end SynP
namespace Go.Proofs.YtgfmiladfeoldaaGreatDoor
open Go.RowKit NatP LexP
theorem made_two (a b : Value) (n j : Nat) (hj : j < n) : (madeCells #[a, b] (n * 2))[j * 2]? = some a ∧ (madeCells #[a, b] (n * 2))[j * 2 + 1]? = some b := by
 unfold madeCells
 constructor
 ·rw [Array.getElem?_map, Array.getElem?_range, if_pos (by omega)]
  show some (#[a, b][(j * 2) % 2]!) = _
  rw [show (j * 2) % 2 = 0 from by omega]; rfl
 ·rw [Array.getElem?_map, Array.getElem?_range, if_pos (by omega)]
  show some (#[a, b][(j * 2 + 1) % 2]!) = _
  rw [show (j * 2 + 1) % 2 = 1 from by omega]; rfl
def IRs (w : World) (v : Value) (l : List (Bool × Nat)) : Prop := ∃ ao cap, v = .slice ao l.length cap ∧ l.length ≤ cap ∧ cap ≤ maxLen ∧ (0 < l.length → ∃ g o, ao = some ⟨g, o, none⟩ ∧ g < w.heap.size ∧ ∀ j p, l[j]? = some p → ∃ m xs, w.cell? ⟨g, o + j * 2, none⟩ = some (.bool p.1) ∧ w.cell? ⟨g, o + j * 2 + 1, none⟩ = some m ∧ Rd w m xs ∧ NatP.val xs = p.2 ∧ xs.length ≤ 67108864 ∧ CanL xs.length p.2)
theorem IRs.ird {w : World} {v : Value} {l : List (Bool × Nat)} (h : IRs w v l) : IRd w v l := by
 obtain ⟨ao, cap, e, h1, h2, h3⟩ := h
 refine ⟨ao, cap, e, h1, h2, fun h0 => ?_⟩
 obtain ⟨g, o, rfl, a2, a3⟩ := h3 h0
 refine ⟨g, o, rfl, a2, fun j p hj => ?_⟩
 obtain ⟨m, xs, b1, b2, b3, b4, b5, -⟩ := a3 j p hj
 exact ⟨m, xs, b1, b2, b3, b4, b5⟩
theorem IRs.below {w w' : World} {v : Value} {l : List (Bool × Nat)} (h : IRs w v l) (hb : Below w.heap.size w w') : IRs w' v l := by
 obtain ⟨ao, cap, e, h1, h2, h3⟩ := h
 refine ⟨ao, cap, e, h1, h2, fun h0 => ?_⟩
 obtain ⟨g, o, rfl, a2, a3⟩ := h3 h0
 refine ⟨g, o, rfl, Nat.lt_of_lt_of_le a2 hb.size, fun j p hj => ?_⟩
 obtain ⟨m, xs, b1, b2, b3, b4, b5, b6⟩ := a3 j p hj
 exact ⟨m, xs, (hb.cell (p := ⟨g, o + j * 2, none⟩) a2).trans b1, (hb.cell (p := ⟨g, o + j * 2 + 1, none⟩) a2).trans b2, b3.below hb, b4, b5, b6⟩
theorem IRs.zeros (w : World) (n : Nat) (hn : n ≤ 4096) : IRs (w.alloc (.cells (madeCells #[.bool false, .slice none 0 0] (n * 2)) 62)) (.slice (some ⟨w.heap.size, 0, none⟩) n n) (List.replicate n (false, 0)) := by
 have hb := heap_alloc_new w (.cells (madeCells #[.bool false, .slice none 0 0] (n * 2)) 62)
 refine ⟨_, n, by rw [List.length_replicate], by rw [List.length_replicate]; omega, by unfold maxLen; omega, fun _ => ⟨w.heap.size, 0, rfl, by simp, fun j p hj => ?_⟩⟩
 have hlt : j < n := by have := (List.getElem?_eq_some_iff.1 hj).1; rwa [List.length_replicate] at this
 have hp : p = (false, 0) := by rw [List.getElem?_replicate, if_pos hlt] at hj; simpa using hj.symm
 subst hp
 obtain ⟨m1, m2⟩ := made_two (.bool false) (.slice none 0 0) n j hlt
 refine ⟨.slice none 0 0, [], ?_, ?_, Rd.nil _, rfl, by simp, by simp, by simp⟩
 ·rw [Nat.zero_add]; exact (cell_of_row _ _ _ _ _ _ hb).trans m1
 ·rw [Nat.zero_add]; exact (cell_of_row _ _ _ _ _ _ hb).trans m2
end Go.Proofs.YtgfmiladfeoldaaGreatDoor
namespace Go.Proofs.YtgfmiladfeoldaaGreatDoor
open Go.RowKit NatP LexP
end Go.Proofs.YtgfmiladfeoldaaGreatDoor
namespace Go.Proofs.YtgfmiladfeoldaaGreatDoor
open Go.RowKit NatP LexP
structure PSt (R : Nat) (tv : Value) (L : List Tok) (fin : Nat) (s0 : SynP.St) (nv : Value) (ns : List Nv) (w wr : World) (a' : Nat) (s' : SynP.St) (nv' : Value) (ns' : List Nv) : Prop where
 rs : RS wr R tv L fin a' s' nv' (ns ++ ns')
 wr : Wr R nv.ownBlock w wr
 mv : Mv w nv.ownBlock nv'.ownBlock
 few : (ns ++ ns').length + s'.ts.length ≤ ns.length + s0.ts.length
 opn : s'.opened = s0.opened
 fresh : ∀ p ∈ ns', ∀ q, p.2.ownBlock = some q → w.heap.size ≤ q
theorem PSt.refl {R : Nat} {tv : Value} {L : List Tok} {fin a : Nat} {s : SynP.St} {nv : Value} {ns : List Nv} {w : World} (h : RS w R tv L fin a s nv ns) : PSt R tv L fin s nv ns w w a s nv [] :=
 ⟨by rw [List.append_nil]; exact h, Wr.refl _ _ _, Mv.refl _ _, by rw [List.append_nil]; exact Nat.le_refl _, rfl, fun p hp => by cases hp⟩
theorem PSt.trans {R : Nat} {tv : Value} {L : List Tok} {fin : Nat} {s0 s1 s2 : SynP.St} {nv nv1 nv2 : Value} {ns ns1 ns2 : List Nv} {w w1 w2 : World} {a1 a2 : Nat} (h : PSt R tv L fin s0 nv ns w w1 a1 s1 nv1 ns1) (k : PSt R tv L fin s1 nv1 (ns ++ ns1) w1 w2 a2 s2 nv2 ns2) :
  PSt R tv L fin s0 nv ns w w2 a2 s2 nv2 (ns1 ++ ns2) :=
 ⟨by rw [← List.append_assoc]; exact k.rs, h.wr.trans h.mv k.wr, Mv.trans (R := R) (w' := w1) h.mv h.wr.size k.mv, by have := h.few; have := k.few; rw [← List.append_assoc]; omega, k.opn.trans h.opn, fun p hp q hq => by
  rcases List.mem_append.1 hp with hp | hp
  ·exact h.fresh p hp q hq
  ·exact Nat.le_trans h.wr.size (k.fresh p hp q hq)⟩
theorem PSt.step {R : Nat} {tv : Value} {L : List Tok} {fin : Nat} {s0 s1 s2 : SynP.St} {nv nv1 : Value} {ns ns1 : List Nv} {w w1 w2 : World} {a1 a2 : Nat} (h : PSt R tv L fin s0 nv ns w w1 a1 s1 nv1 ns1) (k : RS w2 R tv L fin a2 s2 nv1 (ns ++ ns1)) (hw : Wr R none w1 w2) (hl : s2.ts.length ≤ s1.ts.length) (ho : s2.opened = s1.opened) :
  PSt R tv L fin s0 nv ns w w2 a2 s2 nv1 ns1 :=
 ⟨k, h.wr.trans h.mv (hw.weak _), h.mv, by have := h.few; omega, ho.trans h.opn, h.fresh⟩
theorem PSt.putS {R : Nat} {tv : Value} {L : List Tok} {fin : Nat} {s0 s1 : SynP.St} {nv nv1 nv2 : Value} {ns ns1 : List Nv} {w w1 w2 : World} {a1 : Nat} {nd : SynP.Node} {kv : Value} (h : PSt R tv L fin s0 nv ns w w1 a1 s1 nv1 ns1)
  (k : RS w2 R tv L fin a1 s1 nv2 (ns ++ ns1 ++ [(nd, kv)])) (hw : Wr R nv1.ownBlock w1 w2) (hm : Mv w1 nv1.ownBlock nv2.ownBlock) (hf : (ns ++ ns1).length + 1 + s1.ts.length ≤ ns.length + s0.ts.length) (hv : ∀ q, kv.ownBlock = some q → w.heap.size ≤ q) :
  PSt R tv L fin s0 nv ns w w2 a1 s1 nv2 (ns1 ++ [(nd, kv)]) :=
 ⟨by rw [← List.append_assoc]; exact k, h.wr.trans h.mv hw, Mv.trans (R := R) (w' := w1) h.mv h.wr.size hm, by rw [← List.append_assoc, List.length_append, List.length_singleton]; omega, h.opn, fun p hp q hq => by
  rcases List.mem_append.1 hp with hp | hp
  ·exact h.fresh p hp q hq
  ·rw [List.mem_singleton.1 hp] at hq; exact hv q hq⟩
def RP {α : Type} (r : SynP.PR α) (R : Nat) (tv : Value) (L : List Tok) (fin : Nat) (s : SynP.St) (nv : Value) (ns : List Nv) (Q : α → Value → List Nv → Value → World → Prop) (w : World) (e : Ending) (w' : World) : Prop :=
 match r with
 | none => False
 | some (.error (c, k)) => e = FaultE c k ∧ Wr R nv.ownBlock w w'
 | some (.ok (x, s')) => ∃ v a' nv' ns', e = .returned v ∧ PSt R tv L fin s nv ns w w' a' s' nv' ns' ∧ Q x v ns' nv' w'
def ExQ (ns : List Nv) (e : SynP.Ex) (v : Value) (ns' : List Nv) (_ : Value) (_ : World) : Prop := v = .int .i64 ((ns.length + e.size - 1 : Nat) : Int) ∧ ns'.map Prod.fst = e.flat ns.length
mutual
theorem flat_len : ∀ (e : SynP.Ex) (o : Nat), (e.flat o).length = e.size
 | .num _, _ | .name _, _ | .mat _, _ | .cpx _, _ => rfl
 | .neg a, o | .turn a, o | .pow a _, o => by simp [SynP.Ex.flat, SynP.Ex.size, flat_len a]
 | .add a b, o | .sub a b, o | .mul a b, o => by simp [SynP.Ex.flat, SynP.Ex.size, flat_len a, flat_len b]; omega
 | .call _ l, o => by simp [SynP.Ex.flat, SynP.Ex.size, flats_len l]
theorem flats_len : ∀ (l : SynP.Exs) (o : Nat), (l.flat o).length = l.size
 | .nil, _ => rfl
 | .cons a l, o => by simp [SynP.Exs.flat, SynP.Exs.size, flat_len a, flats_len l]
end
theorem size_pos : ∀ e : SynP.Ex, 0 < e.size := by
 intro e; cases e <;> simp [SynP.Ex.size]
theorem ExQ.len {ns ns' : List Nv} {e : SynP.Ex} {v nv : Value} {w : World} (h : ExQ ns e v ns' nv w) : ns'.length = e.size := by
 have := congrArg List.length h.2
 rw [List.length_map, flat_len] at this; exact this
theorem KNew.fresh {w : World} {R : Nat} {tv : Value} {L : List Tok} {fin a : Nat} {s : SynP.St} {nv : Value} {ns : List Nv} (h : RS w R tv L fin a s nv ns) (ks : List Nat) :
  KNew (w.alloc (.cells (ks.map fun k => Value.int .i64 ((k : Nat) : Int)).toArray 3)) R nv ns (.slice (some ⟨w.heap.size, 0, none⟩) ks.length ks.length) ks ∨ 9223372036854775807 < ks.length := by
 by_cases hl : ks.length ≤ 9223372036854775807
 ·left
  have hb := heap_alloc_new w (.cells (ks.map fun k => Value.int .i64 ((k : Nat) : Int)).toArray 3)
  refine ⟨⟨_, _, rfl, Nat.le_refl _, by unfold maxLen; omega, ?_, fun _ => ⟨_, rfl, fun j k hj => ?_⟩⟩, fun p hp q hq e => ?_⟩
  ·intro q hq
   cases hq
   refine ⟨h.lt, by simp, fun e => ?_⟩
   have h7 := (h.own.lt _ e).2
   change w.heap.size < w.heap.size at h7
   omega
  ·rw [cell_of_row _ _ _ _ _ _ hb]; simp [hj]
  ·cases e
   obtain ⟨ao, cap, e1, -, -, h3, -⟩ := h.kids p hp
   have h7 := (h3 _ hq).2.1
   change w.heap.size < w.heap.size at h7
   omega
 ·right; omega
theorem KNew.nil {w : World} {R : Nat} {nv : Value} {ns : List Nv} : KNew w R nv ns (.slice none 0 0) [] :=
 ⟨⟨none, 0, rfl, Nat.le_refl _, Nat.zero_le _, fun q hq => by simp [Value.ownBlock] at hq, fun h => absurd h (Nat.lt_irrefl _)⟩, fun p _ q _ e => by simp [Value.ownBlock] at e⟩
end Go.Proofs.YtgfmiladfeoldaaGreatDoor
namespace SynP
open LexP
def Keep (s s' : St) : Prop := s'.opened = s.opened ∧ s'.ts.length ≤ s.ts.length
theorem Keep.refl (s : St) : Keep s s := ⟨rfl, Nat.le_refl _⟩
theorem Keep.trans {a b c : St} (h : Keep a b) (k : Keep b c) : Keep a c := ⟨k.1.trans h.1, Nat.le_trans k.2 h.2⟩
theorem Keep.adv (s : St) : Keep s s.adv := ⟨rfl, by show s.ts.tail.length ≤ _; rw [List.length_tail]; omega⟩
theorem ret_ok {α : Type} {a : α} {s : St} {r : α × St} (h : ret a s = some (.ok r)) : r = (a, s) := by unfold ret at h; cases h; rfl
theorem fault_ok {α : Type} {c k : Nat} {r : α × St} (h : (fault c k : PR α) = some (.ok r)) : False := by unfold fault at h; cases h
end SynP
namespace Go.Proofs.YtgfmiladfeoldaaGreatDoor
open Go.RowKit NatP LexP
def ExOk (F : Nat) (P : SynP.St → SynP.PR SynP.Ex) (fin : Nat) : Prop := ∀ (R : Nat) (tv : Value) (L : List Tok) (a : Nat) (s : SynP.St) (nv : Value) (ns : List Nv) (w : World), RS w R tv L fin a s nv ns → P s ≠ none →
 Calls Tryz.prog F #[.pointer (some ⟨R, 0, none⟩)] w (RP (P s) R tv L fin s nv ns (ExQ ns) w)
theorem mark_len {x : Bytes} {s : SynP.St} (h : SynP.isMark x s.ts = true) : s.adv.ts.length + 1 = s.ts.length := by
 have h2 := List.length_pos_iff.2 (isMark_ne h)
 show s.ts.tail.length + 1 = _
 rw [List.length_tail]; omega
def TuO (R : Nat) (tv : Value) (L : List Tok) (fin : Nat) (s0 : SynP.St) (nv : Value) (ns : List Nv) (w : World) (r : SynP.PR SynP.Ex) (kv : Value) (wr : World) : Prop :=
 ∃ g k s' a' nv' ns', SynP.turns g k s' = r ∧ PSt R tv L fin s0 nv ns w wr a' s' nv' ns' ∧ ExQ ns k kv ns' nv' wr
end Go.Proofs.YtgfmiladfeoldaaGreatDoor
namespace Go.Proofs.YtgfmiladfeoldaaGreatDoor
open Go.RowKit NatP LexP
def MiO (R : Nat) (tv : Value) (L : List Tok) (fin : Nat) (s0 : SynP.St) (nv : Value) (ns : List Nv) (w : World) (r : SynP.PR Nat) (nn : Value) (wr : World) : Prop :=
 ∃ g n s' a', SynP.minuses g n s' = r ∧ nn = .int .i64 ((n : Nat) : Int) ∧ RS wr R tv L fin a' s' nv ns ∧ Wr R none w wr ∧ n + s'.ts.length ≤ s0.ts.length ∧ s'.opened = s0.opened
def NgO (R : Nat) (tv : Value) (L : List Tok) (fin : Nat) (s0 : SynP.St) (nv : Value) (ns : List Nv) (w : World) (n : Nat) (s2 : SynP.St) (e0 : SynP.Ex) (kv iv : Value) (wr : World) : Prop :=
 ∃ i k a' nv' ns', iv = .int .i64 ((i : Nat) : Int) ∧ i ≤ n ∧ SynP.negs (n - i) k = e0 ∧ PSt R tv L fin s0 nv ns w wr a' s2 nv' ns' ∧ ExQ ns k kv ns' nv' wr ∧ (ns ++ ns').length + s2.ts.length + (n - i) ≤ ns.length + s0.ts.length
end Go.Proofs.YtgfmiladfeoldaaGreatDoor
namespace Go.Proofs.YtgfmiladfeoldaaGreatDoor
open Go.RowKit NatP LexP
end Go.Proofs.YtgfmiladfeoldaaGreatDoor
namespace Go.Proofs.YtgfmiladfeoldaaGreatDoor
open Go.RowKit NatP LexP
end Go.Proofs.YtgfmiladfeoldaaGreatDoor
namespace Go.Proofs.YtgfmiladfeoldaaGreatDoor
open Go.RowKit NatP LexP
def PaQ (R : Nat) (ns : List Nv) (w : World) (l : SynP.Exs) (v : Value) (ns' : List Nv) (nv' : Value) (w' : World) : Prop := KNew w' R nv' (ns ++ ns') v (l.roots ns.length) ∧ ns'.map Prod.fst = l.flat ns.length ∧ ∀ q, v.ownBlock = some q → w.heap.size ≤ q
theorem RS.growK {w w' : World} {R : Nat} {tv : Value} {L : List Tok} {fin a : Nat} {s : SynP.St} {nv : Value} {ns : List Nv} {row : Option Nat} (h : RS w R tv L fin a s nv ns) (hg : w.grownBy w' row) (hr : ∀ q, row = some q → R < q ∧ nv.ownBlock ≠ some q ∧ ∀ p ∈ ns, p.2.ownBlock ≠ some q) :
  RS w' R tv L fin a s nv ns ∧ (∀ B, B ≤ w.heap.size → (∀ q, row = some q → B ≤ q) → Below B w w') := by
 refine ⟨⟨?_, ?_, h.drop, h.le, ?_, ?_, h.apart, h.few, h.deep, h.short, h.sum, h.good, ?_, h.sgl⟩, fun B hB hq => ⟨hg.os, hg.tape, hg.output, hg.size, fun k hk => hg.block k (by omega) (fun e => by have := hq k e.symm; omega)⟩⟩
 ·exact (hg.block R h.lt (fun e => by have := (hr R e.symm).1; omega)).trans h.blk
 ·obtain ⟨ao, cap, e, h1, h2, h3⟩ := h.tks
  refine ⟨ao, cap, e, h1, h2, fun h0 => ?_⟩
  obtain ⟨g, rfl, h5, h6⟩ := h3 h0
  have hb := hg.block g (by have := h.lt; omega) (fun e => by have := (hr g e.symm).1; omega)
  exact ⟨g, rfl, h5, fun j t hj => ⟨(World.cell?_of_block hb).trans (h6 j t hj).1, (World.cell?_of_block hb).trans (h6 j t hj).2.1, (World.cell?_of_block hb).trans (h6 j t hj).2.2⟩⟩
 ·refine h.own.kept hg ?_
  cases ho : nv.ownBlock with
  | none => exact .inl rfl
  | some q => exact .inr (fun e => (hr q e.symm).2.1 ho)
 ·intro p hp
  obtain ⟨ao, cap, e, h1, h2, h3, h4⟩ := h.kids p hp
  refine ⟨ao, cap, e, h1, h2, fun q hq => ⟨(h3 q hq).1, Nat.lt_of_lt_of_le (h3 q hq).2.1 hg.size, (h3 q hq).2.2⟩, fun h0 => ?_⟩
  obtain ⟨g, rfl, h5⟩ := h4 h0
  have hgo : p.2.ownBlock = some g := by rw [e]; rfl
  have h6 := h3 g hgo
  exact ⟨g, rfl, fun j k hj => (World.cell?_of_block (hg.block g h6.2.1 (fun e => (hr g e.symm).2.2 p hp hgo))).trans (h5 j k hj)⟩
 ·intro d hd
  exact (World.cell?_of_block (hg.block _ (Nat.lt_trans h.sgl h.lt) (fun e => Nat.lt_asymm (hr _ e.symm).1 h.sgl))).trans (h.sg d hd)
end Go.Proofs.YtgfmiladfeoldaaGreatDoor
namespace Go.Proofs.YtgfmiladfeoldaaGreatDoor
open Go.RowKit NatP LexP
structure Ka (w : World) (R : Nat) (nv : Value) (ns : List Nv) (kv : Value) (ks : List Nat) : Prop where
 own : w.ownsRow (R + 1) 3 1 kv ks.length (ints ks)
 ap : ∀ q, kv.ownBlock = some q → nv.ownBlock ≠ some q ∧ ∀ p ∈ ns, p.2.ownBlock ≠ some q
theorem Ka.expr {w w' : World} {R : Nat} {nv nv' : Value} {ns ns' : List Nv} {kv : Value} {ks : List Nat} (h : Ka w R nv ns kv ks) (hw : Wr R nv.ownBlock w w') (hm : Mv w nv.ownBlock nv'.ownBlock) (hf : ∀ p ∈ ns', ∀ q, p.2.ownBlock = some q → w.heap.size ≤ q) :
  Ka w' R nv' (ns ++ ns') kv ks := by
 refine ⟨⟨h.own.1, ?_⟩, fun q hq => ⟨fun e => ?_, fun p hp e => ?_⟩⟩
 ·rcases h.own.2 with hn | ⟨g, cap, cur, rfl, hb, hgg, rest⟩
  ·exact .inl hn
  ·exact .inr ⟨g, cap, cur, rfl, hb, (hw.block g (Array.getElem?_eq_some_iff.1 hgg).1 (by omega) (fun e => (h.ap g rfl).1 e.symm)).trans hgg, rest⟩
 ·rcases hm q e with h1 | h1
  ·exact (h.ap q hq).1 h1
  ·have := (h.own.lt q hq).2; omega
 ·rcases List.mem_append.1 hp with hp | hp
  ·exact (h.ap q hq).2 p hp e
  ·have := hf p hp q e
   have := (h.own.lt q hq).2
   omega
theorem Ka.push {w w' : World} {R g cap N : Nat} {nv : Value} {ns : List Nv} {kv : Value} {ks : List Nat} (h : Ka w R nv ns kv ks) {k : Nat}
  (hown : w'.ownsRow (R + 1) 3 1 (.slice (some ⟨g, 0, none⟩) N cap) N (ints ks ++ [.int .i64 (k : Nat)])) (hN : N = ks.length + 1) (hat : kv.ownBlock = some g ∨ g = w.heap.size) (hnv : ∀ q, nv.ownBlock = some q → q < w.heap.size) (hns : ∀ p ∈ ns, ∀ q, p.2.ownBlock = some q → q < w.heap.size) :
  Ka w' R nv ns (.slice (some ⟨g, 0, none⟩) N cap) (ks ++ [k]) := by
 subst hN
 refine ⟨?_, fun q hq => ?_⟩
 ·rw [show (ks ++ [k]).length = ks.length + 1 from by simp, show ints (ks ++ [k]) = ints ks ++ [.int .i64 (k : Nat)] from by simp [ints]]
  exact hown
 ·have hqg : g = q := by cases hq; rfl
  rcases hat with h1 | h1
  ·rw [hqg] at h1; exact h.ap q h1
  ·refine ⟨fun e => ?_, fun p hp e => ?_⟩
   ·have := hnv q e; omega
   ·have := hns p hp q e; omega
end Go.Proofs.YtgfmiladfeoldaaGreatDoor
namespace Go.Proofs.YtgfmiladfeoldaaGreatDoor
open Go.RowKit NatP LexP
end Go.Proofs.YtgfmiladfeoldaaGreatDoor
namespace Go.Proofs.YtgfmiladfeoldaaGreatDoor
open Go.RowKit NatP LexP
end Go.Proofs.YtgfmiladfeoldaaGreatDoor
namespace Go.Proofs.YtgfmiladfeoldaaGreatDoor
open Go.RowKit NatP LexP
theorem kind_adv {k : Nat} {s : SynP.St} (h : SynP.isKind k s.ts = true) : s.adv.ts.length + 1 = s.ts.length := by
 have h2 := List.length_pos_iff.2 (isKind_ne h)
 show s.ts.tail.length + 1 = _
 rw [List.length_tail]; omega
end Go.Proofs.YtgfmiladfeoldaaGreatDoor
namespace Go.Proofs.YtgfmiladfeoldaaGreatDoor
open Go.RowKit NatP LexP
theorem PSt.of0 {R : Nat} {tv : Value} {L : List Tok} {fin a a2 : Nat} {s s2 : SynP.St} {nv : Value} {ns : List Nv} {w w2 : World} (h : RS w R tv L fin a s nv ns) (k : RS w2 R tv L fin a2 s2 nv ns) (hw : Wr R none w w2) (hl : s2.ts.length ≤ s.ts.length) (ho : s2.opened = s.opened) : PSt R tv L fin s nv ns w w2 a2 s2 nv [] :=
 (PSt.refl h).step (by rw [List.append_nil]; exact k) hw hl ho
theorem PSt.wrap {R : Nat} {tv : Value} {L : List Tok} {fin a a3 a4 : Nat} {s s2 s3 s4 : SynP.St} {nv nv3 : Value} {ns ns3 : List Nv} {w w2 w3 w4 : World} (h : RS w R tv L fin a s nv ns) (hw : Wr R none w w2) (hl2 : s2.ts.length ≤ s.ts.length) (ho2 : s2.opened = s.opened + 1)
  (m : PSt R tv L fin s2 nv ns w2 w3 a3 s3 nv3 ns3) (k4 : RS w4 R tv L fin a4 s4 nv3 (ns ++ ns3)) (hw4 : Wr R none w3 w4) (hl4 : s4.ts.length ≤ s3.ts.length) (ho4 : s4.opened = s3.opened - 1) : PSt R tv L fin s nv ns w w4 a4 s4 nv3 ns3 :=
 ⟨k4, ((hw.weak _).trans (Mv.refl _ _) m.wr).trans (Mv.trans (R := R) (w' := w2) (Mv.refl _ _) hw.size m.mv) (hw4.weak _), Mv.trans (R := R) (w' := w2) (Mv.refl _ _) hw.size m.mv, by have := m.few; omega, by rw [ho4, m.opn, ho2]; omega, fun p hp q hq => Nat.le_trans hw.size (m.fresh p hp q hq)⟩
theorem name_keep {fin : Nat} {s s' : SynP.St} {x : Bytes} (h : SynP.name fin s = some (.ok (x, s'))) : s' = s.adv ∧ SynP.isKind 2 s.ts = true := by
 unfold SynP.name at h
 split at h
 ·have e := SynP.ret_ok h
  cases e
  rename_i hk
  exact ⟨rfl, hk⟩
 ·exact (SynP.fault_ok h).elim
set_option maxRecDepth 100000 in
set_option maxHeartbeats 4000000 in
theorem atom_name (fin f : Nat) (R : Nat) (tv : Value) (L : List Tok) (a : Nat) (s : SynP.St) (nv : Value) (ns : List Nv) (w : World) (h : RS w R tv L fin a s nv ns) (hk1 : SynP.isKind 1 s.ts = false) (hk2 : SynP.isKind 2 s.ts = true) (hm : SynP.isMark [40] s.ts.tail = false) (hne : SynP.atom fin (f + 1) s ≠ none) :
  Calls Tryz.prog 251 #[.pointer (some ⟨R, 0, none⟩)] w (RP (SynP.atom fin (f + 1) s) R tv L fin s nv ns (ExQ ns) w) := by
 have HS0 := Lib.hid h
 have HW0 : Hid (Wr R none w w) := Wr.refl _ _ _
 obtain ⟨r, hr⟩ : ∃ r, r = SynP.atom fin (f + 1) s := ⟨_, rfl⟩
 rw [← hr] at hne ⊢
 have HNE := Lib.hid hne
 have HR0 : Hid (r = (SynP.name fin s).bind fun x s => SynP.ret (.name x) s) := by show _ = _; rw [hr]; unfold SynP.atom; simp only [hk1, hk2, hm, Bool.and_false, Bool.false_eq_true, if_false, if_true]; try rfl
 have hfew := h.few
 have hsh := h.short
 have hLn : s.ts.length ≤ L.length := by rw [← h.drop, List.length_drop]; omega
 have C1 := Lib.hid (comes_kind 1 [] s.ts (by decide))
 have C2 := Lib.hid (comes_kind 2 [] s.ts (by decide))
 have C3 := Lib.hid (comes_mark1 [40] s.ts)
 rw [hk1] at C1
 rw [hk2] at C2
 rw [hm] at C3
 clear h hr hne hk1 hk2 hm
 go_enter Tryz.func251, Tryz.ntmps251
 go_wp2_with fail
 refine (rd_comes R tv L fin a s nv ns _ HS0.out 0 1 [] (by omega) (by omega)).mono ?_
 rintro e w1 ⟨rfl, b1⟩
 rw [C1.out]
 have HS1 := Lib.hid (HS0.out.below b1)
 have HW1 := Lib.hid (RS.step HW0.out (Wr.of_below b1))
 clear b1
 go_wp2_with fail
 refine (rd_comes R tv L fin a s nv ns _ HS1.out 0 2 [] (by omega) (by omega)).mono ?_
 rintro e w2 ⟨rfl, b1⟩
 rw [C2.out]
 have HS2 := Lib.hid (HS1.out.below b1)
 have HW2 := Lib.hid (RS.step HW1.out (Wr.of_below b1))
 clear b1
 go_wp2_with fail
 refine (rd_comes R tv L fin a s nv ns _ HS2.out 1 3 [40] (by omega) (by omega)).mono ?_
 rintro e w3 ⟨rfl, b1⟩
 rw [C3.out]
 have HS3 := Lib.hid (HS2.out.below b1)
 have HW3 := Lib.hid (RS.step HW2.out (Wr.of_below b1))
 clear b1
 go_wp2_with fail
 refine (rd_comes R tv L fin a s nv ns _ HS3.out 0 2 [] (by omega) (by omega)).mono ?_
 rintro e w4 ⟨rfl, b1⟩
 rw [C2.out]
 have HS4 := Lib.hid (HS3.out.below b1)
 have HW4 := Lib.hid (RS.step HW3.out (Wr.of_below b1))
 clear b1
 go_wp2_with fail
 refine (rd_name R tv L fin a s nv ns _ HS4.out).mono ?_
 rintro e w5 hn
 rcases hN : SynP.name fin s with - | (⟨fc, fk⟩ | ⟨x, s2⟩) <;> rw [hN] at hn
 ·exact hn.elim
 ·obtain ⟨rfl, n1⟩ := hn
  refine ⟨rfl, ?_⟩
  have hre : r = some (.error (fc, fk)) := by rw [HR0.out]; simp only [hN, SynP.PR.bind]; try rfl
  rw [hre]
  exact ⟨rfl, (HW4.out.weak _).trans (Mv.refl _ _) (n1.weak _)⟩
 obtain ⟨v2, a2, rfl, n1, n2, n3, rfl⟩ := hn
 obtain ⟨rfl, -⟩ := name_keep hN
 have HN := Lib.hid hN
 have HS5 := Lib.hid n1
 have HW5 := Lib.hid (RS.step HW4.out n2)
 clear n1 n2 hN
 have hadv : s.adv.ts.length + 1 = s.ts.length := kind_adv (name_keep HN.out).2
 have HP := Lib.hid (PSt.of0 HS0.out HS5.out HW5.out (tail_le s) rfl)
 go_wp2_with fail
 refine (rd_put R tv L fin a2 s.adv nv (ns ++ []) _ HP.out.rs ⟨2, x, []⟩ _ KNew.nil (by have := HP.out.rs.few; rw [List.append_nil]; omega)).mono ?_
 rintro e wq ⟨nvq, rfl, b1, b2, b3⟩
 have HQ := Lib.hid (HP.out.putS b1 b2 b3 (by rw [List.append_nil]; omega) (fun q hq => by simp [Value.ownBlock] at hq))
 clear b1 b2 b3
 have HRR : Hid (r = some (.ok (.name x, s.adv))) := by show _ = _; rw [HR0.out, HN.out]; rfl
 go_wp2_with fail
 go_ret
 rw [HRR.out]
 exact ⟨_, a2, nvq, _, rfl, HQ.out, by simp [SynP.Ex.size], by simp [SynP.Ex.flat]⟩
end Go.Proofs.YtgfmiladfeoldaaGreatDoor
namespace Go.Proofs.YtgfmiladfeoldaaGreatDoor
open Go.RowKit NatP LexP
end Go.Proofs.YtgfmiladfeoldaaGreatDoor
namespace Go.Proofs.YtgfmiladfeoldaaGreatDoor
open Go.RowKit NatP LexP
def LnP (r : SynP.PR SynP.Ln) (R : Nat) (tv : Value) (L : List Tok) (fin : Nat) (nv : Value) (w : World) (e : Ending) (w' : World) : Prop :=
 match r with
 | none => False
 | some (.error (c, k)) => e = FaultE c k ∧ Wr R nv.ownBlock w w'
 | some (.ok (n, s')) => e = .returned (.tuple #[]) ∧ ∃ a' nv' ns', RS w' R tv L fin a' s' nv' ns' ∧ Wr R nv.ownBlock w w' ∧ ns'.map Prod.fst = n.flat ∧ Mv w nv.ownBlock nv'.ownBlock ∧ ∀ p ∈ ns', ∀ q, p.2.ownBlock = some q → w.heap.size ≤ q
structure Ln0 (R : Nat) (tv : Value) (L : List Tok) (fin : Nat) (nv : Value) (w wr : World) (a' : Nat) (s' : SynP.St) (nv' : Value) (ns' : List Nv) : Prop where
 rs : RS wr R tv L fin a' s' nv' ns'
 wr : Wr R nv.ownBlock w wr
 mv : Mv w nv.ownBlock nv'.ownBlock
 fresh : ∀ p ∈ ns', ∀ q, p.2.ownBlock = some q → w.heap.size ≤ q
theorem Ln0.step {R : Nat} {tv : Value} {L : List Tok} {fin : Nat} {s1 s2 : SynP.St} {nv nv1 : Value} {ns1 : List Nv} {w w1 w2 : World} {a1 a2 : Nat} (h : Ln0 R tv L fin nv w w1 a1 s1 nv1 ns1) (k : RS w2 R tv L fin a2 s2 nv1 ns1) (hw : Wr R none w1 w2) : Ln0 R tv L fin nv w w2 a2 s2 nv1 ns1 :=
 ⟨k, h.wr.trans h.mv (hw.weak _), h.mv, h.fresh⟩
theorem Ln0.trans {R : Nat} {tv : Value} {L : List Tok} {fin : Nat} {s1 s2 : SynP.St} {nv nv1 nv2 : Value} {ns1 ns2 : List Nv} {w w1 w2 : World} {a1 a2 : Nat} (h : Ln0 R tv L fin nv w w1 a1 s1 nv1 ns1) (k : PSt R tv L fin s1 nv1 ns1 w1 w2 a2 s2 nv2 ns2) : Ln0 R tv L fin nv w w2 a2 s2 nv2 (ns1 ++ ns2) :=
 ⟨k.rs, h.wr.trans h.mv k.wr, Mv.trans (R := R) (w' := w1) h.mv h.wr.size k.mv, fun p hp q hq => by
  rcases List.mem_append.1 hp with hp | hp
  ·exact h.fresh p hp q hq
  ·exact Nat.le_trans h.wr.size (k.fresh p hp q hq)⟩
theorem Ln0.put {R : Nat} {tv : Value} {L : List Tok} {fin : Nat} {s1 : SynP.St} {nv nv1 nv2 : Value} {ns1 : List Nv} {w w1 w2 : World} {a1 : Nat} {nd : SynP.Node} {kv : Value} (h : Ln0 R tv L fin nv w w1 a1 s1 nv1 ns1) (k : RS w2 R tv L fin a1 s1 nv2 (ns1 ++ [(nd, kv)])) (hw : Wr R nv1.ownBlock w1 w2) (hm : Mv w1 nv1.ownBlock nv2.ownBlock) (hv : ∀ q, kv.ownBlock = some q → w.heap.size ≤ q) : Ln0 R tv L fin nv w w2 a1 s1 nv2 (ns1 ++ [(nd, kv)]) :=
 ⟨k, h.wr.trans h.mv hw, Mv.trans (R := R) (w' := w1) h.mv h.wr.size hm, fun p hp q hq => by
  rcases List.mem_append.1 hp with hp | hp
  ·exact h.fresh p hp q hq
  ·rw [List.mem_singleton.1 hp] at hq; exact hv q hq⟩
end Go.Proofs.YtgfmiladfeoldaaGreatDoor
namespace Go.Proofs.YtgfmiladfeoldaaGreatDoor
open Go.RowKit NatP LexP
theorem wpS_rest {P : Program} {fn : Func} {c₀ : Frame} {cs : List Frame} {R : Ending → FrameMode → World → Prop} {c : Code} {a : Act} {w : World} (u' : FrameMode) (h : c.wp P (bodyPost P fn (fun e w' => R e u' w')) a w) :
  c.wpS P (bodyPostS P fn c₀ cs R) a ({ c₀ with mode := u' } :: cs) w := fun b k _ _ => by
 obtain ⟨e, a', w', q, r⟩ := h b k ({ c₀ with mode := u' } :: cs)
 refine ⟨e, a', _, w', ?_, r⟩
 cases e with
 | normal => exact ⟨q.1, u', rfl, q.2⟩
 | ret => exact ⟨q.1, u', rfl, q.2⟩
 | panic ch => exact ⟨q.1, u', rfl, q.2⟩
 | outgrown => exact ⟨u', q⟩
 | exit i => exact q.elim
 | goto i => exact q.elim
set_option maxRecDepth 100000 in
theorem catch_none (g : Nat) (w : World) :
  CallsD Tryz.prog 92 #[.pointer (some ⟨g, 0, none⟩)] .returning w fun e u' w' => e = .returned (.tuple #[]) ∧ u' = .returning ∧ w' = w := by
 refine callsD_of_wpS Tryz.func92 rfl fun c₀ cs hu => ?_
 apply wpS_seq
 apply wpS_region
 simp [wpOpsS, go_sem, recoverD, hu, Tryz.ntmps92, Exit.thenS]
 refine wpS_rest c₀.mode ?_
 rw [hu]
 simp only [Array.replicate_succ, Array.replicate_zero, List.push_toArray, List.append_toArray, List.nil_append, List.cons_append, List.setIfInBounds_toArray, List.set]
 go_wp2_with fail
 go_end0
 exact ⟨rfl, trivial, rfl⟩
end Go.Proofs.YtgfmiladfeoldaaGreatDoor
namespace Go.Proofs.YtgfmiladfeoldaaGreatDoor
open Go.RowKit NatP LexP
def GuP (r : SynP.PR SynP.Ln) (R : Nat) (tv : Value) (L : List Tok) (fin : Nat) (nv : Value) (w : World) (e : Ending) (w' : World) : Prop :=
 match r with
 | none => False
 | some (.error (c, k)) => e = .returned (.agg #[.int .i64 (c : Nat), .int .i64 (k : Nat)]) ∧ Wr R nv.ownBlock w w'
 | some (.ok (n, s')) => e = .returned (.agg #[.int .i64 0, .int .i64 0]) ∧ ∃ a' nv' ns', RS w' R tv L fin a' s' nv' ns' ∧ Wr R nv.ownBlock w w' ∧ ns'.map Prod.fst = n.flat
theorem Wr.sets {R g o : Nat} {og : Option Nat} {w w2 : World} (h : Wr R og w w2) (hg : w.heap.size ≤ g) (u : Value) : Wr R og w (w2.setCell ⟨g, o, none⟩ u) :=
 ⟨h.os, h.tape, h.output, by simpa [World.setCell] using h.size, fun k hk hR ho => (heap_setCell_other w2 ⟨g, o, none⟩ k u (by show k ≠ g; omega)).trans (h.block k hk hR ho)⟩
theorem grown_setG {g o : Nat} (w : World) (u : Value) : w.grownBy (w.setCell ⟨g, o, none⟩ u) (some g) :=
 ⟨rfl, rfl, rfl, by simp [World.setCell], fun k _ hk => heap_setCell_other w ⟨g, o, none⟩ k u (fun e => hk (by rw [e]))⟩
end Go.Proofs.YtgfmiladfeoldaaGreatDoor
