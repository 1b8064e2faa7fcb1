/- Joined texts of this claim's proof: WrC, WrD, WrE, WrF, WrG, WrH. -/
import Derived.Test.YtgfmiladfeoldaaGreatDoorPk16
import Derived.Deep.RegionHeld3
import Derived.Maps.OwnOps
set_option linter.unusedSimpArgs false
set_option linter.unusedVariables false
namespace Go.Proofs.YtgfmiladfeoldaaGreatDoor
open Go.RowKit NatP LexP
def KL (w : World) (B : Nat) (v : Value) (ks : List Int) : Prop := ∃ ao cap, v = .slice ao ks.length cap ∧ ks.length ≤ cap ∧ cap ≤ maxLen ∧ (0 < ks.length → ∃ g, ao = some ⟨g, 0, none⟩ ∧ g < B ∧ ∀ j k, ks[j]? = some k → w.cell? ⟨g, j, none⟩ = some (.int .i64 k))
def NdL (w : World) (B : Nat) (v : Value) (l : List SynP.NI) : Prop := ∃ ao cap, v = .slice ao l.length cap ∧ l.length ≤ cap ∧ cap ≤ maxLen ∧ (0 < l.length → ∃ g, ao = some ⟨g, 0, none⟩ ∧ g < B ∧ ∀ j x, l[j]? = some x → w.cell? ⟨g, j * 3, none⟩ = some (.int .i64 x.op) ∧ w.cell? ⟨g, j * 3 + 1, none⟩ = some (.string ⟨x.text.toArray⟩) ∧ ∃ kv, w.cell? ⟨g, j * 3 + 2, none⟩ = some kv ∧ KL w B kv x.kids)
theorem KL.below {w w' : World} {B : Nat} {v : Value} {ks : List Int} (h : KL w B v ks) (hb : Below B w w') : KL w' B v ks := by
 obtain ⟨ao, cap, rfl, h1, h2, h3⟩ := h
 refine ⟨ao, cap, rfl, h1, h2, fun h0 => ?_⟩
 obtain ⟨g, rfl, h5, h6⟩ := h3 h0
 exact ⟨g, rfl, h5, fun j k hj => (hb.cell (p := ⟨g, j, none⟩) h5).trans (h6 j k hj)⟩
theorem NdL.below {w w' : World} {B : Nat} {v : Value} {l : List SynP.NI} (h : NdL w B v l) (hb : Below B w w') : NdL w' B v l := by
 obtain ⟨ao, cap, rfl, h1, h2, h3⟩ := h
 refine ⟨ao, cap, rfl, h1, h2, fun h0 => ?_⟩
 obtain ⟨g, rfl, h5, h6⟩ := h3 h0
 refine ⟨g, rfl, h5, fun j x hj => ?_⟩
 obtain ⟨a, b, kv, c, d⟩ := h6 j x hj
 exact ⟨(hb.cell (p := ⟨g, j * 3, none⟩) h5).trans a, (hb.cell (p := ⟨g, j * 3 + 1, none⟩) h5).trans b, kv, (hb.cell (p := ⟨g, j * 3 + 2, none⟩) h5).trans c, d.below hb⟩
theorem Wr.belowB {R : Nat} {og : Option Nat} {w w' : World} (h : Wr R og w w') (hR : R ≤ w.heap.size) (ho : ∀ q, og = some q → R < q) : Below R w w' :=
 ⟨h.os, h.tape, h.output, h.size, fun k hk => h.block k (by omega) (by omega) (fun e => by have := ho k e.symm; omega)⟩
def NodeOk (e : SynP.Ex) : Prop := ∀ (l : List SynP.NI) (R p : Nat) (tv bv : Value) (out : Bytes) (o m : Nat) (w : World), WrS w R tv bv out o m → NdL w R tv l → SynP.SegN l p (e.flat p) → out.length + e.pr.length ≤ 274877906944 → o + 2 * e.size ≤ 100000 → p + e.size ≤ 100000 →
 Calls Tryz.prog 51 #[.pointer (some ⟨R, 0, none⟩), .int .i64 ((p + e.size - 1 : Nat) : Int)] w (WrP R tv bv (out ++ e.pr) o (max m (o + e.dp)) (.tuple #[]) w)
theorem top_op : ∀ (e : SynP.Ex) (p : Nat) (l : List SynP.NI), SynP.SegN l p (e.flat p) → ∃ x, l[p + e.size - 1]? = some x ∧ x.op = (e.op : Nat) := by
 intro e p l h
 have hl := SynP.flatLen e p
 have hp := SynP.size_pos' e
 obtain ⟨n, hn, hop⟩ : ∃ n, (e.flat p)[e.size - 1]? = some n ∧ n.op = e.op := by
  cases e <;> simp [SynP.Ex.flat, SynP.Ex.size, SynP.flatLen, SynP.flatsLen, SynP.Ex.op, ← Nat.add_assoc, List.getElem?_append_right, List.getElem?_append_left]
 have := h _ _ hn
 refine ⟨_, by rw [← Nat.add_sub_assoc hp] at this; exact this, ?_⟩
 show ((n.op : Nat) : Int) = _
 rw [hop]
set_option maxRecDepth 100000 in
theorem part1_of (e : SynP.Ex) (IH : NodeOk e) (l : List SynP.NI) (R p : Nat) (tv bv : Value) (out : Bytes) (o m : Nat) (w : World) (h : WrS w R tv bv out o m) (ht : NdL w R tv l) (hs : SynP.SegN l p (e.flat p)) (hl : out.length + e.pr.length ≤ 274877906944) (ho : o + 2 * e.size ≤ 100000) (hp : p + e.size ≤ 100000)
  (a b : Addr) (K : Nat) (hK : K = p + e.size - 1) (c0 : w.cell? a = some (.pointer (some ⟨R, 0, none⟩))) (c1 : w.cell? b = some (.int .i64 (K : Nat))) :
  Calls Tryz.prog 164 #[.pointer (some a), .pointer (some b)] w (WrP R tv bv (out ++ e.pr) o (max m (o + e.dp)) (.tuple #[]) w) := by
 have HC := Lib.hid (IH l R p tv bv out o m w h ht hs hl ho hp)
 rw [← hK] at HC
 obtain ⟨OUT, hOUT⟩ : ∃ OUT, OUT = out ++ e.pr := ⟨_, rfl⟩
 obtain ⟨M, hM⟩ : ∃ M, M = max m (o + e.dp) := ⟨_, rfl⟩
 rw [← hOUT, ← hM] at HC ⊢
 clear h ht hs hl ho hp hK hOUT hM
 go_enter Tryz.func164, Tryz.ntmps164
 go_wp2_with fail
 refine HC.out.mono ?_
 rintro e w1 ⟨rfl, H⟩
 have HH := Lib.hid H
 clear H
 go_wp2_with fail
 first | go_end0 | refine bodyPost_ret (results_none rfl _ _ _) rfl ?_
 exact ⟨rfl, HH.out⟩
set_option maxRecDepth 100000 in
set_option maxHeartbeats 2000000 in
theorem part_of (op side : Nat) (e : SynP.Ex) (IH : NodeOk e) (l : List SynP.NI) (R p : Nat) (tv bv : Value) (out : Bytes) (o m : Nat) (w : World) (h : WrS w R tv bv out o m) (ht : NdL w R tv l) (hs : SynP.SegN l p (e.flat p)) (hl : out.length + (SynP.par (SynP.loose op side e.op) e.pr).length ≤ 274877906944) (ho : o + 2 * e.size + 1 ≤ 100000) (hp : p + e.size ≤ 100000)
  (text : ByteArray) (kv : Value) (ks : List Int) (hk : KL w R kv ks) (hsd : ks[side]? = some ((p + e.size - 1 : Nat) : Int)) :
  Calls Tryz.prog 103 #[.pointer (some ⟨R, 0, none⟩), .agg #[.int .i64 (op : Nat), .string text, kv], .int .i64 (side : Nat)] w (WrP R tv bv (out ++ SynP.par (SynP.loose op side e.op) e.pr) o (max m (o + SynP.parD (SynP.loose op side e.op) e.dp)) (.tuple #[]) w) := by
 obtain ⟨K, hK⟩ : ∃ K, K = p + e.size - 1 := ⟨_, rfl⟩
 rw [← hK] at hsd
 have hRl := h.lt
 have hsl := (List.getElem?_eq_some_iff.1 hsd).1
 obtain ⟨ko, kcap, rfl, k1, k2, k3⟩ := hk
 obtain ⟨kg, rfl, k4, k5⟩ := k3 (by omega)
 obtain ⟨n, hn⟩ : ∃ n, n = ks.length := ⟨_, rfl⟩
 rw [← hn] at hsl k1 ⊢
 obtain ⟨x, hx, hxo⟩ := top_op e p l hs
 rw [← hK] at hx
 obtain ⟨ta, tcap, rfl, t1, t2, t3⟩ := ht
 have hKl := (List.getElem?_eq_some_iff.1 hx).1
 obtain ⟨tg, rfl, t4, t5⟩ := t3 (by omega)
 obtain ⟨t6, -, -⟩ := t5 K x hx
 rw [hxo] at t6
 obtain ⟨ln, hln⟩ : ∃ ln, ln = l.length := ⟨_, rfl⟩
 rw [← hln] at hKl t1 h ⊢
 have hb2 : Below w.heap.size w ((w.alloc (.cells #[.pointer (some ⟨R, 0, none⟩)] 86)).alloc (.cells #[.int .i64 (op : Nat), .string text, .slice (some ⟨kg, 0, none⟩) n kcap] 43)) := below_next (below_alloc _ _) (below_alloc _ _)
 have ck : ((w.alloc (.cells #[.pointer (some ⟨R, 0, none⟩)] 86)).alloc (.cells #[.int .i64 (op : Nat), .string text, .slice (some ⟨kg, 0, none⟩) n kcap] 43)).cell? ⟨kg, side, none⟩ = some (.int .i64 (K : Nat)) := (hb2.cell (p := ⟨kg, side, none⟩) (by show kg < _; omega)).trans (k5 side _ hsd)
 have HN := Lib.hid hn
 have HLN := Lib.hid hln
 have HKE := Lib.hid hK
 clear hn hln hK hb2
 go_enter Tryz.func103, Tryz.ntmps103
 go_wp2_with fail
 obtain ⟨w3, hw3⟩ : ∃ w3, w3 = ((w.alloc (.cells #[.pointer (some ⟨R, 0, none⟩)] 86)).alloc (.cells #[.int .i64 (op : Nat), .string text, .slice (some ⟨kg, 0, none⟩) n kcap] 43)).alloc (.cells #[.int .i64 (K : Nat)] 3) := ⟨_, rfl⟩
 rw [← hw3]
 have hb3 : Below w.heap.size w w3 := by rw [hw3]; exact below_next (below_next (below_alloc _ _) (below_alloc _ _)) (below_alloc _ _)
 have hsz3 : w3.heap.size = w.heap.size + 3 := by rw [hw3]; simp
 have h0 : w3.heap[w.heap.size]? = some (.cells #[.pointer (some ⟨R, 0, none⟩)] 86 (0, 0)) := by
  rw [hw3]
  exact ((below_alloc _ _).block _ (by simp; omega)).trans (((below_alloc _ _).block _ (by simp)).trans (heap_alloc_new w _))
 have h1 : w3.heap[w.heap.size + 1]? = some (.cells #[.int .i64 (op : Nat), .string text, .slice (some ⟨kg, 0, none⟩) n kcap] 43 (0, 0)) := by
  rw [hw3]
  have := heap_alloc_new (w.alloc (.cells #[.pointer (some ⟨R, 0, none⟩)] 86)) (.cells #[.int .i64 (op : Nat), .string text, .slice (some ⟨kg, 0, none⟩) n kcap] 43)
  rw [show (w.alloc (.cells #[.pointer (some ⟨R, 0, none⟩)] 86)).heap.size = w.heap.size + 1 by simp] at this
  exact ((below_alloc _ _).block _ (by simp)).trans this
 have h2 : w3.heap[w.heap.size + 2]? = some (.cells #[.int .i64 (K : Nat)] 3 (0, 0)) := by
  rw [hw3]
  have := heap_alloc_new ((w.alloc (.cells #[.pointer (some ⟨R, 0, none⟩)] 86)).alloc (.cells #[.int .i64 (op : Nat), .string text, .slice (some ⟨kg, 0, none⟩) n kcap] 43)) (.cells #[.int .i64 (K : Nat)] 3)
  rw [show ((w.alloc (.cells #[.pointer (some ⟨R, 0, none⟩)] 86)).alloc (.cells #[.int .i64 (op : Nat), .string text, .slice (some ⟨kg, 0, none⟩) n kcap] 43)).heap.size = w.heap.size + 2 by simp] at this
  exact this
 have HS3 := Lib.hid (h.below hb3)
 have HNL : Hid (NdL w3 R (.slice (some ⟨tg, 0, none⟩) ln tcap) l) := by
  rw [HLN.out] at t1 ⊢
  exact NdL.below ⟨_, tcap, rfl, t1, t2, t3⟩ (hb3.mono (by omega))
 have q0 : w3.cell? ⟨w.heap.size, 0, none⟩ = some (.pointer (some ⟨R, 0, none⟩)) := by rw [cell_of_row _ _ 0 _ _ _ h0]; rfl
 have q1 : w3.cell? ⟨w.heap.size + 1, 0, none⟩ = some (.int .i64 (op : Nat)) := by rw [cell_of_row _ _ 0 _ _ _ h1]; rfl
 have q2 : w3.cell? ⟨w.heap.size + 2, 0, none⟩ = some (.int .i64 (K : Nat)) := by rw [cell_of_row _ _ 0 _ _ _ h2]; rfl
 have q3 := HS3.out.cells.1
 have q4 : w3.cell? ⟨tg, K * 3, none⟩ = some (.int .i64 (e.op : Nat)) := (hb3.cell (p := ⟨tg, K * 3, none⟩) (by show tg < _; omega)).trans t6
 have HB3 := Lib.hid hb3
 have HGT : Hid (∀ q, bv.ownBlock = some q → q < w.heap.size) := fun q hq => (h.own.lt q hq).2
 obtain ⟨G, hG⟩ : ∃ G, G = w.heap.size := ⟨_, rfl⟩
 rw [← hG] at q0 q1 q2 HGT hsz3 hRl ⊢
 have HGE := Lib.hid hG
 have HSG := Lib.hid hs
 clear hw3 h0 h1 h2 hb3 h hG hs ck hsd t3 t5 t6 hx
 have hmf : ∀ (fn : Fn) (first cap : Array Value) (w : World), (Instr.makeFunc fn first cap).run Tryz.prog w = .ok (.func fn first cap) w := fun _ _ _ _ => rfl
 have HLO : ∀ v, Calls Tryz.prog 163 #[.int .i64 (op : Nat), .int .i64 (side : Nat), .int .i64 (e.op : Nat)] v fun y v' => y = .returned (.bool (SynP.loose op side e.op)) ∧ v' = v := fun v => (loose_any op side e.op v).mono fun _ _ h => ⟨h.1, h.2.symm⟩
 go_quiet ((go_at_call 163; exact Calls.quiet_of_same (HLO _)))
 obtain ⟨w4, hw4⟩ : ∃ w4, w4 = w3.drewN nq := ⟨_, rfl⟩
 rw [← hw4]
 have hb4 : Below w3.heap.size w3 w4 := by rw [hw4]; exact below_drewN _ _
 have HS4 := Lib.hid (HS3.out.below hb4)
 have hRw : R < w3.heap.size := HS3.out.lt
 have HNL4 := Lib.hid (HNL.out.below (hb4.mono (Nat.le_of_lt hRw)))
 have r0 : w4.cell? ⟨G, 0, none⟩ = some (.pointer (some ⟨R, 0, none⟩)) := (hb4.cell (p := ⟨G, 0, none⟩) (by show G < _; omega)).trans q0
 have r2 : w4.cell? ⟨G + 1 + 1, 0, none⟩ = some (.int .i64 (K : Nat)) := (hb4.cell (p := ⟨G + 1 + 1, 0, none⟩) (by show G + 1 + 1 < _; omega)).trans q2
 have hG4 : G + 3 ≤ w4.heap.size := Nat.le_trans (by omega) hb4.size
 have HB4 : Hid (Below w.heap.size w w4) := below_next HB3.out hb4
 have HR0 := Lib.hid r0
 have HR2 := Lib.hid r2
 obtain ⟨OUT, hOUT⟩ : ∃ OUT, OUT = out ++ SynP.par (SynP.loose op side e.op) e.pr := ⟨_, rfl⟩
 obtain ⟨M, hM⟩ : ∃ M, M = max m (o + SynP.parD (SynP.loose op side e.op) e.dp) := ⟨_, rfl⟩
 have HOUT := Lib.hid hOUT
 have HMM := Lib.hid hM
 rw [← hOUT, ← hM]
 clear q0 q1 q2 q3 q4 hw4 hb4 HLO
 cases hB : SynP.loose op side e.op with
 | false =>
  rw [hB] at hOUT hM hl
  have hl1 : out.length + e.pr.length ≤ 274877906944 := hl
  have e1 : OUT = out ++ e.pr := hOUT
  have e2 : M = max m (o + e.dp) := hM
  have HC := Lib.hid (IH l R p _ bv out o m w4 HS4.out HNL4.out HSG.out hl1 (by omega) hp)
  rw [← HKE.out, ← e1, ← e2] at HC
  clear hOUT hM e1 e2 hB
  go_wp2_with fail
  refine HC.out.mono ?_
  rintro y w5 ⟨rfl, bv5, a1, a2, a3⟩
  have A1 := Lib.hid a1
  have A2 : Hid (Wr R bv.ownBlock w w5) := (Wr.of_below HB4.out).trans (Mv.refl _ _) a2
  have A3 : Hid (Mv w bv.ownBlock bv5.ownBlock) := Mv.trans (R := R) (w' := w4) (Mv.refl _ _) HB4.out.size a3
  clear a1 a2 a3
  go_wp2_with fail
  first | go_end0 | refine bodyPost_ret (results_none rfl _ _ _) rfl ?_
  have A5 := A1.out
  rw [HOUT.out, HMM.out] at A5
  exact ⟨rfl, bv5, A5, A2.out, A3.out⟩
 | true =>
  rw [hB] at hOUT hM hl
  have hl1 : out.length + (([40] : Bytes) ++ e.pr ++ [41]).length ≤ 274877906944 := hl
  simp only [List.length_append, List.length_cons, List.length_nil] at hl1
  have e1 : OUT = out ++ ([40] ++ e.pr ++ [41]) := hOUT
  have e2 : M = max m (o + (e.dp + 1)) := hM
  have hdp := SynP.dp_le e
  have HC := Lib.hid (brack_part R _ bv out o m w4 HS4.out (by omega) (by omega) (.pointer (some ⟨G, 0, none⟩)) (.pointer (some ⟨G + 1 + 1, 0, none⟩)) e.pr (by omega) e.dp (by omega) (fun bv2 w5 b1 b2 b3 => by
   have hG0 : w5.cell? ⟨G, 0, none⟩ = some (.pointer (some ⟨R, 0, none⟩)) := (World.cell?_of_block (b2.block G (by omega) (by omega) (fun e => by have := HGT.out G e.symm; omega))).trans HR0.out
   have hG2 : w5.cell? ⟨G + 1 + 1, 0, none⟩ = some (.int .i64 (K : Nat)) := (World.cell?_of_block (b2.block (G + 1 + 1) (by omega) (by omega) (fun e => by have := HGT.out _ e.symm; omega))).trans HR2.out
   exact part1_of e IH l R p _ bv2 (out ++ [40]) (o + 1) (max m (o + 1)) w5 b1 (HNL4.out.below (b2.belowB (by omega) (fun q hq => HS4.out.gt q hq))) HSG.out (by rw [List.length_append, List.length_singleton]; omega) (by omega) hp _ _ K HKE.out hG0 hG2))
  rw [← e1, ← e2] at HC
  clear hOUT hM e1 e2 hB
  go_wp2_with fail
  refine HC.out.mono ?_
  rintro y w5 ⟨rfl, bv5, a1, a2, a3⟩
  have A1 := Lib.hid a1
  have A2 : Hid (Wr R bv.ownBlock w w5) := (Wr.of_below HB4.out).trans (Mv.refl _ _) a2
  have A3 : Hid (Mv w bv.ownBlock bv5.ownBlock) := Mv.trans (R := R) (w' := w4) (Mv.refl _ _) HB4.out.size a3
  clear a1 a2 a3
  go_wp2_with fail
  first | go_end0 | refine bodyPost_ret (results_none rfl _ _ _) rfl ?_
  have A5 := A1.out
  rw [HOUT.out, HMM.out] at A5
  exact ⟨rfl, bv5, A5, A2.out, A3.out⟩
end Go.Proofs.YtgfmiladfeoldaaGreatDoor
namespace Go.Proofs.YtgfmiladfeoldaaGreatDoor
open Go.RowKit NatP LexP
def intsOf (l : List Nat) : List Int := l.map fun k : Nat => (k : Int)
def AllRel (R : Nat) (tv bv : Value) (out : Bytes) (o m : Nat) (es : List SynP.Ex) (w : World) (i : Value) (wr : World) : Prop :=
 ∃ k bv', i = .int .i64 ((k : Nat) : Int) ∧ k ≤ es.length ∧ WrS wr R tv bv' (out ++ SynP.uptoP es k) o (max m (o + SynP.dpU es k)) ∧ Wr R bv.ownBlock w wr ∧ Mv w bv.ownBlock bv'.ownBlock
theorem upto_le : ∀ (ks : SynP.Exs) (i : Nat), i ≤ (SynP.exL ks).length → (SynP.uptoP (SynP.exL ks) i).length ≤ ks.pr.length := by
 intro ks i h
 rw [← SynP.uptoP_all ks]
 have : ∀ d, i + d ≤ (SynP.exL ks).length → (SynP.uptoP (SynP.exL ks) i).length ≤ (SynP.uptoP (SynP.exL ks) (i + d)).length := by
  intro d
  induction d with
  | zero => intro _; exact Nat.le_refl _
  | succ d ih =>
   intro hd
   have h1 := ih (by omega)
   have h2 : (SynP.exL ks)[i + d]? = some (SynP.exL ks)[i + d] := List.getElem?_eq_getElem (by omega)
   rw [show i + (d + 1) = (i + d) + 1 by omega, SynP.uptoP_succ h2, List.length_append]
   omega
 have := this ((SynP.exL ks).length - i) (by omega)
 rwa [show i + ((SynP.exL ks).length - i) = (SynP.exL ks).length by omega] at this
set_option maxRecDepth 100000 in
set_option maxHeartbeats 2000000 in
theorem all_of (ks : SynP.Exs) (IH : ∀ e ∈ SynP.exL ks, NodeOk e) (l : List SynP.NI) (R p : Nat) (tv bv : Value) (out : Bytes) (o m : Nat) (w : World) (h : WrS w R tv bv out o m) (ht : NdL w R tv l) (hs : SynP.SegN l p (ks.flat p)) (hl : out.length + ks.pr.length ≤ 274877906944) (ho : o + 2 * ks.size + 1 ≤ 100000) (hp : p + ks.size ≤ 100000)
  (op : Nat) (hop : op = 10 ∨ op = 12) (text : ByteArray) (kv : Value) (hk : KL w R kv (intsOf (ks.roots p))) :
  Calls Tryz.prog 108 #[.pointer (some ⟨R, 0, none⟩), .agg #[.int .i64 (op : Nat), .string text, kv]] w (WrP R tv bv (out ++ ks.pr) o (max m (o + ks.dp)) (.tuple #[]) w) := by
 have hloose : ∀ s q, SynP.loose op s q = false := by intro s q; rcases hop with rfl | rfl <;> rfl
 have hKL := hk
 obtain ⟨ko, kcap, rfl, k1, k2, -⟩ := hk
 have hn : (intsOf (ks.roots p)).length = (SynP.exL ks).length := by rw [intsOf, List.length_map, SynP.exL_roots]
 obtain ⟨n, hnn⟩ : ∃ n, n = (intsOf (ks.roots p)).length := ⟨_, rfl⟩
 rw [← hnn] at k1 hn hKL ⊢
 have HKL := Lib.hid hKL
 have HN := Lib.hid hnn
 have hRl := h.lt
 obtain ⟨w1, hw1⟩ : ∃ w1, w1 = w.alloc (.cells #[.int .i64 (op : Nat), .string text, .slice ko n kcap] 43) := ⟨_, rfl⟩
 have hb1 : Below w.heap.size w w1 := by rw [hw1]; exact below_alloc _ _
 have HS1 := Lib.hid (h.below hb1)
 have HT1 := Lib.hid (ht.below (hb1.mono (Nat.le_of_lt hRl)))
 have HK1 := Lib.hid (hKL.below (hb1.mono (Nat.le_of_lt hRl)))
 have hG : w1.heap[w.heap.size]? = some (.cells #[.int .i64 (op : Nat), .string text, .slice ko n kcap] 43 (0, 0)) := by rw [hw1]; exact heap_alloc_new _ _
 have HG := Lib.hid hG
 have HB1 := Lib.hid hb1
 have HGT : Hid (∀ q, bv.ownBlock = some q → q < w.heap.size) := fun q hq => (h.own.lt q hq).2
 have HSG := Lib.hid hs
 have HNE := Lib.hid hn
 have HLO := Lib.hid hloose
 have hsz1 : w.heap.size < w1.heap.size := (Array.getElem?_eq_some_iff.1 hG).1
 have hn63 : n ≤ 100000 := by
  have : ∀ ks : SynP.Exs, (SynP.exL ks).length ≤ ks.size := by
   intro ks
   induction ks using SynP.Exs.rec (motive_1 := fun _ => True) with
   | nil => exact Nat.zero_le _
   | cons a l _ ih => have := SynP.size_pos' a; show (SynP.exL l).length + 1 ≤ a.size + l.size; omega
   | _ => trivial
  have := this ks
  omega
 clear h ht hs hb1 hloose hnn hn hop hKL
 go_enter Tryz.func108, Tryz.ntmps108
 go_wp2_with fail
 rw [← hw1]
 obtain ⟨G, hGe⟩ : ∃ G, G = w.heap.size := ⟨_, rfl⟩
 have hRl0 := hRl
 rw [← hGe] at HG HGT hsz1 hRl ⊢
 have HGE := Lib.hid hGe
 have HBB := Lib.hid HB1.out
 clear hw1 hGe hG
 go_loopw [8] (fun i wr => AllRel R tv bv out o m (SynP.exL ks) w1 i wr) (fun i _ => n - (intOf i).toNat)
 case atStart => exact ⟨0, bv, rfl, Nat.zero_le _, by rw [SynP.uptoP_zero, SynP.dpU_zero, List.append_nil]; rw [show max m (o + 0) = m by have := HS1.out.le; omega]; exact HS1.out, Wr.refl _ _ _, Mv.refl _ _⟩
 case round =>
  obtain ⟨k, bv', rfl, hk, hS, hW, hM⟩ := hrel
  have hGr : wr.heap[G]? = some (.cells #[.int .i64 (op : Nat), .string text, .slice ko n kcap] 43 (0, 0)) := (hW.block G (by omega) (by omega) (fun e => by have := HGT.out G e.symm; omega)).trans HG.out
  have c0 : wr.cell? ⟨G, 0, none⟩ = some (.int .i64 (op : Nat)) := by rw [cell_of_row _ _ 0 _ _ _ hGr]; rfl
  have c1 : wr.cell? ⟨G, 1, none⟩ = some (.string text) := by rw [cell_of_row _ _ 1 _ _ _ hGr]; rfl
  have c2 : wr.cell? ⟨G, 2, none⟩ = some (.slice ko n kcap) := by rw [cell_of_row _ _ 2 _ _ _ hGr]; rfl
  have HS := Lib.hid hS
  have HW := Lib.hid hW
  have HM := Lib.hid hM
  have HGR := Lib.hid hGr
  rw [← HNE.out] at hk
  clear hS hW hM hGr
  by_cases hlt : k < n
  ·obtain ⟨e, hke⟩ : ∃ e, (SynP.exL ks)[k]? = some e := ⟨_, List.getElem?_eq_getElem (by rw [← HNE.out]; exact hlt)⟩
   obtain ⟨p', hr1, hr2, hr3, hr4⟩ := SynP.kid_at (l := l) ks p k e hke
   have hie : NodeOk e := IH e (List.mem_of_getElem? hke)
   have HIE := Lib.hid hie
   have hsd : (intsOf (ks.roots p))[k]? = some ((p' + e.size - 1 : Nat) : Int) := by rw [intsOf, List.getElem?_map, hr1]; rfl
   have HSD := Lib.hid hsd
   have HSE := Lib.hid (hr2 HSG.out)
   have hep := SynP.size_pos' e
   have HUP : Hid (SynP.uptoP (SynP.exL ks) (k + 1) = SynP.uptoP (SynP.exL ks) k ++ SynP.piece k e) := SynP.uptoP_succ hke
   have HDP : Hid (SynP.dpU (SynP.exL ks) (k + 1) = max (SynP.dpU (SynP.exL ks) k) e.dp) := SynP.dpU_succ hke
   have hup1 := upto_le ks (k + 1) (by rw [← HNE.out]; omega)
   rw [HUP.out, List.length_append] at hup1
   have hes : e.size ≤ ks.size := by omega
   have hmeas : Hid (n - (k + 1) < n - k) := by show _ < _; omega
   have hlt2 : decide (((k : Nat) : Int) < ((n : Nat) : Int)) = true := decide_eq_true (by omega)
   have hWR : Hid (Below R w wr) := ((HBB.out).mono (Nat.le_of_lt hRl0)).trans (HW.out.belowB (by omega) (fun q hq => HS1.out.gt q hq))
   have HTR : Hid (NdL wr R tv l) := HT1.out.below (HW.out.belowB (by omega) (fun q hq => HS1.out.gt q hq))
   have HKR : Hid (KL wr R (.slice ko n kcap) (intsOf (ks.roots p))) := HK1.out.below (HW.out.belowB (by omega) (fun q hq => HS1.out.gt q hq))
   have hwz := HW.out.size
   clear hke hr1 hr2 hie hsd
   by_cases h0 : k = 0
   ·have hpc : SynP.piece k e = e.pr := by unfold SynP.piece; rw [if_neg (by omega)]; rfl
    rw [hpc] at hup1
    have HPC := Lib.hid hpc
    have HC := Lib.hid (part_of op k e HIE.out l R p' tv bv' _ o _ wr HS.out HTR.out HSE.out (by rw [HLO.out k e.op, List.length_append]; show _ + e.pr.length ≤ _; omega) (by omega) (by omega) text _ _ HKR.out HSD.out)
    rw [HLO.out k e.op] at HC
    clear hpc
    subst h0
    go_wp2_with fail
    refine HC.out.mono ?_
    rintro y w5 ⟨rfl, bv5, a1, a2, a3⟩
    have hfin : Hid (AllRel R tv bv out o m (SynP.exL ks) w1 (.int .i64 1) w5) := by
     refine ⟨0 + 1, bv5, rfl, by rw [← HNE.out]; omega, ?_, HW.out.trans HM.out a2, Mv.trans (R := R) (w' := wr) HM.out HW.out.size a3⟩
     rw [HUP.out, HDP.out, HPC.out, ← List.append_assoc]
     have e2 : max m (o + max (SynP.dpU (SynP.exL ks) 0) e.dp) = max (max m (o + SynP.dpU (SynP.exL ks) 0)) (o + e.dp) := by omega
     rw [e2]; exact a1
    clear a1 a2 a3
    go_wp2_with fail
    first | exact ⟨hfin.out, hmeas.out⟩ | exact ⟨by (repeat apply Exists.intro); exact ⟨hfin.out, rfl⟩, hmeas.out⟩
   ·have hpos : 0 < k := by omega
    have hpc : SynP.piece k e = [44, 32] ++ e.pr := by unfold SynP.piece; rw [if_pos (by omega)]
    rw [hpc, List.length_append] at hup1
    have h2l : ([44, 32] : Bytes).length = 2 := rfl
    have HPC := Lib.hid hpc
    have hol : (out ++ SynP.uptoP (SynP.exL ks) k).length = out.length + (SynP.uptoP (SynP.exL ks) k).length := List.length_append
    have HSTR := Lib.hid (bld_str R tv bv' _ o _ [44, 32] wr HS.out (by omega) (by omega))
    clear hpc h0
    go_wp2_with fail
    refine HSTR.out.mono ?_
    rintro y w4 ⟨rfl, bv4, a1, a2, a3⟩
    have hGr4 : w4.heap[G]? = some (.cells #[.int .i64 (op : Nat), .string text, .slice ko n kcap] 43 (0, 0)) := (a2.block G (by omega) (by omega) (fun e => by
     rcases HM.out G e.symm with h1 | h1
     ·have := HGT.out G h1; omega
     ·omega)).trans HGR.out
    have d0 : w4.cell? ⟨G, 0, none⟩ = some (.int .i64 (op : Nat)) := by rw [cell_of_row _ _ 0 _ _ _ hGr4]; rfl
    have d1 : w4.cell? ⟨G, 1, none⟩ = some (.string text) := by rw [cell_of_row _ _ 1 _ _ _ hGr4]; rfl
    have d2 : w4.cell? ⟨G, 2, none⟩ = some (.slice ko n kcap) := by rw [cell_of_row _ _ 2 _ _ _ hGr4]; rfl
    have hbl := a2.belowB (by omega) (fun q hq => HS.out.gt q hq)
    have HA2 : Hid (Wr R bv.ownBlock w1 w4) := HW.out.trans HM.out a2
    have HA3 : Hid (Mv w1 bv.ownBlock bv4.ownBlock) := Mv.trans (R := R) (w' := wr) HM.out HW.out.size a3
    have HC := Lib.hid (part_of op k e HIE.out l R p' tv bv4 _ o _ w4 a1 (HTR.out.below hbl) HSE.out (by rw [HLO.out k e.op, List.length_append, hol]; show _ + e.pr.length ≤ _; omega) (by omega) (by omega) text _ _ (HKR.out.below hbl) HSD.out)
    rw [HLO.out k e.op] at HC
    clear a1 a2 a3 hGr4 hbl c0 c1 c2 hol
    go_wp2_with fail
    refine HC.out.mono ?_
    rintro y w5 ⟨rfl, bv5, a1, a2, a3⟩
    have hfin : Hid (AllRel R tv bv out o m (SynP.exL ks) w1 (.int .i64 ((k + 1 : Nat) : Int)) w5) := by
     refine ⟨k + 1, bv5, rfl, by rw [← HNE.out]; omega, ?_, HA2.out.trans HA3.out a2, Mv.trans (R := R) (w' := w4) HA3.out HA2.out.size a3⟩
     rw [HUP.out, HDP.out, HPC.out, ← List.append_assoc, ← List.append_assoc]
     have e2 : max m (o + max (SynP.dpU (SynP.exL ks) k) e.dp) = max (max m (o + SynP.dpU (SynP.exL ks) k)) (o + e.dp) := by omega
     rw [e2]; exact a1
    clear a1 a2 a3
    go_wp2_with fail
    first | exact ⟨hfin.out, hmeas.out⟩ | exact ⟨by (repeat apply Exists.intro); exact ⟨hfin.out, rfl⟩, hmeas.out⟩
  ·have hlt2 : decide (((k : Nat) : Int) < ((n : Nat) : Int)) = false := decide_eq_false (by omega)
   have hkn : k = n := by omega
   have hS := HS.out
   rw [hkn, HNE.out, SynP.uptoP_all, SynP.dpU_all] at hS
   have HSS := Lib.hid hS
   have HWW : Hid (Wr R bv.ownBlock w wr) := (Wr.of_below HBB.out).trans (Mv.refl _ _) HW.out
   have HMM : Hid (Mv w bv.ownBlock bv'.ownBlock) := Mv.trans (R := R) (w' := w1) (Mv.refl _ _) HBB.out.size HM.out
   clear hS hkn
   go_wp2_with fail
   first | go_end0 | refine bodyPost_ret (results_none rfl _ _ _) rfl ?_
   exact ⟨rfl, bv', HSS.out, HWW.out, HMM.out⟩
end Go.Proofs.YtgfmiladfeoldaaGreatDoor
namespace Go.Proofs.YtgfmiladfeoldaaGreatDoor
open Go.RowKit NatP LexP
structure NSt (w0 : World) (og : Option Nat) (w : World) (R G : Nat) (tv bv : Value) (out : Bytes) (o m : Nat) (l : List SynP.NI) (op : Nat) (text : Bytes) (kv : Value) (ks : List Int) : Prop where
 ws : WrS w R tv bv out o m
 wr : Wr R og w0 w
 mv : Mv w0 og bv.ownBlock
 nl : NdL w R tv l
 kl : KL w R kv ks
 h0 : w.heap[G]? = some (.cells #[.pointer (some ⟨R, 0, none⟩)] 86 (0, 0))
 h1 : w.heap[G + 1]? = some (.cells #[.int .i64 (op : Nat), .string ⟨text.toArray⟩, kv] 43 (0, 0))
 hR : R < G
 hG : G + 2 ≤ w0.heap.size
 ho : ∀ q, og = some q → q < G
theorem NSt.step {w0 w w' : World} {og : Option Nat} {R G : Nat} {tv bv bv' : Value} {out out' : Bytes} {o o' m m' : Nat} {l : List SynP.NI} {op : Nat} {text : Bytes} {kv : Value} {ks : List Int} (h : NSt w0 og w R G tv bv out o m l op text kv ks)
  (k1 : WrS w' R tv bv' out' o' m') (k2 : Wr R bv.ownBlock w w') (k3 : Mv w bv.ownBlock bv'.ownBlock) : NSt w0 og w' R G tv bv' out' o' m' l op text kv ks := by
 have hb := k2.belowB (Nat.le_of_lt h.ws.lt) (fun q hq => h.ws.gt q hq)
 have hne : ∀ i, G ≤ i → i < G + 2 → some i ≠ bv.ownBlock := fun i h1 h2 e => by
  have hG := h.hG
  rcases h.mv i e.symm with h3 | h3
  ·have := h.ho i h3; omega
  ·omega
 have hR := h.hR
 have hG := h.hG
 have hz := h.wr.size
 exact ⟨k1, h.wr.trans h.mv k2, Mv.trans (R := R) (w' := w) h.mv h.wr.size k3, h.nl.below hb, h.kl.below hb, (k2.block G (by omega) (by omega) (hne G (by omega) (by omega))).trans h.h0, (k2.block (G + 1) (by omega) (by omega) (hne (G + 1) (by omega) (by omega))).trans h.h1, h.hR, h.hG, h.ho⟩
theorem NSt.below {w0 w w' : World} {og : Option Nat} {R G : Nat} {tv bv : Value} {out : Bytes} {o m : Nat} {l : List SynP.NI} {op : Nat} {text : Bytes} {kv : Value} {ks : List Int} (h : NSt w0 og w R G tv bv out o m l op text kv ks) (hb : Below w.heap.size w w') : NSt w0 og w' R G tv bv out o m l op text kv ks :=
 h.step (h.ws.below hb) (Wr.of_below hb) (Mv.refl _ _)
theorem NSt.cells {w0 w : World} {og : Option Nat} {R G : Nat} {tv bv : Value} {out : Bytes} {o m : Nat} {l : List SynP.NI} {op : Nat} {text : Bytes} {kv : Value} {ks : List Int} (h : NSt w0 og w R G tv bv out o m l op text kv ks) :
  w.cell? ⟨G, 0, none⟩ = some (.pointer (some ⟨R, 0, none⟩)) ∧ w.cell? ⟨G + 1, 0, none⟩ = some (.int .i64 (op : Nat)) ∧ w.cell? ⟨G + 1, 1, none⟩ = some (.string ⟨text.toArray⟩) ∧ w.cell? ⟨G + 1, 2, none⟩ = some kv := by
 refine ⟨?_, ?_, ?_, ?_⟩
 ·rw [cell_of_row _ _ 0 _ _ _ h.h0]; rfl
 ·rw [cell_of_row _ _ 0 _ _ _ h.h1]; rfl
 ·rw [cell_of_row _ _ 1 _ _ _ h.h1]; rfl
 ·rw [cell_of_row _ _ 2 _ _ _ h.h1]; rfl
theorem NSt.fin {w w0 w' : World} {R G : Nat} {tv bv bv0 : Value} {out : Bytes} {o m : Nat} {l : List SynP.NI} {op : Nat} {text : Bytes} {kv : Value} {ks : List Int} (h : NSt w0 bv0.ownBlock w' R G tv bv out o m l op text kv ks) (hb : Below w.heap.size w w0) : WrP R tv bv0 out o m (.tuple #[]) w (.returned (.tuple #[])) w' :=
 ⟨rfl, bv, h.ws, (Wr.of_below hb).trans (Mv.refl _ _) h.wr, Mv.trans (R := R) (w' := w0) (Mv.refl _ _) hb.size h.mv⟩
theorem nst_start {w : World} {R K : Nat} {tv bv : Value} {out : Bytes} {o m : Nat} {l : List SynP.NI} {op : Nat} {text : Bytes} {ks : List Int} (h : WrS w R tv bv out o m) (ht : NdL w R tv l) (hx : l[K]? = some ⟨(op : Nat), text, ks⟩) :
  ∃ tg ln tcap ko kn kcap, tv = .slice (some ⟨tg, 0, none⟩) ln tcap ∧ K < ln ∧ kn = ks.length ∧ kn ≤ kcap ∧
   (w.alloc (.cells #[.pointer (some ⟨R, 0, none⟩)] 86)).cell? ⟨R, 0, none⟩ = some tv ∧
   (w.alloc (.cells #[.pointer (some ⟨R, 0, none⟩)] 86)).cell? ⟨tg, K * 3, none⟩ = some (.int .i64 (op : Nat)) ∧
   (w.alloc (.cells #[.pointer (some ⟨R, 0, none⟩)] 86)).cell? ⟨tg, K * 3 + 1, none⟩ = some (.string ⟨text.toArray⟩) ∧
   (w.alloc (.cells #[.pointer (some ⟨R, 0, none⟩)] 86)).cell? ⟨tg, K * 3 + 2, none⟩ = some (.slice ko kn kcap) ∧
   Below w.heap.size w ((w.alloc (.cells #[.pointer (some ⟨R, 0, none⟩)] 86)).alloc (.cells #[.int .i64 (op : Nat), .string ⟨text.toArray⟩, .slice ko kn kcap] 43)) ∧
   NSt ((w.alloc (.cells #[.pointer (some ⟨R, 0, none⟩)] 86)).alloc (.cells #[.int .i64 (op : Nat), .string ⟨text.toArray⟩, .slice ko kn kcap] 43)) bv.ownBlock ((w.alloc (.cells #[.pointer (some ⟨R, 0, none⟩)] 86)).alloc (.cells #[.int .i64 (op : Nat), .string ⟨text.toArray⟩, .slice ko kn kcap] 43)) R w.heap.size tv bv out o m l op text (.slice ko kn kcap) ks := by
 have hKl := (List.getElem?_eq_some_iff.1 hx).1
 have hT := ht
 obtain ⟨ta, tcap, rfl, t1, t2, t3⟩ := ht
 obtain ⟨tg, rfl, t4, t5⟩ := t3 (by omega)
 obtain ⟨a, b, kv, c, d⟩ := t5 K _ hx
 have hkl := d
 obtain ⟨ko, kcap, rfl, k1, -, -⟩ := hkl
 obtain ⟨kn, hkn⟩ : ∃ kn, kn = ks.length := ⟨_, rfl⟩
 rw [show (⟨(op : Nat), text, ks⟩ : SynP.NI).kids.length = kn from hkn.symm] at k1 c d
 have hRl := h.lt
 have hb1 := below_alloc w (.cells #[.pointer (some ⟨R, 0, none⟩)] 86)
 have hb2 := below_next hb1 (below_alloc _ (.cells #[.int .i64 (op : Nat), .string ⟨text.toArray⟩, .slice ko kn kcap] 43))
 refine ⟨tg, l.length, tcap, ko, kn, kcap, rfl, hKl, hkn, k1, (hb1.cell (p := ⟨R, 0, none⟩) hRl).trans h.cells.1, (hb1.cell (p := ⟨tg, K * 3, none⟩) (by show tg < _; omega)).trans a, (hb1.cell (p := ⟨tg, K * 3 + 1, none⟩) (by show tg < _; omega)).trans b, (hb1.cell (p := ⟨tg, K * 3 + 2, none⟩) (by show tg < _; omega)).trans c, hb2, ?_⟩
 refine ⟨h.below hb2, Wr.refl _ _ _, Mv.refl _ _, hT.below (hb2.mono (Nat.le_of_lt hRl)), d.below (hb2.mono (Nat.le_of_lt hRl)), ?_, ?_, hRl, by simp, fun q hq => (h.own.lt q hq).2⟩
 ·exact ((below_alloc _ _).block _ (by simp)).trans (heap_alloc_new w _)
 ·have := heap_alloc_new (w.alloc (.cells #[.pointer (some ⟨R, 0, none⟩)] 86)) (.cells #[.int .i64 (op : Nat), .string ⟨text.toArray⟩, .slice ko kn kcap] 43)
  rw [show (w.alloc (.cells #[.pointer (some ⟨R, 0, none⟩)] 86)).heap.size = w.heap.size + 1 by simp] at this
  exact this
end Go.Proofs.YtgfmiladfeoldaaGreatDoor
namespace Go.Proofs.YtgfmiladfeoldaaGreatDoor
open Go.RowKit NatP LexP
set_option maxRecDepth 100000 in
set_option maxHeartbeats 4000000 in
theorem node_text1 (l : List SynP.NI) (R K : Nat) (tv bv : Value) (out : Bytes) (o m : Nat) (w : World) (h : WrS w R tv bv out o m) (ht : NdL w R tv l) (text : Bytes) (ks : List Int) (hx : l[K]? = some ⟨((1 : Nat) : Int), text, ks⟩) (hl : out.length + text.length ≤ 1099511627776) :
  Calls Tryz.prog 51 #[.pointer (some ⟨R, 0, none⟩), .int .i64 (K : Nat)] w (WrP R tv bv (out ++ text) o m (.tuple #[]) w) := by
 obtain ⟨tg, ln, tcap, ko, kn, kcap, rfl, hKl, hkn, hkc, c0, c1, c2, c3, hb, hN⟩ := nst_start h ht hx
 have HKN := Lib.hid hkn
 have HB := Lib.hid hb
 have HN := Lib.hid hN
 obtain ⟨OUT, hOUT⟩ : ∃ OUT, OUT = out ++ text := ⟨_, rfl⟩
 have HOUT := Lib.hid hOUT
 obtain ⟨M, hM⟩ : ∃ M, M = m := ⟨_, rfl⟩
 have HM := Lib.hid hM
 have hle := h.le
 have hmf : ∀ (fn : Fn) (first cap : Array Value) (w : World), (Instr.makeFunc fn first cap).run Tryz.prog w = .ok (.func fn first cap) w := fun _ _ _ _ => rfl
 rw [← hOUT]
 clear hb hN h ht hx hOUT hM hkn
 go_enter Tryz.func51, Tryz.ntmps51
 go_wp2_with fail
 obtain ⟨w2, hw2⟩ : ∃ w2, w2 = (w.alloc (.cells #[.pointer (some ⟨R, 0, none⟩)] 86)).alloc (.cells #[.int .i64 1, .string ⟨text.toArray⟩, .slice ko kn kcap] 43) := ⟨_, rfl⟩
 have hw2' : w2 = (w.alloc (.cells #[.pointer (some ⟨R, 0, none⟩)] 86)).alloc (.cells #[.int .i64 ((1 : Nat) : Int), .string ⟨(text : Bytes).toArray⟩, .slice ko kn kcap] 43) := hw2
 rw [← hw2'] at HB HN
 rw [← hw2]
 clear hw2 hw2' c0 c1 c2 c3
 obtain ⟨G, hG⟩ : ∃ G, G = w.heap.size := ⟨_, rfl⟩
 rw [← hG] at HN ⊢
 obtain ⟨g0, g1, g2, g3⟩ := HN.out.cells
 have HGE := Lib.hid hG
 clear hG
 go_region_held3 (fun w' => w'.cell? ⟨G, 0, none⟩ = some (.pointer (some ⟨R, 0, none⟩)) ∧ w'.cell? ⟨G + 1, 1, none⟩ = some (.string ⟨(text : Bytes).toArray⟩))
  (first
   | go_keep
   | exact ⟨((HN.out.below (below_drewN _ _)).step a1 a2 a3).cells.1, ((HN.out.below (below_drewN _ _)).step a1 a2 a3).cells.2.2.1⟩)
  ((go_at_call 105; refine (bld_str R _ _ _ _ _ (text) _ (HN.out.ws.below (below_drewN _ _)) (by omega) (by omega)).mono ?_; rintro y w5 ⟨rfl, bv5, a1, a2, a3⟩))
 have HN5 := Lib.hid ((HN.out.below (below_drewN _ _)).step a1 a2 a3)
 clear a1 a2 a3 g0 g1 g2 g3
 obtain ⟨g0, g1, g2, g3⟩ := HN5.out.cells
 go_wp2_with fail
 first | go_end0 | refine bodyPost_ret (results_none rfl _ _ _) rfl ?_
 have hf := HN5.out.fin HB.out
 rw [show out ++ text = OUT by exact HOUT.out.symm] at hf
 exact hf
set_option maxRecDepth 100000 in
set_option maxHeartbeats 4000000 in
theorem node_text2 (l : List SynP.NI) (R K : Nat) (tv bv : Value) (out : Bytes) (o m : Nat) (w : World) (h : WrS w R tv bv out o m) (ht : NdL w R tv l) (text : Bytes) (ks : List Int) (hx : l[K]? = some ⟨((2 : Nat) : Int), text, ks⟩) (hl : out.length + text.length ≤ 1099511627776) :
  Calls Tryz.prog 51 #[.pointer (some ⟨R, 0, none⟩), .int .i64 (K : Nat)] w (WrP R tv bv (out ++ text) o m (.tuple #[]) w) := by
 obtain ⟨tg, ln, tcap, ko, kn, kcap, rfl, hKl, hkn, hkc, c0, c1, c2, c3, hb, hN⟩ := nst_start h ht hx
 have HKN := Lib.hid hkn
 have HB := Lib.hid hb
 have HN := Lib.hid hN
 obtain ⟨OUT, hOUT⟩ : ∃ OUT, OUT = out ++ text := ⟨_, rfl⟩
 have HOUT := Lib.hid hOUT
 obtain ⟨M, hM⟩ : ∃ M, M = m := ⟨_, rfl⟩
 have HM := Lib.hid hM
 have hle := h.le
 have hmf : ∀ (fn : Fn) (first cap : Array Value) (w : World), (Instr.makeFunc fn first cap).run Tryz.prog w = .ok (.func fn first cap) w := fun _ _ _ _ => rfl
 rw [← hOUT]
 clear hb hN h ht hx hOUT hM hkn
 go_enter Tryz.func51, Tryz.ntmps51
 go_wp2_with fail
 obtain ⟨w2, hw2⟩ : ∃ w2, w2 = (w.alloc (.cells #[.pointer (some ⟨R, 0, none⟩)] 86)).alloc (.cells #[.int .i64 2, .string ⟨text.toArray⟩, .slice ko kn kcap] 43) := ⟨_, rfl⟩
 have hw2' : w2 = (w.alloc (.cells #[.pointer (some ⟨R, 0, none⟩)] 86)).alloc (.cells #[.int .i64 ((2 : Nat) : Int), .string ⟨(text : Bytes).toArray⟩, .slice ko kn kcap] 43) := hw2
 rw [← hw2'] at HB HN
 rw [← hw2]
 clear hw2 hw2' c0 c1 c2 c3
 obtain ⟨G, hG⟩ : ∃ G, G = w.heap.size := ⟨_, rfl⟩
 rw [← hG] at HN ⊢
 obtain ⟨g0, g1, g2, g3⟩ := HN.out.cells
 have HGE := Lib.hid hG
 clear hG
 go_region_held3 (fun w' => w'.cell? ⟨G, 0, none⟩ = some (.pointer (some ⟨R, 0, none⟩)) ∧ w'.cell? ⟨G + 1, 1, none⟩ = some (.string ⟨(text : Bytes).toArray⟩))
  (first
   | go_keep
   | exact ⟨((HN.out.below (below_drewN _ _)).step a1 a2 a3).cells.1, ((HN.out.below (below_drewN _ _)).step a1 a2 a3).cells.2.2.1⟩)
  ((go_at_call 105; refine (bld_str R _ _ _ _ _ (text) _ (HN.out.ws.below (below_drewN _ _)) (by omega) (by omega)).mono ?_; rintro y w5 ⟨rfl, bv5, a1, a2, a3⟩))
 have HN5 := Lib.hid ((HN.out.below (below_drewN _ _)).step a1 a2 a3)
 clear a1 a2 a3 g0 g1 g2 g3
 obtain ⟨g0, g1, g2, g3⟩ := HN5.out.cells
 go_wp2_with fail
 first | go_end0 | refine bodyPost_ret (results_none rfl _ _ _) rfl ?_
 have hf := HN5.out.fin HB.out
 rw [show out ++ text = OUT by exact HOUT.out.symm] at hf
 exact hf
theorem leaf_ok {e : SynP.Ex} {op : Nat} {t : Bytes} (hf : ∀ p, e.flat p = [⟨op, t, []⟩]) (hp : e.pr = t) (hs : e.size = 1) (hd : e.dp = 0)
  (H : ∀ (l : List SynP.NI) (R K : Nat) (tv bv : Value) (out : Bytes) (o m : Nat) (w : World), WrS w R tv bv out o m → NdL w R tv l → ∀ (text : Bytes) (ks : List Int), l[K]? = some ⟨((op : Nat) : Int), text, ks⟩ → out.length + text.length ≤ 1099511627776 →
   Calls Tryz.prog 51 #[.pointer (some ⟨R, 0, none⟩), .int .i64 (K : Nat)] w (WrP R tv bv (out ++ text) o m (.tuple #[]) w)) : NodeOk e := by
 intro l R p tv bv out o m w h ht hsg hl ho hpp
 rw [hf] at hsg
 have hx := hsg.one
 have h1 := H l R p tv bv out o m w h ht t [] hx (by rw [hp] at hl; omega)
 rw [hs, hp, hd]
 rw [show max m (o + 0) = m by have := h.le; omega]
 exact h1
theorem node_name (x : Bytes) : NodeOk (.name x) := leaf_ok (op := 2) (t := x) (fun _ => rfl) rfl rfl rfl node_text2
set_option maxRecDepth 100000 in
set_option maxHeartbeats 4000000 in
theorem node_neg (a : SynP.Ex) (IH : NodeOk a) : NodeOk (.neg a) := by
 intro l R p tv bv out o m w h ht hs hl ho hp
 have hsz : (SynP.Ex.neg a).size = a.size + 1 := rfl
 obtain ⟨hsa, hst⟩ := SynP.SegN.app (a := a.flat p) (b := [⟨4, [], [p + a.size - 1]⟩]) hs
 have hx : l[p + a.size]? = some ⟨((4 : Nat) : Int), [], [((p + a.size - 1 : Nat) : Int)]⟩ := by
  have := hst.one
  rw [SynP.flatLen] at this
  exact this
 have hap := SynP.size_pos' a
 have HSA := Lib.hid hsa
 have hpl : (SynP.Ex.neg a).pr = [45] ++ SynP.par (SynP.loose 4 0 a.op) a.pr := rfl
 rw [hpl] at hl
 simp only [List.length_append, List.length_cons, List.length_nil] at hl
 have hdl : (SynP.Ex.neg a).dp = SynP.parD (SynP.loose 4 0 a.op) a.dp := rfl
 rw [show p + (SynP.Ex.neg a).size - 1 = p + a.size by rw [hsz]; omega, hpl, hdl]
 rw [hsz] at ho hp
 obtain ⟨K, hK⟩ : ∃ K, K = p + a.size := ⟨_, rfl⟩
 rw [← hK] at hx ⊢
 have HK := Lib.hid hK
 clear hK hs hst hsa hpl hdl hsz
 obtain ⟨tg, ln, tcap, ko, kn, kcap, rfl, hKl, hkn, hkc, c0, c1, c2, c3, hb, hN⟩ := nst_start h ht hx
 have HKN := Lib.hid hkn
 have HB := Lib.hid hb
 have HN := Lib.hid hN
 obtain ⟨OUT, hOUT⟩ : ∃ OUT, OUT = out ++ ([45] ++ SynP.par (SynP.loose 4 0 a.op) a.pr) := ⟨_, rfl⟩
 have HOUT := Lib.hid hOUT
 obtain ⟨M, hM⟩ : ∃ M, M = max m (o + SynP.parD (SynP.loose 4 0 a.op) a.dp) := ⟨_, rfl⟩
 have HM := Lib.hid hM
 have hle := h.le
 have hmf : ∀ (fn : Fn) (first cap : Array Value) (w : World), (Instr.makeFunc fn first cap).run Tryz.prog w = .ok (.func fn first cap) w := fun _ _ _ _ => rfl
 rw [← hOUT, ← hM]
 clear hb hN h ht hx hOUT hM hkn
 go_enter Tryz.func51, Tryz.ntmps51
 go_wp2_with fail
 obtain ⟨w2, hw2⟩ : ∃ w2, w2 = (w.alloc (.cells #[.pointer (some ⟨R, 0, none⟩)] 86)).alloc (.cells #[.int .i64 4, .string ⟨#[]⟩, .slice ko kn kcap] 43) := ⟨_, rfl⟩
 have hw2' : w2 = (w.alloc (.cells #[.pointer (some ⟨R, 0, none⟩)] 86)).alloc (.cells #[.int .i64 ((4 : Nat) : Int), .string ⟨([] : Bytes).toArray⟩, .slice ko kn kcap] 43) := hw2
 rw [← hw2'] at HB HN
 rw [← hw2]
 clear hw2 hw2' c0 c1 c2 c3
 obtain ⟨G, hG⟩ : ∃ G, G = w.heap.size := ⟨_, rfl⟩
 rw [← hG] at HN ⊢
 obtain ⟨g0, g1, g2, g3⟩ := HN.out.cells
 have HGE := Lib.hid hG
 clear hG
 refine (bld_byte R _ bv out o m 45 _ HN.out.ws (by omega)).mono ?_
 rintro y w3 ⟨rfl, bv3, a1, a2, a3⟩
 have HN3 := Lib.hid (HN.out.step a1 a2 a3)
 clear a1 a2 a3 g0 g1 g2 g3
 obtain ⟨g0, g1, g2, g3⟩ := HN3.out.cells
 go_wp2_with fail
 refine (part_of 4 0 a IH l R p _ _ _ _ _ _ HN3.out.ws HN3.out.nl HSA.out (by simp only [List.length_append, List.length_cons, List.length_nil]; omega) (by omega) (by omega) _ _ _ HN3.out.kl (by rw [HK.out]; rfl)).mono ?_
 rintro y w4 ⟨rfl, bv4, a1, a2, a3⟩
 have HN4 := Lib.hid (HN3.out.step a1 a2 a3)
 clear a1 a2 a3 g0 g1 g2 g3
 obtain ⟨g0, g1, g2, g3⟩ := HN4.out.cells
 go_wp2_with fail
 first | go_end0 | refine bodyPost_ret (results_none rfl _ _ _) rfl ?_
 have hf := HN4.out.fin HB.out
 rw [show out ++ [45] ++ SynP.par (SynP.loose 4 0 a.op) a.pr = OUT by rw [HOUT.out, List.append_assoc], show max m (o + SynP.parD (SynP.loose 4 0 a.op) a.dp) = M by exact HM.out.symm] at hf
 exact hf
set_option maxRecDepth 100000 in
set_option maxHeartbeats 4000000 in
theorem node_turn (a : SynP.Ex) (IH : NodeOk a) : NodeOk (.turn a) := by
 intro l R p tv bv out o m w h ht hs hl ho hp
 have hsz : (SynP.Ex.turn a).size = a.size + 1 := rfl
 obtain ⟨hsa, hst⟩ := SynP.SegN.app (a := a.flat p) (b := [⟨5, [], [p + a.size - 1]⟩]) hs
 have hx : l[p + a.size]? = some ⟨((5 : Nat) : Int), [], [((p + a.size - 1 : Nat) : Int)]⟩ := by
  have := hst.one
  rw [SynP.flatLen] at this
  exact this
 have hap := SynP.size_pos' a
 have HSA := Lib.hid hsa
 have hpl : (SynP.Ex.turn a).pr = SynP.par (SynP.loose 5 0 a.op) a.pr ++ [39] := rfl
 rw [hpl] at hl
 simp only [List.length_append, List.length_cons, List.length_nil] at hl
 have hdl : (SynP.Ex.turn a).dp = SynP.parD (SynP.loose 5 0 a.op) a.dp := rfl
 rw [show p + (SynP.Ex.turn a).size - 1 = p + a.size by rw [hsz]; omega, hpl, hdl]
 rw [hsz] at ho hp
 obtain ⟨K, hK⟩ : ∃ K, K = p + a.size := ⟨_, rfl⟩
 rw [← hK] at hx ⊢
 have HK := Lib.hid hK
 clear hK hs hst hsa hpl hdl hsz
 obtain ⟨tg, ln, tcap, ko, kn, kcap, rfl, hKl, hkn, hkc, c0, c1, c2, c3, hb, hN⟩ := nst_start h ht hx
 have HKN := Lib.hid hkn
 have HB := Lib.hid hb
 have HN := Lib.hid hN
 obtain ⟨OUT, hOUT⟩ : ∃ OUT, OUT = out ++ (SynP.par (SynP.loose 5 0 a.op) a.pr ++ [39]) := ⟨_, rfl⟩
 have HOUT := Lib.hid hOUT
 obtain ⟨M, hM⟩ : ∃ M, M = max m (o + SynP.parD (SynP.loose 5 0 a.op) a.dp) := ⟨_, rfl⟩
 have HM := Lib.hid hM
 have hle := h.le
 have hmf : ∀ (fn : Fn) (first cap : Array Value) (w : World), (Instr.makeFunc fn first cap).run Tryz.prog w = .ok (.func fn first cap) w := fun _ _ _ _ => rfl
 rw [← hOUT, ← hM]
 clear hb hN h ht hx hOUT hM hkn
 go_enter Tryz.func51, Tryz.ntmps51
 go_wp2_with fail
 obtain ⟨w2, hw2⟩ : ∃ w2, w2 = (w.alloc (.cells #[.pointer (some ⟨R, 0, none⟩)] 86)).alloc (.cells #[.int .i64 5, .string ⟨#[]⟩, .slice ko kn kcap] 43) := ⟨_, rfl⟩
 have hw2' : w2 = (w.alloc (.cells #[.pointer (some ⟨R, 0, none⟩)] 86)).alloc (.cells #[.int .i64 ((5 : Nat) : Int), .string ⟨([] : Bytes).toArray⟩, .slice ko kn kcap] 43) := hw2
 rw [← hw2'] at HB HN
 rw [← hw2]
 clear hw2 hw2' c0 c1 c2 c3
 obtain ⟨G, hG⟩ : ∃ G, G = w.heap.size := ⟨_, rfl⟩
 rw [← hG] at HN ⊢
 obtain ⟨g0, g1, g2, g3⟩ := HN.out.cells
 have HGE := Lib.hid hG
 clear hG
 refine (part_of 5 0 a IH l R p _ _ _ _ _ _ HN.out.ws HN.out.nl HSA.out (by omega) (by omega) (by omega) _ _ _ HN.out.kl (by rw [HK.out]; rfl)).mono ?_
 rintro y w3 ⟨rfl, bv3, a1, a2, a3⟩
 have HN3 := Lib.hid (HN.out.step a1 a2 a3)
 clear a1 a2 a3 g0 g1 g2 g3
 obtain ⟨g0, g1, g2, g3⟩ := HN3.out.cells
 go_wp2_with fail
 refine (bld_byte R _ _ _ _ _ 39 _ HN3.out.ws (by simp only [List.length_append, List.length_cons, List.length_nil]; omega)).mono ?_
 rintro y w4 ⟨rfl, bv4, a1, a2, a3⟩
 have HN4 := Lib.hid (HN3.out.step a1 a2 a3)
 clear a1 a2 a3 g0 g1 g2 g3
 obtain ⟨g0, g1, g2, g3⟩ := HN4.out.cells
 go_wp2_with fail
 first | go_end0 | refine bodyPost_ret (results_none rfl _ _ _) rfl ?_
 have hf := HN4.out.fin HB.out
 rw [show out ++ SynP.par (SynP.loose 5 0 a.op) a.pr ++ [39] = OUT by rw [HOUT.out, List.append_assoc], show max m (o + SynP.parD (SynP.loose 5 0 a.op) a.dp) = M by exact HM.out.symm] at hf
 exact hf
set_option maxRecDepth 100000 in
set_option maxHeartbeats 4000000 in
theorem node_pow (a : SynP.Ex) (n : Nat) (IH : NodeOk a) : NodeOk (.pow a n) := by
 intro l R p tv bv out o m w h ht hs hl ho hp
 have hsz : (SynP.Ex.pow a n).size = a.size + 1 := rfl
 obtain ⟨hsa, hst⟩ := SynP.SegN.app (a := a.flat p) (b := [⟨9, SynP.decT n, [p + a.size - 1]⟩]) hs
 have hx : l[p + a.size]? = some ⟨((9 : Nat) : Int), SynP.decT n, [((p + a.size - 1 : Nat) : Int)]⟩ := by
  have := hst.one
  rw [SynP.flatLen] at this
  exact this
 have hap := SynP.size_pos' a
 have HSA := Lib.hid hsa
 have hpl : (SynP.Ex.pow a n).pr = SynP.par (SynP.loose 9 0 a.op) a.pr ++ ([94] ++ SynP.decT n) := rfl
 rw [hpl] at hl
 simp only [List.length_append, List.length_cons, List.length_nil] at hl
 have hdl : (SynP.Ex.pow a n).dp = SynP.parD (SynP.loose 9 0 a.op) a.dp := rfl
 rw [show p + (SynP.Ex.pow a n).size - 1 = p + a.size by rw [hsz]; omega, hpl, hdl]
 rw [hsz] at ho hp
 obtain ⟨K, hK⟩ : ∃ K, K = p + a.size := ⟨_, rfl⟩
 rw [← hK] at hx ⊢
 have HK := Lib.hid hK
 clear hK hs hst hsa hpl hdl hsz
 obtain ⟨tg, ln, tcap, ko, kn, kcap, rfl, hKl, hkn, hkc, c0, c1, c2, c3, hb, hN⟩ := nst_start h ht hx
 have HKN := Lib.hid hkn
 have HB := Lib.hid hb
 have HN := Lib.hid hN
 obtain ⟨OUT, hOUT⟩ : ∃ OUT, OUT = out ++ (SynP.par (SynP.loose 9 0 a.op) a.pr ++ ([94] ++ SynP.decT n)) := ⟨_, rfl⟩
 have HOUT := Lib.hid hOUT
 obtain ⟨M, hM⟩ : ∃ M, M = max m (o + SynP.parD (SynP.loose 9 0 a.op) a.dp) := ⟨_, rfl⟩
 have HM := Lib.hid hM
 have hle := h.le
 have hmf : ∀ (fn : Fn) (first cap : Array Value) (w : World), (Instr.makeFunc fn first cap).run Tryz.prog w = .ok (.func fn first cap) w := fun _ _ _ _ => rfl
 rw [← hOUT, ← hM]
 clear hb hN h ht hx hOUT hM hkn
 go_enter Tryz.func51, Tryz.ntmps51
 go_wp2_with fail
 obtain ⟨w2, hw2⟩ : ∃ w2, w2 = (w.alloc (.cells #[.pointer (some ⟨R, 0, none⟩)] 86)).alloc (.cells #[.int .i64 9, .string ⟨(SynP.decT n).toArray⟩, .slice ko kn kcap] 43) := ⟨_, rfl⟩
 have hw2' : w2 = (w.alloc (.cells #[.pointer (some ⟨R, 0, none⟩)] 86)).alloc (.cells #[.int .i64 ((9 : Nat) : Int), .string ⟨(SynP.decT n : Bytes).toArray⟩, .slice ko kn kcap] 43) := hw2
 rw [← hw2'] at HB HN
 rw [← hw2]
 clear hw2 hw2' c0 c1 c2 c3
 obtain ⟨G, hG⟩ : ∃ G, G = w.heap.size := ⟨_, rfl⟩
 rw [← hG] at HN ⊢
 obtain ⟨g0, g1, g2, g3⟩ := HN.out.cells
 have HGE := Lib.hid hG
 clear hG
 have hdt : ¬ 9223372036854775807 < 1 + (SynP.decT n).length := by omega
 refine (part_of 9 0 a IH l R p _ _ _ _ _ _ HN.out.ws HN.out.nl HSA.out (by omega) (by omega) (by omega) _ _ _ HN.out.kl (by rw [HK.out]; rfl)).mono ?_
 rintro y w3 ⟨rfl, bv3, a1, a2, a3⟩
 have HN3 := Lib.hid (HN.out.step a1 a2 a3)
 clear a1 a2 a3 g0 g1 g2 g3
 obtain ⟨g0, g1, g2, g3⟩ := HN3.out.cells
 go_wp2_with fail
 go_region_held3 (fun w' => w'.cell? ⟨G, 0, none⟩ = some (.pointer (some ⟨R, 0, none⟩)) ∧ w'.cell? ⟨G + 1, 1, none⟩ = some (.string ⟨(SynP.decT n : Bytes).toArray⟩))
  (first
   | go_keep
   | exact ⟨((HN3.out.below (below_drewN _ _)).step a1 a2 a3).cells.1, ((HN3.out.below (below_drewN _ _)).step a1 a2 a3).cells.2.2.1⟩)
  ((go_at_call 105; refine (bld_str R _ _ _ _ _ ([94] ++ SynP.decT n) _ (HN3.out.ws.below (below_drewN _ _)) (by simp only [List.length_append, List.length_cons, List.length_nil]; omega) (by simp only [List.length_append, List.length_cons, List.length_nil]; omega)).mono ?_; rintro y w4 ⟨rfl, bv4, a1, a2, a3⟩))
 have HN4 := Lib.hid ((HN3.out.below (below_drewN _ _)).step a1 a2 a3)
 clear a1 a2 a3 g0 g1 g2 g3
 obtain ⟨g0, g1, g2, g3⟩ := HN4.out.cells
 go_wp2_with fail
 first | go_end0 | refine bodyPost_ret (results_none rfl _ _ _) rfl ?_
 have hf := HN4.out.fin HB.out
 rw [show out ++ SynP.par (SynP.loose 9 0 a.op) a.pr ++ ([94] ++ SynP.decT n) = OUT by rw [HOUT.out, List.append_assoc], show max m (o + SynP.parD (SynP.loose 9 0 a.op) a.dp) = M by exact HM.out.symm] at hf
 exact hf
def LnOk (n : SynP.Ln) : Prop := ∀ (l : List SynP.NI) (R : Nat) (tv bv : Value) (out : Bytes) (o m : Nat) (w : World), WrS w R tv bv out o m → NdL w R tv l → SynP.SegN l 0 n.flat → out.length + n.pr.length ≤ 274877906944 → o + 2 * n.size ≤ 100000 →
 Calls Tryz.prog 51 #[.pointer (some ⟨R, 0, none⟩), .int .i64 ((n.size - 1 : Nat) : Int)] w (WrP R tv bv (out ++ n.pr) o (max m (o + n.dp)) (.tuple #[]) w)
set_option maxRecDepth 100000 in
set_option maxHeartbeats 4000000 in
theorem ln_cmd_cons (x : Bytes) (a : SynP.Ex) (kt : SynP.Exs) (IH : ∀ e ∈ SynP.exL (.cons a kt), NodeOk e) : LnOk (.cmd x (.cons a kt)) := by
 intro l R tv bv out o m w h ht hs hl ho
 obtain ⟨ks, hks⟩ : ∃ ks, ks = SynP.Exs.cons a kt := ⟨_, rfl⟩
 have hsz : (SynP.Ln.cmd x (.cons a kt)).size = ks.size + 1 := by rw [hks]; rfl
 obtain ⟨hsa, hst⟩ := SynP.SegN.app (a := (SynP.Exs.cons a kt).flat 0) (b := [⟨12, x, (SynP.Exs.cons a kt).roots 0⟩]) hs
 rw [← hks] at hsa hst IH
 have hx : l[0 + ks.size]? = some ⟨((12 : Nat) : Int), x, intsOf (ks.roots 0)⟩ := by
  have := hst.one
  rw [SynP.flatsLen] at this
  exact this
 have HSA := Lib.hid hsa
 have hpl : (SynP.Ln.cmd x (.cons a kt)).pr = (x ++ [32]) ++ ks.pr := by rw [hks]; show x ++ [32] ++ _ = _; rfl
 rw [hpl] at hl
 simp only [List.length_append, List.length_cons, List.length_nil] at hl
 have hdl : (SynP.Ln.cmd x (.cons a kt)).dp = ks.dp := by rw [hks]; rfl
 rw [show (SynP.Ln.cmd x (.cons a kt)).size - 1 = 0 + ks.size by rw [hsz]; omega, hpl, hdl]
 rw [hsz] at ho
 have hrl : (intsOf (ks.roots 0)).length = (SynP.exL ks).length := by rw [intsOf, List.length_map, SynP.exL_roots]
 have hkl : 0 < (SynP.exL ks).length := by rw [hks]; exact Nat.succ_pos _
 have hprl : ks.pr.length ≤ ks.pr.length := by exact Nat.le_refl _
 obtain ⟨K, hK⟩ : ∃ K, K = 0 + ks.size := ⟨_, rfl⟩
 rw [← hK] at hx ⊢
 have HK := Lib.hid hK
 have HKS := Lib.hid hks
 clear hK hs hst hsa hpl hdl hsz hks
 obtain ⟨tg, ln, tcap, ko, kn, kcap, rfl, hKl, hkn, hkc, c0, c1, c2, c3, hb, hN⟩ := nst_start h ht hx
 have HKN := Lib.hid hkn
 have HB := Lib.hid hb
 have HN := Lib.hid hN
 obtain ⟨OUT, hOUT⟩ : ∃ OUT, OUT = out ++ ((x ++ [32]) ++ ks.pr) := ⟨_, rfl⟩
 have HOUT := Lib.hid hOUT
 obtain ⟨M, hM⟩ : ∃ M, M = max m (o + ks.dp) := ⟨_, rfl⟩
 have HM := Lib.hid hM
 have hle := h.le
 have hmf : ∀ (fn : Fn) (first cap : Array Value) (w : World), (Instr.makeFunc fn first cap).run Tryz.prog w = .ok (.func fn first cap) w := fun _ _ _ _ => rfl
 rw [← hOUT, ← hM]
 clear hb hN h ht hx hOUT hM hkn
 go_enter Tryz.func51, Tryz.ntmps51
 go_wp2_with fail
 obtain ⟨w2, hw2⟩ : ∃ w2, w2 = (w.alloc (.cells #[.pointer (some ⟨R, 0, none⟩)] 86)).alloc (.cells #[.int .i64 12, .string ⟨x.toArray⟩, .slice ko kn kcap] 43) := ⟨_, rfl⟩
 have hw2' : w2 = (w.alloc (.cells #[.pointer (some ⟨R, 0, none⟩)] 86)).alloc (.cells #[.int .i64 ((12 : Nat) : Int), .string ⟨(x : Bytes).toArray⟩, .slice ko kn kcap] 43) := hw2
 rw [← hw2'] at HB HN
 rw [← hw2]
 clear hw2 hw2' c0 c1 c2 c3
 obtain ⟨G, hG⟩ : ∃ G, G = w.heap.size := ⟨_, rfl⟩
 rw [← hG] at HN ⊢
 obtain ⟨g0, g1, g2, g3⟩ := HN.out.cells
 have HGE := Lib.hid hG
 clear hG
 have hkn2 : kn = (SynP.exL ks).length := by rw [HKN.out, hrl]
 have hk0 : 0 < kn := by omega
 clear hkn2 hrl hkl
 go_region_held3 (fun w' => w'.cell? ⟨G, 0, none⟩ = some (.pointer (some ⟨R, 0, none⟩)) ∧ w'.cell? ⟨G + 1, 1, none⟩ = some (.string ⟨(x : Bytes).toArray⟩))
  (first
   | go_keep
   | exact ⟨((HN.out.below (below_drewN _ _)).step a1 a2 a3).cells.1, ((HN.out.below (below_drewN _ _)).step a1 a2 a3).cells.2.2.1⟩)
  ((go_at_call 105; refine (bld_str R _ _ _ _ _ (x) _ (HN.out.ws.below (below_drewN _ _)) (by omega) (by omega)).mono ?_; rintro y w3 ⟨rfl, bv3, a1, a2, a3⟩))
 have HN3 := Lib.hid ((HN.out.below (below_drewN _ _)).step a1 a2 a3)
 clear a1 a2 a3 g0 g1 g2 g3
 obtain ⟨g0, g1, g2, g3⟩ := HN3.out.cells
 go_wp2_with fail
 refine (bld_byte R _ _ _ _ _ 32 _ HN3.out.ws (by simp only [List.length_append, List.length_cons, List.length_nil]; omega)).mono ?_
 rintro y w6 ⟨rfl, bv6, a1, a2, a3⟩
 have HN6 := Lib.hid (HN3.out.step a1 a2 a3)
 clear a1 a2 a3 g0 g1 g2 g3
 obtain ⟨g0, g1, g2, g3⟩ := HN6.out.cells
 have HC := Lib.hid (all_of ks IH l R 0 _ _ _ _ _ _ HN6.out.ws HN6.out.nl HSA.out (by simp only [List.length_append, List.length_cons, List.length_nil]; omega) (by omega) (by omega) 12 (.inr rfl) ⟨x.toArray⟩ _ HN6.out.kl)
 go_wp2_with fail
 refine (HC.out).mono ?_
 rintro y w4 ⟨rfl, bv4, a1, a2, a3⟩
 have HN4 := Lib.hid (HN6.out.step a1 a2 a3)
 clear a1 a2 a3 g0 g1 g2 g3
 obtain ⟨g0, g1, g2, g3⟩ := HN4.out.cells
 go_wp2_with fail
 first | go_end0 | refine bodyPost_ret (results_none rfl _ _ _) rfl ?_
 have hf := HN4.out.fin HB.out
 rw [show out ++ x ++ [32] ++ ks.pr = OUT by rw [HOUT.out]; simp only [List.append_assoc], show max m (o + ks.dp) = M by exact HM.out.symm] at hf
 exact hf
end Go.Proofs.YtgfmiladfeoldaaGreatDoor
namespace Go.Proofs.YtgfmiladfeoldaaGreatDoor
open Go.RowKit NatP LexP Go.Maps
end Go.Proofs.YtgfmiladfeoldaaGreatDoor
namespace Go.Proofs.YtgfmiladfeoldaaGreatDoor
open Go.RowKit NatP LexP
theorem Tryz.cellsByte : Tryz.prog.cellsOf 5 = 1 := by kernel_rfl
set_option maxRecDepth 100000 in
set_option maxHeartbeats 2000000 in
theorem bld_string (R : Nat) (tv bv : Value) (out : Bytes) (o m : Nat) (w : World) (h : WrS w R tv bv out o m) :
  Calls Tryz.prog 52 #[.pointer (some ⟨R, 1, none⟩)] w fun e w' => e = .returned (.string ⟨out.toArray⟩) ∧ Below R w w' := by
 obtain ⟨av, -, hbk⟩ := h.blk
 have hown := h.own
 have hRl := h.lt
 by_cases h0 : out = []
 ·subst h0
  have hUS : ∀ (W : World) (q : Option Addr), (Builtin.unsafeString_ #[145, 3] 9 #[.pointer q, .int .i64 0]).run Tryz.prog W = .ok (.string .empty) W := fun W q => Lib.run_unsafeString_none W _ _ _ q
  rcases hown.2 with ⟨rfl, -⟩ | ⟨g, cap, cur, rfl, hbg, hg, hnc, hcm, hcs, htake⟩
  ·have c1 : w.drew.cell? ⟨R, 2, none⟩ = some (.slice none 0 0) := by
    have : w.drew.heap[R]? = some (.cells #[tv, av, .slice none 0 0, .int .i64 (o : Nat), .int .i64 (m : Nat)] 92 (0, 0)) := hbk
    rw [cell_of_row _ _ _ _ _ _ this]; rfl
   have hSD : (Builtin.unsafeSliceData_ #[88] 145 #[.slice none 0 0]).run Tryz.prog w.drew = .ok (.pointer none) w.drew := rfl
   clear h hbk hown
   go_enter Tryz.func52, Tryz.ntmps52
   go_wp2_with fail
   go_region
   all_goals (go_wp2_with fail; go_ret; exact ⟨rfl, Below.drew (Below.refl _ _)⟩)
  ·have e0 : ([] : Bytes).length = 0 := rfl
   rw [e0] at hbk hnc
   by_cases hc0 : cap = 0
   ·subst hc0
    have c1 : w.drew.cell? ⟨R, 2, none⟩ = some (.slice (some ⟨g, 0, none⟩) 0 0) := by
     have : w.drew.heap[R]? = some (.cells #[tv, av, .slice (some ⟨g, 0, none⟩) 0 0, .int .i64 (o : Nat), .int .i64 (m : Nat)] 92 (0, 0)) := hbk
     rw [cell_of_row _ _ _ _ _ _ this]; rfl
    have hSD : (Builtin.unsafeSliceData_ #[88] 145 #[.slice (some ⟨g, 0, none⟩) 0 0]).run Tryz.prog w.drew = .ok (.pointer (some ⟨w.drew.heap.size, 0, none⟩)) (w.drew.alloc (.view ⟨g, 0, none⟩ 5)) :=
     Lib.run_unsafeSliceData_zero w.drew _ _ 5 Tryz.underlying145 ⟨g, 0, none⟩ 0 (5, cur.size) (by have hg' : w.drew.heap[g]? = some (.cells cur 5 (0, 0)) := hg; simp [World.shape?, hg'])
    have c2 : (w.drew.alloc (.view ⟨g, 0, none⟩ 5)).cell? ⟨R, 2, none⟩ = some (.slice (some ⟨g, 0, none⟩) 0 0) := by
     have : (w.drew.alloc (.view ⟨g, 0, none⟩ 5)).heap[R]? = _ := (Lib.alloc_old w.drew _ R hRl).trans hbk
     rw [cell_of_row _ _ _ _ _ _ this]; rfl
    have c3 : (w.alloc (.view ⟨g, 0, none⟩ 5)).drew.cell? ⟨R, 2, none⟩ = some (.slice (some ⟨g, 0, none⟩) 0 0) := c2
    have c0 : w.cell? ⟨R, 2, none⟩ = some (.slice (some ⟨g, 0, none⟩) 0 0) := c1
    clear h hbk hown hg
    go_enter Tryz.func52, Tryz.ntmps52
    go_wp2_with fail
    go_region
    all_goals (go_wp2_with fail; go_ret; exact ⟨rfl, (Below.drew (Below.refl _ w)).alloc (Nat.le_of_lt hRl) _⟩)
   ·have c1 : w.drew.cell? ⟨R, 2, none⟩ = some (.slice (some ⟨g, 0, none⟩) 0 cap) := by
     have : w.drew.heap[R]? = some (.cells #[tv, av, .slice (some ⟨g, 0, none⟩) 0 cap, .int .i64 (o : Nat), .int .i64 (m : Nat)] 92 (0, 0)) := hbk
     rw [cell_of_row _ _ _ _ _ _ this]; rfl
    have hSD : (Builtin.unsafeSliceData_ #[88] 145 #[.slice (some ⟨g, 0, none⟩) 0 cap]).run Tryz.prog w.drew = .ok (.pointer (some ⟨g, 0, none⟩)) w.drew :=
     Lib.run_unsafeSliceData_row _ _ _ _ _ _ hc0
    clear h hbk hown hc0
    go_enter Tryz.func52, Tryz.ntmps52
    go_wp2_with fail
    go_region
    all_goals (go_wp2_with fail; go_ret; exact ⟨rfl, Below.drew (Below.refl _ _)⟩)
 ·have hl0 : out.length ≠ 0 := by simpa using h0
  obtain ⟨g, cap, cur, rfl, hbg, hg, hnc, hcm, hcs, htake⟩ : ∃ g cap cur, bv = .slice (some ⟨g, 0, none⟩) out.length cap ∧ R + 1 ≤ g ∧ w.heap[g]? = some (.cells cur 5 (0, 0)) ∧ out.length ≤ cap ∧ cap ≤ maxLen ∧ cur.size = cap * 1 ∧ cur.toList.take (out.length * 1) = u8s out := by
   rcases hown.2 with ⟨_, hz⟩ | ⟨g, cap, cur, hv, r⟩
   ·exact absurd hz hl0
   ·exact ⟨g, cap, cur, hv, r⟩
  have c1 : w.drew.cell? ⟨R, 2, none⟩ = some (.slice (some ⟨g, 0, none⟩) out.length cap) := by
   have : w.drew.heap[R]? = some (.cells #[tv, av, .slice (some ⟨g, 0, none⟩) out.length cap, .int .i64 (o : Nat), .int .i64 (m : Nat)] 92 (0, 0)) := hbk
   rw [cell_of_row _ _ _ _ _ _ this]; rfl
  have hSD : (Builtin.unsafeSliceData_ #[88] 145 #[.slice (some ⟨g, 0, none⟩) out.length cap]).run Tryz.prog w.drew = .ok (.pointer (some ⟨g, 0, none⟩)) w.drew :=
   Lib.run_unsafeSliceData_row _ _ _ _ _ _ (by omega)
  have hUS : (Builtin.unsafeString_ #[145, 3] 9 #[.pointer (some ⟨g, 0, none⟩), .int .i64 out.length]).run Tryz.prog w.drew = .ok (.string ⟨out.toArray⟩) (w.drew.freeze ⟨g, 0, none⟩ out.length) := by
   refine Lib.run_unsafeString_row w.drew 145 3 9 5 Tryz.underlying145 Tryz.cellsByte g cur.size (by have hg' : w.drew.heap[g]? = some (.cells cur 5 (0, 0)) := hg; simp [World.shape?, hg']) out h0 (by omega) (by unfold maxLen at hcm; omega) ?_
   intro j x hx
   have := hown.cells (g := g) rfl j (.int .u8 x.toNat) (by simp [u8s, hx])
   exact this
  obtain ⟨n, hn⟩ : ∃ n, n = out.length := ⟨_, rfl⟩
  rw [← hn] at c1 hSD hUS hnc
  clear h hbk hown hn hl0 htake
  go_enter Tryz.func52, Tryz.ntmps52
  go_wp2_with fail
  go_region
  all_goals (go_wp2_with fail; go_ret; exact ⟨rfl, Lib.below_freeze (Below.drew (Below.refl _ w)) (p := ⟨g, 0, none⟩) (by show R ≤ g; omega) _⟩)
end Go.Proofs.YtgfmiladfeoldaaGreatDoor
