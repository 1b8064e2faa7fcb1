/- Joined texts of this claim's proof: WrB, WrC. -/
import Derived.Test.YtgfmiladfeoldaaGreatDoorPl40
import Derived.Deep.RegionHeld3
set_option linter.unusedSimpArgs false
set_option linter.unusedVariables false
namespace Go.Proofs.YtgfmiladfeoldaaGreatDoor
open Go.RowKit NatP LexP
set_option maxRecDepth 100000 in
set_option maxHeartbeats 2000000 in
theorem brack_part (R : Nat) (tv bv : Value) (out : Bytes) (o m : Nat) (w : World) (h : WrS w R tv bv out o m) (hl : out.length ≤ 549755813888) (ho : o ≤ 100000) (a b : Value) (X : Bytes) (hX : X.length ≤ 274877906944) (d : Nat) (hd : d ≤ 100000)
  (HF : ∀ bv2 w2, WrS w2 R tv bv2 (out ++ [40]) (o + 1) (max m (o + 1)) → Wr R bv.ownBlock w w2 → Mv w bv.ownBlock bv2.ownBlock → Calls Tryz.prog 164 #[a, b] w2 (WrP R tv bv2 (out ++ [40] ++ X) (o + 1) (max (max m (o + 1)) (o + 1 + d)) (.tuple #[]) w2)) :
  Calls Tryz.prog 106 #[.pointer (some ⟨R, 0, none⟩), .func (.func 164) #[] #[a, b]] w (WrP R tv bv (out ++ ([40] ++ X ++ [41])) o (max m (o + (d + 1))) (.tuple #[]) w) := by
 have HS := Lib.hid h
 have HFF := Lib.hid HF
 obtain ⟨OUT, hOUT⟩ : ∃ OUT, OUT = out ++ ([40] ++ X ++ [41]) := ⟨_, rfl⟩
 obtain ⟨M, hM⟩ : ∃ M, M = max m (o + (d + 1)) := ⟨_, rfl⟩
 rw [← hOUT, ← hM]
 have HOUT := Lib.hid hOUT
 have HM := Lib.hid hM
 clear hOUT hM
 obtain ⟨-, c3, c4⟩ := h.cells
 have f3 := h.fro 3
 obtain ⟨o1, ho1⟩ : ∃ o1, o1 = o + 1 := ⟨_, rfl⟩
 have hw : ((o : Nat) : Int) + 1 = ((o1 : Nat) : Int) := by omega
 have hb1 : ∃ av, (av = .pointer none ∨ av = .pointer (some ⟨R, 1, none⟩)) ∧ (w.setCell ⟨R, 3, none⟩ (.int .i64 (o1 : Nat))).heap[R]? = some (.cells #[tv, av, bv, .int .i64 (o1 : Nat), .int .i64 (m : Nat)] 92 (0, 0)) := by
  obtain ⟨av, ha, hb⟩ := h.blk
  exact ⟨av, ha, (heap_setCell_same w R 3 _ 92 (.int .i64 (o1 : Nat)) hb).trans (by simp)⟩
 have HB1 := Lib.hid hb1
 obtain ⟨w1, hw1⟩ : ∃ w1, w1 = w.setCell ⟨R, 3, none⟩ (.int .i64 (o1 : Nat)) := ⟨_, rfl⟩
 rw [← hw1] at HB1
 have HW1 : Hid (Wr R none w w1) := by show Wr R none w w1; rw [hw1]; exact Wr.of_set w 3 _
 have HO1 : Hid (w1.ownsRow (R + 1) 5 1 bv out.length (u8s out)) := by show _; rw [hw1]; exact ownsRow_setCell_below h.own (by simp) _
 have d3 : w1.cell? ⟨R, 3, none⟩ = some (.int .i64 (o1 : Nat)) := by
  obtain ⟨av, -, hb⟩ := HB1.out
  rw [cell_of_row w1 R _ _ _ _ hb]; rfl
 have d4 : w1.cell? ⟨R, 4, none⟩ = some (.int .i64 (m : Nat)) := by
  obtain ⟨av, -, hb⟩ := HB1.out
  rw [cell_of_row w1 R _ _ _ _ hb]; rfl
 have e4 : w1.frozen? ⟨R, 4, none⟩ = false := by
  obtain ⟨av, -, hb⟩ := HB1.out
  exact frozen_of_row w1 R 4 _ _ hb
 obtain ⟨m1, hm1⟩ : ∃ m1, m1 = max m o1 := ⟨_, rfl⟩
 have hmx : max ((m : Nat) : Int) ((o1 : Nat) : Int) = ((m1 : Nat) : Int) := by omega
 have HW1E := Lib.hid hw1
 have HLE := Lib.hid h.le
 have HSM := Lib.hid (WrS.setM (m' := m1) HB1.out HO1.out (by omega))
 have HOE := Lib.hid ho1
 have HME := Lib.hid hm1
 have hf : ∀ args w, (callFunc 164 args).run Tryz.prog w = .ok (.enter 164 args) w := enters_of Tryz.func164 (by kernel_rfl) rfl
 clear h HF hb1 ho1 hm1
 go_enter Tryz.func106, Tryz.ntmps106
 go_wp2_with fail
 rw [← hw1]
 clear hw1
 go_region
 go_wp2_with fail
 obtain ⟨w2, hw2⟩ : ∃ w2, w2 = (w1.setCell ⟨R, 4, none⟩ (.int .i64 (m1 : Nat))).drew := ⟨_, rfl⟩
 rw [← hw2]
 have hd2 : Below (w1.setCell ⟨R, 4, none⟩ (.int .i64 (m1 : Nat))).heap.size (w1.setCell ⟨R, 4, none⟩ (.int .i64 (m1 : Nat))) w2 := by rw [hw2]; exact Below.drew (Below.refl _ _)
 have HB2 := Lib.hid (HSM.out.1.below hd2)
 have HW2 : Hid (Wr R none w w2) := (HW1.out.trans (Mv.refl _ _) HSM.out.2).trans (Mv.refl _ _) (Wr.of_below hd2)
 clear hw2 hd2 d3 d4 e4 c3 c4 f3
 refine (bld_byte R tv bv out o1 m1 40 _ HB2.out (by omega)).mono ?_
 rintro e w3 ⟨rfl, bv3, k1, k2, k3⟩
 rw [HME.out, HOE.out] at k1
 have K1 := Lib.hid k1
 have K2 : Hid (Wr R bv.ownBlock w w3) := (HW2.out.weak _).trans (Mv.refl _ _) k2
 have K3 : Hid (Mv w bv.ownBlock bv3.ownBlock) := Mv.trans (R := R) (w' := w2) (Mv.refl _ _) HW2.out.size k3
 clear k1 k2 k3
 go_wp2_with fail
 refine (HFF.out bv3 w3 K1.out K2.out K3.out).mono ?_
 rintro e w4 ⟨rfl, bv4, l1, l2, l3⟩
 have L1 := Lib.hid l1
 have L2 : Hid (Wr R bv.ownBlock w w4) := K2.out.trans K3.out l2
 have L3 : Hid (Mv w bv.ownBlock bv4.ownBlock) := Mv.trans (R := R) (w' := w3) K3.out K2.out.size l3
 clear l1 l2 l3
 go_wp2_with fail
 refine (bld_byte R tv bv4 _ _ _ 41 _ L1.out (by simp only [List.length_append, List.length_singleton]; omega)).mono ?_
 rintro e w5 ⟨rfl, bv5, q1, q2, q3⟩
 rw [← HOE.out] at q1
 have g3 := q1.cells.2.1
 have gf := q1.fro 3
 have hw5 : ((o1 : Nat) : Int) - 1 = ((o : Nat) : Int) := by have := HOE.out; omega
 have Q2 : Hid (Wr R bv.ownBlock w w5) := L2.out.trans L3.out q2
 have Q3 : Hid (Mv w bv.ownBlock bv5.ownBlock) := Mv.trans (R := R) (w' := w4) L3.out L2.out.size q3
 have Q1 := Lib.hid (q1.setO (o' := o) (by have := HOE.out; omega))
 have ho1b : o1 ≤ 100001 := by have := HOE.out; omega
 clear q1 q2 q3
 go_wp2_with fail
 first | go_end0 | refine bodyPost_ret (results_none rfl _ _ _) rfl ?_
 have e1 : out ++ [40] ++ X ++ [41] = OUT := by rw [HOUT.out]; simp
 have e2 : max (max m o1) (o1 + d) = M := by rw [HM.out, HOE.out]; omega
 have q5 := Q1.out.1
 rw [e1, e2] at q5
 exact ⟨rfl, bv5, q5, Q2.out.trans Q3.out (Q1.out.2.weak _), Mv.trans (R := R) (w' := w5) Q3.out Q2.out.size (Mv.refl _ _)⟩
set_option maxRecDepth 100000 in
set_option maxHeartbeats 2000000 in
theorem brack_node (R : Nat) (tv bv : Value) (out : Bytes) (o m : Nat) (w : World) (h : WrS w R tv bv out o m) (hl : out.length ≤ 549755813888) (ho : o ≤ 100000) (a b : Value) (X : Bytes) (hX : X.length ≤ 274877906944) (d : Nat) (hd : d ≤ 100000)
  (HF : ∀ bv2 w2, WrS w2 R tv bv2 (out ++ [40]) (o + 1) (max m (o + 1)) → Wr R bv.ownBlock w w2 → Mv w bv.ownBlock bv2.ownBlock → Calls Tryz.prog 107 #[a, b] w2 (WrP R tv bv2 (out ++ [40] ++ X) (o + 1) (max (max m (o + 1)) (o + 1 + d)) (.tuple #[]) w2)) :
  Calls Tryz.prog 106 #[.pointer (some ⟨R, 0, none⟩), .func (.func 107) #[] #[a, b]] w (WrP R tv bv (out ++ ([40] ++ X ++ [41])) o (max m (o + (d + 1))) (.tuple #[]) w) := by
 have HS := Lib.hid h
 have HFF := Lib.hid HF
 obtain ⟨OUT, hOUT⟩ : ∃ OUT, OUT = out ++ ([40] ++ X ++ [41]) := ⟨_, rfl⟩
 obtain ⟨M, hM⟩ : ∃ M, M = max m (o + (d + 1)) := ⟨_, rfl⟩
 rw [← hOUT, ← hM]
 have HOUT := Lib.hid hOUT
 have HM := Lib.hid hM
 clear hOUT hM
 obtain ⟨-, c3, c4⟩ := h.cells
 have f3 := h.fro 3
 obtain ⟨o1, ho1⟩ : ∃ o1, o1 = o + 1 := ⟨_, rfl⟩
 have hw : ((o : Nat) : Int) + 1 = ((o1 : Nat) : Int) := by omega
 have hb1 : ∃ av, (av = .pointer none ∨ av = .pointer (some ⟨R, 1, none⟩)) ∧ (w.setCell ⟨R, 3, none⟩ (.int .i64 (o1 : Nat))).heap[R]? = some (.cells #[tv, av, bv, .int .i64 (o1 : Nat), .int .i64 (m : Nat)] 92 (0, 0)) := by
  obtain ⟨av, ha, hb⟩ := h.blk
  exact ⟨av, ha, (heap_setCell_same w R 3 _ 92 (.int .i64 (o1 : Nat)) hb).trans (by simp)⟩
 have HB1 := Lib.hid hb1
 obtain ⟨w1, hw1⟩ : ∃ w1, w1 = w.setCell ⟨R, 3, none⟩ (.int .i64 (o1 : Nat)) := ⟨_, rfl⟩
 rw [← hw1] at HB1
 have HW1 : Hid (Wr R none w w1) := by show Wr R none w w1; rw [hw1]; exact Wr.of_set w 3 _
 have HO1 : Hid (w1.ownsRow (R + 1) 5 1 bv out.length (u8s out)) := by show _; rw [hw1]; exact ownsRow_setCell_below h.own (by simp) _
 have d3 : w1.cell? ⟨R, 3, none⟩ = some (.int .i64 (o1 : Nat)) := by
  obtain ⟨av, -, hb⟩ := HB1.out
  rw [cell_of_row w1 R _ _ _ _ hb]; rfl
 have d4 : w1.cell? ⟨R, 4, none⟩ = some (.int .i64 (m : Nat)) := by
  obtain ⟨av, -, hb⟩ := HB1.out
  rw [cell_of_row w1 R _ _ _ _ hb]; rfl
 have e4 : w1.frozen? ⟨R, 4, none⟩ = false := by
  obtain ⟨av, -, hb⟩ := HB1.out
  exact frozen_of_row w1 R 4 _ _ hb
 obtain ⟨m1, hm1⟩ : ∃ m1, m1 = max m o1 := ⟨_, rfl⟩
 have hmx : max ((m : Nat) : Int) ((o1 : Nat) : Int) = ((m1 : Nat) : Int) := by omega
 have HW1E := Lib.hid hw1
 have HLE := Lib.hid h.le
 have HSM := Lib.hid (WrS.setM (m' := m1) HB1.out HO1.out (by omega))
 have HOE := Lib.hid ho1
 have HME := Lib.hid hm1
 have hf : ∀ args w, (callFunc 107 args).run Tryz.prog w = .ok (.enter 107 args) w := enters_of Tryz.func107 (by kernel_rfl) rfl
 clear h HF hb1 ho1 hm1
 go_enter Tryz.func106, Tryz.ntmps106
 go_wp2_with fail
 rw [← hw1]
 clear hw1
 go_region
 go_wp2_with fail
 obtain ⟨w2, hw2⟩ : ∃ w2, w2 = (w1.setCell ⟨R, 4, none⟩ (.int .i64 (m1 : Nat))).drew := ⟨_, rfl⟩
 rw [← hw2]
 have hd2 : Below (w1.setCell ⟨R, 4, none⟩ (.int .i64 (m1 : Nat))).heap.size (w1.setCell ⟨R, 4, none⟩ (.int .i64 (m1 : Nat))) w2 := by rw [hw2]; exact Below.drew (Below.refl _ _)
 have HB2 := Lib.hid (HSM.out.1.below hd2)
 have HW2 : Hid (Wr R none w w2) := (HW1.out.trans (Mv.refl _ _) HSM.out.2).trans (Mv.refl _ _) (Wr.of_below hd2)
 clear hw2 hd2 d3 d4 e4 c3 c4 f3
 refine (bld_byte R tv bv out o1 m1 40 _ HB2.out (by omega)).mono ?_
 rintro e w3 ⟨rfl, bv3, k1, k2, k3⟩
 rw [HME.out, HOE.out] at k1
 have K1 := Lib.hid k1
 have K2 : Hid (Wr R bv.ownBlock w w3) := (HW2.out.weak _).trans (Mv.refl _ _) k2
 have K3 : Hid (Mv w bv.ownBlock bv3.ownBlock) := Mv.trans (R := R) (w' := w2) (Mv.refl _ _) HW2.out.size k3
 clear k1 k2 k3
 go_wp2_with fail
 refine (HFF.out bv3 w3 K1.out K2.out K3.out).mono ?_
 rintro e w4 ⟨rfl, bv4, l1, l2, l3⟩
 have L1 := Lib.hid l1
 have L2 : Hid (Wr R bv.ownBlock w w4) := K2.out.trans K3.out l2
 have L3 : Hid (Mv w bv.ownBlock bv4.ownBlock) := Mv.trans (R := R) (w' := w3) K3.out K2.out.size l3
 clear l1 l2 l3
 go_wp2_with fail
 refine (bld_byte R tv bv4 _ _ _ 41 _ L1.out (by simp only [List.length_append, List.length_singleton]; omega)).mono ?_
 rintro e w5 ⟨rfl, bv5, q1, q2, q3⟩
 rw [← HOE.out] at q1
 have g3 := q1.cells.2.1
 have gf := q1.fro 3
 have hw5 : ((o1 : Nat) : Int) - 1 = ((o : Nat) : Int) := by have := HOE.out; omega
 have Q2 : Hid (Wr R bv.ownBlock w w5) := L2.out.trans L3.out q2
 have Q3 : Hid (Mv w bv.ownBlock bv5.ownBlock) := Mv.trans (R := R) (w' := w4) L3.out L2.out.size q3
 have Q1 := Lib.hid (q1.setO (o' := o) (by have := HOE.out; omega))
 have ho1b : o1 ≤ 100001 := by have := HOE.out; omega
 clear q1 q2 q3
 go_wp2_with fail
 first | go_end0 | refine bodyPost_ret (results_none rfl _ _ _) rfl ?_
 have e1 : out ++ [40] ++ X ++ [41] = OUT := by rw [HOUT.out]; simp
 have e2 : max (max m o1) (o1 + d) = M := by rw [HM.out, HOE.out]; omega
 have q5 := Q1.out.1
 rw [e1, e2] at q5
 exact ⟨rfl, bv5, q5, Q2.out.trans Q3.out (Q1.out.2.weak _), Mv.trans (R := R) (w' := w5) Q3.out Q2.out.size (Mv.refl _ _)⟩
end Go.Proofs.YtgfmiladfeoldaaGreatDoor
namespace Go.Proofs.YtgfmiladfeoldaaGreatDoor
open Go.RowKit NatP LexP
def KL (w : World) (B : Nat) (v : Value) (ks : List Int) : Prop := ∃ ao cap, v = .slice ao ks.length cap ∧ ks.length ≤ cap ∧ cap ≤ maxLen ∧ (0 < ks.length → ∃ g, ao = some ⟨g, 0, none⟩ ∧ g < B ∧ ∀ j k, ks[j]? = some k → w.cell? ⟨g, j, none⟩ = some (.int .i64 k))
def NdL (w : World) (B : Nat) (v : Value) (l : List SynP.NI) : Prop := ∃ ao cap, v = .slice ao l.length cap ∧ l.length ≤ cap ∧ cap ≤ maxLen ∧ (0 < l.length → ∃ g, ao = some ⟨g, 0, none⟩ ∧ g < B ∧ ∀ j x, l[j]? = some x → w.cell? ⟨g, j * 3, none⟩ = some (.int .i64 x.op) ∧ w.cell? ⟨g, j * 3 + 1, none⟩ = some (.string ⟨x.text.toArray⟩) ∧ ∃ kv, w.cell? ⟨g, j * 3 + 2, none⟩ = some kv ∧ KL w B kv x.kids)
theorem KL.below {w w' : World} {B : Nat} {v : Value} {ks : List Int} (h : KL w B v ks) (hb : Below B w w') : KL w' B v ks := by
 obtain ⟨ao, cap, rfl, h1, h2, h3⟩ := h
 refine ⟨ao, cap, rfl, h1, h2, fun h0 => ?_⟩
 obtain ⟨g, rfl, h5, h6⟩ := h3 h0
 exact ⟨g, rfl, h5, fun j k hj => (hb.cell (p := ⟨g, j, none⟩) h5).trans (h6 j k hj)⟩
theorem NdL.below {w w' : World} {B : Nat} {v : Value} {l : List SynP.NI} (h : NdL w B v l) (hb : Below B w w') : NdL w' B v l := by
 obtain ⟨ao, cap, rfl, h1, h2, h3⟩ := h
 refine ⟨ao, cap, rfl, h1, h2, fun h0 => ?_⟩
 obtain ⟨g, rfl, h5, h6⟩ := h3 h0
 refine ⟨g, rfl, h5, fun j x hj => ?_⟩
 obtain ⟨a, b, kv, c, d⟩ := h6 j x hj
 exact ⟨(hb.cell (p := ⟨g, j * 3, none⟩) h5).trans a, (hb.cell (p := ⟨g, j * 3 + 1, none⟩) h5).trans b, kv, (hb.cell (p := ⟨g, j * 3 + 2, none⟩) h5).trans c, d.below hb⟩
theorem Wr.belowB {R : Nat} {og : Option Nat} {w w' : World} (h : Wr R og w w') (hR : R ≤ w.heap.size) (ho : ∀ q, og = some q → R < q) : Below R w w' :=
 ⟨h.os, h.tape, h.output, h.size, fun k hk => h.block k (by omega) (by omega) (fun e => by have := ho k e.symm; omega)⟩
def NodeOk (e : SynP.Ex) : Prop := ∀ (l : List SynP.NI) (R p : Nat) (tv bv : Value) (out : Bytes) (o m : Nat) (w : World), WrS w R tv bv out o m → NdL w R tv l → SynP.SegN l p (e.flat p) → out.length + e.pr.length ≤ 274877906944 → o + 2 * e.size ≤ 100000 → p + e.size ≤ 100000 →
 Calls Tryz.prog 51 #[.pointer (some ⟨R, 0, none⟩), .int .i64 ((p + e.size - 1 : Nat) : Int)] w (WrP R tv bv (out ++ e.pr) o (max m (o + e.dp)) (.tuple #[]) w)
theorem top_op : ∀ (e : SynP.Ex) (p : Nat) (l : List SynP.NI), SynP.SegN l p (e.flat p) → ∃ x, l[p + e.size - 1]? = some x ∧ x.op = (e.op : Nat) := by
 intro e p l h
 have hl := SynP.flatLen e p
 have hp := SynP.size_pos' e
 obtain ⟨n, hn, hop⟩ : ∃ n, (e.flat p)[e.size - 1]? = some n ∧ n.op = e.op := by
  cases e <;> simp [SynP.Ex.flat, SynP.Ex.size, SynP.flatLen, SynP.flatsLen, SynP.Ex.op, ← Nat.add_assoc, List.getElem?_append_right, List.getElem?_append_left]
 have := h _ _ hn
 refine ⟨_, by rw [← Nat.add_sub_assoc hp] at this; exact this, ?_⟩
 show ((n.op : Nat) : Int) = _
 rw [hop]
set_option maxRecDepth 100000 in
theorem part1_of (e : SynP.Ex) (IH : NodeOk e) (l : List SynP.NI) (R p : Nat) (tv bv : Value) (out : Bytes) (o m : Nat) (w : World) (h : WrS w R tv bv out o m) (ht : NdL w R tv l) (hs : SynP.SegN l p (e.flat p)) (hl : out.length + e.pr.length ≤ 274877906944) (ho : o + 2 * e.size ≤ 100000) (hp : p + e.size ≤ 100000)
  (a b : Addr) (K : Nat) (hK : K = p + e.size - 1) (c0 : w.cell? a = some (.pointer (some ⟨R, 0, none⟩))) (c1 : w.cell? b = some (.int .i64 (K : Nat))) :
  Calls Tryz.prog 164 #[.pointer (some a), .pointer (some b)] w (WrP R tv bv (out ++ e.pr) o (max m (o + e.dp)) (.tuple #[]) w) := by
 have HC := Lib.hid (IH l R p tv bv out o m w h ht hs hl ho hp)
 rw [← hK] at HC
 obtain ⟨OUT, hOUT⟩ : ∃ OUT, OUT = out ++ e.pr := ⟨_, rfl⟩
 obtain ⟨M, hM⟩ : ∃ M, M = max m (o + e.dp) := ⟨_, rfl⟩
 rw [← hOUT, ← hM] at HC ⊢
 clear h ht hs hl ho hp hK hOUT hM
 go_enter Tryz.func164, Tryz.ntmps164
 go_wp2_with fail
 refine HC.out.mono ?_
 rintro e w1 ⟨rfl, H⟩
 have HH := Lib.hid H
 clear H
 go_wp2_with fail
 first | go_end0 | refine bodyPost_ret (results_none rfl _ _ _) rfl ?_
 exact ⟨rfl, HH.out⟩
set_option maxRecDepth 100000 in
set_option maxHeartbeats 2000000 in
theorem part_of (op side : Nat) (e : SynP.Ex) (IH : NodeOk e) (l : List SynP.NI) (R p : Nat) (tv bv : Value) (out : Bytes) (o m : Nat) (w : World) (h : WrS w R tv bv out o m) (ht : NdL w R tv l) (hs : SynP.SegN l p (e.flat p)) (hl : out.length + (SynP.par (SynP.loose op side e.op) e.pr).length ≤ 274877906944) (ho : o + 2 * e.size + 1 ≤ 100000) (hp : p + e.size ≤ 100000)
  (text : ByteArray) (kv : Value) (ks : List Int) (hk : KL w R kv ks) (hsd : ks[side]? = some ((p + e.size - 1 : Nat) : Int)) :
  Calls Tryz.prog 103 #[.pointer (some ⟨R, 0, none⟩), .agg #[.int .i64 (op : Nat), .string text, kv], .int .i64 (side : Nat)] w (WrP R tv bv (out ++ SynP.par (SynP.loose op side e.op) e.pr) o (max m (o + SynP.parD (SynP.loose op side e.op) e.dp)) (.tuple #[]) w) := by
 obtain ⟨K, hK⟩ : ∃ K, K = p + e.size - 1 := ⟨_, rfl⟩
 rw [← hK] at hsd
 have hRl := h.lt
 have hsl := (List.getElem?_eq_some_iff.1 hsd).1
 obtain ⟨ko, kcap, rfl, k1, k2, k3⟩ := hk
 obtain ⟨kg, rfl, k4, k5⟩ := k3 (by omega)
 obtain ⟨n, hn⟩ : ∃ n, n = ks.length := ⟨_, rfl⟩
 rw [← hn] at hsl k1 ⊢
 obtain ⟨x, hx, hxo⟩ := top_op e p l hs
 rw [← hK] at hx
 obtain ⟨ta, tcap, rfl, t1, t2, t3⟩ := ht
 have hKl := (List.getElem?_eq_some_iff.1 hx).1
 obtain ⟨tg, rfl, t4, t5⟩ := t3 (by omega)
 obtain ⟨t6, -, -⟩ := t5 K x hx
 rw [hxo] at t6
 obtain ⟨ln, hln⟩ : ∃ ln, ln = l.length := ⟨_, rfl⟩
 rw [← hln] at hKl t1 h ⊢
 have hb2 : Below w.heap.size w ((w.alloc (.cells #[.pointer (some ⟨R, 0, none⟩)] 86)).alloc (.cells #[.int .i64 (op : Nat), .string text, .slice (some ⟨kg, 0, none⟩) n kcap] 43)) := below_next (below_alloc _ _) (below_alloc _ _)
 have ck : ((w.alloc (.cells #[.pointer (some ⟨R, 0, none⟩)] 86)).alloc (.cells #[.int .i64 (op : Nat), .string text, .slice (some ⟨kg, 0, none⟩) n kcap] 43)).cell? ⟨kg, side, none⟩ = some (.int .i64 (K : Nat)) := (hb2.cell (p := ⟨kg, side, none⟩) (by show kg < _; omega)).trans (k5 side _ hsd)
 have HN := Lib.hid hn
 have HLN := Lib.hid hln
 have HKE := Lib.hid hK
 clear hn hln hK hb2
 go_enter Tryz.func103, Tryz.ntmps103
 go_wp2_with fail
 obtain ⟨w3, hw3⟩ : ∃ w3, w3 = ((w.alloc (.cells #[.pointer (some ⟨R, 0, none⟩)] 86)).alloc (.cells #[.int .i64 (op : Nat), .string text, .slice (some ⟨kg, 0, none⟩) n kcap] 43)).alloc (.cells #[.int .i64 (K : Nat)] 3) := ⟨_, rfl⟩
 rw [← hw3]
 have hb3 : Below w.heap.size w w3 := by rw [hw3]; exact below_next (below_next (below_alloc _ _) (below_alloc _ _)) (below_alloc _ _)
 have hsz3 : w3.heap.size = w.heap.size + 3 := by rw [hw3]; simp
 have h0 : w3.heap[w.heap.size]? = some (.cells #[.pointer (some ⟨R, 0, none⟩)] 86 (0, 0)) := by
  rw [hw3]
  exact ((below_alloc _ _).block _ (by simp; omega)).trans (((below_alloc _ _).block _ (by simp)).trans (heap_alloc_new w _))
 have h1 : w3.heap[w.heap.size + 1]? = some (.cells #[.int .i64 (op : Nat), .string text, .slice (some ⟨kg, 0, none⟩) n kcap] 43 (0, 0)) := by
  rw [hw3]
  have := heap_alloc_new (w.alloc (.cells #[.pointer (some ⟨R, 0, none⟩)] 86)) (.cells #[.int .i64 (op : Nat), .string text, .slice (some ⟨kg, 0, none⟩) n kcap] 43)
  rw [show (w.alloc (.cells #[.pointer (some ⟨R, 0, none⟩)] 86)).heap.size = w.heap.size + 1 by simp] at this
  exact ((below_alloc _ _).block _ (by simp)).trans this
 have h2 : w3.heap[w.heap.size + 2]? = some (.cells #[.int .i64 (K : Nat)] 3 (0, 0)) := by
  rw [hw3]
  have := heap_alloc_new ((w.alloc (.cells #[.pointer (some ⟨R, 0, none⟩)] 86)).alloc (.cells #[.int .i64 (op : Nat), .string text, .slice (some ⟨kg, 0, none⟩) n kcap] 43)) (.cells #[.int .i64 (K : Nat)] 3)
  rw [show ((w.alloc (.cells #[.pointer (some ⟨R, 0, none⟩)] 86)).alloc (.cells #[.int .i64 (op : Nat), .string text, .slice (some ⟨kg, 0, none⟩) n kcap] 43)).heap.size = w.heap.size + 2 by simp] at this
  exact this
 have HS3 := Lib.hid (h.below hb3)
 have HNL : Hid (NdL w3 R (.slice (some ⟨tg, 0, none⟩) ln tcap) l) := by
  rw [HLN.out] at t1 ⊢
  exact NdL.below ⟨_, tcap, rfl, t1, t2, t3⟩ (hb3.mono (by omega))
 have q0 : w3.cell? ⟨w.heap.size, 0, none⟩ = some (.pointer (some ⟨R, 0, none⟩)) := by rw [cell_of_row _ _ 0 _ _ _ h0]; rfl
 have q1 : w3.cell? ⟨w.heap.size + 1, 0, none⟩ = some (.int .i64 (op : Nat)) := by rw [cell_of_row _ _ 0 _ _ _ h1]; rfl
 have q2 : w3.cell? ⟨w.heap.size + 2, 0, none⟩ = some (.int .i64 (K : Nat)) := by rw [cell_of_row _ _ 0 _ _ _ h2]; rfl
 have q3 := HS3.out.cells.1
 have q4 : w3.cell? ⟨tg, K * 3, none⟩ = some (.int .i64 (e.op : Nat)) := (hb3.cell (p := ⟨tg, K * 3, none⟩) (by show tg < _; omega)).trans t6
 have HB3 := Lib.hid hb3
 have HGT : Hid (∀ q, bv.ownBlock = some q → q < w.heap.size) := fun q hq => (h.own.lt q hq).2
 obtain ⟨G, hG⟩ : ∃ G, G = w.heap.size := ⟨_, rfl⟩
 rw [← hG] at q0 q1 q2 HGT hsz3 hRl ⊢
 have HGE := Lib.hid hG
 have HSG := Lib.hid hs
 clear hw3 h0 h1 h2 hb3 h hG hs ck hsd t3 t5 t6 hx
 have hmf : ∀ (fn : Fn) (first cap : Array Value) (w : World), (Instr.makeFunc fn first cap).run Tryz.prog w = .ok (.func fn first cap) w := fun _ _ _ _ => rfl
 have HLO : ∀ v, Calls Tryz.prog 163 #[.int .i64 (op : Nat), .int .i64 (side : Nat), .int .i64 (e.op : Nat)] v fun y v' => y = .returned (.bool (SynP.loose op side e.op)) ∧ v' = v := fun v => (loose_any op side e.op v).mono fun _ _ h => ⟨h.1, h.2.symm⟩
 go_quiet ((go_at_call 163; exact Calls.quiet_of_same (HLO _)))
 obtain ⟨w4, hw4⟩ : ∃ w4, w4 = w3.drewN nq := ⟨_, rfl⟩
 rw [← hw4]
 have hb4 : Below w3.heap.size w3 w4 := by rw [hw4]; exact below_drewN _ _
 have HS4 := Lib.hid (HS3.out.below hb4)
 have hRw : R < w3.heap.size := HS3.out.lt
 have HNL4 := Lib.hid (HNL.out.below (hb4.mono (Nat.le_of_lt hRw)))
 have r0 : w4.cell? ⟨G, 0, none⟩ = some (.pointer (some ⟨R, 0, none⟩)) := (hb4.cell (p := ⟨G, 0, none⟩) (by show G < _; omega)).trans q0
 have r2 : w4.cell? ⟨G + 1 + 1, 0, none⟩ = some (.int .i64 (K : Nat)) := (hb4.cell (p := ⟨G + 1 + 1, 0, none⟩) (by show G + 1 + 1 < _; omega)).trans q2
 have hG4 : G + 3 ≤ w4.heap.size := Nat.le_trans (by omega) hb4.size
 have HB4 : Hid (Below w.heap.size w w4) := below_next HB3.out hb4
 have HR0 := Lib.hid r0
 have HR2 := Lib.hid r2
 obtain ⟨OUT, hOUT⟩ : ∃ OUT, OUT = out ++ SynP.par (SynP.loose op side e.op) e.pr := ⟨_, rfl⟩
 obtain ⟨M, hM⟩ : ∃ M, M = max m (o + SynP.parD (SynP.loose op side e.op) e.dp) := ⟨_, rfl⟩
 have HOUT := Lib.hid hOUT
 have HMM := Lib.hid hM
 rw [← hOUT, ← hM]
 clear q0 q1 q2 q3 q4 hw4 hb4 HLO
 cases hB : SynP.loose op side e.op with
 | false =>
  rw [hB] at hOUT hM hl
  have hl1 : out.length + e.pr.length ≤ 274877906944 := hl
  have e1 : OUT = out ++ e.pr := hOUT
  have e2 : M = max m (o + e.dp) := hM
  have HC := Lib.hid (IH l R p _ bv out o m w4 HS4.out HNL4.out HSG.out hl1 (by omega) hp)
  rw [← HKE.out, ← e1, ← e2] at HC
  clear hOUT hM e1 e2 hB
  go_wp2_with fail
  refine HC.out.mono ?_
  rintro y w5 ⟨rfl, bv5, a1, a2, a3⟩
  have A1 := Lib.hid a1
  have A2 : Hid (Wr R bv.ownBlock w w5) := (Wr.of_below HB4.out).trans (Mv.refl _ _) a2
  have A3 : Hid (Mv w bv.ownBlock bv5.ownBlock) := Mv.trans (R := R) (w' := w4) (Mv.refl _ _) HB4.out.size a3
  clear a1 a2 a3
  go_wp2_with fail
  first | go_end0 | refine bodyPost_ret (results_none rfl _ _ _) rfl ?_
  have A5 := A1.out
  rw [HOUT.out, HMM.out] at A5
  exact ⟨rfl, bv5, A5, A2.out, A3.out⟩
 | true =>
  rw [hB] at hOUT hM hl
  have hl1 : out.length + (([40] : Bytes) ++ e.pr ++ [41]).length ≤ 274877906944 := hl
  simp only [List.length_append, List.length_cons, List.length_nil] at hl1
  have e1 : OUT = out ++ ([40] ++ e.pr ++ [41]) := hOUT
  have e2 : M = max m (o + (e.dp + 1)) := hM
  have hdp := SynP.dp_le e
  have HC := Lib.hid (brack_part R _ bv out o m w4 HS4.out (by omega) (by omega) (.pointer (some ⟨G, 0, none⟩)) (.pointer (some ⟨G + 1 + 1, 0, none⟩)) e.pr (by omega) e.dp (by omega) (fun bv2 w5 b1 b2 b3 => by
   have hG0 : w5.cell? ⟨G, 0, none⟩ = some (.pointer (some ⟨R, 0, none⟩)) := (World.cell?_of_block (b2.block G (by omega) (by omega) (fun e => by have := HGT.out G e.symm; omega))).trans HR0.out
   have hG2 : w5.cell? ⟨G + 1 + 1, 0, none⟩ = some (.int .i64 (K : Nat)) := (World.cell?_of_block (b2.block (G + 1 + 1) (by omega) (by omega) (fun e => by have := HGT.out _ e.symm; omega))).trans HR2.out
   exact part1_of e IH l R p _ bv2 (out ++ [40]) (o + 1) (max m (o + 1)) w5 b1 (HNL4.out.below (b2.belowB (by omega) (fun q hq => HS4.out.gt q hq))) HSG.out (by rw [List.length_append, List.length_singleton]; omega) (by omega) hp _ _ K HKE.out hG0 hG2))
  rw [← e1, ← e2] at HC
  clear hOUT hM e1 e2 hB
  go_wp2_with fail
  refine HC.out.mono ?_
  rintro y w5 ⟨rfl, bv5, a1, a2, a3⟩
  have A1 := Lib.hid a1
  have A2 : Hid (Wr R bv.ownBlock w w5) := (Wr.of_below HB4.out).trans (Mv.refl _ _) a2
  have A3 : Hid (Mv w bv.ownBlock bv5.ownBlock) := Mv.trans (R := R) (w' := w4) (Mv.refl _ _) HB4.out.size a3
  clear a1 a2 a3
  go_wp2_with fail
  first | go_end0 | refine bodyPost_ret (results_none rfl _ _ _) rfl ?_
  have A5 := A1.out
  rw [HOUT.out, HMM.out] at A5
  exact ⟨rfl, bv5, A5, A2.out, A3.out⟩
end Go.Proofs.YtgfmiladfeoldaaGreatDoor
