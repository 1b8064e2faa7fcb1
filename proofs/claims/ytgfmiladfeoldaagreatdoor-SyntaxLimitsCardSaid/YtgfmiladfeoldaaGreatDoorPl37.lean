/- Joined texts of this claim's proof: WtE, WtF. -/
import Derived.Test.YtgfmiladfeoldaaGreatDoorPl36
import Derived.Test.YtgfmiladfeoldaaGreatDoorPl35
set_option linter.unusedSimpArgs false
set_option linter.unusedVariables false
namespace Go.Proofs.YtgfmiladfeoldaaGreatDoor
open Go.RowKit NatP LexP
theorem Wr.grown1 {g : Nat} {w w' : World} (h : Wr g none w w') : w.grownBy w' (some g) := ⟨h.os, h.tape, h.output, h.size, fun k hk hne => h.block k hk (fun e => hne (by rw [e])) (by simp)⟩
theorem results_cell_tmp_row {P : Program} {fn : Func} {p u : Tmp} {ty : TypeId} (h : fn.results = #[.cell p ty, .tmp u]) (tmps : Array Value) (w : World) (g : Nat) (t : TypeId) (cs : Array Value) (fr : Nat × Nat) (d : TypeDesc)
  (hp : tmps.getD p undef = .pointer (some ⟨g, 0, none⟩)) (hg : w.heap[g]? = some (.cells cs t fr))
  (hu : P.underlying ty = some d) (hd : (match d with | .struct _ | .array _ _ => true | _ => false) = true) (hi : (P.info? ty).map (·.size) = some cs.size) :
  (results fn tmps).run P w = .ok (.tuple #[.agg cs, tmps.getD u undef]) w := by
 have hp' : tmps[p]?.getD undef = .pointer (some ⟨g, 0, none⟩) := by simpa using hp
 simp [results, h, hp', asAddr, run_loadVar_row w g t ty cs fr d hg hu hd hi]
theorem rmat_set {w : World} {g : Nat} {x y z : Value} (h : w.heap[g]? = some (.cells #[x, y, z] 47 (0, 0))) (x' y' z' : Value) :
  (((w.setCell ⟨g, 0, none⟩ x').setCell ⟨g, 1, none⟩ y').setCell ⟨g, 2, none⟩ z').heap[g]? = some (.cells #[x', y', z'] 47 (0, 0)) ∧ w.grownBy (((w.setCell ⟨g, 0, none⟩ x').setCell ⟨g, 1, none⟩ y').setCell ⟨g, 2, none⟩ z') (some g) := by
 have s0 := heap_setCell_same w g 0 _ 47 x' h
 have s1 := heap_setCell_same _ g 1 _ 47 y' s0
 have s2 := heap_setCell_same _ g 2 _ 47 z' s1
 refine ⟨s2.trans (by simp), rfl, rfl, rfl, by simp [World.setCell], fun k _ hk => ?_⟩
 have hne : k ≠ g := fun e => hk (by rw [e])
 exact (heap_setCell_other _ ⟨g, 2, none⟩ k _ hne).trans ((heap_setCell_other _ ⟨g, 1, none⟩ k _ hne).trans (heap_setCell_other _ ⟨g, 0, none⟩ k _ hne))
theorem rmat_cells {w : World} {g : Nat} {x y z : Value} (h : w.heap[g]? = some (.cells #[x, y, z] 47 (0, 0))) :
  w.cell? ⟨g, 0, none⟩ = some x ∧ w.cell? ⟨g, 1, none⟩ = some y ∧ w.cell? ⟨g, 2, none⟩ = some z ∧ w.frozen? ⟨g, 0, none⟩ = false ∧ w.frozen? ⟨g, 1, none⟩ = false ∧ w.frozen? ⟨g, 2, none⟩ = false := by
 refine ⟨?_, ?_, ?_, frozen_of_row _ _ 0 _ _ h, frozen_of_row _ _ 1 _ _ h, frozen_of_row _ _ 2 _ _ h⟩ <;> rw [cell_of_row _ _ _ _ _ _ h] <;> rfl
theorem below_rmat {w w' w'' : World} {g : Nat} (h : Below w.heap.size w w') (hg : w'.grownBy w'' (some g)) (hb : w.heap.size ≤ g) : Below w.heap.size w w'' :=
 ⟨hg.os.trans h.os, hg.tape.trans h.tape, hg.output.trans h.output, Nat.le_trans h.size hg.size, fun k hk => (hg.block k (Nat.lt_of_lt_of_le hk h.size) (fun e => by cases e; omega)).trans (h.block k hk)⟩
theorem rmat_no {w : World} {g : Nat} {x y : Int} {z : Value} (h : w.heap[g]? = some (.cells #[.int .i64 x, .int .i64 y, z] 47 (0, 0))) (hz : (∀ b, z ≠ .bool b) ∧ ∀ x, z ≠ .int .u64 x) : ∀ o, (∀ b, w.cell? ⟨g, o, none⟩ ≠ some (.bool b)) ∧ ∀ x, w.cell? ⟨g, o, none⟩ ≠ some (.int .u64 x) := by
 intro o
 rw [cell_of_row _ _ o _ _ _ h]
 match o with
 | 0 => exact ⟨fun b e => by simp at e, fun x e => by simp at e⟩
 | 1 => exact ⟨fun b e => by simp at e, fun x e => by simp at e⟩
 | 2 => exact ⟨fun b e => hz.1 b (by simpa using e), fun x e => hz.2 x (by simpa using e)⟩
 | o + 3 => exact ⟨fun b e => by simp at e, fun x e => by simp at e⟩
theorem fault_no {w : World} {g : Nat} {x y : Int} (h : w.heap[g]? = some (.cells #[.int .i64 x, .int .i64 y] 81 (0, 0))) : ∀ o, (∀ b, w.cell? ⟨g, o, none⟩ ≠ some (.bool b)) ∧ ∀ x, w.cell? ⟨g, o, none⟩ ≠ some (.int .u64 x) := by
 intro o
 rw [cell_of_row _ _ o _ _ _ h]
 match o with
 | 0 => exact ⟨fun b e => by simp at e, fun x e => by simp at e⟩
 | 1 => exact ⟨fun b e => by simp at e, fun x e => by simp at e⟩
 | o + 2 => exact ⟨fun b e => by simp at e, fun x e => by simp at e⟩
def RmPost (t : Bytes) (w : World) (e : Ending) (w' : World) : Prop :=
 match SynP.readM t with
 | .error k => e = .returned (.tuple #[.agg #[.int .i64 0, .int .i64 0, .slice none 0 0], .int .i64 (k : Nat)]) ∧ Below w.heap.size w w'
 | .ok m => ∃ av, e = .returned (.tuple #[.agg #[.int .i64 (m.rows : Nat), .int .i64 (m.cols : Nat), av], .int .i64 0]) ∧ Below w.heap.size w w' ∧ IRd w' av m.at_
set_option maxRecDepth 100000 in
set_option maxHeartbeats 4000000 in
theorem readMat_any (t : Bytes) (w : World) (ht : t.length ≤ 67108864) (hx : Lx w) (hs : SG w) (hsz : 4 < w.heap.size) :
  Calls Tryz.prog 20 #[.string ⟨t.toArray⟩] w (RmPost t w) := by
 have hmf : ∀ (fn : Fn) (first cap : Array Value) (w : World), (Instr.makeFunc fn first cap).run Tryz.prog w = .ok (.func fn first cap) w := fun _ _ _ _ => rfl
 obtain ⟨T, hT⟩ : ∃ T : ByteArray, T = ⟨t.toArray⟩ := ⟨_, rfl⟩
 have hTl : T.data.toList = t := by rw [hT]
 have HF : Hid (Fits T.data.toList) := by show Fits _; rw [hTl]; exact ht
 have HTL := Lib.hid hTl
 rw [← hT]
 have HA0 := Lib.hid (below_alloc w (.cells #[.int .i64 0, .int .i64 0, .slice none 0 0] 47))
 have HB0 := Lib.hid (heap_alloc_new w (.cells #[.int .i64 0, .int .i64 0, .slice none 0 0] 47))
 have HX := Lib.hid (hx.below HA0.out)
 have HSG := Lib.hid (hs.below HA0.out hsz)
 have hsz1 : 4 < (w.alloc (.cells #[.int .i64 0, .int .i64 0, .slice none 0 0] 47)).heap.size := by simp; omega
 clear hx hs hT hTl ht
 go_enter Tryz.func20, Tryz.ntmps20
 go_wp2_with fail
 refine (start_any T _ HF.out HX.out HSG.out hsz1).mono ?_
 rintro e w1 hn
 unfold StP at hn
 rw [HTL.out] at hn
 cases hK : Toks 1 (chars t) with
 | error p =>
  obtain ⟨c, k⟩ := p
  rw [hK] at hn
  obtain ⟨rfl, hb⟩ := hn
  have hk0 := (Toks_err _ _ _ hK).1
  have HV : Hid (SynP.readM t = .error 7) := by show _ = _; unfold SynP.readM; rw [hK]
  simp only at hk0
  have hkk : ((k : Int) != 0) = true := by simp; omega
  have hb1 : Below w.heap.size w w1 := below_next HA0.out hb
  have hg1 : w1.heap[w.heap.size]? = some (.cells #[.int .i64 0, .int .i64 0, .slice none 0 0] 47 (0, 0)) := (hb.block _ (by simp)).trans HB0.out
  have hgl : w.heap.size < w1.heap.size := (Array.getElem?_eq_some_iff.1 hg1).1
  obtain ⟨c0, c1, c2, z0, z1, z2⟩ := rmat_cells hg1
  obtain ⟨k1, k2⟩ := rmat_set hg1 (.int .i64 0) (.int .i64 0) (.slice none 0 0)
  have k3 := below_rmat hb1 k2 (Nat.le_refl _)
  have K1 := Lib.hid (fun b : Obj => ((below_alloc (((w1.setCell ⟨w.heap.size, 0, none⟩ (.int .i64 0)).setCell ⟨w.heap.size, 1, none⟩ (.int .i64 0)).setCell ⟨w.heap.size, 2, none⟩ (.slice none 0 0)) b).block w.heap.size (Nat.lt_of_lt_of_le hgl k2.size)).trans k1)
  have K2 := Lib.hid (fun b : Obj => below_next k3 (below_alloc (((w1.setCell ⟨w.heap.size, 0, none⟩ (.int .i64 0)).setCell ⟨w.heap.size, 1, none⟩ (.int .i64 0)).setCell ⟨w.heap.size, 2, none⟩ (.slice none 0 0)) b))
  clear hb hb1 hg1 k1 k2 k3 hK hk0
  go_wp2_with fail
  refine bodyPost_ret (results_cell_tmp_row rfl _ _ w.heap.size 47 _ _ _ rfl (K1.out _) Tryz.underlying47 rfl (by kernel_rfl)) rfl ?_
  unfold RmPost
  rw [HV.out]
  exact ⟨rfl, K2.out _⟩
 | ok ts =>
  rw [hK] at hn
  obtain ⟨R, tv, rfl, hR, hb, h⟩ := hn
  obtain ⟨fin, hfin⟩ : ∃ fin, fin = (chars t).length + 1 := ⟨_, rfl⟩
  rw [← hfin] at h
  have hgood := SynP.good_matrix fin (ts.length + 3) (s := ⟨ts, 0⟩) (Nat.le_refl _) (Nat.le_refl _)
  have hne : SynP.matrix fin (ts.length + 3) ⟨ts, 0⟩ ≠ none := by
   intro e
   simp only [e] at hgood
   exact hgood.elim
  have hgr : SynP.Good ts.length (MatR fin (ts.length + 3) ⟨ts, 0⟩) := SynP.Good.bind hgood (fun a s hl => by
   unfold SynP.done
   split
   ·exact SynP.good_ret a (by simp at hl; omega)
   ·exact SynP.good_unfit _ _ _)
  have HRE : Hid (SynP.readM t = match MatR fin (ts.length + 3) ⟨ts, 0⟩ with | none => .error 0 | some (.error (_, k)) => .error (if k = 2 ∨ k = 5 then k else 7) | some (.ok (m, _)) => .ok m) := by
   show _ = _
   unfold SynP.readM
   rw [hK, hfin]
   rfl
  have HGOOD := Lib.hid hgr
  have HNE := Lib.hid hne
  have hb1 : Below w.heap.size w w1 := below_next HA0.out hb
  have hg1 : w1.heap[w.heap.size]? = some (.cells #[.int .i64 0, .int .i64 0, .slice none 0 0] 47 (0, 0)) := (hb.block _ (by simp)).trans HB0.out
  have hRw : w.heap.size < R := by simp at hR; omega
  have hRl := h.lt
  obtain ⟨w2, hw2⟩ : ∃ w2, w2 = (w1.alloc (.cells #[.pointer (some ⟨R, 0, none⟩)] 77)).alloc (.cells #[.int .i64 0, .int .i64 0, .slice none 0 0] 47) := ⟨_, rfl⟩
  have hb2 : Below w1.heap.size w1 w2 := by rw [hw2]; exact below_next (below_alloc _ _) (below_alloc _ _)
  have hp2 : w2.heap[w1.heap.size]? = some (.cells #[.pointer (some ⟨R, 0, none⟩)] 77 (0, 0)) := by
   rw [hw2]
   exact ((below_alloc _ _).block _ (by simp)).trans (heap_alloc_new w1 _)
  have hm2 : w2.heap[w1.heap.size + 1]? = some (.cells #[.int .i64 0, .int .i64 0, .slice none 0 0] 47 (0, 0)) := by
   rw [hw2]
   have := heap_alloc_new (w1.alloc (.cells #[.pointer (some ⟨R, 0, none⟩)] 77)) (.cells #[.int .i64 0, .int .i64 0, .slice none 0 0] 47)
   rw [show (w1.alloc (.cells #[.pointer (some ⟨R, 0, none⟩)] 77)).heap.size = w1.heap.size + 1 by simp] at this
   exact this
  have hsz2 : w2.heap.size = w1.heap.size + 2 := by rw [hw2]; simp
  obtain ⟨G, hG⟩ : ∃ G, G = w1.heap.size := ⟨_, rfl⟩
  rw [← hG] at hp2 hm2 hsz2 hRl
  have hWa := below_alloc w2 (.cells #[.int .i64 0, .int .i64 0] 81)
  have hWn := heap_alloc_new w2 (.cells #[.int .i64 0, .int .i64 0] 81)
  have HGU := Lib.hid (guarded_mat (.pointer (some ⟨G, 0, none⟩)) (.pointer (some ⟨G + 1, 0, none⟩)) w2
   (fun c k w' => MatR fin (ts.length + 3) ⟨ts, 0⟩ = some (.error (c, k)) ∧ Wr R (some (G + 1)) w2 w')
   (fun w' => ∃ m s', MatR fin (ts.length + 3) ⟨ts, 0⟩ = some (.ok (m, s')) ∧ Wr R (some (G + 1)) w2 w' ∧ ∃ av, w'.heap[G + 1]? = some (.cells #[.int .i64 (m.rows : Nat), .int .i64 (m.cols : Nat), av] 47 (0, 0)) ∧ IRd w' av m.at_)
   ((rm_lit R tv ts fin (ts.length + 3) ⟨ts, 0⟩ G (G + 1) _ ((h.below hb2).below hWa) ((hWa.block G (by omega)).trans hp2) ((hWa.block (G + 1) (by omega)).trans hm2) (by omega) (by omega) (by omega) hne).mono fun e w' hq => by
    unfold RmP at hq
    have fr : ∀ w', Wr R (some (G + 1)) (w2.alloc (.cells #[.int .i64 0, .int .i64 0] 81)) w' → w'.heap[w2.heap.size]? = some (.cells #[.int .i64 0, .int .i64 0] 81 (0, 0)) ∧ Wr R (some (G + 1)) w2 w' := fun w' hw =>
     ⟨(hw.block _ (by simp) (by omega) (by simp; omega)).trans hWn, (Wr.of_below hWa).trans (Mv.refl _ _) hw⟩
    rcases hL : MatR fin (ts.length + 3) ⟨ts, 0⟩ with - | (⟨c, k⟩ | ⟨m, s'⟩) <;> rw [hL] at hq
    ·exact hq.elim
    ·exact ⟨(fr w' hq.2).1, .inl ⟨c, k, hq.1, rfl, (fr w' hq.2).2⟩⟩
    ·exact ⟨(fr w' hq.2.1).1, .inr ⟨hq.1, m, s', rfl, (fr w' hq.2.1).2, hq.2.2⟩⟩))
  have hb3 := below_next hb1 (hb2.mono (by omega))
  have HBW := Lib.hid (below_next hb1 hb2)
  have hg2 : w2.heap[w.heap.size]? = some (.cells #[.int .i64 0, .int .i64 0, .slice none 0 0] 47 (0, 0)) := (hb2.block _ (by omega)).trans hg1
  have HG2 := Lib.hid hg2
  clear h hb hb1 hg1 hb2 hp2 hm2 hgood hne hgr hWa hWn hb3 hg2 hK hfin
  go_wp2_with fail
  rw [← hw2, ← hG]
  clear hw2 hG
  refine HGU.out.mono ?_
  rintro e w4 ⟨w3, hg3, hw34, ⟨c, k, rfl, hL, hw23⟩ | ⟨rfl, m, s', hL, hw23, av, hm3, hi3⟩⟩
  ·have hk0 : 0 < k := by
    have := HGOOD.out
    rw [hL] at this
    exact this
   have HV : Hid (SynP.readM t = .error (if k = 2 ∨ k = 5 then k else 7)) := by show _ = _; rw [HRE.out, hL]
   have hB4 : Below (w.heap.size + 1) w2 w4 := hw34.to_below (hw23.to_below (Below.refl _ _) (by omega) (by omega) (fun q hq => by cases hq; omega)) (by have := hw23.size; omega) (by omega) (fun q hq => by cases hq)
   have hke0 : ((k : Int) == 0) = false := by simp; omega
   have hlt4 : w.heap.size < w4.heap.size := by have := hB4.size; omega
   have hg4 := (hB4.block w.heap.size (by omega)).trans HG2.out
   have hw4 : Below w.heap.size w w4 := HBW.out.trans (hB4.mono (by omega))
   obtain ⟨y0, y1, y2, x0, x1, x2⟩ := rmat_cells hg4
   obtain ⟨j1, j2⟩ := rmat_set hg4 (.int .i64 0) (.int .i64 0) (.slice none 0 0)
   have j3 := below_rmat hw4 j2 (Nat.le_refl _)
   have J1 := Lib.hid (fun b : Obj => ((below_alloc (((w4.setCell ⟨w.heap.size, 0, none⟩ (.int .i64 0)).setCell ⟨w.heap.size, 1, none⟩ (.int .i64 0)).setCell ⟨w.heap.size, 2, none⟩ (.slice none 0 0)) b).block w.heap.size (Nat.lt_of_lt_of_le hlt4 j2.size)).trans j1)
   have J2 := Lib.hid (fun b : Obj => below_next j3 (below_alloc (((w4.setCell ⟨w.heap.size, 0, none⟩ (.int .i64 0)).setCell ⟨w.heap.size, 1, none⟩ (.int .i64 0)).setCell ⟨w.heap.size, 2, none⟩ (.slice none 0 0)) b))
   clear hg3 hw34 hL hw23 hB4 hg4 hw4 j1 j2 j3
   by_cases h2 : k = 2
   ·subst h2
    have HV2 : Hid (SynP.readM t = .error 2) := by show _ = _; rw [HV.out, if_pos (.inl rfl)]
    go_wp2_with fail
    go_region
    all_goals
     go_wp2_with fail
     refine bodyPost_ret (results_cell_tmp_row rfl _ _ w.heap.size 47 _ _ _ rfl (J1.out _) Tryz.underlying47 rfl (by kernel_rfl)) rfl ?_
     unfold RmPost
     rw [HV2.out]
     exact ⟨rfl, (J2.out _).drew⟩
   ·by_cases h5 : k = 5
    ·subst h5
     have HV2 : Hid (SynP.readM t = .error 5) := by show _ = _; rw [HV.out, if_pos (.inr rfl)]
     go_wp2_with fail
     go_region
     all_goals
      go_wp2_with fail
      refine bodyPost_ret (results_cell_tmp_row rfl _ _ w.heap.size 47 _ _ _ rfl (J1.out _) Tryz.underlying47 rfl (by kernel_rfl)) rfl ?_
      unfold RmPost
      rw [HV2.out]
      exact ⟨rfl, (J2.out _).drew⟩
    ·have e2 : ((k : Int) == 2) = false := by simp; omega
     have e5 : ((k : Int) == 5) = false := by simp; omega
     have HV2 : Hid (SynP.readM t = .error 7) := by show _ = _; rw [HV.out, if_neg (by omega)]
     go_wp2_with fail
     refine bodyPost_ret (results_cell_tmp_row rfl _ _ w.heap.size 47 _ _ _ rfl (J1.out _) Tryz.underlying47 rfl (by kernel_rfl)) rfl ?_
     unfold RmPost
     rw [HV2.out]
     exact ⟨rfl, J2.out _⟩
  ·have HV : Hid (SynP.readM t = .ok m) := by show _ = _; rw [HRE.out, hL]
   have hB4 : Below (w.heap.size + 1) w2 w4 := hw34.to_below (hw23.to_below (Below.refl _ _) (by omega) (by omega) (fun q hq => by cases hq; omega)) (by have := hw23.size; omega) (by omega) (fun q hq => by cases hq)
   have ha := below_alloc w4 (.cells #[.int .i64 0, .int .i64 0] 81)
   have hlt4 : w.heap.size < w4.heap.size := by have := hB4.size; omega
   have hg4 := (hB4.block w.heap.size (by omega)).trans HG2.out
   have hw4 : Below w.heap.size w w4 := HBW.out.trans (hB4.mono (by omega))
   have hi4 := hi3.stay (fault_no hg3) hw34.grown1
   have hm4 : w4.heap[G + 1]? = some (.cells #[.int .i64 (m.rows : Nat), .int .i64 (m.cols : Nat), av] 47 (0, 0)) := (hw34.block (G + 1) ((Array.getElem?_eq_some_iff.1 hm3).1) (by omega) (by simp)).trans hm3
   have hG4 : G + 1 < w4.heap.size := (Array.getElem?_eq_some_iff.1 hm4).1
   obtain ⟨ao, cap, rfl, -, -, -⟩ := hi3
   obtain ⟨ln, hln⟩ : ∃ ln, ln = m.at_.length := ⟨_, rfl⟩
   rw [← hln] at hi4 hm4
   obtain ⟨c0, c1, c2, z0, z1, z2⟩ := rmat_cells hg4
   obtain ⟨d0, d1, d2, -, -, -⟩ := rmat_cells hm4
   obtain ⟨j1, j2⟩ := rmat_set hg4 (.int .i64 (m.rows : Nat)) (.int .i64 (m.cols : Nat)) (.slice ao ln cap)
   have j3 := below_rmat hw4 j2 (Nat.le_refl _)
   have J1 := Lib.hid (fun b : Obj => ((below_alloc (((w4.setCell ⟨w.heap.size, 0, none⟩ (.int .i64 (m.rows : Nat))).setCell ⟨w.heap.size, 1, none⟩ (.int .i64 (m.cols : Nat))).setCell ⟨w.heap.size, 2, none⟩ (.slice ao ln cap)) b).block w.heap.size (Nat.lt_of_lt_of_le hlt4 j2.size)).trans j1)
   have J2 := Lib.hid (fun b : Obj => below_next j3 (below_alloc (((w4.setCell ⟨w.heap.size, 0, none⟩ (.int .i64 (m.rows : Nat))).setCell ⟨w.heap.size, 1, none⟩ (.int .i64 (m.cols : Nat))).setCell ⟨w.heap.size, 2, none⟩ (.slice ao ln cap)) b))
   have J3 := Lib.hid (fun b : Obj => (hi4.stay (rmat_no (z := .slice none 0 0) hg4 ⟨(fun b e => by cases e), (fun x e => by cases e)⟩) j2).below (below_alloc _ b))
   clear hg3 hw34 hL hw23 hB4 hg4 hw4 j1 j2 j3 hi4 hm3 hm4 hln ha
   go_wp2_with fail
   refine bodyPost_ret (results_cell_tmp_row rfl _ _ w.heap.size 47 _ _ _ rfl (J1.out _) Tryz.underlying47 rfl (by kernel_rfl)) rfl ?_
   unfold RmPost
   rw [HV.out]
   exact ⟨.slice ao ln cap, rfl, J2.out _, J3.out _⟩
end Go.Proofs.YtgfmiladfeoldaaGreatDoor
namespace Go.Proofs.YtgfmiladfeoldaaGreatDoor
open Go.RowKit NatP LexP
theorem rcx_set {w : World} {g : Nat} {x : Value} (h : w.heap[g]? = some (.cells #[x] 97 (0, 0))) (x' : Value) :
  (w.setCell ⟨g, 0, none⟩ x').heap[g]? = some (.cells #[x'] 97 (0, 0)) ∧ w.grownBy (w.setCell ⟨g, 0, none⟩ x') (some g) := by
 have s0 := heap_setCell_same w g 0 _ 97 x' h
 refine ⟨s0.trans (by simp), rfl, rfl, rfl, by simp [World.setCell], fun k _ hk => ?_⟩
 have hne : k ≠ g := fun e => hk (by rw [e])
 exact heap_setCell_other _ ⟨g, 0, none⟩ k _ hne
def CxR (fin f : Nat) (s : SynP.St) : SynP.PR (List (List Nat)) := (SynP.complex fin f s).bind fun m s => SynP.done fin m s
def CxP (r : SynP.PR (List (List Nat))) (R mb : Nat) (w : World) (e : Ending) (w' : World) : Prop :=
 match r with
 | none => False
 | some (.error (c, k)) => e = FaultE c k ∧ Wr R (some mb) w w' ∧ ∃ ao n cap, w'.heap[mb]? = some (.cells #[.slice ao n cap] 97 (0, 0))
 | some (.ok (l, _)) => e = .returned (.tuple #[]) ∧ Wr R (some mb) w w' ∧ ∃ lv svs, w'.heap[mb]? = some (.cells #[lv] 97 (0, 0)) ∧ Cx w' w.heap.size lv svs l
set_option maxRecDepth 100000 in
set_option maxHeartbeats 2000000 in
theorem cx_lit (R : Nat) (tv : Value) (L : List Tok) (fin f : Nat) (s : SynP.St) (pb mb : Nat) (w : World) (h : RS w R tv L fin 0 s (.slice none 0 0) []) (hp : w.heap[pb]? = some (.cells #[.pointer (some ⟨R, 0, none⟩)] 77 (0, 0))) (hm : w.heap[mb]? = some (.cells #[.slice none 0 0] 97 (0, 0))) (hpR : R < pb) (hmR : R < mb) (hpm : pb ≠ mb) (hne : SynP.complex fin f s ≠ none) :
  Calls Tryz.prog 113 #[.pointer (some ⟨pb, 0, none⟩), .pointer (some ⟨mb, 0, none⟩)] w (CxP (CxR fin f s) R mb w) := by
 have HS := Lib.hid h
 have HNE := Lib.hid hne
 have hpl := (Array.getElem?_eq_some_iff.1 hp).1
 have hml := (Array.getElem?_eq_some_iff.1 hm).1
 have HP := Lib.hid hp
 have HM := Lib.hid hm
 obtain ⟨r, hr⟩ : ∃ r, r = CxR fin f s := ⟨_, rfl⟩
 have HR := Lib.hid hr
 rw [← hr]
 have c0 : w.cell? ⟨pb, 0, none⟩ = some (.pointer (some ⟨R, 0, none⟩)) := by rw [cell_of_row _ _ 0 _ _ _ hp]; rfl
 clear h hne hp hm hr
 go_enter Tryz.func113, Tryz.ntmps113
 go_wp2_with fail
 refine (rd_complex R tv L fin 0 s _ [] _ HS.out f HNE.out).mono ?_
 rintro e w1 hn
 rcases hN : SynP.complex fin f s with - | (⟨fc, fk⟩ | ⟨m, s2⟩) <;> rw [hN] at hn
 ·exact hn.elim
 ·obtain ⟨rfl, n1⟩ := hn
  refine ⟨rfl, ?_⟩
  have hre : r = some (.error (fc, fk)) := by rw [HR.out]; unfold CxR; rw [hN]; rfl
  rw [hre]
  exact ⟨rfl, n1.weak _, _, _, _, (n1.block mb hml (by omega) (by simp)).trans HM.out⟩
 obtain ⟨v2, a2, rfl, n1, n2, n3, svs, n4⟩ := hn
 have HR1 : Hid (r = SynP.done fin m s2) := by show _ = _; rw [HR.out]; unfold CxR; rw [hN]; rfl
 have hm1 : w1.heap[mb]? = some (.cells #[.slice none 0 0] 97 (0, 0)) := (n2.block mb hml (by omega) (by simp)).trans HM.out
 have hp1 : w1.heap[pb]? = some (.cells #[.pointer (some ⟨R, 0, none⟩)] 77 (0, 0)) := (n2.block pb hpl (by omega) (by simp)).trans HP.out
 have hml1 := (Array.getElem?_eq_some_iff.1 hm1).1
 have hpl1 := (Array.getElem?_eq_some_iff.1 hp1).1
 obtain ⟨ao, cap, hv2, -, -, -⟩ := ownsRow_shape n4.own
 obtain ⟨ln, hln⟩ : ∃ ln, ln = svs.length := ⟨_, rfl⟩
 rw [← hln] at hv2
 subst hv2
 have e0 : w1.cell? ⟨pb, 0, none⟩ = some (.pointer (some ⟨R, 0, none⟩)) := by rw [cell_of_row _ _ 0 _ _ _ hp1]; rfl
 have d0 : w1.cell? ⟨mb, 0, none⟩ = some (.slice none 0 0) := by rw [cell_of_row _ _ 0 _ _ _ hm1]; rfl
 have z0 : w1.frozen? ⟨mb, 0, none⟩ = false := frozen_of_row _ _ 0 _ _ hm1
 obtain ⟨s0, hgr⟩ := rcx_set hm1 (.slice ao ln cap)
 have HGR := Lib.hid hgr
 have HMB := Lib.hid s0
 have HCX := Lib.hid (n4.wr (Wr.of_set w1 0 (.slice ao ln cap)) hml)
 have HRS := Lib.hid (n1.growK hgr (fun q hq => by cases hq; exact ⟨hmR, by simp [Value.ownBlock], fun p hp => by cases hp⟩)).1
 have HPB : Hid ((w1.setCell ⟨mb, 0, none⟩ (.slice ao ln cap)).heap[pb]? = some (.cells #[.pointer (some ⟨R, 0, none⟩)] 77 (0, 0))) := (hgr.block pb hpl1 (by simp; exact hpm)).trans hp1
 have HWR : Hid (Wr R (some mb) w (w1.setCell ⟨mb, 0, none⟩ (.slice ao ln cap))) := (n2.weak _).trans (Mv.refl _ _) (Wr.of_grown hgr)
 obtain ⟨a5, ha5⟩ : ∃ a5, a5 = a2 := ⟨_, rfl⟩
 clear n1 n2 n3 n4 hN hm1 hp1 s0 hgr hln ha5
 go_wp2_with fail
 obtain ⟨w3, hw3⟩ : ∃ w3, w3 = w1.setCell ⟨mb, 0, none⟩ (.slice ao ln cap) := ⟨_, rfl⟩
 rw [← hw3] at HGR HMB HCX HRS HPB HWR ⊢
 clear hw3 d0 z0 e0 c0
 refine (rd_done R tv L fin a2 s2 _ _ _ HRS.out).mono ?_
 rintro e w4 ⟨rfl, b1⟩
 have HRS4 := Lib.hid (HRS.out.below b1)
 have hm4 : w4.heap[mb]? = some (.cells #[.slice ao ln cap] 97 (0, 0)) := (b1.block mb ((Array.getElem?_eq_some_iff.1 HMB.out).1)).trans HMB.out
 have HM4 := Lib.hid hm4
 have HC4 := Lib.hid (HCX.out.wr (Wr.of_below (R := R) b1) (by omega))
 have HW4 : Hid (Wr R (some mb) w w4) := HWR.out.trans (Mv.refl _ _) (Wr.of_below b1)
 have c4 : w4.cell? ⟨pb, 0, none⟩ = some (.pointer (some ⟨R, 0, none⟩)) := by
  have := (b1.block pb ((Array.getElem?_eq_some_iff.1 HPB.out).1)).trans HPB.out
  rw [cell_of_row _ _ 0 _ _ _ this]; rfl
 clear b1 hm4
 by_cases hts : s2.ts = []
 ·have HR4 : Hid (r = some (.ok (m, s2))) := by show _ = _; rw [HR1.out]; unfold SynP.done; rw [if_pos hts]; rfl
  rw [decide_eq_true hts]
  clear hts
  go_wp2_with fail
  first | go_end0 | refine bodyPost_ret (results_none rfl _ _ _) rfl ?_
  rw [HR4.out]
  exact ⟨rfl, HW4.out, _, _, HM4.out, HC4.out⟩
 ·have HR4 : Hid (r = SynP.unfit fin s2) := by show _ = _; rw [HR1.out]; unfold SynP.done; rw [if_neg hts]
  rw [decide_eq_false hts]
  clear hts
  go_wp2_with fail
  refine (rd_unfit R tv L fin a2 s2 _ _ _ HRS4.out).mono ?_
  rintro e w5 ⟨rfl, b1⟩
  refine ⟨rfl, ?_⟩
  rw [HR4.out]
  exact ⟨rfl, HW4.out.trans (Mv.refl _ _) ((Wr.of_below (R := R) (og := none) b1).weak _), _, _, _, (b1.block mb ((Array.getElem?_eq_some_iff.1 HM4.out).1)).trans HM4.out⟩
def RcPost (t : Bytes) (w : World) (e : Ending) (w' : World) : Prop :=
 match SynP.readC t with
 | none => ∃ ao n cap, e = .returned (.tuple #[.slice ao n cap, .bool false]) ∧ Below w.heap.size w w'
 | some l => ∃ lv svs, e = .returned (.tuple #[lv, .bool true]) ∧ Below w.heap.size w w' ∧ Cx w' w.heap.size lv svs l
theorem Cx.lower {w : World} {B B' : Nat} {v : Value} {svs : List Value} {l : List (List Nat)} (h : Cx w B v svs l) (hb : B' ≤ B) : Cx w B' v svs l :=
 ⟨ownsRow_mono h.own hb, h.len, fun j sv s h1 h2 => (h.el j sv s h1 h2).mono hb⟩
set_option maxRecDepth 100000 in
set_option maxHeartbeats 4000000 in
theorem readComplex_any (t : Bytes) (w : World) (ht : t.length ≤ 67108864) (hx : Lx w) (hs : SG w) (hsz : 4 < w.heap.size) :
  Calls Tryz.prog 57 #[.string ⟨t.toArray⟩] w (RcPost t w) := by
 have hmf : ∀ (fn : Fn) (first cap : Array Value) (w : World), (Instr.makeFunc fn first cap).run Tryz.prog w = .ok (.func fn first cap) w := fun _ _ _ _ => rfl
 obtain ⟨T, hT⟩ : ∃ T : ByteArray, T = ⟨t.toArray⟩ := ⟨_, rfl⟩
 have hTl : T.data.toList = t := by rw [hT]
 have HF : Hid (Fits T.data.toList) := by show Fits _; rw [hTl]; exact ht
 have HTL := Lib.hid hTl
 have HX := Lib.hid hx
 have HSG := Lib.hid hs
 rw [← hT]
 clear hx hs hT hTl ht
 go_enter Tryz.func57, Tryz.ntmps57
 go_wp2_with fail
 refine (start_any T _ HF.out HX.out HSG.out hsz).mono ?_
 rintro e w1 hn
 unfold StP at hn
 rw [HTL.out] at hn
 cases hK : Toks 1 (chars t) with
 | error p =>
  obtain ⟨c, k⟩ := p
  rw [hK] at hn
  obtain ⟨rfl, hb⟩ := hn
  have hk0 := (Toks_err _ _ _ hK).1
  have HV : Hid (SynP.readC t = none) := by show _ = _; unfold SynP.readC; rw [hK]
  simp only at hk0
  have hkk : ((k : Int) != 0) = true := by simp; omega
  have HB := Lib.hid (fun b : Obj => hb.alloc hb.size b)
  clear hb hK hk0
  go_wp2_with fail
  go_ret2
  unfold RcPost
  rw [HV.out]
  exact ⟨_, _, _, rfl, HB.out _⟩
 | ok ts =>
  rw [hK] at hn
  obtain ⟨R, tv, rfl, hR, hb, h⟩ := hn
  obtain ⟨fin, hfin⟩ : ∃ fin, fin = (chars t).length + 1 := ⟨_, rfl⟩
  rw [← hfin] at h
  have hgood := SynP.good_complex fin (ts.length + 2) (s := ⟨ts, 0⟩) (Nat.le_refl _) (Nat.le_refl _)
  have hne : SynP.complex fin (ts.length + 2) ⟨ts, 0⟩ ≠ none := by
   intro e
   simp only [e] at hgood
   exact hgood.elim
  have hgr : SynP.Good ts.length (CxR fin (ts.length + 2) ⟨ts, 0⟩) := SynP.Good.bind hgood (fun a s hl => by
   unfold SynP.done
   split
   ·exact SynP.good_ret a (by simp at hl; omega)
   ·exact SynP.good_unfit _ _ _)
  have HRE : Hid (SynP.readC t = match CxR fin (ts.length + 2) ⟨ts, 0⟩ with | some (.ok (m, _)) => some m | _ => none) := by
   show _ = _
   unfold SynP.readC
   rw [hK, hfin]
   rfl
  have HGOOD := Lib.hid hgr
  have hRl := h.lt
  obtain ⟨w2, hw2⟩ : ∃ w2, w2 = (w1.alloc (.cells #[.pointer (some ⟨R, 0, none⟩)] 77)).alloc (.cells #[.slice none 0 0] 97) := ⟨_, rfl⟩
  have hb2 : Below w1.heap.size w1 w2 := by rw [hw2]; exact below_next (below_alloc _ _) (below_alloc _ _)
  have hp2 : w2.heap[w1.heap.size]? = some (.cells #[.pointer (some ⟨R, 0, none⟩)] 77 (0, 0)) := by
   rw [hw2]
   exact ((below_alloc _ _).block _ (by simp)).trans (heap_alloc_new w1 _)
  have hm2 : w2.heap[w1.heap.size + 1]? = some (.cells #[.slice none 0 0] 97 (0, 0)) := by
   rw [hw2]
   have := heap_alloc_new (w1.alloc (.cells #[.pointer (some ⟨R, 0, none⟩)] 77)) (.cells #[.slice none 0 0] 97)
   rw [show (w1.alloc (.cells #[.pointer (some ⟨R, 0, none⟩)] 77)).heap.size = w1.heap.size + 1 by simp] at this
   exact this
  have hsz2 : w2.heap.size = w1.heap.size + 2 := by rw [hw2]; simp
  obtain ⟨G, hG⟩ : ∃ G, G = w1.heap.size := ⟨_, rfl⟩
  rw [← hG] at hp2 hm2 hsz2 hRl
  have hWa := below_alloc w2 (.cells #[.int .i64 0, .int .i64 0] 81)
  have hWn := heap_alloc_new w2 (.cells #[.int .i64 0, .int .i64 0] 81)
  have HGU := Lib.hid (guarded_cpx (.pointer (some ⟨G, 0, none⟩)) (.pointer (some ⟨G + 1, 0, none⟩)) w2
   (fun c k w' => CxR fin (ts.length + 2) ⟨ts, 0⟩ = some (.error (c, k)) ∧ Wr R (some (G + 1)) w2 w' ∧ ∃ ao n cap, w'.heap[G + 1]? = some (.cells #[.slice ao n cap] 97 (0, 0)))
   (fun w' => ∃ m s', CxR fin (ts.length + 2) ⟨ts, 0⟩ = some (.ok (m, s')) ∧ Wr R (some (G + 1)) w2 w' ∧ ∃ lv svs, w'.heap[G + 1]? = some (.cells #[lv] 97 (0, 0)) ∧ Cx w' (w2.heap.size + 1) lv svs m)
   ((cx_lit R tv ts fin (ts.length + 2) ⟨ts, 0⟩ G (G + 1) _ ((h.below hb2).below hWa) ((hWa.block G (by omega)).trans hp2) ((hWa.block (G + 1) (by omega)).trans hm2) (by omega) (by omega) (by omega) hne).mono fun e w' hq => by
    unfold CxP at hq
    have fr : ∀ w', Wr R (some (G + 1)) (w2.alloc (.cells #[.int .i64 0, .int .i64 0] 81)) w' → w'.heap[w2.heap.size]? = some (.cells #[.int .i64 0, .int .i64 0] 81 (0, 0)) ∧ Wr R (some (G + 1)) w2 w' := fun w' hw =>
     ⟨(hw.block _ (by simp) (by omega) (by simp; omega)).trans hWn, (Wr.of_below hWa).trans (Mv.refl _ _) hw⟩
    rcases hL : CxR fin (ts.length + 2) ⟨ts, 0⟩ with - | (⟨c, k⟩ | ⟨m, s'⟩) <;> rw [hL] at hq
    ·exact hq.elim
    ·exact ⟨(fr w' hq.2.1).1, .inl ⟨c, k, hq.1, rfl, (fr w' hq.2.1).2, hq.2.2⟩⟩
    ·obtain ⟨lv, svs, q1, q2⟩ := hq.2.2
     have e0 : (w2.alloc (.cells #[.int .i64 0, .int .i64 0] 81)).heap.size = w2.heap.size + 1 := by simp
     rw [e0] at q2
     exact ⟨(fr w' hq.2.1).1, .inr ⟨hq.1, m, s', rfl, (fr w' hq.2.1).2, lv, svs, q1, q2⟩⟩))
  have HBW := Lib.hid (below_next hb hb2)
  have hwG : w.heap.size ≤ G := by rw [hG]; exact hb.size
  clear h hb hb2 hp2 hm2 hgood hne hgr hWa hWn hK hfin
  go_wp2_with fail
  rw [← hw2, ← hG]
  clear hw2 hG
  refine HGU.out.mono ?_
  rintro e w4 ⟨w3, hg3, hw34, ⟨c, k, rfl, hL, hw23, lo, lnn, lcap, hm3⟩ | ⟨rfl, m, s', hL, hw23, lv, svs, hm3, hi3⟩⟩
  ·have hk0 : 0 < k := by
    have := HGOOD.out
    rw [hL] at this
    exact this
   have HV : Hid (SynP.readC t = none) := by show _ = _; rw [HRE.out, hL]
   have hB4 : Below w.heap.size w2 w4 := hw34.to_below (hw23.to_below (Below.refl _ _) (by omega) (by omega) (fun q hq => by cases hq; omega)) (by have := hw23.size; omega) (by omega) (fun q hq => by cases hq)
   have hm4 : w4.heap[G + 1]? = some (.cells #[.slice lo lnn lcap] 97 (0, 0)) := (hw34.block (G + 1) ((Array.getElem?_eq_some_iff.1 hm3).1) (by omega) (by simp)).trans hm3
   have hke0 : ((k : Int) == 0) = false := by simp; omega
   have hG4 : G + 1 < w4.heap.size := (Array.getElem?_eq_some_iff.1 hm4).1
   have c4 : w4.cell? ⟨G + 1, 0, none⟩ = some (.slice lo lnn lcap) := by rw [cell_of_row _ _ 0 _ _ _ hm4]; rfl
   have HB5 := Lib.hid (fun b : Obj => (HBW.out.trans hB4).alloc (Nat.le_trans HBW.out.size hB4.size) b)
   clear hg3 hw34 hL hw23 hB4 hm4 hm3
   go_wp2_with fail
   go_region
   all_goals
    go_wp2_with fail
    go_ret2
    unfold RcPost
    rw [HV.out]
    exact ⟨_, _, _, rfl, (HB5.out _).drew⟩
  ·have HV : Hid (SynP.readC t = some m) := by show _ = _; rw [HRE.out, hL]
   have hB4 : Below w.heap.size w2 w4 := hw34.to_below (hw23.to_below (Below.refl _ _) (by omega) (by omega) (fun q hq => by cases hq; omega)) (by have := hw23.size; omega) (by omega) (fun q hq => by cases hq)
   have hm4 : w4.heap[G + 1]? = some (.cells #[lv] 97 (0, 0)) := (hw34.block (G + 1) ((Array.getElem?_eq_some_iff.1 hm3).1) (by omega) (by simp)).trans hm3
   have hi4 := hi3.wr hw34 (Nat.lt_succ_self _)
   obtain ⟨ao, cap, hv2, -, -, -⟩ := ownsRow_shape hi3.own
   obtain ⟨ln, hln⟩ : ∃ ln, ln = svs.length := ⟨_, rfl⟩
   rw [← hln] at hv2
   subst hv2
   have hG4 : G + 1 < w4.heap.size := (Array.getElem?_eq_some_iff.1 hm4).1
   have c4 : w4.cell? ⟨G + 1, 0, none⟩ = some (.slice ao ln cap) := by rw [cell_of_row _ _ 0 _ _ _ hm4]; rfl
   have HB5 := Lib.hid (fun b : Obj => (HBW.out.trans hB4).alloc (Nat.le_trans HBW.out.size hB4.size) b)
   have HC5 := Lib.hid (fun b : Obj => ((hi4.wr (Wr.of_below (R := G) ((below_alloc w4 b).drew)) (by omega)).lower (B' := w.heap.size) (by omega)))
   clear hg3 hw34 hL hw23 hB4 hm4 hm3 hi4 hi3 hln
   go_wp2_with fail
   go_region
   all_goals
    go_wp2_with fail
    go_ret2
    unfold RcPost
    rw [HV.out]
    exact ⟨_, svs, rfl, (HB5.out _).drew, HC5.out _⟩
end Go.Proofs.YtgfmiladfeoldaaGreatDoor
