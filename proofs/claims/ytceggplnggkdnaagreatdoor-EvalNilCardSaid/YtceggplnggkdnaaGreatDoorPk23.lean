/- Joined texts of this claim's proof: Pa2, EvV, EvW, EvX, EvY. -/
import Derived.Test.YtceggplnggkdnaaGreatDoorPk20
import Derived.Test.YtceggplnggkdnaaGreatDoorPk22
set_option linter.unusedSimpArgs false
set_option linter.unusedVariables false
namespace Go.Proofs.YtceggplnggkdnaaGreatDoor
open Go.RowKit NatP LexP
theorem ln_size (n : SynP.Ln) : n.flat.length = n.size := by
 cases n with
 | nothing => rfl
 | lets x e => simp [SynP.Ln.flat, SynP.Ln.size, flat_len]
 | cmd x l => simp [SynP.Ln.flat, SynP.Ln.size, flats_len]
set_option maxRecDepth 100000 in
set_option maxHeartbeats 1000000 in
theorem parse_any (s : ByteArray) (w : World) (hf : Fits s.data.toList) (hx : Lx w) (hs : SG w) (hsz : 6 < w.heap.size) :
  Calls Tryz.prog 33 #[.string s] w (PaP s.data.toList w) := by
 have hmf : ∀ (fn : Fn) (first cap : Array Value) (w : World), (Instr.makeFunc fn first cap).run Tryz.prog w = .ok (.func fn first cap) w := fun _ _ _ _ => rfl
 have HF := Lib.hid hf
 have HX := Lib.hid hx
 have HSG := Lib.hid hs
 have hs4 : s.size ≤ 67108864 := by rw [Lib.size_eq]; exact hf
 clear hf hx hs
 go_enter Tryz.func33, Tryz.ntmps33
 go_wp2_with fail
 refine (start_any s _ HF.out HX.out HSG.out hsz).mono ?_
 rintro e w1 hn
 unfold StP at hn
 cases hT : Toks 1 (chars s.data.toList) with
 | error p =>
  obtain ⟨c, k⟩ := p
  rw [hT] at hn
  obtain ⟨rfl, hb⟩ := hn
  have hk0 := (Toks_err _ _ _ hT).1
  have HB := Lib.hid hb
  have HV := Lib.hid (SynP.parseV_tok hT)
  simp only at hk0
  have hkk : ((k : Int) != 0) = true := by simp; omega
  clear hb hT hk0
  go_wp2_with fail
  go_ret3
  unfold PaP
  rw [HV.out]
  exact ⟨rfl, HB.out⟩
 | ok ts =>
  rw [hT] at hn
  obtain ⟨R, tv, rfl, hR, hb, h⟩ := hn
  have HS := Lib.hid h
  have HB := Lib.hid hb
  have HT := Lib.hid hT
  have hg := SynP.good_line ((chars s.data.toList).length + 1) ⟨ts, 0⟩
  have hne : SynP.line ((chars s.data.toList).length + 1) (10 * ts.length + 9) ⟨ts, 0⟩ ≠ none := by
   intro e
   simp only [e] at hg
   exact hg.elim
  have HNE := Lib.hid hne
  have HG := Lib.hid hg
  clear hb hT h hg hne
  go_wp2_with fail
  refine (guarded_line ((chars s.data.toList).length + 1) (10 * ts.length + 9) R tv ts ⟨ts, 0⟩ _ _ HS.out HNE.out).mono ?_
  rintro e w2 hn
  unfold GuP at hn
  rcases hL : SynP.line ((chars s.data.toList).length + 1) (10 * ts.length + 9) ⟨ts, 0⟩ with - | (⟨c, k⟩ | ⟨n, s'⟩) <;> rw [hL] at hn
  ·exact hn.elim
  ·obtain ⟨rfl, hw⟩ := hn
   have hk0 := HG.out
   simp only [hL] at hk0
   have hk1 : 0 < k := hk0
   have HV := Lib.hid (SynP.parseV_err HT.out hL)
   have HW := Lib.hid (below_next (Wr.belowR hw HB.out hR) (below_alloc w2 (.cells #[.int .i64 (c : Nat), .int .i64 (k : Nat)] 105)))
   have hkk : ((k : Int) != 0) = true := by simp; omega
   clear hk0 hL hw
   go_wp2_with fail
   go_region
   go_wp2_with fail
   go_ret3
   unfold PaP
   rw [HV.out]
   exact ⟨rfl, Below.drew HW.out⟩
  ·obtain ⟨rfl, a', nv', ns', n1, n2, n3⟩ := hn
   have HV := Lib.hid (SynP.parseV_ok HT.out hL)
   have HA := Lib.hid (below_alloc w2 (.cells #[.int .i64 0, .int .i64 0] 105))
   have HW := Lib.hid (below_next (Wr.belowR n2 HB.out hR) HA.out)
   have n1' := n1.below HA.out
   have HTR := Lib.hid (n1'.tr hR)
   have e4 := n1'.cells.2.2.2.2
   have hlen : ns'.length = n.size := by
    have := congrArg List.length n3
    rw [List.length_map, ln_size] at this
    exact this
   have HN3 := Lib.hid n3
   have HLEN := Lib.hid hlen
   obtain ⟨ao, cap, rfl, -, -, -⟩ := ownsRow_shape n1.own
   obtain ⟨m, hm⟩ : ∃ m, m = ns'.length := ⟨_, rfl⟩
   rw [← hm] at e4
   have HM := Lib.hid hm
   clear hL n1 n1' n2 n3 hlen hm
   by_cases hbig : 4096 < n.size
   ·have hmb : (4096 : Int) < (m : Int) := by have h1 := HM.out; have h2 := HLEN.out; omega
    have hdd : decide ((4096 : Int) < (m : Int)) = true := decide_eq_true hmb
    have HBG := Lib.hid hbig
    clear hbig hmb
    go_wp2_with fail
    go_ret3
    unfold PaP
    rw [HV.out, if_pos HBG.out]
    exact ⟨rfl, HW.out⟩
   ·have hmb : ¬ (4096 : Int) < (m : Int) := by have h1 := HM.out; have h2 := HLEN.out; omega
    have hdd : decide ((4096 : Int) < (m : Int)) = false := decide_eq_false hmb
    have HBG := Lib.hid hbig
    clear hbig hmb
    go_wp2_with fail
    go_ret3
    unfold PaP
    rw [HV.out, if_neg HBG.out]
    refine ⟨.slice ao m cap, ns', rfl, HW.out, ?_, HN3.out⟩
    rw [HM.out]; exact HTR.out
end Go.Proofs.YtceggplnggkdnaaGreatDoor
namespace Go.Proofs.YtceggplnggkdnaaGreatDoor
open Go.RowKit NatP LexP Go.ChangeMaps
theorem ndC_at : ∀ (a : List Nv) (k : Nat) (t : Nv), a[k]? = some t →
  (ndCells a)[k * 3]? = some (.int .i64 (t.1.op : Nat)) ∧ (ndCells a)[k * 3 + 1]? = some (.string ⟨t.1.text.toArray⟩) ∧ (ndCells a)[k * 3 + 2]? = some t.2 := by
 intro a
 induction a with
 | nil => intro k t h; simp at h
 | cons d cs ih =>
  intro k t h
  cases k with
  | zero => simp at h; subst h; simp [ndCells]
  | succ k =>
   simp only [List.getElem?_cons_succ] at h
   obtain ⟨h1, h2, h3⟩ := ih k t h
   have e0 : (k + 1) * 3 = k * 3 + 1 + 1 + 1 := by omega
   have e1 : (k + 1) * 3 + 1 = k * 3 + 1 + 1 + 1 + 1 := by omega
   have e2 : (k + 1) * 3 + 2 = k * 3 + 2 + 1 + 1 + 1 := by omega
   have ec : ndCells (d :: cs) = .int .i64 (d.1.op : Nat) :: .string ⟨d.1.text.toArray⟩ :: d.2 :: ndCells cs := by simp [ndCells]
   rw [e1, e2, e0, ec]
   simp only [List.getElem?_cons_succ]
   exact ⟨h1, h2, h3⟩
theorem KR.kdr {w : World} {R : Nat} {og : Option Nat} {v : Value} {ks : List Nat} (h : KR w R og v ks) : KdR w w.heap.size v ks := by
 obtain ⟨ao, cap, rfl, h1, h2, h3, h4⟩ := h
 refine ⟨ao, cap, rfl, h1, h2, fun h0 => ?_⟩
 obtain ⟨g, rfl, h5⟩ := h4 h0
 exact ⟨g, rfl, (h3 g rfl).2.1, h5⟩
def NdR (w : World) (W : Nat) (v : Value) (ns : List SynP.Node) : Prop := ∃ g cap, v = .slice (some ⟨g, 0, none⟩) ns.length cap ∧ g < W ∧ ns.length ≤ cap ∧ cap ≤ maxLen ∧ ∀ j n, ns[j]? = some n → w.cell? ⟨g, j * 3, none⟩ = some (.int .i64 (n.op : Nat)) ∧ w.cell? ⟨g, j * 3 + 1, none⟩ = some (.string ⟨n.text.toArray⟩) ∧ ∃ kv, w.cell? ⟨g, j * 3 + 2, none⟩ = some kv ∧ KdR w W kv n.kids
theorem Tr.ndr {w : World} {B : Nat} {nv : Value} {ns : List Nv} (h : Tr w B nv ns) (h0 : 0 < ns.length) : NdR w w.heap.size nv (ns.map Prod.fst) := by
 obtain ⟨ao, cap, rfl, a1, a2, a3⟩ := ownsRow_shape h.own
 have hl : (ns.map Prod.fst).length = ns.length := by simp
 obtain ⟨g, rfl, -, b2, b3⟩ := a3 h0
 refine ⟨g, cap, by rw [hl], b2, by rw [hl]; exact a1, a2, fun j x hj => ?_⟩
 simp only [List.getElem?_map] at hj
 cases hp : ns[j]? with
 | none => rw [hp] at hj; cases hj
 | some p =>
  rw [hp] at hj
  cases hj
  have hjl := (List.getElem?_eq_some_iff.1 hp).1
  obtain ⟨c1, c2, c3⟩ := ndC_at ns j p hp
  exact ⟨by rw [b3 _ (by omega)]; exact c1, by rw [b3 _ (by omega)]; exact c2, p.2, by rw [b3 _ (by omega)]; exact c3, (h.kids p (List.mem_of_getElem? hp)).kdr⟩
theorem nodesV_at (t : SynP.Nms) : ∀ (l : List SynP.Node) (vs0 vs : List SynP.Vl), SynP.nodesV t l vs0 = .ok vs → vs.length = vs0.length + l.length ∧ vs.take vs0.length = vs0 ∧ ∀ (i : Nat) (n : SynP.Node), l[i]? = some n → ∃ v, vs[vs0.length + i]? = some v ∧ SynP.nodeV t (vs.take (vs0.length + i)) n = .ok v
 | [], vs0, vs, h => by
  simp only [SynP.nodesV, Except.ok.injEq] at h
  subst h
  exact ⟨rfl, List.take_length, fun i n h => by simp at h⟩
 | n :: l, vs0, vs, h => by
  simp only [SynP.nodesV] at h
  cases hv : SynP.nodeV t vs0 n with
  | error e => rw [hv] at h; cases h
  | ok v =>
   rw [hv] at h
   obtain ⟨h1, h2, h3⟩ := nodesV_at t l (vs0 ++ [v]) vs h
   simp only [List.length_append, List.length_singleton] at h1 h2 h3
   have ht : vs.take vs0.length = vs0 := by
    have := congrArg (List.take vs0.length) h2
    rw [List.take_take, List.take_left, Nat.min_eq_left (Nat.le_succ _)] at this
    exact this
   refine ⟨by simp only [List.length_cons]; omega, ht, fun i m hi => ?_⟩
   cases i with
   | zero =>
    simp only [List.getElem?_cons_zero, Option.some.injEq] at hi
    subst hi
    refine ⟨v, ?_, by rw [Nat.add_zero, ht]; exact hv⟩
    have : vs[vs0.length]? = (vs.take (vs0.length + 1))[vs0.length]? := by rw [List.getElem?_take, if_pos (Nat.lt_succ_self _)]
    rw [Nat.add_zero, this, h2]; simp
   | succ i =>
    rw [List.getElem?_cons_succ] at hi
    obtain ⟨u, a, b⟩ := h3 i m hi
    rw [show vs0.length + (i + 1) = vs0.length + 1 + i from by omega]
    exact ⟨u, a, b⟩
def NdOk (n : SynP.Node) (i : Nat) : Prop := (n.op = 3 ∨ n.op = 2 ∨ (n.op = 8 ∧ n.kids.length = 2)) ∧ (∀ k ∈ n.kids, k < i) ∧ n.kids.length ≤ 100000 ∧ n.text.length ≤ 67108864
theorem two_kids {l : List Nat} (h : l.length = 2) : ∃ a b, l = [a, b] := by
 match l, h with
 | [a, b], _ => exact ⟨a, b, rfl⟩
theorem node_any (W B E M : Nat) (tv vv kv : Value) (n : SynP.Node) (vs : List SynP.Vl) (t : SynP.Nms) (w : World) (hW : w.heap[W]? = some (.cells #[.pointer (some ⟨E, 0, none⟩), tv, vv] 67 (0, 0))) (hV : VsR w B vv vs) (hK : KdR w W kv n.kids) (hn : NdOk n vs.length)
  (hT : Tb w E M t) (hx : Lx w) (hs : SG w) (hsz : 6 < w.heap.size) (v : SynP.Vl) (hv : SynP.nodeV t vs n = .ok v) :
  Calls Tryz.prog 34 #[.pointer (some ⟨W, 0, none⟩), .agg #[.int .i64 (n.op : Nat), .string ⟨n.text.toArray⟩, kv]] w (OkP v w) := by
 obtain ⟨op, tx, ks⟩ := n
 obtain ⟨h1, h2, h3, h4⟩ := hn
 simp only at h1 h2 h3 h4 hK ⊢
 unfold SynP.nodeV at hv
 rcases h1 with rfl | rfl | ⟨rfl, h5⟩
 ·simp only at hv
  cases hm : SynP.readM tx with
  | error e => rw [hm] at hv; cases hv
  | ok m =>
   rw [hm] at hv
   cases hv
   exact node_mat W B _ tv vv kv tx vs ks w hW hV hK h2 h3 h4 hx hs hsz m hm
 ·simp only at hv
  cases hg : t.get tx with
  | none => rw [hg] at hv; cases hv
  | some x =>
   rw [hg] at hv
   cases hv
   exact node_name W B E M tv vv kv tx vs ks t w hW hV hK h2 h3 hT _ hg
 ·obtain ⟨k0, k1, rfl⟩ := two_kids h5
  simp only [SynP.kidV, List.getElem?_cons_zero, List.getElem?_cons_succ, Option.bind_some] at hv
  cases ha : vs[k0]? with
  | none => rw [ha] at hv; cases hv
  | some x =>
   rw [ha] at hv
   cases hb : vs[k1]? with
   | none => rw [hb] at hv; cases x <;> cases hv
   | some y =>
    rw [hb] at hv
    cases x with
    | num p => cases hv
    | cpx p => cases hv
    | mat a =>
     cases y with
     | num p => cases hv
     | cpx p => cases hv
     | mat b => exact node_mul W B _ tv vv kv _ vs k0 k1 w hW hV hK a b ha hb v hv
def WkR (w : World) (W E : Nat) (nv vv : Value) (vs : List SynP.Vl) : Prop := w.heap[W]? = some (.cells #[.pointer (some ⟨E, 0, none⟩), nv, vv] 67 (0, 0)) ∧ VsR w (W + 1) vv vs
theorem nobu_work {w : World} {W E : Nat} {ao bo : Option Addr} {a b c d : Nat} (h : w.heap[W]? = some (.cells #[.pointer (some ⟨E, 0, none⟩), .slice ao a b, .slice bo c d] 67 (0, 0))) : NoBU w W := by
 intro o
 rw [cell_of_row w W o _ _ _ h]
 match o with
 | 0 => exact ⟨fun b e => (by cases e), fun x e => (by cases e)⟩
 | 1 => exact ⟨fun b e => (by cases e), fun x e => (by cases e)⟩
 | 2 => exact ⟨fun b e => (by cases e), fun x e => (by cases e)⟩
 | o + 3 => exact ⟨fun b e => (by simp at e), fun x e => (by simp at e)⟩
theorem VsR.stayW {w w' : World} {W B : Nat} {v : Value} {vs : List SynP.Vl} (h : VsR w B v vs) (hB : W < B) (hq : NoBU w W) (hg : w.grownBy w' (some W)) : VsR w' B v vs := by
 obtain ⟨us, h1, h2, h3, h4⟩ := h
 have hne : ∀ g, v.ownBlock = some g → g ≠ W := fun g e1 e2 => by have := (h2.lt g e1).1; omega
 refine ⟨us, h1, h2.kept hg (.inr fun e => hne W e rfl), fun g e => (h3 g e).kept (hg.block g (h2.lt g e).2 (fun e2 => hne g e (by cases e2; rfl))), fun j u x a b => (h4 j u x a b).stay hq hg⟩
theorem WkR.push {w5 w7 : World} {W E g2 cap2 : Nat} {ao bo : Option Addr} {a b c d : Nat} {vs : List SynP.Vl} {us : List Value} {u : Value} {x : SynP.Vl} (hW : w5.heap[W]? = some (.cells #[.pointer (some ⟨E, 0, none⟩), .slice ao a b, .slice bo c d] 67 (0, 0)))
  (h1 : us.length = vs.length) (h2 : w5.ownsRow (W + 1) 72 1 (.slice bo c d) vs.length us) (h3 : ∀ g, (Value.slice bo c d).ownBlock = some g → IfB w5 g) (h4 : ∀ (j : Nat) (u : Value) (x : SynP.Vl), us[j]? = some u → vs[j]? = some x → VR w5 u x) (hx : VR w5 u x)
  (hown : w7.ownsRow (W + 1) 72 1 (.slice (some ⟨g2, 0, none⟩) (vs.length + 1) cap2) (vs.length + 1) (us ++ [u])) (hgr : (w5.alloc (.cells #[u] 72)).grownBy w7 (Value.slice bo c d).ownBlock) (hif : IfB w7 g2) :
  WkR (w7.setCell ⟨W, 2, none⟩ (.slice (some ⟨g2, 0, none⟩) (vs.length + 1) cap2)) W E (.slice ao a b) (.slice (some ⟨g2, 0, none⟩) (vs.length + 1) cap2) (vs ++ [x]) ∧ Below W w5 (w7.setCell ⟨W, 2, none⟩ (.slice (some ⟨g2, 0, none⟩) (vs.length + 1) cap2)) := by
 have hA := below_alloc w5 (.cells #[u] 72)
 have hlt := (Array.getElem?_eq_some_iff.1 hW).1
 have hne : some W ≠ (Value.slice bo c d).ownBlock := fun e => by have := (h2.lt W e.symm).1; omega
 have hW7 := (hgr.block W (Nat.lt_of_lt_of_le hlt hA.size) hne).trans (blk_keep hA hW)
 have V7 : VsR w7 (W + 1) (.slice (some ⟨g2, 0, none⟩) (vs.length + 1) cap2) (vs ++ [x]) := VsR.push (w := w5.alloc (.cells #[u] 72)) h1 (fun q hq => (h3 q hq).kept (hA.block q (h2.lt q hq).2)) (fun j a b x1 x2 => (h4 j a b x1 x2).below hA) (hx.below hA) hown hgr hif
 refine ⟨⟨(heap_setCell_same w7 W 2 _ 67 _ hW7).trans (by simp), V7.stayW (Nat.lt_succ_self W) (nobu_work hW7) (grown_setG w7 _)⟩, ?_⟩
 have hb : Below W w5 w7 := Below.grown (hA.mono (Nat.le_of_lt hlt)) hgr (Nat.le_trans (Nat.le_of_lt hlt) hA.size) (fun q hq => by have := (h2.lt q hq).1; omega)
 exact hb.setCell (p := ⟨W, 2, none⟩) (Nat.le_refl _) _
set_option maxRecDepth 100000 in
set_option maxHeartbeats 4000000 in
theorem do_any (E M : Nat) (t : SynP.Nms) (s : ByteArray) (n : SynP.Ln) (ns0 : List SynP.Node) (last : SynP.Node) (vs : List SynP.Vl) (w : World) (Q : Value → World → World → Prop)
  (hp : SynP.parseV s.data.toList = .ok n) (hfl : n.flat = ns0 ++ [last]) (hnv : SynP.nodesV t ns0 [] = .ok vs) (hok : ∀ i n, ns0[i]? = some n → NdOk n i) (hsm : ns0.length ≤ 100000)
  (hf : Fits s.data.toList) (hT : Tb w E M t) (hx : Lx w) (hs : SG w) (hsz : 6 < w.heap.size)
  (hwh : ∀ W nv vv kv wr, Below w.heap.size w wr → w.heap.size ≤ W → wr.heap[W]? = some (.cells #[.pointer (some ⟨E, 0, none⟩), nv, vv] 67 (0, 0)) → VsR wr (W + 1) vv vs → KdR wr W kv last.kids →
   Calls Tryz.prog 36 #[.pointer (some ⟨W, 0, none⟩), .agg #[.int .i64 (last.op : Nat), .string ⟨last.text.toArray⟩, kv]] wr fun e w' => ∃ lv, e = .returned (.tuple #[lv, .nilIface]) ∧ Q lv wr w') :
  Calls Tryz.prog 14 #[.pointer (some ⟨E, 0, none⟩), .string s] w fun e w' => ∃ lv wr, e = .returned (.tuple #[lv, .int .i64 0]) ∧ Below w.heap.size w wr ∧ Q lv wr w' := by
 obtain ⟨i0, hi0, hz0, hz1, hz2⟩ := info_parts Tryz.infoIf
 have HP := Lib.hid (parse_any s w hf hx hs hsz)
 have HPV := Lib.hid hp
 have HFL := Lib.hid hfl
 have HNV := Lib.hid (nodesV_at t ns0 [] vs hnv)
 have HOK := Lib.hid hok
 have HT := Lib.hid hT
 have HX := Lib.hid hx
 have HS := Lib.hid hs
 have HWH := Lib.hid hwh
 clear hp hfl hnv hok hT hx hs hwh hf
 go_enter Tryz.func14, Tryz.ntmps14
 go_wp2_with fail
 refine HP.out.mono ?_
 rintro e w1 hp1
 unfold PaP at hp1
 rw [HPV.out] at hp1
 obtain ⟨nv, ns, rfl, hb1, htr, hns⟩ := hp1
 rw [HFL.out] at hns
 have hl0 : 0 < ns.length := by have := congrArg List.length hns; simp at this; omega
 have hnd := htr.ndr hl0
 rw [hns] at hnd
 obtain ⟨N, hN⟩ : ∃ N, ns0.length = N := ⟨_, rfl⟩
 obtain ⟨tg, tcap, rfl, n1, n2, n3, n4⟩ := hnd
 simp only [List.length_append, List.length_singleton, hN] at n2 ⊢
 have HN := Lib.hid hN
 rw [hN] at hsm
 have HB1 := Lib.hid hb1
 have HND := Lib.hid n4
 clear hb1 htr hns hl0 n4 hN
 go_wp2_with fail
 have HB2 := Lib.hid ((Below.refl w1.heap.size w1).alloc (Nat.le_refl _) (.cells #[.pointer (some ⟨E, 0, none⟩), .slice (some ⟨tg, 0, none⟩) (N + 1) tcap, .slice none 0 0] 67))
 have HW2 := Lib.hid (heap_alloc_new w1 (.cells #[.pointer (some ⟨E, 0, none⟩), .slice (some ⟨tg, 0, none⟩) (N + 1) tcap, .slice none 0 0] 67))
 have HZ2 : Hid (w1.heap.size < (w1.alloc (.cells #[.pointer (some ⟨E, 0, none⟩), .slice (some ⟨tg, 0, none⟩) (N + 1) tcap, .slice none 0 0] 67)).heap.size) := by show _ < _; simp
 generalize hw2 : w1.alloc (.cells #[.pointer (some ⟨E, 0, none⟩), .slice (some ⟨tg, 0, none⟩) (N + 1) tcap, .slice none 0 0] 67) = w2 at *
 clear hw2
 obtain ⟨W, hW⟩ : ∃ W, w1.heap.size = W := ⟨_, rfl⟩
 rw [hW] at HB2 HW2 HZ2 HND n1 ⊢
 have HWW := Lib.hid hW
 clear hW
 go_loopw [37] (fun iv wr => ∃ k vv, k ≤ N ∧ iv = .int .i64 (k : Nat) ∧ WkR wr W E (.slice (some ⟨tg, 0, none⟩) (N + 1) tcap) vv (vs.take k) ∧ Below W w1 wr ∧ W < wr.heap.size) (fun iv _ => N - (intOf iv).toNat)
 case atStart => exact ⟨0, _, Nat.zero_le _, rfl, ⟨HW2.out, VsR.nil _ _⟩, HB2.out, HZ2.out⟩
 case round =>
  obtain ⟨k, vv, hk, rfl, hwk, hb, hWl⟩ := hrel
  have HWK := Lib.hid hwk
  have HB := Lib.hid hb
  clear hwk hb
  by_cases hlt : k < N
  ·obtain ⟨nd, hnd⟩ : ∃ nd, ns0[k]? = some nd := ⟨_, List.getElem?_eq_getElem (by have := HN.out; omega)⟩
   obtain ⟨x, hxk, hxv⟩ := HNV.out.2.2 k nd hnd
   simp only [List.length_nil, Nat.zero_add] at hxk hxv
   have hln : (vs.take k).length = k := by rw [List.length_take]; have := HNV.out.1; simp at this; have := HN.out; omega
   obtain ⟨x0, x1, kv, x2, x3⟩ := HND.out k nd (by rw [List.getElem?_append_left (by have := HN.out; omega)]; exact hnd)
   obtain ⟨ko, kcap, hkv, -⟩ := id x3
   subst hkv
   have c0 := (HB.out.cell (p := ⟨tg, k * 3, none⟩) n1).trans x0
   have c1 := (HB.out.cell (p := ⟨tg, k * 3 + 1, none⟩) n1).trans x1
   have c2 := (HB.out.cell (p := ⟨tg, k * 3 + 2, none⟩) n1).trans x2
   have hbw : Below w.heap.size w wr := HB1.out.trans (HB.out.mono (by have := HWW.out; have := HB1.out.size; omega))
   have hb9 := below_alloc wr (.cells #[.int .i64 (nd.op : Nat), .string ⟨nd.text.toArray⟩, .slice ko nd.kids.length kcap] 70)
   have hbw9 := hbw.trans (hb9.mono hbw.size)
   obtain ⟨lo, lcap, hvv⟩ := HWK.out.2.shape
   subst hvv
   have hno := node_any W (W + 1) E M _ _ _ nd (vs.take k) t _ (blk_keep hb9 HWK.out.1) (HWK.out.2.below hb9) ((x3.below HB.out).below (hb9.mono (Nat.le_of_lt hWl))) (by rw [hln]; exact HOK.out k nd hnd) (HT.out.below hbw9) (HX.out.below hbw9) (HS.out.below hbw9 hsz) (Nat.lt_of_lt_of_le hsz hbw9.size) x hxv
   have hW9 := blk_keep hb9 HWK.out.1
   have hV9 := HWK.out.2.below hb9
   obtain ⟨LO, hLO⟩ : ∃ b : Int, (nd.op : Int) = b := ⟨_, rfl⟩
   obtain ⟨LT, hLT⟩ : ∃ b : ByteArray, (⟨nd.text.toArray⟩ : ByteArray) = b := ⟨_, rfl⟩
   rw [hLO] at c0 hno hW9 hV9 hb9 hbw9
   rw [hLT] at c1 hno hW9 hV9 hb9 hbw9
   rw [hln] at hW9 hV9
   have HNO := Lib.hid hno
   have HW9 := Lib.hid hW9
   have HV9 := Lib.hid hV9
   have HB9 := Lib.hid hb9
   have HLN := Lib.hid hln
   have HTK : Hid (vs.take (k + 1) = vs.take k ++ [x]) := by show _ = _; rw [List.take_add_one, hxk]; rfl
   clear hLO hLT x0 x1 x2 x3 hno hW9 hV9 hb9 hbw9 hbw hxk hxv hnd hln HWK
   go_wp2_with fail
   refine HNO.out.mono ?_
   rintro e w5 ⟨u, rfl, hu, hb5⟩
   have hW5 := blk_keep hb5 HW9.out
   have hV5 := HV9.out.below hb5
   obtain ⟨us, u1, u2, u3, u4⟩ := hV5
   rw [HLN.out] at u2
   have c3 : w5.cell? ⟨W, 2, none⟩ = some (.slice lo k lcap) := (cell_of_row _ _ _ _ _ _ hW5).trans rfl
   have hlw5 : W < w5.heap.size := (Array.getElem?_eq_some_iff.1 hW5).1
   have f3 := frozen_of_row w5 _ 2 _ _ hW5
   obtain ⟨ut, ux, hux⟩ := hu.iface
   subst hux
   have hif := hu.isIf
   have hone := hu.one
   have HU := Lib.hid hu
   have U1 := Lib.hid u1
   have U2 := Lib.hid u2
   have U3 := Lib.hid u3
   have U4 := Lib.hid u4
   have HW5 := Lib.hid hW5
   have HB5 := Lib.hid hb5
   have W0 := Lib.hid (heap_alloc_new w5 (.cells #[.iface ut ux] 72))
   have HA2 := Lib.hid (below_alloc w5 (.cells #[.iface ut ux] 72))
   clear c0 c1 c2 hu u1 u2 u3 u4 hb5 hW5
   go_wp2_with (at_builtin; go_loud (refine wpList_append_if _ rfl (.tmp 55) (.tmp 57) 65 rfl 72 i0 Tryz.underlying65 hi0 hz0 hz1 hz2 (W + 1) (.slice lo k lcap) k us rfl (U2.out.alloc _) (fun q hq => (U3.out q hq).kept (HA2.out.block q (U2.out.lt q hq).2)) ⟨w5.heap.size, 0, none⟩ 1 (.iface ut ux) rfl ((cell_of_row _ _ _ _ _ _ W0.out).trans rfl) rfl hone hif (by omega) (by simp; omega) (w5.heap.size + 1) (by simp) ?_; intro g2 cap2 w7 hown2 hgr hat hlt2 hifb; have d4 : w7.cell? ⟨W, 2, none⟩ = some (.slice lo k lcap) := (hgr.cell_far ⟨W, 2, none⟩ (by simp; omega) (fun e => by have := (U2.out.lt W e.symm).1; omega)).trans (cell_keep HA2.out c3); have d5 : w7.frozen? ⟨W, 2, none⟩ = false := (hgr.frozen_far ⟨W, 2, none⟩ (by simp; omega) (fun e => by have := (U2.out.lt W e.symm).1; omega)).trans (fro_keep HA2.out c3 f3); have Hown2 := Lib.hid hown2; have Hgr := Lib.hid hgr; have Hifb := Lib.hid hifb; clear hown2 hgr hat hlt2 hifb))
   have hfin : ∃ (k' : Nat) (vv : Value), k' ≤ N ∧ (Value.int .i64 ((k : Int) + 1)) = .int .i64 (k' : Nat) ∧ WkR (w7.setCell ⟨W, 2, none⟩ (.slice (some ⟨g2, 0, none⟩) (k + 1) cap2)) W E (.slice (some ⟨tg, 0, none⟩) (N + 1) tcap) vv (vs.take k') ∧ Below W w1 (w7.setCell ⟨W, 2, none⟩ (.slice (some ⟨g2, 0, none⟩) (k + 1) cap2)) ∧ W < (w7.setCell ⟨W, 2, none⟩ (.slice (some ⟨g2, 0, none⟩) (k + 1) cap2)).heap.size := by
    have hpl := HLN.out
    obtain ⟨p1, p2⟩ := WkR.push (vs := vs.take k) (us := us) (x := x) (u := .iface ut ux) (w7 := w7) (g2 := g2) (cap2 := cap2) HW5.out U1.out (by rw [hpl]; exact U2.out) U3.out U4.out HU.out (by rw [hpl]; exact Hown2.out) Hgr.out Hifb.out
    rw [hpl] at p1 p2
    rw [← HTK.out] at p1
    have q1 : Below W w1 w5 := HB.out.trans ((HB9.out.trans (HB5.out.mono HB9.out.size)).mono (Nat.le_of_lt hWl))
    exact ⟨k + 1, _, by omega, by go_num, p1, q1.trans p2, (Array.getElem?_eq_some_iff.1 p1.1).1⟩
   exact ⟨hfin, by simp [intOf]; omega⟩
  ·obtain rfl : k = N := by omega
   have hnl := HND.out k last (by rw [← HN.out]; simp)
   obtain ⟨x0, x1, kv, x2, x3⟩ := hnl
   have c0 := (HB.out.cell (p := ⟨tg, k * 3, none⟩) n1).trans x0
   have c1 := (HB.out.cell (p := ⟨tg, k * 3 + 1, none⟩) n1).trans x1
   have c2 := (HB.out.cell (p := ⟨tg, k * 3 + 2, none⟩) n1).trans x2
   have hvs : vs.take k = vs := by rw [List.take_of_length_le]; have := HNV.out.1; simp at this; have := HN.out; omega
   rw [hvs] at HWK
   have hbw : Below w.heap.size w wr := HB1.out.trans (HB.out.mono (by have := HWW.out; have := HB1.out.size; omega))
   have HBW := Lib.hid hbw
   have HC := Lib.hid (HWH.out W _ vv kv wr hbw (by have := HWW.out; have := HB1.out.size; omega) HWK.out.1 HWK.out.2 (x3.below HB.out))
   clear x0 x1 x2 x3 hvs hbw
   obtain ⟨LO, hLO⟩ : ∃ b : Int, (last.op : Int) = b := ⟨_, rfl⟩
   obtain ⟨LT, hLT⟩ : ∃ b : ByteArray, (⟨last.text.toArray⟩ : ByteArray) = b := ⟨_, rfl⟩
   rw [hLO] at c0 HC
   rw [hLT] at c1 HC
   clear hLO hLT
   go_wp2_with fail
   refine HC.out.mono ?_
   rintro e w5 ⟨lv, rfl, hq⟩
   have HQ := Lib.hid hq
   clear hq c0 c1 c2
   go_wp2_with fail
   go_ret2
   exact ⟨_, _, rfl, HBW.out, HQ.out⟩
end Go.Proofs.YtceggplnggkdnaaGreatDoor
namespace Go.Proofs.YtceggplnggkdnaaGreatDoor
open Go.RowKit NatP LexP Go.ChangeMaps
def wkA : Bytes := [108, 101, 116, 32, 65, 32, 61, 32, 91, 50, 32, 52, 59, 32, 54, 32, 56, 93]
def wkB : Bytes := [112, 114, 105, 110, 116, 32, 65, 42, 91, 49, 59, 32, 45, 49, 93]
def wkC : Bytes := [91, 45, 50, 59, 32, 45, 50, 93]
def nsA : List SynP.Node := [⟨3, [91, 50, 32, 52, 59, 32, 54, 32, 56, 93], []⟩]
def lsA : SynP.Node := ⟨11, [65], [0]⟩
def nsB : List SynP.Node := [⟨2, [65], []⟩, ⟨3, [91, 49, 59, 32, 45, 49, 93], []⟩, ⟨8, [], [0, 1]⟩]
def lsB : SynP.Node := ⟨12, [112, 114, 105, 110, 116], [2]⟩
def mA : SynP.MatV := ⟨2, 2, [(false, 2), (false, 4), (false, 6), (false, 8)]⟩
def mB : SynP.MatV := ⟨2, 1, [(false, 1), (true, 1)]⟩
def mC : SynP.MatV := ⟨2, 1, [(true, 2), (true, 2)]⟩
theorem flat_of {l : Bytes} {ns : List SynP.Node} (h : (match SynP.parseV l with | .ok n => decide (n.flat = ns) | .error _ => false) = true) : ∃ n, SynP.parseV l = .ok n ∧ n.flat = ns := by
 split at h
 ·next n hn => exact ⟨n, hn, of_decide_eq_true h⟩
 ·cases h
theorem wkA_flat : ∃ n, SynP.parseV wkA = .ok n ∧ n.flat = nsA ++ [lsA] := flat_of (by kernel_rfl)
theorem wkB_flat : ∃ n, SynP.parseV wkB = .ok n ∧ n.flat = nsB ++ [lsB] := flat_of (by kernel_rfl)
theorem nsA_v : SynP.nodesV [] nsA [] = .ok [.mat mA] := by kernel_rfl
theorem nsB_v : SynP.nodesV [([65], .mat mA)] nsB [] = .ok [.mat mA, .mat mB, .mat mC] := by kernel_rfl
theorem mC_x : matX mC = wkC := by kernel_rfl
theorem nsA_ok : ∀ i n, nsA[i]? = some n → NdOk n i := by
 intro i n h
 match i, h with
 | 0, h => cases h; exact ⟨.inl rfl, fun k hk => (by cases hk), by decide, by decide⟩
 | i + 1, h => simp [nsA] at h
theorem nsB_ok : ∀ i n, nsB[i]? = some n → NdOk n i := by
 intro i n h
 match i, h with
 | 0, h => cases h; exact ⟨.inr (.inl rfl), fun k hk => (by cases hk), by decide, by decide⟩
 | 1, h => cases h; exact ⟨.inl rfl, fun k hk => (by cases hk), by decide, by decide⟩
 | 2, h => cases h; exact ⟨.inr (.inr ⟨rfl, rfl⟩), by decide, by decide, by decide⟩
 | i + 3, h => simp [nsB] at h
end Go.Proofs.YtceggplnggkdnaaGreatDoor
namespace Go.Proofs.YtceggplnggkdnaaGreatDoor
open Go.RowKit NatP LexP Go.ChangeMaps
theorem do_first (E M : Nat) (w : World) (hT : Tb w E M []) (hx : Lx w) (hs : SG w) (hsz : 6 < w.heap.size) :
  Calls Tryz.prog 14 #[.pointer (some ⟨E, 0, none⟩), .string ⟨#[108, 101, 116, 32, 65, 32, 61, 32, 91, 50, 32, 52, 59, 32, 54, 32, 56, 93]⟩] w fun e w' => e = .returned (.tuple #[.slice none 0 0, .int .i64 0]) ∧ Tb w' E M [([65], .mat mA)] ∧ Wr M none w w' := by
 obtain ⟨n, hn, hfl⟩ := wkA_flat
 have hML : M < w.heap.size := by obtain ⟨-, -, es, clock, h2, -⟩ := hT; exact (Array.getElem?_eq_some_iff.1 h2).1
 refine (do_any E M [] ⟨#[108, 101, 116, 32, 65, 32, 61, 32, 91, 50, 32, 52, 59, 32, 54, 32, 56, 93]⟩ n nsA lsA [.mat mA] w (fun lv wr w' => lv = .slice none 0 0 ∧ Tb w' E M [([65], .mat mA)] ∧ Wr M none wr w') hn hfl nsA_v nsA_ok (by decide) (show wkA.length ≤ 67108864 by decide) hT hx hs hsz ?_).mono ?_
 ·intro W nv vv kv wr hb hWl hW hV hK
  refine (whole_let W (W + 1) E M nv vv kv [65] [.mat mA] 0 (.mat mA) [] wr hW hV hK (hT.below hb) rfl (by decide)).mono ?_
  rintro e w' ⟨h1, h2, h3⟩
  exact ⟨_, h1, rfl, h2, h3⟩
 ·rintro e w' ⟨lv, wr, rfl, hb, rfl, h2, h3⟩
  exact ⟨rfl, h2, ⟨h3.os.trans hb.os, h3.tape.trans hb.tape, h3.output.trans hb.output, Nat.le_trans hb.size h3.size, fun k hk h1 h4 => (h3.block k (Nat.lt_of_lt_of_le hk hb.size) h1 h4).trans (hb.block k hk)⟩⟩
theorem do_second (E M : Nat) (w : World) (hT : Tb w E M [([65], .mat mA)]) (hx : Lx w) (hs : SG w) (hsz : 6 < w.heap.size) :
  Calls Tryz.prog 14 #[.pointer (some ⟨E, 0, none⟩), .string ⟨#[112, 114, 105, 110, 116, 32, 65, 42, 91, 49, 59, 32, 45, 49, 93]⟩] w fun e w' => ∃ g cap, e = .returned (.tuple #[.slice (some ⟨g, 0, none⟩) 1 cap, .int .i64 0]) ∧ w'.cell? ⟨g, 0, none⟩ = some (.string ⟨#[91, 45, 50, 59, 32, 45, 50, 93]⟩) ∧ Below w.heap.size w w' := by
 obtain ⟨n, hn, hfl⟩ := wkB_flat
 refine (do_any E M _ ⟨#[112, 114, 105, 110, 116, 32, 65, 42, 91, 49, 59, 32, 45, 49, 93]⟩ n nsB lsB [.mat mA, .mat mB, .mat mC] w (fun lv wr w' => SsO w' wr.heap.size lv [matX mC] ∧ Below wr.heap.size wr w') hn hfl nsB_v nsB_ok (by decide) (show wkB.length ≤ 67108864 by decide) hT hx hs hsz ?_).mono ?_
 ·intro W nv vv kv wr hb hWl hW hV hK
  exact whole_print W (W + 1) E nv vv kv [.mat mA, .mat mB, .mat mC] 2 mC wr hW hV hK rfl (by decide) (by decide) (by decide) (hs.below hb hsz) (Nat.lt_of_lt_of_le hsz hb.size)
 ·rintro e w' ⟨lv, wr, rfl, hb, ho, h3⟩
  rw [mC_x] at ho
  obtain ⟨ao, cap, rfl, -, -, a3⟩ := ownsRow_shape ho
  obtain ⟨g, rfl, -, -, a4⟩ := a3 (by decide)
  refine ⟨g, cap, rfl, ?_, hb.trans (h3.mono hb.size)⟩
  exact (a4 0 (by decide)).trans rfl
set_option maxRecDepth 100000 in
set_option maxHeartbeats 2000000 in
theorem wakes_any (w : World) (hx : Lx w) (hs : SG w) (hsz : 6 < w.heap.size) :
  Calls Tryz.prog 11 #[] w fun e w' => e = .returned (.bool true) ∧ Below w.heap.size w w' := by
 have HX := Lib.hid hx
 have HS := Lib.hid hs
 obtain ⟨M, hM⟩ : ∃ M, w.heap.size = M := ⟨_, rfl⟩
 have HM := Lib.hid hM
 have HN := Lib.hid (new_any w)
 rw [hM] at HN
 clear hx hs hM
 go_enter Tryz.func11, Tryz.ntmps11
 go_wp2_with fail
 refine HN.out.mono ?_
 rintro e w1 ⟨rfl, hT, hb1⟩
 rw [← HM.out] at hb1
 have HB1 := Lib.hid hb1
 have hD := do_first (M + 1) M w1 hT (HX.out.below hb1) (HS.out.below hb1 hsz) (Nat.lt_of_lt_of_le hsz hb1.size)
 have HD := Lib.hid hD
 clear hT hb1 hD
 go_wp2_with fail
 refine HD.out.mono ?_
 rintro e w2 ⟨rfl, hT2, hw2⟩
 have hb2 : Below w.heap.size w w2 := hw2.to_below HB1.out HB1.out.size (Nat.le_of_eq HM.out) (fun k hk => by cases hk)
 have HB2 := Lib.hid hb2
 have HD2 := Lib.hid (do_second (M + 1) M w2 hT2 (HX.out.below hb2) (HS.out.below hb2 hsz) (Nat.lt_of_lt_of_le hsz hb2.size))
 clear hT2 hw2 hb2
 go_wp2_with fail
 refine HD2.out.mono ?_
 rintro e w3 ⟨g, cap, rfl, hc, hb3⟩
 have HB3 := Lib.hid (HB2.out.trans (hb3.mono HB2.out.size))
 clear hb3
 go_wp2_with fail
 go_ret
 exact ⟨rfl, HB3.out⟩
end Go.Proofs.YtceggplnggkdnaaGreatDoor
namespace Go.Proofs.YtceggplnggkdnaaGreatDoor
open Go.RowKit NatP LexP Go.ChangeMaps
theorem do_nil (s : ByteArray) (w : World) : Calls Tryz.prog 14 #[.pointer none, .string s] w fun e w' => e = .returned (.tuple #[.slice none 0 0, .int .i64 3]) ∧ w' = w := by
 go_enter Tryz.func14, Tryz.ntmps14
 go_wp2_with fail
 go_ret2
 exact ⟨rfl, rfl⟩
theorem value_nil (s : ByteArray) (w : World) : Calls Tryz.prog 19 #[.pointer none, .string s] w fun e w' => e = .returned (.tuple #[.string ⟨#[]⟩, .int .i64 3]) ∧ w' = w := by
 go_enter Tryz.func19, Tryz.ntmps19
 go_wp2_with fail
 go_ret2
 exact ⟨rfl, rfl⟩
theorem names_nil (w : World) : Calls Tryz.prog 20 #[.pointer none] w fun e w' => e = .returned (.slice none 0 0) ∧ w' = w := by
 go_enter Tryz.func20, Tryz.ntmps20
 go_wp2_with fail
 go_ret
 exact ⟨rfl, rfl⟩
theorem copy_nil (w : World) : Calls Tryz.prog 21 #[.pointer none] w fun e w' => e = .returned (.pointer none) ∧ w' = w := by
 go_enter Tryz.func21, Tryz.ntmps21
 go_wp2_with fail
 go_ret
 exact ⟨rfl, rfl⟩
set_option maxRecDepth 100000 in
set_option maxHeartbeats 2000000 in
theorem evalNil_any (s : ByteArray) (w : World) (hx : Lx w) (hs : SG w) (hsz : 6 < w.heap.size) :
  Calls Tryz.prog 6 #[.string s] w fun e w' => e = .returned (.bool true) ∧ Below w.heap.size w w' := by
 have HW := Lib.hid (wakes_any w hx hs hsz)
 clear hx hs
 go_enter Tryz.func6, Tryz.ntmps6
 go_wp2_with fail
 refine HW.out.mono ?_
 rintro e w1 ⟨rfl, hb⟩
 have HB := Lib.hid hb
 clear hb
 go_wp2_with (first
  | (go_at_call 14; refine (do_nil s _).mono ?_; rintro e w2 ⟨rfl, rfl⟩)
  | (go_at_call 19; refine (value_nil s _).mono ?_; rintro e w2 ⟨rfl, rfl⟩)
  | (go_at_call 20; refine (names_nil _).mono ?_; rintro e w2 ⟨rfl, rfl⟩)
  | (go_at_call 21; refine (copy_nil _).mono ?_; rintro e w2 ⟨rfl, rfl⟩))
 go_ret
 exact ⟨rfl, HB.out⟩
end Go.Proofs.YtceggplnggkdnaaGreatDoor
