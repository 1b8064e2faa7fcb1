/- Joined texts of this claim's proof: WrD, WrE. -/
import Derived.Test.YtgfmiladfeoldaaGreatDoorPl41
set_option linter.unusedSimpArgs false
set_option linter.unusedVariables false
namespace Go.Proofs.YtgfmiladfeoldaaGreatDoor
open Go.RowKit NatP LexP
def intsOf (l : List Nat) : List Int := l.map fun k : Nat => (k : Int)
def AllRel (R : Nat) (tv bv : Value) (out : Bytes) (o m : Nat) (es : List SynP.Ex) (w : World) (i : Value) (wr : World) : Prop :=
 ∃ k bv', i = .int .i64 ((k : Nat) : Int) ∧ k ≤ es.length ∧ WrS wr R tv bv' (out ++ SynP.uptoP es k) o (max m (o + SynP.dpU es k)) ∧ Wr R bv.ownBlock w wr ∧ Mv w bv.ownBlock bv'.ownBlock
theorem upto_le : ∀ (ks : SynP.Exs) (i : Nat), i ≤ (SynP.exL ks).length → (SynP.uptoP (SynP.exL ks) i).length ≤ ks.pr.length := by
 intro ks i h
 rw [← SynP.uptoP_all ks]
 have : ∀ d, i + d ≤ (SynP.exL ks).length → (SynP.uptoP (SynP.exL ks) i).length ≤ (SynP.uptoP (SynP.exL ks) (i + d)).length := by
  intro d
  induction d with
  | zero => intro _; exact Nat.le_refl _
  | succ d ih =>
   intro hd
   have h1 := ih (by omega)
   have h2 : (SynP.exL ks)[i + d]? = some (SynP.exL ks)[i + d] := List.getElem?_eq_getElem (by omega)
   rw [show i + (d + 1) = (i + d) + 1 by omega, SynP.uptoP_succ h2, List.length_append]
   omega
 have := this ((SynP.exL ks).length - i) (by omega)
 rwa [show i + ((SynP.exL ks).length - i) = (SynP.exL ks).length by omega] at this
set_option maxRecDepth 100000 in
set_option maxHeartbeats 2000000 in
theorem all_of (ks : SynP.Exs) (IH : ∀ e ∈ SynP.exL ks, NodeOk e) (l : List SynP.NI) (R p : Nat) (tv bv : Value) (out : Bytes) (o m : Nat) (w : World) (h : WrS w R tv bv out o m) (ht : NdL w R tv l) (hs : SynP.SegN l p (ks.flat p)) (hl : out.length + ks.pr.length ≤ 274877906944) (ho : o + 2 * ks.size + 1 ≤ 100000) (hp : p + ks.size ≤ 100000)
  (op : Nat) (hop : op = 10 ∨ op = 12) (text : ByteArray) (kv : Value) (hk : KL w R kv (intsOf (ks.roots p))) :
  Calls Tryz.prog 108 #[.pointer (some ⟨R, 0, none⟩), .agg #[.int .i64 (op : Nat), .string text, kv]] w (WrP R tv bv (out ++ ks.pr) o (max m (o + ks.dp)) (.tuple #[]) w) := by
 have hloose : ∀ s q, SynP.loose op s q = false := by intro s q; rcases hop with rfl | rfl <;> rfl
 have hKL := hk
 obtain ⟨ko, kcap, rfl, k1, k2, -⟩ := hk
 have hn : (intsOf (ks.roots p)).length = (SynP.exL ks).length := by rw [intsOf, List.length_map, SynP.exL_roots]
 obtain ⟨n, hnn⟩ : ∃ n, n = (intsOf (ks.roots p)).length := ⟨_, rfl⟩
 rw [← hnn] at k1 hn hKL ⊢
 have HKL := Lib.hid hKL
 have HN := Lib.hid hnn
 have hRl := h.lt
 obtain ⟨w1, hw1⟩ : ∃ w1, w1 = w.alloc (.cells #[.int .i64 (op : Nat), .string text, .slice ko n kcap] 43) := ⟨_, rfl⟩
 have hb1 : Below w.heap.size w w1 := by rw [hw1]; exact below_alloc _ _
 have HS1 := Lib.hid (h.below hb1)
 have HT1 := Lib.hid (ht.below (hb1.mono (Nat.le_of_lt hRl)))
 have HK1 := Lib.hid (hKL.below (hb1.mono (Nat.le_of_lt hRl)))
 have hG : w1.heap[w.heap.size]? = some (.cells #[.int .i64 (op : Nat), .string text, .slice ko n kcap] 43 (0, 0)) := by rw [hw1]; exact heap_alloc_new _ _
 have HG := Lib.hid hG
 have HB1 := Lib.hid hb1
 have HGT : Hid (∀ q, bv.ownBlock = some q → q < w.heap.size) := fun q hq => (h.own.lt q hq).2
 have HSG := Lib.hid hs
 have HNE := Lib.hid hn
 have HLO := Lib.hid hloose
 have hsz1 : w.heap.size < w1.heap.size := (Array.getElem?_eq_some_iff.1 hG).1
 have hn63 : n ≤ 100000 := by
  have : ∀ ks : SynP.Exs, (SynP.exL ks).length ≤ ks.size := by
   intro ks
   induction ks using SynP.Exs.rec (motive_1 := fun _ => True) with
   | nil => exact Nat.zero_le _
   | cons a l _ ih => have := SynP.size_pos' a; show (SynP.exL l).length + 1 ≤ a.size + l.size; omega
   | _ => trivial
  have := this ks
  omega
 clear h ht hs hb1 hloose hnn hn hop hKL
 go_enter Tryz.func108, Tryz.ntmps108
 go_wp2_with fail
 rw [← hw1]
 obtain ⟨G, hGe⟩ : ∃ G, G = w.heap.size := ⟨_, rfl⟩
 have hRl0 := hRl
 rw [← hGe] at HG HGT hsz1 hRl ⊢
 have HGE := Lib.hid hGe
 have HBB := Lib.hid HB1.out
 clear hw1 hGe hG
 go_loopw [8] (fun i wr => AllRel R tv bv out o m (SynP.exL ks) w1 i wr) (fun i _ => n - (intOf i).toNat)
 case atStart => exact ⟨0, bv, rfl, Nat.zero_le _, by rw [SynP.uptoP_zero, SynP.dpU_zero, List.append_nil]; rw [show max m (o + 0) = m by have := HS1.out.le; omega]; exact HS1.out, Wr.refl _ _ _, Mv.refl _ _⟩
 case round =>
  obtain ⟨k, bv', rfl, hk, hS, hW, hM⟩ := hrel
  have hGr : wr.heap[G]? = some (.cells #[.int .i64 (op : Nat), .string text, .slice ko n kcap] 43 (0, 0)) := (hW.block G (by omega) (by omega) (fun e => by have := HGT.out G e.symm; omega)).trans HG.out
  have c0 : wr.cell? ⟨G, 0, none⟩ = some (.int .i64 (op : Nat)) := by rw [cell_of_row _ _ 0 _ _ _ hGr]; rfl
  have c1 : wr.cell? ⟨G, 1, none⟩ = some (.string text) := by rw [cell_of_row _ _ 1 _ _ _ hGr]; rfl
  have c2 : wr.cell? ⟨G, 2, none⟩ = some (.slice ko n kcap) := by rw [cell_of_row _ _ 2 _ _ _ hGr]; rfl
  have HS := Lib.hid hS
  have HW := Lib.hid hW
  have HM := Lib.hid hM
  have HGR := Lib.hid hGr
  rw [← HNE.out] at hk
  clear hS hW hM hGr
  by_cases hlt : k < n
  ·obtain ⟨e, hke⟩ : ∃ e, (SynP.exL ks)[k]? = some e := ⟨_, List.getElem?_eq_getElem (by rw [← HNE.out]; exact hlt)⟩
   obtain ⟨p', hr1, hr2, hr3, hr4⟩ := SynP.kid_at (l := l) ks p k e hke
   have hie : NodeOk e := IH e (List.mem_of_getElem? hke)
   have HIE := Lib.hid hie
   have hsd : (intsOf (ks.roots p))[k]? = some ((p' + e.size - 1 : Nat) : Int) := by rw [intsOf, List.getElem?_map, hr1]; rfl
   have HSD := Lib.hid hsd
   have HSE := Lib.hid (hr2 HSG.out)
   have hep := SynP.size_pos' e
   have HUP : Hid (SynP.uptoP (SynP.exL ks) (k + 1) = SynP.uptoP (SynP.exL ks) k ++ SynP.piece k e) := SynP.uptoP_succ hke
   have HDP : Hid (SynP.dpU (SynP.exL ks) (k + 1) = max (SynP.dpU (SynP.exL ks) k) e.dp) := SynP.dpU_succ hke
   have hup1 := upto_le ks (k + 1) (by rw [← HNE.out]; omega)
   rw [HUP.out, List.length_append] at hup1
   have hes : e.size ≤ ks.size := by omega
   have hmeas : Hid (n - (k + 1) < n - k) := by show _ < _; omega
   have hlt2 : decide (((k : Nat) : Int) < ((n : Nat) : Int)) = true := decide_eq_true (by omega)
   have hWR : Hid (Below R w wr) := ((HBB.out).mono (Nat.le_of_lt hRl0)).trans (HW.out.belowB (by omega) (fun q hq => HS1.out.gt q hq))
   have HTR : Hid (NdL wr R tv l) := HT1.out.below (HW.out.belowB (by omega) (fun q hq => HS1.out.gt q hq))
   have HKR : Hid (KL wr R (.slice ko n kcap) (intsOf (ks.roots p))) := HK1.out.below (HW.out.belowB (by omega) (fun q hq => HS1.out.gt q hq))
   have hwz := HW.out.size
   clear hke hr1 hr2 hie hsd
   by_cases h0 : k = 0
   ·have hpc : SynP.piece k e = e.pr := by unfold SynP.piece; rw [if_neg (by omega)]; rfl
    rw [hpc] at hup1
    have HPC := Lib.hid hpc
    have HC := Lib.hid (part_of op k e HIE.out l R p' tv bv' _ o _ wr HS.out HTR.out HSE.out (by rw [HLO.out k e.op, List.length_append]; show _ + e.pr.length ≤ _; omega) (by omega) (by omega) text _ _ HKR.out HSD.out)
    rw [HLO.out k e.op] at HC
    clear hpc
    subst h0
    go_wp2_with fail
    refine HC.out.mono ?_
    rintro y w5 ⟨rfl, bv5, a1, a2, a3⟩
    have hfin : Hid (AllRel R tv bv out o m (SynP.exL ks) w1 (.int .i64 1) w5) := by
     refine ⟨0 + 1, bv5, rfl, by rw [← HNE.out]; omega, ?_, HW.out.trans HM.out a2, Mv.trans (R := R) (w' := wr) HM.out HW.out.size a3⟩
     rw [HUP.out, HDP.out, HPC.out, ← List.append_assoc]
     have e2 : max m (o + max (SynP.dpU (SynP.exL ks) 0) e.dp) = max (max m (o + SynP.dpU (SynP.exL ks) 0)) (o + e.dp) := by omega
     rw [e2]; exact a1
    clear a1 a2 a3
    go_wp2_with fail
    first | exact ⟨hfin.out, hmeas.out⟩ | exact ⟨by (repeat apply Exists.intro); exact ⟨hfin.out, rfl⟩, hmeas.out⟩
   ·have hpos : 0 < k := by omega
    have hpc : SynP.piece k e = [44, 32] ++ e.pr := by unfold SynP.piece; rw [if_pos (by omega)]
    rw [hpc, List.length_append] at hup1
    have h2l : ([44, 32] : Bytes).length = 2 := rfl
    have HPC := Lib.hid hpc
    have hol : (out ++ SynP.uptoP (SynP.exL ks) k).length = out.length + (SynP.uptoP (SynP.exL ks) k).length := List.length_append
    have HSTR := Lib.hid (bld_str R tv bv' _ o _ [44, 32] wr HS.out (by omega) (by omega))
    clear hpc h0
    go_wp2_with fail
    refine HSTR.out.mono ?_
    rintro y w4 ⟨rfl, bv4, a1, a2, a3⟩
    have hGr4 : w4.heap[G]? = some (.cells #[.int .i64 (op : Nat), .string text, .slice ko n kcap] 43 (0, 0)) := (a2.block G (by omega) (by omega) (fun e => by
     rcases HM.out G e.symm with h1 | h1
     ·have := HGT.out G h1; omega
     ·omega)).trans HGR.out
    have d0 : w4.cell? ⟨G, 0, none⟩ = some (.int .i64 (op : Nat)) := by rw [cell_of_row _ _ 0 _ _ _ hGr4]; rfl
    have d1 : w4.cell? ⟨G, 1, none⟩ = some (.string text) := by rw [cell_of_row _ _ 1 _ _ _ hGr4]; rfl
    have d2 : w4.cell? ⟨G, 2, none⟩ = some (.slice ko n kcap) := by rw [cell_of_row _ _ 2 _ _ _ hGr4]; rfl
    have hbl := a2.belowB (by omega) (fun q hq => HS.out.gt q hq)
    have HA2 : Hid (Wr R bv.ownBlock w1 w4) := HW.out.trans HM.out a2
    have HA3 : Hid (Mv w1 bv.ownBlock bv4.ownBlock) := Mv.trans (R := R) (w' := wr) HM.out HW.out.size a3
    have HC := Lib.hid (part_of op k e HIE.out l R p' tv bv4 _ o _ w4 a1 (HTR.out.below hbl) HSE.out (by rw [HLO.out k e.op, List.length_append, hol]; show _ + e.pr.length ≤ _; omega) (by omega) (by omega) text _ _ (HKR.out.below hbl) HSD.out)
    rw [HLO.out k e.op] at HC
    clear a1 a2 a3 hGr4 hbl c0 c1 c2 hol
    go_wp2_with fail
    refine HC.out.mono ?_
    rintro y w5 ⟨rfl, bv5, a1, a2, a3⟩
    have hfin : Hid (AllRel R tv bv out o m (SynP.exL ks) w1 (.int .i64 ((k + 1 : Nat) : Int)) w5) := by
     refine ⟨k + 1, bv5, rfl, by rw [← HNE.out]; omega, ?_, HA2.out.trans HA3.out a2, Mv.trans (R := R) (w' := w4) HA3.out HA2.out.size a3⟩
     rw [HUP.out, HDP.out, HPC.out, ← List.append_assoc, ← List.append_assoc]
     have e2 : max m (o + max (SynP.dpU (SynP.exL ks) k) e.dp) = max (max m (o + SynP.dpU (SynP.exL ks) k)) (o + e.dp) := by omega
     rw [e2]; exact a1
    clear a1 a2 a3
    go_wp2_with fail
    first | exact ⟨hfin.out, hmeas.out⟩ | exact ⟨by (repeat apply Exists.intro); exact ⟨hfin.out, rfl⟩, hmeas.out⟩
  ·have hlt2 : decide (((k : Nat) : Int) < ((n : Nat) : Int)) = false := decide_eq_false (by omega)
   have hkn : k = n := by omega
   have hS := HS.out
   rw [hkn, HNE.out, SynP.uptoP_all, SynP.dpU_all] at hS
   have HSS := Lib.hid hS
   have HWW : Hid (Wr R bv.ownBlock w wr) := (Wr.of_below HBB.out).trans (Mv.refl _ _) HW.out
   have HMM : Hid (Mv w bv.ownBlock bv'.ownBlock) := Mv.trans (R := R) (w' := w1) (Mv.refl _ _) HBB.out.size HM.out
   clear hS hkn
   go_wp2_with fail
   first | go_end0 | refine bodyPost_ret (results_none rfl _ _ _) rfl ?_
   exact ⟨rfl, bv', HSS.out, HWW.out, HMM.out⟩
end Go.Proofs.YtgfmiladfeoldaaGreatDoor
namespace Go.Proofs.YtgfmiladfeoldaaGreatDoor
open Go.RowKit NatP LexP
structure NSt (w0 : World) (og : Option Nat) (w : World) (R G : Nat) (tv bv : Value) (out : Bytes) (o m : Nat) (l : List SynP.NI) (op : Nat) (text : Bytes) (kv : Value) (ks : List Int) : Prop where
 ws : WrS w R tv bv out o m
 wr : Wr R og w0 w
 mv : Mv w0 og bv.ownBlock
 nl : NdL w R tv l
 kl : KL w R kv ks
 h0 : w.heap[G]? = some (.cells #[.pointer (some ⟨R, 0, none⟩)] 86 (0, 0))
 h1 : w.heap[G + 1]? = some (.cells #[.int .i64 (op : Nat), .string ⟨text.toArray⟩, kv] 43 (0, 0))
 hR : R < G
 hG : G + 2 ≤ w0.heap.size
 ho : ∀ q, og = some q → q < G
theorem NSt.step {w0 w w' : World} {og : Option Nat} {R G : Nat} {tv bv bv' : Value} {out out' : Bytes} {o o' m m' : Nat} {l : List SynP.NI} {op : Nat} {text : Bytes} {kv : Value} {ks : List Int} (h : NSt w0 og w R G tv bv out o m l op text kv ks)
  (k1 : WrS w' R tv bv' out' o' m') (k2 : Wr R bv.ownBlock w w') (k3 : Mv w bv.ownBlock bv'.ownBlock) : NSt w0 og w' R G tv bv' out' o' m' l op text kv ks := by
 have hb := k2.belowB (Nat.le_of_lt h.ws.lt) (fun q hq => h.ws.gt q hq)
 have hne : ∀ i, G ≤ i → i < G + 2 → some i ≠ bv.ownBlock := fun i h1 h2 e => by
  have hG := h.hG
  rcases h.mv i e.symm with h3 | h3
  ·have := h.ho i h3; omega
  ·omega
 have hR := h.hR
 have hG := h.hG
 have hz := h.wr.size
 exact ⟨k1, h.wr.trans h.mv k2, Mv.trans (R := R) (w' := w) h.mv h.wr.size k3, h.nl.below hb, h.kl.below hb, (k2.block G (by omega) (by omega) (hne G (by omega) (by omega))).trans h.h0, (k2.block (G + 1) (by omega) (by omega) (hne (G + 1) (by omega) (by omega))).trans h.h1, h.hR, h.hG, h.ho⟩
theorem NSt.below {w0 w w' : World} {og : Option Nat} {R G : Nat} {tv bv : Value} {out : Bytes} {o m : Nat} {l : List SynP.NI} {op : Nat} {text : Bytes} {kv : Value} {ks : List Int} (h : NSt w0 og w R G tv bv out o m l op text kv ks) (hb : Below w.heap.size w w') : NSt w0 og w' R G tv bv out o m l op text kv ks :=
 h.step (h.ws.below hb) (Wr.of_below hb) (Mv.refl _ _)
theorem NSt.cells {w0 w : World} {og : Option Nat} {R G : Nat} {tv bv : Value} {out : Bytes} {o m : Nat} {l : List SynP.NI} {op : Nat} {text : Bytes} {kv : Value} {ks : List Int} (h : NSt w0 og w R G tv bv out o m l op text kv ks) :
  w.cell? ⟨G, 0, none⟩ = some (.pointer (some ⟨R, 0, none⟩)) ∧ w.cell? ⟨G + 1, 0, none⟩ = some (.int .i64 (op : Nat)) ∧ w.cell? ⟨G + 1, 1, none⟩ = some (.string ⟨text.toArray⟩) ∧ w.cell? ⟨G + 1, 2, none⟩ = some kv := by
 refine ⟨?_, ?_, ?_, ?_⟩
 ·rw [cell_of_row _ _ 0 _ _ _ h.h0]; rfl
 ·rw [cell_of_row _ _ 0 _ _ _ h.h1]; rfl
 ·rw [cell_of_row _ _ 1 _ _ _ h.h1]; rfl
 ·rw [cell_of_row _ _ 2 _ _ _ h.h1]; rfl
theorem NSt.fin {w w0 w' : World} {R G : Nat} {tv bv bv0 : Value} {out : Bytes} {o m : Nat} {l : List SynP.NI} {op : Nat} {text : Bytes} {kv : Value} {ks : List Int} (h : NSt w0 bv0.ownBlock w' R G tv bv out o m l op text kv ks) (hb : Below w.heap.size w w0) : WrP R tv bv0 out o m (.tuple #[]) w (.returned (.tuple #[])) w' :=
 ⟨rfl, bv, h.ws, (Wr.of_below hb).trans (Mv.refl _ _) h.wr, Mv.trans (R := R) (w' := w0) (Mv.refl _ _) hb.size h.mv⟩
theorem nst_start {w : World} {R K : Nat} {tv bv : Value} {out : Bytes} {o m : Nat} {l : List SynP.NI} {op : Nat} {text : Bytes} {ks : List Int} (h : WrS w R tv bv out o m) (ht : NdL w R tv l) (hx : l[K]? = some ⟨(op : Nat), text, ks⟩) :
  ∃ tg ln tcap ko kn kcap, tv = .slice (some ⟨tg, 0, none⟩) ln tcap ∧ K < ln ∧ kn = ks.length ∧ kn ≤ kcap ∧
   (w.alloc (.cells #[.pointer (some ⟨R, 0, none⟩)] 86)).cell? ⟨R, 0, none⟩ = some tv ∧
   (w.alloc (.cells #[.pointer (some ⟨R, 0, none⟩)] 86)).cell? ⟨tg, K * 3, none⟩ = some (.int .i64 (op : Nat)) ∧
   (w.alloc (.cells #[.pointer (some ⟨R, 0, none⟩)] 86)).cell? ⟨tg, K * 3 + 1, none⟩ = some (.string ⟨text.toArray⟩) ∧
   (w.alloc (.cells #[.pointer (some ⟨R, 0, none⟩)] 86)).cell? ⟨tg, K * 3 + 2, none⟩ = some (.slice ko kn kcap) ∧
   Below w.heap.size w ((w.alloc (.cells #[.pointer (some ⟨R, 0, none⟩)] 86)).alloc (.cells #[.int .i64 (op : Nat), .string ⟨text.toArray⟩, .slice ko kn kcap] 43)) ∧
   NSt ((w.alloc (.cells #[.pointer (some ⟨R, 0, none⟩)] 86)).alloc (.cells #[.int .i64 (op : Nat), .string ⟨text.toArray⟩, .slice ko kn kcap] 43)) bv.ownBlock ((w.alloc (.cells #[.pointer (some ⟨R, 0, none⟩)] 86)).alloc (.cells #[.int .i64 (op : Nat), .string ⟨text.toArray⟩, .slice ko kn kcap] 43)) R w.heap.size tv bv out o m l op text (.slice ko kn kcap) ks := by
 have hKl := (List.getElem?_eq_some_iff.1 hx).1
 have hT := ht
 obtain ⟨ta, tcap, rfl, t1, t2, t3⟩ := ht
 obtain ⟨tg, rfl, t4, t5⟩ := t3 (by omega)
 obtain ⟨a, b, kv, c, d⟩ := t5 K _ hx
 have hkl := d
 obtain ⟨ko, kcap, rfl, k1, -, -⟩ := hkl
 obtain ⟨kn, hkn⟩ : ∃ kn, kn = ks.length := ⟨_, rfl⟩
 rw [show (⟨(op : Nat), text, ks⟩ : SynP.NI).kids.length = kn from hkn.symm] at k1 c d
 have hRl := h.lt
 have hb1 := below_alloc w (.cells #[.pointer (some ⟨R, 0, none⟩)] 86)
 have hb2 := below_next hb1 (below_alloc _ (.cells #[.int .i64 (op : Nat), .string ⟨text.toArray⟩, .slice ko kn kcap] 43))
 refine ⟨tg, l.length, tcap, ko, kn, kcap, rfl, hKl, hkn, k1, (hb1.cell (p := ⟨R, 0, none⟩) hRl).trans h.cells.1, (hb1.cell (p := ⟨tg, K * 3, none⟩) (by show tg < _; omega)).trans a, (hb1.cell (p := ⟨tg, K * 3 + 1, none⟩) (by show tg < _; omega)).trans b, (hb1.cell (p := ⟨tg, K * 3 + 2, none⟩) (by show tg < _; omega)).trans c, hb2, ?_⟩
 refine ⟨h.below hb2, Wr.refl _ _ _, Mv.refl _ _, hT.below (hb2.mono (Nat.le_of_lt hRl)), d.below (hb2.mono (Nat.le_of_lt hRl)), ?_, ?_, hRl, by simp, fun q hq => (h.own.lt q hq).2⟩
 ·exact ((below_alloc _ _).block _ (by simp)).trans (heap_alloc_new w _)
 ·have := heap_alloc_new (w.alloc (.cells #[.pointer (some ⟨R, 0, none⟩)] 86)) (.cells #[.int .i64 (op : Nat), .string ⟨text.toArray⟩, .slice ko kn kcap] 43)
  rw [show (w.alloc (.cells #[.pointer (some ⟨R, 0, none⟩)] 86)).heap.size = w.heap.size + 1 by simp] at this
  exact this
end Go.Proofs.YtgfmiladfeoldaaGreatDoor
