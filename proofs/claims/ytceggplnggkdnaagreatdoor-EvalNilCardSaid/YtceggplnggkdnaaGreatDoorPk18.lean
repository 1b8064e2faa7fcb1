/- Joined texts of this claim's proof: RdQ, RdR, RdS, RdT, RdU, SynC. -/
import Derived.Test.YtceggplnggkdnaaGreatDoorPk17
import Derived.Test.YtceggplnggkdnaaGreatDoorPk2
set_option linter.unusedSimpArgs false
set_option linter.unusedVariables false
namespace Go.Proofs.YtceggplnggkdnaaGreatDoor
open Go.RowKit NatP LexP
def EpO (R : Nat) (tv : Value) (L : List Tok) (fin : Nat) (s0 : SynP.St) (nv : Value) (ns : List Nv) (w : World) (f : Nat) (r : SynP.PR SynP.Ex) (kv : Value) (wr : World) : Prop :=
 ∃ g k s' a' nv' ns', g ≤ f ∧ SynP.exprLoop fin g k s' = r ∧ PSt R tv L fin s0 nv ns w wr a' s' nv' ns' ∧ ExQ ns k kv ns' nv' wr
set_option maxRecDepth 100000 in
set_option maxHeartbeats 4000000 in
theorem expr_of (fin f : Nat) (IH : ∀ g, g ≤ f → ExOk 180 (SynP.term fin g) fin) : ExOk 92 (SynP.expr fin (f + 1)) fin := by
 intro R tv L a s nv ns w h hf
 have H := Lib.hid h
 have HIH := Lib.hid IH
 obtain ⟨r, hr⟩ : ∃ r, r = SynP.expr fin (f + 1) s := ⟨_, rfl⟩
 rw [← hr] at hf ⊢
 have HR0 : Hid (r = (SynP.term fin f s).bind fun k s => SynP.exprLoop fin f k s) := by show _ = _; rw [hr]; rfl
 have HNE := Lib.hid hf
 have hfew := h.few
 clear h hr hf IH
 go_enter Tryz.func92, Tryz.ntmps92
 go_wp2_with fail
 refine (HIH.out f (Nat.le_refl _) R tv L a s nv ns _ H.out (fun e => HNE.out (by rw [HR0.out, e]; rfl))).mono ?_
 rintro e w1 hn
 rcases hN : SynP.term fin f s with - | (⟨fc, fk⟩ | ⟨k, s1⟩)
 ·rw [hN] at hn; exact hn.elim
 ·rw [hN] at hn
  obtain ⟨rfl, n1⟩ := hn
  refine ⟨rfl, ?_⟩
  have hre : r = some (.error (fc, fk)) := by rw [HR0.out, hN]; rfl
  rw [hre]
  exact ⟨rfl, n1⟩
 rw [hN] at hn
 obtain ⟨v1, a1, nv1, ns1, rfl, n1, n2⟩ := hn
 have HST : Hid (EpO R tv L fin s nv ns w f r v1 w1) := ⟨f, k, s1, a1, nv1, ns1, Nat.le_refl _, by rw [HR0.out, hN]; rfl, n1, n2⟩
 clear n1 n2 hN
 go_wp2_with fail
 go_loopw [3, 4] (fun kv _ wr => EpO R tv L fin s nv ns w f r kv wr) (fun _ _ wr => leftOf L R wr)
 case atStart => exact HST.out
 clear HST
 case round =>
  obtain ⟨g, k, s2, a2, nv2, ns2, hgf, htu, hps, hex⟩ := hrel
  obtain ⟨wo, rfl⟩ : ∃ wo, wo = wr := ⟨_, rfl⟩
  cases g with
  | zero => exact absurd htu.symm HNE.out
  | succ g =>
   have hlen := hex.len
   have hsp := size_pos k
   obtain ⟨rfl, hfl⟩ := hex
   obtain ⟨p, hp⟩ : ∃ p, p = ns.length + k.size - 1 := ⟨_, rfl⟩
   rw [← hp]
   have HP := Lib.hid hp
   have HPS := Lib.hid hps
   have HFL := Lib.hid hfl
   have HL2 := Lib.hid hps.rs.left
   have HTU := Lib.hid htu
   have hfw := hps.few
   rw [List.length_append] at hfw
   clear hp hps hfl htu
   go_wp2_with fail
   refine (rd_take R tv L fin a2 s2 nv2 (ns ++ ns2) _ HPS.out.rs [43]).mono ?_
   rintro e w3 ⟨rfl, t1, t2⟩
   cases hm : SynP.isMark [43] s2.ts with
   | true =>
    rw [if_pos hm] at t2
    have hml := mark_len hm
    have HRR : Hid (r = (SynP.term fin g s2.adv).bind fun t s => SynP.exprLoop fin g (.add k t) s) := by
     have h1 := HTU.out
     unfold SynP.exprLoop at h1
     rw [if_pos hm] at h1
     exact h1.symm
    have HP3 := Lib.hid (HPS.out.step t2 t1 (by omega) rfl)
    clear t1 t2 hm
    go_wp2_with fail
    refine (HIH.out g (by omega) R tv L (a2 + 1) s2.adv nv2 (ns ++ ns2) _ HP3.out.rs (fun e => HNE.out (by rw [HRR.out, e]; rfl))).mono ?_
    rintro e w4 hn
    rcases hN : SynP.term fin g s2.adv with - | (⟨fc, fk⟩ | ⟨t, s4⟩)
    ·rw [hN] at hn; exact hn.elim
    ·rw [hN] at hn
     obtain ⟨rfl, n1⟩ := hn
     refine ⟨rfl, ?_⟩
     have hre : r = some (.error (fc, fk)) := by rw [HRR.out, hN]; rfl
     rw [hre]
     exact ⟨rfl, HP3.out.wr.trans HP3.out.mv n1⟩
    rw [hN] at hn
    obtain ⟨v4, a4, nv4, ns4, rfl, n1, n2⟩ := hn
    have HRT : Hid (SynP.exprLoop fin g (.add k t) s4 = r) := by show _ = _; rw [HRR.out, hN]; rfl
    have hfw4 := n1.few
    simp only [List.length_append] at hfw4
    have HL4 := Lib.hid n1.rs.left
    have HP4 := Lib.hid (HP3.out.trans n1)
    have hlen4 := n2.len
    have hsp4 := size_pos t
    obtain ⟨rfl, hfl4⟩ := n2
    obtain ⟨q, hq⟩ : ∃ q, q = (ns ++ ns2).length + t.size - 1 := ⟨_, rfl⟩
    rw [← hq]
    have HQ := Lib.hid hq
    have HFL4 := Lib.hid hfl4
    have HKN := Lib.hid ((KNew.fresh HP4.out.rs [p, q]).resolve_right (by simp))
    have HA := Lib.hid (below_alloc w4 (.cells #[.int .i64 ((p : Nat) : Int), .int .i64 ((q : Nat) : Int)] 3))
    have HP5 := Lib.hid (HP4.out.step (HP4.out.rs.below HA.out) (Wr.of_below HA.out) (Nat.le_refl _) rfl)
    clear n1 hq hfl4 hN
    go_wp2_with fail
    refine (rd_put R tv L fin a4 s4 nv4 (ns ++ (ns2 ++ ns4)) _ HP5.out.rs ⟨6, [], [p, q]⟩ _ HKN.out (by simp only [List.length_append]; omega)).mono ?_
    rintro e w6 ⟨nv6, rfl, b1, b2, b3⟩
    have HP6 := Lib.hid (HP5.out.putS b1 b2 b3 (by simp only [List.length_append]; omega) (fun q hq => by cases hq; exact HP4.out.wr.size))
    have HL6 := Lib.hid b1.left
    obtain ⟨nn, hnn⟩ : ∃ nn, nn = (ns ++ (ns2 ++ ns4)).length := ⟨_, rfl⟩
    rw [← hnn]
    have HNN := Lib.hid hnn
    clear b1 b2 b3 hnn
    go_wp2_with fail
    have hfin : EpO R tv L fin s nv ns w f r (.int .i64 ((nn : Nat) : Int)) w6 := by
     refine ⟨g, .add k t, s4, a4, nv6, _, by omega, HRT.out, HP6.out, ?_, ?_⟩
     ·rw [HNN.out]; simp only [List.length_append]; rw [hlen, hlen4]
      have e : (SynP.Ex.add k t).size = k.size + t.size + 1 := rfl
      rw [e]; congr 2 <;> omega
     ·rw [List.map_append, List.map_append, HFL.out, HFL4.out, HP.out, HQ.out, List.length_append, hlen]
      show _ = k.flat ns.length ++ t.flat (ns.length + k.size) ++ [⟨6, [], [ns.length + k.size - 1, ns.length + k.size + t.size - 1]⟩]
      rfl
    have hlf : leftOf L R w6 < leftOf L R wo := by
     rw [HL6.out, HL2.out]; omega
    exact ⟨hfin, hlf⟩
   | false =>
    rw [if_neg (by rw [hm]; decide)] at t2
    have HPM := Lib.hid (HPS.out.step t2 t1 (Nat.le_refl _) rfl)
    have HMF := Lib.hid hm
    clear t1 t2 hm
    go_wp2_with fail
    refine (rd_take R tv L fin a2 s2 nv2 (ns ++ ns2) _ HPM.out.rs [45]).mono ?_
    rintro e w3 ⟨rfl, t1, t2⟩
    have hm := HMF.out
    cases hm2 : SynP.isMark [45] s2.ts with
    | true =>
     rw [if_pos hm2] at t2
     have hml := mark_len hm2
     have HRR : Hid (r = (SynP.term fin g s2.adv).bind fun t s => SynP.exprLoop fin g (.sub k t) s) := by
      have h1 := HTU.out
      unfold SynP.exprLoop at h1
      rw [if_neg (by rw [hm]; decide), if_pos hm2] at h1
      exact h1.symm
     have HP3 := Lib.hid (HPM.out.step t2 t1 (by omega) rfl)
     clear t1 t2 hm2 hm
     go_wp2_with fail
     refine (HIH.out g (by omega) R tv L (a2 + 1) s2.adv nv2 (ns ++ ns2) _ HP3.out.rs (fun e => HNE.out (by rw [HRR.out, e]; rfl))).mono ?_
     rintro e w4 hn
     rcases hN : SynP.term fin g s2.adv with - | (⟨fc, fk⟩ | ⟨t, s4⟩)
     ·rw [hN] at hn; exact hn.elim
     ·rw [hN] at hn
      obtain ⟨rfl, n1⟩ := hn
      refine ⟨rfl, ?_⟩
      have hre : r = some (.error (fc, fk)) := by rw [HRR.out, hN]; rfl
      rw [hre]
      exact ⟨rfl, HP3.out.wr.trans HP3.out.mv n1⟩
     rw [hN] at hn
     obtain ⟨v4, a4, nv4, ns4, rfl, n1, n2⟩ := hn
     have HRT : Hid (SynP.exprLoop fin g (.sub k t) s4 = r) := by show _ = _; rw [HRR.out, hN]; rfl
     have hfw4 := n1.few
     simp only [List.length_append] at hfw4
     have HL4 := Lib.hid n1.rs.left
     have HP4 := Lib.hid (HP3.out.trans n1)
     have hlen4 := n2.len
     have hsp4 := size_pos t
     obtain ⟨rfl, hfl4⟩ := n2
     obtain ⟨q, hq⟩ : ∃ q, q = (ns ++ ns2).length + t.size - 1 := ⟨_, rfl⟩
     rw [← hq]
     have HQ := Lib.hid hq
     have HFL4 := Lib.hid hfl4
     have HKN := Lib.hid ((KNew.fresh HP4.out.rs [p, q]).resolve_right (by simp))
     have HA := Lib.hid (below_alloc w4 (.cells #[.int .i64 ((p : Nat) : Int), .int .i64 ((q : Nat) : Int)] 3))
     have HP5 := Lib.hid (HP4.out.step (HP4.out.rs.below HA.out) (Wr.of_below HA.out) (Nat.le_refl _) rfl)
     clear n1 hq hfl4 hN
     go_wp2_with fail
     refine (rd_put R tv L fin a4 s4 nv4 (ns ++ (ns2 ++ ns4)) _ HP5.out.rs ⟨7, [], [p, q]⟩ _ HKN.out (by simp only [List.length_append]; omega)).mono ?_
     rintro e w6 ⟨nv6, rfl, b1, b2, b3⟩
     have HP6 := Lib.hid (HP5.out.putS b1 b2 b3 (by simp only [List.length_append]; omega) (fun q hq => by cases hq; exact HP4.out.wr.size))
     have HL6 := Lib.hid b1.left
     obtain ⟨nn, hnn⟩ : ∃ nn, nn = (ns ++ (ns2 ++ ns4)).length := ⟨_, rfl⟩
     rw [← hnn]
     have HNN := Lib.hid hnn
     clear b1 b2 b3 hnn
     go_wp2_with fail
     have hfin : EpO R tv L fin s nv ns w f r (.int .i64 ((nn : Nat) : Int)) w6 := by
      refine ⟨g, .sub k t, s4, a4, nv6, _, by omega, HRT.out, HP6.out, ?_, ?_⟩
      ·rw [HNN.out]; simp only [List.length_append]; rw [hlen, hlen4]
       have e : (SynP.Ex.sub k t).size = k.size + t.size + 1 := rfl
       rw [e]; congr 2 <;> omega
      ·rw [List.map_append, List.map_append, HFL.out, HFL4.out, HP.out, HQ.out, List.length_append, hlen]
       show _ = k.flat ns.length ++ t.flat (ns.length + k.size) ++ [⟨7, [], [ns.length + k.size - 1, ns.length + k.size + t.size - 1]⟩]
       rfl
     have hlf : leftOf L R w6 < leftOf L R wo := by
      rw [HL6.out, HL2.out]; omega
     exact ⟨hfin, hlf⟩
    | false =>
     rw [if_neg (by rw [hm2]; decide)] at t2
     have HRR : Hid (r = some (.ok (k, s2))) := by
      have h1 := HTU.out
      unfold SynP.exprLoop at h1
      rw [if_neg (by rw [hm]; decide), if_neg (by rw [hm2]; decide)] at h1
      show _ = _
      rw [← h1]; rfl
     have HP3 := Lib.hid (HPM.out.step t2 t1 (Nat.le_refl _) rfl)
     clear t1 t2 hm2 hm
     go_wp2_with fail
     go_ret
     rw [HRR.out]
     exact ⟨_, a2, nv2, ns2, rfl, HP3.out, by rw [HP.out]; rfl, HFL.out⟩
end Go.Proofs.YtceggplnggkdnaaGreatDoor
namespace Go.Proofs.YtceggplnggkdnaaGreatDoor
open Go.RowKit NatP LexP
def PaQ (R : Nat) (ns : List Nv) (w : World) (l : SynP.Exs) (v : Value) (ns' : List Nv) (nv' : Value) (w' : World) : Prop := KNew w' R nv' (ns ++ ns') v (l.roots ns.length) ∧ ns'.map Prod.fst = l.flat ns.length ∧ ∀ q, v.ownBlock = some q → w.heap.size ≤ q
def PaOk (P : SynP.St → SynP.PR SynP.Exs) (fin : Nat) : Prop := ∀ (R : Nat) (tv : Value) (L : List Tok) (a : Nat) (s : SynP.St) (nv : Value) (ns : List Nv) (w : World), RS w R tv L fin a s nv ns → P s ≠ none →
 Calls Tryz.prog 93 #[.pointer (some ⟨R, 0, none⟩)] w (RP (P s) R tv L fin s nv ns (PaQ R ns w) w)
theorem roots_snoc : ∀ (l : SynP.Exs) (e : SynP.Ex) (o : Nat), (l.snoc e).roots o = l.roots o ++ [o + l.size + e.size - 1]
 | .nil, e, o => by simp [SynP.Exs.snoc, SynP.Exs.roots, SynP.Exs.size]
 | .cons a l, e, o => by
  show (o + a.size - 1) :: (l.snoc e).roots (o + a.size) = (o + a.size - 1) :: l.roots (o + a.size) ++ _
  rw [roots_snoc l e]
  simp [SynP.Exs.size, Nat.add_assoc]
theorem flats_snoc : ∀ (l : SynP.Exs) (e : SynP.Ex) (o : Nat), (l.snoc e).flat o = l.flat o ++ e.flat (o + l.size)
 | .nil, e, o => by simp [SynP.Exs.snoc, SynP.Exs.flat, SynP.Exs.size]
 | .cons a l, e, o => by
  show a.flat o ++ (l.snoc e).flat (o + a.size) = a.flat o ++ l.flat (o + a.size) ++ _
  rw [flats_snoc l e]
  simp [SynP.Exs.size, Nat.add_assoc]
theorem RS.growK {w w' : World} {R : Nat} {tv : Value} {L : List Tok} {fin a : Nat} {s : SynP.St} {nv : Value} {ns : List Nv} {row : Option Nat} (h : RS w R tv L fin a s nv ns) (hg : w.grownBy w' row) (hr : ∀ q, row = some q → R < q ∧ nv.ownBlock ≠ some q ∧ ∀ p ∈ ns, p.2.ownBlock ≠ some q) :
  RS w' R tv L fin a s nv ns ∧ (∀ B, B ≤ w.heap.size → (∀ q, row = some q → B ≤ q) → Below B w w') := by
 refine ⟨⟨?_, ?_, h.drop, h.le, ?_, ?_, h.apart, h.few, h.deep, h.short, h.sum, h.good, ?_, h.sgl⟩, fun B hB hq => ⟨hg.os, hg.tape, hg.output, hg.size, fun k hk => hg.block k (by omega) (fun e => by have := hq k e.symm; omega)⟩⟩
 ·exact (hg.block R h.lt (fun e => by have := (hr R e.symm).1; omega)).trans h.blk
 ·obtain ⟨ao, cap, e, h1, h2, h3⟩ := h.tks
  refine ⟨ao, cap, e, h1, h2, fun h0 => ?_⟩
  obtain ⟨g, rfl, h5, h6⟩ := h3 h0
  have hb := hg.block g (by have := h.lt; omega) (fun e => by have := (hr g e.symm).1; omega)
  exact ⟨g, rfl, h5, fun j t hj => ⟨(World.cell?_of_block hb).trans (h6 j t hj).1, (World.cell?_of_block hb).trans (h6 j t hj).2.1, (World.cell?_of_block hb).trans (h6 j t hj).2.2⟩⟩
 ·refine h.own.kept hg ?_
  cases ho : nv.ownBlock with
  | none => exact .inl rfl
  | some q => exact .inr (fun e => (hr q e.symm).2.1 ho)
 ·intro p hp
  obtain ⟨ao, cap, e, h1, h2, h3, h4⟩ := h.kids p hp
  refine ⟨ao, cap, e, h1, h2, fun q hq => ⟨(h3 q hq).1, Nat.lt_of_lt_of_le (h3 q hq).2.1 hg.size, (h3 q hq).2.2⟩, fun h0 => ?_⟩
  obtain ⟨g, rfl, h5⟩ := h4 h0
  have hgo : p.2.ownBlock = some g := by rw [e]; rfl
  have h6 := h3 g hgo
  exact ⟨g, rfl, fun j k hj => (World.cell?_of_block (hg.block g h6.2.1 (fun e => (hr g e.symm).2.2 p hp hgo))).trans (h5 j k hj)⟩
 ·intro d hd
  exact (World.cell?_of_block (hg.block _ (Nat.lt_trans h.sgl h.lt) (fun e => Nat.lt_asymm (hr _ e.symm).1 h.sgl))).trans (h.sg d hd)
end Go.Proofs.YtceggplnggkdnaaGreatDoor
namespace Go.Proofs.YtceggplnggkdnaaGreatDoor
open Go.RowKit NatP LexP
structure Ka (w : World) (R : Nat) (nv : Value) (ns : List Nv) (kv : Value) (ks : List Nat) : Prop where
 own : w.ownsRow (R + 1) 3 1 kv ks.length (ints ks)
 ap : ∀ q, kv.ownBlock = some q → nv.ownBlock ≠ some q ∧ ∀ p ∈ ns, p.2.ownBlock ≠ some q
theorem Ka.knew {w : World} {R : Nat} {nv : Value} {ns : List Nv} {kv : Value} {ks : List Nat} (h : Ka w R nv ns kv ks) : KNew w R nv ns kv ks := by
 obtain ⟨ao, cap, e, h1, h2, h3⟩ := ownsRow_shape h.own
 refine ⟨⟨ao, cap, e, h1, h2, fun q hq => ⟨by have := (h.own.lt q hq).1; omega, (h.own.lt q hq).2, (h.ap q hq).1⟩, fun h0 => ?_⟩, fun p hp q hq e => (h.ap q e).2 p hp hq⟩
 obtain ⟨g, rfl, -, -, a3⟩ := h3 h0
 refine ⟨g, rfl, fun j k hj => ?_⟩
 have hjl := (List.getElem?_eq_some_iff.1 hj).1
 rw [a3 j (by omega)]
 simp [ints, hj]
theorem Ka.expr {w w' : World} {R : Nat} {nv nv' : Value} {ns ns' : List Nv} {kv : Value} {ks : List Nat} (h : Ka w R nv ns kv ks) (hw : Wr R nv.ownBlock w w') (hm : Mv w nv.ownBlock nv'.ownBlock) (hf : ∀ p ∈ ns', ∀ q, p.2.ownBlock = some q → w.heap.size ≤ q) :
  Ka w' R nv' (ns ++ ns') kv ks := by
 refine ⟨⟨h.own.1, ?_⟩, fun q hq => ⟨fun e => ?_, fun p hp e => ?_⟩⟩
 ·rcases h.own.2 with hn | ⟨g, cap, cur, rfl, hb, hgg, rest⟩
  ·exact .inl hn
  ·exact .inr ⟨g, cap, cur, rfl, hb, (hw.block g (Array.getElem?_eq_some_iff.1 hgg).1 (by omega) (fun e => (h.ap g rfl).1 e.symm)).trans hgg, rest⟩
 ·rcases hm q e with h1 | h1
  ·exact (h.ap q hq).1 h1
  ·have := (h.own.lt q hq).2; omega
 ·rcases List.mem_append.1 hp with hp | hp
  ·exact (h.ap q hq).2 p hp e
  ·have := hf p hp q e
   have := (h.own.lt q hq).2
   omega
theorem Ka.push {w w' : World} {R g cap N : Nat} {nv : Value} {ns : List Nv} {kv : Value} {ks : List Nat} (h : Ka w R nv ns kv ks) {k : Nat}
  (hown : w'.ownsRow (R + 1) 3 1 (.slice (some ⟨g, 0, none⟩) N cap) N (ints ks ++ [.int .i64 (k : Nat)])) (hN : N = ks.length + 1) (hat : kv.ownBlock = some g ∨ g = w.heap.size) (hnv : ∀ q, nv.ownBlock = some q → q < w.heap.size) (hns : ∀ p ∈ ns, ∀ q, p.2.ownBlock = some q → q < w.heap.size) :
  Ka w' R nv ns (.slice (some ⟨g, 0, none⟩) N cap) (ks ++ [k]) := by
 subst hN
 refine ⟨?_, fun q hq => ?_⟩
 ·rw [show (ks ++ [k]).length = ks.length + 1 from by simp, show ints (ks ++ [k]) = ints ks ++ [.int .i64 (k : Nat)] from by simp [ints]]
  exact hown
 ·have hqg : g = q := by cases hq; rfl
  rcases hat with h1 | h1
  ·rw [hqg] at h1; exact h.ap q h1
  ·refine ⟨fun e => ?_, fun p hp e => ?_⟩
   ·have := hnv q e; omega
   ·have := hns p hp q e; omega
end Go.Proofs.YtceggplnggkdnaaGreatDoor
namespace Go.Proofs.YtceggplnggkdnaaGreatDoor
open Go.RowKit NatP LexP
def PaO (R : Nat) (tv : Value) (L : List Tok) (fin : Nat) (s0 : SynP.St) (nv : Value) (ns : List Nv) (w : World) (f : Nat) (r : SynP.PR SynP.Exs) (kv : Value) (wr : World) : Prop :=
 ∃ g ks s' a' nv' ns', g ≤ f ∧ SynP.partsLoop fin g ks s' = r ∧ PSt R tv L fin s0 nv ns w wr a' s' nv' ns' ∧ Ka wr R nv' (ns ++ ns') kv (ks.roots ns.length) ∧ ns'.map Prod.fst = ks.flat ns.length ∧ ∀ q, kv.ownBlock = some q → w.heap.size ≤ q
theorem roots_len : ∀ (l : SynP.Exs) (o : Nat), (l.roots o).length = l.len
 | .nil, _ => rfl
 | .cons a l, o => by show (l.roots _).length + 1 = l.len + 1; rw [roots_len l]
theorem len_size : ∀ l : SynP.Exs, l.len ≤ l.size
 | .nil => Nat.le_refl _
 | .cons a l => by
  have h1 := len_size l
  have h2 := size_pos a
  show l.len + 1 ≤ a.size + l.size
  omega
set_option maxRecDepth 100000 in
set_option maxHeartbeats 4000000 in
theorem parts_of (fin f : Nat) (IH : ∀ g, g ≤ f → ExOk 92 (SynP.expr fin g) fin) : PaOk (SynP.parts fin (f + 1)) fin := by
 intro R tv L a s nv ns w h hf
 have H := Lib.hid h
 have HIH := Lib.hid IH
 obtain ⟨r, hr⟩ : ∃ r, r = SynP.parts fin (f + 1) s := ⟨_, rfl⟩
 rw [← hr] at hf ⊢
 have HR0 : Hid (r = (SynP.expr fin f s).bind fun k s => SynP.partsLoop fin f (.cons k .nil) s) := by show _ = _; rw [hr]; rfl
 have HNE := Lib.hid hf
 have hfew := h.few
 clear h hr hf IH
 go_enter Tryz.func93, Tryz.ntmps93
 go_wp2_with fail
 refine (HIH.out f (Nat.le_refl _) R tv L a s nv ns _ H.out (fun e => HNE.out (by rw [HR0.out, e]; rfl))).mono ?_
 rintro e w1 hn
 rcases hN : SynP.expr fin f s with - | (⟨fc, fk⟩ | ⟨k, s1⟩)
 ·rw [hN] at hn; exact hn.elim
 ·rw [hN] at hn
  obtain ⟨rfl, n1⟩ := hn
  refine ⟨rfl, ?_⟩
  have hre : r = some (.error (fc, fk)) := by rw [HR0.out, hN]; rfl
  rw [hre]
  exact ⟨rfl, n1⟩
 rw [hN] at hn
 obtain ⟨v1, a1, nv1, ns1, rfl, n1, n2⟩ := hn
 obtain ⟨rfl, hfl⟩ := n2
 obtain ⟨p, hp⟩ : ∃ p, p = ns.length + k.size - 1 := ⟨_, rfl⟩
 rw [← hp]
 have HA := Lib.hid (below_alloc w1 (.cells #[.int .i64 ((p : Nat) : Int)] 3))
 have HST : Hid (PaO R tv L fin s nv ns w f r (.slice (some ⟨w1.heap.size, 0, none⟩) 1 1) (w1.alloc (.cells #[.int .i64 ((p : Nat) : Int)] 3))) := by
  refine ⟨f, .cons k .nil, s1, a1, nv1, ns1, Nat.le_refl _, by rw [HR0.out, hN]; rfl, n1.step (n1.rs.below HA.out) (Wr.of_below HA.out) (Nat.le_refl _) rfl, ⟨⟨rfl, .inr ⟨w1.heap.size, 1, _, rfl, n1.rs.lt, heap_alloc_new w1 _, Nat.le_refl _, by unfold maxLen; omega, rfl, by rw [hp]; rfl⟩⟩, fun q hq => ?_⟩, by rw [hfl]; simp [SynP.Exs.flat], fun q hq => by cases hq; exact n1.wr.size⟩
  have hqe : w1.heap.size = q := by cases hq; rfl
  refine ⟨fun e => ?_, fun x hx e => ?_⟩
  ·have := (n1.rs.own.lt q e).2; omega
  ·obtain ⟨ao, cap, e1, -, -, h3, -⟩ := n1.rs.kids x hx
   have := (h3 q e).2.1; omega
 clear n1 hN hp hfl
 go_wp2_with fail
 go_loopw [3] (fun kv wr => PaO R tv L fin s nv ns w f r kv wr) (fun _ wr => leftOf L R wr)
 case atStart => exact HST.out
 clear HST
 case round =>
  obtain ⟨g, ks, s2, a2, nv2, ns2, hgf, htu, hps, hka, hfl, hge⟩ := hrel
  obtain ⟨wo, rfl⟩ : ∃ wo, wo = wr := ⟨_, rfl⟩
  cases g with
  | zero => exact absurd htu.symm HNE.out
  | succ g =>
   have HPS := Lib.hid hps
   have HFL := Lib.hid hfl
   have HKA := Lib.hid hka
   have HGE := Lib.hid hge
   have HL2 := Lib.hid hps.rs.left
   have HTU := Lib.hid htu
   have hfw := hps.few
   rw [List.length_append] at hfw
   have hl2 : ns2.length = ks.size := by have := congrArg List.length hfl; rw [List.length_map, flats_len] at this; exact this
   clear hps hfl htu hka hge
   go_wp2_with fail
   refine (rd_take R tv L fin a2 s2 nv2 (ns ++ ns2) _ HPS.out.rs [44]).mono ?_
   rintro e w3 ⟨rfl, t1, t2⟩
   cases hm : SynP.isMark [44] s2.ts with
   | true =>
    rw [if_pos hm] at t2
    have hml := mark_len hm
    have HRR : Hid (r = (SynP.expr fin g s2.adv).bind fun k s => SynP.partsLoop fin g (ks.snoc k) s) := by
     have h1 := HTU.out
     unfold SynP.partsLoop at h1
     rw [if_pos hm] at h1
     exact h1.symm
    have HP3 := Lib.hid (HPS.out.step t2 t1 (by omega) rfl)
    have hk3 := HKA.out.expr (ns' := []) (nv' := nv2) (t1.weak _) (Mv.refl _ _) (fun p hp => by cases hp)
    rw [List.append_nil] at hk3
    have HK3 := Lib.hid hk3
    clear t1 t2 hm hk3
    go_wp2_with fail
    refine (HIH.out g (by omega) R tv L (a2 + 1) s2.adv nv2 (ns ++ ns2) _ HP3.out.rs (fun e => HNE.out (by rw [HRR.out, e]; rfl))).mono ?_
    rintro e w4 hn
    rcases hN : SynP.expr fin g s2.adv with - | (⟨fc, fk⟩ | ⟨t, s4⟩)
    ·rw [hN] at hn; exact hn.elim
    ·rw [hN] at hn
     obtain ⟨rfl, n1⟩ := hn
     refine ⟨rfl, ?_⟩
     have hre : r = some (.error (fc, fk)) := by rw [HRR.out, hN]; rfl
     rw [hre]
     exact ⟨rfl, HP3.out.wr.trans HP3.out.mv n1⟩
    rw [hN] at hn
    obtain ⟨v4, a4, nv4, ns4, rfl, n1, n2⟩ := hn
    have HRT : Hid (SynP.partsLoop fin g (ks.snoc t) s4 = r) := by show _ = _; rw [HRR.out, hN]; rfl
    have hfw4 := n1.few
    simp only [List.length_append] at hfw4
    obtain ⟨rfl, hfl4⟩ := n2
    obtain ⟨q, hq⟩ : ∃ q, q = (ns ++ ns2).length + t.size - 1 := ⟨_, rfl⟩
    rw [← hq]
    have HQ := Lib.hid hq
    have HFL4 := Lib.hid hfl4
    have HP4 := Lib.hid (HP3.out.trans n1)
    have HA := Lib.hid (below_alloc w4 (.cells #[.int .i64 ((q : Nat) : Int)] 3))
    have HP5 := Lib.hid (HP4.out.step (HP4.out.rs.below HA.out) (Wr.of_below HA.out) (Nat.le_refl _) rfl)
    have hk5 := (HK3.out.expr n1.wr n1.mv n1.fresh).expr (ns' := []) (nv' := nv4) ((Wr.of_below (R := R) (og := none) HA.out).weak _) (Mv.refl _ _) (fun p hp => by cases hp)
    rw [List.append_nil, List.append_assoc] at hk5
    have HK5 := Lib.hid hk5
    obtain ⟨i0, hi, hz0, hz1, hz2⟩ := info_parts Tryz.infoInt
    obtain ⟨N, hN2⟩ : ∃ N, N = (ks.roots ns.length).length := ⟨_, rfl⟩
    have HNN := Lib.hid hN2
    have hNl : N ≤ 134217728 := by rw [hN2, roots_len]; have := len_size ks; omega
    have hOW : (w4.alloc (.cells #[.int .i64 ((q : Nat) : Int)] 3)).ownsRow (R + 1) 3 1 u3 N (ints (ks.roots ns.length)) := by rw [hN2]; exact hk5.own
    have HOW := Lib.hid hOW
    have hRl := HP4.out.rs.lt
    clear n1 hq hfl4 hN hk5 hN2 hOW
    go_wp2_with (at_builtin; refine wpList_append_lies _ rfl _ _ 68 rfl (R + 1) 3 i0 (.int .i64 0) 1 8 Tryz.underlying68 hi hz0 hz1 hz2 rfl (by omega) u3 N (ints (ks.roots ns.length)) rfl HOW.out ⟨w4.heap.size, 0, none⟩ 1 1 [.int .i64 ((q : Nat) : Int)] rfl rfl (LexP.cells_new _ _ _ _ rfl) (by simp [Value.oneCell']) (by omega) (by unfold maxLen; omega) (by omega) (by simp; omega) (w4.heap.size + 1) (by simp) ?_)
    intro gg cap w6 hown6 hgrow hat hlt6
    have hat' : u3.ownBlock = some gg ∨ gg = (w4.alloc (.cells #[.int .i64 ((q : Nat) : Int)] 3)).heap.size := by simpa using hat
    have q1 := HK5.out.push (k := q) hown6 (by rw [HNN.out]) hat' (fun x hx => (HP5.out.rs.own.lt x hx).2) (fun p hp x hx => by
     obtain ⟨ao, cp, e1, -, -, h3, -⟩ := HP5.out.rs.kids p hp
     exact (h3 x hx).2.1)
    have q2 := (HP5.out.rs.growK hgrow (fun x hx => ⟨by have := (HK5.out.own.lt x hx).1; omega, (HK5.out.ap x hx).1, (HK5.out.ap x hx).2⟩)).1
    have HL6 := Lib.hid q2.left
    have HQ1 := Lib.hid q1
    have HP6 : Hid (PSt R tv L fin s nv ns w w6 a4 s4 nv4 (ns2 ++ ns4)) := ⟨q2, ⟨hgrow.os.trans HP5.out.wr.os, hgrow.tape.trans HP5.out.wr.tape, hgrow.output.trans HP5.out.wr.output, Nat.le_trans HP5.out.wr.size hgrow.size, fun x hx h1 h2 => (hgrow.block x (Nat.lt_of_lt_of_le hx HP5.out.wr.size) (fun e => by have := HGE.out x e.symm; omega)).trans (HP5.out.wr.block x hx h1 h2)⟩, HP5.out.mv, HP5.out.few, HP5.out.opn, HP5.out.fresh⟩
    have hge6 : w.heap.size ≤ gg := by
     rcases hat' with h1 | h1
     ·exact HGE.out gg h1
     ·rw [h1]; exact HP5.out.wr.size
    clear hown6 hgrow hat hat' hlt6 q1 q2
    go_wp2_with fail
    have hfin : PaO R tv L fin s nv ns w f r (.slice (some ⟨gg, 0, none⟩) (N + 1) cap) w6 := by
     refine ⟨g, ks.snoc t, s4, a4, nv4, _, by omega, HRT.out, HP6.out, ?_, ?_, fun x hx => by cases hx; exact hge6⟩
     ·rw [roots_snoc]
      have e : ns.length + ks.size + t.size - 1 = q := by rw [HQ.out, List.length_append, hl2]
      rw [e]; exact HQ1.out
     ·rw [List.map_append, HFL.out, HFL4.out, flats_snoc, List.length_append, hl2]
    have hlf : leftOf L R w6 < leftOf L R wo := by rw [HL6.out, HL2.out]; omega
    exact ⟨hfin, hlf⟩
   | false =>
    rw [if_neg (by rw [hm]; decide)] at t2
    have HRR : Hid (r = some (.ok (ks, s2))) := by
     have h1 := HTU.out
     unfold SynP.partsLoop at h1
     rw [if_neg (by rw [hm]; decide)] at h1
     show _ = _
     rw [← h1]; rfl
    have HP3 := Lib.hid (HPS.out.step t2 t1 (Nat.le_refl _) rfl)
    have hk3 := HKA.out.expr (ns' := []) (nv' := nv2) (t1.weak _) (Mv.refl _ _) (fun p hp => by cases hp)
    rw [List.append_nil] at hk3
    have HK3 := Lib.hid hk3
    clear t1 t2 hm hk3
    go_wp2_with fail
    go_ret
    rw [HRR.out]
    exact ⟨_, a2, nv2, ns2, rfl, HP3.out, HK3.out.knew, HFL.out, HGE.out⟩
end Go.Proofs.YtceggplnggkdnaaGreatDoor
namespace Go.Proofs.YtceggplnggkdnaaGreatDoor
open Go.RowKit NatP LexP
set_option maxRecDepth 100000 in
set_option maxHeartbeats 4000000 in
theorem atom_num (fin f : Nat) (R : Nat) (tv : Value) (L : List Tok) (a : Nat) (s : SynP.St) (nv : Value) (ns : List Nv) (w : World) (h : RS w R tv L fin a s nv ns) (hk : SynP.isKind 1 s.ts = true) :
  Calls Tryz.prog 518 #[.pointer (some ⟨R, 0, none⟩)] w (RP (SynP.atom fin (f + 1) s) R tv L fin s nv ns (ExQ ns) w) := by
 have H := Lib.hid h
 obtain ⟨r, hr⟩ : ∃ r, r = SynP.atom fin (f + 1) s := ⟨_, rfl⟩
 rw [← hr]
 have HR0 : Hid (r = (SynP.number fin s).bind fun n s => SynP.ret (.num n) s) := by show _ = _; rw [hr]; unfold SynP.atom; rw [if_pos hk]
 have hfew := h.few
 have hc := comes_kind 1 [] s.ts (by decide)
 rw [hk] at hc
 have HC := Lib.hid hc
 clear h hr hk hc
 go_enter Tryz.func518, Tryz.ntmps518
 go_wp2_with fail
 refine (rd_comes R tv L fin a s nv ns _ H.out 0 1 [] (by omega) (by omega)).mono ?_
 rintro e w1 ⟨rfl, b1⟩
 rw [HC.out]
 have HP1 := Lib.hid ((PSt.refl H.out).step (s2 := s) (a2 := a) (w2 := w1) (by rw [List.append_nil]; exact H.out.below b1) (Wr.of_below b1) (Nat.le_refl _) rfl)
 have HS1 := Lib.hid (H.out.below b1)
 clear b1
 go_wp2_with fail
 refine (rd_number R tv L fin a s nv ns _ HS1.out).mono ?_
 rintro e w2 hn
 rcases hN : SynP.number fin s with - | (⟨fc, fk⟩ | ⟨m, s2⟩)
 ·rw [hN] at hn; exact hn.elim
 ·rw [hN] at hn
  obtain ⟨rfl, n1⟩ := hn
  refine ⟨rfl, ?_⟩
  have hre : r = some (.error (fc, fk)) := by rw [HR0.out, hN]; rfl
  rw [hre]
  exact ⟨rfl, HP1.out.wr.trans HP1.out.mv (n1.weak _)⟩
 rw [hN] at hn
 obtain ⟨v2, a2, rfl, n1, n2, n3, n4⟩ := hn
 have hl2 := number_len hN
 have HRR : Hid (r = some (.ok (.num m, s2))) := by show _ = _; rw [HR0.out, hN]; rfl
 have HP2 := Lib.hid (HP1.out.step (by rw [List.append_nil]; exact n1) n2 (by omega) hl2.2)
 obtain ⟨⟨xs, x1, x2, x3⟩, -⟩ := n4
 have HX1 := Lib.hid x1
 have HX2 := Lib.hid x2
 clear n1 n2 n3 hN x1 x2
 go_wp2_with fail
 refine (dec_any _ xs _ HP2.out.rs.sg HX1.out (by omega)).mono ?_
 rintro e w3 ⟨rfl, b1⟩
 rw [HX2.out, decTx_eq]
 have HP3 := Lib.hid (HP2.out.step (HP2.out.rs.below b1) (Wr.of_below b1) (Nat.le_refl _) rfl)
 clear b1
 go_wp2_with fail
 refine (rd_put R tv L fin a2 s2 nv (ns ++ []) _ HP3.out.rs ⟨1, SynP.decT m, []⟩ _ KNew.nil (by rw [List.append_nil]; omega)).mono ?_
 rintro e w4 ⟨nv4, rfl, b1, b2, b3⟩
 have HP4 := Lib.hid (HP3.out.putS b1 b2 b3 (by rw [List.append_nil]; omega) (fun q hq => by simp [Value.ownBlock] at hq))
 clear b1 b2 b3
 go_wp2_with fail
 go_ret
 rw [HRR.out]
 exact ⟨_, a2, nv4, _, rfl, HP4.out, by simp [SynP.Ex.size], by simp [SynP.Ex.flat]⟩
end Go.Proofs.YtceggplnggkdnaaGreatDoor
namespace Go.Proofs.YtceggplnggkdnaaGreatDoor
open Go.RowKit NatP LexP
theorem intT_is {x : Bool × Nat} (h : SynP.EntOk x) : intTx x.1 x.2 = SynP.intT x := by
 obtain ⟨b, n⟩ := x
 unfold intTx SynP.intT
 cases b with
 | false => simp; rfl
 | true =>
  have h0 : n ≠ 0 := by have h1 : 0 < n := h rfl; omega
  simp [h0]; rfl
theorem matT_grid (m : SynP.MatV) (h : ∀ x ∈ m.at_, SynP.EntOk x) : gridT m.rows m.cols (intsT m.at_) = SynP.matT m := by
 have e : intsT m.at_ = m.at_.map SynP.intT := List.map_congr_left (fun x hx => intT_is (h x hx))
 rw [e]
 unfold gridT SynP.matT
 by_cases h0 : m.at_ = []
 ·rw [if_pos h0, h0, if_pos (by rfl)]
 ·rw [if_neg h0, if_neg (by simpa using h0)]
theorem kind_adv {k : Nat} {s : SynP.St} (h : SynP.isKind k s.ts = true) : s.adv.ts.length + 1 = s.ts.length := by
 have h2 := List.length_pos_iff.2 (isKind_ne h)
 show s.ts.tail.length + 1 = _
 rw [List.length_tail]; omega
theorem matrix_len {fin f : Nat} {s s' : SynP.St} {m : SynP.MatV} (h : SynP.matrix fin f s = some (.ok (m, s'))) : s'.ts.length + 1 ≤ s.ts.length := by
 unfold SynP.matrix at h
 obtain ⟨u, s1, h1, h2⟩ := SynP.bind_ok h
 have k1 := want_len h1
 split at h2
 ·unfold SynP.matShape at h2
  obtain ⟨a, s2, a1, a2⟩ := SynP.bind_ok h2
  obtain ⟨u2, s3, b1, b2⟩ := SynP.bind_ok a2
  obtain ⟨c, s4, c1, c2⟩ := SynP.bind_ok b2
  obtain ⟨u3, s5, d1, d2⟩ := SynP.bind_ok c2
  have e1 := (SynP.number_keep a1).2
  have e2 := (SynP.want_keep b1).2
  have e3 := (SynP.number_keep c1).2
  have e4 := (SynP.want_keep d1).2
  split at d2
  ·exact (SynP.fault_ok d2).elim
  ·have e := SynP.ret_ok d2
   cases e
   try simp only at *
   omega
 ·obtain ⟨q, s2, h3, h4⟩ := SynP.bind_ok h2
  have e1 := (SynP.entries_keep fin f _ _ _ _ h3).2
  unfold SynP.matDone at h4
  split at h4
  ·exact (SynP.fault_ok h4).elim
  ·split at h4
   ·exact (SynP.fault_ok h4).elim
   ·have e := SynP.ret_ok h4
    cases e
    try simp only at *
    omega
def tot (l : List (List Nat)) : Nat := (l.map List.length).sum
theorem simplex_count (fin : Nat) : ∀ (f : Nat) (acc : List Nat) (s : SynP.St) (r : List Nat × SynP.St), SynP.simplex fin f acc s = some (.ok r) → r.1.length + r.2.ts.length ≤ acc.length + s.ts.length
 | 0, _, _, _, h => by cases h
 | f + 1, acc, s, r, h => by
  unfold SynP.simplex at h
  split at h
  ·obtain ⟨m, s', h1, h2⟩ := SynP.bind_ok h
   have h3 := simplex_count fin f _ _ _ h2
   have h4 := number_len h1
   rw [List.length_append, List.length_singleton] at h3
   omega
  ·rw [SynP.ret_ok h]; exact Nat.le_refl _
theorem cpxLoop_count (fin : Nat) : ∀ (f : Nat) (acc : List (List Nat)) (s : SynP.St) (r : List (List Nat) × SynP.St), SynP.cpxLoop fin f acc s = some (.ok r) → tot r.1 + r.2.ts.length ≤ tot acc + s.ts.length ∧ r.1.length + r.2.ts.length ≤ acc.length + s.ts.length
 | 0, _, _, _, h => by cases h
 | f + 1, acc, s, r, h => by
  unfold SynP.cpxLoop at h
  obtain ⟨n, s1, h1, h2⟩ := SynP.bind_ok h
  obtain ⟨x, s2, h3, h4⟩ := SynP.bind_ok h2
  have k1 := number_len h1
  have k3 := simplex_count fin f _ _ _ h3
  have k4 := (SynP.simplex_keep fin f _ _ _ h3).2
  have kt : tot (acc ++ [x]) = tot acc + x.length := by simp [tot]
  simp only [List.length_singleton] at k3
  split at h4
  ·rw [SynP.ret_ok h4]
   have k5 := (SynP.Keep.adv s2).2
   simp only [kt, List.length_append, List.length_singleton] at *
   omega
  ·obtain ⟨u, s3, h5, h6⟩ := SynP.bind_ok h4
   have k5 := (SynP.want_keep h5).2
   have k6 := cpxLoop_count fin f _ _ _ h6
   rw [kt, List.length_append, List.length_singleton] at k6
   try simp only at *
   omega
theorem complex_count {fin f : Nat} {s : SynP.St} {r : List (List Nat) × SynP.St} (h : SynP.complex fin f s = some (.ok r)) : tot r.1 ≤ s.ts.length ∧ r.1.length ≤ s.ts.length := by
 unfold SynP.complex at h
 obtain ⟨u, s1, h1, h2⟩ := SynP.bind_ok h
 have k1 := (SynP.want_keep h1).2
 split at h2
 ·rw [SynP.ret_ok h2]; simp [tot]
 ·have := cpxLoop_count fin f _ _ _ h2
  simp [tot] at this k1 ⊢
  omega
theorem complex_len {fin f : Nat} {s s' : SynP.St} {l : List (List Nat)} (h : SynP.complex fin f s = some (.ok (l, s'))) : s'.ts.length + 1 ≤ s.ts.length := by
 unfold SynP.complex at h
 obtain ⟨u, s1, h1, h2⟩ := SynP.bind_ok h
 have k1 := want_len h1
 split at h2
 ·have e := SynP.ret_ok h2
  cases e
  have := tail_le s1
  omega
 ·have := (SynP.cpxLoop_keep fin f _ _ _ h2).2
  simp only at this
  omega
theorem tot_mem : ∀ {l : List (List Nat)} {s : List Nat}, s ∈ l → s.length ≤ tot l
 | a :: l, s, h => by
  show _ ≤ a.length + tot l
  rcases List.mem_cons.1 h with rfl | h
  ·omega
  ·have := tot_mem h; omega
theorem joinB_sum (sep : Bytes) : ∀ l : List Bytes, (SynP.joinB sep l).length ≤ (l.map List.length).sum + l.length * sep.length
 | [] => Nat.zero_le _
 | [a] => by show a.length ≤ (a.length + 0) + 1 * _; omega
 | a :: b :: l => by
  have h1 := joinB_sum sep (b :: l)
  show (a ++ sep ++ SynP.joinB sep (b :: l)).length ≤ (a.length + ((b :: l).map List.length).sum) + ((b :: l).length + 1) * sep.length
  simp only [List.length_append]
  rw [Nat.succ_mul]
  omega
theorem valOf_len (t : Bytes) : (SynP.decT (SynP.valOf t)).length ≤ max 1 t.length := by
 unfold SynP.decT
 split
 ·show 1 ≤ _; omega
 ·rw [List.length_map]
  refine Nat.le_trans (NatP.dg_len_le (w := (digs (t.filter NumP.isDig)).length) (NatP.decV_lt fun x hx => ?_)) ?_
  ·obtain ⟨c, hc, rfl⟩ := List.mem_map.1 hx
   have := (List.mem_filter.1 hc).2
   unfold NumP.isDig at this
   simp at this
   omega
  ·rw [show (digs (t.filter NumP.isDig)).length = (t.filter NumP.isDig).length from List.length_map _]
   exact Nat.le_trans (List.length_filter_le _ _) (Nat.le_max_right _ _)
def Lb (s : SynP.St) : Nat := (s.ts.map fun t => t.2.1.length + 1).sum
def sum1 (x : List Nat) : Nat := (x.map fun n => (SynP.decT n).length).sum
def sumD (l : List (List Nat)) : Nat := (l.map sum1).sum
theorem adv_lb (s : SynP.St) : Lb s.adv ≤ Lb s := by
 unfold Lb SynP.St.adv
 cases s.ts with
 | nil => exact Nat.le_refl _
 | cons t l => simp
theorem number_lb {fin : Nat} {s s' : SynP.St} {n : Nat} (h : SynP.number fin s = some (.ok (n, s'))) : (SynP.decT n).length + Lb s' ≤ Lb s := by
 unfold SynP.number at h
 split at h
 ·rename_i hk
  have e := SynP.ret_ok h
  injection e with e1 e2
  subst e1 e2
  have h1 := valOf_len (SynP.headText s.ts)
  unfold Lb SynP.St.adv
  cases hts : s.ts with
  | nil => rw [hts] at hk; cases hk
  | cons t l =>
   rw [hts] at h1
   change (SynP.decT (SynP.valOf t.2.1)).length ≤ max 1 t.2.1.length at h1
   show (SynP.decT (SynP.valOf t.2.1)).length + (l.map fun t => t.2.1.length + 1).sum ≤ ((t :: l).map fun t => t.2.1.length + 1).sum
   rw [List.map_cons, List.sum_cons]
   omega
 ·cases h
theorem want_lb {fin : Nat} {x : Bytes} {s s' : SynP.St} {u : Unit} (h : SynP.want fin x s = some (.ok (u, s'))) : Lb s' ≤ Lb s := by
 unfold SynP.want at h
 split at h
 ·have e := SynP.ret_ok h
  injection e with e1 e2
  subst e2
  exact adv_lb s
 ·cases h
theorem simplex_lb (fin : Nat) : ∀ (f : Nat) (acc : List Nat) (s : SynP.St) (r : List Nat × SynP.St), SynP.simplex fin f acc s = some (.ok r) → sum1 r.1 + Lb r.2 ≤ sum1 acc + Lb s
 | 0, _, _, _, h => by cases h
 | f + 1, acc, s, r, h => by
  unfold SynP.simplex at h
  split at h
  ·obtain ⟨m, s', h1, h2⟩ := SynP.bind_ok h
   have h3 := simplex_lb fin f _ _ _ h2
   have h4 := number_lb h1
   have h5 : sum1 (acc ++ [m]) = sum1 acc + (SynP.decT m).length := by simp [sum1]
   rw [h5] at h3
   omega
  ·rw [SynP.ret_ok h]; exact Nat.le_refl _
theorem cpxLoop_lb (fin : Nat) : ∀ (f : Nat) (acc : List (List Nat)) (s : SynP.St) (r : List (List Nat) × SynP.St), SynP.cpxLoop fin f acc s = some (.ok r) → sumD r.1 + Lb r.2 ≤ sumD acc + Lb s
 | 0, _, _, _, h => by cases h
 | f + 1, acc, s, r, h => by
  unfold SynP.cpxLoop at h
  obtain ⟨n, s1, h1, h2⟩ := SynP.bind_ok h
  obtain ⟨x, s2, h3, h4⟩ := SynP.bind_ok h2
  have k1 := number_lb h1
  have k3 := simplex_lb fin f _ _ _ h3
  have kn : sum1 [n] = (SynP.decT n).length := by simp [sum1]
  have kt : sumD (acc ++ [x]) = sumD acc + sum1 x := by simp [sumD]
  simp only [kn] at k3
  split at h4
  ·rw [SynP.ret_ok h4]
   have k5 := adv_lb s2
   simp only [kt] at *
   omega
  ·obtain ⟨u, s3, h5, h6⟩ := SynP.bind_ok h4
   have k5 := want_lb h5
   have k6 := cpxLoop_lb fin f _ _ _ h6
   rw [kt] at k6
   try simp only at *
   omega
theorem complex_lb {fin f : Nat} {s : SynP.St} {r : List (List Nat) × SynP.St} (h : SynP.complex fin f s = some (.ok r)) : sumD r.1 ≤ Lb s := by
 unfold SynP.complex at h
 obtain ⟨u, s1, h1, h2⟩ := SynP.bind_ok h
 have k1 := want_lb h1
 split at h2
 ·rw [SynP.ret_ok h2]; exact Nat.zero_le _
 ·have := cpxLoop_lb fin f _ _ _ h2
  have k0 : sumD [] = 0 := rfl
  omega
theorem sim_len (x : List Nat) : (simT x).length ≤ sum1 x + x.length := by
 have h := joinB_sum [32] (x.map SynP.decT)
 rw [List.length_map, List.map_map] at h
 have h4 : ([32] : Bytes).length = 1 := rfl
 rw [h4, Nat.mul_one] at h
 exact h
theorem sims_len : ∀ l : List (List Nat), ((l.map simT).map List.length).sum ≤ sumD l + tot l
 | [] => Nat.zero_le _
 | a :: l => by
  have h1 := sims_len l
  have h2 := sim_len a
  have e1 : sumD (a :: l) = sum1 a + sumD l := by simp [sumD]
  have e2 : tot (a :: l) = a.length + tot l := by simp [tot]
  rw [e1, e2, List.map_cons, List.map_cons, List.sum_cons]
  omega
theorem crd_len {l : List (List Nat)} (hd : sumD l ≤ 201326592) (ht : tot l ≤ 67108864) (hl : l.length ≤ 67108864) : (SynP.joinB [44, 32] (l.map simT)).length ≤ 70368744177664 := by
 have h1 := sims_len l
 have h2 := joinB_sum [44, 32] (l.map simT)
 rw [List.length_map] at h2
 have h4 : ([44, 32] : Bytes).length = 2 := rfl
 rw [h4] at h2
 omega
theorem lb_drop {L : List Tok} {a : Nat} {s : SynP.St} (h : L.drop a = s.ts) : Lb s ≤ (L.map fun t => t.2.1.length + 1).sum := by
 unfold Lb
 rw [← h]
 conv => rhs; rw [← List.take_append_drop a L, List.map_append, List.sum_append]
 omega
end Go.Proofs.YtceggplnggkdnaaGreatDoor
