/- Joined texts of this claim's proof: DecL, GrpP, SynP. -/
import Derived.Test.YtgfmiladfeoldaaGreatDoorPl17
import Derived.Test.YtgfmiladfeoldaaGreatDoorPl5
set_option linter.unusedSimpArgs false
set_option linter.unusedVariables false
namespace Go.Proofs.YtgfmiladfeoldaaGreatDoor
open Go.RowKit NatP LexP
def PvAll (w : World) (R : Nat) (pb : Option Nat) (vs : List Value) : Prop := ∀ j v, vs[j]? = some v → ∃ bs, Rd w v bs ∧ val bs = UU ^ 2 ^ j ∧ bs.length ≤ 274877906944 ∧ 2 ^ j ≤ 34359738368 ∧ ∀ q, v.ownBlock = some q → R < q ∧ pb ≠ some q
structure PgMid (R : Nat) (w1 : World) (wr : World) (i : Nat) (pv : Value) (vs : List Value) : Prop where
 st : WS wr R pv (.slice none 0 0) []
 own : wr.ownsRow (R + 1) 59 1 pv i vs
 all : PvAll wr R pv.ownBlock vs
 below : Below R w1 wr
structure PgSt (L R : Nat) (w1 : World) (p : Value) (wr : World) (i : Nat) (pv : Value) (xs : List Nat) (vs : List Value) : Prop extends PgMid R w1 wr i pv vs where
 rd : Fr (R + 1) wr p xs
 ne : ∀ q, p.ownBlock = some q → pv.ownBlock ≠ some q
 vl : val xs = UU ^ 2 ^ i
 st2 : strip xs = xs
 len : xs.length ≤ 2 * L
theorem PvAll.wr {w w' : World} {R : Nat} {pb pb' : Option Nat} {vs : List Value} (h : PvAll w R pb vs) (hw : Wr R pb w w') (hm : Mv w pb pb') : PvAll w' R pb' vs := fun j v hj => by
 obtain ⟨bs, h1, h2, h3, h4, h5⟩ := h j v hj
 refine ⟨bs, h1.wr hw (fun q hq => ⟨by have := h5 q hq; omega, (h5 q hq).2⟩), h2, h3, h4, fun q hq => ⟨(h5 q hq).1, fun e => ?_⟩⟩
 rcases hm q e with h | h
 ·exact (h5 q hq).2 h
 ·have := h1.lt hq; omega
theorem PgMid.below' {R : Nat} {w1 wr w2 : World} {i : Nat} {pv : Value} {vs : List Value} (h : PgMid R w1 wr i pv vs) (hb : Below wr.heap.size wr w2) : PgMid R w1 w2 i pv vs :=
 ⟨h.st.below hb, h.own.kept (row := none) ⟨hb.os, hb.tape, hb.output, hb.size, fun k hk _ => hb.block k hk⟩ (by cases pv.ownBlock <;> simp), h.all.wr (Wr.of_below hb) (Mv.refl _ _), h.below.trans (hb.mono (Nat.le_of_lt h.st.lt))⟩
theorem PgSt.below' {L R : Nat} {w1 wr w2 : World} {p : Value} {i : Nat} {pv : Value} {xs : List Nat} {vs : List Value} (h : PgSt L R w1 p wr i pv xs vs) (hb : Below wr.heap.size wr w2) : PgSt L R w1 p w2 i pv xs vs :=
 ⟨h.toPgMid.below' hb, h.rd.below hb, h.ne, h.vl, h.st2, h.len⟩
theorem PgSt.push {L R : Nat} {w1 wr w2 : World} {p : Value} {i gg cap : Nat} {pv : Value} {xs : List Nat} {vs : List Value} (h : PgSt L R w1 p wr i pv xs vs) (h1 : xs.length ≤ 274877906944) (h2 : 2 ^ i ≤ 34359738368)
  (hown : w2.ownsRow (R + 1) 59 1 (.slice (some ⟨gg, 0, none⟩) (i + 1) cap) (i + 1) (vs ++ [p])) (hg : wr.grownBy w2 pv.ownBlock) (hat : pv.ownBlock = some gg ∨ gg = wr.heap.size) :
  PgMid R w1 (w2.setCell ⟨R, 3, none⟩ (.slice (some ⟨gg, 0, none⟩) (i + 1) cap)) (i + 1) (.slice (some ⟨gg, 0, none⟩) (i + 1) cap) (vs ++ [p]) := by
 have hne : some R ≠ pv.ownBlock := fun e => by have := h.own.lt R e.symm; omega
 have hb := (hg.block R h.st.lt hne).trans h.st.blk
 have hset := heap_setCell_same w2 R 3 #[.int .i64 10, .int .i64 19, .int .u64 10000000000000000000, pv, .slice none 0 0] 216 (.slice (some ⟨gg, 0, none⟩) (i + 1) cap) hb
 have hwr : Wr R pv.ownBlock wr (w2.setCell ⟨R, 3, none⟩ (.slice (some ⟨gg, 0, none⟩) (i + 1) cap)) := (Wr.of_grown hg).trans (Mv.refl _ _) (Wr.of_set w2 3 _)
 have hmv : Mv wr pv.ownBlock (Value.ownBlock (.slice (some ⟨gg, 0, none⟩) (i + 1) cap)) := by
  intro k hk
  cases hk
  rcases hat with h | h
  ·exact .inl h
  ·exact .inr (Nat.le_of_eq h.symm)
 refine ⟨⟨hset.trans (by simp), World.ownsRow_nil _ _ _ _, h.st.big⟩, ownsRow_setCell_below hown (by simp) _, ?_, hwr.to_below h.below (Nat.le_of_lt h.st.lt) (Nat.le_refl _) (fun k hk => by have := h.own.lt k hk; omega)⟩
 intro j v hj
 have hvl : vs.length = i := by have := h.own.1; omega
 by_cases hji : j < vs.length
 ·rw [List.getElem?_append_left hji] at hj
  exact h.all.wr hwr hmv j v hj
 ·have hje : j = i := by
   have := (List.getElem?_eq_some_iff.1 hj).1
   rw [List.length_append] at this; simp at this; omega
  subst hje
  rw [List.getElem?_append_right (by omega), hvl] at hj
  simp at hj
  subst hj
  refine ⟨xs, h.rd.1.wr hwr (fun q hq => ⟨by have := h.rd.2 q hq; omega, h.ne q hq⟩), h.vl, h1, h2, fun q hq => ⟨by have := h.rd.2 q hq; omega, fun e => ?_⟩⟩
  rcases hmv q e with h3 | h3
  ·exact h.ne q hq h3
  ·have := h.rd.2 q hq; omega
theorem PgMid.pw {R : Nat} {w1 wr : World} {i : Nat} {pv : Value} {vs : List Value} (h : PgMid R w1 wr i pv vs) : PW wr R (Value.ownBlock (.slice none 0 0)) pv i := by
 have hvl : vs.length = i := by have := h.own.1; omega
 obtain ⟨ao, cap, e, h1, h2, h3⟩ := ownsRow_shape h.own
 by_cases h0 : 0 < i
 ·obtain ⟨g, rfl, a1, a2, a3⟩ := h3 h0
  refine ⟨g, cap, fun _ => ⟨e, h1, h2, a2, by omega, by simp [Value.ownBlock]⟩, fun j hj => ?_⟩
  have hc := a3 j (by omega)
  have hlt : j < vs.length := by omega
  obtain ⟨bs, b1, b2, b3, b4, b5⟩ := h.all j vs[j] (List.getElem?_eq_getElem hlt)
  refine ⟨vs[j], bs, by rw [hc, List.getElem?_eq_getElem hlt], b1, b2, b3, b4, fun q hq => ⟨by have := b5 q hq; omega, by simp [Value.ownBlock]⟩⟩
 ·exact ⟨0, 0, fun h => absurd h h0, fun j hj => by omega⟩
def npow (R : Nat) (w : World) : Nat := lenOf ((w.cell? ⟨R, 3, none⟩).getD (.bool false))
theorem PgMid.npow {R : Nat} {w1 wr : World} {i : Nat} {pv : Value} {vs : List Value} (h : PgMid R w1 wr i pv vs) : npow R wr = i := by
 unfold Go.Proofs.YtgfmiladfeoldaaGreatDoor.npow
 rw [h.st.cell.2.2.2.1]
 exact own_lenOf h.own
theorem PgSt.npow {L R : Nat} {w1 p : _} {wr : World} {i : Nat} {pv : Value} {xs : List Nat} {vs : List Value} (h : PgSt L R w1 p wr i pv xs vs) : npow R wr = i := h.toPgMid.npow
theorem pow_two_count {N L i : Nat} (hN : N < BB ^ L) (h : UU ^ 2 ^ i ≤ N) : 2 ^ i < 2 * L := prt_count (k := 2 ^ i) hN (Nat.div_pos h (Nat.pow_pos UU_pos))
set_option maxRecDepth 100000 in
set_option maxHeartbeats 4000000 in
theorem text_long (v : Value) (xs : List Nat) (w : World) (hs : SG w) (hv : Rd w v xs) (hl : 12 < (strip xs).length) (hl2 : xs.length ≤ 8589934592) :
  Calls Tryz.prog 169 #[v, .int .i64 10] w (TextPost (val xs) w) := by
 have HV := Lib.hid hv
 have HSG := Lib.hid hs
 obtain ⟨X, hX⟩ : ∃ X, X = strip xs := ⟨_, rfl⟩
 have hXv : val X = val xs := by rw [hX, val_strip]
 have hXs : strip X = X := by rw [hX, strip_strip]
 have hsz : 4 < w.heap.size := World.block_lt_of_cell? w _ (hs 0 (by omega))
 have hXl : X.length ≤ 8589934592 := by rw [hX]; exact Nat.le_trans (strip_le xs) hl2
 rw [← hX] at hl
 obtain ⟨n, hn⟩ : ∃ n, n = X.length := ⟨_, rfl⟩
 rw [← hn] at hl hXl
 have HX := Lib.hid hX
 have HXV := Lib.hid hXv
 have HN := Lib.hid hn
 have hb : ((n : Int) == 0) = false := by simp; omega
 have hb12 : (12 : Int) < (n : Int) := by omega
 have hpos : val xs ≠ 0 := fun e => by
  have := strip_len_of_lt xs 0 (by rw [e]; simp)
  rw [← hX] at this
  omega
 have HD : Hid (decTx (val xs) = (pad (val X) 0).map sgn) := by
  show _ = _
  unfold decTx
  rw [if_neg hpos, pad_nil, hXv]
 clear hv hs hX hXv hn hpos hXs
 go_enter Tryz.func169, Tryz.ntmps169
 go_wp2_with fail
 refine (least_blk _ xs _ HV.out (by omega)).mono ?_
 rintro e w1 ⟨rfl, hB, hb1⟩
 rw [← HX.out] at hB ⊢
 have HB := Lib.hid hB
 have HB1 := Lib.hid hb1
 rw [← HN.out]
 clear hB hb1
 go_wp2_with fail
 refine (piece_ten _).mono ?_
 rintro e w2 ⟨rfl, rfl⟩
 go_wp2_with fail
 have hsg1 := HSG.out.below HB1.out hsz
 have hb2 := below_alloc w1 (.cells #[.int .i64 10, .int .i64 19, .int .u64 10000000000000000000, .slice none 0 0, .slice none 0 0] 216)
 have hsz1 : 4 < w1.heap.size := Nat.lt_of_lt_of_le hsz HB1.out.size
 have HW := WS.made w1 hsz1
 have HSG2 := Lib.hid (hsg1)
 have HR := Lib.hid (HB.out.whole (by rw [← HN.out]; omega))
 rw [← HN.out] at HR
 have hz1 := HB1.out.size
 have hwl : w.heap.size < w1.heap.size := HB.out.lt
 have HS0 : Hid (PgSt n w1.heap.size w1 (.slice (some ⟨w1.heap.size + 1, 0, none⟩) 1 1) ((w1.alloc (.cells #[.int .i64 10, .int .i64 19, .int .u64 10000000000000000000, .slice none 0 0, .slice none 0 0] 216)).alloc (.cells #[.int .u64 10000000000000000000] 101)) 0 (.slice none 0 0) [10000000000000000000] []) := by
  have hb3 := below_alloc (w1.alloc (.cells #[.int .i64 10, .int .i64 19, .int .u64 10000000000000000000, .slice none 0 0, .slice none 0 0] 216)) (.cells #[.int .u64 10000000000000000000] 101)
  have hblk : Blk ((w1.alloc (.cells #[.int .i64 10, .int .i64 19, .int .u64 10000000000000000000, .slice none 0 0, .slice none 0 0] 216)).alloc (.cells #[.int .u64 10000000000000000000] 101)) (w1.heap.size + 1) [10000000000000000000] := by
   refine ⟨?_, ?_⟩
   ·have := heap_alloc_new (w1.alloc (.cells #[.int .i64 10, .int .i64 19, .int .u64 10000000000000000000, .slice none 0 0, .slice none 0 0] 216)) (.cells #[.int .u64 10000000000000000000] 101)
    simp only [World.size_alloc] at this
    exact this
   ·intro x hx; simp at hx; subst hx; unfold BB; omega
  refine ⟨⟨HW.below hb3, World.ownsRow_nil _ _ _ _, fun j v h => by simp at h, hb2.trans (hb3.mono (by simp))⟩, ⟨hblk.whole (by simp), fun q hq => ?_⟩, fun q _ => by simp [Value.ownBlock], by rw [Nat.pow_zero, Nat.pow_one]; rfl, by rfl, by simp; omega⟩
  cases hq
  exact ⟨Nat.le_refl _, by simp⟩
 have HNL : Hid (val xs < BB ^ n) := by
  show _ < _
  rw [← HXV.out, HN.out]; exact val_lt HB.out.2
 have hlen : ([] : Bytes).length + (pad (NatP.val X) 0).length ≤ 274877906944 := by
  have h1 : NatP.val X < BB ^ n := by rw [HXV.out]; exact HNL.out
  have := dg_len_BB h1
  rw [pad_nil]; simp only [List.length_nil]; omega
 have HLEN := Lib.hid hlen
 obtain ⟨R, hR⟩ : ∃ R, R = w1.heap.size := ⟨_, rfl⟩
 have HRE := Lib.hid hR
 clear hsg1 hb2 HW hlen hR
 go_loopw [9] (fun p wr => ∃ i pv zs vs, PgSt n w1.heap.size w1 p wr i pv zs vs ∧ i ≤ 64) (fun _ wr => 64 - npow w1.heap.size wr)
 case atStart => exact ⟨0, _, _, _, HS0.out, by omega⟩
 clear HS0
 case round =>
  obtain ⟨i, pv, zs, vs, hst, hi65⟩ := hrel
  have HST := Lib.hid hst
  have hnp := hst.npow
  have HNP := Lib.hid hnp
  have HNL2 := HNL
  obtain ⟨zo, zcap, rfl, hzc1, hzc2, -⟩ := hst.rd.1.2
  clear hst hnp hzc1 hzc2
  by_cases hle : NatP.val zs ≤ NatP.val xs
  ·have hp2 : 2 ^ i < 2 * n := pow_two_count HNL.out (by rw [← HST.out.vl]; exact hle)
   have hi64 : i < 64 := by
    have h1 : 2 ^ i < 2 ^ 36 := Nat.lt_of_lt_of_le hp2 (by omega)
    have := (Nat.pow_lt_pow_iff_right (a := 2) (by omega)).1 h1
    omega
   have hzl : zs.length ≤ n := by
    have := strip_len_of_lt zs n (Nat.lt_of_le_of_lt hle HNL.out)
    rw [HST.out.st2] at this; exact this
   have hcb : decide (cmpI (NatP.val zs) (NatP.val X) ≤ 0) = true := by
    rw [HXV.out]
    unfold cmpI
    by_cases h1 : NatP.val zs < NatP.val xs
    ·rw [if_pos h1]; rfl
    ·rw [if_neg h1, if_neg (by omega)]; rfl
   obtain ⟨ci, hci⟩ : ∃ ci, ci = cmpI (NatP.val zs) (NatP.val X) := ⟨_, rfl⟩
   rw [← hci] at hcb
   have HCI := Lib.hid hci
   have hcl : 2 ^ i ≤ 34359738368 := by omega
   clear hle hp2 hci
   go_wp2_with fail
   refine (cmp_any _ _ zs X _ HST.out.rd.1 (HR.out.below (HST.out.below.mono (by omega)))).mono ?_
   rintro e w4 ⟨rfl, hb4⟩
   rw [← HCI.out]
   have HST4 := Lib.hid (HST.out.below' hb4)
   clear hb4
   obtain ⟨i0, hi, hk0, hk1, hk2⟩ := info_parts Tryz.infoWs
   have HST5 := Lib.hid (HST4.out.below' (below_alloc w4 (.cells #[.slice zo zs.length zcap] 59)))
   have HLT : Hid (w1.heap.size < (w4.alloc (.cells #[.slice zo zs.length zcap] 59)).heap.size) := HST5.out.st.lt
   have HNE : Hid (some w1.heap.size ≠ pv.ownBlock) := fun e => by have := HST5.out.own.lt w1.heap.size e.symm; omega
   have c3 := HST4.out.st.cell.2.2.2.1
   have ca3 := HST5.out.st.cell.2.2.2.1
   have ca4 := frozen_of_row _ w1.heap.size 3 _ _ HST5.out.st.blk
   have CA3 := Lib.hid ca3
   have CA4 := Lib.hid ca4
   clear ca3 ca4
   have hzl2 : zs.length ≤ 8589934592 := by omega
   have HZL := Lib.hid hzl
   go_wp2_with (at_builtin; refine wpList_append_lies _ rfl _ _ 36 rfl (w1.heap.size + 1) 59 i0 (.slice none 0 0) 1 24 Tryz.underlying36 hi hk0 hk1 hk2 rfl (by omega) pv i vs rfl HST5.out.own ⟨w4.heap.size, 0, none⟩ 1 1 [.slice zo zs.length zcap] rfl rfl (LexP.cells_new _ _ _ _ rfl) (by simp [Value.oneCell']) (by omega) (by unfold maxLen; omega) (by omega) (by have := HLT.out; simp at this; simp; omega) (w4.heap.size + 1) (by simp) ?_)
   intro gg cap w5 hown5 hgrow hat hlt5
   have d4 : w5.cell? ⟨w1.heap.size, 3, none⟩ = some pv := (hgrow.cell_far ⟨w1.heap.size, 3, none⟩ HLT.out HNE.out).trans CA3.out
   have d5 : w5.frozen? ⟨w1.heap.size, 3, none⟩ = false := (hgrow.frozen_far ⟨w1.heap.size, 3, none⟩ HLT.out HNE.out).trans CA4.out
   have HG := Lib.hid (HST5.out.push (by omega) hcl hown5 hgrow (by simpa using hat))
   have HZR := Lib.hid HST5.out
   have HWRR := Lib.hid ((Wr.of_grown (R := w1.heap.size) hgrow).trans (Mv.refl _ _) (Wr.of_set w5 3 (.slice (some ⟨gg, 0, none⟩) (i + 1) cap)))
   clear hown5 hgrow hat hlt5
   by_cases hbig : n + 2 < 2 * zs.length
   ·have hbb : decide ((n : Int) + 2 < 2 * (zs.length : Int)) = true := by simp; omega
    clear hbig
    go_wp2_with fail
    have HBE := Lib.hid (HG.out.below)
    have hcall := whalves_any (i + 1) (i + 1) (Nat.le_refl _) w1.heap.size 0 _ _ (.slice none 0 0) X [] _ HG.out.st (HSG2.out.below HBE.out hsz1) HG.out.pw (HR.out.below HBE.out) (fun q hq => by cases hq; exact ⟨by show w.heap.size ≠ w1.heap.size; omega, by simp [Value.ownBlock]⟩) (by rw [← HN.out]; omega) HLEN.out
    rw [show (((i + 1 : Nat) : Int) - 1) = (i : Int) from by omega] at hcall
    have HCALL := Lib.hid hcall
    have HB2 : Hid (Below w.heap.size w (w5.setCell ⟨w1.heap.size, 3, none⟩ (.slice (some ⟨gg, 0, none⟩) (i + 1) cap))) := HB1.out.trans (HBE.out.mono hz1)
    have HSZ := Lib.hid (Nat.le_of_lt HG.out.st.lt)
    clear hcall
    refine HCALL.out.mono ?_
    rintro e w6 ⟨ov, rfl, r1, r2, r3⟩
    rw [List.nil_append, ← HD.out] at r1
    have c4 := r1.cell.2.2.2.2.1
    have htx := run_text (B := w1.heap.size + 1) (w := w6) (v := ov) (l := decTx (NatP.val xs)) r1.own
    have HB3 : Hid (Below w.heap.size w w6) := r2.to_below HB2.out (Nat.le_trans hz1 HSZ.out) (by omega) (fun k hk => by cases hk)
    clear r1 r2 r3
    go_wp2_with fail
    go_ret2
    exact ⟨rfl, HB3.out⟩
   ·have hbb : decide ((n : Int) + 2 < 2 * (zs.length : Int)) = false := by simp; omega
    clear hbig
    go_wp2_with fail
    have HRD := Lib.hid (HZR.out.rd.1.wr (R := w1.heap.size) (og := pv.ownBlock) HWRR.out (fun q hq => ⟨by have := HZR.out.rd.2 q hq; omega, HZR.out.ne q hq⟩))
    refine (square_any zs _ _ (by omega) HRD.out).mono ?_
    rintro e w6 ⟨v6, ys, rfl, f1, f2, f3, f4, f5⟩
    have hfin : PgSt n w1.heap.size w1 v6 w6 (i + 1) _ ys _ := ⟨HG.out.below' f5, f1.mono HG.out.st.lt, fun q hq e => by have := f1.2 q hq; have := HG.out.own.lt q e; omega, by rw [f2, HZR.out.vl, ← Nat.pow_add, ← Nat.two_mul, Nat.mul_comm, Nat.pow_succ], f4, by have := HZL.out; omega⟩
    have hnp6 := hfin.npow
    have HFIN := Lib.hid hfin
    have HNP6 := Lib.hid hnp6
    clear f1 f2 f3 f4 f5 hfin hnp6
    go_wp2_with fail
    first | exact ⟨⟨_, _, _, _, HFIN.out, by omega⟩, by rw [HNP6.out, HNP.out]; omega⟩ | exact ⟨by (repeat apply Exists.intro); exact ⟨⟨_, _, _, _, HFIN.out, by omega⟩, rfl⟩, by rw [HNP6.out, HNP.out]; omega⟩
  ·have hcb : decide (cmpI (NatP.val zs) (NatP.val X) ≤ 0) = false := by
    rw [HXV.out]
    unfold cmpI
    rw [if_neg (by omega), if_pos (by omega)]; rfl
   obtain ⟨ci, hci⟩ : ∃ ci, ci = cmpI (NatP.val zs) (NatP.val X) := ⟨_, rfl⟩
   rw [← hci] at hcb
   have HCI := Lib.hid hci
   clear hle hci
   go_wp2_with fail
   refine (cmp_any _ _ zs X _ HST.out.rd.1 (HR.out.below (HST.out.below.mono (by omega)))).mono ?_
   rintro e w4 ⟨rfl, hb4⟩
   rw [← HCI.out]
   have HM := Lib.hid (HST.out.below' hb4).toPgMid
   clear hb4
   have c3 := HM.out.st.cell.2.2.2.1
   obtain ⟨po, pcap, rfl, hpc, hpm, hpsh⟩ := ownsRow_shape HM.out.own
   have HPS := Lib.hid hpsh
   clear hpc hpm hpsh
   go_wp2_with fail
   have HBE := Lib.hid (HM.out.below)
   have hcall := whalves_any i i (Nat.le_refl _) w1.heap.size 0 _ _ (.slice none 0 0) X [] _ HM.out.st (HSG2.out.below HBE.out hsz1) HM.out.pw (HR.out.below HBE.out) (fun q hq => by cases hq; exact ⟨by show w.heap.size ≠ w1.heap.size; omega, by simp [Value.ownBlock]⟩) (by rw [← HN.out]; omega) HLEN.out
   have HCALL := Lib.hid hcall
   have HB2 : Hid (Below w.heap.size w w4) := HB1.out.trans (HBE.out.mono hz1)
   have HSZ := Lib.hid (Nat.le_of_lt HM.out.st.lt)
   clear hcall
   refine HCALL.out.mono ?_
   rintro e w6 ⟨ov, rfl, r1, r2, r3⟩
   rw [List.nil_append, ← HD.out] at r1
   have c4 := r1.cell.2.2.2.2.1
   have htx := run_text (B := w1.heap.size + 1) (w := w6) (v := ov) (l := decTx (NatP.val xs)) r1.own
   have HB3 : Hid (Below w.heap.size w w6) := r2.to_below HB2.out (Nat.le_trans hz1 HSZ.out) (by omega) (fun k hk => by cases hk)
   clear r1 r2 r3
   go_wp2_with fail
   go_ret2
   exact ⟨rfl, HB3.out⟩
theorem radixText_any (v : Value) (xs : List Nat) (w : World) (hs : SG w) (hv : Rd w v xs) (hl : xs.length ≤ 8589934592) :
  Calls Tryz.prog 169 #[v, .int .i64 10] w (TextPost (val xs) w) := by
 by_cases h : (strip xs).length ≤ 12
 ·exact text_short v xs w hs hv h (by omega)
 ·exact text_long v xs w hs hv (by omega) hl
def DecPost (n : Nat) (w : World) (e : Ending) (w' : World) : Prop := e = .returned (.string ⟨(decTx n).toArray⟩) ∧ Below w.heap.size w w'
set_option maxRecDepth 100000 in
theorem dec_any (v : Value) (xs : List Nat) (w : World) (hs : SG w) (hv : Rd w v xs) (hl : xs.length ≤ 8589934592) :
  Calls Tryz.prog 120 #[v] w (DecPost (val xs) w) := by
 have HV := Lib.hid hv
 have HSG := Lib.hid hs
 clear hv hs
 go_enter Tryz.func120, Tryz.ntmps120
 go_wp2_with fail
 refine (radixText_any _ xs _ HSG.out HV.out hl).mono ?_
 rintro e w1 ⟨rfl, hb1⟩
 have HB1 := Lib.hid hb1
 clear hb1
 go_wp2_with fail
 go_ret
 exact ⟨rfl, HB1.out⟩
end Go.Proofs.YtgfmiladfeoldaaGreatDoor
namespace LexP
def okUpto (t : Bytes) (pos : Nat) : Prop := ∀ j, j < pos → t[j]? = some 95 → 0 < j ∧ t[j - 1]? ≠ some 95
def btw (t : Bytes) (pos : Nat) : Bool := decide (0 < pos) && (t[pos - 1]? != some 95)
theorem okUpto_zero (t : Bytes) : okUpto t 0 := fun j h => absurd h (Nat.not_lt_zero _)
theorem btw_succ (t : Bytes) (pos : Nat) : btw t (pos + 1) = (t[pos]? != some 95) := by simp [btw]
theorem okUpto_succ {t : Bytes} {pos : Nat} (h : okUpto t pos) (hb : t[pos]? = some 95 → btw t pos = true) : okUpto t (pos + 1) := by
 intro j hj h95
 rcases Nat.lt_succ_iff_lt_or_eq.1 hj with h1 | rfl
 ·exact h j h1 h95
 ·have := hb h95
  simp only [btw, Bool.and_eq_true, decide_eq_true_eq, bne_iff_ne] at this
  exact this
theorem rg_fail {t : Bytes} {pos : Nat} (h : t[pos]? = some 95) (hb : btw t pos = false) : anyBad t = true := by
 rw [anyBad_iff]
 refine ⟨pos, (List.getElem?_eq_some_iff.1 h).1, ?_⟩
 simp only [btw, Bool.and_eq_false_iff, decide_eq_false_iff_not, bne_eq_false_iff_eq] at hb
 simp only [usBad, h, beq_self_eq_true, Bool.true_and]
 rcases hb with hb | hb
 ·have : pos = 0 := by omega
  subst this; simp
 ·rw [hb]; simp
theorem rg_end_bad {t : Bytes} (h0 : t ≠ []) (hb : btw t t.length = false) : anyBad t = true := by
 rw [anyBad_iff]
 have hl : 0 < t.length := List.length_pos_iff.2 h0
 simp only [btw, Bool.and_eq_false_iff, decide_eq_false_iff_not, bne_eq_false_iff_eq] at hb
 rcases hb with hb | hb
 ·omega
 ·refine ⟨t.length - 1, by omega, ?_⟩
  have : decide (t.length ≤ t.length - 1 + 1) = true := decide_eq_true (by omega)
  simp only [usBad, hb, beq_self_eq_true, this, Bool.true_and, Bool.or_true, Bool.true_or]
theorem rg_end_ok {t : Bytes} (h : okUpto t t.length) (hb : btw t t.length = true) : anyBad t = false := by
 cases ha : anyBad t with
 | false => rfl
 | true =>
  exfalso
  obtain ⟨j, hj, hu⟩ := (anyBad_iff t).1 ha
  simp only [usBad, Bool.and_eq_true, Bool.or_eq_true, beq_iff_eq, decide_eq_true_eq] at hu
  obtain ⟨h95, hu⟩ := hu
  obtain ⟨h1, h2⟩ := h j hj h95
  simp only [btw, Bool.and_eq_true, decide_eq_true_eq, bne_iff_ne] at hb
  rcases hu with ((hu | hu) | hu) | hu
  ·omega
  ·have : t.length - 1 = j := by omega
   rw [this] at hb; exact hb.2 h95
  ·exact h2 hu
  ·have hlt : j + 1 < t.length := (List.getElem?_eq_some_iff.1 hu).1
   obtain ⟨_, h4⟩ := h (j + 1) hlt hu
   rw [Nat.add_sub_cancel] at h4
   exact h4 h95
theorem btw_of_ok {t : Bytes} (h0 : t ≠ []) (h : anyBad t = false) : btw t t.length = true := by
 cases hb : btw t t.length with
 | true => rfl
 | false => rw [rg_end_bad h0 hb] at h; cases h
theorem dec_low {b : UInt8} {r : Bytes} (h : b.toNat < 128) : val (b :: r) = some b.toNat ∧ wid (b :: r) = 1 := by
 have : dec (b :: r) = some (b.toNat, 1) := by
  show (if b.toNat < 0x80 then _ else _) = _
  rw [if_pos h]
 simp [val, wid, this]
def digs (l : Bytes) : List Nat := l.map fun c => c.toNat - 48
theorem digs_append (a b : Bytes) : digs (a ++ b) = digs a ++ digs b := by simp [digs]
end LexP
namespace SynP
open LexP
structure Node where
 op : Nat
 text : Bytes
 kids : List Nat
deriving DecidableEq, Repr
structure MatV where
 rows : Nat
 cols : Nat
 at_ : List (Bool × Nat)
deriving DecidableEq, Repr
mutual
inductive Ex where
 | num (n : Nat) | name (x : Bytes) | mat (m : MatV) | cpx (l : List (List Nat))
 | neg (a : Ex) | turn (a : Ex) | add (a b : Ex) | sub (a b : Ex) | mul (a b : Ex) | pow (a : Ex) (n : Nat) | call (x : Bytes) (l : Exs)
inductive Exs where
 | nil | cons (a : Ex) (l : Exs)
end
inductive Ln where
 | nothing | lets (x : Bytes) (e : Ex) | cmd (x : Bytes) (l : Exs)
def Exs.snoc : Exs → Ex → Exs
 | .nil, e => .cons e .nil
 | .cons a l, e => .cons a (l.snoc e)
def Exs.len : Exs → Nat
 | .nil => 0
 | .cons _ l => l.len + 1
structure St where
 ts : List Tok
 opened : Nat
deriving DecidableEq, Repr
abbrev PR (α : Type) := Option (Except (Nat × Nat) (α × St))
def PR.bind {α β : Type} (x : PR α) (f : α → St → PR β) : PR β :=
 match x with
 | none => none
 | some (.error e) => some (.error e)
 | some (.ok (a, s)) => f a s
def ret {α : Type} (a : α) (s : St) : PR α := some (.ok (a, s))
def fault {α : Type} (c e : Nat) : PR α := some (.error (c, e))
def colOf (fin : Nat) (ts : List Tok) : Nat := match ts with | [] => fin | t :: _ => t.2.2
def isMark (x : Bytes) (ts : List Tok) : Bool := match ts with | (k, t, _) :: _ => k == 3 && t == x | [] => false
def isKind (k : Nat) (ts : List Tok) : Bool := match ts with | (j, _, _) :: _ => j == k | [] => false
def St.adv (s : St) : St := { s with ts := s.ts.tail }
def unfit {α : Type} (fin : Nat) (s : St) : PR α := fault (colOf fin s.ts) 14
def want (fin : Nat) (x : Bytes) (s : St) : PR Unit := if isMark x s.ts then ret () s.adv else unfit fin s
def valOf (t : Bytes) : Nat := NatP.decV (digs (t.filter NumP.isDig))
def headText (ts : List Tok) : Bytes := match ts with | (_, t, _) :: _ => t | [] => []
def number (fin : Nat) (s : St) : PR Nat := if isKind 1 s.ts then ret (valOf (headText s.ts)) s.adv else unfit fin s
def name (fin : Nat) (s : St) : PR Bytes := if isKind 2 s.ts then ret (headText s.ts) s.adv else unfit fin s
def decT (n : Nat) : Bytes := if n = 0 then [48] else (NatP.dg n).map fun d => UInt8.ofNat (48 + d)
def intT (x : Bool × Nat) : Bytes := (if x.1 then [45] else []) ++ decT x.2
def joinB (sep : Bytes) : List Bytes → Bytes
 | [] => []
 | [a] => a
 | a :: l => a ++ sep ++ joinB sep l
def rowsOf {α : Type} (cols : Nat) : Nat → List α → List (List α)
 | 0, _ => []
 | r + 1, l => l.take cols :: rowsOf cols r (l.drop cols)
def matT (m : MatV) : Bytes :=
 if m.at_ = [] then [91] ++ decT m.rows ++ [58] ++ decT m.cols ++ [93]
 else [91] ++ joinB [59, 32] ((rowsOf m.cols m.rows (m.at_.map intT)).map (joinB [32])) ++ [93]
def cpxT (l : List (List Nat)) : Bytes := [123] ++ joinB [44, 32] (l.map fun s => joinB [32] (s.map decT)) ++ [125]
def side (n : Nat) : Nat := if 64 < n then 65 else n
def entryRow (fin : Nat) : Nat → Nat → List (Bool × Nat) → St → PR (Nat × List (Bool × Nat))
 | 0, _, _, _ => none
 | f + 1, n, acc, s =>
  if n = 0 || isMark [45] s.ts || isKind 1 s.ts then
   (number fin (if isMark [45] s.ts then s.adv else s)).bind fun m s' => entryRow fin f (n + 1) (acc ++ [(isMark [45] s.ts && decide (0 < m), m)]) s'
  else ret (n, acc) s
def entries (fin : Nat) : Nat → List (Bool × Nat) → List Nat → St → PR (List (Bool × Nat) × List Nat)
 | 0, _, _, _ => none
 | f + 1, acc, lens, s =>
  (entryRow fin f 0 acc s).bind fun r s =>
   if isMark [93] s.ts then ret (r.2, lens ++ [r.1]) s.adv
   else (want fin [59] s).bind fun _ s => entries fin f r.2 (lens ++ [r.1]) s
def matShape (fin col : Nat) (s : St) : PR MatV :=
 (number fin s).bind fun r s => (want fin [58] s).bind fun _ s => (number fin s).bind fun c s => (want fin [93] s).bind fun _ s =>
  if 64 < side r || 64 < side c then fault col 5
  else ret ⟨r, c, List.replicate (r * c) (false, 0)⟩ s
def matDone (col : Nat) (a : List (Bool × Nat) × List Nat) (s : St) : PR MatV :=
 if a.2.any (· != a.2.headD 0) then fault col 2
 else if 64 < a.2.length || 64 < a.2.headD 0 then fault col 5
 else ret ⟨a.2.length, a.2.headD 0, a.1⟩ s
def matrix (fin f : Nat) (s0 : St) : PR MatV :=
 (want fin [91] s0).bind fun _ s =>
  if isKind 1 s.ts && isMark [58] s.ts.tail then matShape fin (colOf fin s0.ts) s
  else (entries fin f [] [] s).bind (matDone (colOf fin s0.ts))
def simplex (fin : Nat) : Nat → List Nat → St → PR (List Nat)
 | 0, _, _ => none
 | f + 1, acc, s => if isKind 1 s.ts then (number fin s).bind fun n s => simplex fin f (acc ++ [n]) s else ret acc s
def cpxLoop (fin : Nat) : Nat → List (List Nat) → St → PR (List (List Nat))
 | 0, _, _ => none
 | f + 1, acc, s =>
  (number fin s).bind fun n s => (simplex fin f [n] s).bind fun x s =>
   if isMark [125] s.ts then ret (acc ++ [x]) s.adv
   else (want fin [44] s).bind fun _ s => cpxLoop fin f (acc ++ [x]) s
def complex (fin f : Nat) (s : St) : PR (List (List Nat)) :=
 (want fin [123] s).bind fun _ s => if isMark [125] s.ts then ret [] s.adv else cpxLoop fin f [] s
def minuses : Nat → Nat → St → PR Nat
 | 0, _, _ => none
 | f + 1, n, s => if isMark [45] s.ts then minuses f (n + 1) s.adv else ret n s
def negs : Nat → Ex → Ex
 | 0, k => k
 | n + 1, k => negs n (.neg k)
def turns : Nat → Ex → St → PR Ex
 | 0, _, _ => none
 | f + 1, k, s => if isMark [39] s.ts then turns f (.turn k) s.adv else ret k s
def openB (fin : Nat) (s : St) : PR Unit :=
 if 100 < s.opened + 1 then fault (colOf fin s.ts) 5 else ret () { s.adv with opened := s.opened + 1 }
def closeB (fin : Nat) (s : St) : PR Unit := (want fin [41] s).bind fun _ s => ret () { s with opened := s.opened - 1 }
mutual
def expr (fin : Nat) : Nat → St → PR Ex
 | 0, _ => none
 | f + 1, s => (term fin f s).bind fun k s => exprLoop fin f k s
def exprLoop (fin : Nat) : Nat → Ex → St → PR Ex
 | 0, _, _ => none
 | f + 1, k, s =>
  if isMark [43] s.ts then (term fin f s.adv).bind fun t s => exprLoop fin f (.add k t) s
  else if isMark [45] s.ts then (term fin f s.adv).bind fun t s => exprLoop fin f (.sub k t) s
  else ret k s
def term (fin : Nat) : Nat → St → PR Ex
 | 0, _ => none
 | f + 1, s => (factor fin f s).bind fun k s => termLoop fin f k s
def termLoop (fin : Nat) : Nat → Ex → St → PR Ex
 | 0, _, _ => none
 | f + 1, k, s =>
  if isMark [42] s.ts then (factor fin f s.adv).bind fun t s => termLoop fin f (.mul k t) s
  else ret k s
def factor (fin : Nat) : Nat → St → PR Ex
 | 0, _ => none
 | f + 1, s =>
  (minuses f 0 s).bind fun n s => (post fin f s).bind fun k s =>
   if isMark [94] s.ts then (number fin s.adv).bind fun m s => ret (negs n (.pow k m)) s
   else ret (negs n k) s
def post (fin : Nat) : Nat → St → PR Ex
 | 0, _ => none
 | f + 1, s => (atom fin f s).bind fun k s => turns f k s
def atom (fin : Nat) : Nat → St → PR Ex
 | 0, _ => none
 | f + 1, s =>
  if isKind 1 s.ts then (number fin s).bind fun n s => ret (.num n) s
  else if isKind 2 s.ts && isMark [40] s.ts.tail then
   (name fin s).bind fun x s => (openB fin s).bind fun _ s => (parts fin f s).bind fun ks s => (closeB fin s).bind fun _ s => ret (.call x ks) s
  else if isKind 2 s.ts then (name fin s).bind fun x s => ret (.name x) s
  else if isMark [40] s.ts then (openB fin s).bind fun _ s => (expr fin f s).bind fun k s => (closeB fin s).bind fun _ s => ret k s
  else if isMark [91] s.ts then (matrix fin f s).bind fun m s => ret (.mat m) s
  else if isMark [123] s.ts then (complex fin f s).bind fun l s => ret (.cpx l) s
  else unfit fin s
def parts (fin : Nat) : Nat → St → PR Exs
 | 0, _ => none
 | f + 1, s => (expr fin f s).bind fun k s => partsLoop fin f (.cons k .nil) s
def partsLoop (fin : Nat) : Nat → Exs → St → PR Exs
 | 0, _, _ => none
 | f + 1, ks, s => if isMark [44] s.ts then (expr fin f s.adv).bind fun k s => partsLoop fin f (ks.snoc k) s else ret ks s
end
def done {α : Type} (fin : Nat) (a : α) (s : St) : PR α := if s.ts = [] then ret a s else unfit fin s
def letB : Bytes := [108, 101, 116]
def line (fin f : Nat) (s : St) : PR Ln :=
 if s.ts = [] then ret .nothing s
 else if isKind 2 s.ts && headText s.ts == letB then
  (name fin s.adv).bind fun x s => (want fin [61] s).bind fun _ s => (expr fin f s).bind fun e s => done fin (.lets x e) s
 else
  (name fin s).bind fun x s =>
   if s.ts = [] then done fin (.cmd x .nil) s
   else (parts fin f s).bind fun ks s => done fin (.cmd x ks) s
mutual
def Ex.size : Ex → Nat
 | .num _ => 1 | .name _ => 1 | .mat _ => 1 | .cpx _ => 1
 | .neg a => a.size + 1 | .turn a => a.size + 1
 | .add a b => a.size + b.size + 1 | .sub a b => a.size + b.size + 1 | .mul a b => a.size + b.size + 1
 | .pow a _ => a.size + 1
 | .call _ l => l.size + 1
def Exs.size : Exs → Nat
 | .nil => 0
 | .cons a l => a.size + l.size
end
def Exs.roots : Exs → Nat → List Nat
 | .nil, _ => []
 | .cons a l, o => (o + a.size - 1) :: l.roots (o + a.size)
mutual
def Ex.flat : Ex → Nat → List Node
 | .num n, _ => [⟨1, decT n, []⟩]
 | .name x, _ => [⟨2, x, []⟩]
 | .mat m, _ => [⟨3, matT m, []⟩]
 | .cpx l, _ => [⟨13, cpxT l, []⟩]
 | .neg a, o => a.flat o ++ [⟨4, [], [o + a.size - 1]⟩]
 | .turn a, o => a.flat o ++ [⟨5, [], [o + a.size - 1]⟩]
 | .add a b, o => a.flat o ++ b.flat (o + a.size) ++ [⟨6, [], [o + a.size - 1, o + a.size + b.size - 1]⟩]
 | .sub a b, o => a.flat o ++ b.flat (o + a.size) ++ [⟨7, [], [o + a.size - 1, o + a.size + b.size - 1]⟩]
 | .mul a b, o => a.flat o ++ b.flat (o + a.size) ++ [⟨8, [], [o + a.size - 1, o + a.size + b.size - 1]⟩]
 | .pow a n, o => a.flat o ++ [⟨9, decT n, [o + a.size - 1]⟩]
 | .call x l, o => l.flat o ++ [⟨10, x, l.roots o⟩]
def Exs.flat : Exs → Nat → List Node
 | .nil, _ => []
 | .cons a l, o => a.flat o ++ l.flat (o + a.size)
end
def Ln.size : Ln → Nat
 | .nothing => 1
 | .lets _ e => e.size + 1
 | .cmd _ l => l.size + 1
def Ln.flat : Ln → List Node
 | .nothing => [⟨14, [], []⟩]
 | .lets x e => e.flat 0 ++ [⟨11, x, [e.size - 1]⟩]
 | .cmd x l => l.flat 0 ++ [⟨12, x, l.roots 0⟩]
def Ex.op : Ex → Nat
 | .num _ => 1 | .name _ => 2 | .mat _ => 3 | .cpx _ => 13 | .neg _ => 4 | .turn _ => 5 | .add _ _ => 6 | .sub _ _ => 7 | .mul _ _ => 8 | .pow _ _ => 9 | .call _ _ => 10
def isSum (o : Nat) : Bool := o == 6 || o == 7
def isProd (o : Nat) : Bool := isSum o || o == 8
def loose (op place part : Nat) : Bool :=
 if op == 6 || op == 7 then place == 1 && isSum part
 else if op == 8 then isSum part || (place == 1 && isProd part)
 else if op == 4 then isProd part
 else if op == 9 || op == 5 then isProd part || part == 4 || part == 9
 else false
def par (b : Bool) (t : Bytes) : Bytes := if b then [40] ++ t ++ [41] else t
mutual
def Ex.pr : Ex → Bytes
 | .num n => decT n
 | .name x => x
 | .mat m => matT m
 | .cpx l => cpxT l
 | .neg a => [45] ++ par (loose 4 0 a.op) a.pr
 | .turn a => par (loose 5 0 a.op) a.pr ++ [39]
 | .add a b => par (loose 6 0 a.op) a.pr ++ [32, 43, 32] ++ par (loose 6 1 b.op) b.pr
 | .sub a b => par (loose 7 0 a.op) a.pr ++ [32, 45, 32] ++ par (loose 7 1 b.op) b.pr
 | .mul a b => par (loose 8 0 a.op) a.pr ++ [42] ++ par (loose 8 1 b.op) b.pr
 | .pow a n => par (loose 9 0 a.op) a.pr ++ ([94] ++ decT n)
 | .call x l => x ++ ([40] ++ l.pr ++ [41])
def Exs.pr : Exs → Bytes
 | .nil => []
 | .cons a l => a.pr ++ l.prTail
def Exs.prTail : Exs → Bytes
 | .nil => []
 | .cons a l => [44, 32] ++ a.pr ++ l.prTail
end
def Ln.pr : Ln → Bytes
 | .nothing => []
 | .lets x e => [108, 101, 116, 32] ++ x ++ [32, 61, 32] ++ e.pr
 | .cmd x .nil => x
 | .cmd x l => x ++ [32] ++ l.pr
def parD (b : Bool) (d : Nat) : Nat := if b then d + 1 else d
mutual
def Ex.dp : Ex → Nat
 | .num _ => 0 | .name _ => 0 | .mat _ => 0 | .cpx _ => 0
 | .neg a => parD (loose 4 0 a.op) a.dp
 | .turn a => parD (loose 5 0 a.op) a.dp
 | .add a b => max (parD (loose 6 0 a.op) a.dp) (parD (loose 6 1 b.op) b.dp)
 | .sub a b => max (parD (loose 7 0 a.op) a.dp) (parD (loose 7 1 b.op) b.dp)
 | .mul a b => max (parD (loose 8 0 a.op) a.dp) (parD (loose 8 1 b.op) b.dp)
 | .pow a _ => parD (loose 9 0 a.op) a.dp
 | .call _ l => l.dp + 1
def Exs.dp : Exs → Nat
 | .nil => 0
 | .cons a l => max a.dp l.dp
end
def Ln.dp : Ln → Nat
 | .nothing => 0
 | .lets _ e => e.dp
 | .cmd _ l => l.dp
end SynP
