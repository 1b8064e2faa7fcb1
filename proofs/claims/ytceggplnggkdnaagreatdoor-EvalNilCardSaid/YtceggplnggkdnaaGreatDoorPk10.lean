/- Joined texts of this claim's proof: DecX, DecH, RefNum, RefNum2, RefNum3, RefNum4, DecT, DecL. -/
import Derived.Test.YtceggplnggkdnaaGreatDoorPk9
import Derived.Lib.MinMax
import Derived.Test.YtceggplnggkdnaaGreatDoorPk4
import Derived.Test.YtceggplnggkdnaaGreatDoorPk1
import Derived.Test.YtceggplnggkdnaaGreatDoorPk3
import Derived.Handy
import Derived.WalkSpells
import Derived.Laws.BytesString
set_option linter.unusedSimpArgs false
set_option linter.unusedVariables false
namespace Go.Proofs.YtceggplnggkdnaaGreatDoor
open Go.RowKit NatP LexP
def lenOf : Value → Nat
 | .slice _ n _ => n
 | _ => 0
def PlA (N L : Nat) (w : World) (av pv : Value) (wr : World) : Prop := ∃ (k : Nat) (xs : List Nat), Rd wr av xs ∧ val xs = N / UU ^ k ∧ xs.length ≤ L ∧ wr.ownsRow w.heap.size 215 1 pv k (ws (prts N k)) ∧ Below w.heap.size w wr ∧ (k = 0 ∨ 0 < N / UU ^ (k - 1))
theorem own_lenOf {w : World} {b : Nat} {e : TypeId} {s : Nat} {v : Value} {n : Nat} {xs : List Value} (h : w.ownsRow b e s v n xs) : lenOf v = n := by
 rcases h.2 with ⟨rfl, h2⟩ | ⟨g, cap, cur, rfl, _⟩
 ·rw [h2]; rfl
 ·rfl
def PlO (R : Nat) (pv : Value) (og : Option Nat) (w5 : World) (l : Bytes) (wr : World) : Prop := ∃ ov : Value, WS wr R pv ov l ∧ Wr R og w5 wr ∧ Mv w5 og ov.ownBlock
theorem PlO.push {R : Nat} {pv ov ov3 : Value} {og : Option Nat} {w5 wr wa wz : World} {l : Bytes} (hw : Wr R og w5 wr) (hm : Mv w5 og ov.ownBlock) (ha : Below wr.heap.size wr wa) (g1 : WS wz R pv ov3 l) (g2 : Wr R ov.ownBlock wa wz) (g3 : Mv wa ov.ownBlock ov3.ownBlock) :
  PlO R pv og w5 l wz :=
 ⟨ov3, g1, hw.trans hm ((Wr.of_below ha).trans (Mv.refl _ _) g2), Mv.trans (R := R) (w' := wr) hm hw.size fun k hk => (g3 k hk).imp id (fun h => Nat.le_trans ha.size h)⟩
def PlB (R : Nat) (pv : Value) (og : Option Nat) (out : Bytes) (m width : Nat) (w5 : World) (nv : Value) (wr : World) : Prop := ∃ n : Nat, nv = .int .i64 (n : Nat) ∧ n ≤ width ∧ min width m ≤ n ∧ PlO R pv og w5 (out ++ (List.replicate (width - n) 0).map sgn) wr
def PlC (R : Nat) (pv : Value) (og : Option Nat) (out : Bytes) (N k width : Nat) (w5 : World) (nv : Value) (wr : World) : Prop := ∃ j : Nat, nv = .int .i64 ((j : Int) - 1) ∧ j ≤ k ∧ PlO R pv og w5 (out ++ (pad (N / UU ^ j) (width - 19 * j)).map sgn) wr
set_option maxRecDepth 100000 in
set_option maxHeartbeats 4000000 in
theorem plain_any (R width : Nat) (v pv ov : Value) (xs : List Nat) (out : Bytes) (w : World) (h : WS w R pv ov out) (hs : SG w) (hv : Rd w v xs) (hl : xs.length ≤ 17179869184) (hw : width ≤ 274877906944) (ho : out.length ≤ 274877906944) :
  Calls Tryz.prog 515 #[.pointer (some ⟨R, 0, none⟩), v, .int .i64 (width : Nat)] w (WsPost w R pv ov out ((pad (val xs) width).map sgn)) := by
 have HS := Lib.hid h
 have HSG := Lib.hid hs
 have HV := Lib.hid hv
 have hsz : 6 < w.heap.size := by have := h.big; have := h.lt; omega
 have hRlt := h.lt
 obtain ⟨N, hN⟩ : ∃ N, N = val xs := ⟨_, rfl⟩
 rw [← hN]
 obtain ⟨L, hL⟩ : ∃ L, L = xs.length := ⟨_, rfl⟩
 rw [← hL] at hl
 have hNL : N < BB ^ L := by rw [hN, hL]; exact val_lt hv.ok
 have HNL := Lib.hid hNL
 have HN0 : Hid (val xs = N / UU ^ 0) := by show _ = _; rw [Nat.pow_zero, Nat.div_one, hN]
 have HLL : Hid (xs.length ≤ L) := by show _ ≤ _; omega
 obtain ⟨i0, hi, hz0, hz1, hz2⟩ := info_parts Tryz.infoW
 clear h hs hv hN hL hNL
 go_enter Tryz.func515, Tryz.ntmps515
 go_wp2_with fail
 go_loopw [1, 6] (fun av p wr => PlA N L w av p wr) (fun _ p _ => 2 * L + 2 - lenOf p)
 case atStart => exact ⟨0, xs, HV.out, HN0.out, HLL.out, World.ownsRow_nil _ _ _ _, Below.refl _ _, .inl rfl⟩
 clear HV HN0 HLL
 case round =>
  obtain ⟨k, xs, hrd, hval, hxl, hown, hbl, hk⟩ := hrel
  obtain ⟨b, hb⟩ : ∃ b, b = bitsN xs := ⟨_, rfl⟩
  have HRD := Lib.hid hrd
  have HVAL := Lib.hid hval
  have HOWN := Lib.hid hown
  have HBL := Lib.hid hbl
  have HK := Lib.hid hk
  have hb0 := bitsN_zero xs hrd.ok
  rw [← hb] at hb0
  have HB := Lib.hid hb
  have HB0 := Lib.hid hb0
  have hlenp := own_lenOf hown
  have HLP := Lib.hid hlenp
  clear hrd hval hown hbl hk hb hb0 hlenp
  by_cases hz : b = 0
  ·have hbz : decide (0 < b) = false := by simp; omega
   have HZ : Hid (N / UU ^ k = 0) := by show _ = _; rw [← HVAL.out]; exact HB0.out.1 hz
   obtain ⟨po, pcap, rfl, hpc, hpm, hpsh⟩ := ownsRow_shape HOWN.out
   have hkL : k ≤ 2 * L + 1 := by
    rcases HK.out with h | h
    ·omega
    ·have := prt_count HNL.out h
     omega
   have HPS := Lib.hid hpsh
   have HPM := Lib.hid hpm
   obtain ⟨wh, hwh⟩ : ∃ wh : Int, wh = ((k : Int) - 1) * 19 := ⟨_, rfl⟩
   obtain ⟨k19, hk19⟩ : ∃ k19, k19 = 19 * k := ⟨_, rfl⟩
   have E1 : ((k : Int) - 1) * 19 = wh := hwh.symm
   have E2 : wh + 19 = (k19 : Int) := by omega
   have E3 : max (k19 : Int) 0 = (k19 : Int) := by omega
   have hwhb : wh ≤ 20890720927744 ∧ -19 ≤ wh := by omega
   obtain ⟨hwhb1, hwhb2⟩ := hwhb
   have HS2 := Lib.hid (HS.out.below HBL.out)
   have HSG2 := Lib.hid (HSG.out.below HBL.out hsz)
   have hR5 := HS2.out.lt
   have c1 := HS2.out.cell.2.1
   have HWH := Lib.hid hwh
   have HK19 := Lib.hid hk19
   have hpar : ∀ q, (Value.slice po k pcap).ownBlock = some q → q ≠ R ∧ ov.ownBlock ≠ some q := fun q hq => by
    have h1 := HOWN.out.lt q hq
    refine ⟨by omega, fun e => ?_⟩
    have := HS.out.ne q e
    omega
   have HPAR := Lib.hid hpar
   obtain ⟨w5, hw5⟩ : ∃ w5, w5 = wr := ⟨_, rfl⟩
   have hkb : k19 ≤ 20890720927744 := by omega
   clear hz hpsh hpm hwh hk19 hpar
   go_wp2_with fail
   refine (bitLen_any _ xs _ HRD.out (by omega)).mono ?_
   rintro e w' ⟨rfl, rfl⟩
   rw [← HB.out]
   go_wp2_with fail
   have HW5 := Lib.hid hw5
   clear hw5 c1
   go_loopw [11] (fun nv wr => PlB R pv ov.ownBlock out k19 width w5 nv wr) (fun nv _ => (intOf nv).toNat)
   case atStart => exact ⟨width, rfl, Nat.le_refl _, Nat.min_le_left _ _, ov, by rw [Nat.sub_self]; simpa using (HW5.out ▸ HS2.out), by rw [HW5.out]; exact Wr.refl _ _ _, Mv.refl _ _⟩
   case round =>
    rename_i wr2 _
    obtain ⟨n, rfl, hnw, hmn, ov2, hws, hwr2, hmv⟩ := hrel
    have HWS := Lib.hid hws
    have HWR := Lib.hid hwr2
    have HMV := Lib.hid hmv
    have c1 := hws.cell.2.1
    have c4 := hws.cell.2.2.2.2.1
    have c5 := hws.cell.2.2.2.2.2
    clear hws hwr2 hmv
    obtain ⟨j0, hj0, hk0, hk1, hk2⟩ := info_parts Tryz.infoU8d
    have HA := Lib.hid (below_alloc wr (.cells #[.int .u8 48] 5))
    have HWA := Lib.hid (HWS.out.below HA.out)
    have HLT : Hid (R < (wr.alloc (.cells #[.int .u8 48] 5)).heap.size) := HWA.out.lt
    have HNE : Hid (some R ≠ ov2.ownBlock) := fun e => by have := HWA.out.ne R e.symm; omega
    have ca4 := HWA.out.cell.2.2.2.2.1
    have ca5 := HWA.out.cell.2.2.2.2.2
    have CA4 := Lib.hid ca4
    have CA5 := Lib.hid ca5
    have hll : (out ++ (List.replicate (width - n) 0).map sgn).length ≤ 549755813888 := by rw [List.length_append, List.length_map, List.length_replicate]; omega
    obtain ⟨l0, hl0⟩ : ∃ l0, l0 = out ++ (List.replicate (width - n) 0).map sgn := ⟨_, rfl⟩
    rw [← hl0] at hll HWS HWA
    have HL0 := Lib.hid hl0
    clear ca4 ca5 hl0
    by_cases hgt : k19 < n
    ·go_wp2_with (at_builtin; refine wpList_append_lies _ rfl _ _ 45 rfl (R + 1) 5 j0 (.int .u8 0) 1 1 Tryz.underlying45 hj0 hk0 hk1 hk2 rfl (by omega) ov2 l0.length (u8s l0) rfl HWA.out.own ⟨wr.heap.size, 0, none⟩ 1 1 [.int .u8 48] rfl rfl (LexP.cells_new _ _ _ _ rfl) (by simp [Value.oneCell']) (by omega) (by unfold maxLen; omega) (by omega) (by have := HLT.out; simp at this; simp; omega) (wr.heap.size + 1) (by simp) ?_)
     intro gg cap w2 hown2 hgrow hat hlt2
     have d4 : w2.cell? ⟨R, 4, none⟩ = some ov2 := (hgrow.cell_far ⟨R, 4, none⟩ HLT.out HNE.out).trans CA4.out
     have d5 : w2.frozen? ⟨R, 4, none⟩ = false := (hgrow.frozen_far ⟨R, 4, none⟩ HLT.out HNE.out).trans CA5.out
     have HG := Lib.hid (HWA.out.grow (l := [48]) hown2 (by simp) hgrow (by simpa using hat))
     clear hown2 hgrow hat hlt2
     go_wp2_with fail
     have hfin : PlB R pv ov.ownBlock out k19 width w5 (.int .i64 ((n : Int) - 1)) (w2.setCell ⟨R, 4, none⟩ (.slice (some ⟨gg, 0, none⟩) (l0.length + 1) cap)) := by
      refine ⟨n - 1, by congr 1; omega, by omega, by omega, ?_⟩
      have e : out ++ (List.replicate (width - (n - 1)) 0).map sgn = l0 ++ [48] := by
       rw [HL0.out, show width - (n - 1) = width - n + 1 from by omega, List.replicate_succ', List.map_append, ← List.append_assoc]; rfl
      rw [e]
      exact PlO.push HWR.out HMV.out HA.out HG.out.1 HG.out.2.1 HG.out.2.2
     exact ⟨hfin, by simp [intOf] <;> omega⟩
    ·have hn : width - n = width - 19 * k := by have := HK19.out; omega
     have HN19 := Lib.hid hn
     clear hn
     go_wp2_with fail
     go_loopw [12] (fun nv wr => PlC R pv ov.ownBlock out N k width w5 nv wr) (fun nv _ => (intOf nv + 1).toNat)
     case atStart =>
      refine ⟨k, rfl, Nat.le_refl _, ov2, ?_, HWR.out, HMV.out⟩
      have e : out ++ (pad (N / UU ^ k) (width - 19 * k)).map sgn = l0 := by rw [HL0.out, HZ.out, pad_zero, HN19.out]
      rw [e]; exact HWS.out
     clear HWR HMV HWS HWA HL0 HN19 HA HLT HNE CA4 CA5 c1 c4 c5 hll hgt hmn
     case round =>
      rename_i wr3 _
      obtain ⟨j, rfl, hjk, ov3, hws, hwr3, hmv⟩ := hrel
      have HWS := Lib.hid hws
      have HWR := Lib.hid hwr3
      have HMV := Lib.hid hmv
      clear hws hwr3 hmv
      cases j with
      | zero =>
       have hge : ¬ ((0 : Int) ≤ ((0 : Nat) : Int) - 1) := by omega
       go_wp2_with fail
       go_end0
       have hfull := HWS.out
       rw [Nat.pow_zero, Nat.div_one, Nat.mul_zero, Nat.sub_zero] at hfull
       refine ⟨ov3, rfl, hfull, ?_, ?_⟩
       ·rw [HW5.out] at HWR
        exact (Wr.of_below HBL.out).trans (Mv.refl _ _) HWR.out
       ·rw [HW5.out] at HMV
        exact fun q hq => (HMV.out q hq).imp id (fun h => Nat.le_trans HBL.out.size h)
      | succ i =>
       have hkk : (((i + 1 : Nat) : Int) - 1) = (i : Int) := by omega
       rw [hkk]
       clear hkk
       have c1 := HWS.out.cell.2.1
       obtain ⟨g, hg, hgb, hgl, hgc⟩ := HPS.out (by omega)
       subst hg
       obtain ⟨hpR, hpo⟩ := HPAR.out g rfl
       obtain ⟨x, hx⟩ : ∃ x, x = prt N i := ⟨_, rfl⟩
       have cp : wr.cell? ⟨g, i, none⟩ = some (.int .u64 (x : Nat)) := by
        have e1 : w5.cell? ⟨g, i, none⟩ = some (.int .u64 (x : Nat)) := by
         rw [HW5.out, hgc i (by omega), hx]; exact ws_at (prts_at (by omega))
        rw [← e1]
        exact World.cell?_of_block (HWR.out.block g (by rw [HW5.out]; exact hgl) hpR (fun e => hpo e.symm))
       have hxb : x < BB := by rw [hx]; exact Nat.lt_trans (prt_lt _ _) UU_lt
       have HSG3 : Hid (SG wr) := by
        have h5 : SG w5 := by rw [HW5.out]; exact HSG2.out
        have hbig := HS.out.big
        exact h5.wr HWR.out (by omega) (fun e => by have := HS.out.ne _ e; omega)
       have hi0' : (0 : Int) ≤ (i : Int) := Int.natCast_nonneg _
       have hi1 : (i : Int) < (k : Int) := by omega
       obtain ⟨l3, hl3⟩ : ∃ l3, l3 = out ++ (pad (N / UU ^ (i + 1)) (width - 19 * (i + 1))).map sgn := ⟨_, rfl⟩
       rw [← hl3] at HWS
       have hl3b : l3.length ≤ 1099511627776 := by
        have h1 : N / UU ^ (i + 1) < BB ^ L := Nat.lt_of_le_of_lt (Nat.div_le_self _ _) HNL.out
        have h2 := dg_len_BB h1
        rw [hl3, List.length_append, List.length_map, pad_len]; omega
       have HL3 := Lib.hid hl3
       have HX := Lib.hid hx
       have HXB := Lib.hid hxb
       by_cases htop : i + 1 = k
       ·have htb : ((i : Int) == (k : Int) - 1) = true := by simp; omega
        obtain ⟨wd, hwd⟩ : ∃ wd : Int, wd = (width : Int) - wh := ⟨_, rfl⟩
        have E4 : (width : Int) - wh = wd := hwd.symm
        obtain ⟨m1, hm1⟩ : ∃ m1, m1 = width - 19 * i := ⟨_, rfl⟩
        obtain ⟨m2, hm2⟩ : ∃ m2, m2 = min m1 19 := ⟨_, rfl⟩
        have hwh := HWH.out
        have E5 : max wd 0 = (m1 : Int) := by omega
        have E6 : min (m1 : Int) 19 = (m2 : Int) := by omega
        have hm19 : m2 ≤ 19 := by omega
        have hx0 : 0 < x := by
         rcases HK.out with h | h
         ·omega
         ·rw [show k - 1 = i from by omega] at h
          have e := prt_split N i
          have hzz := HZ.out
          rw [← htop] at hzz
          rw [hzz, Nat.zero_mul, Nat.zero_add] at e
          rw [hx, ← e]; exact h
        have HNEW : Hid (l3 ++ (pad x m2).map sgn = out ++ (pad (N / UU ^ i) (width - 19 * i)).map sgn) := by
         show _ = _
         have hzz := HZ.out
         rw [← htop] at hzz
         rw [hl3, hx, hm2, hm1, pad_top hzz, List.map_append, List.append_assoc]
        clear hx hxb hl3 htop hwd hm1 hm2 hgc hpo hpR hwh
        go_wp2_with fail
        refine (wword_any R x m2 pv ov3 l3 _ HWS.out HSG3.out HXB.out hm19 (.inl hx0) hl3b).mono ?_
        rintro e w8 ⟨ov4, rfl, r1, r2, r3⟩
        rw [HNEW.out] at r1
        have hfin : PlC R pv ov.ownBlock out N k width w5 (.int .i64 ((i : Int) - 1)) w8 := ⟨i, rfl, by omega, ov4, r1, HWR.out.trans HMV.out r2, Mv.trans (R := R) (w' := wr) HMV.out HWR.out.size r3⟩
        have HFIN := Lib.hid hfin
        clear r1 r2 r3 hfin
        go_wp2_with fail
        exact ⟨HFIN.out, by simp [intOf] <;> omega⟩
       ·have htb : ((i : Int) == (k : Int) - 1) = false := by simp; omega
        have HNEW : Hid (l3 ++ (pad x 19).map sgn = out ++ (pad (N / UU ^ i) (width - 19 * i)).map sgn) := by
         show _ = _
         have hpos : 0 < N / UU ^ (i + 1) := by
          rcases HK.out with h | h
          ·omega
          ·refine Nat.lt_of_lt_of_le h (Nat.div_le_div_left (Nat.pow_le_pow_right UU_pos (by omega)) (Nat.pow_pos UU_pos))
         rw [hl3, hx, pad_mid hpos, List.map_append, List.append_assoc]
        clear hx hxb hl3 htop hgc hpo hpR
        go_wp2_with fail
        refine (wword_any R x 19 pv ov3 l3 _ HWS.out HSG3.out HXB.out (Nat.le_refl _) (.inr (by omega)) hl3b).mono ?_
        rintro e w8 ⟨ov4, rfl, r1, r2, r3⟩
        rw [HNEW.out] at r1
        have hfin : PlC R pv ov.ownBlock out N k width w5 (.int .i64 ((i : Int) - 1)) w8 := ⟨i, rfl, by omega, ov4, r1, HWR.out.trans HMV.out r2, Mv.trans (R := R) (w' := wr) HMV.out HWR.out.size r3⟩
        have HFIN := Lib.hid hfin
        clear r1 r2 r3 hfin
        go_wp2_with fail
        exact ⟨HFIN.out, by simp [intOf] <;> omega⟩
  ·have hbz : (0 : Int) < (b : Int) := by omega
   have HZ : Hid (0 < N / UU ^ k) := by show _ < _; rw [← HVAL.out]; exact Nat.pos_of_ne_zero fun h => hz (HB0.out.2 h)
   have HKL := Lib.hid (prt_count HNL.out HZ.out)
   obtain ⟨U, hU⟩ : ∃ U, U = UU := ⟨_, rfl⟩
   have HS2 := HS.out.below HBL.out
   have c2 : wr.cell? ⟨R, 2, none⟩ = some (.int .u64 (U : Nat)) := by rw [hU]; exact HS2.cell.2.2.1
   have HU := Lib.hid hU
   clear hz hU HS2
   go_wp2_with fail
   refine (bitLen_any _ xs _ HRD.out (by omega)).mono ?_
   rintro e w' ⟨rfl, rfl⟩
   rw [← HB.out]
   go_wp2_with fail
   refine (divWord_any _ xs U _ HRD.out (by omega) (by rw [HU.out]; exact UU_pos) (by rw [HU.out]; exact UU_lt)).mono ?_
   rintro e w3 ⟨qv, qs, rfl, q1, q2, q3, q4, q5⟩
   obtain ⟨r, hr⟩ : ∃ r, r = val xs % U := ⟨_, rfl⟩
   rw [← hr]
   have HR : Hid (r = prt N k) := by show _ = _; rw [hr, HVAL.out, HU.out]; rfl
   have HQ : Hid (val qs = N / UU ^ (k + 1)) := by show _ = _; rw [q2, HVAL.out, HU.out, prt_next]
   have Q1 := Lib.hid q1
   have HQL : Hid (qs.length ≤ L) := by show _ ≤ _; omega
   have HBL3 : Hid (Below w.heap.size w w3) := HBL.out.trans (q5.mono HBL.out.size)
   have HOWN3 := Lib.hid (ownsRow_below HOWN.out q5 (Nat.le_refl _))
   have hz3 := HBL3.out.size
   have hzw := q5.size
   have hkb : k ≤ 549755813888 := by have := HKL.out; omega
   clear q1 q2 q3 q4 q5 hr c2
   go_wp2_with (at_builtin; refine wpList_append_own_at _ rfl _ _ 111 rfl w.heap.size 215 i0 (.int .u64 0) 1 8 Tryz.underlying111 hi hz0 hz1 hz2 rfl (by decide) _ _ _ rfl (World.ownsRow.alloc HOWN3.out _) ⟨w3.heap.size, 0, none⟩ 1 1 [.int .u64 (r : Nat)] rfl rfl (LexP.cells_new _ _ _ _ rfl) (by simp [Value.oneCell']) (by unfold maxLen; omega) (by omega) (by simp; omega) ?_)
   intro v4 w4 hown4 hgrow4 _ hbk4
   have HO4 : Hid (w4.ownsRow w.heap.size 215 1 v4 (k + 1) (ws (prts N (k + 1)))) := by
    have e : ws (prts N (k + 1)) = ws (prts N k) ++ [.int .u64 (r : Nat)] := by rw [prts_succ, HR.out]; simp [ws]
    show World.ownsRow _ _ _ _ _ _ _
    rw [e]; exact hown4
   have HB4 : Hid (Below w.heap.size w w4) := Below.grown (HBL3.out.alloc hz3 _) hgrow4 (by simp; omega) (fun q hq => (World.ownsRow.lt HOWN3.out q hq).1)
   have HR4 : Hid (Rd w4 qv qs) := Rd.kept (Q1.out.1.alloc _) hgrow4 (fun q hq e => by
    have h1 := (Q1.out.2 q e).1
    have h2 := (HOWN.out.lt q hq).2
    omega)
   clear hown4 hgrow4 hbk4
   go_wp2_with fail
   have hfin : PlA N L w qv v4 w4 := ⟨k + 1, qs, HR4.out, HQ.out, HQL.out, HO4.out, HB4.out, .inr (by rw [Nat.add_sub_cancel]; exact HZ.out)⟩
   have hl4 := own_lenOf HO4.out
   have hlp := HLP.out
   have hkl := HKL.out
   exact ⟨hfin, by omega⟩
end Go.Proofs.YtceggplnggkdnaaGreatDoor
namespace Go.Proofs.YtceggplnggkdnaaGreatDoor
open Go.RowKit NatP LexP
def PW (w : World) (R : Nat) (og : Option Nat) (pv : Value) (np : Nat) : Prop := ∃ gp cap, (0 < np → pv = .slice (some ⟨gp, 0, none⟩) np cap ∧ np ≤ cap ∧ cap ≤ maxLen ∧ gp < w.heap.size ∧ gp ≠ R ∧ og ≠ some gp) ∧
 ∀ i, i < np → ∃ v bs, w.cell? ⟨gp, i, none⟩ = some v ∧ Rd w v bs ∧ val bs = UU ^ 2 ^ i ∧ bs.length ≤ 274877906944 ∧ 2 ^ i ≤ 34359738368 ∧ ∀ q, v.ownBlock = some q → q ≠ R ∧ og ≠ some q
theorem PW.wr {w w' : World} {R : Nat} {og og' : Option Nat} {pv : Value} {np : Nat} (h : PW w R og pv np) (hw : Wr R og w w') (hm : Mv w og og') : PW w' R og' pv np := by
 obtain ⟨gp, cap, h1, h2⟩ := h
 refine ⟨gp, cap, fun h0 => ?_, fun i hi => ?_⟩
 ·obtain ⟨a1, a2, a3, a4, a5, a6⟩ := h1 h0
  refine ⟨a1, a2, a3, Nat.lt_of_lt_of_le a4 hw.size, a5, fun e => ?_⟩
  rcases hm gp e with h | h
  ·exact a6 h
  ·omega
 ·obtain ⟨a1, a2, a3, a4, a5, a6⟩ := h1 (by omega)
  obtain ⟨v, bs, b1, b2, b3, b4, b5, b6⟩ := h2 i hi
  refine ⟨v, bs, (World.cell?_of_block (hw.block gp a4 a5 (fun e => a6 e.symm))).trans b1, b2.wr hw (fun k hk => b6 k hk), b3, b4, b5, fun q hq => ⟨(b6 q hq).1, fun e => ?_⟩⟩
  rcases hm q e with h | h
  ·exact (b6 q hq).2 h
  ·have := b2.1 q hq; omega
theorem PW.below {w w' : World} {R : Nat} {og : Option Nat} {pv : Value} {np : Nat} (h : PW w R og pv np) (hb : Below w.heap.size w w') : PW w' R og pv np := h.wr (Wr.of_below hb) (Mv.refl _ _)
def HalvesOk (k np : Nat) : Prop := ∀ (R width : Nat) (v pv ov : Value) (xs : List Nat) (out : Bytes) (w : World), WS w R pv ov out → SG w → PW w R ov.ownBlock pv np → Rd w v xs → (∀ q, v.ownBlock = some q → q ≠ R ∧ ov.ownBlock ≠ some q) → xs.length ≤ 17179869184 → out.length + (pad (val xs) width).length ≤ 274877906944 →
 Calls Tryz.prog 445 #[.pointer (some ⟨R, 0, none⟩), v, .int .i64 ((k : Int) - 1), .int .i64 (width : Nat)] w (WsPost w R pv ov out ((pad (val xs) width).map sgn))
set_option maxRecDepth 100000 in
set_option maxHeartbeats 4000000 in
theorem halves_zero (np : Nat) : HalvesOk 0 np := by
 intro R width v pv ov xs out w h hs hp hv hne hl hb
 have HS := Lib.hid h
 have HSG := Lib.hid hs
 have HV := Lib.hid hv
 have hw : width ≤ 274877906944 := by rw [pad_len] at hb; omega
 have ho : out.length ≤ 274877906944 := by omega
 have HW := Lib.hid hw
 have HO := Lib.hid ho
 have hi1 : decide (((0 : Nat) : Int) - 1 < 0) = true := by decide
 clear h hs hp hv hne hb hw ho
 go_enter Tryz.func445, Tryz.ntmps445
 go_wp2_with fail
 refine (plain_any R width _ pv ov xs out _ HS.out HSG.out HV.out hl HW.out HO.out).mono ?_
 rintro e w1 ⟨ov1, rfl, r1, r2, r3⟩
 have HR := Lib.hid (And.intro r1 (And.intro r2 r3))
 clear r1 r2 r3
 go_wp2_with fail
 go_end0
 exact ⟨ov1, rfl, HR.out.1, HR.out.2.1, HR.out.2.2⟩
set_option maxRecDepth 100000 in
set_option maxHeartbeats 4000000 in
theorem halves_succ (k np : Nat) (hk : k < np) (IH : HalvesOk k np) : HalvesOk (k + 1) np := by
 intro R width v pv ov xs out w h hs hp hv hne hl hb
 have HS := Lib.hid h
 have HSG := Lib.hid hs
 have HP := Lib.hid hp
 have HV := Lib.hid hv
 have HNE := Lib.hid hne
 have HBD := Lib.hid hb
 have HI := Lib.hid IH
 have hw : width ≤ 274877906944 := by rw [pad_len] at hb; omega
 have ho : out.length ≤ 274877906944 := by omega
 obtain ⟨ao, cap, rfl, hnc, hcm, hok, -⟩ := hv.2
 have hkk : (((k + 1 : Nat) : Int) - 1) = (k : Int) := by omega
 rw [hkk]
 have hi1 : decide ((k : Int) < 0) = false := by simp
 have hRlt := h.lt
 clear h hs hp hv hne hb hok hcm hkk IH
 by_cases h12 : xs.length ≤ 12
 ·have hi2 : decide ((xs.length : Int) ≤ 12) = true := by simp; omega
  clear h12
  go_enter Tryz.func445, Tryz.ntmps445
  go_wp2_with fail
  refine (plain_any R width _ pv ov xs out _ HS.out HSG.out HV.out hl hw ho).mono ?_
  rintro e w1 ⟨ov1, rfl, r1, r2, r3⟩
  have HR := Lib.hid (And.intro r1 (And.intro r2 r3))
  clear r1 r2 r3
  go_wp2_with fail
  go_end0
  exact ⟨ov1, rfl, HR.out.1, HR.out.2.1, HR.out.2.2⟩
 ·have hi2 : decide ((xs.length : Int) ≤ 12) = false := by simp; omega
  obtain ⟨gp, pcap, hp1, hp2⟩ := HP.out
  obtain ⟨rfl, hpc, hpm, hgl, hgR, hgo⟩ := hp1 (by omega)
  obtain ⟨bv, bs, cb, hbr, hbval, hbl, hb2, hbn⟩ := hp2 k hk
  have hk64 : k < 64 := by
   have h1 : 2 ^ k < 2 ^ 36 := Nat.lt_of_le_of_lt hb2 (by decide)
   have := (Nat.pow_lt_pow_iff_right (a := 2) (by omega)).1 h1
   omega
  have HBR := Lib.hid hbr
  have HBV := Lib.hid hbval
  have c3 := HS.out.cell.2.2.2.1
  have c1 := HS.out.cell.2.1
  have hj0 : (0 : Int) ≤ (k : Int) := Int.natCast_nonneg _
  have hj1 : (k : Int) < (np : Int) := by omega
  obtain ⟨P, hP⟩ : ∃ P, P = UU ^ 2 ^ k := ⟨_, rfl⟩
  rw [← hP] at hbval
  have hP0 : 0 < P := by rw [hP]; exact Nat.pow_pos UU_pos
  have HP0 := Lib.hid hP0
  have HPE := Lib.hid hP
  have HBN := Lib.hid hbn
  clear hp1 hp2 hbr hgl hgR hgo h12 hP0 hP hbn
  by_cases hlt : val xs < val bs
  ·have HC := Lib.hid (cmpI_lt hlt)
   clear hlt hbval
   go_enter Tryz.func445, Tryz.ntmps445
   go_wp2_with fail
   refine (cmp_any _ _ xs bs _ HV.out HBR.out).mono ?_
   rintro e w1 ⟨rfl, hb1⟩
   rw [HC.out]
   have HB1 := Lib.hid hb1
   clear hb1 c3 c1 cb
   go_wp2_with fail
   refine (HI.out R width _ _ ov xs out _ (HS.out.below HB1.out) (HSG.out.below HB1.out (by have := HS.out.big; omega)) (HP.out.below HB1.out) (HV.out.below HB1.out) HNE.out hl HBD.out).mono ?_
   rintro e w2 ⟨ov1, rfl, r1, r2, r3⟩
   have HR := Lib.hid (And.intro r1 (And.intro r2 r3))
   clear r1 r2 r3
   go_wp2_with fail
   go_end0
   exact ⟨ov1, rfl, HR.out.1, (Wr.of_below HB1.out).trans (Mv.refl _ _) HR.out.2.1, fun q hq => (HR.out.2.2 q hq).imp id (fun h => Nat.le_trans HB1.out.size h)⟩
  ·obtain ⟨c, hc⟩ : ∃ c, c = cmpI (val xs) (val bs) := ⟨_, rfl⟩
   have hcb : decide (c < 0) = false := by
    rw [hc]
    unfold cmpI
    rw [if_neg hlt]
    split <;> decide
   have HC := Lib.hid hc
   obtain ⟨lw, hlw⟩ : ∃ lw, lw = 19 * 2 ^ k := ⟨_, rfl⟩
   have S1 : IntKind.u64.wrap (k : Int) = (k : Int) := u64_in _ (by omega)
   have S2 : min k 64 = k := by omega
   have S3 : IntKind.i64.wrap (19 * 2 ^ k) = (lw : Int) := by
    have e : (19 * 2 ^ k : Int) = ((19 * 2 ^ k : Nat) : Int) := by rw [Int.natCast_mul, Int.natCast_pow]; rfl
    rw [e, ← hlw]; exact IntWalk.i64_in _ (by omega)
   obtain ⟨w1', hw1'⟩ : ∃ w1', w1' = width - lw := ⟨_, rfl⟩
   have S4 : max ((width : Int) - (lw : Int)) 0 = (w1' : Int) := by omega
   have hlwb : lw ≤ 652835028992 := by omega
   have hPl : P = 10 ^ lw := by rw [HPE.out, hlw, UU_def, ← Nat.pow_mul]
   have hpq : ∀ q r, q = val xs / val bs → r = val xs % val bs → pad (val xs) width = pad q w1' ++ pad r lw ∧ r < 10 ^ lw := by
    intro q r hq hr
    have hbv : val bs = 10 ^ lw := by rw [hbval, hPl]
    have hb0 : 0 < val bs := by rw [hbval]; exact HP0.out
    have hr2 : r < 10 ^ lw := by rw [hr, ← hbv]; exact Nat.mod_lt _ hb0
    have hq0 : 0 < q := by rw [hq]; exact Nat.div_pos (Nat.le_of_not_lt hlt) hb0
    have e : val xs = q * 10 ^ lw + r := by rw [hq, hr, ← hbv, Nat.mul_comm]; exact (Nat.div_add_mod _ _).symm
    refine ⟨?_, hr2⟩
    rw [e, pad_split hq0 hr2, pad_fw hr2, hw1']
   have HPQ := Lib.hid hpq
   have hb0 : 0 < val bs := by rw [hbval]; exact HP0.out
   have HB0 := Lib.hid hb0
   clear hlt hbval hc hlw hb2 hw1' hPl hpq hb0
   go_enter Tryz.func445, Tryz.ntmps445
   go_wp2_with fail
   refine (cmp_any _ _ xs bs _ HV.out HBR.out).mono ?_
   rintro e w1 ⟨rfl, hb1⟩
   rw [← HC.out]
   have HB1 := Lib.hid hb1
   have hz1 := hb1.size
   have HS1 := Lib.hid (HS.out.below hb1)
   have c3' := HS1.out.cell.2.2.2.1
   have c1' := HS1.out.cell.2.1
   have cb' : w1.cell? ⟨gp, k, none⟩ = some bv := by rw [hb1.cell (p := ⟨gp, k, none⟩) (World.block_lt_of_cell? w _ cb)]; exact cb
   clear hb1 c3 c1 cb
   go_wp2_with fail
   refine (divMod_any _ _ xs bs _ (HV.out.below HB1.out) (HBR.out.below HB1.out) (by omega) hbl HB0.out).mono ?_
   rintro e w2 ⟨qv, rv, qs, rs, rfl, q1, q2, q3, q4, r1, r2, r3, r4, hb2⟩
   obtain ⟨p1, p2⟩ := HPQ.out _ _ q2 r2
   have HB2 : Hid (Below w.heap.size w w2) := HB1.out.trans (hb2.mono hz1)
   have HS2 := Lib.hid (HS1.out.below hb2)
   have c1 := HS2.out.cell.2.1
   have Q1 := Lib.hid q1
   have R1 := Lib.hid r1
   have hql : qs.length ≤ 17179869184 := by omega
   have hrl : rs.length ≤ 17179869184 := by
    have h1 : val rs < BB ^ xs.length := by
     refine Nat.lt_of_le_of_lt ?_ (val_lt HV.out.ok)
     rw [r2]; exact Nat.mod_le _ _
    have h2 := strip_len_of_lt rs xs.length h1
    rw [r4] at h2; omega
   have HPA := Lib.hid p1
   have hbd := HBD.out
   rw [p1, List.length_append] at hbd
   have HBD2 := Lib.hid hbd
   have hov : ∀ q, ov.ownBlock = some q → q < w.heap.size := fun q hq => (HS.out.ne q hq).2
   have HOV := Lib.hid hov
   clear q1 q2 q3 q4 r1 r2 r3 r4 hb2 c3' c1' cb' p1 p2 hbd hov
   go_wp2_with fail
   refine (HI.out R w1' _ _ ov qs out _ HS2.out (HSG.out.below HB2.out (by have := HS.out.big; omega)) (HP.out.below HB2.out) Q1.out.1 (fun q hq => by
    have h1 := (Q1.out.2 q hq).1
    refine ⟨by omega, fun e => ?_⟩
    have := HOV.out q e
    omega) hql (by have := HBD2.out; omega)).mono ?_
   rintro e w3 ⟨ov1, rfl, a1, a2, a3⟩
   have A1 := Lib.hid a1
   have A2 := Lib.hid a2
   have A3 := Lib.hid a3
   have HSG3 : Hid (SG w3) := (HSG.out.below HB2.out (by have := HS.out.big; omega)).wr a2 (by have := HS.out.big; omega) (fun e => by have := HOV.out _ e; have := HS.out.ne _ e; have := HS.out.big; omega)
   have HP3 := Lib.hid ((HP.out.below HB2.out).wr a2 a3)
   have HR3 : Hid (Rd w3 rv rs) := R1.out.1.wr a2 (fun q hq => by
    have h1 := (R1.out.2 q hq).1
    refine ⟨by omega, fun e => ?_⟩
    have := HOV.out q e
    omega)
   have hrne : ∀ q, rv.ownBlock = some q → q ≠ R ∧ ov1.ownBlock ≠ some q := fun q hq => by
    have h1 := R1.out.2 q hq
    refine ⟨by omega, fun e => ?_⟩
    rcases a3 q e with h | h
    ·have := HOV.out q h; omega
    ·omega
   have HRN := Lib.hid hrne
   clear a1 a2 a3 c1 hrne
   go_wp2_with fail
   refine (HI.out R lw _ _ ov1 rs _ _ A1.out HSG3.out HP3.out HR3.out HRN.out hrl (by rw [List.length_append, List.length_map]; have := HBD2.out; omega)).mono ?_
   rintro e w4 ⟨ov2, rfl, b1, b2, b3⟩
   have HFIN := Lib.hid (And.intro b1 (And.intro b2 b3))
   clear b1 b2 b3
   go_wp2_with fail
   go_end0
   obtain ⟨b1, b2, b3⟩ := HFIN.out
   rw [List.append_assoc, ← List.map_append, ← HPA.out] at b1
   refine ⟨ov2, rfl, b1, (Wr.of_below HB2.out).trans (Mv.refl _ _) (A2.out.trans A3.out b2), ?_⟩
   have m1 : Mv w ov.ownBlock ov1.ownBlock := fun q hq => (A3.out q hq).imp id (fun h => Nat.le_trans HB2.out.size h)
   exact Mv.trans (R := R) (w' := w3) m1 (Nat.le_trans HB2.out.size A2.out.size) b3
theorem whalves_any (np : Nat) : ∀ k, k ≤ np → HalvesOk k np := by
 intro k
 induction k with
 | zero => intro _; exact halves_zero np
 | succ k ih => intro h; exact halves_succ k np h (ih (by omega))
end Go.Proofs.YtceggplnggkdnaaGreatDoor
namespace Go.Proofs.YtceggplnggkdnaaGreatDoor
open Go.RowKit LexP NumP
theorem Tryz.infoInt : (Tryz.prog.info? 3).map (fun i => (i.zero, i.size, i.bytes)) = some (some (.int .i64 0), 1, 8) := by kernel_rfl
end Go.Proofs.YtceggplnggkdnaaGreatDoor
namespace Go.Proofs.YtceggplnggkdnaaGreatDoor
open Go.RowKit LexP NumP
end Go.Proofs.YtceggplnggkdnaaGreatDoor
namespace Go.Proofs.YtceggplnggkdnaaGreatDoor
open Go.RowKit LexP NumP
end Go.Proofs.YtceggplnggkdnaaGreatDoor
namespace Go.Proofs.YtceggplnggkdnaaGreatDoor
open Go.RowKit LexP NumP
def byCells (l : Bytes) : List Value := l.map fun c => .int .u8 (c.toNat : Nat)
theorem byCells_append (a b : Bytes) : byCells (a ++ b) = byCells a ++ byCells b := by simp [byCells]
def OwnB (B : Nat) (w : World) (v : Value) (ds : Bytes) : Prop := w.ownsRow B 5 1 v ds.length (byCells ds)
theorem push_all : ∀ (l : Bytes) (s : ByteArray), (l.map fun c => ((c.toNat : Nat) : Int)).foldl (fun r n => r.push (UInt8.ofNat n.toNat)) s = ⟨s.data ++ l.toArray⟩ := by
 intro l
 induction l with
 | nil => intro s; simp
 | cons c l ih =>
  intro s
  simp only [List.map_cons, List.foldl_cons, Int.toNat_natCast, UInt8.ofNat_toNat]
  rw [ih]
  show (⟨s.data.push c ++ l.toArray⟩ : ByteArray) = _
  congr 1
  simp
theorem run_text {B : Nat} {w : World} {v : Value} {l : Bytes} (h : OwnB B w v l) : (convert 45 9 v).run Tryz.prog w = .ok (.string ⟨l.toArray⟩) w := by
 rcases ownsRow_open h with ⟨rfl, hn, hx⟩ | ⟨g, cap, rfl, -, -, -, -, -⟩
 ·rw [run_convert_bytes_string w _ _ 5 none 0 0 Tryz.underlying45 Tryz.underlying5 Tryz.underlying9]
  obtain rfl : l = [] := List.eq_nil_of_length_eq_zero hn
  rfl
 ·rw [run_convert_bytes_string w _ _ 5 _ _ _ Tryz.underlying45 Tryz.underlying5 Tryz.underlying9]
  have hc := h.cells (g := g) rfl
  have hl := run_loadCells_list (P := Tryz.prog) (w := w) ⟨g, 0, none⟩ (byCells l) hc
  have e : byCells l = (l.map fun c => ((c.toNat : Nat) : Int)).map (Value.int .u8) := by simp [byCells]
  have hn : (byCells l).length = l.length := by simp [byCells]
  rw [hn, e] at hl
  rw [run_bytesToString w ⟨g, 0, none⟩ l.length cap _ hl, push_all]
  congr 2
  simp
end Go.Proofs.YtceggplnggkdnaaGreatDoor
namespace Go.Proofs.YtceggplnggkdnaaGreatDoor
open Go.RowKit NatP LexP
def decTx (n : Nat) : Bytes := if n = 0 then [48] else (dg n).map sgn
def TextPost (n : Nat) (w : World) (e : Ending) (w' : World) : Prop := e = .returned (.tuple #[.string ⟨(decTx n).toArray⟩, .int .i64 0]) ∧ Below w.heap.size w w'
theorem Tryz.infoWs : (Tryz.prog.info? 111).map (fun i => (i.zero, i.size, i.bytes)) = some (some (.slice none 0 0), 1, 24) := by kernel_rfl
theorem WS.made (w : World) (h : 6 < w.heap.size) : WS (w.alloc (.cells #[.int .i64 10, .int .i64 19, .int .u64 10000000000000000000, .slice none 0 0, .slice none 0 0] 502)) w.heap.size (.slice none 0 0) (.slice none 0 0) [] :=
 ⟨heap_alloc_new w _, World.ownsRow_nil _ _ _ _, h⟩
theorem pad_nil (n : Nat) : pad n 0 = dg n := by unfold pad; simp
set_option maxRecDepth 100000 in
set_option maxHeartbeats 4000000 in
theorem text_short (v : Value) (xs : List Nat) (w : World) (hs : SG w) (hv : Rd w v xs) (hl : (strip xs).length ≤ 12) (hl2 : xs.length ≤ 17179869184) :
  Calls Tryz.prog 320 #[v, .int .i64 10] w (TextPost (val xs) w) := by
 have HV := Lib.hid hv
 have HSG := Lib.hid hs
 obtain ⟨X, hX⟩ : ∃ X, X = strip xs := ⟨_, rfl⟩
 have hXv : val X = val xs := by rw [hX, val_strip]
 have hsz : 6 < w.heap.size := World.block_lt_of_cell? w _ (hs 0 (by omega))
 rw [← hX] at hl
 obtain ⟨n, hn⟩ : ∃ n, n = X.length := ⟨_, rfl⟩
 rw [← hn] at hl
 have HX := Lib.hid hX
 have HXV := Lib.hid hXv
 have HN := Lib.hid hn
 clear hv hs hX hXv hn
 by_cases h0 : n = 0
 ·have hb : ((n : Int) == 0) = true := by simp [h0]
  have HZ : Hid (decTx (val xs) = [48]) := by
   have hX0 : X = [] := List.eq_nil_of_length_eq_zero (by rw [← HN.out]; exact h0)
   show _ = _
   rw [← HXV.out, hX0]; rfl
  clear h0
  go_enter Tryz.func320, Tryz.ntmps320
  go_wp2_with fail
  refine (least_blk _ xs _ HV.out (by omega)).mono ?_
  rintro e w1 ⟨rfl, hB, hb1⟩
  rw [← HX.out, ← HN.out]
  have HB1 := Lib.hid hb1
  clear hB hb1
  go_wp2_with fail
  go_ret2
  exact ⟨by rw [HZ.out]; rfl, HB1.out⟩
 ·have hb : ((n : Int) == 0) = false := by simp [h0]
  have hb12 : decide (12 < n) = false := by simp; omega
  have hpos : val xs ≠ 0 := fun e => by
   have h1 : (strip xs).length = 0 := by
    have := strip_len_of_lt xs 0 (by rw [e]; simp)
    omega
   rw [← HX.out, ← HN.out] at h1
   exact h0 h1
  have HD : Hid (decTx (val xs) = (pad (val X) 0).map sgn) := by
   show _ = _
   unfold decTx
   rw [if_neg hpos, pad_nil, HXV.out]
  clear h0 hpos
  go_enter Tryz.func320, Tryz.ntmps320
  go_wp2_with fail
  refine (least_blk _ xs _ HV.out (by omega)).mono ?_
  rintro e w1 ⟨rfl, hB, hb1⟩
  rw [← HX.out] at hB ⊢
  have HB := Lib.hid hB
  have HB1 := Lib.hid hb1
  rw [← HN.out]
  clear hB hb1
  go_wp2_with fail
  refine (piece_ten _).mono ?_
  rintro e w2 ⟨rfl, rfl⟩
  go_wp2_with fail
  have hsg1 := HSG.out.below HB1.out hsz
  have hb2 := below_alloc w1 (.cells #[.int .i64 10, .int .i64 19, .int .u64 10000000000000000000, .slice none 0 0, .slice none 0 0] 502)
  have hsz1 : 6 < w1.heap.size := Nat.lt_of_lt_of_le hsz HB1.out.size
  have HW := Lib.hid (WS.made w1 hsz1)
  have HSG2 := Lib.hid (hsg1.below hb2 hsz1)
  have HR := Lib.hid ((HB.out.whole (by rw [← HN.out]; omega)).below hb2)
  rw [← HN.out] at HR
  have HB2 : Hid (Below w.heap.size w (w1.alloc (.cells #[.int .i64 10, .int .i64 19, .int .u64 10000000000000000000, .slice none 0 0, .slice none 0 0] 502))) := HB1.out.trans (hb2.mono HB1.out.size)
  have hlen : ([] : Bytes).length + (pad (NatP.val X) 0).length ≤ 274877906944 := by
   have h1 : NatP.val X < BB ^ n := by rw [HN.out]; exact val_lt HB.out.2
   have := dg_len_BB h1
   rw [pad_nil]; simp only [List.length_nil]; omega
  have HLEN := Lib.hid hlen
  have hz1 := HB1.out.size
  clear hsg1 hb2 hlen
  refine (whalves_any 0 0 (Nat.le_refl _) w1.heap.size 0 _ (.slice none 0 0) (.slice none 0 0) X [] _ HW.out HSG2.out ⟨0, 0, fun h => by omega, fun i h => by omega⟩ HR.out (fun q hq => by cases hq; have := HB.out.lt; exact ⟨by show w.heap.size ≠ w1.heap.size; omega, by simp [Value.ownBlock]⟩) (by rw [← HN.out]; omega) HLEN.out).mono ?_
  rintro e w3 ⟨ov, rfl, r1, r2, r3⟩
  rw [List.nil_append, ← HD.out] at r1
  have c4 := r1.cell.2.2.2.2.1
  have htx := run_text (B := w1.heap.size + 1) (w := w3) (v := ov) (l := decTx (NatP.val xs)) r1.own
  have HB3 : Hid (Below w.heap.size w w3) := r2.to_below HB2.out HB2.out.size (by omega) (fun k hk => by cases hk)
  clear r1 r2 r3
  go_wp2_with fail
  go_ret2
  exact ⟨rfl, HB3.out⟩
end Go.Proofs.YtceggplnggkdnaaGreatDoor
namespace Go.Proofs.YtceggplnggkdnaaGreatDoor
open Go.RowKit NatP LexP
def PvAll (w : World) (R : Nat) (pb : Option Nat) (vs : List Value) : Prop := ∀ j v, vs[j]? = some v → ∃ bs, Rd w v bs ∧ val bs = UU ^ 2 ^ j ∧ bs.length ≤ 274877906944 ∧ 2 ^ j ≤ 34359738368 ∧ ∀ q, v.ownBlock = some q → R < q ∧ pb ≠ some q
structure PgMid (R : Nat) (w1 : World) (wr : World) (i : Nat) (pv : Value) (vs : List Value) : Prop where
 st : WS wr R pv (.slice none 0 0) []
 own : wr.ownsRow (R + 1) 111 1 pv i vs
 all : PvAll wr R pv.ownBlock vs
 below : Below R w1 wr
structure PgSt (L R : Nat) (w1 : World) (p : Value) (wr : World) (i : Nat) (pv : Value) (xs : List Nat) (vs : List Value) : Prop extends PgMid R w1 wr i pv vs where
 rd : Fr (R + 1) wr p xs
 ne : ∀ q, p.ownBlock = some q → pv.ownBlock ≠ some q
 vl : val xs = UU ^ 2 ^ i
 st2 : strip xs = xs
 len : xs.length ≤ 2 * L
theorem PvAll.wr {w w' : World} {R : Nat} {pb pb' : Option Nat} {vs : List Value} (h : PvAll w R pb vs) (hw : Wr R pb w w') (hm : Mv w pb pb') : PvAll w' R pb' vs := fun j v hj => by
 obtain ⟨bs, h1, h2, h3, h4, h5⟩ := h j v hj
 refine ⟨bs, h1.wr hw (fun q hq => ⟨by have := h5 q hq; omega, (h5 q hq).2⟩), h2, h3, h4, fun q hq => ⟨(h5 q hq).1, fun e => ?_⟩⟩
 rcases hm q e with h | h
 ·exact (h5 q hq).2 h
 ·have := h1.lt hq; omega
theorem PgMid.below' {R : Nat} {w1 wr w2 : World} {i : Nat} {pv : Value} {vs : List Value} (h : PgMid R w1 wr i pv vs) (hb : Below wr.heap.size wr w2) : PgMid R w1 w2 i pv vs :=
 ⟨h.st.below hb, h.own.kept (row := none) ⟨hb.os, hb.tape, hb.output, hb.size, fun k hk _ => hb.block k hk⟩ (by cases pv.ownBlock <;> simp), h.all.wr (Wr.of_below hb) (Mv.refl _ _), h.below.trans (hb.mono (Nat.le_of_lt h.st.lt))⟩
theorem PgSt.below' {L R : Nat} {w1 wr w2 : World} {p : Value} {i : Nat} {pv : Value} {xs : List Nat} {vs : List Value} (h : PgSt L R w1 p wr i pv xs vs) (hb : Below wr.heap.size wr w2) : PgSt L R w1 p w2 i pv xs vs :=
 ⟨h.toPgMid.below' hb, h.rd.below hb, h.ne, h.vl, h.st2, h.len⟩
theorem PgSt.push {L R : Nat} {w1 wr w2 : World} {p : Value} {i gg cap : Nat} {pv : Value} {xs : List Nat} {vs : List Value} (h : PgSt L R w1 p wr i pv xs vs) (h1 : xs.length ≤ 274877906944) (h2 : 2 ^ i ≤ 34359738368)
  (hown : w2.ownsRow (R + 1) 111 1 (.slice (some ⟨gg, 0, none⟩) (i + 1) cap) (i + 1) (vs ++ [p])) (hg : wr.grownBy w2 pv.ownBlock) (hat : pv.ownBlock = some gg ∨ gg = wr.heap.size) :
  PgMid R w1 (w2.setCell ⟨R, 3, none⟩ (.slice (some ⟨gg, 0, none⟩) (i + 1) cap)) (i + 1) (.slice (some ⟨gg, 0, none⟩) (i + 1) cap) (vs ++ [p]) := by
 have hne : some R ≠ pv.ownBlock := fun e => by have := h.own.lt R e.symm; omega
 have hb := (hg.block R h.st.lt hne).trans h.st.blk
 have hset := heap_setCell_same w2 R 3 #[.int .i64 10, .int .i64 19, .int .u64 10000000000000000000, pv, .slice none 0 0] 502 (.slice (some ⟨gg, 0, none⟩) (i + 1) cap) hb
 have hwr : Wr R pv.ownBlock wr (w2.setCell ⟨R, 3, none⟩ (.slice (some ⟨gg, 0, none⟩) (i + 1) cap)) := (Wr.of_grown hg).trans (Mv.refl _ _) (Wr.of_set w2 3 _)
 have hmv : Mv wr pv.ownBlock (Value.ownBlock (.slice (some ⟨gg, 0, none⟩) (i + 1) cap)) := by
  intro k hk
  cases hk
  rcases hat with h | h
  ·exact .inl h
  ·exact .inr (Nat.le_of_eq h.symm)
 refine ⟨⟨hset.trans (by simp), World.ownsRow_nil _ _ _ _, h.st.big⟩, ownsRow_setCell_below hown (by simp) _, ?_, hwr.to_below h.below (Nat.le_of_lt h.st.lt) (Nat.le_refl _) (fun k hk => by have := h.own.lt k hk; omega)⟩
 intro j v hj
 have hvl : vs.length = i := by have := h.own.1; omega
 by_cases hji : j < vs.length
 ·rw [List.getElem?_append_left hji] at hj
  exact h.all.wr hwr hmv j v hj
 ·have hje : j = i := by
   have := (List.getElem?_eq_some_iff.1 hj).1
   rw [List.length_append] at this; simp at this; omega
  subst hje
  rw [List.getElem?_append_right (by omega), hvl] at hj
  simp at hj
  subst hj
  refine ⟨xs, h.rd.1.wr hwr (fun q hq => ⟨by have := h.rd.2 q hq; omega, h.ne q hq⟩), h.vl, h1, h2, fun q hq => ⟨by have := h.rd.2 q hq; omega, fun e => ?_⟩⟩
  rcases hmv q e with h3 | h3
  ·exact h.ne q hq h3
  ·have := h.rd.2 q hq; omega
theorem PgMid.pw {R : Nat} {w1 wr : World} {i : Nat} {pv : Value} {vs : List Value} (h : PgMid R w1 wr i pv vs) : PW wr R (Value.ownBlock (.slice none 0 0)) pv i := by
 have hvl : vs.length = i := by have := h.own.1; omega
 obtain ⟨ao, cap, e, h1, h2, h3⟩ := ownsRow_shape h.own
 by_cases h0 : 0 < i
 ·obtain ⟨g, rfl, a1, a2, a3⟩ := h3 h0
  refine ⟨g, cap, fun _ => ⟨e, h1, h2, a2, by omega, by simp [Value.ownBlock]⟩, fun j hj => ?_⟩
  have hc := a3 j (by omega)
  have hlt : j < vs.length := by omega
  obtain ⟨bs, b1, b2, b3, b4, b5⟩ := h.all j vs[j] (List.getElem?_eq_getElem hlt)
  refine ⟨vs[j], bs, by rw [hc, List.getElem?_eq_getElem hlt], b1, b2, b3, b4, fun q hq => ⟨by have := b5 q hq; omega, by simp [Value.ownBlock]⟩⟩
 ·exact ⟨0, 0, fun h => absurd h h0, fun j hj => by omega⟩
def npow (R : Nat) (w : World) : Nat := lenOf ((w.cell? ⟨R, 3, none⟩).getD (.bool false))
theorem PgMid.npow {R : Nat} {w1 wr : World} {i : Nat} {pv : Value} {vs : List Value} (h : PgMid R w1 wr i pv vs) : npow R wr = i := by
 unfold Go.Proofs.YtceggplnggkdnaaGreatDoor.npow
 rw [h.st.cell.2.2.2.1]
 exact own_lenOf h.own
theorem PgSt.npow {L R : Nat} {w1 p : _} {wr : World} {i : Nat} {pv : Value} {xs : List Nat} {vs : List Value} (h : PgSt L R w1 p wr i pv xs vs) : npow R wr = i := h.toPgMid.npow
theorem pow_two_count {N L i : Nat} (hN : N < BB ^ L) (h : UU ^ 2 ^ i ≤ N) : 2 ^ i < 2 * L := prt_count (k := 2 ^ i) hN (Nat.div_pos h (Nat.pow_pos UU_pos))
set_option maxRecDepth 100000 in
set_option maxHeartbeats 4000000 in
theorem text_long (v : Value) (xs : List Nat) (w : World) (hs : SG w) (hv : Rd w v xs) (hl : 12 < (strip xs).length) (hl2 : xs.length ≤ 8589934592) :
  Calls Tryz.prog 320 #[v, .int .i64 10] w (TextPost (val xs) w) := by
 have HV := Lib.hid hv
 have HSG := Lib.hid hs
 obtain ⟨X, hX⟩ : ∃ X, X = strip xs := ⟨_, rfl⟩
 have hXv : val X = val xs := by rw [hX, val_strip]
 have hXs : strip X = X := by rw [hX, strip_strip]
 have hsz : 6 < w.heap.size := World.block_lt_of_cell? w _ (hs 0 (by omega))
 have hXl : X.length ≤ 8589934592 := by rw [hX]; exact Nat.le_trans (strip_le xs) hl2
 rw [← hX] at hl
 obtain ⟨n, hn⟩ : ∃ n, n = X.length := ⟨_, rfl⟩
 rw [← hn] at hl hXl
 have HX := Lib.hid hX
 have HXV := Lib.hid hXv
 have HN := Lib.hid hn
 have hb : ((n : Int) == 0) = false := by simp; omega
 have hb12 : (12 : Int) < (n : Int) := by omega
 have hpos : val xs ≠ 0 := fun e => by
  have := strip_len_of_lt xs 0 (by rw [e]; simp)
  rw [← hX] at this
  omega
 have HD : Hid (decTx (val xs) = (pad (val X) 0).map sgn) := by
  show _ = _
  unfold decTx
  rw [if_neg hpos, pad_nil, hXv]
 clear hv hs hX hXv hn hpos hXs
 go_enter Tryz.func320, Tryz.ntmps320
 go_wp2_with fail
 refine (least_blk _ xs _ HV.out (by omega)).mono ?_
 rintro e w1 ⟨rfl, hB, hb1⟩
 rw [← HX.out] at hB ⊢
 have HB := Lib.hid hB
 have HB1 := Lib.hid hb1
 rw [← HN.out]
 clear hB hb1
 go_wp2_with fail
 refine (piece_ten _).mono ?_
 rintro e w2 ⟨rfl, rfl⟩
 go_wp2_with fail
 have hsg1 := HSG.out.below HB1.out hsz
 have hb2 := below_alloc w1 (.cells #[.int .i64 10, .int .i64 19, .int .u64 10000000000000000000, .slice none 0 0, .slice none 0 0] 502)
 have hsz1 : 6 < w1.heap.size := Nat.lt_of_lt_of_le hsz HB1.out.size
 have HW := WS.made w1 hsz1
 have HSG2 := Lib.hid (hsg1)
 have HR := Lib.hid (HB.out.whole (by rw [← HN.out]; omega))
 rw [← HN.out] at HR
 have hz1 := HB1.out.size
 have hwl : w.heap.size < w1.heap.size := HB.out.lt
 have HS0 : Hid (PgSt n w1.heap.size w1 (.slice (some ⟨w1.heap.size + 1, 0, none⟩) 1 1) ((w1.alloc (.cells #[.int .i64 10, .int .i64 19, .int .u64 10000000000000000000, .slice none 0 0, .slice none 0 0] 502)).alloc (.cells #[.int .u64 10000000000000000000] 215)) 0 (.slice none 0 0) [10000000000000000000] []) := by
  have hb3 := below_alloc (w1.alloc (.cells #[.int .i64 10, .int .i64 19, .int .u64 10000000000000000000, .slice none 0 0, .slice none 0 0] 502)) (.cells #[.int .u64 10000000000000000000] 215)
  have hblk : Blk ((w1.alloc (.cells #[.int .i64 10, .int .i64 19, .int .u64 10000000000000000000, .slice none 0 0, .slice none 0 0] 502)).alloc (.cells #[.int .u64 10000000000000000000] 215)) (w1.heap.size + 1) [10000000000000000000] := by
   refine ⟨?_, ?_⟩
   ·have := heap_alloc_new (w1.alloc (.cells #[.int .i64 10, .int .i64 19, .int .u64 10000000000000000000, .slice none 0 0, .slice none 0 0] 502)) (.cells #[.int .u64 10000000000000000000] 215)
    simp only [World.size_alloc] at this
    exact this
   ·intro x hx; simp at hx; subst hx; unfold BB; omega
  refine ⟨⟨HW.below hb3, World.ownsRow_nil _ _ _ _, fun j v h => by simp at h, hb2.trans (hb3.mono (by simp))⟩, ⟨hblk.whole (by simp), fun q hq => ?_⟩, fun q _ => by simp [Value.ownBlock], by rw [Nat.pow_zero, Nat.pow_one]; rfl, by rfl, by simp; omega⟩
  cases hq
  exact ⟨Nat.le_refl _, by simp⟩
 have HNL : Hid (val xs < BB ^ n) := by
  show _ < _
  rw [← HXV.out, HN.out]; exact val_lt HB.out.2
 have hlen : ([] : Bytes).length + (pad (NatP.val X) 0).length ≤ 274877906944 := by
  have h1 : NatP.val X < BB ^ n := by rw [HXV.out]; exact HNL.out
  have := dg_len_BB h1
  rw [pad_nil]; simp only [List.length_nil]; omega
 have HLEN := Lib.hid hlen
 obtain ⟨R, hR⟩ : ∃ R, R = w1.heap.size := ⟨_, rfl⟩
 have HRE := Lib.hid hR
 clear hsg1 hb2 HW hlen hR
 go_loopw [9] (fun p wr => ∃ i pv zs vs, PgSt n w1.heap.size w1 p wr i pv zs vs ∧ i ≤ 64) (fun _ wr => 64 - npow w1.heap.size wr)
 case atStart => exact ⟨0, _, _, _, HS0.out, by omega⟩
 clear HS0
 case round =>
  obtain ⟨i, pv, zs, vs, hst, hi65⟩ := hrel
  have HST := Lib.hid hst
  have hnp := hst.npow
  have HNP := Lib.hid hnp
  have HNL2 := HNL
  obtain ⟨zo, zcap, rfl, hzc1, hzc2, -⟩ := hst.rd.1.2
  clear hst hnp hzc1 hzc2
  by_cases hle : NatP.val zs ≤ NatP.val xs
  ·have hp2 : 2 ^ i < 2 * n := pow_two_count HNL.out (by rw [← HST.out.vl]; exact hle)
   have hi64 : i < 64 := by
    have h1 : 2 ^ i < 2 ^ 36 := Nat.lt_of_lt_of_le hp2 (by omega)
    have := (Nat.pow_lt_pow_iff_right (a := 2) (by omega)).1 h1
    omega
   have hzl : zs.length ≤ n := by
    have := strip_len_of_lt zs n (Nat.lt_of_le_of_lt hle HNL.out)
    rw [HST.out.st2] at this; exact this
   have hcb : decide (cmpI (NatP.val zs) (NatP.val X) ≤ 0) = true := by
    rw [HXV.out]
    unfold cmpI
    by_cases h1 : NatP.val zs < NatP.val xs
    ·rw [if_pos h1]; rfl
    ·rw [if_neg h1, if_neg (by omega)]; rfl
   obtain ⟨ci, hci⟩ : ∃ ci, ci = cmpI (NatP.val zs) (NatP.val X) := ⟨_, rfl⟩
   rw [← hci] at hcb
   have HCI := Lib.hid hci
   have hcl : 2 ^ i ≤ 34359738368 := by omega
   clear hle hp2 hci
   go_wp2_with fail
   refine (cmp_any _ _ zs X _ HST.out.rd.1 (HR.out.below (HST.out.below.mono (by omega)))).mono ?_
   rintro e w4 ⟨rfl, hb4⟩
   rw [← HCI.out]
   have HST4 := Lib.hid (HST.out.below' hb4)
   clear hb4
   obtain ⟨i0, hi, hk0, hk1, hk2⟩ := info_parts Tryz.infoWs
   have HST5 := Lib.hid (HST4.out.below' (below_alloc w4 (.cells #[.slice zo zs.length zcap] 111)))
   have HLT : Hid (w1.heap.size < (w4.alloc (.cells #[.slice zo zs.length zcap] 111)).heap.size) := HST5.out.st.lt
   have HNE : Hid (some w1.heap.size ≠ pv.ownBlock) := fun e => by have := HST5.out.own.lt w1.heap.size e.symm; omega
   have c3 := HST4.out.st.cell.2.2.2.1
   have ca3 := HST5.out.st.cell.2.2.2.1
   have ca4 := frozen_of_row _ w1.heap.size 3 _ _ HST5.out.st.blk
   have CA3 := Lib.hid ca3
   have CA4 := Lib.hid ca4
   clear ca3 ca4
   have hzl2 : zs.length ≤ 8589934592 := by omega
   have HZL := Lib.hid hzl
   go_wp2_with (at_builtin; refine wpList_append_lies _ rfl _ _ 247 rfl (w1.heap.size + 1) 111 i0 (.slice none 0 0) 1 24 Tryz.underlying247 hi hk0 hk1 hk2 rfl (by omega) pv i vs rfl HST5.out.own ⟨w4.heap.size, 0, none⟩ 1 1 [.slice zo zs.length zcap] rfl rfl (LexP.cells_new _ _ _ _ rfl) (by simp [Value.oneCell']) (by omega) (by unfold maxLen; omega) (by omega) (by have := HLT.out; simp at this; simp; omega) (w4.heap.size + 1) (by simp) ?_)
   intro gg cap w5 hown5 hgrow hat hlt5
   have d4 : w5.cell? ⟨w1.heap.size, 3, none⟩ = some pv := (hgrow.cell_far ⟨w1.heap.size, 3, none⟩ HLT.out HNE.out).trans CA3.out
   have d5 : w5.frozen? ⟨w1.heap.size, 3, none⟩ = false := (hgrow.frozen_far ⟨w1.heap.size, 3, none⟩ HLT.out HNE.out).trans CA4.out
   have HG := Lib.hid (HST5.out.push (by omega) hcl hown5 hgrow (by simpa using hat))
   have HZR := Lib.hid HST5.out
   have HWRR := Lib.hid ((Wr.of_grown (R := w1.heap.size) hgrow).trans (Mv.refl _ _) (Wr.of_set w5 3 (.slice (some ⟨gg, 0, none⟩) (i + 1) cap)))
   clear hown5 hgrow hat hlt5
   by_cases hbig : n + 2 < 2 * zs.length
   ·have hbb : decide ((n : Int) + 2 < 2 * (zs.length : Int)) = true := by simp; omega
    clear hbig
    go_wp2_with fail
    have HBE := Lib.hid (HG.out.below)
    have hcall := whalves_any (i + 1) (i + 1) (Nat.le_refl _) w1.heap.size 0 _ _ (.slice none 0 0) X [] _ HG.out.st (HSG2.out.below HBE.out hsz1) HG.out.pw (HR.out.below HBE.out) (fun q hq => by cases hq; exact ⟨by show w.heap.size ≠ w1.heap.size; omega, by simp [Value.ownBlock]⟩) (by rw [← HN.out]; omega) HLEN.out
    rw [show (((i + 1 : Nat) : Int) - 1) = (i : Int) from by omega] at hcall
    have HCALL := Lib.hid hcall
    have HB2 : Hid (Below w.heap.size w (w5.setCell ⟨w1.heap.size, 3, none⟩ (.slice (some ⟨gg, 0, none⟩) (i + 1) cap))) := HB1.out.trans (HBE.out.mono hz1)
    have HSZ := Lib.hid (Nat.le_of_lt HG.out.st.lt)
    clear hcall
    refine HCALL.out.mono ?_
    rintro e w6 ⟨ov, rfl, r1, r2, r3⟩
    rw [List.nil_append, ← HD.out] at r1
    have c4 := r1.cell.2.2.2.2.1
    have htx := run_text (B := w1.heap.size + 1) (w := w6) (v := ov) (l := decTx (NatP.val xs)) r1.own
    have HB3 : Hid (Below w.heap.size w w6) := r2.to_below HB2.out (Nat.le_trans hz1 HSZ.out) (by omega) (fun k hk => by cases hk)
    clear r1 r2 r3
    go_wp2_with fail
    go_ret2
    exact ⟨rfl, HB3.out⟩
   ·have hbb : decide ((n : Int) + 2 < 2 * (zs.length : Int)) = false := by simp; omega
    clear hbig
    go_wp2_with fail
    have HRD := Lib.hid (HZR.out.rd.1.wr (R := w1.heap.size) (og := pv.ownBlock) HWRR.out (fun q hq => ⟨by have := HZR.out.rd.2 q hq; omega, HZR.out.ne q hq⟩))
    refine (square_any zs _ _ (by omega) HRD.out).mono ?_
    rintro e w6 ⟨v6, ys, rfl, f1, f2, f3, f4, f5⟩
    have hfin : PgSt n w1.heap.size w1 v6 w6 (i + 1) _ ys _ := ⟨HG.out.below' f5, f1.mono HG.out.st.lt, fun q hq e => by have := f1.2 q hq; have := HG.out.own.lt q e; omega, by rw [f2, HZR.out.vl, ← Nat.pow_add, ← Nat.two_mul, Nat.mul_comm, Nat.pow_succ], f4, by have := HZL.out; omega⟩
    have hnp6 := hfin.npow
    have HFIN := Lib.hid hfin
    have HNP6 := Lib.hid hnp6
    clear f1 f2 f3 f4 f5 hfin hnp6
    go_wp2_with fail
    exact ⟨⟨_, _, _, _, HFIN.out, by omega⟩, by rw [HNP6.out, HNP.out]; omega⟩
  ·have hcb : decide (cmpI (NatP.val zs) (NatP.val X) ≤ 0) = false := by
    rw [HXV.out]
    unfold cmpI
    rw [if_neg (by omega), if_pos (by omega)]; rfl
   obtain ⟨ci, hci⟩ : ∃ ci, ci = cmpI (NatP.val zs) (NatP.val X) := ⟨_, rfl⟩
   rw [← hci] at hcb
   have HCI := Lib.hid hci
   clear hle hci
   go_wp2_with fail
   refine (cmp_any _ _ zs X _ HST.out.rd.1 (HR.out.below (HST.out.below.mono (by omega)))).mono ?_
   rintro e w4 ⟨rfl, hb4⟩
   rw [← HCI.out]
   have HM := Lib.hid (HST.out.below' hb4).toPgMid
   clear hb4
   have c3 := HM.out.st.cell.2.2.2.1
   obtain ⟨po, pcap, rfl, hpc, hpm, hpsh⟩ := ownsRow_shape HM.out.own
   have HPS := Lib.hid hpsh
   clear hpc hpm hpsh
   go_wp2_with fail
   have HBE := Lib.hid (HM.out.below)
   have hcall := whalves_any i i (Nat.le_refl _) w1.heap.size 0 _ _ (.slice none 0 0) X [] _ HM.out.st (HSG2.out.below HBE.out hsz1) HM.out.pw (HR.out.below HBE.out) (fun q hq => by cases hq; exact ⟨by show w.heap.size ≠ w1.heap.size; omega, by simp [Value.ownBlock]⟩) (by rw [← HN.out]; omega) HLEN.out
   have HCALL := Lib.hid hcall
   have HB2 : Hid (Below w.heap.size w w4) := HB1.out.trans (HBE.out.mono hz1)
   have HSZ := Lib.hid (Nat.le_of_lt HM.out.st.lt)
   clear hcall
   refine HCALL.out.mono ?_
   rintro e w6 ⟨ov, rfl, r1, r2, r3⟩
   rw [List.nil_append, ← HD.out] at r1
   have c4 := r1.cell.2.2.2.2.1
   have htx := run_text (B := w1.heap.size + 1) (w := w6) (v := ov) (l := decTx (NatP.val xs)) r1.own
   have HB3 : Hid (Below w.heap.size w w6) := r2.to_below HB2.out (Nat.le_trans hz1 HSZ.out) (by omega) (fun k hk => by cases hk)
   clear r1 r2 r3
   go_wp2_with fail
   go_ret2
   exact ⟨rfl, HB3.out⟩
theorem radixText_any (v : Value) (xs : List Nat) (w : World) (hs : SG w) (hv : Rd w v xs) (hl : xs.length ≤ 8589934592) :
  Calls Tryz.prog 320 #[v, .int .i64 10] w (TextPost (val xs) w) := by
 by_cases h : (strip xs).length ≤ 12
 ·exact text_short v xs w hs hv h (by omega)
 ·exact text_long v xs w hs hv (by omega) hl
def DecPost (n : Nat) (w : World) (e : Ending) (w' : World) : Prop := e = .returned (.string ⟨(decTx n).toArray⟩) ∧ Below w.heap.size w w'
set_option maxRecDepth 100000 in
theorem dec_any (v : Value) (xs : List Nat) (w : World) (hs : SG w) (hv : Rd w v xs) (hl : xs.length ≤ 8589934592) :
  Calls Tryz.prog 171 #[v] w (DecPost (val xs) w) := by
 have HV := Lib.hid hv
 have HSG := Lib.hid hs
 clear hv hs
 go_enter Tryz.func171, Tryz.ntmps171
 go_wp2_with fail
 refine (radixText_any _ xs _ HSG.out HV.out hl).mono ?_
 rintro e w1 ⟨rfl, hb1⟩
 have HB1 := Lib.hid hb1
 clear hb1
 go_wp2_with fail
 go_ret
 exact ⟨rfl, HB1.out⟩
end Go.Proofs.YtceggplnggkdnaaGreatDoor
