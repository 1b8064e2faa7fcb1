/- Joined texts of this claim's proof: DecW, DecPP, DecX. -/
import Derived.Test.YtgfmiladfeoldaaGreatDoorPl15
import Derived.Deep.RegionLaw
import Derived.Test.YtgfmiladfeoldaaGreatDoorPl13
import Derived.Lib.MinMax
set_option linter.unusedSimpArgs false
set_option linter.unusedVariables false
namespace Go.Proofs.YtgfmiladfeoldaaGreatDoor
open Go.RowKit NatP LexP
def sgn (d : Nat) : UInt8 := UInt8.ofNat (48 + d)
theorem sgn_val {d : Nat} (h : d < 10) : (sgn d).toNat = 48 + d := by unfold sgn; rw [UInt8.toNat_ofNat']; omega
def u8c (L : List Nat) : List Value := L.map fun d => Value.int .u8 ((d : Nat) : Int)
def DB (w : World) (D : Nat) (L : List Nat) : Prop := w.heap[D]? = some (.cells (u8c L).toArray 246 (0, 0)) ∧ L.length = 64
theorem DB.lt {w : World} {D : Nat} {L : List Nat} (h : DB w D L) : D < w.heap.size := (Array.getElem?_eq_some_iff.1 h.1).1
theorem DB.cell {w : World} {D i x : Nat} {L : List Nat} (h : DB w D L) (hx : L[i]? = some x) : w.cell? ⟨D, i, none⟩ = some (.int .u8 ((x : Nat) : Int)) := by
 rw [cell_of_row w D i _ _ _ h.1]; simp [u8c, hx]
theorem DB.frozen {w : World} {D : Nat} {L : List Nat} (h : DB w D L) (i : Nat) : w.frozen? ⟨D, i, none⟩ = false := frozen_of_row w D i _ _ h.1
theorem DB.set {w : World} {D : Nat} {L : List Nat} (h : DB w D L) (i x : Nat) : DB (w.setCell ⟨D, i, none⟩ (.int .u8 ((x : Nat) : Int))) D (L.set i x) ∧ w.grownBy (w.setCell ⟨D, i, none⟩ (.int .u8 ((x : Nat) : Int))) (some D) := by
 refine ⟨⟨?_, by rw [List.length_set, h.2]⟩, ⟨rfl, rfl, rfl, by simp, fun k _ hk => heap_setCell_other w ⟨D, i, none⟩ k _ (fun e => hk (by simp [e]))⟩⟩
 have := heap_setCell_same w D i (u8c L).toArray 246 (.int .u8 ((x : Nat) : Int)) h.1
 rw [this]
 simp [u8c, List.map_set]
theorem DB.made (w : World) : DB (w.alloc (.cells (u8c (List.replicate 64 0)).toArray 246)) w.heap.size (List.replicate 64 0) := ⟨heap_alloc_new w _, List.length_replicate⟩
def DgSt (v v' n : Nat) (L : List Nat) : Prop := ∃ rest : List Nat, dg v = dg v' ++ rest ∧ n + rest.length = 64 ∧ L.drop n = rest.map (48 + ·)
theorem DgSt.start (v : Nat) : DgSt v v 64 (List.replicate 64 0) := ⟨[], by simp, rfl, by simp⟩
theorem DgSt.step {v v' n : Nat} {L : List Nat} (h : DgSt v v' (n + 1) L) (hL : L.length = 64) (hv : 0 < v') : DgSt v (v' / 10) n (L.set n (48 + v' % 10)) := by
 obtain ⟨rest, h1, h2, h3⟩ := h
 refine ⟨(v' % 10) :: rest, ?_, by simp only [List.length_cons]; omega, ?_⟩
 ·rw [h1, dg_pos hv, List.append_assoc]; rfl
 ·have hlt : n < (L.set n (48 + v' % 10)).length := by rw [List.length_set]; omega
  rw [List.drop_eq_getElem_cons hlt, List.getElem_set_self, List.drop_set_of_lt (Nat.lt_succ_self n), h3]
  rfl
theorem dg_twenty {v : Nat} (h : v < BB) : (dg v).length ≤ 20 := dg_len_le (Nat.lt_trans h (by unfold BB; decide))
theorem DgSt.room {v v' n : Nat} {L : List Nat} (h : DgSt v v' n L) (hv : v < BB) : 44 ≤ n := by
 obtain ⟨rest, h1, h2, _⟩ := h
 have := dg_twenty hv
 rw [h1, List.length_append] at this
 omega
def PdSt (v n : Nat) (L : List Nat) : Prop := ∃ j, n + j + (dg v).length = 64 ∧ L.drop n = (List.replicate j 0 ++ dg v).map (48 + ·)
theorem PdSt.start {v n : Nat} {L : List Nat} (h : DgSt v 0 n L) : PdSt v n L := by
 obtain ⟨rest, h1, h2, h3⟩ := h
 rw [dg_zero, List.nil_append] at h1
 exact ⟨0, by rw [h1]; omega, by rw [h3, h1]; rfl⟩
theorem PdSt.step {v n : Nat} {L : List Nat} (h : PdSt v (n + 1) L) (hL : L.length = 64) : PdSt v n (L.set n 48) := by
 obtain ⟨j, h1, h2⟩ := h
 refine ⟨j + 1, by omega, ?_⟩
 have hlt : n < (L.set n 48).length := by rw [List.length_set]; omega
 rw [List.drop_eq_getElem_cons hlt, List.getElem_set_self, List.drop_set_of_lt (Nat.lt_succ_self n), h2]
 rfl
def WdA (v D : Nat) (w : World) (vv nv : Value) (wr : World) : Prop := ∃ (v' n : Nat) (L : List Nat), vv = .int .u64 (v' : Nat) ∧ nv = .int .i64 (n : Nat) ∧ v' ≤ v ∧ DgSt v v' n L ∧ DB wr D L ∧ Below w.heap.size w wr
def WdB (v width D : Nat) (w : World) (nv : Value) (wr : World) : Prop := ∃ (n : Nat) (L : List Nat), nv = .int .i64 (n : Nat) ∧ n ≤ 64 ∧ 44 ≤ n ∧ (64 - n ≤ width ∨ 64 - n = (dg v).length) ∧ PdSt v n L ∧ DB wr D L ∧ Below w.heap.size w wr
set_option maxRecDepth 100000 in
set_option maxHeartbeats 4000000 in
theorem wword_any (R v width : Nat) (pv ov : Value) (out : Bytes) (w : World) (h : WS w R pv ov out) (hs : SG w) (hv : v < BB) (hw : width ≤ 19) (h0 : 0 < v ∨ 0 < width) (hl : out.length ≤ 1099511627776) :
  Calls Tryz.prog 255 #[.pointer (some ⟨R, 0, none⟩), .int .u64 (v : Nat), .int .i64 (width : Nat)] w (WsPost w R pv ov out ((pad v width).map sgn)) := by
 have HS := Lib.hid h
 have HSG := Lib.hid hs
 have HV := Lib.hid hv
 have HST0 := Lib.hid (DgSt.start v)
 have hsz : 4 < w.heap.size := by have := h.big; have := h.lt; omega
 have hRlt := h.lt
 clear h hs hv
 go_enter Tryz.func255, Tryz.ntmps255
 go_wp2_with fail
 go_loopw [1, 7] (fun vv nv wr => WdA v w.heap.size w vv nv wr) (fun vv _ _ => (intOf vv).toNat)
 case atStart => exact ⟨v, 64, List.replicate 64 0, rfl, rfl, Nat.le_refl _, HST0.out, DB.made w, below_alloc w _⟩
 clear HST0
 case round =>
  obtain ⟨v', n, L, rfl, rfl, hvv, hst, hdb, hbl⟩ := hrel
  have HST := Lib.hid hst
  have HDB := Lib.hid hdb
  have HBL := Lib.hid hbl
  have hroom := hst.room HV.out
  clear hst hdb hbl
  by_cases hv0 : v' = 0
  ·subst hv0
   have HPD := Lib.hid (PdSt.start HST.out)
   have HLEN : Hid (64 - n = (dg v).length) := by
    obtain ⟨rest, a1, a2, _⟩ := HST.out
    show _ = _
    rw [dg_zero, List.nil_append] at a1
    rw [a1]; omega
   have hn64 : n ≤ 64 := by obtain ⟨rest, a1, a2, _⟩ := HST.out; omega
   go_wp2_with fail
   go_loopw [7] (fun nv wr => WdB v width w.heap.size w nv wr) (fun nv _ => (intOf nv).toNat)
   case atStart => exact ⟨n, L, rfl, hn64, hroom, .inr HLEN.out, HPD.out, HDB.out, HBL.out⟩
   clear HST HDB HBL HPD HLEN hroom hn64
   case round =>
    rename_i wr2 _
    obtain ⟨n, L, rfl, hn64, hroom, hway, hst, hdb, hbl⟩ := hrel
    have HST := Lib.hid hst
    have HDB := Lib.hid hdb
    have HBL := Lib.hid hbl
    have HWAY := Lib.hid hway
    clear hst hdb hbl hway
    by_cases hlt : 64 - n < width
    ·obtain ⟨m, rfl⟩ : ∃ m, n = m + 1 := ⟨n - 1, by omega⟩
     have F0 : ((m + 1 : Nat) : Int) = (m : Int) + 1 := by omega
     have F1 : (64 : Int) - ((m : Int) + 1) < (width : Int) := by omega
     have HN := Lib.hid (HST.out.step HDB.out.2)
     obtain ⟨z, hz⟩ : ∃ z, L[m]? = some z := ⟨_, List.getElem?_eq_getElem (by rw [HDB.out.2]; omega)⟩
     have c3 := HDB.out.cell hz
     have c4 := HDB.out.frozen m
     have HSET := Lib.hid (HDB.out.set m 48)
     have hm64 : m < 64 := by omega
     clear hz
     rw [F0]
     go_wp2_with fail
     have hfin : WdB v width w.heap.size w (.int .i64 (m : Nat)) (wr.setCell ⟨w.heap.size, m, none⟩ (.int .u8 48)) :=
      ⟨m, L.set m 48, rfl, by omega, by omega, .inl (by omega), HN.out, HSET.out.1, HBL.out.trans ((Below.refl _ _).setCell (by exact Nat.le_refl _) _)⟩
     exact ⟨hfin, by simp [intOf] <;> omega⟩
    ·have F1 : ¬ ((64 : Int) - (n : Int) < (width : Int)) := by omega
     have hpad : L.drop n = (pad v width).map (48 + ·) ∧ (pad v width).length = 64 - n := by
      obtain ⟨j, a1, a2⟩ := HST.out
      have hj : j = width - (dg v).length := by rcases HWAY.out with h | h <;> omega
      refine ⟨by rw [a2, hj]; rfl, ?_⟩
      unfold pad
      rw [List.length_append, List.length_replicate]; omega
     obtain ⟨hp1, hp2⟩ := hpad
     obtain ⟨m, hm⟩ : ∃ m, m = 64 - n := ⟨_, rfl⟩
     rw [← hm] at hp2
     have hm1 : 0 < m := by
      rw [← hp2]
      unfold pad
      rw [List.length_append, List.length_replicate]
      rcases h0 with h | h
      ·have : 0 < (dg v).length := by rw [dg_pos h]; simp
       omega
      ·omega
     have hm64 : m ≤ 64 := by omega
     have HS2 := Lib.hid (HS.out.below HBL.out)
     obtain ⟨i0, hi, hz0, hz1, hz2⟩ := info_parts Tryz.infoU8d
     obtain ⟨c0, c1, c2, c3, c4, c5⟩ := HS2.out.cell
     have HP1 := Lib.hid hp1
     have HP2 := Lib.hid hp2
     have HM := Lib.hid hm
     have hi0 : (0 : Int) ≤ (n : Int) := Int.natCast_nonneg _
     have hi1 : (n : Int) ≤ 64 := by omega
     have hi2 : ¬ (64 = n) := by omega
     have hi3 : n < 64 := by omega
     have HNEWS : Hid (∀ (j : Nat) (u : Value), (u8s ((pad v width).map sgn))[j]? = some u → wr.cell? ((⟨w.heap.size, n, none⟩ : Addr).add j) = some u) := by
      intro j u hu
      have e : (⟨w.heap.size, n, none⟩ : Addr).add j = ⟨w.heap.size, n + j, none⟩ := by unfold Addr.add; split <;> simp_all
      rw [e]
      simp only [u8s, List.map_map, List.getElem?_map, Option.map_eq_some_iff] at hu
      obtain ⟨d, hd, rfl⟩ := hu
      have hL : L[n + j]? = some (48 + d) := by
       rw [← List.getElem?_drop, HP1.out, List.getElem?_map, hd]; rfl
      rw [HDB.out.cell hL]
      have hd10 : d < 10 := by
       have := List.mem_of_getElem? hd
       unfold pad at this
       rcases List.mem_append.1 this with h | h
       ·rw [List.mem_replicate] at h; omega
       ·exact dg_lt v d h
      simp only [Function.comp]
      rw [sgn_val hd10]
     have HLT : Hid (R < wr.drew.heap.size) := HS2.out.lt
     have HNE : Hid (some R ≠ ov.ownBlock) := fun e => by have := HS2.out.ne R e.symm; omega
     clear hp1 hp2 hm
     go_wp2_with fail
     go_region_law ((refine step_append_lies _ (by rfl) _ _ _ (by rfl) (R + 1) 5 i0 _ 1 1 Tryz.underlying88 hi hz0 hz1 hz2 rfl (by omega) ov out.length (u8s out) (by rfl) (HS2.out.own.drew) ⟨w.heap.size, n, none⟩ (64 - n) (64 - n) (u8s ((pad v width).map sgn)) (by rfl) (by rw [u8s_len, List.length_map]; have := HP2.out; have := HM.out; omega) (fun j u hu => HNEWS.out j u hu) (u8s_one _) (by omega) (by unfold maxLen; omega) (by omega) (by have := HS2.out.lt; simp; omega) wr.heap.size (by simp) ?_; intro gg cap w2 hown2 hgrow hat hlt2; have d4 : w2.cell? ⟨R, 4, none⟩ = some ov := (hgrow.cell_far ⟨R, 4, none⟩ HLT.out HNE.out).trans c4; have d5 : w2.frozen? ⟨R, 4, none⟩ = false := (hgrow.frozen_far ⟨R, 4, none⟩ HLT.out HNE.out).trans c5))
     all_goals
      obtain ⟨g1, g2, g3⟩ := HS2.out.grow (l := (pad v width).map sgn) hown2 (by rw [List.length_append, List.length_map]; have := HP2.out; have := HM.out; omega) ⟨hgrow.os, hgrow.tape, hgrow.output, hgrow.size, hgrow.block⟩ hat
      clear hown2 hgrow hat hlt2 d4 d5
      go_end0
      exact ⟨_, rfl, g1, (Wr.of_below HBL.out).trans (Mv.refl _ _) g2, fun k hk => (g3 k hk).imp id (fun h => Nat.le_trans HBL.out.size h)⟩
  ·have hvp : 0 < v' := by omega
   obtain ⟨m, rfl⟩ : ∃ m, n = m + 1 := ⟨n - 1, by omega⟩
   obtain ⟨d, hd⟩ : ∃ d, d = v' % 10 := ⟨_, rfl⟩
   obtain ⟨q, hq⟩ : ∃ q, q = v' / 10 := ⟨_, rfl⟩
   have hd10 : d < 10 := by omega
   have F0 : ((m + 1 : Nat) : Int) = (m : Int) + 1 := by omega
   have F1 : (v' : Int) % 10 = (d : Int) := by omega
   have F2 : (v' : Int) / 10 = (q : Int) := by omega
   have hqv : q < v' := by omega
   have F3 : IntKind.u64.wrap (q : Int) = (q : Int) := u64_in _ (by have := HV.out; unfold BB at this; omega)
   have HN := Lib.hid (HST.out.step HDB.out.2 hvp)
   rw [← hd, ← hq] at HN
   have HSG2 := HSG.out.below HBL.out hsz
   have c1 := HSG2 d hd10
   have HS2 := HS.out.below HBL.out
   have c2 := HS2.cell.1
   obtain ⟨z, hz⟩ : ∃ z, L[m]? = some z := ⟨_, List.getElem?_eq_getElem (by rw [HDB.out.2]; have := HST.out; obtain ⟨r, _, h2, _⟩ := this; omega)⟩
   have hm64 : m < 64 := by have := (List.getElem?_eq_some_iff.1 hz).1; rw [HDB.out.2] at this; exact this
   have c3 := HDB.out.cell hz
   have c4 := HDB.out.frozen m
   have HSET := Lib.hid (HDB.out.set m (48 + d))
   have HV2 := Lib.hid hvv
   clear hd hq hz HSG2 HS2
   rw [F0]
   go_wp2_with fail
   have hfin : WdA v w.heap.size w (.int .u64 (q : Nat)) (.int .i64 (m : Nat)) (wr.setCell ⟨w.heap.size, m, none⟩ (.int .u8 (48 + (d : Int)))) :=
    ⟨q, m, L.set m (48 + d), rfl, rfl, by omega, HN.out, HSET.out.1, HBL.out.trans ((Below.refl _ _).setCell (by exact Nat.le_refl _) _)⟩
   first | exact ⟨hfin, by simp [intOf] <;> omega⟩ | exact ⟨by (repeat apply Exists.intro); exact ⟨hfin, rfl⟩, by simp [intOf] <;> omega⟩
end Go.Proofs.YtgfmiladfeoldaaGreatDoor
namespace NatP
def UU : Nat := 10000000000000000000
theorem UU_def : UU = 10 ^ 19 := rfl
theorem UU_pos : 0 < UU := by unfold UU; omega
theorem UU_lt : UU < BB := by unfold UU BB; omega
def prt (N i : Nat) : Nat := N / UU ^ i % UU
def prts (N k : Nat) : List Nat := (List.range k).map (prt N)
theorem prts_succ (N k : Nat) : prts N (k + 1) = prts N k ++ [prt N k] := by simp [prts, List.range_succ]
theorem prts_at {N k i : Nat} (h : i < k) : (prts N k)[i]? = some (prt N i) := by simp [prts, h]
theorem prt_lt (N i : Nat) : prt N i < UU := Nat.mod_lt _ UU_pos
theorem prt_next (N k : Nat) : N / UU ^ (k + 1) = N / UU ^ k / UU := by rw [Nat.pow_succ, Nat.div_div_eq_div_mul]
theorem prt_split (N k : Nat) : N / UU ^ k = N / UU ^ (k + 1) * 10 ^ 19 + prt N k := by
 rw [prt_next, prt, ← UU_def, Nat.mul_comm]
 exact (Nat.div_add_mod _ _).symm
theorem UU_two (L : Nat) : BB ^ L ≤ UU ^ (2 * L) := by
 rw [Nat.pow_mul]
 exact Nat.pow_le_pow_left (by unfold BB UU; decide) L
theorem prt_count {N k L : Nat} (hN : N < BB ^ L) (h : 0 < N / UU ^ k) : k < 2 * L := by
 have h1 : UU ^ k ≤ N := (Nat.div_pos_iff.1 h).2
 have h2 : UU ^ k < UU ^ (2 * L) := Nat.lt_of_le_of_lt h1 (Nat.lt_of_lt_of_le hN (UU_two L))
 exact (Nat.pow_lt_pow_iff_right (by unfold UU; omega)).1 h2
theorem pad_zero (w : Nat) : pad 0 w = List.replicate w 0 := by unfold pad; rw [dg_zero]; simp
theorem pad_mid {N k w : Nat} (h : 0 < N / UU ^ (k + 1)) : pad (N / UU ^ k) (w - 19 * k) = pad (N / UU ^ (k + 1)) (w - 19 * (k + 1)) ++ pad (prt N k) 19 := by
 have hr : prt N k < 10 ^ 19 := prt_lt N k
 rw [prt_split N k, pad_split h hr, pad_fw hr, show w - 19 * k - 19 = w - 19 * (k + 1) from by omega]
theorem pad_top {N k w : Nat} (h : N / UU ^ (k + 1) = 0) : pad (N / UU ^ k) (w - 19 * k) = pad (N / UU ^ (k + 1)) (w - 19 * (k + 1)) ++ pad (prt N k) (min (w - 19 * k) 19) := by
 have hr : prt N k < 10 ^ 19 := prt_lt N k
 have e := prt_split N k
 rw [h, Nat.zero_mul, Nat.zero_add] at e
 rw [h, pad_zero, e]
 have hl := dg_len_le hr
 unfold pad
 rw [← List.append_assoc]
 congr 1
 rw [List.replicate_append_replicate]
 congr 1
 omega
theorem pad_len (n w : Nat) : (pad n w).length = max w (dg n).length := by
 unfold pad
 rw [List.length_append, List.length_replicate]; omega
theorem dg_len_BB {n L : Nat} (h : n < BB ^ L) : (dg n).length ≤ 20 * L := by
 refine dg_len_le (Nat.lt_of_lt_of_le h ?_)
 rw [Nat.pow_mul]
 exact Nat.pow_le_pow_left (by unfold BB; decide) L
end NatP
namespace Go.Proofs.YtgfmiladfeoldaaGreatDoor
open Go.RowKit NatP LexP
def lenOf : Value → Nat
 | .slice _ n _ => n
 | _ => 0
def PlA (N L : Nat) (w : World) (av pv : Value) (wr : World) : Prop := ∃ (k : Nat) (xs : List Nat), Rd wr av xs ∧ val xs = N / UU ^ k ∧ xs.length ≤ L ∧ wr.ownsRow w.heap.size 101 1 pv k (ws (prts N k)) ∧ Below w.heap.size w wr ∧ (k = 0 ∨ 0 < N / UU ^ (k - 1))
theorem own_lenOf {w : World} {b : Nat} {e : TypeId} {s : Nat} {v : Value} {n : Nat} {xs : List Value} (h : w.ownsRow b e s v n xs) : lenOf v = n := by
 rcases h.2 with ⟨rfl, h2⟩ | ⟨g, cap, cur, rfl, _⟩
 ·rw [h2]; rfl
 ·rfl
def PlO (R : Nat) (pv : Value) (og : Option Nat) (w5 : World) (l : Bytes) (wr : World) : Prop := ∃ ov : Value, WS wr R pv ov l ∧ Wr R og w5 wr ∧ Mv w5 og ov.ownBlock
theorem PlO.push {R : Nat} {pv ov ov3 : Value} {og : Option Nat} {w5 wr wa wz : World} {l : Bytes} (hw : Wr R og w5 wr) (hm : Mv w5 og ov.ownBlock) (ha : Below wr.heap.size wr wa) (g1 : WS wz R pv ov3 l) (g2 : Wr R ov.ownBlock wa wz) (g3 : Mv wa ov.ownBlock ov3.ownBlock) :
  PlO R pv og w5 l wz :=
 ⟨ov3, g1, hw.trans hm ((Wr.of_below ha).trans (Mv.refl _ _) g2), Mv.trans (R := R) (w' := wr) hm hw.size fun k hk => (g3 k hk).imp id (fun h => Nat.le_trans ha.size h)⟩
def PlB (R : Nat) (pv : Value) (og : Option Nat) (out : Bytes) (m width : Nat) (w5 : World) (nv : Value) (wr : World) : Prop := ∃ n : Nat, nv = .int .i64 (n : Nat) ∧ n ≤ width ∧ min width m ≤ n ∧ PlO R pv og w5 (out ++ (List.replicate (width - n) 0).map sgn) wr
def PlC (R : Nat) (pv : Value) (og : Option Nat) (out : Bytes) (N k width : Nat) (w5 : World) (nv : Value) (wr : World) : Prop := ∃ j : Nat, nv = .int .i64 ((j : Int) - 1) ∧ j ≤ k ∧ PlO R pv og w5 (out ++ (pad (N / UU ^ j) (width - 19 * j)).map sgn) wr
set_option maxRecDepth 100000 in
set_option maxHeartbeats 4000000 in
theorem plain_any (R width : Nat) (v pv ov : Value) (xs : List Nat) (out : Bytes) (w : World) (h : WS w R pv ov out) (hs : SG w) (hv : Rd w v xs) (hl : xs.length ≤ 17179869184) (hw : width ≤ 274877906944) (ho : out.length ≤ 274877906944) :
  Calls Tryz.prog 238 #[.pointer (some ⟨R, 0, none⟩), v, .int .i64 (width : Nat)] w (WsPost w R pv ov out ((pad (val xs) width).map sgn)) := by
 have HS := Lib.hid h
 have HSG := Lib.hid hs
 have HV := Lib.hid hv
 have hsz : 4 < w.heap.size := by have := h.big; have := h.lt; omega
 have hRlt := h.lt
 obtain ⟨N, hN⟩ : ∃ N, N = val xs := ⟨_, rfl⟩
 rw [← hN]
 obtain ⟨L, hL⟩ : ∃ L, L = xs.length := ⟨_, rfl⟩
 rw [← hL] at hl
 have hNL : N < BB ^ L := by rw [hN, hL]; exact val_lt hv.ok
 have HNL := Lib.hid hNL
 have HN0 : Hid (val xs = N / UU ^ 0) := by show _ = _; rw [Nat.pow_zero, Nat.div_one, hN]
 have HLL : Hid (xs.length ≤ L) := by show _ ≤ _; omega
 obtain ⟨i0, hi, hz0, hz1, hz2⟩ := info_parts Tryz.infoW
 clear h hs hv hN hL hNL
 go_enter Tryz.func238, Tryz.ntmps238
 go_wp2_with fail
 go_loopw [1, 6] (fun av p wr => PlA N L w av p wr) (fun _ p _ => 2 * L + 2 - lenOf p)
 case atStart => exact ⟨0, xs, HV.out, HN0.out, HLL.out, World.ownsRow_nil _ _ _ _, Below.refl _ _, .inl rfl⟩
 clear HV HN0 HLL
 case round =>
  obtain ⟨k, xs, hrd, hval, hxl, hown, hbl, hk⟩ := hrel
  obtain ⟨b, hb⟩ : ∃ b, b = bitsN xs := ⟨_, rfl⟩
  have HRD := Lib.hid hrd
  have HVAL := Lib.hid hval
  have HOWN := Lib.hid hown
  have HBL := Lib.hid hbl
  have HK := Lib.hid hk
  have hb0 := bitsN_zero xs hrd.ok
  rw [← hb] at hb0
  have HB := Lib.hid hb
  have HB0 := Lib.hid hb0
  have hlenp := own_lenOf hown
  have HLP := Lib.hid hlenp
  clear hrd hval hown hbl hk hb hb0 hlenp
  by_cases hz : b = 0
  ·have hbz : decide (0 < b) = false := by simp; omega
   have HZ : Hid (N / UU ^ k = 0) := by show _ = _; rw [← HVAL.out]; exact HB0.out.1 hz
   obtain ⟨po, pcap, rfl, hpc, hpm, hpsh⟩ := ownsRow_shape HOWN.out
   have hkL : k ≤ 2 * L + 1 := by
    rcases HK.out with h | h
    ·omega
    ·have := prt_count HNL.out h
     omega
   have HPS := Lib.hid hpsh
   have HPM := Lib.hid hpm
   obtain ⟨wh, hwh⟩ : ∃ wh : Int, wh = ((k : Int) - 1) * 19 := ⟨_, rfl⟩
   obtain ⟨k19, hk19⟩ : ∃ k19, k19 = 19 * k := ⟨_, rfl⟩
   have E1 : ((k : Int) - 1) * 19 = wh := hwh.symm
   have E2 : wh + 19 = (k19 : Int) := by omega
   have E3 : max (k19 : Int) 0 = (k19 : Int) := by omega
   have hwhb : wh ≤ 20890720927744 ∧ -19 ≤ wh := by omega
   obtain ⟨hwhb1, hwhb2⟩ := hwhb
   have HS2 := Lib.hid (HS.out.below HBL.out)
   have HSG2 := Lib.hid (HSG.out.below HBL.out hsz)
   have hR5 := HS2.out.lt
   have c1 := HS2.out.cell.2.1
   have HWH := Lib.hid hwh
   have HK19 := Lib.hid hk19
   have hpar : ∀ q, (Value.slice po k pcap).ownBlock = some q → q ≠ R ∧ ov.ownBlock ≠ some q := fun q hq => by
    have h1 := HOWN.out.lt q hq
    refine ⟨by omega, fun e => ?_⟩
    have := HS.out.ne q e
    omega
   have HPAR := Lib.hid hpar
   obtain ⟨w5, hw5⟩ : ∃ w5, w5 = wr := ⟨_, rfl⟩
   have hkb : k19 ≤ 20890720927744 := by omega
   clear hz hpsh hpm hwh hk19 hpar
   go_wp2_with fail
   refine (bitLen_any _ xs _ HRD.out (by omega)).mono ?_
   rintro e w' ⟨rfl, rfl⟩
   rw [← HB.out]
   go_wp2_with fail
   have HW5 := Lib.hid hw5
   clear hw5 c1
   go_loopw [11] (fun nv wr => PlB R pv ov.ownBlock out k19 width w5 nv wr) (fun nv _ => (intOf nv).toNat)
   case atStart => exact ⟨width, rfl, Nat.le_refl _, Nat.min_le_left _ _, ov, by rw [Nat.sub_self]; simpa using (HW5.out ▸ HS2.out), by rw [HW5.out]; exact Wr.refl _ _ _, Mv.refl _ _⟩
   case round =>
    rename_i wr2 _
    obtain ⟨n, rfl, hnw, hmn, ov2, hws, hwr2, hmv⟩ := hrel
    have HWS := Lib.hid hws
    have HWR := Lib.hid hwr2
    have HMV := Lib.hid hmv
    have c1 := hws.cell.2.1
    have c4 := hws.cell.2.2.2.2.1
    have c5 := hws.cell.2.2.2.2.2
    clear hws hwr2 hmv
    obtain ⟨j0, hj0, hk0, hk1, hk2⟩ := info_parts Tryz.infoU8d
    have HA := Lib.hid (below_alloc wr (.cells #[.int .u8 48] 5))
    have HWA := Lib.hid (HWS.out.below HA.out)
    have HLT : Hid (R < (wr.alloc (.cells #[.int .u8 48] 5)).heap.size) := HWA.out.lt
    have HNE : Hid (some R ≠ ov2.ownBlock) := fun e => by have := HWA.out.ne R e.symm; omega
    have ca4 := HWA.out.cell.2.2.2.2.1
    have ca5 := HWA.out.cell.2.2.2.2.2
    have CA4 := Lib.hid ca4
    have CA5 := Lib.hid ca5
    have hll : (out ++ (List.replicate (width - n) 0).map sgn).length ≤ 549755813888 := by rw [List.length_append, List.length_map, List.length_replicate]; omega
    obtain ⟨l0, hl0⟩ : ∃ l0, l0 = out ++ (List.replicate (width - n) 0).map sgn := ⟨_, rfl⟩
    rw [← hl0] at hll HWS HWA
    have HL0 := Lib.hid hl0
    clear ca4 ca5 hl0
    by_cases hgt : k19 < n
    ·go_wp2_with (at_builtin; refine wpList_append_lies _ rfl _ _ 88 rfl (R + 1) 5 j0 (.int .u8 0) 1 1 Tryz.underlying88 hj0 hk0 hk1 hk2 rfl (by omega) ov2 l0.length (u8s l0) rfl HWA.out.own ⟨wr.heap.size, 0, none⟩ 1 1 [.int .u8 48] rfl rfl (LexP.cells_new _ _ _ _ rfl) (by simp [Value.oneCell']) (by omega) (by unfold maxLen; omega) (by omega) (by have := HLT.out; simp at this; simp; omega) (wr.heap.size + 1) (by simp) ?_)
     intro gg cap w2 hown2 hgrow hat hlt2
     have d4 : w2.cell? ⟨R, 4, none⟩ = some ov2 := (hgrow.cell_far ⟨R, 4, none⟩ HLT.out HNE.out).trans CA4.out
     have d5 : w2.frozen? ⟨R, 4, none⟩ = false := (hgrow.frozen_far ⟨R, 4, none⟩ HLT.out HNE.out).trans CA5.out
     have HG := Lib.hid (HWA.out.grow (l := [48]) hown2 (by simp) hgrow (by simpa using hat))
     clear hown2 hgrow hat hlt2
     go_wp2_with fail
     have hfin : PlB R pv ov.ownBlock out k19 width w5 (.int .i64 ((n : Int) - 1)) (w2.setCell ⟨R, 4, none⟩ (.slice (some ⟨gg, 0, none⟩) (l0.length + 1) cap)) := by
      refine ⟨n - 1, by congr 1; omega, by omega, by omega, ?_⟩
      have e : out ++ (List.replicate (width - (n - 1)) 0).map sgn = l0 ++ [48] := by
       rw [HL0.out, show width - (n - 1) = width - n + 1 from by omega, List.replicate_succ', List.map_append, ← List.append_assoc]; rfl
      rw [e]
      exact PlO.push HWR.out HMV.out HA.out HG.out.1 HG.out.2.1 HG.out.2.2
     first | exact ⟨hfin, by simp [intOf] <;> omega⟩ | exact ⟨by (repeat apply Exists.intro); exact ⟨hfin, rfl⟩, by simp [intOf] <;> omega⟩
    ·have hn : width - n = width - 19 * k := by have := HK19.out; omega
     have HN19 := Lib.hid hn
     clear hn
     go_wp2_with fail
     go_loopw [12] (fun nv wr => PlC R pv ov.ownBlock out N k width w5 nv wr) (fun nv _ => (intOf nv + 1).toNat)
     case atStart =>
      refine ⟨k, rfl, Nat.le_refl _, ov2, ?_, HWR.out, HMV.out⟩
      have e : out ++ (pad (N / UU ^ k) (width - 19 * k)).map sgn = l0 := by rw [HL0.out, HZ.out, pad_zero, HN19.out]
      rw [e]; exact HWS.out
     clear HWR HMV HWS HWA HL0 HN19 HA HLT HNE CA4 CA5 c1 c4 c5 hll hgt hmn
     case round =>
      rename_i wr3 _
      obtain ⟨j, rfl, hjk, ov3, hws, hwr3, hmv⟩ := hrel
      have HWS := Lib.hid hws
      have HWR := Lib.hid hwr3
      have HMV := Lib.hid hmv
      clear hws hwr3 hmv
      cases j with
      | zero =>
       have hge : ¬ ((0 : Int) ≤ ((0 : Nat) : Int) - 1) := by omega
       go_wp2_with fail
       go_end0
       have hfull := HWS.out
       rw [Nat.pow_zero, Nat.div_one, Nat.mul_zero, Nat.sub_zero] at hfull
       refine ⟨ov3, rfl, hfull, ?_, ?_⟩
       ·rw [HW5.out] at HWR
        exact (Wr.of_below HBL.out).trans (Mv.refl _ _) HWR.out
       ·rw [HW5.out] at HMV
        exact fun q hq => (HMV.out q hq).imp id (fun h => Nat.le_trans HBL.out.size h)
      | succ i =>
       have hkk : (((i + 1 : Nat) : Int) - 1) = (i : Int) := by omega
       rw [hkk]
       clear hkk
       have c1 := HWS.out.cell.2.1
       obtain ⟨g, hg, hgb, hgl, hgc⟩ := HPS.out (by omega)
       subst hg
       obtain ⟨hpR, hpo⟩ := HPAR.out g rfl
       obtain ⟨x, hx⟩ : ∃ x, x = prt N i := ⟨_, rfl⟩
       have cp : wr.cell? ⟨g, i, none⟩ = some (.int .u64 (x : Nat)) := by
        have e1 : w5.cell? ⟨g, i, none⟩ = some (.int .u64 (x : Nat)) := by
         rw [HW5.out, hgc i (by omega), hx]; exact ws_at (prts_at (by omega))
        rw [← e1]
        exact World.cell?_of_block (HWR.out.block g (by rw [HW5.out]; exact hgl) hpR (fun e => hpo e.symm))
       have hxb : x < BB := by rw [hx]; exact Nat.lt_trans (prt_lt _ _) UU_lt
       have HSG3 : Hid (SG wr) := by
        have h5 : SG w5 := by rw [HW5.out]; exact HSG2.out
        have hbig := HS.out.big
        exact h5.wr HWR.out (by omega) (fun e => by have := HS.out.ne _ e; omega)
       have hi0' : (0 : Int) ≤ (i : Int) := Int.natCast_nonneg _
       have hi1 : (i : Int) < (k : Int) := by omega
       obtain ⟨l3, hl3⟩ : ∃ l3, l3 = out ++ (pad (N / UU ^ (i + 1)) (width - 19 * (i + 1))).map sgn := ⟨_, rfl⟩
       rw [← hl3] at HWS
       have hl3b : l3.length ≤ 1099511627776 := by
        have h1 : N / UU ^ (i + 1) < BB ^ L := Nat.lt_of_le_of_lt (Nat.div_le_self _ _) HNL.out
        have h2 := dg_len_BB h1
        rw [hl3, List.length_append, List.length_map, pad_len]; omega
       have HL3 := Lib.hid hl3
       have HX := Lib.hid hx
       have HXB := Lib.hid hxb
       by_cases htop : i + 1 = k
       ·have htb : ((i : Int) == (k : Int) - 1) = true := by simp; omega
        obtain ⟨wd, hwd⟩ : ∃ wd : Int, wd = (width : Int) - wh := ⟨_, rfl⟩
        have E4 : (width : Int) - wh = wd := hwd.symm
        obtain ⟨m1, hm1⟩ : ∃ m1, m1 = width - 19 * i := ⟨_, rfl⟩
        obtain ⟨m2, hm2⟩ : ∃ m2, m2 = min m1 19 := ⟨_, rfl⟩
        have hwh := HWH.out
        have E5 : max wd 0 = (m1 : Int) := by omega
        have E6 : min (m1 : Int) 19 = (m2 : Int) := by omega
        have hm19 : m2 ≤ 19 := by omega
        have hx0 : 0 < x := by
         rcases HK.out with h | h
         ·omega
         ·rw [show k - 1 = i from by omega] at h
          have e := prt_split N i
          have hzz := HZ.out
          rw [← htop] at hzz
          rw [hzz, Nat.zero_mul, Nat.zero_add] at e
          rw [hx, ← e]; exact h
        have HNEW : Hid (l3 ++ (pad x m2).map sgn = out ++ (pad (N / UU ^ i) (width - 19 * i)).map sgn) := by
         show _ = _
         have hzz := HZ.out
         rw [← htop] at hzz
         rw [hl3, hx, hm2, hm1, pad_top hzz, List.map_append, List.append_assoc]
        clear hx hxb hl3 htop hwd hm1 hm2 hgc hpo hpR hwh
        go_wp2_with fail
        refine (wword_any R x m2 pv ov3 l3 _ HWS.out HSG3.out HXB.out hm19 (.inl hx0) hl3b).mono ?_
        rintro e w8 ⟨ov4, rfl, r1, r2, r3⟩
        rw [HNEW.out] at r1
        have hfin : PlC R pv ov.ownBlock out N k width w5 (.int .i64 ((i : Int) - 1)) w8 := ⟨i, rfl, by omega, ov4, r1, HWR.out.trans HMV.out r2, Mv.trans (R := R) (w' := wr) HMV.out HWR.out.size r3⟩
        have HFIN := Lib.hid hfin
        clear r1 r2 r3 hfin
        go_wp2_with fail
        first | exact ⟨HFIN.out, by simp [intOf] <;> omega⟩ | exact ⟨by (repeat apply Exists.intro); exact ⟨HFIN.out, rfl⟩, by simp [intOf] <;> omega⟩
       ·have htb : ((i : Int) == (k : Int) - 1) = false := by simp; omega
        have HNEW : Hid (l3 ++ (pad x 19).map sgn = out ++ (pad (N / UU ^ i) (width - 19 * i)).map sgn) := by
         show _ = _
         have hpos : 0 < N / UU ^ (i + 1) := by
          rcases HK.out with h | h
          ·omega
          ·refine Nat.lt_of_lt_of_le h (Nat.div_le_div_left (Nat.pow_le_pow_right UU_pos (by omega)) (Nat.pow_pos UU_pos))
         rw [hl3, hx, pad_mid hpos, List.map_append, List.append_assoc]
        clear hx hxb hl3 htop hgc hpo hpR
        go_wp2_with fail
        refine (wword_any R x 19 pv ov3 l3 _ HWS.out HSG3.out HXB.out (Nat.le_refl _) (.inr (by omega)) hl3b).mono ?_
        rintro e w8 ⟨ov4, rfl, r1, r2, r3⟩
        rw [HNEW.out] at r1
        have hfin : PlC R pv ov.ownBlock out N k width w5 (.int .i64 ((i : Int) - 1)) w8 := ⟨i, rfl, by omega, ov4, r1, HWR.out.trans HMV.out r2, Mv.trans (R := R) (w' := wr) HMV.out HWR.out.size r3⟩
        have HFIN := Lib.hid hfin
        clear r1 r2 r3 hfin
        go_wp2_with fail
        first | exact ⟨HFIN.out, by simp [intOf] <;> omega⟩ | exact ⟨by (repeat apply Exists.intro); exact ⟨HFIN.out, rfl⟩, by simp [intOf] <;> omega⟩
  ·have hbz : (0 : Int) < (b : Int) := by omega
   have HZ : Hid (0 < N / UU ^ k) := by show _ < _; rw [← HVAL.out]; exact Nat.pos_of_ne_zero fun h => hz (HB0.out.2 h)
   have HKL := Lib.hid (prt_count HNL.out HZ.out)
   obtain ⟨U, hU⟩ : ∃ U, U = UU := ⟨_, rfl⟩
   have HS2 := HS.out.below HBL.out
   have c2 : wr.cell? ⟨R, 2, none⟩ = some (.int .u64 (U : Nat)) := by rw [hU]; exact HS2.cell.2.2.1
   have HU := Lib.hid hU
   clear hz hU HS2
   go_wp2_with fail
   refine (bitLen_any _ xs _ HRD.out (by omega)).mono ?_
   rintro e w' ⟨rfl, rfl⟩
   rw [← HB.out]
   go_wp2_with fail
   refine (divWord_any _ xs U _ HRD.out (by omega) (by rw [HU.out]; exact UU_pos) (by rw [HU.out]; exact UU_lt)).mono ?_
   rintro e w3 ⟨qv, qs, rfl, q1, q2, q3, q4, q5⟩
   obtain ⟨r, hr⟩ : ∃ r, r = val xs % U := ⟨_, rfl⟩
   rw [← hr]
   have HR : Hid (r = prt N k) := by show _ = _; rw [hr, HVAL.out, HU.out]; rfl
   have HQ : Hid (val qs = N / UU ^ (k + 1)) := by show _ = _; rw [q2, HVAL.out, HU.out, prt_next]
   have Q1 := Lib.hid q1
   have HQL : Hid (qs.length ≤ L) := by show _ ≤ _; omega
   have HBL3 : Hid (Below w.heap.size w w3) := HBL.out.trans (q5.mono HBL.out.size)
   have HOWN3 := Lib.hid (ownsRow_below HOWN.out q5 (Nat.le_refl _))
   have hz3 := HBL3.out.size
   have hzw := q5.size
   have hkb : k ≤ 549755813888 := by have := HKL.out; omega
   clear q1 q2 q3 q4 q5 hr c2
   go_wp2_with (at_builtin; refine wpList_append_own_at _ rfl _ _ 59 rfl w.heap.size 101 i0 (.int .u64 0) 1 8 Tryz.underlying59 hi hz0 hz1 hz2 rfl (by decide) _ _ _ rfl (World.ownsRow.alloc HOWN3.out _) ⟨w3.heap.size, 0, none⟩ 1 1 [.int .u64 (r : Nat)] rfl rfl (LexP.cells_new _ _ _ _ rfl) (by simp [Value.oneCell']) (by unfold maxLen; omega) (by omega) (by simp; omega) ?_)
   intro v4 w4 hown4 hgrow4 _ hbk4
   have HO4 : Hid (w4.ownsRow w.heap.size 101 1 v4 (k + 1) (ws (prts N (k + 1)))) := by
    have e : ws (prts N (k + 1)) = ws (prts N k) ++ [.int .u64 (r : Nat)] := by rw [prts_succ, HR.out]; simp [ws]
    show World.ownsRow _ _ _ _ _ _ _
    rw [e]; exact hown4
   have HB4 : Hid (Below w.heap.size w w4) := Below.grown (HBL3.out.alloc hz3 _) hgrow4 (by simp; omega) (fun q hq => (World.ownsRow.lt HOWN3.out q hq).1)
   have HR4 : Hid (Rd w4 qv qs) := Rd.kept (Q1.out.1.alloc _) hgrow4 (fun q hq e => by
    have h1 := (Q1.out.2 q e).1
    have h2 := (HOWN.out.lt q hq).2
    omega)
   clear hown4 hgrow4 hbk4
   go_wp2_with fail
   have hfin : PlA N L w qv v4 w4 := ⟨k + 1, qs, HR4.out, HQ.out, HQL.out, HO4.out, HB4.out, .inr (by rw [Nat.add_sub_cancel]; exact HZ.out)⟩
   have hl4 := own_lenOf HO4.out
   have hlp := HLP.out
   have hkl := HKL.out
   first | exact ⟨hfin, by omega⟩ | exact ⟨by (repeat apply Exists.intro); exact ⟨hfin, rfl⟩, by omega⟩
end Go.Proofs.YtgfmiladfeoldaaGreatDoor
