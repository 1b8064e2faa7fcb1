/- Joined texts of this claim's proof: ZintW, TxtM, GridW, MatTW, CpxTW, LexW1, LexDec. -/
import Derived.Test.YtceggplnggkdnaaGreatDoorPk10
import Derived.Test.YtceggplnggkdnaaGreatDoorPk2
import Derived.Test.YtceggplnggkdnaaGreatDoorPk4
import Derived.Test.YtceggplnggkdnaaGreatDoorPk1
import Derived.WalkKit
import Derived.WalkSpells
import Derived.WalkLawsBesides
import Derived.Lib.Hide
import Derived.Test.YtceggplnggkdnaaGreatDoorPk3
set_option linter.unusedSimpArgs false
set_option linter.unusedVariables false
namespace Go.Proofs.YtceggplnggkdnaaGreatDoor
open Go.RowKit NatP LexP
def signI (neg : Bool) (n : Nat) : Int := if n = 0 then 0 else if neg then -1 else 1
set_option maxRecDepth 100000 in
theorem sign_zint (neg : Bool) (v : Value) (xs : List Nat) (w : World) (hv : Rd w v xs) (hl : xs.length ≤ 1099511627776) :
  Calls Tryz.prog 172 #[.agg #[.bool neg, v]] w fun e w' => e = .returned (.int .i64 (signI neg (val xs))) ∧ Below w.heap.size w w' := by
 have HV := Lib.hid hv
 obtain ⟨ao, cap, rfl, -, -, hok, -⟩ := hv.2
 have HA := Lib.hid (below_alloc w (.cells #[.bool neg, .slice ao xs.length cap] 115))
 have HVA := Lib.hid (HV.out.below HA.out)
 have hb0 := bitsN_zero xs hok
 obtain ⟨b, hb⟩ : ∃ b, b = bitsN xs := ⟨_, rfl⟩
 rw [← hb] at hb0
 have HB := Lib.hid hb
 clear hv hok hb
 by_cases h0 : b = 0
 ·have hz : ((b : Int) == 0) = true := by simp [h0]
  have HR : Hid (signI neg (val xs) = 0) := by
   show _ = _
   unfold signI; rw [if_pos (hb0.1 h0)]
  clear hb0 h0
  go_enter Tryz.func172, Tryz.ntmps172
  go_wp2_with fail
  refine (bitLen_any _ xs _ HVA.out hl).mono ?_
  rintro e w1 ⟨rfl, rfl⟩
  rw [← HB.out]
  go_wp2_with fail
  go_ret
  exact ⟨by rw [HR.out]; rfl, HA.out⟩
 ·have hz : ((b : Int) == 0) = false := by simp [h0]
  have hne : ¬ val xs = 0 := fun e => h0 (hb0.2 e)
  have HR : Hid (signI neg (val xs) = if neg then -1 else 1) := by
   show _ = _
   unfold signI; rw [if_neg hne]
  clear hb0 h0 hne
  cases neg with
  | true =>
   go_enter Tryz.func172, Tryz.ntmps172
   go_wp2_with fail
   refine (bitLen_any _ xs _ HVA.out hl).mono ?_
   rintro e w1 ⟨rfl, rfl⟩
   rw [← HB.out]
   go_wp2_with fail
   go_ret
   exact ⟨by rw [HR.out]; rfl, HA.out⟩
  | false =>
   go_enter Tryz.func172, Tryz.ntmps172
   go_wp2_with fail
   refine (bitLen_any _ xs _ HVA.out hl).mono ?_
   rintro e w1 ⟨rfl, rfl⟩
   rw [← HB.out]
   go_wp2_with fail
   go_ret
   exact ⟨by rw [HR.out]; rfl, HA.out⟩
theorem decTx_eq : decTx = SynP.decT := rfl
theorem ba_app (a b : Array UInt8) : (⟨a⟩ : ByteArray) ++ ⟨b⟩ = ⟨a ++ b⟩ := by
 apply ByteArray.ext
 simp
theorem decTx_len {xs : List Nat} (hl : xs.length ≤ 8589934592) (hok : ok xs) : (decTx (val xs)).length ≤ 274877906944 := by
 unfold decTx
 split
 ·simp
 ·have := dg_len_BB (val_lt hok)
  rw [List.length_map]; omega
def intTx (neg : Bool) (n : Nat) : Bytes := if neg = true ∧ n ≠ 0 then 45 :: decTx n else decTx n
def IntTxPost (neg : Bool) (n : Nat) (w : World) (e : Ending) (w' : World) : Prop := e = .returned (.string ⟨(intTx neg n).toArray⟩) ∧ Below w.heap.size w w'
set_option maxRecDepth 100000 in
theorem text_zint (neg : Bool) (v : Value) (xs : List Nat) (w : World) (hs : SG w) (hv : Rd w v xs) (hl : xs.length ≤ 8589934592) :
  Calls Tryz.prog 81 #[.agg #[.bool neg, v]] w (IntTxPost neg (val xs) w) := by
 have HV := Lib.hid hv
 have HSG := Lib.hid hs
 have hsz : 6 < w.heap.size := World.block_lt_of_cell? w _ (hs 0 (by omega))
 obtain ⟨ao, cap, rfl, -, -, hok, -⟩ := hv.2
 have HA := Lib.hid (below_alloc w (.cells #[.bool neg, .slice ao xs.length cap] 115))
 have HVA := Lib.hid (HV.out.below HA.out)
 have HSA := Lib.hid (HSG.out.below HA.out hsz)
 have hc0 : (w.alloc (.cells #[.bool neg, .slice ao xs.length cap] 115)).cell? ⟨w.heap.size, 0, none⟩ = some (.bool neg) := by rw [World.cell?_alloc_at _ _ _ _ rfl]; rfl
 have hc1 : (w.alloc (.cells #[.bool neg, .slice ao xs.length cap] 115)).cell? ⟨w.heap.size, 1, none⟩ = some (.slice ao xs.length cap) := by rw [World.cell?_alloc_at _ _ _ _ rfl]; rfl
 have HC0 := Lib.hid hc0
 have HC1 := Lib.hid hc1
 have hok2 := hok
 clear hv hok hs hc0 hc1
 by_cases h0 : neg = true ∧ val xs ≠ 0
 ·have hn : signI neg (val xs) = -1 := by unfold signI; rw [if_neg h0.2, if_pos h0.1]
  have HR : Hid (intTx neg (val xs) = 45 :: decTx (val xs)) := by show _ = _; unfold intTx; rw [if_pos h0]
  have HN := Lib.hid hn
  have hcat : ¬ 9223372036854775807 < 1 + (decTx (val xs)).length := by
   have := decTx_len hl hok2
   omega
  clear h0 hn hok2
  go_enter Tryz.func81, Tryz.ntmps81
  go_wp2_with fail
  refine (dec_any _ xs _ HSA.out HVA.out hl).mono ?_
  rintro e w1 ⟨rfl, hb1⟩
  have HB1 := Lib.hid hb1
  have d0 := (hb1.cell (p := ⟨w.heap.size, 0, none⟩) (by simp)).trans HC0.out
  have d1 := (hb1.cell (p := ⟨w.heap.size, 1, none⟩) (by simp)).trans HC1.out
  clear hb1
  go_wp2_with fail
  refine (sign_zint neg _ xs _ (HVA.out.below HB1.out) (by omega)).mono ?_
  rintro e w2 ⟨rfl, hb2⟩
  rw [HN.out]
  have HB2 := Lib.hid hb2
  clear hb2
  go_wp2_with fail
  go_ret
  refine ⟨?_, (HA.out.trans (HB1.out.mono (by simp))).trans (HB2.out.mono ((HA.out.trans (HB1.out.mono (by simp))).size))⟩
  rw [HR.out]
  show Ending.returned (.string ((⟨#[45]⟩ : ByteArray) ++ ⟨(decTx (val xs)).toArray⟩)) = _
  rw [ba_app]
  simp
 ·have hn : 0 ≤ signI neg (val xs) := by
   unfold signI
   split
   ·omega
   ·split
    ·rename_i h1 h2; exact absurd ⟨h2, h1⟩ h0
    ·omega
  have HR : Hid (intTx neg (val xs) = decTx (val xs)) := by show _ = _; unfold intTx; rw [if_neg h0]
  obtain ⟨k, hk⟩ : ∃ k, k = signI neg (val xs) := ⟨_, rfl⟩
  rw [← hk] at hn
  have HK := Lib.hid hk
  have hkb : decide (k < 0) = false := by simp; omega
  clear h0 hn hk
  go_enter Tryz.func81, Tryz.ntmps81
  go_wp2_with fail
  refine (dec_any _ xs _ HSA.out HVA.out hl).mono ?_
  rintro e w1 ⟨rfl, hb1⟩
  have HB1 := Lib.hid hb1
  have d0 := (hb1.cell (p := ⟨w.heap.size, 0, none⟩) (by simp)).trans HC0.out
  have d1 := (hb1.cell (p := ⟨w.heap.size, 1, none⟩) (by simp)).trans HC1.out
  clear hb1
  go_wp2_with fail
  refine (sign_zint neg _ xs _ (HVA.out.below HB1.out) (by omega)).mono ?_
  rintro e w2 ⟨rfl, hb2⟩
  rw [← HK.out]
  have HB2 := Lib.hid hb2
  clear hb2
  go_wp2_with fail
  go_ret
  refine ⟨?_, (HA.out.trans (HB1.out.mono (by simp))).trans (HB2.out.mono ((HA.out.trans (HB1.out.mono (by simp))).size))⟩
  rw [HR.out]; rfl
set_option maxRecDepth 100000 in
theorem of_zint (v : Value) (xs : List Nat) (w : World) (hv : Rd w v xs) :
  Calls Tryz.prog 192 #[.bool false, v] w fun e w' => e = .returned (.agg #[.bool false, v]) ∧ Below w.heap.size w w' := by
 have HV := Lib.hid hv
 obtain ⟨ao, cap, rfl, -, -, hok, -⟩ := hv.2
 clear hv hok
 go_enter Tryz.func192, Tryz.ntmps192
 go_wp2_with fail
 refine bodyPost_ret (results_cell_row rfl _ _ w.heap.size 115 _ _ _ rfl (heap_alloc_new w _) Tryz.underlying115 rfl (by kernel_rfl)) rfl ?_
 exact ⟨rfl, below_alloc _ _⟩
set_option maxRecDepth 100000 in
set_option maxHeartbeats 400000 in
theorem Of_zint (n : Nat) (w : World) (hn : n ≤ 64) :
  Calls Tryz.prog 102 #[.int .i64 (n : Nat)] w fun e w' => ∃ v xs, e = .returned (.agg #[.bool false, v]) ∧ Rd w' v xs ∧ val xs = n ∧ xs.length ≤ 1 ∧ Below w.heap.size w w' := by
 go_enter Tryz.func102, Tryz.ntmps102
 have h1 : ¬ ((n : Int) < 0) := by omega
 go_wp2_with fail
 have hblk : Blk ((w.alloc (.cells #[.bool false, .slice none 0 0] 115)).alloc (.cells #[.int .u64 (n : Nat)] 215)) (w.heap.size + 1) [n] := by
  refine ⟨?_, ?_⟩
  ·have := heap_alloc_new (w.alloc (.cells #[.bool false, .slice none 0 0] 115)) (.cells #[.int .u64 (n : Nat)] 215)
   simp only [World.size_alloc] at this
   exact this
  ·intro x hx; simp at hx; subst hx; unfold BB; omega
 have HA := Lib.hid (below_alloc w (.cells #[.bool false, .slice none 0 0] 115))
 have HA2 := Lib.hid (below_alloc (w.alloc (.cells #[.bool false, .slice none 0 0] 115)) (.cells #[.int .u64 (n : Nat)] 215))
 refine (least_blk _ [n] _ (hblk.whole (by simp)) (by simp)).mono ?_
 rintro e w1 ⟨rfl, hB, hb1⟩
 obtain ⟨g, hg⟩ : ∃ g, g = ((w.alloc (.cells #[.bool false, .slice none 0 0] 115)).alloc (.cells #[.int .u64 (n : Nat)] 215)).heap.size := ⟨_, rfl⟩
 rw [← hg] at hB ⊢
 have hgs : g = w.heap.size + 2 := by rw [hg]; simp
 have HGS := Lib.hid hgs
 have HB := Lib.hid hB
 have HB1 := Lib.hid hb1
 clear hB hb1 hblk hg hgs
 obtain ⟨ys, hys⟩ : ∃ ys, ys = strip [n] := ⟨_, rfl⟩
 have hyl : ys.length ≤ 1 := by rw [hys]; exact strip_le [n]
 rw [← hys] at HB ⊢
 have hyv : val ys = n := by rw [hys, val_strip]; simp [NatP.val]
 have HYV := Lib.hid hyv
 clear hys hyv
 go_wp2_with fail
 refine (of_zint _ ys _ (HB.out.whole (by omega))).mono ?_
 rintro e w2 ⟨rfl, hb2⟩
 have HB2 := Lib.hid hb2
 clear hb2
 have d0 : w2.heap[w.heap.size]? = some (.cells #[.bool false, .slice none 0 0] 115 (0, 0)) := by
  have q1 := HA2.out.block w.heap.size (by simp)
  have q2 := HB1.out.block w.heap.size (by simp; omega)
  have q3 := HB2.out.block w.heap.size (by have := HB.out.lt; have := HGS.out; omega)
  rw [q3, q2, q1]; exact heap_alloc_new w _
 have e0 : w2.cell? ⟨w.heap.size, 0, none⟩ = some (.bool false) := (cell_of_row w2 _ _ _ _ _ d0).trans rfl
 have e1 : w2.cell? ⟨w.heap.size, 1, none⟩ = some (.slice none 0 0) := (cell_of_row w2 _ _ _ _ _ d0).trans rfl
 have f0 : w2.frozen? ⟨w.heap.size, 0, none⟩ = false := frozen_of_row w2 _ 0 _ _ d0
 have f1 : w2.frozen? ⟨w.heap.size, 1, none⟩ = false := frozen_of_row w2 _ 1 _ _ d0
 have D0 := Lib.hid d0
 clear d0
 go_wp2_with fail
 have s1 := heap_setCell_same w2 w.heap.size 0 #[.bool false, .slice none 0 0] 115 (.bool false) D0.out
 have s2 := heap_setCell_same (w2.setCell ⟨w.heap.size, 0, none⟩ (.bool false)) w.heap.size 1 _ 115 (.slice (some ⟨g, 0, none⟩) ys.length ys.length) s1
 refine bodyPost_ret (results_cell_row rfl _ _ w.heap.size 115 _ _ _ rfl s2 Tryz.underlying115 rfl (by kernel_rfl)) rfl ?_
 have hw : Below w.heap.size w w2 := (HA.out.trans (HA2.out.mono (by simp))).trans ((HB1.out.mono (by simp; omega)).trans (HB2.out.mono (by have := HB.out.lt; have := HGS.out; omega)))
 have hr : Wr w.heap.size none w2 ((w2.setCell ⟨w.heap.size, 0, none⟩ (.bool false)).setCell ⟨w.heap.size, 1, none⟩ (.slice (some ⟨g, 0, none⟩) ys.length ys.length)) := (Wr.of_set w2 0 _).trans (Mv.refl _ _) (Wr.of_set _ 1 _)
 refine ⟨_, ys, rfl, ((HB.out.whole (by omega)).below HB2.out).wr hr (fun k hk => by cases hk; have := HGS.out; exact ⟨by show g ≠ w.heap.size; omega, by simp⟩), HYV.out, hyl, hr.to_below hw hw.size (Nat.le_refl _) (fun k hk => by cases hk)⟩
end Go.Proofs.YtceggplnggkdnaaGreatDoor
namespace Go.Proofs.YtceggplnggkdnaaGreatDoor
open Go.RowKit NatP LexP
def sts (l : List Bytes) : List Value := l.map fun b => .string ⟨b.toArray⟩
theorem sts_len (l : List Bytes) : (sts l).length = l.length := by simp [sts]
theorem sts_app (a b : List Bytes) : sts (a ++ b) = sts a ++ sts b := by simp [sts]
theorem Tryz.infoSt : (Tryz.prog.info? 9).map (fun i => (i.zero, i.size, i.bytes)) = some (some (.string ⟨#[]⟩), 1, 16) := by kernel_rfl
theorem join_eq (sep : Bytes) : ∀ l : List Bytes, Lib.join l sep = SynP.joinB sep l
 | [] => rfl
 | [a] => by rw [Lib.join_one]; rfl
 | a :: b :: l => by
  have h := join_eq sep (b :: l)
  rw [Lib.join_cons] at h ⊢
  show a ++ Lib.joinTail sep (b :: l) = a ++ sep ++ SynP.joinB sep (b :: l)
  rw [← h]
  simp [Lib.joinTail]
def StrPost (l : Bytes) (w : World) (e : Ending) (w' : World) : Prop := e = .returned (.string ⟨l.toArray⟩) ∧ Below w.heap.size w w'
def SS (w : World) (v : Value) (l : List Bytes) : Prop := ∃ ao cap, v = .slice ao l.length cap ∧ l.length ≤ cap ∧ cap ≤ maxLen ∧ (0 < l.length → ∃ g o, ao = some ⟨g, o, none⟩ ∧ g < w.heap.size ∧ ∀ j b, l[j]? = some b → w.cell? ⟨g, o + j, none⟩ = some (.string ⟨b.toArray⟩))
theorem SS.of_row {w : World} {B n : Nat} {v : Value} {l : List Bytes} (h : w.ownsRow B 9 1 v n (sts l)) : SS w v l := by
 have hn : l.length = n := by have := h.1; rw [sts_len] at this; omega
 obtain ⟨ao, cap, e, h1, h2, h3⟩ := ownsRow_shape h
 refine ⟨ao, cap, by rw [hn]; exact e, by omega, h2, fun h0 => ?_⟩
 obtain ⟨g, rfl, a1, a2, a3⟩ := h3 (by omega)
 refine ⟨g, 0, rfl, a2, fun j b hj => ?_⟩
 have hjl := (List.getElem?_eq_some_iff.1 hj).1
 rw [Nat.zero_add, a3 j (by omega)]
 simp [sts, hj]
theorem SS.below {w w' : World} {v : Value} {l : List Bytes} (h : SS w v l) (hb : Below w.heap.size w w') : SS w' v l := by
 obtain ⟨ao, cap, e, h1, h2, h3⟩ := h
 refine ⟨ao, cap, e, h1, h2, fun h0 => ?_⟩
 obtain ⟨g, o, rfl, a2, a3⟩ := h3 h0
 exact ⟨g, o, rfl, Nat.lt_of_lt_of_le a2 hb.size, fun j b hj => (hb.cell (p := ⟨g, o + j, none⟩) a2).trans (a3 j b hj)⟩
theorem join_ss (v : Value) (l : List Bytes) (sep : ByteArray) (w : World) (h : SS w v l) (hN : l.length ≤ 140737488355328) (hl : (SynP.joinB sep.data.toList l).length ≤ 140737488355328) :
  Calls Tryz.prog 173 #[v, .string sep] w (StrPost (SynP.joinB sep.data.toList l) w) := by
 obtain ⟨ao, cap, rfl, h1, h2, h3⟩ := h
 by_cases h0 : 0 < l.length
 ·obtain ⟨g, o, rfl, a2, a3⟩ := h3 h0
  have hm : (l.map fun b => (⟨b.toArray⟩ : ByteArray)).map (·.data.toList) = l := by
   rw [List.map_map]
   conv => rhs; rw [← List.map_id l]
   exact List.map_congr_left fun b _ => rfl
  have := Tryz.strings_Join g o cap (l.map fun b => ⟨b.toArray⟩) sep w (fun j x hj => by
   rw [List.getElem?_map, Option.map_eq_some_iff] at hj
   obtain ⟨b, hb, rfl⟩ := hj
   exact a3 j b hb) a2 (by rw [List.length_map]; exact hN) (by rw [List.length_map]; exact h1) (by rw [hm, join_eq]; exact hl)
  rw [List.length_map, hm, join_eq] at this
  exact this.mono fun e w' h => h
 ·have e : l = [] := List.eq_nil_of_length_eq_zero (by omega)
  subst e
  exact (Tryz.strings_Join_none ao cap sep w).mono fun e w' ⟨a, b⟩ => ⟨a, by rw [b]; exact Below.refl _ _⟩
set_option maxRecDepth 100000 in
theorem mside (n : Nat) (w : World) (hn : n ≤ 4611686018427387904) :
  Calls Tryz.prog 170 #[.int .i64 (n : Nat)] w fun e w' => e = .returned (.bool (decide (n ≤ 64))) ∧ w = w' := by
 have h1 : decide (0 ≤ (n : Int)) = true := by simp
 have h2 : decide ((n : Int) ≤ 64) = decide (n ≤ 64) := by simp; omega
 go_enter Tryz.func170, Tryz.ntmps170
 go_wp2_with fail
 go_ret
 exact ⟨rfl, rfl⟩
set_option maxRecDepth 100000 in
set_option maxHeartbeats 1000000 in
theorem mcheck (r c n cap : Nat) (ao : Option Addr) (w : World) (hr : r ≤ 64) (hc : c ≤ 64) (hn : n = r * c) :
  Calls Tryz.prog 80 #[.agg #[.int .i64 (r : Nat), .int .i64 (c : Nat), .slice ao n cap]] w fun e w' => e = .returned (.int .i64 0) ∧ Below w.heap.size w w' := by
 have HA := Lib.hid (below_alloc w (.cells #[.int .i64 (r : Nat), .int .i64 (c : Nat), .slice ao n cap] 54))
 have hd1 : decide (r ≤ 64) = true := by simp; exact hr
 have hd2 : decide (c ≤ 64) = true := by simp; exact hc
 have hrc : (r : Int) * (c : Int) = (n : Int) := by rw [hn]; exact (Int.natCast_mul r c).symm
 have hnn : n ≤ 4096 := by rw [hn]; exact Nat.mul_le_mul hr hc
 have H1 := Lib.hid hd1
 have H2 := Lib.hid hd2
 clear hn
 go_enter Tryz.func80, Tryz.ntmps80
 go_wp2_with fail
 refine (mside r _ (by omega)).mono ?_
 rintro e w1 ⟨rfl, rfl⟩
 rw [H1.out]
 go_wp2_with fail
 refine (mside c _ (by omega)).mono ?_
 rintro e w1 ⟨rfl, rfl⟩
 rw [H2.out]
 go_wp2_with fail
 go_ret
 exact ⟨rfl, HA.out⟩
end Go.Proofs.YtceggplnggkdnaaGreatDoor
namespace Go.Proofs.YtceggplnggkdnaaGreatDoor
open Go.RowKit NatP LexP
theorem rowsOf_succ {α : Type} (c : Nat) : ∀ (i : Nat) (l : List α), SynP.rowsOf c (i + 1) l = SynP.rowsOf c i l ++ [(l.drop (i * c)).take c]
 | 0, l => by simp [SynP.rowsOf]
 | i + 1, l => by
  have h := rowsOf_succ c i (l.drop c)
  show l.take c :: SynP.rowsOf c (i + 1) (l.drop c) = l.take c :: SynP.rowsOf c i (l.drop c) ++ _
  rw [h, List.drop_drop]
  simp [Nat.succ_mul, Nat.add_comm]
theorem rowsOf_len {α : Type} (c : Nat) : ∀ (i : Nat) (l : List α), (SynP.rowsOf c i l).length = i
 | 0, _ => rfl
 | i + 1, l => by show _ + 1 = _; rw [rowsOf_len c i]
theorem rowsOf_mem {α : Type} (c : Nat) : ∀ (i : Nat) (l X : List α), X ∈ SynP.rowsOf c i l → (∀ b ∈ X, b ∈ l) ∧ X.length ≤ c
 | 0, _, _, h => by cases h
 | i + 1, l, X, h => by
  rcases List.mem_cons.1 h with rfl | h
  ·exact ⟨fun b hb => List.mem_of_mem_take hb, by rw [List.length_take]; omega⟩
  ·have := rowsOf_mem c i (l.drop c) X h
   exact ⟨fun b hb => List.mem_of_mem_drop (this.1 b hb), this.2⟩
theorem joinB_len (sep : Bytes) (M : Nat) : ∀ l : List Bytes, (∀ b ∈ l, b.length ≤ M) → (SynP.joinB sep l).length ≤ l.length * (M + sep.length)
 | [], _ => Nat.zero_le _
 | [a], h => by have := h a (by simp); show a.length ≤ 1 * _; omega
 | a :: b :: l, h => by
  have h1 := joinB_len sep M (b :: l) (fun x hx => h x (List.mem_cons_of_mem _ hx))
  have h2 := h a (by simp)
  show (a ++ sep ++ SynP.joinB sep (b :: l)).length ≤ _
  simp only [List.length_append]
  have e : (a :: b :: l).length = (b :: l).length + 1 := rfl
  rw [e, Nat.succ_mul]
  omega
def gridT (r c : Nat) (l : List Bytes) : Bytes :=
 if l = [] then [91] ++ SynP.decT r ++ [58] ++ SynP.decT c ++ [93]
 else [91] ++ SynP.joinB [59, 32] ((SynP.rowsOf c r l).map (SynP.joinB [32])) ++ [93]
theorem intTx_false (n : Nat) : intTx false n = SynP.decT n := by unfold intTx; simp; rfl
theorem decT_small {n : Nat} (h : n ≤ 64) : (SynP.decT n).length ≤ 20 := by
 have h1 : n < BB ^ 1 := by unfold BB; omega
 have := dg_len_BB h1
 unfold SynP.decT
 split
 ·simp
 ·rw [List.length_map]; omega
set_option maxRecDepth 100000 in
set_option maxHeartbeats 4000000 in
theorem grid_shape (r c cap : Nat) (ao : Option Addr) (w : World) (hs : SG w) (hr : r ≤ 64) (hc : c ≤ 64) :
  Calls Tryz.prog 82 #[.int .i64 (r : Nat), .int .i64 (c : Nat), .slice ao 0 cap] w (StrPost (gridT r c []) w) := by
 have HSG := Lib.hid hs
 have hsz : 6 < w.heap.size := World.block_lt_of_cell? w _ (hs 0 (by omega))
 have q1 := decT_small hr
 have q2 := decT_small hc
 obtain ⟨A, hA⟩ : ∃ A, A = SynP.decT r := ⟨_, rfl⟩
 obtain ⟨B, hB⟩ : ∃ B, B = SynP.decT c := ⟨_, rfl⟩
 rw [← hA] at q1
 rw [← hB] at q2
 have HA := Lib.hid hA
 have HB := Lib.hid hB
 clear hs hA hB
 go_enter Tryz.func82, Tryz.ntmps82
 go_wp2_with fail
 refine (Of_zint r _ hr).mono ?_
 rintro e w1 ⟨v1, xs1, rfl, a1, a2, a3, a4⟩
 have HR1 := Lib.hid a1
 have HV1 := Lib.hid a2
 have HB1 := Lib.hid a4
 clear a1 a2 a4
 go_wp2_with fail
 have hs1 := HSG.out.below HB1.out hsz
 have hsz1 : 6 < w1.heap.size := Nat.lt_of_lt_of_le hsz HB1.out.size
 refine (text_zint false _ xs1 _ hs1 HR1.out (by omega)).mono ?_
 rintro e w2 ⟨rfl, b1⟩
 rw [HV1.out, intTx_false, ← HA.out]
 have HB2 := Lib.hid b1
 have HS2 := Lib.hid (hs1.below b1 hsz1)
 have hsz2 : 6 < w2.heap.size := Nat.lt_of_lt_of_le hsz1 HB2.out.size
 clear b1 hs1
 go_wp2_with fail
 refine (Of_zint c _ hc).mono ?_
 rintro e w3 ⟨v3, xs3, rfl, a1, a2, a5, a4⟩
 have HR3 := Lib.hid a1
 have HV3 := Lib.hid a2
 have HB3 := Lib.hid a4
 clear a1 a2 a4
 go_wp2_with fail
 have hs3 := HS2.out.below HB3.out hsz2
 refine (text_zint false _ xs3 _ hs3 HR3.out (by omega)).mono ?_
 rintro e w4 ⟨rfl, b1⟩
 rw [HV3.out, intTx_false, ← HB.out]
 have HB4 := Lib.hid b1
 clear b1 hs3
 go_wp2_with fail
 go_ret
 have hz1 := HB1.out.size
 have hz2 := HB2.out.size
 have hz3 := HB3.out.size
 refine ⟨?_, ((HB1.out.trans (HB2.out.mono hz1)).trans (HB3.out.mono (Nat.le_trans hz1 hz2))).trans (HB4.out.mono (Nat.le_trans (Nat.le_trans hz1 hz2) hz3))⟩
 have e : gridT r c [] = [91] ++ A ++ [58] ++ B ++ [93] := by rw [HA.out, HB.out]; unfold gridT; rw [if_pos rfl]
 show Ending.returned (.string ((⟨#[91]⟩ : ByteArray) ++ ⟨A.toArray⟩ ++ ⟨#[58]⟩ ++ ⟨B.toArray⟩ ++ ⟨#[93]⟩)) = _
 rw [e, ba_app, ba_app, ba_app, ba_app]
 simp
set_option maxRecDepth 100000 in
set_option maxHeartbeats 4000000 in
theorem grid_rows (r c : Nat) (l : List Bytes) (v : Value) (w : World) (hv : SS w v l) (hl : l ≠ []) (hr : r ≤ 64) (hc : c ≤ 64) (hn : l.length = r * c) (hb : ∀ b ∈ l, b.length ≤ 2147483648) :
  Calls Tryz.prog 82 #[.int .i64 (r : Nat), .int .i64 (c : Nat), v] w (StrPost (gridT r c l) w) := by
 obtain ⟨ao, cap, rfl, h1, h2, h3⟩ := hv
 have hpos : 0 < l.length := List.length_pos_iff.2 hl
 obtain ⟨g, o, rfl, hg, hcell⟩ := h3 hpos
 obtain ⟨n, hnn⟩ : ∃ n, n = l.length := ⟨_, rfl⟩
 rw [← hnn] at h1 hpos hn ⊢
 have hn4 : n ≤ 4096 := by rw [hn]; exact Nat.mul_le_mul hr hc
 have HC := Lib.hid hcell
 have HL := Lib.hid hl
 have HN := Lib.hid hn
 have HNN := Lib.hid hnn
 have HBD := Lib.hid hb
 have hne : ((n : Int) == 0) = false := by simp; omega
 have h2' : cap ≤ 9223372036854775807 := by unfold maxLen at h2; omega
 have HPOS := Lib.hid hpos
 clear hcell hl hn hnn hb h3 hpos
 obtain ⟨i0, hi, hz0, hz1', hz2'⟩ := info_parts Tryz.infoSt
 go_enter Tryz.func82, Tryz.ntmps82
 go_wp2_with fail
 go_loopw [7, 8, 23] (fun lv _ iv wr => ∃ i : Nat, iv = .int .i64 (i : Nat) ∧ i ≤ r ∧ wr.ownsRow w.heap.size 9 1 lv i (sts ((SynP.rowsOf c i l).map (SynP.joinB [32]))) ∧ Below w.heap.size w wr) (fun _ _ iv _ => (r - intOf iv).toNat)
 case atStart => exact ⟨0, rfl, Nat.zero_le _, World.ownsRow_nil _ _ _ _, Below.refl _ _⟩
 case round =>
  obtain ⟨i, rfl, hir, hown, hbl⟩ := hrel
  have HOWN := Lib.hid hown
  have HBL := Lib.hid hbl
  obtain ⟨bo, bcap, rfl, hbc, hbm, hbs⟩ := ownsRow_shape hown
  have HBS := Lib.hid hbs
  clear hown hbl hbs
  by_cases hlt : i < r
  ·obtain ⟨a, ha⟩ : ∃ a, a = i * c := ⟨_, rfl⟩
   have hac : a + c ≤ n := by rw [HN.out, ha, ← Nat.succ_mul]; exact Nat.mul_le_mul (by omega) (Nat.le_refl _)
   have E1 : (i : Int) * (c : Int) = (a : Int) := by rw [ha]; exact (Int.natCast_mul i c).symm
   have E2 : ((i : Int) + 1) * (c : Int) = ((a + c : Nat) : Int) := by rw [Int.add_mul, E1]; omega
   have HAE := Lib.hid ha
   clear ha
   have hc0 : 0 < c := by
    rcases Nat.eq_zero_or_pos c with h | h
    ·subst h; have h1 := HN.out; rw [Nat.mul_zero] at h1; have h2 := HPOS.out; omega
    ·exact h
   have hca : ¬ cap = a := by omega
   obtain ⟨X, hX⟩ : ∃ X, X = (l.drop a).take c := ⟨_, rfl⟩
   have hXl : X.length = c := by rw [hX, List.length_take, List.length_drop, ← HNN.out]; omega
   have HX := Lib.hid hX
   have HXL := Lib.hid hXl
   have hXb : ∀ b ∈ X, b.length ≤ 2147483648 := fun b hb => HBD.out b (List.mem_of_mem_drop (List.mem_of_mem_take (hX ▸ hb)))
   have hss : SS wr (.slice (some ⟨g, o + a, none⟩) c (cap - a)) X := by
    refine ⟨_, _, by rw [hXl], by omega, by omega, fun _ => ⟨g, o + a, rfl, Nat.lt_of_lt_of_le hg HBL.out.size, fun j b hj => ?_⟩⟩
    rw [hX, List.getElem?_take] at hj
    split at hj
    ·rw [List.getElem?_drop] at hj
     rw [Nat.add_assoc]
     exact (HBL.out.cell (p := ⟨g, o + (a + j), none⟩) hg).trans (HC.out (a + j) b hj)
    ·cases hj
   have HSS := Lib.hid hss
   have hjl := joinB_len [32] 2147483648 X hXb
   rw [hXl] at hjl
   have hjl2 : (SynP.joinB [32] X).length ≤ 137438953536 := by
    refine Nat.le_trans hjl (Nat.le_trans (Nat.mul_le_mul hc (Nat.le_refl _)) (by decide))
   have HJL := Lib.hid hjl2
   clear hX hXl hXb hss hjl hjl2
   go_wp2_with fail
   refine (join_ss _ X ⟨#[32]⟩ _ HSS.out (by rw [HXL.out]; omega) (Nat.le_trans HJL.out (by omega))).mono ?_
   rintro e w1 ⟨rfl, hb1⟩
   have HB1 := Lib.hid hb1
   have HO1 := Lib.hid (ownsRow_below HOWN.out hb1 (Nat.le_refl _))
   obtain ⟨J, hJ⟩ : ∃ J, J = SynP.joinB [32] X := ⟨_, rfl⟩
   rw [show SynP.joinB (⟨#[32]⟩ : ByteArray).data.toList X = J from hJ.symm]
   have HJ := Lib.hid hJ
   clear hb1 hJ
   have hz1 := HB1.out.size
   have hz2 := HBL.out.size
   go_wp2_with (at_builtin; refine wpList_append_own_at _ rfl _ _ 28 rfl w.heap.size 9 i0 (.string ⟨#[]⟩) 1 16 Tryz.underlying28 hi hz0 hz1' hz2' rfl (by decide) _ _ _ rfl (World.ownsRow.alloc HO1.out _) ⟨w1.heap.size, 0, none⟩ 1 1 [.string ⟨J.toArray⟩] rfl rfl (LexP.cells_new _ _ _ _ rfl) (by simp [Value.oneCell']) (by unfold maxLen; omega) (by omega) (by simp; omega) ?_)
   intro v4 w4 hown4 hgrow4 _ hbk4
   have hrows : sts ((SynP.rowsOf c (i + 1) l).map (SynP.joinB [32])) = sts ((SynP.rowsOf c i l).map (SynP.joinB [32])) ++ [.string ⟨J.toArray⟩] := by
    rw [rowsOf_succ, List.map_append, sts_app, ← HAE.out, ← HX.out, HJ.out]; rfl
   have HO4 : Hid (w4.ownsRow w.heap.size 9 1 v4 (i + 1) (sts ((SynP.rowsOf c (i + 1) l).map (SynP.joinB [32])))) := by
    show World.ownsRow _ _ _ _ _ _ _
    rw [hrows]; exact hown4
   have HB4 : Hid (Below w.heap.size w w4) := Below.grown ((HBL.out.trans (HB1.out.mono HBL.out.size)).alloc (by omega) _) hgrow4 (by simp; omega) (fun q hq => (World.ownsRow.lt HO1.out q hq).1)
   clear hown4 hgrow4 hbk4 hrows
   go_wp2_with fail
   have hfin : w4.ownsRow w.heap.size 9 1 v4 (i + 1) (sts ((SynP.rowsOf c (i + 1) l).map (SynP.joinB [32]))) ∧ Below w.heap.size w w4 := ⟨HO4.out, HB4.out⟩
   exact ⟨⟨i + 1, rfl, by omega, hfin⟩, by simp [intOf] <;> omega⟩
  ·have hie : i = r := by omega
   subst hie
   have hlb : ∀ b ∈ (SynP.rowsOf c i l).map (SynP.joinB [32]), b.length ≤ 137438953536 := by
    intro b hb
    rw [List.mem_map] at hb
    obtain ⟨X, hX, rfl⟩ := hb
    have h1 := rowsOf_mem c i l X hX
    refine Nat.le_trans (joinB_len [32] 2147483648 X (fun b hb => HBD.out b (h1.1 b hb))) ?_
    refine Nat.le_trans (Nat.mul_le_mul (Nat.le_trans h1.2 hc) (Nat.le_refl _)) (by decide)
   have hjl := joinB_len [59, 32] 137438953536 _ hlb
   rw [List.length_map, rowsOf_len] at hjl
   obtain ⟨T, hT⟩ : ∃ T, T = SynP.joinB [59, 32] ((SynP.rowsOf c i l).map (SynP.joinB [32])) := ⟨_, rfl⟩
   rw [← hT] at hjl
   have hjl2 : T.length ≤ 8796093026432 := by
    refine Nat.le_trans hjl (Nat.le_trans (Nat.mul_le_mul hr (Nat.le_refl _)) (by decide))
   have HT := Lib.hid hT
   clear hjl hlb hT
   go_wp2_with fail
   have hJ := join_ss _ ((SynP.rowsOf c i l).map (SynP.joinB [32])) ⟨#[59, 32]⟩ _ (SS.of_row HOWN.out) (by rw [List.length_map, rowsOf_len]; omega) (by
    show (SynP.joinB [59, 32] _).length ≤ _
    rw [← HT.out]; omega)
   rw [show SynP.joinB (⟨#[59, 32]⟩ : ByteArray).data.toList ((SynP.rowsOf c i l).map (SynP.joinB [32])) = T from HT.out.symm] at hJ
   refine hJ.mono ?_
   rintro e w1 ⟨rfl, hb1⟩
   have HB1 := Lib.hid hb1
   clear hb1 hJ
   go_wp2_with fail
   go_ret
   refine ⟨?_, HBL.out.trans (HB1.out.mono HBL.out.size)⟩
   have e : gridT i c l = [91] ++ T ++ [93] := by rw [HT.out]; unfold gridT; rw [if_neg HL.out]
   show Ending.returned (.string ((⟨#[91]⟩ : ByteArray) ++ ⟨T.toArray⟩ ++ ⟨#[93]⟩)) = _
   rw [e, ba_app, ba_app]
   simp
end Go.Proofs.YtceggplnggkdnaaGreatDoor
namespace Go.Proofs.YtceggplnggkdnaaGreatDoor
open Go.RowKit NatP LexP
def IRd (w : World) (v : Value) (l : List (Bool × Nat)) : Prop := ∃ ao cap, v = .slice ao l.length cap ∧ l.length ≤ cap ∧ cap ≤ maxLen ∧ (0 < l.length → ∃ g o, ao = some ⟨g, o, none⟩ ∧ g < w.heap.size ∧ ∀ j p, l[j]? = some p → ∃ m xs, w.cell? ⟨g, o + j * 2, none⟩ = some (.bool p.1) ∧ w.cell? ⟨g, o + j * 2 + 1, none⟩ = some m ∧ Rd w m xs ∧ NatP.val xs = p.2 ∧ xs.length ≤ 67108864)
theorem IRd.below {w w' : World} {v : Value} {l : List (Bool × Nat)} (h : IRd w v l) (hb : Below w.heap.size w w') : IRd w' v l := by
 obtain ⟨ao, cap, e, h1, h2, h3⟩ := h
 refine ⟨ao, cap, e, h1, h2, fun h0 => ?_⟩
 obtain ⟨g, o, rfl, a2, a3⟩ := h3 h0
 refine ⟨g, o, rfl, Nat.lt_of_lt_of_le a2 hb.size, fun j p hj => ?_⟩
 obtain ⟨m, xs, b1, b2, b3, b4, b5⟩ := a3 j p hj
 exact ⟨m, xs, (hb.cell (p := ⟨g, o + j * 2, none⟩) a2).trans b1, (hb.cell (p := ⟨g, o + j * 2 + 1, none⟩) a2).trans b2, b3.below hb, b4, b5⟩
def intsT (l : List (Bool × Nat)) : List Bytes := l.map fun p => intTx p.1 p.2
theorem intTx_len (neg : Bool) {xs : List Nat} (hl : xs.length ≤ 67108864) (hok : ok xs) : (intTx neg (NatP.val xs)).length ≤ 2147483648 := by
 have h : (decTx (NatP.val xs)).length ≤ 1342177281 := by
  unfold decTx
  split
  ·simp
  ·have := dg_len_BB (val_lt hok)
   rw [List.length_map]; omega
 unfold intTx
 split
 ·simp only [List.length_cons]; omega
 ·omega
set_option maxRecDepth 100000 in
set_option maxHeartbeats 4000000 in
theorem mat_text (r c : Nat) (l : List (Bool × Nat)) (v : Value) (w : World) (hs : SG w) (hv : IRd w v l) (hr : r ≤ 64) (hc : c ≤ 64) (hn : l.length = r * c) :
  Calls Tryz.prog 48 #[.agg #[.int .i64 (r : Nat), .int .i64 (c : Nat), v]] w fun e w' => e = .returned (.tuple #[.string ⟨(gridT r c (intsT l)).toArray⟩, .int .i64 0]) ∧ Below w.heap.size w w' := by
 have HSG := Lib.hid hs
 have HV := Lib.hid hv
 have hsz : 6 < w.heap.size := World.block_lt_of_cell? w _ (hs 0 (by omega))
 obtain ⟨ao, cap, rfl, h1, h2, h3⟩ := hv
 obtain ⟨n, hnn⟩ : ∃ n, n = l.length := ⟨_, rfl⟩
 rw [← hnn] at h1 hn ⊢
 have hn4 : n ≤ 4096 := by rw [hn]; exact Nat.mul_le_mul hr hc
 have HN := Lib.hid hn
 have HNN := Lib.hid hnn
 have H3 := Lib.hid h3
 have HA := Lib.hid (below_alloc w (.cells #[.int .i64 (r : Nat), .int .i64 (c : Nat), .slice ao n cap] 54))
 have hblk := heap_alloc_new w (.cells #[.int .i64 (r : Nat), .int .i64 (c : Nat), .slice ao n cap] 54)
 have HBK := Lib.hid hblk
 clear hs hn hnn h3 hblk
 obtain ⟨i0, hi, hz0, hz1', hz2'⟩ := info_parts Tryz.infoSt
 go_enter Tryz.func48, Tryz.ntmps48
 go_wp2_with fail
 refine (mcheck r c n cap ao _ hr hc HN.out).mono ?_
 rintro e w1 ⟨rfl, hb1⟩
 have hbk1 : w1.heap[w.heap.size]? = some (.cells #[.int .i64 (r : Nat), .int .i64 (c : Nat), .slice ao n cap] 54 (0, 0)) := (hb1.block w.heap.size (by simp)).trans HBK.out
 have HB1 : Hid (Below w.heap.size w w1) := HA.out.trans (hb1.mono (by simp))
 have hw1 : w.heap.size < w1.heap.size := by have := hb1.size; simp at this; omega
 have HBK1 := Lib.hid hbk1
 have e0 : w1.cell? ⟨w.heap.size, 0, none⟩ = some (.int .i64 (r : Nat)) := (cell_of_row w1 _ _ _ _ _ hbk1).trans rfl
 have e1 : w1.cell? ⟨w.heap.size, 1, none⟩ = some (.int .i64 (c : Nat)) := (cell_of_row w1 _ _ _ _ _ hbk1).trans rfl
 have e2 : w1.cell? ⟨w.heap.size, 2, none⟩ = some (.slice ao n cap) := (cell_of_row w1 _ _ _ _ _ hbk1).trans rfl
 clear hb1 hbk1
 go_wp2_with (at_make; refine wpList_make_own _ rfl _ _ 28 rfl w1.heap.size 9 i0 (.string ⟨#[]⟩) 1 Tryz.underlying28 hi hz0 hz1' _ _ _ n rfl rfl rfl (by rw [hz2']; omega) (by unfold maxLen; omega) (Nat.le_refl _) ?_)
 intro w2 hown2 hgrow2
 have hb2 : Below w1.heap.size w1 w2 := Below.grown (Below.refl _ _) hgrow2 (Nat.le_refl _) (fun k hk => by cases hk)
 have HO2 := Lib.hid hown2
 have HB2 := Lib.hid hb2
 have f2 : w2.cell? ⟨w.heap.size, 2, none⟩ = some (.slice ao n cap) := (hb2.cell (p := ⟨w.heap.size, 2, none⟩) hw1).trans e2
 clear hown2 hgrow2 hb2
 go_wp2_with fail
 clear e0 e1 e2 f2
 go_loopw [5, 7, 20] (fun lv _ iv wr => ∃ i : Nat, iv = .int .i64 (i : Nat) ∧ i ≤ n ∧ wr.ownsRow w1.heap.size 9 1 lv i (sts (intsT (l.take i))) ∧ Below w1.heap.size w1 wr) (fun _ _ iv _ => (n - intOf iv).toNat)
 case atStart => exact ⟨0, rfl, Nat.zero_le _, by simpa [intsT, sts] using HO2.out, HB2.out⟩
 case round =>
  obtain ⟨i, rfl, hin, hown, hbl⟩ := hrel
  have HOWN := Lib.hid hown
  have HBL := Lib.hid hbl
  obtain ⟨bo, bcap, rfl, hbc, hbm, hbs⟩ := ownsRow_shape hown
  have hz1 := hbl.size
  clear hown hbl hbs
  by_cases hlt : i < n
  ·obtain ⟨g, o, rfl, hg, hcell⟩ := H3.out (by rw [← HNN.out]; omega)
   obtain ⟨p, hp⟩ : ∃ p, l[i]? = some p := ⟨_, List.getElem?_eq_getElem (by rw [← HNN.out]; omega)⟩
   obtain ⟨m, xs, c0, c1, hrd, hval, hxl⟩ := hcell i p hp
   obtain ⟨neg, k⟩ := p
   obtain ⟨mo, mcap, hme, -⟩ := hrd.2
   subst hme
   have hbw : Below w.heap.size w wr := HB1.out.trans (HBL.out.mono (Nat.le_of_lt hw1))
   have d0 : wr.cell? ⟨g, o + i * 2, none⟩ = some (.bool neg) := (hbw.cell (p := ⟨g, o + i * 2, none⟩) hg).trans c0
   have d1 : wr.cell? ⟨g, o + i * 2 + 1, none⟩ = some (.slice mo xs.length mcap) := (hbw.cell (p := ⟨g, o + i * 2 + 1, none⟩) hg).trans c1
   have HRD := Lib.hid (hrd.below hbw)
   have HVAL := Lib.hid hval
   have HP := Lib.hid hp
   have HBW := Lib.hid hbw
   clear c0 c1 hrd hval hp hcell hbw
   have HAL := Lib.hid (below_alloc wr (.cells #[.bool neg, .slice mo xs.length mcap] 115))
   have HTL : Hid ((intTx neg k).length ≤ 2147483648) := by
    have := intTx_len neg hxl HRD.out.ok
    rw [HVAL.out] at this; exact this
   go_wp2_with fail
   have hsg := (HSG.out.below HBW.out hsz).below HAL.out (Nat.lt_of_lt_of_le hsz HBW.out.size)
   refine (text_zint neg _ xs _ hsg (HRD.out.below HAL.out) (by omega)).mono ?_
   rintro e w3 ⟨rfl, hb3⟩
   have e1 : intTx neg (NatP.val xs) = intTx neg k := by rw [HVAL.out]
   rw [e1]
   obtain ⟨T, hT⟩ : ∃ T, T = intTx neg k := ⟨_, rfl⟩
   rw [← hT]
   have HT := Lib.hid hT
   have HB3 : Hid (Below wr.heap.size wr w3) := HAL.out.trans (hb3.mono (by simp))
   have HO3 := Lib.hid (ownsRow_below HOWN.out HB3.out (Nat.le_refl _))
   have hz3 := HB3.out.size
   clear hb3 hsg hT e1 d0 d1
   go_wp2_with (at_builtin; refine wpList_append_own_at _ rfl _ _ 28 rfl w1.heap.size 9 i0 (.string ⟨#[]⟩) 1 16 Tryz.underlying28 hi hz0 hz1' hz2' rfl (by decide) _ _ _ rfl (World.ownsRow.alloc HO3.out _) ⟨w3.heap.size, 0, none⟩ 1 1 [.string ⟨T.toArray⟩] rfl rfl (LexP.cells_new _ _ _ _ rfl) (by simp [Value.oneCell']) (by unfold maxLen; omega) (by omega) (by simp; omega) ?_)
   intro v4 w4 hown4 hgrow4 _ hbk4
   have hrows : sts (intsT (l.take (i + 1))) = sts (intsT (l.take i)) ++ [.string ⟨T.toArray⟩] := by
    rw [List.take_add_one, HP.out]
    simp [intsT, sts, HT.out]
   have HO4 : Hid (w4.ownsRow w1.heap.size 9 1 v4 (i + 1) (sts (intsT (l.take (i + 1))))) := by
    show World.ownsRow _ _ _ _ _ _ _
    rw [hrows]; exact hown4
   have HB4 : Hid (Below w1.heap.size w1 w4) := Below.grown ((HBL.out.trans (HB3.out.mono hz1)).alloc (by omega) _) hgrow4 (by simp; omega) (fun q hq => (World.ownsRow.lt HO3.out q hq).1)
   clear hown4 hgrow4 hbk4 hrows
   go_wp2_with fail
   have hfin : w4.ownsRow w1.heap.size 9 1 v4 (i + 1) (sts (intsT (l.take (i + 1)))) ∧ Below w1.heap.size w1 w4 := ⟨HO4.out, HB4.out⟩
   exact ⟨⟨i + 1, rfl, by omega, hfin⟩, by simp [intOf] <;> omega⟩
  ·have hie : i = n := by omega
   have htk : l.take i = l := List.take_of_length_le (by rw [hie]; exact Nat.le_of_eq HNN.out.symm)
   rw [htk] at HOWN
   have hbk := (HBL.out.block w.heap.size hw1).trans HBK1.out
   have e0 : wr.cell? ⟨w.heap.size, 0, none⟩ = some (.int .i64 (r : Nat)) := (cell_of_row wr _ _ _ _ _ hbk).trans rfl
   have e1 : wr.cell? ⟨w.heap.size, 1, none⟩ = some (.int .i64 (c : Nat)) := (cell_of_row wr _ _ _ _ _ hbk).trans rfl
   have HBW : Hid (Below w.heap.size w wr) := HB1.out.trans (HBL.out.mono (Nat.le_of_lt hw1))
   have HIE := Lib.hid hie
   clear hbk htk hie
   go_wp2_with fail
   have hil : (intsT l).length = r * c := by unfold intsT; rw [List.length_map, ← HNN.out, HN.out]
   have hgrid : Calls Tryz.prog 82 #[.int .i64 (r : Nat), .int .i64 (c : Nat), .slice bo i bcap] wr (StrPost (gridT r c (intsT l)) wr) := by
    by_cases h0 : intsT l = []
    ·have hi0 : i = 0 := by
      have := congrArg List.length h0
      rw [hil, List.length_nil, ← HN.out] at this
      rw [HIE.out]; exact this
     subst hi0
     rw [h0]
     exact grid_shape r c bcap bo _ (HSG.out.below HBW.out hsz) hr hc
    ·refine grid_rows r c (intsT l) _ _ (SS.of_row HOWN.out) h0 hr hc hil ?_
     intro b hb
     unfold intsT at hb
     rw [List.mem_map] at hb
     obtain ⟨p, hp, rfl⟩ := hb
     obtain ⟨j, hj⟩ := List.getElem?_of_mem hp
     have hl0 : 0 < l.length := by have := (List.getElem?_eq_some_iff.1 hj).1; omega
     obtain ⟨g, o, _, _, hcell⟩ := H3.out hl0
     obtain ⟨m, xs, _, _, hrd, hval, hxl⟩ := hcell j p hj
     have := intTx_len p.1 hxl hrd.ok
     rw [hval] at this; exact this
   refine hgrid.mono ?_
   rintro e w5 ⟨rfl, hb5⟩
   have HB5 := Lib.hid hb5
   clear hb5 hgrid
   go_wp2_with fail
   go_ret2
   exact ⟨rfl, HBW.out.trans (HB5.out.mono HBW.out.size)⟩
end Go.Proofs.YtceggplnggkdnaaGreatDoor
namespace Go.Proofs.YtceggplnggkdnaaGreatDoor
open Go.RowKit NatP LexP
def Sl (w : World) (v : Value) (n : Nat) (R : Nat → Value → Prop) : Prop := ∃ ao cap, v = .slice ao n cap ∧ n ≤ cap ∧ cap ≤ maxLen ∧ (0 < n → ∃ g o, ao = some ⟨g, o, none⟩ ∧ g < w.heap.size ∧ ∀ j, j < n → ∃ u, w.cell? ⟨g, o + j, none⟩ = some u ∧ R j u)
theorem Sl.mono {w w' : World} {v : Value} {n : Nat} {R R' : Nat → Value → Prop} (h : Sl w v n R) (hb : Below w.heap.size w w') (hr : ∀ j u, R j u → R' j u) : Sl w' v n R' := by
 obtain ⟨ao, cap, e, h1, h2, h3⟩ := h
 refine ⟨ao, cap, e, h1, h2, fun h0 => ?_⟩
 obtain ⟨g, o, rfl, a2, a3⟩ := h3 h0
 refine ⟨g, o, rfl, Nat.lt_of_lt_of_le a2 hb.size, fun j hj => ?_⟩
 obtain ⟨u, b1, b2⟩ := a3 j hj
 exact ⟨u, (hb.cell (p := ⟨g, o + j, none⟩) a2).trans b1, hr j u b2⟩
def NRd (w : World) (v : Value) (n : Nat) : Prop := ∃ xs, Rd w v xs ∧ NatP.val xs = n ∧ xs.length ≤ 67108864
theorem NRd.below {w w' : World} {v : Value} {n : Nat} (h : NRd w v n) (hb : Below w.heap.size w w') : NRd w' v n := by
 obtain ⟨xs, h1, h2, h3⟩ := h; exact ⟨xs, h1.below hb, h2, h3⟩
def NsRd (w : World) (v : Value) (s : List Nat) : Prop := Sl w v s.length fun j u => ∃ n, s[j]? = some n ∧ NRd w u n
theorem NsRd.below {w w' : World} {v : Value} {s : List Nat} (h : NsRd w v s) (hb : Below w.heap.size w w') : NsRd w' v s :=
 Sl.mono h hb fun _ _ ⟨n, a, b⟩ => ⟨n, a, b.below hb⟩
def CRd (w : World) (v : Value) (l : List (List Nat)) : Prop := Sl w v l.length fun j u => ∃ s, l[j]? = some s ∧ NsRd w u s
theorem CRd.below {w w' : World} {v : Value} {l : List (List Nat)} (h : CRd w v l) (hb : Below w.heap.size w w') : CRd w' v l :=
 Sl.mono h hb fun _ _ ⟨n, a, b⟩ => ⟨n, a, b.below hb⟩
theorem joinB_mem (sep : Bytes) : ∀ (l : List Bytes) (b : Bytes), b ∈ l → b.length ≤ (SynP.joinB sep l).length
 | [a], b, h => by rw [List.mem_singleton.1 h]; exact Nat.le_refl _
 | a :: c :: l, b, h => by
  show b.length ≤ (a ++ sep ++ SynP.joinB sep (c :: l)).length
  simp only [List.length_append]
  rcases List.mem_cons.1 h with rfl | h
  ·omega
  ·have := joinB_mem sep (c :: l) b h; omega
def simT (s : List Nat) : Bytes := SynP.joinB [32] (s.map SynP.decT)
theorem decT_len {xs : List Nat} (hl : xs.length ≤ 67108864) (hok : ok xs) : (SynP.decT (NatP.val xs)).length ≤ 2147483648 := by
 have := intTx_len false hl hok
 rw [intTx_false] at this; exact this
set_option maxRecDepth 100000 in
set_option maxHeartbeats 4000000 in
theorem cpx_text (l : List (List Nat)) (v : Value) (w : World) (hs : SG w) (hv : CRd w v l) (hn : l.length ≤ 134217728) (hm : ∀ s ∈ l, s.length ≤ 134217728) (hT : (SynP.joinB [44, 32] (l.map simT)).length ≤ 70368744177664) :
  Calls Tryz.prog 564 #[v] w (StrPost (SynP.cpxT l) w) := by
 have HSG := Lib.hid hs
 have HV := Lib.hid hv
 have hsz : 6 < w.heap.size := World.block_lt_of_cell? w _ (hs 0 (by omega))
 obtain ⟨ao, cap, rfl, h1, h2, h3⟩ := hv
 obtain ⟨n, hnn⟩ : ∃ n, n = l.length := ⟨_, rfl⟩
 rw [← hnn] at h1 hn h3 ⊢
 have HNN := Lib.hid hnn
 have H3 := Lib.hid h3
 have HM := Lib.hid hm
 have HT := Lib.hid hT
 clear hs hnn h3 hm hT
 obtain ⟨i0, hi, hz0, hz1', hz2'⟩ := info_parts Tryz.infoSt
 go_enter Tryz.func564, Tryz.ntmps564
 go_wp2_with fail
 go_loopw [3, 5, 6, 8, 11] (fun lv _ _ _ iv wr => ∃ i : Nat, iv = .int .i64 (i : Nat) ∧ i ≤ n ∧ wr.ownsRow w.heap.size 9 1 lv i (sts ((l.map simT).take i)) ∧ Below w.heap.size w wr) (fun _ _ _ _ iv _ => (n - intOf iv).toNat)
 case atStart => exact ⟨0, rfl, Nat.zero_le _, World.ownsRow_nil _ _ _ _, Below.refl _ _⟩
 case round =>
  obtain ⟨i, rfl, hin, hown, hbl⟩ := hrel
  have HOWN := Lib.hid hown
  have HBL := Lib.hid hbl
  obtain ⟨bo, bcap, rfl, hbc, hbm, hbs⟩ := ownsRow_shape hown
  have hz1 := hbl.size
  clear hown hbl hbs
  by_cases hlt : i < n
  ·obtain ⟨g, o, rfl, hg, hcell⟩ := H3.out (by omega)
   obtain ⟨u, c0, s, hsi, hsr⟩ := hcell i hlt
   have d0 : wr.cell? ⟨g, o + i, none⟩ = some u := (HBL.out.cell (p := ⟨g, o + i, none⟩) hg).trans c0
   have HSI := Lib.hid hsi
   have hsr2 := hsr.below HBL.out
   have HSR := Lib.hid hsr2
   obtain ⟨so, scap, rfl, s1, s2, s3⟩ := hsr2
   have hsl := HM.out s (List.mem_of_getElem? hsi)
   have HS3 := Lib.hid s3
   obtain ⟨m, hmm⟩ : ∃ m, m = s.length := ⟨_, rfl⟩
   rw [← hmm] at s1 hsl HS3 d0
   have HMM := Lib.hid hmm
   clear c0 hsi hsr hcell s3 hmm
   obtain ⟨wo, rfl⟩ : ∃ wo, wo = wr := ⟨_, rfl⟩
   go_wp2_with fail
   go_loopw [6, 8, 17] (fun nv _ jv wx => ∃ j : Nat, jv = .int .i64 (j : Nat) ∧ j ≤ m ∧ wx.ownsRow wo.heap.size 9 1 nv j (sts ((s.map SynP.decT).take j)) ∧ Below wo.heap.size wo wx) (fun _ _ jv _ => (m - intOf jv).toNat)
   case atStart => exact ⟨0, rfl, Nat.zero_le _, World.ownsRow_nil _ _ _ _, Below.refl _ _⟩
   case round =>
    obtain ⟨j, rfl, hjm, hown2, hbl2⟩ := hrel
    have HOWN2 := Lib.hid hown2
    have HBL2 := Lib.hid hbl2
    obtain ⟨no, ncap, rfl, hnc, hnm, hns⟩ := ownsRow_shape hown2
    have hz2 := hbl2.size
    have HBW : Hid (Below w.heap.size w wr) := HBL.out.trans (hbl2.mono hz1)
    clear hown2 hbl2 hns
    by_cases hjt : j < m
    ·obtain ⟨g2, o2, rfl, hg2, hcell2⟩ := HS3.out (by omega)
     obtain ⟨u, c0, k, hsk, xs, hrd, hval, hxl⟩ := hcell2 j hjt
     have e0 : wr.cell? ⟨g2, o2 + j, none⟩ = some u := (HBL2.out.cell (p := ⟨g2, o2 + j, none⟩) hg2).trans c0
     have HRD := Lib.hid (hrd.below HBL2.out)
     have HVAL := Lib.hid hval
     have HSK := Lib.hid hsk
     have HTL : Hid ((SynP.decT k).length ≤ 2147483648) := by
      have := decT_len hxl hrd.ok
      rw [hval] at this; exact this
     obtain ⟨uo, ucap, hue, -⟩ := hrd.2
     subst hue
     clear c0 hsk hrd hval hcell2
     go_wp2_with fail
     refine (dec_any _ xs _ (HSG.out.below HBW.out hsz) HRD.out (by omega)).mono ?_
     rintro e w3 ⟨rfl, hb3⟩
     rw [HVAL.out, decTx_eq]
     obtain ⟨T, hT⟩ : ∃ T, T = SynP.decT k := ⟨_, rfl⟩
     rw [← hT]
     have HT2 := Lib.hid hT
     have HB3 := Lib.hid hb3
     have HO3 := Lib.hid (ownsRow_below HOWN2.out hb3 (Nat.le_refl _))
     have hz3 := hb3.size
     clear hb3 hT e0
     go_wp2_with (at_builtin; refine wpList_append_own_at _ rfl _ _ 28 rfl wo.heap.size 9 i0 (.string ⟨#[]⟩) 1 16 Tryz.underlying28 hi hz0 hz1' hz2' rfl (by decide) _ _ _ rfl (World.ownsRow.alloc HO3.out _) ⟨w3.heap.size, 0, none⟩ 1 1 [.string ⟨T.toArray⟩] rfl rfl (LexP.cells_new _ _ _ _ rfl) (by simp [Value.oneCell']) (by unfold maxLen; omega) (by omega) (by simp; omega) ?_)
     intro v4 w4 hown4 hgrow4 _ hbk4
     have hrows : sts ((s.map SynP.decT).take (j + 1)) = sts ((s.map SynP.decT).take j) ++ [.string ⟨T.toArray⟩] := by
      rw [List.take_add_one, List.getElem?_map, HSK.out]
      simp [sts, HT2.out]
     have HO4 : Hid (w4.ownsRow wo.heap.size 9 1 v4 (j + 1) (sts ((s.map SynP.decT).take (j + 1)))) := by
      show World.ownsRow _ _ _ _ _ _ _
      rw [hrows]; exact hown4
     have HB4 : Hid (Below wo.heap.size wo w4) := Below.grown ((HBL2.out.trans (HB3.out.mono hz2)).alloc (by omega) _) hgrow4 (by simp; omega) (fun q hq => (World.ownsRow.lt HO3.out q hq).1)
     clear hown4 hgrow4 hbk4 hrows
     go_wp2_with fail
     have hfin : w4.ownsRow wo.heap.size 9 1 v4 (j + 1) (sts ((s.map SynP.decT).take (j + 1))) ∧ Below wo.heap.size wo w4 := ⟨HO4.out, HB4.out⟩
     exact ⟨⟨j + 1, rfl, by omega, hfin⟩, by simp [intOf] <;> omega⟩
    ·have hje : j = m := by omega
     have htk : (s.map SynP.decT).take j = s.map SynP.decT := List.take_of_length_le (by rw [hje, List.length_map]; exact Nat.le_of_eq HMM.out.symm)
     rw [htk] at HOWN2
     have hsT : simT s = SynP.joinB [32] (s.map SynP.decT) := rfl
     have HSL : Hid ((simT s).length ≤ 70368744177664) := Nat.le_trans (joinB_mem [44, 32] (l.map simT) _ (List.mem_map_of_mem (List.mem_of_getElem? HSI.out))) HT.out
     obtain ⟨T, hT2⟩ : ∃ T, T = simT s := ⟨_, rfl⟩
     have HT2 := Lib.hid hT2
     have HSS := Lib.hid (SS.of_row HOWN2.out)
     clear htk hsT hT2 hje
     go_wp2_with fail
     have hJ := join_ss _ (s.map SynP.decT) ⟨#[32]⟩ _ HSS.out (by rw [List.length_map, ← HMM.out]; omega) (by
      show (simT s).length ≤ _
      exact Nat.le_trans HSL.out (by omega))
     rw [show SynP.joinB (⟨#[32]⟩ : ByteArray).data.toList (s.map SynP.decT) = T from HT2.out.symm] at hJ
     refine hJ.mono ?_
     rintro e w3 ⟨rfl, hb3⟩
     have HB3 := Lib.hid (HBL2.out.trans (hb3.mono hz2))
     have HO3 := Lib.hid (ownsRow_below HOWN.out HB3.out (Nat.le_refl _))
     have hz3 := HB3.out.size
     clear hb3 hJ
     go_wp2_with (at_builtin; refine wpList_append_own_at _ rfl _ _ 28 rfl w.heap.size 9 i0 (.string ⟨#[]⟩) 1 16 Tryz.underlying28 hi hz0 hz1' hz2' rfl (by decide) _ _ _ rfl (World.ownsRow.alloc HO3.out _) ⟨w3.heap.size, 0, none⟩ 1 1 [.string ⟨T.toArray⟩] rfl rfl (LexP.cells_new _ _ _ _ rfl) (by simp [Value.oneCell']) (by unfold maxLen; omega) (by omega) (by simp; omega) ?_)
     intro v4 w4 hown4 hgrow4 _ hbk4
     have hrows : sts ((l.map simT).take (i + 1)) = sts ((l.map simT).take i) ++ [.string ⟨T.toArray⟩] := by
      rw [List.take_add_one, List.getElem?_map, HSI.out]
      simp [sts, HT2.out]
     have HO4 : Hid (w4.ownsRow w.heap.size 9 1 v4 (i + 1) (sts ((l.map simT).take (i + 1)))) := by
      show World.ownsRow _ _ _ _ _ _ _
      rw [hrows]; exact hown4
     have HB4 : Hid (Below w.heap.size w w4) := Below.grown ((HBL.out.trans (HB3.out.mono hz1)).alloc (by omega) _) hgrow4 (by simp; omega) (fun q hq => (World.ownsRow.lt HO3.out q hq).1)
     clear hown4 hgrow4 hbk4 hrows
     go_wp2_with fail
     have hfin : w4.ownsRow w.heap.size 9 1 v4 (i + 1) (sts ((l.map simT).take (i + 1))) ∧ Below w.heap.size w w4 := ⟨HO4.out, HB4.out⟩
     exact ⟨⟨i + 1, rfl, by omega, hfin⟩, by simp [intOf] <;> omega⟩
  ·have hie : i = n := by omega
   have htk : (l.map simT).take i = l.map simT := List.take_of_length_le (by rw [hie, List.length_map]; exact Nat.le_of_eq HNN.out.symm)
   rw [htk] at HOWN
   obtain ⟨T, hT⟩ : ∃ T, T = SynP.joinB [44, 32] (l.map simT) := ⟨_, rfl⟩
   have hTl : T.length ≤ 70368744177664 := by rw [hT]; exact HT.out
   have HT2 := Lib.hid hT
   have HSS := Lib.hid (SS.of_row HOWN.out)
   clear htk hT hie
   go_wp2_with fail
   have hJ := join_ss _ (l.map simT) ⟨#[44, 32]⟩ _ HSS.out (by rw [List.length_map, ← HNN.out]; omega) (by
    show (SynP.joinB [44, 32] (l.map simT)).length ≤ _
    exact Nat.le_trans HT.out (by omega))
   rw [show SynP.joinB (⟨#[44, 32]⟩ : ByteArray).data.toList (l.map simT) = T from HT2.out.symm] at hJ
   refine hJ.mono ?_
   rintro e w3 ⟨rfl, hb3⟩
   have HB3 := Lib.hid hb3
   clear hb3 hJ
   go_wp2_with fail
   go_ret
   refine ⟨?_, HBL.out.trans (HB3.out.mono hz1)⟩
   have e : SynP.cpxT l = [123] ++ T ++ [125] := by rw [HT2.out]; rfl
   show Ending.returned (.string ((⟨#[123]⟩ : ByteArray) ++ ⟨T.toArray⟩ ++ ⟨#[125]⟩)) = _
   rw [e, ba_app, ba_app]
   simp
end Go.Proofs.YtceggplnggkdnaaGreatDoor
namespace Go.Proofs.YtceggplnggkdnaaGreatDoor
open Go.RowKit LexP
theorem ret_i64 {a b : Int} (h : a = b) : Ending.returned (.int .i64 a) = .returned (.int .i64 b) := by rw [h]
theorem marks_any (r : Nat) (h : r < 128) :
  decide (0 ≤ Lib.indexByte [43, 45, 42, 94, 39, 40, 41, 91, 93, 123, 125, 44, 59, 58, 61] (r : Int).toNat.toUInt8) = decide (r.toUInt8 ∈ ([43, 45, 42, 94, 39, 40, 41, 91, 93, 123, 125, 44, 59, 58, 61] : Bytes)) := by
 have : ∀ r : Fin 128, decide (0 ≤ Lib.indexByte [43, 45, 42, 94, 39, 40, 41, 91, 93, 123, 125, 44, 59, 58, 61] ((r.val : Nat) : Int).toNat.toUInt8) = decide (r.val.toUInt8 ∈ ([43, 45, 42, 94, 39, 40, 41, 91, 93, 123, 125, 44, 59, 58, 61] : Bytes)) := by decide +kernel
 exact this ⟨r, h⟩
set_option maxRecDepth 100000 in
set_option maxHeartbeats 2000000 in
theorem kind_any (r : Nat) (w : World) (hr : r ≤ 0x10FFFF) :
  Calls Tryz.prog 322 #[.int .i32 (r : Int)] w fun e w' => e = .returned (.int .i64 (kindOf r : Nat)) ∧ w = w' := by
 by_cases h1 : r = 32 ∨ r = 9 ∨ r = 0xa0
 ·have hk : kindOf r = 1 := by unfold kindOf; rw [if_pos h1]
  rw [hk]; clear hk
  rcases h1 with rfl | rfl | rfl
  all_goals
   go_enter Tryz.func322, Tryz.ntmps322
   go_wp2
   go_ret
   exact ⟨rfl, rfl⟩
 by_cases h2 : r = 35
 ·subst h2
  go_enter Tryz.func322, Tryz.ntmps322
  go_wp2
  go_ret
  exact ⟨rfl, rfl⟩
 have n1 : ((r : Int) == 32) = false := by simp; omega
 have n2 : ((r : Int) == 9) = false := by simp; omega
 have n3 : ((r : Int) == 160) = false := by simp; omega
 have n4 : ((r : Int) == 35) = false := by simp; omega
 by_cases h3 : 48 ≤ r ∧ r ≤ 57
 ·have hk : kindOf r = 3 := by unfold kindOf; rw [if_neg h1, if_neg h2, if_pos h3]
  rw [hk]; clear hk
  go_enter Tryz.func322, Tryz.ntmps322
  go_wp2
  go_ret
  exact ⟨rfl, rfl⟩
 by_cases e95 : r = 95
 ·subst e95
  go_enter Tryz.func322, Tryz.ntmps322
  go_wp2
  go_ret
  exact ⟨rfl, rfl⟩
 by_cases e8722 : r = 0x2212
 ·subst e8722
  go_enter Tryz.func322, Tryz.ntmps322
  go_wp2
  go_ret
  exact ⟨rfl, rfl⟩
 by_cases e215 : r = 0xd7
 ·subst e215
  go_enter Tryz.func322, Tryz.ntmps322
  go_wp2
  go_ret
  exact ⟨rfl, rfl⟩
 by_cases e247 : r = 0xf7
 ·subst e247
  go_enter Tryz.func322, Tryz.ntmps322
  go_wp2
  go_ret
  exact ⟨rfl, rfl⟩
 have n6 : ((r : Int) == 95) = false := by simp; omega
 have n7 : ((r : Int) == 8722) = false := by simp; omega
 have n8 : ((r : Int) == 215) = false := by simp; omega
 have n9 : ((r : Int) != 247) = true := by simp; omega
 have K : kindOf r = if (97 ≤ r ∧ r ≤ 122) ∨ (65 ≤ r ∧ r ≤ 90) then 4 else if (0xc0 ≤ r ∧ r ≤ 0x2af) ∨ (0x370 ≤ r ∧ r ≤ 0x3ff) then 4
   else if r < 0x80 ∧ (r.toUInt8 ∈ ([43, 45, 42, 94, 39, 40, 41, 91, 93, 123, 125, 44, 59, 58, 61] : Bytes)) then 5 else 6 := by
  unfold kindOf
  rw [if_neg h1, if_neg h2, if_neg h3]
  simp only [e95, e8722, e215, e247, or_false, if_false, ne_eq, not_false_eq_true, and_true]
 have G : (r < 48 ∨ 58 ≤ r ∧ r < 65 ∨ 91 ≤ r ∧ r < 97 ∨ 123 ≤ r ∧ r < 128) ∨ (65 ≤ r ∧ r ≤ 90 ∨ 97 ≤ r ∧ r ≤ 122) ∨ (128 ≤ r ∧ r < 0xc0 ∨ 0x2af < r ∧ r < 0x370 ∨ 0x3ff < r) ∨ (0xc0 ≤ r ∧ r ≤ 0x2af ∨ 0x370 ≤ r ∧ r ≤ 0x3ff) := by omega
 rcases G with G | G | G | G
 ·have h6 : r < 128 := by omega
  have K5 : (decide (r.toUInt8 ∈ ([43, 45, 42, 94, 39, 40, 41, 91, 93, 123, 125, 44, 59, 58, 61] : Bytes))) = (decide (kindOf r = 5)) := by
   rw [K, if_neg (by omega), if_neg (by omega)]
   by_cases hm : r.toUInt8 ∈ ([43, 45, 42, 94, 39, 40, 41, 91, 93, 123, 125, 44, 59, 58, 61] : Bytes)
   ·rw [if_pos ⟨by omega, hm⟩]; simp [hm]
   ·rw [if_neg (by simp [hm])]; simp [hm]
  have K6 : kindOf r = 5 ∨ kindOf r = 6 := by
   rw [K, if_neg (by omega), if_neg (by omega)]; split <;> simp
  have M := Lib.hid (marks_any r h6)
  rw [K5] at M
  clear K K5
  generalize kindOf r = k at *
  rcases K6 with rfl | rfl
  all_goals
   rcases G with G | G | G | G
   all_goals
    clear h1 h2 h3 e95 e8722 e215 e247
    go_enter Tryz.func322, Tryz.ntmps322
    go_wp2_with (go_at_call 447; refine (Tryz.strings_ContainsRune_ascii _ _ _ (by omega) (by omega)).mono ?_; rintro e w' ⟨rfl, rfl⟩; rw [M.out])
    go_ret
    exact ⟨rfl, rfl⟩
 ·rw [K, if_pos (by omega)]
  clear K
  rcases G with G | G
  all_goals
   clear h1 h2 h3 e95 e8722 e215 e247
   go_enter Tryz.func322, Tryz.ntmps322
   go_wp2
   go_ret
   exact ⟨rfl, rfl⟩
 ·rw [K, if_neg (by omega), if_neg (by omega), if_neg (by omega)]
  clear K
  rcases G with G | G | G
  all_goals
   clear h1 h2 h3 e95 e8722 e215 e247
   go_enter Tryz.func322, Tryz.ntmps322
   go_wp2
   go_ret
   exact ⟨rfl, rfl⟩
 ·rw [K, if_neg (by omega), if_pos (by omega)]
  clear K
  rcases G with G | G
  all_goals
   clear h1 h2 h3 e95 e8722 e215 e247
   go_enter Tryz.func322, Tryz.ntmps322
   go_wp2
   go_ret
   exact ⟨rfl, rfl⟩
end Go.Proofs.YtceggplnggkdnaaGreatDoor
namespace LexP
open Go
theorem get_list (s : ByteArray) (i : Nat) : s.get! i = (s.data.toList[i]?).getD default := by
 obtain ⟨⟨l⟩⟩ := s
 simp [ByteArray.get!]
theorem decode_eq (s : ByteArray) (i : Nat) (hi : i < s.size) :
  Utf8.decode s i = match dec (s.data.toList.drop i) with | some (v, n) => (v, n) | none => (0xFFFD, 1) := by
 have hsz : s.size = s.data.toList.length := Lib.size_eq s
 have hg : ∀ k, s.get! (i + k) = ((s.data.toList.drop i)[k]?).getD default := by
  intro k; rw [get_list, List.getElem?_drop]
 have hc : ∀ k, i + k < s.size ↔ k < (s.data.toList.drop i).length := by intro k; rw [hsz, List.length_drop]; omega
 have hne : 0 < (s.data.toList.drop i).length := by rw [List.length_drop]; omega
 generalize s.data.toList.drop i = l at *
 simp only [Utf8.decode, hg, hc]
 match l, hne with
 | b :: t, _ =>
  simp only [List.getElem?_cons_zero, Option.getD_some, List.getElem?_cons_succ, List.length_cons]
  by_cases h0 : b.toNat < 0x80
  ·simp [dec, h0]
  simp only [h0, if_false]
  by_cases h1 : b.toNat / 32 = 6
  ·have h2 : ¬ b.toNat / 16 = 14 := by omega
   have h3 : ¬ b.toNat / 8 = 30 := by omega
   match t with
   | [] => simp [dec, h0, h1, Utf8.runeError]
   | c :: t =>
    by_cases k1 : c.toNat / 64 = 2
    ·by_cases k2 : 128 ≤ b.toNat % 32 * 64 + c.toNat % 64
     ·simp [dec, h0, h1, k1, isCont, k2]
     ·simp [dec, h0, h1, k1, isCont, k2, Utf8.runeError]
    ·simp [dec, h0, h1, k1, isCont, h2, h3, Utf8.runeError]
  by_cases h2 : b.toNat / 16 = 14
  ·have h3 : ¬ b.toNat / 8 = 30 := by omega
   match t with
   | [] => simp [dec, h0, h1, h2, Utf8.runeError]
   | [c] => simp [dec, h0, h1, h2, Utf8.runeError]
   | c :: d :: t =>
    have hv : ∀ v : Nat, Utf8.valid (v : Int) = okRune v := by
     intro v; simp only [Utf8.valid, okRune]; rw [Bool.eq_iff_iff]; simp; omega
    by_cases k1 : c.toNat / 64 = 2
    ·by_cases k2 : d.toNat / 64 = 2
     ·simp only [dec, h0, h1, h2, k1, k2, isCont, if_true, if_false, beq_self_eq_true, Bool.true_and, Bool.and_true, hv, List.length_cons, List.getElem?_cons_zero, Option.getD_some]
      by_cases k3 : 2048 ≤ b.toNat % 16 * 4096 + c.toNat % 64 * 64 + d.toNat % 64 ∧ okRune (b.toNat % 16 * 4096 + c.toNat % 64 * 64 + d.toNat % 64) = true
      ·simp [k2, h1, k3]
      ·simp [Utf8.runeError, k2, h1, k3]
     ·simp [dec, h0, h1, h2, k1, k2, isCont, h3, Utf8.runeError]
    ·simp [dec, h0, h1, h2, k1, isCont, h3, Utf8.runeError]
  by_cases h3 : b.toNat / 8 = 30
  ·match t with
   | [] => simp [dec, h0, h1, h2, h3, Utf8.runeError]
   | [c] => simp [dec, h0, h1, h2, h3, Utf8.runeError]
   | [c, d] => simp [dec, h0, h1, h2, h3, Utf8.runeError]
   | c :: d :: f :: t =>
    have hv : ∀ v : Nat, Utf8.valid (v : Int) = okRune v := by
     intro v; simp only [Utf8.valid, okRune]; rw [Bool.eq_iff_iff]; simp; omega
    by_cases k1 : c.toNat / 64 = 2
    ·by_cases k2 : d.toNat / 64 = 2
     ·by_cases k4 : f.toNat / 64 = 2
      ·simp only [dec, h0, h1, h2, h3, k1, k2, k4, isCont, if_true, if_false, beq_self_eq_true, Bool.true_and, Bool.and_true, hv, List.length_cons, List.getElem?_cons_zero, Option.getD_some]
       by_cases k3 : 65536 ≤ b.toNat % 8 * 262144 + c.toNat % 64 * 4096 + d.toNat % 64 * 64 + f.toNat % 64 ∧ okRune (b.toNat % 8 * 262144 + c.toNat % 64 * 4096 + d.toNat % 64 * 64 + f.toNat % 64) = true
       ·simp [k2, k4, h1, h2, k3]
       ·simp [Utf8.runeError, k2, k4, h1, h2, k3]
      ·simp [dec, h0, h1, h2, h3, k1, k2, k4, isCont, Utf8.runeError]
     ·simp [dec, h0, h1, h2, h3, k1, k2, isCont, Utf8.runeError]
    ·simp [dec, h0, h1, h2, h3, k1, isCont, Utf8.runeError]
  ·simp [dec, h0, h1, h2, h3, Utf8.runeError]
theorem decode_fst (s : ByteArray) (i : Nat) (hi : i < s.size) : (Utf8.decode s i).1 = (val (s.data.toList.drop i)).getD 0xFFFD := by
 rw [decode_eq s i hi]; unfold val
 cases dec (s.data.toList.drop i) <;> rfl
theorem decode_snd (s : ByteArray) (i : Nat) (hi : i < s.size) : (Utf8.decode s i).2 = wid (s.data.toList.drop i) := by
 rw [decode_eq s i hi]; unfold wid
 cases dec (s.data.toList.drop i) <;> rfl
theorem val_le {l : Bytes} {v : Nat} (h : val l = some v) : v ≤ 0x10FFFF := by
 unfold val at h
 cases hd : dec l with
 | none => simp [hd] at h
 | some p => obtain ⟨a, b⟩ := p; simp [hd] at h; subst h; exact dec_le hd
theorem val_fffd (l : Bytes) : (val l).getD 0xFFFD = 0xFFFD → (Lib.hasPrefix l [239, 191, 189] = (val l).isSome) := by
 intro h
 cases hv : val l with
 | none =>
  cases hp : Lib.hasPrefix l [239, 191, 189] with
  | false => rfl
  | true =>
   exfalso
   obtain ⟨t, rfl⟩ := List.isPrefixOf_iff_prefix.1 hp
   simp [val, dec, isCont, okRune] at hv
 | some v =>
  have h' : v = 0xFFFD := by simpa [hv] using h
  subst h'
  simp only [Option.isSome_some]
  unfold val at hv
  unfold dec at hv
  split at hv
  ·simp at hv
  ·rename_i b t
   split at hv
   ·simp at hv; omega
   split at hv
   ·split at hv
    ·split at hv
     ·simp at hv; omega
     ·simp at hv
    ·simp at hv
   split at hv
   ·split at hv
    ·rename_i c d r
     split at hv
     ·rename_i k
      simp only [Bool.and_eq_true, isCont, beq_iff_eq] at k
      simp at hv
      have hb : b.toNat = 239 := by have := b.toNat_lt; omega
      have hc : c.toNat = 191 := by have := c.toNat_lt; omega
      have hd : d.toNat = 189 := by have := d.toNat_lt; omega
      have eb : b = 239 := UInt8.toNat_inj.1 hb
      have ec : c = 191 := UInt8.toNat_inj.1 hc
      have ed : d = 189 := UInt8.toNat_inj.1 hd
      subst eb ec ed
      simp [Lib.hasPrefix]
     ·simp at hv
    ·simp at hv
   split at hv
   ·split at hv
    ·split at hv
     ·rename_i k
      simp only [Bool.and_eq_true, decide_eq_true_eq] at k
      simp at hv; omega
     ·simp at hv
    ·simp at hv
   ·simp at hv
end LexP
