/- Joined texts of this claim's proof: ZintW, TxtM, GridW. -/
import Derived.Test.YtgfmiladfeoldaaGreatDoorPl18
set_option linter.unusedSimpArgs false
set_option linter.unusedVariables false
namespace Go.Proofs.YtgfmiladfeoldaaGreatDoor
open Go.RowKit NatP LexP
def signI (neg : Bool) (n : Nat) : Int := if n = 0 then 0 else if neg then -1 else 1
set_option maxRecDepth 100000 in
theorem sign_zint (neg : Bool) (v : Value) (xs : List Nat) (w : World) (hv : Rd w v xs) (hl : xs.length ≤ 1099511627776) :
  Calls Tryz.prog 121 #[.agg #[.bool neg, v]] w fun e w' => e = .returned (.int .i64 (signI neg (val xs))) ∧ Below w.heap.size w w' := by
 have HV := Lib.hid hv
 obtain ⟨ao, cap, rfl, -, -, hok, -⟩ := hv.2
 have HA := Lib.hid (below_alloc w (.cells #[.bool neg, .slice ao xs.length cap] 62))
 have HVA := Lib.hid (HV.out.below HA.out)
 have hb0 := bitsN_zero xs hok
 obtain ⟨b, hb⟩ : ∃ b, b = bitsN xs := ⟨_, rfl⟩
 rw [← hb] at hb0
 have HB := Lib.hid hb
 clear hv hok hb
 by_cases h0 : b = 0
 ·have hz : ((b : Int) == 0) = true := by simp [h0]
  have HR : Hid (signI neg (val xs) = 0) := by
   show _ = _
   unfold signI; rw [if_pos (hb0.1 h0)]
  clear hb0 h0
  go_enter Tryz.func121, Tryz.ntmps121
  go_wp2_with fail
  refine (bitLen_any _ xs _ HVA.out hl).mono ?_
  rintro e w1 ⟨rfl, rfl⟩
  rw [← HB.out]
  go_wp2_with fail
  go_ret
  exact ⟨by rw [HR.out]; rfl, HA.out⟩
 ·have hz : ((b : Int) == 0) = false := by simp [h0]
  have hne : ¬ val xs = 0 := fun e => h0 (hb0.2 e)
  have HR : Hid (signI neg (val xs) = if neg then -1 else 1) := by
   show _ = _
   unfold signI; rw [if_neg hne]
  clear hb0 h0 hne
  cases neg with
  | true =>
   go_enter Tryz.func121, Tryz.ntmps121
   go_wp2_with fail
   refine (bitLen_any _ xs _ HVA.out hl).mono ?_
   rintro e w1 ⟨rfl, rfl⟩
   rw [← HB.out]
   go_wp2_with fail
   go_ret
   exact ⟨by rw [HR.out]; rfl, HA.out⟩
  | false =>
   go_enter Tryz.func121, Tryz.ntmps121
   go_wp2_with fail
   refine (bitLen_any _ xs _ HVA.out hl).mono ?_
   rintro e w1 ⟨rfl, rfl⟩
   rw [← HB.out]
   go_wp2_with fail
   go_ret
   exact ⟨by rw [HR.out]; rfl, HA.out⟩
theorem decTx_eq : decTx = SynP.decT := rfl
theorem ba_app (a b : Array UInt8) : (⟨a⟩ : ByteArray) ++ ⟨b⟩ = ⟨a ++ b⟩ := by
 apply ByteArray.ext
 simp
theorem decTx_len {xs : List Nat} (hl : xs.length ≤ 8589934592) (hok : ok xs) : (decTx (val xs)).length ≤ 274877906944 := by
 unfold decTx
 split
 ·simp
 ·have := dg_len_BB (val_lt hok)
  rw [List.length_map]; omega
def intTx (neg : Bool) (n : Nat) : Bytes := if neg = true ∧ n ≠ 0 then 45 :: decTx n else decTx n
def IntTxPost (neg : Bool) (n : Nat) (w : World) (e : Ending) (w' : World) : Prop := e = .returned (.string ⟨(intTx neg n).toArray⟩) ∧ Below w.heap.size w w'
set_option maxRecDepth 100000 in
theorem text_zint (neg : Bool) (v : Value) (xs : List Nat) (w : World) (hs : SG w) (hv : Rd w v xs) (hl : xs.length ≤ 8589934592) :
  Calls Tryz.prog 65 #[.agg #[.bool neg, v]] w (IntTxPost neg (val xs) w) := by
 have HV := Lib.hid hv
 have HSG := Lib.hid hs
 have hsz : 4 < w.heap.size := World.block_lt_of_cell? w _ (hs 0 (by omega))
 obtain ⟨ao, cap, rfl, -, -, hok, -⟩ := hv.2
 have HA := Lib.hid (below_alloc w (.cells #[.bool neg, .slice ao xs.length cap] 62))
 have HVA := Lib.hid (HV.out.below HA.out)
 have HSA := Lib.hid (HSG.out.below HA.out hsz)
 have hc0 : (w.alloc (.cells #[.bool neg, .slice ao xs.length cap] 62)).cell? ⟨w.heap.size, 0, none⟩ = some (.bool neg) := by rw [World.cell?_alloc_at _ _ _ _ rfl]; rfl
 have hc1 : (w.alloc (.cells #[.bool neg, .slice ao xs.length cap] 62)).cell? ⟨w.heap.size, 1, none⟩ = some (.slice ao xs.length cap) := by rw [World.cell?_alloc_at _ _ _ _ rfl]; rfl
 have HC0 := Lib.hid hc0
 have HC1 := Lib.hid hc1
 have hok2 := hok
 clear hv hok hs hc0 hc1
 by_cases h0 : neg = true ∧ val xs ≠ 0
 ·have hn : signI neg (val xs) = -1 := by unfold signI; rw [if_neg h0.2, if_pos h0.1]
  have HR : Hid (intTx neg (val xs) = 45 :: decTx (val xs)) := by show _ = _; unfold intTx; rw [if_pos h0]
  have HN := Lib.hid hn
  have hcat : ¬ 9223372036854775807 < 1 + (decTx (val xs)).length := by
   have := decTx_len hl hok2
   omega
  clear h0 hn hok2
  go_enter Tryz.func65, Tryz.ntmps65
  go_wp2_with fail
  refine (dec_any _ xs _ HSA.out HVA.out hl).mono ?_
  rintro e w1 ⟨rfl, hb1⟩
  have HB1 := Lib.hid hb1
  have d0 := (hb1.cell (p := ⟨w.heap.size, 0, none⟩) (by simp)).trans HC0.out
  have d1 := (hb1.cell (p := ⟨w.heap.size, 1, none⟩) (by simp)).trans HC1.out
  clear hb1
  go_wp2_with fail
  refine (sign_zint neg _ xs _ (HVA.out.below HB1.out) (by omega)).mono ?_
  rintro e w2 ⟨rfl, hb2⟩
  rw [HN.out]
  have HB2 := Lib.hid hb2
  clear hb2
  go_wp2_with fail
  go_ret
  refine ⟨?_, (HA.out.trans (HB1.out.mono (by simp))).trans (HB2.out.mono ((HA.out.trans (HB1.out.mono (by simp))).size))⟩
  rw [HR.out]
  show Ending.returned (.string ((⟨#[45]⟩ : ByteArray) ++ ⟨(decTx (val xs)).toArray⟩)) = _
  rw [ba_app]
  simp
 ·have hn : 0 ≤ signI neg (val xs) := by
   unfold signI
   split
   ·omega
   ·split
    ·rename_i h1 h2; exact absurd ⟨h2, h1⟩ h0
    ·omega
  have HR : Hid (intTx neg (val xs) = decTx (val xs)) := by show _ = _; unfold intTx; rw [if_neg h0]
  obtain ⟨k, hk⟩ : ∃ k, k = signI neg (val xs) := ⟨_, rfl⟩
  rw [← hk] at hn
  have HK := Lib.hid hk
  have hkb : decide (k < 0) = false := by simp; omega
  clear h0 hn hk
  go_enter Tryz.func65, Tryz.ntmps65
  go_wp2_with fail
  refine (dec_any _ xs _ HSA.out HVA.out hl).mono ?_
  rintro e w1 ⟨rfl, hb1⟩
  have HB1 := Lib.hid hb1
  have d0 := (hb1.cell (p := ⟨w.heap.size, 0, none⟩) (by simp)).trans HC0.out
  have d1 := (hb1.cell (p := ⟨w.heap.size, 1, none⟩) (by simp)).trans HC1.out
  clear hb1
  go_wp2_with fail
  refine (sign_zint neg _ xs _ (HVA.out.below HB1.out) (by omega)).mono ?_
  rintro e w2 ⟨rfl, hb2⟩
  rw [← HK.out]
  have HB2 := Lib.hid hb2
  clear hb2
  go_wp2_with fail
  go_ret
  refine ⟨?_, (HA.out.trans (HB1.out.mono (by simp))).trans (HB2.out.mono ((HA.out.trans (HB1.out.mono (by simp))).size))⟩
  rw [HR.out]; rfl
set_option maxRecDepth 100000 in
theorem of_zint (v : Value) (xs : List Nat) (w : World) (hv : Rd w v xs) :
  Calls Tryz.prog 170 #[.bool false, v] w fun e w' => e = .returned (.agg #[.bool false, v]) ∧ Below w.heap.size w w' := by
 have HV := Lib.hid hv
 obtain ⟨ao, cap, rfl, -, -, hok, -⟩ := hv.2
 clear hv hok
 go_enter Tryz.func170, Tryz.ntmps170
 go_wp2_with fail
 refine bodyPost_ret (results_cell_row rfl _ _ w.heap.size 62 _ _ _ rfl (heap_alloc_new w _) Tryz.underlying62 rfl (by kernel_rfl)) rfl ?_
 exact ⟨rfl, below_alloc _ _⟩
set_option maxRecDepth 100000 in
set_option maxHeartbeats 400000 in
theorem Of_zint (n : Nat) (w : World) (hn : n ≤ 64) :
  Calls Tryz.prog 122 #[.int .i64 (n : Nat)] w fun e w' => ∃ v xs, e = .returned (.agg #[.bool false, v]) ∧ Rd w' v xs ∧ val xs = n ∧ xs.length ≤ 1 ∧ Below w.heap.size w w' := by
 go_enter Tryz.func122, Tryz.ntmps122
 have h1 : ¬ ((n : Int) < 0) := by omega
 go_wp2_with fail
 have hblk : Blk ((w.alloc (.cells #[.bool false, .slice none 0 0] 62)).alloc (.cells #[.int .u64 (n : Nat)] 101)) (w.heap.size + 1) [n] := by
  refine ⟨?_, ?_⟩
  ·have := heap_alloc_new (w.alloc (.cells #[.bool false, .slice none 0 0] 62)) (.cells #[.int .u64 (n : Nat)] 101)
   simp only [World.size_alloc] at this
   exact this
  ·intro x hx; simp at hx; subst hx; unfold BB; omega
 have HA := Lib.hid (below_alloc w (.cells #[.bool false, .slice none 0 0] 62))
 have HA2 := Lib.hid (below_alloc (w.alloc (.cells #[.bool false, .slice none 0 0] 62)) (.cells #[.int .u64 (n : Nat)] 101))
 refine (least_blk _ [n] _ (hblk.whole (by simp)) (by simp)).mono ?_
 rintro e w1 ⟨rfl, hB, hb1⟩
 obtain ⟨g, hg⟩ : ∃ g, g = ((w.alloc (.cells #[.bool false, .slice none 0 0] 62)).alloc (.cells #[.int .u64 (n : Nat)] 101)).heap.size := ⟨_, rfl⟩
 rw [← hg] at hB ⊢
 have hgs : g = w.heap.size + 2 := by rw [hg]; simp
 have HGS := Lib.hid hgs
 have HB := Lib.hid hB
 have HB1 := Lib.hid hb1
 clear hB hb1 hblk hg hgs
 obtain ⟨ys, hys⟩ : ∃ ys, ys = strip [n] := ⟨_, rfl⟩
 have hyl : ys.length ≤ 1 := by rw [hys]; exact strip_le [n]
 rw [← hys] at HB ⊢
 have hyv : val ys = n := by rw [hys, val_strip]; simp [NatP.val]
 have HYV := Lib.hid hyv
 clear hys hyv
 go_wp2_with fail
 refine (of_zint _ ys _ (HB.out.whole (by omega))).mono ?_
 rintro e w2 ⟨rfl, hb2⟩
 have HB2 := Lib.hid hb2
 clear hb2
 have d0 : w2.heap[w.heap.size]? = some (.cells #[.bool false, .slice none 0 0] 62 (0, 0)) := by
  have q1 := HA2.out.block w.heap.size (by simp)
  have q2 := HB1.out.block w.heap.size (by simp; omega)
  have q3 := HB2.out.block w.heap.size (by have := HB.out.lt; have := HGS.out; omega)
  rw [q3, q2, q1]; exact heap_alloc_new w _
 have e0 : w2.cell? ⟨w.heap.size, 0, none⟩ = some (.bool false) := (cell_of_row w2 _ _ _ _ _ d0).trans rfl
 have e1 : w2.cell? ⟨w.heap.size, 1, none⟩ = some (.slice none 0 0) := (cell_of_row w2 _ _ _ _ _ d0).trans rfl
 have f0 : w2.frozen? ⟨w.heap.size, 0, none⟩ = false := frozen_of_row w2 _ 0 _ _ d0
 have f1 : w2.frozen? ⟨w.heap.size, 1, none⟩ = false := frozen_of_row w2 _ 1 _ _ d0
 have D0 := Lib.hid d0
 clear d0
 go_wp2_with fail
 have s1 := heap_setCell_same w2 w.heap.size 0 #[.bool false, .slice none 0 0] 62 (.bool false) D0.out
 have s2 := heap_setCell_same (w2.setCell ⟨w.heap.size, 0, none⟩ (.bool false)) w.heap.size 1 _ 62 (.slice (some ⟨g, 0, none⟩) ys.length ys.length) s1
 refine bodyPost_ret (results_cell_row rfl _ _ w.heap.size 62 _ _ _ rfl s2 Tryz.underlying62 rfl (by kernel_rfl)) rfl ?_
 have hw : Below w.heap.size w w2 := (HA.out.trans (HA2.out.mono (by simp))).trans ((HB1.out.mono (by simp; omega)).trans (HB2.out.mono (by have := HB.out.lt; have := HGS.out; omega)))
 have hr : Wr w.heap.size none w2 ((w2.setCell ⟨w.heap.size, 0, none⟩ (.bool false)).setCell ⟨w.heap.size, 1, none⟩ (.slice (some ⟨g, 0, none⟩) ys.length ys.length)) := (Wr.of_set w2 0 _).trans (Mv.refl _ _) (Wr.of_set _ 1 _)
 refine ⟨_, ys, rfl, ((HB.out.whole (by omega)).below HB2.out).wr hr (fun k hk => by cases hk; have := HGS.out; exact ⟨by show g ≠ w.heap.size; omega, by simp⟩), HYV.out, hyl, hr.to_below hw hw.size (Nat.le_refl _) (fun k hk => by cases hk)⟩
end Go.Proofs.YtgfmiladfeoldaaGreatDoor
namespace Go.Proofs.YtgfmiladfeoldaaGreatDoor
open Go.RowKit NatP LexP
def sts (l : List Bytes) : List Value := l.map fun b => .string ⟨b.toArray⟩
theorem sts_len (l : List Bytes) : (sts l).length = l.length := by simp [sts]
theorem sts_app (a b : List Bytes) : sts (a ++ b) = sts a ++ sts b := by simp [sts]
theorem Tryz.infoSt : (Tryz.prog.info? 9).map (fun i => (i.zero, i.size, i.bytes)) = some (some (.string ⟨#[]⟩), 1, 16) := by kernel_rfl
theorem join_eq (sep : Bytes) : ∀ l : List Bytes, Lib.join l sep = SynP.joinB sep l
 | [] => rfl
 | [a] => by rw [Lib.join_one]; rfl
 | a :: b :: l => by
  have h := join_eq sep (b :: l)
  rw [Lib.join_cons] at h ⊢
  show a ++ Lib.joinTail sep (b :: l) = a ++ sep ++ SynP.joinB sep (b :: l)
  rw [← h]
  simp [Lib.joinTail]
def StrPost (l : Bytes) (w : World) (e : Ending) (w' : World) : Prop := e = .returned (.string ⟨l.toArray⟩) ∧ Below w.heap.size w w'
def SS (w : World) (v : Value) (l : List Bytes) : Prop := ∃ ao cap, v = .slice ao l.length cap ∧ l.length ≤ cap ∧ cap ≤ maxLen ∧ (0 < l.length → ∃ g o, ao = some ⟨g, o, none⟩ ∧ g < w.heap.size ∧ ∀ j b, l[j]? = some b → w.cell? ⟨g, o + j, none⟩ = some (.string ⟨b.toArray⟩))
theorem SS.of_row {w : World} {B n : Nat} {v : Value} {l : List Bytes} (h : w.ownsRow B 9 1 v n (sts l)) : SS w v l := by
 have hn : l.length = n := by have := h.1; rw [sts_len] at this; omega
 obtain ⟨ao, cap, e, h1, h2, h3⟩ := ownsRow_shape h
 refine ⟨ao, cap, by rw [hn]; exact e, by omega, h2, fun h0 => ?_⟩
 obtain ⟨g, rfl, a1, a2, a3⟩ := h3 (by omega)
 refine ⟨g, 0, rfl, a2, fun j b hj => ?_⟩
 have hjl := (List.getElem?_eq_some_iff.1 hj).1
 rw [Nat.zero_add, a3 j (by omega)]
 simp [sts, hj]
theorem SS.below {w w' : World} {v : Value} {l : List Bytes} (h : SS w v l) (hb : Below w.heap.size w w') : SS w' v l := by
 obtain ⟨ao, cap, e, h1, h2, h3⟩ := h
 refine ⟨ao, cap, e, h1, h2, fun h0 => ?_⟩
 obtain ⟨g, o, rfl, a2, a3⟩ := h3 h0
 exact ⟨g, o, rfl, Nat.lt_of_lt_of_le a2 hb.size, fun j b hj => (hb.cell (p := ⟨g, o + j, none⟩) a2).trans (a3 j b hj)⟩
theorem join_ss (v : Value) (l : List Bytes) (sep : ByteArray) (w : World) (h : SS w v l) (hN : l.length ≤ 140737488355328) (hl : (SynP.joinB sep.data.toList l).length ≤ 140737488355328) :
  Calls Tryz.prog 123 #[v, .string sep] w (StrPost (SynP.joinB sep.data.toList l) w) := by
 obtain ⟨ao, cap, rfl, h1, h2, h3⟩ := h
 by_cases h0 : 0 < l.length
 ·obtain ⟨g, o, rfl, a2, a3⟩ := h3 h0
  have hm : (l.map fun b => (⟨b.toArray⟩ : ByteArray)).map (·.data.toList) = l := by
   rw [List.map_map]
   conv => rhs; rw [← List.map_id l]
   exact List.map_congr_left fun b _ => rfl
  have := Tryz.strings_Join g o cap (l.map fun b => ⟨b.toArray⟩) sep w (fun j x hj => by
   rw [List.getElem?_map, Option.map_eq_some_iff] at hj
   obtain ⟨b, hb, rfl⟩ := hj
   exact a3 j b hb) a2 (by rw [List.length_map]; exact hN) (by rw [List.length_map]; exact h1) (by rw [hm, join_eq]; exact hl)
  rw [List.length_map, hm, join_eq] at this
  exact this.mono fun e w' h => h
 ·have e : l = [] := List.eq_nil_of_length_eq_zero (by omega)
  subst e
  exact (Tryz.strings_Join_none ao cap sep w).mono fun e w' ⟨a, b⟩ => ⟨a, by rw [b]; exact Below.refl _ _⟩
set_option maxRecDepth 100000 in
theorem mside (n : Nat) (w : World) (hn : n ≤ 4611686018427387904) :
  Calls Tryz.prog 119 #[.int .i64 (n : Nat)] w fun e w' => e = .returned (.bool (decide (n ≤ 64))) ∧ w = w' := by
 have h1 : decide (0 ≤ (n : Int)) = true := by simp
 have h2 : decide ((n : Int) ≤ 64) = decide (n ≤ 64) := by simp; omega
 go_enter Tryz.func119, Tryz.ntmps119
 go_wp2_with fail
 go_ret
 exact ⟨rfl, rfl⟩
def matV (r c : Nat) (at_ : Value) : Value := .agg #[.int .i64 (r : Nat), .int .i64 (c : Nat), at_]
set_option maxRecDepth 100000 in
set_option maxHeartbeats 1000000 in
theorem mcheck (r c n cap : Nat) (ao : Option Addr) (w : World) (hr : r ≤ 64) (hc : c ≤ 64) (hn : n = r * c) :
  Calls Tryz.prog 64 #[.agg #[.int .i64 (r : Nat), .int .i64 (c : Nat), .slice ao n cap]] w fun e w' => e = .returned (.int .i64 0) ∧ Below w.heap.size w w' := by
 have HA := Lib.hid (below_alloc w (.cells #[.int .i64 (r : Nat), .int .i64 (c : Nat), .slice ao n cap] 47))
 have hd1 : decide (r ≤ 64) = true := by simp; exact hr
 have hd2 : decide (c ≤ 64) = true := by simp; exact hc
 have hrc : (r : Int) * (c : Int) = (n : Int) := by rw [hn]; exact (Int.natCast_mul r c).symm
 have hnn : n ≤ 4096 := by rw [hn]; exact Nat.mul_le_mul hr hc
 have H1 := Lib.hid hd1
 have H2 := Lib.hid hd2
 clear hn
 go_enter Tryz.func64, Tryz.ntmps64
 go_wp2_with fail
 refine (mside r _ (by omega)).mono ?_
 rintro e w1 ⟨rfl, rfl⟩
 rw [H1.out]
 go_wp2_with fail
 refine (mside c _ (by omega)).mono ?_
 rintro e w1 ⟨rfl, rfl⟩
 rw [H2.out]
 go_wp2_with fail
 go_ret
 exact ⟨rfl, HA.out⟩
end Go.Proofs.YtgfmiladfeoldaaGreatDoor
namespace Go.Proofs.YtgfmiladfeoldaaGreatDoor
open Go.RowKit NatP LexP
theorem rowsOf_succ {α : Type} (c : Nat) : ∀ (i : Nat) (l : List α), SynP.rowsOf c (i + 1) l = SynP.rowsOf c i l ++ [(l.drop (i * c)).take c]
 | 0, l => by simp [SynP.rowsOf]
 | i + 1, l => by
  have h := rowsOf_succ c i (l.drop c)
  show l.take c :: SynP.rowsOf c (i + 1) (l.drop c) = l.take c :: SynP.rowsOf c i (l.drop c) ++ _
  rw [h, List.drop_drop]
  simp [Nat.succ_mul, Nat.add_comm]
theorem rowsOf_len {α : Type} (c : Nat) : ∀ (i : Nat) (l : List α), (SynP.rowsOf c i l).length = i
 | 0, _ => rfl
 | i + 1, l => by show _ + 1 = _; rw [rowsOf_len c i]
theorem rowsOf_mem {α : Type} (c : Nat) : ∀ (i : Nat) (l X : List α), X ∈ SynP.rowsOf c i l → (∀ b ∈ X, b ∈ l) ∧ X.length ≤ c
 | 0, _, _, h => by cases h
 | i + 1, l, X, h => by
  rcases List.mem_cons.1 h with rfl | h
  ·exact ⟨fun b hb => List.mem_of_mem_take hb, by rw [List.length_take]; omega⟩
  ·have := rowsOf_mem c i (l.drop c) X h
   exact ⟨fun b hb => List.mem_of_mem_drop (this.1 b hb), this.2⟩
theorem joinB_len (sep : Bytes) (M : Nat) : ∀ l : List Bytes, (∀ b ∈ l, b.length ≤ M) → (SynP.joinB sep l).length ≤ l.length * (M + sep.length)
 | [], _ => Nat.zero_le _
 | [a], h => by have := h a (by simp); show a.length ≤ 1 * _; omega
 | a :: b :: l, h => by
  have h1 := joinB_len sep M (b :: l) (fun x hx => h x (List.mem_cons_of_mem _ hx))
  have h2 := h a (by simp)
  show (a ++ sep ++ SynP.joinB sep (b :: l)).length ≤ _
  simp only [List.length_append]
  have e : (a :: b :: l).length = (b :: l).length + 1 := rfl
  rw [e, Nat.succ_mul]
  omega
def gridT (r c : Nat) (l : List Bytes) : Bytes :=
 if l = [] then [91] ++ SynP.decT r ++ [58] ++ SynP.decT c ++ [93]
 else [91] ++ SynP.joinB [59, 32] ((SynP.rowsOf c r l).map (SynP.joinB [32])) ++ [93]
theorem intTx_false (n : Nat) : intTx false n = SynP.decT n := by unfold intTx; simp; rfl
theorem decT_small {n : Nat} (h : n ≤ 64) : (SynP.decT n).length ≤ 20 := by
 have h1 : n < BB ^ 1 := by unfold BB; omega
 have := dg_len_BB h1
 unfold SynP.decT
 split
 ·simp
 ·rw [List.length_map]; omega
set_option maxRecDepth 100000 in
set_option maxHeartbeats 4000000 in
theorem grid_shape (r c cap : Nat) (ao : Option Addr) (w : World) (hs : SG w) (hr : r ≤ 64) (hc : c ≤ 64) :
  Calls Tryz.prog 66 #[.int .i64 (r : Nat), .int .i64 (c : Nat), .slice ao 0 cap] w (StrPost (gridT r c []) w) := by
 have HSG := Lib.hid hs
 have hsz : 4 < w.heap.size := World.block_lt_of_cell? w _ (hs 0 (by omega))
 have q1 := decT_small hr
 have q2 := decT_small hc
 obtain ⟨A, hA⟩ : ∃ A, A = SynP.decT r := ⟨_, rfl⟩
 obtain ⟨B, hB⟩ : ∃ B, B = SynP.decT c := ⟨_, rfl⟩
 rw [← hA] at q1
 rw [← hB] at q2
 have HA := Lib.hid hA
 have HB := Lib.hid hB
 clear hs hA hB
 go_enter Tryz.func66, Tryz.ntmps66
 go_wp2_with fail
 refine (Of_zint r _ hr).mono ?_
 rintro e w1 ⟨v1, xs1, rfl, a1, a2, a3, a4⟩
 have HR1 := Lib.hid a1
 have HV1 := Lib.hid a2
 have HB1 := Lib.hid a4
 clear a1 a2 a4
 go_wp2_with fail
 have hs1 := HSG.out.below HB1.out hsz
 have hsz1 : 4 < w1.heap.size := Nat.lt_of_lt_of_le hsz HB1.out.size
 refine (text_zint false _ xs1 _ hs1 HR1.out (by omega)).mono ?_
 rintro e w2 ⟨rfl, b1⟩
 rw [HV1.out, intTx_false, ← HA.out]
 have HB2 := Lib.hid b1
 have HS2 := Lib.hid (hs1.below b1 hsz1)
 have hsz2 : 4 < w2.heap.size := Nat.lt_of_lt_of_le hsz1 HB2.out.size
 clear b1 hs1
 go_wp2_with fail
 refine (Of_zint c _ hc).mono ?_
 rintro e w3 ⟨v3, xs3, rfl, a1, a2, a5, a4⟩
 have HR3 := Lib.hid a1
 have HV3 := Lib.hid a2
 have HB3 := Lib.hid a4
 clear a1 a2 a4
 go_wp2_with fail
 have hs3 := HS2.out.below HB3.out hsz2
 refine (text_zint false _ xs3 _ hs3 HR3.out (by omega)).mono ?_
 rintro e w4 ⟨rfl, b1⟩
 rw [HV3.out, intTx_false, ← HB.out]
 have HB4 := Lib.hid b1
 clear b1 hs3
 go_wp2_with fail
 go_ret
 have hz1 := HB1.out.size
 have hz2 := HB2.out.size
 have hz3 := HB3.out.size
 refine ⟨?_, ((HB1.out.trans (HB2.out.mono hz1)).trans (HB3.out.mono (Nat.le_trans hz1 hz2))).trans (HB4.out.mono (Nat.le_trans (Nat.le_trans hz1 hz2) hz3))⟩
 have e : gridT r c [] = [91] ++ A ++ [58] ++ B ++ [93] := by rw [HA.out, HB.out]; unfold gridT; rw [if_pos rfl]
 show Ending.returned (.string ((⟨#[91]⟩ : ByteArray) ++ ⟨A.toArray⟩ ++ ⟨#[58]⟩ ++ ⟨B.toArray⟩ ++ ⟨#[93]⟩)) = _
 rw [e, ba_app, ba_app, ba_app, ba_app]
 simp
set_option maxRecDepth 100000 in
set_option maxHeartbeats 4000000 in
theorem grid_rows (r c : Nat) (l : List Bytes) (v : Value) (w : World) (hv : SS w v l) (hl : l ≠ []) (hr : r ≤ 64) (hc : c ≤ 64) (hn : l.length = r * c) (hb : ∀ b ∈ l, b.length ≤ 2147483648) :
  Calls Tryz.prog 66 #[.int .i64 (r : Nat), .int .i64 (c : Nat), v] w (StrPost (gridT r c l) w) := by
 obtain ⟨ao, cap, rfl, h1, h2, h3⟩ := hv
 have hpos : 0 < l.length := List.length_pos_iff.2 hl
 obtain ⟨g, o, rfl, hg, hcell⟩ := h3 hpos
 obtain ⟨n, hnn⟩ : ∃ n, n = l.length := ⟨_, rfl⟩
 rw [← hnn] at h1 hpos hn ⊢
 have hn4 : n ≤ 4096 := by rw [hn]; exact Nat.mul_le_mul hr hc
 have HC := Lib.hid hcell
 have HL := Lib.hid hl
 have HN := Lib.hid hn
 have HNN := Lib.hid hnn
 have HBD := Lib.hid hb
 have hne : ((n : Int) == 0) = false := by simp; omega
 have h2' : cap ≤ 9223372036854775807 := by unfold maxLen at h2; omega
 have HPOS := Lib.hid hpos
 clear hcell hl hn hnn hb h3 hpos
 obtain ⟨i0, hi, hz0, hz1', hz2'⟩ := info_parts Tryz.infoSt
 go_enter Tryz.func66, Tryz.ntmps66
 go_wp2_with fail
 go_loopw [7, 8, 23] (fun lv _ iv wr => ∃ i : Nat, iv = .int .i64 (i : Nat) ∧ i ≤ r ∧ wr.ownsRow w.heap.size 9 1 lv i (sts ((SynP.rowsOf c i l).map (SynP.joinB [32]))) ∧ Below w.heap.size w wr) (fun _ _ iv _ => (r - intOf iv).toNat)
 case atStart => exact ⟨0, rfl, Nat.zero_le _, World.ownsRow_nil _ _ _ _, Below.refl _ _⟩
 case round =>
  obtain ⟨i, rfl, hir, hown, hbl⟩ := hrel
  have HOWN := Lib.hid hown
  have HBL := Lib.hid hbl
  obtain ⟨bo, bcap, rfl, hbc, hbm, hbs⟩ := ownsRow_shape hown
  have HBS := Lib.hid hbs
  clear hown hbl hbs
  by_cases hlt : i < r
  ·obtain ⟨a, ha⟩ : ∃ a, a = i * c := ⟨_, rfl⟩
   have hac : a + c ≤ n := by rw [HN.out, ha, ← Nat.succ_mul]; exact Nat.mul_le_mul (by omega) (Nat.le_refl _)
   have E1 : (i : Int) * (c : Int) = (a : Int) := by rw [ha]; exact (Int.natCast_mul i c).symm
   have E2 : ((i : Int) + 1) * (c : Int) = ((a + c : Nat) : Int) := by rw [Int.add_mul, E1]; omega
   have HAE := Lib.hid ha
   clear ha
   have hc0 : 0 < c := by
    rcases Nat.eq_zero_or_pos c with h | h
    ·subst h; have h1 := HN.out; rw [Nat.mul_zero] at h1; have h2 := HPOS.out; omega
    ·exact h
   have hca : ¬ cap = a := by omega
   obtain ⟨X, hX⟩ : ∃ X, X = (l.drop a).take c := ⟨_, rfl⟩
   have hXl : X.length = c := by rw [hX, List.length_take, List.length_drop, ← HNN.out]; omega
   have HX := Lib.hid hX
   have HXL := Lib.hid hXl
   have hXb : ∀ b ∈ X, b.length ≤ 2147483648 := fun b hb => HBD.out b (List.mem_of_mem_drop (List.mem_of_mem_take (hX ▸ hb)))
   have hss : SS wr (.slice (some ⟨g, o + a, none⟩) c (cap - a)) X := by
    refine ⟨_, _, by rw [hXl], by omega, by omega, fun _ => ⟨g, o + a, rfl, Nat.lt_of_lt_of_le hg HBL.out.size, fun j b hj => ?_⟩⟩
    rw [hX, List.getElem?_take] at hj
    split at hj
    ·rw [List.getElem?_drop] at hj
     rw [Nat.add_assoc]
     exact (HBL.out.cell (p := ⟨g, o + (a + j), none⟩) hg).trans (HC.out (a + j) b hj)
    ·cases hj
   have HSS := Lib.hid hss
   have hjl := joinB_len [32] 2147483648 X hXb
   rw [hXl] at hjl
   have hjl2 : (SynP.joinB [32] X).length ≤ 137438953536 := by
    refine Nat.le_trans hjl (Nat.le_trans (Nat.mul_le_mul hc (Nat.le_refl _)) (by decide))
   have HJL := Lib.hid hjl2
   clear hX hXl hXb hss hjl hjl2
   go_wp2_with fail
   refine (join_ss _ X ⟨#[32]⟩ _ HSS.out (by rw [HXL.out]; omega) (Nat.le_trans HJL.out (by omega))).mono ?_
   rintro e w1 ⟨rfl, hb1⟩
   have HB1 := Lib.hid hb1
   have HO1 := Lib.hid (ownsRow_below HOWN.out hb1 (Nat.le_refl _))
   obtain ⟨J, hJ⟩ : ∃ J, J = SynP.joinB [32] X := ⟨_, rfl⟩
   rw [show SynP.joinB (⟨#[32]⟩ : ByteArray).data.toList X = J from hJ.symm]
   have HJ := Lib.hid hJ
   clear hb1 hJ
   have hz1 := HB1.out.size
   have hz2 := HBL.out.size
   go_wp2_with (at_builtin; refine wpList_append_own_at _ rfl _ _ 105 rfl w.heap.size 9 i0 (.string ⟨#[]⟩) 1 16 Tryz.underlying105 hi hz0 hz1' hz2' rfl (by decide) _ _ _ rfl (World.ownsRow.alloc HO1.out _) ⟨w1.heap.size, 0, none⟩ 1 1 [.string ⟨J.toArray⟩] rfl rfl (LexP.cells_new _ _ _ _ rfl) (by simp [Value.oneCell']) (by unfold maxLen; omega) (by omega) (by simp; omega) ?_)
   intro v4 w4 hown4 hgrow4 _ hbk4
   have hrows : sts ((SynP.rowsOf c (i + 1) l).map (SynP.joinB [32])) = sts ((SynP.rowsOf c i l).map (SynP.joinB [32])) ++ [.string ⟨J.toArray⟩] := by
    rw [rowsOf_succ, List.map_append, sts_app, ← HAE.out, ← HX.out, HJ.out]; rfl
   have HO4 : Hid (w4.ownsRow w.heap.size 9 1 v4 (i + 1) (sts ((SynP.rowsOf c (i + 1) l).map (SynP.joinB [32])))) := by
    show World.ownsRow _ _ _ _ _ _ _
    rw [hrows]; exact hown4
   have HB4 : Hid (Below w.heap.size w w4) := Below.grown ((HBL.out.trans (HB1.out.mono HBL.out.size)).alloc (by omega) _) hgrow4 (by simp; omega) (fun q hq => (World.ownsRow.lt HO1.out q hq).1)
   clear hown4 hgrow4 hbk4 hrows
   go_wp2_with fail
   have hfin : w4.ownsRow w.heap.size 9 1 v4 (i + 1) (sts ((SynP.rowsOf c (i + 1) l).map (SynP.joinB [32]))) ∧ Below w.heap.size w w4 := ⟨HO4.out, HB4.out⟩
   first | exact ⟨⟨i + 1, rfl, by omega, hfin⟩, by simp [intOf] <;> omega⟩ | exact ⟨by (repeat apply Exists.intro); exact ⟨⟨i + 1, rfl, by omega, hfin⟩, rfl⟩, by simp [intOf] <;> omega⟩
  ·have hie : i = r := by omega
   subst hie
   have hlb : ∀ b ∈ (SynP.rowsOf c i l).map (SynP.joinB [32]), b.length ≤ 137438953536 := by
    intro b hb
    rw [List.mem_map] at hb
    obtain ⟨X, hX, rfl⟩ := hb
    have h1 := rowsOf_mem c i l X hX
    refine Nat.le_trans (joinB_len [32] 2147483648 X (fun b hb => HBD.out b (h1.1 b hb))) ?_
    refine Nat.le_trans (Nat.mul_le_mul (Nat.le_trans h1.2 hc) (Nat.le_refl _)) (by decide)
   have hjl := joinB_len [59, 32] 137438953536 _ hlb
   rw [List.length_map, rowsOf_len] at hjl
   obtain ⟨T, hT⟩ : ∃ T, T = SynP.joinB [59, 32] ((SynP.rowsOf c i l).map (SynP.joinB [32])) := ⟨_, rfl⟩
   rw [← hT] at hjl
   have hjl2 : T.length ≤ 8796093026432 := by
    refine Nat.le_trans hjl (Nat.le_trans (Nat.mul_le_mul hr (Nat.le_refl _)) (by decide))
   have HT := Lib.hid hT
   clear hjl hlb hT
   go_wp2_with fail
   have hJ := join_ss _ ((SynP.rowsOf c i l).map (SynP.joinB [32])) ⟨#[59, 32]⟩ _ (SS.of_row HOWN.out) (by rw [List.length_map, rowsOf_len]; omega) (by
    show (SynP.joinB [59, 32] _).length ≤ _
    rw [← HT.out]; omega)
   rw [show SynP.joinB (⟨#[59, 32]⟩ : ByteArray).data.toList ((SynP.rowsOf c i l).map (SynP.joinB [32])) = T from HT.out.symm] at hJ
   refine hJ.mono ?_
   rintro e w1 ⟨rfl, hb1⟩
   have HB1 := Lib.hid hb1
   clear hb1 hJ
   go_wp2_with fail
   go_ret
   refine ⟨?_, HBL.out.trans (HB1.out.mono HBL.out.size)⟩
   have e : gridT i c l = [91] ++ T ++ [93] := by rw [HT.out]; unfold gridT; rw [if_neg HL.out]
   show Ending.returned (.string ((⟨#[91]⟩ : ByteArray) ++ ⟨T.toArray⟩ ++ ⟨#[93]⟩)) = _
   rw [e, ba_app, ba_app]
   simp
end Go.Proofs.YtgfmiladfeoldaaGreatDoor
