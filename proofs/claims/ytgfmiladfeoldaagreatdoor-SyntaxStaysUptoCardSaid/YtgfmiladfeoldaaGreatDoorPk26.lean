/- Joined texts of this claim's proof: WtC, WtD, WtE, WtF, WtB, SynX, WtG. -/
import Derived.Test.YtgfmiladfeoldaaGreatDoorPk16
import Derived.Test.YtgfmiladfeoldaaGreatDoorPk15
set_option linter.unusedSimpArgs false
set_option linter.unusedVariables false
namespace Go.Proofs.YtgfmiladfeoldaaGreatDoor
open Go.RowKit NatP LexP
end Go.Proofs.YtgfmiladfeoldaaGreatDoor
namespace Go.Proofs.YtgfmiladfeoldaaGreatDoor
open Go.RowKit NatP LexP
end Go.Proofs.YtgfmiladfeoldaaGreatDoor
namespace Go.Proofs.YtgfmiladfeoldaaGreatDoor
open Go.RowKit NatP LexP
end Go.Proofs.YtgfmiladfeoldaaGreatDoor
namespace Go.Proofs.YtgfmiladfeoldaaGreatDoor
open Go.RowKit NatP LexP
end Go.Proofs.YtgfmiladfeoldaaGreatDoor
namespace LexP
end LexP
namespace Go.Proofs.YtgfmiladfeoldaaGreatDoor
open Go.RowKit NatP LexP
set_option maxRecDepth 100000 in
set_option maxHeartbeats 1000000 in
theorem numeral_good (t : Bytes) (w : World) (ht : t.length ≤ 67108864) (hs : SG w) (hsz : 4 < w.heap.size) (hd0 : 0 < t.length) (hd1 : ∀ c ∈ t, NumP.isDig c = true) :
  Calls Tryz.prog 161 #[.string ⟨t.toArray⟩] w fun e w' => e = .returned (.bool (SynP.numV t)) ∧ Below w.heap.size w w' := by
 obtain ⟨T, hT⟩ : ∃ T : ByteArray, T = ⟨t.toArray⟩ := ⟨_, rfl⟩
 have hTl : T.data.toList = t := by rw [hT]
 have hs4 : T.size ≤ 67108864 := by rw [Lib.size_eq, hTl]; exact ht
 have hd : 0 < T.size ∧ ∀ c ∈ T.data.toList, NumP.isDig c = true := by rw [Lib.size_eq, hTl]; exact ⟨hd0, hd1⟩
 have HTL := Lib.hid hTl
 have HSG := Lib.hid hs
 rw [← hT]
 clear hs hT ht hd0 hd1
 have HV : Hid (SynP.numV t = (SynP.decT (decV (LexP.digs t)) == t)) := by
  show _ = _
  obtain ⟨h1, h2⟩ := hd
  rw [Lib.size_eq, hTl] at h1
  rw [hTl] at h2
  unfold SynP.numV SynP.valOf
  rw [List.filter_eq_self.2 h2, List.all_eq_true.2 h2, decide_eq_true (List.length_pos_iff.1 h1)]
  rfl
 have hlt : decV (LexP.digs T.data.toList) < 10 ^ T.size := by
  have := valOf_lt T.data.toList
  unfold SynP.valOf at this
  rw [List.filter_eq_self.2 hd.2, ← Lib.size_eq] at this
  exact this
 have HLT := Lib.hid hlt
 have HD := Lib.hid hd
 clear hd hTl hlt
 go_enter Tryz.func161, Tryz.ntmps161
 go_wp2_with fail
 refine (readDec_any T _ hs4 HD.out.1 HD.out.2).mono ?_
 rintro e w2 ⟨v2, x2, rfl, a1, a2, a4, a5⟩
 have hx2 : x2.length ≤ 8589934592 := Nat.le_trans (Nat.le_trans (dec_len a4 (by rw [a2]; exact HLT.out)) hs4) (by decide)
 obtain ⟨ao, cap, hv2, -⟩ := a1.1.2
 subst hv2
 have HB5 := Lib.hid (a5.mono (Nat.le_refl _))
 have A1 := Lib.hid a1.1
 have A5 := Lib.hid a5
 have HSG2 := Lib.hid (HSG.out.below a5 hsz)
 have A2 := Lib.hid a2
 clear a1 a2 a4 a5
 go_wp2_with fail
 refine (dec_any _ x2 _ HSG2.out A1.out hx2).mono ?_
 rintro e w3 ⟨rfl, b1⟩
 have B1 := Lib.hid b1
 clear b1
 rw [A2.out]
 go_wp2_with fail
 go_ret
 exact ⟨by rw [HV.out, ← HTL.out, ← ByteArray.toList_eq]; rfl, below_next A5.out B1.out⟩
end Go.Proofs.YtgfmiladfeoldaaGreatDoor
namespace Go.Proofs.YtgfmiladfeoldaaGreatDoor
open LexP
end Go.Proofs.YtgfmiladfeoldaaGreatDoor
namespace Go.Proofs.YtgfmiladfeoldaaGreatDoor
open Go.RowKit NatP LexP
def WtPost (op : Int) (t : Bytes) (w : World) (e : Ending) (w' : World) : Prop := e = .returned (.bool (SynP.WV op t)) ∧ Below w.heap.size w w'
theorem emp_beq (t : Bytes) : (t.isEmpty) = (t == []) := by cases t <;> rfl
set_option maxRecDepth 100000 in
set_option maxHeartbeats 2000000 in
theorem written_numC (op : Int) (hop : op = 1 ∨ op = 9) (t : Bytes) (kv : Value) (w : World) (hc : ∀ w', Below w.heap.size w w' → Calls Tryz.prog 161 #[.string ⟨t.toArray⟩] w' fun e w'' => e = .returned (.bool (SynP.numV t)) ∧ Below w'.heap.size w' w'') :
  Calls Tryz.prog 101 #[.agg #[.int .i64 op, .string ⟨t.toArray⟩, kv]] w (WtPost op t w) := by
 have HV : Hid (SynP.WV op t = SynP.numV t) := by show _ = _; unfold SynP.WV; rw [if_pos hop]
 obtain ⟨T, hT⟩ : ∃ T : ByteArray, T = ⟨t.toArray⟩ := ⟨_, rfl⟩
 have HTL : Hid (T.data.toList = t) := by show _ = _; rw [hT]
 have HB0 := Lib.hid (below_alloc w (.cells #[.int .i64 op, .string T, kv] 43))
 have HN0 := Lib.hid (heap_alloc_new w (.cells #[.int .i64 op, .string T, kv] 43))
 have HC := Lib.hid (hc _ HB0.out)
 rw [← hT] at HC ⊢
 clear hc hT
 rcases hop with rfl | rfl
 all_goals
  go_enter Tryz.func101, Tryz.ntmps101
  go_wp2_with fail
  refine HC.out.mono ?_
  rintro e w1 ⟨rfl, hb⟩
  have HB := Lib.hid (below_next HB0.out hb)
  clear hb
  go_wp2_with fail
  go_ret
  exact ⟨by rw [HV.out]; rfl, HB.out⟩
set_option maxRecDepth 100000 in
set_option maxHeartbeats 2000000 in
theorem written_nam (op : Int) (hop : op = 2 ∨ op = 10 ∨ op = 11) (t : Bytes) (kv : Value) (w : World) (ht : t.length ≤ 67108864) (hx : Lx w) :
  Calls Tryz.prog 101 #[.agg #[.int .i64 op, .string ⟨t.toArray⟩, kv]] w (WtPost op t w) := by
 have HV : Hid (SynP.WV op t = SynP.namV t) := by show _ = _; unfold SynP.WV; rw [if_neg (by omega), if_pos hop]
 obtain ⟨T, hT⟩ : ∃ T : ByteArray, T = ⟨t.toArray⟩ := ⟨_, rfl⟩
 have HTL : Hid (T.data.toList = t) := by show _ = _; rw [hT]
 have HB0 := Lib.hid (below_alloc w (.cells #[.int .i64 op, .string T, kv] 43))
 have HN0 := Lib.hid (heap_alloc_new w (.cells #[.int .i64 op, .string T, kv] 43))
 have HC := Lib.hid (named_any t (w.alloc (.cells #[.int .i64 op, .string T, kv] 43)) ht (hx.below HB0.out))
 rw [← hT] at HC ⊢
 clear hx hT ht
 rcases hop with rfl | rfl | rfl
 all_goals
  go_enter Tryz.func101, Tryz.ntmps101
  go_wp2_with fail
  refine HC.out.mono ?_
  rintro e w1 ⟨rfl, hb⟩
  have HB := Lib.hid (below_next HB0.out hb)
  clear hb
  go_wp2_with fail
  go_ret
  exact ⟨by rw [HV.out]; rfl, HB.out⟩
set_option maxRecDepth 100000 in
set_option maxHeartbeats 2000000 in
theorem written_do (t : Bytes) (kv : Value) (w : World) (ht : t.length ≤ 67108864) (hx : Lx w) :
  Calls Tryz.prog 101 #[.agg #[.int .i64 12, .string ⟨t.toArray⟩, kv]] w (WtPost 12 t w) := by
 have HV : Hid (SynP.WV 12 t = (SynP.namV t && t != SynP.letB)) := rfl
 obtain ⟨T, hT⟩ : ∃ T : ByteArray, T = ⟨t.toArray⟩ := ⟨_, rfl⟩
 have HTL : Hid (T.data.toList = t) := by show _ = _; rw [hT]
 have HB0 := Lib.hid (below_alloc w (.cells #[.int .i64 12, .string T, kv] 43))
 have HN0 := Lib.hid (heap_alloc_new w (.cells #[.int .i64 12, .string T, kv] 43))
 have HC := Lib.hid (named_any t (w.alloc (.cells #[.int .i64 12, .string T, kv] 43)) ht (hx.below HB0.out))
 rw [← hT] at HC ⊢
 clear hx hT ht
 go_enter Tryz.func101, Tryz.ntmps101
 go_wp2_with fail
 refine HC.out.mono ?_
 rintro e w1 ⟨rfl, hb⟩
 have HB := Lib.hid (below_next HB0.out hb)
 have d1 : w1.cell? ⟨w.heap.size, 1, none⟩ = some (.string T) := by rw [cell_of_row _ _ 1 _ _ _ ((hb.block w.heap.size (by simp)).trans HN0.out)]; rfl
 clear hb
 rcases hn : SynP.namV t
 ·have HN := Lib.hid hn
  clear hn
  go_wp2_with fail
  go_ret
  exact ⟨by rw [HV.out, HN.out]; rfl, HB.out⟩
 ·have HN := Lib.hid hn
  clear hn
  go_wp2_with fail
  go_ret
  exact ⟨by rw [HV.out, HN.out, ← HTL.out, ← ByteArray.toList_eq]; rfl, HB.out⟩
set_option maxRecDepth 100000 in
set_option maxHeartbeats 2000000 in
theorem written_rest (op : Int) (h1 : op ≠ 1) (h2 : op ≠ 2) (h3 : op ≠ 3) (h9 : op ≠ 9) (h10 : op ≠ 10) (h11 : op ≠ 11) (h12 : op ≠ 12) (h13 : op ≠ 13) (t : Bytes) (kv : Value) (w : World) :
  Calls Tryz.prog 101 #[.agg #[.int .i64 op, .string ⟨t.toArray⟩, kv]] w (WtPost op t w) := by
 have HV : Hid (SynP.WV op t = (t == [])) := by
  show _ = _
  unfold SynP.WV
  rw [if_neg (by omega), if_neg (by omega), if_neg h12, if_neg h3, if_neg h13]
 obtain ⟨T, hT⟩ : ∃ T : ByteArray, T = ⟨t.toArray⟩ := ⟨_, rfl⟩
 have HTL : Hid (T.data.toList = t) := by show _ = _; rw [hT]
 have HB0 := Lib.hid (below_alloc w (.cells #[.int .i64 op, .string T, kv] 43))
 have HN0 := Lib.hid (heap_alloc_new w (.cells #[.int .i64 op, .string T, kv] 43))
 rw [← hT]
 clear hT
 have e1 : (op == 1) = false := by simp [h1]
 have e2 : (op == 2) = false := by simp [h2]
 have e3 : (op == 3) = false := by simp [h3]
 have e9 : (op == 9) = false := by simp [h9]
 have e10 : (op == 10) = false := by simp [h10]
 have e11 : (op == 11) = false := by simp [h11]
 have e12 : (op == 12) = false := by simp [h12]
 have e13 : (op == 13) = false := by simp [h13]
 clear h1 h2 h3 h9 h10 h11 h12 h13
 go_enter Tryz.func101, Tryz.ntmps101
 go_wp2_with fail
 go_ret
 exact ⟨by rw [HV.out, ← HTL.out, ← emp_beq, ← ByteArray.toList_eq]; rfl, HB0.out⟩
end Go.Proofs.YtgfmiladfeoldaaGreatDoor
