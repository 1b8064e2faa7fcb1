/- Joined texts of this claim's proof: WtG, WrM, WrA. -/
import Derived.Test.YtgfmiladfeoldaaGreatDoorPl37
import Derived.Test.YtgfmiladfeoldaaGreatDoorPl38
import Derived.Test.YtgfmiladfeoldaaGreatDoorPl39
import Derived.Test.YtgfmiladfeoldaaGreatDoorPl20
import Derived.Shelf.Strings.Builder1
import Derived.Deep.AppendLies
import Derived.Test.YtgfmiladfeoldaaGreatDoorPl36
import Derived.Lib.MinMax
set_option linter.unusedSimpArgs false
set_option linter.unusedVariables false
namespace Go.Proofs.YtgfmiladfeoldaaGreatDoor
open Go.RowKit NatP LexP
def WtPost (op : Int) (t : Bytes) (w : World) (e : Ending) (w' : World) : Prop := e = .returned (.bool (SynP.WV op t)) ∧ Below w.heap.size w w'
theorem readM_err0 {t : Bytes} {k : Nat} (h : SynP.readM t = .error k) : 0 < k := by
 unfold SynP.readM at h
 cases hK : Toks 1 (chars t) with
 | error p => rw [hK] at h; cases h; decide
 | ok ts =>
  rw [hK] at h
  have hgood := SynP.good_matrix ((chars t).length + 1) (ts.length + 3) (s := ⟨ts, 0⟩) (Nat.le_refl _) (Nat.le_refl _)
  have hgr : SynP.Good ts.length (MatR ((chars t).length + 1) (ts.length + 3) ⟨ts, 0⟩) := SynP.Good.bind hgood (fun a s hl => by
   unfold SynP.done
   split
   ·exact SynP.good_ret a (by simp at hl; omega)
   ·exact SynP.good_unfit _ _ _)
  change (match MatR ((chars t).length + 1) (ts.length + 3) ⟨ts, 0⟩ with | none => (.error 0 : Except Nat SynP.MatV) | some (.error (_, k)) => .error (if k = 2 ∨ k = 5 then k else 7) | some (.ok (m, _)) => .ok m) = _ at h
  rcases hL : MatR ((chars t).length + 1) (ts.length + 3) ⟨ts, 0⟩ with - | (⟨c, j⟩ | ⟨m, s'⟩) <;> rw [hL] at h hgr
  ·exact hgr.elim
  ·have h2 : (if j = 2 ∨ j = 5 then j else 7) = k := by
    have := h
    simp only [Except.error.injEq] at this
    exact this
   split at h2 <;> omega
  ·cases h
theorem mem_tot {l : List (List Nat)} : ∀ s ∈ l, s.length ≤ tot l := by
 induction l with
 | nil => intro s h; cases h
 | cons a l ih =>
  intro s h
  rcases List.mem_cons.1 h with rfl | h
  ·simp [tot]
  ·have := ih s h
   simp [tot] at this ⊢
   omega
theorem readC_len {t : Bytes} {l : List (List Nat)} (h : SynP.readC t = some l) (ht : t.length ≤ 67108864) : l.length ≤ 134217728 ∧ (∀ s ∈ l, s.length ≤ 134217728) ∧ (SynP.joinB [44, 32] (l.map simT)).length ≤ 70368744177664 := by
 unfold SynP.readC at h
 cases hK : Toks 1 (chars t) with
 | error p => rw [hK] at h; cases h
 | ok ts =>
  rw [hK] at h
  have hf := Fits.toks (l := t) ht hK
  simp only at h
  split at h
  ·rename_i l' s' he
   cases h
   obtain ⟨a, s, h1, h2⟩ := SynP.bind_ok he
   have := SynP.done_ok h2
   cases this
   have k1 := complex_count h1
   have k2 := complex_lb h1
   have k3 : Lb ⟨ts, 0⟩ ≤ 201326592 := hf.2
   simp only at k1 k2
   refine ⟨by omega, fun s hs => ?_, crd_len (by omega) (by omega) (by omega)⟩
   have := mem_tot s hs
   omega
  ·cases h
theorem emp_beq (t : Bytes) : (t.isEmpty) = (t == []) := by cases t <;> rfl
set_option maxRecDepth 100000 in
set_option maxHeartbeats 2000000 in
theorem written_num (op : Int) (hop : op = 1 ∨ op = 9) (t : Bytes) (kv : Value) (w : World) (ht : t.length ≤ 67108864) (hs : SG w) (hsz : 4 < w.heap.size) :
  Calls Tryz.prog 101 #[.agg #[.int .i64 op, .string ⟨t.toArray⟩, kv]] w (WtPost op t w) := by
 have HV : Hid (SynP.WV op t = SynP.numV t) := by show _ = _; unfold SynP.WV; rw [if_pos hop]
 obtain ⟨T, hT⟩ : ∃ T : ByteArray, T = ⟨t.toArray⟩ := ⟨_, rfl⟩
 have HTL : Hid (T.data.toList = t) := by show _ = _; rw [hT]
 have HB0 := Lib.hid (below_alloc w (.cells #[.int .i64 op, .string T, kv] 43))
 have HN0 := Lib.hid (heap_alloc_new w (.cells #[.int .i64 op, .string T, kv] 43))
 have HC := Lib.hid (numeral_any t (w.alloc (.cells #[.int .i64 op, .string T, kv] 43)) ht (hs.below HB0.out hsz) (by simp; omega))
 rw [← hT] at HC ⊢
 clear hs hT ht
 rcases hop with rfl | rfl
 all_goals
  go_enter Tryz.func101, Tryz.ntmps101
  go_wp2_with fail
  refine HC.out.mono ?_
  rintro e w1 ⟨rfl, hb⟩
  have HB := Lib.hid (below_next HB0.out hb)
  clear hb
  go_wp2_with fail
  go_ret
  exact ⟨by rw [HV.out]; rfl, HB.out⟩
set_option maxRecDepth 100000 in
set_option maxHeartbeats 2000000 in
theorem written_nam (op : Int) (hop : op = 2 ∨ op = 10 ∨ op = 11) (t : Bytes) (kv : Value) (w : World) (ht : t.length ≤ 67108864) (hx : Lx w) :
  Calls Tryz.prog 101 #[.agg #[.int .i64 op, .string ⟨t.toArray⟩, kv]] w (WtPost op t w) := by
 have HV : Hid (SynP.WV op t = SynP.namV t) := by show _ = _; unfold SynP.WV; rw [if_neg (by omega), if_pos hop]
 obtain ⟨T, hT⟩ : ∃ T : ByteArray, T = ⟨t.toArray⟩ := ⟨_, rfl⟩
 have HTL : Hid (T.data.toList = t) := by show _ = _; rw [hT]
 have HB0 := Lib.hid (below_alloc w (.cells #[.int .i64 op, .string T, kv] 43))
 have HN0 := Lib.hid (heap_alloc_new w (.cells #[.int .i64 op, .string T, kv] 43))
 have HC := Lib.hid (named_any t (w.alloc (.cells #[.int .i64 op, .string T, kv] 43)) ht (hx.below HB0.out))
 rw [← hT] at HC ⊢
 clear hx hT ht
 rcases hop with rfl | rfl | rfl
 all_goals
  go_enter Tryz.func101, Tryz.ntmps101
  go_wp2_with fail
  refine HC.out.mono ?_
  rintro e w1 ⟨rfl, hb⟩
  have HB := Lib.hid (below_next HB0.out hb)
  clear hb
  go_wp2_with fail
  go_ret
  exact ⟨by rw [HV.out]; rfl, HB.out⟩
set_option maxRecDepth 100000 in
set_option maxHeartbeats 2000000 in
theorem written_do (t : Bytes) (kv : Value) (w : World) (ht : t.length ≤ 67108864) (hx : Lx w) :
  Calls Tryz.prog 101 #[.agg #[.int .i64 12, .string ⟨t.toArray⟩, kv]] w (WtPost 12 t w) := by
 have HV : Hid (SynP.WV 12 t = (SynP.namV t && t != SynP.letB)) := rfl
 obtain ⟨T, hT⟩ : ∃ T : ByteArray, T = ⟨t.toArray⟩ := ⟨_, rfl⟩
 have HTL : Hid (T.data.toList = t) := by show _ = _; rw [hT]
 have HB0 := Lib.hid (below_alloc w (.cells #[.int .i64 12, .string T, kv] 43))
 have HN0 := Lib.hid (heap_alloc_new w (.cells #[.int .i64 12, .string T, kv] 43))
 have HC := Lib.hid (named_any t (w.alloc (.cells #[.int .i64 12, .string T, kv] 43)) ht (hx.below HB0.out))
 rw [← hT] at HC ⊢
 clear hx hT ht
 go_enter Tryz.func101, Tryz.ntmps101
 go_wp2_with fail
 refine HC.out.mono ?_
 rintro e w1 ⟨rfl, hb⟩
 have HB := Lib.hid (below_next HB0.out hb)
 have d1 : w1.cell? ⟨w.heap.size, 1, none⟩ = some (.string T) := by rw [cell_of_row _ _ 1 _ _ _ ((hb.block w.heap.size (by simp)).trans HN0.out)]; rfl
 clear hb
 rcases hn : SynP.namV t
 ·have HN := Lib.hid hn
  clear hn
  go_wp2_with fail
  go_ret
  exact ⟨by rw [HV.out, HN.out]; rfl, HB.out⟩
 ·have HN := Lib.hid hn
  clear hn
  go_wp2_with fail
  go_ret
  exact ⟨by rw [HV.out, HN.out, ← HTL.out, ← ByteArray.toList_eq]; rfl, HB.out⟩
set_option maxRecDepth 100000 in
set_option maxHeartbeats 2000000 in
theorem written_mat (t : Bytes) (kv : Value) (w : World) (ht : t.length ≤ 67108864) (hx : Lx w) (hs : SG w) (hsz : 4 < w.heap.size) :
  Calls Tryz.prog 101 #[.agg #[.int .i64 3, .string ⟨t.toArray⟩, kv]] w (WtPost 3 t w) := by
 have HV : Hid (SynP.WV 3 t = SynP.matV t) := rfl
 obtain ⟨T, hT⟩ : ∃ T : ByteArray, T = ⟨t.toArray⟩ := ⟨_, rfl⟩
 have HTL : Hid (T.data.toList = t) := by show _ = _; rw [hT]
 have HB0 := Lib.hid (below_alloc w (.cells #[.int .i64 3, .string T, kv] 43))
 have HN0 := Lib.hid (heap_alloc_new w (.cells #[.int .i64 3, .string T, kv] 43))
 have HSG0 := Lib.hid (hs.below HB0.out hsz)
 have hsz0 : 4 < (w.alloc (.cells #[.int .i64 3, .string T, kv] 43)).heap.size := by simp; omega
 have HC := Lib.hid (readMat_any t (w.alloc (.cells #[.int .i64 3, .string T, kv] 43)) ht (hx.below HB0.out) HSG0.out hsz0)
 rw [← hT] at HC ⊢
 clear hs hx hT ht
 go_enter Tryz.func101, Tryz.ntmps101
 go_wp2_with fail
 refine HC.out.mono ?_
 rintro e w1 hn
 unfold RmPost at hn
 cases hK : SynP.readM t with
 | error k =>
  rw [hK] at hn
  obtain ⟨rfl, hb⟩ := hn
  have HW : Hid (SynP.matV t = false) := by show _ = _; unfold SynP.matV; rw [hK]
  have hk0 : 0 < k := readM_err0 hK
  have hkk : ((k : Int) != 0) = true := by simp; omega
  have HB := Lib.hid (fun b => (below_next HB0.out hb).alloc (Nat.le_trans HB0.out.size hb.size) b)
  clear hb hK hk0
  go_wp2_with fail
  go_ret
  exact ⟨by rw [HV.out, HW.out]; rfl, HB.out _⟩
 | ok m =>
  rw [hK] at hn
  obtain ⟨av, rfl, hb, hi⟩ := hn
  have HW : Hid (SynP.matV t = (SynP.matT m == t)) := by show _ = _; unfold SynP.matV; rw [hK]
  have hm := SynP.readM_ok hK
  have HT := Lib.hid (matT_grid m hm.2.2.2)
  have hbw := below_next HB0.out hb
  have hlt := Nat.le_trans HB0.out.size hb.size
  have hg1 := (hb.block w.heap.size (by simp)).trans HN0.out
  have hl1 : w.heap.size < w1.heap.size := (Array.getElem?_eq_some_iff.1 hg1).1
  have HSG1 := Lib.hid (HSG0.out.below hb hsz0)
  have HI := Lib.hid hi
  have HM := Lib.hid hm
  obtain ⟨ao, cap, rfl, -⟩ := hi
  obtain ⟨ln, hln⟩ : ∃ ln, ln = m.at_.length := ⟨_, rfl⟩
  rw [← hln] at HI ⊢
  obtain ⟨w2, hw2⟩ : ∃ w2, w2 = w1.alloc (.cells #[.int .i64 (m.rows : Nat), .int .i64 (m.cols : Nat), .slice ao ln cap] 47) := ⟨_, rfl⟩
  have hb2 : Below w1.heap.size w1 w2 := by rw [hw2]; exact below_alloc _ _
  have HBW : Hid (Below w.heap.size w w2) := by show Below _ _ _; rw [hw2]; exact hbw.alloc hlt _
  have hg2 := (hb2.block w.heap.size hl1).trans hg1
  have hsz1 : 4 < w1.heap.size := Nat.lt_of_lt_of_le hsz0 hb.size
  have hl2 : w.heap.size < w2.heap.size := Nat.lt_of_lt_of_le hl1 hb2.size
  have HMT := Lib.hid (mat_text m.rows m.cols m.at_ (.slice ao ln cap) w2 (HSG1.out.below hb2 hsz1) (HI.out.below hb2) HM.out.1 HM.out.2.1 HM.out.2.2.1)
  have HG2 := Lib.hid hg2
  clear hb hK hm hbw hg1 hln hb2 hg2
  go_wp2_with fail
  rw [← hw2]
  clear hw2
  refine HMT.out.mono ?_
  rintro e w3 ⟨rfl, hb3⟩
  have HB3 := Lib.hid (below_next HBW.out hb3)
  have d1 : w3.cell? ⟨w.heap.size, 1, none⟩ = some (.string T) := by rw [cell_of_row _ _ 1 _ _ _ ((hb3.block w.heap.size hl2).trans HG2.out)]; rfl
  clear hb3
  go_wp2_with fail
  go_ret
  exact ⟨by rw [HV.out, HW.out, ← HT.out, ← HTL.out, ← ByteArray.toList_eq]; rfl, HB3.out⟩
set_option maxRecDepth 100000 in
set_option maxHeartbeats 2000000 in
theorem written_cpx (t : Bytes) (kv : Value) (w : World) (ht : t.length ≤ 67108864) (hx : Lx w) (hs : SG w) (hsz : 4 < w.heap.size) :
  Calls Tryz.prog 101 #[.agg #[.int .i64 13, .string ⟨t.toArray⟩, kv]] w (WtPost 13 t w) := by
 have HV : Hid (SynP.WV 13 t = SynP.cpxV t) := rfl
 obtain ⟨T, hT⟩ : ∃ T : ByteArray, T = ⟨t.toArray⟩ := ⟨_, rfl⟩
 have HTL : Hid (T.data.toList = t) := by show _ = _; rw [hT]
 have HB0 := Lib.hid (below_alloc w (.cells #[.int .i64 13, .string T, kv] 43))
 have HN0 := Lib.hid (heap_alloc_new w (.cells #[.int .i64 13, .string T, kv] 43))
 have HSG0 := Lib.hid (hs.below HB0.out hsz)
 have hsz0 : 4 < (w.alloc (.cells #[.int .i64 13, .string T, kv] 43)).heap.size := by simp; omega
 have HC := Lib.hid (readComplex_any t (w.alloc (.cells #[.int .i64 13, .string T, kv] 43)) ht (hx.below HB0.out) HSG0.out hsz0)
 have HLE := Lib.hid ht
 rw [← hT] at HC ⊢
 clear hs hx hT ht
 go_enter Tryz.func101, Tryz.ntmps101
 go_wp2_with fail
 refine HC.out.mono ?_
 rintro e w1 hn
 unfold RcPost at hn
 cases hK : SynP.readC t with
 | none =>
  rw [hK] at hn
  obtain ⟨ao, n, cap, rfl, hb⟩ := hn
  have HW : Hid (SynP.cpxV t = false) := by show _ = _; unfold SynP.cpxV; rw [hK]
  have HB := Lib.hid (below_next HB0.out hb)
  clear hb hK
  go_wp2_with fail
  go_quiet (fail)
  go_wp2_with fail
  go_ret
  exact ⟨by rw [HV.out, HW.out]; rfl, below_next HB.out (below_drewN' w1 _)⟩
 | some l =>
  rw [hK] at hn
  obtain ⟨lv, svs, rfl, hb, hi⟩ := hn
  have HW : Hid (SynP.cpxV t = (SynP.cpxT l == t)) := by show _ = _; unfold SynP.cpxV; rw [hK]
  obtain ⟨q1, q2, q3⟩ := readC_len hK HLE.out
  have HMT := Lib.hid (fun w2 (hb2 : Below w1.heap.size w1 w2) => cpx_text l lv w2 ((HSG0.out.below hb hsz0).below hb2 (Nat.lt_of_lt_of_le hsz0 hb.size)) (hi.crd.below hb2) q1 q2 q3)
  obtain ⟨ao, cap, hv2, -, -, -⟩ := ownsRow_shape hi.own
  obtain ⟨ln, hln⟩ : ∃ ln, ln = svs.length := ⟨_, rfl⟩
  rw [← hln] at hv2
  have HB := Lib.hid (below_next HB0.out hb)
  have hg1 := (hb.block w.heap.size (by simp)).trans HN0.out
  have hl1 : w.heap.size < w1.heap.size := (Array.getElem?_eq_some_iff.1 hg1).1
  have hc1 : w1.cell? ⟨w.heap.size, 1, none⟩ = some (.string T) := by rw [cell_of_row _ _ 1 _ _ _ hg1]; rfl
  subst hv2
  clear hb hK hi q1 q2 q3 hln hg1
  go_wp2_with fail
  go_region_held3 (fun w' => w'.cell? ⟨w.heap.size, 1, none⟩ = some (.string T))
   (first
    | go_keep
    | exact (hb2.cell (p := ⟨w.heap.size, 1, none⟩) hl1).trans hc1)
   (first
    | (go_at_call 67; refine (HMT.out _ (below_drewN' w1 _)).mono ?_; rintro e w2 ⟨rfl, hb2⟩))
  have HB2 : Hid (Below w.heap.size w w2) := by
   refine below_next HB.out ?_
   first | exact hb2 | exact (below_drewN' w1 1).trans hb2
  clear hb2
  go_wp2_with fail
  go_ret
  exact ⟨by rw [HV.out, HW.out, ← HTL.out, ← ByteArray.toList_eq]; rfl, HB2.out⟩
set_option maxRecDepth 100000 in
set_option maxHeartbeats 2000000 in
theorem written_rest (op : Int) (h1 : op ≠ 1) (h2 : op ≠ 2) (h3 : op ≠ 3) (h9 : op ≠ 9) (h10 : op ≠ 10) (h11 : op ≠ 11) (h12 : op ≠ 12) (h13 : op ≠ 13) (t : Bytes) (kv : Value) (w : World) :
  Calls Tryz.prog 101 #[.agg #[.int .i64 op, .string ⟨t.toArray⟩, kv]] w (WtPost op t w) := by
 have HV : Hid (SynP.WV op t = (t == [])) := by
  show _ = _
  unfold SynP.WV
  rw [if_neg (by omega), if_neg (by omega), if_neg h12, if_neg h3, if_neg h13]
 obtain ⟨T, hT⟩ : ∃ T : ByteArray, T = ⟨t.toArray⟩ := ⟨_, rfl⟩
 have HTL : Hid (T.data.toList = t) := by show _ = _; rw [hT]
 have HB0 := Lib.hid (below_alloc w (.cells #[.int .i64 op, .string T, kv] 43))
 have HN0 := Lib.hid (heap_alloc_new w (.cells #[.int .i64 op, .string T, kv] 43))
 rw [← hT]
 clear hT
 have e1 : (op == 1) = false := by simp [h1]
 have e2 : (op == 2) = false := by simp [h2]
 have e3 : (op == 3) = false := by simp [h3]
 have e9 : (op == 9) = false := by simp [h9]
 have e10 : (op == 10) = false := by simp [h10]
 have e11 : (op == 11) = false := by simp [h11]
 have e12 : (op == 12) = false := by simp [h12]
 have e13 : (op == 13) = false := by simp [h13]
 clear h1 h2 h3 h9 h10 h11 h12 h13
 go_enter Tryz.func101, Tryz.ntmps101
 go_wp2_with fail
 go_ret
 exact ⟨by rw [HV.out, ← HTL.out, ← emp_beq, ← ByteArray.toList_eq]; rfl, HB0.out⟩
theorem written_any (op : Int) (t : Bytes) (kv : Value) (w : World) (ht : t.length ≤ 67108864) (hx : Lx w) (hs : SG w) (hsz : 4 < w.heap.size) :
  Calls Tryz.prog 101 #[.agg #[.int .i64 op, .string ⟨t.toArray⟩, kv]] w (WtPost op t w) := by
 by_cases h1 : op = 1
 ·exact written_num op (.inl h1) t kv w ht hs hsz
 by_cases h9 : op = 9
 ·exact written_num op (.inr h9) t kv w ht hs hsz
 by_cases h2 : op = 2
 ·exact written_nam op (.inl h2) t kv w ht hx
 by_cases h10 : op = 10
 ·exact written_nam op (.inr (.inl h10)) t kv w ht hx
 by_cases h11 : op = 11
 ·exact written_nam op (.inr (.inr h11)) t kv w ht hx
 by_cases h12 : op = 12
 ·subst h12; exact written_do t kv w ht hx
 by_cases h3 : op = 3
 ·subst h3; exact written_mat t kv w ht hx hs hsz
 by_cases h13 : op = 13
 ·subst h13; exact written_cpx t kv w ht hx hs hsz
 exact written_rest op h1 h2 h3 h9 h10 h11 h12 h13 t kv w
end Go.Proofs.YtgfmiladfeoldaaGreatDoor
namespace Go.Proofs.YtgfmiladfeoldaaGreatDoor
open Go.RowKit NatP LexP
theorem wownsRow_wr {w w' : World} {R k n : Nat} {e : TypeId} {v : Value} {cs : List Value} (h : w.ownsRow (R + 1) e k v n cs) (hw : Wr R none w w') : w'.ownsRow (R + 1) e k v n cs := by
 refine ⟨h.1, ?_⟩
 rcases h.2 with hn | ⟨g, cap, cur, rfl, hb, hgg, rest⟩
 ·exact .inl hn
 ·exact .inr ⟨g, cap, cur, rfl, hb, (hw.block g (Array.getElem?_eq_some_iff.1 hgg).1 (by omega) (by simp)).trans hgg, rest⟩
structure WrS (w : World) (R : Nat) (tv bv : Value) (out : Bytes) (o m : Nat) : Prop where
 blk : ∃ av, (av = .pointer none ∨ av = .pointer (some ⟨R, 1, none⟩)) ∧ w.heap[R]? = some (.cells #[tv, av, bv, .int .i64 (o : Nat), .int .i64 (m : Nat)] 92 (0, 0))
 own : w.ownsRow (R + 1) 5 1 bv out.length (u8s out)
 le : o ≤ m
theorem WrS.lt {w : World} {R : Nat} {tv bv : Value} {out : Bytes} {o m : Nat} (h : WrS w R tv bv out o m) : R < w.heap.size := by
 obtain ⟨av, -, hb⟩ := h.blk
 exact (Array.getElem?_eq_some_iff.1 hb).1
theorem WrS.gt {w : World} {R : Nat} {tv bv : Value} {out : Bytes} {o m : Nat} (h : WrS w R tv bv out o m) : ∀ q, bv.ownBlock = some q → R < q := fun q hq => by have := h.own.lt q hq; omega
theorem WrS.cells {w : World} {R : Nat} {tv bv : Value} {out : Bytes} {o m : Nat} (h : WrS w R tv bv out o m) : w.cell? ⟨R, 0, none⟩ = some tv ∧ w.cell? ⟨R, 3, none⟩ = some (.int .i64 (o : Nat)) ∧ w.cell? ⟨R, 4, none⟩ = some (.int .i64 (m : Nat)) := by
 obtain ⟨av, -, hb⟩ := h.blk
 refine ⟨?_, ?_, ?_⟩ <;> rw [cell_of_row w R _ _ _ _ hb] <;> rfl
theorem WrS.fro {w : World} {R : Nat} {tv bv : Value} {out : Bytes} {o m : Nat} (h : WrS w R tv bv out o m) (k : Nat) : w.frozen? ⟨R, k, none⟩ = false := by
 obtain ⟨av, -, hb⟩ := h.blk
 exact frozen_of_row w R k _ _ hb
theorem WrS.below {w w' : World} {R : Nat} {tv bv : Value} {out : Bytes} {o m : Nat} (h : WrS w R tv bv out o m) (hb : Below w.heap.size w w') : WrS w' R tv bv out o m := by
 obtain ⟨av, ha, hbk⟩ := h.blk
 exact ⟨⟨av, ha, (hb.block R h.lt).trans hbk⟩, h.own.kept (row := none) ⟨hb.os, hb.tape, hb.output, hb.size, fun k hk _ => hb.block k hk⟩ (by cases bv.ownBlock <;> simp), h.le⟩
def WrP (R : Nat) (tv bv : Value) (out : Bytes) (o m : Nat) (v : Value) (w : World) (e : Ending) (w' : World) : Prop :=
 e = .returned v ∧ ∃ bv', WrS w' R tv bv' out o m ∧ Wr R bv.ownBlock w w' ∧ Mv w bv.ownBlock bv'.ownBlock
theorem WrS.setO {w : World} {R : Nat} {tv bv : Value} {out : Bytes} {o m o' : Nat} (h : WrS w R tv bv out o m) (hl : o' ≤ m) : WrS (w.setCell ⟨R, 3, none⟩ (.int .i64 (o' : Nat))) R tv bv out o' m ∧ Wr R none w (w.setCell ⟨R, 3, none⟩ (.int .i64 (o' : Nat))) := by
 obtain ⟨av, ha, hbk⟩ := h.blk
 have hset := heap_setCell_same w R 3 _ 92 (.int .i64 (o' : Nat)) hbk
 exact ⟨⟨⟨av, ha, hset.trans (by simp)⟩, ownsRow_setCell_below h.own (by simp) _, hl⟩, Wr.of_set w 3 _⟩
theorem WrS.setM {w : World} {R : Nat} {tv bv : Value} {out : Bytes} {o1 m m' : Nat} (hbk : ∃ av, (av = .pointer none ∨ av = .pointer (some ⟨R, 1, none⟩)) ∧ w.heap[R]? = some (.cells #[tv, av, bv, .int .i64 (o1 : Nat), .int .i64 (m : Nat)] 92 (0, 0))) (hown : w.ownsRow (R + 1) 5 1 bv out.length (u8s out)) (hl : o1 ≤ m') : WrS (w.setCell ⟨R, 4, none⟩ (.int .i64 (m' : Nat))) R tv bv out o1 m' ∧ Wr R none w (w.setCell ⟨R, 4, none⟩ (.int .i64 (m' : Nat))) := by
 obtain ⟨av, ha, hbk⟩ := hbk
 have hset := heap_setCell_same w R 4 _ 92 (.int .i64 (m' : Nat)) hbk
 exact ⟨⟨⟨av, ha, hset.trans (by simp)⟩, ownsRow_setCell_below hown (by simp) _, hl⟩, Wr.of_set w 4 _⟩
theorem Tryz.sizeBld : (Tryz.prog.info? 90).map (·.size) = some 2 := by kernel_rfl
theorem Tryz.liesBld : liesAt Tryz.prog Tryz.prog.depth 92 (5 / Tryz.prog.cellsOf 92) 1 90 1 = true := by kernel_rfl
set_option maxRecDepth 100000 in
set_option maxHeartbeats 1000000 in
theorem bld_check (R : Nat) (tv av bv ov mv : Value) (w : World) (ha : av = .pointer none ∨ av = .pointer (some ⟨R, 1, none⟩)) (hb : w.heap[R]? = some (.cells #[tv, av, bv, ov, mv] 92 (0, 0))) :
  Calls Tryz.prog 165 #[.pointer (some ⟨R, 1, none⟩)] w fun e w' => e = .returned (.tuple #[]) ∧ w'.heap[R]? = some (.cells #[tv, .pointer (some ⟨R, 1, none⟩), bv, ov, mv] 92 (0, 0)) ∧ Wr R none w w' := by
 obtain ⟨j, hj, hjs⟩ := Option.map_eq_some_iff.1 Tryz.sizeBld
 have h0 : w.cell? ⟨R, 1, none⟩ = some av := by rw [cell_of_row w R _ _ _ _ hb]; rfl
 rcases ha with rfl | rfl
 ·have hsh : w.shape? R = some (92, 5) := by simp [World.shape?, hb]
  have hfz : w.frozen? ⟨R, 1, none⟩ = false := frozen_of_row w R 1 _ _ hb
  have HB := Lib.hid hb
  clear hb
  go_enter Tryz.func165, Tryz.ntmps165
  go_wp2_with fail
  rw [Lib.run_to_unsafe w ⟨R, 1, none⟩ Tryz.underlying87 Tryz.underlying210 hj (by rw [hjs]; decide) hsh (by show 1 < 5; decide)]
  simp only [Result.andThen]
  rw [Oper.upon_value]
  go_wp2_with fail
  rw [run_callFunc_extern Tryz.func212 (by kernel_rfl) (by kernel_rfl) (by kernel_rfl) (e := Extern.AbiNoEscape.same) (by kernel_rfl)]
  rw [Lib.run_noEscape]
  simp only [Result.andThen]
  rw [Oper.upon_value]
  go_wp2_with fail
  rw [Lib.run_from_unsafe w ⟨R, 1, none⟩ Tryz.underlying210 Tryz.underlying87 hj hsh Tryz.liesBld]
  simp only [Result.andThen]
  rw [Oper.upon_value]
  go_wp2_with fail
  go_end0
  exact ⟨rfl, (heap_setCell_same w R 1 _ 92 _ HB.out).trans (by simp), Wr.of_set w 1 _⟩
 ·have HB := Lib.hid hb
  clear hb
  go_enter Tryz.func165, Tryz.ntmps165
  go_wp2_with fail
  rw [Lib.run_neq_ptr_same w _ Tryz.underlying87 hj]
  go_wp2_with fail
  go_end0
  exact ⟨rfl, HB.out, Wr.refl _ _ _⟩
set_option maxRecDepth 100000 in
set_option maxHeartbeats 2000000 in
theorem bld_byte (R : Nat) (tv bv : Value) (out : Bytes) (o m : Nat) (c : UInt8) (w : World) (h : WrS w R tv bv out o m) (hl : out.length ≤ 1099511627776) :
  Calls Tryz.prog 104 #[.pointer (some ⟨R, 1, none⟩), .int .u8 (c.toNat : Nat)] w (WrP R tv bv (out ++ [c]) o m .nilIface w) := by
 obtain ⟨i0, hi, hz0, hz1, hz2⟩ := info_parts Tryz.infoU8d
 have HS := Lib.hid h
 have hRl := h.lt
 clear h
 obtain ⟨av, ha, hb⟩ := HS.out.blk
 have HB := Lib.hid hb
 clear hb
 go_enter Tryz.func104, Tryz.ntmps104
 go_wp2_with fail
 refine (bld_check R tv av bv _ _ _ ha HB.out).mono ?_
 rintro e w1 ⟨rfl, k1, k2⟩
 have c2 : w1.cell? ⟨R, 2, none⟩ = some bv := by rw [cell_of_row w1 R _ _ _ _ k1]; rfl
 have hown := wownsRow_wr HS.out.own k2
 have HOWN := Lib.hid (hown.alloc (.cells #[.int .u8 ((c.toNat : Nat) : Int)] 5))
 have hR1 := k2.size
 obtain ⟨nl, hnl⟩ : ∃ nl, nl = out.length := ⟨_, rfl⟩
 rw [← hnl] at HOWN hl
 have HNL := Lib.hid hnl
 have K1 := Lib.hid k1
 have K2 := Lib.hid k2
 have hcs : (u8s out).length = nl := by rw [u8s_len, hnl]
 clear k1 k2 hown hnl
 go_wp2_with (at_builtin; refine wpList_append_lies _ rfl _ _ 88 rfl (R + 1) 5 i0 (.int .u8 0) 1 1 Tryz.underlying88 hi hz0 hz1 hz2 rfl (by omega) bv nl (u8s out) rfl HOWN.out ⟨w1.heap.size, 0, none⟩ 1 1 [.int .u8 (c.toNat : Nat)] rfl rfl (LexP.cells_new _ _ _ _ rfl) (by simp [Value.oneCell']) (by omega) (by unfold maxLen; omega) (by omega) (by simp; omega) (w1.heap.size + 1) (by simp) ?_)
 intro g cap w2 hown' hgrow hat hlt5
 have hne : some R ≠ bv.ownBlock := fun e => by have := HS.out.gt R e.symm; omega
 have hb2 : w2.heap[R]? = some (.cells #[tv, .pointer (some ⟨R, 1, none⟩), bv, .int .i64 (o : Nat), .int .i64 (m : Nat)] 92 (0, 0)) := by
  rw [hgrow.block R (by simp; omega) hne, Lib.alloc_old w1 _ R (by omega)]
  exact K1.out
 have f2 : w2.frozen? ⟨R, 2, none⟩ = false := frozen_of_row w2 R 2 _ _ hb2
 have d2 : w2.cell? ⟨R, 2, none⟩ = some bv := by rw [cell_of_row w2 R _ _ _ _ hb2]; rfl
 have HB2 := Lib.hid hb2
 have HO2 := Lib.hid hown'
 have HG := Lib.hid hgrow
 have HAT := Lib.hid hat
 clear hb2 hown' hgrow hat
 go_wp2_with fail
 go_ret
 have hset := heap_setCell_same w2 R 2 _ 92 (.slice (some ⟨g, 0, none⟩) (nl + 1) cap) HB2.out
 refine ⟨rfl, .slice (some ⟨g, 0, none⟩) (nl + 1) cap, ⟨⟨.pointer (some ⟨R, 1, none⟩), .inr rfl, hset.trans (by simp)⟩, ?_, HS.out.le⟩, ?_, ?_⟩
 ·have e1 : (out ++ [c]).length = nl + 1 := by rw [List.length_append, HNL.out]; rfl
  rw [e1, u8s_app]
  refine ownsRow_setCell_below ?_ (by simp) _
  exact HO2.out
 ·exact (((K2.out.weak _).trans (Mv.refl _ _) (Wr.of_below (below_alloc w1 _))).trans (Mv.refl _ _) (Wr.of_grown HG.out)).trans (Mv.refl _ _) (Wr.of_set w2 2 _)
 ·intro k hk
  cases hk
  rcases HAT.out with h1 | h1
  ·exact .inl h1
  ·right
   have h2 : g = w1.heap.size + 1 := h1
   show w.heap.size ≤ g
   have := K2.out.size
   omega
theorem run_append_str {P : Program} (base : Nat) (t u ty e : TypeId) (i : TypeInfo) (ht : P.underlying t = some (.slice e)) (hu : P.underlying u = some .string) (hi : P.info? e = some i) (hz : i.zero = some (.int .u8 0))
  (hsize : i.size = 1) (hby : i.bytes = 1) (w : World) (v : Value) (n : Nat) (xs : List Value) (hown : w.ownsRow base e 1 v n xs) (s : ByteArray) (hbytes : n + s.size ≤ 140737488355328) (hbase : base ≤ w.heap.size) :
  ∃ v' w', (Builtin.append_ #[t, u] ty #[v, .string s]).run P w = .ok v' w' ∧ w'.ownsRow base e 1 v' (n + s.size) (xs ++ Lib.strCells s) ∧ w.grownBy w' v.ownBlock ∧ (v'.ownBlock = v.ownBlock ∨ v'.ownBlock = some w.heap.size) := by
 obtain ⟨v', w', hr, h1, h2, h3⟩ := Lib.run_append_own_string (P := P) w base t u ty e i ht hu hi hz hsize hby v n xs hown s (by unfold maxLen; omega) hbytes hbase
 refine ⟨v', w', hr, h1, h2, ?_⟩
 have hxl : xs.length = n := by simpa using hown.1
 rcases hown.2 with ⟨rfl, rfl⟩ | ⟨g, cap, cur, rfl, hbg, hg, hnc, hcm, hcs, htake⟩
 ·by_cases hm : s.size = 0
  ·left; rw [h3.2 ⟨rfl, hm⟩]
  ·have hr2 := run_append_nil_string (P := P) w t u ty e i (.int .u8 0) ht hu hi hz s (by omega) (by omega) (by rw [hby]; omega)
   rw [hr2] at hr
   cases hr
   right; rfl
 ·by_cases hroom : n + s.size ≤ cap
  ·have hcs' : cur.size = cap := by simpa using hcs
   have hr2 := Lib.run_append_room_string (P := P) w t u ty e i ht hu hi hsize g n cap cur hg s hroom (by omega)
   rw [hr2] at hr
   cases hr
   left; rfl
  ·have holds : ∀ j u, xs[j]? = some u → w.cell? ((⟨g, 0, none⟩ : Addr).add j) = some u := hown.cells (g := g) rfl
   have hr2 := Lib.run_append_grow_string (P := P) w t u ty e i (.int .u8 0) ht hu hi hz ⟨g, 0, none⟩ n cap xs (by rw [hsize]; simpa using hxl) holds s (by omega) (by omega) (by rw [hby]; exact growslice_fits (by omega) (by omega))
   rw [hr2] at hr
   cases hr
   right; rfl
theorem wpList_append_str {P : Program} {w : World} {ops : Array Oper} {rest : List Oper} {o : Oper} {a : Act} {Q : Exit → Act → World → Prop} (hgd : o.guard = none) (sl x : Operand) (t u : TypeId)
  (ho : o.op = .call { callee := .builtin .append, args := #[sl, x], argTypes := #[t, u] })
  (base : Nat) (e : TypeId) (i : TypeInfo) (ht : P.underlying t = some (.slice e)) (hu : P.underlying u = some .string) (hi : P.info? e = some i) (hz : i.zero = some (.int .u8 0))
  (hsize : i.size = 1) (hby : i.bytes = 1)
  (v : Value) (n : Nat) (xs : List Value) (hs : a.eval sl = v) (hown : w.ownsRow base e 1 v n xs) (s : ByteArray) (hx : a.eval x = .string s)
  (hbytes : n + s.size ≤ 140737488355328) (hbase : base ≤ w.heap.size)
  (h : ∀ v' w', w'.ownsRow base e 1 v' (n + s.size) (xs ++ Lib.strCells s) → w.grownBy w' v.ownBlock → (v'.ownBlock = v.ownBlock ∨ v'.ownBlock = some w.heap.size) → wpList P ops Q rest (a.put o.dst v') w') : wpList P ops Q (o :: rest) a w := by
 refine wpList_plain hgd fun K hK => ?_
 obtain ⟨v', w', hr, h2, h3, h4⟩ := run_append_str (P := P) base t u o.type e i ht hu hi hz hsize hby w v n xs hown s hbytes hbase
 unfold Oper.wp execOp
 simp only [ho, resolve, invoke, builtin, Sem.run_bind, Sem.run_pure, Result.andThen_ok, List.map_toArray, List.map_cons, List.map_nil, hs, hx, hr]
 exact hK _ _ (h v' w' h2 h3 h4)
theorem strCells_u8s (s : Bytes) : Lib.strCells ⟨s.toArray⟩ = u8s s := by simp [Lib.strCells, u8s]
set_option maxRecDepth 100000 in
set_option maxHeartbeats 2000000 in
theorem bld_str (R : Nat) (tv bv : Value) (out : Bytes) (o m : Nat) (t : Bytes) (w : World) (h : WrS w R tv bv out o m) (hl : out.length ≤ 1099511627776) (ht : t.length ≤ 1099511627776) :
  Calls Tryz.prog 105 #[.pointer (some ⟨R, 1, none⟩), .string ⟨t.toArray⟩] w (WrP R tv bv (out ++ t) o m (.tuple #[.int .i64 (t.length : Nat), .nilIface]) w) := by
 obtain ⟨i0, hi, hz0, hz1, hz2⟩ := info_parts Tryz.infoU8d
 have HS := Lib.hid h
 have hRl := h.lt
 clear h
 obtain ⟨av, ha, hb⟩ := HS.out.blk
 have HB := Lib.hid hb
 obtain ⟨T, hT⟩ : ∃ T : ByteArray, T = ⟨t.toArray⟩ := ⟨_, rfl⟩
 have hTs : T.size = t.length := by rw [hT]; rfl
 have HT := Lib.hid hT
 rw [← hT]
 clear hb hT
 go_enter Tryz.func105, Tryz.ntmps105
 go_wp2_with fail
 refine (bld_check R tv av bv _ _ _ ha HB.out).mono ?_
 rintro e w1 ⟨rfl, k1, k2⟩
 have c2 : w1.cell? ⟨R, 2, none⟩ = some bv := by rw [cell_of_row w1 R _ _ _ _ k1]; rfl
 have HOWN := Lib.hid (wownsRow_wr HS.out.own k2)
 have hR1 := k2.size
 obtain ⟨nl, hnl⟩ : ∃ nl, nl = out.length := ⟨_, rfl⟩
 rw [← hnl] at HOWN hl
 have HNL := Lib.hid hnl
 have K1 := Lib.hid k1
 have K2 := Lib.hid k2
 clear k1 k2 hnl
 go_wp2_with (at_builtin; go_loud (refine wpList_append_str rfl _ _ 88 9 rfl (R + 1) 5 i0 Tryz.underlying88 Tryz.underlying9 hi hz0 hz1 hz2 bv nl (u8s out) rfl HOWN.out T rfl ?d1 ?d2 ?_))
 case d1 => omega
 case d2 => omega
 intro v' w2 hown' hgrow hat
 have hne : some R ≠ bv.ownBlock := fun e => by have := HS.out.gt R e.symm; omega
 have hb2 : w2.heap[R]? = some (.cells #[tv, .pointer (some ⟨R, 1, none⟩), bv, .int .i64 (o : Nat), .int .i64 (m : Nat)] 92 (0, 0)) := by
  rw [hgrow.block R (by omega) hne]
  exact K1.out
 have f2 : w2.frozen? ⟨R, 2, none⟩ = false := frozen_of_row w2 R 2 _ _ hb2
 have d2 : w2.cell? ⟨R, 2, none⟩ = some bv := by rw [cell_of_row w2 R _ _ _ _ hb2]; rfl
 obtain ⟨ao, n', cap, rfl⟩ : ∃ ao n' cap, v' = .slice ao n' cap := by
  rcases hown'.2 with ⟨hv, _⟩ | ⟨g, cap, cur, hv, _⟩
  ·exact ⟨_, _, _, hv⟩
  ·exact ⟨_, _, _, hv⟩
 have HB2 := Lib.hid hb2
 have HO2 := Lib.hid hown'
 have HG := Lib.hid hgrow
 have HAT := Lib.hid hat
 clear hb2 hown' hgrow hat
 go_wp2_with fail
 go_ret2
 have hset := heap_setCell_same w2 R 2 _ 92 (.slice ao n' cap) HB2.out
 refine ⟨rfl, .slice ao n' cap, ⟨⟨.pointer (some ⟨R, 1, none⟩), .inr rfl, hset.trans (by simp)⟩, ?_, HS.out.le⟩, ?_, ?_⟩
 ·have e1 : (out ++ t).length = nl + t.length := by rw [List.length_append, HNL.out]
  rw [e1, u8s_app, ← strCells_u8s t, ← HT.out]
  refine ownsRow_setCell_below ?_ (by simp) _
  exact HO2.out
 ·exact ((K2.out.weak _).trans (Mv.refl _ _) (Wr.of_grown HG.out)).trans (Mv.refl _ _) (Wr.of_set w2 2 _)
 ·intro k hk
  have hk' : (Value.slice ao n' cap).ownBlock = some k := hk
  rcases HAT.out with h1 | h1 <;> rw [h1] at hk'
  ·exact .inl hk'
  ·right; cases hk'; exact K2.out.size
end Go.Proofs.YtgfmiladfeoldaaGreatDoor
namespace Go.Proofs.YtgfmiladfeoldaaGreatDoor
open Go.RowKit NatP LexP
set_option maxRecDepth 100000 in
set_option maxHeartbeats 1000000 in
theorem loose_any (op side part : Nat) (w : World) :
  Calls Tryz.prog 163 #[.int .i64 (op : Nat), .int .i64 (side : Nat), .int .i64 (part : Nat)] w fun e w' => e = .returned (.bool (SynP.loose op side part)) ∧ w = w' := by
 have s1 : (((side : Nat) : Int) == 1) = (side == 1) := by rw [Bool.eq_iff_iff]; simp; omega
 have p4 : (((part : Nat) : Int) == 4) = (part == 4) := by rw [Bool.eq_iff_iff]; simp; omega
 have p9 : (((part : Nat) : Int) == 9) = (part == 9) := by rw [Bool.eq_iff_iff]; simp; omega
 obtain ⟨S, hS⟩ : ∃ S, S = SynP.isSum part := ⟨_, rfl⟩
 obtain ⟨Q, hQ⟩ : ∃ Q, Q = SynP.isProd part := ⟨_, rfl⟩
 have HS := Lib.hid hS
 have HQ := Lib.hid hQ
 clear hS hQ
 by_cases h67 : op = 6 ∨ op = 7
 ·have HV : Hid (SynP.loose op side part = (side == 1 && S)) := by
   show _ = _
   unfold SynP.loose
   rw [HS.out]
   rcases h67 with rfl | rfl <;> rfl
  cases hs : (side == 1) <;> rw [hs] at s1 <;> rcases h67 with rfl | rfl
  all_goals
   have HV2 := HV
   rw [hs] at HV2
   clear HV hs
   go_enter Tryz.func163, Tryz.ntmps163
   go_wp2_with fail
   try (refine (sum_any2 part _).mono ?_; rintro e w1 ⟨rfl, rfl⟩; rw [← HS.out]; go_wp2_with fail)
   go_ret
   exact ⟨by rw [HV2.out]; rfl, rfl⟩
 ·obtain ⟨h6, h7⟩ := not_or.1 h67
  have d6 : (((op : Nat) : Int) == 6) = false := by simp; omega
  have d7 : (((op : Nat) : Int) == 7) = false := by simp; omega
  by_cases h8 : op = 8
  ·subst h8
   have HV : Hid (SynP.loose 8 side part = (S || (side == 1 && Q))) := by
    show _ = _
    unfold SynP.loose
    rw [HS.out, HQ.out]; rfl
   cases S
   ·cases hs : (side == 1) <;> rw [hs] at s1
    all_goals
     have HV2 := HV
     rw [hs] at HV2
     clear HV hs
     go_enter Tryz.func163, Tryz.ntmps163
     go_wp2_with fail
     refine (sum_any2 part _).mono ?_
     rintro e w1 ⟨rfl, rfl⟩
     rw [← HS.out]
     go_wp2_with fail
     try (refine (product_any2 part _).mono ?_; rintro e w1 ⟨rfl, rfl⟩; rw [← HQ.out]; go_wp2_with fail)
     go_ret
     exact ⟨by rw [HV2.out]; rfl, rfl⟩
   ·go_enter Tryz.func163, Tryz.ntmps163
    go_wp2_with fail
    refine (sum_any2 part _).mono ?_
    rintro e w1 ⟨rfl, rfl⟩
    rw [← HS.out]
    go_wp2_with fail
    go_ret
    exact ⟨by rw [HV.out]; rfl, rfl⟩
  ·have d8 : (((op : Nat) : Int) == 8) = false := by simp; omega
   by_cases h4 : op = 4
   ·subst h4
    have HV : Hid (SynP.loose 4 side part = Q) := by
     show _ = _
     unfold SynP.loose
     rw [HQ.out]; rfl
    go_enter Tryz.func163, Tryz.ntmps163
    go_wp2_with fail
    refine (product_any2 part _).mono ?_
    rintro e w1 ⟨rfl, rfl⟩
    rw [← HQ.out]
    go_wp2_with fail
    go_ret
    exact ⟨by rw [HV.out]; rfl, rfl⟩
   ·have d4 : (((op : Nat) : Int) == 4) = false := by simp; omega
    by_cases h95 : op = 9 ∨ op = 5
    ·have HV : Hid (SynP.loose op side part = (Q || part == 4 || part == 9)) := by
      show _ = _
      unfold SynP.loose
      rw [HQ.out]
      rcases h95 with rfl | rfl <;> rfl
     cases Q <;> cases hp : (part == 4) <;> rw [hp] at p4 <;> rcases h95 with rfl | rfl
     all_goals
      have HV2 := HV
      rw [hp] at HV2
      clear HV hp
      go_enter Tryz.func163, Tryz.ntmps163
      go_wp2_with fail
      refine (product_any2 part _).mono ?_
      rintro e w1 ⟨rfl, rfl⟩
      rw [← HQ.out]
      go_wp2_with fail
      go_ret
      exact ⟨by rw [HV2.out]; first | rfl | (rw [p9]; rfl), rfl⟩
    ·obtain ⟨h9, h5⟩ := not_or.1 h95
     have d9 : (((op : Nat) : Int) == 9) = false := by simp; omega
     have d5 : (((op : Nat) : Int) == 5) = false := by simp; omega
     have HV : Hid (SynP.loose op side part = false) := by
      show _ = _
      unfold SynP.loose
      simp [h6, h7, h8, h4, h9, h5]
     clear h67 h95
     go_enter Tryz.func163, Tryz.ntmps163
     go_wp2_with fail
     go_ret
     exact ⟨by rw [HV.out]; rfl, rfl⟩
end Go.Proofs.YtgfmiladfeoldaaGreatDoor
