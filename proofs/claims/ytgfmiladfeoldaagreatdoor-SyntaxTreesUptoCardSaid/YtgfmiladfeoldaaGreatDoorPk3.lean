/- Joined texts of this claim's proof: LexW5, LexW6, LexPure2, LexPure3. -/
import Derived.Test.YtgfmiladfeoldaaGreatDoorPk2
import Derived.Handy
import Derived.Test.YtgfmiladfeoldaaGreatDoorPk1
set_option linter.unusedSimpArgs false
set_option linter.unusedVariables false
namespace Go.Proofs.YtgfmiladfeoldaaGreatDoor
open Go.RowKit LexP
def MarkOk (c : C) : Prop := kd c = 5 → rn c < 128 → c.2 = [(rn c).toUInt8]
theorem encode_small : ∀ r : Fin 128, Utf8.encode (r.val : Int) = ⟨#[r.val.toUInt8]⟩ := by decide +kernel
set_option maxRecDepth 100000 in
theorem sign_any (c : C) (w : World) (hk : kd c = 5) (hc : MarkOk c) :
  Calls Tryz.prog 207 #[.int .i32 (rn c : Nat)] w fun e w' => e = .returned (.string ⟨(signOf c).toArray⟩) ∧ w = w' := by
 have h5 : rn c = 0x2212 ∨ rn c = 0xd7 ∨ rn c < 128 := by
  unfold kd at hk; unfold rn
  cases hv : c.1 with
  | none => rw [hv] at hk; simp at hk
  | some v =>
   rw [hv] at hk
   simp only at hk ⊢
   unfold kindOf at hk
   repeat' split at hk
   all_goals omega
 by_cases h1 : rn c = 0x2212
 ·have hs : signOf c = [45] := by unfold signOf; rw [if_pos h1]
  rw [hs, h1]; clear hs h1 h5 hc hk
  go_enter Tryz.func207, Tryz.ntmps207
  go_wp2
  go_ret
  exact ⟨rfl, rfl⟩
 by_cases h2 : rn c = 0xd7
 ·have hs : signOf c = [42] := by unfold signOf; rw [if_neg h1, if_pos h2]
  rw [hs, h2]; clear hs h1 h2 h5 hc hk
  go_enter Tryz.func207, Tryz.ntmps207
  go_wp2
  go_ret
  exact ⟨rfl, rfl⟩
 have h3 : rn c < 128 := by omega
 have hs : signOf c = [(rn c).toUInt8] := by unfold signOf; rw [if_neg h1, if_neg h2, hc hk h3]
 have he := encode_small ⟨rn c, h3⟩
 simp only at he
 rw [hs]
 have n1 : ((rn c : Int) == 8722) = false := by simp; omega
 have n2 : ((rn c : Int) == 215) = false := by simp; omega
 have HE := Lib.hid he
 clear hs h1 h2 h5 hc hk he
 go_enter Tryz.func207, Tryz.ntmps207
 go_wp2
 go_ret
 exact ⟨by rw [HE.out]; rfl, rfl⟩
def nextRes (cs : List C) (i : Nat) (c : C) : Nat × Bytes × Nat × Nat :=
 if kd c = 0 then (0, [], i, 12)
 else if kd c = 3 then (1, bytesOf ((cs.drop i).take (runLen isNum (cs.drop i))), if badNum (bytesOf ((cs.drop i).take (runLen isNum (cs.drop i)))) then (i, 7) else (i + runLen isNum (cs.drop i), 0))
 else if kd c = 4 then (2, bytesOf ((cs.drop i).take (runLen isAl (cs.drop i))), if 32 < (bytesOf ((cs.drop i).take (runLen isAl (cs.drop i)))).length then (i, 17) else (i + runLen isAl (cs.drop i), 0))
 else if kd c = 5 then (3, signOf c, i + 1, 0)
 else (0, [], i, 13)
def NextPost (r : Nat × Bytes × Nat × Nat) (i : Nat) (w : World) (e : Ending) (w' : World) : Prop :=
 e = .returned (.tuple #[.agg #[.int .i64 (r.1 : Nat), .string ⟨r.2.1.toArray⟩, .int .i64 (i + 1 : Nat)], .int .i64 (r.2.2.1 : Nat), .int .i64 (r.2.2.2 : Nat)]) ∧ Below w.heap.size w w'
theorem next_post {r : Nat × Bytes × Nat × Nat} {i : Nat} {w w' : World} (a b c d e : Value) (ha : a = .int .i64 (r.1 : Nat)) (hb : b = .string ⟨r.2.1.toArray⟩) (hc : c = .int .i64 (i + 1 : Nat)) (hd : d = .int .i64 (r.2.2.1 : Nat))
  (he : e = .int .i64 (r.2.2.2 : Nat)) (hw : Below w.heap.size w w') : NextPost r i w (.returned (.tuple #[.agg #[a, b, c], d, e])) w' := by
 subst ha hb hc hd he; exact ⟨rfl, hw⟩
set_option maxRecDepth 100000 in
set_option maxHeartbeats 1000000 in
theorem next_plain (s : ByteArray) (v : Value) (cs : List C) (i : Nat) (c : C) (w : World) (hr : RdCh w v cs) (hc : cs[i]? = some c) (hn : cs.length ≤ 67108864) (hk : kd c = 0 ∨ kd c = 6 ∨ kd c = 5) (hmk : MarkOk c) :
  Calls Tryz.prog 158 #[.string s, v, .int .i64 (i : Nat)] w (NextPost (nextRes cs i c) i w) := by
 obtain ⟨ao, cap, rfl, hnc, hcm, hsh⟩ := hr.shape
 obtain ⟨g, rfl, hgs, e1, e2, e3⟩ := hsh _ c hc
 have hlt : i < cs.length := (List.getElem?_eq_some_iff.1 hc).1
 clear hsh hr hc hcm
 rcases hk with hk | hk | hk
 ·have hres : nextRes cs i c = (0, [], i, 12) := by unfold nextRes; rw [if_pos hk]
  rw [hres]; rw [hk] at e1; clear hres hk
  go_enter Tryz.func158, Tryz.ntmps158
  go_wp2
  refine bodyPost_ret (by simp [results, Tryz.results158, go_sem]; first | rfl | exact ⟨rfl, rfl⟩ | exact ⟨rfl, rfl, rfl⟩) rfl (next_post _ _ _ _ _ rfl rfl (by first | rfl | simp) rfl rfl ?_)
  go_grown
 ·have hres : nextRes cs i c = (0, [], i, 13) := by unfold nextRes; simp [hk]
  rw [hres]; rw [hk] at e1; clear hres hk
  go_enter Tryz.func158, Tryz.ntmps158
  go_wp2
  refine bodyPost_ret (by simp [results, Tryz.results158, go_sem]; first | rfl | exact ⟨rfl, rfl⟩ | exact ⟨rfl, rfl, rfl⟩) rfl (next_post _ _ _ _ _ rfl rfl (by first | rfl | simp) rfl rfl ?_)
  go_grown
 ·have hres : nextRes cs i c = (3, signOf c, i + 1, 0) := by unfold nextRes; simp [hk]
  have HK := Lib.hid hk
  rw [hres]; rw [hk] at e1; clear hres hk
  go_enter Tryz.func158, Tryz.ntmps158
  go_wp2_with (go_at_call 207; refine (sign_any c _ HK.out hmk).mono ?_; rintro e w' ⟨rfl, rfl⟩)
  refine bodyPost_ret (by simp [results, Tryz.results158, go_sem]; first | rfl | exact ⟨rfl, rfl⟩ | exact ⟨rfl, rfl, rfl⟩) rfl (next_post _ _ _ _ _ rfl rfl (by first | rfl | simp) (by first | rfl | simp) rfl ?_)
  go_grown
end Go.Proofs.YtgfmiladfeoldaaGreatDoor
namespace Go.Proofs.YtgfmiladfeoldaaGreatDoor
open Go.RowKit LexP
theorem bcell {W w1 : World} (hb : Below W.heap.size W w1) : (∀ b o, b < W.heap.size → w1.cell? ⟨b, o, none⟩ = W.cell? ⟨b, o, none⟩) ∧ (∀ b o, b < W.heap.size → w1.frozen? ⟨b, o, none⟩ = W.frozen? ⟨b, o, none⟩) :=
 ⟨fun b o h => hb.cell (p := ⟨b, o, none⟩) h, fun b o h => hb.frozen (p := ⟨b, o, none⟩) h⟩
theorem bytesOf_take_le (l : Bytes) (i n : Nat) : (bytesOf (((chars l).drop i).take n)).length ≤ l.length := by
 have h1 := bytes_len ((chars l).drop i) n
 have h2 : (bytesOf ((chars l).drop i)).length ≤ (bytesOf (chars l)).length := by
  have : bytesOf ((chars l).take i) ++ bytesOf ((chars l).drop i) = bytesOf (chars l) := by simp only [bytesOf]; rw [← List.flatMap_append, List.take_append_drop]
  rw [← this, List.length_append]; omega
 rw [bytesOf_chars] at h2; omega
def Lx (w : World) : Prop := ∃ m, w.cell? ⟨1, 0, none⟩ = some (.int .i64 m)
theorem Lx.lt {w : World} (h : Lx w) : 1 < w.heap.size := by obtain ⟨m, h⟩ := h; exact World.block_lt_of_cell? w _ h
theorem Lx.below {w w' : World} (h : Lx w) (hb : Below w.heap.size w w') : Lx w' := by
 have := h.lt
 obtain ⟨m, h⟩ := h
 exact ⟨m, by rw [hb.cell (p := ⟨_, _, _⟩) this]; exact h⟩
theorem contains_at (s sub : ByteArray) (w : World) (hs : s.size ≤ 67108864) (hx : Lx w) :
  Calls Tryz.prog 205 #[.string s, .string sub] w fun e w' => e = .returned (.bool (Lib.contains s.data.toList sub.data.toList)) ∧ w' = w := by
 obtain ⟨m, hm⟩ := hx
 exact Tryz.strings_Contains s sub m w (by omega) hm
set_option maxRecDepth 100000 in
set_option maxHeartbeats 1000000 in
theorem next_num (s : ByteArray) (v : Value) (i : Nat) (c : C) (w : World) (hr : RdCh w v (chars s.data.toList)) (hc : (chars s.data.toList)[i]? = some c) (hs : s.size ≤ 67108864) (hk : kd c = 3) (hx : Lx w) :
  Calls Tryz.prog 158 #[.string s, v, .int .i64 (i : Nat)] w (NextPost (nextRes (chars s.data.toList) i c) i w) := by
 have hn : (chars s.data.toList).length ≤ 67108864 := by have := chars_len s.data.toList; rw [← Lib.size_eq] at this; omega
 have hlt : i < (chars s.data.toList).length := (List.getElem?_eq_some_iff.1 hc).1
 have HR := Lib.hid hr
 have HX := Lib.hid hx
 have hp : 1 ≤ runLen isNum ((chars s.data.toList).drop i) := by
  rw [List.drop_eq_getElem_cons hlt]
  have := List.getElem?_eq_getElem hlt
  rw [hc] at this
  obtain rfl := Option.some.inj this
  exact runLen_pos (by simp [isNum, hk])
 have hq : i + runLen isNum ((chars s.data.toList).drop i) ≤ (chars s.data.toList).length := by
  have := runLen_le isNum ((chars s.data.toList).drop i); rw [List.length_drop] at this; omega
 obtain ⟨ao, cap, hv, hnc, hcm, hsh⟩ := hr.shape
 obtain ⟨g, hao, hgs, e1, e2, e3⟩ := hsh _ c hc
 subst hao
 have hT : (bytesOf (((chars s.data.toList).drop i).take (runLen isNum ((chars s.data.toList).drop i)))).length ≤ 67108864 := by have := bytesOf_take_le s.data.toList i (runLen isNum ((chars s.data.toList).drop i)); rw [← Lib.size_eq] at this; omega
 obtain ⟨res, hres⟩ : ∃ r, r = nextRes (chars s.data.toList) i c := ⟨_, rfl⟩
 rw [← hres]
 have hres2 : nextRes (chars s.data.toList) i c = (1, bytesOf (((chars s.data.toList).drop i).take (runLen isNum ((chars s.data.toList).drop i))), if badNum (bytesOf (((chars s.data.toList).drop i).take (runLen isNum ((chars s.data.toList).drop i)))) then (i, 7) else (i + runLen isNum ((chars s.data.toList).drop i), 0)) := by unfold nextRes; simp [hk]
 rw [hres2] at hres
 obtain ⟨m, hmm⟩ : ∃ m, runLen isNum ((chars s.data.toList).drop i) = m := ⟨_, rfl⟩
 rw [hmm] at hres hT hq hp
 obtain ⟨T, htt⟩ : ∃ T, bytesOf (((chars s.data.toList).drop i).take m) = T := ⟨_, rfl⟩
 rw [htt] at hres hT
 have HM := Lib.hid hmm
 have HT := Lib.hid htt
 have HRES := Lib.hid hres
 have hTs : (⟨T.toArray⟩ : ByteArray).size ≤ 67108864 := by rw [Lib.size_eq]; simpa using hT
 rw [hk] at e1
 subst hv
 clear hres hres2 hmm htt hk hc hsh hr hx hcm
 go_enter Tryz.func158, Tryz.ntmps158
 go_wp2_with fail
 refine (run_any _ isNum takes_isNum _ (chars s.data.toList) i _ (HR.out.below ?_) (by omega)).mono ?_
 ·go_grown
 rintro e w1 ⟨rfl, hb1⟩
 rw [HM.out]
 go_wp2_with fail
 refine (text_any s _ i (i + m) w1 ((HR.out.below ?_).below hb1) (by omega) hq hs).mono ?_
 ·go_grown
 rintro e w2 ⟨rfl, nn, hw2⟩
 rw [Nat.add_sub_cancel_left, HT.out]
 have hb2 := below_drewN hb1 nn
 rw [← hw2] at hb2
 clear hw2 hb1 HR e1 e2 e3 HM HT
 have hB : Below w.heap.size w w2 := Below.trans (by go_grown) (hb2.mono (by simp; omega))
 obtain ⟨hcc, hff⟩ := bcell hb2
 have hz := hb2.size
 simp only [World.size_alloc] at hz hcc hff
 have q0 : w2.cell? ⟨w.heap.size, 0, none⟩ = some (.int .i64 0) := (hcc _ _ (by omega)).trans (by simp [go_sem])
 have q1 : w2.cell? ⟨w.heap.size, 1, none⟩ = some (.string ⟨#[]⟩) := (hcc _ _ (by omega)).trans (by simp [go_sem])
 have q2 : w2.cell? ⟨w.heap.size, 2, none⟩ = some (.int .i64 0) := (hcc _ _ (by omega)).trans (by simp [go_sem])
 clear hb2
 cases h1 : Lib.hasSuffix T [95] with
 | true =>
  have H1 := Lib.hid h1
  have HB0 : Hid ((if badNum T = true then (i, 7) else (i + m, 0)) = (i, 7)) := by show _ = _; simp [badNum, h1]
  clear h1
  go_wp2_with (go_at_call 204; refine (Tryz.strings_HasSuffix _ _ _ (by omega)).mono ?_; rintro e w' ⟨rfl, rfl⟩; simp only [H1.out])
  have HB := HB0.out
  refine bodyPost_ret (v := .tuple #[.agg #[.int .i64 1, .string ⟨T.toArray⟩, .int .i64 (↑i + 1)], .int .i64 ↑i, .int .i64 7]) (by simp [results, Tryz.results158, go_sem, q0, q1, q2]) rfl (next_post _ _ _ _ _ (by rw [HRES.out] <;> rfl) (by rw [HRES.out]) (by first | rfl | simp) (by rw [HRES.out, HB] <;> first | rfl | simp) (by rw [HRES.out, HB] <;> first | rfl | simp) ?_)
  go_grown
 | false =>
  have H1 := Lib.hid h1
  cases h2 : Lib.contains T [95, 95] with
  | true =>
   have H2 := Lib.hid h2
   have HB0 : Hid ((if badNum T = true then (i, 7) else (i + m, 0)) = (i, 7)) := by show _ = _; simp [badNum, h2]
   clear h1 h2
   go_wp2_with (first | (go_at_call 204; refine (Tryz.strings_HasSuffix _ _ _ (by omega)).mono ?_; rintro e w' ⟨rfl, rfl⟩; simp only [H1.out]) | (go_at_call 205; refine (contains_at _ _ _ hTs (HX.out.below (by go_grown))).mono ?_; rintro e w' ⟨rfl, rfl⟩; simp only [H2.out]))
   have HB := HB0.out
   refine bodyPost_ret (v := .tuple #[.agg #[.int .i64 1, .string ⟨T.toArray⟩, .int .i64 (↑i + 1)], .int .i64 ↑i, .int .i64 7]) (by simp [results, Tryz.results158, go_sem, q0, q1, q2]) rfl (next_post _ _ _ _ _ (by rw [HRES.out] <;> rfl) (by rw [HRES.out]) (by first | rfl | simp) (by rw [HRES.out, HB] <;> first | rfl | simp) (by rw [HRES.out, HB] <;> first | rfl | simp) ?_)
   go_grown
  | false =>
   have H2 := Lib.hid h2
   have HB0 : Hid ((if badNum T = true then (i, 7) else (i + m, 0)) = (i + m, 0)) := by show _ = _; simp [badNum, h1, h2]
   clear h1 h2
   go_wp2_with (first | (go_at_call 204; refine (Tryz.strings_HasSuffix _ _ _ (by omega)).mono ?_; rintro e w' ⟨rfl, rfl⟩; simp only [H1.out]) | (go_at_call 205; refine (contains_at _ _ _ hTs (HX.out.below (by go_grown))).mono ?_; rintro e w' ⟨rfl, rfl⟩; simp only [H2.out]))
   have HB := HB0.out
   refine bodyPost_ret (v := .tuple #[.agg #[.int .i64 1, .string ⟨T.toArray⟩, .int .i64 (↑i + 1)], .int .i64 (↑i + ↑m), .int .i64 0]) (by simp [results, Tryz.results158, go_sem, q0, q1, q2]) rfl (next_post _ _ _ _ _ (by rw [HRES.out] <;> rfl) (by rw [HRES.out]) (by first | rfl | simp) (by rw [HRES.out, HB] <;> first | rfl | simp) (by rw [HRES.out, HB] <;> first | rfl | simp) ?_)
   go_grown
set_option maxRecDepth 100000 in
set_option maxHeartbeats 1000000 in
theorem next_name (s : ByteArray) (v : Value) (i : Nat) (c : C) (w : World) (hr : RdCh w v (chars s.data.toList)) (hc : (chars s.data.toList)[i]? = some c) (hs : s.size ≤ 67108864) (hk : kd c = 4) (hx : Lx w) :
  Calls Tryz.prog 158 #[.string s, v, .int .i64 (i : Nat)] w (NextPost (nextRes (chars s.data.toList) i c) i w) := by
 have hn : (chars s.data.toList).length ≤ 67108864 := by have := chars_len s.data.toList; rw [← Lib.size_eq] at this; omega
 have hlt : i < (chars s.data.toList).length := (List.getElem?_eq_some_iff.1 hc).1
 have HR := Lib.hid hr
 have HX := Lib.hid hx
 have hp : 1 ≤ runLen isAl ((chars s.data.toList).drop i) := by
  rw [List.drop_eq_getElem_cons hlt]
  have := List.getElem?_eq_getElem hlt
  rw [hc] at this
  obtain rfl := Option.some.inj this
  exact runLen_pos (by simp [isAl, hk])
 have hq : i + runLen isAl ((chars s.data.toList).drop i) ≤ (chars s.data.toList).length := by
  have := runLen_le isAl ((chars s.data.toList).drop i); rw [List.length_drop] at this; omega
 obtain ⟨ao, cap, hv, hnc, hcm, hsh⟩ := hr.shape
 obtain ⟨g, hao, hgs, e1, e2, e3⟩ := hsh _ c hc
 subst hao
 have hT : (bytesOf (((chars s.data.toList).drop i).take (runLen isAl ((chars s.data.toList).drop i)))).length ≤ 67108864 := by have := bytesOf_take_le s.data.toList i (runLen isAl ((chars s.data.toList).drop i)); rw [← Lib.size_eq] at this; omega
 obtain ⟨res, hres⟩ : ∃ r, r = nextRes (chars s.data.toList) i c := ⟨_, rfl⟩
 rw [← hres]
 have hres2 : nextRes (chars s.data.toList) i c = (2, bytesOf (((chars s.data.toList).drop i).take (runLen isAl ((chars s.data.toList).drop i))), if 32 < (bytesOf (((chars s.data.toList).drop i).take (runLen isAl ((chars s.data.toList).drop i)))).length then (i, 17) else (i + runLen isAl ((chars s.data.toList).drop i), 0)) := by unfold nextRes; simp [hk]
 rw [hres2] at hres
 obtain ⟨m, hmm⟩ : ∃ m, runLen isAl ((chars s.data.toList).drop i) = m := ⟨_, rfl⟩
 rw [hmm] at hres hT hq hp
 obtain ⟨T, htt⟩ : ∃ T, bytesOf (((chars s.data.toList).drop i).take m) = T := ⟨_, rfl⟩
 rw [htt] at hres hT
 have HM := Lib.hid hmm
 have HT := Lib.hid htt
 have HRES := Lib.hid hres
 have hTs : (⟨T.toArray⟩ : ByteArray).size ≤ 67108864 := by rw [Lib.size_eq]; simpa using hT
 rw [hk] at e1
 subst hv
 clear hres hres2 hmm htt hk hc hsh hr hx hcm
 go_enter Tryz.func158, Tryz.ntmps158
 go_wp2_with fail
 refine (run_any _ isAl takes_isAl _ (chars s.data.toList) i _ (HR.out.below ?_) (by omega)).mono ?_
 ·go_grown
 rintro e w1 ⟨rfl, hb1⟩
 rw [HM.out]
 go_wp2_with fail
 refine (text_any s _ i (i + m) w1 ((HR.out.below ?_).below hb1) (by omega) hq hs).mono ?_
 ·go_grown
 rintro e w2 ⟨rfl, nn, hw2⟩
 rw [Nat.add_sub_cancel_left, HT.out]
 have hb2 := below_drewN hb1 nn
 rw [← hw2] at hb2
 clear hw2 hb1 HR e1 e2 e3 HM HT
 have hB : Below w.heap.size w w2 := Below.trans (by go_grown) (hb2.mono (by simp; omega))
 obtain ⟨hcc, hff⟩ := bcell hb2
 have hz := hb2.size
 simp only [World.size_alloc] at hz hcc hff
 have q0 : w2.cell? ⟨w.heap.size, 0, none⟩ = some (.int .i64 0) := (hcc _ _ (by omega)).trans (by simp [go_sem])
 have q1 : w2.cell? ⟨w.heap.size, 1, none⟩ = some (.string ⟨#[]⟩) := (hcc _ _ (by omega)).trans (by simp [go_sem])
 have q2 : w2.cell? ⟨w.heap.size, 2, none⟩ = some (.int .i64 0) := (hcc _ _ (by omega)).trans (by simp [go_sem])
 clear hb2
 have hsz : (⟨T.toArray⟩ : ByteArray).size = T.length := by rw [Lib.size_eq]
 have HSZ := Lib.hid hsz
 clear hsz
 by_cases h1 : 32 < T.length
 ·have HB0 : Hid ((if 32 < T.length then (i, 17) else (i + m, 0)) = (i, 17)) := by show _ = _; rw [if_pos h1]
  have h3 : (32 : Int) < ((⟨T.toArray⟩ : ByteArray).size : Int) := by rw [HSZ.out]; omega
  go_wp2
  have HB := HB0.out
  refine bodyPost_ret (v := .tuple #[.agg #[.int .i64 2, .string ⟨T.toArray⟩, .int .i64 (↑i + 1)], .int .i64 ↑i, .int .i64 17]) (by simp [results, Tryz.results158, go_sem, q0, q1, q2]) rfl (next_post _ _ _ _ _ (by rw [HRES.out] <;> rfl) (by rw [HRES.out]) (by first | rfl | simp) (by rw [HRES.out, HB] <;> first | rfl | simp) (by rw [HRES.out, HB] <;> first | rfl | simp) ?_)
  go_grown
 ·have HB0 : Hid ((if 32 < T.length then (i, 17) else (i + m, 0)) = (i + m, 0)) := by show _ = _; rw [if_neg h1]
  have h3 : ¬ (32 : Int) < ((⟨T.toArray⟩ : ByteArray).size : Int) := by rw [HSZ.out]; omega
  go_wp2
  have HB := HB0.out
  refine bodyPost_ret (v := .tuple #[.agg #[.int .i64 2, .string ⟨T.toArray⟩, .int .i64 (↑i + 1)], .int .i64 (↑i + ↑m), .int .i64 0]) (by simp [results, Tryz.results158, go_sem, q0, q1, q2]) rfl (next_post _ _ _ _ _ (by rw [HRES.out] <;> rfl) (by rw [HRES.out]) (by first | rfl | simp) (by rw [HRES.out, HB] <;> first | rfl | simp) (by rw [HRES.out, HB] <;> first | rfl | simp) ?_)
  go_grown
theorem next_any (s : ByteArray) (v : Value) (i : Nat) (c : C) (w : World) (hr : RdCh w v (chars s.data.toList)) (hc : (chars s.data.toList)[i]? = some c) (hs : s.size ≤ 67108864) (h1 : kd c ≠ 1) (h2 : kd c ≠ 2) (hmk : MarkOk c) (hx : Lx w) :
  Calls Tryz.prog 158 #[.string s, v, .int .i64 (i : Nat)] w (NextPost (nextRes (chars s.data.toList) i c) i w) := by
 have hk := kd_le c
 have hn : (chars s.data.toList).length ≤ 67108864 := by have := chars_len s.data.toList; rw [← Lib.size_eq] at this; omega
 by_cases h3 : kd c = 3
 ·exact next_num s v i c w hr hc hs h3 hx
 by_cases h4 : kd c = 4
 ·exact next_name s v i c w hr hc hs h4 hx
 exact next_plain s v _ i c w hr hc hn (by omega) hmk
end Go.Proofs.YtgfmiladfeoldaaGreatDoor
namespace LexP
theorem notBad_none (t : Bytes) : notBad (none, t) = false := by simp [notBad, kd]
theorem chars_append_ok : ∀ (a b : Bytes), (chars a).all notBad = true → chars (a ++ b) = chars a ++ chars b := by
 intro a b
 revert a
 apply chars_ind
 ·intro _; simp [chars_nil]
 ·intro l hl ih hall
  have hc := chars_cons hl
  rw [hc] at hall
  simp only [List.all_cons, Bool.and_eq_true] at hall
  cases hd : dec l with
  | none => simp [val, hd, notBad_none] at hall
  | some p =>
   obtain ⟨v, n⟩ := p
   have hw : wid l = n := by simp [wid, hd]
   have hk := dec_width hd
   have h2 := chars_some (dec_append hd b)
   rw [List.drop_append_of_le_length hk.2.1, List.take_append_of_le_length hk.2.1] at h2
   rw [h2, hc, hw]
   rw [hw] at ih hall
   rw [ih hall.2]
   simp [val, hd]
theorem isCont_ascii {g : UInt8} (hg : g.toNat < 0x80) : isCont g = false := by simp [isCont]; omega
theorem dec_ascii_behind {l : Bytes} (hl : l ≠ []) {g : UInt8} (hg : g.toNat < 0x80) (b : Bytes) : dec (l ++ g :: b) = dec l := by
 cases hd : dec l with
 | some p => obtain ⟨v, n⟩ := p; exact dec_append hd _
 | none =>
  have hc := isCont_ascii hg
  cases l with
  | nil => exact absurd rfl hl
  | cons x t =>
   simp only [List.cons_append]
   simp only [dec] at hd ⊢
   by_cases h0 : x.toNat < 0x80
   ·simp [h0] at hd
   rw [if_neg h0]
   by_cases h1 : x.toNat / 32 = 6
   ·rw [if_pos h1]
    simp only [h0, h1, if_true, if_false] at hd
    match t with
    | [] => simp [hc]
    | c :: t => simp only [List.cons_append] at hd ⊢; exact hd
   rw [if_neg h1]
   by_cases h2 : x.toNat / 16 = 14
   ·rw [if_pos h2]
    simp only [h0, h1, h2, if_true, if_false] at hd
    match t with
    | [] => cases b <;> simp [hc]
    | [c] => simp [hc]
    | c :: d :: t => simp only [List.cons_append] at hd ⊢; exact hd
   rw [if_neg h2]
   by_cases h3 : x.toNat / 8 = 30
   ·rw [if_pos h3]
    simp only [h0, h1, h2, h3, if_true, if_false] at hd
    match t with
    | [] => match b with
     | [] => simp
     | [x] => simp
     | x :: y :: r => simp [hc]
    | [c] => cases b <;> simp [hc]
    | [c, d] => simp [hc]
    | c :: d :: f :: t => simp only [List.cons_append] at hd ⊢; exact hd
   ·rw [if_neg h3]
theorem chars_append_ascii {g : UInt8} (hg : g.toNat < 0x80) (b : Bytes) : ∀ a : Bytes, chars (a ++ g :: b) = chars a ++ chars (g :: b) := by
 apply chars_ind
 ·simp [chars_nil]
 ·intro l hl ih
  have h1 := chars_cons hl
  have h2 := chars_cons (l := l ++ g :: b) (by simp)
  have hd := dec_ascii_behind hl hg b
  have hv : val (l ++ g :: b) = val l := by simp [val, hd]
  have hw : wid (l ++ g :: b) = wid l := by simp [wid, hd]
  have hk := wid_le hl
  rw [h2, h1, hv, hw, List.take_append_of_le_length hk, List.drop_append_of_le_length hk, ih]
  rfl
theorem chars_ascii {g : UInt8} (hg : g.toNat < 0x80) (b : Bytes) : chars (g :: b) = (some g.toNat, [g]) :: chars b := by
 have h : dec (g :: b) = some (g.toNat, 1) := by simp [dec, hg]
 rw [chars_some h]; rfl
theorem takeWhile_stop {p : C → Bool} {g : C} (hg : p g = false) (A B : List C) : (A ++ g :: B).takeWhile p = A.takeWhile p := by
 induction A with
 | nil => simp [hg]
 | cons a A ih => simp only [List.cons_append, List.takeWhile_cons]; split <;> simp [ih]
theorem runLen_stop {p : C → Bool} {g : C} (hg : p g = false) (A B : List C) : runLen p (A ++ g :: B) = runLen p A := by
 simp [runLen, takeWhile_stop hg]
def joined (B : Nat → Res) (n : Nat) : Res → Res
 | .ok l => (B n).after l
 | .error e => .error e
theorem joined_after (B : Nat → Res) (n : Nat) (r : Res) (l : List Tok) : joined B n (r.after l) = (joined B n r).after l := by
  cases r with
  | ok m => simp [joined, Res.after]
            cases B n <;> simp
  | error e => rfl
theorem Toks_join {g : C} (hg : kd g = 1) (hr : rn g ≠ 95) (B : List C) : ∀ (n : Nat) (A : List C) (col : Nat), A.length ≤ n → (∀ c ∈ A, kd c ≠ 2) →
  Toks col (A ++ g :: B) = joined (fun k => Toks k B) (col + A.length + 1) (Toks col A) := by
 have hnum : isNum g = false := by simp [isNum, hg, hr]
 have hal : isAl g = false := by simp [isAl, hg]
 intro n
 induction n with
 | zero =>
  intro A col hl _
  obtain rfl : A = [] := List.eq_nil_of_length_eq_zero (by omega)
  simp only [List.nil_append, Toks_nil, joined, List.length_nil, Nat.add_zero]
  rw [Toks_blank _ hg, Res.after_nil]
 | succ n ih =>
  intro A col hl h2
  cases A with
  | nil =>
   simp only [List.nil_append, Toks_nil, joined, List.length_nil, Nat.add_zero]
   rw [Toks_blank _ hg, Res.after_nil]
  | cons c A =>
   simp only [List.length_cons] at hl
   have h2c := h2 c (by simp)
   have h2A : ∀ c ∈ A, kd c ≠ 2 := fun d hd => h2 d (by simp [hd])
   have hk := kd_le c
   have key : ∀ (p : C → Bool) (hp : p g = false) (hpc : p c = true) (t : Tok),
     (Toks (col + runLen p (c :: A)) ((c :: A ++ g :: B).drop (runLen p (c :: A)))).after [t] =
     joined (fun k => Toks k B) (col + (c :: A).length + 1) ((Toks (col + runLen p (c :: A)) ((c :: A).drop (runLen p (c :: A)))).after [t]) := by
    intro p hp hpc t
    have h1 := runLen_pos (cs := A) hpc
    have h3 := runLen_le p (c :: A)
    rw [List.drop_append_of_le_length h3, ih _ _ (by simp only [List.length_drop, List.length_cons]; omega) (fun d hd => h2 d (List.mem_of_mem_drop hd)), joined_after]
    congr 2
    simp only [List.length_drop, List.length_cons] at h3 ⊢
    omega
   have take_eq : ∀ (p : C → Bool), (c :: A ++ g :: B).take (runLen p (c :: A)) = (c :: A).take (runLen p (c :: A)) := fun p => List.take_append_of_le_length (runLen_le p _)
   by_cases k0 : kd c = 0
   ·rw [List.cons_append, Toks_bad _ k0, Toks_bad _ k0]; rfl
   by_cases k1 : kd c = 1
   ·rw [List.cons_append, Toks_blank _ k1, Toks_blank _ k1, ih A _ (by omega) h2A]
    congr 1; simp only [List.length_cons]; omega
   by_cases k3 : kd c = 3
   ·rw [List.cons_append, Toks_num _ k3, Toks_num _ k3]
    rw [← List.cons_append, runLen_stop hnum, take_eq]
    split
    ·rfl
    ·exact key isNum hnum (by simp [isNum, k3]) _
   by_cases k4 : kd c = 4
   ·rw [List.cons_append, Toks_name _ k4, Toks_name _ k4]
    rw [← List.cons_append, runLen_stop hal, take_eq]
    split
    ·rfl
    ·exact key isAl hal (by simp [isAl, k4]) _
   by_cases k5 : kd c = 5
   ·rw [List.cons_append, Toks_mark _ k5, Toks_mark _ k5, ih A _ (by omega) h2A, joined_after]
    congr 2; simp only [List.length_cons]; omega
   ·have k6 : kd c = 6 := by omega
    rw [List.cons_append, Toks_other _ k6, Toks_other _ k6]; rfl
def shiftT (d : Nat) (l : List Tok) : List Tok := l.map fun t => (t.1, t.2.1, t.2.2 + d)
def shiftR (d : Nat) : Res → Res
 | .ok l => .ok (shiftT d l)
 | .error e => .error (e.1 + d, e.2)
theorem shiftR_after (d : Nat) (r : Res) (l : List Tok) : shiftR d (r.after l) = (shiftR d r).after (shiftT d l) := by
 cases r <;> simp [shiftR, Res.after, shiftT]
theorem Toks_shift (d : Nat) : ∀ (n : Nat) (A : List C) (col : Nat), A.length ≤ n → Toks (col + d) A = shiftR d (Toks col A) := by
 intro n
 induction n with
 | zero =>
  intro A col hl
  obtain rfl : A = [] := List.eq_nil_of_length_eq_zero (by omega)
  rfl
 | succ n ih =>
  intro A col hl
  cases A with
  | nil => rfl
  | cons c A =>
   simp only [List.length_cons] at hl
   have hk := kd_le c
   by_cases k0 : kd c = 0
   ·rw [Toks_bad _ k0, Toks_bad _ k0]; rfl
   by_cases k1 : kd c = 1
   ·rw [Toks_blank _ k1, Toks_blank _ k1, ← ih A _ (by omega)]
    congr 1; omega
   by_cases k2 : kd c = 2
   ·rw [Toks_hash _ k2, Toks_hash _ k2]
    split
    ·simp only [shiftR]; congr 2; omega
    ·rfl
   by_cases k3 : kd c = 3
   ·have h1 := runLen_pos (p := isNum) (c := c) (cs := A) (by simp [isNum, k3])
    rw [Toks_num _ k3, Toks_num _ k3]
    split
    ·rfl
    ·rw [shiftR_after, ← ih _ _ (by simp only [List.length_drop, List.length_cons]; omega)]
     congr 2; omega
   by_cases k4 : kd c = 4
   ·have h1 := runLen_pos (p := isAl) (c := c) (cs := A) (by simp [isAl, k4])
    rw [Toks_name _ k4, Toks_name _ k4]
    split
    ·rfl
    ·rw [shiftR_after, ← ih _ _ (by simp only [List.length_drop, List.length_cons]; omega)]
     congr 2; omega
   by_cases k5 : kd c = 5
   ·rw [Toks_mark _ k5, Toks_mark _ k5, shiftR_after, ← ih A _ (by omega)]
    congr 2; omega
   ·have k6 : kd c = 6 := by omega
    rw [Toks_other _ k6, Toks_other _ k6]; rfl
theorem hash_byte : ∀ (a : Bytes), a.any (· == 35) = false → ∀ c ∈ chars a, kd c ≠ 2 := by
 apply chars_ind
 ·intro _ c hc; simp [chars_nil] at hc
 ·intro l hl ih h c hc
  rw [chars_cons hl] at hc
  rcases List.mem_cons.1 hc with rfl | hc
  ·intro hk
   cases l with
   | nil => exact hl rfl
   | cons x t =>
    simp only [List.any_cons, Bool.or_eq_false_iff, beq_eq_false_iff_ne] at h
    unfold kd at hk
    cases hd : dec (x :: t) with
    | none => simp [val, hd] at hk
    | some p =>
     obtain ⟨v, n⟩ := p
     simp only [val, hd, Option.map_some] at hk
     have h35 : v = 35 := by
      unfold kindOf at hk
      repeat' split at hk
      all_goals omega
     subst h35
     simp only [dec] at hd
     split at hd
     ·simp at hd
      exact h.1 (UInt8.toNat_inj.1 (by simpa using hd.1))
     split at hd
     ·split at hd
      ·split at hd
       ·rename_i k; simp only [Bool.and_eq_true, decide_eq_true_eq] at k; simp at hd; omega
       ·simp at hd
      ·cases hd
     split at hd
     ·split at hd
      ·split at hd
       ·rename_i k; simp only [Bool.and_eq_true, decide_eq_true_eq] at k; simp at hd; omega
       ·simp at hd
      ·cases hd
     split at hd
     ·split at hd
      ·split at hd
       ·rename_i k; simp only [Bool.and_eq_true, decide_eq_true_eq] at k; simp at hd; omega
       ·simp at hd
      ·cases hd
     ·cases hd
  ·refine ih ?_ c hc
   rw [List.any_eq_false] at h ⊢
   exact fun x hx => h x (List.mem_of_mem_drop hx)
end LexP
namespace LexP
def resTok : Res → List Tok | .ok l => l | .error _ => []
def resCol : Res → Nat | .ok _ => 0 | .error e => e.1
def resErr : Res → Nat | .ok _ => 0 | .error e => e.2
theorem takeWhile_all {p : C → Bool} (l : List C) : ∀ c ∈ l.take (runLen p l), p c = true := by
 have h1 : l.take (runLen p l) = l.takeWhile p := by
  unfold runLen
  induction l with
  | nil => rfl
  | cons d l ih =>
   by_cases h : p d = true
   ·simp [h, ih]
   ·simp [h]
 intro c hc
 rw [h1] at hc
 have : ∀ (l : List C), ∀ c ∈ l.takeWhile p, p c = true := by
  intro l
  induction l with
  | nil => intro c hc; simp at hc
  | cons d l ih =>
   intro c hc
   rw [List.takeWhile_cons] at hc
   split at hc
   ·rename_i h
    rcases List.mem_cons.1 hc with rfl | hc
    ·exact h
    ·exact ih c hc
   ·simp at hc
 exact this l c hc
theorem Toks_ind {P : Nat → List C → Res → Prop} (h0 : ∀ col, P col [] (.ok []))
  (hblank : ∀ col c A, kd c = 1 → P (col + 1) A (Toks (col + 1) A) → P col (c :: A) (Toks (col + 1) A))
  (hhash : ∀ col c A, kd c = 2 → P col (c :: A) (if runLen notBad (c :: A) < (c :: A).length then .error (col + runLen notBad (c :: A), 12) else .ok []))
  (herr : ∀ col c A e, kd c ≠ 1 → kd c ≠ 2 → 0 < e → P col (c :: A) (.error (col, e)))
  (htok : ∀ col c A n k t, kd c ≠ 0 → kd c ≠ 1 → kd c ≠ 2 → 1 ≤ n → n ≤ (c :: A).length → (∀ d ∈ (c :: A).take n, notBad d = true) →
   P (col + n) ((c :: A).drop n) (Toks (col + n) ((c :: A).drop n)) → P col (c :: A) ((Toks (col + n) ((c :: A).drop n)).after [(k, t, col)])) :
  ∀ A col, P col A (Toks col A) := by
 have main : ∀ n A col, A.length ≤ n → P col A (Toks col A) := by
  intro n
  induction n with
  | zero =>
   intro A col hl
   obtain rfl : A = [] := List.eq_nil_of_length_eq_zero (by omega)
   exact h0 col
  | succ n ih =>
   intro A col hl
   cases A with
   | nil => exact h0 col
   | cons c A =>
    simp only [List.length_cons] at hl
    have hk := kd_le c
    by_cases k0 : kd c = 0
    ·rw [Toks_bad _ k0]; exact herr _ _ _ _ (by omega) (by omega) (by omega)
    by_cases k1 : kd c = 1
    ·rw [Toks_blank _ k1]; exact hblank _ _ _ k1 (ih A _ (by omega))
    by_cases k2 : kd c = 2
    ·rw [Toks_hash _ k2]; exact hhash _ _ _ k2
    by_cases k3 : kd c = 3
    ·have h1 := runLen_pos (p := isNum) (c := c) (cs := A) (by simp [isNum, k3])
     have h2 := runLen_le isNum (c :: A)
     rw [Toks_num _ k3]
     split
     ·exact herr _ _ _ _ k1 k2 (by omega)
     ·refine htok _ _ _ _ _ _ k0 k1 k2 h1 h2 ?_ (ih _ _ (by simp only [List.length_drop, List.length_cons]; omega))
      intro d hd
      have := takeWhile_all _ d hd
      unfold isNum at this
      unfold notBad
      simp only [Bool.or_eq_true, beq_iff_eq] at this
      rcases this with h | h
      ·simp [h]
      ·unfold rn at h; unfold kd
       split at h
       ·rename_i v hv
        have := (kindOf_pos v).1
        simp; omega
       ·omega
    by_cases k4 : kd c = 4
    ·have h1 := runLen_pos (p := isAl) (c := c) (cs := A) (by simp [isAl, k4])
     have h2 := runLen_le isAl (c :: A)
     rw [Toks_name _ k4]
     split
     ·exact herr _ _ _ _ k1 k2 (by omega)
     ·refine htok _ _ _ _ _ _ k0 k1 k2 h1 h2 ?_ (ih _ _ (by simp only [List.length_drop, List.length_cons]; omega))
      intro d hd
      have := takeWhile_all _ d hd
      unfold isAl at this
      unfold notBad
      simp only [Bool.or_eq_true, beq_iff_eq] at this
      rcases this with h | h <;> simp [h]
    by_cases k5 : kd c = 5
    ·rw [Toks_mark _ k5]
     have := htok col c A 1 3 (signOf c) k0 k1 k2 (Nat.le_refl _) (by simp) (by intro d hd; simp at hd; subst hd; simp [notBad, k5])
     simp only [List.drop_succ_cons, List.drop_zero] at this
     exact this (ih A _ (by omega))
    ·have k6 : kd c = 6 := by omega
     rw [Toks_other _ k6]; exact herr _ _ _ _ k1 k2 (by omega)
 exact fun A col => main _ A col (Nat.le_refl _)
theorem Toks_err : ∀ A col e, Toks col A = .error e → 0 < e.2 ∧ col ≤ e.1 ∧ e.1 ≤ col + A.length := by
 refine Toks_ind (P := fun col A r => ∀ e, r = .error e → 0 < e.2 ∧ col ≤ e.1 ∧ e.1 ≤ col + A.length) ?_ ?_ ?_ ?_ ?_
 ·intro col e h; cases h
 ·intro col c A _ ih e h
  have := ih e h
  simp only [List.length_cons]; omega
 ·intro col c A _ e h
  split at h
  ·have := runLen_le notBad (c :: A)
   cases h
   simp only; omega
  ·cases h
 ·intro col c A x _ _ hx e h
  cases h; simp only [List.length_cons]; omega
 ·intro col c A n k t _ _ _ h1 h2 _ ih e h
  cases hr : Toks (col + n) ((c :: A).drop n) with
  | ok l => rw [hr] at h; cases h
  | error x =>
   rw [hr] at h
   simp only [Res.after] at h
   have := ih e (by rw [hr]; exact h)
   simp only [List.length_drop, List.length_cons] at this h2 ⊢
   omega
theorem Toks_bounds : ∀ A col l, Toks col A = .ok l → l.length ≤ A.length ∧ ∀ t ∈ l, col ≤ t.2.2 ∧ t.2.2 < col + A.length := by
 refine Toks_ind (P := fun col A r => ∀ l, r = .ok l → l.length ≤ A.length ∧ ∀ t ∈ l, col ≤ t.2.2 ∧ t.2.2 < col + A.length) ?_ ?_ ?_ ?_ ?_
 ·intro col l h; cases h; simp
 ·intro col c A _ ih l h
  obtain ⟨h1, h2⟩ := ih l h
  simp only [List.length_cons]
  exact ⟨by omega, fun t ht => by have := h2 t ht; omega⟩
 ·intro col c A _ l h
  split at h
  ·cases h
  ·cases h; simp
 ·intro col c A x _ _ hx l h; cases h
 ·intro col c A n k t _ _ _ h1 h2 _ ih l h
  cases hr : Toks (col + n) ((c :: A).drop n) with
  | error x => rw [hr] at h; cases h
  | ok m =>
   rw [hr] at h
   simp only [Res.after, Except.ok.injEq] at h
   obtain ⟨g1, g2⟩ := ih m hr
   simp only [List.length_drop, List.length_cons] at g1 g2 h2 ⊢
   subst h
   refine ⟨by simp; omega, fun x hx => ?_⟩
   simp only [List.singleton_append, List.mem_cons] at hx
   rcases hx with rfl | hx
   ·simp only; omega
   ·have := g2 x hx; omega
theorem beside {a b : Bytes} {g : UInt8} (hg : g = 32 ∨ g = 9) (ha : a.any (· == 35) = false) :
  Toks 1 (chars (a ++ g :: b)) = match Toks 1 (chars a), Toks 1 (chars b) with
   | .error e, _ => .error e
   | .ok _, .error e => .error (e.1 + ((chars a).length + 1), e.2)
   | .ok l, .ok m => .ok (l ++ shiftT ((chars a).length + 1) m) := by
 have hg2 : g.toNat < 0x80 := by rcases hg with rfl | rfl <;> decide
 have hk : kd (some g.toNat, [g]) = 1 := by rcases hg with rfl | rfl <;> decide
 have hr : rn (some g.toNat, [g]) ≠ 95 := by rcases hg with rfl | rfl <;> decide
 rw [chars_append_ascii hg2, chars_ascii hg2, Toks_join hk hr _ _ _ _ (Nat.le_refl _) (hash_byte a ha)]
 cases hA : Toks 1 (chars a) with
 | error e => rfl
 | ok l =>
  simp only [joined]
  have := Toks_shift ((chars a).length + 1) _ (chars b) 1 (Nat.le_refl _)
  rw [show 1 + (chars a).length + 1 = 1 + ((chars a).length + 1) from by omega, this]
  cases Toks 1 (chars b) <;> rfl
end LexP
