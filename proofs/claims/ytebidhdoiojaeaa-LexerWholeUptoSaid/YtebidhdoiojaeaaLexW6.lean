/- Walks of package lexer: next at a number and at a name. -/
import Derived.Test.YtebidhdoiojaeaaLexW5
namespace Go.Proofs.Ytebidhdoiojaeaa
open Go.RowKit LexP

theorem bcell {W w1 : World} (hb : Below W.heap.size W w1) : (∀ b o, b < W.heap.size → w1.cell? ⟨b, o, none⟩ = W.cell? ⟨b, o, none⟩) ∧ (∀ b o, b < W.heap.size → w1.frozen? ⟨b, o, none⟩ = W.frozen? ⟨b, o, none⟩) :=
  ⟨fun b o h => hb.cell (p := ⟨b, o, none⟩) h, fun b o h => hb.frozen (p := ⟨b, o, none⟩) h⟩

theorem bytesOf_take_le (l : Bytes) (i n : Nat) : (bytesOf (((chars l).drop i).take n)).length ≤ l.length := by
  have h1 := bytes_len ((chars l).drop i) n
  have h2 : (bytesOf ((chars l).drop i)).length ≤ (bytesOf (chars l)).length := by
    have : bytesOf ((chars l).take i) ++ bytesOf ((chars l).drop i) = bytesOf (chars l) := by simp only [bytesOf]; rw [← List.flatMap_append, List.take_append_drop]
    rw [← this, List.length_append]; omega
  rw [bytesOf_chars] at h2; omega

/-- Does the variable of package bytealg hold a number, as it does from the start? -/
def Lx (w : World) : Prop := ∃ m, w.cell? ⟨0, 0, none⟩ = some (.int .i64 m)
theorem Lx.lt {w : World} (h : Lx w) : 0 < w.heap.size := by obtain ⟨m, h⟩ := h; exact World.block_lt_of_cell? w _ h
theorem Lx.below {w w' : World} (h : Lx w) (hb : Below w.heap.size w w') : Lx w' := by
  have := h.lt
  obtain ⟨m, h⟩ := h
  exact ⟨m, by rw [hb.cell (p := ⟨_, _, _⟩) this]; exact h⟩

theorem contains_at (s sub : ByteArray) (w : World) (hs : s.size ≤ 4194304) (hx : Lx w) :
    Calls Try.prog 49 #[.string s, .string sub] w fun e w' => e = .returned (.bool (Lib.contains s.data.toList sub.data.toList)) ∧ w' = w := by
  obtain ⟨m, hm⟩ := hx
  exact Try.strings_Contains s sub m w (by omega) hm

set_option maxRecDepth 100000 in
set_option maxHeartbeats 1000000 in
theorem next_num (s : ByteArray) (v : Value) (i : Nat) (c : C) (w : World) (hr : RdCh w v (chars s.data.toList)) (hc : (chars s.data.toList)[i]? = some c) (hs : s.size ≤ 4194304) (hk : kd c = 3) (hx : Lx w) :
    Calls Try.prog 30 #[.string s, v, .int .i64 (i : Nat)] w (NextPost (nextRes (chars s.data.toList) i c) i w) := by
  have hn : (chars s.data.toList).length ≤ 4194304 := by have := chars_len s.data.toList; rw [← Lib.size_eq] at this; omega
  have hlt : i < (chars s.data.toList).length := (List.getElem?_eq_some_iff.1 hc).1
  have HR := Lib.hid hr
  have HX := Lib.hid hx
  have hp : 1 ≤ runLen isNum ((chars s.data.toList).drop i) := by
    rw [List.drop_eq_getElem_cons hlt]
    have := List.getElem?_eq_getElem hlt
    rw [hc] at this
    obtain rfl := Option.some.inj this
    exact runLen_pos (by simp [isNum, hk])
  have hq : i + runLen isNum ((chars s.data.toList).drop i) ≤ (chars s.data.toList).length := by
    have := runLen_le isNum ((chars s.data.toList).drop i); rw [List.length_drop] at this; omega
  obtain ⟨ao, cap, hv, hnc, hcm, hsh⟩ := hr.shape
  obtain ⟨g, hao, hgs, e1, e2, e3⟩ := hsh _ c hc
  subst hao
  have hT : (bytesOf (((chars s.data.toList).drop i).take (runLen isNum ((chars s.data.toList).drop i)))).length ≤ 4194304 := by have := bytesOf_take_le s.data.toList i (runLen isNum ((chars s.data.toList).drop i)); rw [← Lib.size_eq] at this; omega
  obtain ⟨res, hres⟩ : ∃ r, r = nextRes (chars s.data.toList) i c := ⟨_, rfl⟩
  rw [← hres]
  have hres2 : nextRes (chars s.data.toList) i c = (1, bytesOf (((chars s.data.toList).drop i).take (runLen isNum ((chars s.data.toList).drop i))), if badNum (bytesOf (((chars s.data.toList).drop i).take (runLen isNum ((chars s.data.toList).drop i)))) then (i, 7) else (i + runLen isNum ((chars s.data.toList).drop i), 0)) := by unfold nextRes; simp [hk]
  rw [hres2] at hres
  obtain ⟨m, hmm⟩ : ∃ m, runLen isNum ((chars s.data.toList).drop i) = m := ⟨_, rfl⟩
  rw [hmm] at hres hT hq hp
  obtain ⟨T, htt⟩ : ∃ T, bytesOf (((chars s.data.toList).drop i).take m) = T := ⟨_, rfl⟩
  rw [htt] at hres hT
  have HM := Lib.hid hmm
  have HT := Lib.hid htt
  have HRES := Lib.hid hres
  have hTs : (⟨T.toArray⟩ : ByteArray).size ≤ 4194304 := by rw [Lib.size_eq]; simpa using hT
  rw [hk] at e1
  subst hv
  clear hres hres2 hmm htt hk hc hsh hr hx hcm
  go_enter Try.func30, Try.ntmps30
  go_wp2_with fail
  refine (run_any _ isNum takes_isNum _ (chars s.data.toList) i _ (HR.out.below ?_) (by omega)).mono ?_
  · go_grown
  rintro e w1 ⟨rfl, hb1⟩
  rw [HM.out]
  go_wp2_with fail
  refine (text_any s _ i (i + m) w1 ((HR.out.below ?_).below hb1) (by omega) hq hs).mono ?_
  · go_grown
  rintro e w2 ⟨rfl, nn, hw2⟩
  rw [Nat.add_sub_cancel_left, HT.out]
  have hb2 := below_drewN hb1 nn
  rw [← hw2] at hb2
  clear hw2 hb1 HR e1 e2 e3 HM HT
  have hB : Below w.heap.size w w2 := Below.trans (by go_grown) (hb2.mono (by simp; omega))
  obtain ⟨hcc, hff⟩ := bcell hb2
  have hz := hb2.size
  simp only [World.size_alloc] at hz hcc hff
  have q0 : w2.cell? ⟨w.heap.size, 0, none⟩ = some (.int .i64 0) := (hcc _ _ (by omega)).trans (by simp [go_sem])
  have q1 : w2.cell? ⟨w.heap.size, 1, none⟩ = some (.string ⟨#[]⟩) := (hcc _ _ (by omega)).trans (by simp [go_sem])
  have q2 : w2.cell? ⟨w.heap.size, 2, none⟩ = some (.int .i64 0) := (hcc _ _ (by omega)).trans (by simp [go_sem])
  clear hb2
  cases h1 : Lib.hasSuffix T [95] with
  | true =>
    have H1 := Lib.hid h1
    have HB0 : Hid ((if badNum T = true then (i, 7) else (i + m, 0)) = (i, 7)) := by show _ = _; simp [badNum, h1]
    clear h1
    go_wp2_with (go_at_call 48; refine (Try.strings_HasSuffix _ _ _ (by omega)).mono ?_; rintro e w' ⟨rfl, rfl⟩; simp only [H1.out])
    have HB := HB0.out
    refine bodyPost_ret (v := .tuple #[.agg #[.int .i64 1, .string ⟨T.toArray⟩, .int .i64 (↑i + 1)], .int .i64 ↑i, .int .i64 7]) (by simp [results, Try.results30, go_sem, q0, q1, q2]) rfl (next_post _ _ _ _ _ (by rw [HRES.out] <;> rfl) (by rw [HRES.out]) (by first | rfl | simp) (by rw [HRES.out, HB] <;> first | rfl | simp) (by rw [HRES.out, HB] <;> first | rfl | simp) ?_)
    go_grown
  | false =>
    have H1 := Lib.hid h1
    cases h2 : Lib.contains T [95, 95] with
    | true =>
      have H2 := Lib.hid h2
      have HB0 : Hid ((if badNum T = true then (i, 7) else (i + m, 0)) = (i, 7)) := by show _ = _; simp [badNum, h2]
      clear h1 h2
      go_wp2_with (first | (go_at_call 48; refine (Try.strings_HasSuffix _ _ _ (by omega)).mono ?_; rintro e w' ⟨rfl, rfl⟩; simp only [H1.out]) | (go_at_call 49; refine (contains_at _ _ _ hTs (HX.out.below (by go_grown))).mono ?_; rintro e w' ⟨rfl, rfl⟩; simp only [H2.out]))
      have HB := HB0.out
      refine bodyPost_ret (v := .tuple #[.agg #[.int .i64 1, .string ⟨T.toArray⟩, .int .i64 (↑i + 1)], .int .i64 ↑i, .int .i64 7]) (by simp [results, Try.results30, go_sem, q0, q1, q2]) rfl (next_post _ _ _ _ _ (by rw [HRES.out] <;> rfl) (by rw [HRES.out]) (by first | rfl | simp) (by rw [HRES.out, HB] <;> first | rfl | simp) (by rw [HRES.out, HB] <;> first | rfl | simp) ?_)
      go_grown
    | false =>
      have H2 := Lib.hid h2
      have HB0 : Hid ((if badNum T = true then (i, 7) else (i + m, 0)) = (i + m, 0)) := by show _ = _; simp [badNum, h1, h2]
      clear h1 h2
      go_wp2_with (first | (go_at_call 48; refine (Try.strings_HasSuffix _ _ _ (by omega)).mono ?_; rintro e w' ⟨rfl, rfl⟩; simp only [H1.out]) | (go_at_call 49; refine (contains_at _ _ _ hTs (HX.out.below (by go_grown))).mono ?_; rintro e w' ⟨rfl, rfl⟩; simp only [H2.out]))
      have HB := HB0.out
      refine bodyPost_ret (v := .tuple #[.agg #[.int .i64 1, .string ⟨T.toArray⟩, .int .i64 (↑i + 1)], .int .i64 (↑i + ↑m), .int .i64 0]) (by simp [results, Try.results30, go_sem, q0, q1, q2]) rfl (next_post _ _ _ _ _ (by rw [HRES.out] <;> rfl) (by rw [HRES.out]) (by first | rfl | simp) (by rw [HRES.out, HB] <;> first | rfl | simp) (by rw [HRES.out, HB] <;> first | rfl | simp) ?_)
      go_grown

set_option maxRecDepth 100000 in
set_option maxHeartbeats 1000000 in
theorem next_name (s : ByteArray) (v : Value) (i : Nat) (c : C) (w : World) (hr : RdCh w v (chars s.data.toList)) (hc : (chars s.data.toList)[i]? = some c) (hs : s.size ≤ 4194304) (hk : kd c = 4) (hx : Lx w) :
    Calls Try.prog 30 #[.string s, v, .int .i64 (i : Nat)] w (NextPost (nextRes (chars s.data.toList) i c) i w) := by
  have hn : (chars s.data.toList).length ≤ 4194304 := by have := chars_len s.data.toList; rw [← Lib.size_eq] at this; omega
  have hlt : i < (chars s.data.toList).length := (List.getElem?_eq_some_iff.1 hc).1
  have HR := Lib.hid hr
  have HX := Lib.hid hx
  have hp : 1 ≤ runLen isAl ((chars s.data.toList).drop i) := by
    rw [List.drop_eq_getElem_cons hlt]
    have := List.getElem?_eq_getElem hlt
    rw [hc] at this
    obtain rfl := Option.some.inj this
    exact runLen_pos (by simp [isAl, hk])
  have hq : i + runLen isAl ((chars s.data.toList).drop i) ≤ (chars s.data.toList).length := by
    have := runLen_le isAl ((chars s.data.toList).drop i); rw [List.length_drop] at this; omega
  obtain ⟨ao, cap, hv, hnc, hcm, hsh⟩ := hr.shape
  obtain ⟨g, hao, hgs, e1, e2, e3⟩ := hsh _ c hc
  subst hao
  have hT : (bytesOf (((chars s.data.toList).drop i).take (runLen isAl ((chars s.data.toList).drop i)))).length ≤ 4194304 := by have := bytesOf_take_le s.data.toList i (runLen isAl ((chars s.data.toList).drop i)); rw [← Lib.size_eq] at this; omega
  obtain ⟨res, hres⟩ : ∃ r, r = nextRes (chars s.data.toList) i c := ⟨_, rfl⟩
  rw [← hres]
  have hres2 : nextRes (chars s.data.toList) i c = (2, bytesOf (((chars s.data.toList).drop i).take (runLen isAl ((chars s.data.toList).drop i))), if 32 < (bytesOf (((chars s.data.toList).drop i).take (runLen isAl ((chars s.data.toList).drop i)))).length then (i, 17) else (i + runLen isAl ((chars s.data.toList).drop i), 0)) := by unfold nextRes; simp [hk]
  rw [hres2] at hres
  obtain ⟨m, hmm⟩ : ∃ m, runLen isAl ((chars s.data.toList).drop i) = m := ⟨_, rfl⟩
  rw [hmm] at hres hT hq hp
  obtain ⟨T, htt⟩ : ∃ T, bytesOf (((chars s.data.toList).drop i).take m) = T := ⟨_, rfl⟩
  rw [htt] at hres hT
  have HM := Lib.hid hmm
  have HT := Lib.hid htt
  have HRES := Lib.hid hres
  have hTs : (⟨T.toArray⟩ : ByteArray).size ≤ 4194304 := by rw [Lib.size_eq]; simpa using hT
  rw [hk] at e1
  subst hv
  clear hres hres2 hmm htt hk hc hsh hr hx hcm
  go_enter Try.func30, Try.ntmps30
  go_wp2_with fail
  refine (run_any _ isAl takes_isAl _ (chars s.data.toList) i _ (HR.out.below ?_) (by omega)).mono ?_
  · go_grown
  rintro e w1 ⟨rfl, hb1⟩
  rw [HM.out]
  go_wp2_with fail
  refine (text_any s _ i (i + m) w1 ((HR.out.below ?_).below hb1) (by omega) hq hs).mono ?_
  · go_grown
  rintro e w2 ⟨rfl, nn, hw2⟩
  rw [Nat.add_sub_cancel_left, HT.out]
  have hb2 := below_drewN hb1 nn
  rw [← hw2] at hb2
  clear hw2 hb1 HR e1 e2 e3 HM HT
  have hB : Below w.heap.size w w2 := Below.trans (by go_grown) (hb2.mono (by simp; omega))
  obtain ⟨hcc, hff⟩ := bcell hb2
  have hz := hb2.size
  simp only [World.size_alloc] at hz hcc hff
  have q0 : w2.cell? ⟨w.heap.size, 0, none⟩ = some (.int .i64 0) := (hcc _ _ (by omega)).trans (by simp [go_sem])
  have q1 : w2.cell? ⟨w.heap.size, 1, none⟩ = some (.string ⟨#[]⟩) := (hcc _ _ (by omega)).trans (by simp [go_sem])
  have q2 : w2.cell? ⟨w.heap.size, 2, none⟩ = some (.int .i64 0) := (hcc _ _ (by omega)).trans (by simp [go_sem])
  clear hb2
  have hsz : (⟨T.toArray⟩ : ByteArray).size = T.length := by rw [Lib.size_eq]
  have HSZ := Lib.hid hsz
  clear hsz
  by_cases h1 : 32 < T.length
  · have HB0 : Hid ((if 32 < T.length then (i, 17) else (i + m, 0)) = (i, 17)) := by show _ = _; rw [if_pos h1]
    have h3 : (32 : Int) < ((⟨T.toArray⟩ : ByteArray).size : Int) := by rw [HSZ.out]; omega
    go_wp2
    have HB := HB0.out
    refine bodyPost_ret (v := .tuple #[.agg #[.int .i64 2, .string ⟨T.toArray⟩, .int .i64 (↑i + 1)], .int .i64 ↑i, .int .i64 17]) (by simp [results, Try.results30, go_sem, q0, q1, q2]) rfl (next_post _ _ _ _ _ (by rw [HRES.out] <;> rfl) (by rw [HRES.out]) (by first | rfl | simp) (by rw [HRES.out, HB] <;> first | rfl | simp) (by rw [HRES.out, HB] <;> first | rfl | simp) ?_)
    go_grown
  · have HB0 : Hid ((if 32 < T.length then (i, 17) else (i + m, 0)) = (i + m, 0)) := by show _ = _; rw [if_neg h1]
    have h3 : ¬ (32 : Int) < ((⟨T.toArray⟩ : ByteArray).size : Int) := by rw [HSZ.out]; omega
    go_wp2
    have HB := HB0.out
    refine bodyPost_ret (v := .tuple #[.agg #[.int .i64 2, .string ⟨T.toArray⟩, .int .i64 (↑i + 1)], .int .i64 (↑i + ↑m), .int .i64 0]) (by simp [results, Try.results30, go_sem, q0, q1, q2]) rfl (next_post _ _ _ _ _ (by rw [HRES.out] <;> rfl) (by rw [HRES.out]) (by first | rfl | simp) (by rw [HRES.out, HB] <;> first | rfl | simp) (by rw [HRES.out, HB] <;> first | rfl | simp) ?_)
    go_grown

theorem nextRes_rest (cs : List C) (i : Nat) (c : C) (h : kd c ≠ 0 ∧ kd c ≠ 3 ∧ kd c ≠ 4 ∧ kd c ≠ 5) : nextRes cs i c = (0, [], i, 13) := by unfold nextRes; simp [h]

/-- next at a character that is no blank and begins no comment. -/
theorem next_any (s : ByteArray) (v : Value) (i : Nat) (c : C) (w : World) (hr : RdCh w v (chars s.data.toList)) (hc : (chars s.data.toList)[i]? = some c) (hs : s.size ≤ 4194304) (h1 : kd c ≠ 1) (h2 : kd c ≠ 2) (hmk : MarkOk c) (hx : Lx w) :
    Calls Try.prog 30 #[.string s, v, .int .i64 (i : Nat)] w (NextPost (nextRes (chars s.data.toList) i c) i w) := by
  have hk := kd_le c
  have hn : (chars s.data.toList).length ≤ 4194304 := by have := chars_len s.data.toList; rw [← Lib.size_eq] at this; omega
  by_cases h3 : kd c = 3
  · exact next_num s v i c w hr hc hs h3 hx
  by_cases h4 : kd c = 4
  · exact next_name s v i c w hr hc hs h4 hx
  exact next_plain s v _ i c w hr hc hn (by omega) hmk
end Go.Proofs.Ytebidhdoiojaeaa
