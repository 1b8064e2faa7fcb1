/- LexerCuts, for arguments of bulk at most 1048576: the lines of two texts joined by a line feed; one line. -/
import Derived.Test.YtebidhdoiojaeaaLexRow
import Derived.Test.YtebidhdoiojaeaaLexLines
import Derived.Test.YtebidhdoiojaeaaLexPure2
import Derived.Laws.AppendOwnNone
namespace Go.Proofs.Ytebidhdoiojaeaa
open Go.ChangeShapes Go.WideShapes Go.ChangeAt Go.RowKit LexP
open Go.ChangeMaps (open_string shut_string)

theorem stCells_one (l : List Bytes) : ∀ u ∈ stCells l, u.oneCell' = true := by
  intro u hu
  simp only [stCells, List.mem_map] at hu
  obtain ⟨t, _, rfl⟩ := hu
  rfl

theorem lf_data (s : ByteArray) : (s ++ ⟨#[10]⟩).data.toList = s.data.toList ++ [10] := by simp
theorem lf_data2 (s t : ByteArray) : (s ++ ⟨#[10]⟩ ++ t).data.toList = s.data.toList ++ 10 :: t.data.toList := by simp

set_option maxRecDepth 100000 in
set_option maxHeartbeats 4000000 in
theorem cuts_lf (s t : ByteArray) (w : World) (hs : s.size + t.size ≤ 1048574) (hx : Lx w) (hcase : hasB s.data.toList 10 = true) :
    Calls Try.prog 7 #[.string s, .string t] w fun e w' => e = .returned (.bool true) ∧ Below w.heap.size w w' := by
  obtain ⟨i0, hi, hz0, hz1, hz2⟩ := info_parts Try.infoStr
  have HX := Lib.hid hx
  have hjoin := lines_join t.data.toList _ s.data.toList (Nat.le_refl _)
  have HJ := Lib.hid hjoin
  have hl1 : (lines (s.data.toList ++ [10])).length ≤ 1048576 := by have := lines_len _ (s.data.toList ++ [10]) (Nat.le_refl _); rw [List.length_append, ← Lib.size_eq] at this; simp at this; omega
  have hl2 : (lines t.data.toList).length ≤ 1048576 := by have := lines_len _ t.data.toList (Nat.le_refl _); rw [← Lib.size_eq] at this; omega
  have hss : s.size ≤ 1048576 := by omega
  have HH := Lib.hid hcase
  clear hx hjoin hcase
  go_enter Try.func7, Try.ntmps7
  go_wp2_with fail
  refine (awake_any _ HX.out).mono ?_
  rintro e w1 ⟨rfl, hb1⟩
  go_wp2_with fail
  refine (lines_any (s ++ _) _ (by rw [ByteArray.size_append]; show s.size + 1 ≤ _; omega) (HX.out.below hb1)).mono ?_
  rintro e w2 ⟨vl, rfl, hol, hb2⟩
  have B2 := hb1.trans (hb2.mono hb1.size)
  rw [lf_data] at hol
  go_wp2_with fail
  refine (lines_any t _ (by omega) (HX.out.below B2)).mono ?_
  rintro e w3 ⟨vr, rfl, hor, hb3⟩
  have B3 := B2.trans (hb3.mono B2.size)
  go_wp2_with fail
  refine (lines_any (s ++ _ ++ t) _ (by simp only [ByteArray.size_append]; show s.size + 1 + t.size ≤ _; omega) (HX.out.below B3)).mono ?_
  rintro e w4 ⟨va, rfl, hoa, hb4⟩
  have B4 := B3.trans (hb4.mono B3.size)
  rw [lf_data2, HJ.out] at hoa
  have OL : Hid (w4.ownsRow w1.heap.size 9 1 vl (lines (s.data.toList ++ [10])).length (stCells (lines (s.data.toList ++ [10])))) := ownsRow_below (ownsRow_below hol hb3 (Nat.le_refl _)) hb4 (Nat.le_refl _)
  have hor4 := ownsRow_below hor hb4 (Nat.le_refl _)
  have hSM : w1.heap.size ≤ w4.heap.size := by have := hb2.size; have := hb3.size; have := hb4.size; omega
  have hSN := hb1.size
  have HAP : Hid (va.ownBlock = none ∨ va.ownBlock ≠ vl.ownBlock) := by
    show _ ∨ _
    cases hz : va.ownBlock with
    | none => exact .inl rfl
    | some k =>
      right
      intro h
      have h1 := (hoa.lt k hz).1
      have h2 := (hol.lt k h.symm).2
      have := hb3.size
      omega
  have HOA := Lib.hid hoa
  have HB4 := Lib.hid B4
  have hlR : (stCells (lines t.data.toList)).length = (lines t.data.toList).length * 1 := by simp [stCells]
  -- the joined list, however it was made
  have join : ∀ (v9 : Value) (w9 : World), w9.ownsRow w1.heap.size 9 1 v9 ((lines (s.data.toList ++ [10])).length + (lines t.data.toList).length) (stCells (lines (s.data.toList ++ [10])) ++ stCells (lines t.data.toList)) → w4.grownBy w9 vl.ownBlock →
      RdSt w9 v9 (lines (s.data.toList ++ [10]) ++ lines t.data.toList) ∧ RdSt w9 va (lines (s.data.toList ++ [10]) ++ lines t.data.toList) ∧ Below w.heap.size w w9 := by
    intro v9 w9 ho hg
    refine ⟨?_, ?_, Below.grown HB4.out hg HB4.out.size (fun q hq => Nat.le_trans hSN (OL.out.lt q hq).1)⟩
    · have e : stCells (lines (s.data.toList ++ [10]) ++ lines t.data.toList) = stCells (lines (s.data.toList ++ [10])) ++ stCells (lines t.data.toList) := by simp [stCells]
      unfold RdSt
      rw [e, List.length_append]
      exact ownsRow_mono ho (Nat.zero_le _)
    · exact ownsRow_mono (HOA.out.kept hg HAP.out) (Nat.zero_le _)
  have HJN := Lib.hid join
  have HLR := Lib.hid hlR
  clear join hol hor hoa B2 B3 B4 hb1 hb2 hb3 hb4 hlR
  rcases ownsRow_open hor4 with ⟨rfl, hn0, hx0⟩ | ⟨gr, capr, rfl, hbg, hgs, hnc, hcm, -⟩
  · obtain ⟨j1, j2, j3⟩ := HJN.out vl w4 (by have h := OL.out; rw [hn0, hx0, Nat.add_zero, List.append_nil]; exact h) (World.grownBy.refl _ _)
    clear hor4 hn0 hx0
    go_wp2_with (at_builtin; refine wpList_append_own_none rfl _ _ 36 rfl w1.heap.size 9 i0 1 Try.underlying36 hi vl _ _ rfl OL.out rfl ?_)
    have J1 := Lib.hid j1
    have J2 := Lib.hid j2
    have J3 := Lib.hid j3
    clear j1 j2 j3
    go_wp2_with fail
    refine (texts_same _ _ _ _ J2.out J1.out).mono ?_
    rintro e w10 ⟨rfl, hb10⟩
    have J10 : Hid (Below w.heap.size w w10) := J3.out.trans (hb10.mono J3.out.size)
    clear hb10 J1 J2 J3
    go_wp2_with fail
    refine (has_any s 10 _ (by unfold maxLen; omega)).mono ?_
    rintro e w7 ⟨rfl, rfl⟩
    rw [HH.out]
    go_wp2_with fail
    go_ret
    exact ⟨rfl, J10.out⟩
  · have hcr := hor4.cells (g := gr) rfl
    have HCR := Lib.hid hcr
    clear hcr hor4 hcm
    go_wp2_with (at_builtin; refine wpList_append_own _ rfl _ _ 36 rfl w1.heap.size 9 i0 (.string ⟨#[]⟩) 1 16 Try.underlying36 hi hz0 hz1 hz2 rfl (by decide) _ _ _ rfl OL.out ⟨gr, 0, none⟩ (lines t.data.toList).length capr (stCells (lines t.data.toList)) rfl HLR.out HCR.out (stCells_one _) ?c3 ?c4 ?c5 ?_)
    case c3 => unfold maxLen; omega
    case c4 => omega
    case c5 => exact hSM
    intro v9 w9 hown9 hgrow9 _
    obtain ⟨j1, j2, j3⟩ := HJN.out v9 w9 hown9 hgrow9
    clear hown9 hgrow9
    have J1 := Lib.hid j1
    have J2 := Lib.hid j2
    have J3 := Lib.hid j3
    clear j1 j2 j3
    go_wp2_with fail
    refine (texts_same _ _ _ _ J2.out J1.out).mono ?_
    rintro e w10 ⟨rfl, hb10⟩
    have J10 : Hid (Below w.heap.size w w10) := J3.out.trans (hb10.mono J3.out.size)
    clear hb10 J1 J2 J3
    go_wp2_with fail
    refine (has_any s 10 _ (by unfold maxLen; omega)).mono ?_
    rintro e w7 ⟨rfl, rfl⟩
    rw [HH.out]
    go_wp2_with fail
    go_ret
    exact ⟨rfl, J10.out⟩

set_option maxRecDepth 100000 in
set_option maxHeartbeats 4000000 in
theorem cuts_empty (s t : ByteArray) (w : World) (hs : s.size + t.size ≤ 1048574) (hx : Lx w) (hcase : hasB s.data.toList 10 = false) (he : s.data.toList = []) :
    Calls Try.prog 7 #[.string s, .string t] w fun e w' => e = .returned (.bool true) ∧ Below w.heap.size w w' := by
  obtain ⟨i0, hi, hz0, hz1, hz2⟩ := info_parts Try.infoStr
  have HX := Lib.hid hx
  have hjoin := lines_join t.data.toList _ s.data.toList (Nat.le_refl _)
  have HJ := Lib.hid hjoin
  have hl1 : (lines (s.data.toList ++ [10])).length ≤ 1048576 := by have := lines_len _ (s.data.toList ++ [10]) (Nat.le_refl _); rw [List.length_append, ← Lib.size_eq] at this; simp at this; omega
  have hl2 : (lines t.data.toList).length ≤ 1048576 := by have := lines_len _ t.data.toList (Nat.le_refl _); rw [← Lib.size_eq] at this; omega
  have hss : s.size ≤ 1048576 := by omega
  have HH := Lib.hid hcase
  have HE := Lib.hid he
  have hse0 : s.size = 0 := by rw [Lib.size_eq, he]; rfl
  clear he
  clear hx hjoin hcase
  go_enter Try.func7, Try.ntmps7
  go_wp2_with fail
  refine (awake_any _ HX.out).mono ?_
  rintro e w1 ⟨rfl, hb1⟩
  go_wp2_with fail
  refine (lines_any (s ++ _) _ (by rw [ByteArray.size_append]; show s.size + 1 ≤ _; omega) (HX.out.below hb1)).mono ?_
  rintro e w2 ⟨vl, rfl, hol, hb2⟩
  have B2 := hb1.trans (hb2.mono hb1.size)
  rw [lf_data] at hol
  go_wp2_with fail
  refine (lines_any t _ (by omega) (HX.out.below B2)).mono ?_
  rintro e w3 ⟨vr, rfl, hor, hb3⟩
  have B3 := B2.trans (hb3.mono B2.size)
  go_wp2_with fail
  refine (lines_any (s ++ _ ++ t) _ (by simp only [ByteArray.size_append]; show s.size + 1 + t.size ≤ _; omega) (HX.out.below B3)).mono ?_
  rintro e w4 ⟨va, rfl, hoa, hb4⟩
  have B4 := B3.trans (hb4.mono B3.size)
  rw [lf_data2, HJ.out] at hoa
  have OL : Hid (w4.ownsRow w1.heap.size 9 1 vl (lines (s.data.toList ++ [10])).length (stCells (lines (s.data.toList ++ [10])))) := ownsRow_below (ownsRow_below hol hb3 (Nat.le_refl _)) hb4 (Nat.le_refl _)
  have hor4 := ownsRow_below hor hb4 (Nat.le_refl _)
  have hSM : w1.heap.size ≤ w4.heap.size := by have := hb2.size; have := hb3.size; have := hb4.size; omega
  have hSN := hb1.size
  have HAP : Hid (va.ownBlock = none ∨ va.ownBlock ≠ vl.ownBlock) := by
    show _ ∨ _
    cases hz : va.ownBlock with
    | none => exact .inl rfl
    | some k =>
      right
      intro h
      have h1 := (hoa.lt k hz).1
      have h2 := (hol.lt k h.symm).2
      have := hb3.size
      omega
  have HOA := Lib.hid hoa
  have HB4 := Lib.hid B4
  have hlR : (stCells (lines t.data.toList)).length = (lines t.data.toList).length * 1 := by simp [stCells]
  -- the joined list, however it was made
  have join : ∀ (v9 : Value) (w9 : World), w9.ownsRow w1.heap.size 9 1 v9 ((lines (s.data.toList ++ [10])).length + (lines t.data.toList).length) (stCells (lines (s.data.toList ++ [10])) ++ stCells (lines t.data.toList)) → w4.grownBy w9 vl.ownBlock →
      RdSt w9 v9 (lines (s.data.toList ++ [10]) ++ lines t.data.toList) ∧ RdSt w9 va (lines (s.data.toList ++ [10]) ++ lines t.data.toList) ∧ Below w.heap.size w w9 := by
    intro v9 w9 ho hg
    refine ⟨?_, ?_, Below.grown HB4.out hg HB4.out.size (fun q hq => Nat.le_trans hSN (OL.out.lt q hq).1)⟩
    · have e : stCells (lines (s.data.toList ++ [10]) ++ lines t.data.toList) = stCells (lines (s.data.toList ++ [10])) ++ stCells (lines t.data.toList) := by simp [stCells]
      unfold RdSt
      rw [e, List.length_append]
      exact ownsRow_mono ho (Nat.zero_le _)
    · exact ownsRow_mono (HOA.out.kept hg HAP.out) (Nat.zero_le _)
  have HJN := Lib.hid join
  have HLR := Lib.hid hlR
  clear join hol hor hoa B2 B3 B4 hb1 hb2 hb3 hb4 hlR
  rcases ownsRow_open hor4 with ⟨rfl, hn0, hx0⟩ | ⟨gr, capr, rfl, hbg, hgs, hnc, hcm, -⟩
  · obtain ⟨j1, j2, j3⟩ := HJN.out vl w4 (by have h := OL.out; rw [hn0, hx0, Nat.add_zero, List.append_nil]; exact h) (World.grownBy.refl _ _)
    clear hor4 hn0 hx0
    go_wp2_with (at_builtin; refine wpList_append_own_none rfl _ _ 36 rfl w1.heap.size 9 i0 1 Try.underlying36 hi vl _ _ rfl OL.out rfl ?_)
    have J1 := Lib.hid j1
    have J2 := Lib.hid j2
    have J3 := Lib.hid j3
    clear j1 j2 j3
    go_wp2_with fail
    refine (texts_same _ _ _ _ J2.out J1.out).mono ?_
    rintro e w10 ⟨rfl, hb10⟩
    have J10 : Hid (Below w.heap.size w w10) := J3.out.trans (hb10.mono J3.out.size)
    clear hb10 J1 J2 J3
    go_wp2_with fail
    refine (has_any s 10 _ (by unfold maxLen; omega)).mono ?_
    rintro e w7 ⟨rfl, rfl⟩
    rw [HH.out]
    go_wp2_with fail
    refine (lines_any s _ hss (HX.out.below J10.out)).mono ?_
    rintro e w11 ⟨v11, rfl, ho11, hb11⟩
    have J11 : Hid (Below w.heap.size w w11) := J10.out.trans (hb11.mono J10.out.size)
    have O11 : Hid (w11.ownsRow w10.heap.size 9 1 v11 _ _) := ho11
    clear ho11 hb11
    have E11 : Hid ((lines s.data.toList) = []) := by show _ = _; rw [HE.out, lines_nil]
    have O11' : Hid (w11.ownsRow w10.heap.size 9 1 v11 0 []) := by have h := O11.out; rw [E11.out] at h; exact h
    obtain ⟨ao, capo, hv, -, -, -⟩ := ownsRow_shape O11'.out
    subst hv
    have hse : s.toList.isEmpty = true := by rw [Lib.toList_data, HE.out]; rfl
    clear O11 O11' E11
    go_wp2_with fail
    refine (lines_any ⟨#[10]⟩ _ (by decide) (HX.out.below J11.out)).mono ?_
    rintro e w12 ⟨v12, rfl, ho12, hb12⟩
    have J12 : Hid (Below w.heap.size w w12) := J11.out.trans (hb12.mono J11.out.size)
    have O12 : Hid (w12.ownsRow w11.heap.size 9 1 v12 _ _) := ho12
    clear ho12 hb12
    have E12 : Hid (lines (⟨#[10]⟩ : ByteArray).data.toList = [[]]) := by show _ = _; rfl
    have O12' : Hid (RdSt w12 v12 [[]]) := by have h := O12.out; rw [E12.out] at h; exact ownsRow_mono h (Nat.zero_le _)
    clear O12 E12
    go_wp2_with fail
    have OA : Hid (RdSt (w12.alloc (.cells #[.string ⟨#[]⟩] 9)) (.slice (some ⟨w12.heap.size, 0, none⟩) 1 1) [[]]) := World.ownsRow_lit (base := 0) w12 #[.string ⟨#[]⟩] 1 (Nat.zero_le _) (by decide) rfl
    refine (texts_same _ _ _ _ (O12'.out.below ?_) OA.out).mono ?_
    · exact (Below.refl _ _).alloc (Nat.le_refl _) _
    rintro e w13 ⟨rfl, hb13⟩
    have J13 : Hid (Below w.heap.size w w13) := (J12.out.alloc J12.out.size _).trans (hb13.mono (by have := J12.out.size; simp; omega))
    clear hb13
    go_wp2_with fail
    go_ret
    exact ⟨rfl, J13.out⟩
  · have hcr := hor4.cells (g := gr) rfl
    have HCR := Lib.hid hcr
    clear hcr hor4 hcm
    go_wp2_with (at_builtin; refine wpList_append_own _ rfl _ _ 36 rfl w1.heap.size 9 i0 (.string ⟨#[]⟩) 1 16 Try.underlying36 hi hz0 hz1 hz2 rfl (by decide) _ _ _ rfl OL.out ⟨gr, 0, none⟩ (lines t.data.toList).length capr (stCells (lines t.data.toList)) rfl HLR.out HCR.out (stCells_one _) ?c3 ?c4 ?c5 ?_)
    case c3 => unfold maxLen; omega
    case c4 => omega
    case c5 => exact hSM
    intro v9 w9 hown9 hgrow9 _
    obtain ⟨j1, j2, j3⟩ := HJN.out v9 w9 hown9 hgrow9
    clear hown9 hgrow9
    have J1 := Lib.hid j1
    have J2 := Lib.hid j2
    have J3 := Lib.hid j3
    clear j1 j2 j3
    go_wp2_with fail
    refine (texts_same _ _ _ _ J2.out J1.out).mono ?_
    rintro e w10 ⟨rfl, hb10⟩
    have J10 : Hid (Below w.heap.size w w10) := J3.out.trans (hb10.mono J3.out.size)
    clear hb10 J1 J2 J3
    go_wp2_with fail
    refine (has_any s 10 _ (by unfold maxLen; omega)).mono ?_
    rintro e w7 ⟨rfl, rfl⟩
    rw [HH.out]
    go_wp2_with fail
    refine (lines_any s _ hss (HX.out.below J10.out)).mono ?_
    rintro e w11 ⟨v11, rfl, ho11, hb11⟩
    have J11 : Hid (Below w.heap.size w w11) := J10.out.trans (hb11.mono J10.out.size)
    have O11 : Hid (w11.ownsRow w10.heap.size 9 1 v11 _ _) := ho11
    clear ho11 hb11
    have E11 : Hid ((lines s.data.toList) = []) := by show _ = _; rw [HE.out, lines_nil]
    have O11' : Hid (w11.ownsRow w10.heap.size 9 1 v11 0 []) := by have h := O11.out; rw [E11.out] at h; exact h
    obtain ⟨ao, capo, hv, -, -, -⟩ := ownsRow_shape O11'.out
    subst hv
    have hse : s.toList.isEmpty = true := by rw [Lib.toList_data, HE.out]; rfl
    clear O11 O11' E11
    go_wp2_with fail
    refine (lines_any ⟨#[10]⟩ _ (by decide) (HX.out.below J11.out)).mono ?_
    rintro e w12 ⟨v12, rfl, ho12, hb12⟩
    have J12 : Hid (Below w.heap.size w w12) := J11.out.trans (hb12.mono J11.out.size)
    have O12 : Hid (w12.ownsRow w11.heap.size 9 1 v12 _ _) := ho12
    clear ho12 hb12
    have E12 : Hid (lines (⟨#[10]⟩ : ByteArray).data.toList = [[]]) := by show _ = _; rfl
    have O12' : Hid (RdSt w12 v12 [[]]) := by have h := O12.out; rw [E12.out] at h; exact ownsRow_mono h (Nat.zero_le _)
    clear O12 E12
    go_wp2_with fail
    have OA : Hid (RdSt (w12.alloc (.cells #[.string ⟨#[]⟩] 9)) (.slice (some ⟨w12.heap.size, 0, none⟩) 1 1) [[]]) := World.ownsRow_lit (base := 0) w12 #[.string ⟨#[]⟩] 1 (Nat.zero_le _) (by decide) rfl
    refine (texts_same _ _ _ _ (O12'.out.below ?_) OA.out).mono ?_
    · exact (Below.refl _ _).alloc (Nat.le_refl _) _
    rintro e w13 ⟨rfl, hb13⟩
    have J13 : Hid (Below w.heap.size w w13) := (J12.out.alloc J12.out.size _).trans (hb13.mono (by have := J12.out.size; simp; omega))
    clear hb13
    go_wp2_with fail
    go_ret
    exact ⟨rfl, J13.out⟩

set_option maxRecDepth 100000 in
set_option maxHeartbeats 4000000 in
theorem cuts_cut (s t : ByteArray) (w : World) (hs : s.size + t.size ≤ 1048574) (hx : Lx w) (hcase : hasB s.data.toList 10 = false) (hne : 0 < s.size) (h13 : s[s.size - 1].toNat = 13) :
    Calls Try.prog 7 #[.string s, .string t] w fun e w' => e = .returned (.bool true) ∧ Below w.heap.size w w' := by
  obtain ⟨i0, hi, hz0, hz1, hz2⟩ := info_parts Try.infoStr
  have HX := Lib.hid hx
  have hjoin := lines_join t.data.toList _ s.data.toList (Nat.le_refl _)
  have HJ := Lib.hid hjoin
  have hl1 : (lines (s.data.toList ++ [10])).length ≤ 1048576 := by have := lines_len _ (s.data.toList ++ [10]) (Nat.le_refl _); rw [List.length_append, ← Lib.size_eq] at this; simp at this; omega
  have hl2 : (lines t.data.toList).length ≤ 1048576 := by have := lines_len _ t.data.toList (Nat.le_refl _); rw [← Lib.size_eq] at this; omega
  have hss : s.size ≤ 1048576 := by omega
  have HH := Lib.hid hcase
  have hr1 : ((s[s.size - 1].toNat : Int) == 13) = true := by simp [h13]
  have hsl : s.size = s.data.toList.length := Lib.size_eq s
  have hne2 : s.data.toList ≠ [] := by intro h; have h0 : s.data.toList.length = 0 := (by rw [h]; rfl); omega
  have HL1 := Lib.hid (lines_one hcase hne2)
  have HL2 := Lib.hid (lines_one_lf hcase)
  have hlv := piece_cut s 0 s.size hne (by omega) (UInt8.toNat_inj.1 h13)
  have hpc : piece s.data.toList 0 s.size = s.data.toList := by unfold piece; rw [List.drop_zero, List.take_of_length_le (by omega)]
  rw [hpc] at hlv
  have HLV := Lib.hid hlv
  have hse : s.toList.isEmpty = false := by rw [Lib.toList_data]; cases h : s.data.toList with | nil => exact absurd h hne2 | cons _ _ => rfl
  have hi1 : (0 : Int) ≤ (s.size : Int) - 1 := by omega
  have hi2 : (((s.size : Int) - 1).toNat) = s.size - 1 := by omega
  clear hsl hne2 hlv hpc h13
  clear hx hjoin hcase
  go_enter Try.func7, Try.ntmps7
  go_wp2_with fail
  refine (awake_any _ HX.out).mono ?_
  rintro e w1 ⟨rfl, hb1⟩
  go_wp2_with fail
  refine (lines_any (s ++ _) _ (by rw [ByteArray.size_append]; show s.size + 1 ≤ _; omega) (HX.out.below hb1)).mono ?_
  rintro e w2 ⟨vl, rfl, hol, hb2⟩
  have B2 := hb1.trans (hb2.mono hb1.size)
  rw [lf_data] at hol
  go_wp2_with fail
  refine (lines_any t _ (by omega) (HX.out.below B2)).mono ?_
  rintro e w3 ⟨vr, rfl, hor, hb3⟩
  have B3 := B2.trans (hb3.mono B2.size)
  go_wp2_with fail
  refine (lines_any (s ++ _ ++ t) _ (by simp only [ByteArray.size_append]; show s.size + 1 + t.size ≤ _; omega) (HX.out.below B3)).mono ?_
  rintro e w4 ⟨va, rfl, hoa, hb4⟩
  have B4 := B3.trans (hb4.mono B3.size)
  rw [lf_data2, HJ.out] at hoa
  have OL : Hid (w4.ownsRow w1.heap.size 9 1 vl (lines (s.data.toList ++ [10])).length (stCells (lines (s.data.toList ++ [10])))) := ownsRow_below (ownsRow_below hol hb3 (Nat.le_refl _)) hb4 (Nat.le_refl _)
  have hor4 := ownsRow_below hor hb4 (Nat.le_refl _)
  have hSM : w1.heap.size ≤ w4.heap.size := by have := hb2.size; have := hb3.size; have := hb4.size; omega
  have hSN := hb1.size
  have HAP : Hid (va.ownBlock = none ∨ va.ownBlock ≠ vl.ownBlock) := by
    show _ ∨ _
    cases hz : va.ownBlock with
    | none => exact .inl rfl
    | some k =>
      right
      intro h
      have h1 := (hoa.lt k hz).1
      have h2 := (hol.lt k h.symm).2
      have := hb3.size
      omega
  have HOA := Lib.hid hoa
  have HB4 := Lib.hid B4
  have hlR : (stCells (lines t.data.toList)).length = (lines t.data.toList).length * 1 := by simp [stCells]
  -- the joined list, however it was made
  have join : ∀ (v9 : Value) (w9 : World), w9.ownsRow w1.heap.size 9 1 v9 ((lines (s.data.toList ++ [10])).length + (lines t.data.toList).length) (stCells (lines (s.data.toList ++ [10])) ++ stCells (lines t.data.toList)) → w4.grownBy w9 vl.ownBlock →
      RdSt w9 v9 (lines (s.data.toList ++ [10]) ++ lines t.data.toList) ∧ RdSt w9 va (lines (s.data.toList ++ [10]) ++ lines t.data.toList) ∧ Below w.heap.size w w9 := by
    intro v9 w9 ho hg
    refine ⟨?_, ?_, Below.grown HB4.out hg HB4.out.size (fun q hq => Nat.le_trans hSN (OL.out.lt q hq).1)⟩
    · have e : stCells (lines (s.data.toList ++ [10]) ++ lines t.data.toList) = stCells (lines (s.data.toList ++ [10])) ++ stCells (lines t.data.toList) := by simp [stCells]
      unfold RdSt
      rw [e, List.length_append]
      exact ownsRow_mono ho (Nat.zero_le _)
    · exact ownsRow_mono (HOA.out.kept hg HAP.out) (Nat.zero_le _)
  have HJN := Lib.hid join
  have HLR := Lib.hid hlR
  clear join hol hor hoa B2 B3 B4 hb1 hb2 hb3 hb4 hlR
  rcases ownsRow_open hor4 with ⟨rfl, hn0, hx0⟩ | ⟨gr, capr, rfl, hbg, hgs, hnc, hcm, -⟩
  · obtain ⟨j1, j2, j3⟩ := HJN.out vl w4 (by have h := OL.out; rw [hn0, hx0, Nat.add_zero, List.append_nil]; exact h) (World.grownBy.refl _ _)
    clear hor4 hn0 hx0
    go_wp2_with (at_builtin; refine wpList_append_own_none rfl _ _ 36 rfl w1.heap.size 9 i0 1 Try.underlying36 hi vl _ _ rfl OL.out rfl ?_)
    have J1 := Lib.hid j1
    have J2 := Lib.hid j2
    have J3 := Lib.hid j3
    clear j1 j2 j3
    go_wp2_with fail
    refine (texts_same _ _ _ _ J2.out J1.out).mono ?_
    rintro e w10 ⟨rfl, hb10⟩
    have J10 : Hid (Below w.heap.size w w10) := J3.out.trans (hb10.mono J3.out.size)
    clear hb10 J1 J2 J3
    go_wp2_with fail
    refine (has_any s 10 _ (by unfold maxLen; omega)).mono ?_
    rintro e w7 ⟨rfl, rfl⟩
    rw [HH.out]
    go_wp2_with fail
    refine (lines_any s _ hss (HX.out.below J10.out)).mono ?_
    rintro e w11 ⟨v11, rfl, ho11, hb11⟩
    have J11 : Hid (Below w.heap.size w w11) := J10.out.trans (hb11.mono J10.out.size)
    have O11 : Hid (w11.ownsRow w10.heap.size 9 1 v11 _ _) := ho11
    clear ho11 hb11
    have O11' : Hid (RdSt w11 v11 [trimR s.data.toList]) := by have h := O11.out; rw [HL1.out] at h; exact ownsRow_mono h (Nat.zero_le _)
    clear O11
    go_wp2_with fail
    have OA : Hid (RdSt (w11.alloc (.cells #[.string (s.extract 0 (s.size - 1))] 9)) (.slice (some ⟨w11.heap.size, 0, none⟩) 1 1) [trimR s.data.toList]) := by
      have h := World.ownsRow_lit (base := 0) (e := 9) (size := 1) w11 #[.string (s.extract 0 (s.size - 1))] 1 (Nat.zero_le _) (by decide) rfl
      show World.ownsRow _ _ _ _ _ _ _
      have e : stCells [trimR s.data.toList] = [.string (s.extract 0 (s.size - 1))] := by show [Value.string ⟨(trimR s.data.toList).toArray⟩] = _; rw [← HLV.out]
      rw [e]; exact h
    refine (texts_same _ _ _ _ (O11'.out.below ?_) OA.out).mono ?_
    · exact (Below.refl _ _).alloc (Nat.le_refl _) _
    rintro e w12 ⟨rfl, hb12⟩
    have J12 : Hid (Below w.heap.size w w12) := (J11.out.alloc J11.out.size _).trans (hb12.mono (by have := J11.out.size; simp; omega))
    clear hb12 OA O11'
    go_wp2_with fail
    refine (lines_any (s ++ _) _ (by rw [ByteArray.size_append]; show s.size + 1 ≤ _; omega) (HX.out.below J12.out)).mono ?_
    rintro e w13 ⟨v13, rfl, ho13, hb13⟩
    have J13 : Hid (Below w.heap.size w w13) := J12.out.trans (hb13.mono J12.out.size)
    have O13 : Hid (w13.ownsRow w12.heap.size 9 1 v13 _ _) := ho13
    clear ho13 hb13
    have O13' : Hid (RdSt w13 v13 [trimR s.data.toList]) := by have h := O13.out; rw [lf_data, HL2.out] at h; exact ownsRow_mono h (Nat.zero_le _)
    clear O13
    go_wp2_with fail
    have OB : Hid (RdSt (w13.alloc (.cells #[.string (s.extract 0 (s.size - 1))] 9)) (.slice (some ⟨w13.heap.size, 0, none⟩) 1 1) [trimR s.data.toList]) := by
      have h := World.ownsRow_lit (base := 0) (e := 9) (size := 1) w13 #[.string (s.extract 0 (s.size - 1))] 1 (Nat.zero_le _) (by decide) rfl
      show World.ownsRow _ _ _ _ _ _ _
      have e : stCells [trimR s.data.toList] = [.string (s.extract 0 (s.size - 1))] := by show [Value.string ⟨(trimR s.data.toList).toArray⟩] = _; rw [← HLV.out]
      rw [e]; exact h
    refine (texts_same _ _ _ _ (O13'.out.below ?_) OB.out).mono ?_
    · exact (Below.refl _ _).alloc (Nat.le_refl _) _
    rintro e w14 ⟨rfl, hb14⟩
    have J14 : Hid (Below w.heap.size w w14) := (J13.out.alloc J13.out.size _).trans (hb14.mono (by have := J13.out.size; simp; omega))
    clear hb14
    go_wp2_with fail
    go_ret
    exact ⟨rfl, J14.out⟩
  · have hcr := hor4.cells (g := gr) rfl
    have HCR := Lib.hid hcr
    clear hcr hor4 hcm
    go_wp2_with (at_builtin; refine wpList_append_own _ rfl _ _ 36 rfl w1.heap.size 9 i0 (.string ⟨#[]⟩) 1 16 Try.underlying36 hi hz0 hz1 hz2 rfl (by decide) _ _ _ rfl OL.out ⟨gr, 0, none⟩ (lines t.data.toList).length capr (stCells (lines t.data.toList)) rfl HLR.out HCR.out (stCells_one _) ?c3 ?c4 ?c5 ?_)
    case c3 => unfold maxLen; omega
    case c4 => omega
    case c5 => exact hSM
    intro v9 w9 hown9 hgrow9 _
    obtain ⟨j1, j2, j3⟩ := HJN.out v9 w9 hown9 hgrow9
    clear hown9 hgrow9
    have J1 := Lib.hid j1
    have J2 := Lib.hid j2
    have J3 := Lib.hid j3
    clear j1 j2 j3
    go_wp2_with fail
    refine (texts_same _ _ _ _ J2.out J1.out).mono ?_
    rintro e w10 ⟨rfl, hb10⟩
    have J10 : Hid (Below w.heap.size w w10) := J3.out.trans (hb10.mono J3.out.size)
    clear hb10 J1 J2 J3
    go_wp2_with fail
    refine (has_any s 10 _ (by unfold maxLen; omega)).mono ?_
    rintro e w7 ⟨rfl, rfl⟩
    rw [HH.out]
    go_wp2_with fail
    refine (lines_any s _ hss (HX.out.below J10.out)).mono ?_
    rintro e w11 ⟨v11, rfl, ho11, hb11⟩
    have J11 : Hid (Below w.heap.size w w11) := J10.out.trans (hb11.mono J10.out.size)
    have O11 : Hid (w11.ownsRow w10.heap.size 9 1 v11 _ _) := ho11
    clear ho11 hb11
    have O11' : Hid (RdSt w11 v11 [trimR s.data.toList]) := by have h := O11.out; rw [HL1.out] at h; exact ownsRow_mono h (Nat.zero_le _)
    clear O11
    go_wp2_with fail
    have OA : Hid (RdSt (w11.alloc (.cells #[.string (s.extract 0 (s.size - 1))] 9)) (.slice (some ⟨w11.heap.size, 0, none⟩) 1 1) [trimR s.data.toList]) := by
      have h := World.ownsRow_lit (base := 0) (e := 9) (size := 1) w11 #[.string (s.extract 0 (s.size - 1))] 1 (Nat.zero_le _) (by decide) rfl
      show World.ownsRow _ _ _ _ _ _ _
      have e : stCells [trimR s.data.toList] = [.string (s.extract 0 (s.size - 1))] := by show [Value.string ⟨(trimR s.data.toList).toArray⟩] = _; rw [← HLV.out]
      rw [e]; exact h
    refine (texts_same _ _ _ _ (O11'.out.below ?_) OA.out).mono ?_
    · exact (Below.refl _ _).alloc (Nat.le_refl _) _
    rintro e w12 ⟨rfl, hb12⟩
    have J12 : Hid (Below w.heap.size w w12) := (J11.out.alloc J11.out.size _).trans (hb12.mono (by have := J11.out.size; simp; omega))
    clear hb12 OA O11'
    go_wp2_with fail
    refine (lines_any (s ++ _) _ (by rw [ByteArray.size_append]; show s.size + 1 ≤ _; omega) (HX.out.below J12.out)).mono ?_
    rintro e w13 ⟨v13, rfl, ho13, hb13⟩
    have J13 : Hid (Below w.heap.size w w13) := J12.out.trans (hb13.mono J12.out.size)
    have O13 : Hid (w13.ownsRow w12.heap.size 9 1 v13 _ _) := ho13
    clear ho13 hb13
    have O13' : Hid (RdSt w13 v13 [trimR s.data.toList]) := by have h := O13.out; rw [lf_data, HL2.out] at h; exact ownsRow_mono h (Nat.zero_le _)
    clear O13
    go_wp2_with fail
    have OB : Hid (RdSt (w13.alloc (.cells #[.string (s.extract 0 (s.size - 1))] 9)) (.slice (some ⟨w13.heap.size, 0, none⟩) 1 1) [trimR s.data.toList]) := by
      have h := World.ownsRow_lit (base := 0) (e := 9) (size := 1) w13 #[.string (s.extract 0 (s.size - 1))] 1 (Nat.zero_le _) (by decide) rfl
      show World.ownsRow _ _ _ _ _ _ _
      have e : stCells [trimR s.data.toList] = [.string (s.extract 0 (s.size - 1))] := by show [Value.string ⟨(trimR s.data.toList).toArray⟩] = _; rw [← HLV.out]
      rw [e]; exact h
    refine (texts_same _ _ _ _ (O13'.out.below ?_) OB.out).mono ?_
    · exact (Below.refl _ _).alloc (Nat.le_refl _) _
    rintro e w14 ⟨rfl, hb14⟩
    have J14 : Hid (Below w.heap.size w w14) := (J13.out.alloc J13.out.size _).trans (hb14.mono (by have := J13.out.size; simp; omega))
    clear hb14
    go_wp2_with fail
    go_ret
    exact ⟨rfl, J14.out⟩

set_option maxRecDepth 100000 in
set_option maxHeartbeats 4000000 in
theorem cuts_keep (s t : ByteArray) (w : World) (hs : s.size + t.size ≤ 1048574) (hx : Lx w) (hcase : hasB s.data.toList 10 = false) (hne : 0 < s.size) (h13 : ¬ s[s.size - 1].toNat = 13) :
    Calls Try.prog 7 #[.string s, .string t] w fun e w' => e = .returned (.bool true) ∧ Below w.heap.size w w' := by
  obtain ⟨i0, hi, hz0, hz1, hz2⟩ := info_parts Try.infoStr
  have HX := Lib.hid hx
  have hjoin := lines_join t.data.toList _ s.data.toList (Nat.le_refl _)
  have HJ := Lib.hid hjoin
  have hl1 : (lines (s.data.toList ++ [10])).length ≤ 1048576 := by have := lines_len _ (s.data.toList ++ [10]) (Nat.le_refl _); rw [List.length_append, ← Lib.size_eq] at this; simp at this; omega
  have hl2 : (lines t.data.toList).length ≤ 1048576 := by have := lines_len _ t.data.toList (Nat.le_refl _); rw [← Lib.size_eq] at this; omega
  have hss : s.size ≤ 1048576 := by omega
  have HH := Lib.hid hcase
  have hr1 : ((s[s.size - 1].toNat : Int) == 13) = false := by simp [h13]; omega
  have hsl : s.size = s.data.toList.length := Lib.size_eq s
  have hne2 : s.data.toList ≠ [] := by intro h; have h0 : s.data.toList.length = 0 := (by rw [h]; rfl); omega
  have HL1 := Lib.hid (lines_one hcase hne2)
  have HL2 := Lib.hid (lines_one_lf hcase)
  have hlv := piece_keep s 0 s.size (Nat.zero_le _) (by omega) (fun _ h => h13 (by have := congrArg UInt8.toNat h; exact this))
  have hpc : piece s.data.toList 0 s.size = s.data.toList := by unfold piece; rw [List.drop_zero, List.take_of_length_le (by omega)]
  have hex : s.extract 0 s.size = s := by simp
  rw [hpc, hex] at hlv
  have HLV := Lib.hid hlv
  have hse : s.toList.isEmpty = false := by rw [Lib.toList_data]; cases h : s.data.toList with | nil => exact absurd h hne2 | cons _ _ => rfl
  have hi1 : (0 : Int) ≤ (s.size : Int) - 1 := by omega
  have hi2 : (((s.size : Int) - 1).toNat) = s.size - 1 := by omega
  clear hsl hne2 hlv hpc hex h13
  clear hx hjoin hcase
  go_enter Try.func7, Try.ntmps7
  go_wp2_with fail
  refine (awake_any _ HX.out).mono ?_
  rintro e w1 ⟨rfl, hb1⟩
  go_wp2_with fail
  refine (lines_any (s ++ _) _ (by rw [ByteArray.size_append]; show s.size + 1 ≤ _; omega) (HX.out.below hb1)).mono ?_
  rintro e w2 ⟨vl, rfl, hol, hb2⟩
  have B2 := hb1.trans (hb2.mono hb1.size)
  rw [lf_data] at hol
  go_wp2_with fail
  refine (lines_any t _ (by omega) (HX.out.below B2)).mono ?_
  rintro e w3 ⟨vr, rfl, hor, hb3⟩
  have B3 := B2.trans (hb3.mono B2.size)
  go_wp2_with fail
  refine (lines_any (s ++ _ ++ t) _ (by simp only [ByteArray.size_append]; show s.size + 1 + t.size ≤ _; omega) (HX.out.below B3)).mono ?_
  rintro e w4 ⟨va, rfl, hoa, hb4⟩
  have B4 := B3.trans (hb4.mono B3.size)
  rw [lf_data2, HJ.out] at hoa
  have OL : Hid (w4.ownsRow w1.heap.size 9 1 vl (lines (s.data.toList ++ [10])).length (stCells (lines (s.data.toList ++ [10])))) := ownsRow_below (ownsRow_below hol hb3 (Nat.le_refl _)) hb4 (Nat.le_refl _)
  have hor4 := ownsRow_below hor hb4 (Nat.le_refl _)
  have hSM : w1.heap.size ≤ w4.heap.size := by have := hb2.size; have := hb3.size; have := hb4.size; omega
  have hSN := hb1.size
  have HAP : Hid (va.ownBlock = none ∨ va.ownBlock ≠ vl.ownBlock) := by
    show _ ∨ _
    cases hz : va.ownBlock with
    | none => exact .inl rfl
    | some k =>
      right
      intro h
      have h1 := (hoa.lt k hz).1
      have h2 := (hol.lt k h.symm).2
      have := hb3.size
      omega
  have HOA := Lib.hid hoa
  have HB4 := Lib.hid B4
  have hlR : (stCells (lines t.data.toList)).length = (lines t.data.toList).length * 1 := by simp [stCells]
  -- the joined list, however it was made
  have join : ∀ (v9 : Value) (w9 : World), w9.ownsRow w1.heap.size 9 1 v9 ((lines (s.data.toList ++ [10])).length + (lines t.data.toList).length) (stCells (lines (s.data.toList ++ [10])) ++ stCells (lines t.data.toList)) → w4.grownBy w9 vl.ownBlock →
      RdSt w9 v9 (lines (s.data.toList ++ [10]) ++ lines t.data.toList) ∧ RdSt w9 va (lines (s.data.toList ++ [10]) ++ lines t.data.toList) ∧ Below w.heap.size w w9 := by
    intro v9 w9 ho hg
    refine ⟨?_, ?_, Below.grown HB4.out hg HB4.out.size (fun q hq => Nat.le_trans hSN (OL.out.lt q hq).1)⟩
    · have e : stCells (lines (s.data.toList ++ [10]) ++ lines t.data.toList) = stCells (lines (s.data.toList ++ [10])) ++ stCells (lines t.data.toList) := by simp [stCells]
      unfold RdSt
      rw [e, List.length_append]
      exact ownsRow_mono ho (Nat.zero_le _)
    · exact ownsRow_mono (HOA.out.kept hg HAP.out) (Nat.zero_le _)
  have HJN := Lib.hid join
  have HLR := Lib.hid hlR
  clear join hol hor hoa B2 B3 B4 hb1 hb2 hb3 hb4 hlR
  rcases ownsRow_open hor4 with ⟨rfl, hn0, hx0⟩ | ⟨gr, capr, rfl, hbg, hgs, hnc, hcm, -⟩
  · obtain ⟨j1, j2, j3⟩ := HJN.out vl w4 (by have h := OL.out; rw [hn0, hx0, Nat.add_zero, List.append_nil]; exact h) (World.grownBy.refl _ _)
    clear hor4 hn0 hx0
    go_wp2_with (at_builtin; refine wpList_append_own_none rfl _ _ 36 rfl w1.heap.size 9 i0 1 Try.underlying36 hi vl _ _ rfl OL.out rfl ?_)
    have J1 := Lib.hid j1
    have J2 := Lib.hid j2
    have J3 := Lib.hid j3
    clear j1 j2 j3
    go_wp2_with fail
    refine (texts_same _ _ _ _ J2.out J1.out).mono ?_
    rintro e w10 ⟨rfl, hb10⟩
    have J10 : Hid (Below w.heap.size w w10) := J3.out.trans (hb10.mono J3.out.size)
    clear hb10 J1 J2 J3
    go_wp2_with fail
    refine (has_any s 10 _ (by unfold maxLen; omega)).mono ?_
    rintro e w7 ⟨rfl, rfl⟩
    rw [HH.out]
    go_wp2_with fail
    refine (lines_any s _ hss (HX.out.below J10.out)).mono ?_
    rintro e w11 ⟨v11, rfl, ho11, hb11⟩
    have J11 : Hid (Below w.heap.size w w11) := J10.out.trans (hb11.mono J10.out.size)
    have O11 : Hid (w11.ownsRow w10.heap.size 9 1 v11 _ _) := ho11
    clear ho11 hb11
    have O11' : Hid (RdSt w11 v11 [trimR s.data.toList]) := by have h := O11.out; rw [HL1.out] at h; exact ownsRow_mono h (Nat.zero_le _)
    clear O11
    go_wp2_with fail
    have OA : Hid (RdSt (w11.alloc (.cells #[.string s] 9)) (.slice (some ⟨w11.heap.size, 0, none⟩) 1 1) [trimR s.data.toList]) := by
      have h := World.ownsRow_lit (base := 0) (e := 9) (size := 1) w11 #[.string s] 1 (Nat.zero_le _) (by decide) rfl
      show World.ownsRow _ _ _ _ _ _ _
      have e : stCells [trimR s.data.toList] = [.string s] := by show [Value.string ⟨(trimR s.data.toList).toArray⟩] = _; rw [← HLV.out]
      rw [e]; exact h
    refine (texts_same _ _ _ _ (O11'.out.below ?_) OA.out).mono ?_
    · exact (Below.refl _ _).alloc (Nat.le_refl _) _
    rintro e w12 ⟨rfl, hb12⟩
    have J12 : Hid (Below w.heap.size w w12) := (J11.out.alloc J11.out.size _).trans (hb12.mono (by have := J11.out.size; simp; omega))
    clear hb12 OA O11'
    go_wp2_with fail
    refine (lines_any (s ++ _) _ (by rw [ByteArray.size_append]; show s.size + 1 ≤ _; omega) (HX.out.below J12.out)).mono ?_
    rintro e w13 ⟨v13, rfl, ho13, hb13⟩
    have J13 : Hid (Below w.heap.size w w13) := J12.out.trans (hb13.mono J12.out.size)
    have O13 : Hid (w13.ownsRow w12.heap.size 9 1 v13 _ _) := ho13
    clear ho13 hb13
    have O13' : Hid (RdSt w13 v13 [trimR s.data.toList]) := by have h := O13.out; rw [lf_data, HL2.out] at h; exact ownsRow_mono h (Nat.zero_le _)
    clear O13
    go_wp2_with fail
    have OB : Hid (RdSt (w13.alloc (.cells #[.string s] 9)) (.slice (some ⟨w13.heap.size, 0, none⟩) 1 1) [trimR s.data.toList]) := by
      have h := World.ownsRow_lit (base := 0) (e := 9) (size := 1) w13 #[.string s] 1 (Nat.zero_le _) (by decide) rfl
      show World.ownsRow _ _ _ _ _ _ _
      have e : stCells [trimR s.data.toList] = [.string s] := by show [Value.string ⟨(trimR s.data.toList).toArray⟩] = _; rw [← HLV.out]
      rw [e]; exact h
    refine (texts_same _ _ _ _ (O13'.out.below ?_) OB.out).mono ?_
    · exact (Below.refl _ _).alloc (Nat.le_refl _) _
    rintro e w14 ⟨rfl, hb14⟩
    have J14 : Hid (Below w.heap.size w w14) := (J13.out.alloc J13.out.size _).trans (hb14.mono (by have := J13.out.size; simp; omega))
    clear hb14
    go_wp2_with fail
    go_ret
    exact ⟨rfl, J14.out⟩
  · have hcr := hor4.cells (g := gr) rfl
    have HCR := Lib.hid hcr
    clear hcr hor4 hcm
    go_wp2_with (at_builtin; refine wpList_append_own _ rfl _ _ 36 rfl w1.heap.size 9 i0 (.string ⟨#[]⟩) 1 16 Try.underlying36 hi hz0 hz1 hz2 rfl (by decide) _ _ _ rfl OL.out ⟨gr, 0, none⟩ (lines t.data.toList).length capr (stCells (lines t.data.toList)) rfl HLR.out HCR.out (stCells_one _) ?c3 ?c4 ?c5 ?_)
    case c3 => unfold maxLen; omega
    case c4 => omega
    case c5 => exact hSM
    intro v9 w9 hown9 hgrow9 _
    obtain ⟨j1, j2, j3⟩ := HJN.out v9 w9 hown9 hgrow9
    clear hown9 hgrow9
    have J1 := Lib.hid j1
    have J2 := Lib.hid j2
    have J3 := Lib.hid j3
    clear j1 j2 j3
    go_wp2_with fail
    refine (texts_same _ _ _ _ J2.out J1.out).mono ?_
    rintro e w10 ⟨rfl, hb10⟩
    have J10 : Hid (Below w.heap.size w w10) := J3.out.trans (hb10.mono J3.out.size)
    clear hb10 J1 J2 J3
    go_wp2_with fail
    refine (has_any s 10 _ (by unfold maxLen; omega)).mono ?_
    rintro e w7 ⟨rfl, rfl⟩
    rw [HH.out]
    go_wp2_with fail
    refine (lines_any s _ hss (HX.out.below J10.out)).mono ?_
    rintro e w11 ⟨v11, rfl, ho11, hb11⟩
    have J11 : Hid (Below w.heap.size w w11) := J10.out.trans (hb11.mono J10.out.size)
    have O11 : Hid (w11.ownsRow w10.heap.size 9 1 v11 _ _) := ho11
    clear ho11 hb11
    have O11' : Hid (RdSt w11 v11 [trimR s.data.toList]) := by have h := O11.out; rw [HL1.out] at h; exact ownsRow_mono h (Nat.zero_le _)
    clear O11
    go_wp2_with fail
    have OA : Hid (RdSt (w11.alloc (.cells #[.string s] 9)) (.slice (some ⟨w11.heap.size, 0, none⟩) 1 1) [trimR s.data.toList]) := by
      have h := World.ownsRow_lit (base := 0) (e := 9) (size := 1) w11 #[.string s] 1 (Nat.zero_le _) (by decide) rfl
      show World.ownsRow _ _ _ _ _ _ _
      have e : stCells [trimR s.data.toList] = [.string s] := by show [Value.string ⟨(trimR s.data.toList).toArray⟩] = _; rw [← HLV.out]
      rw [e]; exact h
    refine (texts_same _ _ _ _ (O11'.out.below ?_) OA.out).mono ?_
    · exact (Below.refl _ _).alloc (Nat.le_refl _) _
    rintro e w12 ⟨rfl, hb12⟩
    have J12 : Hid (Below w.heap.size w w12) := (J11.out.alloc J11.out.size _).trans (hb12.mono (by have := J11.out.size; simp; omega))
    clear hb12 OA O11'
    go_wp2_with fail
    refine (lines_any (s ++ _) _ (by rw [ByteArray.size_append]; show s.size + 1 ≤ _; omega) (HX.out.below J12.out)).mono ?_
    rintro e w13 ⟨v13, rfl, ho13, hb13⟩
    have J13 : Hid (Below w.heap.size w w13) := J12.out.trans (hb13.mono J12.out.size)
    have O13 : Hid (w13.ownsRow w12.heap.size 9 1 v13 _ _) := ho13
    clear ho13 hb13
    have O13' : Hid (RdSt w13 v13 [trimR s.data.toList]) := by have h := O13.out; rw [lf_data, HL2.out] at h; exact ownsRow_mono h (Nat.zero_le _)
    clear O13
    go_wp2_with fail
    have OB : Hid (RdSt (w13.alloc (.cells #[.string s] 9)) (.slice (some ⟨w13.heap.size, 0, none⟩) 1 1) [trimR s.data.toList]) := by
      have h := World.ownsRow_lit (base := 0) (e := 9) (size := 1) w13 #[.string s] 1 (Nat.zero_le _) (by decide) rfl
      show World.ownsRow _ _ _ _ _ _ _
      have e : stCells [trimR s.data.toList] = [.string s] := by show [Value.string ⟨(trimR s.data.toList).toArray⟩] = _; rw [← HLV.out]
      rw [e]; exact h
    refine (texts_same _ _ _ _ (O13'.out.below ?_) OB.out).mono ?_
    · exact (Below.refl _ _).alloc (Nat.le_refl _) _
    rintro e w14 ⟨rfl, hb14⟩
    have J14 : Hid (Below w.heap.size w w14) := (J13.out.alloc J13.out.size _).trans (hb14.mono (by have := J13.out.size; simp; omega))
    clear hb14
    go_wp2_with fail
    go_ret
    exact ⟨rfl, J14.out⟩

theorem cuts_walk (s t : ByteArray) (w : World) (hs : s.size + t.size ≤ 1048574) (hx : Lx w) :
    Calls Try.prog 7 #[.string s, .string t] w fun e w' => e = .returned (.bool true) ∧ Below w.heap.size w w' := by
  cases hh : hasB s.data.toList 10 with
  | true => exact cuts_lf s t w hs hx hh
  | false =>
    by_cases hne : 0 < s.size
    · by_cases h13 : s[s.size - 1].toNat = 13
      · exact cuts_cut s t w hs hx hh hne h13
      · exact cuts_keep s t w hs hx hh hne h13
    · exact cuts_empty s t w hs hx hh (List.eq_nil_of_length_eq_zero (by rw [← Lib.size_eq]; omega))

theorem small2c {H : Type} {a b : ByteArray} (hk : Rows.uptoSmall H [.lit (.string a.data.toList), .lit (.string b.data.toList)] = true) : a.size + b.size ≤ 1048574 := by
  have h := bulk hk
  simp only [Rows.uptoBulkAll, Rows.uptoBulk] at h
  rw [Lib.size_eq a, Lib.size_eq b]
  omega

set_option maxRecDepth 100000 in
theorem lexerCuts_contract (H : Type) (enc : TypeId × Value → H) (W : World) (base : Nat) (args : Array Value) (ds gs : List (DataW H)) (before : List MemPlace)
    (hval : ∀ (j : Nat) t v, Try.f7.params[j]? = some t → args[j]? = some v → Value.okWide Try.prog W .any base t v)
    (hW : DataW.Whole enc Try.prog Try.f7.params.toList Rows.lexerCutsSpec.vars false W args.toList ds gs before) (hk : Rows.uptoSmall H (ds ++ gs) = true) (hshp : W.ShapedOpen Try.prog) :
    Calls Try.prog 7 args W fun e W' => ∃ v, e = .returned v ∧ Rows.lexerCutsSpec.post enc Try.prog Try.f7 false true false false W args v W' := by
  have hW' := hW
  obtain ⟨p, q, hA0, hV, rfl, hfz, hnd⟩ := hW
  have hA : DataW.TrodAll enc Try.prog W 0 (fun _ => true) true Try.f7.params.toList args.toList ds p := hA0
  rw [Try.params7] at hA hval
  obtain ⟨v0, vs0, d0, ds0, p0, q0, hargs, rfl, rfl, h0, r0⟩ := trodAll_cons hA
  obtain ⟨v1, vs1, d1, ds1, p1, q1, rfl, rfl, rfl, h1, r1⟩ := trodAll_cons r0
  obtain ⟨rfl, rfl, rfl⟩ := trodAll_nil r1
  obtain rfl : args = #[v0, v1] := by cases args; simp_all
  obtain ⟨rfl, rfl⟩ := trodVars_none hV
  obtain ⟨s0, rfl, rfl, rfl, m0⟩ := open_string Try.underlying9 (hval 0 9 v0 rfl rfl) h0
  obtain ⟨s1, rfl, rfl, rfl, m1⟩ := open_string Try.underlying9 (hval 1 9 v1 rfl rfl) h1
  clear hA0
  simp only [List.append_nil] at hW' hk
  refine (cuts_walk s0 s1  W (small2c hk) (lx_of_shaped hshp)).mono fun e W' ⟨he, bel⟩ => ?_
  subst he
  exact ⟨_, rfl, _, _, _, [], _, [], hW', trodAll_mk1 (shut_bool Try.underlying4 _), (trodAll_cons_mk (shut_string Try.underlying9 m0) (trodAll_cons_mk (shut_string Try.underlying9 m1) trodAll_mk0)), rfl, bel.frame _, fun h => by cases h⟩

set_option maxRecDepth 100000 in
theorem lexerCuts_lifted (os : Os) (started : os.Started) (H : Type) (enc : TypeId × Value → H) (F : Stop.Interp) :
    ReturnsInHanded {} Try.checked os 7 .any ((Rows.OpenSpec.upto Rows.lexerCutsSpec).pre6 enc Try.prog Try.f7 Rows.lexerCutsUptoRow.domain false) (((Rows.OpenSpec.upto Rows.lexerCutsSpec).at F).post enc Try.prog Try.f7 false true false false) := by
  refine returnsInHanded_of_cond_shaped (C := Try.checked) (s := Rows.OpenSpec.upto Rows.lexerCutsSpec) (k := Rows.uptoSmall) rfl own started (by kernel_rfl) Try.func7
    (OpenSpec.witness (enc := enc) (C := Try.checked) (s := Rows.OpenSpec.upto Rows.lexerCutsSpec) (k := Rows.uptoSmall) rfl false ⟨#[], #[.string .empty, .string .empty], []⟩ 8 (by kernel_rfl) (by kernel_rfl) (by kernel_rfl)
      (x := ([.lit (.string []), .lit (.string [])], [], [])) (by kernel_rfl) rfl (by kernel_rfl)) ?_
  intro W base args ds gs before hval hW hk hshp
  exact lexerCuts_contract H enc W base args ds gs before hval hW hk hshp

/-- The statement. -/
theorem lexerCuts_proved : Rows.LexerCutsUptoSaid :=
  OpenClaim.holds_of_cond 7 Try.f7 rfl rfl rfl rfl rfl rfl rfl ⟨rfl, rfl, rfl, rfl, rfl⟩ rfl rfl rfl rfl rfl (by kernel_rfl) Try.func7 (by kernel_rfl)
    (of_decide_eq_true (by kernel_rfl)) (by unfold Func.isWrapper; first | (rw [if_pos (by decide +kernel)]; kernel_rfl) | (rw [if_neg (by decide +kernel)]; exact ⟨rfl, rfl⟩))
    (fun os started H enc _ F => lexerCuts_lifted os started H enc F)
#print axioms lexerCuts_proved

end Go.Proofs.Ytebidhdoiojaeaa
