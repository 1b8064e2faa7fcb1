/- Walks: the document's Columns; the law's right. -/
import Derived.Test.YtebidhdoiojaeaaRefLex4
import Derived.Test.YtebidhdoiojaeaaLexLines
import Derived.Test.YtebidhdoiojaeaaLexL1
import Derived.Deep.RegionHeld3
namespace Go.Proofs.Ytebidhdoiojaeaa
open Go.RowKit LexP

def RColPost (l : Bytes) (w : World) (e : Ending) (w' : World) : Prop :=
  e = .returned (.tuple #[.int .i64 ((colRes l).1 : Nat), .int .i64 ((colRes l).2 : Nat)]) ∧ w = w'

set_option maxRecDepth 100000 in
set_option maxHeartbeats 1000000 in
theorem ref_columns (s : ByteArray) (w : World) (hs : s.size ≤ 1048576) :
    Calls Try.prog 56 #[.string s] w (RColPost s.data.toList w) := by
  obtain ⟨L, hL⟩ : ∃ L, L = s.data.toList := ⟨_, rfl⟩
  rw [← hL]
  have hLl : L.length = s.size := by rw [hL, Lib.size_eq]
  have HL := Lib.hid hL
  have HP : Hid (∀ a : Nat × Nat, colRes L = a → RColPost L w (.returned (.tuple #[.int .i64 (a.1 : Nat), .int .i64 (a.2 : Nat)])) w) := by
    intro a h; exact ⟨by rw [h], rfl⟩
  have hcl : (chars L).length ≤ 1048576 := by have := chars_len L; omega
  clear hL
  go_enter Try.func56, Try.ntmps56
  go_wp2_with fail
  go_loopw [4, 5] (fun c b wr => ∃ j : Nat, j ≤ (chars L).length ∧ b = .int .i64 (blen L j : Nat) ∧ c = .int .i64 (j : Nat) ∧ (∀ d ∈ (chars L).take j, notBad d = true) ∧ wr = w) (fun c _ _ => (chars L).length - (intOf c).toNat)
  case atStart => exact ⟨0, Nat.zero_le _, by rw [blen_zero]; rfl, rfl, by simp, rfl⟩
  case round =>
    obtain ⟨j, hj, rfl, rfl, hall, rfl⟩ := hrel
    have HALL := Lib.hid hall
    have hble := blen_le L j
    clear hall
    by_cases hlt : j < (chars L).length
    · have hbl := (blen_lt_iff L j).2 hlt
      have HAT := Lib.hid (chars_at hlt)
      have HSU := Lib.hid (blen_succ hlt)
      rcases charRes_cases (L.drop (blen L j)) with ⟨h1, h2⟩ | ⟨v, n, h1, hn1, hn2, hn4, hv, h2, h3⟩
      · have HF := Lib.hid (HP.out (0, 12) (by
          have : (chars L).all notBad = false := by
            rw [List.all_eq_false]
            exact ⟨_, List.mem_of_getElem? HAT.out, by rw [h2, notBad_none]; simp⟩
          unfold colRes; rw [this]; rfl))
        have H1 := Lib.hid h1
        clear h1 h2
        go_wp2_with fail
        refine (ref_char s (blen L j) _ hs (by omega)).mono ?_
        rintro e w' ⟨rfl, rfl⟩
        rw [← HL.out, H1.out]
        simp only
        go_wp2_with fail
        go_ret2
        exact HF.out
      · have H1 := Lib.hid h1
        rw [List.length_drop] at hn2
        have hn0 : ((n : Int) == 0) = false := by simp; omega
        have HA : Hid (∀ d ∈ (chars L).take (j + 1), notBad d = true) := all_snoc HALL.out HAT.out (by rw [h2]; exact notBad_some _ _)
        have HS : Hid (blen L (j + 1) = blen L j + n) := by show _ = _; rw [HSU.out, h3]
        clear h1 h2 h3
        go_wp2_with fail
        refine (ref_char s (blen L j) _ hs (by omega)).mono ?_
        rintro e w' ⟨rfl, rfl⟩
        rw [← HL.out, H1.out]
        simp only
        go_wp2_with fail
        refine ⟨⟨j + 1, by omega, by rw [HS.out]; go_num, by go_num, HA.out, trivial⟩, by simp [intOf]; omega⟩
    · have hje : j = (chars L).length := by omega
      have hbe : L.length ≤ blen L j := by
        have := blen_lt_iff L j; omega
      have HF := Lib.hid (HP.out (j, 0) (by
        have h1 := HALL.out
        rw [hje, List.take_length] at h1
        unfold colRes; rw [List.all_eq_true.2 h1, if_pos rfl, hje]))
      clear hje
      go_wp2_with fail
      go_ret2
      exact HF.out

def TrueB (w : World) (e : Ending) (w' : World) : Prop := e = .returned (.bool true) ∧ Below w.heap.size w w'

/-- A boxed call of the script: what the world behind it holds. -/
theorem boxed (w : World) (k : Int) (s : ByteArray) (t : TypeId) : ∃ w0, w0 = w.alloc (.cells #[.int .i64 k, .string s] t) ∧ Hid (Below w.heap.size w w0) ∧ w0.cell? ⟨w.heap.size, 0, none⟩ = some (.int .i64 k) ∧ w0.cell? ⟨w.heap.size, 1, none⟩ = some (.string s) ∧ w.heap.size < w0.heap.size :=
  ⟨_, rfl, (Below.refl _ _).alloc (Nat.le_refl _) _, by simp [go_sem], by simp [go_sem], by simp⟩

set_option maxRecDepth 100000 in
set_option maxHeartbeats 1000000 in
theorem right_lines (s : ByteArray) (w : World) (hs : s.size ≤ 1048576) (hx : Lx w) :
    Calls Try.prog 41 #[.agg #[.int .i64 1, .string s]] w (TrueB w) := by
  have HX := Lib.hid hx
  clear hx
  go_enter Try.func41, Try.ntmps41
  go_wp2_with fail
  obtain ⟨w0, hw0, HB0, hc0, hc1, hz0⟩ := boxed w 1 s 72
  rw [← hw0]
  clear hw0
  have HX0 := Lib.hid (HX.out.below HB0.out)
  go_region_held3 (fun w' => w'.cell? ⟨w.heap.size, 1, none⟩ = some (.string s))
    (first
      | go_keep
      | exact (hb3.cell (p := ⟨w.heap.size, 1, none⟩) hz2').trans ((hb2.cell (p := ⟨w.heap.size, 1, none⟩) hz1).trans ((hb1.cell (p := ⟨w.heap.size, 1, none⟩) hz0).trans hc1))
      | exact (hb2.cell (p := ⟨w.heap.size, 1, none⟩) hz1).trans ((hb1.cell (p := ⟨w.heap.size, 1, none⟩) hz0).trans hc1)
      | exact (hb1.cell (p := ⟨w.heap.size, 1, none⟩) hz0).trans hc1)
    (first
      | (go_at_call 20; refine (lines_any s _ hs (by exact HX0.out)).mono ?_; rintro e w1 ⟨v1, rfl, ho1, hb1⟩; have hz1 : w.heap.size < w1.heap.size := Nat.lt_of_lt_of_le hz0 hb1.size)
      | (go_at_call 18; refine (ref_lines_any s _ hs).mono ?_; rintro e w2 ⟨v2, rfl, ho2, hb2⟩; have hz2 := hb2.size; have hz2' : w.heap.size < w2.heap.size := Nat.lt_of_lt_of_le hz1 hb2.size)
      | (go_at_call 21; refine (texts_same _ _ (lines s.data.toList) _ (RdSt.below (ownsRow_mono ho1 (Nat.zero_le _)) hb2) (ownsRow_mono ho2 (Nat.zero_le _))).mono ?_; rintro e w3 ⟨rfl, hb3⟩))
  have HBF : Hid (Below w.heap.size w w3) := HB0.out.drew.trans ((hb1.trans ((hb2.trans (hb3.mono hz2)).mono hb1.size)).mono (Nat.le_of_lt hz0))
  clear hb1 hb2 hb3 ho1 ho2
  go_wp2_with fail
  go_ret
  exact ⟨rfl, HBF.out⟩

set_option maxRecDepth 100000 in
set_option maxHeartbeats 1000000 in
theorem right_tokens (s : ByteArray) (w : World) (hs : s.size ≤ 1048576) (hx : Lx w) :
    Calls Try.prog 41 #[.agg #[.int .i64 2, .string s]] w (TrueB w) := by
  have HX := Lib.hid hx
  clear hx
  go_enter Try.func41, Try.ntmps41
  go_wp2_with fail
  obtain ⟨w0, hw0, HB0, hc0, hc1, hz0⟩ := boxed w 2 s 72
  rw [← hw0]
  clear hw0
  have HX0 := Lib.hid (HX.out.below HB0.out)
  refine (tokens_any s _ hs HX0.out).mono ?_
  rintro e w1 ⟨v1, rfl, ho1, hb1⟩
  have hz1 : w.heap.size < w1.heap.size := Nat.lt_of_lt_of_le hz0 hb1.size
  have hc2 := (hb1.cell (p := ⟨w.heap.size, 1, none⟩) hz0).trans hc1
  clear hc0 hc1
  go_wp2_with fail
  refine (ref_tokens s _ hs).mono ?_
  rintro e w2 ⟨v2, rfl, ho2, hb2⟩
  have HB2 : Hid (Below w.heap.size w w2) := HB0.out.trans ((hb1.trans (hb2.mono hb1.size)).mono (Nat.le_of_lt hz0))
  have R1 : Hid (RdTk w2 v1 (resTok (Toks 1 (chars s.data.toList)))) := RdTk.below (ownsRow_mono ho1 (Nat.zero_le _)) hb2
  have R2 : Hid (RdTk w2 v2 (resTok (Toks 1 (chars s.data.toList)))) := ownsRow_mono ho2 (Nat.zero_le _)
  clear ho1 ho2 hb1 hb2 hc2
  go_wp2_with fail
  refine (tokens_same _ _ _ _ R1.out R2.out).mono ?_
  rintro e w3 ⟨rfl, hb3⟩
  have HB3 : Hid (Below w.heap.size w w3) := HB2.out.trans (hb3.mono HB2.out.size)
  clear hb3
  go_wp2_with fail
  go_ret
  exact ⟨rfl, HB3.out⟩

set_option maxRecDepth 100000 in
set_option maxHeartbeats 1000000 in
theorem right_columns (s : ByteArray) (w : World) (hs : s.size ≤ 1048576) :
    Calls Try.prog 41 #[.agg #[.int .i64 3, .string s]] w (TrueB w) := by
  go_enter Try.func41, Try.ntmps41
  go_wp2_with fail
  obtain ⟨w0, hw0, HB0, hc0, hc1, hz0⟩ := boxed w 3 s 72
  rw [← hw0]
  clear hw0
  refine (columns_any s _ hs).mono ?_
  rintro e w1 ⟨rfl, hb1⟩
  have hz1 : w.heap.size < w1.heap.size := Nat.lt_of_lt_of_le hz0 hb1.size
  have hc2 := (hb1.cell (p := ⟨w.heap.size, 1, none⟩) hz0).trans hc1
  have HB2 : Hid (Below w.heap.size w w1) := HB0.out.trans (hb1.mono (Nat.le_of_lt hz0))
  clear hc0 hc1 hb1
  go_wp2_with fail
  refine (ref_columns s _ hs).mono ?_
  rintro e w2 ⟨rfl, rfl⟩
  generalize colRes s.data.toList = cr at *
  obtain ⟨n, e⟩ := cr
  simp only
  go_wp2_with fail
  go_ret
  exact ⟨rfl, HB2.out⟩

set_option maxRecDepth 100000 in
set_option maxHeartbeats 1000000 in
theorem right_other (k : Int) (s : ByteArray) (w : World) (h1 : k ≠ 1) (h2 : k ≠ 2) (h3 : k ≠ 3) :
    Calls Try.prog 41 #[.agg #[.int .i64 k, .string s]] w (TrueB w) := by
  have n1 : (k == 1) = false := by simp [h1]
  have n2 : (k == 2) = false := by simp [h2]
  have n3 : (k == 3) = false := by simp [h3]
  clear h1 h2 h3
  have HB : Hid (Below w.heap.size w (w.alloc (.cells #[.int .i64 k, .string s] 72))) := (Below.refl _ _).alloc (Nat.le_refl _) _
  go_enter Try.func41, Try.ntmps41
  go_wp2_with fail
  go_ret
  exact ⟨rfl, HB.out⟩

theorem right_any (k : Int) (s : ByteArray) (w : World) (hs : s.size ≤ 1048576) (hx : Lx w) :
    Calls Try.prog 41 #[.agg #[.int .i64 k, .string s]] w (TrueB w) := by
  by_cases h1 : k = 1
  · subst h1; exact right_lines s w hs hx
  by_cases h2 : k = 2
  · subst h2; exact right_tokens s w hs hx
  by_cases h3 : k = 3
  · subst h3; exact right_columns s w hs
  exact right_other k s w h1 h2 h3

end Go.Proofs.Ytebidhdoiojaeaa
