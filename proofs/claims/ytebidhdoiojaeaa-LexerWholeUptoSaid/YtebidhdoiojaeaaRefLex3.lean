/- Walks of the document's lexer: run, comment. -/
import Derived.Test.YtebidhdoiojaeaaRefLex2
import Derived.Test.YtebidhdoiojaeaaLexPure6
namespace Go.Proofs.Ytebidhdoiojaeaa
open Go.RowKit LexP

def RunPost (l : Bytes) (p : C → Bool) (w : World) (e : Ending) (w' : World) : Prop :=
  e = .returned (.tuple #[.int .i64 (blen l (runLen p (chars l)) : Nat), .int .i64 (runLen p (chars l) : Nat)]) ∧ w = w'

theorem isNum_some (v : Nat) (t : Bytes) : isNum (some v, t) = (isK 3 v || v == 95) := rfl
theorem isAl_some (v : Nat) (t : Bytes) : isAl (some v, t) = (isK 3 v || isK 4 v) := rfl
theorem isK_us : isK 4 95 = true := by decide
theorem isNum_none (t : Bytes) : isNum (none, t) = false := by simp [isNum, kd, rn]
theorem isAl_none (t : Bytes) : isAl (none, t) = false := by simp [isAl, kd]

set_option maxRecDepth 100000 in
set_option maxHeartbeats 1000000 in
theorem ref_run_num (s : ByteArray) (i : Nat) (w : World) (hs : s.size ≤ 1048576) (hi : i ≤ s.size) :
    Calls Try.prog 36 #[.string s, .int .i64 (i : Nat), .bool true] w (RunPost (s.data.toList.drop i) isNum w) := by
  have hsz : s.size = s.data.toList.length := Lib.size_eq s
  obtain ⟨L, hL⟩ : ∃ L, L = s.data.toList.drop i := ⟨_, rfl⟩
  rw [← hL]
  have hLl : L.length = s.size - i := by rw [hL, List.length_drop, hsz]
  have HL := Lib.hid hL
  have HP : Hid (∀ j, runLen isNum (chars L) = j → RunPost L isNum w (.returned (.tuple #[.int .i64 (blen L j : Nat), .int .i64 (j : Nat)])) w) := by
    intro j h; exact ⟨by rw [h], rfl⟩
  have hcl : (chars L).length ≤ 1048576 := by have := chars_len L; omega
  clear hsz hL
  go_enter Try.func36, Try.ntmps36
  go_wp2_with fail
  go_loopw [8, 9] (fun b c wr => ∃ j : Nat, j ≤ (chars L).length ∧ b = .int .i64 (blen L j : Nat) ∧ c = .int .i64 (j : Nat) ∧ (∀ d ∈ (chars L).take j, isNum d = true) ∧ wr = w) (fun _ c _ => (chars L).length - (intOf c).toNat)
  case atStart => exact ⟨0, Nat.zero_le _, by rw [blen_zero]; rfl, rfl, by simp, rfl⟩
  case round =>
    obtain ⟨j, hj, rfl, rfl, hall, rfl⟩ := hrel
    have HALL := Lib.hid hall
    have hble := blen_le L j
    clear hall
    by_cases hlt : j < (chars L).length
    · have hbl := (blen_lt_iff L j).2 hlt
      have HAT := Lib.hid (chars_at hlt)
      have HSU := Lib.hid (blen_succ hlt)
      have HD : Hid (s.data.toList.drop (i + blen L j) = L.drop (blen L j)) := by show _ = _; rw [HL.out, List.drop_drop]
      have e1 : (i : Int) + (blen L j : Int) = ((i + blen L j : Nat) : Int) := by omega
      have E1 := Lib.hid e1
      clear e1
      rcases charRes_cases (L.drop (blen L j)) with ⟨h1, h2⟩ | ⟨v, n, h1, hn1, hn2, hn4, hv, h2, h3⟩
      · have HF := Lib.hid (HP.out j (runLen_at hlt HALL.out HAT.out (by rw [h2]; exact isNum_none _)))
        have H1 := Lib.hid h1
        clear h1 h2
        go_wp2_with fail
        rw [E1.out]
        refine (ref_char s (i + blen L j) _ hs (by omega)).mono ?_
        rintro e w' ⟨rfl, rfl⟩
        rw [HD.out, H1.out]
        simp only
        go_wp2_with fail
        go_ret2
        exact HF.out
      · have H1 := Lib.hid h1
        rw [List.length_drop] at hn2
        have hn0 : ((n : Int) == 0) = false := by simp; omega
        cases hd : isK 3 v with
        | true =>
          have HA : Hid (∀ d ∈ (chars L).take (j + 1), isNum d = true) := all_snoc HALL.out HAT.out (by rw [h2, isNum_some, hd]; rfl)
          have HS : Hid (blen L (j + 1) = blen L j + n) := by show _ = _; rw [HSU.out, h3]
          have HK := Lib.hid hd
          clear h1 h2 h3 hd
          go_wp2_with fail
          rw [E1.out]
          refine (ref_char s (i + blen L j) _ hs (by omega)).mono ?_
          rintro e w' ⟨rfl, rfl⟩
          rw [HD.out, H1.out]
          simp only
          go_wp2_with fail
          refine (ref_digit v _ hv).mono ?_
          rintro e w' ⟨rfl, rfl⟩
          rw [HK.out]
          go_wp2_with fail
          refine ⟨⟨j + 1, by omega, by rw [HS.out]; go_num, by go_num, HA.out, trivial⟩, by simp [intOf]; omega⟩
        | false =>
          have HK := Lib.hid hd
          by_cases h95 : v = 95
          · subst h95
            have HA : Hid (∀ d ∈ (chars L).take (j + 1), isNum d = true) := all_snoc HALL.out HAT.out (by rw [h2, isNum_some, hd]; rfl)
            have HS : Hid (blen L (j + 1) = blen L j + n) := by show _ = _; rw [HSU.out, h3]
            clear h1 h2 h3 hd
            go_wp2_with fail
            rw [E1.out]
            refine (ref_char s (i + blen L j) _ hs (by omega)).mono ?_
            rintro e w' ⟨rfl, rfl⟩
            rw [HD.out, H1.out]
            simp only
            go_wp2_with fail
            refine (ref_digit 95 _ hv).mono ?_
            rintro e w' ⟨rfl, rfl⟩
            rw [HK.out]
            go_wp2_with fail
            refine ⟨⟨j + 1, by omega, by rw [HS.out]; go_num, by go_num, HA.out, trivial⟩, by simp [intOf]; omega⟩
          · have hne : ((v : Int) != 95) = true := by simp; omega
            have HF := Lib.hid (HP.out j (runLen_at hlt HALL.out HAT.out (by rw [h2, isNum_some, hd]; simpa using h95)))
            clear h1 h2 h3 hd h95
            go_wp2_with fail
            rw [E1.out]
            refine (ref_char s (i + blen L j) _ hs (by omega)).mono ?_
            rintro e w' ⟨rfl, rfl⟩
            rw [HD.out, H1.out]
            simp only
            go_wp2_with fail
            refine (ref_digit v _ hv).mono ?_
            rintro e w' ⟨rfl, rfl⟩
            rw [HK.out]
            go_wp2_with fail
            go_ret2
            exact HF.out
    · have hje : j = (chars L).length := by omega
      have hbe : L.length ≤ blen L j := by
        have := blen_lt_iff L j; omega
      have HF := Lib.hid (HP.out j (by rw [hje]; exact runLen_end (by rw [← hje]; exact HALL.out)))
      have hge : ¬ ((i : Int) + (blen L j : Int) < (s.size : Int)) := by omega
      clear hje
      go_wp2_with fail
      go_ret2
      exact HF.out

set_option maxRecDepth 100000 in
set_option maxHeartbeats 1000000 in
theorem ref_run_al (s : ByteArray) (i : Nat) (w : World) (hs : s.size ≤ 1048576) (hi : i ≤ s.size) :
    Calls Try.prog 36 #[.string s, .int .i64 (i : Nat), .bool false] w (RunPost (s.data.toList.drop i) isAl w) := by
  have hsz : s.size = s.data.toList.length := Lib.size_eq s
  obtain ⟨L, hL⟩ : ∃ L, L = s.data.toList.drop i := ⟨_, rfl⟩
  rw [← hL]
  have hLl : L.length = s.size - i := by rw [hL, List.length_drop, hsz]
  have HL := Lib.hid hL
  have HP : Hid (∀ j, runLen isAl (chars L) = j → RunPost L isAl w (.returned (.tuple #[.int .i64 (blen L j : Nat), .int .i64 (j : Nat)])) w) := by
    intro j h; exact ⟨by rw [h], rfl⟩
  have hcl : (chars L).length ≤ 1048576 := by have := chars_len L; omega
  clear hsz hL
  go_enter Try.func36, Try.ntmps36
  go_wp2_with fail
  go_loopw [8, 9] (fun b c wr => ∃ j : Nat, j ≤ (chars L).length ∧ b = .int .i64 (blen L j : Nat) ∧ c = .int .i64 (j : Nat) ∧ (∀ d ∈ (chars L).take j, isAl d = true) ∧ wr = w) (fun _ c _ => (chars L).length - (intOf c).toNat)
  case atStart => exact ⟨0, Nat.zero_le _, by rw [blen_zero]; rfl, rfl, by simp, rfl⟩
  case round =>
    obtain ⟨j, hj, rfl, rfl, hall, rfl⟩ := hrel
    have HALL := Lib.hid hall
    have hble := blen_le L j
    clear hall
    by_cases hlt : j < (chars L).length
    · have hbl := (blen_lt_iff L j).2 hlt
      have HAT := Lib.hid (chars_at hlt)
      have HSU := Lib.hid (blen_succ hlt)
      have HD : Hid (s.data.toList.drop (i + blen L j) = L.drop (blen L j)) := by show _ = _; rw [HL.out, List.drop_drop]
      have e1 : (i : Int) + (blen L j : Int) = ((i + blen L j : Nat) : Int) := by omega
      have E1 := Lib.hid e1
      clear e1
      rcases charRes_cases (L.drop (blen L j)) with ⟨h1, h2⟩ | ⟨v, n, h1, hn1, hn2, hn4, hv, h2, h3⟩
      · have HF := Lib.hid (HP.out j (runLen_at hlt HALL.out HAT.out (by rw [h2]; exact isAl_none _)))
        have H1 := Lib.hid h1
        clear h1 h2
        go_wp2_with fail
        rw [E1.out]
        refine (ref_char s (i + blen L j) _ hs (by omega)).mono ?_
        rintro e w' ⟨rfl, rfl⟩
        rw [HD.out, H1.out]
        simp only
        go_wp2_with fail
        go_ret2
        exact HF.out
      · have H1 := Lib.hid h1
        rw [List.length_drop] at hn2
        have hn0 : ((n : Int) == 0) = false := by simp; omega
        cases hd : isK 3 v with
        | true =>
          have HA : Hid (∀ d ∈ (chars L).take (j + 1), isAl d = true) := all_snoc HALL.out HAT.out (by rw [h2, isAl_some, hd]; rfl)
          have HS : Hid (blen L (j + 1) = blen L j + n) := by show _ = _; rw [HSU.out, h3]
          have HK := Lib.hid hd
          clear h1 h2 h3 hd
          go_wp2_with fail
          rw [E1.out]
          refine (ref_char s (i + blen L j) _ hs (by omega)).mono ?_
          rintro e w' ⟨rfl, rfl⟩
          rw [HD.out, H1.out]
          simp only
          go_wp2_with fail
          refine (ref_digit v _ hv).mono ?_
          rintro e w' ⟨rfl, rfl⟩
          rw [HK.out]
          go_wp2_with fail
          refine ⟨⟨j + 1, by omega, by rw [HS.out]; go_num, by go_num, HA.out, trivial⟩, by simp [intOf]; omega⟩
        | false =>
          have HK := Lib.hid hd
          by_cases h95 : v = 95
          · subst h95
            have HA : Hid (∀ d ∈ (chars L).take (j + 1), isAl d = true) := all_snoc HALL.out HAT.out (by rw [h2, isAl_some, hd]; rfl)
            have HS : Hid (blen L (j + 1) = blen L j + n) := by show _ = _; rw [HSU.out, h3]
            clear h1 h2 h3 hd
            go_wp2_with fail
            rw [E1.out]
            refine (ref_char s (i + blen L j) _ hs (by omega)).mono ?_
            rintro e w' ⟨rfl, rfl⟩
            rw [HD.out, H1.out]
            simp only
            go_wp2_with fail
            refine (ref_digit 95 _ hv).mono ?_
            rintro e w' ⟨rfl, rfl⟩
            rw [HK.out]
            go_wp2_with fail
            refine ⟨⟨j + 1, by omega, by rw [HS.out]; go_num, by go_num, HA.out, trivial⟩, by simp [intOf]; omega⟩
          · have hne : ((v : Int) != 95) = true := by simp; omega
            cases h4 : isK 4 v with
            | true =>
              have HA : Hid (∀ d ∈ (chars L).take (j + 1), isAl d = true) := all_snoc HALL.out HAT.out (by rw [h2, isAl_some, hd, h4]; rfl)
              have HS : Hid (blen L (j + 1) = blen L j + n) := by show _ = _; rw [HSU.out, h3]
              have HK4 := Lib.hid h4
              clear h1 h2 h3 hd h95 h4
              go_wp2_with fail
              rw [E1.out]
              refine (ref_char s (i + blen L j) _ hs (by omega)).mono ?_
              rintro e w' ⟨rfl, rfl⟩
              rw [HD.out, H1.out]
              simp only
              go_wp2_with fail
              refine (ref_digit v _ hv).mono ?_
              rintro e w' ⟨rfl, rfl⟩
              rw [HK.out]
              go_wp2_with fail
              refine (ref_letter v _ hv).mono ?_
              rintro e w' ⟨rfl, rfl⟩
              rw [HK4.out]
              go_wp2_with fail
              refine ⟨⟨j + 1, by omega, by rw [HS.out]; go_num, by go_num, HA.out, trivial⟩, by simp [intOf]; omega⟩
            | false =>
              have HF := Lib.hid (HP.out j (runLen_at hlt HALL.out HAT.out (by rw [h2, isAl_some, hd, h4]; rfl)))
              have HK4 := Lib.hid h4
              clear h1 h2 h3 hd h95 h4
              go_wp2_with fail
              rw [E1.out]
              refine (ref_char s (i + blen L j) _ hs (by omega)).mono ?_
              rintro e w' ⟨rfl, rfl⟩
              rw [HD.out, H1.out]
              simp only
              go_wp2_with fail
              refine (ref_digit v _ hv).mono ?_
              rintro e w' ⟨rfl, rfl⟩
              rw [HK.out]
              go_wp2_with fail
              refine (ref_letter v _ hv).mono ?_
              rintro e w' ⟨rfl, rfl⟩
              rw [HK4.out]
              go_wp2_with fail
              go_ret2
              exact HF.out
    · have hje : j = (chars L).length := by omega
      have hbe : L.length ≤ blen L j := by
        have := blen_lt_iff L j; omega
      have HF := Lib.hid (HP.out j (by rw [hje]; exact runLen_end (by rw [← hje]; exact HALL.out)))
      have hge : ¬ ((i : Int) + (blen L j : Int) < (s.size : Int)) := by omega
      clear hje
      go_wp2_with fail
      go_ret2
      exact HF.out

/-- The column of the first bad byte of a comment; 0: there is none. -/
def comCol (l : Bytes) (col : Nat) : Nat := if runLen notBad (chars l) < (chars l).length then col + runLen notBad (chars l) else 0
def ComPost (l : Bytes) (col : Nat) (w : World) (e : Ending) (w' : World) : Prop := e = .returned (.int .i64 (comCol l col : Nat)) ∧ w = w'

set_option maxRecDepth 100000 in
set_option maxHeartbeats 1000000 in
theorem ref_comment (s : ByteArray) (i col : Nat) (w : World) (hs : s.size ≤ 1048576) (hi : i ≤ s.size) (hc : col ≤ 1048577) :
    Calls Try.prog 34 #[.string s, .int .i64 (i : Nat), .int .i64 (col : Nat)] w (ComPost (s.data.toList.drop i) col w) := by
  have hsz : s.size = s.data.toList.length := Lib.size_eq s
  obtain ⟨L, hL⟩ : ∃ L, L = s.data.toList.drop i := ⟨_, rfl⟩
  rw [← hL]
  have hLl : L.length = s.size - i := by rw [hL, List.length_drop, hsz]
  have HL := Lib.hid hL
  have HP : Hid (∀ j, j < (chars L).length → runLen notBad (chars L) = j → ComPost L col w (.returned (.int .i64 (col + j : Nat))) w) := by
    intro j hj h; exact ⟨by unfold comCol; rw [h, if_pos hj], rfl⟩
  have HE : Hid (runLen notBad (chars L) = (chars L).length → ComPost L col w (.returned (.int .i64 0)) w) := by
    intro h; exact ⟨by unfold comCol; rw [h, if_neg (Nat.lt_irrefl _)]; rfl, rfl⟩
  have hcl : (chars L).length ≤ 1048576 := by have := chars_len L; omega
  clear hsz hL
  go_enter Try.func34, Try.ntmps34
  go_wp2_with fail
  go_loopw [1, 2] (fun b c wr => ∃ j : Nat, j ≤ (chars L).length ∧ b = .int .i64 (i + blen L j : Nat) ∧ c = .int .i64 (col + j : Nat) ∧ (∀ d ∈ (chars L).take j, notBad d = true) ∧ wr = w) (fun _ c _ => col + (chars L).length - (intOf c).toNat)
  case atStart => exact ⟨0, Nat.zero_le _, by rw [blen_zero]; rfl, rfl, by simp, rfl⟩
  case round =>
    obtain ⟨j, hj, rfl, rfl, hall, rfl⟩ := hrel
    have HALL := Lib.hid hall
    have hble := blen_le L j
    clear hall
    by_cases hlt : j < (chars L).length
    · have hbl := (blen_lt_iff L j).2 hlt
      have HAT := Lib.hid (chars_at hlt)
      have HSU := Lib.hid (blen_succ hlt)
      have HD : Hid (s.data.toList.drop (i + blen L j) = L.drop (blen L j)) := by show _ = _; rw [HL.out, List.drop_drop]
      rcases charRes_cases (L.drop (blen L j)) with ⟨h1, h2⟩ | ⟨v, n, h1, hn1, hn2, hn4, hv, h2, h3⟩
      · have HF := Lib.hid (HP.out j hlt (runLen_at hlt HALL.out HAT.out (by rw [h2]; exact notBad_none _)))
        have H1 := Lib.hid h1
        clear h1 h2
        go_wp2_with fail
        refine (ref_char s (i + blen L j) _ hs (by omega)).mono ?_
        rintro e w' ⟨rfl, rfl⟩
        rw [HD.out, H1.out]
        simp only
        go_wp2_with fail
        go_ret
        exact HF.out
      · have H1 := Lib.hid h1
        rw [List.length_drop] at hn2
        have hn0 : ((n : Int) == 0) = false := by simp; omega
        have HA : Hid (∀ d ∈ (chars L).take (j + 1), notBad d = true) := all_snoc HALL.out HAT.out (by rw [h2]; exact notBad_some _ _)
        have HS : Hid (blen L (j + 1) = blen L j + n) := by show _ = _; rw [HSU.out, h3]
        clear h1 h2 h3
        go_wp2_with fail
        refine (ref_char s (i + blen L j) _ hs (by omega)).mono ?_
        rintro e w' ⟨rfl, rfl⟩
        rw [HD.out, H1.out]
        simp only
        go_wp2_with fail
        refine ⟨⟨j + 1, by omega, by rw [HS.out]; go_num, by go_num, HA.out, trivial⟩, by simp [intOf]; omega⟩
    · have hje : j = (chars L).length := by omega
      have hbe : L.length ≤ blen L j := by
        have := blen_lt_iff L j; omega
      have HF := Lib.hid (HE.out (runLen_end (by rw [← hje]; exact HALL.out)))
      clear hje
      go_wp2_with fail
      go_ret
      exact HF.out
end Go.Proofs.Ytebidhdoiojaeaa
