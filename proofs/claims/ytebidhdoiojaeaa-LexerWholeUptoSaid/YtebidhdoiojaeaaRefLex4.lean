/- Walk of the document's Tokens: the same tokens, or the same fault. -/
import Derived.Test.YtebidhdoiojaeaaRefLex3
import Derived.Test.YtebidhdoiojaeaaRefNum4
import Derived.Test.YtebidhdoiojaeaaLexW7
namespace Go.Proofs.Ytebidhdoiojaeaa
open Go.RowKit LexP NumP

def RtRel (S : Bytes) (w : World) (l col i : Value) (wr : World) : Prop :=
  ∃ k acc, k ≤ (chars S).length ∧ i = .int .i64 (blen S k : Nat) ∧ col = .int .i64 ((k : Int) + 1) ∧ wr.ownsRow w.heap.size 46 3 l acc.length (tkCells acc) ∧ Below w.heap.size w wr ∧
    Toks 1 (chars S) = (Toks (k + 1) ((chars S).drop k)).after acc ∧ acc.length ≤ k

theorem tkCells_one' (l : List Tok) : ∀ u ∈ tkCells l, u.oneCell' = true := by
  intro u hu
  simp only [tkCells, List.mem_flatMap] at hu
  obtain ⟨t, _, ht⟩ := hu
  simp at ht
  rcases ht with rfl | rfl | rfl <;> rfl

theorem kd_some (v : Nat) (t : Bytes) : kd (some v, t) = kindOf v := rfl
theorem isK_of {k v : Nat} (h : kindOf v = k) : isK k v = true := by unfold isK; rw [h]; simp
theorem isK_not {k v : Nat} (h : kindOf v ≠ k) : isK k v = false := by unfold isK; simp [h]
theorem kind_hash {v : Nat} : kindOf v = 2 ↔ v = 35 := by
  unfold kindOf
  repeat' split
  all_goals omega
theorem mark_none {v : Nat} (h : kindOf v ≠ 5) : markOf v = [] := by
  have h1 : v ≠ 0x2212 := by rintro rfl; exact h (by decide)
  have h2 : v ≠ 0xd7 := by rintro rfl; exact h (by decide)
  unfold markOf; rw [if_neg h1, if_neg h2, if_neg h]
theorem mark_some {v : Nat} {t : Bytes} (h : kindOf v = 5) (hm : MarkOk (some v, t)) : ∃ x, markOf v = [x] ∧ signOf (some v, t) = [x] := by
  unfold markOf signOf rn
  by_cases h1 : v = 0x2212
  · subst h1; exact ⟨45, rfl, rfl⟩
  by_cases h2 : v = 0xd7
  · subst h2; exact ⟨42, rfl, rfl⟩
  have hlt : v < 128 := by
    unfold kindOf at h
    repeat' split at h
    all_goals omega
  have := hm h (by simpa [rn] using hlt)
  refine ⟨v.toUInt8, ?_, ?_⟩
  · rw [if_neg h1, if_neg h2, if_pos h]
  · simp only [h1, h2, if_false]; exact this

theorem rtext (s : ByteArray) (k r : Nat) (hr : k + r ≤ (chars s.data.toList).length) :
    s.extract (blen s.data.toList k) (blen s.data.toList k + blen (s.data.toList.drop (blen s.data.toList k)) r) = ⟨(bytesOf (((chars s.data.toList).drop k).take r)).toArray⟩ := by
  have h := bytes_mid s.data.toList k (k + r) (by omega)
  rw [Lib.extract_eq]
  have e : blen s.data.toList k + blen (s.data.toList.drop (blen s.data.toList k)) r = (bytesOf ((chars s.data.toList).take (k + r))).length := by rw [← blen_add]; rfl
  rw [e, show k + r - k = r from by omega] at *
  rw [← h]; rfl

theorem num_bytes : ∀ l : Bytes, ∀ c ∈ chars l, isNum c = true → ∃ b, c.2 = [b] ∧ (isDig b = true ∨ b = 95) ∧ (kd c = 3 → isDig b = true) := by
  apply chars_ind
  · intro c hc; simp [chars_nil] at hc
  · intro l hl ih c hc
    rw [chars_cons hl] at hc
    rcases List.mem_cons.1 hc with rfl | hc
    · intro hn
      cases hd : dec l with
      | none =>
        have hv : val l = none := by simp [val, hd]
        rw [hv] at hn; simp [isNum_none] at hn
      | some p =>
        obtain ⟨v, n⟩ := p
        have hv : val l = some v := by simp [val, hd]
        have hw : wid l = n := by simp [wid, hd]
        rw [hv] at hn
        rw [hw, hv]
        rw [isNum_some] at hn
        have h3 : kindOf v = 3 → 48 ≤ v ∧ v ≤ 57 := by
          unfold kindOf
          repeat' split
          all_goals omega
        have hv2 : (48 ≤ v ∧ v ≤ 57) ∨ v = 95 := by
          simp only [Bool.or_eq_true, isK, beq_iff_eq] at hn
          rcases hn with h | h
          · exact .inl (h3 h)
          · exact .inr h
        obtain ⟨rfl, ht⟩ := dec_ascii hd (by omega)
        have htn : v.toUInt8.toNat = v := by simp; omega
        refine ⟨v.toUInt8, ht, ?_, ?_⟩
        · rcases hv2 with h | rfl
          · left; simp only [isDig, htn, Bool.and_eq_true, decide_eq_true_eq]; exact h
          · right; rfl
        · intro hk
          have := h3 hk
          simp only [isDig, htn, Bool.and_eq_true, decide_eq_true_eq]; exact this
    · exact ih c hc

theorem num_text (S : Bytes) (k : Nat) : numRun (bytesOf (((chars S).drop k).take (runLen isNum ((chars S).drop k)))) := by
  intro b hb
  simp only [bytesOf, List.mem_flatMap] at hb
  obtain ⟨c, hc, hbc⟩ := hb
  have h1 := takeWhile_all _ c hc
  obtain ⟨x, hx, h2, _⟩ := num_bytes S c (List.mem_of_mem_drop (List.mem_of_mem_take hc)) h1
  rw [hx] at hbc
  simp only [List.mem_singleton] at hbc
  subst hbc; exact h2

theorem num_first (S : Bytes) {k v : Nat} {t : Bytes} {r : List C} (h : (chars S).drop k = (some v, t) :: r) (h3 : kindOf v = 3) :
    ∃ c, (bytesOf (((chars S).drop k).take (runLen isNum ((chars S).drop k))))[0]? = some c ∧ isDig c = true := by
  have hp : isNum (some v, t) = true := by simp [isNum, kd_some, h3]
  have hm : (some v, t) ∈ chars S := List.mem_of_mem_drop (by rw [h]; exact List.mem_cons_self)
  obtain ⟨x, hx, _, h2⟩ := num_bytes S _ hm hp
  simp only at hx
  refine ⟨x, ?_, h2 h3⟩
  rw [h, runLen, List.takeWhile_cons, if_pos hp, List.length_cons, List.take_succ_cons]
  simp only [bytesOf, List.flatMap_cons, hx]; rfl

set_option maxRecDepth 100000 in
set_option maxHeartbeats 2000000 in
theorem ref_tokens (s : ByteArray) (w : World) (hs : s.size ≤ 1048576) :
    Calls Try.prog 19 #[.string s] w (TokPost (Toks 1 (chars s.data.toList)) w) := by
  obtain ⟨i0, hi, hz0, hz1, hz2⟩ := info_parts Try.infoTok
  have HMK := Lib.hid (markOk_chars s.data.toList)
  have hn : (chars s.data.toList).length ≤ 1048576 := by have := chars_len s.data.toList; rw [← Lib.size_eq] at this; omega
  have hsz := Lib.hid (Lib.size_eq s)
  go_enter Try.func19, Try.ntmps19
  go_wp2_with fail
  go_loopw [5, 6, 7] (fun l col i wr => RtRel s.data.toList w l col i wr) (fun _ col _ _ => (chars s.data.toList).length + 1 - (intOf col).toNat)
  case atStart => exact ⟨0, [], Nat.zero_le _, by rw [blen_zero]; rfl, rfl, World.ownsRow_nil _ _ _ _, Below.refl _ _, by simp [Res.after_nil], Nat.le_refl _⟩
  case round =>
    obtain ⟨k, acc, hk, rfl, rfl, hown, hb, htk, hal⟩ := hrel
    have HTK := Lib.hid htk
    have hzz := hb.size
    have hble := blen_le s.data.toList k
    rw [← hsz.out] at hble
    clear htk
    by_cases hlt : k < (chars s.data.toList).length
    · have hbl := (blen_lt_iff s.data.toList k).2 hlt
      rw [← hsz.out] at hbl
      have HAT := Lib.hid (chars_at hlt)
      have HSU := Lib.hid (blen_succ hlt)
      have HDC := Lib.hid (drop_cons HAT.out)
      have hLl : (s.data.toList.drop (blen s.data.toList k)).length = s.size - blen s.data.toList k := by rw [List.length_drop, ← hsz.out]
      have HCL := Lib.hid (chars_blen s.data.toList k)
      obtain ⟨L, hL⟩ : ∃ L, L = s.data.toList.drop (blen s.data.toList k) := ⟨_, rfl⟩
      have HLD : Hid (s.data.toList.drop (blen s.data.toList k) = L) := hL.symm
      rw [← hL] at HAT HSU HDC HCL hLl
      clear hL
      rcases charRes_cases L with ⟨h1, h2⟩ | ⟨v, n, h1, hn1, hn2, hn4, hv, h2, h3⟩
      · have HE : Hid (Toks (k + 1) ((chars s.data.toList).drop k) = .error (k + 1, 12)) := by show _ = _; rw [HDC.out, h2, Toks_bad _ rfl]
        have H1 := Lib.hid h1
        clear h1 h2
        go_wp2_with fail
        refine (ref_char s (blen s.data.toList k) _ hs (by omega)).mono ?_
        rintro e w' ⟨rfl, rfl⟩
        rw [HLD.out, H1.out]
        simp only
        go_wp2_with fail
        refine (ref_mark 0 _ (by omega)).mono ?_
        rintro e w' ⟨rfl, rfl⟩
        go_wp2_with fail
        go_ret3
        exact tokpost_err (k + 1) 12 (by show Value.int .i64 _ = _; congr 1) rfl (HTK.out.trans (after_err HE.out)) hb
      · have H1 := Lib.hid h1
        have hkp := kindOf_pos v
        have hn0 : ((n : Int) == 0) = false := by simp; omega
        have HS : Hid (blen s.data.toList (k + 1) = blen s.data.toList k + n) := by show _ = _; rw [HSU.out, h3]
        have HDV : Hid ((chars s.data.toList).drop k = (some v, L.take n) :: (chars s.data.toList).drop (k + 1)) := by show _ = _; rw [HDC.out, h2, h3]
        have HMV : Hid (MarkOk (some v, L.take n)) := by
          have := HMK.out _ (List.mem_of_getElem? HAT.out)
          rw [h2, h3] at this; exact this
        clear h1 h2 h3
        by_cases k1 : kindOf v = 1
        · have HB := Lib.hid (isK_of k1)
          have HE : Hid (Toks (k + 1) ((chars s.data.toList).drop k) = Toks (k + 1 + 1) ((chars s.data.toList).drop (k + 1))) := by show _ = _; rw [HDV.out, Toks_blank (c := (some v, L.take n)) _ k1]
          clear k1 hkp
          go_wp2_with fail
          refine (ref_char s (blen s.data.toList k) _ hs (by omega)).mono ?_
          rintro e w' ⟨rfl, rfl⟩
          rw [HLD.out, H1.out]
          simp only
          go_wp2_with fail
          refine (ref_mark v _ hv).mono ?_
          rintro e w' ⟨rfl, rfl⟩
          go_wp2_with fail
          refine (ref_blank v _ hv).mono ?_
          rintro e w' ⟨rfl, rfl⟩
          rw [HB.out]
          go_wp2_with fail
          have hfin : RtRel s.data.toList w u5 (.int .i64 ((k : Int) + 1 + 1)) (.int .i64 ((blen s.data.toList k : Int) + (n : Int))) wr := ⟨k + 1, acc, by omega, by rw [HS.out]; go_num, by go_num, hown, hb, by rw [HTK.out, HE.out], by omega⟩
          first | exact ⟨hfin, by simp [intOf]; omega⟩ | exact ⟨by (repeat apply Exists.intro); exact ⟨hfin, rfl⟩, by simp [intOf]; omega⟩
        have HB := Lib.hid (isK_not k1)
        by_cases k2 : kindOf v = 2
        · have h35 := kind_hash.1 k2
          subst h35
          have HE := Lib.hid (Toks_hash (c := (some 35, L.take n)) (cs := (chars s.data.toList).drop (k + 1)) (k + 1) k2)
          rw [← HDV.out] at HE
          have hle := runLen_le notBad ((chars s.data.toList).drop k)
          rw [List.length_drop] at hle
          clear k1 k2 hkp
          go_wp2_with fail
          refine (ref_char s (blen s.data.toList k) _ hs (by omega)).mono ?_
          rintro e w' ⟨rfl, rfl⟩
          rw [HLD.out, H1.out]
          simp only
          go_wp2_with fail
          refine (ref_mark 35 _ hv).mono ?_
          rintro e w' ⟨rfl, rfl⟩
          go_wp2_with fail
          refine (ref_blank 35 _ hv).mono ?_
          rintro e w' ⟨rfl, rfl⟩
          rw [HB.out]
          go_wp2_with fail
          rw [show ((k : Int) + 1) = ((k + 1 : Nat) : Int) from by omega]
          refine (ref_comment s (blen s.data.toList k) (k + 1) _ hs (by omega) (by omega)).mono ?_
          rintro e w' ⟨rfl, rfl⟩
          rw [HLD.out]
          unfold comCol
          rw [HCL.out, List.length_drop]
          by_cases hl2 : runLen notBad ((chars s.data.toList).drop k) < (chars s.data.toList).length - k
          · rw [if_pos hl2]
            have hgt : (0 : Int) < ((k + 1 + runLen notBad ((chars s.data.toList).drop k) : Nat) : Int) := by omega
            go_wp2_with fail
            go_ret3
            exact tokpost_err (k + 1 + runLen notBad ((chars s.data.toList).drop k)) 12 (by show Value.int .i64 _ = _; congr 1) rfl
              (HTK.out.trans (after_err (HE.out.trans (if_pos (by rw [List.length_drop]; omega))))) hb
          · rw [if_neg hl2]
            go_wp2_with fail
            go_ret3
            refine tokpost_ok (HTK.out.trans (after_ok ?_)) hown hb
            rw [HE.out, if_neg (by rw [List.length_drop]; omega)]
        have h35 : v ≠ 35 := fun h => k2 (kind_hash.2 h)
        have h35b : ((v : Int) == 35) = false := by simp; omega
        by_cases k3 : kindOf v = 3
        · have HK3 := Lib.hid (isK_of k3)
          have HE := Lib.hid (Toks_num (c := (some v, L.take n)) (cs := (chars s.data.toList).drop (k + 1)) (k + 1) k3)
          rw [← HDV.out] at HE
          have hp : 1 ≤ runLen isNum ((chars s.data.toList).drop k) := by rw [HDV.out]; exact runLen_pos (by simp [isNum, kd_some, k3])
          have hle := runLen_le isNum ((chars s.data.toList).drop k)
          rw [List.length_drop] at hle
          have HT := Lib.hid (rtext s k (runLen isNum ((chars s.data.toList).drop k)) (by omega))
          rw [HLD.out] at HT
          have HNR := Lib.hid (num_text s.data.toList k)
          have HND := Lib.hid (num_first s.data.toList HDV.out k3)
          have hb2 := blen_le L (runLen isNum ((chars s.data.toList).drop k))
          rw [hLl] at hb2
          have HSR : Hid (blen s.data.toList (k + runLen isNum ((chars s.data.toList).drop k)) = blen s.data.toList k + blen L (runLen isNum ((chars s.data.toList).drop k))) := by show _ = _; rw [blen_add, HLD.out]
          have HTL : Hid ((bytesOf (((chars s.data.toList).drop k).take (runLen isNum ((chars s.data.toList).drop k)))).length ≤ 1048576) := by
            show _ ≤ _
            have : (bytesOf (((chars s.data.toList).drop k).take (runLen isNum ((chars s.data.toList).drop k)))).length = blen L (runLen isNum ((chars s.data.toList).drop k)) := by unfold blen; rw [HCL.out]
            omega
          have HBN : Hid (badNum (bytesOf (((chars s.data.toList).drop k).take (runLen isNum ((chars s.data.toList).drop k)))) = anyBad (bytesOf (((chars s.data.toList).drop k).take (runLen isNum ((chars s.data.toList).drop k))))) := by
            refine badNum_anyBad ?_
            obtain ⟨c, h1, h2⟩ := HND.out
            rw [h1]; intro h; rw [Option.some.inj h] at h2; exact absurd h2 (by decide)
          clear k1 k2 hkp k3 h35 hLl
          go_wp2_with fail
          refine (ref_char s (blen s.data.toList k) _ hs (by omega)).mono ?_
          rintro e w' ⟨rfl, rfl⟩
          rw [HLD.out, H1.out]
          simp only
          go_wp2_with fail
          refine (ref_mark v _ hv).mono ?_
          rintro e w' ⟨rfl, rfl⟩
          go_wp2_with fail
          refine (ref_blank v _ hv).mono ?_
          rintro e w' ⟨rfl, rfl⟩
          rw [HB.out]
          go_wp2_with fail
          refine (ref_digit v _ hv).mono ?_
          rintro e w' ⟨rfl, rfl⟩
          rw [HK3.out]
          go_wp2_with fail
          refine (ref_run_num s (blen s.data.toList k) _ hs (by omega)).mono ?_
          rintro e w' ⟨rfl, rfl⟩
          rw [HLD.out, HCL.out]
          generalize runLen isNum ((chars s.data.toList).drop k) = r at *
          generalize blen L r = bl at *
          go_wp2_with fail
          rw [HT.out]
          generalize bytesOf (((chars s.data.toList).drop k).take r) = t at *
          have htl : t.length ≤ 1048576 := HTL.out
          refine (ref_grouped ⟨t.toArray⟩ _ (by rw [Lib.size_eq]; exact htl) HNR.out HND.out).mono ?_
          rintro e w2 hpost
          rcases hpost with ⟨hbad, rfl, hb2⟩ | ⟨hgood, v2, rfl, hown2, hb2⟩
          · have HE2 : Hid (Toks (k + 1) ((chars s.data.toList).drop k) = .error (k + 1, 7)) := by show _ = _; rw [HE.out, HBN.out, if_pos hbad]
            have HB2 : Hid (Below w.heap.size w w2) := hb.trans (hb2.mono hzz)
            clear hbad hb2
            go_wp2_with fail
            go_ret3
            exact tokpost_err (k + 1) 7 (by show Value.int .i64 _ = _; congr 1) rfl (HTK.out.trans (after_err HE2.out)) HB2.out
          · have HE2 : Hid (Toks (k + 1) ((chars s.data.toList).drop k) = (Toks (k + r + 1) ((chars s.data.toList).drop (k + r))).after [(1, t, k + 1)]) := by
              show _ = _; rw [HE.out, HBN.out, hgood, List.drop_drop, show k + 1 + r = k + r + 1 from by omega]; rfl
            have HB2 : Hid (Below w.heap.size w w2) := hb.trans (hb2.mono hzz)
            have q0 := ownsRow_below hown hb2 (Nat.le_refl _)
            have hz2' := hb2.size
            clear hgood hb2 hown2 hown
            go_wp2_with (at_builtin; refine wpList_append_own _ rfl _ _ 25 rfl w.heap.size 46 i0 (.agg #[.int .i64 0, .string ⟨#[]⟩, .int .i64 0]) 3 32 Try.underlying25 hi hz0 hz1 hz2 rfl (by decide) _ _ _ rfl (World.ownsRow.alloc q0 _) ⟨w2.heap.size, 0, none⟩ 1 1 (tkCells [(1, t, k + 1)]) rfl rfl (cells_new _ _ _ _ rfl) (tkCells_one' _) (by unfold maxLen; omega) (by omega) (by simp; omega) ?_)
            intro v' w3 hown3 hgrow3 _
            have HO3 : Hid (w3.ownsRow w.heap.size 46 3 v' (acc ++ [(1, t, k + 1)]).length (tkCells (acc ++ [(1, t, k + 1)]))) := by
              show World.ownsRow _ _ _ _ _ _ _
              rw [tkCells_append, List.length_append]; exact hown3
            have HB3 : Hid (Below w.heap.size w w3) := Below.grown (HB2.out.alloc (by omega) _) hgrow3 (by simp; omega) (fun q hq => (World.ownsRow.lt q0 q hq).1)
            clear hown3 hgrow3 q0
            go_wp2_with fail
            have hfin : RtRel s.data.toList w v' (.int .i64 ((k : Int) + 1 + (r : Int))) (.int .i64 ((blen s.data.toList k : Int) + (bl : Int))) w3 := ⟨k + r, acc ++ [(1, t, k + 1)], by omega, by rw [HSR.out]; go_num, by go_num, HO3.out, HB3.out, by rw [HTK.out, HE2.out, Res.after_after], by simp; omega⟩
            first | exact ⟨hfin, by simp [intOf]; omega⟩ | exact ⟨by (repeat apply Exists.intro); exact ⟨hfin, rfl⟩, by simp [intOf]; omega⟩
        have HK3 := Lib.hid (isK_not k3)
        by_cases k4 : kindOf v = 4
        · have HK4 := Lib.hid (isK_of k4)
          have HE := Lib.hid (Toks_name (c := (some v, L.take n)) (cs := (chars s.data.toList).drop (k + 1)) (k + 1) k4)
          rw [← HDV.out] at HE
          have hp : 1 ≤ runLen isAl ((chars s.data.toList).drop k) := by rw [HDV.out]; exact runLen_pos (by simp [isAl, kd_some, k4])
          have hle := runLen_le isAl ((chars s.data.toList).drop k)
          rw [List.length_drop] at hle
          have HT := Lib.hid (rtext s k (runLen isAl ((chars s.data.toList).drop k)) (by omega))
          rw [HLD.out] at HT
          have hb2 := blen_le L (runLen isAl ((chars s.data.toList).drop k))
          rw [hLl] at hb2
          have HSR : Hid (blen s.data.toList (k + runLen isAl ((chars s.data.toList).drop k)) = blen s.data.toList k + blen L (runLen isAl ((chars s.data.toList).drop k))) := by show _ = _; rw [blen_add, HLD.out]
          have htbl : (bytesOf (((chars s.data.toList).drop k).take (runLen isAl ((chars s.data.toList).drop k)))).length = blen L (runLen isAl ((chars s.data.toList).drop k)) := by unfold blen; rw [HCL.out]
          have HTB := Lib.hid htbl
          clear k1 k2 hkp k3 k4 h35 hLl htbl
          go_wp2_with fail
          refine (ref_char s (blen s.data.toList k) _ hs (by omega)).mono ?_
          rintro e w' ⟨rfl, rfl⟩
          rw [HLD.out, H1.out]
          simp only
          go_wp2_with fail
          refine (ref_mark v _ hv).mono ?_
          rintro e w' ⟨rfl, rfl⟩
          go_wp2_with fail
          refine (ref_blank v _ hv).mono ?_
          rintro e w' ⟨rfl, rfl⟩
          rw [HB.out]
          go_wp2_with fail
          refine (ref_digit v _ hv).mono ?_
          rintro e w' ⟨rfl, rfl⟩
          rw [HK3.out]
          go_wp2_with fail
          refine (ref_letter v _ hv).mono ?_
          rintro e w' ⟨rfl, rfl⟩
          rw [HK4.out]
          go_wp2_with fail
          refine (ref_run_al s (blen s.data.toList k) _ hs (by omega)).mono ?_
          rintro e w' ⟨rfl, rfl⟩
          rw [HLD.out, HCL.out]
          generalize runLen isAl ((chars s.data.toList).drop k) = r at *
          generalize blen L r = bl at *
          generalize bytesOf (((chars s.data.toList).drop k).take r) = t at *
          by_cases h32 : 32 < bl
          · have HE2 : Hid (Toks (k + 1) ((chars s.data.toList).drop k) = .error (k + 1, 17)) := by show _ = _; rw [HE.out, HTB.out, if_pos h32]
            go_wp2_with fail
            go_ret3
            exact tokpost_err (k + 1) 17 (by show Value.int .i64 _ = _; congr 1) rfl (HTK.out.trans (after_err HE2.out)) hb
          · have HE2 : Hid (Toks (k + 1) ((chars s.data.toList).drop k) = (Toks (k + r + 1) ((chars s.data.toList).drop (k + r))).after [(2, t, k + 1)]) := by
              show _ = _; rw [HE.out, HTB.out, if_neg h32, List.drop_drop, show k + 1 + r = k + r + 1 from by omega]
            go_wp2_with (at_builtin; rw [HT.out]; refine wpList_append_own _ rfl _ _ 25 rfl w.heap.size 46 i0 (.agg #[.int .i64 0, .string ⟨#[]⟩, .int .i64 0]) 3 32 Try.underlying25 hi hz0 hz1 hz2 rfl (by decide) _ _ _ rfl (World.ownsRow.alloc hown _) ⟨wr.heap.size, 0, none⟩ 1 1 (tkCells [(2, t, k + 1)]) rfl rfl (cells_new _ _ _ _ rfl) (tkCells_one' _) (by unfold maxLen; omega) (by omega) (by simp; omega) ?_)
            intro v' w3 hown3 hgrow3 _
            have HO3 : Hid (w3.ownsRow w.heap.size 46 3 v' (acc ++ [(2, t, k + 1)]).length (tkCells (acc ++ [(2, t, k + 1)]))) := by
              show World.ownsRow _ _ _ _ _ _ _
              rw [tkCells_append, List.length_append]; exact hown3
            have HB3 : Hid (Below w.heap.size w w3) := Below.grown (hb.alloc (by omega) _) hgrow3 (by simp; omega) (fun q hq => (World.ownsRow.lt hown q hq).1)
            clear hown3 hgrow3 hown
            go_wp2_with fail
            have hfin : RtRel s.data.toList w v' (.int .i64 ((k : Int) + 1 + (r : Int))) (.int .i64 ((blen s.data.toList k : Int) + (bl : Int))) w3 := ⟨k + r, acc ++ [(2, t, k + 1)], by omega, by rw [HSR.out]; go_num, by go_num, HO3.out, HB3.out, by rw [HTK.out, HE2.out, Res.after_after], by simp; omega⟩
            first | exact ⟨hfin, by simp [intOf]; omega⟩ | exact ⟨by (repeat apply Exists.intro); exact ⟨hfin, rfl⟩, by simp [intOf]; omega⟩
        have HK4 := Lib.hid (isK_not k4)
        by_cases k5 : kindOf v = 5
        · obtain ⟨x, hx1, hx2⟩ := mark_some k5 HMV.out
          have HE := Lib.hid (Toks_mark (c := (some v, L.take n)) (cs := (chars s.data.toList).drop (k + 1)) (k + 1) k5)
          rw [← HDV.out, hx2] at HE
          have HM := Lib.hid hx1
          clear k1 k2 hkp k3 k4 k5 h35 hx1 hx2
          go_wp2_with fail
          refine (ref_char s (blen s.data.toList k) _ hs (by omega)).mono ?_
          rintro e w' ⟨rfl, rfl⟩
          rw [HLD.out, H1.out]
          simp only
          go_wp2_with fail
          refine (ref_mark v _ hv).mono ?_
          rintro e w' ⟨rfl, rfl⟩
          rw [HM.out]
          go_wp2_with fail
          refine (ref_blank v _ hv).mono ?_
          rintro e w' ⟨rfl, rfl⟩
          rw [HB.out]
          go_wp2_with fail
          refine (ref_digit v _ hv).mono ?_
          rintro e w' ⟨rfl, rfl⟩
          rw [HK3.out]
          go_wp2_with fail
          refine (ref_letter v _ hv).mono ?_
          rintro e w' ⟨rfl, rfl⟩
          rw [HK4.out]
          go_wp2_with (at_builtin; refine wpList_append_own _ rfl _ _ 25 rfl w.heap.size 46 i0 (.agg #[.int .i64 0, .string ⟨#[]⟩, .int .i64 0]) 3 32 Try.underlying25 hi hz0 hz1 hz2 rfl (by decide) _ _ _ rfl (World.ownsRow.alloc hown _) ⟨wr.heap.size, 0, none⟩ 1 1 (tkCells [(3, [x], k + 1)]) rfl rfl (cells_new _ _ _ _ rfl) (tkCells_one' _) (by unfold maxLen; omega) (by omega) (by simp; omega) ?_)
          intro v' w3 hown3 hgrow3 _
          have HO3 : Hid (w3.ownsRow w.heap.size 46 3 v' (acc ++ [(3, [x], k + 1)]).length (tkCells (acc ++ [(3, [x], k + 1)]))) := by
            show World.ownsRow _ _ _ _ _ _ _
            rw [tkCells_append, List.length_append]; exact hown3
          have HB3 : Hid (Below w.heap.size w w3) := Below.grown (hb.alloc (by omega) _) hgrow3 (by simp; omega) (fun q hq => (World.ownsRow.lt hown q hq).1)
          clear hown3 hgrow3 hown
          go_wp2_with fail
          have hfin : RtRel s.data.toList w v' (.int .i64 ((k : Int) + 1 + 1)) (.int .i64 ((blen s.data.toList k : Int) + (n : Int))) w3 := ⟨k + 1, acc ++ [(3, [x], k + 1)], by omega, by rw [HS.out]; go_num, by go_num, HO3.out, HB3.out, by rw [HTK.out, HE.out, Res.after_after], by simp; omega⟩
          first | exact ⟨hfin, by simp [intOf]; omega⟩ | exact ⟨by (repeat apply Exists.intro); exact ⟨hfin, rfl⟩, by simp [intOf]; omega⟩
        · have k6 : kindOf v = 6 := by omega
          have HE : Hid (Toks (k + 1) ((chars s.data.toList).drop k) = .error (k + 1, 13)) := by show _ = _; rw [HDV.out, Toks_other (c := (some v, L.take n)) _ k6]
          have HM := Lib.hid (mark_none k5)
          clear k1 k2 hkp k3 k4 k5 h35 k6
          go_wp2_with fail
          refine (ref_char s (blen s.data.toList k) _ hs (by omega)).mono ?_
          rintro e w' ⟨rfl, rfl⟩
          rw [HLD.out, H1.out]
          simp only
          go_wp2_with fail
          refine (ref_mark v _ hv).mono ?_
          rintro e w' ⟨rfl, rfl⟩
          rw [HM.out]
          go_wp2_with fail
          refine (ref_blank v _ hv).mono ?_
          rintro e w' ⟨rfl, rfl⟩
          rw [HB.out]
          go_wp2_with fail
          refine (ref_digit v _ hv).mono ?_
          rintro e w' ⟨rfl, rfl⟩
          rw [HK3.out]
          go_wp2_with fail
          refine (ref_letter v _ hv).mono ?_
          rintro e w' ⟨rfl, rfl⟩
          rw [HK4.out]
          go_wp2_with fail
          go_ret3
          exact tokpost_err (k + 1) 13 (by show Value.int .i64 _ = _; congr 1) rfl (HTK.out.trans (after_err HE.out)) hb
    · have hbe : s.size ≤ blen s.data.toList k := by
        have := blen_lt_iff s.data.toList k
        have := hsz.out; omega
      go_wp2_with fail
      go_ret3
      refine tokpost_ok (HTK.out.trans (after_ok ?_)) hown hb
      rw [List.drop_of_length_le (by omega), Toks_nil]
end Go.Proofs.Ytebidhdoiojaeaa
