/- Walk of radix.ReadGrouped over a run of digits and '_'. -/
import Derived.Test.YtebidhdoiojaeaaNum12
import Derived.Test.YtebidhdoiojaeaaRefNum4
namespace Go.Proofs.Ytebidhdoiojaeaa
open Go.RowKit NatP

def GrRel (s : ByteArray) (w : World) (k : Nat) (dv bv : Value) (wr : World) : Prop :=
  ∃ (pos : Nat) (bb : Bool), pos ≤ s.size ∧ wr.heap[k]? = some (.stringIter s pos) ∧ Below w.heap.size w wr ∧ OwnB w.heap.size wr dv ((s.data.toList.take pos).filter NumP.isDig) ∧ dv.ownBlock ≠ some k ∧ bv = .bool bb ∧ Hid (bb = LexP.btw s.data.toList pos) ∧ LexP.okUpto s.data.toList pos

/-- What ReadGrouped answers. -/
def GrPost (t : LexP.Bytes) (w : World) (e : Ending) (w' : World) : Prop :=
  (LexP.anyBad t = true ∧ e = .returned (.tuple #[.slice none 0 0, .int .i64 7]) ∧ Below w.heap.size w w') ∨ (LexP.anyBad t = false ∧ ReadPost10 (decV (LexP.digs (t.filter NumP.isDig))) w e w')

theorem filter_ne {t : LexP.Bytes} (hr : LexP.numRun t) (h0 : t ≠ []) (hb : LexP.anyBad t = false) : 0 < (t.filter NumP.isDig).length := by
  have h1 := LexP.btw_of_ok h0 hb
  have hl : 0 < t.length := List.length_pos_iff.2 h0
  simp only [LexP.btw, Bool.and_eq_true, bne_iff_ne] at h1
  have h2 : t[t.length - 1] ∈ t := List.getElem_mem (by omega)
  have h3 : NumP.isDig t[t.length - 1] = true := by
    rcases hr _ h2 with h | h
    · exact h
    · exact absurd (by rw [List.getElem?_eq_getElem (by omega), h]) h1.2
  exact List.length_pos_iff.2 (List.ne_nil_of_mem (List.mem_filter.2 ⟨h2, h3⟩))

set_option maxRecDepth 100000 in
set_option maxHeartbeats 2000000 in
theorem readGrouped_any (s : ByteArray) (w : World) (hs : s.size ≤ 1048576) (h0 : 0 < s.size) (hr : LexP.numRun s.data.toList) :
    Calls Try.prog 24 #[.string s] w (GrPost s.data.toList w) := by
  obtain ⟨i0, hi, hz0, hz1, hz2⟩ := info_parts Try.infoB
  have hsz : s.data.toList.length = s.size := (Lib.size_eq s).symm
  have HSZ := Lib.hid hsz
  have HD := Lib.hid hr
  have HNE0 : Hid (s.data.toList ≠ []) := by intro h; rw [h] at hsz; simp at hsz; omega
  clear hsz hr
  go_enter Try.func24, Try.ntmps24
  go_wp2_with (at_make; refine wpList_make_own _ rfl _ _ 44 rfl w.heap.size 5 i0 (.int .u8 0) 1 Try.underlying44 hi hz0 hz1 _ _ _ s.size rfl rfl rfl ?b1 ?b2 ?b3 ?_)
  case b1 => rw [hz2]; omega
  case b2 => unfold maxLen; omega
  case b3 => exact Nat.le_refl _
  intro w1 hown1 hgrow1
  have hb1 : Below w.heap.size w w1 := Below.grown (Below.refl _ _) hgrow1 (Nat.le_refl _) (fun k hk => by cases hk)
  have hzw := hb1.size
  have HO := Lib.hid hown1
  have HB1 := Lib.hid hb1
  clear hown1 hgrow1 hb1
  have hkw : w.heap.size < w1.heap.size := (HO.out.lt w.heap.size rfl).2
  go_wp2_with fail
  go_loopw [4, 5] (fun v b wr => GrRel s w w1.heap.size v b wr) (fun _ _ wr => s.size - wr.iterPos w1.heap.size)
  case atStart => exact ⟨0, false, Nat.zero_le _, World.iter_heap w1 s 0, HB1.out.alloc hzw _, HO.out.alloc _, by simp [Value.ownBlock]; omega, rfl, rfl, LexP.okUpto_zero _⟩
  case round =>
    obtain ⟨pos, bb, hpos, hit, hbel, hown, hne, rfl, hbb, hok⟩ := hrel
    have hsz2 : w1.heap.size < wr.heap.size := (Array.getElem?_eq_some_iff.1 hit).1
    have HOK := Lib.hid hok
    clear hok
    by_cases hlt : pos < s.size
    · have hn := fun ty => Lib.run_next_any_at (P := Try.prog) wr w1.heap.size s pos ty hit hlt
      have hpl : pos < s.data.toList.length := by rw [HSZ.out]; exact hlt
      have hdg := HD.out s.data.toList[pos] (List.getElem_mem hpl)
      have hdc := List.drop_eq_getElem_cons hpl
      have htk : s.data.toList.take (pos + 1) = s.data.toList.take pos ++ [s.data.toList[pos]] := List.take_succ_eq_append_getElem hpl
      have hat : s.data.toList[pos]? = some s.data.toList[pos] := List.getElem?_eq_getElem hpl
      generalize s.data.toList[pos] = b at *
      have hb128 : b.toNat < 128 := by
        rcases hdg with h | h
        · have : 48 ≤ b.toNat ∧ b.toNat ≤ 57 := by simpa [NumP.isDig] using h
          omega
        · rw [h]; decide
      obtain ⟨hv, hwd⟩ := LexP.dec_low (b := b) (r := s.data.toList.drop (pos + 1)) hb128
      rw [LexP.decode_fst s pos hlt, LexP.decode_snd s pos hlt, hdc, hv, hwd] at hn
      simp only [Option.getD_some] at hn
      have HTK := Lib.hid htk
      have HAT := Lib.hid hat
      obtain ⟨F, hF⟩ : ∃ F, F = (s.data.toList.take pos).filter NumP.isDig := ⟨_, rfl⟩
      rw [← hF] at hown
      have hFl : F.length ≤ 1048576 := by
        have h1 := List.length_filter_le NumP.isDig (s.data.toList.take pos)
        have h2 := List.length_take_le pos s.data.toList
        rw [hF]; omega
      have HF := Lib.hid hF
      obtain ⟨wi, hwi⟩ : ∃ wi : World, wi = wr.iterAt w1.heap.size s (pos + 1) := ⟨_, rfl⟩
      have q1 : wi.ownsRow w.heap.size 5 1 u4 F.length (byCells F) := by
        rw [hwi]; exact World.ownsRow.kept hown (grown_iterAt wr w1.heap.size s (pos + 1)) (.inr hne)
      have q2 : Below w.heap.size w wi := by rw [hwi]; exact Lib.below_iterAt hbel (Nat.le_of_lt hkw) _ _
      have q3 : wi.heap[w1.heap.size]? = some (.stringIter s (pos + 1)) := by rw [hwi]; exact Lib.iterAt_heap _ _ _ _ _ hit
      have q4 : w1.heap.size < wi.heap.size := (Array.getElem?_eq_some_iff.1 q3).1
      rw [← hwi] at hn
      have HM : Hid (s.size - (pos + 1) < s.size - wr.iterPos w1.heap.size) := by show _ < _; rw [iterPos_at hit]; omega
      clear hwi hown hbel hit hdc htk hv hwd hF hat
      have Q3 := Lib.hid q3
      have Q2 := Lib.hid q2
      have HNE := Lib.hid hne
      clear q3 q2 hne
      by_cases hdig : NumP.isDig b = true
      · have hb48 : 48 ≤ b.toNat ∧ b.toNat ≤ 57 := by simpa [NumP.isDig] using hdig
        obtain ⟨h481, h482⟩ := hb48
        have hn95 : ((b.toNat : Int) == 95) = false := by simp; omega
        have hb95 : b ≠ 95 := by rintro rfl; exact absurd hdig (by decide)
        have HDV : Hid (digVal b.toNat = b.toNat - 48) := by show _ = _; unfold digVal; rw [if_pos ⟨h481, h482⟩]
        have HTF : Hid ((s.data.toList.take (pos + 1)).filter NumP.isDig = F ++ [b]) := by show _ = _; rw [HTK.out, List.filter_append, HF.out]; simp [hdig]
        have HBT : Hid (true = LexP.btw s.data.toList (pos + 1)) := by show _ = _; rw [LexP.btw_succ, HAT.out]; simp [hb95]
        have HOK2 := Lib.hid (LexP.okUpto_succ HOK.out (fun h => by rw [HAT.out] at h; exact absurd (Option.some.inj h) hb95))
        obtain ⟨dg, hdgd⟩ : ∃ dg, dg = b.toNat - 48 := ⟨_, rfl⟩
        have hdg10 : dg < 10 := by omega
        have HDG := Lib.hid hdgd
        clear hdg hdig hb95 hdgd hbb
        go_wp2_with fail
        refine (value_any b.toNat _ (by omega)).mono ?_
        rintro e w' ⟨rfl, rfl⟩
        rw [HDV.out, ← HDG.out]
        go_wp2_with (at_builtin; refine wpList_append_own_at _ rfl _ _ 44 rfl w.heap.size 5 i0 (.int .u8 0) 1 1 Try.underlying44 hi hz0 hz1 hz2 rfl (by decide) _ _ _ rfl (World.ownsRow.alloc q1 _) ⟨wi.heap.size, 0, none⟩ 1 1 [.int .u8 b.toNat] rfl rfl (LexP.cells_new _ _ _ _ rfl) (by simp [Value.oneCell']) (by unfold maxLen; omega) (by omega) (by simp; omega) ?_)
        intro v3 w3 hown3 hgrow3 _ hbk3
        have hF2 : OwnB w.heap.size w3 v3 ((s.data.toList.take (pos + 1)).filter NumP.isDig) := by
          show World.ownsRow _ _ _ _ _ _ _
          rw [HTF.out, byCells_append, List.length_append]; exact hown3
        have hit3 : w3.heap[w1.heap.size]? = some (.stringIter s (pos + 1)) :=
          (hgrow3.block w1.heap.size (by simp; omega) (fun e => HNE.out e.symm)).trans ((Below.heap_alloc _ _ _ q4).trans Q3.out)
        have HF3 : Hid (GrRel s w w1.heap.size v3 (.bool true) w3) := ⟨pos + 1, true, by omega, hit3, Below.grown (Q2.out.alloc (by omega) _) hgrow3 (by simp; omega) (fun q hq => (World.ownsRow.lt q1 q hq).1), hF2, by
          rcases hbk3 with h | h
          · rw [h]; exact HNE.out
          · rw [h]; simp; omega, rfl, HBT.out, HOK2.out⟩
        have HM3 : Hid (s.size - w3.iterPos w1.heap.size < s.size - wr.iterPos w1.heap.size) := by show _ < _; rw [iterPos_at hit3]; exact HM.out
        clear hown3 hgrow3 hbk3 hF2 hit3 q1
        go_wp2_with fail
        first | exact ⟨HF3.out, HM3.out⟩ | exact ⟨by (repeat apply Exists.intro); exact ⟨HF3.out, rfl⟩, HM3.out⟩
      · have hb95 : b = 95 := hdg.resolve_left hdig
        subst hb95
        have HTF : Hid ((s.data.toList.take (pos + 1)).filter NumP.isDig = F) := by show _ = _; rw [HTK.out, List.filter_append, HF.out]; simp [hdig]
        have e95 : (95 : UInt8).toNat = 95 := rfl
        rw [e95] at hn
        clear hdg hdig e95 hb128
        cases bb with
        | true =>
          have HBT : Hid (false = LexP.btw s.data.toList (pos + 1)) := by show _ = _; rw [LexP.btw_succ, HAT.out]; rfl
          have HOK2 := Lib.hid (LexP.okUpto_succ HOK.out (fun _ => hbb.out.symm))
          have HF3 : Hid (GrRel s w w1.heap.size u4 (.bool false) wi) := ⟨pos + 1, false, by omega, Q3.out, Q2.out, by rw [HTF.out]; exact q1, HNE.out, rfl, HBT.out, HOK2.out⟩
          have HM3 : Hid (s.size - wi.iterPos w1.heap.size < s.size - wr.iterPos w1.heap.size) := by show _ < _; rw [iterPos_at Q3.out]; exact HM.out
          clear hbb q1
          go_wp2_with fail
          first | exact ⟨HF3.out, HM3.out⟩ | exact ⟨by (repeat apply Exists.intro); exact ⟨HF3.out, rfl⟩, HM3.out⟩
        | false =>
          have HBAD := Lib.hid (LexP.rg_fail HAT.out hbb.out.symm)
          clear hbb q1
          go_wp2_with fail
          refine (value_any 95 _ (by omega)).mono ?_
          rintro e w' ⟨rfl, rfl⟩
          rw [show digVal 95 = 36 from by decide]
          go_wp2_with fail
          go_ret2
          exact .inl ⟨HBAD.out, rfl, Q2.out⟩
    · have hn := fun ty => Lib.run_next_end_at (P := Try.prog) wr w1.heap.size s pos ty hit hlt
      have hpe : s.data.toList.take pos = s.data.toList := List.take_of_length_le (by rw [HSZ.out]; omega)
      have hpp : pos = s.data.toList.length := by rw [HSZ.out]; omega
      rw [hpe] at hown
      have HBEL := Lib.hid hbel
      have hbz := hbel.size
      have HOK2 : Hid (LexP.okUpto s.data.toList s.data.toList.length) := by rw [← hpp]; exact HOK.out
      have hbb2 : Hid (bb = LexP.btw s.data.toList s.data.toList.length) := by rw [← hpp]; exact hbb
      clear hbel hpe hit hne hbb HOK hpp
      cases bb with
      | false =>
        have HBAD := Lib.hid (LexP.rg_end_bad HNE0.out hbb2.out.symm)
        clear hbb2 hown
        go_wp2_with fail
        go_ret2
        exact .inl ⟨HBAD.out, rfl, HBEL.out⟩
      | true =>
        have HGOOD := Lib.hid (LexP.rg_end_ok HOK2.out hbb2.out.symm)
        have hcv := run_text (B := w.heap.size) (w := wr) (v := u4) hown
        have hfl := filter_ne HD.out HNE0.out HGOOD.out
        have hfl2 := List.length_filter_le NumP.isDig s.data.toList
        rw [HSZ.out] at hfl2
        have hfs : (⟨(s.data.toList.filter NumP.isDig).toArray⟩ : ByteArray).size = (s.data.toList.filter NumP.isDig).length := by rw [Lib.size_eq]
        have HS1 : Hid ((⟨(s.data.toList.filter NumP.isDig).toArray⟩ : ByteArray).size ≤ 1048576) := by show _ ≤ _; rw [hfs]; omega
        have HS0 : Hid (0 < (⟨(s.data.toList.filter NumP.isDig).toArray⟩ : ByteArray).size) := by show _ < _; rw [hfs]; omega
        have HFD : Hid (∀ c ∈ (⟨(s.data.toList.filter NumP.isDig).toArray⟩ : ByteArray).data.toList, NumP.isDig c = true) := by
          intro c hc
          simp only [List.toList_toArray] at hc
          exact (List.mem_filter.1 hc).2
        clear hbb2 hown hfl hfl2 hfs
        go_wp2_with fail
        refine (readDec_any _ wr HS1.out HS0.out HFD.out).mono ?_
        rintro e w2 ⟨v2, x2, rfl, a1, a2, a4, a5⟩
        have A1 := Lib.hid (a1.mono hbz)
        have A2 := Lib.hid a2
        have A4 := Lib.hid a4
        have A5 : Hid (Below w.heap.size w w2) := HBEL.out.trans (a5.mono hbz)
        clear a1 a2 a4 a5
        go_wp2_with fail
        go_ret2
        exact .inr ⟨HGOOD.out, _, x2, rfl, A1.out, A2.out, A4.out, A5.out⟩
end Go.Proofs.Ytebidhdoiojaeaa
