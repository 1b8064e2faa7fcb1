/- Walks of lexer.Lines and of the document's Lines. -/
import Derived.Test.YtebidhdoiojaeaaLexL1
import Derived.Test.YtebidhdoiojaeaaLexLinesP
namespace Go.Proofs.Ytebidhdoiojaeaa
open Go.RowKit LexP

theorem Try.infoStr : (Try.prog.info? 9).map (fun i => (i.zero, i.size, i.bytes)) = some (some (.string ⟨#[]⟩), 1, 16) := by kernel_rfl

/-- What Lines answers: the lines in memory of its own. -/
def LinesPost (l : Bytes) (w : World) (e : Ending) (w' : World) : Prop :=
  ∃ v, e = .returned v ∧ w'.ownsRow w.heap.size 9 1 v (lines l).length (stCells (lines l)) ∧ Below w.heap.size w w'

def LnRel (l : Bytes) (w : World) (s v : Value) (wr : World) : Prop :=
  ∃ (r : ByteArray) (acc : List Bytes), s = .string r ∧ r.size ≤ 1048576 ∧ lines l = acc ++ lines r.data.toList ∧ wr.ownsRow w.heap.size 9 1 v acc.length (stCells acc) ∧ Below w.heap.size w wr ∧ acc.length + r.size ≤ 1048576

def szOf : Value → Nat | .string s => s.size | _ => 0

theorem cut_at (s : ByteArray) (w : World) (hs : s.size ≤ 1048576) (hx : Lx w) :
    Calls Try.prog 39 #[.string s, .string ⟨#[10]⟩] w fun e w' => (∃ b, e = .returned (.tuple #[.string ⟨(foreL s.data.toList).toArray⟩, .string ⟨(behind s.data.toList).toArray⟩, .bool b])) ∧ Below w.heap.size w w' := by
  obtain ⟨m, hm⟩ := hx
  refine (Try.strings_Cut s ⟨#[10]⟩ m w (by omega) hm).mono fun e w' ⟨he, n, hw⟩ => ?_
  obtain ⟨h1, h2⟩ := cut_ten s.data.toList
  have e1 : (⟨#[10]⟩ : ByteArray).data.toList = [10] := rfl
  rw [e1, h1, h2] at he
  exact ⟨⟨_, he⟩, by rw [hw]; exact below_drewN (Below.refl _ _) n⟩

theorem trim_at (A : Bytes) (w : World) (hs : (⟨A.toArray⟩ : ByteArray).size ≤ 9223372036854775807) :
    Calls Try.prog 40 #[.string ⟨A.toArray⟩, .string ⟨#[13]⟩] w fun e w' => e = .returned (.string ⟨(trimR A).toArray⟩) ∧ w = w' :=
  (Try.strings_TrimSuffix ⟨A.toArray⟩ ⟨#[13]⟩ w hs).mono fun e w' ⟨he, hw⟩ => ⟨he, hw.symm⟩

theorem foreL_le (l : Bytes) : (foreL l).length ≤ l.length := by
  unfold foreL
  induction l with
  | nil => simp
  | cons b l ih => rw [List.takeWhile_cons]; split <;> simp <;> omega

set_option maxRecDepth 100000 in
set_option maxHeartbeats 1000000 in
theorem lines_any (s : ByteArray) (w : World) (hs : s.size ≤ 1048576) (hx : Lx w) :
    Calls Try.prog 20 #[.string s] w (LinesPost s.data.toList w) := by
  obtain ⟨i0, hi, hz0, hz1, hz2⟩ := info_parts Try.infoStr
  have HX := Lib.hid hx
  clear hx
  go_enter Try.func20, Try.ntmps20
  go_wp2_with fail
  go_loopw [0, 3] (fun s' v wr => LnRel s.data.toList w s' v wr) (fun s' _ _ => szOf s')
  case atStart => exact ⟨s, [], rfl, hs, rfl, World.ownsRow_nil _ _ _ _, Below.refl _ _, by simp; omega⟩
  case round =>
    obtain ⟨r, acc, rfl, hr, hln, hown, hb, hal⟩ := hrel
    have HLN := Lib.hid hln
    have hzz := hb.size
    clear hln
    cases he : r.toList.isEmpty with
    | true =>
      go_wp2_with fail
      go_ret
      have : r.data.toList = [] := by rw [← Lib.toList_data]; simpa using he
      have h1 := HLN.out
      rw [this, lines_nil, List.append_nil] at h1
      rw [← h1] at hown
      exact ⟨_, rfl, hown, hb⟩
    | false =>
      have hne : r.data.toList ≠ [] := by rw [← Lib.toList_data]; simpa using he
      have HC := Lib.hid (lines_cons hne)
      have hlt := behind_lt hne
      obtain ⟨kb, hkb, hkb2⟩ := behind_drop r.data.toList
      rw [← Lib.size_eq] at hlt hkb2
      have hah : (⟨(foreL r.data.toList).toArray⟩ : ByteArray).size ≤ 9223372036854775807 := by
        rw [Lib.size_eq]
        have := foreL_le r.data.toList
        rw [← Lib.size_eq] at this
        simp only; omega
      have hbs : (⟨(behind r.data.toList).toArray⟩ : ByteArray).size = (behind r.data.toList).length := by rw [Lib.size_eq]
      have HBS := Lib.hid hbs
      clear hne hbs hkb hkb2 kb
      go_wp2_with fail
      refine (cut_at r _ hr (HX.out.below hb)).mono ?_
      rintro e w2 ⟨⟨bb, rfl⟩, hb2⟩
      have q0 := ownsRow_below hown hb2 (Nat.le_refl _)
      have hb3 := hb.trans (hb2.mono hzz)
      have hz2' := hb2.size
      generalize hA : foreL r.data.toList = A at *
      generalize hB : behind r.data.toList = B at *
      clear hown hb2 hA hB
      go_wp2_with (first | (go_at_call 40; refine (trim_at _ _ hah).mono ?_; rintro e w' ⟨rfl, rfl⟩) | (at_builtin; refine wpList_append_own _ rfl _ _ 36 rfl w.heap.size 9 i0 (.string ⟨#[]⟩) 1 16 Try.underlying36 hi hz0 hz1 hz2 rfl (by decide) _ _ _ rfl (q0.alloc _) ⟨w2.heap.size, 0, none⟩ 1 1 [.string ⟨(trimR A).toArray⟩] rfl rfl ?c1 ?c2 ?c3 ?c4 ?c5 ?_))
      case c1 => exact cells_new _ _ _ _ rfl
      case c2 => intro u hu; simp at hu; subst hu; rfl
      case c3 => unfold maxLen; omega
      case c4 => omega
      case c5 => simp; omega
      intro v3 w3 hown3 hgrow3 _
      have hfin : LnRel s.data.toList w (.string ⟨B.toArray⟩) v3 w3 := by
        refine ⟨_, acc ++ [trimR A], rfl, by rw [HBS.out]; omega, ?_, ?_, Below.grown (hb3.alloc (by omega) _) hgrow3 (by simp; omega) (fun k hk => (q0.lt k hk).1), ?_⟩
        · rw [HLN.out, HC.out]; simp
        · have e : stCells (acc ++ [trimR A]) = stCells acc ++ [.string ⟨(trimR A).toArray⟩] := by simp [stCells]
          rw [e, List.length_append]; exact hown3
        · rw [HBS.out, List.length_append]; simp; omega
      have HF := Lib.hid hfin
      have hms : szOf (.string ⟨B.toArray⟩) < szOf (.string r) := by show (⟨B.toArray⟩ : ByteArray).size < r.size; rw [HBS.out]; exact hlt
      have HM := Lib.hid hms
      clear hown3 hgrow3 hfin hms
      go_wp2_with fail
      first | exact ⟨HF.out, HM.out⟩ | exact ⟨by (repeat apply Exists.intro); exact ⟨HF.out, rfl⟩, HM.out⟩

/-- The text of a piece without the byte 13 at its end. -/
theorem piece_cut (s : ByteArray) (f i : Nat) (h : f < i) (hi : i ≤ s.data.toList.length) (hc : s.data.toList[i - 1]'(by omega) = 13) : s.extract f (i - 1) = ⟨(trimR (piece s.data.toList f i)).toArray⟩ := by
  have e := piece_succ (l := s.data.toList) (f := f) (i := i - 1) (by omega) (by omega)
  rw [show i - 1 + 1 = i from by omega, hc] at e
  rw [e, trimR_cut, Lib.extract_eq]; rfl

theorem piece_keep (s : ByteArray) (f i : Nat) (h : f ≤ i) (hi : i ≤ s.data.toList.length) (hc : ∀ _ : f < i, s.data.toList[i - 1]'(by omega) ≠ 13) : s.extract f i = ⟨(trimR (piece s.data.toList f i)).toArray⟩ := by
  rw [trimR_keep, Lib.extract_eq]; rfl
  by_cases hlt : f < i
  · have e := piece_succ (l := s.data.toList) (f := f) (i := i - 1) (by omega) (by omega)
    rw [show i - 1 + 1 = i from by omega] at e
    rw [e]
    simpa using hc hlt
  · obtain rfl : f = i := by omega
    rw [piece_self]; simp

def RlRel (l : Bytes) (w : World) (v f i : Value) (wr : World) : Prop :=
  ∃ (fr ix : Nat) (acc : List Bytes), f = .int .i64 (fr : Nat) ∧ i = .int .i64 (ix : Nat) ∧ wr.ownsRow w.heap.size 9 1 v acc.length (stCells acc) ∧ Below w.heap.size w wr ∧ acc.length ≤ ix ∧
    ((ix ≤ l.length ∧ fr ≤ ix ∧ (piece l fr ix).any (· == 10) = false ∧ lines l = acc ++ lines (l.drop fr)) ∨ (ix = l.length + 1 ∧ lines l = acc))

set_option maxRecDepth 100000 in
set_option maxHeartbeats 1000000 in
theorem ref_lines_any (s : ByteArray) (w : World) (hs : s.size ≤ 1048576) :
    Calls Try.prog 18 #[.string s] w (LinesPost s.data.toList w) := by
  obtain ⟨i0, hi, hz0, hz1, hz2⟩ := info_parts Try.infoStr
  have hsz := Lib.hid (Lib.size_eq s)
  go_enter Try.func18, Try.ntmps18
  go_wp2_with fail
  go_loopw [3, 4, 5] (fun v f i wr => RlRel s.data.toList w v f i wr) (fun _ _ i _ => s.size + 2 - (intOf i).toNat)
  case atStart => exact ⟨0, 0, [], rfl, rfl, World.ownsRow_nil _ _ _ _, Below.refl _ _, Nat.le_refl _, .inl ⟨Nat.zero_le _, Nat.le_refl _, by rw [piece_self]; rfl, rfl⟩⟩
  case round =>
    obtain ⟨fr, ix, acc, rfl, rfl, hown, hb, hal, hcase⟩ := hrel
    have hzz := hb.size
    rw [← hsz.out] at hcase
    rcases hcase with ⟨h1, h2, h3, h4⟩ | ⟨h1, h4⟩
    · have H3 := Lib.hid h3
      have H4 := Lib.hid h4
      clear h3 h4
      -- a step of the loop that lays a line
      have fin : ∀ (fr' : Nat) (v' : Value) (w' : World), fr' = ix + 1 → w'.ownsRow w.heap.size 9 1 v' (acc.length + 1) (stCells acc ++ [.string ⟨(trimR (piece s.data.toList fr ix)).toArray⟩]) → Below w.heap.size w w' →
          (ix < s.size ∧ (∀ h : ix < s.data.toList.length, s.data.toList[ix] = 10) ∨ ix = s.size ∧ fr < s.size) → RlRel s.data.toList w v' (.int .i64 (ix + 1)) (.int .i64 (ix + 1)) w' := by
        intro fr' v' w' hf ho hb' hc
        have hs := hsz.out
        have hoo : w'.ownsRow w.heap.size 9 1 v' (acc ++ [trimR (piece s.data.toList fr ix)]).length (stCells (acc ++ [trimR (piece s.data.toList fr ix)])) := by
          have e : stCells (acc ++ [trimR (piece s.data.toList fr ix)]) = stCells acc ++ [.string ⟨(trimR (piece s.data.toList fr ix)).toArray⟩] := by simp [stCells]
          rw [e, List.length_append]; exact ho
        refine ⟨ix + 1, ix + 1, _, by go_num, by go_num, hoo, hb', by simp; omega, ?_⟩
        rcases hc with ⟨hc1, hc2⟩ | ⟨hc1, hc2⟩
        · left
          refine ⟨by omega, Nat.le_refl _, by rw [piece_self]; rfl, ?_⟩
          rw [H4.out, lines_step h2 (by omega) H3.out (hc2 (by omega))]; simp
        · right
          refine ⟨by omega, ?_⟩
          have h5 := H3.out
          rw [hc1, hs] at h5
          rw [H4.out, lines_last (by omega) h5, hc1, hs]
      have FIN := Lib.hid fin
      clear fin
      have arm : True := trivial
      by_cases hlt : ix < s.size
      · have hlt' : ix < s.data.toList.length := by have := hsz.out; omega
        by_cases hc : s[ix].toNat = 10
        · have hc1 : ((s[ix].toNat : Int) != 10) = false := by simp [hc]
          have hc2 : ∀ h : ix < s.data.toList.length, s.data.toList[ix] = 10 := fun h => UInt8.toNat_inj.1 (by show (s[ix]).toNat = 10; exact hc)
          have HC2 := Lib.hid hc2
          clear hc hc2
          by_cases hfi : fr < ix
          · have hp : ix - 1 < s.size := by omega
            have hi1 : (0 : Int) ≤ (ix : Int) - 1 := by omega
            have hi2 : (((ix : Int) - 1).toNat) = ix - 1 := by omega
            by_cases hr : s[ix - 1].toNat = 13
            · have HP := Lib.hid (piece_cut s fr ix hfi (by have := hsz.out; omega) (UInt8.toNat_inj.1 hr))
              have hr1 : ((s[ix - 1].toNat : Int) == 13) = true := by simp [hr]
              clear hr
              go_wp2_with (at_builtin; refine wpList_append_own _ rfl _ _ 36 rfl w.heap.size 9 i0 (.string ⟨#[]⟩) 1 16 Try.underlying36 hi hz0 hz1 hz2 rfl (by decide) _ _ _ rfl (hown.alloc _) ⟨wr.heap.size, 0, none⟩ 1 1 [.string ⟨(trimR (piece s.data.toList fr ix)).toArray⟩] rfl rfl ?c1 ?c2 ?c3 ?c4 ?c5 ?_)
              case c1 => rw [← HP.out]; exact cells_new _ _ _ _ rfl
              case c2 => intro u hu; simp at hu; subst hu; rfl
              case c3 => unfold maxLen; omega
              case c4 => omega
              case c5 => simp; omega
              intro v3 w3 hown3 hgrow3 _
              have hfin := FIN.out (ix + 1) v3 w3 rfl hown3 (Below.grown (hb.alloc hzz _) hgrow3 (by simp; omega) (fun k hk => (hown.lt k hk).1)) (.inl ⟨hlt, HC2.out⟩)
              have HF := Lib.hid hfin
              clear hown3 hgrow3 hfin
              go_wp2_with fail
              first | exact ⟨HF.out, by simp [intOf] <;> omega⟩ | exact ⟨by (repeat apply Exists.intro); exact ⟨HF.out, rfl⟩, by simp [intOf]; omega⟩
            · have HP := Lib.hid (piece_keep s fr ix h2 (by have := hsz.out; omega) (fun _ h => hr (by have := congrArg UInt8.toNat h; exact this)))
              have hr1 : ((s[ix - 1].toNat : Int) == 13) = false := by simp; omega
              clear hr
              go_wp2_with (at_builtin; refine wpList_append_own _ rfl _ _ 36 rfl w.heap.size 9 i0 (.string ⟨#[]⟩) 1 16 Try.underlying36 hi hz0 hz1 hz2 rfl (by decide) _ _ _ rfl (hown.alloc _) ⟨wr.heap.size, 0, none⟩ 1 1 [.string ⟨(trimR (piece s.data.toList fr ix)).toArray⟩] rfl rfl ?c1 ?c2 ?c3 ?c4 ?c5 ?_)
              case c1 => rw [← HP.out]; exact cells_new _ _ _ _ rfl
              case c2 => intro u hu; simp at hu; subst hu; rfl
              case c3 => unfold maxLen; omega
              case c4 => omega
              case c5 => simp; omega
              intro v3 w3 hown3 hgrow3 _
              have hfin := FIN.out (ix + 1) v3 w3 rfl hown3 (Below.grown (hb.alloc hzz _) hgrow3 (by simp; omega) (fun k hk => (hown.lt k hk).1)) (.inl ⟨hlt, HC2.out⟩)
              have HF := Lib.hid hfin
              clear hown3 hgrow3 hfin
              go_wp2_with fail
              first | exact ⟨HF.out, by simp [intOf] <;> omega⟩ | exact ⟨by (repeat apply Exists.intro); exact ⟨HF.out, rfl⟩, by simp [intOf]; omega⟩
          · have HP := Lib.hid (piece_keep s fr ix h2 (by have := hsz.out; omega) (fun h => absurd h hfi))
            go_wp2_with (at_builtin; refine wpList_append_own _ rfl _ _ 36 rfl w.heap.size 9 i0 (.string ⟨#[]⟩) 1 16 Try.underlying36 hi hz0 hz1 hz2 rfl (by decide) _ _ _ rfl (hown.alloc _) ⟨wr.heap.size, 0, none⟩ 1 1 [.string ⟨(trimR (piece s.data.toList fr ix)).toArray⟩] rfl rfl ?c1 ?c2 ?c3 ?c4 ?c5 ?_)
            case c1 => rw [← HP.out]; exact cells_new _ _ _ _ rfl
            case c2 => intro u hu; simp at hu; subst hu; rfl
            case c3 => unfold maxLen; omega
            case c4 => omega
            case c5 => simp; omega
            intro v3 w3 hown3 hgrow3 _
            have hfin := FIN.out (ix + 1) v3 w3 rfl hown3 (Below.grown (hb.alloc hzz _) hgrow3 (by simp; omega) (fun k hk => (hown.lt k hk).1)) (.inl ⟨hlt, HC2.out⟩)
            have HF := Lib.hid hfin
            clear hown3 hgrow3 hfin
            go_wp2_with fail
            first | exact ⟨HF.out, by simp [intOf] <;> omega⟩ | exact ⟨by (repeat apply Exists.intro); exact ⟨HF.out, rfl⟩, by simp [intOf]; omega⟩
        · have hc1 : ((s[ix].toNat : Int) != 10) = true := by simp; omega
          have HC := Lib.hid hc
          clear hc
          go_wp2_with fail
          have hfin : RlRel s.data.toList w u3 (.int .i64 fr) (.int .i64 (ix + 1)) wr := by
            refine ⟨fr, ix + 1, acc, rfl, by go_num, hown, hb, by omega, .inl ⟨by omega, by omega, ?_, H4.out⟩⟩
            rw [piece_succ h2 hlt', List.any_append, H3.out]
            have : (s.data.toList[ix] == 10) = false := by
              rw [beq_eq_false_iff_ne]; intro h; exact HC.out (by show (s.data.toList[ix]).toNat = 10; rw [h]; rfl)
            simp only [List.any_cons, List.any_nil, Bool.or_false, Bool.false_or]; exact this
          have HF := Lib.hid hfin
          clear hfin
          first | exact ⟨HF.out, by simp [intOf] <;> omega⟩ | exact ⟨by (repeat apply Exists.intro); exact ⟨HF.out, rfl⟩, by simp [intOf]; omega⟩
      · obtain rfl : ix = s.size := by omega
        by_cases hfs : fr < s.size
        · have hfe : ((fr : Int) == (s.size : Int)) = false := by simp; omega
          by_cases hfi : fr < s.size
          · have hp : s.size - 1 < s.size := by omega
            have hi1 : (0 : Int) ≤ (s.size : Int) - 1 := by omega
            have hi2 : (((s.size : Int) - 1).toNat) = s.size - 1 := by omega
            by_cases hr : s[s.size - 1].toNat = 13
            · have HP := Lib.hid (piece_cut s fr s.size hfi (by have := hsz.out; omega) (UInt8.toNat_inj.1 hr))
              have hr1 : ((s[s.size - 1].toNat : Int) == 13) = true := by simp [hr]
              clear hr
              go_wp2_with (at_builtin; refine wpList_append_own _ rfl _ _ 36 rfl w.heap.size 9 i0 (.string ⟨#[]⟩) 1 16 Try.underlying36 hi hz0 hz1 hz2 rfl (by decide) _ _ _ rfl (hown.alloc _) ⟨wr.heap.size, 0, none⟩ 1 1 [.string ⟨(trimR (piece s.data.toList fr s.size)).toArray⟩] rfl rfl ?c1 ?c2 ?c3 ?c4 ?c5 ?_)
              case c1 => rw [← HP.out]; exact cells_new _ _ _ _ rfl
              case c2 => intro u hu; simp at hu; subst hu; rfl
              case c3 => unfold maxLen; omega
              case c4 => omega
              case c5 => simp; omega
              intro v3 w3 hown3 hgrow3 _
              have hfin := FIN.out (s.size + 1) v3 w3 rfl hown3 (Below.grown (hb.alloc hzz _) hgrow3 (by simp; omega) (fun k hk => (hown.lt k hk).1)) (.inr ⟨by first | rfl | trivial, hfs⟩)
              have HF := Lib.hid hfin
              clear hown3 hgrow3 hfin
              go_wp2_with fail
              first | exact ⟨HF.out, by simp [intOf] <;> omega⟩ | exact ⟨by (repeat apply Exists.intro); exact ⟨HF.out, rfl⟩, by simp [intOf]; omega⟩
            · have HP := Lib.hid (piece_keep s fr s.size h2 (by have := hsz.out; omega) (fun _ h => hr (by have := congrArg UInt8.toNat h; exact this)))
              have hr1 : ((s[s.size - 1].toNat : Int) == 13) = false := by simp; omega
              clear hr
              go_wp2_with (at_builtin; refine wpList_append_own _ rfl _ _ 36 rfl w.heap.size 9 i0 (.string ⟨#[]⟩) 1 16 Try.underlying36 hi hz0 hz1 hz2 rfl (by decide) _ _ _ rfl (hown.alloc _) ⟨wr.heap.size, 0, none⟩ 1 1 [.string ⟨(trimR (piece s.data.toList fr s.size)).toArray⟩] rfl rfl ?c1 ?c2 ?c3 ?c4 ?c5 ?_)
              case c1 => rw [← HP.out]; exact cells_new _ _ _ _ rfl
              case c2 => intro u hu; simp at hu; subst hu; rfl
              case c3 => unfold maxLen; omega
              case c4 => omega
              case c5 => simp; omega
              intro v3 w3 hown3 hgrow3 _
              have hfin := FIN.out (s.size + 1) v3 w3 rfl hown3 (Below.grown (hb.alloc hzz _) hgrow3 (by simp; omega) (fun k hk => (hown.lt k hk).1)) (.inr ⟨by first | rfl | trivial, hfs⟩)
              have HF := Lib.hid hfin
              clear hown3 hgrow3 hfin
              go_wp2_with fail
              first | exact ⟨HF.out, by simp [intOf] <;> omega⟩ | exact ⟨by (repeat apply Exists.intro); exact ⟨HF.out, rfl⟩, by simp [intOf]; omega⟩
          · exact absurd hfs hfi
        · obtain rfl : fr = s.size := by omega
          go_wp2_with fail
          go_ret
          have h5 := H4.out
          rw [hsz.out, List.drop_length, lines_nil, List.append_nil] at h5
          rw [← h5] at hown
          exact ⟨_, rfl, hown, hb⟩
    · go_wp2_with fail
      go_ret
      rw [← h4] at hown
      exact ⟨_, rfl, hown, hb⟩
end Go.Proofs.Ytebidhdoiojaeaa
