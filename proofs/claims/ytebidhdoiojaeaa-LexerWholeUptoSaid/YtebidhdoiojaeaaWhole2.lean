/- LexerWhole: the walk. -/
import Derived.Test.YtebidhdoiojaeaaWhole1
import Derived.Test.YtebidhdoiojaeaaLexL1
import Derived.Test.YtebidhdoiojaeaaNum13
import Derived.Deep.DeepCutAuto
import Derived.Deep.CutBlock
namespace Go.Proofs.Ytebidhdoiojaeaa
open Go.RowKit LexP

def WhRel (line : ByteArray) (l : List Tok) (w : World) (x col gl i : Value) (wr : World) : Prop :=
  ∃ (k : Nat) (s : ByteArray) (c g : Nat), k ≤ l.length ∧ x = .string s ∧ col = .int .i64 (c : Nat) ∧ gl = .int .i64 (g : Nat) ∧ i = .int .i64 (k : Nat) ∧
    Hid (Toks c (chars s.data.toList) = .ok (l.drop k)) ∧ Hid (Glue g (chars s.data.toList)) ∧ c + s.size ≤ line.size + 1 ∧ 1 ≤ c ∧ g ≤ 3 ∧ Below w.heap.size w wr

theorem cut_at_text {T s2 : ByteArray} {tx : Bytes} {n : Nat} (hT : T.data.toList = tx) (ht : tx = s2.data.toList.take n) (hn : n ≤ s2.size) (hTn : T.size ≤ n) :
    ∃ q : ByteArray, Hid (starts s2.data.toList T.data.toList = true) ∧ Hid (q.data.toList = s2.data.toList.drop n) ∧ s2.extract T.size s2.size = q ∧ q.size + n = s2.size ∧ T.size = n := by
  have hst : starts s2.data.toList T.data.toList = true := by
    unfold starts; rw [hT, ht]; exact List.isPrefixOf_iff_prefix.2 (List.take_prefix _ _)
  have hTl : T.size = n := by
    rw [Lib.size_eq] at hn ⊢
    rw [hT, ht, List.length_take]; omega
  obtain ⟨q, h1, h2, h3⟩ := starts_split hst
  refine ⟨q, hst, ?_, h2, by omega, hTl⟩
  show _ = _
  rw [h1, ← hTl, Lib.size_eq, List.drop_left]

theorem not_empty (T : ByteArray) (h : 0 < T.size) : T.toList.isEmpty = false := by
  rw [ByteArray.toList_eq]
  have : 0 < T.data.toList.length := by rw [← Lib.size_eq]; exact h
  cases hl : T.data.toList with
  | nil => rw [hl] at this; simp at this
  | cons b r => rfl

theorem starts_not {s2 p : ByteArray} {a b : UInt8} (hL : s2.data.toList.take 1 = [b]) (hp : p.data.toList.head? = some a) (hne : a ≠ b) : Hid (starts s2.data.toList p.data.toList = false) := by
  show _ = _
  rw [Bool.eq_false_iff]
  intro h
  obtain ⟨q, hq, -, -⟩ := starts_split h
  rw [hq] at hL
  cases hl : p.data.toList with
  | nil => rw [hl] at hp; simp at hp
  | cons x r =>
    rw [hl] at hL hp
    simp at hL hp
    exact hne (by rw [← hp, hL])

theorem drop_text (s : ByteArray) (n : Nat) (hn : n ≤ s.size) : ∃ q : ByteArray, s.extract n s.size = q ∧ Hid (q.data.toList = s.data.toList.drop n) ∧ q.size + n = s.size := by
  refine ⟨_, rfl, ?_, ?_⟩
  · show _ = _
    rw [Lib.extract_eq, Lib.size_eq]
    exact List.take_of_length_le (by simp)
  · rw [ByteArray.size_extract]; omega
theorem text_here {T s2 : ByteArray} {tx : Bytes} {n : Nat} (hT : T.data.toList = tx) (ht : tx = s2.data.toList.take n) (hn : n ≤ s2.size) (hTn : T.size ≤ n) :
    Hid (starts s2.data.toList T.data.toList = true) ∧ T.size = n := by
  obtain ⟨q, h1, _, _, _, h2⟩ := cut_at_text hT ht hn hTn
  exact ⟨h1, h2⟩

theorem first_byte (T : ByteArray) (h : 0 < T.size) : ∃ b0 : Nat, T[0].toNat = b0 ∧ T.data.toList[0]? = some (UInt8.ofNat b0) ∧ b0 < 256 := by
  refine ⟨_, rfl, ?_, UInt8.toNat_lt _⟩
  have hl : 0 < T.data.toList.length := by rw [← Lib.size_eq]; exact h
  rw [List.getElem?_eq_getElem hl, UInt8.ofNat_toNat]; rfl

theorem firstDig_byte {T : ByteArray} {tx : Bytes} {b0 : Nat} (hT : T.data.toList = tx) (h : T.data.toList[0]? = some (UInt8.ofNat b0)) (hb : b0 < 256) : firstDig tx = decide (48 ≤ b0 ∧ b0 ≤ 57) := by
  subst hT
  cases hl : T.data.toList with
  | nil => rw [hl] at h; simp at h
  | cons b r =>
    rw [hl] at h
    simp at h
    have : b.toNat = b0 := by rw [h, UInt8.toNat_ofNat']; omega
    simp only [firstDig, this]
theorem firstUs_byte {T : ByteArray} {tx : Bytes} {b0 : Nat} (hT : T.data.toList = tx) (h : T.data.toList[0]? = some (UInt8.ofNat b0)) (hb : b0 < 256) : firstUs tx = decide (b0 = 95) := by
  subst hT
  cases hl : T.data.toList with
  | nil => rw [hl] at h; simp at h
  | cons b r =>
    rw [hl] at h
    simp at h
    have : b.toNat = b0 := by rw [h, UInt8.toNat_ofNat']; omega
    simp only [firstUs]
    rw [Bool.eq_iff_iff, beq_iff_eq, decide_eq_true_eq, ← this]
    exact ⟨fun h => by rw [h]; rfl, fun h => UInt8.toNat.inj h⟩

set_option maxRecDepth 100000 in
set_option maxHeartbeats 4000000 in
theorem whole_walk (s : ByteArray) (w : World) (hs : s.size ≤ 1048576) (hx : Lx w) :
    Calls Try.prog 10 #[.string s] w fun e w' => e = .returned (.bool true) ∧ Below w.heap.size w w' := by
  have HX := Lib.hid hx
  clear hx
  go_enter Try.func10, Try.ntmps10
  go_wp2_with fail
  refine (awake_any _ HX.out).mono ?_
  rintro e w1 ⟨rfl, hb1⟩
  have HB1 := Lib.hid hb1
  have hz1 := hb1.size
  clear hb1
  go_wp2_with fail
  refine (tokens_any s _ hs (HX.out.below HB1.out)).mono ?_
  rintro e w2 ⟨v, rfl, hown, hb2⟩
  have HB2 : Hid (Below w.heap.size w w2) := HB1.out.trans (hb2.mono hz1)
  have hz2 := HB2.out.size
  clear hb2 HB1
  cases hr : Toks 1 (chars s.data.toList) with
  | error e =>
    rw [hr] at hown
    have he := Toks_err _ _ _ hr
    obtain ⟨ec, ee⟩ := e
    have g1 : ((ee : Int) != 0) = true := by have := he.1; simp at this ⊢; omega
    obtain ⟨ao, cap, rfl, hn, hc, -⟩ := ownsRow_shape hown
    simp only [resCol_error, resErr_error, resTok_error, List.length_nil] at hn ⊢
    clear hown hn hc he hr
    go_wp2_with fail
    go_ret
    exact ⟨rfl, HB2.out⟩
  | ok l =>
    rw [hr] at hown
    have hlb := (Toks_bounds _ _ _ hr).1
    have hcl := chars_len s.data.toList
    rw [← Lib.size_eq] at hcl
    have HR := Lib.hid hr
    simp only [resCol_ok, resErr_ok, resTok_ok] at hown ⊢
    obtain ⟨ao, cap, rfl, hnc, hcm, hsh⟩ := RdTk.shape (ownsRow_mono hown (Nat.zero_le _) : RdTk w2 v l)
    have HSH := Lib.hid hsh
    clear hr hown hsh
    have hll : l.length ≤ 1048576 := by omega
    clear hlb hcl hcm hnc
    go_wp2_with fail
    go_loopw [6, 7, 8, 9] (fun x col gl i wr => WhRel s l w x col gl i wr ∧ Below w2.heap.size w2 wr) (fun _ _ _ i _ => l.length - (intOf i).toNat)
    case atStart => exact ⟨⟨0, s, 1, 0, Nat.zero_le _, rfl, rfl, rfl, rfl, HR.out, glue_zero _, by omega, by omega, by omega, HB2.out⟩, Below.refl _ _⟩
    case round =>
      obtain ⟨⟨k, s1, c, g, hk, rfl, rfl, rfl, rfl, htk, hgl, hsz, hc1, hg3, hb⟩, hbb⟩ := hrel
      have HB := Lib.hid hb
      have HBB := Lib.hid hbb
      have hzz := hb.size
      have hz3 := hbb.size
      clear hb hbb HR HB2
      by_cases hlt : k < l.length
      · obtain ⟨t, hc⟩ : ∃ c, l[k]? = some c := ⟨_, List.getElem?_eq_getElem hlt⟩
        obtain ⟨ga, rfl, hgs, e1, e2, e3⟩ := HSH.out k t hc
        rw [← HBB.out.cell (p := ⟨ga, _, none⟩) hgs] at e1 e2 e3
        have hdr : l.drop k = t :: l.drop (k + 1) := by
          rw [List.drop_eq_getElem_cons hlt]
          have := List.getElem?_eq_getElem hlt
          rw [hc] at this; rw [← Option.some.inj this]
        have HTK : Hid (Toks c (chars s1.data.toList) = .ok (t :: l.drop (k + 1))) := by show _ = _; rw [htk.out, hdr]
        clear htk hdr hc HSH
        go_wp2_with fail
        refine (blanks_any s1 _ (by omega)).mono ?_
        rintro e w3 ⟨⟨s2, nb, P, rfl, hp, hsp, hnb, hsz2⟩, rfl⟩
        have hpl := hp.out.1
        -- what stands behind the blanks
        obtain ⟨g2, hg2, hg2a, hg2b⟩ : ∃ g2, g2 = (if 0 < nb then 0 else g) ∧ Hid (Glue g2 (chars s2.data.toList)) ∧ g2 ≤ 3 := by
          refine ⟨_, rfl, ?_, by split <;> omega⟩
          by_cases h0 : 0 < nb
          · rw [if_pos h0]; exact glue_zero _
          · rw [if_neg h0]
            obtain rfl : nb = 0 := by omega
            have h1 := hp.out.zero
            have h2 := hsp.out
            rw [h1, List.nil_append] at h2
            rw [← h2]; exact hgl
        obtain ⟨n, wide, t1, t2, t3, t4, t5, t6, t7, t8, hst⟩ := one_step (col := c + nb) (by rw [← hp.out.toks, ← hsp.out]; exact HTK.out) hnb.out hg2a.out
        obtain ⟨kk, tx, tc⟩ := t
        simp only at e1 e2 e3 t1 t2 t3 t4 t5 t6 t7 t8
        subst t1
        obtain ⟨T, hT⟩ : ∃ T : ByteArray, T = ⟨tx.toArray⟩ := ⟨_, rfl⟩
        rw [← hT] at e2
        have hTd : T.data.toList = tx := by rw [hT]
        have hTs : T.size = tx.length := by rw [Lib.size_eq, hTd]
        have hT0 : 0 < T.size := by rw [hTs]; exact List.length_pos_iff.2 t3
        have HCR : Hid (colRes T.data.toList = (wide, 0)) := by rw [hTd]; exact t2
        have HT7 := Lib.hid t7
        have HG8 := Lib.hid t8
        have HTD := Lib.hid hTd
        have hn2 : n ≤ s2.size := by rw [Lib.size_eq]; exact t5
        have hTn : T.size ≤ n := by omega
        clear hp hsp hnb hgl hg2a HTK t2 t3 t7 t8 hT hTd hTs t4 t5
        have e3 : wr.cell? ⟨ga, k * 3 + 2, none⟩ = some (.int .i64 ((c : Int) + (nb : Int))) := e3
        have HE1 := Lib.hid e1
        have HE3 := Lib.hid e3
        have hgr : ga < wr.heap.size := by omega
        clear e1 e3
        obtain ⟨q, hqe, hqd, hqn⟩ := drop_text s2 n hn2
        have HST := Lib.hid hst
        have hk3 : kk ≤ 3 := by rcases hst with ⟨hk1, _⟩ | ⟨hk1, _⟩ | ⟨hk1, _⟩ | ⟨hk1, _⟩ | ⟨hk1, _⟩ <;> simp only at hk1 <;> omega
        clear hst
        go_upto_if 42 with fail
        go_cut [8] (fun s8 wx => s8 = .int .i64 (g2 : Nat) ∧ wx = wr)
        case first =>
          by_cases h0 : 0 < nb
          · rw [if_pos h0] at hg2
            subst g2
            go_wp2_with fail
            go_meet
            exact ⟨rfl, rfl⟩
          · rw [if_neg h0] at hg2
            subst g2
            go_wp2_with fail
            go_meet
            exact ⟨rfl, rfl⟩
        case rest =>
          obtain ⟨rfl, hwc⟩ := hcut
          subst wc
          clear hg2
          go_wp2_with fail
          refine (columns_any T _ (by omega)).mono ?_
          rintro e w4 ⟨rfl, hb4⟩
          rw [HCR.out]
          have HB4 : Hid (Below w.heap.size w w4) := HB.out.trans (hb4.mono hzz)
          have HBB4 : Hid (Below w2.heap.size w2 w4) := HBB.out.trans (hb4.mono hz3)
          have hz4 := HB4.out.size
          have hz5 := HBB4.out.size
          have hz6 := hb4.size
          have hgr4 : ga < w4.heap.size := by omega
          have e1 := HE1.out
          have e3 := HE3.out
          rw [← hb4.cell (p := ⟨ga, _, none⟩) hgr] at e1 e3
          have HE4 := Lib.hid e1
          have hne : T.toList.isEmpty = false := not_empty T hT0
          clear hb4 e2 e1 HE1 HE3
          obtain ⟨b0, hb0, hb1, hb2⟩ := first_byte T hT0
          go_upto_block 2 with fail
          clear e3 hne
          go_cut [6] (fun s6 wx => s6 = .string q ∧ wx = w4)
          case first =>
            have e1 := HE4.out
            rcases HST.out with ⟨hk1, ht, _, _, _, _, _⟩ | ⟨hk1, ht, _, _, _, _⟩ | ⟨hk1, hw, ht, hn, hL⟩ | ⟨hk1, hw, ht, hn, hL⟩ | ⟨hk1, hw, b, hbl, ht, hn, hL⟩
            · simp only at hk1 ht
              subst hk1
              have e1 : w4.cell? ⟨ga, k * 3, none⟩ = some (.int .i64 1) := e1
              obtain ⟨hqs, hqt⟩ := text_here HTD.out ht hn2 hTn
              clear ht
              go_wp2_with fail
              refine (begins_any s2 T _ (by omega) (by omega)).mono ?_
              rintro e w5 ⟨rfl, rfl⟩
              rw [hqs.out]
              go_wp2_with fail
              go_meet
              exact ⟨rfl, rfl⟩
            · simp only at hk1 ht
              subst hk1
              have e1 : w4.cell? ⟨ga, k * 3, none⟩ = some (.int .i64 2) := e1
              obtain ⟨hqs, hqt⟩ := text_here HTD.out ht hn2 hTn
              clear ht
              go_wp2_with fail
              refine (begins_any s2 T _ (by omega) (by omega)).mono ?_
              rintro e w5 ⟨rfl, rfl⟩
              rw [hqs.out]
              go_wp2_with fail
              go_meet
              exact ⟨rfl, rfl⟩
            · simp only at hk1 ht
              subst hk1 hn
              have e1 : w4.cell? ⟨ga, k * 3, none⟩ = some (.int .i64 3) := e1
              obtain ⟨hqs, -⟩ := text_here (T := ⟨#[226, 136, 146]⟩) (tx := [226, 136, 146]) rfl hL.symm hn2 (by decide)
              have hTl : T.toList = [45] := by rw [ByteArray.toList_eq, HTD.out, ht]
              clear ht hL hw
              go_wp2_with fail
              refine (begins_any s2 ⟨#[226, 136, 146]⟩ _ (by omega) (by decide)).mono ?_
              rintro e w5 ⟨rfl, rfl⟩
              rw [hqs.out]
              go_wp2_with fail
              go_meet
              exact ⟨rfl, rfl⟩
            · simp only at hk1 ht
              subst hk1 hn
              have e1 : w4.cell? ⟨ga, k * 3, none⟩ = some (.int .i64 3) := e1
              obtain ⟨hqs, -⟩ := text_here (T := ⟨#[195, 151]⟩) (tx := [195, 151]) rfl hL.symm hn2 (by decide)
              have hTl : T.toList = [42] := by rw [ByteArray.toList_eq, HTD.out, ht]
              clear ht hL hw
              go_wp2_with fail
              refine (begins_any s2 ⟨#[195, 151]⟩ _ (by omega) (by decide)).mono ?_
              rintro e w5 ⟨rfl, rfl⟩
              rw [hqs.out]
              go_wp2_with fail
              go_meet
              exact ⟨rfl, rfl⟩
            · simp only at hk1 ht
              subst hk1 hn
              have e1 : w4.cell? ⟨ga, k * 3, none⟩ = some (.int .i64 3) := e1
              obtain ⟨hqs, hqt⟩ := text_here HTD.out (by rw [ht, hL]) hn2 hTn
              have hTl : T.toList = [b] := by rw [ByteArray.toList_eq, HTD.out, ht]
              by_cases h45 : b = 45
              · subst h45
                have hno := starts_not (p := ⟨#[226, 136, 146]⟩) (a := 226) hL rfl (by decide)
                clear ht hL hw
                go_wp2_with fail
                refine (begins_any s2 ⟨#[226, 136, 146]⟩ _ (by omega) (by decide)).mono ?_
                rintro e w5 ⟨rfl, rfl⟩
                rw [hno.out]
                go_wp2_with fail
                refine (begins_any s2 T _ (by omega) (by omega)).mono ?_
                rintro e w5 ⟨rfl, rfl⟩
                rw [hqs.out]
                go_wp2_with fail
                go_meet
                exact ⟨rfl, rfl⟩
              by_cases h42 : b = 42
              · subst h42
                have hno := starts_not (p := ⟨#[195, 151]⟩) (a := 195) hL rfl (by decide)
                clear ht hL hw
                go_wp2_with fail
                refine (begins_any s2 ⟨#[195, 151]⟩ _ (by omega) (by decide)).mono ?_
                rintro e w5 ⟨rfl, rfl⟩
                rw [hno.out]
                go_wp2_with fail
                refine (begins_any s2 T _ (by omega) (by omega)).mono ?_
                rintro e w5 ⟨rfl, rfl⟩
                rw [hqs.out]
                go_wp2_with fail
                go_meet
                exact ⟨rfl, rfl⟩
              · clear ht hL hw
                go_wp2_with fail
                refine (begins_any s2 T _ (by omega) (by omega)).mono ?_
                rintro e w5 ⟨rfl, rfl⟩
                rw [hqs.out]
                go_wp2_with fail
                go_meet
                exact ⟨rfl, rfl⟩
          case rest =>
            obtain ⟨rfl, hwc⟩ := hcut
            subst wc
            clear hqe
            go_upto_region 28 with fail
            go_cut [15] (fun d wx => ∃ dv : Bool, d = .bool dv ∧ Hid (dv = decide (48 ≤ b0 ∧ b0 ≤ 57)) ∧ wx = w4)
            case first =>
              have hdx : (b0 < 48) ∨ (48 ≤ b0 ∧ b0 ≤ 57) ∨ (57 < b0) := by omega
              rcases hdx with hdx | ⟨hdx, hdy⟩ | hdx
              · have hf : Hid (false = decide (48 ≤ b0 ∧ b0 ≤ 57)) := (decide_eq_false (by omega)).symm
                go_wp2_with fail
                go_meet
                exact ⟨_, rfl, hf, rfl⟩
              · have hf : Hid (true = decide (48 ≤ b0 ∧ b0 ≤ 57)) := (decide_eq_true (by omega)).symm
                have hdd : decide ((b0 : Int) ≤ 57) = true := decide_eq_true (by omega)
                go_wp2_with fail
                go_meet
                exact ⟨_, rfl, hf, rfl⟩
              · have hf : Hid (decide ((b0 : Int) ≤ 57) = decide (48 ≤ b0 ∧ b0 ≤ 57)) := by show _ = _; rw [decide_eq_false (by omega), decide_eq_false (by omega)]
                go_wp2_with fail
                go_meet
                exact ⟨_, rfl, hf, rfl⟩
            case rest =>
              obtain ⟨dv, rfl, HDV, hwc⟩ := hcut
              subst wc
              have e1 := HE4.out
              go_upto_block 3 with fail
              clear e1
              go_cut [14] (fun _ wx => Below w.heap.size w wx ∧ Below w2.heap.size w2 wx ∧ Below w4.heap.size w4 wx)
              case first =>
                rcases HST.out with ⟨hk1, ht, hd, hbd, hnr, hg1, hg2⟩ | ⟨hk1, ht, hd, hl32, hg2, hg1⟩ | ⟨hk1, hw, ht, hn, hL⟩ | ⟨hk1, hw, ht, hn, hL⟩ | ⟨hk1, hw, b, hbl, ht, hn, hL⟩
                · simp only at hk1 ht hd hbd hnr
                  subst hk1
                  have HBD := Lib.hid hbd
                  have HNR := Lib.hid hnr
                  have hgi1 : ((g2 : Int) == 1) = false := by simp; omega
                  have hgi2 : ((g2 : Int) == 2) = false := by simp; omega
                  clear hd hbd hnr ht hg1 hg2
                  go_wp2_with fail
                  refine (readGrouped_any T _ (by omega) hT0 (by rw [HTD.out]; exact HNR.out)).mono ?_
                  rintro e w6 hgr2
                  rw [HTD.out] at hgr2
                  rcases hgr2 with ⟨ha, -, -⟩ | ⟨-, y, xs, rfl, -, -, -, hb6⟩
                  · rw [HBD.out] at ha; cases ha
                  have HB6 : Hid (Below w.heap.size w w6) := HB4.out.trans (hb6.mono hz4)
                  have HBB6 : Hid (Below w2.heap.size w2 w6) := HBB4.out.trans (hb6.mono hz5)
                  have HBC6 := Lib.hid hb6
                  clear hb6
                  go_wp2_with fail
                  go_meet
                  exact ⟨HB6.out, HBB6.out, HBC6.out⟩
                · simp only at hk1 ht hd hl32
                  subst hk1
                  have hl33 : T.size ≤ 32 := by rw [Lib.size_eq, HTD.out]; exact hl32
                  obtain rfl : dv = false := by rw [HDV.out]; rw [firstDig_byte HTD.out hb1 hb2] at hd; exact hd
                  have hgi2 : ((g2 : Int) == 2) = false := by simp; omega
                  have hus : g2 = 1 → ¬ b0 = 95 := fun h => by have h1 := hg1 h; rw [firstUs_byte HTD.out hb1 hb2, decide_eq_false_iff_not] at h1; exact h1
                  have hgx : (((g2 : Int) == 1) = true ∧ ((b0 : Int) == 95) = false) ∨ ((g2 : Int) == 1) = false := by by_cases h : g2 = 1; exact .inl ⟨by rw [h]; rfl, by have := hus h; simp; omega⟩; right; simp; omega
                  clear hus hd hl32 ht hg1 hg2
                  rcases hgx with ⟨hgi1, hus⟩ | hgi1
                  all_goals
                    go_wp2_with fail
                    go_meet
                    exact ⟨HB4.out, HBB4.out, Below.refl _ _⟩
                all_goals
                  simp only at hk1 ht
                  subst hk1 hw hn
                  clear ht hL
                  go_wp2_with fail
                  go_meet
                  exact ⟨HB4.out, HBB4.out, Below.refl _ _⟩
              case rest =>
                obtain ⟨hbx, hbbx, hbcx⟩ := hcut
                have HBX := Lib.hid hbx
                have HBBX := Lib.hid hbbx
                have e1 := HE4.out
                rw [← hbcx.cell (p := ⟨ga, _, none⟩) hgr4] at e1
                clear hbx hbbx hbcx HE4 HST
                have HN : Hid (WhRel s l w (.string q) (.int .i64 ((c : Int) + (nb : Int) + (wide : Int))) (.int .i64 (kk : Nat)) (.int .i64 ((k : Int) + 1)) wc) :=
                  ⟨k + 1, q, c + nb + wide, kk, by omega, rfl, by go_num, rfl, by go_num, by show _ = _; rw [hqd.out]; exact HT7.out, by show Glue _ _; rw [hqd.out]; exact HG8.out, by omega, by omega, by omega, HBX.out⟩
                go_wp2_with fail
                first | exact ⟨⟨HN.out, HBBX.out⟩, by simp [intOf]; omega⟩ | exact ⟨by (repeat apply Exists.intro); first | exact ⟨HN.out, HBBX.out⟩ | exact ⟨⟨HN.out, HBBX.out⟩, rfl⟩ | exact ⟨⟨HN.out, HBBX.out⟩, trivial⟩, by simp [intOf]; omega⟩
      · obtain rfl : k = l.length := by omega
        have HTK : Hid (Toks c (chars s1.data.toList) = .ok []) := by show _ = _; rw [htk.out, List.drop_length]
        clear htk HSH
        go_wp2_with fail
        refine (blanks_any s1 _ (by omega)).mono ?_
        rintro e w3 ⟨⟨s2, nb, P, rfl, hp, hsp, hnb, hsz2⟩, rfl⟩
        have hls := last_step (col := c + nb) (by rw [← hp.out.toks, ← hsp.out]; exact HTK.out) hnb.out
        clear hp hsp hnb HTK
        rcases hls with he | ⟨r, he⟩
        · obtain rfl : s2 = .empty := by apply ByteArray.ext; apply Array.ext'; rw [he]; rfl
          clear he
          go_wp2_with fail
          go_ret
          exact ⟨rfl, HB.out⟩
        · have h0 : 0 < s2.size := by rw [Lib.size_eq, he]; simp
          have hne := not_empty s2 h0
          have hb35 : s2[0].toNat = 35 := by
            obtain ⟨b0, h1, h2, h3⟩ := first_byte s2 h0
            rw [he] at h2
            simp at h2
            have := congrArg UInt8.toNat h2
            rw [UInt8.toNat_ofNat'] at this
            simp at this
            rw [h1]; omega
          clear he
          go_wp2_with fail
          go_ret
          exact ⟨rfl, HB.out⟩
end Go.Proofs.Ytebidhdoiojaeaa
