/- Walk of the documents' ReadGrouped. -/
import Derived.Test.YtebidhdoiojaeaaRefNum3
import Derived.Test.YtebidhdoiojaeaaLexPure4
import Derived.Laws.BytesString
namespace Go.Proofs.Ytebidhdoiojaeaa
open Go.RowKit LexP NumP

def byCells (l : Bytes) : List Value := l.map fun c => .int .u8 (c.toNat : Nat)
theorem byCells_append (a b : Bytes) : byCells (a ++ b) = byCells a ++ byCells b := by simp [byCells]
theorem Try.infoU8 : (Try.prog.info? 5).map (fun i => (i.zero, i.size, i.bytes)) = some (some (.int .u8 0), 1, 1) := by kernel_rfl

/-- Bytes in memory that is the caller's own from block B on. -/
def OwnB (B : Nat) (w : World) (v : Value) (ds : Bytes) : Prop := w.ownsRow B 5 1 v ds.length (byCells ds)

theorem push_all : ∀ (l : Bytes) (s : ByteArray), (l.map fun c => ((c.toNat : Nat) : Int)).foldl (fun r n => r.push (UInt8.ofNat n.toNat)) s = ⟨s.data ++ l.toArray⟩ := by
  intro l
  induction l with
  | nil => intro s; simp
  | cons c l ih =>
    intro s
    simp only [List.map_cons, List.foldl_cons, Int.toNat_natCast, UInt8.ofNat_toNat]
    rw [ih]
    show (⟨s.data.push c ++ l.toArray⟩ : ByteArray) = _
    congr 1
    simp

/-- A text out of one's own bytes. -/
theorem run_text {B : Nat} {w : World} {v : Value} {l : Bytes} (h : OwnB B w v l) : (convert 44 9 v).run Try.prog w = .ok (.string ⟨l.toArray⟩) w := by
  rcases ownsRow_open h with ⟨rfl, hn, hx⟩ | ⟨g, cap, rfl, -, -, -, -, -⟩
  · rw [run_convert_bytes_string w _ _ 5 none 0 0 Try.underlying44 Try.underlying5 Try.underlying9]
    obtain rfl : l = [] := List.eq_nil_of_length_eq_zero hn
    rfl
  · rw [run_convert_bytes_string w _ _ 5 _ _ _ Try.underlying44 Try.underlying5 Try.underlying9]
    have hc := h.cells (g := g) rfl
    have hl := run_loadCells_list (P := Try.prog) (w := w) ⟨g, 0, none⟩ (byCells l) hc
    have e : byCells l = (l.map fun c => ((c.toNat : Nat) : Int)).map (Value.int .u8) := by simp [byCells]
    have hn : (byCells l).length = l.length := by simp [byCells]
    rw [hn, e] at hl
    rw [run_bytesToString w ⟨g, 0, none⟩ l.length cap _ hl, push_all]
    congr 2
    simp

theorem one_mem (v : Value) (h : v.oneCell' = true) : ∀ u ∈ [v], u.oneCell' = true := by
  intro u hu
  simp only [List.mem_singleton] at hu
  subst hu; exact h

def RgPost (t : Bytes) (w : World) (e : Ending) (w' : World) : Prop :=
  (anyBad t = true ∧ e = .returned (.tuple #[.slice none 0 0, .int .i64 7]) ∧ Below w.heap.size w w') ∨ (anyBad t = false ∧ ReadPost (numD (t.filter isDig)) w e w')

def RgRel (t : Bytes) (w : World) (lv i : Value) (wr : World) : Prop :=
  ∃ k, k ≤ t.length ∧ i = .int .i64 (k : Nat) ∧ OwnB w.heap.size wr lv ((t.take k).filter isDig) ∧ Below w.heap.size w wr ∧ ∀ j, j < k → usBad t j = false

set_option maxRecDepth 100000 in
set_option maxHeartbeats 4000000 in
theorem ref_grouped (s : ByteArray) (w : World) (hs : s.size ≤ 1048576) (hr : numRun s.data.toList) (h0 : ∃ c, s.data.toList[0]? = some c ∧ isDig c = true) :
    Calls Try.prog 37 #[.string s] w (RgPost s.data.toList w) := by
  obtain ⟨i0, hi, hz0, hz1, hz2⟩ := info_parts Try.infoU8
  have HR := Lib.hid hr
  have H0 := Lib.hid h0
  have hsz := Lib.hid (Lib.size_eq s)
  clear hr h0
  go_enter Try.func37, Try.ntmps37
  go_wp2_with fail
  go_loopw [4, 5] (fun lv i wr => RgRel s.data.toList w lv i wr) (fun _ i _ => s.size - (intOf i).toNat)
  case atStart => exact ⟨0, Nat.zero_le _, rfl, World.ownsRow_nil _ _ _ _, Below.refl _ _, fun j h => absurd h (Nat.not_lt_zero _)⟩
  case round =>
    obtain ⟨k, hk, rfl, hown, hb, hgood⟩ := hrel
    have hzz := hb.size
    have hfl : ((s.data.toList.take k).filter isDig).length ≤ k := by
      have h1 := List.length_filter_le isDig (s.data.toList.take k)
      have h2 := List.length_take_le k s.data.toList
      omega
    rw [← hsz.out] at hk
    have HG := Lib.hid hgood
    clear hgood
    by_cases hlt : k < s.size
    · have hlt' : k < s.data.toList.length := by have := hsz.out; omega
      have hlen : s.data.toList.length = s.size := hsz.out.symm
      have e2 : s.data.toList[k] = s[k] := rfl
      have hck := HR.out s.data.toList[k] (List.getElem_mem hlt')
      rw [e2] at hck
      have hi1 : (0 : Int) ≤ (k : Int) := by omega
      have hp1 : ((k : Int) + 1).toNat = k + 1 := by omega
      by_cases hdg : isDig s[k] = true
      · have FIN : Hid (∀ (v3 : Value) (w3 : World), w3.ownsRow w.heap.size 5 1 v3 (((s.data.toList.take k).filter isDig).length + 1) (byCells ((s.data.toList.take k).filter isDig) ++ [.int .u8 s[k].toNat]) → Below w.heap.size w w3 → RgRel s.data.toList w v3 (.int .i64 (k + 1)) w3) := by
          intro v3 w3 ho hb3
          have e : (s.data.toList.take (k + 1)).filter isDig = (s.data.toList.take k).filter isDig ++ [s[k]] := by
            rw [List.take_succ_eq_append_getElem hlt', List.filter_append, e2]; simp [hdg]
          refine ⟨k + 1, by omega, by go_num, ?_, hb3, fun j hj => ?_⟩
          · show World.ownsRow _ _ _ _ _ _ _
            rw [e, byCells_append, List.length_append]; exact ho
          · rcases Nat.lt_succ_iff_lt_or_eq.1 hj with h | rfl
            · exact HG.out j h
            · simp only [usBad, Bool.and_eq_false_iff]
              left
              rw [List.getElem?_eq_getElem hlt', e2]
              simp only [beq_eq_false_iff_ne, ne_eq, Option.some.injEq]
              intro h
              rw [h] at hdg
              exact absurd hdg (by decide)
        have hd48 : 48 ≤ s[k].toNat ∧ s[k].toNat ≤ 57 := by simpa [isDig] using hdg
        obtain ⟨hd1, hd2⟩ := hd48
        clear e2 hck hdg hlen
        by_cases hA : k = 0
        · have hC := trivial; have hD := trivial
          have f1 : ¬ (0 : Int) < (k : Int) := by omega
          have f1b : decide ((0 : Int) < (k : Int)) = false := decide_eq_false f1
          have f1c : ¬ 0 < k := by omega
          have f1d : decide (0 < k) = false := decide_eq_false f1c
          have HA := Lib.hid hA
          clear hA
          clear hC hD
          go_wp2_with (at_builtin; refine wpList_append_own _ rfl _ _ 44 rfl w.heap.size 5 i0 (.int .u8 0) 1 1 Try.underlying44 hi hz0 hz1 hz2 rfl (by decide) _ _ _ rfl (World.ownsRow.alloc hown _) ⟨wr.heap.size, 0, none⟩ 1 1 [.int .u8 s[k].toNat] rfl rfl (cells_new _ _ _ _ rfl) (one_mem _ rfl) (by unfold maxLen; omega) (by omega) (by simp; omega) ?_)
          intro v3 w3 hown3 hgrow3 _
          have HF := Lib.hid (FIN.out v3 w3 hown3 (Below.grown (hb.alloc hzz _) hgrow3 (by simp; omega) (fun q hq => (World.ownsRow.lt hown q hq).1)))
          clear hown3 hgrow3
          go_wp2_with fail
          first | exact ⟨HF.out, by simp [intOf] <;> omega⟩ | exact ⟨by (repeat apply Exists.intro); exact ⟨HF.out, rfl⟩, by simp [intOf] <;> omega⟩
        by_cases hB : s.size ≤ k + 1
        · have hC := trivial; have hD := trivial
          have f1 : (0 : Int) < (k : Int) := by omega
          have f2 : ¬ (k : Int) + 1 < (s.size : Int) := by omega
          clear hC hD
          go_wp2_with (at_builtin; refine wpList_append_own _ rfl _ _ 44 rfl w.heap.size 5 i0 (.int .u8 0) 1 1 Try.underlying44 hi hz0 hz1 hz2 rfl (by decide) _ _ _ rfl (World.ownsRow.alloc hown _) ⟨wr.heap.size, 0, none⟩ 1 1 [.int .u8 s[k].toNat] rfl rfl (cells_new _ _ _ _ rfl) (one_mem _ rfl) (by unfold maxLen; omega) (by omega) (by simp; omega) ?_)
          intro v3 w3 hown3 hgrow3 _
          have HF := Lib.hid (FIN.out v3 w3 hown3 (Below.grown (hb.alloc hzz _) hgrow3 (by simp; omega) (fun q hq => (World.ownsRow.lt hown q hq).1)))
          clear hown3 hgrow3
          go_wp2_with fail
          first | exact ⟨HF.out, by simp [intOf] <;> omega⟩ | exact ⟨by (repeat apply Exists.intro); exact ⟨HF.out, rfl⟩, by simp [intOf] <;> omega⟩
        by_cases hC : (s[k - 1]'(by omega)).toNat = 95
        · have hD := trivial
          have f1 : (0 : Int) < (k : Int) := by omega
          have f2 : (k : Int) + 1 < (s.size : Int) := by omega
          have f3 : (((s[k - 1]'(by omega)).toNat : Int) != 95) = false := by simp [hC]
          clear hC hD
          go_wp2_with (at_builtin; refine wpList_append_own _ rfl _ _ 44 rfl w.heap.size 5 i0 (.int .u8 0) 1 1 Try.underlying44 hi hz0 hz1 hz2 rfl (by decide) _ _ _ rfl (World.ownsRow.alloc hown _) ⟨wr.heap.size, 0, none⟩ 1 1 [.int .u8 s[k].toNat] rfl rfl (cells_new _ _ _ _ rfl) (one_mem _ rfl) (by unfold maxLen; omega) (by omega) (by simp; omega) ?_)
          intro v3 w3 hown3 hgrow3 _
          have HF := Lib.hid (FIN.out v3 w3 hown3 (Below.grown (hb.alloc hzz _) hgrow3 (by simp; omega) (fun q hq => (World.ownsRow.lt hown q hq).1)))
          clear hown3 hgrow3
          go_wp2_with fail
          first | exact ⟨HF.out, by simp [intOf] <;> omega⟩ | exact ⟨by (repeat apply Exists.intro); exact ⟨HF.out, rfl⟩, by simp [intOf] <;> omega⟩
        by_cases hD : (s[k + 1]'(by omega)).toNat = 95
        · skip
          have f1 : (0 : Int) < (k : Int) := by omega
          have f2 : (k : Int) + 1 < (s.size : Int) := by omega
          have f3 : (((s[k - 1]'(by omega)).toNat : Int) != 95) = true := by simp [hC]; omega
          have f4 : (((s[k + 1]'(by omega)).toNat : Int) != 95) = false := by simp [hD]
          clear hC hD
          go_wp2_with (at_builtin; refine wpList_append_own _ rfl _ _ 44 rfl w.heap.size 5 i0 (.int .u8 0) 1 1 Try.underlying44 hi hz0 hz1 hz2 rfl (by decide) _ _ _ rfl (World.ownsRow.alloc hown _) ⟨wr.heap.size, 0, none⟩ 1 1 [.int .u8 s[k].toNat] rfl rfl (cells_new _ _ _ _ rfl) (one_mem _ rfl) (by unfold maxLen; omega) (by omega) (by simp; omega) ?_)
          intro v3 w3 hown3 hgrow3 _
          have HF := Lib.hid (FIN.out v3 w3 hown3 (Below.grown (hb.alloc hzz _) hgrow3 (by simp; omega) (fun q hq => (World.ownsRow.lt hown q hq).1)))
          clear hown3 hgrow3
          go_wp2_with fail
          first | exact ⟨HF.out, by simp [intOf] <;> omega⟩ | exact ⟨by (repeat apply Exists.intro); exact ⟨HF.out, rfl⟩, by simp [intOf] <;> omega⟩
        · skip
          have f1 : (0 : Int) < (k : Int) := by omega
          have f2 : (k : Int) + 1 < (s.size : Int) := by omega
          have f3 : (((s[k - 1]'(by omega)).toNat : Int) != 95) = true := by simp [hC]; omega
          have f4 : (((s[k + 1]'(by omega)).toNat : Int) != 95) = true := by simp [hD]; omega
          clear hC hD
          go_wp2_with (at_builtin; refine wpList_append_own _ rfl _ _ 44 rfl w.heap.size 5 i0 (.int .u8 0) 1 1 Try.underlying44 hi hz0 hz1 hz2 rfl (by decide) _ _ _ rfl (World.ownsRow.alloc hown _) ⟨wr.heap.size, 0, none⟩ 1 1 [.int .u8 s[k].toNat] rfl rfl (cells_new _ _ _ _ rfl) (one_mem _ rfl) (by unfold maxLen; omega) (by omega) (by simp; omega) ?_)
          intro v3 w3 hown3 hgrow3 _
          have HF := Lib.hid (FIN.out v3 w3 hown3 (Below.grown (hb.alloc hzz _) hgrow3 (by simp; omega) (fun q hq => (World.ownsRow.lt hown q hq).1)))
          clear hown3 hgrow3
          go_wp2_with fail
          first | exact ⟨HF.out, by simp [intOf] <;> omega⟩ | exact ⟨by (repeat apply Exists.intro); exact ⟨HF.out, rfl⟩, by simp [intOf] <;> omega⟩
      · have h95 : s[k] = 95 := hck.resolve_left hdg
        have h95n : s[k].toNat = 95 := by rw [h95]; rfl
        have FIU : Hid (usBad s.data.toList k = false → RgRel s.data.toList w u4 (.int .i64 (k + 1)) wr) := by
          intro hu
          have e : (s.data.toList.take (k + 1)).filter isDig = (s.data.toList.take k).filter isDig := by
            rw [List.take_succ_eq_append_getElem hlt', List.filter_append, e2]; simp [hdg]
          refine ⟨k + 1, by omega, by go_num, ?_, hb, fun j hj => ?_⟩
          · rw [e]; exact hown
          · rcases Nat.lt_succ_iff_lt_or_eq.1 hj with h | rfl
            · exact HG.out j h
            · exact hu
        have FBU : Hid ((k == 0 || decide (s.data.toList.length ≤ k + 1) || s.data.toList[k - 1]? == some 95 || s.data.toList[k + 1]? == some 95) = true → anyBad s.data.toList = true) := by
          intro hu
          rw [anyBad_iff]
          refine ⟨k, hlt', ?_⟩
          unfold usBad
          rw [hu, List.getElem?_eq_getElem hlt', e2, h95]; rfl
        have hd1 : 58 ≤ s[k].toNat := by omega
        have hd2 : ((s[k].toNat : Int) != 95) = false := by simp [h95n]
        have hd3 : decide ((s[k].toNat : Int) ≤ 57) = false := decide_eq_false (by omega)
        clear e2 hck hdg h95 h95n
        by_cases hA : k = 0
        · have hC := trivial; have hD := trivial
          have f1 : ¬ (0 : Int) < (k : Int) := by omega
          have f1b : decide ((0 : Int) < (k : Int)) = false := decide_eq_false f1
          have f1c : ¬ 0 < k := by omega
          have f1d : decide (0 < k) = false := decide_eq_false f1c
          have HA := Lib.hid hA
          clear hA
          have HU : Hid (anyBad s.data.toList = true) := FBU.out (by rw [show (k == 0) = true from by simp; exact HA.out]; simp)
          clear hC hD
          go_wp2_with fail
          go_ret2
          exact .inl ⟨HU.out, rfl, hb⟩
        by_cases hB : s.size ≤ k + 1
        · have hC := trivial; have hD := trivial
          have f1 : (0 : Int) < (k : Int) := by omega
          have f2 : ¬ (k : Int) + 1 < (s.size : Int) := by omega
          have HU : Hid (anyBad s.data.toList = true) := FBU.out (by rw [show decide (s.data.toList.length ≤ k + 1) = true from decide_eq_true (by omega)]; simp)
          clear hC hD
          go_wp2_with fail
          go_ret2
          exact .inl ⟨HU.out, rfl, hb⟩
        by_cases hC : (s[k - 1]'(by omega)).toNat = 95
        · have hD := trivial
          have f1 : (0 : Int) < (k : Int) := by omega
          have f2 : (k : Int) + 1 < (s.size : Int) := by omega
          have f3 : (((s[k - 1]'(by omega)).toNat : Int) != 95) = false := by simp [hC]
          have HU : Hid (anyBad s.data.toList = true) := FBU.out (by rw [show (s.data.toList[k - 1]? == some 95) = true from by rw [List.getElem?_eq_getElem (by omega)]; simp only [beq_iff_eq, Option.some.injEq]; exact UInt8.toNat_inj.1 hC]; simp)
          clear hC hD
          go_wp2_with fail
          go_ret2
          exact .inl ⟨HU.out, rfl, hb⟩
        by_cases hD : (s[k + 1]'(by omega)).toNat = 95
        · skip
          have f1 : (0 : Int) < (k : Int) := by omega
          have f2 : (k : Int) + 1 < (s.size : Int) := by omega
          have f3 : (((s[k - 1]'(by omega)).toNat : Int) != 95) = true := by simp [hC]; omega
          have f4 : (((s[k + 1]'(by omega)).toNat : Int) != 95) = false := by simp [hD]
          have HU : Hid (anyBad s.data.toList = true) := FBU.out (by rw [show (s.data.toList[k + 1]? == some 95) = true from by rw [List.getElem?_eq_getElem (by omega)]; simp only [beq_iff_eq, Option.some.injEq]; exact UInt8.toNat_inj.1 hD]; simp)
          clear hC hD
          go_wp2_with fail
          go_ret2
          exact .inl ⟨HU.out, rfl, hb⟩
        · skip
          have f1 : (0 : Int) < (k : Int) := by omega
          have f2 : (k : Int) + 1 < (s.size : Int) := by omega
          have f3 : (((s[k - 1]'(by omega)).toNat : Int) != 95) = true := by simp [hC]; omega
          have f4 : (((s[k + 1]'(by omega)).toNat : Int) != 95) = true := by simp [hD]; omega
          have HU : Hid (RgRel s.data.toList w u4 (.int .i64 (k + 1)) wr) := FIU.out (by
            simp only [usBad, Bool.and_eq_false_iff, Bool.or_eq_false_iff]
            right
            refine ⟨⟨⟨by simp; omega, by simp; omega⟩, ?_⟩, ?_⟩
            · rw [List.getElem?_eq_getElem (by omega)]; simp only [beq_eq_false_iff_ne, ne_eq, Option.some.injEq]; intro h; exact hC (by have := congrArg UInt8.toNat h; exact this)
            · rw [List.getElem?_eq_getElem (by omega)]; simp only [beq_eq_false_iff_ne, ne_eq, Option.some.injEq]; intro h; exact hD (by have := congrArg UInt8.toNat h; exact this))
          clear hC hD
          go_wp2_with fail
          first | exact ⟨HU.out, by simp [intOf] <;> omega⟩ | exact ⟨by (repeat apply Exists.intro); exact ⟨HU.out, rfl⟩, by simp [intOf] <;> omega⟩
    · have hkn : s.data.toList.take k = s.data.toList := List.take_of_length_le (by have := hsz.out; omega)
      rw [hkn] at hown
      have hgd : Hid (anyBad s.data.toList = false) := by
        show _ = _
        cases hab : anyBad s.data.toList with
        | false => rfl
        | true =>
          obtain ⟨j, hj1, hj2⟩ := (anyBad_iff _).1 hab
          have := HG.out j (by have := hsz.out; omega)
          rw [hj2] at this; cases this
      have hcv := run_text (B := w.heap.size) (w := wr) (v := u4) hown
      have hne : (⟨(s.data.toList.filter isDig).toArray⟩ : ByteArray).toList.isEmpty = false := by
        obtain ⟨c, hc1, hc2⟩ := H0.out
        rw [Lib.toList_data]
        simp only [List.toList_toArray]
        have : c ∈ s.data.toList.filter isDig := List.mem_filter.2 ⟨List.mem_of_getElem? hc1, hc2⟩
        cases hf : s.data.toList.filter isDig with
        | nil => rw [hf] at this; cases this
        | cons _ _ => rfl
      have hfs : (⟨(s.data.toList.filter isDig).toArray⟩ : ByteArray).size ≤ 1048576 := by
        rw [Lib.size_eq]
        have := List.length_filter_le isDig s.data.toList
        rw [← hsz.out] at this
        simp only [List.toList_toArray]; omega
      have hfd : Hid (∀ c ∈ (⟨(s.data.toList.filter isDig).toArray⟩ : ByteArray).data.toList, isDig c = true) := by
        intro c hc
        simp only [List.toList_toArray] at hc
        exact (List.mem_filter.1 hc).2
      have HNE := Lib.hid hne
      clear hkn hne
      go_wp2_with fail
      refine (ref_read _ wr hfs HNE.out hfd.out).mono ?_
      rintro e w2 ⟨v2, rfl, hown2, hb2⟩
      have HO2 := Lib.hid hown2
      have HB2 : Hid (Below w.heap.size w w2) := hb.trans (hb2.mono hzz)
      clear hown2 hb2
      go_wp2_with fail
      go_ret2
      exact .inr ⟨hgd.out, _, rfl, ownsRow_mono HO2.out hzz, HB2.out⟩
end Go.Proofs.Ytebidhdoiojaeaa
