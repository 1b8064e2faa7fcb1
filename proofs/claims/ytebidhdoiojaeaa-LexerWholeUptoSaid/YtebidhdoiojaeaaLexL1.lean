/- Walks of the laws' own helpers: awake, tokens, texts, has. -/
import Derived.Test.YtebidhdoiojaeaaLexW7
namespace Go.Proofs.Ytebidhdoiojaeaa
open Go.RowKit LexP

def RdTk (w : World) (v : Value) (l : List Tok) : Prop := w.ownsRow 0 46 3 v l.length (tkCells l)
theorem RdTk.below {w w' : World} {v : Value} {l : List Tok} (h : RdTk w v l) (hb : Below w.heap.size w w') : RdTk w' v l := ownsRow_below h hb (Nat.le_refl _)

theorem RdTk.shape {w : World} {v : Value} {cs : List Tok} (h : RdTk w v cs) : ∃ ao cap, v = .slice ao cs.length cap ∧ cs.length ≤ cap ∧ cap ≤ maxLen ∧
    ∀ k c, cs[k]? = some c → ∃ g, ao = some ⟨g, 0, none⟩ ∧ g < w.heap.size ∧ w.cell? ⟨g, k * 3, none⟩ = some (.int .i64 (c.1 : Nat)) ∧ w.cell? ⟨g, k * 3 + 1, none⟩ = some (.string ⟨c.2.1.toArray⟩) ∧
      w.cell? ⟨g, k * 3 + 2, none⟩ = some (.int .i64 (c.2.2 : Nat)) := by
  obtain ⟨ao, cap, rfl, hnc, hcm, hsh⟩ := ownsRow_shape h
  refine ⟨ao, cap, rfl, hnc, hcm, fun k c hc => ?_⟩
  have hlt : k < cs.length := (List.getElem?_eq_some_iff.1 hc).1
  obtain ⟨g, rfl, hbg, hgs, hcell⟩ := hsh (by omega)
  obtain ⟨c1, c2, c3⟩ := tkCells_at cs k c hc
  exact ⟨g, rfl, hgs, by rw [hcell _ (by omega)]; exact c1, by rw [hcell _ (by omega)]; exact c2, by rw [hcell _ (by omega), c3]⟩

def RdSt (w : World) (v : Value) (l : List Bytes) : Prop := w.ownsRow 0 9 1 v l.length (stCells l)
theorem RdSt.below {w w' : World} {v : Value} {l : List Bytes} (h : RdSt w v l) (hb : Below w.heap.size w w') : RdSt w' v l := ownsRow_below h hb (Nat.le_refl _)

theorem RdSt.shape {w : World} {v : Value} {cs : List Bytes} (h : RdSt w v cs) : ∃ ao cap, v = .slice ao cs.length cap ∧ cs.length ≤ cap ∧ cap ≤ maxLen ∧
    ∀ k c, cs[k]? = some c → ∃ g, ao = some ⟨g, 0, none⟩ ∧ g < w.heap.size ∧ w.cell? ⟨g, k, none⟩ = some (.string ⟨c.toArray⟩) := by
  obtain ⟨ao, cap, rfl, hnc, hcm, hsh⟩ := ownsRow_shape h
  refine ⟨ao, cap, rfl, hnc, hcm, fun k c hc => ?_⟩
  have hlt : k < cs.length := (List.getElem?_eq_some_iff.1 hc).1
  obtain ⟨g, rfl, hbg, hgs, hcell⟩ := hsh (by omega)
  exact ⟨g, rfl, hgs, by rw [hcell _ (by omega)]; simp [stCells, hc]⟩

def awakeText : ByteArray := ⟨#[195, 169, 32, 55]⟩
theorem awake_toks : Toks 1 (chars awakeText.data.toList) = .ok [(2, [195, 169], 1), (1, [55], 3)] := by kernel_rfl

set_option maxRecDepth 100000 in
set_option maxHeartbeats 1000000 in
theorem awake_any (w : World) (hx : Lx w) :
    Calls Try.prog 11 #[] w fun e w' => e = .returned (.bool true) ∧ Below w.heap.size w w' := by
  go_enter Try.func11, Try.ntmps11
  go_wp2_with fail
  refine (tokens_any awakeText _ (by decide) hx).mono ?_
  rintro e w1 ⟨v, rfl, hown, hbel⟩
  rw [awake_toks] at hown ⊢
  obtain ⟨ao, cap, rfl, hnc, hcm, hsh⟩ := RdTk.shape (ownsRow_mono hown (Nat.zero_le _))
  obtain ⟨g, rfl, hgs, e1, e2, e3⟩ := hsh 1 _ rfl
  simp only [resTok, resCol, resErr, List.length_cons, List.length_nil] at hnc e1 e2 e3 ⊢
  clear hown hsh hcm
  go_wp2
  go_ret
  exact ⟨rfl, hbel⟩

set_option maxRecDepth 100000 in
set_option maxHeartbeats 1000000 in
theorem tokens_same (v u : Value) (l : List Tok) (w : World) (hv : RdTk w v l) (hu : RdTk w u l) :
    Calls Try.prog 16 #[v, u] w fun e w' => e = .returned (.bool true) ∧ Below w.heap.size w w' := by
  obtain ⟨ao, cap, rfl, hnc, hcm, hsh⟩ := hv.shape
  obtain ⟨bo, cap2, rfl, hnc2, hcm2, hsh2⟩ := hu.shape
  have H1 := Lib.hid hsh
  have H2 := Lib.hid hsh2
  have hm : l.length ≤ 9223372036854775807 := by unfold maxLen at hcm; omega
  clear hsh hsh2 hcm hcm2 hv hu
  go_enter Try.func16, Try.ntmps16
  go_wp2_with fail
  go_loopw [5] (fun i wr => ∃ k : Nat, k ≤ l.length ∧ i = .int .i64 (k : Nat) ∧ Below w.heap.size w wr) (fun i _ => l.length - (intOf i).toNat)
  case atStart => exact ⟨0, Nat.zero_le _, rfl, Below.refl _ _⟩
  case round =>
    obtain ⟨k, hk, rfl, hb⟩ := hrel
    by_cases hlt : k < l.length
    · obtain ⟨c, hc⟩ : ∃ c, l[k]? = some c := ⟨_, List.getElem?_eq_getElem hlt⟩
      obtain ⟨g, rfl, hgs, e1, e2, e3⟩ := H1.out _ c hc
      obtain ⟨g2, rfl, hgs2, f1, f2, f3⟩ := H2.out _ c hc
      rw [← hb.cell (p := ⟨g, _, none⟩) hgs] at e1 e2 e3
      rw [← hb.cell (p := ⟨g2, _, none⟩) hgs2] at f1 f2 f3
      clear hc H1 H2
      go_wp2
      go_quiet (fail)
      go_wp2
      exact ⟨⟨k + 1, by omega, by go_num, below_drewN hb _⟩, by simp [intOf]; omega⟩
    · go_wp2
      go_ret
      exact ⟨rfl, hb⟩
set_option maxRecDepth 100000 in
set_option maxHeartbeats 1000000 in
theorem texts_same (v u : Value) (l : List Bytes) (w : World) (hv : RdSt w v l) (hu : RdSt w u l) :
    Calls Try.prog 21 #[v, u] w fun e w' => e = .returned (.bool true) ∧ Below w.heap.size w w' := by
  obtain ⟨ao, cap, rfl, hnc, hcm, hsh⟩ := hv.shape
  obtain ⟨bo, cap2, rfl, hnc2, hcm2, hsh2⟩ := hu.shape
  have H1 := Lib.hid hsh
  have H2 := Lib.hid hsh2
  have hm : l.length ≤ 9223372036854775807 := by unfold maxLen at hcm; omega
  clear hsh hsh2 hcm hcm2 hv hu
  go_enter Try.func21, Try.ntmps21
  go_wp2_with fail
  go_loopw [5] (fun i wr => ∃ k : Nat, k ≤ l.length ∧ i = .int .i64 (k : Nat) ∧ Below w.heap.size w wr) (fun i _ => l.length - (intOf i).toNat)
  case atStart => exact ⟨0, Nat.zero_le _, rfl, Below.refl _ _⟩
  case round =>
    obtain ⟨k, hk, rfl, hb⟩ := hrel
    by_cases hlt : k < l.length
    · obtain ⟨c, hc⟩ : ∃ c, l[k]? = some c := ⟨_, List.getElem?_eq_getElem hlt⟩
      obtain ⟨g, rfl, hgs, e1⟩ := H1.out _ c hc
      obtain ⟨g2, rfl, hgs2, f1⟩ := H2.out _ c hc
      rw [← hb.cell (p := ⟨g, _, none⟩) hgs] at e1
      rw [← hb.cell (p := ⟨g2, _, none⟩) hgs2] at f1
      clear hc H1 H2
      go_wp2
      go_quiet (fail)
      go_wp2
      exact ⟨⟨k + 1, by omega, by go_num, below_drewN hb _⟩, by simp [intOf]; omega⟩
    · go_wp2
      go_ret
      exact ⟨rfl, hb⟩

def hasB (l : Bytes) (c : UInt8) : Bool := l.any (· == c)

set_option maxHeartbeats 400000 in
theorem has_any (s : ByteArray) (c : UInt8) (w : World) (hs : s.size ≤ maxLen) :
    Calls Try.prog 15 #[.string s, .int .u8 c.toNat] w fun e w' => e = .returned (.bool (hasB s.data.toList c)) ∧ w = w' := by
  unfold maxLen at hs
  have hsz := Lib.hid (Lib.size_eq s)
  cases hh : hasB s.data.toList c with
  | true =>
    have HH := Lib.hid hh
    clear hh
    go_enter Try.func15, Try.ntmps15
    go_wp2
    go_loop [5] (fun i => ∃ k : Nat, k ≤ s.size ∧ i = .int .i64 k ∧ (s.data.toList.take k).any (· == c) = false) (fun i => s.size - (intOf i).toNat)
    case atStart => exact ⟨0, Nat.zero_le _, rfl, rfl⟩
    case round =>
      obtain ⟨k, hk, rfl, hn⟩ := hrel
      have H := Lib.hid hn
      clear hn
      by_cases hlt : k < s.size
      · cases hb : ((s[k].toNat : Int) == (c.toNat : Int)) with
        | true =>
          go_wp2
          go_ret
          exact ⟨rfl, rfl⟩
        | false =>
          have HB := Lib.hid hb
          go_wp2
          go_round
          case rel =>
            refine ⟨k + 1, by omega, by go_num, ?_⟩
            have hlt' : k < s.data.toList.length := by have := hsz.out; omega
            rw [List.take_succ_eq_append_getElem hlt', List.any_append, H.out]
            have e : (s.data.toList[k] == c) = false := by
              have h2 := HB.out
              have e2 : s.data.toList[k] = s[k] := rfl
              rw [e2]
              simp only [beq_eq_false_iff_ne, ne_eq] at h2 ⊢
              intro h3; rw [h3] at h2; exact h2 rfl
            simp only [List.any_cons, List.any_nil, Bool.or_false, Bool.false_or]; exact e
          case measure => simp [intOf]; omega
      · exfalso
        have h1 := H.out
        rw [List.take_of_length_le (by have := hsz.out; omega)] at h1
        have h2 := HH.out
        unfold hasB at h2
        rw [h1] at h2; cases h2
  | false =>
    have HH := Lib.hid hh
    clear hh
    go_enter Try.func15, Try.ntmps15
    go_wp2
    go_loop [5] (fun i => ∃ k : Nat, k ≤ s.size ∧ i = .int .i64 k) (fun i => s.size - (intOf i).toNat)
    case atStart => exact ⟨0, Nat.zero_le _, rfl⟩
    case round =>
      obtain ⟨k, hk, rfl⟩ := hrel
      by_cases hlt : k < s.size
      · have hb : ((s[k].toNat : Int) == (c.toNat : Int)) = false := by
          have h2 := HH.out
          unfold hasB at h2
          rw [List.any_eq_false] at h2
          have hlt' : k < s.data.toList.length := by have := hsz.out; omega
          have h3 := h2 s.data.toList[k] (List.getElem_mem hlt')
          have e2 : s.data.toList[k] = s[k] := rfl
          rw [e2] at h3
          simp only [beq_eq_false_iff_ne, ne_eq, beq_iff_eq] at h3 ⊢
          intro h4
          exact h3 (UInt8.toNat_inj.1 (by omega))
        go_wp2
        go_round
        case rel => exact ⟨k + 1, by omega, by go_num⟩
        case measure => simp [intOf]; omega
      · go_wp2
        go_ret
        exact ⟨rfl, rfl⟩

end Go.Proofs.Ytebidhdoiojaeaa
