/- Walks of LexerWhole's helpers: begins, blanks. -/
import Derived.Test.YtebidhdoiojaeaaWholeP
namespace Go.Proofs.Ytebidhdoiojaeaa
open Go.RowKit LexP

def starts (l p : Bytes) : Bool := p.isPrefixOf l

theorem starts_ext (s t : ByteArray) (h : t.size ≤ s.size) : starts s.data.toList t.data.toList = decide (s.extract 0 t.size = t) := by
  unfold starts
  rw [Bool.eq_iff_iff, List.isPrefixOf_iff_prefix, decide_eq_true_eq, List.prefix_iff_eq_take]
  constructor
  · intro h2
    apply ByteArray.ext; apply Array.ext'
    rw [Lib.extract_eq]
    simp only [Nat.sub_zero, List.drop_zero]
    rw [← Lib.size_eq] at h2
    exact h2.symm
  · intro h2
    have h3 := congrArg (fun b : ByteArray => b.data.toList) h2
    simp only [Lib.extract_eq, Nat.sub_zero, List.drop_zero] at h3
    rw [← Lib.size_eq]; exact h3.symm

theorem starts_short (s t : ByteArray) (h : ¬ t.size ≤ s.size) : starts s.data.toList t.data.toList = false := by
  unfold starts
  rw [Bool.eq_false_iff]
  intro h2
  have := (List.isPrefixOf_iff_prefix.1 h2).length_le
  rw [← Lib.size_eq, ← Lib.size_eq] at this; exact h this

theorem starts_eq (s t : ByteArray) (h : t.size ≤ s.size) : ((s.extract 0 t.size).toList == t.toList) = starts s.data.toList t.data.toList := by
  rw [starts_ext s t h, Bool.eq_iff_iff, decide_eq_true_eq, beq_iff_eq, ByteArray.toList_eq, ByteArray.toList_eq]
  exact ⟨fun h => ByteArray.ext (Array.ext' h), fun h => by rw [h]⟩

set_option maxHeartbeats 1000000 in
theorem begins_any (s t : ByteArray) (w : World) (hs : s.size ≤ 4194304) (ht : t.size ≤ 4194304) :
    Calls Try.prog 26 #[.string s, .string t] w fun e w' => e = .returned (.bool (starts s.data.toList t.data.toList)) ∧ w = w' := by
  by_cases hle : t.size ≤ s.size
  · have HE := Lib.hid (starts_eq s t hle)
    go_enter Try.func26, Try.ntmps26
    go_wp2_with fail
    go_ret
    exact ⟨ret_bool HE.out, rfl⟩
  · rw [starts_short s t hle]
    go_enter Try.func26, Try.ntmps26
    go_wp2_with fail
    go_ret
    exact ⟨rfl, rfl⟩

/-- What blanks answers: the rest, and how many blanks stand ahead of it. -/
def BlRel (s : ByteArray) (x n : Value) : Prop :=
  ∃ (r : ByteArray) (k : Nat) (P : Bytes), x = .string r ∧ n = .int .i64 (k : Nat) ∧ Hid (Pad P k) ∧ Hid (s.data.toList = P ++ r.data.toList) ∧ r.size + P.length = s.size

theorem starts_split {r p : ByteArray} (h : starts r.data.toList p.data.toList = true) : ∃ q : ByteArray, r.data.toList = p.data.toList ++ q.data.toList ∧ r.extract p.size r.size = q ∧ q.size + p.size = r.size := by
  obtain ⟨t, ht⟩ := List.isPrefixOf_iff_prefix.1 h
  refine ⟨⟨t.toArray⟩, ht.symm, ?_, ?_⟩
  · apply ByteArray.ext; apply Array.ext'
    rw [Lib.extract_eq, ← ht, Lib.size_eq p, List.drop_left]
    have : r.size - p.data.toList.length = t.length := by rw [Lib.size_eq, ← ht]; simp
    rw [this, List.take_length]
  · rw [Lib.size_eq, Lib.size_eq p, Lib.size_eq r, ← ht]; simp; omega

set_option maxRecDepth 100000 in
set_option maxHeartbeats 1000000 in
theorem blanks_any (s : ByteArray) (w : World) (hs : s.size ≤ 1048576) :
    Calls Try.prog 25 #[.string s] w fun e w' => (∃ (r : ByteArray) (k : Nat) (P : Bytes), e = .returned (.tuple #[.string r, .int .i64 (k : Nat)]) ∧ Hid (Pad P k) ∧ Hid (s.data.toList = P ++ r.data.toList) ∧ Hid (NoBl r.data.toList) ∧ r.size + P.length = s.size) ∧ w = w' := by
  go_enter Try.func25, Try.ntmps25
  go_wp2_with fail
  go_loopw [0, 4] (fun x n wr => BlRel s x n ∧ wr = w) (fun x _ _ => match x with | .string r => r.size | _ => 0)
  case atStart => exact ⟨⟨s, 0, [], rfl, rfl, Pad.nil, rfl, by simp⟩, rfl⟩
  case round =>
    obtain ⟨⟨r, k, P, rfl, rfl, hp, hsp, hsz⟩, rfl⟩ := hrel
    have hpk := hp.out.1
    go_wp2_with fail
    refine (begins_any r ⟨#[32]⟩ _ (by omega) (by decide)).mono ?_
    rintro e w1 ⟨rfl, rfl⟩
    cases hb1 : starts r.data.toList (⟨#[32]⟩ : ByteArray).data.toList with
    | true =>
      obtain ⟨q, hq1, hq2, hq3⟩ := starts_split hb1
      have HQ1 := Lib.hid hq1
      have hq4 : q.size + 1 = r.size := hq3
      have hq5 : r.extract 1 r.size = q := hq2
      clear hb1 hq1 hq2 hq3
      go_wp2_with fail
      have hfin : BlRel s (.string q) (.int .i64 ((k : Int) + 1)) := ⟨q, k + 1, P ++ [32], rfl, by go_num, hp.out.one 32 (.inl rfl), by show _ = _; rw [hsp.out, HQ1.out]; simp, by simp; omega⟩
      have hm : q.size < r.size := by omega
      first | exact ⟨hfin, hm⟩ | exact ⟨⟨hfin, rfl⟩, hm⟩ | exact ⟨by (repeat apply Exists.intro); first | exact ⟨hfin, rfl⟩ | exact ⟨hfin, trivial⟩, hm⟩
    | false =>
      have HN1 := Lib.hid hb1
      clear hb1
      go_wp2_with fail
      refine (begins_any r ⟨#[9]⟩ _ (by omega) (by decide)).mono ?_
      rintro e w1 ⟨rfl, rfl⟩
      cases hb2 : starts r.data.toList (⟨#[9]⟩ : ByteArray).data.toList with
      | true =>
        obtain ⟨q, hq1, hq2, hq3⟩ := starts_split hb2
        have HQ1 := Lib.hid hq1
        have hq4 : q.size + 1 = r.size := hq3
        have hq5 : r.extract 1 r.size = q := hq2
        clear hb2 hq1 hq2 hq3
        go_wp2_with fail
        have hfin : BlRel s (.string q) (.int .i64 ((k : Int) + 1)) := ⟨q, k + 1, P ++ [9], rfl, by go_num, hp.out.one 9 (.inr rfl), by show _ = _; rw [hsp.out, HQ1.out]; simp, by simp; omega⟩
        have hm : q.size < r.size := by omega
        first | exact ⟨hfin, hm⟩ | exact ⟨⟨hfin, rfl⟩, hm⟩ | exact ⟨by (repeat apply Exists.intro); first | exact ⟨hfin, rfl⟩ | exact ⟨hfin, trivial⟩, hm⟩
      | false =>
        have HN2 := Lib.hid hb2
        clear hb2
        go_wp2_with fail
        refine (begins_any r ⟨#[194, 160]⟩ _ (by omega) (by decide)).mono ?_
        rintro e w1 ⟨rfl, rfl⟩
        cases hb3 : starts r.data.toList (⟨#[194, 160]⟩ : ByteArray).data.toList with
        | true =>
          obtain ⟨q, hq1, hq2, hq3⟩ := starts_split hb3
          have HQ1 := Lib.hid hq1
          have hq4 : q.size + 2 = r.size := hq3
          have hq5 : r.extract 2 r.size = q := hq2
          clear hb3 hq1 hq2 hq3
          go_wp2_with fail
          have hfin : BlRel s (.string q) (.int .i64 ((k : Int) + 1)) := ⟨q, k + 1, P ++ [194, 160], rfl, by go_num, hp.out.two, by show _ = _; rw [hsp.out, HQ1.out]; simp, by simp; omega⟩
          have hm : q.size < r.size := by omega
          first | exact ⟨hfin, hm⟩ | exact ⟨⟨hfin, rfl⟩, hm⟩ | exact ⟨by (repeat apply Exists.intro); first | exact ⟨hfin, rfl⟩ | exact ⟨hfin, trivial⟩, hm⟩
        | false =>
          have HN3 := Lib.hid hb3
          clear hb3
          go_wp2_with fail
          go_ret2
          exact ⟨⟨r, k, P, rfl, hp, hsp, nobl_of HN1.out HN2.out HN3.out, hsz⟩, rfl⟩
end Go.Proofs.Ytebidhdoiojaeaa
