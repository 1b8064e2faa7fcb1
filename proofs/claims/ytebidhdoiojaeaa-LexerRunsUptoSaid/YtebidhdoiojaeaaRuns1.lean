/- LexerRuns: the walk. -/
import Derived.Test.YtebidhdoiojaeaaRunsP
import Derived.Test.YtebidhdoiojaeaaLexL1
import Derived.Test.YtebidhdoiojaeaaNum13
namespace Go.Proofs.Ytebidhdoiojaeaa
open Go.RowKit LexP

/-- Arguments in memory. -/
def RdBo (w : World) (v : Value) (l : List Bool) : Prop := ∃ ao cap, v = .slice ao l.length cap ∧
  ∀ i b, l[i]? = some b → ∃ g o, ao = some ⟨g, o, none⟩ ∧ g < w.heap.size ∧ w.cell? ⟨g, o + i, none⟩ = some (.bool b)
def RdBy (w : World) (v : Value) (l : List UInt8) : Prop := ∃ ao cap, v = .slice ao l.length cap ∧
  ∀ i (b : UInt8), l[i]? = some b → ∃ g o, ao = some ⟨g, o, none⟩ ∧ g < w.heap.size ∧ w.cell? ⟨g, o + i, none⟩ = some (.int .u8 (b.toNat : Nat))

def picked (l : List UInt8) : List Nat := l.map fun b => b.toNat % 10

def PadRel (bs : List Bool) (w : World) (s i : Value) (wr : World) : Prop :=
  ∃ (k : Nat) (r : ByteArray), k ≤ bs.length ∧ i = .int .i64 (k : Nat) ∧ s = .string r ∧ Hid (r.data.toList = padB (bs.take k)) ∧ r.size ≤ 2 * k ∧ Below w.heap.size w wr

def RunRel (ps : List UInt8) (w : World) (s t i : Value) (wr : World) : Prop :=
  ∃ (k : Nat) (r n : ByteArray), k ≤ ps.length ∧ i = .int .i64 (k : Nat) ∧ s = .string r ∧ t = .string n ∧ Hid (r.data.toList = runB (picked (ps.take k))) ∧ Hid (n.data.toList = numB (picked (ps.take k))) ∧
    r.size ≤ 2 * k ∧ n.size ≤ k ∧ Below w.heap.size w wr

theorem pad_snoc (bs : List Bool) (b : Bool) : padB (bs ++ [b]) = padB bs ++ if b then [194, 160] else [32] := by simp [padB]
theorem run_snoc (ps : List UInt8) (b : UInt8) : runB (picked (ps ++ [b])) = runB (picked ps) ++ letter (b.toNat % 10) := by simp [runB, picked]
theorem num_snoc (ps : List UInt8) (b : UInt8) : numB (picked (ps ++ [b])) = numB (picked ps) ++ if numeral (b.toNat % 10) then letter (b.toNat % 10) else [] := by simp [numB, picked]


theorem pad_step {bs : List Bool} {w wr : World} {k : Nat} {r s : ByteArray} {b : Bool} (hk : k < bs.length) (hb : bs[k]? = some b) (hr : Hid (r.data.toList = padB (bs.take k))) (hsz : r.size ≤ 2 * k)
    (hs : s.data.toList = if b then [194, 160] else [32]) (hbel : Below w.heap.size w wr) : PadRel bs w (.string (r ++ s)) (.int .i64 ((k : Int) + 1)) wr := by
  refine ⟨k + 1, r ++ s, by omega, by go_num, rfl, ?_, ?_, hbel⟩
  · show _ = _
    rw [List.take_add_one, hb, Option.toList_some, pad_snoc, ← hr.out, ← hs]; simp
  · have : s.size ≤ 2 := by rw [Lib.size_eq, hs]; cases b <;> decide
    rw [ByteArray.size_append]; omega

theorem run_step {ps : List UInt8} {w wr : World} {k q : Nat} {r n s : ByteArray} {b : UInt8} (hk : k < ps.length) (hb : ps[k]? = some b) (hq : b.toNat % 10 = q)
    (hr : Hid (r.data.toList = runB (picked (ps.take k)))) (hn : Hid (n.data.toList = numB (picked (ps.take k)))) (hsz : r.size ≤ 2 * k) (hnz : n.size ≤ k) (hs : s.data.toList = letter q) (hbel : Below w.heap.size w wr) :
    RunRel ps w (.string (r ++ s)) (.string (if numeral q then n ++ s else n)) (.int .i64 ((k : Int) + 1)) wr := by
  have e : ps.take (k + 1) = ps.take k ++ [b] := by rw [List.take_add_one, hb, Option.toList_some]
  refine ⟨k + 1, r ++ s, _, by omega, by go_num, rfl, rfl, ?_, ?_, ?_, ?_, hbel⟩
  · show _ = _
    rw [e, run_snoc, ← hr.out, hq, ← hs]; simp
  · show _ = _
    rw [e, num_snoc, ← hn.out, hq, ← hs]; cases numeral q <;> simp
  · have := letter_len q
    rw [← hs, ← Lib.size_eq] at this
    rw [ByteArray.size_append]; omega
  · rcases numeral_cases q with ⟨h1, h2⟩ | h1
    · have : s.size ≤ 1 := by rw [Lib.size_eq, hs]; rcases h2 with rfl | rfl | rfl | rfl <;> decide
      rw [h1]; simp only [if_true]; rw [ByteArray.size_append]; omega
    · rw [h1]; simp only [Bool.false_eq_true, if_false]; omega

theorem run_step1 {ps : List UInt8} {w wr : World} {k q : Nat} {r n s : ByteArray} {b : UInt8} (hk : k < ps.length) (hb : ps[k]? = some b) (hq : b.toNat % 10 = q)
    (hr : Hid (r.data.toList = runB (picked (ps.take k)))) (hn : Hid (n.data.toList = numB (picked (ps.take k)))) (hsz : r.size ≤ 2 * k) (hnz : n.size ≤ k) (hs : s.data.toList = letter q) (hbel : Below w.heap.size w wr)
    (h : numeral q = true) : RunRel ps w (.string (r ++ s)) (.string (n ++ s)) (.int .i64 ((k : Int) + 1)) wr := by
  have := run_step hk hb hq hr hn hsz hnz hs hbel
  rw [h] at this; exact this
theorem run_step0 {ps : List UInt8} {w wr : World} {k q : Nat} {r n s : ByteArray} {b : UInt8} (hk : k < ps.length) (hb : ps[k]? = some b) (hq : b.toNat % 10 = q)
    (hr : Hid (r.data.toList = runB (picked (ps.take k)))) (hn : Hid (n.data.toList = numB (picked (ps.take k)))) (hsz : r.size ≤ 2 * k) (hnz : n.size ≤ k) (hs : s.data.toList = letter q) (hbel : Below w.heap.size w wr)
    (h : numeral q = false) : RunRel ps w (.string (r ++ s)) (.string n) (.int .i64 ((k : Int) + 1)) wr := by
  have := run_step hk hb hq hr hn hsz hnz hs hbel
  rw [h] at this; exact this

theorem rem_ten (b : UInt8) (q : Nat) (h : b.toNat % 10 = q) : (wrap64 (b.toNat : Int)).tmod 10 = (q : Int) := by
  have h1 := b.toNat_lt
  have h2 : wrap64 (b.toNat : Int) = b.toNat := by unfold wrap64; omega
  rw [h2, Int.tmod_eq_emod_of_nonneg (by omega)]; omega
theorem ten_cases (q : Nat) (h : q < 10) : q = 0 ∨ q = 1 ∨ q = 2 ∨ q = 3 ∨ q = 4 ∨ q = 5 ∨ q = 6 ∨ q = 7 ∨ q = 8 ∨ q = 9 := by omega
def lettersObj : Obj := .cells #[.string ⟨#[97]⟩, .string ⟨#[90]⟩, .string ⟨#[95]⟩, .string ⟨#[48]⟩, .string ⟨#[57]⟩, .string ⟨#[195, 169]⟩, .string ⟨#[202, 175]⟩, .string ⟨#[205, 191]⟩, .string ⟨#[207, 191]⟩, .string ⟨#[55]⟩] 9

theorem letters_cells (w : World) (r : Nat) (hr : r < 10) : (w.alloc lettersObj).cell? ⟨w.heap.size, r, none⟩ = some (.string ⟨(letter r).toArray⟩) := by
  have := cells_new w [.string ⟨#[97]⟩, .string ⟨#[90]⟩, .string ⟨#[95]⟩, .string ⟨#[48]⟩, .string ⟨#[57]⟩, .string ⟨#[195, 169]⟩, .string ⟨#[202, 175]⟩, .string ⟨#[205, 191]⟩, .string ⟨#[207, 191]⟩, .string ⟨#[55]⟩] 9 w.heap.size rfl r (.string ⟨(letter r).toArray⟩) (by
    match r, hr with
    | 0, _ => rfl | 1, _ => rfl | 2, _ => rfl | 3, _ => rfl | 4, _ => rfl | 5, _ => rfl | 6, _ => rfl | 7, _ => rfl | 8, _ => rfl | 9, _ => rfl)
  rw [Addr.add_lit, Nat.zero_add] at this
  exact this

theorem name_toks {bs : List Bool} {ps : List Nat} {a r : ByteArray} (ha : Hid (a.data.toList = padB bs)) (hr : Hid (r.data.toList = runB ps)) :
    Toks 1 (chars (a ++ ⟨#[120]⟩ ++ r ++ ⟨#[32]⟩).data.toList) = if 32 < r.size + 1 then .error (bs.length + 1, 17) else .ok [(2, 120 :: r.data.toList, bs.length + 1)] := by
  have e : (a ++ ⟨#[120]⟩ ++ r ++ ⟨#[32]⟩).data.toList = padB bs ++ 120 :: (runB ps ++ [32]) := by simp [ha.out, hr.out]
  rw [e, runs_name, Lib.size_eq, hr.out]
theorem bad_toks {bs : List Bool} {ps : List Nat} {a n : ByteArray} (ha : Hid (a.data.toList = padB bs)) (hn : Hid (n.data.toList = numB ps)) :
    Toks 1 (chars (a ++ ⟨#[49]⟩ ++ n ++ ⟨#[32, 255]⟩).data.toList) = if anyBad (49 :: n.data.toList) then .error (bs.length + 1, 7) else .error (bs.length + n.size + 3, 12) := by
  have e : (a ++ ⟨#[49]⟩ ++ n ++ ⟨#[32, 255]⟩).data.toList = padB bs ++ 49 :: (numB ps ++ [32, 255]) := by simp [ha.out, hn.out]
  rw [e, runs_bad _ _ (numB_run ps), badNum_anyBad (by simp), Lib.size_eq, hn.out]
theorem num_toks {bs : List Bool} {ps : List Nat} {a n : ByteArray} (ha : Hid (a.data.toList = padB bs)) (hn : Hid (n.data.toList = numB ps)) :
    Toks 1 (chars (a ++ ⟨#[49]⟩ ++ n).data.toList) = if anyBad (49 :: n.data.toList) then .error (bs.length + 1, 7) else .ok [(1, 49 :: n.data.toList, bs.length + 1)] := by
  have e : (a ++ ⟨#[49]⟩ ++ n).data.toList = padB bs ++ 49 :: numB ps := by simp [ha.out, hn.out]
  rw [e, runs_num _ _ (numB_run ps), badNum_anyBad (by simp), hn.out]
theorem one_data (n : ByteArray) : ((⟨#[49]⟩ : ByteArray) ++ n).data.toList = 49 :: n.data.toList := by simp
theorem front_eq (c : UInt8) (n : ByteArray) : (⟨#[c]⟩ : ByteArray) ++ n = ⟨(c :: n.data.toList).toArray⟩ := by
  apply ByteArray.ext; apply Array.ext'; simp

/-- A list of one token that has just been made. -/
theorem row_tok (w : World) (k c : Nat) (s : ByteArray) (b : Bytes) (x : Value) (h : s = ⟨b.toArray⟩) (hx : x = .int .i64 (c : Nat)) :
    RdTk (w.alloc (.cells #[.int .i64 (k : Nat), .string s, x] 46)) (.slice (some ⟨w.heap.size, 0, none⟩) 1 1) [(k, b, c)] := by
  subst h hx
  refine ⟨rfl, .inr ⟨w.heap.size, 1, _, rfl, Nat.zero_le _, heap_alloc_new w _, Nat.le_refl _, by unfold maxLen; omega, rfl, rfl⟩⟩

set_option maxRecDepth 100000 in
set_option maxHeartbeats 4000000 in
theorem runs_walk (v u : Value) (bs : List Bool) (ps : List UInt8) (w : World) (hv : RdBo w v bs) (hu : RdBy w u ps) (hl : bs.length + ps.length ≤ 1048574) (hx : Lx w) :
    Calls Try.prog 9 #[v, u] w fun e w' => e = .returned (.bool true) ∧ Below w.heap.size w w' := by
  obtain ⟨ao, cap, rfl, hsh⟩ := hv
  obtain ⟨bo, cap2, rfl, hsh2⟩ := hu
  have HS := Lib.hid hsh
  have HS2 := Lib.hid hsh2
  have HX := Lib.hid hx
  clear hsh hsh2 hx
  go_enter Try.func9, Try.ntmps9
  go_wp2_with fail
  refine (awake_any _ HX.out).mono ?_
  rintro e w1 ⟨rfl, hb1⟩
  have HB1 := Lib.hid hb1
  have hz1 := hb1.size
  clear hb1
  go_wp2_with fail
  have he : w1.alloc (Obj.cells #[.string ⟨#[97]⟩, .string ⟨#[90]⟩, .string ⟨#[95]⟩, .string ⟨#[48]⟩, .string ⟨#[57]⟩, .string ⟨#[195, 169]⟩, .string ⟨#[202, 175]⟩, .string ⟨#[205, 191]⟩, .string ⟨#[207, 191]⟩, .string ⟨#[55]⟩] 9) = w1.alloc lettersObj := rfl
  rw [he]
  clear he
  obtain ⟨w2, hw2⟩ : ∃ w2, w2 = w1.alloc lettersObj := ⟨_, rfl⟩
  have HB2 : Hid (Below w.heap.size w w2) := by rw [hw2]; exact HB1.out.alloc hz1 _
  have HLC : Hid (∀ r, r < 10 → w2.cell? ⟨w1.heap.size, r, none⟩ = some (.string ⟨(letter r).toArray⟩)) := by rw [hw2]; exact letters_cells w1
  have hz2 : w2.heap.size = w1.heap.size + 1 := by rw [hw2]; simp
  rw [← hw2]
  clear hw2 HB1
  go_loopw [7, 8] (fun s i wr => PadRel bs w s i wr ∧ wr = w2) (fun _ i _ => bs.length - (intOf i).toNat)
  case atStart => exact ⟨⟨0, .empty, Nat.zero_le _, rfl, rfl, rfl, Nat.zero_le _, HB2.out⟩, rfl⟩
  case round =>
    obtain ⟨⟨k, r, hk, rfl, rfl, hr, hrz, hb⟩, rfl⟩ := hrel
    by_cases hlt : k < bs.length
    · obtain ⟨b, hc⟩ : ∃ c, bs[k]? = some c := ⟨_, List.getElem?_eq_getElem hlt⟩
      obtain ⟨g, o, rfl, hgs, e1⟩ := HS.out k b hc
      rw [← hb.cell (p := ⟨g, _, none⟩) hgs] at e1
      have HC := Lib.hid hc
      have HB := Lib.hid hb
      clear hc HS hb
      cases b with
      | true =>
        go_wp2_with fail
        have hfin := (pad_step (s := ⟨#[194, 160]⟩) hlt HC.out hr hrz rfl HB.out)
        first | exact ⟨hfin, by simp [intOf]; omega⟩ | exact ⟨by (repeat apply Exists.intro); first | exact ⟨hfin, rfl⟩ | exact ⟨hfin, trivial⟩, by simp [intOf]; omega⟩
      | false =>
        go_wp2_with fail
        have hfin := (pad_step (s := ⟨#[32]⟩) hlt HC.out hr hrz rfl HB.out)
        first | exact ⟨hfin, by simp [intOf]; omega⟩ | exact ⟨by (repeat apply Exists.intro); first | exact ⟨hfin, rfl⟩ | exact ⟨hfin, trivial⟩, by simp [intOf]; omega⟩
    · obtain rfl : k = bs.length := by omega
      have HA : Hid (r.data.toList = padB bs) := by have := hr.out; rw [List.take_length] at this; exact this
      have HB := Lib.hid hb
      clear hr hb HS hlt hk
      go_wp2_with fail
      go_loopw [9, 10, 11] (fun s t i wr' => RunRel ps w s t i wr' ∧ wr' = wr) (fun _ _ i _ => ps.length - (intOf i).toNat)
      case atStart => exact ⟨⟨0, .empty, .empty, Nat.zero_le _, rfl, rfl, rfl, rfl, rfl, Nat.zero_le _, Nat.zero_le _, HB.out⟩, rfl⟩
      case round =>
        obtain ⟨⟨k, r2, n, hk, rfl, rfl, rfl, hr2, hn, hr2z, hnz, hb⟩, rfl⟩ := hrel
        clear hb
        by_cases hlt : k < ps.length
        · obtain ⟨b, hc⟩ : ∃ c, ps[k]? = some c := ⟨_, List.getElem?_eq_getElem hlt⟩
          obtain ⟨g, o, rfl, hgs, e1⟩ := HS2.out k b hc
          rw [← HB.out.cell (p := ⟨g, _, none⟩) hgs] at e1
          have HC := Lib.hid hc
          clear hc HS2 HA
          obtain ⟨q, hq⟩ : ∃ q, b.toNat % 10 = q := ⟨_, rfl⟩
          have hq10 : q < 10 := by omega
          have HQ := Lib.hid hq
          have hrem : (wrap64 (b.toNat : Int)).tmod 10 = (q : Int) := rem_ten b q hq
          have e2 := HLC.out q hq10
          clear hq
          have hcs : q = 0 ∨ q = 1 ∨ q = 2 ∨ q = 3 ∨ q = 4 ∨ q = 5 ∨ q = 6 ∨ q = 7 ∨ q = 8 ∨ q = 9 := ten_cases q hq10
          clear hq10
          rcases hcs with rfl | rfl | rfl | rfl | rfl | rfl | rfl | rfl | rfl | rfl
          · simp only [letter] at e2
            have hrem0 : (wrap64 (b.toNat : Int)).tmod 10 = 0 := hrem
            clear hrem
            go_wp2_with fail
            have hfin := (run_step0 (s := ⟨#[97]⟩) hlt HC.out HQ.out hr2 hn hr2z hnz rfl HB.out rfl)
            first | exact ⟨hfin, by simp [intOf]; omega⟩ | exact ⟨by (repeat apply Exists.intro); first | exact ⟨hfin, rfl⟩ | exact ⟨hfin, trivial⟩, by simp [intOf]; omega⟩
          · simp only [letter] at e2
            have hrem1 : (wrap64 (b.toNat : Int)).tmod 10 = 1 := hrem
            clear hrem
            go_wp2_with fail
            have hfin := (run_step0 (s := ⟨#[90]⟩) hlt HC.out HQ.out hr2 hn hr2z hnz rfl HB.out rfl)
            first | exact ⟨hfin, by simp [intOf]; omega⟩ | exact ⟨by (repeat apply Exists.intro); first | exact ⟨hfin, rfl⟩ | exact ⟨hfin, trivial⟩, by simp [intOf]; omega⟩
          · simp only [letter] at e2
            have hrem2 : (wrap64 (b.toNat : Int)).tmod 10 = 2 := hrem
            clear hrem
            go_wp2_with fail
            have hfin := (run_step1 (s := ⟨#[95]⟩) hlt HC.out HQ.out hr2 hn hr2z hnz rfl HB.out rfl)
            first | exact ⟨hfin, by simp [intOf]; omega⟩ | exact ⟨by (repeat apply Exists.intro); first | exact ⟨hfin, rfl⟩ | exact ⟨hfin, trivial⟩, by simp [intOf]; omega⟩
          · simp only [letter] at e2
            have hrem3 : (wrap64 (b.toNat : Int)).tmod 10 = 3 := hrem
            clear hrem
            go_wp2_with fail
            have hfin := (run_step1 (s := ⟨#[48]⟩) hlt HC.out HQ.out hr2 hn hr2z hnz rfl HB.out rfl)
            first | exact ⟨hfin, by simp [intOf]; omega⟩ | exact ⟨by (repeat apply Exists.intro); first | exact ⟨hfin, rfl⟩ | exact ⟨hfin, trivial⟩, by simp [intOf]; omega⟩
          · simp only [letter] at e2
            have hrem4 : (wrap64 (b.toNat : Int)).tmod 10 = 4 := hrem
            clear hrem
            go_wp2_with fail
            have hfin := (run_step1 (s := ⟨#[57]⟩) hlt HC.out HQ.out hr2 hn hr2z hnz rfl HB.out rfl)
            first | exact ⟨hfin, by simp [intOf]; omega⟩ | exact ⟨by (repeat apply Exists.intro); first | exact ⟨hfin, rfl⟩ | exact ⟨hfin, trivial⟩, by simp [intOf]; omega⟩
          · simp only [letter] at e2
            have hrem5 : (wrap64 (b.toNat : Int)).tmod 10 = 5 := hrem
            clear hrem
            go_wp2_with fail
            have hfin := (run_step0 (s := ⟨#[195, 169]⟩) hlt HC.out HQ.out hr2 hn hr2z hnz rfl HB.out rfl)
            first | exact ⟨hfin, by simp [intOf]; omega⟩ | exact ⟨by (repeat apply Exists.intro); first | exact ⟨hfin, rfl⟩ | exact ⟨hfin, trivial⟩, by simp [intOf]; omega⟩
          · simp only [letter] at e2
            have hrem6 : (wrap64 (b.toNat : Int)).tmod 10 = 6 := hrem
            clear hrem
            go_wp2_with fail
            have hfin := (run_step0 (s := ⟨#[202, 175]⟩) hlt HC.out HQ.out hr2 hn hr2z hnz rfl HB.out rfl)
            first | exact ⟨hfin, by simp [intOf]; omega⟩ | exact ⟨by (repeat apply Exists.intro); first | exact ⟨hfin, rfl⟩ | exact ⟨hfin, trivial⟩, by simp [intOf]; omega⟩
          · simp only [letter] at e2
            have hrem7 : (wrap64 (b.toNat : Int)).tmod 10 = 7 := hrem
            clear hrem
            go_wp2_with fail
            have hfin := (run_step0 (s := ⟨#[205, 191]⟩) hlt HC.out HQ.out hr2 hn hr2z hnz rfl HB.out rfl)
            first | exact ⟨hfin, by simp [intOf]; omega⟩ | exact ⟨by (repeat apply Exists.intro); first | exact ⟨hfin, rfl⟩ | exact ⟨hfin, trivial⟩, by simp [intOf]; omega⟩
          · simp only [letter] at e2
            have hrem8 : (wrap64 (b.toNat : Int)).tmod 10 = 8 := hrem
            clear hrem
            go_wp2_with fail
            have hfin := (run_step0 (s := ⟨#[207, 191]⟩) hlt HC.out HQ.out hr2 hn hr2z hnz rfl HB.out rfl)
            first | exact ⟨hfin, by simp [intOf]; omega⟩ | exact ⟨by (repeat apply Exists.intro); first | exact ⟨hfin, rfl⟩ | exact ⟨hfin, trivial⟩, by simp [intOf]; omega⟩
          · simp only [letter] at e2
            have hrem9 : (wrap64 (b.toNat : Int)).tmod 10 = 9 := hrem
            clear hrem
            go_wp2_with fail
            have hfin := (run_step1 (s := ⟨#[55]⟩) hlt HC.out HQ.out hr2 hn hr2z hnz rfl HB.out rfl)
            first | exact ⟨hfin, by simp [intOf]; omega⟩ | exact ⟨by (repeat apply Exists.intro); first | exact ⟨hfin, rfl⟩ | exact ⟨hfin, trivial⟩, by simp [intOf]; omega⟩
        · obtain rfl : k = ps.length := by omega
          have HR2 : Hid (r2.data.toList = runB (picked ps)) := by have := hr2.out; rw [List.take_length] at this; exact this
          have HN : Hid (n.data.toList = numB (picked ps)) := by have := hn.out; rw [List.take_length] at this; exact this
          clear hr2 hn HS2 HLC hlt hk
          have hzz := HB.out.size
          go_wp2_with fail
          refine (tokens_big (r ++ _ ++ r2 ++ _) _ (by simp only [ByteArray.size_append]; show r.size + 1 + r2.size + 1 ≤ _; omega) (HX.out.below HB.out)).mono ?_
          rintro e w3 ⟨vx, rfl, hox, hb3⟩
          rw [name_toks HA HR2] at hox ⊢
          have HB3 : Hid (Below w.heap.size w w3) := HB.out.trans (hb3.mono hzz)
          have HX3 := Lib.hid (HX.out.below HB3.out)
          clear hb3
          by_cases h32 : 32 < r2.size + 1
          · rw [if_pos h32] at hox ⊢
            obtain ⟨aox, capx, rfl, hnx, hcx, -⟩ := ownsRow_shape hox
            simp only [resCol_error, resErr_error, resTok_error, List.length_nil] at hnx ⊢
            clear hox hnx hcx
            go_wp2_with fail
            refine (readGrouped_any (_ ++ n) _ (by rw [ByteArray.size_append]; show 1 + n.size ≤ _; omega) (by rw [ByteArray.size_append]; show 0 < 1 + n.size; omega) (by rw [one_data, HN.out]; exact numRun_one (numB_run _))).mono ?_
            rintro e w5 hgr
            rw [one_data] at hgr
            have hzt := HB3.out.size
            rcases hgr with ⟨ha, rfl, hb5⟩ | ⟨ha, y, xs, rfl, -, -, -, hb5⟩
            · have HA5 := Lib.hid ha
              have HB5 : Hid (Below w.heap.size w w5) := HB3.out.trans (hb5.mono hzt)
              have hz5 := HB5.out.size
              clear ha hb5
              go_wp2_with fail
              refine (tokens_big (r ++ _ ++ n ++ _) _ (by simp only [ByteArray.size_append]; show r.size + 1 + n.size + 2 ≤ _; omega) (HX.out.below HB5.out)).mono ?_
              rintro e w6 ⟨vy, rfl, hoy, hb6⟩
              rw [bad_toks HA HN, if_pos HA5.out] at hoy ⊢
              have HB6 : Hid (Below w.heap.size w w6) := HB5.out.trans (hb6.mono hz5)
              obtain ⟨aoy, capy, rfl, hny, hcy, -⟩ := ownsRow_shape hoy
              simp only [resCol_error, resErr_error, resTok_error, List.length_nil] at hny ⊢
              clear hoy hny hcy hb6
              go_wp2_with fail
              go_ret
              exact ⟨rfl, HB6.out⟩
            · have HA5 := Lib.hid ha
              have HB5 : Hid (Below w.heap.size w w5) := HB3.out.trans (hb5.mono hzt)
              have hz5 := HB5.out.size
              clear ha hb5
              go_wp2_with fail
              refine (tokens_big (r ++ _ ++ n ++ _) _ (by simp only [ByteArray.size_append]; show r.size + 1 + n.size + 2 ≤ _; omega) (HX.out.below HB5.out)).mono ?_
              rintro e w6 ⟨vy, rfl, hoy, hb6⟩
              rw [bad_toks HA HN, HA5.out] at hoy ⊢
              have HB6 : Hid (Below w.heap.size w w6) := HB5.out.trans (hb6.mono hz5)
              have hz6 := HB6.out.size
              obtain ⟨aoy, capy, rfl, hny, hcy, -⟩ := ownsRow_shape hoy
              simp only [resCol_error, resErr_error, resTok_error, List.length_nil, Bool.false_eq_true, if_false] at hny ⊢
              clear hoy hny hcy hb6
              have g1 : ((((bs.length + n.size + 3 : Nat) : Int)) != (bs.length : Int) + (n.size : Int) + 3) = false := by simp
              go_wp2_with fail
              refine (tokens_big (r ++ _ ++ n) _ (by simp only [ByteArray.size_append]; show r.size + 1 + n.size ≤ _; omega) (HX.out.below HB6.out)).mono ?_
              rintro e w7 ⟨vz, rfl, hoz, hb7⟩
              rw [num_toks HA HN, HA5.out] at hoz ⊢
              have HB7 : Hid (Below w.heap.size w w7) := HB6.out.trans (hb7.mono hz6)
              have hz7 := HB7.out.size
              simp only [resCol_ok, resErr_ok, resTok_ok, Bool.false_eq_true, if_false] at hoz ⊢
              have HOZ : Hid (RdTk w7 vz [(1, 49 :: n.data.toList, bs.length + 1)]) := ownsRow_mono hoz (Nat.zero_le _)
              clear hoz hb7
              go_wp2_with fail
              refine (tokens_same _ _ [(1, 49 :: n.data.toList, bs.length + 1)] _ (HOZ.out.below ((Below.refl _ _).alloc (Nat.le_refl _) _)) (row_tok _ 1 (bs.length + 1) _ _ _ (front_eq 49 n) (by go_num))).mono ?_
              rintro e w8 ⟨rfl, hb8⟩
              have HB8 : Hid (Below w.heap.size w w8) := (HB7.out.alloc hz7 _).trans (hb8.mono (Nat.le_trans hz7 (by simp)))
              clear hb8
              go_wp2_with fail
              go_ret
              exact ⟨rfl, HB8.out⟩
          · rw [if_neg h32] at hox ⊢
            simp only [resCol_ok, resErr_ok, resTok_ok] at hox ⊢
            have HOX : Hid (RdTk w3 vx [(2, 120 :: r2.data.toList, bs.length + 1)]) := ownsRow_mono hox (Nat.zero_le _)
            have hz3 := HB3.out.size
            clear hox
            go_wp2_with fail
            refine (tokens_same _ _ [(2, 120 :: r2.data.toList, bs.length + 1)] _ (HOX.out.below ((Below.refl _ _).alloc (Nat.le_refl _) _)) (row_tok _ 2 (bs.length + 1) _ _ _ (front_eq 120 r2) (by go_num))).mono ?_
            rintro e w4 ⟨rfl, hb4⟩
            have HB4 : Hid (Below w.heap.size w w4) := (HB3.out.alloc hz3 _).trans (hb4.mono (Nat.le_trans hz3 (by simp)))
            clear hb4
            go_wp2_with fail
            refine (readGrouped_any (_ ++ n) _ (by rw [ByteArray.size_append]; show 1 + n.size ≤ _; omega) (by rw [ByteArray.size_append]; show 0 < 1 + n.size; omega) (by rw [one_data, HN.out]; exact numRun_one (numB_run _))).mono ?_
            rintro e w5 hgr
            rw [one_data] at hgr
            have hzt := HB4.out.size
            rcases hgr with ⟨ha, rfl, hb5⟩ | ⟨ha, y, xs, rfl, -, -, -, hb5⟩
            · have HA5 := Lib.hid ha
              have HB5 : Hid (Below w.heap.size w w5) := HB4.out.trans (hb5.mono hzt)
              have hz5 := HB5.out.size
              clear ha hb5
              go_wp2_with fail
              refine (tokens_big (r ++ _ ++ n ++ _) _ (by simp only [ByteArray.size_append]; show r.size + 1 + n.size + 2 ≤ _; omega) (HX.out.below HB5.out)).mono ?_
              rintro e w6 ⟨vy, rfl, hoy, hb6⟩
              rw [bad_toks HA HN, if_pos HA5.out] at hoy ⊢
              have HB6 : Hid (Below w.heap.size w w6) := HB5.out.trans (hb6.mono hz5)
              obtain ⟨aoy, capy, rfl, hny, hcy, -⟩ := ownsRow_shape hoy
              simp only [resCol_error, resErr_error, resTok_error, List.length_nil] at hny ⊢
              clear hoy hny hcy hb6
              go_wp2_with fail
              go_ret
              exact ⟨rfl, HB6.out⟩
            · have HA5 := Lib.hid ha
              have HB5 : Hid (Below w.heap.size w w5) := HB4.out.trans (hb5.mono hzt)
              have hz5 := HB5.out.size
              clear ha hb5
              go_wp2_with fail
              refine (tokens_big (r ++ _ ++ n ++ _) _ (by simp only [ByteArray.size_append]; show r.size + 1 + n.size + 2 ≤ _; omega) (HX.out.below HB5.out)).mono ?_
              rintro e w6 ⟨vy, rfl, hoy, hb6⟩
              rw [bad_toks HA HN, HA5.out] at hoy ⊢
              have HB6 : Hid (Below w.heap.size w w6) := HB5.out.trans (hb6.mono hz5)
              have hz6 := HB6.out.size
              obtain ⟨aoy, capy, rfl, hny, hcy, -⟩ := ownsRow_shape hoy
              simp only [resCol_error, resErr_error, resTok_error, List.length_nil, Bool.false_eq_true, if_false] at hny ⊢
              clear hoy hny hcy hb6
              have g1 : ((((bs.length + n.size + 3 : Nat) : Int)) != (bs.length : Int) + (n.size : Int) + 3) = false := by simp
              go_wp2_with fail
              refine (tokens_big (r ++ _ ++ n) _ (by simp only [ByteArray.size_append]; show r.size + 1 + n.size ≤ _; omega) (HX.out.below HB6.out)).mono ?_
              rintro e w7 ⟨vz, rfl, hoz, hb7⟩
              rw [num_toks HA HN, HA5.out] at hoz ⊢
              have HB7 : Hid (Below w.heap.size w w7) := HB6.out.trans (hb7.mono hz6)
              have hz7 := HB7.out.size
              simp only [resCol_ok, resErr_ok, resTok_ok, Bool.false_eq_true, if_false] at hoz ⊢
              have HOZ : Hid (RdTk w7 vz [(1, 49 :: n.data.toList, bs.length + 1)]) := ownsRow_mono hoz (Nat.zero_le _)
              clear hoz hb7
              go_wp2_with fail
              refine (tokens_same _ _ [(1, 49 :: n.data.toList, bs.length + 1)] _ (HOZ.out.below ((Below.refl _ _).alloc (Nat.le_refl _) _)) (row_tok _ 1 (bs.length + 1) _ _ _ (front_eq 49 n) (by go_num))).mono ?_
              rintro e w8 ⟨rfl, hb8⟩
              have HB8 : Hid (Below w.heap.size w w8) := (HB7.out.alloc hz7 _).trans (hb8.mono (Nat.le_trans hz7 (by simp)))
              clear hb8
              go_wp2_with fail
              go_ret
              exact ⟨rfl, HB8.out⟩
end Go.Proofs.Ytebidhdoiojaeaa
