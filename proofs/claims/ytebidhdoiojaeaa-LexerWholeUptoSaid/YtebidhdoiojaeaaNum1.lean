/- Walks of the numbers' smallest functions: nat.size, mulnat.trim, nat.own, nat.Least. -/
import Derived.Test.YtebidhdoiojaeaaNatP
import Derived.Test.YtebidhdoiojaeaaLexMem
import Derived.Test.YtebidhdoiojaeaaChecked
import Derived.WalkKit
import Derived.WalkSpells
import Derived.Handy
import Derived.BigQuiet
import Derived.Deep.QuietTactic
import Derived.Lib.Hide
import Derived.Below
import Derived.Laws.CopyOwn
import Derived.Laws.OwnMore
import Derived.Deep.OwnRows
namespace Go.Proofs.Ytebidhdoiojaeaa
open Go.RowKit NatP LexP

theorem ret_i64' {a b : Int} (h : a = b) : Ending.returned (.int .i64 a) = .returned (.int .i64 b) := by rw [h]

def ws (l : List Nat) : List Value := l.map fun d => .int .u64 (d : Nat)
theorem ws_length (l : List Nat) : (ws l).length = l.length := by simp [ws]
theorem ws_at {l : List Nat} {i x : Nat} (h : l[i]? = some x) : (ws l)[i]? = some (.int .u64 (x : Nat)) := by simp [ws, h]
theorem ws_one (l : List Nat) : ∀ u ∈ ws l, u.oneCell' = true := by
  intro u hu; simp only [ws, List.mem_map] at hu; obtain ⟨d, _, rfl⟩ := hu; rfl
theorem Try.infoW : (Try.prog.info? 89).map (fun i => (i.zero, i.size, i.bytes)) = some (some (.int .u64 0), 1, 8) := by kernel_rfl
theorem Try.infoW1 : (Try.prog.info? 89).map (·.size) = some 1 := by kernel_rfl

/-- A slice of words, to be read. -/
def Rd (w : World) (v : Value) (xs : List Nat) : Prop :=
  (∀ k, v.ownBlock = some k → k < w.heap.size) ∧ ∃ ao cap, v = .slice ao xs.length cap ∧ xs.length ≤ cap ∧ cap ≤ maxLen ∧ ok xs ∧ ∀ i x, xs[i]? = some x → ∃ g o, ao = some ⟨g, o, none⟩ ∧ w.cell? ⟨g, o + i, none⟩ = some (.int .u64 (x : Nat))

theorem Rd.kept {w w' : World} {v : Value} {xs : List Nat} {row : Option Nat} (h : Rd w v xs) (hg : w.grownBy w' row) (hne : ∀ k, row = some k → v.ownBlock ≠ some k) : Rd w' v xs := by
  obtain ⟨h0, ao, cap, rfl, h1, h2, h3, h4⟩ := h
  refine ⟨fun k hk => Nat.lt_of_lt_of_le (h0 k hk) hg.size, ao, cap, rfl, h1, h2, h3, fun i x hx => ?_⟩
  obtain ⟨g, o, rfl, hc⟩ := h4 i x hx
  exact ⟨g, o, rfl, hg.cell hc (fun e => hne g e.symm rfl)⟩
theorem Rd.below {w w' : World} {v : Value} {xs : List Nat} (h : Rd w v xs) (hb : Below w.heap.size w w') : Rd w' v xs :=
  h.kept (row := none) ⟨hb.os, hb.tape, hb.output, hb.size, fun k hk _ => hb.block k hk⟩ (fun k hk => by cases hk)
theorem Rd.drewN {w : World} {v : Value} {xs : List Nat} (h : Rd w v xs) (n : Nat) : Rd (w.drewN n) v xs :=
  h.below ⟨rfl, rfl, rfl, Nat.le_refl _, fun _ _ => rfl⟩
theorem Rd.alloc {w : World} {v : Value} {xs : List Nat} (h : Rd w v xs) (o : Obj) : Rd (w.alloc o) v xs :=
  h.below ((Below.refl _ _).alloc (Nat.le_refl _) o)
theorem Rd.nil (w : World) : Rd w (.slice none 0 0) [] := ⟨fun k hk => (by cases hk), none, 0, rfl, Nat.le_refl _, Nat.zero_le _, ok_nil, fun i x h => by simp at h⟩
theorem Rd.take {w : World} {ao : Option Addr} {len cap n c : Nat} {xs : List Nat} (h : Rd w (.slice ao len cap) xs) (hn : n ≤ xs.length) (hc : n ≤ c) (hm : c ≤ cap) : Rd w (.slice ao n c) (xs.take n) := by
  obtain ⟨h0, ao', cap', e, h1, h2, h3, h4⟩ := h
  simp only [Value.slice.injEq] at e
  obtain ⟨rfl, rfl, rfl⟩ := e
  refine ⟨fun k hk => h0 k (by cases ao <;> first | exact hk | cases hk), ao, c, by rw [List.length_take, Nat.min_eq_left hn], by rw [List.length_take]; omega, by omega, ok_take h3 _, fun i x hx => ?_⟩
  rw [List.getElem?_take] at hx
  split at hx
  · exact h4 i x hx
  · cases hx
theorem Rd.lt {w : World} {v : Value} {xs : List Nat} (h : Rd w v xs) {k : Nat} (hk : v.ownBlock = some k) : k < w.heap.size := h.1 k hk
theorem Rd.ne {w : World} {v : Value} {xs : List Nat} (h : Rd w v xs) {g : Nat} (hg : w.heap.size ≤ g) : v.ownBlock ≠ some g := fun e => by have := h.1 g e; omega

/-- A block of words of one's own, whole. -/
def Blk (w : World) (g : Nat) (L : List Nat) : Prop := w.heap[g]? = some (.cells (ws L).toArray 89 (0, 0)) ∧ ok L
theorem Blk.lt {w : World} {g : Nat} {L : List Nat} (h : Blk w g L) : g < w.heap.size := (Array.getElem?_eq_some_iff.1 h.1).1
theorem Blk.cell {w : World} {g : Nat} {L : List Nat} (h : Blk w g L) {i x : Nat} (hx : L[i]? = some x) : w.cell? ⟨g, i, none⟩ = some (.int .u64 (x : Nat)) := by
  rw [cell_of_row w g i _ _ _ h.1]; simp [ws, hx]
theorem Blk.frozen {w : World} {g : Nat} {L : List Nat} (h : Blk w g L) (i : Nat) : w.frozen? ⟨g, i, none⟩ = false := frozen_of_row w g i _ _ h.1
theorem Blk.set {w : World} {g : Nat} {L : List Nat} (h : Blk w g L) (i : Nat) {x : Nat} (hx : x < BB) : Blk (w.setCell ⟨g, i, none⟩ (.int .u64 (x : Nat))) g (L.set i x) ∧ w.grownBy (w.setCell ⟨g, i, none⟩ (.int .u64 (x : Nat))) (some g) := by
  refine ⟨⟨?_, ok_set h.2 i hx⟩, ⟨rfl, rfl, rfl, by simp, fun k _ hk => heap_setCell_other w ⟨g, i, none⟩ k _ (fun e => hk (by simp [e]))⟩⟩
  have := heap_setCell_same w g i (ws L).toArray 89 (.int .u64 (x : Nat)) h.1
  rw [this]
  simp [ws, List.map_set]
theorem Blk.kept {w w' : World} {g : Nat} {L : List Nat} {row : Option Nat} (h : Blk w g L) (hg : w.grownBy w' row) (hne : row ≠ some g) : Blk w' g L :=
  ⟨(hg.block g h.lt (fun e => hne e.symm)).trans h.1, h.2⟩
theorem Blk.below {w w' : World} {g B : Nat} {L : List Nat} (h : Blk w g L) (hb : Below B w w') (hB : g < B) : Blk w' g L := ⟨(hb.block g hB).trans h.1, h.2⟩
theorem Blk.rd {w : World} {g : Nat} {L : List Nat} (h : Blk w g L) {o n c : Nat} (ho : o + n ≤ L.length) (hnc : n ≤ c) (hc : c ≤ maxLen) : Rd w (.slice (some ⟨g, o, none⟩) n c) ((L.drop o).take n) := by
  refine ⟨fun k hk => by cases hk; exact h.lt, _, c, by rw [List.length_take, List.length_drop, Nat.min_eq_left (by omega)], by rw [List.length_take]; omega, hc, ok_take (ok_drop h.2 _) _, fun i x hx => ⟨g, o, rfl, h.cell ?_⟩⟩
  rw [List.getElem?_take] at hx
  split at hx
  · rw [List.getElem?_drop] at hx; exact hx
  · cases hx
theorem Blk.made (w : World) (n : Nat) : Blk (w.alloc (.cells (madeCells #[.int .u64 0] n) 89)) w.heap.size (List.replicate n 0) := by
  refine ⟨?_, ok_replicate n⟩
  have h1 : (w.alloc (.cells (madeCells #[.int .u64 0] n) 89)).heap[w.heap.size]? = some (.cells (madeCells #[.int .u64 0] n) 89 (0, 0)) := by first | exact heap_alloc_new w _
  rw [h1]
  have h2 := toList_madeCells_one (.int .u64 0) n
  have h3 : madeCells #[Value.int .u64 0] n = (ws (List.replicate n 0)).toArray := by
    apply Array.toList_inj.1
    rw [h2]; simp [ws]
  rw [h3]

/-- A slice of words in memory that was made from block B on. -/
def Fr (B : Nat) (w : World) (v : Value) (xs : List Nat) : Prop := Rd w v xs ∧ ∀ k, v.ownBlock = some k → B ≤ k ∧ k < w.heap.size
theorem Fr.below {B : Nat} {w w' : World} {v : Value} {xs : List Nat} (h : Fr B w v xs) (hb : Below w.heap.size w w') : Fr B w' v xs := ⟨h.1.below hb, fun k hk => ⟨(h.2 k hk).1, Nat.lt_of_lt_of_le (h.2 k hk).2 hb.size⟩⟩
theorem Fr.mono {B B' : Nat} {w : World} {v : Value} {xs : List Nat} (h : Fr B w v xs) (hb : B' ≤ B) : Fr B' w v xs := ⟨h.1, fun k hk => ⟨Nat.le_trans hb (h.2 k hk).1, (h.2 k hk).2⟩⟩

def NewPost (xs : List Nat) (w : World) (e : Ending) (w' : World) : Prop := ∃ v, e = .returned v ∧ Fr w.heap.size w' v xs ∧ Below w.heap.size w w'

set_option maxRecDepth 100000 in
set_option maxHeartbeats 1000000 in
theorem size_any (v : Value) (xs : List Nat) (w : World) (hr : Rd w v xs) :
    Calls Try.prog 84 #[v] w fun e w' => e = .returned (.int .i64 ((strip xs).length : Nat)) ∧ w = w' := by
  obtain ⟨ao, cap, rfl, hnc, hcm, hok, hsh⟩ := hr.2
  have HS := Lib.hid hsh
  have hm : xs.length ≤ 9223372036854775807 := by unfold maxLen at hcm; omega
  clear hsh hcm hok
  go_enter Try.func84, Try.ntmps84
  go_wp2_with fail
  go_loop [3] (fun i => ∃ n : Nat, n ≤ xs.length ∧ i = .int .i64 (n : Nat) ∧ strip (xs.take n) = strip xs) (fun i => (intOf i).toNat)
  case atStart => exact ⟨xs.length, Nat.le_refl _, rfl, by rw [List.take_length]⟩
  case round =>
    obtain ⟨n, hn, rfl, hst⟩ := hrel
    have HST := Lib.hid hst
    clear hst
    cases n with
    | zero =>
      have HE := Lib.hid (strip_stop hn HST.out (.inl rfl))
      go_wp2_with fail
      go_ret
      exact ⟨ret_i64' (by rw [HE.out]; rfl), rfl⟩
    | succ m =>
      obtain ⟨x, hx⟩ : ∃ x, xs[m]? = some x := ⟨_, List.getElem?_eq_getElem (by omega)⟩
      obtain ⟨g, o, rfl, e1⟩ := HS.out m x hx
      have HX := Lib.hid hx
      clear hx
      by_cases h0 : x = 0
      · have h1 : ((x : Int) == 0) = true := by simp [h0]
        have HN : Hid (strip (xs.take m) = strip xs) := by
          rcases strip_step hn HST.out (fun m' e => by cases e; rw [HX.out, h0]) with h | h
          · cases h
          · exact h
        clear h0
        go_wp2_with fail
        go_round
        case rel => exact ⟨m, by omega, by first | rfl | go_num, HN.out⟩
        case measure => simp [intOf] <;> omega
      · have h1 : ((x : Int) == 0) = false := by simp [h0]
        have HE := Lib.hid (strip_stop hn HST.out (.inr ⟨m, x, rfl, HX.out, h0⟩))
        clear h0
        go_wp2_with fail
        go_ret
        exact ⟨ret_i64' (by rw [HE.out] <;> first | rfl | omega), rfl⟩

set_option maxRecDepth 100000 in
set_option maxHeartbeats 1000000 in
theorem mtrim_any (ao : Option Addr) (cap : Nat) (xs : List Nat) (w : World) (hr : Rd w (.slice ao xs.length cap) xs) :
    Calls Try.prog 89 #[.slice ao xs.length cap] w fun e w' => e = .returned (.slice ao (strip xs).length (strip xs).length) ∧ w = w' := by
  obtain ⟨ao, cap, e, hnc, hcm, hok, hsh⟩ := hr.2
  simp only [Value.slice.injEq] at e
  obtain ⟨rfl, -, rfl⟩ := e
  have HS := Lib.hid hsh
  have hm : cap ≤ 9223372036854775807 := by unfold maxLen at hcm; omega
  clear hsh hcm hok
  go_enter Try.func89, Try.ntmps89
  go_wp2_with fail
  go_loop [3] (fun i => ∃ n : Nat, n ≤ xs.length ∧ i = .int .i64 (n : Nat) ∧ strip (xs.take n) = strip xs) (fun i => (intOf i).toNat)
  case atStart => exact ⟨xs.length, Nat.le_refl _, rfl, by rw [List.take_length]⟩
  case round =>
    obtain ⟨n, hn, rfl, hst⟩ := hrel
    have HST := Lib.hid hst
    clear hst
    cases n with
    | zero =>
      have HE := Lib.hid (strip_stop hn HST.out (.inl rfl))
      go_wp2_with fail
      go_ret
      exact ⟨by first | (rw [HE.out]; done) | (rw [HE.out]; rfl), rfl⟩
    | succ m =>
      obtain ⟨x, hx⟩ : ∃ x, xs[m]? = some x := ⟨_, List.getElem?_eq_getElem (by omega)⟩
      obtain ⟨g, o, rfl, e1⟩ := HS.out m x hx
      have HX := Lib.hid hx
      clear hx
      by_cases h0 : x = 0
      · have h1 : ((x : Int) == 0) = true := by simp [h0]
        have HN : Hid (strip (xs.take m) = strip xs) := by
          rcases strip_step hn HST.out (fun m' e => by cases e; rw [HX.out, h0]) with h | h
          · cases h
          · exact h
        clear h0
        go_wp2_with fail
        go_round
        case rel => exact ⟨m, by omega, by first | rfl | go_num, HN.out⟩
        case measure => simp [intOf] <;> omega
      · have h1 : ((x : Int) == 0) = false := by simp [h0]
        have HE := Lib.hid (strip_stop hn HST.out (.inr ⟨m, x, rfl, HX.out, h0⟩))
        clear h0
        go_wp2_with fail
        go_ret
        exact ⟨by first | (rw [HE.out]; done) | (rw [HE.out]; rfl), rfl⟩

theorem trim_rd {ao : Option Addr} {cap : Nat} {xs : List Nat} {w : World} (hr : Rd w (.slice ao xs.length cap) xs) : Rd w (.slice ao (strip xs).length (strip xs).length) (strip xs) := by
  have h1 := strip_take xs
  have h2 := hr
  obtain ⟨ao', cap', e, hnc, -, -, -⟩ := h2.2
  simp only [Value.slice.injEq] at e
  obtain ⟨rfl, -, rfl⟩ := e
  have := hr.take (n := (strip xs).length) (c := (strip xs).length) h1.2 (Nat.le_refl _) (Nat.le_trans h1.2 hnc)
  rw [← h1.1] at this
  exact this
end Go.Proofs.Ytebidhdoiojaeaa
