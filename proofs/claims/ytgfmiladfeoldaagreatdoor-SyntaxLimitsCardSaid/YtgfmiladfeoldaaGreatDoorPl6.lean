/- Joined texts of this claim's proof: Div64P, Num1, DivW1. -/
import Derived.Test.YtgfmiladfeoldaaGreatDoorPl5
import Derived.Test.YtgfmiladfeoldaaGreatDoorPl2
import Derived.Test.YtgfmiladfeoldaaGreatDoorChecked
import Derived.WalkKit
import Derived.WalkSpells
import Derived.Handy
import Derived.BigQuiet
import Derived.Deep.QuietTactic
import Derived.Lib.Hide
import Derived.Below
import Derived.Laws.CopyOwn
import Derived.Laws.OwnMore
import Derived.Deep.OwnRows
import Derived.Test.YtgfmiladfeoldaaGreatDoorPl1
import Derived.Lib.EndianBits
set_option linter.unusedSimpArgs false
set_option linter.unusedVariables false
namespace NatP
theorem dg_exit {W u1 v1 v0 d rest b : Nat} (h : d * v1 + rest = W) (ht : d * v0 ≤ rest * b + u1) (hg : (W * b + u1) / (v1 * b + v0) ≤ d) (hv : 0 < v1 * b + v0) : (W * b + u1) / (v1 * b + v0) = d := by
 refine Nat.le_antisymm hg ?_
 rw [Nat.le_div_iff_mul_le hv, Nat.mul_add, ← h, Nat.add_mul, ← Nat.mul_assoc]
 omega
theorem dg_step {W u1 v1 v0 d rest b : Nat} (h : d * v1 + rest = W) (ht : rest * b + u1 < d * v0) (hv : 0 < v1 * b + v0) : (W * b + u1) / (v1 * b + v0) ≤ d - 1 := by
 have : (W * b + u1) / (v1 * b + v0) < d := by
  rw [Nat.div_lt_iff_lt_mul hv, Nat.mul_add, ← h, Nat.add_mul, ← Nat.mul_assoc]
  omega
 omega
theorem dg_start {W u1 v1 v0 b : Nat} (hu : u1 < b) (hv : 0 < v1) : (W * b + u1) / (v1 * b + v0) ≤ W / v1 := by
 have hb : 0 < b := by omega
 have hV : 0 < v1 * b + v0 := by have := Nat.mul_pos hv hb; omega
 have : (W * b + u1) / (v1 * b + v0) < W / v1 + 1 := by
  rw [Nat.div_lt_iff_lt_mul hV, Nat.mul_add, ← Nat.mul_assoc]
  have h1 : W < (W / v1 + 1) * v1 := by
   have := Nat.lt_div_mul_add (a := W) hv
   rw [Nat.add_mul, Nat.one_mul]; omega
  have h2 : (W + 1) * b ≤ (W / v1 + 1) * v1 * b := Nat.mul_le_mul_right _ h1
  rw [Nat.add_mul, Nat.one_mul] at h2
  omega
 omega
theorem dg_lt_base {W u1 V b : Nat} (hW : W < V) (hu : u1 < b) : (W * b + u1) / V < b := by
 rw [Nat.div_lt_iff_lt_mul (by omega)]
 have : (W + 1) * b ≤ V * b := Nat.mul_le_mul_right _ hW
 rw [Nat.add_mul, Nat.one_mul, Nat.mul_comm V b] at this
 omega
theorem two_digits {N V b W u1 u0 : Nat} (hb : 0 < b) (hV : 0 < V) (hN : N = (W * b + u1) * b + u0) :
  N / V = (W * b + u1) / V * b + ((W * b + u1) % V * b + u0) / V ∧ N % V = ((W * b + u1) % V * b + u0) % V := by
 have h1 := Nat.div_add_mod (W * b + u1) V
 generalize (W * b + u1) / V = q at *
 generalize (W * b + u1) % V = r at *
 have e : N = V * (q * b) + (r * b + u0) := by rw [hN, ← h1, Nat.add_mul, Nat.mul_assoc, Nat.add_assoc]
 rw [e]
 exact ⟨Nat.mul_add_div hV _ _, Nat.mul_add_mod _ _ _⟩
theorem shift_words {hi lo P S T : Nat} (hS : 0 < S) (hT : T = P * S) : (hi * T + lo) * S = (hi * S + lo / P) * T + lo * S % T := by
 have h1 : lo * S / T = lo / P := by rw [hT]; exact Nat.mul_div_mul_right _ _ hS
 have h2 := Nat.div_add_mod (lo * S) T
 rw [h1, Nat.mul_comm T] at h2
 rw [Nat.add_mul, Nat.add_mul, Nat.add_assoc, h2, Nat.mul_right_comm]
theorem shift_back {N y S : Nat} (hS : 0 < S) : N / y = N * S / (y * S) ∧ N % y = N * S % (y * S) / S := by
 refine ⟨(Nat.mul_div_mul_right _ _ hS).symm, ?_⟩
 rw [Nat.mul_mod_mul_right, Nat.mul_div_cancel _ hS]
theorem shift_lt {hi lo y P S T : Nat} (hP : 0 < P) (hT : T = P * S) (hh : hi < y) (hlo : lo < T) : hi * S + lo / P < y * S := by
 have h1 : lo / P < S := by rw [Nat.div_lt_iff_lt_mul hP, Nat.mul_comm, ← hT]; exact hlo
 have h2 : (hi + 1) * S ≤ y * S := Nat.mul_le_mul_right _ hh
 rw [Nat.add_mul, Nat.one_mul] at h2
 omega
end NatP
namespace Go.Proofs.YtgfmiladfeoldaaGreatDoor
open Go.RowKit NatP LexP
theorem ret_i64' {a b : Int} (h : a = b) : Ending.returned (.int .i64 a) = .returned (.int .i64 b) := by rw [h]
def ws (l : List Nat) : List Value := l.map fun d => .int .u64 (d : Nat)
theorem ws_length (l : List Nat) : (ws l).length = l.length := by simp [ws]
theorem ws_at {l : List Nat} {i x : Nat} (h : l[i]? = some x) : (ws l)[i]? = some (.int .u64 (x : Nat)) := by simp [ws, h]
theorem ws_one (l : List Nat) : ∀ u ∈ ws l, u.oneCell' = true := by
 intro u hu; simp only [ws, List.mem_map] at hu; obtain ⟨d, _, rfl⟩ := hu; rfl
theorem Tryz.infoW : (Tryz.prog.info? 101).map (fun i => (i.zero, i.size, i.bytes)) = some (some (.int .u64 0), 1, 8) := by kernel_rfl
theorem Tryz.infoW1 : (Tryz.prog.info? 101).map (·.size) = some 1 := by kernel_rfl
def Rd (w : World) (v : Value) (xs : List Nat) : Prop :=
 (∀ k, v.ownBlock = some k → k < w.heap.size) ∧ ∃ ao cap, v = .slice ao xs.length cap ∧ xs.length ≤ cap ∧ cap ≤ maxLen ∧ ok xs ∧ ∀ i x, xs[i]? = some x → ∃ g o, ao = some ⟨g, o, none⟩ ∧ w.cell? ⟨g, o + i, none⟩ = some (.int .u64 (x : Nat))
theorem Rd.kept {w w' : World} {v : Value} {xs : List Nat} {row : Option Nat} (h : Rd w v xs) (hg : w.grownBy w' row) (hne : ∀ k, row = some k → v.ownBlock ≠ some k) : Rd w' v xs := by
 obtain ⟨h0, ao, cap, rfl, h1, h2, h3, h4⟩ := h
 refine ⟨fun k hk => Nat.lt_of_lt_of_le (h0 k hk) hg.size, ao, cap, rfl, h1, h2, h3, fun i x hx => ?_⟩
 obtain ⟨g, o, rfl, hc⟩ := h4 i x hx
 exact ⟨g, o, rfl, hg.cell hc (fun e => hne g e.symm rfl)⟩
theorem Rd.below {w w' : World} {v : Value} {xs : List Nat} (h : Rd w v xs) (hb : Below w.heap.size w w') : Rd w' v xs :=
 h.kept (row := none) ⟨hb.os, hb.tape, hb.output, hb.size, fun k hk _ => hb.block k hk⟩ (fun k hk => by cases hk)
theorem Rd.drewN {w : World} {v : Value} {xs : List Nat} (h : Rd w v xs) (n : Nat) : Rd (w.drewN n) v xs :=
 h.below ⟨rfl, rfl, rfl, Nat.le_refl _, fun _ _ => rfl⟩
theorem Rd.alloc {w : World} {v : Value} {xs : List Nat} (h : Rd w v xs) (o : Obj) : Rd (w.alloc o) v xs :=
 h.below ((Below.refl _ _).alloc (Nat.le_refl _) o)
theorem Rd.nil (w : World) : Rd w (.slice none 0 0) [] := ⟨fun k hk => (by cases hk), none, 0, rfl, Nat.le_refl _, Nat.zero_le _, ok_nil, fun i x h => by simp at h⟩
theorem Rd.take {w : World} {ao : Option Addr} {len cap n c : Nat} {xs : List Nat} (h : Rd w (.slice ao len cap) xs) (hn : n ≤ xs.length) (hc : n ≤ c) (hm : c ≤ cap) : Rd w (.slice ao n c) (xs.take n) := by
 obtain ⟨h0, ao', cap', e, h1, h2, h3, h4⟩ := h
 simp only [Value.slice.injEq] at e
 obtain ⟨rfl, rfl, rfl⟩ := e
 refine ⟨fun k hk => h0 k (by cases ao <;> first | exact hk | cases hk), ao, c, by rw [List.length_take, Nat.min_eq_left hn], by rw [List.length_take]; omega, by omega, ok_take h3 _, fun i x hx => ?_⟩
 rw [List.getElem?_take] at hx
 split at hx
 ·exact h4 i x hx
 ·cases hx
theorem Rd.lt {w : World} {v : Value} {xs : List Nat} (h : Rd w v xs) {k : Nat} (hk : v.ownBlock = some k) : k < w.heap.size := h.1 k hk
theorem Rd.ne {w : World} {v : Value} {xs : List Nat} (h : Rd w v xs) {g : Nat} (hg : w.heap.size ≤ g) : v.ownBlock ≠ some g := fun e => by have := h.1 g e; omega
def Blk (w : World) (g : Nat) (L : List Nat) : Prop := w.heap[g]? = some (.cells (ws L).toArray 101 (0, 0)) ∧ ok L
theorem Blk.lt {w : World} {g : Nat} {L : List Nat} (h : Blk w g L) : g < w.heap.size := (Array.getElem?_eq_some_iff.1 h.1).1
theorem Blk.cell {w : World} {g : Nat} {L : List Nat} (h : Blk w g L) {i x : Nat} (hx : L[i]? = some x) : w.cell? ⟨g, i, none⟩ = some (.int .u64 (x : Nat)) := by
 rw [cell_of_row w g i _ _ _ h.1]; simp [ws, hx]
theorem Blk.frozen {w : World} {g : Nat} {L : List Nat} (h : Blk w g L) (i : Nat) : w.frozen? ⟨g, i, none⟩ = false := frozen_of_row w g i _ _ h.1
theorem Blk.set {w : World} {g : Nat} {L : List Nat} (h : Blk w g L) (i : Nat) {x : Nat} (hx : x < BB) : Blk (w.setCell ⟨g, i, none⟩ (.int .u64 (x : Nat))) g (L.set i x) ∧ w.grownBy (w.setCell ⟨g, i, none⟩ (.int .u64 (x : Nat))) (some g) := by
 refine ⟨⟨?_, ok_set h.2 i hx⟩, ⟨rfl, rfl, rfl, by simp, fun k _ hk => heap_setCell_other w ⟨g, i, none⟩ k _ (fun e => hk (by simp [e]))⟩⟩
 have := heap_setCell_same w g i (ws L).toArray 101 (.int .u64 (x : Nat)) h.1
 rw [this]
 simp [ws, List.map_set]
theorem Blk.kept {w w' : World} {g : Nat} {L : List Nat} {row : Option Nat} (h : Blk w g L) (hg : w.grownBy w' row) (hne : row ≠ some g) : Blk w' g L :=
 ⟨(hg.block g h.lt (fun e => hne e.symm)).trans h.1, h.2⟩
theorem Blk.below {w w' : World} {g B : Nat} {L : List Nat} (h : Blk w g L) (hb : Below B w w') (hB : g < B) : Blk w' g L := ⟨(hb.block g hB).trans h.1, h.2⟩
theorem Blk.rd {w : World} {g : Nat} {L : List Nat} (h : Blk w g L) {o n c : Nat} (ho : o + n ≤ L.length) (hnc : n ≤ c) (hc : c ≤ maxLen) : Rd w (.slice (some ⟨g, o, none⟩) n c) ((L.drop o).take n) := by
 refine ⟨fun k hk => by cases hk; exact h.lt, _, c, by rw [List.length_take, List.length_drop, Nat.min_eq_left (by omega)], by rw [List.length_take]; omega, hc, ok_take (ok_drop h.2 _) _, fun i x hx => ⟨g, o, rfl, h.cell ?_⟩⟩
 rw [List.getElem?_take] at hx
 split at hx
 ·rw [List.getElem?_drop] at hx; exact hx
 ·cases hx
theorem Blk.made (w : World) (n : Nat) : Blk (w.alloc (.cells (madeCells #[.int .u64 0] n) 101)) w.heap.size (List.replicate n 0) := by
 refine ⟨?_, ok_replicate n⟩
 have h1 : (w.alloc (.cells (madeCells #[.int .u64 0] n) 101)).heap[w.heap.size]? = some (.cells (madeCells #[.int .u64 0] n) 101 (0, 0)) := by first | exact heap_alloc_new w _
 rw [h1]
 have h2 := toList_madeCells_one (.int .u64 0) n
 have h3 : madeCells #[Value.int .u64 0] n = (ws (List.replicate n 0)).toArray := by
  apply Array.toList_inj.1
  rw [h2]; simp [ws]
 rw [h3]
def Fr (B : Nat) (w : World) (v : Value) (xs : List Nat) : Prop := Rd w v xs ∧ ∀ k, v.ownBlock = some k → B ≤ k ∧ k < w.heap.size
theorem Fr.below {B : Nat} {w w' : World} {v : Value} {xs : List Nat} (h : Fr B w v xs) (hb : Below w.heap.size w w') : Fr B w' v xs := ⟨h.1.below hb, fun k hk => ⟨(h.2 k hk).1, Nat.lt_of_lt_of_le (h.2 k hk).2 hb.size⟩⟩
theorem Fr.mono {B B' : Nat} {w : World} {v : Value} {xs : List Nat} (h : Fr B w v xs) (hb : B' ≤ B) : Fr B' w v xs := ⟨h.1, fun k hk => ⟨Nat.le_trans hb (h.2 k hk).1, (h.2 k hk).2⟩⟩
def NewPost (xs : List Nat) (w : World) (e : Ending) (w' : World) : Prop := ∃ v, e = .returned v ∧ Fr w.heap.size w' v xs ∧ Below w.heap.size w w'
set_option maxRecDepth 100000 in
set_option maxHeartbeats 1000000 in
theorem size_any (v : Value) (xs : List Nat) (w : World) (hr : Rd w v xs) :
  Calls Tryz.prog 115 #[v] w fun e w' => e = .returned (.int .i64 ((strip xs).length : Nat)) ∧ w = w' := by
 obtain ⟨ao, cap, rfl, hnc, hcm, hok, hsh⟩ := hr.2
 have HS := Lib.hid hsh
 have hm : xs.length ≤ 9223372036854775807 := by unfold maxLen at hcm; omega
 clear hsh hcm hok
 go_enter Tryz.func115, Tryz.ntmps115
 go_wp2_with fail
 go_loop [3] (fun i => ∃ n : Nat, n ≤ xs.length ∧ i = .int .i64 (n : Nat) ∧ strip (xs.take n) = strip xs) (fun i => (intOf i).toNat)
 case atStart => exact ⟨xs.length, Nat.le_refl _, rfl, by rw [List.take_length]⟩
 case round =>
  obtain ⟨n, hn, rfl, hst⟩ := hrel
  have HST := Lib.hid hst
  clear hst
  cases n with
  | zero =>
   have HE := Lib.hid (strip_stop hn HST.out (.inl rfl))
   go_wp2_with fail
   go_ret
   exact ⟨ret_i64' (by rw [HE.out]; rfl), rfl⟩
  | succ m =>
   obtain ⟨x, hx⟩ : ∃ x, xs[m]? = some x := ⟨_, List.getElem?_eq_getElem (by omega)⟩
   obtain ⟨g, o, rfl, e1⟩ := HS.out m x hx
   have HX := Lib.hid hx
   clear hx
   by_cases h0 : x = 0
   ·have h1 : ((x : Int) == 0) = true := by simp [h0]
    have HN : Hid (strip (xs.take m) = strip xs) := by
     rcases strip_step hn HST.out (fun m' e => by cases e; rw [HX.out, h0]) with h | h
     ·cases h
     ·exact h
    clear h0
    go_wp2_with fail
    go_round
    case rel => exact ⟨m, by omega, by first | rfl | go_num, HN.out⟩
    case measure => simp [intOf] <;> omega
   ·have h1 : ((x : Int) == 0) = false := by simp [h0]
    have HE := Lib.hid (strip_stop hn HST.out (.inr ⟨m, x, rfl, HX.out, h0⟩))
    clear h0
    go_wp2_with fail
    go_ret
    exact ⟨ret_i64' (by rw [HE.out] <;> first | rfl | omega), rfl⟩
set_option maxRecDepth 100000 in
set_option maxHeartbeats 1000000 in
theorem mtrim_any (ao : Option Addr) (cap : Nat) (xs : List Nat) (w : World) (hr : Rd w (.slice ao xs.length cap) xs) :
  Calls Tryz.prog 273 #[.slice ao xs.length cap] w fun e w' => e = .returned (.slice ao (strip xs).length (strip xs).length) ∧ w = w' := by
 obtain ⟨ao, cap, e, hnc, hcm, hok, hsh⟩ := hr.2
 simp only [Value.slice.injEq] at e
 obtain ⟨rfl, -, rfl⟩ := e
 have HS := Lib.hid hsh
 have hm : cap ≤ 9223372036854775807 := by unfold maxLen at hcm; omega
 clear hsh hcm hok
 go_enter Tryz.func273, Tryz.ntmps273
 go_wp2_with fail
 go_loop [3] (fun i => ∃ n : Nat, n ≤ xs.length ∧ i = .int .i64 (n : Nat) ∧ strip (xs.take n) = strip xs) (fun i => (intOf i).toNat)
 case atStart => exact ⟨xs.length, Nat.le_refl _, rfl, by rw [List.take_length]⟩
 case round =>
  obtain ⟨n, hn, rfl, hst⟩ := hrel
  have HST := Lib.hid hst
  clear hst
  cases n with
  | zero =>
   have HE := Lib.hid (strip_stop hn HST.out (.inl rfl))
   go_wp2_with fail
   go_ret
   exact ⟨by first | (rw [HE.out]; done) | (rw [HE.out]; rfl), rfl⟩
  | succ m =>
   obtain ⟨x, hx⟩ : ∃ x, xs[m]? = some x := ⟨_, List.getElem?_eq_getElem (by omega)⟩
   obtain ⟨g, o, rfl, e1⟩ := HS.out m x hx
   have HX := Lib.hid hx
   clear hx
   by_cases h0 : x = 0
   ·have h1 : ((x : Int) == 0) = true := by simp [h0]
    have HN : Hid (strip (xs.take m) = strip xs) := by
     rcases strip_step hn HST.out (fun m' e => by cases e; rw [HX.out, h0]) with h | h
     ·cases h
     ·exact h
    clear h0
    go_wp2_with fail
    go_round
    case rel => exact ⟨m, by omega, by first | rfl | go_num, HN.out⟩
    case measure => simp [intOf] <;> omega
   ·have h1 : ((x : Int) == 0) = false := by simp [h0]
    have HE := Lib.hid (strip_stop hn HST.out (.inr ⟨m, x, rfl, HX.out, h0⟩))
    clear h0
    go_wp2_with fail
    go_ret
    exact ⟨by first | (rw [HE.out]; done) | (rw [HE.out]; rfl), rfl⟩
theorem trim_rd {ao : Option Addr} {cap : Nat} {xs : List Nat} {w : World} (hr : Rd w (.slice ao xs.length cap) xs) : Rd w (.slice ao (strip xs).length (strip xs).length) (strip xs) := by
 have h1 := strip_take xs
 have h2 := hr
 obtain ⟨ao', cap', e, hnc, -, -, -⟩ := h2.2
 simp only [Value.slice.injEq] at e
 obtain ⟨rfl, -, rfl⟩ := e
 have := hr.take (n := (strip xs).length) (c := (strip xs).length) h1.2 (Nat.le_refl _) (Nat.le_trans h1.2 hnc)
 rw [← h1.1] at this
 exact this
end Go.Proofs.YtgfmiladfeoldaaGreatDoor
namespace Go.Proofs.YtgfmiladfeoldaaGreatDoor
open Go.RowKit NatP
theorem u64_in (n : Nat) (h : n < 18446744073709551616) : IntKind.u64.wrap (n : Int) = (n : Int) := by rw [IntKind.wrap_u64]; omega
theorem and32 (x : Nat) (h : x < 18446744073709551616) : bits BinOp.and IntKind.u64 (x : Int) 4294967295 = ((x % 4294967296 : Nat) : Int) := by
 have h1 := bits_and_u64_nat x 4294967295 h (by omega)
 have h2 : x &&& 4294967295 = x % 4294967296 := Nat.and_two_pow_sub_one_eq_mod x 32
 rw [h2] at h1; exact h1
theorem or_join (x y i : Nat) (hx : x < 18446744073709551616) (hd : x % 2 ^ i = 0) (hy : y < 2 ^ i) (hy2 : y < 18446744073709551616) : bits BinOp.or IntKind.u64 (x : Int) (y : Int) = ((x + y : Nat) : Int) := by
 have h := bits_join .u64 64 (by decide) wraps_u64 i (x : Int) (y : Int) (by omega) (by exact_mod_cast hd) (by exact_mod_cast hx) (by omega) (by exact_mod_cast hy) (by exact_mod_cast hy2)
 rw [h]; rfl
def Div64Post (hi lo y : Nat) (w : World) (e : Ending) (w' : World) : Prop :=
 e = .returned (.tuple #[.int .u64 ((hi * BB + lo) / y : Nat), .int .u64 ((hi * BB + lo) % y : Nat)]) ∧ ∃ k, w' = w.drewN k
set_option maxRecDepth 100000 in
set_option maxHeartbeats 2000000 in
theorem div64_zero (lo y : Nat) (w : World) (hlo : lo < BB) (hy0 : 0 < y) (hy : y < BB) :
  Calls Tryz.prog 277 #[.int .u64 (0 : Nat), .int .u64 (lo : Nat), .int .u64 (y : Nat)] w (Div64Post 0 lo y w) := by
 have hBB : BB = 18446744073709551616 := rfl
 rw [hBB] at hlo hy
 have HQ : Hid ((0 * BB + lo) / y = lo / y ∧ (0 * BB + lo) % y = lo % y) := by rw [Nat.zero_mul, Nat.zero_add]; exact ⟨rfl, rfl⟩
 clear hBB
 have hyz : ((y : Int) == 0) = false := by simp; omega
 have hqb : lo / y < 18446744073709551616 := Nat.lt_of_le_of_lt (Nat.div_le_self _ _) hlo
 have hrb : lo % y < 18446744073709551616 := Nat.lt_trans (Nat.mod_lt _ hy0) hy
 have hqi : IntKind.u64.wrap ((lo : Int) / (y : Int)) = ((lo / y : Nat) : Int) := by
  have e : ((lo : Int) / (y : Int)) = ((lo / y : Nat) : Int) := rfl
  rw [e]; exact u64_in _ hqb
 have hri : (lo : Int) % (y : Int) = ((lo % y : Nat) : Int) := rfl
 clear hqb hrb
 go_enter Tryz.func277, Tryz.ntmps277
 go_wp2_with fail
 go_quiet (fail)
 go_wp2_with fail
 go_ret2
 exact ⟨by rw [HQ.out.1, HQ.out.2]; rfl, ⟨_, rfl⟩⟩
end Go.Proofs.YtgfmiladfeoldaaGreatDoor
