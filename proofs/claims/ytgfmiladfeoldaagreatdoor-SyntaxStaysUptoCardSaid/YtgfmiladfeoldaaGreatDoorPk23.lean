/- The drawn region of the fourth loop of SyntaxStays, by itself, with the few laws that it needs, so that it can be built beside the rest. -/
import Derived.Test.YtgfmiladfeoldaaGreatDoorPk1
import Derived.Lib.IndexMore
import Derived.WalkKit
import Derived.WalkSpells
import Derived.WalkSmall
import Derived.WalkLawsBesides
import Derived.Lib.OthersKept
import Derived.Lib.Hide
import Derived.Handy
import Derived.BigQuiet
import Derived.Deep.QuietTactic
import Derived.Below
import Derived.Laws.CopyOwn
import Derived.Laws.OwnMore
import Derived.Deep.OwnRows
import Derived.Lib.EndianBits
import Derived.Lib.ItoaNum
import Derived.Deep.DeepCutAuto
import Derived.Deep.CutBlock
import Derived.Shelf.Spec.BitsCarry
import Derived.StillTailTactics
import Derived.Deep.RegionLaw
import Derived.Deep.RegionHeld3
import Derived.IntWalk
import Derived.Deep.LoopGhost
import Derived.Deep.AppendLies
import Derived.Lib.MinMax
import Derived.Laws.BytesString
import Derived.Shelf.Strings.Builder1
import Derived.Maps.AppendAt
import Derived.Recover
import Derived.Maps.OwnOps
import Derived.Deep.Slices
set_option linter.unusedSimpArgs false
set_option linter.unusedVariables false
namespace NatP
end NatP
namespace Go.Proofs.YtgfmiladfeoldaaGreatDoor.Early
open Go.RowKit NatP LexP

/-- A slice that reads as a list of cells, its shape in one piece. -/
theorem ownsRow_shape {w : World} {b : Nat} {e : TypeId} {size : Nat} {v : Value} {n : Nat} {xs : List Value} (h : w.ownsRow b e size v n xs) :
    ∃ ao cap, v = .slice ao n cap ∧ n ≤ cap ∧ cap ≤ maxLen ∧ (0 < n → ∃ g, ao = some ⟨g, 0, none⟩ ∧ b ≤ g ∧ g < w.heap.size ∧ ∀ j, j < n * size → w.cell? ⟨g, j, none⟩ = xs[j]?) := by
  rcases h.2 with ⟨rfl, rfl⟩ | ⟨g, cap, cur, rfl, hg, hh, hn, hc, _⟩
  · exact ⟨none, 0, rfl, Nat.le_refl _, Nat.zero_le _, fun h0 => absurd h0 (Nat.lt_irrefl _)⟩
  · exact ⟨_, cap, rfl, hn, hc, fun _ => ⟨g, rfl, hg, (Array.getElem?_eq_some_iff.1 hh).1, fun j hj => h.cellAt j hj⟩⟩
theorem Tryz.infoInt : (Tryz.prog.info? 3).map (fun i => (i.zero, i.size, i.bytes)) = some (some (.int .i64 0), 1, 8) := by kernel_rfl
theorem below_alloc (w : World) (o : Obj) : Below w.heap.size w (w.alloc o) := (Below.refl _ _).alloc (Nat.le_refl _) o
/-- Lists to be read, wherever they begin. -/
def KA (w : World) (v : Value) (ks : List Int) : Prop := ∃ ao cap, v = .slice ao ks.length cap ∧ ks.length ≤ cap ∧ cap ≤ maxLen ∧
    ∀ j k, ks[j]? = some k → ∃ g o, ao = some ⟨g, o, none⟩ ∧ g < w.heap.size ∧ w.cell? ⟨g, o + j, none⟩ = some (.int .i64 k)
theorem KA.below {w w' : World} {v : Value} {ks : List Int} (h : KA w v ks) (hb : Below w.heap.size w w') : KA w' v ks := by
  obtain ⟨ao, cap, rfl, h1, h2, h3⟩ := h
  refine ⟨ao, cap, rfl, h1, h2, fun j x hj => ?_⟩
  obtain ⟨g, o, rfl, h5, h6⟩ := h3 j x hj
  exact ⟨g, o, rfl, Nat.lt_of_lt_of_le h5 hb.size, (hb.cell (p := ⟨g, o + j, none⟩) h5).trans h6⟩
theorem app_none (w : World) (ty : TypeId) (H : Nat) (ko : Option Addr) (kcap : Nat) :
    (Builtin.append_ #[41, 41] ty #[.slice (some ⟨H, 0, none⟩) 0 0, .slice ko 0 kcap]).run Tryz.prog w = .ok (.slice (some ⟨H, 0, none⟩) 0 0) w := by
  obtain ⟨i0, hi, hz0, hz1, hz2⟩ := info_parts Tryz.infoInt
  cases ko <;> simp [Builtin.append_, run_underlying Tryz.underlying41, sizeOf, typeInfo, hi, Builtin.lenOf, Builtin.firstCells, storeCells, loadCells, loadCellsFrom]
theorem add_ad (g o k : Nat) : (⟨g, o, none⟩ : Addr).add k = ⟨g, o + k, none⟩ := by simp [Addr.add]
theorem cell_keep {w w' : World} {p : Addr} {v : Value} (h : Below w.heap.size w w') (hc : w.cell? p = some v) : w'.cell? p = some v :=
  (h.cell (World.block_lt_of_cell? w p hc)).trans hc
/-- A slice whose elements are, one by one, as R says. -/
def Sl (w : World) (v : Value) (n : Nat) (R : Nat → Value → Prop) : Prop := ∃ ao cap, v = .slice ao n cap ∧ n ≤ cap ∧ cap ≤ maxLen ∧ (0 < n → ∃ g o, ao = some ⟨g, o, none⟩ ∧ g < w.heap.size ∧ ∀ j, j < n → ∃ u, w.cell? ⟨g, o + j, none⟩ = some u ∧ R j u)
/-- A list of lists of numbers, to be read. -/
def FRd (w : World) (v : Value) (fs : List (List Int)) : Prop := Sl w v fs.length fun j u => ∃ ks, fs[j]? = some ks ∧ KA w u ks
/-- A block that begins with these numbers. -/
def IntB (w : World) (h : Nat) (K : List Int) : Prop := ∃ c : Array Value, w.heap[h]? = some (.cells c 3 (0, 0)) ∧ ∀ (i : Nat) (z : Int), K[i]? = some z → c[i]? = some (.int .i64 z)
theorem IntB.of_row {w : World} {B n g cap : Nat} {K : List Int} (h : w.ownsRow B 3 1 (.slice (some ⟨g, 0, none⟩) n cap) n (K.map fun k => Value.int .i64 k)) (hn : n = K.length) : IntB w g K ∧ B ≤ g ∧ n ≤ cap ∧ cap ≤ maxLen := by
  subst hn
  have hlt := h.lt g rfl
  obtain ⟨ao, cap', e, h1, h2, h3⟩ := ownsRow_shape h
  cases e
  refine ⟨?_, hlt.1, h1, h2⟩
  rcases h.2 with ⟨e, -⟩ | ⟨g', cap', cur, e, -, hgg, -⟩
  · cases e
  · cases e
    refine ⟨cur, hgg, fun i z hz => ?_⟩
    have hil := (List.getElem?_eq_some_iff.1 hz).1
    obtain ⟨g2, e2, -, -, a3⟩ := h3 (by omega)
    cases e2
    have h4 := a3 i (by omega)
    rw [cell_of_row _ _ _ _ _ _ hgg] at h4
    rw [h4]; simp [hz]
theorem IntB.ka {w : World} {h : Nat} {K : List Int} (hb : IntB w h K) {n c : Nat} (hn : n ≤ K.length) (hc : n ≤ c) (hm : c ≤ maxLen) : KA w (.slice (some ⟨h, 0, none⟩) n c) (K.take n) := by
  obtain ⟨cur, h1, h2⟩ := hb
  refine ⟨_, c, by rw [List.length_take, Nat.min_eq_left hn], by rw [List.length_take]; omega, hm, fun j k hj => ⟨h, 0, rfl, (Array.getElem?_eq_some_iff.1 h1).1, ?_⟩⟩
  have hjl := (List.getElem?_eq_some_iff.1 hj).1
  rw [List.length_take] at hjl
  rw [List.getElem?_take, if_pos (by omega)] at hj
  rw [Nat.zero_add, cell_of_row _ _ _ _ _ _ h1]
  exact h2 j k hj
set_option maxRecDepth 100000 in
set_option maxHeartbeats 4000000 in
theorem samelists_any (fs : List (List Int)) (v u : Value) (w : World) (hv : FRd w v fs) (hu : FRd w u fs) (hn : fs.length ≤ 1073741824) (hl : ∀ ks ∈ fs, ks.length ≤ 1073741824) :
    Calls Tryz.prog 23 #[v, u] w fun e w' => e = .returned (.bool true) ∧ Below w.heap.size w w' := by
  obtain ⟨ao, cap, rfl, -, -, h3⟩ := hv
  obtain ⟨bo, cap2, rfl, -, -, g3⟩ := hu
  obtain ⟨n, hnn⟩ : ∃ n, n = fs.length := ⟨_, rfl⟩
  rw [← hnn] at hn h3 g3 ⊢
  have HNN := Lib.hid hnn
  have HL := Lib.hid hl
  have H3 := Lib.hid h3
  have G3 := Lib.hid g3
  clear h3 g3 hnn hl
  go_enter Tryz.func23, Tryz.ntmps23
  go_wp2_with fail
  go_loopw [5] (fun iv wr => ∃ i : Nat, iv = .int .i64 (i : Nat) ∧ i ≤ n ∧ Below w.heap.size w wr) (fun iv _ => n - (intOf iv).toNat)
  case atStart => exact ⟨0, rfl, Nat.zero_le _, Below.refl _ _⟩
  case round =>
    obtain ⟨i, rfl, hin, hbl⟩ := hrel
    obtain ⟨wo, rfl⟩ : ∃ wo, wo = wr := ⟨_, rfl⟩
    have HBL := Lib.hid hbl
    have hzr := hbl.size
    by_cases hlt : i < n
    · obtain ⟨ga, o, rfl, hga, hc⟩ := H3.out (by omega)
      obtain ⟨gb, o2, rfl, hgb, hc2⟩ := G3.out (by omega)
      obtain ⟨m, e0, ks, hk, hka⟩ := hc i hlt
      obtain ⟨m2, d0, ks2, hk2, hka2⟩ := hc2 i hlt
      rw [hk] at hk2; cases hk2
      have hkl := HL.out ks (List.mem_of_getElem? hk)
      replace e0 := (hbl.cell (p := ⟨ga, o + i, none⟩) hga).trans e0
      replace d0 := (hbl.cell (p := ⟨gb, o2 + i, none⟩) hgb).trans d0
      replace hka := hka.below hbl
      replace hka2 := hka2.below hbl
      obtain ⟨mo, mcap, rfl, -, -, hs3⟩ := hka
      obtain ⟨mo2, mcap2, rfl, -, -, hs4⟩ := hka2
      obtain ⟨kl, hkk⟩ : ∃ kl, kl = ks.length := ⟨_, rfl⟩
      rw [← hkk] at e0 d0 hkl
      have HKK := Lib.hid hkk
      have HS3 := Lib.hid hs3
      have HS4 := Lib.hid hs4
      have E0 := Lib.hid e0
      have D0 := Lib.hid d0
      have hi0 : (0 : Int) ≤ (i : Int) := Int.natCast_nonneg _
      have hi1 : (i : Int) < (n : Int) := by omega
      clear hc hc2 hk hkk hs3 hs4 hbl
      go_wp2_with fail
      go_region
      go_wp2_with fail
      clear e0 d0
      go_loopw [6] (fun jv wx => ∃ j : Nat, jv = .int .i64 (j : Nat) ∧ j ≤ kl ∧ Below wo.heap.size wo wx) (fun jv _ => kl - (intOf jv).toNat)
      case atStart => exact ⟨0, rfl, Nat.zero_le _, (Below.refl _ _).drew⟩
      case round =>
        obtain ⟨j, rfl, hjn, hbl2⟩ := hrel
        have HBL2 := Lib.hid hbl2
        have e0 := cell_keep hbl2 E0.out
        have d0 := cell_keep hbl2 D0.out
        by_cases hjt : j < kl
        · obtain ⟨k, hk⟩ : ∃ k, ks[j]? = some k := ⟨_, List.getElem?_eq_getElem (by rw [← HKK.out]; exact hjt)⟩
          obtain ⟨gk, ok, rfl, hgk, c0⟩ := HS3.out j k hk
          obtain ⟨gk2, ok2, rfl, hgk2, c1⟩ := HS4.out j k hk
          replace c0 := cell_keep hbl2 c0
          replace c1 := cell_keep hbl2 c1
          have hj0 : (0 : Int) ≤ (j : Int) := Int.natCast_nonneg _
          have hj1 : (j : Int) < (kl : Int) := by omega
          have hkk : (k != k) = false := by simp
          clear hk hbl2
          go_wp2_with fail
          go_region
          go_wp2_with fail
          have hfin : Below wo.heap.size wo wr.drew := HBL2.out.drew
          first | exact ⟨⟨j + 1, by go_num, by omega, hfin⟩, by simp [intOf] <;> omega⟩ | exact ⟨by (repeat apply Exists.intro); exact ⟨⟨j + 1, by go_num, by omega, hfin⟩, rfl⟩, by simp [intOf] <;> omega⟩
        · clear hbl2
          go_wp2_with fail
          have hfin : Below w.heap.size w wr := HBL.out.trans (HBL2.out.mono hzr)
          first | exact ⟨⟨i + 1, by go_num, by omega, hfin⟩, by simp [intOf] <;> omega⟩ | exact ⟨by (repeat apply Exists.intro); exact ⟨⟨i + 1, by go_num, by omega, hfin⟩, rfl⟩, by simp [intOf] <;> omega⟩
    · clear hbl
      go_wp2_with fail
      go_ret
      exact ⟨rfl, HBL.out⟩
theorem al_keep {w : World} {k : Nat} {o : Obj} (h : w.heap[k]? = some o) (x : Obj) : (w.alloc x).heap[k]? = some o :=
  ((below_alloc w x).block k (Array.getElem?_eq_some_iff.1 h).1).trans h
theorem al_new {w : World} {k : Nat} (o : Obj) (h : k = w.heap.size) : (w.alloc o).heap[k]? = some o := by rw [h]; exact heap_alloc_new w o
theorem dr_keep {w : World} {k : Nat} {o : Obj} (h : w.heap[k]? = some o) : w.drew.heap[k]? = some o := h
theorem bw_alloc {w w' : World} (h : Below w.heap.size w w') (o : Obj) : Below w.heap.size w (w'.alloc o) := h.trans ((below_alloc w' o).mono h.size)
theorem bw_via {w w' w'' : World} {H : Nat} (hb : Below H w' w'') (hH : w.heap.size ≤ H) (h : Below w.heap.size w w') : Below w.heap.size w w'' := h.trans (hb.mono hH)
theorem bw_call {w w' w'' : World} (hb : Below w'.heap.size w' w'') (h : Below w.heap.size w w') : Below w.heap.size w w'' := h.trans (hb.mono h.size)
theorem frd_one {w : World} {b : Nat} {u : Value} {ks : List Int} (h : w.heap[b]? = some (.cells #[u] 41 (0, 0))) (hk : KA w u ks) : FRd w (.slice (some ⟨b, 0, none⟩) 1 1) [ks] := by
  refine ⟨_, 1, rfl, Nat.le_refl _, by unfold maxLen; omega, fun _ => ⟨b, 0, rfl, (Array.getElem?_eq_some_iff.1 h).1, fun j hj => ?_⟩⟩
  have hj0 : j = 0 := by simp at hj; omega
  subst hj0
  exact ⟨u, (cell_of_row _ _ _ _ _ _ h).trans rfl, ks, rfl, hk⟩
/-- 'append([]int{}, x...)' in a region that draws: nothing that was there has turned. -/
theorem step_copy_own {w : World} {ops : Array Oper} {o : Oper} {a : Act} {K : Act → World → Prop} {Q : Exit → Act → World → Prop} {E : Prop} (hgd : o.guard = none) (s x : Operand)
    (ho : o.op = .call { callee := .builtin .append, args := #[s, x], argTypes := #[41, 41] }) (H : Nat) (hs : a.eval s = .slice (some ⟨H, 0, none⟩) 0 0) (hH : w.heap[H]? = some (.cells #[] 3 (0, 0)))
    (v : Value) (ks : List Int) (hx : a.eval x = v) (hr : KA w v ks) (hl : ks.length ≤ 1073741824)
    (h : ∀ w' g ucap, Hid (w'.ownsRow H 3 1 (.slice (some ⟨g, 0, none⟩) ks.length ucap) ks.length (ks.map fun k => Value.int .i64 k)) → Hid (Below H w w') → Hid (∀ (k : Nat) (c : Array Value), w.heap[k]? = some (.cells c 41 (0, 0)) → w'.heap[k]? = some (.cells c 41 (0, 0))) → Hid (∀ (k : Nat) (c : Array Value), k ≠ H → w.heap[k]? = some (.cells c 3 (0, 0)) → w'.heap[k]? = some (.cells c 3 (0, 0))) → K (a.put o.dst (.slice (some ⟨g, 0, none⟩) ks.length ucap)) w') : if Region.wanted o (yielded ops a.tmps) = true then Oper.wp Tryz.prog o a w K Q else E := by
  have hHl := (Array.getElem?_eq_some_iff.1 hH).1
  obtain ⟨ao, cap, rfl, hc1, hc2, hsh⟩ := hr
  by_cases h0 : ks = []
  · subst h0
    have hw : Region.wanted o (yielded ops a.tmps) = true := by simp [Region.wanted, hgd]
    rw [if_pos hw]
    unfold Oper.wp execOp
    simp only [ho, resolve, invoke, builtin, Sem.run_bind, Sem.run_pure, Result.andThen_ok, List.map_toArray, List.map_cons, List.map_nil, hs, hx, List.length_nil, app_none]
    exact h w H 0 ⟨rfl, .inr ⟨H, 0, #[], rfl, Nat.le_refl _, hH, Nat.le_refl _, by unfold maxLen; omega, rfl, rfl⟩⟩ (Below.refl _ _) (fun _ _ h => h) (fun _ _ _ h => h)
  · have hl0 : 0 < ks.length := List.length_pos_iff.2 h0
    obtain ⟨x0, hx0⟩ : ∃ x0, ks[0]? = some x0 := ⟨_, List.getElem?_eq_getElem hl0⟩
    obtain ⟨g, o', rfl, -, -⟩ := hsh 0 x0 hx0
    obtain ⟨i0, hi, hz0, hz1, hz2⟩ := info_parts Tryz.infoInt
    refine step_append_lies w hgd s x 41 ho H 3 i0 (.int .i64 0) 1 8 Tryz.underlying41 hi hz0 hz1 hz2 rfl (by omega) (.slice (some ⟨H, 0, none⟩) 0 0) 0 [] hs
      ⟨rfl, .inr ⟨H, 0, #[], rfl, Nat.le_refl _, hH, Nat.le_refl _, by unfold maxLen; omega, rfl, rfl⟩⟩ ⟨g, o', none⟩ ks.length cap (ks.map fun k => Value.int .i64 k) hx (by simp) (fun j u hj => ?_) (fun u hu => ?_) hl0 (by unfold maxLen; omega) (by omega) (Nat.le_of_lt hHl) w.heap.size rfl ?_
    · simp only [List.getElem?_map, Option.map_eq_some_iff] at hj
      obtain ⟨y, hy, rfl⟩ := hj
      obtain ⟨g', o'', e, -, hc⟩ := hsh j y hy
      cases e
      rw [add_ad]; exact hc
    · simp only [List.mem_map] at hu
      obtain ⟨y, -, rfl⟩ := hu; rfl
    · intro gg cap' w' hown hgrow hat hlt
      rw [Nat.zero_add, List.nil_append] at hown
      rw [Nat.zero_add]
      refine h w' _ _ hown (Below.grown (Below.refl _ _) hgrow (Nat.le_of_lt hHl) (fun q hq => by cases hq; exact Nat.le_refl _)) (fun k c hc => ?_) (fun k c hne hc => ?_)
      · exact (hgrow.block k (Array.getElem?_eq_some_iff.1 hc).1 (fun e => by cases e; rw [hH] at hc; simp at hc)).trans hc
      · exact (hgrow.block k (Array.getElem?_eq_some_iff.1 hc).1 (fun e => by cases e; exact hne rfl)).trans hc
/-- 'append(.., z)', one number out of a block of its own, in a region that draws. -/
theorem step_snoc_int {w : World} {ops : Array Oper} {o : Oper} {a : Act} {K : Act → World → Prop} {Q : Exit → Act → World → Prop} {E : Prop} (hgd : o.guard = none) (s x : Operand)
    (ho : o.op = .call { callee := .builtin .append, args := #[s, x], argTypes := #[41, 41] }) (H : Nat) (v : Value) (ks : List Int) (hs : a.eval s = v) (hown : w.ownsRow H 3 1 v ks.length (ks.map fun k => Value.int .i64 k))
    (b : Nat) (z : Int) (hx : a.eval x = .slice (some ⟨b, 0, none⟩) 1 1) (hb : w.heap[b]? = some (.cells #[.int .i64 z] 3 (0, 0))) (hl : ks.length ≤ 1073741824) (hH : H ≤ w.heap.size)
    (h : ∀ w' g ucap, Hid (KA w' (.slice (some ⟨g, 0, none⟩) (ks.length + 1) ucap) (ks ++ [z])) → Hid (Below H w w') → Hid (∀ (k : Nat) (c : Array Value), w.heap[k]? = some (.cells c 41 (0, 0)) → w'.heap[k]? = some (.cells c 41 (0, 0))) → K (a.put o.dst (.slice (some ⟨g, 0, none⟩) (ks.length + 1) ucap)) w') : if Region.wanted o (yielded ops a.tmps) = true then Oper.wp Tryz.prog o a w K Q else E := by
  obtain ⟨i0, hi, hz0, hz1, hz2⟩ := info_parts Tryz.infoInt
  refine step_append_lies w hgd s x 41 ho H 3 i0 (.int .i64 0) 1 8 Tryz.underlying41 hi hz0 hz1 hz2 rfl (by omega) v ks.length _ hs hown ⟨b, 0, none⟩ 1 1 [.int .i64 z] hx rfl (World.news_of_block hb) (by simp [Value.oneCell']) (by omega) (by unfold maxLen; omega) (by omega) hH w.heap.size rfl ?_
  intro g cap w' hown' hgrow hat hlt
  obtain ⟨ib, ib1, ib2, ib3⟩ := IntB.of_row (K := ks ++ [z]) (by rw [List.map_append]; exact hown') (by simp)
  have hka := ib.ka (n := ks.length + 1) (by simp) ib2 ib3
  rw [List.take_of_length_le (by simp)] at hka
  refine h w' g cap hka (Below.grown (Below.refl _ _) hgrow hH (fun q hq => (hown.lt q hq).1)) (fun k c hc => ?_)
  refine (hgrow.block k (Array.getElem?_eq_some_iff.1 hc).1 fun e => ?_).trans hc
  rcases hown.2 with ⟨e', -⟩ | ⟨g', cap', cur, rfl, -, hgg, -⟩
  · rw [e'] at e; cases e
  · cases e
    rw [hgg] at hc; simp at hc
/-- A region of a code by its number. -/
def findR (n : Nat) : Code → Option Code
  | .region m o b => if m = n then some (.region m o b) else none
  | .seq a b => match findR n a with
    | some c => some c
    | none => findR n b
  | .block _ c => findR n c
  | .scope c => findR n c
  | .loop c => findR n c
  | .cond _ a b => match findR n a with
    | some c => some c
    | none => findR n b
  | _ => none
noncomputable def reg37 : Code := (Tryz.f7.body.bind (findR 37)).getD .skip
set_option maxRecDepth 1000000 in
set_option maxHeartbeats 8000000 in
theorem reg37_wp {x0 x1 x3 x4 x5 x6 x7 x8 x9 x10 x11 x14 x15 x16 x17 x18 x19 x20 x21 x22 x23 x24 x25 x26 x27 x28 x29 x31 x32 x33 x34 x35 x36 x37 x38 x39 x40 x41 x42 x43 x44 x45 x46 x47 x48 x49 x50 x51 x52 x53 x54 x55 x56 x57 x58 x59 x60 x61 x62 x63 x64 x65 x66 x67 x68 x69 x70 x71 x72 x73 x74 x75 x76 x77 x78 x79 x80 x81 x82 x83 x84 x85 x86 x87 x88 x89 x90 x91 x92 x93 x94 x95 x96 x97 x98 x99 x100 x101 x102 x103 x104 x105 x106 x107 x108 x109 x110 x111 x112 x113 x114 x115 x116 x117 x118 x119 x120 x121 x122 x123 x124 x125 x126 x127 x128 x129 x130 x131 x132 x133 x134 x135 x136 x137 x138 x139 x140 x141 x142 x143 x144 x145 x146 x147 x148 x149 x150 x151 x152 x153 x154 x155 x156 x157 x158 x159 x160 x161 x162 x163 x164 x165 x166 x167 x168 x169 x170 x171 x172 x173 x174 x175 x176 x177 x178 x179 x180 x181 x182 x183 x184 x185 x186 x187 x188 x189 x190 x191 x192 x193 x194 x195 x196 x197 x198 x199 x200 x201 x202 x203 x204 x205 x206 x207 x208 x209 x210 x211 x212 x213 x214 x215 x216 x217 x218 x219 x220 x221 x222 x223 x224 x225 x226 x227 x228 x229 x230 x231 x232 x233 x234 x235 x236 x237 x238 x239 x240 x241 x242 x243 x244 x245 x246 x247 x248 x249 x250 x251 x252 x253 x254 x255 x256 x257 x258 x259 x260 x261 x262 x263 x264 x265 x266 x267 x268 x269 x270 x271 x272 x273 x274 x275 x276 x277 x278 x279 x280 x281 x282 x283 x284 x285 x286 x287 x288 x289 x290 x291 x292 x293 x294 x295 x296 x297 x298 x299 x300 x301 x302 x303 x304 x305 x306 x307 x308 x309 x310 x311 x312 x313 x314 x315 x316 x317 x318 x319 x320 x321 x322 x323 x324 x325 x326 x327 x328 x329 x330 x331 x332 x333 x334 : Value} {gf of m fcap GH hn hc gl cap13 k s1 s3 : Nat} {so : Option Addr} {scap : Nat} (ks : List Int) (wr : World) (Q0 : Exit → Act → World → Prop)
    (HKEEP : Hid (∀ wx, Below wr.heap.size wr wx → wx.cell? ⟨gl, k, none⟩ = some (.slice (some ⟨s1, 0, none⟩) (ks.length + 1) s3) ∧ wx.cell? ⟨gf, of + k, none⟩ = some (.slice so ks.length scap) ∧ wx.cell? ⟨GH, k, none⟩ = some (.slice (some ⟨s1, 0, none⟩) ks.length s3)))
    (HKA : Hid (KA wr (.slice so ks.length scap) ks)) (HKB : Hid (KA wr (.slice (some ⟨s1, 0, none⟩) (ks.length + 1) s3) (ks ++ [-77]))) (HKL : Hid (ks.length ≤ 1073741824)) (HLS : Hid (∀ x ∈ [ks ++ [-77]], x.length ≤ 1073741824))
    (hi0 : (0 : Int) ≤ (k : Int)) (hi1 : (k : Int) < (m : Int)) (hi2 : (k : Int) < (hn : Int))
    (hpost : Hid (∀ (y265 y266 y267 y268 y269 y270 y271 y272 y273 y274 y275 y276 y277 y278 y279 y280 y281 y282 y283 y284 y285 y286 y287 y288 y289 y290 y291 y292 : Value) (w' : World), Below wr.heap.size wr w' → Q0 .normal ⟨#[x0, x1, .slice (some ⟨gf, of, none⟩) m fcap, x3, x4, x5, x6, x7, x8, x9, x10, x11, .slice (some ⟨GH, 0, none⟩) hn hc, .slice (some ⟨gl, 0, none⟩) m cap13, x14, x15, x16, x17, x18, x19, x20, x21, x22, x23, x24, x25, x26, x27, x28, x29, .int .i64 (k : Nat), x31, x32, x33, x34, x35, x36, x37, x38, x39, x40, x41, x42, x43, x44, x45, x46, x47, x48, x49, x50, x51, x52, x53, x54, x55, x56, x57, x58, x59, x60, x61, x62, x63, x64, x65, x66, x67, x68, x69, x70, x71, x72, x73, x74, x75, x76, x77, x78, x79, x80, x81, x82, x83, x84, x85, x86, x87, x88, x89, x90, x91, x92, x93, x94, x95, x96, x97, x98, x99, x100, x101, x102, x103, x104, x105, x106, x107, x108, x109, x110, x111, x112, x113, x114, x115, x116, x117, x118, x119, x120, x121, x122, x123, x124, x125, x126, x127, x128, x129, x130, x131, x132, x133, x134, x135, x136, x137, x138, x139, x140, x141, x142, x143, x144, x145, x146, x147, x148, x149, x150, x151, x152, x153, x154, x155, x156, x157, x158, x159, x160, x161, x162, x163, x164, x165, x166, x167, x168, x169, x170, x171, x172, x173, x174, x175, x176, x177, x178, x179, x180, x181, x182, x183, x184, x185, x186, x187, x188, x189, x190, x191, x192, x193, x194, x195, x196, x197, x198, x199, x200, x201, x202, x203, x204, x205, x206, x207, x208, x209, x210, x211, x212, x213, x214, x215, x216, x217, x218, x219, x220, x221, x222, x223, x224, x225, x226, x227, x228, x229, x230, x231, x232, x233, x234, x235, x236, x237, x238, x239, x240, x241, x242, x243, x244, x245, x246, x247, x248, x249, x250, x251, x252, x253, x254, x255, x256, x257, x258, x259, x260, x261, x262, x263, x264, y265, y266, y267, y268, y269, y270, y271, y272, y273, y274, y275, y276, y277, y278, y279, y280, y281, y282, y283, y284, y285, y286, y287, y288, y289, y290, y291, y292, .bool false, x294, x295, x296, x297, x298, x299, x300, x301, x302, x303, x304, x305, x306, x307, x308, x309, x310, x311, x312, x313, x314, x315, x316, x317, x318, x319, x320, x321, x322, x323, x324, x325, x326, x327, x328, x329, x330, x331, x332, x333, x334], []⟩ w')) :
    Code.wp Tryz.prog reg37 Q0 ⟨#[x0, x1, .slice (some ⟨gf, of, none⟩) m fcap, x3, x4, x5, x6, x7, x8, x9, x10, x11, .slice (some ⟨GH, 0, none⟩) hn hc, .slice (some ⟨gl, 0, none⟩) m cap13, x14, x15, x16, x17, x18, x19, x20, x21, x22, x23, x24, x25, x26, x27, x28, x29, .int .i64 (k : Nat), x31, x32, x33, x34, x35, x36, x37, x38, x39, x40, x41, x42, x43, x44, x45, x46, x47, x48, x49, x50, x51, x52, x53, x54, x55, x56, x57, x58, x59, x60, x61, x62, x63, x64, x65, x66, x67, x68, x69, x70, x71, x72, x73, x74, x75, x76, x77, x78, x79, x80, x81, x82, x83, x84, x85, x86, x87, x88, x89, x90, x91, x92, x93, x94, x95, x96, x97, x98, x99, x100, x101, x102, x103, x104, x105, x106, x107, x108, x109, x110, x111, x112, x113, x114, x115, x116, x117, x118, x119, x120, x121, x122, x123, x124, x125, x126, x127, x128, x129, x130, x131, x132, x133, x134, x135, x136, x137, x138, x139, x140, x141, x142, x143, x144, x145, x146, x147, x148, x149, x150, x151, x152, x153, x154, x155, x156, x157, x158, x159, x160, x161, x162, x163, x164, x165, x166, x167, x168, x169, x170, x171, x172, x173, x174, x175, x176, x177, x178, x179, x180, x181, x182, x183, x184, x185, x186, x187, x188, x189, x190, x191, x192, x193, x194, x195, x196, x197, x198, x199, x200, x201, x202, x203, x204, x205, x206, x207, x208, x209, x210, x211, x212, x213, x214, x215, x216, x217, x218, x219, x220, x221, x222, x223, x224, x225, x226, x227, x228, x229, x230, x231, x232, x233, x234, x235, x236, x237, x238, x239, x240, x241, x242, x243, x244, x245, x246, x247, x248, x249, x250, x251, x252, x253, x254, x255, x256, x257, x258, x259, x260, x261, x262, x263, x264, x265, x266, x267, x268, x269, x270, x271, x272, x273, x274, x275, x276, x277, x278, x279, x280, x281, x282, x283, x284, x285, x286, x287, x288, x289, x290, x291, x292, x293, x294, x295, x296, x297, x298, x299, x300, x301, x302, x303, x304, x305, x306, x307, x308, x309, x310, x311, x312, x313, x314, x315, x316, x317, x318, x319, x320, x321, x322, x323, x324, x325, x326, x327, x328, x329, x330, x331, x332, x333, x334], []⟩ wr := by
  have hkk : ((ks.length : Int) != (ks.length : Int)) = false := by simp
  conv => arg 2; whnf
  go_region_held3 (fun w' => w'.cell? ⟨gl, k, none⟩ = some (.slice (some ⟨s1, 0, none⟩) (ks.length + 1) s3) ∧ w'.cell? ⟨gf, of + k, none⟩ = some (.slice so ks.length scap) ∧ w'.cell? ⟨GH, k, none⟩ = some (.slice (some ⟨s1, 0, none⟩) ks.length s3))
    ((refine HKEEP.out _ ?_; (repeat (first | with_reducible exact Below.refl _ _ | with_reducible refine Below.drew ?_ | with_reducible refine bw_alloc ?_ _ | with_reducible refine bw_call bE ?_ | with_reducible refine bw_via bD.out (by first | exact Nat.le_refl _ | omega | (simp only [World.size_alloc, World.size_drew]; omega)) ?_ | with_reducible refine bw_via bC.out (by first | exact Nat.le_refl _ | omega | (simp only [World.size_alloc, World.size_drew]; omega)) ?_))))
    (first
      | (have hq := kD; go_at_call 23; refine (samelists_any [ks ++ [-77]] _ _ _ (frd_one (by (repeat (first | with_reducible exact al_new _ (by first | rfl | (simp only [World.size_alloc, World.size_drew])) | with_reducible refine dr_keep ?_ | with_reducible refine al_keep ?_ _ | with_reducible refine tD.out _ _ ?_ | with_reducible refine tC.out _ _ ?_ | with_reducible refine iC.out _ _ (by first | omega | (simp; done)) ?_))) (HKB.out.below (by (repeat (first | with_reducible exact Below.refl _ _ | with_reducible refine Below.drew ?_ | with_reducible refine bw_alloc ?_ _ | with_reducible refine bw_call bE ?_ | with_reducible refine bw_via bD.out (by first | exact Nat.le_refl _ | omega | (simp only [World.size_alloc, World.size_drew]; omega)) ?_ | with_reducible refine bw_via bC.out (by first | exact Nat.le_refl _ | omega | (simp only [World.size_alloc, World.size_drew]; omega)) ?_))))) (frd_one (by (repeat (first | with_reducible exact al_new _ (by first | rfl | (simp only [World.size_alloc, World.size_drew])) | with_reducible refine dr_keep ?_ | with_reducible refine al_keep ?_ _ | with_reducible refine tD.out _ _ ?_ | with_reducible refine tC.out _ _ ?_ | with_reducible refine iC.out _ _ (by first | omega | (simp; done)) ?_))) (kD.out.below (by (repeat (first | with_reducible exact Below.refl _ _ | with_reducible refine Below.drew ?_ | with_reducible refine bw_alloc ?_ _))))) (by simp) HLS.out).mono ?_; rintro e wE ⟨rfl, bE⟩)
      | (have hq := qC; refine step_snoc_int (by rfl) _ _ (by rfl) _ (.slice (some ⟨gC, 0, none⟩) ks.length capC) ks (by rfl) (by first | exact qC.out | exact qC.out.alloc _ | exact (qC.out.alloc _).alloc _) _ (-77) (by rfl) (by (repeat (first | with_reducible exact al_new _ (by first | rfl | (simp only [World.size_alloc, World.size_drew])) | with_reducible refine dr_keep ?_ | with_reducible refine al_keep ?_ _ | with_reducible refine tD.out _ _ ?_ | with_reducible refine tC.out _ _ ?_ | with_reducible refine iC.out _ _ (by first | omega | (simp; done)) ?_))) HKL.out (by first | exact hC | (simp only [World.size_alloc]; omega)) ?_; intro wD gD capD kD bD tD)
      | (refine step_copy_own (by rfl) _ _ (by rfl) _ (by rfl) (by (repeat (first | with_reducible exact al_new _ (by first | rfl | (simp only [World.size_alloc, World.size_drew])) | with_reducible refine dr_keep ?_ | with_reducible refine al_keep ?_ _ | with_reducible refine tD.out _ _ ?_ | with_reducible refine tC.out _ _ ?_ | with_reducible refine iC.out _ _ (by first | omega | (simp; done)) ?_))) (.slice so ks.length scap) ks (by rfl) (HKA.out.below (by (repeat (first | with_reducible exact Below.refl _ _ | with_reducible refine Below.drew ?_ | with_reducible refine bw_alloc ?_ _ | with_reducible refine bw_call bE ?_ | with_reducible refine bw_via bD.out (by first | exact Nat.le_refl _ | omega | (simp only [World.size_alloc, World.size_drew]; omega)) ?_ | with_reducible refine bw_via bC.out (by first | exact Nat.le_refl _ | omega | (simp only [World.size_alloc, World.size_drew]; omega)) ?_)))) HKL.out ?_; intro wC gC capC qC bC tC iC; have hC := Nat.le_trans (qC.out.lt gC rfl).1 (Nat.le_of_lt (qC.out.lt gC rfl).2)))
  all_goals
    refine hpost.out _ _ _ _ _ _ _ _ _ _ _ _ _ _ _ _ _ _ _ _ _ _ _ _ _ _ _ _ _ ?_
    (repeat (first | with_reducible exact Below.refl _ _ | with_reducible refine Below.drew ?_ | with_reducible refine bw_alloc ?_ _ | with_reducible refine bw_call bE ?_ | with_reducible refine bw_via bD.out (by first | exact Nat.le_refl _ | omega | (simp only [World.size_alloc, World.size_drew]; omega)) ?_ | with_reducible refine bw_via bC.out (by first | exact Nat.le_refl _ | omega | (simp only [World.size_alloc, World.size_drew]; omega)) ?_))
end Go.Proofs.YtgfmiladfeoldaaGreatDoor.Early
