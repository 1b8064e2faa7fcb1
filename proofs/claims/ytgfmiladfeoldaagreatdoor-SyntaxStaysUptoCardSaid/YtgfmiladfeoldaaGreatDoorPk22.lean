/- Joined texts of this claim's proof: StG, StH. -/
import Derived.Test.YtgfmiladfeoldaaGreatDoorPk21
set_option linter.unusedSimpArgs false
set_option linter.unusedVariables false
namespace Go.Proofs.YtgfmiladfeoldaaGreatDoor
open Go.RowKit NatP LexP
theorem wpList_copy_own {w : World} {ops : Array Oper} {rest : List Oper} {o : Oper} {a : Act} {Q : Exit → Act → World → Prop} (hgd : o.guard = none) (s x : Operand)
  (ho : o.op = .call { callee := .builtin .append, args := #[s, x], argTypes := #[41, 41] }) (H : Nat) (hs : a.eval s = .slice (some ⟨H, 0, none⟩) 0 0) (hH : w.heap[H]? = some (.cells #[] 3 (0, 0)))
  (v : Value) (ks : List Int) (hx : a.eval x = v) (hr : KA w v ks) (hl : ks.length ≤ 1073741824)
  (h : ∀ w' g ucap, Hid (w'.ownsRow H 3 1 (.slice (some ⟨g, 0, none⟩) ks.length ucap) ks.length (ks.map fun k => Value.int .i64 k)) → Hid (Below H w w') → wpList Tryz.prog ops Q rest (a.put o.dst (.slice (some ⟨g, 0, none⟩) ks.length ucap)) w') : wpList Tryz.prog ops Q (o :: rest) a w := by
 have hHl := (Array.getElem?_eq_some_iff.1 hH).1
 obtain ⟨ao, cap, rfl, hc1, hc2, hsh⟩ := hr
 by_cases h0 : ks = []
 ·subst h0
  refine wpList_plain hgd fun K hK => ?_
  unfold Oper.wp execOp
  simp only [ho, resolve, invoke, builtin, Sem.run_bind, Sem.run_pure, Result.andThen_ok, List.map_toArray, List.map_cons, List.map_nil, hs, hx, List.length_nil, app_none]
  exact hK _ _ (h w H 0 ⟨rfl, .inr ⟨H, 0, #[], rfl, Nat.le_refl _, hH, Nat.le_refl _, by unfold maxLen; omega, rfl, rfl⟩⟩ (Below.refl _ _))
 ·have hl0 : 0 < ks.length := List.length_pos_iff.2 h0
  obtain ⟨x0, hx0⟩ : ∃ x0, ks[0]? = some x0 := ⟨_, List.getElem?_eq_getElem hl0⟩
  obtain ⟨g, o', rfl, -, -⟩ := hsh 0 x0 hx0
  obtain ⟨i0, hi, hz0, hz1, hz2⟩ := info_parts Tryz.infoInt
  refine wpList_append_lies w hgd s x 41 ho H 3 i0 (.int .i64 0) 1 8 Tryz.underlying41 hi hz0 hz1 hz2 rfl (by omega) (.slice (some ⟨H, 0, none⟩) 0 0) 0 [] hs
   ⟨rfl, .inr ⟨H, 0, #[], rfl, Nat.le_refl _, hH, Nat.le_refl _, by unfold maxLen; omega, rfl, rfl⟩⟩ ⟨g, o', none⟩ ks.length cap (ks.map fun k => Value.int .i64 k) hx (by simp) (fun j u hj => ?_) (fun u hu => ?_) hl0 (by unfold maxLen; omega) (by omega) (Nat.le_of_lt hHl) w.heap.size rfl ?_
  ·simp only [List.getElem?_map, Option.map_eq_some_iff] at hj
   obtain ⟨y, hy, rfl⟩ := hj
   obtain ⟨g', o'', e, -, hc⟩ := hsh j y hy
   cases e
   rw [add_ad]; exact hc
  ·simp only [List.mem_map] at hu
   obtain ⟨y, -, rfl⟩ := hu; rfl
  ·intro gg cap' w' hown hgrow hat hlt
   rw [Nat.zero_add, List.nil_append] at hown
   rw [Nat.zero_add]
   exact h w' _ _ hown (Below.grown (Below.refl _ _) hgrow (Nat.le_of_lt hHl) (fun q hq => by cases hq; exact Nat.le_refl _))
structure StK (r c r2 c2 : Int) (n cap qn qcap g3 p7 GA : Nat) (ao qo : Option Addr) (l : List (Bool × List Nat)) (sh : Shp) (wv : Value) (w wx : World) : Prop where
 box3 : wx.heap[g3]? = some (.cells #[.int .i64 r, .int .i64 c, .slice ao n cap] 47 (0, 0))
 box4 : wx.heap[g3 + 1]? = some (.cells #[.int .i64 r2, .int .i64 c2, .slice qo qn qcap] 58 (0, 0))
 b7 : wx.heap[p7]? = some (.cells #[.int .i64 r, .int .i64 c, .slice (some ⟨GA, 0, none⟩) n (n + 1)] 47 (0, 0))
 at_ : AtW wx GA n w.heap.size l sh
 row : RowW wx w.heap.size wv sh
 flag : wx.cell? ⟨GA, n * 2, none⟩ = some (.bool true)
 bel : Below w.heap.size w wx
theorem StK.below {r c r2 c2 : Int} {n cap qn qcap g3 p7 GA : Nat} {ao qo : Option Addr} {l : List (Bool × List Nat)} {sh : Shp} {wv : Value} {w wx wy : World} (h : StK r c r2 c2 n cap qn qcap g3 p7 GA ao qo l sh wv w wx) (hb : Below wx.heap.size wx wy) : StK r c r2 c2 n cap qn qcap g3 p7 GA ao qo l sh wv w wy :=
 ⟨(hb.block g3 (Array.getElem?_eq_some_iff.1 h.box3).1).trans h.box3, (hb.block (g3 + 1) (Array.getElem?_eq_some_iff.1 h.box4).1).trans h.box4, (hb.block p7 (Array.getElem?_eq_some_iff.1 h.b7).1).trans h.b7, h.at_.below hb, h.row.below hb, cell_keep hb h.flag, h.bel.trans (hb.mono h.bel.size)⟩
theorem StK.wr2 {r c r2 c2 : Int} {n cap qn qcap g3 p7 GA : Nat} {ao qo : Option Addr} {l : List (Bool × List Nat)} {sh : Shp} {wv : Value} {w wx wy : World} (h : StK r c r2 c2 n cap qn qcap g3 p7 GA ao qo l sh wv w wx) {GH E2 : Nat} (hw : Wr GH (some E2) wx wy)
  (hG : ∃ k, wx.heap[GH]? = some (.cells k 41 (0, 0))) (hE : ∃ k, wx.heap[E2]? = some (.cells k 41 (0, 0))) (hB : w.heap.size ≤ GH) (hB2 : w.heap.size ≤ E2) : StK r c r2 c2 n cap qn qcap g3 p7 GA ao qo l sh wv w wy := by
 obtain ⟨kg, hkg⟩ := hG
 obtain ⟨ke, hke⟩ := hE
 have hk : ∀ (k : Nat) (d : Array Value) (t : TypeId), t ≠ 41 → wx.heap[k]? = some (.cells d t (0, 0)) → wy.heap[k]? = wx.heap[k]? := fun k d t ht hd => by
  refine hw.block k (Array.getElem?_eq_some_iff.1 hd).1 (fun e => ?_) (fun e => ?_)
  ·rw [e, hkg] at hd; simp at hd; exact ht hd.2.symm
  ·simp at e; rw [e, hke] at hd; simp at hd; exact ht hd.2.symm
 have hat := h.at_
 obtain ⟨cur, a1, a2, a3⟩ := hat
 refine ⟨(hk _ _ _ (by decide) h.box3).trans h.box3, (hk _ _ _ (by decide) h.box4).trans h.box4, (hk _ _ _ (by decide) h.b7).trans h.b7, h.at_.keep (hk _ _ _ (by decide) a1) (fun k d hd => hk k d _ (by decide) hd), ?_, ?_, hw.to_below h.bel h.bel.size hB (fun k hk' => by cases hk'; exact hB2)⟩
 ·refine ownsRow_keep h.row fun g hg _ _ => ?_
  rcases h.row.2 with ⟨e, -⟩ | ⟨g', cap', cur', e, -, hgg, -⟩
  ·rw [e] at hg; cases hg
  ·rw [e] at hg; cases hg
   exact hk _ _ _ (by decide) hgg
 ·rw [cell_of_row _ _ _ _ _ _ ((hk _ _ _ (by decide) a1).trans a1), ← cell_of_row _ _ _ _ _ _ a1]; exact h.flag
theorem AtW.last {w : World} {GA n B : Nat} {l : List (Bool × List Nat)} {sh : Shp} (h : AtW w GA n B l sh) (hn : sh.length = n) (u : Value) :
  AtW ((w.setCell ⟨GA, n * 2, none⟩ (.bool true)).setCell ⟨GA, n * 2 + 1, none⟩ u) GA n B l sh ∧ ((w.setCell ⟨GA, n * 2, none⟩ (.bool true)).setCell ⟨GA, n * 2 + 1, none⟩ u).cell? ⟨GA, n * 2, none⟩ = some (.bool true) := by
 obtain ⟨cur, h1, h2, h3⟩ := h
 have s0 := heap_setCell_same w GA (n * 2) _ 62 (.bool true) h1
 have s1 := heap_setCell_same _ GA (n * 2 + 1) _ 62 u s0
 have hoth : ∀ (k : Nat) (c : Array Value), w.heap[k]? = some (.cells c 101 (0, 0)) → ((w.setCell ⟨GA, n * 2, none⟩ (.bool true)).setCell ⟨GA, n * 2 + 1, none⟩ u).heap[k]? = w.heap[k]? := fun k c hc => by
  have hne : k ≠ GA := fun e => by rw [e, h1] at hc; simp at hc
  exact (heap_setCell_other _ ⟨GA, n * 2 + 1, none⟩ k _ hne).trans (heap_setCell_other _ ⟨GA, n * 2, none⟩ k _ hne)
 refine ⟨⟨_, s1, by simp [h2], fun j s hs => ?_⟩, ?_⟩
 ·have hjl := (List.getElem?_eq_some_iff.1 hs).1
  obtain ⟨b', ys, a1, a2, a3, a4, a5, a6, a7⟩ := h3 j s hs
  refine ⟨b', ys, a1, a2, a3, a4, ⟨(hoth _ _ a5.1).trans a5.1, a5.2⟩, ?_, ?_⟩
  ·rw [← a6]; simp [Array.getElem?_setIfInBounds]; rw [if_neg (by omega), if_neg (by omega)]
  ·rw [← a7]; simp [Array.getElem?_setIfInBounds]; rw [if_neg (by omega), if_neg (by omega)]
 ·rw [cell_of_row _ _ _ _ _ _ s1]
  simp [Array.getElem?_setIfInBounds]; omega
theorem StK.start {r c r2 c2 : Int} {n cap qn qcap g3 p7 GA : Nat} {ao qo : Option Addr} {l : List (Bool × List Nat)} {sh : Shp} {wv : Value} {w wr : World}
  (hx3 : wr.heap[g3]? = some (.cells #[.int .i64 r, .int .i64 c, .slice ao n cap] 47 (0, 0))) (hx4 : wr.heap[g3 + 1]? = some (.cells #[.int .i64 r2, .int .i64 c2, .slice qo qn qcap] 58 (0, 0)))
  (hp : wr.heap[p7]? = some (.cells #[.int .i64 r, .int .i64 c, .slice none 0 0] 47 (0, 0))) (hat : AtW wr GA n w.heap.size l sh) (hrow : RowW wr w.heap.size wv sh) (hn : sh.length = n) (hbel : Below w.heap.size w wr)
  (h1 : g3 ≠ p7) (h2 : g3 + 1 ≠ p7) (hB : w.heap.size ≤ GA) (hB2 : w.heap.size ≤ p7) :
  StK r c r2 c2 n cap qn qcap g3 p7 GA ao qo l sh wv w (((wr.setCell ⟨GA, n * 2, none⟩ (.bool true)).setCell ⟨GA, n * 2 + 1, none⟩ (.slice none 0 0)).setCell ⟨p7, 2, none⟩ (.slice (some ⟨GA, 0, none⟩) n (n + 1))) := by
 obtain ⟨l1, l2⟩ := hat.last hn (.slice none 0 0)
 have hG := hat
 obtain ⟨cur, hq1, -, -⟩ := hG
 have n3 : g3 ≠ GA := fun e => by rw [e, hq1] at hx3; simp at hx3
 have n4 : g3 + 1 ≠ GA := fun e => by rw [e, hq1] at hx4; simp at hx4
 have n7 : p7 ≠ GA := fun e => by rw [e, hq1] at hp; simp at hp
 obtain ⟨wx, hwx⟩ : ∃ wx, wx = (wr.setCell ⟨GA, n * 2, none⟩ (.bool true)).setCell ⟨GA, n * 2 + 1, none⟩ (.slice none 0 0) := ⟨_, rfl⟩
 have hwr1 : Wr GA none wr wx := by rw [hwx]; exact (Wr.of_set wr _ _).trans (Mv.refl _ _) (Wr.of_set _ _ _)
 have hrow1 : RowW wx w.heap.size wv sh := hrow.wr hwr1 ⟨cur, hq1⟩
 rw [← hwx] at l1 l2 ⊢
 have e3 := (hwr1.block g3 (Array.getElem?_eq_some_iff.1 hx3).1 n3 (by simp)).trans hx3
 have e4 := (hwr1.block (g3 + 1) (Array.getElem?_eq_some_iff.1 hx4).1 n4 (by simp)).trans hx4
 have e7 := (hwr1.block p7 (Array.getElem?_eq_some_iff.1 hp).1 n7 (by simp)).trans hp
 have hwr2 : Wr p7 none wx (wx.setCell ⟨p7, 2, none⟩ (.slice (some ⟨GA, 0, none⟩) n (n + 1))) := Wr.of_set wx _ _
 have k := fun k (hk : k < wx.heap.size) (hne : k ≠ p7) => hwr2.block k hk hne (by simp)
 have hb1 : Below w.heap.size w wx := hwr1.to_below hbel hbel.size hB (fun k hk => by cases hk)
 refine ⟨(k g3 (Array.getElem?_eq_some_iff.1 e3).1 h1).trans e3, (k (g3 + 1) (Array.getElem?_eq_some_iff.1 e4).1 h2).trans e4, ?_, l1.keep (k GA l1.lt n7.symm) (fun q d hd => k q (Array.getElem?_eq_some_iff.1 hd).1 (fun e => by rw [e, e7] at hd; simp at hd)), ?_, ?_, hwr2.to_below hb1 hb1.size hB2 (fun k hk => by cases hk)⟩
 ·rw [heap_setCell_same _ p7 2 _ 47 _ e7]; rfl
 ·refine ownsRow_keep hrow1 fun g hg _ hgl => k g hgl fun e => ?_
  rcases hrow1.2 with ⟨e', -⟩ | ⟨g', cap', cur', e', -, hgg, -⟩
  ·rw [e'] at hg; cases hg
  ·rw [e'] at hg; cases hg
   replace e : g' = p7 := e
   rw [e, e7] at hgg; simp at hgg
 ·rw [World.cell?_setCell_other _ _ _ _ (fun e => n7 (congrArg Addr.block e))]; exact l2
end Go.Proofs.YtgfmiladfeoldaaGreatDoor
namespace Go.Proofs.YtgfmiladfeoldaaGreatDoor
open Go.RowKit NatP LexP
theorem al_keep {w : World} {k : Nat} {o : Obj} (h : w.heap[k]? = some o) (x : Obj) : (w.alloc x).heap[k]? = some o :=
 ((below_alloc w x).block k (Array.getElem?_eq_some_iff.1 h).1).trans h
theorem al_new {w : World} {k : Nat} (o : Obj) (h : k = w.heap.size) : (w.alloc o).heap[k]? = some o := by rw [h]; exact heap_alloc_new w o
theorem dr_keep {w : World} {k : Nat} {o : Obj} (h : w.heap[k]? = some o) : w.drew.heap[k]? = some o := h
theorem bw_alloc {w w' : World} (h : Below w.heap.size w w') (o : Obj) : Below w.heap.size w (w'.alloc o) := h.trans ((below_alloc w' o).mono h.size)
theorem bw_via {w w' w'' : World} {H : Nat} (hb : Below H w' w'') (hH : w.heap.size ≤ H) (h : Below w.heap.size w w') : Below w.heap.size w w'' := h.trans (hb.mono hH)
theorem bw_call {w w' w'' : World} (hb : Below w'.heap.size w' w'') (h : Below w.heap.size w w') : Below w.heap.size w w'' := h.trans (hb.mono h.size)
theorem frd_one {w : World} {b : Nat} {u : Value} {ks : List Int} (h : w.heap[b]? = some (.cells #[u] 41 (0, 0))) (hk : KA w u ks) : FRd w (.slice (some ⟨b, 0, none⟩) 1 1) [ks] := by
 refine ⟨_, 1, rfl, Nat.le_refl _, by unfold maxLen; omega, fun _ => ⟨b, 0, rfl, (Array.getElem?_eq_some_iff.1 h).1, fun j hj => ?_⟩⟩
 have hj0 : j = 0 := by simp at hj; omega
 subst hj0
 exact ⟨u, (cell_of_row _ _ _ _ _ _ h).trans rfl, ks, rfl, hk⟩
theorem step_copy_own {w : World} {ops : Array Oper} {o : Oper} {a : Act} {K : Act → World → Prop} {Q : Exit → Act → World → Prop} {E : Prop} (hgd : o.guard = none) (s x : Operand)
  (ho : o.op = .call { callee := .builtin .append, args := #[s, x], argTypes := #[41, 41] }) (H : Nat) (hs : a.eval s = .slice (some ⟨H, 0, none⟩) 0 0) (hH : w.heap[H]? = some (.cells #[] 3 (0, 0)))
  (v : Value) (ks : List Int) (hx : a.eval x = v) (hr : KA w v ks) (hl : ks.length ≤ 1073741824)
  (h : ∀ w' g ucap, Hid (w'.ownsRow H 3 1 (.slice (some ⟨g, 0, none⟩) ks.length ucap) ks.length (ks.map fun k => Value.int .i64 k)) → Hid (Below H w w') → Hid (∀ (k : Nat) (c : Array Value), w.heap[k]? = some (.cells c 41 (0, 0)) → w'.heap[k]? = some (.cells c 41 (0, 0))) → Hid (∀ (k : Nat) (c : Array Value), k ≠ H → w.heap[k]? = some (.cells c 3 (0, 0)) → w'.heap[k]? = some (.cells c 3 (0, 0))) → K (a.put o.dst (.slice (some ⟨g, 0, none⟩) ks.length ucap)) w') : if Region.wanted o (yielded ops a.tmps) = true then Oper.wp Tryz.prog o a w K Q else E := by
 have hHl := (Array.getElem?_eq_some_iff.1 hH).1
 obtain ⟨ao, cap, rfl, hc1, hc2, hsh⟩ := hr
 by_cases h0 : ks = []
 ·subst h0
  have hw : Region.wanted o (yielded ops a.tmps) = true := by simp [Region.wanted, hgd]
  rw [if_pos hw]
  unfold Oper.wp execOp
  simp only [ho, resolve, invoke, builtin, Sem.run_bind, Sem.run_pure, Result.andThen_ok, List.map_toArray, List.map_cons, List.map_nil, hs, hx, List.length_nil, app_none]
  exact h w H 0 ⟨rfl, .inr ⟨H, 0, #[], rfl, Nat.le_refl _, hH, Nat.le_refl _, by unfold maxLen; omega, rfl, rfl⟩⟩ (Below.refl _ _) (fun _ _ h => h) (fun _ _ _ h => h)
 ·have hl0 : 0 < ks.length := List.length_pos_iff.2 h0
  obtain ⟨x0, hx0⟩ : ∃ x0, ks[0]? = some x0 := ⟨_, List.getElem?_eq_getElem hl0⟩
  obtain ⟨g, o', rfl, -, -⟩ := hsh 0 x0 hx0
  obtain ⟨i0, hi, hz0, hz1, hz2⟩ := info_parts Tryz.infoInt
  refine step_append_lies w hgd s x 41 ho H 3 i0 (.int .i64 0) 1 8 Tryz.underlying41 hi hz0 hz1 hz2 rfl (by omega) (.slice (some ⟨H, 0, none⟩) 0 0) 0 [] hs
   ⟨rfl, .inr ⟨H, 0, #[], rfl, Nat.le_refl _, hH, Nat.le_refl _, by unfold maxLen; omega, rfl, rfl⟩⟩ ⟨g, o', none⟩ ks.length cap (ks.map fun k => Value.int .i64 k) hx (by simp) (fun j u hj => ?_) (fun u hu => ?_) hl0 (by unfold maxLen; omega) (by omega) (Nat.le_of_lt hHl) w.heap.size rfl ?_
  ·simp only [List.getElem?_map, Option.map_eq_some_iff] at hj
   obtain ⟨y, hy, rfl⟩ := hj
   obtain ⟨g', o'', e, -, hc⟩ := hsh j y hy
   cases e
   rw [add_ad]; exact hc
  ·simp only [List.mem_map] at hu
   obtain ⟨y, -, rfl⟩ := hu; rfl
  ·intro gg cap' w' hown hgrow hat hlt
   rw [Nat.zero_add, List.nil_append] at hown
   rw [Nat.zero_add]
   refine h w' _ _ hown (Below.grown (Below.refl _ _) hgrow (Nat.le_of_lt hHl) (fun q hq => by cases hq; exact Nat.le_refl _)) (fun k c hc => ?_) (fun k c hne hc => ?_)
   ·exact (hgrow.block k (Array.getElem?_eq_some_iff.1 hc).1 (fun e => by cases e; rw [hH] at hc; simp at hc)).trans hc
   ·exact (hgrow.block k (Array.getElem?_eq_some_iff.1 hc).1 (fun e => by cases e; exact hne rfl)).trans hc
theorem step_snoc_int {w : World} {ops : Array Oper} {o : Oper} {a : Act} {K : Act → World → Prop} {Q : Exit → Act → World → Prop} {E : Prop} (hgd : o.guard = none) (s x : Operand)
  (ho : o.op = .call { callee := .builtin .append, args := #[s, x], argTypes := #[41, 41] }) (H : Nat) (v : Value) (ks : List Int) (hs : a.eval s = v) (hown : w.ownsRow H 3 1 v ks.length (ks.map fun k => Value.int .i64 k))
  (b : Nat) (z : Int) (hx : a.eval x = .slice (some ⟨b, 0, none⟩) 1 1) (hb : w.heap[b]? = some (.cells #[.int .i64 z] 3 (0, 0))) (hl : ks.length ≤ 1073741824) (hH : H ≤ w.heap.size)
  (h : ∀ w' g ucap, Hid (KA w' (.slice (some ⟨g, 0, none⟩) (ks.length + 1) ucap) (ks ++ [z])) → Hid (Below H w w') → Hid (∀ (k : Nat) (c : Array Value), w.heap[k]? = some (.cells c 41 (0, 0)) → w'.heap[k]? = some (.cells c 41 (0, 0))) → K (a.put o.dst (.slice (some ⟨g, 0, none⟩) (ks.length + 1) ucap)) w') : if Region.wanted o (yielded ops a.tmps) = true then Oper.wp Tryz.prog o a w K Q else E := by
 obtain ⟨i0, hi, hz0, hz1, hz2⟩ := info_parts Tryz.infoInt
 refine step_append_lies w hgd s x 41 ho H 3 i0 (.int .i64 0) 1 8 Tryz.underlying41 hi hz0 hz1 hz2 rfl (by omega) v ks.length _ hs hown ⟨b, 0, none⟩ 1 1 [.int .i64 z] hx rfl (World.news_of_block hb) (by simp [Value.oneCell']) (by omega) (by unfold maxLen; omega) (by omega) hH w.heap.size rfl ?_
 intro g cap w' hown' hgrow hat hlt
 obtain ⟨ib, ib1, ib2, ib3⟩ := IntB.of_row (K := ks ++ [z]) (by rw [List.map_append]; exact hown') (by simp)
 have hka := ib.ka (n := ks.length + 1) (by simp) ib2 ib3
 rw [List.take_of_length_le (by simp)] at hka
 refine h w' g cap hka (Below.grown (Below.refl _ _) hgrow hH (fun q hq => (hown.lt q hq).1)) (fun k c hc => ?_)
 refine (hgrow.block k (Array.getElem?_eq_some_iff.1 hc).1 fun e => ?_).trans hc
 rcases hown.2 with ⟨e', -⟩ | ⟨g', cap', cur, rfl, -, hgg, -⟩
 ·rw [e'] at e; cases e
 ·cases e
  rw [hgg] at hc; simp at hc
theorem AtW.lens {w : World} {GA n B M : Nat} {l : List (Bool × List Nat)} {sh : Shp} (h : AtW w GA n B l sh) (hl : ∀ p ∈ l, p.2.length ≤ M) : ∀ s ∈ sh, s.2.1 ≤ M := by
 obtain ⟨cur, -, -, h3⟩ := h
 intro s hs
 obtain ⟨j, hj⟩ := List.getElem?_of_mem hs
 obtain ⟨b, xs, a1, a2, -⟩ := h3 j s hj
 rw [a2]; exact hl _ (List.mem_of_getElem? a1)
theorem HoldW.lens {w : World} {GH m B M : Nat} {fs : List (List Int)} {hs : Shp} (h : HoldW w GH m B fs hs) (hl : ∀ ks ∈ fs, ks.length ≤ M) : ∀ s ∈ hs, s.2.1 ≤ M := by
 obtain ⟨cur, -, -, -, h3⟩ := h
 intro s hs'
 obtain ⟨j, hj⟩ := List.getElem?_of_mem hs'
 obtain ⟨ks, a1, a2, -⟩ := h3 j s hj
 rw [a2]; exact hl _ (List.mem_of_getElem? a1)
theorem iww_two {w : World} {g : Nat} {b b2 : Bool} {m m2 : Value} {xs ys : List Nat} (h : w.heap[g]? = some (.cells #[.bool b, m, .bool b2, m2] 62 (0, 0))) (h1 : RdW w m xs) (h2 : RdW w m2 ys) : IWw w (.slice (some ⟨g, 0, none⟩) 2 2) [(b, xs), (b2, ys)] := by
 refine ⟨_, 2, rfl, Nat.le_refl _, by unfold maxLen; omega, fun _ => ⟨g, 0, rfl, (Array.getElem?_eq_some_iff.1 h).1, fun j p hj => ?_⟩⟩
 match j, hj with
 | 0, hj =>
  simp at hj; subst hj
  exact ⟨m, (cell_of_row _ _ _ _ _ _ h).trans rfl, (cell_of_row _ _ _ _ _ _ h).trans rfl, h1⟩
 | 1, hj =>
  simp at hj; subst hj
  exact ⟨m2, (cell_of_row _ _ _ _ _ _ h).trans rfl, (cell_of_row _ _ _ _ _ _ h).trans rfl, h2⟩
 | j + 2, hj => simp at hj
end Go.Proofs.YtgfmiladfeoldaaGreatDoor
