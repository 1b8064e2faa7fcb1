/- Joined texts of this claim's proof: WtI, LwB, LwC, LwD, LwE, SyRow. -/
import Derived.Test.YtgfmiladfeoldaaGreatDoorPl42
import Derived.Test.YtgfmiladfeoldaaGreatDoorPl45
import Derived.Test.YtgfmiladfeoldaaGreatDoorPl36
import Derived.Test.YtgfmiladfeoldaaGreatDoorPl22
import Derived.Test.YtgfmiladfeoldaaGreatDoorRows
import Derived.Test.YtgfmiladfeoldaaGreatDoorPl15
import Derived.Test.YtgfmiladfeoldaaGreatDoorPl4
import Derived.ProofKit
import Derived.OpenShut
import Derived.ShutString
import Derived.JoinedCond
import Derived.HandedShaped
import Derived.Below
import Derived.ReadAgain
import Derived.ChangeOld
import Derived.Deep.DeepHandedRow
import Derived.Lib.LaidTab
import Derived.MakeChecks
set_option linter.unusedSimpArgs false
set_option linter.unusedVariables false
namespace Go.Proofs.YtgfmiladfeoldaaGreatDoor
open Go.RowKit NatP LexP
def PrPost (n : SynP.Ln) (w : World) (e : Ending) (w' : World) : Prop :=
 (if 100 < n.dp then e = .returned (.tuple #[.string .empty, .int .i64 5]) else e = .returned (.tuple #[.string ⟨n.pr.toArray⟩, .int .i64 0])) ∧ Below w.heap.size w w'
theorem WrS.new (w : World) (tv : Value) : WrS (w.alloc (.cells #[tv, .pointer none, .slice none 0 0, .int .i64 0, .int .i64 0] 92)) w.heap.size tv (.slice none 0 0) [] 0 0 :=
 ⟨⟨.pointer none, .inl rfl, heap_alloc_new _ _⟩, ⟨rfl, .inl ⟨rfl, rfl⟩⟩, Nat.le_refl _⟩
set_option maxRecDepth 100000 in
set_option maxHeartbeats 2000000 in
theorem print_good (n : SynP.Ln) (v : Value) (w : World) (B : Nat) (hf : LnFit n) (hv : NdL w B v (SynP.nL n.flat)) (hB : B ≤ w.heap.size) (hx : Lx w) (hs : SG w) (hsz : 4 < w.heap.size) :
  Calls Tryz.prog 14 #[v] w (PrPost n w) := by
 have hlen : (SynP.nL n.flat).length = n.size := by rw [SynP.nL, List.length_map, ln_size]
 have hm4 := hf.size
 have hm0 : 0 < n.size := by cases n <;> simp [SynP.Ln.size]
 have HC := Lib.hid (grown_any v (SynP.nL n.flat) w B (by rw [hlen]; exact hm4) hf.txt hv hB hx hs hsz)
 have HG := Lib.hid (fit_grown hf.wf)
 have HV := Lib.hid hv
 have HF := Lib.hid hf
 have HL := Lib.hid hlen
 obtain ⟨ao, cap, rfl, -⟩ := hv
 rw [hlen] at HC HV ⊢
 rw [hlen] at HG
 obtain ⟨m, hmm⟩ : ∃ m, m = n.size := ⟨_, rfl⟩
 rw [← hmm] at hm4 hm0 HC HV HG HL ⊢
 have HMM := Lib.hid hmm
 have hm1 : ((m : Nat) : Int) - 1 = ((m - 1 : Nat) : Int) := by omega
 have HM1 := Lib.hid hm1
 clear hmm hf hx hs hlen hm1
 go_enter Tryz.func14, Tryz.ntmps14
 go_wp2_with fail
 refine HC.out.mono ?_
 rintro e w1 ⟨rfl, hb⟩
 rw [HG.out]
 have HB1 := Lib.hid hb
 have hz1 := hb.size
 clear hb
 go_wp2_with fail
 trace_state
 obtain ⟨w2, hw2⟩ : ∃ w2, w2 = w1.alloc (.cells #[.slice ao m cap, .pointer none, .slice none 0 0, .int .i64 0, .int .i64 0] 92) := ⟨_, rfl⟩
 have HW2 : Hid (WrS w2 w1.heap.size (.slice ao m cap) (.slice none 0 0) [] 0 0) := by show WrS _ _ _ _ _ _ _; rw [hw2]; exact WrS.new _ _
 have HBB : Hid (Below w1.heap.size w1 w2) := by show Below _ _ _; rw [hw2]; exact below_alloc _ _
 rw [← hw2, HM1.out]
 clear hw2
 obtain ⟨R, hR⟩ : ∃ R, R = w1.heap.size := ⟨_, rfl⟩
 rw [← hR] at HW2 HBB hz1 ⊢
 have HR := Lib.hid hR
 clear hR
 have HND : Hid (NdL w2 R (.slice ao m cap) (SynP.nL n.flat)) := (HV.out.up (HB1.out.mono hB) (by omega)).below HBB.out
 rw [HMM.out]
 refine (ln_all n (SynP.nL n.flat) R (.slice ao m cap) (.slice none 0 0) [] 0 0 w2 HW2.out HND.out (SynP.SegN.all _) (by have := HF.out.prl; simp; omega) (by have := HMM.out; omega)).mono ?_
 rintro e w3 ⟨rfl, bv, a1, a2, -⟩
 have HA1 := Lib.hid a1
 have HB3 : Hid (Below w.heap.size w w3) := by
  refine Wr.belowR (R := R) a2 ?_ hz1
  exact HB1.out.trans (HBB.out.mono hz1)
 obtain ⟨-, -, c4⟩ := a1.cells
 have hmx : max 0 (0 + n.dp) = n.dp := by omega
 rw [hmx] at c4
 clear a1 a2 hmx
 by_cases hd : 100 < n.dp
 ·have hd2 : decide ((100 : Int) < (n.dp : Nat)) = true := decide_eq_true (by omega)
  have HD := Lib.hid hd
  clear hd
  go_wp2_with fail
  go_ret2
  unfold PrPost
  rw [if_pos HD.out]
  exact ⟨rfl, HB3.out⟩
 ·have hd2 : decide ((100 : Int) < (n.dp : Nat)) = false := decide_eq_false (by omega)
  have HD := Lib.hid hd
  clear hd
  go_wp2_with fail
  refine (bld_string R (.slice ao m cap) bv _ _ _ w3 HA1.out).mono ?_
  rintro e w4 ⟨rfl, hb4⟩
  have HB4 := Lib.hid (HB3.out.trans (hb4.mono hz1))
  clear hb4
  go_wp2_with fail
  go_ret2
  unfold PrPost
  rw [if_neg HD.out]
  exact ⟨rfl, HB4.out⟩
end Go.Proofs.YtgfmiladfeoldaaGreatDoor
namespace Go.Proofs.YtgfmiladfeoldaaGreatDoor
open Go.RowKit NatP LexP
end Go.Proofs.YtgfmiladfeoldaaGreatDoor
namespace Go.Proofs.YtgfmiladfeoldaaGreatDoor
open Go.RowKit NatP LexP
def KA (w : World) (v : Value) (ks : List Int) : Prop := ∃ ao cap, v = .slice ao ks.length cap ∧ ks.length ≤ cap ∧ cap ≤ maxLen ∧
  ∀ j k, ks[j]? = some k → ∃ g o, ao = some ⟨g, o, none⟩ ∧ g < w.heap.size ∧ w.cell? ⟨g, o + j, none⟩ = some (.int .i64 k)
def NdA (w : World) (v : Value) (l : List SynP.NI) : Prop := ∃ ao cap, v = .slice ao l.length cap ∧ l.length ≤ cap ∧ cap ≤ maxLen ∧
  ∀ j x, l[j]? = some x → ∃ g o, ao = some ⟨g, o, none⟩ ∧ g < w.heap.size ∧ w.cell? ⟨g, o + j * 3, none⟩ = some (.int .i64 x.op) ∧ w.cell? ⟨g, o + j * 3 + 1, none⟩ = some (.string ⟨x.text.toArray⟩) ∧ ∃ kv, w.cell? ⟨g, o + j * 3 + 2, none⟩ = some kv ∧ KA w kv x.kids
theorem KL.ka {w : World} {B : Nat} {v : Value} {ks : List Int} (h : KL w B v ks) (hB : B ≤ w.heap.size) : KA w v ks := by
 obtain ⟨ao, cap, rfl, h1, h2, h3⟩ := h
 refine ⟨ao, cap, rfl, h1, h2, fun j x hj => ?_⟩
 obtain ⟨g, rfl, h5, h6⟩ := h3 (by have := (List.getElem?_eq_some_iff.1 hj).1; omega)
 exact ⟨g, 0, rfl, Nat.lt_of_lt_of_le h5 hB, by rw [Nat.zero_add]; exact h6 j x hj⟩
theorem NdL.nda {w : World} {B : Nat} {v : Value} {l : List SynP.NI} (h : NdL w B v l) (hB : B ≤ w.heap.size) : NdA w v l := by
 obtain ⟨ao, cap, rfl, h1, h2, h3⟩ := h
 refine ⟨ao, cap, rfl, h1, h2, fun j x hj => ?_⟩
 obtain ⟨g, rfl, h5, h6⟩ := h3 (by have := (List.getElem?_eq_some_iff.1 hj).1; omega)
 obtain ⟨a, b, kv, c, d⟩ := h6 j x hj
 exact ⟨g, 0, rfl, Nat.lt_of_lt_of_le h5 hB, by rw [Nat.zero_add]; exact a, by rw [Nat.zero_add]; exact b, kv, by rw [Nat.zero_add]; exact c, d.ka hB⟩
theorem KA.below {w w' : World} {v : Value} {ks : List Int} (h : KA w v ks) (hb : Below w.heap.size w w') : KA w' v ks := by
 obtain ⟨ao, cap, rfl, h1, h2, h3⟩ := h
 refine ⟨ao, cap, rfl, h1, h2, fun j x hj => ?_⟩
 obtain ⟨g, o, rfl, h5, h6⟩ := h3 j x hj
 exact ⟨g, o, rfl, Nat.lt_of_lt_of_le h5 hb.size, (hb.cell (p := ⟨g, o + j, none⟩) h5).trans h6⟩
theorem NdA.below {w w' : World} {v : Value} {l : List SynP.NI} (h : NdA w v l) (hb : Below w.heap.size w w') : NdA w' v l := by
 obtain ⟨ao, cap, rfl, h1, h2, h3⟩ := h
 refine ⟨ao, cap, rfl, h1, h2, fun j x hj => ?_⟩
 obtain ⟨g, o, rfl, h5, a, b, kv, c, d⟩ := h3 j x hj
 exact ⟨g, o, rfl, Nat.lt_of_lt_of_le h5 hb.size, (hb.cell (p := ⟨g, o + j * 3, none⟩) h5).trans a, (hb.cell (p := ⟨g, o + j * 3 + 1, none⟩) h5).trans b, kv, (hb.cell (p := ⟨g, o + j * 3 + 2, none⟩) h5).trans c, d.below hb⟩
theorem NdA.nil (w : World) : NdA w (.slice none 0 0) [] := ⟨none, 0, rfl, Nat.le_refl _, Nat.zero_le _, fun j x h => by cases h⟩
def CtO (l : List SynP.NI) (w : World) (iv : Value) (wr : World) : Prop :=
 ∃ (i : Nat) (cur : Array Value), i ≤ l.length ∧ iv = .int .i64 (i : Nat) ∧ wr.heap[w.heap.size]? = some (.cells cur 43 (0, 0)) ∧ cur.size = l.length * 3 ∧
  (∀ j x, j < i → l[j]? = some x → cur[j * 3]? = some (.int .i64 x.op) ∧ cur[j * 3 + 1]? = some (.string ⟨x.text.toArray⟩) ∧ ∃ kv, cur[j * 3 + 2]? = some kv ∧ wr.ownsRow (w.heap.size + 1) 3 1 kv x.kids.length (x.kids.map fun k => Value.int .i64 k)) ∧ Below w.heap.size w wr
theorem KL.of_row {w : World} {b : Nat} {v : Value} {ks : List Int} (h : w.ownsRow b 3 1 v ks.length (ks.map fun k => Value.int .i64 k)) : KL w w.heap.size v ks := by
 obtain ⟨ao, cap, rfl, h1, h2, h3⟩ := ownsRow_shape h
 refine ⟨ao, cap, rfl, h1, h2, fun h0 => ?_⟩
 obtain ⟨g, rfl, -, h5, h6⟩ := h3 h0
 refine ⟨g, rfl, h5, fun j k hj => ?_⟩
 rw [h6 j (by have := (List.getElem?_eq_some_iff.1 hj).1; omega), List.getElem?_map, hj]
 rfl
theorem CtO.done {l : List SynP.NI} {w wr : World} (h : CtO l w (.int .i64 (l.length : Nat)) wr) (hm : l.length ≤ maxLen) : NdL wr wr.heap.size (.slice (some ⟨w.heap.size, 0, none⟩) l.length l.length) l := by
 obtain ⟨i, cur, h1, h2, h3, h4, h5, h6⟩ := h
 simp only [Value.int.injEq, true_and, Int.ofNat_inj] at h2
 subst h2
 refine ⟨_, _, rfl, Nat.le_refl _, hm, fun h0 => ⟨_, rfl, (Array.getElem?_eq_some_iff.1 h3).1, fun j x hj => ?_⟩⟩
 obtain ⟨a, b, kv, c, d⟩ := h5 j x (List.getElem?_eq_some_iff.1 hj).1 hj
 refine ⟨by rw [cell_of_row _ _ _ _ _ _ h3]; exact a, by rw [cell_of_row _ _ _ _ _ _ h3]; exact b, kv, by rw [cell_of_row _ _ _ _ _ _ h3]; exact c, KL.of_row d⟩
theorem app_none (w : World) (ty : TypeId) (H : Nat) (ko : Option Addr) (kcap : Nat) :
  (Builtin.append_ #[41, 41] ty #[.slice (some ⟨H, 0, none⟩) 0 0, .slice ko 0 kcap]).run Tryz.prog w = .ok (.slice (some ⟨H, 0, none⟩) 0 0) w := by
 obtain ⟨i0, hi, hz0, hz1, hz2⟩ := info_parts Tryz.infoInt
 cases ko <;> simp [Builtin.append_, run_underlying Tryz.underlying41, sizeOf, typeInfo, hi, Builtin.lenOf, Builtin.firstCells, storeCells, loadCells, loadCellsFrom]
theorem step_append_none {w : World} {ops : Array Oper} {o : Oper} {a : Act} {K : Act → World → Prop} {Q : Exit → Act → World → Prop} {E : Prop} (hgd : o.guard = none) (s x : Operand)
  (ho : o.op = .call { callee := .builtin .append, args := #[s, x], argTypes := #[41, 41] }) (H : Nat) (ko : Option Addr) (kcap : Nat) (hs : a.eval s = .slice (some ⟨H, 0, none⟩) 0 0) (hx : a.eval x = .slice ko 0 kcap)
  (h : ∀ w', Hid (w' = w) → K (a.put o.dst (.slice (some ⟨H, 0, none⟩) 0 0)) w') : if Region.wanted o (yielded ops a.tmps) = true then Oper.wp Tryz.prog o a w K Q else E := by
 have hw : Region.wanted o (yielded ops a.tmps) = true := by simp [Region.wanted, hgd]
 rw [if_pos hw]
 unfold Oper.wp execOp
 simp only [ho, resolve, invoke, builtin, Sem.run_bind, Sem.run_pure, Result.andThen_ok, List.map_toArray, List.map_cons, List.map_nil, hs, hx, app_none]
 exact h _ rfl
theorem isSome_set {w : World} {p q : Addr} {x : Value} (h : (w.cell? q).isSome = true) : ((w.setCell p x).cell? q).isSome = true := by
 obtain ⟨v, hv⟩ := Option.isSome_iff_exists.1 h
 obtain ⟨v', hv'⟩ := cell?_setCell_some (p := p) (x := x) hv
 rw [hv']; rfl
theorem add_ad (g o k : Nat) : (⟨g, o, none⟩ : Addr).add k = ⟨g, o + k, none⟩ := by simp [Addr.add]
theorem ownsRow_keep {w w' : World} {b : Nat} {e : TypeId} {z : Nat} {v : Value} {n : Nat} {xs : List Value} (h : w.ownsRow b e z v n xs) (hk : ∀ g, v.ownBlock = some g → b ≤ g → g < w.heap.size → w'.heap[g]? = w.heap[g]?) : w'.ownsRow b e z v n xs := by
 refine ⟨h.1, ?_⟩
 rcases h.2 with hn | ⟨g, cap, cur, rfl, hb, hgg, rest⟩
 ·exact .inl hn
 ·exact .inr ⟨g, cap, cur, rfl, hb, (hk g rfl hb (Array.getElem?_eq_some_iff.1 hgg).1).trans hgg, rest⟩
theorem CtO.step {l : List SynP.NI} {w wr w2 : World} {i : Nat} {cur : Array Value} {op : Int} {text : Bytes} {kids : List Int} {T : ByteArray} {kv : Value} (hi : i < l.length) (hx : l[i]? = some ⟨op, text, kids⟩) (hT : T = ⟨text.toArray⟩)
  (hG : wr.heap[w.heap.size]? = some (.cells cur 43 (0, 0))) (hcs : cur.size = l.length * 3)
  (hok : ∀ j x, j < i → l[j]? = some x → cur[j * 3]? = some (.int .i64 x.op) ∧ cur[j * 3 + 1]? = some (.string ⟨x.text.toArray⟩) ∧ ∃ kv, cur[j * 3 + 2]? = some kv ∧ wr.ownsRow (w.heap.size + 1) 3 1 kv x.kids.length (x.kids.map fun k => Value.int .i64 k))
  (hb : Below w.heap.size w wr) (hg : Below wr.heap.size wr w2) (hown : w2.ownsRow (w.heap.size + 1) 3 1 kv kids.length (kids.map fun k => Value.int .i64 k)) :
  CtO l w (.int .i64 ((i + 1 : Nat) : Int)) (((w2.setCell ⟨w.heap.size, i * 3, none⟩ (.int .i64 op)).setCell ⟨w.heap.size, i * 3 + 1, none⟩ (.string T)).setCell ⟨w.heap.size, i * 3 + 2, none⟩ kv) := by
 have hgl := (Array.getElem?_eq_some_iff.1 hG).1
 have hG2 : w2.heap[w.heap.size]? = some (.cells cur 43 (0, 0)) := (hg.block _ hgl).trans hG
 have s0 := heap_setCell_same w2 w.heap.size (i * 3) _ 43 (.int .i64 op) hG2
 have s1 := heap_setCell_same _ w.heap.size (i * 3 + 1) _ 43 (.string T) s0
 have s2 := heap_setCell_same _ w.heap.size (i * 3 + 2) _ 43 kv s1
 have hoth : ∀ g, g ≠ w.heap.size → (((w2.setCell ⟨w.heap.size, i * 3, none⟩ (.int .i64 op)).setCell ⟨w.heap.size, i * 3 + 1, none⟩ (.string T)).setCell ⟨w.heap.size, i * 3 + 2, none⟩ kv).heap[g]? = w2.heap[g]? := fun g hne =>
  (heap_setCell_other _ ⟨w.heap.size, i * 3 + 2, none⟩ g _ hne).trans ((heap_setCell_other _ ⟨w.heap.size, i * 3 + 1, none⟩ g _ hne).trans (heap_setCell_other _ ⟨w.heap.size, i * 3, none⟩ g _ hne))
 refine ⟨i + 1, _, by omega, rfl, s2, by simp [hcs], fun j x hj hjx => ?_, ?_⟩
 ·by_cases hji : j = i
  ·subst hji
   rw [hx] at hjx
   cases hjx
   refine ⟨?_, ?_, kv, ?_, ?_⟩
   ·simp [Array.getElem?_setIfInBounds]; omega
   ·simp [Array.getElem?_setIfInBounds, hT]; omega
   ·simp [Array.getElem?_setIfInBounds]; omega
   ·exact ownsRow_keep hown (fun g _ h1 _ => hoth g (by omega))
  ·obtain ⟨a, b, kv', c, d⟩ := hok j x (by omega) hjx
   refine ⟨?_, ?_, kv', ?_, ?_⟩
   ·rw [← a]; simp [Array.getElem?_setIfInBounds]; rw [if_neg (by omega), if_neg (by omega), if_neg (by omega)]
   ·rw [← b]; simp [Array.getElem?_setIfInBounds]; rw [if_neg (by omega), if_neg (by omega), if_neg (by omega)]
   ·rw [← c]; simp [Array.getElem?_setIfInBounds]; rw [if_neg (by omega), if_neg (by omega), if_neg (by omega)]
   ·exact ownsRow_keep d (fun g _ h1 h2 => (hoth g (by omega)).trans (hg.block g h2))
 ·exact (((hb.trans (hg.mono hb.size)).setCell (p := ⟨w.heap.size, i * 3, none⟩) (Nat.le_refl _) _).setCell (p := ⟨w.heap.size, i * 3 + 1, none⟩) (Nat.le_refl _) _).setCell (p := ⟨w.heap.size, i * 3 + 2, none⟩) (Nat.le_refl _) _
set_option maxRecDepth 100000 in
set_option maxHeartbeats 8000000 in
theorem copy_any (v : Value) (l : List SynP.NI) (w : World) (hl : l.length ≤ 4194304) (hk : ∀ x ∈ l, x.kids.length ≤ 4194304) (hv : NdA w v l) :
    Calls Tryz.prog 15 #[v] w fun e w' => ∃ u, e = .returned u ∧ NdL w' w'.heap.size u l ∧ Below w.heap.size w w' := by
  obtain ⟨i0, hi, hz0, hz1, hz2⟩ := info_parts Tryz.infoInt
  obtain ⟨j0, hj, hy0, hy1, hy2⟩ := info_parts Tryz.infoNd
  have HV := Lib.hid hv
  have HK := Lib.hid hk
  obtain ⟨ao, cap, rfl, hnc, hcm, -⟩ := hv
  have hcap63 : cap ≤ 9223372036854775807 := by unfold maxLen at hcm; omega
  obtain ⟨n, hn⟩ : ∃ n, n = l.length := ⟨_, rfl⟩
  rw [← hn] at hl hnc ⊢
  have HN := Lib.hid hn
  clear hn hk hcm
  go_enter Tryz.func15, Tryz.ntmps15
  go_wp2_with (at_make; refine wpList_make_full _ rfl _ _ 23 rfl w.heap.size 43 j0 (.agg #[.int .i64 0, .string ⟨#[]⟩, .slice none 0 0]) 3 Tryz.underlying23 hj hy0 hy1 _ _ _ _ n rfl rfl rfl rfl (by rw [hy2]; omega) (by unfold maxLen; omega) (Nat.le_refl _) ?_)
  intro w1 hown1 hgrow1
  have HB1 : Hid (Below w.heap.size w w1) := ⟨hgrow1.os, hgrow1.tape, hgrow1.output, hgrow1.size, fun k hk => hgrow1.block k hk (by simp)⟩
  have HST : Hid (CtO l w (.int .i64 0) w1) := by
    obtain ⟨o1, o2⟩ := hown1
    rcases o2 with ⟨h, -⟩ | ⟨g, cp, cur, h, -, h2, -, -, h3, -⟩
    · cases h
    · cases h
      exact ⟨0, cur, Nat.zero_le _, rfl, h2, by rw [← HN.out]; exact h3, fun j x hj _ => absurd hj (Nat.not_lt_zero _), HB1.out⟩
  clear hown1 hgrow1 HB1
  go_wp2_with fail
  go_loopw [4] (fun iv wr => CtO l w iv wr) (fun iv _ => n - (intOf iv).toNat)
  case atStart => exact HST.out
  clear HST
  case round =>
    have hrel0 := hrel
    obtain ⟨i, cur, hi', rfl, hG, hcs, hok, hb⟩ := hrel
    rw [← HN.out] at hi' hcs
    have HG := Lib.hid hG
    have HOK := Lib.hid hok
    have HB := Lib.hid hb
    have HREL := Lib.hid hrel0
    have hzb := hb.size
    have hgl := (Array.getElem?_eq_some_iff.1 hG).1
    clear hok hrel0
    by_cases hlt : i < n
    · obtain ⟨x, hx⟩ : ∃ x, l[i]? = some x := ⟨_, List.getElem?_eq_getElem (by rw [← HN.out]; exact hlt)⟩
      have HXX := Lib.hid hx
      have hkx : x.kids.length ≤ 4194304 := HK.out x (List.mem_of_getElem? hx)
      obtain ⟨ao2, cap2, he, -, -, hc⟩ := HV.out.below hb
      cases he
      obtain ⟨gt, ot, rfl, hgt, e0, e1, kv, e2, hka⟩ := hc i x hx
      obtain ⟨a2, c2, he, -, -, hc2⟩ := HV.out
      cases he
      obtain ⟨gt', ot', q, hgt', -⟩ := hc2 i x hx
      cases q
      have HKA := Lib.hid hka
      obtain ⟨ko, kcap, rfl, k1, k2, k3⟩ := hka
      have hk63 : kcap ≤ 9223372036854775807 := by unfold maxLen at k2; omega
      obtain ⟨op, text, kids⟩ := x
      simp only at e0 e1 e2 hkx k1 k3 HKA
      obtain ⟨k, hke⟩ : ∃ k, k = kids.length := ⟨_, rfl⟩
      rw [← hke] at e2 k1 hkx
      obtain ⟨T, hT⟩ : ∃ T : ByteArray, T = ⟨text.toArray⟩ := ⟨_, rfl⟩
      rw [← hT] at e1
      have HTT := Lib.hid hT
      have HKE := Lib.hid hke
      clear hc hc2 hx hT
      obtain ⟨g0, hg0⟩ : ∃ g0, g0 = w.heap.size := ⟨_, rfl⟩
      have HG0 := Lib.hid hg0
      rw [← hg0] at hG hgl HG hzb hgt' ⊢
      have z0 : wr.frozen? ⟨g0, i * 3, none⟩ = false := frozen_of_row _ _ _ _ _ hG
      have z1 : wr.frozen? ⟨g0, i * 3 + 1, none⟩ = false := frozen_of_row _ _ _ _ _ hG
      have z2 : wr.frozen? ⟨g0, i * 3 + 2, none⟩ = false := frozen_of_row _ _ _ _ _ hG
      have hGA : (wr.alloc (.cells #[] 3)).heap[g0]? = some (.cells cur 43 (0, 0)) := ((below_alloc wr (.cells #[] 3)).block g0 hgl).trans hG
      have za0 : (wr.alloc (.cells #[] 3)).frozen? ⟨g0, i * 3, none⟩ = false := frozen_of_row _ _ _ _ _ hGA
      have za1 : (wr.alloc (.cells #[] 3)).frozen? ⟨g0, i * 3 + 1, none⟩ = false := frozen_of_row _ _ _ _ _ hGA
      have za2 : (wr.alloc (.cells #[] 3)).frozen? ⟨g0, i * 3 + 2, none⟩ = false := frozen_of_row _ _ _ _ _ hGA
      have HGA := Lib.hid hGA
      clear hGA
      have y0 : (wr.cell? ⟨g0, i * 3, none⟩).isSome = true := by rw [cell_of_row _ _ _ _ _ _ hG, Array.getElem?_eq_getElem (by omega)]; rfl
      have y1 : (wr.cell? ⟨g0, i * 3 + 1, none⟩).isSome = true := by rw [cell_of_row _ _ _ _ _ _ hG, Array.getElem?_eq_getElem (by omega)]; rfl
      have y2 : (wr.cell? ⟨g0, i * 3 + 2, none⟩).isSome = true := by rw [cell_of_row _ _ _ _ _ _ hG, Array.getElem?_eq_getElem (by omega)]; rfl
      have ya0 : ((wr.alloc (.cells #[] 3)).cell? ⟨g0, i * 3, none⟩).isSome = true := by rw [(below_alloc wr (.cells #[] 3)).cell (p := ⟨g0, i * 3, none⟩) hgl]; exact y0
      have ya1 : ((wr.alloc (.cells #[] 3)).cell? ⟨g0, i * 3 + 1, none⟩).isSome = true := by rw [(below_alloc wr (.cells #[] 3)).cell (p := ⟨g0, i * 3 + 1, none⟩) hgl]; exact y1
      have ya2 : ((wr.alloc (.cells #[] 3)).cell? ⟨g0, i * 3 + 2, none⟩).isSome = true := by rw [(below_alloc wr (.cells #[] 3)).cell (p := ⟨g0, i * 3 + 2, none⟩) hgl]; exact y2
      have hne : g0 ≠ gt := by omega
      obtain ⟨U, hU⟩ : ∃ U : Nat → World → Value, ∀ j w', (w'.cell? ⟨g0, j, none⟩).isSome = true → w'.cell? ⟨g0, j, none⟩ = some (U j w') :=
        ⟨fun j w' => (w'.cell? ⟨g0, j, none⟩).getD undef, fun j w' h => by obtain ⟨v, hv⟩ := Option.isSome_iff_exists.1 h; simp [hv]⟩
      have HU := Lib.hid hU
      clear hU
      have Y0 := Lib.hid y0
      have Y1 := Lib.hid y1
      have Y2 := Lib.hid y2
      have YA0 := Lib.hid ya0
      have YA1 := Lib.hid ya1
      have YA2 := Lib.hid ya2
      clear y0 y1 y2 ya0 ya1 ya2
      have hzlt : gt < wr.heap.size := hgt
      have hstep : ∀ (w2 : World) (kv : Value), Below wr.heap.size wr w2 → w2.ownsRow (g0 + 1) 3 1 kv kids.length (kids.map fun k => Value.int .i64 k) →
          CtO l w (.int .i64 ((i : Int) + 1)) (((w2.setCell ⟨g0, i * 3, none⟩ (.int .i64 op)).setCell ⟨g0, i * 3 + 1, none⟩ (.string T)).setCell ⟨g0, i * 3 + 2, none⟩ kv) := by
        intro w2 kv hgb hown
        have e := CtO.step (l := l) (w := w) (i := i) (text := text) (T := T) (by rw [← HN.out]; exact hlt) HXX.out HTT.out (by rw [← HG0.out]; exact hG) (by rw [← HN.out]; exact hcs) HOK.out HB.out hgb (by rw [← HG0.out]; exact hown) (op := op) (kv := kv)
        rw [← HG0.out, show (((i + 1 : Nat)) : Int) = (i : Int) + 1 by omega] at e
        exact e
      have HSTEP := Lib.hid hstep
      clear hstep
      have hwi1 : IntKind.i64.wrap ((i : Int) + 1) = (i : Int) + 1 := IntWalk.i64_in _ (by omega)
      by_cases hk0 : k = 0
      · subst hk0
        have hkn : kids = [] := List.eq_nil_of_length_eq_zero HKE.out.symm
        have HFF : Hid (∀ w2, w2 = (wr.alloc (.cells #[] 3)).drew → Hid (CtO l w (.int .i64 ((i : Int) + 1)) (((w2.setCell ⟨g0, i * 3, none⟩ (.int .i64 op)).setCell ⟨g0, i * 3 + 1, none⟩ (.string T)).setCell ⟨g0, i * 3 + 2, none⟩ (.slice (some ⟨wr.heap.size, 0, none⟩) 0 0)))) := by
          intro w2 e
          subst e
          refine HSTEP.out _ _ ((below_alloc wr (.cells #[] 3)).drew) ?_
          subst hkn
          exact (World.ownsRow_lit wr #[] 0 (by omega) (by unfold maxLen; omega) rfl).drew
        clear k3 hke hg0 hkn
        go_wp2_with fail
        go_region_held3 (fun w' => w'.cell? ⟨gt, ot + i * 3, none⟩ = some (.int .i64 op) ∧ w'.cell? ⟨gt, ot + i * 3 + 1, none⟩ = some (.string T) ∧ w'.cell? ⟨gt, ot + i * 3 + 2, none⟩ = some (.slice ko 0 kcap) ∧ w'.frozen? ⟨g0, i * 3, none⟩ = false ∧ w'.frozen? ⟨g0, i * 3 + 1, none⟩ = false ∧ w'.frozen? ⟨g0, i * 3 + 2, none⟩ = false ∧ w'.cell? ⟨g0, i * 3, none⟩ = some (U (i * 3) w') ∧ w'.cell? ⟨g0, i * 3 + 1, none⟩ = some (U (i * 3 + 1) w') ∧ w'.cell? ⟨g0, i * 3 + 2, none⟩ = some (U (i * 3 + 2) w'))
          (first
            | (refine ⟨?_, ?_, ?_, ?_, ?_, ?_, HU.out _ _ (by exact Y0.out), HU.out _ _ (by exact Y1.out), HU.out _ _ (by exact Y2.out)⟩ <;> go_keep)
            | (refine ⟨?_, ?_, ?_, by exact za0, by exact za1, by exact za2, HU.out _ _ (by exact YA0.out), HU.out _ _ (by exact YA1.out), HU.out _ _ (by exact YA2.out)⟩ <;> go_keep)
            | (rw [hw2.out]; refine ⟨?_, ?_, ?_, by exact za0, by exact za1, by exact za2, HU.out _ _ (by exact YA0.out), HU.out _ _ (by exact YA1.out), HU.out _ _ (by exact YA2.out)⟩ <;> go_keep)
            | (go_split_ands
               refine ⟨?_, ?_, ?_, ?_, ?_, ?_, HU.out _ _ (isSome_set (isSome_set (isSome_set ?_))), HU.out _ _ (isSome_set (isSome_set (isSome_set ?_))), HU.out _ _ (isSome_set (isSome_set (isSome_set ?_)))⟩ <;> go_keep))
          ((refine step_append_none (by rfl) _ _ (by rfl) wr.heap.size ko kcap (by rfl) (by rfl) ?_; intro w2 hw2))
        have HF := HFF.out w2 hw2.out
        clear HFF hw2
        go_wp2_with fail
        first | exact ⟨HF.out, by simp [intOf]; omega⟩ | exact ⟨by (repeat apply Exists.intro); exact ⟨HF.out, rfl⟩, by simp [intOf]; omega⟩
      · obtain ⟨gk, ok, hko, hgk, -⟩ := k3 0 kids[0] (by rw [List.getElem?_eq_getElem (by omega)])
        subst hko
        have hnews : ∀ j u, (kids.map fun k => Value.int .i64 k)[j]? = some u → wr.cell? ⟨gk, ok + j, none⟩ = some u := by
          intro j u hj
          rw [List.getElem?_map] at hj
          cases hp : kids[j]? with
          | none => rw [hp] at hj; cases hj
          | some y =>
            rw [hp] at hj
            cases hj
            obtain ⟨g2, o2, q, -, h3⟩ := k3 j y hp
            cases q
            exact h3
        have HNW := Lib.hid hnews
        have hnl : (kids.map fun k => Value.int .i64 k).length = k * 1 := by rw [List.length_map, ← HKE.out]; omega
        have HNL := Lib.hid hnl
        have hones : ∀ u ∈ kids.map fun k => Value.int .i64 k, u.oneCell' = true := fun u hu => by obtain ⟨z, -, rfl⟩ := List.mem_map.1 hu; rfl
        have HONE := Lib.hid hones
        have HOW : Hid ((wr.alloc (.cells #[] 3)).drew.ownsRow (g0 + 1) 3 1 (.slice (some ⟨wr.heap.size, 0, none⟩) 0 0) 0 []) := (World.ownsRow_lit wr #[] 0 (by omega) (by unfold maxLen; omega) rfl).drew
        have hba : Below wr.heap.size wr (wr.alloc (.cells #[] 3)) := below_alloc _ _
        have HBA := Lib.hid hba
        clear k3 hnews hke hnl hones hba hg0
        go_wp2_with fail
        go_region_held3 (fun w' => w'.cell? ⟨gt, ot + i * 3, none⟩ = some (.int .i64 op) ∧ w'.cell? ⟨gt, ot + i * 3 + 1, none⟩ = some (.string T) ∧ w'.cell? ⟨gt, ot + i * 3 + 2, none⟩ = some (.slice (some ⟨gk, ok, none⟩) k kcap) ∧ w'.frozen? ⟨g0, i * 3, none⟩ = false ∧ w'.frozen? ⟨g0, i * 3 + 1, none⟩ = false ∧ w'.frozen? ⟨g0, i * 3 + 2, none⟩ = false ∧ w'.cell? ⟨g0, i * 3, none⟩ = some (U (i * 3) w') ∧ w'.cell? ⟨g0, i * 3 + 1, none⟩ = some (U (i * 3 + 1) w') ∧ w'.cell? ⟨g0, i * 3 + 2, none⟩ = some (U (i * 3 + 2) w'))
          (first
            | (refine ⟨?_, ?_, ?_, ?_, ?_, ?_, HU.out _ _ (by exact Y0.out), HU.out _ _ (by exact Y1.out), HU.out _ _ (by exact Y2.out)⟩ <;> go_keep)
            | (refine ⟨?_, ?_, ?_, by exact za0, by exact za1, by exact za2, HU.out _ _ (by exact YA0.out), HU.out _ _ (by exact YA1.out), HU.out _ _ (by exact YA2.out)⟩ <;> go_keep)
            | (go_split_ands
               refine ⟨?_, ?_, ?_, ?_, ?_, ?_, HU.out _ _ ?_, HU.out _ _ ?_, HU.out _ _ ?_⟩
               · (rw [hgrow.cell_far _ (by simp; omega) (by simp [Value.ownBlock]; omega)]; assumption)
               · (rw [hgrow.cell_far _ (by simp; omega) (by simp [Value.ownBlock]; omega)]; assumption)
               · (rw [hgrow.cell_far _ (by simp; omega) (by simp [Value.ownBlock]; omega)]; assumption)
               · (rw [hgrow.frozen_far _ (by simp; omega) (by simp [Value.ownBlock]; omega)]; assumption)
               · (rw [hgrow.frozen_far _ (by simp; omega) (by simp [Value.ownBlock]; omega)]; assumption)
               · (rw [hgrow.frozen_far _ (by simp; omega) (by simp [Value.ownBlock]; omega)]; assumption)
               · (rw [hgrow.cell_far _ (by simp; omega) (by simp [Value.ownBlock]; omega)]; exact YA0.out)
               · (rw [hgrow.cell_far _ (by simp; omega) (by simp [Value.ownBlock]; omega)]; exact YA1.out)
               · (rw [hgrow.cell_far _ (by simp; omega) (by simp [Value.ownBlock]; omega)]; exact YA2.out))
            | (go_split_ands
               refine ⟨?_, ?_, ?_, ?_, ?_, ?_, HU.out _ _ (isSome_set (isSome_set (isSome_set ?_))), HU.out _ _ (isSome_set (isSome_set (isSome_set ?_))), HU.out _ _ (isSome_set (isSome_set (isSome_set ?_)))⟩ <;> go_keep))
          ((refine step_append_lies _ (by rfl) _ _ _ (by rfl) (g0 + 1) 3 i0 _ 1 8 Tryz.underlying41 hi hz0 hz1 hz2 rfl (by omega) (.slice (some ⟨wr.heap.size, 0, none⟩) 0 0) 0 [] (by rfl) (by exact HOW.out)
              ⟨gk, ok, none⟩ k kcap (kids.map fun k => Value.int .i64 k) (by rfl) HNL.out (fun j u h => by rw [add_ad]; exact (HBA.out.drew.cell (p := ⟨gk, ok + j, none⟩) hgk).trans (HNW.out j u h)) HONE.out
              (by omega) (by unfold maxLen; omega) (by omega) (by simp; omega) (wr.heap.size + 1) (by simp) ?_; intro gg cap4 w2 hown2 hgrow hat hlt2))
        have hb2 : Below wr.heap.size wr w2 := HBA.out.drew.grown hgrow (by simp) (fun q hq => by
          have h1 : (Value.slice (some ⟨wr.heap.size, 0, none⟩) 0 0).ownBlock = some wr.heap.size := rfl
          rw [h1] at hq; cases hq; exact Nat.le_refl _)
        have hown2' : w2.ownsRow (g0 + 1) 3 1 (.slice (some ⟨gg, 0, none⟩) k cap4) kids.length (kids.map fun k => Value.int .i64 k) := by
          have := hown2
          simp only [Nat.zero_add, List.nil_append] at this
          rw [← HKE.out]; exact this
        have HF := Lib.hid (HSTEP.out w2 (.slice (some ⟨gg, 0, none⟩) k cap4) hb2 hown2')
        clear hb2 hown2' hown2 hgrow hat hlt2
        go_wp2_with fail
        first | exact ⟨HF.out, by simp [intOf]; omega⟩ | exact ⟨by (repeat apply Exists.intro); exact ⟨HF.out, rfl⟩, by simp [intOf]; omega⟩
    · obtain rfl : i = n := by omega
      clear hlt
      go_wp2_with fail
      go_ret
      exact ⟨_, rfl, by have := CtO.done (by rw [← HN.out]; exact HREL.out) (by rw [← HN.out]; unfold maxLen; omega); rw [← HN.out] at this; exact this, HB.out⟩
end Go.Proofs.YtgfmiladfeoldaaGreatDoor
namespace Go.Proofs.YtgfmiladfeoldaaGreatDoor
open Go.RowKit NatP LexP
def wakeT : ByteArray := ⟨#[112, 114, 105, 110, 116, 32, 45, 65, 39, 94, 50]⟩
set_option maxRecDepth 100000 in
set_option maxHeartbeats 2000000 in
theorem wakes_any (w : World) (hx : Lx w) (hs : SG w) (hsz : 4 < w.heap.size) :
  Calls Tryz.prog 12 #[] w fun e w' => e = .returned (.bool true) ∧ Below w.heap.size w w' := by
 have HX := Lib.hid hx
 have HS := Lib.hid hs
 have HP := Lib.hid (parse_any wakeT w (by show _ ≤ _; decide) hx hs hsz)
 clear hx hs
 go_enter Tryz.func12, Tryz.ntmps12
 go_wp2_with fail
 refine HP.out.mono ?_
 rintro e w1 hn
 unfold PaP at hn
 rw [show wakeT.data.toList = wakeB from rfl, wake_parse] at hn
 obtain ⟨nv, ns, rfl, hb, htr, hfl⟩ := hn
 have hnd := htr.ndl
 rw [hfl] at hnd
 have HND := Lib.hid hnd
 have HB := Lib.hid hb
 obtain ⟨ao, cap, rfl, h1, h2, hc⟩ := hnd
 rw [wake_nL] at h1 hc ⊢
 obtain ⟨g, rfl, hg, hc⟩ := hc (by decide)
 obtain ⟨e0, -, -⟩ := hc 3 _ rfl
 obtain ⟨-, e1, -⟩ := hc 2 _ rfl
 have e0 : w1.cell? ⟨g, 9, none⟩ = some (.int .i64 4) := e0
 have e1 : w1.cell? ⟨g, 7, none⟩ = some (.string ⟨#[50]⟩) := e1
 have HPR := Lib.hid (print_good wakeLn (.slice (some ⟨g, 0, none⟩) 5 cap) w1 w1.heap.size wake_fit HND.out (Nat.le_refl _) (HX.out.below hb) (HS.out.below hb hsz) (Nat.lt_of_lt_of_le hsz hb.size))
 simp only [List.length_cons, List.length_nil] at h1 ⊢
 clear hb htr hfl hc
 go_wp2_with fail
 refine HPR.out.mono ?_
 rintro e w2 ⟨h3, hb2⟩
 have hdp : wakeLn.dp = 0 := by decide
 rw [if_neg (by omega), wake_pr] at h3
 subst h3
 have HB2 := Lib.hid (below_next HB.out hb2)
 clear hb2
 go_wp2_with fail
 go_ret
 exact ⟨rfl, HB2.out⟩
theorem app_list (r s : ByteArray) : (r ++ s).data.toList = r.data.toList ++ s.data.toList := by simp
end Go.Proofs.YtgfmiladfeoldaaGreatDoor
namespace Go.Proofs.YtgfmiladfeoldaaGreatDoor
open Go.RowKit NatP LexP
theorem grown_kidsle {W : Int → Bytes → Bool} {n : Nat} : ∀ (l : List SynP.NI) (i : Nat) (free : List Nat), free.length ≤ i → SynP.grownL W n i free l = true → ∀ x ∈ l, x.kids.length ≤ i + l.length := by
 intro l
 induction l with
 | nil => intro _ _ _ _ x hx; cases hx
 | cons a l ih =>
  intro i free hf hg x hx
  unfold SynP.grownL at hg
  split at hg
  ·rename_i hst
   split at hg
   ·have hle : a.kids.length ≤ free.length := by
     unfold SynP.stepOk at hst
     simp only [Bool.not_eq_true', Bool.or_eq_false_iff, decide_eq_false_iff_not] at hst
     omega
    rcases List.mem_cons.1 hx with rfl | hx
    ·omega
    ·have := ih (i + 1) _ (by rw [List.length_append, List.length_take]; simp; omega) hg x hx
     simp only [List.length_cons]
     omega
   ·cases hg
  ·cases hg
theorem fit_kids {n : SynP.Ln} (h : LnFit n) : ∀ x ∈ SynP.nL n.flat, x.kids.length ≤ 4194304 := fun x hx => by
 have h1 := grown_kidsle _ 0 [] (Nat.le_refl _) (fit_grown h.wf) x hx
 have h2 := h.size
 rw [show (SynP.nL n.flat).length = n.size by rw [SynP.nL, List.length_map, ln_size]] at h1
 omega
theorem fit_len {n : SynP.Ln} (h : LnFit n) : (SynP.nL n.flat).length ≤ 4194304 := by
 have h2 := h.size
 rw [show (SynP.nL n.flat).length = n.size by rw [SynP.nL, List.length_map, ln_size]]
 omega
end Go.Proofs.YtgfmiladfeoldaaGreatDoor
namespace Go.Proofs.YtgfmiladfeoldaaGreatDoor
open Go.ChangeShapes Go.WideShapes Go.ChangeAt Go.RowKit
theorem own : ownKnob Tryz.prog.godebug = none := by kernel_rfl
theorem gSigns : Tryz.prog.globalNamed "trellis/radix.signs" = some 4 := by kernel_rfl
theorem tSigns : (Tryz.prog.globals[4]?).map (·.type) = some 258 := by kernel_rfl
theorem uSigns : Tryz.prog.underlying 258 = some (.array 36 5) := by kernel_rfl
theorem uU8 : Tryz.prog.underlying 5 = some (.int .u8) := by kernel_rfl
theorem cU8 : Tryz.prog.cellsOf 5 = 1 := by kernel_rfl
theorem cSigns : Tryz.prog.cellsOf 258 = 36 := by kernel_rfl
def signZs : List Int := [48, 49, 50, 51, 52, 53, 54, 55, 56, 57, 97, 98, 99, 100, 101, 102, 103, 104, 105, 106, 107, 108, 109, 110, 111, 112, 113, 114, 115, 116, 117, 118, 119, 120, 121, 122]
def laid1 : List (String × DataW Unit) := [("trellis/radix.signs", Rows.laid_trellis_radix_signs)]
theorem lx_of_shaped {w : World} (h : w.ShapedOpen Tryz.prog) : Lx w :=
 Go.Proofs.cell_of_shapedOpen_int (zero := #[.int .i64 0]) (t := 3) h (of_decide_eq_true (by kernel_rfl)) (by kernel_rfl) rfl (by kernel_rfl) (by kernel_rfl) (by kernel_rfl)
theorem sg_of_laid {w : World} (h : laidMetH Tryz.prog laid1 w) : SG w ∧ 4 < w.heap.size := by
 rw [MakeChecks.laidMetH_plain _ _ _ (by kernel_rfl)] at h
 have ht : Lib.TabIs Tryz.prog w "trellis/radix.signs" .u8 signZs := Lib.tabIs_of_head (zs := signZs) gSigns tSigns uSigns uU8 cU8 cSigns h
 have hs : SG w := by
  intro d hd
  have h2 := World.var?_cell gSigns ht d
  rw [h2]
  match d, hd with
  | 0, _ => rfl
  | 1, _ => rfl
  | 2, _ => rfl
  | 3, _ => rfl
  | 4, _ => rfl
  | 5, _ => rfl
  | 6, _ => rfl
  | 7, _ => rfl
  | 8, _ => rfl
  | 9, _ => rfl
 exact ⟨hs, World.block_lt_of_cell? w _ (hs 0 (by omega))⟩
end Go.Proofs.YtgfmiladfeoldaaGreatDoor
