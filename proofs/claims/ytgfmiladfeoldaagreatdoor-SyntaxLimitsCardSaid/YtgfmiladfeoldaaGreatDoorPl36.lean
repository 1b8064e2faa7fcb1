/- Joined texts of this claim's proof: SynQ, WtA, WtC, WtD. -/
import Derived.Test.YtgfmiladfeoldaaGreatDoorPl35
import Derived.BigQuiet
import Derived.Test.YtgfmiladfeoldaaGreatDoorPl32
set_option linter.unusedSimpArgs false
set_option linter.unusedVariables false
namespace SynP
open LexP
def SegN (l : List NI) (o : Nat) (ns : List Node) : Prop := ∀ j n, ns[j]? = some n → l[o + j]? = some n.toI
theorem SegN.app {l : List NI} {o : Nat} {a b : List Node} (h : SegN l o (a ++ b)) : SegN l o a ∧ SegN l (o + a.length) b :=
 ⟨fun j n hj => h j n (by rw [List.getElem?_append_left (List.getElem?_eq_some_iff.1 hj).1]; exact hj), fun j n hj => by
  have := h (a.length + j) n (by rw [List.getElem?_append_right (by omega)]; simpa using hj)
  rwa [← Nat.add_assoc] at this⟩
theorem SegN.one {l : List NI} {o : Nat} {n : Node} (h : SegN l o [n]) : l[o]? = some n.toI := by simpa using h 0 n rfl
theorem SegN.all (ns : List Node) : SegN (nL ns) 0 ns := fun j n hj => by simp [nL, hj]
def exL : Exs → List Ex
 | .nil => []
 | .cons a l => a :: exL l
def piece (i : Nat) (e : Ex) : Bytes := (if 0 < i then [44, 32] else []) ++ e.pr
def pieceAt (l : List Ex) (j : Nat) : Bytes :=
 match l[j]? with
 | some e => piece j e
 | none => []
def uptoP (l : List Ex) (i : Nat) : Bytes := (List.range i).flatMap (pieceAt l)
theorem uptoP_zero (l : List Ex) : uptoP l 0 = [] := rfl
theorem uptoP_succ {l : List Ex} {i : Nat} {e : Ex} (h : l[i]? = some e) : uptoP l (i + 1) = uptoP l i ++ piece i e := by
 unfold uptoP
 rw [List.range_succ, List.flatMap_append]
 simp [pieceAt, h]
theorem uptoP_tail : ∀ (ks : Exs) (p : List Ex), p ≠ [] → uptoP (p ++ exL ks) (p.length + (exL ks).length) = uptoP (p ++ exL ks) p.length ++ ks.prTail
 | .nil, p, _ => by simp [exL, Exs.prTail]
 | .cons a ks, p, hp => by
  have h1 := uptoP_tail ks (p ++ [a]) (by simp)
  have e1 : (p ++ [a]) ++ exL ks = p ++ exL (.cons a ks) := by simp [exL]
  have e2 : (p ++ [a]).length + (exL ks).length = p.length + (exL (.cons a ks)).length := by simp [exL]; omega
  rw [e1, e2] at h1
  rw [h1]
  have h2 : (p ++ exL (.cons a ks))[p.length]? = some a := by simp [exL]
  have h3 : (p ++ [a]).length = p.length + 1 := by simp
  rw [h3, uptoP_succ h2]
  have h4 : 0 < p.length := List.length_pos_iff.2 hp
  show _ = _ ++ ([44, 32] ++ a.pr ++ ks.prTail)
  unfold piece
  rw [if_pos h4]
  simp
theorem uptoP_all (ks : Exs) : uptoP (exL ks) (exL ks).length = ks.pr := by
 cases ks with
 | nil => rfl
 | cons a ks =>
  have h := uptoP_tail ks [a] (by simp)
  have e1 : [a] ++ exL ks = exL (.cons a ks) := rfl
  have e2 : ([a] : List Ex).length + (exL ks).length = (exL (.cons a ks)).length := by simp [exL]; omega
  rw [e1, e2] at h
  rw [h]
  show uptoP (exL (.cons a ks)) (0 + 1) ++ _ = _
  rw [uptoP_succ (e := a) rfl]
  rfl
def dpU (l : List Ex) (i : Nat) : Nat := ((l.take i).map Ex.dp).foldl max 0
theorem dpU_zero (l : List Ex) : dpU l 0 = 0 := by simp [dpU]
theorem dpU_succ {l : List Ex} {i : Nat} {e : Ex} (h : l[i]? = some e) : dpU l (i + 1) = max (dpU l i) e.dp := by
 unfold dpU
 rw [List.take_add_one, h]
 simp [List.foldl_append]
theorem foldl_max : ∀ (l : List Nat) (m : Nat), l.foldl max m = max m (l.foldl max 0)
 | [], m => by simp
 | a :: l, m => by
  show l.foldl max (max m a) = max m (l.foldl max (max 0 a))
  rw [foldl_max l (max m a), foldl_max l (max 0 a)]
  omega
theorem dpU_all : ∀ ks : Exs, dpU (exL ks) (exL ks).length = ks.dp
 | .nil => rfl
 | .cons a ks => by
  have h := dpU_all ks
  unfold dpU at h ⊢
  rw [List.take_length] at h ⊢
  show (exL ks |>.map Ex.dp).foldl max (max 0 a.dp) = max a.dp ks.dp
  rw [foldl_max, h]
  omega
theorem exL_roots : ∀ (ks : Exs) (o : Nat), (ks.roots o).length = (exL ks).length
 | .nil, _ => rfl
 | .cons a ks, o => by show (ks.roots _).length + 1 = (exL ks).length + 1; rw [exL_roots ks]
mutual
theorem flatLen : ∀ (e : Ex) (o : Nat), (e.flat o).length = e.size
 | .num _, _ | .name _, _ | .mat _, _ | .cpx _, _ => rfl
 | .neg a, o | .turn a, o | .pow a _, o => by simp [Ex.flat, Ex.size, flatLen a]
 | .add a b, o | .sub a b, o | .mul a b, o => by simp [Ex.flat, Ex.size, flatLen a, flatLen b]; omega
 | .call _ l, o => by simp [Ex.flat, Ex.size, flatsLen l]
theorem flatsLen : ∀ (l : Exs) (o : Nat), (l.flat o).length = l.size
 | .nil, _ => rfl
 | .cons a l, o => by simp [Exs.flat, Exs.size, flatLen a, flatsLen l]
end
theorem kid_at {l : List NI} : ∀ (ks : Exs) (o i : Nat) (e : Ex), (exL ks)[i]? = some e → ∃ p, (ks.roots o)[i]? = some (p + e.size - 1) ∧ (SegN l o (ks.flat o) → SegN l p (e.flat p)) ∧ p + e.size ≤ o + ks.size ∧ o ≤ p
 | .nil, _, _, _, h => by simp [exL] at h
 | .cons a ks, o, 0, e, h => by
  have e1 : a = e := by simpa [exL] using h
  subst e1
  refine ⟨o, rfl, fun hs => (SegN.app (b := ks.flat (o + a.size)) hs).1, ?_, Nat.le_refl _⟩
  show o + a.size ≤ o + (a.size + ks.size)
  omega
 | .cons a ks, o, i + 1, e, h => by
  obtain ⟨p, h1, h2, h3, h4⟩ := kid_at (l := l) ks (o + a.size) i e (by simpa [exL] using h)
  refine ⟨p, h1, fun hs => h2 ?_, ?_, by omega⟩
  ·have := (SegN.app (b := ks.flat (o + a.size)) hs).2
   rw [flatLen] at this
   exact this
  ·show p + e.size ≤ o + (a.size + ks.size)
   omega
mutual
theorem dp_le : ∀ e : Ex, e.dp ≤ e.size
 | .num _ | .name _ | .mat _ | .cpx _ => Nat.zero_le _
 | .neg a => by have := dp_le a; simp only [Ex.dp, Ex.size, parD]; split <;> omega
 | .turn a => by have := dp_le a; simp only [Ex.dp, Ex.size, parD]; split <;> omega
 | .pow a _ => by have := dp_le a; simp only [Ex.dp, Ex.size, parD]; split <;> omega
 | .add a b => by have := dp_le a; have := dp_le b; simp only [Ex.dp, Ex.size, parD]; split <;> split <;> omega
 | .sub a b => by have := dp_le a; have := dp_le b; simp only [Ex.dp, Ex.size, parD]; split <;> split <;> omega
 | .mul a b => by have := dp_le a; have := dp_le b; simp only [Ex.dp, Ex.size, parD]; split <;> split <;> omega
 | .call _ l => by have := dps_le l; simp only [Ex.dp, Ex.size]; omega
theorem dps_le : ∀ l : Exs, l.dp ≤ l.size
 | .nil => Nat.zero_le _
 | .cons a l => by have := dp_le a; have := dps_le l; simp only [Exs.dp, Exs.size]; omega
end
end SynP
namespace Go.Proofs.YtgfmiladfeoldaaGreatDoor
open Go.RowKit NatP LexP
set_option maxRecDepth 100000 in
theorem whole_any (op : Int) (w : World) :
  Calls Tryz.prog 99 #[.int .i64 op] w fun e w' => e = .returned (.bool (SynP.wholeI op)) ∧ w = w' := by
 unfold SynP.wholeI
 by_cases h1 : op = 11
 ·subst h1
  go_enter Tryz.func99, Tryz.ntmps99
  go_wp2_with fail
  go_ret
  exact ⟨rfl, rfl⟩
 ·by_cases h2 : op = 12
  ·subst h2
   go_enter Tryz.func99, Tryz.ntmps99
   go_wp2_with fail
   go_ret
   exact ⟨rfl, rfl⟩
  ·have e1 : (op == 11) = false := by simp [h1]
   have e2 : (op == 12) = false := by simp [h2]
   go_enter Tryz.func99, Tryz.ntmps99
   go_wp2_with fail
   go_ret
   exact ⟨by rw [e1, e2]; rfl, rfl⟩
set_option maxRecDepth 100000 in
theorem count_any (op : Int) (n : Nat) (w : World) :
  Calls Tryz.prog 100 #[.int .i64 op, .int .i64 (n : Nat)] w fun e w' => e = .returned (.bool (SynP.cnt op n)) ∧ w = w' := by
 have k0 : (((n : Nat) : Int) == 0) = (n == 0) := by rw [Bool.eq_iff_iff]; simp
 have k1 : (((n : Nat) : Int) == 1) = (n == 1) := by rw [Bool.eq_iff_iff]; simp; omega
 have k2 : (((n : Nat) : Int) == 2) = (n == 2) := by rw [Bool.eq_iff_iff]; simp; omega
 have k3 : decide ((1 : Int) ≤ (n : Nat)) = decide (1 ≤ n) := by rw [decide_eq_decide]; omega
 by_cases h : op ∈ ([1, 2, 3, 13, 14, 4, 5, 9, 11, 6, 7, 8, 10, 12] : List Int)
 ·simp only [List.mem_cons, List.not_mem_nil, or_false] at h
  rcases h with rfl | rfl | rfl | rfl | rfl | rfl | rfl | rfl | rfl | rfl | rfl | rfl | rfl | rfl
  all_goals
   go_enter Tryz.func100, Tryz.ntmps100
   go_wp2_with fail
   go_ret
   exact ⟨by simp only [k0, k1, k2, k3]; rfl, rfl⟩
 ·simp only [List.mem_cons, List.not_mem_nil, or_false, not_or] at h
  obtain ⟨h1, h2, h3, h4, h5, h6, h7, h8, h9, h10, h11, h12, h13, h14⟩ := h
  have e : SynP.cnt op n = false := by unfold SynP.cnt; simp [h1, h2, h3, h4, h5, h6, h7, h8, h9, h10, h11, h12, h13, h14]
  have HE := Lib.hid e
  have d1 : (op == 1) = false := by simp [h1]
  have d2 : (op == 2) = false := by simp [h2]
  have d3 : (op == 3) = false := by simp [h3]
  have d4 : (op == 13) = false := by simp [h4]
  have d5 : (op == 14) = false := by simp [h5]
  have d6 : (op == 4) = false := by simp [h6]
  have d7 : (op == 5) = false := by simp [h7]
  have d8 : (op == 9) = false := by simp [h8]
  have d9 : (op == 11) = false := by simp [h9]
  have d10 : (op == 6) = false := by simp [h10]
  have d11 : (op == 7) = false := by simp [h11]
  have d12 : (op == 8) = false := by simp [h12]
  have d13 : (op == 10) = false := by simp [h13]
  have d14 : (op == 12) = false := by simp [h14]
  clear e
  go_enter Tryz.func100, Tryz.ntmps100
  go_wp2_with fail
  go_ret
  exact ⟨by rw [HE.out]; rfl, rfl⟩
set_option maxRecDepth 100000 in
theorem sum_any2 (op : Nat) (w : World) :
  Calls Tryz.prog 210 #[.int .i64 (op : Nat)] w fun e w' => e = .returned (.bool (SynP.isSum op)) ∧ w = w' := by
 unfold SynP.isSum
 have k6 : (((op : Nat) : Int) == 6) = (op == 6) := by rw [Bool.eq_iff_iff]; simp; omega
 have k7 : (((op : Nat) : Int) == 7) = (op == 7) := by rw [Bool.eq_iff_iff]; simp; omega
 cases h6 : (op == 6) <;> rw [h6] at k6 <;>
 ·go_enter Tryz.func210, Tryz.ntmps210
  go_wp2_with fail
  go_ret
  exact ⟨by simp [k7], rfl⟩
set_option maxRecDepth 100000 in
theorem product_any2 (op : Nat) (w : World) :
  Calls Tryz.prog 211 #[.int .i64 (op : Nat)] w fun e w' => e = .returned (.bool (SynP.isProd op)) ∧ w = w' := by
 unfold SynP.isProd
 have k8 : (((op : Nat) : Int) == 8) = (op == 8) := by rw [Bool.eq_iff_iff]; simp; omega
 have K8 := Lib.hid k8
 clear k8
 cases h6 : SynP.isSum op
 ·have H6 := Lib.hid h6
  clear h6
  go_enter Tryz.func211, Tryz.ntmps211
  go_wp2_with fail
  refine (sum_any2 op _).mono ?_
  rintro e w1 ⟨rfl, rfl⟩
  rw [H6.out]
  go_wp2_with fail
  go_ret
  exact ⟨by rw [K8.out]; rfl, rfl⟩
 ·have H6 := Lib.hid h6
  clear h6
  go_enter Tryz.func211, Tryz.ntmps211
  go_wp2_with fail
  refine (sum_any2 op _).mono ?_
  rintro e w1 ⟨rfl, rfl⟩
  rw [H6.out]
  go_wp2_with fail
  go_ret
  exact ⟨rfl, rfl⟩
set_option maxRecDepth 100000 in
set_option maxHeartbeats 1000000 in
theorem named_any (t : Bytes) (w : World) (ht : t.length ≤ 67108864) (hx : Lx w) :
  Calls Tryz.prog 162 #[.string ⟨t.toArray⟩] w fun e w' => e = .returned (.bool (SynP.namV t)) ∧ Below w.heap.size w w' := by
 obtain ⟨T, hT⟩ : ∃ T : ByteArray, T = ⟨t.toArray⟩ := ⟨_, rfl⟩
 have hTl : T.data.toList = t := by rw [hT]
 have hs4 : T.size ≤ 67108864 := by rw [Lib.size_eq, hTl]; exact ht
 have HX := Lib.hid hx
 have HTL := Lib.hid hTl
 rw [← hT]
 clear hx hT hTl ht
 go_enter Tryz.func162, Tryz.ntmps162
 go_wp2_with fail
 refine (tokens_big T _ hs4 HX.out).mono ?_
 rintro e w1 ⟨v, rfl, h1, h2⟩
 rw [HTL.out] at h1 ⊢
 have H2 := Lib.hid h2
 clear h2
 cases hK : Toks 1 (chars t) with
 | error p =>
  obtain ⟨c, k⟩ := p
  have hk0 := (Toks_err _ _ _ hK).1
  have HV : Hid (SynP.namV t = false) := by show _ = _; unfold SynP.namV; rw [hK]
  have ec : (resCol (.error (c, k)) : Nat) = c := rfl
  have ek : (resErr (.error (c, k)) : Nat) = k := rfl
  rw [ec, ek]
  simp only at hk0
  have hkk : ((k : Int) == 0) = false := by simp; omega
  clear h1 hK hk0
  go_wp2_with fail
  go_ret
  exact ⟨by rw [HV.out]; rfl, H2.out⟩
 | ok ts =>
  have h1' : w1.ownsRow w.heap.size 119 3 v ts.length (tkCells ts) := by rw [hK] at h1; exact h1
  obtain ⟨ao, cap, rfl, a1, a2, a3⟩ := ownsRow_shape h1'
  have ec : (resCol (.ok ts) : Nat) = 0 := rfl
  have ek : (resErr (.ok ts) : Nat) = 0 := rfl
  rw [ec, ek]
  clear h1 h1'
  by_cases hn : ts.length = 1
  ·obtain ⟨x, rfl⟩ := List.length_eq_one_iff.1 hn
   obtain ⟨g, rfl, -, b2, b3⟩ := a3 (by simp)
   obtain ⟨c1, c2, -⟩ := tkCells_at [x] 0 x rfl
   have d1 : w1.cell? ⟨g, 0, none⟩ = some (.int .i64 (x.1 : Nat)) := by rw [b3 _ (by simp)]; exact c1
   have d2 : w1.cell? ⟨g, 1, none⟩ = some (.string ⟨x.2.1.toArray⟩) := by rw [b3 _ (by simp)]; exact c2
   have hk2 : (((x.1 : Nat) : Int) == 2) = (x.1 == 2) := by rw [Bool.eq_iff_iff]; simp; omega
   have HV : Hid (SynP.namV t = (x.1 == 2 && x.2.1 == t)) := by show _ = _; unfold SynP.namV; rw [hK]
   obtain ⟨k, y, c⟩ := x
   clear hK a3 b3 c1 c2
   have e1 : ([(k, y, c)] : List Tok).length = 1 := rfl
   rw [e1]
   cases h2 : (k == 2) with
   | false =>
    rw [h2] at hk2
    simp only at hk2
    have HV2 : Hid (SynP.namV t = false) := by show _ = _; rw [HV.out]; simp [h2]
    clear h2
    go_wp2_with fail
    go_ret
    exact ⟨by rw [HV2.out]; rfl, H2.out⟩
   | true =>
    rw [h2] at hk2
    simp only at hk2
    have HV2 : Hid (SynP.namV t = (y == t)) := by show _ = _; rw [HV.out]; simp [h2]
    clear h2
    go_wp2_with fail
    go_ret
    exact ⟨by rw [HV2.out, ← HTL.out, ← ByteArray.toList_eq]; rfl, H2.out⟩
  ·have HV : Hid (SynP.namV t = false) := by
    show _ = _
    unfold SynP.namV
    rw [hK]
    match ts, hn with
    | [], _ => rfl
    | _ :: _ :: _, _ => rfl
    | [_], hn => exact absurd rfl hn
   have hnn : (((ts.length : Nat) : Int) == 1) = false := by simp; omega
   clear hK a3
   go_wp2_with fail
   go_ret
   exact ⟨by rw [HV.out]; rfl, H2.out⟩
end Go.Proofs.YtgfmiladfeoldaaGreatDoor
namespace Go.Proofs.YtgfmiladfeoldaaGreatDoor
open Go.RowKit NatP LexP
theorem wr_frame {g : Nat} {w2 : World} (x y : Value) : Wr g none w2 ((w2.setCell ⟨g, 0, none⟩ x).setCell ⟨g, 1, none⟩ y) :=
 (Wr.of_set w2 0 x).trans (Mv.refl _ _) (Wr.of_set _ 1 y)
set_option maxRecDepth 100000 in
set_option maxHeartbeats 1000000 in
theorem guarded_mat (pp mp : Value) (w : World) (E : Nat → Nat → World → Prop) (Q : World → Prop)
  (hc : Calls Tryz.prog 53 #[pp, mp] (w.alloc (.cells #[.int .i64 0, .int .i64 0] 81)) fun e w' => w'.heap[w.heap.size]? = some (.cells #[.int .i64 0, .int .i64 0] 81 (0, 0)) ∧ ((∃ c k, e = FaultE c k ∧ E c k w') ∨ (e = .returned (.tuple #[]) ∧ Q w'))) :
  Calls Tryz.prog 48 #[.func (.func 53) #[] #[pp, mp]] w fun e w' => ∃ w2, w2.heap[w.heap.size]? = some (.cells #[.int .i64 0, .int .i64 0] 81 (0, 0)) ∧ Wr w.heap.size none w2 w' ∧ ((∃ c k, e = .returned (.agg #[.int .i64 (c : Nat), .int .i64 (k : Nat)]) ∧ E c k w2) ∨ (e = .returned (.agg #[.int .i64 0, .int .i64 0]) ∧ Q w2)) := by
 have hmf : ∀ (fn : Fn) (first cap : Array Value) (w : World), (Instr.makeFunc fn first cap).run Tryz.prog w = .ok (.func fn first cap) w := fun _ _ _ _ => rfl
 have HC := Lib.hid hc
 clear hc
 go_enter_defers Tryz.func48, Tryz.ntmps48
 go_wp2_with fail
 refine HC.out.mono ?_
 rintro e w2 ⟨hb, ⟨c, k, rfl, n1⟩ | ⟨rfl, n1⟩⟩
 ·have HE := Lib.hid n1
  clear n1
  refine leaves_cons (f := 92) (args := #[.pointer (some ⟨w.heap.size, 0, none⟩)]) (by simp) (by simp [go_sem]) ?_
  refine (catch_fault w.heap.size c k _ _ _ hb).mono ?_
  rintro e u' w3 ⟨rfl, rfl, hw3⟩
  have hfin : Wr w.heap.size none w2 w3 := by rw [hw3]; exact (wr_frame _ _).trans (Mv.refl _ _) (Wr.of_below (below_alloc _ _))
  have HBB := Lib.hid hb
  have hlt := (Array.getElem?_eq_some_iff.1 hb).1
  have s1 := heap_setCell_same w2 w.heap.size 0 _ 81 (.int .i64 (c : Nat)) hb
  have s2 := heap_setCell_same (w2.setCell ⟨w.heap.size, 0, none⟩ (.int .i64 (c : Nat))) w.heap.size 1 _ 81 (.int .i64 (k : Nat)) s1
  have s3 : w3.heap[w.heap.size]? = some (.cells #[.int .i64 (c : Nat), .int .i64 (k : Nat)] 81 (0, 0)) := by
   rw [hw3]
   exact ((below_alloc _ _).block w.heap.size (by simpa [World.setCell] using hlt)).trans (s2.trans (by simp))
  have q0 : w3.cell? ⟨w.heap.size, 0, none⟩ = some (.int .i64 (c : Nat)) := by rw [cell_of_row _ _ 0 _ _ _ s3]; rfl
  have q1 : w3.cell? ⟨w.heap.size, 1, none⟩ = some (.int .i64 (k : Nat)) := by rw [cell_of_row _ _ 1 _ _ _ s3]; rfl
  have HF := Lib.hid hfin
  clear s1 s2 s3 hw3 hfin hb
  simp [Leaves, settle, results, Tryz.results48, go_sem, q0, q1]
  exact ⟨w2, HBB.out, HF.out, .inl ⟨c, k, ⟨rfl, rfl⟩, HE.out⟩⟩
 ·have HBB := Lib.hid hb
  have hz0 : w2.frozen? ⟨w.heap.size, 0, none⟩ = false := frozen_of_row _ _ 0 _ _ hb
  have hz1 : w2.frozen? ⟨w.heap.size, 1, none⟩ = false := frozen_of_row _ _ 1 _ _ hb
  have hc0 : w2.cell? ⟨w.heap.size, 0, none⟩ = some (.int .i64 0) := by rw [cell_of_row _ _ 0 _ _ _ hb]; rfl
  have hc1 : w2.cell? ⟨w.heap.size, 1, none⟩ = some (.int .i64 0) := by rw [cell_of_row _ _ 1 _ _ _ hb]; rfl
  have s1 := heap_setCell_same w2 w.heap.size 0 _ 81 (.int .i64 0) hb
  have S2 := Lib.hid (heap_setCell_same (w2.setCell ⟨w.heap.size, 0, none⟩ (.int .i64 0)) w.heap.size 1 _ 81 (.int .i64 0) s1)
  have HE := Lib.hid n1
  clear n1 hb s1
  go_wp2_with fail
  refine leaves_cons (f := 92) (args := #[.pointer (some ⟨w.heap.size, 0, none⟩)]) (by simp) (by simp [go_sem]) ?_
  refine (catch_none w.heap.size _).mono ?_
  rintro e u' w3 ⟨rfl, rfl, hw3⟩
  have HF : Hid (Wr w.heap.size none w2 w3) := by show Wr _ _ _ _; rw [hw3]; exact wr_frame _ _
  have q0 : w3.cell? ⟨w.heap.size, 0, none⟩ = some (.int .i64 0) := by rw [hw3, cell_of_row _ _ 0 _ _ _ S2.out]; rfl
  have q1 : w3.cell? ⟨w.heap.size, 1, none⟩ = some (.int .i64 0) := by rw [hw3, cell_of_row _ _ 1 _ _ _ S2.out]; rfl
  clear hw3
  simp [Leaves, settle, results, Tryz.results48, go_sem, q0, q1]
  exact ⟨w2, HBB.out, HF.out, .inr HE.out⟩
set_option maxRecDepth 100000 in
set_option maxHeartbeats 1000000 in
theorem guarded_cpx (pp mp : Value) (w : World) (E : Nat → Nat → World → Prop) (Q : World → Prop)
  (hc : Calls Tryz.prog 113 #[pp, mp] (w.alloc (.cells #[.int .i64 0, .int .i64 0] 81)) fun e w' => w'.heap[w.heap.size]? = some (.cells #[.int .i64 0, .int .i64 0] 81 (0, 0)) ∧ ((∃ c k, e = FaultE c k ∧ E c k w') ∨ (e = .returned (.tuple #[]) ∧ Q w'))) :
  Calls Tryz.prog 48 #[.func (.func 113) #[] #[pp, mp]] w fun e w' => ∃ w2, w2.heap[w.heap.size]? = some (.cells #[.int .i64 0, .int .i64 0] 81 (0, 0)) ∧ Wr w.heap.size none w2 w' ∧ ((∃ c k, e = .returned (.agg #[.int .i64 (c : Nat), .int .i64 (k : Nat)]) ∧ E c k w2) ∨ (e = .returned (.agg #[.int .i64 0, .int .i64 0]) ∧ Q w2)) := by
 have hmf : ∀ (fn : Fn) (first cap : Array Value) (w : World), (Instr.makeFunc fn first cap).run Tryz.prog w = .ok (.func fn first cap) w := fun _ _ _ _ => rfl
 have HC := Lib.hid hc
 clear hc
 go_enter_defers Tryz.func48, Tryz.ntmps48
 go_wp2_with fail
 refine HC.out.mono ?_
 rintro e w2 ⟨hb, ⟨c, k, rfl, n1⟩ | ⟨rfl, n1⟩⟩
 ·have HE := Lib.hid n1
  clear n1
  refine leaves_cons (f := 92) (args := #[.pointer (some ⟨w.heap.size, 0, none⟩)]) (by simp) (by simp [go_sem]) ?_
  refine (catch_fault w.heap.size c k _ _ _ hb).mono ?_
  rintro e u' w3 ⟨rfl, rfl, hw3⟩
  have hfin : Wr w.heap.size none w2 w3 := by rw [hw3]; exact (wr_frame _ _).trans (Mv.refl _ _) (Wr.of_below (below_alloc _ _))
  have HBB := Lib.hid hb
  have hlt := (Array.getElem?_eq_some_iff.1 hb).1
  have s1 := heap_setCell_same w2 w.heap.size 0 _ 81 (.int .i64 (c : Nat)) hb
  have s2 := heap_setCell_same (w2.setCell ⟨w.heap.size, 0, none⟩ (.int .i64 (c : Nat))) w.heap.size 1 _ 81 (.int .i64 (k : Nat)) s1
  have s3 : w3.heap[w.heap.size]? = some (.cells #[.int .i64 (c : Nat), .int .i64 (k : Nat)] 81 (0, 0)) := by
   rw [hw3]
   exact ((below_alloc _ _).block w.heap.size (by simpa [World.setCell] using hlt)).trans (s2.trans (by simp))
  have q0 : w3.cell? ⟨w.heap.size, 0, none⟩ = some (.int .i64 (c : Nat)) := by rw [cell_of_row _ _ 0 _ _ _ s3]; rfl
  have q1 : w3.cell? ⟨w.heap.size, 1, none⟩ = some (.int .i64 (k : Nat)) := by rw [cell_of_row _ _ 1 _ _ _ s3]; rfl
  have HF := Lib.hid hfin
  clear s1 s2 s3 hw3 hfin hb
  simp [Leaves, settle, results, Tryz.results48, go_sem, q0, q1]
  exact ⟨w2, HBB.out, HF.out, .inl ⟨c, k, ⟨rfl, rfl⟩, HE.out⟩⟩
 ·have HBB := Lib.hid hb
  have hz0 : w2.frozen? ⟨w.heap.size, 0, none⟩ = false := frozen_of_row _ _ 0 _ _ hb
  have hz1 : w2.frozen? ⟨w.heap.size, 1, none⟩ = false := frozen_of_row _ _ 1 _ _ hb
  have hc0 : w2.cell? ⟨w.heap.size, 0, none⟩ = some (.int .i64 0) := by rw [cell_of_row _ _ 0 _ _ _ hb]; rfl
  have hc1 : w2.cell? ⟨w.heap.size, 1, none⟩ = some (.int .i64 0) := by rw [cell_of_row _ _ 1 _ _ _ hb]; rfl
  have s1 := heap_setCell_same w2 w.heap.size 0 _ 81 (.int .i64 0) hb
  have S2 := Lib.hid (heap_setCell_same (w2.setCell ⟨w.heap.size, 0, none⟩ (.int .i64 0)) w.heap.size 1 _ 81 (.int .i64 0) s1)
  have HE := Lib.hid n1
  clear n1 hb s1
  go_wp2_with fail
  refine leaves_cons (f := 92) (args := #[.pointer (some ⟨w.heap.size, 0, none⟩)]) (by simp) (by simp [go_sem]) ?_
  refine (catch_none w.heap.size _).mono ?_
  rintro e u' w3 ⟨rfl, rfl, hw3⟩
  have HF : Hid (Wr w.heap.size none w2 w3) := by show Wr _ _ _ _; rw [hw3]; exact wr_frame _ _
  have q0 : w3.cell? ⟨w.heap.size, 0, none⟩ = some (.int .i64 0) := by rw [hw3, cell_of_row _ _ 0 _ _ _ S2.out]; rfl
  have q1 : w3.cell? ⟨w.heap.size, 1, none⟩ = some (.int .i64 0) := by rw [hw3, cell_of_row _ _ 1 _ _ _ S2.out]; rfl
  clear hw3
  simp [Leaves, settle, results, Tryz.results48, go_sem, q0, q1]
  exact ⟨w2, HBB.out, HF.out, .inr HE.out⟩
end Go.Proofs.YtgfmiladfeoldaaGreatDoor
namespace Go.Proofs.YtgfmiladfeoldaaGreatDoor
open Go.RowKit NatP LexP
theorem IRd.stay {w w' : World} {v : Value} {l : List (Bool × Nat)} {q : Nat} (h : IRd w v l) (hq : ∀ o, (∀ b, w.cell? ⟨q, o, none⟩ ≠ some (.bool b)) ∧ ∀ x, w.cell? ⟨q, o, none⟩ ≠ some (.int .u64 x)) (hg : w.grownBy w' (some q)) : IRd w' v l := by
 obtain ⟨ao, cap, e, h1, h2, h3⟩ := h
 refine ⟨ao, cap, e, h1, h2, fun h0 => ?_⟩
 obtain ⟨g, o, rfl, a2, a3⟩ := h3 h0
 have hgq : g ≠ q := by
  intro e
  subst e
  obtain ⟨m, xs, b1, -⟩ := a3 0 l[0] (List.getElem?_eq_getElem h0)
  exact (hq _).1 _ b1
 refine ⟨g, o, rfl, Nat.lt_of_lt_of_le a2 hg.size, fun j p hj => ?_⟩
 obtain ⟨m, xs, b1, b2, b3, b4, b5⟩ := a3 j p hj
 have hc : ∀ i, w'.cell? ⟨g, i, none⟩ = w.cell? ⟨g, i, none⟩ := fun i => World.cell?_of_block (hg.block g a2 (fun e => hgq (by cases e; rfl)))
 refine ⟨m, xs, (hc _).trans b1, (hc _).trans b2, ?_, b4, b5⟩
 obtain ⟨c0, ao, cap, rfl, c1, c2, c3, c4⟩ := b3
 refine ⟨fun k hk => Nat.lt_of_lt_of_le (c0 k hk) hg.size, ao, cap, rfl, c1, c2, c3, fun i x hx => ?_⟩
 obtain ⟨g2, o2, rfl, c5⟩ := c4 i x hx
 refine ⟨g2, o2, rfl, ?_⟩
 have hlt := World.block_lt_of_cell? w _ c5
 have hne : g2 ≠ q := by
  intro e
  subst e
  exact (hq _).2 _ c5
 exact (World.cell?_of_block (hg.block g2 hlt (fun e => hne (by cases e; rfl)))).trans c5
def MatR (fin f : Nat) (s : SynP.St) : SynP.PR SynP.MatV := (SynP.matrix fin f s).bind fun m s => SynP.done fin m s
def RmP (r : SynP.PR SynP.MatV) (R mb : Nat) (w : World) (e : Ending) (w' : World) : Prop :=
 match r with
 | none => False
 | some (.error (c, k)) => e = FaultE c k ∧ Wr R (some mb) w w'
 | some (.ok (m, _)) => e = .returned (.tuple #[]) ∧ Wr R (some mb) w w' ∧ ∃ av, w'.heap[mb]? = some (.cells #[.int .i64 (m.rows : Nat), .int .i64 (m.cols : Nat), av] 47 (0, 0)) ∧ IRd w' av m.at_
set_option maxRecDepth 100000 in
set_option maxHeartbeats 2000000 in
theorem rm_lit (R : Nat) (tv : Value) (L : List Tok) (fin f : Nat) (s : SynP.St) (pb mb : Nat) (w : World) (h : RS w R tv L fin 0 s (.slice none 0 0) []) (hp : w.heap[pb]? = some (.cells #[.pointer (some ⟨R, 0, none⟩)] 77 (0, 0))) (hm : w.heap[mb]? = some (.cells #[.int .i64 0, .int .i64 0, .slice none 0 0] 47 (0, 0))) (hpR : R < pb) (hmR : R < mb) (hpm : pb ≠ mb) (hne : SynP.matrix fin f s ≠ none) :
  Calls Tryz.prog 53 #[.pointer (some ⟨pb, 0, none⟩), .pointer (some ⟨mb, 0, none⟩)] w (RmP (MatR fin f s) R mb w) := by
 have HS := Lib.hid h
 have HNE := Lib.hid hne
 have hpl := (Array.getElem?_eq_some_iff.1 hp).1
 have hml := (Array.getElem?_eq_some_iff.1 hm).1
 have HP := Lib.hid hp
 have HM := Lib.hid hm
 obtain ⟨r, hr⟩ : ∃ r, r = MatR fin f s := ⟨_, rfl⟩
 have HR := Lib.hid hr
 rw [← hr]
 have c0 : w.cell? ⟨pb, 0, none⟩ = some (.pointer (some ⟨R, 0, none⟩)) := by rw [cell_of_row _ _ 0 _ _ _ hp]; rfl
 clear h hne hp hm hr
 go_enter Tryz.func53, Tryz.ntmps53
 go_wp2_with fail
 refine (rd_matrix R tv L fin 0 s _ [] _ HS.out f HNE.out).mono ?_
 rintro e w1 hn
 rcases hN : SynP.matrix fin f s with - | (⟨fc, fk⟩ | ⟨m, s2⟩) <;> rw [hN] at hn
 ·exact hn.elim
 ·obtain ⟨rfl, n1⟩ := hn
  refine ⟨rfl, ?_⟩
  have hre : r = some (.error (fc, fk)) := by rw [HR.out]; unfold MatR; rw [hN]; rfl
  rw [hre]
  exact ⟨rfl, n1.weak _⟩
 obtain ⟨v2, a2, rfl, n1, n2, n3, av, rfl, n4⟩ := hn
 have HR1 : Hid (r = SynP.done fin m s2) := by show _ = _; rw [HR.out]; unfold MatR; rw [hN]; rfl
 have hm1 : w1.heap[mb]? = some (.cells #[.int .i64 0, .int .i64 0, .slice none 0 0] 47 (0, 0)) := (n2.block mb hml (by omega) (by simp)).trans HM.out
 have hp1 : w1.heap[pb]? = some (.cells #[.pointer (some ⟨R, 0, none⟩)] 77 (0, 0)) := (n2.block pb hpl (by omega) (by simp)).trans HP.out
 have hml1 := (Array.getElem?_eq_some_iff.1 hm1).1
 have hpl1 := (Array.getElem?_eq_some_iff.1 hp1).1
 have hnb : ∀ o, (∀ b, w1.cell? ⟨mb, o, none⟩ ≠ some (.bool b)) ∧ ∀ x, w1.cell? ⟨mb, o, none⟩ ≠ some (.int .u64 x) := by
  intro o
  rw [cell_of_row _ _ o _ _ _ hm1]
  match o with
  | 0 => exact ⟨fun b e => by simp at e, fun x e => by simp at e⟩
  | 1 => exact ⟨fun b e => by simp at e, fun x e => by simp at e⟩
  | 2 => exact ⟨fun b e => by simp at e, fun x e => by simp at e⟩
  | o + 3 => exact ⟨fun b e => by simp at e, fun x e => by simp at e⟩
 have N4 := Lib.hid n4
 obtain ⟨ao, cap, rfl, -, -, -⟩ := n4
 have e0 : w1.cell? ⟨pb, 0, none⟩ = some (.pointer (some ⟨R, 0, none⟩)) := by rw [cell_of_row _ _ 0 _ _ _ hp1]; rfl
 have d0 : w1.cell? ⟨mb, 0, none⟩ = some (.int .i64 0) := by rw [cell_of_row _ _ 0 _ _ _ hm1]; rfl
 have d1 : w1.cell? ⟨mb, 1, none⟩ = some (.int .i64 0) := by rw [cell_of_row _ _ 1 _ _ _ hm1]; rfl
 have d2 : w1.cell? ⟨mb, 2, none⟩ = some (.slice none 0 0) := by rw [cell_of_row _ _ 2 _ _ _ hm1]; rfl
 have z0 : w1.frozen? ⟨mb, 0, none⟩ = false := frozen_of_row _ _ 0 _ _ hm1
 have z1 : w1.frozen? ⟨mb, 1, none⟩ = false := frozen_of_row _ _ 1 _ _ hm1
 have z2 : w1.frozen? ⟨mb, 2, none⟩ = false := frozen_of_row _ _ 2 _ _ hm1
 obtain ⟨ln, hln⟩ : ∃ ln, ln = m.at_.length := ⟨_, rfl⟩
 rw [← hln] at N4 ⊢
 have s0 := heap_setCell_same w1 mb 0 _ 47 (.int .i64 (m.rows : Nat)) hm1
 have s1 := heap_setCell_same _ mb 1 _ 47 (.int .i64 (m.cols : Nat)) s0
 have s2' := heap_setCell_same _ mb 2 _ 47 (.slice ao ln cap) s1
 have hgr : w1.grownBy (((w1.setCell ⟨mb, 0, none⟩ (.int .i64 (m.rows : Nat))).setCell ⟨mb, 1, none⟩ (.int .i64 (m.cols : Nat))).setCell ⟨mb, 2, none⟩ (.slice ao ln cap)) (some mb) := by
  refine ⟨rfl, rfl, rfl, by simp [World.setCell], fun k _ hk => ?_⟩
  have hne : k ≠ mb := fun e => hk (by rw [e])
  exact (heap_setCell_other _ ⟨mb, 2, none⟩ k _ hne).trans ((heap_setCell_other _ ⟨mb, 1, none⟩ k _ hne).trans (heap_setCell_other _ ⟨mb, 0, none⟩ k _ hne))
 have HGR := Lib.hid hgr
 have HMB : Hid ((((w1.setCell ⟨mb, 0, none⟩ (.int .i64 (m.rows : Nat))).setCell ⟨mb, 1, none⟩ (.int .i64 (m.cols : Nat))).setCell ⟨mb, 2, none⟩ (.slice ao ln cap)).heap[mb]? = some (.cells #[.int .i64 (m.rows : Nat), .int .i64 (m.cols : Nat), .slice ao ln cap] 47 (0, 0))) := s2'.trans (by simp)
 have HIR : Hid (IRd (((w1.setCell ⟨mb, 0, none⟩ (.int .i64 (m.rows : Nat))).setCell ⟨mb, 1, none⟩ (.int .i64 (m.cols : Nat))).setCell ⟨mb, 2, none⟩ (.slice ao ln cap)) (.slice ao ln cap) m.at_) := N4.out.stay hnb hgr
 have HRS := Lib.hid (n1.growK hgr (fun q hq => by cases hq; exact ⟨hmR, by simp [Value.ownBlock], fun p hp => by cases hp⟩)).1
 have HPB : Hid ((((w1.setCell ⟨mb, 0, none⟩ (.int .i64 (m.rows : Nat))).setCell ⟨mb, 1, none⟩ (.int .i64 (m.cols : Nat))).setCell ⟨mb, 2, none⟩ (.slice ao ln cap)).heap[pb]? = some (.cells #[.pointer (some ⟨R, 0, none⟩)] 77 (0, 0))) := (hgr.block pb hpl1 (by simp; exact hpm)).trans hp1
 have HWR : Hid (Wr R (some mb) w (((w1.setCell ⟨mb, 0, none⟩ (.int .i64 (m.rows : Nat))).setCell ⟨mb, 1, none⟩ (.int .i64 (m.cols : Nat))).setCell ⟨mb, 2, none⟩ (.slice ao ln cap))) := (n2.weak _).trans (Mv.refl _ _) (Wr.of_grown hgr)
 obtain ⟨a5, ha5⟩ : ∃ a5, a5 = a2 := ⟨_, rfl⟩
 clear n1 n2 n3 hN hm1 hp1 hnb s0 s1 s2' hgr hln ha5
 go_wp2_with fail
 obtain ⟨w3, hw3⟩ : ∃ w3, w3 = ((w1.setCell ⟨mb, 0, none⟩ (.int .i64 (m.rows : Nat))).setCell ⟨mb, 1, none⟩ (.int .i64 (m.cols : Nat))).setCell ⟨mb, 2, none⟩ (.slice ao ln cap) := ⟨_, rfl⟩
 rw [← hw3] at HGR HMB HIR HRS HPB HWR ⊢
 clear hw3 d0 d1 d2 z0 z1 z2 e0 c0
 refine (rd_done R tv L fin a2 s2 _ _ _ HRS.out).mono ?_
 rintro e w4 ⟨rfl, b1⟩
 have HRS4 := Lib.hid (HRS.out.below b1)
 have hm4 : w4.heap[mb]? = some (.cells #[.int .i64 (m.rows : Nat), .int .i64 (m.cols : Nat), .slice ao ln cap] 47 (0, 0)) := (b1.block mb ((Array.getElem?_eq_some_iff.1 HMB.out).1)).trans HMB.out
 have HM4 := Lib.hid hm4
 have HI4 := Lib.hid (HIR.out.below b1)
 have HW4 : Hid (Wr R (some mb) w w4) := HWR.out.trans (Mv.refl _ _) (Wr.of_below b1)
 have c4 : w4.cell? ⟨pb, 0, none⟩ = some (.pointer (some ⟨R, 0, none⟩)) := by
  have := (b1.block pb ((Array.getElem?_eq_some_iff.1 HPB.out).1)).trans HPB.out
  rw [cell_of_row _ _ 0 _ _ _ this]; rfl
 clear b1 hm4
 by_cases hts : s2.ts = []
 ·have HR4 : Hid (r = some (.ok (m, s2))) := by show _ = _; rw [HR1.out]; unfold SynP.done; rw [if_pos hts]; rfl
  rw [decide_eq_true hts]
  clear hts
  go_wp2_with fail
  first | go_end0 | refine bodyPost_ret (results_none rfl _ _ _) rfl ?_
  rw [HR4.out]
  exact ⟨rfl, HW4.out, _, HM4.out, HI4.out⟩
 ·have HR4 : Hid (r = SynP.unfit fin s2) := by show _ = _; rw [HR1.out]; unfold SynP.done; rw [if_neg hts]
  rw [decide_eq_false hts]
  clear hts
  go_wp2_with fail
  refine (rd_unfit R tv L fin a2 s2 _ _ _ HRS4.out).mono ?_
  rintro e w5 ⟨rfl, b1⟩
  refine ⟨rfl, ?_⟩
  rw [HR4.out]
  exact ⟨rfl, HW4.out.trans (Mv.refl _ _) ((Wr.of_below (R := R) (og := none) b1).weak _)⟩
end Go.Proofs.YtgfmiladfeoldaaGreatDoor
