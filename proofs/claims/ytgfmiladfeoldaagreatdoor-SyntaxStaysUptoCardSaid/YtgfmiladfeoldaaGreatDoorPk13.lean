/- Joined texts of this claim's proof: TxtM, GridW, MatTW, CpxTW, RdM, RdA. -/
import Derived.Test.YtgfmiladfeoldaaGreatDoorPk11
import Derived.Test.YtgfmiladfeoldaaGreatDoorPk2
set_option linter.unusedSimpArgs false
set_option linter.unusedVariables false
namespace Go.Proofs.YtgfmiladfeoldaaGreatDoor
open Go.RowKit NatP LexP
def sts (l : List Bytes) : List Value := l.map fun b => .string ⟨b.toArray⟩
theorem sts_len (l : List Bytes) : (sts l).length = l.length := by simp [sts]
theorem sts_app (a b : List Bytes) : sts (a ++ b) = sts a ++ sts b := by simp [sts]
theorem Tryz.infoSt : (Tryz.prog.info? 9).map (fun i => (i.zero, i.size, i.bytes)) = some (some (.string ⟨#[]⟩), 1, 16) := by kernel_rfl
theorem join_eq (sep : Bytes) : ∀ l : List Bytes, Lib.join l sep = SynP.joinB sep l
 | [] => rfl
 | [a] => by rw [Lib.join_one]; rfl
 | a :: b :: l => by
  have h := join_eq sep (b :: l)
  rw [Lib.join_cons] at h ⊢
  show a ++ Lib.joinTail sep (b :: l) = a ++ sep ++ SynP.joinB sep (b :: l)
  rw [← h]
  simp [Lib.joinTail]
def StrPost (l : Bytes) (w : World) (e : Ending) (w' : World) : Prop := e = .returned (.string ⟨l.toArray⟩) ∧ Below w.heap.size w w'
def SS (w : World) (v : Value) (l : List Bytes) : Prop := ∃ ao cap, v = .slice ao l.length cap ∧ l.length ≤ cap ∧ cap ≤ maxLen ∧ (0 < l.length → ∃ g o, ao = some ⟨g, o, none⟩ ∧ g < w.heap.size ∧ ∀ j b, l[j]? = some b → w.cell? ⟨g, o + j, none⟩ = some (.string ⟨b.toArray⟩))
theorem SS.of_row {w : World} {B n : Nat} {v : Value} {l : List Bytes} (h : w.ownsRow B 9 1 v n (sts l)) : SS w v l := by
 have hn : l.length = n := by have := h.1; rw [sts_len] at this; omega
 obtain ⟨ao, cap, e, h1, h2, h3⟩ := ownsRow_shape h
 refine ⟨ao, cap, by rw [hn]; exact e, by omega, h2, fun h0 => ?_⟩
 obtain ⟨g, rfl, a1, a2, a3⟩ := h3 (by omega)
 refine ⟨g, 0, rfl, a2, fun j b hj => ?_⟩
 have hjl := (List.getElem?_eq_some_iff.1 hj).1
 rw [Nat.zero_add, a3 j (by omega)]
 simp [sts, hj]
theorem SS.below {w w' : World} {v : Value} {l : List Bytes} (h : SS w v l) (hb : Below w.heap.size w w') : SS w' v l := by
 obtain ⟨ao, cap, e, h1, h2, h3⟩ := h
 refine ⟨ao, cap, e, h1, h2, fun h0 => ?_⟩
 obtain ⟨g, o, rfl, a2, a3⟩ := h3 h0
 exact ⟨g, o, rfl, Nat.lt_of_lt_of_le a2 hb.size, fun j b hj => (hb.cell (p := ⟨g, o + j, none⟩) a2).trans (a3 j b hj)⟩
theorem join_ss (v : Value) (l : List Bytes) (sep : ByteArray) (w : World) (h : SS w v l) (hN : l.length ≤ 140737488355328) (hl : (SynP.joinB sep.data.toList l).length ≤ 140737488355328) :
  Calls Tryz.prog 123 #[v, .string sep] w (StrPost (SynP.joinB sep.data.toList l) w) := by
 obtain ⟨ao, cap, rfl, h1, h2, h3⟩ := h
 by_cases h0 : 0 < l.length
 ·obtain ⟨g, o, rfl, a2, a3⟩ := h3 h0
  have hm : (l.map fun b => (⟨b.toArray⟩ : ByteArray)).map (·.data.toList) = l := by
   rw [List.map_map]
   conv => rhs; rw [← List.map_id l]
   exact List.map_congr_left fun b _ => rfl
  have := Tryz.strings_Join g o cap (l.map fun b => ⟨b.toArray⟩) sep w (fun j x hj => by
   rw [List.getElem?_map, Option.map_eq_some_iff] at hj
   obtain ⟨b, hb, rfl⟩ := hj
   exact a3 j b hb) a2 (by rw [List.length_map]; exact hN) (by rw [List.length_map]; exact h1) (by rw [hm, join_eq]; exact hl)
  rw [List.length_map, hm, join_eq] at this
  exact this.mono fun e w' h => h
 ·have e : l = [] := List.eq_nil_of_length_eq_zero (by omega)
  subst e
  exact (Tryz.strings_Join_none ao cap sep w).mono fun e w' ⟨a, b⟩ => ⟨a, by rw [b]; exact Below.refl _ _⟩
set_option maxRecDepth 100000 in
theorem mside (n : Nat) (w : World) (hn : n ≤ 4611686018427387904) :
  Calls Tryz.prog 119 #[.int .i64 (n : Nat)] w fun e w' => e = .returned (.bool (decide (n ≤ 64))) ∧ w = w' := by
 have h1 : decide (0 ≤ (n : Int)) = true := by simp
 have h2 : decide ((n : Int) ≤ 64) = decide (n ≤ 64) := by simp; omega
 go_enter Tryz.func119, Tryz.ntmps119
 go_wp2_with fail
 go_ret
 exact ⟨rfl, rfl⟩
def matV (r c : Nat) (at_ : Value) : Value := .agg #[.int .i64 (r : Nat), .int .i64 (c : Nat), at_]
set_option maxRecDepth 100000 in
set_option maxHeartbeats 1000000 in
theorem mcheck (r c n cap : Nat) (ao : Option Addr) (w : World) (hr : r ≤ 64) (hc : c ≤ 64) (hn : n = r * c) :
  Calls Tryz.prog 64 #[.agg #[.int .i64 (r : Nat), .int .i64 (c : Nat), .slice ao n cap]] w fun e w' => e = .returned (.int .i64 0) ∧ Below w.heap.size w w' := by
 have HA := Lib.hid (below_alloc w (.cells #[.int .i64 (r : Nat), .int .i64 (c : Nat), .slice ao n cap] 47))
 have hd1 : decide (r ≤ 64) = true := by simp; exact hr
 have hd2 : decide (c ≤ 64) = true := by simp; exact hc
 have hrc : (r : Int) * (c : Int) = (n : Int) := by rw [hn]; exact (Int.natCast_mul r c).symm
 have hnn : n ≤ 4096 := by rw [hn]; exact Nat.mul_le_mul hr hc
 have H1 := Lib.hid hd1
 have H2 := Lib.hid hd2
 clear hn
 go_enter Tryz.func64, Tryz.ntmps64
 go_wp2_with fail
 refine (mside r _ (by omega)).mono ?_
 rintro e w1 ⟨rfl, rfl⟩
 rw [H1.out]
 go_wp2_with fail
 refine (mside c _ (by omega)).mono ?_
 rintro e w1 ⟨rfl, rfl⟩
 rw [H2.out]
 go_wp2_with fail
 go_ret
 exact ⟨rfl, HA.out⟩
end Go.Proofs.YtgfmiladfeoldaaGreatDoor
namespace Go.Proofs.YtgfmiladfeoldaaGreatDoor
open Go.RowKit NatP LexP
theorem rowsOf_succ {α : Type} (c : Nat) : ∀ (i : Nat) (l : List α), SynP.rowsOf c (i + 1) l = SynP.rowsOf c i l ++ [(l.drop (i * c)).take c]
 | 0, l => by simp [SynP.rowsOf]
 | i + 1, l => by
  have h := rowsOf_succ c i (l.drop c)
  show l.take c :: SynP.rowsOf c (i + 1) (l.drop c) = l.take c :: SynP.rowsOf c i (l.drop c) ++ _
  rw [h, List.drop_drop]
  simp [Nat.succ_mul, Nat.add_comm]
theorem rowsOf_len {α : Type} (c : Nat) : ∀ (i : Nat) (l : List α), (SynP.rowsOf c i l).length = i
 | 0, _ => rfl
 | i + 1, l => by show _ + 1 = _; rw [rowsOf_len c i]
theorem rowsOf_mem {α : Type} (c : Nat) : ∀ (i : Nat) (l X : List α), X ∈ SynP.rowsOf c i l → (∀ b ∈ X, b ∈ l) ∧ X.length ≤ c
 | 0, _, _, h => by cases h
 | i + 1, l, X, h => by
  rcases List.mem_cons.1 h with rfl | h
  ·exact ⟨fun b hb => List.mem_of_mem_take hb, by rw [List.length_take]; omega⟩
  ·have := rowsOf_mem c i (l.drop c) X h
   exact ⟨fun b hb => List.mem_of_mem_drop (this.1 b hb), this.2⟩
theorem joinB_len (sep : Bytes) (M : Nat) : ∀ l : List Bytes, (∀ b ∈ l, b.length ≤ M) → (SynP.joinB sep l).length ≤ l.length * (M + sep.length)
 | [], _ => Nat.zero_le _
 | [a], h => by have := h a (by simp); show a.length ≤ 1 * _; omega
 | a :: b :: l, h => by
  have h1 := joinB_len sep M (b :: l) (fun x hx => h x (List.mem_cons_of_mem _ hx))
  have h2 := h a (by simp)
  show (a ++ sep ++ SynP.joinB sep (b :: l)).length ≤ _
  simp only [List.length_append]
  have e : (a :: b :: l).length = (b :: l).length + 1 := rfl
  rw [e, Nat.succ_mul]
  omega
def gridT (r c : Nat) (l : List Bytes) : Bytes :=
 if l = [] then [91] ++ SynP.decT r ++ [58] ++ SynP.decT c ++ [93]
 else [91] ++ SynP.joinB [59, 32] ((SynP.rowsOf c r l).map (SynP.joinB [32])) ++ [93]
theorem intTx_false (n : Nat) : intTx false n = SynP.decT n := by unfold intTx; simp; rfl
theorem decT_small {n : Nat} (h : n ≤ 64) : (SynP.decT n).length ≤ 20 := by
 have h1 : n < BB ^ 1 := by unfold BB; omega
 have := dg_len_BB h1
 unfold SynP.decT
 split
 ·simp
 ·rw [List.length_map]; omega
set_option maxRecDepth 100000 in
set_option maxHeartbeats 4000000 in
theorem grid_shape (r c cap : Nat) (ao : Option Addr) (w : World) (hs : SG w) (hr : r ≤ 64) (hc : c ≤ 64) :
  Calls Tryz.prog 66 #[.int .i64 (r : Nat), .int .i64 (c : Nat), .slice ao 0 cap] w (StrPost (gridT r c []) w) := by
 have HSG := Lib.hid hs
 have hsz : 4 < w.heap.size := World.block_lt_of_cell? w _ (hs 0 (by omega))
 have q1 := decT_small hr
 have q2 := decT_small hc
 obtain ⟨A, hA⟩ : ∃ A, A = SynP.decT r := ⟨_, rfl⟩
 obtain ⟨B, hB⟩ : ∃ B, B = SynP.decT c := ⟨_, rfl⟩
 rw [← hA] at q1
 rw [← hB] at q2
 have HA := Lib.hid hA
 have HB := Lib.hid hB
 clear hs hA hB
 go_enter Tryz.func66, Tryz.ntmps66
 go_wp2_with fail
 refine (Of_zint r _ hr).mono ?_
 rintro e w1 ⟨v1, xs1, rfl, a1, a2, a3, a4⟩
 have HR1 := Lib.hid a1
 have HV1 := Lib.hid a2
 have HB1 := Lib.hid a4
 clear a1 a2 a4
 go_wp2_with fail
 have hs1 := HSG.out.below HB1.out hsz
 have hsz1 : 4 < w1.heap.size := Nat.lt_of_lt_of_le hsz HB1.out.size
 refine (text_zint false _ xs1 _ hs1 HR1.out (by omega)).mono ?_
 rintro e w2 ⟨rfl, b1⟩
 rw [HV1.out, intTx_false, ← HA.out]
 have HB2 := Lib.hid b1
 have HS2 := Lib.hid (hs1.below b1 hsz1)
 have hsz2 : 4 < w2.heap.size := Nat.lt_of_lt_of_le hsz1 HB2.out.size
 clear b1 hs1
 go_wp2_with fail
 refine (Of_zint c _ hc).mono ?_
 rintro e w3 ⟨v3, xs3, rfl, a1, a2, a5, a4⟩
 have HR3 := Lib.hid a1
 have HV3 := Lib.hid a2
 have HB3 := Lib.hid a4
 clear a1 a2 a4
 go_wp2_with fail
 have hs3 := HS2.out.below HB3.out hsz2
 refine (text_zint false _ xs3 _ hs3 HR3.out (by omega)).mono ?_
 rintro e w4 ⟨rfl, b1⟩
 rw [HV3.out, intTx_false, ← HB.out]
 have HB4 := Lib.hid b1
 clear b1 hs3
 go_wp2_with fail
 go_ret
 have hz1 := HB1.out.size
 have hz2 := HB2.out.size
 have hz3 := HB3.out.size
 refine ⟨?_, ((HB1.out.trans (HB2.out.mono hz1)).trans (HB3.out.mono (Nat.le_trans hz1 hz2))).trans (HB4.out.mono (Nat.le_trans (Nat.le_trans hz1 hz2) hz3))⟩
 have e : gridT r c [] = [91] ++ A ++ [58] ++ B ++ [93] := by rw [HA.out, HB.out]; unfold gridT; rw [if_pos rfl]
 show Ending.returned (.string ((⟨#[91]⟩ : ByteArray) ++ ⟨A.toArray⟩ ++ ⟨#[58]⟩ ++ ⟨B.toArray⟩ ++ ⟨#[93]⟩)) = _
 rw [e, ba_app, ba_app, ba_app, ba_app]
 simp
set_option maxRecDepth 100000 in
set_option maxHeartbeats 4000000 in
theorem grid_rows (r c : Nat) (l : List Bytes) (v : Value) (w : World) (hv : SS w v l) (hl : l ≠ []) (hr : r ≤ 64) (hc : c ≤ 64) (hn : l.length = r * c) (hb : ∀ b ∈ l, b.length ≤ 2147483648) :
  Calls Tryz.prog 66 #[.int .i64 (r : Nat), .int .i64 (c : Nat), v] w (StrPost (gridT r c l) w) := by
 obtain ⟨ao, cap, rfl, h1, h2, h3⟩ := hv
 have hpos : 0 < l.length := List.length_pos_iff.2 hl
 obtain ⟨g, o, rfl, hg, hcell⟩ := h3 hpos
 obtain ⟨n, hnn⟩ : ∃ n, n = l.length := ⟨_, rfl⟩
 rw [← hnn] at h1 hpos hn ⊢
 have hn4 : n ≤ 4096 := by rw [hn]; exact Nat.mul_le_mul hr hc
 have HC := Lib.hid hcell
 have HL := Lib.hid hl
 have HN := Lib.hid hn
 have HNN := Lib.hid hnn
 have HBD := Lib.hid hb
 have hne : ((n : Int) == 0) = false := by simp; omega
 have h2' : cap ≤ 9223372036854775807 := by unfold maxLen at h2; omega
 have HPOS := Lib.hid hpos
 clear hcell hl hn hnn hb h3 hpos
 obtain ⟨i0, hi, hz0, hz1', hz2'⟩ := info_parts Tryz.infoSt
 go_enter Tryz.func66, Tryz.ntmps66
 go_wp2_with fail
 go_loopw [7, 8, 23] (fun lv _ iv wr => ∃ i : Nat, iv = .int .i64 (i : Nat) ∧ i ≤ r ∧ wr.ownsRow w.heap.size 9 1 lv i (sts ((SynP.rowsOf c i l).map (SynP.joinB [32]))) ∧ Below w.heap.size w wr) (fun _ _ iv _ => (r - intOf iv).toNat)
 case atStart => exact ⟨0, rfl, Nat.zero_le _, World.ownsRow_nil _ _ _ _, Below.refl _ _⟩
 case round =>
  obtain ⟨i, rfl, hir, hown, hbl⟩ := hrel
  have HOWN := Lib.hid hown
  have HBL := Lib.hid hbl
  obtain ⟨bo, bcap, rfl, hbc, hbm, hbs⟩ := ownsRow_shape hown
  have HBS := Lib.hid hbs
  clear hown hbl hbs
  by_cases hlt : i < r
  ·obtain ⟨a, ha⟩ : ∃ a, a = i * c := ⟨_, rfl⟩
   have hac : a + c ≤ n := by rw [HN.out, ha, ← Nat.succ_mul]; exact Nat.mul_le_mul (by omega) (Nat.le_refl _)
   have E1 : (i : Int) * (c : Int) = (a : Int) := by rw [ha]; exact (Int.natCast_mul i c).symm
   have E2 : ((i : Int) + 1) * (c : Int) = ((a + c : Nat) : Int) := by rw [Int.add_mul, E1]; omega
   have HAE := Lib.hid ha
   clear ha
   have hc0 : 0 < c := by
    rcases Nat.eq_zero_or_pos c with h | h
    ·subst h; have h1 := HN.out; rw [Nat.mul_zero] at h1; have h2 := HPOS.out; omega
    ·exact h
   have hca : ¬ cap = a := by omega
   obtain ⟨X, hX⟩ : ∃ X, X = (l.drop a).take c := ⟨_, rfl⟩
   have hXl : X.length = c := by rw [hX, List.length_take, List.length_drop, ← HNN.out]; omega
   have HX := Lib.hid hX
   have HXL := Lib.hid hXl
   have hXb : ∀ b ∈ X, b.length ≤ 2147483648 := fun b hb => HBD.out b (List.mem_of_mem_drop (List.mem_of_mem_take (hX ▸ hb)))
   have hss : SS wr (.slice (some ⟨g, o + a, none⟩) c (cap - a)) X := by
    refine ⟨_, _, by rw [hXl], by omega, by omega, fun _ => ⟨g, o + a, rfl, Nat.lt_of_lt_of_le hg HBL.out.size, fun j b hj => ?_⟩⟩
    rw [hX, List.getElem?_take] at hj
    split at hj
    ·rw [List.getElem?_drop] at hj
     rw [Nat.add_assoc]
     exact (HBL.out.cell (p := ⟨g, o + (a + j), none⟩) hg).trans (HC.out (a + j) b hj)
    ·cases hj
   have HSS := Lib.hid hss
   have hjl := joinB_len [32] 2147483648 X hXb
   rw [hXl] at hjl
   have hjl2 : (SynP.joinB [32] X).length ≤ 137438953536 := by
    refine Nat.le_trans hjl (Nat.le_trans (Nat.mul_le_mul hc (Nat.le_refl _)) (by decide))
   have HJL := Lib.hid hjl2
   clear hX hXl hXb hss hjl hjl2
   go_wp2_with fail
   refine (join_ss _ X ⟨#[32]⟩ _ HSS.out (by rw [HXL.out]; omega) (Nat.le_trans HJL.out (by omega))).mono ?_
   rintro e w1 ⟨rfl, hb1⟩
   have HB1 := Lib.hid hb1
   have HO1 := Lib.hid (ownsRow_below HOWN.out hb1 (Nat.le_refl _))
   obtain ⟨J, hJ⟩ : ∃ J, J = SynP.joinB [32] X := ⟨_, rfl⟩
   rw [show SynP.joinB (⟨#[32]⟩ : ByteArray).data.toList X = J from hJ.symm]
   have HJ := Lib.hid hJ
   clear hb1 hJ
   have hz1 := HB1.out.size
   have hz2 := HBL.out.size
   go_wp2_with (at_builtin; refine wpList_append_own_at _ rfl _ _ 105 rfl w.heap.size 9 i0 (.string ⟨#[]⟩) 1 16 Tryz.underlying105 hi hz0 hz1' hz2' rfl (by decide) _ _ _ rfl (World.ownsRow.alloc HO1.out _) ⟨w1.heap.size, 0, none⟩ 1 1 [.string ⟨J.toArray⟩] rfl rfl (LexP.cells_new _ _ _ _ rfl) (by simp [Value.oneCell']) (by unfold maxLen; omega) (by omega) (by simp; omega) ?_)
   intro v4 w4 hown4 hgrow4 _ hbk4
   have hrows : sts ((SynP.rowsOf c (i + 1) l).map (SynP.joinB [32])) = sts ((SynP.rowsOf c i l).map (SynP.joinB [32])) ++ [.string ⟨J.toArray⟩] := by
    rw [rowsOf_succ, List.map_append, sts_app, ← HAE.out, ← HX.out, HJ.out]; rfl
   have HO4 : Hid (w4.ownsRow w.heap.size 9 1 v4 (i + 1) (sts ((SynP.rowsOf c (i + 1) l).map (SynP.joinB [32])))) := by
    show World.ownsRow _ _ _ _ _ _ _
    rw [hrows]; exact hown4
   have HB4 : Hid (Below w.heap.size w w4) := Below.grown ((HBL.out.trans (HB1.out.mono HBL.out.size)).alloc (by omega) _) hgrow4 (by simp; omega) (fun q hq => (World.ownsRow.lt HO1.out q hq).1)
   clear hown4 hgrow4 hbk4 hrows
   go_wp2_with fail
   have hfin : w4.ownsRow w.heap.size 9 1 v4 (i + 1) (sts ((SynP.rowsOf c (i + 1) l).map (SynP.joinB [32]))) ∧ Below w.heap.size w w4 := ⟨HO4.out, HB4.out⟩
   first | exact ⟨⟨i + 1, rfl, by omega, hfin⟩, by simp [intOf] <;> omega⟩ | exact ⟨by (repeat apply Exists.intro); exact ⟨⟨i + 1, rfl, by omega, hfin⟩, rfl⟩, by simp [intOf] <;> omega⟩
  ·have hie : i = r := by omega
   subst hie
   have hlb : ∀ b ∈ (SynP.rowsOf c i l).map (SynP.joinB [32]), b.length ≤ 137438953536 := by
    intro b hb
    rw [List.mem_map] at hb
    obtain ⟨X, hX, rfl⟩ := hb
    have h1 := rowsOf_mem c i l X hX
    refine Nat.le_trans (joinB_len [32] 2147483648 X (fun b hb => HBD.out b (h1.1 b hb))) ?_
    refine Nat.le_trans (Nat.mul_le_mul (Nat.le_trans h1.2 hc) (Nat.le_refl _)) (by decide)
   have hjl := joinB_len [59, 32] 137438953536 _ hlb
   rw [List.length_map, rowsOf_len] at hjl
   obtain ⟨T, hT⟩ : ∃ T, T = SynP.joinB [59, 32] ((SynP.rowsOf c i l).map (SynP.joinB [32])) := ⟨_, rfl⟩
   rw [← hT] at hjl
   have hjl2 : T.length ≤ 8796093026432 := by
    refine Nat.le_trans hjl (Nat.le_trans (Nat.mul_le_mul hr (Nat.le_refl _)) (by decide))
   have HT := Lib.hid hT
   clear hjl hlb hT
   go_wp2_with fail
   have hJ := join_ss _ ((SynP.rowsOf c i l).map (SynP.joinB [32])) ⟨#[59, 32]⟩ _ (SS.of_row HOWN.out) (by rw [List.length_map, rowsOf_len]; omega) (by
    show (SynP.joinB [59, 32] _).length ≤ _
    rw [← HT.out]; omega)
   rw [show SynP.joinB (⟨#[59, 32]⟩ : ByteArray).data.toList ((SynP.rowsOf c i l).map (SynP.joinB [32])) = T from HT.out.symm] at hJ
   refine hJ.mono ?_
   rintro e w1 ⟨rfl, hb1⟩
   have HB1 := Lib.hid hb1
   clear hb1 hJ
   go_wp2_with fail
   go_ret
   refine ⟨?_, HBL.out.trans (HB1.out.mono HBL.out.size)⟩
   have e : gridT i c l = [91] ++ T ++ [93] := by rw [HT.out]; unfold gridT; rw [if_neg HL.out]
   show Ending.returned (.string ((⟨#[91]⟩ : ByteArray) ++ ⟨T.toArray⟩ ++ ⟨#[93]⟩)) = _
   rw [e, ba_app, ba_app]
   simp
end Go.Proofs.YtgfmiladfeoldaaGreatDoor
namespace Go.Proofs.YtgfmiladfeoldaaGreatDoor
open Go.RowKit NatP LexP
def IRd (w : World) (v : Value) (l : List (Bool × Nat)) : Prop := ∃ ao cap, v = .slice ao l.length cap ∧ l.length ≤ cap ∧ cap ≤ maxLen ∧ (0 < l.length → ∃ g o, ao = some ⟨g, o, none⟩ ∧ g < w.heap.size ∧ ∀ j p, l[j]? = some p → ∃ m xs, w.cell? ⟨g, o + j * 2, none⟩ = some (.bool p.1) ∧ w.cell? ⟨g, o + j * 2 + 1, none⟩ = some m ∧ Rd w m xs ∧ NatP.val xs = p.2 ∧ xs.length ≤ 67108864)
theorem IRd.below {w w' : World} {v : Value} {l : List (Bool × Nat)} (h : IRd w v l) (hb : Below w.heap.size w w') : IRd w' v l := by
 obtain ⟨ao, cap, e, h1, h2, h3⟩ := h
 refine ⟨ao, cap, e, h1, h2, fun h0 => ?_⟩
 obtain ⟨g, o, rfl, a2, a3⟩ := h3 h0
 refine ⟨g, o, rfl, Nat.lt_of_lt_of_le a2 hb.size, fun j p hj => ?_⟩
 obtain ⟨m, xs, b1, b2, b3, b4, b5⟩ := a3 j p hj
 exact ⟨m, xs, (hb.cell (p := ⟨g, o + j * 2, none⟩) a2).trans b1, (hb.cell (p := ⟨g, o + j * 2 + 1, none⟩) a2).trans b2, b3.below hb, b4, b5⟩
def intsT (l : List (Bool × Nat)) : List Bytes := l.map fun p => intTx p.1 p.2
theorem intTx_len (neg : Bool) {xs : List Nat} (hl : xs.length ≤ 67108864) (hok : ok xs) : (intTx neg (NatP.val xs)).length ≤ 2147483648 := by
 have h : (decTx (NatP.val xs)).length ≤ 1342177281 := by
  unfold decTx
  split
  ·simp
  ·have := dg_len_BB (val_lt hok)
   rw [List.length_map]; omega
 unfold intTx
 split
 ·simp only [List.length_cons]; omega
 ·omega
set_option maxRecDepth 100000 in
set_option maxHeartbeats 4000000 in
theorem mat_text (r c : Nat) (l : List (Bool × Nat)) (v : Value) (w : World) (hs : SG w) (hv : IRd w v l) (hr : r ≤ 64) (hc : c ≤ 64) (hn : l.length = r * c) :
  Calls Tryz.prog 30 #[.agg #[.int .i64 (r : Nat), .int .i64 (c : Nat), v]] w fun e w' => e = .returned (.tuple #[.string ⟨(gridT r c (intsT l)).toArray⟩, .int .i64 0]) ∧ Below w.heap.size w w' := by
 have HSG := Lib.hid hs
 have HV := Lib.hid hv
 have hsz : 4 < w.heap.size := World.block_lt_of_cell? w _ (hs 0 (by omega))
 obtain ⟨ao, cap, rfl, h1, h2, h3⟩ := hv
 obtain ⟨n, hnn⟩ : ∃ n, n = l.length := ⟨_, rfl⟩
 rw [← hnn] at h1 hn ⊢
 have hn4 : n ≤ 4096 := by rw [hn]; exact Nat.mul_le_mul hr hc
 have HN := Lib.hid hn
 have HNN := Lib.hid hnn
 have H3 := Lib.hid h3
 have HA := Lib.hid (below_alloc w (.cells #[.int .i64 (r : Nat), .int .i64 (c : Nat), .slice ao n cap] 47))
 have hblk := heap_alloc_new w (.cells #[.int .i64 (r : Nat), .int .i64 (c : Nat), .slice ao n cap] 47)
 have HBK := Lib.hid hblk
 clear hs hn hnn h3 hblk
 obtain ⟨i0, hi, hz0, hz1', hz2'⟩ := info_parts Tryz.infoSt
 go_enter Tryz.func30, Tryz.ntmps30
 go_wp2_with fail
 refine (mcheck r c n cap ao _ hr hc HN.out).mono ?_
 rintro e w1 ⟨rfl, hb1⟩
 have hbk1 : w1.heap[w.heap.size]? = some (.cells #[.int .i64 (r : Nat), .int .i64 (c : Nat), .slice ao n cap] 47 (0, 0)) := (hb1.block w.heap.size (by simp)).trans HBK.out
 have HB1 : Hid (Below w.heap.size w w1) := HA.out.trans (hb1.mono (by simp))
 have hw1 : w.heap.size < w1.heap.size := by have := hb1.size; simp at this; omega
 have HBK1 := Lib.hid hbk1
 have e0 : w1.cell? ⟨w.heap.size, 0, none⟩ = some (.int .i64 (r : Nat)) := (cell_of_row w1 _ _ _ _ _ hbk1).trans rfl
 have e1 : w1.cell? ⟨w.heap.size, 1, none⟩ = some (.int .i64 (c : Nat)) := (cell_of_row w1 _ _ _ _ _ hbk1).trans rfl
 have e2 : w1.cell? ⟨w.heap.size, 2, none⟩ = some (.slice ao n cap) := (cell_of_row w1 _ _ _ _ _ hbk1).trans rfl
 clear hb1 hbk1
 go_wp2_with (at_make; refine wpList_make_own _ rfl _ _ 105 rfl w1.heap.size 9 i0 (.string ⟨#[]⟩) 1 Tryz.underlying105 hi hz0 hz1' _ _ _ n rfl rfl rfl (by rw [hz2']; omega) (by unfold maxLen; omega) (Nat.le_refl _) ?_)
 intro w2 hown2 hgrow2
 have hb2 : Below w1.heap.size w1 w2 := Below.grown (Below.refl _ _) hgrow2 (Nat.le_refl _) (fun k hk => by cases hk)
 have HO2 := Lib.hid hown2
 have HB2 := Lib.hid hb2
 have f2 : w2.cell? ⟨w.heap.size, 2, none⟩ = some (.slice ao n cap) := (hb2.cell (p := ⟨w.heap.size, 2, none⟩) hw1).trans e2
 clear hown2 hgrow2 hb2
 go_wp2_with fail
 clear e0 e1 e2 f2
 go_loopw [5, 7, 20] (fun lv _ iv wr => ∃ i : Nat, iv = .int .i64 (i : Nat) ∧ i ≤ n ∧ wr.ownsRow w1.heap.size 9 1 lv i (sts (intsT (l.take i))) ∧ Below w1.heap.size w1 wr) (fun _ _ iv _ => (n - intOf iv).toNat)
 case atStart => exact ⟨0, rfl, Nat.zero_le _, by simpa [intsT, sts] using HO2.out, HB2.out⟩
 case round =>
  obtain ⟨i, rfl, hin, hown, hbl⟩ := hrel
  have HOWN := Lib.hid hown
  have HBL := Lib.hid hbl
  obtain ⟨bo, bcap, rfl, hbc, hbm, hbs⟩ := ownsRow_shape hown
  have hz1 := hbl.size
  clear hown hbl hbs
  by_cases hlt : i < n
  ·obtain ⟨g, o, rfl, hg, hcell⟩ := H3.out (by rw [← HNN.out]; omega)
   obtain ⟨p, hp⟩ : ∃ p, l[i]? = some p := ⟨_, List.getElem?_eq_getElem (by rw [← HNN.out]; omega)⟩
   obtain ⟨m, xs, c0, c1, hrd, hval, hxl⟩ := hcell i p hp
   obtain ⟨neg, k⟩ := p
   obtain ⟨mo, mcap, hme, -⟩ := hrd.2
   subst hme
   have hbw : Below w.heap.size w wr := HB1.out.trans (HBL.out.mono (Nat.le_of_lt hw1))
   have d0 : wr.cell? ⟨g, o + i * 2, none⟩ = some (.bool neg) := (hbw.cell (p := ⟨g, o + i * 2, none⟩) hg).trans c0
   have d1 : wr.cell? ⟨g, o + i * 2 + 1, none⟩ = some (.slice mo xs.length mcap) := (hbw.cell (p := ⟨g, o + i * 2 + 1, none⟩) hg).trans c1
   have HRD := Lib.hid (hrd.below hbw)
   have HVAL := Lib.hid hval
   have HP := Lib.hid hp
   have HBW := Lib.hid hbw
   clear c0 c1 hrd hval hp hcell hbw
   have HAL := Lib.hid (below_alloc wr (.cells #[.bool neg, .slice mo xs.length mcap] 62))
   have HTL : Hid ((intTx neg k).length ≤ 2147483648) := by
    have := intTx_len neg hxl HRD.out.ok
    rw [HVAL.out] at this; exact this
   go_wp2_with fail
   have hsg := (HSG.out.below HBW.out hsz).below HAL.out (Nat.lt_of_lt_of_le hsz HBW.out.size)
   refine (text_zint neg _ xs _ hsg (HRD.out.below HAL.out) (by omega)).mono ?_
   rintro e w3 ⟨rfl, hb3⟩
   have e1 : intTx neg (NatP.val xs) = intTx neg k := by rw [HVAL.out]
   rw [e1]
   obtain ⟨T, hT⟩ : ∃ T, T = intTx neg k := ⟨_, rfl⟩
   rw [← hT]
   have HT := Lib.hid hT
   have HB3 : Hid (Below wr.heap.size wr w3) := HAL.out.trans (hb3.mono (by simp))
   have HO3 := Lib.hid (ownsRow_below HOWN.out HB3.out (Nat.le_refl _))
   have hz3 := HB3.out.size
   clear hb3 hsg hT e1 d0 d1
   go_wp2_with (at_builtin; refine wpList_append_own_at _ rfl _ _ 105 rfl w1.heap.size 9 i0 (.string ⟨#[]⟩) 1 16 Tryz.underlying105 hi hz0 hz1' hz2' rfl (by decide) _ _ _ rfl (World.ownsRow.alloc HO3.out _) ⟨w3.heap.size, 0, none⟩ 1 1 [.string ⟨T.toArray⟩] rfl rfl (LexP.cells_new _ _ _ _ rfl) (by simp [Value.oneCell']) (by unfold maxLen; omega) (by omega) (by simp; omega) ?_)
   intro v4 w4 hown4 hgrow4 _ hbk4
   have hrows : sts (intsT (l.take (i + 1))) = sts (intsT (l.take i)) ++ [.string ⟨T.toArray⟩] := by
    rw [List.take_add_one, HP.out]
    simp [intsT, sts, HT.out]
   have HO4 : Hid (w4.ownsRow w1.heap.size 9 1 v4 (i + 1) (sts (intsT (l.take (i + 1))))) := by
    show World.ownsRow _ _ _ _ _ _ _
    rw [hrows]; exact hown4
   have HB4 : Hid (Below w1.heap.size w1 w4) := Below.grown ((HBL.out.trans (HB3.out.mono hz1)).alloc (by omega) _) hgrow4 (by simp; omega) (fun q hq => (World.ownsRow.lt HO3.out q hq).1)
   clear hown4 hgrow4 hbk4 hrows
   go_wp2_with fail
   have hfin : w4.ownsRow w1.heap.size 9 1 v4 (i + 1) (sts (intsT (l.take (i + 1)))) ∧ Below w1.heap.size w1 w4 := ⟨HO4.out, HB4.out⟩
   first | exact ⟨⟨i + 1, rfl, by omega, hfin⟩, by simp [intOf] <;> omega⟩ | exact ⟨by (repeat apply Exists.intro); exact ⟨⟨i + 1, rfl, by omega, hfin⟩, rfl⟩, by simp [intOf] <;> omega⟩
  ·have hie : i = n := by omega
   have htk : l.take i = l := List.take_of_length_le (by rw [hie]; exact Nat.le_of_eq HNN.out.symm)
   rw [htk] at HOWN
   have hbk := (HBL.out.block w.heap.size hw1).trans HBK1.out
   have e0 : wr.cell? ⟨w.heap.size, 0, none⟩ = some (.int .i64 (r : Nat)) := (cell_of_row wr _ _ _ _ _ hbk).trans rfl
   have e1 : wr.cell? ⟨w.heap.size, 1, none⟩ = some (.int .i64 (c : Nat)) := (cell_of_row wr _ _ _ _ _ hbk).trans rfl
   have HBW : Hid (Below w.heap.size w wr) := HB1.out.trans (HBL.out.mono (Nat.le_of_lt hw1))
   have HIE := Lib.hid hie
   clear hbk htk hie
   go_wp2_with fail
   have hil : (intsT l).length = r * c := by unfold intsT; rw [List.length_map, ← HNN.out, HN.out]
   have hgrid : Calls Tryz.prog 66 #[.int .i64 (r : Nat), .int .i64 (c : Nat), .slice bo i bcap] wr (StrPost (gridT r c (intsT l)) wr) := by
    by_cases h0 : intsT l = []
    ·have hi0 : i = 0 := by
      have := congrArg List.length h0
      rw [hil, List.length_nil, ← HN.out] at this
      rw [HIE.out]; exact this
     subst hi0
     rw [h0]
     exact grid_shape r c bcap bo _ (HSG.out.below HBW.out hsz) hr hc
    ·refine grid_rows r c (intsT l) _ _ (SS.of_row HOWN.out) h0 hr hc hil ?_
     intro b hb
     unfold intsT at hb
     rw [List.mem_map] at hb
     obtain ⟨p, hp, rfl⟩ := hb
     obtain ⟨j, hj⟩ := List.getElem?_of_mem hp
     have hl0 : 0 < l.length := by have := (List.getElem?_eq_some_iff.1 hj).1; omega
     obtain ⟨g, o, _, _, hcell⟩ := H3.out hl0
     obtain ⟨m, xs, _, _, hrd, hval, hxl⟩ := hcell j p hj
     have := intTx_len p.1 hxl hrd.ok
     rw [hval] at this; exact this
   refine hgrid.mono ?_
   rintro e w5 ⟨rfl, hb5⟩
   have HB5 := Lib.hid hb5
   clear hb5 hgrid
   go_wp2_with fail
   go_ret2
   exact ⟨rfl, HBW.out.trans (HB5.out.mono HBW.out.size)⟩
end Go.Proofs.YtgfmiladfeoldaaGreatDoor
namespace Go.Proofs.YtgfmiladfeoldaaGreatDoor
open Go.RowKit NatP LexP
def Sl (w : World) (v : Value) (n : Nat) (R : Nat → Value → Prop) : Prop := ∃ ao cap, v = .slice ao n cap ∧ n ≤ cap ∧ cap ≤ maxLen ∧ (0 < n → ∃ g o, ao = some ⟨g, o, none⟩ ∧ g < w.heap.size ∧ ∀ j, j < n → ∃ u, w.cell? ⟨g, o + j, none⟩ = some u ∧ R j u)
theorem Sl.mono {w w' : World} {v : Value} {n : Nat} {R R' : Nat → Value → Prop} (h : Sl w v n R) (hb : Below w.heap.size w w') (hr : ∀ j u, R j u → R' j u) : Sl w' v n R' := by
 obtain ⟨ao, cap, e, h1, h2, h3⟩ := h
 refine ⟨ao, cap, e, h1, h2, fun h0 => ?_⟩
 obtain ⟨g, o, rfl, a2, a3⟩ := h3 h0
 refine ⟨g, o, rfl, Nat.lt_of_lt_of_le a2 hb.size, fun j hj => ?_⟩
 obtain ⟨u, b1, b2⟩ := a3 j hj
 exact ⟨u, (hb.cell (p := ⟨g, o + j, none⟩) a2).trans b1, hr j u b2⟩
def NRd (w : World) (v : Value) (n : Nat) : Prop := ∃ xs, Rd w v xs ∧ NatP.val xs = n ∧ xs.length ≤ 67108864
theorem NRd.below {w w' : World} {v : Value} {n : Nat} (h : NRd w v n) (hb : Below w.heap.size w w') : NRd w' v n := by
 obtain ⟨xs, h1, h2, h3⟩ := h; exact ⟨xs, h1.below hb, h2, h3⟩
def NsRd (w : World) (v : Value) (s : List Nat) : Prop := Sl w v s.length fun j u => ∃ n, s[j]? = some n ∧ NRd w u n
theorem NsRd.below {w w' : World} {v : Value} {s : List Nat} (h : NsRd w v s) (hb : Below w.heap.size w w') : NsRd w' v s :=
 Sl.mono h hb fun _ _ ⟨n, a, b⟩ => ⟨n, a, b.below hb⟩
def CRd (w : World) (v : Value) (l : List (List Nat)) : Prop := Sl w v l.length fun j u => ∃ s, l[j]? = some s ∧ NsRd w u s
theorem CRd.below {w w' : World} {v : Value} {l : List (List Nat)} (h : CRd w v l) (hb : Below w.heap.size w w') : CRd w' v l :=
 Sl.mono h hb fun _ _ ⟨n, a, b⟩ => ⟨n, a, b.below hb⟩
theorem joinB_mem (sep : Bytes) : ∀ (l : List Bytes) (b : Bytes), b ∈ l → b.length ≤ (SynP.joinB sep l).length
 | [a], b, h => by rw [List.mem_singleton.1 h]; exact Nat.le_refl _
 | a :: c :: l, b, h => by
  show b.length ≤ (a ++ sep ++ SynP.joinB sep (c :: l)).length
  simp only [List.length_append]
  rcases List.mem_cons.1 h with rfl | h
  ·omega
  ·have := joinB_mem sep (c :: l) b h; omega
def simT (s : List Nat) : Bytes := SynP.joinB [32] (s.map SynP.decT)
theorem decT_len {xs : List Nat} (hl : xs.length ≤ 67108864) (hok : ok xs) : (SynP.decT (NatP.val xs)).length ≤ 2147483648 := by
 have := intTx_len false hl hok
 rw [intTx_false] at this; exact this
set_option maxRecDepth 100000 in
set_option maxHeartbeats 4000000 in
theorem cpx_text (l : List (List Nat)) (v : Value) (w : World) (hs : SG w) (hv : CRd w v l) (hn : l.length ≤ 134217728) (hm : ∀ s ∈ l, s.length ≤ 134217728) (hT : (SynP.joinB [44, 32] (l.map simT)).length ≤ 70368744177664) :
  Calls Tryz.prog 67 #[v] w (StrPost (SynP.cpxT l) w) := by
 have HSG := Lib.hid hs
 have HV := Lib.hid hv
 have hsz : 4 < w.heap.size := World.block_lt_of_cell? w _ (hs 0 (by omega))
 obtain ⟨ao, cap, rfl, h1, h2, h3⟩ := hv
 obtain ⟨n, hnn⟩ : ∃ n, n = l.length := ⟨_, rfl⟩
 rw [← hnn] at h1 hn h3 ⊢
 have HNN := Lib.hid hnn
 have H3 := Lib.hid h3
 have HM := Lib.hid hm
 have HT := Lib.hid hT
 clear hs hnn h3 hm hT
 obtain ⟨i0, hi, hz0, hz1', hz2'⟩ := info_parts Tryz.infoSt
 go_enter Tryz.func67, Tryz.ntmps67
 go_wp2_with fail
 go_loopw [3, 5, 6, 8, 11] (fun lv _ _ _ iv wr => ∃ i : Nat, iv = .int .i64 (i : Nat) ∧ i ≤ n ∧ wr.ownsRow w.heap.size 9 1 lv i (sts ((l.map simT).take i)) ∧ Below w.heap.size w wr) (fun _ _ _ _ iv _ => (n - intOf iv).toNat)
 case atStart => exact ⟨0, rfl, Nat.zero_le _, World.ownsRow_nil _ _ _ _, Below.refl _ _⟩
 case round =>
  obtain ⟨i, rfl, hin, hown, hbl⟩ := hrel
  have HOWN := Lib.hid hown
  have HBL := Lib.hid hbl
  obtain ⟨bo, bcap, rfl, hbc, hbm, hbs⟩ := ownsRow_shape hown
  have hz1 := hbl.size
  clear hown hbl hbs
  by_cases hlt : i < n
  ·obtain ⟨g, o, rfl, hg, hcell⟩ := H3.out (by omega)
   obtain ⟨u, c0, s, hsi, hsr⟩ := hcell i hlt
   have d0 : wr.cell? ⟨g, o + i, none⟩ = some u := (HBL.out.cell (p := ⟨g, o + i, none⟩) hg).trans c0
   have HSI := Lib.hid hsi
   have hsr2 := hsr.below HBL.out
   have HSR := Lib.hid hsr2
   obtain ⟨so, scap, rfl, s1, s2, s3⟩ := hsr2
   have hsl := HM.out s (List.mem_of_getElem? hsi)
   have HS3 := Lib.hid s3
   obtain ⟨m, hmm⟩ : ∃ m, m = s.length := ⟨_, rfl⟩
   rw [← hmm] at s1 hsl HS3 d0
   have HMM := Lib.hid hmm
   clear c0 hsi hsr hcell s3 hmm
   obtain ⟨wo, rfl⟩ : ∃ wo, wo = wr := ⟨_, rfl⟩
   go_wp2_with fail
   go_loopw [6, 8, 17] (fun nv _ jv wx => ∃ j : Nat, jv = .int .i64 (j : Nat) ∧ j ≤ m ∧ wx.ownsRow wo.heap.size 9 1 nv j (sts ((s.map SynP.decT).take j)) ∧ Below wo.heap.size wo wx) (fun _ _ jv _ => (m - intOf jv).toNat)
   case atStart => exact ⟨0, rfl, Nat.zero_le _, World.ownsRow_nil _ _ _ _, Below.refl _ _⟩
   case round =>
    obtain ⟨j, rfl, hjm, hown2, hbl2⟩ := hrel
    have HOWN2 := Lib.hid hown2
    have HBL2 := Lib.hid hbl2
    obtain ⟨no, ncap, rfl, hnc, hnm, hns⟩ := ownsRow_shape hown2
    have hz2 := hbl2.size
    have HBW : Hid (Below w.heap.size w wr) := HBL.out.trans (hbl2.mono hz1)
    clear hown2 hbl2 hns
    by_cases hjt : j < m
    ·obtain ⟨g2, o2, rfl, hg2, hcell2⟩ := HS3.out (by omega)
     obtain ⟨u, c0, k, hsk, xs, hrd, hval, hxl⟩ := hcell2 j hjt
     have e0 : wr.cell? ⟨g2, o2 + j, none⟩ = some u := (HBL2.out.cell (p := ⟨g2, o2 + j, none⟩) hg2).trans c0
     have HRD := Lib.hid (hrd.below HBL2.out)
     have HVAL := Lib.hid hval
     have HSK := Lib.hid hsk
     have HTL : Hid ((SynP.decT k).length ≤ 2147483648) := by
      have := decT_len hxl hrd.ok
      rw [hval] at this; exact this
     obtain ⟨uo, ucap, hue, -⟩ := hrd.2
     subst hue
     clear c0 hsk hrd hval hcell2
     go_wp2_with fail
     refine (dec_any _ xs _ (HSG.out.below HBW.out hsz) HRD.out (by omega)).mono ?_
     rintro e w3 ⟨rfl, hb3⟩
     rw [HVAL.out, decTx_eq]
     obtain ⟨T, hT⟩ : ∃ T, T = SynP.decT k := ⟨_, rfl⟩
     rw [← hT]
     have HT2 := Lib.hid hT
     have HB3 := Lib.hid hb3
     have HO3 := Lib.hid (ownsRow_below HOWN2.out hb3 (Nat.le_refl _))
     have hz3 := hb3.size
     clear hb3 hT e0
     go_wp2_with (at_builtin; refine wpList_append_own_at _ rfl _ _ 105 rfl wo.heap.size 9 i0 (.string ⟨#[]⟩) 1 16 Tryz.underlying105 hi hz0 hz1' hz2' rfl (by decide) _ _ _ rfl (World.ownsRow.alloc HO3.out _) ⟨w3.heap.size, 0, none⟩ 1 1 [.string ⟨T.toArray⟩] rfl rfl (LexP.cells_new _ _ _ _ rfl) (by simp [Value.oneCell']) (by unfold maxLen; omega) (by omega) (by simp; omega) ?_)
     intro v4 w4 hown4 hgrow4 _ hbk4
     have hrows : sts ((s.map SynP.decT).take (j + 1)) = sts ((s.map SynP.decT).take j) ++ [.string ⟨T.toArray⟩] := by
      rw [List.take_add_one, List.getElem?_map, HSK.out]
      simp [sts, HT2.out]
     have HO4 : Hid (w4.ownsRow wo.heap.size 9 1 v4 (j + 1) (sts ((s.map SynP.decT).take (j + 1)))) := by
      show World.ownsRow _ _ _ _ _ _ _
      rw [hrows]; exact hown4
     have HB4 : Hid (Below wo.heap.size wo w4) := Below.grown ((HBL2.out.trans (HB3.out.mono hz2)).alloc (by omega) _) hgrow4 (by simp; omega) (fun q hq => (World.ownsRow.lt HO3.out q hq).1)
     clear hown4 hgrow4 hbk4 hrows
     go_wp2_with fail
     have hfin : w4.ownsRow wo.heap.size 9 1 v4 (j + 1) (sts ((s.map SynP.decT).take (j + 1))) ∧ Below wo.heap.size wo w4 := ⟨HO4.out, HB4.out⟩
     first | exact ⟨⟨j + 1, rfl, by omega, hfin⟩, by simp [intOf] <;> omega⟩ | exact ⟨by (repeat apply Exists.intro); exact ⟨⟨j + 1, rfl, by omega, hfin⟩, rfl⟩, by simp [intOf] <;> omega⟩
    ·have hje : j = m := by omega
     have htk : (s.map SynP.decT).take j = s.map SynP.decT := List.take_of_length_le (by rw [hje, List.length_map]; exact Nat.le_of_eq HMM.out.symm)
     rw [htk] at HOWN2
     have hsT : simT s = SynP.joinB [32] (s.map SynP.decT) := rfl
     have HSL : Hid ((simT s).length ≤ 70368744177664) := Nat.le_trans (joinB_mem [44, 32] (l.map simT) _ (List.mem_map_of_mem (List.mem_of_getElem? HSI.out))) HT.out
     obtain ⟨T, hT2⟩ : ∃ T, T = simT s := ⟨_, rfl⟩
     have HT2 := Lib.hid hT2
     have HSS := Lib.hid (SS.of_row HOWN2.out)
     clear htk hsT hT2 hje
     go_wp2_with fail
     have hJ := join_ss _ (s.map SynP.decT) ⟨#[32]⟩ _ HSS.out (by rw [List.length_map, ← HMM.out]; omega) (by
      show (simT s).length ≤ _
      exact Nat.le_trans HSL.out (by omega))
     rw [show SynP.joinB (⟨#[32]⟩ : ByteArray).data.toList (s.map SynP.decT) = T from HT2.out.symm] at hJ
     refine hJ.mono ?_
     rintro e w3 ⟨rfl, hb3⟩
     have HB3 := Lib.hid (HBL2.out.trans (hb3.mono hz2))
     have HO3 := Lib.hid (ownsRow_below HOWN.out HB3.out (Nat.le_refl _))
     have hz3 := HB3.out.size
     clear hb3 hJ
     go_wp2_with (at_builtin; refine wpList_append_own_at _ rfl _ _ 105 rfl w.heap.size 9 i0 (.string ⟨#[]⟩) 1 16 Tryz.underlying105 hi hz0 hz1' hz2' rfl (by decide) _ _ _ rfl (World.ownsRow.alloc HO3.out _) ⟨w3.heap.size, 0, none⟩ 1 1 [.string ⟨T.toArray⟩] rfl rfl (LexP.cells_new _ _ _ _ rfl) (by simp [Value.oneCell']) (by unfold maxLen; omega) (by omega) (by simp; omega) ?_)
     intro v4 w4 hown4 hgrow4 _ hbk4
     have hrows : sts ((l.map simT).take (i + 1)) = sts ((l.map simT).take i) ++ [.string ⟨T.toArray⟩] := by
      rw [List.take_add_one, List.getElem?_map, HSI.out]
      simp [sts, HT2.out]
     have HO4 : Hid (w4.ownsRow w.heap.size 9 1 v4 (i + 1) (sts ((l.map simT).take (i + 1)))) := by
      show World.ownsRow _ _ _ _ _ _ _
      rw [hrows]; exact hown4
     have HB4 : Hid (Below w.heap.size w w4) := Below.grown ((HBL.out.trans (HB3.out.mono hz1)).alloc (by omega) _) hgrow4 (by simp; omega) (fun q hq => (World.ownsRow.lt HO3.out q hq).1)
     clear hown4 hgrow4 hbk4 hrows
     go_wp2_with fail
     have hfin : w4.ownsRow w.heap.size 9 1 v4 (i + 1) (sts ((l.map simT).take (i + 1))) ∧ Below w.heap.size w w4 := ⟨HO4.out, HB4.out⟩
     first | exact ⟨⟨i + 1, rfl, by omega, hfin⟩, by simp [intOf] <;> omega⟩ | exact ⟨by (repeat apply Exists.intro); exact ⟨⟨i + 1, rfl, by omega, hfin⟩, rfl⟩, by simp [intOf] <;> omega⟩
  ·have hie : i = n := by omega
   have htk : (l.map simT).take i = l.map simT := List.take_of_length_le (by rw [hie, List.length_map]; exact Nat.le_of_eq HNN.out.symm)
   rw [htk] at HOWN
   obtain ⟨T, hT⟩ : ∃ T, T = SynP.joinB [44, 32] (l.map simT) := ⟨_, rfl⟩
   have hTl : T.length ≤ 70368744177664 := by rw [hT]; exact HT.out
   have HT2 := Lib.hid hT
   have HSS := Lib.hid (SS.of_row HOWN.out)
   clear htk hT hie
   go_wp2_with fail
   have hJ := join_ss _ (l.map simT) ⟨#[44, 32]⟩ _ HSS.out (by rw [List.length_map, ← HNN.out]; omega) (by
    show (SynP.joinB [44, 32] (l.map simT)).length ≤ _
    exact Nat.le_trans HT.out (by omega))
   rw [show SynP.joinB (⟨#[44, 32]⟩ : ByteArray).data.toList (l.map simT) = T from HT2.out.symm] at hJ
   refine hJ.mono ?_
   rintro e w3 ⟨rfl, hb3⟩
   have HB3 := Lib.hid hb3
   clear hb3 hJ
   go_wp2_with fail
   go_ret
   refine ⟨?_, HBL.out.trans (HB3.out.mono hz1)⟩
   have e : SynP.cpxT l = [123] ++ T ++ [125] := by rw [HT2.out]; rfl
   show Ending.returned (.string ((⟨#[123]⟩ : ByteArray) ++ ⟨T.toArray⟩ ++ ⟨#[125]⟩)) = _
   rw [e, ba_app, ba_app]
   simp
end Go.Proofs.YtgfmiladfeoldaaGreatDoor
namespace Go.Proofs.YtgfmiladfeoldaaGreatDoor
open Go.RowKit NatP LexP
theorem Wr.weak {R : Nat} {w w' : World} (h : Wr R none w w') (og : Option Nat) : Wr R og w w' := ⟨h.os, h.tape, h.output, h.size, fun k hk hR _ => h.block k hk hR (by simp)⟩
def KR (w : World) (R : Nat) (og : Option Nat) (v : Value) (ks : List Nat) : Prop := ∃ ao cap, v = .slice ao ks.length cap ∧ ks.length ≤ cap ∧ cap ≤ maxLen ∧ (∀ q, v.ownBlock = some q → R < q ∧ q < w.heap.size ∧ og ≠ some q) ∧ (0 < ks.length → ∃ g, ao = some ⟨g, 0, none⟩ ∧ ∀ j k, ks[j]? = some k → w.cell? ⟨g, j, none⟩ = some (.int .i64 (k : Nat)))
theorem KR.wr {w w' : World} {R : Nat} {og og' : Option Nat} {v : Value} {ks : List Nat} (h : KR w R og v ks) (hw : Wr R og w w') (hm : Mv w og og') : KR w' R og' v ks := by
 obtain ⟨ao, cap, rfl, h1, h2, h3, h4⟩ := h
 refine ⟨ao, cap, rfl, h1, h2, fun q hq => ⟨(h3 q hq).1, Nat.lt_of_lt_of_le (h3 q hq).2.1 hw.size, fun e => ?_⟩, fun h0 => ?_⟩
 ·rcases hm q e with h | h
  ·exact (h3 q hq).2.2 h
  ·have := (h3 q hq).2.1; omega
 ·obtain ⟨g, rfl, h5⟩ := h4 h0
  have h6 := h3 g rfl
  exact ⟨g, rfl, fun j k hj => (World.cell?_of_block (hw.block g h6.2.1 (by omega) (fun e => h6.2.2 e.symm))).trans (h5 j k hj)⟩
abbrev Nv := SynP.Node × Value
def ndCells (l : List Nv) : List Value := l.flatMap fun p => [.int .i64 (p.1.op : Nat), .string ⟨p.1.text.toArray⟩, p.2]
theorem ndCells_app (a b : List Nv) : ndCells (a ++ b) = ndCells a ++ ndCells b := by simp [ndCells]
def TkR (w : World) (R : Nat) (v : Value) (L : List Tok) : Prop := ∃ ao cap, v = .slice ao L.length cap ∧ L.length ≤ cap ∧ cap ≤ maxLen ∧ (0 < L.length → ∃ g, ao = some ⟨g, 0, none⟩ ∧ g < R ∧ ∀ j t, L[j]? = some t → w.cell? ⟨g, j * 3, none⟩ = some (.int .i64 (t.1 : Nat)) ∧ w.cell? ⟨g, j * 3 + 1, none⟩ = some (.string ⟨t.2.1.toArray⟩) ∧ w.cell? ⟨g, j * 3 + 2, none⟩ = some (.int .i64 (t.2.2 : Nat)))
theorem TkR.wr {w w' : World} {R : Nat} {og : Option Nat} {v : Value} {L : List Tok} (h : TkR w R v L) (hw : Wr R og w w') (hR : R < w.heap.size) (ho : ∀ q, og = some q → R < q) : TkR w' R v L := by
 obtain ⟨ao, cap, rfl, h1, h2, h3⟩ := h
 refine ⟨ao, cap, rfl, h1, h2, fun h0 => ?_⟩
 obtain ⟨g, rfl, h5, h6⟩ := h3 h0
 have hb := hw.block g (by omega) (by omega) (fun e => by have := ho g e.symm; omega)
 exact ⟨g, rfl, h5, fun j t hj => ⟨(World.cell?_of_block hb).trans (h6 j t hj).1, (World.cell?_of_block hb).trans (h6 j t hj).2.1, (World.cell?_of_block hb).trans (h6 j t hj).2.2⟩⟩
def TokOk (t : Tok) : Prop := t.1 = 1 → numRun t.2.1 ∧ 0 < t.2.1.length ∧ t.2.1.length ≤ 67108864 ∧ anyBad t.2.1 = false
structure RS (w : World) (R : Nat) (lv : Value) (L : List Tok) (fin : Nat) (a : Nat) (s : SynP.St) (nv : Value) (ns : List Nv) : Prop where
 blk : w.heap[R]? = some (.cells #[lv, .int .i64 (a : Nat), .int .i64 (fin : Nat), .int .i64 (s.opened : Nat), nv] 85 (0, 0))
 tks : TkR w R lv L
 drop : L.drop a = s.ts
 le : a ≤ L.length
 own : w.ownsRow (R + 1) 43 3 nv ns.length (ndCells ns)
 kids : ∀ p ∈ ns, KR w R nv.ownBlock p.2 p.1.kids
 apart : ∀ (i j : Nat) (p q : Nv) (k : Nat), ns[i]? = some p → ns[j]? = some q → p.2.ownBlock = some k → q.2.ownBlock = some k → i = j
 few : ns.length + s.ts.length ≤ 134217728
 deep : s.opened ≤ 100
 short : L.length ≤ 67108864
 sum : (L.map fun t => t.2.1.length + 1).sum ≤ 201326592
 good : ∀ t ∈ L, TokOk t
 sg : SG w
 sgl : 4 < R
theorem RS.lt {w : World} {R : Nat} {lv : Value} {L : List Tok} {fin a : Nat} {s : SynP.St} {nv : Value} {ns : List Nv} (h : RS w R lv L fin a s nv ns) : R < w.heap.size := (Array.getElem?_eq_some_iff.1 h.blk).1
theorem RS.gt {w : World} {R : Nat} {lv : Value} {L : List Tok} {fin a : Nat} {s : SynP.St} {nv : Value} {ns : List Nv} (h : RS w R lv L fin a s nv ns) : ∀ q, nv.ownBlock = some q → R < q := fun q hq => by have := h.own.lt q hq; omega
theorem RS.cells {w : World} {R : Nat} {lv : Value} {L : List Tok} {fin a : Nat} {s : SynP.St} {nv : Value} {ns : List Nv} (h : RS w R lv L fin a s nv ns) :
  w.cell? ⟨R, 0, none⟩ = some lv ∧ w.cell? ⟨R, 1, none⟩ = some (.int .i64 (a : Nat)) ∧ w.cell? ⟨R, 2, none⟩ = some (.int .i64 (fin : Nat)) ∧ w.cell? ⟨R, 3, none⟩ = some (.int .i64 (s.opened : Nat)) ∧ w.cell? ⟨R, 4, none⟩ = some nv := by
 refine ⟨?_, ?_, ?_, ?_, ?_⟩ <;> rw [cell_of_row w R _ _ _ _ h.blk] <;> rfl
theorem RS.fro {w : World} {R : Nat} {lv : Value} {L : List Tok} {fin a : Nat} {s : SynP.St} {nv : Value} {ns : List Nv} (h : RS w R lv L fin a s nv ns) (o : Nat) : w.frozen? ⟨R, o, none⟩ = false := frozen_of_row w R o _ _ h.blk
theorem RS.below {w w' : World} {R : Nat} {lv : Value} {L : List Tok} {fin a : Nat} {s : SynP.St} {nv : Value} {ns : List Nv} (h : RS w R lv L fin a s nv ns) (hb : Below w.heap.size w w') : RS w' R lv L fin a s nv ns where
 blk := (hb.block R h.lt).trans h.blk
 tks := h.tks.wr (Wr.of_below (R := R) (og := nv.ownBlock) hb) h.lt h.gt
 drop := h.drop
 le := h.le
 own := h.own.kept (row := none) ⟨hb.os, hb.tape, hb.output, hb.size, fun k hk _ => hb.block k hk⟩ (by cases nv.ownBlock <;> simp)
 kids := fun p hp => (h.kids p hp).wr (Wr.of_below hb) (Mv.refl _ _)
 apart := h.apart
 few := h.few
 deep := h.deep
 short := h.short
 sum := h.sum
 good := h.good
 sg := h.sg.below hb (Nat.lt_trans h.sgl h.lt)
 sgl := h.sgl
theorem RS.setN {w : World} {R : Nat} {lv : Value} {L : List Tok} {fin a : Nat} {s : SynP.St} {nv : Value} {ns : List Nv} (h : RS w R lv L fin a s nv ns) (o : Nat) (u : Value) (a' : Nat) (s' : SynP.St)
  (hb : (#[lv, .int .i64 (a : Nat), .int .i64 (fin : Nat), .int .i64 (s.opened : Nat), nv] : Array Value).setIfInBounds o u = #[lv, .int .i64 (a' : Nat), .int .i64 (fin : Nat), .int .i64 (s'.opened : Nat), nv])
  (hd : L.drop a' = s'.ts) (hl : a' ≤ L.length) (hf : ns.length + s'.ts.length ≤ 134217728) (hp : s'.opened ≤ 100) :
  RS (w.setCell ⟨R, o, none⟩ u) R lv L fin a' s' nv ns ∧ Wr R none w (w.setCell ⟨R, o, none⟩ u) := by
 have hset := heap_setCell_same w R o #[lv, .int .i64 (a : Nat), .int .i64 (fin : Nat), .int .i64 (s.opened : Nat), nv] 85 u h.blk
 have hw := Wr.of_set (R := R) (og := nv.ownBlock) w o u
 refine ⟨⟨hset.trans (by rw [hb]), h.tks.wr hw h.lt h.gt, hd, hl, ownsRow_setCell_below h.own (by simp) _, fun p hp => (h.kids p hp).wr hw (Mv.refl _ _), h.apart, hf, hp, h.short, h.sum, h.good, h.sg.wr hw (Nat.ne_of_lt h.sgl) (fun e => by have := h.gt _ e; have := h.sgl; omega), h.sgl⟩, Wr.of_set w o u⟩
theorem below_drewN (w : World) (n : Nat) : Below w.heap.size w (w.drewN n) := ⟨rfl, rfl, rfl, Nat.le_refl _, fun _ _ => rfl⟩
set_option maxRecDepth 100000 in
theorem rd_done (R : Nat) (lv : Value) (L : List Tok) (fin a : Nat) (s : SynP.St) (nv : Value) (ns : List Nv) (w : World) (h : RS w R lv L fin a s nv ns) :
  Calls Tryz.prog 55 #[.pointer (some ⟨R, 0, none⟩)] w fun e w' => e = .returned (.bool (decide (s.ts = []))) ∧ Below w.heap.size w w' := by
 have H := Lib.hid h
 obtain ⟨c0, c1, -, -, -⟩ := h.cells
 obtain ⟨ao, cap, rfl, t1, t2, -⟩ := h.tks
 have hd : decide (L.length ≤ a) = decide (s.ts = []) := by
  rw [← h.drop]; simp
 have HD := Lib.hid hd
 clear hd
 clear h
 go_enter Tryz.func55, Tryz.ntmps55
 go_wp2_with fail
 go_region
 go_wp2_with fail
 go_ret
 exact ⟨by rw [← HD.out]; rfl, ⟨rfl, rfl, rfl, Nat.le_refl _, fun _ _ => rfl⟩⟩
set_option maxRecDepth 100000 in
theorem col_raw (R : Nat) (lv : Value) (L : List Tok) (fin a : Nat) (ts : List Tok) (w : World) (c0 : w.cell? ⟨R, 0, none⟩ = some lv) (c1 : w.cell? ⟨R, 1, none⟩ = some (.int .i64 (a : Nat))) (c2 : w.cell? ⟨R, 2, none⟩ = some (.int .i64 (fin : Nat))) (tks : TkR w R lv L) (hdr : L.drop a = ts) (hle : a ≤ L.length) :
  Calls Tryz.prog 109 #[.pointer (some ⟨R, 0, none⟩)] w fun e w' => e = .returned (.int .i64 (SynP.colOf fin ts : Nat)) ∧ Below w.heap.size w w' := by
 obtain ⟨ao, cap, rfl, t1, t2, t3⟩ := tks
 by_cases hn : a < L.length
 ·obtain ⟨g, rfl, hg, hc⟩ := t3 (by omega)
  obtain ⟨t, ht⟩ : ∃ t, L[a]? = some t := ⟨_, List.getElem?_eq_getElem hn⟩
  obtain ⟨-, -, d2⟩ := hc a t ht
  have HCOL : Hid (SynP.colOf fin ts = t.2.2) := by
   show _ = _
   rw [← hdr, List.drop_eq_getElem?_toList_append, ht]; rfl
  clear hc t3 hdr
  go_enter Tryz.func109, Tryz.ntmps109
  go_wp2_with fail
  go_region
  go_wp2_with fail
  go_region
  go_wp2_with fail
  go_ret
  exact ⟨by rw [HCOL.out]; rfl, ⟨rfl, rfl, rfl, Nat.le_refl _, fun _ _ => rfl⟩⟩
 ·have HCOL : Hid (SynP.colOf fin ts = fin) := by
   show _ = _
   rw [← hdr, List.drop_eq_nil_of_le (by omega)]; rfl
  clear t3 hdr
  go_enter Tryz.func109, Tryz.ntmps109
  go_wp2_with fail
  go_region
  go_wp2_with fail
  go_ret
  exact ⟨by rw [HCOL.out]; rfl, ⟨rfl, rfl, rfl, Nat.le_refl _, fun _ _ => rfl⟩⟩
theorem rd_col (R : Nat) (lv : Value) (L : List Tok) (fin a : Nat) (s : SynP.St) (nv : Value) (ns : List Nv) (w : World) (h : RS w R lv L fin a s nv ns) :
  Calls Tryz.prog 109 #[.pointer (some ⟨R, 0, none⟩)] w fun e w' => e = .returned (.int .i64 (SynP.colOf fin s.ts : Nat)) ∧ Below w.heap.size w w' :=
 col_raw R lv L fin a s.ts w h.cells.1 h.cells.2.1 h.cells.2.2.1 h.tks h.drop h.le
end Go.Proofs.YtgfmiladfeoldaaGreatDoor
namespace Go.Proofs.YtgfmiladfeoldaaGreatDoor
open Go.RowKit NatP LexP
def comesP (i kind : Nat) (x : Bytes) (ts : List Tok) : Bool := match ts.drop i with | (k, t, _) :: _ => k == kind && (kind != 3 || t == x) | [] => false
theorem comes_mark (x : Bytes) (ts : List Tok) : comesP 0 3 x ts = SynP.isMark x ts := by
 cases ts with
 | nil => rfl
 | cons t l => obtain ⟨k, t, c⟩ := t; simp [comesP, SynP.isMark]
theorem comes_mark1 (x : Bytes) (ts : List Tok) : comesP 1 3 x ts = SynP.isMark x ts.tail := by
 cases ts with
 | nil => rfl
 | cons t l => rw [← comes_mark]; rfl
theorem comes_kind (k : Nat) (x : Bytes) (ts : List Tok) (hk : k ≠ 3) : comesP 0 k x ts = SynP.isKind k ts := by
 cases ts with
 | nil => rfl
 | cons t l => obtain ⟨j, t, c⟩ := t; simp [comesP, SynP.isKind, hk]
theorem Below.drew2 {B : Nat} {w w' : World} (h : Below B w w') : Below B w w'.drew.drew := ⟨h.os, h.tape, h.output, h.size, h.block⟩
set_option maxRecDepth 100000 in
set_option maxHeartbeats 2000000 in
theorem rd_comes (R : Nat) (lv : Value) (L : List Tok) (fin a : Nat) (s : SynP.St) (nv : Value) (ns : List Nv) (w : World) (h : RS w R lv L fin a s nv ns) (i kind : Nat) (x : Bytes) (hi : i ≤ 1) (hk : kind ≤ 3) :
    Calls Tryz.prog 94 #[.pointer (some ⟨R, 0, none⟩), .int .i64 (i : Nat), .int .i64 (kind : Nat), .string ⟨x.toArray⟩] w fun e w' => e = .returned (.bool (comesP i kind x s.ts)) ∧ Below w.heap.size w w' := by
  have H := Lib.hid h
  obtain ⟨c0, c1, -, -, -⟩ := h.cells
  obtain ⟨ao, cap, rfl, t1, t2, t3⟩ := h.tks
  have hle := h.le
  have hsh := h.short
  by_cases hn : a + i < L.length
  · obtain ⟨g, rfl, hg, hc⟩ := t3 (by omega)
    obtain ⟨t, ht⟩ : ∃ t, L[a + i]? = some t := ⟨_, List.getElem?_eq_getElem hn⟩
    obtain ⟨d0, d1, d2⟩ := hc (a + i) t ht
    obtain ⟨tk, tt, tc⟩ := t
    have HC : Hid (comesP i kind x s.ts = (tk == kind && (kind != 3 || tt == x))) := by
      show _ = _
      unfold comesP
      rw [← h.drop, List.drop_drop, List.drop_eq_getElem?_toList_append, ht]; rfl
    have hRl := h.lt
    have hgl : g < w.heap.size := by omega
    obtain ⟨m, hm⟩ : ∃ m, m = a + i := ⟨_, rfl⟩
    have E1 : IntKind.i64.wrap ((a : Int) + (i : Int)) = (m : Int) := by rw [hm]; exact (IntWalk.i64_in _ (by omega)).trans (by omega)
    have E2 : (a : Int) + (i : Int) = (m : Int) := by omega
    rw [← hm] at d0 d1 d2 hn
    have HMM := Lib.hid hm
    clear h hc t3 ht hm
    go_enter Tryz.func94, Tryz.ntmps94
    go_wp2_with fail
    go_region
    go_wp2_with fail
    go_region
    go_wp2_with fail
    all_goals
      go_ret
      refine ⟨?_, Below.drew2 (below_alloc _ _)⟩
      rw [HC.out]
      show Ending.returned (Value.bool _) = Ending.returned (Value.bool _)
      congr 2
      first
        | (have q1 : tk = kind := by omega
           have q2 : kind = 3 := by omega
           subst q1; subst q2; simp)
        | (have q1 : tk = kind := by omega
           have q2 : kind ≠ 3 := by omega
           subst q1; simp [q2])
        | (have q1 : tk ≠ kind := by omega
           simp [q1])
  · have HC : Hid (comesP i kind x s.ts = false) := by
      show _ = _
      unfold comesP
      rw [← h.drop, List.drop_drop, List.drop_eq_nil_of_le (by omega)]
    have hRl := h.lt
    obtain ⟨m, hm⟩ : ∃ m, m = a + i := ⟨_, rfl⟩
    have E1 : IntKind.i64.wrap ((a : Int) + (i : Int)) = (m : Int) := by rw [hm]; exact (IntWalk.i64_in _ (by omega)).trans (by omega)
    have E2 : (a : Int) + (i : Int) = (m : Int) := by omega
    rw [← hm] at hn
    have HMM := Lib.hid hm
    clear h t3 hm
    go_enter Tryz.func94, Tryz.ntmps94
    go_wp2_with fail
    go_region
    go_wp2_with fail
    go_ret
    exact ⟨by rw [HC.out]; rfl, ⟨rfl, rfl, rfl, Nat.le_refl _, fun _ _ => rfl⟩⟩
set_option maxRecDepth 100000 in
theorem rd_mark (R : Nat) (lv : Value) (L : List Tok) (fin a : Nat) (s : SynP.St) (nv : Value) (ns : List Nv) (w : World) (h : RS w R lv L fin a s nv ns) (x : Bytes) :
  Calls Tryz.prog 168 #[.pointer (some ⟨R, 0, none⟩), .string ⟨x.toArray⟩] w fun e w' => e = .returned (.bool (SynP.isMark x s.ts)) ∧ Below w.heap.size w w' := by
 have H := Lib.hid h
 clear h
 go_enter Tryz.func168, Tryz.ntmps168
 go_wp2_with fail
 refine (rd_comes R lv L fin a s nv ns _ H.out 0 3 x (by omega) (by omega)).mono ?_
 rintro e w1 ⟨rfl, hb⟩
 rw [comes_mark]
 have HB := Lib.hid hb
 clear hb
 go_wp2_with fail
 go_ret
 exact ⟨rfl, HB.out⟩
def TakeP (R : Nat) (lv : Value) (L : List Tok) (fin a : Nat) (s : SynP.St) (nv : Value) (ns : List Nv) (x : Bytes) (w : World) (e : Ending) (w' : World) : Prop :=
 e = .returned (.bool (SynP.isMark x s.ts)) ∧ Wr R none w w' ∧ (if SynP.isMark x s.ts then RS w' R lv L fin (a + 1) s.adv nv ns else RS w' R lv L fin a s nv ns)
theorem drop_succ {L ts : List Tok} {a : Nat} (h : L.drop a = ts) (h0 : ts ≠ []) : L.drop (a + 1) = ts.tail ∧ a + 1 ≤ L.length ∧ ts.tail.length + 1 = ts.length := by
 subst h
 refine ⟨by rw [List.tail_drop], ?_, ?_⟩
 ·rcases Nat.lt_or_ge a L.length with h | h
  ·exact h
  ·exact absurd (List.drop_eq_nil_of_le h) h0
 ·rw [List.length_tail]
  have := List.length_pos_iff.2 h0
  omega
theorem isMark_ne {x : Bytes} {ts : List Tok} (h : SynP.isMark x ts = true) : ts ≠ [] := fun e => by subst e; cases h
theorem isKind_ne {k : Nat} {ts : List Tok} (h : SynP.isKind k ts = true) : ts ≠ [] := fun e => by subst e; cases h
theorem RS.adv {w : World} {R : Nat} {lv : Value} {L : List Tok} {fin a : Nat} {s : SynP.St} {nv : Value} {ns : List Nv} (h : RS w R lv L fin a s nv ns) (h0 : s.ts ≠ []) :
  RS (w.setCell ⟨R, 1, none⟩ (.int .i64 ((a + 1 : Nat) : Int))) R lv L fin (a + 1) s.adv nv ns ∧ Wr R none w (w.setCell ⟨R, 1, none⟩ (.int .i64 ((a + 1 : Nat) : Int))) := by
 obtain ⟨q1, q2, q3⟩ := drop_succ h.drop h0
 exact h.setN 1 _ (a + 1) s.adv (by simp [SynP.St.adv]) q1 q2 (by have := h.few; show ns.length + s.ts.tail.length ≤ _; omega) h.deep
set_option maxRecDepth 100000 in
theorem rd_take (R : Nat) (lv : Value) (L : List Tok) (fin a : Nat) (s : SynP.St) (nv : Value) (ns : List Nv) (w : World) (h : RS w R lv L fin a s nv ns) (x : Bytes) :
  Calls Tryz.prog 159 #[.pointer (some ⟨R, 0, none⟩), .string ⟨x.toArray⟩] w (TakeP R lv L fin a s nv ns x w) := by
 have H := Lib.hid h
 have hle := h.le
 have hsh := h.short
 clear h
 cases hm : SynP.isMark x s.ts with
 | false =>
  have HM := Lib.hid hm
  clear hm
  go_enter Tryz.func159, Tryz.ntmps159
  go_wp2_with fail
  refine (rd_mark R lv L fin a s nv ns _ H.out x).mono ?_
  rintro e w1 ⟨rfl, hb⟩
  rw [HM.out]
  have HB := Lib.hid hb
  clear hb
  go_wp2_with fail
  go_ret
  exact ⟨by rw [HM.out]; rfl, Wr.of_below HB.out, by rw [if_neg (by rw [HM.out]; decide)]; exact H.out.below HB.out⟩
 | true =>
  have HM := Lib.hid hm
  clear hm
  go_enter Tryz.func159, Tryz.ntmps159
  go_wp2_with fail
  refine (rd_mark R lv L fin a s nv ns _ H.out x).mono ?_
  rintro e w1 ⟨rfl, hb⟩
  rw [HM.out]
  have HB := Lib.hid hb
  have HS := Lib.hid (H.out.below hb)
  have c1 := HS.out.cells.2.1
  have f1 := HS.out.fro 1
  clear hb
  go_wp2_with fail
  go_ret
  obtain ⟨g1, g2⟩ := HS.out.adv (isMark_ne HM.out)
  exact ⟨by rw [HM.out]; rfl, (Wr.of_below HB.out).trans (Mv.refl _ _) g2, by rw [if_pos HM.out]; exact g1⟩
end Go.Proofs.YtgfmiladfeoldaaGreatDoor
