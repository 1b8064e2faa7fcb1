/- Joined texts of this claim's proof: WrM, RunsP, SynL, LexPure5, LexPure6, PadP, SynE, SynN, SynS, SynW, Pa1, SynD, SynV, WtA, WrA, WrB. -/
import Derived.Test.YtgfmiladfeoldaaGreatDoorPk13
import Derived.Shelf.Strings.Builder1
import Derived.Deep.AppendLies
import Derived.Test.YtgfmiladfeoldaaGreatDoorPk2
import Derived.Test.YtgfmiladfeoldaaGreatDoorPk10
import Derived.Test.YtgfmiladfeoldaaGreatDoorPk12
import Derived.Test.YtgfmiladfeoldaaGreatDoorPk15
import Derived.BigQuiet
import Derived.Lib.MinMax
set_option linter.unusedSimpArgs false
set_option linter.unusedVariables false
namespace Go.Proofs.YtgfmiladfeoldaaGreatDoor
open Go.RowKit NatP LexP
theorem wownsRow_wr {w w' : World} {R k n : Nat} {e : TypeId} {v : Value} {cs : List Value} (h : w.ownsRow (R + 1) e k v n cs) (hw : Wr R none w w') : w'.ownsRow (R + 1) e k v n cs := by
 refine ⟨h.1, ?_⟩
 rcases h.2 with hn | ⟨g, cap, cur, rfl, hb, hgg, rest⟩
 ·exact .inl hn
 ·exact .inr ⟨g, cap, cur, rfl, hb, (hw.block g (Array.getElem?_eq_some_iff.1 hgg).1 (by omega) (by simp)).trans hgg, rest⟩
structure WrS (w : World) (R : Nat) (tv bv : Value) (out : Bytes) (o m : Nat) : Prop where
 blk : ∃ av, (av = .pointer none ∨ av = .pointer (some ⟨R, 1, none⟩)) ∧ w.heap[R]? = some (.cells #[tv, av, bv, .int .i64 (o : Nat), .int .i64 (m : Nat)] 92 (0, 0))
 own : w.ownsRow (R + 1) 5 1 bv out.length (u8s out)
 le : o ≤ m
theorem WrS.lt {w : World} {R : Nat} {tv bv : Value} {out : Bytes} {o m : Nat} (h : WrS w R tv bv out o m) : R < w.heap.size := by
 obtain ⟨av, -, hb⟩ := h.blk
 exact (Array.getElem?_eq_some_iff.1 hb).1
theorem WrS.gt {w : World} {R : Nat} {tv bv : Value} {out : Bytes} {o m : Nat} (h : WrS w R tv bv out o m) : ∀ q, bv.ownBlock = some q → R < q := fun q hq => by have := h.own.lt q hq; omega
theorem WrS.cells {w : World} {R : Nat} {tv bv : Value} {out : Bytes} {o m : Nat} (h : WrS w R tv bv out o m) : w.cell? ⟨R, 0, none⟩ = some tv ∧ w.cell? ⟨R, 3, none⟩ = some (.int .i64 (o : Nat)) ∧ w.cell? ⟨R, 4, none⟩ = some (.int .i64 (m : Nat)) := by
 obtain ⟨av, -, hb⟩ := h.blk
 refine ⟨?_, ?_, ?_⟩ <;> rw [cell_of_row w R _ _ _ _ hb] <;> rfl
theorem WrS.fro {w : World} {R : Nat} {tv bv : Value} {out : Bytes} {o m : Nat} (h : WrS w R tv bv out o m) (k : Nat) : w.frozen? ⟨R, k, none⟩ = false := by
 obtain ⟨av, -, hb⟩ := h.blk
 exact frozen_of_row w R k _ _ hb
theorem WrS.below {w w' : World} {R : Nat} {tv bv : Value} {out : Bytes} {o m : Nat} (h : WrS w R tv bv out o m) (hb : Below w.heap.size w w') : WrS w' R tv bv out o m := by
 obtain ⟨av, ha, hbk⟩ := h.blk
 exact ⟨⟨av, ha, (hb.block R h.lt).trans hbk⟩, h.own.kept (row := none) ⟨hb.os, hb.tape, hb.output, hb.size, fun k hk _ => hb.block k hk⟩ (by cases bv.ownBlock <;> simp), h.le⟩
def WrP (R : Nat) (tv bv : Value) (out : Bytes) (o m : Nat) (v : Value) (w : World) (e : Ending) (w' : World) : Prop :=
 e = .returned v ∧ ∃ bv', WrS w' R tv bv' out o m ∧ Wr R bv.ownBlock w w' ∧ Mv w bv.ownBlock bv'.ownBlock
theorem WrS.setO {w : World} {R : Nat} {tv bv : Value} {out : Bytes} {o m o' : Nat} (h : WrS w R tv bv out o m) (hl : o' ≤ m) : WrS (w.setCell ⟨R, 3, none⟩ (.int .i64 (o' : Nat))) R tv bv out o' m ∧ Wr R none w (w.setCell ⟨R, 3, none⟩ (.int .i64 (o' : Nat))) := by
 obtain ⟨av, ha, hbk⟩ := h.blk
 have hset := heap_setCell_same w R 3 _ 92 (.int .i64 (o' : Nat)) hbk
 exact ⟨⟨⟨av, ha, hset.trans (by simp)⟩, ownsRow_setCell_below h.own (by simp) _, hl⟩, Wr.of_set w 3 _⟩
theorem WrS.setM {w : World} {R : Nat} {tv bv : Value} {out : Bytes} {o1 m m' : Nat} (hbk : ∃ av, (av = .pointer none ∨ av = .pointer (some ⟨R, 1, none⟩)) ∧ w.heap[R]? = some (.cells #[tv, av, bv, .int .i64 (o1 : Nat), .int .i64 (m : Nat)] 92 (0, 0))) (hown : w.ownsRow (R + 1) 5 1 bv out.length (u8s out)) (hl : o1 ≤ m') : WrS (w.setCell ⟨R, 4, none⟩ (.int .i64 (m' : Nat))) R tv bv out o1 m' ∧ Wr R none w (w.setCell ⟨R, 4, none⟩ (.int .i64 (m' : Nat))) := by
 obtain ⟨av, ha, hbk⟩ := hbk
 have hset := heap_setCell_same w R 4 _ 92 (.int .i64 (m' : Nat)) hbk
 exact ⟨⟨⟨av, ha, hset.trans (by simp)⟩, ownsRow_setCell_below hown (by simp) _, hl⟩, Wr.of_set w 4 _⟩
theorem Tryz.sizeBld : (Tryz.prog.info? 90).map (·.size) = some 2 := by kernel_rfl
theorem Tryz.liesBld : liesAt Tryz.prog Tryz.prog.depth 92 (5 / Tryz.prog.cellsOf 92) 1 90 1 = true := by kernel_rfl
set_option maxRecDepth 100000 in
set_option maxHeartbeats 1000000 in
theorem bld_check (R : Nat) (tv av bv ov mv : Value) (w : World) (ha : av = .pointer none ∨ av = .pointer (some ⟨R, 1, none⟩)) (hb : w.heap[R]? = some (.cells #[tv, av, bv, ov, mv] 92 (0, 0))) :
  Calls Tryz.prog 165 #[.pointer (some ⟨R, 1, none⟩)] w fun e w' => e = .returned (.tuple #[]) ∧ w'.heap[R]? = some (.cells #[tv, .pointer (some ⟨R, 1, none⟩), bv, ov, mv] 92 (0, 0)) ∧ Wr R none w w' := by
 obtain ⟨j, hj, hjs⟩ := Option.map_eq_some_iff.1 Tryz.sizeBld
 have h0 : w.cell? ⟨R, 1, none⟩ = some av := by rw [cell_of_row w R _ _ _ _ hb]; rfl
 rcases ha with rfl | rfl
 ·have hsh : w.shape? R = some (92, 5) := by simp [World.shape?, hb]
  have hfz : w.frozen? ⟨R, 1, none⟩ = false := frozen_of_row w R 1 _ _ hb
  have HB := Lib.hid hb
  clear hb
  go_enter Tryz.func165, Tryz.ntmps165
  go_wp2_with fail
  rw [Lib.run_to_unsafe w ⟨R, 1, none⟩ Tryz.underlying87 Tryz.underlying210 hj (by rw [hjs]; decide) hsh (by show 1 < 5; decide)]
  simp only [Result.andThen]
  rw [Oper.upon_value]
  go_wp2_with fail
  rw [run_callFunc_extern Tryz.func212 (by kernel_rfl) (by kernel_rfl) (by kernel_rfl) (e := Extern.AbiNoEscape.same) (by kernel_rfl)]
  rw [Lib.run_noEscape]
  simp only [Result.andThen]
  rw [Oper.upon_value]
  go_wp2_with fail
  rw [Lib.run_from_unsafe w ⟨R, 1, none⟩ Tryz.underlying210 Tryz.underlying87 hj hsh Tryz.liesBld]
  simp only [Result.andThen]
  rw [Oper.upon_value]
  go_wp2_with fail
  go_end0
  exact ⟨rfl, (heap_setCell_same w R 1 _ 92 _ HB.out).trans (by simp), Wr.of_set w 1 _⟩
 ·have HB := Lib.hid hb
  clear hb
  go_enter Tryz.func165, Tryz.ntmps165
  go_wp2_with fail
  rw [Lib.run_neq_ptr_same w _ Tryz.underlying87 hj]
  go_wp2_with fail
  go_end0
  exact ⟨rfl, HB.out, Wr.refl _ _ _⟩
set_option maxRecDepth 100000 in
set_option maxHeartbeats 2000000 in
theorem bld_byte (R : Nat) (tv bv : Value) (out : Bytes) (o m : Nat) (c : UInt8) (w : World) (h : WrS w R tv bv out o m) (hl : out.length ≤ 1099511627776) :
  Calls Tryz.prog 104 #[.pointer (some ⟨R, 1, none⟩), .int .u8 (c.toNat : Nat)] w (WrP R tv bv (out ++ [c]) o m .nilIface w) := by
 obtain ⟨i0, hi, hz0, hz1, hz2⟩ := info_parts Tryz.infoU8d
 have HS := Lib.hid h
 have hRl := h.lt
 clear h
 obtain ⟨av, ha, hb⟩ := HS.out.blk
 have HB := Lib.hid hb
 clear hb
 go_enter Tryz.func104, Tryz.ntmps104
 go_wp2_with fail
 refine (bld_check R tv av bv _ _ _ ha HB.out).mono ?_
 rintro e w1 ⟨rfl, k1, k2⟩
 have c2 : w1.cell? ⟨R, 2, none⟩ = some bv := by rw [cell_of_row w1 R _ _ _ _ k1]; rfl
 have hown := wownsRow_wr HS.out.own k2
 have HOWN := Lib.hid (hown.alloc (.cells #[.int .u8 ((c.toNat : Nat) : Int)] 5))
 have hR1 := k2.size
 obtain ⟨nl, hnl⟩ : ∃ nl, nl = out.length := ⟨_, rfl⟩
 rw [← hnl] at HOWN hl
 have HNL := Lib.hid hnl
 have K1 := Lib.hid k1
 have K2 := Lib.hid k2
 have hcs : (u8s out).length = nl := by rw [u8s_len, hnl]
 clear k1 k2 hown hnl
 go_wp2_with (at_builtin; refine wpList_append_lies _ rfl _ _ 88 rfl (R + 1) 5 i0 (.int .u8 0) 1 1 Tryz.underlying88 hi hz0 hz1 hz2 rfl (by omega) bv nl (u8s out) rfl HOWN.out ⟨w1.heap.size, 0, none⟩ 1 1 [.int .u8 (c.toNat : Nat)] rfl rfl (LexP.cells_new _ _ _ _ rfl) (by simp [Value.oneCell']) (by omega) (by unfold maxLen; omega) (by omega) (by simp; omega) (w1.heap.size + 1) (by simp) ?_)
 intro g cap w2 hown' hgrow hat hlt5
 have hne : some R ≠ bv.ownBlock := fun e => by have := HS.out.gt R e.symm; omega
 have hb2 : w2.heap[R]? = some (.cells #[tv, .pointer (some ⟨R, 1, none⟩), bv, .int .i64 (o : Nat), .int .i64 (m : Nat)] 92 (0, 0)) := by
  rw [hgrow.block R (by simp; omega) hne, Lib.alloc_old w1 _ R (by omega)]
  exact K1.out
 have f2 : w2.frozen? ⟨R, 2, none⟩ = false := frozen_of_row w2 R 2 _ _ hb2
 have d2 : w2.cell? ⟨R, 2, none⟩ = some bv := by rw [cell_of_row w2 R _ _ _ _ hb2]; rfl
 have HB2 := Lib.hid hb2
 have HO2 := Lib.hid hown'
 have HG := Lib.hid hgrow
 have HAT := Lib.hid hat
 clear hb2 hown' hgrow hat
 go_wp2_with fail
 go_ret
 have hset := heap_setCell_same w2 R 2 _ 92 (.slice (some ⟨g, 0, none⟩) (nl + 1) cap) HB2.out
 refine ⟨rfl, .slice (some ⟨g, 0, none⟩) (nl + 1) cap, ⟨⟨.pointer (some ⟨R, 1, none⟩), .inr rfl, hset.trans (by simp)⟩, ?_, HS.out.le⟩, ?_, ?_⟩
 ·have e1 : (out ++ [c]).length = nl + 1 := by rw [List.length_append, HNL.out]; rfl
  rw [e1, u8s_app]
  refine ownsRow_setCell_below ?_ (by simp) _
  exact HO2.out
 ·exact (((K2.out.weak _).trans (Mv.refl _ _) (Wr.of_below (below_alloc w1 _))).trans (Mv.refl _ _) (Wr.of_grown HG.out)).trans (Mv.refl _ _) (Wr.of_set w2 2 _)
 ·intro k hk
  cases hk
  rcases HAT.out with h1 | h1
  ·exact .inl h1
  ·right
   have h2 : g = w1.heap.size + 1 := h1
   show w.heap.size ≤ g
   have := K2.out.size
   omega
theorem run_append_str {P : Program} (base : Nat) (t u ty e : TypeId) (i : TypeInfo) (ht : P.underlying t = some (.slice e)) (hu : P.underlying u = some .string) (hi : P.info? e = some i) (hz : i.zero = some (.int .u8 0))
  (hsize : i.size = 1) (hby : i.bytes = 1) (w : World) (v : Value) (n : Nat) (xs : List Value) (hown : w.ownsRow base e 1 v n xs) (s : ByteArray) (hbytes : n + s.size ≤ 140737488355328) (hbase : base ≤ w.heap.size) :
  ∃ v' w', (Builtin.append_ #[t, u] ty #[v, .string s]).run P w = .ok v' w' ∧ w'.ownsRow base e 1 v' (n + s.size) (xs ++ Lib.strCells s) ∧ w.grownBy w' v.ownBlock ∧ (v'.ownBlock = v.ownBlock ∨ v'.ownBlock = some w.heap.size) := by
 obtain ⟨v', w', hr, h1, h2, h3⟩ := Lib.run_append_own_string (P := P) w base t u ty e i ht hu hi hz hsize hby v n xs hown s (by unfold maxLen; omega) hbytes hbase
 refine ⟨v', w', hr, h1, h2, ?_⟩
 have hxl : xs.length = n := by simpa using hown.1
 rcases hown.2 with ⟨rfl, rfl⟩ | ⟨g, cap, cur, rfl, hbg, hg, hnc, hcm, hcs, htake⟩
 ·by_cases hm : s.size = 0
  ·left; rw [h3.2 ⟨rfl, hm⟩]
  ·have hr2 := run_append_nil_string (P := P) w t u ty e i (.int .u8 0) ht hu hi hz s (by omega) (by omega) (by rw [hby]; omega)
   rw [hr2] at hr
   cases hr
   right; rfl
 ·by_cases hroom : n + s.size ≤ cap
  ·have hcs' : cur.size = cap := by simpa using hcs
   have hr2 := Lib.run_append_room_string (P := P) w t u ty e i ht hu hi hsize g n cap cur hg s hroom (by omega)
   rw [hr2] at hr
   cases hr
   left; rfl
  ·have holds : ∀ j u, xs[j]? = some u → w.cell? ((⟨g, 0, none⟩ : Addr).add j) = some u := hown.cells (g := g) rfl
   have hr2 := Lib.run_append_grow_string (P := P) w t u ty e i (.int .u8 0) ht hu hi hz ⟨g, 0, none⟩ n cap xs (by rw [hsize]; simpa using hxl) holds s (by omega) (by omega) (by rw [hby]; exact growslice_fits (by omega) (by omega))
   rw [hr2] at hr
   cases hr
   right; rfl
theorem wpList_append_str {P : Program} {w : World} {ops : Array Oper} {rest : List Oper} {o : Oper} {a : Act} {Q : Exit → Act → World → Prop} (hgd : o.guard = none) (sl x : Operand) (t u : TypeId)
  (ho : o.op = .call { callee := .builtin .append, args := #[sl, x], argTypes := #[t, u] })
  (base : Nat) (e : TypeId) (i : TypeInfo) (ht : P.underlying t = some (.slice e)) (hu : P.underlying u = some .string) (hi : P.info? e = some i) (hz : i.zero = some (.int .u8 0))
  (hsize : i.size = 1) (hby : i.bytes = 1)
  (v : Value) (n : Nat) (xs : List Value) (hs : a.eval sl = v) (hown : w.ownsRow base e 1 v n xs) (s : ByteArray) (hx : a.eval x = .string s)
  (hbytes : n + s.size ≤ 140737488355328) (hbase : base ≤ w.heap.size)
  (h : ∀ v' w', w'.ownsRow base e 1 v' (n + s.size) (xs ++ Lib.strCells s) → w.grownBy w' v.ownBlock → (v'.ownBlock = v.ownBlock ∨ v'.ownBlock = some w.heap.size) → wpList P ops Q rest (a.put o.dst v') w') : wpList P ops Q (o :: rest) a w := by
 refine wpList_plain hgd fun K hK => ?_
 obtain ⟨v', w', hr, h2, h3, h4⟩ := run_append_str (P := P) base t u o.type e i ht hu hi hz hsize hby w v n xs hown s hbytes hbase
 unfold Oper.wp execOp
 simp only [ho, resolve, invoke, builtin, Sem.run_bind, Sem.run_pure, Result.andThen_ok, List.map_toArray, List.map_cons, List.map_nil, hs, hx, hr]
 exact hK _ _ (h v' w' h2 h3 h4)
theorem strCells_u8s (s : Bytes) : Lib.strCells ⟨s.toArray⟩ = u8s s := by simp [Lib.strCells, u8s]
set_option maxRecDepth 100000 in
set_option maxHeartbeats 2000000 in
theorem bld_str (R : Nat) (tv bv : Value) (out : Bytes) (o m : Nat) (t : Bytes) (w : World) (h : WrS w R tv bv out o m) (hl : out.length ≤ 1099511627776) (ht : t.length ≤ 1099511627776) :
  Calls Tryz.prog 105 #[.pointer (some ⟨R, 1, none⟩), .string ⟨t.toArray⟩] w (WrP R tv bv (out ++ t) o m (.tuple #[.int .i64 (t.length : Nat), .nilIface]) w) := by
 obtain ⟨i0, hi, hz0, hz1, hz2⟩ := info_parts Tryz.infoU8d
 have HS := Lib.hid h
 have hRl := h.lt
 clear h
 obtain ⟨av, ha, hb⟩ := HS.out.blk
 have HB := Lib.hid hb
 obtain ⟨T, hT⟩ : ∃ T : ByteArray, T = ⟨t.toArray⟩ := ⟨_, rfl⟩
 have hTs : T.size = t.length := by rw [hT]; rfl
 have HT := Lib.hid hT
 rw [← hT]
 clear hb hT
 go_enter Tryz.func105, Tryz.ntmps105
 go_wp2_with fail
 refine (bld_check R tv av bv _ _ _ ha HB.out).mono ?_
 rintro e w1 ⟨rfl, k1, k2⟩
 have c2 : w1.cell? ⟨R, 2, none⟩ = some bv := by rw [cell_of_row w1 R _ _ _ _ k1]; rfl
 have HOWN := Lib.hid (wownsRow_wr HS.out.own k2)
 have hR1 := k2.size
 obtain ⟨nl, hnl⟩ : ∃ nl, nl = out.length := ⟨_, rfl⟩
 rw [← hnl] at HOWN hl
 have HNL := Lib.hid hnl
 have K1 := Lib.hid k1
 have K2 := Lib.hid k2
 clear k1 k2 hnl
 go_wp2_with (at_builtin; go_loud (refine wpList_append_str rfl _ _ 88 9 rfl (R + 1) 5 i0 Tryz.underlying88 Tryz.underlying9 hi hz0 hz1 hz2 bv nl (u8s out) rfl HOWN.out T rfl ?d1 ?d2 ?_))
 case d1 => omega
 case d2 => omega
 intro v' w2 hown' hgrow hat
 have hne : some R ≠ bv.ownBlock := fun e => by have := HS.out.gt R e.symm; omega
 have hb2 : w2.heap[R]? = some (.cells #[tv, .pointer (some ⟨R, 1, none⟩), bv, .int .i64 (o : Nat), .int .i64 (m : Nat)] 92 (0, 0)) := by
  rw [hgrow.block R (by omega) hne]
  exact K1.out
 have f2 : w2.frozen? ⟨R, 2, none⟩ = false := frozen_of_row w2 R 2 _ _ hb2
 have d2 : w2.cell? ⟨R, 2, none⟩ = some bv := by rw [cell_of_row w2 R _ _ _ _ hb2]; rfl
 obtain ⟨ao, n', cap, rfl⟩ : ∃ ao n' cap, v' = .slice ao n' cap := by
  rcases hown'.2 with ⟨hv, _⟩ | ⟨g, cap, cur, hv, _⟩
  ·exact ⟨_, _, _, hv⟩
  ·exact ⟨_, _, _, hv⟩
 have HB2 := Lib.hid hb2
 have HO2 := Lib.hid hown'
 have HG := Lib.hid hgrow
 have HAT := Lib.hid hat
 clear hb2 hown' hgrow hat
 go_wp2_with fail
 go_ret2
 have hset := heap_setCell_same w2 R 2 _ 92 (.slice ao n' cap) HB2.out
 refine ⟨rfl, .slice ao n' cap, ⟨⟨.pointer (some ⟨R, 1, none⟩), .inr rfl, hset.trans (by simp)⟩, ?_, HS.out.le⟩, ?_, ?_⟩
 ·have e1 : (out ++ t).length = nl + t.length := by rw [List.length_append, HNL.out]
  rw [e1, u8s_app, ← strCells_u8s t, ← HT.out]
  refine ownsRow_setCell_below ?_ (by simp) _
  exact HO2.out
 ·exact ((K2.out.weak _).trans (Mv.refl _ _) (Wr.of_grown HG.out)).trans (Mv.refl _ _) (Wr.of_set w2 2 _)
 ·intro k hk
  have hk' : (Value.slice ao n' cap).ownBlock = some k := hk
  rcases HAT.out with h1 | h1 <;> rw [h1] at hk'
  ·exact .inl hk'
  ·right; cases hk'; exact K2.out.size
end Go.Proofs.YtgfmiladfeoldaaGreatDoor
namespace LexP
def numeral : Nat → Bool
 | 2 => true | 3 => true | 4 => true | 9 => true | _ => false
end LexP
namespace SynP
open LexP
def delim (b : UInt8) : Bool := b.toNat < 128 && kindOf b.toNat != 3 && kindOf b.toNat != 4 && b.toNat != 95
def Dl (r : Bytes) : Prop := r = [] ∨ ∃ b t, r = b :: t ∧ delim b = true
def LxA (b : Bytes) (l : List KT) : Prop := ∀ col r, ∃ n ts, Toks col (chars (b ++ r)) = (Toks (col + n) (chars r)).after ts ∧ kt ts = l
def LxD (b : Bytes) (l : List KT) : Prop := ∀ col r, Dl r → ∃ n ts, Toks col (chars (b ++ r)) = (Toks (col + n) (chars r)).after ts ∧ kt ts = l
theorem kt_app (a b : List Tok) : kt (a ++ b) = kt a ++ kt b := by simp [kt]
theorem LxA.d {b : Bytes} {l : List KT} (h : LxA b l) : LxD b l := fun col r _ => h col r
theorem LxA.nil : LxA [] [] := fun col r => ⟨0, [], by simp [Res.after_nil], rfl⟩
theorem LxA.app {b1 b2 : Bytes} {l1 l2 : List KT} (h1 : LxA b1 l1) (h2 : LxA b2 l2) : LxA (b1 ++ b2) (l1 ++ l2) := by
 intro col r
 obtain ⟨n1, t1, e1, k1⟩ := h1 col (b2 ++ r)
 obtain ⟨n2, t2, e2, k2⟩ := h2 (col + n1) r
 refine ⟨n1 + n2, t1 ++ t2, ?_, by rw [kt_app, k1, k2]⟩
 rw [List.append_assoc, e1, e2, Res.after_after, Nat.add_assoc]
theorem after_mem {r : Res} {a l : List Tok} (h : r.after a = .ok l) : ∃ m, r = .ok m ∧ l = a ++ m := by
 cases r with
 | error e => cases h
 | ok m => exact ⟨m, rfl, by simpa [Res.after] using h.symm⟩
theorem bytes_split (k : Nat) (L : List C) : bytesOf L = bytesOf (L.take k) ++ bytesOf (L.drop k) := by
 unfold bytesOf
 rw [← List.flatMap_append, List.take_append_drop]
end SynP
namespace LexP
def badV (v m : Nat) : Bool := v < m || 0x10ffff < v || (0xd800 ≤ v && v ≤ 0xdfff)
def fin (v m n : Nat) : Option (Nat × Nat) := if badV v m then none else some (v, n)
end LexP
namespace LexP
end LexP
namespace LexP
open NumP
def Pad (P : Bytes) (k : Nat) : Prop := k ≤ P.length ∧ ∃ cs : List C, (∀ c ∈ cs, kd c = 1) ∧ cs.length = k ∧ ∀ r, chars (P ++ r) = cs ++ chars r
theorem Pad.nil : Pad [] 0 := ⟨Nat.le_refl _, [], by simp, rfl, fun r => rfl⟩
theorem Pad.two {P : Bytes} {k : Nat} (h : Pad P k) : Pad (P ++ [194, 160]) (k + 1) := by
 obtain ⟨h0, cs, h1, h2, h3⟩ := h
 refine ⟨by simp; omega, cs ++ [(some 160, [194, 160])], ?_, by simp [h2], fun r => ?_⟩
 ·intro c hc
  rcases List.mem_append.1 hc with hc | hc
  ·exact h1 c hc
  ·simp only [List.mem_singleton] at hc
   subst hc; decide
 ·have hd : dec (194 :: 160 :: r) = some (160, 2) := by simp [dec, isCont]
  rw [List.append_assoc, h3]
  show cs ++ chars (194 :: 160 :: r) = _
  rw [chars_some hd, List.append_assoc]; rfl
theorem Toks_blanks : ∀ (cs : List C) (col : Nat) (r : List C), (∀ c ∈ cs, kd c = 1) → Toks col (cs ++ r) = Toks (col + cs.length) r := by
 intro cs
 induction cs with
 | nil => intro col r _; rfl
 | cons c cs ih =>
  intro col r h
  rw [List.cons_append, Toks_blank col (h c (by simp)), ih _ _ (fun d hd => h d (by simp [hd])), List.length_cons]
  congr 1; omega
theorem Pad.toks {P : Bytes} {k : Nat} (h : Pad P k) (col : Nat) (r : Bytes) : Toks col (chars (P ++ r)) = Toks (col + k) (chars r) := by
 obtain ⟨h0, cs, h1, h2, h3⟩ := h
 rw [h3, Toks_blanks _ _ _ h1, h2]
theorem Pad.zero {P : Bytes} (h : Pad P 0) : P = [] := by
 obtain ⟨h0, cs, h1, h2, h3⟩ := h
 obtain rfl : cs = [] := List.eq_nil_of_length_eq_zero h2
 have h4 := h3 []
 rw [List.append_nil, chars_nil, List.nil_append] at h4
 have h5 := bytesOf_chars P
 rw [h4] at h5; exact h5.symm
end LexP
namespace SynP
open LexP
def Sfx (s s' : St) : Prop := s'.opened = s.opened ∧ ∃ k, s'.ts = s.ts.drop k
theorem Sfx.refl (s : St) : Sfx s s := ⟨rfl, 0, rfl⟩
theorem Sfx.trans {a b c : St} (h : Sfx a b) (k : Sfx b c) : Sfx a c := ⟨k.1.trans h.1, by
 obtain ⟨i, hi⟩ := h.2
 obtain ⟨j, hj⟩ := k.2
 exact ⟨i + j, by rw [hj, hi, List.drop_drop]⟩⟩
theorem Sfx.adv (s : St) : Sfx s s.adv := ⟨rfl, 1, by show s.ts.tail = _; cases s.ts <;> rfl⟩
def Fit (c : Nat → Bool) (o : Nat) (e : Ex) : Prop := o + e.dp + 1 ≤ 100 ∨ (c e.op = true ∧ o + e.dp ≤ 100)
theorem Fit.mono {c c' : Nat → Bool} {o : Nat} {e : Ex} (h : Fit c o e) (hc : ∀ op, c op = true → c' op = true) : Fit c' o e := h.imp id (fun h => ⟨hc _ h.1, h.2⟩)
theorem Fit.le {c : Nat → Bool} {o : Nat} {e : Ex} (h : Fit c o e) : o + e.dp ≤ 100 := by rcases h with h | h <;> omega
def Ans (c : Nat → Bool) (s : St) (r : Ex × St) : Prop := Sfx s r.2 ∧ r.1.wf ∧ Fit c s.opened r.1
theorem Ans.mono {c c' : Nat → Bool} {s : St} {r : Ex × St} (h : Ans c s r) (hc : ∀ op, c op = true → c' op = true) : Ans c' s r := ⟨h.1, h.2.1, h.2.2.mono hc⟩
theorem Ans.from {c : Nat → Bool} {s s1 : St} {r : Ex × St} (hs : Sfx s s1) (h : Ans c s1 r) : Ans c s r := ⟨hs.trans h.1, h.2.1, by rw [← hs.1]; exact h.2.2⟩
def AnsL (s : St) (r : Exs × St) : Prop := Sfx s r.2 ∧ r.1.wf ∧ s.opened + r.1.dp ≤ 100 ∧ r.1 ≠ .nil
theorem AnsL.from {s s1 : St} {r : Exs × St} (hs : Sfx s s1) (h : AnsL s1 r) : AnsL s r := ⟨hs.trans h.1, h.2.1, by rw [← hs.1]; exact h.2.2.1, h.2.2.2⟩
theorem toks_text : ∀ (n : Nat) (cs : List C) (col : Nat) (ts : List Tok), cs.length ≤ n → Toks col cs = .ok ts → ∀ t ∈ ts, t.1 = 1 → t.2.1.length ≤ (bytesOf cs).length := by
 intro n
 induction n with
 | zero =>
  intro cs col ts hl h
  rw [List.eq_nil_of_length_eq_zero (Nat.le_zero.1 hl), Toks_nil] at h
  cases h
  intro t ht; cases ht
 | succ n ih =>
  intro cs col ts hl h
  cases cs with
  | nil =>
   rw [Toks_nil] at h
   cases h
   intro t ht; cases ht
  | cons c cs =>
   have step : ∀ (k col : Nat) (m : List Tok), 1 ≤ k → Toks col ((c :: cs).drop k) = .ok m → ∀ t ∈ m, t.1 = 1 → t.2.1.length ≤ (bytesOf (c :: cs)).length := by
    intro k col m hk hm t ht h1
    have e := congrArg List.length (bytes_split k (c :: cs))
    rw [List.length_append] at e
    have := ih _ _ _ (by rw [List.length_drop]; omega) hm t ht h1
    omega
   have hk := kd_le c
   by_cases k0 : kd c = 0
   ·rw [Toks_bad _ k0] at h; cases h
   by_cases k1 : kd c = 1
   ·rw [Toks_blank _ k1] at h
    exact step 1 _ _ (Nat.le_refl _) h
   by_cases k2 : kd c = 2
   ·rw [Toks_hash _ k2] at h
    split at h
    ·cases h
    ·cases h
     intro t ht; cases ht
   by_cases k3 : kd c = 3
   ·rw [Toks_num _ k3] at h
    split at h
    ·cases h
    ·obtain ⟨m, hm, rfl⟩ := after_mem h
     have := step _ _ _ (runLen_pos (p := isNum) (c := c) (cs := cs) (by simp [isNum, k3])) hm
     intro t ht h1
     rcases List.mem_cons.1 ht with rfl | ht
     ·exact bytes_len _ _
     ·exact this t ht h1
   by_cases k4 : kd c = 4
   ·rw [Toks_name _ k4] at h
    split at h
    ·cases h
    ·obtain ⟨m, hm, rfl⟩ := after_mem h
     have := step _ _ _ (runLen_pos (p := isAl) (c := c) (cs := cs) (by simp [isAl, k4])) hm
     intro t ht h1
     rcases List.mem_cons.1 ht with rfl | ht
     ·cases h1
     ·exact this t ht h1
   by_cases k5 : kd c = 5
   ·rw [Toks_mark _ k5] at h
    obtain ⟨m, hm, rfl⟩ := after_mem h
    have := step 1 _ _ (Nat.le_refl _) hm
    intro t ht h1
    rcases List.mem_cons.1 ht with rfl | ht
    ·cases h1
    ·exact this t ht h1
   ·rw [Toks_other _ (by omega)] at h; cases h
end SynP
namespace Go.Proofs.YtgfmiladfeoldaaGreatDoor
open LexP NumP
theorem digit_byte : ∀ l : Bytes, ∀ c ∈ chars l, isNum c = true → ∃ b, c.2 = [b] ∧ (isDig b = true ∨ b = 95) ∧ (kd c = 3 → isDig b = true) := by
 apply chars_ind
 ·intro c hc; simp [chars_nil] at hc
 ·intro l hl ih c hc
  rw [chars_cons hl] at hc
  rcases List.mem_cons.1 hc with rfl | hc
  ·intro hn
   cases hd : dec l with
   | none =>
    have hv : val l = none := by simp [val, hd]
    rw [hv] at hn; simp [isNum, kd, rn] at hn
   | some p =>
    obtain ⟨v, n⟩ := p
    have hv : val l = some v := by simp [val, hd]
    have hw : wid l = n := by simp [wid, hd]
    rw [hv] at hn
    rw [hw, hv]
    have hn' : (kindOf v == 3 || v == 95) = true := hn
    have h3 : kindOf v = 3 → 48 ≤ v ∧ v ≤ 57 := by
     unfold kindOf
     repeat' split
     all_goals omega
    have hv2 : (48 ≤ v ∧ v ≤ 57) ∨ v = 95 := by
     simp only [Bool.or_eq_true, beq_iff_eq] at hn'
     rcases hn' with h | h
     ·exact .inl (h3 h)
     ·exact .inr h
    obtain ⟨rfl, ht⟩ := dec_ascii hd (by omega)
    have htn : v.toUInt8.toNat = v := by simp; omega
    refine ⟨v.toUInt8, ht, ?_, ?_⟩
    ·rcases hv2 with h | rfl
     ·left; simp only [isDig, htn, Bool.and_eq_true, decide_eq_true_eq]; exact h
     ·right; rfl
    ·intro hk
     have := h3 hk
     simp only [isDig, htn, Bool.and_eq_true, decide_eq_true_eq]; exact this
  ·exact ih c hc
theorem numrun_text {S : Bytes} {cs : List C} (h : ∀ c ∈ cs, c ∈ chars S) : numRun (bytesOf (cs.take (runLen isNum cs))) := by
 intro b hb
 simp only [bytesOf, List.mem_flatMap] at hb
 obtain ⟨c, hc, hbc⟩ := hb
 have h1 := takeWhile_all _ c hc
 obtain ⟨x, hx, h2, _⟩ := digit_byte S c (h c (List.mem_of_mem_take hc)) h1
 rw [hx] at hbc
 simp only [List.mem_singleton] at hbc
 subst hbc; exact h2
def NumTok (t : Tok) : Prop := t.1 = 1 → numRun t.2.1 ∧ 0 < t.2.1.length ∧ anyBad t.2.1 = false
theorem toks_nums (S : Bytes) : ∀ (n : Nat) (cs : List C) (col : Nat) (ts : List Tok), cs.length ≤ n → (∀ c ∈ cs, c ∈ chars S) → Toks col cs = .ok ts → ∀ t ∈ ts, NumTok t := by
 intro n
 induction n with
 | zero =>
  intro cs col ts hl _ h
  rw [List.eq_nil_of_length_eq_zero (Nat.le_zero.1 hl), Toks_nil] at h
  cases h
  intro t ht; cases ht
 | succ n ih =>
  intro cs col ts hl hS h
  cases cs with
  | nil =>
   rw [Toks_nil] at h
   cases h
   intro t ht; cases ht
  | cons c cs =>
   have step : ∀ (k col : Nat) (m : List Tok), 1 ≤ k → Toks col ((c :: cs).drop k) = .ok m → ∀ t ∈ m, NumTok t := by
    intro k col m hk hm
    exact ih _ _ _ (by rw [List.length_drop]; omega) (fun d hd => hS d (List.mem_of_mem_drop hd)) hm
   have hk := kd_le c
   by_cases k0 : kd c = 0
   ·rw [Toks_bad _ k0] at h; cases h
   by_cases k1 : kd c = 1
   ·rw [Toks_blank _ k1] at h
    exact step 1 _ _ (Nat.le_refl _) h
   by_cases k2 : kd c = 2
   ·rw [Toks_hash _ k2] at h
    split at h
    ·cases h
    ·cases h
     intro t ht; cases ht
   by_cases k3 : kd c = 3
   ·rw [Toks_num _ k3] at h
    split at h
    ·cases h
    ·rename_i hb
     obtain ⟨m, hm, rfl⟩ := SynP.after_mem h
     have hc : isNum c = true := by simp [isNum, k3]
     have hp := runLen_pos (p := isNum) (c := c) (cs := cs) hc
     have := step _ _ _ hp hm
     intro t ht
     rcases List.mem_cons.1 ht with rfl | ht
     ·intro _
      have hr := numrun_text (S := S) (cs := c :: cs) hS
      obtain ⟨x, hx, -, h2⟩ := digit_byte S c (hS c (by simp)) hc
      obtain ⟨j, hj⟩ : ∃ j, runLen isNum (c :: cs) = j + 1 := ⟨runLen isNum (c :: cs) - 1, by omega⟩
      have e : bytesOf ((c :: cs).take (runLen isNum (c :: cs))) = x :: bytesOf (cs.take j) := by rw [hj, List.take_succ_cons]; simp [bytesOf, hx]
      refine ⟨hr, by show 0 < (bytesOf _).length; rw [e]; simp, ?_⟩
      have hb2 : badNum (bytesOf ((c :: cs).take (runLen isNum (c :: cs)))) = false := by simpa using hb
      show anyBad (bytesOf _) = false
      rw [← badNum_anyBad, hb2]
      rw [e]
      intro h95
      have h95' : x = 95 := by simpa using h95
      have := h2 k3
      rw [h95'] at this
      exact absurd this (by decide)
     ·exact this t ht
   by_cases k4 : kd c = 4
   ·rw [Toks_name _ k4] at h
    split at h
    ·cases h
    ·obtain ⟨m, hm, rfl⟩ := SynP.after_mem h
     have := step _ _ _ (runLen_pos (p := isAl) (c := c) (cs := cs) (by simp [isAl, k4])) hm
     intro t ht
     rcases List.mem_cons.1 ht with rfl | ht
     ·intro h1; cases h1
     ·exact this t ht
   by_cases k5 : kd c = 5
   ·rw [Toks_mark _ k5] at h
    obtain ⟨m, hm, rfl⟩ := SynP.after_mem h
    have := step 1 _ _ (Nat.le_refl _) hm
    intro t ht
    rcases List.mem_cons.1 ht with rfl | ht
    ·intro h1; cases h1
    ·exact this t ht
   ·rw [Toks_other _ (by omega)] at h; cases h
theorem toks_nums_of {S : Bytes} {ts : List Tok} (h : Toks 1 (chars S) = .ok ts) : ∀ t ∈ ts, NumTok t := toks_nums S _ _ _ _ (Nat.le_refl _) (fun _ h => h) h
end Go.Proofs.YtgfmiladfeoldaaGreatDoor
namespace SynP
open LexP
section
variable {φ : Nat → Nat} {α β : Type}
end
end SynP
namespace SynP
open LexP
theorem after_ok {r : Res} {t : List Tok} {ts : List Tok} (h : r.after t = .ok ts) : ∃ m, r = .ok m ∧ ts = t ++ m := by
 cases r with
 | error e => cases h
 | ok m => exact ⟨m, rfl, by simpa [Res.after] using h.symm⟩
theorem notBad_kd {c : C} (h : kd c ≠ 0) : notBad c = true := by simp [notBad, h]
theorem Toks_clean : ∀ (A : List C) (col : Nat) (ts : List Tok), Toks col A = .ok ts → A.all notBad = true := by
 intro A col ts h
 refine (Toks_ind (P := fun _ A r => (∃ l, r = Except.ok l) → A.all notBad = true) ?_ ?_ ?_ ?_ ?_ A col) ⟨ts, h⟩
 ·intro _ _; rfl
 ·intro col c A hk ih hr
  rw [List.all_cons, ih hr, notBad_kd (by omega)]; rfl
 ·intro col c A hk hr
  obtain ⟨l, hl⟩ := hr
  split at hl
  ·cases hl
  ·rename_i hn
   have h1 := runLen_le notBad (c :: A)
   have h2 := takeWhile_all (p := notBad) (c :: A)
   rw [show runLen notBad (c :: A) = (c :: A).length from by omega, List.take_length] at h2
   exact List.all_eq_true.2 h2
 ·intro col c A e _ _ _ hr
  obtain ⟨l, hl⟩ := hr
  cases hl
 ·intro col c A n k t _ _ _ h1 h2 h3 ih hr
  obtain ⟨l, hl⟩ := hr
  obtain ⟨m, hm, -⟩ := after_ok hl
  have h4 := ih ⟨m, hm⟩
  rw [← List.take_append_drop n (c :: A), List.all_append, h4, List.all_eq_true.2 h3]; rfl
end SynP
namespace Go.Proofs.YtgfmiladfeoldaaGreatDoor
open Go.RowKit NatP LexP
theorem below_next {a b c : World} (h : Below a.heap.size a b) (k : Below b.heap.size b c) : Below a.heap.size a c := h.trans (k.mono h.size)
def Fits (l : Bytes) : Prop := l.length ≤ 67108864
theorem toks_lb : ∀ (n : Nat) (cs : List C) (col : Nat) (ts : List Tok), cs.length ≤ n → Toks col cs = .ok ts → (ts.map fun t => t.2.1.length + 1).sum ≤ (bytesOf cs).length + 2 * cs.length := by
 intro n
 induction n with
 | zero =>
  intro cs col ts hl h
  rw [List.eq_nil_of_length_eq_zero (Nat.le_zero.1 hl), Toks_nil] at h
  cases h
  exact Nat.zero_le _
 | succ n ih =>
  intro cs col ts hl h
  cases cs with
  | nil =>
   rw [Toks_nil] at h
   cases h
   exact Nat.zero_le _
  | cons c cs =>
   have step : ∀ (k col : Nat) (m : List Tok), 1 ≤ k → Toks col ((c :: cs).drop k) = .ok m → (m.map fun t => t.2.1.length + 1).sum + (bytesOf ((c :: cs).take k)).length + 2 ≤ (bytesOf (c :: cs)).length + 2 * (c :: cs).length := by
    intro k col m hk hm
    have e := congrArg List.length (SynP.bytes_split k (c :: cs))
    rw [List.length_append] at e
    have hd : ((c :: cs).drop k).length + 1 ≤ (c :: cs).length := by rw [List.length_drop, List.length_cons]; omega
    have := ih _ _ _ (by omega) hm
    omega
   have hk := kd_le c
   by_cases k0 : kd c = 0
   ·rw [Toks_bad _ k0] at h; cases h
   by_cases k1 : kd c = 1
   ·rw [Toks_blank _ k1] at h
    have := step 1 _ _ (Nat.le_refl _) h
    omega
   by_cases k2 : kd c = 2
   ·rw [Toks_hash _ k2] at h
    split at h
    ·cases h
    ·cases h
     exact Nat.zero_le _
   by_cases k3 : kd c = 3
   ·rw [Toks_num _ k3] at h
    split at h
    ·cases h
    ·obtain ⟨m, hm, rfl⟩ := SynP.after_mem h
     have := step _ _ _ (runLen_pos (p := isNum) (c := c) (cs := cs) (by simp [isNum, k3])) hm
     rw [List.map_append, List.sum_append]
     simp only [List.map_cons, List.map_nil, List.sum_cons, List.sum_nil]
     omega
   by_cases k4 : kd c = 4
   ·rw [Toks_name _ k4] at h
    split at h
    ·cases h
    ·obtain ⟨m, hm, rfl⟩ := SynP.after_mem h
     have := step _ _ _ (runLen_pos (p := isAl) (c := c) (cs := cs) (by simp [isAl, k4])) hm
     rw [List.map_append, List.sum_append]
     simp only [List.map_cons, List.map_nil, List.sum_cons, List.sum_nil]
     omega
   by_cases k5 : kd c = 5
   ·rw [Toks_mark _ k5] at h
    obtain ⟨m, hm, rfl⟩ := SynP.after_mem h
    have := step 1 _ _ (Nat.le_refl _) hm
    have e1 : bytesOf ((c :: cs).take 1) = c.2 := by simp [bytesOf]
    rw [e1] at this
    have hs : (signOf c).length ≤ c.2.length + 1 := by
     unfold signOf
     repeat' split
     all_goals simp
    rw [List.map_append, List.sum_append]
    simp only [List.map_cons, List.map_nil, List.sum_cons, List.sum_nil]
    omega
   ·rw [Toks_other _ (by omega)] at h; cases h
theorem Fits.toks {l : Bytes} (h : Fits l) {ts : List Tok} (ht : Toks 1 (chars l) = .ok ts) : ts.length ≤ 67108864 ∧ (ts.map fun t => t.2.1.length + 1).sum ≤ 201326592 := by
 unfold Fits at h
 have h1 := (Toks_bounds _ _ _ ht).1
 have h2 := chars_len l
 have h3 := toks_lb _ _ _ _ (Nat.le_refl _) ht
 rw [bytesOf_chars] at h3
 omega
theorem Fits.good {l : Bytes} (h : Fits l) {ts : List Tok} (ht : Toks 1 (chars l) = .ok ts) : ∀ t ∈ ts, TokOk t := fun t hm h1 => by
 obtain ⟨a, b, c⟩ := toks_nums_of ht t hm h1
 refine ⟨a, b, ?_, c⟩
 have h2 := SynP.toks_text _ _ _ _ (Nat.le_refl _) ht t hm h1
 rw [bytesOf_chars] at h2
 exact Nat.le_trans h2 h
def StP (l : Bytes) (w : World) (e : Ending) (w' : World) : Prop :=
 match Toks 1 (chars l) with
 | .error (c, k) => e = .returned (.tuple #[.pointer none, .int .i64 (c : Nat), .int .i64 (k : Nat)]) ∧ Below w.heap.size w w'
 | .ok ts => ∃ R tv, e = .returned (.tuple #[.pointer (some ⟨R, 0, none⟩), .int .i64 0, .int .i64 0]) ∧ w.heap.size ≤ R ∧ Below w.heap.size w w' ∧ RS w' R tv ts ((chars l).length + 1) 0 ⟨ts, 0⟩ (.slice none 0 0) []
set_option maxRecDepth 100000 in
theorem start_any (s : ByteArray) (w : World) (hf : Fits s.data.toList) (hx : Lx w) (hs : SG w) (hsz : 4 < w.heap.size) :
  Calls Tryz.prog 47 #[.string s] w (StP s.data.toList w) := by
 have HF := Lib.hid hf
 have HX := Lib.hid hx
 have HSG := Lib.hid hs
 have hs4 : s.size ≤ 67108864 := by rw [Lib.size_eq]; exact hf
 clear hf hx hs
 go_enter Tryz.func47, Tryz.ntmps47
 go_wp2_with fail
 refine (tokens_big s _ hs4 HX.out).mono ?_
 rintro e w1 ⟨v, rfl, h1, h2⟩
 cases hT : Toks 1 (chars s.data.toList) with
 | error p =>
  obtain ⟨c, k⟩ := p
  have HT := Lib.hid hT
  have hk0 := (Toks_err _ _ _ hT).1
  have H2 := Lib.hid h2
  clear h1 h2 hT
  have ec : (resCol (.error (c, k)) : Nat) = c := rfl
  have ek : (resErr (.error (c, k)) : Nat) = k := rfl
  rw [ec, ek]
  simp only at hk0
  have hkk : ((k : Int) != 0) = true := by simp; omega
  go_wp2_with fail
  go_ret3
  unfold StP
  rw [HT.out]
  exact ⟨rfl, H2.out⟩
 | ok ts =>
  have HT := Lib.hid hT
  have h1' : w1.ownsRow w.heap.size 119 3 v ts.length (tkCells ts) := by rw [hT] at h1; exact h1
  have H1 := Lib.hid h1'
  obtain ⟨ao, cap, rfl, -, -, -⟩ := ownsRow_shape h1'
  have H2 := Lib.hid h2
  have hcl := SynP.Toks_clean _ _ _ hT
  have HCL : Hid (colRes s.data.toList = ((chars s.data.toList).length, 0)) := by show _ = _; unfold colRes; rw [if_pos hcl]
  have hlen := chars_len s.data.toList
  rw [← Lib.size_eq] at hlen
  clear h1 h1' h2 hT hcl
  have ec : (resCol (.ok ts) : Nat) = 0 := rfl
  have ek : (resErr (.ok ts) : Nat) = 0 := rfl
  rw [ec, ek]
  go_wp2_with fail
  refine (columns_big s _ hs4).mono ?_
  rintro e w2 ⟨rfl, h3⟩
  rw [HCL.out]
  have H3 := Lib.hid h3
  clear h3
  obtain ⟨n, hn⟩ : ∃ n, n = (chars s.data.toList).length := ⟨_, rfl⟩
  rw [← hn] at hlen
  simp only
  rw [← hn]
  have HN := Lib.hid hn
  clear hn
  go_wp2_with fail
  go_ret3
  have hb := below_next H2.out H3.out
  obtain ⟨hts, hsm⟩ := HF.out.toks HT.out
  unfold StP
  rw [HT.out]
  refine ⟨w2.heap.size, .slice ao ts.length cap, rfl, hb.size, below_next hb (below_alloc _ _), ?_⟩
  have hal := below_alloc w2 (.cells #[.slice ao ts.length cap, .int .i64 0, .int .i64 ((n : Int) + 1), .int .i64 0, .slice none 0 0] 85)
  refine { blk := ?_, tks := ?_, drop := rfl, le := Nat.zero_le _, own := World.ownsRow_nil _ _ _ _, kids := (fun p hp => by cases hp), apart := (fun i j p q k h => by simp at h), few := (by show 0 + ts.length ≤ _; omega), deep := Nat.zero_le _, short := hts, sum := hsm, good := HF.out.good HT.out, sg := ?_, sgl := ?_ }
  ·rw [← HN.out]; exact heap_alloc_new w2 _
  ·obtain ⟨ao', cap', e, a1, a2, a3⟩ := ownsRow_shape H1.out
   cases e
   refine ⟨ao, cap, rfl, a1, a2, fun h0 => ?_⟩
   obtain ⟨g, rfl, b1, b2, b3⟩ := a3 h0
   refine ⟨g, rfl, Nat.lt_of_lt_of_le b2 H3.out.size, fun j t hj => ?_⟩
   have hjl := (List.getElem?_eq_some_iff.1 hj).1
   obtain ⟨c1, c2, c3⟩ := tkCells_at ts j t hj
   have hc : ∀ o, (w2.alloc (.cells #[.slice (some ⟨g, 0, none⟩) ts.length cap, .int .i64 0, .int .i64 ((n : Int) + 1), .int .i64 0, .slice none 0 0] 85)).cell? ⟨g, o, none⟩ = w1.cell? ⟨g, o, none⟩ := fun o =>
    (hal.cell (p := ⟨g, o, none⟩) (Nat.lt_of_lt_of_le b2 H3.out.size)).trans (H3.out.cell (p := ⟨g, o, none⟩) b2)
   exact ⟨by rw [hc, b3 _ (by omega)]; exact c1, by rw [hc, b3 _ (by omega)]; exact c2, by rw [hc, b3 _ (by omega), c3]⟩
  ·exact HSG.out.below (below_next hb hal) hsz
  ·exact Nat.lt_of_lt_of_le hsz hb.size
structure Tr (w : World) (B : Nat) (nv : Value) (ns : List Nv) : Prop where
 own : w.ownsRow B 43 3 nv ns.length (ndCells ns)
 kids : ∀ p ∈ ns, KR w B nv.ownBlock p.2 p.1.kids
 apart : ∀ (i j : Nat) (p q : Nv) (k : Nat), ns[i]? = some p → ns[j]? = some q → p.2.ownBlock = some k → q.2.ownBlock = some k → i = j
theorem ownsRow_low {w : World} {B B' k n : Nat} {e : TypeId} {v : Value} {cs : List Value} (h : w.ownsRow B e k v n cs) (hB : B' ≤ B) : w.ownsRow B' e k v n cs := by
 refine ⟨h.1, ?_⟩
 rcases h.2 with hn | ⟨g, cap, cur, rfl, hb, hgg, rest⟩
 ·exact .inl hn
 ·exact .inr ⟨g, cap, cur, rfl, Nat.le_trans hB hb, hgg, rest⟩
theorem KR.low {w : World} {R R' : Nat} {og : Option Nat} {v : Value} {ks : List Nat} (h : KR w R og v ks) (hr : R' ≤ R) : KR w R' og v ks := by
 obtain ⟨ao, cap, rfl, h1, h2, h3, h4⟩ := h
 exact ⟨ao, cap, rfl, h1, h2, fun q hq => ⟨Nat.lt_of_le_of_lt hr (h3 q hq).1, (h3 q hq).2⟩, h4⟩
theorem RS.tr {w : World} {R : Nat} {tv : Value} {L : List Tok} {fin a : Nat} {s : SynP.St} {nv : Value} {ns : List Nv} (h : RS w R tv L fin a s nv ns) {B : Nat} (hB : B ≤ R) : Tr w B nv ns :=
 ⟨ownsRow_low h.own (by omega), fun p hp => (h.kids p hp).low hB, h.apart⟩
theorem Wr.belowR {R : Nat} {w0 w w' : World} (h : Wr R none w w') (hb : Below w0.heap.size w0 w) (hB : w0.heap.size ≤ R) : Below w0.heap.size w0 w' :=
 ⟨h.os.trans hb.os, h.tape.trans hb.tape, h.output.trans hb.output, Nat.le_trans hb.size h.size, fun k hk => (h.block k (Nat.lt_of_lt_of_le hk hb.size) (by omega) (by simp)).trans (hb.block k hk)⟩
end Go.Proofs.YtgfmiladfeoldaaGreatDoor
namespace SynP
open LexP
end SynP
namespace SynP
open LexP
def readM (t : Bytes) : Except Nat MatV :=
 match Toks 1 (chars t) with
 | .error _ => .error 7
 | .ok ts =>
  match (matrix ((chars t).length + 1) (ts.length + 3) ⟨ts, 0⟩).bind fun m s => done ((chars t).length + 1) m s with
  | none => .error 0
  | some (.error (_, k)) => .error (if k = 2 ∨ k = 5 then k else 7)
  | some (.ok (m, _)) => .ok m
def readC (t : Bytes) : Option (List (List Nat)) :=
 match Toks 1 (chars t) with
 | .error _ => none
 | .ok ts =>
  match (complex ((chars t).length + 1) (ts.length + 2) ⟨ts, 0⟩).bind fun l s => done ((chars t).length + 1) l s with
  | some (.ok (l, _)) => some l
  | _ => none
def numV (t : Bytes) : Bool := decide (t ≠ []) && t.all NumP.isDig && (decT (valOf t) == t)
def namV (t : Bytes) : Bool :=
 match Toks 1 (chars t) with
 | .ok [(k, x, _)] => k == 2 && x == t
 | _ => false
def matV (t : Bytes) : Bool :=
 match readM t with
 | .ok m => matT m == t
 | .error _ => false
def cpxV (t : Bytes) : Bool :=
 match readC t with
 | some l => cpxT l == t
 | none => false
def WV (op : Int) (t : Bytes) : Bool :=
 if op = 1 ∨ op = 9 then numV t
 else if op = 2 ∨ op = 10 ∨ op = 11 then namV t
 else if op = 12 then namV t && t != letB
 else if op = 3 then matV t
 else if op = 13 then cpxV t
 else t == []
end SynP
namespace Go.Proofs.YtgfmiladfeoldaaGreatDoor
open Go.RowKit NatP LexP
set_option maxRecDepth 100000 in
theorem whole_any (op : Int) (w : World) :
  Calls Tryz.prog 99 #[.int .i64 op] w fun e w' => e = .returned (.bool (SynP.wholeI op)) ∧ w = w' := by
 unfold SynP.wholeI
 by_cases h1 : op = 11
 ·subst h1
  go_enter Tryz.func99, Tryz.ntmps99
  go_wp2_with fail
  go_ret
  exact ⟨rfl, rfl⟩
 ·by_cases h2 : op = 12
  ·subst h2
   go_enter Tryz.func99, Tryz.ntmps99
   go_wp2_with fail
   go_ret
   exact ⟨rfl, rfl⟩
  ·have e1 : (op == 11) = false := by simp [h1]
   have e2 : (op == 12) = false := by simp [h2]
   go_enter Tryz.func99, Tryz.ntmps99
   go_wp2_with fail
   go_ret
   exact ⟨by rw [e1, e2]; rfl, rfl⟩
set_option maxRecDepth 100000 in
theorem count_any (op : Int) (n : Nat) (w : World) :
  Calls Tryz.prog 100 #[.int .i64 op, .int .i64 (n : Nat)] w fun e w' => e = .returned (.bool (SynP.cnt op n)) ∧ w = w' := by
 have k0 : (((n : Nat) : Int) == 0) = (n == 0) := by rw [Bool.eq_iff_iff]; simp
 have k1 : (((n : Nat) : Int) == 1) = (n == 1) := by rw [Bool.eq_iff_iff]; simp; omega
 have k2 : (((n : Nat) : Int) == 2) = (n == 2) := by rw [Bool.eq_iff_iff]; simp; omega
 have k3 : decide ((1 : Int) ≤ (n : Nat)) = decide (1 ≤ n) := by rw [decide_eq_decide]; omega
 by_cases h : op ∈ ([1, 2, 3, 13, 14, 4, 5, 9, 11, 6, 7, 8, 10, 12] : List Int)
 ·simp only [List.mem_cons, List.not_mem_nil, or_false] at h
  rcases h with rfl | rfl | rfl | rfl | rfl | rfl | rfl | rfl | rfl | rfl | rfl | rfl | rfl | rfl
  all_goals
   go_enter Tryz.func100, Tryz.ntmps100
   go_wp2_with fail
   go_ret
   exact ⟨by simp only [k0, k1, k2, k3]; rfl, rfl⟩
 ·simp only [List.mem_cons, List.not_mem_nil, or_false, not_or] at h
  obtain ⟨h1, h2, h3, h4, h5, h6, h7, h8, h9, h10, h11, h12, h13, h14⟩ := h
  have e : SynP.cnt op n = false := by unfold SynP.cnt; simp [h1, h2, h3, h4, h5, h6, h7, h8, h9, h10, h11, h12, h13, h14]
  have HE := Lib.hid e
  have d1 : (op == 1) = false := by simp [h1]
  have d2 : (op == 2) = false := by simp [h2]
  have d3 : (op == 3) = false := by simp [h3]
  have d4 : (op == 13) = false := by simp [h4]
  have d5 : (op == 14) = false := by simp [h5]
  have d6 : (op == 4) = false := by simp [h6]
  have d7 : (op == 5) = false := by simp [h7]
  have d8 : (op == 9) = false := by simp [h8]
  have d9 : (op == 11) = false := by simp [h9]
  have d10 : (op == 6) = false := by simp [h10]
  have d11 : (op == 7) = false := by simp [h11]
  have d12 : (op == 8) = false := by simp [h12]
  have d13 : (op == 10) = false := by simp [h13]
  have d14 : (op == 12) = false := by simp [h14]
  clear e
  go_enter Tryz.func100, Tryz.ntmps100
  go_wp2_with fail
  go_ret
  exact ⟨by rw [HE.out]; rfl, rfl⟩
set_option maxRecDepth 100000 in
theorem sum_any2 (op : Nat) (w : World) :
  Calls Tryz.prog 210 #[.int .i64 (op : Nat)] w fun e w' => e = .returned (.bool (SynP.isSum op)) ∧ w = w' := by
 unfold SynP.isSum
 have k6 : (((op : Nat) : Int) == 6) = (op == 6) := by rw [Bool.eq_iff_iff]; simp; omega
 have k7 : (((op : Nat) : Int) == 7) = (op == 7) := by rw [Bool.eq_iff_iff]; simp; omega
 cases h6 : (op == 6) <;> rw [h6] at k6 <;>
 ·go_enter Tryz.func210, Tryz.ntmps210
  go_wp2_with fail
  go_ret
  exact ⟨by simp [k7], rfl⟩
set_option maxRecDepth 100000 in
theorem product_any2 (op : Nat) (w : World) :
  Calls Tryz.prog 211 #[.int .i64 (op : Nat)] w fun e w' => e = .returned (.bool (SynP.isProd op)) ∧ w = w' := by
 unfold SynP.isProd
 have k8 : (((op : Nat) : Int) == 8) = (op == 8) := by rw [Bool.eq_iff_iff]; simp; omega
 have K8 := Lib.hid k8
 clear k8
 cases h6 : SynP.isSum op
 ·have H6 := Lib.hid h6
  clear h6
  go_enter Tryz.func211, Tryz.ntmps211
  go_wp2_with fail
  refine (sum_any2 op _).mono ?_
  rintro e w1 ⟨rfl, rfl⟩
  rw [H6.out]
  go_wp2_with fail
  go_ret
  exact ⟨by rw [K8.out]; rfl, rfl⟩
 ·have H6 := Lib.hid h6
  clear h6
  go_enter Tryz.func211, Tryz.ntmps211
  go_wp2_with fail
  refine (sum_any2 op _).mono ?_
  rintro e w1 ⟨rfl, rfl⟩
  rw [H6.out]
  go_wp2_with fail
  go_ret
  exact ⟨rfl, rfl⟩
set_option maxRecDepth 100000 in
set_option maxHeartbeats 1000000 in
theorem named_any (t : Bytes) (w : World) (ht : t.length ≤ 67108864) (hx : Lx w) :
  Calls Tryz.prog 162 #[.string ⟨t.toArray⟩] w fun e w' => e = .returned (.bool (SynP.namV t)) ∧ Below w.heap.size w w' := by
 obtain ⟨T, hT⟩ : ∃ T : ByteArray, T = ⟨t.toArray⟩ := ⟨_, rfl⟩
 have hTl : T.data.toList = t := by rw [hT]
 have hs4 : T.size ≤ 67108864 := by rw [Lib.size_eq, hTl]; exact ht
 have HX := Lib.hid hx
 have HTL := Lib.hid hTl
 rw [← hT]
 clear hx hT hTl ht
 go_enter Tryz.func162, Tryz.ntmps162
 go_wp2_with fail
 refine (tokens_big T _ hs4 HX.out).mono ?_
 rintro e w1 ⟨v, rfl, h1, h2⟩
 rw [HTL.out] at h1 ⊢
 have H2 := Lib.hid h2
 clear h2
 cases hK : Toks 1 (chars t) with
 | error p =>
  obtain ⟨c, k⟩ := p
  have hk0 := (Toks_err _ _ _ hK).1
  have HV : Hid (SynP.namV t = false) := by show _ = _; unfold SynP.namV; rw [hK]
  have ec : (resCol (.error (c, k)) : Nat) = c := rfl
  have ek : (resErr (.error (c, k)) : Nat) = k := rfl
  rw [ec, ek]
  simp only at hk0
  have hkk : ((k : Int) == 0) = false := by simp; omega
  clear h1 hK hk0
  go_wp2_with fail
  go_ret
  exact ⟨by rw [HV.out]; rfl, H2.out⟩
 | ok ts =>
  have h1' : w1.ownsRow w.heap.size 119 3 v ts.length (tkCells ts) := by rw [hK] at h1; exact h1
  obtain ⟨ao, cap, rfl, a1, a2, a3⟩ := ownsRow_shape h1'
  have ec : (resCol (.ok ts) : Nat) = 0 := rfl
  have ek : (resErr (.ok ts) : Nat) = 0 := rfl
  rw [ec, ek]
  clear h1 h1'
  by_cases hn : ts.length = 1
  ·obtain ⟨x, rfl⟩ := List.length_eq_one_iff.1 hn
   obtain ⟨g, rfl, -, b2, b3⟩ := a3 (by simp)
   obtain ⟨c1, c2, -⟩ := tkCells_at [x] 0 x rfl
   have d1 : w1.cell? ⟨g, 0, none⟩ = some (.int .i64 (x.1 : Nat)) := by rw [b3 _ (by simp)]; exact c1
   have d2 : w1.cell? ⟨g, 1, none⟩ = some (.string ⟨x.2.1.toArray⟩) := by rw [b3 _ (by simp)]; exact c2
   have hk2 : (((x.1 : Nat) : Int) == 2) = (x.1 == 2) := by rw [Bool.eq_iff_iff]; simp; omega
   have HV : Hid (SynP.namV t = (x.1 == 2 && x.2.1 == t)) := by show _ = _; unfold SynP.namV; rw [hK]
   obtain ⟨k, y, c⟩ := x
   clear hK a3 b3 c1 c2
   have e1 : ([(k, y, c)] : List Tok).length = 1 := rfl
   rw [e1]
   cases h2 : (k == 2) with
   | false =>
    rw [h2] at hk2
    simp only at hk2
    have HV2 : Hid (SynP.namV t = false) := by show _ = _; rw [HV.out]; simp [h2]
    clear h2
    go_wp2_with fail
    go_ret
    exact ⟨by rw [HV2.out]; rfl, H2.out⟩
   | true =>
    rw [h2] at hk2
    simp only at hk2
    have HV2 : Hid (SynP.namV t = (y == t)) := by show _ = _; rw [HV.out]; simp [h2]
    clear h2
    go_wp2_with fail
    go_ret
    exact ⟨by rw [HV2.out, ← HTL.out, ← ByteArray.toList_eq]; rfl, H2.out⟩
  ·have HV : Hid (SynP.namV t = false) := by
    show _ = _
    unfold SynP.namV
    rw [hK]
    match ts, hn with
    | [], _ => rfl
    | _ :: _ :: _, _ => rfl
    | [_], hn => exact absurd rfl hn
   have hnn : (((ts.length : Nat) : Int) == 1) = false := by simp; omega
   clear hK a3
   go_wp2_with fail
   go_ret
   exact ⟨by rw [HV.out]; rfl, H2.out⟩
end Go.Proofs.YtgfmiladfeoldaaGreatDoor
namespace Go.Proofs.YtgfmiladfeoldaaGreatDoor
open Go.RowKit NatP LexP
set_option maxRecDepth 100000 in
set_option maxHeartbeats 1000000 in
theorem loose_any (op side part : Nat) (w : World) :
  Calls Tryz.prog 163 #[.int .i64 (op : Nat), .int .i64 (side : Nat), .int .i64 (part : Nat)] w fun e w' => e = .returned (.bool (SynP.loose op side part)) ∧ w = w' := by
 have s1 : (((side : Nat) : Int) == 1) = (side == 1) := by rw [Bool.eq_iff_iff]; simp; omega
 have p4 : (((part : Nat) : Int) == 4) = (part == 4) := by rw [Bool.eq_iff_iff]; simp; omega
 have p9 : (((part : Nat) : Int) == 9) = (part == 9) := by rw [Bool.eq_iff_iff]; simp; omega
 obtain ⟨S, hS⟩ : ∃ S, S = SynP.isSum part := ⟨_, rfl⟩
 obtain ⟨Q, hQ⟩ : ∃ Q, Q = SynP.isProd part := ⟨_, rfl⟩
 have HS := Lib.hid hS
 have HQ := Lib.hid hQ
 clear hS hQ
 by_cases h67 : op = 6 ∨ op = 7
 ·have HV : Hid (SynP.loose op side part = (side == 1 && S)) := by
   show _ = _
   unfold SynP.loose
   rw [HS.out]
   rcases h67 with rfl | rfl <;> rfl
  cases hs : (side == 1) <;> rw [hs] at s1 <;> rcases h67 with rfl | rfl
  all_goals
   have HV2 := HV
   rw [hs] at HV2
   clear HV hs
   go_enter Tryz.func163, Tryz.ntmps163
   go_wp2_with fail
   try (refine (sum_any2 part _).mono ?_; rintro e w1 ⟨rfl, rfl⟩; rw [← HS.out]; go_wp2_with fail)
   go_ret
   exact ⟨by rw [HV2.out]; rfl, rfl⟩
 ·obtain ⟨h6, h7⟩ := not_or.1 h67
  have d6 : (((op : Nat) : Int) == 6) = false := by simp; omega
  have d7 : (((op : Nat) : Int) == 7) = false := by simp; omega
  by_cases h8 : op = 8
  ·subst h8
   have HV : Hid (SynP.loose 8 side part = (S || (side == 1 && Q))) := by
    show _ = _
    unfold SynP.loose
    rw [HS.out, HQ.out]; rfl
   cases S
   ·cases hs : (side == 1) <;> rw [hs] at s1
    all_goals
     have HV2 := HV
     rw [hs] at HV2
     clear HV hs
     go_enter Tryz.func163, Tryz.ntmps163
     go_wp2_with fail
     refine (sum_any2 part _).mono ?_
     rintro e w1 ⟨rfl, rfl⟩
     rw [← HS.out]
     go_wp2_with fail
     try (refine (product_any2 part _).mono ?_; rintro e w1 ⟨rfl, rfl⟩; rw [← HQ.out]; go_wp2_with fail)
     go_ret
     exact ⟨by rw [HV2.out]; rfl, rfl⟩
   ·go_enter Tryz.func163, Tryz.ntmps163
    go_wp2_with fail
    refine (sum_any2 part _).mono ?_
    rintro e w1 ⟨rfl, rfl⟩
    rw [← HS.out]
    go_wp2_with fail
    go_ret
    exact ⟨by rw [HV.out]; rfl, rfl⟩
  ·have d8 : (((op : Nat) : Int) == 8) = false := by simp; omega
   by_cases h4 : op = 4
   ·subst h4
    have HV : Hid (SynP.loose 4 side part = Q) := by
     show _ = _
     unfold SynP.loose
     rw [HQ.out]; rfl
    go_enter Tryz.func163, Tryz.ntmps163
    go_wp2_with fail
    refine (product_any2 part _).mono ?_
    rintro e w1 ⟨rfl, rfl⟩
    rw [← HQ.out]
    go_wp2_with fail
    go_ret
    exact ⟨by rw [HV.out]; rfl, rfl⟩
   ·have d4 : (((op : Nat) : Int) == 4) = false := by simp; omega
    by_cases h95 : op = 9 ∨ op = 5
    ·have HV : Hid (SynP.loose op side part = (Q || part == 4 || part == 9)) := by
      show _ = _
      unfold SynP.loose
      rw [HQ.out]
      rcases h95 with rfl | rfl <;> rfl
     cases Q <;> cases hp : (part == 4) <;> rw [hp] at p4 <;> rcases h95 with rfl | rfl
     all_goals
      have HV2 := HV
      rw [hp] at HV2
      clear HV hp
      go_enter Tryz.func163, Tryz.ntmps163
      go_wp2_with fail
      refine (product_any2 part _).mono ?_
      rintro e w1 ⟨rfl, rfl⟩
      rw [← HQ.out]
      go_wp2_with fail
      go_ret
      exact ⟨by rw [HV2.out]; first | rfl | (rw [p9]; rfl), rfl⟩
    ·obtain ⟨h9, h5⟩ := not_or.1 h95
     have d9 : (((op : Nat) : Int) == 9) = false := by simp; omega
     have d5 : (((op : Nat) : Int) == 5) = false := by simp; omega
     have HV : Hid (SynP.loose op side part = false) := by
      show _ = _
      unfold SynP.loose
      simp [h6, h7, h8, h4, h9, h5]
     clear h67 h95
     go_enter Tryz.func163, Tryz.ntmps163
     go_wp2_with fail
     go_ret
     exact ⟨by rw [HV.out]; rfl, rfl⟩
end Go.Proofs.YtgfmiladfeoldaaGreatDoor
namespace Go.Proofs.YtgfmiladfeoldaaGreatDoor
open Go.RowKit NatP LexP
set_option maxRecDepth 100000 in
set_option maxHeartbeats 2000000 in
theorem brack_part (R : Nat) (tv bv : Value) (out : Bytes) (o m : Nat) (w : World) (h : WrS w R tv bv out o m) (hl : out.length ≤ 549755813888) (ho : o ≤ 100000) (a b : Value) (X : Bytes) (hX : X.length ≤ 274877906944) (d : Nat) (hd : d ≤ 100000)
  (HF : ∀ bv2 w2, WrS w2 R tv bv2 (out ++ [40]) (o + 1) (max m (o + 1)) → Wr R bv.ownBlock w w2 → Mv w bv.ownBlock bv2.ownBlock → Calls Tryz.prog 164 #[a, b] w2 (WrP R tv bv2 (out ++ [40] ++ X) (o + 1) (max (max m (o + 1)) (o + 1 + d)) (.tuple #[]) w2)) :
  Calls Tryz.prog 106 #[.pointer (some ⟨R, 0, none⟩), .func (.func 164) #[] #[a, b]] w (WrP R tv bv (out ++ ([40] ++ X ++ [41])) o (max m (o + (d + 1))) (.tuple #[]) w) := by
 have HS := Lib.hid h
 have HFF := Lib.hid HF
 obtain ⟨OUT, hOUT⟩ : ∃ OUT, OUT = out ++ ([40] ++ X ++ [41]) := ⟨_, rfl⟩
 obtain ⟨M, hM⟩ : ∃ M, M = max m (o + (d + 1)) := ⟨_, rfl⟩
 rw [← hOUT, ← hM]
 have HOUT := Lib.hid hOUT
 have HM := Lib.hid hM
 clear hOUT hM
 obtain ⟨-, c3, c4⟩ := h.cells
 have f3 := h.fro 3
 obtain ⟨o1, ho1⟩ : ∃ o1, o1 = o + 1 := ⟨_, rfl⟩
 have hw : ((o : Nat) : Int) + 1 = ((o1 : Nat) : Int) := by omega
 have hb1 : ∃ av, (av = .pointer none ∨ av = .pointer (some ⟨R, 1, none⟩)) ∧ (w.setCell ⟨R, 3, none⟩ (.int .i64 (o1 : Nat))).heap[R]? = some (.cells #[tv, av, bv, .int .i64 (o1 : Nat), .int .i64 (m : Nat)] 92 (0, 0)) := by
  obtain ⟨av, ha, hb⟩ := h.blk
  exact ⟨av, ha, (heap_setCell_same w R 3 _ 92 (.int .i64 (o1 : Nat)) hb).trans (by simp)⟩
 have HB1 := Lib.hid hb1
 obtain ⟨w1, hw1⟩ : ∃ w1, w1 = w.setCell ⟨R, 3, none⟩ (.int .i64 (o1 : Nat)) := ⟨_, rfl⟩
 rw [← hw1] at HB1
 have HW1 : Hid (Wr R none w w1) := by show Wr R none w w1; rw [hw1]; exact Wr.of_set w 3 _
 have HO1 : Hid (w1.ownsRow (R + 1) 5 1 bv out.length (u8s out)) := by show _; rw [hw1]; exact ownsRow_setCell_below h.own (by simp) _
 have d3 : w1.cell? ⟨R, 3, none⟩ = some (.int .i64 (o1 : Nat)) := by
  obtain ⟨av, -, hb⟩ := HB1.out
  rw [cell_of_row w1 R _ _ _ _ hb]; rfl
 have d4 : w1.cell? ⟨R, 4, none⟩ = some (.int .i64 (m : Nat)) := by
  obtain ⟨av, -, hb⟩ := HB1.out
  rw [cell_of_row w1 R _ _ _ _ hb]; rfl
 have e4 : w1.frozen? ⟨R, 4, none⟩ = false := by
  obtain ⟨av, -, hb⟩ := HB1.out
  exact frozen_of_row w1 R 4 _ _ hb
 obtain ⟨m1, hm1⟩ : ∃ m1, m1 = max m o1 := ⟨_, rfl⟩
 have hmx : max ((m : Nat) : Int) ((o1 : Nat) : Int) = ((m1 : Nat) : Int) := by omega
 have HW1E := Lib.hid hw1
 have HLE := Lib.hid h.le
 have HSM := Lib.hid (WrS.setM (m' := m1) HB1.out HO1.out (by omega))
 have HOE := Lib.hid ho1
 have HME := Lib.hid hm1
 have hf : ∀ args w, (callFunc 164 args).run Tryz.prog w = .ok (.enter 164 args) w := enters_of Tryz.func164 (by kernel_rfl) rfl
 clear h HF hb1 ho1 hm1
 go_enter Tryz.func106, Tryz.ntmps106
 go_wp2_with fail
 rw [← hw1]
 clear hw1
 go_region
 go_wp2_with fail
 obtain ⟨w2, hw2⟩ : ∃ w2, w2 = (w1.setCell ⟨R, 4, none⟩ (.int .i64 (m1 : Nat))).drew := ⟨_, rfl⟩
 rw [← hw2]
 have hd2 : Below (w1.setCell ⟨R, 4, none⟩ (.int .i64 (m1 : Nat))).heap.size (w1.setCell ⟨R, 4, none⟩ (.int .i64 (m1 : Nat))) w2 := by rw [hw2]; exact Below.drew (Below.refl _ _)
 have HB2 := Lib.hid (HSM.out.1.below hd2)
 have HW2 : Hid (Wr R none w w2) := (HW1.out.trans (Mv.refl _ _) HSM.out.2).trans (Mv.refl _ _) (Wr.of_below hd2)
 clear hw2 hd2 d3 d4 e4 c3 c4 f3
 refine (bld_byte R tv bv out o1 m1 40 _ HB2.out (by omega)).mono ?_
 rintro e w3 ⟨rfl, bv3, k1, k2, k3⟩
 rw [HME.out, HOE.out] at k1
 have K1 := Lib.hid k1
 have K2 : Hid (Wr R bv.ownBlock w w3) := (HW2.out.weak _).trans (Mv.refl _ _) k2
 have K3 : Hid (Mv w bv.ownBlock bv3.ownBlock) := Mv.trans (R := R) (w' := w2) (Mv.refl _ _) HW2.out.size k3
 clear k1 k2 k3
 go_wp2_with fail
 refine (HFF.out bv3 w3 K1.out K2.out K3.out).mono ?_
 rintro e w4 ⟨rfl, bv4, l1, l2, l3⟩
 have L1 := Lib.hid l1
 have L2 : Hid (Wr R bv.ownBlock w w4) := K2.out.trans K3.out l2
 have L3 : Hid (Mv w bv.ownBlock bv4.ownBlock) := Mv.trans (R := R) (w' := w3) K3.out K2.out.size l3
 clear l1 l2 l3
 go_wp2_with fail
 refine (bld_byte R tv bv4 _ _ _ 41 _ L1.out (by simp only [List.length_append, List.length_singleton]; omega)).mono ?_
 rintro e w5 ⟨rfl, bv5, q1, q2, q3⟩
 rw [← HOE.out] at q1
 have g3 := q1.cells.2.1
 have gf := q1.fro 3
 have hw5 : ((o1 : Nat) : Int) - 1 = ((o : Nat) : Int) := by have := HOE.out; omega
 have Q2 : Hid (Wr R bv.ownBlock w w5) := L2.out.trans L3.out q2
 have Q3 : Hid (Mv w bv.ownBlock bv5.ownBlock) := Mv.trans (R := R) (w' := w4) L3.out L2.out.size q3
 have Q1 := Lib.hid (q1.setO (o' := o) (by have := HOE.out; omega))
 have ho1b : o1 ≤ 100001 := by have := HOE.out; omega
 clear q1 q2 q3
 go_wp2_with fail
 first | go_end0 | refine bodyPost_ret (results_none rfl _ _ _) rfl ?_
 have e1 : out ++ [40] ++ X ++ [41] = OUT := by rw [HOUT.out]; simp
 have e2 : max (max m o1) (o1 + d) = M := by rw [HM.out, HOE.out]; omega
 have q5 := Q1.out.1
 rw [e1, e2] at q5
 exact ⟨rfl, bv5, q5, Q2.out.trans Q3.out (Q1.out.2.weak _), Mv.trans (R := R) (w' := w5) Q3.out Q2.out.size (Mv.refl _ _)⟩
end Go.Proofs.YtgfmiladfeoldaaGreatDoor
