/- Joined texts of this claim's proof: EvO, EvQ, EvS, MatC, EvT, EvU. -/
import Derived.Test.YtceggplnggkdnaaGreatDoorPk21
import Derived.Laws.EntriesVeiled
import Derived.Test.YtceggplnggkdnaaGreatDoorPk4
import Derived.Test.YtceggplnggkdnaaGreatDoorPk11
import Derived.Handy
import Derived.Deep.RegionLaw
import Derived.Deep.AppendLies
import Derived.Deep.DeepCutAuto
import Derived.Deep.CutBlock
import Derived.Deep.RegionHeld3
set_option linter.unusedSimpArgs false
set_option linter.unusedVariables false
namespace Go.Proofs.YtceggplnggkdnaaGreatDoor
open Go.RowKit NatP LexP Go.ChangeMaps
def LetP (t : SynP.Nms) (E M : Nat) (w : World) (e : Ending) (w' : World) : Prop := e = .returned (.tuple #[.slice none 0 0, .nilIface]) ∧ Tb w' E M t ∧ Wr M none w w'
theorem Tb.ne {w : World} {E M : Nat} {t : SynP.Nms} (h : Tb w E M t) : E ≠ M := by
 obtain ⟨-, h1, es, clock, h2, -⟩ := h
 intro e
 rw [e, h2] at h1
 cases h1
theorem len_map (w : World) (M clock : Nat) (es : Array MapEntry) (ty : TypeId) (hb : w.heap[M]? = some (.map es clock)) : (Builtin.len_ #[58] ty #[.map (some M)]).run Tryz.prog w = .ok (.int .i64 (es.size : Nat)) w := by
 simp [Builtin.len_, run_underlying Tryz.underlying58, MapKept.run_getObj_map hb, Result.andThen, goInt]
set_option maxRecDepth 100000 in
set_option maxHeartbeats 4000000 in
theorem whole_let (W B E M : Nat) (tv vv kv : Value) (tx : Bytes) (vs : List SynP.Vl) (k : Nat) (x : SynP.Vl) (t : SynP.Nms) (w : World) (hW : w.heap[W]? = some (.cells #[.pointer (some ⟨E, 0, none⟩), tv, vv] 67 (0, 0))) (hV : VsR w B vv vs) (hK : KdR w W kv [k])
  (hT : Tb w E M t) (hx : vs[k]? = some x) (hroom : t.length < 256) :
  Calls Tryz.prog 36 #[.pointer (some ⟨W, 0, none⟩), .agg #[.int .i64 11, .string ⟨tx.toArray⟩, kv]] w (LetP (SynP.putS t tx x) E M w) := by
 have hb := below_alloc w (.cells #[.int .i64 11, .string ⟨tx.toArray⟩, kv] 70)
 have hb0 := heap_alloc_new w (.cells #[.int .i64 11, .string ⟨tx.toArray⟩, kv] 70)
 have HB := Lib.hid hb
 have hV1 := hV.below hb
 have hT1 := hT.below hb
 have hW1 := blk_keep hb hW
 have hK1 := hK.below (hb.mono (Nat.le_of_lt (Array.getElem?_eq_some_iff.1 hW).1))
 obtain ⟨ko, kcap, rfl, -, -, -⟩ := hK
 obtain ⟨T, hT2⟩ : ∃ T : ByteArray, T = ⟨tx.toArray⟩ := ⟨_, rfl⟩
 rw [← hT2] at hb0 HB hV1 hT1 hW1 hK1 ⊢
 have HTT := Lib.hid hT2
 obtain ⟨g, hg⟩ : ∃ g, w.heap.size = g := ⟨_, rfl⟩
 obtain ⟨w1, hw1⟩ : ∃ w1, w.alloc (.cells #[.int .i64 11, .string T, .slice ko [k].length kcap] 70) = w1 := ⟨_, rfl⟩
 rw [hw1] at hb0 HB hV1 hT1 hW1 hK1
 rw [hg] at hb0
 simp only [List.length_singleton] at hw1 hb0
 obtain ⟨vg, vcap, u, hvv, v0, v1, v2⟩ := hV1.at_ hx
 subst hvv
 have HT1 := Lib.hid hT1
 have HNE := Lib.hid hT1.ne
 obtain ⟨-, t1, es, clock, t2, t3⟩ := hT1
 obtain ⟨ao', cap', ek, -, -, a3⟩ := hK1
 simp only [Value.slice.injEq] at ek
 obtain ⟨rfl, -, rfl⟩ := ek
 obtain ⟨gk, rfl, -, a4⟩ := a3 (by simp)
 have c0 : w1.cell? ⟨g, 0, none⟩ = some (.int .i64 11) := (cell_of_row _ _ _ _ _ _ hb0).trans rfl
 have c1 : w1.cell? ⟨g, 1, none⟩ = some (.string T) := (cell_of_row _ _ _ _ _ _ hb0).trans rfl
 have c2 : w1.cell? ⟨g, 2, none⟩ = some (.slice (some ⟨gk, 0, none⟩) 1 kcap) := (cell_of_row _ _ _ _ _ _ hb0).trans rfl
 have c3 : w1.cell? ⟨W, 0, none⟩ = some (.pointer (some ⟨E, 0, none⟩)) := (cell_of_row _ _ _ _ _ _ hW1).trans rfl
 have c4 : w1.cell? ⟨W, 2, none⟩ = some (.slice (some ⟨vg, 0, none⟩) vs.length vcap) := (cell_of_row _ _ _ _ _ _ hW1).trans rfl
 have c5 : w1.cell? ⟨E, 0, none⟩ = some (.map (some M)) := (cell_of_row _ _ _ _ _ _ t1).trans rfl
 have c6 : w1.cell? ⟨gk, 0, none⟩ = some (.int .i64 (k : Nat)) := a4 0 k rfl
 have hlen := len_map w1.drew M clock es 3 t2
 have hes : es.size = t.length := by have := t3.length; simpa using this
 rw [hes] at hlen
 have HV1 := Lib.hid v1
 have hgem : decide ((256 : Int) ≤ (t.length : Int)) = false := by simp; omega
 obtain ⟨es', clock', hup, hes'⟩ := run_store_s (P := Tryz.prog) (t := 58) (w := w1.drew.drew) Tryz.underlying58 Tryz.underlying9 t2 t3 tx v1
 rw [← HTT.out] at hup
 have HES := Lib.hid hes'
 have HT2 := Lib.hid t2
 have HT1' := Lib.hid t1
 rcases run_look_s (P := Tryz.prog) (t := 58) (w := w1.drew) Tryz.underlying58 Tryz.underlying9 t2 t3 (zero_if w1.drew) tx with ⟨i, u', v', a1, a2, hlk⟩ | ⟨a1, hlk⟩
 ·rw [← HTT.out] at hlk
  clear hb hb0 hW hV hV1 hW1 hT hT2 a1 a2 a3 a4 t1 t2 t3 hes hes' v1
  go_enter Tryz.func36, Tryz.ntmps36
  go_wp2_with fail
  go_region
  go_wp2_with fail
  have e1 : w1.drew.cell? ⟨g, 1, none⟩ = some (.string T) := c1
  have e2 : w1.drew.cell? ⟨g, 2, none⟩ = some (.slice (some ⟨gk, 0, none⟩) 1 kcap) := c2
  have e3 : w1.drew.cell? ⟨W, 0, none⟩ = some (.pointer (some ⟨E, 0, none⟩)) := c3
  have e4 : w1.drew.cell? ⟨W, 2, none⟩ = some (.slice (some ⟨vg, 0, none⟩) vs.length vcap) := c4
  have e5 : w1.drew.cell? ⟨E, 0, none⟩ = some (.map (some M)) := c5
  have e6 : w1.drew.cell? ⟨gk, 0, none⟩ = some (.int .i64 (k : Nat)) := c6
  have e7 : w1.drew.cell? ⟨vg, k, none⟩ = some u := v0
  have HB' : Hid (Below w.heap.size w w1.drew) := Below.drew HB.out
  have HES' : Hid (EsR (VR w1.drew) es'.toList (SynP.putS t tx x)) := HES.out.mono fun a b h => VR.below h (Below.drew (Below.refl _ _))
  have HT2' : Hid (w1.drew.heap[M]? = some (.map es clock)) := HT2.out
  have HT1b : Hid (w1.drew.heap[E]? = some (.cells #[.map (some M)] 60 (0, 0))) := HT1'.out
  have HLT := Lib.hid HT1.out.1
  clear c0 c1 c2 c3 c4 c5 c6 v0 HB HES HT2 HT1' HT1 hlk hlen
  clear hw1
  generalize w1.drew = w2 at *
  go_still_tail 19, (by kernel_rfl)
  change wpList _ _ _ _ _ w2.drew
  go_wp2_with fail
  go_ret2
  have hgr : w2.grownBy (ChangeMaps.setBlock w2.drew M (.map es' clock')) (some M) := by
   have h := grown_setBlock (w := w2.drew) (es := es) (clock := clock) HT2'.out (.map es' clock')
   exact ⟨h.os, h.tape, h.output, h.size, h.block⟩
  have hwr : Wr M none w (ChangeMaps.setBlock w2.drew M (.map es' clock')) :=
   ⟨hgr.os.trans HB'.out.os, hgr.tape.trans HB'.out.tape, hgr.output.trans HB'.out.output, Nat.le_trans HB'.out.size hgr.size, fun q hq h1 _ => (hgr.block q (Nat.lt_of_lt_of_le hq HB'.out.size) (by simpa using h1)).trans (HB'.out.block q hq)⟩
  refine ⟨rfl, ⟨HLT.out, ?_, es', clock', heap_setBlock_same (w := w2.drew) HT2'.out _, HES'.out.mono fun a b h => VR.ck h (Ck.grown HT2'.out hgr)⟩, hwr⟩
  exact (heap_setBlock_other (w := w2.drew) HT2'.out _ HNE.out).trans HT1b.out
 ·rw [← HTT.out] at hlk
  clear hb hb0 hW hV hV1 hW1 hT hT2 a1 a3 a4 t1 t2 t3 hes hes' v1
  go_enter Tryz.func36, Tryz.ntmps36
  go_wp2_with fail
  go_region
  go_wp2_with fail
  have e1 : w1.drew.cell? ⟨g, 1, none⟩ = some (.string T) := c1
  have e2 : w1.drew.cell? ⟨g, 2, none⟩ = some (.slice (some ⟨gk, 0, none⟩) 1 kcap) := c2
  have e3 : w1.drew.cell? ⟨W, 0, none⟩ = some (.pointer (some ⟨E, 0, none⟩)) := c3
  have e4 : w1.drew.cell? ⟨W, 2, none⟩ = some (.slice (some ⟨vg, 0, none⟩) vs.length vcap) := c4
  have e5 : w1.drew.cell? ⟨E, 0, none⟩ = some (.map (some M)) := c5
  have e6 : w1.drew.cell? ⟨gk, 0, none⟩ = some (.int .i64 (k : Nat)) := c6
  have e7 : w1.drew.cell? ⟨vg, k, none⟩ = some u := v0
  have HB' : Hid (Below w.heap.size w w1.drew) := Below.drew HB.out
  have HES' : Hid (EsR (VR w1.drew) es'.toList (SynP.putS t tx x)) := HES.out.mono fun a b h => VR.below h (Below.drew (Below.refl _ _))
  have HT2' : Hid (w1.drew.heap[M]? = some (.map es clock)) := HT2.out
  have HT1b : Hid (w1.drew.heap[E]? = some (.cells #[.map (some M)] 60 (0, 0))) := HT1'.out
  have HLT := Lib.hid HT1.out.1
  clear c0 c1 c2 c3 c4 c5 c6 v0 HB HES HT2 HT1' HT1 hlk hlen
  clear hw1
  generalize w1.drew = w2 at *
  go_still_tail 19, (by kernel_rfl)
  change wpList _ _ _ _ _ w2.drew
  go_wp2_with fail
  go_ret2
  have hgr : w2.grownBy (ChangeMaps.setBlock w2.drew M (.map es' clock')) (some M) := by
   have h := grown_setBlock (w := w2.drew) (es := es) (clock := clock) HT2'.out (.map es' clock')
   exact ⟨h.os, h.tape, h.output, h.size, h.block⟩
  have hwr : Wr M none w (ChangeMaps.setBlock w2.drew M (.map es' clock')) :=
   ⟨hgr.os.trans HB'.out.os, hgr.tape.trans HB'.out.tape, hgr.output.trans HB'.out.output, Nat.le_trans HB'.out.size hgr.size, fun q hq h1 _ => (hgr.block q (Nat.lt_of_lt_of_le hq HB'.out.size) (by simpa using h1)).trans (HB'.out.block q hq)⟩
  refine ⟨rfl, ⟨HLT.out, ?_, es', clock', heap_setBlock_same (w := w2.drew) HT2'.out _, HES'.out.mono fun a b h => VR.ck h (Ck.grown HT2'.out hgr)⟩, hwr⟩
  exact (heap_setBlock_other (w := w2.drew) HT2'.out _ HNE.out).trans HT1b.out
end Go.Proofs.YtceggplnggkdnaaGreatDoor
namespace Go.Proofs.YtceggplnggkdnaaGreatDoor
open Go.RowKit NatP LexP Go.ChangeMaps
def cmdsL : List (Bytes × Option Value) := [
 ([112, 114, 105, 110, 116], some (.agg #[.string ⟨#[86]⟩, .func (.func 124) #[] #[]])),
 ([109, 111, 100, 104, 110, 102], none),
 ([115, 110, 102], none),
 ([107, 101, 114, 110, 101, 108], none),
 ([105, 109, 97, 103, 101], none),
 ([115, 97, 109, 101], none),
 ([105, 110, 115, 105, 100, 101], none),
 ([100, 101, 116], some (.agg #[.string ⟨#[77]⟩, .func (.func 134) #[] #[]])),
 ([114, 97, 110, 107], some (.agg #[.string ⟨#[77]⟩, .func (.func 135) #[] #[]])),
 ([112, 105, 118, 111, 116, 115], some (.agg #[.string ⟨#[77]⟩, .func (.func 136) #[] #[]])),
 ([99, 104, 97, 114], some (.agg #[.string ⟨#[77]⟩, .func (.func 137) #[] #[]])),
 ([104, 110, 102], some (.agg #[.string ⟨#[77]⟩, .func (.func 138) #[] #[]])),
 ([115, 109, 105, 116, 104], some (.agg #[.string ⟨#[77]⟩, .func (.func 139) #[] #[]])),
 ([102, 97, 99, 116, 111, 114, 115], some (.agg #[.string ⟨#[77]⟩, .func (.func 140) #[] #[]])),
 ([103, 114, 111, 117, 112], some (.agg #[.string ⟨#[77]⟩, .func (.func 141) #[] #[]])),
 ([115, 111, 108, 118, 101], some (.agg #[.string ⟨#[77, 82]⟩, .func (.func 142) #[] #[]])),
 ([114, 101, 102, 117, 116, 101], some (.agg #[.string ⟨#[77, 82]⟩, .func (.func 143) #[] #[]])),
 ([105, 110, 100, 101, 120], some (.agg #[.string ⟨#[77, 77]⟩, .func (.func 144) #[] #[]])),
 ([114, 101, 112], some (.agg #[.string ⟨#[77, 82]⟩, .func (.func 145) #[] #[]])),
 ([111, 114, 100, 101, 114], some (.agg #[.string ⟨#[77, 82]⟩, .func (.func 146) #[] #[]])),
 ([108, 108, 108], some (.agg #[.string ⟨#[77]⟩, .func (.func 147) #[] #[]])),
 ([115, 104, 111, 114, 116, 101, 115, 116], some (.agg #[.string ⟨#[77]⟩, .func (.func 148) #[] #[]])),
 ([114, 114, 101, 102], some (.agg #[.string ⟨#[77]⟩, .func (.func 149) #[] #[]])),
 ([105, 110, 118, 101, 114, 115, 101], some (.agg #[.string ⟨#[77]⟩, .func (.func 150) #[] #[]])),
 ([104, 111, 109, 111, 108, 111, 103, 121], some (.agg #[.string ⟨#[67]⟩, .func (.func 151) #[] #[]])),
 ([98, 101, 116, 116, 105], some (.agg #[.string ⟨#[67]⟩, .func (.func 152) #[] #[]])),
 ([98, 101, 116, 116, 105, 109, 111, 100], some (.agg #[.string ⟨#[67, 110]⟩, .func (.func 153) #[] #[]])),
 ([101, 117, 108, 101, 114], some (.agg #[.string ⟨#[67]⟩, .func (.func 154) #[] #[]])),
 ([99, 104, 97, 105, 110], some (.agg #[.string ⟨#[77, 77]⟩, .func (.func 155) #[] #[]])),
 ([97, 112, 112, 114, 111, 120], some (.agg #[.string ⟨#[65]⟩, .func (.func 156) #[] #[]])),
 ([115, 99, 105], some (.agg #[.string ⟨#[78, 110]⟩, .func (.func 157) #[] #[]]))]
def IsV (v : Value) (x : Option Value) : Prop := ∀ y, x = some y → v = y
def CmR (w : World) (b : Nat) (xs : List (Bytes × Option Value)) : Prop := ∃ es clock, w.heap[b]? = some (.map es clock) ∧ EsR IsV es.toList xs
theorem CmR.below {w w' : World} {b : Nat} {xs : List (Bytes × Option Value)} (h : CmR w b xs) (hb : Below w.heap.size w w') : CmR w' b xs := by
 obtain ⟨es, clock, h1, h2⟩ := h
 exact ⟨es, clock, blk_keep hb h1, h2⟩
theorem ins_run {w : World} {b : Nat} (i : Nat) (h : CmR w b (cmdsL.take i)) (key : ByteArray) (val : Value) (u : Option Value) (hk : SynP.putS (cmdsL.take i) key.data.toList u = cmdsL.take (i + 1)) (hval : IsV val u) :
  ∃ w', (Instr.mapUpdate 140 (.map (some b)) (.string key) val).run Tryz.prog w = .ok () w' ∧ CmR w' b (cmdsL.take (i + 1)) ∧ w.grownBy w' (some b) := by
 obtain ⟨es, clock, h1, h2⟩ := h
 obtain ⟨es', clock', hrun, h3⟩ := run_store_s (P := Tryz.prog) (t := 140) Tryz.underlying140 Tryz.underlying9 h1 h2 key.data.toList hval
 rw [hk] at h3
 exact ⟨_, hrun, ⟨es', clock', heap_setBlock_same h1 _, h3⟩, grown_setBlock h1 _⟩
theorem al2t (w : World) (c0 c1 : Array Value) (t0 t1 : TypeId) : ∃ g w0, w.heap.size = g ∧ (w.alloc (.cells c0 t0)).alloc (.cells c1 t1) = w0 ∧ Below w.heap.size w w0 ∧ w0.heap[g]? = some (.cells c0 t0 (0, 0)) ∧ w0.heap[g + 1]? = some (.cells c1 t1 (0, 0)) := by
 have a1 := below_alloc w (.cells c0 t0)
 have a2 := below_alloc (w.alloc (.cells c0 t0)) (.cells c1 t1)
 have n1 := heap_alloc_new w (.cells c0 t0)
 have n2 := heap_alloc_new (w.alloc (.cells c0 t0)) (.cells c1 t1)
 rw [World.size_alloc] at n2
 exact ⟨_, _, rfl, rfl, a1.trans (a2.mono a1.size), (a2.block _ (by simp)).trans n1, n2⟩
set_option maxRecDepth 100000 in
theorem grids_any (F : FuncId) (w : World) : Calls Tryz.prog 126 #[.func (.func F) #[] #[]] w fun e w' => (∃ a b, e = .returned (.agg #[a, b])) ∧ Below w.heap.size w w' := by
 have hmf : ∀ (fn : Fn) (first cap : Array Value) (w : World), (Instr.makeFunc fn first cap).run Tryz.prog w = .ok (.func fn first cap) w := fun _ _ _ _ => rfl
 obtain ⟨g, w0, hg, hw0, hB0, hb0, hb1⟩ := al2t w #[.func (.func F) #[] #[]] #[.string ⟨#[]⟩, .nilFunc] 179 138
 have c0 : w0.cell? ⟨g + 1, 0, none⟩ = some (.string ⟨#[]⟩) := (cell_of_row _ _ _ _ _ _ hb1).trans rfl
 have c1 : w0.cell? ⟨g + 1, 1, none⟩ = some .nilFunc := (cell_of_row _ _ _ _ _ _ hb1).trans rfl
 have f0 : w0.frozen? ⟨g + 1, 0, none⟩ = false := frozen_of_row w0 _ 0 _ _ hb1
 have f1 : w0.frozen? ⟨g + 1, 1, none⟩ = false := frozen_of_row w0 _ 1 _ _ hb1
 have HB := Lib.hid hB0
 have HB1 := Lib.hid hb1
 clear hB0 hb0 hb1
 go_enter Tryz.func126, Tryz.ntmps126
 go_wp2_with fail
 have s1 := heap_setCell_same w0 (g + 1) 0 _ 138 (.string ⟨#[77]⟩) HB1.out
 have s2 := heap_setCell_same _ (g + 1) 1 _ 138 (.func (.func 244) #[] #[.pointer (some ⟨g, 0, none⟩)]) s1
 refine bodyPost_ret (results_cell_row rfl _ _ (g + 1) 138 _ _ _ rfl s2 Tryz.underlying138 rfl (by kernel_rfl)) rfl ?_
 exact ⟨⟨_, _, rfl⟩, below_set2 HB.out (by omega)⟩
set_option maxRecDepth 100000 in
theorem asks_any (F : FuncId) (w : World) : Calls Tryz.prog 131 #[.func (.func F) #[] #[]] w fun e w' => (∃ a b, e = .returned (.agg #[a, b])) ∧ Below w.heap.size w w' := by
 have hmf : ∀ (fn : Fn) (first cap : Array Value) (w : World), (Instr.makeFunc fn first cap).run Tryz.prog w = .ok (.func fn first cap) w := fun _ _ _ _ => rfl
 obtain ⟨g, w0, hg, hw0, hB0, hb0, hb1⟩ := al2t w #[.func (.func F) #[] #[]] #[.string ⟨#[]⟩, .nilFunc] 212 138
 have c0 : w0.cell? ⟨g + 1, 0, none⟩ = some (.string ⟨#[]⟩) := (cell_of_row _ _ _ _ _ _ hb1).trans rfl
 have c1 : w0.cell? ⟨g + 1, 1, none⟩ = some .nilFunc := (cell_of_row _ _ _ _ _ _ hb1).trans rfl
 have f0 : w0.frozen? ⟨g + 1, 0, none⟩ = false := frozen_of_row w0 _ 0 _ _ hb1
 have f1 : w0.frozen? ⟨g + 1, 1, none⟩ = false := frozen_of_row w0 _ 1 _ _ hb1
 have HB := Lib.hid hB0
 have HB1 := Lib.hid hb1
 clear hB0 hb0 hb1
 go_enter Tryz.func131, Tryz.ntmps131
 go_wp2_with fail
 have s1 := heap_setCell_same w0 (g + 1) 0 _ 138 (.string ⟨#[77, 77]⟩) HB1.out
 have s2 := heap_setCell_same _ (g + 1) 1 _ 138 (.func (.func 257) #[] #[.pointer (some ⟨g, 0, none⟩)]) s1
 refine bodyPost_ret (results_cell_row rfl _ _ (g + 1) 138 _ _ _ rfl s2 Tryz.underlying138 rfl (by kernel_rfl)) rfl ?_
 exact ⟨⟨_, _, rfl⟩, below_set2 HB.out (by omega)⟩
set_option maxRecDepth 100000 in
set_option maxHeartbeats 8000000 in
theorem commands_any (w : World) : Calls Tryz.prog 67 #[] w fun e w' => ∃ b, e = .returned (.map (some b)) ∧ CmR w' b cmdsL ∧ Below w.heap.size w w' := by
 have hmm : ∀ w : World, (Instr.makeMap 140 none).run Tryz.prog w = .ok (.map (some w.heap.size)) (w.alloc (.map #[] 0)) := fun _ => rfl
 obtain ⟨b, hb⟩ : ∃ b, w.heap.size = b := ⟨_, rfl⟩
 obtain ⟨w1, hw1⟩ : ∃ w1, w.alloc (.map #[] 0) = w1 := ⟨_, rfl⟩
 have hcm : CmR w1 b (cmdsL.take 0) := ⟨#[], 0, by rw [← hw1, ← hb]; exact heap_alloc_new w _, trivial⟩
 have hbw : Below w.heap.size w w1 := by rw [← hw1]; exact below_alloc w _
 have HCM := Lib.hid hcm
 have HBW := Lib.hid hbw
 clear hcm hbw
 go_enter Tryz.func67, Tryz.ntmps67
 obtain ⟨w2, hrun, hcm, hgr⟩ := ins_run 0 HCM.out ⟨#[112, 114, 105, 110, 116]⟩ (.agg #[.string ⟨#[86]⟩, .func (.func 124) #[] #[]]) (some (.agg #[.string ⟨#[86]⟩, .func (.func 124) #[] #[]])) (by kernel_rfl) (fun y e => by cases e; rfl)
 have hbw := Below.grown HBW.out hgr HBW.out.size (fun q hq => by cases hq; exact Nat.le_of_eq hb)
 clear HCM HBW hgr
 have HCM := Lib.hid hcm
 have HBW := Lib.hid hbw
 clear hcm hbw
 go_wp2_with fail
 refine (grids_any 127 _).mono ?_
 rintro e w3 ⟨⟨a1, b1, rfl⟩, hb3⟩
 have hcm := HCM.out.below hb3
 have hbw := HBW.out.trans (hb3.mono HBW.out.size)
 clear HCM HBW hb3
 have HCM := Lib.hid hcm
 have HBW := Lib.hid hbw
 clear hcm hbw
 obtain ⟨w2, hrun, hcm, hgr⟩ := ins_run 1 HCM.out ⟨#[109, 111, 100, 104, 110, 102]⟩ (.agg #[a1, b1]) none (by kernel_rfl) (fun y e => by cases e)
 have hbw := Below.grown HBW.out hgr HBW.out.size (fun q hq => by cases hq; exact Nat.le_of_eq hb)
 clear HCM HBW hgr
 have HCM := Lib.hid hcm
 have HBW := Lib.hid hbw
 clear hcm hbw
 go_wp2_with fail
 refine (grids_any 128 _).mono ?_
 rintro e w3 ⟨⟨a2, b2, rfl⟩, hb3⟩
 have hcm := HCM.out.below hb3
 have hbw := HBW.out.trans (hb3.mono HBW.out.size)
 clear HCM HBW hb3
 have HCM := Lib.hid hcm
 have HBW := Lib.hid hbw
 clear hcm hbw
 obtain ⟨w2, hrun, hcm, hgr⟩ := ins_run 2 HCM.out ⟨#[115, 110, 102]⟩ (.agg #[a2, b2]) none (by kernel_rfl) (fun y e => by cases e)
 have hbw := Below.grown HBW.out hgr HBW.out.size (fun q hq => by cases hq; exact Nat.le_of_eq hb)
 clear HCM HBW hgr
 have HCM := Lib.hid hcm
 have HBW := Lib.hid hbw
 clear hcm hbw
 go_wp2_with fail
 refine (grids_any 129 _).mono ?_
 rintro e w3 ⟨⟨a3, b3, rfl⟩, hb3⟩
 have hcm := HCM.out.below hb3
 have hbw := HBW.out.trans (hb3.mono HBW.out.size)
 clear HCM HBW hb3
 have HCM := Lib.hid hcm
 have HBW := Lib.hid hbw
 clear hcm hbw
 obtain ⟨w2, hrun, hcm, hgr⟩ := ins_run 3 HCM.out ⟨#[107, 101, 114, 110, 101, 108]⟩ (.agg #[a3, b3]) none (by kernel_rfl) (fun y e => by cases e)
 have hbw := Below.grown HBW.out hgr HBW.out.size (fun q hq => by cases hq; exact Nat.le_of_eq hb)
 clear HCM HBW hgr
 have HCM := Lib.hid hcm
 have HBW := Lib.hid hbw
 clear hcm hbw
 go_wp2_with fail
 refine (grids_any 130 _).mono ?_
 rintro e w3 ⟨⟨a4, b4, rfl⟩, hb3⟩
 have hcm := HCM.out.below hb3
 have hbw := HBW.out.trans (hb3.mono HBW.out.size)
 clear HCM HBW hb3
 have HCM := Lib.hid hcm
 have HBW := Lib.hid hbw
 clear hcm hbw
 obtain ⟨w2, hrun, hcm, hgr⟩ := ins_run 4 HCM.out ⟨#[105, 109, 97, 103, 101]⟩ (.agg #[a4, b4]) none (by kernel_rfl) (fun y e => by cases e)
 have hbw := Below.grown HBW.out hgr HBW.out.size (fun q hq => by cases hq; exact Nat.le_of_eq hb)
 clear HCM HBW hgr
 have HCM := Lib.hid hcm
 have HBW := Lib.hid hbw
 clear hcm hbw
 go_wp2_with fail
 refine (asks_any 132 _).mono ?_
 rintro e w3 ⟨⟨a5, b5, rfl⟩, hb3⟩
 have hcm := HCM.out.below hb3
 have hbw := HBW.out.trans (hb3.mono HBW.out.size)
 clear HCM HBW hb3
 have HCM := Lib.hid hcm
 have HBW := Lib.hid hbw
 clear hcm hbw
 obtain ⟨w2, hrun, hcm, hgr⟩ := ins_run 5 HCM.out ⟨#[115, 97, 109, 101]⟩ (.agg #[a5, b5]) none (by kernel_rfl) (fun y e => by cases e)
 have hbw := Below.grown HBW.out hgr HBW.out.size (fun q hq => by cases hq; exact Nat.le_of_eq hb)
 clear HCM HBW hgr
 have HCM := Lib.hid hcm
 have HBW := Lib.hid hbw
 clear hcm hbw
 go_wp2_with fail
 refine (asks_any 133 _).mono ?_
 rintro e w3 ⟨⟨a6, b6, rfl⟩, hb3⟩
 have hcm := HCM.out.below hb3
 have hbw := HBW.out.trans (hb3.mono HBW.out.size)
 clear HCM HBW hb3
 have HCM := Lib.hid hcm
 have HBW := Lib.hid hbw
 clear hcm hbw
 obtain ⟨w2, hrun, hcm, hgr⟩ := ins_run 6 HCM.out ⟨#[105, 110, 115, 105, 100, 101]⟩ (.agg #[a6, b6]) none (by kernel_rfl) (fun y e => by cases e)
 have hbw := Below.grown HBW.out hgr HBW.out.size (fun q hq => by cases hq; exact Nat.le_of_eq hb)
 clear HCM HBW hgr
 have HCM := Lib.hid hcm
 have HBW := Lib.hid hbw
 clear hcm hbw
 obtain ⟨w2, hrun, hcm, hgr⟩ := ins_run 7 HCM.out ⟨#[100, 101, 116]⟩ (.agg #[.string ⟨#[77]⟩, .func (.func 134) #[] #[]]) (some (.agg #[.string ⟨#[77]⟩, .func (.func 134) #[] #[]])) (by kernel_rfl) (fun y e => by cases e; rfl)
 have hbw := Below.grown HBW.out hgr HBW.out.size (fun q hq => by cases hq; exact Nat.le_of_eq hb)
 clear HCM HBW hgr
 have HCM := Lib.hid hcm
 have HBW := Lib.hid hbw
 clear hcm hbw
 obtain ⟨w2, hrun, hcm, hgr⟩ := ins_run 8 HCM.out ⟨#[114, 97, 110, 107]⟩ (.agg #[.string ⟨#[77]⟩, .func (.func 135) #[] #[]]) (some (.agg #[.string ⟨#[77]⟩, .func (.func 135) #[] #[]])) (by kernel_rfl) (fun y e => by cases e; rfl)
 have hbw := Below.grown HBW.out hgr HBW.out.size (fun q hq => by cases hq; exact Nat.le_of_eq hb)
 clear HCM HBW hgr
 have HCM := Lib.hid hcm
 have HBW := Lib.hid hbw
 clear hcm hbw
 obtain ⟨w2, hrun, hcm, hgr⟩ := ins_run 9 HCM.out ⟨#[112, 105, 118, 111, 116, 115]⟩ (.agg #[.string ⟨#[77]⟩, .func (.func 136) #[] #[]]) (some (.agg #[.string ⟨#[77]⟩, .func (.func 136) #[] #[]])) (by kernel_rfl) (fun y e => by cases e; rfl)
 have hbw := Below.grown HBW.out hgr HBW.out.size (fun q hq => by cases hq; exact Nat.le_of_eq hb)
 clear HCM HBW hgr
 have HCM := Lib.hid hcm
 have HBW := Lib.hid hbw
 clear hcm hbw
 obtain ⟨w2, hrun, hcm, hgr⟩ := ins_run 10 HCM.out ⟨#[99, 104, 97, 114]⟩ (.agg #[.string ⟨#[77]⟩, .func (.func 137) #[] #[]]) (some (.agg #[.string ⟨#[77]⟩, .func (.func 137) #[] #[]])) (by kernel_rfl) (fun y e => by cases e; rfl)
 have hbw := Below.grown HBW.out hgr HBW.out.size (fun q hq => by cases hq; exact Nat.le_of_eq hb)
 clear HCM HBW hgr
 have HCM := Lib.hid hcm
 have HBW := Lib.hid hbw
 clear hcm hbw
 obtain ⟨w2, hrun, hcm, hgr⟩ := ins_run 11 HCM.out ⟨#[104, 110, 102]⟩ (.agg #[.string ⟨#[77]⟩, .func (.func 138) #[] #[]]) (some (.agg #[.string ⟨#[77]⟩, .func (.func 138) #[] #[]])) (by kernel_rfl) (fun y e => by cases e; rfl)
 have hbw := Below.grown HBW.out hgr HBW.out.size (fun q hq => by cases hq; exact Nat.le_of_eq hb)
 clear HCM HBW hgr
 have HCM := Lib.hid hcm
 have HBW := Lib.hid hbw
 clear hcm hbw
 obtain ⟨w2, hrun, hcm, hgr⟩ := ins_run 12 HCM.out ⟨#[115, 109, 105, 116, 104]⟩ (.agg #[.string ⟨#[77]⟩, .func (.func 139) #[] #[]]) (some (.agg #[.string ⟨#[77]⟩, .func (.func 139) #[] #[]])) (by kernel_rfl) (fun y e => by cases e; rfl)
 have hbw := Below.grown HBW.out hgr HBW.out.size (fun q hq => by cases hq; exact Nat.le_of_eq hb)
 clear HCM HBW hgr
 have HCM := Lib.hid hcm
 have HBW := Lib.hid hbw
 clear hcm hbw
 obtain ⟨w2, hrun, hcm, hgr⟩ := ins_run 13 HCM.out ⟨#[102, 97, 99, 116, 111, 114, 115]⟩ (.agg #[.string ⟨#[77]⟩, .func (.func 140) #[] #[]]) (some (.agg #[.string ⟨#[77]⟩, .func (.func 140) #[] #[]])) (by kernel_rfl) (fun y e => by cases e; rfl)
 have hbw := Below.grown HBW.out hgr HBW.out.size (fun q hq => by cases hq; exact Nat.le_of_eq hb)
 clear HCM HBW hgr
 have HCM := Lib.hid hcm
 have HBW := Lib.hid hbw
 clear hcm hbw
 obtain ⟨w2, hrun, hcm, hgr⟩ := ins_run 14 HCM.out ⟨#[103, 114, 111, 117, 112]⟩ (.agg #[.string ⟨#[77]⟩, .func (.func 141) #[] #[]]) (some (.agg #[.string ⟨#[77]⟩, .func (.func 141) #[] #[]])) (by kernel_rfl) (fun y e => by cases e; rfl)
 have hbw := Below.grown HBW.out hgr HBW.out.size (fun q hq => by cases hq; exact Nat.le_of_eq hb)
 clear HCM HBW hgr
 have HCM := Lib.hid hcm
 have HBW := Lib.hid hbw
 clear hcm hbw
 obtain ⟨w2, hrun, hcm, hgr⟩ := ins_run 15 HCM.out ⟨#[115, 111, 108, 118, 101]⟩ (.agg #[.string ⟨#[77, 82]⟩, .func (.func 142) #[] #[]]) (some (.agg #[.string ⟨#[77, 82]⟩, .func (.func 142) #[] #[]])) (by kernel_rfl) (fun y e => by cases e; rfl)
 have hbw := Below.grown HBW.out hgr HBW.out.size (fun q hq => by cases hq; exact Nat.le_of_eq hb)
 clear HCM HBW hgr
 have HCM := Lib.hid hcm
 have HBW := Lib.hid hbw
 clear hcm hbw
 obtain ⟨w2, hrun, hcm, hgr⟩ := ins_run 16 HCM.out ⟨#[114, 101, 102, 117, 116, 101]⟩ (.agg #[.string ⟨#[77, 82]⟩, .func (.func 143) #[] #[]]) (some (.agg #[.string ⟨#[77, 82]⟩, .func (.func 143) #[] #[]])) (by kernel_rfl) (fun y e => by cases e; rfl)
 have hbw := Below.grown HBW.out hgr HBW.out.size (fun q hq => by cases hq; exact Nat.le_of_eq hb)
 clear HCM HBW hgr
 have HCM := Lib.hid hcm
 have HBW := Lib.hid hbw
 clear hcm hbw
 obtain ⟨w2, hrun, hcm, hgr⟩ := ins_run 17 HCM.out ⟨#[105, 110, 100, 101, 120]⟩ (.agg #[.string ⟨#[77, 77]⟩, .func (.func 144) #[] #[]]) (some (.agg #[.string ⟨#[77, 77]⟩, .func (.func 144) #[] #[]])) (by kernel_rfl) (fun y e => by cases e; rfl)
 have hbw := Below.grown HBW.out hgr HBW.out.size (fun q hq => by cases hq; exact Nat.le_of_eq hb)
 clear HCM HBW hgr
 have HCM := Lib.hid hcm
 have HBW := Lib.hid hbw
 clear hcm hbw
 obtain ⟨w2, hrun, hcm, hgr⟩ := ins_run 18 HCM.out ⟨#[114, 101, 112]⟩ (.agg #[.string ⟨#[77, 82]⟩, .func (.func 145) #[] #[]]) (some (.agg #[.string ⟨#[77, 82]⟩, .func (.func 145) #[] #[]])) (by kernel_rfl) (fun y e => by cases e; rfl)
 have hbw := Below.grown HBW.out hgr HBW.out.size (fun q hq => by cases hq; exact Nat.le_of_eq hb)
 clear HCM HBW hgr
 have HCM := Lib.hid hcm
 have HBW := Lib.hid hbw
 clear hcm hbw
 obtain ⟨w2, hrun, hcm, hgr⟩ := ins_run 19 HCM.out ⟨#[111, 114, 100, 101, 114]⟩ (.agg #[.string ⟨#[77, 82]⟩, .func (.func 146) #[] #[]]) (some (.agg #[.string ⟨#[77, 82]⟩, .func (.func 146) #[] #[]])) (by kernel_rfl) (fun y e => by cases e; rfl)
 have hbw := Below.grown HBW.out hgr HBW.out.size (fun q hq => by cases hq; exact Nat.le_of_eq hb)
 clear HCM HBW hgr
 have HCM := Lib.hid hcm
 have HBW := Lib.hid hbw
 clear hcm hbw
 obtain ⟨w2, hrun, hcm, hgr⟩ := ins_run 20 HCM.out ⟨#[108, 108, 108]⟩ (.agg #[.string ⟨#[77]⟩, .func (.func 147) #[] #[]]) (some (.agg #[.string ⟨#[77]⟩, .func (.func 147) #[] #[]])) (by kernel_rfl) (fun y e => by cases e; rfl)
 have hbw := Below.grown HBW.out hgr HBW.out.size (fun q hq => by cases hq; exact Nat.le_of_eq hb)
 clear HCM HBW hgr
 have HCM := Lib.hid hcm
 have HBW := Lib.hid hbw
 clear hcm hbw
 obtain ⟨w2, hrun, hcm, hgr⟩ := ins_run 21 HCM.out ⟨#[115, 104, 111, 114, 116, 101, 115, 116]⟩ (.agg #[.string ⟨#[77]⟩, .func (.func 148) #[] #[]]) (some (.agg #[.string ⟨#[77]⟩, .func (.func 148) #[] #[]])) (by kernel_rfl) (fun y e => by cases e; rfl)
 have hbw := Below.grown HBW.out hgr HBW.out.size (fun q hq => by cases hq; exact Nat.le_of_eq hb)
 clear HCM HBW hgr
 have HCM := Lib.hid hcm
 have HBW := Lib.hid hbw
 clear hcm hbw
 obtain ⟨w2, hrun, hcm, hgr⟩ := ins_run 22 HCM.out ⟨#[114, 114, 101, 102]⟩ (.agg #[.string ⟨#[77]⟩, .func (.func 149) #[] #[]]) (some (.agg #[.string ⟨#[77]⟩, .func (.func 149) #[] #[]])) (by kernel_rfl) (fun y e => by cases e; rfl)
 have hbw := Below.grown HBW.out hgr HBW.out.size (fun q hq => by cases hq; exact Nat.le_of_eq hb)
 clear HCM HBW hgr
 have HCM := Lib.hid hcm
 have HBW := Lib.hid hbw
 clear hcm hbw
 obtain ⟨w2, hrun, hcm, hgr⟩ := ins_run 23 HCM.out ⟨#[105, 110, 118, 101, 114, 115, 101]⟩ (.agg #[.string ⟨#[77]⟩, .func (.func 150) #[] #[]]) (some (.agg #[.string ⟨#[77]⟩, .func (.func 150) #[] #[]])) (by kernel_rfl) (fun y e => by cases e; rfl)
 have hbw := Below.grown HBW.out hgr HBW.out.size (fun q hq => by cases hq; exact Nat.le_of_eq hb)
 clear HCM HBW hgr
 have HCM := Lib.hid hcm
 have HBW := Lib.hid hbw
 clear hcm hbw
 obtain ⟨w2, hrun, hcm, hgr⟩ := ins_run 24 HCM.out ⟨#[104, 111, 109, 111, 108, 111, 103, 121]⟩ (.agg #[.string ⟨#[67]⟩, .func (.func 151) #[] #[]]) (some (.agg #[.string ⟨#[67]⟩, .func (.func 151) #[] #[]])) (by kernel_rfl) (fun y e => by cases e; rfl)
 have hbw := Below.grown HBW.out hgr HBW.out.size (fun q hq => by cases hq; exact Nat.le_of_eq hb)
 clear HCM HBW hgr
 have HCM := Lib.hid hcm
 have HBW := Lib.hid hbw
 clear hcm hbw
 obtain ⟨w2, hrun, hcm, hgr⟩ := ins_run 25 HCM.out ⟨#[98, 101, 116, 116, 105]⟩ (.agg #[.string ⟨#[67]⟩, .func (.func 152) #[] #[]]) (some (.agg #[.string ⟨#[67]⟩, .func (.func 152) #[] #[]])) (by kernel_rfl) (fun y e => by cases e; rfl)
 have hbw := Below.grown HBW.out hgr HBW.out.size (fun q hq => by cases hq; exact Nat.le_of_eq hb)
 clear HCM HBW hgr
 have HCM := Lib.hid hcm
 have HBW := Lib.hid hbw
 clear hcm hbw
 obtain ⟨w2, hrun, hcm, hgr⟩ := ins_run 26 HCM.out ⟨#[98, 101, 116, 116, 105, 109, 111, 100]⟩ (.agg #[.string ⟨#[67, 110]⟩, .func (.func 153) #[] #[]]) (some (.agg #[.string ⟨#[67, 110]⟩, .func (.func 153) #[] #[]])) (by kernel_rfl) (fun y e => by cases e; rfl)
 have hbw := Below.grown HBW.out hgr HBW.out.size (fun q hq => by cases hq; exact Nat.le_of_eq hb)
 clear HCM HBW hgr
 have HCM := Lib.hid hcm
 have HBW := Lib.hid hbw
 clear hcm hbw
 obtain ⟨w2, hrun, hcm, hgr⟩ := ins_run 27 HCM.out ⟨#[101, 117, 108, 101, 114]⟩ (.agg #[.string ⟨#[67]⟩, .func (.func 154) #[] #[]]) (some (.agg #[.string ⟨#[67]⟩, .func (.func 154) #[] #[]])) (by kernel_rfl) (fun y e => by cases e; rfl)
 have hbw := Below.grown HBW.out hgr HBW.out.size (fun q hq => by cases hq; exact Nat.le_of_eq hb)
 clear HCM HBW hgr
 have HCM := Lib.hid hcm
 have HBW := Lib.hid hbw
 clear hcm hbw
 obtain ⟨w2, hrun, hcm, hgr⟩ := ins_run 28 HCM.out ⟨#[99, 104, 97, 105, 110]⟩ (.agg #[.string ⟨#[77, 77]⟩, .func (.func 155) #[] #[]]) (some (.agg #[.string ⟨#[77, 77]⟩, .func (.func 155) #[] #[]])) (by kernel_rfl) (fun y e => by cases e; rfl)
 have hbw := Below.grown HBW.out hgr HBW.out.size (fun q hq => by cases hq; exact Nat.le_of_eq hb)
 clear HCM HBW hgr
 have HCM := Lib.hid hcm
 have HBW := Lib.hid hbw
 clear hcm hbw
 obtain ⟨w2, hrun, hcm, hgr⟩ := ins_run 29 HCM.out ⟨#[97, 112, 112, 114, 111, 120]⟩ (.agg #[.string ⟨#[65]⟩, .func (.func 156) #[] #[]]) (some (.agg #[.string ⟨#[65]⟩, .func (.func 156) #[] #[]])) (by kernel_rfl) (fun y e => by cases e; rfl)
 have hbw := Below.grown HBW.out hgr HBW.out.size (fun q hq => by cases hq; exact Nat.le_of_eq hb)
 clear HCM HBW hgr
 have HCM := Lib.hid hcm
 have HBW := Lib.hid hbw
 clear hcm hbw
 obtain ⟨w2, hrun, hcm, hgr⟩ := ins_run 30 HCM.out ⟨#[115, 99, 105]⟩ (.agg #[.string ⟨#[78, 110]⟩, .func (.func 157) #[] #[]]) (some (.agg #[.string ⟨#[78, 110]⟩, .func (.func 157) #[] #[]])) (by kernel_rfl) (fun y e => by cases e; rfl)
 have hbw := Below.grown HBW.out hgr HBW.out.size (fun q hq => by cases hq; exact Nat.le_of_eq hb)
 clear HCM HBW hgr
 have HCM := Lib.hid hcm
 have HBW := Lib.hid hbw
 clear hcm hbw
 go_wp2_with fail
 go_ret
 exact ⟨b, rfl, HCM.out, HBW.out⟩
end Go.Proofs.YtceggplnggkdnaaGreatDoor
namespace Go.Proofs.YtceggplnggkdnaaGreatDoor
open Go.RowKit NatP LexP Go.ChangeMaps
set_option maxRecDepth 100000 in
theorem cut_no (s p : ByteArray) (w : World) (hs : s.size ≤ 1000) (h : Lib.hasSuffix s.data.toList p.data.toList = false) :
  Calls Tryz.prog 299 #[.string s, .string p] w fun e w' => e = .returned (.tuple #[.string s, .bool false]) ∧ w' = w := by
 have H := Lib.hid h
 clear h
 go_enter Tryz.func299, Tryz.ntmps299
 go_wp2_with fail
 have hc : Calls Tryz.prog 434 #[.string s, .string p] w fun e w' => e = .returned (.tuple #[.string s, .bool false]) ∧ w' = w := by
  go_enter Tryz.func434, Tryz.ntmps434
  go_wp2_with fail
  refine (Tryz.stringslite_HasSuffix s p _ (by omega)).mono ?_
  rintro e w' ⟨rfl, rfl⟩
  rw [H.out]
  go_wp2_with fail
  go_ret2
  exact ⟨rfl, rfl⟩
 refine hc.mono ?_
 rintro e w' ⟨rfl, rfl⟩
 go_wp2_with fail
 go_ret2
 exact ⟨rfl, rfl⟩
theorem ta_ii (v : Value) (w : World) : (Instr.typeAssert (.iface 117 v) 72 117 true).run Tryz.prog w = .ok (.tuple #[v, .bool true]) w := by kernel_rfl
set_option maxRecDepth 100000 in
theorem is_V {v : Value} {x : SynP.Vl} (w : World) (h : VR w v x) :
  Calls Tryz.prog 295 #[.int .u8 86, v] w fun e w' => e = .returned (.bool true) ∧ w' = w := by
 have t1 := ta_mi
 have t2 := ta_mm
 have t3 := ta_ii
 cases x with
 | num p =>
  obtain ⟨m, xs, rfl, -⟩ := h
  go_enter Tryz.func295, Tryz.ntmps295
  go_wp2_with fail
  go_ret
  exact ⟨rfl, rfl⟩
 | mat m =>
  obtain ⟨av, rfl, -⟩ := h
  go_enter Tryz.func295, Tryz.ntmps295
  go_wp2_with fail
  go_ret
  exact ⟨rfl, rfl⟩
 | cpx l => exact h.elim
set_option maxRecDepth 100000 in
set_option maxHeartbeats 2000000 in
theorem fits_V (pg cap : Nat) (u : Value) (x : SynP.Vl) (w : World) (hc : w.cell? ⟨pg, 0, none⟩ = some u) (hv : VR w u x) :
  Calls Tryz.prog 158 #[.string ⟨#[86]⟩, .slice (some ⟨pg, 0, none⟩) 1 cap] w fun e w' => e = .returned .nilIface ∧ w' = w := by
 have HV := Lib.hid hv
 clear hv
 go_enter Tryz.func158, Tryz.ntmps158
 go_wp2_with fail
 refine (cut_no ⟨#[86]⟩ ⟨#[43]⟩ _ (by decide) (by decide)).mono ?_
 rintro e w' ⟨rfl, rfl⟩
 go_wp2_with fail
 go_loopw [36] (fun i wr => ∃ k : Nat, k ≤ 1 ∧ i = .int .i64 (k : Nat) ∧ wr = w') (fun i _ => 1 - (intOf i).toNat)
 case atStart => exact ⟨0, by omega, rfl, rfl⟩
 case round =>
  obtain ⟨k, hk, rfl, rfl⟩ := hrel
  by_cases hlt : k < 1
  ·obtain rfl : k = 0 := by omega
   go_wp2_with fail
   refine (is_V _ HV.out).mono ?_
   rintro e w2 ⟨rfl, rfl⟩
   go_wp2_with fail
   exact ⟨⟨1, Nat.le_refl _, rfl, trivial⟩, by decide⟩
  ·go_wp2_with fail
   obtain ⟨wo, hwo⟩ : ∃ wo, wo = wr := ⟨_, rfl⟩
   go_loopw [51] (fun i wr2 => ∃ k : Nat, k ≤ 1 ∧ i = .int .i64 (k : Nat) ∧ wr2 = wr) (fun i _ => 1 - (intOf i).toNat)
   case atStart => exact ⟨0, by omega, rfl, rfl⟩
   case round =>
    obtain ⟨j, hj, rfl, rfl⟩ := hrel
    by_cases hltj : j < 1
    ·obtain rfl : j = 0 := by omega
     clear hwo
     go_wp2_with fail
     exact ⟨⟨1, Nat.le_refl _, rfl, trivial⟩, by decide⟩
    ·clear hwo
     go_wp2_with fail
     go_ret
     exact ⟨rfl, rfl⟩
set_option maxRecDepth 100000 in
set_option maxHeartbeats 1000000 in
theorem bind_V (fv : Value) (pg cap : Nat) (u : Value) (x : SynP.Vl) (w : World) (hc : w.cell? ⟨pg, 0, none⟩ = some u) (hv : VR w u x) (hf : ∃ F, fv = .func (.func F) #[] #[]) :
  Calls Tryz.prog 68 #[.agg #[.string ⟨#[86]⟩, fv], .slice (some ⟨pg, 0, none⟩) 1 cap] w fun e w' => e = .returned (.tuple #[.slice (some ⟨pg, 0, none⟩) 1 cap, .nilIface]) ∧ Below w.heap.size w w' := by
 obtain ⟨F, rfl⟩ := hf
 have hb := below_alloc w (.cells #[.string ⟨#[86]⟩, .func (.func F) #[] #[]] 138)
 have HB := Lib.hid hb
 have HV := Lib.hid (hv.below hb)
 have HC := Lib.hid (cell_keep hb hc)
 clear hb hv hc
 go_enter Tryz.func68, Tryz.ntmps68
 go_wp2_with fail
 refine (fits_V pg cap u x _ HC.out HV.out).mono ?_
 rintro e w' ⟨rfl, rfl⟩
 go_wp2_with fail
 go_ret2
 exact ⟨rfl, HB.out⟩
end Go.Proofs.YtceggplnggkdnaaGreatDoor
namespace Go.Proofs.YtceggplnggkdnaaGreatDoor
open Go.RowKit NatP LexP
def SoundM (r c : Int) (n : Nat) : Prop := (0 ≤ r ∧ r ≤ 64) ∧ (0 ≤ c ∧ c ≤ 64) ∧ (n : Int) = r * c
theorem SoundM.nat {r c : Int} {n : Nat} (h : SoundM r c n) : ∃ a b : Nat, r = (a : Int) ∧ c = (b : Int) ∧ a ≤ 64 ∧ b ≤ 64 ∧ n = a * b := by
 obtain ⟨⟨h1, h2⟩, ⟨h3, h4⟩, h5⟩ := h
 refine ⟨r.toNat, c.toNat, by omega, by omega, by omega, by omega, ?_⟩
 have e1 : r = (r.toNat : Int) := by omega
 have e2 : c = (c.toNat : Int) := by omega
 rw [e1, e2, ← Int.natCast_mul] at h5
 exact Int.ofNat.inj h5
instance (r c : Int) (n : Nat) : Decidable (SoundM r c n) := by unfold SoundM; infer_instance
def sideB (n : Int) : Bool := decide (0 ≤ n ∧ n ≤ 64)
set_option maxRecDepth 100000 in
theorem mside_any (n : Int) (w : World) :
  Calls Tryz.prog 170 #[.int .i64 n] w fun e w' => e = .returned (.bool (sideB n)) ∧ w = w' := by
 by_cases h1 : 0 ≤ n
 ·have h2 : sideB n = decide (n ≤ 64) := by simp [sideB, h1]
  have H2 := Lib.hid h2
  clear h2
  go_enter Tryz.func170, Tryz.ntmps170
  go_wp2_with fail
  go_ret
  exact ⟨by rw [H2.out]; rfl, rfl⟩
 ·have h2 : sideB n = false := by simp [sideB]; omega
  have H2 := Lib.hid h2
  clear h2
  go_enter Tryz.func170, Tryz.ntmps170
  go_wp2_with fail
  go_ret
  exact ⟨by rw [H2.out]; rfl, rfl⟩
set_option maxRecDepth 100000 in
set_option maxHeartbeats 1000000 in
theorem mcheck_bad (r c : Int) (n cap : Nat) (ao : Option Addr) (w : World) (hn : n ≤ 1073741824) (h : ¬ SoundM r c n) :
  Calls Tryz.prog 80 #[.agg #[.int .i64 r, .int .i64 c, .slice ao n cap]] w fun e w' => e = .returned (.int .i64 1) ∧ Below w.heap.size w w' := by
 have HA := Lib.hid (below_alloc w (.cells #[.int .i64 r, .int .i64 c, .slice ao n cap] 54))
 by_cases h1 : 0 ≤ r ∧ r ≤ 64
 ·have D1 := Lib.hid (show sideB r = true by simp [sideB]; exact h1)
  by_cases h2 : 0 ≤ c ∧ c ≤ 64
  ·have D2 := Lib.hid (show sideB c = true by simp [sideB]; exact h2)
   have hp : ¬ (n : Int) = r * c := fun e => h ⟨h1, h2, e⟩
   have hpb : 0 ≤ r * c ∧ r * c ≤ 4096 := by
    obtain ⟨h3, h4⟩ := h1
    obtain ⟨h5, h6⟩ := h2
    exact ⟨Int.mul_nonneg h3 h5, Int.le_trans (Int.mul_le_mul h4 h6 h5 (by omega)) (by omega)⟩
   obtain ⟨p, hpp⟩ : ∃ p, p = r * c := ⟨_, rfl⟩
   have hpe : r * c = p := hpp.symm
   rw [← hpp] at hp hpb
   obtain ⟨hp1, hp2⟩ := hpb
   have hne : ((n : Int) != p) = true := by simp; exact hp
   clear h h1 h2 hp hpp
   go_enter Tryz.func80, Tryz.ntmps80
   go_wp2_with fail
   refine (mside_any r _).mono ?_
   rintro e w1 ⟨rfl, rfl⟩
   rw [D1.out]
   go_wp2_with fail
   refine (mside_any c _).mono ?_
   rintro e w1 ⟨rfl, rfl⟩
   rw [D2.out]
   go_wp2_with fail
   go_ret
   exact ⟨rfl, HA.out⟩
  ·have D2 := Lib.hid (show sideB c = false by simp [sideB]; omega)
   clear h h1 h2
   go_enter Tryz.func80, Tryz.ntmps80
   go_wp2_with fail
   refine (mside_any r _).mono ?_
   rintro e w1 ⟨rfl, rfl⟩
   rw [D1.out]
   go_wp2_with fail
   refine (mside_any c _).mono ?_
   rintro e w1 ⟨rfl, rfl⟩
   rw [D2.out]
   go_wp2_with fail
   go_ret
   exact ⟨rfl, HA.out⟩
 ·have D1 := Lib.hid (show sideB r = false by simp [sideB]; omega)
  clear h h1
  go_enter Tryz.func80, Tryz.ntmps80
  go_wp2_with fail
  refine (mside_any r _).mono ?_
  rintro e w1 ⟨rfl, rfl⟩
  rw [D1.out]
  go_wp2_with fail
  go_ret
  exact ⟨rfl, HA.out⟩
def MatTxPost (r c : Int) (l : List (Bool × Nat)) (w : World) (e : Ending) (w' : World) : Prop :=
 (if SoundM r c l.length then e = .returned (.tuple #[.string ⟨(gridT r.toNat c.toNat (intsT l)).toArray⟩, .int .i64 0]) else e = .returned (.tuple #[.string ⟨#[]⟩, .int .i64 1])) ∧ Below w.heap.size w w'
set_option maxRecDepth 100000 in
set_option maxHeartbeats 1000000 in
theorem mat_text_any (r c : Int) (l : List (Bool × Nat)) (v : Value) (w : World) (hs : SG w) (hv : IRd w v l) (hn : l.length ≤ 1073741824) :
  Calls Tryz.prog 48 #[.agg #[.int .i64 r, .int .i64 c, v]] w (MatTxPost r c l w) := by
 by_cases h : SoundM r c l.length
 ·obtain ⟨a, b, rfl, rfl, ha, hb, hab⟩ := h.nat
  refine (mat_text a b l v w hs hv ha hb hab).mono ?_
  rintro e w1 ⟨he, hb1⟩
  refine ⟨?_, hb1⟩
  rw [if_pos h]; exact he
 ·obtain ⟨ao, cap, rfl, h1, h2, h3⟩ := hv
  obtain ⟨n, hnn⟩ : ∃ n, n = l.length := ⟨_, rfl⟩
  rw [← hnn] at h hn ⊢
  have HA := Lib.hid (below_alloc w (.cells #[.int .i64 r, .int .i64 c, .slice ao n cap] 54))
  have H := Lib.hid h
  have HNN := Lib.hid hnn
  clear hs h1 h2 h3 hnn h
  go_enter Tryz.func48, Tryz.ntmps48
  go_wp2_with fail
  refine (mcheck_bad r c n cap ao _ hn H.out).mono ?_
  rintro e w1 ⟨rfl, hb1⟩
  have HB1 := Lib.hid (HA.out.trans (hb1.mono HA.out.size))
  clear hb1
  go_wp2_with fail
  go_ret2
  refine ⟨?_, HB1.out⟩
  rw [← HNN.out, if_neg H.out]; rfl
end Go.Proofs.YtceggplnggkdnaaGreatDoor
namespace Go.Proofs.YtceggplnggkdnaaGreatDoor
open Go.RowKit NatP LexP Go.ChangeMaps
def matX (m : SynP.MatV) : Bytes := gridT m.rows m.cols (intsT m.at_)
theorem sound_of {m : SynP.MatV} (h1 : m.rows ≤ 64) (h2 : m.cols ≤ 64) (h3 : m.at_.length = m.rows * m.cols) : SoundM (m.rows : Int) (m.cols : Int) m.at_.length := by
 refine ⟨⟨by omega, by omega⟩, ⟨by omega, by omega⟩, ?_⟩
 rw [h3]; exact Int.natCast_mul _ _
theorem mattx_ok {r c : Int} {l : List (Bool × Nat)} {w : World} {e : Ending} {w' : World} (h : MatTxPost r c l w e w') (hs : SoundM r c l.length) : e = .returned (.tuple #[.string ⟨(gridT r.toNat c.toNat (intsT l)).toArray⟩, .int .i64 0]) ∧ Below w.heap.size w w' := by
 unfold MatTxPost at h
 rw [if_pos hs] at h
 exact h
set_option maxRecDepth 100000 in
set_option maxHeartbeats 1000000 in
theorem text_x (r c : Int) (av : Value) (X : ByteArray) (w : World) (HT : Hid (∀ W, w.alloc (.cells #[.int .i64 r, .int .i64 c, av] 122) = W → Calls Tryz.prog 48 #[.agg #[.int .i64 r, .int .i64 c, av]] W fun e w' => e = .returned (.tuple #[.string X, .int .i64 0]) ∧ Below w.heap.size w w')) :
  Calls Tryz.prog 612 #[.agg #[.int .i64 r, .int .i64 c, av]] w fun e w' => e = .returned (.string X) ∧ Below w.heap.size w w' := by
 go_enter Tryz.func612, Tryz.ntmps612
 go_wp2_with fail
 refine (HT.out _ rfl).mono ?_
 rintro e w2 ⟨he, hb2⟩
 subst he
 have HB2 := Lib.hid hb2
 clear hb2
 go_wp2_with fail
 go_ret
 exact ⟨rfl, HB2.out⟩
set_option maxRecDepth 100000 in
set_option maxHeartbeats 1000000 in
theorem text_mat (m : SynP.MatV) (av : Value) (w : World) (hi : IRs w av m.at_) (h1 : m.rows ≤ 64) (h2 : m.cols ≤ 64) (h3 : m.at_.length = m.rows * m.cols) (hs : SG w) (hsz : 6 < w.heap.size) :
  Calls Tryz.prog 612 #[.agg #[.int .i64 (m.rows : Nat), .int .i64 (m.cols : Nat), av]] w fun e w' => e = .returned (.string ⟨(matX m).toArray⟩) ∧ Below w.heap.size w w' := by
 have hb := below_alloc w (.cells #[.int .i64 (m.rows : Nat), .int .i64 (m.cols : Nat), av] 122)
 have HT := (mat_text_any (m.rows : Int) (m.cols : Int) m.at_ av _ (hs.below hb hsz) (hi.below hb).ird (by rw [h3]; exact Nat.le_trans (Nat.mul_le_mul h1 h2) (by omega))).mono fun e w' h => mattx_ok h (sound_of h1 h2 h3)
 refine text_x (m.rows : Int) (m.cols : Int) av _ w (Lib.hid ?_)
 rintro W rfl
 refine HT.mono ?_
 rintro e w2 ⟨he, hb2⟩
 rw [Int.toNat_natCast, Int.toNat_natCast] at he
 exact ⟨he, hb.trans (hb2.mono hb.size)⟩
def SsO (w : World) (B : Nat) (v : Value) (ss : List Bytes) : Prop := w.ownsRow B 9 1 v ss.length (ss.map fun s => .string ⟨s.toArray⟩)
theorem SsO.nil (w : World) (B : Nat) : SsO w B (.slice none 0 0) [] := World.ownsRow_nil w B 9 1
set_option maxRecDepth 100000 in
set_option maxHeartbeats 2000000 in
theorem lines_mat (m : SynP.MatV) (av : Value) (pg cap : Nat) (w : World) (hc : w.cell? ⟨pg, 0, none⟩ = some (.iface 122 (.agg #[.int .i64 (m.rows : Nat), .int .i64 (m.cols : Nat), av]))) (hi : IRs w av m.at_) (h1 : m.rows ≤ 64) (h2 : m.cols ≤ 64) (h3 : m.at_.length = m.rows * m.cols) (hs : SG w) (hsz : 6 < w.heap.size) :
  Calls Tryz.prog 125 #[.int .i64 0, .slice (some ⟨pg, 0, none⟩) 1 cap] w fun e w' => ∃ lv, e = .returned (.tuple #[lv, .nilIface]) ∧ SsO w' w.heap.size lv [matX m] ∧ Below w.heap.size w w' := by
 have HT := Lib.hid (text_mat m av w hi h1 h2 h3 hs hsz)
 obtain ⟨i0, hi0, hz0, hz1, hz2⟩ := info_parts Tryz.infoSt
 obtain ⟨X, hX⟩ : ∃ X : ByteArray, (⟨(matX m).toArray⟩ : ByteArray) = X := ⟨_, rfl⟩
 have HX := Lib.hid hX
 unfold SsO
 simp only [List.length_cons, List.length_nil, List.map_cons, List.map_nil, hX] at HT ⊢
 generalize hM : (Value.agg #[.int .i64 (m.rows : Nat), .int .i64 (m.cols : Nat), av]) = M at *
 have HM := Lib.hid hM
 clear hX hi hM
 go_enter Tryz.func125, Tryz.ntmps125
 go_wp2_with fail
 obtain ⟨wo, hwo⟩ : ∃ wo, wo = w := ⟨_, rfl⟩
 go_loopw [6, 15] (fun lv i wr => ∃ k : Nat, k ≤ 1 ∧ i = .int .i64 (k : Nat) ∧ ((k = 0 ∧ lv = .slice none 0 0 ∧ wr = w) ∨ (k = 1 ∧ wr.ownsRow w.heap.size 9 1 lv 1 [.string X] ∧ Below w.heap.size w wr))) (fun _ i _ => 1 - (intOf i).toNat)
 case atStart => exact ⟨0, by omega, rfl, .inl ⟨rfl, rfl, rfl⟩⟩
 case round =>
  obtain ⟨k, hk, rfl, ⟨rfl, rfl, rfl⟩ | ⟨rfl, ho, hb⟩⟩ := hrel
  ·clear hwo
   go_wp2_with fail
   refine HT.out.mono ?_
   rintro e w2 ⟨rfl, hb⟩
   have HB := Lib.hid hb
   have q0 := (World.ownsRow_nil w2 wr.heap.size 9 1).alloc (.cells #[.string X] 9)
   have HBS := Lib.hid hb.size
   clear hb
   go_wp2_with (at_builtin; refine wpList_append_own _ rfl _ _ 28 rfl wr.heap.size 9 i0 (.string ⟨#[]⟩) 1 16 Tryz.underlying28 hi0 hz0 hz1 hz2 rfl (by decide) _ _ _ rfl q0 ⟨w2.heap.size, 0, none⟩ 1 1 [.string X] rfl rfl ?c1 ?c2 ?c3 ?c4 ?c5 ?_)
   case c1 => exact cells_new _ _ _ _ rfl
   case c2 => intro u hu; simp at hu; subst hu; rfl
   case c3 => unfold maxLen; omega
   case c4 => omega
   case c5 => have := HBS.out; simp; omega
   intro v3 w3 hown3 hgrow3 _
   have hb3 : Below wr.heap.size wr w3 := Below.grown (HB.out.alloc HB.out.size _) hgrow3 (by have := HBS.out; simp; omega) (fun k hk => (q0.lt k hk).1)
   have HO := Lib.hid hown3
   have HB3 := Lib.hid hb3
   clear hown3 hgrow3 hb3
   go_wp2_with fail
   exact ⟨⟨1, Nat.le_refl _, rfl, .inr ⟨rfl, HO.out, HB3.out⟩⟩, by decide⟩
  ·clear hwo
   have HO := Lib.hid ho
   have HB := Lib.hid hb
   clear ho hb
   go_wp2_with fail
   go_ret2
   exact ⟨_, rfl, HO.out, HB.out⟩
theorem print_mat (m : SynP.MatV) (av : Value) (pg cap : Nat) (w : World) (hc : w.cell? ⟨pg, 0, none⟩ = some (.iface 122 (.agg #[.int .i64 (m.rows : Nat), .int .i64 (m.cols : Nat), av]))) (hi : IRs w av m.at_) (h1 : m.rows ≤ 64) (h2 : m.cols ≤ 64) (h3 : m.at_.length = m.rows * m.cols) (hs : SG w) (hsz : 6 < w.heap.size) :
  Calls Tryz.prog 124 #[.slice (some ⟨pg, 0, none⟩) 1 cap] w fun e w' => ∃ lv, e = .returned (.tuple #[lv, .nilIface]) ∧ SsO w' (w.heap.size + 1) lv [matX m] ∧ Below w.heap.size w w' := by
 have hb := below_alloc w (.cells #[.iface 122 (.agg #[.int .i64 (m.rows : Nat), .int .i64 (m.cols : Nat), av])] 72)
 have HT := lines_mat m av w.heap.size 1 _ ((cell_of_row _ _ 0 _ _ _ (heap_alloc_new w (.cells #[.iface 122 (.agg #[.int .i64 (m.rows : Nat), .int .i64 (m.cols : Nat), av])] 72))).trans rfl) (hi.below hb) h1 h2 h3 (hs.below hb hsz) (by simp; omega)
 rw [show (w.alloc (.cells #[.iface 122 (.agg #[.int .i64 (m.rows : Nat), .int .i64 (m.cols : Nat), av])] 72)).heap.size = w.heap.size + 1 from by simp] at HT
 have HTT := Lib.hid HT
 have HB := Lib.hid hb
 generalize hM : (Value.agg #[.int .i64 (m.rows : Nat), .int .i64 (m.cols : Nat), av]) = M at *
 have HM := Lib.hid hM
 clear hM hb HT hi hs
 go_enter Tryz.func124, Tryz.ntmps124
 go_wp2_with fail
 refine HTT.out.mono ?_
 rintro e w2 ⟨lv, rfl, ho, hb2⟩
 have HO := Lib.hid ho
 have HB2 := Lib.hid (HB.out.trans (hb2.mono (by omega)))
 clear ho hb2
 go_wp2_with fail
 go_ret2
 exact ⟨_, rfl, HO.out, HB2.out⟩
end Go.Proofs.YtceggplnggkdnaaGreatDoor
namespace Go.Proofs.YtceggplnggkdnaaGreatDoor
open Go.RowKit NatP LexP Go.ChangeMaps
def prV : Value := .agg #[.string ⟨#[86]⟩, .func (.func 124) #[] #[]]
theorem two_set {w w' : World} {g : Nat} {T : TypeId} {x y u v : Value} (h : w.heap[g]? = some (.cells #[u, v] T (0, 0))) (hw : w' = (w.setCell ⟨g, 0, none⟩ x).setCell ⟨g, 1, none⟩ y) :
  w'.heap[g]? = some (.cells #[x, y] T (0, 0)) := by
 have s1 := heap_setCell_same w g 0 #[u, v] T x h
 have s2 := heap_setCell_same (w.setCell ⟨g, 0, none⟩ x) g 1 _ T y s1
 rw [hw]; exact s2.trans (by simp)
theorem partsV_one {vs : List SynP.Vl} {k : Nat} {x : SynP.Vl} (h0 : vs[k]? = some x) : partsV vs [k] = [x] := by simp [partsV, h0]
theorem SsO.low {w : World} {B B' : Nat} {v : Value} {ss : List Bytes} (h : SsO w B v ss) (hB : B' ≤ B) : SsO w B' v ss := by
 obtain ⟨h1, h2⟩ := h
 refine ⟨h1, h2.imp id ?_⟩
 rintro ⟨g, cap, cur, a, b, c⟩
 exact ⟨g, cap, cur, a, Nat.le_trans hB b, c⟩
theorem zero_wd (w : World) : (zeroValue 138).run Tryz.prog w = .ok (.agg #[.string ⟨#[]⟩, .nilFunc]) w := by kernel_rfl
theorem look_print {w : World} {b : Nat} (h : CmR w b cmdsL) : (Instr.lookup 140 (.map (some b)) (.string ⟨#[112, 114, 105, 110, 116]⟩) true).run Tryz.prog w = .ok (.tuple #[prV, .bool true]) w := by
 obtain ⟨es, clock, h1, h2⟩ := h
 have hz := zero_wd w
 rcases run_look_s (P := Tryz.prog) (t := 140) (w := w) Tryz.underlying140 Tryz.underlying9 h1 h2 hz [112, 114, 105, 110, 116] with ⟨i, u, v, a1, a2, a3⟩ | ⟨a1, a2⟩
 ·simp [SynP.atS, cmdsL] at a1
  rw [a2 _ a1.2.symm] at a3
  exact a3
 ·simp [SynP.atS, cmdsL] at a1
set_option maxRecDepth 100000 in
set_option maxHeartbeats 4000000 in
theorem whole_print (W B E : Nat) (tv vv kv : Value) (vs : List SynP.Vl) (k : Nat) (m : SynP.MatV) (w : World) (hW : w.heap[W]? = some (.cells #[.pointer (some ⟨E, 0, none⟩), tv, vv] 67 (0, 0))) (hV : VsR w B vv vs) (hK : KdR w W kv [k])
  (hx : vs[k]? = some (.mat m)) (h1 : m.rows ≤ 64) (h2 : m.cols ≤ 64) (h3 : m.at_.length = m.rows * m.cols) (hs : SG w) (hsz : 6 < w.heap.size) :
  Calls Tryz.prog 36 #[.pointer (some ⟨W, 0, none⟩), .agg #[.int .i64 12, .string ⟨#[112, 114, 105, 110, 116]⟩, kv]] w fun e w' => ∃ lv, e = .returned (.tuple #[lv, .nilIface]) ∧ SsO w' w.heap.size lv [matX m] ∧ Below w.heap.size w w' := by
 have hb := below_alloc w (.cells #[.int .i64 12, .string ⟨#[112, 114, 105, 110, 116]⟩, kv] 70)
 have hb0 := heap_alloc_new w (.cells #[.int .i64 12, .string ⟨#[112, 114, 105, 110, 116]⟩, kv] 70)
 have HB := Lib.hid hb
 have HV1 := Lib.hid (hV.below hb)
 have HW1 := Lib.hid (blk_keep hb hW)
 have HK1 := Lib.hid (hK.below (hb.mono (Nat.le_of_lt (Array.getElem?_eq_some_iff.1 hW).1)))
 have HS1 := Lib.hid (hs.below hb hsz)
 have HLW := Lib.hid (Array.getElem?_eq_some_iff.1 hW).1
 obtain ⟨ko, kcap, rfl, -, -, -⟩ := hK
 simp only [List.length_singleton] at *
 obtain ⟨g, hg⟩ : ∃ g, w.heap.size = g := ⟨_, rfl⟩
 obtain ⟨w1, hw1⟩ : ∃ w1, w.alloc (.cells #[.int .i64 12, .string ⟨#[112, 114, 105, 110, 116]⟩, .slice ko 1 kcap] 70) = w1 := ⟨_, rfl⟩
 rw [hw1] at hb0 HB HV1 HW1 HK1 HS1
 rw [hg] at hb0
 have c0 : w1.cell? ⟨g, 0, none⟩ = some (.int .i64 12) := (cell_of_row _ _ _ _ _ _ hb0).trans rfl
 have c1 : w1.cell? ⟨g, 1, none⟩ = some (.string ⟨#[112, 114, 105, 110, 116]⟩) := (cell_of_row _ _ _ _ _ _ hb0).trans rfl
 have hgl : g < w1.heap.size := (Array.getElem?_eq_some_iff.1 hb0).1
 have HB0 := Lib.hid hb0
 clear hb hV hW hs hb0
 go_enter Tryz.func36, Tryz.ntmps36
 go_upto_region 14 with fail
 go_cut [8, 9] (fun pv ok wx => ∃ P, pv = .pointer (some ⟨P, 0, none⟩) ∧ ok = .bool true ∧ Hid (wx.heap[P]? = some (.cells #[.string ⟨#[86]⟩, .func (.func 124) #[] #[]] 138 (0, 0)) ∧ Below w1.heap.size w1 wx))
 case first =>
  go_region_law (first
   | (go_simp; go_at_call 67; refine (commands_any w1.drew).mono ?_; rintro e w2 ⟨b, rfl, hcm, hb2⟩; have e1 := cell_keep hb2 c1; have HBX := Lib.hid ((Below.drew (Below.refl w1.heap.size w1)).trans hb2); have hgl2 : g < w2.heap.size := Nat.lt_of_lt_of_le hgl hb2.size; have l1 := look_print hcm; have l2 := look_print (hcm.below (below_alloc w2 (.cells #[.string ⟨#[]⟩, .nilFunc] 138))); unfold prV at l1 l2; clear hb2 hcm)
   | (go_simp; go_at_call 67; refine (commands_any (w1.drew.alloc (.cells #[.string ⟨#[]⟩, .nilFunc] 138))).mono ?_; rintro e w2 ⟨b, rfl, hcm, hb2⟩; have hq := heap_alloc_new w1.drew (.cells #[.string ⟨#[]⟩, .nilFunc] 138); have hq2 : w2.heap[w1.heap.size]? = some (.cells #[.string ⟨#[]⟩, .nilFunc] 138 (0, 0)) := (hb2.block _ (by simp)).trans hq; have e1 := cell_keep hb2 (cell_keep (below_alloc w1.drew (.cells #[.string ⟨#[]⟩, .nilFunc] 138)) c1); have e2 : w2.cell? ⟨w1.heap.size, 0, none⟩ = some (.string ⟨#[]⟩) := (cell_of_row _ _ _ _ _ _ hq2).trans rfl; have e3 : w2.cell? ⟨w1.heap.size, 1, none⟩ = some .nilFunc := (cell_of_row _ _ _ _ _ _ hq2).trans rfl; have f2 := frozen_of_row w2 _ 0 _ _ hq2; have f3 := frozen_of_row w2 _ 1 _ _ hq2; have HQ := Lib.hid hq2; have HBX := Lib.hid ((Below.drew (Below.refl w1.heap.size w1)).trans ((below_alloc w1.drew (.cells #[.string ⟨#[]⟩, .nilFunc] 138)).trans (hb2.mono (by simp)))); have hgl2 : w1.heap.size < w2.heap.size := (Array.getElem?_eq_some_iff.1 hq2).1; have l1 := look_print hcm; unfold prV at l1; clear hb2 hq hq2 hcm))
  all_goals go_wp2_with fail
  all_goals go_meet
  all_goals first
   | exact ⟨_, rfl, rfl, Lib.hid ⟨two_set HQ.out rfl, (HBX.out.setCell (p := ⟨w1.heap.size, 0, none⟩) (Nat.le_refl _) _).setCell (p := ⟨w1.heap.size, 1, none⟩) (Nat.le_refl _) _⟩⟩
   | exact ⟨_, rfl, rfl, Lib.hid ⟨heap_alloc_new _ _, HBX.out.alloc HBX.out.size _⟩⟩
   | exact ⟨_, rfl, rfl, Lib.hid ⟨two_set (heap_alloc_new _ _) rfl, ((HBX.out.alloc HBX.out.size _).setCell (p := ⟨w2.heap.size, 0, none⟩) HBX.out.size _).setCell (p := ⟨w2.heap.size, 1, none⟩) HBX.out.size _⟩⟩
 case rest =>
  obtain ⟨P, rfl, rfl, hh⟩ := hcut
  obtain ⟨hP, hbx⟩ := hh.out
  have HBW := Lib.hid (HB.out.trans (hbx.mono HB.out.size))
  have KS := Lib.hid (HS1.out.below hbx (Nat.lt_of_lt_of_le hsz HB.out.size))
  have hPA := parts_any W B (.pointer (some ⟨E, 0, none⟩)) tv vv (.slice ko 1 kcap) 12 ⟨#[112, 114, 105, 110, 116]⟩ vs [k] wc.drew (blk_keep (hbx.drew.mono (Nat.le_refl _)) HW1.out) (HV1.out.below hbx.drew) (HK1.out.below (hbx.drew.mono (Nat.le_trans (Nat.le_of_lt HLW.out) HB.out.size))) (by intro q hq; rw [List.mem_singleton] at hq; subst hq; exact (List.getElem?_eq_some_iff.1 hx).1) (by simp)
  rw [partsV_one hx] at hPA
  have HPA := Lib.hid hPA
  have d0 : wc.cell? ⟨P, 0, none⟩ = some (.string ⟨#[86]⟩) := (cell_of_row _ _ _ _ _ _ hP).trans rfl
  have d1 : wc.cell? ⟨P, 1, none⟩ = some (.func (.func 124) #[] #[]) := (cell_of_row _ _ _ _ _ _ hP).trans rfl
  have hb2 := blk_keep hbx HB0.out
  have c0 : wc.cell? ⟨g, 0, none⟩ = some (.int .i64 12) := (cell_of_row _ _ _ _ _ _ hb2).trans rfl
  have c1 : wc.cell? ⟨g, 1, none⟩ = some (.string ⟨#[112, 114, 105, 110, 116]⟩) := (cell_of_row _ _ _ _ _ _ hb2).trans rfl
  have c2 : wc.cell? ⟨g, 2, none⟩ = some (.slice ko 1 kcap) := (cell_of_row _ _ _ _ _ _ hb2).trans rfl
  clear hP hbx hh hPA hb2 hw1
  go_wp2_with fail
  go_region_held3 (fun w' => w'.cell? ⟨P, 0, none⟩ = some (.string ⟨#[86]⟩) ∧ w'.cell? ⟨P, 1, none⟩ = some (.func (.func 124) #[] #[]) ∧ w'.cell? ⟨g, 0, none⟩ = some (.int .i64 12) ∧ w'.cell? ⟨g, 1, none⟩ = some (.string ⟨#[112, 114, 105, 110, 116]⟩) ∧ w'.cell? ⟨g, 2, none⟩ = some (.slice ko 1 kcap))
   (first
    | (refine ⟨?_, ?_, ?_, ?_, ?_⟩ <;> go_keep)
    | exact ⟨cell_keep b1 d0, cell_keep b1 d1, cell_keep b1 c0, cell_keep b1 c1, cell_keep b1 c2⟩
    | exact ⟨cell_keep b2 (cell_keep b1 d0), cell_keep b2 (cell_keep b1 d1), cell_keep b2 (cell_keep b1 c0), cell_keep b2 (cell_keep b1 c1), cell_keep b2 (cell_keep b1 c2)⟩)
   (first
    | (go_at_call 54; refine HPA.out.mono ?_; rintro e w3 ⟨pv, rfl, hp, b1⟩; obtain ⟨pg, pcap, u0, hpv, p0, q0, -⟩ := hp.at_ (j := 0) (x := .mat m) rfl; have hpv : pv = .slice (some ⟨pg, 0, none⟩) 1 pcap := hpv; subst hpv)
    | (go_at_call 68; refine (bind_V (.func (.func 124) #[] #[]) pg pcap u0 (.mat m) w3 p0 q0 ⟨_, rfl⟩).mono ?_; rintro e w4 ⟨rfl, b2⟩))
  rename_i hh
  obtain ⟨k0, k1, -⟩ := hh
  obtain ⟨av, rfl, i0, -⟩ := q0
  have hB3 : Below w.heap.size w w3 := HBW.out.drew.trans (b1.mono HBW.out.size)
  have hB4 : Below w.heap.size w w4 := hB3.trans (b2.mono hB3.size)
  have hz : 6 < wc.heap.size := Nat.lt_of_lt_of_le hsz HBW.out.size
  have hz4 : wc.heap.size ≤ w4.heap.size := Nat.le_trans b1.size b2.size
  have hPM := print_mat m av pg pcap w4 (cell_keep b2 p0) (i0.below b2) h1 h2 h3 (KS.out.below ((Below.drew (Below.refl wc.heap.size wc)).trans (b1.trans (b2.mono b1.size))) hz) (Nat.lt_of_lt_of_le hz hz4)
  have HPM := Lib.hid hPM
  have HB4 := Lib.hid hB4
  clear b1 b2 hp p0 i0 hB3 hB4 hPM c0 c1 c2 d0 d1
  go_wp2_with fail
  refine HPM.out.mono ?_
  rintro e w5 ⟨lv, rfl, ho, hb5⟩
  have HO := Lib.hid (SsO.low (B' := w.heap.size) ho (Nat.le_succ_of_le HB4.out.size))
  have HB5 := Lib.hid (HB4.out.trans (hb5.mono HB4.out.size))
  clear ho hb5
  go_wp2_with fail
  go_ret2
  exact ⟨_, rfl, HO.out, HB5.out⟩
end Go.Proofs.YtceggplnggkdnaaGreatDoor
