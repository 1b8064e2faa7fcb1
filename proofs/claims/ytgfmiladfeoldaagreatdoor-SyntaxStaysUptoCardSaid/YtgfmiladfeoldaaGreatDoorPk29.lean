/- Joined texts of this claim's proof: SyRow, SyTreesM, SyMats. -/
import Derived.Test.YtgfmiladfeoldaaGreatDoorRows
import Derived.Test.YtgfmiladfeoldaaGreatDoorPk9
import Derived.Test.YtgfmiladfeoldaaGreatDoorPk2
import Derived.ProofKit
import Derived.OpenShut
import Derived.ShutString
import Derived.JoinedCond
import Derived.HandedShaped
import Derived.Below
import Derived.ReadAgain
import Derived.ChangeOld
import Derived.Deep.DeepHandedRow
import Derived.Lib.LaidTab
import Derived.MakeChecks
import Derived.Test.YtgfmiladfeoldaaGreatDoorPk27
import Derived.Deep.Slices
import Derived.ChangeSame
import Derived.Test.YtgfmiladfeoldaaGreatDoorPk25
import Derived.Test.YtgfmiladfeoldaaGreatDoorPk20
set_option linter.unusedSimpArgs false
set_option linter.unusedVariables false
namespace Go.Proofs.YtgfmiladfeoldaaGreatDoor
open Go.ChangeShapes Go.WideShapes Go.ChangeAt Go.RowKit
theorem own : ownKnob Tryz.prog.godebug = none := by kernel_rfl
theorem kidsS : Kids Tryz.prog (· < Tryz.prog.types.size) := kids_rows (by kernel_rfl) (by kernel_rfl)
theorem fullS : ∀ t e, t < Tryz.prog.types.size → Tryz.prog.underlying t = some (.slice e) → 0 < Tryz.prog.cellsOf e := slices_full_of Tryz.prog (by kernel_rfl)
theorem gSigns : Tryz.prog.globalNamed "trellis/radix.signs" = some 4 := by kernel_rfl
theorem tSigns : (Tryz.prog.globals[4]?).map (·.type) = some 258 := by kernel_rfl
theorem uSigns : Tryz.prog.underlying 258 = some (.array 36 5) := by kernel_rfl
theorem uU8 : Tryz.prog.underlying 5 = some (.int .u8) := by kernel_rfl
theorem cU8 : Tryz.prog.cellsOf 5 = 1 := by kernel_rfl
theorem cSigns : Tryz.prog.cellsOf 258 = 36 := by kernel_rfl
def signZs : List Int := [48, 49, 50, 51, 52, 53, 54, 55, 56, 57, 97, 98, 99, 100, 101, 102, 103, 104, 105, 106, 107, 108, 109, 110, 111, 112, 113, 114, 115, 116, 117, 118, 119, 120, 121, 122]
def laid1 : List (String × DataW Unit) := [("trellis/radix.signs", Rows.laid_trellis_radix_signs)]
theorem lx_of_shaped {w : World} (h : w.ShapedOpen Tryz.prog) : Lx w :=
 Go.Proofs.cell_of_shapedOpen_int (zero := #[.int .i64 0]) (t := 3) h (of_decide_eq_true (by kernel_rfl)) (by kernel_rfl) rfl (by kernel_rfl) (by kernel_rfl) (by kernel_rfl)
theorem sg_of_laid {w : World} (h : laidMetH Tryz.prog laid1 w) : SG w ∧ 4 < w.heap.size := by
 rw [MakeChecks.laidMetH_plain _ _ _ (by kernel_rfl)] at h
 have ht : Lib.TabIs Tryz.prog w "trellis/radix.signs" .u8 signZs := Lib.tabIs_of_head (zs := signZs) gSigns tSigns uSigns uU8 cU8 cSigns h
 have hs : SG w := by
  intro d hd
  have h2 := World.var?_cell gSigns ht d
  rw [h2]
  match d, hd with
  | 0, _ => rfl
  | 1, _ => rfl
  | 2, _ => rfl
  | 3, _ => rfl
  | 4, _ => rfl
  | 5, _ => rfl
  | 6, _ => rfl
  | 7, _ => rfl
  | 8, _ => rfl
  | 9, _ => rfl
 exact ⟨hs, World.block_lt_of_cell? w _ (hs 0 (by omega))⟩
noncomputable def laidWorld (os : Os) : World :=
 { World.holding Tryz.prog os ⟨#[], #[], []⟩ with heap := (World.holding Tryz.prog os ⟨#[], #[], []⟩).heap.modify 4 fun
   | .cells _ t frozen => .cells (signZs.map fun z => Value.int .u8 z).toArray t frozen
   | o => o }
theorem laid_met (os : Os) (args : Array Value) : laidMetH Tryz.prog laid1 ((laidWorld os).forCall (fun _ _ => 0) ⟨#[], args, []⟩).memory := by
 rw [MakeChecks.laidMetH_plain _ _ _ (by kernel_rfl)]
 exact laidMet_of_run' 8 (by kernel_rfl) (by kernel_rfl)
theorem bulk {H : Type} {l : List (DataW H)} (hk : Rows.uptoSmall H l = true) : Rows.uptoBulkAll l ≤ 1048576 := of_decide_eq_true hk
end Go.Proofs.YtgfmiladfeoldaaGreatDoor
namespace Go.Proofs.YtgfmiladfeoldaaGreatDoor
open Go.ChangeShapes Go.WideShapes Go.ChangeAt Go.RowKit LexP Go.Deep
theorem trodAll_again {H : Type} {enc : TypeId × Value → H} {P : Program} {W W' : World} {base : Nat} {sp : Nat → Bool} {hd : Bool} (hb : Below W.heap.size W W') : ∀ {ts : List TypeId} {vs : List Value} {ds : List (DataW H)} {ps : List MemPlace},
  DataW.TrodAll enc P W base sp hd ts vs ds ps → (∀ p ∈ ps, p.block < W.heap.size) → DataW.TrodAll enc P W' base sp hd ts vs ds ps
 | [], [], [], _, h, _ => h
 | _ :: _, _ :: _, _ :: _, _, ⟨p, q, ⟨n, h⟩, hs, e⟩, hlt => by
  subst e
  exact ⟨p, q, ⟨n, DataW.trod_carry n _ _ _ h fun x hx => hb.same (hlt x (List.mem_append_left _ hx))⟩, trodAll_again hb hs (fun x hx => hlt x (List.mem_append_right _ hx)), rfl⟩
 | [], _ :: _, _, _, h, _ => h.elim
 | [], [], _ :: _, _, h, _ => h.elim
 | _ :: _, [], _, _, h, _ => h.elim
 | _ :: _, _ :: _, [], _, h, _ => h.elim
theorem blk_lt {w : World} {a : Addr} {v : Value} (h : w.cell? a = some v) : a.block < w.heap.size := by
 rcases Nat.lt_or_ge a.block w.heap.size with h' | h'
 ·exact h'
 ·simp [World.cell?, Array.getElem?_eq_none h'] at h
theorem cInt : Tryz.prog.cellsOf 3 = 1 := by kernel_rfl
theorem cInts : Tryz.prog.cellsOf 41 = 1 := by kernel_rfl
instance : Inhabited SynP.NI := ⟨⟨0, [], []⟩⟩
theorem bulk_lits {H : Type} (k : IntKind) (zs : List Int) : Rows.uptoBulkAll (lits (H := H) k zs) = zs.length := by
 induction zs with
 | nil => rfl
 | cons a l ih => simp only [lits, List.map_cons, Rows.uptoBulkAll, Rows.uptoBulk, List.length_cons] at ih ⊢; omega
theorem bulk_map {H : Type} (f : Nat → DataW H) (g : Nat → Nat) : ∀ (l : List Nat), (∀ i ∈ l, g i ≤ Rows.uptoBulk (f i)) → (l.map g).sum ≤ Rows.uptoBulkAll (l.map f)
 | [], _ => Nat.le_refl _
 | a :: l, h => by
  have h1 := bulk_map f g l (fun i hi => h i (List.mem_cons_of_mem _ hi))
  have h2 := h a (List.mem_cons_self ..)
  simp only [List.map_cons, List.sum_cons, Rows.uptoBulkAll]
  omega
end Go.Proofs.YtgfmiladfeoldaaGreatDoor
namespace Go.Proofs.YtgfmiladfeoldaaGreatDoor
open Go.ChangeShapes Go.WideShapes Go.ChangeAt Go.RowKit LexP NatP Go.Deep
theorem uWs : Tryz.prog.underlying 59 = some (.slice 101) := by kernel_rfl
theorem uU64 : Tryz.prog.underlying 101 = some (.int .u64) := by kernel_rfl
theorem uBl : Tryz.prog.underlying 4 = some .bool := by kernel_rfl
theorem cU64 : Tryz.prog.cellsOf 101 = 1 := by kernel_rfl
theorem cWs : Tryz.prog.cellsOf 59 = 1 := by kernel_rfl
theorem cBl : Tryz.prog.cellsOf 4 = 1 := by kernel_rfl
theorem cAInt : Tryz.prog.cellsOf 62 = 2 := by kernel_rfl
theorem cFrac : Tryz.prog.cellsOf 71 = 4 := by kernel_rfl
theorem cAInts : Tryz.prog.cellsOf 45 = 1 := by kernel_rfl
theorem cFracs : Tryz.prog.cellsOf 56 = 1 := by kernel_rfl
theorem uAInts : Tryz.prog.underlying 45 = some (.slice 62) := by kernel_rfl
theorem uFracs : Tryz.prog.underlying 56 = some (.slice 71) := by kernel_rfl
theorem uLists : Tryz.prog.underlying 38 = some (.slice 41) := by kernel_rfl
theorem uAInt : ∃ f0 f1 : Field, Tryz.prog.underlying 62 = some (.struct #[f0, f1]) ∧ f0.offset = 0 ∧ f1.offset = 1 ∧ f0.type = 4 ∧ f1.type = 59 := ⟨_, _, Tryz.underlying62, rfl, rfl, rfl, rfl⟩
theorem uFrac : ∃ f0 f1 : Field, Tryz.prog.underlying 71 = some (.struct #[f0, f1]) ∧ f0.offset = 0 ∧ f1.offset = 2 ∧ f0.type = 62 ∧ f1.type = 62 := ⟨_, _, Tryz.underlying71, rfl, rfl, rfl, rfl⟩
theorem uMat : ∃ f0 f1 f2 : Field, Tryz.prog.underlying 47 = some (.struct #[f0, f1, f2]) ∧ f0.offset = 0 ∧ f1.offset = 1 ∧ f2.offset = 2 ∧ f0.type = 3 ∧ f1.type = 3 ∧ f2.type = 45 := ⟨_, _, _, Tryz.underlying47, rfl, rfl, rfl, rfl, rfl, rfl⟩
theorem uQMat : ∃ f0 f1 f2 : Field, Tryz.prog.underlying 58 = some (.struct #[f0, f1, f2]) ∧ f0.offset = 0 ∧ f1.offset = 1 ∧ f2.offset = 2 ∧ f0.type = 3 ∧ f1.type = 3 ∧ f2.type = 56 := ⟨_, _, _, Tryz.underlying58, rfl, rfl, rfl, rfl, rfl, rfl⟩
theorem open_words {H : Type} {enc : TypeId × Value → H} {W : World} {cs : List Value} {fuel : Nat} {x : DataW H × List MemPlace} (h : DataW.trod enc Tryz.prog W 0 (fun _ => true) true fuel 59 cs = some x) :
  ∃ (v : Value) (xs : List Nat), cs = [v] ∧ RdW W v xs ∧ xs.length + 1 ≤ Rows.uptoBulk x.1 := by
 rcases open_ints uWs uU64 cU64 h with ⟨hcs, hx⟩ | ⟨a, len, cap, zs, hcs, -, hl, hm, hz, hx, hcell, hwf⟩
 ·rw [hx]
  exact ⟨_, [], hcs, (Rd.nil W).weak, by simp [Rows.uptoBulk]⟩
 ·simp only [if_true] at hz
  have hb : ∀ z ∈ zs, 0 ≤ z ∧ z ≤ 18446744073709551615 := fun z hz => by
   have hw := hwf z hz
   have hr : IntKind.u64.min ≤ z ∧ z ≤ IntKind.u64.max := by simpa [Lit.wf] using hw
   have e1 : IntKind.u64.min = 0 := rfl
   have e2 : IntKind.u64.max = 18446744073709551615 := rfl
   rw [e1, e2] at hr; exact hr
  refine ⟨_, (zs.take len).map Int.toNat, hcs, ⟨trivial, some a, cap, ?_, ?_, hm, ?_, fun j k hj => ?_⟩, ?_⟩
  ·rw [List.length_map, List.length_take]; congr 1; omega
  ·rw [List.length_map, List.length_take]; omega
  ·intro y hy
   obtain ⟨z, hzm, rfl⟩ := List.mem_map.1 hy
   have := hb z (List.mem_of_mem_take hzm)
   unfold BB; omega
  ·rw [List.getElem?_map] at hj
   obtain ⟨z, hzj, rfl⟩ := Option.map_eq_some_iff.1 hj
   have hjl := (List.getElem?_eq_some_iff.1 hzj).1
   rw [List.length_take] at hjl
   have h0 := hcell 0 (by omega)
   have h1 := hcell j (by omega)
   obtain ⟨g, o, sp⟩ := a
   have hsp : sp = none := by simpa [Addr.add] using World.cell?_spot h0
   subst hsp
   rw [add_ad] at h1
   rw [List.getElem?_take] at hzj
   split at hzj
   ·refine ⟨g, o, rfl, ?_⟩
    rw [h1, List.getD_eq_getElem?_getD, hzj]
    have := hb z (List.mem_of_getElem? hzj)
    simp only [Option.getD_some]
    congr 2; omega
   ·cases hzj
  ·rw [hx]
   simp only [Rows.uptoBulk, bulk_lits, List.length_map, List.length_take]
   omega
set_option maxRecDepth 100000 in
theorem open_nums {H : Type} {enc : TypeId × Value → H} {W : World} {cs : List Value} {fuel : Nat} {x : DataW H × List MemPlace} (h : DataW.trod enc Tryz.prog W 0 (fun _ => true) true fuel 41 cs = some x) :
  ∃ (v : Value) (ks : List Int), cs = [v] ∧ KA W v ks ∧ (∀ k ∈ ks, k ≤ 9223372036854775807) ∧ ks.length + 1 ≤ Rows.uptoBulk x.1 := by
 rcases open_ints (by kernel_rfl : Tryz.prog.underlying 41 = some (.slice 3)) Tryz.underlying3 cInt h with ⟨hcs, hx⟩ | ⟨a, len, cap, zs, hcs, -, hl, hm, hz, hx, hcell, hwf⟩
 ·rw [hx]
  exact ⟨_, [], hcs, ⟨none, 0, rfl, Nat.le_refl _, Nat.zero_le _, fun j k h => by cases h⟩, fun k hk => (by cases hk), by simp [Rows.uptoBulk]⟩
 ·simp only [if_true] at hz
  refine ⟨_, zs.take len, hcs, ⟨some a, cap, by rw [List.length_take]; congr 1; omega, by rw [List.length_take]; omega, hm, fun j k hj => ?_⟩, fun k hk => ?_, ?_⟩
  ·have hjl := (List.getElem?_eq_some_iff.1 hj).1
   rw [List.length_take] at hjl
   have h0 := hcell 0 (by omega)
   have h1 := hcell j (by omega)
   obtain ⟨g, o, sp⟩ := a
   have hsp : sp = none := by simpa [Addr.add] using World.cell?_spot h0
   subst hsp
   rw [add_ad] at h1
   refine ⟨g, o, rfl, blk_lt h1, ?_⟩
   rw [List.getElem?_take] at hj
   split at hj
   ·rw [h1, List.getD_eq_getElem?_getD, hj]; rfl
   ·cases hj
  ·have hw := hwf k (List.mem_of_mem_take hk)
   have hr : IntKind.i64.min ≤ k ∧ k ≤ IntKind.i64.max := by simpa [Lit.wf] using hw
   have e2 : IntKind.i64.max = 9223372036854775807 := rfl
   rw [e2] at hr; exact hr.2
  ·rw [hx]
   simp only [Rows.uptoBulk, bulk_lits, List.length_take]
   omega
set_option maxRecDepth 100000 in
theorem open_aint {H : Type} {enc : TypeId × Value → H} {W : World} {cs : List Value} {fuel : Nat} {x : DataW H × List MemPlace} (h : DataW.trod enc Tryz.prog W 0 (fun _ => true) true fuel 62 cs = some x) :
  ∃ (b : Bool) (m : Value) (xs : List Nat), cs = [.bool b, m] ∧ RdW W m xs ∧ xs.length + 1 ≤ Rows.uptoBulk x.1 := by
 obtain ⟨f0, f1, hu, o0, o1, t0, t1⟩ := uAInt
 obtain ⟨xs, n, -, rfl, hl, hxl, hf⟩ := DataW.trod_struct hu h
 rw [cAInt] at hl
 match xs, hxl, cs, hl with
 | [y0, y1], _, [v0, v1], _ =>
  have g0 := hf 0 f0 rfl
  have g1 := hf 1 f1 rfl
  simp [o0, o1, t0, t1, cBl, cWs] at g0 g1
  obtain ⟨b, e0, rfl⟩ := DataW.trod_bool uBl g0
  obtain ⟨m, zs, e1, hr, hb⟩ := open_words g1
  cases e0
  cases e1
  refine ⟨b, _, zs, rfl, hr, ?_⟩
  simp only [List.map_cons, List.map_nil, Rows.uptoBulk, Rows.uptoBulkAll]
  omega
set_option maxRecDepth 100000 in
theorem open_frac {H : Type} {enc : TypeId × Value → H} {W : World} {cs : List Value} {fuel : Nat} {x : DataW H × List MemPlace} (h : DataW.trod enc Tryz.prog W 0 (fun _ => true) true fuel 71 cs = some x) :
  ∃ (p : FW) (m m2 : Value), cs = [.bool p.1.1, m, .bool p.2.1, m2] ∧ RdW W m p.1.2 ∧ RdW W m2 p.2.2 ∧ p.1.2.length + p.2.2.length + 1 ≤ Rows.uptoBulk x.1 := by
 obtain ⟨f0, f1, hu, o0, o1, t0, t1⟩ := uFrac
 obtain ⟨xs, n, -, rfl, hl, hxl, hf⟩ := DataW.trod_struct hu h
 rw [cFrac] at hl
 match xs, hxl, cs, hl with
 | [y0, y1], _, [v0, v1, v2, v3], _ =>
  have g0 := hf 0 f0 rfl
  have g1 := hf 1 f1 rfl
  simp [o0, o1, t0, t1, cAInt] at g0 g1
  obtain ⟨b, m, zs, e0, hr, hb⟩ := open_aint g0
  obtain ⟨b2, m2, zs2, e1, hr2, hb2⟩ := open_aint g1
  cases e0
  cases e1
  refine ⟨((b, zs), (b2, zs2)), _, _, rfl, hr, hr2, ?_⟩
  simp only [List.map_cons, List.map_nil, Rows.uptoBulk, Rows.uptoBulkAll]
  omega
theorem open_aints {H : Type} {enc : TypeId × Value → H} {W : World} {cs : List Value} {fuel : Nat} {x : DataW H × List MemPlace} (h : DataW.trod enc Tryz.prog W 0 (fun _ => true) true fuel 45 cs = some x) :
  ∃ (v : Value) (l : List (Bool × List Nat)), cs = [v] ∧ IWw W v l ∧ (l.map fun p => p.2.length + 1).sum + 1 ≤ Rows.uptoBulk x.1 := by
 rcases open_slice uAInts h with ⟨hcs, hx⟩ | ⟨a, len, cap, m, n, D, Pl, hcs, -, hl, hm, hmm, hx, hall⟩
 ·rw [hx]
  exact ⟨_, [], hcs, ⟨none, 0, rfl, Nat.le_refl _, Nat.zero_le _, fun h => by simp at h⟩, by simp [Rows.uptoBulk]⟩
 ·have hlm : len ≤ m := by rw [hmm]; split <;> omega
  obtain ⟨q, hq⟩ := choose_lt (n := len) (p := fun i (p : Bool × List Nat) => (∃ mv, W.cell? ((a.add (i * 2)).add 0) = some (.bool p.1) ∧ W.cell? ((a.add (i * 2)).add 1) = some mv ∧ RdW W mv p.2) ∧ p.2.length + 1 ≤ Rows.uptoBulk (D i)) (fun i hi => by
   obtain ⟨cs', h1, h2⟩ := hall i (by omega)
   rw [cAInt] at h1
   obtain ⟨b, mv, xs, rfl, hr, hb⟩ := open_aint h2
   obtain ⟨-, -, hcell⟩ := World.cells?_some h1
   exact ⟨(b, xs), ⟨mv, by simpa using hcell 0 (by omega), by simpa using hcell 1 (by omega), hr⟩, hb⟩)
  refine ⟨_, (List.range len).map q, hcs, ⟨some a, cap, by simp, by simp; exact hl, hm, fun h0 => ?_⟩, ?_⟩
  ·have hl0 : 0 < len := by simpa using h0
   obtain ⟨⟨mv0, c00, -⟩, -⟩ := hq 0 hl0
   obtain ⟨g, o, sp⟩ := a
   have hsp : sp = none := by simpa [Addr.add] using World.cell?_spot c00
   subst hsp
   refine ⟨g, o, rfl, by have := blk_lt c00; rw [add_ad, add_ad] at this; exact this, fun j p hj => ?_⟩
   rw [List.getElem?_map] at hj
   obtain ⟨i, hi, rfl⟩ := Option.map_eq_some_iff.1 hj
   obtain ⟨hi1, hi2⟩ := List.getElem?_eq_some_iff.1 hi
   simp only [List.length_range] at hi1
   simp only [List.getElem_range] at hi2
   subst hi2
   obtain ⟨⟨mv, c0, c1, hr⟩, -⟩ := hq j hi1
   rw [add_ad, add_ad] at c0 c1
   exact ⟨mv, c0, c1, hr⟩
  ·rw [List.map_map, hx]
   have := bulk_map D (fun i => (q i).2.length + 1) (List.range len) (fun i hi => (hq i (List.mem_range.1 hi)).2)
   simp only [Rows.uptoBulk]
   exact Nat.le_trans (Nat.add_le_add_right this 1) (by omega)
theorem open_fracs {H : Type} {enc : TypeId × Value → H} {W : World} {cs : List Value} {fuel : Nat} {x : DataW H × List MemPlace} (h : DataW.trod enc Tryz.prog W 0 (fun _ => true) true fuel 56 cs = some x) :
  ∃ (v : Value) (l : List FW), cs = [v] ∧ QWw W v l ∧ (l.map fun p => p.1.2.length + p.2.2.length + 1).sum + 1 ≤ Rows.uptoBulk x.1 := by
 rcases open_slice uFracs h with ⟨hcs, hx⟩ | ⟨a, len, cap, m, n, D, Pl, hcs, -, hl, hm, hmm, hx, hall⟩
 ·rw [hx]
  exact ⟨_, [], hcs, ⟨none, 0, rfl, Nat.le_refl _, Nat.zero_le _, fun h => by simp at h⟩, by simp [Rows.uptoBulk]⟩
 ·have hlm : len ≤ m := by rw [hmm]; split <;> omega
  obtain ⟨q, hq⟩ := choose_lt (n := len) (p := fun i (p : FW) => (∃ mv mv2, W.cell? ((a.add (i * 4)).add 0) = some (.bool p.1.1) ∧ W.cell? ((a.add (i * 4)).add 1) = some mv ∧ RdW W mv p.1.2 ∧ W.cell? ((a.add (i * 4)).add 2) = some (.bool p.2.1) ∧ W.cell? ((a.add (i * 4)).add 3) = some mv2 ∧ RdW W mv2 p.2.2) ∧ p.1.2.length + p.2.2.length + 1 ≤ Rows.uptoBulk (D i)) (fun i hi => by
   obtain ⟨cs', h1, h2⟩ := hall i (by omega)
   rw [cFrac] at h1
   obtain ⟨p, mv, mv2, rfl, hr, hr2, hb⟩ := open_frac h2
   obtain ⟨-, -, hcell⟩ := World.cells?_some h1
   exact ⟨p, ⟨mv, mv2, by simpa using hcell 0 (by omega), by simpa using hcell 1 (by omega), hr, by simpa using hcell 2 (by omega), by simpa using hcell 3 (by omega), hr2⟩, hb⟩)
  refine ⟨_, (List.range len).map q, hcs, ⟨some a, cap, by simp, by simp; exact hl, hm, fun h0 => ?_⟩, ?_⟩
  ·have hl0 : 0 < len := by simpa using h0
   obtain ⟨⟨mv0, mv1, c00, -⟩, -⟩ := hq 0 hl0
   obtain ⟨g, o, sp⟩ := a
   have hsp : sp = none := by simpa [Addr.add] using World.cell?_spot c00
   subst hsp
   refine ⟨g, o, rfl, by have := blk_lt c00; rw [add_ad, add_ad] at this; exact this, fun j p hj => ?_⟩
   rw [List.getElem?_map] at hj
   obtain ⟨i, hi, rfl⟩ := Option.map_eq_some_iff.1 hj
   obtain ⟨hi1, hi2⟩ := List.getElem?_eq_some_iff.1 hi
   simp only [List.length_range] at hi1
   simp only [List.getElem_range] at hi2
   subst hi2
   obtain ⟨⟨mv, mv2, c0, c1, hr, c2, c3, hr2⟩, -⟩ := hq j hi1
   rw [add_ad, add_ad] at c0 c1 c2 c3
   exact ⟨mv, mv2, c0, c1, hr, c2, c3, hr2⟩
  ·rw [List.map_map, hx]
   have := bulk_map D (fun i => (q i).1.2.length + (q i).2.2.length + 1) (List.range len) (fun i hi => (hq i (List.mem_range.1 hi)).2)
   simp only [Rows.uptoBulk]
   exact Nat.le_trans (Nat.add_le_add_right this 1) (by omega)
set_option maxRecDepth 100000 in
theorem open_lists {H : Type} {enc : TypeId × Value → H} {W : World} {cs : List Value} {fuel : Nat} {x : DataW H × List MemPlace} (h : DataW.trod enc Tryz.prog W 0 (fun _ => true) true fuel 38 cs = some x) :
  ∃ (v : Value) (fs : List (List Int)), cs = [v] ∧ FRd W v fs ∧ (∀ ks ∈ fs, ∀ k ∈ ks, k ≤ 9223372036854775807) ∧ (fs.map fun ks => ks.length + 1).sum + 1 ≤ Rows.uptoBulk x.1 := by
 rcases open_slice1 uLists cInts h with ⟨hcs, hx⟩ | ⟨a, len, cap, m, n, V, D, Pl, hcs, -, hl, hm, hmm, hx, hall⟩
 ·rw [hx]
  exact ⟨_, [], hcs, ⟨none, 0, rfl, Nat.le_refl _, Nat.zero_le _, fun h => by simp at h⟩, fun ks h => (by cases h), by simp [Rows.uptoBulk]⟩
 ·have hlm : len ≤ m := by rw [hmm]; split <;> omega
  obtain ⟨q, hq⟩ := choose_lt (n := len) (p := fun i (ks : List Int) => (W.cell? (a.add i) = some (V i) ∧ KA W (V i) ks) ∧ (∀ k ∈ ks, k ≤ 9223372036854775807) ∧ ks.length + 1 ≤ Rows.uptoBulk (D i)) (fun i hi => by
   obtain ⟨h1, h2⟩ := hall i (by omega)
   obtain ⟨v, ks, e, hr, hk, hb⟩ := open_nums h2
   cases e
   exact ⟨ks, ⟨h1, hr⟩, hk, hb⟩)
  refine ⟨_, (List.range len).map q, hcs, ⟨some a, cap, by simp, by simp; exact hl, hm, fun h0 => ?_⟩, fun ks hks => ?_, ?_⟩
  ·have hl0 : 0 < len := by simpa using h0
   obtain ⟨⟨c00, -⟩, -⟩ := hq 0 hl0
   obtain ⟨g, o, sp⟩ := a
   have hsp : sp = none := by simpa [Addr.add] using World.cell?_spot c00
   subst hsp
   refine ⟨g, o, rfl, by have := blk_lt c00; rw [add_ad] at this; exact this, fun j hj => ?_⟩
   have hj' : j < len := by simpa using hj
   obtain ⟨⟨c0, hr⟩, -⟩ := hq j hj'
   rw [add_ad] at c0
   exact ⟨_, c0, q j, by rw [List.getElem?_map, List.getElem?_range hj']; rfl, hr⟩
  ·obtain ⟨j, hj, rfl⟩ := List.mem_map.1 hks
   exact (hq j (List.mem_range.1 hj)).2.1
  ·rw [List.map_map, hx]
   have := bulk_map D (fun i => (q i).length + 1) (List.range len) (fun i hi => (hq i (List.mem_range.1 hi)).2.2)
   simp only [Rows.uptoBulk]
   exact Nat.le_trans (Nat.add_le_add_right this 1) (by omega)
set_option maxRecDepth 100000 in
theorem open_mat {H : Type} {enc : TypeId × Value → H} {W : World} {v : Value} {d : DataW H} {p : List MemPlace} (hv : Value.okWide Tryz.prog W .any 0 47 v) (h : DataW.Trod enc Tryz.prog W 0 (fun _ => true) true 47 v d p) :
  ∃ (r c : Int) (av : Value) (l : List (Bool × List Nat)), v = .agg #[.int .i64 r, .int .i64 c, av] ∧ IWw W av l ∧ (l.map fun p => p.2.length + 1).sum + 1 ≤ Rows.uptoBulk d := by
 obtain ⟨f0, f1, f2, hu, o0, o1, o2, t0, t1, t2⟩ := uMat
 obtain ⟨⟨cs⟩, rfl, hcs⟩ := okWide_struct hu hv
 obtain ⟨fuel, h⟩ := h
 change DataW.trod enc Tryz.prog W 0 (fun _ => true) true fuel 47 cs = some (d, p) at h
 obtain ⟨xs, n, -, hd, hl, hxl, hf⟩ := DataW.trod_struct hu h
 rw [show Tryz.prog.cellsOf 47 = 3 by kernel_rfl] at hl
 simp only [Prod.mk.injEq] at hd
 obtain ⟨rfl, -⟩ := hd
 match xs, hxl, cs, hl with
 | [y0, y1, y2], _, [v0, v1, v2], _ =>
  have g0 := hf 0 f0 rfl
  have g1 := hf 1 f1 rfl
  have g2 := hf 2 f2 rfl
  simp [o0, o1, o2, t0, t1, t2, cInt, cAInts] at g0 g1 g2
  obtain ⟨r, e0, rfl, -⟩ := DataW.trod_int Tryz.underlying3 g0
  obtain ⟨c, e1, rfl, -⟩ := DataW.trod_int Tryz.underlying3 g1
  obtain ⟨av, l, e2, hr, hb⟩ := open_aints g2
  cases e0
  cases e1
  cases e2
  refine ⟨r, c, _, l, rfl, hr, ?_⟩
  simp only [List.map_cons, List.map_nil, Rows.uptoBulk, Rows.uptoBulkAll]
  omega
set_option maxRecDepth 100000 in
theorem open_qmat {H : Type} {enc : TypeId × Value → H} {W : World} {v : Value} {d : DataW H} {p : List MemPlace} (hv : Value.okWide Tryz.prog W .any 0 58 v) (h : DataW.Trod enc Tryz.prog W 0 (fun _ => true) true 58 v d p) :
  ∃ (r c : Int) (av : Value) (l : List FW), v = .agg #[.int .i64 r, .int .i64 c, av] ∧ QWw W av l ∧ (l.map fun p => p.1.2.length + p.2.2.length + 1).sum + 1 ≤ Rows.uptoBulk d := by
 obtain ⟨f0, f1, f2, hu, o0, o1, o2, t0, t1, t2⟩ := uQMat
 obtain ⟨⟨cs⟩, rfl, hcs⟩ := okWide_struct hu hv
 obtain ⟨fuel, h⟩ := h
 change DataW.trod enc Tryz.prog W 0 (fun _ => true) true fuel 58 cs = some (d, p) at h
 obtain ⟨xs, n, -, hd, hl, hxl, hf⟩ := DataW.trod_struct hu h
 rw [show Tryz.prog.cellsOf 58 = 3 by kernel_rfl] at hl
 simp only [Prod.mk.injEq] at hd
 obtain ⟨rfl, -⟩ := hd
 match xs, hxl, cs, hl with
 | [y0, y1, y2], _, [v0, v1, v2], _ =>
  have g0 := hf 0 f0 rfl
  have g1 := hf 1 f1 rfl
  have g2 := hf 2 f2 rfl
  simp [o0, o1, o2, t0, t1, t2, cInt, cFracs] at g0 g1 g2
  obtain ⟨r, e0, rfl, -⟩ := DataW.trod_int Tryz.underlying3 g0
  obtain ⟨c, e1, rfl, -⟩ := DataW.trod_int Tryz.underlying3 g1
  obtain ⟨av, l, e2, hr, hb⟩ := open_fracs g2
  cases e0
  cases e1
  cases e2
  refine ⟨r, c, _, l, rfl, hr, ?_⟩
  simp only [List.map_cons, List.map_nil, Rows.uptoBulk, Rows.uptoBulkAll]
  omega
theorem sum_part {α : Type} (f : α → Nat) : ∀ {l : List α} {M : Nat}, (l.map fun p => f p + 1).sum ≤ M → l.length ≤ M ∧ ∀ x ∈ l, f x + 1 ≤ M
 | [], _, _ => ⟨Nat.zero_le _, fun x hx => by cases hx⟩
 | a :: l, M, h => by
  simp only [List.map_cons, List.sum_cons] at h
  obtain ⟨h1, h2⟩ := sum_part f (l := l) (M := (l.map fun p => f p + 1).sum) (Nat.le_refl _)
  refine ⟨by simp only [List.length_cons]; omega, fun x hx => ?_⟩
  rcases List.mem_cons.1 hx with rfl | hx
  ·omega
  ·have := h2 x hx; omega
end Go.Proofs.YtgfmiladfeoldaaGreatDoor
