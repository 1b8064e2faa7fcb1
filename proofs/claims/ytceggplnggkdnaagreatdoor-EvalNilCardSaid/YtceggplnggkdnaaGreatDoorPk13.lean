/- Joined texts of this claim's proof: RdM, RdA, Num12, Num13, RdB, RdP. -/
import Derived.Test.YtceggplnggkdnaaGreatDoorPk11
import Derived.Test.YtceggplnggkdnaaGreatDoorPk12
import Derived.Test.YtceggplnggkdnaaGreatDoorPk9
import Derived.Test.YtceggplnggkdnaaGreatDoorPk1
import Derived.Maps.AppendAt
import Derived.Lib.OthersKept
import Derived.Test.YtceggplnggkdnaaGreatDoorPk10
set_option linter.unusedSimpArgs false
set_option linter.unusedVariables false
namespace Go.Proofs.YtceggplnggkdnaaGreatDoor
open Go.RowKit NatP LexP
theorem Wr.weak {R : Nat} {w w' : World} (h : Wr R none w w') (og : Option Nat) : Wr R og w w' := ⟨h.os, h.tape, h.output, h.size, fun k hk hR _ => h.block k hk hR (by simp)⟩
def KR (w : World) (R : Nat) (og : Option Nat) (v : Value) (ks : List Nat) : Prop := ∃ ao cap, v = .slice ao ks.length cap ∧ ks.length ≤ cap ∧ cap ≤ maxLen ∧ (∀ q, v.ownBlock = some q → R < q ∧ q < w.heap.size ∧ og ≠ some q) ∧ (0 < ks.length → ∃ g, ao = some ⟨g, 0, none⟩ ∧ ∀ j k, ks[j]? = some k → w.cell? ⟨g, j, none⟩ = some (.int .i64 (k : Nat)))
theorem KR.wr {w w' : World} {R : Nat} {og og' : Option Nat} {v : Value} {ks : List Nat} (h : KR w R og v ks) (hw : Wr R og w w') (hm : Mv w og og') : KR w' R og' v ks := by
 obtain ⟨ao, cap, rfl, h1, h2, h3, h4⟩ := h
 refine ⟨ao, cap, rfl, h1, h2, fun q hq => ⟨(h3 q hq).1, Nat.lt_of_lt_of_le (h3 q hq).2.1 hw.size, fun e => ?_⟩, fun h0 => ?_⟩
 ·rcases hm q e with h | h
  ·exact (h3 q hq).2.2 h
  ·have := (h3 q hq).2.1; omega
 ·obtain ⟨g, rfl, h5⟩ := h4 h0
  have h6 := h3 g rfl
  exact ⟨g, rfl, fun j k hj => (World.cell?_of_block (hw.block g h6.2.1 (by omega) (fun e => h6.2.2 e.symm))).trans (h5 j k hj)⟩
abbrev Nv := SynP.Node × Value
def ndCells (l : List Nv) : List Value := l.flatMap fun p => [.int .i64 (p.1.op : Nat), .string ⟨p.1.text.toArray⟩, p.2]
theorem ndCells_app (a b : List Nv) : ndCells (a ++ b) = ndCells a ++ ndCells b := by simp [ndCells]
def TkR (w : World) (R : Nat) (v : Value) (L : List Tok) : Prop := ∃ ao cap, v = .slice ao L.length cap ∧ L.length ≤ cap ∧ cap ≤ maxLen ∧ (0 < L.length → ∃ g, ao = some ⟨g, 0, none⟩ ∧ g < R ∧ ∀ j t, L[j]? = some t → w.cell? ⟨g, j * 3, none⟩ = some (.int .i64 (t.1 : Nat)) ∧ w.cell? ⟨g, j * 3 + 1, none⟩ = some (.string ⟨t.2.1.toArray⟩) ∧ w.cell? ⟨g, j * 3 + 2, none⟩ = some (.int .i64 (t.2.2 : Nat)))
theorem TkR.wr {w w' : World} {R : Nat} {og : Option Nat} {v : Value} {L : List Tok} (h : TkR w R v L) (hw : Wr R og w w') (hR : R < w.heap.size) (ho : ∀ q, og = some q → R < q) : TkR w' R v L := by
 obtain ⟨ao, cap, rfl, h1, h2, h3⟩ := h
 refine ⟨ao, cap, rfl, h1, h2, fun h0 => ?_⟩
 obtain ⟨g, rfl, h5, h6⟩ := h3 h0
 have hb := hw.block g (by omega) (by omega) (fun e => by have := ho g e.symm; omega)
 exact ⟨g, rfl, h5, fun j t hj => ⟨(World.cell?_of_block hb).trans (h6 j t hj).1, (World.cell?_of_block hb).trans (h6 j t hj).2.1, (World.cell?_of_block hb).trans (h6 j t hj).2.2⟩⟩
def TokOk (t : Tok) : Prop := t.1 = 1 → numRun t.2.1 ∧ 0 < t.2.1.length ∧ t.2.1.length ≤ 67108864 ∧ anyBad t.2.1 = false
structure RS (w : World) (R : Nat) (lv : Value) (L : List Tok) (fin : Nat) (a : Nat) (s : SynP.St) (nv : Value) (ns : List Nv) : Prop where
 blk : w.heap[R]? = some (.cells #[lv, .int .i64 (a : Nat), .int .i64 (fin : Nat), .int .i64 (s.opened : Nat), nv] 109 (0, 0))
 tks : TkR w R lv L
 drop : L.drop a = s.ts
 le : a ≤ L.length
 own : w.ownsRow (R + 1) 70 3 nv ns.length (ndCells ns)
 kids : ∀ p ∈ ns, KR w R nv.ownBlock p.2 p.1.kids
 apart : ∀ (i j : Nat) (p q : Nv) (k : Nat), ns[i]? = some p → ns[j]? = some q → p.2.ownBlock = some k → q.2.ownBlock = some k → i = j
 few : ns.length + s.ts.length ≤ 134217728
 deep : s.opened ≤ 100
 short : L.length ≤ 67108864
 sum : (L.map fun t => t.2.1.length + 1).sum ≤ 201326592
 good : ∀ t ∈ L, TokOk t
 sg : SG w
 sgl : 6 < R
theorem RS.lt {w : World} {R : Nat} {lv : Value} {L : List Tok} {fin a : Nat} {s : SynP.St} {nv : Value} {ns : List Nv} (h : RS w R lv L fin a s nv ns) : R < w.heap.size := (Array.getElem?_eq_some_iff.1 h.blk).1
theorem RS.gt {w : World} {R : Nat} {lv : Value} {L : List Tok} {fin a : Nat} {s : SynP.St} {nv : Value} {ns : List Nv} (h : RS w R lv L fin a s nv ns) : ∀ q, nv.ownBlock = some q → R < q := fun q hq => by have := h.own.lt q hq; omega
theorem RS.cells {w : World} {R : Nat} {lv : Value} {L : List Tok} {fin a : Nat} {s : SynP.St} {nv : Value} {ns : List Nv} (h : RS w R lv L fin a s nv ns) :
  w.cell? ⟨R, 0, none⟩ = some lv ∧ w.cell? ⟨R, 1, none⟩ = some (.int .i64 (a : Nat)) ∧ w.cell? ⟨R, 2, none⟩ = some (.int .i64 (fin : Nat)) ∧ w.cell? ⟨R, 3, none⟩ = some (.int .i64 (s.opened : Nat)) ∧ w.cell? ⟨R, 4, none⟩ = some nv := by
 refine ⟨?_, ?_, ?_, ?_, ?_⟩ <;> rw [cell_of_row w R _ _ _ _ h.blk] <;> rfl
theorem RS.fro {w : World} {R : Nat} {lv : Value} {L : List Tok} {fin a : Nat} {s : SynP.St} {nv : Value} {ns : List Nv} (h : RS w R lv L fin a s nv ns) (o : Nat) : w.frozen? ⟨R, o, none⟩ = false := frozen_of_row w R o _ _ h.blk
theorem RS.below {w w' : World} {R : Nat} {lv : Value} {L : List Tok} {fin a : Nat} {s : SynP.St} {nv : Value} {ns : List Nv} (h : RS w R lv L fin a s nv ns) (hb : Below w.heap.size w w') : RS w' R lv L fin a s nv ns where
 blk := (hb.block R h.lt).trans h.blk
 tks := h.tks.wr (Wr.of_below (R := R) (og := nv.ownBlock) hb) h.lt h.gt
 drop := h.drop
 le := h.le
 own := h.own.kept (row := none) ⟨hb.os, hb.tape, hb.output, hb.size, fun k hk _ => hb.block k hk⟩ (by cases nv.ownBlock <;> simp)
 kids := fun p hp => (h.kids p hp).wr (Wr.of_below hb) (Mv.refl _ _)
 apart := h.apart
 few := h.few
 deep := h.deep
 short := h.short
 sum := h.sum
 good := h.good
 sg := h.sg.below hb (Nat.lt_trans h.sgl h.lt)
 sgl := h.sgl
theorem RS.setN {w : World} {R : Nat} {lv : Value} {L : List Tok} {fin a : Nat} {s : SynP.St} {nv : Value} {ns : List Nv} (h : RS w R lv L fin a s nv ns) (o : Nat) (u : Value) (a' : Nat) (s' : SynP.St)
  (hb : (#[lv, .int .i64 (a : Nat), .int .i64 (fin : Nat), .int .i64 (s.opened : Nat), nv] : Array Value).setIfInBounds o u = #[lv, .int .i64 (a' : Nat), .int .i64 (fin : Nat), .int .i64 (s'.opened : Nat), nv])
  (hd : L.drop a' = s'.ts) (hl : a' ≤ L.length) (hf : ns.length + s'.ts.length ≤ 134217728) (hp : s'.opened ≤ 100) :
  RS (w.setCell ⟨R, o, none⟩ u) R lv L fin a' s' nv ns ∧ Wr R none w (w.setCell ⟨R, o, none⟩ u) := by
 have hset := heap_setCell_same w R o #[lv, .int .i64 (a : Nat), .int .i64 (fin : Nat), .int .i64 (s.opened : Nat), nv] 109 u h.blk
 have hw := Wr.of_set (R := R) (og := nv.ownBlock) w o u
 refine ⟨⟨hset.trans (by rw [hb]), h.tks.wr hw h.lt h.gt, hd, hl, ownsRow_setCell_below h.own (by simp) _, fun p hp => (h.kids p hp).wr hw (Mv.refl _ _), h.apart, hf, hp, h.short, h.sum, h.good, h.sg.wr hw (Nat.ne_of_lt h.sgl) (fun e => by have := h.gt _ e; have := h.sgl; omega), h.sgl⟩, Wr.of_set w o u⟩
theorem RS.reset {w w' : World} {R : Nat} {lv : Value} {L : List Tok} {fin a : Nat} {s : SynP.St} {nv : Value} {ns : List Nv} (h : RS w R lv L fin a s nv ns) (hw : Wr R none w w') {a' : Nat} {s' : SynP.St}
  (hb : w'.heap[R]? = some (.cells #[lv, .int .i64 (a' : Nat), .int .i64 (fin : Nat), .int .i64 (s'.opened : Nat), nv] 109 (0, 0))) (hd : L.drop a' = s'.ts) (hl : a' ≤ L.length) (hf : ns.length + s'.ts.length ≤ 134217728) (hp : s'.opened ≤ 100) :
  RS w' R lv L fin a' s' nv ns where
 blk := hb
 tks := h.tks.wr hw h.lt (fun q hq => by cases hq)
 drop := hd
 le := hl
 own := by
  refine ⟨h.own.1, ?_⟩
  rcases h.own.2 with hn | ⟨g, cap, cur, rfl, hb, hgg, rest⟩
  ·exact .inl hn
  ·exact .inr ⟨g, cap, cur, rfl, hb, (hw.block g (Array.getElem?_eq_some_iff.1 hgg).1 (by omega) (by simp)).trans hgg, rest⟩
 kids := fun p hp => (h.kids p hp).wr (hw.weak _) (Mv.refl _ _)
 apart := h.apart
 few := hf
 deep := hp
 short := h.short
 sum := h.sum
 good := h.good
 sg := h.sg.wr hw (Nat.ne_of_lt h.sgl) (by simp)
 sgl := h.sgl
theorem below_drewN (w : World) (n : Nat) : Below w.heap.size w (w.drewN n) := ⟨rfl, rfl, rfl, Nat.le_refl _, fun _ _ => rfl⟩
set_option maxRecDepth 100000 in
theorem rd_done (R : Nat) (lv : Value) (L : List Tok) (fin a : Nat) (s : SynP.St) (nv : Value) (ns : List Nv) (w : World) (h : RS w R lv L fin a s nv ns) :
  Calls Tryz.prog 87 #[.pointer (some ⟨R, 0, none⟩)] w fun e w' => e = .returned (.bool (decide (s.ts = []))) ∧ Below w.heap.size w w' := by
 have H := Lib.hid h
 obtain ⟨c0, c1, -, -, -⟩ := h.cells
 obtain ⟨ao, cap, rfl, t1, t2, -⟩ := h.tks
 have hd : decide (L.length ≤ a) = decide (s.ts = []) := by
  rw [← h.drop]; simp
 have HD := Lib.hid hd
 clear hd
 clear h
 go_enter Tryz.func87, Tryz.ntmps87
 go_wp2_with fail
 go_region
 go_wp2_with fail
 go_ret
 exact ⟨by rw [← HD.out]; rfl, ⟨rfl, rfl, rfl, Nat.le_refl _, fun _ _ => rfl⟩⟩
set_option maxRecDepth 100000 in
theorem col_raw (R : Nat) (lv : Value) (L : List Tok) (fin a : Nat) (ts : List Tok) (w : World) (c0 : w.cell? ⟨R, 0, none⟩ = some lv) (c1 : w.cell? ⟨R, 1, none⟩ = some (.int .i64 (a : Nat))) (c2 : w.cell? ⟨R, 2, none⟩ = some (.int .i64 (fin : Nat))) (tks : TkR w R lv L) (hdr : L.drop a = ts) (hle : a ≤ L.length) :
  Calls Tryz.prog 181 #[.pointer (some ⟨R, 0, none⟩)] w fun e w' => e = .returned (.int .i64 (SynP.colOf fin ts : Nat)) ∧ Below w.heap.size w w' := by
 obtain ⟨ao, cap, rfl, t1, t2, t3⟩ := tks
 by_cases hn : a < L.length
 ·obtain ⟨g, rfl, hg, hc⟩ := t3 (by omega)
  obtain ⟨t, ht⟩ : ∃ t, L[a]? = some t := ⟨_, List.getElem?_eq_getElem hn⟩
  obtain ⟨-, -, d2⟩ := hc a t ht
  have HCOL : Hid (SynP.colOf fin ts = t.2.2) := by
   show _ = _
   rw [← hdr, List.drop_eq_getElem?_toList_append, ht]; rfl
  clear hc t3 hdr
  go_enter Tryz.func181, Tryz.ntmps181
  go_wp2_with fail
  go_region
  go_wp2_with fail
  go_region
  go_wp2_with fail
  go_ret
  exact ⟨by rw [HCOL.out]; rfl, ⟨rfl, rfl, rfl, Nat.le_refl _, fun _ _ => rfl⟩⟩
 ·have HCOL : Hid (SynP.colOf fin ts = fin) := by
   show _ = _
   rw [← hdr, List.drop_eq_nil_of_le (by omega)]; rfl
  clear t3 hdr
  go_enter Tryz.func181, Tryz.ntmps181
  go_wp2_with fail
  go_region
  go_wp2_with fail
  go_ret
  exact ⟨by rw [HCOL.out]; rfl, ⟨rfl, rfl, rfl, Nat.le_refl _, fun _ _ => rfl⟩⟩
theorem rd_col (R : Nat) (lv : Value) (L : List Tok) (fin a : Nat) (s : SynP.St) (nv : Value) (ns : List Nv) (w : World) (h : RS w R lv L fin a s nv ns) :
  Calls Tryz.prog 181 #[.pointer (some ⟨R, 0, none⟩)] w fun e w' => e = .returned (.int .i64 (SynP.colOf fin s.ts : Nat)) ∧ Below w.heap.size w w' :=
 col_raw R lv L fin a s.ts w h.cells.1 h.cells.2.1 h.cells.2.2.1 h.tks h.drop h.le
end Go.Proofs.YtceggplnggkdnaaGreatDoor
namespace Go.Proofs.YtceggplnggkdnaaGreatDoor
open Go.RowKit NatP LexP
def comesP (i kind : Nat) (x : Bytes) (ts : List Tok) : Bool := match ts.drop i with | (k, t, _) :: _ => k == kind && (kind != 3 || t == x) | [] => false
theorem comes_mark (x : Bytes) (ts : List Tok) : comesP 0 3 x ts = SynP.isMark x ts := by
 cases ts with
 | nil => rfl
 | cons t l => obtain ⟨k, t, c⟩ := t; simp [comesP, SynP.isMark]
theorem comes_mark1 (x : Bytes) (ts : List Tok) : comesP 1 3 x ts = SynP.isMark x ts.tail := by
 cases ts with
 | nil => rfl
 | cons t l => rw [← comes_mark]; rfl
theorem comes_kind (k : Nat) (x : Bytes) (ts : List Tok) (hk : k ≠ 3) : comesP 0 k x ts = SynP.isKind k ts := by
 cases ts with
 | nil => rfl
 | cons t l => obtain ⟨j, t, c⟩ := t; simp [comesP, SynP.isKind, hk]
theorem Below.drew2 {B : Nat} {w w' : World} (h : Below B w w') : Below B w w'.drew.drew := ⟨h.os, h.tape, h.output, h.size, h.block⟩
set_option maxRecDepth 100000 in
set_option maxHeartbeats 2000000 in
theorem rd_comes (R : Nat) (lv : Value) (L : List Tok) (fin a : Nat) (s : SynP.St) (nv : Value) (ns : List Nv) (w : World) (h : RS w R lv L fin a s nv ns) (i kind : Nat) (x : Bytes) (hi : i ≤ 1) (hk : kind ≤ 3) :
    Calls Tryz.prog 89 #[.pointer (some ⟨R, 0, none⟩), .int .i64 (i : Nat), .int .i64 (kind : Nat), .string ⟨x.toArray⟩] w fun e w' => e = .returned (.bool (comesP i kind x s.ts)) ∧ Below w.heap.size w w' := by
  have H := Lib.hid h
  obtain ⟨c0, c1, -, -, -⟩ := h.cells
  obtain ⟨ao, cap, rfl, t1, t2, t3⟩ := h.tks
  have hle := h.le
  have hsh := h.short
  by_cases hn : a + i < L.length
  · obtain ⟨g, rfl, hg, hc⟩ := t3 (by omega)
    obtain ⟨t, ht⟩ : ∃ t, L[a + i]? = some t := ⟨_, List.getElem?_eq_getElem hn⟩
    obtain ⟨d0, d1, d2⟩ := hc (a + i) t ht
    obtain ⟨tk, tt, tc⟩ := t
    have HC : Hid (comesP i kind x s.ts = (tk == kind && (kind != 3 || tt == x))) := by
      show _ = _
      unfold comesP
      rw [← h.drop, List.drop_drop, List.drop_eq_getElem?_toList_append, ht]; rfl
    have hRl := h.lt
    have hgl : g < w.heap.size := by omega
    obtain ⟨m, hm⟩ : ∃ m, m = a + i := ⟨_, rfl⟩
    have E1 : IntKind.i64.wrap ((a : Int) + (i : Int)) = (m : Int) := by rw [hm]; exact (IntWalk.i64_in _ (by omega)).trans (by omega)
    have E2 : (a : Int) + (i : Int) = (m : Int) := by omega
    rw [← hm] at d0 d1 d2 hn
    have HMM := Lib.hid hm
    clear h hc t3 ht hm
    go_enter Tryz.func89, Tryz.ntmps89
    go_wp2_with fail
    go_region
    go_wp2_with fail
    go_region
    go_wp2_with fail
    all_goals
      go_ret
      refine ⟨?_, Below.drew2 (below_alloc _ _)⟩
      rw [HC.out]
      show Ending.returned (Value.bool _) = Ending.returned (Value.bool _)
      congr 2
      first
        | (have q1 : tk = kind := by omega
           have q2 : kind = 3 := by omega
           subst q1; subst q2; simp)
        | (have q1 : tk = kind := by omega
           have q2 : kind ≠ 3 := by omega
           subst q1; simp [q2])
        | (have q1 : tk ≠ kind := by omega
           simp [q1])
  · have HC : Hid (comesP i kind x s.ts = false) := by
      show _ = _
      unfold comesP
      rw [← h.drop, List.drop_drop, List.drop_eq_nil_of_le (by omega)]
    have hRl := h.lt
    obtain ⟨m, hm⟩ : ∃ m, m = a + i := ⟨_, rfl⟩
    have E1 : IntKind.i64.wrap ((a : Int) + (i : Int)) = (m : Int) := by rw [hm]; exact (IntWalk.i64_in _ (by omega)).trans (by omega)
    have E2 : (a : Int) + (i : Int) = (m : Int) := by omega
    rw [← hm] at hn
    have HMM := Lib.hid hm
    clear h t3 hm
    go_enter Tryz.func89, Tryz.ntmps89
    go_wp2_with fail
    go_region
    go_wp2_with fail
    go_ret
    exact ⟨by rw [HC.out]; rfl, ⟨rfl, rfl, rfl, Nat.le_refl _, fun _ _ => rfl⟩⟩
set_option maxRecDepth 100000 in
theorem rd_mark (R : Nat) (lv : Value) (L : List Tok) (fin a : Nat) (s : SynP.St) (nv : Value) (ns : List Nv) (w : World) (h : RS w R lv L fin a s nv ns) (x : Bytes) :
  Calls Tryz.prog 330 #[.pointer (some ⟨R, 0, none⟩), .string ⟨x.toArray⟩] w fun e w' => e = .returned (.bool (SynP.isMark x s.ts)) ∧ Below w.heap.size w w' := by
 have H := Lib.hid h
 clear h
 go_enter Tryz.func330, Tryz.ntmps330
 go_wp2_with fail
 refine (rd_comes R lv L fin a s nv ns _ H.out 0 3 x (by omega) (by omega)).mono ?_
 rintro e w1 ⟨rfl, hb⟩
 rw [comes_mark]
 have HB := Lib.hid hb
 clear hb
 go_wp2_with fail
 go_ret
 exact ⟨rfl, HB.out⟩
def TakeP (R : Nat) (lv : Value) (L : List Tok) (fin a : Nat) (s : SynP.St) (nv : Value) (ns : List Nv) (x : Bytes) (w : World) (e : Ending) (w' : World) : Prop :=
 e = .returned (.bool (SynP.isMark x s.ts)) ∧ Wr R none w w' ∧ (if SynP.isMark x s.ts then RS w' R lv L fin (a + 1) s.adv nv ns else RS w' R lv L fin a s nv ns)
theorem drop_succ {L ts : List Tok} {a : Nat} (h : L.drop a = ts) (h0 : ts ≠ []) : L.drop (a + 1) = ts.tail ∧ a + 1 ≤ L.length ∧ ts.tail.length + 1 = ts.length := by
 subst h
 refine ⟨by rw [List.tail_drop], ?_, ?_⟩
 ·rcases Nat.lt_or_ge a L.length with h | h
  ·exact h
  ·exact absurd (List.drop_eq_nil_of_le h) h0
 ·rw [List.length_tail]
  have := List.length_pos_iff.2 h0
  omega
theorem isMark_ne {x : Bytes} {ts : List Tok} (h : SynP.isMark x ts = true) : ts ≠ [] := fun e => by subst e; cases h
theorem isKind_ne {k : Nat} {ts : List Tok} (h : SynP.isKind k ts = true) : ts ≠ [] := fun e => by subst e; cases h
theorem RS.adv {w : World} {R : Nat} {lv : Value} {L : List Tok} {fin a : Nat} {s : SynP.St} {nv : Value} {ns : List Nv} (h : RS w R lv L fin a s nv ns) (h0 : s.ts ≠ []) :
  RS (w.setCell ⟨R, 1, none⟩ (.int .i64 ((a + 1 : Nat) : Int))) R lv L fin (a + 1) s.adv nv ns ∧ Wr R none w (w.setCell ⟨R, 1, none⟩ (.int .i64 ((a + 1 : Nat) : Int))) := by
 obtain ⟨q1, q2, q3⟩ := drop_succ h.drop h0
 exact h.setN 1 _ (a + 1) s.adv (by simp [SynP.St.adv]) q1 q2 (by have := h.few; show ns.length + s.ts.tail.length ≤ _; omega) h.deep
set_option maxRecDepth 100000 in
theorem rd_take (R : Nat) (lv : Value) (L : List Tok) (fin a : Nat) (s : SynP.St) (nv : Value) (ns : List Nv) (w : World) (h : RS w R lv L fin a s nv ns) (x : Bytes) :
  Calls Tryz.prog 179 #[.pointer (some ⟨R, 0, none⟩), .string ⟨x.toArray⟩] w (TakeP R lv L fin a s nv ns x w) := by
 have H := Lib.hid h
 have hle := h.le
 have hsh := h.short
 clear h
 cases hm : SynP.isMark x s.ts with
 | false =>
  have HM := Lib.hid hm
  clear hm
  go_enter Tryz.func179, Tryz.ntmps179
  go_wp2_with fail
  refine (rd_mark R lv L fin a s nv ns _ H.out x).mono ?_
  rintro e w1 ⟨rfl, hb⟩
  rw [HM.out]
  have HB := Lib.hid hb
  clear hb
  go_wp2_with fail
  go_ret
  exact ⟨by rw [HM.out]; rfl, Wr.of_below HB.out, by rw [if_neg (by rw [HM.out]; decide)]; exact H.out.below HB.out⟩
 | true =>
  have HM := Lib.hid hm
  clear hm
  go_enter Tryz.func179, Tryz.ntmps179
  go_wp2_with fail
  refine (rd_mark R lv L fin a s nv ns _ H.out x).mono ?_
  rintro e w1 ⟨rfl, hb⟩
  rw [HM.out]
  have HB := Lib.hid hb
  have HS := Lib.hid (H.out.below hb)
  have c1 := HS.out.cells.2.1
  have f1 := HS.out.fro 1
  clear hb
  go_wp2_with fail
  go_ret
  obtain ⟨g1, g2⟩ := HS.out.adv (isMark_ne HM.out)
  exact ⟨by rw [HM.out]; rfl, (Wr.of_below HB.out).trans (Mv.refl _ _) g2, by rw [if_pos HM.out]; exact g1⟩
end Go.Proofs.YtceggplnggkdnaaGreatDoor
namespace Go.Proofs.YtceggplnggkdnaaGreatDoor
open Go.RowKit NatP
theorem Tryz.infoB : (Tryz.prog.info? 5).map (fun i => (i.zero, i.size, i.bytes)) = some (some (.int .u8 0), 1, 1) := by kernel_rfl
def ds8 (l : List Nat) : List Value := l.map fun d => .int .u8 (d : Nat)
theorem ds8_append (a b : List Nat) : ds8 (a ++ b) = ds8 a ++ ds8 b := by simp [ds8]
theorem grown_iterAt (w : World) (k : Nat) (s : ByteArray) (pos : Nat) : w.grownBy (w.iterAt k s pos) (some k) :=
 ⟨rfl, rfl, rfl, by rw [Lib.iterAt_size]; exact Nat.le_refl _, fun j _ hj => Lib.iterAt_other w k j s pos (fun e => hj (by rw [e]))⟩
theorem rdD_own {B : Nat} {w : World} {v : Value} {ds : List Nat} (h : w.ownsRow B 5 1 v ds.length (ds8 ds)) (hd : ∀ x ∈ ds, x < 10) : RdD w v ds := by
 obtain ⟨ao, cap, rfl, hnc, hcm, hsh⟩ := LexP.ownsRow_shape h
 refine ⟨fun k hk => (h.lt k hk).2, ao, cap, rfl, hnc, hcm, hd, fun i x hx => ?_⟩
 have hlt : i < ds.length := (List.getElem?_eq_some_iff.1 hx).1
 obtain ⟨g, hao, _, _, hcell⟩ := hsh (by omega)
 refine ⟨g, 0, hao, ?_⟩
 rw [Nat.zero_add, hcell i (by omega)]
 simp [ds8, hx]
def ItRel (s : ByteArray) (w : World) (k : Nat) (f : Nat → List Nat) (dv : Value) (wr : World) : Prop :=
 ∃ pos, pos ≤ s.size ∧ wr.heap[k]? = some (.stringIter s pos) ∧ Below w.heap.size w wr ∧ wr.ownsRow w.heap.size 5 1 dv (f pos).length (ds8 (f pos)) ∧ dv.ownBlock ≠ some k
theorem iterPos_at {w : World} {k : Nat} {s : ByteArray} {p : Nat} (h : w.heap[k]? = some (.stringIter s p)) : w.iterPos k = p := by simp [World.iterPos, h]
def ReadPost10 (n : Nat) (w : World) (e : Ending) (w' : World) : Prop := ∃ v xs, e = .returned (.tuple #[v, .int .i64 0]) ∧ Fr w.heap.size w' v xs ∧ val xs = n ∧ strip xs = xs ∧ Below w.heap.size w w'
set_option maxRecDepth 100000 in
set_option maxHeartbeats 2000000 in
theorem read_any (s : ByteArray) (w : World) (hs : s.size ≤ 67108864) (h0 : 0 < s.size) (hd : ∀ c ∈ s.data.toList, NumP.isDig c = true) :
  Calls Tryz.prog 95 #[.string s, .int .i64 10] w (ReadPost10 (decV (LexP.digs s.data.toList)) w) := by
 obtain ⟨i0, hi, hz0, hz1, hz2⟩ := info_parts Tryz.infoB
 have hsz : s.data.toList.length = s.size := (Lib.size_eq s).symm
 have HSZ := Lib.hid hsz
 have HD := Lib.hid hd
 clear hsz hd
 go_enter Tryz.func95, Tryz.ntmps95
 go_wp2_with (at_make; refine wpList_make_own _ rfl _ _ 45 rfl w.heap.size 5 i0 (.int .u8 0) 1 Tryz.underlying45 hi hz0 hz1 _ _ _ s.size rfl rfl rfl ?b1 ?b2 ?b3 ?_)
 case b1 => rw [hz2]; omega
 case b2 => unfold maxLen; omega
 case b3 => exact Nat.le_refl _
 intro w1 hown1 hgrow1
 have hb1 : Below w.heap.size w w1 := Below.grown (Below.refl _ _) hgrow1 (Nat.le_refl _) (fun k hk => by cases hk)
 have hzw := hb1.size
 have HO := Lib.hid hown1
 have HB1 := Lib.hid hb1
 clear hown1 hgrow1 hb1
 have hkw : w.heap.size < w1.heap.size := (HO.out.lt w.heap.size rfl).2
 go_wp2_with fail
 go_loopw [6] (fun v wr => ItRel s w w1.heap.size (fun pos => LexP.digs (s.data.toList.take pos)) v wr) (fun _ wr => s.size - wr.iterPos w1.heap.size)
 case atStart => exact ⟨0, Nat.zero_le _, World.iter_heap w1 s 0, HB1.out.alloc hzw _, HO.out.alloc _, by simp [Value.ownBlock]; omega⟩
 case round =>
  obtain ⟨pos, hpos, hit, hbel, hown, hne⟩ := hrel
  have hsz2 : w1.heap.size < wr.heap.size := (Array.getElem?_eq_some_iff.1 hit).1
  by_cases hlt : pos < s.size
  ·have hn := fun ty => Lib.run_next_any_at (P := Tryz.prog) wr w1.heap.size s pos ty hit hlt
   have hpl : pos < s.data.toList.length := by rw [HSZ.out]; exact hlt
   have hdg := HD.out s.data.toList[pos] (List.getElem_mem hpl)
   have hdc := List.drop_eq_getElem_cons hpl
   have htk : s.data.toList.take (pos + 1) = s.data.toList.take pos ++ [s.data.toList[pos]] := List.take_succ_eq_append_getElem hpl
   generalize s.data.toList[pos] = b at *
   have hb48 : 48 ≤ b.toNat ∧ b.toNat ≤ 57 := by simpa [NumP.isDig] using hdg
   obtain ⟨hv, hwd⟩ := LexP.dec_low (b := b) (r := s.data.toList.drop (pos + 1)) (by omega)
   rw [LexP.decode_fst s pos hlt, LexP.decode_snd s pos hlt, hdc, hv, hwd] at hn
   simp only [Option.getD_some] at hn
   have HTK : Hid (LexP.digs (s.data.toList.take (pos + 1)) = LexP.digs (s.data.toList.take pos) ++ [b.toNat - 48]) := by
    show _ = _; rw [htk, LexP.digs_append]; rfl
   have hdv : digVal b.toNat = b.toNat - 48 := by unfold digVal; rw [if_pos hb48]
   have HDV := Lib.hid hdv
   have hfl : (LexP.digs (s.data.toList.take pos)).length = pos := by rw [LexP.digs, List.length_map, List.length_take]; omega
   have HFL := Lib.hid hfl
   obtain ⟨wi, hwi⟩ : ∃ wi : World, wi = wr.iterAt w1.heap.size s (pos + 1) := ⟨_, rfl⟩
   have q1 : wi.ownsRow w.heap.size 5 1 u6 (LexP.digs (s.data.toList.take pos)).length (ds8 (LexP.digs (s.data.toList.take pos))) := by
    rw [hwi]; exact hown.kept (grown_iterAt wr w1.heap.size s (pos + 1)) (.inr hne)
   have q2 : Below w.heap.size w wi := by rw [hwi]; exact Lib.below_iterAt hbel (Nat.le_of_lt hkw) _ _
   have q3 : wi.heap[w1.heap.size]? = some (.stringIter s (pos + 1)) := by rw [hwi]; exact Lib.iterAt_heap _ _ _ _ _ hit
   have q4 : w1.heap.size < wi.heap.size := (Array.getElem?_eq_some_iff.1 q3).1
   rw [← hwi] at hn
   have HM : Hid (s.size - (pos + 1) < s.size - wr.iterPos w1.heap.size) := by show _ < _; rw [iterPos_at hit]; omega
   clear hwi hown hbel hit hdc htk hv hwd hdg hdv hfl
   have Q3 := Lib.hid q3
   have Q2 := Lib.hid q2
   have HNE := Lib.hid hne
   clear q3 q2 hne
   obtain ⟨h481, h482⟩ := hb48
   obtain ⟨dg, hdg⟩ : ∃ dg, dg = b.toNat - 48 := ⟨_, rfl⟩
   have hdg10 : dg < 10 := by omega
   have HDG := Lib.hid hdg
   generalize LexP.digs (s.data.toList.take pos) = F at *
   have hF : F.length ≤ 67108864 := by have := HFL.out; omega
   clear hdg
   go_wp2_with fail
   refine (value_any b.toNat _ (by omega)).mono ?_
   rintro e w' ⟨rfl, rfl⟩
   rw [HDV.out, ← HDG.out]
   go_wp2_with (at_builtin; refine wpList_append_own_at _ rfl _ _ 45 rfl w.heap.size 5 i0 (.int .u8 0) 1 1 Tryz.underlying45 hi hz0 hz1 hz2 rfl (by decide) _ _ _ rfl (World.ownsRow.alloc q1 _) ⟨wi.heap.size, 0, none⟩ 1 1 [.int .u8 (dg : Nat)] rfl rfl (LexP.cells_new _ _ _ _ rfl) (by simp [Value.oneCell']) (by unfold maxLen; omega) (by omega) (by simp; omega) ?_)
   intro v3 w3 hown3 hgrow3 _ hbk3
   have hF2 : w3.ownsRow w.heap.size 5 1 v3 (LexP.digs (s.data.toList.take (pos + 1))).length (ds8 (LexP.digs (s.data.toList.take (pos + 1)))) := by
    rw [HTK.out, ds8_append, List.length_append, ← HDG.out]; exact hown3
   have hit3 : w3.heap[w1.heap.size]? = some (.stringIter s (pos + 1)) :=
    (hgrow3.block w1.heap.size (by simp; omega) (fun e => HNE.out e.symm)).trans ((Below.heap_alloc _ _ _ q4).trans Q3.out)
   have HF3 : Hid (ItRel s w w1.heap.size (fun pos => LexP.digs (s.data.toList.take pos)) v3 w3) := ⟨pos + 1, by omega, hit3, Below.grown (Q2.out.alloc (by omega) _) hgrow3 (by simp; omega) (fun q hq => (World.ownsRow.lt q1 q hq).1), hF2, by
    rcases hbk3 with h | h
    ·rw [h]; exact HNE.out
    ·rw [h]; simp; omega⟩
   have HM3 : Hid (s.size - w3.iterPos w1.heap.size < s.size - wr.iterPos w1.heap.size) := by show _ < _; rw [iterPos_at hit3]; exact HM.out
   clear hown3 hgrow3 hbk3 hF2 hit3 q1
   go_wp2_with fail
   exact ⟨HF3.out, HM3.out⟩
  ·have hn := fun ty => Lib.run_next_end_at (P := Tryz.prog) wr w1.heap.size s pos ty hit hlt
   have hpe : s.data.toList.take pos = s.data.toList := List.take_of_length_le (by rw [HSZ.out]; omega)
   simp only [hpe] at hown
   have hdl : (LexP.digs s.data.toList).length = s.size := by rw [LexP.digs, List.length_map, HSZ.out]
   have HRD := Lib.hid (rdD_own hown (fun x hx => by
    simp only [LexP.digs, List.mem_map] at hx
    obtain ⟨c, hc, rfl⟩ := hx
    have := HD.out c hc
    have h2 : 48 ≤ c.toNat ∧ c.toNat ≤ 57 := by simpa [NumP.isDig] using this
    omega))
   obtain ⟨ao, cp, hv6, -, -⟩ := HRD.out.shape
   rw [hdl] at hv6
   subst hv6
   have HDL := Lib.hid hdl
   have HBEL := Lib.hid hbel
   have hbz := hbel.size
   clear hown hbel hpe hdl hit hne
   go_wp2_with fail
   refine (number_any (LexP.digs s.data.toList) _ _ (by rw [HDL.out]; omega) HRD.out).mono ?_
   rintro e w2 ⟨v2, x2, rfl, a1, a2, a3, a4, a5⟩
   have A1 := Lib.hid a1.1
   have A2 := Lib.hid a2
   have A4 := Lib.hid a4
   have A5 : Hid (Below w.heap.size w w2) := HBEL.out.trans (a5.mono hbz)
   have hx2 : x2.length ≤ 67108864 := by have := HDL.out; omega
   clear a1 a2 a3 a4 a5
   go_wp2_with fail
   refine (least_any _ x2 _ A1.out (by omega)).mono ?_
   rintro e w3 ⟨v3, rfl, hf, hb3⟩
   rw [A4.out] at hf
   have B1 := Lib.hid (hf.mono A5.out.size)
   have B5 : Hid (Below w.heap.size w w3) := A5.out.trans (hb3.mono A5.out.size)
   clear hf hb3
   go_wp2_with fail
   go_ret2
   exact ⟨_, x2, rfl, B1.out, A2.out, A4.out, B5.out⟩
set_option maxRecDepth 100000 in
set_option maxHeartbeats 1000000 in
theorem readDec_any (s : ByteArray) (w : World) (hs : s.size ≤ 67108864) (h0 : 0 < s.size) (hd : ∀ c ∈ s.data.toList, NumP.isDig c = true) :
  Calls Tryz.prog 55 #[.string s] w (ReadPost10 (decV (LexP.digs s.data.toList)) w) := by
 have HD := Lib.hid hd
 clear hd
 go_enter Tryz.func55, Tryz.ntmps55
 go_wp2_with fail
 refine (read_any s _ hs h0 HD.out).mono ?_
 rintro e w2 ⟨v2, x2, rfl, a1, a2, a4, a5⟩
 have A1 := Lib.hid a1
 have A2 := Lib.hid a2
 have A4 := Lib.hid a4
 have A5 := Lib.hid a5
 clear a1 a2 a4 a5
 go_wp2_with fail
 go_ret2
 exact ⟨_, x2, rfl, A1.out, A2.out, A4.out, A5.out⟩
end Go.Proofs.YtceggplnggkdnaaGreatDoor
namespace Go.Proofs.YtceggplnggkdnaaGreatDoor
open Go.RowKit NatP
def GrRel (s : ByteArray) (w : World) (k : Nat) (dv bv : Value) (wr : World) : Prop :=
 ∃ (pos : Nat) (bb : Bool), pos ≤ s.size ∧ wr.heap[k]? = some (.stringIter s pos) ∧ Below w.heap.size w wr ∧ OwnB w.heap.size wr dv ((s.data.toList.take pos).filter NumP.isDig) ∧ dv.ownBlock ≠ some k ∧ bv = .bool bb ∧ Hid (bb = LexP.btw s.data.toList pos) ∧ LexP.okUpto s.data.toList pos
def GrPost (t : LexP.Bytes) (w : World) (e : Ending) (w' : World) : Prop :=
 (LexP.anyBad t = true ∧ e = .returned (.tuple #[.slice none 0 0, .int .i64 7]) ∧ Below w.heap.size w w') ∨ (LexP.anyBad t = false ∧ ReadPost10 (decV (LexP.digs (t.filter NumP.isDig))) w e w')
theorem filter_ne {t : LexP.Bytes} (hr : LexP.numRun t) (h0 : t ≠ []) (hb : LexP.anyBad t = false) : 0 < (t.filter NumP.isDig).length := by
 have h1 := LexP.btw_of_ok h0 hb
 have hl : 0 < t.length := List.length_pos_iff.2 h0
 simp only [LexP.btw, Bool.and_eq_true, bne_iff_ne] at h1
 have h2 : t[t.length - 1] ∈ t := List.getElem_mem (by omega)
 have h3 : NumP.isDig t[t.length - 1] = true := by
  rcases hr _ h2 with h | h
  ·exact h
  ·exact absurd (by rw [List.getElem?_eq_getElem (by omega), h]) h1.2
 exact List.length_pos_iff.2 (List.ne_nil_of_mem (List.mem_filter.2 ⟨h2, h3⟩))
set_option maxRecDepth 100000 in
set_option maxHeartbeats 2000000 in
theorem readGrouped_any (s : ByteArray) (w : World) (hs : s.size ≤ 67108864) (h0 : 0 < s.size) (hr : LexP.numRun s.data.toList) :
  Calls Tryz.prog 337 #[.string s] w (GrPost s.data.toList w) := by
 obtain ⟨i0, hi, hz0, hz1, hz2⟩ := info_parts Tryz.infoB
 have hsz : s.data.toList.length = s.size := (Lib.size_eq s).symm
 have HSZ := Lib.hid hsz
 have HD := Lib.hid hr
 have HNE0 : Hid (s.data.toList ≠ []) := by intro h; rw [h] at hsz; simp at hsz; omega
 clear hsz hr
 go_enter Tryz.func337, Tryz.ntmps337
 go_wp2_with (at_make; refine wpList_make_own _ rfl _ _ 45 rfl w.heap.size 5 i0 (.int .u8 0) 1 Tryz.underlying45 hi hz0 hz1 _ _ _ s.size rfl rfl rfl ?b1 ?b2 ?b3 ?_)
 case b1 => rw [hz2]; omega
 case b2 => unfold maxLen; omega
 case b3 => exact Nat.le_refl _
 intro w1 hown1 hgrow1
 have hb1 : Below w.heap.size w w1 := Below.grown (Below.refl _ _) hgrow1 (Nat.le_refl _) (fun k hk => by cases hk)
 have hzw := hb1.size
 have HO := Lib.hid hown1
 have HB1 := Lib.hid hb1
 clear hown1 hgrow1 hb1
 have hkw : w.heap.size < w1.heap.size := (HO.out.lt w.heap.size rfl).2
 go_wp2_with fail
 go_loopw [4, 5] (fun v b wr => GrRel s w w1.heap.size v b wr) (fun _ _ wr => s.size - wr.iterPos w1.heap.size)
 case atStart => exact ⟨0, false, Nat.zero_le _, World.iter_heap w1 s 0, HB1.out.alloc hzw _, HO.out.alloc _, by simp [Value.ownBlock]; omega, rfl, rfl, LexP.okUpto_zero _⟩
 case round =>
  obtain ⟨pos, bb, hpos, hit, hbel, hown, hne, rfl, hbb, hok⟩ := hrel
  have hsz2 : w1.heap.size < wr.heap.size := (Array.getElem?_eq_some_iff.1 hit).1
  have HOK := Lib.hid hok
  clear hok
  by_cases hlt : pos < s.size
  ·have hn := fun ty => Lib.run_next_any_at (P := Tryz.prog) wr w1.heap.size s pos ty hit hlt
   have hpl : pos < s.data.toList.length := by rw [HSZ.out]; exact hlt
   have hdg := HD.out s.data.toList[pos] (List.getElem_mem hpl)
   have hdc := List.drop_eq_getElem_cons hpl
   have htk : s.data.toList.take (pos + 1) = s.data.toList.take pos ++ [s.data.toList[pos]] := List.take_succ_eq_append_getElem hpl
   have hat : s.data.toList[pos]? = some s.data.toList[pos] := List.getElem?_eq_getElem hpl
   generalize s.data.toList[pos] = b at *
   have hb128 : b.toNat < 128 := by
    rcases hdg with h | h
    ·have : 48 ≤ b.toNat ∧ b.toNat ≤ 57 := by simpa [NumP.isDig] using h
     omega
    ·rw [h]; decide
   obtain ⟨hv, hwd⟩ := LexP.dec_low (b := b) (r := s.data.toList.drop (pos + 1)) hb128
   rw [LexP.decode_fst s pos hlt, LexP.decode_snd s pos hlt, hdc, hv, hwd] at hn
   simp only [Option.getD_some] at hn
   have HTK := Lib.hid htk
   have HAT := Lib.hid hat
   obtain ⟨F, hF⟩ : ∃ F, F = (s.data.toList.take pos).filter NumP.isDig := ⟨_, rfl⟩
   rw [← hF] at hown
   have hFl : F.length ≤ 67108864 := by
    have h1 := List.length_filter_le NumP.isDig (s.data.toList.take pos)
    have h2 := List.length_take_le pos s.data.toList
    rw [hF]; omega
   have HF := Lib.hid hF
   obtain ⟨wi, hwi⟩ : ∃ wi : World, wi = wr.iterAt w1.heap.size s (pos + 1) := ⟨_, rfl⟩
   have q1 : wi.ownsRow w.heap.size 5 1 u4 F.length (byCells F) := by
    rw [hwi]; exact World.ownsRow.kept hown (grown_iterAt wr w1.heap.size s (pos + 1)) (.inr hne)
   have q2 : Below w.heap.size w wi := by rw [hwi]; exact Lib.below_iterAt hbel (Nat.le_of_lt hkw) _ _
   have q3 : wi.heap[w1.heap.size]? = some (.stringIter s (pos + 1)) := by rw [hwi]; exact Lib.iterAt_heap _ _ _ _ _ hit
   have q4 : w1.heap.size < wi.heap.size := (Array.getElem?_eq_some_iff.1 q3).1
   rw [← hwi] at hn
   have HM : Hid (s.size - (pos + 1) < s.size - wr.iterPos w1.heap.size) := by show _ < _; rw [iterPos_at hit]; omega
   clear hwi hown hbel hit hdc htk hv hwd hF hat
   have Q3 := Lib.hid q3
   have Q2 := Lib.hid q2
   have HNE := Lib.hid hne
   clear q3 q2 hne
   by_cases hdig : NumP.isDig b = true
   ·have hb48 : 48 ≤ b.toNat ∧ b.toNat ≤ 57 := by simpa [NumP.isDig] using hdig
    obtain ⟨h481, h482⟩ := hb48
    have hn95 : ((b.toNat : Int) == 95) = false := by simp; omega
    have hb95 : b ≠ 95 := by rintro rfl; exact absurd hdig (by decide)
    have HDV : Hid (digVal b.toNat = b.toNat - 48) := by show _ = _; unfold digVal; rw [if_pos ⟨h481, h482⟩]
    have HTF : Hid ((s.data.toList.take (pos + 1)).filter NumP.isDig = F ++ [b]) := by show _ = _; rw [HTK.out, List.filter_append, HF.out]; simp [hdig]
    have HBT : Hid (true = LexP.btw s.data.toList (pos + 1)) := by show _ = _; rw [LexP.btw_succ, HAT.out]; simp [hb95]
    have HOK2 := Lib.hid (LexP.okUpto_succ HOK.out (fun h => by rw [HAT.out] at h; exact absurd (Option.some.inj h) hb95))
    obtain ⟨dg, hdgd⟩ : ∃ dg, dg = b.toNat - 48 := ⟨_, rfl⟩
    have hdg10 : dg < 10 := by omega
    have HDG := Lib.hid hdgd
    clear hdg hdig hb95 hdgd hbb
    go_wp2_with fail
    refine (value_any b.toNat _ (by omega)).mono ?_
    rintro e w' ⟨rfl, rfl⟩
    rw [HDV.out, ← HDG.out]
    go_wp2_with (at_builtin; refine wpList_append_own_at _ rfl _ _ 45 rfl w.heap.size 5 i0 (.int .u8 0) 1 1 Tryz.underlying45 hi hz0 hz1 hz2 rfl (by decide) _ _ _ rfl (World.ownsRow.alloc q1 _) ⟨wi.heap.size, 0, none⟩ 1 1 [.int .u8 b.toNat] rfl rfl (LexP.cells_new _ _ _ _ rfl) (by simp [Value.oneCell']) (by unfold maxLen; omega) (by omega) (by simp; omega) ?_)
    intro v3 w3 hown3 hgrow3 _ hbk3
    have hF2 : OwnB w.heap.size w3 v3 ((s.data.toList.take (pos + 1)).filter NumP.isDig) := by
     show World.ownsRow _ _ _ _ _ _ _
     rw [HTF.out, byCells_append, List.length_append]; exact hown3
    have hit3 : w3.heap[w1.heap.size]? = some (.stringIter s (pos + 1)) :=
     (hgrow3.block w1.heap.size (by simp; omega) (fun e => HNE.out e.symm)).trans ((Below.heap_alloc _ _ _ q4).trans Q3.out)
    have HF3 : Hid (GrRel s w w1.heap.size v3 (.bool true) w3) := ⟨pos + 1, true, by omega, hit3, Below.grown (Q2.out.alloc (by omega) _) hgrow3 (by simp; omega) (fun q hq => (World.ownsRow.lt q1 q hq).1), hF2, by
     rcases hbk3 with h | h
     ·rw [h]; exact HNE.out
     ·rw [h]; simp; omega, rfl, HBT.out, HOK2.out⟩
    have HM3 : Hid (s.size - w3.iterPos w1.heap.size < s.size - wr.iterPos w1.heap.size) := by show _ < _; rw [iterPos_at hit3]; exact HM.out
    clear hown3 hgrow3 hbk3 hF2 hit3 q1
    go_wp2_with fail
    exact ⟨HF3.out, HM3.out⟩
   ·have hb95 : b = 95 := hdg.resolve_left hdig
    subst hb95
    have HTF : Hid ((s.data.toList.take (pos + 1)).filter NumP.isDig = F) := by show _ = _; rw [HTK.out, List.filter_append, HF.out]; simp [hdig]
    have e95 : (95 : UInt8).toNat = 95 := rfl
    rw [e95] at hn
    clear hdg hdig e95 hb128
    cases bb with
    | true =>
     have HBT : Hid (false = LexP.btw s.data.toList (pos + 1)) := by show _ = _; rw [LexP.btw_succ, HAT.out]; rfl
     have HOK2 := Lib.hid (LexP.okUpto_succ HOK.out (fun _ => hbb.out.symm))
     have HF3 : Hid (GrRel s w w1.heap.size u4 (.bool false) wi) := ⟨pos + 1, false, by omega, Q3.out, Q2.out, by rw [HTF.out]; exact q1, HNE.out, rfl, HBT.out, HOK2.out⟩
     have HM3 : Hid (s.size - wi.iterPos w1.heap.size < s.size - wr.iterPos w1.heap.size) := by show _ < _; rw [iterPos_at Q3.out]; exact HM.out
     clear hbb q1
     go_wp2_with fail
     exact ⟨HF3.out, HM3.out⟩
    | false =>
     have HBAD := Lib.hid (LexP.rg_fail HAT.out hbb.out.symm)
     clear hbb q1
     go_wp2_with fail
     refine (value_any 95 _ (by omega)).mono ?_
     rintro e w' ⟨rfl, rfl⟩
     rw [show digVal 95 = 36 from by decide]
     go_wp2_with fail
     go_ret2
     exact .inl ⟨HBAD.out, rfl, Q2.out⟩
  ·have hn := fun ty => Lib.run_next_end_at (P := Tryz.prog) wr w1.heap.size s pos ty hit hlt
   have hpe : s.data.toList.take pos = s.data.toList := List.take_of_length_le (by rw [HSZ.out]; omega)
   have hpp : pos = s.data.toList.length := by rw [HSZ.out]; omega
   rw [hpe] at hown
   have HBEL := Lib.hid hbel
   have hbz := hbel.size
   have HOK2 : Hid (LexP.okUpto s.data.toList s.data.toList.length) := by rw [← hpp]; exact HOK.out
   have hbb2 : Hid (bb = LexP.btw s.data.toList s.data.toList.length) := by rw [← hpp]; exact hbb
   clear hbel hpe hit hne hbb HOK hpp
   cases bb with
   | false =>
    have HBAD := Lib.hid (LexP.rg_end_bad HNE0.out hbb2.out.symm)
    clear hbb2 hown
    go_wp2_with fail
    go_ret2
    exact .inl ⟨HBAD.out, rfl, HBEL.out⟩
   | true =>
    have HGOOD := Lib.hid (LexP.rg_end_ok HOK2.out hbb2.out.symm)
    have hcv := run_text (B := w.heap.size) (w := wr) (v := u4) hown
    have hfl := filter_ne HD.out HNE0.out HGOOD.out
    have hfl2 := List.length_filter_le NumP.isDig s.data.toList
    rw [HSZ.out] at hfl2
    have hfs : (⟨(s.data.toList.filter NumP.isDig).toArray⟩ : ByteArray).size = (s.data.toList.filter NumP.isDig).length := by rw [Lib.size_eq]
    have HS1 : Hid ((⟨(s.data.toList.filter NumP.isDig).toArray⟩ : ByteArray).size ≤ 67108864) := by show _ ≤ _; rw [hfs]; omega
    have HS0 : Hid (0 < (⟨(s.data.toList.filter NumP.isDig).toArray⟩ : ByteArray).size) := by show _ < _; rw [hfs]; omega
    have HFD : Hid (∀ c ∈ (⟨(s.data.toList.filter NumP.isDig).toArray⟩ : ByteArray).data.toList, NumP.isDig c = true) := by
     intro c hc
     simp only [List.toList_toArray] at hc
     exact (List.mem_filter.1 hc).2
    clear hbb2 hown hfl hfl2 hfs
    go_wp2_with fail
    refine (readDec_any _ wr HS1.out HS0.out HFD.out).mono ?_
    rintro e w2 ⟨v2, x2, rfl, a1, a2, a4, a5⟩
    have A1 := Lib.hid (a1.mono hbz)
    have A2 := Lib.hid a2
    have A4 := Lib.hid a4
    have A5 : Hid (Below w.heap.size w w2) := HBEL.out.trans (a5.mono hbz)
    clear a1 a2 a4 a5
    go_wp2_with fail
    go_ret2
    exact .inr ⟨HGOOD.out, _, x2, rfl, A1.out, A2.out, A4.out, A5.out⟩
end Go.Proofs.YtceggplnggkdnaaGreatDoor
namespace Go.Proofs.YtceggplnggkdnaaGreatDoor
open Go.RowKit NatP LexP
def FaultE (c k : Nat) : Ending := .panicked [{ v := .iface 105 (.agg #[.int .i64 (c : Nat), .int .i64 (k : Nat)]), recovered := false }]
set_option maxRecDepth 100000 in
theorem rd_unfit (R : Nat) (lv : Value) (L : List Tok) (fin a : Nat) (s : SynP.St) (nv : Value) (ns : List Nv) (w : World) (h : RS w R lv L fin a s nv ns) :
  Calls Tryz.prog 94 #[.pointer (some ⟨R, 0, none⟩)] w fun e w' => e = FaultE (SynP.colOf fin s.ts) 14 ∧ Below w.heap.size w w' := by
 have H := Lib.hid h
 clear h
 go_enter Tryz.func94, Tryz.ntmps94
 go_wp2_with fail
 refine (rd_col R lv L fin a s nv ns _ H.out).mono ?_
 rintro e w1 ⟨rfl, hb⟩
 have HB := Lib.hid hb
 clear hb
 go_wp2_with fail
 exact ⟨rfl, rfl, HB.out⟩
def RB {α : Type} (r : SynP.PR α) (R : Nat) (lv : Value) (L : List Tok) (fin : Nat) (s : SynP.St) (nv : Value) (ns : List Nv) (Q : α → Value → World → Prop) (w : World) (e : Ending) (w' : World) : Prop :=
 match r with
 | none => False
 | some (.error (c, k)) => e = FaultE c k ∧ Wr R none w w'
 | some (.ok (x, s')) => ∃ v a', e = .returned v ∧ RS w' R lv L fin a' s' nv ns ∧ Wr R none w w' ∧ s'.ts.length ≤ s.ts.length ∧ Q x v w'
theorem tail_le (s : SynP.St) : s.adv.ts.length ≤ s.ts.length := by
 show s.ts.tail.length ≤ _; rw [List.length_tail]; omega
set_option maxRecDepth 100000 in
theorem rd_want (R : Nat) (lv : Value) (L : List Tok) (fin a : Nat) (s : SynP.St) (nv : Value) (ns : List Nv) (w : World) (h : RS w R lv L fin a s nv ns) (x : Bytes) :
  Calls Tryz.prog 91 #[.pointer (some ⟨R, 0, none⟩), .string ⟨x.toArray⟩] w (RB (SynP.want fin x s) R lv L fin s nv ns (fun _ v _ => v = .tuple #[]) w) := by
 have H := Lib.hid h
 clear h
 cases hm : SynP.isMark x s.ts with
 | false =>
  have HM := Lib.hid hm
  clear hm
  go_enter Tryz.func91, Tryz.ntmps91
  go_wp2_with fail
  refine (rd_take R lv L fin a s nv ns _ H.out x).mono ?_
  rintro e w1 ⟨rfl, b1, b2⟩
  rw [if_neg (by rw [HM.out]; decide)] at b2
  rw [HM.out]
  have HB1 := Lib.hid b1
  have HB2 := Lib.hid b2
  clear b1 b2
  go_wp2_with fail
  refine (rd_unfit R lv L fin a s nv ns _ HB2.out).mono ?_
  rintro e w2 ⟨rfl, b3⟩
  have HB3 := Lib.hid b3
  clear b3
  refine ⟨rfl, ?_⟩
  unfold SynP.want
  rw [if_neg (by rw [HM.out]; decide)]
  exact ⟨rfl, HB1.out.trans (Mv.refl _ _) (Wr.of_below HB3.out)⟩
 | true =>
  have HM := Lib.hid hm
  clear hm
  go_enter Tryz.func91, Tryz.ntmps91
  go_wp2_with fail
  refine (rd_take R lv L fin a s nv ns _ H.out x).mono ?_
  rintro e w1 ⟨rfl, b1, b2⟩
  rw [if_pos HM.out] at b2
  rw [HM.out]
  have HB1 := Lib.hid b1
  have HB2 := Lib.hid b2
  clear b1 b2
  go_wp2_with fail
  go_end0
  show RB (SynP.want fin x s) _ _ _ _ _ _ _ _ _ _ _
  unfold SynP.want
  rw [if_pos HM.out]
  exact ⟨_, _, rfl, HB2.out, HB1.out, tail_le s, rfl⟩
set_option maxRecDepth 100000 in
theorem rd_name (R : Nat) (lv : Value) (L : List Tok) (fin a : Nat) (s : SynP.St) (nv : Value) (ns : List Nv) (w : World) (h : RS w R lv L fin a s nv ns) :
  Calls Tryz.prog 90 #[.pointer (some ⟨R, 0, none⟩)] w (RB (SynP.name fin s) R lv L fin s nv ns (fun x v _ => v = .string ⟨x.toArray⟩) w) := by
 have H := Lib.hid h
 have hc := comes_kind 2 [] s.ts (by decide)
 cases hm : SynP.isKind 2 s.ts with
 | false =>
  rw [hm] at hc
  have HM := Lib.hid hm
  have HC := Lib.hid hc
  clear hm hc h
  go_enter Tryz.func90, Tryz.ntmps90
  go_wp2_with fail
  refine (rd_comes R lv L fin a s nv ns _ H.out 0 2 [] (by omega) (by omega)).mono ?_
  rintro e w1 ⟨rfl, b1⟩
  rw [HC.out]
  have HB1 := Lib.hid b1
  clear b1
  go_wp2_with fail
  refine (rd_unfit R lv L fin a s nv ns _ (H.out.below HB1.out)).mono ?_
  rintro e w2 ⟨rfl, b3⟩
  refine ⟨rfl, ?_⟩
  unfold SynP.name
  rw [if_neg (by rw [HM.out]; decide)]
  exact ⟨rfl, (Wr.of_below HB1.out).trans (Mv.refl _ _) (Wr.of_below b3)⟩
 | true =>
  rw [hm] at hc
  obtain ⟨c0, c1, -, -, -⟩ := h.cells
  obtain ⟨ao, cap, rfl, t1, t2, t3⟩ := h.tks
  have hsh := h.short
  obtain ⟨p1, p2, p3⟩ := drop_succ h.drop (isKind_ne hm)
  have hn : a < L.length := by omega
  obtain ⟨g, rfl, hg, hcl⟩ := t3 (by omega)
  obtain ⟨t, ht⟩ : ∃ t, L[a]? = some t := ⟨_, List.getElem?_eq_getElem hn⟩
  obtain ⟨d0, d1, d2⟩ := hcl a t ht
  have hx : SynP.headText s.ts = t.2.1 := by rw [← h.drop, List.drop_eq_getElem?_toList_append, ht]; rfl
  have hRl := h.lt
  have HM := Lib.hid hm
  have HC := Lib.hid hc
  have HX := Lib.hid hx
  have C0 := Lib.hid c0
  have C1 := Lib.hid c1
  have D1 := Lib.hid d1
  obtain ⟨tk, tt, tc⟩ := t
  clear hm hc h t3 hcl ht hx c0 c1 d0 d1 d2 p1 p2 p3
  go_enter Tryz.func90, Tryz.ntmps90
  go_wp2_with fail
  refine (rd_comes R _ L fin a s nv ns _ H.out 0 2 [] (by omega) (by omega)).mono ?_
  rintro e w1 ⟨rfl, b1⟩
  rw [HC.out]
  have HB1 := Lib.hid b1
  have HS1 := Lib.hid (H.out.below b1)
  have e0 := HS1.out.cells.1
  have e1 := HS1.out.cells.2.1
  have e2 : w1.cell? ⟨g, a * 3 + 1, none⟩ = some (.string ⟨tt.toArray⟩) := (b1.cell (p := ⟨g, a * 3 + 1, none⟩) (by show g < _; omega)).trans D1.out
  have f1 := HS1.out.fro 1
  have HS2 := Lib.hid (H.out.below (b1.trans ((below_drewN w1 1).mono b1.size)))
  clear b1
  go_wp2_with fail
  go_region
  go_wp2_with fail
  go_ret
  obtain ⟨g1, g2⟩ := HS2.out.adv (isKind_ne HM.out)
  unfold SynP.name
  rw [if_pos HM.out, HX.out]
  exact ⟨_, _, rfl, g1, (Wr.of_below HB1.out).trans (Mv.refl _ _) (((Wr.of_below (below_drewN w1 1))).trans (Mv.refl _ _) g2), tail_le s, rfl⟩
def CanL (L n : Nat) : Prop := n < BB ^ L ∧ (0 < L → BB ^ (L - 1) ≤ n)
theorem CanL.zero {L n : Nat} (h : CanL L n) : L = 0 ↔ n = 0 := by
 obtain ⟨h1, h2⟩ := h
 constructor
 ·intro e
  subst e
  rw [Nat.pow_zero] at h1
  omega
 ·intro e
  subst e
  apply Nat.eq_zero_of_not_pos
  intro h3
  have h4 := h2 h3
  have h5 : 0 < BB ^ (L - 1) := Nat.pow_pos BB_pos
  omega
theorem CanL.of {xs : List Nat} (hok : ok xs) (hs : strip xs = xs) : CanL xs.length (val xs) := by
 refine ⟨val_lt hok, fun h => ?_⟩
 obtain ⟨m, hm⟩ : ∃ m, xs.length = m + 1 := ⟨xs.length - 1, by omega⟩
 obtain ⟨d, hd, hd0⟩ := strip_last xs m (by rw [hs]; exact hm)
 rw [hs] at hd
 obtain ⟨hl, he⟩ := List.getElem?_eq_some_iff.1 hd
 rw [show xs.length - 1 = m by omega, val_split xs m (by omega), List.drop_eq_getElem_cons hl, he]
 show BB ^ m ≤ val (xs.take m) + BB ^ m * (d + BB * val (xs.drop (m + 1)))
 have h1 : BB ^ m * 1 ≤ BB ^ m * (d + BB * val (xs.drop (m + 1))) := Nat.mul_le_mul_left _ (by omega)
 omega
def NFr (B : Nat) (w : World) (v : Value) (n : Nat) : Prop := NRd w v n ∧ (∀ q, v.ownBlock = some q → B ≤ q ∧ q < w.heap.size) ∧ CanL (lenOf v) n
theorem NFr.wr {B R : Nat} {og : Option Nat} {w w' : World} {v : Value} {n : Nat} (h : NFr B w v n) (hw : Wr R og w w') (hR : R < B) (ho : ∀ q, og = some q → q < B) : NFr B w' v n := by
 obtain ⟨⟨xs, h1, h2, h3⟩, h4, h5⟩ := h
 exact ⟨⟨xs, h1.wr hw (fun q hq => ⟨by have := h4 q hq; omega, fun e => by have := h4 q hq; have := ho q e; omega⟩), h2, h3⟩, fun q hq => ⟨(h4 q hq).1, Nat.lt_of_lt_of_le (h4 q hq).2 hw.size⟩, h5⟩
theorem NFr.set {B R : Nat} {w : World} {v : Value} {n : Nat} (h : NFr B w v n) (hR : R < B) (o : Nat) (u : Value) : NFr B (w.setCell ⟨R, o, none⟩ u) v n :=
 h.wr (og := none) (Wr.of_set w o u) hR (fun q hq => by cases hq)
theorem NFr.mono {B B' : Nat} {w : World} {v : Value} {n : Nat} (h : NFr B w v n) (hb : B' ≤ B) : NFr B' w v n := ⟨h.1, fun q hq => ⟨Nat.le_trans hb (h.2.1 q hq).1, (h.2.1 q hq).2⟩, h.2.2⟩
theorem valOf_lt (t : Bytes) : SynP.valOf t < 10 ^ t.length := by
 have h1 : (digs (t.filter NumP.isDig)).length ≤ t.length := by
  rw [digs, List.length_map]; exact List.length_filter_le _ _
 have h2 : ∀ x ∈ digs (t.filter NumP.isDig), x < 10 := by
  intro x hx
  simp only [digs, List.mem_map] at hx
  obtain ⟨c, hc, rfl⟩ := hx
  have h3 := (List.mem_filter.1 hc).2
  unfold NumP.isDig at h3
  simp at h3
  omega
 exact Nat.lt_of_lt_of_le (decV_lt h2) (Nat.pow_le_pow_right (by omega) h1)
theorem readTok_any (t : Bytes) (w : World) (h1 : numRun t) (h2 : 0 < t.length) (h3 : t.length ≤ 67108864) (h4 : anyBad t = false) :
  Calls Tryz.prog 337 #[.string ⟨t.toArray⟩] w fun e w' => ∃ v, e = .returned (.tuple #[v, .int .i64 0]) ∧ NFr w.heap.size w' v (SynP.valOf t) ∧ Below w.heap.size w w' := by
 refine (readGrouped_any ⟨t.toArray⟩ w h3 h2 h1).mono ?_
 rintro e w' (⟨h, -, -⟩ | ⟨-, v, xs, rfl, a1, a2, a3, a4⟩)
 ·exact absurd h (by show ¬ anyBad t = true; rw [h4]; decide)
 ·have a2' : NatP.val xs = SynP.valOf t := a2
  refine ⟨v, rfl, ⟨⟨xs, a1.1, a2', Nat.le_trans (dec_len a3 (by rw [a2']; exact valOf_lt t)) h3⟩, a1.2, ?_⟩, a4⟩
  obtain ⟨ao, cap, rfl, -⟩ := a1.1.2
  show CanL xs.length _
  rw [← a2']
  exact CanL.of a1.1.ok a3
set_option maxRecDepth 100000 in
theorem rd_number (R : Nat) (lv : Value) (L : List Tok) (fin a : Nat) (s : SynP.St) (nv : Value) (ns : List Nv) (w : World) (h : RS w R lv L fin a s nv ns) :
  Calls Tryz.prog 186 #[.pointer (some ⟨R, 0, none⟩)] w (RB (SynP.number fin s) R lv L fin s nv ns (fun x v w' => NFr w.heap.size w' v x) w) := by
 have H := Lib.hid h
 have hc := comes_kind 1 [] s.ts (by decide)
 cases hm : SynP.isKind 1 s.ts with
 | false =>
  rw [hm] at hc
  have HM := Lib.hid hm
  have HC := Lib.hid hc
  clear hm hc h
  go_enter Tryz.func186, Tryz.ntmps186
  go_wp2_with fail
  refine (rd_comes R lv L fin a s nv ns _ H.out 0 1 [] (by omega) (by omega)).mono ?_
  rintro e w1 ⟨rfl, b1⟩
  rw [HC.out]
  have HB1 := Lib.hid b1
  clear b1
  go_wp2_with fail
  refine (rd_unfit R lv L fin a s nv ns _ (H.out.below HB1.out)).mono ?_
  rintro e w2 ⟨rfl, b3⟩
  refine ⟨rfl, ?_⟩
  unfold SynP.number
  rw [if_neg (by rw [HM.out]; decide)]
  exact ⟨rfl, (Wr.of_below HB1.out).trans (Mv.refl _ _) (Wr.of_below b3)⟩
 | true =>
  rw [hm] at hc
  obtain ⟨c0, c1, -, -, -⟩ := h.cells
  obtain ⟨ao, cap, rfl, t1, t2, t3⟩ := h.tks
  have hsh := h.short
  obtain ⟨p1, p2, p3⟩ := drop_succ h.drop (isKind_ne hm)
  have hn : a < L.length := by omega
  obtain ⟨g, rfl, hg, hcl⟩ := t3 (by omega)
  obtain ⟨t, ht⟩ : ∃ t, L[a]? = some t := ⟨_, List.getElem?_eq_getElem hn⟩
  obtain ⟨d0, d1, d2⟩ := hcl a t ht
  have hts : s.ts = t :: L.drop (a + 1) := by rw [← h.drop, List.drop_eq_getElem?_toList_append, ht]; rfl
  have hx : SynP.headText s.ts = t.2.1 := by rw [hts]; rfl
  have ht1 : t.1 = 1 := by
   rw [hts] at hm
   obtain ⟨tk, tt, tc⟩ := t
   simpa [SynP.isKind] using hm
  have hok := h.good t (List.mem_of_getElem? ht) ht1
  have hRl := h.lt
  have HM := Lib.hid hm
  have HC := Lib.hid hc
  have HX := Lib.hid hx
  have D1 := Lib.hid d1
  obtain ⟨tk, tt, tc⟩ := t
  have HOK := Lib.hid hok
  clear hm hc h t3 hcl ht hx c0 c1 d0 d1 d2 p1 p2 p3 hok ht1 hts
  go_enter Tryz.func186, Tryz.ntmps186
  go_wp2_with fail
  refine (rd_comes R _ L fin a s nv ns _ H.out 0 1 [] (by omega) (by omega)).mono ?_
  rintro e w1 ⟨rfl, b1⟩
  rw [HC.out]
  have HB1 := Lib.hid b1
  have HS1 := Lib.hid (H.out.below b1)
  have e0 := HS1.out.cells.1
  have e1 := HS1.out.cells.2.1
  have e2 : w1.cell? ⟨g, a * 3 + 1, none⟩ = some (.string ⟨tt.toArray⟩) := (b1.cell (p := ⟨g, a * 3 + 1, none⟩) (by show g < _; omega)).trans D1.out
  have hRl1 : R < w1.heap.size := Nat.lt_of_lt_of_le hRl b1.size
  have hgl1 : g < w1.heap.size := by omega
  clear b1
  go_wp2_with fail
  go_region_held3 (fun w' => w'.cell? ⟨R, 0, none⟩ = some (.slice (some ⟨g, 0, none⟩) L.length cap) ∧ w'.cell? ⟨R, 1, none⟩ = some (.int .i64 (a : Nat)) ∧ w'.cell? ⟨g, a * 3 + 1, none⟩ = some (.string ⟨tt.toArray⟩))
   (first
    | go_keep
    | exact ⟨(a2.cell (p := ⟨R, 0, none⟩) hRl1).trans e0, (a2.cell (p := ⟨R, 1, none⟩) hRl1).trans e1, (a2.cell (p := ⟨g, a * 3 + 1, none⟩) hgl1).trans e2⟩)
   ((go_at_call 337; refine (readTok_any tt _ HOK.out.1 HOK.out.2.1 HOK.out.2.2.1 HOK.out.2.2.2).mono ?_; rintro e w3 ⟨v3, rfl, a1, a2⟩))
  have A1 := Lib.hid a1
  have A2 : Hid (Below w1.heap.size w1 w3) := (below_drewN w1 1).trans a2
  have HS3 := Lib.hid (HS1.out.below A2.out)
  have c1 := HS3.out.cells.2.1
  have f1 := HS3.out.fro 1
  clear a1 a2 e0 e1 e2
  go_wp2_with fail
  go_ret
  obtain ⟨g1, g2⟩ := HS3.out.adv (isKind_ne HM.out)
  unfold SynP.number
  rw [if_pos HM.out, HX.out]
  refine ⟨_, _, rfl, g1, (Wr.of_below HB1.out).trans (Mv.refl _ _) (((Wr.of_below A2.out)).trans (Mv.refl _ _) g2), tail_le s, ?_⟩
  exact (NFr.mono (NFr.set (R := R) A1.out hRl1 1 _) HB1.out.size)
end Go.Proofs.YtceggplnggkdnaaGreatDoor
namespace Go.Proofs.YtceggplnggkdnaaGreatDoor
open Go.RowKit NatP LexP
theorem Tryz.infoNd : (Tryz.prog.info? 70).map (fun i => (i.zero, i.size, i.bytes)) = some (some (.agg #[.int .i64 0, .string ⟨#[]⟩, .slice none 0 0]), 3, 48) := by kernel_rfl
def KNew (w : World) (R : Nat) (nv : Value) (ns : List Nv) (v : Value) (ks : List Nat) : Prop := KR w R nv.ownBlock v ks ∧ ∀ p ∈ ns, ∀ q, p.2.ownBlock = some q → v.ownBlock ≠ some q
theorem RS.put {w w2 : World} {R : Nat} {lv : Value} {L : List Tok} {fin a : Nat} {s : SynP.St} {nv : Value} {ns : List Nv} (h : RS w R lv L fin a s nv ns) {kv : Value} {nd : SynP.Node} (hk : KNew w R nv ns kv nd.kids) (hf : ns.length + 1 + s.ts.length ≤ 134217728) {gg cap : Nat}
  (hown : w2.ownsRow (R + 1) 70 3 (.slice (some ⟨gg, 0, none⟩) (ns.length + 1) cap) (ns.length + 1) (ndCells ns ++ ndCells [(nd, kv)])) (hg : w.grownBy w2 nv.ownBlock) (hat : nv.ownBlock = some gg ∨ gg = w.heap.size) :
  RS (w2.setCell ⟨R, 4, none⟩ (.slice (some ⟨gg, 0, none⟩) (ns.length + 1) cap)) R lv L fin a s (.slice (some ⟨gg, 0, none⟩) (ns.length + 1) cap) (ns ++ [(nd, kv)]) ∧ Wr R nv.ownBlock w (w2.setCell ⟨R, 4, none⟩ (.slice (some ⟨gg, 0, none⟩) (ns.length + 1) cap)) ∧ Mv w nv.ownBlock (Value.ownBlock (.slice (some ⟨gg, 0, none⟩) (ns.length + 1) cap)) := by
 have hne : some R ≠ nv.ownBlock := fun e => by have := h.gt R e.symm; omega
 have hb := (hg.block R h.lt hne).trans h.blk
 have hset := heap_setCell_same w2 R 4 #[lv, .int .i64 (a : Nat), .int .i64 (fin : Nat), .int .i64 (s.opened : Nat), nv] 109 (.slice (some ⟨gg, 0, none⟩) (ns.length + 1) cap) hb
 have hwr : Wr R nv.ownBlock w (w2.setCell ⟨R, 4, none⟩ (.slice (some ⟨gg, 0, none⟩) (ns.length + 1) cap)) := (Wr.of_grown hg).trans (Mv.refl _ _) (Wr.of_set w2 4 _)
 have hmv : Mv w nv.ownBlock (Value.ownBlock (.slice (some ⟨gg, 0, none⟩) (ns.length + 1) cap)) := by
  intro k hk
  cases hk
  rcases hat with h | h
  ·exact .inl h
  ·exact .inr (Nat.le_of_eq h.symm)
 have hlen : (ns ++ [(nd, kv)]).length = ns.length + 1 := by simp
 refine ⟨⟨hset.trans (by simp), h.tks.wr hwr h.lt h.gt, h.drop, h.le, ?_, ?_, ?_, by rw [hlen]; exact hf, h.deep, h.short, h.sum, h.good, h.sg.wr hwr (Nat.ne_of_lt h.sgl) (fun e => by have := h.gt _ e; have := h.sgl; omega), h.sgl⟩, hwr, hmv⟩
 ·rw [hlen, ndCells_app]
  exact ownsRow_setCell_below hown (by simp) _
 ·intro p hp
  rcases List.mem_append.1 hp with hp | hp
  ·exact (h.kids p hp).wr hwr hmv
  ·rw [List.mem_singleton.1 hp]
   exact hk.1.wr hwr hmv
 ·intro i j p q k hi hj hpk hqk
  have key : ∀ (i : Nat) (p : Nv), (ns ++ [(nd, kv)])[i]? = some p → (ns[i]? = some p ∧ i < ns.length) ∨ (i = ns.length ∧ p = (nd, kv)) := by
   intro i p hi
   by_cases hlt : i < ns.length
   ·rw [List.getElem?_append_left hlt] at hi; exact .inl ⟨hi, hlt⟩
   ·have := (List.getElem?_eq_some_iff.1 hi).1
    rw [hlen] at this
    have e : i = ns.length := by omega
    subst e
    rw [List.getElem?_append_right (Nat.le_refl _)] at hi
    simp at hi
    exact .inr ⟨rfl, hi.symm⟩
  rcases key i p hi with ⟨h1, h1'⟩ | ⟨h1, rfl⟩ <;> rcases key j q hj with ⟨h2, h2'⟩ | ⟨h2, rfl⟩
  ·exact h.apart i j p q k h1 h2 hpk hqk
  ·exact absurd hqk (hk.2 p (List.mem_of_getElem? h1) k hpk)
  ·exact absurd hpk (hk.2 q (List.mem_of_getElem? h2) k hqk)
  ·omega
def PutP (R : Nat) (lv : Value) (L : List Tok) (fin a : Nat) (s : SynP.St) (nv : Value) (ns : List Nv) (nd : SynP.Node) (kv : Value) (w : World) (e : Ending) (w' : World) : Prop :=
 ∃ nv', e = .returned (.int .i64 (ns.length : Nat)) ∧ RS w' R lv L fin a s nv' (ns ++ [(nd, kv)]) ∧ Wr R nv.ownBlock w w' ∧ Mv w nv.ownBlock nv'.ownBlock
set_option maxRecDepth 100000 in
set_option maxHeartbeats 2000000 in
theorem rd_put (R : Nat) (lv : Value) (L : List Tok) (fin a : Nat) (s : SynP.St) (nv : Value) (ns : List Nv) (w : World) (h : RS w R lv L fin a s nv ns) (nd : SynP.Node) (kv : Value) (hk : KNew w R nv ns kv nd.kids) (hf : ns.length + 1 + s.ts.length ≤ 134217728) :
  Calls Tryz.prog 88 #[.pointer (some ⟨R, 0, none⟩), .int .i64 (nd.op : Nat), .string ⟨nd.text.toArray⟩, kv] w (PutP R lv L fin a s nv ns nd kv w) := by
 obtain ⟨i0, hi, hz0, hz1, hz2⟩ := info_parts Tryz.infoNd
 obtain ⟨ko, kcap, hkv, -⟩ := hk.1
 have hnl : ns.length ≤ 134217728 := by omega
 have HK := Lib.hid hk
 have HH := Lib.hid h
 obtain ⟨op, text, kids⟩ := nd
 subst hkv
 have HA := Lib.hid (below_alloc w (.cells #[.int .i64 (op : Nat), .string ⟨text.toArray⟩, .slice ko kids.length kcap] 70))
 have HS := Lib.hid (h.below HA.out)
 have HKN : Hid (KNew (w.alloc (.cells #[.int .i64 (op : Nat), .string ⟨text.toArray⟩, .slice ko kids.length kcap] 70)) R nv ns (.slice ko kids.length kcap) kids) := ⟨hk.1.wr (Wr.of_below HA.out) (Mv.refl _ _), hk.2⟩
 have HLT : Hid (R < (w.alloc (.cells #[.int .i64 (op : Nat), .string ⟨text.toArray⟩, .slice ko kids.length kcap] 70)).heap.size) := HS.out.lt
 have HNE : Hid (some R ≠ nv.ownBlock) := fun e => by have := HS.out.gt R e.symm; omega
 have c4 := h.cells.2.2.2.2
 have HC4 := Lib.hid HS.out.cells.2.2.2.2
 have HF4 := Lib.hid (HS.out.fro 4)
 obtain ⟨nl, hnle⟩ : ∃ nl, nl = ns.length := ⟨_, rfl⟩
 have HNL := Lib.hid hnle
 have hsz := h.lt
 rw [← hnle] at hnl
 have hOWN : (w.alloc (.cells #[.int .i64 (op : Nat), .string ⟨text.toArray⟩, .slice ko kids.length kcap] 70)).ownsRow (R + 1) 70 3 nv nl (ndCells ns) := by rw [hnle]; exact HS.out.own
 have HOWN := Lib.hid hOWN
 clear h hk hnle hOWN
 go_enter Tryz.func88, Tryz.ntmps88
 go_wp2_with (at_builtin; refine wpList_append_lies _ rfl _ _ 61 rfl (R + 1) 70 i0 (.agg #[.int .i64 0, .string ⟨#[]⟩, .slice none 0 0]) 3 48 Tryz.underlying61 hi hz0 hz1 hz2 rfl (by omega) nv nl (ndCells ns) rfl HOWN.out ⟨w.heap.size, 0, none⟩ 1 1 [.int .i64 (op : Nat), .string ⟨text.toArray⟩, .slice ko kids.length kcap] rfl rfl (LexP.cells_new _ _ _ _ rfl) (by simp [Value.oneCell']) (by omega) (by unfold maxLen; omega) (by omega) (by have := HLT.out; simp at this; simp; omega) (w.heap.size + 1) (by simp) ?_)
 intro gg cap w5 hown5 hgrow hat hlt5
 have d4 : w5.cell? ⟨R, 4, none⟩ = some nv := (hgrow.cell_far ⟨R, 4, none⟩ HLT.out HNE.out).trans HC4.out
 have d5 : w5.frozen? ⟨R, 4, none⟩ = false := (hgrow.frozen_far ⟨R, 4, none⟩ HLT.out HNE.out).trans HF4.out
 have HG := Lib.hid (HS.out.put (kv := .slice ko kids.length kcap) (nd := ⟨op, text, kids⟩) HKN.out hf (gg := gg) (cap := cap) (by rw [← HNL.out]; exact hown5) hgrow (by simpa using hat))
 rw [← HNL.out] at HG
 clear hown5 hgrow hat hlt5
 go_wp2_with fail
 go_ret
 exact ⟨_, by rw [← HNL.out]; rfl, HG.out.1, (Wr.of_below HA.out).trans (Mv.refl _ _) HG.out.2.1, fun k hk => (HG.out.2.2 k hk).imp id (fun h => Nat.le_trans HA.out.size h)⟩
end Go.Proofs.YtceggplnggkdnaaGreatDoor
