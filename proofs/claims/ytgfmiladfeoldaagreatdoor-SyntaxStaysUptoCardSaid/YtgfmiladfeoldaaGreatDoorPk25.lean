/- Joined texts of this claim's proof: KpE. -/
import Derived.Test.YtgfmiladfeoldaaGreatDoorPk19
set_option linter.unusedSimpArgs false
set_option linter.unusedVariables false
namespace Go.Proofs.YtgfmiladfeoldaaGreatDoor
open Go.RowKit NatP LexP
abbrev FW := (Bool × List Nat) × (Bool × List Nat)
def QWd (w : World) (v : Value) (l : List FW) : Prop := ∃ ao cap, v = .slice ao l.length cap ∧ l.length ≤ cap ∧ cap ≤ maxLen ∧ (0 < l.length → ∃ g o, ao = some ⟨g, o, none⟩ ∧ g < w.heap.size ∧ ∀ j p, l[j]? = some p → ∃ m m2, w.cell? ⟨g, o + j * 4, none⟩ = some (.bool p.1.1) ∧ w.cell? ⟨g, o + j * 4 + 1, none⟩ = some m ∧ Rd w m p.1.2 ∧ w.cell? ⟨g, o + j * 4 + 2, none⟩ = some (.bool p.2.1) ∧ w.cell? ⟨g, o + j * 4 + 3, none⟩ = some m2 ∧ Rd w m2 p.2.2)
theorem QWd.below {w w' : World} {v : Value} {l : List FW} (h : QWd w v l) (hb : Below w.heap.size w w') : QWd w' v l := by
 obtain ⟨ao, cap, e, h1, h2, h3⟩ := h
 refine ⟨ao, cap, e, h1, h2, fun h0 => ?_⟩
 obtain ⟨g, o, rfl, a2, a3⟩ := h3 h0
 refine ⟨g, o, rfl, Nat.lt_of_lt_of_le a2 hb.size, fun j p hj => ?_⟩
 obtain ⟨m, m2, b1, b2, b3, b4, b5, b6⟩ := a3 j p hj
 exact ⟨m, m2, cell_keep hb b1, cell_keep hb b2, b3.below hb, cell_keep hb b4, cell_keep hb b5, b6.below hb⟩
def QWw (w : World) (v : Value) (l : List FW) : Prop := ∃ ao cap, v = .slice ao l.length cap ∧ l.length ≤ cap ∧ cap ≤ maxLen ∧ (0 < l.length → ∃ g o, ao = some ⟨g, o, none⟩ ∧ g < w.heap.size ∧ ∀ j p, l[j]? = some p → ∃ m m2, w.cell? ⟨g, o + j * 4, none⟩ = some (.bool p.1.1) ∧ w.cell? ⟨g, o + j * 4 + 1, none⟩ = some m ∧ RdW w m p.1.2 ∧ w.cell? ⟨g, o + j * 4 + 2, none⟩ = some (.bool p.2.1) ∧ w.cell? ⟨g, o + j * 4 + 3, none⟩ = some m2 ∧ RdW w m2 p.2.2)
theorem QWw.below {w w' : World} {v : Value} {l : List FW} (h : QWw w v l) (hb : Below w.heap.size w w') : QWw w' v l := by
 obtain ⟨ao, cap, e, h1, h2, h3⟩ := h
 refine ⟨ao, cap, e, h1, h2, fun h0 => ?_⟩
 obtain ⟨g, o, rfl, a2, a3⟩ := h3 h0
 refine ⟨g, o, rfl, Nat.lt_of_lt_of_le a2 hb.size, fun j p hj => ?_⟩
 obtain ⟨m, m2, b1, b2, b3, b4, b5, b6⟩ := a3 j p hj
 exact ⟨m, m2, cell_keep hb b1, cell_keep hb b2, b3.below hb, cell_keep hb b4, cell_keep hb b5, b6.below hb⟩
theorem QWd.weak {w : World} {v : Value} {l : List FW} (h : QWd w v l) : QWw w v l := by
 obtain ⟨ao, cap, e, h1, h2, h3⟩ := h
 refine ⟨ao, cap, e, h1, h2, fun h0 => ?_⟩
 obtain ⟨g, o, rfl, a2, a3⟩ := h3 h0
 refine ⟨g, o, rfl, a2, fun j p hj => ?_⟩
 obtain ⟨m, m2, b1, b2, b3, b4, b5, b6⟩ := a3 j p hj
 exact ⟨m, m2, b1, b2, b3.weak, b4, b5, b6.weak⟩
def qvs (l : List FW) : List ((Bool × Nat) × (Bool × Nat)) := l.map fun p => ((p.1.1, val p.1.2), (p.2.1, val p.2.2))
theorem QWd.qrd {w : World} {v : Value} {l : List FW} (h : QWd w v l) (hl : ∀ p ∈ l, p.1.2.length ≤ 1048576 ∧ p.2.2.length ≤ 1048576) : QRd w v (qvs l) := by
 obtain ⟨ao, cap, e, h1, h2, h3⟩ := h
 have hn : (qvs l).length = l.length := by simp [qvs]
 refine ⟨ao, cap, by rw [hn]; exact e, by rw [hn]; exact h1, h2, fun h0 => ?_⟩
 obtain ⟨g, o, rfl, a2, a3⟩ := h3 (by rw [← hn]; exact h0)
 refine ⟨g, o, rfl, a2, fun j p hj => ?_⟩
 simp only [qvs, List.getElem?_map, Option.map_eq_some_iff] at hj
 obtain ⟨q, hq, rfl⟩ := hj
 obtain ⟨m, m2, b1, b2, b3, b4, b5, b6⟩ := a3 j q hq
 exact ⟨⟨m, q.1.2, b1, b2, b3, rfl, (hl q (List.mem_of_getElem? hq)).1⟩, ⟨m2, q.2.2, b4, b5, b6, rfl, (hl q (List.mem_of_getElem? hq)).2⟩⟩
theorem Tryz.infoFq : (Tryz.prog.info? 71).map (fun i => (i.zero, i.size, i.bytes)) = some (some (.agg #[.bool false, .slice none 0 0, .bool false, .slice none 0 0]), 4, 64) := by kernel_rfl
theorem make_fracs (n : Nat) (hn : n ≤ 1099511627776) : ∀ w : World, (Instr.makeSlice 56 (.int .i64 (n : Int)) (.int .i64 (n : Int))).run Tryz.prog w = .ok (.slice (some ⟨w.heap.size, 0, none⟩) n n) (w.alloc (.cells (madeCells #[.bool false, .slice none 0 0, .bool false, .slice none 0 0] (n * 4)) 71)) := by
 obtain ⟨i0, hi, hz0, hz1, hz2⟩ := info_parts Tryz.infoFq
 intro w
 have hb : (i0.bytes : Int) * (n : Int) ≤ 281474976710656 := by rw [hz2]; omega
 have hr := run_make (P := Tryz.prog) w 56 71 i0 (.agg #[.bool false, .slice none 0 0, .bool false, .slice none 0 0]) Tryz.underlying56 hi hz0 .i64 .i64 n n (by omega) (Int.le_refl _) hb (by omega)
 simp only [Int.toNat_natCast] at hr
 rw [hr, hz1]
 rfl
theorem raw4_ne {w : World} {q o : Nat} {a b c d : Value} {x : Addr} {y : Option Value} (h : x.block ≠ q) (hy : w.cell? x = y) : ((((w.setCell ⟨q, o, none⟩ a).setCell ⟨q, o + 1, none⟩ b).setCell ⟨q, o + 2, none⟩ c).setCell ⟨q, o + 3, none⟩ d).cell? x = y :=
 ((World.cell?_setCell_other _ _ _ _ (fun e => h (by rw [← e]))).trans ((World.cell?_setCell_other _ _ _ _ (fun e => h (by rw [← e]))).trans ((World.cell?_setCell_other _ _ _ _ (fun e => h (by rw [← e]))).trans (World.cell?_setCell_other _ _ _ _ (fun e => h (by rw [← e])))))).trans hy
theorem raw4_fro {w : World} {q o : Nat} {a b c d : Value} {x : Addr} (hy : w.frozen? x = false) : ((((w.setCell ⟨q, o, none⟩ a).setCell ⟨q, o + 1, none⟩ b).setCell ⟨q, o + 2, none⟩ c).setCell ⟨q, o + 3, none⟩ d).frozen? x = false :=
 ((World.frozen?_setCell _ _ _ _).trans ((World.frozen?_setCell _ _ _ _).trans ((World.frozen?_setCell _ _ _ _).trans (World.frozen?_setCell _ _ _ _)))).trans hy
theorem raw4_some {w : World} {q o : Nat} {a b c d : Value} {x : Addr} (h : (w.cell? x).isSome = true) : (((((w.setCell ⟨q, o, none⟩ a).setCell ⟨q, o + 1, none⟩ b).setCell ⟨q, o + 2, none⟩ c).setCell ⟨q, o + 3, none⟩ d).cell? x).isSome = true :=
 isSome_set' (isSome_set' (isSome_set' (isSome_set' h)))
def set4 (w : World) (q o : Nat) (a b c d : Value) : World := (((w.setCell ⟨q, o, none⟩ a).setCell ⟨q, o + 1, none⟩ b).setCell ⟨q, o + 2, none⟩ c).setCell ⟨q, o + 3, none⟩ d
theorem set4_wr (w : World) (q o : Nat) (a b c d : Value) : Wr q none w (set4 w q o a b c d) :=
 (((Wr.of_set w _ _).trans (Mv.refl _ _) (Wr.of_set _ _ _)).trans (Mv.refl _ _) (Wr.of_set _ _ _)).trans (Mv.refl _ _) (Wr.of_set _ _ _)
def FBk (w : World) (q n B : Nat) (l : List FW) (i : Nat) : Prop := ∃ cur : Array Value, w.heap[q]? = some (.cells cur 71 (0, 0)) ∧ cur.size = n * 4 ∧ ∀ j p, j < i → l[j]? = some p → ∃ m m2, cur[j * 4]? = some (.bool p.1.1) ∧ cur[j * 4 + 1]? = some m ∧ cur[j * 4 + 2]? = some (.bool p.2.1) ∧ cur[j * 4 + 3]? = some m2 ∧ Rd w m p.1.2 ∧ Rd w m2 p.2.2 ∧ (∀ k, m.ownBlock = some k → B ≤ k ∧ k ≠ q) ∧ ∀ k, m2.ownBlock = some k → B ≤ k ∧ k ≠ q
theorem FBk.lt {w : World} {q n B i : Nat} {l : List FW} (h : FBk w q n B l i) : q < w.heap.size := by
 obtain ⟨cur, h1, -⟩ := h; exact (Array.getElem?_eq_some_iff.1 h1).1
theorem FBk.below {w w' : World} {q n B i : Nat} {l : List FW} (h : FBk w q n B l i) (hb : Below w.heap.size w w') : FBk w' q n B l i := by
 obtain ⟨cur, h1, h2, h3⟩ := h
 refine ⟨cur, (hb.block q (Array.getElem?_eq_some_iff.1 h1).1).trans h1, h2, fun j p hj hp => ?_⟩
 obtain ⟨m, m2, a1, a2, a3, a4, a5, a6, a7⟩ := h3 j p hj hp
 exact ⟨m, m2, a1, a2, a3, a4, a5.below hb, a6.below hb, a7⟩
theorem FBk.wr {w w' : World} {R q n B i : Nat} {l : List FW} (h : FBk w q n B l i) (hw : Wr R none w w') (hq : q ≠ R) (hR : R < B) : FBk w' q n B l i := by
 obtain ⟨cur, h1, h2, h3⟩ := h
 refine ⟨cur, (hw.block q (Array.getElem?_eq_some_iff.1 h1).1 hq (by simp)).trans h1, h2, fun j p hj hp => ?_⟩
 obtain ⟨m, m2, a1, a2, a3, a4, a5, a6, a7, a8⟩ := h3 j p hj hp
 exact ⟨m, m2, a1, a2, a3, a4, a5.wr hw (fun k hk => ⟨by have := (a7 k hk).1; omega, by simp⟩), a6.wr hw (fun k hk => ⟨by have := (a8 k hk).1; omega, by simp⟩), a7, a8⟩
theorem FBk.made (w : World) (n B : Nat) (l : List FW) : FBk (w.alloc (.cells (madeCells #[.bool false, .slice none 0 0, .bool false, .slice none 0 0] (n * 4)) 71)) w.heap.size n B l 0 :=
 ⟨_, heap_alloc_new w _, by simp [madeCells], fun j p hj _ => absurd hj (Nat.not_lt_zero _)⟩
theorem FBk.set {w : World} {q n B i : Nat} {l : List FW} (h : FBk w q n B l i) (hi : i < n) {b b2 : Bool} {xs ys : List Nat} (hx : l[i]? = some ((b, xs), (b2, ys))) {m m2 : Value} (hm : Rd w m xs) (hm2 : Rd w m2 ys) (hB : ∀ k, m.ownBlock = some k → B ≤ k ∧ k ≠ q) (hB2 : ∀ k, m2.ownBlock = some k → B ≤ k ∧ k ≠ q) :
  FBk (set4 w q (i * 4) (.bool b) m (.bool b2) m2) q n B l (i + 1) := by
 obtain ⟨cur, h1, h2, h3⟩ := h
 have s0 := heap_setCell_same w q (i * 4) _ 71 (.bool b) h1
 have s1 := heap_setCell_same _ q (i * 4 + 1) _ 71 m s0
 have s2 := heap_setCell_same _ q (i * 4 + 2) _ 71 (.bool b2) s1
 have s3 := heap_setCell_same _ q (i * 4 + 3) _ 71 m2 s2
 have hwr := set4_wr w q (i * 4) (.bool b) m (.bool b2) m2
 refine ⟨_, s3, by simp [h2], fun j p hj hp => ?_⟩
 by_cases hji : j = i
 ·subst hji
  rw [hx] at hp; cases hp
  refine ⟨m, m2, ?_, ?_, ?_, ?_, hm.wr hwr (fun k hk => ⟨(hB k hk).2, by simp⟩), hm2.wr hwr (fun k hk => ⟨(hB2 k hk).2, by simp⟩), hB, hB2⟩
  all_goals simp [Array.getElem?_setIfInBounds]; omega
 ·obtain ⟨m', m2', a1, a2, a3, a4, a5, a6, a7, a8⟩ := h3 j p (by omega) hp
  refine ⟨m', m2', ?_, ?_, ?_, ?_, a5.wr hwr (fun k hk => ⟨(a7 k hk).2, by simp⟩), a6.wr hwr (fun k hk => ⟨(a8 k hk).2, by simp⟩), a7, a8⟩
  ·rw [← a1]; simp [Array.getElem?_setIfInBounds]; rw [if_neg (by omega), if_neg (by omega), if_neg (by omega), if_neg (by omega)]
  ·rw [← a2]; simp [Array.getElem?_setIfInBounds]; rw [if_neg (by omega), if_neg (by omega), if_neg (by omega), if_neg (by omega)]
  ·rw [← a3]; simp [Array.getElem?_setIfInBounds]; rw [if_neg (by omega), if_neg (by omega), if_neg (by omega), if_neg (by omega)]
  ·rw [← a4]; simp [Array.getElem?_setIfInBounds]; rw [if_neg (by omega), if_neg (by omega), if_neg (by omega), if_neg (by omega)]
theorem FBk.qwd {w : World} {q n B : Nat} {l : List FW} (h : FBk w q n B l l.length) (m : Nat) (hm : l.length ≤ m) (hmx : m ≤ maxLen) : QWd w (.slice (some ⟨q, 0, none⟩) l.length m) l := by
 have hl := h.lt
 obtain ⟨cur, h1, h2, h3⟩ := h
 refine ⟨_, _, rfl, hm, hmx, fun h0 => ⟨q, 0, rfl, hl, fun j p hp => ?_⟩⟩
 obtain ⟨m, m2, a1, a2, a3, a4, a5, a6, -⟩ := h3 j p (List.getElem?_eq_some_iff.1 hp).1 hp
 refine ⟨m, m2, ?_, ?_, a5, ?_, ?_, a6⟩ <;> rw [Nat.zero_add, cell_of_row _ _ _ _ _ _ h1] <;> assumption
structure QmS (l : List FW) (r c : Int) (n cap g : Nat) (ao : Option Addr) (w : World) (p q i : Nat) (wr : World) : Prop where
 box : wr.heap[g]? = some (.cells #[.int .i64 r, .int .i64 c, .slice ao n cap] 58 (0, 0))
 res : wr.heap[g + 1]? = some (.cells #[.int .i64 0, .int .i64 0, .slice none 0 0] 58 (0, 0))
 out : wr.heap[p]? = some (.cells #[.int .i64 r, .int .i64 c, .slice (some ⟨q, 0, none⟩) n n] 58 (0, 0))
 blk : FBk wr q n (g + 2) l i
 bel : Below w.heap.size w wr
 ap : q ≠ p ∧ q ≠ g ∧ q ≠ g + 1
 le : w.heap.size ≤ q ∧ w.heap.size ≤ g ∧ p ≠ g + 1 ∧ w.heap.size ≤ p
theorem QmS.start {l : List FW} {r c : Int} {n cap g p q : Nat} {ao : Option Addr} {w w0 wx : World} (hb0 : Below w.heap.size w w0) (hb : Below w0.heap.size w0 wx)
  (h0 : w0.heap[g]? = some (.cells #[.int .i64 r, .int .i64 c, .slice ao n cap] 58 (0, 0))) (h1 : w0.heap[g + 1]? = some (.cells #[.int .i64 0, .int .i64 0, .slice none 0 0] 58 (0, 0)))
  (out : wx.heap[p]? = some (.cells #[.int .i64 r, .int .i64 c, .slice (some ⟨q, 0, none⟩) n n] 58 (0, 0))) (blk : FBk wx q n (g + 2) l 0) (hpq : q ≠ p) (hp : w0.heap.size ≤ p) (hq : w0.heap.size ≤ q) (hg : w.heap.size ≤ g) : QmS l r c n cap g ao w p q 0 wx := by
 have l0 := (Array.getElem?_eq_some_iff.1 h0).1
 have l1 := (Array.getElem?_eq_some_iff.1 h1).1
 have := hb0.size
 exact ⟨(hb.block g l0).trans h0, (hb.block (g + 1) l1).trans h1, out, blk, hb0.trans (hb.mono hb0.size), ⟨hpq, by omega, by omega⟩, ⟨by omega, hg, by omega, by omega⟩⟩
theorem QmS.below {l : List FW} {r c : Int} {n cap g p q i : Nat} {ao : Option Addr} {w wr wx : World} (h : QmS l r c n cap g ao w p q i wr) (hb : Below wr.heap.size wr wx) : QmS l r c n cap g ao w p q i wx :=
 ⟨(hb.block g (Array.getElem?_eq_some_iff.1 h.box).1).trans h.box, (hb.block (g + 1) (Array.getElem?_eq_some_iff.1 h.res).1).trans h.res, (hb.block p (Array.getElem?_eq_some_iff.1 h.out).1).trans h.out, h.blk.below hb, h.bel.trans (hb.mono h.bel.size), h.ap, h.le⟩
theorem QmS.set {l : List FW} {r c : Int} {n cap g p q i : Nat} {ao : Option Addr} {w wr : World} (h : QmS l r c n cap g ao w p q i wr) (hi : i < n) {b b2 : Bool} {xs ys : List Nat} (hx : l[i]? = some ((b, xs), (b2, ys))) {m m2 : Value} (hm : Rd wr m xs) (hm2 : Rd wr m2 ys) (hB : ∀ k, m.ownBlock = some k → g + 2 ≤ k ∧ k ≠ q) (hB2 : ∀ k, m2.ownBlock = some k → g + 2 ≤ k ∧ k ≠ q) :
  QmS l r c n cap g ao w p q (i + 1) (set4 wr q (i * 4) (.bool b) m (.bool b2) m2) := by
 have hwr := set4_wr wr q (i * 4) (.bool b) m (.bool b2) m2
 have k := fun k (hk : k < wr.heap.size) (hne : k ≠ q) => hwr.block k hk hne (by simp)
 exact ⟨(k g (Array.getElem?_eq_some_iff.1 h.box).1 h.ap.2.1.symm).trans h.box, (k (g + 1) (Array.getElem?_eq_some_iff.1 h.res).1 h.ap.2.2.symm).trans h.res, (k p (Array.getElem?_eq_some_iff.1 h.out).1 h.ap.1.symm).trans h.out, h.blk.set hi hx hm hm2 hB hB2, hwr.to_below h.bel h.bel.size h.le.1 (fun k hk => by cases hk), h.ap, h.le⟩
set_option maxRecDepth 100000 in
set_option maxHeartbeats 16000000 in
theorem copyqmat_any (r c : Int) (l : List FW) (v : Value) (w : World) (hv : QWw w v l) (hn : l.length ≤ 1073741824) (hl : ∀ p ∈ l, p.1.2.length ≤ 1073741824 ∧ p.2.2.length ≤ 1073741824) :
  Calls Tryz.prog 29 #[.agg #[.int .i64 r, .int .i64 c, v]] w fun e w' => ∃ u, e = .returned (.agg #[.int .i64 r, .int .i64 c, u]) ∧ QWd w' u l ∧ Below w.heap.size w w' := by
 have HV := Lib.hid hv
 obtain ⟨ao, cap, rfl, h1, h2, -⟩ := hv
 obtain ⟨n, hnn⟩ : ∃ n, n = l.length := ⟨_, rfl⟩
 rw [← hnn] at h1 hn ⊢
 have HNN := Lib.hid hnn
 have HL := Lib.hid hl
 have HMK := make_fracs n (by omega)
 clear hl hnn h2
 go_enter Tryz.func29, Tryz.ntmps29
 go_upto_region 1 with fail
 obtain ⟨g, hg⟩ : ∃ g, g = w.heap.size := ⟨_, rfl⟩
 obtain ⟨w0, hw0⟩ : ∃ w0, w0 = (w.alloc (.cells #[.int .i64 r, .int .i64 c, .slice ao n cap] 58)).alloc (.cells #[.int .i64 0, .int .i64 0, .slice none 0 0] 58) := ⟨_, rfl⟩
 have HB0 : Hid (Below w.heap.size w w0) := by
  rw [hw0]
  exact (below_alloc w (.cells #[.int .i64 r, .int .i64 c, .slice ao n cap] 58)).trans ((below_alloc _ _).mono (below_alloc w (.cells #[.int .i64 r, .int .i64 c, .slice ao n cap] 58)).size)
 have hb0 : w0.heap[g]? = some (.cells #[.int .i64 r, .int .i64 c, .slice ao n cap] 58 (0, 0)) := by
  rw [hw0, hg]; exact (below_alloc (w.alloc (.cells #[.int .i64 r, .int .i64 c, .slice ao n cap] 58)) _).block w.heap.size (by simp) |>.trans (heap_alloc_new w _)
 have hb1 : w0.heap[g + 1]? = some (.cells #[.int .i64 0, .int .i64 0, .slice none 0 0] 58 (0, 0)) := by
  rw [hw0, hg]
  have := heap_alloc_new (w.alloc (.cells #[.int .i64 r, .int .i64 c, .slice ao n cap] 58)) (.cells #[.int .i64 0, .int .i64 0, .slice none 0 0] 58)
  rw [World.size_alloc] at this; exact this
 rw [← hw0, ← hg]
 have c0 : w0.cell? ⟨g, 0, none⟩ = some (.int .i64 r) := (cell_of_row w0 _ _ _ _ _ hb0).trans rfl
 have c1 : w0.cell? ⟨g, 1, none⟩ = some (.int .i64 c) := (cell_of_row w0 _ _ _ _ _ hb0).trans rfl
 have c2 : w0.cell? ⟨g, 2, none⟩ = some (.slice ao n cap) := (cell_of_row w0 _ _ _ _ _ hb0).trans rfl
 have HG := Lib.hid hg
 have HH0 := Lib.hid hb0
 have HH1 := Lib.hid hb1
 clear hw0 hb0 hb1 hg
 have hgl : g + 1 < w0.heap.size := (Array.getElem?_eq_some_iff.1 HH1.out).1
 go_cut [3] (fun pv wx => ∃ p q : Nat, pv = .pointer (some ⟨p, 0, none⟩) ∧ Hid (QmS l r c n cap g ao w p q 0 wx))
 case first =>
  go_region_held3 (fun w' => w'.cell? ⟨g, 0, none⟩ = some (.int .i64 r) ∧ w'.cell? ⟨g, 1, none⟩ = some (.int .i64 c) ∧ w'.cell? ⟨g, 2, none⟩ = some (.slice ao n cap))
   (go_keep)
   (fail)
  ·go_wp2_with fail
   go_meet
   refine ⟨w0.heap.size + 1, w0.heap.size, rfl, QmS.start HB0.out ((below_alloc w0 _).trans ((below_alloc _ _).mono (below_alloc w0 _).size)).drew HH0.out HH1.out ?_ ((FBk.made w0 n (g + 2) l).below (below_alloc _ _).drew) (by omega) (by omega) (Nat.le_refl _) (by rw [HG.out]; exact Nat.le_refl _)⟩
   have := heap_alloc_new (w0.alloc (.cells (madeCells #[.bool false, .slice none 0 0, .bool false, .slice none 0 0] (n * 4)) 71)) (.cells #[.int .i64 r, .int .i64 c, .slice (some ⟨w0.heap.size, 0, none⟩) n n] 58)
   rw [World.size_alloc] at this
   exact this
  ·go_wp2_with fail
   go_meet
   refine ⟨w0.heap.size, w0.heap.size + 1, rfl, QmS.start HB0.out ((below_alloc w0 _).trans ((below_alloc _ _).mono (below_alloc w0 _).size)).drew HH0.out HH1.out ((below_alloc _ _).drew.block _ (by simp) |>.trans (heap_alloc_new w0 _)) ?_ (by omega) (Nat.le_refl _) (by omega) (by rw [HG.out]; exact Nat.le_refl _)⟩
   have := (FBk.made (w0.alloc (.cells #[.int .i64 r, .int .i64 c, .slice (some ⟨w0.heap.size + 1, 0, none⟩) n n] 58)) n (g + 2) l).below (Below.refl _ _).drew
   rw [World.size_alloc] at this
   exact this
 case rest =>
  obtain ⟨p, q, rfl, HST⟩ := hcut
  clear HH0 HH1 hgl c0 c1 c2 HB0 HMK
  go_wp2_with fail
  go_loopw [4] (fun iv wr => ∃ i : Nat, iv = .int .i64 (i : Nat) ∧ i ≤ n ∧ QmS l r c n cap g ao w p q i wr) (fun iv _ => n - (intOf iv).toNat)
  case atStart => exact ⟨0, rfl, Nat.zero_le _, HST.out⟩
  clear HST
  case round =>
   obtain ⟨i, rfl, hin, hst⟩ := hrel
   have HST := Lib.hid hst
   have k2 : wr.cell? ⟨g, 2, none⟩ = some (.slice ao n cap) := (cell_of_row wr _ _ _ _ _ hst.box).trans rfl
   by_cases hlt : i < n
   ·have kp : wr.cell? ⟨p, 2, none⟩ = some (.slice (some ⟨q, 0, none⟩) n n) := (cell_of_row wr _ _ _ _ _ hst.out).trans rfl
    obtain ⟨e, he⟩ : ∃ e, l[i]? = some e := ⟨_, List.getElem?_eq_getElem (by rw [← HNN.out]; exact hlt)⟩
    obtain ⟨⟨b, xs⟩, ⟨b2', ys⟩⟩ := e
    obtain ⟨ao', cap', e', -, -, hc⟩ := HV.out
    cases e'
    obtain ⟨ga, o, rfl, hga, hc2⟩ := hc (by rw [← HNN.out]; omega)
    obtain ⟨m, m2, e0, e1, hrd, e2, e3, hrd2⟩ := hc2 i _ he
    replace e0 := (hst.bel.cell (p := ⟨ga, o + i * 4, none⟩) hga).trans e0
    replace e1 := (hst.bel.cell (p := ⟨ga, o + i * 4 + 1, none⟩) hga).trans e1
    replace e2 := (hst.bel.cell (p := ⟨ga, o + i * 4 + 2, none⟩) hga).trans e2
    replace e3 := (hst.bel.cell (p := ⟨ga, o + i * 4 + 3, none⟩) hga).trans e3
    replace hrd := hrd.below hst.bel
    replace hrd2 := hrd2.below hst.bel
    obtain ⟨mo, mcap, rfl, -, -, -, -⟩ := hrd.2
    obtain ⟨mo2, mcap2, rfl, -, -, -, -⟩ := hrd2.2
    simp only at e0 e1 e2 e3 hrd hrd2
    have HRD := Lib.hid (hrd.below (Below.refl wr.heap.size wr).drew)
    have HRD2 := Lib.hid (hrd2.below (Below.refl wr.heap.size wr).drew)
    have HE := Lib.hid he
    obtain ⟨hxl, hyl⟩ := HL.out _ (List.mem_of_getElem? he)
    simp only at hxl hyl
    obtain ⟨cur, hq1, hq2, -⟩ := hst.blk
    have Y0 : Hid ((wr.cell? ⟨q, i * 4, none⟩).isSome = true) := by show _ = _; rw [cell_of_row _ _ _ _ _ _ hq1, Array.getElem?_eq_getElem (by omega)]; rfl
    have Y1 : Hid ((wr.cell? ⟨q, i * 4 + 1, none⟩).isSome = true) := by show _ = _; rw [cell_of_row _ _ _ _ _ _ hq1, Array.getElem?_eq_getElem (by omega)]; rfl
    have Y2 : Hid ((wr.cell? ⟨q, i * 4 + 2, none⟩).isSome = true) := by show _ = _; rw [cell_of_row _ _ _ _ _ _ hq1, Array.getElem?_eq_getElem (by omega)]; rfl
    have Y3 : Hid ((wr.cell? ⟨q, i * 4 + 3, none⟩).isSome = true) := by show _ = _; rw [cell_of_row _ _ _ _ _ _ hq1, Array.getElem?_eq_getElem (by omega)]; rfl
    have f0 : wr.frozen? ⟨q, i * 4, none⟩ = false := frozen_of_row _ _ _ _ _ hq1
    have f1 : wr.frozen? ⟨q, i * 4 + 1, none⟩ = false := frozen_of_row _ _ _ _ _ hq1
    have f2 : wr.frozen? ⟨q, i * 4 + 2, none⟩ = false := frozen_of_row _ _ _ _ _ hq1
    have f3 : wr.frozen? ⟨q, i * 4 + 3, none⟩ = false := frozen_of_row _ _ _ _ _ hq1
    have hql := hst.blk.lt
    have hpq := hst.ap.1
    have hgq := hst.ap.2.1
    have hi0 : (0 : Int) ≤ (i : Int) := Int.natCast_nonneg _
    have hi1 : (i : Int) < (n : Int) := by omega
    have hqa : ga ≠ q := by have := hst.le.1; omega
    have hpq' : p ≠ q := hpq.symm
    have hgq' : g ≠ q := hgq.symm
    have hql2 : g + 2 ≤ wr.heap.size := (Array.getElem?_eq_some_iff.1 hst.res).1
    obtain ⟨U, hU⟩ := someU
    have HU := Lib.hid hU
    have bd : Below wr.heap.size wr wr.drew := (Below.refl wr.heap.size wr).drew
    have KP := Lib.hid (cell_keep bd kp)
    have K2 := Lib.hid (cell_keep bd k2)
    have E0 := Lib.hid (cell_keep bd e0)
    have E1 := Lib.hid (cell_keep bd e1)
    have E2 := Lib.hid (cell_keep bd e2)
    have E3 := Lib.hid (cell_keep bd e3)
    have F0 := Lib.hid (fro_keep2 bd hql f0)
    have F1 := Lib.hid (fro_keep2 bd hql f1)
    have F2 := Lib.hid (fro_keep2 bd hql f2)
    have F3 := Lib.hid (fro_keep2 bd hql f3)
    replace Y0 := Lib.hid (isSome_keep bd Y0.out)
    replace Y1 := Lib.hid (isSome_keep bd Y1.out)
    replace Y2 := Lib.hid (isSome_keep bd Y2.out)
    replace Y3 := Lib.hid (isSome_keep bd Y3.out)
    have hqlD : q < wr.drew.heap.size := hql
    clear hU he hrd hrd2 hq1 hst hc hc2 hq2 bd
    go_wp2_with fail
    go_region_held3 (fun w' => w'.cell? ⟨p, 2, none⟩ = some (.slice (some ⟨q, 0, none⟩) n n) ∧ w'.cell? ⟨g, 2, none⟩ = some (.slice (some ⟨ga, o, none⟩) n cap) ∧ w'.cell? ⟨ga, o + i * 4, none⟩ = some (.bool b) ∧ w'.cell? ⟨ga, o + i * 4 + 1, none⟩ = some (.slice mo xs.length mcap) ∧ w'.cell? ⟨ga, o + i * 4 + 2, none⟩ = some (.bool b2') ∧ w'.cell? ⟨ga, o + i * 4 + 3, none⟩ = some (.slice mo2 ys.length mcap2) ∧ w'.frozen? ⟨q, i * 4, none⟩ = false ∧ w'.frozen? ⟨q, i * 4 + 1, none⟩ = false ∧ w'.frozen? ⟨q, i * 4 + 2, none⟩ = false ∧ w'.frozen? ⟨q, i * 4 + 3, none⟩ = false ∧ w'.cell? ⟨q, i * 4, none⟩ = some (U q (i * 4) w') ∧ w'.cell? ⟨q, i * 4 + 1, none⟩ = some (U q (i * 4 + 1) w') ∧ w'.cell? ⟨q, i * 4 + 2, none⟩ = some (U q (i * 4 + 2) w') ∧ w'.cell? ⟨q, i * 4 + 3, none⟩ = some (U q (i * 4 + 3) w'))
     (first
      | (have hb3 := b3; with_reducible exact ⟨cell_keep b3 (cell_keep b2 KP.out), cell_keep b3 (cell_keep b2 K2.out), cell_keep b3 (cell_keep b2 E0.out), cell_keep b3 (cell_keep b2 E1.out), cell_keep b3 (cell_keep b2 E2.out), cell_keep b3 (cell_keep b2 E3.out), fro_keep2 b3 (Nat.lt_of_lt_of_le hqlD b2.size) (fro_keep2 b2 hqlD F0.out), fro_keep2 b3 (Nat.lt_of_lt_of_le hqlD b2.size) (fro_keep2 b2 hqlD F1.out), fro_keep2 b3 (Nat.lt_of_lt_of_le hqlD b2.size) (fro_keep2 b2 hqlD F2.out), fro_keep2 b3 (Nat.lt_of_lt_of_le hqlD b2.size) (fro_keep2 b2 hqlD F3.out), HU.out _ _ _ (isSome_keep b3 (isSome_keep b2 Y0.out)), HU.out _ _ _ (isSome_keep b3 (isSome_keep b2 Y1.out)), HU.out _ _ _ (isSome_keep b3 (isSome_keep b2 Y2.out)), HU.out _ _ _ (isSome_keep b3 (isSome_keep b2 Y3.out))⟩)
      | (have hb3 := b3; with_reducible exact ⟨raw4_ne hpq' (cell_keep b3 (cell_keep b2 KP.out)), raw4_ne hgq' (cell_keep b3 (cell_keep b2 K2.out)), raw4_ne hqa (cell_keep b3 (cell_keep b2 E0.out)), raw4_ne hqa (cell_keep b3 (cell_keep b2 E1.out)), raw4_ne hqa (cell_keep b3 (cell_keep b2 E2.out)), raw4_ne hqa (cell_keep b3 (cell_keep b2 E3.out)), raw4_fro (fro_keep2 b3 (Nat.lt_of_lt_of_le hqlD b2.size) (fro_keep2 b2 hqlD F0.out)), raw4_fro (fro_keep2 b3 (Nat.lt_of_lt_of_le hqlD b2.size) (fro_keep2 b2 hqlD F1.out)), raw4_fro (fro_keep2 b3 (Nat.lt_of_lt_of_le hqlD b2.size) (fro_keep2 b2 hqlD F2.out)), raw4_fro (fro_keep2 b3 (Nat.lt_of_lt_of_le hqlD b2.size) (fro_keep2 b2 hqlD F3.out)), HU.out _ _ _ (raw4_some (isSome_keep b3 (isSome_keep b2 Y0.out))), HU.out _ _ _ (raw4_some (isSome_keep b3 (isSome_keep b2 Y1.out))), HU.out _ _ _ (raw4_some (isSome_keep b3 (isSome_keep b2 Y2.out))), HU.out _ _ _ (raw4_some (isSome_keep b3 (isSome_keep b2 Y3.out)))⟩)
      | (have hb2 := b2; with_reducible exact ⟨cell_keep b2 KP.out, cell_keep b2 K2.out, cell_keep b2 E0.out, cell_keep b2 E1.out, cell_keep b2 E2.out, cell_keep b2 E3.out, fro_keep2 b2 hqlD F0.out, fro_keep2 b2 hqlD F1.out, fro_keep2 b2 hqlD F2.out, fro_keep2 b2 hqlD F3.out, HU.out _ _ _ (isSome_keep b2 Y0.out), HU.out _ _ _ (isSome_keep b2 Y1.out), HU.out _ _ _ (isSome_keep b2 Y2.out), HU.out _ _ _ (isSome_keep b2 Y3.out)⟩)
      | exact ⟨KP.out, K2.out, E0.out, E1.out, E2.out, E3.out, F0.out, F1.out, F2.out, F3.out, HU.out _ _ _ Y0.out, HU.out _ _ _ Y1.out, HU.out _ _ _ Y2.out, HU.out _ _ _ Y3.out⟩)
     (first
      | (have hq2 := b2; go_at_call 63; refine (copyint_any b2' _ ys _ (HRD2.out.below b2) hyl).mono ?_; rintro e w3 ⟨uo2, ucap2, rfl, q2, b3⟩)
      | (go_at_call 63; refine (copyint_any b _ xs _ HRD.out hxl).mono ?_; rintro e w2 ⟨uo, ucap, rfl, q1, b2⟩))
    have h9 : QmS l r c n cap g (some ⟨ga, o, none⟩) w p q (i + 1) (set4 w3 q (i * 4) (.bool b) (.slice uo xs.length ucap) (.bool b2') (.slice uo2 ys.length ucap2)) :=
     (HST.out.below ((Below.refl wr.heap.size wr).drew.trans (b2.trans (b3.mono b2.size)))).set hlt HE.out (q1.1.below b3) q2.1 (fun k hk => by have := (q1.2 k hk).1; change wr.heap.size ≤ k at this; omega) (fun k hk => by have := (q2.2 k hk).1; have := b2.size; change wr.heap.size ≤ _ at this; omega)
    have H9 := Lib.hid h9
    unfold set4 at H9
    clear h9 q1 q2 b2 b3 kp k2 e0 e1 e2 e3 f0 f1 f2 f3
    go_wp2_with fail
    have hfin := H9.out
    first | exact ⟨⟨i + 1, by go_num, by omega, hfin⟩, by simp [intOf] <;> omega⟩ | exact ⟨by (repeat apply Exists.intro); exact ⟨⟨i + 1, by go_num, by omega, hfin⟩, rfl⟩, by simp [intOf] <;> omega⟩
   ·have hie : i = n := by omega
    have kp0 : wr.cell? ⟨p, 0, none⟩ = some (.int .i64 r) := (cell_of_row wr _ _ _ _ _ hst.out).trans rfl
    have kp1 : wr.cell? ⟨p, 1, none⟩ = some (.int .i64 c) := (cell_of_row wr _ _ _ _ _ hst.out).trans rfl
    have kp2 : wr.cell? ⟨p, 2, none⟩ = some (.slice (some ⟨q, 0, none⟩) n n) := (cell_of_row wr _ _ _ _ _ hst.out).trans rfl
    have r0 : wr.cell? ⟨g + 1, 0, none⟩ = some (.int .i64 0) := (cell_of_row wr _ _ _ _ _ hst.res).trans rfl
    have r1 : wr.cell? ⟨g + 1, 1, none⟩ = some (.int .i64 0) := (cell_of_row wr _ _ _ _ _ hst.res).trans rfl
    have r2 : wr.cell? ⟨g + 1, 2, none⟩ = some (.slice none 0 0) := (cell_of_row wr _ _ _ _ _ hst.res).trans rfl
    have f0 : wr.frozen? ⟨g + 1, 0, none⟩ = false := frozen_of_row _ _ _ _ _ hst.res
    have f1 : wr.frozen? ⟨g + 1, 1, none⟩ = false := frozen_of_row _ _ _ _ _ hst.res
    have f2 : wr.frozen? ⟨g + 1, 2, none⟩ = false := frozen_of_row _ _ _ _ _ hst.res
    rw [hie] at HST
    clear hst
    go_wp2_with fail
    have hwr : Wr (g + 1) none wr (((wr.setCell ⟨g + 1, 0, none⟩ (.int .i64 r)).setCell ⟨g + 1, 1, none⟩ (.int .i64 c)).setCell ⟨g + 1, 2, none⟩ (.slice (some ⟨q, 0, none⟩) n n)) := ((Wr.of_set wr _ _).trans (Mv.refl _ _) (Wr.of_set _ _ _)).trans (Mv.refl _ _) (Wr.of_set _ _ _)
    have hab := HST.out.blk.wr hwr HST.out.ap.2.2 (by omega)
    rw [HNN.out] at hab
    have hqw := hab.qwd n (by rw [HNN.out]; exact Nat.le_refl _) (by unfold maxLen; omega)
    rw [← HNN.out] at hqw
    refine bodyPost_ret (results_cell_row rfl _ _ (g + 1) 58 _ _ _ rfl (heap_setCell_same _ (g + 1) 2 _ 58 _ (heap_setCell_same _ (g + 1) 1 _ 58 _ (heap_setCell_same wr (g + 1) 0 _ 58 _ HST.out.res))) Tryz.underlying58 rfl (by kernel_rfl)) rfl ?_
    exact ⟨_, rfl, hqw, hwr.to_below HST.out.bel HST.out.bel.size (by have := HG.out; omega) (fun k hk => by cases hk)⟩
end Go.Proofs.YtgfmiladfeoldaaGreatDoor
