/- Joined texts of this claim's proof: EvD, EvE, EvF, RdH. -/
import Derived.Test.YtceggplnggkdnaaGreatDoorPk14
import Derived.Test.YtceggplnggkdnaaGreatDoorPk15
import Derived.StillTailTactics
import Derived.Deep.RegionLaw
import Derived.Deep.AppendLies
set_option linter.unusedSimpArgs false
set_option linter.unusedVariables false
namespace Go.Proofs.YtceggplnggkdnaaGreatDoor
open Go.RowKit NatP LexP Go.ChangeMaps
def DotR (w : World) (z : Int) (wr : World) : Prop := ∃ zo zs zcap, wr.heap[w.heap.size + 1]? = some (.cells #[.bool (decide (z < 0)), .slice zo (List.length zs) zcap] 115 (0, 0)) ∧ wr.heap[w.heap.size]? = some (.cells #[.bool false, .slice none 0 0] 115 (0, 0)) ∧ Rd wr (.slice zo zs.length zcap) zs ∧ (∀ q, (Value.slice zo zs.length zcap).ownBlock = some q → w.heap.size + 2 ≤ q) ∧ val zs = z.natAbs ∧ strip zs = zs ∧ Below w.heap.size w wr
theorem dot_start (w : World) : DotR w 0 ((w.alloc (.cells #[.bool false, .slice none 0 0] 115)).alloc (.cells #[.bool false, .slice none 0 0] 115)) := by
 have n1 := heap_alloc_new w (.cells #[.bool false, .slice none 0 0] 115)
 have n2 := heap_alloc_new (w.alloc (.cells #[.bool false, .slice none 0 0] 115)) (.cells #[.bool false, .slice none 0 0] 115)
 have b1 := below_alloc w (.cells #[.bool false, .slice none 0 0] 115)
 have b2 := below_alloc (w.alloc (.cells #[.bool false, .slice none 0 0] 115)) (.cells #[.bool false, .slice none 0 0] 115)
 rw [World.size_alloc] at n2
 exact ⟨none, [], 0, n2, (b2.block _ (by simp)).trans n1, Rd.nil _, fun q hq => (by cases hq), rfl, rfl, b1.trans (b2.mono b1.size)⟩
theorem IRs.el {w : World} {v : Value} {l : List (Bool × Nat)} (h : IRs w v l) {k : Nat} {p : Bool × Nat} (hp : l[k]? = some p) : ∃ g o cap mo xs mcap, v = .slice (some ⟨g, o, none⟩) l.length cap ∧ w.cell? ⟨g, o + k * 2, none⟩ = some (.bool p.1) ∧ w.cell? ⟨g, o + k * 2 + 1, none⟩ = some (.slice mo (List.length xs) mcap) ∧ Rd w (.slice mo xs.length mcap) xs ∧ val xs = p.2 ∧ xs.length ≤ 67108864 := by
 obtain ⟨ao, cap, rfl, -, -, h3⟩ := h
 obtain ⟨g, o, rfl, -, a3⟩ := h3 (by have := (List.getElem?_eq_some_iff.1 hp).1; omega)
 obtain ⟨m, xs, b1, b2, b3, b4, b5, -⟩ := a3 k p hp
 obtain ⟨mo, mcap, hm, -⟩ := b3.2
 subst hm
 exact ⟨g, o, cap, mo, xs, mcap, rfl, b1, b2, b3, b4, b5⟩
set_option maxRecDepth 100000 in
set_option maxHeartbeats 4000000 in
theorem dot_any (a b : SynP.MatV) (i j ar ac br bc na nb : Nat) (gA gB : Nat) (ao bo : Option Addr) (ca cb : Nat) (w : World) (hA : w.heap[gA]? = some (.cells #[.int .i64 (ar : Nat), .int .i64 (ac : Nat), .slice ao na ca] 54 (0, 0)))
  (hB : w.heap[gB]? = some (.cells #[.int .i64 (br : Nat), .int .i64 (bc : Nat), .slice bo nb cb] 54 (0, 0))) (ha : IRs w (.slice ao na ca) a.at_) (hb : IRs w (.slice bo nb cb) b.at_) (hac : ac = a.cols) (hbc : bc = b.cols) (hna : na = a.at_.length) (hnb : nb = b.at_.length)
  (h1 : ac ≤ 64) (h2 : bc ≤ 64) (h3 : ar ≤ 64) (hn1 : na = ar * ac) (hn2 : nb = ac * bc) (hi : i < ar) (hj : j < bc) (hw : SynP.mbits a + SynP.mbits b + SynP.bitsV a.cols ≤ 4096) :
  Calls Tryz.prog 353 #[.int .i64 (i : Nat), .int .i64 (j : Nat), .pointer (some ⟨gA, 0, none⟩), .pointer (some ⟨gB, 0, none⟩)] w (ZQ (SynP.dotK a b i j ac) w) := by
 have HS := Lib.hid (dot_start w)
 have HA := Lib.hid hA
 have HB := Lib.hid hB
 have HIA := Lib.hid ha
 have HIB := Lib.hid hb
 have HAC := Lib.hid hac
 have HBC := Lib.hid hbc
 have HNA := Lib.hid hna
 have HNB := Lib.hid hnb
 have HW := Lib.hid hw
 have hgA := (Array.getElem?_eq_some_iff.1 hA).1
 have hgB := (Array.getElem?_eq_some_iff.1 hB).1
 have N1 := Lib.hid hn1
 have N2 := Lib.hid hn2
 have hia : i * ac + ac ≤ na := by rw [hn1, ← Nat.succ_mul]; exact Nat.mul_le_mul_right _ hi
 have hna6 : na ≤ 4096 := by rw [hn1]; exact Nat.mul_le_mul h3 h1
 have hnb6 : nb ≤ 4096 := by rw [hn2]; exact Nat.mul_le_mul h1 h2
 clear hA hB ha hb hac hbc hna hnb hw hn1 hn2
 have c0 : ((w.alloc (.cells #[.bool false, .slice none 0 0] 115)).alloc (.cells #[.bool false, .slice none 0 0] 115)).cell? ⟨gA, 1, none⟩ = some (.int .i64 (ac : Nat)) := by
  obtain ⟨zo, zs, zcap, s1, s2, s3, s4, s5, s6, s7⟩ := HS.out
  exact (cell_of_row _ _ _ _ _ _ (blk_keep s7 HA.out)).trans rfl
 go_enter Tryz.func353, Tryz.ntmps353
 go_wp2_with fail
 obtain ⟨G, hG⟩ : ∃ G, G = w.heap.size + 1 := ⟨_, rfl⟩
 rw [← hG]
 have HG := Lib.hid hG
 clear hG
 go_loopw [11] (fun kv wr => ∃ k : Nat, k ≤ ac ∧ kv = .int .i64 (k : Nat) ∧ DotR w (SynP.dotK a b i j k) wr) (fun kv _ => ac - (intOf kv).toNat)
 case atStart => exact ⟨0, Nat.zero_le _, rfl, HS.out⟩
 case round =>
  obtain ⟨k, hk, rfl, hr⟩ := hrel
  obtain ⟨zo, zs, zcap, s1, s2, s3, s4, s5, s6, s7⟩ := hr
  have S1 := Lib.hid s1
  have S2 := Lib.hid s2
  have S3 := Lib.hid s3
  have S4 := Lib.hid s4
  have S5 := Lib.hid s5
  have S7 := Lib.hid s7
  by_cases hlt : k < ac
  ·have hzl : zs.length ≤ 64 := few_words (Nat.le_refl _) s3.ok s6 (by rw [s5]; exact dotK_lt a b HW.out i j k (by rw [← HAC.out]; exact hk))
   have hp2 : k * bc + j < nb := by
    have e1 : (k + 1) * bc ≤ ac * bc := Nat.mul_le_mul_right _ hlt
    rw [← N2.out, Nat.succ_mul] at e1
    omega
   obtain ⟨p, hp⟩ : ∃ p, a.at_[i * ac + k]? = some p := ⟨_, List.getElem?_eq_getElem (by rw [← HNA.out]; omega)⟩
   obtain ⟨q, hq⟩ : ∃ q, b.at_[k * bc + j]? = some q := ⟨_, List.getElem?_eq_getElem (by rw [← HNB.out]; omega)⟩
   obtain ⟨ga, oa, ca2, mo, xs, mcap, ea, x1, x2, x3, x4, hxl⟩ := HIA.out.el hp
   obtain ⟨gb, ob, cb2, no, ys, ncap, eb, y1, y2, y3, y4, hyl⟩ := HIB.out.el hq
   simp only [Value.slice.injEq] at ea eb
   obtain ⟨rfl, -, -⟩ := ea
   obtain ⟨rfl, -, -⟩ := eb
   have HEQ : Hid (SynP.zi (p.1, val xs) * SynP.zi (q.1, val ys) + SynP.zi (decide (SynP.dotK a b i j k < 0), val zs) = SynP.dotK a b i j (k + 1)) := by
    show _ = _
    have e1 : SynP.ent a (i * a.cols + k) = p := by unfold SynP.ent; rw [← HAC.out, List.getD_eq_getElem?_getD, hp]; rfl
    have e2 : SynP.ent b (k * b.cols + j) = q := by unfold SynP.ent; rw [← HBC.out, List.getD_eq_getElem?_getD, hq]; rfl
    have e3 := SynP.zi_iz (SynP.dotK a b i j k)
    unfold SynP.iz at e3
    rw [x4, y4, s5, e3]
    show _ = SynP.zi (SynP.ent a (i * a.cols + k)) * SynP.zi (SynP.ent b (k * b.cols + j)) + SynP.dotK a b i j k
    rw [e1, e2]
   obtain ⟨p1, hp1⟩ : ∃ p1, p1 = i * ac + k := ⟨_, rfl⟩
   obtain ⟨p2, hp2'⟩ : ∃ p2, p2 = k * bc + j := ⟨_, rfl⟩
   obtain ⟨m1, hm1⟩ : ∃ m1, m1 = i * ac := ⟨_, rfl⟩
   obtain ⟨m2, hm2⟩ : ∃ m2, m2 = k * bc := ⟨_, rfl⟩
   rw [← hp1] at x1 x2
   rw [← hp2'] at y1 y2
   have hP1 : p1 < na := by omega
   have hP2 : p2 < nb := by omega
   have w1 : IntKind.i64.wrap ((i : Int) * (ac : Int)) = (m1 : Int) := by
    rw [show (i : Int) * (ac : Int) = (m1 : Int) from by rw [hm1]; exact (Int.natCast_mul i ac).symm]
    exact IntWalk.i64_in _ (by omega)
   have w2 : IntKind.i64.wrap ((m1 : Int) + (k : Int)) = (p1 : Int) := by
    rw [show (m1 : Int) + (k : Int) = (p1 : Int) by omega]
    exact IntWalk.i64_in _ (by omega)
   have w3 : IntKind.i64.wrap ((k : Int) * (bc : Int)) = (m2 : Int) := by
    rw [show (k : Int) * (bc : Int) = (m2 : Int) from by rw [hm2]; exact (Int.natCast_mul k bc).symm]
    exact IntWalk.i64_in _ (by omega)
   have w4 : IntKind.i64.wrap ((m2 : Int) + (j : Int)) = (p2 : Int) := by
    rw [show (m2 : Int) + (j : Int) = (p2 : Int) by omega]
    exact IntWalk.i64_in _ (by omega)
   have d1 : wr.cell? ⟨gA, 1, none⟩ = some (.int .i64 (ac : Nat)) := (cell_of_row _ _ _ _ _ _ (blk_keep s7 HA.out)).trans rfl
   have d2 : wr.cell? ⟨gA, 2, none⟩ = some (.slice (some ⟨ga, oa, none⟩) na ca) := (cell_of_row _ _ _ _ _ _ (blk_keep s7 HA.out)).trans rfl
   have d3 : wr.cell? ⟨gB, 1, none⟩ = some (.int .i64 (bc : Nat)) := (cell_of_row _ _ _ _ _ _ (blk_keep s7 HB.out)).trans rfl
   have d4 : wr.cell? ⟨gB, 2, none⟩ = some (.slice (some ⟨gb, ob, none⟩) nb cb) := (cell_of_row _ _ _ _ _ _ (blk_keep s7 HB.out)).trans rfl
   have f1 := cell_keep s7 x1
   have f2 := cell_keep s7 x2
   have f3 := cell_keep s7 y1
   have f4 := cell_keep s7 y2
   have e1 : wr.cell? ⟨w.heap.size + 1, 0, none⟩ = some (.bool (decide (SynP.dotK a b i j k < 0))) := (cell_of_row _ _ _ _ _ _ s1).trans rfl
   have e2 : wr.cell? ⟨w.heap.size + 1, 1, none⟩ = some (.slice zo zs.length zcap) := (cell_of_row _ _ _ _ _ _ s1).trans rfl
   have g1 : wr.frozen? ⟨w.heap.size + 1, 0, none⟩ = false := frozen_of_row wr _ 0 _ _ s1
   have g2 : wr.frozen? ⟨w.heap.size + 1, 1, none⟩ = false := frozen_of_row wr _ 1 _ _ s1
   have X3 := Lib.hid (x3.below s7)
   have Y3 := Lib.hid (y3.below s7)
   obtain ⟨Z, hZ⟩ : ∃ Z, Z = decide (SynP.dotK a b i j k < 0) := ⟨_, rfl⟩
   rw [← hZ] at HEQ e1
   rw [← HG.out] at e1 e2 g1 g2
   obtain ⟨fp, hfp⟩ : ∃ fp, fp = p.1 := ⟨_, rfl⟩
   obtain ⟨fq, hfq⟩ : ∃ fq, fq = q.1 := ⟨_, rfl⟩
   rw [← hfp] at f1 HEQ
   rw [← hfq] at f3 HEQ
   have HP1 := Lib.hid hP1
   clear s1 s2 s3 s4 s5 s6 s7 x1 x2 x3 x4 y1 y2 y3 y4 hp hq hZ hp1 hp2' hm1 hm2 hp2 hfp hfq hia c0
   have XX : Hid (Rd wr.drew (.slice mo xs.length mcap) xs) := X3.out.below ⟨rfl, rfl, rfl, Nat.le_refl _, fun _ _ => rfl⟩
   have YY : Hid (Rd wr.drew (.slice no ys.length ncap) ys) := Y3.out.below ⟨rfl, rfl, rfl, Nat.le_refl _, fun _ _ => rfl⟩
   have ZZ : Hid (Rd wr.drew (.slice zo zs.length zcap) zs) := S3.out.below ⟨rfl, rfl, rfl, Nat.le_refl _, fun _ _ => rfl⟩
   have HXL : Hid (xs.length ≤ 67108864 ∧ ys.length ≤ 67108864) := ⟨hxl, hyl⟩
   clear hxl hyl
   go_wp2_with fail
   go_still_tail 21, (by kernel_rfl)
   change wpList _ _ _ _ _ wr.drew
   have E1 : wr.drew.cell? ⟨G, 0, none⟩ = some (.bool Z) := e1
   have E2 : wr.drew.cell? ⟨G, 1, none⟩ = some (.slice zo zs.length zcap) := e2
   have G1 : wr.drew.frozen? ⟨G, 0, none⟩ = false := g1
   have G2 : wr.drew.frozen? ⟨G, 1, none⟩ = false := g2
   have S7' : Hid (Below w.heap.size w wr.drew) := Below.drew S7.out
   have S1' : Hid (wr.drew.heap[G]? = some (.cells #[.bool (decide (SynP.dotK a b i j k < 0)), .slice zo zs.length zcap] 115 (0, 0))) := by show wr.heap[G]? = _; rw [HG.out]; exact S1.out
   have S2' : Hid (wr.drew.heap[w.heap.size]? = some (.cells #[.bool false, .slice none 0 0] 115 (0, 0))) := S2.out
   clear e1 e2 g1 g2 d1 d2 d3 d4 f1 f2 f3 f4
   generalize wr.drew = wd at *
   go_wp2_with fail
   refine (mulAdd_zint fp fq Z _ _ _ xs ys zs _ XX.out YY.out ZZ.out (by have := HXL.out; omega) (by omega)).mono ?_
   rw [HEQ.out]
   rintro e w5 ⟨u, rs, rfl, r1, r2, r3, b1⟩
   obtain ⟨uo, ucap, rfl, -, -, -, -⟩ := r1.1.2
   have F1 := cell_keep b1 E1
   have F2 := cell_keep b1 E2
   have K1 := fro_keep b1 E1 G1
   have K2 := fro_keep b1 E2 G2
   have T1 := Lib.hid (blk_keep b1 S1'.out)
   have T2 := Lib.hid (blk_keep b1 S2'.out)
   have T3 := Lib.hid r1
   have T4 := Lib.hid r2
   have T5 := Lib.hid r3
   have T7 : Hid (Below w.heap.size w w5) := S7'.out.trans (b1.mono S7'.out.size)
   have T8 : Hid (G < wd.heap.size) := (Array.getElem?_eq_some_iff.1 S1'.out).1
   clear E1 E2 G1 G2 r1 r2 r3 b1
   go_wp2_with fail
   have hfin : ∃ k' : Nat, k' ≤ ac ∧ (Value.int .i64 ((k : Int) + 1)) = .int .i64 (k' : Nat) ∧ DotR w (SynP.dotK a b i j k') ((w5.setCell ⟨G, 0, none⟩ (.bool (decide (SynP.dotK a b i j (k + 1) < 0)))).setCell ⟨G, 1, none⟩ (.slice uo rs.length ucap)) := by
    have s1 := heap_setCell_same w5 G 0 _ 115 (.bool (decide (SynP.dotK a b i j (k + 1) < 0))) T1.out
    have s2 := heap_setCell_same _ G 1 _ 115 (.slice uo rs.length ucap) s1
    have hg := HG.out
    have hne : w.heap.size ≠ G := by omega
    refine ⟨k + 1, by omega, by go_num, uo, rs, ucap, ?_, ?_, ?_, fun q hq => ?_, T4.out, T5.out, below_set2 T7.out (by omega)⟩
    ·rw [← hg]; exact s2.trans rfl
    ·exact (heap_setCell_other _ ⟨G, 1, none⟩ _ _ hne).trans ((heap_setCell_other _ ⟨G, 0, none⟩ _ _ hne).trans T2.out)
    ·exact (fr_set2 T3.out T8.out).1
    ·have := T3.out.2 q hq
     have := T8.out
     omega
   exact ⟨hfin, by simp [intOf]; omega⟩
  ·obtain rfl : k = ac := by omega
   rw [← HG.out] at s1
   have e1 : wr.cell? ⟨G, 0, none⟩ = some (.bool (decide (SynP.dotK a b i j k < 0))) := (cell_of_row _ _ _ _ _ _ s1).trans rfl
   have e2 : wr.cell? ⟨G, 1, none⟩ = some (.slice zo zs.length zcap) := (cell_of_row _ _ _ _ _ _ s1).trans rfl
   have g1 : wr.frozen? ⟨w.heap.size, 0, none⟩ = false := frozen_of_row wr _ 0 _ _ s2
   have g2 : wr.frozen? ⟨w.heap.size, 1, none⟩ = false := frozen_of_row wr _ 1 _ _ s2
   have e3 : wr.cell? ⟨w.heap.size, 0, none⟩ = some (.bool false) := (cell_of_row _ _ _ _ _ _ s2).trans rfl
   have e4 : wr.cell? ⟨w.heap.size, 1, none⟩ = some (.slice none 0 0) := (cell_of_row _ _ _ _ _ _ s2).trans rfl
   have S6 := Lib.hid s6
   obtain ⟨D, hD⟩ : ∃ D, D = SynP.dotK a b i j k := ⟨_, rfl⟩
   rw [← hD] at e1
   have HD := Lib.hid hD
   have HLS : Hid (G < wr.heap.size) := (Array.getElem?_eq_some_iff.1 s1).1
   clear s1 s2 s3 s4 s5 s6 s7 hlt hk hD c0 hia S1
   go_wp2_with fail
   have s1 := heap_setCell_same wr w.heap.size 0 _ 115 (.bool (decide (D < 0))) S2.out
   have s2 := heap_setCell_same _ w.heap.size 1 _ 115 (.slice zo zs.length zcap) s1
   refine bodyPost_ret (results_cell_row rfl _ _ w.heap.size 115 _ _ _ rfl s2 Tryz.underlying115 rfl (by kernel_rfl)) rfl ?_
   have hf : Fr (w.heap.size + 1) wr (.slice zo zs.length zcap) zs := ⟨S3.out, fun q hq => ⟨by have := S4.out q hq; omega, S3.out.1 q hq⟩⟩
   refine ⟨_, zs, ?_, (fr_set2 hf (Nat.lt_succ_self _)).mono (Nat.le_succ _), S5.out, S6.out, below_set2 S7.out (Nat.le_refl _)⟩
   rw [← HD.out]; rfl
end Go.Proofs.YtceggplnggkdnaaGreatDoor
namespace Go.Proofs.YtceggplnggkdnaaGreatDoor
open Go.RowKit NatP LexP Go.ChangeMaps
theorem step_clo {P : Program} {ops : Array Oper} {o : Oper} {a : Act} {w : World} {K : Act → World → Prop} {Q : Exit → Act → World → Prop} {E : Prop}
  (hg : o.guard = none) (f : Operand) (xs : Array Operand) (ts : Array TypeId) (hop : o.op = Op.call { callee := Callee.value f, args := xs, argTypes := ts })
  (F : FuncId) (caps vals : Array Value) (hf : a.eval f = .func (.func F) #[] caps) (hxs : xs.map a.eval = vals) (hent : ∀ args w, (callFunc F args).run P w = .ok (.enter F args) w) {post : Ending → World → Prop} (hC : Calls P F (vals ++ caps) w post)
  (hK : ∀ e w', post e w' → ∃ v, e = .returned v ∧ K (a.put o.dst v) w') :
  if Region.wanted o (yielded ops a.tmps) = true then Oper.wp P o a w K Q else E := by
 have hw : Region.wanted o (yielded ops a.tmps) = true := by simp [Region.wanted, hg]
 rw [if_pos hw]
 have hrun : (execOp a.eval o).run P w = .ok (.enter F (vals ++ caps)) w := by
  simp [execOp, hop, resolve, invoke, Deferred.ofValue, hf, hxs, hent, Result.andThen]
 unfold Oper.wp
 rw [hrun, Oper.upon_enter]
 refine hC.mono fun e w' h => ?_
 obtain ⟨v, rfl, hk⟩ := hK e w' h
 exact hk
def elC (ms : List (Bool × Value)) : List Value := ms.flatMap fun q => [.bool q.1, q.2]
theorem elC_snoc (ms : List (Bool × Value)) (q : Bool × Value) : elC (ms ++ [q]) = elC ms ++ [.bool q.1, q.2] := by simp [elC]
theorem elC_at : ∀ (ms : List (Bool × Value)) (j : Nat) (q : Bool × Value), ms[j]? = some q → (elC ms)[j * 2]? = some (.bool q.1) ∧ (elC ms)[j * 2 + 1]? = some q.2
 | [], _, _, h => by simp at h
 | a :: l, 0, q, h => by
  simp only [List.getElem?_cons_zero, Option.some.injEq] at h
  subst h
  simp [elC]
 | a :: l, j + 1, q, h => by
  rw [List.getElem?_cons_succ] at h
  obtain ⟨h1, h2⟩ := elC_at l j q h
  have e1 : (j + 1) * 2 = j * 2 + 1 + 1 := by omega
  constructor
  ·rw [e1]; simpa [elC] using h1
  ·rw [e1]; simpa [elC] using h2
def LW : Nat := 67108864
def BdR (w : World) (r c : Nat) (f : Nat → Int) (k : Nat) (wr : World) : Prop := ∃ g cap ms,
 wr.heap[w.heap.size + 2]? = some (.cells #[.int .i64 (r : Nat), .int .i64 (c : Nat), .slice (some ⟨g, 0, none⟩) k cap] 54 (0, 0)) ∧
 wr.heap[w.heap.size]? = some (.cells #[.int .i64 0, .int .i64 0, .slice none 0 0] 54 (0, 0)) ∧
 (g = w.heap.size + 1 ∨ w.heap.size + 3 ≤ g) ∧ wr.ownsRow (w.heap.size + 1) 115 2 (.slice (some ⟨g, 0, none⟩) k cap) k (elC ms) ∧ ms.length = k ∧
 (∀ t q, ms[t]? = some q → q.1 = decide (f t < 0) ∧ ∃ xs, Rd wr q.2 xs ∧ val xs = (f t).natAbs ∧ strip xs = xs ∧ ∀ b, q.2.ownBlock = some b → w.heap.size + 3 ≤ b ∧ b ≠ g) ∧ Below w.heap.size w wr
theorem BdR.step {w wr w5 w7 : World} {r c k : Nat} {f : Nat → Int} (h : BdR w r c f k wr) (hb : Below wr.heap.size wr w5) {u : Value} {rs : List Nat} (hu : Fr wr.heap.size w5 u rs) (hv : val rs = (f k).natAbs) (hs : strip rs = rs) {o : Obj} {g cap ms}
  (hm : wr.heap[w.heap.size + 2]? = some (.cells #[.int .i64 (r : Nat), .int .i64 (c : Nat), .slice (some ⟨g, 0, none⟩) k cap] 54 (0, 0))) (hown : wr.ownsRow (w.heap.size + 1) 115 2 (.slice (some ⟨g, 0, none⟩) k cap) k (elC ms)) (hml : ms.length = k)
  (hms : ∀ t q, ms[t]? = some q → q.1 = decide (f t < 0) ∧ ∃ xs, Rd wr q.2 xs ∧ val xs = (f t).natAbs ∧ strip xs = xs ∧ ∀ b, q.2.ownBlock = some b → w.heap.size + 3 ≤ b ∧ b ≠ g) (hgg : g = w.heap.size + 1 ∨ w.heap.size + 3 ≤ g) (hz : wr.heap[w.heap.size]? = some (.cells #[.int .i64 0, .int .i64 0, .slice none 0 0] 54 (0, 0)))
  (hB : Below w.heap.size w wr) {g2 cap2 : Nat} (hown2 : w7.ownsRow (w.heap.size + 1) 115 2 (.slice (some ⟨g2, 0, none⟩) (k + 1) cap2) (k + 1) (elC ms ++ [.bool (decide (f k < 0)), u]))
  (hgr : (w5.alloc o).grownBy w7 (some g)) (hat : some g = some g2 ∨ g2 = (w5.alloc o).heap.size) :
  BdR w r c f (k + 1) (w7.setCell ⟨w.heap.size + 2, 2, none⟩ (.slice (some ⟨g2, 0, none⟩) (k + 1) cap2)) := by
 have hgl : g < wr.heap.size := (hown.lt g rfl).2
 have hml2 : w.heap.size + 2 < wr.heap.size := (Array.getElem?_eq_some_iff.1 hm).1
 have hb6 : Below wr.heap.size wr (w5.alloc o) := hb.alloc hb.size o
 have hg2 : g2 = w.heap.size + 1 ∨ w.heap.size + 3 ≤ g2 := by
  rcases hat with e | e
  ·cases e; exact hgg
  ·have := hb6.size; omega
 have keep : ∀ i, i < wr.heap.size → i ≠ g → w7.heap[i]? = wr.heap[i]? := fun i hi hne =>
  (hgr.block i (Nat.lt_of_lt_of_le hi hb6.size) (by simpa using hne)).trans (hb6.block i hi)
 have m7 : w7.heap[w.heap.size + 2]? = some (.cells #[.int .i64 (r : Nat), .int .i64 (c : Nat), .slice (some ⟨g, 0, none⟩) k cap] 54 (0, 0)) := (keep _ hml2 (by omega)).trans hm
 have hw : Wr (w.heap.size + 2) none w7 (w7.setCell ⟨w.heap.size + 2, 2, none⟩ (.slice (some ⟨g2, 0, none⟩) (k + 1) cap2)) := Wr.of_set w7 2 _
 refine ⟨g2, cap2, ms ++ [(decide (f k < 0), u)], (heap_setCell_same w7 (w.heap.size + 2) 2 _ 54 _ m7).trans (by rfl), ?_, hg2, ?_, by simp [hml], ?_, ?_⟩
 ·refine (heap_setCell_other w7 ⟨w.heap.size + 2, 2, none⟩ _ _ (by show w.heap.size ≠ w.heap.size + 2; omega)).trans ((keep _ (by omega) (by omega)).trans hz)
 ·rw [elC_snoc]
  exact hown2.kept (row := some (w.heap.size + 2)) ⟨hw.os, hw.tape, hw.output, hw.size, fun i hi hne => hw.block i hi (by simpa using hne) (by simp)⟩ (.inr (by simp [Value.ownBlock]; omega))
 ·intro t q hq
  have key : ∀ {v : Value} {xs : List Nat}, Rd (w5.alloc o) v xs → (∀ b, v.ownBlock = some b → w.heap.size + 3 ≤ b ∧ b ≠ g ∧ b < (w5.alloc o).heap.size) → Rd (w7.setCell ⟨w.heap.size + 2, 2, none⟩ (.slice (some ⟨g2, 0, none⟩) (k + 1) cap2)) v xs ∧ ∀ b, v.ownBlock = some b → w.heap.size + 3 ≤ b ∧ b ≠ g2 := by
   intro v xs hr hbk
   have r7 : Rd w7 v xs := hr.kept hgr (fun q hq e => by cases hq; exact (hbk _ e).2.1 rfl)
   refine ⟨r7.wr hw (fun q hq => ⟨by have := (hbk q hq).1; omega, by simp⟩), fun b hb => ⟨(hbk b hb).1, ?_⟩⟩
   have h3 := hbk b hb
   rcases hat with e | e
   ·cases e; exact h3.2.1
   ·omega
  rw [List.getElem?_append] at hq
  split at hq
  ·obtain ⟨h1, xs, h2, h3, h4, h5⟩ := hms t q hq
   obtain ⟨k1, k2⟩ := key (h2.below hb6) (fun b hb => ⟨(h5 b hb).1, (h5 b hb).2, Nat.lt_of_lt_of_le (h2.1 b hb) hb6.size⟩)
   exact ⟨h1, xs, k1, h3, h4, k2⟩
  ·rename_i hlt
   have ht : t = ms.length := by
    have := (List.getElem?_eq_some_iff.1 hq).1
    simp at this; omega
   subst ht
   simp only [Nat.sub_self, List.getElem?_cons_zero, Option.some.injEq] at hq
   subst hq
   rw [hml]
   obtain ⟨k1, k2⟩ := key (hu.1.alloc o) (fun b hb => ⟨by have := (hu.2 b hb).1; omega, by have := (hu.2 b hb).1; omega, by have := (hu.2 b hb).2; simp; omega⟩)
   exact ⟨rfl, rs, k1, hv, hs, k2⟩
 ·have h1 : Below w.heap.size w (w5.alloc o) := hB.trans (hb6.mono hB.size)
  have h2 : Below w.heap.size w w7 := Below.grown h1 hgr h1.size (fun q hq => by cases hq; omega)
  exact h2.setCell (p := ⟨w.heap.size + 2, 2, none⟩) (by show w.heap.size ≤ w.heap.size + 2; omega) _
theorem Rd.far {w w' : World} {H : Nat} {v : Value} {xs : List Nat} (h : Rd w v xs) (hw : ∀ k, H < k → k < w.heap.size → w'.heap[k]? = w.heap[k]?) (hsz : w.heap.size ≤ w'.heap.size) (hb : ∀ b, v.ownBlock = some b → H < b) : Rd w' v xs := by
 obtain ⟨h0, ao, cap, rfl, h1, h2, h3, h4⟩ := h
 refine ⟨fun q hq => Nat.lt_of_lt_of_le (h0 q hq) hsz, ao, cap, rfl, h1, h2, h3, fun i x hx => ?_⟩
 obtain ⟨g, o, rfl, hc⟩ := h4 i x hx
 exact ⟨g, o, rfl, (show w'.cell? ⟨g, o + i, none⟩ = w.cell? ⟨g, o + i, none⟩ from World.cell?_of_block (hw g (hb g rfl) (h0 g rfl))).trans hc⟩
def IRk (H : Nat) (w : World) (v : Value) (l : List (Bool × Nat)) : Prop := ∀ w', (∀ k, H ≤ k → k < w.heap.size → w'.heap[k]? = w.heap[k]?) → w.heap.size ≤ w'.heap.size → IRs w' v l
theorem IRk.irs {H : Nat} {w : World} {v : Value} {l : List (Bool × Nat)} (h : IRk H w v l) : IRs w v l := h w (fun _ _ _ => rfl) (Nat.le_refl _)
theorem IRk.low {H H' : Nat} {w w2 : World} {v : Value} {l : List (Bool × Nat)} (h : IRk H w v l) (hH : H' ≤ H) (hw : ∀ k, H ≤ k → k < w.heap.size → w2.heap[k]? = w.heap[k]?) (hsz : w.heap.size ≤ w2.heap.size) : IRk H' w2 v l :=
 fun w' h1 h2 => h w' (fun k hk hl => (h1 k (Nat.le_trans hH hk) (Nat.lt_of_lt_of_le hl hsz)).trans (hw k hk hl)) (Nat.le_trans hsz h2)
theorem BdR.irs {w wr w' : World} {r c k : Nat} {f : Nat → Int} (h : BdR w r c f k wr) (hw : ∀ k, w.heap.size < k → k < wr.heap.size → w'.heap[k]? = wr.heap[k]?) (hsz : wr.heap.size ≤ w'.heap.size) (hk : k ≤ 4096) (hlen : ∀ t, t < k → (f t).natAbs < BB ^ LW) : ∃ v, wr.heap[w.heap.size + 2]? = some (.cells #[.int .i64 (r : Nat), .int .i64 (c : Nat), v] 54 (0, 0)) ∧ IRs w' v ((List.range k).map fun t => SynP.iz (f t)) := by
 obtain ⟨g, cap, ms, h1, h2, h3, h4, h5, h6, h7⟩ := h
 have hgl : g < wr.heap.size := (h4.lt g rfl).2
 have hgb : w'.heap[g]? = wr.heap[g]? := hw g (by omega) hgl
 refine ⟨_, h1, some ⟨g, 0, none⟩, cap, by simp, ?_, ?_, fun h0 => ⟨g, 0, rfl, Nat.lt_of_lt_of_le hgl hsz, fun j p hp => ?_⟩⟩
 ·obtain ⟨_, e | ⟨g', cap', cur, e, a1, a2, a3, a4, a5⟩⟩ := h4
  ·cases e.1
  ·cases e; simpa using a3
 ·obtain ⟨_, e | ⟨g', cap', cur, e, a1, a2, a3, a4, a5⟩⟩ := h4
  ·cases e.1
  ·cases e; exact a4
 ·have hj : j < k := by have := (List.getElem?_eq_some_iff.1 hp).1; simpa using this
  obtain ⟨q, hq⟩ : ∃ q, ms[j]? = some q := ⟨_, List.getElem?_eq_getElem (by omega)⟩
  obtain ⟨e1, xs, e2, e3, e4, e5⟩ := h6 j q hq
  obtain ⟨c1, c2⟩ := elC_at ms j q hq
  have d1 := (show w'.cell? ⟨g, j * 2, none⟩ = wr.cell? ⟨g, j * 2, none⟩ from World.cell?_of_block hgb).trans ((h4.cellAt (j * 2) (by omega)).trans c1)
  have d2 := (show w'.cell? ⟨g, j * 2 + 1, none⟩ = wr.cell? ⟨g, j * 2 + 1, none⟩ from World.cell?_of_block hgb).trans ((h4.cellAt (j * 2 + 1) (by omega)).trans c2)
  have hpe : p = SynP.iz (f j) := by
   rw [List.getElem?_map, List.getElem?_range hj] at hp
   simpa using hp.symm
  subst hpe
  refine ⟨q.2, xs, ?_, ?_, e2.far hw hsz (fun b hb => by have := (e5 b hb).1; omega), e3, (show xs.length ≤ LW from len_of_val e2.ok e4 (by rw [e3]; exact hlen j hj)), ?_⟩
  ·rw [Nat.zero_add, d1, e1]; rfl
  ·rw [Nat.zero_add, d2]
  ·have := CanL.of e2.ok e4
   rw [e3] at this; exact this
end Go.Proofs.YtceggplnggkdnaaGreatDoor
namespace Go.Proofs.YtceggplnggkdnaaGreatDoor
open Go.RowKit NatP LexP Go.ChangeMaps
theorem make_ints0 (n : Nat) (hn : n ≤ 4096) : ∀ w : World, (Instr.makeSlice 52 (.int .i64 0) (.int .i64 (n : Int))).run Tryz.prog w = .ok (.slice (some ⟨w.heap.size, 0, none⟩) 0 n) (w.alloc (.cells (madeCells #[.bool false, .slice none 0 0] (n * 2)) 115)) := by
 obtain ⟨i0, hi, hz0, hz1, hz2⟩ := info_parts Tryz.infoAI
 intro w
 have hb : (i0.bytes : Int) * (n : Int) ≤ 281474976710656 := by rw [hz2]; omega
 have hr := run_make (P := Tryz.prog) w 52 115 i0 (.agg #[.bool false, .slice none 0 0]) Tryz.underlying52 hi hz0 .i64 .i64 0 n (by omega) (by omega) hb (by omega)
 simp only [Int.toNat_natCast] at hr
 rw [hr, hz1]
 rfl
theorem build_start (w : World) (r c : Nat) (f : Nat → Int) (n : Nat) (hn : n ≤ 4096) :
  BdR w r c f 0 (((w.alloc (.cells #[.int .i64 0, .int .i64 0, .slice none 0 0] 54)).alloc (.cells (madeCells #[.bool false, .slice none 0 0] (n * 2)) 115)).alloc (.cells #[.int .i64 (r : Nat), .int .i64 (c : Nat), .slice (some ⟨w.heap.size + 1, 0, none⟩) 0 n] 54)) := by
 have n1 := heap_alloc_new w (.cells #[.int .i64 0, .int .i64 0, .slice none 0 0] 54)
 have b1 := below_alloc w (.cells #[.int .i64 0, .int .i64 0, .slice none 0 0] 54)
 obtain ⟨w1, hw1⟩ : ∃ w1, w1 = w.alloc (.cells #[.int .i64 0, .int .i64 0, .slice none 0 0] 54) := ⟨_, rfl⟩
 have s1 : w1.heap.size = w.heap.size + 1 := by rw [hw1, World.size_alloc]
 rw [← hw1] at n1 b1 ⊢
 have n2 := heap_alloc_new w1 (.cells (madeCells #[.bool false, .slice none 0 0] (n * 2)) 115)
 have b2 := below_alloc w1 (.cells (madeCells #[.bool false, .slice none 0 0] (n * 2)) 115)
 obtain ⟨w2, hw2⟩ : ∃ w2, w2 = w1.alloc (.cells (madeCells #[.bool false, .slice none 0 0] (n * 2)) 115) := ⟨_, rfl⟩
 have s2 : w2.heap.size = w.heap.size + 2 := by rw [hw2, World.size_alloc, s1]
 rw [← hw2] at n2 b2 ⊢
 have n3 := heap_alloc_new w2 (.cells #[.int .i64 (r : Nat), .int .i64 (c : Nat), .slice (some ⟨w.heap.size + 1, 0, none⟩) 0 n] 54)
 have b3 := below_alloc w2 (.cells #[.int .i64 (r : Nat), .int .i64 (c : Nat), .slice (some ⟨w.heap.size + 1, 0, none⟩) 0 n] 54)
 rw [s1] at n2
 rw [s2] at n3
 refine ⟨w.heap.size + 1, n, [], n3, ?_, .inl rfl, ?_, rfl, fun t q h => by simp at h, b1.trans ((b2.trans (b3.mono b2.size)).mono b1.size)⟩
 ·exact (b3.block _ (by omega)).trans ((b2.block _ (by omega)).trans n1)
 ·refine ⟨rfl, .inr ⟨w.heap.size + 1, n, _, rfl, Nat.le_refl _, (b3.block _ (by omega)).trans n2, Nat.zero_le _, by unfold maxLen; omega, size_madeCells _ _, rfl⟩⟩
def BdPost (r c : Nat) (f : Nat → Int) (w : World) (e : Ending) (w' : World) : Prop := ∃ av, e = .returned (.agg #[.int .i64 (r : Nat), .int .i64 (c : Nat), av]) ∧ IRk w.heap.size w' av ((List.range (r * c)).map fun t => SynP.iz (f t)) ∧ Below w.heap.size w w'
set_option maxRecDepth 100000 in
set_option maxHeartbeats 4000000 in
theorem build_any (F : FuncId) (hent : ∀ args w, (callFunc F args).run Tryz.prog w = .ok (.enter F args) w) (caps : Array Value) (r c : Nat) (f : Nat → Int) (w : World) (hr : r ≤ 64) (hc : c ≤ 64)
  (hF : ∀ i j w', i < r → j < c → Below w.heap.size w w' → Calls Tryz.prog F (#[.int .i64 (i : Nat), .int .i64 (j : Nat)] ++ caps) w' (ZQ (f (i * c + j)) w')) (hlen : ∀ t, t < r * c → (f t).natAbs < BB ^ LW) :
  Calls Tryz.prog 195 #[.int .i64 (r : Nat), .int .i64 (c : Nat), .func (.func F) #[] caps] w (BdPost r c f w) := by
 obtain ⟨n, hn⟩ : ∃ n, n = r * c := ⟨_, rfl⟩
 have hnn : n ≤ 4096 := by rw [hn]; exact Nat.mul_le_mul hr hc
 have HMK := make_ints0 n hnn
 have w1 : IntKind.i64.wrap ((r : Int) * (c : Int)) = (n : Int) := by
  rw [show (r : Int) * (c : Int) = (n : Int) from by rw [hn]; exact (Int.natCast_mul r c).symm]
  exact IntWalk.i64_in _ (by omega)
 have w2 : (r : Int) * (c : Int) = (n : Int) := by rw [hn]; exact (Int.natCast_mul r c).symm
 have HST := Lib.hid (build_start w r c f n hnn)
 have HF := Lib.hid hF
 have HL := Lib.hid hlen
 have HN := Lib.hid hn
 obtain ⟨i0, hi0, hz0, hz1, hz2⟩ := info_parts Tryz.infoAI
 clear hF hlen hn
 go_enter Tryz.func195, Tryz.ntmps195
 go_wp2_with fail
 obtain ⟨G, hG⟩ : ∃ G, G = w.heap.size + 2 := ⟨_, rfl⟩
 rw [← hG]
 have HG := Lib.hid hG
 clear hG w1 w2
 go_loopw [18] (fun iv wr => ∃ i : Nat, i ≤ r ∧ iv = .int .i64 (i : Nat) ∧ BdR w r c f (i * c) wr) (fun iv _ => r - (intOf iv).toNat)
 case atStart => exact ⟨0, Nat.zero_le _, rfl, by rw [Nat.zero_mul]; exact HST.out⟩
 case round =>
  obtain ⟨i, hi, rfl, hrel⟩ := hrel
  have HR := Lib.hid hrel
  clear hrel
  by_cases hlt : i < r
  ·go_wp2_with fail
   obtain ⟨wo, rfl⟩ : ∃ wo, wo = wr := ⟨_, rfl⟩
   go_loopw [22] (fun jv wr => ∃ j : Nat, j ≤ c ∧ jv = .int .i64 (j : Nat) ∧ BdR w r c f (i * c + j) wr) (fun jv _ => c - (intOf jv).toNat)
   case atStart => exact ⟨0, Nat.zero_le _, rfl, HR.out⟩
   case round =>
    obtain ⟨j, hj, rfl, hrel⟩ := hrel
    have HR2 := Lib.hid hrel
    by_cases hltj : j < c
    ·obtain ⟨g, cap, ms, h1, h2, h3, h4, h5, h6, h7⟩ := hrel
     obtain ⟨k, hk⟩ : ∃ k, k = i * c + j := ⟨_, rfl⟩
     have hkn : k < n := by
      have e1 : (i + 1) * c ≤ r * c := Nat.mul_le_mul_right _ hlt
      rw [Nat.succ_mul, ← HN.out] at e1
      omega
     rw [← hk] at h1 h4 h5 HR2
     have HK := Lib.hid hk
     have HC : Hid (Calls Tryz.prog F (#[.int .i64 (i : Nat), .int .i64 (j : Nat)] ++ caps) wr.drew (ZQ (f k) wr.drew)) := by
      show Calls _ _ _ _ _
      rw [hk]; exact HF.out i j _ hlt hltj (Below.drew h7)
     have H1 := Lib.hid h1
     have H2 := Lib.hid h2
     have H3 := Lib.hid h3
     have H4 := Lib.hid h4
     have H5 := Lib.hid h5
     have H6 := Lib.hid h6
     have H7 := Lib.hid h7
     have c1 : wr.cell? ⟨G, 2, none⟩ = some (.slice (some ⟨g, 0, none⟩) k cap) := by rw [HG.out]; exact (cell_of_row _ _ _ _ _ _ h1).trans rfl
     have c2 : wr.frozen? ⟨G, 2, none⟩ = false := by rw [HG.out]; exact frozen_of_row wr _ 2 _ _ h1
     have hGl : G < wr.heap.size := by rw [HG.out]; exact (Array.getElem?_eq_some_iff.1 h1).1
     have hGg : some G ≠ (Value.slice (some ⟨g, 0, none⟩) k cap).ownBlock := by have := HG.out; simp only [Value.ownBlock, ne_eq, Option.some.injEq]; omega
     clear h1 h2 h3 h4 h5 h6 h7 hk
     go_wp2_with fail
     go_region_law (first
      | (refine step_clo (by rfl) _ _ _ (by rfl) F caps #[.int .i64 (i : Nat), .int .i64 (j : Nat)] (by rfl) (by simp [go_sem]) hent (by exact HC.out) ?_; rintro e w5 ⟨u, rs, rfl, r1, r2, r3, b1⟩; obtain ⟨uo, ucap, rfl, -, -, -, -⟩ := r1.1.2; refine ⟨_, rfl, ?_⟩; have d1 := cell_keep b1 c1; have d2 := fro_keep b1 c1 c2; have O5 := Lib.hid (World.ownsRow.kept (row := none) H4.out.drew ⟨b1.os, b1.tape, b1.output, b1.size, fun q hq _ => b1.block q hq⟩ (.inr (by simp [Value.ownBlock]))); have hG6 : G < w5.heap.size := Nat.lt_of_lt_of_le hGl b1.size; have B1 := Lib.hid ((Below.drew (Below.refl wr.heap.size wr)).trans b1); have R1 := Lib.hid r1; have R2 := Lib.hid r2; have R3 := Lib.hid r3; clear b1 r1 r2 r3)
      | (refine step_append_lies _ (by rfl) _ _ _ (by rfl) (w.heap.size + 1) 115 i0 (.agg #[.bool false, .slice none 0 0]) 2 32 Tryz.underlying52 hi0 hz0 hz1 hz2 rfl (by omega) (.slice (some ⟨g, 0, none⟩) k cap) k (elC ms) (by rfl) (by exact O5.out.alloc _) ⟨w5.heap.size, 0, none⟩ 1 1 [.bool (decide (f k < 0)), .slice uo rs.length ucap] (by rfl) (by rfl) (by exact World.news_of_block (heap_alloc_new w5 (.cells #[.bool (decide (f k < 0)), .slice uo rs.length ucap] 115))) (by intro x hx; simp at hx; rcases hx with rfl | rfl <;> rfl) (by omega) (by unfold maxLen; omega) (by omega) (by have := HG.out; simp; omega) (w5.heap.size + 1) (by simp) ?_; intro g2 cap2 w7 hown2 hgr hat hlt2; have d4 : w7.cell? ⟨G, 2, none⟩ = some (.slice (some ⟨g, 0, none⟩) k cap) := (hgr.cell_far ⟨G, 2, none⟩ (by simp; omega) hGg).trans (cell_keep (below_alloc w5 _) d1); have d5 : w7.frozen? ⟨G, 2, none⟩ = false := (hgr.frozen_far ⟨G, 2, none⟩ (by simp; omega) hGg).trans (fro_keep (below_alloc w5 _) d1 d2)))
     all_goals
      have hfin : ∃ j' : Nat, j' ≤ c ∧ (Value.int .i64 ((j : Int) + 1)) = .int .i64 (j' : Nat) ∧ BdR w r c f (i * c + j') (w7.setCell ⟨G, 2, none⟩ (.slice (some ⟨g2, 0, none⟩) (k + 1) cap2)) := by
       refine ⟨j + 1, by omega, by go_num, ?_⟩
       rw [← Nat.add_assoc, ← HK.out, HG.out]
       exact HR2.out.step B1.out R1.out R2.out R3.out H1.out H4.out H5.out H6.out H3.out H2.out H7.out hown2 hgr (hat.imp id (fun e => by rw [e]; simp))
      clear hown2 hgr hat hlt2 d4 d5 c1 c2 d1 d2
      go_wp2_with fail
      exact ⟨hfin, by simp [intOf]; omega⟩
    ·obtain rfl : j = c := by omega
     have hfin : ∃ i' : Nat, i' ≤ r ∧ (Value.int .i64 ((i : Int) + 1)) = .int .i64 (i' : Nat) ∧ BdR w r j f (i' * j) wr := ⟨i + 1, by omega, by go_num, by rw [Nat.succ_mul]; exact HR2.out⟩
     clear hrel
     go_wp2_with fail
     exact ⟨hfin, by simp [intOf]; omega⟩
  ·obtain rfl : i = r := by omega
   have HNE := HN.out
   rw [← HNE] at HR HL
   have HRR := HR
   obtain ⟨g0, cap0, ms0, m1, m2, m3, m4, m5, m6, m7⟩ := HR.out
   have H7 := Lib.hid m7
   have c1 : wr.cell? ⟨G, 0, none⟩ = some (.int .i64 (i : Nat)) := by rw [HG.out]; exact (cell_of_row _ _ _ _ _ _ m1).trans rfl
   have c2 : wr.cell? ⟨G, 1, none⟩ = some (.int .i64 (c : Nat)) := by rw [HG.out]; exact (cell_of_row _ _ _ _ _ _ m1).trans rfl
   have c3 : wr.cell? ⟨G, 2, none⟩ = some (.slice (some ⟨g0, 0, none⟩) n cap0) := by rw [HG.out]; exact (cell_of_row _ _ _ _ _ _ m1).trans rfl
   have f0 : wr.frozen? ⟨w.heap.size, 0, none⟩ = false := frozen_of_row wr _ 0 _ _ m2
   have f1 : wr.frozen? ⟨w.heap.size, 1, none⟩ = false := frozen_of_row wr _ 1 _ _ m2
   have f2 : wr.frozen? ⟨w.heap.size, 2, none⟩ = false := frozen_of_row wr _ 2 _ _ m2
   have r0 : wr.cell? ⟨w.heap.size, 0, none⟩ = some (.int .i64 0) := (cell_of_row _ _ _ _ _ _ m2).trans rfl
   have r1 : wr.cell? ⟨w.heap.size, 1, none⟩ = some (.int .i64 0) := (cell_of_row _ _ _ _ _ _ m2).trans rfl
   have r2 : wr.cell? ⟨w.heap.size, 2, none⟩ = some (.slice none 0 0) := (cell_of_row _ _ _ _ _ _ m2).trans rfl
   have M2 := Lib.hid m2
   have M1 := Lib.hid m1
   clear m1 m2 m3 m4 m5 m6 m7 hlt hi HNE
   go_wp2_with fail
   have s1 := heap_setCell_same wr w.heap.size 0 _ 54 (.int .i64 (i : Nat)) M2.out
   have s2 := heap_setCell_same _ w.heap.size 1 _ 54 (.int .i64 (c : Nat)) s1
   have s3 := heap_setCell_same _ w.heap.size 2 _ 54 (.slice (some ⟨g0, 0, none⟩) n cap0) s2
   refine bodyPost_ret (results_cell_row rfl _ _ w.heap.size 54 _ _ _ rfl s3 Tryz.underlying54 rfl (by kernel_rfl)) rfl ?_
   refine ⟨_, rfl, ?_, (below_set2 H7.out (Nat.le_refl _)).setCell (p := ⟨w.heap.size, 2, none⟩) (Nat.le_refl _) _⟩
   intro w' hk hs
   have hoth : ∀ k, w.heap.size < k → (((wr.setCell ⟨w.heap.size, 0, none⟩ (.int .i64 (i : Nat))).setCell ⟨w.heap.size, 1, none⟩ (.int .i64 (c : Nat))).setCell ⟨w.heap.size, 2, none⟩ (.slice (some ⟨g0, 0, none⟩) n cap0)).heap[k]? = wr.heap[k]? := fun k hlt =>
    (heap_setCell_other _ ⟨w.heap.size, 2, none⟩ k _ (by show k ≠ w.heap.size; omega)).trans ((heap_setCell_other _ ⟨w.heap.size, 1, none⟩ k _ (by show k ≠ w.heap.size; omega)).trans (heap_setCell_other _ ⟨w.heap.size, 0, none⟩ k _ (by show k ≠ w.heap.size; omega)))
   have hsz3 : (((wr.setCell ⟨w.heap.size, 0, none⟩ (.int .i64 (i : Nat))).setCell ⟨w.heap.size, 1, none⟩ (.int .i64 (c : Nat))).setCell ⟨w.heap.size, 2, none⟩ (.slice (some ⟨g0, 0, none⟩) n cap0)).heap.size = wr.heap.size := by simp
   rw [hsz3] at hk hs
   obtain ⟨v, h1, h2⟩ := HRR.out.irs (w' := w') (fun k h1 h2 => (hk k (Nat.le_of_lt h1) h2).trans (hoth k h1)) hs hnn HL.out
   have e1 := h1.symm.trans M1.out
   simp only [Option.some.injEq, Obj.cells.injEq, Array.mk.injEq, List.cons.injEq, and_true, true_and] at e1
   subst e1
   rw [← HN.out]; exact h2
end Go.Proofs.YtceggplnggkdnaaGreatDoor
namespace Go.Proofs.YtceggplnggkdnaaGreatDoor
open Go.RowKit NatP LexP
set_option maxRecDepth 100000 in
set_option maxHeartbeats 8000000 in
theorem rd_matrix (R : Nat) (tv : Value) (L : List Tok) (fin a : Nat) (s : SynP.St) (nv : Value) (ns : List Nv) (w : World) (h : RS w R tv L fin a s nv ns) (f : Nat) (hf : SynP.matrix fin f s ≠ none) :
  Calls Tryz.prog 97 #[.pointer (some ⟨R, 0, none⟩)] w (RB (SynP.matrix fin f s) R tv L fin s nv ns MatQ w) := by
 have H := Lib.hid h
 have hRl := h.lt
 obtain ⟨r, hr⟩ : ∃ r, r = SynP.matrix fin f s := ⟨_, rfl⟩
 rw [← hr] at hf ⊢
 obtain ⟨col, hcol⟩ : ∃ col, col = SynP.colOf fin s.ts := ⟨_, rfl⟩
 have HR0 : Hid (r = (SynP.want fin [91] s).bind fun _ s => if SynP.isKind 1 s.ts && SynP.isMark [58] s.ts.tail then SynP.matShape fin col s else (SynP.entries fin f [] [] s).bind (SynP.matDone col)) := by
  show _ = _
  rw [hr, hcol]; rfl
 have HNE := Lib.hid hf
 have HCOL := Lib.hid hcol
 have HA := Lib.hid (below_alloc w (.cells #[.int .i64 0, .int .i64 0, .slice none 0 0] 54))
 have HSA := Lib.hid (h.below HA.out)
 have hblk := heap_alloc_new w (.cells #[.int .i64 0, .int .i64 0, .slice none 0 0] 54)
 obtain ⟨wA, hwA⟩ : ∃ wA, wA = w.alloc (.cells #[.int .i64 0, .int .i64 0, .slice none 0 0] 54) := ⟨_, rfl⟩
 have hlA : w.heap.size < wA.heap.size := by rw [hwA]; simp
 rw [← hwA] at hblk
 have HBLK := Lib.hid hblk
 have HWA : Hid (Wr R none w wA) := by show Wr _ _ _ _; rw [hwA]; exact Wr.of_below HA.out
 have HWA0 : Hid (Wr R none wA wA) := Wr.refl _ _ _
 rw [← hwA] at HSA HA
 have HAE := Lib.hid hwA
 clear h hr hf hcol hblk hwA
 go_enter Tryz.func97, Tryz.ntmps97
 go_wp2_with fail
 rw [← HAE.out]
 refine (rd_col R tv L fin a s nv ns _ HSA.out).mono ?_
 rintro e w1 ⟨rfl, b1⟩
 rw [← HCOL.out]
 have HS1 := Lib.hid (HSA.out.below b1)
 have HW1 : Hid (Wr R none wA w1) := Wr.of_below b1
 clear b1
 go_wp2_with fail
 refine (rd_want R tv L fin a s nv ns _ HS1.out [91]).mono ?_
 rintro e w2 hn
 rcases hN : SynP.want fin [91] s with - | (⟨fc, fk⟩ | ⟨u2', s2⟩)
 ·rw [hN] at hn; exact hn.elim
 ·rw [hN] at hn
  obtain ⟨rfl, n1⟩ := hn
  refine ⟨rfl, ?_⟩
  have hre : r = some (.error (fc, fk)) := by rw [HR0.out, hN]; rfl
  rw [hre]
  exact ⟨rfl, RS.step HWA.out (RS.step HW1.out n1)⟩
 rw [hN] at hn
 obtain ⟨v2, a2, rfl, n1, n2, n3, rfl⟩ := hn
 have hl2 := want_len hN
 have HS2 := Lib.hid n1
 have HW2 := Lib.hid (RS.step HW1.out n2)
 have HN2 := Lib.hid hN
 clear n1 n2 n3 hN
 have HR2 : Hid (r = if SynP.isKind 1 s2.ts && SynP.isMark [58] s2.ts.tail then SynP.matShape fin col s2 else (SynP.entries fin f [] [] s2).bind (SynP.matDone col)) := by
  show _ = _
  rw [HR0.out, HN2.out]; rfl
 have hck := comes_kind 1 [] s2.ts (by decide)
 have hcm := comes_mark1 [58] s2.ts
 by_cases hsh : (SynP.isKind 1 s2.ts && SynP.isMark [58] s2.ts.tail) = true
 ·rw [if_pos hsh] at HR2
  rw [Bool.and_eq_true] at hsh
  rw [hsh.1] at hck
  rw [hsh.2] at hcm
  have HCK := Lib.hid hck
  have HCM := Lib.hid hcm
  have HR3 : Hid (r = (SynP.number fin s2).bind fun r s => (SynP.want fin [58] s).bind fun _ s => (SynP.number fin s).bind fun c s => (SynP.want fin [93] s).bind fun _ s => if 64 < SynP.side r || 64 < SynP.side c then SynP.fault col 5 else SynP.ret ⟨r, c, List.replicate (r * c) (false, 0)⟩ s) := HR2.out
  clear hsh hck hcm HR2
  go_wp2_with fail
  refine (rd_comes R tv L fin a2 s2 nv ns _ HS2.out 0 1 [] (by omega) (by omega)).mono ?_
  rintro e w3 ⟨rfl, b1⟩
  rw [HCK.out]
  have HS3 := Lib.hid (HS2.out.below b1)
  have HW3 := Lib.hid (RS.step HW2.out (Wr.of_below b1))
  clear b1
  go_wp2_with fail
  refine (rd_comes R tv L fin a2 s2 nv ns _ HS3.out 1 3 [58] (by omega) (by omega)).mono ?_
  rintro e w4 ⟨rfl, b1⟩
  rw [HCM.out]
  have HS4 := Lib.hid (HS3.out.below b1)
  have HW4 := Lib.hid (RS.step HW3.out (Wr.of_below b1))
  clear b1
  go_wp2_with fail
  refine (rd_number R tv L fin a2 s2 nv ns _ HS4.out).mono ?_
  rintro e w5 hn
  rcases hN : SynP.number fin s2 with - | (⟨fc, fk⟩ | ⟨m5, s5⟩)
  ·rw [hN] at hn; exact hn.elim
  ·rw [hN] at hn
   obtain ⟨rfl, n1⟩ := hn
   refine ⟨rfl, ?_⟩
   have hre : r = some (.error (fc, fk)) := by rw [HR3.out, hN]; rfl
   rw [hre]
   exact ⟨rfl, RS.step HWA.out (RS.step HW4.out n1)⟩
  rw [hN] at hn
  obtain ⟨v5, a5, rfl, n1, n2, n3, n4⟩ := hn
  have hl5 := number_len hN
  have HS5 := Lib.hid n1
  have HW5 := Lib.hid (RS.step HW4.out n2)
  have HN5 := Lib.hid hN
  have HF5 := Lib.hid n4
  clear n1 n2 n3 n4 hN
  have HR5 : Hid (r = (SynP.want fin [58] s5).bind fun _ s => (SynP.number fin s).bind fun c s => (SynP.want fin [93] s).bind fun _ s => if 64 < SynP.side m5 || 64 < SynP.side c then SynP.fault col 5 else SynP.ret ⟨m5, c, List.replicate (m5 * c) (false, 0)⟩ s) := by
   show _ = _
   rw [HR3.out, HN5.out]; rfl
  go_wp2_with fail
  refine (side_any _ m5 _ HF5.out.1).mono ?_
  rintro e w6 ⟨rfl, b1⟩
  have HS6 := Lib.hid (HS5.out.below b1)
  have HW6 := Lib.hid (RS.step HW5.out (Wr.of_below b1))
  obtain ⟨d6, hd6⟩ : ∃ d, d = SynP.side m5 := ⟨_, rfl⟩
  rw [← hd6]
  have HD6 := Lib.hid hd6
  have hdl6 : d6 ≤ 65 := by rw [hd6]; unfold SynP.side; split <;> omega
  clear b1 hd6
  go_wp2_with fail
  refine (rd_want R tv L fin a5 s5 nv ns _ HS6.out [58]).mono ?_
  rintro e w7 hn
  rcases hN : SynP.want fin [58] s5 with - | (⟨fc, fk⟩ | ⟨u7', s7⟩)
  ·rw [hN] at hn; exact hn.elim
  ·rw [hN] at hn
   obtain ⟨rfl, n1⟩ := hn
   refine ⟨rfl, ?_⟩
   have hre : r = some (.error (fc, fk)) := by rw [HR5.out, hN]; rfl
   rw [hre]
   exact ⟨rfl, RS.step HWA.out (RS.step HW6.out n1)⟩
  rw [hN] at hn
  obtain ⟨v7, a7, rfl, n1, n2, n3, rfl⟩ := hn
  have hl7 := want_len hN
  have HS7 := Lib.hid n1
  have HW7 := Lib.hid (RS.step HW6.out n2)
  have HN7 := Lib.hid hN
  clear n1 n2 n3 hN
  have HR7 : Hid (r = (SynP.number fin s7).bind fun c s => (SynP.want fin [93] s).bind fun _ s => if 64 < SynP.side m5 || 64 < SynP.side c then SynP.fault col 5 else SynP.ret ⟨m5, c, List.replicate (m5 * c) (false, 0)⟩ s) := by
   show _ = _
   rw [HR5.out, HN7.out]; rfl
  go_wp2_with fail
  refine (rd_number R tv L fin a7 s7 nv ns _ HS7.out).mono ?_
  rintro e w8 hn
  rcases hN : SynP.number fin s7 with - | (⟨fc, fk⟩ | ⟨m8, s8⟩)
  ·rw [hN] at hn; exact hn.elim
  ·rw [hN] at hn
   obtain ⟨rfl, n1⟩ := hn
   refine ⟨rfl, ?_⟩
   have hre : r = some (.error (fc, fk)) := by rw [HR7.out, hN]; rfl
   rw [hre]
   exact ⟨rfl, RS.step HWA.out (RS.step HW7.out n1)⟩
  rw [hN] at hn
  obtain ⟨v8, a8, rfl, n1, n2, n3, n4⟩ := hn
  have hl8 := number_len hN
  have HS8 := Lib.hid n1
  have HW8 := Lib.hid (RS.step HW7.out n2)
  have HN8 := Lib.hid hN
  have HF8 := Lib.hid n4
  clear n1 n2 n3 n4 hN
  have HR8 : Hid (r = (SynP.want fin [93] s8).bind fun _ s => if 64 < SynP.side m5 || 64 < SynP.side m8 then SynP.fault col 5 else SynP.ret ⟨m5, m8, List.replicate (m5 * m8) (false, 0)⟩ s) := by
   show _ = _
   rw [HR7.out, HN8.out]; rfl
  go_wp2_with fail
  refine (side_any _ m8 _ HF8.out.1).mono ?_
  rintro e w9 ⟨rfl, b1⟩
  have HS9 := Lib.hid (HS8.out.below b1)
  have HW9 := Lib.hid (RS.step HW8.out (Wr.of_below b1))
  obtain ⟨d9, hd9⟩ : ∃ d, d = SynP.side m8 := ⟨_, rfl⟩
  rw [← hd9]
  have HD9 := Lib.hid hd9
  have hdl9 : d9 ≤ 65 := by rw [hd9]; unfold SynP.side; split <;> omega
  clear b1 hd9
  go_wp2_with fail
  refine (rd_want R tv L fin a8 s8 nv ns _ HS9.out [93]).mono ?_
  rintro e w10 hn
  rcases hN : SynP.want fin [93] s8 with - | (⟨fc, fk⟩ | ⟨u10', s10⟩)
  ·rw [hN] at hn; exact hn.elim
  ·rw [hN] at hn
   obtain ⟨rfl, n1⟩ := hn
   refine ⟨rfl, ?_⟩
   have hre : r = some (.error (fc, fk)) := by rw [HR8.out, hN]; rfl
   rw [hre]
   exact ⟨rfl, RS.step HWA.out (RS.step HW9.out n1)⟩
  rw [hN] at hn
  obtain ⟨v10, a10, rfl, n1, n2, n3, rfl⟩ := hn
  have hl10 := want_len hN
  have HS10 := Lib.hid n1
  have HW10 := Lib.hid (RS.step HW9.out n2)
  have HN10 := Lib.hid hN
  clear n1 n2 n3 hN
  have HR10 : Hid (r = if 64 < d6 || 64 < d9 then SynP.fault col 5 else SynP.ret ⟨m5, m8, List.replicate (m5 * m8) (false, 0)⟩ s10) := by
   show _ = _
   rw [HR8.out, HN10.out, HD6.out, HD9.out]; rfl
  have hb10 := (HW10.out.block w.heap.size hlA (by omega) (by simp)).trans HBLK.out
  have e0 : w10.cell? ⟨w.heap.size, 0, none⟩ = some (.int .i64 0) := (cell_of_row w10 _ _ _ _ _ hb10).trans rfl
  have e1 : w10.cell? ⟨w.heap.size, 1, none⟩ = some (.int .i64 0) := (cell_of_row w10 _ _ _ _ _ hb10).trans rfl
  have e2 : w10.cell? ⟨w.heap.size, 2, none⟩ = some (.slice none 0 0) := (cell_of_row w10 _ _ _ _ _ hb10).trans rfl
  have f0 : w10.frozen? ⟨w.heap.size, 0, none⟩ = false := frozen_of_row w10 _ 0 _ _ hb10
  have f1 : w10.frozen? ⟨w.heap.size, 1, none⟩ = false := frozen_of_row w10 _ 1 _ _ hb10
  have f2 : w10.frozen? ⟨w.heap.size, 2, none⟩ = false := frozen_of_row w10 _ 2 _ _ hb10
  have HB10 := Lib.hid hb10
  clear hb10
  by_cases h6 : 64 < d6
  ·have hb6 : (64 : Int) < (d6 : Int) := by omega
   have hre : r = some (.error (col, 5)) := by rw [HR10.out, if_pos (by simp [h6])]; rfl
   have HRE := Lib.hid hre
   clear h6 hre
   go_wp2_with fail
   refine ⟨rfl, ?_⟩
   rw [HRE.out]
   exact ⟨rfl, RS.step HWA.out HW10.out⟩
  ·by_cases h9 : 64 < d9
   ·have hb6 : ¬ (64 : Int) < (d6 : Int) := by omega
    have hb9 : (64 : Int) < (d9 : Int) := by omega
    have hre : r = some (.error (col, 5)) := by rw [HR10.out, if_pos (by simp [h9])]; rfl
    have HRE := Lib.hid hre
    clear h6 h9 hre
    go_wp2_with fail
    refine ⟨rfl, ?_⟩
    rw [HRE.out]
    exact ⟨rfl, RS.step HWA.out HW10.out⟩
   ·have hb6 : ¬ (64 : Int) < (d6 : Int) := by omega
    have hb9 : ¬ (64 : Int) < (d9 : Int) := by omega
    have hm5 : m5 = d6 := by have := HD6.out; unfold SynP.side at this; split at this <;> omega
    have hm8 : m8 = d9 := by have := HD9.out; unfold SynP.side at this; split at this <;> omega
    have hre : r = some (.ok (⟨d6, d9, List.replicate (d6 * d9) (false, 0)⟩, s10)) := by rw [HR10.out, if_neg (by simp; omega), hm5, hm8]; rfl
    obtain ⟨d, hd⟩ : ∃ d, d = d6 * d9 := ⟨_, rfl⟩
    rw [← hd] at hre
    have hdl : d ≤ 4096 := by rw [hd]; exact Nat.mul_le_mul (show d6 ≤ 64 by omega) (show d9 ≤ 64 by omega)
    have hdi : (d6 : Int) * (d9 : Int) = (d : Int) := by rw [hd]; exact (Int.natCast_mul d6 d9).symm
    have HRE := Lib.hid hre
    have hmk := make_ints d hdl
    have hsl10 : w.heap.size < w10.heap.size := Nat.lt_of_lt_of_le hlA HW10.out.size
    clear h6 h9 hre hm5 hm8 hd
    go_wp2_with fail
    obtain ⟨wS, hwS⟩ : ∃ wS, wS = ((w10.setCell ⟨w.heap.size, 0, none⟩ (.int .i64 (d6 : Int))).setCell ⟨w.heap.size, 1, none⟩ (.int .i64 (d9 : Int))).setCell ⟨w.heap.size, 2, none⟩ (.slice (some ⟨w10.heap.size, 0, none⟩) d d) := ⟨_, rfl⟩
    rw [← hwS]
    obtain ⟨p1, p2, p3, -⟩ := mat_set HB10.out hwS
    have hsz : wS.heap.size = w10.heap.size := p3
    obtain ⟨q2, q3⟩ := H.out.loc HS10.out (RS.step HWA.out HW10.out) p2 (fun q hq => by cases hq; exact Nat.le_refl _)
    have hz := IRs.zeros wS d hdl
    rw [hsz] at hz
    have hbF := ((below_alloc wS (.cells (madeCells #[.bool false, .slice none 0 0] (d * 2)) 115)).block w.heap.size (by rw [hsz]; exact hsl10)).trans p1
    refine bodyPost_ret (results_cell_row rfl _ _ w.heap.size 54 _ _ _ rfl hbF Tryz.underlying54 rfl (by kernel_rfl)) rfl ?_
    rw [HRE.out]
    have hbl := below_alloc wS (.cells (madeCells #[.bool false, .slice none 0 0] (d * 2)) 115)
    exact ⟨_, _, rfl, q2.below hbl, RS.step q3 (Wr.of_below hbl), by omega, _, rfl, hz⟩
 ·rw [if_neg hsh] at HR2
  cases hk : SynP.isKind 1 s2.ts
  case' true =>
   rw [hk] at hck
   have hm0 : SynP.isMark [58] s2.ts.tail = false := by
    rw [hk] at hsh; simpa using hsh
   rw [hm0] at hcm
   have HCK := Lib.hid hck
   have HCM := Lib.hid hcm
   clear hsh hck hcm hk hm0
   go_wp2_with fail
   refine (rd_comes R tv L fin a2 s2 nv ns _ HS2.out 0 1 [] (by omega) (by omega)).mono ?_
   rintro e w3 ⟨rfl, b1⟩
   rw [HCK.out]
   have HS3 := Lib.hid (HS2.out.below b1)
   have HW3 := Lib.hid (RS.step HW2.out (Wr.of_below b1))
   clear b1
   go_wp2_with fail
   refine (rd_comes R tv L fin a2 s2 nv ns _ HS3.out 1 3 [58] (by omega) (by omega)).mono ?_
   rintro e w4 ⟨rfl, b1⟩
   rw [HCM.out]
   have HS4 := Lib.hid (HS3.out.below b1)
   have HW4 := Lib.hid (RS.step HW3.out (Wr.of_below b1))
  case' false =>
   rw [hk] at hck
   have HCK := Lib.hid hck
   clear hsh hck hcm hk
   go_wp2_with fail
   refine (rd_comes R tv L fin a2 s2 nv ns _ HS2.out 0 1 [] (by omega) (by omega)).mono ?_
   rintro e w4 ⟨rfl, b1⟩
   rw [HCK.out]
   have HS4 := Lib.hid (HS2.out.below b1)
   have HW4 := Lib.hid (RS.step HW2.out (Wr.of_below b1))
  all_goals
   clear b1
   go_wp2_with fail
   refine (rd_entries R tv L fin a2 s2 nv ns _ HS4.out f (fun e => HNE.out (by rw [HR2.out, e]; rfl))).mono ?_
   rintro e w20 hn
   rcases hN : SynP.entries fin f [] [] s2 with - | (⟨fc, fk⟩ | ⟨⟨acc, lens⟩, s20⟩)
   ·rw [hN] at hn; exact hn.elim
   ·rw [hN] at hn
    obtain ⟨rfl, n1⟩ := hn
    refine ⟨rfl, ?_⟩
    have hre : r = some (.error (fc, fk)) := by rw [HR2.out, hN]; rfl
    rw [hre]
    exact ⟨rfl, RS.step HWA.out (RS.step HW4.out n1)⟩
   rw [hN] at hn
   obtain ⟨v20, a20, rfl, n1, n2, n3, av, lv, cs, rfl, hEn⟩ := hn
   obtain ⟨es1, -, es3⟩ := SynP.entries_sum fin f _ _ _ _ hN rfl (fun x hx => by cases hx)
   simp only at es1 es3 hEn
   have HR20 : Hid (r = SynP.matDone col (acc, lens) s20) := by show _ = _; rw [HR2.out, hN]; rfl
   have HS20 := Lib.hid n1
   have HW20 := Lib.hid (RS.step HW4.out n2)
   obtain ⟨ao, acap, rfl, -, -, -⟩ := ownsRow_shape hEn.own1
   obtain ⟨lo, lcap, rfl, l1, l2, l3⟩ := ownsRow_shape hEn.own2
   obtain ⟨g, rfl, l4, l5, l6⟩ := l3 es3
   have HL6 : Hid (∀ (j x : Nat), lens[j]? = some x → w20.cell? ⟨g, j, none⟩ = some (.int .i64 (x : Nat))) := by
    intro j x hj
    have hjl := (List.getElem?_eq_some_iff.1 hj).1
    rw [l6 j (by omega)]
    simp [ints, hj]
   obtain ⟨k0, hk0⟩ : ∃ k0, lens[0]? = some k0 := ⟨_, List.getElem?_eq_getElem es3⟩
   have hhd : lens.headD 0 = k0 := by
    cases lens with
    | nil => simp at es3
    | cons x l => simpa using hk0
   have c0 := HL6.out 0 k0 hk0
   obtain ⟨nl, hnl⟩ : ∃ nl, nl = lens.length := ⟨_, rfl⟩
   obtain ⟨nc, hnc⟩ : ∃ nc, nc = cs.length := ⟨_, rfl⟩
   rw [← hnl] at es3 l1 ⊢
   rw [← hnc]
   have HNC := Lib.hid hnc
   have hnlb : nl ≤ 9223372036854775807 := by unfold maxLen at l2; omega
   have HEN := Lib.hid hEn
   have hsB : w.heap.size < w4.heap.size := Nat.lt_of_lt_of_le hlA HW4.out.size
   have HNL := Lib.hid hnl
   have HK0 := Lib.hid hk0
   have HHD := Lib.hid hhd
   have hb10 := (HW20.out.block w.heap.size hlA (by omega) (by simp)).trans HBLK.out
   have e0 : w20.cell? ⟨w.heap.size, 0, none⟩ = some (.int .i64 0) := (cell_of_row w20 _ _ _ _ _ hb10).trans rfl
   have e1 : w20.cell? ⟨w.heap.size, 1, none⟩ = some (.int .i64 0) := (cell_of_row w20 _ _ _ _ _ hb10).trans rfl
   have e2 : w20.cell? ⟨w.heap.size, 2, none⟩ = some (.slice none 0 0) := (cell_of_row w20 _ _ _ _ _ hb10).trans rfl
   have f0 : w20.frozen? ⟨w.heap.size, 0, none⟩ = false := frozen_of_row w20 _ 0 _ _ hb10
   have f1 : w20.frozen? ⟨w.heap.size, 1, none⟩ = false := frozen_of_row w20 _ 1 _ _ hb10
   have f2 : w20.frozen? ⟨w.heap.size, 2, none⟩ = false := frozen_of_row w20 _ 2 _ _ hb10
   have HB10 := Lib.hid hb10
   have hsl20 : w.heap.size < w20.heap.size := Nat.lt_of_lt_of_le hlA HW20.out.size
   have hl20 := n3
   clear n1 n2 n3 hEn es1 l2 l3 l6 hk0 hhd hnl hnc hb10 hN HR2
   go_wp2_with fail
   go_loopw [9, 53] (fun _ iv wr => ∃ j : Nat, iv = .int .i64 (j : Nat) ∧ j ≤ nl ∧ (∀ i x, i < j → lens[i]? = some x → x = k0) ∧ wr = w20) (fun _ iv _ => (nl - intOf iv).toNat)
   case atStart => exact ⟨0, rfl, Nat.zero_le _, fun i x h => absurd h (Nat.not_lt_zero i), rfl⟩
   case round =>
    obtain ⟨j, rfl, hjl, hall, hwe⟩ := hrel
    subst hwe
    have HALL := Lib.hid hall
    clear hall
    by_cases hj : j < nl
    ·obtain ⟨x, hx⟩ : ∃ x, lens[j]? = some x := ⟨_, List.getElem?_eq_getElem (by rw [← HNL.out]; exact hj)⟩
     have cj := HL6.out j x hx
     have HX := Lib.hid hx
     clear hx
     by_cases hxk : x = k0
     ·have hxb : ((x : Int) == (k0 : Int)) = true := by simp [hxk]
      have HXK := Lib.hid hxk
      clear hxk
      go_wp2_with fail
      have hfin : ∀ i y, i < j + 1 → lens[i]? = some y → y = k0 := by
       intro i y hi hy
       by_cases hij : i < j
       ·exact HALL.out i y hij hy
       ·have : i = j := by omega
        subst this
        rw [HX.out] at hy
        cases hy
        exact HXK.out
      first | exact ⟨⟨j + 1, rfl, by omega, hfin, rfl⟩, by simp [intOf] <;> omega⟩ | exact ⟨by (repeat apply Exists.intro); exact ⟨⟨j + 1, rfl, by omega, hfin, trivial⟩, rfl⟩, by simp [intOf] <;> omega⟩ | exact ⟨⟨j + 1, rfl, by omega, hfin, trivial⟩, by simp [intOf] <;> omega⟩
     ·have hxb : ((x : Int) == (k0 : Int)) = false := by simp; omega
      have hre : r = some (.error (col, 2)) := by
       rw [HR20.out]
       unfold SynP.matDone
       rw [if_pos (by
        rw [List.any_eq_true]
        exact ⟨x, List.mem_of_getElem? HX.out, by rw [HHD.out]; simpa using hxk⟩)]
       rfl
      have HRE := Lib.hid hre
      clear hxk hre
      go_wp2_with fail
      refine ⟨rfl, ?_⟩
      rw [HRE.out]
      exact ⟨rfl, RS.step HWA.out HW20.out⟩
    ·have hany : ¬ (lens.any (· != lens.headD 0)) = true := by
      rw [HHD.out, List.any_eq_true]
      rintro ⟨x, hx, hne⟩
      obtain ⟨i, hi⟩ := List.getElem?_of_mem hx
      have hil := (List.getElem?_eq_some_iff.1 hi).1
      rw [← HNL.out] at hil
      have := HALL.out i x (by omega) hi
      simp [this] at hne
     have HRD : Hid (r = if 64 < nl || 64 < k0 then SynP.fault col 5 else SynP.ret ⟨nl, k0, acc⟩ s20) := by
      show _ = _
      rw [HR20.out]
      unfold SynP.matDone
      rw [if_neg hany]
      simp only [HHD.out, ← HNL.out]
     clear hany
     by_cases h6 : 64 < nl
     ·have hb6 : (64 : Int) < (nl : Int) := by omega
      have hre : r = some (.error (col, 5)) := by rw [HRD.out, if_pos (by simp [h6])]; rfl
      have HRE := Lib.hid hre
      clear h6 hre
      go_wp2_with fail
      refine ⟨rfl, ?_⟩
      rw [HRE.out]
      exact ⟨rfl, RS.step HWA.out HW20.out⟩
     ·by_cases h9 : 64 < k0
      ·have hb6 : ¬ (64 : Int) < (nl : Int) := by omega
       have hb9 : (64 : Int) < (k0 : Int) := by omega
       have hre : r = some (.error (col, 5)) := by rw [HRD.out, if_pos (by simp [h9])]; rfl
       have HRE := Lib.hid hre
       clear h6 h9 hre
       go_wp2_with fail
       refine ⟨rfl, ?_⟩
       rw [HRE.out]
       exact ⟨rfl, RS.step HWA.out HW20.out⟩
      ·have hb6 : ¬ (64 : Int) < (nl : Int) := by omega
       have hb9 : ¬ (64 : Int) < (k0 : Int) := by omega
       have hre : r = some (.ok (⟨nl, k0, acc⟩, s20)) := by rw [HRD.out, if_neg (by simp; omega)]; rfl
       have HRE := Lib.hid hre
       clear h6 h9 hre
       go_wp2_with fail
       obtain ⟨wS, hwS⟩ : ∃ wS, wS = ((wr.setCell ⟨w.heap.size, 0, none⟩ (.int .i64 (nl : Int))).setCell ⟨w.heap.size, 1, none⟩ (.int .i64 (k0 : Int))).setCell ⟨w.heap.size, 2, none⟩ (.slice ao nc acap) := ⟨_, rfl⟩
       rw [← hwS]
       obtain ⟨p1, p2, p3, p4⟩ := mat_set HB10.out hwS
       obtain ⟨q2, q3⟩ := H.out.loc HS20.out (RS.step HWA.out HW20.out) p2 (fun q hq => by cases hq; exact Nat.le_refl _)
       have hz := (HEN.out.wr p4 hsB).irs
       rw [← HNC.out] at hz
       refine bodyPost_ret (results_cell_row rfl _ _ w.heap.size 54 _ _ _ rfl p1 Tryz.underlying54 rfl (by kernel_rfl)) rfl ?_
       rw [HRE.out]
       exact ⟨_, _, rfl, q2, q3, by omega, _, rfl, hz⟩
end Go.Proofs.YtceggplnggkdnaaGreatDoor
