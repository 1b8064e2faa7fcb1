/- Joined texts of this claim's proof: EvG, EvH, EvI, EvJ, EvK, EvN. -/
import Derived.Test.YtceggplnggkdnaaGreatDoorPk16
import Derived.Test.YtceggplnggkdnaaGreatDoorPk20
import Derived.Deep.RegionHeld3
import Derived.Laws.AppendOwn
import Derived.Maps.AppendAt
import Derived.Deep.AppendLies
import Derived.Test.YtceggplnggkdnaaGreatDoorPk2
set_option linter.unusedSimpArgs false
set_option linter.unusedVariables false
namespace Go.Proofs.YtceggplnggkdnaaGreatDoor
open Go.RowKit NatP LexP Go.ChangeMaps
set_option maxRecDepth 100000 in
set_option maxHeartbeats 1000000 in
theorem check_two (r1 c1 n1 k1 r2 c2 n2 k2 g : Nat) (a1 a2 : Option Addr) (w : World) (hb : w.heap[g]? = some (.cells #[.int .i64 (r1 : Nat), .int .i64 (c1 : Nat), .slice a1 n1 k1, .int .i64 (r2 : Nat), .int .i64 (c2 : Nat), .slice a2 n2 k2] 54 (0, 0)))
  (h1 : r1 ≤ 64) (h2 : c1 ≤ 64) (h3 : n1 = r1 * c1) (h4 : r2 ≤ 64) (h5 : c2 ≤ 64) (h6 : n2 = r2 * c2) :
  Calls Tryz.prog 203 #[.slice (some ⟨g, 0, none⟩) 2 2] w fun e w' => e = .returned (.int .i64 0) ∧ Below w.heap.size w w' := by
 have HB := Lib.hid hb
 have H3 := Lib.hid h3
 have H6 := Lib.hid h6
 clear hb h3 h6
 go_enter Tryz.func203, Tryz.ntmps203
 go_wp2_with fail
 go_loopw [7] (fun i wr => ∃ k : Nat, k ≤ 2 ∧ i = .int .i64 (k : Nat) ∧ Below w.heap.size w wr) (fun i _ => 2 - (intOf i).toNat)
 case atStart => exact ⟨0, by omega, rfl, Below.refl _ _⟩
 case round =>
  obtain ⟨k, hk, rfl, hb⟩ := hrel
  have HW := Lib.hid hb
  by_cases hlt : k < 2
  ·obtain ⟨r, c, n, cap, ao, hr, hc, hn, e1, e2, e3⟩ : ∃ (r c n cap : Nat) (ao : Option Addr), r ≤ 64 ∧ c ≤ 64 ∧ Hid (n = r * c) ∧ wr.cell? ⟨g, k * 3, none⟩ = some (.int .i64 (r : Nat)) ∧ wr.cell? ⟨g, k * 3 + 1, none⟩ = some (.int .i64 (c : Nat)) ∧ wr.cell? ⟨g, k * 3 + 2, none⟩ = some (.slice ao n cap) := by
    have hx := blk_keep hb HB.out
    match k, hlt with
    | 0, _ => exact ⟨r1, c1, n1, k1, a1, h1, h2, H3.out, (cell_of_row _ _ _ _ _ _ hx).trans rfl, (cell_of_row _ _ _ _ _ _ hx).trans rfl, (cell_of_row _ _ _ _ _ _ hx).trans rfl⟩
    | 1, _ => exact ⟨r2, c2, n2, k2, a2, h4, h5, H6.out, (cell_of_row _ _ _ _ _ _ hx).trans rfl, (cell_of_row _ _ _ _ _ _ hx).trans rfl, (cell_of_row _ _ _ _ _ _ hx).trans rfl⟩
   clear hb
   go_wp2_with fail
   refine (mcheck r c n cap ao _ hr hc hn.out).mono ?_
   rintro e w2 ⟨rfl, hb2⟩
   have HW2 : Hid (Below w.heap.size w w2) := (HW.out.trans ((below_alloc wr _).mono HW.out.size)).trans (hb2.mono (Nat.le_trans HW.out.size (below_alloc wr _).size))
   clear hb2 e1 e2 e3
   go_wp2_with fail
   have hfin : ∃ k' : Nat, k' ≤ 2 ∧ (Value.int .i64 ((k : Int) + 1)) = .int .i64 (k' : Nat) ∧ Below w.heap.size w w2 := ⟨k + 1, by omega, by go_num, HW2.out⟩
   exact ⟨hfin, by simp [intOf]; omega⟩
  ·obtain rfl : k = 2 := by omega
   clear hb
   go_wp2_with fail
   go_ret
   exact ⟨rfl, HW.out⟩
structure MRd (w : World) (a : SynP.MatV) (ao : Option Addr) (n cap : Nat) : Prop where
 irs : IRs w (.slice ao n cap) a.at_
 len : n = a.at_.length
 rows : a.rows ≤ 64
 cols : a.cols ≤ 64
 prod : a.at_.length = a.rows * a.cols
theorem MRd.below {w w' : World} {a : SynP.MatV} {ao : Option Addr} {n cap : Nat} (h : MRd w a ao n cap) (hb : Below w.heap.size w w') : MRd w' a ao n cap := ⟨h.irs.below hb, h.len, h.rows, h.cols, h.prod⟩
theorem mulM_at (a b : SynP.MatV) : (SynP.mulM a b).at_ = (List.range (a.rows * b.cols)).map fun t => SynP.iz (SynP.dotK a b (t / b.cols) (t % b.cols) a.cols) := rfl
theorem pow_le_BB {N : Nat} (h : N ≤ 4096) : 2 ^ N ≤ BB ^ LW := by
 rw [show BB = 2 ^ 64 from rfl, ← Nat.pow_mul]
 exact Nat.pow_le_pow_right (by omega) (by unfold LW; omega)
set_option maxRecDepth 100000 in
set_option maxHeartbeats 2000000 in
theorem product_any3 (a b : SynP.MatV) (ao bo : Option Addr) (na nb ca cb : Nat) (w : World) (ha : MRd w a ao na ca) (hb : MRd w b bo nb cb) (hab : a.cols = b.rows) (hw : SynP.mbits a + SynP.mbits b + SynP.bitsV a.cols ≤ 4096) :
  Calls Tryz.prog 204 #[.agg #[.int .i64 (a.rows : Nat), .int .i64 (a.cols : Nat), .slice ao na ca], .agg #[.int .i64 (b.rows : Nat), .int .i64 (b.cols : Nat), .slice bo nb cb]] w
   (fun e w' => ∃ av, e = .returned (.agg #[.int .i64 (a.rows : Nat), .int .i64 (b.cols : Nat), av]) ∧ IRk w.heap.size w' av (SynP.mulM a b).at_ ∧ Below w.heap.size w w') := by
 have hmf : ∀ (fn : Fn) (first cap : Array Value) (w : World), (Instr.makeFunc fn first cap).run Tryz.prog w = .ok (.func fn first cap) w := fun _ _ _ _ => rfl
 have HA := Lib.hid ha
 have HB := Lib.hid hb
 have HAB := Lib.hid hab
 have HW := Lib.hid hw
 obtain ⟨g, w0, hg, hw0, hB0, hb0, hb1, hb2⟩ := al3 w #[.int .i64 (a.rows : Nat), .int .i64 (a.cols : Nat), .slice ao na ca] #[.int .i64 (b.rows : Nat), .int .i64 (b.cols : Nat), .slice bo nb cb] #[.int .i64 0, .int .i64 0, .slice none 0 0] 54
 have B0 := Lib.hid hb0
 have B1 := Lib.hid hb1
 have B2 := Lib.hid hb2
 have BW := Lib.hid hB0
 have HG := Lib.hid hg
 obtain ⟨r, hr⟩ : ∃ r, r = a.rows := ⟨_, rfl⟩
 obtain ⟨c, hc⟩ : ∃ c, c = b.cols := ⟨_, rfl⟩
 have HR := Lib.hid hr
 have HC := Lib.hid hc
 have hF : ∀ i j w', i < r → j < c → Below w0.heap.size w0 w' → Calls Tryz.prog 353 (#[.int .i64 (i : Nat), .int .i64 (j : Nat)] ++ #[.pointer (some ⟨g, 0, none⟩), .pointer (some ⟨g + 1, 0, none⟩)]) w' (ZQ ((fun t => SynP.dotK a b (t / c) (t % c) a.cols) (i * c + j)) w') := by
  intro i j w' hi hj hbw
  have hc0 : 0 < c := by omega
  have e1 : (i * c + j) / c = i := by rw [Nat.mul_comm, Nat.mul_add_div hc0, Nat.div_eq_of_lt hj, Nat.add_zero]
  have e2 : (i * c + j) % c = j := by rw [Nat.mul_comm, Nat.mul_add_mod, Nat.mod_eq_of_lt hj]
  show Calls _ _ _ _ (ZQ (SynP.dotK a b ((i * c + j) / c) ((i * c + j) % c) a.cols) w')
  rw [e1, e2]
  exact dot_any a b i j a.rows a.cols b.rows b.cols na nb g (g + 1) ao bo ca cb w' (blk_keep hbw B0.out) (blk_keep hbw B1.out) ((HA.out.irs.below BW.out).below hbw) ((HB.out.irs.below BW.out).below hbw) rfl rfl HA.out.len HB.out.len HA.out.cols HB.out.cols HA.out.rows (by rw [HA.out.len, HA.out.prod]) (by rw [HB.out.len, HB.out.prod, HAB.out]) (by rw [← HR.out]; exact hi) (by rw [← HC.out]; exact hj) HW.out
 have HF := Lib.hid hF
 have HL : Hid (∀ t, t < r * c → ((fun t => SynP.dotK a b (t / c) (t % c) a.cols) t).natAbs < BB ^ LW) := fun t _ => Nat.lt_of_lt_of_le (dotK_lt a b (Nat.le_refl _) _ _ _ (Nat.le_refl _)) (pow_le_BB HW.out)
 have c0 : w0.cell? ⟨g, 0, none⟩ = some (.int .i64 (r : Nat)) := by rw [hr]; exact (cell_of_row _ _ _ _ _ _ hb0).trans rfl
 have c1 : w0.cell? ⟨g + 1, 1, none⟩ = some (.int .i64 (c : Nat)) := by rw [hc]; exact (cell_of_row _ _ _ _ _ _ hb1).trans rfl
 clear ha hb hab hw hb0 hb1 hb2 hB0 hF
 go_enter Tryz.func204, Tryz.ntmps204
 go_wp2_with fail
 refine (build_any 353 (enters_of Tryz.func353 (by kernel_rfl) rfl) #[.pointer (some ⟨g, 0, none⟩), .pointer (some ⟨g + 1, 0, none⟩)] a.rows b.cols (fun t => SynP.dotK a b (t / c) (t % c) a.cols) w0 HA.out.rows HB.out.cols (by rw [← HR.out, ← HC.out]; exact HF.out) (by rw [← HR.out, ← HC.out]; exact HL.out)).mono ?_
 rintro e w3 ⟨av, rfl, h1, h2⟩
 rw [← HC.out, ← HR.out] at h1
 obtain ⟨l, hl⟩ : ∃ l, l = (List.range (r * c)).map fun t => SynP.iz (SynP.dotK a b (t / c) (t % c) a.cols) := ⟨_, rfl⟩
 rw [← hl] at h1
 have HLE := Lib.hid hl
 obtain ⟨vo, vcap, hv, -⟩ := h1.irs
 subst hv
 have H1 := Lib.hid h1
 have H2 := Lib.hid h2
 obtain ⟨G, hG⟩ : ∃ G, G = g + 1 + 1 := ⟨_, rfl⟩
 have B3 := Lib.hid (blk_keep h2 B2.out)
 rw [← hG] at B3 ⊢
 have HGG := Lib.hid hG
 obtain ⟨x0, x1, x2, y0, y1, y2⟩ := rmat_cells B3.out
 clear h1 h2 c0 c1 hG hw0 hg hl
 go_wp2_with fail
 obtain ⟨s3, s4⟩ := rmat_set B3.out (.int .i64 (a.rows : Nat)) (.int .i64 (b.cols : Nat)) (.slice vo l.length vcap)
 refine bodyPost_ret (results_cell_row rfl _ _ G 54 _ _ _ rfl s3 Tryz.underlying54 rfl (by kernel_rfl)) rfl ?_
 have hGl : G < w0.heap.size := by rw [HGG.out]; exact (Array.getElem?_eq_some_iff.1 B2.out).1
 have hGg : w.heap.size ≤ G := by have := HGG.out; have := HG.out; omega
 refine ⟨_, rfl, ?_, below_rmat (BW.out.trans (H2.out.mono BW.out.size)) s4 hGg⟩
 have hm : (SynP.mulM a b).at_ = l := by rw [mulM_at, ← HR.out, ← HC.out, ← HLE.out]
 rw [hm]
 exact H1.out.low BW.out.size (fun k hk hl => s4.block k hl (by simp; omega)) s4.size
def MMPost (r c : Nat) (l : List (Bool × Nat)) (w : World) (e : Ending) (w' : World) : Prop := ∃ av, e = .returned (.tuple #[.agg #[.int .i64 (r : Nat), .int .i64 (c : Nat), av], .int .i64 0]) ∧ IRk w.heap.size w' av l ∧ Below w.heap.size w w'
set_option maxRecDepth 100000 in
set_option maxHeartbeats 2000000 in
theorem mul_mat (a b : SynP.MatV) (ao bo : Option Addr) (na nb ca cb : Nat) (w : World) (ha : MRd w a ao na ca) (hb : MRd w b bo nb cb) (hab : a.cols = b.rows) (hw : SynP.mbits a + SynP.mbits b + SynP.bitsV a.cols ≤ 4096) :
  Calls Tryz.prog 113 #[.agg #[.int .i64 (a.rows : Nat), .int .i64 (a.cols : Nat), .slice ao na ca], .agg #[.int .i64 (b.rows : Nat), .int .i64 (b.cols : Nat), .slice bo nb cb]] w (MMPost a.rows b.cols (SynP.mulM a b).at_ w) := by
 have HA := Lib.hid ha
 have HB := Lib.hid hb
 have HAB := Lib.hid hab
 have HW := Lib.hid hw
 obtain ⟨g, w0, hg, hw0, hB0, hb0, hb1, hb2⟩ := al3 w #[.int .i64 (a.rows : Nat), .int .i64 (a.cols : Nat), .slice ao na ca] #[.int .i64 (b.rows : Nat), .int .i64 (b.cols : Nat), .slice bo nb cb] #[.int .i64 0, .int .i64 0, .slice none 0 0] 54
 have B0 := Lib.hid hb0
 have B1 := Lib.hid hb1
 have B2 := Lib.hid hb2
 have BW := Lib.hid hB0
 have HG := Lib.hid hg
 obtain ⟨r, hr⟩ : ∃ r, r = a.rows := ⟨_, rfl⟩
 obtain ⟨c, hc⟩ : ∃ c, c = b.cols := ⟨_, rfl⟩
 obtain ⟨m, hm⟩ : ∃ m, m = a.cols := ⟨_, rfl⟩
 obtain ⟨m2, hm2⟩ : ∃ m2, m2 = b.rows := ⟨_, rfl⟩
 have HR := Lib.hid hr
 have HC := Lib.hid hc
 have HM := Lib.hid hm
 have HM2 := Lib.hid hm2
 have hmm : m2 = m := by rw [hm, hm2, hab]
 subst hmm
 rw [← hr, ← hm] at hb0 hw0 B0 ⊢
 rw [← hc, ← hm2] at hb1 hw0 B1 ⊢
 have x0 := (rmat_cells hb0).1
 have x1 := (rmat_cells hb0).2.1
 have x2 := (rmat_cells hb0).2.2.1
 have y0 := (rmat_cells hb1).1
 have y1 := (rmat_cells hb1).2.1
 have y2 := (rmat_cells hb1).2.2.1
 obtain ⟨G, hG⟩ : ∃ G, G = g + 1 + 1 := ⟨_, rfl⟩
 rw [← hG] at hb2 B2
 have HGG := Lib.hid hG
 obtain ⟨l, hl⟩ : ∃ l, l = (SynP.mulM a b).at_ := ⟨_, rfl⟩
 rw [← hl]
 have HLM := Lib.hid hl
 clear ha hb hab hw hb0 hb1 hb2 hB0 hr hc hm hm2 hG hl
 go_enter Tryz.func113, Tryz.ntmps113
 go_wp2_with fail
 rw [← HGG.out]
 have n3 := heap_alloc_new w0 (.cells #[.int .i64 (r : Nat), .int .i64 (m2 : Nat), .slice ao na ca, .int .i64 (m2 : Nat), .int .i64 (c : Nat), .slice bo nb cb] 54)
 have b3 := below_alloc w0 (.cells #[.int .i64 (r : Nat), .int .i64 (m2 : Nat), .slice ao na ca, .int .i64 (m2 : Nat), .int .i64 (c : Nat), .slice bo nb cb] 54)
 refine (check_two r m2 na ca m2 c nb cb w0.heap.size ao bo _ n3 (by rw [HR.out]; exact HA.out.rows) (by rw [HM.out]; exact HA.out.cols) (by rw [HR.out, HM.out, HA.out.len, HA.out.prod]) (by rw [HM2.out]; exact HB.out.rows) (by rw [HC.out]; exact HB.out.cols) (by rw [HM2.out, HC.out, HB.out.len, HB.out.prod])).mono ?_
 rintro e w1 ⟨rfl, b4⟩
 have W1 : Hid (Below w0.heap.size w0 w1) := b3.trans (b4.mono b3.size)
 have X0 := cell_keep W1.out x0
 have X1 := cell_keep W1.out x1
 have X2 := cell_keep W1.out x2
 have Y0 := cell_keep W1.out y0
 have Y1 := cell_keep W1.out y1
 have Y2 := cell_keep W1.out y2
 have B3 := Lib.hid (blk_keep W1.out B2.out)
 have W2 : Hid (Below w.heap.size w w1) := BW.out.trans (W1.out.mono BW.out.size)
 have hmb : ((m2 : Int) != (m2 : Int)) = false := by simp
 clear n3 b3 b4 x0 x1 x2 y0 y1 y2 hw0 hg
 go_wp2_with fail
 have hp := product_any3 a b ao bo na nb ca cb w1 (HA.out.below W2.out) (HB.out.below W2.out) (by rw [← HM.out, ← HM2.out]) HW.out
 rw [← HR.out, ← HM.out, ← HM2.out, ← HC.out, ← HLM.out] at hp
 refine hp.mono ?_
 clear hp
 rintro e w3 ⟨av, rfl, h1, h2⟩
 obtain ⟨vo, vcap, hv, -⟩ := h1.irs
 subst hv
 have H1 := Lib.hid h1
 have H2 := Lib.hid h2
 have B4 := Lib.hid (blk_keep h2 B3.out)
 obtain ⟨x0, x1, x2, y0, y1, y2⟩ := rmat_cells B4.out
 clear h1 h2 X0 X1 X2 Y0 Y1 Y2
 go_wp2_with fail
 obtain ⟨s3, s4⟩ := rmat_set B4.out (.int .i64 (r : Nat)) (.int .i64 (c : Nat)) (.slice vo l.length vcap)
 refine bodyPost_ret (results_cell_tmp_row rfl _ _ G 54 _ _ _ rfl s3 Tryz.underlying54 rfl (by kernel_rfl)) rfl ?_
 have hGl : G < w1.heap.size := (Array.getElem?_eq_some_iff.1 B3.out).1
 have hGg : w.heap.size ≤ G := by have := HGG.out; have := HG.out; omega
 refine ⟨_, rfl, ?_, below_rmat (W2.out.trans (H2.out.mono W2.out.size)) s4 hGg⟩
 exact H1.out.low W2.out.size (fun k hk hl => s4.block k hl (by simp; omega)) s4.size
end Go.Proofs.YtceggplnggkdnaaGreatDoor
namespace Go.Proofs.YtceggplnggkdnaaGreatDoor
open Go.RowKit NatP LexP Go.ChangeMaps
def VlP (r : Except Nat SynP.Vl) (w : World) (e : Ending) (w' : World) : Prop :=
 match r with
 | .error k => e = .returned (.tuple #[.nilIface, .iface 125 (.int .i64 (k : Nat))]) ∧ Below w.heap.size w w'
 | .ok v => ∃ u, e = .returned (.tuple #[u, .nilIface]) ∧ VR w' u v ∧ Below w.heap.size w w'
theorem bitsN_le (xs : List Nat) (hok : ok xs) : bitsN xs ≤ 64 * xs.length := by
 have q := strip_le xs
 unfold bitsN
 by_cases h : (strip xs).length = 0
 ·rw [if_pos h]; omega
 ·rw [if_neg h]
  obtain ⟨n, hn⟩ : ∃ n, (strip xs).length = n + 1 := ⟨(strip xs).length - 1, by omega⟩
  obtain ⟨d, hd, hd0⟩ := strip_last xs n hn
  have hdb : d < BB := ok_strip hok d (List.mem_of_getElem? hd)
  rw [hn, Nat.add_sub_cancel, List.getD_eq_getElem?_getD, hd]
  have := bitLen_bounds (Nat.pos_of_ne_zero hd0) hdb
  simp only [Option.getD_some]
  omega
theorem foldl_max_le {f : Bool × Nat → Nat} {M : Nat} : ∀ (l : List (Bool × Nat)) (a : Nat), a ≤ M → (∀ p ∈ l, f p ≤ M) → l.foldl (fun a p => max a (f p)) a ≤ M
 | [], a, h, _ => h
 | q :: l, a, h, hp => foldl_max_le l (max a (f q)) (by have := hp q (List.mem_cons_self ..); omega) (fun p hm => hp p (List.mem_cons_of_mem _ hm))
theorem mbl_le {w : World} {v : Value} {l : List (Bool × Nat)} (h : IRs w v l) : mbl l ≤ 4294967296 := by
 refine foldl_max_le (f := fun p => SynP.bitsV p.2) l 0 (Nat.zero_le _) (fun p hp => ?_)
 obtain ⟨i, hi⟩ := List.getElem?_of_mem hp
 obtain ⟨g, o, cap, mo, xs, mcap, rfl, b1, b2, b3, b4, b5⟩ := h.el hi
 have h1 := bitsN_le xs b3.ok
 rw [bitsN_val xs b3.ok, b4] at h1
 show SynP.bitsV p.2 ≤ _
 omega
theorem fail_ok (w : World) : Calls Tryz.prog 56 #[.int .i64 0] w fun e w' => e = .returned .nilIface ∧ w' = w :=
 (fail_any 0 w).mono fun e w' h => ⟨h.1, h.2.symm⟩
theorem al2 (w : World) (c0 c1 : Array Value) (t : TypeId) : ∃ g w0, w.heap.size = g ∧ (w.alloc (.cells c0 t)).alloc (.cells c1 t) = w0 ∧ Below w.heap.size w w0 ∧ w0.heap[g]? = some (.cells c0 t (0, 0)) ∧ w0.heap[g + 1]? = some (.cells c1 t (0, 0)) := by
 have a1 := below_alloc w (.cells c0 t)
 have a2 := below_alloc (w.alloc (.cells c0 t)) (.cells c1 t)
 have n1 := heap_alloc_new w (.cells c0 t)
 have n2 := heap_alloc_new (w.alloc (.cells c0 t)) (.cells c1 t)
 rw [World.size_alloc] at n2
 exact ⟨_, _, rfl, rfl, a1.trans (a2.mono a1.size), (a2.block _ (by simp)).trans n1, n2⟩
theorem ta_mi (v : Value) (w : World) : (Instr.typeAssert (.iface 122 v) 72 117 true).run Tryz.prog w = .ok (.tuple #[.agg #[.bool false, .slice none 0 0], .bool false]) w := by kernel_rfl
theorem ta_mm (v : Value) (w : World) : (Instr.typeAssert (.iface 122 v) 72 122 true).run Tryz.prog w = .ok (.tuple #[v, .bool true]) w := by kernel_rfl
set_option maxRecDepth 100000 in
set_option maxHeartbeats 4000000 in
theorem product_mm (a b : SynP.MatV) (ao bo : Option Addr) (na nb ca cb : Nat) (w : World) (ha : MRd w a ao na ca) (hb : MRd w b bo nb cb) :
  Calls Tryz.prog 61 #[.iface 122 (.agg #[.int .i64 (a.rows : Nat), .int .i64 (a.cols : Nat), .slice ao na ca]), .iface 122 (.agg #[.int .i64 (b.rows : Nat), .int .i64 (b.cols : Nat), .slice bo nb cb])] w (VlP (SynP.mulV a b) w) := by
 have HA := Lib.hid ha
 have HB := Lib.hid hb
 have hA := mbl_le ha.irs
 have hB := mbl_le hb.irs
 obtain ⟨r, hr⟩ : ∃ r, r = a.rows := ⟨_, rfl⟩
 obtain ⟨c, hc⟩ : ∃ c, c = b.cols := ⟨_, rfl⟩
 obtain ⟨m, hm⟩ : ∃ m, m = a.cols := ⟨_, rfl⟩
 obtain ⟨m2, hm2⟩ : ∃ m2, m2 = b.rows := ⟨_, rfl⟩
 have h1 := ha.cols
 have h2 := hb.rows
 rw [← hr, ← hm, ← hc, ← hm2]
 rw [← hm] at h1
 rw [← hm2] at h2
 have HR := Lib.hid hr
 have HC := Lib.hid hc
 have HM := Lib.hid hm
 have HM2 := Lib.hid hm2
 clear ha hb hr hc hm hm2
 obtain ⟨g, w0, hg, hw0, hB0, hb0, hb1⟩ := al2 w #[.int .i64 (r : Nat), .int .i64 (m : Nat), .slice ao na ca] #[.int .i64 (m2 : Nat), .int .i64 (c : Nat), .slice bo nb cb] 122
 have BW := Lib.hid hB0
 have t1 := ta_mi
 have t2 := ta_mm
 obtain ⟨R, hR⟩ : ∃ R, R = SynP.mulV a b := ⟨_, rfl⟩
 rw [← hR]
 have HRR := Lib.hid hR
 clear hR hB0
 obtain ⟨x0, x1, x2⟩ : w0.cell? ⟨g, 0, none⟩ = some (.int .i64 (r : Nat)) ∧ w0.cell? ⟨g, 1, none⟩ = some (.int .i64 (m : Nat)) ∧ w0.cell? ⟨g, 2, none⟩ = some (.slice ao na ca) := ⟨(cell_of_row _ _ _ _ _ _ hb0).trans rfl, (cell_of_row _ _ _ _ _ _ hb0).trans rfl, (cell_of_row _ _ _ _ _ _ hb0).trans rfl⟩
 obtain ⟨y0, y1, y2⟩ : w0.cell? ⟨g + 1, 0, none⟩ = some (.int .i64 (m2 : Nat)) ∧ w0.cell? ⟨g + 1, 1, none⟩ = some (.int .i64 (c : Nat)) ∧ w0.cell? ⟨g + 1, 2, none⟩ = some (.slice bo nb cb) := ⟨(cell_of_row _ _ _ _ _ _ hb1).trans rfl, (cell_of_row _ _ _ _ _ _ hb1).trans rfl, (cell_of_row _ _ _ _ _ _ hb1).trans rfl⟩
 by_cases hmm : m = m2
 ·subst hmm
  have hne : ((m : Int) != (m : Int)) = false := by simp
  obtain ⟨A, hA'⟩ : ∃ A, A = mbl a.at_ := ⟨_, rfl⟩
  obtain ⟨B, hB'⟩ : ∃ B, B = mbl b.at_ := ⟨_, rfl⟩
  obtain ⟨D, hD'⟩ : ∃ D, D = SynP.bitsV m := ⟨_, rfl⟩
  have hD : D ≤ 64 := by
   rw [hD']
   unfold SynP.bitsV
   split
   ·omega
   ·rename_i h0
    have : m.log2 < 63 := (Nat.log2_lt h0).2 (by omega)
    omega
  rw [← hA'] at hA
  rw [← hB'] at hB
  have HA' := Lib.hid hA'
  have HB' := Lib.hid hB'
  have HD' := Lib.hid hD'
  have w1 : IntKind.i64.wrap ((A : Int) + (B : Int)) = ((A + B : Nat) : Int) := by
   rw [show (A : Int) + (B : Int) = ((A + B : Nat) : Int) by omega]; exact IntWalk.i64_in _ (by omega)
  have w2 : IntKind.i64.wrap (((A + B : Nat) : Int) + (D : Int)) = ((A + B + D : Nat) : Int) := by
   rw [show ((A + B : Nat) : Int) + (D : Int) = ((A + B + D : Nat) : Int) by omega]; exact IntWalk.i64_in _ (by omega)
  clear hb0 hb1 hA' hB' hD'
  go_enter Tryz.func61, Tryz.ntmps61
  go_wp2_with fail
  go_region_held3 (fun w' => w'.cell? ⟨g, 0, none⟩ = some (.int .i64 (r : Nat)) ∧ w'.cell? ⟨g, 1, none⟩ = some (.int .i64 (m : Nat)) ∧ w'.cell? ⟨g, 2, none⟩ = some (.slice ao na ca) ∧ w'.cell? ⟨g + 1, 0, none⟩ = some (.int .i64 (m : Nat)) ∧ w'.cell? ⟨g + 1, 1, none⟩ = some (.int .i64 (c : Nat)) ∧ w'.cell? ⟨g + 1, 2, none⟩ = some (.slice bo nb cb))
   (first
    | (refine ⟨?_, ?_, ?_, ?_, ?_, ?_⟩ <;> go_keep)
    | exact ⟨cell_keep b3 (cell_keep b2 (cell_keep b1 x0)), cell_keep b3 (cell_keep b2 (cell_keep b1 x1)), cell_keep b3 (cell_keep b2 (cell_keep b1 x2)), cell_keep b3 (cell_keep b2 (cell_keep b1 y0)), cell_keep b3 (cell_keep b2 (cell_keep b1 y1)), cell_keep b3 (cell_keep b2 (cell_keep b1 y2))⟩
    | exact ⟨cell_keep b2 (cell_keep b1 x0), cell_keep b2 (cell_keep b1 x1), cell_keep b2 (cell_keep b1 x2), cell_keep b2 (cell_keep b1 y0), cell_keep b2 (cell_keep b1 y1), cell_keep b2 (cell_keep b1 y2)⟩
    | exact ⟨cell_keep b1 x0, cell_keep b1 x1, cell_keep b1 x2, cell_keep b1 y0, cell_keep b1 y1, cell_keep b1 y2⟩)
   (first
    | (have hq := b1; go_at_call 111; refine (mbits_any _ _ b.at_ _ _ (by exact ((HB.out.irs.below BW.out).below (Below.drew (Below.refl _ _))).below b1) (by rw [HB.out.prod]; exact Nat.le_trans (Nat.mul_le_mul HB.out.rows HB.out.cols) (by omega))).mono ?_; rw [← HB'.out]; rintro e w4 ⟨rfl, b2⟩)
    | (go_at_call 111; refine (mbits_any _ _ a.at_ _ _ (by exact (HA.out.irs.below BW.out).below (Below.drew (Below.refl _ _))) (by rw [HA.out.prod]; exact Nat.le_trans (Nat.mul_le_mul HA.out.rows HA.out.cols) (by omega))).mono ?_; rw [← HA'.out]; rintro e w3 ⟨rfl, b1⟩)
    | (go_at_call 112; refine (digits_any m _ (by omega)).mono ?_; rw [← HD'.out]; rintro e w5 ⟨rfl, b3⟩))
  have X0 := cell_keep b3 (cell_keep b2 (cell_keep b1 x0))
  have X1 := cell_keep b3 (cell_keep b2 (cell_keep b1 x1))
  have X2 := cell_keep b3 (cell_keep b2 (cell_keep b1 x2))
  have Y0 := cell_keep b3 (cell_keep b2 (cell_keep b1 y0))
  have Y1 := cell_keep b3 (cell_keep b2 (cell_keep b1 y1))
  have Y2 := cell_keep b3 (cell_keep b2 (cell_keep b1 y2))
  have W5 : Hid (Below w.heap.size w w5) := BW.out.drew.trans ((b1.trans ((b2.trans (b3.mono b2.size)).mono b1.size)).mono BW.out.size)
  clear b1 b2 b3 x0 x1 x2 y0 y1 y2 hg hw0 w1 w2 hne
  obtain ⟨S, hS⟩ : ∃ S, S = A + B + D := ⟨_, rfl⟩
  have wq : IntKind.i64.wrap ((A : Int) + (B : Int) + (D : Int)) = (S : Int) := by
   rw [show (A : Int) + (B : Int) + (D : Int) = (S : Int) by omega]; exact IntWalk.i64_in _ (by omega)
  have HS := Lib.hid hS
  clear hS
  by_cases hs : 4096 < S
  ·have HE : Hid (R = .error 5) := by
    show _ = _
    rw [HRR.out]; unfold SynP.mulV; rw [if_neg (by rw [← HM.out, ← HM2.out]; exact fun e => e rfl), if_pos (by have e1 := HA'.out; have e2 := HB'.out; have e3 := HD'.out; have e4 := HS.out; rw [← HM.out, ← e3]; show 4096 < mbl a.at_ + mbl b.at_ + D; omega)]
   have hgt : decide ((4096 : Int) < (S : Int)) = true := by simp; omega
   clear X0 X1 X2 Y0 Y1 Y2
   go_wp2_with fail
   go_ret2
   rw [HE.out]
   exact ⟨rfl, W5.out⟩
  ·have hw : SynP.mbits a + SynP.mbits b + SynP.bitsV a.cols ≤ 4096 := by
    have e1 := HA'.out; have e2 := HB'.out; have e3 := HD'.out
    have e4 := HS.out; rw [← HM.out, ← e3]; show mbl a.at_ + mbl b.at_ + D ≤ 4096; omega
   have HE : Hid (R = .ok (.mat (SynP.mulM a b))) := by
    show _ = _
    rw [HRR.out]; unfold SynP.mulV; rw [if_neg (by rw [← HM.out, ← HM2.out]; exact fun e => e rfl), if_neg (by omega)]
   have hgt : decide ((4096 : Int) < (S : Int)) = false := by simp; omega
   have hp := mul_mat a b ao bo na nb ca cb w5 (HA.out.below W5.out) (HB.out.below W5.out) (by rw [← HM.out, ← HM2.out]) hw
   rw [← HR.out, ← HM.out, ← HM2.out, ← HC.out] at hp
   have HP := Lib.hid hp
   obtain ⟨l, hl⟩ : ∃ l, l = (SynP.mulM a b).at_ := ⟨_, rfl⟩
   rw [← hl] at HP
   have HL := Lib.hid hl
   clear hp hw hl
   go_wp2_with fail
   refine HP.out.mono ?_
   rintro e w6 ⟨av, rfl, h1, h2⟩
   obtain ⟨vo, vcap, hv, -⟩ := h1.irs
   subst hv
   have W6 : Hid (Below w.heap.size w w6) := W5.out.trans (h2.mono W5.out.size)
   have H1 := Lib.hid h1.irs
   clear h1 h2 X0 X1 X2 Y0 Y1 Y2 HP hgt
   go_wp2_with fail
   go_quiet ((go_at_call 56; exact Calls.quiet_of_same (fail_ok _)))
   go_wp2_with fail
   go_ret2
   rw [HE.out]
   have W7 := (below_alloc w6 (.cells #[.int .i64 (r : Nat), .int .i64 (c : Nat), .slice vo l.length vcap] 54)).trans ((below_drewN (w6.alloc (.cells #[.int .i64 (r : Nat), .int .i64 (c : Nat), .slice vo l.length vcap] 54)) nq).mono (below_alloc w6 _).size)
   refine ⟨_, rfl, ⟨.slice vo l.length vcap, by rw [show (SynP.mulM a b).rows = r from HR.out.symm, show (SynP.mulM a b).cols = c from HC.out.symm]; rfl, ?_, HA.out.rows, HB.out.cols, ?_⟩, W6.out.trans (W7.mono W6.out.size)⟩
   ·rw [← HL.out]; exact H1.out.below W7
   ·rw [mulM_at, List.length_map, List.length_range]; rfl
 ·have hne : ((m : Int) != (m2 : Int)) = true := by simp; omega
  have HE : Hid (R = .error 2) := by
   show _ = _
   rw [HRR.out]; unfold SynP.mulV; rw [if_pos (by rw [← HM.out, ← HM2.out]; exact hmm)]
  clear hb0 hb1 hmm
  go_enter Tryz.func61, Tryz.ntmps61
  go_wp2_with fail
  go_ret2
  rw [HE.out]
  exact ⟨rfl, BW.out⟩
end Go.Proofs.YtceggplnggkdnaaGreatDoor
namespace Go.Proofs.YtceggplnggkdnaaGreatDoor
open Go.RowKit NatP LexP Go.ChangeMaps
def IsIf (u : Value) : Prop := u = .nilIface ∨ ∃ t x, u = .iface t x
def IfB (w : World) (g : Nat) : Prop := ∀ o u, w.cell? ⟨g, o, none⟩ = some u → IsIf u
theorem IfB.row {w : World} {g : Nat} {cs : Array Value} {t : TypeId} {fr : Nat × Nat} (hb : w.heap[g]? = some (.cells cs t fr)) (h : ∀ u ∈ cs.toList, IsIf u) : IfB w g := by
 intro o u hu
 rw [cell_of_row w g o _ _ _ hb] at hu
 exact h u (by obtain ⟨hl, he⟩ := Array.getElem?_eq_some_iff.1 hu; rw [← he]; simp)
theorem IfB.el {w : World} {g : Nat} {cs : Array Value} {t : TypeId} {fr : Nat × Nat} (hb : w.heap[g]? = some (.cells cs t fr)) (h : IfB w g) : ∀ u ∈ cs.toList, IsIf u := by
 intro u hu
 obtain ⟨i, hi⟩ := List.getElem?_of_mem hu
 refine h i u ?_
 rw [cell_of_row w g i _ _ _ hb]
 simpa using hi
theorem IfB.kept {w w' : World} {g : Nat} (h : IfB w g) (hb : w'.heap[g]? = w.heap[g]?) : IfB w' g := fun o u hu => h o u ((show w'.cell? ⟨g, o, none⟩ = w.cell? ⟨g, o, none⟩ from World.cell?_of_block hb).symm.trans hu)
theorem zeros_if (k : Nat) : ∀ u ∈ (Builtin.zeroCells #[.nilIface] k).toList, IsIf u := by
 intro u hu
 simp only [Builtin.zeroCells, Array.toList_map, List.mem_map] at hu
 obtain ⟨i, -, rfl⟩ := hu
 exact .inl (by simp [Nat.mod_one])
theorem run_append_if {P : Program} (w : World) (t ty e : TypeId) (i : TypeInfo) (ht : P.underlying t = some (.slice e)) (hi : P.info? e = some i) (hz : i.zero = some .nilIface) (hsize : i.size = 1) (hby : i.bytes = 16)
  (base : Nat) (v : Value) (n : Nat) (xs : List Value) (hown : w.ownsRow base e 1 v n xs) (hall : ∀ g, v.ownBlock = some g → IfB w g)
  (a : Addr) (c : Nat) (u : Value) (hu : w.cell? a = some u) (h0 : a.add 0 = a) (h1 : u.oneCell' = true) (hif : IsIf u) (h63 : n ≤ 1000000) (hbase : base ≤ w.heap.size) :
  ∃ g cap w', (Builtin.append_ #[t, t] ty #[v, .slice (some a) 1 c]).run P w = .ok (.slice (some ⟨g, 0, none⟩) (n + 1) cap) w' ∧ w'.ownsRow base e 1 (.slice (some ⟨g, 0, none⟩) (n + 1) cap) (n + 1) (xs ++ [u]) ∧ w.grownBy w' v.ownBlock ∧ (v.ownBlock = some g ∨ g = w.heap.size) ∧ g < w'.heap.size ∧ IfB w' g := by
 have hml : n + 1 ≤ maxLen := by unfold maxLen; omega
 have hlen : (xs ++ [u]).length = (n + 1) * 1 := by rw [List.length_append, hown.1]; simp
 have hl : [u].length = 1 * i.size := by rw [hsize]; rfl
 have hnews : ∀ j x, [u][j]? = some x → w.cell? (a.add j) = some x := by
  intro j x hx
  match j, hx with
  | 0, hx => cases hx; rw [h0]; exact hu
 have hxi : ∀ g, v.ownBlock = some g → ∀ x ∈ xs, IsIf x := by
  intro g hg x hx
  obtain ⟨j, hj⟩ := List.getElem?_of_mem hx
  have hc := hown.cells hg j x hj
  have e2 : (⟨g, 0, none⟩ : Addr).add j = ⟨g, j, none⟩ := by unfold Addr.add; split <;> simp_all
  rw [e2] at hc
  exact hall g hg j x hc
 have grown : ∀ (old : Nat), (∀ x ∈ xs, IsIf x) →
   (w.drew.alloc (.cells (xs.toArray ++ [u].toArray ++ Builtin.zeroCells #[.nilIface] (grownCap w (n + 1) old e - (n + 1))) e)).ownsRow base e 1
    (.slice (some ⟨w.heap.size, 0, none⟩) (n + 1) (grownCap w (n + 1) old e)) (n + 1) (xs ++ [u]) ∧
   w.grownBy (w.drew.alloc (.cells (xs.toArray ++ [u].toArray ++ Builtin.zeroCells #[.nilIface] (grownCap w (n + 1) old e - (n + 1))) e)) v.ownBlock ∧
   IfB (w.drew.alloc (.cells (xs.toArray ++ [u].toArray ++ Builtin.zeroCells #[.nilIface] (grownCap w (n + 1) old e - (n + 1))) e)) w.heap.size := by
  intro old hx
  have hge := grownCap_ge w (n + 1) old e
  have hcm : grownCap w (n + 1) old e ≤ maxLen := grownCap_le_maxLen w (n + 1) old e hml
  refine ⟨⟨hlen, .inr ⟨w.heap.size, _, _, rfl, hbase, heap_alloc_new w.drew _, hge, hcm, ?_, ?_⟩⟩, ⟨rfl, rfl, rfl, by simp, fun k hk _ => (below_alloc w.drew _).block k hk⟩, IfB.row (heap_alloc_new w.drew _) ?_⟩
  ·simp only [Array.size_append, List.size_toArray, size_zeroCells, hown.1, List.length_singleton]
   simp; omega
  ·simp only [Array.toList_append, List.append_assoc]
   rw [← List.append_assoc, ← hlen]
   exact List.take_left
  ·intro x hx'
   simp only [Array.toList_append, List.mem_append, List.mem_singleton] at hx'
   rcases hx' with (h | h) | h
   ·exact hx x (by simpa using h)
   ·have : x = u := by simpa using h
    subst this; exact hif
   ·exact zeros_if _ x h
 rcases hown.2 with ⟨rfl, rfl⟩ | ⟨g, cap, cur, rfl, hbg, hg, hnc, hcm, hcs, htake⟩
 ·have hx : xs = [] := List.eq_nil_of_length_eq_zero (by simpa using hown.1)
  subst hx
  have hr := run_append_nil (P := P) w t ty e i .nilIface ht hi hz a 1 c [u] hl hnews (by omega) (by omega) (by rw [hby]; omega)
  obtain ⟨g1, g2, g3⟩ := grown 0 (fun x hx => by cases hx)
  simp only [Nat.zero_add, List.nil_append, Array.empty_append] at g1 g2 g3 ⊢
  exact ⟨_, _, _, hr, g1, g2, .inr rfl, by simp, g3⟩
 ·by_cases hroom : n + 1 ≤ cap
  ·have hfit : n * i.size + [u].length ≤ cur.size := by rw [hcs, hsize]; simp; omega
   have hr := run_append_room (P := P) w t ty e i ht hi g n cap cur hg a 1 c [u] hl hnews (by intro x hx; rw [List.mem_singleton] at hx; subst hx; exact h1) hroom hfit
   rw [hsize] at hr
   refine ⟨_, _, _, hr, ⟨hlen, .inr ⟨g, cap, _, rfl, hbg, setRow_heap w g cur _ e _ hg, hroom, hcm, ?_, ?_⟩⟩, ⟨rfl, rfl, rfl, by simp, fun k _ hk => setRow_other w g k _ (fun e => hk (by simp [Value.ownBlock, e]))⟩, .inl rfl, ?_, ?_⟩
   ·simp only [List.size_toArray, List.length_append, List.length_take, List.length_drop, Array.length_toList, List.length_singleton]
    omega
   ·rw [htake, ← hlen]
    exact List.take_left
   ·have := (Array.getElem?_eq_some_iff.1 (setRow_heap w g cur (cur.toList.take (n * 1) ++ [u] ++ cur.toList.drop (n * 1 + [u].length)).toArray e _ hg)).1
    exact this
   ·refine IfB.row (setRow_heap w g cur _ e _ hg) (fun x hx => ?_)
    simp only [List.mem_append, List.mem_singleton] at hx
    rcases hx with (h | h) | h
    ·exact IfB.el hg (hall g rfl) x (List.mem_of_mem_take h)
    ·subst h; exact hif
    ·exact IfB.el hg (hall g rfl) x (List.mem_of_mem_drop h)
  ·have holds : ∀ j x, xs[j]? = some x → w.cell? ((⟨g, 0, none⟩ : Addr).add j) = some x := hown.cells (g := g) rfl
   have hr := run_append_grow (P := P) w t ty e i .nilIface ht hi hz ⟨g, 0, none⟩ n cap xs (by rw [hsize]; exact hown.1) holds a 1 c [u] hl hnews (by omega) (by omega) (growslice_fits (by omega) (by rw [hby]; omega))
   obtain ⟨g1, g2, g3⟩ := grown cap (hxi g rfl)
   exact ⟨_, _, _, hr, g1, g2, .inr rfl, by simp, g3⟩
theorem wpList_append_if {P : Program} (w : World) {ops : Array Oper} {rest : List Oper} {o : Oper} {a : Act} {Q : Exit → Act → World → Prop} (hgd : o.guard = none) (s x : Operand) (t : TypeId)
  (ho : o.op = .call { callee := .builtin .append, args := #[s, x], argTypes := #[t, t] })
  (e : TypeId) (i : TypeInfo) (ht : P.underlying t = some (.slice e)) (hi : P.info? e = some i) (hz : i.zero = some .nilIface) (hsize : i.size = 1) (hby : i.bytes = 16)
  (base : Nat) (v : Value) (n : Nat) (xs : List Value) (hs : a.eval s = v) (hown : w.ownsRow base e 1 v n xs) (hall : ∀ g, v.ownBlock = some g → IfB w g)
  (ad : Addr) (c : Nat) (u : Value) (hx : a.eval x = .slice (some ad) 1 c) (hu : w.cell? ad = some u) (h0 : ad.add 0 = ad) (h1 : u.oneCell' = true) (hif : IsIf u) (h63 : n ≤ 1000000) (hbase : base ≤ w.heap.size) (H : Nat) (hH : w.heap.size = H)
  (h : ∀ g cap w', w'.ownsRow base e 1 (.slice (some ⟨g, 0, none⟩) (n + 1) cap) (n + 1) (xs ++ [u]) → w.grownBy w' v.ownBlock → (v.ownBlock = some g ∨ g = H) → g < w'.heap.size → IfB w' g → wpList P ops Q rest (a.put o.dst (.slice (some ⟨g, 0, none⟩) (n + 1) cap)) w') : wpList P ops Q (o :: rest) a w := by
 refine wpList_plain hgd fun K hK => ?_
 obtain ⟨g, cap, w', hr, h2, h3, h4, h5, h6⟩ := run_append_if (P := P) w t o.type e i ht hi hz hsize hby base v n xs hown hall ad c u hu h0 h1 hif h63 hbase
 unfold Oper.wp execOp
 simp only [ho, resolve, invoke, builtin, Sem.run_bind, Sem.run_pure, Result.andThen_ok, List.map_toArray, List.map_cons, List.map_nil, hs, hx, hr]
 exact hK _ _ (h g cap w' h2 h3 (by rw [← hH]; exact h4) h5 h6)
end Go.Proofs.YtceggplnggkdnaaGreatDoor
namespace Go.Proofs.YtceggplnggkdnaaGreatDoor
open Go.RowKit NatP LexP Go.ChangeMaps
def NoBU (w : World) (q : Nat) : Prop := ∀ o, (∀ b, w.cell? ⟨q, o, none⟩ ≠ some (.bool b)) ∧ ∀ x, w.cell? ⟨q, o, none⟩ ≠ some (.int .u64 x)
theorem IfB.no {w : World} {q : Nat} (h : IfB w q) : NoBU w q := fun o => ⟨fun b e => (by rcases h o _ e with h | ⟨t, x, h⟩ <;> cases h), fun x e => (by rcases h o _ e with h | ⟨t, x, h⟩ <;> cases h)⟩
theorem Rd.stay {w w' : World} {v : Value} {xs : List Nat} {q : Nat} (h : Rd w v xs) (hq : NoBU w q) (hg : w.grownBy w' (some q)) : Rd w' v xs := by
 obtain ⟨c0, ao, cap, rfl, c1, c2, c3, c4⟩ := h
 refine ⟨fun k hk => Nat.lt_of_lt_of_le (c0 k hk) hg.size, ao, cap, rfl, c1, c2, c3, fun i x hx => ?_⟩
 obtain ⟨g2, o2, rfl, c5⟩ := c4 i x hx
 refine ⟨g2, o2, rfl, ?_⟩
 have hlt := World.block_lt_of_cell? w _ c5
 have hne : g2 ≠ q := by
  intro e
  subst e
  exact (hq _).2 _ c5
 exact (World.cell?_of_block (hg.block g2 hlt (fun e => hne (by cases e; rfl)))).trans c5
theorem VR.stay {w w' : World} {v : Value} {x : SynP.Vl} {q : Nat} (h : VR w v x) (hq : NoBU w q) (hg : w.grownBy w' (some q)) : VR w' v x := by
 cases x with
 | num p => obtain ⟨m, xs, e, h1, h2⟩ := h; exact ⟨m, xs, e, h1.stay hq hg, h2⟩
 | mat m => obtain ⟨av, e, h1, h2⟩ := h; exact ⟨av, e, h1.stay hq hg, h2⟩
 | cpx l => exact h.elim
theorem VR.isIf {w : World} {v : Value} {x : SynP.Vl} (h : VR w v x) : IsIf v := by obtain ⟨t, u, e⟩ := h.iface; exact .inr ⟨t, u, e⟩
theorem VR.one {w : World} {v : Value} {x : SynP.Vl} (h : VR w v x) : v.oneCell' = true := by obtain ⟨t, u, rfl⟩ := h.iface; rfl
def VsR (w : World) (B : Nat) (v : Value) (vs : List SynP.Vl) : Prop := ∃ us, us.length = vs.length ∧ w.ownsRow B 72 1 v vs.length us ∧ (∀ g, v.ownBlock = some g → IfB w g) ∧ ∀ (j : Nat) (u : Value) (x : SynP.Vl), us[j]? = some u → vs[j]? = some x → VR w u x
theorem VsR.nil (w : World) (B : Nat) : VsR w B (.slice none 0 0) [] := ⟨[], rfl, World.ownsRow_nil _ _ _ _, fun g h => (by cases h), fun j u x h => by simp at h⟩
theorem VsR.below {w w' : World} {B : Nat} {v : Value} {vs : List SynP.Vl} (h : VsR w B v vs) (hb : Below w.heap.size w w') : VsR w' B v vs := by
 obtain ⟨us, h1, h2, h3, h4⟩ := h
 refine ⟨us, h1, h2.kept (row := none) ⟨hb.os, hb.tape, hb.output, hb.size, fun k hk _ => hb.block k hk⟩ ?_, fun g hg => (h3 g hg).kept (hb.block g (h2.lt g hg).2), fun j u x a b => (h4 j u x a b).below hb⟩
 cases h : v.ownBlock with
 | none => exact .inl rfl
 | some q => exact .inr (by simp)
theorem VsR.at_ {w : World} {B : Nat} {v : Value} {vs : List SynP.Vl} (h : VsR w B v vs) {j : Nat} {x : SynP.Vl} (hx : vs[j]? = some x) : ∃ g cap u, v = .slice (some ⟨g, 0, none⟩) vs.length cap ∧ w.cell? ⟨g, j, none⟩ = some u ∧ VR w u x ∧ j < vs.length := by
 obtain ⟨us, h1, h2, h3, h4⟩ := h
 have hj := (List.getElem?_eq_some_iff.1 hx).1
 obtain ⟨g, cap, rfl, -, -⟩ := h2.form (by omega)
 obtain ⟨u, hu⟩ : ∃ u, us[j]? = some u := ⟨_, List.getElem?_eq_getElem (by omega)⟩
 exact ⟨g, cap, u, rfl, (h2.cellAt j (by omega)).trans hu, h4 j u x hu hx, hj⟩
theorem VsR.shape {w : World} {B : Nat} {v : Value} {vs : List SynP.Vl} (h : VsR w B v vs) : ∃ ao cap, v = .slice ao vs.length cap := by
 obtain ⟨us, h1, h2, -⟩ := h
 obtain ⟨ao, cap, e, -⟩ := ownsRow_shape h2
 exact ⟨ao, cap, e⟩
theorem VR.grow {w w' : World} {v u : Value} {x : SynP.Vl} (h : VR w u x) (h3 : ∀ g, v.ownBlock = some g → IfB w g) (hg : w.grownBy w' v.ownBlock) : VR w' u x := by
 cases hq : v.ownBlock with
 | none =>
  rw [hq] at hg
  exact h.below ⟨hg.os, hg.tape, hg.output, hg.size, fun k hk => hg.block k hk (by simp)⟩
 | some q =>
  rw [hq] at hg
  exact h.stay (h3 q hq).no hg
theorem VsR.push {w w' : World} {B g cap : Nat} {v u : Value} {vs : List SynP.Vl} {us : List Value} {x : SynP.Vl} (h1 : us.length = vs.length) (h3 : ∀ g, v.ownBlock = some g → IfB w g) (h4 : ∀ (j : Nat) (u : Value) (x : SynP.Vl), us[j]? = some u → vs[j]? = some x → VR w u x) (hx : VR w u x)
  (hown : w'.ownsRow B 72 1 (.slice (some ⟨g, 0, none⟩) (vs.length + 1) cap) (vs.length + 1) (us ++ [u])) (hgr : w.grownBy w' v.ownBlock) (hif : IfB w' g) : VsR w' B (.slice (some ⟨g, 0, none⟩) (vs.length + 1) cap) (vs ++ [x]) := by
 refine ⟨us ++ [u], by simp [h1], by rw [List.length_append]; exact hown, fun q hq => by cases hq; exact hif, fun j a b ha hb => ?_⟩
 rw [List.getElem?_append] at ha hb
 rw [← h1] at hb
 split at ha
 ·rename_i hlt
  rw [if_pos hlt] at hb
  exact (h4 j a b ha hb).grow h3 hgr
 ·rename_i hlt
  rw [if_neg hlt] at hb
  have e : j - us.length = 0 := by have := (List.getElem?_eq_some_iff.1 ha).1; simp at this; omega
  rw [e] at ha hb
  cases ha
  cases hb
  exact hx.grow h3 hgr
def KdR (w : World) (W : Nat) (v : Value) (ks : List Nat) : Prop := ∃ ao cap, v = .slice ao ks.length cap ∧ ks.length ≤ cap ∧ cap ≤ maxLen ∧ (0 < ks.length → ∃ g, ao = some ⟨g, 0, none⟩ ∧ g < W ∧ ∀ j k, ks[j]? = some k → w.cell? ⟨g, j, none⟩ = some (.int .i64 (k : Nat)))
theorem KdR.below {w w' : World} {W : Nat} {v : Value} {ks : List Nat} (h : KdR w W v ks) (hb : Below W w w') : KdR w' W v ks := by
 obtain ⟨ao, cap, e, h1, h2, h3⟩ := h
 refine ⟨ao, cap, e, h1, h2, fun h0 => ?_⟩
 obtain ⟨g, rfl, a2, a3⟩ := h3 h0
 exact ⟨g, rfl, a2, fun j k hj => (hb.cell (p := ⟨g, j, none⟩) a2).trans (a3 j k hj)⟩
def partsV (vs : List SynP.Vl) (ks : List Nat) : List SynP.Vl := ks.filterMap fun k => vs[k]?
theorem partsV_snoc {vs : List SynP.Vl} {ks : List Nat} {j k : Nat} {x : SynP.Vl} (hk : ks[j]? = some k) (hx : vs[k]? = some x) : partsV vs (ks.take (j + 1)) = partsV vs (ks.take j) ++ [x] := by
 unfold partsV
 rw [List.take_add_one, hk]
 simp [List.filterMap_append, hx]
theorem Tryz.infoIf : (Tryz.prog.info? 72).map (fun i => (i.zero, i.size, i.bytes)) = some (some .nilIface, 1, 16) := by kernel_rfl
set_option maxRecDepth 100000 in
set_option maxHeartbeats 2000000 in
theorem parts_any (W B : Nat) (ev tv vv kv : Value) (op : Nat) (tx : ByteArray) (vs : List SynP.Vl) (ks : List Nat) (w : World) (hW : w.heap[W]? = some (.cells #[ev, tv, vv] 67 (0, 0))) (hV : VsR w B vv vs) (hK : KdR w W kv ks) (hks : ∀ k ∈ ks, k < vs.length) (hn : ks.length ≤ 100000) :
  Calls Tryz.prog 54 #[.pointer (some ⟨W, 0, none⟩), .agg #[.int .i64 (op : Nat), .string tx, kv]] w
   (fun e w' => ∃ pv, e = .returned pv ∧ VsR w' (w.heap.size + 1) pv (partsV vs ks) ∧ Below w.heap.size w w') := by
 obtain ⟨i0, hi0, hz0, hz1, hz2⟩ := info_parts Tryz.infoIf
 have HW := Lib.hid hW
 have HV := Lib.hid hV
 have HK := Lib.hid hK
 have HKS := Lib.hid hks
 have hWl := (Array.getElem?_eq_some_iff.1 hW).1
 obtain ⟨ao, cap, rfl, k1, k2, k3⟩ := hK
 obtain ⟨vo, vcap, hvv⟩ := hV.shape
 subst hvv
 obtain ⟨n, hnn⟩ : ∃ n, n = ks.length := ⟨_, rfl⟩
 rw [← hnn] at k1 hn ⊢
 have HN := Lib.hid hnn
 have HA := Lib.hid (below_alloc w (.cells #[.int .i64 (op : Nat), .string tx, .slice ao n cap] 70))
 clear hW hV hks k3 hnn
 go_enter Tryz.func54, Tryz.ntmps54
 go_wp2_with fail
 obtain ⟨w1, hw1⟩ : ∃ w1, w1 = w.alloc (.cells #[.int .i64 (op : Nat), .string tx, .slice ao n cap] 70) := ⟨_, rfl⟩
 have S1 : Hid (w1.heap.size = w.heap.size + 1) := by show _ = _; rw [hw1, World.size_alloc]
 rw [← hw1] at HA ⊢
 clear hw1
 go_loopw [5, 11] (fun lv iv wr => ∃ k : Nat, k ≤ n ∧ iv = .int .i64 (k : Nat) ∧ VsR wr (w.heap.size + 1) lv (partsV vs (ks.take k)) ∧ (partsV vs (ks.take k)).length = k ∧ Below w.heap.size w wr ∧ w1.heap.size ≤ wr.heap.size) (fun _ iv _ => n - (intOf iv).toNat)
 case atStart => exact ⟨0, Nat.zero_le _, rfl, VsR.nil _ _, rfl, HA.out, Nat.le_refl _⟩
 case round =>
  obtain ⟨k, hk, rfl, hl, hll, hb, hsz⟩ := hrel
  have HL := Lib.hid hl
  have HLL := Lib.hid hll
  have HB := Lib.hid hb
  obtain ⟨lo, lcap, hlv⟩ := hl.shape
  subst hlv
  rw [hll] at HL ⊢
  clear hl hll hb
  by_cases hlt : k < n
  ·obtain ⟨i, hi⟩ : ∃ i, ks[k]? = some i := ⟨_, List.getElem?_eq_getElem (by have := HN.out; omega)⟩
   have hiv : i < vs.length := HKS.out i (List.mem_of_getElem? hi)
   obtain ⟨x, hx⟩ : ∃ x, vs[i]? = some x := ⟨_, List.getElem?_eq_getElem hiv⟩
   obtain ⟨g, c2, u, e1, e2, e3, e4⟩ := HV.out.at_ hx
   simp only [Value.slice.injEq] at e1
   obtain ⟨rfl, -, rfl⟩ := e1
   obtain ⟨ao', cap', ek, -, -, a3⟩ := HK.out
   simp only [Value.slice.injEq] at ek
   obtain ⟨rfl, -, rfl⟩ := ek
   obtain ⟨gk, hgk, -, a4⟩ := a3 (by have := HN.out; omega)
   subst hgk
   have c0 := cell_keep HB.out (a4 k i hi)
   have c1 : wr.cell? ⟨W, 2, none⟩ = some (.slice (some ⟨g, 0, none⟩) vs.length vcap) := cell_keep HB.out ((cell_of_row _ _ _ _ _ _ HW.out).trans rfl)
   have c3 := cell_keep HB.out e2
   have HX := Lib.hid e3
   obtain ⟨ut, ux, hux⟩ := e3.iface
   subst hux
   have hif := e3.isIf
   have hone := e3.one
   obtain ⟨us, u1, u2, u3, u4⟩ := HL.out
   have U1 := Lib.hid u1
   have U2 := Lib.hid u2
   have U3 := Lib.hid u3
   have U4 := Lib.hid u4
   have hpl := HLL.out
   rw [hpl] at U1 U2
   have HSN := Lib.hid (partsV_snoc hi hx)
   have HA2 := Lib.hid (below_alloc wr (.cells #[.iface ut ux] 72))
   have W0 := Lib.hid (heap_alloc_new wr (.cells #[.iface ut ux] 72))
   have hs1 := S1.out
   clear u1 u2 u3 u4 a3 a4 e2 e3 hx hi hpl
   go_wp2_with (at_builtin; go_loud (refine wpList_append_if _ rfl (.tmp 15) (.tmp 23) 65 rfl 72 i0 Tryz.underlying65 hi0 hz0 hz1 hz2 (w.heap.size + 1) (.slice lo k lcap) k us rfl (U2.out.alloc _) (fun q hq => (U3.out q hq).kept (HA2.out.block q (U2.out.lt q hq).2)) ⟨wr.heap.size, 0, none⟩ 1 (.iface ut ux) rfl ((cell_of_row _ _ _ _ _ _ W0.out).trans rfl) rfl hone hif (by omega) (by simp; omega) (wr.heap.size + 1) (by simp) ?_; intro g2 cap2 w7 hown2 hgr hat hlt2 hifb; have Hown2 := Lib.hid hown2; have Hgr := Lib.hid hgr; have Hifb := Lib.hid hifb; clear hown2 hgr hat hlt2 hifb))
   have hfin : ∃ k' : Nat, k' ≤ n ∧ (Value.int .i64 ((k : Int) + 1)) = .int .i64 (k' : Nat) ∧ VsR w7 (w.heap.size + 1) (.slice (some ⟨g2, 0, none⟩) (k + 1) cap2) (partsV vs (ks.take k')) ∧ (partsV vs (ks.take k')).length = k' ∧ Below w.heap.size w w7 ∧ w1.heap.size ≤ w7.heap.size := by
    have hpl := HLL.out
    refine ⟨k + 1, by omega, by go_num, ?_, by rw [HSN.out, List.length_append, hpl]; rfl, ?_, ?_⟩
    ·rw [HSN.out]
     have hp := VsR.push (w := wr.alloc (.cells #[.iface ut ux] 72)) (w' := w7) (B := w.heap.size + 1) (g := g2) (cap := cap2) (v := .slice lo k lcap) (u := .iface ut ux) (vs := partsV vs (ks.take k)) (us := us) (x := x) (by rw [hpl]; exact U1.out) (fun q hq => (U3.out q hq).kept (HA2.out.block q (U2.out.lt q hq).2)) (fun j a b h1 h2 => (U4.out j a b h1 h2).below HA2.out) ((HX.out.below HB.out).below HA2.out) (by rw [hpl]; exact Hown2.out) Hgr.out Hifb.out
     rw [hpl] at hp
     exact hp
    ·have h1 : Below w.heap.size w (wr.alloc (.cells #[.iface ut ux] 72)) := HB.out.trans (HA2.out.mono HB.out.size)
     exact Below.grown h1 Hgr.out h1.size (fun q hq => by have := (U2.out.lt q hq).1; omega)
    ·have := Hgr.out.size
     simp at this; omega
   exact ⟨hfin, by simp [intOf]; omega⟩
  ·obtain rfl : k = n := by omega
   have HT : Hid (ks.take k = ks) := by show _ = _; rw [List.take_of_length_le (by have := HN.out; omega)]
   go_wp2_with fail
   go_ret
   refine ⟨_, rfl, ?_, HB.out⟩
   have := HL.out
   rw [HT.out] at this
   exact this
end Go.Proofs.YtceggplnggkdnaaGreatDoor
namespace Go.Proofs.YtceggplnggkdnaaGreatDoor
open Go.RowKit NatP LexP Go.ChangeMaps
def OkP (v : SynP.Vl) (w : World) (e : Ending) (w' : World) : Prop := ∃ u, e = .returned (.tuple #[u, .nilIface]) ∧ VR w' u v ∧ Below w.heap.size w w'
theorem readM_ok {t : Bytes} {m : SynP.MatV} (h : SynP.readM t = .ok m) : SynP.MatOk m := by
 unfold SynP.readM at h
 split at h
 ·cases h
 ·rename_i ts hT
  split at h
  ·cases h
  ·split at h <;> cases h
  ·rename_i m' s' hb
   cases h
   rcases hm : SynP.matrix ((chars t).length + 1) (ts.length + 3) ⟨ts, 0⟩ with - | (e | ⟨m2, s2⟩)
   ·rw [hm] at hb; cases hb
   ·rw [hm] at hb; cases hb
   ·rw [hm] at hb
    have h2 := SynP.matrix_ok hm
    have h3 : m2 = m := by
     simp only [SynP.PR.bind] at hb
     unfold SynP.done at hb
     split at hb <;> first | (cases hb; rfl) | cases hb
    rw [← h3]; exact h2
set_option maxRecDepth 100000 in
set_option maxHeartbeats 4000000 in
theorem node_mat (W B : Nat) (ev tv vv kv : Value) (tx : Bytes) (vs : List SynP.Vl) (ks : List Nat) (w : World) (hW : w.heap[W]? = some (.cells #[ev, tv, vv] 67 (0, 0))) (hV : VsR w B vv vs) (hK : KdR w W kv ks) (hks : ∀ k ∈ ks, k < vs.length) (hn : ks.length ≤ 100000)
  (ht : tx.length ≤ 67108864) (hx : Lx w) (hs : SG w) (hsz : 6 < w.heap.size) (m : SynP.MatV) (hm : SynP.readM tx = .ok m) :
  Calls Tryz.prog 34 #[.pointer (some ⟨W, 0, none⟩), .agg #[.int .i64 3, .string ⟨tx.toArray⟩, kv]] w (OkP (.mat m) w) := by
 have hb := below_alloc w (.cells #[.int .i64 3, .string ⟨tx.toArray⟩, kv] 70)
 have hb0 := heap_alloc_new w (.cells #[.int .i64 3, .string ⟨tx.toArray⟩, kv] 70)
 have HB := Lib.hid hb
 have HB0 := Lib.hid hb0
 have HP := Lib.hid (parts_any W B ev tv vv kv 3 ⟨tx.toArray⟩ vs ks _ (blk_keep hb hW) (hV.below hb) (hK.below (hb.mono (Nat.le_of_lt (Array.getElem?_eq_some_iff.1 hW).1))) hks hn)
 have HMO := Lib.hid (readM_ok hm)
 have HX := Lib.hid (hx.below hb)
 have HSG := Lib.hid (hs.below hb hsz)
 have HSZ : Hid (6 < (w.alloc (.cells #[.int .i64 3, .string ⟨tx.toArray⟩, kv] 70)).heap.size) := Nat.lt_of_lt_of_le hsz hb.size
 have HM := Lib.hid hm
 obtain ⟨ko, kcap, rfl, -, -, -⟩ := hK
 obtain ⟨T, hT⟩ : ∃ T : ByteArray, T = ⟨tx.toArray⟩ := ⟨_, rfl⟩
 rw [← hT] at HB0 HB HP HX HSG HSZ ⊢
 have HT := Lib.hid hT
 obtain ⟨g, hg⟩ : ∃ g, g = w.heap.size := ⟨_, rfl⟩
 have HG := Lib.hid hg
 clear hb hb0 hW hV hks hx hs hsz hm hT
 go_enter Tryz.func34, Tryz.ntmps34
 go_wp2_with fail
 refine HP.out.mono ?_
 rintro e w2 ⟨pv, rfl, hp, hb2⟩
 obtain ⟨po, pcap, hpv⟩ := hp.shape
 subst hpv
 have HB2 := Lib.hid (HB.out.trans (hb2.mono HB.out.size))
 have K0 := blk_keep hb2 HB0.out
 rw [← hg] at K0 ⊢
 have c0 : w2.cell? ⟨g, 0, none⟩ = some (.int .i64 3) := (cell_of_row _ _ _ _ _ _ K0).trans rfl
 have c1 : w2.cell? ⟨g, 1, none⟩ = some (.string T) := (cell_of_row _ _ _ _ _ _ K0).trans rfl
 have HX2 := Lib.hid (HX.out.below hb2)
 have HSG2 := Lib.hid (HSG.out.below hb2 HSZ.out)
 have HSZ2 : Hid (6 < w2.heap.size) := Nat.lt_of_lt_of_le HSZ.out hb2.size
 clear hp hb2 K0 hg
 go_wp2_with fail
 rw [HT.out]
 refine (readMat_any tx w2 ht HX2.out HSG2.out HSZ2.out).mono ?_
 intro e w3 hr
 unfold RmPost at hr
 rw [HM.out] at hr
 obtain ⟨av, rfl, hb3, hi⟩ := hr
 have HI := Lib.hid hi
 obtain ⟨ao, acap, hav, -⟩ := hi
 subst hav
 rw [← HT.out]
 have HB3 := Lib.hid (HB2.out.trans (hb3.mono HB2.out.size))
 clear hb3 c0 c1
 go_wp2_with fail
 go_quiet ((go_at_call 56; exact Calls.quiet_of_same (fail_ok _)))
 go_wp2_with fail
 go_ret2
 have W7 := (below_alloc w3 (.cells #[.int .i64 (m.rows : Nat), .int .i64 (m.cols : Nat), .slice ao m.at_.length acap] 54)).trans ((below_drewN (w3.alloc (.cells #[.int .i64 (m.rows : Nat), .int .i64 (m.cols : Nat), .slice ao m.at_.length acap] 54)) nq).mono (below_alloc w3 _).size)
 exact ⟨_, rfl, ⟨_, rfl, HI.out.below W7, HMO.out.1, HMO.out.2.1, HMO.out.2.2.1⟩, HB3.out.trans (W7.mono HB3.out.size)⟩
end Go.Proofs.YtceggplnggkdnaaGreatDoor
namespace Go.Proofs.YtceggplnggkdnaaGreatDoor
open Go.RowKit NatP LexP Go.ChangeMaps
theorem zero_if (w : World) : (zeroValue 72).run Tryz.prog w = .ok .nilIface w := by kernel_rfl
set_option maxRecDepth 100000 in
set_option maxHeartbeats 4000000 in
theorem node_name (W B E M : Nat) (tv vv kv : Value) (tx : Bytes) (vs : List SynP.Vl) (ks : List Nat) (t : SynP.Nms) (w : World) (hW : w.heap[W]? = some (.cells #[.pointer (some ⟨E, 0, none⟩), tv, vv] 67 (0, 0))) (hV : VsR w B vv vs) (hK : KdR w W kv ks) (hks : ∀ k ∈ ks, k < vs.length) (hn : ks.length ≤ 100000)
  (hT : Tb w E M t) (x : SynP.Vl) (hx : t.get tx = some x) :
  Calls Tryz.prog 34 #[.pointer (some ⟨W, 0, none⟩), .agg #[.int .i64 2, .string ⟨tx.toArray⟩, kv]] w (OkP x w) := by
 have hb := below_alloc w (.cells #[.int .i64 2, .string ⟨tx.toArray⟩, kv] 70)
 have hb0 := heap_alloc_new w (.cells #[.int .i64 2, .string ⟨tx.toArray⟩, kv] 70)
 have HB := Lib.hid hb
 have HB0 := Lib.hid hb0
 have HP := Lib.hid (parts_any W B _ tv vv kv 2 ⟨tx.toArray⟩ vs ks _ (blk_keep hb hW) (hV.below hb) (hK.below (hb.mono (Nat.le_of_lt (Array.getElem?_eq_some_iff.1 hW).1))) hks hn)
 have HT := Lib.hid hT
 have HW := Lib.hid hW
 have HX := Lib.hid hx
 obtain ⟨ko, kcap, rfl, -, -, -⟩ := hK
 obtain ⟨T, hT2⟩ : ∃ T : ByteArray, T = ⟨tx.toArray⟩ := ⟨_, rfl⟩
 rw [← hT2] at HB0 HB HP ⊢
 have HTT := Lib.hid hT2
 obtain ⟨g, hg⟩ : ∃ g, g = w.heap.size := ⟨_, rfl⟩
 clear hb hb0 hW hV hks hx hT hT2
 go_enter Tryz.func34, Tryz.ntmps34
 go_wp2_with fail
 refine HP.out.mono ?_
 rintro e w2 ⟨pv, rfl, hp, hb2⟩
 obtain ⟨po, pcap, hpv⟩ := hp.shape
 subst hpv
 have HB2 := Lib.hid (HB.out.trans (hb2.mono HB.out.size))
 have K0 := blk_keep hb2 HB0.out
 rw [← hg] at K0 ⊢
 have c0 : w2.cell? ⟨g, 0, none⟩ = some (.int .i64 2) := (cell_of_row _ _ _ _ _ _ K0).trans rfl
 have c1 : w2.cell? ⟨g, 1, none⟩ = some (.string T) := (cell_of_row _ _ _ _ _ _ K0).trans rfl
 have c2 : w2.cell? ⟨W, 0, none⟩ = some (.pointer (some ⟨E, 0, none⟩)) := cell_keep HB2.out ((cell_of_row _ _ _ _ _ _ HW.out).trans rfl)
 obtain ⟨-, t1, es, clock, t2, t3⟩ := HT.out.below HB2.out
 have c3 : w2.cell? ⟨E, 0, none⟩ = some (.map (some M)) := (cell_of_row _ _ _ _ _ _ t1).trans rfl
 obtain ⟨i, u, v, a1, a2, hlk⟩ | ⟨a1, -⟩ := run_look_s (P := Tryz.prog) (t := 58) (w := w2.drew) Tryz.underlying58 Tryz.underlying9 t2 t3 (zero_if w2.drew) tx
 ·have hu : u = x := by
   have := HX.out
   unfold SynP.Nms.get at this
   rw [a1] at this
   simpa using this
  subst hu
  have HV := Lib.hid a2
  rw [← HTT.out] at hlk
  clear hp hb2 K0 hg t1 t2 t3 a1 a2
  go_wp2_with fail
  go_region
  go_wp2_with fail
  go_ret2
  exact ⟨_, rfl, HV.out.below (Below.drew (Below.refl _ _)), Below.drew HB2.out⟩
 ·have := HX.out
  unfold SynP.Nms.get at this
  rw [a1] at this
  cases this
theorem partsV_at {vs : List SynP.Vl} {k0 k1 : Nat} {x y : SynP.Vl} (h0 : vs[k0]? = some x) (h1 : vs[k1]? = some y) : partsV vs [k0, k1] = [x, y] := by simp [partsV, h0, h1]
set_option maxRecDepth 100000 in
set_option maxHeartbeats 4000000 in
theorem node_mul (W B : Nat) (ev tv vv kv : Value) (tx : ByteArray) (vs : List SynP.Vl) (k0 k1 : Nat) (w : World) (hW : w.heap[W]? = some (.cells #[ev, tv, vv] 67 (0, 0))) (hV : VsR w B vv vs) (hK : KdR w W kv [k0, k1])
  (a b : SynP.MatV) (ha : vs[k0]? = some (.mat a)) (hb : vs[k1]? = some (.mat b)) (c : SynP.Vl) (hc : SynP.mulV a b = .ok c) :
  Calls Tryz.prog 34 #[.pointer (some ⟨W, 0, none⟩), .agg #[.int .i64 8, .string tx, kv]] w (OkP c w) := by
 have hw := below_alloc w (.cells #[.int .i64 8, .string tx, kv] 70)
 have hw0 := heap_alloc_new w (.cells #[.int .i64 8, .string tx, kv] 70)
 have HB := Lib.hid hw
 have HB0 := Lib.hid hw0
 have HP := Lib.hid (parts_any W B ev tv vv kv 8 tx vs [k0, k1] _ (blk_keep hw hW) (hV.below hw) (hK.below (hw.mono (Nat.le_of_lt (Array.getElem?_eq_some_iff.1 hW).1))) (by intro k hk; simp only [List.mem_cons, List.not_mem_nil, or_false] at hk; rcases hk with rfl | rfl <;> first | exact (List.getElem?_eq_some_iff.1 ha).1 | exact (List.getElem?_eq_some_iff.1 hb).1) (by simp))
 have HPV := Lib.hid (partsV_at ha hb)
 have HC := Lib.hid hc
 obtain ⟨ko, kcap, rfl, -, -, -⟩ := hK
 obtain ⟨g, hg⟩ : ∃ g, g = w.heap.size := ⟨_, rfl⟩
 clear hw hw0 hW hV ha hb hc
 go_enter Tryz.func34, Tryz.ntmps34
 go_wp2_with fail
 refine HP.out.mono ?_
 rintro e w2 ⟨pv, rfl, hp, hb2⟩
 rw [HPV.out] at hp
 obtain ⟨pg, pcap, u0, hpv, p0, q0, -⟩ := hp.at_ (j := 0) (x := .mat a) rfl
 obtain ⟨pg1, pcap1, u1, hpv1, p1, q1, -⟩ := hp.at_ (j := 1) (x := .mat b) rfl
 subst hpv
 simp only [Value.slice.injEq, Option.some.injEq, Addr.mk.injEq] at hpv1
 obtain ⟨⟨rfl, -, -⟩, -, rfl⟩ := hpv1
 obtain ⟨av, e1, i1, r1, c1, l1⟩ := q0
 obtain ⟨bv, e2, i2, r2, c2, l2⟩ := q1
 subst e1 e2
 obtain ⟨ao, acap, hav, -⟩ := id i1
 obtain ⟨bo, bcap, hbv, -⟩ := id i2
 subst hav hbv
 have MA : Hid (MRd w2 a ao a.at_.length acap) := ⟨i1, rfl, r1, c1, l1⟩
 have MB : Hid (MRd w2 b bo b.at_.length bcap) := ⟨i2, rfl, r2, c2, l2⟩
 have HB2 := Lib.hid (HB.out.trans (hb2.mono HB.out.size))
 have K0 := blk_keep hb2 HB0.out
 rw [← hg] at K0 ⊢
 have c0 : w2.cell? ⟨g, 0, none⟩ = some (.int .i64 8) := (cell_of_row _ _ _ _ _ _ K0).trans rfl
 clear hp hb2 K0 hg i1 i2 r1 r2 c1 c2 l1 l2
 go_wp2_with fail
 go_region_held3 (fun w' => w'.cell? ⟨pg, 0, none⟩ = some (.iface 122 (.agg #[.int .i64 (a.rows : Nat), .int .i64 (a.cols : Nat), .slice ao a.at_.length acap])) ∧ w'.cell? ⟨pg, 1, none⟩ = some (.iface 122 (.agg #[.int .i64 (b.rows : Nat), .int .i64 (b.cols : Nat), .slice bo b.at_.length bcap])))
  (first
   | (refine ⟨?_, ?_⟩ <;> go_keep)
   | exact ⟨cell_keep b1 p0, cell_keep b1 p1⟩)
  (first
   | (go_at_call 61; refine (product_mm a b ao bo _ _ acap bcap _ (by exact MA.out.below (Below.drew (Below.refl _ _))) (by exact MB.out.below (Below.drew (Below.refl _ _)))).mono ?_; rw [HC.out]; rintro e w3 ⟨u, rfl, hu, b1⟩))
 have HU := Lib.hid hu
 have HB3 : Hid (Below w.heap.size w w3) := HB2.out.drew.trans (b1.mono HB2.out.size)
 clear hu b1 p0 p1 c0
 go_wp2_with fail
 go_ret2
 exact ⟨_, rfl, HU.out, HB3.out⟩
end Go.Proofs.YtceggplnggkdnaaGreatDoor
