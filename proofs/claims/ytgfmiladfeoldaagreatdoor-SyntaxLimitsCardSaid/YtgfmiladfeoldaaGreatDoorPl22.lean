/- Joined texts of this claim's proof: RdB, RdP, RdC, RdD, RdE. -/
import Derived.Test.YtgfmiladfeoldaaGreatDoorPl21
set_option linter.unusedSimpArgs false
set_option linter.unusedVariables false
namespace Go.Proofs.YtgfmiladfeoldaaGreatDoor
open Go.RowKit NatP LexP
def FaultE (c k : Nat) : Ending := .panicked [{ v := .iface 81 (.agg #[.int .i64 (c : Nat), .int .i64 (k : Nat)]), recovered := false }]
set_option maxRecDepth 100000 in
theorem rd_unfit (R : Nat) (lv : Value) (L : List Tok) (fin a : Nat) (s : SynP.St) (nv : Value) (ns : List Nv) (w : World) (h : RS w R lv L fin a s nv ns) :
  Calls Tryz.prog 56 #[.pointer (some ⟨R, 0, none⟩)] w fun e w' => e = FaultE (SynP.colOf fin s.ts) 14 ∧ Below w.heap.size w w' := by
 have H := Lib.hid h
 clear h
 go_enter Tryz.func56, Tryz.ntmps56
 go_wp2_with fail
 refine (rd_col R lv L fin a s nv ns _ H.out).mono ?_
 rintro e w1 ⟨rfl, hb⟩
 have HB := Lib.hid hb
 clear hb
 go_wp2_with fail
 exact ⟨rfl, rfl, HB.out⟩
def RB {α : Type} (r : SynP.PR α) (R : Nat) (lv : Value) (L : List Tok) (fin : Nat) (s : SynP.St) (nv : Value) (ns : List Nv) (Q : α → Value → World → Prop) (w : World) (e : Ending) (w' : World) : Prop :=
 match r with
 | none => False
 | some (.error (c, k)) => e = FaultE c k ∧ Wr R none w w'
 | some (.ok (x, s')) => ∃ v a', e = .returned v ∧ RS w' R lv L fin a' s' nv ns ∧ Wr R none w w' ∧ s'.ts.length ≤ s.ts.length ∧ Q x v w'
theorem tail_le (s : SynP.St) : s.adv.ts.length ≤ s.ts.length := by
 show s.ts.tail.length ≤ _; rw [List.length_tail]; omega
set_option maxRecDepth 100000 in
theorem rd_want (R : Nat) (lv : Value) (L : List Tok) (fin a : Nat) (s : SynP.St) (nv : Value) (ns : List Nv) (w : World) (h : RS w R lv L fin a s nv ns) (x : Bytes) :
  Calls Tryz.prog 96 #[.pointer (some ⟨R, 0, none⟩), .string ⟨x.toArray⟩] w (RB (SynP.want fin x s) R lv L fin s nv ns (fun _ v _ => v = .tuple #[]) w) := by
 have H := Lib.hid h
 clear h
 cases hm : SynP.isMark x s.ts with
 | false =>
  have HM := Lib.hid hm
  clear hm
  go_enter Tryz.func96, Tryz.ntmps96
  go_wp2_with fail
  refine (rd_take R lv L fin a s nv ns _ H.out x).mono ?_
  rintro e w1 ⟨rfl, b1, b2⟩
  rw [if_neg (by rw [HM.out]; decide)] at b2
  rw [HM.out]
  have HB1 := Lib.hid b1
  have HB2 := Lib.hid b2
  clear b1 b2
  go_wp2_with fail
  refine (rd_unfit R lv L fin a s nv ns _ HB2.out).mono ?_
  rintro e w2 ⟨rfl, b3⟩
  have HB3 := Lib.hid b3
  clear b3
  refine ⟨rfl, ?_⟩
  unfold SynP.want
  rw [if_neg (by rw [HM.out]; decide)]
  exact ⟨rfl, HB1.out.trans (Mv.refl _ _) (Wr.of_below HB3.out)⟩
 | true =>
  have HM := Lib.hid hm
  clear hm
  go_enter Tryz.func96, Tryz.ntmps96
  go_wp2_with fail
  refine (rd_take R lv L fin a s nv ns _ H.out x).mono ?_
  rintro e w1 ⟨rfl, b1, b2⟩
  rw [if_pos HM.out] at b2
  rw [HM.out]
  have HB1 := Lib.hid b1
  have HB2 := Lib.hid b2
  clear b1 b2
  go_wp2_with fail
  go_end0
  show RB (SynP.want fin x s) _ _ _ _ _ _ _ _ _ _ _
  unfold SynP.want
  rw [if_pos HM.out]
  exact ⟨_, _, rfl, HB2.out, HB1.out, tail_le s, rfl⟩
set_option maxRecDepth 100000 in
theorem rd_name (R : Nat) (lv : Value) (L : List Tok) (fin a : Nat) (s : SynP.St) (nv : Value) (ns : List Nv) (w : World) (h : RS w R lv L fin a s nv ns) :
  Calls Tryz.prog 95 #[.pointer (some ⟨R, 0, none⟩)] w (RB (SynP.name fin s) R lv L fin s nv ns (fun x v _ => v = .string ⟨x.toArray⟩) w) := by
 have H := Lib.hid h
 have hc := comes_kind 2 [] s.ts (by decide)
 cases hm : SynP.isKind 2 s.ts with
 | false =>
  rw [hm] at hc
  have HM := Lib.hid hm
  have HC := Lib.hid hc
  clear hm hc h
  go_enter Tryz.func95, Tryz.ntmps95
  go_wp2_with fail
  refine (rd_comes R lv L fin a s nv ns _ H.out 0 2 [] (by omega) (by omega)).mono ?_
  rintro e w1 ⟨rfl, b1⟩
  rw [HC.out]
  have HB1 := Lib.hid b1
  clear b1
  go_wp2_with fail
  refine (rd_unfit R lv L fin a s nv ns _ (H.out.below HB1.out)).mono ?_
  rintro e w2 ⟨rfl, b3⟩
  refine ⟨rfl, ?_⟩
  unfold SynP.name
  rw [if_neg (by rw [HM.out]; decide)]
  exact ⟨rfl, (Wr.of_below HB1.out).trans (Mv.refl _ _) (Wr.of_below b3)⟩
 | true =>
  rw [hm] at hc
  obtain ⟨c0, c1, -, -, -⟩ := h.cells
  obtain ⟨ao, cap, rfl, t1, t2, t3⟩ := h.tks
  have hsh := h.short
  obtain ⟨p1, p2, p3⟩ := drop_succ h.drop (isKind_ne hm)
  have hn : a < L.length := by omega
  obtain ⟨g, rfl, hg, hcl⟩ := t3 (by omega)
  obtain ⟨t, ht⟩ : ∃ t, L[a]? = some t := ⟨_, List.getElem?_eq_getElem hn⟩
  obtain ⟨d0, d1, d2⟩ := hcl a t ht
  have hx : SynP.headText s.ts = t.2.1 := by rw [← h.drop, List.drop_eq_getElem?_toList_append, ht]; rfl
  have hRl := h.lt
  have HM := Lib.hid hm
  have HC := Lib.hid hc
  have HX := Lib.hid hx
  have C0 := Lib.hid c0
  have C1 := Lib.hid c1
  have D1 := Lib.hid d1
  obtain ⟨tk, tt, tc⟩ := t
  clear hm hc h t3 hcl ht hx c0 c1 d0 d1 d2 p1 p2 p3
  go_enter Tryz.func95, Tryz.ntmps95
  go_wp2_with fail
  refine (rd_comes R _ L fin a s nv ns _ H.out 0 2 [] (by omega) (by omega)).mono ?_
  rintro e w1 ⟨rfl, b1⟩
  rw [HC.out]
  have HB1 := Lib.hid b1
  have HS1 := Lib.hid (H.out.below b1)
  have e0 := HS1.out.cells.1
  have e1 := HS1.out.cells.2.1
  have e2 : w1.cell? ⟨g, a * 3 + 1, none⟩ = some (.string ⟨tt.toArray⟩) := (b1.cell (p := ⟨g, a * 3 + 1, none⟩) (by show g < _; omega)).trans D1.out
  have f1 := HS1.out.fro 1
  have HS2 := Lib.hid (H.out.below (b1.trans ((below_drewN w1 1).mono b1.size)))
  clear b1
  go_wp2_with fail
  go_region
  go_wp2_with fail
  go_ret
  obtain ⟨g1, g2⟩ := HS2.out.adv (isKind_ne HM.out)
  unfold SynP.name
  rw [if_pos HM.out, HX.out]
  exact ⟨_, _, rfl, g1, (Wr.of_below HB1.out).trans (Mv.refl _ _) (((Wr.of_below (below_drewN w1 1))).trans (Mv.refl _ _) g2), tail_le s, rfl⟩
def NFr (B : Nat) (w : World) (v : Value) (n : Nat) : Prop := NRd w v n ∧ (∀ q, v.ownBlock = some q → B ≤ q ∧ q < w.heap.size) ∧ (lenOf v = 0 ↔ n = 0)
theorem NFr.wr {B R : Nat} {og : Option Nat} {w w' : World} {v : Value} {n : Nat} (h : NFr B w v n) (hw : Wr R og w w') (hR : R < B) (ho : ∀ q, og = some q → q < B) : NFr B w' v n := by
 obtain ⟨⟨xs, h1, h2, h3⟩, h4, h5⟩ := h
 exact ⟨⟨xs, h1.wr hw (fun q hq => ⟨by have := h4 q hq; omega, fun e => by have := h4 q hq; have := ho q e; omega⟩), h2, h3⟩, fun q hq => ⟨(h4 q hq).1, Nat.lt_of_lt_of_le (h4 q hq).2 hw.size⟩, h5⟩
theorem NFr.set {B R : Nat} {w : World} {v : Value} {n : Nat} (h : NFr B w v n) (hR : R < B) (o : Nat) (u : Value) : NFr B (w.setCell ⟨R, o, none⟩ u) v n :=
 h.wr (og := none) (Wr.of_set w o u) hR (fun q hq => by cases hq)
theorem NFr.mono {B B' : Nat} {w : World} {v : Value} {n : Nat} (h : NFr B w v n) (hb : B' ≤ B) : NFr B' w v n := ⟨h.1, fun q hq => ⟨Nat.le_trans hb (h.2.1 q hq).1, (h.2.1 q hq).2⟩, h.2.2⟩
theorem valOf_lt (t : Bytes) : SynP.valOf t < 10 ^ t.length := by
 have h1 : (digs (t.filter NumP.isDig)).length ≤ t.length := by
  rw [digs, List.length_map]; exact List.length_filter_le _ _
 have h2 : ∀ x ∈ digs (t.filter NumP.isDig), x < 10 := by
  intro x hx
  simp only [digs, List.mem_map] at hx
  obtain ⟨c, hc, rfl⟩ := hx
  have h3 := (List.mem_filter.1 hc).2
  unfold NumP.isDig at h3
  simp at h3
  omega
 exact Nat.lt_of_lt_of_le (decV_lt h2) (Nat.pow_le_pow_right (by omega) h1)
theorem readTok_any (t : Bytes) (w : World) (h1 : numRun t) (h2 : 0 < t.length) (h3 : t.length ≤ 67108864) (h4 : anyBad t = false) :
  Calls Tryz.prog 167 #[.string ⟨t.toArray⟩] w fun e w' => ∃ v, e = .returned (.tuple #[v, .int .i64 0]) ∧ NFr w.heap.size w' v (SynP.valOf t) ∧ Below w.heap.size w w' := by
 refine (readGrouped_any ⟨t.toArray⟩ w h3 h2 h1).mono ?_
 rintro e w' (⟨h, -, -⟩ | ⟨-, v, xs, rfl, a1, a2, a3, a4⟩)
 ·exact absurd h (by show ¬ anyBad t = true; rw [h4]; decide)
 ·have a2' : NatP.val xs = SynP.valOf t := a2
  refine ⟨v, rfl, ⟨⟨xs, a1.1, a2', Nat.le_trans (dec_len a3 (by rw [a2']; exact valOf_lt t)) h3⟩, a1.2, ?_⟩, a4⟩
  obtain ⟨ao, cap, rfl, -⟩ := a1.1.2
  show xs.length = 0 ↔ _
  rw [← a2']
  constructor
  ·intro e; rw [List.eq_nil_of_length_eq_zero e]; rfl
  ·intro e
   have := strip_len_of_lt xs 0 (by rw [e]; simp)
   rw [a3] at this; omega
set_option maxRecDepth 100000 in
theorem rd_number (R : Nat) (lv : Value) (L : List Tok) (fin a : Nat) (s : SynP.St) (nv : Value) (ns : List Nv) (w : World) (h : RS w R lv L fin a s nv ns) :
  Calls Tryz.prog 111 #[.pointer (some ⟨R, 0, none⟩)] w (RB (SynP.number fin s) R lv L fin s nv ns (fun x v w' => NFr w.heap.size w' v x) w) := by
 have H := Lib.hid h
 have hc := comes_kind 1 [] s.ts (by decide)
 cases hm : SynP.isKind 1 s.ts with
 | false =>
  rw [hm] at hc
  have HM := Lib.hid hm
  have HC := Lib.hid hc
  clear hm hc h
  go_enter Tryz.func111, Tryz.ntmps111
  go_wp2_with fail
  refine (rd_comes R lv L fin a s nv ns _ H.out 0 1 [] (by omega) (by omega)).mono ?_
  rintro e w1 ⟨rfl, b1⟩
  rw [HC.out]
  have HB1 := Lib.hid b1
  clear b1
  go_wp2_with fail
  refine (rd_unfit R lv L fin a s nv ns _ (H.out.below HB1.out)).mono ?_
  rintro e w2 ⟨rfl, b3⟩
  refine ⟨rfl, ?_⟩
  unfold SynP.number
  rw [if_neg (by rw [HM.out]; decide)]
  exact ⟨rfl, (Wr.of_below HB1.out).trans (Mv.refl _ _) (Wr.of_below b3)⟩
 | true =>
  rw [hm] at hc
  obtain ⟨c0, c1, -, -, -⟩ := h.cells
  obtain ⟨ao, cap, rfl, t1, t2, t3⟩ := h.tks
  have hsh := h.short
  obtain ⟨p1, p2, p3⟩ := drop_succ h.drop (isKind_ne hm)
  have hn : a < L.length := by omega
  obtain ⟨g, rfl, hg, hcl⟩ := t3 (by omega)
  obtain ⟨t, ht⟩ : ∃ t, L[a]? = some t := ⟨_, List.getElem?_eq_getElem hn⟩
  obtain ⟨d0, d1, d2⟩ := hcl a t ht
  have hts : s.ts = t :: L.drop (a + 1) := by rw [← h.drop, List.drop_eq_getElem?_toList_append, ht]; rfl
  have hx : SynP.headText s.ts = t.2.1 := by rw [hts]; rfl
  have ht1 : t.1 = 1 := by
   rw [hts] at hm
   obtain ⟨tk, tt, tc⟩ := t
   simpa [SynP.isKind] using hm
  have hok := h.good t (List.mem_of_getElem? ht) ht1
  have hRl := h.lt
  have HM := Lib.hid hm
  have HC := Lib.hid hc
  have HX := Lib.hid hx
  have D1 := Lib.hid d1
  obtain ⟨tk, tt, tc⟩ := t
  have HOK := Lib.hid hok
  clear hm hc h t3 hcl ht hx c0 c1 d0 d1 d2 p1 p2 p3 hok ht1 hts
  go_enter Tryz.func111, Tryz.ntmps111
  go_wp2_with fail
  refine (rd_comes R _ L fin a s nv ns _ H.out 0 1 [] (by omega) (by omega)).mono ?_
  rintro e w1 ⟨rfl, b1⟩
  rw [HC.out]
  have HB1 := Lib.hid b1
  have HS1 := Lib.hid (H.out.below b1)
  have e0 := HS1.out.cells.1
  have e1 := HS1.out.cells.2.1
  have e2 : w1.cell? ⟨g, a * 3 + 1, none⟩ = some (.string ⟨tt.toArray⟩) := (b1.cell (p := ⟨g, a * 3 + 1, none⟩) (by show g < _; omega)).trans D1.out
  have hRl1 : R < w1.heap.size := Nat.lt_of_lt_of_le hRl b1.size
  have hgl1 : g < w1.heap.size := by omega
  clear b1
  go_wp2_with fail
  go_region_held3 (fun w' => w'.cell? ⟨R, 0, none⟩ = some (.slice (some ⟨g, 0, none⟩) L.length cap) ∧ w'.cell? ⟨R, 1, none⟩ = some (.int .i64 (a : Nat)) ∧ w'.cell? ⟨g, a * 3 + 1, none⟩ = some (.string ⟨tt.toArray⟩))
   (first
    | go_keep
    | exact ⟨(a2.cell (p := ⟨R, 0, none⟩) hRl1).trans e0, (a2.cell (p := ⟨R, 1, none⟩) hRl1).trans e1, (a2.cell (p := ⟨g, a * 3 + 1, none⟩) hgl1).trans e2⟩)
   ((go_at_call 167; refine (readTok_any tt _ HOK.out.1 HOK.out.2.1 HOK.out.2.2.1 HOK.out.2.2.2).mono ?_; rintro e w3 ⟨v3, rfl, a1, a2⟩))
  have A1 := Lib.hid a1
  have A2 : Hid (Below w1.heap.size w1 w3) := (below_drewN w1 1).trans a2
  have HS3 := Lib.hid (HS1.out.below A2.out)
  have c1 := HS3.out.cells.2.1
  have f1 := HS3.out.fro 1
  clear a1 a2 e0 e1 e2
  go_wp2_with fail
  go_ret
  obtain ⟨g1, g2⟩ := HS3.out.adv (isKind_ne HM.out)
  unfold SynP.number
  rw [if_pos HM.out, HX.out]
  refine ⟨_, _, rfl, g1, (Wr.of_below HB1.out).trans (Mv.refl _ _) (((Wr.of_below A2.out)).trans (Mv.refl _ _) g2), tail_le s, ?_⟩
  exact (NFr.mono (NFr.set (R := R) A1.out hRl1 1 _) HB1.out.size)
end Go.Proofs.YtgfmiladfeoldaaGreatDoor
namespace Go.Proofs.YtgfmiladfeoldaaGreatDoor
open Go.RowKit NatP LexP
theorem Tryz.infoNd : (Tryz.prog.info? 43).map (fun i => (i.zero, i.size, i.bytes)) = some (some (.agg #[.int .i64 0, .string ⟨#[]⟩, .slice none 0 0]), 3, 48) := by kernel_rfl
def KNew (w : World) (R : Nat) (nv : Value) (ns : List Nv) (v : Value) (ks : List Nat) : Prop := KR w R nv.ownBlock v ks ∧ ∀ p ∈ ns, ∀ q, p.2.ownBlock = some q → v.ownBlock ≠ some q
theorem RS.put {w w2 : World} {R : Nat} {lv : Value} {L : List Tok} {fin a : Nat} {s : SynP.St} {nv : Value} {ns : List Nv} (h : RS w R lv L fin a s nv ns) {kv : Value} {nd : SynP.Node} (hk : KNew w R nv ns kv nd.kids) (hf : ns.length + 1 + s.ts.length ≤ 134217728) {gg cap : Nat}
  (hown : w2.ownsRow (R + 1) 43 3 (.slice (some ⟨gg, 0, none⟩) (ns.length + 1) cap) (ns.length + 1) (ndCells ns ++ ndCells [(nd, kv)])) (hg : w.grownBy w2 nv.ownBlock) (hat : nv.ownBlock = some gg ∨ gg = w.heap.size) :
  RS (w2.setCell ⟨R, 4, none⟩ (.slice (some ⟨gg, 0, none⟩) (ns.length + 1) cap)) R lv L fin a s (.slice (some ⟨gg, 0, none⟩) (ns.length + 1) cap) (ns ++ [(nd, kv)]) ∧ Wr R nv.ownBlock w (w2.setCell ⟨R, 4, none⟩ (.slice (some ⟨gg, 0, none⟩) (ns.length + 1) cap)) ∧ Mv w nv.ownBlock (Value.ownBlock (.slice (some ⟨gg, 0, none⟩) (ns.length + 1) cap)) := by
 have hne : some R ≠ nv.ownBlock := fun e => by have := h.gt R e.symm; omega
 have hb := (hg.block R h.lt hne).trans h.blk
 have hset := heap_setCell_same w2 R 4 #[lv, .int .i64 (a : Nat), .int .i64 (fin : Nat), .int .i64 (s.opened : Nat), nv] 85 (.slice (some ⟨gg, 0, none⟩) (ns.length + 1) cap) hb
 have hwr : Wr R nv.ownBlock w (w2.setCell ⟨R, 4, none⟩ (.slice (some ⟨gg, 0, none⟩) (ns.length + 1) cap)) := (Wr.of_grown hg).trans (Mv.refl _ _) (Wr.of_set w2 4 _)
 have hmv : Mv w nv.ownBlock (Value.ownBlock (.slice (some ⟨gg, 0, none⟩) (ns.length + 1) cap)) := by
  intro k hk
  cases hk
  rcases hat with h | h
  ·exact .inl h
  ·exact .inr (Nat.le_of_eq h.symm)
 have hlen : (ns ++ [(nd, kv)]).length = ns.length + 1 := by simp
 refine ⟨⟨hset.trans (by simp), h.tks.wr hwr h.lt h.gt, h.drop, h.le, ?_, ?_, ?_, by rw [hlen]; exact hf, h.deep, h.short, h.sum, h.good, h.sg.wr hwr (Nat.ne_of_lt h.sgl) (fun e => by have := h.gt _ e; have := h.sgl; omega), h.sgl⟩, hwr, hmv⟩
 ·rw [hlen, ndCells_app]
  exact ownsRow_setCell_below hown (by simp) _
 ·intro p hp
  rcases List.mem_append.1 hp with hp | hp
  ·exact (h.kids p hp).wr hwr hmv
  ·rw [List.mem_singleton.1 hp]
   exact hk.1.wr hwr hmv
 ·intro i j p q k hi hj hpk hqk
  have key : ∀ (i : Nat) (p : Nv), (ns ++ [(nd, kv)])[i]? = some p → (ns[i]? = some p ∧ i < ns.length) ∨ (i = ns.length ∧ p = (nd, kv)) := by
   intro i p hi
   by_cases hlt : i < ns.length
   ·rw [List.getElem?_append_left hlt] at hi; exact .inl ⟨hi, hlt⟩
   ·have := (List.getElem?_eq_some_iff.1 hi).1
    rw [hlen] at this
    have e : i = ns.length := by omega
    subst e
    rw [List.getElem?_append_right (Nat.le_refl _)] at hi
    simp at hi
    exact .inr ⟨rfl, hi.symm⟩
  rcases key i p hi with ⟨h1, h1'⟩ | ⟨h1, rfl⟩ <;> rcases key j q hj with ⟨h2, h2'⟩ | ⟨h2, rfl⟩
  ·exact h.apart i j p q k h1 h2 hpk hqk
  ·exact absurd hqk (hk.2 p (List.mem_of_getElem? h1) k hpk)
  ·exact absurd hpk (hk.2 q (List.mem_of_getElem? h2) k hqk)
  ·omega
def PutP (R : Nat) (lv : Value) (L : List Tok) (fin a : Nat) (s : SynP.St) (nv : Value) (ns : List Nv) (nd : SynP.Node) (kv : Value) (w : World) (e : Ending) (w' : World) : Prop :=
 ∃ nv', e = .returned (.int .i64 (ns.length : Nat)) ∧ RS w' R lv L fin a s nv' (ns ++ [(nd, kv)]) ∧ Wr R nv.ownBlock w w' ∧ Mv w nv.ownBlock nv'.ownBlock
set_option maxRecDepth 100000 in
set_option maxHeartbeats 2000000 in
theorem rd_put (R : Nat) (lv : Value) (L : List Tok) (fin a : Nat) (s : SynP.St) (nv : Value) (ns : List Nv) (w : World) (h : RS w R lv L fin a s nv ns) (nd : SynP.Node) (kv : Value) (hk : KNew w R nv ns kv nd.kids) (hf : ns.length + 1 + s.ts.length ≤ 134217728) :
  Calls Tryz.prog 93 #[.pointer (some ⟨R, 0, none⟩), .int .i64 (nd.op : Nat), .string ⟨nd.text.toArray⟩, kv] w (PutP R lv L fin a s nv ns nd kv w) := by
 obtain ⟨i0, hi, hz0, hz1, hz2⟩ := info_parts Tryz.infoNd
 obtain ⟨ko, kcap, hkv, -⟩ := hk.1
 have hnl : ns.length ≤ 134217728 := by omega
 have HK := Lib.hid hk
 have HH := Lib.hid h
 obtain ⟨op, text, kids⟩ := nd
 subst hkv
 have HA := Lib.hid (below_alloc w (.cells #[.int .i64 (op : Nat), .string ⟨text.toArray⟩, .slice ko kids.length kcap] 43))
 have HS := Lib.hid (h.below HA.out)
 have HKN : Hid (KNew (w.alloc (.cells #[.int .i64 (op : Nat), .string ⟨text.toArray⟩, .slice ko kids.length kcap] 43)) R nv ns (.slice ko kids.length kcap) kids) := ⟨hk.1.wr (Wr.of_below HA.out) (Mv.refl _ _), hk.2⟩
 have HLT : Hid (R < (w.alloc (.cells #[.int .i64 (op : Nat), .string ⟨text.toArray⟩, .slice ko kids.length kcap] 43)).heap.size) := HS.out.lt
 have HNE : Hid (some R ≠ nv.ownBlock) := fun e => by have := HS.out.gt R e.symm; omega
 have c4 := h.cells.2.2.2.2
 have HC4 := Lib.hid HS.out.cells.2.2.2.2
 have HF4 := Lib.hid (HS.out.fro 4)
 obtain ⟨nl, hnle⟩ : ∃ nl, nl = ns.length := ⟨_, rfl⟩
 have HNL := Lib.hid hnle
 have hsz := h.lt
 rw [← hnle] at hnl
 have hOWN : (w.alloc (.cells #[.int .i64 (op : Nat), .string ⟨text.toArray⟩, .slice ko kids.length kcap] 43)).ownsRow (R + 1) 43 3 nv nl (ndCells ns) := by rw [hnle]; exact HS.out.own
 have HOWN := Lib.hid hOWN
 clear h hk hnle hOWN
 go_enter Tryz.func93, Tryz.ntmps93
 go_wp2_with (at_builtin; refine wpList_append_lies _ rfl _ _ 23 rfl (R + 1) 43 i0 (.agg #[.int .i64 0, .string ⟨#[]⟩, .slice none 0 0]) 3 48 Tryz.underlying23 hi hz0 hz1 hz2 rfl (by omega) nv nl (ndCells ns) rfl HOWN.out ⟨w.heap.size, 0, none⟩ 1 1 [.int .i64 (op : Nat), .string ⟨text.toArray⟩, .slice ko kids.length kcap] rfl rfl (LexP.cells_new _ _ _ _ rfl) (by simp [Value.oneCell']) (by omega) (by unfold maxLen; omega) (by omega) (by have := HLT.out; simp at this; simp; omega) (w.heap.size + 1) (by simp) ?_)
 intro gg cap w5 hown5 hgrow hat hlt5
 have d4 : w5.cell? ⟨R, 4, none⟩ = some nv := (hgrow.cell_far ⟨R, 4, none⟩ HLT.out HNE.out).trans HC4.out
 have d5 : w5.frozen? ⟨R, 4, none⟩ = false := (hgrow.frozen_far ⟨R, 4, none⟩ HLT.out HNE.out).trans HF4.out
 have HG := Lib.hid (HS.out.put (kv := .slice ko kids.length kcap) (nd := ⟨op, text, kids⟩) HKN.out hf (gg := gg) (cap := cap) (by rw [← HNL.out]; exact hown5) hgrow (by simpa using hat))
 rw [← HNL.out] at HG
 clear hown5 hgrow hat hlt5
 go_wp2_with fail
 go_ret
 exact ⟨_, by rw [← HNL.out]; rfl, HG.out.1, (Wr.of_below HA.out).trans (Mv.refl _ _) HG.out.2.1, fun k hk => (HG.out.2.2 k hk).imp id (fun h => Nat.le_trans HA.out.size h)⟩
end Go.Proofs.YtgfmiladfeoldaaGreatDoor
namespace Go.Proofs.YtgfmiladfeoldaaGreatDoor
open Go.RowKit NatP LexP
set_option maxRecDepth 100000 in
theorem rd_bracket (R : Nat) (lv : Value) (L : List Tok) (fin a : Nat) (s : SynP.St) (nv : Value) (ns : List Nv) (w : World) (h : RS w R lv L fin a s nv ns) (h0 : s.ts ≠ []) :
  Calls Tryz.prog 267 #[.pointer (some ⟨R, 0, none⟩)] w (RB (SynP.openB fin s) R lv L fin s nv ns (fun _ v _ => v = .tuple #[]) w) := by
 have H := Lib.hid h
 have c3 := h.cells.2.2.2.1
 have f3 := h.fro 3
 have hsh := h.short
 have hle := h.le
 have hdp := h.deep
 obtain ⟨op, hop⟩ : ∃ op, op = s.opened := ⟨_, rfl⟩
 rw [← hop] at c3 hdp
 have e1 : (((op + 1 : Nat)) : Int) = (op : Int) + 1 := by omega
 have HOP := Lib.hid hop
 by_cases hlt : 100 < op + 1
 ·have hset := heap_setCell_same w R 3 #[lv, .int .i64 (a : Nat), .int .i64 (fin : Nat), .int .i64 (s.opened : Nat), nv] 85 (.int .i64 ((op : Int) + 1)) h.blk
  have hw : Wr R none w (w.setCell ⟨R, 3, none⟩ (.int .i64 ((op : Int) + 1))) := Wr.of_set w 3 _
  have hcl : ∀ (o : Nat) (u : Value), (#[lv, .int .i64 (a : Nat), .int .i64 (fin : Nat), .int .i64 ((op : Int) + 1), nv] : Array Value)[o]? = some u → (w.setCell ⟨R, 3, none⟩ (.int .i64 ((op : Int) + 1))).cell? ⟨R, o, none⟩ = some u := by
   intro o u hu
   rw [cell_of_row _ _ _ _ _ _ hset]
   simpa using hu
  have HC0 := Lib.hid (hcl 0 _ rfl)
  have HC1 := Lib.hid (hcl 1 _ rfl)
  have HC2 := Lib.hid (hcl 2 _ rfl)
  have hc3 := hcl 3 _ rfl
  have HT := Lib.hid (h.tks.wr hw h.lt (fun q hq => by cases hq))
  have HD := Lib.hid h.drop
  have HW := Lib.hid hw
  have hb : (100 : Int) < (op : Int) + 1 := by omega
  clear h hset hw hcl hop e1
  go_enter Tryz.func267, Tryz.ntmps267
  go_wp2_with fail
  refine (col_raw R lv L fin a _ _ HC0.out HC1.out HC2.out HT.out HD.out hle).mono ?_
  rintro e w1 ⟨rfl, b1⟩
  have HB1 := Lib.hid b1
  clear b1
  go_wp2_with fail
  refine ⟨rfl, ?_⟩
  unfold SynP.openB
  rw [if_pos (by rw [← HOP.out]; exact hlt)]
  exact ⟨rfl, HW.out.trans (Mv.refl _ _) (Wr.of_below HB1.out)⟩
 ·have hb : ¬ ((100 : Int) < (op : Int) + 1) := by omega
  obtain ⟨g1, g2⟩ := h.setN 3 (.int .i64 ((s.opened + 1 : Nat) : Int)) a { s with opened := s.opened + 1 } (by simp) h.drop h.le h.few (by show s.opened + 1 ≤ _; omega)
  obtain ⟨g3, g4⟩ := g1.adv (s := { s with opened := s.opened + 1 }) h0
  have hc1 := g1.cells.2.1
  have hf1 := g1.fro 1
  rw [← hop, e1] at g1 g2 g3 g4 hc1 hf1
  have G1 := Lib.hid g1
  have G2 := Lib.hid g2
  have G3 := Lib.hid g3
  have G4 := Lib.hid g4
  clear h h0 g1 g2 g3 g4 hop e1
  go_enter Tryz.func267, Tryz.ntmps267
  go_wp2_with fail
  go_end0
  unfold SynP.openB
  rw [if_neg (by rw [← HOP.out]; exact hlt), ← HOP.out]
  exact ⟨_, _, rfl, G3.out, G2.out.trans (Mv.refl _ _) G4.out, tail_le s, rfl⟩
set_option maxRecDepth 100000 in
theorem rd_closing (R : Nat) (lv : Value) (L : List Tok) (fin a : Nat) (s : SynP.St) (nv : Value) (ns : List Nv) (w : World) (h : RS w R lv L fin a s nv ns) (ho : 0 < s.opened) :
  Calls Tryz.prog 268 #[.pointer (some ⟨R, 0, none⟩)] w (RB (SynP.closeB fin s) R lv L fin s nv ns (fun _ v _ => v = .tuple #[]) w) := by
 have H := Lib.hid h
 clear h
 cases hm : SynP.isMark [41] s.ts with
 | false =>
  have hw : SynP.want fin [41] s = SynP.unfit fin s := by unfold SynP.want; rw [if_neg (by rw [hm]; decide)]
  have HW := Lib.hid hw
  clear hm hw
  go_enter Tryz.func268, Tryz.ntmps268
  go_wp2_with fail
  refine (rd_want R lv L fin a s nv ns _ H.out [41]).mono ?_
  rintro e w1 hw1
  rw [HW.out] at hw1
  obtain ⟨rfl, b1⟩ := hw1
  refine ⟨rfl, ?_⟩
  unfold SynP.closeB
  rw [HW.out]
  exact ⟨rfl, b1⟩
 | true =>
  have hw : SynP.want fin [41] s = SynP.ret () s.adv := by unfold SynP.want; rw [if_pos hm]
  have HW := Lib.hid hw
  clear hm hw
  go_enter Tryz.func268, Tryz.ntmps268
  go_wp2_with fail
  refine (rd_want R lv L fin a s nv ns _ H.out [41]).mono ?_
  rintro e w1 hw1
  rw [HW.out] at hw1
  obtain ⟨v, a', rfl, b1, b2, b3, rfl⟩ := hw1
  have c3 := b1.cells.2.2.2.1
  have f3 := b1.fro 3
  obtain ⟨op, hop⟩ : ∃ op, s.opened = op + 1 := ⟨s.opened - 1, by omega⟩
  have e1 : s.adv.opened = op + 1 := hop
  obtain ⟨g1, g2⟩ := b1.setN 3 (.int .i64 (op : Int)) a' { s.adv with opened := op } (by simp) b1.drop b1.le b1.few (by have := b1.deep; show op ≤ _; omega)
  rw [e1] at c3
  have e2 : ((op + 1 : Nat) : Int) = (op : Int) + 1 := by omega
  rw [e2] at c3
  have hd : op ≤ 100 := by have := b1.deep; omega
  have G1 := Lib.hid g1
  have G2 := Lib.hid g2
  have B2 := Lib.hid b2
  have HOP := Lib.hid hop
  clear b1 b2 b3 hop e1 g1 g2 e2 ho
  go_wp2_with fail
  go_end0
  unfold SynP.closeB
  rw [HW.out]
  refine ⟨_, a', rfl, ?_, B2.out.trans (Mv.refl _ _) G2.out, tail_le s, rfl⟩
  have e3 : s.adv.opened - 1 = op := by show s.opened - 1 = op; rw [HOP.out]; omega
  rw [e3]
  exact G1.out
end Go.Proofs.YtgfmiladfeoldaaGreatDoor
namespace Go.Proofs.YtgfmiladfeoldaaGreatDoor
open Go.RowKit NatP LexP
set_option maxRecDepth 100000 in
set_option maxHeartbeats 1000000 in
theorem side_any (v : Value) (n : Nat) (w : World) (h : NRd w v n) :
  Calls Tryz.prog 110 #[v] w fun e w' => e = .returned (.int .i64 (SynP.side n : Nat)) ∧ Below w.heap.size w w' := by
 obtain ⟨xs, hr, hv, hl⟩ := h
 have HR := Lib.hid hr
 obtain ⟨ao, cap, rfl, hnc, hcm, hok, hsh⟩ := hr.2
 have HB0 := Lib.hid (below_alloc w (.cells #[.int .u64 64] 101))
 have hblk : Blk (w.alloc (.cells #[.int .u64 64] 101)) w.heap.size [64] := ⟨heap_alloc_new w _, by intro x hx; simp at hx; subst hx; unfold BB; omega⟩
 have HR64 := Lib.hid (hblk.whole (by simp))
 have HV := Lib.hid hv
 have h64 : NatP.val [64] = 64 := by simp [NatP.val]
 obtain ⟨ci, hci⟩ : ∃ ci, ci = cmpI (NatP.val xs) (NatP.val [64]) := ⟨_, rfl⟩
 have HCI := Lib.hid hci
 by_cases hlt : 64 < n
 ·have hcb : (0 : Int) < ci := by
   rw [hci, h64, hv]
   unfold cmpI
   rw [if_neg (by omega), if_pos (by omega)]; decide
  have HS : Hid (SynP.side n = 65) := by show _ = _; unfold SynP.side; rw [if_pos hlt]
  clear hr hv hok hsh hblk h64 hci hlt
  go_enter Tryz.func110, Tryz.ntmps110
  go_wp2_with fail
  refine (cmp_any _ _ xs [64] _ (HR.out.below HB0.out) HR64.out).mono ?_
  rintro e w1 ⟨rfl, b1⟩
  rw [← HCI.out]
  have HB1 := Lib.hid (HB0.out.trans (b1.mono (by simp)))
  clear b1
  go_wp2_with fail
  go_ret
  exact ⟨by rw [HS.out]; rfl, HB1.out⟩
 ·have hcb : ¬ ((0 : Int) < ci) := by
   rw [hci, h64, hv]
   unfold cmpI
   split
   ·decide
   ·first | decide | (rw [if_neg (by omega)]; decide)
  have HS : Hid (SynP.side n = n) := by show _ = _; unfold SynP.side; rw [if_neg hlt]
  by_cases hx0 : xs.length = 0
  ·have hx : xs = [] := List.eq_nil_of_length_eq_zero hx0
   subst hx
   have hn0 : n = 0 := by rw [← hv]; rfl
   subst hn0
   clear hr hv hok hsh hblk h64 hci hlt
   go_enter Tryz.func110, Tryz.ntmps110
   go_wp2_with fail
   refine (cmp_any _ _ [] [64] _ (HR.out.below HB0.out) HR64.out).mono ?_
   rintro e w1 ⟨rfl, b1⟩
   rw [← HCI.out]
   have HB1 := Lib.hid (HB0.out.trans (b1.mono (by simp)))
   clear b1
   go_wp2_with fail
   go_ret
   exact ⟨by rw [HS.out]; rfl, HB1.out⟩
  ·obtain ⟨x, ys, rfl⟩ : ∃ x ys, xs = x :: ys := by
    cases xs with
    | nil => exact absurd rfl hx0
    | cons x ys => exact ⟨x, ys, rfl⟩
   have hxn : x = n := by
    have e : NatP.val (x :: ys) = x + BB * NatP.val ys := rfl
    rw [hv] at e
    by_cases hy : NatP.val ys = 0
    ·rw [hy] at e; omega
    ·have : BB * 1 ≤ BB * NatP.val ys := Nat.mul_le_mul (Nat.le_refl _) (by omega)
     have hbb : 64 < BB := by unfold BB; omega
     omega
   subst hxn
   obtain ⟨g, o, rfl, c0⟩ := hsh 0 x rfl
   rw [Nat.add_zero] at c0
   have hgl : g < w.heap.size := hr.lt rfl
   have HC0 := Lib.hid c0
   have hb0 : ((((x :: ys).length : Nat) : Int) == 0) = false := by simp; omega
   have hpos : (0 : Int) < (((x :: ys).length : Nat) : Int) := by simp
   obtain ⟨ll, hll⟩ : ∃ ll, ll = (x :: ys).length := ⟨_, rfl⟩
   rw [← hll] at hb0 hpos HR ⊢
   have HLL := Lib.hid hll
   clear hr hv hok hsh hblk h64 hci c0 hll hx0
   go_enter Tryz.func110, Tryz.ntmps110
   go_wp2_with fail
   have hrd := HR.out.below HB0.out
   refine (cmp_any _ _ (x :: ys) [64] _ hrd HR64.out).mono ?_
   rintro e w1 ⟨rfl, b1⟩
   rw [← HCI.out]
   have HB1 := Lib.hid (HB0.out.trans (b1.mono (by simp)))
   have d0 : w1.cell? ⟨g, o, none⟩ = some (.int .u64 (x : Nat)) := (HB1.out.cell (p := ⟨g, o, none⟩) hgl).trans HC0.out
   have hw : IntKind.i64.wrap (x : Int) = (x : Int) := IntWalk.i64_in _ (by omega)
   clear b1 hrd
   go_wp2_with fail
   go_ret
   exact ⟨by rw [HS.out]; rfl, HB1.out⟩
end Go.Proofs.YtgfmiladfeoldaaGreatDoor
namespace Go.Proofs.YtgfmiladfeoldaaGreatDoor
open Go.RowKit NatP LexP
def leftOf (L : List Tok) (R : Nat) (w : World) : Nat := L.length - (intOf ((w.cell? ⟨R, 1, none⟩).getD (.bool false))).toNat
theorem RS.left {w : World} {R : Nat} {lv : Value} {L : List Tok} {fin a : Nat} {s : SynP.St} {nv : Value} {ns : List Nv} (h : RS w R lv L fin a s nv ns) : leftOf L R w = s.ts.length := by
 unfold leftOf
 rw [h.cells.2.1, ← h.drop, List.length_drop]
 simp [intOf]
theorem Wr.grown0 {R : Nat} {w0 w w' : World} {row : Option Nat} (h : Wr R none w0 w) (hg : w.grownBy w' row) (hr : ∀ q, row = some q → w0.heap.size ≤ q) : Wr R none w0 w' :=
 ⟨hg.os.trans h.os, hg.tape.trans h.tape, hg.output.trans h.output, Nat.le_trans h.size hg.size, fun k hk hR ho => (hg.block k (Nat.lt_of_lt_of_le hk h.size) (fun e => by have := hr k e.symm; omega)).trans (h.block k hk hR ho)⟩
theorem RS.loc {w0 w w' : World} {R : Nat} {lv : Value} {L : List Tok} {fin a0 a : Nat} {s0 s : SynP.St} {nv : Value} {ns : List Nv} {row : Option Nat} (h0 : RS w0 R lv L fin a0 s0 nv ns) (h : RS w R lv L fin a s nv ns) (hw : Wr R none w0 w) (hg : w.grownBy w' row) (hr : ∀ q, row = some q → w0.heap.size ≤ q) :
  RS w' R lv L fin a s nv ns ∧ Wr R none w0 w' := by
 have h1 := hw.grown0 hg hr
 refine ⟨h0.reset h1 ((hg.block R h.lt (fun e => by have := hr R e.symm; have := h0.lt; omega)).trans h.blk) h.drop h.le h.few h.deep, h1⟩
theorem RS.step {w0 w w' : World} {R : Nat} (h : Wr R none w0 w) (k : Wr R none w w') : Wr R none w0 w' := h.trans (og' := none) (Mv.refl _ _) k
def icells (l : List (Bool × Value)) : List Value := l.flatMap fun p => [.bool p.1, p.2]
theorem icells_app (a b : List (Bool × Value)) : icells (a ++ b) = icells a ++ icells b := by simp [icells]
theorem icells_at : ∀ (l : List (Bool × Value)) (j : Nat) (p : Bool × Value), l[j]? = some p → (icells l)[j * 2]? = some (.bool p.1) ∧ (icells l)[j * 2 + 1]? = some p.2
 | a :: l, 0, p, h => by
  simp at h; subst h; exact ⟨rfl, rfl⟩
 | a :: l, j + 1, p, h => by
  have := icells_at l j p (by simpa using h)
  have e1 : (j + 1) * 2 = j * 2 + 2 := by omega
  rw [e1]
  exact this
def ints (l : List Nat) : List Value := l.map fun n => .int .i64 (n : Nat)
structure En (w : World) (B : Nat) (av lv : Value) (cs : List (Bool × Value)) (acc : List (Bool × Nat)) (lens : List Nat) : Prop where
 own1 : w.ownsRow B 62 2 av cs.length (icells cs)
 own2 : w.ownsRow B 3 1 lv lens.length (ints lens)
 ne : ∀ q, av.ownBlock = some q → lv.ownBlock ≠ some q
 len : cs.length = acc.length
 el : ∀ (j : Nat) (c : Bool × Value) (p : Bool × Nat), cs[j]? = some c → acc[j]? = some p → c.1 = p.1 ∧ NFr B w c.2 p.2 ∧ ∀ q, c.2.ownBlock = some q → av.ownBlock ≠ some q ∧ lv.ownBlock ≠ some q
theorem En.nil (w : World) (B : Nat) : En w B (.slice none 0 0) (.slice none 0 0) [] [] [] := ⟨World.ownsRow_nil _ _ _ _, World.ownsRow_nil _ _ _ _, fun q h => by simp [Value.ownBlock] at h, rfl, fun j c p h => by simp at h⟩
theorem ownsRow_wr {w w' : World} {R B : Nat} {e : TypeId} {z : Nat} {v : Value} {n : Nat} {xs : List Value} (h : w.ownsRow B e z v n xs) (hw : Wr R none w w') (hR : R < B) : w'.ownsRow B e z v n xs := by
 refine ⟨h.1, ?_⟩
 rcases h.2 with hn | ⟨g, cap, cur, rfl, hb, hgg, rest⟩
 ·exact .inl hn
 ·exact .inr ⟨g, cap, cur, rfl, hb, (hw.block g (Array.getElem?_eq_some_iff.1 hgg).1 (by omega) (by simp)).trans hgg, rest⟩
theorem En.wr {w w' : World} {B R : Nat} {av lv : Value} {cs : List (Bool × Value)} {acc : List (Bool × Nat)} {lens : List Nat} (h : En w B av lv cs acc lens) (hw : Wr R none w w') (hR : R < B) : En w' B av lv cs acc lens :=
 ⟨ownsRow_wr h.own1 hw hR, ownsRow_wr h.own2 hw hR, h.ne, h.len, fun j c p hc hp => ⟨(h.el j c p hc hp).1, (h.el j c p hc hp).2.1.wr hw hR (fun q hq => by cases hq), (h.el j c p hc hp).2.2⟩⟩
theorem NFr.grown {B : Nat} {w w' : World} {v : Value} {n : Nat} {row : Option Nat} (h : NFr B w v n) (hg : w.grownBy w' row) (hr : ∀ q, v.ownBlock = some q → row ≠ some q) : NFr B w' v n := by
 obtain ⟨⟨xs, h1, h2, h3⟩, h4, h5⟩ := h
 exact ⟨⟨xs, h1.kept hg (fun k hk e => hr k e hk), h2, h3⟩, fun q hq => ⟨(h4 q hq).1, Nat.lt_of_lt_of_le (h4 q hq).2 hg.size⟩, h5⟩
theorem En.push {w w' : World} {B g cap : Nat} {av lv : Value} {cs : List (Bool × Value)} {acc : List (Bool × Nat)} {lens : List Nat} (h : En w B av lv cs acc lens) {neg : Bool} {m : Value} {k : Nat} (hm : NFr B w m k) (hd : ∀ q, m.ownBlock = some q → av.ownBlock ≠ some q ∧ lv.ownBlock ≠ some q)
  (hown : w'.ownsRow B 62 2 (.slice (some ⟨g, 0, none⟩) (cs.length + 1) cap) (cs.length + 1) (icells cs ++ [.bool neg, m])) (hg : w.grownBy w' av.ownBlock) (hat : av.ownBlock = some g ∨ g = w.heap.size) :
  En w' B (.slice (some ⟨g, 0, none⟩) (cs.length + 1) cap) lv (cs ++ [(neg, m)]) (acc ++ [(neg, k)]) lens := by
 have hnew : ∀ q, q < w.heap.size → av.ownBlock ≠ some q → (Value.ownBlock (.slice (some ⟨g, 0, none⟩) (cs.length + 1) cap)) ≠ some q := by
  intro q hq hne e
  cases e
  rcases hat with h | h
  ·exact hne h
  ·change g < _ at hq; omega
 have hl : (cs ++ [(neg, m)]).length = cs.length + 1 := by simp
 refine ⟨?_, h.own2.kept hg ?_, ?_, by simp [h.len], ?_⟩
 ·rw [hl, icells_app]; exact hown
 ·cases ho : lv.ownBlock with
  | none => exact .inl rfl
  | some q => exact .inr (fun e => h.ne q e.symm ho)
 ·intro q hq e
  have h1 := (h.own2.lt q e).2
  exact hnew q h1 (fun h2 => h.ne q h2 e) hq
 ·intro j c p hc hp
  by_cases hlt : j < cs.length
  ·rw [List.getElem?_append_left hlt] at hc
   rw [List.getElem?_append_left (by rw [← h.len]; exact hlt)] at hp
   obtain ⟨q1, q2, q3⟩ := h.el j c p hc hp
   exact ⟨q1, q2.grown hg (fun q hq => (q3 q hq).1), fun q hq => ⟨hnew q (q2.2.1 q hq).2 (q3 q hq).1, (q3 q hq).2⟩⟩
  ·have hj : j = cs.length := by
    have := (List.getElem?_eq_some_iff.1 hc).1
    rw [hl] at this; omega
   subst hj
   rw [List.getElem?_append_right (Nat.le_refl _)] at hc
   rw [h.len, List.getElem?_append_right (Nat.le_refl _)] at hp
   simp at hc hp
   subst hc; subst hp
   exact ⟨rfl, hm.grown hg (fun q hq => (hd q hq).1), fun q hq => ⟨hnew q (hm.2.1 q hq).2 (hd q hq).1, (hd q hq).2⟩⟩
theorem En.pushL {w w' : World} {B g cap : Nat} {av lv : Value} {cs : List (Bool × Value)} {acc : List (Bool × Nat)} {lens : List Nat} (h : En w B av lv cs acc lens) {n : Nat}
  (hown : w'.ownsRow B 3 1 (.slice (some ⟨g, 0, none⟩) (lens.length + 1) cap) (lens.length + 1) (ints lens ++ [.int .i64 (n : Nat)])) (hg : w.grownBy w' lv.ownBlock) (hat : lv.ownBlock = some g ∨ g = w.heap.size) :
  En w' B av (.slice (some ⟨g, 0, none⟩) (lens.length + 1) cap) cs acc (lens ++ [n]) := by
 have hnew : ∀ q, q < w.heap.size → lv.ownBlock ≠ some q → (Value.ownBlock (.slice (some ⟨g, 0, none⟩) (lens.length + 1) cap)) ≠ some q := by
  intro q hq hne e
  cases e
  rcases hat with h | h
  ·exact hne h
  ·change g < _ at hq; omega
 refine ⟨h.own1.kept hg ?_, ?_, ?_, h.len, ?_⟩
 ·cases ho : av.ownBlock with
  | none => exact .inl rfl
  | some q => exact .inr (fun e => h.ne q ho e.symm)
 ·rw [show (lens ++ [n]).length = lens.length + 1 from by simp, show ints (lens ++ [n]) = ints lens ++ [.int .i64 (n : Nat)] from by simp [ints]]
  exact hown
 ·intro q hq
  exact hnew q (h.own1.lt q hq).2 (h.ne q hq)
 ·intro j c p hc hp
  obtain ⟨q1, q2, q3⟩ := h.el j c p hc hp
  exact ⟨q1, q2.grown hg (fun q hq => (q3 q hq).2), fun q hq => ⟨(q3 q hq).1, hnew q (q2.2.1 q hq).2 (q3 q hq).2⟩⟩
end Go.Proofs.YtgfmiladfeoldaaGreatDoor
