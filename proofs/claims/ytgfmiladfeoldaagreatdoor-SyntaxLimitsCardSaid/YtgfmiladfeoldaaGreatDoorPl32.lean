/- Joined texts of this claim's proof: RdX, RdY, RdZ. -/
import Derived.Test.YtgfmiladfeoldaaGreatDoorPl31
import Derived.Recover
set_option linter.unusedSimpArgs false
set_option linter.unusedVariables false
namespace Go.Proofs.YtgfmiladfeoldaaGreatDoor
open Go.RowKit NatP LexP
def LnP (r : SynP.PR SynP.Ln) (R : Nat) (tv : Value) (L : List Tok) (fin : Nat) (nv : Value) (w : World) (e : Ending) (w' : World) : Prop :=
 match r with
 | none => False
 | some (.error (c, k)) => e = FaultE c k ∧ Wr R nv.ownBlock w w'
 | some (.ok (n, s')) => e = .returned (.tuple #[]) ∧ ∃ a' nv' ns', RS w' R tv L fin a' s' nv' ns' ∧ Wr R nv.ownBlock w w' ∧ ns'.map Prod.fst = n.flat ∧ Mv w nv.ownBlock nv'.ownBlock ∧ ∀ p ∈ ns', ∀ q, p.2.ownBlock = some q → w.heap.size ≤ q
structure Ln0 (R : Nat) (tv : Value) (L : List Tok) (fin : Nat) (nv : Value) (w wr : World) (a' : Nat) (s' : SynP.St) (nv' : Value) (ns' : List Nv) : Prop where
 rs : RS wr R tv L fin a' s' nv' ns'
 wr : Wr R nv.ownBlock w wr
 mv : Mv w nv.ownBlock nv'.ownBlock
 fresh : ∀ p ∈ ns', ∀ q, p.2.ownBlock = some q → w.heap.size ≤ q
theorem Ln0.step {R : Nat} {tv : Value} {L : List Tok} {fin : Nat} {s1 s2 : SynP.St} {nv nv1 : Value} {ns1 : List Nv} {w w1 w2 : World} {a1 a2 : Nat} (h : Ln0 R tv L fin nv w w1 a1 s1 nv1 ns1) (k : RS w2 R tv L fin a2 s2 nv1 ns1) (hw : Wr R none w1 w2) : Ln0 R tv L fin nv w w2 a2 s2 nv1 ns1 :=
 ⟨k, h.wr.trans h.mv (hw.weak _), h.mv, h.fresh⟩
theorem Ln0.trans {R : Nat} {tv : Value} {L : List Tok} {fin : Nat} {s1 s2 : SynP.St} {nv nv1 nv2 : Value} {ns1 ns2 : List Nv} {w w1 w2 : World} {a1 a2 : Nat} (h : Ln0 R tv L fin nv w w1 a1 s1 nv1 ns1) (k : PSt R tv L fin s1 nv1 ns1 w1 w2 a2 s2 nv2 ns2) : Ln0 R tv L fin nv w w2 a2 s2 nv2 (ns1 ++ ns2) :=
 ⟨k.rs, h.wr.trans h.mv k.wr, Mv.trans (R := R) (w' := w1) h.mv h.wr.size k.mv, fun p hp q hq => by
  rcases List.mem_append.1 hp with hp | hp
  ·exact h.fresh p hp q hq
  ·exact Nat.le_trans h.wr.size (k.fresh p hp q hq)⟩
theorem Ln0.put {R : Nat} {tv : Value} {L : List Tok} {fin : Nat} {s1 : SynP.St} {nv nv1 nv2 : Value} {ns1 : List Nv} {w w1 w2 : World} {a1 : Nat} {nd : SynP.Node} {kv : Value} (h : Ln0 R tv L fin nv w w1 a1 s1 nv1 ns1) (k : RS w2 R tv L fin a1 s1 nv2 (ns1 ++ [(nd, kv)])) (hw : Wr R nv1.ownBlock w1 w2) (hm : Mv w1 nv1.ownBlock nv2.ownBlock) (hv : ∀ q, kv.ownBlock = some q → w.heap.size ≤ q) : Ln0 R tv L fin nv w w2 a1 s1 nv2 (ns1 ++ [(nd, kv)]) :=
 ⟨k, h.wr.trans h.mv hw, Mv.trans (R := R) (w' := w1) h.mv h.wr.size hm, fun p hp q hq => by
  rcases List.mem_append.1 hp with hp | hp
  ·exact h.fresh p hp q hq
  ·rw [List.mem_singleton.1 hp] at hq; exact hv q hq⟩
set_option maxRecDepth 100000 in
theorem line_none (fin f : Nat) (R : Nat) (tv : Value) (L : List Tok) (s : SynP.St) (nv : Value) (w : World) (h : RS w R tv L fin 0 s nv []) (h0 : s.ts = []) :
  Calls Tryz.prog 49 #[.pointer (some ⟨R, 0, none⟩)] w (LnP (SynP.line fin f s) R tv L fin nv w) := by
 have H := Lib.hid h
 have HR0 : Hid (SynP.line fin f s = some (.ok (.nothing, s))) := by show _ = _; unfold SynP.line; rw [if_pos h0]; rfl
 have hts : s.ts.length = 0 := by rw [h0]; rfl
 have HD : Hid (decide (s.ts = []) = true) := decide_eq_true h0
 clear h h0
 go_enter Tryz.func49, Tryz.ntmps49
 go_wp2_with fail
 refine (rd_done R tv L fin 0 s nv [] _ H.out).mono ?_
 rintro e w1 ⟨rfl, b1⟩
 rw [HD.out]
 have HP : Hid (Ln0 R tv L fin nv w w1 0 s nv []) := ⟨H.out.below b1, Wr.of_below b1, Mv.refl _ _, fun p hp => by cases hp⟩
 clear b1
 go_wp2_with fail
 refine (rd_put R tv L fin 0 s nv [] _ HP.out.rs ⟨14, [], []⟩ _ KNew.nil (by simp; omega)).mono ?_
 rintro e w2 ⟨nv2, rfl, b1, b2, b3⟩
 have HQ := Lib.hid (HP.out.put b1 b2 b3 (fun q hq => by simp [Value.ownBlock] at hq))
 clear b1 b2 b3
 go_wp2_with fail
 refine bodyPost_ret (results_none rfl _ _ _) rfl ?_
 rw [HR0.out]
 exact ⟨rfl, 0, nv2, _, HQ.out.rs, HQ.out.wr, rfl, HQ.out.mv, HQ.out.fresh⟩
set_option maxRecDepth 100000 in
set_option maxHeartbeats 4000000 in
theorem line_let (fin f : Nat) (R : Nat) (tv : Value) (L : List Tok) (s : SynP.St) (nv : Value) (w : World) (h : RS w R tv L fin 0 s nv []) (hk : SynP.isKind 2 s.ts = true) (hl : SynP.headText s.ts = SynP.letB) (hne : SynP.line fin f s ≠ none) :
  Calls Tryz.prog 49 #[.pointer (some ⟨R, 0, none⟩)] w (LnP (SynP.line fin f s) R tv L fin nv w) := by
 have HS0 := Lib.hid h
 obtain ⟨r, hr⟩ : ∃ r, r = SynP.line fin f s := ⟨_, rfl⟩
 rw [← hr] at hne ⊢
 have HNE := Lib.hid hne
 have h0 : s.ts ≠ [] := isKind_ne hk
 have HR0 : Hid (r = (SynP.name fin s.adv).bind fun x s => (SynP.want fin [61] s).bind fun _ s => (SynP.expr fin f s).bind fun e s => SynP.done fin (.lets x e) s) := by
  show _ = _
  rw [hr]; unfold SynP.line; rw [if_neg h0, if_pos (by rw [hk, hl]; simp)]
 have HD : Hid (decide (s.ts = []) = false) := decide_eq_false h0
 have hfew := h.few
 have C2 := Lib.hid (comes_kind 2 [] s.ts (by decide))
 rw [hk] at C2
 have HNN := Lib.hid h0
 obtain ⟨ao, cap, rfl, t1, t2, t3⟩ := h.tks
 have hdr := h.drop
 rw [List.drop_zero] at hdr
 obtain ⟨t, l, hts⟩ := List.exists_cons_of_ne_nil h0
 have hL0 : 0 < L.length := by rw [hdr, hts]; simp
 obtain ⟨g, rfl, hg, hcl⟩ := t3 hL0
 obtain ⟨-, d1, -⟩ := hcl 0 t (by rw [hdr, hts]; rfl)
 have ht1 : t.2.1 = SynP.letB := by rw [← hl, hts]; rfl
 rw [ht1, show SynP.letB.toArray = #[108, 101, 116] from rfl] at d1
 have D1 := Lib.hid d1
 have hRl := h.lt
 have hadv : s.adv.ts.length + 1 = s.ts.length := kind_adv hk
 have HRL := Lib.hid hRl
 clear h hr hne hk hl h0 t3 hcl hdr hts d1 ht1
 go_enter Tryz.func49, Tryz.ntmps49
 go_wp2_with fail
 refine (rd_done R _ L fin 0 s nv [] _ HS0.out).mono ?_
 rintro e w1 ⟨rfl, b1⟩
 rw [HD.out]
 have HP1 : Hid (Ln0 R (.slice (some ⟨g, 0, none⟩) L.length cap) L fin nv w w1 0 s nv []) := ⟨HS0.out.below b1, Wr.of_below b1, Mv.refl _ _, fun p hp => by cases hp⟩
 have D2 : Hid (w1.cell? ⟨g, 1, none⟩ = some (.string ⟨#[108, 101, 116]⟩)) := (b1.cell (p := ⟨g, 1, none⟩) (by show g < _; have := HRL.out; omega)).trans D1.out
 have hgl1 : g < w1.heap.size := by have := b1.size; have := HRL.out; omega
 clear b1
 go_wp2_with fail
 refine (rd_comes R _ L fin 0 s nv [] _ HP1.out.rs 0 2 [] (by omega) (by omega)).mono ?_
 rintro e w2 ⟨rfl, b1⟩
 rw [C2.out]
 have HP2 := Lib.hid (HP1.out.step (HP1.out.rs.below b1) (Wr.of_below b1))
 have e0 := HP2.out.rs.cells.1
 have e1 := HP2.out.rs.cells.2.1
 have e2 : w2.cell? ⟨g, 1, none⟩ = some (.string ⟨#[108, 101, 116]⟩) := (b1.cell (p := ⟨g, 1, none⟩) hgl1).trans D2.out
 have f1 := HP2.out.rs.fro 1
 have hpp := HP2.out.rs.adv HNN.out
 have HP3 := Lib.hid (HP2.out.step hpp.1 hpp.2)
 clear b1 hpp
 go_wp2_with fail
 refine (rd_name R _ L fin (0 + 1) s.adv nv [] _ HP3.out.rs).mono ?_
 rintro e w3 hn
 rcases hN : SynP.name fin s.adv with - | (⟨fc, fk⟩ | ⟨x, s3⟩) <;> rw [hN] at hn
 ·exact hn.elim
 ·obtain ⟨rfl, n1⟩ := hn
  refine ⟨rfl, ?_⟩
  have hre : r = some (.error (fc, fk)) := by rw [HR0.out]; simp only [hN, SynP.PR.bind]; try rfl
  rw [hre]
  exact ⟨rfl, HP3.out.wr.trans HP3.out.mv (n1.weak _)⟩
 obtain ⟨v3, a3, rfl, n1, n2, n3, rfl⟩ := hn
 have HR1 : Hid (r = (SynP.want fin [61] s3).bind fun _ s => (SynP.expr fin f s).bind fun e s => SynP.done fin (.lets x e) s) := by show _ = _; rw [HR0.out, hN]; rfl
 have HP4 := Lib.hid (HP3.out.step n1 n2)
 have hs3 : s3.ts.length ≤ s.adv.ts.length := n3
 clear n1 n2 n3 hN
 go_wp2_with fail
 refine (rd_want R _ L fin a3 s3 nv [] _ HP4.out.rs [61]).mono ?_
 rintro e w4 hn
 rcases hN : SynP.want fin [61] s3 with - | (⟨fc, fk⟩ | ⟨u, s4⟩) <;> rw [hN] at hn
 ·exact hn.elim
 ·obtain ⟨rfl, n1⟩ := hn
  refine ⟨rfl, ?_⟩
  have hre : r = some (.error (fc, fk)) := by rw [HR1.out]; simp only [hN, SynP.PR.bind]; try rfl
  rw [hre]
  exact ⟨rfl, HP4.out.wr.trans HP4.out.mv (n1.weak _)⟩
 obtain ⟨v4, a4, rfl, n1, n2, n3, rfl⟩ := hn
 have HR2 : Hid (r = (SynP.expr fin f s4).bind fun e s => SynP.done fin (.lets x e) s) := by show _ = _; rw [HR1.out, hN]; rfl
 have HP5 := Lib.hid (HP4.out.step n1 n2)
 have hs4 : s4.ts.length ≤ s3.ts.length := n3
 clear n1 n2 n3 hN
 go_wp2_with fail
 refine ((all_ok fin f).ex R _ L a4 s4 nv [] _ HP5.out.rs (fun e => HNE.out (by rw [HR2.out, e]; rfl))).mono ?_
 rintro e w5 hn
 rcases hN : SynP.expr fin f s4 with - | (⟨fc, fk⟩ | ⟨k, s5⟩) <;> rw [hN] at hn
 ·exact hn.elim
 ·obtain ⟨rfl, n1⟩ := hn
  refine ⟨rfl, ?_⟩
  have hre : r = some (.error (fc, fk)) := by rw [HR2.out]; simp only [hN, SynP.PR.bind]; try rfl
  rw [hre]
  exact ⟨rfl, HP5.out.wr.trans HP5.out.mv (n1)⟩
 obtain ⟨v5, a5, nv5, ns5, rfl, n1, rfl, n3⟩ := hn
 have HR3 : Hid (r = SynP.done fin (.lets x k) s5) := by show _ = _; rw [HR2.out, hN]; rfl
 have HP6 := Lib.hid (HP5.out.trans n1)
 have HF := Lib.hid n3
 have hfw := n1.few
 rw [List.nil_append] at hfw
 simp only [List.length_nil] at hfw
 obtain ⟨p, hp⟩ : ∃ p, p = k.size - 1 := ⟨_, rfl⟩
 have hp0 : ([] : List Nv).length + k.size - 1 = p := by rw [hp, List.length_nil, Nat.zero_add]
 rw [hp0]
 have HPP := Lib.hid hp
 have hkn := (KNew.fresh HP6.out.rs [p]).resolve_right (by simp)
 have HKN := Lib.hid hkn
 have HA := Lib.hid (below_alloc w5 (.cells #[.int .i64 ((p : Nat) : Int)] 3))
 have HP7 := Lib.hid (HP6.out.step (HP6.out.rs.below HA.out) (Wr.of_below HA.out))
 clear n1 n3 hN hp hp0 hkn
 go_wp2_with fail
 refine (rd_put R _ L fin a5 s5 nv5 ([] ++ ns5) _ HP7.out.rs ⟨11, x, [p]⟩ _ HKN.out (by rw [List.nil_append]; omega)).mono ?_
 rintro e w6 ⟨nv6, rfl, b1, b2, b3⟩
 have HP8 := Lib.hid (HP7.out.put b1 b2 b3 (fun q hq => by cases hq; exact HP6.out.wr.size))
 clear b1 b2 b3
 have hmap : (([] ++ ns5) ++ [((⟨11, x, [p]⟩ : SynP.Node), (Value.slice (some ⟨w5.heap.size, 0, none⟩) 1 1))]).map Prod.fst = (SynP.Ln.lets x k).flat := by
  rw [List.nil_append, List.map_append, HF.out, HPP.out]; rfl
 have HMAP := Lib.hid hmap
 clear hmap
 go_wp2_with fail
 refine (rd_done R _ L fin a5 s5 nv6 _ _ HP8.out.rs).mono ?_
 rintro e w7 ⟨rfl, b1⟩
 have HP9 := Lib.hid (HP8.out.step (HP8.out.rs.below b1) (Wr.of_below b1))
 clear b1
 by_cases hts : s5.ts = []
 ·have HR4 : Hid (r = some (.ok (.lets x k, s5))) := by show _ = _; rw [HR3.out]; unfold SynP.done; rw [if_pos hts]; rfl
  rw [decide_eq_true hts]
  clear hts
  go_wp2_with fail
  first | go_end0 | refine bodyPost_ret (results_none rfl _ _ _) rfl ?_
  rw [HR4.out]
  exact ⟨rfl, a5, nv6, _, HP9.out.rs, HP9.out.wr, HMAP.out, HP9.out.mv, HP9.out.fresh⟩
 ·have HR4 : Hid (r = SynP.unfit fin s5) := by show _ = _; rw [HR3.out]; unfold SynP.done; rw [if_neg hts]
  rw [decide_eq_false hts]
  clear hts
  go_wp2_with fail
  refine (rd_unfit R _ L fin a5 s5 nv6 _ _ HP9.out.rs).mono ?_
  rintro e w8 ⟨rfl, b1⟩
  refine ⟨rfl, ?_⟩
  rw [HR4.out]
  exact ⟨rfl, HP9.out.wr.trans HP9.out.mv ((Wr.of_below (R := R) (og := none) b1).weak _)⟩
set_option maxRecDepth 100000 in
set_option maxHeartbeats 4000000 in
theorem line_do (fin f : Nat) (R : Nat) (tv : Value) (L : List Tok) (s : SynP.St) (nv : Value) (w : World) (h : RS w R tv L fin 0 s nv []) (h0 : s.ts ≠ []) (hl : (SynP.isKind 2 s.ts && SynP.headText s.ts == SynP.letB) = false) (hne : SynP.line fin f s ≠ none) :
  Calls Tryz.prog 49 #[.pointer (some ⟨R, 0, none⟩)] w (LnP (SynP.line fin f s) R tv L fin nv w) := by
 have HS0 := Lib.hid h
 obtain ⟨r, hr⟩ : ∃ r, r = SynP.line fin f s := ⟨_, rfl⟩
 rw [← hr] at hne ⊢
 have HNE := Lib.hid hne
 have HR0 : Hid (r = (SynP.name fin s).bind fun x s => if s.ts = [] then SynP.done fin (.cmd x .nil) s else (SynP.parts fin f s).bind fun ks s => SynP.done fin (.cmd x ks) s) := by
  show _ = _
  rw [hr]; unfold SynP.line; rw [if_neg h0, if_neg (by rw [hl]; decide)]
 have HD : Hid (decide (s.ts = []) = false) := decide_eq_false h0
 have hfew := h.few
 rw [List.length_nil, Nat.zero_add] at hfew
 have C2 := Lib.hid (comes_kind 2 [] s.ts (by decide))
 obtain ⟨ao, cap, rfl, t1, t2, t3⟩ := h.tks
 have hdr := h.drop
 rw [List.drop_zero] at hdr
 obtain ⟨t, l, hts⟩ := List.exists_cons_of_ne_nil h0
 have hL0 : 0 < L.length := by rw [hdr, hts]; simp
 obtain ⟨g, rfl, hg, hcl⟩ := t3 hL0
 obtain ⟨-, d1, -⟩ := hcl 0 t (by rw [hdr, hts]; rfl)
 have ht1 : t.2.1 = SynP.headText s.ts := by rw [hts]; rfl
 rw [ht1] at d1
 have D1 := Lib.hid d1
 have hRl := h.lt
 have HRL := Lib.hid hRl
 have HL := Lib.hid hl
 obtain ⟨tt, htt⟩ : ∃ tt, tt = SynP.headText s.ts := ⟨_, rfl⟩
 rw [← htt] at D1 HL
 obtain ⟨bk, hbk⟩ : ∃ bk, bk = SynP.isKind 2 s.ts := ⟨_, rfl⟩
 rw [← hbk] at C2 HL
 have HTT : Hid (tt = SynP.headText s.ts) := htt
 clear h hr hne hl h0 t3 hcl hdr hts d1 ht1 htt hbk
 go_enter Tryz.func49, Tryz.ntmps49
 go_wp2_with fail
 refine (rd_done R _ L fin 0 s nv [] _ HS0.out).mono ?_
 rintro e w1 ⟨rfl, b1⟩
 rw [HD.out]
 have HP1 : Hid (Ln0 R (.slice (some ⟨g, 0, none⟩) L.length cap) L fin nv w w1 0 s nv []) := ⟨HS0.out.below b1, Wr.of_below b1, Mv.refl _ _, fun p hp => by cases hp⟩
 have D2 : Hid (w1.cell? ⟨g, 1, none⟩ = some (.string ⟨tt.toArray⟩)) := (b1.cell (p := ⟨g, 1, none⟩) (by show g < _; have := HRL.out; omega)).trans D1.out
 have hgl1 : g < w1.heap.size := by have := b1.size; have := HRL.out; omega
 clear b1
 go_wp2_with fail
 refine (rd_comes R _ L fin 0 s nv [] _ HP1.out.rs 0 2 [] (by omega) (by omega)).mono ?_
 rintro e w2 ⟨rfl, b1⟩
 rw [C2.out]
 have HP2 := Lib.hid (HP1.out.step (HP1.out.rs.below b1) (Wr.of_below b1))
 have e0 := HP2.out.rs.cells.1
 have e2 : w2.cell? ⟨g, 1, none⟩ = some (.string ⟨tt.toArray⟩) := (b1.cell (p := ⟨g, 1, none⟩) hgl1).trans D2.out
 have hbl : bk = true → (tt == [108, 101, 116]) = false := fun e => by
  have h1 := HL.out
  rw [e, Bool.true_and] at h1
  exact h1
 clear b1
 cases bk with
 | true =>
  have hc := hbl rfl
  clear hbl
  go_wp2_with fail
  refine (rd_name R _ L fin 0 s nv [] _ HP2.out.rs).mono ?_
  rintro e w3 hn
  rcases hN : SynP.name fin s with - | (⟨fc, fk⟩ | ⟨x, s3⟩) <;> rw [hN] at hn
  ·exact hn.elim
  ·obtain ⟨rfl, n1⟩ := hn
   refine ⟨rfl, ?_⟩
   have hre : r = some (.error (fc, fk)) := by rw [HR0.out]; simp only [hN, SynP.PR.bind]; try rfl
   rw [hre]
   exact ⟨rfl, HP2.out.wr.trans HP2.out.mv (n1.weak _)⟩
  obtain ⟨v3, a3, rfl, n1, n2, n3, rfl⟩ := hn
  have HR1 : Hid (r = if s3.ts = [] then SynP.done fin (.cmd x .nil) s3 else (SynP.parts fin f s3).bind fun ks s => SynP.done fin (.cmd x ks) s) := by show _ = _; rw [HR0.out, hN]; rfl
  have HP3 := Lib.hid (HP2.out.step n1 n2)
  have hn1 := (name_keep hN).1
  have hn2 := kind_adv (name_keep hN).2
  rw [← hn1] at hn2
  clear n1 n2 n3 hN hn1
  go_wp2_with fail
  refine (rd_done R _ L fin a3 s3 nv [] _ HP3.out.rs).mono ?_
  rintro e w4 ⟨rfl, b1⟩
  have HP4 := Lib.hid (HP3.out.step (HP3.out.rs.below b1) (Wr.of_below b1))
  clear b1
  by_cases hts : s3.ts = []
  ·have HR2 : Hid (r = SynP.done fin (.cmd x .nil) s3) := by show _ = _; rw [HR1.out, if_pos hts]
   rw [decide_eq_true hts]
   clear hts
   go_wp2_with fail
   refine (rd_put R _ L fin a3 s3 nv [] _ HP4.out.rs ⟨12, x, []⟩ _ KNew.nil (by rw [List.length_nil]; omega)).mono ?_
   rintro e w6 ⟨nv6, rfl, b1, b2, b3⟩
   have HP8 := Lib.hid (HP4.out.put b1 b2 b3 (fun q hq => by simp [Value.ownBlock] at hq))
   clear b1 b2 b3
   have HMAP : Hid (([] ++ [((⟨12, x, []⟩ : SynP.Node), (Value.slice none 0 0))]).map Prod.fst = (SynP.Ln.cmd x .nil).flat) := rfl
   go_wp2_with fail
   refine (rd_done R _ L fin a3 s3 nv6 _ _ HP8.out.rs).mono ?_
   rintro e w7 ⟨rfl, b1⟩
   have HP9 := Lib.hid (HP8.out.step (HP8.out.rs.below b1) (Wr.of_below b1))
   clear b1
   by_cases hts : s3.ts = []
   ·have HR4 : Hid (r = some (.ok (.cmd x .nil, s3))) := by show _ = _; rw [HR2.out]; unfold SynP.done; rw [if_pos hts]; rfl
    rw [decide_eq_true hts]
    clear hts
    go_wp2_with fail
    first | go_end0 | refine bodyPost_ret (results_none rfl _ _ _) rfl ?_
    rw [HR4.out]
    exact ⟨rfl, a3, nv6, _, HP9.out.rs, HP9.out.wr, HMAP.out, HP9.out.mv, HP9.out.fresh⟩
   ·have HR4 : Hid (r = SynP.unfit fin s3) := by show _ = _; rw [HR2.out]; unfold SynP.done; rw [if_neg hts]
    rw [decide_eq_false hts]
    clear hts
    go_wp2_with fail
    refine (rd_unfit R _ L fin a3 s3 nv6 _ _ HP9.out.rs).mono ?_
    rintro e w8 ⟨rfl, b1⟩
    refine ⟨rfl, ?_⟩
    rw [HR4.out]
    exact ⟨rfl, HP9.out.wr.trans HP9.out.mv ((Wr.of_below (R := R) (og := none) b1).weak _)⟩
  ·have HR2 : Hid (r = (SynP.parts fin f s3).bind fun ks s => SynP.done fin (.cmd x ks) s) := by show _ = _; rw [HR1.out, if_neg hts]
   rw [decide_eq_false hts]
   clear hts
   go_wp2_with fail
   refine ((all_ok fin f).pa R _ L a3 s3 nv [] _ HP4.out.rs (fun e => HNE.out (by rw [HR2.out, e]; rfl))).mono ?_
   rintro e w5 hn
   rcases hN : SynP.parts fin f s3 with - | (⟨fc, fk⟩ | ⟨k, s5⟩) <;> rw [hN] at hn
   ·exact hn.elim
   ·obtain ⟨rfl, n1⟩ := hn
    refine ⟨rfl, ?_⟩
    have hre : r = some (.error (fc, fk)) := by rw [HR2.out]; simp only [hN, SynP.PR.bind]; try rfl
    rw [hre]
    exact ⟨rfl, HP4.out.wr.trans HP4.out.mv (n1)⟩
   obtain ⟨v5, a5, nv5, ns5, rfl, n1, n2, n3, n4⟩ := hn
   have HR3 : Hid (r = SynP.done fin (.cmd x k) s5) := by show _ = _; rw [HR2.out, hN]; rfl
   have HP6 := Lib.hid (HP4.out.trans n1)
   have HF := Lib.hid n3
   have HKN := Lib.hid n2
   have HKF : Hid (∀ q, v5.ownBlock = some q → w.heap.size ≤ q) := fun q hq => Nat.le_trans HP4.out.wr.size (n4 q hq)
   have hfw := n1.few
   rw [List.nil_append, List.length_nil, Nat.zero_add] at hfw
   clear n1 n2 n3 n4 hN
   go_wp2_with fail
   refine (rd_put R _ L fin a5 s5 nv5 ([] ++ ns5) _ HP6.out.rs ⟨12, x, k.roots 0⟩ _ HKN.out (by rw [List.nil_append]; omega)).mono ?_
   rintro e w6 ⟨nv6, rfl, b1, b2, b3⟩
   have HP8 := Lib.hid (HP6.out.put b1 b2 b3 HKF.out)
   clear b1 b2 b3
   have hmap : (([] ++ ns5) ++ [((⟨12, x, k.roots 0⟩ : SynP.Node), v5)]).map Prod.fst = (SynP.Ln.cmd x k).flat := by
    rw [List.nil_append, List.map_append, HF.out]; rfl
   have HMAP := Lib.hid hmap
   clear hmap
   go_wp2_with fail
   refine (rd_done R _ L fin a5 s5 nv6 _ _ HP8.out.rs).mono ?_
   rintro e w7 ⟨rfl, b1⟩
   have HP9 := Lib.hid (HP8.out.step (HP8.out.rs.below b1) (Wr.of_below b1))
   clear b1
   by_cases hts : s5.ts = []
   ·have HR4 : Hid (r = some (.ok (.cmd x k, s5))) := by show _ = _; rw [HR3.out]; unfold SynP.done; rw [if_pos hts]; rfl
    rw [decide_eq_true hts]
    clear hts
    go_wp2_with fail
    first | go_end0 | refine bodyPost_ret (results_none rfl _ _ _) rfl ?_
    rw [HR4.out]
    exact ⟨rfl, a5, nv6, _, HP9.out.rs, HP9.out.wr, HMAP.out, HP9.out.mv, HP9.out.fresh⟩
   ·have HR4 : Hid (r = SynP.unfit fin s5) := by show _ = _; rw [HR3.out]; unfold SynP.done; rw [if_neg hts]
    rw [decide_eq_false hts]
    clear hts
    go_wp2_with fail
    refine (rd_unfit R _ L fin a5 s5 nv6 _ _ HP9.out.rs).mono ?_
    rintro e w8 ⟨rfl, b1⟩
    refine ⟨rfl, ?_⟩
    rw [HR4.out]
    exact ⟨rfl, HP9.out.wr.trans HP9.out.mv ((Wr.of_below (R := R) (og := none) b1).weak _)⟩
 | false =>
  clear hbl
  go_wp2_with fail
  refine (rd_name R _ L fin 0 s nv [] _ HP2.out.rs).mono ?_
  rintro e w3 hn
  rcases hN : SynP.name fin s with - | (⟨fc, fk⟩ | ⟨x, s3⟩) <;> rw [hN] at hn
  ·exact hn.elim
  ·obtain ⟨rfl, n1⟩ := hn
   refine ⟨rfl, ?_⟩
   have hre : r = some (.error (fc, fk)) := by rw [HR0.out]; simp only [hN, SynP.PR.bind]; try rfl
   rw [hre]
   exact ⟨rfl, HP2.out.wr.trans HP2.out.mv (n1.weak _)⟩
  obtain ⟨v3, a3, rfl, n1, n2, n3, rfl⟩ := hn
  have HR1 : Hid (r = if s3.ts = [] then SynP.done fin (.cmd x .nil) s3 else (SynP.parts fin f s3).bind fun ks s => SynP.done fin (.cmd x ks) s) := by show _ = _; rw [HR0.out, hN]; rfl
  have HP3 := Lib.hid (HP2.out.step n1 n2)
  have hn1 := (name_keep hN).1
  have hn2 := kind_adv (name_keep hN).2
  rw [← hn1] at hn2
  clear n1 n2 n3 hN hn1
  go_wp2_with fail
  refine (rd_done R _ L fin a3 s3 nv [] _ HP3.out.rs).mono ?_
  rintro e w4 ⟨rfl, b1⟩
  have HP4 := Lib.hid (HP3.out.step (HP3.out.rs.below b1) (Wr.of_below b1))
  clear b1
  by_cases hts : s3.ts = []
  ·have HR2 : Hid (r = SynP.done fin (.cmd x .nil) s3) := by show _ = _; rw [HR1.out, if_pos hts]
   rw [decide_eq_true hts]
   clear hts
   go_wp2_with fail
   refine (rd_put R _ L fin a3 s3 nv [] _ HP4.out.rs ⟨12, x, []⟩ _ KNew.nil (by rw [List.length_nil]; omega)).mono ?_
   rintro e w6 ⟨nv6, rfl, b1, b2, b3⟩
   have HP8 := Lib.hid (HP4.out.put b1 b2 b3 (fun q hq => by simp [Value.ownBlock] at hq))
   clear b1 b2 b3
   have HMAP : Hid (([] ++ [((⟨12, x, []⟩ : SynP.Node), (Value.slice none 0 0))]).map Prod.fst = (SynP.Ln.cmd x .nil).flat) := rfl
   go_wp2_with fail
   refine (rd_done R _ L fin a3 s3 nv6 _ _ HP8.out.rs).mono ?_
   rintro e w7 ⟨rfl, b1⟩
   have HP9 := Lib.hid (HP8.out.step (HP8.out.rs.below b1) (Wr.of_below b1))
   clear b1
   by_cases hts : s3.ts = []
   ·have HR4 : Hid (r = some (.ok (.cmd x .nil, s3))) := by show _ = _; rw [HR2.out]; unfold SynP.done; rw [if_pos hts]; rfl
    rw [decide_eq_true hts]
    clear hts
    go_wp2_with fail
    first | go_end0 | refine bodyPost_ret (results_none rfl _ _ _) rfl ?_
    rw [HR4.out]
    exact ⟨rfl, a3, nv6, _, HP9.out.rs, HP9.out.wr, HMAP.out, HP9.out.mv, HP9.out.fresh⟩
   ·have HR4 : Hid (r = SynP.unfit fin s3) := by show _ = _; rw [HR2.out]; unfold SynP.done; rw [if_neg hts]
    rw [decide_eq_false hts]
    clear hts
    go_wp2_with fail
    refine (rd_unfit R _ L fin a3 s3 nv6 _ _ HP9.out.rs).mono ?_
    rintro e w8 ⟨rfl, b1⟩
    refine ⟨rfl, ?_⟩
    rw [HR4.out]
    exact ⟨rfl, HP9.out.wr.trans HP9.out.mv ((Wr.of_below (R := R) (og := none) b1).weak _)⟩
  ·have HR2 : Hid (r = (SynP.parts fin f s3).bind fun ks s => SynP.done fin (.cmd x ks) s) := by show _ = _; rw [HR1.out, if_neg hts]
   rw [decide_eq_false hts]
   clear hts
   go_wp2_with fail
   refine ((all_ok fin f).pa R _ L a3 s3 nv [] _ HP4.out.rs (fun e => HNE.out (by rw [HR2.out, e]; rfl))).mono ?_
   rintro e w5 hn
   rcases hN : SynP.parts fin f s3 with - | (⟨fc, fk⟩ | ⟨k, s5⟩) <;> rw [hN] at hn
   ·exact hn.elim
   ·obtain ⟨rfl, n1⟩ := hn
    refine ⟨rfl, ?_⟩
    have hre : r = some (.error (fc, fk)) := by rw [HR2.out]; simp only [hN, SynP.PR.bind]; try rfl
    rw [hre]
    exact ⟨rfl, HP4.out.wr.trans HP4.out.mv (n1)⟩
   obtain ⟨v5, a5, nv5, ns5, rfl, n1, n2, n3, n4⟩ := hn
   have HR3 : Hid (r = SynP.done fin (.cmd x k) s5) := by show _ = _; rw [HR2.out, hN]; rfl
   have HP6 := Lib.hid (HP4.out.trans n1)
   have HF := Lib.hid n3
   have HKN := Lib.hid n2
   have HKF : Hid (∀ q, v5.ownBlock = some q → w.heap.size ≤ q) := fun q hq => Nat.le_trans HP4.out.wr.size (n4 q hq)
   have hfw := n1.few
   rw [List.nil_append, List.length_nil, Nat.zero_add] at hfw
   clear n1 n2 n3 n4 hN
   go_wp2_with fail
   refine (rd_put R _ L fin a5 s5 nv5 ([] ++ ns5) _ HP6.out.rs ⟨12, x, k.roots 0⟩ _ HKN.out (by rw [List.nil_append]; omega)).mono ?_
   rintro e w6 ⟨nv6, rfl, b1, b2, b3⟩
   have HP8 := Lib.hid (HP6.out.put b1 b2 b3 HKF.out)
   clear b1 b2 b3
   have hmap : (([] ++ ns5) ++ [((⟨12, x, k.roots 0⟩ : SynP.Node), v5)]).map Prod.fst = (SynP.Ln.cmd x k).flat := by
    rw [List.nil_append, List.map_append, HF.out]; rfl
   have HMAP := Lib.hid hmap
   clear hmap
   go_wp2_with fail
   refine (rd_done R _ L fin a5 s5 nv6 _ _ HP8.out.rs).mono ?_
   rintro e w7 ⟨rfl, b1⟩
   have HP9 := Lib.hid (HP8.out.step (HP8.out.rs.below b1) (Wr.of_below b1))
   clear b1
   by_cases hts : s5.ts = []
   ·have HR4 : Hid (r = some (.ok (.cmd x k, s5))) := by show _ = _; rw [HR3.out]; unfold SynP.done; rw [if_pos hts]; rfl
    rw [decide_eq_true hts]
    clear hts
    go_wp2_with fail
    first | go_end0 | refine bodyPost_ret (results_none rfl _ _ _) rfl ?_
    rw [HR4.out]
    exact ⟨rfl, a5, nv6, _, HP9.out.rs, HP9.out.wr, HMAP.out, HP9.out.mv, HP9.out.fresh⟩
   ·have HR4 : Hid (r = SynP.unfit fin s5) := by show _ = _; rw [HR3.out]; unfold SynP.done; rw [if_neg hts]
    rw [decide_eq_false hts]
    clear hts
    go_wp2_with fail
    refine (rd_unfit R _ L fin a5 s5 nv6 _ _ HP9.out.rs).mono ?_
    rintro e w8 ⟨rfl, b1⟩
    refine ⟨rfl, ?_⟩
    rw [HR4.out]
    exact ⟨rfl, HP9.out.wr.trans HP9.out.mv ((Wr.of_below (R := R) (og := none) b1).weak _)⟩
theorem line_any (fin f : Nat) (R : Nat) (tv : Value) (L : List Tok) (s : SynP.St) (nv : Value) (w : World) (h : RS w R tv L fin 0 s nv []) (hne : SynP.line fin f s ≠ none) :
  Calls Tryz.prog 49 #[.pointer (some ⟨R, 0, none⟩)] w (LnP (SynP.line fin f s) R tv L fin nv w) := by
 by_cases h0 : s.ts = []
 ·exact line_none fin f R tv L s nv w h h0
 ·cases hl : (SynP.isKind 2 s.ts && SynP.headText s.ts == SynP.letB) with
  | false => exact line_do fin f R tv L s nv w h h0 hl hne
  | true =>
   rw [Bool.and_eq_true] at hl
   exact line_let fin f R tv L s nv w h hl.1 (by simpa using hl.2) hne
end Go.Proofs.YtgfmiladfeoldaaGreatDoor
namespace Go.Proofs.YtgfmiladfeoldaaGreatDoor
open Go.RowKit NatP LexP
theorem wpS_rest {P : Program} {fn : Func} {c₀ : Frame} {cs : List Frame} {R : Ending → FrameMode → World → Prop} {c : Code} {a : Act} {w : World} (u' : FrameMode) (h : c.wp P (bodyPost P fn (fun e w' => R e u' w')) a w) :
  c.wpS P (bodyPostS P fn c₀ cs R) a ({ c₀ with mode := u' } :: cs) w := fun b k _ _ => by
 obtain ⟨e, a', w', q, r⟩ := h b k ({ c₀ with mode := u' } :: cs)
 refine ⟨e, a', _, w', ?_, r⟩
 cases e with
 | normal => exact ⟨q.1, u', rfl, q.2⟩
 | ret => exact ⟨q.1, u', rfl, q.2⟩
 | panic ch => exact ⟨q.1, u', rfl, q.2⟩
 | outgrown => exact ⟨u', q⟩
 | exit i => exact q.elim
 | goto i => exact q.elim
theorem run_assert_fault (c k : Int) (w : World) : (Instr.typeAssert (.iface 81 (.agg #[.int .i64 c, .int .i64 k])) 20 81 true).run Tryz.prog w = .ok (.tuple #[.agg #[.int .i64 c, .int .i64 k], .bool true]) w := by
 unfold Instr.typeAssert
 simp [go_sem, Tryz.underlying20]
set_option maxRecDepth 100000 in
theorem catch_fault (g c k : Nat) (x y : Value) (w : World) (hb : w.heap[g]? = some (.cells #[x, y] 81 (0, 0))) :
  CallsD Tryz.prog 92 #[.pointer (some ⟨g, 0, none⟩)] (.panicking [{ v := .iface 81 (.agg #[.int .i64 (c : Nat), .int .i64 (k : Nat)]), recovered := false }]) w fun e u' w' =>
   e = .returned (.tuple #[]) ∧ u' = .panicking [{ v := .iface 81 (.agg #[.int .i64 (c : Nat), .int .i64 (k : Nat)]), recovered := true }] ∧ w' = ((w.setCell ⟨g, 0, none⟩ (.int .i64 (c : Nat))).setCell ⟨g, 1, none⟩ (.int .i64 (k : Nat))).alloc (.cells #[.int .i64 (c : Nat), .int .i64 (k : Nat)] 81) := by
 refine callsD_of_wpS Tryz.func92 rfl fun c₀ cs hu => ?_
 have hg : g < w.heap.size := (Array.getElem?_eq_some_iff.1 hb).1
 have hz0 : w.frozen? ⟨g, 0, none⟩ = false := frozen_of_row w g 0 _ _ hb
 have hz1 : w.frozen? ⟨g, 1, none⟩ = false := frozen_of_row w g 1 _ _ hb
 have hc0 : w.cell? ⟨g, 0, none⟩ = some x := by rw [cell_of_row w g 0 _ _ _ hb]; rfl
 have hc1 : w.cell? ⟨g, 1, none⟩ = some y := by rw [cell_of_row w g 1 _ _ _ hb]; rfl
 apply wpS_seq
 apply wpS_region
 simp [wpOpsS, go_sem, recoverD, hu, Tryz.ntmps92, Exit.thenS]
 refine wpS_rest (.panicking [{ v := .iface 81 (.agg #[.int .i64 (c : Nat), .int .i64 (k : Nat)]), recovered := true }]) ?_
 clear hb
 simp only [Array.replicate_succ, Array.replicate_zero, List.push_toArray, List.append_toArray, List.nil_append, List.cons_append, List.setIfInBounds_toArray, List.set]
 have hta : ∀ (c k : Int) (w : World), (Instr.typeAssert (.iface 81 (.agg #[.int .i64 c, .int .i64 k])) 20 81 true).run Tryz.prog w = .ok (.tuple #[.agg #[.int .i64 c, .int .i64 k], .bool true]) w := run_assert_fault
 go_wp2_with fail
 go_end0
 exact ⟨rfl, trivial, rfl⟩
set_option maxRecDepth 100000 in
theorem catch_none (g : Nat) (w : World) :
  CallsD Tryz.prog 92 #[.pointer (some ⟨g, 0, none⟩)] .returning w fun e u' w' => e = .returned (.tuple #[]) ∧ u' = .returning ∧ w' = w := by
 refine callsD_of_wpS Tryz.func92 rfl fun c₀ cs hu => ?_
 apply wpS_seq
 apply wpS_region
 simp [wpOpsS, go_sem, recoverD, hu, Tryz.ntmps92, Exit.thenS]
 refine wpS_rest c₀.mode ?_
 rw [hu]
 simp only [Array.replicate_succ, Array.replicate_zero, List.push_toArray, List.append_toArray, List.nil_append, List.cons_append, List.setIfInBounds_toArray, List.set]
 go_wp2_with fail
 go_end0
 exact ⟨rfl, trivial, rfl⟩
end Go.Proofs.YtgfmiladfeoldaaGreatDoor
namespace Go.Proofs.YtgfmiladfeoldaaGreatDoor
open Go.RowKit NatP LexP
def GuP (r : SynP.PR SynP.Ln) (R : Nat) (tv : Value) (L : List Tok) (fin : Nat) (nv : Value) (w : World) (e : Ending) (w' : World) : Prop :=
 match r with
 | none => False
 | some (.error (c, k)) => e = .returned (.agg #[.int .i64 (c : Nat), .int .i64 (k : Nat)]) ∧ Wr R nv.ownBlock w w'
 | some (.ok (n, s')) => e = .returned (.agg #[.int .i64 0, .int .i64 0]) ∧ ∃ a' nv' ns', RS w' R tv L fin a' s' nv' ns' ∧ Wr R nv.ownBlock w w' ∧ ns'.map Prod.fst = n.flat
theorem Wr.sets {R g o : Nat} {og : Option Nat} {w w2 : World} (h : Wr R og w w2) (hg : w.heap.size ≤ g) (u : Value) : Wr R og w (w2.setCell ⟨g, o, none⟩ u) :=
 ⟨h.os, h.tape, h.output, by simpa [World.setCell] using h.size, fun k hk hR ho => (heap_setCell_other w2 ⟨g, o, none⟩ k u (by show k ≠ g; omega)).trans (h.block k hk hR ho)⟩
theorem Wr.allocs {R : Nat} {og : Option Nat} {w w2 : World} (h : Wr R og w w2) (x : Obj) : Wr R og w (w2.alloc x) :=
 ⟨h.os, h.tape, h.output, Nat.le_trans h.size (below_alloc w2 x).size, fun k hk hR ho => ((below_alloc w2 x).block k (Nat.lt_of_lt_of_le hk h.size)).trans (h.block k hk hR ho)⟩
theorem grown_setG {g o : Nat} (w : World) (u : Value) : w.grownBy (w.setCell ⟨g, o, none⟩ u) (some g) :=
 ⟨rfl, rfl, rfl, by simp [World.setCell], fun k _ hk => heap_setCell_other w ⟨g, o, none⟩ k u (fun e => hk (by rw [e]))⟩
set_option maxRecDepth 100000 in
theorem guarded_line (fin f : Nat) (R : Nat) (tv : Value) (L : List Tok) (s : SynP.St) (nv : Value) (w : World) (h : RS w R tv L fin 0 s nv []) (hne : SynP.line fin f s ≠ none) :
  Calls Tryz.prog 48 #[.func (.func 49) #[.pointer (some ⟨R, 0, none⟩)] #[]] w (GuP (SynP.line fin f s) R tv L fin nv w) := by
 have hmf : ∀ (fn : Fn) (first cap : Array Value) (w : World), (Instr.makeFunc fn first cap).run Tryz.prog w = .ok (.func fn first cap) w := fun _ _ _ _ => rfl
 have HA := Lib.hid (below_alloc w (.cells #[.int .i64 0, .int .i64 0] 81))
 have HS := Lib.hid (h.below HA.out)
 have hRl := h.lt
 have HB := Lib.hid (heap_alloc_new w (.cells #[.int .i64 0, .int .i64 0] 81))
 have HNE := Lib.hid hne
 have HLT : Hid (∀ q, nv.ownBlock = some q → q < w.heap.size) := fun q hq => (h.own.lt q hq).2
 clear h hne
 go_enter_defers Tryz.func48, Tryz.ntmps48
 go_wp2_with fail
 refine (line_any fin f R tv L s nv _ HS.out HNE.out).mono ?_
 rintro e w2 hn
 rcases hN : SynP.line fin f s with - | (⟨c, k⟩ | ⟨n, s'⟩) <;> rw [hN] at hn
 ·exact hn.elim
 ·obtain ⟨rfl, n1⟩ := hn
  have hb : w2.heap[w.heap.size]? = some (.cells #[.int .i64 0, .int .i64 0] 81 (0, 0)) := (n1.block w.heap.size (by simp) (by omega) (fun e => by have := HLT.out _ e.symm; omega)).trans HB.out
  have hwr := (Wr.of_below (R := R) (og := nv.ownBlock) HA.out).trans (Mv.refl _ _) n1
  have HWR := Lib.hid hwr
  clear n1 hwr
  refine leaves_cons (f := 92) (args := #[.pointer (some ⟨w.heap.size, 0, none⟩)]) (by simp) (by simp [go_sem]) ?_
  refine (catch_fault w.heap.size c k _ _ _ hb).mono ?_
  rintro e u' w3 ⟨rfl, rfl, hw3⟩
  have hfin : Wr R nv.ownBlock w w3 := by rw [hw3]; exact ((HWR.out.sets (Nat.le_refl _) _).sets (Nat.le_refl _) _).allocs _
  have hlt := (Array.getElem?_eq_some_iff.1 hb).1
  have s1 := heap_setCell_same w2 w.heap.size 0 _ 81 (.int .i64 (c : Nat)) hb
  have s2 := heap_setCell_same (w2.setCell ⟨w.heap.size, 0, none⟩ (.int .i64 (c : Nat))) w.heap.size 1 _ 81 (.int .i64 (k : Nat)) s1
  have s3 : w3.heap[w.heap.size]? = some (.cells #[.int .i64 (c : Nat), .int .i64 (k : Nat)] 81 (0, 0)) := by
   rw [hw3]
   exact ((below_alloc _ _).block w.heap.size (by simpa [World.setCell] using hlt)).trans (s2.trans (by simp))
  have q0 : w3.cell? ⟨w.heap.size, 0, none⟩ = some (.int .i64 (c : Nat)) := by rw [cell_of_row _ _ 0 _ _ _ s3]; rfl
  have q1 : w3.cell? ⟨w.heap.size, 1, none⟩ = some (.int .i64 (k : Nat)) := by rw [cell_of_row _ _ 1 _ _ _ s3]; rfl
  have HF := Lib.hid hfin
  clear s1 s2 s3 hw3 hfin hb
  simp [Leaves, settle, results, Tryz.results48, go_sem, q0, q1]
  exact ⟨rfl, HF.out⟩
 ·obtain ⟨rfl, a', nv', ns', n1, n2, n3, n4, n5⟩ := hn
  have hb : w2.heap[w.heap.size]? = some (.cells #[.int .i64 0, .int .i64 0] 81 (0, 0)) := (n2.block w.heap.size (by simp) (by omega) (fun e => by have := HLT.out _ e.symm; omega)).trans HB.out
  have hz0 : w2.frozen? ⟨w.heap.size, 0, none⟩ = false := frozen_of_row _ _ 0 _ _ hb
  have hz1 : w2.frozen? ⟨w.heap.size, 1, none⟩ = false := frozen_of_row _ _ 1 _ _ hb
  have hc0 : w2.cell? ⟨w.heap.size, 0, none⟩ = some (.int .i64 0) := by rw [cell_of_row _ _ 0 _ _ _ hb]; rfl
  have hc1 : w2.cell? ⟨w.heap.size, 1, none⟩ = some (.int .i64 0) := by rw [cell_of_row _ _ 1 _ _ _ hb]; rfl
  have hne1 : nv'.ownBlock ≠ some w.heap.size := fun e => by
   rcases n4 _ e with h1 | h1
   ·have := HLT.out _ h1; omega
   ·simp at h1; omega
  have hne2 : ∀ p ∈ ns', p.2.ownBlock ≠ some w.heap.size := fun p hp e => by
   have h1 := n5 p hp _ e
   simp at h1
   omega
  have g1 := (n1.growK (grown_setG (g := w.heap.size) (o := 0) w2 (.int .i64 0)) (fun q hq => by cases hq; exact ⟨hRl, hne1, hne2⟩)).1
  have g2 := (g1.growK (grown_setG (g := w.heap.size) (o := 1) _ (.int .i64 0)) (fun q hq => by cases hq; exact ⟨hRl, hne1, hne2⟩)).1
  have G2 := Lib.hid g2
  have HWR := Lib.hid (((((Wr.of_below (R := R) (og := nv.ownBlock) HA.out).trans (Mv.refl _ _) n2).sets (g := w.heap.size) (o := 0) (Nat.le_refl _) (.int .i64 0)).sets (g := w.heap.size) (o := 1) (Nat.le_refl _) (.int .i64 0)))
  have N3 := Lib.hid n3
  have s1 := heap_setCell_same w2 w.heap.size 0 _ 81 (.int .i64 0) hb
  have S2 := Lib.hid (heap_setCell_same (w2.setCell ⟨w.heap.size, 0, none⟩ (.int .i64 0)) w.heap.size 1 _ 81 (.int .i64 0) s1)
  clear n1 n2 n3 n4 n5 hb hne1 hne2 g1 g2 s1
  go_wp2_with fail
  refine leaves_cons (f := 92) (args := #[.pointer (some ⟨w.heap.size, 0, none⟩)]) (by simp) (by simp [go_sem]) ?_
  refine (catch_none w.heap.size _).mono ?_
  rintro e u' w3 ⟨rfl, rfl, hw3⟩
  rw [← hw3] at G2 HWR
  have q0 : w3.cell? ⟨w.heap.size, 0, none⟩ = some (.int .i64 0) := by rw [hw3, cell_of_row _ _ 0 _ _ _ S2.out]; rfl
  have q1 : w3.cell? ⟨w.heap.size, 1, none⟩ = some (.int .i64 0) := by rw [hw3, cell_of_row _ _ 1 _ _ _ S2.out]; rfl
  clear hw3
  simp [Leaves, settle, results, Tryz.results48, go_sem, q0, q1]
  rw [hN]
  exact ⟨rfl, a', nv', ns', G2.out, HWR.out, N3.out⟩
end Go.Proofs.YtgfmiladfeoldaaGreatDoor
