/- Joined texts of this claim's proof: WtH, LwP, WtI, LwB, LwD, LwE. -/
import Derived.Test.YtgfmiladfeoldaaGreatDoorPk26
import Derived.Test.YtgfmiladfeoldaaGreatDoorPk17
import Derived.Test.YtgfmiladfeoldaaGreatDoorPk1
import Derived.Deep.QuietTactic
import Derived.Test.YtgfmiladfeoldaaGreatDoorPk16
import Derived.Test.YtgfmiladfeoldaaGreatDoorPk12
import Derived.Test.YtgfmiladfeoldaaGreatDoorPk18
set_option linter.unusedSimpArgs false
set_option linter.unusedVariables false
namespace Go.Proofs.YtgfmiladfeoldaaGreatDoor
open Go.RowKit NatP LexP
theorem ownsRow_take {w : World} {B g cap n m : Nat} {e : TypeId} {xs : List Value} (h : w.ownsRow B e 1 (.slice (some ⟨g, 0, none⟩) n cap) n xs) (hm : m ≤ n) : w.ownsRow B e 1 (.slice (some ⟨g, 0, none⟩) m cap) m (xs.take m) := by
 obtain ⟨h1, h2⟩ := h
 rcases h2 with ⟨h3, -⟩ | ⟨g', cap', cur, h3, h4, h5, h6, h7, h8, h9⟩
 ·cases h3
 ·cases h3
  refine ⟨by rw [List.length_take]; omega, .inr ⟨g, cap, cur, rfl, h4, h5, by omega, h7, h8, ?_⟩⟩
  rw [← h9, List.take_take]
  congr 1
  omega
theorem ints_take (l : List Nat) (m : Nat) : (ints l).take m = ints (l.take m) := by simp [ints]
theorem below_grow {w w' w'' : World} {row : Option Nat} (h : Below w.heap.size w w') (hg : w'.grownBy w'' row) (hb : ∀ q, row = some q → w.heap.size ≤ q) : Below w.heap.size w w'' :=
 ⟨hg.os.trans h.os, hg.tape.trans h.tape, hg.output.trans h.output, Nat.le_trans h.size hg.size, fun k hk => (hg.block k (Nat.lt_of_lt_of_le hk h.size) (fun e => by have := hb k e.symm; omega)).trans (h.block k hk)⟩
def GrO (l : List SynP.NI) (w : World) (r : Bool) (fv iv : Value) (wr : World) : Prop :=
 ∃ (i : Nat) (free : List Nat), i ≤ l.length ∧ iv = .int .i64 (i : Nat) ∧ free.length ≤ i ∧ SynP.grownL SynP.WV l.length i free (l.drop i) = r ∧ wr.ownsRow w.heap.size 3 1 fv free.length (ints free) ∧ Below w.heap.size w wr
theorem grown_no {W : Int → Bytes → Bool} {n i : Nat} {free : List Nat} {x : SynP.NI} {l : List SynP.NI} (h : SynP.stepOk W n i free x = false) : SynP.grownL W n i free (x :: l) = false := by
 unfold SynP.grownL; rw [h]; rfl
theorem grown_kids {W : Int → Bytes → Bool} {n i : Nat} {free : List Nat} {x : SynP.NI} {l : List SynP.NI} (h : x.kids ≠ SynP.kidsOf free x.kids.length) : SynP.grownL W n i free (x :: l) = false := by
 unfold SynP.grownL; rw [if_neg h]; split <;> rfl
theorem grown_go {W : Int → Bytes → Bool} {n i : Nat} {free : List Nat} {x : SynP.NI} {l : List SynP.NI} (h : SynP.stepOk W n i free x = true) (hk : x.kids = SynP.kidsOf free x.kids.length) : SynP.grownL W n i free (x :: l) = SynP.grownL W n (i + 1) (free.take (free.length - x.kids.length) ++ [i]) l := by
 conv => lhs; unfold SynP.grownL
 rw [if_pos h, if_pos hk]
theorem equal_kids {w2 : World} {ap : Option Addr} {B0 B g M k N fcap : Nat} {ko : Option Addr} {kcap : Nat} {kids : List Int} {free : List Nat} (hk : k = kids.length) (hN : N = free.length) (hM : N = M + k) (hkl : KL w2 B (.slice ko k kcap) kids) (hB : B ≤ w2.heap.size)
  (how : w2.ownsRow B0 3 1 (.slice (some ⟨g, 0, none⟩) N fcap) N (ints free)) (hb : N ≤ 4096) (hap : k ≠ 0 → ap = some ⟨g, M, none⟩) (q d : Nat) :
  Calls Tryz.prog 102 #[.slice ko k kcap, .slice ap k d] (w2.drewN q) fun e w' => e = .returned (.bool (decide (kids = SynP.kidsOf free k))) ∧ ∃ m, w' = (w2.drewN q).drewN m := by
 have hkd : SynP.kidsOf free k = (free.drop M).map fun k : Nat => (k : Int) := by
  unfold SynP.kidsOf
  rw [show free.length - k = M by omega]
 have hgl : g < w2.heap.size := (how.lt g rfl).2
 have hkl2 : (SynP.kidsOf free k).length = k := by rw [hkd, List.length_map, List.length_drop]; omega
 by_cases h0 : k = 0
 ·have hkn : kids = [] := List.eq_nil_of_length_eq_zero (by omega)
  have hkk : SynP.kidsOf free k = [] := List.eq_nil_of_length_eq_zero (by omega)
  rw [hkk, hkn]
  subst h0
  exact (Tryz.slices_Equal_int_empty ko ap kcap 0 d (w2.drewN q) (by omega)).mono fun e w' ⟨h1, h2⟩ => ⟨h1, 0, h2⟩
 ·obtain rfl := hap h0
  obtain ⟨ao, cap, he, -, -, h3⟩ := hkl
  simp only [Value.slice.injEq] at he
  obtain ⟨rfl, -, rfl⟩ := he
  obtain ⟨gk, rfl, hgk, hcells⟩ := h3 (by omega)
  refine (Tryz.slices_Equal_int gk 0 k kcap g M k d kids (SynP.kidsOf free k) (w2.drewN q) (by omega) (by omega) (by omega) (by omega) (fun j hj => ?_) (fun j hj => ?_)).mono fun e w' ⟨h1, h2⟩ => ⟨h1.trans ?_, h2⟩
  ·rw [(below_drewN' w2 q).cell (p := ⟨gk, 0 + j, none⟩) (Nat.lt_of_lt_of_le hgk hB), Nat.zero_add, hcells j kids[j] (List.getElem?_eq_getElem hj)]
   simp [List.getD_eq_getElem?_getD, List.getElem?_eq_getElem hj]
  ·have hj' : M + j < free.length := by omega
   rw [(below_drewN' w2 q).cell (p := ⟨g, M + j, none⟩) hgl, how.cellAt (M + j) (by omega), hkd]
   simp [ints, List.getD_eq_getElem?_getD, List.getElem?_eq_getElem hj']
  ·rw [List.take_of_length_le (by omega), List.take_of_length_le (by omega)]
   congr 2
   rw [Bool.eq_iff_iff, beq_iff_eq, decide_eq_true_eq]
theorem gro_next {l : List SynP.NI} {w w6 : World} {r : Bool} {i M gg cap6 : Nat} {free : List Nat} (hg : SynP.grownL SynP.WV l.length (i + 1) (free.take M ++ [i]) (l.drop (i + 1)) = r)
  (hown : w6.ownsRow w.heap.size 3 1 (.slice (some ⟨gg, 0, none⟩) (M + 1) cap6) (M + 1) (ints (free.take M) ++ [.int .i64 ((i : Nat) : Int)])) (hb : Below w.heap.size w w6) (hi : i + 1 ≤ l.length) (hM : M ≤ i) (hMf : M ≤ free.length) :
  GrO l w r (.slice (some ⟨gg, 0, none⟩) (M + 1) cap6) (.int .i64 ((i + 1 : Nat) : Int)) w6 := by
 have e : (free.take M ++ [i]).length = M + 1 := by rw [List.length_append, List.length_take]; simp; omega
 refine ⟨i + 1, free.take M ++ [i], hi, rfl, by rw [e]; omega, hg, ?_, hb⟩
 rw [e]
 have e2 : ints (free.take M ++ [i]) = ints (free.take M) ++ [.int .i64 ((i : Nat) : Int)] := by simp [ints]
 rw [e2]
 exact hown
set_option maxRecDepth 100000 in
set_option maxHeartbeats 8000000 in
theorem grown_of (v : Value) (l : List SynP.NI) (w : World) (B : Nat) (hl : l.length ≤ 4096) (hwt : ∀ x ∈ l, ∀ kv w', Below w.heap.size w w' → Calls Tryz.prog 101 #[.agg #[.int .i64 x.op, .string ⟨x.text.toArray⟩, kv]] w' (WtPost x.op x.text w')) (hv : NdL w B v l) (hB : B ≤ w.heap.size) :
  Calls Tryz.prog 50 #[v] w fun e w' => e = .returned (.bool (SynP.grownL SynP.WV l.length 0 [] l)) ∧ Below w.heap.size w w' := by
 obtain ⟨i0, hi0, hz0, hz1, hz02⟩ := info_parts Tryz.infoInt
 have HV := Lib.hid hv
 have HWT := Lib.hid hwt
 obtain ⟨ao, cap, rfl, hnc, hcm, -⟩ := hv
 obtain ⟨n, hn⟩ : ∃ n, n = l.length := ⟨_, rfl⟩
 obtain ⟨r, hr⟩ : ∃ r, r = SynP.grownL SynP.WV l.length 0 [] l := ⟨_, rfl⟩
 have HR := Lib.hid hr
 rw [← hr]
 rw [← hn] at hl hnc ⊢
 have HN := Lib.hid hn
 clear hn hr hwt hcm
 go_enter Tryz.func50, Tryz.ntmps50
 go_wp2_with fail
 go_loopw [3, 9] (fun fv iv wr => GrO l w r fv iv wr) (fun _ iv _ => n - (intOf iv).toNat)
 case atStart => exact ⟨0, [], Nat.zero_le _, rfl, Nat.zero_le _, HR.out.symm, ⟨rfl, .inl ⟨rfl, rfl⟩⟩, Below.refl _ _⟩
 case round =>
  obtain ⟨i, free, hi, rfl, hfi, hg, hown, hb⟩ := hrel
  rw [← HN.out] at hi hg
  have HG := Lib.hid hg
  have HOW := Lib.hid hown
  have HB := Lib.hid hb
  have hzb := hb.size
  have HVR := Lib.hid (HV.out.below (hb.mono hB))
  obtain ⟨fo, fcap, rfl, f1, f2, f3⟩ := ownsRow_shape hown
  obtain ⟨N, hNe⟩ : ∃ N, N = free.length := ⟨_, rfl⟩
  rw [← hNe] at hfi f1 HOW ⊢
  have HNe := Lib.hid hNe
  clear hg hown hb f3 hNe
  by_cases hlt : i < n
  ·obtain ⟨x, hx⟩ : ∃ x, l[i]? = some x := ⟨_, List.getElem?_eq_getElem (by rw [← HN.out]; exact hlt)⟩
   have HG2 : Hid (SynP.grownL SynP.WV n i free (x :: l.drop (i + 1)) = r) := by
    show _ = _
    rw [← HG.out]
    congr 1
    obtain ⟨h1, h2⟩ := List.getElem?_eq_some_iff.1 hx
    rw [List.drop_eq_getElem_cons h1, h2]
   have HWX := Lib.hid (HWT.out x (List.mem_of_getElem? hx))
   obtain ⟨ao2, cap2, he, -, -, hc⟩ := HVR.out
   cases he
   obtain ⟨gt, rfl, hgt, hcell⟩ := hc (by rw [← HN.out]; omega)
   obtain ⟨e0, e1, kv, e2, hkl⟩ := hcell i x hx
   have HKL := Lib.hid hkl
   obtain ⟨ko, kcap, rfl, k1, k2, k3⟩ := hkl
   obtain ⟨op, text, kids⟩ := x
   simp only at e0 e1 e2 HWX HKL k1 k2 k3
   obtain ⟨k, hke⟩ : ∃ k, k = kids.length := ⟨_, rfl⟩
   rw [← hke] at e2 k1 HKL
   obtain ⟨T, hT⟩ : ∃ T : ByteArray, T = ⟨text.toArray⟩ := ⟨_, rfl⟩
   rw [← hT] at e1
   have HTT := Lib.hid hT
   have HKE := Lib.hid hke
   clear hc hcell hx hT hke k3
   obtain ⟨w1, hw1⟩ : ∃ w1, w1 = wr.alloc (.cells #[.int .i64 op, .string T, .slice ko k kcap] 43) := ⟨_, rfl⟩
   have hb1 : Below wr.heap.size wr w1 := by rw [hw1]; exact below_alloc _ _
   have hg1 : w1.heap[wr.heap.size]? = some (.cells #[.int .i64 op, .string T, .slice ko k kcap] 43 (0, 0)) := by rw [hw1]; exact heap_alloc_new _ _
   have hzw1 : w1.heap.size = wr.heap.size + 1 := by rw [hw1]; simp
   have d0 : w1.cell? ⟨wr.heap.size, 0, none⟩ = some (.int .i64 op) := by rw [cell_of_row _ _ 0 _ _ _ hg1]; rfl
   have d1 : w1.cell? ⟨wr.heap.size, 1, none⟩ = some (.string T) := by rw [cell_of_row _ _ 1 _ _ _ hg1]; rfl
   have d2 : w1.cell? ⟨wr.heap.size, 2, none⟩ = some (.slice ko k kcap) := by rw [cell_of_row _ _ 2 _ _ _ hg1]; rfl
   have HB1 := Lib.hid hb1
   have HGB := Lib.hid hg1
   have hbw1 : Below w.heap.size w w1 := HB.out.trans (hb1.mono hzb)
   have HBW1 := Lib.hid hbw1
   have HWC := Lib.hid (HWX.out (.slice ko k kcap) w1 hbw1)
   rw [← HTT.out] at HWC
   clear hb1 hg1 hbw1 HV
   have hA : ∃ b c : Bool, SynP.wholeI op = b ∧ ((((i : Nat) : Int) == ((n : Nat) : Int) - 1) = c) ∧ (i + 1 == n) = c := ⟨_, _, rfl, rfl, by rw [Bool.eq_iff_iff]; simp; omega⟩
   obtain ⟨b, c, ha1, ha2, ha3⟩ := hA
   have HA1 := Lib.hid ha1
   have HA3 := Lib.hid ha3
   clear ha1 ha3
   by_cases hbc : b = c
   ·
    subst hbc
    cases hcn : SynP.cnt op k with
    | false =>
     have HCN := Lib.hid hcn
     have hF : Hid (r = false) := by show _ = _; rw [← HG2.out]; refine grown_no ?_; unfold SynP.stepOk; simp only; rw [← HKE.out, HCN.out]; simp
     clear hcn
     cases b
     all_goals
      go_wp2_with fail
      rw [← hw1]
      clear hw1
      refine (whole_any op _).mono ?_
      rintro e w2 ⟨rfl, rfl⟩
      rw [HA1.out]
      go_wp2_with fail
      refine (count_any op k _).mono ?_
      rintro e w2 ⟨rfl, rfl⟩
      rw [HCN.out]
      go_wp2_with fail
      go_ret
      exact ⟨by rw [hF.out]; rfl, HBW1.out⟩
    | true =>
     have HCN := Lib.hid hcn
     clear hcn
     by_cases hkN : N < k
     ·have hF : Hid (r = false) := by show _ = _; rw [← HG2.out]; refine grown_no ?_; unfold SynP.stepOk; simp only; rw [← HKE.out, ← HNe.out, decide_eq_true hkN]; simp
      have hdk : decide (((N : Nat) : Int) < ((k : Nat) : Int)) = true := decide_eq_true (by omega)
      cases b
      all_goals
       go_wp2_with fail
       rw [← hw1]
       clear hw1
       refine (whole_any op _).mono ?_
       rintro e w2 ⟨rfl, rfl⟩
       rw [HA1.out]
       go_wp2_with fail
       refine (count_any op k _).mono ?_
       rintro e w2 ⟨rfl, rfl⟩
       rw [HCN.out]
       go_wp2_with fail
       go_ret
       exact ⟨by rw [hF.out]; rfl, HBW1.out⟩
     ·have hdk : decide (((N : Nat) : Int) < ((k : Nat) : Int)) = false := decide_eq_false (by omega)
      cases hwv : SynP.WV op text with
      | false =>
       have HWV := Lib.hid hwv
       have hF : Hid (r = false) := by show _ = _; rw [← HG2.out]; refine grown_no ?_; unfold SynP.stepOk; simp only; rw [HWV.out]; simp
       clear hwv
       cases b
       all_goals
        go_wp2_with fail
        rw [← hw1]
        clear hw1
        refine (whole_any op _).mono ?_
        rintro e w2 ⟨rfl, rfl⟩
        rw [HA1.out]
        go_wp2_with fail
        refine (count_any op k _).mono ?_
        rintro e w2 ⟨rfl, rfl⟩
        rw [HCN.out]
        go_wp2_with fail
        refine HWC.out.mono ?_
        rintro e w2 ⟨rfl, hb2⟩
        rw [HWV.out]
        have HB2 := Lib.hid (below_next HBW1.out hb2)
        clear hb2
        go_wp2_with fail
        go_ret
        exact ⟨by rw [hF.out]; rfl, HB2.out⟩
      | true =>
       have HWV := Lib.hid hwv
       have hST : Hid (SynP.stepOk SynP.WV n i free ⟨op, text, kids⟩ = true) := by
        show _ = _
        unfold SynP.stepOk
        simp only
        rw [HWV.out, ← HKE.out, HCN.out, ← HNe.out, HA1.out, HA3.out, decide_eq_false hkN]
        simp
       clear hwv
       cases b
       all_goals
        go_wp2_with fail
        rw [← hw1]
        clear hw1
        refine (whole_any op _).mono ?_
        rintro e w2 ⟨rfl, rfl⟩
        rw [HA1.out]
        go_wp2_with fail
        refine (count_any op k _).mono ?_
        rintro e w2 ⟨rfl, rfl⟩
        rw [HCN.out]
        go_wp2_with fail
        refine HWC.out.mono ?_
        rintro e w2 ⟨rfl, hb2⟩
        rw [HWV.out]
        have hg2 := (hb2.block wr.heap.size (by omega)).trans HGB.out
        have c2 : w2.cell? ⟨wr.heap.size, 2, none⟩ = some (.slice ko k kcap) := by rw [cell_of_row _ _ 2 _ _ _ hg2]; rfl
        have hbr2 : Below wr.heap.size wr w2 := below_next HB1.out hb2
        have HB2 := Lib.hid (HB.out.trans (hbr2.mono hzb))
        have HOW2 := Lib.hid (ownsRow_below HOW.out hbr2 (Nat.le_refl _))
        have HKL2 := Lib.hid (HKL.out.below (hbr2.mono (Nat.le_trans hB hzb)))
        have hz2 : w.heap.size ≤ w2.heap.size := Nat.le_trans hzb hbr2.size
        obtain ⟨M, hM⟩ : ∃ M, N = M + k := ⟨N - k, by omega⟩
        have HMM := Lib.hid hM
        have hsub : ((N : Nat) : Int) - ((k : Nat) : Int) = ((M : Nat) : Int) := by omega
        have hlen : N - M = k := by omega
        have hMN : M ≤ N := by omega
        clear hb2 hg2 hbr2 hM d0 d1 d2
        rcases HOW2.out.2 with ⟨he, hN0⟩ | ⟨g, fc, cur, he, hg1, -, hfc, hfm, -, -⟩
        ·cases he
         have hk0 : k = 0 := by omega
         have hM0 : M = 0 := by omega
         subst hk0
         subst hM0
         have hkn : kids = [] := List.eq_nil_of_length_eq_zero HKE.out.symm
         have HG3 : Hid (SynP.grownL SynP.WV n (i + 1) (free.take 0 ++ [i]) (l.drop (i + 1)) = r) := by
          show _ = _
          rw [← HG2.out, grown_go hST.out (by subst hkn; simp [SynP.kidsOf])]
          subst hkn
          rw [show free.length - ([] : List Int).length = 0 from by have h0 : free.length = 0 := HNe.out.symm; rw [h0]; rfl]
         have HTV : Hid (w2.ownsRow w.heap.size 3 1 (.slice none 0 0) 0 (ints (free.take 0))) := ⟨rfl, .inl ⟨rfl, rfl⟩⟩
         have HOWQ : Hid (∀ q, (Value.slice none 0 0).ownBlock = some q → w.heap.size ≤ q) := fun q hq => by cases hq
         have HQ : Hid (∀ w3, Calls Tryz.prog 102 #[.slice ko 0 kcap, .slice none 0 0] w3 fun e w' => e = .returned (.bool true) ∧ w' = w3) := fun w3 => Tryz.slices_Equal_int_empty ko none kcap 0 0 w3 (by omega)
         go_wp2_with fail
         go_quiet ((go_at_call 102; exact Calls.quiet_of_same (HQ.out _)))
         obtain ⟨w4, hw4⟩ : ∃ w4, w4 = w2.drewN nq := ⟨_, rfl⟩
         have HB4 : Hid (Below w.heap.size w w4) := by show Below _ _ _; rw [hw4]; exact below_next HB2.out (below_drewN' w2 nq)
         have HT4 : Hid (w4.ownsRow w.heap.size 3 1 (.slice none 0 0) 0 (ints (free.take 0))) := by show World.ownsRow _ _ _ _ _ _ _; rw [hw4]; exact ownsRow_below HTV.out (below_drewN' w2 nq) (Nat.le_refl _)
         have hz4 : w.heap.size ≤ w4.heap.size := HB4.out.size
         rw [← hw4]
         clear hw4
         go_wp2_with (at_builtin; refine wpList_append_lies _ rfl _ _ 41 rfl w.heap.size 3 i0 (.int .i64 0) 1 8 Tryz.underlying41 hi0 hz0 hz1 hz02 rfl (by omega) (.slice none 0 0) 0 (ints (free.take 0)) rfl (HT4.out.alloc _) ⟨w4.heap.size, 0, none⟩ 1 1 [.int .i64 ((i : Nat) : Int)] rfl rfl (LexP.cells_new _ _ _ _ rfl) (by simp [Value.oneCell']) (by omega) (by unfold maxLen; omega) (by omega) (by simp; omega) (w4.heap.size + 1) (by simp) ?_)
         intro gg cap6 w6 hown6 hgrow6 hat6 hlt6
         have HB6 : Hid (Below w.heap.size w w6) := below_grow (HB4.out.alloc hz4 _) hgrow6 (fun q hq => HOWQ.out q hq)
         have HF6 : Hid (GrO l w r (.slice (some ⟨gg, 0, none⟩) (0 + 1) cap6) (.int .i64 ((i + 1 : Nat) : Int)) w6) := gro_next (HN.out ▸ HG3.out) hown6 HB6.out (by rw [← HN.out]; omega) (by omega) (HNe.out ▸ by omega)
         clear hown6 hgrow6 hat6 hlt6
         go_wp2_with fail
         have hm6 : n - (intOf (.int .i64 (((i : Nat) : Int) + 1))).toNat < n - (intOf (.int .i64 ((i : Nat) : Int))).toNat := by simp [intOf]; omega
         have hi1 : (((i + 1 : Nat) : Int)) = ((i : Nat) : Int) + 1 := by omega
         rw [hi1] at HF6
         first | exact ⟨HF6.out, hm6⟩ | exact ⟨by (repeat apply Exists.intro); exact ⟨HF6.out, rfl⟩, hm6⟩
        ·cases he
         obtain ⟨ap, happ⟩ : ∃ ap, (if fcap = M then some (⟨g, 0, none⟩ : Addr) else some ⟨g, M, none⟩) = ap := ⟨_, rfl⟩
         have HQ : Hid (∀ q d, Calls Tryz.prog 102 #[.slice ko k kcap, .slice ap k d] (w2.drewN q) fun e w' => e = .returned (.bool (decide (kids = SynP.kidsOf free k))) ∧ ∃ m, w' = (w2.drewN q).drewN m) :=
          fun q d => equal_kids HKE.out HNe.out HMM.out HKL2.out (Nat.le_trans hB hz2) HOW2.out (by omega) (fun h0 => by rw [← happ]; exact if_neg (by omega)) q d
         have HTV : Hid (w2.ownsRow w.heap.size 3 1 (.slice (some ⟨g, 0, none⟩) M fcap) M (ints (free.take M))) := by
          show World.ownsRow _ _ _ _ _ _ _
          rw [← ints_take]
          exact ownsRow_take HOW2.out hMN
         have hs0 : (0 : Int) ≤ ((M : Nat) : Int) := by omega
         have hs1 : ((M : Nat) : Int) ≤ ((N : Nat) : Int) := by omega
         have hs2 : ((N : Nat) : Int) ≤ ((fcap : Nat) : Int) := by omega
         have hwM : IntKind.i64.wrap ((M : Nat) : Int) = ((M : Nat) : Int) := IntWalk.i64_in _ (by omega)
         have HOWQ : Hid (∀ q, (Value.slice (some ⟨g, 0, none⟩) M fcap).ownBlock = some q → w.heap.size ≤ q) := fun q hq => by cases hq; exact hg1
         by_cases hkq : kids = SynP.kidsOf free k
         ·have HG3 : Hid (SynP.grownL SynP.WV n (i + 1) (free.take M ++ [i]) (l.drop (i + 1)) = r) := by
           show _ = _
           rw [← HG2.out, grown_go hST.out (by simp only; rw [← HKE.out]; exact hkq)]
           rw [show free.length - kids.length = M by rw [← HKE.out, ← HNe.out]; have := HMM.out; omega]
          rw [decide_eq_true hkq] at HQ
          clear hkq
          go_wp2_with fail
          go_quiet ((go_at_call 102; exact Calls.quiet_of (HQ.out _ _)))
          obtain ⟨w4, hw4⟩ : ∃ w4, w4 = w2.drewN nq := ⟨_, rfl⟩
          have HB4 : Hid (Below w.heap.size w w4) := by show Below _ _ _; rw [hw4]; exact below_next HB2.out (below_drewN' w2 nq)
          have HT4 : Hid (w4.ownsRow w.heap.size 3 1 (.slice (some ⟨g, 0, none⟩) M fcap) M (ints (free.take M))) := by show World.ownsRow _ _ _ _ _ _ _; rw [hw4]; exact ownsRow_below HTV.out (below_drewN' w2 nq) (Nat.le_refl _)
          have hz4 : w.heap.size ≤ w4.heap.size := HB4.out.size
          rw [← hw4]
          clear hw4
          go_wp2_with (at_builtin; refine wpList_append_lies _ rfl _ _ 41 rfl w.heap.size 3 i0 (.int .i64 0) 1 8 Tryz.underlying41 hi0 hz0 hz1 hz02 rfl (by omega) (.slice (some ⟨g, 0, none⟩) M fcap) M (ints (free.take M)) rfl (HT4.out.alloc _) ⟨w4.heap.size, 0, none⟩ 1 1 [.int .i64 ((i : Nat) : Int)] rfl rfl (LexP.cells_new _ _ _ _ rfl) (by simp [Value.oneCell']) (by omega) (by unfold maxLen; omega) (by omega) (by simp; omega) (w4.heap.size + 1) (by simp) ?_)
          intro gg cap6 w6 hown6 hgrow6 hat6 hlt6
          have HB6 : Hid (Below w.heap.size w w6) := below_grow (HB4.out.alloc hz4 _) hgrow6 (fun q hq => HOWQ.out q hq)
          have HF6 : Hid (GrO l w r (.slice (some ⟨gg, 0, none⟩) (M + 1) cap6) (.int .i64 ((i + 1 : Nat) : Int)) w6) := gro_next (HN.out ▸ HG3.out) hown6 HB6.out (by rw [← HN.out]; omega) (by omega) (HNe.out ▸ by omega)
          clear hown6 hgrow6 hat6 hlt6
          go_wp2_with fail
          have hm6 : n - (intOf (.int .i64 (((i : Nat) : Int) + 1))).toNat < n - (intOf (.int .i64 ((i : Nat) : Int))).toNat := by simp [intOf]; omega
          have hi1 : (((i + 1 : Nat) : Int)) = ((i : Nat) : Int) + 1 := by omega
          rw [hi1] at HF6
          first | exact ⟨HF6.out, hm6⟩ | exact ⟨by (repeat apply Exists.intro); exact ⟨HF6.out, rfl⟩, hm6⟩
         ·have hF : Hid (r = false) := by
           show _ = _
           rw [← HG2.out, grown_kids (by simp only; rw [← HKE.out]; exact hkq)]
          rw [decide_eq_false hkq] at HQ
          clear hkq
          go_wp2_with fail
          go_quiet ((go_at_call 102; exact Calls.quiet_of (HQ.out _ _)))
          go_wp2_with fail
          go_ret
          exact ⟨by rw [hF.out]; rfl, below_next HB2.out (below_drewN' w2 nq)⟩
   ·have hF : Hid (r = false) := by
     show _ = _
     rw [← HG2.out]
     refine grown_no ?_
     unfold SynP.stepOk
     simp only
     rw [HA1.out, HA3.out]
     cases b <;> cases c <;> first | exact absurd rfl hbc | simp
    cases b <;> cases c <;> first | exact absurd rfl hbc | skip
    all_goals
     go_wp2_with fail
     rw [← hw1]
     clear hw1
     refine (whole_any op _).mono ?_
     rintro e w2 ⟨rfl, rfl⟩
     rw [HA1.out]
     go_wp2_with fail
     go_ret
     exact ⟨by rw [hF.out]; rfl, HBW1.out⟩
  ·obtain rfl : i = n := by omega
   have HF : Hid (r = (N == 1)) := by show _ = _; rw [← HG.out, HN.out, List.drop_length, HNe.out]; rfl
   have hN1 : (((N : Nat) : Int) == 1) = (N == 1) := by rw [Bool.eq_iff_iff]; simp; omega
   clear hlt
   go_wp2_with fail
   go_ret
   exact ⟨by rw [HF.out]; rfl, HB.out⟩
end Go.Proofs.YtgfmiladfeoldaaGreatDoor
namespace Go.Proofs.YtgfmiladfeoldaaGreatDoor
open NatP LexP
def wakeB : Bytes := [112, 114, 105, 110, 116, 32, 45, 65, 39, 94, 50]
def wakeLn : SynP.Ln := .cmd [112, 114, 105, 110, 116] (.cons (.neg (.pow (.turn (.name [65])) 2)) .nil)
theorem wake_pr : wakeLn.pr = wakeB := by
 have e : SynP.decT 2 = [50] := by kernel_rfl
 simp [wakeLn, SynP.Ln.pr, SynP.Exs.pr, SynP.Ex.pr, e, wakeB, SynP.par, SynP.loose, SynP.Ex.op, SynP.isProd, SynP.isSum, SynP.Exs.prTail]
theorem wake_nL : SynP.nL wakeLn.flat = [⟨2, [65], []⟩, ⟨5, [], [0]⟩, ⟨9, [50], [1]⟩, ⟨4, [], [2]⟩, ⟨12, [112, 114, 105, 110, 116], [3]⟩] := by
 have e : SynP.decT 2 = [50] := by kernel_rfl
 simp [wakeLn, SynP.Ln.flat, SynP.Exs.flat, SynP.Ex.flat, SynP.Ex.size, SynP.Exs.roots, SynP.nL, SynP.Node.toI, e]
end Go.Proofs.YtgfmiladfeoldaaGreatDoor
namespace Go.Proofs.YtgfmiladfeoldaaGreatDoor
open Go.RowKit NatP LexP
def PrPost (n : SynP.Ln) (w : World) (e : Ending) (w' : World) : Prop :=
 (if 100 < n.dp then e = .returned (.tuple #[.string .empty, .int .i64 5]) else e = .returned (.tuple #[.string ⟨n.pr.toArray⟩, .int .i64 0])) ∧ Below w.heap.size w w'
theorem WrS.new (w : World) (tv : Value) : WrS (w.alloc (.cells #[tv, .pointer none, .slice none 0 0, .int .i64 0, .int .i64 0] 92)) w.heap.size tv (.slice none 0 0) [] 0 0 :=
 ⟨⟨.pointer none, .inl rfl, heap_alloc_new _ _⟩, ⟨rfl, .inl ⟨rfl, rfl⟩⟩, Nat.le_refl _⟩
set_option maxRecDepth 100000 in
set_option maxHeartbeats 2000000 in
theorem print_of (n : SynP.Ln) (v : Value) (w : World) (B : Nat) (hm4 : n.size ≤ 4096) (hprl : n.pr.length ≤ 67108864) (hln : LnOk n) (hgr : SynP.grownL SynP.WV (SynP.nL n.flat).length 0 [] (SynP.nL n.flat) = true)
  (hc : Calls Tryz.prog 50 #[v] w fun e w' => e = .returned (.bool (SynP.grownL SynP.WV (SynP.nL n.flat).length 0 [] (SynP.nL n.flat))) ∧ Below w.heap.size w w') (hv : NdL w B v (SynP.nL n.flat)) (hB : B ≤ w.heap.size) :
  Calls Tryz.prog 14 #[v] w (PrPost n w) := by
 have hlen : (SynP.nL n.flat).length = n.size := by rw [SynP.nL, List.length_map, ln_size]
 have hm0 : 0 < n.size := by cases n <;> simp [SynP.Ln.size]
 have HC := Lib.hid hc
 have HG := Lib.hid hgr
 have HV := Lib.hid hv
 have HF := Lib.hid hprl
 have HLN := Lib.hid hln
 have HL := Lib.hid hlen
 obtain ⟨ao, cap, rfl, -⟩ := hv
 rw [hlen] at HC HV ⊢
 rw [hlen] at HG
 obtain ⟨m, hmm⟩ : ∃ m, m = n.size := ⟨_, rfl⟩
 rw [← hmm] at hm4 hm0 HC HV HG HL ⊢
 have HMM := Lib.hid hmm
 have hm1 : ((m : Nat) : Int) - 1 = ((m - 1 : Nat) : Int) := by omega
 have HM1 := Lib.hid hm1
 clear hmm hprl hln hgr hc hlen hm1
 go_enter Tryz.func14, Tryz.ntmps14
 go_wp2_with fail
 refine HC.out.mono ?_
 rintro e w1 ⟨rfl, hb⟩
 rw [HG.out]
 have HB1 := Lib.hid hb
 have hz1 := hb.size
 clear hb
 go_wp2_with fail
 obtain ⟨w2, hw2⟩ : ∃ w2, w2 = w1.alloc (.cells #[.slice ao m cap, .pointer none, .slice none 0 0, .int .i64 0, .int .i64 0] 92) := ⟨_, rfl⟩
 have HW2 : Hid (WrS w2 w1.heap.size (.slice ao m cap) (.slice none 0 0) [] 0 0) := by show WrS _ _ _ _ _ _ _; rw [hw2]; exact WrS.new _ _
 have HBB : Hid (Below w1.heap.size w1 w2) := by show Below _ _ _; rw [hw2]; exact below_alloc _ _
 rw [← hw2, HM1.out]
 clear hw2
 obtain ⟨R, hR⟩ : ∃ R, R = w1.heap.size := ⟨_, rfl⟩
 rw [← hR] at HW2 HBB hz1 ⊢
 have HR := Lib.hid hR
 clear hR
 have HND : Hid (NdL w2 R (.slice ao m cap) (SynP.nL n.flat)) := (HV.out.up (HB1.out.mono hB) (by omega)).below HBB.out
 rw [HMM.out]
 refine (HLN.out (SynP.nL n.flat) R (.slice ao m cap) (.slice none 0 0) [] 0 0 w2 HW2.out HND.out (SynP.SegN.all _) (by have := HF.out; simp; omega) (by have := HMM.out; omega)).mono ?_
 rintro e w3 ⟨rfl, bv, a1, a2, -⟩
 have HA1 := Lib.hid a1
 have HB3 : Hid (Below w.heap.size w w3) := by
  refine Wr.belowR (R := R) a2 ?_ hz1
  exact HB1.out.trans (HBB.out.mono hz1)
 obtain ⟨-, -, c4⟩ := a1.cells
 have hmx : max 0 (0 + n.dp) = n.dp := by omega
 rw [hmx] at c4
 clear a1 a2 hmx
 by_cases hd : 100 < n.dp
 ·have hd2 : decide ((100 : Int) < (n.dp : Nat)) = true := decide_eq_true (by omega)
  have HD := Lib.hid hd
  clear hd
  go_wp2_with fail
  go_ret2
  unfold PrPost
  rw [if_pos HD.out]
  exact ⟨rfl, HB3.out⟩
 ·have hd2 : decide ((100 : Int) < (n.dp : Nat)) = false := decide_eq_false (by omega)
  have HD := Lib.hid hd
  clear hd
  go_wp2_with fail
  refine (bld_string R (.slice ao m cap) bv _ _ _ w3 HA1.out).mono ?_
  rintro e w4 ⟨rfl, hb4⟩
  have HB4 := Lib.hid (HB3.out.trans (hb4.mono hz1))
  clear hb4
  go_wp2_with fail
  go_ret2
  unfold PrPost
  rw [if_neg HD.out]
  exact ⟨rfl, HB4.out⟩
end Go.Proofs.YtgfmiladfeoldaaGreatDoor
namespace Go.Proofs.YtgfmiladfeoldaaGreatDoor
open Go.RowKit NatP LexP
end Go.Proofs.YtgfmiladfeoldaaGreatDoor
namespace Go.Proofs.YtgfmiladfeoldaaGreatDoor
open Go.RowKit NatP LexP
def wakeT : ByteArray := ⟨#[112, 114, 105, 110, 116, 32, 45, 65, 39, 94, 50]⟩
end Go.Proofs.YtgfmiladfeoldaaGreatDoor
namespace Go.Proofs.YtgfmiladfeoldaaGreatDoor
open Go.RowKit NatP LexP
end Go.Proofs.YtgfmiladfeoldaaGreatDoor
