/- Joined texts of this claim's proof: WtH, Pa2, LwP. -/
import Derived.Test.YtgfmiladfeoldaaGreatDoorPl40
import Derived.Test.YtgfmiladfeoldaaGreatDoorPl41
import Derived.Test.YtgfmiladfeoldaaGreatDoorPl1
import Derived.Deep.QuietTactic
import Derived.Test.YtgfmiladfeoldaaGreatDoorPl35
import Derived.Test.YtgfmiladfeoldaaGreatDoorPl39
import Derived.Test.YtgfmiladfeoldaaGreatDoorPl36
import Derived.Test.YtgfmiladfeoldaaGreatDoorPl34
set_option linter.unusedSimpArgs false
set_option linter.unusedVariables false
namespace Go.Proofs.YtgfmiladfeoldaaGreatDoor
open Go.RowKit NatP LexP
theorem ownsRow_take {w : World} {B g cap n m : Nat} {e : TypeId} {xs : List Value} (h : w.ownsRow B e 1 (.slice (some ⟨g, 0, none⟩) n cap) n xs) (hm : m ≤ n) : w.ownsRow B e 1 (.slice (some ⟨g, 0, none⟩) m cap) m (xs.take m) := by
 obtain ⟨h1, h2⟩ := h
 rcases h2 with ⟨h3, -⟩ | ⟨g', cap', cur, h3, h4, h5, h6, h7, h8, h9⟩
 ·cases h3
 ·cases h3
  refine ⟨by rw [List.length_take]; omega, .inr ⟨g, cap, cur, rfl, h4, h5, by omega, h7, h8, ?_⟩⟩
  rw [← h9, List.take_take]
  congr 1
  omega
theorem ints_take (l : List Nat) (m : Nat) : (ints l).take m = ints (l.take m) := by simp [ints]
theorem below_grow {w w' w'' : World} {row : Option Nat} (h : Below w.heap.size w w') (hg : w'.grownBy w'' row) (hb : ∀ q, row = some q → w.heap.size ≤ q) : Below w.heap.size w w'' :=
 ⟨hg.os.trans h.os, hg.tape.trans h.tape, hg.output.trans h.output, Nat.le_trans h.size hg.size, fun k hk => (hg.block k (Nat.lt_of_lt_of_le hk h.size) (fun e => by have := hb k e.symm; omega)).trans (h.block k hk)⟩
def GrO (l : List SynP.NI) (w : World) (r : Bool) (fv iv : Value) (wr : World) : Prop :=
 ∃ (i : Nat) (free : List Nat), i ≤ l.length ∧ iv = .int .i64 (i : Nat) ∧ free.length ≤ i ∧ SynP.grownL SynP.WV l.length i free (l.drop i) = r ∧ wr.ownsRow w.heap.size 3 1 fv free.length (ints free) ∧ Below w.heap.size w wr
theorem grown_no {W : Int → Bytes → Bool} {n i : Nat} {free : List Nat} {x : SynP.NI} {l : List SynP.NI} (h : SynP.stepOk W n i free x = false) : SynP.grownL W n i free (x :: l) = false := by
 unfold SynP.grownL; rw [h]; rfl
theorem grown_kids {W : Int → Bytes → Bool} {n i : Nat} {free : List Nat} {x : SynP.NI} {l : List SynP.NI} (h : x.kids ≠ SynP.kidsOf free x.kids.length) : SynP.grownL W n i free (x :: l) = false := by
 unfold SynP.grownL; rw [if_neg h]; split <;> rfl
theorem grown_go {W : Int → Bytes → Bool} {n i : Nat} {free : List Nat} {x : SynP.NI} {l : List SynP.NI} (h : SynP.stepOk W n i free x = true) (hk : x.kids = SynP.kidsOf free x.kids.length) : SynP.grownL W n i free (x :: l) = SynP.grownL W n (i + 1) (free.take (free.length - x.kids.length) ++ [i]) l := by
 conv => lhs; unfold SynP.grownL
 rw [if_pos h, if_pos hk]
theorem equal_kids {w2 : World} {ap : Option Addr} {B0 B g M k N fcap : Nat} {ko : Option Addr} {kcap : Nat} {kids : List Int} {free : List Nat} (hk : k = kids.length) (hN : N = free.length) (hM : N = M + k) (hkl : KL w2 B (.slice ko k kcap) kids) (hB : B ≤ w2.heap.size)
  (how : w2.ownsRow B0 3 1 (.slice (some ⟨g, 0, none⟩) N fcap) N (ints free)) (hb : N ≤ 4096) (hap : k ≠ 0 → ap = some ⟨g, M, none⟩) (q d : Nat) :
  Calls Tryz.prog 102 #[.slice ko k kcap, .slice ap k d] (w2.drewN q) fun e w' => e = .returned (.bool (decide (kids = SynP.kidsOf free k))) ∧ ∃ m, w' = (w2.drewN q).drewN m := by
 have hkd : SynP.kidsOf free k = (free.drop M).map fun k : Nat => (k : Int) := by
  unfold SynP.kidsOf
  rw [show free.length - k = M by omega]
 have hgl : g < w2.heap.size := (how.lt g rfl).2
 have hkl2 : (SynP.kidsOf free k).length = k := by rw [hkd, List.length_map, List.length_drop]; omega
 by_cases h0 : k = 0
 ·have hkn : kids = [] := List.eq_nil_of_length_eq_zero (by omega)
  have hkk : SynP.kidsOf free k = [] := List.eq_nil_of_length_eq_zero (by omega)
  rw [hkk, hkn]
  subst h0
  exact (Tryz.slices_Equal_int_empty ko ap kcap 0 d (w2.drewN q) (by omega)).mono fun e w' ⟨h1, h2⟩ => ⟨h1, 0, h2⟩
 ·obtain rfl := hap h0
  obtain ⟨ao, cap, he, -, -, h3⟩ := hkl
  simp only [Value.slice.injEq] at he
  obtain ⟨rfl, -, rfl⟩ := he
  obtain ⟨gk, rfl, hgk, hcells⟩ := h3 (by omega)
  refine (Tryz.slices_Equal_int gk 0 k kcap g M k d kids (SynP.kidsOf free k) (w2.drewN q) (by omega) (by omega) (by omega) (by omega) (fun j hj => ?_) (fun j hj => ?_)).mono fun e w' ⟨h1, h2⟩ => ⟨h1.trans ?_, h2⟩
  ·rw [(below_drewN' w2 q).cell (p := ⟨gk, 0 + j, none⟩) (Nat.lt_of_lt_of_le hgk hB), Nat.zero_add, hcells j kids[j] (List.getElem?_eq_getElem hj)]
   simp [List.getD_eq_getElem?_getD, List.getElem?_eq_getElem hj]
  ·have hj' : M + j < free.length := by omega
   rw [(below_drewN' w2 q).cell (p := ⟨g, M + j, none⟩) hgl, how.cellAt (M + j) (by omega), hkd]
   simp [ints, List.getD_eq_getElem?_getD, List.getElem?_eq_getElem hj']
  ·rw [List.take_of_length_le (by omega), List.take_of_length_le (by omega)]
   congr 2
   rw [Bool.eq_iff_iff, beq_iff_eq, decide_eq_true_eq]
theorem gro_next {l : List SynP.NI} {w w6 : World} {r : Bool} {i M gg cap6 : Nat} {free : List Nat} (hg : SynP.grownL SynP.WV l.length (i + 1) (free.take M ++ [i]) (l.drop (i + 1)) = r)
  (hown : w6.ownsRow w.heap.size 3 1 (.slice (some ⟨gg, 0, none⟩) (M + 1) cap6) (M + 1) (ints (free.take M) ++ [.int .i64 ((i : Nat) : Int)])) (hb : Below w.heap.size w w6) (hi : i + 1 ≤ l.length) (hM : M ≤ i) (hMf : M ≤ free.length) :
  GrO l w r (.slice (some ⟨gg, 0, none⟩) (M + 1) cap6) (.int .i64 ((i + 1 : Nat) : Int)) w6 := by
 have e : (free.take M ++ [i]).length = M + 1 := by rw [List.length_append, List.length_take]; simp; omega
 refine ⟨i + 1, free.take M ++ [i], hi, rfl, by rw [e]; omega, hg, ?_, hb⟩
 rw [e]
 have e2 : ints (free.take M ++ [i]) = ints (free.take M) ++ [.int .i64 ((i : Nat) : Int)] := by simp [ints]
 rw [e2]
 exact hown
set_option maxRecDepth 100000 in
set_option maxHeartbeats 8000000 in
theorem grown_any (v : Value) (l : List SynP.NI) (w : World) (B : Nat) (hl : l.length ≤ 4096) (ht : ∀ x ∈ l, x.text.length ≤ 67108864) (hv : NdL w B v l) (hB : B ≤ w.heap.size) (hx : Lx w) (hs : SG w) (hsz : 4 < w.heap.size) :
  Calls Tryz.prog 50 #[v] w fun e w' => e = .returned (.bool (SynP.grownL SynP.WV l.length 0 [] l)) ∧ Below w.heap.size w w' := by
 obtain ⟨i0, hi0, hz0, hz1, hz02⟩ := info_parts Tryz.infoInt
 have HV := Lib.hid hv
 have HX := Lib.hid hx
 have HSG := Lib.hid hs
 have HT := Lib.hid ht
 obtain ⟨ao, cap, rfl, hnc, hcm, -⟩ := hv
 obtain ⟨n, hn⟩ : ∃ n, n = l.length := ⟨_, rfl⟩
 obtain ⟨r, hr⟩ : ∃ r, r = SynP.grownL SynP.WV l.length 0 [] l := ⟨_, rfl⟩
 have HR := Lib.hid hr
 rw [← hr]
 rw [← hn] at hl hnc ⊢
 have HN := Lib.hid hn
 clear hn hr hx hs ht hcm
 go_enter Tryz.func50, Tryz.ntmps50
 go_wp2_with fail
 go_loopw [3, 9] (fun fv iv wr => GrO l w r fv iv wr) (fun _ iv _ => n - (intOf iv).toNat)
 case atStart => exact ⟨0, [], Nat.zero_le _, rfl, Nat.zero_le _, HR.out.symm, ⟨rfl, .inl ⟨rfl, rfl⟩⟩, Below.refl _ _⟩
 case round =>
  obtain ⟨i, free, hi, rfl, hfi, hg, hown, hb⟩ := hrel
  rw [← HN.out] at hi hg
  have HG := Lib.hid hg
  have HOW := Lib.hid hown
  have HB := Lib.hid hb
  have hzb := hb.size
  have HVR := Lib.hid (HV.out.below (hb.mono hB))
  obtain ⟨fo, fcap, rfl, f1, f2, f3⟩ := ownsRow_shape hown
  obtain ⟨N, hNe⟩ : ∃ N, N = free.length := ⟨_, rfl⟩
  rw [← hNe] at hfi f1 HOW ⊢
  have HNe := Lib.hid hNe
  clear hg hown hb f3 hNe
  by_cases hlt : i < n
  ·obtain ⟨x, hx⟩ : ∃ x, l[i]? = some x := ⟨_, List.getElem?_eq_getElem (by rw [← HN.out]; exact hlt)⟩
   have HG2 : Hid (SynP.grownL SynP.WV n i free (x :: l.drop (i + 1)) = r) := by
    show _ = _
    rw [← HG.out]
    congr 1
    obtain ⟨h1, h2⟩ := List.getElem?_eq_some_iff.1 hx
    rw [List.drop_eq_getElem_cons h1, h2]
   have htx : x.text.length ≤ 67108864 := HT.out x (List.mem_of_getElem? hx)
   obtain ⟨ao2, cap2, he, -, -, hc⟩ := HVR.out
   cases he
   obtain ⟨gt, rfl, hgt, hcell⟩ := hc (by rw [← HN.out]; omega)
   obtain ⟨e0, e1, kv, e2, hkl⟩ := hcell i x hx
   have HKL := Lib.hid hkl
   obtain ⟨ko, kcap, rfl, k1, k2, k3⟩ := hkl
   obtain ⟨op, text, kids⟩ := x
   simp only at e0 e1 e2 htx HKL k1 k2 k3
   obtain ⟨k, hke⟩ : ∃ k, k = kids.length := ⟨_, rfl⟩
   rw [← hke] at e2 k1 HKL
   obtain ⟨T, hT⟩ : ∃ T : ByteArray, T = ⟨text.toArray⟩ := ⟨_, rfl⟩
   rw [← hT] at e1
   have HTT := Lib.hid hT
   have HKE := Lib.hid hke
   clear hc hcell hx hT hke k3
   obtain ⟨w1, hw1⟩ : ∃ w1, w1 = wr.alloc (.cells #[.int .i64 op, .string T, .slice ko k kcap] 43) := ⟨_, rfl⟩
   have hb1 : Below wr.heap.size wr w1 := by rw [hw1]; exact below_alloc _ _
   have hg1 : w1.heap[wr.heap.size]? = some (.cells #[.int .i64 op, .string T, .slice ko k kcap] 43 (0, 0)) := by rw [hw1]; exact heap_alloc_new _ _
   have hzw1 : w1.heap.size = wr.heap.size + 1 := by rw [hw1]; simp
   have d0 : w1.cell? ⟨wr.heap.size, 0, none⟩ = some (.int .i64 op) := by rw [cell_of_row _ _ 0 _ _ _ hg1]; rfl
   have d1 : w1.cell? ⟨wr.heap.size, 1, none⟩ = some (.string T) := by rw [cell_of_row _ _ 1 _ _ _ hg1]; rfl
   have d2 : w1.cell? ⟨wr.heap.size, 2, none⟩ = some (.slice ko k kcap) := by rw [cell_of_row _ _ 2 _ _ _ hg1]; rfl
   have HB1 := Lib.hid hb1
   have HGB := Lib.hid hg1
   have hbw1 : Below w.heap.size w w1 := HB.out.trans (hb1.mono hzb)
   have HBW1 := Lib.hid hbw1
   have HWC := Lib.hid (written_any op text (.slice ko k kcap) w1 htx (HX.out.below hbw1) (HSG.out.below hbw1 hsz) (Nat.lt_of_lt_of_le hsz hbw1.size))
   rw [← HTT.out] at HWC
   clear hb1 hg1 hbw1 htx HV
   have hA : ∃ b c : Bool, SynP.wholeI op = b ∧ ((((i : Nat) : Int) == ((n : Nat) : Int) - 1) = c) ∧ (i + 1 == n) = c := ⟨_, _, rfl, rfl, by rw [Bool.eq_iff_iff]; simp; omega⟩
   obtain ⟨b, c, ha1, ha2, ha3⟩ := hA
   have HA1 := Lib.hid ha1
   have HA3 := Lib.hid ha3
   clear ha1 ha3
   by_cases hbc : b = c
   ·
    subst hbc
    cases hcn : SynP.cnt op k with
    | false =>
     have HCN := Lib.hid hcn
     have hF : Hid (r = false) := by show _ = _; rw [← HG2.out]; refine grown_no ?_; unfold SynP.stepOk; simp only; rw [← HKE.out, HCN.out]; simp
     clear hcn
     cases b
     all_goals
      go_wp2_with fail
      rw [← hw1]
      clear hw1
      refine (whole_any op _).mono ?_
      rintro e w2 ⟨rfl, rfl⟩
      rw [HA1.out]
      go_wp2_with fail
      refine (count_any op k _).mono ?_
      rintro e w2 ⟨rfl, rfl⟩
      rw [HCN.out]
      go_wp2_with fail
      go_ret
      exact ⟨by rw [hF.out]; rfl, HBW1.out⟩
    | true =>
     have HCN := Lib.hid hcn
     clear hcn
     by_cases hkN : N < k
     ·have hF : Hid (r = false) := by show _ = _; rw [← HG2.out]; refine grown_no ?_; unfold SynP.stepOk; simp only; rw [← HKE.out, ← HNe.out, decide_eq_true hkN]; simp
      have hdk : decide (((N : Nat) : Int) < ((k : Nat) : Int)) = true := decide_eq_true (by omega)
      cases b
      all_goals
       go_wp2_with fail
       rw [← hw1]
       clear hw1
       refine (whole_any op _).mono ?_
       rintro e w2 ⟨rfl, rfl⟩
       rw [HA1.out]
       go_wp2_with fail
       refine (count_any op k _).mono ?_
       rintro e w2 ⟨rfl, rfl⟩
       rw [HCN.out]
       go_wp2_with fail
       go_ret
       exact ⟨by rw [hF.out]; rfl, HBW1.out⟩
     ·have hdk : decide (((N : Nat) : Int) < ((k : Nat) : Int)) = false := decide_eq_false (by omega)
      cases hwv : SynP.WV op text with
      | false =>
       have HWV := Lib.hid hwv
       have hF : Hid (r = false) := by show _ = _; rw [← HG2.out]; refine grown_no ?_; unfold SynP.stepOk; simp only; rw [HWV.out]; simp
       clear hwv
       cases b
       all_goals
        go_wp2_with fail
        rw [← hw1]
        clear hw1
        refine (whole_any op _).mono ?_
        rintro e w2 ⟨rfl, rfl⟩
        rw [HA1.out]
        go_wp2_with fail
        refine (count_any op k _).mono ?_
        rintro e w2 ⟨rfl, rfl⟩
        rw [HCN.out]
        go_wp2_with fail
        refine HWC.out.mono ?_
        rintro e w2 ⟨rfl, hb2⟩
        rw [HWV.out]
        have HB2 := Lib.hid (below_next HBW1.out hb2)
        clear hb2
        go_wp2_with fail
        go_ret
        exact ⟨by rw [hF.out]; rfl, HB2.out⟩
      | true =>
       have HWV := Lib.hid hwv
       have hST : Hid (SynP.stepOk SynP.WV n i free ⟨op, text, kids⟩ = true) := by
        show _ = _
        unfold SynP.stepOk
        simp only
        rw [HWV.out, ← HKE.out, HCN.out, ← HNe.out, HA1.out, HA3.out, decide_eq_false hkN]
        simp
       clear hwv
       cases b
       all_goals
        go_wp2_with fail
        rw [← hw1]
        clear hw1
        refine (whole_any op _).mono ?_
        rintro e w2 ⟨rfl, rfl⟩
        rw [HA1.out]
        go_wp2_with fail
        refine (count_any op k _).mono ?_
        rintro e w2 ⟨rfl, rfl⟩
        rw [HCN.out]
        go_wp2_with fail
        refine HWC.out.mono ?_
        rintro e w2 ⟨rfl, hb2⟩
        rw [HWV.out]
        have hg2 := (hb2.block wr.heap.size (by omega)).trans HGB.out
        have c2 : w2.cell? ⟨wr.heap.size, 2, none⟩ = some (.slice ko k kcap) := by rw [cell_of_row _ _ 2 _ _ _ hg2]; rfl
        have hbr2 : Below wr.heap.size wr w2 := below_next HB1.out hb2
        have HB2 := Lib.hid (HB.out.trans (hbr2.mono hzb))
        have HOW2 := Lib.hid (ownsRow_below HOW.out hbr2 (Nat.le_refl _))
        have HKL2 := Lib.hid (HKL.out.below (hbr2.mono (Nat.le_trans hB hzb)))
        have hz2 : w.heap.size ≤ w2.heap.size := Nat.le_trans hzb hbr2.size
        obtain ⟨M, hM⟩ : ∃ M, N = M + k := ⟨N - k, by omega⟩
        have HMM := Lib.hid hM
        have hsub : ((N : Nat) : Int) - ((k : Nat) : Int) = ((M : Nat) : Int) := by omega
        have hlen : N - M = k := by omega
        have hMN : M ≤ N := by omega
        clear hb2 hg2 hbr2 hM d0 d1 d2
        rcases HOW2.out.2 with ⟨he, hN0⟩ | ⟨g, fc, cur, he, hg1, -, hfc, hfm, -, -⟩
        ·cases he
         have hk0 : k = 0 := by omega
         have hM0 : M = 0 := by omega
         subst hk0
         subst hM0
         have hkn : kids = [] := List.eq_nil_of_length_eq_zero HKE.out.symm
         have HG3 : Hid (SynP.grownL SynP.WV n (i + 1) (free.take 0 ++ [i]) (l.drop (i + 1)) = r) := by
          show _ = _
          rw [← HG2.out, grown_go hST.out (by subst hkn; simp [SynP.kidsOf])]
          subst hkn
          rw [show free.length - ([] : List Int).length = 0 from by have h0 : free.length = 0 := HNe.out.symm; rw [h0]; rfl]
         have HTV : Hid (w2.ownsRow w.heap.size 3 1 (.slice none 0 0) 0 (ints (free.take 0))) := ⟨rfl, .inl ⟨rfl, rfl⟩⟩
         have HOWQ : Hid (∀ q, (Value.slice none 0 0).ownBlock = some q → w.heap.size ≤ q) := fun q hq => by cases hq
         have HQ : Hid (∀ w3, Calls Tryz.prog 102 #[.slice ko 0 kcap, .slice none 0 0] w3 fun e w' => e = .returned (.bool true) ∧ w' = w3) := fun w3 => Tryz.slices_Equal_int_empty ko none kcap 0 0 w3 (by omega)
         go_wp2_with fail
         go_quiet ((go_at_call 102; exact Calls.quiet_of_same (HQ.out _)))
         obtain ⟨w4, hw4⟩ : ∃ w4, w4 = w2.drewN nq := ⟨_, rfl⟩
         have HB4 : Hid (Below w.heap.size w w4) := by show Below _ _ _; rw [hw4]; exact below_next HB2.out (below_drewN' w2 nq)
         have HT4 : Hid (w4.ownsRow w.heap.size 3 1 (.slice none 0 0) 0 (ints (free.take 0))) := by show World.ownsRow _ _ _ _ _ _ _; rw [hw4]; exact ownsRow_below HTV.out (below_drewN' w2 nq) (Nat.le_refl _)
         have hz4 : w.heap.size ≤ w4.heap.size := HB4.out.size
         rw [← hw4]
         clear hw4
         go_wp2_with (at_builtin; refine wpList_append_lies _ rfl _ _ 41 rfl w.heap.size 3 i0 (.int .i64 0) 1 8 Tryz.underlying41 hi0 hz0 hz1 hz02 rfl (by omega) (.slice none 0 0) 0 (ints (free.take 0)) rfl (HT4.out.alloc _) ⟨w4.heap.size, 0, none⟩ 1 1 [.int .i64 ((i : Nat) : Int)] rfl rfl (LexP.cells_new _ _ _ _ rfl) (by simp [Value.oneCell']) (by omega) (by unfold maxLen; omega) (by omega) (by simp; omega) (w4.heap.size + 1) (by simp) ?_)
         intro gg cap6 w6 hown6 hgrow6 hat6 hlt6
         have HB6 : Hid (Below w.heap.size w w6) := below_grow (HB4.out.alloc hz4 _) hgrow6 (fun q hq => HOWQ.out q hq)
         have HF6 : Hid (GrO l w r (.slice (some ⟨gg, 0, none⟩) (0 + 1) cap6) (.int .i64 ((i + 1 : Nat) : Int)) w6) := gro_next (HN.out ▸ HG3.out) hown6 HB6.out (by rw [← HN.out]; omega) (by omega) (HNe.out ▸ by omega)
         clear hown6 hgrow6 hat6 hlt6
         go_wp2_with fail
         have hm6 : n - (intOf (.int .i64 (((i : Nat) : Int) + 1))).toNat < n - (intOf (.int .i64 ((i : Nat) : Int))).toNat := by simp [intOf]; omega
         have hi1 : (((i + 1 : Nat) : Int)) = ((i : Nat) : Int) + 1 := by omega
         rw [hi1] at HF6
         first | exact ⟨HF6.out, hm6⟩ | exact ⟨by (repeat apply Exists.intro); exact ⟨HF6.out, rfl⟩, hm6⟩
        ·cases he
         obtain ⟨ap, happ⟩ : ∃ ap, (if fcap = M then some (⟨g, 0, none⟩ : Addr) else some ⟨g, M, none⟩) = ap := ⟨_, rfl⟩
         have HQ : Hid (∀ q d, Calls Tryz.prog 102 #[.slice ko k kcap, .slice ap k d] (w2.drewN q) fun e w' => e = .returned (.bool (decide (kids = SynP.kidsOf free k))) ∧ ∃ m, w' = (w2.drewN q).drewN m) :=
          fun q d => equal_kids HKE.out HNe.out HMM.out HKL2.out (Nat.le_trans hB hz2) HOW2.out (by omega) (fun h0 => by rw [← happ]; exact if_neg (by omega)) q d
         have HTV : Hid (w2.ownsRow w.heap.size 3 1 (.slice (some ⟨g, 0, none⟩) M fcap) M (ints (free.take M))) := by
          show World.ownsRow _ _ _ _ _ _ _
          rw [← ints_take]
          exact ownsRow_take HOW2.out hMN
         have hs0 : (0 : Int) ≤ ((M : Nat) : Int) := by omega
         have hs1 : ((M : Nat) : Int) ≤ ((N : Nat) : Int) := by omega
         have hs2 : ((N : Nat) : Int) ≤ ((fcap : Nat) : Int) := by omega
         have hwM : IntKind.i64.wrap ((M : Nat) : Int) = ((M : Nat) : Int) := IntWalk.i64_in _ (by omega)
         have HOWQ : Hid (∀ q, (Value.slice (some ⟨g, 0, none⟩) M fcap).ownBlock = some q → w.heap.size ≤ q) := fun q hq => by cases hq; exact hg1
         by_cases hkq : kids = SynP.kidsOf free k
         ·have HG3 : Hid (SynP.grownL SynP.WV n (i + 1) (free.take M ++ [i]) (l.drop (i + 1)) = r) := by
           show _ = _
           rw [← HG2.out, grown_go hST.out (by simp only; rw [← HKE.out]; exact hkq)]
           rw [show free.length - kids.length = M by rw [← HKE.out, ← HNe.out]; have := HMM.out; omega]
          rw [decide_eq_true hkq] at HQ
          clear hkq
          go_wp2_with fail
          go_quiet ((go_at_call 102; exact Calls.quiet_of (HQ.out _ _)))
          obtain ⟨w4, hw4⟩ : ∃ w4, w4 = w2.drewN nq := ⟨_, rfl⟩
          have HB4 : Hid (Below w.heap.size w w4) := by show Below _ _ _; rw [hw4]; exact below_next HB2.out (below_drewN' w2 nq)
          have HT4 : Hid (w4.ownsRow w.heap.size 3 1 (.slice (some ⟨g, 0, none⟩) M fcap) M (ints (free.take M))) := by show World.ownsRow _ _ _ _ _ _ _; rw [hw4]; exact ownsRow_below HTV.out (below_drewN' w2 nq) (Nat.le_refl _)
          have hz4 : w.heap.size ≤ w4.heap.size := HB4.out.size
          rw [← hw4]
          clear hw4
          go_wp2_with (at_builtin; refine wpList_append_lies _ rfl _ _ 41 rfl w.heap.size 3 i0 (.int .i64 0) 1 8 Tryz.underlying41 hi0 hz0 hz1 hz02 rfl (by omega) (.slice (some ⟨g, 0, none⟩) M fcap) M (ints (free.take M)) rfl (HT4.out.alloc _) ⟨w4.heap.size, 0, none⟩ 1 1 [.int .i64 ((i : Nat) : Int)] rfl rfl (LexP.cells_new _ _ _ _ rfl) (by simp [Value.oneCell']) (by omega) (by unfold maxLen; omega) (by omega) (by simp; omega) (w4.heap.size + 1) (by simp) ?_)
          intro gg cap6 w6 hown6 hgrow6 hat6 hlt6
          have HB6 : Hid (Below w.heap.size w w6) := below_grow (HB4.out.alloc hz4 _) hgrow6 (fun q hq => HOWQ.out q hq)
          have HF6 : Hid (GrO l w r (.slice (some ⟨gg, 0, none⟩) (M + 1) cap6) (.int .i64 ((i + 1 : Nat) : Int)) w6) := gro_next (HN.out ▸ HG3.out) hown6 HB6.out (by rw [← HN.out]; omega) (by omega) (HNe.out ▸ by omega)
          clear hown6 hgrow6 hat6 hlt6
          go_wp2_with fail
          have hm6 : n - (intOf (.int .i64 (((i : Nat) : Int) + 1))).toNat < n - (intOf (.int .i64 ((i : Nat) : Int))).toNat := by simp [intOf]; omega
          have hi1 : (((i + 1 : Nat) : Int)) = ((i : Nat) : Int) + 1 := by omega
          rw [hi1] at HF6
          first | exact ⟨HF6.out, hm6⟩ | exact ⟨by (repeat apply Exists.intro); exact ⟨HF6.out, rfl⟩, hm6⟩
         ·have hF : Hid (r = false) := by
           show _ = _
           rw [← HG2.out, grown_kids (by simp only; rw [← HKE.out]; exact hkq)]
          rw [decide_eq_false hkq] at HQ
          clear hkq
          go_wp2_with fail
          go_quiet ((go_at_call 102; exact Calls.quiet_of (HQ.out _ _)))
          go_wp2_with fail
          go_ret
          exact ⟨by rw [hF.out]; rfl, below_next HB2.out (below_drewN' w2 nq)⟩
   ·have hF : Hid (r = false) := by
     show _ = _
     rw [← HG2.out]
     refine grown_no ?_
     unfold SynP.stepOk
     simp only
     rw [HA1.out, HA3.out]
     cases b <;> cases c <;> first | exact absurd rfl hbc | simp
    cases b <;> cases c <;> first | exact absurd rfl hbc | skip
    all_goals
     go_wp2_with fail
     rw [← hw1]
     clear hw1
     refine (whole_any op _).mono ?_
     rintro e w2 ⟨rfl, rfl⟩
     rw [HA1.out]
     go_wp2_with fail
     go_ret
     exact ⟨by rw [hF.out]; rfl, HBW1.out⟩
  ·obtain rfl : i = n := by omega
   have HF : Hid (r = (N == 1)) := by show _ = _; rw [← HG.out, HN.out, List.drop_length, HNe.out]; rfl
   have hN1 : (((N : Nat) : Int) == 1) = (N == 1) := by rw [Bool.eq_iff_iff]; simp; omega
   clear hlt
   go_wp2_with fail
   go_ret
   exact ⟨by rw [HF.out]; rfl, HB.out⟩
end Go.Proofs.YtgfmiladfeoldaaGreatDoor
namespace Go.Proofs.YtgfmiladfeoldaaGreatDoor
open Go.RowKit NatP LexP
theorem ln_size (n : SynP.Ln) : n.flat.length = n.size := by
 cases n with
 | nothing => rfl
 | lets x e => simp [SynP.Ln.flat, SynP.Ln.size, flat_len]
 | cmd x l => simp [SynP.Ln.flat, SynP.Ln.size, flats_len]
set_option maxRecDepth 100000 in
set_option maxHeartbeats 1000000 in
theorem parse_any (s : ByteArray) (w : World) (hf : Fits s.data.toList) (hx : Lx w) (hs : SG w) (hsz : 4 < w.heap.size) :
  Calls Tryz.prog 13 #[.string s] w (PaP s.data.toList w) := by
 have hmf : ∀ (fn : Fn) (first cap : Array Value) (w : World), (Instr.makeFunc fn first cap).run Tryz.prog w = .ok (.func fn first cap) w := fun _ _ _ _ => rfl
 have HF := Lib.hid hf
 have HX := Lib.hid hx
 have HSG := Lib.hid hs
 have hs4 : s.size ≤ 67108864 := by rw [Lib.size_eq]; exact hf
 clear hf hx hs
 go_enter Tryz.func13, Tryz.ntmps13
 go_wp2_with fail
 refine (start_any s _ HF.out HX.out HSG.out hsz).mono ?_
 rintro e w1 hn
 unfold StP at hn
 cases hT : Toks 1 (chars s.data.toList) with
 | error p =>
  obtain ⟨c, k⟩ := p
  rw [hT] at hn
  obtain ⟨rfl, hb⟩ := hn
  have hk0 := (Toks_err _ _ _ hT).1
  have HB := Lib.hid hb
  have HV := Lib.hid (SynP.parseV_tok hT)
  simp only at hk0
  have hkk : ((k : Int) != 0) = true := by simp; omega
  clear hb hT hk0
  go_wp2_with fail
  go_ret3
  unfold PaP
  rw [HV.out]
  exact ⟨rfl, HB.out⟩
 | ok ts =>
  rw [hT] at hn
  obtain ⟨R, tv, rfl, hR, hb, h⟩ := hn
  have HS := Lib.hid h
  have HB := Lib.hid hb
  have HT := Lib.hid hT
  have hg := SynP.good_line ((chars s.data.toList).length + 1) ⟨ts, 0⟩
  have hne : SynP.line ((chars s.data.toList).length + 1) (10 * ts.length + 9) ⟨ts, 0⟩ ≠ none := by
   intro e
   simp only [e] at hg
   exact hg.elim
  have HNE := Lib.hid hne
  have HG := Lib.hid hg
  clear hb hT h hg hne
  go_wp2_with fail
  refine (guarded_line ((chars s.data.toList).length + 1) (10 * ts.length + 9) R tv ts ⟨ts, 0⟩ _ _ HS.out HNE.out).mono ?_
  rintro e w2 hn
  unfold GuP at hn
  rcases hL : SynP.line ((chars s.data.toList).length + 1) (10 * ts.length + 9) ⟨ts, 0⟩ with - | (⟨c, k⟩ | ⟨n, s'⟩) <;> rw [hL] at hn
  ·exact hn.elim
  ·obtain ⟨rfl, hw⟩ := hn
   have hk0 := HG.out
   simp only [hL] at hk0
   have hk1 : 0 < k := hk0
   have HV := Lib.hid (SynP.parseV_err HT.out hL)
   have HW := Lib.hid (below_next (Wr.belowR hw HB.out hR) (below_alloc w2 (.cells #[.int .i64 (c : Nat), .int .i64 (k : Nat)] 81)))
   have hkk : ((k : Int) != 0) = true := by simp; omega
   clear hk0 hL hw
   go_wp2_with fail
   go_region
   go_wp2_with fail
   go_ret3
   unfold PaP
   rw [HV.out]
   exact ⟨rfl, Below.drew HW.out⟩
  ·obtain ⟨rfl, a', nv', ns', n1, n2, n3⟩ := hn
   have HV := Lib.hid (SynP.parseV_ok HT.out hL)
   have HA := Lib.hid (below_alloc w2 (.cells #[.int .i64 0, .int .i64 0] 81))
   have HW := Lib.hid (below_next (Wr.belowR n2 HB.out hR) HA.out)
   have n1' := n1.below HA.out
   have HTR := Lib.hid (n1'.tr hR)
   have e4 := n1'.cells.2.2.2.2
   have hlen : ns'.length = n.size := by
    have := congrArg List.length n3
    rw [List.length_map, ln_size] at this
    exact this
   have HN3 := Lib.hid n3
   have HLEN := Lib.hid hlen
   obtain ⟨ao, cap, rfl, -, -, -⟩ := ownsRow_shape n1.own
   obtain ⟨m, hm⟩ : ∃ m, m = ns'.length := ⟨_, rfl⟩
   rw [← hm] at e4
   have HM := Lib.hid hm
   clear hL n1 n1' n2 n3 hlen hm
   by_cases hbig : 4096 < n.size
   ·have hmb : (4096 : Int) < (m : Int) := by have h1 := HM.out; have h2 := HLEN.out; omega
    have hdd : decide ((4096 : Int) < (m : Int)) = true := decide_eq_true hmb
    have HBG := Lib.hid hbig
    clear hbig hmb
    go_wp2_with fail
    go_ret3
    unfold PaP
    rw [HV.out, if_pos HBG.out]
    exact ⟨rfl, HW.out⟩
   ·have hmb : ¬ (4096 : Int) < (m : Int) := by have h1 := HM.out; have h2 := HLEN.out; omega
    have hdd : decide ((4096 : Int) < (m : Int)) = false := decide_eq_false hmb
    have HBG := Lib.hid hbig
    clear hbig hmb
    go_wp2_with fail
    go_ret3
    unfold PaP
    rw [HV.out, if_neg HBG.out]
    refine ⟨.slice ao m cap, ns', rfl, HW.out, ?_, HN3.out⟩
    rw [HM.out]; exact HTR.out
end Go.Proofs.YtgfmiladfeoldaaGreatDoor
namespace Go.Proofs.YtgfmiladfeoldaaGreatDoor
open NatP LexP
theorem parseV_wf {l : Bytes} {n : SynP.Ln} (h : SynP.parseV l = .ok n) : n.wf ∧ n.dp ≤ 100 ∧ n.size ≤ 4096 := by
 cases hT : Toks 1 (chars l) with
 | error e => rw [SynP.parseV_tok hT] at h; cases h
 | ok ts =>
  rcases hL : SynP.line ((chars l).length + 1) (10 * ts.length + 9) ⟨ts, 0⟩ with - | (e | ⟨m, s⟩)
  ·unfold SynP.parseV at h; rw [hT] at h; simp only [hL] at h; cases h
  ·rw [SynP.parseV_err hT hL] at h; cases h
  ·rw [SynP.parseV_ok hT hL] at h
   split at h
   ·cases h
   ·cases h
    have := SynP.line_wf hL (SynP.toks_names _ _ _ _ (Nat.le_refl _) hT)
    exact ⟨this.1, this.2, by omega⟩
theorem parseV_wt {l : Bytes} {n : SynP.Ln} (h : SynP.parseV l = .ok n) (hl : l.length ≤ 1048576) : lnWt n + 10 * n.size ≤ 67000000 := by
 have hw := parseV_wf h
 cases hT : Toks 1 (chars l) with
 | error e => rw [SynP.parseV_tok hT] at h; cases h
 | ok ts =>
  rcases hL : SynP.line ((chars l).length + 1) (10 * ts.length + 9) ⟨ts, 0⟩ with - | (e | ⟨m, s⟩)
  ·unfold SynP.parseV at h; rw [hT] at h; simp only [hL] at h; cases h
  ·rw [SynP.parseV_err hT hL] at h; cases h
  ·rw [SynP.parseV_ok hT hL] at h
   split at h
   ·cases h
   ·cases h
    have h1 := line_pay hL
    have h2 := (Toks_bounds _ _ _ hT).1
    have h3 := chars_len l
    have h4 := toks_lb _ _ _ _ (Nat.le_refl _) hT
    rw [bytesOf_chars] at h4
    simp only at h1
    have h5 : Lb ⟨ts, 0⟩ = (ts.map fun t => t.2.1.length + 1).sum := rfl
    omega
theorem texts_le {n : SynP.Ln} {x : SynP.NI} (h : x ∈ SynP.nL n.flat) : x.text.length ≤ lnWt n := by
 rw [← ln_wt]
 unfold txWt
 obtain ⟨y, hy, rfl⟩ := List.mem_map.1 h
 have : ∀ (l : List SynP.Node) (y : SynP.Node), y ∈ l → y.text.length ≤ (l.map fun n => n.text.length).sum := by
  intro l y hy
  induction l with
  | nil => cases hy
  | cons a l ih =>
   rcases List.mem_cons.1 hy with rfl | hy
   ·simp
   ·have := ih hy
    simp only [List.map_cons, List.sum_cons]
    omega
 exact this _ _ hy
structure LnFit (n : SynP.Ln) : Prop where
 wf : n.wf
 size : n.size ≤ 4096
 txt : ∀ x ∈ SynP.nL n.flat, x.text.length ≤ 67108864
 prl : n.pr.length ≤ 67108864
theorem parseV_fit {l : Bytes} {n : SynP.Ln} (h : SynP.parseV l = .ok n) (hl : l.length ≤ 1048576) : LnFit n := by
 have h1 := parseV_wf h
 have h2 := parseV_wt h hl
 have h3 := ln_len n
 exact ⟨h1.1, h1.2.2, fun x hx => by have := texts_le hx; omega, by omega⟩
theorem fit_grown {n : SynP.Ln} (h : n.wf) : SynP.grownL SynP.WV (SynP.nL n.flat).length 0 [] (SynP.nL n.flat) = true := by
 have := SynP.line_grown SynP.wv_ok n h
 rw [show (SynP.nL n.flat).length = n.size by rw [SynP.nL, List.length_map, ln_size]]
 exact this
def wakeB : Bytes := [112, 114, 105, 110, 116, 32, 45, 65, 39, 94, 50]
def wakeLn : SynP.Ln := .cmd [112, 114, 105, 110, 116] (.cons (.neg (.pow (.turn (.name [65])) 2)) .nil)
theorem wake_pr : wakeLn.pr = wakeB := by
 have e : SynP.decT 2 = [50] := by kernel_rfl
 simp [wakeLn, SynP.Ln.pr, SynP.Exs.pr, SynP.Ex.pr, e, wakeB, SynP.par, SynP.loose, SynP.Ex.op, SynP.isProd, SynP.isSum, SynP.Exs.prTail]
theorem wake_wf : wakeLn.wf := by
 refine ⟨⟨1, by kernel_rfl⟩, by decide, ⟨1, by kernel_rfl⟩, trivial⟩
theorem wake_parse : SynP.parseV wakeB = .ok wakeLn := by
 rw [← wake_pr, SynP.parse_pr wake_wf (by decide)]
 rfl
theorem wake_nL : SynP.nL wakeLn.flat = [⟨2, [65], []⟩, ⟨5, [], [0]⟩, ⟨9, [50], [1]⟩, ⟨4, [], [2]⟩, ⟨12, [112, 114, 105, 110, 116], [3]⟩] := by
 have e : SynP.decT 2 = [50] := by kernel_rfl
 simp [wakeLn, SynP.Ln.flat, SynP.Exs.flat, SynP.Ex.flat, SynP.Ex.size, SynP.Exs.roots, SynP.nL, SynP.Node.toI, e]
theorem wake_fit : LnFit wakeLn := parseV_fit wake_parse (by decide)
end Go.Proofs.YtgfmiladfeoldaaGreatDoor
