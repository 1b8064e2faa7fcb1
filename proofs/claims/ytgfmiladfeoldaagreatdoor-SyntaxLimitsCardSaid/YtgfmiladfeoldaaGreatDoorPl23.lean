/- Joined texts of this claim's proof: RdF. -/
import Derived.Test.YtgfmiladfeoldaaGreatDoorPl22
set_option linter.unusedSimpArgs false
set_option linter.unusedVariables false
namespace Go.Proofs.YtgfmiladfeoldaaGreatDoor
open Go.RowKit NatP LexP
theorem Tryz.infoAI : (Tryz.prog.info? 62).map (fun i => (i.zero, i.size, i.bytes)) = some (some (.agg #[.bool false, .slice none 0 0]), 2, 32) := by kernel_rfl
theorem number_len {fin : Nat} {s s' : SynP.St} {m : Nat} (h : SynP.number fin s = some (.ok (m, s'))) : s'.ts.length + 1 = s.ts.length ∧ s'.opened = s.opened := by
 unfold SynP.number at h
 split at h
 ·rename_i hk
  unfold SynP.ret at h
  cases h
  refine ⟨?_, rfl⟩
  have := isKind_ne hk
  have h2 := List.length_pos_iff.2 this
  show s.ts.tail.length + 1 = _
  rw [List.length_tail]; omega
 ·cases h
theorem want_len {fin : Nat} {x : Bytes} {s s' : SynP.St} {u : Unit} (h : SynP.want fin x s = some (.ok (u, s'))) : s'.ts.length + 1 = s.ts.length ∧ s'.opened = s.opened := by
 unfold SynP.want at h
 split at h
 ·rename_i hk
  unfold SynP.ret at h
  cases h
  refine ⟨?_, rfl⟩
  have h2 := List.length_pos_iff.2 (isMark_ne hk)
  show s.ts.tail.length + 1 = _
  rw [List.length_tail]; omega
 ·cases h
def EnO (R : Nat) (tv : Value) (L : List Tok) (fin : Nat) (nv : Value) (ns : List Nv) (w : World) (N : Nat) (r : SynP.PR (List (Bool × Nat) × List Nat)) (av lv : Value) (wr : World) : Prop :=
 ∃ f acc lens cs a' s', SynP.entries fin f acc lens s' = r ∧ RS wr R tv L fin a' s' nv ns ∧ Wr R none w wr ∧ En wr w.heap.size av lv cs acc lens ∧ acc.length + s'.ts.length ≤ 67108864 ∧ lens.length + s'.ts.length ≤ 67108864 ∧ s'.ts.length ≤ N
def EnI (R : Nat) (tv : Value) (L : List Tok) (fin : Nat) (nv : Value) (ns : List Nv) (w : World) (N : Nat) (lens : List Nat) (lv : Value) (r : SynP.PR (Nat × List (Bool × Nat))) (av nn : Value) (wr : World) : Prop :=
 ∃ f n acc cs a' s', SynP.entryRow fin f n acc s' = r ∧ nn = .int .i64 ((n : Nat) : Int) ∧ RS wr R tv L fin a' s' nv ns ∧ Wr R none w wr ∧ En wr w.heap.size av lv cs acc lens ∧ acc.length + s'.ts.length ≤ 67108864 ∧ n ≤ acc.length ∧ lens.length + s'.ts.length ≤ 67108864 ∧ (0 < n → lens.length + s'.ts.length + 1 ≤ 67108864) ∧ s'.ts.length ≤ N
def EnQ (B : Nat) (x : List (Bool × Nat) × List Nat) (v : Value) (w' : World) : Prop := ∃ av lv cs, v = .tuple #[av, lv] ∧ En w' B av lv cs x.1 x.2
set_option maxRecDepth 100000 in
set_option maxHeartbeats 4000000 in
theorem rd_entries (R : Nat) (tv : Value) (L : List Tok) (fin a : Nat) (s : SynP.St) (nv : Value) (ns : List Nv) (w : World) (h : RS w R tv L fin a s nv ns) (f : Nat) (hf : SynP.entries fin f [] [] s ≠ none) :
  Calls Tryz.prog 112 #[.pointer (some ⟨R, 0, none⟩)] w (RB (SynP.entries fin f [] [] s) R tv L fin s nv ns (EnQ w.heap.size) w) := by
 have H := Lib.hid h
 have hRl := h.lt
 obtain ⟨r, hr⟩ : ∃ r, r = SynP.entries fin f [] [] s := ⟨_, rfl⟩
 rw [← hr] at hf ⊢
 have HR := Lib.hid hr
 have HNE := Lib.hid hf
 have hts : s.ts.length ≤ 67108864 := by have := h.short; rw [← h.drop, List.length_drop]; omega
 have HST : Hid (EnO R tv L fin nv ns w s.ts.length r (.slice none 0 0) (.slice none 0 0) w) := ⟨f, [], [], [], a, s, hr.symm, h, Wr.refl _ _ _, En.nil _ _, by simpa using hts, by simpa using hts, Nat.le_refl _⟩
 obtain ⟨i0, hi, hz0, hz1, hz2'⟩ := info_parts Tryz.infoAI
 obtain ⟨j0, hj, hk0, hk1, hk2⟩ := info_parts Tryz.infoInt
 clear h hr hf
 go_enter Tryz.func112, Tryz.ntmps112
 go_wp2_with fail
 go_loopw [2, 3, 4, 5, 6] (fun av lv _ _ _ wr => EnO R tv L fin nv ns w s.ts.length r av lv wr) (fun _ _ _ _ _ wr => leftOf L R wr)
 case atStart => exact HST.out
 case round =>
  obtain ⟨f, acc, lens, cs, a', s', hen, hrs, hwr, hEn, hb1, hb2, hbN⟩ := hrel
  obtain ⟨wo, rfl⟩ : ∃ wo, wo = wr := ⟨_, rfl⟩
  cases f with
  | zero => exact absurd hen.symm (by have := HNE.out; intro e; exact this e)
  | succ f =>
   obtain ⟨r2, hr2⟩ : ∃ r2, r2 = SynP.entryRow fin f 0 acc s' := ⟨_, rfl⟩
   have hen2 : r2.bind (fun x s => if SynP.isMark [93] s.ts then SynP.ret (x.2, lens ++ [x.1]) s.adv else (SynP.want fin [59] s).bind fun _ s => SynP.entries fin f x.2 (lens ++ [x.1]) s) = r := by rw [hr2]; exact hen
   have HE2 := Lib.hid hen2
   have HR2N : Hid (r2 ≠ none) := by
    intro e
    rw [e] at hen2
    exact HNE.out hen2.symm
   have HRS0 := Lib.hid hrs
   have HLEFT := Lib.hid hrs.left
   have HI : Hid (EnI R tv L fin nv ns w s'.ts.length lens u3 r2 u2 (.int .i64 0) wo) := ⟨f, 0, acc, cs, a', s', hr2.symm, rfl, hrs, hwr, hEn, hb1, Nat.zero_le _, hb2, fun h => absurd h (Nat.lt_irrefl _), Nat.le_refl _⟩
   clear hen hrs hwr hEn hen2 hr2
   go_wp2_with fail
   go_loopw [2, 4, 5, 6] (fun av nn _ _ wr => EnI R tv L fin nv ns w s'.ts.length lens u3 r2 av nn wr) (fun _ _ _ _ wr => leftOf L R wr)
   case atStart => exact HI.out
   clear HI
   case round =>
    obtain ⟨f2, n, acc2, cs2, a2, s2, her, rfl, hrs, hwr, hEn, hb1, hnl, hb2, hb3, hbM⟩ := hrel
    cases f2 with
    | zero => exact absurd her.symm HR2N.out
    | succ f2 =>
     obtain ⟨wx, hwx⟩ : ∃ wx, wx = wr := ⟨_, rfl⟩
     have HLF0 := Lib.hid hrs.left
     have HSX0 := Lib.hid hrs
     have HWX0 := Lib.hid hwr
     have HEX0 := Lib.hid hEn
     have HER := Lib.hid her
     have hn31 : n ≤ 67108864 := by omega
     clear hrs hwr hEn her hwx
     by_cases hn0 : n = 0
     ·have hnb : ((n : Int) == 0) = true := by simp [hn0]
      have HSTEP : Hid ((SynP.number fin (if SynP.isMark [45] s2.ts then s2.adv else s2)).bind (fun m s' => SynP.entryRow fin f2 (n + 1) (acc2 ++ [(SynP.isMark [45] s2.ts && decide (0 < m), m)]) s') = r2) := by
       have h1 := HER.out
       unfold SynP.entryRow at h1
       rw [if_pos (show (decide (n = 0) || SynP.isMark [45] s2.ts || SynP.isKind 1 s2.ts) = true from by simp [hn0])] at h1
       exact h1
      have HN0 := Lib.hid hn0
      clear hn0
      have HSX := HSX0
      have HWX := HWX0
      have HEX := HEX0
      clear HSX0 HWX0 HEX0
      obtain ⟨s1, hs1⟩ : ∃ s1, s1 = (if SynP.isMark [45] s2.ts then s2.adv else s2) := ⟨_, rfl⟩
      have HS1 := Lib.hid hs1
      clear hs1
      go_wp2_with fail
      refine (rd_take R tv L fin a2 s2 nv ns _ HSX.out [45]).mono ?_
      rintro e w1 ⟨rfl, t1, t2⟩
      have t3 : ∃ b1, RS w1 R tv L fin b1 s1 nv ns := by
       rw [HS1.out]
       split at t2
       ·rename_i hq; rw [if_pos hq]; exact ⟨_, t2⟩
       ·rename_i hq; rw [if_neg hq]; exact ⟨_, t2⟩
      obtain ⟨b1, t3⟩ := t3
      have T1 := Lib.hid (RS.step HWX.out t1)
      have T3 := Lib.hid t3
      have TE := Lib.hid (HEX.out.wr t1 hRl)
      have hs1l : s1.ts.length ≤ s2.ts.length := by
       rw [HS1.out]
       split
       ·exact tail_le s2
       ·exact Nat.le_refl _
      obtain ⟨ng, hng⟩ : ∃ ng, ng = SynP.isMark [45] s2.ts := ⟨_, rfl⟩
      rw [← hng]
      have HNG := Lib.hid hng
      clear t1 t2 t3 hng
      go_wp2_with fail
      refine (rd_number R tv L fin b1 s1 nv ns _ T3.out).mono ?_
      rintro e w2 hn
      rcases hN : SynP.number fin s1 with - | (⟨fc, fk⟩ | ⟨m, s3⟩)
      ·rw [hN] at hn; exact hn.elim
      ·rw [hN] at hn
       obtain ⟨rfl, n1⟩ := hn
       refine ⟨rfl, ?_⟩
       have hr2 : r2 = some (.error (fc, fk)) := by rw [← HSTEP.out, ← HS1.out, hN]; rfl
       have hr : r = some (.error (fc, fk)) := by rw [← HE2.out, hr2]; rfl
       rw [hr]
       exact ⟨rfl, RS.step T1.out n1⟩
      ·rw [hN] at hn
       obtain ⟨v, a3, rfl, n1, n2, n3, n4⟩ := hn
       have hnl := number_len hN
       obtain ⟨vo, vcap, vl, rfl⟩ : ∃ vo vcap vl, v = .slice vo vl vcap := by
        obtain ⟨⟨xs, hx, -⟩, -⟩ := n4
        obtain ⟨vo, vcap, e, -⟩ := hx.2
        exact ⟨vo, vcap, _, e⟩
       have hz : decide (0 < vl) = decide (0 < m) := by
        have : vl = 0 ↔ m = 0 := n4.2.2
        simp only [decide_eq_decide]; omega
       have HN2 := Lib.hid (RS.step T1.out n2)
       have HRS3 := Lib.hid n1
       have HEN3 := Lib.hid (TE.out.wr n2 hRl)
       have HN4 := Lib.hid n4
       obtain ⟨b, hb⟩ : ∃ b, b = (ng && decide (0 < m)) := ⟨_, rfl⟩
       have HB := Lib.hid hb
       have HZ := Lib.hid hz
       have HNX : Hid (r2 = SynP.entryRow fin f2 (n + 1) (acc2 ++ [(b, m)]) s3) := by
        show _ = _
        rw [← HSTEP.out, ← HS1.out, hN, HB.out, HNG.out]; rfl
       have hcl : cs2.length ≤ 67108864 := by rw [HEN3.out.len]; omega
       have HCL := Lib.hid hcl
       have HAL := Lib.hid (below_alloc w2 (.cells #[.bool b, .slice vo vl vcap] 62))
       have HRS4 := Lib.hid (HRS3.out.below HAL.out)
       have HW4 := Lib.hid (RS.step HN2.out (Wr.of_below HAL.out))
       have HEN4 := Lib.hid (HEN3.out.wr (R := R) (Wr.of_below HAL.out) hRl)
       have hn4' := (HN4.out.wr (R := R) (og := none) (Wr.of_below HAL.out) (Nat.lt_of_lt_of_le hRl T1.out.size) (fun q hq => by cases hq))
       have HN4' := Lib.hid hn4'
       have HSZ := Lib.hid T1.out.size
       obtain ⟨nc, hnc⟩ : ∃ nc, nc = cs2.length := ⟨_, rfl⟩
       have HNC := Lib.hid hnc
       have hOW : (w2.alloc (.cells #[.bool b, .slice vo vl vcap] 62)).ownsRow w.heap.size 62 2 u2 nc (icells cs2) := by rw [hnc]; exact HEN4.out.own1
       have HOW := Lib.hid hOW
       have hnc2 : nc ≤ 67108864 := by rw [hnc]; exact hcl
       have hb0 : b = (ng && decide (0 < vl)) := by rw [HB.out, HZ.out]
       have hz2 := HN2.out.size
       have hsz4 : w.heap.size ≤ (w2.alloc (.cells #[.bool b, .slice vo vl vcap] 62)).heap.size := by simp; omega
       have HSZ4 := Lib.hid hsz4
       have HB0 := Lib.hid hb0
       clear n1 n2 n4 hn4' hb hz hnc hOW hcl hN hb0 hsz4
       cases hngc : ng with
       | true =>
        subst hngc
        have hbz : (decide (0 < vl)) = b := by rw [HB0.out]; rfl
        go_wp2_with (at_builtin; refine wpList_append_lies _ rfl _ _ 45 rfl w.heap.size 62 i0 (.agg #[.bool false, .slice none 0 0]) 2 32 Tryz.underlying45 hi hz0 hz1 hz2' rfl (by omega) u2 nc (icells cs2) rfl HOW.out ⟨w2.heap.size, 0, none⟩ 1 1 [.bool b, .slice vo vl vcap] rfl rfl (LexP.cells_new _ _ _ _ rfl) (by simp [Value.oneCell']) (by omega) (by unfold maxLen; omega) (by omega) (by simp; omega) (w2.heap.size + 1) (by simp) ?_)
        intro gg cap w5 hown5 hgrow hat hlt5
        have q1 := HEN4.out.push (neg := b) (m := .slice vo vl vcap) (k := m) (HN4'.out.mono HSZ.out) (fun q hq => by
         have h1 := HN4.out.2.1 q hq
         refine ⟨fun e => ?_, fun e => ?_⟩
         ·have := (TE.out.own1.lt q e).2; omega
         ·have := (TE.out.own2.lt q e).2; omega) (by rw [← HNC.out]; exact hown5) hgrow (by simpa using hat)
        obtain ⟨q2, q3⟩ := H.out.loc HRS4.out HW4.out hgrow (fun q hq => (HEN4.out.own1.lt q hq).1)
        have HQ1 := Lib.hid q1
        have HQ2 := Lib.hid q2
        have HQ3 := Lib.hid q3
        rw [← HNC.out] at HQ1
        have HLFT := Lib.hid q2.left
        clear hown5 hgrow hat hlt5 q1 q2 q3
        go_wp2_with fail
        have hfin : EnI R tv L fin nv ns w s'.ts.length lens u3 r2 (.slice (some ⟨gg, 0, none⟩) (nc + 1) cap) (.int .i64 ((n : Int) + 1)) w5 := ⟨f2, n + 1, acc2 ++ [(b, m)], _, a3, s3, HNX.out.symm, by congr 1, HQ2.out, HQ3.out, HQ1.out, by rw [List.length_append, List.length_singleton]; omega, by rw [List.length_append, List.length_singleton]; omega, by omega, fun _ => by omega, by omega⟩
        have hlf : leftOf L R w5 < leftOf L R wr := by rw [HLFT.out, HLF0.out]; omega
        first | exact ⟨hfin, hlf⟩ | exact ⟨by (repeat apply Exists.intro); exact ⟨hfin, rfl⟩, hlf⟩
       | false =>
        subst hngc
        have hbf : b = false := by rw [HB0.out]; rfl
        subst hbf
        go_wp2_with (at_builtin; refine wpList_append_lies _ rfl _ _ 45 rfl w.heap.size 62 i0 (.agg #[.bool false, .slice none 0 0]) 2 32 Tryz.underlying45 hi hz0 hz1 hz2' rfl (by omega) u2 nc (icells cs2) rfl HOW.out ⟨w2.heap.size, 0, none⟩ 1 1 [.bool false, .slice vo vl vcap] rfl rfl (LexP.cells_new _ _ _ _ rfl) (by simp [Value.oneCell']) (by omega) (by unfold maxLen; omega) (by omega) (by simp; omega) (w2.heap.size + 1) (by simp) ?_)
        intro gg cap w5 hown5 hgrow hat hlt5
        have q1 := HEN4.out.push (neg := false) (m := .slice vo vl vcap) (k := m) (HN4'.out.mono HSZ.out) (fun q hq => by
         have h1 := HN4.out.2.1 q hq
         refine ⟨fun e => ?_, fun e => ?_⟩
         ·have := (TE.out.own1.lt q e).2; omega
         ·have := (TE.out.own2.lt q e).2; omega) (by rw [← HNC.out]; exact hown5) hgrow (by simpa using hat)
        obtain ⟨q2, q3⟩ := H.out.loc HRS4.out HW4.out hgrow (fun q hq => (HEN4.out.own1.lt q hq).1)
        have HQ1 := Lib.hid q1
        have HQ2 := Lib.hid q2
        have HQ3 := Lib.hid q3
        rw [← HNC.out] at HQ1
        have HLFT := Lib.hid q2.left
        clear hown5 hgrow hat hlt5 q1 q2 q3
        go_wp2_with fail
        have hfin : EnI R tv L fin nv ns w s'.ts.length lens u3 r2 (.slice (some ⟨gg, 0, none⟩) (nc + 1) cap) (.int .i64 ((n : Int) + 1)) w5 := ⟨f2, n + 1, acc2 ++ [(false, m)], _, a3, s3, HNX.out.symm, by congr 1, HQ2.out, HQ3.out, HQ1.out, by rw [List.length_append, List.length_singleton]; omega, by rw [List.length_append, List.length_singleton]; omega, by omega, fun _ => by omega, by omega⟩
        have hlf : leftOf L R w5 < leftOf L R wr := by rw [HLFT.out, HLF0.out]; omega
        first | exact ⟨hfin, hlf⟩ | exact ⟨by (repeat apply Exists.intro); exact ⟨hfin, rfl⟩, hlf⟩
     ·have hnb : ((n : Int) == 0) = false := by simp [hn0]
      have hpos : 0 < n := by omega
      have hb4 := hb3 hpos
      have HN0 := Lib.hid hn0
      clear hn0 hb3
      cases hm : SynP.isMark [45] s2.ts with
      | true =>
       have HSTEP : Hid ((SynP.number fin (if SynP.isMark [45] s2.ts then s2.adv else s2)).bind (fun m s' => SynP.entryRow fin f2 (n + 1) (acc2 ++ [(SynP.isMark [45] s2.ts && decide (0 < m), m)]) s') = r2) := by
        have h1 := HER.out
        unfold SynP.entryRow at h1
        rw [if_pos (show (decide (n = 0) || SynP.isMark [45] s2.ts || SynP.isKind 1 s2.ts) = true from by simp [hm])] at h1
        exact h1
       have HM := Lib.hid hm
       clear hm
       go_wp2_with fail
       refine (rd_mark R tv L fin a2 s2 nv ns _ HSX0.out [45]).mono ?_
       rintro e wx ⟨rfl, bx⟩
       rw [HM.out]
       have HSX := Lib.hid (HSX0.out.below bx)
       have HWX := Lib.hid (RS.step HWX0.out (Wr.of_below bx))
       have HEX := Lib.hid (HEX0.out.wr (R := R) (Wr.of_below bx) hRl)
       clear bx
       obtain ⟨s1, hs1⟩ : ∃ s1, s1 = (if SynP.isMark [45] s2.ts then s2.adv else s2) := ⟨_, rfl⟩
       have HS1 := Lib.hid hs1
       clear hs1
       go_wp2_with fail
       refine (rd_take R tv L fin a2 s2 nv ns _ HSX.out [45]).mono ?_
       rintro e w1 ⟨rfl, t1, t2⟩
       have t3 : ∃ b1, RS w1 R tv L fin b1 s1 nv ns := by
        rw [HS1.out]
        split at t2
        ·rename_i hq; rw [if_pos hq]; exact ⟨_, t2⟩
        ·rename_i hq; rw [if_neg hq]; exact ⟨_, t2⟩
       obtain ⟨b1, t3⟩ := t3
       have T1 := Lib.hid (RS.step HWX.out t1)
       have T3 := Lib.hid t3
       have TE := Lib.hid (HEX.out.wr t1 hRl)
       have hs1l : s1.ts.length ≤ s2.ts.length := by
        rw [HS1.out]
        split
        ·exact tail_le s2
        ·exact Nat.le_refl _
       obtain ⟨ng, hng⟩ : ∃ ng, ng = SynP.isMark [45] s2.ts := ⟨_, rfl⟩
       rw [← hng]
       have HNG := Lib.hid hng
       clear t1 t2 t3 hng
       go_wp2_with fail
       refine (rd_number R tv L fin b1 s1 nv ns _ T3.out).mono ?_
       rintro e w2 hn
       rcases hN : SynP.number fin s1 with - | (⟨fc, fk⟩ | ⟨m, s3⟩)
       ·rw [hN] at hn; exact hn.elim
       ·rw [hN] at hn
        obtain ⟨rfl, n1⟩ := hn
        refine ⟨rfl, ?_⟩
        have hr2 : r2 = some (.error (fc, fk)) := by rw [← HSTEP.out, ← HS1.out, hN]; rfl
        have hr : r = some (.error (fc, fk)) := by rw [← HE2.out, hr2]; rfl
        rw [hr]
        exact ⟨rfl, RS.step T1.out n1⟩
       ·rw [hN] at hn
        obtain ⟨v, a3, rfl, n1, n2, n3, n4⟩ := hn
        have hnl := number_len hN
        obtain ⟨vo, vcap, vl, rfl⟩ : ∃ vo vcap vl, v = .slice vo vl vcap := by
         obtain ⟨⟨xs, hx, -⟩, -⟩ := n4
         obtain ⟨vo, vcap, e, -⟩ := hx.2
         exact ⟨vo, vcap, _, e⟩
        have hz : decide (0 < vl) = decide (0 < m) := by
         have : vl = 0 ↔ m = 0 := n4.2.2
         simp only [decide_eq_decide]; omega
        have HN2 := Lib.hid (RS.step T1.out n2)
        have HRS3 := Lib.hid n1
        have HEN3 := Lib.hid (TE.out.wr n2 hRl)
        have HN4 := Lib.hid n4
        obtain ⟨b, hb⟩ : ∃ b, b = (ng && decide (0 < m)) := ⟨_, rfl⟩
        have HB := Lib.hid hb
        have HZ := Lib.hid hz
        have HNX : Hid (r2 = SynP.entryRow fin f2 (n + 1) (acc2 ++ [(b, m)]) s3) := by
         show _ = _
         rw [← HSTEP.out, ← HS1.out, hN, HB.out, HNG.out]; rfl
        have hcl : cs2.length ≤ 67108864 := by rw [HEN3.out.len]; omega
        have HCL := Lib.hid hcl
        have HAL := Lib.hid (below_alloc w2 (.cells #[.bool b, .slice vo vl vcap] 62))
        have HRS4 := Lib.hid (HRS3.out.below HAL.out)
        have HW4 := Lib.hid (RS.step HN2.out (Wr.of_below HAL.out))
        have HEN4 := Lib.hid (HEN3.out.wr (R := R) (Wr.of_below HAL.out) hRl)
        have hn4' := (HN4.out.wr (R := R) (og := none) (Wr.of_below HAL.out) (Nat.lt_of_lt_of_le hRl T1.out.size) (fun q hq => by cases hq))
        have HN4' := Lib.hid hn4'
        have HSZ := Lib.hid T1.out.size
        obtain ⟨nc, hnc⟩ : ∃ nc, nc = cs2.length := ⟨_, rfl⟩
        have HNC := Lib.hid hnc
        have hOW : (w2.alloc (.cells #[.bool b, .slice vo vl vcap] 62)).ownsRow w.heap.size 62 2 u2 nc (icells cs2) := by rw [hnc]; exact HEN4.out.own1
        have HOW := Lib.hid hOW
        have hnc2 : nc ≤ 67108864 := by rw [hnc]; exact hcl
        have hb0 : b = (ng && decide (0 < vl)) := by rw [HB.out, HZ.out]
        have hz2 := HN2.out.size
        have hsz4 : w.heap.size ≤ (w2.alloc (.cells #[.bool b, .slice vo vl vcap] 62)).heap.size := by simp; omega
        have HSZ4 := Lib.hid hsz4
        have HB0 := Lib.hid hb0
        clear n1 n2 n4 hn4' hb hz hnc hOW hcl hN hb0 hsz4
        cases hngc : ng with
        | true =>
         subst hngc
         have hbz : (decide (0 < vl)) = b := by rw [HB0.out]; rfl
         go_wp2_with (at_builtin; refine wpList_append_lies _ rfl _ _ 45 rfl w.heap.size 62 i0 (.agg #[.bool false, .slice none 0 0]) 2 32 Tryz.underlying45 hi hz0 hz1 hz2' rfl (by omega) u2 nc (icells cs2) rfl HOW.out ⟨w2.heap.size, 0, none⟩ 1 1 [.bool b, .slice vo vl vcap] rfl rfl (LexP.cells_new _ _ _ _ rfl) (by simp [Value.oneCell']) (by omega) (by unfold maxLen; omega) (by omega) (by simp; omega) (w2.heap.size + 1) (by simp) ?_)
         intro gg cap w5 hown5 hgrow hat hlt5
         have q1 := HEN4.out.push (neg := b) (m := .slice vo vl vcap) (k := m) (HN4'.out.mono HSZ.out) (fun q hq => by
          have h1 := HN4.out.2.1 q hq
          refine ⟨fun e => ?_, fun e => ?_⟩
          ·have := (TE.out.own1.lt q e).2; omega
          ·have := (TE.out.own2.lt q e).2; omega) (by rw [← HNC.out]; exact hown5) hgrow (by simpa using hat)
         obtain ⟨q2, q3⟩ := H.out.loc HRS4.out HW4.out hgrow (fun q hq => (HEN4.out.own1.lt q hq).1)
         have HQ1 := Lib.hid q1
         have HQ2 := Lib.hid q2
         have HQ3 := Lib.hid q3
         rw [← HNC.out] at HQ1
         have HLFT := Lib.hid q2.left
         clear hown5 hgrow hat hlt5 q1 q2 q3
         go_wp2_with fail
         have hfin : EnI R tv L fin nv ns w s'.ts.length lens u3 r2 (.slice (some ⟨gg, 0, none⟩) (nc + 1) cap) (.int .i64 ((n : Int) + 1)) w5 := ⟨f2, n + 1, acc2 ++ [(b, m)], _, a3, s3, HNX.out.symm, by congr 1, HQ2.out, HQ3.out, HQ1.out, by rw [List.length_append, List.length_singleton]; omega, by rw [List.length_append, List.length_singleton]; omega, by omega, fun _ => by omega, by omega⟩
         have hlf : leftOf L R w5 < leftOf L R wr := by rw [HLFT.out, HLF0.out]; omega
         first | exact ⟨hfin, hlf⟩ | exact ⟨by (repeat apply Exists.intro); exact ⟨hfin, rfl⟩, hlf⟩
        | false =>
         subst hngc
         have hbf : b = false := by rw [HB0.out]; rfl
         subst hbf
         go_wp2_with (at_builtin; refine wpList_append_lies _ rfl _ _ 45 rfl w.heap.size 62 i0 (.agg #[.bool false, .slice none 0 0]) 2 32 Tryz.underlying45 hi hz0 hz1 hz2' rfl (by omega) u2 nc (icells cs2) rfl HOW.out ⟨w2.heap.size, 0, none⟩ 1 1 [.bool false, .slice vo vl vcap] rfl rfl (LexP.cells_new _ _ _ _ rfl) (by simp [Value.oneCell']) (by omega) (by unfold maxLen; omega) (by omega) (by simp; omega) (w2.heap.size + 1) (by simp) ?_)
         intro gg cap w5 hown5 hgrow hat hlt5
         have q1 := HEN4.out.push (neg := false) (m := .slice vo vl vcap) (k := m) (HN4'.out.mono HSZ.out) (fun q hq => by
          have h1 := HN4.out.2.1 q hq
          refine ⟨fun e => ?_, fun e => ?_⟩
          ·have := (TE.out.own1.lt q e).2; omega
          ·have := (TE.out.own2.lt q e).2; omega) (by rw [← HNC.out]; exact hown5) hgrow (by simpa using hat)
         obtain ⟨q2, q3⟩ := H.out.loc HRS4.out HW4.out hgrow (fun q hq => (HEN4.out.own1.lt q hq).1)
         have HQ1 := Lib.hid q1
         have HQ2 := Lib.hid q2
         have HQ3 := Lib.hid q3
         rw [← HNC.out] at HQ1
         have HLFT := Lib.hid q2.left
         clear hown5 hgrow hat hlt5 q1 q2 q3
         go_wp2_with fail
         have hfin : EnI R tv L fin nv ns w s'.ts.length lens u3 r2 (.slice (some ⟨gg, 0, none⟩) (nc + 1) cap) (.int .i64 ((n : Int) + 1)) w5 := ⟨f2, n + 1, acc2 ++ [(false, m)], _, a3, s3, HNX.out.symm, by congr 1, HQ2.out, HQ3.out, HQ1.out, by rw [List.length_append, List.length_singleton]; omega, by rw [List.length_append, List.length_singleton]; omega, by omega, fun _ => by omega, by omega⟩
         have hlf : leftOf L R w5 < leftOf L R wr := by rw [HLFT.out, HLF0.out]; omega
         first | exact ⟨hfin, hlf⟩ | exact ⟨by (repeat apply Exists.intro); exact ⟨hfin, rfl⟩, hlf⟩
      | false =>
       cases hk : SynP.isKind 1 s2.ts with
       | true =>
        have HSTEP : Hid ((SynP.number fin (if SynP.isMark [45] s2.ts then s2.adv else s2)).bind (fun m s' => SynP.entryRow fin f2 (n + 1) (acc2 ++ [(SynP.isMark [45] s2.ts && decide (0 < m), m)]) s') = r2) := by
         have h1 := HER.out
         unfold SynP.entryRow at h1
         rw [if_pos (show (decide (n = 0) || SynP.isMark [45] s2.ts || SynP.isKind 1 s2.ts) = true from by simp [hk])] at h1
         exact h1
        have HM := Lib.hid hm
        have hck := comes_kind 1 [] s2.ts (by decide)
        rw [hk] at hck
        have HK := Lib.hid hck
        clear hm hk hck
        go_wp2_with fail
        refine (rd_mark R tv L fin a2 s2 nv ns _ HSX0.out [45]).mono ?_
        rintro e wy ⟨rfl, bx⟩
        rw [HM.out]
        have HSY := Lib.hid (HSX0.out.below bx)
        have HWY := Lib.hid (RS.step HWX0.out (Wr.of_below bx))
        have HEY := Lib.hid (HEX0.out.wr (R := R) (Wr.of_below bx) hRl)
        clear bx
        go_wp2_with fail
        refine (rd_comes R tv L fin a2 s2 nv ns _ HSY.out 0 1 [] (by omega) (by omega)).mono ?_
        rintro e wx ⟨rfl, bx⟩
        rw [HK.out]
        have HSX := Lib.hid (HSY.out.below bx)
        have HWX := Lib.hid (RS.step HWY.out (Wr.of_below bx))
        have HEX := Lib.hid (HEY.out.wr (R := R) (Wr.of_below bx) hRl)
        clear bx
        obtain ⟨s1, hs1⟩ : ∃ s1, s1 = (if SynP.isMark [45] s2.ts then s2.adv else s2) := ⟨_, rfl⟩
        have HS1 := Lib.hid hs1
        clear hs1
        go_wp2_with fail
        refine (rd_take R tv L fin a2 s2 nv ns _ HSX.out [45]).mono ?_
        rintro e w1 ⟨rfl, t1, t2⟩
        have t3 : ∃ b1, RS w1 R tv L fin b1 s1 nv ns := by
         rw [HS1.out]
         split at t2
         ·rename_i hq; rw [if_pos hq]; exact ⟨_, t2⟩
         ·rename_i hq; rw [if_neg hq]; exact ⟨_, t2⟩
        obtain ⟨b1, t3⟩ := t3
        have T1 := Lib.hid (RS.step HWX.out t1)
        have T3 := Lib.hid t3
        have TE := Lib.hid (HEX.out.wr t1 hRl)
        have hs1l : s1.ts.length ≤ s2.ts.length := by
         rw [HS1.out]
         split
         ·exact tail_le s2
         ·exact Nat.le_refl _
        obtain ⟨ng, hng⟩ : ∃ ng, ng = SynP.isMark [45] s2.ts := ⟨_, rfl⟩
        rw [← hng]
        have HNG := Lib.hid hng
        clear t1 t2 t3 hng
        go_wp2_with fail
        refine (rd_number R tv L fin b1 s1 nv ns _ T3.out).mono ?_
        rintro e w2 hn
        rcases hN : SynP.number fin s1 with - | (⟨fc, fk⟩ | ⟨m, s3⟩)
        ·rw [hN] at hn; exact hn.elim
        ·rw [hN] at hn
         obtain ⟨rfl, n1⟩ := hn
         refine ⟨rfl, ?_⟩
         have hr2 : r2 = some (.error (fc, fk)) := by rw [← HSTEP.out, ← HS1.out, hN]; rfl
         have hr : r = some (.error (fc, fk)) := by rw [← HE2.out, hr2]; rfl
         rw [hr]
         exact ⟨rfl, RS.step T1.out n1⟩
        ·rw [hN] at hn
         obtain ⟨v, a3, rfl, n1, n2, n3, n4⟩ := hn
         have hnl := number_len hN
         obtain ⟨vo, vcap, vl, rfl⟩ : ∃ vo vcap vl, v = .slice vo vl vcap := by
          obtain ⟨⟨xs, hx, -⟩, -⟩ := n4
          obtain ⟨vo, vcap, e, -⟩ := hx.2
          exact ⟨vo, vcap, _, e⟩
         have hz : decide (0 < vl) = decide (0 < m) := by
          have : vl = 0 ↔ m = 0 := n4.2.2
          simp only [decide_eq_decide]; omega
         have HN2 := Lib.hid (RS.step T1.out n2)
         have HRS3 := Lib.hid n1
         have HEN3 := Lib.hid (TE.out.wr n2 hRl)
         have HN4 := Lib.hid n4
         obtain ⟨b, hb⟩ : ∃ b, b = (ng && decide (0 < m)) := ⟨_, rfl⟩
         have HB := Lib.hid hb
         have HZ := Lib.hid hz
         have HNX : Hid (r2 = SynP.entryRow fin f2 (n + 1) (acc2 ++ [(b, m)]) s3) := by
          show _ = _
          rw [← HSTEP.out, ← HS1.out, hN, HB.out, HNG.out]; rfl
         have hcl : cs2.length ≤ 67108864 := by rw [HEN3.out.len]; omega
         have HCL := Lib.hid hcl
         have HAL := Lib.hid (below_alloc w2 (.cells #[.bool b, .slice vo vl vcap] 62))
         have HRS4 := Lib.hid (HRS3.out.below HAL.out)
         have HW4 := Lib.hid (RS.step HN2.out (Wr.of_below HAL.out))
         have HEN4 := Lib.hid (HEN3.out.wr (R := R) (Wr.of_below HAL.out) hRl)
         have hn4' := (HN4.out.wr (R := R) (og := none) (Wr.of_below HAL.out) (Nat.lt_of_lt_of_le hRl T1.out.size) (fun q hq => by cases hq))
         have HN4' := Lib.hid hn4'
         have HSZ := Lib.hid T1.out.size
         obtain ⟨nc, hnc⟩ : ∃ nc, nc = cs2.length := ⟨_, rfl⟩
         have HNC := Lib.hid hnc
         have hOW : (w2.alloc (.cells #[.bool b, .slice vo vl vcap] 62)).ownsRow w.heap.size 62 2 u2 nc (icells cs2) := by rw [hnc]; exact HEN4.out.own1
         have HOW := Lib.hid hOW
         have hnc2 : nc ≤ 67108864 := by rw [hnc]; exact hcl
         have hb0 : b = (ng && decide (0 < vl)) := by rw [HB.out, HZ.out]
         have hz2 := HN2.out.size
         have hsz4 : w.heap.size ≤ (w2.alloc (.cells #[.bool b, .slice vo vl vcap] 62)).heap.size := by simp; omega
         have HSZ4 := Lib.hid hsz4
         have HB0 := Lib.hid hb0
         clear n1 n2 n4 hn4' hb hz hnc hOW hcl hN hb0 hsz4
         cases hngc : ng with
         | true =>
          subst hngc
          have hbz : (decide (0 < vl)) = b := by rw [HB0.out]; rfl
          go_wp2_with (at_builtin; refine wpList_append_lies _ rfl _ _ 45 rfl w.heap.size 62 i0 (.agg #[.bool false, .slice none 0 0]) 2 32 Tryz.underlying45 hi hz0 hz1 hz2' rfl (by omega) u2 nc (icells cs2) rfl HOW.out ⟨w2.heap.size, 0, none⟩ 1 1 [.bool b, .slice vo vl vcap] rfl rfl (LexP.cells_new _ _ _ _ rfl) (by simp [Value.oneCell']) (by omega) (by unfold maxLen; omega) (by omega) (by simp; omega) (w2.heap.size + 1) (by simp) ?_)
          intro gg cap w5 hown5 hgrow hat hlt5
          have q1 := HEN4.out.push (neg := b) (m := .slice vo vl vcap) (k := m) (HN4'.out.mono HSZ.out) (fun q hq => by
           have h1 := HN4.out.2.1 q hq
           refine ⟨fun e => ?_, fun e => ?_⟩
           ·have := (TE.out.own1.lt q e).2; omega
           ·have := (TE.out.own2.lt q e).2; omega) (by rw [← HNC.out]; exact hown5) hgrow (by simpa using hat)
          obtain ⟨q2, q3⟩ := H.out.loc HRS4.out HW4.out hgrow (fun q hq => (HEN4.out.own1.lt q hq).1)
          have HQ1 := Lib.hid q1
          have HQ2 := Lib.hid q2
          have HQ3 := Lib.hid q3
          rw [← HNC.out] at HQ1
          have HLFT := Lib.hid q2.left
          clear hown5 hgrow hat hlt5 q1 q2 q3
          go_wp2_with fail
          have hfin : EnI R tv L fin nv ns w s'.ts.length lens u3 r2 (.slice (some ⟨gg, 0, none⟩) (nc + 1) cap) (.int .i64 ((n : Int) + 1)) w5 := ⟨f2, n + 1, acc2 ++ [(b, m)], _, a3, s3, HNX.out.symm, by congr 1, HQ2.out, HQ3.out, HQ1.out, by rw [List.length_append, List.length_singleton]; omega, by rw [List.length_append, List.length_singleton]; omega, by omega, fun _ => by omega, by omega⟩
          have hlf : leftOf L R w5 < leftOf L R wr := by rw [HLFT.out, HLF0.out]; omega
          first | exact ⟨hfin, hlf⟩ | exact ⟨by (repeat apply Exists.intro); exact ⟨hfin, rfl⟩, hlf⟩
         | false =>
          subst hngc
          have hbf : b = false := by rw [HB0.out]; rfl
          subst hbf
          go_wp2_with (at_builtin; refine wpList_append_lies _ rfl _ _ 45 rfl w.heap.size 62 i0 (.agg #[.bool false, .slice none 0 0]) 2 32 Tryz.underlying45 hi hz0 hz1 hz2' rfl (by omega) u2 nc (icells cs2) rfl HOW.out ⟨w2.heap.size, 0, none⟩ 1 1 [.bool false, .slice vo vl vcap] rfl rfl (LexP.cells_new _ _ _ _ rfl) (by simp [Value.oneCell']) (by omega) (by unfold maxLen; omega) (by omega) (by simp; omega) (w2.heap.size + 1) (by simp) ?_)
          intro gg cap w5 hown5 hgrow hat hlt5
          have q1 := HEN4.out.push (neg := false) (m := .slice vo vl vcap) (k := m) (HN4'.out.mono HSZ.out) (fun q hq => by
           have h1 := HN4.out.2.1 q hq
           refine ⟨fun e => ?_, fun e => ?_⟩
           ·have := (TE.out.own1.lt q e).2; omega
           ·have := (TE.out.own2.lt q e).2; omega) (by rw [← HNC.out]; exact hown5) hgrow (by simpa using hat)
          obtain ⟨q2, q3⟩ := H.out.loc HRS4.out HW4.out hgrow (fun q hq => (HEN4.out.own1.lt q hq).1)
          have HQ1 := Lib.hid q1
          have HQ2 := Lib.hid q2
          have HQ3 := Lib.hid q3
          rw [← HNC.out] at HQ1
          have HLFT := Lib.hid q2.left
          clear hown5 hgrow hat hlt5 q1 q2 q3
          go_wp2_with fail
          have hfin : EnI R tv L fin nv ns w s'.ts.length lens u3 r2 (.slice (some ⟨gg, 0, none⟩) (nc + 1) cap) (.int .i64 ((n : Int) + 1)) w5 := ⟨f2, n + 1, acc2 ++ [(false, m)], _, a3, s3, HNX.out.symm, by congr 1, HQ2.out, HQ3.out, HQ1.out, by rw [List.length_append, List.length_singleton]; omega, by rw [List.length_append, List.length_singleton]; omega, by omega, fun _ => by omega, by omega⟩
          have hlf : leftOf L R w5 < leftOf L R wr := by rw [HLFT.out, HLF0.out]; omega
          first | exact ⟨hfin, hlf⟩ | exact ⟨by (repeat apply Exists.intro); exact ⟨hfin, rfl⟩, hlf⟩
       | false =>
        have HRR : Hid (r = if SynP.isMark [93] s2.ts then SynP.ret (acc2, lens ++ [n]) s2.adv else (SynP.want fin [59] s2).bind fun _ s => SynP.entries fin f acc2 (lens ++ [n]) s) := by
         have h1 := HER.out
         unfold SynP.entryRow at h1
         rw [if_neg (show ¬ (decide (n = 0) || SynP.isMark [45] s2.ts || SynP.isKind 1 s2.ts) = true from by simp [hk, hm, HN0.out])] at h1
         show _ = _
         rw [← HE2.out, ← h1]; rfl
        have HM := Lib.hid hm
        have hck := comes_kind 1 [] s2.ts (by decide)
        rw [hk] at hck
        have HK := Lib.hid hck
        clear hm hk hck
        go_wp2_with fail
        refine (rd_mark R tv L fin a2 s2 nv ns _ HSX0.out [45]).mono ?_
        rintro e wy ⟨rfl, bx⟩
        rw [HM.out]
        have HSY := Lib.hid (HSX0.out.below bx)
        have HWY := Lib.hid (RS.step HWX0.out (Wr.of_below bx))
        have HEY := Lib.hid (HEX0.out.wr (R := R) (Wr.of_below bx) hRl)
        clear bx
        go_wp2_with fail
        refine (rd_comes R tv L fin a2 s2 nv ns _ HSY.out 0 1 [] (by omega) (by omega)).mono ?_
        rintro e wx ⟨rfl, bx⟩
        rw [HK.out]
        have HSX := Lib.hid (HSY.out.below bx)
        have HWX := Lib.hid (RS.step HWY.out (Wr.of_below bx))
        have HEX := Lib.hid (HEY.out.wr (R := R) (Wr.of_below bx) hRl)
        have hszx := HWX.out.size
        clear bx
        have HAL := Lib.hid (below_alloc wx (.cells #[.int .i64 (n : Nat)] 3))
        have HRS4 := Lib.hid (HSX.out.below HAL.out)
        have HW4 := Lib.hid (RS.step HWX.out (Wr.of_below HAL.out))
        have HEN4 := Lib.hid (HEX.out.wr (R := R) (Wr.of_below HAL.out) hRl)
        obtain ⟨nc, hnc⟩ : ∃ nc, nc = lens.length := ⟨_, rfl⟩
        have HNC := Lib.hid hnc
        have hOW : (wx.alloc (.cells #[.int .i64 (n : Nat)] 3)).ownsRow w.heap.size 3 1 u3 nc (ints lens) := by rw [hnc]; exact HEN4.out.own2
        have HOW := Lib.hid hOW
        have hnc2 : nc ≤ 67108864 := by omega
        clear hnc hOW
        go_wp2_with (at_builtin; refine wpList_append_lies _ rfl _ _ 41 rfl w.heap.size 3 j0 (.int .i64 0) 1 8 Tryz.underlying41 hj hk0 hk1 hk2 rfl (by omega) u3 nc (ints lens) rfl HOW.out ⟨wx.heap.size, 0, none⟩ 1 1 [.int .i64 (n : Nat)] rfl rfl (LexP.cells_new _ _ _ _ rfl) (by simp [Value.oneCell']) (by omega) (by unfold maxLen; omega) (by omega) (by simp; omega) (wx.heap.size + 1) (by simp) ?_)
        intro gg cap w5 hown5 hgrow hat hlt5
        have q1 := HEN4.out.pushL (n := n) (by rw [← HNC.out]; exact hown5) hgrow (by simpa using hat)
        obtain ⟨q2, q3⟩ := H.out.loc HRS4.out HW4.out hgrow (fun q hq => (HEN4.out.own2.lt q hq).1)
        rw [← HNC.out] at q1
        have HQ1 := Lib.hid q1
        have HQ2 := Lib.hid q2
        have HQ3 := Lib.hid q3
        clear hown5 hgrow hat hlt5 q1 q2 q3
        go_wp2_with fail
        refine (rd_take R tv L fin a2 s2 nv ns _ HQ2.out [93]).mono ?_
        rintro e w6 ⟨rfl, t1, t2⟩
        have T1 := Lib.hid (RS.step HQ3.out t1)
        have TE := Lib.hid (HQ1.out.wr t1 hRl)
        clear t1
        cases h93 : SynP.isMark [93] s2.ts with
        | true =>
         rw [if_pos h93] at t2
         have T2 := Lib.hid t2
         have H93 := Lib.hid h93
         clear t2 h93
         go_wp2_with fail
         go_ret2
         rw [HRR.out, if_pos H93.out]
         exact ⟨_, _, rfl, T2.out, T1.out, Nat.le_trans (tail_le s2) (by omega), _, _, _, rfl, TE.out⟩
        | false =>
         rw [if_neg (by rw [h93]; decide)] at t2
         have T2 := Lib.hid t2
         have H93 := Lib.hid h93
         clear t2 h93
         go_wp2_with fail
         refine (rd_want R tv L fin a2 s2 nv ns _ T2.out [59]).mono ?_
         rintro e w7 hn
         rcases hN : SynP.want fin [59] s2 with - | (⟨fc, fk⟩ | ⟨m, s3⟩)
         ·rw [hN] at hn; exact hn.elim
         ·rw [hN] at hn
          obtain ⟨rfl, n1⟩ := hn
          refine ⟨rfl, ?_⟩
          have hr : r = some (.error (fc, fk)) := by rw [HRR.out, if_neg (by rw [H93.out]; decide), hN]; rfl
          rw [hr]
          exact ⟨rfl, RS.step T1.out n1⟩
         ·rw [hN] at hn
          obtain ⟨v, a3, rfl, n1, n2, n3, rfl⟩ := hn
          have hwl := want_len hN
          have hr : SynP.entries fin f acc2 (lens ++ [n]) s3 = r := by rw [HRR.out, if_neg (by rw [H93.out]; decide), hN]; rfl
          have HRF := Lib.hid hr
          have HL7 := Lib.hid n1.left
          have HN1 := Lib.hid n1
          have HN2 := Lib.hid (RS.step T1.out n2)
          have HE7 := Lib.hid (TE.out.wr n2 hRl)
          clear n1 n2 n3 hr hN
          go_wp2_with fail
          have hfin : EnO R tv L fin nv ns w s.ts.length r u2 (.slice (some ⟨gg, 0, none⟩) (nc + 1) cap) w7 := ⟨f, acc2, lens ++ [n], _, a3, s3, HRF.out, HN1.out, HN2.out, HE7.out, by omega, by rw [List.length_append, List.length_singleton]; omega, by omega⟩
          have hlf : leftOf L R w7 < leftOf L R wo := by rw [HL7.out, HLEFT.out]; omega
          first | exact ⟨hfin, hlf⟩ | exact ⟨by (repeat apply Exists.intro); exact ⟨hfin, rfl⟩, hlf⟩
end Go.Proofs.YtgfmiladfeoldaaGreatDoor
