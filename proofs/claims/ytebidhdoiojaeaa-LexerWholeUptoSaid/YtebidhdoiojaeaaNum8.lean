/- Walks of nat.Add, mulnat.MulAdd. -/
import Derived.Test.YtebidhdoiojaeaaNum7
namespace Go.Proofs.Ytebidhdoiojaeaa
open Go.RowKit NatP

def SmSt (A B : List Nat) (i c : Nat) (M : List Nat) : Prop := M.length = A.length + 1 ∧ val (M.take i) + BB ^ i * c = val (A.take i) + val (B.take i)
theorem SmSt.start (A B : List Nat) : SmSt A B 0 0 (List.replicate (A.length + 1) 0) := ⟨List.length_replicate, by simp [val]⟩
theorem SmSt.step {A B M : List Nat} {i c x y s c' : Nat} (h : SmSt A B i c M) (hx : A[i]? = some x) (hy : (B[i]? = some y) ∨ (B.length ≤ i ∧ y = 0)) (hs : s + BB * c' = x + y + c) : SmSt A B (i + 1) c' (M.set i s) := by
  obtain ⟨h1, h4⟩ := h
  obtain ⟨hi, hv⟩ := List.getElem?_eq_some_iff.1 hx
  refine ⟨by rw [List.length_set, h1], ?_⟩
  have hmid := set_mid (l := M) (o := 0) (i := i) s (by omega)
  rw [List.drop_zero, List.drop_zero, Nat.zero_add] at hmid
  have e1 : val (A.take (i + 1)) = val (A.take i) + BB ^ i * x := by rw [val_take_succ hi, hv]
  have e2 : val (B.take (i + 1)) = val (B.take i) + BB ^ i * y := by
    rcases hy with hy | ⟨hy, rfl⟩
    · obtain ⟨hyl, hyv⟩ := List.getElem?_eq_some_iff.1 hy
      rw [val_take_succ hyl, hyv]
    · rw [List.take_of_length_le (by omega), List.take_of_length_le (by omega)]; simp
  rw [hmid, e1, e2, val_snoc, List.length_take, Nat.min_eq_left (by omega), Nat.pow_succ]
  exact carry_add h4 hs
theorem SmSt.done {A B M : List Nat} {c : Nat} (h : SmSt A B A.length c M) (hB : B.length ≤ A.length) : (M.set A.length c).length = A.length + 1 ∧ val (M.set A.length c) = val A + val B := by
  obtain ⟨h1, h4⟩ := h
  have hmid := set_mid (l := M) (o := 0) (i := A.length) c (by omega)
  rw [List.drop_zero, List.drop_zero, Nat.zero_add] at hmid
  rw [List.take_of_length_le (by rw [List.length_set]; omega)] at hmid
  refine ⟨by rw [List.length_set, h1], ?_⟩
  rw [hmid, val_snoc, List.length_take, Nat.min_eq_left (by omega)]
  rw [List.take_length, List.take_of_length_le hB] at h4
  exact h4

theorem Rd.cellAt {w : World} {ao : Option Addr} {n c : Nat} {xs : List Nat} (h : Rd w (.slice ao n c) xs) {i x : Nat} (hx : (strip xs)[i]? = some x) : ∃ g o, ao = some ⟨g, o, none⟩ ∧ w.cell? ⟨g, o + i, none⟩ = some (.int .u64 (x : Nat)) ∧ i < n := by
  obtain ⟨_, ao', cap', e, _, _, _, h4⟩ := h
  simp only [Value.slice.injEq] at e
  obtain ⟨rfl, rfl, -⟩ := e
  have h1 : xs[i]? = some x := by
    rw [(strip_take xs).1, List.getElem?_take] at hx
    split at hx
    · exact hx
    · cases hx
  obtain ⟨g, o, h5, h6⟩ := h4 i x h1
  exact ⟨g, o, h5, h6, (List.getElem?_eq_some_iff.1 h1).1⟩

def SmRel (A B : List Nat) (g : Nat) (w1 : World) (cv i : Value) (wr : World) : Prop := ∃ (k cc : Nat) (M : List Nat), k ≤ A.length ∧ i = .int .i64 (k : Nat) ∧ cv = .int .u64 (cc : Nat) ∧ Hid (cc ≤ 1) ∧ Blk wr g M ∧ SmSt A B k cc M ∧ w1.grownBy wr (some g)

theorem add_done {w w1 w2 : World} {A B M : List Nat} {n m c : Nat} (hl : M.length = A.length + 1) (hv : val M = val A + val B) (hc : c = A.length + 1) (hB : Blk w2 w.heap.size M) (hb : Below w.heap.size w w1) (hg : w1.grownBy w2 (some w.heap.size)) (hs : A.length ≤ 549755813888)
    (hn : val A + val B = n) (hm : A.length + 1 ≤ m) : NumPost n m w (.returned (.slice (some ⟨w.heap.size, 0, none⟩) (strip M).length c)) w2 := by
  subst hc
  have h1 := strip_le M
  have h2 := hB.rd (o := 0) (n := (strip M).length) (c := A.length + 1) (by omega) (by omega) (by unfold maxLen; omega)
  rw [List.drop_zero, ← (strip_take M).1] at h2
  exact ⟨_, strip M, rfl, ⟨h2, fun k hk => by cases hk; exact ⟨Nat.le_refl _, hB.lt⟩⟩, by rw [val_strip, hv, hn], by omega, strip_strip M, Below.grown hb hg hb.size (fun k hk => by cases hk; exact Nat.le_refl _)⟩

set_option maxRecDepth 100000 in
set_option maxHeartbeats 4000000 in
theorem natAdd_any (xs ys : List Nat) (v u : Value) (w : World) (hlx : xs.length ≤ 274877906944) (hly : ys.length ≤ 274877906944) (hv : Rd w v xs) (hu : Rd w u ys) :
    Calls Try.prog 78 #[v, u] w (NumPost (val xs + val ys) (max (strip xs).length (strip ys).length + 1) w) := by
  have HV := Lib.hid hv
  have HU := Lib.hid hu
  obtain ⟨_, ao, cap, rfl, -⟩ := hv
  obtain ⟨_, bo, cap2, rfl, -⟩ := hu
  have q1 := strip_le xs
  have q2 := strip_le ys
  obtain ⟨X, hX⟩ : ∃ X, X = strip xs := ⟨_, rfl⟩
  obtain ⟨Y, hY⟩ : ∃ Y, Y = strip ys := ⟨_, rfl⟩
  have HVX : Hid (val X = val xs) := by show _ = _; rw [hX, val_strip]
  have HVY : Hid (val Y = val ys) := by show _ = _; rw [hY, val_strip]
  rw [← hX] at q1
  rw [← hY] at q2
  rw [← hX, ← hY]
  have HX := Lib.hid hX
  have HY := Lib.hid hY
  have HOX : Hid (ok X) := by show ok _; rw [hX]; exact ok_strip HV.out.ok
  have HOY : Hid (ok Y) := by show ok _; rw [hY]; exact ok_strip HU.out.ok
  clear hX hY
  by_cases hsw : X.length < Y.length
  · have h21 : X.length ≤ Y.length := by omega
    have HMK : ∀ w : World, (Instr.makeSlice 47 (.int .i64 ((Y.length : Int) + 1)) (.int .i64 ((Y.length : Int) + 1))).run Try.prog w = .ok (.slice (some ⟨w.heap.size, 0, none⟩) (Y.length + 1) (Y.length + 1)) (w.alloc (.cells (madeCells #[.int .u64 0] (Y.length + 1)) 89)) := make_words (Y.length + 1) (by omega)
    have HZ := Lib.hid (Blk.made w (Y.length + 1))
    have HBL := Lib.hid (below_alloc w (.cells (madeCells #[.int .u64 0] (Y.length + 1)) 89))
    have NA := Lib.hid (HU.out.ne (Nat.le_refl w.heap.size))
    have NB := Lib.hid (HV.out.ne (Nat.le_refl w.heap.size))
    have RA := Lib.hid (HU.out.below HBL.out)
    have RB := Lib.hid (HV.out.below HBL.out)
    go_enter Try.func78, Try.ntmps78
    go_wp2_with fail
    refine (size_any _ xs _ HV.out).mono ?_
    rintro e w' ⟨rfl, rfl⟩
    rw [← HX.out]
    go_wp2_with fail
    refine (size_any _ ys _ HU.out).mono ?_
    rintro e w' ⟨rfl, rfl⟩
    rw [← HY.out]
    go_wp2_with fail
    refine (size_any _ ys _ HU.out).mono ?_
    rintro e w' ⟨rfl, rfl⟩
    rw [← HY.out]
    go_wp2_with fail
    refine (size_any _ xs _ HV.out).mono ?_
    rintro e w' ⟨rfl, rfl⟩
    rw [← HX.out]
    go_wp2_with fail
    generalize w.alloc (.cells (madeCells #[.int .u64 0] (Y.length + 1)) 89) = w1 at *
    go_loopw [8, 26] (fun cv i wr => SmRel Y X w.heap.size w1 cv i wr) (fun _ i _ => Y.length - (intOf i).toNat)
    case atStart => exact ⟨0, 0, _, Nat.zero_le _, rfl, rfl, Nat.zero_le _, HZ.out, SmSt.start Y X, grown_refl w1 _⟩
    case round =>
      obtain ⟨k, cc, M, hk, rfl, rfl, hcc, hM, hst, hgr⟩ := hrel
      have HM := Lib.hid hM
      have HST := Lib.hid hst
      have HGR := Lib.hid hgr
      have hml : k < M.length := by have := hst.1; omega
      have hml2 : Y.length < M.length := by have := hst.1; omega
      have hml3 : M.length ≤ Y.length + 1 := by have := hst.1; omega
      have hgw := hM.lt
      clear hM hst hgr
      by_cases hlt : k < Y.length
      · obtain ⟨x, hx⟩ : ∃ x, Y[k]? = some x := ⟨_, List.getElem?_eq_getElem hlt⟩
        obtain ⟨z, hz⟩ : ∃ z, M[k]? = some z := ⟨_, List.getElem?_eq_getElem hml⟩
        have RA2 := RA.out.kept HGR.out (by intro q hq e2; cases hq; exact NA.out e2)
        have RB2 := RB.out.kept HGR.out (by intro q hq e2; cases hq; exact NB.out e2)
        obtain ⟨ga, oa, hao, e1, hi1⟩ := RA2.cellAt (i := k) (x := x) (by rw [← HY.out]; exact hx)
        subst hao
        have c1 := HM.out.cell hz
        have c2 := HM.out.frozen k
        have hxb := HOY.out x (List.mem_of_getElem? hx)
        clear hz
        by_cases hkb : k < X.length
        · obtain ⟨y, hy⟩ : ∃ y, X[k]? = some y := ⟨_, List.getElem?_eq_getElem hkb⟩
          obtain ⟨gb, ob, hbo, e2, hi2⟩ := RB2.cellAt (i := k) (x := y) (by rw [← HX.out]; exact hy)
          subst hbo
          obtain ⟨s, c', hs1, hs2, hs3, hrun⟩ := add64_ex x y cc hxb (HOX.out y (List.mem_of_getElem? hy)) hcc.out
          have HN := Lib.hid (HST.out.step hx (.inl hy) hs3)
          have HS := Lib.hid (HM.out.set k hs1)
          have HC := Lib.hid hs2
          clear hx hy hs3 RA2 RB2 hxb hs1 hs2 hcc
          go_wp2_with fail
          have hfin : SmRel Y X w.heap.size w1 (.int .u64 (c' : Nat)) (.int .i64 ((k : Int) + 1)) (wr.setCell ⟨w.heap.size, k, none⟩ (.int .u64 (s : Nat))) := ⟨k + 1, c', _, by omega, by go_num, rfl, HC.out, HS.out.1, HN.out, grown_set HGR.out HS.out.2⟩
          first | exact ⟨hfin, by simp [intOf]; omega⟩ | exact ⟨by (repeat apply Exists.intro); exact ⟨hfin, rfl⟩, by simp [intOf]; omega⟩
        · obtain ⟨s, c', hs1, hs2, hs3, hrun⟩ := add64_ex x 0 cc hxb BB_pos hcc.out
          have hrun2 : ∀ w : World, (callFunc 88 #[.int .u64 (x : Nat), .int .u64 0, .int .u64 (cc : Nat)]).run Try.prog w = .ok (.value (.tuple #[.int .u64 (s : Nat), .int .u64 (c' : Nat)])) w := hrun
          have HN := Lib.hid (HST.out.step hx (.inr ⟨by omega, rfl⟩) hs3)
          have HS := Lib.hid (HM.out.set k hs1)
          have HC := Lib.hid hs2
          clear hx hs3 RA2 RB2 hxb hs1 hs2 hrun hcc
          go_wp2_with fail
          have hfin : SmRel Y X w.heap.size w1 (.int .u64 (c' : Nat)) (.int .i64 ((k : Int) + 1)) (wr.setCell ⟨w.heap.size, k, none⟩ (.int .u64 (s : Nat))) := ⟨k + 1, c', _, by omega, by go_num, rfl, HC.out, HS.out.1, HN.out, grown_set HGR.out HS.out.2⟩
          first | exact ⟨hfin, by simp [intOf]; omega⟩ | exact ⟨by (repeat apply Exists.intro); exact ⟨hfin, rfl⟩, by simp [intOf]; omega⟩
      · obtain rfl : k = Y.length := by omega
        obtain ⟨z, hz⟩ : ∃ z, M[Y.length]? = some z := ⟨_, List.getElem?_eq_getElem hml⟩
        have c1 := HM.out.cell hz
        have c2 := HM.out.frozen Y.length
        have HD := Lib.hid (HST.out.done h21)
        have HS := Lib.hid (HM.out.set Y.length (show cc < BB by have := hcc.out; unfold BB; omega))
        have R := Lib.hid (HS.out.1.whole (by rw [HD.out.1]; omega))
        have hRl := HD.out.1
        rw [hRl] at R
        have hsl := strip_le (M.set Y.length cc)
        rw [hRl] at hsl
        clear hz hlt hk hml hml2 hml3 hRl hcc
        go_wp2_with fail
        refine (size_any _ (M.set Y.length cc) _ R.out).mono ?_
        rintro e w' ⟨rfl, rfl⟩
        go_wp2_with fail
        go_ret
        exact add_done HD.out.1 HD.out.2 rfl HS.out.1 HBL.out (grown_set HGR.out HS.out.2) (by omega) (by rw [HVX.out, HVY.out]; exact Nat.add_comm _ _) (by omega)
  · have h21 : Y.length ≤ X.length := by omega
    have HMK : ∀ w : World, (Instr.makeSlice 47 (.int .i64 ((X.length : Int) + 1)) (.int .i64 ((X.length : Int) + 1))).run Try.prog w = .ok (.slice (some ⟨w.heap.size, 0, none⟩) (X.length + 1) (X.length + 1)) (w.alloc (.cells (madeCells #[.int .u64 0] (X.length + 1)) 89)) := make_words (X.length + 1) (by omega)
    have HZ := Lib.hid (Blk.made w (X.length + 1))
    have HBL := Lib.hid (below_alloc w (.cells (madeCells #[.int .u64 0] (X.length + 1)) 89))
    have NA := Lib.hid (HV.out.ne (Nat.le_refl w.heap.size))
    have NB := Lib.hid (HU.out.ne (Nat.le_refl w.heap.size))
    have RA := Lib.hid (HV.out.below HBL.out)
    have RB := Lib.hid (HU.out.below HBL.out)
    go_enter Try.func78, Try.ntmps78
    go_wp2_with fail
    refine (size_any _ xs _ HV.out).mono ?_
    rintro e w' ⟨rfl, rfl⟩
    rw [← HX.out]
    go_wp2_with fail
    refine (size_any _ ys _ HU.out).mono ?_
    rintro e w' ⟨rfl, rfl⟩
    rw [← HY.out]
    go_wp2_with fail
    refine (size_any _ xs _ HV.out).mono ?_
    rintro e w' ⟨rfl, rfl⟩
    rw [← HX.out]
    go_wp2_with fail
    refine (size_any _ ys _ HU.out).mono ?_
    rintro e w' ⟨rfl, rfl⟩
    rw [← HY.out]
    go_wp2_with fail
    generalize w.alloc (.cells (madeCells #[.int .u64 0] (X.length + 1)) 89) = w1 at *
    go_loopw [8, 26] (fun cv i wr => SmRel X Y w.heap.size w1 cv i wr) (fun _ i _ => X.length - (intOf i).toNat)
    case atStart => exact ⟨0, 0, _, Nat.zero_le _, rfl, rfl, Nat.zero_le _, HZ.out, SmSt.start X Y, grown_refl w1 _⟩
    case round =>
      obtain ⟨k, cc, M, hk, rfl, rfl, hcc, hM, hst, hgr⟩ := hrel
      have HM := Lib.hid hM
      have HST := Lib.hid hst
      have HGR := Lib.hid hgr
      have hml : k < M.length := by have := hst.1; omega
      have hml2 : X.length < M.length := by have := hst.1; omega
      have hml3 : M.length ≤ X.length + 1 := by have := hst.1; omega
      have hgw := hM.lt
      clear hM hst hgr
      by_cases hlt : k < X.length
      · obtain ⟨x, hx⟩ : ∃ x, X[k]? = some x := ⟨_, List.getElem?_eq_getElem hlt⟩
        obtain ⟨z, hz⟩ : ∃ z, M[k]? = some z := ⟨_, List.getElem?_eq_getElem hml⟩
        have RA2 := RA.out.kept HGR.out (by intro q hq e2; cases hq; exact NA.out e2)
        have RB2 := RB.out.kept HGR.out (by intro q hq e2; cases hq; exact NB.out e2)
        obtain ⟨ga, oa, hao, e1, hi1⟩ := RA2.cellAt (i := k) (x := x) (by rw [← HX.out]; exact hx)
        subst hao
        have c1 := HM.out.cell hz
        have c2 := HM.out.frozen k
        have hxb := HOX.out x (List.mem_of_getElem? hx)
        clear hz
        by_cases hkb : k < Y.length
        · obtain ⟨y, hy⟩ : ∃ y, Y[k]? = some y := ⟨_, List.getElem?_eq_getElem hkb⟩
          obtain ⟨gb, ob, hbo, e2, hi2⟩ := RB2.cellAt (i := k) (x := y) (by rw [← HY.out]; exact hy)
          subst hbo
          obtain ⟨s, c', hs1, hs2, hs3, hrun⟩ := add64_ex x y cc hxb (HOY.out y (List.mem_of_getElem? hy)) hcc.out
          have HN := Lib.hid (HST.out.step hx (.inl hy) hs3)
          have HS := Lib.hid (HM.out.set k hs1)
          have HC := Lib.hid hs2
          clear hx hy hs3 RA2 RB2 hxb hs1 hs2 hcc
          go_wp2_with fail
          have hfin : SmRel X Y w.heap.size w1 (.int .u64 (c' : Nat)) (.int .i64 ((k : Int) + 1)) (wr.setCell ⟨w.heap.size, k, none⟩ (.int .u64 (s : Nat))) := ⟨k + 1, c', _, by omega, by go_num, rfl, HC.out, HS.out.1, HN.out, grown_set HGR.out HS.out.2⟩
          first | exact ⟨hfin, by simp [intOf]; omega⟩ | exact ⟨by (repeat apply Exists.intro); exact ⟨hfin, rfl⟩, by simp [intOf]; omega⟩
        · obtain ⟨s, c', hs1, hs2, hs3, hrun⟩ := add64_ex x 0 cc hxb BB_pos hcc.out
          have hrun2 : ∀ w : World, (callFunc 88 #[.int .u64 (x : Nat), .int .u64 0, .int .u64 (cc : Nat)]).run Try.prog w = .ok (.value (.tuple #[.int .u64 (s : Nat), .int .u64 (c' : Nat)])) w := hrun
          have HN := Lib.hid (HST.out.step hx (.inr ⟨by omega, rfl⟩) hs3)
          have HS := Lib.hid (HM.out.set k hs1)
          have HC := Lib.hid hs2
          clear hx hs3 RA2 RB2 hxb hs1 hs2 hrun hcc
          go_wp2_with fail
          have hfin : SmRel X Y w.heap.size w1 (.int .u64 (c' : Nat)) (.int .i64 ((k : Int) + 1)) (wr.setCell ⟨w.heap.size, k, none⟩ (.int .u64 (s : Nat))) := ⟨k + 1, c', _, by omega, by go_num, rfl, HC.out, HS.out.1, HN.out, grown_set HGR.out HS.out.2⟩
          first | exact ⟨hfin, by simp [intOf]; omega⟩ | exact ⟨by (repeat apply Exists.intro); exact ⟨hfin, rfl⟩, by simp [intOf]; omega⟩
      · obtain rfl : k = X.length := by omega
        obtain ⟨z, hz⟩ : ∃ z, M[X.length]? = some z := ⟨_, List.getElem?_eq_getElem hml⟩
        have c1 := HM.out.cell hz
        have c2 := HM.out.frozen X.length
        have HD := Lib.hid (HST.out.done h21)
        have HS := Lib.hid (HM.out.set X.length (show cc < BB by have := hcc.out; unfold BB; omega))
        have R := Lib.hid (HS.out.1.whole (by rw [HD.out.1]; omega))
        have hRl := HD.out.1
        rw [hRl] at R
        have hsl := strip_le (M.set X.length cc)
        rw [hRl] at hsl
        clear hz hlt hk hml hml2 hml3 hRl hcc
        go_wp2_with fail
        refine (size_any _ (M.set X.length cc) _ R.out).mono ?_
        rintro e w' ⟨rfl, rfl⟩
        go_wp2_with fail
        go_ret
        exact add_done HD.out.1 HD.out.2 rfl HS.out.1 HBL.out (grown_set HGR.out HS.out.2) (by omega) (by rw [HVX.out, HVY.out]) (by omega)

set_option maxRecDepth 100000 in
set_option maxHeartbeats 1000000 in
theorem mulAdd_any (xs ys zs : List Nat) (v u t : Value) (w : World) (hl : xs.length + ys.length < 274877906944) (hlz : zs.length ≤ 274877906944) (hv : Rd w v xs) (hu : Rd w u ys) (ht : Rd w t zs) :
    Calls Try.prog 75 #[v, u, t] w (NumPost (val xs * val ys + val zs) (max (xs.length + ys.length) zs.length + 1) w) := by
  have HV := Lib.hid hv
  have HU := Lib.hid hu
  have HT := Lib.hid ht
  clear hv hu ht
  go_enter Try.func75, Try.ntmps75
  go_wp2_with fail
  refine (product_any xs ys _ _ _ hl HV.out HU.out).mono ?_
  rintro e w1 ⟨g, M, rfl, hg, hM, hml, hmv, hb⟩
  have q1 := strip_le xs
  have q2 := strip_le ys
  have q3 := strip_le zs
  have q4 := strip_le M
  have hMl : M.length ≤ xs.length + ys.length := by omega
  have R := Lib.hid (hM.whole (by omega))
  have HB := Lib.hid hb
  have HMV := Lib.hid hmv
  have HT1 := Lib.hid (HT.out.below hb)
  clear hM hml hmv hb
  go_wp2_with fail
  refine (natAdd_any M zs _ _ _ (by omega) hlz R.out HT1.out).mono ?_
  rintro e w2 ⟨v2, rs, rfl, h1, h2, h3, h4, h5⟩
  have H1 := Lib.hid (h1.mono HB.out.size)
  have H2 : Hid (val rs = val xs * val ys + val zs) := by show _ = _; rw [h2, HMV.out]
  have H3 : Hid (rs.length ≤ max (xs.length + ys.length) zs.length + 1) := by show _ ≤ _; omega
  have H4 := Lib.hid h4
  have H5 : Hid (Below w.heap.size w w2) := HB.out.trans (h5.mono HB.out.size)
  clear h1 h2 h3 h4 h5
  go_wp2_with fail
  go_ret
  exact ⟨_, rs, rfl, H1.out, H2.out, H3.out, H4.out, H5.out⟩
end Go.Proofs.Ytebidhdoiojaeaa
