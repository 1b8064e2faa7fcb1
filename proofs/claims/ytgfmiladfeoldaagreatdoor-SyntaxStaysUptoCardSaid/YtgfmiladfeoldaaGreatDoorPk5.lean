/- Joined texts of this claim's proof: Num4, Num5, Num6, Num7. -/
import Derived.Test.YtgfmiladfeoldaaGreatDoorPk4
import Derived.Test.YtgfmiladfeoldaaGreatDoorPk3
import Derived.Test.YtgfmiladfeoldaaGreatDoorPk1
import Derived.Deep.RegionHeld3
set_option linter.unusedSimpArgs false
set_option linter.unusedVariables false
namespace Go.Proofs.YtgfmiladfeoldaaGreatDoor
open Go.RowKit NatP
def MulPost (hi lo : Nat) (w : World) (e : Ending) (w' : World) : Prop := e = .returned (.tuple #[.int .u64 (hi : Nat), .int .u64 (lo : Nat)]) ∧ w = w'
theorem mul64_ex (x y : Nat) (hx : x < BB) (hy : y < BB) : ∃ hi lo : Nat, lo < BB ∧ hi * BB + lo = x * y ∧ ∀ w : World, Calls Tryz.prog 287 #[.int .u64 (x : Nat), .int .u64 (y : Nat)] w (MulPost hi lo w) := by
 unfold BB at *
 refine ⟨x * y / 18446744073709551616, x * y % 18446744073709551616, by omega, by omega, fun w => ?_⟩
 refine (Tryz.bits_Mul64 x y hx hy w).mono fun e w' ⟨h1, h2⟩ => ⟨h1, h2.symm⟩
def RowPost (xs ys : List Nat) (g : Nat) (w : World) (e : Ending) (w' : World) : Prop := e = .returned (.tuple #[]) ∧ ∃ M, Blk w' g M ∧ M.length = xs.length + ys.length ∧ val M = val xs * val ys ∧ w.grownBy w' (some g)
set_option maxRecDepth 100000 in
set_option maxHeartbeats 2000000 in
theorem rows_any (g n : Nat) (xs ys : List Nat) (v u : Value) (w : World) (hL : Blk w g (List.replicate n 0)) (hn : n = xs.length + ys.length) (hc : n ≤ 1099511627776)
  (hv : Rd w v xs) (hvb : v.ownBlock ≠ some g) (hu : Rd w u ys) (hub : u.ownBlock ≠ some g) :
  Calls Tryz.prog 274 #[.slice (some ⟨g, 0, none⟩) n n, v, u] w (RowPost xs ys g w) := by
 have HV := Lib.hid hv
 have HU := Lib.hid hu
 obtain ⟨ao, cap, rfl, -, -, hok, -⟩ := hv.2
 obtain ⟨bo, cap2, rfl, -, -, hok2, -⟩ := hu.2
 have HOK := Lib.hid hok
 have HOK2 := Lib.hid hok2
 have HST0 := Lib.hid (OutSt.start xs ys)
 rw [← hn] at HST0
 have HB := Lib.hid hL
 have hll : xs.length + ys.length ≤ n := by omega
 have hll2 : n ≤ xs.length + ys.length := by omega
 clear hL hok hok2 hn
 go_enter Tryz.func274, Tryz.ntmps274
 go_wp2_with fail
 go_loopw [16] (fun i wr => ∃ (k : Nat) (M : List Nat), k ≤ xs.length ∧ i = .int .i64 (k : Nat) ∧ Blk wr g M ∧ OutSt xs ys k M ∧ w.grownBy wr (some g)) (fun i _ => xs.length - (intOf i).toNat)
 case atStart => exact ⟨0, _, Nat.zero_le _, rfl, HB.out, HST0.out, grown_refl w _⟩
 clear HST0
 case round =>
  obtain ⟨k, M, hk, rfl, hM, hst, hgr⟩ := hrel
  have HM := Lib.hid hM
  have HST := Lib.hid hst
  have HGR := Lib.hid hgr
  have hml : M.length = xs.length + ys.length := hst.1
  clear hM hst hgr
  by_cases hlt : k < xs.length
  ·obtain ⟨x, hx⟩ : ∃ x, xs[k]? = some x := ⟨_, List.getElem?_eq_getElem hlt⟩
   have hxb := HOK.out x (List.mem_of_getElem? hx)
   obtain ⟨ao', cap', e, -, -, -, hsh⟩ := (HV.out.kept HGR.out (fun q hq => by cases hq; exact hvb)).2
   cases e
   obtain ⟨g2, o2, rfl, e2⟩ := hsh k x hx
   have HX := Lib.hid hx
   have HXB := Lib.hid hxb
   clear hsh hx hxb
   by_cases hx0 : x = 0
   ·subst hx0
    have HN := Lib.hid (HST.out.zero HX.out)
    go_wp2_with fail
    have hfin : ∃ (k' : Nat) (M' : List Nat), k' ≤ xs.length ∧ Value.int .i64 ((k : Int) + 1) = .int .i64 (k' : Nat) ∧ Blk wr g M' ∧ OutSt xs ys k' M' ∧ w.grownBy wr (some g) := ⟨k + 1, M, by omega, by go_num, HM.out, HN.out, HGR.out⟩
    first | exact ⟨hfin, by simp [intOf]; omega⟩ | exact ⟨by (repeat apply Exists.intro); exact ⟨hfin, rfl⟩, by simp [intOf]; omega⟩
   ·have hxn : ((x : Int) == 0) = false := by simp [hx0]
    clear hx0
    go_wp2_with fail
    go_loopw [8, 25] (fun cv j w2 => ∃ (q cc : Nat) (M' : List Nat), q ≤ ys.length ∧ j = .int .i64 (q : Nat) ∧ cv = .int .u64 (cc : Nat) ∧ Hid (cc < BB) ∧ Blk w2 g M' ∧ InSt M ys k x q cc M' ∧ w.grownBy w2 (some g)) (fun _ j _ => ys.length - (intOf j).toNat)
    case atStart => exact ⟨0, 0, M, Nat.zero_le _, rfl, rfl, BB_pos, HM.out, InSt.start M ys k x, HGR.out⟩
    clear HM HGR e2
    case round =>
     rename_i w2 _
     obtain ⟨q, cc, M', hq, rfl, rfl, hcc, hM, hst, hgr⟩ := hrel
     have HM := Lib.hid hM
     have HIN := Lib.hid hst
     have HGR := Lib.hid hgr
     have hml' : M'.length = M.length := hst.1
     clear hM hst hgr
     by_cases hqt : q < ys.length
     ·obtain ⟨y, hy⟩ : ∃ y, ys[q]? = some y := ⟨_, List.getElem?_eq_getElem hqt⟩
      obtain ⟨z, hz⟩ : ∃ z, M'[k + q]? = some z := ⟨_, List.getElem?_eq_getElem (by omega)⟩
      have hyb := HOK2.out y (List.mem_of_getElem? hy)
      have hzb := HM.out.2 z (List.mem_of_getElem? hz)
      obtain ⟨hi, lo, hlo, hp, hmul⟩ := mul64_ex x y HXB.out hyb
      obtain ⟨s1, c1, hs1, hc1, h1, hr1⟩ := add64_ex lo cc 0 hlo hcc.out (Nat.zero_le _)
      obtain ⟨h2, hh2⟩ : ∃ h2, h2 = hi + c1 := ⟨_, rfl⟩
      obtain ⟨s2, c2, hs2, hc2, h4, hr2⟩ := add64_ex z s1 0 hzb hs1 (Nat.zero_le _)
      obtain ⟨c3, hc3⟩ : ∃ c3, c3 = h2 + c2 := ⟨_, rfl⟩
      rw [Nat.add_zero] at h1 h4
      obtain ⟨f1, f2, f3⟩ := row_words HXB.out hyb hzb hcc.out hp h1 hh2 h4
      rw [← hc3] at f2 f3
      have HN := Lib.hid (HIN.out.step hz hy f2)
      have HF3 := Lib.hid f3
      have HS := Lib.hid (HM.out.set (k + q) hs2)
      obtain ⟨bo', cap3, e, -, -, -, hsh⟩ := (HU.out.kept HGR.out (fun q hq => by cases hq; exact hub)).2
      cases e
      obtain ⟨g3, o3, rfl, e2⟩ := hsh q y hy
      have e1 := HM.out.cell hz
      have e3 := HM.out.frozen (k + q)
      have HMUL := Lib.hid hmul
      have hr1' : ∀ w : World, (callFunc 286 #[.int .u64 (lo : Nat), .int .u64 (cc : Nat), .int .u64 0]).run Tryz.prog w = .ok (.value (.tuple #[.int .u64 (s1 : Nat), .int .u64 (c1 : Nat)])) w := hr1
      have hr2' : ∀ w : World, (callFunc 286 #[.int .u64 (z : Nat), .int .u64 (s1 : Nat), .int .u64 0]).run Tryz.prog w = .ok (.value (.tuple #[.int .u64 (s2 : Nat), .int .u64 (c2 : Nat)])) w := hr2
      have hw1 : IntKind.u64.wrap ((hi : Int) + (c1 : Int)) = (h2 : Int) := by unfold BB at f1; rw [IntKind.wrap_u64]; omega
      have hw2 : IntKind.u64.wrap ((h2 : Int) + (c2 : Int)) = (c3 : Int) := by unfold BB at f3; rw [IntKind.wrap_u64]; omega
      have HW1 := Lib.hid hw1
      have HW2 := Lib.hid hw2
      clear hsh hy hz hyb hzb hmul hp h1 h4 hh2 hc3 f1 f2 f3 hlo hs1 hs2 hr1 hr2 hw1 hw2
      go_wp2_with fail
      refine (HMUL.out _).mono ?_
      rintro e w' ⟨rfl, rfl⟩
      have hw1 := HW1.out
      have hw2 := HW2.out
      go_wp2_with fail
      exact ⟨⟨q + 1, c3, M'.set (k + q) s2, by omega, by go_num, rfl, HF3.out, HS.out.1, HN.out, grown_set HGR.out HS.out.2⟩, by simp [intOf]; omega⟩
     ·obtain rfl : q = ys.length := by omega
      obtain ⟨hn1, hn2⟩ := HST.out.row HX.out HIN.out
      have HN := Lib.hid hn1
      have HS := Lib.hid (HM.out.set (k + ys.length) hcc.out)
      have e1 := HM.out.cell hn2
      have e3 := HM.out.frozen (k + ys.length)
      clear hn1 hn2 hcc
      go_wp2_with fail
      have hfin : ∃ (k' : Nat) (M2 : List Nat), k' ≤ xs.length ∧ Value.int .i64 ((k : Int) + 1) = .int .i64 (k' : Nat) ∧ Blk (wr.setCell ⟨g, k + ys.length, none⟩ (.int .u64 (cc : Nat))) g M2 ∧ OutSt xs ys k' M2 ∧ w.grownBy (wr.setCell ⟨g, k + ys.length, none⟩ (.int .u64 (cc : Nat))) (some g) := ⟨k + 1, _, by omega, by go_num, HS.out.1, HN.out, grown_set HGR.out HS.out.2⟩
      first | exact ⟨hfin, by simp [intOf]; omega⟩ | exact ⟨by (repeat apply Exists.intro); exact ⟨hfin, rfl⟩, by simp [intOf]; omega⟩
  ·obtain rfl : k = xs.length := by omega
   have HD := Lib.hid HST.out.done
   go_wp2_with fail
   go_end0
   exact ⟨rfl, M, HM.out, HD.out.1, HD.out.2, HGR.out⟩
theorem copy_src (w : World) (o : Obj) {ao : Option Addr} {xs : List Nat} (hsh : ∀ i x, xs[i]? = some x → ∃ g o, ao = some ⟨g, o, none⟩ ∧ w.cell? ⟨g, o + i, none⟩ = some (.int .u64 (x : Nat))) (h0 : 0 < xs.length) :
  ∃ ad, ao = some ad ∧ ∀ (j : Nat) (v : Value), (ws xs)[j]? = some v → (w.alloc o).cell? (ad.add j) = some v := by
 obtain ⟨g, of, rfl, _⟩ := hsh 0 xs[0] (List.getElem?_eq_getElem h0)
 refine ⟨_, rfl, fun j u hu => ?_⟩
 simp only [ws, List.getElem?_map, Option.map_eq_some_iff] at hu
 obtain ⟨x, hx, rfl⟩ := hu
 obtain ⟨g', o', e, hc⟩ := hsh j x hx
 cases e
 have hlt := World.block_lt_of_cell? w _ hc
 have e2 : (⟨g, of, none⟩ : Addr).add j = ⟨g, of + j, none⟩ := by unfold Addr.add; split <;> simp_all
 rw [e2, (below_alloc w o).cell (p := ⟨g, of + j, none⟩) hlt]; exact hc
theorem sum_fin {m : Nat} {xs ys : List Nat} (hx : ok xs) (hy : ok ys) (h1 : xs.length ≤ m) (h2 : ys.length ≤ m) : ∀ M, ok M → Added (xs ++ List.replicate (m + 1 - xs.length) 0) ys 0 M → M.length = m + 1 ∧ val M = val xs + val ys := by
 intro M hM ⟨a1, _, c, a3⟩
 have hl : (xs ++ List.replicate (m + 1 - xs.length) 0).length = m + 1 := by rw [List.length_append, List.length_replicate]; omega
 rw [List.drop_zero, List.drop_zero, hl, val_append, val_replicate, Nat.mul_zero, Nat.add_zero] at a3
 refine ⟨by rw [a1, hl], ?_⟩
 have b1 := val_lt hx
 have b2 := val_lt hy
 exact (no_carry a3 (two_below (Nat.lt_of_lt_of_le b1 (Nat.pow_le_pow_right BB_pos h1)) (Nat.lt_of_lt_of_le b2 (Nat.pow_le_pow_right BB_pos h2)))).2
def SumPost (xs ys : List Nat) (w : World) (e : Ending) (w' : World) : Prop := ∃ g M, e = .returned (.slice (some ⟨g, 0, none⟩) M.length M.length) ∧ w.heap.size ≤ g ∧ Blk w' g M ∧ M.length = max xs.length ys.length + 1 ∧ val M = val xs + val ys ∧ Below w.heap.size w w'
set_option maxRecDepth 100000 in
set_option maxHeartbeats 1000000 in
theorem sum_any (v u : Value) (xs ys : List Nat) (w : World) (hv : Rd w v xs) (hu : Rd w u ys) (hx : xs.length ≤ 549755813888) (hy : ys.length ≤ 549755813888) :
  Calls Tryz.prog 288 #[v, u] w (SumPost xs ys w) := by
 have HV := Lib.hid hv
 have HU := Lib.hid hu
 obtain ⟨ao, cap, rfl, -, -, hok, hsh⟩ := hv.2
 obtain ⟨bo, cap2, rfl, -, -, hok2, -⟩ := hu.2
 have HOK := Lib.hid hok
 have HSH := Lib.hid hsh
 obtain ⟨m, hm⟩ : ∃ m, m = max xs.length ys.length := ⟨_, rfl⟩
 have hm1 : xs.length ≤ m := by omega
 have hm2 : ys.length ≤ m := by omega
 have hm3 : m ≤ 549755813888 := by omega
 have HMK : ∀ w : World, (Instr.makeSlice 59 (.int .i64 ((m : Int) + 1)) (.int .i64 ((m : Int) + 1))).run Tryz.prog w = .ok (.slice (some ⟨w.heap.size, 0, none⟩) (m + 1) (m + 1)) (w.alloc (.cells (madeCells #[.int .u64 0] (m + 1)) 101)) := make_words (m + 1) (by omega)
 have hmx : max (xs.length : Int) (ys.length : Int) = (m : Int) := by omega
 have HM := Lib.hid hm
 have HB := Lib.hid (Blk.made w (m + 1)).1
 have HBL := Lib.hid (below_alloc w (.cells (madeCells #[.int .u64 0] (m + 1)) 101))
 have HCL := Lib.hid (ws_length xs)
 have HMIN : Hid (Nat.min xs.length (m + 1) = xs.length) := Nat.min_eq_left (by omega)
 have HPOS := Lib.hid (copy_src w (.cells (madeCells #[.int .u64 0] (m + 1)) 101) HSH.out)
 have HFIT : Hid (0 + (ws xs).length ≤ (ws (List.replicate (m + 1) 0)).length) := by
  show _ ≤ _
  rw [ws_length, ws_length, List.length_replicate]; omega
 have HFIN := Lib.hid (sum_fin (m := m) hok hok2 hm1 hm2)
 clear hok hok2 hsh hm
 go_enter Tryz.func288, Tryz.ntmps288
 go_wp2_with ((with_reducible refine wpList_copy_splice (o := ⟨some 15, _, _, _, _, _⟩) rfl (.tmp 13) (.tmp 14) 59 59 rfl 101 Tryz.underlying59 Tryz.infoW1 (some ⟨w.heap.size, 0, none⟩) ao (m + 1) (m + 1) xs.length cap rfl rfl w.heap.size 0 (ws (List.replicate (m + 1) 0)) 101 HB.out (ws xs) (by rw [HCL.out, HMIN.out]) (fun h => ⟨rfl, HPOS.out (by rw [← HCL.out]; exact h)⟩) HFIT.out (ws_one _) w.heap.size w HBL.out (Nat.le_refl _) ?_); intro w2 hg2 hb2)
 have HF : Hid (Blk w2 w.heap.size (xs ++ List.replicate (m + 1 - xs.length) 0)) := by
  refine ⟨?_, ok_append HOK.out (ok_replicate _)⟩
  have h1 := hg2.out
  rw [h1]
  congr 2
  simp only [splice, List.take_zero, List.nil_append, Nat.zero_add]
  rw [HCL.out]
  simp [ws]
 have HB2 := Lib.hid hb2
 have HU2 := Lib.hid (HU.out.below hb2)
 have hbo := HU.out.ne (Nat.le_refl w.heap.size)
 clear hg2 hb2
 go_wp2_with fail
 refine (addTo_any w.heap.size 0 (m + 1) (m + 1) (xs ++ List.replicate (m + 1 - xs.length) 0) ys _ _ HF.out (by rw [List.length_append, List.length_replicate]; omega) (Nat.le_refl _) (by omega) HU2.out hbo (by omega)).mono ?_
 rintro e w3 ⟨rfl, M, hM, hadd, hgr⟩
 obtain ⟨hl, hval⟩ := HFIN.out M hM.2 hadd
 have HM3 := Lib.hid hM
 have HL := Lib.hid hl
 have HV3 := Lib.hid hval
 have HB3 : Hid (Below w.heap.size w w3) := Below.grown HB2.out hgr HB2.out.size (fun k hk => by cases hk; exact Nat.le_refl _)
 clear hM hadd hgr hl hval
 go_wp2_with fail
 go_ret
 exact ⟨w.heap.size, M, by rw [HL.out] <;> rfl, Nat.le_refl _, HM3.out, by rw [HL.out, HM.out], HV3.out, HB3.out⟩
end Go.Proofs.YtgfmiladfeoldaaGreatDoor
namespace Go.Proofs.YtgfmiladfeoldaaGreatDoor
open Go.RowKit NatP
theorem Rd.drop {w : World} {g o len cap n : Nat} {xs : List Nat} (h : Rd w (.slice (some ⟨g, o, none⟩) len cap) xs) (hn : n ≤ xs.length) : Rd w (.slice (some ⟨g, o + n, none⟩) (xs.length - n) (cap - n)) (xs.drop n) := by
 obtain ⟨h0, ao', cap', e, h1, h2, h3, h4⟩ := h
 simp only [Value.slice.injEq] at e
 obtain ⟨rfl, rfl, rfl⟩ := e
 refine ⟨fun k hk => h0 k hk, _, _, by rw [List.length_drop], by rw [List.length_drop]; omega, by omega, ok_drop h3 _, fun i x hx => ⟨g, o + n, rfl, ?_⟩⟩
 rw [List.getElem?_drop] at hx
 obtain ⟨g', o', e, hc⟩ := h4 (n + i) x hx
 cases e
 rw [Nat.add_assoc]; exact hc
theorem Rd.none' {w : World} {g o c : Nat} (hg : g < w.heap.size) (hc : c ≤ maxLen) : Rd w (.slice (some ⟨g, o, none⟩) 0 c) [] :=
 ⟨fun k hk => by cases hk; exact hg, _, c, rfl, Nat.zero_le _, hc, ok_nil, fun i x h => by simp at h⟩
theorem Rd.ok {w : World} {v : Value} {xs : List Nat} (h : Rd w v xs) : ok xs := by obtain ⟨_, _, _, _, _, _, h3, _⟩ := h; exact h3
theorem gb_step {w0 w w' : World} {g k : Nat} (h : w0.grownBy w (some g)) (hg : w.grownBy w' (some k)) (hk : k = g ∨ w0.heap.size ≤ k) : w0.grownBy w' (some g) := by
 refine ⟨hg.os.trans h.os, hg.tape.trans h.tape, hg.output.trans h.output, Nat.le_trans h.size hg.size, fun q hq hn => (hg.block q (Nat.lt_of_lt_of_le hq h.size) ?_).trans (h.block q hq hn)⟩
 rcases hk with rfl | hk
 ·exact hn
 ·intro e; cases e; omega
theorem gb_below {w0 w w' : World} {g : Nat} (h : w0.grownBy w (some g)) (hb : Below w.heap.size w w') : w0.grownBy w' (some g) :=
 ⟨hb.os.trans h.os, hb.tape.trans h.tape, hb.output.trans h.output, Nat.le_trans h.size hb.size, fun q hq hn => (hb.block q (Nat.lt_of_lt_of_le hq h.size)).trans (h.block q hq hn)⟩
def ProdPost (xs ys : List Nat) (w : World) (e : Ending) (w' : World) : Prop := ∃ g M, e = .returned (.slice (some ⟨g, 0, none⟩) M.length M.length) ∧ w.heap.size ≤ g ∧ Blk w' g M ∧ M.length = (strip xs).length + (strip ys).length ∧ val M = val xs * val ys ∧ Below w.heap.size w w'
def ProdOk (n : Nat) : Prop := ∀ (xs ys : List Nat) (v u : Value) (w : World), xs.length + ys.length < n → Rd w v xs → Rd w u ys → Calls Tryz.prog 253 #[v, u] w (ProdPost xs ys w)
theorem Blk.whole {w : World} {g : Nat} {L : List Nat} (h : Blk w g L) (hc : L.length ≤ 1099511627776) : Rd w (.slice (some ⟨g, 0, none⟩) L.length L.length) L := by
 have := h.rd (o := 0) (n := L.length) (c := L.length) (by omega) (Nat.le_refl _) (by unfold maxLen; omega)
 rw [List.drop_zero, List.take_length] at this
 exact this
theorem below_drewN' (w : World) (n : Nat) : Below w.heap.size w (w.drewN n) := ⟨rfl, rfl, rfl, Nat.le_refl _, fun _ _ => rfl⟩
theorem wpList_copy_blk {P : Program} {w : World} {ops : Array Oper} {rest : List Oper} {o : Oper} {a : Act} {Q : Exit → Act → World → Prop} (hgd : o.guard = none) (d s : Operand) (dT sT : TypeId)
  (ho : o.op = .call { callee := .builtin .copy, args := #[d, s], argTypes := #[dT, sT] }) (hu : P.underlying dT = some (.slice 101)) (hsz : (P.info? 101).map (·.size) = some 1)
  (g n c sCap : Nat) (sp : Option Addr) (L cs : List Nat) (hd : a.eval d = .slice (some ⟨g, 0, none⟩) n c) (hs : a.eval s = .slice sp cs.length sCap) (hB : Blk w g L) (hR : Rd w (.slice sp cs.length sCap) cs) (hn : cs.length ≤ n) (hnL : n ≤ L.length)
  (h : ∀ w', Hid (Blk w' g (cs ++ L.drop cs.length)) → Hid (w.grownBy w' (some g)) → wpList P ops Q rest (a.put o.dst (goInt cs.length)) w') : wpList P ops Q (o :: rest) a w := by
 by_cases h0 : cs.length = 0
 ·obtain rfl : cs = [] := List.eq_nil_of_length_eq_zero h0
  refine wpList_copy_nothing hgd d s dT sT ho 101 hu hsz (some ⟨g, 0, none⟩) sp n c 0 sCap hd hs (Nat.min_eq_left (Nat.zero_le _)) ?_
  exact h w (show Blk _ _ _ by simpa using hB) (grown_refl w _)
 ·obtain ⟨_, ao', cap', e, h1, h2, h3, h4⟩ := hR
  simp only [Value.slice.injEq] at e
  obtain ⟨rfl, -, rfl⟩ := e
  obtain ⟨gs, os, rfl, _⟩ := h4 0 cs[0] (List.getElem?_eq_getElem (by omega))
  have hw : Blk (w.setRow g ((ws L).toArray.toList.take 0 ++ (ws cs ++ (ws L).toArray.toList.drop (0 + (ws cs).length))).toArray) g (cs ++ L.drop cs.length) := by
   refine ⟨?_, ok_append h3 (ok_drop hB.2 _)⟩
   rw [setRow_heap w g _ _ 101 _ hB.1]
   simp [ws]
  refine wpList_copy_own hgd d s dT sT ho 101 hu hsz g 0 n c ⟨gs, os, none⟩ cs.length sCap hd hs (ws L).toArray 101 hB.1 (ws cs) (by rw [ws_length]; exact (Nat.min_eq_left hn).symm) ?_ (by simp [ws]; omega) (ws_one _) ?_
  ·intro j v hv
   simp only [ws, List.getElem?_map, Option.map_eq_some_iff] at hv
   obtain ⟨x, hx, rfl⟩ := hv
   obtain ⟨g', o', e, hc⟩ := h4 j x hx
   cases e
   have e2 : (⟨gs, os, none⟩ : Addr).add j = ⟨gs, os + j, none⟩ := by unfold Addr.add; split <;> simp_all
   rw [e2]; exact hc
  ·rw [ws_length]
   rw [ws_length] at hw
   refine h _ hw ?_
   exact ⟨rfl, rfl, rfl, by simp [World.setRow], fun k _ hk => setRow_other w g k _ (fun e => hk (by rw [e]))⟩
theorem mtrim_any' (ao : Option Addr) (n cap : Nat) (xs : List Nat) (w : World) (hr : Rd w (.slice ao n cap) xs) :
  Calls Tryz.prog 273 #[.slice ao n cap] w fun e w' => e = .returned (.slice ao (strip xs).length (strip xs).length) ∧ w = w' := by
 have h := hr
 obtain ⟨_, ao', cap', e, -⟩ := h
 simp only [Value.slice.injEq] at e
 obtain ⟨rfl, rfl, rfl⟩ := e
 exact mtrim_any _ _ _ _ hr
theorem trim_rd' {ao : Option Addr} {n cap : Nat} {xs : List Nat} {w : World} (hr : Rd w (.slice ao n cap) xs) : Rd w (.slice ao (strip xs).length (strip xs).length) (strip xs) := by
 have h := hr
 obtain ⟨_, ao', cap', e, -⟩ := h
 simp only [Value.slice.injEq] at e
 obtain ⟨rfl, rfl, rfl⟩ := e
 exact trim_rd hr
set_option maxRecDepth 100000 in
set_option maxHeartbeats 4000000 in
theorem halves_any (g ga oa gb ob hf : Nat) (xs ys : List Nat) (w : World) (IH : ProdOk (xs.length + ys.length)) (hL : Blk w g (List.replicate (xs.length + ys.length) 0)) (hN : xs.length + ys.length ≤ 274877906944)
  (ha : Rd w (.slice (some ⟨ga, oa, none⟩) xs.length xs.length) xs) (hb : Rd w (.slice (some ⟨gb, ob, none⟩) ys.length ys.length) ys) (hga : ga ≠ g) (hgb : gb ≠ g) (hh : hf = (xs.length + 1) / 2) (hxy : ys.length ≤ xs.length) (h24 : 24 ≤ ys.length) (h2 : xs.length < 2 * ys.length) :
  Calls Tryz.prog 276 #[.slice (some ⟨g, 0, none⟩) (xs.length + ys.length) (xs.length + ys.length), .slice (some ⟨ga, oa, none⟩) xs.length xs.length, .slice (some ⟨gb, ob, none⟩) ys.length ys.length] w (RowPost xs ys g w) := by
 have hx1 : hf < xs.length := by omega
 have hy1 : hf ≤ ys.length := by omega
 have HH := Lib.hid (Half.mk ha.ok hb.ok (by omega) hy1)
 have HI := Lib.hid IH
 have HZ := Lib.hid hL
 have HA0 := Lib.hid (ha.take (n := hf) (c := hf) (by omega) (Nat.le_refl _) (by omega))
 have HA1 := Lib.hid (ha.drop (n := hf) (by omega))
 have HB0 := Lib.hid (hb.take (n := hf) (c := hf) hy1 (Nat.le_refl _) hy1)
 have hgbl := hb.lt (k := gb) rfl
 have hdiv : ((xs.length : Int) + 1) / 2 = (hf : Int) := by omega
 have HB1a := Lib.hid (hb.drop (n := hf) (by omega))
 clear ha hb hL IH hh
 by_cases hyh : hf < ys.length
 ·have HB1 := HB1a
  clear HB1a
  go_enter Tryz.func276, Tryz.ntmps276
  go_wp2_with fail
  go_quiet (fail)
  go_wp2_with fail
  go_quiet (fail)
  go_wp2_with fail
  refine (HI.out _ _ _ _ _ (by rw [List.length_take, List.length_take]; omega) (HA0.out.drewN _) (HB0.out.drewN _)).mono ?_
  rintro e w1 ⟨g1, L1, rfl, hg1, hB1, hl1, hv1, hbel1⟩
  have C1 : Below w.heap.size w w1 := (below_drewN' w _).trans hbel1
  have hq1 : w.heap.size ≤ g1 := hg1
  have hs1 := hB1.lt
  have hz1 := C1.size
  have hll1 : L1.length ≤ 274877906944 := by have q1 := strip_le (xs.take hf); have q2 := strip_le (ys.take hf); rw [List.length_take] at q1 q2; omega
  have R1 := Lib.hid (hB1.whole (by omega))
  have K1 := Lib.hid C1
  have V1 := Lib.hid hv1
  clear hbel1 hB1 hl1 hv1 C1 hg1
  go_wp2_with fail
  refine (mtrim_any _ _ L1 _ R1.out).mono ?_
  rintro e w' ⟨rfl, rfl⟩
  have T1 := Lib.hid (trim_rd R1.out)
  go_wp2_with fail
  refine (HI.out _ _ _ _ _ (by rw [List.length_drop, List.length_drop]; omega) (HA1.out.below K1.out) (HB1.out.below K1.out)).mono ?_
  rintro e w2 ⟨g2, L2, rfl, hg2, hB2, hl2, hv2, hbel2⟩
  have hs2 := hB2.lt
  have hz2 := hbel2.size
  have hll2 : L2.length ≤ 274877906944 := by have q1 := strip_le (xs.drop hf); have q2 := strip_le (ys.drop hf); rw [List.length_drop] at q1 q2; omega
  have R2 := Lib.hid (hB2.whole (by omega))
  have K2 : Hid (Below w.heap.size w w2) := K1.out.trans (hbel2.mono hz1)
  have V2 := Lib.hid hv2
  have T1b := Lib.hid (T1.out.below hbel2)
  clear hbel2 hB2 hl2 hv2 R1 T1
  go_wp2_with fail
  refine (mtrim_any _ _ L2 _ R2.out).mono ?_
  rintro e w' ⟨rfl, rfl⟩
  have T2 := Lib.hid (trim_rd R2.out)
  go_wp2_with fail
  refine (sum_any _ _ _ _ _ (HA0.out.below K2.out) (HA1.out.below K2.out) (by rw [List.length_take]; omega) (by rw [List.length_drop]; omega)).mono ?_
  rintro e w3 ⟨g3, S1, rfl, hg3, hB3, hl3, hv3, hbel3⟩
  rw [List.length_take, List.length_drop] at hl3
  have hs3 := hB3.lt
  have hz3 := hbel3.size
  have R3 := Lib.hid (hB3.whole (by omega))
  have K3 : Hid (Below w.heap.size w w3) := K2.out.trans (hbel3.mono (by omega))
  have V3 := Lib.hid hv3
  have T1c := Lib.hid (T1b.out.below hbel3)
  have T2c := Lib.hid (T2.out.below hbel3)
  have HL3 := Lib.hid hl3
  clear hbel3 hB3 hv3 R2 T2 T1b hl3
  go_wp2_with fail
  refine (sum_any _ _ _ _ _ (HB0.out.below K3.out) (HB1.out.below K3.out) (by rw [List.length_take]; omega) (by rw [List.length_drop]; omega)).mono ?_
  rintro e w4 ⟨g4, S2, rfl, hg4, hB4, hl4, hv4, hbel4⟩
  rw [List.length_take, List.length_drop] at hl4
  have hs4 := hB4.lt
  have hz4 := hbel4.size
  have R4 := Lib.hid (hB4.whole (by omega))
  have R3d := Lib.hid (R3.out.below hbel4)
  have K4 : Hid (Below w.heap.size w w4) := K3.out.trans (hbel4.mono (by omega))
  have V4 := Lib.hid hv4
  have T1d := Lib.hid (T1c.out.below hbel4)
  have T2d := Lib.hid (T2c.out.below hbel4)
  have hS : S1.length + S2.length < xs.length + ys.length := by have := HL3.out; omega
  clear hbel4 hB4 hv4 R3 T1c T2c hl4
  go_wp2_with fail
  refine (HI.out _ _ _ _ _ hS R3d.out R4.out).mono ?_
  rintro e w5 ⟨g5, L5, rfl, hg5, hB5, hl5, hv5, hbel5⟩
  have hs5 := hB5.lt
  have hz5 := hbel5.size
  have hll5 : L5.length ≤ 274877906944 := by have q1 := strip_le S1; have q2 := strip_le S2; omega
  have K5 : Hid (Below w.heap.size w w5) := K4.out.trans (hbel5.mono (by omega))
  have V5 : Hid (val L5 = (val (xs.take hf) + val (xs.drop hf)) * (val (ys.take hf) + val (ys.drop hf))) := by show _ = _; rw [hv5, V3.out, V4.out]
  have T1e := Lib.hid (T1d.out.below hbel5)
  have T2e := Lib.hid (T2d.out.below hbel5)
  have hgl := HZ.out.lt
  have n15 : g1 ≠ g5 := by omega
  have n25 : g2 ≠ g5 := by omega
  have n5g : g5 ≠ g := by omega
  have n1g : g1 ≠ g := by omega
  have n2g : g2 ≠ g := by omega
  have hq5 : w.heap.size ≤ g5 := by omega
  have B5 := Lib.hid hB5
  have HZ5 := Lib.hid (HZ.out.below K5.out HZ.out.lt)
  clear hbel5 hB5 hv5 hl5 R3d R4 T1d T2d V3 V4 HL3 hS
  obtain ⟨hle1, hlen1⟩ := Half.sub1 B5.out.2 V5.out V1.out
  have HLE1 := Lib.hid hle1
  clear hle1
  go_wp2_with fail
  refine (subFrom_any g5 L5.length L5.length L5 (strip L1) _ _ B5.out rfl (Nat.le_refl _) (by omega) T1e.out (by intro e; cases e; exact n15 rfl) hlen1 HLE1.out).mono ?_
  rintro e w6 ⟨rfl, M1, hB6, hl6, hv6, hgr6⟩
  have hz6 := hgr6.size
  have hs6 := hB6.lt
  have G6 : Hid (w.grownBy w6 (some g)) := gb_step (gb_below (grown_refl w (some g)) K5.out) hgr6 (.inr hq5)
  have T1f := Lib.hid (T1e.out.kept hgr6 (by intro k hk e; cases hk; cases e; exact n15 rfl))
  have T2f := Lib.hid (T2e.out.kept hgr6 (by intro k hk e; cases hk; cases e; exact n25 rfl))
  have HZ6 := Lib.hid (HZ5.out.kept hgr6 (by intro e; cases e; exact n5g rfl))
  have B6 := Lib.hid hB6
  have V6 := Lib.hid hv6
  obtain ⟨hle2, hlen2⟩ := Half.sub2 hB6.2 V5.out V1.out V2.out hv6
  have HLE2 := Lib.hid hle2
  clear hle2 hB6 hv6 hgr6 T1e T2e HZ5 B5 K5
  have HL6 := Lib.hid hl6
  have hlen2' : (strip L2).length ≤ L5.length := by omega
  clear hl6 hlen2
  go_wp2_with fail
  refine (subFrom_any g5 L5.length L5.length M1 (strip L2) _ _ B6.out HL6.out.symm (Nat.le_refl _) (by omega) T2f.out (by intro e; cases e; exact n25 rfl) hlen2' HLE2.out).mono ?_
  rintro e w7 ⟨rfl, M2, hB7, hl7, hv7, hgr7⟩
  have hz7 := hgr7.size
  have hs7 := hB7.lt
  have G7 : Hid (w.grownBy w7 (some g)) := gb_step G6.out hgr7 (.inr hq5)
  have T1g := Lib.hid (T1f.out.kept hgr7 (by intro k hk e; cases hk; cases e; exact n15 rfl))
  have T2g := Lib.hid (T2f.out.kept hgr7 (by intro k hk e; cases hk; cases e; exact n25 rfl))
  have HZ7 := Lib.hid (HZ6.out.kept hgr7 (by intro e; cases e; exact n5g rfl))
  have B7 := Lib.hid hB7
  have V7 := Lib.hid (Half.mid V5.out V1.out V2.out V6.out hv7)
  have hlow := HH.out.low_len V1.out
  have hhigh := HH.out.high_len V2.out
  have hmid := HH.out.mid_len V7.out
  clear hB7 hv7 hgr7 T1f T2f HZ6 B6 G6 HLE1 HLE2 V5 V6
  have hzl : (List.replicate (xs.length + ys.length) 0).length = xs.length + ys.length := List.length_replicate
  have HZL := Lib.hid hzl
  clear hzl
  have HL7 : Hid (M2.length = L5.length) := hl7.trans HL6.out
  clear hl7
  go_wp2_with ((with_reducible refine wpList_copy_blk (o := ⟨some 55, _, _, _, _, _⟩) rfl (.tmp 53) (.tmp 54) 59 59 rfl Tryz.underlying59 Tryz.infoW1 g (xs.length + ys.length) (xs.length + ys.length) _ _ (List.replicate (xs.length + ys.length) 0) (strip L1) rfl rfl HZ7.out T1g.out (by omega) (by rw [HZL.out]; exact Nat.le_refl _) ?_); intro w8 hB8 hgr8)
  have T2h := Lib.hid (T2g.out.kept hgr8.out (by intro k hk e; cases hk; cases e; exact n2g rfl))
  have B7h := Lib.hid (B7.out.kept hgr8.out (by intro e; cases e; exact n5g rfl))
  have G8 : Hid (w.grownBy w8 (some g)) := gb_step G7.out hgr8.out (.inl rfl)
  have hz8 := hgr8.out.size
  have h2n : 2 * hf < xs.length + ys.length := by omega
  clear hgr8 T2g B7 G7 HZ7 HZL T1g
  go_wp2_with fail
  refine (addTo_any g (2 * hf) (xs.length + ys.length - 2 * hf) (xs.length + ys.length - 2 * hf) _ (strip L2) _ _ hB8.out (by rw [List.length_append, List.length_drop, List.length_replicate]; omega) (Nat.le_refl _) (by omega) T2h.out (by intro e; cases e; exact n2g rfl) hhigh).mono ?_
  rintro e w9 ⟨rfl, Z, hB9, ⟨hlz, htz, hcz⟩, hgr9⟩
  obtain ⟨hzl, hzv⟩ := HH.out.add1 rfl V1.out V2.out (by rw [List.drop_replicate]) hlz htz hcz
  have B9 := Lib.hid hB9
  have B7i := Lib.hid (B7h.out.kept hgr9 (by intro e; cases e; exact n5g rfl))
  have G9 : Hid (w.grownBy w9 (some g)) := gb_step G8.out hgr9 (.inl rfl)
  have ZL := Lib.hid hzl
  have ZV := Lib.hid hzv
  have R5 := Lib.hid (B7i.out.whole (by have := HL7.out; omega))
  have hm2 : M2.length = L5.length := HL7.out
  rw [hm2] at R5
  clear hB9 hlz htz hcz hgr9 hzl hzv hB8 T2h B7h G8 hm2
  go_wp2_with fail
  have T5 : Hid (Rd w9.drew _ (strip M2)) := trim_rd' (w := w9.drew) (by exact R5.out)
  have hi0 : (0 : Int) ≤ (hf : Int) := Int.natCast_nonneg _
  have hcap : ¬ (xs.length + ys.length = hf) := by omega
  have hi1 : (hf : Int) ≤ ((xs.length : Int) + (ys.length : Int)) := by omega
  go_region_held3 (fun _ => True) (trivial)
   (first
    | (go_at_call 273; refine (mtrim_any' _ _ _ M2 _ (by exact R5.out)).mono ?_; rintro e w' ⟨rfl, rfl⟩)
    | (go_at_call 275; refine (addTo_any g hf (xs.length + ys.length - hf) (xs.length + ys.length - hf) Z (strip M2) _ _ (by exact B9.out) (by rw [ZL.out]; omega) (Nat.le_refl _) (by omega) T5.out (by intro e; cases e; exact n5g rfl) hmid).mono ?_; rintro e w10 ⟨rfl, M, hB10, ⟨hlm, htm, hcm⟩, hgr10⟩))
  have HF := Lib.hid (HH.out.add2 ZL.out ZV.out V7.out hlm htm hcm)
  have B10 := Lib.hid hB10
  have G10 : Hid (w.grownBy w10 (some g)) := gb_step (gb_step G9.out (grown_drewN w9 1 (some g)) (.inl rfl)) hgr10 (.inl rfl)
  clear hB10 hlm htm hcm hgr10
  go_wp2_with fail
  go_end0
  exact ⟨rfl, M, B10.out, HF.out.1, HF.out.2, G10.out⟩
 ·have hy2 : ys.length ≤ hf := by omega
  have HB1 : Hid (Rd w (.slice (some ⟨gb, ob, none⟩) 0 0) (ys.drop hf)) := by
   show Rd _ _ _
   rw [List.drop_eq_nil_of_le hy2]; exact Rd.none' hgbl (by unfold maxLen; omega)
  clear HB1a hyh
  go_enter Tryz.func276, Tryz.ntmps276
  go_wp2_with fail
  go_quiet (fail)
  go_wp2_with fail
  go_quiet (fail)
  go_wp2_with fail
  refine (HI.out _ _ _ _ _ (by rw [List.length_take, List.length_take]; omega) (HA0.out.drewN _) (HB0.out.drewN _)).mono ?_
  rintro e w1 ⟨g1, L1, rfl, hg1, hB1, hl1, hv1, hbel1⟩
  have C1 : Below w.heap.size w w1 := (below_drewN' w _).trans hbel1
  have hq1 : w.heap.size ≤ g1 := hg1
  have hs1 := hB1.lt
  have hz1 := C1.size
  have hll1 : L1.length ≤ 274877906944 := by have q1 := strip_le (xs.take hf); have q2 := strip_le (ys.take hf); rw [List.length_take] at q1 q2; omega
  have R1 := Lib.hid (hB1.whole (by omega))
  have K1 := Lib.hid C1
  have V1 := Lib.hid hv1
  clear hbel1 hB1 hl1 hv1 C1 hg1
  go_wp2_with fail
  refine (mtrim_any _ _ L1 _ R1.out).mono ?_
  rintro e w' ⟨rfl, rfl⟩
  have T1 := Lib.hid (trim_rd R1.out)
  go_wp2_with fail
  refine (HI.out _ _ _ _ _ (by rw [List.length_drop, List.length_drop]; omega) (HA1.out.below K1.out) (HB1.out.below K1.out)).mono ?_
  rintro e w2 ⟨g2, L2, rfl, hg2, hB2, hl2, hv2, hbel2⟩
  have hs2 := hB2.lt
  have hz2 := hbel2.size
  have hll2 : L2.length ≤ 274877906944 := by have q1 := strip_le (xs.drop hf); have q2 := strip_le (ys.drop hf); rw [List.length_drop] at q1 q2; omega
  have R2 := Lib.hid (hB2.whole (by omega))
  have K2 : Hid (Below w.heap.size w w2) := K1.out.trans (hbel2.mono hz1)
  have V2 := Lib.hid hv2
  have T1b := Lib.hid (T1.out.below hbel2)
  clear hbel2 hB2 hl2 hv2 R1 T1
  go_wp2_with fail
  refine (mtrim_any _ _ L2 _ R2.out).mono ?_
  rintro e w' ⟨rfl, rfl⟩
  have T2 := Lib.hid (trim_rd R2.out)
  go_wp2_with fail
  refine (sum_any _ _ _ _ _ (HA0.out.below K2.out) (HA1.out.below K2.out) (by rw [List.length_take]; omega) (by rw [List.length_drop]; omega)).mono ?_
  rintro e w3 ⟨g3, S1, rfl, hg3, hB3, hl3, hv3, hbel3⟩
  rw [List.length_take, List.length_drop] at hl3
  have hs3 := hB3.lt
  have hz3 := hbel3.size
  have R3 := Lib.hid (hB3.whole (by omega))
  have K3 : Hid (Below w.heap.size w w3) := K2.out.trans (hbel3.mono (by omega))
  have V3 := Lib.hid hv3
  have T1c := Lib.hid (T1b.out.below hbel3)
  have T2c := Lib.hid (T2.out.below hbel3)
  have HL3 := Lib.hid hl3
  clear hbel3 hB3 hv3 R2 T2 T1b hl3
  go_wp2_with fail
  refine (sum_any _ _ _ _ _ (HB0.out.below K3.out) (HB1.out.below K3.out) (by rw [List.length_take]; omega) (by rw [List.length_drop]; omega)).mono ?_
  rintro e w4 ⟨g4, S2, rfl, hg4, hB4, hl4, hv4, hbel4⟩
  rw [List.length_take, List.length_drop] at hl4
  have hs4 := hB4.lt
  have hz4 := hbel4.size
  have R4 := Lib.hid (hB4.whole (by omega))
  have R3d := Lib.hid (R3.out.below hbel4)
  have K4 : Hid (Below w.heap.size w w4) := K3.out.trans (hbel4.mono (by omega))
  have V4 := Lib.hid hv4
  have T1d := Lib.hid (T1c.out.below hbel4)
  have T2d := Lib.hid (T2c.out.below hbel4)
  have hS : S1.length + S2.length < xs.length + ys.length := by have := HL3.out; omega
  clear hbel4 hB4 hv4 R3 T1c T2c hl4
  go_wp2_with fail
  refine (HI.out _ _ _ _ _ hS R3d.out R4.out).mono ?_
  rintro e w5 ⟨g5, L5, rfl, hg5, hB5, hl5, hv5, hbel5⟩
  have hs5 := hB5.lt
  have hz5 := hbel5.size
  have hll5 : L5.length ≤ 274877906944 := by have q1 := strip_le S1; have q2 := strip_le S2; omega
  have K5 : Hid (Below w.heap.size w w5) := K4.out.trans (hbel5.mono (by omega))
  have V5 : Hid (val L5 = (val (xs.take hf) + val (xs.drop hf)) * (val (ys.take hf) + val (ys.drop hf))) := by show _ = _; rw [hv5, V3.out, V4.out]
  have T1e := Lib.hid (T1d.out.below hbel5)
  have T2e := Lib.hid (T2d.out.below hbel5)
  have hgl := HZ.out.lt
  have n15 : g1 ≠ g5 := by omega
  have n25 : g2 ≠ g5 := by omega
  have n5g : g5 ≠ g := by omega
  have n1g : g1 ≠ g := by omega
  have n2g : g2 ≠ g := by omega
  have hq5 : w.heap.size ≤ g5 := by omega
  have B5 := Lib.hid hB5
  have HZ5 := Lib.hid (HZ.out.below K5.out HZ.out.lt)
  clear hbel5 hB5 hv5 hl5 R3d R4 T1d T2d V3 V4 HL3 hS
  obtain ⟨hle1, hlen1⟩ := Half.sub1 B5.out.2 V5.out V1.out
  have HLE1 := Lib.hid hle1
  clear hle1
  go_wp2_with fail
  refine (subFrom_any g5 L5.length L5.length L5 (strip L1) _ _ B5.out rfl (Nat.le_refl _) (by omega) T1e.out (by intro e; cases e; exact n15 rfl) hlen1 HLE1.out).mono ?_
  rintro e w6 ⟨rfl, M1, hB6, hl6, hv6, hgr6⟩
  have hz6 := hgr6.size
  have hs6 := hB6.lt
  have G6 : Hid (w.grownBy w6 (some g)) := gb_step (gb_below (grown_refl w (some g)) K5.out) hgr6 (.inr hq5)
  have T1f := Lib.hid (T1e.out.kept hgr6 (by intro k hk e; cases hk; cases e; exact n15 rfl))
  have T2f := Lib.hid (T2e.out.kept hgr6 (by intro k hk e; cases hk; cases e; exact n25 rfl))
  have HZ6 := Lib.hid (HZ5.out.kept hgr6 (by intro e; cases e; exact n5g rfl))
  have B6 := Lib.hid hB6
  have V6 := Lib.hid hv6
  obtain ⟨hle2, hlen2⟩ := Half.sub2 hB6.2 V5.out V1.out V2.out hv6
  have HLE2 := Lib.hid hle2
  clear hle2 hB6 hv6 hgr6 T1e T2e HZ5 B5 K5
  have HL6 := Lib.hid hl6
  have hlen2' : (strip L2).length ≤ L5.length := by omega
  clear hl6 hlen2
  go_wp2_with fail
  refine (subFrom_any g5 L5.length L5.length M1 (strip L2) _ _ B6.out HL6.out.symm (Nat.le_refl _) (by omega) T2f.out (by intro e; cases e; exact n25 rfl) hlen2' HLE2.out).mono ?_
  rintro e w7 ⟨rfl, M2, hB7, hl7, hv7, hgr7⟩
  have hz7 := hgr7.size
  have hs7 := hB7.lt
  have G7 : Hid (w.grownBy w7 (some g)) := gb_step G6.out hgr7 (.inr hq5)
  have T1g := Lib.hid (T1f.out.kept hgr7 (by intro k hk e; cases hk; cases e; exact n15 rfl))
  have T2g := Lib.hid (T2f.out.kept hgr7 (by intro k hk e; cases hk; cases e; exact n25 rfl))
  have HZ7 := Lib.hid (HZ6.out.kept hgr7 (by intro e; cases e; exact n5g rfl))
  have B7 := Lib.hid hB7
  have V7 := Lib.hid (Half.mid V5.out V1.out V2.out V6.out hv7)
  have hlow := HH.out.low_len V1.out
  have hhigh := HH.out.high_len V2.out
  have hmid := HH.out.mid_len V7.out
  clear hB7 hv7 hgr7 T1f T2f HZ6 B6 G6 HLE1 HLE2 V5 V6
  have hzl : (List.replicate (xs.length + ys.length) 0).length = xs.length + ys.length := List.length_replicate
  have HZL := Lib.hid hzl
  clear hzl
  have HL7 : Hid (M2.length = L5.length) := hl7.trans HL6.out
  clear hl7
  go_wp2_with ((with_reducible refine wpList_copy_blk (o := ⟨some 55, _, _, _, _, _⟩) rfl (.tmp 53) (.tmp 54) 59 59 rfl Tryz.underlying59 Tryz.infoW1 g (xs.length + ys.length) (xs.length + ys.length) _ _ (List.replicate (xs.length + ys.length) 0) (strip L1) rfl rfl HZ7.out T1g.out (by omega) (by rw [HZL.out]; exact Nat.le_refl _) ?_); intro w8 hB8 hgr8)
  have T2h := Lib.hid (T2g.out.kept hgr8.out (by intro k hk e; cases hk; cases e; exact n2g rfl))
  have B7h := Lib.hid (B7.out.kept hgr8.out (by intro e; cases e; exact n5g rfl))
  have G8 : Hid (w.grownBy w8 (some g)) := gb_step G7.out hgr8.out (.inl rfl)
  have hz8 := hgr8.out.size
  have h2n : 2 * hf < xs.length + ys.length := by omega
  clear hgr8 T2g B7 G7 HZ7 HZL T1g
  go_wp2_with fail
  refine (addTo_any g (2 * hf) (xs.length + ys.length - 2 * hf) (xs.length + ys.length - 2 * hf) _ (strip L2) _ _ hB8.out (by rw [List.length_append, List.length_drop, List.length_replicate]; omega) (Nat.le_refl _) (by omega) T2h.out (by intro e; cases e; exact n2g rfl) hhigh).mono ?_
  rintro e w9 ⟨rfl, Z, hB9, ⟨hlz, htz, hcz⟩, hgr9⟩
  obtain ⟨hzl, hzv⟩ := HH.out.add1 rfl V1.out V2.out (by rw [List.drop_replicate]) hlz htz hcz
  have B9 := Lib.hid hB9
  have B7i := Lib.hid (B7h.out.kept hgr9 (by intro e; cases e; exact n5g rfl))
  have G9 : Hid (w.grownBy w9 (some g)) := gb_step G8.out hgr9 (.inl rfl)
  have ZL := Lib.hid hzl
  have ZV := Lib.hid hzv
  have R5 := Lib.hid (B7i.out.whole (by have := HL7.out; omega))
  have hm2 : M2.length = L5.length := HL7.out
  rw [hm2] at R5
  clear hB9 hlz htz hcz hgr9 hzl hzv hB8 T2h B7h G8 hm2
  go_wp2_with fail
  have T5 : Hid (Rd w9.drew _ (strip M2)) := trim_rd' (w := w9.drew) (by exact R5.out)
  have hi0 : (0 : Int) ≤ (hf : Int) := Int.natCast_nonneg _
  have hcap : ¬ (xs.length + ys.length = hf) := by omega
  have hi1 : (hf : Int) ≤ ((xs.length : Int) + (ys.length : Int)) := by omega
  go_region_held3 (fun _ => True) (trivial)
   (first
    | (go_at_call 273; refine (mtrim_any' _ _ _ M2 _ (by exact R5.out)).mono ?_; rintro e w' ⟨rfl, rfl⟩)
    | (go_at_call 275; refine (addTo_any g hf (xs.length + ys.length - hf) (xs.length + ys.length - hf) Z (strip M2) _ _ (by exact B9.out) (by rw [ZL.out]; omega) (Nat.le_refl _) (by omega) T5.out (by intro e; cases e; exact n5g rfl) hmid).mono ?_; rintro e w10 ⟨rfl, M, hB10, ⟨hlm, htm, hcm⟩, hgr10⟩))
  have HF := Lib.hid (HH.out.add2 ZL.out ZV.out V7.out hlm htm hcm)
  have B10 := Lib.hid hB10
  have G10 : Hid (w.grownBy w10 (some g)) := gb_step (gb_step G9.out (grown_drewN w9 1 (some g)) (.inl rfl)) hgr10 (.inl rfl)
  clear hB10 hlm htm hcm hgr10
  go_wp2_with fail
  go_end0
  exact ⟨rfl, M, B10.out, HF.out.1, HF.out.2, G10.out⟩
end Go.Proofs.YtgfmiladfeoldaaGreatDoor
namespace Go.Proofs.YtgfmiladfeoldaaGreatDoor
open Go.RowKit NatP
theorem ProdOk.mono {n m : Nat} (h : ProdOk n) (hm : m ≤ n) : ProdOk m := fun xs ys v u w hl hv hu => h xs ys v u w (by omega) hv hu
theorem Rd.some' {w : World} {ao : Option Addr} {n c : Nat} {xs : List Nat} (h : Rd w (.slice ao n c) xs) (h0 : 0 < xs.length) : ∃ g o, ao = some ⟨g, o, none⟩ := by
 obtain ⟨_, ao', cap', e, _, _, _, h4⟩ := h
 simp only [Value.slice.injEq] at e
 obtain ⟨rfl, -, -⟩ := e
 obtain ⟨g, o, h5, _⟩ := h4 0 xs[0] (List.getElem?_eq_getElem h0)
 exact ⟨g, o, h5⟩
theorem prod_done {w w1 w2 : World} {e : Ending} {A B M xs ys : List Nat} {n : Nat} (h1 : M.length = A.length + B.length) (h2 : val M = val A * val B) (hn : n = M.length) (he : e = .returned (.slice (some ⟨w.heap.size, 0, none⟩) n n)) (hB : Blk w2 w.heap.size M) (hb : Below w.heap.size w w1) (hg : w1.grownBy w2 (some w.heap.size))
  (hAB : (A = strip xs ∧ B = strip ys) ∨ (A = strip ys ∧ B = strip xs)) : ProdPost xs ys w e w2 := by
 subst hn
 refine ⟨_, M, he, Nat.le_refl _, hB, ?_, ?_, Below.grown hb hg hb.size (fun k hk => by cases hk; exact Nat.le_refl _)⟩
 ·rcases hAB with ⟨rfl, rfl⟩ | ⟨rfl, rfl⟩
  ·exact h1
  ·rw [h1, Nat.add_comm]
 ·rcases hAB with ⟨rfl, rfl⟩ | ⟨rfl, rfl⟩
  ·rw [h2, val_strip, val_strip]
  ·rw [h2, val_strip, val_strip, Nat.mul_comm]
def PiRel (A B : List Nat) (g : Nat) (w1 : World) (i : Value) (wr : World) : Prop := ∃ (k : Nat) (M : List Nat), i = .int .i64 (k : Nat) ∧ k ≤ A.length + B.length ∧ Blk wr g M ∧ PiSt A B (min k A.length) M ∧ w1.grownBy wr (some g)
set_option maxRecDepth 100000 in
set_option maxHeartbeats 4000000 in
theorem prod_step (n : Nat) (IH : ProdOk n) (hn : n ≤ 274877906944) (xs ys : List Nat) (v u : Value) (w : World) (hl : xs.length + ys.length ≤ n) (hv : Rd w v xs) (hu : Rd w u ys) :
  Calls Tryz.prog 253 #[v, u] w (ProdPost xs ys w) := by
 have HV := Lib.hid hv
 have HU := Lib.hid hu
 obtain ⟨_, ao, cap, rfl, -⟩ := hv
 obtain ⟨_, bo, cap2, rfl, -⟩ := hu
 have TA := Lib.hid (trim_rd' HV.out)
 have TB := Lib.hid (trim_rd' HU.out)
 have q1 := strip_le xs
 have q2 := strip_le ys
 have HI := Lib.hid IH
 obtain ⟨X, hX⟩ : ∃ X, X = strip xs := ⟨_, rfl⟩
 obtain ⟨Y, hY⟩ : ∃ Y, Y = strip ys := ⟨_, rfl⟩
 rw [← hX] at TA q1
 rw [← hY] at TB q2
 have HX := Lib.hid hX
 have HY := Lib.hid hY
 clear IH hX hY
 by_cases hsw : X.length < Y.length
 ·have h21 : X.length ≤ Y.length := by omega
  have HAB : Hid ((Y = strip xs ∧ X = strip ys) ∨ (Y = strip ys ∧ X = strip xs)) := .inr ⟨HY.out, HX.out⟩
  have HMK : ∀ w : World, (Instr.makeSlice 59 (.int .i64 ((Y.length : Int) + (X.length : Int))) (.int .i64 ((Y.length : Int) + (X.length : Int)))).run Tryz.prog w = .ok (.slice (some ⟨w.heap.size, 0, none⟩) (Y.length + X.length) (Y.length + X.length)) (w.alloc (.cells (madeCells #[.int .u64 0] (Y.length + X.length)) 101)) := make_words (Y.length + X.length) (by omega)
  have HZ := Lib.hid (Blk.made w (Y.length + X.length))
  have HBL := Lib.hid (below_alloc w (.cells (madeCells #[.int .u64 0] (Y.length + X.length)) 101))
  have NA := Lib.hid (TB.out.ne (Nat.le_refl w.heap.size))
  have NB := Lib.hid (TA.out.ne (Nat.le_refl w.heap.size))
  have RA := Lib.hid (TB.out.below HBL.out)
  have RB := Lib.hid (TA.out.below HBL.out)
  by_cases h24 : X.length < 24
  ·go_enter Tryz.func253, Tryz.ntmps253
   go_wp2_with fail
   refine (mtrim_any' _ _ _ xs _ HV.out).mono ?_
   rintro e w' ⟨rfl, rfl⟩
   rw [← HX.out]
   go_wp2_with fail
   refine (mtrim_any' _ _ _ ys _ HU.out).mono ?_
   rintro e w' ⟨rfl, rfl⟩
   rw [← HY.out]
   go_wp2_with fail
   refine (rows_any w.heap.size (Y.length + X.length) Y X _ _ _ HZ.out rfl (by omega) RA.out NA.out RB.out NB.out).mono ?_
   rintro e w2 ⟨rfl, M, hM, hml, hmv, hgr⟩
   have HM := Lib.hid hM
   have HML := Lib.hid hml
   have HMV := Lib.hid hmv
   have HGR := Lib.hid hgr
   clear hM hml hmv hgr
   go_wp2_with fail
   go_ret
   exact prod_done HML.out HMV.out HML.out.symm rfl HM.out HBL.out HGR.out HAB.out
  obtain ⟨ga, oa, hao⟩ := TB.out.some' (by omega)
  obtain ⟨gb, ob, hbo⟩ := TA.out.some' (by omega)
  subst hao hbo
  have hga : ga ≠ w.heap.size := fun e => NA.out (by rw [e]; rfl)
  have hgb : gb ≠ w.heap.size := fun e => NB.out (by rw [e]; rfl)
  have d1 : decide ((X.length : Int) < 24) = false := by simp; omega
  by_cases hbig : 2 * X.length ≤ Y.length
  ·have d2 : decide (2 * (X.length : Int) ≤ (Y.length : Int)) = true := by simp; omega
   go_enter Tryz.func253, Tryz.ntmps253
   go_wp2_with fail
   refine (mtrim_any' _ _ _ xs _ HV.out).mono ?_
   rintro e w' ⟨rfl, rfl⟩
   rw [← HX.out]
   go_wp2_with fail
   refine (mtrim_any' _ _ _ ys _ HU.out).mono ?_
   rintro e w' ⟨rfl, rfl⟩
   rw [← HY.out]
   go_wp2_with fail
   generalize w.alloc (.cells (madeCells #[.int .u64 0] (Y.length + X.length)) 101) = w1 at *
   go_loopw [6] (fun i wr => PiRel Y X w.heap.size w1 i wr) (fun i _ => Y.length - (intOf i).toNat)
   case atStart => exact ⟨0, _, rfl, Nat.zero_le _, HZ.out, by rw [Nat.zero_min]; exact PiSt.start Y X, grown_refl w1 _⟩
   case round =>
    obtain ⟨k, M, rfl, hk, hM, hst, hgr⟩ := hrel
    have HM := Lib.hid hM
    have HST := Lib.hid hst
    have HGR := Lib.hid hgr
    have hwz := hgr.size
    have hwb := HBL.out.size
    have hgw := hM.lt
    clear hM hst hgr
    by_cases hlt : k < Y.length
    ·obtain ⟨e, he⟩ : ∃ e, e = min (k + X.length) Y.length := ⟨_, rfl⟩
     have hke : k ≤ e := by omega
     have hea : e ≤ Y.length := by omega
     have hkl : e - k ≤ X.length := by omega
     have hmin : min ((k : Int) + (X.length : Int)) (Y.length : Int) = (e : Int) := by omega
     have HMIN2 : Hid (min (k + X.length) Y.length = e) := he.symm
     have hst2 : PiSt Y X k M := by have := HST.out; rw [Nat.min_eq_left (by omega)] at this; exact this
     have HST2 := Lib.hid hst2
     have HA1 := Lib.hid (((RA.out.kept HGR.out (by intro q hq e2; cases hq; exact NA.out e2)).drop (n := k) (by omega)).take (n := e - k) (c := e - k) (by rw [List.length_drop]; omega) (Nat.le_refl _) (by omega))
     have HB1 := Lib.hid (RB.out.kept HGR.out (by intro q hq e2; cases hq; exact NB.out e2))
     have hi0 : (0 : Int) ≤ (k : Int) := Int.natCast_nonneg _
     have hi1 : (k : Int) ≤ ((Y.length : Int) + (X.length : Int)) := by omega
     have hi2 : (k : Int) ≤ (e : Int) := by omega
     have hi3 : (e : Int) ≤ (Y.length : Int) := by omega
     have hc1 : ¬ (Y.length + X.length = k) := by omega
     have hc2 : ¬ (e = k) := by omega
     have hdl : ((Y.drop k).take (e - k)).length = e - k := by rw [List.length_take, List.length_drop]; omega
     have HDL := Lib.hid hdl
     clear he hst2 hdl
     go_wp2_with fail
     go_region_held3 (fun _ => True) (trivial)
      (first
       | (go_at_call 253; refine (HI.out ((Y.drop k).take (e - k)) X _ _ _ (by have := List.length_take_le (e - k) (Y.drop k); omega) (by exact HA1.out) (by exact HB1.out)).mono ?_; rintro e2 w3 ⟨g3, P, rfl, hg3, hB3, hl3, hv3, hbel3⟩; have HR3 := Lib.hid (hB3.whole (by have p1 := strip_le ((Y.drop k).take (e - k)); have p2 := strip_le X; have p3 := List.length_take_le (e - k) (Y.drop k); omega)); have HV3 := Lib.hid hv3; have HB3 := Lib.hid hbel3; have n3 : g3 ≠ w.heap.size := (Nat.ne_of_lt (Nat.lt_of_lt_of_le hgw hg3)).symm; clear hl3 hv3 hB3 hbel3)
       | (go_at_call 273; refine (mtrim_any' _ _ _ P _ (by exact HR3.out)).mono ?_; rintro e2 w' ⟨rfl, rfl⟩)
       | (go_at_call 275; refine (addTo_any w.heap.size k (Y.length + X.length - k) (Y.length + X.length - k) M (strip P) _ _ (by exact Blk.below (w := wr.drew) HM.out HB3.out hgw) (by have := HST2.out.1; omega) (Nat.le_refl _) (by omega) (trim_rd' HR3.out) (by intro e2; cases e2; exact n3 rfl) (piece_len RA.out.ok RB.out.ok hea HV3.out hke)).mono ?_; rintro e2 w4 ⟨rfl, M', hB4, ⟨hlm, htm, hcm⟩, hgr4⟩))
     have HN := Lib.hid (PiSt.step RA.out.ok RB.out.ok HST2.out hke hea HV3.out hlm htm hcm)
     have HM4 := Lib.hid hB4
     have HG4 : Hid (w1.grownBy w4 (some w.heap.size)) := gb_step (gb_below (w := wr.drew) (gb_step HGR.out (grown_drewN wr 1 (some w.heap.size)) (.inl rfl)) HB3.out) hgr4 (.inl rfl)
     clear hB4 hlm htm hcm hgr4
     go_wp2_with fail
     have hfin : PiRel Y X w.heap.size w1 (.int .i64 ((k : Int) + (X.length : Int))) w4 := ⟨k + X.length, M', by go_num, by omega, HM4.out, by rw [HMIN2.out]; exact HN.out, HG4.out⟩
     first | exact ⟨hfin, by simp [intOf]; omega⟩ | exact ⟨by (repeat apply Exists.intro); exact ⟨hfin, rfl⟩, by simp [intOf]; omega⟩
    ·have HD := Lib.hid (PiSt.done (xs := Y) (ys := X) (M := M) (by have := HST.out; rw [Nat.min_eq_right (by omega)] at this; exact this))
     go_wp2_with fail
     go_ret
     exact prod_done HD.out.1 HD.out.2 HD.out.1.symm rfl HM.out HBL.out HGR.out HAB.out
  ·go_enter Tryz.func253, Tryz.ntmps253
   go_wp2_with fail
   refine (mtrim_any' _ _ _ xs _ HV.out).mono ?_
   rintro e w' ⟨rfl, rfl⟩
   rw [← HX.out]
   go_wp2_with fail
   refine (mtrim_any' _ _ _ ys _ HU.out).mono ?_
   rintro e w' ⟨rfl, rfl⟩
   rw [← HY.out]
   go_wp2_with fail
   refine (halves_any w.heap.size ga oa gb ob ((Y.length + 1) / 2) Y X _ (HI.out.mono (by omega)) HZ.out (by omega) RA.out RB.out hga hgb rfl h21 (by omega) (by omega)).mono ?_
   rintro e w2 ⟨rfl, M, hM, hml, hmv, hgr⟩
   have HM := Lib.hid hM
   have HML := Lib.hid hml
   have HMV := Lib.hid hmv
   have HGR := Lib.hid hgr
   clear hM hml hmv hgr
   go_wp2_with fail
   go_ret
   exact prod_done HML.out HMV.out HML.out.symm rfl HM.out HBL.out HGR.out HAB.out
 ·have h21 : Y.length ≤ X.length := by omega
  have HAB : Hid ((X = strip xs ∧ Y = strip ys) ∨ (X = strip ys ∧ Y = strip xs)) := .inl ⟨HX.out, HY.out⟩
  have HMK : ∀ w : World, (Instr.makeSlice 59 (.int .i64 ((X.length : Int) + (Y.length : Int))) (.int .i64 ((X.length : Int) + (Y.length : Int)))).run Tryz.prog w = .ok (.slice (some ⟨w.heap.size, 0, none⟩) (X.length + Y.length) (X.length + Y.length)) (w.alloc (.cells (madeCells #[.int .u64 0] (X.length + Y.length)) 101)) := make_words (X.length + Y.length) (by omega)
  have HZ := Lib.hid (Blk.made w (X.length + Y.length))
  have HBL := Lib.hid (below_alloc w (.cells (madeCells #[.int .u64 0] (X.length + Y.length)) 101))
  have NA := Lib.hid (TA.out.ne (Nat.le_refl w.heap.size))
  have NB := Lib.hid (TB.out.ne (Nat.le_refl w.heap.size))
  have RA := Lib.hid (TA.out.below HBL.out)
  have RB := Lib.hid (TB.out.below HBL.out)
  by_cases h24 : Y.length < 24
  ·go_enter Tryz.func253, Tryz.ntmps253
   go_wp2_with fail
   refine (mtrim_any' _ _ _ xs _ HV.out).mono ?_
   rintro e w' ⟨rfl, rfl⟩
   rw [← HX.out]
   go_wp2_with fail
   refine (mtrim_any' _ _ _ ys _ HU.out).mono ?_
   rintro e w' ⟨rfl, rfl⟩
   rw [← HY.out]
   go_wp2_with fail
   refine (rows_any w.heap.size (X.length + Y.length) X Y _ _ _ HZ.out rfl (by omega) RA.out NA.out RB.out NB.out).mono ?_
   rintro e w2 ⟨rfl, M, hM, hml, hmv, hgr⟩
   have HM := Lib.hid hM
   have HML := Lib.hid hml
   have HMV := Lib.hid hmv
   have HGR := Lib.hid hgr
   clear hM hml hmv hgr
   go_wp2_with fail
   go_ret
   exact prod_done HML.out HMV.out HML.out.symm rfl HM.out HBL.out HGR.out HAB.out
  obtain ⟨ga, oa, hao⟩ := TA.out.some' (by omega)
  obtain ⟨gb, ob, hbo⟩ := TB.out.some' (by omega)
  subst hao hbo
  have hga : ga ≠ w.heap.size := fun e => NA.out (by rw [e]; rfl)
  have hgb : gb ≠ w.heap.size := fun e => NB.out (by rw [e]; rfl)
  have d1 : decide ((Y.length : Int) < 24) = false := by simp; omega
  by_cases hbig : 2 * Y.length ≤ X.length
  ·have d2 : decide (2 * (Y.length : Int) ≤ (X.length : Int)) = true := by simp; omega
   go_enter Tryz.func253, Tryz.ntmps253
   go_wp2_with fail
   refine (mtrim_any' _ _ _ xs _ HV.out).mono ?_
   rintro e w' ⟨rfl, rfl⟩
   rw [← HX.out]
   go_wp2_with fail
   refine (mtrim_any' _ _ _ ys _ HU.out).mono ?_
   rintro e w' ⟨rfl, rfl⟩
   rw [← HY.out]
   go_wp2_with fail
   generalize w.alloc (.cells (madeCells #[.int .u64 0] (X.length + Y.length)) 101) = w1 at *
   go_loopw [6] (fun i wr => PiRel X Y w.heap.size w1 i wr) (fun i _ => X.length - (intOf i).toNat)
   case atStart => exact ⟨0, _, rfl, Nat.zero_le _, HZ.out, by rw [Nat.zero_min]; exact PiSt.start X Y, grown_refl w1 _⟩
   case round =>
    obtain ⟨k, M, rfl, hk, hM, hst, hgr⟩ := hrel
    have HM := Lib.hid hM
    have HST := Lib.hid hst
    have HGR := Lib.hid hgr
    have hwz := hgr.size
    have hwb := HBL.out.size
    have hgw := hM.lt
    clear hM hst hgr
    by_cases hlt : k < X.length
    ·obtain ⟨e, he⟩ : ∃ e, e = min (k + Y.length) X.length := ⟨_, rfl⟩
     have hke : k ≤ e := by omega
     have hea : e ≤ X.length := by omega
     have hkl : e - k ≤ Y.length := by omega
     have hmin : min ((k : Int) + (Y.length : Int)) (X.length : Int) = (e : Int) := by omega
     have HMIN2 : Hid (min (k + Y.length) X.length = e) := he.symm
     have hst2 : PiSt X Y k M := by have := HST.out; rw [Nat.min_eq_left (by omega)] at this; exact this
     have HST2 := Lib.hid hst2
     have HA1 := Lib.hid (((RA.out.kept HGR.out (by intro q hq e2; cases hq; exact NA.out e2)).drop (n := k) (by omega)).take (n := e - k) (c := e - k) (by rw [List.length_drop]; omega) (Nat.le_refl _) (by omega))
     have HB1 := Lib.hid (RB.out.kept HGR.out (by intro q hq e2; cases hq; exact NB.out e2))
     have hi0 : (0 : Int) ≤ (k : Int) := Int.natCast_nonneg _
     have hi1 : (k : Int) ≤ ((X.length : Int) + (Y.length : Int)) := by omega
     have hi2 : (k : Int) ≤ (e : Int) := by omega
     have hi3 : (e : Int) ≤ (X.length : Int) := by omega
     have hc1 : ¬ (X.length + Y.length = k) := by omega
     have hc2 : ¬ (e = k) := by omega
     have hdl : ((X.drop k).take (e - k)).length = e - k := by rw [List.length_take, List.length_drop]; omega
     have HDL := Lib.hid hdl
     clear he hst2 hdl
     go_wp2_with fail
     go_region_held3 (fun _ => True) (trivial)
      (first
       | (go_at_call 253; refine (HI.out ((X.drop k).take (e - k)) Y _ _ _ (by have := List.length_take_le (e - k) (X.drop k); omega) (by exact HA1.out) (by exact HB1.out)).mono ?_; rintro e2 w3 ⟨g3, P, rfl, hg3, hB3, hl3, hv3, hbel3⟩; have HR3 := Lib.hid (hB3.whole (by have p1 := strip_le ((X.drop k).take (e - k)); have p2 := strip_le Y; have p3 := List.length_take_le (e - k) (X.drop k); omega)); have HV3 := Lib.hid hv3; have HB3 := Lib.hid hbel3; have n3 : g3 ≠ w.heap.size := (Nat.ne_of_lt (Nat.lt_of_lt_of_le hgw hg3)).symm; clear hl3 hv3 hB3 hbel3)
       | (go_at_call 273; refine (mtrim_any' _ _ _ P _ (by exact HR3.out)).mono ?_; rintro e2 w' ⟨rfl, rfl⟩)
       | (go_at_call 275; refine (addTo_any w.heap.size k (X.length + Y.length - k) (X.length + Y.length - k) M (strip P) _ _ (by exact Blk.below (w := wr.drew) HM.out HB3.out hgw) (by have := HST2.out.1; omega) (Nat.le_refl _) (by omega) (trim_rd' HR3.out) (by intro e2; cases e2; exact n3 rfl) (piece_len RA.out.ok RB.out.ok hea HV3.out hke)).mono ?_; rintro e2 w4 ⟨rfl, M', hB4, ⟨hlm, htm, hcm⟩, hgr4⟩))
     have HN := Lib.hid (PiSt.step RA.out.ok RB.out.ok HST2.out hke hea HV3.out hlm htm hcm)
     have HM4 := Lib.hid hB4
     have HG4 : Hid (w1.grownBy w4 (some w.heap.size)) := gb_step (gb_below (w := wr.drew) (gb_step HGR.out (grown_drewN wr 1 (some w.heap.size)) (.inl rfl)) HB3.out) hgr4 (.inl rfl)
     clear hB4 hlm htm hcm hgr4
     go_wp2_with fail
     have hfin : PiRel X Y w.heap.size w1 (.int .i64 ((k : Int) + (Y.length : Int))) w4 := ⟨k + Y.length, M', by go_num, by omega, HM4.out, by rw [HMIN2.out]; exact HN.out, HG4.out⟩
     first | exact ⟨hfin, by simp [intOf]; omega⟩ | exact ⟨by (repeat apply Exists.intro); exact ⟨hfin, rfl⟩, by simp [intOf]; omega⟩
    ·have HD := Lib.hid (PiSt.done (xs := X) (ys := Y) (M := M) (by have := HST.out; rw [Nat.min_eq_right (by omega)] at this; exact this))
     go_wp2_with fail
     go_ret
     exact prod_done HD.out.1 HD.out.2 HD.out.1.symm rfl HM.out HBL.out HGR.out HAB.out
  ·go_enter Tryz.func253, Tryz.ntmps253
   go_wp2_with fail
   refine (mtrim_any' _ _ _ xs _ HV.out).mono ?_
   rintro e w' ⟨rfl, rfl⟩
   rw [← HX.out]
   go_wp2_with fail
   refine (mtrim_any' _ _ _ ys _ HU.out).mono ?_
   rintro e w' ⟨rfl, rfl⟩
   rw [← HY.out]
   go_wp2_with fail
   refine (halves_any w.heap.size ga oa gb ob ((X.length + 1) / 2) X Y _ (HI.out.mono (by omega)) HZ.out (by omega) RA.out RB.out hga hgb rfl h21 (by omega) (by omega)).mono ?_
   rintro e w2 ⟨rfl, M, hM, hml, hmv, hgr⟩
   have HM := Lib.hid hM
   have HML := Lib.hid hml
   have HMV := Lib.hid hmv
   have HGR := Lib.hid hgr
   clear hM hml hmv hgr
   go_wp2_with fail
   go_ret
   exact prod_done HML.out HMV.out HML.out.symm rfl HM.out HBL.out HGR.out HAB.out
theorem prod_all : ∀ n, n ≤ 274877906944 → ProdOk n
 | 0, _ => fun xs ys v u w h _ _ => absurd h (Nat.not_lt_zero _)
 | n + 1, hn => fun xs ys v u w h hv hu => prod_step n (prod_all n (by omega)) (by omega) xs ys v u w (by omega) hv hu
theorem product_any (xs ys : List Nat) (v u : Value) (w : World) (hl : xs.length + ys.length < 274877906944) (hv : Rd w v xs) (hu : Rd w u ys) :
  Calls Tryz.prog 253 #[v, u] w (ProdPost xs ys w) := prod_all _ (Nat.le_refl _) xs ys v u w hl hv hu
end Go.Proofs.YtgfmiladfeoldaaGreatDoor
namespace Go.Proofs.YtgfmiladfeoldaaGreatDoor
open Go.RowKit NatP
def NumPost (n : Nat) (m : Nat) (w : World) (e : Ending) (w' : World) : Prop := ∃ v xs, e = .returned v ∧ Fr w.heap.size w' v xs ∧ val xs = n ∧ xs.length ≤ m ∧ strip xs = xs ∧ Below w.heap.size w w'
theorem strip_strip (l : List Nat) : strip (strip l) = strip l := by
 refine snoc_ind (P := fun l => strip (strip l) = strip l) rfl (fun l d ih => ?_) l
 by_cases h : d = 0
 ·subst h; rw [strip_snoc_zero]; exact ih
 ·rw [strip_snoc_pos _ _ h, strip_snoc_pos _ _ h]
theorem NumPost.of_new {xs : List Nat} {n m : Nat} {w w' : World} {e : Ending} (h : NewPost (strip xs) w e w') (hv : val xs = n) (hm : (strip xs).length ≤ m) : NumPost n m w e w' := by
 obtain ⟨v, he, hf, hb⟩ := h
 exact ⟨v, strip xs, he, hf, by rw [val_strip, hv], hm, strip_strip _, hb⟩
set_option maxRecDepth 100000 in
set_option maxHeartbeats 1000000 in
theorem mul_any (xs ys : List Nat) (v u : Value) (w : World) (hl : xs.length + ys.length < 274877906944) (hv : Rd w v xs) (hu : Rd w u ys) :
  Calls Tryz.prog 237 #[v, u] w (NumPost (val xs * val ys) (xs.length + ys.length) w) := by
 have HV := Lib.hid hv
 have HU := Lib.hid hu
 clear hv hu
 go_enter Tryz.func237, Tryz.ntmps237
 go_wp2_with fail
 refine (product_any xs ys _ _ _ hl HV.out HU.out).mono ?_
 rintro e w1 ⟨g, M, rfl, hg, hM, hml, hmv, hb⟩
 have q1 := strip_le xs
 have q2 := strip_le ys
 have hMl : M.length ≤ xs.length + ys.length := by omega
 have R := Lib.hid (hM.whole (by omega))
 have HB := Lib.hid hb
 have HV := Lib.hid hmv
 clear hM hml hmv hb
 go_wp2_with fail
 refine (least_any _ M _ R.out (by omega)).mono ?_
 rintro e w2 ⟨v2, rfl, hf, hb2⟩
 have HF := Lib.hid (hf.mono HB.out.size)
 have HB2 : Hid (Below w.heap.size w w2) := HB.out.trans (hb2.mono HB.out.size)
 clear hf hb2
 go_wp2_with fail
 go_ret
 exact NumPost.of_new ⟨_, rfl, HF.out, HB2.out⟩ HV.out (Nat.le_trans (strip_le M) hMl)
set_option maxRecDepth 100000 in
set_option maxHeartbeats 1000000 in
theorem square_any (xs : List Nat) (v : Value) (w : World) (hl : xs.length + xs.length < 274877906944) (hv : Rd w v xs) :
  Calls Tryz.prog 215 #[v] w (NumPost (val xs * val xs) (xs.length + xs.length) w) := by
 have HV := Lib.hid hv
 clear hv
 go_enter Tryz.func215, Tryz.ntmps215
 go_wp2_with fail
 refine (mul_any xs xs _ _ _ hl HV.out HV.out).mono ?_
 rintro e w1 ⟨v1, zs, rfl, h1, h2, h3, h4, h5⟩
 have H1 := Lib.hid h1
 have H2 := Lib.hid h2
 have H3 := Lib.hid h3
 have H4 := Lib.hid h4
 have H5 := Lib.hid h5
 clear h1 h2 h3 h4 h5
 go_wp2_with fail
 go_ret
 exact ⟨_, zs, rfl, H1.out, H2.out, H3.out, H4.out, H5.out⟩
theorem rd_word (w : World) (x : Nat) (hx : x < BB) : Rd (w.alloc (.cells #[.int .u64 (x : Nat)] 101)) (.slice (some ⟨w.heap.size, 0, none⟩) 1 1) [x] := by
 refine ⟨fun k hk => by cases hk; simp, _, 1, rfl, Nat.le_refl _, by unfold maxLen; omega, ok_cons hx ok_nil, fun i y hy => ?_⟩
 cases i with
 | zero =>
  simp at hy; subst hy
  exact ⟨_, _, rfl, by simp [go_sem]⟩
 | succ i => simp at hy
set_option maxRecDepth 100000 in
set_option maxHeartbeats 1000000 in
theorem word_any (xs : List Nat) (x : Nat) (v : Value) (w : World) (hl : xs.length < 137438953472) (hx : x < BB) (hv : Rd w v xs) :
  Calls Tryz.prog 272 #[v, .int .u64 (x : Nat)] w (NumPost (val xs * x) (xs.length + 1) w) := by
 have HV := Lib.hid hv
 have HX := Lib.hid hx
 clear hv hx
 go_enter Tryz.func272, Tryz.ntmps272
 go_wp2_with fail
 refine (mul_any xs [x] _ _ _ (by simp; omega) (HV.out.alloc _) (rd_word w x HX.out)).mono ?_
 rintro e w1 ⟨v1, zs, rfl, h1, h2, h3, h4, h5⟩
 have H1 : Hid (Fr w.heap.size w1 v1 zs) := h1.mono (by simp)
 have H2 : Hid (val zs = val xs * x) := by show _ = _; rw [h2]; simp [val]
 have H3 : Hid (zs.length ≤ xs.length + 1) := h3
 have H4 := Lib.hid h4
 have H5 : Hid (Below w.heap.size w w1) := (below_alloc w _).trans (h5.mono (by simp))
 clear h1 h2 h3 h4 h5
 go_wp2_with fail
 go_ret
 exact ⟨_, zs, rfl, H1.out, H2.out, H3.out, H4.out, H5.out⟩
end Go.Proofs.YtgfmiladfeoldaaGreatDoor
