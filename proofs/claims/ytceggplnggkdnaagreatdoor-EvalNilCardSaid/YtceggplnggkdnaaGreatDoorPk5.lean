/- Joined texts of this claim's proof: Num3, Num4, Num5. -/
import Derived.Test.YtceggplnggkdnaaGreatDoorPk4
import Derived.Shelf.Spec.BitsCarry
import Derived.StillTailTactics
import Derived.Deep.RegionLaw
import Derived.Test.YtceggplnggkdnaaGreatDoorPk1
import Derived.Deep.RegionHeld3
set_option linter.unusedSimpArgs false
set_option linter.unusedVariables false
namespace Go.Proofs.YtceggplnggkdnaaGreatDoor
open Go.RowKit NatP
theorem add64_ex (x y c : Nat) (hx : x < BB) (hy : y < BB) (hc : c ≤ 1) : ∃ s c' : Nat, s < BB ∧ c' ≤ 1 ∧ s + BB * c' = x + y + c ∧
  ∀ w : World, (callFunc 349 #[.int .u64 (x : Nat), .int .u64 (y : Nat), .int .u64 (c : Nat)]).run Tryz.prog w = .ok (.value (.tuple #[.int .u64 (s : Nat), .int .u64 (c' : Nat)])) w := by
 unfold BB at *
 refine ⟨(x + y + c) % 18446744073709551616, (x + y + c) / 18446744073709551616, by omega, by omega, by omega, fun w => ?_⟩
 rw [run_callFunc_extern Tryz.func349 (by kernel_rfl) (by kernel_rfl) (by kernel_rfl) (e := add64Entry) (by kernel_rfl), run_add64 x y c (by omega) (by omega) (by omega) (by omega)]
 simp only [Result.andThen]
 congr 5 <;> omega
theorem sub64_ex (x y c : Nat) (hx : x < BB) (hy : y < BB) (hc : c ≤ 1) : ∃ s c' : Nat, s < BB ∧ c' ≤ 1 ∧ s + y + c = x + BB * c' ∧
  ∀ w : World, (callFunc 350 #[.int .u64 (x : Nat), .int .u64 (y : Nat), .int .u64 (c : Nat)]).run Tryz.prog w = .ok (.value (.tuple #[.int .u64 (s : Nat), .int .u64 (c' : Nat)])) w := by
 unfold BB at *
 refine ⟨(x + 18446744073709551616 - y - c) % 18446744073709551616, (if x < y + c then 1 else 0), by omega, by split <;> omega, by split <;> omega, fun w => ?_⟩
 rw [run_callFunc_extern Tryz.func350 (by kernel_rfl) (by kernel_rfl) (by kernel_rfl) (e := sub64Entry) (by kernel_rfl), run_sub64 x y c hc]
 rfl
def AddSt (L ys : List Nat) (o i c : Nat) (M : List Nat) : Prop :=
 M.length = L.length ∧ M.take o = L.take o ∧ M.drop (o + i) = L.drop (o + i) ∧ val ((M.drop o).take i) + BB ^ i * c = val ((L.drop o).take i) + val (ys.take i)
theorem AddSt.start (L ys : List Nat) (o : Nat) : AddSt L ys o 0 0 L := ⟨rfl, rfl, rfl, by simp [val]⟩
theorem AddSt.at {L ys M : List Nat} {o i c z : Nat} (h : AddSt L ys o i c M) (hz : M[o + i]? = some z) : L[o + i]? = some z := by
 have h1 := congrArg (fun l => l[0]?) h.2.2.1
 simp only [List.getElem?_drop, Nat.add_zero] at h1
 rw [← h1]; exact hz
theorem AddSt.step {L ys M : List Nat} {o i c z y s c' : Nat} (h : AddSt L ys o i c M) (hz : M[o + i]? = some z) (hy : (ys[i]? = some y) ∨ (ys.length ≤ i ∧ y = 0)) (hs : s + BB * c' = z + y + c) :
  AddSt L ys o (i + 1) c' (M.set (o + i) s) := by
 have hLz := h.at hz
 obtain ⟨h1, h2, h3, h4⟩ := h
 have hlt : o + i < M.length := (List.getElem?_eq_some_iff.1 hz).1
 refine ⟨by rw [List.length_set, h1], by rw [set_take _ (by omega), h2], ?_, ?_⟩
 ·rw [show o + (i + 1) = o + i + 1 from by omega, set_drop]
  have := congrArg (List.drop 1) h3
  rw [List.drop_drop, List.drop_drop] at this
  exact this
 ·rw [set_mid _ hlt]
  have hLl : o + i < L.length := (List.getElem?_eq_some_iff.1 hLz).1
  have e1 : (L.drop o).take (i + 1) = (L.drop o).take i ++ [z] := by
   rw [List.take_add_one, List.getElem?_drop, hLz]; rfl
  have e2 : val (ys.take (i + 1)) = val (ys.take i) + BB ^ i * y := by
   rcases hy with hy | ⟨hy, rfl⟩
   ·have hyl : i < ys.length := (List.getElem?_eq_some_iff.1 hy).1
    rw [val_take_succ hyl]
    have : ys[i] = y := by rw [List.getElem?_eq_getElem hyl] at hy; exact Option.some.inj hy
    rw [this]
   ·rw [List.take_of_length_le (by omega), List.take_of_length_le (by omega)]; simp
  rw [e1, e2, val_snoc, val_snoc, List.length_take, List.length_take, List.length_drop, List.length_drop, Nat.min_eq_left (by omega), Nat.min_eq_left (by omega), Nat.pow_succ]
  exact carry_add h4 hs
def Added (L ys : List Nat) (o : Nat) (M : List Nat) : Prop := M.length = L.length ∧ M.take o = L.take o ∧ ∃ c, val (M.drop o) + BB ^ (L.length - o) * c = val (L.drop o) + val ys
theorem AddSt.done_all {L ys M : List Nat} {o i c : Nat} (h : AddSt L ys o i c M) (hi : o + i = L.length) (hy : ys.length ≤ i) : Added L ys o M := by
 obtain ⟨h1, h2, h3, h4⟩ := h
 refine ⟨h1, h2, c, ?_⟩
 rw [List.take_of_length_le (by rw [List.length_drop]; omega), List.take_of_length_le (by rw [List.length_drop]; omega), List.take_of_length_le hy] at h4
 rw [show L.length - o = i from by omega]; exact h4
theorem AddSt.done_zero {L ys M : List Nat} {o i : Nat} (h : AddSt L ys o i 0 M) (hi : o + i ≤ L.length) (hy : ys.length ≤ i) : Added L ys o M := by
 obtain ⟨h1, h2, h3, h4⟩ := h
 refine ⟨h1, h2, 0, ?_⟩
 rw [List.take_of_length_le hy] at h4
 have e1 := val_split (M.drop o) i (by rw [List.length_drop]; omega)
 have e2 := val_split (L.drop o) i (by rw [List.length_drop]; omega)
 rw [List.drop_drop] at e1 e2
 rw [e1, e2, h3]
 simp only [Nat.mul_zero, Nat.add_zero] at h4 ⊢
 omega
def AddPost (L ys : List Nat) (g o : Nat) (w : World) (e : Ending) (w' : World) : Prop := e = .returned (.tuple #[]) ∧ ∃ M, Blk w' g M ∧ Added L ys o M ∧ w.grownBy w' (some g)
theorem grown_set {w0 w : World} {g : Nat} (h : w0.grownBy w (some g)) {w' : World} (h2 : w.grownBy w' (some g)) : w0.grownBy w' (some g) :=
 ⟨h2.os.trans h.os, h2.tape.trans h.tape, h2.output.trans h.output, Nat.le_trans h.size h2.size, fun k hk hn => (h2.block k (Nat.lt_of_lt_of_le hk h.size) hn).trans (h.block k hk hn)⟩
theorem grown_refl (w : World) (row : Option Nat) : w.grownBy w row := ⟨rfl, rfl, rfl, Nat.le_refl _, fun _ _ _ => rfl⟩
theorem grown_drewN (w : World) (n : Nat) (row : Option Nat) : w.grownBy (w.drewN n) row := ⟨rfl, rfl, rfl, Nat.le_refl _, fun _ _ _ => rfl⟩
set_option maxRecDepth 100000 in
set_option maxHeartbeats 1000000 in
theorem addTo_any (g o n c : Nat) (L ys : List Nat) (v : Value) (w : World) (hL : Blk w g L) (hn : o + n = L.length) (hnc : n ≤ c) (hc : c ≤ 1099511627776) (hv : Rd w v ys) (hvb : v.ownBlock ≠ some g) (hy : ys.length ≤ n) :
  Calls Tryz.prog 458 #[.slice (some ⟨g, o, none⟩) n c, v] w (AddPost L ys g o w) := by
 have HV := Lib.hid hv
 obtain ⟨ao, cap, rfl, -, hcm, hok, hsh⟩ := hv.2
 have HB := Lib.hid hL
 have HOK := Lib.hid hok
 have hll : o + n ≤ L.length := by omega
 have HLL := Lib.hid hn
 clear hL hok hsh hcm hn
 go_enter Tryz.func458, Tryz.ntmps458
 go_wp2_with fail
 go_loopw [4, 9] (fun cv i wr => ∃ (k cc : Nat) (M : List Nat), k ≤ ys.length ∧ i = .int .i64 (k : Nat) ∧ cv = .int .u64 (cc : Nat) ∧ cc ≤ 1 ∧ Blk wr g M ∧ AddSt L ys o k cc M ∧ w.grownBy wr (some g)) (fun _ i _ => ys.length - (intOf i).toNat)
 case atStart => exact ⟨0, 0, L, Nat.zero_le _, rfl, rfl, Nat.zero_le _, HB.out, AddSt.start L ys o, grown_refl w _⟩
 case round =>
  obtain ⟨k, cc, M, hk, rfl, rfl, hcc, hM, hst, hgr⟩ := hrel
  have HM := Lib.hid hM
  have HST := Lib.hid hst
  have HGR := Lib.hid hgr
  have hml : M.length = L.length := hst.1
  clear hM hst hgr
  by_cases hlt : k < ys.length
  ·obtain ⟨y, hyy⟩ : ∃ y, ys[k]? = some y := ⟨_, List.getElem?_eq_getElem hlt⟩
   obtain ⟨z, hz⟩ : ∃ z, M[o + k]? = some z := ⟨_, List.getElem?_eq_getElem (by omega)⟩
   obtain ⟨s, c', hs1, hs2, hs3, hrun⟩ := add64_ex z y cc (HM.out.2 z (List.mem_of_getElem? hz)) (HOK.out y (List.mem_of_getElem? hyy)) hcc
   obtain ⟨ao', cap', e, -, -, -, hsh⟩ := (HV.out.kept HGR.out (fun q hq => by cases hq; exact hvb)).2
   cases e
   obtain ⟨g2, o2, rfl, e2⟩ := hsh k y hyy
   have e1 := HM.out.cell hz
   have e3 := HM.out.frozen (o + k)
   have HN := Lib.hid (HST.out.step hz (.inl hyy) hs3)
   have HS := Lib.hid (Blk.set (w := wr.drewN 1) HM.out (o + k) hs1)
   have hi0 : (0 : Int) ≤ (k : Int) := Int.natCast_nonneg _
   have hi1 : (k : Int) < (n : Int) := by omega
   have hi2 : (k : Int) < (ys.length : Int) := by omega
   clear hyy hz hsh hs3
   go_wp2_with fail
   go_region_law (fail)
   all_goals
    go_wp2_with fail
    have hfin : ∃ (k' cc' : Nat) (M' : List Nat), k' ≤ ys.length ∧ Value.int .i64 ((k : Int) + 1) = .int .i64 (k' : Nat) ∧ Value.int .u64 (c' : Nat) = .int .u64 (cc' : Nat) ∧ cc' ≤ 1 ∧ Blk ((wr.drewN 1).setCell ⟨g, o + k, none⟩ (.int .u64 (s : Nat))) g M' ∧ AddSt L ys o k' cc' M' ∧ w.grownBy ((wr.drewN 1).setCell ⟨g, o + k, none⟩ (.int .u64 (s : Nat))) (some g) :=
     ⟨k + 1, c', M.set (o + k) s, by omega, by go_num, rfl, hs2, HS.out.1, HN.out, grown_set (grown_set HGR.out (grown_drewN wr 1 _)) HS.out.2⟩
    exact ⟨hfin, by simp [intOf]; omega⟩
  ·obtain rfl : k = ys.length := by omega
   have hyn := hy
   clear hlt hk hy
   go_wp2_with fail
   go_loopw [4, 6] (fun cv i wr => ∃ (k cc : Nat) (M : List Nat), ys.length ≤ k ∧ k ≤ n ∧ i = .int .i64 (k : Nat) ∧ cv = .int .u64 (cc : Nat) ∧ cc ≤ 1 ∧ Blk wr g M ∧ AddSt L ys o k cc M ∧ w.grownBy wr (some g)) (fun _ i _ => n - (intOf i).toNat)
   case atStart => exact ⟨ys.length, cc, M, Nat.le_refl _, hyn, rfl, rfl, hcc, HM.out, HST.out, HGR.out⟩
   clear HM HST HGR hml hcc
   case round =>
    obtain ⟨k, cc, M, hyk, hk, rfl, rfl, hcc, hM, hst, hgr⟩ := hrel
    have HM := Lib.hid hM
    have HST := Lib.hid hst
    have HGR := Lib.hid hgr
    have hml : M.length = L.length := hst.1
    clear hM hst hgr
    by_cases hc0 : cc = 0
    ·subst hc0
     have HD := Lib.hid (HST.out.done_zero (by omega) hyk)
     go_wp2_with fail
     go_end0
     exact ⟨rfl, M, HM.out, HD.out, HGR.out⟩
    ·have hcb : ((cc : Int) != 0) = true := by simp; omega
     by_cases hlt : k < n
     ·obtain ⟨z, hz⟩ : ∃ z, M[o + k]? = some z := ⟨_, List.getElem?_eq_getElem (by omega)⟩
      obtain ⟨s, c', hs1, hs2, hs3, hrun⟩ := add64_ex z 0 cc (HM.out.2 z (List.mem_of_getElem? hz)) BB_pos hcc
      have hrun2 : ∀ w : World, (callFunc 349 #[.int .u64 (z : Nat), .int .u64 0, .int .u64 (cc : Nat)]).run Tryz.prog w = .ok (.value (.tuple #[.int .u64 (s : Nat), .int .u64 (c' : Nat)])) w := hrun
      have e1 := HM.out.cell hz
      have e3 := HM.out.frozen (o + k)
      have HN := Lib.hid (HST.out.step (y := 0) hz (.inr ⟨hyk, rfl⟩) hs3)
      have HS := Lib.hid (HM.out.set (o + k) hs1)
      have hi0 : (0 : Int) ≤ (k : Int) := Int.natCast_nonneg _
      have hi1 : (k : Int) < (n : Int) := by omega
      clear hz hs3 hrun
      go_wp2_with fail
      have hfin : ∃ (k' cc' : Nat) (M' : List Nat), ys.length ≤ k' ∧ k' ≤ n ∧ Value.int .i64 ((k : Int) + 1) = .int .i64 (k' : Nat) ∧ Value.int .u64 (c' : Nat) = .int .u64 (cc' : Nat) ∧ cc' ≤ 1 ∧ Blk (wr.setCell ⟨g, o + k, none⟩ (.int .u64 (s : Nat))) g M' ∧ AddSt L ys o k' cc' M' ∧ w.grownBy (wr.setCell ⟨g, o + k, none⟩ (.int .u64 (s : Nat))) (some g) :=
       ⟨k + 1, c', M.set (o + k) s, by omega, by omega, by go_num, rfl, hs2, HS.out.1, HN.out, grown_set HGR.out HS.out.2⟩
      exact ⟨hfin, by simp [intOf]; omega⟩
     ·have HD := Lib.hid (HST.out.done_all (by have := HLL.out; omega) hyk)
      go_wp2_with fail
      go_end0
      exact ⟨rfl, M, HM.out, HD.out, HGR.out⟩
def SubSt (L ys : List Nat) (i c : Nat) (M : List Nat) : Prop :=
 M.length = L.length ∧ M.drop i = L.drop i ∧ val (M.take i) + val (ys.take i) = val (L.take i) + BB ^ i * c
theorem SubSt.start (L ys : List Nat) : SubSt L ys 0 0 L := ⟨rfl, rfl, by simp [val]⟩
theorem carry_sub {P X Y Z x y c s c' : Nat} (h : Z + Y = X + P * c) (hs : s + y + c = x + BB * c') : (Z + P * s) + (Y + P * y) = (X + P * x) + P * BB * c' := by
 have h1 : P * s + P * y + P * c = P * x + P * (BB * c') := by rw [← Nat.mul_add, ← Nat.mul_add, hs, Nat.mul_add]
 rw [Nat.mul_assoc]
 omega
theorem SubSt.step {L ys M : List Nat} {i c z y s c' : Nat} (h : SubSt L ys i c M) (hz : M[i]? = some z) (hy : (ys[i]? = some y) ∨ (ys.length ≤ i ∧ y = 0)) (hs : s + y + c = z + BB * c') :
  SubSt L ys (i + 1) c' (M.set i s) := by
 obtain ⟨h1, h3, h4⟩ := h
 have hlt : i < M.length := (List.getElem?_eq_some_iff.1 hz).1
 have hLz : L[i]? = some z := by
  have h5 := congrArg (fun l => l[0]?) h3
  simp only [List.getElem?_drop, Nat.add_zero] at h5
  rw [← h5]; exact hz
 have hLl : i < L.length := (List.getElem?_eq_some_iff.1 hLz).1
 refine ⟨by rw [List.length_set, h1], ?_, ?_⟩
 ·rw [set_drop]
  have := congrArg (List.drop 1) h3
  rw [List.drop_drop, List.drop_drop] at this
  exact this
 ·have hmid := set_mid (l := M) (o := 0) (i := i) s (by omega)
  rw [List.drop_zero, List.drop_zero, Nat.zero_add] at hmid
  rw [hmid]
  have e1 : L.take (i + 1) = L.take i ++ [z] := by rw [List.take_add_one, hLz]; rfl
  have e2 : val (ys.take (i + 1)) = val (ys.take i) + BB ^ i * y := by
   rcases hy with hy | ⟨hy, rfl⟩
   ·have hyl : i < ys.length := (List.getElem?_eq_some_iff.1 hy).1
    rw [val_take_succ hyl]
    have : ys[i] = y := by rw [List.getElem?_eq_getElem hyl] at hy; exact Option.some.inj hy
    rw [this]
   ·rw [List.take_of_length_le (by omega), List.take_of_length_le (by omega)]; simp
  rw [e1, e2, val_snoc, val_snoc, List.length_take, List.length_take, Nat.min_eq_left (by omega), Nat.min_eq_left (by omega), Nat.pow_succ]
  exact carry_sub h4 hs
theorem SubSt.done_zero {L ys M : List Nat} {i : Nat} (h : SubSt L ys i 0 M) (hi : i ≤ L.length) (hy : ys.length ≤ i) : M.length = L.length ∧ val M + val ys = val L := by
 obtain ⟨h1, h3, h4⟩ := h
 refine ⟨h1, ?_⟩
 rw [List.take_of_length_le hy] at h4
 have e1 := val_split M i (by omega)
 have e2 := val_split L i hi
 rw [e1, e2, h3]
 simp only [Nat.mul_zero, Nat.add_zero] at h4
 omega
theorem SubSt.done_all {L ys M : List Nat} {c : Nat} (h : SubSt L ys L.length c M) (hM : ok M) (hy : ys.length ≤ L.length) (hle : val ys ≤ val L) : M.length = L.length ∧ val M + val ys = val L := by
 obtain ⟨h1, h3, h4⟩ := h
 refine ⟨h1, ?_⟩
 rw [List.take_of_length_le hy, List.take_of_length_le (by omega), List.take_length] at h4
 have h5 := val_lt hM
 rw [h1] at h5
 cases c with
 | zero => simpa using h4
 | succ c =>
  rw [Nat.mul_succ] at h4
  omega
def SubPost (L ys : List Nat) (g : Nat) (w : World) (e : Ending) (w' : World) : Prop := e = .returned (.tuple #[]) ∧ ∃ M, Blk w' g M ∧ M.length = L.length ∧ val M + val ys = val L ∧ w.grownBy w' (some g)
set_option maxRecDepth 100000 in
set_option maxHeartbeats 1000000 in
theorem subFrom_any (g n c : Nat) (L ys : List Nat) (v : Value) (w : World) (hL : Blk w g L) (hn : n = L.length) (hnc : n ≤ c) (hc : c ≤ 1099511627776) (hv : Rd w v ys) (hvb : v.ownBlock ≠ some g) (hy : ys.length ≤ n) (hle : val ys ≤ val L) :
  Calls Tryz.prog 532 #[.slice (some ⟨g, 0, none⟩) n c, v] w (SubPost L ys g w) := by
 have HV := Lib.hid hv
 obtain ⟨ao, cap, rfl, -, hcm, hok, hsh⟩ := hv.2
 have HB := Lib.hid hL
 have HOK := Lib.hid hok
 have HLE := Lib.hid hle
 have hll : n ≤ L.length := by omega
 have HLL := Lib.hid hn
 clear hL hok hsh hcm hn hle
 go_enter Tryz.func532, Tryz.ntmps532
 go_wp2_with fail
 go_loopw [4, 9] (fun cv i wr => ∃ (k cc : Nat) (M : List Nat), k ≤ n ∧ i = .int .i64 (k : Nat) ∧ cv = .int .u64 (cc : Nat) ∧ cc ≤ 1 ∧ Blk wr g M ∧ SubSt L ys k cc M ∧ w.grownBy wr (some g)) (fun _ i _ => n - (intOf i).toNat)
 case atStart => exact ⟨0, 0, L, Nat.zero_le _, rfl, rfl, Nat.zero_le _, HB.out, SubSt.start L ys, grown_refl w _⟩
 case round =>
  obtain ⟨k, cc, M, hk, rfl, rfl, hcc, hM, hst, hgr⟩ := hrel
  have HM := Lib.hid hM
  have HST := Lib.hid hst
  have HGR := Lib.hid hgr
  have hml : M.length = L.length := hst.1
  clear hM hst hgr
  by_cases hlt : k < n
  ·obtain ⟨z, hz⟩ : ∃ z, M[k]? = some z := ⟨_, List.getElem?_eq_getElem (by omega)⟩
   have e1 := HM.out.cell hz
   have e3 := HM.out.frozen k
   have hi0 : (0 : Int) ≤ (k : Int) := Int.natCast_nonneg _
   have hi1 : (k : Int) < (n : Int) := by omega
   by_cases hky : k < ys.length
   ·obtain ⟨y, hyy⟩ : ∃ y, ys[k]? = some y := ⟨_, List.getElem?_eq_getElem hky⟩
    obtain ⟨s, c', hs1, hs2, hs3, hrun⟩ := sub64_ex z y cc (HM.out.2 z (List.mem_of_getElem? hz)) (HOK.out y (List.mem_of_getElem? hyy)) hcc
    obtain ⟨ao', cap', e, -, -, -, hsh⟩ := (HV.out.kept HGR.out (fun q hq => by cases hq; exact hvb)).2
    cases e
    obtain ⟨g2, o2, rfl, e2⟩ := hsh k y hyy
    have HN := Lib.hid (HST.out.step hz (.inl hyy) hs3)
    have HS := Lib.hid (HM.out.set k hs1)
    clear hyy hz hsh hs3
    go_wp2_with fail
    have hfin : ∃ (k' cc' : Nat) (M' : List Nat), k' ≤ n ∧ Value.int .i64 ((k : Int) + 1) = .int .i64 (k' : Nat) ∧ Value.int .u64 (c' : Nat) = .int .u64 (cc' : Nat) ∧ cc' ≤ 1 ∧ Blk (wr.setCell ⟨g, k, none⟩ (.int .u64 (s : Nat))) g M' ∧ SubSt L ys k' cc' M' ∧ w.grownBy (wr.setCell ⟨g, k, none⟩ (.int .u64 (s : Nat))) (some g) :=
     ⟨k + 1, c', M.set k s, by omega, by go_num, rfl, hs2, HS.out.1, HN.out, grown_set HGR.out HS.out.2⟩
    exact ⟨hfin, by simp [intOf]; omega⟩
   ·by_cases hc0 : cc = 0
    ·subst hc0
     have HD := Lib.hid (HST.out.done_zero (by omega) (by omega))
     clear hz
     go_wp2_with fail
     refine bodyPost_ret (results_none rfl _ _ _) rfl ?_
     exact ⟨rfl, M, HM.out, HD.out.1, HD.out.2, HGR.out⟩
    ·have hcb : ((cc : Int) == 0) = false := by simp; omega
     obtain ⟨s, c', hs1, hs2, hs3, hrun⟩ := sub64_ex z 0 cc (HM.out.2 z (List.mem_of_getElem? hz)) BB_pos hcc
     have hrun2 : ∀ w : World, (callFunc 350 #[.int .u64 (z : Nat), .int .u64 0, .int .u64 (cc : Nat)]).run Tryz.prog w = .ok (.value (.tuple #[.int .u64 (s : Nat), .int .u64 (c' : Nat)])) w := hrun
     have HN := Lib.hid (HST.out.step (y := 0) hz (.inr ⟨by omega, rfl⟩) hs3)
     have HS := Lib.hid (HM.out.set k hs1)
     clear hz hs3 hrun
     go_wp2_with fail
     have hfin : ∃ (k' cc' : Nat) (M' : List Nat), k' ≤ n ∧ Value.int .i64 ((k : Int) + 1) = .int .i64 (k' : Nat) ∧ Value.int .u64 (c' : Nat) = .int .u64 (cc' : Nat) ∧ cc' ≤ 1 ∧ Blk (wr.setCell ⟨g, k, none⟩ (.int .u64 (s : Nat))) g M' ∧ SubSt L ys k' cc' M' ∧ w.grownBy (wr.setCell ⟨g, k, none⟩ (.int .u64 (s : Nat))) (some g) :=
      ⟨k + 1, c', M.set k s, by omega, by go_num, rfl, hs2, HS.out.1, HN.out, grown_set HGR.out HS.out.2⟩
     exact ⟨hfin, by simp [intOf]; omega⟩
  ·obtain rfl : k = n := by omega
   have HD : Hid (M.length = L.length ∧ val M + val ys = val L) := SubSt.done_all (by rw [← HLL.out]; exact HST.out) HM.out.2 (by omega) HLE.out
   go_wp2_with fail
   go_end0
   exact ⟨rfl, M, HM.out, HD.out.1, HD.out.2, HGR.out⟩
end Go.Proofs.YtceggplnggkdnaaGreatDoor
namespace Go.Proofs.YtceggplnggkdnaaGreatDoor
open Go.RowKit NatP
def MulPost (hi lo : Nat) (w : World) (e : Ending) (w' : World) : Prop := e = .returned (.tuple #[.int .u64 (hi : Nat), .int .u64 (lo : Nat)]) ∧ w = w'
theorem mul64_ex (x y : Nat) (hx : x < BB) (hy : y < BB) : ∃ hi lo : Nat, lo < BB ∧ hi * BB + lo = x * y ∧ ∀ w : World, Calls Tryz.prog 530 #[.int .u64 (x : Nat), .int .u64 (y : Nat)] w (MulPost hi lo w) := by
 unfold BB at *
 refine ⟨x * y / 18446744073709551616, x * y % 18446744073709551616, by omega, by omega, fun w => ?_⟩
 refine (Tryz.bits_Mul64 x y hx hy w).mono fun e w' ⟨h1, h2⟩ => ⟨h1, h2.symm⟩
def RowPost (xs ys : List Nat) (g : Nat) (w : World) (e : Ending) (w' : World) : Prop := e = .returned (.tuple #[]) ∧ ∃ M, Blk w' g M ∧ M.length = xs.length + ys.length ∧ val M = val xs * val ys ∧ w.grownBy w' (some g)
set_option maxRecDepth 100000 in
set_option maxHeartbeats 2000000 in
theorem rows_any (g n : Nat) (xs ys : List Nat) (v u : Value) (w : World) (hL : Blk w g (List.replicate n 0)) (hn : n = xs.length + ys.length) (hc : n ≤ 1099511627776)
  (hv : Rd w v xs) (hvb : v.ownBlock ≠ some g) (hu : Rd w u ys) (hub : u.ownBlock ≠ some g) :
  Calls Tryz.prog 457 #[.slice (some ⟨g, 0, none⟩) n n, v, u] w (RowPost xs ys g w) := by
 have HV := Lib.hid hv
 have HU := Lib.hid hu
 obtain ⟨ao, cap, rfl, -, -, hok, -⟩ := hv.2
 obtain ⟨bo, cap2, rfl, -, -, hok2, -⟩ := hu.2
 have HOK := Lib.hid hok
 have HOK2 := Lib.hid hok2
 have HST0 := Lib.hid (OutSt.start xs ys)
 rw [← hn] at HST0
 have HB := Lib.hid hL
 have hll : xs.length + ys.length ≤ n := by omega
 have hll2 : n ≤ xs.length + ys.length := by omega
 clear hL hok hok2 hn
 go_enter Tryz.func457, Tryz.ntmps457
 go_wp2_with fail
 go_loopw [16] (fun i wr => ∃ (k : Nat) (M : List Nat), k ≤ xs.length ∧ i = .int .i64 (k : Nat) ∧ Blk wr g M ∧ OutSt xs ys k M ∧ w.grownBy wr (some g)) (fun i _ => xs.length - (intOf i).toNat)
 case atStart => exact ⟨0, _, Nat.zero_le _, rfl, HB.out, HST0.out, grown_refl w _⟩
 clear HST0
 case round =>
  obtain ⟨k, M, hk, rfl, hM, hst, hgr⟩ := hrel
  have HM := Lib.hid hM
  have HST := Lib.hid hst
  have HGR := Lib.hid hgr
  have hml : M.length = xs.length + ys.length := hst.1
  clear hM hst hgr
  by_cases hlt : k < xs.length
  ·obtain ⟨x, hx⟩ : ∃ x, xs[k]? = some x := ⟨_, List.getElem?_eq_getElem hlt⟩
   have hxb := HOK.out x (List.mem_of_getElem? hx)
   obtain ⟨ao', cap', e, -, -, -, hsh⟩ := (HV.out.kept HGR.out (fun q hq => by cases hq; exact hvb)).2
   cases e
   obtain ⟨g2, o2, rfl, e2⟩ := hsh k x hx
   have HX := Lib.hid hx
   have HXB := Lib.hid hxb
   clear hsh hx hxb
   by_cases hx0 : x = 0
   ·subst hx0
    have HN := Lib.hid (HST.out.zero HX.out)
    go_wp2_with fail
    have hfin : ∃ (k' : Nat) (M' : List Nat), k' ≤ xs.length ∧ Value.int .i64 ((k : Int) + 1) = .int .i64 (k' : Nat) ∧ Blk wr g M' ∧ OutSt xs ys k' M' ∧ w.grownBy wr (some g) := ⟨k + 1, M, by omega, by go_num, HM.out, HN.out, HGR.out⟩
    exact ⟨hfin, by simp [intOf]; omega⟩
   ·have hxn : ((x : Int) == 0) = false := by simp [hx0]
    clear hx0
    go_wp2_with fail
    go_loopw [8, 25] (fun cv j w2 => ∃ (q cc : Nat) (M' : List Nat), q ≤ ys.length ∧ j = .int .i64 (q : Nat) ∧ cv = .int .u64 (cc : Nat) ∧ Hid (cc < BB) ∧ Blk w2 g M' ∧ InSt M ys k x q cc M' ∧ w.grownBy w2 (some g)) (fun _ j _ => ys.length - (intOf j).toNat)
    case atStart => exact ⟨0, 0, M, Nat.zero_le _, rfl, rfl, BB_pos, HM.out, InSt.start M ys k x, HGR.out⟩
    clear HM HGR e2
    case round =>
     rename_i w2 _
     obtain ⟨q, cc, M', hq, rfl, rfl, hcc, hM, hst, hgr⟩ := hrel
     have HM := Lib.hid hM
     have HIN := Lib.hid hst
     have HGR := Lib.hid hgr
     have hml' : M'.length = M.length := hst.1
     clear hM hst hgr
     by_cases hqt : q < ys.length
     ·obtain ⟨y, hy⟩ : ∃ y, ys[q]? = some y := ⟨_, List.getElem?_eq_getElem hqt⟩
      obtain ⟨z, hz⟩ : ∃ z, M'[k + q]? = some z := ⟨_, List.getElem?_eq_getElem (by omega)⟩
      have hyb := HOK2.out y (List.mem_of_getElem? hy)
      have hzb := HM.out.2 z (List.mem_of_getElem? hz)
      obtain ⟨hi, lo, hlo, hp, hmul⟩ := mul64_ex x y HXB.out hyb
      obtain ⟨s1, c1, hs1, hc1, h1, hr1⟩ := add64_ex lo cc 0 hlo hcc.out (Nat.zero_le _)
      obtain ⟨h2, hh2⟩ : ∃ h2, h2 = hi + c1 := ⟨_, rfl⟩
      obtain ⟨s2, c2, hs2, hc2, h4, hr2⟩ := add64_ex z s1 0 hzb hs1 (Nat.zero_le _)
      obtain ⟨c3, hc3⟩ : ∃ c3, c3 = h2 + c2 := ⟨_, rfl⟩
      rw [Nat.add_zero] at h1 h4
      obtain ⟨f1, f2, f3⟩ := row_words HXB.out hyb hzb hcc.out hp h1 hh2 h4
      rw [← hc3] at f2 f3
      have HN := Lib.hid (HIN.out.step hz hy f2)
      have HF3 := Lib.hid f3
      have HS := Lib.hid (HM.out.set (k + q) hs2)
      obtain ⟨bo', cap3, e, -, -, -, hsh⟩ := (HU.out.kept HGR.out (fun q hq => by cases hq; exact hub)).2
      cases e
      obtain ⟨g3, o3, rfl, e2⟩ := hsh q y hy
      have e1 := HM.out.cell hz
      have e3 := HM.out.frozen (k + q)
      have HMUL := Lib.hid hmul
      have hr1' : ∀ w : World, (callFunc 349 #[.int .u64 (lo : Nat), .int .u64 (cc : Nat), .int .u64 0]).run Tryz.prog w = .ok (.value (.tuple #[.int .u64 (s1 : Nat), .int .u64 (c1 : Nat)])) w := hr1
      have hr2' : ∀ w : World, (callFunc 349 #[.int .u64 (z : Nat), .int .u64 (s1 : Nat), .int .u64 0]).run Tryz.prog w = .ok (.value (.tuple #[.int .u64 (s2 : Nat), .int .u64 (c2 : Nat)])) w := hr2
      have hw1 : IntKind.u64.wrap ((hi : Int) + (c1 : Int)) = (h2 : Int) := by unfold BB at f1; rw [IntKind.wrap_u64]; omega
      have hw2 : IntKind.u64.wrap ((h2 : Int) + (c2 : Int)) = (c3 : Int) := by unfold BB at f3; rw [IntKind.wrap_u64]; omega
      have HW1 := Lib.hid hw1
      have HW2 := Lib.hid hw2
      clear hsh hy hz hyb hzb hmul hp h1 h4 hh2 hc3 f1 f2 f3 hlo hs1 hs2 hr1 hr2 hw1 hw2
      go_wp2_with fail
      refine (HMUL.out _).mono ?_
      rintro e w' ⟨rfl, rfl⟩
      have hw1 := HW1.out
      have hw2 := HW2.out
      go_wp2_with fail
      exact ⟨⟨q + 1, c3, M'.set (k + q) s2, by omega, by go_num, rfl, HF3.out, HS.out.1, HN.out, grown_set HGR.out HS.out.2⟩, by simp [intOf]; omega⟩
     ·obtain rfl : q = ys.length := by omega
      obtain ⟨hn1, hn2⟩ := HST.out.row HX.out HIN.out
      have HN := Lib.hid hn1
      have HS := Lib.hid (HM.out.set (k + ys.length) hcc.out)
      have e1 := HM.out.cell hn2
      have e3 := HM.out.frozen (k + ys.length)
      clear hn1 hn2 hcc
      go_wp2_with fail
      have hfin : ∃ (k' : Nat) (M2 : List Nat), k' ≤ xs.length ∧ Value.int .i64 ((k : Int) + 1) = .int .i64 (k' : Nat) ∧ Blk (wr.setCell ⟨g, k + ys.length, none⟩ (.int .u64 (cc : Nat))) g M2 ∧ OutSt xs ys k' M2 ∧ w.grownBy (wr.setCell ⟨g, k + ys.length, none⟩ (.int .u64 (cc : Nat))) (some g) := ⟨k + 1, _, by omega, by go_num, HS.out.1, HN.out, grown_set HGR.out HS.out.2⟩
      exact ⟨hfin, by simp [intOf]; omega⟩
  ·obtain rfl : k = xs.length := by omega
   have HD := Lib.hid HST.out.done
   go_wp2_with fail
   go_end0
   exact ⟨rfl, M, HM.out, HD.out.1, HD.out.2, HGR.out⟩
theorem copy_src (w : World) (o : Obj) {ao : Option Addr} {xs : List Nat} (hsh : ∀ i x, xs[i]? = some x → ∃ g o, ao = some ⟨g, o, none⟩ ∧ w.cell? ⟨g, o + i, none⟩ = some (.int .u64 (x : Nat))) (h0 : 0 < xs.length) :
  ∃ ad, ao = some ad ∧ ∀ (j : Nat) (v : Value), (ws xs)[j]? = some v → (w.alloc o).cell? (ad.add j) = some v := by
 obtain ⟨g, of, rfl, _⟩ := hsh 0 xs[0] (List.getElem?_eq_getElem h0)
 refine ⟨_, rfl, fun j u hu => ?_⟩
 simp only [ws, List.getElem?_map, Option.map_eq_some_iff] at hu
 obtain ⟨x, hx, rfl⟩ := hu
 obtain ⟨g', o', e, hc⟩ := hsh j x hx
 cases e
 have hlt := World.block_lt_of_cell? w _ hc
 have e2 : (⟨g, of, none⟩ : Addr).add j = ⟨g, of + j, none⟩ := by unfold Addr.add; split <;> simp_all
 rw [e2, (below_alloc w o).cell (p := ⟨g, of + j, none⟩) hlt]; exact hc
theorem sum_fin {m : Nat} {xs ys : List Nat} (hx : ok xs) (hy : ok ys) (h1 : xs.length ≤ m) (h2 : ys.length ≤ m) : ∀ M, ok M → Added (xs ++ List.replicate (m + 1 - xs.length) 0) ys 0 M → M.length = m + 1 ∧ val M = val xs + val ys := by
 intro M hM ⟨a1, _, c, a3⟩
 have hl : (xs ++ List.replicate (m + 1 - xs.length) 0).length = m + 1 := by rw [List.length_append, List.length_replicate]; omega
 rw [List.drop_zero, List.drop_zero, hl, val_append, val_replicate, Nat.mul_zero, Nat.add_zero] at a3
 refine ⟨by rw [a1, hl], ?_⟩
 have b1 := val_lt hx
 have b2 := val_lt hy
 exact (no_carry a3 (two_below (Nat.lt_of_lt_of_le b1 (Nat.pow_le_pow_right BB_pos h1)) (Nat.lt_of_lt_of_le b2 (Nat.pow_le_pow_right BB_pos h2)))).2
def SumPost (xs ys : List Nat) (w : World) (e : Ending) (w' : World) : Prop := ∃ g M, e = .returned (.slice (some ⟨g, 0, none⟩) M.length M.length) ∧ w.heap.size ≤ g ∧ Blk w' g M ∧ M.length = max xs.length ys.length + 1 ∧ val M = val xs + val ys ∧ Below w.heap.size w w'
set_option maxRecDepth 100000 in
set_option maxHeartbeats 1000000 in
theorem sum_any (v u : Value) (xs ys : List Nat) (w : World) (hv : Rd w v xs) (hu : Rd w u ys) (hx : xs.length ≤ 549755813888) (hy : ys.length ≤ 549755813888) :
  Calls Tryz.prog 531 #[v, u] w (SumPost xs ys w) := by
 have HV := Lib.hid hv
 have HU := Lib.hid hu
 obtain ⟨ao, cap, rfl, -, -, hok, hsh⟩ := hv.2
 obtain ⟨bo, cap2, rfl, -, -, hok2, -⟩ := hu.2
 have HOK := Lib.hid hok
 have HSH := Lib.hid hsh
 obtain ⟨m, hm⟩ : ∃ m, m = max xs.length ys.length := ⟨_, rfl⟩
 have hm1 : xs.length ≤ m := by omega
 have hm2 : ys.length ≤ m := by omega
 have hm3 : m ≤ 549755813888 := by omega
 have HMK : ∀ w : World, (Instr.makeSlice 111 (.int .i64 ((m : Int) + 1)) (.int .i64 ((m : Int) + 1))).run Tryz.prog w = .ok (.slice (some ⟨w.heap.size, 0, none⟩) (m + 1) (m + 1)) (w.alloc (.cells (madeCells #[.int .u64 0] (m + 1)) 215)) := make_words (m + 1) (by omega)
 have hmx : max (xs.length : Int) (ys.length : Int) = (m : Int) := by omega
 have HM := Lib.hid hm
 have HB := Lib.hid (Blk.made w (m + 1)).1
 have HBL := Lib.hid (below_alloc w (.cells (madeCells #[.int .u64 0] (m + 1)) 215))
 have HCL := Lib.hid (ws_length xs)
 have HMIN : Hid (Nat.min xs.length (m + 1) = xs.length) := Nat.min_eq_left (by omega)
 have HPOS := Lib.hid (copy_src w (.cells (madeCells #[.int .u64 0] (m + 1)) 215) HSH.out)
 have HFIT : Hid (0 + (ws xs).length ≤ (ws (List.replicate (m + 1) 0)).length) := by
  show _ ≤ _
  rw [ws_length, ws_length, List.length_replicate]; omega
 have HFIN := Lib.hid (sum_fin (m := m) hok hok2 hm1 hm2)
 clear hok hok2 hsh hm
 go_enter Tryz.func531, Tryz.ntmps531
 go_wp2_with ((with_reducible refine wpList_copy_splice (o := ⟨some 15, _, _, _, _, _⟩) rfl (.tmp 13) (.tmp 14) 111 111 rfl 215 Tryz.underlying111 Tryz.infoW1 (some ⟨w.heap.size, 0, none⟩) ao (m + 1) (m + 1) xs.length cap rfl rfl w.heap.size 0 (ws (List.replicate (m + 1) 0)) 215 HB.out (ws xs) (by rw [HCL.out, HMIN.out]) (fun h => ⟨rfl, HPOS.out (by rw [← HCL.out]; exact h)⟩) HFIT.out (ws_one _) w.heap.size w HBL.out (Nat.le_refl _) ?_); intro w2 hg2 hb2)
 have HF : Hid (Blk w2 w.heap.size (xs ++ List.replicate (m + 1 - xs.length) 0)) := by
  refine ⟨?_, ok_append HOK.out (ok_replicate _)⟩
  have h1 := hg2.out
  rw [h1]
  congr 2
  simp only [splice, List.take_zero, List.nil_append, Nat.zero_add]
  rw [HCL.out]
  simp [ws]
 have HB2 := Lib.hid hb2
 have HU2 := Lib.hid (HU.out.below hb2)
 have hbo := HU.out.ne (Nat.le_refl w.heap.size)
 clear hg2 hb2
 go_wp2_with fail
 refine (addTo_any w.heap.size 0 (m + 1) (m + 1) (xs ++ List.replicate (m + 1 - xs.length) 0) ys _ _ HF.out (by rw [List.length_append, List.length_replicate]; omega) (Nat.le_refl _) (by omega) HU2.out hbo (by omega)).mono ?_
 rintro e w3 ⟨rfl, M, hM, hadd, hgr⟩
 obtain ⟨hl, hval⟩ := HFIN.out M hM.2 hadd
 have HM3 := Lib.hid hM
 have HL := Lib.hid hl
 have HV3 := Lib.hid hval
 have HB3 : Hid (Below w.heap.size w w3) := Below.grown HB2.out hgr HB2.out.size (fun k hk => by cases hk; exact Nat.le_refl _)
 clear hM hadd hgr hl hval
 go_wp2_with fail
 go_ret
 exact ⟨w.heap.size, M, by rw [HL.out] <;> rfl, Nat.le_refl _, HM3.out, by rw [HL.out, HM.out], HV3.out, HB3.out⟩
end Go.Proofs.YtceggplnggkdnaaGreatDoor
namespace Go.Proofs.YtceggplnggkdnaaGreatDoor
open Go.RowKit NatP
theorem Rd.drop {w : World} {g o len cap n : Nat} {xs : List Nat} (h : Rd w (.slice (some ⟨g, o, none⟩) len cap) xs) (hn : n ≤ xs.length) : Rd w (.slice (some ⟨g, o + n, none⟩) (xs.length - n) (cap - n)) (xs.drop n) := by
 obtain ⟨h0, ao', cap', e, h1, h2, h3, h4⟩ := h
 simp only [Value.slice.injEq] at e
 obtain ⟨rfl, rfl, rfl⟩ := e
 refine ⟨fun k hk => h0 k hk, _, _, by rw [List.length_drop], by rw [List.length_drop]; omega, by omega, ok_drop h3 _, fun i x hx => ⟨g, o + n, rfl, ?_⟩⟩
 rw [List.getElem?_drop] at hx
 obtain ⟨g', o', e, hc⟩ := h4 (n + i) x hx
 cases e
 rw [Nat.add_assoc]; exact hc
theorem Rd.none' {w : World} {g o c : Nat} (hg : g < w.heap.size) (hc : c ≤ maxLen) : Rd w (.slice (some ⟨g, o, none⟩) 0 c) [] :=
 ⟨fun k hk => by cases hk; exact hg, _, c, rfl, Nat.zero_le _, hc, ok_nil, fun i x h => by simp at h⟩
theorem Rd.ok {w : World} {v : Value} {xs : List Nat} (h : Rd w v xs) : ok xs := by obtain ⟨_, _, _, _, _, _, h3, _⟩ := h; exact h3
theorem gb_step {w0 w w' : World} {g k : Nat} (h : w0.grownBy w (some g)) (hg : w.grownBy w' (some k)) (hk : k = g ∨ w0.heap.size ≤ k) : w0.grownBy w' (some g) := by
 refine ⟨hg.os.trans h.os, hg.tape.trans h.tape, hg.output.trans h.output, Nat.le_trans h.size hg.size, fun q hq hn => (hg.block q (Nat.lt_of_lt_of_le hq h.size) ?_).trans (h.block q hq hn)⟩
 rcases hk with rfl | hk
 ·exact hn
 ·intro e; cases e; omega
theorem gb_below {w0 w w' : World} {g : Nat} (h : w0.grownBy w (some g)) (hb : Below w.heap.size w w') : w0.grownBy w' (some g) :=
 ⟨hb.os.trans h.os, hb.tape.trans h.tape, hb.output.trans h.output, Nat.le_trans h.size hb.size, fun q hq hn => (hb.block q (Nat.lt_of_lt_of_le hq h.size)).trans (h.block q hq hn)⟩
def ProdPost (xs ys : List Nat) (w : World) (e : Ending) (w' : World) : Prop := ∃ g M, e = .returned (.slice (some ⟨g, 0, none⟩) M.length M.length) ∧ w.heap.size ≤ g ∧ Blk w' g M ∧ M.length = (strip xs).length + (strip ys).length ∧ val M = val xs * val ys ∧ Below w.heap.size w w'
def ProdOk (n : Nat) : Prop := ∀ (xs ys : List Nat) (v u : Value) (w : World), xs.length + ys.length < n → Rd w v xs → Rd w u ys → Calls Tryz.prog 352 #[v, u] w (ProdPost xs ys w)
theorem Blk.whole {w : World} {g : Nat} {L : List Nat} (h : Blk w g L) (hc : L.length ≤ 1099511627776) : Rd w (.slice (some ⟨g, 0, none⟩) L.length L.length) L := by
 have := h.rd (o := 0) (n := L.length) (c := L.length) (by omega) (Nat.le_refl _) (by unfold maxLen; omega)
 rw [List.drop_zero, List.take_length] at this
 exact this
theorem below_drewN' (w : World) (n : Nat) : Below w.heap.size w (w.drewN n) := ⟨rfl, rfl, rfl, Nat.le_refl _, fun _ _ => rfl⟩
theorem wpList_copy_blk {P : Program} {w : World} {ops : Array Oper} {rest : List Oper} {o : Oper} {a : Act} {Q : Exit → Act → World → Prop} (hgd : o.guard = none) (d s : Operand) (dT sT : TypeId)
  (ho : o.op = .call { callee := .builtin .copy, args := #[d, s], argTypes := #[dT, sT] }) (hu : P.underlying dT = some (.slice 215)) (hsz : (P.info? 215).map (·.size) = some 1)
  (g n c sCap : Nat) (sp : Option Addr) (L cs : List Nat) (hd : a.eval d = .slice (some ⟨g, 0, none⟩) n c) (hs : a.eval s = .slice sp cs.length sCap) (hB : Blk w g L) (hR : Rd w (.slice sp cs.length sCap) cs) (hn : cs.length ≤ n) (hnL : n ≤ L.length)
  (h : ∀ w', Hid (Blk w' g (cs ++ L.drop cs.length)) → Hid (w.grownBy w' (some g)) → wpList P ops Q rest (a.put o.dst (goInt cs.length)) w') : wpList P ops Q (o :: rest) a w := by
 by_cases h0 : cs.length = 0
 ·obtain rfl : cs = [] := List.eq_nil_of_length_eq_zero h0
  refine wpList_copy_nothing hgd d s dT sT ho 215 hu hsz (some ⟨g, 0, none⟩) sp n c 0 sCap hd hs (Nat.min_eq_left (Nat.zero_le _)) ?_
  exact h w (show Blk _ _ _ by simpa using hB) (grown_refl w _)
 ·obtain ⟨_, ao', cap', e, h1, h2, h3, h4⟩ := hR
  simp only [Value.slice.injEq] at e
  obtain ⟨rfl, -, rfl⟩ := e
  obtain ⟨gs, os, rfl, _⟩ := h4 0 cs[0] (List.getElem?_eq_getElem (by omega))
  have hw : Blk (w.setRow g ((ws L).toArray.toList.take 0 ++ (ws cs ++ (ws L).toArray.toList.drop (0 + (ws cs).length))).toArray) g (cs ++ L.drop cs.length) := by
   refine ⟨?_, ok_append h3 (ok_drop hB.2 _)⟩
   rw [setRow_heap w g _ _ 215 _ hB.1]
   simp [ws]
  refine wpList_copy_own hgd d s dT sT ho 215 hu hsz g 0 n c ⟨gs, os, none⟩ cs.length sCap hd hs (ws L).toArray 215 hB.1 (ws cs) (by rw [ws_length]; exact (Nat.min_eq_left hn).symm) ?_ (by simp [ws]; omega) (ws_one _) ?_
  ·intro j v hv
   simp only [ws, List.getElem?_map, Option.map_eq_some_iff] at hv
   obtain ⟨x, hx, rfl⟩ := hv
   obtain ⟨g', o', e, hc⟩ := h4 j x hx
   cases e
   have e2 : (⟨gs, os, none⟩ : Addr).add j = ⟨gs, os + j, none⟩ := by unfold Addr.add; split <;> simp_all
   rw [e2]; exact hc
  ·rw [ws_length]
   rw [ws_length] at hw
   refine h _ hw ?_
   exact ⟨rfl, rfl, rfl, by simp [World.setRow], fun k _ hk => setRow_other w g k _ (fun e => hk (by rw [e]))⟩
theorem mtrim_any' (ao : Option Addr) (n cap : Nat) (xs : List Nat) (w : World) (hr : Rd w (.slice ao n cap) xs) :
  Calls Tryz.prog 456 #[.slice ao n cap] w fun e w' => e = .returned (.slice ao (strip xs).length (strip xs).length) ∧ w = w' := by
 have h := hr
 obtain ⟨_, ao', cap', e, -⟩ := h
 simp only [Value.slice.injEq] at e
 obtain ⟨rfl, rfl, rfl⟩ := e
 exact mtrim_any _ _ _ _ hr
theorem trim_rd' {ao : Option Addr} {n cap : Nat} {xs : List Nat} {w : World} (hr : Rd w (.slice ao n cap) xs) : Rd w (.slice ao (strip xs).length (strip xs).length) (strip xs) := by
 have h := hr
 obtain ⟨_, ao', cap', e, -⟩ := h
 simp only [Value.slice.injEq] at e
 obtain ⟨rfl, rfl, rfl⟩ := e
 exact trim_rd hr
set_option maxRecDepth 100000 in
set_option maxHeartbeats 4000000 in
theorem halves_any (g ga oa gb ob hf : Nat) (xs ys : List Nat) (w : World) (IH : ProdOk (xs.length + ys.length)) (hL : Blk w g (List.replicate (xs.length + ys.length) 0)) (hN : xs.length + ys.length ≤ 274877906944)
  (ha : Rd w (.slice (some ⟨ga, oa, none⟩) xs.length xs.length) xs) (hb : Rd w (.slice (some ⟨gb, ob, none⟩) ys.length ys.length) ys) (hga : ga ≠ g) (hgb : gb ≠ g) (hh : hf = (xs.length + 1) / 2) (hxy : ys.length ≤ xs.length) (h24 : 24 ≤ ys.length) (h2 : xs.length < 2 * ys.length) :
  Calls Tryz.prog 459 #[.slice (some ⟨g, 0, none⟩) (xs.length + ys.length) (xs.length + ys.length), .slice (some ⟨ga, oa, none⟩) xs.length xs.length, .slice (some ⟨gb, ob, none⟩) ys.length ys.length] w (RowPost xs ys g w) := by
 have hx1 : hf < xs.length := by omega
 have hy1 : hf ≤ ys.length := by omega
 have HH := Lib.hid (Half.mk ha.ok hb.ok (by omega) hy1)
 have HI := Lib.hid IH
 have HZ := Lib.hid hL
 have HA0 := Lib.hid (ha.take (n := hf) (c := hf) (by omega) (Nat.le_refl _) (by omega))
 have HA1 := Lib.hid (ha.drop (n := hf) (by omega))
 have HB0 := Lib.hid (hb.take (n := hf) (c := hf) hy1 (Nat.le_refl _) hy1)
 have hgbl := hb.lt (k := gb) rfl
 have hdiv : ((xs.length : Int) + 1) / 2 = (hf : Int) := by omega
 have HB1a := Lib.hid (hb.drop (n := hf) (by omega))
 clear ha hb hL IH hh
 by_cases hyh : hf < ys.length
 case' pos =>
  have HB1 := HB1a
  clear HB1a
 case' neg =>
  have hy2 : ys.length ≤ hf := by omega
  have HB1 : Hid (Rd w (.slice (some ⟨gb, ob, none⟩) 0 0) (ys.drop hf)) := by
   show Rd _ _ _
   rw [List.drop_eq_nil_of_le hy2]; exact Rd.none' hgbl (by unfold maxLen; omega)
  clear HB1a hyh
 all_goals
  go_enter Tryz.func459, Tryz.ntmps459
  go_wp2_with fail
  go_quiet (fail)
  go_wp2_with fail
  go_quiet (fail)
  go_wp2_with fail
  refine (HI.out _ _ _ _ _ (by rw [List.length_take, List.length_take]; omega) (HA0.out.drewN _) (HB0.out.drewN _)).mono ?_
  rintro e w1 ⟨g1, L1, rfl, hg1, hB1, hl1, hv1, hbel1⟩
  have C1 : Below w.heap.size w w1 := (below_drewN' w _).trans hbel1
  have hq1 : w.heap.size ≤ g1 := hg1
  have hs1 := hB1.lt
  have hz1 := C1.size
  have hll1 : L1.length ≤ 274877906944 := by have q1 := strip_le (xs.take hf); have q2 := strip_le (ys.take hf); rw [List.length_take] at q1 q2; omega
  have R1 := Lib.hid (hB1.whole (by omega))
  have K1 := Lib.hid C1
  have V1 := Lib.hid hv1
  clear hbel1 hB1 hl1 hv1 C1 hg1
  go_wp2_with fail
  refine (mtrim_any _ _ L1 _ R1.out).mono ?_
  rintro e w' ⟨rfl, rfl⟩
  have T1 := Lib.hid (trim_rd R1.out)
  go_wp2_with fail
  refine (HI.out _ _ _ _ _ (by rw [List.length_drop, List.length_drop]; omega) (HA1.out.below K1.out) (HB1.out.below K1.out)).mono ?_
  rintro e w2 ⟨g2, L2, rfl, hg2, hB2, hl2, hv2, hbel2⟩
  have hs2 := hB2.lt
  have hz2 := hbel2.size
  have hll2 : L2.length ≤ 274877906944 := by have q1 := strip_le (xs.drop hf); have q2 := strip_le (ys.drop hf); rw [List.length_drop] at q1 q2; omega
  have R2 := Lib.hid (hB2.whole (by omega))
  have K2 : Hid (Below w.heap.size w w2) := K1.out.trans (hbel2.mono hz1)
  have V2 := Lib.hid hv2
  have T1b := Lib.hid (T1.out.below hbel2)
  clear hbel2 hB2 hl2 hv2 R1 T1
  go_wp2_with fail
  refine (mtrim_any _ _ L2 _ R2.out).mono ?_
  rintro e w' ⟨rfl, rfl⟩
  have T2 := Lib.hid (trim_rd R2.out)
  go_wp2_with fail
  refine (sum_any _ _ _ _ _ (HA0.out.below K2.out) (HA1.out.below K2.out) (by rw [List.length_take]; omega) (by rw [List.length_drop]; omega)).mono ?_
  rintro e w3 ⟨g3, S1, rfl, hg3, hB3, hl3, hv3, hbel3⟩
  rw [List.length_take, List.length_drop] at hl3
  have hs3 := hB3.lt
  have hz3 := hbel3.size
  have R3 := Lib.hid (hB3.whole (by omega))
  have K3 : Hid (Below w.heap.size w w3) := K2.out.trans (hbel3.mono (by omega))
  have V3 := Lib.hid hv3
  have T1c := Lib.hid (T1b.out.below hbel3)
  have T2c := Lib.hid (T2.out.below hbel3)
  have HL3 := Lib.hid hl3
  clear hbel3 hB3 hv3 R2 T2 T1b hl3
  go_wp2_with fail
  refine (sum_any _ _ _ _ _ (HB0.out.below K3.out) (HB1.out.below K3.out) (by rw [List.length_take]; omega) (by rw [List.length_drop]; omega)).mono ?_
  rintro e w4 ⟨g4, S2, rfl, hg4, hB4, hl4, hv4, hbel4⟩
  rw [List.length_take, List.length_drop] at hl4
  have hs4 := hB4.lt
  have hz4 := hbel4.size
  have R4 := Lib.hid (hB4.whole (by omega))
  have R3d := Lib.hid (R3.out.below hbel4)
  have K4 : Hid (Below w.heap.size w w4) := K3.out.trans (hbel4.mono (by omega))
  have V4 := Lib.hid hv4
  have T1d := Lib.hid (T1c.out.below hbel4)
  have T2d := Lib.hid (T2c.out.below hbel4)
  have hS : S1.length + S2.length < xs.length + ys.length := by have := HL3.out; omega
  clear hbel4 hB4 hv4 R3 T1c T2c hl4
  go_wp2_with fail
  refine (HI.out _ _ _ _ _ hS R3d.out R4.out).mono ?_
  rintro e w5 ⟨g5, L5, rfl, hg5, hB5, hl5, hv5, hbel5⟩
  have hs5 := hB5.lt
  have hz5 := hbel5.size
  have hll5 : L5.length ≤ 274877906944 := by have q1 := strip_le S1; have q2 := strip_le S2; omega
  have K5 : Hid (Below w.heap.size w w5) := K4.out.trans (hbel5.mono (by omega))
  have V5 : Hid (val L5 = (val (xs.take hf) + val (xs.drop hf)) * (val (ys.take hf) + val (ys.drop hf))) := by show _ = _; rw [hv5, V3.out, V4.out]
  have T1e := Lib.hid (T1d.out.below hbel5)
  have T2e := Lib.hid (T2d.out.below hbel5)
  have hgl := HZ.out.lt
  have n15 : g1 ≠ g5 := by omega
  have n25 : g2 ≠ g5 := by omega
  have n5g : g5 ≠ g := by omega
  have n1g : g1 ≠ g := by omega
  have n2g : g2 ≠ g := by omega
  have hq5 : w.heap.size ≤ g5 := by omega
  have B5 := Lib.hid hB5
  have HZ5 := Lib.hid (HZ.out.below K5.out HZ.out.lt)
  clear hbel5 hB5 hv5 hl5 R3d R4 T1d T2d V3 V4 HL3 hS
  obtain ⟨hle1, hlen1⟩ := Half.sub1 B5.out.2 V5.out V1.out
  have HLE1 := Lib.hid hle1
  clear hle1
  go_wp2_with fail
  refine (subFrom_any g5 L5.length L5.length L5 (strip L1) _ _ B5.out rfl (Nat.le_refl _) (by omega) T1e.out (by intro e; cases e; exact n15 rfl) hlen1 HLE1.out).mono ?_
  rintro e w6 ⟨rfl, M1, hB6, hl6, hv6, hgr6⟩
  have hz6 := hgr6.size
  have hs6 := hB6.lt
  have G6 : Hid (w.grownBy w6 (some g)) := gb_step (gb_below (grown_refl w (some g)) K5.out) hgr6 (.inr hq5)
  have T1f := Lib.hid (T1e.out.kept hgr6 (by intro k hk e; cases hk; cases e; exact n15 rfl))
  have T2f := Lib.hid (T2e.out.kept hgr6 (by intro k hk e; cases hk; cases e; exact n25 rfl))
  have HZ6 := Lib.hid (HZ5.out.kept hgr6 (by intro e; cases e; exact n5g rfl))
  have B6 := Lib.hid hB6
  have V6 := Lib.hid hv6
  obtain ⟨hle2, hlen2⟩ := Half.sub2 hB6.2 V5.out V1.out V2.out hv6
  have HLE2 := Lib.hid hle2
  clear hle2 hB6 hv6 hgr6 T1e T2e HZ5 B5 K5
  have HL6 := Lib.hid hl6
  have hlen2' : (strip L2).length ≤ L5.length := by omega
  clear hl6 hlen2
  go_wp2_with fail
  refine (subFrom_any g5 L5.length L5.length M1 (strip L2) _ _ B6.out HL6.out.symm (Nat.le_refl _) (by omega) T2f.out (by intro e; cases e; exact n25 rfl) hlen2' HLE2.out).mono ?_
  rintro e w7 ⟨rfl, M2, hB7, hl7, hv7, hgr7⟩
  have hz7 := hgr7.size
  have hs7 := hB7.lt
  have G7 : Hid (w.grownBy w7 (some g)) := gb_step G6.out hgr7 (.inr hq5)
  have T1g := Lib.hid (T1f.out.kept hgr7 (by intro k hk e; cases hk; cases e; exact n15 rfl))
  have T2g := Lib.hid (T2f.out.kept hgr7 (by intro k hk e; cases hk; cases e; exact n25 rfl))
  have HZ7 := Lib.hid (HZ6.out.kept hgr7 (by intro e; cases e; exact n5g rfl))
  have B7 := Lib.hid hB7
  have V7 := Lib.hid (Half.mid V5.out V1.out V2.out V6.out hv7)
  have hlow := HH.out.low_len V1.out
  have hhigh := HH.out.high_len V2.out
  have hmid := HH.out.mid_len V7.out
  clear hB7 hv7 hgr7 T1f T2f HZ6 B6 G6 HLE1 HLE2 V5 V6
  have hzl : (List.replicate (xs.length + ys.length) 0).length = xs.length + ys.length := List.length_replicate
  have HZL := Lib.hid hzl
  clear hzl
  have HL7 : Hid (M2.length = L5.length) := hl7.trans HL6.out
  clear hl7
  go_wp2_with ((with_reducible refine wpList_copy_blk (o := ⟨some 55, _, _, _, _, _⟩) rfl (.tmp 53) (.tmp 54) 111 111 rfl Tryz.underlying111 Tryz.infoW1 g (xs.length + ys.length) (xs.length + ys.length) _ _ (List.replicate (xs.length + ys.length) 0) (strip L1) rfl rfl HZ7.out T1g.out (by omega) (by rw [HZL.out]; exact Nat.le_refl _) ?_); intro w8 hB8 hgr8)
  have T2h := Lib.hid (T2g.out.kept hgr8.out (by intro k hk e; cases hk; cases e; exact n2g rfl))
  have B7h := Lib.hid (B7.out.kept hgr8.out (by intro e; cases e; exact n5g rfl))
  have G8 : Hid (w.grownBy w8 (some g)) := gb_step G7.out hgr8.out (.inl rfl)
  have hz8 := hgr8.out.size
  have h2n : 2 * hf < xs.length + ys.length := by omega
  clear hgr8 T2g B7 G7 HZ7 HZL T1g
  go_wp2_with fail
  refine (addTo_any g (2 * hf) (xs.length + ys.length - 2 * hf) (xs.length + ys.length - 2 * hf) _ (strip L2) _ _ hB8.out (by rw [List.length_append, List.length_drop, List.length_replicate]; omega) (Nat.le_refl _) (by omega) T2h.out (by intro e; cases e; exact n2g rfl) hhigh).mono ?_
  rintro e w9 ⟨rfl, Z, hB9, ⟨hlz, htz, hcz⟩, hgr9⟩
  obtain ⟨hzl, hzv⟩ := HH.out.add1 rfl V1.out V2.out (by rw [List.drop_replicate]) hlz htz hcz
  have B9 := Lib.hid hB9
  have B7i := Lib.hid (B7h.out.kept hgr9 (by intro e; cases e; exact n5g rfl))
  have G9 : Hid (w.grownBy w9 (some g)) := gb_step G8.out hgr9 (.inl rfl)
  have ZL := Lib.hid hzl
  have ZV := Lib.hid hzv
  have R5 := Lib.hid (B7i.out.whole (by have := HL7.out; omega))
  have hm2 : M2.length = L5.length := HL7.out
  rw [hm2] at R5
  clear hB9 hlz htz hcz hgr9 hzl hzv hB8 T2h B7h G8 hm2
  go_wp2_with fail
  have T5 : Hid (Rd w9.drew _ (strip M2)) := trim_rd' (w := w9.drew) (by exact R5.out)
  have hi0 : (0 : Int) ≤ (hf : Int) := Int.natCast_nonneg _
  have hcap : ¬ (xs.length + ys.length = hf) := by omega
  have hi1 : (hf : Int) ≤ ((xs.length : Int) + (ys.length : Int)) := by omega
  go_region_held3 (fun _ => True) (trivial)
   (first
    | (go_at_call 456; refine (mtrim_any' _ _ _ M2 _ (by exact R5.out)).mono ?_; rintro e w' ⟨rfl, rfl⟩)
    | (go_at_call 458; refine (addTo_any g hf (xs.length + ys.length - hf) (xs.length + ys.length - hf) Z (strip M2) _ _ (by exact B9.out) (by rw [ZL.out]; omega) (Nat.le_refl _) (by omega) T5.out (by intro e; cases e; exact n5g rfl) hmid).mono ?_; rintro e w10 ⟨rfl, M, hB10, ⟨hlm, htm, hcm⟩, hgr10⟩))
  have HF := Lib.hid (HH.out.add2 ZL.out ZV.out V7.out hlm htm hcm)
  have B10 := Lib.hid hB10
  have G10 : Hid (w.grownBy w10 (some g)) := gb_step (gb_step G9.out (grown_drewN w9 1 (some g)) (.inl rfl)) hgr10 (.inl rfl)
  clear hB10 hlm htm hcm hgr10
  go_wp2_with fail
  go_end0
  exact ⟨rfl, M, B10.out, HF.out.1, HF.out.2, G10.out⟩
end Go.Proofs.YtceggplnggkdnaaGreatDoor
