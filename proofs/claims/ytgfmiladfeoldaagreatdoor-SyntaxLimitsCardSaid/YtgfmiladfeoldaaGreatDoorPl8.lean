/- Joined texts of this claim's proof: Num3, Num4. -/
import Derived.Test.YtgfmiladfeoldaaGreatDoorPl7
import Derived.Shelf.Spec.BitsCarry
import Derived.StillTailTactics
import Derived.Deep.RegionLaw
import Derived.Test.YtgfmiladfeoldaaGreatDoorPl5
import Derived.Test.YtgfmiladfeoldaaGreatDoorPl1
set_option linter.unusedSimpArgs false
set_option linter.unusedVariables false
namespace Go.Proofs.YtgfmiladfeoldaaGreatDoor
open Go.RowKit NatP
theorem add64_ex (x y c : Nat) (hx : x < BB) (hy : y < BB) (hc : c ≤ 1) : ∃ s c' : Nat, s < BB ∧ c' ≤ 1 ∧ s + BB * c' = x + y + c ∧
  ∀ w : World, (callFunc 286 #[.int .u64 (x : Nat), .int .u64 (y : Nat), .int .u64 (c : Nat)]).run Tryz.prog w = .ok (.value (.tuple #[.int .u64 (s : Nat), .int .u64 (c' : Nat)])) w := by
 unfold BB at *
 refine ⟨(x + y + c) % 18446744073709551616, (x + y + c) / 18446744073709551616, by omega, by omega, by omega, fun w => ?_⟩
 rw [run_callFunc_extern Tryz.func286 (by kernel_rfl) (by kernel_rfl) (by kernel_rfl) (e := add64Entry) (by kernel_rfl), run_add64 x y c (by omega) (by omega) (by omega) (by omega)]
 simp only [Result.andThen]
 congr 5 <;> omega
theorem sub64_ex (x y c : Nat) (hx : x < BB) (hy : y < BB) (hc : c ≤ 1) : ∃ s c' : Nat, s < BB ∧ c' ≤ 1 ∧ s + y + c = x + BB * c' ∧
  ∀ w : World, (callFunc 290 #[.int .u64 (x : Nat), .int .u64 (y : Nat), .int .u64 (c : Nat)]).run Tryz.prog w = .ok (.value (.tuple #[.int .u64 (s : Nat), .int .u64 (c' : Nat)])) w := by
 unfold BB at *
 refine ⟨(x + 18446744073709551616 - y - c) % 18446744073709551616, (if x < y + c then 1 else 0), by omega, by split <;> omega, by split <;> omega, fun w => ?_⟩
 rw [run_callFunc_extern Tryz.func290 (by kernel_rfl) (by kernel_rfl) (by kernel_rfl) (e := sub64Entry) (by kernel_rfl), run_sub64 x y c hc]
 rfl
def AddSt (L ys : List Nat) (o i c : Nat) (M : List Nat) : Prop :=
 M.length = L.length ∧ M.take o = L.take o ∧ M.drop (o + i) = L.drop (o + i) ∧ val ((M.drop o).take i) + BB ^ i * c = val ((L.drop o).take i) + val (ys.take i)
theorem AddSt.start (L ys : List Nat) (o : Nat) : AddSt L ys o 0 0 L := ⟨rfl, rfl, rfl, by simp [val]⟩
theorem AddSt.at {L ys M : List Nat} {o i c z : Nat} (h : AddSt L ys o i c M) (hz : M[o + i]? = some z) : L[o + i]? = some z := by
 have h1 := congrArg (fun l => l[0]?) h.2.2.1
 simp only [List.getElem?_drop, Nat.add_zero] at h1
 rw [← h1]; exact hz
theorem AddSt.step {L ys M : List Nat} {o i c z y s c' : Nat} (h : AddSt L ys o i c M) (hz : M[o + i]? = some z) (hy : (ys[i]? = some y) ∨ (ys.length ≤ i ∧ y = 0)) (hs : s + BB * c' = z + y + c) :
  AddSt L ys o (i + 1) c' (M.set (o + i) s) := by
 have hLz := h.at hz
 obtain ⟨h1, h2, h3, h4⟩ := h
 have hlt : o + i < M.length := (List.getElem?_eq_some_iff.1 hz).1
 refine ⟨by rw [List.length_set, h1], by rw [set_take _ (by omega), h2], ?_, ?_⟩
 ·rw [show o + (i + 1) = o + i + 1 from by omega, set_drop]
  have := congrArg (List.drop 1) h3
  rw [List.drop_drop, List.drop_drop] at this
  exact this
 ·rw [set_mid _ hlt]
  have hLl : o + i < L.length := (List.getElem?_eq_some_iff.1 hLz).1
  have e1 : (L.drop o).take (i + 1) = (L.drop o).take i ++ [z] := by
   rw [List.take_add_one, List.getElem?_drop, hLz]; rfl
  have e2 : val (ys.take (i + 1)) = val (ys.take i) + BB ^ i * y := by
   rcases hy with hy | ⟨hy, rfl⟩
   ·have hyl : i < ys.length := (List.getElem?_eq_some_iff.1 hy).1
    rw [val_take_succ hyl]
    have : ys[i] = y := by rw [List.getElem?_eq_getElem hyl] at hy; exact Option.some.inj hy
    rw [this]
   ·rw [List.take_of_length_le (by omega), List.take_of_length_le (by omega)]; simp
  rw [e1, e2, val_snoc, val_snoc, List.length_take, List.length_take, List.length_drop, List.length_drop, Nat.min_eq_left (by omega), Nat.min_eq_left (by omega), Nat.pow_succ]
  exact carry_add h4 hs
def Added (L ys : List Nat) (o : Nat) (M : List Nat) : Prop := M.length = L.length ∧ M.take o = L.take o ∧ ∃ c, val (M.drop o) + BB ^ (L.length - o) * c = val (L.drop o) + val ys
theorem AddSt.done_all {L ys M : List Nat} {o i c : Nat} (h : AddSt L ys o i c M) (hi : o + i = L.length) (hy : ys.length ≤ i) : Added L ys o M := by
 obtain ⟨h1, h2, h3, h4⟩ := h
 refine ⟨h1, h2, c, ?_⟩
 rw [List.take_of_length_le (by rw [List.length_drop]; omega), List.take_of_length_le (by rw [List.length_drop]; omega), List.take_of_length_le hy] at h4
 rw [show L.length - o = i from by omega]; exact h4
theorem AddSt.done_zero {L ys M : List Nat} {o i : Nat} (h : AddSt L ys o i 0 M) (hi : o + i ≤ L.length) (hy : ys.length ≤ i) : Added L ys o M := by
 obtain ⟨h1, h2, h3, h4⟩ := h
 refine ⟨h1, h2, 0, ?_⟩
 rw [List.take_of_length_le hy] at h4
 have e1 := val_split (M.drop o) i (by rw [List.length_drop]; omega)
 have e2 := val_split (L.drop o) i (by rw [List.length_drop]; omega)
 rw [List.drop_drop] at e1 e2
 rw [e1, e2, h3]
 simp only [Nat.mul_zero, Nat.add_zero] at h4 ⊢
 omega
def AddPost (L ys : List Nat) (g o : Nat) (w : World) (e : Ending) (w' : World) : Prop := e = .returned (.tuple #[]) ∧ ∃ M, Blk w' g M ∧ Added L ys o M ∧ w.grownBy w' (some g)
theorem grown_set {w0 w : World} {g : Nat} (h : w0.grownBy w (some g)) {w' : World} (h2 : w.grownBy w' (some g)) : w0.grownBy w' (some g) :=
 ⟨h2.os.trans h.os, h2.tape.trans h.tape, h2.output.trans h.output, Nat.le_trans h.size h2.size, fun k hk hn => (h2.block k (Nat.lt_of_lt_of_le hk h.size) hn).trans (h.block k hk hn)⟩
theorem grown_refl (w : World) (row : Option Nat) : w.grownBy w row := ⟨rfl, rfl, rfl, Nat.le_refl _, fun _ _ _ => rfl⟩
theorem grown_drewN (w : World) (n : Nat) (row : Option Nat) : w.grownBy (w.drewN n) row := ⟨rfl, rfl, rfl, Nat.le_refl _, fun _ _ _ => rfl⟩
set_option maxRecDepth 100000 in
set_option maxHeartbeats 1000000 in
theorem addTo_any (g o n c : Nat) (L ys : List Nat) (v : Value) (w : World) (hL : Blk w g L) (hn : o + n = L.length) (hnc : n ≤ c) (hc : c ≤ 1099511627776) (hv : Rd w v ys) (hvb : v.ownBlock ≠ some g) (hy : ys.length ≤ n) :
  Calls Tryz.prog 275 #[.slice (some ⟨g, o, none⟩) n c, v] w (AddPost L ys g o w) := by
 have HV := Lib.hid hv
 obtain ⟨ao, cap, rfl, -, hcm, hok, hsh⟩ := hv.2
 have HB := Lib.hid hL
 have HOK := Lib.hid hok
 have hll : o + n ≤ L.length := by omega
 have HLL := Lib.hid hn
 clear hL hok hsh hcm hn
 go_enter Tryz.func275, Tryz.ntmps275
 go_wp2_with fail
 go_loopw [4, 9] (fun cv i wr => ∃ (k cc : Nat) (M : List Nat), k ≤ ys.length ∧ i = .int .i64 (k : Nat) ∧ cv = .int .u64 (cc : Nat) ∧ cc ≤ 1 ∧ Blk wr g M ∧ AddSt L ys o k cc M ∧ w.grownBy wr (some g)) (fun _ i _ => ys.length - (intOf i).toNat)
 case atStart => exact ⟨0, 0, L, Nat.zero_le _, rfl, rfl, Nat.zero_le _, HB.out, AddSt.start L ys o, grown_refl w _⟩
 case round =>
  obtain ⟨k, cc, M, hk, rfl, rfl, hcc, hM, hst, hgr⟩ := hrel
  have HM := Lib.hid hM
  have HST := Lib.hid hst
  have HGR := Lib.hid hgr
  have hml : M.length = L.length := hst.1
  clear hM hst hgr
  by_cases hlt : k < ys.length
  ·obtain ⟨y, hyy⟩ : ∃ y, ys[k]? = some y := ⟨_, List.getElem?_eq_getElem hlt⟩
   obtain ⟨z, hz⟩ : ∃ z, M[o + k]? = some z := ⟨_, List.getElem?_eq_getElem (by omega)⟩
   obtain ⟨s, c', hs1, hs2, hs3, hrun⟩ := add64_ex z y cc (HM.out.2 z (List.mem_of_getElem? hz)) (HOK.out y (List.mem_of_getElem? hyy)) hcc
   obtain ⟨ao', cap', e, -, -, -, hsh⟩ := (HV.out.kept HGR.out (fun q hq => by cases hq; exact hvb)).2
   cases e
   obtain ⟨g2, o2, rfl, e2⟩ := hsh k y hyy
   have e1 := HM.out.cell hz
   have e3 := HM.out.frozen (o + k)
   have HN := Lib.hid (HST.out.step hz (.inl hyy) hs3)
   have HS := Lib.hid (Blk.set (w := wr.drewN 1) HM.out (o + k) hs1)
   have hi0 : (0 : Int) ≤ (k : Int) := Int.natCast_nonneg _
   have hi1 : (k : Int) < (n : Int) := by omega
   have hi2 : (k : Int) < (ys.length : Int) := by omega
   clear hyy hz hsh hs3
   go_wp2_with fail
   go_region_law (fail)
   all_goals
    go_wp2_with fail
    have hfin : ∃ (k' cc' : Nat) (M' : List Nat), k' ≤ ys.length ∧ Value.int .i64 ((k : Int) + 1) = .int .i64 (k' : Nat) ∧ Value.int .u64 (c' : Nat) = .int .u64 (cc' : Nat) ∧ cc' ≤ 1 ∧ Blk ((wr.drewN 1).setCell ⟨g, o + k, none⟩ (.int .u64 (s : Nat))) g M' ∧ AddSt L ys o k' cc' M' ∧ w.grownBy ((wr.drewN 1).setCell ⟨g, o + k, none⟩ (.int .u64 (s : Nat))) (some g) :=
     ⟨k + 1, c', M.set (o + k) s, by omega, by go_num, rfl, hs2, HS.out.1, HN.out, grown_set (grown_set HGR.out (grown_drewN wr 1 _)) HS.out.2⟩
    first | exact ⟨hfin, by simp [intOf]; omega⟩ | exact ⟨by (repeat apply Exists.intro); exact ⟨hfin, rfl⟩, by simp [intOf]; omega⟩
  ·obtain rfl : k = ys.length := by omega
   have hyn := hy
   clear hlt hk hy
   go_wp2_with fail
   go_loopw [4, 6] (fun cv i wr => ∃ (k cc : Nat) (M : List Nat), ys.length ≤ k ∧ k ≤ n ∧ i = .int .i64 (k : Nat) ∧ cv = .int .u64 (cc : Nat) ∧ cc ≤ 1 ∧ Blk wr g M ∧ AddSt L ys o k cc M ∧ w.grownBy wr (some g)) (fun _ i _ => n - (intOf i).toNat)
   case atStart => exact ⟨ys.length, cc, M, Nat.le_refl _, hyn, rfl, rfl, hcc, HM.out, HST.out, HGR.out⟩
   clear HM HST HGR hml hcc
   case round =>
    obtain ⟨k, cc, M, hyk, hk, rfl, rfl, hcc, hM, hst, hgr⟩ := hrel
    have HM := Lib.hid hM
    have HST := Lib.hid hst
    have HGR := Lib.hid hgr
    have hml : M.length = L.length := hst.1
    clear hM hst hgr
    by_cases hc0 : cc = 0
    ·subst hc0
     have HD := Lib.hid (HST.out.done_zero (by omega) hyk)
     go_wp2_with fail
     go_end0
     exact ⟨rfl, M, HM.out, HD.out, HGR.out⟩
    ·have hcb : ((cc : Int) != 0) = true := by simp; omega
     by_cases hlt : k < n
     ·obtain ⟨z, hz⟩ : ∃ z, M[o + k]? = some z := ⟨_, List.getElem?_eq_getElem (by omega)⟩
      obtain ⟨s, c', hs1, hs2, hs3, hrun⟩ := add64_ex z 0 cc (HM.out.2 z (List.mem_of_getElem? hz)) BB_pos hcc
      have hrun2 : ∀ w : World, (callFunc 286 #[.int .u64 (z : Nat), .int .u64 0, .int .u64 (cc : Nat)]).run Tryz.prog w = .ok (.value (.tuple #[.int .u64 (s : Nat), .int .u64 (c' : Nat)])) w := hrun
      have e1 := HM.out.cell hz
      have e3 := HM.out.frozen (o + k)
      have HN := Lib.hid (HST.out.step (y := 0) hz (.inr ⟨hyk, rfl⟩) hs3)
      have HS := Lib.hid (HM.out.set (o + k) hs1)
      have hi0 : (0 : Int) ≤ (k : Int) := Int.natCast_nonneg _
      have hi1 : (k : Int) < (n : Int) := by omega
      clear hz hs3 hrun
      go_wp2_with fail
      have hfin : ∃ (k' cc' : Nat) (M' : List Nat), ys.length ≤ k' ∧ k' ≤ n ∧ Value.int .i64 ((k : Int) + 1) = .int .i64 (k' : Nat) ∧ Value.int .u64 (c' : Nat) = .int .u64 (cc' : Nat) ∧ cc' ≤ 1 ∧ Blk (wr.setCell ⟨g, o + k, none⟩ (.int .u64 (s : Nat))) g M' ∧ AddSt L ys o k' cc' M' ∧ w.grownBy (wr.setCell ⟨g, o + k, none⟩ (.int .u64 (s : Nat))) (some g) :=
       ⟨k + 1, c', M.set (o + k) s, by omega, by omega, by go_num, rfl, hs2, HS.out.1, HN.out, grown_set HGR.out HS.out.2⟩
      first | exact ⟨hfin, by simp [intOf]; omega⟩ | exact ⟨by (repeat apply Exists.intro); exact ⟨hfin, rfl⟩, by simp [intOf]; omega⟩
     ·have HD := Lib.hid (HST.out.done_all (by have := HLL.out; omega) hyk)
      go_wp2_with fail
      go_end0
      exact ⟨rfl, M, HM.out, HD.out, HGR.out⟩
def SubSt (L ys : List Nat) (i c : Nat) (M : List Nat) : Prop :=
 M.length = L.length ∧ M.drop i = L.drop i ∧ val (M.take i) + val (ys.take i) = val (L.take i) + BB ^ i * c
theorem SubSt.start (L ys : List Nat) : SubSt L ys 0 0 L := ⟨rfl, rfl, by simp [val]⟩
theorem carry_sub {P X Y Z x y c s c' : Nat} (h : Z + Y = X + P * c) (hs : s + y + c = x + BB * c') : (Z + P * s) + (Y + P * y) = (X + P * x) + P * BB * c' := by
 have h1 : P * s + P * y + P * c = P * x + P * (BB * c') := by rw [← Nat.mul_add, ← Nat.mul_add, hs, Nat.mul_add]
 rw [Nat.mul_assoc]
 omega
theorem SubSt.step {L ys M : List Nat} {i c z y s c' : Nat} (h : SubSt L ys i c M) (hz : M[i]? = some z) (hy : (ys[i]? = some y) ∨ (ys.length ≤ i ∧ y = 0)) (hs : s + y + c = z + BB * c') :
  SubSt L ys (i + 1) c' (M.set i s) := by
 obtain ⟨h1, h3, h4⟩ := h
 have hlt : i < M.length := (List.getElem?_eq_some_iff.1 hz).1
 have hLz : L[i]? = some z := by
  have h5 := congrArg (fun l => l[0]?) h3
  simp only [List.getElem?_drop, Nat.add_zero] at h5
  rw [← h5]; exact hz
 have hLl : i < L.length := (List.getElem?_eq_some_iff.1 hLz).1
 refine ⟨by rw [List.length_set, h1], ?_, ?_⟩
 ·rw [set_drop]
  have := congrArg (List.drop 1) h3
  rw [List.drop_drop, List.drop_drop] at this
  exact this
 ·have hmid := set_mid (l := M) (o := 0) (i := i) s (by omega)
  rw [List.drop_zero, List.drop_zero, Nat.zero_add] at hmid
  rw [hmid]
  have e1 : L.take (i + 1) = L.take i ++ [z] := by rw [List.take_add_one, hLz]; rfl
  have e2 : val (ys.take (i + 1)) = val (ys.take i) + BB ^ i * y := by
   rcases hy with hy | ⟨hy, rfl⟩
   ·have hyl : i < ys.length := (List.getElem?_eq_some_iff.1 hy).1
    rw [val_take_succ hyl]
    have : ys[i] = y := by rw [List.getElem?_eq_getElem hyl] at hy; exact Option.some.inj hy
    rw [this]
   ·rw [List.take_of_length_le (by omega), List.take_of_length_le (by omega)]; simp
  rw [e1, e2, val_snoc, val_snoc, List.length_take, List.length_take, Nat.min_eq_left (by omega), Nat.min_eq_left (by omega), Nat.pow_succ]
  exact carry_sub h4 hs
theorem SubSt.done_zero {L ys M : List Nat} {i : Nat} (h : SubSt L ys i 0 M) (hi : i ≤ L.length) (hy : ys.length ≤ i) : M.length = L.length ∧ val M + val ys = val L := by
 obtain ⟨h1, h3, h4⟩ := h
 refine ⟨h1, ?_⟩
 rw [List.take_of_length_le hy] at h4
 have e1 := val_split M i (by omega)
 have e2 := val_split L i hi
 rw [e1, e2, h3]
 simp only [Nat.mul_zero, Nat.add_zero] at h4
 omega
theorem SubSt.done_all {L ys M : List Nat} {c : Nat} (h : SubSt L ys L.length c M) (hM : ok M) (hy : ys.length ≤ L.length) (hle : val ys ≤ val L) : M.length = L.length ∧ val M + val ys = val L := by
 obtain ⟨h1, h3, h4⟩ := h
 refine ⟨h1, ?_⟩
 rw [List.take_of_length_le hy, List.take_of_length_le (by omega), List.take_length] at h4
 have h5 := val_lt hM
 rw [h1] at h5
 cases c with
 | zero => simpa using h4
 | succ c =>
  rw [Nat.mul_succ] at h4
  omega
def SubPost (L ys : List Nat) (g : Nat) (w : World) (e : Ending) (w' : World) : Prop := e = .returned (.tuple #[]) ∧ ∃ M, Blk w' g M ∧ M.length = L.length ∧ val M + val ys = val L ∧ w.grownBy w' (some g)
set_option maxRecDepth 100000 in
set_option maxHeartbeats 1000000 in
theorem subFrom_any (g n c : Nat) (L ys : List Nat) (v : Value) (w : World) (hL : Blk w g L) (hn : n = L.length) (hnc : n ≤ c) (hc : c ≤ 1099511627776) (hv : Rd w v ys) (hvb : v.ownBlock ≠ some g) (hy : ys.length ≤ n) (hle : val ys ≤ val L) :
  Calls Tryz.prog 289 #[.slice (some ⟨g, 0, none⟩) n c, v] w (SubPost L ys g w) := by
 have HV := Lib.hid hv
 obtain ⟨ao, cap, rfl, -, hcm, hok, hsh⟩ := hv.2
 have HB := Lib.hid hL
 have HOK := Lib.hid hok
 have HLE := Lib.hid hle
 have hll : n ≤ L.length := by omega
 have HLL := Lib.hid hn
 clear hL hok hsh hcm hn hle
 go_enter Tryz.func289, Tryz.ntmps289
 go_wp2_with fail
 go_loopw [4, 9] (fun cv i wr => ∃ (k cc : Nat) (M : List Nat), k ≤ n ∧ i = .int .i64 (k : Nat) ∧ cv = .int .u64 (cc : Nat) ∧ cc ≤ 1 ∧ Blk wr g M ∧ SubSt L ys k cc M ∧ w.grownBy wr (some g)) (fun _ i _ => n - (intOf i).toNat)
 case atStart => exact ⟨0, 0, L, Nat.zero_le _, rfl, rfl, Nat.zero_le _, HB.out, SubSt.start L ys, grown_refl w _⟩
 case round =>
  obtain ⟨k, cc, M, hk, rfl, rfl, hcc, hM, hst, hgr⟩ := hrel
  have HM := Lib.hid hM
  have HST := Lib.hid hst
  have HGR := Lib.hid hgr
  have hml : M.length = L.length := hst.1
  clear hM hst hgr
  by_cases hlt : k < n
  ·obtain ⟨z, hz⟩ : ∃ z, M[k]? = some z := ⟨_, List.getElem?_eq_getElem (by omega)⟩
   have e1 := HM.out.cell hz
   have e3 := HM.out.frozen k
   have hi0 : (0 : Int) ≤ (k : Int) := Int.natCast_nonneg _
   have hi1 : (k : Int) < (n : Int) := by omega
   by_cases hky : k < ys.length
   ·obtain ⟨y, hyy⟩ : ∃ y, ys[k]? = some y := ⟨_, List.getElem?_eq_getElem hky⟩
    obtain ⟨s, c', hs1, hs2, hs3, hrun⟩ := sub64_ex z y cc (HM.out.2 z (List.mem_of_getElem? hz)) (HOK.out y (List.mem_of_getElem? hyy)) hcc
    obtain ⟨ao', cap', e, -, -, -, hsh⟩ := (HV.out.kept HGR.out (fun q hq => by cases hq; exact hvb)).2
    cases e
    obtain ⟨g2, o2, rfl, e2⟩ := hsh k y hyy
    have HN := Lib.hid (HST.out.step hz (.inl hyy) hs3)
    have HS := Lib.hid (HM.out.set k hs1)
    clear hyy hz hsh hs3
    go_wp2_with fail
    have hfin : ∃ (k' cc' : Nat) (M' : List Nat), k' ≤ n ∧ Value.int .i64 ((k : Int) + 1) = .int .i64 (k' : Nat) ∧ Value.int .u64 (c' : Nat) = .int .u64 (cc' : Nat) ∧ cc' ≤ 1 ∧ Blk (wr.setCell ⟨g, k, none⟩ (.int .u64 (s : Nat))) g M' ∧ SubSt L ys k' cc' M' ∧ w.grownBy (wr.setCell ⟨g, k, none⟩ (.int .u64 (s : Nat))) (some g) :=
     ⟨k + 1, c', M.set k s, by omega, by go_num, rfl, hs2, HS.out.1, HN.out, grown_set HGR.out HS.out.2⟩
    first | exact ⟨hfin, by simp [intOf]; omega⟩ | exact ⟨by (repeat apply Exists.intro); exact ⟨hfin, rfl⟩, by simp [intOf]; omega⟩
   ·by_cases hc0 : cc = 0
    ·subst hc0
     have HD := Lib.hid (HST.out.done_zero (by omega) (by omega))
     clear hz
     go_wp2_with fail
     refine bodyPost_ret (results_none rfl _ _ _) rfl ?_
     exact ⟨rfl, M, HM.out, HD.out.1, HD.out.2, HGR.out⟩
    ·have hcb : ((cc : Int) == 0) = false := by simp; omega
     obtain ⟨s, c', hs1, hs2, hs3, hrun⟩ := sub64_ex z 0 cc (HM.out.2 z (List.mem_of_getElem? hz)) BB_pos hcc
     have hrun2 : ∀ w : World, (callFunc 290 #[.int .u64 (z : Nat), .int .u64 0, .int .u64 (cc : Nat)]).run Tryz.prog w = .ok (.value (.tuple #[.int .u64 (s : Nat), .int .u64 (c' : Nat)])) w := hrun
     have HN := Lib.hid (HST.out.step (y := 0) hz (.inr ⟨by omega, rfl⟩) hs3)
     have HS := Lib.hid (HM.out.set k hs1)
     clear hz hs3 hrun
     go_wp2_with fail
     have hfin : ∃ (k' cc' : Nat) (M' : List Nat), k' ≤ n ∧ Value.int .i64 ((k : Int) + 1) = .int .i64 (k' : Nat) ∧ Value.int .u64 (c' : Nat) = .int .u64 (cc' : Nat) ∧ cc' ≤ 1 ∧ Blk (wr.setCell ⟨g, k, none⟩ (.int .u64 (s : Nat))) g M' ∧ SubSt L ys k' cc' M' ∧ w.grownBy (wr.setCell ⟨g, k, none⟩ (.int .u64 (s : Nat))) (some g) :=
      ⟨k + 1, c', M.set k s, by omega, by go_num, rfl, hs2, HS.out.1, HN.out, grown_set HGR.out HS.out.2⟩
     first | exact ⟨hfin, by simp [intOf]; omega⟩ | exact ⟨by (repeat apply Exists.intro); exact ⟨hfin, rfl⟩, by simp [intOf]; omega⟩
  ·obtain rfl : k = n := by omega
   have HD : Hid (M.length = L.length ∧ val M + val ys = val L) := SubSt.done_all (by rw [← HLL.out]; exact HST.out) HM.out.2 (by omega) HLE.out
   go_wp2_with fail
   go_end0
   exact ⟨rfl, M, HM.out, HD.out.1, HD.out.2, HGR.out⟩
end Go.Proofs.YtgfmiladfeoldaaGreatDoor
namespace Go.Proofs.YtgfmiladfeoldaaGreatDoor
open Go.RowKit NatP
def MulPost (hi lo : Nat) (w : World) (e : Ending) (w' : World) : Prop := e = .returned (.tuple #[.int .u64 (hi : Nat), .int .u64 (lo : Nat)]) ∧ w = w'
theorem mul64_ex (x y : Nat) (hx : x < BB) (hy : y < BB) : ∃ hi lo : Nat, lo < BB ∧ hi * BB + lo = x * y ∧ ∀ w : World, Calls Tryz.prog 287 #[.int .u64 (x : Nat), .int .u64 (y : Nat)] w (MulPost hi lo w) := by
 unfold BB at *
 refine ⟨x * y / 18446744073709551616, x * y % 18446744073709551616, by omega, by omega, fun w => ?_⟩
 refine (Tryz.bits_Mul64 x y hx hy w).mono fun e w' ⟨h1, h2⟩ => ⟨h1, h2.symm⟩
def RowPost (xs ys : List Nat) (g : Nat) (w : World) (e : Ending) (w' : World) : Prop := e = .returned (.tuple #[]) ∧ ∃ M, Blk w' g M ∧ M.length = xs.length + ys.length ∧ val M = val xs * val ys ∧ w.grownBy w' (some g)
set_option maxRecDepth 100000 in
set_option maxHeartbeats 2000000 in
theorem rows_any (g n : Nat) (xs ys : List Nat) (v u : Value) (w : World) (hL : Blk w g (List.replicate n 0)) (hn : n = xs.length + ys.length) (hc : n ≤ 1099511627776)
  (hv : Rd w v xs) (hvb : v.ownBlock ≠ some g) (hu : Rd w u ys) (hub : u.ownBlock ≠ some g) :
  Calls Tryz.prog 274 #[.slice (some ⟨g, 0, none⟩) n n, v, u] w (RowPost xs ys g w) := by
 have HV := Lib.hid hv
 have HU := Lib.hid hu
 obtain ⟨ao, cap, rfl, -, -, hok, -⟩ := hv.2
 obtain ⟨bo, cap2, rfl, -, -, hok2, -⟩ := hu.2
 have HOK := Lib.hid hok
 have HOK2 := Lib.hid hok2
 have HST0 := Lib.hid (OutSt.start xs ys)
 rw [← hn] at HST0
 have HB := Lib.hid hL
 have hll : xs.length + ys.length ≤ n := by omega
 have hll2 : n ≤ xs.length + ys.length := by omega
 clear hL hok hok2 hn
 go_enter Tryz.func274, Tryz.ntmps274
 go_wp2_with fail
 go_loopw [16] (fun i wr => ∃ (k : Nat) (M : List Nat), k ≤ xs.length ∧ i = .int .i64 (k : Nat) ∧ Blk wr g M ∧ OutSt xs ys k M ∧ w.grownBy wr (some g)) (fun i _ => xs.length - (intOf i).toNat)
 case atStart => exact ⟨0, _, Nat.zero_le _, rfl, HB.out, HST0.out, grown_refl w _⟩
 clear HST0
 case round =>
  obtain ⟨k, M, hk, rfl, hM, hst, hgr⟩ := hrel
  have HM := Lib.hid hM
  have HST := Lib.hid hst
  have HGR := Lib.hid hgr
  have hml : M.length = xs.length + ys.length := hst.1
  clear hM hst hgr
  by_cases hlt : k < xs.length
  ·obtain ⟨x, hx⟩ : ∃ x, xs[k]? = some x := ⟨_, List.getElem?_eq_getElem hlt⟩
   have hxb := HOK.out x (List.mem_of_getElem? hx)
   obtain ⟨ao', cap', e, -, -, -, hsh⟩ := (HV.out.kept HGR.out (fun q hq => by cases hq; exact hvb)).2
   cases e
   obtain ⟨g2, o2, rfl, e2⟩ := hsh k x hx
   have HX := Lib.hid hx
   have HXB := Lib.hid hxb
   clear hsh hx hxb
   by_cases hx0 : x = 0
   ·subst hx0
    have HN := Lib.hid (HST.out.zero HX.out)
    go_wp2_with fail
    have hfin : ∃ (k' : Nat) (M' : List Nat), k' ≤ xs.length ∧ Value.int .i64 ((k : Int) + 1) = .int .i64 (k' : Nat) ∧ Blk wr g M' ∧ OutSt xs ys k' M' ∧ w.grownBy wr (some g) := ⟨k + 1, M, by omega, by go_num, HM.out, HN.out, HGR.out⟩
    first | exact ⟨hfin, by simp [intOf]; omega⟩ | exact ⟨by (repeat apply Exists.intro); exact ⟨hfin, rfl⟩, by simp [intOf]; omega⟩
   ·have hxn : ((x : Int) == 0) = false := by simp [hx0]
    clear hx0
    go_wp2_with fail
    go_loopw [8, 25] (fun cv j w2 => ∃ (q cc : Nat) (M' : List Nat), q ≤ ys.length ∧ j = .int .i64 (q : Nat) ∧ cv = .int .u64 (cc : Nat) ∧ Hid (cc < BB) ∧ Blk w2 g M' ∧ InSt M ys k x q cc M' ∧ w.grownBy w2 (some g)) (fun _ j _ => ys.length - (intOf j).toNat)
    case atStart => exact ⟨0, 0, M, Nat.zero_le _, rfl, rfl, BB_pos, HM.out, InSt.start M ys k x, HGR.out⟩
    clear HM HGR e2
    case round =>
     rename_i w2 _
     obtain ⟨q, cc, M', hq, rfl, rfl, hcc, hM, hst, hgr⟩ := hrel
     have HM := Lib.hid hM
     have HIN := Lib.hid hst
     have HGR := Lib.hid hgr
     have hml' : M'.length = M.length := hst.1
     clear hM hst hgr
     by_cases hqt : q < ys.length
     ·obtain ⟨y, hy⟩ : ∃ y, ys[q]? = some y := ⟨_, List.getElem?_eq_getElem hqt⟩
      obtain ⟨z, hz⟩ : ∃ z, M'[k + q]? = some z := ⟨_, List.getElem?_eq_getElem (by omega)⟩
      have hyb := HOK2.out y (List.mem_of_getElem? hy)
      have hzb := HM.out.2 z (List.mem_of_getElem? hz)
      obtain ⟨hi, lo, hlo, hp, hmul⟩ := mul64_ex x y HXB.out hyb
      obtain ⟨s1, c1, hs1, hc1, h1, hr1⟩ := add64_ex lo cc 0 hlo hcc.out (Nat.zero_le _)
      obtain ⟨h2, hh2⟩ : ∃ h2, h2 = hi + c1 := ⟨_, rfl⟩
      obtain ⟨s2, c2, hs2, hc2, h4, hr2⟩ := add64_ex z s1 0 hzb hs1 (Nat.zero_le _)
      obtain ⟨c3, hc3⟩ : ∃ c3, c3 = h2 + c2 := ⟨_, rfl⟩
      rw [Nat.add_zero] at h1 h4
      obtain ⟨f1, f2, f3⟩ := row_words HXB.out hyb hzb hcc.out hp h1 hh2 h4
      rw [← hc3] at f2 f3
      have HN := Lib.hid (HIN.out.step hz hy f2)
      have HF3 := Lib.hid f3
      have HS := Lib.hid (HM.out.set (k + q) hs2)
      obtain ⟨bo', cap3, e, -, -, -, hsh⟩ := (HU.out.kept HGR.out (fun q hq => by cases hq; exact hub)).2
      cases e
      obtain ⟨g3, o3, rfl, e2⟩ := hsh q y hy
      have e1 := HM.out.cell hz
      have e3 := HM.out.frozen (k + q)
      have HMUL := Lib.hid hmul
      have hr1' : ∀ w : World, (callFunc 286 #[.int .u64 (lo : Nat), .int .u64 (cc : Nat), .int .u64 0]).run Tryz.prog w = .ok (.value (.tuple #[.int .u64 (s1 : Nat), .int .u64 (c1 : Nat)])) w := hr1
      have hr2' : ∀ w : World, (callFunc 286 #[.int .u64 (z : Nat), .int .u64 (s1 : Nat), .int .u64 0]).run Tryz.prog w = .ok (.value (.tuple #[.int .u64 (s2 : Nat), .int .u64 (c2 : Nat)])) w := hr2
      have hw1 : IntKind.u64.wrap ((hi : Int) + (c1 : Int)) = (h2 : Int) := by unfold BB at f1; rw [IntKind.wrap_u64]; omega
      have hw2 : IntKind.u64.wrap ((h2 : Int) + (c2 : Int)) = (c3 : Int) := by unfold BB at f3; rw [IntKind.wrap_u64]; omega
      have HW1 := Lib.hid hw1
      have HW2 := Lib.hid hw2
      clear hsh hy hz hyb hzb hmul hp h1 h4 hh2 hc3 f1 f2 f3 hlo hs1 hs2 hr1 hr2 hw1 hw2
      go_wp2_with fail
      refine (HMUL.out _).mono ?_
      rintro e w' ⟨rfl, rfl⟩
      have hw1 := HW1.out
      have hw2 := HW2.out
      go_wp2_with fail
      exact ⟨⟨q + 1, c3, M'.set (k + q) s2, by omega, by go_num, rfl, HF3.out, HS.out.1, HN.out, grown_set HGR.out HS.out.2⟩, by simp [intOf]; omega⟩
     ·obtain rfl : q = ys.length := by omega
      obtain ⟨hn1, hn2⟩ := HST.out.row HX.out HIN.out
      have HN := Lib.hid hn1
      have HS := Lib.hid (HM.out.set (k + ys.length) hcc.out)
      have e1 := HM.out.cell hn2
      have e3 := HM.out.frozen (k + ys.length)
      clear hn1 hn2 hcc
      go_wp2_with fail
      have hfin : ∃ (k' : Nat) (M2 : List Nat), k' ≤ xs.length ∧ Value.int .i64 ((k : Int) + 1) = .int .i64 (k' : Nat) ∧ Blk (wr.setCell ⟨g, k + ys.length, none⟩ (.int .u64 (cc : Nat))) g M2 ∧ OutSt xs ys k' M2 ∧ w.grownBy (wr.setCell ⟨g, k + ys.length, none⟩ (.int .u64 (cc : Nat))) (some g) := ⟨k + 1, _, by omega, by go_num, HS.out.1, HN.out, grown_set HGR.out HS.out.2⟩
      first | exact ⟨hfin, by simp [intOf]; omega⟩ | exact ⟨by (repeat apply Exists.intro); exact ⟨hfin, rfl⟩, by simp [intOf]; omega⟩
  ·obtain rfl : k = xs.length := by omega
   have HD := Lib.hid HST.out.done
   go_wp2_with fail
   go_end0
   exact ⟨rfl, M, HM.out, HD.out.1, HD.out.2, HGR.out⟩
theorem copy_src (w : World) (o : Obj) {ao : Option Addr} {xs : List Nat} (hsh : ∀ i x, xs[i]? = some x → ∃ g o, ao = some ⟨g, o, none⟩ ∧ w.cell? ⟨g, o + i, none⟩ = some (.int .u64 (x : Nat))) (h0 : 0 < xs.length) :
  ∃ ad, ao = some ad ∧ ∀ (j : Nat) (v : Value), (ws xs)[j]? = some v → (w.alloc o).cell? (ad.add j) = some v := by
 obtain ⟨g, of, rfl, _⟩ := hsh 0 xs[0] (List.getElem?_eq_getElem h0)
 refine ⟨_, rfl, fun j u hu => ?_⟩
 simp only [ws, List.getElem?_map, Option.map_eq_some_iff] at hu
 obtain ⟨x, hx, rfl⟩ := hu
 obtain ⟨g', o', e, hc⟩ := hsh j x hx
 cases e
 have hlt := World.block_lt_of_cell? w _ hc
 have e2 : (⟨g, of, none⟩ : Addr).add j = ⟨g, of + j, none⟩ := by unfold Addr.add; split <;> simp_all
 rw [e2, (below_alloc w o).cell (p := ⟨g, of + j, none⟩) hlt]; exact hc
theorem sum_fin {m : Nat} {xs ys : List Nat} (hx : ok xs) (hy : ok ys) (h1 : xs.length ≤ m) (h2 : ys.length ≤ m) : ∀ M, ok M → Added (xs ++ List.replicate (m + 1 - xs.length) 0) ys 0 M → M.length = m + 1 ∧ val M = val xs + val ys := by
 intro M hM ⟨a1, _, c, a3⟩
 have hl : (xs ++ List.replicate (m + 1 - xs.length) 0).length = m + 1 := by rw [List.length_append, List.length_replicate]; omega
 rw [List.drop_zero, List.drop_zero, hl, val_append, val_replicate, Nat.mul_zero, Nat.add_zero] at a3
 refine ⟨by rw [a1, hl], ?_⟩
 have b1 := val_lt hx
 have b2 := val_lt hy
 exact (no_carry a3 (two_below (Nat.lt_of_lt_of_le b1 (Nat.pow_le_pow_right BB_pos h1)) (Nat.lt_of_lt_of_le b2 (Nat.pow_le_pow_right BB_pos h2)))).2
def SumPost (xs ys : List Nat) (w : World) (e : Ending) (w' : World) : Prop := ∃ g M, e = .returned (.slice (some ⟨g, 0, none⟩) M.length M.length) ∧ w.heap.size ≤ g ∧ Blk w' g M ∧ M.length = max xs.length ys.length + 1 ∧ val M = val xs + val ys ∧ Below w.heap.size w w'
set_option maxRecDepth 100000 in
set_option maxHeartbeats 1000000 in
theorem sum_any (v u : Value) (xs ys : List Nat) (w : World) (hv : Rd w v xs) (hu : Rd w u ys) (hx : xs.length ≤ 549755813888) (hy : ys.length ≤ 549755813888) :
  Calls Tryz.prog 288 #[v, u] w (SumPost xs ys w) := by
 have HV := Lib.hid hv
 have HU := Lib.hid hu
 obtain ⟨ao, cap, rfl, -, -, hok, hsh⟩ := hv.2
 obtain ⟨bo, cap2, rfl, -, -, hok2, -⟩ := hu.2
 have HOK := Lib.hid hok
 have HSH := Lib.hid hsh
 obtain ⟨m, hm⟩ : ∃ m, m = max xs.length ys.length := ⟨_, rfl⟩
 have hm1 : xs.length ≤ m := by omega
 have hm2 : ys.length ≤ m := by omega
 have hm3 : m ≤ 549755813888 := by omega
 have HMK : ∀ w : World, (Instr.makeSlice 59 (.int .i64 ((m : Int) + 1)) (.int .i64 ((m : Int) + 1))).run Tryz.prog w = .ok (.slice (some ⟨w.heap.size, 0, none⟩) (m + 1) (m + 1)) (w.alloc (.cells (madeCells #[.int .u64 0] (m + 1)) 101)) := make_words (m + 1) (by omega)
 have hmx : max (xs.length : Int) (ys.length : Int) = (m : Int) := by omega
 have HM := Lib.hid hm
 have HB := Lib.hid (Blk.made w (m + 1)).1
 have HBL := Lib.hid (below_alloc w (.cells (madeCells #[.int .u64 0] (m + 1)) 101))
 have HCL := Lib.hid (ws_length xs)
 have HMIN : Hid (Nat.min xs.length (m + 1) = xs.length) := Nat.min_eq_left (by omega)
 have HPOS := Lib.hid (copy_src w (.cells (madeCells #[.int .u64 0] (m + 1)) 101) HSH.out)
 have HFIT : Hid (0 + (ws xs).length ≤ (ws (List.replicate (m + 1) 0)).length) := by
  show _ ≤ _
  rw [ws_length, ws_length, List.length_replicate]; omega
 have HFIN := Lib.hid (sum_fin (m := m) hok hok2 hm1 hm2)
 clear hok hok2 hsh hm
 go_enter Tryz.func288, Tryz.ntmps288
 go_wp2_with ((with_reducible refine wpList_copy_splice (o := ⟨some 15, _, _, _, _, _⟩) rfl (.tmp 13) (.tmp 14) 59 59 rfl 101 Tryz.underlying59 Tryz.infoW1 (some ⟨w.heap.size, 0, none⟩) ao (m + 1) (m + 1) xs.length cap rfl rfl w.heap.size 0 (ws (List.replicate (m + 1) 0)) 101 HB.out (ws xs) (by rw [HCL.out, HMIN.out]) (fun h => ⟨rfl, HPOS.out (by rw [← HCL.out]; exact h)⟩) HFIT.out (ws_one _) w.heap.size w HBL.out (Nat.le_refl _) ?_); intro w2 hg2 hb2)
 have HF : Hid (Blk w2 w.heap.size (xs ++ List.replicate (m + 1 - xs.length) 0)) := by
  refine ⟨?_, ok_append HOK.out (ok_replicate _)⟩
  have h1 := hg2.out
  rw [h1]
  congr 2
  simp only [splice, List.take_zero, List.nil_append, Nat.zero_add]
  rw [HCL.out]
  simp [ws]
 have HB2 := Lib.hid hb2
 have HU2 := Lib.hid (HU.out.below hb2)
 have hbo := HU.out.ne (Nat.le_refl w.heap.size)
 clear hg2 hb2
 go_wp2_with fail
 refine (addTo_any w.heap.size 0 (m + 1) (m + 1) (xs ++ List.replicate (m + 1 - xs.length) 0) ys _ _ HF.out (by rw [List.length_append, List.length_replicate]; omega) (Nat.le_refl _) (by omega) HU2.out hbo (by omega)).mono ?_
 rintro e w3 ⟨rfl, M, hM, hadd, hgr⟩
 obtain ⟨hl, hval⟩ := HFIN.out M hM.2 hadd
 have HM3 := Lib.hid hM
 have HL := Lib.hid hl
 have HV3 := Lib.hid hval
 have HB3 : Hid (Below w.heap.size w w3) := Below.grown HB2.out hgr HB2.out.size (fun k hk => by cases hk; exact Nat.le_refl _)
 clear hM hadd hgr hl hval
 go_wp2_with fail
 go_ret
 exact ⟨w.heap.size, M, by rw [HL.out] <;> rfl, Nat.le_refl _, HM3.out, by rw [HL.out, HM.out], HV3.out, HB3.out⟩
end Go.Proofs.YtgfmiladfeoldaaGreatDoor
