/- Walks of mulnat.addTo, mulnat.subFrom: a number added to, or taken off, the words of a block. -/
import Derived.Test.YtebidhdoiojaeaaNum2
import Derived.Shelf.Spec.BitsCarry
import Derived.StillTailTactics
import Derived.Deep.RegionLaw
namespace Go.Proofs.Ytebidhdoiojaeaa
open Go.RowKit NatP

theorem add64_ex (x y c : Nat) (hx : x < BB) (hy : y < BB) (hc : c ≤ 1) : ∃ s c' : Nat, s < BB ∧ c' ≤ 1 ∧ s + BB * c' = x + y + c ∧
    ∀ w : World, (callFunc 88 #[.int .u64 (x : Nat), .int .u64 (y : Nat), .int .u64 (c : Nat)]).run Try.prog w = .ok (.value (.tuple #[.int .u64 (s : Nat), .int .u64 (c' : Nat)])) w := by
  unfold BB at *
  refine ⟨(x + y + c) % 18446744073709551616, (x + y + c) / 18446744073709551616, by omega, by omega, by omega, fun w => ?_⟩
  rw [run_callFunc_extern Try.func88 (by kernel_rfl) (by kernel_rfl) (by kernel_rfl) (e := add64Entry) (by kernel_rfl), run_add64 x y c (by omega) (by omega) (by omega) (by omega)]
  simp only [Result.andThen]
  congr 5 <;> omega

theorem sub64_ex (x y c : Nat) (hx : x < BB) (hy : y < BB) (hc : c ≤ 1) : ∃ s c' : Nat, s < BB ∧ c' ≤ 1 ∧ s + y + c = x + BB * c' ∧
    ∀ w : World, (callFunc 96 #[.int .u64 (x : Nat), .int .u64 (y : Nat), .int .u64 (c : Nat)]).run Try.prog w = .ok (.value (.tuple #[.int .u64 (s : Nat), .int .u64 (c' : Nat)])) w := by
  unfold BB at *
  refine ⟨(x + 18446744073709551616 - y - c) % 18446744073709551616, (if x < y + c then 1 else 0), by omega, by split <;> omega, by split <;> omega, fun w => ?_⟩
  rw [run_callFunc_extern Try.func96 (by kernel_rfl) (by kernel_rfl) (by kernel_rfl) (e := sub64Entry) (by kernel_rfl), run_sub64 x y c hc]
  rfl

/-- While words are added: of the words from o on i are done. -/
def AddSt (L ys : List Nat) (o i c : Nat) (M : List Nat) : Prop :=
  M.length = L.length ∧ M.take o = L.take o ∧ M.drop (o + i) = L.drop (o + i) ∧ val ((M.drop o).take i) + BB ^ i * c = val ((L.drop o).take i) + val (ys.take i)

theorem AddSt.start (L ys : List Nat) (o : Nat) : AddSt L ys o 0 0 L := ⟨rfl, rfl, rfl, by simp [val]⟩

theorem AddSt.at {L ys M : List Nat} {o i c z : Nat} (h : AddSt L ys o i c M) (hz : M[o + i]? = some z) : L[o + i]? = some z := by
  have h1 := congrArg (fun l => l[0]?) h.2.2.1
  simp only [List.getElem?_drop, Nat.add_zero] at h1
  rw [← h1]; exact hz

theorem AddSt.step {L ys M : List Nat} {o i c z y s c' : Nat} (h : AddSt L ys o i c M) (hz : M[o + i]? = some z) (hy : (ys[i]? = some y) ∨ (ys.length ≤ i ∧ y = 0)) (hs : s + BB * c' = z + y + c) :
    AddSt L ys o (i + 1) c' (M.set (o + i) s) := by
  have hLz := h.at hz
  obtain ⟨h1, h2, h3, h4⟩ := h
  have hlt : o + i < M.length := (List.getElem?_eq_some_iff.1 hz).1
  refine ⟨by rw [List.length_set, h1], by rw [set_take _ (by omega), h2], ?_, ?_⟩
  · rw [show o + (i + 1) = o + i + 1 from by omega, set_drop]
    have := congrArg (List.drop 1) h3
    rw [List.drop_drop, List.drop_drop] at this
    exact this
  · rw [set_mid _ hlt]
    have hLl : o + i < L.length := (List.getElem?_eq_some_iff.1 hLz).1
    have e1 : (L.drop o).take (i + 1) = (L.drop o).take i ++ [z] := by
      rw [List.take_add_one, List.getElem?_drop, hLz]; rfl
    have e2 : val (ys.take (i + 1)) = val (ys.take i) + BB ^ i * y := by
      rcases hy with hy | ⟨hy, rfl⟩
      · have hyl : i < ys.length := (List.getElem?_eq_some_iff.1 hy).1
        rw [val_take_succ hyl]
        have : ys[i] = y := by rw [List.getElem?_eq_getElem hyl] at hy; exact Option.some.inj hy
        rw [this]
      · rw [List.take_of_length_le (by omega), List.take_of_length_le (by omega)]; simp
    rw [e1, e2, val_snoc, val_snoc, List.length_take, List.length_take, List.length_drop, List.length_drop, Nat.min_eq_left (by omega), Nat.min_eq_left (by omega), Nat.pow_succ]
    exact carry_add h4 hs

/-- What a block holds behind an addition. -/
def Added (L ys : List Nat) (o : Nat) (M : List Nat) : Prop := M.length = L.length ∧ M.take o = L.take o ∧ ∃ c, val (M.drop o) + BB ^ (L.length - o) * c = val (L.drop o) + val ys

theorem AddSt.done_all {L ys M : List Nat} {o i c : Nat} (h : AddSt L ys o i c M) (hi : o + i = L.length) (hy : ys.length ≤ i) : Added L ys o M := by
  obtain ⟨h1, h2, h3, h4⟩ := h
  refine ⟨h1, h2, c, ?_⟩
  rw [List.take_of_length_le (by rw [List.length_drop]; omega), List.take_of_length_le (by rw [List.length_drop]; omega), List.take_of_length_le hy] at h4
  rw [show L.length - o = i from by omega]; exact h4

theorem AddSt.done_zero {L ys M : List Nat} {o i : Nat} (h : AddSt L ys o i 0 M) (hi : o + i ≤ L.length) (hy : ys.length ≤ i) : Added L ys o M := by
  obtain ⟨h1, h2, h3, h4⟩ := h
  refine ⟨h1, h2, 0, ?_⟩
  rw [List.take_of_length_le hy] at h4
  have e1 := val_split (M.drop o) i (by rw [List.length_drop]; omega)
  have e2 := val_split (L.drop o) i (by rw [List.length_drop]; omega)
  rw [List.drop_drop] at e1 e2
  rw [e1, e2, h3]
  simp only [Nat.mul_zero, Nat.add_zero] at h4 ⊢
  omega

def AddPost (L ys : List Nat) (g o : Nat) (w : World) (e : Ending) (w' : World) : Prop := e = .returned (.tuple #[]) ∧ ∃ M, Blk w' g M ∧ Added L ys o M ∧ w.grownBy w' (some g)

theorem grown_set {w0 w : World} {g : Nat} (h : w0.grownBy w (some g)) {w' : World} (h2 : w.grownBy w' (some g)) : w0.grownBy w' (some g) :=
  ⟨h2.os.trans h.os, h2.tape.trans h.tape, h2.output.trans h.output, Nat.le_trans h.size h2.size, fun k hk hn => (h2.block k (Nat.lt_of_lt_of_le hk h.size) hn).trans (h.block k hk hn)⟩
theorem grown_refl (w : World) (row : Option Nat) : w.grownBy w row := ⟨rfl, rfl, rfl, Nat.le_refl _, fun _ _ _ => rfl⟩
theorem grown_drewN (w : World) (n : Nat) (row : Option Nat) : w.grownBy (w.drewN n) row := ⟨rfl, rfl, rfl, Nat.le_refl _, fun _ _ _ => rfl⟩

set_option maxRecDepth 100000 in
set_option maxHeartbeats 1000000 in
theorem addTo_any (g o n c : Nat) (L ys : List Nat) (v : Value) (w : World) (hL : Blk w g L) (hn : o + n = L.length) (hnc : n ≤ c) (hc : c ≤ 1099511627776) (hv : Rd w v ys) (hvb : v.ownBlock ≠ some g) (hy : ys.length ≤ n) :
    Calls Try.prog 91 #[.slice (some ⟨g, o, none⟩) n c, v] w (AddPost L ys g o w) := by
  have HV := Lib.hid hv
  obtain ⟨ao, cap, rfl, -, hcm, hok, hsh⟩ := hv.2
  have HB := Lib.hid hL
  have HOK := Lib.hid hok
  have hll : o + n ≤ L.length := by omega
  have HLL := Lib.hid hn
  clear hL hok hsh hcm hn
  go_enter Try.func91, Try.ntmps91
  go_wp2_with fail
  go_loopw [4, 9] (fun cv i wr => ∃ (k cc : Nat) (M : List Nat), k ≤ ys.length ∧ i = .int .i64 (k : Nat) ∧ cv = .int .u64 (cc : Nat) ∧ cc ≤ 1 ∧ Blk wr g M ∧ AddSt L ys o k cc M ∧ w.grownBy wr (some g)) (fun _ i _ => ys.length - (intOf i).toNat)
  case atStart => exact ⟨0, 0, L, Nat.zero_le _, rfl, rfl, Nat.zero_le _, HB.out, AddSt.start L ys o, grown_refl w _⟩
  case round =>
    obtain ⟨k, cc, M, hk, rfl, rfl, hcc, hM, hst, hgr⟩ := hrel
    have HM := Lib.hid hM
    have HST := Lib.hid hst
    have HGR := Lib.hid hgr
    have hml : M.length = L.length := hst.1
    clear hM hst hgr
    by_cases hlt : k < ys.length
    · obtain ⟨y, hyy⟩ : ∃ y, ys[k]? = some y := ⟨_, List.getElem?_eq_getElem hlt⟩
      obtain ⟨z, hz⟩ : ∃ z, M[o + k]? = some z := ⟨_, List.getElem?_eq_getElem (by omega)⟩
      obtain ⟨s, c', hs1, hs2, hs3, hrun⟩ := add64_ex z y cc (HM.out.2 z (List.mem_of_getElem? hz)) (HOK.out y (List.mem_of_getElem? hyy)) hcc
      obtain ⟨ao', cap', e, -, -, -, hsh⟩ := (HV.out.kept HGR.out (fun q hq => by cases hq; exact hvb)).2
      cases e
      obtain ⟨g2, o2, rfl, e2⟩ := hsh k y hyy
      have e1 := HM.out.cell hz
      have e3 := HM.out.frozen (o + k)
      have HN := Lib.hid (HST.out.step hz (.inl hyy) hs3)
      have HS := Lib.hid (Blk.set (w := wr.drewN 1) HM.out (o + k) hs1)
      have hi0 : (0 : Int) ≤ (k : Int) := Int.natCast_nonneg _
      have hi1 : (k : Int) < (n : Int) := by omega
      have hi2 : (k : Int) < (ys.length : Int) := by omega
      clear hyy hz hsh hs3
      go_wp2_with fail
      go_region_law (fail)
      all_goals
        go_wp2_with fail
        have hfin : ∃ (k' cc' : Nat) (M' : List Nat), k' ≤ ys.length ∧ Value.int .i64 ((k : Int) + 1) = .int .i64 (k' : Nat) ∧ Value.int .u64 (c' : Nat) = .int .u64 (cc' : Nat) ∧ cc' ≤ 1 ∧ Blk ((wr.drewN 1).setCell ⟨g, o + k, none⟩ (.int .u64 (s : Nat))) g M' ∧ AddSt L ys o k' cc' M' ∧ w.grownBy ((wr.drewN 1).setCell ⟨g, o + k, none⟩ (.int .u64 (s : Nat))) (some g) :=
          ⟨k + 1, c', M.set (o + k) s, by omega, by go_num, rfl, hs2, HS.out.1, HN.out, grown_set (grown_set HGR.out (grown_drewN wr 1 _)) HS.out.2⟩
        first | exact ⟨hfin, by simp [intOf]; omega⟩ | exact ⟨by (repeat apply Exists.intro); exact ⟨hfin, rfl⟩, by simp [intOf]; omega⟩
    · obtain rfl : k = ys.length := by omega
      have hyn := hy
      clear hlt hk hy
      go_wp2_with fail
      go_loopw [4, 6] (fun cv i wr => ∃ (k cc : Nat) (M : List Nat), ys.length ≤ k ∧ k ≤ n ∧ i = .int .i64 (k : Nat) ∧ cv = .int .u64 (cc : Nat) ∧ cc ≤ 1 ∧ Blk wr g M ∧ AddSt L ys o k cc M ∧ w.grownBy wr (some g)) (fun _ i _ => n - (intOf i).toNat)
      case atStart => exact ⟨ys.length, cc, M, Nat.le_refl _, hyn, rfl, rfl, hcc, HM.out, HST.out, HGR.out⟩
      clear HM HST HGR hml hcc
      case round =>
        obtain ⟨k, cc, M, hyk, hk, rfl, rfl, hcc, hM, hst, hgr⟩ := hrel
        have HM := Lib.hid hM
        have HST := Lib.hid hst
        have HGR := Lib.hid hgr
        have hml : M.length = L.length := hst.1
        clear hM hst hgr
        by_cases hc0 : cc = 0
        · subst hc0
          have HD := Lib.hid (HST.out.done_zero (by omega) hyk)
          go_wp2_with fail
          go_end0
          exact ⟨rfl, M, HM.out, HD.out, HGR.out⟩
        · have hcb : ((cc : Int) != 0) = true := by simp; omega
          by_cases hlt : k < n
          · obtain ⟨z, hz⟩ : ∃ z, M[o + k]? = some z := ⟨_, List.getElem?_eq_getElem (by omega)⟩
            obtain ⟨s, c', hs1, hs2, hs3, hrun⟩ := add64_ex z 0 cc (HM.out.2 z (List.mem_of_getElem? hz)) BB_pos hcc
            have hrun2 : ∀ w : World, (callFunc 88 #[.int .u64 (z : Nat), .int .u64 0, .int .u64 (cc : Nat)]).run Try.prog w = .ok (.value (.tuple #[.int .u64 (s : Nat), .int .u64 (c' : Nat)])) w := hrun
            have e1 := HM.out.cell hz
            have e3 := HM.out.frozen (o + k)
            have HN := Lib.hid (HST.out.step (y := 0) hz (.inr ⟨hyk, rfl⟩) hs3)
            have HS := Lib.hid (HM.out.set (o + k) hs1)
            have hi0 : (0 : Int) ≤ (k : Int) := Int.natCast_nonneg _
            have hi1 : (k : Int) < (n : Int) := by omega
            clear hz hs3 hrun
            go_wp2_with fail
            have hfin : ∃ (k' cc' : Nat) (M' : List Nat), ys.length ≤ k' ∧ k' ≤ n ∧ Value.int .i64 ((k : Int) + 1) = .int .i64 (k' : Nat) ∧ Value.int .u64 (c' : Nat) = .int .u64 (cc' : Nat) ∧ cc' ≤ 1 ∧ Blk (wr.setCell ⟨g, o + k, none⟩ (.int .u64 (s : Nat))) g M' ∧ AddSt L ys o k' cc' M' ∧ w.grownBy (wr.setCell ⟨g, o + k, none⟩ (.int .u64 (s : Nat))) (some g) :=
              ⟨k + 1, c', M.set (o + k) s, by omega, by omega, by go_num, rfl, hs2, HS.out.1, HN.out, grown_set HGR.out HS.out.2⟩
            first | exact ⟨hfin, by simp [intOf]; omega⟩ | exact ⟨by (repeat apply Exists.intro); exact ⟨hfin, rfl⟩, by simp [intOf]; omega⟩
          · have HD := Lib.hid (HST.out.done_all (by have := HLL.out; omega) hyk)
            go_wp2_with fail
            go_end0
            exact ⟨rfl, M, HM.out, HD.out, HGR.out⟩

/-- While words are taken off: i words are done. -/
def SubSt (L ys : List Nat) (i c : Nat) (M : List Nat) : Prop :=
  M.length = L.length ∧ M.drop i = L.drop i ∧ val (M.take i) + val (ys.take i) = val (L.take i) + BB ^ i * c

theorem SubSt.start (L ys : List Nat) : SubSt L ys 0 0 L := ⟨rfl, rfl, by simp [val]⟩

theorem carry_sub {P X Y Z x y c s c' : Nat} (h : Z + Y = X + P * c) (hs : s + y + c = x + BB * c') : (Z + P * s) + (Y + P * y) = (X + P * x) + P * BB * c' := by
  have h1 : P * s + P * y + P * c = P * x + P * (BB * c') := by rw [← Nat.mul_add, ← Nat.mul_add, hs, Nat.mul_add]
  rw [Nat.mul_assoc]
  omega

theorem SubSt.step {L ys M : List Nat} {i c z y s c' : Nat} (h : SubSt L ys i c M) (hz : M[i]? = some z) (hy : (ys[i]? = some y) ∨ (ys.length ≤ i ∧ y = 0)) (hs : s + y + c = z + BB * c') :
    SubSt L ys (i + 1) c' (M.set i s) := by
  obtain ⟨h1, h3, h4⟩ := h
  have hlt : i < M.length := (List.getElem?_eq_some_iff.1 hz).1
  have hLz : L[i]? = some z := by
    have h5 := congrArg (fun l => l[0]?) h3
    simp only [List.getElem?_drop, Nat.add_zero] at h5
    rw [← h5]; exact hz
  have hLl : i < L.length := (List.getElem?_eq_some_iff.1 hLz).1
  refine ⟨by rw [List.length_set, h1], ?_, ?_⟩
  · rw [set_drop]
    have := congrArg (List.drop 1) h3
    rw [List.drop_drop, List.drop_drop] at this
    exact this
  · have hmid := set_mid (l := M) (o := 0) (i := i) s (by omega)
    rw [List.drop_zero, List.drop_zero, Nat.zero_add] at hmid
    rw [hmid]
    have e1 : L.take (i + 1) = L.take i ++ [z] := by rw [List.take_add_one, hLz]; rfl
    have e2 : val (ys.take (i + 1)) = val (ys.take i) + BB ^ i * y := by
      rcases hy with hy | ⟨hy, rfl⟩
      · have hyl : i < ys.length := (List.getElem?_eq_some_iff.1 hy).1
        rw [val_take_succ hyl]
        have : ys[i] = y := by rw [List.getElem?_eq_getElem hyl] at hy; exact Option.some.inj hy
        rw [this]
      · rw [List.take_of_length_le (by omega), List.take_of_length_le (by omega)]; simp
    rw [e1, e2, val_snoc, val_snoc, List.length_take, List.length_take, Nat.min_eq_left (by omega), Nat.min_eq_left (by omega), Nat.pow_succ]
    exact carry_sub h4 hs

/-- What a block holds behind a subtraction. -/
theorem SubSt.done_zero {L ys M : List Nat} {i : Nat} (h : SubSt L ys i 0 M) (hi : i ≤ L.length) (hy : ys.length ≤ i) : M.length = L.length ∧ val M + val ys = val L := by
  obtain ⟨h1, h3, h4⟩ := h
  refine ⟨h1, ?_⟩
  rw [List.take_of_length_le hy] at h4
  have e1 := val_split M i (by omega)
  have e2 := val_split L i hi
  rw [e1, e2, h3]
  simp only [Nat.mul_zero, Nat.add_zero] at h4
  omega
theorem SubSt.done_all {L ys M : List Nat} {c : Nat} (h : SubSt L ys L.length c M) (hM : ok M) (hy : ys.length ≤ L.length) (hle : val ys ≤ val L) : M.length = L.length ∧ val M + val ys = val L := by
  obtain ⟨h1, h3, h4⟩ := h
  refine ⟨h1, ?_⟩
  rw [List.take_of_length_le hy, List.take_of_length_le (by omega), List.take_length] at h4
  have h5 := val_lt hM
  rw [h1] at h5
  cases c with
  | zero => simpa using h4
  | succ c =>
    rw [Nat.mul_succ] at h4
    omega

def SubPost (L ys : List Nat) (g : Nat) (w : World) (e : Ending) (w' : World) : Prop := e = .returned (.tuple #[]) ∧ ∃ M, Blk w' g M ∧ M.length = L.length ∧ val M + val ys = val L ∧ w.grownBy w' (some g)

set_option maxRecDepth 100000 in
set_option maxHeartbeats 1000000 in
theorem subFrom_any (g n c : Nat) (L ys : List Nat) (v : Value) (w : World) (hL : Blk w g L) (hn : n = L.length) (hnc : n ≤ c) (hc : c ≤ 1099511627776) (hv : Rd w v ys) (hvb : v.ownBlock ≠ some g) (hy : ys.length ≤ n) (hle : val ys ≤ val L) :
    Calls Try.prog 95 #[.slice (some ⟨g, 0, none⟩) n c, v] w (SubPost L ys g w) := by
  have HV := Lib.hid hv
  obtain ⟨ao, cap, rfl, -, hcm, hok, hsh⟩ := hv.2
  have HB := Lib.hid hL
  have HOK := Lib.hid hok
  have HLE := Lib.hid hle
  have hll : n ≤ L.length := by omega
  have HLL := Lib.hid hn
  clear hL hok hsh hcm hn hle
  go_enter Try.func95, Try.ntmps95
  go_wp2_with fail
  go_loopw [4, 9] (fun cv i wr => ∃ (k cc : Nat) (M : List Nat), k ≤ n ∧ i = .int .i64 (k : Nat) ∧ cv = .int .u64 (cc : Nat) ∧ cc ≤ 1 ∧ Blk wr g M ∧ SubSt L ys k cc M ∧ w.grownBy wr (some g)) (fun _ i _ => n - (intOf i).toNat)
  case atStart => exact ⟨0, 0, L, Nat.zero_le _, rfl, rfl, Nat.zero_le _, HB.out, SubSt.start L ys, grown_refl w _⟩
  case round =>
    obtain ⟨k, cc, M, hk, rfl, rfl, hcc, hM, hst, hgr⟩ := hrel
    have HM := Lib.hid hM
    have HST := Lib.hid hst
    have HGR := Lib.hid hgr
    have hml : M.length = L.length := hst.1
    clear hM hst hgr
    by_cases hlt : k < n
    · obtain ⟨z, hz⟩ : ∃ z, M[k]? = some z := ⟨_, List.getElem?_eq_getElem (by omega)⟩
      have e1 := HM.out.cell hz
      have e3 := HM.out.frozen k
      have hi0 : (0 : Int) ≤ (k : Int) := Int.natCast_nonneg _
      have hi1 : (k : Int) < (n : Int) := by omega
      by_cases hky : k < ys.length
      · obtain ⟨y, hyy⟩ : ∃ y, ys[k]? = some y := ⟨_, List.getElem?_eq_getElem hky⟩
        obtain ⟨s, c', hs1, hs2, hs3, hrun⟩ := sub64_ex z y cc (HM.out.2 z (List.mem_of_getElem? hz)) (HOK.out y (List.mem_of_getElem? hyy)) hcc
        obtain ⟨ao', cap', e, -, -, -, hsh⟩ := (HV.out.kept HGR.out (fun q hq => by cases hq; exact hvb)).2
        cases e
        obtain ⟨g2, o2, rfl, e2⟩ := hsh k y hyy
        have HN := Lib.hid (HST.out.step hz (.inl hyy) hs3)
        have HS := Lib.hid (HM.out.set k hs1)
        clear hyy hz hsh hs3
        go_wp2_with fail
        have hfin : ∃ (k' cc' : Nat) (M' : List Nat), k' ≤ n ∧ Value.int .i64 ((k : Int) + 1) = .int .i64 (k' : Nat) ∧ Value.int .u64 (c' : Nat) = .int .u64 (cc' : Nat) ∧ cc' ≤ 1 ∧ Blk (wr.setCell ⟨g, k, none⟩ (.int .u64 (s : Nat))) g M' ∧ SubSt L ys k' cc' M' ∧ w.grownBy (wr.setCell ⟨g, k, none⟩ (.int .u64 (s : Nat))) (some g) :=
          ⟨k + 1, c', M.set k s, by omega, by go_num, rfl, hs2, HS.out.1, HN.out, grown_set HGR.out HS.out.2⟩
        first | exact ⟨hfin, by simp [intOf]; omega⟩ | exact ⟨by (repeat apply Exists.intro); exact ⟨hfin, rfl⟩, by simp [intOf]; omega⟩
      · by_cases hc0 : cc = 0
        · subst hc0
          have HD := Lib.hid (HST.out.done_zero (by omega) (by omega))
          clear hz
          go_wp2_with fail
          refine bodyPost_ret (results_none rfl _ _ _) rfl ?_
          exact ⟨rfl, M, HM.out, HD.out.1, HD.out.2, HGR.out⟩
        · have hcb : ((cc : Int) == 0) = false := by simp; omega
          obtain ⟨s, c', hs1, hs2, hs3, hrun⟩ := sub64_ex z 0 cc (HM.out.2 z (List.mem_of_getElem? hz)) BB_pos hcc
          have hrun2 : ∀ w : World, (callFunc 96 #[.int .u64 (z : Nat), .int .u64 0, .int .u64 (cc : Nat)]).run Try.prog w = .ok (.value (.tuple #[.int .u64 (s : Nat), .int .u64 (c' : Nat)])) w := hrun
          have HN := Lib.hid (HST.out.step (y := 0) hz (.inr ⟨by omega, rfl⟩) hs3)
          have HS := Lib.hid (HM.out.set k hs1)
          clear hz hs3 hrun
          go_wp2_with fail
          have hfin : ∃ (k' cc' : Nat) (M' : List Nat), k' ≤ n ∧ Value.int .i64 ((k : Int) + 1) = .int .i64 (k' : Nat) ∧ Value.int .u64 (c' : Nat) = .int .u64 (cc' : Nat) ∧ cc' ≤ 1 ∧ Blk (wr.setCell ⟨g, k, none⟩ (.int .u64 (s : Nat))) g M' ∧ SubSt L ys k' cc' M' ∧ w.grownBy (wr.setCell ⟨g, k, none⟩ (.int .u64 (s : Nat))) (some g) :=
            ⟨k + 1, c', M.set k s, by omega, by go_num, rfl, hs2, HS.out.1, HN.out, grown_set HGR.out HS.out.2⟩
          first | exact ⟨hfin, by simp [intOf]; omega⟩ | exact ⟨by (repeat apply Exists.intro); exact ⟨hfin, rfl⟩, by simp [intOf]; omega⟩
    · obtain rfl : k = n := by omega
      have HD : Hid (M.length = L.length ∧ val M + val ys = val L) := SubSt.done_all (by rw [← HLL.out]; exact HST.out) HM.out.2 (by omega) HLE.out
      go_wp2_with fail
      go_end0
      exact ⟨rfl, M, HM.out, HD.out.1, HD.out.2, HGR.out⟩
end Go.Proofs.Ytebidhdoiojaeaa
