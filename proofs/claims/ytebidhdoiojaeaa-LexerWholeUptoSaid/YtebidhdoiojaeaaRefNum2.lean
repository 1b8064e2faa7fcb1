/- Walks of the documents' reading of numbers: Join, value, Read. -/
import Derived.Test.YtebidhdoiojaeaaRefNum
namespace Go.Proofs.Ytebidhdoiojaeaa
open Go.RowKit LexP NumP

def wdCells (l : List Nat) : List Value := l.map fun d => .int .u64 (d : Nat)
theorem wdCells_append (a b : List Nat) : wdCells (a ++ b) = wdCells a ++ wdCells b := by simp [wdCells]
theorem Try.infoU64 : (Try.prog.info? 89).map (fun i => (i.zero, i.size, i.bytes)) = some (some (.int .u64 0), 1, 8) := by kernel_rfl

/-- Words in memory that is the caller's own from block B on. -/
def OwnW (B : Nat) (w : World) (v : Value) (ds : List Nat) : Prop := w.ownsRow B 89 1 v ds.length (wdCells ds)

def JoinPost (ds : List Nat) (w : World) (e : Ending) (w' : World) : Prop := ∃ v, e = .returned v ∧ OwnW w.heap.size w' v (joinL (stripZ ds)) ∧ Below w.heap.size w w'

theorem dig_at {B : Nat} {w : World} {ao : Option Addr} {cap : Nat} {ds : List Nat} (h : OwnD B w (.slice ao ds.length cap) ds) (k d : Nat) (hd : ds[k]? = some d) :
    ∃ g, ao = some ⟨g, 0, none⟩ ∧ B ≤ g ∧ g < w.heap.size ∧ w.cell? ⟨g, k, none⟩ = some (.int .i64 (d : Nat)) := by
  have hlt : k < ds.length := (List.getElem?_eq_some_iff.1 hd).1
  obtain ⟨ao2, cap2, hdv2, -, -, hsh⟩ := ownsRow_shape h
  obtain ⟨g, hao, hbg, hgs, hcell⟩ := hsh (by omega)
  cases hdv2
  exact ⟨g, hao, hbg, hgs, by rw [hcell k (by omega)]; simp [dgCells, hd]⟩

theorem word_bound (l : List Nat) (h : ∀ d ∈ l, d < 65536) (i j : Nat) (hj : 1 ≤ j) : valD ((l.drop (i + j)).take (4 - j)) ≤ 281474976710655 := by
  have h1 := valD_lt ((l.drop (i + j)).take (4 - j)) (fun d hd => h d (List.mem_of_mem_drop (List.mem_of_mem_take hd)))
  have h2 : 65536 ^ ((l.drop (i + j)).take (4 - j)).length ≤ 65536 ^ 3 := Nat.pow_le_pow_right (by omega) (by rw [List.length_take]; omega)
  have h3 : 65536 ^ 3 = 281474976710656 := by decide
  omega

theorem word_step {l : List Nat} {i j : Nat} (hj : j < 4) {d : Nat} (hd : l[i + j]? = some d) : valD ((l.drop (i + j)).take (4 - j)) = d + 65536 * valD ((l.drop (i + (j + 1))).take (4 - (j + 1))) := by
  have hlt : i + j < l.length := (List.getElem?_eq_some_iff.1 hd).1
  have e : l.drop (i + j) = d :: l.drop (i + (j + 1)) := by
    rw [List.drop_eq_getElem_cons hlt]
    have := List.getElem?_eq_getElem hlt
    rw [hd] at this
    rw [Option.some.inj this]; rfl
  rw [e, show 4 - j = (4 - (j + 1)) + 1 from by omega, List.take_succ_cons]; rfl

theorem word_out {l : List Nat} {i j : Nat} (h : l.length ≤ i + j) : valD ((l.drop (i + j)).take (4 - j)) = 0 := by
  rw [List.drop_of_length_le h]; simp [valD]

def JnRel (ds : List Nat) (w1 : World) (B : Nat) (v i : Value) (wr : World) : Prop :=
  ∃ k acc, i = .int .i64 (k : Nat) ∧ k ≤ ds.length + 3 ∧ joinL ds = acc ++ joinL (ds.drop k) ∧ OwnW B wr v acc ∧ Below B w1 wr ∧ acc.length ≤ k

set_option maxRecDepth 100000 in
set_option maxHeartbeats 1000000 in
theorem join_any (B : Nat) (ds0 : List Nat) (dv : Value) (w : World) (hown : OwnD B w dv ds0) (hds : ∀ d ∈ ds0, d < 65536) (hl : ds0.length ≤ 2097152) :
    Calls Try.prog 64 #[dv] w (JoinPost ds0 w) := by
  obtain ⟨i0, hi, hz0, hz1, hz2⟩ := info_parts Try.infoU64
  have hds2 : ∀ d ∈ stripZ ds0, d < 65536 := fun d hd => hds d (by
    unfold stripZ at hd
    rw [List.mem_reverse] at hd
    exact List.mem_reverse.1 ((List.dropWhile_sublist _).subset hd))
  have hl2 : (stripZ ds0).length ≤ 2097152 := by
    have : (stripZ ds0).length ≤ ds0.length := by
      unfold stripZ
      rw [List.length_reverse]
      have := (List.dropWhile_sublist (· == 0) (l := ds0.reverse)).length_le
      rw [List.length_reverse] at this; exact this
    omega
  have HD := Lib.hid hds2
  have HO := Lib.hid hown
  clear hds hds2 hown hl
  go_enter Try.func64, Try.ntmps64
  go_wp2_with fail
  refine (trim_any B ds0 dv w HO.out).mono ?_
  rintro e w' ⟨v, rfl, hov, rfl⟩
  have hjp : ∀ e w', JoinPost ds0 w e w' = ∃ v, e = .returned v ∧ OwnW w.heap.size w' v (joinL (stripZ ds0)) ∧ Below w.heap.size w w' := fun _ _ => rfl
  obtain ⟨ds, hdd⟩ : ∃ ds, ds = stripZ ds0 := ⟨_, rfl⟩
  rw [← hdd] at hov hl2 HD
  have HDD := Lib.hid hdd
  have HV := Lib.hid hov
  obtain ⟨ao, cap, hdv, hnc, hcm, -⟩ := ownsRow_shape hov
  subst hdv
  clear hov hcm hjp hdd
  go_wp2_with (at_make; refine wpList_make_own _ rfl _ _ 47 rfl w.heap.size 89 i0 (.int .u64 0) 1 Try.underlying47 hi hz0 hz1 _ _ _ (ds.length / 4 + 1) rfl rfl ?hC ?b1 ?b2 ?b3 ?_)
  case hC => omega
  case b1 => rw [hz2]; omega
  case b2 => unfold maxLen; omega
  case b3 => exact Nat.le_refl _
  intro w1 hown1 hgrow1
  have hb1 : Below w.heap.size w w1 := Below.grown (Below.refl _ _) hgrow1 (Nat.le_refl _) (fun k hk => by cases hk)
  have HOW := Lib.hid hown1
  have HB1 := Lib.hid hb1
  clear hown1 hgrow1 hb1
  go_wp2_with fail
  go_loopw [3, 4] (fun v i wr => JnRel ds w w.heap.size v i wr) (fun _ i _ => ds.length + 3 - (intOf i).toNat)
  case atStart => exact ⟨0, [], rfl, by omega, rfl, HOW.out, HB1.out, Nat.le_refl _⟩
  case round =>
    obtain ⟨k, acc, rfl, hk, hjn, hown, hb, hal⟩ := hrel
    have HJN := Lib.hid hjn
    have HVR : Hid (OwnD B wr (.slice ao ds.length cap) ds) := ownsRow_below HV.out hb (Nat.le_refl _)
    have hzz := hb.size
    clear hjn
    by_cases hlt : k < ds.length
    · have hne : ds.drop k ≠ [] := by rw [Ne, List.drop_eq_nil_iff]; omega
      have HJ1 := Lib.hid (joinL_cons hne)
      clear hne
      go_wp2_with fail
      go_loop [5, 6] (fun wd kk => ∃ j : Nat, j ≤ 4 ∧ kk = .int .i64 ((j : Int) - 1) ∧ wd = .int .u64 (valD ((ds.drop (k + j)).take (4 - j)) : Nat)) (fun _ kk => (intOf kk + 1).toNat)
      case atStart => exact ⟨4, Nat.le_refl _, by rfl, by simp [valD]⟩
      case round =>
        obtain ⟨j, hj, rfl, rfl⟩ := hrel
        by_cases hj0 : 0 < j
        · have hbd := word_bound ds HD.out k j hj0
          have hi1 : (0 : Int) ≤ (k : Int) + ((j : Int) - 1) := by omega
          by_cases hin : k + (j - 1) < ds.length
          · obtain ⟨d, hd⟩ : ∃ d, ds[k + (j - 1)]? = some d := ⟨_, List.getElem?_eq_getElem hin⟩
            have hd2 := HD.out d (List.mem_of_getElem? hd)
            have hst := word_step (l := ds) (i := k) (j := j - 1) (by omega) hd
            rw [show j - 1 + 1 = j from by omega] at hst
            obtain ⟨g, hao, hbg, hgs, e1⟩ := dig_at HVR.out _ d hd
            subst hao
            have hi2 : ((k : Int) + ((j : Int) - 1)).toNat = k + (j - 1) := by omega
            have hlt2 : (k : Int) + ((j : Int) - 1) < (ds.length : Int) := by omega
            generalize valD ((ds.drop (k + j)).take (4 - j)) = X at *
            have HST := Lib.hid hst
            clear hd hst
            go_wp2_with fail
            exact ⟨⟨j - 1, by omega, by show Value.int .i64 _ = _; congr 1; omega, by rw [HST.out]; show Value.int .u64 _ = _; congr 1; omega⟩, by simp [intOf] <;> omega⟩
          · have hx0 : valD ((ds.drop (k + j)).take (4 - j)) = 0 := word_out (by omega)
            have HX1 := Lib.hid (word_out (l := ds) (i := k) (j := j - 1) (by omega))
            have hge : ¬ (k : Int) + ((j : Int) - 1) < (ds.length : Int) := by omega
            rw [hx0] at *
            have HX0 := Lib.hid hx0
            clear hx0 hbd
            go_wp2_with fail
            exact ⟨⟨j - 1, by omega, by show Value.int .i64 _ = _; congr 1; omega, by rw [HX1.out]; rfl⟩, by simp [intOf] <;> omega⟩
        · obtain rfl : j = 0 := by omega
          have hbw := valD_lt ((ds.drop k).take 4) (fun d hd => HD.out d (List.mem_of_mem_drop (List.mem_of_mem_take hd)))
          rw [Nat.add_zero, Nat.sub_zero]
          generalize hX : valD ((ds.drop k).take 4) = X at *
          have HX : Hid (word4 (ds.drop k) = X) := hX
          clear hX hbw
          go_wp2_with (at_builtin; refine wpList_append_own _ rfl _ _ 47 rfl w.heap.size 89 i0 (.int .u64 0) 1 8 Try.underlying47 hi hz0 hz1 hz2 rfl (by decide) _ _ _ rfl (World.ownsRow.alloc hown _) ⟨wr.heap.size, 0, none⟩ 1 1 [.int .u64 X] rfl rfl ?c1 ?c2 ?c3 ?c4 ?c5 ?_)
          case c2 => rfl
          case c3 => unfold maxLen; omega
          case c4 => omega
          case c5 => have := HB1.out.size; simp; omega
          intro v3 w3 hown3 hgrow3 _
          have hfin : JnRel ds w w.heap.size v3 (.int .i64 (k + 4)) w3 := by
            refine ⟨k + 4, acc ++ [X], by go_num, by omega, ?_, ?_, Below.grown (hb.alloc (by have := HB1.out.size; omega) _) hgrow3 (by have := HB1.out.size; simp; omega) (fun q hq => (World.ownsRow.lt hown q hq).1), by simp; omega⟩
            · rw [HJN.out, HJ1.out, HX.out, List.drop_drop]; simp
            · show World.ownsRow _ _ _ _ _ _ _
              rw [wdCells_append, List.length_append]; exact hown3
          have HF := Lib.hid hfin
          clear hown3 hgrow3 hfin
          go_wp2_with fail
          first | exact ⟨HF.out, by simp [intOf] <;> omega⟩ | exact ⟨by (repeat apply Exists.intro); exact ⟨HF.out, rfl⟩, by simp [intOf] <;> omega⟩
    · go_wp2_with fail
      go_ret
      have h1 := HJN.out
      rw [List.drop_of_length_le (by omega), joinL_nil, List.append_nil] at h1
      refine ⟨_, rfl, ?_, hb⟩
      rw [← HDD.out, h1]; exact hown
end Go.Proofs.Ytebidhdoiojaeaa
