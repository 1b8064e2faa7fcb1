/- Walks of nat.own, nat.Least: a number in least form, in memory of its own. -/
import Derived.Test.YtebidhdoiojaeaaNum1
namespace Go.Proofs.Ytebidhdoiojaeaa
open Go.RowKit NatP

/-- An array of words of length n, zero: what make lays. -/
theorem make_words (n : Nat) (hn : n ≤ 1099511627776) : ∀ w : World, (Instr.makeSlice 47 (.int .i64 (n : Int)) (.int .i64 (n : Int))).run Try.prog w = .ok (.slice (some ⟨w.heap.size, 0, none⟩) n n) (w.alloc (.cells (madeCells #[.int .u64 0] n) 89)) := by
  obtain ⟨i0, hi, hz0, hz1, hz2⟩ := info_parts Try.infoW
  intro w
  have hb : (i0.bytes : Int) * (n : Int) ≤ 281474976710656 := by rw [hz2]; omega
  have hr := run_make (P := Try.prog) w 47 89 i0 (.int .u64 0) Try.underlying47 hi hz0 .i64 .i64 n n (by omega) (Int.le_refl _) hb (by omega)
  simp only [Int.toNat_natCast] at hr
  rw [hr, hz1, Nat.mul_one]
  rfl

theorem below_alloc (w : World) (o : Obj) : Below w.heap.size w (w.alloc o) := (Below.refl _ _).alloc (Nat.le_refl _) o

set_option maxRecDepth 100000 in
set_option maxHeartbeats 1000000 in
theorem own_any (v : Value) (xs : List Nat) (w : World) (hr : Rd w v xs) (hl : xs.length ≤ 1099511627776) :
    Calls Try.prog 74 #[v] w (NewPost (strip xs) w) := by
  have HR := Lib.hid hr
  obtain ⟨ao, cap, rfl, hnc, hcm, hok, hsh⟩ := hr.2
  have hsl := strip_le xs
  have HT := Lib.hid (strip_take xs).1
  have HOK := Lib.hid (ok_strip hok)
  have HSH := Lib.hid hsh
  have HMK := make_words (strip xs).length (by omega)
  clear hsh hcm hok
  go_enter Try.func74, Try.ntmps74
  go_wp2_with fail
  refine (size_any _ xs _ HR.out).mono ?_
  rintro e w' ⟨rfl, rfl⟩
  generalize hns : (strip xs).length = n at *
  have HN := Lib.hid hns
  clear hns
  have HB := Lib.hid (Blk.made w n).1
  have HBL := Lib.hid (below_alloc w (.cells (madeCells #[.int .u64 0] n) 89))
  have hcl : (ws (strip xs)).length = n := by rw [ws_length, HN.out]
  have HCL := Lib.hid hcl
  have hmin : Nat.min xs.length n = n := Nat.min_eq_right (by omega)
  have HMIN := Lib.hid hmin
  clear hcl hmin
  have HPOS : Hid (0 < (ws (strip xs)).length → ∃ ad, ao = some ad ∧ ∀ (j : Nat) (v : Value), (ws (strip xs))[j]? = some v → (w.alloc (.cells (madeCells #[.int .u64 0] n) 89)).cell? (ad.add j) = some v) := by
    intro h0
    rw [HCL.out] at h0
    obtain ⟨g, o, rfl, _⟩ := HSH.out 0 xs[0] (List.getElem?_eq_getElem (by omega))
    refine ⟨_, rfl, fun j u hu => ?_⟩
    simp only [ws, List.getElem?_map, Option.map_eq_some_iff] at hu
    obtain ⟨x, hx, rfl⟩ := hu
    rw [HT.out, List.getElem?_take] at hx
    split at hx
    · obtain ⟨g', o', e, hc⟩ := HSH.out j x hx
      cases e
      have hlt := World.block_lt_of_cell? w _ hc
      have e2 : (⟨g, o, none⟩ : Addr).add j = ⟨g, o + j, none⟩ := by unfold Addr.add; split <;> simp_all
      rw [e2, HBL.out.cell (p := ⟨g, o + j, none⟩) hlt]; exact hc
    · cases hx
  have HFIT : Hid (0 + (ws (strip xs)).length ≤ (ws (List.replicate n 0)).length) := by
    show _ ≤ _
    rw [HCL.out, ws_length, List.length_replicate]; omega
  go_wp2_with ((with_reducible refine wpList_copy_splice (o := ⟨some 11, _, _, _, _, _⟩) rfl (.tmp 9) (.tmp 10) 47 47 rfl 89 Try.underlying47 Try.infoW1 (some ⟨w.heap.size, 0, none⟩) ao n n xs.length cap rfl rfl w.heap.size 0 (ws (List.replicate n 0)) 89 HB.out (ws (strip xs)) (by rw [HCL.out, HMIN.out]) (fun h => ⟨rfl, HPOS.out h⟩) HFIT.out (ws_one _) w.heap.size w HBL.out (Nat.le_refl _) ?_); intro w2 hg2 hb2)
  have HF : Hid (Blk w2 w.heap.size (strip xs)) := by
    refine ⟨?_, HOK.out⟩
    have h1 := hg2.out
    rw [h1]
    congr 2
    simp only [splice, List.take_zero, List.nil_append, Nat.zero_add]
    rw [HCL.out, List.drop_eq_nil_of_le (by rw [ws_length, List.length_replicate]; omega), List.append_nil]
  have HB2 := Lib.hid hb2
  clear hg2 hb2
  go_wp2_with fail
  go_ret
  refine ⟨_, rfl, ⟨?_, fun k hk => ?_⟩, HB2.out⟩
  · have := HF.out.rd (o := 0) (n := n) (c := n) (by rw [HN.out]; omega) (Nat.le_refl _) (by unfold maxLen; omega)
    rw [List.drop_zero, List.take_of_length_le (by rw [HN.out]; exact Nat.le_refl _)] at this
    exact this
  · cases hk; exact ⟨Nat.le_refl _, HF.out.lt⟩

set_option maxRecDepth 100000 in
set_option maxHeartbeats 1000000 in
theorem least_any (v : Value) (xs : List Nat) (w : World) (hr : Rd w v xs) (hl : xs.length ≤ 1099511627776) :
    Calls Try.prog 66 #[v] w (NewPost (strip xs) w) := by
  have HR := Lib.hid hr
  clear hr
  go_enter Try.func66, Try.ntmps66
  go_wp2_with fail
  refine (own_any _ xs _ HR.out hl).mono ?_
  rintro e w' ⟨v', rfl, hf, hb⟩
  have HF := Lib.hid hf
  have HB := Lib.hid hb
  clear hf hb
  go_wp2_with fail
  go_ret
  exact ⟨_, rfl, HF.out, HB.out⟩
end Go.Proofs.Ytebidhdoiojaeaa
