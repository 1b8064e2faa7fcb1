/- Walks of the documents' reading of numbers: value, Read. -/
import Derived.Test.YtebidhdoiojaeaaRefNum2
import Derived.WalkSpells
namespace Go.Proofs.Ytebidhdoiojaeaa
open Go.RowKit LexP NumP

def signsA : ByteArray := ⟨#[48, 49, 50, 51, 52, 53, 54, 55, 56, 57, 97, 98, 99, 100, 101, 102, 103, 104, 105, 106, 107, 108, 109, 110, 111, 112, 113, 114, 115, 116, 117, 118, 119, 120, 121, 122]⟩

set_option maxRecDepth 100000 in
set_option maxHeartbeats 1000000 in
theorem ref_value (j : Nat) (w : World) (hj : j < 10) :
    Calls Try.prog 62 #[.int .u8 ((48 + j : Nat) : Int)] w fun e w' => e = .returned (.int .i64 (j : Nat)) ∧ w = w' := by
  have h : j = 0 ∨ j = 1 ∨ j = 2 ∨ j = 3 ∨ j = 4 ∨ j = 5 ∨ j = 6 ∨ j = 7 ∨ j = 8 ∨ j = 9 := by omega
  rcases h with rfl | rfl | rfl | rfl | rfl | rfl | rfl | rfl | rfl | rfl
  all_goals
    go_enter Try.func62, Try.ntmps62
    go_wp2_with fail
    refine wp_loop_rounds 10 ?_
    repeat (rw [rounds_succ]; go_wp2_with fail)
    go_ret
    exact ⟨rfl, rfl⟩

/-- What reading a number answers: words of one's own and no error. -/
def ReadPost (ds : List Nat) (w : World) (e : Ending) (w' : World) : Prop :=
  ∃ v, e = .returned (.tuple #[v, .int .i64 0]) ∧ OwnW w.heap.size w' v (joinL (stripZ ds)) ∧ Below w.heap.size w w'

def RdRel (l : Bytes) (w : World) (dv i : Value) (wr : World) : Prop :=
  ∃ k, k ≤ l.length ∧ i = .int .i64 (k : Nat) ∧ OwnD w.heap.size wr dv (numD (l.take k)) ∧ Below w.heap.size w wr

set_option maxRecDepth 100000 in
set_option maxHeartbeats 1000000 in
theorem ref_read (s : ByteArray) (w : World) (hs : s.size ≤ 1048576) (hne : s.toList.isEmpty = false) (hd : ∀ c ∈ s.data.toList, isDig c = true) :
    Calls Try.prog 53 #[.string s, .int .i64 10] w (ReadPost (numD s.data.toList) w) := by
  have HD := Lib.hid hd
  have hsz := Lib.hid (Lib.size_eq s)
  clear hd
  go_enter Try.func53, Try.ntmps53
  go_wp2_with fail
  go_loopw [6, 7] (fun dv i wr => RdRel s.data.toList w dv i wr) (fun _ i _ => s.size - (intOf i).toNat)
  case atStart => exact ⟨0, Nat.zero_le _, rfl, World.ownsRow_nil _ _ _ _, Below.refl _ _⟩
  case round =>
    obtain ⟨k, hk, rfl, hown, hb⟩ := hrel
    have hzz := hb.size
    rw [← hsz.out] at hk
    by_cases hlt : k < s.size
    · have hlt' : k < s.data.toList.length := by have := hsz.out; omega
      have e2 : s.data.toList[k] = s[k] := rfl
      have hdk := HD.out s.data.toList[k] (List.getElem_mem hlt')
      rw [e2] at hdk
      obtain ⟨j, hj, hjc⟩ : ∃ j, j < 10 ∧ s[k].toNat = 48 + j := ⟨s[k].toNat - 48, by simp [isDig] at hdk; omega, by simp [isDig] at hdk; omega⟩
      have HSN : Hid (numD (s.data.toList.take (k + 1)) = ontoL (numD (s.data.toList.take k)) 10 j) := by
        show _ = _
        rw [List.take_succ_eq_append_getElem hlt', numD_snoc, e2, hjc]
        congr 1; omega
      have hln := numD_len (s.data.toList.take k)
      have hlt2 : (numD (s.data.toList.take k)).length ≤ 2097152 := by rw [List.length_take] at hln; omega
      have HSM := Lib.hid (numD_small (s.data.toList.take k))
      have HJC := Lib.hid hjc
      clear hdk e2 hln hjc
      go_wp2_with fail
      rw [HJC.out]
      refine (ref_value j _ hj).mono ?_
      rintro e w' ⟨rfl, rfl⟩
      have hjge : ¬ (10 : Int) ≤ (j : Int) := by omega
      go_wp2_with fail
      refine (onto_any w.heap.size _ 10 j u6 wr hown hzz HSM.out (by omega) (by omega) hlt2).mono ?_
      rintro e w2 ⟨v2, rfl, hown2, hb2⟩
      have hfin : RdRel s.data.toList w v2 (.int .i64 (k + 1)) w2 := ⟨k + 1, by omega, by go_num, by rw [HSN.out]; exact hown2, hb.trans hb2⟩
      have HF := Lib.hid hfin
      clear hown2 hb2 hfin
      go_wp2_with fail
      first | exact ⟨HF.out, by simp [intOf] <;> omega⟩ | exact ⟨by (repeat apply Exists.intro); exact ⟨HF.out, rfl⟩, by simp [intOf] <;> omega⟩
    · have hkn : s.data.toList.take k = s.data.toList := List.take_of_length_le (by have := hsz.out; omega)
      rw [hkn] at hown
      have hln := numD_len s.data.toList
      rw [← hsz.out] at hln
      have HSM := Lib.hid (numD_small s.data.toList)
      go_wp2_with fail
      refine (join_any w.heap.size _ u6 wr hown HSM.out (by omega)).mono ?_
      rintro e w2 ⟨v2, rfl, hown2, hb2⟩
      have HO2 : Hid (OwnW w.heap.size w2 v2 (joinL (stripZ (numD s.data.toList)))) := ownsRow_mono hown2 hzz
      have HB2 : Hid (Below w.heap.size w w2) := hb.trans (hb2.mono hzz)
      clear hown2 hb2
      go_wp2_with fail
      go_ret2
      exact ⟨_, rfl, HO2.out, HB2.out⟩
end Go.Proofs.Ytebidhdoiojaeaa
