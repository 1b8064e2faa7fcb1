/- Walks of the document's lexer: digit, letter, blank, mark. -/
import Derived.Test.YtebidhdoiojaeaaRefLex
namespace Go.Proofs.Ytebidhdoiojaeaa
open Go.RowKit LexP

theorem ret_bool {a b : Bool} (h : a = b) : Ending.returned (.bool a) = .returned (.bool b) := by rw [h]

def isK (k v : Nat) : Bool := kindOf v == k

set_option maxRecDepth 100000 in
set_option maxHeartbeats 1000000 in
theorem ref_digit (v : Nat) (w : World) (hv : v ≤ 0x10ffff) :
    Calls Try.prog 35 #[.int .i64 (v : Nat)] w fun e w' => e = .returned (.bool (isK 3 v)) ∧ w = w' := by
  have G : v < 48 ∨ (48 ≤ v ∧ v ≤ 57) ∨ (48 ≤ v ∧ 57 < v) := by omega
  have E : isK 3 v = (decide (48 ≤ v) && decide (v ≤ 57)) := by
    unfold isK kindOf; rw [Bool.eq_iff_iff]; simp only [beq_iff_eq, Bool.and_eq_true, decide_eq_true_eq]
    repeat' split
    all_goals omega
  rw [E]; clear E
  rcases G with G | G | G
  · have e : (decide (48 ≤ v) && decide (v ≤ 57)) = false := by simp; omega
    rw [e]; clear e
    go_enter Try.func35, Try.ntmps35
    go_wp2_with fail
    go_ret
    first | exact ⟨rfl, rfl⟩ | exact ⟨ret_bool (by simp <;> omega), rfl⟩
  · have e : (decide (48 ≤ v) && decide (v ≤ 57)) = true := by simp; omega
    rw [e]; clear e
    go_enter Try.func35, Try.ntmps35
    go_wp2_with fail
    go_ret
    first | exact ⟨rfl, rfl⟩ | exact ⟨ret_bool (by simp <;> omega), rfl⟩
  · have e : (decide (48 ≤ v) && decide (v ≤ 57)) = false := by simp; omega
    rw [e]; clear e
    go_enter Try.func35, Try.ntmps35
    go_wp2_with fail
    go_ret
    first | exact ⟨rfl, rfl⟩ | exact ⟨ret_bool (by simp <;> omega), rfl⟩

set_option maxRecDepth 100000 in
set_option maxHeartbeats 1000000 in
theorem ref_blank (v : Nat) (w : World) (hv : v ≤ 0x10ffff) :
    Calls Try.prog 33 #[.int .i64 (v : Nat)] w fun e w' => e = .returned (.bool (isK 1 v)) ∧ w = w' := by
  have E : isK 1 v = (decide (v = 32 ∨ v = 9 ∨ v = 160)) := by
    unfold isK kindOf; rw [Bool.eq_iff_iff]; simp only [beq_iff_eq, decide_eq_true_eq]
    repeat' split
    all_goals omega
  rw [E]; clear E
  by_cases h : v = 32 ∨ v = 9 ∨ v = 160
  · rw [decide_eq_true h]
    rcases h with rfl | rfl | rfl
    all_goals
      go_enter Try.func33, Try.ntmps33
      go_wp2_with fail
      go_ret
      first | exact ⟨rfl, rfl⟩ | exact ⟨ret_bool (by simp <;> omega), rfl⟩
  · rw [decide_eq_false h]
    have n1 : ((v : Int) == 32) = false := by simp; omega
    have n2 : ((v : Int) == 9) = false := by simp; omega
    have n3 : ((v : Int) == 160) = false := by simp; omega
    clear h
    go_enter Try.func33, Try.ntmps33
    go_wp2_with fail
    go_ret
    first | exact ⟨rfl, rfl⟩ | exact ⟨ret_bool (by simp <;> omega), rfl⟩

def letK (v : Nat) : Bool := decide ((97 ≤ v ∧ v ≤ 122) ∨ (65 ≤ v ∧ v ≤ 90) ∨ v = 95 ∨ (192 ≤ v ∧ v ≤ 687 ∧ v ≠ 215 ∧ v ≠ 247) ∨ (880 ≤ v ∧ v ≤ 1023))

theorem isK_let (v : Nat) : isK 4 v = letK v := by
  unfold isK kindOf letK; rw [Bool.eq_iff_iff]; simp only [beq_iff_eq, decide_eq_true_eq]
  repeat' split
  all_goals omega

set_option maxRecDepth 100000 in
set_option maxHeartbeats 2000000 in
theorem ref_letter (v : Nat) (w : World) (hv : v ≤ 0x10ffff) :
    Calls Try.prog 38 #[.int .i64 (v : Nat)] w fun e w' => e = .returned (.bool (isK 4 v)) ∧ w = w' := by
  rw [isK_let]
  by_cases h95 : v = 95
  · subst h95
    go_enter Try.func38, Try.ntmps38
    go_wp2_with fail
    go_ret
    first | exact ⟨rfl, rfl⟩ | exact ⟨ret_bool (by simp <;> omega), rfl⟩
  by_cases h215 : v = 215
  · subst h215
    go_enter Try.func38, Try.ntmps38
    go_wp2_with fail
    go_ret
    first | exact ⟨rfl, rfl⟩ | exact ⟨ret_bool (by simp <;> omega), rfl⟩
  by_cases h247 : v = 247
  · subst h247
    go_enter Try.func38, Try.ntmps38
    go_wp2_with fail
    go_ret
    first | exact ⟨rfl, rfl⟩ | exact ⟨ret_bool (by simp <;> omega), rfl⟩
  have n1 : ((v : Int) == 95) = false := by simp; omega
  have n2 : ((v : Int) != 215) = true := by simp; omega
  have n3 : ((v : Int) != 247) = true := by simp; omega
  have G : ((97 ≤ v ∧ v ≤ 122) ∨ (65 ≤ v ∧ v ≤ 90) ∨ (192 ≤ v ∧ v ≤ 687) ∨ (880 ≤ v ∧ v ≤ 1023)) ∨ (v < 65 ∨ (90 < v ∧ v < 97) ∨ (122 < v ∧ v < 192) ∨ (687 < v ∧ v < 880) ∨ 1023 < v) := by omega
  rcases G with G | G
  · have e : letK v = true := by unfold letK; simp only [decide_eq_true_eq]; omega
    rw [e]; clear e h95 h215 h247
    rcases G with G | G | G | G
    all_goals
      go_enter Try.func38, Try.ntmps38
      go_wp2_with fail
      go_ret
      first | exact ⟨rfl, rfl⟩ | exact ⟨ret_bool (by simp <;> omega), rfl⟩
  · have e : letK v = false := by unfold letK; simp only [decide_eq_false_iff_not]; omega
    rw [e]; clear e h95 h215 h247
    rcases G with G | G | G | G | G
    all_goals
      go_enter Try.func38, Try.ntmps38
      go_wp2_with fail
      go_ret
      first | exact ⟨rfl, rfl⟩ | exact ⟨ret_bool (by simp <;> omega), rfl⟩

theorem marks_byte (k : Nat) (h : k < 15) : wrap64 ((({ data := #[43, 45, 42, 94, 39, 40, 41, 91, 93, 123, 125, 44, 59, 58, 61] } : ByteArray)[k]'h).toNat : Int) = (([43, 45, 42, 94, 39, 40, 41, 91, 93, 123, 125, 44, 59, 58, 61] : List Int)[k]'h) := by
  have : ∀ k : Fin 15, wrap64 ((({ data := #[43, 45, 42, 94, 39, 40, 41, 91, 93, 123, 125, 44, 59, 58, 61] } : ByteArray)[k.val]'k.isLt).toNat : Int) = (([43, 45, 42, 94, 39, 40, 41, 91, 93, 123, 125, 44, 59, 58, 61] : List Int)[k.val]'k.isLt) := by decide +kernel
  exact this ⟨k, h⟩

/-- The text of a mark; none of all else. -/
def markOf (v : Nat) : Bytes := if v = 0x2212 then [45] else if v = 0xd7 then [42] else if kindOf v = 5 then [v.toUInt8] else []

set_option maxRecDepth 100000 in
set_option maxHeartbeats 4000000 in
theorem ref_mark (v : Nat) (w : World) (hv : v ≤ 0x10ffff) :
    Calls Try.prog 32 #[.int .i64 (v : Nat)] w fun e w' => e = .returned (.string ⟨(markOf v).toArray⟩) ∧ w = w' := by
  by_cases h : v = 0x2212 ∨ v = 0xd7
  · rcases h with rfl | rfl
    all_goals
      go_enter Try.func32, Try.ntmps32
      go_wp2_with fail
      go_ret
      exact ⟨rfl, rfl⟩
  have n1 : ((v : Int) == 8722) = false := by simp; omega
  have n2 : ((v : Int) == 215) = false := by simp; omega
  have q0 := marks_byte 0 (by decide)
  have q1 := marks_byte 1 (by decide)
  have q2 := marks_byte 2 (by decide)
  have q3 := marks_byte 3 (by decide)
  have q4 := marks_byte 4 (by decide)
  have q5 := marks_byte 5 (by decide)
  have q6 := marks_byte 6 (by decide)
  have q7 := marks_byte 7 (by decide)
  have q8 := marks_byte 8 (by decide)
  have q9 := marks_byte 9 (by decide)
  have q10 := marks_byte 10 (by decide)
  have q11 := marks_byte 11 (by decide)
  have q12 := marks_byte 12 (by decide)
  have q13 := marks_byte 13 (by decide)
  have q14 := marks_byte 14 (by decide)
  simp only [List.getElem_cons_zero, List.getElem_cons_succ] at q0 q1 q2 q3 q4 q5 q6 q7 q8 q9 q10 q11 q12 q13 q14
  by_cases hm : v = 43 ∨ v = 45 ∨ v = 42 ∨ v = 94 ∨ v = 39 ∨ v = 40 ∨ v = 41 ∨ v = 91 ∨ v = 93 ∨ v = 123 ∨ v = 125 ∨ v = 44 ∨ v = 59 ∨ v = 58 ∨ v = 61
  · clear n1 n2 h
    rcases hm with rfl | rfl | rfl | rfl | rfl | rfl | rfl | rfl | rfl | rfl | rfl | rfl | rfl | rfl | rfl
    all_goals
      go_enter Try.func32, Try.ntmps32
      go_wp2_with fail
      refine wp_loop_rounds 16 ?_
      repeat (rw [rounds_succ]; go_wp2_with fail)
      go_ret
      exact ⟨rfl, rfl⟩
  · have e : markOf v = [] := by
      have hk : kindOf v ≠ 5 := by
        unfold kindOf
        repeat' split
        all_goals first | omega | skip
        rename_i k
        exfalso
        obtain ⟨k1, k2⟩ := k
        have : ∀ r : Fin 128, r.val.toUInt8 ∈ ([43, 45, 42, 94, 39, 40, 41, 91, 93, 123, 125, 44, 59, 58, 61] : Bytes) → (r.val = 43 ∨ r.val = 45 ∨ r.val = 42 ∨ r.val = 94 ∨ r.val = 39 ∨ r.val = 40 ∨ r.val = 41 ∨ r.val = 91 ∨ r.val = 93 ∨ r.val = 123 ∨ r.val = 125 ∨ r.val = 44 ∨ r.val = 59 ∨ r.val = 58 ∨ r.val = 61) := by decide +kernel
        exact hm (this ⟨v, k1⟩ k2)
      unfold markOf; rw [if_neg (by omega), if_neg (by omega), if_neg hk]
    rw [e]; clear e h
    have m1 : ((43 : Int) == (v : Int)) = false := by simp; omega
    have m2 : ((45 : Int) == (v : Int)) = false := by simp; omega
    have m3 : ((42 : Int) == (v : Int)) = false := by simp; omega
    have m4 : ((94 : Int) == (v : Int)) = false := by simp; omega
    have m5 : ((39 : Int) == (v : Int)) = false := by simp; omega
    have m6 : ((40 : Int) == (v : Int)) = false := by simp; omega
    have m7 : ((41 : Int) == (v : Int)) = false := by simp; omega
    have m8 : ((91 : Int) == (v : Int)) = false := by simp; omega
    have m9 : ((93 : Int) == (v : Int)) = false := by simp; omega
    have m10 : ((123 : Int) == (v : Int)) = false := by simp; omega
    have m11 : ((125 : Int) == (v : Int)) = false := by simp; omega
    have m12 : ((44 : Int) == (v : Int)) = false := by simp; omega
    have m13 : ((59 : Int) == (v : Int)) = false := by simp; omega
    have m14 : ((58 : Int) == (v : Int)) = false := by simp; omega
    have m15 : ((61 : Int) == (v : Int)) = false := by simp; omega
    clear hm
    go_enter Try.func32, Try.ntmps32
    go_wp2_with fail
    refine wp_loop_rounds 16 ?_
    repeat (rw [rounds_succ]; go_wp2_with fail)
    go_ret
    exact ⟨rfl, rfl⟩
end Go.Proofs.Ytebidhdoiojaeaa
