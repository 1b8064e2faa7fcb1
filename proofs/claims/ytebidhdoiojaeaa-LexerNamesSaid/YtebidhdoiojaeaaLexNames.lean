/- LexerNames: the closed sentence on the kinds' numbers holds; no condition. -/
import Derived.Test.YtebidhdoiojaeaaLexRow
namespace Go.Proofs.Ytebidhdoiojaeaa
open Go.ChangeShapes Go.WideShapes Go.ChangeAt Go.RowKit LexP

set_option maxRecDepth 100000 in
theorem samenums_one (w : World) (b1 b2 : Nat) (h1 : w.cell? ⟨b1, 0, none⟩ = some (.int .i64 1)) (h2 : w.cell? ⟨b2, 0, none⟩ = some (.int .i64 1)) :
    Calls Try.prog 12 #[.slice (some ⟨b1, 0, none⟩) 1 1, .slice (some ⟨b2, 0, none⟩) 1 1] w fun e w' => e = .returned (.bool true) ∧ Below w.heap.size w w' := by
  have g1 := World.block_lt_of_cell? w _ h1
  have g2 := World.block_lt_of_cell? w _ h2
  have H1 := Lib.hid h1
  have H2 := Lib.hid h2
  clear h1 h2
  go_enter Try.func12, Try.ntmps12
  go_wp2
  go_loopw [5] (fun i wr => ∃ k : Nat, k ≤ 1 ∧ i = .int .i64 (k : Nat) ∧ Below w.heap.size w wr) (fun i _ => 1 - (intOf i).toNat)
  case atStart => exact ⟨0, Nat.zero_le _, rfl, Below.refl _ _⟩
  case round =>
    obtain ⟨k, hk, rfl, hb⟩ := hrel
    have e1 : wr.cell? ⟨b1, 0, none⟩ = some (.int .i64 1) := (hb.cell (p := ⟨b1, 0, none⟩) g1).trans H1.out
    have e2 : wr.cell? ⟨b2, 0, none⟩ = some (.int .i64 1) := (hb.cell (p := ⟨b2, 0, none⟩) g2).trans H2.out
    by_cases hlt : k < 1
    · obtain rfl : k = 0 := by omega
      go_wp2
      go_quiet (fail)
      go_wp2
      exact ⟨⟨1, by omega, by go_num, below_drewN hb _⟩, by simp [intOf]⟩
    · obtain rfl : k = 1 := by omega
      go_wp2
      go_ret
      exact ⟨rfl, hb⟩

set_option maxRecDepth 100000 in
theorem names_walk (w : World) (hx : Lx w) :
    Calls Try.prog 3 #[] w fun e w' => e = .returned (.bool true) ∧ Below w.heap.size w w' := by
  go_enter Try.func3, Try.ntmps3
  go_wp2_with fail
  refine (awake_any _ hx).mono ?_
  rintro e w1 ⟨rfl, hb⟩
  have hz := hb.size
  go_wp2_with fail
  refine (samenums_one _ _ _ (by simp [go_sem]) (by simp [go_sem])).mono ?_
  rintro e w2 ⟨rfl, hb2⟩
  go_wp2
  go_ret
  exact ⟨rfl, hb.trans (((Below.refl w.heap.size w1).alloc hz _ |>.alloc (by simp; omega) _).trans (hb2.mono (by simp; omega)))⟩

set_option maxRecDepth 100000 in
theorem names_lifted (os : Os) (started : os.Started) (H : Type) (enc : TypeId × Value → H) :
    ReturnsInHanded {} Try.checked os 3 .any (Rows.lexerNamesSpec.pre6 enc Try.prog Try.f3 Rows.lexerNamesRow.domain false) (Rows.lexerNamesSpec.post enc Try.prog Try.f3 false true false false) := by
  refine returnsInHanded_of_change_shaped (C := Try.checked) own started (by kernel_rfl) Try.func3
    (ChangeSpec.witness6 (enc := enc) (C := Try.checked) false ⟨#[], #[], []⟩ 8 (by kernel_rfl) (by kernel_rfl) (by kernel_rfl) (by kernel_rfl)) ?_
  intro W base args ds gs before hval0 hW hcnd _ hshp _
  have hW' := hW
  obtain ⟨p, q, hA0, hV, rfl, hfz, hnd⟩ := hW
  have hA : DataW.TrodAll enc Try.prog W 0 (fun _ => true) true Try.f3.params.toList args.toList ds p := hA0
  rw [Try.params3] at hA
  obtain ⟨rfl, rfl, rfl⟩ := trodAll_none hA
  obtain ⟨rfl, rfl⟩ := trodVars_none hV
  clear hA0 hval0
  refine (names_walk W (lx_of_shaped hshp)).mono fun e W' ⟨he, bel⟩ => ?_
  subst he
  exact ⟨_, rfl, _, _, _, [], [], [], hW', trodAll_mk1 (shut_bool Try.underlying4 _), trodAll_mk0, rfl, bel.frame _, fun h => by cases h⟩

/-- The statement. -/
theorem names_proved : Rows.LexerNamesSaid :=
  OpenClaim.holds_of_wide 3 Try.f3 rfl rfl rfl rfl rfl rfl rfl ⟨rfl, rfl, rfl, rfl, rfl⟩ rfl rfl rfl rfl rfl (by kernel_rfl) Try.func3 (by kernel_rfl)
    (of_decide_eq_true (by kernel_rfl)) (by unfold Func.isWrapper; first | (rw [if_pos (by decide +kernel)]; kernel_rfl) | (rw [if_neg (by decide +kernel)]; exact ⟨rfl, rfl⟩))
    (fun os started H enc _ => names_lifted os started H enc)
#print axioms names_proved
end Go.Proofs.Ytebidhdoiojaeaa
