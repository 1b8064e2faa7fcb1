/- Joined texts of this claim's proof: EvNilR. -/
import Derived.Test.YtceggplnggkdnaaGreatDoorPk32
import Derived.Test.YtceggplnggkdnaaGreatDoorPk23
set_option linter.unusedSimpArgs false
set_option linter.unusedVariables false
namespace Go.Proofs.YtceggplnggkdnaaGreatDoor
open Go.ChangeShapes Go.WideShapes Go.ChangeAt Go.RowKit LexP
open Go.ChangeMaps (open_string shut_string)
theorem nil_witness (os : Os) {H : Type} (enc : TypeId × Value → H) :
  (OpenSpec.ofChange Rows.evalNilSpec).preRow enc Tryz.prog Tryz.f6 Rows.evalNilRow.domain false laid5 ((laidWorld5 os).forCall (fun _ _ => 0) ⟨#[], #[.string .empty], []⟩).memory #[.string .empty] := by
 have hw : (DataW.whole enc Tryz.prog ((laidWorld5 os).forCall (fun _ _ => 0) ⟨#[], #[.string .empty], []⟩).memory Tryz.f6.params.toList Rows.evalNilSpec.vars false #[Value.string .empty].toList 8).map (fun x => (x.1, x.2.1)) =
   some ([.lit (.string [])], []) := by kernel_rfl
 obtain ⟨⟨x1, x2, x3⟩, hx, hx1⟩ := Option.map_eq_some_iff.1 hw
 simp only [Prod.mk.injEq] at hx1
 obtain ⟨rfl, rfl⟩ := hx1
 exact OpenSpec.preRow_of_cond 8 hx (by kernel_rfl) (fun k hk => by cases hk) (by kernel_rfl) (laid_met5 os _)
theorem nil_row (s : ByteArray) (w : World) (h : Lx w) (hl : laidMetH Tryz.prog laid5 w) :
  Calls Tryz.prog 6 #[.string s] w fun e w' => e = .returned (.bool true) ∧ Below w.heap.size w w' := by
 obtain ⟨h2, h3⟩ := sg_of_laid5 hl
 exact evalNil_any s w h h2 h3
set_option maxRecDepth 100000 in
theorem evalNil_lifted (os : Os) (started : os.Started) (H : Type) (enc : TypeId × Value → H) (F : Stop.Interp) :
  ReturnsInHanded {} Tryz.checked os 6 .any ((OpenSpec.ofChange Rows.evalNilSpec).preRow enc Tryz.prog Tryz.f6 Rows.evalNilRow.domain false laid5) (((OpenSpec.ofChange Rows.evalNilSpec).at F).post enc Tryz.prog Tryz.f6 false true false false) := by
 refine returnsInHanded_of_row (C := Tryz.checked) (s := OpenSpec.ofChange Rows.evalNilSpec) own started (by kernel_rfl) Tryz.func6
  (witness_row_at (enc := enc) (C := Tryz.checked) false (laidWorld5 os) #[.string .empty] rfl (by kernel_rfl) (by kernel_rfl) (by kernel_rfl) (nil_witness os enc)) ?_
 intro W base args ds gs before hval0 hW _ hcond0 _ hL hsh _
 have hval : ∀ (j : Nat) t v, Tryz.f6.params[j]? = some t → args[j]? = some v → Value.okWide Tryz.prog W .any base t v := hval0
 have hW' := hW
 obtain ⟨p, q, hA0, hV, rfl, hfz, hnd⟩ := hW
 have hA : DataW.TrodAll enc Tryz.prog W 0 (fun _ => true) true Tryz.f6.params.toList args.toList ds p := hA0
 rw [Tryz.params6] at hA hval
 obtain ⟨v0, vs0, d0, ds0, p0, q0, hargs, rfl, rfl, h0, r0⟩ := trodAll_cons hA
 obtain ⟨rfl, rfl, rfl⟩ := trodAll_nil r0
 obtain rfl : args = #[v0] := by cases args; simp_all
 obtain ⟨rfl, rfl⟩ := trodVars_none hV
 obtain ⟨s0, rfl, rfl, rfl, m0⟩ := open_string Tryz.underlying9 (hval 0 9 v0 rfl rfl) h0
 clear hA0
 simp only [List.append_nil] at hW'
 refine (nil_row s0  W (lx_of_shaped hsh) hL).mono fun e W' ⟨he, bel⟩ => ?_
 subst he
 exact ⟨_, rfl, _, _, _, [], _, [], hW', trodAll_mk1 (shut_bool Tryz.underlying4 _), (trodAll_cons_mk (shut_string Tryz.underlying9 m0) trodAll_mk0), rfl, bel.frame _, fun h => by cases h⟩
theorem evalNil_row : Rows.EvalNilSaid :=
 OpenClaim.holds_of_cond 6 Tryz.f6 rfl rfl rfl rfl rfl rfl rfl ⟨rfl, rfl, rfl, rfl, rfl⟩ rfl rfl rfl rfl rfl (by kernel_rfl) Tryz.func6 evalNil_facts
  (of_decide_eq_true (by kernel_rfl)) (by unfold Func.isWrapper; first | (rw [if_pos (by decide +kernel)]; kernel_rfl) | (rw [if_neg (by decide +kernel)]; exact ⟨rfl, rfl⟩))
  (fun os started H enc _ F => by rw [OpenClaim.pre_eq_preRow]; exact evalNil_lifted os started H enc F)
end Go.Proofs.YtceggplnggkdnaaGreatDoor
