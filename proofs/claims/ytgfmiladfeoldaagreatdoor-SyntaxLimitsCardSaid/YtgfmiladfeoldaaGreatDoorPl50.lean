/- SyntaxLimits: it answers true, whatever the argument; no condition. -/
import Derived.Test.YtgfmiladfeoldaaGreatDoorPl47
import Derived.Test.YtgfmiladfeoldaaGreatDoorPl49
import Derived.Test.YtgfmiladfeoldaaGreatDoorTie
import Derived.Test.YtgfmiladfeoldaaGreatDoorCards
set_option linter.unusedSimpArgs false
set_option linter.unusedVariables false
namespace Go.Proofs.YtgfmiladfeoldaaGreatDoor
open Go.ChangeShapes Go.WideShapes Go.ChangeAt Go.RowKit LexP
open Go.ChangeMaps (open_string shut_string)
theorem limits_witness (os : Os) {H : Type} (enc : TypeId × Value → H) :
  (OpenSpec.ofChange Rows.syntaxLimitsSpec).preRow enc Tryz.prog Tryz.f10 Rows.syntaxLimitsRow.domain false laid4 ((laidWorld4 os).forCall (fun _ _ => 0) ⟨#[], #[.int .i64 0], []⟩).memory #[.int .i64 0] := by
 have hw : (DataW.whole enc Tryz.prog ((laidWorld4 os).forCall (fun _ _ => 0) ⟨#[], #[.int .i64 0], []⟩).memory Tryz.f10.params.toList Rows.syntaxLimitsSpec.vars false #[Value.int .i64 0].toList 8).map (fun x => (x.1, x.2.1)) =
   some ([.lit (.int .i64 0)], []) := by kernel_rfl
 obtain ⟨⟨x1, x2, x3⟩, hx, hx1⟩ := Option.map_eq_some_iff.1 hw
 simp only [Prod.mk.injEq] at hx1
 obtain ⟨rfl, rfl⟩ := hx1
 exact OpenSpec.preRow_of_cond 8 hx (by kernel_rfl) (fun k hk => by cases hk) (by kernel_rfl) (laid_met4 os _)
theorem limits_row (x : Int) (hx : (Lit.int .i64 x).wf = true) (w : World) (h : Lx w) (hl : laidMetH Tryz.prog laid4 w) :
  Calls Tryz.prog 10 #[.int .i64 x] w fun e w' => e = .returned (.bool true) ∧ Below w.heap.size w w' := by
 obtain ⟨h2, h3⟩ := sg_of_laid4 hl
 exact limits_walk x (bounds_i64 hx) w h h2 h3
set_option maxRecDepth 100000 in
theorem syntaxLimits_lifted (os : Os) (started : os.Started) (H : Type) (enc : TypeId × Value → H) (F : Stop.Interp) :
  ReturnsInHanded {} Tryz.checked os 10 .any ((OpenSpec.ofChange Rows.syntaxLimitsSpec).preRow enc Tryz.prog Tryz.f10 Rows.syntaxLimitsRow.domain false laid4) (((OpenSpec.ofChange Rows.syntaxLimitsSpec).at F).post enc Tryz.prog Tryz.f10 false true false false) := by
 refine returnsInHanded_of_row (C := Tryz.checked) (s := OpenSpec.ofChange Rows.syntaxLimitsSpec) own started (by kernel_rfl) Tryz.func10
  (witness_row_at (enc := enc) (C := Tryz.checked) false (laidWorld4 os) #[.int .i64 0] rfl (by kernel_rfl) (by kernel_rfl) (by kernel_rfl) (limits_witness os enc)) ?_
 intro W base args ds gs before hval0 hW _ hcond0 _ hL hsh _
 have hval : ∀ (j : Nat) t v, Tryz.f10.params[j]? = some t → args[j]? = some v → Value.okWide Tryz.prog W .any base t v := hval0
 have hW' := hW
 obtain ⟨p, q, hA0, hV, rfl, hfz, hnd⟩ := hW
 have hA : DataW.TrodAll enc Tryz.prog W 0 (fun _ => true) true Tryz.f10.params.toList args.toList ds p := hA0
 rw [Tryz.params10] at hA hval
 obtain ⟨v0, vs0, d0, ds0, p0, q0, hargs, rfl, rfl, h0, r0⟩ := trodAll_cons hA
 obtain ⟨rfl, rfl, rfl⟩ := trodAll_nil r0
 obtain rfl : args = #[v0] := by cases args; simp_all
 obtain ⟨rfl, rfl⟩ := trodVars_none hV
 obtain ⟨s0, rfl, rfl, rfl, m0⟩ := open_int Tryz.underlying3 (hval 0 3 v0 rfl rfl) h0
 clear hA0
 simp only [List.append_nil] at hW'
 refine (limits_row s0 m0 W (lx_of_shaped hsh) hL).mono fun e W' ⟨he, bel⟩ => ?_
 subst he
 exact ⟨_, rfl, _, _, _, [], _, [], hW', trodAll_mk1 (shut_bool Tryz.underlying4 _), (trodAll_cons_mk (shut_int Tryz.underlying3 m0) trodAll_mk0), rfl, bel.frame _, fun h => by cases h⟩
theorem syntaxLimits_row : Rows.SyntaxLimitsSaid :=
 OpenClaim.holds_of_cond 10 Tryz.f10 rfl rfl rfl rfl rfl rfl rfl ⟨rfl, rfl, rfl, rfl, rfl⟩ rfl rfl rfl rfl rfl (by kernel_rfl) Tryz.func10 (by kernel_rfl)
  (of_decide_eq_true (by kernel_rfl)) (by unfold Func.isWrapper; first | (rw [if_pos (by decide +kernel)]; kernel_rfl) | (rw [if_neg (by decide +kernel)]; exact ⟨rfl, rfl⟩))
  (fun os started H enc _ F => by rw [OpenClaim.pre_eq_preRow]; exact syntaxLimits_lifted os started H enc F)
/-- The statement. -/
theorem syntaxLimits_proved : Rows.SyntaxLimitsCardSaid :=
 Claim7.holds_tied_plain_at .later [] [.data, .data, .data, .data] true (true, "1f45b84775363bf8e2222e170eabc7910a866ce765de4deb505d72284f205f1a") true
  syntaxLimits_row (fun _ h => by cases h) (by kernel_rfl) (fun _ h => by cases h) syntaxLimits_row_tie rfl ⟨rfl, rfl⟩ (by kernel_rfl) rfl
  (fun f fn hf hfn => by
   obtain rfl : f = 10 := Option.some.inj ((show Tryz.prog.funcNamed "trellis/trellislaw26.SyntaxLimits" = some 10 by kernel_rfl).symm.trans hf) |>.symm
   obtain rfl : fn = Tryz.f10 := (Option.some.inj (Tryz.func10.symm.trans hfn)).symm
   exact ⟨by kernel_rfl, fun j t ht => by
    rw [Tryz.params10] at ht
    have h3 : t = 3 := by
     rcases j with _ | j
     ·simpa using ht.symm
     ·simp at ht
    subst h3
    exact (show Tryz.prog.wantsStandIn 3 = false by kernel_rfl)⟩)
  (by kernel_rfl)
#print axioms syntaxLimits_proved
end Go.Proofs.YtgfmiladfeoldaaGreatDoor
