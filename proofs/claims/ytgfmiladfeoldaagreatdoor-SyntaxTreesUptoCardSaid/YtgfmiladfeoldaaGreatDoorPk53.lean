/- SyntaxTrees, for arguments of bulk at most 1048576. -/
import Derived.Test.YtgfmiladfeoldaaGreatDoorPk49
import Derived.Test.YtgfmiladfeoldaaGreatDoorPk50
import Derived.Test.YtgfmiladfeoldaaGreatDoorTie
import Derived.Test.YtgfmiladfeoldaaGreatDoorCards
set_option linter.unusedSimpArgs false
set_option linter.unusedVariables false
namespace Go.Proofs.YtgfmiladfeoldaaGreatDoor
open Go.ChangeShapes Go.WideShapes Go.ChangeAt Go.RowKit LexP
open Go.ChangeMaps (open_string shut_string)
theorem trees_witness (os : Os) {H : Type} (enc : TypeId × Value → H) :
  (Rows.OpenSpec.upto Rows.syntaxTreesSpec).preRow enc Tryz.prog Tryz.f4 Rows.syntaxTreesUptoRow.domain false laid1 ((laidWorld os).forCall (fun _ _ => 0) ⟨#[], #[.slice none 0 0], []⟩).memory #[.slice none 0 0] := by
 have hw : (DataW.whole enc Tryz.prog ((laidWorld os).forCall (fun _ _ => 0) ⟨#[], #[.slice none 0 0], []⟩).memory Tryz.f4.params.toList Rows.syntaxTreesSpec.vars false #[Value.slice none 0 0].toList 8).map (fun x => (x.1, x.2.1)) =
   some ([.nil], []) := by kernel_rfl
 obtain ⟨⟨x1, x2, x3⟩, hx, hx1⟩ := Option.map_eq_some_iff.1 hw
 simp only [Prod.mk.injEq] at hx1
 obtain ⟨rfl, rfl⟩ := hx1
 exact OpenSpec.preRow_of_cond 8 hx (by kernel_rfl) (fun k hk => by cases hk; rfl) (by kernel_rfl) (laid_met os _)
theorem trees_row {H : Type} {enc : TypeId × Value → H} (v : Value) (x : DataW H × List MemPlace) (fuel : Nat) (w : World) (ht : DataW.trod enc Tryz.prog w 0 (fun _ => true) true fuel 23 [v] = some x) (hk : Rows.uptoSmall H [x.1] = true) (h : Lx w) (hl : laidMetH Tryz.prog laid1 w) :
  Calls Tryz.prog 4 #[v] w fun e w' => e = .returned (.bool true) ∧ Below w.heap.size w w' := by
 have h1 := bulk hk
 simp only [Rows.uptoBulkAll] at h1
 obtain ⟨l, hn, hs⟩ := open_tree ht
 obtain ⟨a, b, c⟩ := sum_le_of (M := 1048576) (Nat.le_trans hs (by omega))
 obtain ⟨h2, h3⟩ := sg_of_laid hl
 exact trees_walk v l w hn (by omega) (fun x hx => Nat.le_trans (c x hx) (by omega)) b h h2 h3
set_option maxRecDepth 100000 in
theorem syntaxTrees_lifted (os : Os) (started : os.Started) (H : Type) (enc : TypeId × Value → H) (F : Stop.Interp) :
  ReturnsInHanded {} Tryz.checked os 4 .any ((Rows.OpenSpec.upto Rows.syntaxTreesSpec).preRow enc Tryz.prog Tryz.f4 Rows.syntaxTreesUptoRow.domain false laid1) (((Rows.OpenSpec.upto Rows.syntaxTreesSpec).at F).post enc Tryz.prog Tryz.f4 false true false false) := by
 refine returnsInHanded_of_row (C := Tryz.checked) (s := Rows.OpenSpec.upto Rows.syntaxTreesSpec) own started (by kernel_rfl) Tryz.func4
  (witness_row_at (enc := enc) (C := Tryz.checked) false (laidWorld os) #[.slice none 0 0] rfl (by kernel_rfl) (by kernel_rfl) (by kernel_rfl) (trees_witness os enc)) ?_
 intro W base args ds gs before hval0 hW _ hcond0 _ hL hsh _
 have hk : Rows.uptoSmall H (ds ++ gs) = true := hcond0 _ rfl
 have hval : ∀ (j : Nat) t v, Tryz.f4.params[j]? = some t → args[j]? = some v → Value.okWide Tryz.prog W .any base t v := hval0
 have hW' := hW
 obtain ⟨p, q, hA0, hV, rfl, hfz, hnd⟩ := hW
 have hA : DataW.TrodAll enc Tryz.prog W 0 (fun _ => true) true Tryz.f4.params.toList args.toList ds p := hA0
 rw [Tryz.params4] at hA hval
 obtain ⟨v0, vs0, d0, ds0, p0, q0, hargs, rfl, rfl, h0, r0⟩ := trodAll_cons hA
 obtain ⟨rfl, rfl, rfl⟩ := trodAll_nil r0
 obtain rfl : args = #[v0] := by cases args; simp_all
 obtain ⟨rfl, rfl⟩ := trodVars_none hV
 have hAA := hA0
 have hlt := hW'.lt
 clear hA0
 simp only [List.append_nil] at hW' hk hlt hAA
 obtain ⟨sa, sl, sc, rfl⟩ := okWide_slice Tryz.underlying23 (hval 0 23 v0 rfl rfl)
 obtain ⟨f0, hf0⟩ := h0
 refine (trees_row _ (d0, p0) f0 W hf0 hk (lx_of_shaped hsh) hL).mono fun e W' ⟨he, bel⟩ => ?_
 subst he
 exact ⟨_, rfl, _, _, _, [], _, [], hW', trodAll_mk1 (shut_bool Tryz.underlying4 _), trodAll_again bel (DataW.TrodAll.respare kidsS fullS (by rw [Tryz.params4]; decide +kernel) hAA (fun x hx => decide_eq_true (hlt x hx))) hlt, rfl, bel.frame _, fun h => by cases h⟩
theorem syntaxTrees_row : Rows.SyntaxTreesUptoSaid :=
 OpenClaim.holds_of_cond 4 Tryz.f4 rfl rfl rfl rfl rfl rfl rfl ⟨rfl, rfl, rfl, rfl, rfl⟩ rfl rfl rfl rfl rfl (by kernel_rfl) Tryz.func4 (by kernel_rfl)
  (of_decide_eq_true (by kernel_rfl)) (by unfold Func.isWrapper; first | (rw [if_pos (by decide +kernel)]; kernel_rfl) | (rw [if_neg (by decide +kernel)]; exact ⟨rfl, rfl⟩))
  (fun os started H enc _ F => by rw [OpenClaim.pre_eq_preRow]; exact syntaxTrees_lifted os started H enc F)
/-- The statement. -/
theorem syntaxTrees_proved : Rows.SyntaxTreesUptoCardSaid :=
 Claim7.holds_tied_plain_at .later [] [.data] true (true, "1f45b84775363bf8e2222e170eabc7910a866ce765de4deb505d72284f205f1a") true
  syntaxTrees_row (fun _ h => by cases h) (by kernel_rfl) (fun _ h => by cases h) syntaxTreesUpto_row_tie rfl ⟨rfl, rfl⟩ (by kernel_rfl) rfl
  (fun f fn hf hfn => by
   obtain rfl : f = 4 := Option.some.inj ((show Tryz.prog.funcNamed "trellis/trellislaw26.SyntaxTrees" = some 4 by kernel_rfl).symm.trans hf) |>.symm
   obtain rfl : fn = Tryz.f4 := (Option.some.inj (Tryz.func4.symm.trans hfn)).symm
   exact ⟨by kernel_rfl, fun j t ht => by
    rw [Tryz.params4] at ht
    have h3 : t = 23 := by
     rcases j with _ | j
     ·simpa using ht.symm
     ·simp at ht
    subst h3
    exact (show Tryz.prog.wantsStandIn 23 = false by kernel_rfl)⟩)
  (by kernel_rfl)
#print axioms syntaxTrees_proved
end Go.Proofs.YtgfmiladfeoldaaGreatDoor
