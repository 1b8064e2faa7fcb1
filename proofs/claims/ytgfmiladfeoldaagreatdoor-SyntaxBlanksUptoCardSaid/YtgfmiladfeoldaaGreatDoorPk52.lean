/- SyntaxBlanks, for arguments of bulk at most 1048576. -/
import Derived.Test.YtgfmiladfeoldaaGreatDoorPk49
import Derived.Test.YtgfmiladfeoldaaGreatDoorPk48
import Derived.Test.YtgfmiladfeoldaaGreatDoorTie
import Derived.Test.YtgfmiladfeoldaaGreatDoorCards
set_option linter.unusedSimpArgs false
set_option linter.unusedVariables false
namespace Go.Proofs.YtgfmiladfeoldaaGreatDoor
open Go.ChangeShapes Go.WideShapes Go.ChangeAt Go.RowKit LexP
open Go.ChangeMaps (open_string shut_string)
theorem blanks_witness (os : Os) {H : Type} (enc : TypeId × Value → H) :
  (Rows.OpenSpec.upto Rows.syntaxBlanksSpec).preRow enc Tryz.prog Tryz.f5 Rows.syntaxBlanksUptoRow.domain false laid1 ((laidWorld os).forCall (fun _ _ => 0) ⟨#[], #[.string .empty, .int .i64 0], []⟩).memory #[.string .empty, .int .i64 0] := by
 have hw : (DataW.whole enc Tryz.prog ((laidWorld os).forCall (fun _ _ => 0) ⟨#[], #[.string .empty, .int .i64 0], []⟩).memory Tryz.f5.params.toList Rows.syntaxBlanksSpec.vars false #[Value.string .empty, Value.int .i64 0].toList 8).map (fun x => (x.1, x.2.1)) =
   some ([.lit (.string []), .lit (.int .i64 0)], []) := by kernel_rfl
 obtain ⟨⟨x1, x2, x3⟩, hx, hx1⟩ := Option.map_eq_some_iff.1 hw
 simp only [Prod.mk.injEq] at hx1
 obtain ⟨rfl, rfl⟩ := hx1
 exact OpenSpec.preRow_of_cond 8 hx (by kernel_rfl) (fun k hk => by cases hk; rfl) (by kernel_rfl) (laid_met os _)
theorem blanks_row {H : Type} (s : ByteArray) (x : Int) (hx : (Lit.int .i64 x).wf = true) (w : World) (hk : Rows.uptoSmall H [.lit (.string s.data.toList), .lit (.int .i64 x)] = true) (h : Lx w) (hl : laidMetH Tryz.prog laid1 w) :
  Calls Tryz.prog 5 #[.string s, .int .i64 x] w fun e w' => e = .returned (.bool true) ∧ Below w.heap.size w w' := by
 have h1 := bulk hk
 simp only [Rows.uptoBulkAll, Rows.uptoBulk] at h1
 obtain ⟨h2, h3⟩ := sg_of_laid hl
 exact blanks_walk s x (bounds_i64 hx) w (by rw [Lib.size_eq]; omega) h h2 h3
set_option maxRecDepth 100000 in
theorem syntaxBlanks_lifted (os : Os) (started : os.Started) (H : Type) (enc : TypeId × Value → H) (F : Stop.Interp) :
  ReturnsInHanded {} Tryz.checked os 5 .any ((Rows.OpenSpec.upto Rows.syntaxBlanksSpec).preRow enc Tryz.prog Tryz.f5 Rows.syntaxBlanksUptoRow.domain false laid1) (((Rows.OpenSpec.upto Rows.syntaxBlanksSpec).at F).post enc Tryz.prog Tryz.f5 false true false false) := by
 refine returnsInHanded_of_row (C := Tryz.checked) (s := Rows.OpenSpec.upto Rows.syntaxBlanksSpec) own started (by kernel_rfl) Tryz.func5
  (witness_row_at (enc := enc) (C := Tryz.checked) false (laidWorld os) #[.string .empty, .int .i64 0] rfl (by kernel_rfl) (by kernel_rfl) (by kernel_rfl) (blanks_witness os enc)) ?_
 intro W base args ds gs before hval0 hW _ hcond0 _ hL hsh _
 have hk : Rows.uptoSmall H (ds ++ gs) = true := hcond0 _ rfl
 have hval : ∀ (j : Nat) t v, Tryz.f5.params[j]? = some t → args[j]? = some v → Value.okWide Tryz.prog W .any base t v := hval0
 have hW' := hW
 obtain ⟨p, q, hA0, hV, rfl, hfz, hnd⟩ := hW
 have hA : DataW.TrodAll enc Tryz.prog W 0 (fun _ => true) true Tryz.f5.params.toList args.toList ds p := hA0
 rw [Tryz.params5] at hA hval
 obtain ⟨v0, vs0, d0, ds0, p0, q0, hargs, rfl, rfl, h0, r0⟩ := trodAll_cons hA
 obtain ⟨v1, vs1, d1, ds1, p1, q1, rfl, rfl, rfl, h1, r1⟩ := trodAll_cons r0
 obtain ⟨rfl, rfl, rfl⟩ := trodAll_nil r1
 obtain rfl : args = #[v0, v1] := by cases args; simp_all
 obtain ⟨rfl, rfl⟩ := trodVars_none hV
 obtain ⟨s0, rfl, rfl, rfl, m0⟩ := open_string Tryz.underlying9 (hval 0 9 v0 rfl rfl) h0
 obtain ⟨s1, rfl, rfl, rfl, m1⟩ := open_int Tryz.underlying3 (hval 1 3 v1 rfl rfl) h1
 clear hA0
 simp only [List.append_nil] at hW' hk
 refine (blanks_row s0 s1 m1 W hk (lx_of_shaped hsh) hL).mono fun e W' ⟨he, bel⟩ => ?_
 subst he
 exact ⟨_, rfl, _, _, _, [], _, [], hW', trodAll_mk1 (shut_bool Tryz.underlying4 _), (trodAll_cons_mk (shut_string Tryz.underlying9 m0) (trodAll_cons_mk (shut_int Tryz.underlying3 m1) trodAll_mk0)), rfl, bel.frame _, fun h => by cases h⟩
theorem syntaxBlanks_row : Rows.SyntaxBlanksUptoSaid :=
 OpenClaim.holds_of_cond 5 Tryz.f5 rfl rfl rfl rfl rfl rfl rfl ⟨rfl, rfl, rfl, rfl, rfl⟩ rfl rfl rfl rfl rfl (by kernel_rfl) Tryz.func5 (by kernel_rfl)
  (of_decide_eq_true (by kernel_rfl)) (by unfold Func.isWrapper; first | (rw [if_pos (by decide +kernel)]; kernel_rfl) | (rw [if_neg (by decide +kernel)]; exact ⟨rfl, rfl⟩))
  (fun os started H enc _ F => by rw [OpenClaim.pre_eq_preRow]; exact syntaxBlanks_lifted os started H enc F)
/-- The statement. -/
theorem syntaxBlanks_proved : Rows.SyntaxBlanksUptoCardSaid :=
 Claim7.holds_tied_plain_at .later [] [.data] true (true, "1f45b84775363bf8e2222e170eabc7910a866ce765de4deb505d72284f205f1a") true
  syntaxBlanks_row (fun _ h => by cases h) (by kernel_rfl) (fun _ h => by cases h) syntaxBlanksUpto_row_tie rfl ⟨rfl, rfl⟩ (by kernel_rfl) rfl
  (fun f fn hf hfn => by
   obtain rfl : f = 5 := Option.some.inj ((show Tryz.prog.funcNamed "trellis/trellislaw26.SyntaxBlanks" = some 5 by kernel_rfl).symm.trans hf) |>.symm
   obtain rfl : fn = Tryz.f5 := (Option.some.inj (Tryz.func5.symm.trans hfn)).symm
   exact ⟨by kernel_rfl, fun j t ht => by
    rw [Tryz.params5] at ht
    have h3 : t = 9 ∨ t = 3 := by
     rcases j with _ | _ | j
     ·exact .inl (by simpa using ht.symm)
     ·exact .inr ((by simpa using ht.symm))
     ·simp at ht
    rcases h3 with rfl | rfl
    ·exact (show Tryz.prog.wantsStandIn 9 = false by kernel_rfl)
    ·exact (show Tryz.prog.wantsStandIn 3 = false by kernel_rfl)⟩)
  (by kernel_rfl)
#print axioms syntaxBlanks_proved
end Go.Proofs.YtgfmiladfeoldaaGreatDoor
