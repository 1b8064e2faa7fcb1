/- SyntaxStays, for arguments of bulk at most 1048576. -/
import Derived.Test.YtgfmiladfeoldaaGreatDoorPk29
import Derived.Test.YtgfmiladfeoldaaGreatDoorPk30
import Derived.Test.YtgfmiladfeoldaaGreatDoorTie
import Derived.Test.YtgfmiladfeoldaaGreatDoorCards
set_option linter.unusedSimpArgs false
set_option linter.unusedVariables false
namespace Go.Proofs.YtgfmiladfeoldaaGreatDoor
open Go.ChangeShapes Go.WideShapes Go.ChangeAt Go.RowKit LexP
open Go.ChangeMaps (open_string shut_string)
theorem stays_witness (os : Os) {H : Type} (enc : TypeId × Value → H) :
  (Rows.OpenSpec.upto Rows.syntaxStaysSpec).preRow enc Tryz.prog Tryz.f7 Rows.syntaxStaysUptoRow.domain false laid1 ((laidWorld os).forCall (fun _ _ => 0) ⟨#[], #[.agg #[.int .i64 0, .int .i64 0, .slice none 0 0], .agg #[.int .i64 0, .int .i64 0, .slice none 0 0], .slice none 0 0], []⟩).memory #[.agg #[.int .i64 0, .int .i64 0, .slice none 0 0], .agg #[.int .i64 0, .int .i64 0, .slice none 0 0], .slice none 0 0] := by
 have hw : (DataW.whole enc Tryz.prog ((laidWorld os).forCall (fun _ _ => 0) ⟨#[], #[.agg #[.int .i64 0, .int .i64 0, .slice none 0 0], .agg #[.int .i64 0, .int .i64 0, .slice none 0 0], .slice none 0 0], []⟩).memory Tryz.f7.params.toList Rows.syntaxStaysSpec.vars false #[Value.agg #[.int .i64 0, .int .i64 0, .slice none 0 0], Value.agg #[.int .i64 0, .int .i64 0, .slice none 0 0], Value.slice none 0 0].toList 8).map (fun x => (x.1, x.2.1)) =
   some ([.agg [.lit (.int .i64 0), .lit (.int .i64 0), .nil], .agg [.lit (.int .i64 0), .lit (.int .i64 0), .nil], .nil], []) := by kernel_rfl
 obtain ⟨⟨x1, x2, x3⟩, hx, hx1⟩ := Option.map_eq_some_iff.1 hw
 simp only [Prod.mk.injEq] at hx1
 obtain ⟨rfl, rfl⟩ := hx1
 exact OpenSpec.preRow_of_cond 8 hx (by kernel_rfl) (fun k hk => by cases hk; rfl) (by kernel_rfl) (laid_met os _)
set_option maxRecDepth 100000 in
theorem stays_row {H : Type} {enc : TypeId × Value → H} (v0 v1 v2 : Value) (d0 d1 d2 : DataW H) (p0 p1 p2 : List MemPlace) (w : World) (o0 : Value.okWide Tryz.prog w .any 0 47 v0) (o1 : Value.okWide Tryz.prog w .any 0 58 v1) (o2 : Value.okWide Tryz.prog w .any 0 38 v2)
  (h0 : DataW.Trod enc Tryz.prog w 0 (fun _ => true) true 47 v0 d0 p0) (h1 : DataW.Trod enc Tryz.prog w 0 (fun _ => true) true 58 v1 d1 p1) (h2 : DataW.Trod enc Tryz.prog w 0 (fun _ => true) true 38 v2 d2 p2) (hk : Rows.uptoSmall H [d0, d1, d2] = true) (h : Lx w) (hl : laidMetH Tryz.prog laid1 w) :
  Calls Tryz.prog 7 #[v0, v1, v2] w fun e w' => e = .returned (.bool true) ∧ Below w.heap.size w w' := by
 have hb := bulk hk
 simp only [Rows.uptoBulkAll] at hb
 obtain ⟨r, c, av, l, rfl, ha, hb0⟩ := open_mat o0 h0
 obtain ⟨r2, c2, qv, ql, rfl, hq, hb1⟩ := open_qmat o1 h1
 obtain ⟨sa, sl, sc, rfl⟩ := okWide_slice uLists o2
 obtain ⟨f2, hf2⟩ := h2
 obtain ⟨fv, fs, e, hf, hfk, hb2⟩ := open_lists hf2
 simp only at hb2
 cases e
 obtain ⟨a1, a2⟩ := sum_part (fun p : Bool × List Nat => p.2.length) (l := l) (M := 1048575) (by omega)
 obtain ⟨b1, b2⟩ := sum_part (fun p : FW => p.1.2.length + p.2.2.length) (l := ql) (M := 1048575) (by omega)
 obtain ⟨c1, c2'⟩ := sum_part (fun ks : List Int => ks.length) (l := fs) (M := 1048575) (by omega)
 obtain ⟨g2, g3⟩ := sg_of_laid hl
 exact stays_walk r c r2 c2 l ql fs av qv _ w h g2 g3 ha hq hf (by omega) (fun p hp => by have := a2 p hp; omega) (by omega) (fun p hp => by have := b2 p hp; omega) c1 (fun ks hks => ⟨by have := c2' ks hks; omega, hfk ks hks⟩)
set_option maxRecDepth 100000 in
theorem syntaxStays_lifted (os : Os) (started : os.Started) (H : Type) (enc : TypeId × Value → H) (F : Stop.Interp) :
  ReturnsInHanded {} Tryz.checked os 7 .any ((Rows.OpenSpec.upto Rows.syntaxStaysSpec).preRow enc Tryz.prog Tryz.f7 Rows.syntaxStaysUptoRow.domain false laid1) (((Rows.OpenSpec.upto Rows.syntaxStaysSpec).at F).post enc Tryz.prog Tryz.f7 false true false false) := by
 refine returnsInHanded_of_row (C := Tryz.checked) (s := Rows.OpenSpec.upto Rows.syntaxStaysSpec) own started (by kernel_rfl) Tryz.func7
  (witness_row_at (enc := enc) (C := Tryz.checked) false (laidWorld os) #[.agg #[.int .i64 0, .int .i64 0, .slice none 0 0], .agg #[.int .i64 0, .int .i64 0, .slice none 0 0], .slice none 0 0] rfl (by kernel_rfl) (by kernel_rfl) (by kernel_rfl) (stays_witness os enc)) ?_
 intro W base args ds gs before hval0 hW _ hcond0 _ hL hsh _
 have hk : Rows.uptoSmall H (ds ++ gs) = true := hcond0 _ rfl
 have hval : ∀ (j : Nat) t v, Tryz.f7.params[j]? = some t → args[j]? = some v → Value.okWide Tryz.prog W .any base t v := hval0
 have hW' := hW
 obtain ⟨p, q, hA0, hV, rfl, hfz, hnd⟩ := hW
 have hA : DataW.TrodAll enc Tryz.prog W 0 (fun _ => true) true Tryz.f7.params.toList args.toList ds p := hA0
 rw [Tryz.params7] at hA hval
 obtain ⟨v0, vs0, d0, ds0, p0, q0, hargs, rfl, rfl, h0, r0⟩ := trodAll_cons hA
 obtain ⟨v1, vs1, d1, ds1, p1, q1, rfl, rfl, rfl, h1, r1⟩ := trodAll_cons r0
 obtain ⟨v2, vs2, d2, ds2, p2, q2, rfl, rfl, rfl, h2, r2⟩ := trodAll_cons r1
 obtain ⟨rfl, rfl, rfl⟩ := trodAll_nil r2
 obtain rfl : args = #[v0, v1, v2] := by cases args; simp_all
 obtain ⟨rfl, rfl⟩ := trodVars_none hV
 have hAA := hA0
 have hlt := hW'.lt
 clear hA0
 simp only [List.append_nil] at hW' hk hlt hAA
 refine (stays_row v0 v1 v2 d0 d1 d2 p0 p1 p2 W (hval 0 47 v0 rfl rfl) (hval 1 58 v1 rfl rfl) (hval 2 38 v2 rfl rfl) h0 h1 h2 hk (lx_of_shaped hsh) hL).mono fun e W' ⟨he, bel⟩ => ?_
 subst he
 exact ⟨_, rfl, _, _, _, [], _, [], hW', trodAll_mk1 (shut_bool Tryz.underlying4 _), trodAll_again bel (DataW.TrodAll.respare kidsS fullS (by rw [Tryz.params7]; decide +kernel) hAA (fun x hx => decide_eq_true (hlt x hx))) hlt, rfl, bel.frame _, fun h => by cases h⟩
theorem syntaxStays_facts : joinedFacts Tryz.prog 7 Tryz.f7 (Rows.OpenSpec.upto Rows.syntaxStaysSpec).bare Rows.syntaxStaysUptoRow = true := by kernel_rfl
theorem syntaxStays_row : Rows.SyntaxStaysUptoSaid :=
 OpenClaim.holds_of_cond 7 Tryz.f7 rfl rfl rfl rfl rfl rfl rfl ⟨rfl, rfl, rfl, rfl, rfl⟩ rfl rfl rfl rfl rfl (by kernel_rfl) Tryz.func7 syntaxStays_facts
  (of_decide_eq_true (by kernel_rfl)) (by unfold Func.isWrapper; first | (rw [if_pos (by decide +kernel)]; kernel_rfl) | (rw [if_neg (by decide +kernel)]; exact ⟨rfl, rfl⟩))
  (fun os started H enc _ F => by rw [OpenClaim.pre_eq_preRow]; exact syntaxStays_lifted os started H enc F)
theorem syntaxStays_wf : Rows.syntaxStaysUptoRow.wfByText (Rows.OpenSpec.upto Rows.syntaxStaysSpec) = true := by kernel_rfl
theorem syntaxStays_main : Tryz.prog.mainIs = some (true, "1f45b84775363bf8e2222e170eabc7910a866ce765de4deb505d72284f205f1a".toList) := by kernel_rfl
theorem syntaxStays_looks : true = Tryz.prog.looks [] := by kernel_rfl
theorem syntaxStays_goes : false = Rows.syntaxStaysUptoRow.goesBy Tryz.prog := by kernel_rfl
theorem syntaxStays_named : Tryz.prog.funcNamed "trellis/trellislaw26.SyntaxStays" = some 7 := by kernel_rfl
theorem syntaxStays_st0 : Tryz.prog.wantsStandIn 47 = false := by kernel_rfl
theorem syntaxStays_st1 : Tryz.prog.wantsStandIn 58 = false := by kernel_rfl
theorem syntaxStays_st2 : Tryz.prog.wantsStandIn 38 = false := by kernel_rfl
/-- The statement. -/
theorem syntaxStays_proved : Rows.SyntaxStaysUptoCardSaid :=
 Claim7.holds_tied_plain_at .later [] [.data] true (true, "1f45b84775363bf8e2222e170eabc7910a866ce765de4deb505d72284f205f1a") true
  syntaxStays_row (fun _ h => by cases h) syntaxStays_wf (fun _ h => by cases h) syntaxStaysUpto_row_tie rfl ⟨rfl, rfl⟩ syntaxStays_main rfl
  (fun f fn hf hfn => by
   obtain rfl : f = 7 := Option.some.inj (syntaxStays_named.symm.trans hf) |>.symm
   obtain rfl : fn = Tryz.f7 := (Option.some.inj (Tryz.func7.symm.trans hfn)).symm
   exact ⟨syntaxStays_looks, fun j t ht => by
    rw [Tryz.params7] at ht
    have h3 : t = 47 ∨ t = 58 ∨ t = 38 := by
     rcases j with _ | _ | _ | j
     ·exact .inl (by simpa using ht.symm)
     ·exact .inr (.inl (by simpa using ht.symm))
     ·exact .inr (.inr ((by simpa using ht.symm)))
     ·simp at ht
    rcases h3 with rfl | rfl | rfl
    ·exact syntaxStays_st0
    ·exact syntaxStays_st1
    ·exact syntaxStays_st2⟩)
  syntaxStays_goes
#print axioms syntaxStays_proved
end Go.Proofs.YtgfmiladfeoldaaGreatDoor
