/- SyntaxKeeps, for arguments of bulk at most 1048576. -/
import Derived.Test.YtgfmiladfeoldaaGreatDoorPk28
import Derived.Test.YtgfmiladfeoldaaGreatDoorTie
import Derived.Test.YtgfmiladfeoldaaGreatDoorCards
set_option linter.unusedSimpArgs false
set_option linter.unusedVariables false
set_option maxRecDepth 100000
set_option maxHeartbeats 16000000
namespace Go.Proofs.YtgfmiladfeoldaaGreatDoor
open Go.ChangeShapes Go.WideShapes Go.ChangeAt Go.RowKit LexP
open Go.ChangeMaps (open_string shut_string)
theorem keeps_witness (os:Os){H:Type}(enc:TypeId×Value->H):
  (Rows.OpenSpec.upto Rows.syntaxKeepsSpec).preRow enc Tryz.prog Tryz.f6 Rows.syntaxKeepsUptoRow.domain false Bl ((S9 os).forCall (fun _ _=>0) ⟨#[],#[.string .empty,.string .empty,.string .empty],[]⟩).memory #[.string .empty,.string .empty,.string .empty]:=by
 have E:(DataW.whole enc Tryz.prog ((S9 os).forCall (fun _ _=>0) ⟨#[],#[.string .empty,.string .empty,.string .empty],[]⟩).memory Tryz.f6.params.toList Rows.syntaxKeepsSpec.vars false #[Value.string .empty,Value.string .empty,Value.string .empty].toList 8).map (fun x=>(x.1,x.2.1))=
   some ([.lit (.string []),.lit (.string []),.lit (.string [])],[]):=by kernel_rfl
 obtain⟨⟨x1,x2,x3⟩,I,h⟩:=Option.map_eq_some_iff.1 E;simp only[Prod.mk.injEq]at h;obtain⟨rfl,rfl⟩:=h;exact OpenSpec.preRow_of_cond 8 I (by kernel_rfl) (fun k hk=>by cases hk;rfl) (by kernel_rfl) (Qwe os _)
theorem keeps_row {H:Type}(s0 s1 s2:ByteArray)(w:World)(hk:Rows.uptoSmall H [.lit (.string s0.data.toList),.lit (.string s1.data.toList),.lit (.string s2.data.toList)]=true)(h:Lx w)(hl:laidMetH Tryz.prog Bl w):
  Calls Tryz.prog 6 #[.string s0,.string s1,.string s2] w fun e w'=>e=.returned (.bool true)/\Below w.heap.size w w':=by
 have E:=bulk hk;simp only[Rows.uptoBulkAll,Rows.uptoBulk]at E;obtain⟨g2,g3⟩:=Qx7 hl;exact Cp s0 s1 s2 w (by rw[Lib.size_eq];omega) (by rw[Lib.size_eq];omega) (by rw[Lib.size_eq];omega) h g2 g3
theorem syntaxKeeps_lifted (os:Os)(started:os.Started)(H:Type)(enc:TypeId×Value->H)(F:Stop.Interp):
  ReturnsInHanded {} Tryz.checked os 6 .any ((Rows.OpenSpec.upto Rows.syntaxKeepsSpec).preRow enc Tryz.prog Tryz.f6 Rows.syntaxKeepsUptoRow.domain false Bl) (((Rows.OpenSpec.upto Rows.syntaxKeepsSpec).at F).post enc Tryz.prog Tryz.f6 false true false false):=by
 refine returnsInHanded_of_row (C:=Tryz.checked) (s:=Rows.OpenSpec.upto Rows.syntaxKeepsSpec) own started (by kernel_rfl) Tryz.func6
  (witness_row_at (enc:=enc) (C:=Tryz.checked) false (S9 os) #[.string .empty,.string .empty,.string .empty] rfl (by kernel_rfl) (by kernel_rfl) (by kernel_rfl) (keeps_witness os enc)) ?_
 intro W base args ds gs before hval0 hW _ hcond0 _ hL hsh _;have hk:Rows.uptoSmall H (ds++gs)=true:=hcond0 _ rfl;have hval:∀(j:Nat) t v,Tryz.f6.params[j]?=some t->args[j]?=some v->Value.okWide Tryz.prog W .any base t v:=hval0;have hW':=hW;obtain⟨p,q,hA0,hV,rfl,hfz,hnd⟩:=hW;have hA:DataW.TrodAll enc Tryz.prog W 0 (fun _=>true) true Tryz.f6.params.toList args.toList ds p:=hA0;rw[Tryz.params6]at hA hval;obtain⟨v0,vs0,d0,ds0,p0,q0,hargs,rfl,rfl,h0,r0⟩:=trodAll_cons hA;obtain⟨v1,vs1,d1,ds1,p1,q1,rfl,rfl,rfl,h1,r1⟩:=trodAll_cons r0;obtain⟨v2,vs2,d2,ds2,p2,q2,rfl,rfl,rfl,h2,r2⟩:=trodAll_cons r1;obtain⟨rfl,rfl,rfl⟩:=trodAll_nil r2
 obtain rfl:args= #[v0,v1,v2]:=by cases args;simp_all
 obtain⟨rfl,rfl⟩:=trodVars_none hV;obtain⟨s0,rfl,rfl,rfl,m0⟩:=open_string Tryz.underlying9 (hval 0 9 v0 rfl rfl) h0;obtain⟨s1,rfl,rfl,rfl,m1⟩:=open_string Tryz.underlying9 (hval 1 9 v1 rfl rfl) h1;obtain⟨s2,rfl,rfl,rfl,m2⟩:=open_string Tryz.underlying9 (hval 2 9 v2 rfl rfl) h2;clear hA0;simp only[List.append_nil]at hW' hk;refine(keeps_row s0 s1 s2 W hk (Db hsh) hL).mono fun e W' ⟨he,bel⟩=> ?_;subst he;exact⟨_,rfl,_,_,_,[],_,[],hW',trodAll_mk1 (shut_bool Tryz.underlying4 _),(trodAll_cons_mk (shut_string Tryz.underlying9 m0) (trodAll_cons_mk (shut_string Tryz.underlying9 m1) (trodAll_cons_mk (shut_string Tryz.underlying9 m2) trodAll_mk0))),rfl,bel.frame _,fun h=>by cases h⟩
theorem syntaxKeeps_facts:joinedFacts Tryz.prog 6 Tryz.f6 (Rows.OpenSpec.upto Rows.syntaxKeepsSpec).bare Rows.syntaxKeepsUptoRow=true:=by kernel_rfl
theorem syntaxKeeps_row:Rows.SyntaxKeepsUptoSaid:=
 OpenClaim.holds_of_cond 6 Tryz.f6 rfl rfl rfl rfl rfl rfl rfl ⟨rfl,rfl,rfl,rfl,rfl⟩ rfl rfl rfl rfl rfl (by kernel_rfl) Tryz.func6 syntaxKeeps_facts
  (of_decide_eq_true (by kernel_rfl)) (by unfold Func.isWrapper;first|(rw[if_pos (by decide+kernel)];kernel_rfl)|(rw[if_neg (by decide+kernel)];exact⟨rfl,rfl⟩))
  (fun os started H enc _ F=>by rw[OpenClaim.pre_eq_preRow];exact syntaxKeeps_lifted os started H enc F)
theorem syntaxKeeps_wf:Rows.syntaxKeepsUptoRow.wfByText (Rows.OpenSpec.upto Rows.syntaxKeepsSpec)=true:=by kernel_rfl
theorem syntaxKeeps_main : Tryz.prog.mainIs = some (true, "1f45b84775363bf8e2222e170eabc7910a866ce765de4deb505d72284f205f1a".toList) := by kernel_rfl
theorem syntaxKeeps_looks:true=Tryz.prog.looks []:=by kernel_rfl
theorem syntaxKeeps_goes:false=Rows.syntaxKeepsUptoRow.goesBy Tryz.prog:=by kernel_rfl
theorem syntaxKeeps_named : Tryz.prog.funcNamed "trellis/trellislaw26.SyntaxKeeps" = some 6 := by kernel_rfl
theorem syntaxKeeps_st0:Tryz.prog.wantsStandIn 9=false:=by kernel_rfl
theorem syntaxKeeps_st1:Tryz.prog.wantsStandIn 9=false:=by kernel_rfl
theorem syntaxKeeps_st2:Tryz.prog.wantsStandIn 9=false:=by kernel_rfl
theorem syntaxKeeps_proved:Rows.SyntaxKeepsUptoCardSaid:=
 Claim7.holds_tied_plain_at .later [] [.data] true (true, "1f45b84775363bf8e2222e170eabc7910a866ce765de4deb505d72284f205f1a") true
  syntaxKeeps_row (fun _ h=>by cases h) syntaxKeeps_wf (fun _ h=>by cases h) syntaxKeepsUpto_row_tie rfl ⟨rfl,rfl⟩ syntaxKeeps_main rfl
  (fun f fn hf hfn=>by
   obtain rfl:f=6:=Option.some.inj (syntaxKeeps_named.symm.trans hf)|>.symm;obtain rfl:fn=Tryz.f6:=(Option.some.inj (Tryz.func6.symm.trans hfn)).symm
   exact⟨syntaxKeeps_looks,fun j t ht=>by
    rw[Tryz.params6]at ht
    have E:t=9\/t=9\/t=9:=by
     rcases j with _|_|_|j
     ·exact .inl (by simpa using ht.symm)
     ·exact .inr (.inl (by simpa using ht.symm))
     ·exact .inr (.inr ((by simpa using ht.symm)))
     ·simp at ht
    rcases E with rfl|rfl|rfl
    ·exact syntaxKeeps_st0
    ·exact syntaxKeeps_st1
    ·exact syntaxKeeps_st2⟩)
  syntaxKeeps_goes
#print axioms syntaxKeeps_proved
end Go.Proofs.YtgfmiladfeoldaaGreatDoor
