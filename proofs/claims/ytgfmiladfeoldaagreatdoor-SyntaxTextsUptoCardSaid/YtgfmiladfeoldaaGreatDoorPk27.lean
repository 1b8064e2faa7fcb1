/- SyntaxTexts, for arguments of bulk at most 1048576. -/
import Derived.Test.YtgfmiladfeoldaaGreatDoorPk26
import Derived.Test.YtgfmiladfeoldaaGreatDoorTie
import Derived.Test.YtgfmiladfeoldaaGreatDoorCards
set_option linter.unusedSimpArgs false
set_option linter.unusedVariables false
set_option maxRecDepth 100000
set_option maxHeartbeats 16000000
open Go.Proofs.Tryz renaming prog->ca,f11->co,params11->da,checked->db
open Go.Value renaming int->A,slice->U,agg->c9,string->de
open Go.IntKind renaming i64->G
open Bool renaming true->ce,false->cl
open Option renaming none->Z
namespace Go.Proofs.YtgfmiladfeoldaaGreatDoor
open Go.ChangeShapes Go.WideShapes Go.ChangeAt Go.RowKit ar
open Go.ChangeMaps (open_string shut_string)
theorem texts_witness (os:Os){H:Type}(enc:TypeId×Value->H):(Rows.OpenSpec.upto Rows.syntaxTextsSpec).preRow enc ca co Rows.syntaxTextsUptoRow.domain cl Fy ((Tq os).forCall (fun _ _=>0) ⟨#[],#[c9 #[A G 0,A G 0,U Z 0 0],c9 #[A G 0,A G 0,U Z 0 0],U Z 0 0,de .empty],[]⟩).memory #[c9 #[A G 0,A G 0,U Z 0 0],c9 #[A G 0,A G 0,U Z 0 0],U Z 0 0,de .empty]:=by
 have E:(DataW.whole enc ca ((Tq os).forCall (fun _ _=>0) ⟨#[],#[c9 #[A G 0,A G 0,U Z 0 0],c9 #[A G 0,A G 0,U Z 0 0],U Z 0 0,de .empty],[]⟩).memory Tryz.f11.params.toList Rows.syntaxTextsSpec.vars cl #[Value.agg #[A G 0,A G 0,U Z 0 0],Value.agg #[A G 0,A G 0,U Z 0 0],Value.slice Z 0 0,Value.string .empty].toList 8).map (fun x=>(x.1,x.2.1))=
   some ([.agg [.lit (.int G 0),.lit (.int G 0),.nil],.agg [.lit (.int G 0),.lit (.int G 0),.nil],.nil,.lit (.string [])],[]):=by kernel_rfl
 obtain⟨⟨x1,x2,x3⟩,I,h⟩:=abD.1 E;simp only[Prod.mk.injEq]at h;obtain⟨rfl,rfl⟩:=h;exact OpenSpec.preRow_of_cond 8 I (by kernel_rfl) (fun k hk=>by cases hk;rfl) (by kernel_rfl) (Qyx os)
theorem texts_row {H:Type}{enc:TypeId×Value->H}(v0 v1 v2 v3:Value)(d0 d1 d2 d3:DataW H)(p0 p1 p2 p3:List MemPlace){w:World}(o0:Value.okWide ca w .any 0 47 v0)(o1:Value.okWide ca w .any 0 58 v1)(o2:Value.okWide ca w .any 0 38 v2)(o3:Value.okWide ca w .any 0 9 v3)
  (h0:DataW.Trod enc ca w 0 (fun _=>ce) ce 47 v0 d0 p0) (h1:DataW.Trod enc ca w 0 (fun _=>ce) ce 58 v1 d1 p1) (h2:DataW.Trod enc ca w 0 (fun _=>ce) ce 38 v2 d2 p2) (h3:DataW.Trod enc ca w 0 (fun _=>ce) ce 9 v3 d3 p3) (hk:Rows.uptoSmall H [d0,d1,d2,d3]=ce) (h:Lx w) (hl:laidMetH ca Fy w):
  Calls ca 11 #[v0,v1,v2,v3] w fun e w'=>e=.returned (.bool ce)/\Below w.heap.size w w':=by
 obtain⟨s,rfl,rfl,rfl,-⟩:=open_string Tryz.underlying9 o3 h3;have hb:=aeZ hk;simp only[Rows.uptoBulkAll,Rows.uptoBulk]at hb;obtain⟨r,c,av,l,rfl,ha,hb0⟩:=Qmu o0 h0;obtain⟨r2,c2,qv,ql,rfl,hq,hb1⟩:=Qyt o1 h1;obtain⟨sa,sl,sc,rfl⟩:=okWide_slice xK o2;obtain⟨f2,hf2⟩:=h2;obtain⟨fv,fs,e,hf,hfk,hb2⟩:=Qj7 hf2;simp only at hb2
 cases e
 obtain⟨a1,a2⟩:=Nl (fun p:Bool×List Nat=>p.2.length) (l:=l) (M:=1048575) (by omega);obtain⟨b1,b2⟩:=Nl (fun p:FW=>p.1.2.length+p.2.2.length) (l:=ql) (M:=1048575) (by omega);obtain⟨c1,c2'⟩:=Nl (fun ks:List Int=>ks.length) (l:=fs) (M:=1048575) (by omega);obtain⟨g2,g3⟩:=Qzq hl;exact Qvs r c r2 c2 s ha (by omega) (fun p hp=>by have:=a2 p hp;omega) hq (by omega) (fun p hp=>by have:=b2 p hp;omega) hf (by omega) (fun ks mE=>⟨by have:=c2' ks mE;omega,hfk ks mE⟩) (by rw[aa2];omega) (Bb hl) h g2 g3
theorem syntaxTexts_lifted (os:Os)(started:os.Started)(H:Type)(enc:TypeId×Value->H)(al:Stop.Interp):ReturnsInHanded {} db os 11 .any ((Rows.OpenSpec.upto Rows.syntaxTextsSpec).preRow enc ca co Rows.syntaxTextsUptoRow.domain cl Fy) (((Rows.OpenSpec.upto Rows.syntaxTextsSpec).at al).post enc ca co cl ce cl cl):=by
 refine returnsInHanded_of_row (C:=db) (s:=Rows.OpenSpec.upto Rows.syntaxTextsSpec) own started (by kernel_rfl) Tryz.func11
  (witness_row_at (enc:=enc) (C:=db) cl (Tq os) #[c9 #[A G 0,A G 0,U Z 0 0],c9 #[A G 0,A G 0,U Z 0 0],U Z 0 0,de .empty] rfl (by kernel_rfl) (by kernel_rfl) (by kernel_rfl) (texts_witness os enc)) ?_
 intro W base args ds gs before YT hW _ I7 _ hL aS _;have hk:Rows.uptoSmall H (ds++gs)=ce:=I7 _ rfl;have hval:∀(j:Nat) t v,Tryz.f11.params[j]?=some t->args[j]?=some v->Value.okWide ca W .any base t v:=YT;have hW':=hW;obtain⟨p,q,TS,hV,rfl,hfz,hnd⟩:=hW;have hA:DataW.TrodAll enc ca W 0 (fun _=>ce) ce Tryz.f11.params.toList args.toList ds p:=TS;rw[da]at hA hval;obtain⟨v0,vs0,d0,rF,p0,q0,ahB,rfl,rfl,h0,r0⟩:=trodAll_cons hA;obtain⟨v1,vs1,d1,ds1,p1,q1,rfl,rfl,rfl,h1,r1⟩:=trodAll_cons r0;obtain⟨v2,vs2,d2,SZ,p2,q2,rfl,rfl,rfl,h2,r2⟩:=trodAll_cons r1;obtain⟨v3,vs3,d3,ds3,p3,q3,rfl,rfl,rfl,h3,r3⟩:=trodAll_cons r2;obtain⟨rfl,rfl,rfl⟩:=trodAll_nil r3
 obtain rfl:args= #[v0,v1,v2,v3]:=by cases args;simp_all
 obtain⟨rfl,rfl⟩:=trodVars_none hV;have hAA:=TS;have hlt:=hW'.lt;clear TS;simp only[abt]at hW' hk hlt hAA;refine(texts_row v0 v1 v2 v3 d0 d1 d2 d3 p0 p1 p2 p3 (hval 0 47 v0 rfl rfl) (hval 1 58 v1 rfl rfl) (hval 2 38 v2 rfl rfl) (hval 3 9 v3 rfl rfl) h0 h1 h2 h3 hk (Bu aS) hL).mono fun e W' ⟨he,fK⟩=> ?_;subst he;exact⟨_,rfl,_,_,_,[],_,[],hW',trodAll_mk1 (shut_bool Tryz.underlying4 _),Rh fK (DataW.TrodAll.respare Quj Qux (by rw[da];decide+kernel) hAA (fun x hx=>aa7 (hlt x hx))) hlt,rfl,fK.frame _,fun h=>by cases h⟩
theorem syntaxTexts_facts:joinedFacts ca 11 co (Rows.OpenSpec.upto Rows.syntaxTextsSpec).bare Rows.syntaxTextsUptoRow=ce:=by kernel_rfl
theorem syntaxTexts_row:Rows.SyntaxTextsUptoSaid:=
 OpenClaim.holds_of_cond 11 co rfl rfl rfl rfl rfl rfl rfl ⟨rfl,rfl,rfl,rfl,rfl⟩ rfl rfl rfl rfl rfl (by kernel_rfl) Tryz.func11 syntaxTexts_facts
  (of_decide_eq_true (by kernel_rfl)) (by unfold Func.isWrapper;first|(rw[if_pos (by decide+kernel)];kernel_rfl)|(rw[if_neg (by decide+kernel)];exact⟨rfl,rfl⟩))
  (fun os started H enc _ al=>by rw[OpenClaim.pre_eq_preRow];exact syntaxTexts_lifted os started H enc al)
theorem syntaxTexts_wf:Rows.syntaxTextsUptoRow.wfByText (Rows.OpenSpec.upto Rows.syntaxTextsSpec)=ce:=by kernel_rfl
theorem syntaxTexts_main : Tryz.prog.mainIs = some (ce, "1f45b84775363bf8e2222e170eabc7910a866ce765de4deb505d72284f205f1a".toList) := by kernel_rfl
theorem syntaxTexts_looks:ce=Tryz.prog.looks []:=by kernel_rfl
theorem syntaxTexts_goes:cl=Rows.syntaxTextsUptoRow.goesBy ca:=by kernel_rfl
theorem syntaxTexts_named : Tryz.prog.funcNamed "trellis/trellislaw26.SyntaxTexts" = some 11 := by kernel_rfl
theorem syntaxTexts_st0:Tryz.prog.wantsStandIn 47=cl:=by kernel_rfl
theorem syntaxTexts_st1:Tryz.prog.wantsStandIn 58=cl:=by kernel_rfl
theorem syntaxTexts_st2:Tryz.prog.wantsStandIn 38=cl:=by kernel_rfl
theorem syntaxTexts_st3:Tryz.prog.wantsStandIn 9=cl:=by kernel_rfl
theorem syntaxTexts_proved:Rows.SyntaxTextsUptoCardSaid:=
 Claim7.holds_tied_plain_at .later [] [.data, .data, .data, .data] ce (ce, "1f45b84775363bf8e2222e170eabc7910a866ce765de4deb505d72284f205f1a") ce
  syntaxTexts_row (fun _ h=>by cases h) syntaxTexts_wf (fun _ h=>by cases h) syntaxTextsUpto_row_tie rfl ⟨rfl,rfl⟩ syntaxTexts_main rfl
  (fun f fn hf hfn=>by
   obtain rfl:f=11:=aav (syntaxTexts_named.symm.trans hf)|>.symm;obtain rfl:fn=co:=(aav (Tryz.func11.symm.trans hfn)).symm
   exact⟨syntaxTexts_looks,fun j t ht=>by
    rw[da]at ht
    have E:t=47\/t=58\/t=38\/t=9:=by
     rcases j with _|_|_|_|j
     ·exact .inl (by simpa using ht.symm)
     ·exact .inr (.inl (by simpa using ht.symm))
     ·exact .inr (.inr (.inl (by simpa using ht.symm)))
     ·exact .inr (.inr (.inr ((by simpa using ht.symm))))
     ·simp at ht
    rcases E with rfl|rfl|rfl|rfl
    ·exact syntaxTexts_st0
    ·exact syntaxTexts_st1
    ·exact syntaxTexts_st2
    ·exact syntaxTexts_st3⟩)
  syntaxTexts_goes
#print axioms syntaxTexts_proved
end Go.Proofs.YtgfmiladfeoldaaGreatDoor
