/- Joined texts of this claim's proof: PsA, SyParses. -/
import Derived.Test.YtgfmiladfeoldaaGreatDoorPk1
import Derived.Test.YtgfmiladfeoldaaGreatDoorPk32
import Derived.Test.YtgfmiladfeoldaaGreatDoorPk42
import Derived.Test.YtgfmiladfeoldaaGreatDoorPk49
import Derived.Test.YtgfmiladfeoldaaGreatDoorPk12
import Derived.Test.YtgfmiladfeoldaaGreatDoorTie
import Derived.Test.YtgfmiladfeoldaaGreatDoorCards
set_option linter.unusedSimpArgs false
set_option linter.unusedVariables false
set_option maxRecDepth 100000
set_option maxHeartbeats 16000000
namespace Go.Proofs.YtgfmiladfeoldaaGreatDoor
open Go.RowKit LexP
theorem Ci (s:ByteArray)(w:World)(hsl:s.size<=1048576)(hx:Lx w)(hs:SG w)(hsz:4<w.heap.size):
  Calls Tryz.prog 8 #[.string s] w fun e w'=>e=.returned (.bool true)/\Below w.heap.size w w':=by
 have HX:=zq hx;have HS:=zq hs;have HW:=zq (Qxm w hx hs hsz)
 have hsl2:s.data.toList.length<=1048576:=by rw[<-Lib.size_eq];exact hsl
 have HSL:=zq hsl;clear hx hs;go_enter Tryz.func8,Tryz.ntmps8;go_wp2_with fail;refine HW.o.mono ?_;rintro e w1 ⟨rfl,hb1⟩;have HB1:=zq hb1;have hsz1:4<w1.heap.size:=Nat.lt_of_lt_of_le hsz hb1.size;have HX1:=zq (HX.o.below hb1);have HS1:=zq (HS.o.below hb1 hsz);clear hb1;go_wp2_with fail;refine(Ga s _ (by show _<=_;omega) HX1.o HS1.o hsz1).mono ?_;rintro e w2 hn;have HR2:=zq (Qj7 Qg8 Qhh (Qhf Qg8) s w2 HSL.o);unfold PaP at hn;rcases hV:SynP.Y4 s.data.toList with ⟨c,ek⟩|n
 ·rw[hV]at hn
  obtain⟨rfl,hb2⟩:=hn;have HB2:=zq (Qg HB1.o hb2);have HV:=zq hV;clear hb2 hV;go_wp2_with fail;refine HR2.o.mono ?_;rintro e w3 ⟨hb3,h3⟩;rw[HV.o]at h3;subst h3;have HB3:=zq (Qg HB2.o hb3);clear hb3;go_wp2_with fail;refine(Ge _ _ [] _ (NdA.nil _) (NdA.nil _)).mono ?_;rintro e w4 ⟨rfl,hb4⟩;have HB4:=zq (Qg HB3.o hb4);clear hb4;go_wp2_with fail;go_ret;exact⟨by simp,HB4.o⟩
 ·rw[hV]at hn
  obtain⟨nv,ns,rfl,hb2,htr,hfl⟩:=hn;have hnd:=htr.ndl;rw[hfl]at hnd;have HNA:=zq (hnd.nda (Nat.le_refl _));have HB2:=zq (Qg HB1.o hb2);have HV:=zq hV;clear hb2 hV htr hfl hnd;obtain⟨ao,cap,rfl,-,-,-⟩:=HNA.o;obtain⟨m,hm⟩:=xq ((SynP.nL n.flat).length);rw[<-hm]at HNA ⊢;clear hm;go_wp2_with fail;refine HR2.o.mono ?_;rintro e w3 ⟨hb3,h3⟩;rw[HV.o]at h3;obtain⟨u,rfl,hn3⟩:=h3;have HN3:=zq hn3;have HB3:=zq (Qg HB2.o hb3);have HA3:=zq (HNA.o.below hb3);clear hb3 hn3;go_wp2_with fail;refine(Ge _ _ (SynP.nL n.flat) _ HA3.o HN3.o).mono ?_;rintro e w4 ⟨rfl,hb4⟩;have HB4:=zq (Qg HB3.o hb4);clear hb4;go_wp2_with fail;go_ret;exact⟨by simp,HB4.o⟩
open Go.ChangeShapes Go.WideShapes Go.ChangeAt
open Go.ChangeMaps (open_string shut_string)
theorem parses_witness (os:Os){H:Type}(enc:TypeId×Value->H):
  (Rows.OpenSpec.upto Rows.syntaxParsesSpec).preRow enc Tryz.prog Tryz.f8 Rows.syntaxParsesUptoRow.domain false Cr ((Tk os).forCall (fun _ _=>0) ⟨#[],#[.string .empty],[]⟩).memory #[.string .empty]:=by
 have I:(DataW.whole enc Tryz.prog ((Tk os).forCall (fun _ _=>0) ⟨#[],#[.string .empty],[]⟩).memory Tryz.f8.params.toList Rows.syntaxParsesSpec.vars false #[Value.string .empty].toList 8).map (fun x=>(x.1,x.2.1))=
   some ([.lit (.string [])],[]):=by kernel_rfl
 obtain⟨⟨x1,x2,x3⟩,E,h⟩:=Option.map_eq_some_iff.1 I;simp only[Prod.mk.injEq]at h;obtain⟨rfl,rfl⟩:=h;exact OpenSpec.preRow_of_cond 8 E (by kernel_rfl) (fun k hk=>by cases hk;rfl) (by kernel_rfl) (Qj8 os _)
theorem parses_row {H:Type}(s:ByteArray)(w:World)(hk:Rows.uptoSmall H [.lit (.string s.data.toList)]=true)(h:Lx w)(hl:laidMetH Tryz.prog Cr w):
  Calls Tryz.prog 8 #[.string s] w fun e w'=>e=.returned (.bool true)/\Below w.heap.size w w':=by
 have E:=bulk hk;simp only[Rows.uptoBulkAll,Rows.uptoBulk]at E;obtain⟨J,I⟩:=Cg hl;exact Ci s w (by rw[Lib.size_eq];omega) h J I
theorem syntaxParses_lifted (os:Os)(started:os.Started)(H:Type)(enc:TypeId×Value->H)(F:Stop.Interp):
  ReturnsInHanded {} Tryz.checked os 8 .any ((Rows.OpenSpec.upto Rows.syntaxParsesSpec).preRow enc Tryz.prog Tryz.f8 Rows.syntaxParsesUptoRow.domain false Cr) (((Rows.OpenSpec.upto Rows.syntaxParsesSpec).at F).post enc Tryz.prog Tryz.f8 false true false false):=by
 refine returnsInHanded_of_row (C:=Tryz.checked) (s:=Rows.OpenSpec.upto Rows.syntaxParsesSpec) own started (by kernel_rfl) Tryz.func8
  (witness_row_at (enc:=enc) (C:=Tryz.checked) false (Tk os) #[.string .empty] rfl (by kernel_rfl) (by kernel_rfl) (by kernel_rfl) (parses_witness os enc)) ?_
 intro W base args ds gs before hval0 hW _ hcond0 _ hL hsh _;have hk:Rows.uptoSmall H (ds++gs)=true:=hcond0 _ rfl;have hval:∀(j:Nat) t v,Tryz.f8.params[j]?=some t->args[j]?=some v->Value.okWide Tryz.prog W .any base t v:=hval0;have hW':=hW;obtain⟨p,q,hA0,hV,rfl,hfz,hnd⟩:=hW;have hA:DataW.TrodAll enc Tryz.prog W 0 (fun _=>true) true Tryz.f8.params.toList args.toList ds p:=hA0;rw[Tryz.params8]at hA hval;obtain⟨v0,vs0,d0,ds0,p0,q0,hargs,rfl,rfl,h0,r0⟩:=trodAll_cons hA;obtain⟨rfl,rfl,rfl⟩:=trodAll_nil r0
 obtain rfl:args= #[v0]:=by cases args;simp_all
 obtain⟨rfl,rfl⟩:=trodVars_none hV;obtain⟨s0,rfl,rfl,rfl,m0⟩:=open_string Tryz.underlying9 (hval 0 9 v0 rfl rfl) h0;clear hA0;simp only[List.append_nil]at hW' hk;refine(parses_row s0 W hk (Es hsh) hL).mono fun e W' ⟨he,bel⟩=> ?_;subst he;exact⟨_,rfl,_,_,_,[],_,[],hW',trodAll_mk1 (shut_bool Tryz.underlying4 _),(trodAll_cons_mk (shut_string Tryz.underlying9 m0) trodAll_mk0),rfl,bel.frame _,fun h=>by cases h⟩
theorem syntaxParses_facts:joinedFacts Tryz.prog 8 Tryz.f8 (Rows.OpenSpec.upto Rows.syntaxParsesSpec).bare Rows.syntaxParsesUptoRow=true:=by kernel_rfl
theorem syntaxParses_row:Rows.SyntaxParsesUptoSaid:=
 OpenClaim.holds_of_cond 8 Tryz.f8 rfl rfl rfl rfl rfl rfl rfl ⟨rfl,rfl,rfl,rfl,rfl⟩ rfl rfl rfl rfl rfl (by kernel_rfl) Tryz.func8 syntaxParses_facts
  (of_decide_eq_true (by kernel_rfl)) (by unfold Func.isWrapper;first|(rw[if_pos (by decide+kernel)];kernel_rfl)|(rw[if_neg (by decide+kernel)];exact⟨rfl,rfl⟩))
  (fun os started H enc _ F=>by rw[OpenClaim.pre_eq_preRow];exact syntaxParses_lifted os started H enc F)
theorem syntaxParses_proved:Rows.SyntaxParsesUptoCardSaid:=
 Claim7.holds_tied_plain_at .later [] [.data, .data, .data, .data] true (true, "1f45b84775363bf8e2222e170eabc7910a866ce765de4deb505d72284f205f1a") true
  syntaxParses_row (fun _ h=>by cases h) (by kernel_rfl) (fun _ h=>by cases h) syntaxParsesUpto_row_tie rfl ⟨rfl,rfl⟩ (by kernel_rfl) rfl
  (fun f fn hf hfn=>by
   obtain rfl : f = 8 := Option.some.inj ((show Tryz.prog.funcNamed "trellis/trellislaw26.SyntaxParses" = some 8 by kernel_rfl).symm.trans hf) |>.symm
   obtain rfl:fn=Tryz.f8:=(Option.some.inj (Tryz.func8.symm.trans hfn)).symm
   exact⟨by kernel_rfl,fun j t ht=>by
    rw[Tryz.params8]at ht
    have E:t=9:=by
     rcases j with _|j
     ·simpa using ht.symm
     ·simp at ht
    subst E
    exact(show Tryz.prog.wantsStandIn 9=false by kernel_rfl)⟩)
  (by kernel_rfl)
#print axioms syntaxParses_proved
end Go.Proofs.YtgfmiladfeoldaaGreatDoor
