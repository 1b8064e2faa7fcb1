import Derived.Test.YtgfmiladfeoldaaGreatDoorPk17
import Derived.Test.YtgfmiladfeoldaaGreatDoorPk18
import Derived.Deep.Slices
import Derived.Test.YtgfmiladfeoldaaGreatDoorPk19
set_option linter.unusedSimpArgs false
set_option linter.unusedVariables false
set_option maxRecDepth 100000
set_option maxHeartbeats 16000000
open Go.Proofs.Tryz
open Option renaming none->Z,some->F
open Go.Value renaming slice->U,int->A,string->co,pointer->c9,bool->dj
open Go.Proofs.Tryz renaming prog->ca,underlying3->da
open Go.IntKind renaming i64->G
open Go renaming Value->ce,Calls->de,World->dk
open Go.Obj renaming cells->O
open Bool renaming true->cl,false->db
namespace Go.Proofs.YtgfmiladfeoldaaGreatDoor
open Go.RowKit aw ar
variable {R fuel:Nat} {W w:dk} {cs:List ce} {nv tv v:ce}
theorem Qhx {L:List Tok}{i:Nat}{vv sv:ce}{ns:List Nv}{vs:List Nat}{dx:List aF.Op}{want pw:Bool}{d:Nat}(h:WM w R tv L i nv vv sv ns vs dx want pw d)
  (op:Nat) (text:Bytes) (hop:op<=255) (YU:vv.ownBlock=Z) (hb1:vs.length<=134217728) (hb2:ns.length<=134217728):
  de ca 137 #[c9 (F ⟨R,0,Z⟩),A G op,co ⟨text.toArray⟩,A G 0] w (qg R tv L i ns vs dx want pw d op 0 text w nv vv sv):=by
 obtain⟨i0,hi,hz0,hz1,hz2⟩:=aa0 Tryz.df;obtain⟨j0,hj,ja,tz,mf⟩:=aa0 Tryz.oc;have H:=zq h;have br:=h.lt;obtain⟨c0,c1,c2,c3,c4,c5,c6,c7⟩:=h.cells;have f3:=h.iH 3;have f2:=h.iH 2
 obtain⟨he,hv0⟩:vv=U Z 0 0/\vs=[]:=by
  rcases h.sf.2 with ⟨e,h0⟩|⟨g,cap,cur,e,x1,x2,x3,x4,-,-⟩
  ·exact⟨e,aau h0⟩
  rw[e]at YU;cases YU
 subst he;subst hv0;obtain⟨T,hT⟩:=xq (⟨text.toArray⟩:ByteArray);have HT:=zq hT;rw[<-hT]
 obtain⟨no,nn,bL,rQ⟩:∃no nn bL,nv=U no nn bL:=by obtain⟨a,b,e,-⟩:=Qj h.kM;exact⟨a,_,b,e⟩
 have hw0:IntKind.i64.wrap 0=0:=by decide
 have eG:Below w.heap.size w (w.alloc (O #[] 3)):=Qq _ _;have cT:=zq eG;have HOW:Hid ((w.alloc (O #[] 3)).drew.ownsRow (R+1) 3 1 (U (F ⟨w.heap.size,0,Z⟩) 0 0) 0 []):=Xh ((ab3 w #[] 0 (by omega) (by unfold maxLen;omega) rfl).drew) (show R+1<=w.heap.size by omega);clear h hT eG;go_enter func137,ntmps137;go_wp2_with fail
 go_region_held3 (fun w'=>w'.cell? ⟨R,3,Z⟩=F (U Z 0 0))
  (first
   |go_keep
   |(rw[hw2.o];go_keep))
  ((refine Ut (by rfl) _ _ (by rfl) w.heap.size Z 0 (by rfl) (by rfl) ?_;intro w2 hw2))
 obtain⟨gg,jG⟩:=xq w.heap.size
 have hown2:w2.ownsRow (R+1) 3 1 (U (F ⟨gg,0,Z⟩) 0 0) 0 []:=by rw[hw2.o,jG];exact HOW.o
 have dJ:gg<w2.heap.size:=by rw[hw2.o,jG];simp
 have hb2:Below w.heap.size w w2:=by rw[hw2.o];exact cT.o.drew
 have rN:w.heap.size<=gg:=abT jG.symm
 have tM:Hid (KR w2 R Z (U (F ⟨gg,0,Z⟩) 0 0) []):=by refine⟨_,_,rfl,aab _,aat _,fun q' hq'=> ?_,fun h0=>absurd h0 (ado _)⟩;obtain rfl:gg=q':=aav hq';exact⟨aal br rN,dJ,by simp⟩
 have lT:=zq rN;have O7:=zq dJ;have aI:=zq hb2;have eE:=zq (H.o.below hb2);clear c0 c1 c2 c3 c4 c5 c6 c7 f2 f3;obtain⟨c0,c1,c2,c3,c4,c5,c6,c7⟩:=eE.o.cells;have f3:=eE.o.iH 3;have sS:=eE.o.lt;rw[rQ]at c2
 have bu:nn=ns.length:=by obtain⟨a,b,e,-⟩:=Qj eE.o.kM;rw[rQ]at e;cases e;rfl
 have bw:=zq bu;have sA:=zq rQ;clear rQ bu
 have xQ:Hid ((w2.alloc (O #[A G nn] 3)).drew.ownsRow (R+1) 3 1 (U Z 0 0) 0 (ints ([]:List Nat))):=by exact(Qy eE.o.sf (Qq w2 _) (aab _)).drew
 rw[<-jG];have yL:=zq jG;clear hb2 rN hown2 dJ hw2 jG;go_wp2_with fail;go_upto_region 1 with fail;go_cut [] (fun wx=>Hid (∃g5 bW,WM wx R tv L i nv (U (F ⟨g5,0,Z⟩) 1 bW) sv ns (([]:List Nat)++[ns.length]) dx want pw d/\KR wx R Z (U (F ⟨gg,0,Z⟩) 0 0) []/\g5≠gg/\Below R w wx/\ ∀B,R<B->B<w.heap.size->(Value.slice Z 0 0).ownBlock≠F B->wx.heap[B]?=w.heap[B]? /\g5≠B))
 case first=>
  have yX:Hid (F R≠(Value.slice Z 0 0).ownBlock):=fun e=>by have h1:(Value.slice Z 0 0).ownBlock=Z:=rfl;rw[h1]at e;cases e
  have sF:Hid (R<(w2.alloc (O #[A G nn] 3)).drew.heap.size):=by show _<_;simp;omega
  have uF:Hid ((w2.alloc (O #[A G nn] 3)).drew.cell? ⟨R,3,Z⟩=F (U Z 0 0)):=((Qq w2 _).drew.cell (p:=⟨R,3,Z⟩) sS).trans c3;have rp:Hid ((w2.alloc (O #[A G nn] 3)).drew.frozen? ⟨R,3,Z⟩=db):=((Qq w2 _).drew.frozen (p:=⟨R,3,Z⟩) sS).trans f3
  have qh:Hid (∀g6 dU w5,w5.ownsRow (R+1) 3 1 (U (F ⟨g6,0,Z⟩) 1 dU) 1 (ints ([]:List Nat)++[A G nn])->(w2.alloc (O #[A G nn] 3)).drew.grownBy w5 (Value.slice Z 0 0).ownBlock->((Value.slice Z 0 0).ownBlock=F g6\/g6=w2.heap.size+1)->Hid (∃g5 bW,WM (w5.setCell ⟨R,3,Z⟩ (U (F ⟨g6,0,Z⟩) 1 dU)) R tv L i nv (U (F ⟨g5,0,Z⟩) 1 bW) sv ns (([]:List Nat)++[ns.length]) dx want pw d/\KR (w5.setCell ⟨R,3,Z⟩ (U (F ⟨g6,0,Z⟩) 1 dU)) R Z (U (F ⟨gg,0,Z⟩) 0 0) []/\g5≠gg/\Below R w (w5.setCell ⟨R,3,Z⟩ (U (F ⟨g6,0,Z⟩) 1 dU))/\ ∀B,R<B->B<w.heap.size->(Value.slice Z 0 0).ownBlock≠F B->(w5.setCell ⟨R,3,Z⟩ (U (F ⟨g6,0,Z⟩) 1 dU)).heap[B]?=w.heap[B]? /\g5≠B)):=by
   intro g5 bW w5 ho hg hat;have XR:(Value.slice Z 0 0).ownBlock=Z:=rfl;rw[XR]at hg hat;have wu:=O7.o;have WD:=lT.o
   have hsz:w2.heap.size+1<=w5.heap.size:=by have:=hg.size;simpa using this
   have hblk:∀k,k<w2.heap.size->w5.heap[k]?=w2.heap[k]? :=fun k hk=>(hg.block k (by simp;omega) (by simp)).trans ((Qq w2 (O #[A G nn] 3)).drew.block k hk)
   have bz:∀k,k≠R->(w5.setCell ⟨R,3,Z⟩ (U (F ⟨g5,0,Z⟩) 1 bW)).heap[k]?=w5.heap[k]? :=fun k hk=>aaN w5 ⟨R,3,Z⟩ k _ hk;have ua:=(hblk R sS).trans eE.o.blk;have x6:=(aao w5 R 3 _ _ (U (F ⟨g5,0,Z⟩) 1 bW) ua)
   have zR:g5=w2.heap.size+1:=by
    rcases hat with e|e
    ·cases e
    exact e
   refine⟨g5,bW,eE.o.vals (by simp[World.setCell];omega) (fun k hk wH hkv=> ?_) ?_ (fun q' hq'=> ?_) (x6.trans (by simp)),?_,?_,?_,?_⟩
   ·rw[bz k wH]
    exact hblk k hk
   ·have hl:(([]:List Nat)++[ns.length]).length=1:=rfl
    rw[hl,Fj]
    have e:ints [ns.length]=[Value.int G nn]:=by rw[bw.o];rfl
    rw[e];exact Xa ho (fun g _ h1 _=>bz g (by omega))
   ·obtain rfl:g5=q':=aav hq'
    right;omega
   ·exact tM.o.at (by simp[World.setCell];omega) (fun q' hq'=>by
     obtain rfl:gg=q':=aav hq';rw[bz gg (by omega)]
     exact hblk gg wu)
   ·omega
   ·refine⟨hg.os.trans aI.o.os,hg.tape.trans aI.o.tape,hg.output.trans aI.o.output,by simp[World.setCell];have:=aI.o.size;omega,fun k hk=> ?_⟩
    rw[bz k (by omega),hblk k (by omega)];exact aI.o.block k (by omega)
   refine fun B DM hB hne=>⟨?_,?_⟩
   ·exact(bz B (by omega)).trans ((hblk B (by have:=aI.o.size;omega)).trans (aI.o.block B hB))
   have:=aI.o.size;omega
  go_region_law
   ((refine ad6 _ (by rfl) _ _ _ (by rfl) (R+1) 3 i0 _ 1 8 underlying41 hi hz0 hz1 hz2 rfl (by omega) (U Z 0 0) 0 (ints ([]:List Nat)) (by rfl) (by exact xQ) ⟨w2.heap.size,0,Z⟩ 1 1 [A G nn] (by rfl) (by rfl) (ad3 (cs:= #[A G nn]) (aap _ _)) (Ve rfl) (by omega) (by unfold maxLen;omega) (by omega) (by simp;omega) (w2.heap.size+1) (by simp) ?_;intro g5 bW w5 cf cY o9 gW;have e3:w5.cell? ⟨R,3,Z⟩=F (U Z 0 0):=(cY.cell_far ⟨R,3,Z⟩ sF yX).trans uF;have e4:w5.frozen? ⟨R,3,Z⟩=db:=(cY.frozen_far ⟨R,3,Z⟩ sF yX).trans rp))
  all_goals
   have HF:=qh.o g5 bW w5 cf cY o9;clear cf cY o9 gW e3 e4;go_wp2_with fail;go_meet;exact HF
 case rest=>
  obtain⟨g5,bW,hw,hk,mD,hb,kE⟩:=hcut.o;have tL:=zq kE;have HW:=zq hw;have HK:=zq hk;have HB:=zq hb;clear c0 c1 c2 c3 c4 c5 c6 c7 f3 hcut;obtain⟨c0,c1,c2,c3,c4,c5,c6,c7⟩:=HW.o.cells;have f2:=HW.o.iH 2;have vM:=HW.o.lt;rw[sA.o]at c2
  have HOWN:Hid ((wc.alloc (O #[A G op,co T,U (F ⟨gg,0,Z⟩) 0 0] 43)).ownsRow (R+1) 43 3 (U no nn bL) nn (Xm ns)):=by have h1:=HW.o.kM;rw[sA.o,<-bw.o]at h1;exact Qy h1 (Qq _ _) (aab _)
  have bu:nn<=134217728:=by rw[bw.o];exact hb2
  clear hw hk hb kE;go_wp2_with (at_builtin;refine abk _ rfl _ _ 23 rfl (R+1) 43 j0 (.agg #[A G 0,co ⟨#[]⟩,U Z 0 0]) 3 48 underlying23 hj ja tz mf rfl (by omega) (U no nn bL) nn (Xm ns) rfl HOWN.o ⟨wc.heap.size,0,Z⟩ 1 1 [A G op,co T,U (F ⟨gg,0,Z⟩) 0 0] rfl rfl (ar.Qg _ _ _ _ rfl) (by simp[Value.oneCell']) (by omega) (by unfold maxLen;omega) (by omega) (by simp;omega) (wc.heap.size+1) (by simp) ?_);intro g7 bX w7 dK aR fB lC
  have fX:F R≠(Value.slice no nn bL).ownBlock:=fun e=>by have:=(Vq HOWN e.symm).1;omega
  have vL:R<(wc.alloc (O #[A G op,co T,U (F ⟨gg,0,Z⟩) 0 0] 43)).heap.size:=by simp;omega
  have e2:w7.cell? ⟨R,2,Z⟩=F (U no nn bL):=(aR.cell_far ⟨R,2,Z⟩ vL fX).trans (((Qq wc _).cell (p:=⟨R,2,Z⟩) vM).trans c2);have e4:w7.frozen? ⟨R,2,Z⟩=db:=(aR.frozen_far ⟨R,2,Z⟩ vL fX).trans (((Qq wc _).frozen (p:=⟨R,2,Z⟩) vM).trans f2)
  have vJ:Hid (qg R tv L i ns [] dx want pw d op 0 text w nv (U Z 0 0) sv (.returned (.tuple #[])) (w7.setCell ⟨R,2,Z⟩ (U (F ⟨g7,0,Z⟩) (nn+1) bX))):=by
   have hsz:wc.heap.size+1<=w7.heap.size:=by have:=aR.size;simpa using this
   have iX:=sA.o
   have hblk:∀k,k<wc.heap.size->nv.ownBlock≠F k->w7.heap[k]?=wc.heap[k]? :=fun k hk hne=>(aR.block k (by simp;omega) (by rw[<-iX];exact fun e=>hne e.symm)).trans ((Qq wc _).block k hk)
   have bz:∀k,k≠R->(w7.setCell ⟨R,2,Z⟩ (U (F ⟨g7,0,Z⟩) (nn+1) bX)).heap[k]?=w7.heap[k]? :=fun k hk=>aaN w7 ⟨R,2,Z⟩ k _ hk;have vK:=(hblk R vM (by rw[iX];exact fun e=>fX e.symm)).trans HW.o.blk;have UH:=(aao w7 R 2 _ _ (U (F ⟨g7,0,Z⟩) (nn+1) bX) vK)
   have iK:([]:List Nat).drop (([]:List Nat).length-0)=[]:=by simp
   have YM:([]:List Nat).take (([]:List Nat).length-0)=[]:=by simp
   refine⟨rfl,?_,U (F ⟨g7,0,Z⟩) (nn+1) bX,U (F ⟨g5,0,Z⟩) 1 bW,sv,U (F ⟨gg,0,Z⟩) 0 0,?_,?_⟩
   ·refine⟨aR.os.trans HB.o.os,aR.tape.trans HB.o.tape,aR.output.trans HB.o.output,by simp[World.setCell];have:=HB.o.size;omega,fun k hk=> ?_⟩
    rw[bz k (by omega),hblk k (by omega) (fun e=>by have:=(Vq HW.o.kM e).1;omega)];exact HB.o.block k hk
   ·rw[iK,YM]
    refine HW.o.nodes (by simp[World.setCell];omega) (fun k hk wH dA=> ?_) ?_ (fun q' hq'=> ?_) HK (fun q' hq'=> ?_) (UH.trans (by simp))
    ·rw[bz k wH];exact hblk k hk dA
    ·have e1:(ns++[((⟨op,text,[]⟩:aj.Node),Value.slice (F ⟨gg,0,Z⟩) 0 0)]).length=nn+1:=by rw[aag,<-bw.o];rfl
     rw[e1,W7]
     have e2:Xm [((⟨op,text,[]⟩:aj.Node),Value.slice (F ⟨gg,0,Z⟩) 0 0)]=[A G op,co T,U (F ⟨gg,0,Z⟩) 0 0]:=by rw[HT.o];rfl
     rw[e2];exact Xa dK (fun g _ h1 _=>bz g (by omega))
    ·obtain rfl:g7=q':=aav hq'
     rw[iX];rcases fB with e|e
     ·exact .inl e
     right;omega
    obtain rfl:gg=q':=aav hq';have hg1:=lT.o;refine⟨fun e=> ?_,fun e=>mD (aav e),fun e=> ?_⟩
    ·have:=(Vq H.o.kM e).2;omega
    have:=(H.o.uq.1 _ e).2;omega
   intro B DM hB k1 k2 k3;obtain⟨y1,y2⟩:=tL.o B DM hB k2;have kr:=HB.o.size;refine⟨(bz B (by omega)).trans ((hblk B (by omega) k1).trans y1),fun e=> ?_,fun e=>y2 (aav e),k3⟩;obtain rfl:g7=B:=aav e;rcases fB with e|e
   ·exact k1 (by rw[iX];exact e)
   omega
  clear dK aR fB lC fX vL;go_wp2_with fail;go_end0;exact vJ.o
def Ca (n:aj.Ln)(w:dk)(e:Ending)(w':dk):Prop:=
 (if 100<n.dp then e=.returned (.tuple #[co .empty,A G 5]) else e=.returned (.tuple #[co ⟨n.pr.toArray⟩,A G 0]))/\Below w.heap.size w w'
theorem fx.new (w:dk)(tv:ce):fx (w.alloc (O #[tv,c9 Z,U Z 0 0,A G 0,A G 0] 92)) w.heap.size tv (U Z 0 0) [] 0 0:=
 ⟨⟨c9 Z,.inl rfl,aap _ _⟩,⟨rfl,.inl ⟨rfl,rfl⟩⟩,aab _⟩
theorem Qmo {n:aj.Ln}{B:Nat}(nt:n.size<=4096)(KN:n.pr.length<=67108864)(iW:Ip n)(hgr:aj.Zg aj.WV (aj.nL n.flat).length 0 [] (aj.nL n.flat)=cl)
  (hc:de ca 50 #[v] w fun e w'=>e=.returned (dj (aj.Zg aj.WV (aj.nL n.flat).length 0 [] (aj.nL n.flat)))/\Below w.heap.size w w') (hv:kB w B v (aj.nL n.flat)) (hB:B<=w.heap.size):
  de ca 14 #[v] w (Ca n w):=by
 have hlen:(aj.nL n.flat).length=n.size:=by rw[aj.nL,aas,Qbo]
 have nk:0<n.size:=by cases n<;>simp[aj.Ln.size]
 have HC:=zq hc;have HG:=zq hgr;have HV:=zq hv;have HF:=zq KN;have PN:=zq iW;have HL:=zq hlen;obtain⟨ao,cap,rfl,-⟩:=hv;rw[hlen]at HC HV ⊢;rw[hlen]at HG;obtain⟨m,ei⟩:=xq n.size;rw[<-ei]at nt nk HC HV HG HL ⊢;have ct:=zq ei
 have cD:((m:Nat):Int)-1=((m-1:Nat):Int):=by omega
 have tN:=zq cD;clear ei KN iW hgr hc hlen cD;go_enter func14,ntmps14;go_wp2_with fail;refine HC.o.mono ?_;rintro e w1 ⟨rfl,hb⟩;rw[HG.o];have aK:=zq hb;have hz1:=hb.size;clear hb;go_wp2_with fail;obtain⟨w2,hw2⟩:=xq (w1.alloc (O #[U ao m cap,c9 Z,U Z 0 0,A G 0,A G 0] 92))
 have eE:Hid (fx w2 w1.heap.size (U ao m cap) (U Z 0 0) [] 0 0):=by show fx _ _ _ _ _ _ _;rw[hw2];exact fx.new _ _
 have eL:Hid (Below w1.heap.size w1 w2):=by show Below _ _ _;rw[hw2];exact Qq _ _
 rw[<-hw2,tN.o];clear hw2;obtain⟨R,hR⟩:=xq w1.heap.size;rw[<-hR]at eE eL hz1 ⊢;have HR:=zq hR;clear hR;have xP:Hid (kB w2 R (U ao m cap) (aj.nL n.flat)):=(HV.o.up (aK.o.mono hB) (by omega)).below eL;rw[ct.o];refine(PN.o (aj.nL n.flat) R (U ao m cap) (U Z 0 0) [] 0 0 w2 eE xP (aj.eh.all _) (by have:=HF.o;simp;omega) (by have:=ct.o;omega)).mono ?_;rintro e w3 ⟨rfl,bv,a1,a2,-⟩;have mm:=zq a1
 have aV:Hid (Below w.heap.size w w3):=by refine Wr.cV (R:=R) a2 ?_ hz1;exact aK.o.trans (eL.o.mono hz1)
 obtain⟨-,-,c4⟩:=a1.cells
 have hmx:max 0 (0+n.dp)=n.dp:=by omega
 rw[hmx]at c4;clear a1 a2 hmx;by_cases hd:100<n.dp
 ·have kj:decide ((100:Int)<(n.dp:Nat))=cl:=aa7 (by omega)
  have HD:=zq hd;clear hd;go_wp2_with fail;go_ret2;unfold Ca;rw[if_pos HD.o];exact⟨rfl,aV⟩
 have kj:decide ((100:Int)<(n.dp:Nat))=db:=aaQ (by omega);have HD:=zq hd;clear hd;go_wp2_with fail;refine(Qz7 mm).mono ?_;rintro e w4 ⟨rfl,hb4⟩;have cC:=zq (aV.o.trans (hb4.mono hz1));clear hb4;go_wp2_with fail;go_ret2;unfold Ca;rw[if_neg HD.o];exact⟨rfl,cC⟩
def SL:ByteArray:=⟨#[112,114,105,110,116,32,45,65,39,94,50]⟩
theorem Qb9 {fin:Nat}{P:aj.St->aj.PR aj.Ex}(IH:fN 97 P fin){L:List Tok}{a:Nat}{s:aj.St}{ns:List Nv}(h:RS w R tv L fin a s nv ns)(k:aj.Ex)(s1:aj.St)(hN:P s=F (.ok (k,s1)))(hm:aj.Qk [44] s1.ts=db):de ca 98 #[c9 (F ⟨R,0,Z⟩)] w (RP (F (.ok (.cons k .nil,s1))) R tv L fin s nv ns (PaQ R ns w) w):=by
 have HC:=IH R tv L a s nv ns w h (by rw[hN];simp);rw[hN]at HC;replace HC:=zq HC;have HM:=zq hm;clear h IH hN hm;go_enter func98,ntmps98;go_wp2_with fail;refine HC.o.mono ?_;rintro e w1 ⟨v1,a1,gJ,fM,rfl,n1,rfl,jn⟩;obtain⟨p,hp⟩:=xq (ns.length+k.size-1);rw[<-hp];have HA:=zq (Qq w1 (O #[A G ((p:Nat):Int)] 3));have ot:Hid (gP (w1.alloc (O #[A G ((p:Nat):Int)] 3)) R gJ (ns++fM) (U (F ⟨w1.heap.size,0,Z⟩) 1 1) [p]):=(gP.fresh n1.rs [p]).resolve_right (by simp);have HP:=zq hp;have kW:=zq (n1.step (n1.rs.below HA) (Wr.au HA) (aab _) rfl);have pZ:=zq jn;have HZ:Hid (w.heap.size<=w1.heap.size):=n1.wr.size;obtain⟨w2,hw2⟩:∃w2,w2=w1.alloc (O #[A G ((p:Nat):Int)] 3):=⟨_,rfl⟩;rw[<-hw2]at ot kW;have eE:=zq hw2;clear hp n1 jn HC HA hw2;go_wp2_with fail;rw[<-eE.o];go_loopw [3] (fun kv wr=>kv=U (F ⟨w1.heap.size,0,Z⟩) 1 1/\wr=w2) (fun _ _=>0)
 case atStart=>exact⟨rfl,rfl⟩
 case round=>
  obtain⟨rfl,hw⟩:=hrel;subst hw;go_wp2_with fail;refine(Zi kW.o.rs [44]).mono ?_;rintro e w3 ⟨he,t1,t2⟩;rw[HM.o]at he t2;subst he;rw[if_neg (by decide)]at t2;have oL:=zq (kW.o.step t2 t1 (aab _) rfl);have yN:Hid (gP w3 R gJ (ns++fM) (U (F ⟨w1.heap.size,0,Z⟩) 1 1) [p]):=⟨ot.o.1.wr (t1.weak _) (Mv.refl _ _),ot.o.2⟩;clear t1 t2;go_wp2_with fail;go_ret;refine⟨_,a1,gJ,fM,rfl,oL,?_,?_,fun q hq=> ?_⟩
  ·show gP _ _ _ _ _ [ns.length+k.size-1]
   rw[<-HP.o];exact yN.o
  ·rw[pZ.o];simp[aj.cP.flat]
  cases hq;exact HZ.o
def Quv (x:Bytes)(l:aj.cP)(s':aj.St):aj.PR aj.Ln:=F (.ok (.cmd x l,s'))
theorem Qdg {fin:Nat}{P:aj.St->aj.PR aj.Ex}(IH:fN 97 P fin){L:List Tok}{s:aj.St}(h:RS w R tv L fin 0 s nv [])(x:Bytes)(s3 s5:aj.St){k:aj.Ex}
  (h0:s.ts≠[]) (hk:aj.Qh 2 s.ts=cl) (hl:(aj.Qe s.ts==aj.BJ)=db) (hx:aj.name fin s=F (.ok (x,s3))) (h3:s3.ts≠[]) (hN:P s3=F (.ok (k,s5))) (hm:aj.Qk [44] s5.ts=db) (h5:s5.ts=[]):
  de ca 49 #[c9 (F ⟨R,0,Z⟩)] w (LnP (Quv x (.cons k .nil) s5) R tv L fin nv w):=by
 have oM:=zq h;have HD:Hid (decide (s.ts=[])=db):=aaQ h0;have CC:Hid (decide (s3.ts=[])=db):=aaQ h3;have HD5:Hid (decide (s5.ts=[])=cl):=aa7 h5;have CT:Hid (∀(a:Nat) (w:dk),RS w R tv L fin a s3 nv []->de ca 98 #[c9 (F ⟨R,0,Z⟩)] w (RP (F (.ok (.cons k .nil,s5))) R tv L fin s3 nv [] (PaQ R [] w) w)):=fun a w h=>Qb9 IH h k s5 hN hm;have HX:=zq hx;have zP:=h.few;rw[aa5,aaX]at zP;have C2:=zq (Zj 2 [] s.ts (by decide));rw[hk]at C2;obtain⟨ao,cap,rfl,t1,t2,t3⟩:=h.tks;have hdr:=h.drop;rw[aa4]at hdr;obtain⟨t,l,ej⟩:=List.exists_cons_of_ne_nil h0
 have sR:0<L.length:=by rw[hdr,ej];simp
 obtain⟨g,rfl,hg,fT⟩:=t3 sR;obtain⟨-,d1,-⟩:=fT 0 t (by rw[hdr,ej];rfl)
 have rS:t.2.1=aj.Qe s.ts:=by rw[ej];rfl
 rw[rS]at d1;have D1:=zq d1;have br:=h.lt;have sF:=zq br;obtain⟨tt,yn⟩:=xq (aj.Qe s.ts);rw[<-yn]at D1 hl;have HL:=zq hl
 have CU:=zq (show s3.ts.length<s.ts.length from by
  have e1:=(Sa hx).1;have e2:=Qq3 (Sa hx).2
  rw[<-e1]at e2;omega)
 clear h h0 t3 fT hdr ej d1 rS yn hk hl hx h3 h5 IH hN hm;go_enter func49,ntmps49;go_wp2_with fail;refine(Nb oM).mono ?_;rintro e w1 ⟨rfl,b1⟩;rw[HD.o];have xR:Hid (xX R (U (F ⟨g,0,Z⟩) L.length cap) L fin nv w w1 0 s nv []):=⟨oM.o.below b1,Wr.au b1,Mv.refl _ _,fun p hp=>by cases hp⟩;have D2:Hid (w1.cell? ⟨g,1,Z⟩=F (co ⟨tt.toArray⟩)):=(b1.cell (p:=⟨g,1,Z⟩) (by show g<_;have:=sF.o;omega)).trans D1
 have iV:g<w1.heap.size:=by have:=b1.size;have:=sF.o;omega
 clear b1;go_wp2_with fail;refine(X5 xR.o.rs 0 2 [] (by omega) (by omega)).mono ?_;rintro e w2 ⟨rfl,b1⟩;rw[C2.o];have mO:=zq (xR.o.step (xR.o.rs.below b1) (Wr.au b1));have e0:=mO.o.rs.cells.1;have e2:w2.cell? ⟨g,1,Z⟩=F (co ⟨tt.toArray⟩):=(b1.cell (p:=⟨g,1,Z⟩) iV).trans D2;have hc:(tt==[108,101,116])=db:=HL.o;clear b1;go_wp2_with fail;refine(Qk9 mO.o.rs).mono ?_;rintro e w3 hn;rw[HX.o]at hn;obtain⟨v3,a3,rfl,n1,n2,n3,rfl⟩:=hn;have oL:=zq (mO.o.step n1 n2);clear n1 n2 n3;go_wp2_with fail;refine(Nb oL.o.rs).mono ?_;rintro e w4 ⟨rfl,b1⟩;rw[CC.o];have tQ:=zq (oL.o.step (oL.o.rs.below b1) (Wr.au b1));clear b1;go_wp2_with fail;refine(CT.o a3 _ tQ.o.rs).mono ?_;rintro e w5 ⟨v5,a5,nv5,ns5,rfl,n1,n2,n3,n4⟩;have CS:=zq (tQ.o.trans n1);have HF:=zq n3;have ot:=zq n2;have HKF:Hid (∀q,v5.ownBlock=F q->w.heap.size<=q):=fun q hq=>aar tQ.o.wr.size (n4 q hq);have hfw:=n1.few;rw[abv,aa5,aaX]at hfw;have eW:=CU.o;clear n1 n2 n3 n4;go_wp2_with fail;refine(Fl CS.o.rs ⟨12,x,(aj.cP.cons k .nil).roots 0⟩ ot (by rw[abv];omega)).mono ?_;rintro e w6 ⟨nv6,rfl,b1,b2,b3⟩;have MC:=zq (CS.o.put b1 b2 b3 HKF);clear b1 b2 b3
 have hmap:(([]++ns5)++[((⟨12,x,(aj.cP.cons k .nil).roots 0⟩:aj.Node),v5)]).map Prod.fst=(aj.Ln.cmd x (.cons k .nil)).flat:=by rw[abv,abl,HF.o];rfl
 have ac4:=zq hmap;clear hmap;go_wp2_with fail;refine(Nb MC.o.rs).mono ?_;rintro e w7 ⟨rfl,b1⟩;rw[HD5.o];have MD:=zq (MC.o.step (MC.o.rs.below b1) (Wr.au b1));clear b1;go_wp2_with fail
 first|go_end0|refine aaD (ab5 rfl _ _ _) rfl ?_
 exact⟨rfl,a5,nv6,_,MD.o.rs,MD.o.wr,ac4,MD.o.mv,MD.o.fresh⟩
theorem Qw3 {fin:Nat}{L:List Tok}{s:aj.St}(n:aj.Ln)(s':aj.St)(h:RS w R tv L fin 0 s nv [])(hl:∀w,RS w R tv L fin 0 s nv []->de ca 49 #[c9 (F ⟨R,0,Z⟩)] w (LnP (F (.ok (n,s'))) R tv L fin nv w)):de ca 48 #[.func (.func 49) #[c9 (F ⟨R,0,Z⟩)] #[]] w (GuP (F (.ok (n,s'))) R tv L fin nv w):=by
 have ug:∀(fn:Fn) (first cap:Array ce) (w:dk),(Instr.makeFunc fn first cap).run ca w=.ok (.func fn first cap) w:=fun _ _ _ _=>rfl;have HA:=zq (Qq w (O #[A G 0,A G 0] 81));have HS:=zq (h.below HA);have br:=h.lt;have HB:=zq (aap w (O #[A G 0,A G 0] 81));have HL:=zq hl;have kU:Hid (∀q,nv.ownBlock=F q->q<w.heap.size):=fun q hq=>(h.own.lt q hq).2;clear h hl;go_enter_defers func48,ntmps48;go_wp2_with fail;refine(HL.o _ HS).mono ?_;rintro e w2 hn;obtain⟨rfl,a',eJ,ns',n1,n2,n3,n4,n5⟩:=hn;have hb:w2.heap[w.heap.size]?=F (O #[A G 0,A G 0] 81 (0,0)):=(n2.block w.heap.size (by simp) (by omega) (fun e=>by have:=kU.o _ e.symm;omega)).trans HB;have hz0:w2.frozen? ⟨w.heap.size,0,Z⟩=db:=aax _ _ 0 _ _ hb;have hz1:w2.frozen? ⟨w.heap.size,1,Z⟩=db:=aax _ _ 1 _ _ hb
 have hc0:w2.cell? ⟨w.heap.size,0,Z⟩=F (A G 0):=by rw[aaj _ _ 0 _ _ _ hb];rfl
 have hc1:w2.cell? ⟨w.heap.size,1,Z⟩=F (A G 0):=by rw[aaj _ _ 1 _ _ _ hb];rfl
 have KB:eJ.ownBlock≠F w.heap.size:=fun e=>by
  rcases n4 _ e with h1|h1
  ·have:=kU.o _ h1;omega
  simp at h1;omega
 have z7:∀p∈ns',p.2.ownBlock≠F w.heap.size:=fun p hp e=>by have h1:=n5 p hp _ e;simp at h1;omega
 have g1:=(n1.rG (Ge (g:=w.heap.size) (o:=0) w2 (A G 0)) (fun q hq=>by cases hq;exact⟨br,KB,z7⟩)).1;have g2:=(g1.rG (Ge (g:=w.heap.size) (o:=1) _ (A G 0)) (fun q hq=>by cases hq;exact⟨br,KB,z7⟩)).1;have G2:=zq g2;have fO:=zq (((((Wr.au (R:=R) (og:=nv.ownBlock) HA).trans (Mv.refl _ _) n2).ZY (g:=w.heap.size) (o:=0) (aab _) (A G 0)).ZY (g:=w.heap.size) (o:=1) (aab _) (A G 0)));have N3:=zq n3;have s1:=aao w2 w.heap.size 0 _ 81 (A G 0) hb;have S2:=zq (aao (w2.setCell ⟨w.heap.size,0,Z⟩ (A G 0)) w.heap.size 1 _ 81 (A G 0) s1);clear n1 n2 n3 n4 n5 hb KB z7 g1 g2 s1;go_wp2_with fail;refine leaves_cons (f:=92) (args:= #[c9 (F ⟨w.heap.size,0,Z⟩)]) (by simp) (by simp[go_sem]) ?_;refine(Ru w.heap.size).mono ?_;rintro e u' w3 ⟨rfl,rfl,hw3⟩;rw[<-hw3]at G2 fO
 have q0:w3.cell? ⟨w.heap.size,0,Z⟩=F (A G 0):=by rw[hw3,aaj _ _ 0 _ _ _ S2.o];rfl
 have q1:w3.cell? ⟨w.heap.size,1,Z⟩=F (A G 0):=by rw[hw3,aaj _ _ 1 _ _ _ S2.o];rfl
 clear hw3;simp[Leaves,settle,results,results48,go_sem,q0,q1];exact⟨rfl,a',eJ,ns',G2,fO,N3⟩
def tX (s0:aj.St)(k:aj.Ex)(s1 s:aj.St):aj.PR aj.Ex:=if s=s0 then F (.ok (k,s1)) else Z
theorem Qkg {s0:aj.St}{k:aj.Ex}{s1:aj.St}:∀s e,tX s0 k s1 s≠F (.error e):=by intro s e;unfold tX;split<;>simp
theorem fN.at {al:Nat}{P:aj.St->aj.PR aj.Ex}{fin:Nat}(h:fN al P fin){s0:aj.St}{k:aj.Ex}{s1:aj.St}(e:P s0=F (.ok (k,s1))):fN al (tX s0 k s1) fin:=by
 intro R tv L a s nv ns w I H;by_cases hs:s=s0
 ·subst hs
  have E:=h R tv L a s nv ns w I (by rw[e];simp);rw[e]at E;unfold tX;rw[if_pos rfl];exact E
 exact absurd (by unfold tX;rw[if_neg hs]) H
def Zt:List Tok:=match aM 1 (Qz Qhd) with| .ok ts=>ts| .error _=>[]
theorem Qc2:fN 251 (tX ⟨Zt.drop 2,0⟩ (.name [65]) ⟨Zt.drop 3,0⟩) 12:=by
 intro R tv L a s nv ns w H E;by_cases hs:s=⟨Zt.drop 2,0⟩
 ·subst hs
  have e:aj.atom 12 1 ⟨Zt.drop 2,0⟩=F (.ok (.name [65],⟨Zt.drop 3,0⟩)):=by kernel_rfl
  have h:=Qwl 0 H (by kernel_rfl) (by kernel_rfl) (by kernel_rfl) (by rw[e];simp);rw[e]at h;unfold tX;rw[if_pos rfl];exact h
 exact absurd (by unfold tX;rw[if_neg hs]) E
theorem Qbb:fN 97 (tX ⟨Zt.drop 1,0⟩ (.neg (.pow (.turn (.name [65])) 2)) ⟨[],0⟩) 12:=by have a1:fN 235 (tX ⟨Zt.drop 2,0⟩ (.turn (.name [65])) ⟨Zt.drop 4,0⟩) 12:=(Qdd 3 Qkg Qc2).at (by kernel_rfl);have a2:fN 208 (tX ⟨Zt.drop 1,0⟩ (.neg (.pow (.turn (.name [65])) 2)) ⟨[],0⟩) 12:=(Qgl 3 Qkg a1).at (by kernel_rfl);have a3:fN 160 (tX ⟨Zt.drop 1,0⟩ (.neg (.pow (.turn (.name [65])) 2)) ⟨[],0⟩) 12:=(Qdt Qkg a2).at (by kernel_rfl);exact(Qdj Qkg a3).at (by kernel_rfl)
theorem Qb8 (hx:Lx w)(hs:SG w)(hsz:4<w.heap.size):de ca 13 #[co SL] w fun e w'=> ∃nv ns,e=.returned (.tuple #[nv,A G 0,A G 0])/\Below w.heap.size w w'/\Tr w' w.heap.size nv ns/\ns.map Prod.fst=Ja.flat:=by
 have ug:∀(fn:Fn) (first cap:Array ce) (w:dk),(Instr.makeFunc fn first cap).run ca w=.ok (.func fn first cap) w:=fun _ _ _ _=>rfl;have HST:=zq (Kz SL (by show _<=_;decide) hx hs hsz);have eW:SL.size=11:=rfl
 have hT:aM 1 (Qz SL.data.toList)=.ok Zt:=by kernel_rfl
 obtain⟨T,lY⟩:=xq SL;rw[<-lY]at HST eW hT ⊢;have HT:=zq hT
 have tK:Hid ((Qz T.data.toList).length+1=12):=by show _=_;rw[lY];kernel_rfl
 clear hx hs hT lY;go_enter func13,ntmps13;go_wp2_with fail;refine HST.o.mono ?_;rintro e w1 hn;unfold MW at hn;rw[HT.o,tK.o]at hn;obtain⟨R,tv,rfl,hR,hb,h⟩:=hn;have HS:=zq h;have HB:=zq hb;clear hb h;go_wp2_with fail;refine(Qw3 Ja ⟨[],0⟩ HS (fun w h=>Qdg Qbb h [112,114,105,110,116] ⟨Zt.drop 1,0⟩ ⟨[],0⟩ (by decide+kernel) (by kernel_rfl) (by kernel_rfl) (by kernel_rfl) (by decide+kernel) (by kernel_rfl) (by kernel_rfl) rfl)).mono ?_;rintro e w2 ⟨rfl,a',eJ,ns',n1,n2,n3⟩;have HA:=zq (Qq w2 (O #[A G 0,A G 0] 81));have HW:=zq (Qv (Wr.cV n2 HB hR) HA);have n1':=n1.below HA;have lW:=zq (n1'.tr hR);have e4:=n1'.cells.2.2.2.2
 have hlen:ns'.length=5:=by have:=aaE List.length n3;rw[aas]at this;exact this
 have ft:=zq n3;obtain⟨ao,cap,rfl,-,-,-⟩:=Qj n1.own;rw[hlen]at e4;have PN:=zq hlen;clear n1 n1' n2 n3 hlen;go_wp2_with fail;go_ret3;refine⟨U ao 5 cap,ns',rfl,HW,?_,ft⟩;rw[<-PN.o];exact lW.o
theorem ahc:Ip Ja:=Qq6 fun e h=>by
 rcases abu.1 h with h|h
 ·rw[h]
  exact Qmm (Qmh (Qyd (Qyc)))
 cases h
theorem Qjc:aj.Zg aj.WV (aj.nL Ja.flat).length 0 [] (aj.nL Ja.flat)=cl:=by
 rw[H7]
 kernel_rfl
theorem Qpd (hx:Lx w)(hs:SG w)(hsz:4<w.heap.size):∀x∈aj.nL Ja.flat,∀kv w',Below w.heap.size w w'->de ca 101 #[.agg #[A G x.op,co ⟨x.text.toArray⟩,kv]] w' (N8 x.op x.text w'):=by
 intro x h kv w' E;rw[H7]at h;simp only[abu,aeq,or_false]at h;rcases h with rfl|rfl|rfl|rfl|rfl
 ·exact Qza 2 (.inl rfl) [65] kv (by decide) (hx.below E)
 ·exact N0 5 (by decide) (by decide) (by decide) (by decide) (by decide) (by decide) (by decide) (by decide) [] kv w'
 ·exact Ar 9 (.inr rfl) [50] kv w' fun w2 hb2=>Bo [50] (by decide) (hs.below (Qv E hb2) hsz) (aal hsz (Qv E hb2).size) (by decide) (by decide)
 ·exact N0 4 (by decide) (by decide) (by decide) (by decide) (by decide) (by decide) (by decide) (by decide) [] kv w'
 exact Qv2 [112,114,105,110,116] kv (by decide) (hx.below E)
theorem Qfz (hv:kB w w.heap.size v (aj.nL Ja.flat))(hx:Lx w)(hs:SG w)(hsz:4<w.heap.size):de ca 14 #[v] w (Ca Ja w):=
 Qmo (by decide) (by rw[Qwm];decide) ahc Qjc (Qg0 (by rw[H7];decide) (Qpd hx hs hsz) hv (aab _)) hv (aab _)
theorem Qf3 (hx:Lx w)(hs:SG w)(hsz:4<w.heap.size):de ca 12 #[] w fun e w'=>e=.returned (dj cl)/\Below w.heap.size w w':=by
 have HX:=zq hx;have HS:=zq hs;have HP:=zq (Qb8 hx hs hsz);clear hx hs;go_enter func12,ntmps12;go_wp2_with fail;refine HP.o.mono ?_;rintro e w1 hn;obtain⟨nv,ns,rfl,hb,lI,jn⟩:=hn;have hnd:=lI.ndl;rw[jn]at hnd;have xP:=zq hnd;have HB:=zq hb;obtain⟨ao,cap,rfl,h1,h2,hc⟩:=hnd;rw[H7]at h1 hc ⊢;obtain⟨g,rfl,hg,hc⟩:=hc (by decide);obtain⟨e0,-,-⟩:=hc 3 _ rfl;obtain⟨-,e1,-⟩:=hc 2 _ rfl;have e0:w1.cell? ⟨g,9,Z⟩=F (A G 4):=e0;have e1:w1.cell? ⟨g,7,Z⟩=F (co ⟨#[50]⟩):=e1;have MG:=zq (Qfz xP (HX.o.below hb) (HS.o.below hb hsz) (aal hsz hb.size));simp only[aaq,aa5]at h1 ⊢;clear hb lI jn hc;go_wp2_with fail;refine MG.o.mono ?_;rintro e w2 ⟨h3,hb2⟩
 have hdp:Ja.dp=0:=by decide
 rw[if_neg (by omega),Qwm]at h3;subst h3;have aI:=zq (Qv HB hb2);clear hb2;go_wp2_with fail;go_ret;exact⟨rfl,aI⟩
open Go.ChangeShapes Go.WideShapes Go.ChangeAt Go.Deep
theorem Rh {H:Type}{enc:TypeId×ce->H}{P:Program}{W':dk}{base:Nat}{sp:Nat->Bool}{hd:Bool}(hb:Below W.heap.size W W'):∀{ts:List TypeId} {vs:List ce} {ds:List (DataW H)} {ps:List MemPlace},DataW.TrodAll enc P W base sp hd ts vs ds ps->(∀p∈ps,p.block<W.heap.size)->DataW.TrodAll enc P W' base sp hd ts vs ds ps
 | [],[],[],_,h,_=>h
 |_::_,_::_,_::_,_,⟨p,q,⟨n,h⟩,hs,e⟩,hlt=>by
  subst e
  exact⟨p,q,⟨n,DataW.trod_carry n _ _ _ h fun x hx=>hb.same (hlt x (List.mem_append_left _ hx))⟩,Rh hb hs (fun x hx=>hlt x (List.mem_append_right _ hx)),rfl⟩
 | [],_::_,_,_,h,_=>h.elim
 | [],[],_::_,_,h,_=>h.elim
 |_::_,[],_,_,h,_=>h.elim
 |_::_,_::_,[],_,h,_=>h.elim
theorem Ce {a:Addr}(h:w.cell? a=F v):a.block<w.heap.size:=by
 rcases adQ a.block w.heap.size with h'|h'
 ·exact h'
 simp[World.cell?,Array.getElem?_eq_none h']at h
theorem Iw:Tryz.prog.cellsOf 3=1:=by kernel_rfl
theorem SV:Tryz.prog.cellsOf 41=1:=by kernel_rfl
instance:Inhabited aj.NI:=⟨⟨0,[],[]⟩⟩
theorem Dw {H:Type}(k:IntKind)(zs:List Int):Rows.uptoBulkAll (lits (H:=H) k zs)=zs.length:=by
 induction zs with
 |nil=>rfl
 |cons a l ih=>simp only[lits,abq,Rows.uptoBulkAll,Rows.uptoBulk,aaq]at ih ⊢;omega
theorem Ph {H:Type}(f:Nat->DataW H)(g:Nat->Nat):∀(l:List Nat),(∀i∈l,g i<=Rows.uptoBulk (f i))->(l.map g).sum<=Rows.uptoBulkAll (l.map f)
 | [],_=>aab _
 |a::l,h=>by have h1:=Ph f g l (fun i hi=>h i (aca _ hi));have E:=h a (acN ..);simp only[abq,adV,Rows.uptoBulkAll];omega
theorem uWs:Tryz.prog.underlying 59=F (.slice 101):=by kernel_rfl
theorem LK:Tryz.prog.underlying 101=F (.int .u64):=by kernel_rfl
theorem uBl:Tryz.prog.underlying 4=F .bool:=by kernel_rfl
theorem Ix:Tryz.prog.cellsOf 101=1:=by kernel_rfl
theorem cWs:Tryz.prog.cellsOf 59=1:=by kernel_rfl
theorem cBl:Tryz.prog.cellsOf 4=1:=by kernel_rfl
theorem Qgq:Tryz.prog.cellsOf 62=2:=by kernel_rfl
theorem Qcp:Tryz.prog.cellsOf 71=4:=by kernel_rfl
theorem Qc5:Tryz.prog.cellsOf 45=1:=by kernel_rfl
theorem Qc6:Tryz.prog.cellsOf 56=1:=by kernel_rfl
theorem LI:Tryz.prog.underlying 45=F (.slice 62):=by kernel_rfl
theorem LJ:Tryz.prog.underlying 56=F (.slice 71):=by kernel_rfl
theorem xK:Tryz.prog.underlying 38=F (.slice 41):=by kernel_rfl
theorem Qup:∃f0 f1:Field,Tryz.prog.underlying 62=F (.struct #[f0,f1])/\f0.offset=0/\f1.offset=1/\f0.type=4/\f1.type=59:=⟨_,_,underlying62,rfl,rfl,rfl,rfl⟩
theorem Qug:∃f0 f1:Field,Tryz.prog.underlying 71=F (.struct #[f0,f1])/\f0.offset=0/\f1.offset=2/\f0.type=62/\f1.type=62:=⟨_,_,underlying71,rfl,rfl,rfl,rfl⟩
theorem ahw:∃f0 f1 f2:Field,Tryz.prog.underlying 47=F (.struct #[f0,f1,f2])/\f0.offset=0/\f1.offset=1/\f2.offset=2/\f0.type=3/\f1.type=3/\f2.type=45:=⟨_,_,_,underlying47,rfl,rfl,rfl,rfl,rfl,rfl⟩
theorem Qum:∃f0 f1 f2:Field,Tryz.prog.underlying 58=F (.struct #[f0,f1,f2])/\f0.offset=0/\f1.offset=1/\f2.offset=2/\f0.type=3/\f1.type=3/\f2.type=56:=⟨_,_,_,underlying58,rfl,rfl,rfl,rfl,rfl,rfl⟩
theorem Qj8 {H:Type}{enc:TypeId×ce->H}{x:DataW H×List MemPlace}(h:DataW.trod enc ca W 0 (fun _=>cl) cl fuel 59 cs=F x):∃(v:ce) (xs:List Nat),cs=[v]/\ee W v xs/\xs.length+1<=Rows.uptoBulk x.1:=by
 rcases open_ints uWs LK Ix h with ⟨J,K⟩|⟨a,a5,T,zs,J,-,hl,hm,bi,K,I,a3⟩
 ·rw[K]
  exact⟨_,[],J,(Rd.nil W).weak,by simp[Rows.uptoBulk]⟩
 simp only[if_true]at bi
 have am:∀z∈zs,0<=z/\z<=18446744073709551615:=fun z bi=>by
  have hw:=a3 z bi
  have hr:IntKind.u64.min<=z/\z<=IntKind.u64.max:=by simpa [Lit.wf] using hw
  have e1:IntKind.u64.min=0:=rfl;have e2:IntKind.u64.max=18446744073709551615:=rfl;rw[e1,e2]at hr;exact hr
 refine⟨_,(zs.take a5).map Int.toNat,J,⟨trivial,F a,T,?_,?_,hm,?_,fun j k hj=> ?_⟩,?_⟩
 ·rw[aas,aak];congr 1;omega
 ·rw[aas,aak];omega
 ·intro y hy
  obtain⟨z,a4,rfl⟩:=abw.1 hy;have:=am z (abA a4);unfold BB;omega
 ·rw[aa9]at hj
  obtain⟨z,E,rfl⟩:=abD.1 hj;have a0:=(aaf.1 E).1;rw[aak]at a0;have h0:=I 0 (by omega);have aE:=I j (by omega);obtain⟨g,o,sp⟩:=a
  have a2:sp=Z:=by simpa [Addr.add] using World.cell?_spot h0
  subst a2;rw[Jk]at aE;rw[abE]at E;split at E
  ·refine⟨g,o,rfl,?_⟩
   rw[aE,abc,E];have:=am z (aai E);simp only[ab6];congr 2;omega
  cases E
 rw[K];simp only[Rows.uptoBulk,Dw,aas,aak];omega
theorem Qyr {H:Type}{enc:TypeId×ce->H}{x:DataW H×List MemPlace}(h:DataW.trod enc ca W 0 (fun _=>cl) cl fuel 41 cs=F x):∃(v:ce) (ks:List Int),cs=[v]/\KA W v ks/\(∀k∈ks,k<=9223372036854775807)/\ks.length+1<=Rows.uptoBulk x.1:=by
 rcases open_ints (by kernel_rfl:Tryz.prog.underlying 41=F (.slice 3)) da Iw h with ⟨hcs,hx⟩|⟨a,len,cap,zs,hcs,-,hl,hm,hz,hx,hcell,hwf⟩
 ·rw[hx]
  exact⟨_,[],hcs,⟨Z,0,rfl,aab _,aat _,fun j k h=>by cases h⟩,fun k hk=>(by cases hk),by simp[Rows.uptoBulk]⟩
 simp only[if_true]at hz;refine⟨_,zs.take len,hcs,⟨F a,cap,by rw[aak];congr 1;omega,by rw[aak];omega,hm,fun j k hj=> ?_⟩,fun k hk=> ?_,?_⟩
 ·have nh:=(aaf.1 hj).1
  rw[aak]at nh;have h0:=hcell 0 (by omega);have h1:=hcell j (by omega);obtain⟨g,o,sp⟩:=a
  have hsp:sp=Z:=by simpa [Addr.add] using World.cell?_spot h0
  subst hsp;rw[Jk]at h1;refine⟨g,o,rfl,Ce h1,?_⟩;rw[abE]at hj;split at hj
  ·rw[h1,abc,hj];rfl
  cases hj
 ·have hw:=hwf k (abA hk)
  have hr:IntKind.i64.min<=k/\k<=IntKind.i64.max:=by simpa [Lit.wf] using hw
  have e2:IntKind.i64.max=9223372036854775807:=rfl;rw[e2]at hr;exact hr.2
 rw[hx];simp only[Rows.uptoBulk,Dw,aak];omega
theorem Mr {H:Type}{enc:TypeId×ce->H}{x:DataW H×List MemPlace}(h:DataW.trod enc ca W 0 (fun _=>cl) cl fuel 62 cs=F x):∃(b:Bool) (m:ce) (xs:List Nat),cs=[dj b,m]/\ee W m xs/\xs.length+1<=Rows.uptoBulk x.1:=by
 obtain⟨f0,f1,hu,o0,o1,t0,t1⟩:=Qup;obtain⟨xs,n,-,rfl,hl,fD,hf⟩:=DataW.trod_struct hu h;rw[Qgq]at hl
 match xs,fD,cs,hl with
 | [y0,y1],_,[v0,v1],_=>
  have g0:=hf 0 f0 rfl;have g1:=hf 1 f1 rfl;simp[o0,o1,t0,t1,cBl,cWs]at g0 g1;obtain⟨b,e0,rfl⟩:=DataW.trod_bool uBl g0;obtain⟨m,zs,e1,hr,hb⟩:=Qj8 g1
  cases e0
  cases e1
  refine⟨b,_,zs,rfl,hr,?_⟩;simp only[abq,abX,Rows.uptoBulk,Rows.uptoBulkAll];omega
theorem Qys {H:Type}{enc:TypeId×ce->H}{x:DataW H×List MemPlace}(h:DataW.trod enc ca W 0 (fun _=>cl) cl fuel 71 cs=F x):∃(p:FW) (m m2:ce),cs=[dj p.1.1,m,dj p.2.1,m2]/\ee W m p.1.2/\ee W m2 p.2.2/\p.1.2.length+p.2.2.length+1<=Rows.uptoBulk x.1:=by
 obtain⟨f0,f1,hu,o0,o1,t0,t1⟩:=Qug;obtain⟨xs,n,-,rfl,hl,fD,hf⟩:=DataW.trod_struct hu h;rw[Qcp]at hl
 match xs,fD,cs,hl with
 | [y0,y1],_,[v0,v1,v2,v3],_=>
  have g0:=hf 0 f0 rfl;have g1:=hf 1 f1 rfl;simp[o0,o1,t0,t1,Qgq]at g0 g1;obtain⟨b,m,zs,e0,hr,hb⟩:=Mr g0;obtain⟨b2,m2,zs2,e1,hr2,hb2⟩:=Mr g1
  cases e0
  cases e1
  refine⟨((b,zs),(b2,zs2)),_,_,rfl,hr,hr2,?_⟩;simp only[abq,abX,Rows.uptoBulk,Rows.uptoBulkAll];omega
theorem Qj5 {H:Type}{enc:TypeId×ce->H}{x:DataW H×List MemPlace}(h:DataW.trod enc ca W 0 (fun _=>cl) cl fuel 45 cs=F x):∃(v:ce) (l:List (Bool×List Nat)),cs=[v]/\qa W v l/\(l.map fun p=>p.2.length+1).sum+1<=Rows.uptoBulk x.1:=by
 rcases open_slice LI h with ⟨J,hx⟩|⟨a,E,a3,m,n,D,Pl,J,-,hl,hm,a6,hx,am⟩
 ·rw[hx]
  exact⟨_,[],J,⟨Z,0,rfl,aab _,aat _,fun h=>by simp at h⟩,by simp[Rows.uptoBulk]⟩
 have ac:E<=m:=by rw[a6];split<;>omega
 obtain⟨q,hq⟩:=choose_lt (n:=E) (p:=fun i (p:Bool×List Nat)=>(∃mv,W.cell? ((a.add (i*2)).add 0)=F (dj p.1)/\W.cell? ((a.add (i*2)).add 1)=F mv/\ee W mv p.2)/\p.2.length+1<=Rows.uptoBulk (D i)) (fun i K=>by
  obtain⟨cs',h1,h2⟩:=am i (by omega);rw[Qgq]at h1;obtain⟨b,mv,xs,rfl,hr,hb⟩:=Mr h2;obtain⟨-,-,I⟩:=World.cells?_some h1
  exact⟨(b,xs),⟨mv,by simpa using I 0 (by omega),by simpa using I 1 (by omega),hr⟩,hb⟩)
 refine⟨_,(List.range E).map q,J,⟨F a,a3,by simp,by simp;exact hl,hm,fun h0=> ?_⟩,?_⟩
 ·have a5:0<E:=by simpa using h0
  obtain⟨⟨ad,bi,-⟩,-⟩:=hq 0 a5;obtain⟨g,o,sp⟩:=a
  have a7:sp=Z:=by simpa [Addr.add] using World.cell?_spot bi
  subst a7;refine⟨g,o,rfl,by have:=Ce bi;rw[Jk,Jk]at this;exact this,fun j p hj=> ?_⟩;rw[aa9]at hj;obtain⟨i,K,rfl⟩:=abD.1 hj;obtain⟨T,aE⟩:=aaf.1 K;simp only[List.length_range]at T;simp only[List.getElem_range]at aE;subst aE;obtain⟨⟨mv,c0,c1,hr⟩,-⟩:=hq j T;rw[Jk,Jk]at c0 c1;exact⟨mv,c0,c1,hr⟩
 rw[ab2,hx];have:=Ph D (fun i=>(q i).2.length+1) (List.range E) (fun i K=>(hq i (List.mem_range.1 K)).2);simp only[Rows.uptoBulk];exact aar (Nat.add_le_add_right this 1) (by omega)
theorem Qj6 {H:Type}{enc:TypeId×ce->H}{x:DataW H×List MemPlace}(h:DataW.trod enc ca W 0 (fun _=>cl) cl fuel 56 cs=F x):∃(v:ce) (l:List FW),cs=[v]/\xY W v l/\(l.map fun p=>p.1.2.length+p.2.2.length+1).sum+1<=Rows.uptoBulk x.1:=by
 rcases open_slice LJ h with ⟨K,hx⟩|⟨a,J,a5,m,n,D,Pl,K,-,hl,hm,a8,hx,a1⟩
 ·rw[hx]
  exact⟨_,[],K,⟨Z,0,rfl,aab _,aat _,fun h=>by simp at h⟩,by simp[Rows.uptoBulk]⟩
 have ae:J<=m:=by rw[a8];split<;>omega
 obtain⟨q,hq⟩:=choose_lt (n:=J) (p:=fun i (p:FW)=>(∃mv I,W.cell? ((a.add (i*4)).add 0)=F (dj p.1.1)/\W.cell? ((a.add (i*4)).add 1)=F mv/\ee W mv p.1.2/\W.cell? ((a.add (i*4)).add 2)=F (dj p.2.1)/\W.cell? ((a.add (i*4)).add 3)=F I/\ee W I p.2.2)/\p.1.2.length+p.2.2.length+1<=Rows.uptoBulk (D i)) (fun i T=>by
  obtain⟨cs',h1,h2⟩:=a1 i (by omega);rw[Qcp]at h1;obtain⟨p,mv,I,rfl,hr,bi,hb⟩:=Qys h2;obtain⟨-,-,E⟩:=World.cells?_some h1
  exact⟨p,⟨mv,I,by simpa using E 0 (by omega),by simpa using E 1 (by omega),hr,by simpa using E 2 (by omega),by simpa using E 3 (by omega),bi⟩,hb⟩)
 refine⟨_,(List.range J).map q,K,⟨F a,a5,by simp,by simp;exact hl,hm,fun h0=> ?_⟩,?_⟩
 ·have a7:0<J:=by simpa using h0
  obtain⟨⟨af,ag,aE,-⟩,-⟩:=hq 0 a7;obtain⟨g,o,sp⟩:=a
  have a9:sp=Z:=by simpa [Addr.add] using World.cell?_spot aE
  subst a9;refine⟨g,o,rfl,by have:=Ce aE;rw[Jk,Jk]at this;exact this,fun j p hj=> ?_⟩;rw[aa9]at hj;obtain⟨i,T,rfl⟩:=abD.1 hj;obtain⟨am,a0⟩:=aaf.1 T;simp only[List.length_range]at am;simp only[List.getElem_range]at a0;subst a0;obtain⟨⟨mv,I,c0,c1,hr,c2,c3,bi⟩,-⟩:=hq j am;rw[Jk,Jk]at c0 c1 c2 c3;exact⟨mv,I,c0,c1,hr,c2,c3,bi⟩
 rw[ab2,hx];have:=Ph D (fun i=>(q i).1.2.length+(q i).2.2.length+1) (List.range J) (fun i T=>(hq i (List.mem_range.1 T)).2);simp only[Rows.uptoBulk];exact aar (Nat.add_le_add_right this 1) (by omega)
theorem Qj7 {H:Type}{enc:TypeId×ce->H}{x:DataW H×List MemPlace}(h:DataW.trod enc ca W 0 (fun _=>cl) cl fuel 38 cs=F x):∃(v:ce) (fs:List (List Int)),cs=[v]/\ml W v fs/\(∀ks∈fs,∀k∈ks,k<=9223372036854775807)/\(fs.map fun ks=>ks.length+1).sum+1<=Rows.uptoBulk x.1:=by
 rcases open_slice1 xK SV h with ⟨hcs,hx⟩|⟨a,len,cap,m,n,V,D,Pl,hcs,-,hl,hm,ei,hx,hall⟩
 ·rw[hx]
  exact⟨_,[],hcs,⟨Z,0,rfl,aab _,aat _,fun h=>by simp at h⟩,fun ks h=>(by cases h),by simp[Rows.uptoBulk]⟩
 have zX:len<=m:=by rw[ei];split<;>omega
 obtain⟨q,hq⟩:=choose_lt (n:=len) (p:=fun i (ks:List Int)=>(W.cell? (a.add i)=F (V i)/\KA W (V i) ks)/\(∀k∈ks,k<=9223372036854775807)/\ks.length+1<=Rows.uptoBulk (D i)) (fun i hi=>by
  obtain⟨h1,h2⟩:=hall i (by omega);obtain⟨v,ks,e,hr,hk,hb⟩:=Qyr h2
  cases e
  exact⟨ks,⟨h1,hr⟩,hk,hb⟩)
 refine⟨_,(List.range len).map q,hcs,⟨F a,cap,by simp,by simp;exact hl,hm,fun h0=> ?_⟩,fun ks mE=> ?_,?_⟩
 ·have hl0:0<len:=by simpa using h0
  obtain⟨⟨c00,-⟩,-⟩:=hq 0 hl0;obtain⟨g,o,sp⟩:=a
  have hsp:sp=Z:=by simpa [Addr.add] using World.cell?_spot c00
  subst hsp;refine⟨g,o,rfl,by have:=Ce c00;rw[Jk]at this;exact this,fun j hj=> ?_⟩
  have hj':j<len:=by simpa using hj
  obtain⟨⟨c0,hr⟩,-⟩:=hq j hj';rw[Jk]at c0;exact⟨_,c0,q j,by rw[aa9,List.getElem?_range hj'];rfl,hr⟩
 ·obtain⟨j,hj,rfl⟩:=abw.1 mE
  exact(hq j (List.mem_range.1 hj)).2.1
 rw[ab2,hx];have:=Ph D (fun i=>(q i).length+1) (List.range len) (fun i hi=>(hq i (List.mem_range.1 hi)).2.2);simp only[Rows.uptoBulk];exact aar (Nat.add_le_add_right this 1) (by omega)
theorem Qmu {H:Type}{enc:TypeId×ce->H}{d:DataW H}{p:List MemPlace}(hv:Value.okWide ca W .any 0 47 v)(h:DataW.Trod enc ca W 0 (fun _=>cl) cl 47 v d p):∃(r c:Int) (av:ce) (l:List (Bool×List Nat)),v=.agg #[A G r,A G c,av]/\qa W av l/\(l.map fun p=>p.2.length+1).sum+1<=Rows.uptoBulk d:=by
 obtain⟨f0,f1,f2,hu,o0,o1,o2,t0,t1,t2⟩:=ahw;obtain⟨⟨cs⟩,rfl,hcs⟩:=okWide_struct hu hv;obtain⟨fuel,h⟩:=h;change DataW.trod enc ca W 0 (fun _=>cl) cl fuel 47 cs=F (d,p) at h;obtain⟨xs,n,-,hd,hl,fD,hf⟩:=DataW.trod_struct hu h;rw[show Tryz.prog.cellsOf 47=3 by kernel_rfl]at hl;simp only[Prod.mk.injEq]at hd;obtain⟨rfl,-⟩:=hd
 match xs,fD,cs,hl with
 | [y0,y1,y2],_,[v0,v1,v2],_=>
  have g0:=hf 0 f0 rfl;have g1:=hf 1 f1 rfl;have g2:=hf 2 f2 rfl;simp[o0,o1,o2,t0,t1,t2,Iw,Qc5]at g0 g1 g2;obtain⟨r,e0,rfl,-⟩:=DataW.trod_int da g0;obtain⟨c,e1,rfl,-⟩:=DataW.trod_int da g1;obtain⟨av,l,e2,hr,hb⟩:=Qj5 g2
  cases e0
  cases e1
  cases e2
  refine⟨r,c,_,l,rfl,hr,?_⟩;simp only[abq,abX,Rows.uptoBulk,Rows.uptoBulkAll];omega
theorem Qyt {H:Type}{enc:TypeId×ce->H}{d:DataW H}{p:List MemPlace}(hv:Value.okWide ca W .any 0 58 v)(h:DataW.Trod enc ca W 0 (fun _=>cl) cl 58 v d p):∃(r c:Int) (av:ce) (l:List FW),v=.agg #[A G r,A G c,av]/\xY W av l/\(l.map fun p=>p.1.2.length+p.2.2.length+1).sum+1<=Rows.uptoBulk d:=by
 obtain⟨f0,f1,f2,hu,o0,o1,o2,t0,t1,t2⟩:=Qum;obtain⟨⟨cs⟩,rfl,hcs⟩:=okWide_struct hu hv;obtain⟨fuel,h⟩:=h;change DataW.trod enc ca W 0 (fun _=>cl) cl fuel 58 cs=F (d,p) at h;obtain⟨xs,n,-,hd,hl,fD,hf⟩:=DataW.trod_struct hu h;rw[show Tryz.prog.cellsOf 58=3 by kernel_rfl]at hl;simp only[Prod.mk.injEq]at hd;obtain⟨rfl,-⟩:=hd
 match xs,fD,cs,hl with
 | [y0,y1,y2],_,[v0,v1,v2],_=>
  have g0:=hf 0 f0 rfl;have g1:=hf 1 f1 rfl;have g2:=hf 2 f2 rfl;simp[o0,o1,o2,t0,t1,t2,Iw,Qc6]at g0 g1 g2;obtain⟨r,e0,rfl,-⟩:=DataW.trod_int da g0;obtain⟨c,e1,rfl,-⟩:=DataW.trod_int da g1;obtain⟨av,l,e2,hr,hb⟩:=Qj6 g2
  cases e0
  cases e1
  cases e2
  refine⟨r,c,_,l,rfl,hr,?_⟩;simp only[abq,abX,Rows.uptoBulk,Rows.uptoBulkAll];omega
theorem Nl {α:Type}(f:α->Nat):∀{l:List α} {M:Nat},(l.map fun p=>f p+1).sum<=M->l.length<=M/\ ∀x∈l,f x+1<=M
 | [],_,_=>⟨aat _,fun x hx=>by cases hx⟩
 |a::l,M,h=>by
  simp only[abq,adV]at h;obtain⟨h1,h2⟩:=Nl f (l:=l) (M:=(l.map fun p=>f p+1).sum) (aab _);refine⟨by simp only[aaq];omega,fun x hx=> ?_⟩;rcases abu.1 hx with rfl|hx
  ·omega
  have:=h2 x hx;omega
end Go.Proofs.YtgfmiladfeoldaaGreatDoor
