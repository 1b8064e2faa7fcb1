import Derived.Test.YtgfmiladfeoldaaGreatDoorPk17
set_option linter.unusedSimpArgs false
set_option linter.unusedVariables false
set_option maxRecDepth 100000
set_option maxHeartbeats 16000000
open Option renaming none->Z,some->F
open Go.Value renaming slice->U,int->A,string->ca
open Go.IntKind renaming i64->G
open Go.Obj renaming cells->O
namespace Go.Proofs.YtgfmiladfeoldaaGreatDoor
open Go.RowKit aw ar
theorem Qhz {R:Nat}{tv:Value}{L:List Tok}{i:Nat}{nv vv sv:Value}{ns:List Nv}{vs:List Nat}{dx:List aF.Op}{want pw:Bool}{d:Nat}{w:World}(h:WM w R tv L i nv vv sv ns vs dx want pw d)
  (op:Nat) (text:Bytes) (hop:op<=255) (YU:vv.ownBlock≠Z) (hb1:vs.length<=134217728) (hb2:ns.length<=134217728):
  Calls Tryz.prog 137 #[.pointer (F ⟨R,0,Z⟩),A G op,ca ⟨text.toArray⟩,A G 0] w (qg R tv L i ns vs dx want pw d op 0 text w nv vv sv):=by
 obtain⟨i0,hi,hz0,hz1,hz2⟩:=aa0 Tryz.df;obtain⟨j0,hj,ja,tz,mf⟩:=aa0 Tryz.oc;have H:=zq h;have br:=h.lt;obtain⟨c0,c1,c2,c3,c4,c5,c6,c7⟩:=h.cells;have f3:=h.iH 3;have f2:=h.iH 2
 obtain⟨gv,aU,he,DZ,iJ,v1,v2⟩:∃gv aU,vv=U (F ⟨gv,0,Z⟩) vs.length aU/\R+1<=gv/\gv<w.heap.size/\vs.length<=aU/\aU<=maxLen:=by
  rcases h.sf.2 with ⟨e,-⟩|⟨g,cap,cur,e,x1,x2,x3,x4,-,-⟩
  ·rw[e]at YU;exact absurd rfl YU
  exact⟨g,cap,e,x1,(aah.1 x2).1,x3,x4⟩
 subst he;obtain⟨m,hm⟩:=xq vs.length;have HM:=zq hm;rw[<-hm]at c3 hb1 v1;obtain⟨T,hT⟩:=xq (⟨text.toArray⟩:ByteArray);have HT:=zq hT;rw[<-hT]
 obtain⟨no,nn,bL,rQ⟩:∃no nn bL,nv=U no nn bL:=by obtain⟨a,b,e,-⟩:=Qj h.kM;exact⟨a,_,b,e⟩
 have bA:IntKind.i64.wrap ((m:Nat):Int)=((m:Nat):Int):=abh _ (by omega)
 have hs0:(0:Int)<=((m:Nat):Int):=by omega
 have hs2:((m:Nat):Int)<=((aU:Nat):Int):=by omega
 have hlen:m-m=0:=by omega
 obtain⟨ap,UX⟩:∃ap,(if aU=m then F (⟨gv,0,Z⟩:Addr) else F ⟨gv,m,Z⟩)=ap:=⟨_,rfl⟩;have eG:Below w.heap.size w (w.alloc (O #[] 3)):=Qq _ _;have cT:=zq eG;have HOW:Hid ((w.alloc (O #[] 3)).drew.ownsRow (R+1) 3 1 (U (F ⟨w.heap.size,0,Z⟩) 0 0) 0 []):=Xh ((ab3 w #[] 0 (by omega) (by unfold maxLen;omega) rfl).drew) (show R+1<=w.heap.size by omega);clear h hm hT eG;go_enter Tryz.func137,Tryz.ntmps137;go_wp2_with fail
 go_region_held3 (fun w'=>w'.cell? ⟨R,3,Z⟩=F (U (F ⟨gv,0,Z⟩) m aU))
  (first
   |go_keep
   |(rw[hw2.o];go_keep))
  ((refine Ut (by rfl) _ _ (by rfl) w.heap.size ap (aU-m) (by rfl) (by rfl) ?_;intro w2 hw2))
 obtain⟨gg,jG⟩:=xq w.heap.size
 have hown2:w2.ownsRow (R+1) 3 1 (U (F ⟨gg,0,Z⟩) 0 0) 0 []:=by rw[hw2.o,jG];exact HOW.o
 have dJ:gg<w2.heap.size:=by rw[hw2.o,jG];simp
 have hb2:Below w.heap.size w w2:=by rw[hw2.o];exact cT.o.drew
 have rN:w.heap.size<=gg:=abT jG.symm
 have tM:Hid (KR w2 R Z (U (F ⟨gg,0,Z⟩) 0 0) []):=by refine⟨_,_,rfl,aab _,aat _,fun q' hq'=> ?_,fun h0=>absurd h0 (ado _)⟩;obtain rfl:gg=q':=aav hq';exact⟨aal br rN,dJ,by simp⟩
 have lT:=zq rN;have O7:=zq dJ;have aI:=zq hb2;have eE:=zq (H.o.below hb2);clear c0 c1 c2 c3 c4 c5 c6 c7 f2 f3;obtain⟨c0,c1,c2,c3,c4,c5,c6,c7⟩:=eE.o.cells;have f3:=eE.o.iH 3;have sS:=eE.o.lt;rw[<-HM.o]at c3;rw[rQ]at c2
 have bu:nn=ns.length:=by obtain⟨a,b,e,-⟩:=Qj eE.o.kM;rw[rQ]at e;cases e;rfl
 have bw:=zq bu;have sA:=zq rQ;clear rQ bu
 have xQ:Hid ((w2.alloc (O #[A G nn] 3)).drew.ownsRow (R+1) 3 1 (U (F ⟨gv,0,Z⟩) m aU) m (ints (vs.take m))):=by
  have ho:=eE.o.sf;rw[<-HM.o]at ho;have h1:=Tj ho (aab m)
  have e:(ints vs).take m=ints (vs.take m):=by simp[ints]
  rw[e]at h1;exact(Qy h1 (Qq w2 _) (aab _)).drew
 rw[<-jG];have yL:=zq jG;clear hb2 rN hown2 dJ hw2 jG;go_wp2_with fail;go_upto_region 1 with fail;go_cut [] (fun wx=>Hid (∃g5 bW,WM wx R tv L i nv (U (F ⟨g5,0,Z⟩) (m+1) bW) sv ns (vs.take m++[ns.length]) dx want pw d/\KR wx R Z (U (F ⟨gg,0,Z⟩) 0 0) []/\g5≠gg/\Below R w wx/\ ∀B,R<B->B<w.heap.size->(Value.slice (F ⟨gv,0,Z⟩) m aU).ownBlock≠F B->wx.heap[B]?=w.heap[B]? /\g5≠B))
 case first=>
  have yX:Hid (F R≠(Value.slice (F ⟨gv,0,Z⟩) m aU).ownBlock):=fun e=>by have h1:(Value.slice (F ⟨gv,0,Z⟩) m aU).ownBlock=F gv:=rfl;rw[h1]at e;cases e;omega
  have sF:Hid (R<(w2.alloc (O #[A G nn] 3)).drew.heap.size):=by show _<_;simp;omega
  have uF:Hid ((w2.alloc (O #[A G nn] 3)).drew.cell? ⟨R,3,Z⟩=F (U (F ⟨gv,0,Z⟩) m aU)):=((Qq w2 _).drew.cell (p:=⟨R,3,Z⟩) sS).trans c3;have rp:Hid ((w2.alloc (O #[A G nn] 3)).drew.frozen? ⟨R,3,Z⟩=false):=((Qq w2 _).drew.frozen (p:=⟨R,3,Z⟩) sS).trans f3
  have qh:Hid (∀g6 dU w5,w5.ownsRow (R+1) 3 1 (U (F ⟨g6,0,Z⟩) (m+1) dU) (m+1) (ints (vs.take m)++[A G nn])->(w2.alloc (O #[A G nn] 3)).drew.grownBy w5 (Value.slice (F ⟨gv,0,Z⟩) m aU).ownBlock->((Value.slice (F ⟨gv,0,Z⟩) m aU).ownBlock=F g6\/g6=w2.heap.size+1)->Hid (∃g5 bW,WM (w5.setCell ⟨R,3,Z⟩ (U (F ⟨g6,0,Z⟩) (m+1) dU)) R tv L i nv (U (F ⟨g5,0,Z⟩) (m+1) bW) sv ns (vs.take m++[ns.length]) dx want pw d/\KR (w5.setCell ⟨R,3,Z⟩ (U (F ⟨g6,0,Z⟩) (m+1) dU)) R Z (U (F ⟨gg,0,Z⟩) 0 0) []/\g5≠gg/\Below R w (w5.setCell ⟨R,3,Z⟩ (U (F ⟨g6,0,Z⟩) (m+1) dU))/\ ∀B,R<B->B<w.heap.size->(Value.slice (F ⟨gv,0,Z⟩) m aU).ownBlock≠F B->(w5.setCell ⟨R,3,Z⟩ (U (F ⟨g6,0,Z⟩) (m+1) dU)).heap[B]?=w.heap[B]? /\g5≠B)):=by
   intro g5 bW w5 ho hg hat;have XR:(Value.slice (F ⟨gv,0,Z⟩) m aU).ownBlock=F gv:=rfl;rw[XR]at hg hat;have wu:=O7.o;have WD:=lT.o
   have hsz:w2.heap.size+1<=w5.heap.size:=by have:=hg.size;simpa using this
   have hblk:∀k,k<w2.heap.size->k≠gv->w5.heap[k]?=w2.heap[k]? :=fun k hk hne=>(hg.block k (by simp;omega) (by simp;exact fun e=>hne e)).trans ((Qq w2 (O #[A G nn] 3)).drew.block k hk)
   have bz:∀k,k≠R->(w5.setCell ⟨R,3,Z⟩ (U (F ⟨g5,0,Z⟩) (m+1) bW)).heap[k]?=w5.heap[k]? :=fun k hk=>aaN w5 ⟨R,3,Z⟩ k _ hk;have ua:=(hblk R sS (by omega)).trans eE.o.blk;have x6:=(aao w5 R 3 _ _ (U (F ⟨g5,0,Z⟩) (m+1) bW) ua)
   have zR:g5=gv\/g5=w2.heap.size+1:=by
    rcases hat with e|e
    ·cases e;exact .inl rfl
    exact .inr e
   refine⟨g5,bW,eE.o.vals (by simp[World.setCell];omega) (fun k hk wH hkv=> ?_) ?_ (fun q' hq'=> ?_) (x6.trans (by simp)),?_,?_,?_,?_⟩
   ·rw[bz k wH]
    exact hblk k hk (fun e=>hkv (by rw[e];rfl))
   ·have hl:(vs.take m++[ns.length]).length=m+1:=by rw[aag,aak,<-HM.o];simp<;>omega
    rw[hl,Fj]
    have e:ints [ns.length]=[Value.int G nn]:=by rw[bw.o];rfl
    rw[e];exact Xa ho (fun g _ h1 _=>bz g (by omega))
   ·obtain rfl:g5=q':=aav hq'
    rcases zR with e|e
    ·left;rw[e];rfl
    right;omega
   ·exact tM.o.at (by simp[World.setCell];omega) (fun q' hq'=>by
     obtain rfl:gg=q':=aav hq';rw[bz gg (by omega)]
     exact hblk gg wu (by omega))
   ·rcases zR with e|e<;>omega
   ·refine⟨hg.os.trans aI.o.os,hg.tape.trans aI.o.tape,hg.output.trans aI.o.output,by simp[World.setCell];have:=aI.o.size;omega,fun k hk=> ?_⟩
    rw[bz k (by omega),hblk k (by omega) (by omega)];exact aI.o.block k (by omega)
   refine fun B DM hB hne=>⟨?_,?_⟩
   ·exact(bz B (by omega)).trans ((hblk B (by have:=aI.o.size;omega) (fun e=>hne (by rw[e];rfl))).trans (aI.o.block B hB))
   have:=aI.o.size;rcases zR with e|e
   ·rw[e];exact fun e=>hne (by rw[e];rfl)
   omega
  go_region_law
   ((refine ad6 _ (by rfl) _ _ _ (by rfl) (R+1) 3 i0 _ 1 8 Tryz.underlying41 hi hz0 hz1 hz2 rfl (by omega) (U (F ⟨gv,0,Z⟩) m aU) m (ints (vs.take m)) (by rfl) (by exact xQ) ⟨w2.heap.size,0,Z⟩ 1 1 [A G nn] (by rfl) (by rfl) (ad3 (cs:= #[A G nn]) (aap _ _)) (Ve rfl) (by omega) (by unfold maxLen;omega) (by omega) (by simp;omega) (w2.heap.size+1) (by simp) ?_;intro g5 bW w5 cf cY o9 gW;have e3:w5.cell? ⟨R,3,Z⟩=F (U (F ⟨gv,0,Z⟩) m aU):=(cY.cell_far ⟨R,3,Z⟩ sF yX).trans uF;have e4:w5.frozen? ⟨R,3,Z⟩=false:=(cY.frozen_far ⟨R,3,Z⟩ sF yX).trans rp))
  all_goals
   have HF:=qh.o g5 bW w5 cf cY o9;clear cf cY o9 gW e3 e4;go_wp2_with fail;go_meet;exact HF
 case rest=>
  obtain⟨g5,bW,hw,hk,mD,hb,kE⟩:=hcut.o;have tL:=zq kE;have HW:=zq hw;have HK:=zq hk;have HB:=zq hb;clear c0 c1 c2 c3 c4 c5 c6 c7 f3 hcut;obtain⟨c0,c1,c2,c3,c4,c5,c6,c7⟩:=HW.o.cells;have f2:=HW.o.iH 2;have vM:=HW.o.lt;rw[sA.o]at c2
  have HOWN:Hid ((wc.alloc (O #[A G op,ca T,U (F ⟨gg,0,Z⟩) 0 0] 43)).ownsRow (R+1) 43 3 (U no nn bL) nn (Xm ns)):=by have h1:=HW.o.kM;rw[sA.o,<-bw.o]at h1;exact Qy h1 (Qq _ _) (aab _)
  have bu:nn<=134217728:=by rw[bw.o];exact hb2
  clear hw hk hb kE;go_wp2_with (at_builtin;refine abk _ rfl _ _ 23 rfl (R+1) 43 j0 (.agg #[A G 0,ca ⟨#[]⟩,U Z 0 0]) 3 48 Tryz.underlying23 hj ja tz mf rfl (by omega) (U no nn bL) nn (Xm ns) rfl HOWN.o ⟨wc.heap.size,0,Z⟩ 1 1 [A G op,ca T,U (F ⟨gg,0,Z⟩) 0 0] rfl rfl (ar.Qg _ _ _ _ rfl) (by simp[Value.oneCell']) (by omega) (by unfold maxLen;omega) (by omega) (by simp;omega) (wc.heap.size+1) (by simp) ?_);intro g7 bX w7 dK aR fB lC
  have fX:F R≠(Value.slice no nn bL).ownBlock:=fun e=>by have:=(Vq HOWN e.symm).1;omega
  have vL:R<(wc.alloc (O #[A G op,ca T,U (F ⟨gg,0,Z⟩) 0 0] 43)).heap.size:=by simp;omega
  have e2:w7.cell? ⟨R,2,Z⟩=F (U no nn bL):=(aR.cell_far ⟨R,2,Z⟩ vL fX).trans (((Qq wc _).cell (p:=⟨R,2,Z⟩) vM).trans c2);have e4:w7.frozen? ⟨R,2,Z⟩=false:=(aR.frozen_far ⟨R,2,Z⟩ vL fX).trans (((Qq wc _).frozen (p:=⟨R,2,Z⟩) vM).trans f2)
  have vJ:Hid (qg R tv L i ns vs dx want pw d op 0 text w nv (U (F ⟨gv,0,Z⟩) vs.length aU) sv (.returned (.tuple #[])) (w7.setCell ⟨R,2,Z⟩ (U (F ⟨g7,0,Z⟩) (nn+1) bX))):=by
   have hsz:wc.heap.size+1<=w7.heap.size:=by have:=aR.size;simpa using this
   have iX:=sA.o
   have hblk:∀k,k<wc.heap.size->nv.ownBlock≠F k->w7.heap[k]?=wc.heap[k]? :=fun k hk hne=>(aR.block k (by simp;omega) (by rw[<-iX];exact fun e=>hne e.symm)).trans ((Qq wc _).block k hk)
   have bz:∀k,k≠R->(w7.setCell ⟨R,2,Z⟩ (U (F ⟨g7,0,Z⟩) (nn+1) bX)).heap[k]?=w7.heap[k]? :=fun k hk=>aaN w7 ⟨R,2,Z⟩ k _ hk;have vK:=(hblk R vM (by rw[iX];exact fun e=>fX e.symm)).trans HW.o.blk;have UH:=(aao w7 R 2 _ _ (U (F ⟨g7,0,Z⟩) (nn+1) bX) vK)
   have iK:vs.drop (vs.length-0)=[]:=by simp
   have YM:vs.take (vs.length-0)=vs.take m:=by rw[HM.o];simp
   refine⟨rfl,?_,U (F ⟨g7,0,Z⟩) (nn+1) bX,U (F ⟨g5,0,Z⟩) (m+1) bW,sv,U (F ⟨gg,0,Z⟩) 0 0,?_,?_⟩
   ·refine⟨aR.os.trans HB.o.os,aR.tape.trans HB.o.tape,aR.output.trans HB.o.output,by simp[World.setCell];have:=HB.o.size;omega,fun k hk=> ?_⟩
    rw[bz k (by omega),hblk k (by omega) (fun e=>by have:=(Vq HW.o.kM e).1;omega)];exact HB.o.block k hk
   ·rw[iK,YM]
    refine HW.o.nodes (by simp[World.setCell];omega) (fun k hk wH dA=> ?_) ?_ (fun q' hq'=> ?_) HK (fun q' hq'=> ?_) (UH.trans (by simp))
    ·rw[bz k wH];exact hblk k hk dA
    ·have e1:(ns++[((⟨op,text,[]⟩:aj.Node),Value.slice (F ⟨gg,0,Z⟩) 0 0)]).length=nn+1:=by rw[aag,<-bw.o];rfl
     rw[e1,W7]
     have e2:Xm [((⟨op,text,[]⟩:aj.Node),Value.slice (F ⟨gg,0,Z⟩) 0 0)]=[A G op,ca T,U (F ⟨gg,0,Z⟩) 0 0]:=by rw[HT.o];rfl
     rw[e2];exact Xa dK (fun g _ h1 _=>bz g (by omega))
    ·obtain rfl:g7=q':=aav hq'
     rw[iX];rcases fB with e|e
     ·exact .inl e
     right;omega
    obtain rfl:gg=q':=aav hq';have hg1:=lT.o;refine⟨fun e=> ?_,fun e=>mD (aav e),fun e=> ?_⟩
    ·have:=(Vq H.o.kM e).2;omega
    have:=(H.o.uq.1 _ e).2;omega
   intro B DM hB k1 k2 k3;obtain⟨y1,y2⟩:=tL.o B DM hB k2;have kr:=HB.o.size;refine⟨(bz B (by omega)).trans ((hblk B (by omega) k1).trans y1),fun e=> ?_,fun e=>y2 (aav e),k3⟩;obtain rfl:g7=B:=aav e;rcases fB with e|e
   ·exact k1 (by rw[iX];exact e)
   omega
  clear dK aR fB lC fX vL;go_wp2_with fail;go_end0;exact vJ.o
end Go.Proofs.YtgfmiladfeoldaaGreatDoor
