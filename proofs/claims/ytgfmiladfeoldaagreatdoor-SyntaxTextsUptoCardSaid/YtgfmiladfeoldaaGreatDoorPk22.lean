import Derived.Test.YtgfmiladfeoldaaGreatDoorPk17
import Derived.Test.YtgfmiladfeoldaaGreatDoorPk19
import Derived.Test.YtgfmiladfeoldaaGreatDoorPk18
import Derived.Deep.Slices
import Derived.Lib.AppendIntMem
set_option linter.unusedSimpArgs false
set_option linter.unusedVariables false
set_option maxRecDepth 100000
set_option maxHeartbeats 16000000
open Go.Proofs.Tryz
open Option renaming some->F,none->Z
open Go.Value renaming int->A,slice->U,string->db,bool->dj,tuple->du,agg->fb
open Go.IntKind renaming i64->G,u8->fa
open Go.Obj renaming cells->O
open Go.RowKit renaming Below->ca,Hid->cl
open Bool renaming false->ce,true->dl
open Go.Proofs.Tryz renaming prog->co,underlying88->dk,ntmps80->ef,underlying41->eg,func80->ex,underlying38->eS,underlying105->ff,underlying47->fi,underlying9->fm,ntmps42->gc,ntmps43->gd
open Go.Ending renaming returned->c9
open Go renaming Value->da,World->de,Calls->dq
namespace Go.Proofs.YtgfmiladfeoldaaGreatDoor
open Go.RowKit ar aZ aw
variable {B N cap g i j n q x:Nat} {acc:List (List Nat)} {bc:List da} {k:Int} {ks:List Int} {lv sv u v:da} {p:Bool} {s xs:List Nat} {w w':de}
theorem Tryz.Lt:(Tryz.prog.info? 62).map (fun i=>(i.zero,i.size,i.bytes))=F (F (fb #[dj ce,U Z 0 0]),2,32):=by kernel_rfl
theorem Tryz.gH:(Tryz.prog.info? 47).map (·.size)=F 3:=by kernel_rfl
def MU (t:Bytes)(P:List (Bool×Nat))(w:de)(ra:Nat)(fin:List Bytes×Nat×Bool)(frv shv iv:da)(wr:de):Prop:=
 ∃(i fr k r:Nat) (sh:Bool) (cs:List (Bool×da)) (av:da),frv=A G fr/\shv=dj sh/\iv=A G i/\ze t P w ra fin i fr k r sh cs av wr
theorem Av {m:aj.ey}(hm:aj.Ky m)(w:de)(hlen:(aj.fj m).length<=1099511627776)(hd:∀p∈Th m,(aj.aA p.2).length<=1048576/\(p.1=dl->p.2≠0)):dq co 154 #[db ⟨(aj.fj m).toArray⟩] w fun e w'=> ∃v,e=c9 (fb #[A G (m.rows:Nat),A G (m.aW:Nat),v])/\SI w.heap.size w' v m.at_/\ca w.heap.size w w':=by
 obtain⟨i0,dR,hz0,hz1,AU⟩:=aa0 Tryz.Lt;obtain⟨t,ht⟩:=xq (aj.fj m);obtain⟨P,hP⟩:=xq (Th m);obtain⟨fin,aq⟩:=xq (aF.ku (aj.fj m).tail [] [] 1 ce);have hfv:=Qvi hm;rw[<-aq,<-hP]at hfv;have HFV:=zq hfv
 have FL:cl (fin.1=P.map aj.bR):=by show _=_;rw[hfv]
 obtain⟨b0,tl,rU⟩:∃b l,t=b::l:=by
  rw[ht];unfold aj.fj;split
  ·exact⟨91,_,rfl⟩
  exact⟨91,_,rfl⟩
 obtain⟨T,hT⟩:=xq (⟨t.toArray⟩:ByteArray)
 have fS:T.data.toList=t:=by rw[hT]
 have jC:T.size=t.length:=by rw[aa2,fS]
 have tT:=zq jC;have iO:=zq fS
 have ej:T.size<=1099511627776:=by rw[jC,ht];exact hlen
 have HD:=zq hd;rw[<-hP]at HD;have HM:=zq hm;have GK:=zq hP
 have hPb:P.length<=67108864:=by
  rw[hP];unfold Th;split
  ·show 2<=_;omega
  obtain⟨h1,h2,h3,-⟩:=hm;rw[h3];exact aar (aa3 h1 h2) (by decide)
 have hb1:=Qq w (O #[A G 0,A G 0,U Z 0 0] 47);obtain⟨ra,hra⟩:=xq (w.heap.size+1)
 have HST:cl (MU t P w ra fin (A G 1) (dj ce) (A G 1) ((w.alloc (O #[A G 0,A G 0,U Z 0 0] 47)).alloc (O #[A G 1,A G 0,U Z 0 0] 47))):=by
  refine⟨1,1,0,1,ce,[],U Z 0 0,rfl,rfl,rfl,?_⟩;have hb2:=Qq (w.alloc (O #[A G 0,A G 0,U Z 0 0] 47)) (O #[A G 1,A G 0,U Z 0 0] 47);refine⟨by rw[rU];simp,⟨aab _,aab _⟩,?_,aat _,hPb,aab _,?_,En.nil _ _,?_,?_,Qv hb1 hb2⟩
  ·rw[aq,<-ht,rU];rfl
  ·intro c hc;rw[rU]at hc;simp at hc
  ·have:=aap (w.alloc (O #[A G 0,A G 0,U Z 0 0] 47)) (O #[A G 1,A G 0,U Z 0 0] 47)
   rw[aaV,<-hra]at this;exact this
  exact(hb2.block _ (by simp)).trans (aap w _)
 rw[<-ht,<-hT];clear aq hfv rU hT fS hlen hd hP hb1 ht;go_enter func154,ntmps154;go_wp2_with fail;rw[<-hra];have HRA:=zq hra
 have KU:w.heap.size<ra:=by omega
 clear hra;go_loopw [4,5,6] (fun frv shv iv wr=>MU t P w ra fin frv shv iv wr) (fun _ _ iv _=>T.size-(intOf iv).toNat)
 case atStart=>exact HST.o
 case round=>
  obtain⟨i,fr,k,r,sh,cs,av,rfl,rfl,rfl,cD⟩:=hrel;have ct:=zq cD;have iq:=cD.le;rw[<-jC]at iq;have kE:=cD.fl;have lG:=cD.rl;have bN:=cD.blk;have AE:ra<wr.heap.size:=(aah.1 bN).1
  have a0:wr.cell? ⟨ra,0,Z⟩=F (A G ((r:Nat):Int)):=by rw[aaj _ _ 0 _ _ _ bN];rfl
  have a1:wr.cell? ⟨ra,1,Z⟩=F (A G 0):=by rw[aaj _ _ 1 _ _ _ bN];rfl
  have a2:wr.cell? ⟨ra,2,Z⟩=F av:=by rw[aaj _ _ 2 _ _ _ bN];rfl
  clear cD bN;by_cases hlt:i<T.size
  ·obtain⟨c,hc⟩:∃c,t[i]?=F c:=⟨_,aad (by rw[<-tT.o];exact hlt)⟩
   have hcT:T[i]=c:=by have h1:T.data.toList[i]?=F T[i]:=aad (by rw[iO.o,<-tT.o];exact hlt);rw[iO.o,hc]at h1;exact(aav h1).symm
   obtain⟨d,hd⟩:∃d:Nat,(T[i]).toNat=d:=⟨_,rfl⟩
   have sW:c.toNat=d:=by rw[<-hcT];exact hd
   have HC:=zq hc;have CD:=zq sW
   have VT:∀(x:UInt8) (n:Nat),x.toNat=n->(c==x)=decide (d=n):=by
    intro x n hx;rw[abj,ab9,abi];constructor
    ·intro h;rw[<-sW,h,hx]
    intro h;exact UInt8.toNat_inj.1 (by rw[sW,hx,h])
   have HE:cl (aF.jA c=decide ((48<=d/\d<=57)\/d=45)):=by show _=_;unfold aF.jA;rw[VT 45 45 rfl];rw[abj];simp[aZ.Qr,sW]
   have H58:cl ((c==58)=decide (d=58)):=VT 58 58 rfl
   have H59:cl ((c=59)↔d=59):=by have:=VT 59 59 rfl;rw[abj,ab9,abi]at this;exact this
   clear hc hcT sW VT;by_cases he:(48<=d/\d<=57)\/d=45
   ·have ahF:(((d:Nat):Int)==58)=ce:=by simp;omega
    have HF:cl (MU t P w ra fin (A G fr) (dj sh) (A G ((i+1:Nat):Int)) wr):=
     ⟨i+1,fr,k,r,sh,cs,av,rfl,rfl,rfl,ct.o.ae8 HC (by rw[HE.o];exact aa7 he)⟩
    have cB:(((i+1:Nat):Int))=((i:Nat):Int)+1:=by omega
    rw[cB]at HF
    have kG:T.size-(intOf (A G (((i:Nat):Int)+1))).toNat<T.size-(intOf (A G ((i:Nat):Int))).toNat:=by simp[intOf];omega
    clear cB;rcases he with he|he
    ·obtain⟨x1,x2⟩:=he
     have n1:(48:Int)<=((d:Nat):Int):=by omega
     have n2:((d:Nat):Int)<=57:=by omega
     have m1:decide ((48:Int)<=((d:Nat):Int))=dl:=aa7 n1;have m2:decide (((d:Nat):Int)<=57)=dl:=aa7 n2;go_wp2_with fail;exact⟨HF,kG⟩
    subst he;go_wp2_with fail;exact⟨HF,kG⟩
   have zJ:aF.jA c=ce:=by rw[HE.o];exact aaQ he
   have HEF:=zq zJ;obtain⟨LH,dP⟩:=xq ((sh||c==58));have ju:=zq dP
   obtain⟨r2,hr2⟩:∃r2,r2=if c=59 then r+1 else r:=⟨_,rfl⟩
   have dW:=zq hr2
   obtain⟨k2,hk2⟩:∃k2,k2=if fr=i then k else k+1:=⟨_,rfl⟩
   have LX:=zq hk2;have bV:=zq he
   have kG:T.size-(intOf (A G (((i:Nat):Int)+1))).toNat<T.size-(intOf (A G ((i:Nat):Int))).toNat:=by simp[intOf];omega
   clear zJ dP hr2 hk2;go_upto_if 23 with fail;go_cut [5] (fun sv wx=>sv=dj LH/\wx=wr)
   case first=>
    by_cases h58:d=58
    ·have n1:(((d:Nat):Int)==58)=dl:=by simp;omega
     have et:cl (LH=dl):=by show _=_;rw[ju.o,H58.o,aa7 h58];simp
     clear h58;go_wp2_with fail;go_meet;exact⟨by rw[et.o],rfl⟩
    have n1:(((d:Nat):Int)==58)=ce:=by simp;omega
    have et:cl (LH=sh):=by show _=_;rw[ju.o,H58.o,aaQ h58];simp
    clear h58;go_wp2_with fail;go_meet;exact⟨by rw[et.o],rfl⟩
   case rest=>
    obtain⟨rfl,hwc⟩:=hcut;subst wc
    have n45:(((d:Nat):Int)==45)=ce:=by have:=bV.o;simp;omega
    go_upto_region 8 with fail;go_cut [39] (fun v wx=>v=dj ce/\wx=wr)
    case first=>
     by_cases h48:d<48
     ·have m1:decide ((48:Int)<=((d:Nat):Int))=ce:=aaQ (by omega)
      clear h48;go_wp2_with fail;go_meet;exact⟨rfl,rfl⟩
     have m1:decide ((48:Int)<=((d:Nat):Int))=dl:=aa7 (by omega);have m2:decide (((d:Nat):Int)<=57)=ce:=aaQ (by have:=bV.o;omega);clear h48;go_wp2_with fail;go_meet;exact⟨rfl,rfl⟩
    case rest=>
     obtain⟨rfl,hwc⟩:=hcut;subst wc;obtain⟨wq,ma⟩:=xq wr;go_upto_if 42 with fail;go_cut [] (fun wx=>cl (∃cs' qH,En wx (ra+1) qH (U Z 0 0) cs' (P.take k2) []/\wx.heap[ra]?=F (O #[A G ((r:Nat):Int),A G 0,qH] 47 (0,0))/\wx.heap[w.heap.size]?=F (O #[A G 0,A G 0,U Z 0 0] 47 (0,0))/\ca w.heap.size w wx))
     case first=>
      by_cases vZ:fr=i
      ·have n1: ¬((fr:Nat):Int)<((i:Nat):Int):=by omega
       have HF:cl (∃cs' qH,En wr (ra+1) qH (U Z 0 0) cs' (P.take k2) []/\wr.heap[ra]?=F (O #[A G ((r:Nat):Int),A G 0,qH] 47 (0,0))/\wr.heap[w.heap.size]?=F (O #[A G 0,A G 0,U Z 0 0] 47 (0,0))/\ca w.heap.size w wr):=by refine⟨cs,av,?_,ct.o.blk,ct.o.res,ct.o.fK⟩;rw[LX.o,if_pos vZ];exact ct.o.en
       clear ma vZ;go_wp2_with fail;go_meet;exact HF
      have n1:((fr:Nat):Int)<((i:Nat):Int):=by omega
      obtain⟨p,hp,VK⟩:=ct.o.cur FL HC HEF vZ;obtain⟨neg,nv⟩:=p;obtain⟨nR,kj⟩:=HD.o _ (aai hp)
      have hx:T.extract fr i=⟨(aj.bR (neg,nv)).toArray⟩:=by apply ByteArray.ext;apply Array.ext';rw[Lib.extract_eq,iO.o,<-VK,List.drop_take]
      obtain⟨X,hX⟩:=xq (⟨(aj.bR (neg,nv)).toArray⟩:ByteArray);have gj:=zq (Qvg neg nv wr nR kj);rw[<-hX]at gj hx
      have s1:((fr:Nat):Int)<=((i:Nat):Int):=by omega
      have s2:((i:Nat):Int)<=((T.size:Nat):Int):=by omega
      have HP:=zq hp
      have HKK:cl (k2=k+1):=by show _=_;rw[LX.o,if_neg vZ]
      have hA2:=zq a2;clear hp VK nR kj hX vZ ma;go_wp2_with fail;refine gj.o.mono ?_;rintro e w3 ⟨v5,rfl,zO,bG⟩;obtain⟨vo,vl,aU,rfl,-⟩:=zO.val;have hz3:=bG.size;obtain⟨w4,hw4⟩:=xq ((w3.alloc (O #[dj neg,U vo vl aU] 62)).alloc (O #[dj neg,U vo vl aU] 62))
      have yt:w4.heap.size=w3.heap.size+2:=by rw[hw4];simp
      have zD:ca w3.heap.size w3 w4:=by rw[hw4];exact Qv (Qq _ _) (Qq _ _)
      have hb4:ca wr.heap.size wr w4:=Qv bG zD;have cC:=zq hb4;have JD:=ct.o.en.low hb4;have nD:=zq JD
      have HNF:cl (bI (ra+1) w4 (U vo vl aU) nv):=by refine bI.mono (bI.blk zO (aab _) zD.size fun q hq=>zD.block q (zO.2.1 q hq).2) (by omega)
      have CL:cl (∀q,(Value.slice vo vl aU).ownBlock=F q->wr.heap.size<=q):=fun q hq=>(zO.2.1 q hq).1;have c2:(w3.alloc (O #[dj neg,U vo vl aU] 62)).cell? ⟨ra,2,Z⟩=F av:=((Qv bG (Qq w3 _)).cell (p:=⟨ra,2,Z⟩) AE).trans hA2;have aco:cl (w4.heap[ra]?=F (O #[A G ((r:Nat):Int),A G 0,av] 47 (0,0))):=(hb4.block ra AE).trans ct.o.blk;obtain⟨nc,bU⟩:=xq cs.length;have qz:=zq bU
      have HOW:cl (w4.ownsRow (ra+1) 62 2 av nc (Q9 cs)):=by have:=JD.fF;rw[<-bU]at this;exact this
      have agE:nc<=67108864:=by rw[bU,ct.o.en.len,aak];have h1:=ct.o.kl;have h2:=ct.o.kb;omega
      rw[hw4]at HOW;have eQ:=zq hw4;have f2:(w3.frozen? ⟨ra,2,Z⟩)=ce:=aax w3 _ 2 _ _ ((bG.block ra AE).trans ct.o.blk);clear zO bG zD hb4 JD bU hw4 a0 a1 a2;go_wp2_with (at_builtin;refine abk _ rfl _ _ 45 rfl (ra+1) 62 i0 (fb #[dj ce,U Z 0 0]) 2 32 underlying45 dR hz0 hz1 AU rfl (by omega) av nc (Q9 cs) rfl HOW.o ⟨w3.heap.size+1,0,Z⟩ 1 1 [dj neg,U vo vl aU] rfl rfl (ar.Qg _ _ _ _ (by simp)) (by simp[Value.oneCell']) (by omega) (by unfold maxLen;omega) (by omega) (by simp;omega) (w3.heap.size+2) (by simp) ?_);intro gg cap w5 cf hgrow hat gW;rw[<-eQ.o]at hgrow
      have q1:=nD.o.push (neg:=neg) (m:=U vo vl aU) (k:=nv) HNF (fun q hq=>by
       have h1:=CL.o q hq;refine⟨fun e=> ?_,fun e=>by cases e⟩;have:=(ct.o.en.fF.lt q e).2
       omega) (by rw[<-qz.o];exact cf) hgrow (by simpa [yt] using hat)
      rw[<-qz.o]at q1;have rJ:w5.heap[ra]?=F (O #[A G ((r:Nat):Int),A G 0,av] 47 (0,0)):=(hgrow.block ra (by omega) (fun e=>by have:=(ct.o.en.fF.lt ra e.symm).1;omega)).trans aco;have hs5:=aao w5 ra 2 _ _ (U (F ⟨gg,0,Z⟩) (nc+1) cap) rJ
      have g2:w5.cell? ⟨ra,2,Z⟩=F av:=by rw[aaj _ _ 2 _ _ _ rJ];rfl
      have g3:w5.frozen? ⟨ra,2,Z⟩=ce:=aax _ _ 2 _ _ rJ
      have HF:cl (∃cs' qH,En (w5.setCell ⟨ra,2,Z⟩ (U (F ⟨gg,0,Z⟩) (nc+1) cap)) (ra+1) qH (U Z 0 0) cs' (P.take k2) []/\(w5.setCell ⟨ra,2,Z⟩ (U (F ⟨gg,0,Z⟩) (nc+1) cap)).heap[ra]?=F (O #[A G ((r:Nat):Int),A G 0,qH] 47 (0,0))/\(w5.setCell ⟨ra,2,Z⟩ (U (F ⟨gg,0,Z⟩) (nc+1) cap)).heap[w.heap.size]?=F (O #[A G 0,A G 0,U Z 0 0] 47 (0,0))/\ca w.heap.size w (w5.setCell ⟨ra,2,Z⟩ (U (F ⟨gg,0,Z⟩) (nc+1) cap))):=by
       have hpt:P.take k2=P.take k++[(neg,nv)]:=by rw[HKK.o,aaI,HP.o];rfl
       have jD:ca w.heap.size w w5:=below_grow (Qv ct.o.fK cC) hgrow (fun q hq=>by have:=(ct.o.en.fF.lt q hq).1;omega);refine⟨cs++[(neg,U vo vl aU)],U (F ⟨gg,0,Z⟩) (nc+1) cap,?_,hs5.trans (by simp),?_,jD.setCell (p:=⟨ra,2,Z⟩) (aa1 KU) _⟩
       ·rw[hpt]
        exact q1.wr (Wr.aD w5 2 _) (acJ _)
       rw[aaN w5 ⟨ra,2,Z⟩ w.heap.size _ (by show w.heap.size≠ra;omega),hgrow.block w.heap.size (by omega) (fun e=>by have:=(ct.o.en.fF.lt _ e.symm).1;omega),cC.o.block w.heap.size (by omega)];exact ct.o.res
      clear cf hgrow hat gW q1 rJ hs5 c2 f2;go_wp2_with fail;go_meet;exact HF
     case rest=>
      obtain⟨w6,Oe⟩:=xq wc;rw[<-Oe]at hcut ⊢;clear Oe;obtain⟨cs',qH,q1,q2,q3,q4⟩:=hcut.o
      have p0:w6.cell? ⟨ra,0,Z⟩=F (A G ((r:Nat):Int)):=by rw[aaj _ _ 0 _ _ _ q2];rfl
      have p1:w6.frozen? ⟨ra,0,Z⟩=ce:=aax _ _ 0 _ _ q2;have jR:=zq q1;have cQ:=zq q2;have fH:=zq q3;have tR:=zq q4;have aiT:IntKind.i64.wrap (((i:Nat):Int)+1)=((i:Nat):Int)+1:=abh _ (by omega);clear q1 q2 q3 q4 hcut
      have O9:cl (∀w7 sM av2,En w7 (ra+1) av2 (U Z 0 0) sM (P.take k2) []->w7.heap[ra]?=F (O #[A G ((r2:Nat):Int),A G 0,av2] 47 (0,0))->w7.heap[w.heap.size]?=F (O #[A G 0,A G 0,U Z 0 0] 47 (0,0))->ca w.heap.size w w7->MU t P w ra fin (A G (((i:Nat):Int)+1)) (dj LH) (A G (((i:Nat):Int)+1)) w7):=by
       intro w7 sM av2 q1 q2 q3 q4
       have cB:(((i+1:Nat):Int))=((i:Nat):Int)+1:=by omega
       rw[LX.o]at q1;rw[dW.o]at q2;rw[<-cB];exact⟨i+1,i+1,_,_,LH,sM,av2,rfl,rfl,rfl,by rw[ju.o];exact ct.o.sep FL HC HEF q1 q2 q3 q4⟩
      by_cases h59:d=59
      ·have n1:(((d:Nat):Int)==59)=dl:=by simp;omega
       have iL:r2=r+1:=by rw[dW.o,if_pos (H59.o.2 h59)]
       have xb:((r2:Nat):Int)=((r:Nat):Int)+1:=by omega
       have HF:cl (MU t P w ra fin (A G (((i:Nat):Int)+1)) (dj LH) (A G (((i:Nat):Int)+1)) (w6.setCell ⟨ra,0,Z⟩ (A G (((r:Nat):Int)+1)))):=by
        refine O9.o _ cs' qH (jR.o.wr (Wr.aD w6 0 _) (acJ _)) ?_ ?_ (tR.o.setCell (p:=⟨ra,0,Z⟩) (aa1 KU) _)
        ·rw[aao w6 ra 0 _ _ _ cQ.o,xb];rfl
        rw[aaN w6 ⟨ra,0,Z⟩ w.heap.size _ (by show w.heap.size≠ra;omega)];exact fH.o
       clear h59 iL xb;go_wp2_with fail;exact⟨HF,kG⟩
      have n1:(((d:Nat):Int)==59)=ce:=by simp;omega
      have iL:r2=r:=by rw[dW.o,if_neg (fun h=>h59 (H59.o.1 h))]
      have HF:cl (MU t P w ra fin (A G (((i:Nat):Int)+1)) (dj LH) (A G (((i:Nat):Int)+1)) w6):=by refine O9.o _ cs' qH jR ?_ fH tR;rw[iL];exact cQ.o
      clear h59 iL;go_wp2_with fail;exact⟨HF,kG⟩
  have dD:i=T.size:=by omega
  have ei:=ct.o
  have hit:i=t.length:=by rw[dD];exact tT.o
  have hrun:=ei.run;rw[aaC (by omega)]at hrun;have eI:((P.take k).map aj.bR,r,sh)=fin:=hrun;rw[HFV.o]at eI;simp only[Prod.mk.injEq]at eI;obtain⟨z1,z2,z3⟩:=eI
  have hkP:P.take k=P:=by have h1:=aaE List.length z1;simp only[aas,aak]at h1;exact aam (by omega)
  have hen:=ei.en;rw[hkP]at hen;have hres:=ei.res;have hblk:=ei.blk;have cI:=ei.fK;obtain⟨cD,gX,pA,-⟩:=HM.o;by_cases hat:m.at_=[]
  ·rw[if_pos hat]at z2
   rw[aa7 hat]at z3;subst z3
   have NH:P=[(ce,m.rows),(ce,m.aW)]:=by rw[GK.o];unfold Th;rw[if_pos hat]
   have hl2:cs.length=2:=by rw[hen.len,NH];rfl
   obtain⟨c0,c1,rfl⟩:∃c0 c1,cs=[c0,c1]:=by
    match cs,hl2 with
    | [a,b],_=>exact⟨a,b,rfl⟩
   rw[NH]at hen;obtain⟨x1,⟨x2,-,-⟩,-⟩:=hen.el 0 c0 (ce,m.rows) rfl rfl;obtain⟨y1,⟨y2,-,-⟩,-⟩:=hen.el 1 c1 (ce,m.aW) rfl rfl;simp only at x1 x2 y1 y2;obtain⟨ao,cap,DT,-,-,a3⟩:=Qj hen.fF;obtain⟨g,hao,-,iJ,ud⟩:=a3 (by rw[hl2];decide);subst hao;rw[hl2]at DT;subst DT;obtain⟨s1,v1⟩:=c0;obtain⟨s2,v2⟩:=c1;simp only at x1 x2 y1 y2;subst x1;subst y1;have d0:wr.cell? ⟨g,0,Z⟩=F (dj ce):=(ud 0 (by rw[hl2];decide)).trans rfl;have d1:wr.cell? ⟨g,1,Z⟩=F v1:=(ud 1 (by rw[hl2];decide)).trans rfl;have d2:wr.cell? ⟨g,2,Z⟩=F (dj ce):=(ud 2 (by rw[hl2];decide)).trans rfl;have d3:wr.cell? ⟨g,3,Z⟩=F v2:=(ud 3 (by rw[hl2];decide)).trans rfl
   obtain⟨vo1,vl1,vc1,rfl⟩:∃a b c,v1=U a b c:=by obtain⟨_,⟨-,a,c,e,-⟩,-,-⟩:=x2;exact⟨_,_,_,e⟩
   obtain⟨vo2,vl2,vc2,rfl⟩:∃a b c,v2=U a b c:=by obtain⟨_,⟨-,a,c,e,-⟩,-,-⟩:=y2;exact⟨_,_,_,e⟩
   have et:=zq (Cw x2 cD);have DA:=zq y2;have D2:=zq d2;have D3:=zq d3;have dZ:=zq hres;have yG:=zq hblk;have eM:=zq cI;have iF:=zq hat
   have AP:w.heap.size<wr.heap.size:=by omega
   clear ei hit hrun z1 z2 hkP hen hres hblk cI hat NH hl2 a3 ud x2 y2 pA;go_wp2_with fail;refine et.o.mono ?_;rintro e w3 ⟨rfl,hb3⟩;have cU:=zq (Cw (DA.o.below hb3) gX);have e2:w3.cell? ⟨g,2,Z⟩=F (dj ce):=(hb3.cell (p:=⟨g,2,Z⟩) iJ).trans D2;have e3:w3.cell? ⟨g,3,Z⟩=F (U vo2 vl2 vc2):=(hb3.cell (p:=⟨g,3,Z⟩) iJ).trans D3;have e4:w3.cell? ⟨ra,2,Z⟩=F (U (F ⟨g,0,Z⟩) 2 cap):=(hb3.cell (p:=⟨ra,2,Z⟩) AE).trans (by rw[aaj _ _ 2 _ _ _ yG.o];rfl);have aV:=zq hb3;clear hb3 d0 d1 d2 d3;go_wp2_with fail;refine cU.o.mono ?_;rintro e w4 ⟨rfl,hb4⟩;have IY:=Qv aV hb4;have lV:cl (w4.heap[w.heap.size]?=F (O #[A G 0,A G 0,U Z 0 0] 47 (0,0))):=(IY.block w.heap.size AP).trans dZ;have cC:=zq (Qv eM IY);clear hb4 IY e2 e3 e4;go_wp2_with (refine acs (by rfl) 47 (.tmp 2) (.tmp 86) (by rfl) w.heap.size _ rfl rfl 47 _ lV (by exact Tryz.gH) (by rfl) (by simp[Value.oneCell']) ?_);refine aaD (abF rfl _ _ w.heap.size 47 _ _ _ rfl (aec _ _ _ _ _ _ lV) fi rfl (by kernel_rfl)) rfl ?_;refine⟨U Z 0 0,rfl,?_,aeu cC (aab _) _⟩;rw[iF.o];exact fun w' _ _=>⟨Z,0,rfl,aab _,aat _,fun h=>by simp at h⟩
  rw[if_neg hat]at z2;rw[aaQ hat]at z3;subst z3
  have NH:P=m.at_:=by rw[GK.o];unfold Th;rw[if_neg hat]
  rw[NH]at hen
  have fT:cs.length=m.rows*m.aW:=by rw[hen.len,pA]
  have nY:0<r:=by
   rw[z2];rcases abY m.rows with h0|h0
   ·exfalso
    apply hat;apply aau;rw[pA,h0,acH]
   exact h0
  rw[<-z2]at fT;obtain⟨ao,cap,DT,-,-,-⟩:=Qj hen.fF;obtain⟨nn,bu⟩:=xq cs.length;rw[<-bu]at DT fT;subst DT
  have lZ:nn / r=m.aW:=by rw[fT,Nat.mul_div_cancel_left _ nY]
  have hq:Int.tdiv ((nn:Nat):Int) ((r:Nat):Int)=((m.aW:Nat):Int):=by rw[<-lZ];exact Int.ofNat_tdiv nn r|>.symm ▸ rfl
  have l7:((nn:Nat):Int) / ((r:Nat):Int)=((m.aW:Nat):Int):=by rw[<-lZ];exact(ad4 nn r).symm
  have hrz:(((r:Nat):Int)==0)=ce:=by simp;omega
  have aiN:((r:Nat):Int)≠0:=by omega
  have p1:wr.cell? ⟨ra,1,Z⟩=F (A G 0):=a1;have fr1:wr.frozen? ⟨ra,1,Z⟩=ce:=aax _ _ 1 _ _ hblk;have hs1:=aao wr ra 1 _ _ (A G ((m.aW:Nat):Int)) hblk
  have lV:cl ((wr.setCell ⟨ra,1,Z⟩ (A G ((m.aW:Nat):Int))).heap[w.heap.size]?=F (O #[A G 0,A G 0,U Z 0 0] 47 (0,0))):=by show _=_;rw[aaN wr ⟨ra,1,Z⟩ w.heap.size _ (by show w.heap.size≠ra;omega)];exact hres
  have cC:cl (ca w.heap.size w (wr.setCell ⟨ra,1,Z⟩ (A G ((m.aW:Nat):Int)))):=cI.setCell (p:=⟨ra,1,Z⟩) (aa1 KU) _
  have LV:cl (∀w5,Wr w.heap.size Z (wr.setCell ⟨ra,1,Z⟩ (A G ((m.aW:Nat):Int))) w5->SI w.heap.size w5 (U ao nn cap) m.at_):=by intro w5 h5;exact((hen.wr (Wr.aD wr 1 _) (acJ _)).wr h5 (by omega)).hi (by omega)
  have HZ2:=zq z2;clear ei hit hrun z1 z2 hkP hen hres hblk cI hat NH fT bu pA hs1 lZ;go_wp2_with (refine acs (by rfl) 47 (.tmp 2) (.tmp 94) (by rfl) w.heap.size _ rfl rfl 47 _ lV (by exact Tryz.gH) (by rfl) (by simp[Value.oneCell']) ?_);refine aaD (abF rfl _ _ w.heap.size 47 _ _ _ rfl (aec _ _ _ _ _ _ lV) fi rfl (by kernel_rfl)) rfl ?_;refine⟨U ao nn cap,by rw[HZ2.o],?_,aeu cC (aab _) _⟩;refine LV.o _ ⟨rfl,rfl,rfl,?_,fun q _ hq _=>setRow_other _ _ _ _ hq⟩;rw[size_setRow];exact aab _
def KF (B:Nat)(w:de)(v:da)(ks:List Int):Prop:=KA w v ks/\ ∀k,v.ownBlock=F k->B<=k/\k<w.heap.size
theorem KA.wr {R:Nat}(h:KA w v ks)(hw:Wr R Z w w')(hR:v.ownBlock≠F R):KA w' v ks:=by obtain⟨ao,E,rfl,I,J,K⟩:=h;refine⟨ao,E,rfl,I,J,fun j k hj=> ?_⟩;obtain⟨g,o,rfl,H,bi⟩:=K j k hj;exact⟨g,o,rfl,aal H hw.size,(abe (hw.block g H (fun e=>hR (by rw[<-e];rfl)) (by simp))).trans bi⟩
theorem KF.dh (h:w.ownsRow B 3 1 v n (ks.map fun k=>Value.int G k))(hn:n=ks.length):KF B w v ks:=by subst hn;obtain⟨ao,E,rfl,H,I,J⟩:=Qj h;refine⟨⟨ao,E,rfl,H,I,fun i x hx=> ?_⟩,fun k hk=>h.lt k hk⟩;have K:=(aaf.1 hx).1;obtain⟨g,rfl,-,a2,a3⟩:=J (by omega);refine⟨g,0,rfl,a2,?_⟩;rw[aaX,a3 i (by omega)];simp[hx]
theorem Kw {ops:Array Oper}{rest:List Oper}{o:Oper}{a:Act}{Q:Exit->Act->de->Prop}(hgd:o.guard=Z)(s x:Operand)
  (ho:o.op=.call {callee:=.builtin .append,args:= #[s,x],argTypes:= #[41,41]}) (H:Nat) (hs:a.eval s=U (F ⟨H,0,Z⟩) 0 0) (hH:w.heap[H]?=F (O #[] 3 (0,0)))
  (v:da) (ks:List Int) (hx:a.eval x=v) (hr:KA w v ks) (hl:ks.length<=1073741824)
  (h:∀w' uo ep,cl (KF H w' (U uo ks.length ep) ks)->cl (ca H w w')->wpList co ops Q rest (a.put o.dst (U uo ks.length ep)) w'):wpList co ops Q (o::rest) a w:=by
 have E:=(aah.1 hH).1;obtain⟨ao,aE,rfl,a7,a8,T⟩:=hr;by_cases h0:ks=[]
 ·subst h0
  refine wpList_plain hgd fun K hK=> ?_;unfold Oper.wp execOp;simp only[ho,resolve,invoke,builtin,aes,aet,acX,adw,abq,abX,hs,hx,aa5,Qqx];exact hK _ _ (h w (F ⟨H,0,Z⟩) 0 ⟨⟨_,_,rfl,aab _,by unfold maxLen;omega,fun j k hj=>by simp at hj⟩,fun k hk=>by cases hk;exact⟨aab _,E⟩⟩ (aaw _ _))
 have bi:0<ks.length:=abm.2 h0;obtain⟨x0,am⟩:∃x0,ks[0]?=F x0:=⟨_,aad bi⟩;obtain⟨g,o',rfl,-,-⟩:=T 0 x0 am;obtain⟨i0,hi,a0,a1,a2⟩:=aa0 Tryz.df
 refine abk w hgd s x 41 ho H 3 i0 (A G 0) 1 8 eg hi a0 a1 a2 rfl (by omega) (U (F ⟨H,0,Z⟩) 0 0) 0 [] hs
  ⟨rfl,.inr ⟨H,0,#[],rfl,aab _,hH,aab _,by unfold maxLen;omega,rfl,rfl⟩⟩ ⟨g,o',Z⟩ ks.length aE (ks.map fun k=>Value.int G k) hx (by simp) (fun j u hj=> ?_) (fun u hu=> ?_) bi (by unfold maxLen;omega) (by omega) (aa1 E) w.heap.size rfl ?_
 ·simp only[aa9,abD]at hj
  obtain⟨y,hy,rfl⟩:=hj;obtain⟨g',o'',e,-,hc⟩:=T j y hy
  cases e
  rw[Jk];exact hc
 ·simp only[abw]at hu
  obtain⟨y,-,rfl⟩:=hu;rfl
 intro gg cap' w' I J a6 a9;rw[aaX,abv]at I;rw[aaX];exact h w' _ _ (KF.dh I rfl) (aaF (aaw _ _) J (aa1 E) (fun q hq=>by cases hq;exact aab _))
def rC (w:de)(q n:Nat)(fs:List (List Int))(i:Nat):Prop:=∃cur:Array da,w.heap[q]?=F (O cur 41 (0,0))/\cur.size=n/\ ∀j ks,j<i->fs[j]?=F ks-> ∃u,cur[j]?=F u/\KA w u ks/\u.ownBlock≠F q
theorem rC.lt {fs:List (List Int)}(h:rC w q n fs i):q<w.heap.size:=by obtain⟨H,E,-⟩:=h;exact(aah.1 E).1
theorem rC.below {fs:List (List Int)}(h:rC w q n fs i)(hb:ca w.heap.size w w'):rC w' q n fs i:=by obtain⟨E,H,I,J⟩:=h;refine⟨E,(hb.block q (aah.1 H).1).trans H,I,fun j p hj hp=> ?_⟩;obtain⟨u,a1,a2,a3⟩:=J j p hj hp;exact⟨u,a1,a2.below hb,a3⟩
theorem rC.set {fs:List (List Int)}(h:rC w q n fs i)(hi:i<n)(hx:fs[i]?=F ks)(hu:KA w u ks)(hq:u.ownBlock≠F q):rC (w.setCell ⟨q,i,Z⟩ u) q n fs (i+1):=by
 obtain⟨K,H,I,J⟩:=h;have s0:=aao w q i _ 41 u H;have E:Wr q Z w (w.setCell ⟨q,i,Z⟩ u):=Wr.aD w _ _;refine⟨_,s0,by simp[I],fun j p hj hp=> ?_⟩;by_cases hji:j=i
 ·subst hji
  rw[hx]at hp;cases hp;exact⟨u,by simp[abJ];omega,hu.wr E hq,hq⟩
 obtain⟨u',a1,a2,a3⟩:=J j p (by omega) hp;exact⟨u',by rw[<-a1,abJ,if_neg (fun e=>hji e.symm)],a2.wr E a3,a3⟩
theorem rC.TH {fs:List (List Int)}(h:rC w q n fs fs.length)(m:Nat)(hm:fs.length<=m)(hmx:m<=maxLen):ml w (U (F ⟨q,0,Z⟩) fs.length m) fs:=by have I:=h.lt;obtain⟨J,E,K,H⟩:=h;refine⟨_,_,rfl,hm,hmx,fun h0=>⟨q,0,rfl,I,fun j hj=> ?_⟩⟩;obtain⟨u,a1,a2,-⟩:=H j _ hj (aad hj);exact⟨u,by rw[aaX,aaj _ _ _ _ _ _ E];exact a1,_,aad hj,a2⟩
theorem Tryz.qV:(Tryz.prog.info? 41).map (fun i=>(i.zero,i.size,i.bytes))=F (F (U Z 0 0),1,24):=by kernel_rfl
theorem Eh (fs:List (List Int))(hv:ml w v fs)(hn:fs.length<=1073741824)(hl:∀ks∈fs,ks.length<=1073741824):dq co 33 #[v] w fun e w'=> ∃u,e=c9 u/\ml w' u fs/\ca w.heap.size w w':=by
 have HV:=zq hv;obtain⟨ao,cap,rfl,h1,h2,h3⟩:=hv;obtain⟨n,bu⟩:=xq fs.length;rw[<-bu]at h1 hn h3 ⊢;have bw:=zq bu;have HL:=zq hl;have H3:=zq h3;have fA:=run_make_row' (P:=co) 38 41 (U Z 0 0) 24 eS Tryz.qV rfl G G n (by omega) (by omega);clear hl bu h2 h3;go_enter func33,ntmps33;go_wp2_with fail;have hst:rC (w.alloc (O (madeCells #[U Z 0 0] n) 41)) w.heap.size n fs 0:=⟨_,aap w _,by simp[madeCells],fun j p hj _=>absurd hj (adM _)⟩;have HST:=zq hst;have aK:=zq (Qq w (O (madeCells #[U Z 0 0] n) 41));clear hst;obtain⟨q,hq⟩:=xq w.heap.size;rw[<-hq]at HST ⊢;have HQ:=zq hq;clear hq;go_loopw [4] (fun iv wr=> ∃i:Nat,iv=A G i/\i<=n/\rC wr q n fs i/\ca w.heap.size w wr) (fun iv _=>n-(intOf iv).toNat)
 case atStart=>exact⟨0,rfl,aat _,HST,aK⟩
 clear HST aK
 case round=>
  obtain⟨i,rfl,ir,hst,hbl⟩:=hrel;have HST:=zq hst;have aL:=zq hbl;have rX:=hbl.size;have jX:=hst.lt;clear hbl;by_cases hlt:i<n
  ·obtain⟨ga,o,rfl,mX,hc⟩:=H3.o (by omega)
   obtain⟨u,e0,ks,hk,hka⟩:=hc i hlt;replace e0:=(aL.o.cell (p:=⟨ga,o+i,Z⟩) mX).trans e0;replace hka:=hka.below aL;have px:=HL.o ks (aai hk);have hka':=hka;obtain⟨so,cG,rfl,-,-,-⟩:=hka';have HK:=zq hk;have yO:=zq (hka.below (Qq wr (O #[] 3)));have dR:(0:Int)<=(i:Int):=aaJ _
   have cB:(i:Int)<(n:Int):=by omega
   have k0:=Qx (Qq wr (O #[] 3)) e0;have cT:=zq (Qq wr (O #[] 3));have PV:=zq (aap wr (O #[] 3));obtain⟨cur,ix,l7,-⟩:=hst;have jR:=zq ix;have cQ:=zq l7;clear hc hk hka ix l7;go_wp2_with (at_builtin;refine Kw rfl _ _ rfl wr.heap.size rfl PV.o (U so ks.length cG) ks rfl yO.o px ?_);intro w2 uo ep k1 b2;have hb2:ca wr.heap.size wr w2:=cT.o.trans b2.o;have ym:=(hb2.block q jX).trans jR.o;have f0:w2.frozen? ⟨q,i,Z⟩=ce:=aax _ _ _ _ _ ym;obtain⟨y,hy⟩:∃y,w2.cell? ⟨q,i,Z⟩=F y:=⟨_,by rw[aaj _ _ _ _ _ _ ym,ach (by rw[cQ.o];exact hlt)]⟩;have h9:rC (w2.setCell ⟨q,i,Z⟩ (U uo ks.length ep)) q n fs (i+1):=(HST.o.below hb2).set hlt HK.o k1.o.1 (fun e=>by have:=(k1.o.2 q e).1;omega);have H9:=zq h9;have qi:cl (ca w.heap.size w (w2.setCell ⟨q,i,Z⟩ (U uo ks.length ep))):=(aL.o.trans (hb2.mono rX)).setCell (p:=⟨q,i,Z⟩) (by rw[HQ.o];exact aab _) _;clear h9 hb2 ym e0 k0;go_wp2_with fail;have aq:rC (w2.setCell ⟨q,i,Z⟩ (U uo ks.length ep)) q n fs (i+1)/\ca w.heap.size w (w2.setCell ⟨q,i,Z⟩ (U uo ks.length ep)):=⟨H9.o,qi.o⟩
   exact⟨⟨i+1,by go_num,by omega,aq⟩,by simp[intOf]<;>omega⟩
  have dD:i=n:=by omega
  rw[dD,bw.o]at HST;have kE:=HST.o.TH n (by rw[bw.o];exact aab _) (by unfold maxLen;omega);rw[<-bw.o]at kE;have tL:=zq kE;clear hst dD kE;go_wp2_with fail;go_ret;exact⟨_,rfl,tL,aL⟩
theorem Ag {l:List (Bool×List Nat)}(hv:qa w v l)(hu:qa w u l)(hn:l.length<=1073741824):dq co 22 #[v,u] w fun e w'=>e=c9 (dj dl)/\ca w.heap.size w w':=by
 obtain⟨ao,cap,rfl,-,-,h3⟩:=hv;obtain⟨bo,bn,rfl,-,-,g3⟩:=hu;obtain⟨n,bu⟩:=xq l.length;rw[<-bu]at hn ⊢;have bw:=zq bu;have H3:=zq h3;have G3:=zq g3;clear h3 g3 bu;go_enter func22,ntmps22;go_wp2_with fail;go_loopw [5] (fun iv wr=> ∃i:Nat,iv=A G i/\i<=n/\ca w.heap.size w wr) (fun iv _=>n-(intOf iv).toNat)
 case atStart=>exact⟨0,rfl,aat _,aaw _ _⟩
 case round=>
  obtain⟨i,rfl,ir,hbl⟩:=hrel;have aL:=zq hbl;have rX:=hbl.size;by_cases hlt:i<n
  ·obtain⟨e,he⟩:∃e,l[i]?=F e:=⟨_,aad (by rw[<-bw.o];exact hlt)⟩
   obtain⟨b,xs⟩:=e;obtain⟨ga,o,rfl,mX,hc⟩:=H3.o (by rw[<-bw.o];omega);obtain⟨gb,o2,rfl,hgb,hc2⟩:=G3.o (by rw[<-bw.o];omega);obtain⟨m,e0,e1,bQ⟩:=hc i _ he;obtain⟨m2,d0,d1,cO⟩:=hc2 i _ he;replace e0:=(hbl.cell (p:=⟨ga,o+i*2,Z⟩) mX).trans e0;replace e1:=(hbl.cell (p:=⟨ga,o+i*2+1,Z⟩) mX).trans e1;replace d0:=(hbl.cell (p:=⟨gb,o2+i*2,Z⟩) hgb).trans d0;replace d1:=(hbl.cell (p:=⟨gb,o2+i*2+1,Z⟩) hgb).trans d1;replace bQ:=(bQ.below hbl).below (aaw wr.heap.size wr).drew;replace cO:=(cO.below hbl).below (aaw wr.heap.size wr).drew;obtain⟨mo,gI,rfl,-,-,-,-⟩:=bQ.2;obtain⟨EW,jZ,rfl,-,-,-,-⟩:=cO.2;simp only at e0 e1 d0 d1 bQ cO;have gj:=zq bQ;have ve:=zq cO;have dR:(0:Int)<=(i:Int):=aaJ _
   have cB:(i:Int)<(n:Int):=by omega
   have lh:(b !=b)=ce:=by cases b<;>rfl
   clear he hc hc2 bQ cO hbl;go_wp2_with fail
   go_region_held3 (fun w'=>w'.cell? ⟨ga,o+i*2,Z⟩=F (dj b)/\w'.cell? ⟨ga,o+i*2+1,Z⟩=F (U mo xs.length gI)/\w'.cell? ⟨gb,o2+i*2,Z⟩=F (dj b)/\w'.cell? ⟨gb,o2+i*2+1,Z⟩=F (U EW xs.length jZ))
    (first
     |go_keep
     |exact⟨Qx b2 e0,Qx b2 e1,Qx b2 d0,Qx b2 d1⟩)
    ((go_at_call 36;refine(Qpz gj.o ve.o).mono ?_;rintro e w2 ⟨rfl,b2⟩))
   have aI:=zq (aL.o.drew.trans (b2.mono rX));clear b2 e0 e1 d0 d1;go_wp2_with fail;have aq:ca w.heap.size w w2:=aI.o
   exact⟨⟨i+1,by go_num,by omega,aq⟩,by simp[intOf]<;>omega⟩
  clear hbl;go_wp2_with fail;go_ret;exact⟨rfl,aL⟩
theorem Er {fs:List (List Int)}(hv:ml w v fs)(hu:ml w u fs)(hn:fs.length<=1073741824)(hl:∀ks∈fs,ks.length<=1073741824):dq co 23 #[v,u] w fun e w'=>e=c9 (dj dl)/\ca w.heap.size w w':=by
 obtain⟨ao,cap,rfl,-,-,h3⟩:=hv;obtain⟨bo,bn,rfl,-,-,g3⟩:=hu;obtain⟨n,bu⟩:=xq fs.length;rw[<-bu]at hn h3 g3 ⊢;have bw:=zq bu;have HL:=zq hl;have H3:=zq h3;have G3:=zq g3;clear h3 g3 bu hl;go_enter func23,ntmps23;go_wp2_with fail;go_loopw [5] (fun iv wr=> ∃i:Nat,iv=A G i/\i<=n/\ca w.heap.size w wr) (fun iv _=>n-(intOf iv).toNat)
 case atStart=>exact⟨0,rfl,aat _,aaw _ _⟩
 case round=>
  obtain⟨i,rfl,ir,hbl⟩:=hrel;obtain⟨wo,rfl⟩:=xq wr;have aL:=zq hbl;have rX:=hbl.size;by_cases hlt:i<n
  ·obtain⟨ga,o,rfl,mX,hc⟩:=H3.o (by omega)
   obtain⟨gb,o2,rfl,hgb,hc2⟩:=G3.o (by omega);obtain⟨m,e0,ks,hk,hka⟩:=hc i hlt;obtain⟨m2,d0,ks2,hk2,qN⟩:=hc2 i hlt;rw[hk]at hk2;cases hk2;have px:=HL.o ks (aai hk);replace e0:=(hbl.cell (p:=⟨ga,o+i,Z⟩) mX).trans e0;replace d0:=(hbl.cell (p:=⟨gb,o2+i,Z⟩) hgb).trans d0;replace hka:=hka.below hbl;replace qN:=qN.below hbl;obtain⟨mo,gI,rfl,-,-,hs3⟩:=hka;obtain⟨EW,jZ,rfl,-,-,xe⟩:=qN;obtain⟨kl,fU⟩:=xq ks.length;rw[<-fU]at e0 d0 px;have HKK:=zq fU;have ie:=zq hs3;have qA:=zq xe;have E0:=zq e0;have D0:=zq d0;have dR:(0:Int)<=(i:Int):=aaJ _
   have cB:(i:Int)<(n:Int):=by omega
   clear hc hc2 hk fU hs3 xe hbl;go_wp2_with fail;go_region;go_wp2_with fail;clear e0 d0;go_loopw [6] (fun jv wx=> ∃j:Nat,jv=A G j/\j<=kl/\ca wo.heap.size wo wx) (fun jv _=>kl-(intOf jv).toNat)
   case atStart=>exact⟨0,rfl,aat _,(aaw _ _).drew⟩
   case round=>
    obtain⟨j,rfl,sZ,fe⟩:=hrel;have bH:=zq fe;have e0:=Qx fe E0;have d0:=Qx fe D0;by_cases zU:j<kl
    ·obtain⟨k,hk⟩:∃k,ks[j]?=F k:=⟨_,aad (by rw[<-HKK.o];exact zU)⟩
     obtain⟨gk,ok,rfl,hgk,c0⟩:=ie.o j k hk;obtain⟨gk2,ok2,rfl,ah7,c1⟩:=qA.o j k hk;replace c0:=Qx fe c0;replace c1:=Qx fe c1;have yf:(0:Int)<=(j:Int):=aaJ _
     have wG:(j:Int)<(kl:Int):=by omega
     have fU:(k !=k)=ce:=by simp
     clear hk fe;go_wp2_with fail;go_region;go_wp2_with fail;have aq:ca wo.heap.size wo wr.drew:=bH.o.drew
     exact⟨⟨j+1,by go_num,by omega,aq⟩,by simp[intOf]<;>omega⟩
    clear fe;go_wp2_with fail;have aq:ca w.heap.size w wr:=aL.o.trans (bH.o.mono rX)
    exact⟨⟨i+1,by go_num,by omega,aq⟩,by simp[intOf]<;>omega⟩
  clear hbl;go_wp2_with fail;go_ret;exact⟨rfl,aL⟩
theorem Qc4 (bm:ok xs):dH xs<=63↔val xs<=9223372036854775807:=by
 rcases hs:(strip xs).length with _|_|m
 ·have h0:val xs=0:=by rw[<-ay,aau hs];rfl
  have E:dH xs=0:=by unfold dH;rw[if_pos hs]
  omega
 ·obtain⟨d,H,J⟩:=bt xs 0 hs
  have K:=bJ bm d (aai H)
  have aE:val xs=d:=by rw[<-ay];exact Au hs H
  have E:dH xs=Lib.bitLen d:=by unfold dH;rw[if_neg (by omega),hs,abc,H];simp
  obtain⟨bi,h2,T,h4⟩:=Uz (abr J) K;rw[aE,E];constructor
  ·intro h
   have h5:2^Lib.bitLen d<=2^63:=aa6 (by decide) h
   have e:(2:Nat)^63=9223372036854775808:=by decide
   omega
  intro h;apply acI;intro h'
  have I:Lib.bitLen d=64:=by omega
  rw[I]at T
  have e:(2:Nat)^(64-1)=9223372036854775808:=by decide
  omega
 have hg:=Ej (l:=xs) (m:=m+1) hs
 have E:64<=dH xs:=by unfold dH;rw[if_neg (by omega),hs];omega
 have bi:BB<=BB^(m+1):=by rw[abf];exact Nat.le_mul_of_pos_left _ (abC aC)
 have am:BB=18446744073709551616:=rfl
 constructor<;>intro h<;>omega
theorem Quh (h:xs[0]?=F x)(hv:val xs<=9223372036854775807):x=val xs:=by
 cases xs with
 |nil=>simp at h
 |cons a t=>
  simp at h;subst h;have H:BB=18446744073709551616:=rfl;simp only[aw.val]at hv ⊢;rcases abY (val t) with E|E
  ·rw[E];omega
  have:BB*1<=BB*val t:=aaT _ E;omega
def iB (l:List (List Nat)):Prop:=∀s∈l,∀n∈s,n<=9223372036854775807
instance (l:List (List Nat)):Decidable (iB l):=by unfold iB;infer_instance
def Ya (s:List Nat):List Int:=s.map Int.ofNat
def eT (t:Bytes):Option (List (List Int)):=
 match aj.Zb t with
 |none=>Z
 |some l=>if iB l then F (l.map Ya) else Z
def Zx (t:Bytes)(w:de)(e:Ending)(w':de):Prop:=ca w.heap.size w w'/\match eT t with
 |none=>e=c9 (du #[U Z 0 0,A G 7])
 |some fs=> ∃v,e=c9 (du #[v,A G 0])/\ml w' v fs
theorem Zx.none {t:Bytes}{e:Ending}(h:eT t=.none)(hb:ca w.heap.size w w')(he:e=c9 (du #[U .none 0 0,A G 7])):Zx t w e w':=by refine⟨hb,?_⟩;rw[h];exact he
theorem Zx.some {t:Bytes}{e:Ending}{fs:List (List Int)}(h:eT t=.some fs)(hb:ca w.heap.size w w')(v:da)(he:e=c9 (du #[v,A G 0]))(hf:ml w' v fs):Zx t w e w':=by refine⟨hb,?_⟩;rw[h];exact⟨v,he,hf⟩
theorem Ke {t:Bytes}{l:List (List Nat)}(h:aj.Zb t=F l):l.length<=t.length/\ ∀s∈l,s.length<=t.length:=by
 unfold aj.Zb at h;split at h
 ·cases h
 rename_i ts I;split at h
 ·rename_i l' s' J
  cases h
  obtain⟨a,s,E,H⟩:=aj.Xx J;have:=aj.Qku H
  cases this
  obtain⟨c1,c2⟩:=Ep E;have c3:=aar (Tn _ _ _ I).1 (Yk t);change xJ l<=ts.length at c1;change l.length<=ts.length at c2;exact⟨by omega,fun s hs=>by have:=Qwy hs;omega⟩
 cases h
theorem KA.kept {row:Option Nat}(h:KA w v ks)(hg:w.grownBy w' row)(hne:∀q,v.ownBlock=F q->row≠F q):KA w' v ks:=by obtain⟨ao,H,rfl,I,J,K⟩:=h;refine⟨ao,H,rfl,I,J,fun j k hj=> ?_⟩;obtain⟨g,o,rfl,E,bi⟩:=K j k hj;have T:=hne g rfl;exact⟨g,o,rfl,aal E hg.size,(abe (hg.block g E (fun e=>T e.symm))).trans bi⟩
structure Iy (w:de) (B:Nat) (lv:da) (bc:List da) (acc:List (List Int)):Prop where
 own:w.ownsRow B 41 1 lv bc.length bc
 len:bc.length=acc.length
 el:∀(j:Nat) (sv:da) (s:List Int),bc[j]?=F sv->acc[j]?=F s->KA w sv s/\ ∀q,sv.ownBlock=F q->q<w.heap.size/\lv.ownBlock≠F q
theorem Iy.below {acc:List (List Int)}(h:Iy w B lv bc acc)(hb:ca w.heap.size w w'):Iy w' B lv bc acc:=
 ⟨Qy h.own hb (aab _),h.len,fun j sv s h1 h2=>⟨(h.el j sv s h1 h2).1.below hb,fun q hq=>⟨aal ((h.el j sv s h1 h2).2 q hq).1 hb.size,((h.el j sv s h1 h2).2 q hq).2⟩⟩⟩
theorem Iy.push {acc:List (List Int)}(h:Iy w B lv bc acc){s:List Int}(hs:KA w sv s)(hsq:∀q,sv.ownBlock=F q->q<w.heap.size/\lv.ownBlock≠F q)
  (hown:w'.ownsRow B 41 1 (U (F ⟨g,0,Z⟩) N cap) N (bc++[sv])) (hN:N=bc.length+1) (hg:w.grownBy w' lv.ownBlock) (hat:lv.ownBlock=F g\/g=w.heap.size):
  Iy w' B (U (F ⟨g,0,Z⟩) N cap) (bc++[sv]) (acc++[s]):=by
 subst hN
 have K:(bc++[sv]).length=bc.length+1:=by simp
 have H:∀(x:da) (t:List Int),KA w x t->(∀q,x.ownBlock=F q->q<w.heap.size/\lv.ownBlock≠F q)->KA w' x t/\ ∀q,x.ownBlock=F q->q<w'.heap.size/\(Value.ownBlock (U (F ⟨g,0,Z⟩) (bc.length+1) cap))≠F q:=by
  intro x t E J;refine⟨E.kept hg (fun q h1=>(J q h1).2),fun q h1=>⟨aal (J q h1).1 hg.size,fun e=> ?_⟩⟩
  cases e
  rcases hat with bi|bi
  ·exact(J g h1).2 bi
  have:=(J g h1).1;omega
 refine⟨by rw[K];exact hown,by rw[K,h.len];simp,?_⟩;intro j x t E I;by_cases hlt:j<bc.length
 ·rw[aaH hlt]at E
  rw[aaH (by rw[<-h.len];exact hlt)]at I;exact H x t (h.el j x t E I).1 (h.el j x t E I).2
 have T:j=bc.length:=by have:=(aaf.1 E).1;rw[K]at this;omega
 subst T;rw[aaK (aab _)]at E;rw[h.len,aaK (aab _)]at I;simp at E I;subst E;subst I;exact H _ _ hs hsq
theorem Iy.TH {acc:List (List Int)}(h:Iy w B lv bc acc):ml w lv acc:=by
 refine Sl.jL h.own h.len fun j sv hj=> ?_
 have E:j<acc.length:=by rw[<-h.len];exact(aaf.1 hj).1
 exact⟨acc[j],aad E,(h.el j sv acc[j] hj (aad E)).1⟩
def Xl (s:List Nat):List da:=s.map fun n=>Value.int G (n:Nat)
def SN (n:Nat)(l:List (List Nat))(w:de)(lv iv:da)(wr:de):Prop:=∃(i:Nat) (bc:List da),iv=A G i/\i<=n/\Iy wr w.heap.size lv bc ((l.map Ya).take i)/\ca w.heap.size w wr/\iB (l.take i)
def SM (m:Nat)(s:List Nat)(wo:de)(sv jv:da)(wr:de):Prop:=∃j:Nat,jv=A G (j:Nat)/\j<=m/\wr.ownsRow wo.heap.size 3 1 sv j (Xl (s.take j))/\ca wo.heap.size wo wr/\ ∀x∈s.take j,x<=9223372036854775807
theorem Aj (h:s[j]?=F x):Xl (s.take (j+1))=Xl (s.take j)++[Value.int G x]:=by rw[aaI,h];simp[Xl]
theorem Qfk (h:s[j]?=F x)(ho:∀y∈s.take j,y<=9223372036854775807)(hx:x<=9223372036854775807):∀y∈s.take (j+1),y<=9223372036854775807:=by
 intro y H;rw[aaI,h]at H;rcases aaP.1 H with E|E
 ·exact ho y E
 simp at E;rw[E];exact hx
theorem Qbr {l:List (List Nat)}(h:l[i]?=F s)(ho:iB (l.take i))(hx:∀x∈s,x<=9223372036854775807):iB (l.take (i+1)):=by
 intro y H;rw[aaI,h]at H;rcases aaP.1 H with E|E
 ·exact ho y E
 simp at E;rw[E];exact hx
theorem Qm2:Xl s=(Ya s).map fun k=>Value.int G k:=by unfold Xl Ya;rw[ab2];rfl
theorem Hg (t:Bytes)(ht:t.length<=67108864)(hx:Lx w)(hs:SG w)(hsz:4<w.heap.size):dq co 21 #[db ⟨t.toArray⟩] w (Zx t w):=by
 have HC:=zq (Hy t ht hx hs hsz);obtain⟨T,hT⟩:=xq (⟨t.toArray⟩:ByteArray);rw[<-hT]at HC ⊢;have HT:=zq ht;obtain⟨i0,hi,hz0,hz1,hz2⟩:=aa0 Tryz.df;obtain⟨j0,hj,cZ,eu,hk2⟩:=aa0 Tryz.qV;clear hx hs hsz hT ht;go_enter func21,ntmps21;go_wp2_with fail;refine HC.o.mono ?_;rintro e w1 hn;unfold Gx at hn
 cases hR:aj.Zb t with
 |none=>
  rw[hR]at hn;obtain⟨ao,n,cap,rfl,hb⟩:=hn
  have HV:cl (eT t=Z):=by show _=_;unfold eT;rw[hR]
  have HB:=zq hb;clear hb hR;go_wp2_with fail;go_ret2
  exact Zx.none HV HB rfl
 |some l=>
  rw[hR]at hn;obtain⟨lv,bc,rfl,hb,vW⟩:=hn
  have HV:cl (eT t=if iB l then F (l.map Ya) else Z):=by show _=_;unfold eT;rw[hR]
  obtain⟨hc1,hc2⟩:=Ke hR;obtain⟨ao,cap,rfl,h1,h2,h3⟩:=vW.crd;obtain⟨n,bu⟩:=xq l.length;rw[<-bu]at h1 h3 hc1 ⊢;have hn:n<=67108864:=aar hc1 HT;have bw:=zq bu;have HC2:cl (∀s∈l,s.length<=67108864):=fun s hs=>aar (hc2 s hs) HT;have H3:=zq h3;have HB:=zq hb;clear hb hR vW hc1 hc2 bu h3 HC;go_wp2_with (at_make;refine adO _ rfl _ _ 38 rfl w1.heap.size 41 j0 (U Z 0 0) 1 eS hj cZ eu _ _ _ n rfl rfl rfl (by rw[hk2];omega) (by unfold maxLen;omega) (aab _) ?_);intro w2 hown2 hgrow2;have hb2:ca w1.heap.size w1 w2:=aaF (aaw _ _) hgrow2 (aab _) (fun k hk=>by cases hk);have HST:cl (SN n l w1 (U (F ⟨w1.heap.size,0,Z⟩) 0 n) (A G 0) w2):=⟨0,[],rfl,aat _,⟨hown2,rfl,fun j sv s h=>by simp at h⟩,hb2,fun s hs=>by simp at hs⟩;clear hb2 hown2 hgrow2;go_wp2_with fail;go_loopw [6,25] (fun lv iv wr=>SN n l w1 lv iv wr) (fun _ iv _=>(n-intOf iv).toNat)
  case atStart=>exact HST.o
  clear HST
  case round=>
   obtain⟨i,BZ,rfl,ir,vW,hbl,bm⟩:=hrel;have qp:=zq vW;have aL:=zq hbl;have bS:=zq bm;have hz1':=hbl.size;clear vW hbl bm;obtain⟨wo,rfl⟩:=xq wr;by_cases hlt:i<n
   ·obtain⟨g,o,rfl,hg,hcell⟩:=H3.o (by omega)
    obtain⟨u,c0,s,qT,hka⟩:=hcell i hlt;have d0:wo.cell? ⟨g,o+i,Z⟩=F u:=(aL.o.cell (p:=⟨g,o+i,Z⟩) hg).trans c0;have qN:=hka.below aL;obtain⟨so,cG,rfl,s1,s2,s3⟩:=qN;have eW:=HC2.o s (aai qT);have p7:=zq qT;obtain⟨m,ei⟩:=xq s.length;rw[<-ei]at s1 eW d0 s3;have ie:=zq s3;have ct:=zq ei;clear c0 qT hcell s3 ei hka;go_wp2_with (at_make;refine adO _ rfl _ _ 41 rfl wo.heap.size 3 i0 (A G 0) 1 eg hi hz0 hz1 _ _ _ m rfl rfl rfl (by rw[hz2];omega) (by unfold maxLen;omega) (aab _) ?_);intro w3 aB ax;have hb3:ca wo.heap.size wo w3:=aaF (aaw _ _) ax (aab _) (fun k hk=>by cases hk);have eP:cl (SM m s wo (U (F ⟨wo.heap.size,0,Z⟩) 0 m) (A G 0) w3):=⟨0,rfl,aat _,aB,hb3,fun x hx=>by simp at hx⟩;clear aB ax hb3;go_wp2_with fail;go_loopw [9,34] (fun sv jv wx=>SM m s wo sv jv wx) (fun _ jv _=>(m-intOf jv).toNat)
    case atStart=>exact eP.o
    clear eP
    case round=>
     obtain⟨j,rfl,hjm,hrow,fe,dc⟩:=hrel;have nH:=zq hrow;have bH:=zq fe;have eY:=zq dc;have hz2':=fe.size;clear hrow fe dc;by_cases zU:j<m
     ·obtain⟨g2,o2,rfl,hg2,lr⟩:=ie.o (by omega)
      obtain⟨mv,e0,x,hx,XP⟩:=lr j zU;have f0:wr.cell? ⟨g2,o2+j,Z⟩=F mv:=(bH.o.cell (p:=⟨g2,o2+j,Z⟩) hg2).trans e0;obtain⟨xs,r1,r2,r3⟩:=XP.below bH;have QX:=zq r1;obtain⟨-,xo,aae,rfl,q1,q2,q3,q4⟩:=r1;have HX:=zq hx;have vt:=zq r2;have tR:=zq q4;have FC:=zq (Qc4 q3);obtain⟨xl,fD⟩:=xq xs.length;rw[<-fD]at q1 r3 f0 QX;have CZ:=zq fD;obtain⟨b,lh⟩:=xq (dH xs);rw[<-lh]at FC;have eL:=zq lh;clear e0 hx XP q3 q4 r2 fD lh lr;go_wp2_with fail;refine(J8 QX (by rw[<-CZ.o];omega)).mono ?_;rintro e w' ⟨rfl,rfl⟩;rw[<-eL.o];by_cases cN:63<b
      ·have hb1:(63:Int)<(b:Int):=by omega
       have eK:cl (eT t=Z):=by show _=_;rw[HV.o,if_neg];intro h;have h1:=h s (aai p7) x (aai HX);rw[<-vt.o]at h1;have:=FC.o.2 h1;omega
       go_wp2_with fail;go_ret2;exact Zx.none eK (HB.o.trans ((aL.o.trans (bH.o.mono hz1')).mono HB.o.size)) rfl
      have hb1: ¬(63:Int)<(b:Int):=by omega
      have ZJ:x<=9223372036854775807:=by rw[<-vt.o];exact FC.o.1 (by omega)
      have ad5:=zq ZJ;have lg:(wr.alloc (O #[A G x] 3)).ownsRow wo.heap.size 3 1 u9 j (Xl (s.take j)):=Qy nH (Qq wr _) (aab _);have HOW:=zq lg;have cT:=zq (bH.o.trans ((Qq wr (O #[A G x] 3)).mono hz2'))
      have W0:IntKind.i64.wrap (x:Int)=(x:Int):=by rw[IntKind.wrap_i64];omega
      clear lg cN;by_cases hx0:xl=0
      case' pos=>
       have ZM:x=0:=by have hnil:xs=[]:=aau (by rw[<-CZ.o];exact hx0);rw[<-vt.o,hnil];rfl
       subst ZM;subst hx0;go_wp2_with (at_builtin;refine abk _ rfl _ _ 41 rfl wo.heap.size 3 i0 (A G 0) 1 8 eg hi hz0 hz1 hz2 rfl (by omega) u9 j (Xl (s.take j)) rfl HOW.o ⟨wr.heap.size,0,Z⟩ 1 1 [A G (0:Nat)] rfl rfl (ar.Qg _ _ _ _ rfl) (by simp[Value.oneCell']) (by omega) (by unfold maxLen;omega) (by omega) (by simp;omega) (wr.heap.size+1) (by simp) ?_)
      case' neg=>
       have hxp:(0:Int)<(xl:Int):=by omega
       obtain⟨d,hd⟩:∃d,xs[0]?=F d:=⟨_,aad (by rw[<-CZ.o];omega)⟩
       have DX:d=x:=by rw[<-vt.o];exact Quh hd (by rw[vt.o];exact ZJ)
       subst DX;obtain⟨g5,o5,rfl,c5⟩:=tR.o 0 d hd;rw[aba]at c5;clear hd;go_wp2_with (at_builtin;refine abk _ rfl _ _ 41 rfl wo.heap.size 3 i0 (A G 0) 1 8 eg hi hz0 hz1 hz2 rfl (by omega) u9 j (Xl (s.take j)) rfl HOW.o ⟨wr.heap.size,0,Z⟩ 1 1 [A G d] rfl rfl (ar.Qg _ _ _ _ rfl) (by simp[Value.oneCell']) (by omega) (by unfold maxLen;omega) (by omega) (by simp;omega) (wr.heap.size+1) (by simp) ?_)
      all_goals
       intro gg ij w9 bT hgrow hat jH
       have HR9:cl (w9.ownsRow wo.heap.size 3 1 (U (F ⟨gg,0,Z⟩) (j+1) ij) (j+1) (Xl (s.take (j+1)))):=by show World.ownsRow _ _ _ _ _ _ _;rw[Aj HX.o];exact bT
       have qi:cl (ca wo.heap.size wo w9):=aaF cT hgrow cT.o.size (fun q hq=>(aaB nH q hq).1);have fH:=zq (Qfk HX eY ad5);clear bT hgrow hat jH;go_wp2_with fail;have aq:w9.ownsRow wo.heap.size 3 1 (U (F ⟨gg,0,Z⟩) (j+1) ij) (j+1) (Xl (s.take (j+1)))/\ca wo.heap.size wo w9/\ ∀x∈s.take (j+1),x<=9223372036854775807:=⟨HR9,qi,fH⟩
       exact⟨⟨j+1,by go_num,by omega,aq⟩,by simp[intOf]<;>omega⟩
     have jo:j=m:=by omega
     have bF:s.take j=s:=aam (by rw[jo];exact abT ct.o.symm);rw[bF]at nH eY
     have YG:s.length=j:=by rw[jo];exact ct.o.symm
     have HKF:=zq (KF.dh (ks:=Ya s) (by rw[<-Qm2];exact nH.o) (by unfold Ya;rw[aas];exact YG.symm));obtain⟨so',sc',qR,-⟩:=Qj nH;subst qR;have kP:=zq (Qq wr (O #[U so' j sc'] 41));have HIY:=zq ((qp.o.below bH).below kP);have acS:=zq (HKF.o.1.below kP)
     have HKQ:cl (∀q,(Value.ownBlock (U so' j sc'))=F q->q<(wr.alloc (O #[U so' j sc'] 41)).heap.size/\u6.ownBlock≠F q):=by intro q hq;have h1:=HKF.o.2 q hq;refine⟨by simp;omega,fun e=> ?_⟩;have:=(qp.o.own.lt q e).2;omega
     obtain⟨nx,gZ⟩:=xq BZ.length;have kV:=zq gZ
     have AA:nx<=67108864:=by rw[gZ,qp.o.len,aak];omega
     have lg:(wr.alloc (O #[U so' j sc'] 41)).ownsRow w1.heap.size 41 1 u6 nx BZ:=by rw[gZ];exact HIY.o.own
     have HOW:=zq lg;have cT:=zq ((aL.o.trans (bH.o.mono hz1')).trans (kP.o.mono (aL.o.trans (bH.o.mono hz1')).size));clear gZ lg bF YG jo;go_wp2_with (at_builtin;refine abk _ rfl _ _ 38 rfl w1.heap.size 41 j0 (U Z 0 0) 1 24 eS hj cZ eu hk2 rfl (by omega) u6 nx BZ rfl HOW.o ⟨wr.heap.size,0,Z⟩ 1 1 [U so' j sc'] rfl rfl (ar.Qg _ _ _ _ rfl) (by simp[Value.oneCell']) (by omega) (by unfold maxLen;omega) (by omega) (by simp;omega) (wr.heap.size+1) (by simp) ?_);intro gg ij w9 bT hgrow hat jH;have q1:=HIY.o.push acS.o HKQ.o bT (by rw[kV.o]) hgrow (by simpa using hat)
     have bF:(l.map Ya).take (i+1)=(l.map Ya).take i++[Ya s]:=by rw[aaI,aa9,p7.o];rfl
     rw[<-bF]at q1;have il:ca w1.heap.size w1 w9:=aaF cT hgrow cT.o.size (fun q hq=>(HIY.o.own.lt q hq).1);have jR:=zq q1;have cQ:=zq il;have fH:=zq (Qbr p7 bS eY);clear bT hgrow hat jH q1 bF il;go_wp2_with fail;have aq:Iy w9 w1.heap.size (U (F ⟨gg,0,Z⟩) (nx+1) ij) (BZ++[U so' j sc']) ((l.map Ya).take (i+1))/\ca w1.heap.size w1 w9/\iB (l.take (i+1)):=⟨jR,cQ,fH⟩
     exact⟨⟨i+1,_,by go_num,by omega,aq⟩,by simp[intOf]<;>omega⟩
   have dD:i=n:=by omega
   have bF:(l.map Ya).take i=l.map Ya:=aam (by rw[dD,aas];exact abT bw.o.symm);have xj:l.take i=l:=aam (by rw[dD];exact abT bw.o.symm);rw[bF]at qp;rw[xj]at bS
   have eX:cl (eT t=F (l.map Ya)):=by show _=_;rw[HV.o,if_pos bS.o]
   clear bF xj dD;go_wp2_with fail;go_ret2;exact Zx.some eX (HB.o.trans (aL.o.mono HB.o.size)) _ rfl qp.o.TH
open aj
def addN (acc:List (List Nat))(p:Bool)(n:Nat):List (List Nat):=if p then acc.dropLast++[acc.getLast?.getD []++[n]] else acc++[[n]]
theorem Ee (acc:List (List Nat))(x:List Nat)(n:Nat):addN (acc++[x]) dl n=acc++[x++[n]]:=by simp[addN]
def jm:List (List Nat)->Bool->List Tok->List (List Nat)
 |acc,_,[]=>acc
 |acc,p,(k,t,_)::ts=>if k=1 then jm (addN acc p (aj.Q7 t)) dl ts else jm acc ce ts
theorem Qkt {ts:List Tok}(h:Qh 1 ts=dl):jm acc p ts=jm (addN acc p (aj.Q7 (Qe ts))) dl ts.tail:=by
 match ts with
 | []=>cases h
 |(k,t,c)::ts=>simp[Qh]at h;simp[jm,h,Qe]
theorem G0 {ts:List Tok}{x:Bytes}(h:Qk x ts=dl):jm acc p ts=jm acc ce ts.tail:=by
 match ts with
 | []=>cases h
 |(k,t,c)::ts=>simp[Qk]at h;simp[jm,h.1]
theorem De {fin:Nat}{s:St}{r:Nat×St}(h:Qo fin s=F (.ok r)):Qh 1 s.ts=dl/\r=(aj.Q7 (Qe s.ts),s.bB):=by
 unfold Qo at h;split at h
 ·rename_i E;exact⟨E,Vj h⟩
 unfold dB at h;exact(Ub h).elim
theorem Qwh {fin:Nat}{x:Bytes}{s:St}{r:Unit×St}(h:want fin x s=F (.ok r)):Qk x s.ts=dl/\r.2=s.bB:=by
 unfold want at h;split at h
 ·rename_i E;exact⟨E,by rw[Vj h]⟩
 unfold dB at h;exact(Ub h).elim
theorem Hj (fin:Nat)(acc:List (List Nat)):∀(f:Nat) (cur:List Nat) (s:St) (r:List Nat×St),Yj fin f cur s=F (.ok r)->jm (acc++[cur]) dl s.ts=jm (acc++[r.1]) dl r.2.ts
 |0,_,_,_,h=>by cases h
 |f+1,cur,s,r,h=>by
  unfold Yj at h;split at h
  ·obtain⟨m,s',h1,h2⟩:=Xx h
   obtain⟨E,e⟩:=De h1
   cases e
   rw[Qkt E,Ee];exact Hj fin acc f _ _ _ h2
  rw[Vj h]
theorem Kf (fin:Nat):∀(f:Nat) (acc:List (List Nat)) (s:St) (r:List (List Nat)×St),Yp fin f acc s=F (.ok r)->jm acc ce s.ts=jm r.1 ce r.2.ts
 |0,_,_,_,h=>by cases h
 |f+1,acc,s,r,h=>by
  unfold Yp at h;obtain⟨n,s1,h1,h2⟩:=Xx h;obtain⟨x,s2,I,E⟩:=Xx h2;obtain⟨bi,e⟩:=De h1
  cases e
  have g1:jm acc ce s.ts=jm (acc++[x]) dl s2.ts:=by rw[Qkt bi];exact Hj fin acc f _ _ _ I
  split at E
  ·rename_i H
   rw[Vj E,g1,G0 H];rfl
  obtain⟨u,s3,J,K⟩:=Xx E;obtain⟨H,e⟩:=Qwh J;change s3=s2.bB at e;subst e;rw[g1,G0 H];exact Kf fin f _ _ _ K
theorem Qqg {fin f:Nat}{s:St}{r:List (List Nat)×St}(h:Xs fin f s=F (.ok r))(he:r.2.ts=[]):jm [] ce s.ts.tail=r.1:=by
 unfold Xs at h;obtain⟨u,s1,H,E⟩:=Xx h;obtain⟨-,e⟩:=Qwh H;change s1=s.bB at e;subst e;split at E
 ·rename_i I
  have:=Vj E;rw[this]at he ⊢;change jm [] ce s.bB.ts=[];rw[G0 I];change s.bB.ts.tail=[]at he;rw[he];rfl
 have:=Kf fin f _ _ _ E;change jm [] ce s.bB.ts=r.1;rw[this,he];rfl
theorem Qp9:∃s∈addN acc p n,n∈s:=by
 unfold addN;split
 ·exact⟨_,aaP.2 (.inr (aaO.2 rfl)),aaP.2 (.inr (aaO.2 rfl))⟩
 exact⟨_,aaP.2 (.inr (aaO.2 rfl)),aaO.2 rfl⟩
theorem G5 (t:Tok):∀(ts:List Tok) (acc:List (List Nat)) (p:Bool),jm acc p (ts++[t])=(if t.1=1 then addN (jm acc p ts) (if ts=[] then p else (ts.getLast?.map fun x=>x.1==1).getD ce) (aj.Q7 t.2.1) else jm acc p ts)
 | [],acc,p=>by
  obtain⟨k,x,c⟩:=t
  simp only[abv,jm,if_true]
 |(k,x,c)::ts,acc,p=>by
  rw[adp];unfold jm
  have E:∀(q:Bool),q=(k==1)->(if ts=[] then q else (ts.getLast?.map fun x=>x.1==1).getD ce)=(((k,x,c)::ts).getLast?.map fun x=>x.1==1).getD ce:=by
   intro q H
   cases ts with
   |nil=>simp[H]
   |cons a l=>simp[List.getLast?_cons_cons]
  split
  ·rename_i h
   rw[G5 t ts,E dl (by simp[h])];simp
  rename_i h;rw[G5 t ts,E ce (by simp[h])];simp
structure Ly (w:de) (B:Nat) (lv:da) (bc:List da) (acc:List (List Nat)):Prop where
 own:w.ownsRow B 41 1 lv bc.length bc
 len:bc.length=acc.length
 el:∀(j:Nat) (sv:da) (s:List Nat),bc[j]?=F sv->acc[j]?=F s->w.ownsRow B 3 1 sv s.length (Xl s)/\ ∀q,sv.ownBlock=F q->lv.ownBlock≠F q
 ap:∀(i j:Nat) (x y:da),bc[i]?=F x->bc[j]?=F y->i≠j-> ∀q,x.ownBlock=F q->y.ownBlock≠F q
theorem Ly.below (h:Ly w B lv bc acc)(hb:ca w.heap.size w w'):Ly w' B lv bc acc:=
 ⟨Qy h.own hb (aab _),h.len,fun j sv s h1 h2=>⟨Qy (h.el j sv s h1 h2).1 hb (aab _),(h.el j sv s h1 h2).2⟩,h.ap⟩
theorem Ly.TH (h:Ly w B lv bc acc):ml w lv (acc.map Ya):=by
 refine Sl.jL h.own (by rw[h.len,aas]) fun j sv hj=> ?_
 have E:j<acc.length:=by rw[<-h.len];exact(aaf.1 hj).1
 refine⟨Ya acc[j],by rw[aa9,aad E];rfl,?_⟩;have H:=(h.el j sv acc[j] hj (aad E)).1;rw[Qm2]at H;exact(KF.dh H (by unfold Ya;rw[aas])).1
theorem Ly.grow (h:Ly w B lv bc acc){k:Nat}(hk:bc[k]?=F sv)(hg:w.grownBy w' sv.ownBlock)(hne:∀q,sv.ownBlock=F q->lv.ownBlock≠F q):w'.ownsRow B 41 1 lv bc.length bc/\ ∀(j:Nat) (x:da) (s:List Nat),bc[j]?=F x->acc[j]?=F s->j≠k->w'.ownsRow B 3 1 x s.length (Xl s):=by
 refine⟨h.own.kept hg ?_,fun j x s hx hs hjk=>(h.el j x s hx hs).1.kept hg ?_⟩
 ·cases hv:lv.ownBlock with
  |none=>exact .inl rfl
  |some q=>exact .inr (fun e=>hne q e.symm hv)
 cases hv:x.ownBlock with
 |none=>exact .inl rfl
 |some q=>exact .inr (fun e=>h.ap k j sv x hk hx (fun e=>hjk e.symm) q e.symm hv)
theorem Ly.push (h:Ly w B lv bc acc)(hs:w.ownsRow B 3 1 sv s.length (Xl s))(hsq:∀q,sv.ownBlock=F q->lv.ownBlock≠F q)
  (hap:∀(j:Nat) (x:da),bc[j]?=F x-> ∀q,x.ownBlock=F q->sv.ownBlock≠F q)
  (hown:w'.ownsRow B 41 1 (U (F ⟨g,0,Z⟩) N cap) N (bc++[sv])) (hN:N=bc.length+1) (hg:w.grownBy w' lv.ownBlock) (hat:lv.ownBlock=F g\/g=w.heap.size):
  Ly w' B (U (F ⟨g,0,Z⟩) N cap) (bc++[sv]) (acc++[s]):=by
 subst hN
 have aE:(bc++[sv]).length=bc.length+1:=by simp
 have K:∀(x:da) (t:List Nat),w.ownsRow B 3 1 x t.length (Xl t)->(∀q,x.ownBlock=F q->lv.ownBlock≠F q)->w'.ownsRow B 3 1 x t.length (Xl t)/\ ∀q,x.ownBlock=F q->(Value.ownBlock (U (F ⟨g,0,Z⟩) (bc.length+1) cap))≠F q:=by
  intro x t E J;refine⟨E.kept hg ?_,fun q bi e=> ?_⟩
  ·cases hv:x.ownBlock with
   |none=>exact .inl rfl
   |some q=>exact .inr (fun e=>J q hv e.symm)
  cases e
  rcases hat with I|I
  ·exact J g bi I
  have:=(aaB E g bi).2;omega
 have H:∀(j:Nat) (x:da),(bc++[sv])[j]?=F x->(j<bc.length/\bc[j]?=F x)\/(j=bc.length/\x=sv):=by
  intro j x E;by_cases hlt:j<bc.length
  ·rw[aaH hlt]at E
   exact .inl ⟨hlt,E⟩
  have hi:j=bc.length:=by have:=(aaf.1 E).1;rw[aE]at this;omega
  subst hi;rw[aaK (aab _)]at E;simp at E;exact .inr ⟨rfl,E.symm⟩
 refine⟨by rw[aE];exact hown,by rw[aE,h.len];simp,?_,?_⟩
 ·intro j x t E T
  rcases H j x E with ⟨bi,I⟩|⟨bi,I⟩
  ·rw[aaH (by rw[<-h.len];exact bi)]at T
   exact K x t (h.el j x t I T).1 (h.el j x t I T).2
  subst bi;subst I;rw[h.len,aaK (aab _)]at T;simp at T;subst T;exact K _ _ hs hsq
 intro i j x y E hy am q J
 rcases H i x E with ⟨a1,a2⟩|⟨a1,a2⟩<;>rcases H j y hy with ⟨b1,b2⟩|⟨b1,b2⟩
 ·exact h.ap i j x y a2 b2 am q J
 ·rw[b2];exact hap i x a2 q J
 ·rw[a2]at J
  exact fun e=>hap j y b2 q e J
 omega
open Go.Deep
theorem Aq {e:TypeId}{xs:List da}(h:w.ownsRow B e 1 (U (F ⟨g,0,Z⟩) n cap) n xs)(i:Nat)(hi:i<n)(u:da):(w.setCell ⟨g,i,Z⟩ u).ownsRow B e 1 (U (F ⟨g,0,Z⟩) n cap) n (xs.set i u):=by
 obtain⟨K,E⟩:=h;refine⟨by simpa using K,?_⟩;rcases E with E|⟨g',cap',H,bi,I,J,r1,r2,r3,r4⟩
 ·cases E.1
 cases bi
 refine .inr ⟨g,cap,H.setIfInBounds i u,rfl,I,aao w g i _ e u J,r1,r2,by simpa using r3,?_⟩;rw[<-r4,Array.toList_setIfInBounds,List.take_set]
theorem Ly.last {xs:List da}{a:List (List Nat)}{sv':da}(h:Ly w B (U (F ⟨g,0,Z⟩) N cap) (xs++[sv]) (a++[s]))(hN:N=xs.length+1)
  (hown:w'.ownsRow B 3 1 sv' (s++[n]).length (Xl (s++[n]))) (hg:w.grownBy w' sv.ownBlock) (hat:∀q,sv'.ownBlock=F q->sv.ownBlock=F q\/q=w.heap.size):
  Ly (w'.setCell ⟨g,xs.length,Z⟩ sv') B (U (F ⟨g,0,Z⟩) N cap) (xs++[sv']) (a++[s++[n]]):=by
 subst hN
 have aE:xs.length=a.length:=by have:=h.len;simp at this;exact this
 have hl:(xs++[sv]).length=xs.length+1:=by simp
 have T:(xs++[sv']).length=xs.length+1:=by simp
 have hk:(xs++[sv])[xs.length]?=F sv:=by simp
 have a4:=h.el xs.length sv s hk (by rw[aE];simp);obtain⟨g1,g2⟩:=h.grow hk hg a4.2;have ai:Wr g Z w' (w'.setCell ⟨g,xs.length,Z⟩ sv'):=Wr.aD w' _ _;have ah:g<w.heap.size:=(aaB h.own g rfl).2
 have a3:∀q,sv'.ownBlock=F q->g≠q:=by
  intro q E e;subst e;rcases hat g E with I|I
  ·exact a4.2 g I rfl
  omega
 have a5:∀(x:da) (t:List Nat),w'.ownsRow B 3 1 x t.length (Xl t)->(∀q,x.ownBlock=F q->g≠q)->(w'.setCell ⟨g,xs.length,Z⟩ sv').ownsRow B 3 1 x t.length (Xl t):=by
  intro x t H E;refine⟨H.1,?_⟩;rcases H.2 with K|⟨g',cap',a8,hv,hb,hh,r⟩
  ·exact .inl K
  refine .inr ⟨g',cap',a8,hv,hb,?_,r⟩;rw[aaN w' ⟨g,xs.length,Z⟩ g' _ (by have:=E g' (by rw[hv];rfl);exact fun e=>this e.symm)];exact hh
 have J:∀(j:Nat) (x:da),(xs++[sv'])[j]?=F x->(j<xs.length/\(xs++[sv])[j]?=F x)\/(j=xs.length/\x=sv'):=by
  intro j x H;by_cases hlt:j<xs.length
  ·rw[aaH hlt]at H
   exact .inl ⟨hlt,by rw[aaH hlt];exact H⟩
  have hi:j=xs.length:=by have:=(aaf.1 H).1;rw[T]at this;omega
  subst hi;simp at H;exact .inr ⟨rfl,H.symm⟩
 have a0:∀(j:Nat) (x:da),j<xs.length->(xs++[sv])[j]?=F x-> ∀q,x.ownBlock=F q->q<w.heap.size/\g≠q/\sv.ownBlock≠F q:=by
  intro j x hj H q E
  have bi:(a++[s])[j]?=F a[j]:=by rw[aaH (by omega)];simp
  have I:=h.el j x _ H bi;exact⟨(aaB I.1 q E).2,fun e=>I.2 q E (by rw[<-e];rfl),h.ap j xs.length x sv H hk (by omega) q E⟩
 have am:∀(j:Nat) (x:da),j<xs.length->(xs++[sv])[j]?=F x-> ∀q,x.ownBlock=F q->sv'.ownBlock≠F q:=by
  intro j x hj H q E e;obtain⟨b1,-,b3⟩:=a0 j x hj H q E;rcases hat q e with I|I
  ·exact b3 I
  omega
 refine⟨?_,by rw[T,aE];simp,?_,?_⟩
 ·rw[hl]at g1
  have:=Aq g1 xs.length (by omega) sv';rw[T];rw[show (xs++[sv]).set xs.length sv'=xs++[sv'] by simp]at this;exact this
 ·intro j x t H bi
  rcases J j x H with ⟨I,K⟩|⟨I,K⟩
  ·have a6:(a++[s])[j]?=F t:=by
    rw[aaH (by omega)]at bi ⊢;exact bi
   exact⟨a5 x t (g2 j x t K a6 (by omega)) (fun q E=>(a0 j x I K q E).2.1),(h.el j x t K a6).2⟩
  subst I;subst K;rw[aE]at bi;simp at bi;subst bi;exact⟨a5 _ _ hown a3,fun q E e=>a3 q E (by cases e;rfl)⟩
 intro i j x y H hy a9 q E
 rcases J i x H with ⟨a1,a2⟩|⟨a1,a2⟩<;>rcases J j y hy with ⟨b1,b2⟩|⟨b1,b2⟩
 ·exact h.ap i j x y a2 b2 a9 q E
 ·rw[b2];exact am i x a1 a2 q E
 ·rw[a2]at E
  exact fun e=>am j y b1 b2 q e E
 omega
def Ok (r c:Int)(l:List (Bool×Nat)):ByteArray:=if Yw r c l.length then ⟨(Yf r.toNat c.toNat (Xg l)).toArray⟩ else ⟨#[]⟩
def Oj (r c:Int)(l:List (Bool×Nat)):Int:=if Yw r c l.length then 0 else 1
theorem Qdb (r c:Int){l:List (Bool×Nat)}(hs:SG w)(hv:DD w v l)(hn:l.length<=1073741824):dq co 30 #[fb #[A G r,A G c,v]] w fun e w'=>e=c9 (du #[db (Ok r c l),A G (Oj r c l)])/\ca w.heap.size w w':=by
 refine(Bl r c hs hv hn).mono ?_;rintro e w' ⟨E,H⟩;refine⟨?_,H⟩;unfold Ok Oj;by_cases h:Yw r c l.length
 ·rw[if_pos h]at E;rw[if_pos h,if_pos h];exact E
 rw[if_neg h]at E;rw[if_neg h,if_neg h];exact E
def zk (fs:List (List Int)):ByteArray:=if ik fs then ⟨(aj.iT (fs.map Yg)).toArray⟩ else ⟨#[]⟩
def zj (fs:List (List Int)):Int:=if ik fs then 0 else 3
theorem Qc8 {fs:List (List Int)}(hs:SG w)(hv:ml w v fs)(hn:fs.length<=1048576)(hm:∀ks∈fs,ks.length<=1048576/\ ∀k∈ks,k<=9223372036854775807):dq co 32 #[v] w fun e w'=>e=c9 (du #[db (zk fs),A G (zj fs)])/\ca w.heap.size w w':=by
 refine(Qqh hs hv hn hm).mono ?_;rintro e w' ⟨E,H⟩;refine⟨?_,H⟩;unfold zk zj;by_cases h:ik fs
 ·rw[if_pos h]at E;rw[if_pos h,if_pos h];exact E
 rw[if_neg h]at E;rw[if_neg h,if_neg h];exact E
def Ot (r c:Int)(l:List ((Bool×Nat)×(Bool×Nat))):ByteArray:=if Yw r c l.length then if Vn l then ⟨(Yf r.toNat c.toNat (iM l)).toArray⟩ else ⟨#[]⟩ else ⟨#[]⟩
def Oq (r c:Int)(l:List ((Bool×Nat)×(Bool×Nat))):Int:=if Yw r c l.length then if Vn l then 0 else 4 else 1
theorem Qdu (r c:Int){l:List ((Bool×Nat)×(Bool×Nat))}(hs:SG w)(hv:SK w v l)(hn:l.length<=1073741824):dq co 34 #[fb #[A G r,A G c,v]] w fun e w'=>e=c9 (du #[db (Ot r c l),A G (Oq r c l)])/\ca w.heap.size w w':=by
 refine(Qye r c hs hv hn).mono ?_;rintro e w' ⟨E,H⟩;refine⟨?_,H⟩;unfold Ot Oq;by_cases h:Yw r c l.length
 ·rw[if_pos h]at E;rw[if_pos h,if_pos h]
  by_cases h2:Vn l
  ·rw[if_pos h2]at E;rw[if_pos h2,if_pos h2];exact E
  rw[if_neg h2]at E;rw[if_neg h2,if_neg h2];exact E
 rw[if_neg h]at E;rw[if_neg h,if_neg h];exact E
def gs (L:List Tok)(i:Nat):List (List Nat):=jm [] ce ((L.take i).drop 1)
theorem Qg2 (L:List Tok):gs L 1=[]:=by unfold gs;rw[aaC (by rw[aak];omega)];rfl
theorem Qjd (L:List Tok):gs L L.length=jm [] ce L.tail:=by unfold gs;rw[aam (aab _),List.drop_one]
theorem Pe {L:List Tok}{t u:Tok}(h1:1<=i)(ht:L[i]?=F t)(hu:L[i-1]?=F u)(h0:aj.Qk [123] L=dl):gs L (i+1)=if t.1=1 then addN (gs L i) (u.1==1) (aj.Q7 t.2.1) else gs L i:=by
 have H:i<L.length:=(aaf.1 ht).1
 have e1:(L.take (i+1)).drop 1=(L.take i).drop 1++[t]:=by rw[aaI,ht,List.drop_append_of_le_length (by rw[aak];omega)];rfl
 unfold gs;rw[e1,G5]
 have e2:(if (L.take i).drop 1=[] then ce else (((L.take i).drop 1).getLast?.map fun x=>x.1==1).getD ce)=(u.1==1):=by
  by_cases hi:i=1
  ·subst hi
   rw[if_pos (aaC (by rw[aak];omega))]
   cases L with
   |nil=>simp at H
   |cons a L=>obtain⟨k,x,c⟩:=a;simp at hu;subst hu;simp[aj.Qk]at h0;simp[h0.1]
  have E: ¬(L.take i).drop 1=[]:=by intro h;rw[acr,aak]at h;omega
  rw[if_neg E,List.getLast?_eq_getElem?,aan,aak,abg,List.getElem?_take_of_lt (by omega),show 1+(min i L.length-1-1)=i-1 by omega,hu];rfl
 rw[e2]
theorem Qz6 {v:Nat}(hs:s∈acc)(hn:n∈s):∃s2∈addN acc p v,n∈s2:=by
 unfold addN;split
 ·by_cases hd:s∈acc.dropLast
  ·exact⟨s,aaP.2 (.inl hd),hn⟩
  refine⟨_,aaP.2 (.inr (aaO.2 rfl)),aaP.2 (.inl ?_)⟩
  have E:acc≠[]:=fun e=>by rw[e]at hs;cases hs
  rw[List.getLast?_eq_some_getLast E,ab6];rw[<-List.dropLast_concat_getLast E]at hs;rcases aaP.1 hs with h|h
  ·exact(hd h).elim
  rw[<-aaO.1 h];exact hn
 exact⟨s,aaP.2 (.inl hs),hn⟩
theorem Qqt {L:List Tok}(h0:aj.Qk [123] L=dl)(h1:1<=i)(h:∃s∈gs L i,n∈s):∀k,i+k<=L.length-> ∃s∈gs L (i+k),n∈s
 |0,_=>h
 |k+1,hk=>by
  obtain⟨s,a,b⟩:=Qqt h0 h1 h k (by omega);rw[<-abz,Pe (t:=L[i+k]) (u:=L[i+k-1]) (by omega) (aad (by omega)) (aad (by omega)) h0];split
  ·exact Qz6 a b
  exact⟨s,a,b⟩
theorem Qdw {L:List Tok}(h0:aj.Qk [123] L=dl){t:Tok}(h1:1<=i)(ht:L[i]?=F t)(hk:t.1=1)(hb:9223372036854775807<aj.Q7 t.2.1): ¬iB (jm [] ce L.tail):=by
 intro h;have H:i<L.length:=(aaf.1 ht).1
 have E:∃s∈gs L (i+1),aj.Q7 t.2.1∈s:=by rw[Pe (u:=L[i-1]) h1 ht (aad (by omega)) h0,if_pos hk];exact Qp9
 obtain⟨s,a,b⟩:=Qqt h0 (by omega) E (L.length-(i+1)) (by omega);rw[show i+1+(L.length-(i+1))=L.length by omega,Qjd]at a;have:=h s a _ b;omega
theorem Qyj (h:iB acc)(hn:n<=9223372036854775807):iB (addN acc p n):=by
 intro s J x I;unfold addN at J;split at J
 ·rcases aaP.1 J with E|E
  ·exact h s (List.dropLast_subset _ E) x I
  rw[aaO.1 E]at I;rcases aaP.1 I with H|H
  ·cases hl:acc.getLast? with
   |none=>rw[hl]at H;simp at H
   |some s0=>rw[hl]at H;exact h s0 (List.mem_of_getLast? hl) x H
  rw[aaO.1 H];exact hn
 rcases aaP.1 J with E|E
 ·exact h s E x I
 rw[aaO.1 E]at I;rw[aaO.1 I];exact hn
theorem Qbn {L:List Tok}(h0:aj.Qk [123] L=dl){u:Tok}(h1:1<=i)(hu:L[i-1]?=F u)(hk:u.1=1):∃a s,gs L i=a++[s]:=by
 by_cases hi:i=1
 ·subst hi
  exfalso
  cases L with
  |nil=>simp at hu
  |cons x L=>obtain⟨k,y,c⟩:=x;simp at hu;subst hu;simp[aj.Qk]at h0;simp only at hk;omega
 have E:i-1<L.length:=(aaf.1 hu).1;have h:=Pe (L:=L) (i:=i-1) (t:=u) (u:=L[i-1-1]) (by omega) hu (aad (by omega)) h0;rw[show i-1+1=i by omega,if_pos hk]at h;rw[h];unfold addN;split
 ·exact⟨_,_,rfl⟩
 exact⟨_,_,rfl⟩
theorem Qp8 {M:Nat}(p:Bool)(h1:acc.length<=M)(h2:∀s∈acc,s.length<=M):(addN acc p n).length<=M+1/\ ∀s∈addN acc p n,s.length<=M+1:=by
 unfold addN;split
 ·refine⟨by rw[aag,List.length_dropLast,aaR];omega,fun s hs=> ?_⟩
  rcases aaP.1 hs with h|h
  ·have:=h2 s (List.dropLast_subset _ h);omega
  rw[aaO.1 h,aag,aaR]
  cases hl:acc.getLast? with
  |none=>simp
  |some s0=>have:=h2 s0 (List.mem_of_getLast? hl);simp only[ab6];omega
 refine⟨by rw[aag,aaR];omega,fun s hs=> ?_⟩;rcases aaP.1 hs with h|h
 ·have:=h2 s h;omega
 rw[aaO.1 h];simp
theorem Bg:∀(ts:List Tok) (acc:List (List Nat)) (p:Bool) (M:Nat),acc.length<=M->(∀s∈acc,s.length<=M)->(jm acc p ts).length<=M+ts.length/\ ∀s∈jm acc p ts,s.length<=M+ts.length
 | [],acc,p,M,h1,h2=>⟨h1,h2⟩
 |(k,t,c)::ts,acc,p,M,h1,h2=>by
  unfold jm;rw[aaq,show M+(ts.length+1)=M+1+ts.length by omega];split
  ·obtain⟨a,b⟩:=Qp8 (n:=aj.Q7 t) p h1 h2
   exact Bg ts _ dl (M+1) a b
  exact Bg ts _ ce (M+1) (by omega) (fun s hs=>by have:=h2 s hs;omega)
theorem Qg1 (L:List Tok)(i:Nat):(gs L i).length<=i/\ ∀s∈gs L i,s.length<=i:=by
 obtain⟨a,b⟩:=Bg ((L.take i).drop 1) [] ce 0 (aab _) (fun s hs=>by cases hs)
 have h:((L.take i).drop 1).length<=i:=by rw[aan,aak];omega
 exact⟨by unfold gs;omega,fun s hs=>by have:=b s hs;omega⟩
theorem Np {e:TypeId}{xs:List da}(h:w.ownsRow B e 1 (U (F ⟨g,0,Z⟩) n cap) n xs)(i:Nat)(hi:i<n):w.cell? ⟨g,i,Z⟩=xs[i]? /\w.frozen? ⟨g,i,Z⟩=ce/\B<=g/\g<w.heap.size:=by
 have I:=h.lt g rfl;obtain⟨T,E⟩:=h;rcases E with E|⟨g',cap',K,J,bi,H,r1,r2,r3,r4⟩
 ·cases E.1
 cases J
 refine⟨?_,aax _ _ _ _ _ H,I.1,I.2⟩;rw[aaj _ _ _ _ _ _ H,<-r4,List.getElem?_take_of_lt (by omega),Array.getElem?_toList]
theorem Ka (s:List Nat)(v:Nat):Xl (s++[v])=Xl s++[Value.int G v]:=by simp[Xl]
theorem Qv1 (hv:val xs=n)(h2:2<=xs.length->BB<=n):(xs=[]/\n=0)\/xs=[n]\/(2<=xs.length/\9223372036854775807<n):=by
 match xs,hv,h2 with
 | [],hv,_=>exact .inl ⟨rfl,by rw[<-hv];rfl⟩
 | [x],hv,_=>exact .inr (.inl (by rw[<-hv];simp[aw.val]))
 |x::y::t,hv,h2=>have E:=h2 (by simp);have h:BB=18446744073709551616:=rfl;exact .inr (.inr ⟨by simp,by omega⟩)
theorem Qvp (hv:oC w v n):dq co 88 #[v] w fun e w'=> ∃ao cap xs,e=c9 (U ao (List.length xs) cap)/\Rd w' (U ao (List.length xs) cap) xs/\val xs=n/\(2<=xs.length->BB<=n)/\ca w.heap.size w w':=by refine(Ck hv).mono ?_;rintro e w' ⟨v',rfl,⟨⟨xs,E,I,-⟩,-,J⟩,bi⟩;obtain⟨ao,cap,H,-⟩:=id E.2;subst H;refine⟨ao,cap,xs,rfl,E,I,fun h=> ?_,bi⟩;have K:BB^1<=BB^(xs.length-1):=aa6 aC (by omega);have T:BB^(xs.length-1)<=n:=J.2 (show 0<xs.length by omega);rw[Nat.pow_one]at K;omega
theorem Kq {P:Program}(base:Nat)(t ty e:TypeId)(i:TypeInfo)(ht:P.underlying t=F (.slice e))(hi:P.info? e=F i)(hz:i.zero=F (A fa 0))
  (hsize:i.size=1) (hby:i.bytes=1) (w:de) (g:Nat) (x:da) (hg:w.cell? ⟨g,0,Z⟩=F x) (b:Nat) (y:da) (hb:w.cell? ⟨b,0,Z⟩=F y) (hbase:base<=w.heap.size):
  ∃v' w',(Builtin.append_ #[t,t] ty #[U (F ⟨g,0,Z⟩) 1 1,U (F ⟨b,0,Z⟩) 1 1]).run P w=.ok v' w'/\w'.ownsRow base e 1 v' 2 [x,y]/\w.grownBy w' Z:=by
 have h:∀(k:Nat) (z:da),w.cell? ⟨k,0,Z⟩=F z-> ∀j u,[z][j]?=F u->w.cell? ((⟨k,0,Z⟩:Addr).add j)=F u:=by
  intro k z I j u H
  have K:j=0:=by have:=(aaf.1 H).1;simp at this;omega
  subst K;simp at H;subst H;exact I
 have T:=run_append_grow (P:=P) (w:=w) t ty e i (A fa 0) ht hi hz ⟨g,0,Z⟩ 1 1 [x] (by rw[hsize];rfl) (h g x hg) ⟨b,0,Z⟩ 1 1 [y] (by rw[hsize];rfl) (h b y hb) (by omega) (by omega) (by rw[hby];exact growslice_fits (by omega) (by omega));have J:=grownCap_ge w (1+1) 1 e;have E:grownCap w (1+1) 1 e<=maxLen:=grownCap_le_maxLen w (1+1) 1 e (by unfold maxLen;omega);refine⟨_,_,T,⟨rfl,.inr ⟨w.heap.size,_,_,rfl,hbase,aap w.drew _,J,E,?_,?_⟩⟩,⟨rfl,rfl,rfl,by simp,fun k I _=>Go.heap_alloc_old w.drew _ I⟩⟩
 ·have bi:(Value.int IntKind.u8 0).cells.size=1:=rfl
  simp only[Array.size_append,List.size_toArray,size_zeroCells,bi,aaR];omega
 simp
theorem Rv {P:Program}{ops:Array Oper}{rest:List Oper}{o:Oper}{a:Act}{Q:Exit->Act->de->Prop}(hgd:o.guard=Z)(sl x:Operand)(t:TypeId)
  (ho:o.op=.call {callee:=.builtin .append,args:= #[sl,x],argTypes:= #[t,t]})
  (base:Nat) (e:TypeId) (i:TypeInfo) (ht:P.underlying t=F (.slice e)) (hi:P.info? e=F i) (hz:i.zero=F (A fa 0))
  (hsize:i.size=1) (hby:i.bytes=1) (g:Nat) (hs:a.eval sl=U (F ⟨g,0,Z⟩) 1 1) (y:da) (hg:w.cell? ⟨g,0,Z⟩=F y) (b:Nat) (hx:a.eval x=U (F ⟨b,0,Z⟩) 1 1) (z:da) (hb:w.cell? ⟨b,0,Z⟩=F z) (hbase:base<=w.heap.size)
  (h:∀v' w',w'.ownsRow base e 1 v' 2 [y,z]->w.grownBy w' Z->wpList P ops Q rest (a.put o.dst v') w'):wpList P ops Q (o::rest) a w:=by
 refine wpList_plain hgd fun K hK=> ?_;obtain⟨v',w',I,E,H⟩:=Kq (P:=P) base t o.type e i ht hi hz hsize hby w g y hg b z hb hbase;unfold Oper.wp execOp;simp only[ho,resolve,invoke,builtin,aes,aet,acX,adw,abq,abX,hs,hx,I];exact hK _ _ (h v' w' E H)
def pW (i:Nat):Bytes:=if i=0 then [] else [44,32]
def mJ (j:Nat):Bytes:=if j=0 then [] else [32]
def mQ (fs:List (List Int))(i:Nat):Bytes:=[123]++aj.Ql [44,32] ((fs.take i).map fun ks=>dQ (Yg ks))
def j9 (fs:List (List Int))(i:Nat)(ks:List Int)(j:Nat):Bytes:=mQ fs i++pW i++aj.Ql [32] (((Yg ks).take j).map aj.aA)
theorem Te (fs:List (List Int))(i:Nat)(ks:List Int):j9 fs i ks 0=mQ fs i++pW i:=by simp[j9,aj.Ql]
theorem Pf (fs:List (List Int)):mQ fs 0=[123]:=by simp[mQ,aj.Ql]
theorem Gh {fs:List (List Int)}(hk:ks[j]?=F k):j9 fs i ks (j+1)=j9 fs i ks j++mJ j++aj.aA k.toNat:=by
 have H:=(aaf.1 hk).1
 have E:(Yg ks).take (j+1)=(Yg ks).take j++[k.toNat]:=by rw[aaI,Yg,aa9,hk];rfl
 have h:((Yg ks).take j).map aj.aA=[]↔j=0:=by rw[List.map_eq_nil_iff,<-List.length_eq_zero_iff,aak,Yg,aas];omega
 unfold j9;rw[E,abl,List.map_singleton,aF.Ra];unfold mJ;by_cases h0:j=0
 ·rw[if_pos (h.2 h0),if_pos h0];simp
 rw[if_neg (fun e=>h0 (h.1 e)),if_neg h0];simp
theorem Qqb {fs:List (List Int)}(hk:fs[i]?=F ks):mQ fs (i+1)=j9 fs i ks ks.length:=by
 have I:=(aaf.1 hk).1
 have E:fs.take (i+1)=fs.take i++[ks]:=by rw[aaI,hk];rfl
 have h:((fs.take i).map fun ks=>dQ (Yg ks))=[]↔i=0:=by rw[List.map_eq_nil_iff,<-List.length_eq_zero_iff,aak];omega
 have H:(Yg ks).take ks.length=Yg ks:=aam (by rw[Yg,aas];exact aab _);unfold j9;rw[H,mQ,E,abl,List.map_singleton,aF.Ra,mQ];unfold pW;by_cases h0:i=0
 ·rw[if_pos (h.2 h0),if_pos h0];simp[dQ]
 rw[if_neg (fun e=>h0 (h.1 e)),if_neg h0];simp[dQ]
theorem Qc9 (fs:List (List Int)):aj.iT (fs.map Yg)=mQ fs fs.length++[125]:=by unfold mQ aj.iT;rw[aam (aab _),ab2];rfl
def zb (w:de):Prop:=∀w',ca w.heap.size w w'-> ∀k:Int,0<=k->k<=9223372036854775807->dq co 41 #[A G k] w' fun e w''=>e=c9 (db ⟨(aj.aA k.toNat).toArray⟩)/\ca w'.heap.size w' w''
theorem Qqf (h:k<=9223372036854775807):(aj.aA k.toNat).length<=32:=by
 show (Yb k.toNat).length<=32;unfold Yb;split
 ·simp
 have E:k.toNat<BB^1:=by rw[Nat.pow_one];unfold BB;omega
 have:=Zw E;rw[aas];omega
theorem Qqc:0<(aj.aA n).length:=abm.2 (aj.Ss n)
def TtO (fs:List (List Int))(w:de)(sv iv:da)(wr:de):Prop:=∃i:Nat,iv=A G (i:Nat)/\i<=fs.length/\(∀ks∈fs.take i,Kl ks)/\ca w.heap.size w wr/\w.heap.size<wr.heap.size/\(mQ fs i).length<=1+i*34603010/\((i=0/\sv=U (F ⟨w.heap.size,0,Z⟩) 1 1/\wr.cell? ⟨w.heap.size,0,Z⟩=F (A fa 123))\/(0<i/\cE w.heap.size wr sv (mQ fs i)))
def MX (fs:List (List Int))(i:Nat)(ks:List Int)(M:Nat)(w:de)(sv jv:da)(wr:de):Prop:=∃j:Nat,jv=A G (j:Nat)/\j<=ks.length/\(∀k∈ks.take j,0<=k)/\ca w.heap.size w wr/\w.heap.size<wr.heap.size/\(j9 fs i ks j).length<=M+j*33/\((i=0/\j=0/\sv=U (F ⟨w.heap.size,0,Z⟩) 1 1/\wr.cell? ⟨w.heap.size,0,Z⟩=F (A fa 123))\/(0<i+j/\cE w.heap.size wr sv (j9 fs i ks j)))
theorem Qpw {fs:List (List Int)}(h:∀x∈fs.take i,Kl x)(hk:fs[i]?=F ks)(hg:Kl ks):∀x∈fs.take (i+1),Kl x:=by
 intro x H;rw[aaI,hk]at H;rcases aaP.1 H with E|E
 ·exact h x E
 simp at E;rw[E];exact hg
theorem Qzg (h:∀x∈ks.take j,0<=x)(hk:ks[j]?=F k)(hg:0<=k):∀x∈ks.take (j+1),0<=x:=by
 intro x H;rw[aaI,hk]at H;rcases aaP.1 H with E|E
 ·exact h x E
 simp at E;rw[E];exact hg
theorem Hm (fs:List (List Int))(hit:zb w)(hv:ml w v fs)(hn:fs.length<=1048576)(hm:∀ks∈fs,ks.length<=1048576/\ ∀k∈ks,k<=9223372036854775807):dq co 44 #[v] w fun e w'=>e=c9 (du #[db (zk fs),A G (zj fs)])/\ca w.heap.size w w':=by
 obtain⟨i0,hi,hz0,hz1,hz2⟩:=aa0 Tryz.lK;have HIT:=zq hit;have HV:=zq hv;have HM:=zq hm;obtain⟨fo,lf,rfl,-,-,-⟩:=hv;obtain⟨n,bu⟩:=xq fs.length;have bw:=zq bu;rw[<-bu]at hn HV ⊢
 have HST:cl (TtO fs w (U (F ⟨w.heap.size,0,Z⟩) 1 1) (A G 0) (w.alloc (O #[A fa 123] 5 (1,2)))):=
  ⟨0,rfl,aat _,(fun x hx=>by simp at hx),Qq w _,by simp,by rw[Pf];simp,.inl ⟨rfl,rfl,(World.cell?_alloc_mark w #[A fa 123] 5 (1,2) 0).trans rfl⟩⟩
 have kc:=fun (w:de) (C:Array da) (n c:Nat)=>Lib.run_convert_bytes_const (P:=co) w 88 5 C n c dk underlying5;clear hit hm bu;go_enter func44,ntmps44;go_wp2_with fail;go_loopw [4,5] (fun sv iv wr=>TtO fs w sv iv wr) (fun _ iv _=>n-(intOf iv).toNat)
 case atStart=>exact HST.o
 clear HST
 case round=>
  obtain⟨i,rfl,iq,dz,hbl,pI,hlen,gC⟩:=hrel;rw[<-bw.o]at iq;have eX:=zq dz;have aL:=zq hbl;have jP:=zq gC;have HLEN:=zq hlen;clear dz gC hlen;by_cases hlt:i<n
  ·obtain⟨fo',ahA,e',-,-,hc⟩:=HV.o
   rw[<-bw.o]at e' hc;cases e';obtain⟨gf,of,rfl,hgf,hc2⟩:=hc (by omega);obtain⟨u,e0,ks,mE,hka⟩:=hc2 i hlt;obtain⟨so,cG,rfl,-,-,-⟩:=id hka;obtain⟨px,hkb⟩:=HM.o ks (aai mE);have FX:=zq mE;have HKB:=zq hkb;have yO:=zq hka;obtain⟨kl,JN⟩:=xq ks.length;rw[<-JN]at px e0 yO;have HE0:cl (∀wx,ca w.heap.size w wx->wx.cell? ⟨gf,of+i,Z⟩=F (U so kl cG)):=fun wx hb=>(hb.cell (p:=⟨gf,of+i,Z⟩) hgf).trans e0;have kT:=zq JN;have dR:(0:Int)<=(i:Int):=aaJ _
   have cB:(i:Int)<(n:Int):=by omega
   obtain⟨M,hMM⟩:=xq (1+i*34603010+2);have ct:=zq hMM;have e1:=HE0.o wr hbl;clear mE hka hkb JN hc hc2 hMM e0;rcases jP.o with ⟨xw,kq,nW⟩|⟨hp,hown⟩
   case' inl=>
    have HI0:=zq xw
    have ir: ¬(0:Int)<(i:Int):=by omega
    subst kq;by_cases cZ:kl=0
    case pos=>
     have eK:cl (¬ik fs):=fun h=>(h ks (aai FX)).1 (aau (by rw[<-kT.o];exact cZ))
     have hkz:((kl:Int)==0)=dl:=by simp;exact cZ
     clear cZ xw hbl;go_wp2_with fail;go_ret2;refine⟨?_,aL⟩;unfold zk zj;rw[if_neg eK.o,if_neg eK.o];rfl
    case' neg=>
     have hkz:((kl:Int)==0)=ce:=by simp;exact cZ
     have nJ:cl (MX fs i ks M w (U (F ⟨w.heap.size,0,Z⟩) 1 1) (A G 0) wr):=⟨0,rfl,aat _,(fun x hx=>by simp at hx),hbl,pI,by rw[Te,xw,Pf];simp[pW];have:=ct.o;omega,.inl ⟨xw,rfl,rfl,nW⟩⟩;clear xw hbl nW;go_wp2_with fail;go_loopw [4,6] (fun sv jv wr=>MX fs i ks M w sv jv wr) (fun _ jv _=>kl-(intOf jv).toNat)
     case atStart=>exact nJ.o
     clear nJ
   case' inr=>
    have HI0:cl (0<i):=hp
    have ir:(0:Int)<(i:Int):=by omega
    obtain⟨m,hm⟩:=xq ((mQ fs i).length)
    have zY:m<=1+i*34603010:=by rw[hm];exact HLEN.o
    have hown:wr.ownsRow w.heap.size 5 1 u4 m (Qu (mQ fs i)):=by rw[hm];exact hown
    have tN:=zq hm;have bH:=aL;have hzz:w.heap.size<=wr.heap.size:=aL.o.size;have aiU:=pI;clear hm hbl;go_wp2_with (at_builtin;refine abn _ rfl _ _ 88 rfl w.heap.size 5 i0 (A fa 0) 1 1 dk hi hz0 hz1 hz2 rfl (by decide) _ _ _ rfl (aaU hown _) ⟨wr.heap.size,0,Z⟩ 2 2 [A fa 44,A fa 32] rfl rfl (ar.Qg _ _ _ _ rfl) (by simp[Value.oneCell']) (by unfold maxLen;omega) (by omega) (by simp;omega) ?_);intro v3 w3 aB ax _ eZ;have hb3:ca w.heap.size w w3:=aaF (bH.o.alloc (by omega) _) ax (by simp;omega) (fun q hq=>(aaB hown q hq).1)
    have AQ:w.heap.size<w3.heap.size:=by have:=ax.size;simp at this;omega
    have fu:cl (cE w.heap.size w3 v3 (j9 fs i ks 0)):=by
     show World.ownsRow _ _ _ _ _ _ _
     have e2:(j9 fs i ks 0).length=m+2:=by rw[Te,aag,<-tN.o,pW,if_neg (by omega)];rfl
     rw[e2,Te,pW,if_neg (by omega),Qs];exact aB
    have fp:cl ((j9 fs i ks 0).length<=M):=by show _<=_;rw[Te,aag,<-tN.o,pW,if_neg (by omega)];have:=ct.o;simp;omega
    have aV:=zq hb3;have e1:=HE0.o w3 hb3;clear hown aB ax eZ hb3 bH;by_cases cZ:kl=0
    case pos=>
     have eK:cl (¬ik fs):=fun h=>(h ks (aai FX)).1 (aau (by rw[<-kT.o];exact cZ))
     have hkz:((kl:Int)==0)=dl:=by simp;exact cZ
     clear cZ;go_wp2_with fail;go_ret2;refine⟨?_,aV⟩;unfold zk zj;rw[if_neg eK.o,if_neg eK.o];rfl
    case' neg=>
     have hkz:((kl:Int)==0)=ce:=by simp;exact cZ
     have nJ:cl (MX fs i ks M w v3 (A G 0) w3):=⟨0,rfl,aat _,(fun x hx=>by simp at hx),aV,AQ,by have:=fp.o;omega,.inr ⟨by omega,fu⟩⟩;go_wp2_with fail;go_loopw [4,6] (fun sv jv wr=>MX fs i ks M w sv jv wr) (fun _ jv _=>kl-(intOf jv).toNat)
     case atStart=>exact nJ.o
     clear nJ
   all_goals
    obtain⟨j,rfl,nh,dO,hbl,pI,hlen,gC⟩:=hrel;rw[<-kT.o]at nh;have iN:=zq dO;have bH:=zq hbl;have uI:=zq gC;have CI:=zq hlen;have e0:=HE0.o wr hbl;clear dO gC hlen;by_cases zU:j<kl
    ·obtain⟨k,hk⟩:∃k,ks[j]?=F k:=⟨_,aad (by rw[<-kT.o];exact zU)⟩
     have NP:=HKB.o k (aai hk);have HK:=zq hk;obtain⟨so',ahL,e',-,-,aS⟩:=yO.o;rw[<-kT.o]at e';cases e';obtain⟨gk,ok,rfl,hgk,c0⟩:=aS j k hk;have tH:cl (∀wx,ca w.heap.size w wx->wx.cell? ⟨gk,ok+j,Z⟩=F (A G k)):=fun wx hb=>(hb.cell (p:=⟨gk,ok+j,Z⟩) hgk).trans c0;have c1:=tH.o wr hbl;have yf:(0:Int)<=(j:Int):=aaJ _
     have wG:(j:Int)<(kl:Int):=by omega
     clear hk aS c0 hbl;by_cases ue:0<=k
     ·have dA: ¬k<0:=by omega
      rcases uI.o with ⟨xw,hzj,kq,nW⟩|⟨hp,hown⟩
      ·subst hzj
       subst kq;have fA:=zq nW;have HZI:=zq xw;clear nW xw;rw[aba]at c1;go_wp2_with fail;refine(HIT.o _ bH k ue NP).mono ?_;rintro e w5 ⟨rfl,bG⟩;obtain⟨TT,lY⟩:=xq (⟨(aj.aA k.toNat).toArray⟩:ByteArray);rw[<-lY]
       have jC:TT.size=(aj.aA k.toNat).length:=by rw[lY];show (aj.aA k.toNat).toArray.size=_;simp
       have CW:cl (Lib.strCells TT=Qu (aj.aA k.toNat)):=by show _=_;rw[lY,Jt,We]
       have hTp:0<TT.size:=by rw[jC];exact Qqc
       have hTb:TT.size<=32:=by rw[jC];exact Qqf NP
       have tT:=zq jC;have ac6:=zq (Qx bG fA.o);have cS:=zq (bH.o.trans (bG.mono bH.o.size));have yu:=cS.o.size;have ahb:w.heap.size<w5.heap.size:=aal pI bG.size;clear bG lY jC;go_wp2_with (at_builtin;refine Wt rfl _ _ 88 9 rfl w.heap.size 5 i0 dk fm hi hz0 hz1 hz2 w.heap.size rfl _ ac6.o TT rfl (by omega) (by omega) (by omega) ?_);intro v4 w4 bg aJ;have cC:cl (ca w.heap.size w w4):=aaF cS.o aJ yu (fun q hq=>by cases hq)
       have e1:j9 fs i ks (0+1)=[123]++aj.aA k.toNat:=by rw[Gh HK.o,Te,HZI.o,Pf];simp[pW,mJ]
       have e2:(j9 fs i ks (0+1)).length=1+TT.size:=by rw[e1,aag,tT.o];rfl
       have jQ:cl (cE w.heap.size w4 v4 (j9 fs i ks (0+1))):=by show World.ownsRow _ _ _ _ _ _ _;rw[e2,e1,Qs _ (aj.aA k.toNat),<-CW.o];exact bg
       have eQ:cl (w.heap.size<w4.heap.size):=by show _<_;have:=aJ.size;omega
       have aq:MX fs i ks M w v4 (A G 1) w4:=⟨0+1,rfl,by rw[<-kT.o];omega,Qzg iN HK ue,cC,eQ,by rw[e2];have:=ct.o;omega,.inr ⟨by omega,jQ⟩⟩;have aQ:=zq aq;clear bg aJ aq e1 e2;go_wp2_with fail;have aq:=aQ.o
       exact⟨aq,by simp[intOf]<;>omega⟩
      obtain⟨m,hm⟩:=xq ((j9 fs i ks j).length)
      have zY:m<=M+j*33:=by rw[hm];exact CI.o
      have hown:wr.ownsRow w.heap.size 5 1 u4 m (Qu (j9 fs i ks j)):=by rw[hm];exact hown
      have tN:=zq hm;have hzz:w.heap.size<=wr.heap.size:=bH.o.size;have hMb:=ct.o;clear hm;by_cases mZ:j=0
      case' pos=>
       have sZ: ¬(0:Int)<(j:Int):=by omega
       have PF:=zq mZ;obtain⟨mY,NU⟩:=xq m;rw[<-NU]at hown zY tN;have HBY:=bH;have AQ:=pI;have MB:=zq hown
       have HTY:cl (j9 fs i ks j++mJ j=j9 fs i ks j):=by show _=_;simp[mJ,PF.o]
       have HMY:cl (mY=(j9 fs i ks j).length):=tN.o
       have agv:mY<=M+j*33+1:=by omega
       clear NU hown mZ hp
      case' neg=>
       have sZ:(0:Int)<(j:Int):=by omega
       go_wp2_with (at_builtin;refine abn _ rfl _ _ 88 rfl w.heap.size 5 i0 (A fa 0) 1 1 dk hi hz0 hz1 hz2 rfl (by decide) _ _ _ rfl (aaU hown _) ⟨wr.heap.size,0,Z⟩ 1 1 [A fa 32] rfl rfl (ar.Qg _ _ _ _ rfl) (by simp[Value.oneCell']) (by unfold maxLen;omega) (by omega) (by simp;omega) ?_);intro v3 w3 aB ax _ eZ;have hb3:ca w.heap.size w w3:=aaF (bH.o.alloc (by omega) _) ax (by simp;omega) (fun q hq=>(aaB hown q hq).1)
       have AQ:w.heap.size<w3.heap.size:=by have:=ax.size;simp at this;omega
       obtain⟨mY,NU⟩:=xq (m+1);have HBY:=zq hb3
       have MB:cl (w3.ownsRow w.heap.size 5 1 v3 mY (Qu (j9 fs i ks j++mJ j))):=by show World.ownsRow _ _ _ _ _ _ _;rw[NU,mJ,if_neg mZ,Qs];exact aB
       obtain⟨TY,hTY⟩:=xq (j9 fs i ks j++mJ j);rw[<-hTY]at MB;have HTY:cl (j9 fs i ks j++mJ j=TY):=hTY.symm
       have HMY:cl (mY=TY.length):=by show _=_;rw[hTY,aag,<-tN.o,NU,mJ,if_neg mZ];rfl
       have c1:=tH.o w3 hb3;have e0:=HE0.o w3 hb3
       have agv:mY<=M+j*33+1:=by omega
       clear hown aB ax eZ hb3 hTY NU
      all_goals
       go_wp2_with fail;refine(HIT.o _ HBY k ue NP).mono ?_;rintro e w5 ⟨rfl,bG⟩;obtain⟨TT,lY⟩:=xq (⟨(aj.aA k.toNat).toArray⟩:ByteArray);rw[<-lY]
       have jC:TT.size=(aj.aA k.toNat).length:=by rw[lY];show (aj.aA k.toNat).toArray.size=_;simp
       have CW:cl (Lib.strCells TT=Qu (aj.aA k.toNat)):=by show _=_;rw[lY,Jt,We]
       have hTp:0<TT.size:=by rw[jC];exact Qqc
       have hTb:TT.size<=32:=by rw[jC];exact Qqf NP
       have tT:=zq jC;have HO5:=zq (Qy MB.o bG (aab _));have cS:=zq (HBY.o.trans (bG.mono HBY.o.size));have yu:=cS.o.size;have ahb:w.heap.size<w5.heap.size:=aal AQ bG.size;clear bG lY jC;go_wp2_with (at_builtin;refine Zf rfl _ _ 88 9 rfl w.heap.size 5 i0 dk fm hi hz0 hz1 hz2 _ _ _ rfl HO5.o TT rfl (by omega) (by omega) ?_);intro v4 w4 bg aJ zA;have cC:cl (ca w.heap.size w w4):=aaF cS.o aJ yu (fun q hq=>(aaB HO5.o q hq).1)
       have e2:(j9 fs i ks (j+1)).length=mY+TT.size:=by rw[Gh HK.o,HTY.o,aag,<-HMY.o,tT.o]
       have jQ:cl (cE w.heap.size w4 v4 (j9 fs i ks (j+1))):=by show World.ownsRow _ _ _ _ _ _ _;rw[e2,Gh HK.o,HTY.o,Qs _ (aj.aA k.toNat),<-CW.o];exact bg
       have eQ:cl (w.heap.size<w4.heap.size):=by show _<_;have:=aJ.size;omega
       have aq:MX fs i ks M w v4 (A G ((j:Int)+1)) w4:=⟨j+1,by go_num,by rw[<-kT.o];omega,Qzg iN HK ue,cC,eQ,by rw[e2];omega,.inr ⟨by omega,jQ⟩⟩;have aQ:=zq aq;clear bg aJ zA aq e2;go_wp2_with fail;have aq:=aQ.o
       exact⟨aq,by simp[intOf]<;>omega⟩
     have dA:k<0:=by omega
     have eK:cl (¬ik fs):=fun h=>ue ((h ks (aai FX)).2 k (aai HK));go_wp2_with fail;go_ret2;refine⟨?_,bH⟩;unfold zk zj;rw[if_neg eK.o,if_neg eK.o];rfl
    have jo:j=kl:=by omega
    have HG:cl (Kl ks):=by
     refine⟨fun e=> ?_,fun k hk=>iN.o k ?_⟩
     ·have:=kT.o;rw[e]at this;simp at this;omega
     rw[aam (by rw[<-kT.o];omega)];exact hk
    have uX:cl (cE w.heap.size wr u4 (mQ fs (i+1))):=by
     rcases uI.o with ⟨-,h0,-⟩|⟨-,h⟩
     ·omega
     rw[Qqb FX.o,<-kT.o,<-jo];exact h
    have aq:TtO fs w u4 (A G ((i:Int)+1)) wr:=⟨i+1,by go_num,by rw[<-bw.o];omega,Qpw eX FX HG,bH,pI,by
     rw[Qqb FX.o,<-kT.o];have h1:=CI.o;rw[jo]at h1;have:=ct.o
     omega,.inr ⟨by omega,uX⟩⟩
    have aQ:=zq aq;clear aq jo hbl;go_wp2_with fail;have aq:=aQ.o
    exact⟨aq,by simp[intOf]<;>omega⟩
  have dD:i=n:=by omega
  subst dD;have QF:cl (ik fs):=fun ks hk=>eX.o ks (by rw[aam (by rw[<-bw.o];exact aab _)];exact hk)
  have HCT:cl (zk fs=⟨(mQ fs i++[125]).toArray⟩/\zj fs=0):=by
   refine⟨?_,?_⟩
   ·unfold zk;rw[if_pos QF.o,Qc9,<-bw.o]
   unfold zj;rw[if_pos QF.o]
  rcases jP.o with ⟨xw,kq,nW⟩|⟨hp,hown⟩
  ·have yC:cl (mQ fs i=[123]):=by show _=_;rw[xw,Pf]
   subst kq;have ac5:cl (∀o,(wr.alloc o).cell? ⟨w.heap.size,0,Z⟩=F (A fa 123)):=fun o=>Qx (Qq wr o) nW;have hzz:w.heap.size<=wr.heap.size:=aL.o.size;clear nW xw hbl;go_wp2_with (at_builtin;refine Rv rfl _ _ 88 rfl w.heap.size 5 i0 dk hi hz0 hz1 hz2 w.heap.size rfl _ (ac5.o _) wr.heap.size rfl (A fa 125) ((adL _ _ _ _ rfl).trans rfl) (by simp;omega) ?_);intro v3 w3 aB ax;have aV:cl (ca w.heap.size w w3):=aaF (aL.o.alloc (by omega) _) ax (by simp;omega) (fun q hq=>by cases hq)
   have wQ:cE w.heap.size w3 v3 ([123]++[125]):=by show World.ownsRow _ _ _ _ _ _ _;exact aB
   have hcv:=Z9 wQ;clear aB ax wQ;go_wp2_with fail;go_ret2;exact⟨by rw[HCT.o.1,HCT.o.2,yC.o];rfl,aV⟩
  obtain⟨m,hm⟩:=xq ((mQ fs i).length)
  have zY:m<=1+i*34603010:=by rw[hm];exact HLEN.o
  have hown:wr.ownsRow w.heap.size 5 1 u4 m (Qu (mQ fs i)):=by rw[hm];exact hown
  have tN:=zq hm;have hzz:w.heap.size<=wr.heap.size:=aL.o.size;clear hm hbl;go_wp2_with (at_builtin;refine abn _ rfl _ _ 88 rfl w.heap.size 5 i0 (A fa 0) 1 1 dk hi hz0 hz1 hz2 rfl (by decide) _ _ _ rfl (aaU hown _) ⟨wr.heap.size,0,Z⟩ 1 1 [A fa 125] rfl rfl (ar.Qg _ _ _ _ rfl) (by simp[Value.oneCell']) (by unfold maxLen;omega) (by omega) (by simp;omega) ?_);intro v3 w3 aB ax _ eZ;have aV:cl (ca w.heap.size w w3):=aaF (aL.o.alloc (by omega) _) ax (by simp;omega) (fun q hq=>(aaB hown q hq).1)
  have wQ:cE w.heap.size w3 v3 (mQ fs i++[125]):=by
   show World.ownsRow _ _ _ _ _ _ _
   have e2:(mQ fs i++[125]).length=m+1:=by rw[aag,<-tN.o];rfl
   rw[e2,Qs];exact aB
  have hcv:=Z9 wQ;clear hown aB ax eZ wQ;go_wp2_with fail;go_ret2;exact⟨by rw[HCT.o.1,HCT.o.2];rfl,aV⟩
theorem Fe (r c:Int)(n:Nat)(w:de)(hn:n<=1099511627776):dq co 80 #[A G r,A G c,A G n] w fun e w'=>e=c9 (dj (decide (Yw r c n)))/\w=w':=by
 by_cases h1:0<=r
 ·by_cases h2:r<=64
  ·by_cases h3:0<=c
   ·by_cases h4:c<=64
    ·obtain⟨rn,rfl⟩:=acQ h1
     obtain⟨cn,rfl⟩:=acQ h3;have hm:rn*cn<=64*64:=aa3 (by omega) (by omega);obtain⟨m,ei⟩:=xq (rn*cn)
     have hmul:(rn:Int)*(cn:Int)=((m:Nat):Int):=by rw[ei];rfl
     have hw:IntKind.i64.wrap ((m:Nat):Int)=((m:Nat):Int):=abh _ (by omega);by_cases h5:n=m
     ·have heq:(((n:Nat):Int)==((m:Nat):Int))=dl:=by rw[h5];simp
      have HF:cl (decide (Yw (rn:Int) (cn:Int) n)=dl):=aa7 ⟨⟨h1,h2⟩,⟨h3,h4⟩,by rw[hmul,h5]⟩;clear ei h5;go_enter ex,ef;go_wp2_with fail;go_ret;exact⟨by rw[HF.o];rfl,rfl⟩
     have heq:(((n:Nat):Int)==((m:Nat):Int))=ce:=by simp;omega
     have HF:cl (decide (Yw (rn:Int) (cn:Int) n)=ce):=aaQ (fun h=>h5 (by have:=h.2.2;rw[hmul]at this;omega));clear ei h5;go_enter ex,ef;go_wp2_with fail;go_ret;exact⟨by rw[HF.o];rfl,rfl⟩
    have HF:cl (decide (Yw r c n)=ce):=aaQ (fun h=>h4 h.2.1.2);go_enter ex,ef;go_wp2_with fail;go_ret;exact⟨by rw[HF.o];rfl,rfl⟩
   have HF:cl (decide (Yw r c n)=ce):=aaQ (fun h=>h3 h.2.1.1);go_enter ex,ef;go_wp2_with fail;go_ret;exact⟨by rw[HF.o];rfl,rfl⟩
  have HF:cl (decide (Yw r c n)=ce):=aaQ (fun h=>h2 h.1.2);go_enter ex,ef;go_wp2_with fail;go_ret;exact⟨by rw[HF.o];rfl,rfl⟩
 have HF:cl (decide (Yw r c n)=ce):=aaQ (fun h=>h1 h.1.1);go_enter ex,ef;go_wp2_with fail;go_ret;exact⟨by rw[HF.o];rfl,rfl⟩
theorem Aw (r c:Nat){l:List (Bool×List Nat)}(hv:qa w v l)(hr:r<=64)(hc:c<=64)(hn:l.length=r*c)(fV:∀p∈l,p.2.length<=1048576):dq co 42 #[fb #[A G r,A G c,v]] w fun e w'=>e=c9 (du #[db ⟨(Yf r c (Xg (jr l))).toArray⟩,A G 0])/\ca w.heap.size w w':=by
 obtain⟨i0,hi,hz0,xx,hz2'⟩:=aa0 Tryz.iA;have HV:=zq hv;have fp:=zq fV;obtain⟨ao,cap,rfl,h1,h2,h3⟩:=hv;obtain⟨n,bu⟩:=xq l.length;rw[<-bu]at h1 hn ⊢
 have yg:n<=4096:=by rw[hn];exact aa3 hr hc
 have HN:=zq hn;have bw:=zq bu;have H3:=zq h3;have HA:=zq (Qq w (O #[A G r,A G c,U ao n cap] 47));have jh:=zq (aap w (O #[A G r,A G c,U ao n cap] 47));have RH:=zq (M9 r c n (w.alloc (O #[A G r,A G c,U ao n cap] 47)) hr hc hn)
 have HST:cl (((w.alloc (O #[A G r,A G c,U ao n cap] 47)).alloc (O #[] 9)).ownsRow (w.heap.size+1) 9 1 (U (F ⟨w.heap.size+1,0,Z⟩) 0 0) 0 []):=by have:=ab3 (base:=w.heap.size+1) (e:=9) (size:=1) (w.alloc (O #[A G r,A G c,U ao n cap] 47)) #[] 0 (by simp) (by unfold maxLen;omega) rfl;rw[aaV]at this;exact this
 have aI:=zq (Qq (w.alloc (O #[A G r,A G c,U ao n cap] 47)) (O #[] 9));clear hn bu h3 fV;go_enter func42,gc;go_wp2_with fail;refine RH.o.mono ?_;rintro e w1 ⟨rfl,bA⟩;subst bA;obtain⟨w1,bA⟩:∃w1,w1=w.alloc (O #[A G r,A G c,U ao n cap] 47):=⟨_,rfl⟩;rw[<-bA]at HA jh HST aI ⊢
 have hz1:w1.heap.size=w.heap.size+1:=by rw[bA];simp
 rw[<-hz1]at HST;have HZ1:=zq hz1
 have AP:w.heap.size<w1.heap.size:=by omega
 clear bA hz1;go_wp2_with fail;go_loopw [4,5] (fun lv iv wr=> ∃i:Nat,iv=A G i/\i<=n/\wr.ownsRow w1.heap.size 9 1 lv i (dr (Xg (jr (l.take i))))/\ca w1.heap.size w1 wr) (fun _ iv _=>(n-intOf iv).toNat)
 case atStart=>exact⟨0,rfl,aat _,by simpa [Xg,dr,jr] using HST.o,aI⟩
 case round=>
  obtain⟨i,rfl,ir,hown,hbl⟩:=hrel;have HOWN:=zq hown;have aL:=zq hbl;obtain⟨bo,ez,rfl,qK,lp,rK⟩:=Qj hown;have hz1':=hbl.size;have bN:=(aL.o.block w.heap.size (by omega)).trans jh;have e0:wr.cell? ⟨w.heap.size,0,Z⟩=F (A G r):=(aaj wr _ _ _ _ _ bN).trans rfl;have e1:wr.cell? ⟨w.heap.size,1,Z⟩=F (A G c):=(aaj wr _ _ _ _ _ bN).trans rfl;have e2:wr.cell? ⟨w.heap.size,2,Z⟩=F (U ao n cap):=(aaj wr _ _ _ _ _ bN).trans rfl;have dY:cl (ca w.heap.size w wr):=HA.o.trans (aL.o.mono (by omega));clear hown hbl rK bN;by_cases hlt:i<n
  ·obtain⟨g,o,rfl,hg,hcell⟩:=H3.o (by rw[<-bw.o];omega)
   obtain⟨p,hp⟩:∃p,l[i]?=F p:=⟨_,aad (by rw[<-bw.o];omega)⟩;obtain⟨m,c0,c1,bQ⟩:=hcell i p hp;obtain⟨neg,xs⟩:=p;simp only at c0 c1 bQ;have fD:=fp.o _ (aai hp);simp only at fD;obtain⟨k,hval⟩:∃k,val xs=k:=⟨_,rfl⟩;obtain⟨mo,gI,uf,-⟩:=bQ.2;subst uf;have d0:wr.cell? ⟨g,o+i*2,Z⟩=F (dj neg):=(dY.o.cell (p:=⟨g,o+i*2,Z⟩) hg).trans c0;have d1:wr.cell? ⟨g,o+i*2+1,Z⟩=F (U mo xs.length gI):=(dY.o.cell (p:=⟨g,o+i*2+1,Z⟩) hg).trans c1;have gj:=zq (bQ.below dY);have HP:=zq hp
   have iO:cl ((Xu neg k).length<=2147483648):=by have:=Zy (xs:=xs) neg (by omega) bQ.ok;rw[hval]at this;exact this
   have MN:=zq (Tk neg k wr ⟨xs,gj.o,hval,by omega⟩);have gm:=zq hval;clear c0 c1 bQ hval hp hcell;go_wp2_with fail;refine MN.o.mono ?_;rintro e w3 ⟨rfl,hb3⟩;obtain⟨T,hT⟩:=xq (Xu neg k);rw[<-hT];have HT:=zq hT;have aV:=zq hb3;have fu:=zq (Qy HOWN.o hb3 (aab _));have hz3:=hb3.size;clear hb3 hT d0 d1 e0 e1 e2;go_wp2_with (at_builtin;refine abn _ rfl _ _ 105 rfl w1.heap.size 9 i0 (db ⟨#[]⟩) 1 16 ff hi hz0 xx hz2' rfl (by decide) _ _ _ rfl (aaU fu.o _) ⟨w3.heap.size,0,Z⟩ 1 1 [db ⟨T.toArray⟩] rfl rfl (ar.Qg _ _ _ _ rfl) (by simp[Value.oneCell']) (by unfold maxLen;omega) (by omega) (by simp;omega) ?_);intro v4 w4 bg aJ _ gB
   have cm:dr (Xg (jr (l.take (i+1))))=dr (Xg (jr (l.take i)))++[db ⟨T.toArray⟩]:=by rw[aaI,HP.o];simp[Xg,dr,jr,HT.o,gm.o]
   have jQ:cl (w4.ownsRow w1.heap.size 9 1 v4 (i+1) (dr (Xg (jr (l.take (i+1)))))):=by show World.ownsRow _ _ _ _ _ _ _;rw[cm];exact bg
   have cC:cl (ca w1.heap.size w1 w4):=aaF ((aL.o.trans (aV.o.mono hz1')).alloc (by omega) _) aJ (by simp;omega) (fun q hq=>(aaB fu q hq).1);clear bg aJ gB cm;go_wp2_with fail;have aq:w4.ownsRow w1.heap.size 9 1 v4 (i+1) (dr (Xg (jr (l.take (i+1)))))/\ca w1.heap.size w1 w4:=⟨jQ,cC⟩
   exact⟨⟨i+1,rfl,by omega,aq⟩,by simp[intOf]<;>omega⟩
  have dD:i=n:=by omega
  have bF:l.take i=l:=aam (by rw[dD];exact abT bw.o.symm);rw[bF]at HOWN;have qu:=zq dD
  have iq:(Xg (jr l)).length=r*c:=by unfold Xg jr;rw[aas,aas,<-bw.o,HN.o]
  have PG:cl (dq co 82 #[A G r,A G c,U bo i ez] wr fun e w'=>e=c9 (db ⟨(Yf r c (Xg (jr l))).toArray⟩)/\ca wr.heap.size wr w'):=by
   by_cases h0:r=0\/c=0
   ·have dR:i=0:=by
     rw[qu.o,HN.o]
     rcases h0 with h|h<;>rw[h]<;>simp
    have hl0:Xg (jr l)=[]:=aau (by rw[iq,<-HN.o,<-qu.o,dR]);rw[dR,hl0];exact(M7 r c bo ez wr hr hc h0).mono fun e w' hp=>⟨hp.1,by rw[hp.2];exact aaw _ _⟩
   obtain⟨r',rfl⟩:∃r',r=r'+1:=⟨r-1,by omega⟩;refine M8 r' c (SS.dh HOWN) hr hc (by omega) iq ?_ ?_
   ·intro b hb
    unfold Xg jr at hb;rw[ab2,abw]at hb;obtain⟨p,hp,rfl⟩:=hb;obtain⟨j,hj⟩:=acd hp
    have hl0:0<l.length:=by have:=(aaf.1 hj).1;omega
    obtain⟨g,o,_,_,hcell⟩:=H3.o hl0;obtain⟨m,_,_,bQ⟩:=hcell j p hj;exact Zy p.1 (by have:=fp.o p hp;omega) bQ.ok
   intro b hb;unfold Xg jr at hb;rw[ab2,abw]at hb;obtain⟨p,hp,rfl⟩:=hb;exact Fz _ _
  clear bF dD iq;go_wp2_with fail;refine PG.o.mono ?_;rintro e w3 ⟨rfl,hb3⟩;have aV:=zq (Qv dY hb3);clear hb3 e0 e1 e2;go_wp2_with fail;go_ret2;exact⟨rfl,aV⟩
theorem Ak (r c:Int){l:List (Bool×List Nat)}(hv:qa w v l)(hl:l.length<=1048576)(fV:∀p∈l,p.2.length<=1048576):dq co 42 #[fb #[A G r,A G c,v]] w fun e w'=>e=c9 (du #[db (Ok r c (jr l)),A G (Oj r c (jr l))])/\ca w.heap.size w w':=by
 have kK:(jr l).length=l.length:=by unfold jr;rw[aas]
 by_cases hs:Yw r c l.length
 ·have hs2:=hs
  obtain⟨⟨h1,h2⟩,⟨h3,h4⟩,h5⟩:=hs2;obtain⟨rn,rfl⟩:=acQ h1;obtain⟨cn,rfl⟩:=acQ h3;refine(Aw rn cn hv (by omega) (by omega) (by have h6:=h5;rw[<-abH]at h6;omega) fV).mono ?_;rintro e w' ⟨rfl,hb⟩;refine⟨?_,hb⟩;unfold Ok Oj;rw[kK,if_pos hs,if_pos hs];simp
 have HF:cl (dq co 80 #[A G r,A G c,A G (l.length:Nat)] (w.alloc (O #[A G r,A G c,v] 47)) fun e w'=>e=c9 (dj ce)/\w.alloc (O #[A G r,A G c,v] 47)=w'):=by have:=Fe r c l.length (w.alloc (O #[A G r,A G c,v] 47)) (by omega);rw[aaQ hs]at this;exact this
 have HS:=zq hs;have jS:=zq kK;obtain⟨ao,cap,rfl,-,-,-⟩:=hv;have HA:=zq (Qq w (O #[A G r,A G c,U ao l.length cap] 47));clear hs kK fV;go_enter func42,gc;go_wp2_with fail;refine HF.o.mono ?_;rintro e w1 ⟨rfl,rfl⟩;go_wp2_with fail;go_ret2;refine⟨?_,HA⟩;unfold Ok Oj;rw[jS.o,if_neg HS.o,if_neg HS.o];rfl
def QtR (ql:List FW)(n:Nat)(w1:de)(lv iv:da)(wr:de):Prop:=∃i:Nat,iv=A G i/\i<=n/\Vn (gO (ql.take i))/\wr.ownsRow w1.heap.size 9 1 lv i (dr (iM (gO (ql.take i))))/\ca w1.heap.size w1 wr
def QtP (r c:Nat)(l:List FW)(w:de)(e:Ending)(w':de):Prop:=e=(if Vn (gO l) then c9 (du #[db ⟨(Yf r c (iM (gO l))).toArray⟩,A G 0]) else c9 (du #[db ⟨#[]⟩,A G 4]))/\ca w.heap.size w w'
theorem Qw1 {na nb:Bool}{y:Nat}{ys:List Nat}(hx:val xs=x)(hy:val ys=y)(ox:ok xs)(oy:ok ys)(fD:xs.length<=1048576)(pJ:ys.length<=1048576):(Vr na nb x y).length<=2147483648:=by
 obtain⟨N,J⟩:=xq 1048576;rw[<-J]at fD pJ
 have h:∀(b:Bool) (z:Nat),z<BB^N->(Xu b z).length<=34603010:=fun b z hz=>by
  have K:=Zw hz;unfold Xu
  have bi:(Yb z).length<=34603009:=by
   unfold Yb;split
   ·simp
   rw[aas];omega
  split
  ·simp only[aaq];omega
  omega
 have E:∀{zs:List Nat} {z:Nat},val zs=z->ok zs->zs.length<=N->z<BB^N:=fun {zs z} hz ho hl=>by rw[<-hz];exact aal (aN ho) (aa6 aC hl)
 have H:=E hx ox fD;have I:=E hy oy pJ;have a1:=h ((na !=nb) && decide (x / Nat.gcd x y≠0)) (x / Nat.gcd x y) (abp (acB _ _) H);have a2:=h ce (y / Nat.gcd x y) (abp (acB _ _) I);unfold Vr;rw[aag];split
 ·simp only[aa5];omega
 simp only[aaq];omega
theorem Qw5 {b:Bool}{z:Nat}{l:Bytes}:Xu b z++l≠[]:=fun h=>Fz b z (List.append_eq_nil_iff.1 h).1
theorem Es (r c:Nat){l:List FW}(hv:xY w v l)(hr:r<=64)(hc:c<=64)(hn:l.length=r*c)(fV:∀p∈l,p.1.2.length<=1048576/\p.2.2.length<=1048576):dq co 43 #[fb #[A G r,A G c,v]] w (QtP r c l w):=by
 obtain⟨i0,hi,hz0,xx,hz2'⟩:=aa0 Tryz.iA;have HV:=zq hv;have fp:=zq fV;obtain⟨ao,cap,rfl,h1,h2,h3⟩:=hv;obtain⟨n,bu⟩:=xq l.length;rw[<-bu]at h1 hn ⊢
 have yg:n<=4096:=by rw[hn];exact aa3 hr hc
 have HN:=zq hn;have bw:=zq bu;have H3:=zq h3;have HA:=zq (Qq w (O #[A G r,A G c,U ao n cap] 58));have jh:=zq (aap w (O #[A G r,A G c,U ao n cap] 58));have RH:=zq (M9 r c n (w.alloc (O #[A G r,A G c,U ao n cap] 58)) hr hc hn)
 have HST:cl (((w.alloc (O #[A G r,A G c,U ao n cap] 58)).alloc (O #[] 9)).ownsRow (w.heap.size+1) 9 1 (U (F ⟨w.heap.size+1,0,Z⟩) 0 0) 0 []):=by have:=ab3 (base:=w.heap.size+1) (e:=9) (size:=1) (w.alloc (O #[A G r,A G c,U ao n cap] 58)) #[] 0 (by simp) (by unfold maxLen;omega) rfl;rw[aaV]at this;exact this
 have aI:=zq (Qq (w.alloc (O #[A G r,A G c,U ao n cap] 58)) (O #[] 9));clear hn bu h3 fV;go_enter func43,gd;go_wp2_with fail;refine RH.o.mono ?_;rintro e w1 ⟨rfl,bA⟩;subst bA;obtain⟨w1,bA⟩:∃w1,w1=w.alloc (O #[A G r,A G c,U ao n cap] 58):=⟨_,rfl⟩;rw[<-bA]at HA jh HST aI ⊢
 have hz1:w1.heap.size=w.heap.size+1:=by rw[bA];simp
 rw[<-hz1]at HST;have HZ1:=zq hz1
 have AP:w.heap.size<w1.heap.size:=by omega
 clear bA hz1;go_wp2_with fail;go_loopw [4,5] (fun lv iv wr=>QtR l n w1 lv iv wr) (fun _ iv _=>(n-intOf iv).toNat)
 case atStart=>exact⟨0,rfl,aat _,(fun p hp=>by simp[gO]at hp),by simpa [iM,dr,gO] using HST.o,aI⟩
 case round=>
  obtain⟨i,rfl,ir,bm,hown,hbl⟩:=hrel;have bS:=zq bm;have HOWN:=zq hown;have aL:=zq hbl;obtain⟨bo,ez,rfl,qK,lp,rK⟩:=Qj hown;have hz1':=hbl.size;have bN:=(aL.o.block w.heap.size (by omega)).trans jh;have e0:wr.cell? ⟨w.heap.size,0,Z⟩=F (A G r):=(aaj wr _ _ _ _ _ bN).trans rfl;have e1:wr.cell? ⟨w.heap.size,1,Z⟩=F (A G c):=(aaj wr _ _ _ _ _ bN).trans rfl;have e2:wr.cell? ⟨w.heap.size,2,Z⟩=F (U ao n cap):=(aaj wr _ _ _ _ _ bN).trans rfl;have dY:cl (ca w.heap.size w wr):=HA.o.trans (aL.o.mono (by omega));clear bm hown hbl rK bN;by_cases hlt:i<n
  ·obtain⟨g,o,rfl,hg,hcell⟩:=H3.o (by rw[<-bw.o];omega)
   obtain⟨p,hp⟩:∃p,l[i]?=F p:=⟨_,aad (by rw[<-bw.o];omega)⟩;obtain⟨m,m2,c0,c1,bQ,c2,c3,cO⟩:=hcell i p hp;obtain⟨⟨na,xs⟩,⟨nb,ys⟩⟩:=p;simp only at c0 c1 c2 c3 bQ cO;obtain⟨fD,pJ⟩:=fp.o _ (aai hp);simp only at fD pJ;obtain⟨x,Oh⟩:∃x,val xs=x:=⟨_,rfl⟩;obtain⟨y,yr⟩:∃y,val ys=y:=⟨_,rfl⟩;obtain⟨mo,gI,uf,-⟩:=bQ.2;obtain⟨EW,jZ,JW,-⟩:=cO.2;subst uf;subst JW;have d0:wr.cell? ⟨g,o+i*4,Z⟩=F (dj na):=(dY.o.cell (p:=⟨g,o+i*4,Z⟩) hg).trans c0;have d1:wr.cell? ⟨g,o+i*4+1,Z⟩=F (U mo xs.length gI):=(dY.o.cell (p:=⟨g,o+i*4+1,Z⟩) hg).trans c1;have d2:wr.cell? ⟨g,o+i*4+2,Z⟩=F (dj nb):=(dY.o.cell (p:=⟨g,o+i*4+2,Z⟩) hg).trans c2;have d3:wr.cell? ⟨g,o+i*4+3,Z⟩=F (U EW ys.length jZ):=(dY.o.cell (p:=⟨g,o+i*4+3,Z⟩) hg).trans c3;have HP:=zq hp;have HX:=zq Oh;have HY:=zq yr;have MN:=zq (Qvh na nb x y wr ⟨xs,bQ.below dY,Oh,by omega⟩ ⟨ys,cO.below dY,yr,by omega⟩);have HQT:cl (qTx ((na,x),(nb,y))=Vr na nb x y):=rfl;clear c0 c1 c2 c3 bQ cO Oh yr hp hcell;by_cases ja:y=0
   ·have xP:cl (¬Vn (gO l)):=fun h=>by
     refine h ((na,val xs),(nb,val ys)) ?_ (by show val ys=0;rw[HY.o];exact ja);exact abw.2 ⟨((na,xs),(nb,ys)),aai HP,rfl⟩
    have tW:=zq ja;clear ja;go_wp2_with fail;refine MN.o.mono ?_;rintro e w3 ⟨he,hb3⟩;rw[if_pos tW.o]at he;subst he;have aV:=zq (dY.o.trans (hb3.mono dY.o.size));clear hb3 d0 d1 d2 d3 e0 e1 e2;go_wp2_with fail;go_ret2;unfold QtP;refine⟨?_,aV⟩;rw[if_neg xP.o];rfl
   have tW:=zq ja;clear ja;go_wp2_with fail;refine MN.o.mono ?_;rintro e w3 ⟨he,hb3⟩;rw[if_neg tW.o]at he;subst he;obtain⟨T,hT⟩:=xq (Vr na nb x y);rw[<-hT];have HT:=zq hT;have aV:=zq hb3;have fu:=zq (Qy HOWN.o hb3 (aab _));have hz3:=hb3.size;clear hb3 hT d0 d1 d2 d3 e0 e1 e2;go_wp2_with (at_builtin;refine abn _ rfl _ _ 105 rfl w1.heap.size 9 i0 (db ⟨#[]⟩) 1 16 ff hi hz0 xx hz2' rfl (by decide) _ _ _ rfl (aaU fu.o _) ⟨w3.heap.size,0,Z⟩ 1 1 [db ⟨T.toArray⟩] rfl rfl (ar.Qg _ _ _ _ rfl) (by simp[Value.oneCell']) (by unfold maxLen;omega) (by omega) (by simp;omega) ?_);intro v4 w4 bg aJ _ gB
   have cm:dr (iM (gO (l.take (i+1))))=dr (iM (gO (l.take i)))++[db ⟨T.toArray⟩]:=by rw[aaI,HP.o];simp[iM,dr,gO,HT.o,HX.o,HY.o,HQT.o]
   have dc:Vn (gO (l.take (i+1))):=by
    rw[aaI,HP.o];intro q hq;simp only[gO,Option.toList_some,abl,abq,abX,aaP,aaO]at hq;rcases hq with hq|rfl
    ·exact bS.o q hq
    show val ys≠0;rw[HY.o];exact tW.o
   have jQ:cl (w4.ownsRow w1.heap.size 9 1 v4 (i+1) (dr (iM (gO (l.take (i+1)))))):=by show World.ownsRow _ _ _ _ _ _ _;rw[cm];exact bg
   have cC:cl (ca w1.heap.size w1 w4):=aaF ((aL.o.trans (aV.o.mono hz1')).alloc (by omega) _) aJ (by simp;omega) (fun q hq=>(aaB fu q hq).1);have aq:QtR l n w1 v4 (A G ((i:Int)+1)) w4:=⟨i+1,by go_num,by omega,dc,jQ,cC⟩;have aQ:=zq aq;clear bg aJ gB cm dc aq;go_wp2_with fail;have aq:=aQ.o
   exact⟨aq,by simp[intOf]<;>omega⟩
  have dD:i=n:=by omega
  have bF:l.take i=l:=aam (by rw[dD];exact abT bw.o.symm);rw[bF]at HOWN bS;have qu:=zq dD
  have iq:(iM (gO l)).length=r*c:=by unfold iM gO;rw[aas,aas,<-bw.o,HN.o]
  have PG:cl (dq co 82 #[A G r,A G c,U bo i ez] wr fun e w'=>e=c9 (db ⟨(Yf r c (iM (gO l))).toArray⟩)/\ca wr.heap.size wr w'):=by
   by_cases h0:r=0\/c=0
   ·have dR:i=0:=by
     rw[qu.o,HN.o]
     rcases h0 with h|h<;>rw[h]<;>simp
    have hl0:iM (gO l)=[]:=aau (by rw[iq,<-HN.o,<-qu.o,dR]);rw[dR,hl0];exact(M7 r c bo ez wr hr hc h0).mono fun e w' hp=>⟨hp.1,by rw[hp.2];exact aaw _ _⟩
   obtain⟨r',rfl⟩:∃r',r=r'+1:=⟨r-1,by omega⟩;refine M8 r' c (SS.dh HOWN) hr hc (by omega) iq ?_ ?_
   ·intro b hb
    unfold iM gO at hb;rw[ab2,abw]at hb;obtain⟨p,hp,rfl⟩:=hb;obtain⟨j,hj⟩:=acd hp
    have hl0:0<l.length:=by have:=(aaf.1 hj).1;omega
    obtain⟨g,o,_,_,hcell⟩:=H3.o hl0;obtain⟨m,m2,_,_,bQ,_,_,cO⟩:=hcell j p hj;exact Qw1 rfl rfl bQ.ok cO.ok (fp.o p hp).1 (fp.o p hp).2
   intro b hb;unfold iM gO at hb;rw[ab2,abw]at hb;obtain⟨p,hp,rfl⟩:=hb;exact Qw5
  clear bF dD iq;go_wp2_with fail;refine PG.o.mono ?_;rintro e w3 ⟨rfl,hb3⟩;have aV:=zq (Qv dY hb3);clear hb3 e0 e1 e2;go_wp2_with fail;go_ret2;unfold QtP;refine⟨?_,aV⟩;rw[if_pos bS.o];rfl
theorem El (r c:Int){l:List FW}(hv:xY w v l)(hl:l.length<=1048576)(fV:∀p∈l,p.1.2.length<=1048576/\p.2.2.length<=1048576):dq co 43 #[fb #[A G r,A G c,v]] w fun e w'=>e=c9 (du #[db (Ot r c (gO l)),A G (Oq r c (gO l))])/\ca w.heap.size w w':=by
 have kK:(gO l).length=l.length:=by unfold gO;rw[aas]
 by_cases hs:Yw r c l.length
 ·have hs2:=hs
  obtain⟨⟨h1,h2⟩,⟨h3,h4⟩,h5⟩:=hs2;obtain⟨rn,rfl⟩:=acQ h1;obtain⟨cn,rfl⟩:=acQ h3;refine(Es rn cn hv (by omega) (by omega) (by have h6:=h5;rw[<-abH]at h6;omega) fV).mono ?_;rintro e w' ⟨rfl,hb⟩;refine⟨?_,hb⟩;unfold Ot Oq;rw[kK,if_pos hs,if_pos hs];by_cases hd:Vn (gO l)
  ·rw[if_pos hd,if_pos hd,if_pos hd];simp
  rw[if_neg hd,if_neg hd,if_neg hd]
 have HF:cl (dq co 80 #[A G r,A G c,A G (l.length:Nat)] (w.alloc (O #[A G r,A G c,v] 58)) fun e w'=>e=c9 (dj ce)/\w.alloc (O #[A G r,A G c,v] 58)=w'):=by have:=Fe r c l.length (w.alloc (O #[A G r,A G c,v] 58)) (by omega);rw[aaQ hs]at this;exact this
 have HS:=zq hs;have jS:=zq kK;obtain⟨ao,cap,rfl,-,-,-⟩:=hv;have HA:=zq (Qq w (O #[A G r,A G c,U ao l.length cap] 58));clear hs kK fV;go_enter func43,gd;go_wp2_with fail;refine HF.o.mono ?_;rintro e w1 ⟨rfl,rfl⟩;go_wp2_with fail;go_ret2;refine⟨?_,HA⟩;unfold Ot Oq;rw[jS.o,if_neg HS.o,if_neg HS.o];rfl
open Go.ChangeShapes Go.WideShapes Go.ChangeAt
theorem IA: Tryz.prog.globalNamed "internal/strconv.uint64pow10" = F 0 := by kernel_rfl
theorem ahv:(Tryz.prog.globals[0]?).map (·.type)=F 221:=by kernel_rfl
theorem ahx:Tryz.prog.underlying 221=F (.array 20 101):=by kernel_rfl
theorem LK:Tryz.prog.underlying 101=F (.int .u64):=by kernel_rfl
theorem Ix:Tryz.prog.cellsOf 101=1:=by kernel_rfl
theorem ae0:Tryz.prog.cellsOf 221=20:=by kernel_rfl
theorem Az (h : laidMetH co Fy w) : Lib.TabIs co w "internal/strconv.uint64pow10" .u64 Lib.pow10Tab := by
 rw[adK _ _ _ (by kernel_rfl)]at h;exact Lib.tabIs_of_head (zs:=Lib.pow10Tab) IA ahv ahx LK Ix ae0 h.tail.tail
theorem Qhp (h : Lib.TabIs co w "internal/strconv.uint64pow10" .u64 Lib.pow10Tab) (hb : ca w.heap.size w w') : Lib.TabIs co w' "internal/strconv.uint64pow10" .u64 Lib.pow10Tab := by
 have H:w.cell? ⟨0,0,Z⟩=F (A .u64 (Lib.pow10Tab.getD 0 0)):=h.cell IA 0 (by rw[Lib.pow10Tab_length];omega);have E:=aaY w _ H;unfold Lib.TabIs World.var? at h ⊢;simp only[IA,Option.bind_some]at h ⊢;rw[hb.block _ E];exact h
theorem Bb (h:laidMetH co Fy w):zb w:=by
 intro w' H k I E;refine(strconv_Itoa k (by omega) E w' (Qhp (Az h) H)).mono ?_;rintro e w'' ⟨rfl,q,os,rfl⟩;refine⟨?_,Lib.below_grow _ _ (aab _) _ _⟩
 have e1:Lib.itoa k=aj.aA k.toNat:=by unfold Lib.itoa;rw[if_neg (by omega),Ju _ _ (aab _)]
 rw[e1]
end Go.Proofs.YtgfmiladfeoldaaGreatDoor
