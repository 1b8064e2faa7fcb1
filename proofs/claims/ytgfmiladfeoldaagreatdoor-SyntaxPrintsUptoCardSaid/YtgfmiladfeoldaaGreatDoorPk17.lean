import Derived.Test.YtgfmiladfeoldaaGreatDoorPk16
set_option linter.unusedSimpArgs false
set_option linter.unusedVariables false
set_option maxRecDepth 100000
set_option maxHeartbeats 16000000
namespace Go.Proofs.YtgfmiladfeoldaaGreatDoor
open Go.RowKit ag aF ai
theorem Tryz.EA:(Tryz.prog.info? 62).map (fun i=>(i.zero,i.size,i.bytes))=some (some (.agg #[.bool false,.slice none 0 0]),2,32):=by kernel_rfl
theorem Tryz.eT:(Tryz.prog.info? 47).map (·.size)=some 3:=by kernel_rfl
def FQ (t:Bytes)(P:List (Bool×Nat))(w:World)(ra:Nat)(fin:List Bytes×Nat×Bool)(ZY shv iv:Value)(wr:World):Prop:=
 ∃(i fr k r:Nat) (sh:Bool) (cs:List (Bool×Value)) (av:Value),ZY=.int .i64 (fr:Nat)/\shv=.bool sh/\iv=.int .i64 (i:Nat)/\wE t P w ra fin i fr k r sh cs av wr
theorem Bn (m:ae.cn)(hm:ae.Ue m)(w:World)(hlen:(ae.bB m).length<=1099511627776)(hd:∀p∈Ta m,(ae.ar p.2).length<=1048576/\(p.1=true->p.2≠0)):Calls Tryz.prog 154 #[.string ⟨(ae.bB m).toArray⟩] w fun e w'=> ∃v,e=.returned (.agg #[.int .i64 (m.rows:Nat),.int .i64 (m.aB:Nat),v])/\KI w.heap.size w' v m.at_/\Below w.heap.size w w':=by
 obtain⟨i0,eu,hz0,hz1,nk⟩:=abO Tryz.EA;obtain⟨t,ht⟩:=xq (ae.bB m);obtain⟨P,hP⟩:=xq (Ta m);obtain⟨fin,ah⟩:=xq (aq.iQ (ae.bB m).tail [] [] 1 false);have SP:=Qvs hm;rw[<-ah,<-hP]at SP;have HFV:=zq SP
 have vN:Hid (fin.1=P.map ae.bg):=by show _=_;rw[SP]
 obtain⟨b0,tl,xx⟩:∃b l,t=b::l:=by
  rw[ht];unfold ae.bB;split
  ·exact⟨91,_,rfl⟩
  exact⟨91,_,rfl⟩
 obtain⟨T,hT⟩:=xq (⟨t.toArray⟩:ByteArray)
 have bW:T.data.toList=t:=by rw[hT]
 have fL:T.size=t.length:=by rw[abg,bW]
 have JP:=zq fL;have fF:=zq bW
 have dm:T.size<=1099511627776:=by rw[fL,ht];exact hlen
 have HD:=zq hd;rw[<-hP]at HD;have HM:=zq hm;have zR:=zq hP
 have hPb:P.length<=67108864:=by
  rw[hP];unfold Ta;split
  ·show 2<=_;omega
  obtain⟨h1,h2,h3,-⟩:=hm;rw[h3];exact aan (ab7 h1 h2) (by decide)
 have hb1:=Qq w (.cells #[.int .i64 0,.int .i64 0,.slice none 0 0] 47);obtain⟨ra,SY⟩:=xq (w.heap.size+1)
 have HST:Hid (FQ t P w ra fin (.int .i64 1) (.bool false) (.int .i64 1) ((w.alloc (.cells #[.int .i64 0,.int .i64 0,.slice none 0 0] 47)).alloc (.cells #[.int .i64 1,.int .i64 0,.slice none 0 0] 47))):=by
  refine⟨1,1,0,1,false,[],.slice none 0 0,rfl,rfl,rfl,?_⟩;have hb2:=Qq (w.alloc (.cells #[.int .i64 0,.int .i64 0,.slice none 0 0] 47)) (.cells #[.int .i64 1,.int .i64 0,.slice none 0 0] 47);refine⟨by rw[xx];simp,⟨aaa _,aaa _⟩,?_,aao _,hPb,aaa _,?_,En.nil _ _,?_,?_,Qz hb1 hb2⟩
  ·rw[ah,<-ht,xx];rfl
  ·intro c hc;rw[xx]at hc;simp at hc
  ·have:=aaz (w.alloc (.cells #[.int .i64 0,.int .i64 0,.slice none 0 0] 47)) (.cells #[.int .i64 1,.int .i64 0,.slice none 0 0] 47)
   rw[adB,<-SY]at this;exact this
  exact(hb2.block _ (by simp)).trans (aaz w _)
 rw[<-ht,<-hT];clear ah SP xx hT bW hlen hd hP hb1 ht;go_enter Tryz.func154,Tryz.ntmps154;go_wp2_with fail;rw[<-SY];have HRA:=zq SY
 have DI:w.heap.size<ra:=by omega
 clear SY;go_loopw [4,5,6] (fun ZY shv iv wr=>FQ t P w ra fin ZY shv iv wr) (fun _ _ iv _=>T.size-(intOf iv).toNat)
 case atStart=>exact HST.o
 case round=>
  obtain⟨i,fr,k,r,sh,cs,av,rfl,rfl,rfl,cW⟩:=hrel;have cI:=zq cW;have kr:=cW.le;rw[<-fL]at kr;have qx:=cW.fl;have mX:=cW.rl;have bA:=cW.blk;have xt:ra<wr.heap.size:=(aal.1 bA).1
  have a0:wr.cell? ⟨ra,0,none⟩=some (.int .i64 ((r:Nat):Int)):=by rw[aam _ _ 0 _ _ _ bA];rfl
  have a1:wr.cell? ⟨ra,1,none⟩=some (.int .i64 0):=by rw[aam _ _ 1 _ _ _ bA];rfl
  have a2:wr.cell? ⟨ra,2,none⟩=some av:=by rw[aam _ _ 2 _ _ _ bA];rfl
  clear cW bA;by_cases hlt:i<T.size
  ·obtain⟨c,hc⟩:∃c,t[i]?=some c:=⟨_,aad (by rw[<-JP.o];exact hlt)⟩
   have hcT:T[i]=c:=by have h1:T.data.toList[i]?=some T[i]:=aad (by rw[fF.o,<-JP.o];exact hlt);rw[fF.o,hc]at h1;exact(aax h1).symm
   obtain⟨d,hd⟩:∃d:Nat,(T[i]).toNat=d:=⟨_,rfl⟩
   have jw:c.toNat=d:=by rw[<-hcT];exact hd
   have HC:=zq hc;have x7:=zq jw
   have yO:∀(x:UInt8) (n:Nat),x.toNat=n->(c==x)=decide (d=n):=by
    intro x n hx;rw[abA,adN,aaV];constructor
    ·intro h;rw[<-jw,h,hx]
    intro h;exact aer.1 (by rw[jw,hx,h])
   have HE:Hid (aq.gZ c=decide ((48<=d/\d<=57)\/d=45)):=by show _=_;unfold aq.gZ;rw[yO 45 45 rfl];rw[abA];simp[aF.Qf,jw]
   have H58:Hid ((c==58)=decide (d=58)):=yO 58 58 rfl
   have PN:Hid ((c=59)↔d=59):=by have:=yO 59 59 rfl;rw[abA,adN,aaV]at this;exact this
   clear hc hcT jw yO;by_cases he:(48<=d/\d<=57)\/d=45
   ·have ace:(((d:Nat):Int)==58)=false:=by simp;omega
    have HF:Hid (FQ t P w ra fin (.int .i64 (fr:Nat)) (.bool sh) (.int .i64 ((i+1:Nat):Int)) wr):=
     ⟨i+1,fr,k,r,sh,cs,av,rfl,rfl,rfl,cI.o.ZU HC.o (by rw[HE.o];exact abH he)⟩
    have dc:(((i+1:Nat):Int))=((i:Nat):Int)+1:=by omega
    rw[dc]at HF
    have qA:T.size-(intOf (.int .i64 (((i:Nat):Int)+1))).toNat<T.size-(intOf (.int .i64 ((i:Nat):Int))).toNat:=by simp[intOf];omega
    clear dc;rcases he with he|he
    ·obtain⟨x1,x2⟩:=he
     have n1:(48:Int)<=((d:Nat):Int):=by omega
     have n2:((d:Nat):Int)<=57:=by omega
     have m1:decide ((48:Int)<=((d:Nat):Int))=true:=abH n1;have m2:decide (((d:Nat):Int)<=57)=true:=abH n2;go_wp2_with fail
     first|exact⟨HF.o,qA⟩|exact⟨by (repeat apply Exists.intro);exact⟨HF.o,rfl⟩,qA⟩
    subst he;go_wp2_with fail
    first|exact⟨HF.o,qA⟩|exact⟨by (repeat apply Exists.intro);exact⟨HF.o,rfl⟩,qA⟩
   have CG:aq.gZ c=false:=by rw[HE.o];exact abC he
   have HEF:=zq CG;obtain⟨EI,mY⟩:=xq ((sh||c==58));have iw:=zq mY
   obtain⟨r2,hr2⟩:∃r2,r2=if c=59 then r+1 else r:=⟨_,rfl⟩
   have cZ:=zq hr2
   obtain⟨k2,hk2⟩:∃k2,k2=if fr=i then k else k+1:=⟨_,rfl⟩
   have ET:=zq hk2;have bR:=zq he
   have qA:T.size-(intOf (.int .i64 (((i:Nat):Int)+1))).toNat<T.size-(intOf (.int .i64 ((i:Nat):Int))).toNat:=by simp[intOf];omega
   clear CG mY hr2 hk2;go_upto_if 23 with fail;go_cut [5] (fun sv wx=>sv=.bool EI/\wx=wr)
   case first=>
    by_cases SA:d=58
    ·have n1:(((d:Nat):Int)==58)=true:=by simp;omega
     have cL:Hid (EI=true):=by show _=_;rw[iw.o,H58.o,abH SA];simp
     clear SA;go_wp2_with fail;go_meet;exact⟨by rw[cL.o],rfl⟩
    have n1:(((d:Nat):Int)==58)=false:=by simp;omega
    have cL:Hid (EI=sh):=by show _=_;rw[iw.o,H58.o,abC SA];simp
    clear SA;go_wp2_with fail;go_meet;exact⟨by rw[cL.o],rfl⟩
   case rest=>
    obtain⟨rfl,hwc⟩:=hcut;subst wc
    have n45:(((d:Nat):Int)==45)=false:=by have:=bR.o;simp;omega
    go_upto_region 8 with fail;go_cut [39] (fun v wx=>v=.bool false/\wx=wr)
    case first=>
     by_cases h48:d<48
     ·have m1:decide ((48:Int)<=((d:Nat):Int))=false:=abC (by omega)
      clear h48;go_wp2_with fail;go_meet;exact⟨rfl,rfl⟩
     have m1:decide ((48:Int)<=((d:Nat):Int))=true:=abH (by omega);have m2:decide (((d:Nat):Int)<=57)=false:=abC (by have:=bR.o;omega);clear h48;go_wp2_with fail;go_meet;exact⟨rfl,rfl⟩
    case rest=>
     obtain⟨rfl,hwc⟩:=hcut;subst wc;obtain⟨wq,kS⟩:=xq wr;go_upto_if 42 with fail;go_cut [] (fun wx=>Hid (∃cs' oD,En wx (ra+1) oD (.slice none 0 0) cs' (P.take k2) []/\wx.heap[ra]?=some (.cells #[.int .i64 ((r:Nat):Int),.int .i64 0,oD] 47 (0,0))/\wx.heap[w.heap.size]?=some (.cells #[.int .i64 0,.int .i64 0,.slice none 0 0] 47 (0,0))/\Below w.heap.size w wx))
     case first=>
      by_cases qw:fr=i
      ·have n1: ¬((fr:Nat):Int)<((i:Nat):Int):=by omega
       have HF:Hid (∃cs' oD,En wr (ra+1) oD (.slice none 0 0) cs' (P.take k2) []/\wr.heap[ra]?=some (.cells #[.int .i64 ((r:Nat):Int),.int .i64 0,oD] 47 (0,0))/\wr.heap[w.heap.size]?=some (.cells #[.int .i64 0,.int .i64 0,.slice none 0 0] 47 (0,0))/\Below w.heap.size w wr):=by refine⟨cs,av,?_,cI.o.blk,cI.o.res,cI.o.kJ⟩;rw[ET.o,if_pos qw];exact cI.o.en
       clear kS qw;go_wp2_with fail;go_meet;exact HF
      have n1:((fr:Nat):Int)<((i:Nat):Int):=by omega
      obtain⟨p,hp,MB⟩:=cI.o.cur vN.o HC.o HEF.o qw;obtain⟨neg,nv⟩:=p;obtain⟨tq,ja⟩:=HD.o _ (aah hp)
      have hx:T.extract fr i=⟨(ae.bg (neg,nv)).toArray⟩:=by apply ByteArray.ext;apply Array.ext';rw[Lib.extract_eq,fF.o,<-MB,List.drop_take]
      obtain⟨X,hX⟩:=xq (⟨(ae.bg (neg,nv)).toArray⟩:ByteArray);have iu:=zq (Qvy neg nv wr tq ja);rw[<-hX]at iu hx
      have s1:((fr:Nat):Int)<=((i:Nat):Int):=by omega
      have s2:((i:Nat):Int)<=((T.size:Nat):Int):=by omega
      have HP:=zq hp
      have HKK:Hid (k2=k+1):=by show _=_;rw[ET.o,if_neg qw]
      have hA2:=zq a2;clear hp MB tq ja hX qw kS;go_wp2_with fail;refine iu.o.mono ?_;rintro e w3 ⟨v5,rfl,xg,bL⟩;obtain⟨vo,vl,aA,rfl,-⟩:=xg.val;have hz3:=bL.size;obtain⟨w4,hw4⟩:=xq ((w3.alloc (.cells #[.bool neg,.slice vo vl aA] 62)).alloc (.cells #[.bool neg,.slice vo vl aA] 62))
      have DY:w4.heap.size=w3.heap.size+2:=by rw[hw4];simp
      have wT:Below w3.heap.size w3 w4:=by rw[hw4];exact Qz (Qq _ _) (Qq _ _)
      have hb4:Below wr.heap.size wr w4:=Qz bL wT;have bG:=zq hb4;have CH:=cI.o.en.low hb4;have dx:=zq CH
      have HNF:Hid (bM (ra+1) w4 (.slice vo vl aA) nv):=by refine bM.mono (bM.blk xg (aaa _) wT.size fun q hq=>wT.block q (xg.2.1 q hq).2) (by omega)
      have FA:Hid (∀q,(Value.slice vo vl aA).ownBlock=some q->wr.heap.size<=q):=fun q hq=>(xg.2.1 q hq).1;have c2:(w3.alloc (.cells #[.bool neg,.slice vo vl aA] 62)).cell? ⟨ra,2,none⟩=some av:=((Qz bL (Qq w3 _)).cell (p:=⟨ra,2,none⟩) xt).trans hA2.o;have UB:Hid (w4.heap[ra]?=some (.cells #[.int .i64 ((r:Nat):Int),.int .i64 0,av] 47 (0,0))):=(hb4.block ra xt).trans cI.o.blk;obtain⟨nc,bq⟩:=xq cs.length;have fV:=zq bq
      have HOW:Hid (w4.ownsRow (ra+1) 62 2 av nc (Q6 cs)):=by have:=CH.bV;rw[<-bq]at this;exact this
      have abh:nc<=67108864:=by rw[bq,cI.o.en.len,aak];have h1:=cI.o.kl;have h2:=cI.o.kb;omega
      rw[hw4]at HOW;have cJ:=zq hw4;have f2:(w3.frozen? ⟨ra,2,none⟩)=false:=aaH w3 _ 2 _ _ ((bL.block ra xt).trans cI.o.blk);clear xg bL wT hb4 CH bq hw4 a0 a1 a2;go_wp2_with (at_builtin;refine adr _ rfl _ _ 45 rfl (ra+1) 62 i0 (.agg #[.bool false,.slice none 0 0]) 2 32 Tryz.underlying45 eu hz0 hz1 nk rfl (by omega) av nc (Q6 cs) rfl HOW.o ⟨w3.heap.size+1,0,none⟩ 1 1 [.bool neg,.slice vo vl aA] rfl rfl (ag.Qh _ _ _ _ (by simp)) (by simp[Value.oneCell']) (by omega) (by unfold maxLen;omega) (by omega) (by simp;omega) (w3.heap.size+2) (by simp) ?_);intro gg cap w5 aK hgrow hat cT;rw[<-cJ.o]at hgrow
      have q1:=dx.o.push (neg:=neg) (m:=.slice vo vl aA) (k:=nv) HNF.o (fun q hq=>by
       have h1:=FA.o q hq;refine⟨fun e=> ?_,fun e=>by cases e⟩;have:=(cI.o.en.bV.lt q e).2
       omega) (by rw[<-fV.o];exact aK) hgrow (by simpa [DY] using hat)
      rw[<-fV.o]at q1;have px:w5.heap[ra]?=some (.cells #[.int .i64 ((r:Nat):Int),.int .i64 0,av] 47 (0,0)):=(hgrow.block ra (by omega) (fun e=>by have:=(cI.o.en.bV.lt ra e.symm).1;omega)).trans UB.o;have hs5:=aas w5 ra 2 _ _ (.slice (some ⟨gg,0,none⟩) (nc+1) cap) px
      have g2:w5.cell? ⟨ra,2,none⟩=some av:=by rw[aam _ _ 2 _ _ _ px];rfl
      have g3:w5.frozen? ⟨ra,2,none⟩=false:=aaH _ _ 2 _ _ px
      have HF:Hid (∃cs' oD,En (w5.setCell ⟨ra,2,none⟩ (.slice (some ⟨gg,0,none⟩) (nc+1) cap)) (ra+1) oD (.slice none 0 0) cs' (P.take k2) []/\(w5.setCell ⟨ra,2,none⟩ (.slice (some ⟨gg,0,none⟩) (nc+1) cap)).heap[ra]?=some (.cells #[.int .i64 ((r:Nat):Int),.int .i64 0,oD] 47 (0,0))/\(w5.setCell ⟨ra,2,none⟩ (.slice (some ⟨gg,0,none⟩) (nc+1) cap)).heap[w.heap.size]?=some (.cells #[.int .i64 0,.int .i64 0,.slice none 0 0] 47 (0,0))/\Below w.heap.size w (w5.setCell ⟨ra,2,none⟩ (.slice (some ⟨gg,0,none⟩) (nc+1) cap))):=by
       have SX:P.take k2=P.take k++[(neg,nv)]:=by rw[HKK.o,ab2,HP.o];rfl
       have py:Below w.heap.size w w5:=Wt (Qz cI.o.kJ bG.o) hgrow (fun q hq=>by have:=(cI.o.en.bV.lt q hq).1;omega);refine⟨cs++[(neg,.slice vo vl aA)],.slice (some ⟨gg,0,none⟩) (nc+1) cap,?_,hs5.trans (by simp),?_,py.setCell (p:=⟨ra,2,none⟩) (abD DI) _⟩
       ·rw[SX]
        exact q1.wr (Wr.aI w5 2 _) (aet _)
       rw[aaX w5 ⟨ra,2,none⟩ w.heap.size _ (by show w.heap.size≠ra;omega),hgrow.block w.heap.size (by omega) (fun e=>by have:=(cI.o.en.bV.lt _ e.symm).1;omega),bG.o.block w.heap.size (by omega)];exact cI.o.res
      clear aK hgrow hat cT q1 px hs5 c2 f2;go_wp2_with fail;go_meet;exact HF
     case rest=>
      obtain⟨w6,Ia⟩:=xq wc;rw[<-Ia]at hcut ⊢;clear Ia;obtain⟨cs',oD,q1,q2,q3,q4⟩:=hcut.o
      have p0:w6.cell? ⟨ra,0,none⟩=some (.int .i64 ((r:Nat):Int)):=by rw[aam _ _ 0 _ _ _ q2];rfl
      have p1:w6.frozen? ⟨ra,0,none⟩=false:=aaH _ _ 0 _ _ q2;have ir:=zq q1;have cY:=zq q2;have eY:=zq q3;have QN:=zq q4;have adf:IntKind.i64.wrap (((i:Nat):Int)+1)=((i:Nat):Int)+1:=abL _ (by omega);clear q1 q2 q3 q4 hcut
      have HGO:Hid (∀w7 lq RZ,En w7 (ra+1) RZ (.slice none 0 0) lq (P.take k2) []->w7.heap[ra]?=some (.cells #[.int .i64 ((r2:Nat):Int),.int .i64 0,RZ] 47 (0,0))->w7.heap[w.heap.size]?=some (.cells #[.int .i64 0,.int .i64 0,.slice none 0 0] 47 (0,0))->Below w.heap.size w w7->FQ t P w ra fin (.int .i64 (((i:Nat):Int)+1)) (.bool EI) (.int .i64 (((i:Nat):Int)+1)) w7):=by
       intro w7 lq RZ q1 q2 q3 q4
       have dc:(((i+1:Nat):Int))=((i:Nat):Int)+1:=by omega
       rw[ET.o]at q1;rw[cZ.o]at q2;rw[<-dc];exact⟨i+1,i+1,_,_,EI,lq,RZ,rfl,rfl,rfl,by rw[iw.o];exact cI.o.sep vN.o HC.o HEF.o q1 q2 q3 q4⟩
      by_cases h59:d=59
      ·have n1:(((d:Nat):Int)==59)=true:=by simp;omega
       have jH:r2=r+1:=by rw[cZ.o,if_pos (PN.o.2 h59)]
       have ud:((r2:Nat):Int)=((r:Nat):Int)+1:=by omega
       have HF:Hid (FQ t P w ra fin (.int .i64 (((i:Nat):Int)+1)) (.bool EI) (.int .i64 (((i:Nat):Int)+1)) (w6.setCell ⟨ra,0,none⟩ (.int .i64 (((r:Nat):Int)+1)))):=by
        refine HGO.o _ cs' oD (ir.o.wr (Wr.aI w6 0 _) (aet _)) ?_ ?_ (QN.o.setCell (p:=⟨ra,0,none⟩) (abD DI) _)
        ·rw[aas w6 ra 0 _ _ _ cY.o,ud];rfl
        rw[aaX w6 ⟨ra,0,none⟩ w.heap.size _ (by show w.heap.size≠ra;omega)];exact eY.o
       clear h59 jH ud;go_wp2_with fail
       first|exact⟨HF.o,qA⟩|exact⟨by (repeat apply Exists.intro);exact⟨HF.o,rfl⟩,qA⟩
      have n1:(((d:Nat):Int)==59)=false:=by simp;omega
      have jH:r2=r:=by rw[cZ.o,if_neg (fun h=>h59 (PN.o.1 h))]
      have HF:Hid (FQ t P w ra fin (.int .i64 (((i:Nat):Int)+1)) (.bool EI) (.int .i64 (((i:Nat):Int)+1)) w6):=by refine HGO.o _ cs' oD ir.o ?_ eY.o QN.o;rw[jH];exact cY.o
      clear h59 jH;go_wp2_with fail
      first|exact⟨HF.o,qA⟩|exact⟨by (repeat apply Exists.intro);exact⟨HF.o,rfl⟩,qA⟩
  have iN:i=T.size:=by omega
  have eJ:=cI.o
  have hit:i=t.length:=by rw[iN];exact JP.o
  have hrun:=eJ.run;rw[aaR (by omega)]at hrun;have dQ:((P.take k).map ae.bg,r,sh)=fin:=hrun;rw[HFV.o]at dQ;simp only[Prod.mk.injEq]at dQ;obtain⟨z1,z2,z3⟩:=dQ
  have hkP:P.take k=P:=by have h1:=aa7 List.length z1;simp only[aay,aak]at h1;exact aat (by omega)
  have hen:=eJ.en;rw[hkP]at hen;have hres:=eJ.res;have hblk:=eJ.blk;have bz:=eJ.kJ;obtain⟨cW,jW,mR,-⟩:=HM.o;by_cases hat:m.at_=[]
  ·rw[if_pos hat]at z2
   rw[abH hat]at z3;subst z3
   have GA:P=[(false,m.rows),(false,m.aB)]:=by rw[zR.o];unfold Ta;rw[if_pos hat]
   have hl2:cs.length=2:=by rw[hen.len,GA];rfl
   obtain⟨c0,c1,rfl⟩:∃c0 c1,cs=[c0,c1]:=by
    match cs,hl2 with
    | [a,b],_=>exact⟨a,b,rfl⟩
   rw[GA]at hen;obtain⟨x1,⟨x2,-,-⟩,-⟩:=hen.el 0 c0 (false,m.rows) rfl rfl;obtain⟨y1,⟨y2,-,-⟩,-⟩:=hen.el 1 c1 (false,m.aB) rfl rfl;simp only at x1 x2 y1 y2;obtain⟨ao,cap,yJ,-,-,a3⟩:=Qj hen.bV;obtain⟨g,hao,-,fe,rh⟩:=a3 (by rw[hl2];decide);subst hao;rw[hl2]at yJ;subst yJ;obtain⟨s1,v1⟩:=c0;obtain⟨s2,v2⟩:=c1;simp only at x1 x2 y1 y2;subst x1;subst y1;have d0:wr.cell? ⟨g,0,none⟩=some (.bool false):=(rh 0 (by rw[hl2];decide)).trans rfl;have d1:wr.cell? ⟨g,1,none⟩=some v1:=(rh 1 (by rw[hl2];decide)).trans rfl;have d2:wr.cell? ⟨g,2,none⟩=some (.bool false):=(rh 2 (by rw[hl2];decide)).trans rfl;have d3:wr.cell? ⟨g,3,none⟩=some v2:=(rh 3 (by rw[hl2];decide)).trans rfl
   obtain⟨vo1,vl1,vc1,rfl⟩:∃a b c,v1=.slice a b c:=by obtain⟨_,⟨-,a,c,e,-⟩,-,-⟩:=x2;exact⟨_,_,_,e⟩
   obtain⟨vo2,vl2,vc2,rfl⟩:∃a b c,v2=.slice a b c:=by obtain⟨_,⟨-,a,c,e,-⟩,-,-⟩:=y2;exact⟨_,_,_,e⟩
   have cL:=zq (Cg m.rows _ wr x2 cW);have yA:=zq y2;have D2:=zq d2;have D3:=zq d3;have dy:=zq hres;have rD:=zq hblk;have dw:=zq bz;have fS:=zq hat
   have OT:w.heap.size<wr.heap.size:=by omega
   clear eJ hit hrun z1 z2 hkP hen hres hblk bz hat GA hl2 a3 rh x2 y2 mR;go_wp2_with fail;refine cL.o.mono ?_;rintro e w3 ⟨rfl,hb3⟩;have cr:=zq (Cg m.aB _ w3 (yA.o.below hb3) jW);have e2:w3.cell? ⟨g,2,none⟩=some (.bool false):=(hb3.cell (p:=⟨g,2,none⟩) fe).trans D2.o;have e3:w3.cell? ⟨g,3,none⟩=some (.slice vo2 vl2 vc2):=(hb3.cell (p:=⟨g,3,none⟩) fe).trans D3.o;have e4:w3.cell? ⟨ra,2,none⟩=some (.slice (some ⟨g,0,none⟩) 2 cap):=(hb3.cell (p:=⟨ra,2,none⟩) xt).trans (by rw[aam _ _ 2 _ _ _ rD.o];rfl);have aS:=zq hb3;clear hb3 d0 d1 d2 d3;go_wp2_with fail;refine cr.o.mono ?_;rintro e w4 ⟨rfl,hb4⟩;have BU:=Qz aS.o hb4;have jS:Hid (w4.heap[w.heap.size]?=some (.cells #[.int .i64 0,.int .i64 0,.slice none 0 0] 47 (0,0))):=(BU.block w.heap.size OT).trans dy.o;have bG:=zq (Qz dw.o BU);clear hb4 BU e2 e3 e4;go_wp2_with (refine aeh (by rfl) 47 (.tmp 2) (.tmp 86) (by rfl) w.heap.size _ rfl rfl 47 _ jS.o (by exact Tryz.eT) (by rfl) (by simp[Value.oneCell']) ?_);refine aaI (adM rfl _ _ w.heap.size 47 _ _ _ rfl (ae3 _ _ _ _ _ _ jS.o) Tryz.underlying47 rfl (by kernel_rfl)) rfl ?_;refine⟨.slice none 0 0,rfl,?_,ae7 bG.o (aaa _) _⟩;rw[fS.o];exact fun w' _ _=>⟨none,0,rfl,aaa _,aao _,fun h=>by simp at h⟩
  rw[if_neg hat]at z2;rw[abC hat]at z3;subst z3
  have GA:P=m.at_:=by rw[zR.o];unfold Ta;rw[if_neg hat]
  rw[GA]at hen
  have dA:cs.length=m.rows*m.aB:=by rw[hen.len,mR]
  have lH:0<r:=by
   rw[z2];rcases aeN m.rows with h0|h0
   ·exfalso
    apply hat;apply aaq;rw[mR,h0,aeD]
   exact h0
  rw[<-z2]at dA;obtain⟨ao,cap,yJ,-,-,-⟩:=Qj hen.bV;obtain⟨nn,bf⟩:=xq cs.length;rw[<-bf]at yJ dA;subst yJ
  have tY:nn / r=m.aB:=by rw[dA,Nat.mul_div_cancel_left _ lH]
  have hq:Int.tdiv ((nn:Nat):Int) ((r:Nat):Int)=((m.aB:Nat):Int):=by rw[<-tY];exact Int.ofNat_tdiv nn r|>.symm ▸ rfl
  have vh:((nn:Nat):Int) / ((r:Nat):Int)=((m.aB:Nat):Int):=by rw[<-tY];exact(Int.natCast_ediv nn r).symm
  have hrz:(((r:Nat):Int)==0)=false:=by simp;omega
  have ac7:((r:Nat):Int)≠0:=by omega
  have p1:wr.cell? ⟨ra,1,none⟩=some (.int .i64 0):=a1;have fr1:wr.frozen? ⟨ra,1,none⟩=false:=aaH _ _ 1 _ _ hblk;have hs1:=aas wr ra 1 _ _ (.int .i64 ((m.aB:Nat):Int)) hblk
  have jS:Hid ((wr.setCell ⟨ra,1,none⟩ (.int .i64 ((m.aB:Nat):Int))).heap[w.heap.size]?=some (.cells #[.int .i64 0,.int .i64 0,.slice none 0 0] 47 (0,0))):=by show _=_;rw[aaX wr ⟨ra,1,none⟩ w.heap.size _ (by show w.heap.size≠ra;omega)];exact hres
  have bG:Hid (Below w.heap.size w (wr.setCell ⟨ra,1,none⟩ (.int .i64 ((m.aB:Nat):Int)))):=bz.setCell (p:=⟨ra,1,none⟩) (abD DI) _
  have ER:Hid (∀w5,Wr w.heap.size none (wr.setCell ⟨ra,1,none⟩ (.int .i64 ((m.aB:Nat):Int))) w5->KI w.heap.size w5 (.slice ao nn cap) m.at_):=by intro w5 h5;exact((hen.wr (Wr.aI wr 1 _) (aet _)).wr h5 (by omega)).hi (by omega)
  have HZ2:=zq z2;clear eJ hit hrun z1 z2 hkP hen hres hblk bz hat GA dA bf mR hs1 tY;go_wp2_with (refine aeh (by rfl) 47 (.tmp 2) (.tmp 94) (by rfl) w.heap.size _ rfl rfl 47 _ jS.o (by exact Tryz.eT) (by rfl) (by simp[Value.oneCell']) ?_);refine aaI (adM rfl _ _ w.heap.size 47 _ _ _ rfl (ae3 _ _ _ _ _ _ jS.o) Tryz.underlying47 rfl (by kernel_rfl)) rfl ?_;refine⟨.slice ao nn cap,by rw[HZ2.o],?_,ae7 bG.o (aaa _) _⟩;refine ER.o _ ⟨rfl,rfl,rfl,?_,fun q _ hq _=>setRow_other _ _ _ _ hq⟩;rw[size_setRow];exact aaa _
end Go.Proofs.YtgfmiladfeoldaaGreatDoor
namespace aq
open ae ag
def Qcf (e:Nat×Nat):Prop:=e.2=2\/e.2=5\/e.2=14
theorem cB {α β:Type}{x:PR α}{f:α->St->PR β}{e:Nat×Nat}(h:x.bind f=some (.error e)):x=some (.error e)\/ ∃a s,x=some (.ok (a,s))/\f a s=some (.error e):=by
 rcases x with- |(e'|⟨a,s⟩)
 ·cases h
 ·cases h;exact .inl rfl
 exact .inr ⟨a,s,rfl,h⟩
theorem N7 {fin:Nat}{x:Bytes}{s:St}{e:Nat×Nat}(h:want fin x s=some (.error e)):e.2=14:=by
 unfold want at h;split at h
 ·cases h
 cases h;rfl
theorem Pp {fin:Nat}{s:St}{e:Nat×Nat}(h:Qa fin s=some (.error e)):e.2=14:=by
 unfold Qa at h;split at h
 ·cases h
 cases h;rfl
theorem P3 (fin:Nat):∀(f n:Nat) (acc:List (Bool×Nat)) (s:St) (e:Nat×Nat),Qt fin f n acc s=some (.error e)->e.2=14
 |0,_,_,_,_,h=>by cases h
 |f+1,n,acc,s,e,h=>by
  unfold Qt at h;split at h
  ·rcases cB h with h|⟨a,s',-,h⟩
   ·exact Pp h
   exact P3 fin f _ _ _ e h
  cases h
theorem Kb (fin:Nat):∀(f:Nat) (acc:List (Bool×Nat)) (lens:List Nat) (s:St) (e:Nat×Nat),entries fin f acc lens s=some (.error e)->e.2=14
 |0,_,_,_,_,h=>by cases h
 |f+1,acc,lens,s,e,h=>by
  unfold entries at h;rcases cB h with h|⟨a,s',-,h⟩
  ·exact P3 fin f _ _ _ e h
  split at h
  ·cases h
  rcases cB h with h|⟨b,s2,-,h⟩
  ·exact N7 h
  exact Kb fin f _ _ _ e h
theorem Ge {fin f:Nat}{s:St}{e:Nat×Nat}(h:Xl fin f s=some (.error e)):Qcf e:=by
 unfold Xl at h;rcases cB h with h|⟨a,s1,-,h⟩
 ·exact .inr (.inr (N7 h))
 split at h
 ·unfold Jv at h
  rcases cB h with h|⟨a,s2,-,h⟩
  ·exact .inr (.inr (Pp h))
  rcases cB h with h|⟨b,s3,-,h⟩
  ·exact .inr (.inr (N7 h))
  rcases cB h with h|⟨c,s4,-,h⟩
  ·exact .inr (.inr (Pp h))
  rcases cB h with h|⟨d,s5,-,h⟩
  ·exact .inr (.inr (N7 h))
  split at h
  ·cases h;exact .inr (.inl rfl)
  cases h
 rcases cB h with h|⟨a,s2,-,h⟩
 ·exact .inr (.inr (Kb fin f _ _ _ e h))
 unfold Yc at h;split at h
 ·cases h;exact .inl rfl
 split at h
 ·cases h;exact .inr (.inl rfl)
 cases h
theorem Qxk {t:Bytes}{ts:List Tok}(hT:aw 1 (Qx t)=.ok ts){c k:Nat}(h:Xl ((Qx t).length+1) (ts.length+3) ⟨ts,0⟩=some (.error (c,k))):Yg t=.error (if k=14 then 7 else k):=by
 have E:=Ge h;unfold Yg;rw[hT];simp only[h];show Except.error (if k=2\/k=5 then k else 7)=_
 rcases E with rfl|rfl|rfl<;>rfl
theorem Qvj {t:Bytes}{ts:List Tok}(hT:aw 1 (Qx t)=.ok ts){m:cn}{s:St}(h:Xl ((Qx t).length+1) (ts.length+3) ⟨ts,0⟩=some (.ok (m,s))):Yg t=if s.ts=[] then .ok m else .error 7:=by
 unfold Yg;rw[hT];simp only[h];by_cases hs:s.ts=[]
 ·simp only[PR.bind,done,if_pos hs,ret]
 simp only[PR.bind,done,if_neg hs,dh,fault];rfl
theorem Qye {t:Bytes}{e:Nat×Nat}(hT:aw 1 (Qx t)=.error e):Yg t=.error 7:=by unfold Yg;rw[hT]
theorem Fb {t:Bytes}{ts:List Tok}(hT:aw 1 (Qx t)=.ok ts)(hm:Qv [91] ts=false):Yg t=.error 7:=by unfold Yg;rw[hT];unfold Xl want;simp only;rw[if_neg (by show ¬Qv [91] ts=true;rw[hm];decide)];rfl
theorem Qya {t:Bytes}{e:Nat×Nat}(hT:aw 1 (Qx t)=.error e):Zn t=none:=by unfold Zn;rw[hT]
theorem Qxz {t:Bytes}{ts:List Tok}(hT:aw 1 (Qx t)=.ok ts){e:Nat×Nat}(h:Q8 ((Qx t).length+1) (ts.length+2) ⟨ts,0⟩=some (.error e)):Zn t=none:=by unfold Zn;rw[hT];simp only[h];rfl
theorem Qvx {t:Bytes}{ts:List Tok}(hT:aw 1 (Qx t)=.ok ts){l:List (List Nat)}{s:St}(h:Q8 ((Qx t).length+1) (ts.length+2) ⟨ts,0⟩=some (.ok (l,s))):Zn t=if s.ts=[] then some l else none:=by
 unfold Zn;rw[hT];simp only[h];by_cases hs:s.ts=[]
 ·simp only[PR.bind,done,if_pos hs,ret]
 simp only[PR.bind,done,if_neg hs,dh,fault]
theorem Fh {t:Bytes}{ts:List Tok}(hT:aw 1 (Qx t)=.ok ts)(hm:Qv [123] ts=false):Zn t=none:=by unfold Zn;rw[hT];unfold Q8 want;simp only;rw[if_neg (by show ¬Qv [123] ts=true;rw[hm];decide)];rfl
end aq
namespace Go.Proofs.YtgfmiladfeoldaaGreatDoor
open Go.RowKit ai ag
def Qb9 (l:List aq.Op):List Value:=l.flatMap fun o=>[.int .u8 (o.kind:Nat),.string ⟨o.name.toArray⟩,.int .i64 (o.args:Nat)]
def RT (w:World)(R:Nat)(sv:Value)(cH:List aq.Op):Prop:=
 (∀q,sv.ownBlock=some q->q≠R/\q<w.heap.size)/\(cH≠[]->w.ownsRow (R+1) 167 3 sv cH.length (Qb9 cH))
theorem RT.keep {w w':World}{R:Nat}{sv:Value}{cH:List aq.Op}(h:RT w R sv cH)(hz:w.heap.size<=w'.heap.size)(hb:∀g,sv.ownBlock=some g->g≠R->g<w.heap.size->w'.heap[g]?=w.heap[g]?):RT w' R sv cH:=
 ⟨fun q hq=>⟨(h.1 q hq).1,aaj (h.1 q hq).2 hz⟩,fun hne=>Xf (h.2 hne) fun g hg h1 h2=>hb g hg (by omega) h2⟩
structure WM (w:World) (R:Nat) (tv:Value) (L:List Tok) (i:Nat) (nv vv sv:Value) (ns:List Nv) (vs:List Nat) (cH:List aq.Op) (want pw:Bool) (d:Nat):Prop where
 blk:w.heap[R]?=some (.cells #[tv,.int .i64 (i:Nat),nv,vv,sv,.bool want,.bool pw,.int .i64 (d:Nat)] 116 (0,0))
 tks:my w R tv L
 jg:w.ownsRow (R+1) 43 3 nv ns.length (Xb ns)
 pP:w.ownsRow (R+1) 3 1 vv vs.length (ints vs)
 ru:RT w R sv cH
 kids:∀p∈ns,KR w R none p.2 p.1.kids
 xF:∀p∈ns,∀q,p.2.ownBlock=some q->nv.ownBlock≠some q/\vv.ownBlock≠some q/\sv.ownBlock≠some q
 vu:∀q,nv.ownBlock=some q->vv.ownBlock≠some q/\sv.ownBlock≠some q
 zn:∀q,vv.ownBlock=some q->sv.ownBlock≠some q
theorem WM.lt {w:World}{R:Nat}{tv:Value}{L:List Tok}{i:Nat}{nv vv sv:Value}{ns:List Nv}{vs:List Nat}{cH:List aq.Op}{want pw:Bool}{d:Nat}(h:WM w R tv L i nv vv sv ns vs cH want pw d):R<w.heap.size:=(aal.1 h.blk).1
theorem WM.cells {w:World}{R:Nat}{tv:Value}{L:List Tok}{i:Nat}{nv vv sv:Value}{ns:List Nv}{vs:List Nat}{cH:List aq.Op}{want pw:Bool}{d:Nat}(h:WM w R tv L i nv vv sv ns vs cH want pw d):w.cell? ⟨R,0,none⟩=some tv/\w.cell? ⟨R,1,none⟩=some (.int .i64 (i:Nat))/\w.cell? ⟨R,2,none⟩=some nv/\w.cell? ⟨R,3,none⟩=some vv/\w.cell? ⟨R,4,none⟩=some sv/\w.cell? ⟨R,5,none⟩=some (.bool want)/\w.cell? ⟨R,6,none⟩=some (.bool pw)/\w.cell? ⟨R,7,none⟩=some (.int .i64 (d:Nat)):=by refine⟨?_,?_,?_,?_,?_,?_,?_,?_⟩<;>rw[aam w R _ _ _ _ h.blk]<;>rfl
theorem WM.eD {w:World}{R:Nat}{tv:Value}{L:List Tok}{i:Nat}{nv vv sv:Value}{ns:List Nv}{vs:List Nat}{cH:List aq.Op}{want pw:Bool}{d:Nat}(h:WM w R tv L i nv vv sv ns vs cH want pw d)(o:Nat):w.frozen? ⟨R,o,none⟩=false:=aaH w R o _ _ h.blk
theorem my.low {w w':World}{R:Nat}{v:Value}{L:List Tok}(h:my w R v L)(hb:∀k,k<R->w'.heap[k]?=w.heap[k]?):my w' R v L:=by obtain⟨ao,I,rfl,J,K,O⟩:=h;refine⟨ao,I,rfl,J,K,fun h0=> ?_⟩;obtain⟨g,rfl,E,H⟩:=O h0;exact⟨g,rfl,E,fun j t hj=>⟨(abG (hb g E)).trans (H j t hj).1,(abG (hb g E)).trans (H j t hj).2.1,(abG (hb g E)).trans (H j t hj).2.2⟩⟩
theorem KR.at {w w':World}{R:Nat}{v:Value}{ks:List Nat}(h:KR w R none v ks)(hz:w.heap.size<=w'.heap.size)(hb:∀q,v.ownBlock=some q->w'.heap[q]?=w.heap[q]?):KR w' R none v ks:=by obtain⟨ao,H,rfl,I,J,E,K⟩:=h;refine⟨ao,H,rfl,I,J,fun q hq=>⟨(E q hq).1,aaj (E q hq).2.1 hz,(E q hq).2.2⟩,fun h0=> ?_⟩;obtain⟨g,rfl,O⟩:=K h0;exact⟨g,rfl,fun j k hj=>(abG (hb g rfl)).trans (O j k hj)⟩
theorem WM.turn {w w':World}{R:Nat}{tv:Value}{L:List Tok}{i:Nat}{nv vv sv:Value}{ns:List Nv}{vs:List Nat}{cH:List aq.Op}{want pw:Bool}{d:Nat}(h:WM w R tv L i nv vv sv ns vs cH want pw d)(hz:w.heap.size<=w'.heap.size)
  (hb:∀k,k<w.heap.size->k≠R->w'.heap[k]?=w.heap[k]?) {i':Nat} {want' pw':Bool} {d':Nat} (hR:w'.heap[R]?=some (.cells #[tv,.int .i64 (i':Nat),nv,vv,sv,.bool want',.bool pw',.int .i64 (d':Nat)] 116 (0,0))):
  WM w' R tv L i' nv vv sv ns vs cH want' pw' d' where
 blk:=hR
 tks:=h.tks.low fun k hk=>hb k (aed hk h.lt) (aeZ hk)
 jg:=Xf h.jg fun g _ h1 h2=>hb g h2 (by omega)
 pP:=Xf h.pP fun g _ h1 h2=>hb g h2 (by omega)
 ru:=h.ru.keep hz fun g _ h1 h2=>hb g h2 h1
 kids:=fun p hp=>(h.kids p hp).at hz fun q hq=>by obtain⟨_,_,-,_,_,h3,_⟩:=h.kids p hp;have:=h3 q hq;exact hb q this.2.1 (by omega)
 xF:=h.xF
 vu:=h.vu
 zn:=h.zn
theorem WM.below {w w':World}{R:Nat}{tv:Value}{L:List Tok}{i:Nat}{nv vv sv:Value}{ns:List Nv}{vs:List Nat}{cH:List aq.Op}{want pw:Bool}{d:Nat}(h:WM w R tv L i nv vv sv ns vs cH want pw d)(hb:Below w.heap.size w w'):WM w' R tv L i nv vv sv ns vs cH want pw d:=
 h.turn hb.size (fun k hk _=>hb.block k hk) ((hb.block R h.lt).trans h.blk)
theorem WM.set {w:World}{R:Nat}{tv:Value}{L:List Tok}{i:Nat}{nv vv sv:Value}{ns:List Nv}{vs:List Nat}{cH:List aq.Op}{want pw:Bool}{d:Nat}(h:WM w R tv L i nv vv sv ns vs cH want pw d)(o:Nat)(u:Value){i':Nat}{want' pw':Bool}{d':Nat}
  (hc:(#[tv,.int .i64 (i:Nat),nv,vv,sv,.bool want,.bool pw,.int .i64 (d:Nat)]:Array Value).setIfInBounds o u= #[tv,.int .i64 (i':Nat),nv,vv,sv,.bool want',.bool pw',.int .i64 (d':Nat)]):
  WM (w.setCell ⟨R,o,none⟩ u) R tv L i' nv vv sv ns vs cH want' pw' d':=
 h.turn (by simp[World.setCell]) (fun k _ hk=>aaX w ⟨R,o,none⟩ k u hk) ((aas w R o _ _ u h.blk).trans (by rw[hc]))
theorem Ty {w:World}{R:Nat}(o:Nat)(u:Value):Below R w (w.setCell ⟨R,o,none⟩ u):=(aa8 R w).setCell (p:=⟨R,o,none⟩) (aaa R) u
theorem Vg {w:World}{B:Nat}{e:TypeId}{z:Nat}{v:Value}{n:Nat}{xs:List Value}{q:Nat}(h:w.ownsRow B e z v n xs)(hq:v.ownBlock=some q):B<=q/\q<w.heap.size:=h.lt q hq
theorem WM.vals {w w':World}{R:Nat}{tv:Value}{L:List Tok}{i:Nat}{nv vv sv:Value}{ns:List Nv}{vs:List Nat}{cH:List aq.Op}{want pw:Bool}{d:Nat}(h:WM w R tv L i nv vv sv ns vs cH want pw d)(hz:w.heap.size<=w'.heap.size){oX:Value}{vs':List Nat}
  (hb:∀k,k<w.heap.size->k≠R->vv.ownBlock≠some k->w'.heap[k]?=w.heap[k]?) (hown:w'.ownsRow (R+1) 3 1 oX vs'.length (ints vs')) (hat:∀q,oX.ownBlock=some q->vv.ownBlock=some q\/w.heap.size<=q)
  (hR:w'.heap[R]?=some (.cells #[tv,.int .i64 (i:Nat),nv,oX,sv,.bool want,.bool pw,.int .i64 (d:Nat)] 116 (0,0))):WM w' R tv L i nv oX sv ns vs' cH want pw d where
 blk:=hR
 tks:=h.tks.low fun k hk=>hb k (aed hk h.lt) (aeZ hk) (fun e=>by have:=(Vg h.pP e).1;omega)
 jg:=Xf h.jg fun g hg h1 h2=>hb g h2 (by omega) (h.vu g hg).1
 pP:=hown
 ru:=h.ru.keep hz fun g hg h1 h2=>hb g h2 h1 (fun e=>h.zn g e hg)
 kids:=fun p hp=>(h.kids p hp).at hz fun q hq=>by have hk:=h.xF p hp q hq;obtain⟨_,_,e,_,_,h3,_⟩:=h.kids p hp;have:=h3 q hq;exact hb q this.2.1 (by omega) hk.2.1
 xF:=fun p hp q hq=>by
  obtain⟨a,b,c⟩:=h.xF p hp q hq;refine⟨a,fun e=> ?_,c⟩;obtain⟨_,_,_,_,_,h3,_⟩:=h.kids p hp;have:=h3 q hq;rcases hat q e with h5|h5
  ·exact b h5
  omega
 vu:=fun q hq=>by
  obtain⟨a,b⟩:=h.vu q hq;refine⟨fun e=> ?_,b⟩;have:=(Vg h.jg hq).2;rcases hat q e with h5|h5
  ·exact a h5
  omega
 zn:=fun q hq e=>by
  have:=(h.ru.1 _ e).2;rcases hat q hq with h5|h5
  ·exact h.zn q h5 e
  omega
theorem WM.nodes {w w':World}{R:Nat}{tv:Value}{L:List Tok}{i:Nat}{nv vv sv:Value}{ns:List Nv}{vs:List Nat}{cH:List aq.Op}{want pw:Bool}{d:Nat}(h:WM w R tv L i nv vv sv ns vs cH want pw d)(hz:w.heap.size<=w'.heap.size){dR kv:Value}{nd:ae.Node}
  (hb:∀k,k<w.heap.size->k≠R->nv.ownBlock≠some k->w'.heap[k]?=w.heap[k]?) (hown:w'.ownsRow (R+1) 43 3 dR (ns++[(nd,kv)]).length (Xb (ns++[(nd,kv)]))) (hat:∀q,dR.ownBlock=some q->nv.ownBlock=some q\/w.heap.size<=q)
  (hk:KR w R none kv nd.kids) (hka:∀q,kv.ownBlock=some q->nv.ownBlock≠some q/\vv.ownBlock≠some q/\sv.ownBlock≠some q)
  (hR:w'.heap[R]?=some (.cells #[tv,.int .i64 (i:Nat),dR,vv,sv,.bool want,.bool pw,.int .i64 (d:Nat)] 116 (0,0))):WM w' R tv L i dR vv sv (ns++[(nd,kv)]) vs cH want pw d where
 blk:=hR
 tks:=h.tks.low fun k hk=>hb k (aed hk h.lt) (aeZ hk) (fun e=>by have:=(Vg h.jg e).1;omega)
 jg:=hown
 pP:=Xf h.pP fun g hg h1 h2=>hb g h2 (by omega) (fun e=>(h.vu g e).1 hg)
 ru:=h.ru.keep hz fun g hg h1 h2=>hb g h2 h1 (fun e=>(h.vu g e).2 hg)
 kids:=fun p hp=>by
  rcases abZ.1 hp with hp|hp
  ·refine(h.kids p hp).at hz fun q hq=> ?_
   have hk:=h.xF p hp q hq;obtain⟨_,_,e,_,_,h3,_⟩:=h.kids p hp;have:=h3 q hq;exact hb q this.2.1 (by omega) hk.1
  simp only[abu]at hp;subst hp;refine hk.at hz fun q hq=> ?_;obtain⟨_,_,e,_,_,h3,_⟩:=hk;have:=h3 q hq;exact hb q this.2.1 (by omega) (hka q hq).1
 xF:=fun p hp q hq=>by
  have key:(nv.ownBlock≠some q/\vv.ownBlock≠some q/\sv.ownBlock≠some q)/\q<w.heap.size:=by
   rcases abZ.1 hp with hp|hp
   ·obtain⟨_,_,_,_,_,h3,_⟩:=h.kids p hp
    exact⟨h.xF p hp q hq,(h3 q hq).2.1⟩
   simp only[abu]at hp;subst hp;obtain⟨_,_,_,_,_,h3,_⟩:=hk;exact⟨hka q hq,(h3 q hq).2.1⟩
  obtain⟨⟨a,b,c⟩,h6⟩:=key;refine⟨fun e=> ?_,b,c⟩;rcases hat q e with h5|h5
  ·exact a h5
  omega
 vu:=fun q hq=>by
  rcases hat q hq with h5|h5
  ·exact h.vu q h5
  exact⟨fun e=>by have:=(Vg h.pP e).2;omega,fun e=>by have:=(h.ru.1 _ e).2;omega⟩
 zn:=h.zn
theorem Qb3 {L:List Tok}{k:Nat}{x:Bytes}:ae.Qv x (L.drop k)=(match L[k]? with|some t=>t.1==3 && t.2.1==x|none=>false):=by
 rcases Nat.lt_or_ge k L.length with h|h
 ·rw[aaS h,aad h];rfl
 rw[aaR h,aea h];rfl
theorem Wv {L:List Tok}{k j:Nat}:ae.Qm j (L.drop k)=(match L[k]? with|some t=>t.1==j|none=>false):=by
 rcases Nat.lt_or_ge k L.length with h|h
 ·rw[aaS h,aad h];rfl
 rw[aaR h,aea h];rfl
def cd (L:List Tok)(k:Nat):Nat:=match L[k]? with|some t=>t.1|none=>0
theorem Qzv {L:List Tok}{k:Nat}{t:Tok}(h:L[k]?=some t):cd L k=t.1:=by unfold cd;rw[h]
theorem Qzj {L:List Tok}{k:Nat}(h:L[k]?=none):cd L k=0:=by unfold cd;rw[h]
theorem J0 {L:List Tok}{k j:Nat}(hj:j≠0):ae.Qm j (L.drop k)=(cd L k==j):=by
 rw[Wv];unfold cd
 cases L[k]? with
 |none=>simpa using Ne.symm hj
 |some t=>rfl
theorem Hh (R:Nat)(tv:Value)(L:List Tok)(k:Nat)(w:World)(c0:w.cell? ⟨R,0,none⟩=some tv)(tks:my w R tv L)(hk:k<=9000000000000000):Calls Tryz.prog 133 #[.pointer (some ⟨R,0,none⟩),.int .i64 (k:Nat)] w fun e w'=>e=.returned (.int .i64 (cd L k:Nat))/\Below w.heap.size w w':=by
 obtain⟨ao,cap,rfl,t1,t2,t3⟩:=tks;obtain⟨n,hn⟩:=xq L.length;have HN:=zq hn;rw[<-hn]at t1 c0;by_cases hlt:k<n
 ·obtain⟨g,rfl,hg,hc⟩:=t3 (by omega)
  obtain⟨t,ht⟩:∃t,L[k]?=some t:=⟨_,aad (by omega)⟩;obtain⟨d0,-,-⟩:=hc k t ht;have HT:=zq ht;clear hc ht hn t3;go_enter Tryz.func133,Tryz.ntmps133;go_wp2_with fail;go_ret;exact⟨by rw[Qzv HT.o];rfl,aa8 _ _⟩
 have IZ:Hid (L[k]?=none):=aea (by omega);clear t3 hn;go_enter Tryz.func133,Tryz.ntmps133;go_wp2_with fail;go_ret;exact⟨by rw[Qzj IZ.o];rfl,aa8 _ _⟩
theorem Rt (R : Nat) (tv : Value) (L : List Tok) (k : Nat) (x : Bytes) (w : World) (c0 : w.cell? ⟨R, 0, none⟩ = some tv) (tks : my w R tv L) (hk : k ≤ 9000000000000000) :Calls Tryz.prog 85 #[.pointer (some ⟨R, 0, none⟩), .int .i64 (k : Nat), .string ⟨x.toArray⟩] w fun e w' => e = .returned (.bool (ae.Qv x (L.drop k))) ∧ Below w.heap.size w w' := by
  obtain ⟨ao, cap, rfl, t1, t2, t3⟩ := tks
  obtain ⟨n, hn⟩ : ∃ n, n = L.length := ⟨_, rfl⟩
  have HN := zq hn
  rw [← hn] at t1 c0
  by_cases hlt : k < n
  · obtain ⟨g, rfl, hg, hc⟩ := t3 (by omega)
    obtain ⟨t, ht⟩ : ∃ t, L[k]? = some t := ⟨_, aad (by omega)⟩
    obtain ⟨d0, d1, -⟩ := hc k t ht
    have HC : Hid (ae.Qv x (L.drop k) = (t.1 == 3 && t.2.1 == x)) := by show _ = _; rw [Qb3, ht]
    obtain ⟨tk, tt, tc⟩ := t
    clear hc ht hn t3
    go_enter Tryz.func85, Tryz.ntmps85
    go_wp2_with fail
    all_goals
      go_ret
      refine ⟨?_, aa8 _ _⟩
      rw [HC.o]
      show Ending.returned (Value.bool _) = Ending.returned (Value.bool _)
      congr 2
      first
        | (have q1 : tk = 3 := by omega
           subst q1; simp)
        | (have q1 : tk ≠ 3 := by omega
           simp [q1])
  have HC : Hid (ae.Qv x (L.drop k) = false) := by show _ = _; rw [aaR (by omega)]; rfl
  clear t3 hn
  go_enter Tryz.func85, Tryz.ntmps85
  go_wp2_with fail
  go_ret
  exact ⟨by rw [HC.o]; rfl, aa8 _ _⟩
theorem Qw3 (vs:List Nat)(k:Nat):(ints vs).drop k=ints (vs.drop k):=by simp[ints]
theorem Gc (a b:List Nat):ints (a++b)=ints a++ints b:=by simp[ints]
theorem Qks (a:List Nat):(ints a).length=a.length:=by simp[ints]
def FrW (R:Nat)(w w':World)(nv vv sv dR oX sv':Value):Prop:=
 ∀B,R<B->B<w.heap.size->nv.ownBlock≠some B->vv.ownBlock≠some B->sv.ownBlock≠some B->w'.heap[B]?=w.heap[B]? /\dR.ownBlock≠some B/\oX.ownBlock≠some B/\sv'.ownBlock≠some B
def nU (R:Nat)(tv:Value)(L:List Tok)(i:Nat)(ns:List Nv)(vs:List Nat)(cH:List aq.Op)(want pw:Bool)(d:Nat)(op n:Nat)(text:Bytes)(w:World)(nv vv sv:Value)(e:Ending)(w':World):Prop:=
 e=.returned (.tuple #[])/\Below R w w'/\ ∃dR oX sv' kv,WM w' R tv L i dR oX sv' (ns++[(⟨op,text,vs.drop (vs.length-n)⟩,kv)]) (vs.take (vs.length-n)++[ns.length]) cH want pw d/\FrW R w w' nv vv sv dR oX sv'
theorem Qdy (R:Nat)(tv:Value)(L:List Tok)(i:Nat)(nv vv sv:Value)(ns:List Nv)(vs:List Nat)(cH:List aq.Op)(want pw:Bool)(d:Nat)(w:World)(h:WM w R tv L i nv vv sv ns vs cH want pw d)
  (op n:Nat) (text:Bytes) (hop:op<=255) (hn:n<=vs.length) (eQ:0<n) (hb1:vs.length<=134217728) (hb2:ns.length<=134217728):
  Calls Tryz.prog 137 #[.pointer (some ⟨R,0,none⟩),.int .i64 (op:Nat),.string ⟨text.toArray⟩,.int .i64 (n:Nat)] w (nU R tv L i ns vs cH want pw d op n text w nv vv sv):=by
 obtain⟨i0,hi,hz0,hz1,hz2⟩:=abO Tryz.cC;obtain⟨j0,hj,kB,qL,je⟩:=abO Tryz.jL;have H:=zq h;have aT:=h.lt;obtain⟨c0,c1,c2,c3,c4,c5,c6,c7⟩:=h.cells;have f3:=h.eD 3;have f2:=h.eD 2;obtain⟨ao,aA,rfl,v1,v2,v3⟩:=Qj h.pP;obtain⟨gv,rfl,yQ,fe,rh⟩:=v3 (by omega);obtain⟨m,hm⟩:=xq vs.length;have HM:=zq hm;rw[<-hm]at c3 hn hb1 v1;obtain⟨q,hq⟩:∃q,m=q+n:=⟨m-n,by omega⟩;have HQ:=zq hq;obtain⟨T,hT⟩:=xq (⟨text.toArray⟩:ByteArray);have HT:=zq hT;rw[<-hT]
 obtain⟨no,nn,dF,pG⟩:∃no nn dF,nv=.slice no nn dF:=by obtain⟨a,b,e,-⟩:=Qj h.jg;exact⟨a,_,b,e⟩
 have qG:((m:Nat):Int)-((n:Nat):Int)=((q:Nat):Int):=by omega
 have aQ:IntKind.i64.wrap ((q:Nat):Int)=((q:Nat):Int):=abL _ (by omega)
 have hlen:m-q=n:=by omega
 have hs0:(0:Int)<=((q:Nat):Int):=by omega
 have hs1:((q:Nat):Int)<=((m:Nat):Int):=by omega
 have hs2:((m:Nat):Int)<=((aA:Nat):Int):=by omega
 have hne: ¬aA=q:=by omega
 have hnews:∀j u,(ints (vs.drop q))[j]?=some u->w.cell? ⟨gv,q+j,none⟩=some u:=by intro j u hj;have e:=rh (q+j) (by have:=(aae.1 hj).1;rw[Qks,aag]at this;omega);rw[e,<-hj,<-Qw3,adp]
 have eK:(ints (vs.drop q)).length=n*1:=by rw[Qks,aag,<-hm];omega
 have WC:=zq hnews;have dH:=zq eK
 have mm:Hid (∀u∈ints (vs.drop q),u.oneCell'=true):=fun u hu=>by obtain⟨z,-,rfl⟩:=adR.1 hu;rfl
 have bt:Below w.heap.size w (w.alloc (.cells #[] 3)):=Qq _ _;have bS:=zq bt;have HOW:Hid ((w.alloc (.cells #[] 3)).drew.ownsRow (R+1) 3 1 (.slice (some ⟨w.heap.size,0,none⟩) 0 0) 0 []):=X0 ((ad2 w #[] 0 (by omega) (by unfold maxLen;omega) rfl).drew) (show R+1<=w.heap.size by omega);clear h hm hT hnews eK bt v3 rh hq;go_enter Tryz.func137,Tryz.ntmps137;go_wp2_with fail
 go_region_held3 (fun w'=>w'.cell? ⟨R,3,none⟩=some (.slice (some ⟨gv,0,none⟩) m aA))
  (first
   |go_keep
   |(go_split_ands;(rw[hgrow.cell_far _ (by simp;omega) (by simp[Value.ownBlock];omega)];assumption)))
  ((refine aeX _ (by rfl) _ _ _ (by rfl) (R+1) 3 i0 _ 1 8 Tryz.underlying41 hi hz0 hz1 hz2 rfl (by omega) (.slice (some ⟨w.heap.size,0,none⟩) 0 0) 0 [] (by rfl) (by exact HOW.o)
      ⟨gv,q,none⟩ n (aA-q) (ints (vs.drop q)) (by rfl) dH.o (fun j u h=>by rw[Hn];exact(bS.o.drew.cell (p:=⟨gv,q+j,none⟩) fe).trans (WC.o j u h)) mm.o
      (by omega) (by unfold maxLen;omega) (by omega) (by simp;omega) (w.heap.size+1) (by simp) ?_;intro gg gj w2 hown2 hgrow hat cE))
 have hb2:Below w.heap.size w w2:=bS.o.drew.grown hgrow (by simp) (fun q' hq'=>by
  have h1:(Value.slice (some ⟨w.heap.size,0,none⟩) 0 0).ownBlock=some w.heap.size:=rfl
  rw[h1]at hq';cases hq';exact aaa _)
 have pB:w.heap.size<=gg:=by
  rcases hat with h1|h1
  ·have h2:(Value.slice (some ⟨w.heap.size,0,none⟩) 0 0).ownBlock=some w.heap.size:=rfl
   rw[h2]at h1;cases h1;exact aaa _
  omega
 have nS:(vs.drop q).length=n:=by rw[aag,<-HM.o];omega
 have yh:Hid (KR w2 R none (.slice (some ⟨gg,0,none⟩) n gj) (vs.drop q)):=by
  have ho:=hown2;simp only[abx,adz]at ho;obtain⟨ao',cap',e,x1,x2,x3⟩:=Qj ho
  cases e
  refine⟨_,_,by rw[nS],by rw[nS];exact x1,x2,fun q' hq'=>⟨?_,?_,by simp⟩,fun h0=>⟨gg,rfl,fun j k hj=> ?_⟩⟩
  ·obtain rfl:gg=q':=aax hq'
   exact aaj aT pB
  ·obtain rfl:gg=q':=aax hq'
   exact cE
  obtain⟨g',e,-,-,x4⟩:=x3 (by omega)
  cases e
  rw[x4 j (by have:=(aae.1 hj).1;omega)];rw[adp]at hj;simp[ints,hj]
 have yb:=zq pB;have IG:=zq cE;have aD:=zq hb2;have dz:=zq (H.o.below hb2);have ld:=zq nS;clear c0 c1 c2 c3 c4 c5 c6 c7 f2 f3;obtain⟨c0,c1,c2,c3,c4,c5,c6,c7⟩:=dz.o.cells;have f3:=dz.o.eD 3;have qm:=dz.o.lt;rw[<-HM.o]at c3;rw[pG]at c2
 have bf:nn=ns.length:=by obtain⟨a,b,e,-⟩:=Qj dz.o.jg;rw[pG]at e;cases e;rfl
 have cw:=zq bf;have rV:=zq pG;clear pG bf
 have hs3:((q:Nat):Int)<=((aA:Nat):Int):=by omega
 have uO:Hid ((w2.alloc (.cells #[.int .i64 (nn:Nat)] 3)).drew.ownsRow (R+1) 3 1 (.slice (some ⟨gv,0,none⟩) q aA) q (ints (vs.take q))):=by
  have ho:=dz.o.pP;rw[<-HM.o]at ho;have h1:=Wy ho (show q<=m by omega)
  have e:(ints vs).take q=ints (vs.take q):=by simp[ints]
  rw[e]at h1;exact(Qg h1 (Qq w2 _) (aaa _)).drew
 clear hb2 pB nS hown2 hgrow hat cE;go_wp2_with fail;go_upto_region 1 with fail;go_cut [] (fun wx=>Hid (∃g5 bI,WM wx R tv L i nv (.slice (some ⟨g5,0,none⟩) (q+1) bI) sv ns (vs.take q++[ns.length]) cH want pw d/\KR wx R none (.slice (some ⟨gg,0,none⟩) n gj) (vs.drop q)/\g5≠gg/\Below R w wx/\ ∀B,R<B->B<w.heap.size->(Value.slice (some ⟨gv,0,none⟩) q aA).ownBlock≠some B->wx.heap[B]?=w.heap[B]? /\g5≠B))
 case first=>
  have vV:Hid (some R≠(Value.slice (some ⟨gv,0,none⟩) q aA).ownBlock):=fun e=>by have h1:(Value.slice (some ⟨gv,0,none⟩) q aA).ownBlock=some gv:=rfl;rw[h1]at e;cases e;omega
  have r9:Hid (R<(w2.alloc (.cells #[.int .i64 (nn:Nat)] 3)).drew.heap.size):=by show _<_;simp;omega
  have rE:Hid ((w2.alloc (.cells #[.int .i64 (nn:Nat)] 3)).drew.cell? ⟨R,3,none⟩=some (.slice (some ⟨gv,0,none⟩) m aA)):=((Qq w2 _).drew.cell (p:=⟨R,3,none⟩) qm).trans c3;have kF:Hid ((w2.alloc (.cells #[.int .i64 (nn:Nat)] 3)).drew.frozen? ⟨R,3,none⟩=false):=((Qq w2 _).drew.frozen (p:=⟨R,3,none⟩) qm).trans f3
  have nV:Hid (∀g6 cq w5,w5.ownsRow (R+1) 3 1 (.slice (some ⟨g6,0,none⟩) (q+1) cq) (q+1) (ints (vs.take q)++[.int .i64 (nn:Nat)])->(w2.alloc (.cells #[.int .i64 (nn:Nat)] 3)).drew.grownBy w5 (Value.slice (some ⟨gv,0,none⟩) q aA).ownBlock->((Value.slice (some ⟨gv,0,none⟩) q aA).ownBlock=some g6\/g6=w2.heap.size+1)->Hid (∃g5 bI,WM (w5.setCell ⟨R,3,none⟩ (.slice (some ⟨g6,0,none⟩) (q+1) cq)) R tv L i nv (.slice (some ⟨g5,0,none⟩) (q+1) bI) sv ns (vs.take q++[ns.length]) cH want pw d/\KR (w5.setCell ⟨R,3,none⟩ (.slice (some ⟨g6,0,none⟩) (q+1) cq)) R none (.slice (some ⟨gg,0,none⟩) n gj) (vs.drop q)/\g5≠gg/\Below R w (w5.setCell ⟨R,3,none⟩ (.slice (some ⟨g6,0,none⟩) (q+1) cq))/\ ∀B,R<B->B<w.heap.size->(Value.slice (some ⟨gv,0,none⟩) q aA).ownBlock≠some B->(w5.setCell ⟨R,3,none⟩ (.slice (some ⟨g6,0,none⟩) (q+1) cq)).heap[B]?=w.heap[B]? /\g5≠B)):=by
   intro g5 bI w5 ho hg hat;have NZ:(Value.slice (some ⟨gv,0,none⟩) q aA).ownBlock=some gv:=rfl;rw[NZ]at hg hat;have tB:=IG.o;have ML:=yb.o
   have hsz:w2.heap.size+1<=w5.heap.size:=by have:=hg.size;simpa using this
   have hblk:∀k,k<w2.heap.size->k≠gv->w5.heap[k]?=w2.heap[k]? :=fun k hk hne=>(hg.block k (by simp;omega) (by simp;exact fun e=>hne e)).trans ((Qq w2 (.cells #[.int .i64 (nn:Nat)] 3)).drew.block k hk)
   have aY:∀k,k≠R->(w5.setCell ⟨R,3,none⟩ (.slice (some ⟨g5,0,none⟩) (q+1) bI)).heap[k]?=w5.heap[k]? :=fun k hk=>aaX w5 ⟨R,3,none⟩ k _ hk;have uT:=(hblk R qm (by omega)).trans dz.o.blk;have uU:=(aas w5 R 3 _ _ (.slice (some ⟨g5,0,none⟩) (q+1) bI) uT)
   have uW:g5=gv\/g5=w2.heap.size+1:=by
    rcases hat with e|e
    ·cases e;exact .inl rfl
    exact .inr e
   refine⟨g5,bI,dz.o.vals (by simp[World.setCell];omega) (fun k hk tH hkv=> ?_) ?_ (fun q' hq'=> ?_) (uU.trans (by simp)),?_,?_,?_,?_⟩
   ·rw[aY k tH]
    exact hblk k hk (fun e=>hkv (by rw[e];rfl))
   ·have hl:(vs.take q++[ns.length]).length=q+1:=by rw[aac,aak,<-HM.o];simp<;>omega
    rw[hl,Gc]
    have e:ints [ns.length]=[Value.int .i64 (nn:Nat)]:=by rw[cw.o];rfl
    rw[e];exact Xf ho (fun g _ h1 _=>aY g (by omega))
   ·obtain rfl:g5=q':=aax hq'
    rcases uW with e|e
    ·left;rw[e];rfl
    right;omega
   ·exact yh.o.at (by simp[World.setCell];omega) (fun q' hq'=>by
     obtain rfl:gg=q':=aax hq';rw[aY gg (by omega)]
     exact hblk gg tB (by omega))
   ·rcases uW with e|e<;>omega
   ·refine⟨hg.os.trans aD.o.os,hg.tape.trans aD.o.tape,hg.output.trans aD.o.output,by simp[World.setCell];have:=aD.o.size;omega,fun k hk=> ?_⟩
    rw[aY k (by omega),hblk k (by omega) (by omega)];exact aD.o.block k (by omega)
   refine fun B yF hB hne=>⟨?_,?_⟩
   ·exact(aY B (by omega)).trans ((hblk B (by have:=aD.o.size;omega) (fun e=>hne (by rw[e];rfl))).trans (aD.o.block B hB))
   have:=aD.o.size;rcases uW with e|e
   ·rw[e];exact fun e=>hne (by rw[e];rfl)
   omega
  go_region_law
   ((refine aeX _ (by rfl) _ _ _ (by rfl) (R+1) 3 i0 _ 1 8 Tryz.underlying41 hi hz0 hz1 hz2 rfl (by omega) (.slice (some ⟨gv,0,none⟩) q aA) q (ints (vs.take q)) (by rfl) (by exact uO.o) ⟨w2.heap.size,0,none⟩ 1 1 [.int .i64 (nn:Nat)] (by rfl) (by rfl) (aeU (cs:= #[.int .i64 (nn:Nat)]) (aaz _ _)) (Ww _ rfl) (by omega) (by unfold maxLen;omega) (by omega) (by simp;omega) (w2.heap.size+1) (by simp) ?_;intro g5 bI w5 aK bc mF cT;have e3:w5.cell? ⟨R,3,none⟩=some (.slice (some ⟨gv,0,none⟩) m aA):=(bc.cell_far ⟨R,3,none⟩ r9.o vV.o).trans rE.o;have e4:w5.frozen? ⟨R,3,none⟩=false:=(bc.frozen_far ⟨R,3,none⟩ r9.o vV.o).trans kF.o))
  all_goals
   have HF:=nV.o g5 bI w5 aK bc mF;clear aK bc mF cT e3 e4;go_wp2_with fail;go_meet;exact HF
 case rest=>
  obtain⟨g5,bI,hw,hk,kq,hb,qx⟩:=hcut.o;have x9:=zq qx;have HW:=zq hw;have HK:=zq hk;have HB:=zq hb;clear c0 c1 c2 c3 c4 c5 c6 c7 f3 hcut;obtain⟨c0,c1,c2,c3,c4,c5,c6,c7⟩:=HW.o.cells;have f2:=HW.o.eD 2;have sU:=HW.o.lt;rw[rV.o]at c2
  have HOWN:Hid ((wc.alloc (.cells #[.int .i64 (op:Nat),.string T,.slice (some ⟨gg,0,none⟩) n gj] 43)).ownsRow (R+1) 43 3 (.slice no nn dF) nn (Xb ns)):=by have h1:=HW.o.jg;rw[rV.o,<-cw.o]at h1;exact Qg h1 (Qq _ _) (aaa _)
  have bf:nn<=134217728:=by rw[cw.o];exact hb2
  clear hw hk hb qx;go_wp2_with (at_builtin;refine adr _ rfl _ _ 23 rfl (R+1) 43 j0 (.agg #[.int .i64 0,.string ⟨#[]⟩,.slice none 0 0]) 3 48 Tryz.underlying23 hj kB qL je rfl (by omega) (.slice no nn dF) nn (Xb ns) rfl HOWN.o ⟨wc.heap.size,0,none⟩ 1 1 [.int .i64 (op:Nat),.string T,.slice (some ⟨gg,0,none⟩) n gj] rfl rfl (ag.Qh _ _ _ _ rfl) (by simp[Value.oneCell']) (by omega) (by unfold maxLen;omega) (by omega) (by simp;omega) (wc.heap.size+1) (by simp) ?_);intro g7 bJ w7 cU aH et jC
  have fj:some R≠(Value.slice no nn dF).ownBlock:=fun e=>by have:=(Vg HOWN.o e.symm).1;omega
  have sS:R<(wc.alloc (.cells #[.int .i64 (op:Nat),.string T,.slice (some ⟨gg,0,none⟩) n gj] 43)).heap.size:=by simp;omega
  have e2:w7.cell? ⟨R,2,none⟩=some (.slice no nn dF):=(aH.cell_far ⟨R,2,none⟩ sS fj).trans (((Qq wc _).cell (p:=⟨R,2,none⟩) sU).trans c2);have e4:w7.frozen? ⟨R,2,none⟩=false:=(aH.frozen_far ⟨R,2,none⟩ sS fj).trans (((Qq wc _).frozen (p:=⟨R,2,none⟩) sU).trans f2)
  have sR:Hid (nU R tv L i ns vs cH want pw d op n text w nv (.slice (some ⟨gv,0,none⟩) vs.length aA) sv (.returned (.tuple #[])) (w7.setCell ⟨R,2,none⟩ (.slice (some ⟨g7,0,none⟩) (nn+1) bJ))):=by
   have hsz:wc.heap.size+1<=w7.heap.size:=by have:=aH.size;simpa using this
   have gA:=rV.o
   have hblk:∀k,k<wc.heap.size->nv.ownBlock≠some k->w7.heap[k]?=wc.heap[k]? :=fun k hk hne=>(aH.block k (by simp;omega) (by rw[<-gA];exact fun e=>hne e.symm)).trans ((Qq wc _).block k hk)
   have aY:∀k,k≠R->(w7.setCell ⟨R,2,none⟩ (.slice (some ⟨g7,0,none⟩) (nn+1) bJ)).heap[k]?=w7.heap[k]? :=fun k hk=>aaX w7 ⟨R,2,none⟩ k _ hk;have qo:=(hblk R sU (by rw[gA];exact fun e=>fj e.symm)).trans HW.o.blk;have LK:=(aas w7 R 2 _ _ (.slice (some ⟨g7,0,none⟩) (nn+1) bJ) qo)
   have fC:vs.drop (vs.length-n)=vs.drop q:=by rw[<-HM.o,HQ.o,adQ]
   have Oz:vs.take (vs.length-n)=vs.take q:=by rw[<-HM.o,HQ.o,adQ]
   refine⟨rfl,?_,.slice (some ⟨g7,0,none⟩) (nn+1) bJ,.slice (some ⟨g5,0,none⟩) (q+1) bI,sv,.slice (some ⟨gg,0,none⟩) n gj,?_,?_⟩
   ·refine⟨aH.os.trans HB.o.os,aH.tape.trans HB.o.tape,aH.output.trans HB.o.output,by simp[World.setCell];have:=HB.o.size;omega,fun k hk=> ?_⟩
    rw[aY k (by omega),hblk k (by omega) (fun e=>by have:=(Vg HW.o.jg e).1;omega)];exact HB.o.block k hk
   ·rw[fC,Oz]
    refine HW.o.nodes (by simp[World.setCell];omega) (fun k hk tH bh=> ?_) ?_ (fun q' hq'=> ?_) HK.o (fun q' hq'=> ?_) (LK.trans (by simp))
    ·rw[aY k tH];exact hblk k hk bh
    ·have e1:(ns++[((⟨op,text,vs.drop q⟩:ae.Node),Value.slice (some ⟨gg,0,none⟩) n gj)]).length=nn+1:=by rw[aac,<-cw.o];rfl
     rw[e1,Uf]
     have e2:Xb [((⟨op,text,vs.drop q⟩:ae.Node),Value.slice (some ⟨gg,0,none⟩) n gj)]=[.int .i64 (op:Nat),.string T,.slice (some ⟨gg,0,none⟩) n gj]:=by rw[HT.o];rfl
     rw[e2];exact Xf cU (fun g _ h1 _=>aY g (by omega))
    ·obtain rfl:g7=q':=aax hq'
     rw[gA];rcases et with e|e
     ·exact .inl e
     right;omega
    obtain rfl:gg=q':=aax hq';have hg1:=yb.o;refine⟨fun e=> ?_,fun e=>kq (aax e),fun e=> ?_⟩
    ·have:=(Vg H.o.jg e).2;omega
    have:=(H.o.ru.1 _ e).2;omega
   intro B yF hB k1 k2 k3;obtain⟨y1,y2⟩:=x9.o B yF hB k2;have eF:=HB.o.size;refine⟨(aY B (by omega)).trans ((hblk B (by omega) k1).trans y1),fun e=> ?_,fun e=>y2 (aax e),k3⟩;obtain rfl:g7=B:=aax e;rcases et with e|e
   ·exact k1 (by rw[gA];exact e)
   omega
  clear cU aH et jC fj sS;go_wp2_with fail;go_end0;exact sR.o
theorem Qhx (R:Nat)(tv:Value)(L:List Tok)(i:Nat)(nv vv sv:Value)(ns:List Nv)(vs:List Nat)(cH:List aq.Op)(want pw:Bool)(d:Nat)(w:World)(h:WM w R tv L i nv vv sv ns vs cH want pw d)
  (op:Nat) (text:Bytes) (hop:op<=255) (OJ:vv.ownBlock≠none) (hb1:vs.length<=134217728) (hb2:ns.length<=134217728):
  Calls Tryz.prog 137 #[.pointer (some ⟨R,0,none⟩),.int .i64 (op:Nat),.string ⟨text.toArray⟩,.int .i64 0] w (nU R tv L i ns vs cH want pw d op 0 text w nv vv sv):=by
 obtain⟨i0,hi,hz0,hz1,hz2⟩:=abO Tryz.cC;obtain⟨j0,hj,kB,qL,je⟩:=abO Tryz.jL;have H:=zq h;have aT:=h.lt;obtain⟨c0,c1,c2,c3,c4,c5,c6,c7⟩:=h.cells;have f3:=h.eD 3;have f2:=h.eD 2
 obtain⟨gv,aA,he,yQ,fe,v1,v2⟩:∃gv aA,vv=.slice (some ⟨gv,0,none⟩) vs.length aA/\R+1<=gv/\gv<w.heap.size/\vs.length<=aA/\aA<=maxLen:=by
  rcases h.pP.2 with ⟨e,-⟩|⟨g,cap,cur,e,x1,x2,x3,x4,-,-⟩
  ·rw[e]at OJ;exact absurd rfl OJ
  exact⟨g,cap,e,x1,(aal.1 x2).1,x3,x4⟩
 subst he;obtain⟨m,hm⟩:=xq vs.length;have HM:=zq hm;rw[<-hm]at c3 hb1 v1;obtain⟨T,hT⟩:=xq (⟨text.toArray⟩:ByteArray);have HT:=zq hT;rw[<-hT]
 obtain⟨no,nn,dF,pG⟩:∃no nn dF,nv=.slice no nn dF:=by obtain⟨a,b,e,-⟩:=Qj h.jg;exact⟨a,_,b,e⟩
 have aQ:IntKind.i64.wrap ((m:Nat):Int)=((m:Nat):Int):=abL _ (by omega)
 have hs0:(0:Int)<=((m:Nat):Int):=by omega
 have hs2:((m:Nat):Int)<=((aA:Nat):Int):=by omega
 have hlen:m-m=0:=by omega
 obtain⟨ap,LX⟩:∃ap,(if aA=m then some (⟨gv,0,none⟩:Addr) else some ⟨gv,m,none⟩)=ap:=⟨_,rfl⟩;have bt:Below w.heap.size w (w.alloc (.cells #[] 3)):=Qq _ _;have bS:=zq bt;have HOW:Hid ((w.alloc (.cells #[] 3)).drew.ownsRow (R+1) 3 1 (.slice (some ⟨w.heap.size,0,none⟩) 0 0) 0 []):=X0 ((ad2 w #[] 0 (by omega) (by unfold maxLen;omega) rfl).drew) (show R+1<=w.heap.size by omega);clear h hm hT bt;go_enter Tryz.func137,Tryz.ntmps137;go_wp2_with fail
 go_region_held3 (fun w'=>w'.cell? ⟨R,3,none⟩=some (.slice (some ⟨gv,0,none⟩) m aA))
  (first
   |go_keep
   |(rw[hw2.o];go_keep))
  ((refine Vh (by rfl) _ _ (by rfl) w.heap.size ap (aA-m) (by rfl) (by rfl) ?_;intro w2 hw2))
 obtain⟨gg,ia⟩:=xq w.heap.size
 have hown2:w2.ownsRow (R+1) 3 1 (.slice (some ⟨gg,0,none⟩) 0 0) 0 []:=by rw[hw2.o,ia];exact HOW.o
 have cE:gg<w2.heap.size:=by rw[hw2.o,ia];simp
 have hb2:Below w.heap.size w w2:=by rw[hw2.o];exact bS.o.drew
 have pB:w.heap.size<=gg:=adK ia.symm
 have yh:Hid (KR w2 R none (.slice (some ⟨gg,0,none⟩) 0 0) []):=by refine⟨_,_,rfl,aaa _,aao _,fun q' hq'=> ?_,fun h0=>absurd h0 (ae1 _)⟩;obtain rfl:gg=q':=aax hq';exact⟨aaj aT pB,cE,by simp⟩
 have yb:=zq pB;have IG:=zq cE;have aD:=zq hb2;have dz:=zq (H.o.below hb2);clear c0 c1 c2 c3 c4 c5 c6 c7 f2 f3;obtain⟨c0,c1,c2,c3,c4,c5,c6,c7⟩:=dz.o.cells;have f3:=dz.o.eD 3;have qm:=dz.o.lt;rw[<-HM.o]at c3;rw[pG]at c2
 have bf:nn=ns.length:=by obtain⟨a,b,e,-⟩:=Qj dz.o.jg;rw[pG]at e;cases e;rfl
 have cw:=zq bf;have rV:=zq pG;clear pG bf
 have uO:Hid ((w2.alloc (.cells #[.int .i64 (nn:Nat)] 3)).drew.ownsRow (R+1) 3 1 (.slice (some ⟨gv,0,none⟩) m aA) m (ints (vs.take m))):=by
  have ho:=dz.o.pP;rw[<-HM.o]at ho;have h1:=Wy ho (aaa m)
  have e:(ints vs).take m=ints (vs.take m):=by simp[ints]
  rw[e]at h1;exact(Qg h1 (Qq w2 _) (aaa _)).drew
 rw[<-ia];have j7:=zq ia;clear hb2 pB hown2 cE hw2 ia;go_wp2_with fail;go_upto_region 1 with fail;go_cut [] (fun wx=>Hid (∃g5 bI,WM wx R tv L i nv (.slice (some ⟨g5,0,none⟩) (m+1) bI) sv ns (vs.take m++[ns.length]) cH want pw d/\KR wx R none (.slice (some ⟨gg,0,none⟩) 0 0) []/\g5≠gg/\Below R w wx/\ ∀B,R<B->B<w.heap.size->(Value.slice (some ⟨gv,0,none⟩) m aA).ownBlock≠some B->wx.heap[B]?=w.heap[B]? /\g5≠B))
 case first=>
  have vV:Hid (some R≠(Value.slice (some ⟨gv,0,none⟩) m aA).ownBlock):=fun e=>by have h1:(Value.slice (some ⟨gv,0,none⟩) m aA).ownBlock=some gv:=rfl;rw[h1]at e;cases e;omega
  have r9:Hid (R<(w2.alloc (.cells #[.int .i64 (nn:Nat)] 3)).drew.heap.size):=by show _<_;simp;omega
  have rE:Hid ((w2.alloc (.cells #[.int .i64 (nn:Nat)] 3)).drew.cell? ⟨R,3,none⟩=some (.slice (some ⟨gv,0,none⟩) m aA)):=((Qq w2 _).drew.cell (p:=⟨R,3,none⟩) qm).trans c3;have kF:Hid ((w2.alloc (.cells #[.int .i64 (nn:Nat)] 3)).drew.frozen? ⟨R,3,none⟩=false):=((Qq w2 _).drew.frozen (p:=⟨R,3,none⟩) qm).trans f3
  have nV:Hid (∀g6 cq w5,w5.ownsRow (R+1) 3 1 (.slice (some ⟨g6,0,none⟩) (m+1) cq) (m+1) (ints (vs.take m)++[.int .i64 (nn:Nat)])->(w2.alloc (.cells #[.int .i64 (nn:Nat)] 3)).drew.grownBy w5 (Value.slice (some ⟨gv,0,none⟩) m aA).ownBlock->((Value.slice (some ⟨gv,0,none⟩) m aA).ownBlock=some g6\/g6=w2.heap.size+1)->Hid (∃g5 bI,WM (w5.setCell ⟨R,3,none⟩ (.slice (some ⟨g6,0,none⟩) (m+1) cq)) R tv L i nv (.slice (some ⟨g5,0,none⟩) (m+1) bI) sv ns (vs.take m++[ns.length]) cH want pw d/\KR (w5.setCell ⟨R,3,none⟩ (.slice (some ⟨g6,0,none⟩) (m+1) cq)) R none (.slice (some ⟨gg,0,none⟩) 0 0) []/\g5≠gg/\Below R w (w5.setCell ⟨R,3,none⟩ (.slice (some ⟨g6,0,none⟩) (m+1) cq))/\ ∀B,R<B->B<w.heap.size->(Value.slice (some ⟨gv,0,none⟩) m aA).ownBlock≠some B->(w5.setCell ⟨R,3,none⟩ (.slice (some ⟨g6,0,none⟩) (m+1) cq)).heap[B]?=w.heap[B]? /\g5≠B)):=by
   intro g5 bI w5 ho hg hat;have NZ:(Value.slice (some ⟨gv,0,none⟩) m aA).ownBlock=some gv:=rfl;rw[NZ]at hg hat;have tB:=IG.o;have ML:=yb.o
   have hsz:w2.heap.size+1<=w5.heap.size:=by have:=hg.size;simpa using this
   have hblk:∀k,k<w2.heap.size->k≠gv->w5.heap[k]?=w2.heap[k]? :=fun k hk hne=>(hg.block k (by simp;omega) (by simp;exact fun e=>hne e)).trans ((Qq w2 (.cells #[.int .i64 (nn:Nat)] 3)).drew.block k hk)
   have aY:∀k,k≠R->(w5.setCell ⟨R,3,none⟩ (.slice (some ⟨g5,0,none⟩) (m+1) bI)).heap[k]?=w5.heap[k]? :=fun k hk=>aaX w5 ⟨R,3,none⟩ k _ hk;have uT:=(hblk R qm (by omega)).trans dz.o.blk;have uU:=(aas w5 R 3 _ _ (.slice (some ⟨g5,0,none⟩) (m+1) bI) uT)
   have uW:g5=gv\/g5=w2.heap.size+1:=by
    rcases hat with e|e
    ·cases e;exact .inl rfl
    exact .inr e
   refine⟨g5,bI,dz.o.vals (by simp[World.setCell];omega) (fun k hk tH hkv=> ?_) ?_ (fun q' hq'=> ?_) (uU.trans (by simp)),?_,?_,?_,?_⟩
   ·rw[aY k tH]
    exact hblk k hk (fun e=>hkv (by rw[e];rfl))
   ·have hl:(vs.take m++[ns.length]).length=m+1:=by rw[aac,aak,<-HM.o];simp<;>omega
    rw[hl,Gc]
    have e:ints [ns.length]=[Value.int .i64 (nn:Nat)]:=by rw[cw.o];rfl
    rw[e];exact Xf ho (fun g _ h1 _=>aY g (by omega))
   ·obtain rfl:g5=q':=aax hq'
    rcases uW with e|e
    ·left;rw[e];rfl
    right;omega
   ·exact yh.o.at (by simp[World.setCell];omega) (fun q' hq'=>by
     obtain rfl:gg=q':=aax hq';rw[aY gg (by omega)]
     exact hblk gg tB (by omega))
   ·rcases uW with e|e<;>omega
   ·refine⟨hg.os.trans aD.o.os,hg.tape.trans aD.o.tape,hg.output.trans aD.o.output,by simp[World.setCell];have:=aD.o.size;omega,fun k hk=> ?_⟩
    rw[aY k (by omega),hblk k (by omega) (by omega)];exact aD.o.block k (by omega)
   refine fun B yF hB hne=>⟨?_,?_⟩
   ·exact(aY B (by omega)).trans ((hblk B (by have:=aD.o.size;omega) (fun e=>hne (by rw[e];rfl))).trans (aD.o.block B hB))
   have:=aD.o.size;rcases uW with e|e
   ·rw[e];exact fun e=>hne (by rw[e];rfl)
   omega
  go_region_law
   ((refine aeX _ (by rfl) _ _ _ (by rfl) (R+1) 3 i0 _ 1 8 Tryz.underlying41 hi hz0 hz1 hz2 rfl (by omega) (.slice (some ⟨gv,0,none⟩) m aA) m (ints (vs.take m)) (by rfl) (by exact uO.o) ⟨w2.heap.size,0,none⟩ 1 1 [.int .i64 (nn:Nat)] (by rfl) (by rfl) (aeU (cs:= #[.int .i64 (nn:Nat)]) (aaz _ _)) (Ww _ rfl) (by omega) (by unfold maxLen;omega) (by omega) (by simp;omega) (w2.heap.size+1) (by simp) ?_;intro g5 bI w5 aK bc mF cT;have e3:w5.cell? ⟨R,3,none⟩=some (.slice (some ⟨gv,0,none⟩) m aA):=(bc.cell_far ⟨R,3,none⟩ r9.o vV.o).trans rE.o;have e4:w5.frozen? ⟨R,3,none⟩=false:=(bc.frozen_far ⟨R,3,none⟩ r9.o vV.o).trans kF.o))
  all_goals
   have HF:=nV.o g5 bI w5 aK bc mF;clear aK bc mF cT e3 e4;go_wp2_with fail;go_meet;exact HF
 case rest=>
  obtain⟨g5,bI,hw,hk,kq,hb,qx⟩:=hcut.o;have x9:=zq qx;have HW:=zq hw;have HK:=zq hk;have HB:=zq hb;clear c0 c1 c2 c3 c4 c5 c6 c7 f3 hcut;obtain⟨c0,c1,c2,c3,c4,c5,c6,c7⟩:=HW.o.cells;have f2:=HW.o.eD 2;have sU:=HW.o.lt;rw[rV.o]at c2
  have HOWN:Hid ((wc.alloc (.cells #[.int .i64 (op:Nat),.string T,.slice (some ⟨gg,0,none⟩) 0 0] 43)).ownsRow (R+1) 43 3 (.slice no nn dF) nn (Xb ns)):=by have h1:=HW.o.jg;rw[rV.o,<-cw.o]at h1;exact Qg h1 (Qq _ _) (aaa _)
  have bf:nn<=134217728:=by rw[cw.o];exact hb2
  clear hw hk hb qx;go_wp2_with (at_builtin;refine adr _ rfl _ _ 23 rfl (R+1) 43 j0 (.agg #[.int .i64 0,.string ⟨#[]⟩,.slice none 0 0]) 3 48 Tryz.underlying23 hj kB qL je rfl (by omega) (.slice no nn dF) nn (Xb ns) rfl HOWN.o ⟨wc.heap.size,0,none⟩ 1 1 [.int .i64 (op:Nat),.string T,.slice (some ⟨gg,0,none⟩) 0 0] rfl rfl (ag.Qh _ _ _ _ rfl) (by simp[Value.oneCell']) (by omega) (by unfold maxLen;omega) (by omega) (by simp;omega) (wc.heap.size+1) (by simp) ?_);intro g7 bJ w7 cU aH et jC
  have fj:some R≠(Value.slice no nn dF).ownBlock:=fun e=>by have:=(Vg HOWN.o e.symm).1;omega
  have sS:R<(wc.alloc (.cells #[.int .i64 (op:Nat),.string T,.slice (some ⟨gg,0,none⟩) 0 0] 43)).heap.size:=by simp;omega
  have e2:w7.cell? ⟨R,2,none⟩=some (.slice no nn dF):=(aH.cell_far ⟨R,2,none⟩ sS fj).trans (((Qq wc _).cell (p:=⟨R,2,none⟩) sU).trans c2);have e4:w7.frozen? ⟨R,2,none⟩=false:=(aH.frozen_far ⟨R,2,none⟩ sS fj).trans (((Qq wc _).frozen (p:=⟨R,2,none⟩) sU).trans f2)
  have sR:Hid (nU R tv L i ns vs cH want pw d op 0 text w nv (.slice (some ⟨gv,0,none⟩) vs.length aA) sv (.returned (.tuple #[])) (w7.setCell ⟨R,2,none⟩ (.slice (some ⟨g7,0,none⟩) (nn+1) bJ))):=by
   have hsz:wc.heap.size+1<=w7.heap.size:=by have:=aH.size;simpa using this
   have gA:=rV.o
   have hblk:∀k,k<wc.heap.size->nv.ownBlock≠some k->w7.heap[k]?=wc.heap[k]? :=fun k hk hne=>(aH.block k (by simp;omega) (by rw[<-gA];exact fun e=>hne e.symm)).trans ((Qq wc _).block k hk)
   have aY:∀k,k≠R->(w7.setCell ⟨R,2,none⟩ (.slice (some ⟨g7,0,none⟩) (nn+1) bJ)).heap[k]?=w7.heap[k]? :=fun k hk=>aaX w7 ⟨R,2,none⟩ k _ hk;have qo:=(hblk R sU (by rw[gA];exact fun e=>fj e.symm)).trans HW.o.blk;have LK:=(aas w7 R 2 _ _ (.slice (some ⟨g7,0,none⟩) (nn+1) bJ) qo)
   have fC:vs.drop (vs.length-0)=[]:=by simp
   have Oz:vs.take (vs.length-0)=vs.take m:=by rw[HM.o];simp
   refine⟨rfl,?_,.slice (some ⟨g7,0,none⟩) (nn+1) bJ,.slice (some ⟨g5,0,none⟩) (m+1) bI,sv,.slice (some ⟨gg,0,none⟩) 0 0,?_,?_⟩
   ·refine⟨aH.os.trans HB.o.os,aH.tape.trans HB.o.tape,aH.output.trans HB.o.output,by simp[World.setCell];have:=HB.o.size;omega,fun k hk=> ?_⟩
    rw[aY k (by omega),hblk k (by omega) (fun e=>by have:=(Vg HW.o.jg e).1;omega)];exact HB.o.block k hk
   ·rw[fC,Oz]
    refine HW.o.nodes (by simp[World.setCell];omega) (fun k hk tH bh=> ?_) ?_ (fun q' hq'=> ?_) HK.o (fun q' hq'=> ?_) (LK.trans (by simp))
    ·rw[aY k tH];exact hblk k hk bh
    ·have e1:(ns++[((⟨op,text,[]⟩:ae.Node),Value.slice (some ⟨gg,0,none⟩) 0 0)]).length=nn+1:=by rw[aac,<-cw.o];rfl
     rw[e1,Uf]
     have e2:Xb [((⟨op,text,[]⟩:ae.Node),Value.slice (some ⟨gg,0,none⟩) 0 0)]=[.int .i64 (op:Nat),.string T,.slice (some ⟨gg,0,none⟩) 0 0]:=by rw[HT.o];rfl
     rw[e2];exact Xf cU (fun g _ h1 _=>aY g (by omega))
    ·obtain rfl:g7=q':=aax hq'
     rw[gA];rcases et with e|e
     ·exact .inl e
     right;omega
    obtain rfl:gg=q':=aax hq';have hg1:=yb.o;refine⟨fun e=> ?_,fun e=>kq (aax e),fun e=> ?_⟩
    ·have:=(Vg H.o.jg e).2;omega
    have:=(H.o.ru.1 _ e).2;omega
   intro B yF hB k1 k2 k3;obtain⟨y1,y2⟩:=x9.o B yF hB k2;have eF:=HB.o.size;refine⟨(aY B (by omega)).trans ((hblk B (by omega) k1).trans y1),fun e=> ?_,fun e=>y2 (aax e),k3⟩;obtain rfl:g7=B:=aax e;rcases et with e|e
   ·exact k1 (by rw[gA];exact e)
   omega
  clear cU aH et jC fj sS;go_wp2_with fail;go_end0;exact sR.o
theorem Qhq (R:Nat)(tv:Value)(L:List Tok)(i:Nat)(nv vv sv:Value)(ns:List Nv)(vs:List Nat)(cH:List aq.Op)(want pw:Bool)(d:Nat)(w:World)(h:WM w R tv L i nv vv sv ns vs cH want pw d)
  (op:Nat) (text:Bytes) (hop:op<=255) (OJ:vv.ownBlock=none) (hb1:vs.length<=134217728) (hb2:ns.length<=134217728):
  Calls Tryz.prog 137 #[.pointer (some ⟨R,0,none⟩),.int .i64 (op:Nat),.string ⟨text.toArray⟩,.int .i64 0] w (nU R tv L i ns vs cH want pw d op 0 text w nv vv sv):=by
 obtain⟨i0,hi,hz0,hz1,hz2⟩:=abO Tryz.cC;obtain⟨j0,hj,kB,qL,je⟩:=abO Tryz.jL;have H:=zq h;have aT:=h.lt;obtain⟨c0,c1,c2,c3,c4,c5,c6,c7⟩:=h.cells;have f3:=h.eD 3;have f2:=h.eD 2
 obtain⟨he,hv0⟩:vv=.slice none 0 0/\vs=[]:=by
  rcases h.pP.2 with ⟨e,h0⟩|⟨g,cap,cur,e,x1,x2,x3,x4,-,-⟩
  ·exact⟨e,aaq h0⟩
  rw[e]at OJ;cases OJ
 subst he;subst hv0;obtain⟨T,hT⟩:=xq (⟨text.toArray⟩:ByteArray);have HT:=zq hT;rw[<-hT]
 obtain⟨no,nn,dF,pG⟩:∃no nn dF,nv=.slice no nn dF:=by obtain⟨a,b,e,-⟩:=Qj h.jg;exact⟨a,_,b,e⟩
 have hw0:IntKind.i64.wrap 0=0:=by decide
 have bt:Below w.heap.size w (w.alloc (.cells #[] 3)):=Qq _ _;have bS:=zq bt;have HOW:Hid ((w.alloc (.cells #[] 3)).drew.ownsRow (R+1) 3 1 (.slice (some ⟨w.heap.size,0,none⟩) 0 0) 0 []):=X0 ((ad2 w #[] 0 (by omega) (by unfold maxLen;omega) rfl).drew) (show R+1<=w.heap.size by omega);clear h hT bt;go_enter Tryz.func137,Tryz.ntmps137;go_wp2_with fail
 go_region_held3 (fun w'=>w'.cell? ⟨R,3,none⟩=some (.slice none 0 0))
  (first
   |go_keep
   |(rw[hw2.o];go_keep))
  ((refine Vh (by rfl) _ _ (by rfl) w.heap.size none 0 (by rfl) (by rfl) ?_;intro w2 hw2))
 obtain⟨gg,ia⟩:=xq w.heap.size
 have hown2:w2.ownsRow (R+1) 3 1 (.slice (some ⟨gg,0,none⟩) 0 0) 0 []:=by rw[hw2.o,ia];exact HOW.o
 have cE:gg<w2.heap.size:=by rw[hw2.o,ia];simp
 have hb2:Below w.heap.size w w2:=by rw[hw2.o];exact bS.o.drew
 have pB:w.heap.size<=gg:=adK ia.symm
 have yh:Hid (KR w2 R none (.slice (some ⟨gg,0,none⟩) 0 0) []):=by refine⟨_,_,rfl,aaa _,aao _,fun q' hq'=> ?_,fun h0=>absurd h0 (ae1 _)⟩;obtain rfl:gg=q':=aax hq';exact⟨aaj aT pB,cE,by simp⟩
 have yb:=zq pB;have IG:=zq cE;have aD:=zq hb2;have dz:=zq (H.o.below hb2);clear c0 c1 c2 c3 c4 c5 c6 c7 f2 f3;obtain⟨c0,c1,c2,c3,c4,c5,c6,c7⟩:=dz.o.cells;have f3:=dz.o.eD 3;have qm:=dz.o.lt;rw[pG]at c2
 have bf:nn=ns.length:=by obtain⟨a,b,e,-⟩:=Qj dz.o.jg;rw[pG]at e;cases e;rfl
 have cw:=zq bf;have rV:=zq pG;clear pG bf
 have uO:Hid ((w2.alloc (.cells #[.int .i64 (nn:Nat)] 3)).drew.ownsRow (R+1) 3 1 (.slice none 0 0) 0 (ints ([]:List Nat))):=by exact(Qg dz.o.pP (Qq w2 _) (aaa _)).drew
 rw[<-ia];have j7:=zq ia;clear hb2 pB hown2 cE hw2 ia;go_wp2_with fail;go_upto_region 1 with fail;go_cut [] (fun wx=>Hid (∃g5 bI,WM wx R tv L i nv (.slice (some ⟨g5,0,none⟩) 1 bI) sv ns (([]:List Nat)++[ns.length]) cH want pw d/\KR wx R none (.slice (some ⟨gg,0,none⟩) 0 0) []/\g5≠gg/\Below R w wx/\ ∀B,R<B->B<w.heap.size->(Value.slice none 0 0).ownBlock≠some B->wx.heap[B]?=w.heap[B]? /\g5≠B))
 case first=>
  have vV:Hid (some R≠(Value.slice none 0 0).ownBlock):=fun e=>by have h1:(Value.slice none 0 0).ownBlock=none:=rfl;rw[h1]at e;cases e
  have r9:Hid (R<(w2.alloc (.cells #[.int .i64 (nn:Nat)] 3)).drew.heap.size):=by show _<_;simp;omega
  have rE:Hid ((w2.alloc (.cells #[.int .i64 (nn:Nat)] 3)).drew.cell? ⟨R,3,none⟩=some (.slice none 0 0)):=((Qq w2 _).drew.cell (p:=⟨R,3,none⟩) qm).trans c3;have kF:Hid ((w2.alloc (.cells #[.int .i64 (nn:Nat)] 3)).drew.frozen? ⟨R,3,none⟩=false):=((Qq w2 _).drew.frozen (p:=⟨R,3,none⟩) qm).trans f3
  have nV:Hid (∀g6 cq w5,w5.ownsRow (R+1) 3 1 (.slice (some ⟨g6,0,none⟩) 1 cq) 1 (ints ([]:List Nat)++[.int .i64 (nn:Nat)])->(w2.alloc (.cells #[.int .i64 (nn:Nat)] 3)).drew.grownBy w5 (Value.slice none 0 0).ownBlock->((Value.slice none 0 0).ownBlock=some g6\/g6=w2.heap.size+1)->Hid (∃g5 bI,WM (w5.setCell ⟨R,3,none⟩ (.slice (some ⟨g6,0,none⟩) 1 cq)) R tv L i nv (.slice (some ⟨g5,0,none⟩) 1 bI) sv ns (([]:List Nat)++[ns.length]) cH want pw d/\KR (w5.setCell ⟨R,3,none⟩ (.slice (some ⟨g6,0,none⟩) 1 cq)) R none (.slice (some ⟨gg,0,none⟩) 0 0) []/\g5≠gg/\Below R w (w5.setCell ⟨R,3,none⟩ (.slice (some ⟨g6,0,none⟩) 1 cq))/\ ∀B,R<B->B<w.heap.size->(Value.slice none 0 0).ownBlock≠some B->(w5.setCell ⟨R,3,none⟩ (.slice (some ⟨g6,0,none⟩) 1 cq)).heap[B]?=w.heap[B]? /\g5≠B)):=by
   intro g5 bI w5 ho hg hat;have NZ:(Value.slice none 0 0).ownBlock=none:=rfl;rw[NZ]at hg hat;have tB:=IG.o;have ML:=yb.o
   have hsz:w2.heap.size+1<=w5.heap.size:=by have:=hg.size;simpa using this
   have hblk:∀k,k<w2.heap.size->w5.heap[k]?=w2.heap[k]? :=fun k hk=>(hg.block k (by simp;omega) (by simp)).trans ((Qq w2 (.cells #[.int .i64 (nn:Nat)] 3)).drew.block k hk)
   have aY:∀k,k≠R->(w5.setCell ⟨R,3,none⟩ (.slice (some ⟨g5,0,none⟩) 1 bI)).heap[k]?=w5.heap[k]? :=fun k hk=>aaX w5 ⟨R,3,none⟩ k _ hk;have uT:=(hblk R qm).trans dz.o.blk;have uU:=(aas w5 R 3 _ _ (.slice (some ⟨g5,0,none⟩) 1 bI) uT)
   have uW:g5=w2.heap.size+1:=by
    rcases hat with e|e
    ·cases e
    exact e
   refine⟨g5,bI,dz.o.vals (by simp[World.setCell];omega) (fun k hk tH hkv=> ?_) ?_ (fun q' hq'=> ?_) (uU.trans (by simp)),?_,?_,?_,?_⟩
   ·rw[aY k tH]
    exact hblk k hk
   ·have hl:(([]:List Nat)++[ns.length]).length=1:=rfl
    rw[hl,Gc]
    have e:ints [ns.length]=[Value.int .i64 (nn:Nat)]:=by rw[cw.o];rfl
    rw[e];exact Xf ho (fun g _ h1 _=>aY g (by omega))
   ·obtain rfl:g5=q':=aax hq'
    right;omega
   ·exact yh.o.at (by simp[World.setCell];omega) (fun q' hq'=>by
     obtain rfl:gg=q':=aax hq';rw[aY gg (by omega)]
     exact hblk gg tB)
   ·omega
   ·refine⟨hg.os.trans aD.o.os,hg.tape.trans aD.o.tape,hg.output.trans aD.o.output,by simp[World.setCell];have:=aD.o.size;omega,fun k hk=> ?_⟩
    rw[aY k (by omega),hblk k (by omega)];exact aD.o.block k (by omega)
   refine fun B yF hB hne=>⟨?_,?_⟩
   ·exact(aY B (by omega)).trans ((hblk B (by have:=aD.o.size;omega)).trans (aD.o.block B hB))
   have:=aD.o.size;omega
  go_region_law
   ((refine aeX _ (by rfl) _ _ _ (by rfl) (R+1) 3 i0 _ 1 8 Tryz.underlying41 hi hz0 hz1 hz2 rfl (by omega) (.slice none 0 0) 0 (ints ([]:List Nat)) (by rfl) (by exact uO.o) ⟨w2.heap.size,0,none⟩ 1 1 [.int .i64 (nn:Nat)] (by rfl) (by rfl) (aeU (cs:= #[.int .i64 (nn:Nat)]) (aaz _ _)) (Ww _ rfl) (by omega) (by unfold maxLen;omega) (by omega) (by simp;omega) (w2.heap.size+1) (by simp) ?_;intro g5 bI w5 aK bc mF cT;have e3:w5.cell? ⟨R,3,none⟩=some (.slice none 0 0):=(bc.cell_far ⟨R,3,none⟩ r9.o vV.o).trans rE.o;have e4:w5.frozen? ⟨R,3,none⟩=false:=(bc.frozen_far ⟨R,3,none⟩ r9.o vV.o).trans kF.o))
  all_goals
   have HF:=nV.o g5 bI w5 aK bc mF;clear aK bc mF cT e3 e4;go_wp2_with fail;go_meet;exact HF
 case rest=>
  obtain⟨g5,bI,hw,hk,kq,hb,qx⟩:=hcut.o;have x9:=zq qx;have HW:=zq hw;have HK:=zq hk;have HB:=zq hb;clear c0 c1 c2 c3 c4 c5 c6 c7 f3 hcut;obtain⟨c0,c1,c2,c3,c4,c5,c6,c7⟩:=HW.o.cells;have f2:=HW.o.eD 2;have sU:=HW.o.lt;rw[rV.o]at c2
  have HOWN:Hid ((wc.alloc (.cells #[.int .i64 (op:Nat),.string T,.slice (some ⟨gg,0,none⟩) 0 0] 43)).ownsRow (R+1) 43 3 (.slice no nn dF) nn (Xb ns)):=by have h1:=HW.o.jg;rw[rV.o,<-cw.o]at h1;exact Qg h1 (Qq _ _) (aaa _)
  have bf:nn<=134217728:=by rw[cw.o];exact hb2
  clear hw hk hb qx;go_wp2_with (at_builtin;refine adr _ rfl _ _ 23 rfl (R+1) 43 j0 (.agg #[.int .i64 0,.string ⟨#[]⟩,.slice none 0 0]) 3 48 Tryz.underlying23 hj kB qL je rfl (by omega) (.slice no nn dF) nn (Xb ns) rfl HOWN.o ⟨wc.heap.size,0,none⟩ 1 1 [.int .i64 (op:Nat),.string T,.slice (some ⟨gg,0,none⟩) 0 0] rfl rfl (ag.Qh _ _ _ _ rfl) (by simp[Value.oneCell']) (by omega) (by unfold maxLen;omega) (by omega) (by simp;omega) (wc.heap.size+1) (by simp) ?_);intro g7 bJ w7 cU aH et jC
  have fj:some R≠(Value.slice no nn dF).ownBlock:=fun e=>by have:=(Vg HOWN.o e.symm).1;omega
  have sS:R<(wc.alloc (.cells #[.int .i64 (op:Nat),.string T,.slice (some ⟨gg,0,none⟩) 0 0] 43)).heap.size:=by simp;omega
  have e2:w7.cell? ⟨R,2,none⟩=some (.slice no nn dF):=(aH.cell_far ⟨R,2,none⟩ sS fj).trans (((Qq wc _).cell (p:=⟨R,2,none⟩) sU).trans c2);have e4:w7.frozen? ⟨R,2,none⟩=false:=(aH.frozen_far ⟨R,2,none⟩ sS fj).trans (((Qq wc _).frozen (p:=⟨R,2,none⟩) sU).trans f2)
  have sR:Hid (nU R tv L i ns [] cH want pw d op 0 text w nv (.slice none 0 0) sv (.returned (.tuple #[])) (w7.setCell ⟨R,2,none⟩ (.slice (some ⟨g7,0,none⟩) (nn+1) bJ))):=by
   have hsz:wc.heap.size+1<=w7.heap.size:=by have:=aH.size;simpa using this
   have gA:=rV.o
   have hblk:∀k,k<wc.heap.size->nv.ownBlock≠some k->w7.heap[k]?=wc.heap[k]? :=fun k hk hne=>(aH.block k (by simp;omega) (by rw[<-gA];exact fun e=>hne e.symm)).trans ((Qq wc _).block k hk)
   have aY:∀k,k≠R->(w7.setCell ⟨R,2,none⟩ (.slice (some ⟨g7,0,none⟩) (nn+1) bJ)).heap[k]?=w7.heap[k]? :=fun k hk=>aaX w7 ⟨R,2,none⟩ k _ hk;have qo:=(hblk R sU (by rw[gA];exact fun e=>fj e.symm)).trans HW.o.blk;have LK:=(aas w7 R 2 _ _ (.slice (some ⟨g7,0,none⟩) (nn+1) bJ) qo)
   have fC:([]:List Nat).drop (([]:List Nat).length-0)=[]:=by simp
   have Oz:([]:List Nat).take (([]:List Nat).length-0)=[]:=by simp
   refine⟨rfl,?_,.slice (some ⟨g7,0,none⟩) (nn+1) bJ,.slice (some ⟨g5,0,none⟩) 1 bI,sv,.slice (some ⟨gg,0,none⟩) 0 0,?_,?_⟩
   ·refine⟨aH.os.trans HB.o.os,aH.tape.trans HB.o.tape,aH.output.trans HB.o.output,by simp[World.setCell];have:=HB.o.size;omega,fun k hk=> ?_⟩
    rw[aY k (by omega),hblk k (by omega) (fun e=>by have:=(Vg HW.o.jg e).1;omega)];exact HB.o.block k hk
   ·rw[fC,Oz]
    refine HW.o.nodes (by simp[World.setCell];omega) (fun k hk tH bh=> ?_) ?_ (fun q' hq'=> ?_) HK.o (fun q' hq'=> ?_) (LK.trans (by simp))
    ·rw[aY k tH];exact hblk k hk bh
    ·have e1:(ns++[((⟨op,text,[]⟩:ae.Node),Value.slice (some ⟨gg,0,none⟩) 0 0)]).length=nn+1:=by rw[aac,<-cw.o];rfl
     rw[e1,Uf]
     have e2:Xb [((⟨op,text,[]⟩:ae.Node),Value.slice (some ⟨gg,0,none⟩) 0 0)]=[.int .i64 (op:Nat),.string T,.slice (some ⟨gg,0,none⟩) 0 0]:=by rw[HT.o];rfl
     rw[e2];exact Xf cU (fun g _ h1 _=>aY g (by omega))
    ·obtain rfl:g7=q':=aax hq'
     rw[gA];rcases et with e|e
     ·exact .inl e
     right;omega
    obtain rfl:gg=q':=aax hq';have hg1:=yb.o;refine⟨fun e=> ?_,fun e=>kq (aax e),fun e=> ?_⟩
    ·have:=(Vg H.o.jg e).2;omega
    have:=(H.o.ru.1 _ e).2;omega
   intro B yF hB k1 k2 k3;obtain⟨y1,y2⟩:=x9.o B yF hB k2;have eF:=HB.o.size;refine⟨(aY B (by omega)).trans ((hblk B (by omega) k1).trans y1),fun e=> ?_,fun e=>y2 (aax e),k3⟩;obtain rfl:g7=B:=aax e;rcases et with e|e
   ·exact k1 (by rw[gA];exact e)
   omega
  clear cU aH et jC fj sS;go_wp2_with fail;go_end0;exact sR.o
end Go.Proofs.YtgfmiladfeoldaaGreatDoor
