import Derived.Test.YtgfmiladfeoldaaGreatDoorPk18
set_option linter.unusedSimpArgs false
set_option linter.unusedVariables false
set_option maxRecDepth 100000
set_option maxHeartbeats 16000000
namespace Go.Proofs.YtgfmiladfeoldaaGreatDoor
open Go.RowKit ag ai
theorem Qd4:YF:=by
 intro R tv L fin a0 x w h hm hd ha iA bT hsz;obtain⟨a,yI⟩:=xq (a0+1);rw[<-yI]at h;obtain⟨i0,hi,hz0,hz1,hz2⟩:=abO Tryz.pK;obtain⟨j0,hj,kB,qL,je⟩:=abO Tryz.uA;have gM:=zq h;obtain⟨nv,vv,sv,ns,h1,h2⟩:=h;have aT:=h1.lt;have VP:=zq h1;have QH:=zq h2;have jJ:=h1.tks;obtain⟨ao,cap,nh,t1,t2,t3⟩:=jJ;obtain⟨g,hao,yQ,-⟩:=t3 (by omega);subst hao;have jJ:=h1.tks;rw[nh]at jJ;have jT:=zq jJ;have qU:=zq nh;have ey:=zq bT;have dN:=zq hsz;obtain⟨n,hn⟩:=xq L.length;have HN:=zq hn;have QG:=zq iA;rw[<-hn]at nh iA ha jT
 have vR:Hid (WM w R (.slice (some ⟨g,0,none⟩) n cap) L a nv vv sv ns (ae.Q0 x.vals.reverse 0) x.stack.reverse x.want x.pw x.depth):=by rw[<-nh];exact h1
 have hab:a<=n:=by omega
 have ha1:0+1<=a:=by omega
 obtain⟨c0,c1,-,-,-,-,-,-⟩:=h1.cells;have f1:=h1.eD 1;rw[nh]at c0;have hst:=br.start h1;rw[nh]at hst;have dW:=zq hst;have vP:=zq (Hh R _ L a w c0 jT.o (by omega));obtain⟨b,hb⟩:=xq (a+1)
 have hb1:((a:Nat):Int)+1=((b:Nat):Int):=by omega
 have hb2:IntKind.i64.wrap ((b:Nat):Int)=((b:Nat):Int):=abL _ (by omega)
 have oJ:b<=67108866:=by omega
 obtain⟨yD,hcnd⟩:=xq ((ae.Qm 1 (L.drop a) && ae.Qv [58] (L.drop (a+1))));have Iw:=zq hcnd;have iw:=zq (fun (hc:yD=true) w5 (h5:eC w5 R tv L a x)=>Qht R tv L fin a0 a x w5 h5 hm hd yI QG.o bT hsz (by rw[hc]at hcnd;exact(Bool.and_eq_true_iff.1 hcnd.symm).1) (by rw[hc]at hcnd;exact(Bool.and_eq_true_iff.1 hcnd.symm).2));have EW:=zq (fun (hc:yD=false)=>Qg8 (fin:=fin) hm hd yI (by rw[hc]at hcnd;exact hcnd.symm));rw[<-hb]at Iw;have j6:=zq hb;clear h1 h2 hm hd bT hsz hn jJ t1 t2 t3 yI hb hst hcnd;go_enter Tryz.func153,Tryz.ntmps153;go_upto_region 1 with fail;go_cut [30] (fun d wx=>d=.bool yD/\Hid (Below w.heap.size w wx))
 case first=>
  have xZ:Hid (yD=(ae.Qm 1 (L.drop a) && ae.Qv [58] (L.drop b))):=Iw;by_cases cS:ae.Qm 1 (L.drop a)=true
  ·have hk:(((cd L a:Nat):Int)==1)=true:=by
    rw[J0 (by decide)]at cS;simp at cS;simp[cS]
   obtain⟨v58,DU⟩:=xq (ae.Qv [58] (L.drop b));have XG:=zq DU
   have hcv:yD=v58:=by rw[xZ.o,cS,DU];rfl
   subst hcv;clear cS DU;go_wp2_with fail;refine vP.o.mono ?_;rintro e w1 ⟨rfl,hb1'⟩;have aQ:=dW.o.below hb1';obtain⟨d0,d1,-⟩:=aQ.cells;have HIS:=zq (Rt R _ L b [58] w1 d0 (aQ.tks aT jT.o) (by omega));rw[<-XG.o]at HIS;have aC:=zq hb1';clear hb1' aQ c0 c1 f1;go_wp2_with fail;refine HIS.o.mono ?_;rintro e w2 ⟨rfl,hb2'⟩;have aD:=zq (Qz aC.o hb2');clear hb2' d0 d1;go_wp2_with fail;go_meet;exact⟨rfl,aD⟩
  have jB:ae.Qm 1 (L.drop a)=false:=by simpa using cS
  have hk:(((cd L a:Nat):Int)==1)=false:=by rw[J0 (by decide)]at jB;simp at jB;simp;omega
  have hcv:yD=false:=by rw[xZ.o,jB];rfl
  subst hcv;clear cS jB;go_wp2_with fail;refine vP.o.mono ?_;rintro e w1 ⟨rfl,hb1'⟩;have aC:=zq hb1';clear hb1' c0 c1 f1;go_wp2_with fail;go_meet;exact⟨rfl,aC⟩
 case rest=>
  obtain⟨rfl,hwc⟩:=hcut;obtain⟨wa,rfl⟩:=xq wc;have bS:=hwc;clear hwc c0 c1 f1 vP;by_cases hcc:yD=true
  ·have cr:=zq (iw.o hcc wa (gM.o.below bS.o))
   subst hcc;go_wp2_with fail;refine cr.o.mono ?_
   cases dA:gD fin x with
   |error p=>
    obtain⟨c,k⟩:=p;rintro e w3 ⟨hb3,a3,rfl,hc,hk⟩;have aS:Hid (Below R w w3):=(bS.o.mono (abD aT)).trans hb3;have rE:=zq hc;have rN:=zq hk;have iU:=zq dA;clear hb3 dA hc hk;go_wp2_with fail;go_ret2;refine⟨aS.o,?_⟩;rw[iU.o]
    exact⟨a3,rfl,rE.o,rN.o⟩
   |ok x'=>rintro e w3 ⟨hb3,rfl,za⟩;have aS:Hid (Below R w w3):=(bS.o.mono (abD aT)).trans hb3;have o9:=zq za;have iU:=zq dA;clear hb3 dA za;go_wp2_with fail;go_ret2;refine⟨aS.o,?_⟩;rw[iU.o];exact⟨rfl,o9.o⟩
  have MA:yD=false:=by simpa using hcc
  obtain⟨rr,jH,tx⟩:=EW.o MA;subst MA;have iW:=zq jH;have HEA:=zq tx;have abR:w.heap.size<=wa.heap.size:=bS.o.size
  have HST:Hid (QZ fin x L rr w R (.slice (some ⟨g,0,none⟩) n cap) nv vv sv (.slice (some ⟨wa.heap.size+1,0,none⟩) 1 1) ((wa.alloc (.cells #[] 62)).alloc (.cells #[.slice (some ⟨wa.heap.size,0,none⟩) 0 0] 45))):=by have aav:=Qq wa (.cells #[] 62);have aaw:=Qq (wa.alloc (.cells #[] 62)) (.cells #[.slice (some ⟨wa.heap.size,0,none⟩) 0 0] 45);exact⟨a,[],_,[],[],Mt.one wa w.heap.size abR,dW.o.below (Qz bS.o (Qz aav aaw)),HEA.o,by rw[<-HN.o];exact hab,by show 0+1<=a;exact ha1,aao _,aao _,fun r hr=>(by cases hr),fun p hp=>by cases hp⟩
  clear hcc jH tx iw EW;go_upto_block 0 with fail;go_cut [6] (fun rv wx=>Hid (MtE x L rr w R (.slice (some ⟨g,0,none⟩) n cap) nv vv sv rv wx))
  case first=>
   go_wp2_with fail;go_loopw [6] (fun rv wr=>QZ fin x L rr w R (.slice (some ⟨g,0,none⟩) n cap) nv vv sv rv wr) (fun _ wr=>Q9 L R wr)
   case atStart=>exact HST.o
   case round=>
    obtain⟨j,rs,lv,cs,cur,yY,dK,tx,jA,mX,dA,xy,ua⟩:=hrel;rw[<-HN.o]at jA;obtain⟨gr,rcap,lo,bE,rfl,SZ,hgB,fe,aaC,MA,hlv,hcc⟩:=yY.last;have tN:=zq hlv;have ml:=zq yY;have AU:=zq dK;have rJ:=zq tx;have zM:=zq (dK.left L);have HCC:=zq hcc;have j9:=zq ua;obtain⟨p,hp⟩:=xq rs.length;have HP:=zq hp;obtain⟨m,hm⟩:=xq (p+1);have QI:=zq hm;rw[<-hp,<-hm]at ml SZ;rw[<-hp,<-hm]
    have vg:p<m:=by omega
    have qG:((m:Nat):Int)-1=((p:Nat):Int):=by omega
    have rk:rs.length+1<=j:=mX;have hcb:cs.length<=j:=dA
    have hpb:p<=67108864:=by omega
    have hwp:IntKind.i64.wrap ((p:Nat):Int)=((p:Nat):Int):=abL _ (by omega)
    have y7:(0:Int)<=((p:Nat):Int):=by omega
    have kP:((p:Nat):Int)<((m:Nat):Int):=by omega
    obtain⟨c0,c1,f⟩:=dK.cells;have f1:=f 1;have bT:=dK.tks aT jT.o;have zE:=zq (Rt R _ L j [45] wr c0 bT (by omega));have zh:w.heap.size<=wr.heap.size:=dK.1.size;have AH:=zq xy;obtain⟨ng,lZ⟩:=xq (ae.Qv [45] (L.drop j));have nJ:Hid (ae.Qv [45] (L.drop j)=ng):=lZ.symm;rw[<-lZ]at zE;have ac6:=dK.lt;clear yY dK tx hp hm f hlv hcc aaC MA bT xy mX dA ua lZ;go_wp2_with fail;refine zE.o.mono ?_;rintro e w1 ⟨rfl,hb1'⟩;have aQ:=AU.o.below hb1';have iX:=zq aQ;have zP:=zq (ml.o.keep hb1'.size fun q _ hq=>hb1'.block q hq);clear hb1' aQ c0 c1 f1;go_upto_if 44 with fail;go_cut [] (fun wx=>Hid (∃J,br w R (.slice (some ⟨g,0,none⟩) n cap) nv vv sv x J wx/\Mt wx w.heap.size (.slice (some ⟨gr,0,none⟩) m rcap) (rs++[(lv,cs,cur)])/\aq.Yn ⟨L.drop j,x.depth⟩=⟨L.drop J,x.depth⟩/\j<=J/\J<=n/\(ng=false->J=j)))
    case first=>
     obtain⟨-,c1,f⟩:=iX.o.cells;have f1:=f 1;by_cases hb:ng=true
     ·obtain⟨bj,hbj⟩:=xq (j+1)
      have acv:((j:Nat):Int)+1=((bj:Nat):Int):=by omega
      have acw:IntKind.i64.wrap ((bj:Nat):Int)=((bj:Nat):Int):=abL _ (by omega)
      have HF:Hid (∃J,br w R (.slice (some ⟨g,0,none⟩) n cap) nv vv sv x J (w1.setCell ⟨R,1,none⟩ (.int .i64 (bj:Nat)))/\Mt (w1.setCell ⟨R,1,none⟩ (.int .i64 (bj:Nat))) w.heap.size (.slice (some ⟨gr,0,none⟩) m rcap) (rs++[(lv,cs,cur)])/\aq.Yn ⟨L.drop j,x.depth⟩=⟨L.drop J,x.depth⟩/\j<=J/\J<=n/\(ng=false->J=j)):=by
       have NL:ae.Qv [45] (L.drop j)=true:=by rw[nJ.o,hb]
       have uY: ¬L.length<=j:=fun h=>aq.Ji NL (aaR h);have:=HN.o;refine⟨bj,iX.o.set bj,zP.o.wr (Wr.aI w1 1 _) aT,?_,by omega,by omega,fun h=>(by rw[hb]at h;cases h)⟩;unfold aq.Yn;rw[if_pos NL];show (⟨(L.drop j).tail,x.depth⟩:ae.St)=_;rw[adS,hbj]
      subst hb;clear hbj f;go_wp2_with fail;go_meet;exact HF
     have hb':ng=false:=by simpa using hb
     have HF:Hid (∃J,br w R (.slice (some ⟨g,0,none⟩) n cap) nv vv sv x J w1/\Mt w1 w.heap.size (.slice (some ⟨gr,0,none⟩) m rcap) (rs++[(lv,cs,cur)])/\aq.Yn ⟨L.drop j,x.depth⟩=⟨L.drop J,x.depth⟩/\j<=J/\J<=n/\(ng=false->J=j)):=by refine⟨j,iX.o,zP.o,?_,aaa _,jA,fun _=>rfl⟩;unfold aq.Yn;rw[if_neg (by show ¬ae.Qv [45] (L.drop j)=true;rw[nJ.o,hb'];decide)]
     subst hb';clear hb f;go_wp2_with fail;go_meet;exact HF
    case rest=>
     obtain⟨J,hW,hM,han,hjJ,hJn,hnj⟩:=hcut.o;obtain⟨wb,rfl⟩:=xq wc;have FO:=zq hW;have VV:=zq hM;have PS:=zq han;have HNJ:=zq hnj;obtain⟨c0,c1,-⟩:=hW.cells;have HK:=zq (Hh R _ L J wb c0 (hW.tks aT jT.o) (by omega));clear hcut hW hM han hnj zP iX ml AU zE;by_cases bh:ae.Qm 1 (L.drop J)=true
     ·have hk:(((cd L J:Nat):Int)==1)=true:=by
       have h9:=bh;rw[J0 (by decide)]at h9;simp at h9;simp[h9]
      go_wp2_with fail;refine HK.o.mono ?_;rintro e wk ⟨rfl,bA⟩;have fX:=zq (FO.o.below bA);have zQ:=zq (VV.o.keep bA.size fun q _ hq=>bA.block q hq);clear bA c0 c1
      obtain⟨t,ht⟩:∃t,L[J]?=some t:=by
       cases h:L[J]? with
       |some t=>exact⟨t,rfl⟩
       |none=>rw[Wv,h]at bh;cases bh
      have hJl:J<n:=by have:=(aae.1 ht).1;rw[HN.o];exact this
      have pH:t.1=1:=by
       rw[Wv,ht]at bh
       simpa using bh
      obtain⟨n1,n2,n3,n4⟩:=ey.o t (aah ht) pH;have EZ:=zq (fun w5=>Ss t.2.1 w5 n1 n2 n3 n4)
      have tE:ae.Xx (L.drop J)=t.2.1:=by rw[Hw ht];rfl
      obtain⟨e2,-⟩:=Na (jT.o.low (w':=wk) fun q hq=>fX.o.1.block q (by omega) (by omega) (by simp)) ht;obtain⟨TX,yG⟩:=xq (⟨t.2.1.toArray⟩:ByteArray);rw[<-yG]at e2 EZ;obtain⟨v,hv⟩:=xq (ae.Xg t.2.1);rw[<-hv]at EZ;obtain⟨J2,BN⟩:=xq (J+1)
      have hJa:((J:Nat):Int)+1=((J2:Nat):Int):=by omega
      have hJb:IntKind.i64.wrap ((J2:Nat):Int)=((J2:Nat):Int):=abL _ (by omega);have ES:=zq BN
      have aab:J2<=n:=by omega
      have vT:Hid (aq.Ua fin (rs.map fun r=>r.2.2) (cur++[(ng && decide (0<v),v)]) ⟨L.drop J2,x.depth⟩ rr):=by
       have h9:=aq.Qbd rJ.o (by rw[PS.o];exact bh);rw[PS.o,nJ.o,tE,<-hv]at h9
       have e:(ae.St.aW ⟨L.drop J,x.depth⟩)=⟨L.drop J2,x.depth⟩:=by show (⟨(L.drop J).tail,x.depth⟩:ae.St)=_;rw[adS,BN]
       rw[e]at h9;exact h9
      obtain⟨c0,c1,f⟩:=fX.o.cells;have hRk:=fX.o.lt
      have CJ:g<wk.heap.size:=by omega
      clear bh ht pH n1 n2 n3 n4 tE yG hv BN f;go_wp2_with fail
      go_region_held3 (fun w'=>w'.cell? ⟨R,0,none⟩=some (.slice (some ⟨g,0,none⟩) n cap)/\w'.cell? ⟨R,1,none⟩=some (.int .i64 (J:Nat))/\w'.cell? ⟨g,J*3+1,none⟩=some (.string TX))
       (first
        |go_keep
        |exact⟨(bL.cell (p:=⟨R,0,none⟩) hRk).trans c0,(bL.cell (p:=⟨R,1,none⟩) hRk).trans c1,(bL.cell (p:=⟨g,J*3+1,none⟩) CJ).trans e2⟩)
       ((go_at_call 87;refine(EZ.o _).mono ?_;rintro e w5 ⟨v5,rfl,xg,bL⟩))
      have dU:Hid (Below wk.heap.size wk w5):=(below_drewN wk 1).trans bL;have DW:=fX.o.below dU.o;have XK:=zq DW;have tR:=zQ.o.keep dU.o.size (fun q _ hq=>dU.o.block q hq);have VU:=zq tR;obtain⟨o5,L5,c5,rfl,-⟩:=xg.val;have UZ:=zq xg;obtain⟨gr',rcap',lo',OZ,q1,q2,q3,q4,q5,q6,q7,q8⟩:=tR.last;simp only[Value.slice.injEq,Option.some.injEq,Addr.mk.injEq,and_true]at q1;obtain⟨rfl,-,rfl⟩:=q1;rw[tN.o]at q7;simp only[Value.slice.injEq,true_and,Option.some.injEq]at q7;obtain⟨rfl,rfl⟩:=q7
      have er:w5.cell? ⟨gr,p,none⟩=some (.slice lo cs.length bE):=by rw[HP.o];exact q5
      have fr:w5.frozen? ⟨gr,p,none⟩=false:=by rw[HP.o];exact q6
      have ub:w5.ownsRow w.heap.size 62 2 (.slice lo cs.length bE) cs.length (Q6 cs):=by have:=(tR.row (lv,cs,cur) (by simp)).1;rw[tN.o]at this;exact this
      have IM:Hid (∀w',Below w5.heap.size w5 w'->Calls Tryz.prog 188 #[.agg #[.bool ng,.slice o5 L5 c5]] w' fun e w6=> ∃v',e=.returned (.agg #[.bool (ng && decide (0<v)),v'])/\bM w'.heap.size w6 v' v/\Below w'.heap.size w' w6):=
       fun w' h'=>Fd ng v _ w' (UZ.o.1.below h')
      obtain⟨nc,bq⟩:=xq cs.length;have fV:=zq bq;rw[<-bq]at er ub
      have abh:nc<=67108864:=by omega
      have kq:some gr≠(Value.slice lo nc bE).ownBlock:=fun e=>by have h8:=tR.wJ (lv,cs,cur) (by simp) gr (by rw[tN.o,<-bq];exact e.symm);exact h8 rfl
      have II:=zq kq;have CI:=q4;have sQ:w.heap.size<=w5.heap.size:=DW.1.size;have zX:=zq ub;obtain⟨nb,fj⟩:=xq ((ng && decide (0<v)));rw[<-fj]at IM vT
      have HNZ:Hid (nb=true->v≠0):=fun h=>by rw[h]at fj;have:=(Bool.and_eq_true_iff.1 fj.symm).2;simp at this;omega
      have nV:Hid (∀(w6:World) (o6:Option Addr) (L6 c6 gg bJ:Nat) (w7:World),bM w5.heap.size w6 (.slice o6 L6 c6) v->Below w5.heap.size w5 w6->w7.ownsRow w.heap.size 62 2 (.slice (some ⟨gg,0,none⟩) (nc+1) bJ) (nc+1) (Q6 cs++[.bool nb,.slice o6 L6 c6])->(w6.alloc (.cells #[.bool nb,.slice o6 L6 c6] 62)).grownBy w7 (Value.slice lo nc bE).ownBlock->((Value.slice lo nc bE).ownBlock=some gg\/gg=w6.heap.size+1)->∃lN cs',cs'.length=cs.length+1/\Mt (w7.setCell ⟨gr,p,none⟩ (.slice (some ⟨gg,0,none⟩) (nc+1) bJ)) w.heap.size (.slice (some ⟨gr,0,none⟩) m rcap) (rs++[(lN,cs',cur++[(nb,v)])])/\br w R (.slice (some ⟨g,0,none⟩) n cap) nv vv sv x J (w7.setCell ⟨gr,p,none⟩ (.slice (some ⟨gg,0,none⟩) (nc+1) bJ))):=by intro w6 o6 L6 c6 gg bJ w7 a1 a2 a3 a4 a5;rw[fV.o]at a3 a4 a5 ⊢;rw[<-tN.o]at a4 a5;rw[HP.o];have h9:=Mt.entry VU.o XK.o aT (gr:=gr) (rcap:=rcap) (by rw[QI.o,HP.o]) a1 a2 a3 a4 a5;exact⟨_,_,by simp,h9.1,h9.2⟩
      clear bL xg tR DW q2 q3 q5 q6 q8 ub bq kq c0 c1 e2 fj;go_upto_region 10 with fail;go_cut [] (fun wx=>Hid (∃lN cs',cs'.length=cs.length+1/\Mt wx w.heap.size (.slice (some ⟨gr,0,none⟩) m rcap) (rs++[(lN,cs',cur++[(nb,v)])])/\br w R (.slice (some ⟨g,0,none⟩) n cap) nv vv sv x J wx))
      case first=>
       go_region_law
        ((first
           |(go_simp;go_wp2_with (go_at_call 188;refine(IM.o _ ?_).mono ?_;exact below_drewN w5 1;rintro e w6 ⟨v6,rfl,hf6,fT⟩);obtain⟨o6,L6,c6,rfl,-⟩:=hf6.val;have oI:Below w5.heap.size w5 w6:=(by first|exact fT|exact(below_drewN w5 1).trans fT);have Ie:=oI.size;have er6:w6.cell? ⟨gr,p,none⟩=some (.slice lo nc bE):=(oI.cell (p:=⟨gr,p,none⟩) CI).trans er;have NW:w6.heap.size≠gr:=(by omega);have ea6:(w6.alloc (.cells #[.bool nb,.slice o6 L6 c6] 62)).cell? ⟨gr,p,none⟩=some (.slice lo nc bE):=((Qq w6 _).cell (p:=⟨gr,p,none⟩) (by show gr<_;omega)).trans er6)
           |(refine aeX _ (by rfl) _ _ 45 (by rfl) w.heap.size 62 i0 _ 2 32 Tryz.underlying45 hi hz0 hz1 hz2 rfl (by omega) (.slice lo nc bE) nc (Q6 cs) (by rfl) (by exact abj (Qg zX.o oI (aaa _)) _) ⟨w6.heap.size,0,none⟩ 1 1 [.bool nb,.slice o6 L6 c6] (by rfl) (by rfl) (aeU (cs:= #[.bool nb,.slice o6 L6 c6]) (aaz _ _)) (by simp[Value.oneCell']) (by omega) (by unfold maxLen;omega) (by omega) (by simp;omega) (w6.heap.size+1) (by simp) ?_;intro gg bJ w7 cU aH et jC;have e7:w7.cell? ⟨gr,p,none⟩=some (.slice lo nc bE):=(aH.cell_far ⟨gr,p,none⟩ (by simp;omega) II.o).trans (((Qq w6 _).cell (p:=⟨gr,p,none⟩) (by show gr<_;omega)).trans ((oI.cell (p:=⟨gr,p,none⟩) CI).trans er));have f7:w7.frozen? ⟨gr,p,none⟩=false:=(aH.frozen_far ⟨gr,p,none⟩ (by simp;omega) II.o).trans (((Qq w6 _).frozen (p:=⟨gr,p,none⟩) (by show gr<_;omega)).trans ((oI.frozen (p:=⟨gr,p,none⟩) CI).trans fr)))))
       all_goals
        have HF:=nV.o w6 o6 L6 c6 gg bJ w7 hf6 oI cU aH et;clear hf6 fT oI Ie er6 NW ea6 cU aH et jC e7 f7;go_wp2_with fail;go_meet;exact HF
      case rest=>
       obtain⟨lN,cs',hl',hM,hW⟩:=hcut.o;obtain⟨-,c1,f⟩:=hW.cells;have f1:=f 1
       have aR:Hid (QZ fin x L rr w R (.slice (some ⟨g,0,none⟩) n cap) nv vv sv (.slice (some ⟨gr,0,none⟩) m rcap) (wc.setCell ⟨R,1,none⟩ (.int .i64 (J2:Nat)))/\Q9 L R (wc.setCell ⟨R,1,none⟩ (.int .i64 (J2:Nat)))<Q9 L R wr):=by
        have hs:=hW.set J2;have h2:=ES.o;have h4:=AH.o;refine⟨⟨J2,rs,lN,cs',cur++[(nb,v)],hM.wr (Wr.aI wc 1 _) aT,hs,vT.o,by rw[<-HN.o];exact aab,by omega,by omega,?_,j9.o.1,fun q hq=> ?_⟩,?_⟩
        ·rw[<-aar,aac,aaJ]
         omega
        ·rcases abZ.1 hq with hq|hq
         ·exact j9.o.2 q hq
         rw[abu.1 hq];exact HNZ.o
        rw[hs.left L,zM.o,<-HN.o];omega
       clear hcut hM hW f er fr;go_wp2_with fail;exact aR.o
     have CN:ae.Qm 1 (L.drop J)=false:=by simpa using bh
     have hk:(((cd L J:Nat):Int)==1)=false:=by have h9:=CN;rw[J0 (by decide)]at h9;simp at h9;simp;omega
     clear bh;obtain⟨gr',rcap',lo',OZ,q1,q2,q3,q4,q5,q6,q7,q8⟩:=VV.o.last;simp only[Value.slice.injEq,Option.some.injEq,Addr.mk.injEq,and_true]at q1;obtain⟨rfl,-,rfl⟩:=q1;rw[tN.o]at q7;simp only[Value.slice.injEq,true_and,Option.some.injEq]at q7;obtain⟨rfl,rfl⟩:=q7
     have er:wb.cell? ⟨gr,p,none⟩=some (.slice lo cs.length bE):=by rw[HP.o];exact q5
     have hgb:=q4;clear q2 q3 q5 q6 q8;have QK:=zq CN;obtain⟨nc,bq⟩:=xq cs.length;have fV:=zq bq;rw[<-bq]at er;clear CN bq;by_cases hbad:ng=true\/nc=0
     ·have om:Hid (gD fin x=.error (ae.X5 fin (L.drop J),14)):=by
       have h9:=aq.Qbf rJ.o (by rw[PS.o];exact QK.o) (by
        rcases hbad with h|h
        ·left
         show ae.Qv [45] (L.drop j)=true;rw[nJ.o,h]
        right;have h1:=fV.o;have h2:=HCC.o
        exact aaq (by omega))
       rw[iW.o,h9,PS.o];rfl
      have qm:R<wb.heap.size:=FO.o.lt;by_cases hb:ng=true
      ·subst hb
       go_wp2_with fail;refine HK.o.mono ?_;rintro e wk ⟨rfl,bA⟩;have fX:=zq (FO.o.below bA);have c1k:=fX.o.cells.2.1;clear bA c0 c1 er hbad;go_wp2_with fail;go_ret2;refine⟨fX.o.cA aT,?_⟩;rw[om.o];exact⟨J,rfl,rfl,by decide⟩
      have eQ:nc=0:=by
       rcases hbad with h|h
       ·exact absurd h hb
       exact h
      have hb':ng=false:=by simpa using hb
      subst eQ;subst hb';go_wp2_with fail;refine HK.o.mono ?_;rintro e wk ⟨rfl,bA⟩;have fX:=zq (FO.o.below bA);have c1k:=fX.o.cells.2.1;have erk:=(bA.cell (p:=⟨gr,p,none⟩) hgb).trans er;clear bA c0 c1 er hbad hb;go_wp2_with fail;go_ret2;refine⟨fX.o.cA aT,?_⟩;rw[om.o];exact⟨J,rfl,rfl,by decide⟩
     have hb':ng=false:=by
      cases hx:ng with
      |false=>rfl
      |true=>exact absurd (Or.inl hx) hbad
     have eQ:(((nc:Nat):Int)==0)=false:=by
      have:nc≠0:=fun h=>hbad (Or.inr h)
      simpa using this
     have hJj:=HNJ.o hb';subst hJj;subst hb'
     have rH:Hid (cur≠[]):=fun h=>by have h1:=fV.o;have h2:=HCC.o;rw[h]at h2;exact hbad (Or.inr (by rw[h1,h2];rfl))
     obtain⟨v59,OE⟩:=xq (ae.Qv [59] (L.drop J));have vY:=zq OE;have qm:R<wb.heap.size:=FO.o.lt;clear hbad OE;go_wp2_with fail;refine HK.o.mono ?_;rintro e wk ⟨rfl,bA⟩;have fX:=zq (FO.o.below bA);have zQ:=zq (VV.o.keep bA.size fun q _ hq=>bA.block q hq);obtain⟨d0,d1,-⟩:=fX.o.cells;have erk:=(bA.cell (p:=⟨gr,p,none⟩) hgb).trans er;have zF:=zq (Rt R _ L J [59] wk d0 (fX.o.tks aT jT.o) (by omega));rw[<-vY.o]at zF;clear bA c0 c1 er;go_wp2_with fail;refine zF.o.mono ?_;rintro e wl ⟨rfl,hbl⟩;have FP:=zq (fX.o.below hbl);have QJ:=zq (zQ.o.keep hbl.size fun q _ hq=>hbl.block q hq);clear hbl d0 d1 erk zF;obtain⟨J2,BN⟩:=xq (J+1)
     have hJa:((J:Nat):Int)+1=((J2:Nat):Int):=by omega
     have hJb:IntKind.i64.wrap ((J2:Nat):Int)=((J2:Nat):Int):=abL _ (by omega);have ES:=zq BN;have hRL:=FP.o.lt;have hzl:w.heap.size<=wl.heap.size:=FP.o.1.size
     have rz:Hid (ae.St.aW ⟨L.drop J,x.depth⟩=⟨L.drop J2,x.depth⟩):=by show (⟨(L.drop J).tail,x.depth⟩:ae.St)=_;rw[adS,BN]
     clear BN;by_cases h59:v59=true
     ·have zH:Hid (J2<=n):=by
       have h9:ae.Qv [59] (L.drop J)=true:=by rw[<-vY.o,h59]
       have uY: ¬L.length<=J:=fun h=>aq.Ji h9 (aaR h);have:=HN.o;have:=ES.o;show J2<=n;omega
      have vT:Hid (aq.Ua fin (rs.map (fun r=>r.2.2)++[cur]) [] ⟨L.drop J2,x.depth⟩ rr):=by have h9:=aq.Qgb rJ.o nJ.o QK.o rH.o (by show ae.Qv [59] (L.drop J)=true;rw[<-vY.o,h59]);rw[rz.o]at h9;exact h9
      have HOWN:Hid (((wl.alloc (.cells #[] 62)).alloc (.cells #[.slice (some ⟨wl.heap.size,0,none⟩) 0 0] 45)).ownsRow w.heap.size 45 1 (.slice (some ⟨gr,0,none⟩) m rcap) m ((rs++[(lv,cs,cur)]).map Prod.fst)):=by
       have h9:=(QJ.o.own.alloc (.cells #[] 62)).alloc (.cells #[.slice (some ⟨wl.heap.size,0,none⟩) 0 0] 45)
       have hl:(rs++[(lv,cs,cur)]).length=m:=by rw[QI.o,HP.o];simp
       rw[hl]at h9;exact h9
      subst h59;go_wp2_with (at_builtin;refine adr _ rfl _ _ 37 rfl w.heap.size 45 j0 _ 1 24 Tryz.underlying37 hj kB qL je rfl (by omega) (.slice (some ⟨gr,0,none⟩) m rcap) m ((rs++[(lv,cs,cur)]).map Prod.fst) rfl HOWN.o ⟨wl.heap.size+1,0,none⟩ 1 1 [.slice (some ⟨wl.heap.size,0,none⟩) 0 0] rfl rfl (aeU (cs:= #[.slice (some ⟨wl.heap.size,0,none⟩) 0 0]) (by have:=aaz (wl.alloc (.cells #[] 62)) (.cells #[.slice (some ⟨wl.heap.size,0,none⟩) 0 0] 45);simpa using this)) (by simp[Value.oneCell']) (by omega) (by unfold maxLen;omega) (by omega) (by simp;omega) (wl.heap.size+2) (by simp) ?_);intro gg bJ w7 cU aH et jC
      have hM7:Mt w7 w.heap.size (.slice (some ⟨gg,0,none⟩) (m+1) bJ) ((rs++[(lv,cs,cur)])++[(.slice (some ⟨wl.heap.size,0,none⟩) 0 0,[],[])]):=by
       have hl:(rs++[(lv,cs,cur)]).length=m:=by rw[QI.o,HP.o];simp
       have h9:=QJ.o.more hzl (gg:=gg) (cap:=bJ) (by rw[hl];have h8:=cU;simpa using h8) aH et;rw[hl]at h9;exact h9
      have hW7:=br.more QJ.o FP.o aT aH;have HM7:=zq hM7;have qf:=zq hW7;obtain⟨-,c1,f⟩:=hW7.cells;have f1:=f 1
      have aR:Hid (QZ fin x L rr w R (.slice (some ⟨g,0,none⟩) n cap) nv vv sv (.slice (some ⟨gg,0,none⟩) (m+1) bJ) (w7.setCell ⟨R,1,none⟩ (.int .i64 (J2:Nat)))/\Q9 L R (w7.setCell ⟨R,1,none⟩ (.int .i64 (J2:Nat)))<Q9 L R wr):=by
       have hs:=qf.o.set J2;have h2:=ES.o;have h3:=zH.o;have h4:=AH.o;have h5:=QI.o;have h6:=HP.o;refine⟨⟨J2,rs++[(lv,cs,cur)],_,[],[],HM7.o.wr (Wr.aI w7 1 _) aT,hs,?_,by rw[<-HN.o];exact h3,by simp;omega,aao _,?_,?_⟩,?_⟩
       ·rw[ado];exact vT.o
       ·rw[ado,List.flatten_append,ab4]
        simp only[abK,aex,aeR,List.flatten_nil,ab4];omega
       ·refine⟨fun r hr=> ?_,fun q hq=>by cases hq⟩
        rcases abZ.1 hr with hr|hr
        ·exact j9.o.1 r hr
        rw[abu.1 hr];exact⟨rH.o,j9.o.2⟩
       rw[hs.left L,zM.o,<-HN.o];omega
      clear cU aH et jC hM7 hW7 f;go_wp2_with fail;exact aR.o
     have Lu:v59=false:=by simpa using h59
     obtain⟨v93,OH⟩:=xq (ae.Qv [93] (L.drop J));have vZ:=zq OH
     have PN:Hid (ae.Qv [59] (L.drop J)=false):=by rw[<-vY.o];exact Lu
     subst Lu;obtain⟨d0,d1,-⟩:=FP.o.cells;have IJ:=zq (Rt R _ L J [93] wl d0 (FP.o.tks aT jT.o) (by omega));rw[<-vZ.o]at IJ;clear h59 OH;go_wp2_with fail;refine IJ.o.mono ?_;rintro e wm ⟨rfl,kN⟩;have XO:=zq (FP.o.below kN);have HMm:=zq (QJ.o.keep kN.size fun q _ hq=>kN.block q hq);obtain⟨-,c1,f⟩:=XO.o.cells;have f1:=f 1;clear kN d0 d1 f;by_cases ix:v93=true
     ·have zH:Hid (J2<=n):=by
       have h9:ae.Qv [93] (L.drop J)=true:=by rw[<-vZ.o,ix]
       have uY: ¬L.length<=J:=fun h=>aq.Ji h9 (aaR h);have:=HN.o;have:=ES.o;show J2<=n;omega
      have HE:Hid (MtE x L rr w R (.slice (some ⟨g,0,none⟩) n cap) nv vv sv (.slice (some ⟨gr,0,none⟩) m rcap) (wm.setCell ⟨R,1,none⟩ (.int .i64 (J2:Nat)))):=by
       have h9:=aq.Qbc rJ.o nJ.o QK.o rH.o (by show ae.Qv [93] (L.drop J)=true;rw[<-vZ.o,ix]);rw[rz.o]at h9;have h2:=ES.o;have h4:=AH.o;refine⟨J2,rs++[(lv,cs,cur)],x.depth,HMm.o.wr (Wr.aI wm 1 _) aT,XO.o.set J2,?_,by rw[<-HN.o];exact zH.o,by simp,by simp;omega,?_,?_⟩
       ·rw[ado];exact h9
       ·rw[ado,List.flatten_append]
        simp only[abK,aex,aeR,List.flatten_nil,ab4];omega
       refine⟨fun r hr=> ?_,fun q hq=>by cases hq⟩;rcases abZ.1 hr with hr|hr
       ·exact j9.o.1 r hr
       rw[abu.1 hr];exact⟨rH.o,j9.o.2⟩
      subst ix;go_wp2_with fail;go_meet;exact HE
     have Lv:v93=false:=by simpa using ix
     have om:Hid (gD fin x=.error (ae.X5 fin (L.drop J),14)):=by have h9:=aq.Qgf rJ.o nJ.o QK.o rH.o (by show ae.Qv [93] (L.drop J)=false;rw[<-vZ.o,Lv]) PN.o;rw[iW.o,h9];rfl
     subst Lv;clear ix;go_wp2_with fail;go_ret2;refine⟨XO.o.cA aT,?_⟩;rw[om.o];exact⟨J,rfl,rfl,by decide⟩
  case rest=>
   obtain⟨j1,rs,dd,hM,hW,ud,GI,hne,mX,xy,ua⟩:=hcut.o;obtain⟨we,rfl⟩:=xq wc;obtain⟨m,hm⟩:=xq rs.length;have cI:=zq hm;have dH:=HN.o
   have cW:1<=m:=by
    cases rs with
    |nil=>exact absurd rfl hne
    |cons a l=>rw[hm];simp
   obtain⟨k0,bF⟩:∃k0,∃r0 rs',rs=r0::rs'/\r0.2.2.length=k0:=by
    cases rs with
    |nil=>exact absurd rfl hne
    |cons a l=>exact⟨_,a,l,rfl,rfl⟩
   have H0:=zq bF
   have FH:Hid (∃r0:bY,rs[0]?=some r0/\r0.2.2.length=k0):=by obtain⟨r0,rs',e,e2⟩:=bF;exact⟨r0,by rw[e];rfl,e2⟩
   have j9:=zq ua
   have NP:m<=67108864:=by rw[hm];omega
   have qH:(rs.map fun r=>r.2.2).flatten.length<=67108864:=by omega
   have AG:=zq qH;obtain⟨ao,rcap,uf,a1,a2,a3⟩:=Qj hM.own;obtain⟨gr,rfl,b1,b2,-⟩:=a3 (by rw[<-hm];omega);rw[<-hm]at uf;subst uf;have HM:=zq hM;have HW:=zq hW
   have cZ:Hid (gD fin x=kC (ae.X5 fin (L.drop a0)) x (.ok (((rs.map fun r=>r.2.2).flatten,(rs.map fun r=>r.2.2).map List.length),⟨L.drop j1,dd⟩))):=by rw[iW.o,ud];exact zq rfl
   have zW:Hid (∀wr,Below we.heap.size we wr-> ∀j r,rs[j]?=some r-> ∃g bE,wr.cell? ⟨gr,j,none⟩=some (.slice (some ⟨g,0,none⟩) r.2.2.length bE)/\g<wr.heap.size/\gr<wr.heap.size/\r.2.1.length=r.2.2.length/\(∀i u,(Q6 r.2.1)[i]?=some u->wr.cell? ⟨g,i,none⟩=some u)/\ ∀u∈Q6 r.2.1,u.oneCell'=true):=
    fun wr hb j r hj=>(HM.o.keep hb.size fun q _ hq=>hb.block q hq).at rfl hj (j9.o.1 r (aah hj)).1
   have HLEN:Hid (∀j,((rs.take j).flatMap fun r=>r.2.1).length<=67108864):=fun j=>aan (Qx8 rs (fun r hr=>(HM.o.row r hr).2.1) j) AG.o
   have fS:Hid (pQ we rs k0 (.slice (some ⟨we.heap.size,0,none⟩) 0 0) (.int .i64 0) (we.alloc (.cells #[] 62))):=
    ⟨0,rfl,aao _,Qq we _,ad2 (base:=we.heap.size) (e:=62) (size:=2) we #[] 0 (aaa _) (by unfold maxLen;omega) rfl,fun r hr=>(by simp at hr)⟩
   have DZ:w.heap.size<=we.heap.size:=hW.1.size
   have aaU:j1<=n:=by rw[dH];exact GI
   clear hcut hM hW ud GI hne mX xy ua a1 a2 a3 b1 hm bF dH qH;go_wp2_with fail;go_loopw [11,12] (fun av jv wr=>pQ we rs k0 av jv wr) (fun _ jv _=>(m-intOf jv).toNat)
   case atStart=>exact fS.o
   case round=>
    obtain⟨j,rfl,hjm,hbl,hown,hall⟩:=hrel;rw[<-cI.o]at hjm;have aP:=zq hbl;have bw:=zq hall;have fj:=HLEN.o j;obtain⟨pre,DG⟩:=xq ((rs.take j).flatMap fun r=>r.2.1);have zS:=zq DG;rw[<-DG]at hown fj;obtain⟨bo,gW,yJ,-,-,-⟩:=Qj hown;obtain⟨nA,hnA⟩:=xq pre.length;have VZ:=zq hnA;rw[<-hnA]at hown yJ fj;subst yJ;have HOWN:=zq hown;have hzr:we.heap.size<=wr.heap.size:=hbl.size;clear hbl hown hall DG hnA;by_cases hlt:j<m
    ·obtain⟨r,hr⟩:∃r,rs[j]?=some r:=⟨_,aad (by rw[<-cI.o];exact hlt)⟩
     obtain⟨r0,lH,tZ⟩:=FH.o;obtain⟨g1,lc1,e1,hg1,aaO,ig,eO,tU⟩:=zW.o wr aP.o j r hr;obtain⟨g2,lc2,e2,-,-,-,-,-⟩:=zW.o wr aP.o 0 r0 lH;rw[tZ]at e2;obtain⟨q,hq⟩:=xq r.2.2.length;have HQ:=zq hq;have od:=zq ig;have UJ:=zq eO;have QL:=zq tU;have HR:=zq hr
     have Ok:0<q:=by
      have:=(j9.o.1 r (aah hr)).1;rw[hq]
      cases h:r.2.2 with
      |nil=>exact absurd h this
      |cons a l=>simp
     have qE:Hid (nA+q<=67108864):=by have h9:=HLEN.o (j+1);rw[Dd rs hr,<-zS.o,aac,<-VZ.o,ig,<-hq]at h9;exact h9
     rw[<-hq]at e1
     have MW:(0:Int)<=((j:Nat):Int):=by omega
     have acI:((j:Nat):Int)<((m:Nat):Int):=by omega
     have pD:(0:Int)<((m:Nat):Int):=by omega
     clear hr lH tZ hq ig eO tU;by_cases hqk:q=k0
     ·subst hqk
      go_wp2_with fail;go_quiet (fail);obtain⟨wq,kS⟩:=xq (wr.drewN nq)
      have nQ:Below wr.heap.size wr wq:=by rw[kS];exact below_drewN wr nq
      rw[<-kS];have zv:=zq (Qz aP.o nQ);have e1q:=(nQ.cell (p:=⟨gr,j,none⟩) aaO).trans e1;have yn:Hid (wq.ownsRow we.heap.size 62 2 (.slice bo nA gW) nA (Q6 pre)):=Qg HOWN.o nQ (aaa _)
      have UK:Hid (∀i u,(Q6 r.2.1)[i]?=some u->wq.cell? ((⟨g1,0,none⟩:Addr).add i)=some u):=fun i u hu=>by
       have ea:(⟨g1,0,none⟩:Addr).add i=⟨g1,i,none⟩:=by unfold Addr.add;split<;>simp_all
       rw[ea];exact(nQ.cell (p:=⟨g1,i,none⟩) hg1).trans (UJ.o i u hu)
      have ac4:=qE.o;have hzq:we.heap.size<=wq.heap.size:=aan hzr nQ.size
      have HLR:Hid ((Q6 r.2.1).length=q*2):=by show (Q6 r.2.1).length=q*2;rw[Gf,od.o,HQ.o]
      clear kS nQ e1 e2;go_wp2_with (at_builtin;refine adr _ rfl _ _ 45 rfl we.heap.size 62 i0 _ 2 32 Tryz.underlying45 hi hz0 hz1 hz2 rfl (by omega) (.slice bo nA gW) nA (Q6 pre) rfl yn.o ⟨g1,0,none⟩ q lc1 (Q6 r.2.1) rfl HLR.o UK.o QL.o Ok (by unfold maxLen;omega) (by omega) hzq wq.heap.size rfl ?_);intro gg bJ w7 cU aH et jC
      have HF:Hid (pQ we rs q (.slice (some ⟨gg,0,none⟩) (nA+q) bJ) (.int .i64 ((j+1:Nat):Nat)) w7):=by
       have hlt':j<rs.length:=by rw[<-cI.o];exact hlt
       refine⟨j+1,rfl,hlt',abq zv.o aH hzq (fun k hk=>(yn.o.lt k hk).1),?_,fun r' hr'=> ?_⟩
       ·rw[Dd rs HR.o,<-zS.o,Pz,aac,<-VZ.o,od.o,<-HQ.o]
        exact cU
       rw[ab2,HR.o]at hr';rcases abZ.1 hr' with hr'|hr'
       ·exact bw.o r' hr'
       have:r'=r:=by simpa using hr'
       rw[this,<-HQ.o]
      clear cU aH et jC;go_wp2_with fail
      first|exact⟨HF.o,by simp[intOf]<;>omega⟩|exact⟨by (repeat apply Exists.intro);exact⟨HF.o,rfl⟩,by simp[intOf]<;>omega⟩
     have tS:(((q:Nat):Int) !=((k0:Nat):Int))=true:=by
      have h9: ¬((q:Nat):Int)=((k0:Nat):Int):=by omega
      simpa using h9
     have om:Hid (gD fin x=.error (ae.X5 fin (L.drop a0),2)):=by rw[cZ.o];exact Qg7 H0.o (aah HR.o) (by rw[<-HQ.o];exact hqk)
     clear hqk;go_wp2_with fail;go_quiet (fail);obtain⟨wq,kS⟩:=xq (wr.drewN nq)
     have nQ:Below wr.heap.size wr wq:=by rw[kS];exact below_drewN wr nq
     rw[<-kS];have IC:Hid (Below R w wq):=(HW.o.cA aT).trans ((Qz aP.o nQ).mono (aan (abD aT) DZ));clear kS nQ e1 e2;go_wp2_with fail;go_ret2;refine⟨IC.o,?_⟩;rw[om.o];exact⟨a0,rfl,rfl,by decide⟩
    have ku:j=m:=by omega
    subst ku
    have rA:Hid (∀r∈rs,r.2.2.length=k0):=by have h9:=bw.o;rw[cI.o,adx]at h9;exact h9
    have I9:Hid (pre=rs.flatMap fun r=>r.2.1):=by have h9:=zS.o;rw[cI.o,adx]at h9;exact h9
    obtain⟨r0,lH,tZ⟩:=FH.o;obtain⟨g2,lc2,e2,-,-,-,-,-⟩:=zW.o wr aP.o 0 r0 lH;rw[tZ]at e2
    have pD:(0:Int)<((j:Nat):Int):=by omega
    have IC:Hid (Below R w wr):=(HW.o.cA aT).trans (aP.o.mono (aan (abD aT) DZ));clear lH tZ hlt bw;by_cases cR:64<j\/64<k0
    ·have om:Hid (gD fin x=.error (ae.X5 fin (L.drop a0),5)):=by
      rw[cZ.o];exact Qg6 H0.o rA.o (by rw[<-cI.o];exact cR)
     by_cases hb1:64<j
     ·clear cR
      go_wp2_with fail;go_ret2;refine⟨IC.o,?_⟩;rw[om.o];exact⟨a0,rfl,rfl,by decide⟩
     have hb2:64<k0:=by
      rcases cR with h|h
      ·exact absurd h hb1
      exact h
     clear cR;go_wp2_with fail;go_ret2;refine⟨IC.o,?_⟩;rw[om.o];exact⟨a0,rfl,rfl,by decide⟩
    have MX:j<=64:=by omega
    have CM:k0<=64:=by omega
    have hnj: ¬64<j:=by omega
    have hnk: ¬64<k0:=by omega
    obtain⟨l,hl⟩:=xq (rs.flatMap fun r=>r.2.2)
    have om:Hid (gD fin x=aq.has x (.mat ⟨j,k0,l⟩) (L.drop j1)):=by rw[cZ.o,hl];have h9:=Qb4 (col:=ae.X5 fin (L.drop a0)) (x:=x) (d:=dd) (ts:=L.drop j1) H0.o rA.o (by rw[<-cI.o];exact MX) CM;rw[<-cI.o]at h9;exact h9
    have GQ:Yh w.heap.size wr pre l:=by rw[I9.o,hl];exact Cq rs fun r hr=>((HM.o.keep aP.o.size fun q _ hq=>aP.o.block q hq).row r hr).2
    have tG:iY wr (.slice bo nA gW) l:=by refine GQ.zj (Y4 ?_ DZ fun q hq=>rfl);rw[<-VZ.o];exact HOWN.o
    have nR:l.length=j*k0:=by rw[hl,Qx5 rs k0 rA.o,<-cI.o]
    have ml:=zq (Uc j k0 l _ wr tG MX CM nR)
    have gN:=Mh ⟨j,k0,l⟩ (fun p hp=>by
     have hp':p∈l:=hp;rw[hl]at hp';obtain⟨r,hr,hp'⟩:=aeY.1 hp'
     exact(j9.o.1 r hr).2 p hp')
    simp only at gN;rw[gN]at ml
    have BQ:eC wr R tv L j1 x:=by rw[qU.o,<-HN.o];exact(HW.o.below aP.o).PJ vR.o QH.o
    have XM:=zq BQ
    have oc:Hid (∀eH,Below wr.heap.size wr eH->Calls Tryz.prog 148 #[.pointer (some ⟨R,0,none⟩),.int .i64 3,.string ⟨(ae.bB ⟨j,k0,l⟩).toArray⟩] eH fun e' w'=>e'=.returned (.tuple #[])/\Below R eH w'/\eC w' R tv L j1 {x with ts:=L.drop j1,vals:=.mat ⟨j,k0,l⟩::x.vals,want:=false,pw:=false}):=
     fun eH h10=>Ay R tv L j1 _ _ (XM.o.below h10) (Qhf ⟨j,k0,l⟩) dN.o (by decide) (L.drop j1)
    have hR9:=BQ.lt;clear cR hl GQ tG nR gN BQ;go_wp2_with fail;refine ml.o.mono ?_;rintro e eH ⟨rfl,bP⟩;have HH:=zq (oc.o eH bP);have kW:Hid (Below R w eH):=IC.o.trans (bP.mono (abD hR9));clear bP e2;go_wp2_with fail;refine HH.o.mono ?_;rintro e TN ⟨rfl,sZ,ur⟩;have zr:=zq (kW.o.trans sZ);have AR:=zq ur;clear sZ ur;go_wp2_with fail;go_ret2;refine⟨zr.o,?_⟩;rw[om.o];exact⟨rfl,j1,AR.o,rfl,by rw[<-HN.o];exact aaU⟩
end Go.Proofs.YtgfmiladfeoldaaGreatDoor
namespace aq
open ae ag
def Out (fin:Nat)(x:RW)(r:Except (Nat×Nat) Ln):Prop:=
 match r with
 | .error e=>FT fin x (.error e)
 | .ok n=> ∃w',FT fin x (.ok w')/\Qds w' n
end aq
namespace Go.Proofs.YtgfmiladfeoldaaGreatDoor
open Go.RowKit ag
open ai
theorem Qvl:∀(n:Nat) (cs:List C) (col:Nat) (ts:List Tok),cs.length<=n->aw col cs=.ok ts-> ∀t∈ts,t.1=1\/t.1=2\/t.1=3:=by
 intro n
 induction n with
 |zero=>
  intro cs col ts K h;rw[aaq (Nat.le_zero.1 K),Zg]at h
  cases h
  intro t E;cases E
 |succ n ih=>
  intro cs col ts K h
  cases cs with
  |nil=>
   rw[Zg]at h
   cases h
   intro t E;cases E
  |cons c cs=>
   have J:∀(k col:Nat) (m:List Tok),1<=k->aw col ((c::cs).drop k)=.ok m-> ∀t∈m,t.1=1\/t.1=2\/t.1=3:=by
    intro k col m O I
    have U:((c::cs).drop k).length+1<=(c::cs).length:=by rw[aag,aaf];omega
    exact ih _ _ _ (by omega) I
   have O:=Gn c
   have H:∀(x:Tok) (m:List Tok),(x.1=1\/x.1=2\/x.1=3)->(∀t∈m,t.1=1\/t.1=2\/t.1=3)-> ∀t∈[x]++m,t.1=1\/t.1=2\/t.1=3:=by
    intro x m T I t E;rcases abZ.1 E with E|E
    ·rw[abu.1 E];exact T
    exact I t E
   by_cases k0:kd c=0
   ·rw[Ws _ k0]at h;cases h
   by_cases k1:kd c=1
   ·rw[Zr _ k1]at h
    exact J 1 _ _ (aaa _) h
   by_cases k2:kd c=2
   ·rw[Vj _ k2]at h
    split at h
    ·cases h
    cases h
    intro t E;cases E
   by_cases k3:kd c=3
   ·rw[Vd _ k3]at h
    split at h
    ·cases h
    obtain⟨m,I,rfl⟩:=ae.Yd h;exact H _ _ (by simp) (J _ _ _ (Xv (p:=Ql) (c:=c) (cs:=cs) (by simp[Ql,k3])) I)
   by_cases k4:kd c=4
   ·rw[Vv _ k4]at h
    split at h
    ·cases h
    obtain⟨m,I,rfl⟩:=ae.Yd h;exact H _ _ (by simp) (J _ _ _ (Xv (p:=aL) (c:=c) (cs:=cs) (by simp[aL,k4])) I)
   by_cases k5:kd c=5
   ·rw[Jr _ k5]at h
    obtain⟨m,I,rfl⟩:=ae.Yd h;exact H _ _ (by simp) (J 1 _ _ (aaa _) I)
   rw[Jh _ (by omega)]at h;cases h
structure ZJ (l:Bytes) (ts:List Tok):Prop where
 len:ts.length<=1048576
 num:∀t∈ts,sF t
 kind:∀t∈ts,t.1=1\/t.1=2\/t.1=3
theorem PH {l:Bytes}(h:l.length<=1048576){ts:List Tok}(ht:aw 1 (Qx l)=.ok ts):ZJ l ts where
 len:=by have h1:=(Kv _ _ _ ht).1;have h2:=Ym l;omega
 num:=fun t hm h1=>by obtain⟨a,b,c⟩:=N0 ht t hm h1;refine⟨a,b,?_,c⟩;have h2:=ae.Cb _ _ _ _ (aaa _) ht t hm h1;rw[Yp]at h2;exact aan h2 h
 kind:=Qvl _ _ _ _ (aaa _) ht
def wH (t:Bytes)(w:World)(e:Ending)(w':World):Prop:=Below w.heap.size w w'/\match ae.Yg t with
 | .ok m=>ae.Ue m/\ ∃v,e=.returned (.tuple #[.agg #[.int .i64 (m.rows:Nat),.int .i64 (m.aB:Nat),v],.int .i64 0])/\iY w' v m.at_
 | .error k=>e=.returned (.tuple #[.agg #[.int .i64 0,.int .i64 0,.slice none 0 0],.int .i64 (k:Nat)])/\0<k
theorem Qk8 (M:Nat):∀l:List (Bool×Nat),(∀p∈l,(ae.ar p.2).length<=M)->nI l<=l.length*M
 | [],_=>by simp[nI]
 |p::l,h=>by have h1:=Qk8 M l fun q hq=>h q (ad4 _ hq);have E:=h p (aek ..);simp only[nI,abK,adY,aaf]at h1 ⊢;rw[ab5];omega
theorem Qyj {L:List Tok}{m:ae.cn}(hm:ae.Ue m)(hf:∀p∈m.at_,aq.From L p)(hL:∀t∈L,sF t):(ae.bB m).length<=1099511627776/\ ∀p∈Ta m,(ae.ar p.2).length<=1048576/\(p.1=true->p.2≠0):=by
 obtain⟨I,J,K,O⟩:=hm
 have H:∀p∈m.at_,(ae.ar p.2).length<=1048576:=by
  intro p E;rcases hf p E with h|⟨t,ht,T,U⟩
  ·rw[h];decide
  rw[U];have Z:=Kz t.2.1;have h8:=(hL t ht T).2.2.1;omega
 refine⟨?_,fun p E=> ?_⟩
 ·have T:=Qg9 (m:=m) ⟨I,J,K,O⟩
  have U:=Qk8 1048576 m.at_ H
  have Z:m.at_.length<=4096:=by rw[K];exact aan (ab7 I J) (by decide)
  have h8:m.at_.length*1048576<=4096*1048576:=ab7 Z (aaa _);omega
 unfold Ta at E;split at E
 ·simp only[abY,aeg,ae5]at E
  rcases E with rfl|rfl
  ·exact⟨aan (Rc I) (by decide),fun h=>by cases h⟩
  exact⟨aan (Rc J) (by decide),fun h=>by cases h⟩
 exact⟨H p E,fun h=>by have:=O p E h;omega⟩
theorem Dx {w1:World}{B so cap:Nat}{ao:Option Addr}{L:List Tok}(ho:w1.ownsRow B 119 3 (.slice ao L.length cap) L.length (Xk L))(GY:so<w1.heap.size):eC (w1.alloc (.cells #[.slice ao L.length cap,.int .i64 0,.slice none 0 0,.slice none 0 0,.slice (some ⟨so,0,none⟩) 1 1,.bool true,.bool false,.int .i64 0] 116)) w1.heap.size (.slice ao L.length cap) L 0 ⟨L,[],[],true,false,0⟩:=by
 have E:=Qq w1 (.cells #[.slice ao L.length cap,.int .i64 0,.slice none 0 0,.slice none 0 0,.slice (some ⟨so,0,none⟩) 1 1,.bool true,.bool false,.int .i64 0] 116)
 have H:my w1 w1.heap.size (.slice ao L.length cap) L:=by
  obtain⟨ao',cap',e,a1,a2,a3⟩:=Qj ho
  cases e
  refine⟨_,cap,rfl,a1,a2,fun h0=> ?_⟩;obtain⟨g',e,b1,b2,b3⟩:=a3 h0
  cases e
  refine⟨g',rfl,b2,fun j t hj=> ?_⟩;have I:=(aae.1 hj).1;obtain⟨c1,c2,c3⟩:=Pb L j t hj;exact⟨by rw[b3 _ (by omega)];exact c1,by rw[b3 _ (by omega)];exact c2,by rw[b3 _ (by omega),c3]⟩
 refine⟨.slice none 0 0,.slice none 0 0,.slice (some ⟨so,0,none⟩) 1 1,[],?_,rfl⟩
 exact {
  blk:=aaz w1 _
  tks:=H.low fun k hk=>E.block k hk
  jg:=adC _ _ _ _
  pP:=adC _ _ _ _
  ru:=⟨fun q hq=>by cases hq;exact⟨aeZ GY,aaj GY E.size⟩,fun h=>absurd rfl h⟩
  kids:=(fun p hp=>by cases hp)
  xF:=(fun p hp=>by cases hp)
  vu:=(fun q hq=>by cases hq)
  zn:=(fun q hq=>by cases hq)}
theorem eC.node {w:World}{R:Nat}{tv:Value}{L:List Tok}{i:Nat}{x:aq.RW}{e:ae.Ex}(h:eC w R tv L i x)(hv:x.vals=[e]){op:Nat}{text:Bytes}(he:∀o,e.flat o=[⟨op,text,[]⟩]):∃g cap,w.cell? ⟨R,2,none⟩=some (.slice (some ⟨g,0,none⟩) 1 cap)/\g<w.heap.size/\w.cell? ⟨g,1,none⟩=some (.string ⟨text.toArray⟩):=by
 obtain⟨nv,vv,sv,ns,E,H⟩:=h;rw[hv]at H
 have I:ns.map Prod.fst=[⟨op,text,[]⟩]:=by rw[H];show e.flat 0++[]=_;rw[ab4,he]
 obtain⟨p,rfl⟩:∃p,ns=[p]:=by
  have:=aa7 List.length I;rw[aay]at this
  match ns,this with
  | [p],_=>exact⟨p,rfl⟩
 obtain⟨-,-,c2,-⟩:=E.cells;obtain⟨ao,cap,rfl,-,-,a3⟩:=Qj E.jg;obtain⟨g,rfl,-,g2,g3⟩:=a3 Nat.zero_lt_one;refine⟨g,cap,c2,g2,?_⟩;rw[g3 1 (by show 1<1*3;omega)]
 have J:p.1=⟨op,text,[]⟩:=by simpa using I
 simp[Xb,J]
theorem Dq {t:Bytes}(h:Tw t=false):ae.Yg t=.error 7/\ae.Zn t=none:=by
 unfold Tw at h
 cases hT:aw 1 (Qx t) with
 |error e=>exact⟨aq.Qye hT,aq.Qya hT⟩
 |ok L=>rw[hT]at h;have E:decide (0<L.length)=false:=h;have H:L=[]:=aaq (by have:=of_decide_eq_false E;omega);subst H;exact⟨aq.Fb hT rfl,aq.Fh hT rfl⟩
theorem Dz {t:Bytes}(h:Tw t=true):∃L,aw 1 (Qx t)=.ok L/\0<L.length:=by
 unfold Tw at h
 cases hT:aw 1 (Qx t) with
 |error e=>
  rw[hT]at h;simp only[Ui,aaG,ae1,decide_false,Bool.and_false]at h
  cases h
 |ok L=>rw[hT]at h;have E:decide (0<L.length)=true:=h;exact⟨L,rfl,of_decide_eq_true E⟩
theorem Ax {t:Bytes}{w w':World}{k:Nat}(h:ae.Yg t=.error k)(hk:0<k)(hb:Below w.heap.size w w'):wH t w (.returned (.tuple #[.agg #[.int .i64 0,.int .i64 0,.slice none 0 0],.int .i64 (k:Nat)])) w':=by unfold wH;rw[h];exact⟨hb,rfl,hk⟩
theorem Qxu (s:ByteArray)(w:World)(hs:s.size<=1048576):Calls Tryz.prog 89 #[.string s] w (wH s.data.toList w):=by
 have bt:=Qq w (.cells #[.int .i64 0,.int .i64 0,.slice none 0 0] 47);have bS:=zq bt
 have hz0:(w.alloc (.cells #[.int .i64 0,.int .i64 0,.slice none 0 0] 47)).heap.size=w.heap.size+1:=by simp
 have dJ:=zq (aaz w (.cells #[.int .i64 0,.int .i64 0,.slice none 0 0] 47));have gK:=zq (Cy s (w.alloc (.cells #[.int .i64 0,.int .i64 0,.slice none 0 0] 47)) hs)
 have hs2:s.data.toList.length<=1048576:=by rw[<-abg];exact hs
 have cr:=zq hs2;obtain⟨t,ht⟩:=xq s.data.toList;rw[<-ht]at gK cr ⊢;clear bt hs hs2 ht;go_enter Tryz.func89,Tryz.ntmps89;go_wp2_with fail;refine gK.o.mono ?_;rintro e w1 ⟨tv,so,rfl,ho,GY,hb1⟩;obtain⟨b,hb⟩:=xq (Tw t);rw[<-hb];obtain⟨ao,cap,rfl,-,-,-⟩:=Qj ho;obtain⟨n,hn⟩:=xq ((Ui (aw 1 (Qx t))).length);rw[<-hn]at ho ⊢;obtain⟨w2,hw2⟩:=xq (w1.alloc (.cells #[.slice ao n cap,.int .i64 0,.slice none 0 0,.slice none 0 0,.slice (some ⟨so,0,none⟩) 1 1,.bool true,.bool false,.int .i64 0] 116))
 have jq:Below w1.heap.size w1 w2:=by rw[hw2];exact Qq _ _
 have hz1:=hb1.size;rw[hz0]at hz1 hb1;have aD:Hid (Below w.heap.size w w2):=bS.o.trans ((hb1.mono (Nat.le_succ _)).trans (jq.mono (by omega)));have zZ:Hid (w2.heap[w.heap.size]?=some (.cells #[.int .i64 0,.int .i64 0,.slice none 0 0] 47 (0,0))):=(jq.block w.heap.size (by omega)).trans ((hb1.block w.heap.size (by omega)).trans dJ.o);obtain⟨R,hR⟩:=xq w1.heap.size
 have DV:w.heap.size<R:=by omega
 cases b with
 |false=>
  have HE:=zq (Dq hb.symm).1;clear ho hb1 jq hz1 hb hn;go_wp2_with (first|(rw[<-hw2];fail)|(refine aeh (by rfl) 47 (.tmp 2) (.tmp 19) (by rfl) w.heap.size _ rfl rfl 47 _ (by rw[<-hw2];exact zZ.o) (by exact Tryz.eT) (by rfl) (by simp[Value.oneCell']) ?_));rw[<-hw2];refine aaI (Qc rfl _ _ w.heap.size 47 _ _ _ rfl (ae3 _ _ _ _ _ _ zZ.o) Tryz.underlying47 rfl (by kernel_rfl)) rfl ?_
  exact Ax HE.o (by decide) (ae7 aD.o (aaa _) _)
 |true=>
  obtain⟨L,hT,lu⟩:=Dz hb.symm;rw[hT]at hn ho;have hn':n=L.length:=hn
  have ho':w1.ownsRow (w.alloc (.cells #[.int .i64 0,.int .i64 0,.slice none 0 0] 47)).heap.size 119 3 (.slice ao L.length cap) L.length (Xk L):=by rw[<-hn'];exact ho
  have hwr:=Dx ho' GY;rw[<-hn',<-hw2,<-hR]at hwr;have gM:=zq hwr;have HT:=zq hT;have ey:=zq (PH cr.o hT);have HN:=zq hn';obtain⟨c0,c1,-,-,-,bT⟩:=hwr.cells;have HIS:=zq (Rt R _ L 0 [91] w2 c0 bT (by omega));rw[adq]at HIS;have iW:=zq hR;have rP:=zq lu;clear ho hb1 jq hz1 hb hn ho' hn' hwr hT bT lu;go_wp2_with fail;rw[<-hw2,<-hR];clear hw2 hR;go_wp2_with fail;refine HIS.o.mono ?_;rintro e w3 ⟨rfl,hb3⟩;have aS:=zq (Qz aD.o hb3);have kZ:Hid (w3.heap[w.heap.size]?=some (.cells #[.int .i64 0,.int .i64 0,.slice none 0 0] 47 (0,0))):=(hb3.block w.heap.size (by have:=aD.o.size;have:=gM.o.lt;omega)).trans zZ.o;have pc:=zq (gM.o.below hb3)
  cases hm:ae.Qv [91] L with
  |false=>
   have HE:=zq (aq.Fb HT.o hm);clear hm hb3 c0 c1;go_wp2_with (refine aeh (by rfl) 47 (.tmp 2) (.tmp 19) (by rfl) w.heap.size _ rfl rfl 47 _ kZ.o (by exact Tryz.eT) (by rfl) (by simp[Value.oneCell']) ?_);refine aaI (Qc rfl _ _ w.heap.size 47 _ _ _ rfl (ae3 _ _ _ _ _ _ kZ.o) Tryz.underlying47 rfl (by kernel_rfl)) rfl ?_
   exact Ax HE.o (by decide) (ae7 aS.o (aaa _) _)
  |true=>
   obtain⟨x0,hx0⟩:∃x0:aq.RW,x0=⟨L,[],[],true,false,0⟩:=⟨_,rfl⟩;have oh:=zq hm;have c1':=pc.o.cells.2.1;have f1:=pc.o.eD 1;have aT:=pc.o.lt;have hw4':eC (w3.setCell ⟨R,1,none⟩ (.int .i64 1)) R (.slice ao n cap) L (0+1) ⟨L,[],[],true,false,0⟩:=pc.o.set 1 (.int .i64 1) (fun _ _ _=>rfl) (ts':=L);have cJ:=zq hw4';have CT:=Qd4 R (.slice ao n cap) L ((Qx t).length+1) 0 ⟨L,[],[],true,false,0⟩ _ hw4' hm rfl rP.o (by have:=ey.o.len;omega) ey.o.num (by show 0<=134217728;omega);rw[<-hx0]at CT;have EU:=zq CT;have XP:=zq hx0;have bG:Hid (Below w.heap.size w (w3.setCell ⟨R,1,none⟩ (.int .i64 1))):=aS.o.setCell (p:=⟨R,1,none⟩) (abD DV) _
   have fq:Hid ((w3.setCell ⟨R,1,none⟩ (.int .i64 1)).heap[w.heap.size]?=some (.cells #[.int .i64 0,.int .i64 0,.slice none 0 0] 47 (0,0))):=by show _=_;rw[aaX w3 ⟨R,1,none⟩ w.heap.size _ (by show w.heap.size≠R;omega)];exact kZ.o
   clear hm hb3 c0 c1 hw4' CT hx0;go_wp2_with fail;refine EU.o.mono ?_;rintro e w5 ⟨bL,pE⟩;have dU:=zq (bG.o.trans (bL.mono (abD DV)));have pY:Hid (w5.heap[w.heap.size]?=some (.cells #[.int .i64 0,.int .i64 0,.slice none 0 0] 47 (0,0))):=(bL.block w.heap.size DV).trans fq.o;have hg:=ae.Vn ((Qx t).length+1) (L.length+3) (s:=⟨L,0⟩) (aaa _) (aaa _)
   have om:Hid (gD ((Qx t).length+1) x0=match ae.Xl ((Qx t).length+1) (L.length+3) ⟨L,0⟩ with
     |some (.ok (m,s))=>aq.has x0 (.mat m) s.ts|some (.error e)=> .error e|none=> .error (0,0)):=by show _=_;rw[XP.o];rfl
   rw[om.o]at pE;rcases hM:ae.Xl ((Qx t).length+1) (L.length+3) ⟨L,0⟩ with- |(⟨c,k⟩|⟨m,st⟩)
   ·rw[hM]at hg
    exact hg.elim
   ·rw[hM]at pE
    obtain⟨a,rfl,-,bF⟩:=pE;have HE:=zq (aq.Qxk HT.o hM);have fg:=aq.Ge hM;clear hg hM bL bF;rcases fg with fg|fg|fg
    all_goals
     simp only at fg;subst fg
     go_wp2_with (first
      |refine aeh (by rfl) 47 (.tmp 2) (.tmp 39) (by rfl) w.heap.size _ rfl rfl 47 _ pY.o (by exact Tryz.eT) (by rfl) (by simp[Value.oneCell']) ?_
      |refine aeh (by rfl) 47 (.tmp 2) (.tmp 42) (by rfl) w.heap.size _ rfl rfl 47 _ pY.o (by exact Tryz.eT) (by rfl) (by simp[Value.oneCell']) ?_)
     refine aaI (Qc rfl _ _ w.heap.size 47 _ _ _ rfl (ae3 _ _ _ _ _ _ pY.o) Tryz.underlying47 rfl (by kernel_rfl)) rfl ?_;exact Ax HE.o (by decide) (ae7 dU.o (aaa _) _)
   rw[hM]at pE;obtain⟨rfl,i',jd,CE,MT⟩:=pE;have JD:=zq (aq.Qvj HT.o hM);have HMO:=zq (ae.Rp hM);obtain⟨ct,qA⟩:=Qyj (ae.Rp hM) (aq.Qql hM) ey.o.num;obtain⟨d0,d1,-,-,-,-⟩:=jd.cells;obtain⟨gn,dF,d2,hgn,d3⟩:=jd.node (e:=.mat m) (by rw[XP.o]) (op:=3) (text:=ae.bB m) (fun _=>rfl);have lB:L.drop i'=st.ts:=CE;have HMX:=zq (Bn m (ae.Rp hM) w5 ct qA);by_cases jb:i'<n
   ·have dm:st.ts≠[]:=by
     rw[<-lB];intro h;rw[aey]at h;have:=HN.o;omega
    have HE:Hid (ae.Yg t=.error 7):=by show _=_;rw[JD.o,if_neg dm]
    have oM:((i':Nat):Int)<((n:Nat):Int):=by omega
    have aaT:decide (((i':Nat):Int)<((n:Nat):Int))=true:=abH oM;clear hg hM bL jd CE MT ct qA lB dm jb d2 d3;go_wp2_with (refine aeh (by rfl) 47 (.tmp 2) (.tmp 39) (by rfl) w.heap.size _ rfl rfl 47 _ pY.o (by exact Tryz.eT) (by rfl) (by simp[Value.oneCell']) ?_);refine aaI (Qc rfl _ _ w.heap.size 47 _ _ _ rfl (ae3 _ _ _ _ _ _ pY.o) Tryz.underlying47 rfl (by kernel_rfl)) rfl ?_;exact Ax HE.o (by decide) (ae7 dU.o (aaa _) _)
   have dm:st.ts=[]:=by rw[<-lB];exact aaR (by have:=HN.o;omega)
   have HE:Hid (ae.Yg t=.ok m):=by show _=_;rw[JD.o,if_pos dm]
   have oM: ¬((i':Nat):Int)<((n:Nat):Int):=by omega
   have aaT:decide (((i':Nat):Int)<((n:Nat):Int))=false:=abC oM;have hwl:=jd.lt;clear hg hM bL jd CE MT ct qA lB dm jb;go_wp2_with fail;refine HMX.o.mono ?_;rintro e w6 ⟨v6,rfl,yS,fT⟩;have l8:=zq (Qz dU.o fT);have JC:Hid (w6.heap[w.heap.size]?=some (.cells #[.int .i64 0,.int .i64 0,.slice none 0 0] 47 (0,0))):=(fT.block w.heap.size (by omega)).trans pY.o
   obtain⟨vo,vc,rfl⟩:∃vo vc,v6=.slice vo m.at_.length vc:=by obtain⟨a,c,e,-⟩:=yS.zj;exact⟨a,c,e⟩
   have ER:Hid (∀cs:Array Value,iY (w6.setRow w.heap.size cs) (.slice vo m.at_.length vc) m.at_):=by intro cs;exact yS _ (by rw[size_setRow];exact aaa _) fun q h1 _=>setRow_other _ _ _ _ (by omega)
   clear fT yS d0 d1 d2 d3;go_wp2_with (refine aeh (by rfl) 47 (.tmp 2) (.tmp 49) (by rfl) w.heap.size _ rfl rfl 47 _ JC.o (by exact Tryz.eT) (by rfl) (by simp[Value.oneCell']) ?_);refine aaI (Qc rfl _ _ w.heap.size 47 _ _ _ rfl (ae3 _ _ _ _ _ _ JC.o) Tryz.underlying47 rfl (by kernel_rfl)) rfl ?_;unfold wH;rw[HE.o];exact⟨ae7 l8.o (aaa _) _,HMO.o,_,rfl,ER.o _⟩
theorem Kx (w:World)(op:Int)(T:ByteArray)(ko:Option Addr)(k aj:Nat):∃w1,w1=w.alloc (.cells #[.int .i64 op,.string T,.slice ko k aj] 43)/\Hid (Below w.heap.size w w1)/\w1.cell? ⟨w.heap.size,0,none⟩=some (.int .i64 op)/\w1.cell? ⟨w.heap.size,1,none⟩=some (.string T)/\w1.cell? ⟨w.heap.size,2,none⟩=some (.slice ko k aj)/\w.heap.size<w1.heap.size:=
 ⟨_,rfl,Qq _ _,by simp[go_sem],by simp[go_sem],by simp[go_sem],by simp⟩
theorem M4 (op:Int)(hop:op=1\/op=9)(text:Bytes)(ko:Option Addr)(k aj:Nat)(w:World)(hl:text.length<=1048576):Calls Tryz.prog 139 #[.agg #[.int .i64 op,.string ⟨text.toArray⟩,.slice ko k aj]] w fun e w'=>e=.returned (.bool (ae.WV op text))/\Below w.heap.size w w':=by
 obtain⟨T,hT⟩:=xq (⟨text.toArray⟩:ByteArray)
 have bW:T.data.toList=text:=by rw[hT]
 have fL:T.size<=67108864:=by rw[abg,bW];omega
 have HD:Hid (∀w5,Calls Tryz.prog 181 #[.string T] w5 fun e w'=>e=.returned (.bool (ae.WV op text))/\w5=w'):=by
  intro w5;have h1:=Qvv T w5 fL
  have e1:aq.mC T.data.toList=ae.WV op text:=by
   rw[bW,aq.Qbm]
   rcases hop with rfl|rfl<;>rfl
  rw[e1]at h1;exact h1
 rw[<-hT];obtain⟨w1,aQ,aC,c0,c1,c2,hz1⟩:=Kx w op T ko k aj;clear hT bW fL;rcases hop with rfl|rfl
 all_goals
  go_enter Tryz.func139,Tryz.ntmps139;go_wp2_with fail;rw[<-aQ];clear aQ;go_wp2_with fail;refine(HD.o _).mono ?_;rintro e w2 ⟨rfl,rfl⟩;go_wp2_with fail;go_ret;exact⟨rfl,aC.o⟩
theorem Nd (op:Int)(hop:op=2\/op=10\/op=11)(text:Bytes)(ko:Option Addr)(k aj:Nat)(w:World)(hl:text.length<=1048576):Calls Tryz.prog 139 #[.agg #[.int .i64 op,.string ⟨text.toArray⟩,.slice ko k aj]] w fun e w'=>e=.returned (.bool (ae.WV op text))/\Below w.heap.size w w':=by
 obtain⟨T,hT⟩:=xq (⟨text.toArray⟩:ByteArray)
 have bW:T.data.toList=text:=by rw[hT]
 have fL:T.size<=1048576:=by rw[abg,bW];omega
 have HD:Hid (∀w5,Calls Tryz.prog 182 #[.string T] w5 fun e w'=>e=.returned (.bool (ae.WV op text))/\Below w5.heap.size w5 w'):=by
  intro w5;have h1:=Qxf T w5 fL
  have e1:ae.cF T.data.toList=ae.WV op text:=by
   rw[bW]
   rcases hop with rfl|rfl|rfl<;>rfl
  rw[e1]at h1;exact h1
 rw[<-hT];obtain⟨w1,aQ,aC,c0,c1,c2,hz1⟩:=Kx w op T ko k aj;clear hT bW fL;rcases hop with rfl|rfl|rfl
 all_goals
  go_enter Tryz.func139,Tryz.ntmps139;go_wp2_with fail;rw[<-aQ];clear aQ;go_wp2_with fail;refine(HD.o _).mono ?_;rintro e w2 ⟨rfl,hb2⟩;have aD:=zq (Qz aC.o hb2);clear hb2;go_wp2_with fail;go_ret;exact⟨rfl,aD.o⟩
theorem Hq (text:Bytes)(ko:Option Addr)(k aj:Nat)(w:World)(hl:text.length<=1048576):Calls Tryz.prog 139 #[.agg #[.int .i64 12,.string ⟨text.toArray⟩,.slice ko k aj]] w fun e w'=>e=.returned (.bool (ae.WV 12 text))/\Below w.heap.size w w':=by
 obtain⟨T,hT⟩:=xq (⟨text.toArray⟩:ByteArray)
 have bW:T.data.toList=text:=by rw[hT]
 have LO:T.toList=text:=by rw[adT,bW]
 have fL:T.size<=1048576:=by rw[abg,bW];omega
 obtain⟨b,hb⟩:=xq (ae.cF text);obtain⟨c,hc⟩:∃c,(T.toList==[108,101,116])=c:=⟨_,rfl⟩
 have HV:Hid (ae.WV 12 text=(b && !c)):=by show (ae.cF text && text !=ae.lK)=_;rw[<-hb,<-hc,LO];rfl
 rw[HV.o]
 have HD:Hid (∀w5,Calls Tryz.prog 182 #[.string T] w5 fun e w'=>e=.returned (.bool b)/\Below w5.heap.size w5 w'):=by intro w5;have h1:=Qxf T w5 fL;rw[bW,<-hb]at h1;exact h1
 rw[<-hT];obtain⟨w1,aQ,aC,c0,c1,c2,hz1⟩:=Kx w 12 T ko k aj;have C1:=zq c1;clear hT bW fL LO hb HV;go_enter Tryz.func139,Tryz.ntmps139;go_wp2_with fail;rw[<-aQ];clear aQ;go_wp2_with fail;refine(HD.o _).mono ?_;rintro e w2 ⟨rfl,hb2⟩;have aD:=zq (Qz aC.o hb2);have d1:w2.cell? ⟨w.heap.size,1,none⟩=some (.string T):=(hb2.cell (p:=⟨w.heap.size,1,none⟩) hz1).trans C1.o;clear hb2 c0 c1 c2
 cases b<;>cases c
 all_goals
  go_wp2_with fail;go_ret;exact⟨rfl,aD.o⟩
theorem Nu (op:Int)(hop:op∉([1,9,2,10,11,12,3,13]:List Int))(text:Bytes)(ko:Option Addr)(k aj:Nat)(w:World):Calls Tryz.prog 139 #[.agg #[.int .i64 op,.string ⟨text.toArray⟩,.slice ko k aj]] w fun e w'=>e=.returned (.bool (ae.WV op text))/\Below w.heap.size w w':=by
 simp only[abY,aeg,ae5,not_or]at hop;obtain⟨h1,h9,h2,h10,h11,lr,h3,nO⟩:=hop;obtain⟨T,hT⟩:=xq (⟨text.toArray⟩:ByteArray)
 have LO:T.toList=text:=by rw[adT,hT]
 obtain⟨c,hc⟩:∃c,T.toList.isEmpty=c:=⟨_,rfl⟩
 have HV:Hid (ae.WV op text=c):=by
  show _=_;unfold ae.WV;rw[if_neg (by simp[h1,h9]),if_neg (by simp[h2,h10,h11]),if_neg lr,if_neg h3,if_neg nO,<-hc,LO]
  cases text<;>rfl
 rw[HV.o]
 have d1:(op==1)=false:=by simp[h1]
 have d9:(op==9)=false:=by simp[h9]
 have d2:(op==2)=false:=by simp[h2]
 have d10:(op==10)=false:=by simp[h10]
 have d11:(op==11)=false:=by simp[h11]
 have d12:(op==12)=false:=by simp[lr]
 have d3:(op==3)=false:=by simp[h3]
 have d13:(op==13)=false:=by simp[nO]
 rw[<-hT];obtain⟨w1,aQ,aC,c0,c1,c2,hz1⟩:=Kx w op T ko k aj;clear hT LO HV h1 h9 h2 h10 h11 lr h3 nO;go_enter Tryz.func139,Tryz.ntmps139;go_wp2_with fail;rw[<-aQ];clear aQ;go_wp2_with fail;go_ret;exact⟨rfl,aC.o⟩
theorem Qp6 (A B:ByteArray)(a b:Bytes)(ha:A.data.toList=a)(hb:B.data.toList=b):(A.toList==B.toList)=(a==b):=by rw[adT,adT,ha,hb]
theorem M3 (text:Bytes)(ko:Option Addr)(k aj:Nat)(w:World)(hl:text.length<=1048576):Calls Tryz.prog 139 #[.agg #[.int .i64 3,.string ⟨text.toArray⟩,.slice ko k aj]] w fun e w'=>e=.returned (.bool (ae.WV 3 text))/\Below w.heap.size w w':=by
 obtain⟨T,hT⟩:=xq (⟨text.toArray⟩:ByteArray)
 have bW:T.data.toList=text:=by rw[hT]
 have fL:T.size<=1048576:=by rw[abg,bW];omega
 have LQ:ae.WV 3 text=ae.im text:=rfl;obtain⟨r,hr⟩:=xq (ae.im text);rw[LQ,<-hr];have HR:=zq hr;have fF:=zq bW;rw[<-hT];obtain⟨w1,aQ,aC,c0,c1,c2,hz1⟩:=Kx w 3 T ko k aj;have C1:=zq c1;have HD:=zq (Qxu T w1 fL);rw[bW]at HD;clear hT bW fL LQ hr;go_enter Tryz.func139,Tryz.ntmps139;go_wp2_with fail;rw[<-aQ];clear aQ;go_wp2_with fail;refine HD.o.mono ?_;rintro e w2 ⟨hb2,hp⟩;have hz2:=hb2.size
 cases hm:ae.Yg text with
 |error kk=>
  rw[hm]at hp;obtain⟨rfl,bF⟩:=hp
  have HF:Hid (r=false):=by show _=_;rw[HR.o];unfold ae.im;rw[hm]
  have pn:=Qq w2 (.cells #[.int .i64 0,.int .i64 0,.slice none 0 0] 47);have ml:=zq (Uc 0 0 [] (.slice none 0 0) (w2.alloc (.cells #[.int .i64 0,.int .i64 0,.slice none 0 0] 47)) ⟨none,0,rfl,aaa _,aao _,fun h=>by simp at h⟩ (by decide) (by decide) rfl);have aD:=zq (Qz (Qz aC.o hb2) pn)
  have fg:(((kk:Nat):Int)==0)=false:=by simp;omega
  clear hb2 pn hm bF c0 c1 c2;go_wp2_with fail;refine ml.o.mono ?_;rintro e w3 ⟨rfl,hb3⟩;have aS:=zq (Qz aD.o hb3);clear hb3;go_wp2_with fail;go_ret
  exact⟨by rw[HF.o];rfl,aS.o⟩
 |ok m=>
  rw[hm]at hp;obtain⟨NT,v,rfl,yS⟩:=hp
  obtain⟨vo,vl,vc,rfl⟩:∃a b c,v=.slice a b c:=by obtain⟨a,c,e,-⟩:=yS;exact⟨_,_,_,e⟩
  have pn:=Qq w2 (.cells #[.int .i64 (m.rows:Nat),.int .i64 (m.aB:Nat),.slice vo vl vc] 47);have yY:=Uc m.rows m.aB m.at_ (.slice vo vl vc) (w2.alloc (.cells #[.int .i64 (m.rows:Nat),.int .i64 (m.aB:Nat),.slice vo vl vc] 47)) (yS.below pn) NT.1 NT.2.1 NT.2.2.1;rw[Mh m (fun p hp h=>by have:=NT.2.2.2 p hp h;omega)]at yY;obtain⟨S,hS⟩:=xq (⟨(ae.bB m).toArray⟩:ByteArray);rw[<-hS]at yY;have ml:=zq yY;have aD:=zq (Qz (Qz aC.o hb2) pn);have PV:=zq (Qz hb2 pn);obtain⟨c,hc⟩:∃c,(S.toList==T.toList)=c:=⟨_,rfl⟩
  have HF:Hid (r=c):=by show _=_;rw[HR.o];unfold ae.im;rw[hm,<-hc,Qp6 S T (ae.bB m) text (by rw[hS]) fF.o]
  clear hb2 pn hm yS NT yY hS c0 c1 c2;go_wp2_with fail;refine ml.o.mono ?_;rintro e w3 ⟨rfl,hb3⟩;have aS:=zq (Qz aD.o hb3);have d1:w3.cell? ⟨w.heap.size,1,none⟩=some (.string T):=((Qz PV.o hb3).cell (p:=⟨w.heap.size,1,none⟩) hz1).trans C1.o;clear hb3;go_wp2_with fail;go_ret;exact⟨by rw[HF.o];rfl,aS.o⟩
theorem Me (text:Bytes)(ko:Option Addr)(k aj:Nat)(w:World)(hl:text.length<=1048576):Calls Tryz.prog 139 #[.agg #[.int .i64 13,.string ⟨text.toArray⟩,.slice ko k aj]] w fun e w'=>e=.returned (.bool (ae.WV 13 text))/\Below w.heap.size w w':=by
 obtain⟨T,hT⟩:=xq (⟨text.toArray⟩:ByteArray)
 have bW:T.data.toList=text:=by rw[hT]
 have fL:T.size<=1048576:=by rw[abg,bW];omega
 have LQ:ae.WV 13 text=ae.fI text:=rfl;obtain⟨r,hr⟩:=xq (ae.fI text);rw[LQ,<-hr];have HR:=zq hr;have fF:=zq bW;rw[<-hT];obtain⟨w1,aQ,aC,c0,c1,c2,hz1⟩:=Kx w 13 T ko k aj;have C1:=zq c1;have gK:=zq (Cy T w1 fL);rw[bW]at gK;have HL:=zq hl;clear hT bW fL LQ hr hl;go_enter Tryz.func139,Tryz.ntmps139;go_wp2_with fail;rw[<-aQ];clear aQ;go_wp2_with fail;refine gK.o.mono ?_;rintro e w2 ⟨tv,so,rfl,ho,GY,hb2⟩;obtain⟨b,hb⟩:=xq (Tw text);rw[<-hb];obtain⟨ao,cap,rfl,-,-,-⟩:=Qj ho;obtain⟨n,hn⟩:=xq ((Ui (aw 1 (Qx text))).length);rw[<-hn]at ho ⊢;obtain⟨w3,hw3⟩:=xq (w2.alloc (.cells #[.slice ao n cap,.int .i64 0,.slice none 0 0,.slice none 0 0,.slice (some ⟨so,0,none⟩) 1 1,.bool true,.bool false,.int .i64 0] 116))
 have wR:Below w2.heap.size w2 w3:=by rw[hw3];exact Qq _ _
 have PV:=zq (Qz hb2 wR);have aS:=zq (Qz aC.o (Qz hb2 wR));have hz2:=hb2.size;obtain⟨R,hR⟩:=xq w2.heap.size
 have DV:w.heap.size<R:=by omega
 cases b with
 |false=>
  have HF:Hid (r=false):=by show _=_;rw[HR.o];unfold ae.fI;rw[(Dq hb.symm).2]
  clear ho hb2 wR hb hn c0 c1 c2;go_wp2_with fail;go_ret;rw[<-hw3]
  exact⟨by rw[HF.o];rfl,aS.o⟩
 |true=>
  obtain⟨L,SH,lu⟩:=Dz hb.symm;rw[SH]at hn ho;have hn':n=L.length:=hn
  have ho':w2.ownsRow w1.heap.size 119 3 (.slice ao L.length cap) L.length (Xk L):=by rw[<-hn'];exact ho
  have hwr:=Dx ho' GY;rw[<-hn',<-hw3,<-hR]at hwr;have gM:=zq hwr;have qb:=zq SH;have ey:=zq (PH HL.o SH);have HN:=zq hn';obtain⟨x0,x1,-,-,-,bT⟩:=hwr.cells;have HIS:=zq (Rt R _ L 0 [123] w3 x0 bT (by omega));rw[adq]at HIS;have rP:=zq lu;clear ho hb2 wR hb hn ho' hn' hwr SH bT lu c0 c1 c2;go_wp2_with fail;rw[<-hw3,<-hR];clear hw3 hR;go_wp2_with fail;refine HIS.o.mono ?_;rintro e w4 ⟨rfl,hb4⟩;have bG:=zq (Qz aS.o hb4);have cJ:=zq (gM.o.below hb4);have JW:=zq (Qz PV.o hb4)
  cases hm:ae.Qv [123] L with
  |false=>
   have HF:Hid (r=false):=by show _=_;rw[HR.o];unfold ae.fI;rw[aq.Fh qb.o hm]
   clear hm hb4 x0 x1;go_wp2_with fail;go_ret
   exact⟨by rw[HF.o];rfl,bG.o⟩
  |true=>
   obtain⟨y0,kB⟩:∃y0:aq.RW,y0=⟨L,[],[],true,false,0⟩:=⟨_,rfl⟩;have c1':=cJ.o.cells.2.1;have f1:=cJ.o.eD 1;have aT:=cJ.o.lt;have OO:eC (w4.setCell ⟨R,1,none⟩ (.int .i64 1)) R (.slice ao n cap) L (0+1) ⟨L,[],[],true,false,0⟩:=cJ.o.set 1 (.int .i64 1) (fun _ _ _=>rfl) (ts':=L);have CT:=Qda Qde R (.slice ao n cap) L ((Qx text).length+1) 0 ⟨L,[],[],true,false,0⟩ _ OO hm rfl rP.o (by have:=ey.o.len;omega) ey.o.num (by show 0<=134217728;omega);rw[<-kB]at CT;have EU:=zq CT;have yz:=zq kB;have dU:Hid (Below w.heap.size w (w4.setCell ⟨R,1,none⟩ (.int .i64 1))):=bG.o.setCell (p:=⟨R,1,none⟩) (abD DV) _
   have UI:Hid ((w4.setCell ⟨R,1,none⟩ (.int .i64 1)).cell? ⟨w.heap.size,1,none⟩=some (.string T)):=by show _=_;have h1:=(JW.o.cell (p:=⟨w.heap.size,1,none⟩) hz1).trans C1.o;exact(abG (aaX w4 ⟨R,1,none⟩ w.heap.size _ (by show w.heap.size≠R;omega))).trans h1
   clear hm hb4 x0 x1 OO CT kB;go_wp2_with fail;refine EU.o.mono ?_;rintro e w5 ⟨bL,pE⟩;have l8:=zq (dU.o.trans (bL.mono (abD DV)));have d5:w5.cell? ⟨w.heap.size,1,none⟩=some (.string T):=(bL.cell (p:=⟨w.heap.size,1,none⟩) DV).trans UI.o;have hg:=ae.Wj ((Qx text).length+1) (L.length+2) (s:=⟨L,0⟩) (aaa _) (aaa _)
   have om:Hid (lp ((Qx text).length+1) y0=match ae.Q8 ((Qx text).length+1) (L.length+2) ⟨L,0⟩ with
     |some (.ok (l,s))=>aq.has y0 (.cpx l) s.ts|some (.error e)=> .error e|none=> .error (0,0)):=by show _=_;rw[yz.o];rfl
   rw[om.o]at pE;rcases hM:ae.Q8 ((Qx text).length+1) (L.length+2) ⟨L,0⟩ with- |(⟨c,kk⟩|⟨l,st⟩)
   ·rw[hM]at hg
    exact hg.elim
   ·rw[hM]at pE
    obtain⟨a,rfl,-,bF⟩:=pE
    have HF:Hid (r=false):=by show _=_;rw[HR.o];unfold ae.fI;rw[aq.Qxz qb.o hM]
    have fg:(((kk:Nat):Int)==0)=false:=by simp;omega
    clear hg hM bL bF;go_wp2_with fail;go_quiet (fail);go_wp2_with fail;go_ret;exact⟨by rw[HF.o];rfl,Qz l8.o (Qs w5 nq)⟩
   rw[hM]at pE;obtain⟨rfl,i',jd,CE,MT⟩:=pE;have JD:=zq (aq.Qvx qb.o hM);obtain⟨d0,d1,-,-,-,-⟩:=jd.cells;obtain⟨gn,dF,d2,hgn,d3⟩:=jd.node (e:=.cpx l) (by rw[yz.o]) (op:=13) (text:=ae.cP l) (fun _=>rfl);have lB:L.drop i'=st.ts:=CE;obtain⟨S,hS⟩:=xq (⟨(ae.cP l).toArray⟩:ByteArray);rw[<-hS]at d3;by_cases jb:i'=n
   ·have dm:st.ts=[]:=by
     rw[<-lB];exact aaR (by have:=HN.o;omega)
    obtain⟨c,hc⟩:∃c,(S.toList==T.toList)=c:=⟨_,rfl⟩
    have HF:Hid (r=c):=by show _=_;rw[HR.o];unfold ae.fI;rw[JD.o,if_pos dm,<-hc,Qp6 S T (ae.cP l) text (by rw[hS]) fF.o]
    have oM:(((i':Nat):Int)==((n:Nat):Int))=true:=by simp;omega
    clear hg hM bL jd CE MT lB dm jb hS
    cases c
    all_goals
     go_wp2_with fail;go_quiet (fail);go_wp2_with fail;go_ret;exact⟨by rw[HF.o];rfl,Qz l8.o (Qs w5 nq)⟩
   have dm:st.ts≠[]:=by rw[<-lB];intro h;rw[aey]at h;have:=HN.o;omega
   have HF:Hid (r=false):=by show _=_;rw[HR.o];unfold ae.fI;rw[JD.o,if_neg dm]
   have oM:(((i':Nat):Int)==((n:Nat):Int))=false:=by simp;omega
   clear hg hM bL jd CE MT lB dm jb hS;go_wp2_with fail;go_quiet (fail);go_wp2_with fail;go_ret;exact⟨by rw[HF.o];rfl,Qz l8.o (Qs w5 nq)⟩
theorem PG:ZI:=by
 intro op E kv w H I;obtain⟨ko,k,h,rfl⟩:=I;by_cases h1:op=1\/op=9
 ·exact M4 op h1 E ko k h w H
 by_cases h2:op=2\/op=10\/op=11
 ·exact Nd op h2 E ko k h w H
 by_cases h3:op=12
 ·subst h3;exact Hq E ko k h w H
 by_cases h4:op=3
 ·subst h4;exact M3 E ko k h w H
 by_cases h5:op=13
 ·subst h5;exact Me E ko k h w H
 refine Nu op ?_ E ko k h w;simp only[abY,aeg,ae5,not_or];simp only[not_or]at h1 h2;exact⟨h1.1,h1.2,h2.1,h2.2.1,h2.2.2,h3,h4,h5⟩
def uF (P:ae.St->ae.PR ae.Ex)(ms:List UInt8)(s:ae.St):ae.PR ae.Ex:=(P s).bind fun k s=>if ms.any (fun m=>ae.Qv [m] s.ts) then none else ae.ret k s
theorem Qke {P:ae.St->ae.PR ae.Ex}(HE:∀s e,P s≠some (.error e)){ms:List UInt8}{s:ae.St}(h:uF P ms s≠none):∃k s1,P s=some (.ok (k,s1))/\uF P ms s=some (.ok (k,s1))/\ ∀m∈ms,ae.Qv [m] s1.ts=false:=by
 unfold uF at h ⊢;rcases hN:P s with- |(e|⟨k,s1⟩)
 ·rw[hN]at h;exact absurd rfl h
 ·exact absurd hN (HE _ _)
 rw[hN]at h;simp only[ae.PR.bind]at h ⊢;split at h
 ·exact absurd rfl h
 rename_i E;refine⟨k,s1,rfl,by rw[if_neg E];rfl,fun m hm=> ?_⟩;simp only[aew,not_exists,not_and,Bool.not_eq_true]at E;exact E m hm
def Lr (fin f:Nat)(P:ae.St->ae.PR ae.Ex)(s:ae.St):ae.PR ae.Ex:=(ae.Ub f 0 s).bind fun n s=>(P s).bind fun k s=>if ae.Qv [94] s.ts then (ae.Qa fin s.aW).bind fun m s=>ae.ret (ae.gF n (.pow k m)) s else none
theorem Qdj (fin f:Nat)(P:ae.St->ae.PR ae.Ex)(HE:∀s e,P s≠some (.error e))(IH:eA 251 P fin):eA 235 (fun s=>(P s).bind fun k s=>ae.N6 f k s) fin:=by
 intro R tv L a s nv ns w h hf;have H:=zq h;have VF:=zq IH;obtain⟨r,hr⟩:=xq ((P s).bind fun k s=>ae.N6 f k s);simp only[<-hr]at hf ⊢;have nM:Hid (r=(P s).bind fun k s=>ae.N6 f k s):=hr;have bR:=zq hf;have xh:=h.few;clear h hr hf IH;go_enter Tryz.func235,Tryz.ntmps235;go_wp2_with fail;refine(VF.o R tv L a s nv ns _ H.o (fun e=>bR.o (by rw[nM.o,e];rfl))).mono ?_;rintro e w1 hn;rcases hN:P s with- |(⟨fc,fk⟩|⟨k,s1⟩)
 ·rw[hN]at hn;exact hn.elim
 ·exact absurd hN (HE _ _)
 rw[hN]at hn;obtain⟨v1,a1,eU,ez,rfl,n1,n2⟩:=hn;have HST:Hid (ZK R tv L fin s nv ns w r v1 w1):=⟨f,k,s1,a1,eU,ez,by rw[nM.o,hN];rfl,n1,n2⟩;clear n1 n2 hN;go_wp2_with fail;go_loopw [3] (fun kv wr=>ZK R tv L fin s nv ns w r kv wr) (fun _ wr=>Q9 L R wr)
 case atStart=>exact HST.o
 clear HST
 case round=>
  obtain⟨g,k,s2,a2,nG,vw,htu,tW,hex⟩:=hrel;obtain⟨wo,rfl⟩:=xq wr
  cases g with
  |zero=>exact absurd htu.symm bR.o
  |succ g=>
   have hlen:=hex.len;have hsp:=F8 k;obtain⟨rfl,iz⟩:=hex;obtain⟨p,hp⟩:=xq (ns.length+k.size-1);rw[<-hp];have HP:=zq hp;have gQ:=zq tW;have oY:=zq iz;have mg:=zq tW.rs.left;have HTU:=zq htu;have hfw:=tW.few;rw[aac]at hfw;clear hp tW iz htu;go_wp2_with fail;refine(Zy R tv L fin a2 s2 nG (ns++vw) _ gQ.o.rs [39]).mono ?_;rintro e w3 ⟨rfl,t1,t2⟩
   cases hm:ae.Qv [39] s2.ts with
   |true=>
    rw[if_pos hm]at t2;have ct:=Ga hm
    have iW:Hid (ae.N6 g (.turn k) s2.aW=r):=by have h1:=HTU.o;unfold ae.N6 at h1;rw[if_pos hm]at h1;exact h1
    have mn:=zq (gQ.o.step t2 t1 (by omega) rfl);have bh:=(ft.fresh t2 [p]).resolve_right (by simp);have gL:=zq bh;have HA:=zq (Qq w3 (.cells #[.int .i64 ((p:Nat):Int)] 3));have vU:=zq (mn.o.step (mn.o.rs.below HA.o) (Wr.af HA.o) (aaa _) rfl);clear t1 t2 hm bh;go_wp2_with fail;refine(Fm R tv L fin (a2+1) s2.aW nG (ns++vw) _ vU.o.rs ⟨5,[],[p]⟩ _ gL.o (by rw[aac];omega)).mono ?_;rintro e w5 ⟨nv5,rfl,b1,b2,b3⟩;have FB:=zq (vU.o.xT b1 b2 b3 (by rw[aac];omega) (fun q hq=>by cases hq;exact mn.o.wr.size));have HL5:=zq b1.left;obtain⟨nn,bf⟩:=xq ((ns++vw).length);rw[<-bf];have cw:=zq bf;clear b1 b2 b3 bf;go_wp2_with fail
    have ah:ZK R tv L fin s nv ns w r (.int .i64 ((nn:Nat):Int)) w5:=by
     refine⟨g,.turn k,s2.aW,a2+1,nv5,_,iW.o,FB.o,?_,?_⟩
     ·rw[cw.o,aac,hlen];rfl
     rw[ado,oY.o,HP.o];rfl
    have eP:Q9 L R w5<Q9 L R wo:=by rw[HL5.o,mg.o];omega
    first|exact⟨ah,eP⟩|exact⟨by (repeat apply Exists.intro);exact⟨ah,rfl⟩,eP⟩
   |false=>
    rw[if_neg (by rw[hm];decide)]at t2
    have iW:Hid (r=some (.ok (k,s2))):=by have h1:=HTU.o;unfold ae.N6 at h1;rw[if_neg (by rw[hm];decide)]at h1;show _=_;rw[<-h1];rfl
    have mn:=zq (gQ.o.step t2 t1 (aaa _) rfl);clear t1 t2 hm;go_wp2_with fail;go_ret;rw[iW.o];exact⟨_,a2,nG,vw,rfl,mn.o,by rw[HP.o];rfl,oY.o⟩
theorem Qgd (fin f:Nat)(P:ae.St->ae.PR ae.Ex)(HE:∀s e,P s≠some (.error e))(IH:eA 235 P fin):eA 208 (Lr fin f P) fin:=by
 intro R tv L a s nv ns w h hf;have H:=zq h;have VF:=zq IH;obtain⟨r,hr⟩:=xq (Lr fin f P s);rw[<-hr]at hf ⊢;obtain⟨r1,hr1⟩:=xq (ae.Ub f 0 s)
 have nM:Hid (r=r1.bind fun n s=>(P s).bind fun k s=>if ae.Qv [94] s.ts then (ae.Qa fin s.aW).bind fun m s=>ae.ret (ae.gF n (.pow k m)) s else none):=by show _=_;rw[hr,hr1];rfl
 have bR:=zq hf;have WO:Hid (r1≠none):=fun e=>bR.o (by rw[nM.o,e];rfl);have xh:=h.few;have aca:=h.short
 have dm:s.ts.length<=67108864:=by rw[<-h.drop,aag];omega
 have HST:Hid (YH R tv L fin s nv ns w r1 (.int .i64 0) w):=⟨f,0,s,a,hr1.symm,rfl,h,Wr.refl _ _ _,by omega,rfl⟩;clear h hr hf IH hr1;go_enter Tryz.func208,Tryz.ntmps208;go_wp2_with fail;go_loopw [3] (fun nn wr=>YH R tv L fin s nv ns w r1 nn wr) (fun _ wr=>Q9 L R wr)
 case atStart=>exact HST.o
 clear HST
 case round=>
  obtain⟨g,n,s1,a1,u9,rfl,kz,hwr,rj,hop⟩:=hrel;obtain⟨wo,rfl⟩:=xq wr
  cases g with
  |zero=>exact absurd u9.symm WO.o
  |succ g=>
   have cL:=zq kz;have iX:=zq hwr;have EX:=zq u9;have HOP:=zq hop;have od:=zq kz.left;clear u9 kz hwr hop;go_wp2_with fail;refine(Zy R tv L fin a1 s1 nv ns _ cL.o [45]).mono ?_;rintro e w3 ⟨rfl,t1,t2⟩
   cases hm:ae.Qv [45] s1.ts with
   |true=>
    rw[if_pos hm]at t2;have ct:=Ga hm
    have iW:Hid (ae.Ub g (n+1) s1.aW=r1):=by have h1:=EX.o;unfold ae.Ub at h1;rw[if_pos hm]at h1;exact h1
    have AE:=zq (RS.step iX.o t1);have sq:=zq t2;have rQ:=zq t2.left;clear t1 t2 hm;go_wp2_with fail;have ah:YH R tv L fin s nv ns w r1 (.int .i64 ((n:Int)+1)) w3:=⟨g,n+1,s1.aW,a1+1,iW.o,by congr 1,sq.o,AE.o,by omega,HOP.o⟩
    have eP:Q9 L R w3<Q9 L R wo:=by rw[rQ.o,od.o];omega
    first|exact⟨ah,eP⟩|exact⟨by (repeat apply Exists.intro);exact⟨ah,rfl⟩,eP⟩
   |false=>
    rw[if_neg (by rw[hm];decide)]at t2
    have cZ:Hid (r=(P s1).bind fun k s=>if ae.Qv [94] s.ts then (ae.Qa fin s.aW).bind fun m s=>ae.ret (ae.gF n (.pow k m)) s else none):=by have h1:=EX.o;unfold ae.Ub at h1;rw[if_neg (by rw[hm];decide)]at h1;show _=_;rw[nM.o,<-h1];rfl
    have rZ:=zq ((fH.refl H.o).step (s2:=s1) (w2:=w3) (a2:=a1) (by rw[ab4];exact t2) (RS.step iX.o t1) (by omega) HOP.o);have sq:=zq t2;clear t1 t2 hm;go_wp2_with fail;refine(VF.o R tv L a1 s1 nv ns _ sq.o (fun e=>bR.o (by rw[cZ.o,e];rfl))).mono ?_;rintro e w4 hn;rcases hN:P s1 with- |(⟨fc,fk⟩|⟨k,s4⟩)
    ·rw[hN]at hn;exact hn.elim
    ·exact absurd hN (HE _ _)
    rw[hN]at hn;obtain⟨v4,a4,TL,O5,rfl,n1,n2⟩:=hn
    have jS:Hid (r=if ae.Qv [94] s4.ts then (ae.Qa fin s4.aW).bind fun m s=>ae.ret (ae.gF n (.pow k m)) s else none):=by show _=_;rw[cZ.o,hN];rfl
    have aaK:=n1.few;rw[aac]at aaK
    have vU:Hid (fH R tv L fin s nv ns w w4 a4 s4 TL O5):=by have:=rZ.o.trans (by rw[ab4];exact n1);rw[adz]at this;exact this
    have hlen:=n2.len;have hsp:=F8 k;obtain⟨rfl,iz⟩:=n2;obtain⟨p,hp⟩:=xq (ns.length+k.size-1);rw[<-hp];have HP:=zq hp;have oY:=zq iz;clear n1 hp iz hN;go_wp2_with fail;refine(Zy R tv L fin a4 s4 TL (ns++O5) _ vU.o.rs [94]).mono ?_;rintro e w5 ⟨rfl,t1,t2⟩
    cases hm:ae.Qv [94] s4.ts with
    |true=>
     rw[if_pos hm]at t2;have ct:=Ga hm
     have uP:Hid (r=(ae.Qa fin s4.aW).bind fun m s=>ae.ret (ae.gF n (.pow k m)) s):=by show _=_;rw[jS.o,if_pos hm]
     have FB:=zq (vU.o.step t2 t1 (by omega) rfl);clear t1 t2 hm;go_wp2_with fail;refine(Ja R tv L fin (a4+1) s4.aW TL (ns++O5) _ FB.o.rs).mono ?_;rintro e w6 hn;rcases hN:ae.Qa fin s4.aW with- |(⟨fc,fk⟩|⟨m,s6⟩)
     ·rw[hN]at hn;exact hn.elim
     ·rw[hN]at hn
      obtain⟨rfl,n1⟩:=hn;refine⟨rfl,?_⟩
      have bu:r=some (.error (fc,fk)):=by rw[uP.o,hN];rfl
      rw[bu];exact⟨rfl,FB.o.wr.trans FB.o.mv (n1.weak _)⟩
     rw[hN]at hn;obtain⟨v6,a6,rfl,n1,n2,n3,n4⟩:=hn;have uZ:=Y3 hN
     have HR6:Hid (r=some (.ok (ae.gF n (.pow k m),s6))):=by show _=_;rw[uP.o,hN];rfl
     have FC:=zq (FB.o.step n1 n2 (by omega) uZ.2);have lT:=zq n4;obtain⟨⟨xs,x1,x2,x3⟩,-⟩:=n4;have yy:=zq x1;have QU:=zq x2;clear n1 n2 n3 hN x1 x2;go_wp2_with fail;refine(Pi _ xs _ FC.o.rs.sg yy.o (by omega)).mono ?_;rintro e w7 ⟨rfl,b1⟩;rw[QU.o,Gq];have QM:=zq (FC.o.step (FC.o.rs.below b1) (Wr.af b1) (aaa _) rfl);have gL:=zq ((ft.fresh QM.o.rs [p]).resolve_right (by simp));have HA:=zq (Qq w7 (.cells #[.int .i64 ((p:Nat):Int)] 3));have FD:=zq (QM.o.step (QM.o.rs.below HA.o) (Wr.af HA.o) (aaa _) rfl);clear b1;go_wp2_with fail;refine(Fm R tv L fin a6 s6 TL (ns++O5) _ FD.o.rs ⟨9,ae.ar m,[p]⟩ _ gL.o (by rw[aac];omega)).mono ?_;rintro e w9 ⟨nv9,rfl,b1,b2,b3⟩;have FE:=zq (FD.o.xT b1 b2 b3 (by rw[aac];omega) (fun q hq=>by cases hq;exact QM.o.wr.size));obtain⟨nn,bf⟩:=xq ((ns++O5).length);rw[<-bf];have cw:=zq bf
     have ee:Hid (YI R tv L fin s nv ns w n s6 (ae.gF n (.pow k m)) (.int .i64 ((nn:Nat):Int)) (.int .i64 0) w9):=by
      refine⟨0,.pow k m,a6,nv9,_,rfl,aao _,rfl,FE.o,⟨?_,?_⟩,?_⟩
      ·rw[cw.o,aac,hlen];rfl
      ·rw[ado,oY.o,HP.o];rfl
      simp only[aac,aaJ];omega
     clear b1 b2 b3 bf;go_wp2_with fail;go_loopw [4,21] (fun kv iv wr=>YI R tv L fin s nv ns w n s6 (ae.gF n (.pow k m)) kv iv wr) (fun _ iv _=>(n-intOf iv).toNat)
     case atStart=>exact ee.o
     clear ee
     case round=>
      obtain⟨i,q,RY,O6,ED,rfl,jb,lZ,tW,hex,hfw⟩:=hrel;have xr:=hex.len;have hqp:=F8 q;obtain⟨rfl,hqf⟩:=hex;obtain⟨pq,GR⟩:=xq (ns.length+q.size-1);rw[<-GR];have zR:=zq GR;have HQF:=zq hqf;have rY:=zq tW;have nJ:=zq lZ;rw[aac]at hfw;clear GR hqf tW lZ;by_cases hlt:i<n
      ·have VI:=zq ((ft.fresh rY.o.rs [pq]).resolve_right (by simp))
       have j4:=zq (Qq wr (.cells #[.int .i64 ((pq:Nat):Int)] 3));have I7:=zq (rY.o.step (rY.o.rs.below j4.o) (Wr.af j4.o) (aaa _) rfl);go_wp2_with fail;refine(Fm R tv L fin RY s6 O6 (ns++ED) _ I7.o.rs ⟨4,[],[pq]⟩ _ VI.o (by rw[aac];omega)).mono ?_;rintro e w12 ⟨abU,rfl,b1,b2,b3⟩;have WH:=zq (I7.o.xT b1 b2 b3 (by rw[aac];omega) (fun q hq=>by cases hq;exact rY.o.wr.size));obtain⟨n2,jX⟩:=xq ((ns++ED).length);rw[<-jX];have jl:=zq jX;clear b1 b2 b3 jX;go_wp2_with fail
       have ah:YI R tv L fin s nv ns w n s6 (ae.gF n (.pow k m)) (.int .i64 ((n2:Nat):Int)) (.int .i64 ((i:Int)+1)) w12:=by
        refine⟨i+1,.neg q,RY,abU,_,by congr 1,by omega,?_,WH.o,⟨?_,?_⟩,?_⟩
        ·rw[<-nJ.o,show n-i=(n-(i+1))+1 from by omega];rfl
        ·rw[jl.o,aac,xr];rfl
        ·rw[ado,HQF.o,zR.o];rfl
        simp only[aac,aaJ];omega
       first|exact⟨ah,by simp[intOf]<;>omega⟩|exact⟨by (repeat apply Exists.intro);exact⟨ah,rfl⟩,by simp[intOf]<;>omega⟩
      have iN:n-i=0:=by omega
      have qR:Hid (q=(ae.gF n (.pow k m))):=by have:=nJ.o;rw[iN]at this;exact this
      clear iN;go_wp2_with fail;go_ret;rw[HR6.o]
      exact⟨_,RY,O6,ED,rfl,rY.o,by rw[<-qR.o,zR.o];rfl,by rw[<-qR.o];exact HQF.o⟩
    |false=>exact absurd (by rw[jS.o,if_neg (by rw[hm];decide)]) bR.o
theorem Qdm (fin:Nat)(P:ae.St->ae.PR ae.Ex)(HE:∀s e,P s≠some (.error e))(IH:eA 208 P fin):eA 160 (uF P [42]) fin:=by
 intro R tv L a s nv ns w h hf;obtain⟨k,s1,hN,hr,hm⟩:=Qke HE hf;rw[hr];have HC:=IH R tv L a s nv ns w h (by rw[hN];simp);rw[hN]at HC;replace HC:=zq HC;have HM:=zq hm;clear h hf IH HE hN hr hm;go_enter Tryz.func160,Tryz.ntmps160;go_wp2_with fail;refine HC.o.mono ?_;rintro e w1 ⟨v1,a1,eU,ez,rfl,n1,rfl,iz⟩;obtain⟨p,hp⟩:=xq (ns.length+k.size-1);rw[<-hp];have HP:=zq hp;have gQ:=zq n1;have oY:=zq iz;clear hp n1 iz HC;go_wp2_with fail;go_loopw [3] (fun kv wr=>kv=.int .i64 ((p:Nat):Int)/\wr=w1) (fun _ _=>0)
 case atStart=>exact⟨rfl,rfl⟩
 case round=>obtain⟨rfl,hw⟩:=hrel;subst hw;go_wp2_with fail;refine(Zy R tv L fin a1 s1 eU (ns++ez) _ gQ.o.rs [42]).mono ?_;rintro e w3 ⟨he,t1,t2⟩;rw[HM.o 42 (by simp)]at he t2;subst he;rw[if_neg (by decide)]at t2;replace gQ:=zq (gQ.o.step t2 t1 (aaa _) rfl);clear t1 t2;go_wp2_with fail;go_ret;exact⟨_,a1,eU,ez,rfl,gQ.o,by rw[HP.o];rfl,oY.o⟩
theorem Qca (fin:Nat)(P:ae.St->ae.PR ae.Ex)(HE:∀s e,P s≠some (.error e))(IH:eA 160 P fin):eA 97 (uF P [43,45]) fin:=by
 intro R tv L a s nv ns w h hf;obtain⟨k,s1,hN,hr,hm⟩:=Qke HE hf;rw[hr];have HC:=IH R tv L a s nv ns w h (by rw[hN];simp);rw[hN]at HC;replace HC:=zq HC;have HM:=zq hm;clear h hf IH HE hN hr hm;go_enter Tryz.func97,Tryz.ntmps97;go_wp2_with fail;refine HC.o.mono ?_;rintro e w1 ⟨v1,a1,eU,ez,rfl,n1,rfl,iz⟩;obtain⟨p,hp⟩:=xq (ns.length+k.size-1);rw[<-hp];have HP:=zq hp;have gQ:=zq n1;have oY:=zq iz;clear hp n1 iz HC;go_wp2_with fail;go_loopw [3,4] (fun kv _ wr=>kv=.int .i64 ((p:Nat):Int)/\wr=w1) (fun _ _ _=>0)
 case atStart=>exact⟨rfl,rfl⟩
 case round=>obtain⟨rfl,hw⟩:=hrel;subst hw;go_wp2_with fail;refine(Zy R tv L fin a1 s1 eU (ns++ez) _ gQ.o.rs [43]).mono ?_;rintro e w3 ⟨he,t1,t2⟩;rw[HM.o 43 (by simp)]at he t2;subst he;rw[if_neg (by decide)]at t2;replace gQ:=zq (gQ.o.step t2 t1 (aaa _) rfl);clear t1 t2;go_wp2_with fail;refine(Zy R tv L fin a1 s1 eU (ns++ez) _ gQ.o.rs [45]).mono ?_;rintro e w4 ⟨he,t1,t2⟩;rw[HM.o 45 (by simp)]at he t2;subst he;rw[if_neg (by decide)]at t2;replace gQ:=zq (gQ.o.step t2 t1 (aaa _) rfl);clear t1 t2;go_wp2_with fail;go_ret;exact⟨_,a1,eU,ez,rfl,gQ.o,by rw[HP.o];rfl,oY.o⟩
end Go.Proofs.YtgfmiladfeoldaaGreatDoor
