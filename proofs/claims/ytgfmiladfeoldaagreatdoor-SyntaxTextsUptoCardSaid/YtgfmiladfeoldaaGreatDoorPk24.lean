import Derived.Test.YtgfmiladfeoldaaGreatDoorPk23
set_option linter.unusedSimpArgs false
set_option linter.unusedVariables false
set_option maxRecDepth 100000
set_option maxHeartbeats 16000000
open Go.Proofs.Tryz
open Go.Value renaming slice->U,int->A,bool->c9
open Option renaming none->Z,some->F
open Go.RowKit renaming Hid->ca,Below->co
open Bool renaming false->ce,true->cl
open Go.Obj renaming cells->O
namespace Go.Proofs.YtgfmiladfeoldaaGreatDoor
open Go.RowKit ar aw
theorem Quk:ael:=by
 intro R tv L fin a0 x w h hm hd ha gV bF hsz;obtain⟨a,DR⟩:=xq (a0+1);rw[<-DR]at h;obtain⟨i0,hi,hz0,hz1,hz2⟩:=aa0 Tryz.rY;obtain⟨j0,hj,ja,tz,mf⟩:=aa0 Tryz.xA;have fO:=zq h;obtain⟨nv,vv,sv,ns,h1,h2⟩:=h;have br:=h1.lt;have tN:=zq h1;have HM2:=zq h2;have lI:=h1.tks;obtain⟨ao,cap,pE,t1,t2,t3⟩:=lI;obtain⟨g,hao,DZ,-⟩:=t3 (by omega);subst hao;have lI:=h1.tks;rw[pE]at lI;have lW:=zq lI;have tU:=zq pE;have fI:=zq bF;have dy:=zq hsz;obtain⟨n,hn⟩:=xq L.length;have HN:=zq hn;have LY:=zq gV;rw[<-hn]at pE gV ha lW
 have yR:ca (WM w R (U (F ⟨g,0,Z⟩) n cap) L a nv vv sv ns (aj.Yx x.vals.reverse 0) x.stack.reverse x.want x.pw x.depth):=by rw[<-pE];exact h1
 have hab:a<=n:=by omega
 have ha1:0+1<=a:=by omega
 obtain⟨c0,c1,-,-,-,-,-,-⟩:=h1.cells;have f1:=h1.iH 1;rw[pE]at c0;have hst:=bO.start h1;rw[pE]at hst;have dS:=zq hst;have FV:=zq (Ha a c0 lW (by omega));obtain⟨b,hb⟩:=xq (a+1)
 have hb1:((a:Nat):Int)+1=((b:Nat):Int):=by omega
 have hb2:IntKind.i64.wrap ((b:Nat):Int)=((b:Nat):Int):=abh _ (by omega)
 have qL:b<=67108866:=by omega
 obtain⟨DI,hcnd⟩:=xq ((aj.Qh 1 (L.drop a) && aj.Qk [58] (L.drop (a+1))));have OO:=zq hcnd;have ju:=zq (fun (hc:DI=cl) w5 (h5:fP w5 R tv L a x)=>Qhn fin a0 h5 hm hd DR LY.o bF hsz (by rw[hc]at hcnd;exact(Bool.and_eq_true_iff.1 hcnd.symm).1) (by rw[hc]at hcnd;exact(Bool.and_eq_true_iff.1 hcnd.symm).2));have HME:=zq (fun (hc:DI=ce)=>Qmj (fin:=fin) hm hd DR (by rw[hc]at hcnd;exact hcnd.symm));rw[<-hb]at OO;have j5:=zq hb;clear h1 h2 hm hd bF hsz hn lI t1 t2 t3 DR hb hst hcnd;go_enter func153,ntmps153;go_upto_region 1 with fail;go_cut [30] (fun d wx=>d=c9 DI/\ca (co w.heap.size w wx))
 case first=>
  have CB:ca (DI=(aj.Qh 1 (L.drop a) && aj.Qk [58] (L.drop b))):=OO;by_cases eu:aj.Qh 1 (L.drop a)=cl
  ·have hk:(((cK L a:Nat):Int)==1)=cl:=by
    rw[Jf (by decide)]at eu;simp at eu;simp[eu]
   obtain⟨v58,Li⟩:=xq (aj.Qk [58] (L.drop b));have adT:=zq Li
   have hcv:DI=v58:=by rw[CB.o,eu,Li];rfl
   subst hcv;clear eu Li;go_wp2_with fail;refine FV.o.mono ?_;rintro e w1 ⟨rfl,hb1'⟩;have bA:=dS.o.below hb1';obtain⟨d0,d1,-⟩:=bA.cells;have HIS:=zq (Rg b [58] d0 (bA.tks br lW.o) (by omega));rw[<-adT.o]at HIS;have aK:=zq hb1';clear hb1' bA c0 c1 f1;go_wp2_with fail;refine HIS.o.mono ?_;rintro e w2 ⟨rfl,hb2'⟩;have aI:=zq (Qv aK.o hb2');clear hb2' d0 d1;go_wp2_with fail;go_meet;exact⟨rfl,aI⟩
  have lB:aj.Qh 1 (L.drop a)=ce:=by simpa using eu
  have hk:(((cK L a:Nat):Int)==1)=ce:=by rw[Jf (by decide)]at lB;simp at lB;simp;omega
  have hcv:DI=ce:=by rw[CB.o,lB];rfl
  subst hcv;clear eu lB;go_wp2_with fail;refine FV.o.mono ?_;rintro e w1 ⟨rfl,hb1'⟩;have aK:=zq hb1';clear hb1' c0 c1 f1;go_wp2_with fail;go_meet;exact⟨rfl,aK⟩
 case rest=>
  obtain⟨rfl,hwc⟩:=hcut;obtain⟨wa,rfl⟩:=xq wc;have cT:=hwc;clear hwc c0 c1 f1 FV;by_cases hcc:DI=cl
  ·have cU:=zq (ju.o hcc wa (fO.o.below cT))
   subst hcc;go_wp2_with fail;refine cU.o.mono ?_
   cases fT:jb fin x with
   |error p=>
    obtain⟨c,k⟩:=p;rintro e w3 ⟨hb3,a3,rfl,hc,hk⟩;have aV:ca (co R w w3):=(cT.o.mono (aa1 br)).trans hb3;have uF:=zq hc;have yN:=zq hk;have lQ:=zq fT;clear hb3 fT hc hk;go_wp2_with fail;go_ret2;refine⟨aV,?_⟩;rw[lQ.o]
    exact⟨a3,rfl,uF,yN⟩
   |ok x'=>rintro e w3 ⟨hb3,rfl,EM⟩;have aV:ca (co R w w3):=(cT.o.mono (aa1 br)).trans hb3;have rA:=zq EM;have lQ:=zq fT;clear hb3 fT EM;go_wp2_with fail;go_ret2;refine⟨aV,?_⟩;rw[lQ.o];exact⟨rfl,rA⟩
  have VH:DI=ce:=by simpa using hcc
  obtain⟨rr,iL,vY⟩:=HME.o VH;subst VH;have ji:=zq iL;have HEA:=zq vY;have ag9:w.heap.size<=wa.heap.size:=cT.o.size
  have HST:ca (MtL fin x L rr w R (U (F ⟨g,0,Z⟩) n cap) nv vv sv (U (F ⟨wa.heap.size+1,0,Z⟩) 1 1) ((wa.alloc (O #[] 62)).alloc (O #[U (F ⟨wa.heap.size,0,Z⟩) 0 0] 45))):=by have afG:=Qq wa (O #[] 62);have afH:=Qq (wa.alloc (O #[] 62)) (O #[U (F ⟨wa.heap.size,0,Z⟩) 0 0] 45);exact⟨a,[],_,[],[],Mt.one wa w.heap.size ag9,dS.o.below (Qv cT (Qv afG afH)),HEA,by rw[<-HN.o];exact hab,by show 0+1<=a;exact ha1,aat _,aat _,fun r hr=>(by cases hr),fun p hp=>by cases hp⟩
  clear hcc iL vY ju HME;go_upto_block 0 with fail;go_cut [6] (fun rv wx=>ca (MtE x L rr w R (U (F ⟨g,0,Z⟩) n cap) nv vv sv rv wx))
  case first=>
   go_wp2_with fail;go_loopw [6] (fun rv wr=>MtL fin x L rr w R (U (F ⟨g,0,Z⟩) n cap) nv vv sv rv wr) (fun _ wr=>Xf L R wr)
   case atStart=>exact HST.o
   case round=>
    obtain⟨j,rs,lv,cs,cur,hmt,eA,vY,nh,lG,fT,AK,wZ⟩:=hrel;rw[<-HN.o]at nh;obtain⟨gr,rcap,lo,cq,rfl,hrc,hgB,iJ,afL,VH,hlv,hcc⟩:=hmt.last;have wK:=zq hlv;have yT:=zq hmt;have Im:=zq eA;have uN:=zq vY;have FZ:=zq (eA.left L);have HCC:=zq hcc;have mq:=zq wZ;obtain⟨p,hp⟩:=xq rs.length;have HP:=zq hp;obtain⟨m,hm⟩:=xq (p+1);have HMP:=zq hm;rw[<-hp,<-hm]at yT hrc;rw[<-hp,<-hm]
    have yj:p<m:=by omega
    have KZ:((m:Nat):Int)-1=((p:Nat):Int):=by omega
    have tu:rs.length+1<=j:=lG;have hcb:cs.length<=j:=fT
    have EL:p<=67108864:=by omega
    have hwp:IntKind.i64.wrap ((p:Nat):Int)=((p:Nat):Int):=abh _ (by omega)
    have hp0:(0:Int)<=((p:Nat):Int):=by omega
    have mG:((p:Nat):Int)<((m:Nat):Int):=by omega
    obtain⟨c0,c1,f⟩:=eA.cells;have f1:=f 1;have bF:=eA.tks br lW.o;have FQ:=zq (Rg j [45] c0 bF (by omega));have Oi:w.heap.size<=wr.heap.size:=eA.1.size;have Ib:=zq AK;obtain⟨ng,yh⟩:=xq (aj.Qk [45] (L.drop j));have tP:ca (aj.Qk [45] (L.drop j)=ng):=yh.symm;rw[<-yh]at FQ;have aiM:=eA.lt;clear hmt eA vY hp hm f hlv hcc afL VH bF AK lG fT wZ yh;go_wp2_with fail;refine FQ.o.mono ?_;rintro e w1 ⟨rfl,hb1'⟩;have bA:=Im.o.below hb1';have jl:=zq bA;have GF:=zq (yT.o.keep hb1'.size fun q _ hq=>hb1'.block q hq);clear hb1' bA c0 c1 f1;go_upto_if 44 with fail;go_cut [] (fun wx=>ca (∃J,bO w R (U (F ⟨g,0,Z⟩) n cap) nv vv sv x J wx/\Mt wx w.heap.size (U (F ⟨gr,0,Z⟩) m rcap) (rs++[(lv,cs,cur)])/\aF.Yn ⟨L.drop j,x.depth⟩=⟨L.drop J,x.depth⟩/\j<=J/\J<=n/\(ng=ce->J=j)))
    case first=>
     obtain⟨-,c1,f⟩:=jl.o.cells;have f1:=f 1;by_cases hb:ng=cl
     ·obtain⟨bj,hbj⟩:=xq (j+1)
      have ahZ:((j:Nat):Int)+1=((bj:Nat):Int):=by omega
      have ah0:IntKind.i64.wrap ((bj:Nat):Int)=((bj:Nat):Int):=abh _ (by omega)
      have HF:ca (∃J,bO w R (U (F ⟨g,0,Z⟩) n cap) nv vv sv x J (w1.setCell ⟨R,1,Z⟩ (A .i64 bj))/\Mt (w1.setCell ⟨R,1,Z⟩ (A .i64 bj)) w.heap.size (U (F ⟨gr,0,Z⟩) m rcap) (rs++[(lv,cs,cur)])/\aF.Yn ⟨L.drop j,x.depth⟩=⟨L.drop J,x.depth⟩/\j<=J/\J<=n/\(ng=ce->J=j)):=by
       have XD:aj.Qk [45] (L.drop j)=cl:=by rw[tP.o,hb]
       have sZ: ¬L.length<=j:=fun h=>aF.Jm XD (aaC h);have:=HN.o;refine⟨bj,jl.o.set bj,GF.o.wr (Wr.aD w1 1 _) br,?_,by omega,by omega,fun h=>(by rw[hb]at h;cases h)⟩;unfold aF.Yn;rw[if_pos XD];show (⟨(L.drop j).tail,x.depth⟩:aj.St)=_;rw[abU,hbj]
      subst hb;clear hbj f;go_wp2_with fail;go_meet;exact HF
     have hb':ng=ce:=by simpa using hb
     have HF:ca (∃J,bO w R (U (F ⟨g,0,Z⟩) n cap) nv vv sv x J w1/\Mt w1 w.heap.size (U (F ⟨gr,0,Z⟩) m rcap) (rs++[(lv,cs,cur)])/\aF.Yn ⟨L.drop j,x.depth⟩=⟨L.drop J,x.depth⟩/\j<=J/\J<=n/\(ng=ce->J=j)):=by refine⟨j,jl,GF,?_,aab _,nh,fun _=>rfl⟩;unfold aF.Yn;rw[if_neg (by show ¬aj.Qk [45] (L.drop j)=cl;rw[tP.o,hb'];decide)]
     subst hb';clear hb f;go_wp2_with fail;go_meet;exact HF
    case rest=>
     obtain⟨J,hW,hM,han,hjJ,hJn,hnj⟩:=hcut.o;obtain⟨wb,rfl⟩:=xq wc;have MP:=zq hW;have HMb:=zq hM;have HAN:=zq han;have HNJ:=zq hnj;obtain⟨c0,c1,-⟩:=hW.cells;have HK:=zq (Ha J c0 (hW.tks br lW) (by omega));clear hcut hW hM han hnj GF jl yT Im FQ;by_cases dA:aj.Qh 1 (L.drop J)=cl
     ·have hk:(((cK L J:Nat):Int)==1)=cl:=by
       have h9:=dA;rw[Jf (by decide)]at h9;simp at h9;simp[h9]
      go_wp2_with fail;refine HK.o.mono ?_;rintro e wk ⟨rfl,bN⟩;have iP:=zq (MP.o.below bN);have GG:=zq (HMb.o.keep bN.size fun q _ hq=>bN.block q hq);clear bN c0 c1
      obtain⟨t,ht⟩:∃t,L[J]?=F t:=by
       cases h:L[J]? with
       |some t=>exact⟨t,rfl⟩
       |none=>rw[Vo,h]at dA;cases dA
      have hJl:J<n:=by have:=(aaf.1 ht).1;rw[HN.o];exact this
      have rS:t.1=1:=by
       rw[Vo,ht]at dA
       simpa using dA
      obtain⟨n1,n2,n3,n4⟩:=fI.o t (aai ht) rS;have kx:=zq (fun w5=>W8 w5 n1 n2 n3 n4)
      have ED:aj.Qe (L.drop J)=t.2.1:=by rw[Hr ht];rfl
      obtain⟨e2,-⟩:=Nn (lW.o.low (w':=wk) fun q hq=>iP.o.1.block q (by omega) (by omega) (by simp)) ht;obtain⟨TX,DO⟩:=xq (⟨t.2.1.toArray⟩:ByteArray);rw[<-DO]at e2 kx;obtain⟨v,hv⟩:=xq (aj.Q7 t.2.1);rw[<-hv]at kx;obtain⟨J2,IK⟩:=xq (J+1)
      have hJa:((J:Nat):Int)+1=((J2:Nat):Int):=by omega
      have hJb:IntKind.i64.wrap ((J2:Nat):Int)=((J2:Nat):Int):=abh _ (by omega);have LW:=zq IK
      have afn:J2<=n:=by omega
      have yU:ca (aF.Uw fin (rs.map fun r=>r.2.2) (cur++[(ng && decide (0<v),v)]) ⟨L.drop J2,x.depth⟩ rr):=by
       have h9:=aF.Qbg uN (by rw[HAN.o];exact dA);rw[HAN.o,tP.o,ED,<-hv]at h9
       have e:(aj.St.bB ⟨L.drop J,x.depth⟩)=⟨L.drop J2,x.depth⟩:=by show (⟨(L.drop J).tail,x.depth⟩:aj.St)=_;rw[abU,IK]
       rw[e]at h9;exact h9
      obtain⟨c0,c1,f⟩:=iP.o.cells;have hRk:=iP.o.lt
      have hgk:g<wk.heap.size:=by omega
      clear dA ht rS n1 n2 n3 n4 ED DO hv IK f;go_wp2_with fail
      go_region_held3 (fun w'=>w'.cell? ⟨R,0,Z⟩=F (U (F ⟨g,0,Z⟩) n cap)/\w'.cell? ⟨R,1,Z⟩=F (A .i64 J)/\w'.cell? ⟨g,J*3+1,Z⟩=F (.string TX))
       (first
        |go_keep
        |exact⟨(bG.cell (p:=⟨R,0,Z⟩) hRk).trans c0,(bG.cell (p:=⟨R,1,Z⟩) hRk).trans c1,(bG.cell (p:=⟨g,J*3+1,Z⟩) hgk).trans e2⟩)
       ((go_at_call 87;refine(kx.o _).mono ?_;rintro e w5 ⟨v5,rfl,zO,bG⟩))
      have cS:ca (co wk.heap.size wk w5):=(below_drewN wk 1).trans bG;have Lk:=iP.o.below cS;have adY:=zq Lk;have wN:=GG.o.keep cS.o.size (fun q _ hq=>cS.o.block q hq);have ac9:=zq wN;obtain⟨o5,L5,c5,rfl,-⟩:=zO.val;have HF5:=zq zO;obtain⟨gr',rcap',lo',ZN,q1,q2,q3,q4,q5,q6,q7,q8⟩:=wN.last;simp only[Value.slice.injEq,Option.some.injEq,Addr.mk.injEq,and_true]at q1;obtain⟨rfl,-,rfl⟩:=q1;rw[wK.o]at q7;simp only[Value.slice.injEq,true_and,Option.some.injEq]at q7;obtain⟨rfl,rfl⟩:=q7
      have er:w5.cell? ⟨gr,p,Z⟩=F (U lo cs.length cq):=by rw[HP.o];exact q5
      have fr:w5.frozen? ⟨gr,p,Z⟩=ce:=by rw[HP.o];exact q6
      have xa:w5.ownsRow w.heap.size 62 2 (U lo cs.length cq) cs.length (Q9 cs):=by have:=(wN.row (lv,cs,cur) (by simp)).1;rw[wK.o]at this;exact this
      have PM:ca (∀w',co w5.heap.size w5 w'->Calls prog 188 #[.agg #[c9 ng,U o5 L5 c5]] w' fun e w6=> ∃v',e=.returned (.agg #[c9 (ng && decide (0<v)),v'])/\bI w'.heap.size w6 v' v/\co w'.heap.size w' w6):=
       fun w' h'=>Fi ng (HF5.o.1.below h')
      obtain⟨nc,bU⟩:=xq cs.length;have qz:=zq bU;rw[<-bU]at er xa
      have agE:nc<=67108864:=by omega
      have mD:F gr≠(Value.slice lo nc cq).ownBlock:=fun e=>by have h8:=wN.zg (lv,cs,cur) (by simp) gr (by rw[wK.o,<-bU];exact e.symm);exact h8 rfl
      have O8:=zq mD;have JG:=q4;have IJ:w.heap.size<=w5.heap.size:=Lk.1.size;have GU:=zq xa;obtain⟨nb,fX⟩:=xq ((ng && decide (0<v)));rw[<-fX]at PM yU
      have HNZ:ca (nb=cl->v≠0):=fun h=>by rw[h]at fX;have:=(Bool.and_eq_true_iff.1 fX.symm).2;simp at this;omega
      have qh:ca (∀(w6:World) (o6:Option Addr) (L6 c6 gg bX:Nat) (w7:World),bI w5.heap.size w6 (U o6 L6 c6) v->co w5.heap.size w5 w6->w7.ownsRow w.heap.size 62 2 (U (F ⟨gg,0,Z⟩) (nc+1) bX) (nc+1) (Q9 cs++[c9 nb,U o6 L6 c6])->(w6.alloc (O #[c9 nb,U o6 L6 c6] 62)).grownBy w7 (Value.slice lo nc cq).ownBlock->((Value.slice lo nc cq).ownBlock=F gg\/gg=w6.heap.size+1)->∃oh cs',cs'.length=cs.length+1/\Mt (w7.setCell ⟨gr,p,Z⟩ (U (F ⟨gg,0,Z⟩) (nc+1) bX)) w.heap.size (U (F ⟨gr,0,Z⟩) m rcap) (rs++[(oh,cs',cur++[(nb,v)])])/\bO w R (U (F ⟨g,0,Z⟩) n cap) nv vv sv x J (w7.setCell ⟨gr,p,Z⟩ (U (F ⟨gg,0,Z⟩) (nc+1) bX))):=by intro w6 o6 L6 c6 gg bX w7 a1 a2 a3 a4 a5;rw[qz.o]at a3 a4 a5 ⊢;rw[<-wK.o]at a4 a5;rw[HP.o];have h9:=Mt.entry ac9 adY br (gr:=gr) (rcap:=rcap) (by rw[HMP.o,HP.o]) a1 a2 a3 a4 a5;exact⟨_,_,by simp,h9.1,h9.2⟩
      clear bG zO wN Lk q2 q3 q5 q6 q8 xa bU mD c0 c1 e2 fX;go_upto_region 10 with fail;go_cut [] (fun wx=>ca (∃oh cs',cs'.length=cs.length+1/\Mt wx w.heap.size (U (F ⟨gr,0,Z⟩) m rcap) (rs++[(oh,cs',cur++[(nb,v)])])/\bO w R (U (F ⟨g,0,Z⟩) n cap) nv vv sv x J wx))
      case first=>
       go_region_law
        ((first
           |(go_simp;go_wp2_with (go_at_call 188;refine(PM.o _ ?_).mono ?_;exact below_drewN w5 1;rintro e w6 ⟨v6,rfl,hf6,eV⟩);obtain⟨o6,L6,c6,rfl,-⟩:=hf6.val;have qJ:co w5.heap.size w5 w6:=(by first|exact eV|exact(below_drewN w5 1).trans eV);have AV:=qJ.size;have er6:w6.cell? ⟨gr,p,Z⟩=F (U lo nc cq):=(qJ.cell (p:=⟨gr,p,Z⟩) JG).trans er;have XL:w6.heap.size≠gr:=(by omega);have ea6:(w6.alloc (O #[c9 nb,U o6 L6 c6] 62)).cell? ⟨gr,p,Z⟩=F (U lo nc cq):=((Qq w6 _).cell (p:=⟨gr,p,Z⟩) (by show gr<_;omega)).trans er6)
           |(refine ad6 _ (by rfl) _ _ 45 (by rfl) w.heap.size 62 i0 _ 2 32 underlying45 hi hz0 hz1 hz2 rfl (by omega) (U lo nc cq) nc (Q9 cs) (by rfl) (by exact aaU (Qy GU qJ (aab _)) _) ⟨w6.heap.size,0,Z⟩ 1 1 [c9 nb,U o6 L6 c6] (by rfl) (by rfl) (ad3 (cs:= #[c9 nb,U o6 L6 c6]) (aap _ _)) (by simp[Value.oneCell']) (by omega) (by unfold maxLen;omega) (by omega) (by simp;omega) (w6.heap.size+1) (by simp) ?_;intro gg bX w7 dK aR fB lC;have e7:w7.cell? ⟨gr,p,Z⟩=F (U lo nc cq):=(aR.cell_far ⟨gr,p,Z⟩ (by simp;omega) O8).trans (((Qq w6 _).cell (p:=⟨gr,p,Z⟩) (by show gr<_;omega)).trans ((qJ.cell (p:=⟨gr,p,Z⟩) JG).trans er));have f7:w7.frozen? ⟨gr,p,Z⟩=ce:=(aR.frozen_far ⟨gr,p,Z⟩ (by simp;omega) O8).trans (((Qq w6 _).frozen (p:=⟨gr,p,Z⟩) (by show gr<_;omega)).trans ((qJ.frozen (p:=⟨gr,p,Z⟩) JG).trans fr)))))
       all_goals
        have HF:=qh.o w6 o6 L6 c6 gg bX w7 hf6 qJ dK aR fB;clear hf6 eV qJ AV er6 XL ea6 dK aR fB lC e7 f7;go_wp2_with fail;go_meet;exact HF
      case rest=>
       obtain⟨oh,cs',hl',hM,hW⟩:=hcut.o;obtain⟨-,c1,f⟩:=hW.cells;have f1:=f 1
       have aQ:ca (MtL fin x L rr w R (U (F ⟨g,0,Z⟩) n cap) nv vv sv (U (F ⟨gr,0,Z⟩) m rcap) (wc.setCell ⟨R,1,Z⟩ (A .i64 J2))/\Xf L R (wc.setCell ⟨R,1,Z⟩ (A .i64 J2))<Xf L R wr):=by
        have hs:=hW.set J2;have h2:=LW.o;have h4:=Ib.o;refine⟨⟨J2,rs,oh,cs',cur++[(nb,v)],hM.wr (Wr.aD wc 1 _) br,hs,yU,by rw[<-HN.o];exact afn,by omega,by omega,?_,mq.o.1,fun q hq=> ?_⟩,?_⟩
        ·rw[<-aaW,aag,aaR]
         omega
        ·rcases aaP.1 hq with hq|hq
         ·exact mq.o.2 q hq
         rw[aaO.1 hq];exact HNZ.o
        rw[hs.left L,FZ.o,<-HN.o];omega
       clear hcut hM hW f er fr;go_wp2_with fail;exact aQ.o
     have JO:aj.Qh 1 (L.drop J)=ce:=by simpa using dA
     have hk:(((cK L J:Nat):Int)==1)=ce:=by have h9:=JO;rw[Jf (by decide)]at h9;simp at h9;simp;omega
     clear dA;obtain⟨gr',rcap',lo',ZN,q1,q2,q3,q4,q5,q6,q7,q8⟩:=HMb.o.last;simp only[Value.slice.injEq,Option.some.injEq,Addr.mk.injEq,and_true]at q1;obtain⟨rfl,-,rfl⟩:=q1;rw[wK.o]at q7;simp only[Value.slice.injEq,true_and,Option.some.injEq]at q7;obtain⟨rfl,rfl⟩:=q7
     have er:wb.cell? ⟨gr,p,Z⟩=F (U lo cs.length cq):=by rw[HP.o];exact q5
     have hgb:=q4;clear q2 q3 q5 q6 q8;have HNK:=zq JO;obtain⟨nc,bU⟩:=xq cs.length;have qz:=zq bU;rw[<-bU]at er;clear JO bU;by_cases hbad:ng=cl\/nc=0
     ·have oJ:ca (jb fin x=.error (aj.X6 fin (L.drop J),14)):=by
       have h9:=aF.Qby uN (by rw[HAN.o];exact HNK.o) (by
        rcases hbad with h|h
        ·left
         show aj.Qk [45] (L.drop j)=cl;rw[tP.o,h]
        right;have h1:=qz.o;have h2:=HCC.o
        exact aau (by omega))
       rw[ji.o,h9,HAN.o];rfl
      have sS:R<wb.heap.size:=MP.o.lt;by_cases hb:ng=cl
      ·subst hb
       go_wp2_with fail;refine HK.o.mono ?_;rintro e wk ⟨rfl,bN⟩;have iP:=zq (MP.o.below bN);have c1k:=iP.o.cells.2.1;clear bN c0 c1 er hbad;go_wp2_with fail;go_ret2;refine⟨iP.o.cV br,?_⟩;rw[oJ.o];exact⟨J,rfl,rfl,by decide⟩
      have fL:nc=0:=by
       rcases hbad with h|h
       ·exact absurd h hb
       exact h
      have hb':ng=ce:=by simpa using hb
      subst fL;subst hb';go_wp2_with fail;refine HK.o.mono ?_;rintro e wk ⟨rfl,bN⟩;have iP:=zq (MP.o.below bN);have c1k:=iP.o.cells.2.1;have erk:=(bN.cell (p:=⟨gr,p,Z⟩) hgb).trans er;clear bN c0 c1 er hbad hb;go_wp2_with fail;go_ret2;refine⟨iP.o.cV br,?_⟩;rw[oJ.o];exact⟨J,rfl,rfl,by decide⟩
     have hb':ng=ce:=by
      cases hx:ng with
      |false=>rfl
      |true=>exact absurd (Or.inl hx) hbad
     have fL:(((nc:Nat):Int)==0)=ce:=by
      have:nc≠0:=fun h=>hbad (Or.inr h)
      simpa using this
     have hJj:=HNJ.o hb';subst hJj;subst hb'
     have uJ:ca (cur≠[]):=fun h=>by have h1:=qz.o;have h2:=HCC.o;rw[h]at h2;exact hbad (Or.inr (by rw[h1,h2];rfl))
     obtain⟨v59,YR⟩:=xq (aj.Qk [59] (L.drop J));have y6:=zq YR;have sS:R<wb.heap.size:=MP.o.lt;clear hbad YR;go_wp2_with fail;refine HK.o.mono ?_;rintro e wk ⟨rfl,bN⟩;have iP:=zq (MP.o.below bN);have GG:=zq (HMb.o.keep bN.size fun q _ hq=>bN.block q hq);obtain⟨d0,d1,-⟩:=iP.o.cells;have erk:=(bN.cell (p:=⟨gr,p,Z⟩) hgb).trans er;have FR:=zq (Rg J [59] d0 (iP.o.tks br lW) (by omega));rw[<-y6.o]at FR;clear bN c0 c1 er;go_wp2_with fail;refine FR.o.mono ?_;rintro e wl ⟨rfl,hbl⟩;have MQ:=zq (iP.o.below hbl);have HMl:=zq (GG.o.keep hbl.size fun q _ hq=>hbl.block q hq);clear hbl d0 d1 erk FR;obtain⟨J2,IK⟩:=xq (J+1)
     have hJa:((J:Nat):Int)+1=((J2:Nat):Int):=by omega
     have hJb:IntKind.i64.wrap ((J2:Nat):Int)=((J2:Nat):Int):=abh _ (by omega);have LW:=zq IK;have hRL:=MQ.o.lt;have hzl:w.heap.size<=wl.heap.size:=MQ.o.1.size
     have uy:ca (aj.St.bB ⟨L.drop J,x.depth⟩=⟨L.drop J2,x.depth⟩):=by show (⟨(L.drop J).tail,x.depth⟩:aj.St)=_;rw[abU,IK]
     clear IK;by_cases h59:v59=cl
     ·have FT:ca (J2<=n):=by
       have h9:aj.Qk [59] (L.drop J)=cl:=by rw[<-y6.o,h59]
       have sZ: ¬L.length<=J:=fun h=>aF.Jm h9 (aaC h);have:=HN.o;have:=LW.o;show J2<=n;omega
      have yU:ca (aF.Uw fin (rs.map (fun r=>r.2.2)++[cur]) [] ⟨L.drop J2,x.depth⟩ rr):=by have h9:=aF.Qgc uN tP HNK uJ (by show aj.Qk [59] (L.drop J)=cl;rw[<-y6.o,h59]);rw[uy.o]at h9;exact h9
      have HOWN:ca (((wl.alloc (O #[] 62)).alloc (O #[U (F ⟨wl.heap.size,0,Z⟩) 0 0] 45)).ownsRow w.heap.size 45 1 (U (F ⟨gr,0,Z⟩) m rcap) m ((rs++[(lv,cs,cur)]).map Prod.fst)):=by
       have h9:=(HMl.o.own.alloc (O #[] 62)).alloc (O #[U (F ⟨wl.heap.size,0,Z⟩) 0 0] 45)
       have hl:(rs++[(lv,cs,cur)]).length=m:=by rw[HMP.o,HP.o];simp
       rw[hl]at h9;exact h9
      subst h59;go_wp2_with (at_builtin;refine abk _ rfl _ _ 37 rfl w.heap.size 45 j0 _ 1 24 underlying37 hj ja tz mf rfl (by omega) (U (F ⟨gr,0,Z⟩) m rcap) m ((rs++[(lv,cs,cur)]).map Prod.fst) rfl HOWN.o ⟨wl.heap.size+1,0,Z⟩ 1 1 [U (F ⟨wl.heap.size,0,Z⟩) 0 0] rfl rfl (ad3 (cs:= #[U (F ⟨wl.heap.size,0,Z⟩) 0 0]) (by have:=aap (wl.alloc (O #[] 62)) (O #[U (F ⟨wl.heap.size,0,Z⟩) 0 0] 45);simpa using this)) (by simp[Value.oneCell']) (by omega) (by unfold maxLen;omega) (by omega) (by simp;omega) (wl.heap.size+2) (by simp) ?_);intro gg bX w7 dK aR fB lC
      have hM7:Mt w7 w.heap.size (U (F ⟨gg,0,Z⟩) (m+1) bX) ((rs++[(lv,cs,cur)])++[(U (F ⟨wl.heap.size,0,Z⟩) 0 0,[],[])]):=by
       have hl:(rs++[(lv,cs,cur)]).length=m:=by rw[HMP.o,HP.o];simp
       have h9:=HMl.o.more hzl (gg:=gg) (cap:=bX) (by rw[hl];have h8:=dK;simpa using h8) aR fB;rw[hl]at h9;exact h9
      have hW7:=bO.more HMl MQ br aR;have HM7:=zq hM7;have oP:=zq hW7;obtain⟨-,c1,f⟩:=hW7.cells;have f1:=f 1
      have aQ:ca (MtL fin x L rr w R (U (F ⟨g,0,Z⟩) n cap) nv vv sv (U (F ⟨gg,0,Z⟩) (m+1) bX) (w7.setCell ⟨R,1,Z⟩ (A .i64 J2))/\Xf L R (w7.setCell ⟨R,1,Z⟩ (A .i64 J2))<Xf L R wr):=by
       have hs:=oP.o.set J2;have h2:=LW.o;have h3:=FT.o;have h4:=Ib.o;have h5:=HMP.o;have h6:=HP.o;refine⟨⟨J2,rs++[(lv,cs,cur)],_,[],[],HM7.o.wr (Wr.aD w7 1 _) br,hs,?_,by rw[<-HN.o];exact h3,by simp;omega,aat _,?_,?_⟩,?_⟩
       ·rw[abl];exact yU.o
       ·rw[abl,List.flatten_append,abt]
        simp only[abq,abX,adS,List.flatten_nil,abt];omega
       ·refine⟨fun r hr=> ?_,fun q hq=>by cases hq⟩
        rcases aaP.1 hr with hr|hr
        ·exact mq.o.1 r hr
        rw[aaO.1 hr];exact⟨uJ,mq.o.2⟩
       rw[hs.left L,FZ.o,<-HN.o];omega
      clear dK aR fB lC hM7 hW7 f;go_wp2_with fail;exact aQ.o
     have TP:v59=ce:=by simpa using h59
     obtain⟨v93,YS⟩:=xq (aj.Qk [93] (L.drop J));have y7:=zq YS
     have H59:ca (aj.Qk [59] (L.drop J)=ce):=by rw[<-y6.o];exact TP
     subst TP;obtain⟨d0,d1,-⟩:=MQ.o.cells;have PD:=zq (Rg J [93] d0 (MQ.o.tks br lW) (by omega));rw[<-y7.o]at PD;clear h59 YS;go_wp2_with fail;refine PD.o.mono ?_;rintro e wm ⟨rfl,lp⟩;have HWm:=zq (MQ.o.below lp);have HMm:=zq (HMl.o.keep lp.size fun q _ hq=>lp.block q hq);obtain⟨-,c1,f⟩:=HWm.o.cells;have f1:=f 1;clear lp d0 d1 f;by_cases jT:v93=cl
     ·have FT:ca (J2<=n):=by
       have h9:aj.Qk [93] (L.drop J)=cl:=by rw[<-y7.o,jT]
       have sZ: ¬L.length<=J:=fun h=>aF.Jm h9 (aaC h);have:=HN.o;have:=LW.o;show J2<=n;omega
      have HE:ca (MtE x L rr w R (U (F ⟨g,0,Z⟩) n cap) nv vv sv (U (F ⟨gr,0,Z⟩) m rcap) (wm.setCell ⟨R,1,Z⟩ (A .i64 J2))):=by
       have h9:=aF.Qbp uN tP HNK uJ (by show aj.Qk [93] (L.drop J)=cl;rw[<-y7.o,jT]);rw[uy.o]at h9;have h2:=LW.o;have h4:=Ib.o;refine⟨J2,rs++[(lv,cs,cur)],x.depth,HMm.o.wr (Wr.aD wm 1 _) br,HWm.o.set J2,?_,by rw[<-HN.o];exact FT.o,by simp,by simp;omega,?_,?_⟩
       ·rw[abl];exact h9
       ·rw[abl,List.flatten_append]
        simp only[abq,abX,adS,List.flatten_nil,abt];omega
       refine⟨fun r hr=> ?_,fun q hq=>by cases hq⟩;rcases aaP.1 hr with hr|hr
       ·exact mq.o.1 r hr
       rw[aaO.1 hr];exact⟨uJ,mq.o.2⟩
      subst jT;go_wp2_with fail;go_meet;exact HE
     have TQ:v93=ce:=by simpa using jT
     have oJ:ca (jb fin x=.error (aj.X6 fin (L.drop J),14)):=by have h9:=aF.Qgd uN tP HNK uJ (by show aj.Qk [93] (L.drop J)=ce;rw[<-y7.o,TQ]) H59;rw[ji.o,h9];rfl
     subst TQ;clear jT;go_wp2_with fail;go_ret2;refine⟨HWm.o.cV br,?_⟩;rw[oJ.o];exact⟨J,rfl,rfl,by decide⟩
  case rest=>
   obtain⟨j1,rs,dd,hM,hW,xb,wG,hne,lG,AK,wZ⟩:=hcut.o;obtain⟨we,rfl⟩:=xq wc;obtain⟨m,hm⟩:=xq rs.length;have ct:=zq hm;have gY:=HN.o
   have cD:1<=m:=by
    cases rs with
    |nil=>exact absurd rfl hne
    |cons a l=>rw[hm];simp
   obtain⟨k0,cZ⟩:∃k0,∃r0 rs',rs=r0::rs'/\r0.2.2.length=k0:=by
    cases rs with
    |nil=>exact absurd rfl hne
    |cons a l=>exact⟨_,a,l,rfl,rfl⟩
   have H0:=zq cZ
   have MI:ca (∃r0:cH,rs[0]?=F r0/\r0.2.2.length=k0):=by obtain⟨r0,rs',e,e2⟩:=cZ;exact⟨r0,by rw[e];rfl,e2⟩
   have mq:=zq wZ
   have zY:m<=67108864:=by rw[hm];omega
   have rT:(rs.map fun r=>r.2.2).flatten.length<=67108864:=by omega
   have Ia:=zq rT;obtain⟨ao,rcap,EN,a1,a2,a3⟩:=Qj hM.own;obtain⟨gr,rfl,b1,b2,-⟩:=a3 (by rw[<-hm];omega);rw[<-hm]at EN;subst EN;have HM:=zq hM;have HW:=zq hW
   have dW:ca (jb fin x=mI (aj.X6 fin (L.drop a0)) x (.ok (((rs.map fun r=>r.2.2).flatten,(rs.map fun r=>r.2.2).map List.length),⟨L.drop j1,dd⟩))):=by rw[ji.o,xb];exact zq rfl
   have nH:ca (∀wr,co we.heap.size we wr-> ∀j r,rs[j]?=F r-> ∃g cq,wr.cell? ⟨gr,j,Z⟩=F (U (F ⟨g,0,Z⟩) r.2.2.length cq)/\g<wr.heap.size/\gr<wr.heap.size/\r.2.1.length=r.2.2.length/\(∀i u,(Q9 r.2.1)[i]?=F u->wr.cell? ⟨g,i,Z⟩=F u)/\ ∀u∈Q9 r.2.1,u.oneCell'=cl):=
    fun wr hb j r hj=>(HM.o.keep hb.size fun q _ hq=>hb.block q hq).at rfl hj (mq.o.1 r (aai hj)).1
   have HLEN:ca (∀j,((rs.take j).flatMap fun r=>r.2.1).length<=67108864):=fun j=>aar (Qzp rs (fun r hr=>(HM.o.row r hr).2.1) j) Ia
   have iF:ca (Oy we rs k0 (U (F ⟨we.heap.size,0,Z⟩) 0 0) (A .i64 0) (we.alloc (O #[] 62))):=
    ⟨0,rfl,aat _,Qq we _,ab3 (base:=we.heap.size) (e:=62) (size:=2) we #[] 0 (aab _) (by unfold maxLen;omega) rfl,fun r hr=>(by simp at hr)⟩
   have Lp:w.heap.size<=we.heap.size:=hW.1.size
   have af7:j1<=n:=by rw[gY];exact wG
   clear hcut hM hW xb wG hne lG AK wZ a1 a2 a3 b1 hm cZ gY rT;go_wp2_with fail;go_loopw [11,12] (fun av jv wr=>Oy we rs k0 av jv wr) (fun _ jv _=>(m-intOf jv).toNat)
   case atStart=>exact iF.o
   case round=>
    obtain⟨j,rfl,hjm,hbl,hown,hall⟩:=hrel;rw[<-ct.o]at hjm;have aL:=zq hbl;have cM:=zq hall;have fX:=HLEN.o j;obtain⟨pre,KM⟩:=xq ((rs.take j).flatMap fun r=>r.2.1);have GL:=zq KM;rw[<-KM]at hown fX;obtain⟨bo,ez,DT,-,-,-⟩:=Qj hown;obtain⟨nA,hnA⟩:=xq pre.length;have PV:=zq hnA;rw[<-hnA]at hown DT fX;subst DT;have HOWN:=zq hown;have rX:we.heap.size<=wr.heap.size:=hbl.size;clear hbl hown hall KM hnA;by_cases hlt:j<m
    ·obtain⟨r,hr⟩:∃r,rs[j]?=F r:=⟨_,aad (by rw[<-ct.o];exact hlt)⟩
     obtain⟨r0,nY,wY⟩:=MI.o;obtain⟨g1,lc1,e1,hg1,af0,nj,nQ,wU⟩:=nH.o wr aL j r hr;obtain⟨g2,lc2,e2,-,-,-,-,-⟩:=nH.o wr aL 0 r0 nY;rw[wY]at e2;obtain⟨q,hq⟩:=xq r.2.2.length;have HQ:=zq hq;have qw:=zq nj;have HCE:=zq nQ;have HON:=zq wU;have HR:=zq hr
     have YA:0<q:=by
      have:=(mq.o.1 r (aai hr)).1;rw[hq]
      cases h:r.2.2 with
      |nil=>exact absurd h this
      |cons a l=>simp
     have qQ:ca (nA+q<=67108864):=by have h9:=HLEN.o (j+1);rw[Du rs hr,<-GL.o,aag,<-PV.o,nj,<-hq]at h9;exact h9
     rw[<-hq]at e1
     have yf:(0:Int)<=((j:Nat):Int):=by omega
     have aif:((j:Nat):Int)<((m:Nat):Int):=by omega
     have nk:(0:Int)<((m:Nat):Int):=by omega
     clear hr nY wY hq nj nQ wU;by_cases hqk:q=k0
     ·subst hqk
      go_wp2_with fail;go_quiet (fail);obtain⟨wq,ma⟩:=xq (wr.drewN nq)
      have qb:co wr.heap.size wr wq:=by rw[ma];exact below_drewN wr nq
      rw[<-ma];have FD:=zq (Qv aL qb);have e1q:=(qb.cell (p:=⟨gr,j,Z⟩) af0).trans e1;have CQ:ca (wq.ownsRow we.heap.size 62 2 (U bo nA ez) nA (Q9 pre)):=Qy HOWN qb (aab _)
      have acy:ca (∀i u,(Q9 r.2.1)[i]?=F u->wq.cell? ((⟨g1,0,Z⟩:Addr).add i)=F u):=fun i u hu=>by
       have ea:(⟨g1,0,Z⟩:Addr).add i=⟨g1,i,Z⟩:=by unfold Addr.add;split<;>simp_all
       rw[ea];exact(qb.cell (p:=⟨g1,i,Z⟩) hg1).trans (HCE.o i u hu)
      have aiI:=qQ.o;have hzq:we.heap.size<=wq.heap.size:=aar rX qb.size
      have HLR:ca ((Q9 r.2.1).length=q*2):=by show (Q9 r.2.1).length=q*2;rw[Fx,qw.o,HQ.o]
      clear ma qb e1 e2;go_wp2_with (at_builtin;refine abk _ rfl _ _ 45 rfl we.heap.size 62 i0 _ 2 32 underlying45 hi hz0 hz1 hz2 rfl (by omega) (U bo nA ez) nA (Q9 pre) rfl CQ.o ⟨g1,0,Z⟩ q lc1 (Q9 r.2.1) rfl HLR.o acy.o HON.o YA (by unfold maxLen;omega) (by omega) hzq wq.heap.size rfl ?_);intro gg bX w7 dK aR fB lC
      have HF:ca (Oy we rs q (U (F ⟨gg,0,Z⟩) (nA+q) bX) (A .i64 ((j+1:Nat):Nat)) w7):=by
       have hlt':j<rs.length:=by rw[<-ct.o];exact hlt
       refine⟨j+1,rfl,hlt',aaF FD aR hzq (fun k hk=>(CQ.o.lt k hk).1),?_,fun r' hr'=> ?_⟩
       ·rw[Du rs HR.o,<-GL.o,Rt,aag,<-PV.o,qw.o,<-HQ.o]
        exact dK
       rw[aaI,HR.o]at hr';rcases aaP.1 hr' with hr'|hr'
       ·exact cM.o r' hr'
       have:r'=r:=by simpa using hr'
       rw[this,<-HQ.o]
      clear dK aR fB lC;go_wp2_with fail
      exact⟨HF,by simp[intOf]<;>omega⟩
     have z7:(((q:Nat):Int) !=((k0:Nat):Int))=cl:=by
      have h9: ¬((q:Nat):Int)=((k0:Nat):Int):=by omega
      simpa using h9
     have oJ:ca (jb fin x=.error (aj.X6 fin (L.drop a0),2)):=by rw[dW.o];exact Qmz H0 (aai HR) (by rw[<-HQ.o];exact hqk)
     clear hqk;go_wp2_with fail;go_quiet (fail);obtain⟨wq,ma⟩:=xq (wr.drewN nq)
     have qb:co wr.heap.size wr wq:=by rw[ma];exact below_drewN wr nq
     rw[<-ma];have FM:ca (co R w wq):=(HW.o.cV br).trans ((Qv aL qb).mono (aar (aa1 br) Lp));clear ma qb e1 e2;go_wp2_with fail;go_ret2;refine⟨FM,?_⟩;rw[oJ.o];exact⟨a0,rfl,rfl,by decide⟩
    have jo:j=m:=by omega
    subst jo
    have uz:ca (∀r∈rs,r.2.2.length=k0):=by have h9:=cM.o;rw[ct.o,aby]at h9;exact h9
    have QM:ca (pre=rs.flatMap fun r=>r.2.1):=by have h9:=GL.o;rw[ct.o,aby]at h9;exact h9
    obtain⟨r0,nY,wY⟩:=MI.o;obtain⟨g2,lc2,e2,-,-,-,-,-⟩:=nH.o wr aL 0 r0 nY;rw[wY]at e2
    have nk:(0:Int)<((j:Nat):Int):=by omega
    have FM:ca (co R w wr):=(HW.o.cV br).trans (aL.o.mono (aar (aa1 br) Lp));clear nY wY hlt cM;by_cases cN:64<j\/64<k0
    ·have oJ:ca (jb fin x=.error (aj.X6 fin (L.drop a0),5)):=by
      rw[dW.o];exact Qmx H0 uz (by rw[<-ct.o];exact cN)
     by_cases hb1:64<j
     ·clear cN
      go_wp2_with fail;go_ret2;refine⟨FM,?_⟩;rw[oJ.o];exact⟨a0,rfl,rfl,by decide⟩
     have hb2:64<k0:=by
      rcases cN with h|h
      ·exact absurd h hb1
      exact h
     clear cN;go_wp2_with fail;go_ret2;refine⟨FM,?_⟩;rw[oJ.o];exact⟨a0,rfl,rfl,by decide⟩
    have WO:j<=64:=by omega
    have JM:k0<=64:=by omega
    have hnj: ¬64<j:=by omega
    have hnk: ¬64<k0:=by omega
    obtain⟨l,hl⟩:=xq (rs.flatMap fun r=>r.2.2)
    have oJ:ca (jb fin x=aF.has x (.mat ⟨j,k0,l⟩) (L.drop j1)):=by rw[dW.o,hl];have h9:=Qbe (col:=aj.X6 fin (L.drop a0)) (x:=x) (d:=dd) (ts:=L.drop j1) H0 uz (by rw[<-ct.o];exact WO) JM;rw[<-ct.o]at h9;exact h9
    have NY:Yh w.heap.size wr pre l:=by rw[QM.o,hl];exact D9 rs fun r hr=>((HM.o.keep aL.o.size fun q _ hq=>aL.o.block q hq).row r hr).2
    have wF:DD wr (U bo nA ez) l:=by refine NY.ird (Zv ?_ Lp fun q hq=>rfl);rw[<-PV.o];exact HOWN.o
    have fV:l.length=j*k0:=by rw[hl,Qzw rs k0 uz.o,<-ct.o]
    have yT:=zq (Hq j k0 wF WO JM fV)
    have lA:=Dl ⟨j,k0,l⟩ (fun p hp=>by
     have hp':p∈l:=hp;rw[hl]at hp';obtain⟨r,hr,hp'⟩:=aep.1 hp'
     exact(mq.o.1 r hr).2 p hp')
    simp only at lA;rw[lA]at yT
    have IQ:fP wr R tv L j1 x:=by rw[tU.o,<-HN.o];exact(HW.o.below aL).wri yR HM2
    have ad0:=zq IQ
    have qq:ca (∀eU,co wr.heap.size wr eU->Calls prog 148 #[.pointer (F ⟨R,0,Z⟩),A .i64 3,.string ⟨(aj.fj ⟨j,k0,l⟩).toArray⟩] eU fun e' w'=>e'=.returned (.tuple #[])/\co R eU w'/\fP w' R tv L j1 {x with ts:=L.drop j1,vals:=.mat ⟨j,k0,l⟩::x.vals,want:=ce,pw:=ce}):=
     fun eU h10=>As (ad0.o.below h10) (Qhh ⟨j,k0,l⟩) dy (by decide) (L.drop j1)
    have hR9:=IQ.lt;clear cN hl NY wF fV lA IQ;go_wp2_with fail;refine yT.o.mono ?_;rintro e eU ⟨rfl,dw⟩;have HH:=zq (qq.o eU dw);have mn:ca (co R w eU):=FM.o.trans (dw.mono (aa1 hR9));clear dw e2;go_wp2_with fail;refine HH.o.mono ?_;rintro e rj ⟨rfl,pc,xp⟩;have j4:=zq (mn.o.trans pc);have Il:=zq xp;clear pc xp;go_wp2_with fail;go_ret2;refine⟨j4,?_⟩;rw[oJ.o];exact⟨rfl,j1,Il,rfl,by rw[<-HN.o];exact af7⟩
end Go.Proofs.YtgfmiladfeoldaaGreatDoor
