import Derived.Test.YtgfmiladfeoldaaGreatDoorPk3
set_option linter.unusedSimpArgs false
set_option linter.unusedVariables false
set_option maxRecDepth 100000
set_option maxHeartbeats 16000000
namespace Go.Proofs.YtgfmiladfeoldaaGreatDoor
open Go.RowKit ai
def Qpr (a b m n:Nat)(w:World)(e:Ending)(w':World):Prop:=∃v u qs rs,e=.returned (.tuple #[v,u])/\Fr w.heap.size w' v qs/\val qs=a / b/\qs.length<=m/\Qw qs=qs/\Fr w.heap.size w' u rs/\val rs=a % b/\rs.length<=n/\Qw rs=rs/\Below w.heap.size w w'
def RN (L V:List Nat)(n nz gv gu gz:Nat)(w:World)(i:Value)(wr:World):Prop:=∃(k:Nat) (M Q:List Nat),k<=nz/\i=.int .i64 ((k:Int)-1)/\Q.length=nz/\gU L V n k M Q/\ba wr gv V/\ba wr gu M/\ba wr gz Q/\Below w.heap.size w wr
theorem Qpx {ys:List Nat}{n top s:Nat}(aZ:ok ys)(hl:ys.length=n+1)(ht:ys[n]?=some top)(h1:9223372036854775808<=top*2^s)(h2:top*2^s<18446744073709551616)(hs:s<=63):val ys*2^s<BB^(n+1)/\9223372036854775808*BB^n<=val ys*2^s:=by
 have e:=Xp ys n (by omega);rw[W6 ht,aaR (by omega)]at e;have e0:val ([]:List Nat)=0:=rfl;rw[e0,aec,adt]at e;have h:=Yy (Zl aZ n);rw[aak,abd (by omega)]at h;have J:0<2^s:=adZ (by omega);constructor
 ·have I:BB=2^(64-s)*2^s:=by rw[<-ad3,show 64-s+s=64 from by omega];rfl
  have K:top<2^(64-s):=by
   have E:top*2^s<2^(64-s)*2^s:=by rw[<-I];exact h2
   exact Nat.lt_of_mul_lt_mul_right E
  have O:val ys<BB^n*2^(64-s):=by have:=adI (BB^n) K;rw[Nat.mul_succ]at this;omega
  have H:=Nat.mul_lt_mul_of_pos_right O J;rw[abF,<-I]at H;rw[ady];exact H
 rw[e,ab5,abF,aaW _ (BB^n)];have:=adI (BB^n) h1;omega
theorem Qhc {V:List Nat}{n v1:Nat}(aZ:ok V)(hl:V.length=n+1)(ht:V[n]?=some v1)(h:9223372036854775808*BB^n<=val V):9223372036854775808<=v1:=by have e:=Xp V n (by omega);rw[W6 ht,aaR (by omega)]at e;have e0:val ([]:List Nat)=0:=rfl;rw[e0,aec,adt]at e;have E:=Yy (Zl aZ n);rw[aak,abd (by omega)]at E;refine aeV fun hlt=> ?_;have:=adI (BB^n) hlt;rw[Nat.mul_succ]at this;rw[aaW]at h;omega
theorem Qg4 (v u:Value)(xs ys:List Nat)(p:Nat)(w:World)(hv:Rd w v xs)(hu:Rd w u ys)(Ic:ys.length=p+2)(zg:Qw ys=ys)(hlx:ys.length<=xs.length)(hl:xs.length<=274877906944):Calls Tryz.prog 256 #[v,u] w (Qpr (val xs) (val ys) (xs.length-ys.length+1) ys.length w):=by
 have HV:=zq hv;have HU:=zq hu;obtain⟨ao,cap,rfl,bq,hcm,aZ,-⟩:=hv.2;obtain⟨bo,fz,rfl,qB,qp,ej,mY⟩:=hu.2;have dt:=zq aZ;have iG:=zq ej;obtain⟨top,fN,OA⟩:=Vb ys (p+1) (by rw[zg,Ic]);rw[zg]at fN;have qH:=ej top (aah fN);obtain⟨g2,o2,rfl,e1⟩:=mY (p+1) top fN;obtain⟨nb,fj,acZ,ac0,lI,ik⟩:=Ko top (by omega) qH;obtain⟨s,hs⟩:=xq (64-nb);rw[<-hs]at lI ik
 have xw:s<=63:=by omega
 obtain⟨n,hn⟩:=xq ys.length;obtain⟨m,hm⟩:=xq xs.length;obtain⟨nz,hnq⟩:=xq (m-n+1);obtain⟨mu,CW⟩:=xq (m+1)
 have tT:n=p+2:=by omega
 have NR:n<=m:=by omega
 have jW:m<=274877906944:=by omega
 have F0:(ys.length:Int)=(n:Int):=by omega
 have F0x:(xs.length:Int)=(m:Int):=by omega
 have F1:(64-(nb:Int))=(s:Int):=by omega
 have F1b:IntKind.u64.wrap (s:Int)=(s:Int):=Wq _ (by omega)
 have F2:((n:Int)-1).toNat=p+1:=by omega
 have F3:(m:Int)-(n:Int)=(nz:Int)-1:=by omega
 have F4:(m:Int)+1=(mu:Int):=by omega
 have acT:mu<=274877906945:=by omega
 obtain⟨st1,PC⟩:=Qpx ej Ic fN lI ik xw
 have WX:Hid (val ys*2^s<BB^n):=by show _<_;rw[tT];exact st1
 have ee:Hid (9223372036854775808*BB^(p+1)<=val ys*2^s):=PC
 have zf:val xs*2^s<BB^(m+1):=by
  have a:=Yy aZ;rw[<-hm]at a
  have b:2^s<BB:=by have:2^s<=2^63:=adE (by omega) xw;unfold BB;omega
  rw[ady];exact Nat.mul_lt_mul'' a b
 have HXF:=zq zf;have HS:=zq hs;have HN:=zq hn;have HM:=zq hm;have IV:=zq fj;have AG:=zq qH;have HYL:=zq Ic;have FA:=zq hnq;have HHL:=zq hl;have I0:=zq tT;have IQ:=zq CW
 have jE:1<=n:=by omega
 have dc:(0:Int)<=(n:Int)-1:=by omega
 have jV:(n:Int)-1<(n:Int):=by omega
 have oh:=Zk nz (by omega);clear hv hu aZ ej hcm qp mY fN OA qH fj lI ik hs Ic zg hlx hl zf st1 PC hn hm hnq tT CW;go_enter Tryz.func256,Tryz.ntmps256;go_wp2_with fail;refine(Tryz.bits_LeadingZeros64 (top:Int) _ (by omega) (by have:=AG.o;unfold BB at this;omega)).mono ?_;rintro e w1 ⟨rfl,rfl⟩;rw[ae2,IV.o];go_wp2_with fail;refine(Po _ ys s n _ HU.o (by omega) (by omega) (by have:=HN.o;omega) WX.o).mono ?_;rintro e w2 ⟨V,rfl,ki,LR,hVv,hb2⟩;obtain⟨gv,hgv⟩:=xq w1.heap.size;rw[<-hgv]at ki ⊢;have acP:gv<w2.heap.size:=ki.lt
 have acE:w1.heap.size<=gv:=by omega
 have HGV:=zq hgv;clear hgv;go_wp2_with fail;refine(Po _ xs s mu _ (HV.o.below hb2) (by omega) (by omega) (by have:=HM.o;have:=IQ.o;omega) (by rw[IQ.o];exact HXF.o)).mono ?_;rintro e w3 ⟨L,rfl,kj,rb,hLv,hb3⟩;obtain⟨gu,hgu⟩:=xq w2.heap.size;rw[<-hgu]at kj ⊢
 have acQ:gv<gu:=by omega
 have MN:w1.heap.size<=gu:=by have:=hb2.size;omega
 have acN:gu<w3.heap.size:=kj.lt;have QE:=zq hgu;clear hgu;obtain⟨gz,MO⟩:=xq w3.heap.size
 have acO:gu<gz:=by omega
 have bS:Hid (Below w1.heap.size w1 w3):=hb2.trans (hb3.mono hb2.size);have hz1:=bS.o.size;have Iu:Hid (ba w3 gv V):=ki.below hb3 ki.lt;have Iq:=zq kj;have HGZ:=zq MO;have ld:=zq LR;have JU:=zq hVv;have mh:=zq rb;have VO:=zq hLv
 have MP:w1.heap.size<=gz:=by omega
 clear ki LR hVv hb2 kj rb hLv hb3 MO;go_wp2_with fail;rw[<-HGZ.o];obtain⟨w4,hw4⟩:=xq (w3.alloc (.cells (madeCells #[.int .u64 0] nz) 101));have ha:=Qq w3 (.cells (madeCells #[.int .u64 0] nz) 101);rw[<-hw4]at ha
 have bG:Hid (RN L V n nz gv gu gz w1 (.int .i64 ((nz:Int)-1)) w4):=by
  refine⟨nz,L,List.replicate nz 0,aaa _,rfl,aa9,?_,Iu.o.below ha Iu.o.lt,Iq.o.below ha Iq.o.lt,?_,bS.o.trans (ha.mono hz1)⟩
  ·have hk:nz+n=m+1:=by have:=FA.o;omega
   have CW:=IQ.o;refine gU.start (by rw[mh.o,CW];omega) ?_ (by rw[aa9];exact aaa _);have hx:=Yy dt.o;rw[<-HM.o]at hx
   have hS:2^s<=9223372036854775808:=by have:2^s<=2^63:=adE (by omega) xw;exact this
   exact Qc1 (n:=n) VO.o hx (mh.o.trans CW) hk JU.o hS jE (by rw[show n-1=p+1 from by have:=I0.o;omega,JU.o];exact ee.o)
  rw[hw4,HGZ.o];exact ba.made w3 nz
 rw[<-hw4];clear hw4 ha;have QC:=zq F2;have kF:=zq F3;have vN:=zq F1;clear F2 F1 F3 F4 e1;go_loopw [11] (fun i wr=>RN L V n nz gv gu gz w1 i wr) (fun i _=>(intOf i+1).toNat)
 case atStart=>exact bG.o
 clear bG
 case round=>
  obtain⟨k,M,Q,hk,rfl,hQl,hst,hBV,hBU,hBQ,hbl⟩:=hrel;have HST:=zq hst;have qP:=zq hBV;have uK:=zq hBU;have j6:=zq hBQ;have aP:=zq hbl;have r6:=zq hQl
  have ct:M.length=mu:=by rw[hst.len,mh.o]
  have dV:=zq ct;clear hst hBV hBU hBQ hbl hQl ct
  cases k with
  |zero=>
   have tA: ¬((0:Int)<=((0:Nat):Int)-1):=by omega
   obtain⟨r1,r2⟩:=HST.o.fin
   have hnz:nz<=1099511627776:=by have:=FA.o;omega
   have hS:0<2^s:=adZ (by omega);obtain⟨b1,b2⟩:=Fe (N:=val xs) (y:=val ys) hS
   have HQV:Hid (val Q=val xs / val ys):=by show _=_;rw[r1,VO.o,JU.o,<-b1]
   have QO:Hid (val (M.take n) / 2^s=val xs % val ys):=by show _=_;rw[r2,VO.o,JU.o,<-b2]
   have xp:n<=mu:=by have:=IQ.o;omega
   have hRM:=(uK.o.whole (by rw[dV.o];omega));rw[dV.o]at hRM;have HRM:=zq (hRM.take (n:=n) (c:=mu) (by rw[dV.o];exact xp) xp (aaa _));have hRQ:=(j6.o.whole (by rw[r6.o];omega));rw[r6.o]at hRQ;have HRQ:=zq hRQ;clear r1 r2 b1 b2 hS hRM hRQ;have i0:(0:Int)<=(n:Int):=abP _
   have i1:(n:Int)<=(mu:Int):=by omega
   go_wp2_with fail;refine(Qfl _ (M.take n) s _ HRM.o (by omega) (by rw[aak,dV.o];omega)).mono ?_;rintro e w5 ⟨rv,rs,rfl,q1,q2,q3,q4,q5⟩;have nX:Hid (Below w1.heap.size w1 w5):=aP.o.trans (q5.mono aP.o.size);have TJ:=aP.o.size;have Ie:=nX.o.size;have WR:=zq (HRQ.o.below q5);have Q1:=zq q1
   have Q2:Hid (val rs=val xs % val ys):=by show _=_;rw[q2,QO.o]
   have Q3:Hid (rs.length<=ys.length):=by show _<=_;rw[aak]at q3;have:=HN.o;omega
   have Q4:=zq q4;clear q1 q2 q3 q4 q5;go_wp2_with fail;refine(Jt _ Q _ WR.o (by rw[r6.o];omega)).mono ?_;rintro e w6 ⟨qv,rfl,p1,p2⟩;have P1:=zq p1;have P2:=zq p2;clear p1 p2;go_wp2_with fail;go_ret2;have hsq:=Qu Q;have hQl:=r6.o
   refine⟨_,_,Qw Q,rs,rfl,P1.o.mono Ie,by rw[Qn,HQV.o],by have:=FA.o;have:=HM.o;have:=HN.o;omega,Yo Q,(Q1.o.mono TJ).below P2.o,Q2.o,Q3.o,Q4.o,nX.o.trans (P2.o.mono Ie)⟩
  |succ k=>
   have fg:(((k+1:Nat):Int)-1)=(k:Int):=by omega
   rw[fg];clear fg
   have bh:k+n<=m:=by have:=FA.o;omega
   have tT:=I0.o;have LS:=ld.o;have LH:=dV.o;have CW:=IQ.o;obtain⟨z,hz⟩:∃z,M[k]?=some z:=⟨_,aad (by omega)⟩;obtain⟨u2,h2⟩:∃u2,M[k+p+2]?=some u2:=⟨_,aad (by omega)⟩;obtain⟨u1,h1⟩:∃u1,M[k+p+1]?=some u1:=⟨_,aad (by omega)⟩;obtain⟨u0,h0⟩:∃u0,M[k+p]?=some u0:=⟨_,aad (by omega)⟩;obtain⟨v1,k1⟩:∃v1,V[p+1]?=some v1:=⟨_,aad (by omega)⟩;obtain⟨v0,k0⟩:∃v0,V[p]?=some v0:=⟨_,aad (by omega)⟩;have abE:=uK.o.2 u2 (aah h2);have nj:=uK.o.2 u1 (aah h1);have qJ:=uK.o.2 u0 (aah h0);have eG:=qP.o.2 v1 (aah k1);have oU:=qP.o.2 v0 (aah k0);have DT:=Qhc qP.o.2 (by omega) k1 (by rw[JU.o];exact ee.o)
   have hst':gU L V (p+2) (k+1) M Q:=by have:=HST.o;rw[tT]at this;exact this
   obtain⟨G1,G2,G3,G4⟩:=Qg2 hst' uK.o.2 qP.o.2 (by omega) (by omega) hz h2 h1 h0 k1 k0 (by omega);obtain⟨d,hd⟩:=xq (gq ((u2*BB+u1)*BB+u0) (v1*BB+v0))
   have oK:d<BB:=by rw[hd];exact adH (Nat.min_le_left _ _) (Nat.sub_lt Xs Nat.one_pos)
   rw[<-hd]at G3 G4;obtain⟨U,hU⟩:=xq (val (mid M k (n+1)))
   have hU':val (mid M k (p+3))=U:=by rw[hU,tT]
   rw[hU']at G1 G3 G4;obtain⟨a2,ha2⟩:=xq (k+n);obtain⟨a1,ha1⟩:=xq (k+p+1);obtain⟨a0,ha0⟩:=xq (k+p);obtain⟨n1,NU⟩:=xq (p+1)
   have S1:IntKind.i64.wrap ((k:Int)+(n:Int))=(a2:Int):=by rw[abL _ (by omega)];omega
   have S1':(k:Int)+(n:Int)=(a2:Int):=by omega
   have S0:IntKind.i64.wrap (a2:Int)=(a2:Int):=abL _ (by omega);obtain⟨a3,yH⟩:=xq (a2+1)
   have S6:(a2:Int)+1=(a3:Int):=by omega
   have S2:IntKind.i64.wrap ((a2:Int)-1)=(a1:Int):=by rw[abL _ (by omega)];omega
   have S3:IntKind.i64.wrap ((a2:Int)-2)=(a0:Int):=by rw[abL _ (by omega)];omega
   have S4:IntKind.i64.wrap ((n:Int)-1)=(n1:Int):=by rw[abL _ (by omega)];omega
   have S5:IntKind.i64.wrap ((n:Int)-2)=(p:Int):=by rw[abL _ (by omega)];omega
   have c2:=uK.o.cell (show M[a2]?=some u2 by rw[ha2,tT];exact h2);have c1:=uK.o.cell (show M[a1]?=some u1 by rw[ha1];exact h1);have c0:=uK.o.cell (show M[a0]?=some u0 by rw[ha0];exact h0);have d1:=qP.o.cell (show V[n1]?=some v1 by rw[NU];exact k1);have d0:=qP.o.cell k0;have b0:(0:Int)<=(k:Int):=abP _;have b1:(0:Int)<=(a2:Int):=abP _
   have b2:(a2:Int)<(mu:Int):=by omega
   have b3:(0:Int)<=(a1:Int):=abP _
   have b4:(a1:Int)<(mu:Int):=by omega
   have b5:(0:Int)<=(a0:Int):=abP _
   have b6:(a0:Int)<(mu:Int):=by omega
   have b7:(0:Int)<=(n1:Int):=abP _
   have b8:(n1:Int)<(n:Int):=by omega
   have b9:(0:Int)<=(p:Int):=abP _
   have b10:(p:Int)<(n:Int):=by omega
   have zC:Hid (∀w0:World,Calls Tryz.prog 280 #[.int .u64 (u2:Nat),.int .u64 (u1:Nat),.int .u64 (u0:Nat),.int .u64 (v1:Nat),.int .u64 (v0:Nat)] w0 (Ea d w0)):=fun w0=>by rw[hd];exact Qw0 u2 u1 u0 v1 v0 w0 G2 nj qJ (by omega) eG oU
   have HD:=zq hd;have iV:=zq oK;have yt:=zq hU;have HG1:=zq G1;have ya:=zq G3;have IE:=zq G4;have HZ:=zq hz
   have hA2:a2<=m:=by omega
   have j4:=zq ha2;have kV:=zq yH
   have hA3:a3<=mu:=by omega
   clear CW yH tT LS LH hz h2 h1 h0 k1 k0 abE nj qJ eG oU DT hst' G1 G2 G3 G4 hd oK hU hU' ha2 ha1 ha0 NU;go_wp2_with fail;go_quiet ((go_at_call 280;exact Calls.quiet_of (zC.o _)));go_wp2_with fail;obtain⟨wg,TH⟩:=xq (wr.drewN nq);rw[<-TH]
   have hbg:Below wr.heap.size wr wg:=by rw[TH];exact Qs wr nq
   have HWG:=zq TH;clear TH;have Ir:Hid (ba wg gv V):=qP.o.below hbg qP.o.lt;have UF:Hid (ba wg gu M):=uK.o.below hbg uK.o.lt;have zv:Hid (ba wg gz Q):=j6.o.below hbg j6.o.lt;have fp:Hid (Below w1.heap.size w1 wg):=aP.o.trans (hbg.mono aP.o.size);have eF:=fp.o.size
   have e3:a3-k=V.length+1:=by have:=ld.o;have:=kV.o;have:=j4.o;omega
   have QO:=zq (Ir.o.whole (by rw[ld.o];omega));rw[ld.o]at QO;rw[e3];clear c2 c1 c0 d1 d0 hbg
   refine(Qhm gu k (mu-k) d M V _ wg UF.o (by rw[ld.o,dV.o];have:=kV.o;have:=j4.o;omega) (by rw[ld.o];have:=kV.o;have:=j4.o;omega) (by rw[dV.o];omega) QO.o (by simp[Value.ownBlock]<;>omega) iV.o).mono ?_
   rintro e w5 ⟨bQ,M1,rfl,acb,sQ,l1,l2,l3,heq,hgr⟩;rw[ld.o]at l3 heq;have QA:=zq heq;have dU:=zq sQ;have od:=zq l1;have mg:=zq l2;have bn:=zq hgr
   have zx:Hid (ba w5 gv V):=Ir.o.kept hgr (by simp<;>omega)
   have vI:Hid (ba w5 gz Q):=zv.o.kept hgr (by simp<;>omega)
   have nX:Hid (Below w1.heap.size w1 w5):=abq fp.o hgr eF (fun q hq=>by cases hq;exact MN);clear heq sQ l1 l2 l3 hgr;obtain⟨q0,tY⟩:∃q0,Q[k]?=some q0:=⟨_,aad (by rw[r6.o];omega)⟩
   have i0:(k:Int)<(nz:Int):=by omega
   by_cases hl0:bQ=0
   ·have iA:decide (bQ≠0)=false:=by simp[hl0]
    obtain⟨r1,r2⟩:=Qhr ya.o (adH (aao _) HST.o.lt) (by rw[<-yt.o]at QA;exact QA.o) hl0;have AB:=zq (HST.o.step (d:=d) qP.o.2 ld.o dU.o.2 od.o (by rw[dV.o];have:=kV.o;have:=j4.o;omega) HZ.o (by rw[r6.o];omega) mg.o (by rw[<-yt.o];exact r1) (by rw[<-yt.o];exact r2));have e4:=vI.o.cell tY;have e5:=vI.o.frozen k;have qT:=zq (vI.o.set k iV.o);clear r1 r2 tY hl0;rw[iA];clear iA;go_wp2_with fail
    have ah:RN L V n nz gv gu gz w1 (.int .i64 ((k:Int)-1)) (w5.setCell ⟨gz,k,none⟩ (.int .u64 (d:Nat))):=
     ⟨k,M1,Q.set k d,by omega,rfl,by rw[ab6,r6.o],AB.o,zx.o.kept qT.o.2 (by simp<;>omega),dU.o.kept qT.o.2 (by simp<;>omega),qT.o.1,abq nX.o qT.o.2 nX.o.size (fun q hq=>by cases hq;exact MP)⟩
    first|exact⟨ah,by simp[intOf]<;>omega⟩|exact⟨by (repeat apply Exists.intro);exact⟨ah,rfl⟩,by simp[intOf]<;>omega⟩
   have ig:bQ=1:=by omega
   have iA:decide (bQ≠0)=true:=by simp[hl0]
   have Iy:Hid (U+BB^(n+1)*1=val (mid M1 k (n+1))+d*val V):=by show _=_;have h:=QA.o;rw[ig]at h;rw[yt.o];exact h
   rw[iA];clear iA ig hl0 QA
   have SJ:0<d:=by refine aeM fun h0=> ?_;have h1:=Iy.o;have h2:=Bh dU.o.2 k (n+1) (by rw[od.o,dV.o];have:=kV.o;have:=j4.o;omega);rw[h0,aeD]at h1;omega
   obtain⟨d',hd'⟩:=xq (d-1)
   have W1:IntKind.u64.wrap ((d:Int)-1)=(d':Int):=by have:=iV.o;unfold BB at this;rw[abV];omega
   have MD:d'<BB:=by have:=iV.o;omega
   have UR:=zq MD;have HD':=zq hd';clear MD hd' SJ;go_wp2_with fail;have JG:=zq (zx.o.whole (by rw[ld.o];omega));rw[ld.o]at JG
   refine(Qgr gu k (mu-k) M1 V _ w5 dU.o (by rw[ld.o,od.o,dV.o];have:=kV.o;have:=j4.o;omega) (by rw[ld.o];have:=kV.o;have:=j4.o;omega) (by rw[od.o,dV.o];omega) JG.o (by simp[Value.ownBlock]<;>omega)).mono ?_
   rintro e w6 ⟨cg,M2,rfl,pk,l1,l2,l3,heq,hgr⟩;rw[ld.o]at l3 heq;have hVP:0<val V:=adH (aao _) HST.o.lt;have hVT:val V<BB^(n+1):=aaj (Yy qP.o.2) (adE Xs (by rw[ld.o];omega));obtain⟨r1,r2⟩:=Qb1 dU.o.2 pk.2 (by rw[od.o,dV.o];have:=kV.o;have:=j4.o;omega) (by rw[l1,od.o,dV.o];have:=kV.o;have:=j4.o;omega) ya.o IE.o hVP hVT Iy.o heq;have AB:=zq (HST.o.step (d:=d') qP.o.2 ld.o pk.2 (l1.trans od.o) (by rw[dV.o];have:=kV.o;have:=j4.o;omega) HZ.o (by rw[r6.o];omega) (by rw[<-mg.o];exact l2) (by rw[<-yt.o,HD'.o];exact r1) (by rw[<-yt.o];exact r2));have l8:=zq pk
   have UG:Hid (ba w6 gv V):=zx.o.kept hgr (by simp<;>omega)
   have zw:Hid (ba w6 gz Q):=vI.o.kept hgr (by simp<;>omega)
   have Io:Hid (Below w1.heap.size w1 w6):=abq nX.o hgr nX.o.size (fun q hq=>by cases hq;exact MN);have e4:=zw.o.cell tY;have e5:=zw.o.frozen k;have qT:=zq (zw.o.set k UR.o);clear r1 r2 tY pk l1 l2 l3 heq hgr hVP hVT;go_wp2_with fail
   have ah:RN L V n nz gv gu gz w1 (.int .i64 ((k:Int)-1)) (w6.setCell ⟨gz,k,none⟩ (.int .u64 (d':Nat))):=
    ⟨k,M2,Q.set k d',by omega,rfl,by rw[ab6,r6.o],AB.o,UG.o.kept qT.o.2 (by simp<;>omega),l8.o.kept qT.o.2 (by simp<;>omega),qT.o.1,abq Io.o qT.o.2 Io.o.size (fun q hq=>by cases hq;exact MP)⟩
   first|exact⟨ah,by simp[intOf]<;>omega⟩|exact⟨by (repeat apply Exists.intro);exact⟨ah,rfl⟩,by simp[intOf]<;>omega⟩
def Qcb (a b m n:Nat)(w:World)(e:Ending)(w':World):Prop:=∃v u qs rs,e=.returned (.tuple #[v,u,.int .i64 0])/\Fr w.heap.size w' v qs/\val qs=a / b/\qs.length<=m/\Qw qs=qs/\Fr w.heap.size w' u rs/\val rs=a % b/\rs.length<=n/\Qw rs=rs/\Below w.heap.size w w'
theorem Fr.nil (B:Nat)(w:World):Fr B w (.slice none 0 0) []:=⟨Rd.nil w,fun k hk=>by cases hk⟩
theorem Qjz (v u:Value)(xs ys:List Nat)(w:World)(hv:Rd w v xs)(hu:Rd w u ys)(hl:xs.length<=274877906944)(hl2:ys.length<=274877906944)(h0:0<val ys):Calls Tryz.prog 239 #[v,u] w (Qcb (val xs) (val ys) xs.length ys.length w):=by
 have HV:=zq hv;have HU:=zq hu;have HL:=zq hl;have mg:=zq hl2;obtain⟨ao,cap,rfl,bq,hcm,aZ,-⟩:=hv.2;obtain⟨bo,fz,rfl,qB,qp,ej,-⟩:=hu.2;have dt:=zq aZ;have iG:=zq ej;obtain⟨Y,hY⟩:=xq (Qw ys)
 have hYl:Y.length<=ys.length:=by rw[hY];exact Qu ys
 have hYv:val Y=val ys:=by rw[hY,Qn]
 have hYs:Qw Y=Y:=by rw[hY,Yo]
 have LW:ok Y:=by rw[hY];exact Vt ej
 have hY0:Y.length≠0:=fun e=>by rw[<-hYv,aaq e]at h0;simp[val]at h0
 obtain⟨n,hn⟩:=xq Y.length;have HY:=zq hY;have sw:=zq hYv;have XV:=zq hYs;have JY:=zq LW;have HN:=zq hn
 have eQ:((n:Int)==0)=false:=by simp;omega
 have H0:=zq h0;rw[<-hn]at hYl hY0;clear hv hu aZ ej hcm qp hl hl2 hY hYv hYs LW hn h0;by_cases h1:n=1
 ·have h1b:((n:Int)==1)=true:=by simp[h1]
  obtain⟨y,hy⟩:∃y,Y[0]?=some y:=⟨_,aad (by rw[<-HN.o];omega)⟩;have vr:=JY.o y (aah hy)
  have hYy:val Y=y:=by rw[<-adq (l:=Y),W6 hy,aaR (by rw[<-HN.o];omega)];simp[val]
  have kB:0<y:=by have:=H0.o;rw[<-sw.o,hYy]at this;exact this
  have HYY:=zq hYy;have HYB:=zq vr;have yz:=zq kB;have HYC:=zq hy
  have jE:0<n:=by omega
  clear hy vr hYy kB h1;go_enter Tryz.func239,Tryz.ntmps239;go_wp2_with fail;refine(Vy _ ys _ HU.o (by have:=mg.o;omega)).mono ?_;rintro e w1 ⟨rfl,hB,hb⟩;rw[<-HY.o,<-HN.o]at*;have e1:=hB.cell HYC.o;have aP:=zq hb;have qc:=zq (HV.o.below hb);have hz1:=hb.size;clear hB hb;go_wp2_with fail;refine(Kh _ xs y _ qc.o (by have:=HL.o;omega) yz.o HYB.o).mono ?_;rintro e w2 ⟨qv,qs,rfl,q1,q2,q3,q4,q5⟩;have Q1:=zq q1
  have Q2:Hid (val qs=val xs / val ys):=by show _=_;rw[q2,<-sw.o,HYY.o]
  have Q3:=zq q3;have Q4:=zq q4;have fp:Hid (Below w.heap.size w w2):=aP.o.trans (q5.mono hz1);obtain⟨r,hr⟩:=xq (val xs % y);rw[<-hr]
  have rk:r<BB:=by rw[hr];exact aed (ad8 _ yz.o) HYB.o
  have HR:Hid (r=val xs % val ys):=by show _=_;rw[hr,<-sw.o,HYY.o]
  have HRW:=zq (Nf w2 r rk);have hz2:=fp.o.size;have ha:=Qq w2 (.cells #[.int .u64 (r:Nat)] 101);have HA:=zq ha;clear q1 q2 q3 q4 q5 hr rk ha;go_wp2_with fail;refine(Jt _ [r] _ HRW.o (by simp)).mono ?_;rintro e w3 ⟨rv,rfl,p1,p2⟩;have P1:=zq p1;have aS:=zq (HA.o.trans (p2.mono HA.o.size));clear p1 p2;go_wp2_with fail;go_ret3;have iE:=Qu [r];refine⟨_,_,qs,Qw [r],rfl,(Q1.o.mono hz1).below aS.o,Q2.o,Q3.o,Q4.o,P1.o.mono (aan hz2 HA.o.size),by rw[Qn,<-HR.o];simp[val],?_,Yo _,fp.o.trans (aS.o.mono hz2)⟩;simp only[aaf,aaG]at iE;omega
 have h1b:((n:Int)==1)=false:=by simp;omega
 have jX:2<=n:=by omega
 obtain⟨X,hX⟩:=xq (Qw xs)
 have sX:X.length<=xs.length:=by rw[hX];exact Qu xs
 have wQ:val X=val xs:=by rw[hX,Qn]
 have SI:Qw X=X:=by rw[hX,Yo]
 have LV:ok X:=by rw[hX];exact Vt dt.o
 have HX:=zq hX;have QV:=zq sX;have oz:=zq wQ;have XT:=zq SI;have XS:=zq LV;clear hX sX wQ SI LV h1;by_cases hlt:val xs<val ys
 ·have hc:di (val X) (val Y)= -1:=Hv (by rw[oz.o,sw.o];exact hlt)
  have HC:=zq hc;have HD:Hid (val xs / val ys=0/\val xs % val ys=val xs):=⟨Nat.div_eq_of_lt hlt,Nat.mod_eq_of_lt hlt⟩
  have hXY:X.length<=n:=by refine aeV fun h=> ?_;have:=Hk (xs:=Y) (ys:=X) JY.o (by rw[XV.o,XT.o,<-HN.o];exact h);rw[oz.o,sw.o]at this;omega
  clear hc hlt;go_enter Tryz.func239,Tryz.ntmps239;go_wp2_with fail;refine(Jt _ ys _ HU.o (by have:=mg.o;omega)).mono ?_;rintro e w1 ⟨yv,rfl,hB,hb⟩;rw[<-HY.o]at hB;obtain⟨yo,lS,rfl,-,-,-,-⟩:=hB.1.2;have HB:=zq hB;have aP:=zq hb;have qc:=zq (HV.o.below hb);have hz1:=hb.size;clear hB hb;rw[<-HN.o];go_wp2_with fail;refine(Jt _ xs _ qc.o (by have:=HL.o;omega)).mono ?_;rintro e w2 ⟨xv,rfl,ki,hb2⟩;rw[<-HX.o]at ki;have aD:=zq ki;have yA:=zq (HB.o.below hb2);have fp:Hid (Below w.heap.size w w2):=aP.o.trans (hb2.mono hz1);have hz2:=fp.o.size;rw[<-HN.o]at yA;clear ki hb2;go_wp2_with fail;refine(Wz _ _ X Y _ aD.o.1 yA.o.1).mono ?_;rintro e w3 ⟨rfl,hb3⟩;rw[HC.o];have aS:=zq hb3;clear hb3;go_wp2_with fail;go_ret3;exact⟨_,_,[],X,rfl,Fr.nil _ _,by rw[HD.o.1];rfl,aao _,rfl,(aD.o.mono hz1).below aS.o,by rw[oz.o,HD.o.2],by omega,XT.o,fp.o.trans (aS.o.mono hz2)⟩
 obtain⟨c,hc⟩:=xq (di (val X) (val Y))
 have hcb:decide (c<0)=false:=by
  rw[hc,oz.o,sw.o];unfold di;rw[if_neg hlt]
  split<;>decide
 have HC:=zq hc
 have hXY:n<=X.length:=by refine aeV fun h=> ?_;have:=Hk (xs:=X) (ys:=Y) XS.o (by rw[XV.o,XT.o,<-HN.o];exact h);rw[oz.o,sw.o]at this;omega
 clear hc hlt;go_enter Tryz.func239,Tryz.ntmps239;go_wp2_with fail;refine(Jt _ ys _ HU.o (by have:=mg.o;omega)).mono ?_;rintro e w1 ⟨yv,rfl,hB,hb⟩;rw[<-HY.o]at hB;obtain⟨yo,lS,rfl,-,-,-,-⟩:=hB.1.2;have HB:=zq hB;have aP:=zq hb;have qc:=zq (HV.o.below hb);have hz1:=hb.size;clear hB hb;rw[<-HN.o];go_wp2_with fail;refine(Jt _ xs _ qc.o (by have:=HL.o;omega)).mono ?_;rintro e w2 ⟨xv,rfl,ki,hb2⟩;rw[<-HX.o]at ki;have aD:=zq ki;have yA:=zq (HB.o.below hb2);have fp:Hid (Below w.heap.size w w2):=aP.o.trans (hb2.mono hz1);have hz2:=fp.o.size;rw[<-HN.o]at yA;clear ki hb2;go_wp2_with fail;refine(Wz _ _ X Y _ aD.o.1 yA.o.1).mono ?_;rintro e w3 ⟨rfl,hb3⟩;rw[<-HC.o];have aS:=zq (aD.o.below hb3);have HY3:=zq (yA.o.below hb3);have nW:Hid (Below w.heap.size w w3):=fp.o.trans (hb3.mono hz2);have hz3:=nW.o.size;clear hb3;go_wp2_with fail;refine(Qg4 _ _ X Y (n-2) _ aS.o.1 HY3.o.1 (by rw[<-HN.o];omega) XV.o (by rw[<-HN.o];exact hXY) (by have:=QV.o;have:=HL.o;omega)).mono ?_;rintro e w4 ⟨qv,rv,qs,rs,rfl,q1,q2,q3,q4,r1,r2,r3,r4,hb4⟩;have Q1:=zq (q1.mono hz3);have R1:=zq (r1.mono hz3);have UC:Hid (Below w.heap.size w w4):=nW.o.trans (hb4.mono hz3)
 have Q2:Hid (val qs=val xs / val ys):=by show _=_;rw[q2,oz.o,sw.o]
 have R2:Hid (val rs=val xs % val ys):=by show _=_;rw[r2,oz.o,sw.o]
 have Q3:Hid (qs.length<=xs.length):=by show _<=_;have:=QV.o;have:=HN.o;omega
 have R3:Hid (rs.length<=ys.length):=by show _<=_;have:=HN.o;omega
 have Q4:=zq q4;have R4:=zq r4;clear q1 q2 q3 q4 r1 r2 r3 r4 hb4;go_wp2_with fail;go_ret3;exact⟨_,_,qs,rs,rfl,Q1.o,Q2.o,Q3.o,Q4.o,R1.o,R2.o,R3.o,R4.o,UC.o⟩
theorem Tj (c:Nat)(w:World)(hc:c<=0x10ffff):Calls Tryz.prog 213 #[.int .i32 (c:Nat)] w fun e w'=>e=.returned (.int .i64 (bp c:Nat))/\w=w':=by
 have G:(48<=c/\c<=57)\/(97<=c/\c<=122)\/(65<=c/\c<=90)\/c<48\/(57<c/\c<65)\/(90<c/\c<97)\/122<c:=by omega
 rcases G with G|G|G|G|G|G|G
 ·have e:bp c=c-48:=by unfold bp;rw[if_pos G]
  rw[e];clear e;go_enter Tryz.func213,Tryz.ntmps213;go_wp2_with fail;go_ret;exact⟨Ux (by omega),rfl⟩
 ·have e:bp c=c-87:=by unfold bp;rw[if_neg (by omega),if_pos G]
  rw[e];clear e;go_enter Tryz.func213,Tryz.ntmps213;go_wp2_with fail;go_ret;exact⟨Ux (by omega),rfl⟩
 ·have e:bp c=c-55:=by unfold bp;rw[if_neg (by omega),if_neg (by omega),if_pos G]
  rw[e];clear e;go_enter Tryz.func213,Tryz.ntmps213;go_wp2_with fail;go_ret;exact⟨Ux (by omega),rfl⟩
 all_goals
  have e:bp c=36:=by unfold bp;rw[if_neg (by omega),if_neg (by omega),if_neg (by omega)]
  rw[e];clear e;go_enter Tryz.func213,Tryz.ntmps213;go_wp2_with fail;go_ret;exact⟨Ux (by omega),rfl⟩
theorem Mi (w:World):Calls Tryz.prog 214 #[.int .i64 10] w fun e w'=>e=.returned (.tuple #[.int .i64 19,.int .u64 10000000000000000000])/\w=w':=by
 go_enter Tryz.func214,Tryz.ntmps214;go_wp2_with fail;refine wp_loop_rounds 20 ?_
 repeat (rw[rounds_succ];go_wp2_with fail)
 go_ret2;exact⟨rfl,rfl⟩
def Ad (N:Nat)(w:World)(nv pv bv:Value)(wr:World):Prop:=∃(n q e:Nat) (ps bs:List Nat),nv=.int .i64 (n:Nat)/\Fr w.heap.size wr pv ps/\Fr w.heap.size wr bv bs/\val ps=10^q/\(1<=n->val bs=10^e)/\q+e*n=N/\n<=N/\Qw ps=ps/\Qw bs=bs/\Below w.heap.size w wr/\1<=e
theorem Qm0 {N q e n:Nat}(h:q+e*n=N)(he:1<=e)(hn:1<=n):e<=N/\q<=N:=by have:=adI e hn;have E:=abW n he;omega
theorem Qyl (N:Nat)(w:World)(hN:N<=1073741824):Calls Tryz.prog 270 #[.int .i64 10,.int .i64 (N:Nat)] w (Zu (10^N) (N+1) w):=by
 have R1:=Nf w 1 (by unfold BB;omega);have R2:=Nf (w.alloc (.cells #[.int .u64 (1:Nat)] 101)) 10 (by unfold BB;omega);have b1:=Qq w (.cells #[.int .u64 (1:Nat)] 101);have b2:=Qq (w.alloc (.cells #[.int .u64 (1:Nat)] 101)) (.cells #[.int .u64 (10:Nat)] 101)
 have HS:Hid (Ad N w (.int .i64 (N:Nat)) (.slice (some ⟨w.heap.size,0,none⟩) 1 1) (.slice (some ⟨w.heap.size+1,0,none⟩) 1 1) ((w.alloc (.cells #[.int .u64 1] 101)).alloc (.cells #[.int .u64 10] 101))):=
  ⟨N,0,1,[1],[10],rfl,⟨R1.below b2,fun k hk=>by cases hk;exact⟨aaa _,by simp;omega⟩⟩,⟨by simpa using R2,fun k hk=>by cases hk;exact⟨by show w.heap.size<=w.heap.size+1;omega,by simp⟩⟩,by simp[val],fun _=>by simp[val],by omega,aaa _,by decide,by decide,b1.trans (b2.mono b1.size),aaa _⟩
 clear R1 R2 b1 b2;go_enter Tryz.func270,Tryz.ntmps270;go_wp2_with fail;go_loopw [1,5,6] (fun n p b wr=>Ad N w n p b wr) (fun n _ _ _=>(intOf n).toNat)
 case atStart=>exact HS.o
 clear HS
 case round=>
  obtain⟨n,q,e,ps,bs,rfl,hp,hb,hvp,kR,GX,hnN,hsp,jI,bz,he⟩:=hrel;have HP:=zq hp;have HB:=zq hb;have QR:=zq hvp;have wu:=zq kR;have qR:=zq GX;have QP:=zq hsp;have uQ:=zq jI;have dw:=zq bz;have uu:=bz.size;clear hp hb hvp kR GX hsp jI bz;by_cases eQ:n=0
  ·subst eQ
   have hq:q=N:=by have:=qR.o;omega
   have HQ:Hid (val ps=10^N):=by show _=_;rw[QR.o,hq]
   clear hq;go_wp2_with fail;go_ret;exact⟨_,ps,rfl,HP.o,HQ.o,Gj QP.o (adK HQ.o),QP.o,dw.o⟩
  have jE:1<=n:=by omega
  obtain⟨heN,hqN⟩:=Qm0 qR.o he jE;have hpl:=Gj QP.o (adK QR.o);have hbl:=Gj uQ.o (adK (wu.o jE));have VB:=zq (wu.o jE);clear wu;obtain⟨m,r,hm,hr⟩:∃m r,n=2*m+r/\r<2:=⟨n / 2,n % 2,by omega,by omega⟩
  have ac5:(n:Int) % 2=(r:Int):=by omega
  have aby:(n:Int) / 2=(m:Int):=by omega
  have HM:=zq hm
  have NR:m<n:=by omega
  have hmN:m<=N:=by omega
  by_cases hr1:r=1
  ·have rk:((r:Int)==1)=true:=by simp[hr1]
   have HR:=zq hr1;clear hm hr1;go_wp2_with fail;refine(Bb ps bs _ _ _ (by omega) HP.o.1 HB.o.1).mono ?_;rintro e2 w2 ⟨pv2,ps2,rfl,p1,p2,p3,p4,p5⟩;have rZ:=zq (p1.mono uu)
   have JS:Hid (val ps2=10^(q+e)):=by show _=_;rw[p2,QR.o,VB.o,ad3]
   have JK:=zq p4;have aD:=zq (HB.o.below p5);have rB:Hid (Below w.heap.size w w2):=dw.o.trans (p5.mono uu);have OW:=rB.o.size;clear p1 p2 p3 p4 p5;by_cases jX:1<n
   ·go_wp2_with fail
    refine(Ph bs _ _ (by omega) aD.o.1).mono ?_;rintro e3 w3 ⟨mA,Lg,rfl,s1,s2,s3,s4,s5⟩;have aS:=zq (s1.mono OW)
    have AP:Hid (val Lg=10^(2*e)):=by show _=_;rw[s2,VB.o,<-ad3,show e+e=2*e from by omega]
    have z7:=zq s4;have mn:=zq (rZ.o.below s5);have rC:Hid (Below w.heap.size w w3):=rB.o.trans (s5.mono OW)
    have eY:Hid (q+e+2*e*m=N):=by show _=_;have h1:=qR.o;rw[HM.o,HR.o,abp,aem,aeQ,<-abF]at h1;omega
    clear s1 s2 s3 s4 s5;go_wp2_with fail;have ah:Ad N w (.int .i64 (m:Nat)) pv2 mA w3:=⟨m,q+e,2*e,ps2,Lg,rfl,mn.o,aS.o,JS.o,fun _=>AP.o,eY.o,hmN,JK.o,z7.o,rC.o,by omega⟩
    first|exact⟨ah,by simp[intOf];omega⟩|exact⟨by (repeat apply Exists.intro);exact⟨ah,rfl⟩,by simp[intOf];omega⟩
   have pD:m=0:=by have:=HM.o;omega
   have eY:Hid (q+e+e*m=N):=by show _=_;have h1:=qR.o;have h2:=HM.o;rw[HR.o,pD]at h2;rw[h2]at h1;rw[pD,aec];rw[aec,abx,aem]at h1;exact h1
   clear pD;go_wp2_with fail;have ah:Ad N w (.int .i64 (m:Nat)) pv2 u6 w2:=⟨m,q+e,e,ps2,bs,rfl,rZ.o,aD.o,JS.o,fun _=>VB.o,eY.o,hmN,JK.o,uQ.o,rB.o,he⟩
   first|exact⟨ah,by simp[intOf];omega⟩|exact⟨by (repeat apply Exists.intro);exact⟨ah,rfl⟩,by simp[intOf];omega⟩
  have rk:((r:Int)==1)=false:=by simp;omega
  have lH:r=0:=by omega
  have HR:=zq lH
  have jX:1<n:=by omega
  clear hm hr1 lH;go_wp2_with fail;refine(Ph bs _ _ (by omega) HB.o.1).mono ?_;rintro e3 w3 ⟨mA,Lg,rfl,s1,s2,s3,s4,s5⟩;have aS:=zq (s1.mono uu)
  have AP:Hid (val Lg=10^(2*e)):=by show _=_;rw[s2,VB.o,<-ad3,show e+e=2*e from by omega]
  have z7:=zq s4;have mn:=zq (HP.o.below s5);have rC:Hid (Below w.heap.size w w3):=dw.o.trans (s5.mono uu)
  have eY:Hid (q+2*e*m=N):=by show _=_;have h1:=qR.o;rw[HM.o,HR.o,adt,aeQ,<-abF]at h1;omega
  clear s1 s2 s3 s4 s5;go_wp2_with fail;have ah:Ad N w (.int .i64 (m:Nat)) u5 mA w3:=⟨m,q,2*e,ps,Lg,rfl,mn.o,aS.o,QR.o,fun _=>AP.o,eY.o,hmN,QP.o,z7.o,rC.o,by omega⟩
  first|exact⟨ah,by simp[intOf];omega⟩|exact⟨by (repeat apply Exists.intro);exact⟨ah,rfl⟩,by simp[intOf];omega⟩
def fY (w:World)(v:Value)(ds:List Nat):Prop:=
 (∀k,v.ownBlock=some k->k<w.heap.size)/\ ∃ao cap,v=.slice ao ds.length cap/\ds.length<=cap/\cap<=maxLen/\(∀x∈ds,x<10)/\ ∀i x,ds[i]?=some x-> ∃g o,ao=some ⟨g,o,none⟩/\w.cell? ⟨g,o+i,none⟩=some (.int .u8 (x:Nat))
theorem fY.below {w w':World}{v:Value}{ds:List Nat}(h:fY w v ds)(hb:Below w.heap.size w w'):fY w' v ds:=by obtain⟨H,ao,E,rfl,I,J,K,O⟩:=h;refine⟨fun k hk=>aaj (H k hk) hb.size,ao,E,rfl,I,J,K,fun i x hx=> ?_⟩;obtain⟨g,o,rfl,T⟩:=O i x hx;exact⟨g,o,rfl,by rw[hb.cell (p:=⟨g,o+i,none⟩) (H g rfl)];exact T⟩
theorem fY.take {w:World}{ao:Option Addr}{len cap n c:Nat}{ds:List Nat}(h:fY w (.slice ao len cap) ds)(hn:n<=ds.length)(hc:n<=c)(hm:c<=cap):fY w (.slice ao n c) (ds.take n):=by
 obtain⟨E,ao',cap',e,J,K,H,I⟩:=h;simp only[Value.slice.injEq]at e;obtain⟨rfl,rfl,rfl⟩:=e
 refine⟨fun k hk=>E k (by cases ao<;>first|exact hk|cases hk),ao,c,by rw[aak,abd hn],by rw[aak];omega,by omega,fun x hx=>H x (adD hx),fun i x hx=> ?_⟩
 rw[adX]at hx;split at hx
 ·exact I i x hx
 cases hx
theorem fY.drop {w:World}{g o len cap n:Nat}{ds:List Nat}(h:fY w (.slice (some ⟨g,o,none⟩) len cap) ds)(hn:n<=ds.length):fY w (.slice (some ⟨g,o+n,none⟩) (ds.length-n) (cap-n)) (ds.drop n):=by
 obtain⟨E,ao',cap',e,K,O,H,I⟩:=h;simp only[Value.slice.injEq]at e;obtain⟨rfl,rfl,rfl⟩:=e;refine⟨fun k hk=>E k hk,_,_,by rw[aag],by rw[aag];omega,by omega,fun x hx=>H x (adU hx),fun i x hx=>⟨g,o+n,rfl,?_⟩⟩;rw[adp]at hx;obtain⟨g',o',e,J⟩:=I (n+i) x hx
 cases e
 rw[abJ];exact J
theorem fY.wK {w:World}{g o len cap n:Nat}{ds:List Nat}(h:fY w (.slice (some ⟨g,o,none⟩) len cap) ds)(hn:ds.length<=n):fY w (.slice (some ⟨g,o,none⟩) 0 0) (ds.drop n):=by rw[aaR hn];exact⟨fun k hk=>h.1 k hk,_,0,rfl,aaa _,by unfold maxLen;omega,fun x hx=>(by cases hx),fun i x hx=>(by simp at hx)⟩
theorem fY.some' {w:World}{ao:Option Addr}{n c:Nat}{ds:List Nat}(h:fY w (.slice ao n c) ds)(h0:0<ds.length):∃g o,ao=some ⟨g,o,none⟩:=by obtain⟨_,ao',cap',e,_,_,_,E⟩:=h;simp only[Value.slice.injEq]at e;obtain⟨rfl,-,-⟩:=e;obtain⟨g,o,H,_⟩:=E 0 ds[0] (aad h0);exact⟨g,o,H⟩
theorem fY.shape {w:World}{v:Value}{ds:List Nat}(h:fY w v ds):∃ao cap,v=.slice ao ds.length cap/\ds.length<=cap/\cap<=maxLen:=by obtain⟨_,ao,cap,E,H,I,_⟩:=h;exact⟨ao,cap,E,H,I⟩
theorem fY.ZT {w:World}{v:Value}{ds:List Nat}(h:fY w v ds):∀x∈ds,x<10:=by obtain⟨_,_,_,_,_,_,E,_⟩:=h;exact E
def Ac (n:Nat):Prop:=∀(ds:List Nat) (v:Value) (w:World),ds.length<n->fY w v ds->Calls Tryz.prog 252 #[v,.int .i64 10] w (Zu (aN ds) ds.length w)
theorem Qq1 (n:Nat)(IH:Ac n)(hn:n<=1073741824)(ds:List Nat)(v:Value)(w:World)(hl:ds.length<=n)(BF:200<ds.length)(hv:fY w v ds):Calls Tryz.prog 252 #[v,.int .i64 10] w (Zu (aN ds) ds.length w):=by
 have HV:=zq hv;obtain⟨ao,cap,rfl,jw,hcm⟩:=hv.shape;obtain⟨g,o,rfl⟩:=hv.some' (by omega);obtain⟨lo,ei⟩:=xq (ds.length / 2);obtain⟨cu,qq⟩:=xq (ds.length-lo)
 have h1:1<=lo:=by omega
 have h2:lo<ds.length:=by omega
 have h3:1<=cu:=by omega
 have h4:cu<ds.length:=by omega
 have h5:lo+cu<=ds.length:=by omega
 have h6:ds.length<=lo+cu:=by omega
 have aby:(ds.length:Int) / 2=(lo:Int):=by omega
 have qG:(ds.length:Int)-(lo:Int)=(cu:Int):=by omega
 have iT:=zq (HV.o.take (n:=cu) (c:=cap) (by omega) (by omega) (aaa _));have j4:=zq (HV.o.drop (n:=cu) (by omega));have HI:=zq IH;have eu:(0:Int)<=(cu:Int):=abP _
 have dc:(cu:Int)<=(ds.length:Int):=by omega
 have hcc: ¬(cap=cu):=by omega
 have jV:(cu:Int)<=(cap:Int):=by omega
 have L9:cap<=9223372036854775807:=by unfold maxLen at hcm;omega
 have od:Hid ((ds.take cu).length<=cu):=aeC _ _
 have mg:Hid ((ds.drop cu).length<=lo):=by show _<=_;rw[aag];omega
 have HD:Hid (aN ds=aN (ds.take cu)*10^lo+aN (ds.drop cu)):=by show _=_;rw[Qz5 ds cu (by omega),show ds.length-cu=lo from by omega]
 have nZ:=zq (Tm HV.o.ZT);clear IH hv hcm ei qq;go_enter Tryz.func252,Tryz.ntmps252;go_wp2_with fail
 go_region_held3 (fun _=>True) (trivial)
  (first
   |(go_at_call_of 252 (Value.slice (some ⟨g,o,none⟩) cu cap);refine(HI.o (ds.take cu) _ _ (by have:=od.o;omega) (by exact iT.o)).mono ?_;rintro e1 w1 ⟨v1,x1,rfl,a1,a2,a3,a4,a5⟩;have A1:=zq a1;have A2:=zq a2;have A3:=zq a3;have A5:=zq a5;have hz1:=a5.size;clear a1 a2 a3 a4 a5)
   |(go_at_call 270;refine(Qyl lo _ (by omega)).mono ?_;rintro e2 w2 ⟨v2,x2,rfl,a1,a2,a3,a4,a5⟩;have B1:=zq a1;have B2:=zq a2;have B3:=zq a3;have B5:=zq a5;have hz2:=a5.size;clear a1 a2 a3 a4 a5)
   |(go_at_call 252;refine(HI.o (ds.drop cu) _ _ (by have:=mg.o;omega) (by exact(fY.below (w:=w.drew) j4.o A5.o).below B5.o)).mono ?_;rintro e3 w3 ⟨v3,x3,rfl,a1,a2,a3,a4,a5⟩;have C1:=zq a1;have C2:=zq a2;have C3:=zq a3;have C5:=zq a5;have hz3:=a5.size;clear a1 a2 a3 a4 a5)
   |(go_at_call 269;refine(Qjo x1 x2 x3 _ _ _ _ (by have:=A3.o;have:=B3.o;have:=od.o;omega) (by have:=C3.o;have:=mg.o;omega) ((A1.o.1.below B5.o).below C5.o) (B1.o.1.below C5.o) C1.o.1).mono ?_;rintro e4 w4 ⟨v4,x4,rfl,a1,a2,a3,a4,a5⟩))
 have D1:=zq (a1.mono (aan hz1 (aan hz2 hz3)))
 have D2:Hid (val x4=aN ds):=by show _=_;rw[a2,A2.o,B2.o,C2.o,HD.o]
 have D4:=zq a4;have D5:Hid (Below w.heap.size w w4):=((Qs w 1).trans (A5.o.trans ((B5.o.trans ((C5.o.trans (a5.mono hz3)).mono hz2)).mono hz1)));have D3:Hid (x4.length<=ds.length):=Rv a4 (by rw[D2.o];exact nZ.o);clear a1 a2 a3 a4 a5;go_wp2_with fail;go_ret;exact⟨_,x4,rfl,D1.o,D2.o,D3.o,D4.o,D5.o⟩
def PF:Value->Nat| .slice _ n _=>n|_=>0
def pw (j:Nat):Nat:=10^j
def ZA (ds:List Nat)(w:World)(dv av:Value)(wr:World):Prop:=∃(pos rem:Nat) (ao:Option Addr) (c:Nat) (zs:List Nat),pos+rem=ds.length/\dv=.slice ao rem c/\fY wr dv (ds.drop pos)/\Fr w.heap.size wr av zs/\val zs=aN (ds.take pos)/\Qw zs=zs/\Below w.heap.size w wr
theorem Qb6 {ds:List Nat}{pos n:Nat}(h:pos+n<=ds.length):aN (ds.take (pos+n))=aN (ds.take pos)*pw n+aN ((ds.drop pos).take n):=by have e:ds.take (pos+n)=ds.take pos++(ds.drop pos).take n:=List.take_add;rw[e,Sg,aak,aag,abd (by omega)];rfl
theorem Bc (ds:List Nat)(v:Value)(w:World)(BF:ds.length<=200)(hv:fY w v ds):Calls Tryz.prog 252 #[v,.int .i64 10] w (Zu (aN ds) ds.length w):=by
 have HV:=zq hv;obtain⟨ao,cap,rfl,jw,hcm⟩:=hv.shape
 have L9:cap<=9223372036854775807:=by unfold maxLen at hcm;omega
 have nZ:=zq (Tm HV.o.ZT);clear hv hcm;go_enter Tryz.func252,Tryz.ntmps252;go_wp2_with fail;refine(Mi _).mono ?_;rintro e w' ⟨rfl,rfl⟩;go_wp2_with fail;go_loopw [0,9] (fun d a wr=>ZA ds w d a wr) (fun d _ _=>PF d)
 case atStart=>exact⟨0,ds.length,ao,cap,[],by omega,rfl,HV.o,⟨Rd.nil w,fun k hk=>by cases hk⟩,rfl,rfl,aa8 _ _⟩
 case round=>
  obtain⟨pos,rem,ao,c,zs,hpr,rfl,hd,ha,hva,eR,hb⟩:=hrel;have HD:=zq hd;have HA:=zq ha;have qV:=zq hva;have fW:=zq eR;have HB:=zq hb;have FF:=zq hpr;have uu:=hb.size;obtain⟨_,_,DL,SZ,hcm⟩:=hd.shape;simp only[Value.slice.injEq]at DL;obtain⟨-,-,rfl⟩:=DL
  have cD:(ds.drop pos).length=rem:=by rw[aag];omega
  rw[cD]at SZ
  have hc2:c<=9223372036854775807:=by unfold maxLen at hcm;omega
  have ach:rem<=200:=by omega
  have pn:zs.length<=200:=by
   have:=Rv eR (n:=pos) (by
    rw[hva];have h1:=Tm (ds:=ds.take pos) (fun x hx=>HV.o.ZT x (adD hx))
    rw[aak,abd (by omega)]at h1;exact h1)
   omega
  clear hd ha hva eR hb hpr hcm;by_cases lH:rem=0
  ·have ah:aN (ds.take pos)=aN ds:=by rw[aat (by have:=FF.o;omega)]
   have HF:=zq ah;clear ah cD
   have h0: ¬0<rem:=by omega
   clear lH;go_wp2_with fail;go_ret;exact⟨_,zs,rfl,HA.o,by rw[qV.o,HF.o],Rv fW.o (by rw[qV.o,HF.o];exact nZ.o),fW.o,HB.o⟩
  obtain⟨n,hn⟩:=xq (min 19 rem)
  have jE:1<=n:=by omega
  have jX:n<=rem:=by omega
  have hn3:n<=19:=by omega
  have tO:min (19:Int) (rem:Int)=(n:Int):=by omega
  obtain⟨g,o,rfl⟩:=HD.o.some' (by rw[cD];omega);have HP:=zq (HD.o.take (n:=n) (c:=c) (by rw[cD];omega) (by omega) (aaa _));obtain⟨P,hP⟩:=xq ((ds.drop pos).take n);rw[<-hP]at HP
  have LJ:P.length=n:=by rw[hP,aak,cD];omega
  have WN:=zq LJ;have WL:=zq hP;have x8:=zq cD
  have hrp:0<rem:=by omega
  obtain⟨_,_,_,DL,_,_,kp,hcell⟩:=HP.o;simp only[Value.slice.injEq]at DL;obtain⟨rfl,-,-⟩:=DL;have pS:=zq kp;have UJ:=zq hcell
  have eu:(n:Int)<=(c:Int):=by omega
  clear hn LJ hP cD kp hcell lH;go_wp2_with fail;go_loop [11,12,55] (fun vv pp i=> ∃j:Nat,j<=n/\i=.int .i64 (j:Nat)/\vv=.int .u64 (aN (P.take j):Nat)/\pp=.int .u64 (pw j:Nat)) (fun _ _ i=>n-(intOf i).toNat)
  case atStart=>exact⟨0,aao _,rfl,rfl,rfl⟩
  case round=>
   obtain⟨j,hj,rfl,rfl,rfl⟩:=hrel;by_cases hlt:j<n
   ·obtain⟨x,hx⟩:∃x,P[j]?=some x:=⟨_,aad (by have:=WN.o;omega)⟩
    obtain⟨g',o',hao,e1⟩:=UJ.o j x hx
    cases hao
    have adg:=pS.o x (aah hx);have hstep:=Gx hx;have aa5:=Tm (ds:=P.take (j+1)) (fun y hy=>pS.o y (adD hy));have cE:=Av (n:=(P.take (j+1)).length) (by rw[aak];omega);have kP:=Av (n:=j+1) (by omega);obtain⟨m1,cW⟩:=xq (aN (P.take j)*10)
    have hpw:pw (j+1)=pw j*10:=by unfold pw;rw[ady]
    have abt:pw (j+1)<BB:=kP
    have aQ:IntKind.u64.wrap ((aN (P.take j):Int)*10)=(m1:Int):=by unfold BB at*;rw[abV];omega
    have hw2:IntKind.u64.wrap ((m1:Int)+(x:Int))=(aN (P.take (j+1)):Int):=by unfold BB at*;rw[abV];omega
    have hw3:IntKind.u64.wrap ((pw j:Int)*10)=(pw (j+1):Int):=by unfold BB at*;rw[abV];omega
    clear hx hstep aa5 cE kP cW hpw abt;go_wp2_with fail;exact⟨⟨j+1,by omega,by go_num,rfl,rfl⟩,by simp[intOf];omega⟩
   obtain rfl:j=n:=by omega
   have SX:P.take j=P:=aat (by have:=WN.o;omega);rw[SX]
   have kR:aN P<BB:=by have h1:=Tm pS.o;have h2:=Av (n:=P.length) (by have:=WN.o;omega);omega
   have hpb:pw j<BB:=Av hn3;have wu:=zq kR;have nK:=zq hpb;clear SX kR hpb hlt hj;go_wp2_with fail;refine(Qhs zs (pw j) _ _ (by omega) nK.o HA.o.1).mono ?_;rintro e w2 ⟨v2,z2,rfl,a1,a2,a3,a4,a5⟩;have A1:=zq a1.1;have A2:=zq a2;have A3:=zq a3;have A5:=zq a5;have hz2:=a5.size;clear a1 a2 a3 a4 a5;go_wp2_with fail;refine(G5 z2 [aN P] _ _ _ (by have:=A3.o;omega) (by simp) (A1.o.alloc _) (Nf w2 (aN P) wu.o)).mono ?_;rintro e w3 ⟨v3,z3,rfl,a1,a2,a3,a4,a5⟩;have B1:Hid (Fr w.heap.size w3 v3 z3):=a1.mono (by simp;omega)
   have B2:Hid (val z3=aN (ds.take (pos+j))):=by show _=_;rw[a2,A2.o,qV.o,Qb6 (by have:=FF.o;omega),<-WL.o];simp[val]
   have B4:=zq a4;have C5:Below wr.heap.size wr w3:=A5.o.trans (((Qq w2 _).trans (a5.mono (by simp))).mono hz2);have B5:Hid (Below w.heap.size w w3):=HB.o.trans (C5.mono uu);have x6:=zq (HD.o.below C5);clear a1 a2 a3 a4 a5 C5;by_cases uV:c=j
   ·have UQ:Hid (fY w3 (.slice (some ⟨g,o,none⟩) 0 0) (ds.drop (pos+j))):=by
     show fY _ _ _;have:=x6.o.wK (n:=j) (by rw[x8.o];omega);rw[adG]at this;exact this
    have hjr:rem<=j:=by omega
    go_wp2_with fail;have ah:ZA ds w (.slice (some ⟨g,o,none⟩) 0 0) v3 w3:=⟨pos+j,0,_,0,z3,by have:=FF.o;omega,rfl,UQ.o,B1.o,B2.o,B4.o,B5.o⟩
    first|exact⟨ah,by simp[PF];omega⟩|exact⟨by (repeat apply Exists.intro);exact⟨ah,rfl⟩,by simp[PF];omega⟩
   have UQ:Hid (fY w3 (.slice (some ⟨g,o+j,none⟩) (rem-j) (c-j)) (ds.drop (pos+j))):=by show fY _ _ _;have:=x6.o.drop (n:=j) (by rw[x8.o];omega);rw[adG,x8.o]at this;exact this
   go_wp2_with fail;have ah:ZA ds w (.slice (some ⟨g,o+j,none⟩) (rem-j) (c-j)) v3 w3:=⟨pos+j,rem-j,_,c-j,z3,by have:=FF.o;omega,rfl,UQ.o,B1.o,B2.o,B4.o,B5.o⟩
   first|exact⟨ah,by simp[PF];omega⟩|exact⟨by (repeat apply Exists.intro);exact⟨ah,rfl⟩,by simp[PF];omega⟩
theorem Fx:∀n,n<=1073741824->Ac n
 |0,_=>fun ds v w h _=>absurd h (aeP _)
 |n+1,hn=>fun ds v w h hv=>by
  by_cases BF:ds.length<=200
  ·exact Bc ds v w BF hv
  exact Qq1 n (Fx n (by omega)) (by omega) ds v w (by omega) (by omega) hv
theorem Qj4 (ds:List Nat)(v:Value)(w:World)(hl:ds.length<1073741824)(hv:fY w v ds):Calls Tryz.prog 252 #[v,.int .i64 10] w (Zu (aN ds) ds.length w):=Fx _ (aaa _) ds v w hl hv
open ag
structure Wr (R:Nat) (og:Option Nat) (w w':World):Prop where
 os:w'.os=w.os
 tape:w'.tape=w.tape
 output:w'.output=w.output
 size:w.heap.size<=w'.heap.size
 block:∀k,k<w.heap.size->k≠R->some k≠og->w'.heap[k]?=w.heap[k]?
def Mv (w:World)(og og':Option Nat):Prop:=∀k,og'=some k->og=some k\/w.heap.size<=k
theorem Wr.refl (R:Nat)(og:Option Nat)(w:World):Wr R og w w:=⟨rfl,rfl,rfl,aaa _,fun _ _ _ _=>rfl⟩
theorem Mv.refl (w:World)(og:Option Nat):Mv w og og:=fun _ h=> .inl h
theorem Wr.trans {R:Nat}{og og':Option Nat}{w w' w'':World}(h:Wr R og w w')(hm:Mv w og og')(k:Wr R og' w' w''):Wr R og w w'':=
 ⟨k.os.trans h.os,k.tape.trans h.tape,k.output.trans h.output,aan h.size k.size,fun i hi hR ho=>(k.block i (aaj hi h.size) hR (fun e=>by
  rcases hm i e.symm with E|E
  ·exact ho E.symm
  omega)).trans (h.block i hi hR ho)⟩
theorem Mv.trans {R:Nat}{w w':World}{og og' og'':Option Nat}(h:Mv w og og')(hw:w.heap.size<=w'.heap.size)(k:Mv w' og' og''):Mv w og og'':=fun i hi=>by
 rcases k i hi with E|E
 ·exact h i E
 exact .inr (by omega)
theorem Wr.af {R:Nat}{og:Option Nat}{w w':World}(h:Below w.heap.size w w'):Wr R og w w':=⟨h.os,h.tape,h.output,h.size,fun k hk _ _=>h.block k hk⟩
theorem Wr.cV {R:Nat}{og:Option Nat}{w w':World}(h:w.grownBy w' og):Wr R og w w':=⟨h.os,h.tape,h.output,h.size,fun k hk _ ho=>h.block k hk ho⟩
theorem Wr.aI {R:Nat}{og:Option Nat}(w:World)(o:Nat)(u:Value):Wr R og w (w.setCell ⟨R,o,none⟩ u):=
 ⟨rfl,rfl,rfl,by simp[World.setCell],fun k _ hR _=>aaX w ⟨R,o,none⟩ k u hR⟩
theorem Wr.aX {R B:Nat}{og:Option Nat}{w0 w w':World}(h:Wr R og w w')(hb:Below B w0 w)(hB:B<=w.heap.size)(hR:B<=R)(ho:∀k,og=some k->B<=k):Below B w0 w':=
 ⟨h.os.trans hb.os,h.tape.trans hb.tape,h.output.trans hb.output,aan hb.size h.size,fun k hk=>(h.block k (by omega) (by omega) (fun e=>by have:=ho k e.symm;omega)).trans (hb.block k hk)⟩
theorem Rd.wr {R:Nat}{og:Option Nat}{w w':World}{v:Value}{xs:List Nat}(h:Rd w v xs)(hw:Wr R og w w')(h1:∀k,v.ownBlock=some k->k≠R/\og≠some k):Rd w' v xs:=by obtain⟨I,ao,E,rfl,a1,a2,a3,a4⟩:=h;refine⟨fun k hk=>aaj (I k hk) hw.size,ao,E,rfl,a1,a2,a3,fun i x hx=> ?_⟩;obtain⟨g,o,rfl,H⟩:=a4 i x hx;obtain⟨b1,b2⟩:=h1 g rfl;exact⟨g,o,rfl,(abG (hw.block g (adu w _ H) b1 (fun e=>b2 e.symm))).trans H⟩
def gJ (l:Bytes):List Value:=l.map fun b=> .int .u8 ((b.toNat:Nat):Int)
theorem Qk9 (l:Bytes):(gJ l).length=l.length:=by simp[gJ]
theorem Ak (a b:Bytes):gJ (a++b)=gJ a++gJ b:=by simp[gJ]
theorem Qf0 (l:Bytes):∀u∈gJ l,u.oneCell'=true:=by intro u h;simp only[gJ,adR]at h;obtain⟨d,_,rfl⟩:=h;rfl
theorem Tryz.jf:(Tryz.prog.info? 5).map (fun i=>(i.zero,i.size,i.bytes))=some (some (.int .u8 0),1,1):=by kernel_rfl
def SG (w:World):Prop:=∀d,d<10->w.cell? ⟨4,d,none⟩=some (.int .u8 ((48+d:Nat):Int))
theorem SG.below {w w':World}{B:Nat}(h:SG w)(hb:Below B w w')(hB:4<B):SG w':=fun d hd=>by rw[hb.cell (p:=⟨4,d,none⟩) hB];exact h d hd
theorem SG.wr {R:Nat}{og:Option Nat}{w w':World}(h:SG w)(hw:Wr R og w w')(h1:4≠R)(h2:og≠some 4):SG w':=fun d hd=>(abG (hw.block _ (adu w _ (h d hd)) h1 (fun e=>h2 e.symm))).trans (h d hd)
structure WS (w:World) (R:Nat) (pv ov:Value) (out:Bytes):Prop where
 blk:w.heap[R]?=some (.cells #[.int .i64 10,.int .i64 19,.int .u64 10000000000000000000,pv,ov] 216 (0,0))
 own:w.ownsRow (R+1) 5 1 ov out.length (gJ out)
 big:4<R
theorem WS.ne {w:World}{R:Nat}{pv ov:Value}{out:Bytes}(h:WS w R pv ov out):∀k,ov.ownBlock=some k->R<k/\k<w.heap.size:=fun k hk=>by have:=h.own.lt k hk;omega
theorem WS.lt {w:World}{R:Nat}{pv ov:Value}{out:Bytes}(h:WS w R pv ov out):R<w.heap.size:=(aal.1 h.blk).1
theorem WS.cell {w:World}{R:Nat}{pv ov:Value}{out:Bytes}(h:WS w R pv ov out):w.cell? ⟨R,0,none⟩=some (.int .i64 10)/\w.cell? ⟨R,1,none⟩=some (.int .i64 19)/\w.cell? ⟨R,2,none⟩=some (.int .u64 10000000000000000000)/\w.cell? ⟨R,3,none⟩=some pv/\w.cell? ⟨R,4,none⟩=some ov/\w.frozen? ⟨R,4,none⟩=false:=by refine⟨?_,?_,?_,?_,?_,aaH w R 4 _ _ h.blk⟩<;>rw[aam w R _ _ _ _ h.blk]<;>rfl
theorem WS.kept {w w':World}{R:Nat}{pv ov:Value}{out:Bytes}{row:Option Nat}(h:WS w R pv ov out)(hg:w.grownBy w' row)(h1:row≠some R)(h2:∀k,row=some k->ov.ownBlock≠some k):WS w' R pv ov out:=
 ⟨(hg.block R h.lt (fun e=>h1 e.symm)).trans h.blk,h.own.kept hg (by
  cases ho:ov.ownBlock with
  |none=>exact .inl rfl
  |some k=>exact .inr (fun e=>h2 k e.symm (by rw[ho]))),h.big⟩
theorem WS.below {w w':World}{R:Nat}{pv ov:Value}{out:Bytes}(h:WS w R pv ov out)(hb:Below w.heap.size w w'):WS w' R pv ov out:=
 h.kept (row:=none) ⟨hb.os,hb.tape,hb.output,hb.size,fun k hk _=>hb.block k hk⟩ (by simp) (fun k hk=>by cases hk)
def ZG (w:World)(R:Nat)(pv ov:Value)(out l:Bytes)(e:Ending)(w':World):Prop:=∃ov',e=.returned (.tuple #[])/\WS w' R pv ov' (out++l)/\Wr R ov.ownBlock w w'/\Mv w ov.ownBlock ov'.ownBlock
theorem WS.grow {w w2:World}{R gg n cap:Nat}{pv ov:Value}{out l:Bytes}(h:WS w R pv ov out)(hown:w2.ownsRow (R+1) 5 1 (.slice (some ⟨gg,0,none⟩) n cap) n (gJ out++gJ l))(hn:n=(out++l).length)
  (hg:w.grownBy w2 ov.ownBlock) (hat:ov.ownBlock=some gg\/gg=w.heap.size):
  WS (w2.setCell ⟨R,4,none⟩ (.slice (some ⟨gg,0,none⟩) n cap)) R pv (.slice (some ⟨gg,0,none⟩) n cap) (out++l)/\Wr R ov.ownBlock w (w2.setCell ⟨R,4,none⟩ (.slice (some ⟨gg,0,none⟩) n cap))/\Mv w ov.ownBlock (Value.ownBlock (.slice (some ⟨gg,0,none⟩) n cap)):=by
 have H:some R≠ov.ownBlock:=fun e=>by have:=h.ne R e.symm;omega
 have I:=(hg.block R h.lt H).trans h.blk;have E:=aas w2 R 4 #[.int .i64 10,.int .i64 19,.int .u64 10000000000000000000,pv,ov] 216 (.slice (some ⟨gg,0,none⟩) n cap) I;refine⟨⟨E.trans (by simp),?_,h.big⟩,(Wr.cV hg).trans (Mv.refl _ _) (Wr.aI w2 4 _),?_⟩
 ·subst hn
  rw[Ak];exact ad6 hown (by simp) _
 intro k J
 cases J
 rcases hat with h|h
 ·exact .inl h
 exact .inr (adK h.symm)
theorem Qk6 {a b:Int}(h:a=b):Ending.returned (.int .i64 a)=.returned (.int .i64 b):=by rw[h]
theorem Qyx (r:Nat)(h:r<128):decide (0<=Lib.indexByte [43,45,42,94,39,40,41,91,93,123,125,44,59,58,61] (r:Int).toNat.toUInt8)=decide (r.toUInt8∈([43,45,42,94,39,40,41,91,93,123,125,44,59,58,61]:Bytes)):=by
 have:∀r:Fin 128,decide (0<=Lib.indexByte [43,45,42,94,39,40,41,91,93,123,125,44,59,58,61] ((r.val:Nat):Int).toNat.toUInt8)=decide (r.val.toUInt8∈([43,45,42,94,39,40,41,91,93,123,125,44,59,58,61]:Bytes)):=by decide+kernel
 exact this ⟨r,h⟩
theorem Gs (r:Nat)(w:World)(hr:r<=0x10FFFF):Calls Tryz.prog 200 #[.int .i32 (r:Int)] w fun e w'=>e=.returned (.int .i64 (kindOf r:Nat))/\w=w':=by
 by_cases h1:r=32\/r=9\/r=0xa0
 ·have hk:kindOf r=1:=by unfold kindOf;rw[if_pos h1]
  rw[hk];clear hk;rcases h1 with rfl|rfl|rfl
  all_goals
   go_enter Tryz.func200,Tryz.ntmps200;go_wp2;go_ret;exact⟨rfl,rfl⟩
 by_cases h2:r=35
 ·subst h2
  go_enter Tryz.func200,Tryz.ntmps200;go_wp2;go_ret;exact⟨rfl,rfl⟩
 have n1:((r:Int)==32)=false:=by simp;omega
 have n2:((r:Int)==9)=false:=by simp;omega
 have n3:((r:Int)==160)=false:=by simp;omega
 have n4:((r:Int)==35)=false:=by simp;omega
 by_cases h3:48<=r/\r<=57
 ·have hk:kindOf r=3:=by unfold kindOf;rw[if_neg h1,if_neg h2,if_pos h3]
  rw[hk];clear hk;go_enter Tryz.func200,Tryz.ntmps200;go_wp2;go_ret;exact⟨rfl,rfl⟩
 by_cases wM:r=95
 ·subst wM
  go_enter Tryz.func200,Tryz.ntmps200;go_wp2;go_ret;exact⟨rfl,rfl⟩
 by_cases kL:r=0x2212
 ·subst kL
  go_enter Tryz.func200,Tryz.ntmps200;go_wp2;go_ret;exact⟨rfl,rfl⟩
 by_cases qi:r=0xd7
 ·subst qi
  go_enter Tryz.func200,Tryz.ntmps200;go_wp2;go_ret;exact⟨rfl,rfl⟩
 by_cases qj:r=0xf7
 ·subst qj
  go_enter Tryz.func200,Tryz.ntmps200;go_wp2;go_ret;exact⟨rfl,rfl⟩
 have n6:((r:Int)==95)=false:=by simp;omega
 have n7:((r:Int)==8722)=false:=by simp;omega
 have n8:((r:Int)==215)=false:=by simp;omega
 have n9:((r:Int) !=247)=true:=by simp;omega
 have K:kindOf r=if (97<=r/\r<=122)\/(65<=r/\r<=90) then 4 else if (0xc0<=r/\r<=0x2af)\/(0x370<=r/\r<=0x3ff) then 4
   else if r<0x80/\(r.toUInt8∈([43,45,42,94,39,40,41,91,93,123,125,44,59,58,61]:Bytes)) then 5 else 6:=by
  unfold kindOf;rw[if_neg h1,if_neg h2,if_neg h3];simp only[wM,kL,qi,qj,ae5,aeb,ne_eq,not_false_eq_true,and_true]
 have G:(r<48\/58<=r/\r<65\/91<=r/\r<97\/123<=r/\r<128)\/(65<=r/\r<=90\/97<=r/\r<=122)\/(128<=r/\r<0xc0\/0x2af<r/\r<0x370\/0x3ff<r)\/(0xc0<=r/\r<=0x2af\/0x370<=r/\r<=0x3ff):=by omega
 rcases G with G|G|G|G
 ·have h6:r<128:=by omega
  have K5:(decide (r.toUInt8∈([43,45,42,94,39,40,41,91,93,123,125,44,59,58,61]:Bytes)))=(decide (kindOf r=5)):=by
   rw[K,if_neg (by omega),if_neg (by omega)];by_cases hm:r.toUInt8∈([43,45,42,94,39,40,41,91,93,123,125,44,59,58,61]:Bytes)
   ·rw[if_pos ⟨by omega,hm⟩];simp[hm]
   rw[if_neg (by simp[hm])];simp[hm]
  have K6:kindOf r=5\/kindOf r=6:=by rw[K,if_neg (by omega),if_neg (by omega)];split<;>simp
  have M:=zq (Qyx r h6);rw[K5]at M;clear K K5;generalize kindOf r=k at*;rcases K6 with rfl|rfl
  all_goals
   rcases G with G|G|G|G
   all_goals
    clear h1 h2 h3 wM kL qi qj;go_enter Tryz.func200,Tryz.ntmps200;go_wp2_with (go_at_call 231;refine(Tryz.strings_ContainsRune_ascii _ _ _ (by omega) (by omega)).mono ?_;rintro e w' ⟨rfl,rfl⟩;rw[M.o]);go_ret;exact⟨rfl,rfl⟩
 ·rw[K,if_pos (by omega)]
  clear K;rcases G with G|G
  all_goals
   clear h1 h2 h3 wM kL qi qj;go_enter Tryz.func200,Tryz.ntmps200;go_wp2;go_ret;exact⟨rfl,rfl⟩
 ·rw[K,if_neg (by omega),if_neg (by omega),if_neg (by omega)]
  clear K;rcases G with G|G|G
  all_goals
   clear h1 h2 h3 wM kL qi qj;go_enter Tryz.func200,Tryz.ntmps200;go_wp2;go_ret;exact⟨rfl,rfl⟩
 rw[K,if_neg (by omega),if_pos (by omega)];clear K;rcases G with G|G
 all_goals
  clear h1 h2 h3 wM kL qi qj;go_enter Tryz.func200,Tryz.ntmps200;go_wp2;go_ret;exact⟨rfl,rfl⟩
end Go.Proofs.YtgfmiladfeoldaaGreatDoor
namespace ag
open Go
theorem Qgs (s:ByteArray)(i:Nat):s.get! i=(s.data.toList[i]?).getD default:=by obtain⟨⟨l⟩⟩:=s;simp[ByteArray.get!]
theorem Dm (s:ByteArray)(i:Nat)(hi:i<s.size):Utf8.decode s i=match dec (s.data.toList.drop i) with|some (v,n)=>(v,n)|none=>(0xFFFD,1):=by
 have J:s.size=s.data.toList.length:=abg s
 have O:∀k,s.get! (i+k)=((s.data.toList.drop i)[k]?).getD default:=by intro k;rw[Qgs,adp]
 have K:∀k,i+k<s.size↔k<(s.data.toList.drop i).length:=by intro k;rw[J,aag];omega
 have I:0<(s.data.toList.drop i).length:=by rw[aag];omega
 generalize s.data.toList.drop i=l at*;simp only[Utf8.decode,O,K]
 match l,I with
 |b::t,_=>
  simp only[aeT,aeH,adP,aaf];by_cases h0:b.toNat<0x80
  ·simp[dec,h0]
  simp only[h0,aeb];by_cases h1:b.toNat / 32=6
  ·have h: ¬b.toNat / 16=14:=by omega
   have E: ¬b.toNat / 8=30:=by omega
   match t with
   | []=>simp[dec,h0,h1,Utf8.runeError]
   |c::t=>
    by_cases k1:c.toNat / 64=2
    ·by_cases k2:128<=b.toNat % 32*64+c.toNat % 64
     ·simp[dec,h0,h1,k1,Xo,k2]
     simp[dec,h0,h1,k1,Xo,k2,Utf8.runeError]
    simp[dec,h0,h1,k1,Xo,h,E,Utf8.runeError]
  by_cases h:b.toNat / 16=14
  ·have E: ¬b.toNat / 8=30:=by omega
   match t with
   | []=>simp[dec,h0,h1,h,Utf8.runeError]
   | [c]=>simp[dec,h0,h1,h,Utf8.runeError]
   |c::d::t=>
    have H:∀v:Nat,Utf8.valid (v:Int)=V8 v:=by intro v;simp only[Utf8.valid,V8];rw[abA];simp;omega
    by_cases k1:c.toNat / 64=2
    ·by_cases k2:d.toNat / 64=2
     ·simp only[dec,h0,h1,h,k1,k2,Xo,if_true,aeb,aeW,aeG,Bool.and_true,H,aaf,aeT,aeH]
      by_cases k3:2048<=b.toNat % 16*4096+c.toNat % 64*64+d.toNat % 64/\V8 (b.toNat % 16*4096+c.toNat % 64*64+d.toNat % 64)=true
      ·simp[k2,h1,k3]
      simp[Utf8.runeError,k2,h1,k3]
     simp[dec,h0,h1,h,k1,k2,Xo,E,Utf8.runeError]
    simp[dec,h0,h1,h,k1,Xo,E,Utf8.runeError]
  by_cases E:b.toNat / 8=30
  ·match t with
   | []=>simp[dec,h0,h1,h,E,Utf8.runeError]
   | [c]=>simp[dec,h0,h1,h,E,Utf8.runeError]
   | [c,d]=>simp[dec,h0,h1,h,E,Utf8.runeError]
   |c::d::f::t=>
    have H:∀v:Nat,Utf8.valid (v:Int)=V8 v:=by intro v;simp only[Utf8.valid,V8];rw[abA];simp;omega
    by_cases k1:c.toNat / 64=2
    ·by_cases k2:d.toNat / 64=2
     ·by_cases k4:f.toNat / 64=2
      ·simp only[dec,h0,h1,h,E,k1,k2,k4,Xo,if_true,aeb,aeW,aeG,Bool.and_true,H,aaf,aeT,aeH]
       by_cases k3:65536<=b.toNat % 8*262144+c.toNat % 64*4096+d.toNat % 64*64+f.toNat % 64/\V8 (b.toNat % 8*262144+c.toNat % 64*4096+d.toNat % 64*64+f.toNat % 64)=true
       ·simp[k2,k4,h1,h,k3]
       simp[Utf8.runeError,k2,k4,h1,h,k3]
      simp[dec,h0,h1,h,E,k1,k2,k4,Xo,Utf8.runeError]
     simp[dec,h0,h1,h,E,k1,k2,Xo,Utf8.runeError]
    simp[dec,h0,h1,h,E,k1,Xo,Utf8.runeError]
  simp[dec,h0,h1,h,E,Utf8.runeError]
theorem W0 (s:ByteArray)(i:Nat)(hi:i<s.size):(Utf8.decode s i).1=(val (s.data.toList.drop i)).getD 0xFFFD:=by
 rw[Dm s i hi];unfold val
 cases dec (s.data.toList.drop i)<;>rfl
theorem W5 (s:ByteArray)(i:Nat)(hi:i<s.size):(Utf8.decode s i).2=wid (s.data.toList.drop i):=by
 rw[Dm s i hi];unfold wid
 cases dec (s.data.toList.drop i)<;>rfl
theorem Qdc {l:Bytes}{v:Nat}(h:val l=some v):v<=0x10FFFF:=by
 unfold val at h
 cases hd:dec l with
 |none=>simp[hd]at h
 |some p=>obtain⟨a,b⟩:=p;simp[hd]at h;subst h;exact ZC hd
theorem Qhd (l:Bytes):(val l).getD 0xFFFD=0xFFFD->(Lib.hasPrefix l [239,191,189]=(val l).isSome):=by
 intro h
 cases hv:val l with
 |none=>
  cases hp:Lib.hasPrefix l [239,191,189] with
  |false=>rfl
  |true=>
   exfalso;obtain⟨t,rfl⟩:=List.isPrefixOf_iff_prefix.1 hp
   simp[val,dec,Xo,V8]at hv
 |some v=>
  have h':v=0xFFFD:=by simpa [hv] using h
  subst h';simp only[Option.isSome_some];unfold val at hv;unfold dec at hv;split at hv
  ·simp at hv
  rename_i b t;split at hv
  ·simp at hv;omega
  split at hv
  ·split at hv
   ·split at hv
    ·simp at hv;omega
    simp at hv
   simp at hv
  split at hv
  ·split at hv
   ·rename_i c d r
    split at hv
    ·rename_i k
     simp only[aaY,Xo,adN]at k;simp at hv
     have E:b.toNat=239:=by have:=b.toNat_lt;omega
     have H:c.toNat=191:=by have:=c.toNat_lt;omega
     have I:d.toNat=189:=by have:=d.toNat_lt;omega
     have eb:b=239:=aer.1 E;have ec:c=191:=aer.1 H;have ed:d=189:=aer.1 I;subst eb ec ed;simp[Lib.hasPrefix]
    simp at hv
   simp at hv
  split at hv
  ·split at hv
   ·split at hv
    ·rename_i k
     simp only[aaY,aaV]at k;simp at hv;omega
    simp at hv
   simp at hv
  simp at hv
end ag
namespace Go.Proofs.YtgfmiladfeoldaaGreatDoor
open Go.RowKit ag
theorem Tryz.uz:(Tryz.prog.info? 182).map (fun i=>(i.zero,i.size,i.bytes))=some (some (.agg #[.int .i64 0,.int .i32 0,.int .i64 0]),3,24):=by kernel_rfl
def Qwv (l:Bytes)(w:World)(e:Ending)(w':World):Prop:=
 ∃v,e=.returned v/\w'.ownsRow w.heap.size 182 3 v (Qx l).length (X3 0 (Qx l))/\Below w.heap.size w w'
def Qf4 (s:ByteArray)(w:World)(v:Value)(wr:World):Prop:=
 ∃pos dn,pos<=s.size/\wr.heap[w.heap.size]?=some (.stringIter s pos)/\Below w.heap.size w wr/\Qx s.data.toList=dn++Qx (s.data.toList.drop pos)/\(Qk dn).length=pos/\wr.ownsRow (w.heap.size+1) 182 3 v dn.length (X3 0 dn)
theorem Bv (w:World)(s:ByteArray):(w.iter s 0).heap[w.heap.size]?=some (.stringIter s 0):=World.iter_heap w s 0
theorem Dw (s:ByteArray)(w:World)(hs:s.size<=67108864):Calls Tryz.prog 155 #[.string s] w (Qwv s.data.toList w):=by
 obtain⟨i0,hi,hz0,hz1,hz2⟩:=abO Tryz.uz;go_enter Tryz.func155,Tryz.ntmps155;go_wp2;go_loopw [3] (fun v wr=>Qf4 s w v wr) (fun _ wr=>s.size-wr.iterPos w.heap.size)
 case atStart=>exact⟨0,[],aao _,Bv w s,(aa8 _ _).alloc (aaa _) _,by simp,rfl,adC _ _ _ _⟩
 case round=>
  obtain⟨pos,dn,dC,hit,bz,hch,hlen,hown⟩:=hrel;have hsz:w.heap.size<wr.heap.size:=(aal.1 hit).1;by_cases hlt:pos<s.size
  ·have hn:=fun ty=>Lib.run_next_any_at (P:=Tryz.prog) wr w.heap.size s pos ty hit hlt
   have SD:s.data.toList.drop pos≠[]:=by rw[Ne,aey,<-abg];omega
   have yM:=zq (Ye SD);have cS:=Aw (s.data.toList.drop pos)
   have hk2:pos+wid (s.data.toList.drop pos)<=s.size:=by have:=Kj SD;rw[aag,<-abg]at this;omega
   have hdd:Hid (List.drop (wid (s.data.toList.drop pos)) (s.data.toList.drop pos)=s.data.toList.drop (pos+wid (s.data.toList.drop pos))):=by show _=_;rw[adG]
   have hbl:Hid ((Qk (dn++[(val (s.data.toList.drop pos),List.take (wid (s.data.toList.drop pos)) (s.data.toList.drop pos))])).length=pos+wid (s.data.toList.drop pos)):=by show _=_;simp only[Qk,ad7,aac]at hlen ⊢;rw[hlen];have:=Kj SD;simp;simp at this;omega
   have xi:=zq (Qhd (s.data.toList.drop pos));have nS:∀v,val (s.data.toList.drop pos)=some v->v<=0x10FFFF:=fun v h=>Qdc h;rw[W0 s pos hlt,W5 s pos hlt]at hn;have HCH:=zq hch;have HLEN:=zq hlen
   have hxd:Hid ((s.extract pos s.size).data.toList=s.data.toList.drop pos):=by show _=_;rw[Lib.extract_data,aat (by rw[aag,<-abg];exact aaa _)]
   have pA:dn.length<=67108864:=by have h1:=Ym s.data.toList;rw[hch,aac,<-abg]at h1;omega
   clear hch hlen SD
   have fin:∀(c:C) (v':Value) (w2:World),c=(val (s.data.toList.drop pos),List.take (wid (s.data.toList.drop pos)) (s.data.toList.drop pos))->w2.ownsRow (w.heap.size+1) 182 3 v' (dn.length+1) (X3 0 dn++X3 pos [c])->Below w.heap.size w w2->w2.heap[w.heap.size]?=some (.stringIter s (pos+wid (s.data.toList.drop pos)))->Qf4 s w v' w2/\s.size-w2.iterPos w.heap.size<s.size-wr.iterPos w.heap.size:=by
    intro c v' w2 hc ho hb jV;refine⟨⟨pos+wid (s.data.toList.drop pos),dn++[c],hk2,jV,hb,?_,?_,?_⟩,?_⟩
    ·rw[HCH.o,yM.o,hc,hdd.o];simp
    ·rw[hc];exact hbl.o
    ·rw[Ht,HLEN.o,abx];simpa using ho
    rw[iterPos_of jV,iterPos_of hit];omega
   have ry:=zq fin;clear fin hdd hbl HCH HLEN yM hk2;generalize wid (s.data.toList.drop pos)=k at*;have hW:∃wi:World,wi=wr.iterAt w.heap.size s (pos+k):=⟨_,rfl⟩;obtain⟨wi,ij⟩:=hW
   have q1:wi.ownsRow (w.heap.size+1) 182 3 u3 dn.length (X3 0 dn):=by rw[ij];exact ownsRow_iterAt hown (aet _) _ _
   have q2:Below w.heap.size w wi:=by rw[ij];exact Lib.below_iterAt bz (aaa _) _ _
   have q3:wi.heap[w.heap.size]?=some (.stringIter s (pos+k)):=by rw[ij];exact Lib.iterAt_heap _ _ _ _ _ hit
   have q4:w.heap.size<wi.heap.size:=(aal.1 q3).1;rw[<-ij]at hn;clear ij;have Q3:=zq q3;clear q3
   cases hv:val (s.data.toList.drop pos) with
   |some r=>
    have abz:=nS r hv;rw[hv]at hn xi ry;clear nS hv;simp only[aeH]at hn xi;by_cases hr:r=0xFFFD
    ·subst hr
     have HP:Hid (Lib.hasPrefix (s.data.toList.drop pos) [239,191,189]=true):=xi.o (by first|trivial|rfl);clear xi;go_wp2_with (first|(go_at_call 200;refine(Gs 0xFFFD _ (by omega)).mono ?_;rintro e w' ⟨rfl,rfl⟩)|(go_at_call 201;refine(Tryz.strings_HasPrefix _ _ _).mono ?_;rintro e w' ⟨rfl,rfl⟩;simp only[hxd.o,HP.o])|(at_builtin;refine adO _ rfl _ _ 179 rfl (w.heap.size+1) 182 i0 (.agg #[.int .i64 0,.int .i32 0,.int .i64 0]) 3 24 Tryz.underlying179 hi hz0 hz1 hz2 rfl (by decide) _ _ _ rfl ((q1.alloc _).alloc _) ⟨wi.heap.size+1,0,none⟩ 1 1 (X3 pos [(some 0xFFFD,List.take k (s.data.toList.drop pos))]) rfl rfl ?c1 ?c2 ?c3 ?c4 ?c5 ?_))
     case c1=>exact Qh _ _ _ _ (by simp)
     case c2=>intro u hu;simp[Sy]at hu;rcases hu with rfl|rfl|rfl<;>rfl
     case c3=>unfold maxLen;omega
     case c4=>omega
     case c5=>simp;omega
     intro v' w2 hown2 hgrow2 _
     have ah:=ry.o (some 0xFFFD,List.take k (s.data.toList.drop pos)) v' w2 rfl hown2
      (abq (((q2.alloc (abD q4) _).alloc (by simp;omega) _)) hgrow2 (by simp;omega) (fun k hk=>Nat.le_of_succ_le (q1.lt k hk).1))
      ((hgrow2.block w.heap.size (by simp;omega) (fun e=>by have:=(q1.lt _ e.symm).1;omega)).trans
         ((aeu _ _ _ (by simp;omega)).trans ((aeu _ _ _ q4).trans Q3.o)))
     clear hown2 hgrow2;have HF:=zq ah;clear ah;go_wp2
     first|exact HF.o|exact⟨by (repeat apply Exists.intro);exact⟨HF.o.1,rfl⟩,HF.o.2⟩
    have hr1:((r:Int)==65533)=false:=by simp;omega
    clear xi hxd;go_wp2_with (first|(go_at_call 200;refine(Gs r _ abz).mono ?_;rintro e w' ⟨rfl,rfl⟩)|(at_builtin;refine adO _ rfl _ _ 179 rfl (w.heap.size+1) 182 i0 (.agg #[.int .i64 0,.int .i32 0,.int .i64 0]) 3 24 Tryz.underlying179 hi hz0 hz1 hz2 rfl (by decide) _ _ _ rfl ((q1.alloc _).alloc _) ⟨wi.heap.size+1,0,none⟩ 1 1 (X3 pos [(some r,List.take k (s.data.toList.drop pos))]) rfl rfl ?c1 ?c2 ?c3 ?c4 ?c5 ?_))
    case c1=>exact Qh _ _ _ _ (by simp)
    case c2=>intro u hu;simp[Sy]at hu;rcases hu with rfl|rfl|rfl<;>rfl
    case c3=>unfold maxLen;omega
    case c4=>omega
    case c5=>simp;omega
    intro v' w2 hown2 hgrow2 _
    have ah:=ry.o (some r,List.take k (s.data.toList.drop pos)) v' w2 rfl hown2
     (abq (((q2.alloc (abD q4) _).alloc (by simp;omega) _)) hgrow2 (by simp;omega) (fun k hk=>Nat.le_of_succ_le (q1.lt k hk).1))
     ((hgrow2.block w.heap.size (by simp;omega) (fun e=>by have:=(q1.lt _ e.symm).1;omega)).trans
        ((aeu _ _ _ (by simp;omega)).trans ((aeu _ _ _ q4).trans Q3.o)))
    clear hown2 hgrow2;have HF:=zq ah;clear ah;go_wp2
    first|exact HF.o|exact⟨by (repeat apply Exists.intro);exact⟨HF.o.1,rfl⟩,HF.o.2⟩
   |none=>
    rw[hv]at hn xi ry;clear nS hv;simp only[Option.getD_none]at hn xi;have HP:Hid (Lib.hasPrefix (s.data.toList.drop pos) [239,191,189]=false):=xi.o (by first|trivial|rfl);clear xi;go_wp2_with (first|(go_at_call 200;refine(Gs 0xFFFD _ (by omega)).mono ?_;rintro e w' ⟨rfl,rfl⟩)|(go_at_call 201;refine(Tryz.strings_HasPrefix _ _ _).mono ?_;rintro e w' ⟨rfl,rfl⟩;simp only[hxd.o,HP.o])|(at_builtin;refine adO _ rfl _ _ 179 rfl (w.heap.size+1) 182 i0 (.agg #[.int .i64 0,.int .i32 0,.int .i64 0]) 3 24 Tryz.underlying179 hi hz0 hz1 hz2 rfl (by decide) _ _ _ rfl ((q1.alloc _).alloc _) ⟨wi.heap.size+1,0,none⟩ 1 1 (X3 pos [(none,List.take k (s.data.toList.drop pos))]) rfl rfl ?c1 ?c2 ?c3 ?c4 ?c5 ?_))
    case c1=>exact Qh _ _ _ _ (by simp)
    case c2=>intro u hu;simp[Sy]at hu;rcases hu with rfl|rfl|rfl<;>rfl
    case c3=>unfold maxLen;omega
    case c4=>omega
    case c5=>simp;omega
    intro v' w2 hown2 hgrow2 _
    have ah:=ry.o (none,List.take k (s.data.toList.drop pos)) v' w2 rfl hown2
     (abq (((q2.alloc (abD q4) _).alloc (by simp;omega) _)) hgrow2 (by simp;omega) (fun k hk=>Nat.le_of_succ_le (q1.lt k hk).1))
     ((hgrow2.block w.heap.size (by simp;omega) (fun e=>by have:=(q1.lt _ e.symm).1;omega)).trans
        ((aeu _ _ _ (by simp;omega)).trans ((aeu _ _ _ q4).trans Q3.o)))
    clear hown2 hgrow2;have HF:=zq ah;clear ah;go_wp2
    first|exact HF.o|exact⟨by (repeat apply Exists.intro);exact⟨HF.o.1,rfl⟩,HF.o.2⟩
  have hn:=fun ty=>Lib.run_next_end_at (P:=Tryz.prog) wr w.heap.size s pos ty hit hlt;go_wp2;go_ret
  have:pos=s.size:=by omega
  rw[aef (by rw[<-abg];omega),Zf,ab4]at hch;rw[<-hch]at hown;exact⟨_,rfl,X0 hown (by omega),bz⟩
def Mz (l:Bytes):Nat×Nat:=if (Qx l).all Qe then ((Qx l).length,0) else (0,12)
def Qv3 (l:Bytes)(w:World)(e:Ending)(w':World):Prop:=
 e=.returned (.tuple #[.int .i64 (Mz l).1,.int .i64 (Mz l).2])/\Below w.heap.size w w'
theorem A7 (s:ByteArray)(w:World)(hs:s.size<=67108864):Calls Tryz.prog 91 #[.string s] w (Qv3 s.data.toList w):=by
 go_enter Tryz.func91,Tryz.ntmps91;go_wp2_with fail;refine(Dw s _ hs).mono ?_;rintro e w1 ⟨v,rfl,hown,bz⟩
 have hN:(Qx s.data.toList).length<=67108864:=by have:=Ym s.data.toList;rw[<-abg]at this;omega
 have HR:∀(a:Nat×Nat),a=Mz s.data.toList->Qv3 s.data.toList w (.returned (.tuple #[.int .i64 (a.1:Nat),.int .i64 (a.2:Nat)])) w1:=fun a ha=>⟨by rw[ha],bz⟩
 have HC:Mz s.data.toList=if (Qx s.data.toList).all Qe then ((Qx s.data.toList).length,0) else (0,12):=rfl
 generalize Qx s.data.toList=cs at*;have HR:=zq HR;have HC:=zq HC;obtain⟨ao,cap,rfl,bq,hcm,aU⟩:=Qj hown;go_wp2_with fail;have iw:=zq aU;have HB:=zq bz;clear hown aU bz;go_loopw [4,10] (fun n i wr=> ∃k:Nat,k<=cs.length/\n=.int .i64 k/\i=.int .i64 k/\Below w1.heap.size w1 wr/\(cs.take k).all Qe=true) (fun _ i _=>cs.length-(intOf i).toNat)
 case atStart=>exact⟨0,aao _,rfl,rfl,aa8 _ _,rfl⟩
 case round=>
  obtain⟨k,hk,rfl,rfl,bA,hall⟩:=hrel;have bw:=zq hall;clear hall;by_cases hlt:k<cs.length
  ·obtain⟨c,hc⟩:∃c,cs[k]?=some c:=⟨cs[k],aad hlt⟩
   obtain⟨g,rfl,hbg,lD,hcell⟩:=iw.o (by omega);obtain⟨c1,c2,c3⟩:=Hi cs 0 k c hc
   have e1:wr.cell? ⟨g,k*3,none⟩=some (.int .i64 (kd c:Nat)):=by rw[bA.cell (p:=⟨g,_,none⟩) lD,hcell _ (by omega)];exact c1
   have e2:wr.cell? ⟨g,k*3+1,none⟩=some (.int .i32 (rn c:Nat)):=by rw[bA.cell (p:=⟨g,_,none⟩) lD,hcell _ (by omega)];exact c2
   have e3:wr.cell? ⟨g,k*3+2,none⟩=some (.int .i64 (0+(Qk (cs.take k)).length:Nat)):=by rw[bA.cell (p:=⟨g,_,none⟩) lD,hcell _ (by omega)];exact c3
   have hz:=bA.size;clear c1 c2 c3 hcell iw;have qQ:=zq hc;clear hc;by_cases hb:kd c=0
   ·have hb1:((kd c:Int)==0)=true:=by simp[hb]
    have vF:=zq hb;clear hb;go_wp2;go_ret2
    have:cs.all Qe=false:=by rw[List.all_eq_false];exact⟨c,aah qQ.o,by simp[Qe,vF.o]⟩
    obtain⟨h1,h2⟩:=HR.o (0,12) (by rw[HC.o,this];rfl);exact⟨h1,h2.trans ((bA.mono HB.o.size).alloc (by have:=HB.o.size;omega) _)⟩
   have hb1:((kd c:Int)==0)=false:=by simp[hb]
   go_wp2;exact⟨⟨k+1,by omega,by go_num,by go_num,bA.alloc hz _,by rw[ab2,qQ.o];simp[bw.o,Qe,hb]⟩,by simp[intOf];omega⟩
  go_wp2;go_ret2
  have hk':k=cs.length:=by omega
  have h1:=bw.o;rw[hk',adx]at h1;obtain⟨h1,h2⟩:=HR.o (cs.length,0) (by rw[HC.o,h1];rfl);rw[hk'];exact⟨h1,h2.trans (bA.mono HB.o.size)⟩
def RF (F:Nat)(p:C->Bool):Prop:=
 (∀(args:Array Value) (w:World),(callFunc F args).run Tryz.prog w=.ok (.enter F args) w)/\ ∀(c:C) (q:Nat) (w:World),Calls Tryz.prog F #[.agg #[.int .i64 (kd c:Nat),.int .i32 (rn c:Nat),.int .i64 (q:Nat)]] w fun e w'=>e=.returned (.bool (p c))/\Below w.heap.size w w'
theorem Aj:RF 157 Qe:=by
 refine⟨fun args w=>by kernel_rfl,?_⟩;intro c q w
 have h:Qe c= !((kd c:Int)==0):=by unfold Qe;rw[abA];simp
 rw[h];go_enter Tryz.func157,Tryz.ntmps157;go_wp2;go_ret;exact⟨by simp[bne],(aa8 _ _).alloc (aaa _) _⟩
theorem Qx9:RF 202 Ql:=by
 refine⟨fun args w=>by kernel_rfl,?_⟩;intro c q w
 cases h:((kd c:Int)==3) with
 |true=>
  have E:Ql c=true:=by unfold Ql;simp at h;simp;left;omega
  rw[E];go_enter Tryz.func202,Tryz.ntmps202;go_wp2;go_ret
  exact⟨rfl,(aa8 _ _).alloc (aaa _) _⟩
 |false=>
  have E:Ql c=((rn c:Int)==95):=by unfold Ql;rw[abA];simp at h ⊢;omega
  rw[E];go_enter Tryz.func202,Tryz.ntmps202;go_wp2;go_ret;exact⟨rfl,(aa8 _ _).alloc (aaa _) _⟩
theorem Qvd:RF 206 aL:=by
 refine⟨fun args w=>by kernel_rfl,?_⟩;intro c q w
 cases h:((kd c:Int)==3) with
 |true=>
  have E:aL c=true:=by unfold aL;simp at h;simp;left;omega
  rw[E];go_enter Tryz.func206,Tryz.ntmps206;go_wp2;go_ret
  exact⟨rfl,(aa8 _ _).alloc (aaa _) _⟩
 |false=>
  have E:aL c=((kd c:Int)==4):=by unfold aL;rw[abA];simp at h ⊢;omega
  rw[E];go_enter Tryz.func206,Tryz.ntmps206;go_wp2;go_ret;exact⟨rfl,(aa8 _ _).alloc (aaa _) _⟩
def iJ (w:World)(v:Value)(cs:List C):Prop:=w.ownsRow 0 182 3 v cs.length (X3 0 cs)
theorem iJ.below {w w':World}{v:Value}{cs:List C}(h:iJ w v cs)(hb:Below w.heap.size w w'):iJ w' v cs:=Qg h hb (aaa _)
theorem iJ.shape {w:World}{v:Value}{cs:List C}(h:iJ w v cs):∃ao cap,v=.slice ao cs.length cap/\cs.length<=cap/\cap<=maxLen/\∀k c,cs[k]?=some c-> ∃g,ao=some ⟨g,0,none⟩/\g<w.heap.size/\w.cell? ⟨g,k*3,none⟩=some (.int .i64 (kd c:Nat))/\w.cell? ⟨g,k*3+1,none⟩=some (.int .i32 (rn c:Nat))/\w.cell? ⟨g,k*3+2,none⟩=some (.int .i64 ((Qk (cs.take k)).length:Nat)):=by obtain⟨ao,cap,rfl,J,H,K⟩:=Qj h;refine⟨ao,cap,rfl,J,H,fun k c hc=> ?_⟩;have T:k<cs.length:=(aae.1 hc).1;obtain⟨g,rfl,O,I,E⟩:=K (by omega);obtain⟨c1,c2,c3⟩:=Hi cs 0 k c hc;exact⟨g,rfl,I,by rw[E _ (by omega)];exact c1,by rw[E _ (by omega)];exact c2,by rw[E _ (by omega),c3,abx]⟩
theorem Az (F:Nat)(p:C->Bool)(hF:RF F p)(v:Value)(cs:List C)(i:Nat)(w:World)(hr:iJ w v cs)(hi:i<=cs.length):Calls Tryz.prog 156 #[v,.int .i64 (i:Nat),.func (.func F) #[] #[]] w fun e w'=>e=.returned (.int .i64 (i+Qp p (cs.drop i):Nat))/\Below w.heap.size w w':=by
 obtain⟨ao,cap,rfl,bq,hcm,aU⟩:=hr.shape;have iw:=zq aU;have HF:=zq hF.2;have MA:=hF.1
 have hm:cs.length<=9223372036854775807:=by unfold maxLen at hcm;omega
 clear aU hF hr hcm;go_enter Tryz.func156,Tryz.ntmps156;go_wp2_with fail;go_loopw [1] (fun v wr=> ∃m:Nat,i+m<=cs.length/\v=.int .i64 (i+m:Nat)/\Below w.heap.size w wr/\ ∀c∈(cs.drop i).take m,p c=true) (fun v _=>cs.length-(intOf v).toNat)
 case atStart=>exact⟨0,by omega,rfl,aa8 _ _,by simp⟩
 case round=>
  obtain⟨m,jW,rfl,hb,hall⟩:=hrel;have bw:=zq hall;clear hall;by_cases hlt:i+m<cs.length
  ·obtain⟨c,hc⟩:∃c,cs[i+m]?=some c:=⟨cs[i+m],aad hlt⟩
   obtain⟨g,rfl,lD,e1,e2,e3⟩:=iw.o _ c hc;rw[<-hb.cell (p:=⟨g,_,none⟩) lD]at e1 e2 e3;have HC:=zq hc;have hz:=hb.size;clear hc iw
   cases hp:p c with
   |true=>
    have HP:=zq hp;clear hp;go_wp2_with (refine(HF.o c _ _).mono ?_;rintro e w' ⟨rfl,hb2⟩;rw[HP.o]);refine⟨⟨m+1,by omega,by go_num,hb.trans (hb2.mono hz),?_⟩,by simp[intOf];omega⟩;intro d hd;rw[ab2,adp,HC.o]at hd;simp at hd;rcases hd with hd|rfl
    ·exact bw.o d hd
    exact HP.o
   |false=>
    have HP:=zq hp;clear hp;go_wp2_with (refine(HF.o c _ _).mono ?_;rintro e w' ⟨rfl,hb2⟩;rw[HP.o]);go_ret;have mX:=Wn p (cs.drop i) m (by simp;omega) bw.o (fun d hd=>by rw[adp,HC.o]at hd;cases hd;exact HP.o)
    exact⟨Qk6 (by rw[mX]<;>omega),hb.trans (hb2.mono hz)⟩
  go_wp2;go_ret;have mX:=Wn p (cs.drop i) m (by simp;omega) bw.o (fun d hd=>by rw[adp,aea (by omega)]at hd;cases hd)
  exact⟨Qk6 (by rw[mX]<;>omega),hb⟩
theorem Qk7 {a b:ByteArray}(h:a=b):Ending.returned (.string a)=.returned (.string b):=by rw[h]
theorem Qzx (s:ByteArray)(v:Value)(i j:Nat)(w:World)(hr:iJ w v (Qx s.data.toList))(MV:i<j)(hj:j<=(Qx s.data.toList).length)(_hs:s.size<=67108864):Calls Tryz.prog 203 #[.string s,v,.int .i64 (i:Nat),.int .i64 (j:Nat)] w fun e w'=>e=.returned (.string ⟨(Qk (((Qx s.data.toList).drop i).take (j-i))).toArray⟩)/\ ∃n,w'=w.drewN n:=by
 obtain⟨ao,cap,rfl,bq,hcm,aU⟩:=hr.shape
 have hm:(Qx s.data.toList).length<=9223372036854775807:=by unfold maxLen at hcm;omega
 obtain⟨c,hc⟩:∃c,(Qx s.data.toList)[i]?=some c:=⟨_,aad (by omega)⟩;obtain⟨g,rfl,lD,e1,e2,e3⟩:=aU _ c hc;have M:=zq (Dv s.data.toList i j (by omega));have T:=zq (Yp s.data.toList);have b1:=Wg (Qx s.data.toList) i;have b2:=Wg (Qx s.data.toList) j;rw[T.o,<-abg]at b1 b2
 have b3:(Qk ((Qx s.data.toList).take i)).length<=(Qk ((Qx s.data.toList).take j)).length:=by have:=Wg ((Qx s.data.toList).take j) i;rw[aeK,abd (by omega)]at this;exact this
 clear hcm hr hc;by_cases hlt:j<(Qx s.data.toList).length
 ·obtain⟨d,hd⟩:∃d,(Qx s.data.toList)[j]?=some d:=⟨_,aad hlt⟩
  obtain⟨g',hg',_,d1,d2,d3⟩:=aU _ d hd
  cases hg'
  clear aU hd T;generalize (Qk ((Qx s.data.toList).take i)).length=A at*;generalize (Qk ((Qx s.data.toList).take j)).length=B at*;generalize Qk (((Qx s.data.toList).drop i).take (j-i))=Z at*;generalize (Qx s.data.toList).length=N at*;go_enter Tryz.func203,Tryz.ntmps203;go_wp2;go_quiet (fail);go_wp2;go_ret;exact⟨Qk7 (by rw[Lib.extract_eq,M.o]),_,rfl⟩
 have uY:j=(Qx s.data.toList).length:=by omega
 have M2:Hid (s.extract (Qk ((Qx s.data.toList).take i)).length s.size=⟨(Qk (((Qx s.data.toList).drop i).take (j-i))).toArray⟩):=by show _=_;have h1:=M.o;rw[uY,adx,T.o,<-abg]at h1;rw[Lib.extract_eq,uY,<-h1]
 clear aU M T uY;generalize (Qk ((Qx s.data.toList).take i)).length=A at*;generalize (Qk ((Qx s.data.toList).take j)).length=B at*;generalize Qk (((Qx s.data.toList).drop i).take (j-i))=Z at*;generalize (Qx s.data.toList).length=N at*;go_enter Tryz.func203,Tryz.ntmps203;go_wp2;go_ret;exact⟨Qk7 M2.o,0,rfl⟩
def N9 (c:C):Prop:=kd c=5->rn c<128->c.2=[(rn c).toUInt8]
theorem C6:∀r:Fin 128,Utf8.encode (r.val:Int)=⟨#[r.val.toUInt8]⟩:=by decide+kernel
theorem Qhw (c:C)(w:World)(hk:kd c=5)(hc:N9 c):Calls Tryz.prog 207 #[.int .i32 (rn c:Nat)] w fun e w'=>e=.returned (.string ⟨(Zc c).toArray⟩)/\w=w':=by
 have h5:rn c=0x2212\/rn c=0xd7\/rn c<128:=by
  unfold kd at hk;unfold rn
  cases hv:c.1 with
  |none=>rw[hv]at hk;simp at hk
  |some v=>
   rw[hv]at hk;simp only at hk ⊢;unfold kindOf at hk
   repeat' split at hk
   all_goals omega
 by_cases h1:rn c=0x2212
 ·have hs:Zc c=[45]:=by unfold Zc;rw[if_pos h1]
  rw[hs,h1];clear hs h1 h5 hc hk;go_enter Tryz.func207,Tryz.ntmps207;go_wp2;go_ret;exact⟨rfl,rfl⟩
 by_cases h2:rn c=0xd7
 ·have hs:Zc c=[42]:=by unfold Zc;rw[if_neg h1,if_pos h2]
  rw[hs,h2];clear hs h1 h2 h5 hc hk;go_enter Tryz.func207,Tryz.ntmps207;go_wp2;go_ret;exact⟨rfl,rfl⟩
 have h3:rn c<128:=by omega
 have hs:Zc c=[(rn c).toUInt8]:=by unfold Zc;rw[if_neg h1,if_neg h2,hc hk h3]
 have he:=C6 ⟨rn c,h3⟩;simp only at he;rw[hs]
 have n1:((rn c:Int)==8722)=false:=by simp;omega
 have n2:((rn c:Int)==215)=false:=by simp;omega
 have HE:=zq he;clear hs h1 h2 h5 hc hk he;go_enter Tryz.func207,Tryz.ntmps207;go_wp2;go_ret;exact⟨by rw[HE.o];rfl,rfl⟩
def Xy (cs:List C)(i:Nat)(c:C):Nat×Bytes×Nat×Nat:=
 if kd c=0 then (0,[],i,12)
 else if kd c=3 then (1,Qk ((cs.drop i).take (Qp Ql (cs.drop i))),if Jf (Qk ((cs.drop i).take (Qp Ql (cs.drop i)))) then (i,7) else (i+Qp Ql (cs.drop i),0))
 else if kd c=4 then (2,Qk ((cs.drop i).take (Qp aL (cs.drop i))),if 32<(Qk ((cs.drop i).take (Qp aL (cs.drop i)))).length then (i,17) else (i+Qp aL (cs.drop i),0))
 else if kd c=5 then (3,Zc c,i+1,0)
 else (0,[],i,13)
def Sj (r:Nat×Bytes×Nat×Nat)(i:Nat)(w:World)(e:Ending)(w':World):Prop:=
 e=.returned (.tuple #[.agg #[.int .i64 (r.1:Nat),.string ⟨r.2.1.toArray⟩,.int .i64 (i+1:Nat)],.int .i64 (r.2.2.1:Nat),.int .i64 (r.2.2.2:Nat)])/\Below w.heap.size w w'
theorem Jo {r:Nat×Bytes×Nat×Nat}{i:Nat}{w w':World}(a b c d e:Value)(ha:a=.int .i64 (r.1:Nat))(hb:b=.string ⟨r.2.1.toArray⟩)(hc:c=.int .i64 (i+1:Nat))(hd:d=.int .i64 (r.2.2.1:Nat))
  (he:e=.int .i64 (r.2.2.2:Nat)) (hw:Below w.heap.size w w'):Sj r i w (.returned (.tuple #[.agg #[a,b,c],d,e])) w':=by
 subst ha hb hc hd he;exact⟨rfl,hw⟩
theorem Qj0 (s:ByteArray)(v:Value)(cs:List C)(i:Nat)(c:C)(w:World)(hr:iJ w v cs)(hc:cs[i]?=some c)(hn:cs.length<=67108864)(hk:kd c=0\/kd c=6\/kd c=5)(vd:N9 c):Calls Tryz.prog 158 #[.string s,v,.int .i64 (i:Nat)] w (Sj (Xy cs i c) i w):=by
 obtain⟨ao,cap,rfl,bq,hcm,aU⟩:=hr.shape;obtain⟨g,rfl,lD,e1,e2,e3⟩:=aU _ c hc;have hlt:i<cs.length:=(aae.1 hc).1;clear aU hr hc hcm;rcases hk with hk|hk|hk
 ·have hres:Xy cs i c=(0,[],i,12):=by unfold Xy;rw[if_pos hk]
  rw[hres];rw[hk]at e1;clear hres hk;go_enter Tryz.func158,Tryz.ntmps158;go_wp2;refine aaI (by simp[results,Tryz.results158,go_sem];first|rfl|exact⟨rfl,rfl⟩|exact⟨rfl,rfl,rfl⟩) rfl (Jo _ _ _ _ _ rfl rfl (by first|rfl|simp) rfl rfl ?_);go_grown
 ·have hres:Xy cs i c=(0,[],i,13):=by unfold Xy;simp[hk]
  rw[hres];rw[hk]at e1;clear hres hk;go_enter Tryz.func158,Tryz.ntmps158;go_wp2;refine aaI (by simp[results,Tryz.results158,go_sem];first|rfl|exact⟨rfl,rfl⟩|exact⟨rfl,rfl,rfl⟩) rfl (Jo _ _ _ _ _ rfl rfl (by first|rfl|simp) rfl rfl ?_);go_grown
 have hres:Xy cs i c=(3,Zc c,i+1,0):=by unfold Xy;simp[hk]
 have HK:=zq hk;rw[hres];rw[hk]at e1;clear hres hk;go_enter Tryz.func158,Tryz.ntmps158;go_wp2_with (go_at_call 207;refine(Qhw c _ HK.o vd).mono ?_;rintro e w' ⟨rfl,rfl⟩);refine aaI (by simp[results,Tryz.results158,go_sem];first|rfl|exact⟨rfl,rfl⟩|exact⟨rfl,rfl,rfl⟩) rfl (Jo _ _ _ _ _ rfl rfl (by first|rfl|simp) (by first|rfl|simp) rfl ?_);go_grown
end Go.Proofs.YtgfmiladfeoldaaGreatDoor
