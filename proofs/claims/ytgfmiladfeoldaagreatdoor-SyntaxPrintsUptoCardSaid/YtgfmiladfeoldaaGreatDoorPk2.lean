import Derived.Test.YtgfmiladfeoldaaGreatDoorPk1
import Derived.Deep.DeepCutAuto
import Derived.Deep.CutBlock
import Derived.Shelf.Spec.BitsCarry
import Derived.StillTailTactics
import Derived.Deep.RegionHeld3
set_option linter.unusedSimpArgs false
set_option linter.unusedVariables false
set_option maxRecDepth 100000
set_option maxHeartbeats 16000000
namespace Go.Proofs.YtgfmiladfeoldaaGreatDoor
open Go.RowKit ai
theorem Qz9 {W u1 v1 v0 d rest b:Nat}(h:d*v1+rest=W)(hW:W<v1*b+v0)(hv0:v0<b)(hr:b<=rest)(hg:(W*b+u1) / (v1*b+v0)<=d):(W*b+u1) / (v1*b+v0)=d:=by
 have H:d<b:=by refine Nat.lt_of_not_le fun H=> ?_;have E:b*v1<=d*v1:=abW _ H;rw[aaW b v1]at E;omega
 refine Qkg h ?_ hg (by omega);have E:d*v0<=b*b:=ab7 (by omega) (by omega);have I:b*b<=rest*b:=abW _ hr;omega
def Hc (v1 W Q:Nat)(d rr:Value):Prop:=∃dn rn:Nat,d=.int .u64 (dn:Nat)/\rr=.int .u64 (rn:Nat)/\Hid (dn*v1+rn=W)/\Hid (Q<=dn)/\rn<4294967296/\dn<=8589934592
theorem Qwg {W u1 v1 v0 d Q:Nat}(hQ:Q=(W*4294967296+u1) / (v1*4294967296+v0))(hd:4294967296<=d)(hW:W<v1*4294967296+v0)(hu:u1<4294967296):Q<=d-1:=by have:=Qz8 hW hu;rw[<-hQ]at this;omega
structure Down (v1 W Q dn rn d2 r2:Nat):Prop where
 f1:IntKind.u64.wrap ((dn:Int)-1)=(d2:Int)
 f2:IntKind.u64.wrap ((rn:Int)+(v1:Int))=(r2:Int)
 lt:d2<dn
 way:(decide ((4294967296:Int)<=(r2:Int))=true/\Q=d2)\/(decide ((4294967296:Int)<=(r2:Int))=false/\Hc v1 W Q (.int .u64 (d2:Nat)) (.int .u64 (r2:Nat)))
structure Test (v0 u1 dn rn m k z:Nat):Prop where
 f3:IntKind.u64.wrap ((dn:Int)*(v0:Int))=(m:Int)
 f4:IntKind.u64.wrap (4294967296*(rn:Int))=(k:Int)
 f5:IntKind.u64.wrap ((k:Int)+(u1:Int))=(z:Int)
theorem Db {W u1 v1 v0 Q y2 dn rn:Nat}(hQ:Q=(W*4294967296+u1) / (v1*4294967296+v0))(hV:v1*4294967296+v0=y2)(hW:W<y2)(hv0:v0<4294967296)(hu:u1<4294967296)(hl:2147483648<=v1)(hh:v1<4294967296)
  (hi:dn*v1+rn=W) (hg:Q<=dn) (hr:rn<4294967296) (hd:dn<=8589934592):
  (decide ((4294967296:Int)<=(dn:Int))=true/\ ∃d2 r2,Down v1 W Q dn rn d2 r2)\/
  (decide ((4294967296:Int)<=(dn:Int))=false/\ ∃m k z,Test v0 u1 dn rn m k z/\((decide (z<m)=true/\ ∃d2 r2,Down v1 W Q dn rn d2 r2)\/(decide (z<m)=false/\Q=dn))):=by
 have E:0<dn->Q<=dn-1-> ∃d2 r2,Down v1 W Q dn rn d2 r2:=by
  intro h0 J
  have I:(dn-1)*v1+(rn+v1)=W:=by obtain⟨k,rfl⟩:∃k,dn=k+1:=⟨dn-1,by omega⟩;rw[ab5,ad0]at hi;rw[adQ];omega
  refine⟨dn-1,rn+v1,by rw[abV];omega,by rw[abV];omega,by omega,?_⟩;by_cases ho:4294967296<=rn+v1
  ·refine .inl ⟨by simp only[aaV];omega,?_⟩
   rw[hQ];exact Qz9 I (by rw[hV];exact hW) hv0 ho (by rw[<-hQ];exact J)
  exact .inr ⟨by simp only[ael];omega,dn-1,rn+v1,rfl,rfl,I,J,by omega,by omega⟩
 by_cases hb:4294967296<=dn
 ·exact .inl ⟨by simp only[aaV];omega,E (by omega) (Qwg hQ hb (by rw[hV];exact hW) hu)⟩
 obtain⟨m,H⟩:=xq (dn*v0);obtain⟨k,T⟩:=xq (4294967296*rn);obtain⟨z,U⟩:=xq (k+u1)
 have Z:m<=18446744065119617025:=by
  have K:dn<=4294967295:=by omega
  have O:v0<=4294967295:=by omega
  have h3:=ab7 K O;rw[H];omega
 have e:((dn:Int)*(v0:Int))=(m:Int):=by rw[H,ad1]
 have g3:IntKind.u64.wrap ((dn:Int)*(v0:Int))=(m:Int):=by rw[e];exact Wq _ (by omega)
 have g4:IntKind.u64.wrap (4294967296*(rn:Int))=(k:Int):=by rw[abV];omega
 have g5:IntKind.u64.wrap ((k:Int)+(u1:Int))=(z:Int):=by rw[abV];omega
 refine .inr ⟨by simp only[ael];omega,m,k,z,⟨g3,g4,g5⟩,?_⟩
 have e2:rn*4294967296+u1=z:=by rw[U,T,aaW]
 rw[H];by_cases ht:z<dn*v0
 ·refine .inl ⟨by simp only[aaV];exact ht,E ?_ ?_⟩
  ·refine aeM fun h=> ?_
   rw[h,aeD]at ht;omega
  rw[hQ];exact Qbg hi (by rw[e2];exact ht) (by omega)
 refine .inr ⟨by simp only[ael];exact ht,?_⟩;rw[hQ];exact Qkg hi (by rw[e2];omega) (by rw[<-hQ];exact hg) (by omega)
structure Left (W u1 Q y2 A1 A2 A3 X:Nat):Prop where
 g1:IntKind.u64.wrap ((W:Int)*4294967296)=(A1:Int)
 g2:IntKind.u64.wrap ((A1:Int)+(u1:Int))=(A2:Int)
 g3:IntKind.u64.wrap ((Q:Int)*(y2:Int))=(A3:Int)
 g4:IntKind.u64.wrap ((A2:Int)-(A3:Int))=(X:Int)
 gx:X=(W*4294967296+u1) % y2
theorem Gr {W u1 Q y2:Nat}(hQ:Q=(W*4294967296+u1) / y2)(h0:0<y2)(hy:y2<18446744073709551616):∃A1 A2 A3 X,Left W u1 Q y2 A1 A2 A3 X:=by
 obtain⟨N,H⟩:=xq (W*4294967296+u1);rw[<-H]at hQ;have h:=ad5 N y2;rw[<-hQ,aaW]at h;have I:=ad8 N h0;obtain⟨P,E⟩:=xq (Q*y2);rw[<-E]at h
 have e3:((Q:Int)*(y2:Int))=(P:Int):=by rw[E,ad1]
 refine⟨W*4294967296 % 18446744073709551616,N % 18446744073709551616,P % 18446744073709551616,N % y2,?_,?_,?_,?_,by rw[H]⟩
 ·rw[abV];omega
 ·clear E hQ I h e3
  rw[abV];omega
 ·rw[e3,abV];omega
 clear E hQ e3 H;generalize N % y2=X at*;rw[abV];omega
theorem Qbh {hi lo y s n W t u1 u0 Q Q2 X:Nat}(hP:0<2^n)(hS:0<2^s)(hT:18446744073709551616=2^n*2^s)(hW:W=hi*2^s+lo / 2^n)(ht:t=lo*2^s % 18446744073709551616)
  (xz:u1=t / 4294967296) (uk:u0=t % 4294967296) (hQ:Q=(W*4294967296+u1) / (y*2^s)) (hX:X=(W*4294967296+u1) % (y*2^s)) (SE:Q2=(X*4294967296+u0) / (y*2^s)) (hy:0<y):
  (hi*18446744073709551616+lo) / y=Q*4294967296+Q2/\(hi*18446744073709551616+lo) % y=(X*4294967296+u0) % (y*2^s) / 2^s:=by
 have h:=Qx0 (hi:=hi) (lo:=lo) hS hT;rw[<-hW,<-ht]at h
 have E:W*18446744073709551616+t=(W*4294967296+u1)*4294967296+u0:=by omega
 rw[E]at h;obtain⟨b1,b2⟩:=Fe (N:=hi*18446744073709551616+lo) (y:=y) hS;have H:0<y*2^s:=aeO hy hS;obtain⟨d1,d2⟩:=Qvn (by omega) H h;rw[<-hQ,<-hX,<-SE]at d1;rw[<-hX]at d2;exact⟨by rw[b1,d1],by rw[b2,d2]⟩
theorem Ko (y:Nat)(h0:0<y)(h:y<18446744073709551616):∃n,Lib.bitLen y=n/\1<=n/\n<=64/\9223372036854775808<=y*2^(64-n)/\y*2^(64-n)<18446744073709551616:=by
 obtain⟨H,I,J⟩:=Lib.bitLenAux_bounds 64 y h (by omega);have E:=Lib.bitLen_le y 64 (aaa _) h;refine⟨Lib.bitLenAux 64 y,rfl,H,E,?_,?_⟩
 ·have e:(9223372036854775808:Nat)=2^(Lib.bitLenAux 64 y-1)*2^(64-Lib.bitLenAux 64 y):=by
   rw[<-ad3,show Lib.bitLenAux 64 y-1+(64-Lib.bitLenAux 64 y)=63 from by have:Lib.bitLenAux 64 y<=64:=E;omega]
  rw[e];exact abW _ I
 have e:(18446744073709551616:Nat)=2^(Lib.bitLenAux 64 y)*2^(64-Lib.bitLenAux 64 y):=by rw[<-ad3,show Lib.bitLenAux 64 y+(64-Lib.bitLenAux 64 y)=64 from by have:Lib.bitLenAux 64 y<=64:=E;omega]
 rw[e];exact Nat.mul_lt_mul_of_pos_right J (adZ (by omega))
def Qch (hi lo y:Nat)(w:World)(e:Ending)(w':World):Prop:=
 e=.returned (.tuple #[.int .u64 ((hi*BB+lo) / y:Nat),.int .u64 ((hi*BB+lo) % y:Nat)])/\w=w'
theorem Qjq (hi lo y:Nat)(w:World)(ei:lo<BB)(uX:hi<y)(hh0:0<hi)(hy:y<BB):Calls Tryz.prog 277 #[.int .u64 (hi:Nat),.int .u64 (lo:Nat),.int .u64 (y:Nat)] w (Qch hi lo y w):=by
 have LC:BB=18446744073709551616:=rfl;rw[LC]at ei hy;clear LC
 have hyz:((y:Int)==0)=false:=by simp;omega
 have hhz:((hi:Int)==0)=false:=by simp;omega
 obtain⟨n,hn,jE,jX,lI,ik⟩:=Ko y (by omega) hy;obtain⟨s,hs⟩:=xq (64-n);rw[<-hs]at lI ik
 have xw:s<=63:=by omega
 have E1:IntKind.u64.wrap (64-(n:Int))=(s:Int):=by rw[abV];omega
 have E1b:IntKind.u64.wrap (64-(s:Int))=(n:Int):=by rw[abV];omega
 have E2:min s 64=s:=by omega
 have E2b:min n 64=n:=by omega
 obtain⟨y2,je⟩:=xq (y*2^s)
 have E3:IntKind.u64.wrap ((y:Int)*2^s)=(y2:Int):=by
  have e:((y:Int)*2^s)=((y*2^s:Nat):Int):=by rw[ad1,aeq];rfl
  rw[e,<-je];exact Wq _ (by rw[je];exact ik)
 rw[<-je]at lI ik;obtain⟨v1,gB⟩:=xq (y2 / 4294967296)
 have eG:2147483648<=v1/\v1<4294967296:=by omega
 have E4:(y2:Int) / 4294967296=(v1:Int):=by omega
 have adb:((v1:Int)==0)=false:=by simp;omega
 have SV:0<2^n:=adZ (by omega);have tW:0<2^s:=adZ (by omega)
 have hT:18446744073709551616=2^n*2^s:=by rw[<-ad3,show n+s=64 from by omega]
 have iE:=Qhj (P:=2^n) (S:=2^s) SV hT uX ei;rw[<-je]at iE;obtain⟨a1,ha1⟩:=xq (hi*2^s);obtain⟨b1,hb1⟩:=xq (lo / 2^n);obtain⟨W,hW⟩:=xq (a1+b1);rw[<-ha1,<-hb1,<-hW]at iE
 have E5:IntKind.u64.wrap ((hi:Int)*2^s)=(a1:Int):=by
  have e:((hi:Int)*2^s)=((hi*2^s:Nat):Int):=by rw[ad1,aeq];rfl
  rw[e,<-ha1];exact Wq _ (by omega)
 have E6:(lo:Int) / 2^n=(b1:Int):=by
  have e:(lo:Int) / 2^n=((lo / 2^n:Nat):Int):=by rw[Int.natCast_ediv,aeq];rfl
  rw[e,<-hb1]
 have E7:bits BinOp.or IntKind.u64 (a1:Int) (b1:Int)=(W:Int):=by rw[hW];refine Bu a1 b1 s (by omega) (by rw[ha1];exact Nat.mul_mod_left _ _) ?_ (by omega);rw[hb1,adL SV,aaW,<-hT];exact ei
 obtain⟨t,ht⟩:=xq (lo*2^s % 18446744073709551616)
 have qH:t<18446744073709551616:=by omega
 have E8:IntKind.u64.wrap ((lo:Int)*2^s)=(t:Int):=by
  have e:((lo:Int)*2^s)=((lo*2^s:Nat):Int):=by rw[ad1,aeq];rfl
  rw[e,abV,ht];rfl
 obtain⟨u1,xz⟩:=xq (t / 4294967296);obtain⟨u0,uk⟩:=xq (t % 4294967296);obtain⟨v0,hv0⟩:=xq (y2 % 4294967296)
 have E9:(t:Int) / 4294967296=(u1:Int):=by omega
 have E10:bits BinOp.and IntKind.u64 (t:Int) 4294967295=(u0:Int):=by rw[uk];exact Qcj t qH
 have E11:bits BinOp.and IntKind.u64 (y2:Int) 4294967295=(v0:Int):=by rw[hv0];exact Qcj y2 ik
 obtain⟨q,hq⟩:=xq (W / v1);obtain⟨p,hp⟩:=xq (q*v1);obtain⟨r,hr⟩:=xq (W % v1)
 have hdm:p+r=W:=by have:=ad5 W v1;rw[<-hq,<-hr,aaW,<-hp]at this;exact this
 have hqW:q<=W:=by rw[hq];exact Nat.div_le_self _ _
 have E12:(W:Int) / (v1:Int)=(q:Int):=by rw[hq];rfl
 have ack:IntKind.u64.wrap (q:Int)=(q:Int):=Wq _ (by omega)
 have E13:IntKind.u64.wrap ((q:Int)*(v1:Int))=(p:Int):=by
  have e:((q:Int)*(v1:Int))=((q*v1:Nat):Int):=by rw[ad1]
  rw[e,<-hp];exact Wq _ (by omega)
 have E14:IntKind.u64.wrap ((W:Int)-(p:Int))=(r:Int):=by rw[abV];omega
 have XX:=zq ha1;have XY:=zq hb1;have HhW:=zq hW;have Hht:=zq ht;have KG:=zq xz;have KF:=zq uk;have KH:=zq hv0;have Hhq:=zq hq;have Hhp:=zq hp;have Hhr:=zq hr;have HhT:=zq hT;have KD:=zq hdm;have Hhs:=zq hs;have wD:=zq je;have YD:=zq gB;have XZ:=zq SV;have YA:=zq tW;have Hhn:=zq hn;clear ha1 hb1 hW ht xz uk hv0 hq hp hr hT hdm hs je gB SV tW;go_enter Tryz.func277,Tryz.ntmps277;go_wp2_with fail;refine(Tryz.bits_LeadingZeros64 (y:Int) _ (by omega) (by omega)).mono ?_;rintro e w1 ⟨rfl,rfl⟩;rw[ae2,hn];obtain⟨Q,hQ⟩:=xq ((W*4294967296+u1) / (v1*4294967296+v0));have HQ:=zq hQ;clear hQ
 have oU:v0<4294967296:=by rw[KH.o];exact ad8 _ (by omega)
 have nj:u1<4294967296:=by rw[KG.o];omega
 have HV:Hid (v1*4294967296+v0=y2):=by show _=_;rw[KH.o,YD.o];omega
 have qE:q<=8589934592:=by have h1:=KD.o;rw[Hhp.o]at h1;refine aeV fun h2=> ?_;have h3:8589934593*2147483648<=q*v1:=ab7 h2 eG.1;omega
 have rk:r<4294967296:=by rw[Hhr.o];exact aed (ad8 _ (by omega)) eG.2
 have HST:Hid (Hc v1 W Q (.int .u64 (q:Nat)) (.int .u64 (r:Nat))):=⟨q,r,rfl,rfl,by show _=_;rw[<-Hhp.o];exact KD.o,by
  show _<=_
  rw[HQ.o,Hhq.o];exact Qqq nj (by omega),rk,qE⟩
 obtain⟨uq,um⟩:=eG;go_upto_block 0 with fail;go_cut [15,16] (fun d _ wx=>d=.int .u64 (Q:Nat)/\wx=w1)
 case first=>
  go_wp2_with fail;have AO:=zq uq;have AL:=zq um;have AJ:=zq oU;have JR:=zq nj;have JJ:=zq iE;have HQB:=zq qE;have vV:=zq rk;have AG:=zq qH;have uM:=zq ei;have HY:=zq hy;have acr:=zq lI;have acp:=zq ik;have HHI:=zq uX;have HQW:=zq hqW;clear uq um oU nj iE qE rk qH ei hy lI ik uX hqW;go_loopw [15,16] (fun d rr wr=>Hc v1 W Q d rr/\wr=w1) (fun d _ _=>(intOf d).toNat)
  case atStart=>exact⟨HST.o,rfl⟩
  case round=>
   obtain⟨⟨dn,rn,rfl,rfl,dc,hg1,xu,pA⟩,rfl⟩:=hrel;have JB:=zq xu;have Ix:=zq pA;clear xu pA;have HC:=zq (Db HQ.o HV.o JJ.o AJ.o JR.o AO.o AL.o dc.o hg1.o JB.o Ix.o);rcases HC.o with ⟨t1,d2,r2,jx⟩|⟨t1,m,k,z,na,⟨t3,d2,r2,jx⟩|⟨t3,hq⟩⟩
   ·obtain⟨f1,f2,hlt,⟨t2,hq⟩|⟨t2,hrel⟩⟩:=jx
    ·have cY:=zq hq
     clear hq hlt;go_wp2_with fail;go_meet;exact⟨by rw[cY.o],rfl⟩
    have cZ:=zq hrel;clear hrel;go_wp2_with fail;have ah:=cZ.o
    first|exact⟨ah,by simp[intOf];omega⟩|exact⟨⟨ah,rfl⟩,by simp[intOf];omega⟩|exact⟨by (repeat apply Exists.intro);first|exact⟨ah,rfl⟩|exact⟨⟨ah,rfl⟩,rfl⟩|exact⟨ah,trivial⟩|exact⟨⟨ah,trivial⟩,rfl⟩,by simp[intOf];omega⟩
   ·obtain⟨f3,f4,f5⟩:=na
    obtain⟨f1,f2,hlt,⟨t2,hq⟩|⟨t2,hrel⟩⟩:=jx
    ·have cY:=zq hq
     clear hq hlt;go_wp2_with fail;go_meet;exact⟨by rw[cY.o],rfl⟩
    have cZ:=zq hrel;clear hrel;go_wp2_with fail;have ah:=cZ.o
    first|exact⟨ah,by simp[intOf];omega⟩|exact⟨⟨ah,rfl⟩,by simp[intOf];omega⟩|exact⟨by (repeat apply Exists.intro);first|exact⟨ah,rfl⟩|exact⟨⟨ah,rfl⟩,rfl⟩|exact⟨ah,trivial⟩|exact⟨⟨ah,trivial⟩,rfl⟩,by simp[intOf];omega⟩
   obtain⟨f3,f4,f5⟩:=na;have cY:=zq hq;clear hq;go_wp2_with fail;go_meet;exact⟨by rw[cY.o],rfl⟩
 case rest=>
  obtain⟨rfl,hwc⟩:=hcut;subst wc;clear HST;obtain⟨A1,A2,A3,X,hL⟩:=Gr (W:=W) (u1:=u1) (Q:=Q) (y2:=y2) (by rw[HQ.o,HV.o]) (by omega) ik;have HX:=zq hL.gx
  have hXy:X<y2:=by rw[HX.o];exact ad8 _ (by omega)
  obtain⟨L1,L2,L3,L4,-⟩:=hL;obtain⟨q2,vh⟩:=xq (X / v1);obtain⟨p2,jG⟩:=xq (q2*v1);obtain⟨r2,hr2⟩:=xq (X % v1)
  have MF:p2+r2=X:=by have:=ad5 X v1;rw[<-vh,<-hr2,aaW,<-jG]at this;exact this
  have hqX:q2<=X:=by rw[vh];exact Nat.div_le_self _ _
  have M12:(X:Int) / (v1:Int)=(q2:Int):=by rw[vh];rfl
  have acs:IntKind.u64.wrap (q2:Int)=(q2:Int):=Wq _ (by omega)
  have M13:IntKind.u64.wrap ((q2:Int)*(v1:Int))=(p2:Int):=by
   have e:((q2:Int)*(v1:Int))=((q2*v1:Nat):Int):=by rw[ad1]
   rw[e,<-jG];exact Wq _ (by omega)
  have M14:IntKind.u64.wrap ((X:Int)-(p2:Int))=(r2:Int):=by rw[abV];omega
  have YB:=zq vh;have KE:=zq jG;have YC:=zq hr2;have yB:=zq MF;clear vh jG hr2 MF;obtain⟨Q2,SE⟩:=xq ((X*4294967296+u0) / (v1*4294967296+v0));have cY:=zq SE
  have qJ:u0<4294967296:=by rw[KF.o];exact ad8 _ (by omega)
  have Oi:q2<=8589934592:=by have h1:=yB.o;rw[KE.o]at h1;refine aeV fun h2=> ?_;have h3:8589934593*2147483648<=q2*v1:=ab7 h2 uq;omega
  have Ol:r2<4294967296:=by rw[YC.o];exact aed (ad8 _ (by omega)) um
  have ee:Hid (Hc v1 X Q2 (.int .u64 (q2:Nat)) (.int .u64 (r2:Nat))):=⟨q2,r2,rfl,rfl,by show _=_;rw[<-KE.o];exact yB.o,by
   show _<=_
   rw[cY.o,YB.o];exact Qqq qJ (by omega),Ol,Oi⟩
  clear SE;go_upto_block 2 with fail;go_cut [18,16] (fun d _ wx=>d=.int .u64 (Q2:Nat)/\wx=w1)
  case first=>
   go_wp2_with fail;have AO:=zq uq;have AL:=zq um;have AJ:=zq oU;have JR:=zq nj;have XE:=zq qJ;have HXY:=zq hXy;clear uq um oU nj iE qE rk qH ei hy lI ik uX hqW hXy qJ Oi Ol hqX;go_loopw [18,16] (fun d rr wr=>Hc v1 X Q2 d rr/\wr=w1) (fun d _ _=>(intOf d).toNat)
   case atStart=>exact⟨ee.o,rfl⟩
   case round=>
    obtain⟨⟨dn,rn,rfl,rfl,dc,hg1,xu,pA⟩,rfl⟩:=hrel;have JB:=zq xu;have Ix:=zq pA;clear xu pA;have HC:=zq (Db cY.o HV.o HXY.o AJ.o XE.o AO.o AL.o dc.o hg1.o JB.o Ix.o);rcases HC.o with ⟨t1,d2,r2,jx⟩|⟨t1,m,k,z,na,⟨t3,d2,r2,jx⟩|⟨t3,hq⟩⟩
    ·obtain⟨f1,f2,hlt,⟨t2,hq⟩|⟨t2,hrel⟩⟩:=jx
     ·have eY:=zq hq
      clear hq hlt;go_wp2_with fail;go_meet;exact⟨by rw[eY.o],rfl⟩
     have cZ:=zq hrel;clear hrel;go_wp2_with fail;have ah:=cZ.o
     first|exact⟨ah,by simp[intOf];omega⟩|exact⟨⟨ah,rfl⟩,by simp[intOf];omega⟩|exact⟨by (repeat apply Exists.intro);first|exact⟨ah,rfl⟩|exact⟨⟨ah,rfl⟩,rfl⟩|exact⟨ah,trivial⟩|exact⟨⟨ah,trivial⟩,rfl⟩,by simp[intOf];omega⟩
    ·obtain⟨f3,f4,f5⟩:=na
     obtain⟨f1,f2,hlt,⟨t2,hq⟩|⟨t2,hrel⟩⟩:=jx
     ·have eY:=zq hq
      clear hq hlt;go_wp2_with fail;go_meet;exact⟨by rw[eY.o],rfl⟩
     have cZ:=zq hrel;clear hrel;go_wp2_with fail;have ah:=cZ.o
     first|exact⟨ah,by simp[intOf];omega⟩|exact⟨⟨ah,rfl⟩,by simp[intOf];omega⟩|exact⟨by (repeat apply Exists.intro);first|exact⟨ah,rfl⟩|exact⟨⟨ah,rfl⟩,rfl⟩|exact⟨ah,trivial⟩|exact⟨⟨ah,trivial⟩,rfl⟩,by simp[intOf];omega⟩
    obtain⟨f3,f4,f5⟩:=na;have eY:=zq hq;clear hq;go_wp2_with fail;go_meet;exact⟨by rw[eY.o],rfl⟩
  case rest=>
   obtain⟨rfl,hwc⟩:=hcut;subst wc;clear ee;have ah:=Qbh (hi:=hi) (lo:=lo) (y:=y) (s:=s) (n:=n) (W:=W) (t:=t) (u1:=u1) (u0:=u0) (Q:=Q) (Q2:=Q2) (X:=X) XZ.o YA.o HhT.o (by rw[HhW.o,XX.o,XY.o]) Hht.o KG.o KF.o (by rw[HQ.o,HV.o,wD.o]) (by rw[HX.o,wD.o]) (by rw[cY.o,HV.o,wD.o]) (by omega)
   have hZ:(hi*18446744073709551616+lo) / y<18446744073709551616:=by rw[adL (by omega)];have:(hi+1)*18446744073709551616<=y*18446744073709551616:=abW _ uX;omega
   obtain⟨Z,hZ1⟩:=xq ((hi*18446744073709551616+lo) / y);rw[<-hZ1]at hZ ah;obtain⟨h1,h2⟩:=ah;obtain⟨B1,wO⟩:=xq (Q*4294967296)
   have N1:IntKind.u64.wrap ((Q:Int)*4294967296)=(B1:Int):=by rw[abV];omega
   have N2:IntKind.u64.wrap ((B1:Int)+(Q2:Int))=(Z:Int):=by rw[abV];omega
   obtain⟨C1,C2,C3,R,hL⟩:=Gr (W:=X) (u1:=u0) (Q:=Q2) (y2:=y2) (by rw[cY.o,HV.o]) (by omega) ik;obtain⟨O1,O2,O3,O4,hR⟩:=hL;obtain⟨rr,jH⟩:=xq (R / 2^s)
   have N3:(R:Int) / 2^s=(rr:Int):=by
    have e:(R:Int) / 2^s=((R / 2^s:Nat):Int):=by rw[Int.natCast_ediv,aeq];rfl
    rw[e,<-jH]
   have ID:Hid (Z=(hi*BB+lo) / y/\rr=(hi*BB+lo) % y):=by refine⟨hZ1,?_⟩;show rr=(hi*18446744073709551616+lo) % y;rw[h2,jH,hR,wD.o]
   clear hZ1 wO hR jH h1 h2 hZ;go_wp2_with fail;go_ret2;exact⟨by rw[<-ID.o.1,<-ID.o.2];rfl,rfl⟩
theorem Qkf (hi lo y:Nat)(w:World)(ei:lo<BB)(uX:hi<y)(hy:y<BB):Calls Tryz.prog 277 #[.int .u64 (hi:Nat),.int .u64 (lo:Nat),.int .u64 (y:Nat)] w (Ei hi lo y w):=by
 by_cases h0:hi=0
 ·subst h0;exact Qjx lo y w ei uX hy
 exact(Qjq hi lo y w ei uX (by omega) hy).mono fun e w' ⟨h1,h2⟩=>by subst h2;exact⟨h1,0,rfl⟩
theorem Qwl (hi lo y:Nat)(w:World)(ei:lo<BB)(uX:hi<y)(hy:y<BB):Calls Tryz.prog 277 #[.int .u64 (hi:Nat),.int .u64 (lo:Nat),.int .u64 (y:Nat)] w fun e w'=>e=.returned (.tuple #[.int .u64 ((hi*BB+lo) / y:Nat),.int .u64 ((hi*BB+lo) % y:Nat)])/\Below w.heap.size w w':=
 (Qkf hi lo y w ei uX hy).mono fun e w' ⟨h1,k,h2⟩=>by subst h2;exact⟨h1,⟨rfl,rfl,rfl,aaa _,fun _ _=>rfl⟩⟩
theorem Zk (n:Nat)(hn:n<=1099511627776):∀w:World,(Instr.makeSlice 59 (.int .i64 (n:Int)) (.int .i64 (n:Int))).run Tryz.prog w=.ok (.slice (some ⟨w.heap.size,0,none⟩) n n) (w.alloc (.cells (madeCells #[.int .u64 0] n) 101)):=by
 obtain⟨i0,K,E,H,I⟩:=abO Tryz.zi;intro w
 have J:(i0.bytes:Int)*(n:Int)<=281474976710656:=by rw[I];omega
 have h:=run_make (P:=Tryz.prog) w 59 101 i0 (.int .u64 0) Tryz.underlying59 K E .i64 .i64 n n (by omega) (Int.le_refl _) J (by omega);simp only[ae2]at h;rw[h,H,aem];rfl
theorem Qq (w:World)(o:Obj):Below w.heap.size w (w.alloc o):=(aa8 _ _).alloc (aaa _) o
def Cr (xs:List Nat)(w:World)(e:Ending)(w':World):Prop:=e=.returned (.slice (some ⟨w.heap.size,0,none⟩) xs.length xs.length)/\ba w' w.heap.size xs/\Below w.heap.size w w'
theorem Qk0 (v:Value)(xs:List Nat)(w:World)(hr:Rd w v xs)(hl:xs.length<=1099511627776):Calls Tryz.prog 217 #[v] w (Cr (Qw xs) w):=by
 have HR:=zq hr;obtain⟨ao,cap,rfl,bq,hcm,aZ,aU⟩:=hr.2;have iE:=Qu xs;have HT:=zq (Yz xs).1;have dt:=zq (Vt aZ);have iw:=zq aU;have oh:=Zk (Qw xs).length (by omega);clear aU hcm aZ;go_enter Tryz.func217,Tryz.ntmps217;go_wp2_with fail;refine(X9 _ xs _ HR.o).mono ?_;rintro e w' ⟨rfl,rfl⟩;generalize rj:(Qw xs).length=n at*;have HN:=zq rj;clear rj;have HB:=zq (ba.made w n).1;have aP:=zq (Qq w (.cells (madeCells #[.int .u64 0] n) 101))
 have dA:(ws (Qw xs)).length=n:=by rw[Jq,HN.o]
 have iU:=zq dA;have tO:Nat.min xs.length n=n:=Nat.min_eq_right (by omega);have zO:=zq tO;clear dA tO
 have r5:Hid (0<(ws (Qw xs)).length-> ∃ad,ao=some ad/\ ∀(j:Nat) (v:Value),(ws (Qw xs))[j]?=some v->(w.alloc (.cells (madeCells #[.int .u64 0] n) 101)).cell? (ad.add j)=some v):=by
  intro h0;rw[iU.o]at h0;obtain⟨g,o,rfl,_⟩:=iw.o 0 xs[0] (aad (by omega));refine⟨_,rfl,fun j u hu=> ?_⟩;simp only[ws,ads,aee]at hu;obtain⟨x,hx,rfl⟩:=hu;rw[HT.o,adX]at hx;split at hx
  ·obtain⟨g',o',e,hc⟩:=iw.o j x hx
   cases e
   have hlt:=adu w _ hc
   have e2:(⟨g,o,none⟩:Addr).add j=⟨g,o+j,none⟩:=by unfold Addr.add;split<;>simp_all
   rw[e2,aP.o.cell (p:=⟨g,o+j,none⟩) hlt];exact hc
  cases hx
 have rM:Hid (0+(ws (Qw xs)).length<=(ws (List.replicate n 0)).length):=by show _<=_;rw[iU.o,Jq,aa9];omega
 go_wp2_with ((with_reducible refine wpList_copy_splice (o:=⟨some 11,_,_,_,_,_⟩) rfl (.tmp 9) (.tmp 10) 59 59 rfl 101 Tryz.underlying59 Tryz.lJ (some ⟨w.heap.size,0,none⟩) ao n n xs.length cap rfl rfl w.heap.size 0 (ws (List.replicate n 0)) 101 HB.o (ws (Qw xs)) (by rw[iU.o,zO.o]) (fun h=>⟨rfl,r5.o h⟩) rM.o (ZB _) w.heap.size w aP.o (aaa _) ?_);intro w2 hg2 hb2)
 have HF:Hid (ba w2 w.heap.size (Qw xs)):=by refine⟨?_,dt.o⟩;have h1:=hg2.o;rw[h1];congr 2;simp only[splice,ae4,adz,abx];rw[iU.o,aaR (by rw[Jq,aa9];omega),ab4]
 have aD:=zq hb2;clear hg2 hb2;go_wp2_with fail;go_ret;exact⟨by rw[HN.o];rfl,HF.o,aD.o⟩
theorem Qje {xs:List Nat}{w:World}{e:Ending}{w':World}(hl:xs.length<=1099511627776)(h:Cr xs w e w'):Hx xs w e w':=by
 obtain⟨rfl,E,H⟩:=h;refine⟨_,rfl,⟨?_,fun k hk=> ?_⟩,H⟩
 ·have:=E.rd (o:=0) (n:=xs.length) (c:=xs.length) (by omega) (aaa _) (by unfold maxLen;omega)
  rw[adq,aat (aaa _)]at this;exact this
 cases hk;exact⟨aaa _,E.lt⟩
theorem Qfz (v:Value)(xs:List Nat)(w:World)(hr:Rd w v xs)(hl:xs.length<=1099511627776):Calls Tryz.prog 217 #[v] w (Hx (Qw xs) w):=
 (Qk0 v xs w hr hl).mono fun _ _ h=>Qje (by have:=Qu xs;omega) h
theorem Vy (v:Value)(xs:List Nat)(w:World)(hr:Rd w v xs)(hl:xs.length<=1099511627776):Calls Tryz.prog 171 #[v] w (Cr (Qw xs) w):=by have HR:=zq hr;clear hr;go_enter Tryz.func171,Tryz.ntmps171;go_wp2_with fail;refine(Qk0 _ xs _ HR.o hl).mono ?_;rintro e w' ⟨rfl,hf,hb⟩;have HF:=zq hf;have HB:=zq hb;clear hf hb;go_wp2_with fail;go_ret;exact⟨rfl,HF.o,HB.o⟩
theorem Jt (v:Value)(xs:List Nat)(w:World)(hr:Rd w v xs)(hl:xs.length<=1099511627776):Calls Tryz.prog 171 #[v] w (Hx (Qw xs) w):=by have HR:=zq hr;clear hr;go_enter Tryz.func171,Tryz.ntmps171;go_wp2_with fail;refine(Qfz _ xs _ HR.o hl).mono ?_;rintro e w' ⟨v',rfl,hf,hb⟩;have HF:=zq hf;have HB:=zq hb;clear hf hb;go_wp2_with fail;go_ret;exact⟨_,rfl,HF.o,HB.o⟩
theorem Zm (x y c:Nat)(hx:x<BB)(hy:y<BB)(hc:c<=1):∃s c':Nat,s<BB/\c'<=1/\s+BB*c'=x+y+c/\∀w:World,(callFunc 286 #[.int .u64 (x:Nat),.int .u64 (y:Nat),.int .u64 (c:Nat)]).run Tryz.prog w=.ok (.value (.tuple #[.int .u64 (s:Nat),.int .u64 (c':Nat)])) w:=by
 unfold BB at*;refine⟨(x+y+c) % 18446744073709551616,(x+y+c) / 18446744073709551616,by omega,by omega,by omega,fun w=> ?_⟩;rw[run_callFunc_extern Tryz.func286 (by kernel_rfl) (by kernel_rfl) (by kernel_rfl) (e:=add64Entry) (by kernel_rfl),run_add64 x y c (by omega) (by omega) (by omega) (by omega)];simp only[Result.andThen]
 congr 5<;>omega
theorem Nt (x y c:Nat)(hx:x<BB)(hy:y<BB)(hc:c<=1):∃s c':Nat,s<BB/\c'<=1/\s+y+c=x+BB*c'/\∀w:World,(callFunc 290 #[.int .u64 (x:Nat),.int .u64 (y:Nat),.int .u64 (c:Nat)]).run Tryz.prog w=.ok (.value (.tuple #[.int .u64 (s:Nat),.int .u64 (c':Nat)])) w:=by
 unfold BB at*
 refine⟨(x+18446744073709551616-y-c) % 18446744073709551616,(if x<y+c then 1 else 0),by omega,by split<;>omega,by split<;>omega,fun w=> ?_⟩
 rw[run_callFunc_extern Tryz.func290 (by kernel_rfl) (by kernel_rfl) (by kernel_rfl) (e:=sub64Entry) (by kernel_rfl),run_sub64 x y c hc];rfl
def Vz (L ys:List Nat)(o i c:Nat)(M:List Nat):Prop:=
 M.length=L.length/\M.take o=L.take o/\M.drop (o+i)=L.drop (o+i)/\val ((M.drop o).take i)+BB^i*c=val ((L.drop o).take i)+val (ys.take i)
theorem Vz.start (L ys:List Nat)(o:Nat):Vz L ys o 0 0 L:=⟨rfl,rfl,rfl,by simp[val]⟩
theorem Vz.at {L ys M:List Nat}{o i c z:Nat}(h:Vz L ys o i c M)(hz:M[o+i]?=some z):L[o+i]?=some z:=by have E:=aa7 (fun l=>l[0]?) h.2.2.1;simp only[adp,adt]at E;rw[<-E];exact hz
theorem Vz.step {L ys M:List Nat}{o i c z y s c':Nat}(h:Vz L ys o i c M)(hz:M[o+i]?=some z)(hy:(ys[i]?=some y)\/(ys.length<=i/\y=0))(hs:s+BB*c'=z+y+c):Vz L ys o (i+1) c' (M.set (o+i) s):=by
 have E:=h.at hz;obtain⟨J,K,O,T⟩:=h;have I:o+i<M.length:=(aae.1 hz).1;refine⟨by rw[ab6,J],by rw[Nn _ (by omega),K],?_,?_⟩
 ·rw[show o+(i+1)=o+i+1 from by omega,Si]
  have:=aa7 (List.drop 1) O;rw[adG,adG]at this;exact this
 rw[Rf _ I];have U:o+i<L.length:=(aae.1 E).1
 have e1:(L.drop o).take (i+1)=(L.drop o).take i++[z]:=by rw[ab2,adp,E];rfl
 have e2:val (ys.take (i+1))=val (ys.take i)+BB^i*y:=by
  rcases hy with hy|⟨hy,rfl⟩
  ·have H:i<ys.length:=(aae.1 hy).1
   rw[Xa H]
   have:ys[i]=y:=by rw[aad H]at hy;exact aax hy
   rw[this]
  rw[aat (by omega),aat (by omega)];simp
 rw[e1,e2,Zb,Zb,aak,aak,aag,aag,abd (by omega),abd (by omega),ady];exact Dk T hs
def RL (L ys:List Nat)(o:Nat)(M:List Nat):Prop:=M.length=L.length/\M.take o=L.take o/\ ∃c,val (M.drop o)+BB^(L.length-o)*c=val (L.drop o)+val ys
theorem Vz.jo {L ys M:List Nat}{o i c:Nat}(h:Vz L ys o i c M)(hi:o+i=L.length)(hy:ys.length<=i):RL L ys o M:=by obtain⟨H,I,J,E⟩:=h;refine⟨H,I,c,?_⟩;rw[aat (by rw[aag];omega),aat (by rw[aag];omega),aat hy]at E;rw[show L.length-o=i from by omega];exact E
theorem Vz.gY {L ys M:List Nat}{o i:Nat}(h:Vz L ys o i 0 M)(hi:o+i<=L.length)(hy:ys.length<=i):RL L ys o M:=by obtain⟨H,I,J,E⟩:=h;refine⟨H,I,0,?_⟩;rw[aat hy]at E;have e1:=Xp (M.drop o) i (by rw[aag];omega);have e2:=Xp (L.drop o) i (by rw[aag];omega);rw[adG]at e1 e2;rw[e1,e2,J];simp only[aec,adt]at E ⊢;omega
def Qho (L ys:List Nat)(g o:Nat)(w:World)(e:Ending)(w':World):Prop:=e=.returned (.tuple #[])/\ ∃M,ba w' g M/\RL L ys o M/\w.grownBy w' (some g)
theorem Xz {w0 w:World}{g:Nat}(h:w0.grownBy w (some g)){w':World}(h2:w.grownBy w' (some g)):w0.grownBy w' (some g):=
 ⟨h2.os.trans h.os,h2.tape.trans h.tape,h2.output.trans h.output,aan h.size h2.size,fun k hk hn=>(h2.block k (aaj hk h.size) hn).trans (h.block k hk hn)⟩
theorem X1 (w:World)(row:Option Nat):w.grownBy w row:=⟨rfl,rfl,rfl,aaa _,fun _ _ _=>rfl⟩
theorem Z0 (w:World)(n:Nat)(row:Option Nat):w.grownBy (w.drewN n) row:=⟨rfl,rfl,rfl,aaa _,fun _ _ _=>rfl⟩
theorem Vk (g o n c:Nat)(L ys:List Nat)(v:Value)(w:World)(hL:ba w g L)(hn:o+n=L.length)(bq:n<=c)(hc:c<=1099511627776)(hv:Rd w v ys)(kR:v.ownBlock≠some g)(hy:ys.length<=n):Calls Tryz.prog 275 #[.slice (some ⟨g,o,none⟩) n c,v] w (Qho L ys g o w):=by
 have HV:=zq hv;obtain⟨ao,cap,rfl,-,hcm,aZ,aU⟩:=hv.2;have HB:=zq hL;have dt:=zq aZ
 have nR:o+n<=L.length:=by omega
 have mh:=zq hn;clear hL aZ aU hcm hn;go_enter Tryz.func275,Tryz.ntmps275;go_wp2_with fail;go_loopw [4,9] (fun cv i wr=> ∃(k cc:Nat) (M:List Nat),k<=ys.length/\i=.int .i64 (k:Nat)/\cv=.int .u64 (cc:Nat)/\cc<=1/\ba wr g M/\Vz L ys o k cc M/\w.grownBy wr (some g)) (fun _ i _=>ys.length-(intOf i).toNat)
 case atStart=>exact⟨0,0,L,aao _,rfl,rfl,aao _,HB.o,Vz.start L ys o,X1 w _⟩
 case round=>
  obtain⟨k,cc,M,hk,rfl,rfl,hcc,hM,hst,hgr⟩:=hrel;have HM:=zq hM;have HST:=zq hst;have bn:=zq hgr;have ct:M.length=L.length:=hst.1;clear hM hst hgr;by_cases hlt:k<ys.length
  ·obtain⟨y,pJ⟩:∃y,ys[k]?=some y:=⟨_,aad hlt⟩
   obtain⟨z,hz⟩:∃z,M[o+k]?=some z:=⟨_,aad (by omega)⟩;obtain⟨s,c',hs1,hs2,hs3,hrun⟩:=Zm z y cc (HM.o.2 z (aah hz)) (dt.o y (aah pJ)) hcc;obtain⟨ao',cap',e,-,-,-,aU⟩:=(HV.o.kept bn.o (fun q hq=>by cases hq;exact kR)).2
   cases e
   obtain⟨g2,o2,rfl,e2⟩:=aU k y pJ;have e1:=HM.o.cell hz;have e3:=HM.o.frozen (o+k);have HN:=zq (HST.o.step hz (.inl pJ) hs3);have HS:=zq (ba.set (w:=wr.drewN 1) HM.o (o+k) hs1);have eu:(0:Int)<=(k:Int):=abP _
   have dc:(k:Int)<(n:Int):=by omega
   have jV:(k:Int)<(ys.length:Int):=by omega
   clear pJ hz aU hs3;go_wp2_with fail;go_region_law (fail)
   all_goals
    go_wp2_with fail
    have ah:∃(k' cc':Nat) (M':List Nat),k'<=ys.length/\Value.int .i64 ((k:Int)+1)=.int .i64 (k':Nat)/\Value.int .u64 (c':Nat)=.int .u64 (cc':Nat)/\cc'<=1/\ba ((wr.drewN 1).setCell ⟨g,o+k,none⟩ (.int .u64 (s:Nat))) g M'/\Vz L ys o k' cc' M'/\w.grownBy ((wr.drewN 1).setCell ⟨g,o+k,none⟩ (.int .u64 (s:Nat))) (some g):=
     ⟨k+1,c',M.set (o+k) s,by omega,by go_num,rfl,hs2,HS.o.1,HN.o,Xz (Xz bn.o (Z0 wr 1 _)) HS.o.2⟩
    first|exact⟨ah,by simp[intOf];omega⟩|exact⟨by (repeat apply Exists.intro);exact⟨ah,rfl⟩,by simp[intOf];omega⟩
  obtain rfl:k=ys.length:=by omega
  have hyn:=hy;clear hlt hk hy;go_wp2_with fail;go_loopw [4,6] (fun cv i wr=> ∃(k cc:Nat) (M:List Nat),ys.length<=k/\k<=n/\i=.int .i64 (k:Nat)/\cv=.int .u64 (cc:Nat)/\cc<=1/\ba wr g M/\Vz L ys o k cc M/\w.grownBy wr (some g)) (fun _ i _=>n-(intOf i).toNat)
  case atStart=>exact⟨ys.length,cc,M,aaa _,hyn,rfl,rfl,hcc,HM.o,HST.o,bn.o⟩
  clear HM HST bn ct hcc
  case round=>
   obtain⟨k,cc,M,hyk,hk,rfl,rfl,hcc,hM,hst,hgr⟩:=hrel;have HM:=zq hM;have HST:=zq hst;have bn:=zq hgr;have ct:M.length=L.length:=hst.1;clear hM hst hgr;by_cases hc0:cc=0
   ·subst hc0
    have HD:=zq (HST.o.gY (by omega) hyk);go_wp2_with fail;go_end0;exact⟨rfl,M,HM.o,HD.o,bn.o⟩
   have hcb:((cc:Int) !=0)=true:=by simp;omega
   by_cases hlt:k<n
   ·obtain⟨z,hz⟩:∃z,M[o+k]?=some z:=⟨_,aad (by omega)⟩
    obtain⟨s,c',hs1,hs2,hs3,hrun⟩:=Zm z 0 cc (HM.o.2 z (aah hz)) Xs hcc;have dQ:∀w:World,(callFunc 286 #[.int .u64 (z:Nat),.int .u64 0,.int .u64 (cc:Nat)]).run Tryz.prog w=.ok (.value (.tuple #[.int .u64 (s:Nat),.int .u64 (c':Nat)])) w:=hrun;have e1:=HM.o.cell hz;have e3:=HM.o.frozen (o+k);have HN:=zq (HST.o.step (y:=0) hz (.inr ⟨hyk,rfl⟩) hs3);have HS:=zq (HM.o.set (o+k) hs1);have eu:(0:Int)<=(k:Int):=abP _
    have dc:(k:Int)<(n:Int):=by omega
    clear hz hs3 hrun;go_wp2_with fail
    have ah:∃(k' cc':Nat) (M':List Nat),ys.length<=k'/\k'<=n/\Value.int .i64 ((k:Int)+1)=.int .i64 (k':Nat)/\Value.int .u64 (c':Nat)=.int .u64 (cc':Nat)/\cc'<=1/\ba (wr.setCell ⟨g,o+k,none⟩ (.int .u64 (s:Nat))) g M'/\Vz L ys o k' cc' M'/\w.grownBy (wr.setCell ⟨g,o+k,none⟩ (.int .u64 (s:Nat))) (some g):=
     ⟨k+1,c',M.set (o+k) s,by omega,by omega,by go_num,rfl,hs2,HS.o.1,HN.o,Xz bn.o HS.o.2⟩
    first|exact⟨ah,by simp[intOf];omega⟩|exact⟨by (repeat apply Exists.intro);exact⟨ah,rfl⟩,by simp[intOf];omega⟩
   have HD:=zq (HST.o.jo (by have:=mh.o;omega) hyk);go_wp2_with fail;go_end0;exact⟨rfl,M,HM.o,HD.o,bn.o⟩
def Up (L ys:List Nat)(i c:Nat)(M:List Nat):Prop:=
 M.length=L.length/\M.drop i=L.drop i/\val (M.take i)+val (ys.take i)=val (L.take i)+BB^i*c
theorem Up.start (L ys:List Nat):Up L ys 0 0 L:=⟨rfl,rfl,by simp[val]⟩
theorem Qwb {P X Y Z x y c s c':Nat}(h:Z+Y=X+P*c)(hs:s+y+c=x+BB*c'):(Z+P*s)+(Y+P*y)=(X+P*x)+P*BB*c':=by
 have E:P*s+P*y+P*c=P*x+P*(BB*c'):=by rw[<-abp,<-abp,hs,abp]
 rw[abF];omega
theorem Up.step {L ys M:List Nat}{i c z y s c':Nat}(h:Up L ys i c M)(hz:M[i]?=some z)(hy:(ys[i]?=some y)\/(ys.length<=i/\y=0))(hs:s+y+c=z+BB*c'):Up L ys (i+1) c' (M.set i s):=by
 obtain⟨O,J,T⟩:=h;have Z:i<M.length:=(aae.1 hz).1
 have H:L[i]?=some z:=by have K:=aa7 (fun l=>l[0]?) J;simp only[adp,adt]at K;rw[<-K];exact hz
 have U:i<L.length:=(aae.1 H).1;refine⟨by rw[ab6,O],?_,?_⟩
 ·rw[Si]
  have:=aa7 (List.drop 1) J;rw[adG,adG]at this;exact this
 have E:=Rf (l:=M) (o:=0) (i:=i) s (by omega);rw[adq,adq,abx]at E;rw[E]
 have e1:L.take (i+1)=L.take i++[z]:=by rw[ab2,H];rfl
 have e2:val (ys.take (i+1))=val (ys.take i)+BB^i*y:=by
  rcases hy with hy|⟨hy,rfl⟩
  ·have I:i<ys.length:=(aae.1 hy).1
   rw[Xa I]
   have:ys[i]=y:=by rw[aad I]at hy;exact aax hy
   rw[this]
  rw[aat (by omega),aat (by omega)];simp
 rw[e1,e2,Zb,Zb,aak,aak,abd (by omega),abd (by omega),ady];exact Qwb T hs
theorem Up.gY {L ys M:List Nat}{i:Nat}(h:Up L ys i 0 M)(hi:i<=L.length)(hy:ys.length<=i):M.length=L.length/\val M+val ys=val L:=by obtain⟨H,I,E⟩:=h;refine⟨H,?_⟩;rw[aat hy]at E;have e1:=Xp M i (by omega);have e2:=Xp L i hi;rw[e1,e2,I];simp only[aec,adt]at E;omega
theorem Up.jo {L ys M:List Nat}{c:Nat}(h:Up L ys L.length c M)(hM:ok M)(hy:ys.length<=L.length)(hle:val ys<=val L):M.length=L.length/\val M+val ys=val L:=by
 obtain⟨H,J,E⟩:=h;refine⟨H,?_⟩;rw[aat hy,aat (by omega),adx]at E;have I:=Yy hM;rw[H]at I
 cases c with
 |zero=>simpa using E
 |succ c=>rw[Nat.mul_succ]at E;omega
def Qh3 (L ys:List Nat)(g:Nat)(w:World)(e:Ending)(w':World):Prop:=e=.returned (.tuple #[])/\ ∃M,ba w' g M/\M.length=L.length/\val M+val ys=val L/\w.grownBy w' (some g)
theorem Ul (g n c:Nat)(L ys:List Nat)(v:Value)(w:World)(hL:ba w g L)(hn:n=L.length)(bq:n<=c)(hc:c<=1099511627776)(hv:Rd w v ys)(kR:v.ownBlock≠some g)(hy:ys.length<=n)(hle:val ys<=val L):Calls Tryz.prog 289 #[.slice (some ⟨g,0,none⟩) n c,v] w (Qh3 L ys g w):=by
 have HV:=zq hv;obtain⟨ao,cap,rfl,-,hcm,aZ,aU⟩:=hv.2;have HB:=zq hL;have dt:=zq aZ;have IK:=zq hle
 have nR:n<=L.length:=by omega
 have mh:=zq hn;clear hL aZ aU hcm hn hle;go_enter Tryz.func289,Tryz.ntmps289;go_wp2_with fail;go_loopw [4,9] (fun cv i wr=> ∃(k cc:Nat) (M:List Nat),k<=n/\i=.int .i64 (k:Nat)/\cv=.int .u64 (cc:Nat)/\cc<=1/\ba wr g M/\Up L ys k cc M/\w.grownBy wr (some g)) (fun _ i _=>n-(intOf i).toNat)
 case atStart=>exact⟨0,0,L,aao _,rfl,rfl,aao _,HB.o,Up.start L ys,X1 w _⟩
 case round=>
  obtain⟨k,cc,M,hk,rfl,rfl,hcc,hM,hst,hgr⟩:=hrel;have HM:=zq hM;have HST:=zq hst;have bn:=zq hgr;have ct:M.length=L.length:=hst.1;clear hM hst hgr;by_cases hlt:k<n
  ·obtain⟨z,hz⟩:∃z,M[k]?=some z:=⟨_,aad (by omega)⟩
   have e1:=HM.o.cell hz;have e3:=HM.o.frozen k;have eu:(0:Int)<=(k:Int):=abP _
   have dc:(k:Int)<(n:Int):=by omega
   by_cases hky:k<ys.length
   ·obtain⟨y,pJ⟩:∃y,ys[k]?=some y:=⟨_,aad hky⟩
    obtain⟨s,c',hs1,hs2,hs3,hrun⟩:=Nt z y cc (HM.o.2 z (aah hz)) (dt.o y (aah pJ)) hcc;obtain⟨ao',cap',e,-,-,-,aU⟩:=(HV.o.kept bn.o (fun q hq=>by cases hq;exact kR)).2
    cases e
    obtain⟨g2,o2,rfl,e2⟩:=aU k y pJ;have HN:=zq (HST.o.step hz (.inl pJ) hs3);have HS:=zq (HM.o.set k hs1);clear pJ hz aU hs3;go_wp2_with fail
    have ah:∃(k' cc':Nat) (M':List Nat),k'<=n/\Value.int .i64 ((k:Int)+1)=.int .i64 (k':Nat)/\Value.int .u64 (c':Nat)=.int .u64 (cc':Nat)/\cc'<=1/\ba (wr.setCell ⟨g,k,none⟩ (.int .u64 (s:Nat))) g M'/\Up L ys k' cc' M'/\w.grownBy (wr.setCell ⟨g,k,none⟩ (.int .u64 (s:Nat))) (some g):=
     ⟨k+1,c',M.set k s,by omega,by go_num,rfl,hs2,HS.o.1,HN.o,Xz bn.o HS.o.2⟩
    first|exact⟨ah,by simp[intOf];omega⟩|exact⟨by (repeat apply Exists.intro);exact⟨ah,rfl⟩,by simp[intOf];omega⟩
   by_cases hc0:cc=0
   ·subst hc0
    have HD:=zq (HST.o.gY (by omega) (by omega));clear hz;go_wp2_with fail;refine aaI (adF rfl _ _ _) rfl ?_;exact⟨rfl,M,HM.o,HD.o.1,HD.o.2,bn.o⟩
   have hcb:((cc:Int)==0)=false:=by simp;omega
   obtain⟨s,c',hs1,hs2,hs3,hrun⟩:=Nt z 0 cc (HM.o.2 z (aah hz)) Xs hcc;have dQ:∀w:World,(callFunc 290 #[.int .u64 (z:Nat),.int .u64 0,.int .u64 (cc:Nat)]).run Tryz.prog w=.ok (.value (.tuple #[.int .u64 (s:Nat),.int .u64 (c':Nat)])) w:=hrun;have HN:=zq (HST.o.step (y:=0) hz (.inr ⟨by omega,rfl⟩) hs3);have HS:=zq (HM.o.set k hs1);clear hz hs3 hrun;go_wp2_with fail
   have ah:∃(k' cc':Nat) (M':List Nat),k'<=n/\Value.int .i64 ((k:Int)+1)=.int .i64 (k':Nat)/\Value.int .u64 (c':Nat)=.int .u64 (cc':Nat)/\cc'<=1/\ba (wr.setCell ⟨g,k,none⟩ (.int .u64 (s:Nat))) g M'/\Up L ys k' cc' M'/\w.grownBy (wr.setCell ⟨g,k,none⟩ (.int .u64 (s:Nat))) (some g):=
    ⟨k+1,c',M.set k s,by omega,by go_num,rfl,hs2,HS.o.1,HN.o,Xz bn.o HS.o.2⟩
   first|exact⟨ah,by simp[intOf];omega⟩|exact⟨by (repeat apply Exists.intro);exact⟨ah,rfl⟩,by simp[intOf];omega⟩
  obtain rfl:k=n:=by omega
  have HD:Hid (M.length=L.length/\val M+val ys=val L):=Up.jo (by rw[<-mh.o];exact HST.o) HM.o.2 (by omega) IK.o;go_wp2_with fail;go_end0;exact⟨rfl,M,HM.o,HD.o.1,HD.o.2,bn.o⟩
def Qh1 (hi lo:Nat)(w:World)(e:Ending)(w':World):Prop:=e=.returned (.tuple #[.int .u64 (hi:Nat),.int .u64 (lo:Nat)])/\w=w'
theorem Nw (x y:Nat)(hx:x<BB)(hy:y<BB):∃hi lo:Nat,lo<BB/\hi*BB+lo=x*y/\ ∀w:World,Calls Tryz.prog 287 #[.int .u64 (x:Nat),.int .u64 (y:Nat)] w (Qh1 hi lo w):=by unfold BB at*;refine⟨x*y / 18446744073709551616,x*y % 18446744073709551616,by omega,by omega,fun w=> ?_⟩;refine(Tryz.bits_Mul64 x y hx hy w).mono fun e w' ⟨h1,h2⟩=>⟨h1,h2.symm⟩
def Qkx (xs ys:List Nat)(g:Nat)(w:World)(e:Ending)(w':World):Prop:=e=.returned (.tuple #[])/\ ∃M,ba w' g M/\M.length=xs.length+ys.length/\val M=val xs*val ys/\w.grownBy w' (some g)
theorem Qxt (g n:Nat)(xs ys:List Nat)(v u:Value)(w:World)(hL:ba w g (List.replicate n 0))(hn:n=xs.length+ys.length)(hc:n<=1099511627776)
  (hv:Rd w v xs) (kR:v.ownBlock≠some g) (hu:Rd w u ys) (hub:u.ownBlock≠some g):
  Calls Tryz.prog 274 #[.slice (some ⟨g,0,none⟩) n n,v,u] w (Qkx xs ys g w):=by
 have HV:=zq hv;have HU:=zq hu;obtain⟨ao,cap,rfl,-,-,aZ,-⟩:=hv.2;obtain⟨bo,fz,rfl,-,-,ej,-⟩:=hu.2;have dt:=zq aZ;have iG:=zq ej;have dW:=zq (Uy.start xs ys);rw[<-hn]at dW;have HB:=zq hL
 have nR:xs.length+ys.length<=n:=by omega
 have NG:n<=xs.length+ys.length:=by omega
 clear hL aZ ej hn;go_enter Tryz.func274,Tryz.ntmps274;go_wp2_with fail;go_loopw [16] (fun i wr=> ∃(k:Nat) (M:List Nat),k<=xs.length/\i=.int .i64 (k:Nat)/\ba wr g M/\Uy xs ys k M/\w.grownBy wr (some g)) (fun i _=>xs.length-(intOf i).toNat)
 case atStart=>exact⟨0,_,aao _,rfl,HB.o,dW.o,X1 w _⟩
 clear dW
 case round=>
  obtain⟨k,M,hk,rfl,hM,hst,hgr⟩:=hrel;have HM:=zq hM;have HST:=zq hst;have bn:=zq hgr;have ct:M.length=xs.length+ys.length:=hst.1;clear hM hst hgr;by_cases hlt:k<xs.length
  ·obtain⟨x,hx⟩:∃x,xs[k]?=some x:=⟨_,aad hlt⟩
   have gO:=dt.o x (aah hx);obtain⟨ao',cap',e,-,-,-,aU⟩:=(HV.o.kept bn.o (fun q hq=>by cases hq;exact kR)).2
   cases e
   obtain⟨g2,o2,rfl,e2⟩:=aU k x hx;have HX:=zq hx;have wC:=zq gO;clear aU hx gO;by_cases hx0:x=0
   ·subst hx0
    have HN:=zq (HST.o.zero HX.o);go_wp2_with fail;have ah:∃(k':Nat) (M':List Nat),k'<=xs.length/\Value.int .i64 ((k:Int)+1)=.int .i64 (k':Nat)/\ba wr g M'/\Uy xs ys k' M'/\w.grownBy wr (some g):=⟨k+1,M,by omega,by go_num,HM.o,HN.o,bn.o⟩
    first|exact⟨ah,by simp[intOf];omega⟩|exact⟨by (repeat apply Exists.intro);exact⟨ah,rfl⟩,by simp[intOf];omega⟩
   have TI:((x:Int)==0)=false:=by simp[hx0]
   clear hx0;go_wp2_with fail;go_loopw [8,25] (fun cv j w2=> ∃(q cc:Nat) (M':List Nat),q<=ys.length/\j=.int .i64 (q:Nat)/\cv=.int .u64 (cc:Nat)/\Hid (cc<BB)/\ba w2 g M'/\mr M ys k x q cc M'/\w.grownBy w2 (some g)) (fun _ j _=>ys.length-(intOf j).toNat)
   case atStart=>exact⟨0,0,M,aao _,rfl,rfl,Xs,HM.o,mr.start M ys k x,bn.o⟩
   clear HM bn e2
   case round=>
    rename_i w2 _;obtain⟨q,cc,M',hq,rfl,rfl,hcc,hM,hst,hgr⟩:=hrel;have HM:=zq hM;have HIN:=zq hst;have bn:=zq hgr;have acS:M'.length=M.length:=hst.1;clear hM hst hgr;by_cases hqt:q<ys.length
    ·obtain⟨y,hy⟩:∃y,ys[q]?=some y:=⟨_,aad hqt⟩
     obtain⟨z,hz⟩:∃z,M'[k+q]?=some z:=⟨_,aad (by omega)⟩;have vr:=iG.o y (aah hy);have hzb:=HM.o.2 z (aah hz);obtain⟨hi,lo,ei,hp,hmul⟩:=Nw x y wC.o vr;obtain⟨s1,c1,hs1,hc1,h1,hr1⟩:=Zm lo cc 0 ei hcc.o (aao _);obtain⟨h2,MQ⟩:=xq (hi+c1);obtain⟨s2,c2,hs2,hc2,h4,hr2⟩:=Zm z s1 0 hzb hs1 (aao _);obtain⟨c3,hc3⟩:=xq (h2+c2);rw[adt]at h1 h4;obtain⟨f1,f2,f3⟩:=Qy9 wC.o vr hzb hcc.o hp h1 MQ h4;rw[<-hc3]at f2 f3;have HN:=zq (HIN.o.step hz hy f2);have kF:=zq f3;have HS:=zq (HM.o.set (k+q) hs2);obtain⟨bo',ZP,e,-,-,-,aU⟩:=(HU.o.kept bn.o (fun q hq=>by cases hq;exact hub)).2
     cases e
     obtain⟨g3,o3,rfl,e2⟩:=aU q y hy;have e1:=HM.o.cell hz;have e3:=HM.o.frozen (k+q);have eL:=zq hmul;have hr1':∀w:World,(callFunc 286 #[.int .u64 (lo:Nat),.int .u64 (cc:Nat),.int .u64 0]).run Tryz.prog w=.ok (.value (.tuple #[.int .u64 (s1:Nat),.int .u64 (c1:Nat)])) w:=hr1;have hr2':∀w:World,(callFunc 286 #[.int .u64 (z:Nat),.int .u64 (s1:Nat),.int .u64 0]).run Tryz.prog w=.ok (.value (.tuple #[.int .u64 (s2:Nat),.int .u64 (c2:Nat)])) w:=hr2
     have aQ:IntKind.u64.wrap ((hi:Int)+(c1:Int))=(h2:Int):=by unfold BB at f1;rw[abV];omega
     have hw2:IntKind.u64.wrap ((h2:Int)+(c2:Int))=(c3:Int):=by unfold BB at f3;rw[abV];omega
     have iX:=zq aQ;have dz:=zq hw2;clear aU hy hz vr hzb hmul hp h1 h4 MQ hc3 f1 f2 f3 ei hs1 hs2 hr1 hr2 aQ hw2;go_wp2_with fail;refine(eL.o _).mono ?_;rintro e w' ⟨rfl,rfl⟩;have aQ:=iX.o;have hw2:=dz.o;go_wp2_with fail;exact⟨⟨q+1,c3,M'.set (k+q) s2,by omega,by go_num,rfl,kF.o,HS.o.1,HN.o,Xz bn.o HS.o.2⟩,by simp[intOf];omega⟩
    obtain rfl:q=ys.length:=by omega
    obtain⟨jE,jX⟩:=HST.o.row HX.o HIN.o;have HN:=zq jE;have HS:=zq (HM.o.set (k+ys.length) hcc.o);have e1:=HM.o.cell jX;have e3:=HM.o.frozen (k+ys.length);clear jE jX hcc;go_wp2_with fail;have ah:∃(k':Nat) (M2:List Nat),k'<=xs.length/\Value.int .i64 ((k:Int)+1)=.int .i64 (k':Nat)/\ba (wr.setCell ⟨g,k+ys.length,none⟩ (.int .u64 (cc:Nat))) g M2/\Uy xs ys k' M2/\w.grownBy (wr.setCell ⟨g,k+ys.length,none⟩ (.int .u64 (cc:Nat))) (some g):=⟨k+1,_,by omega,by go_num,HS.o.1,HN.o,Xz bn.o HS.o.2⟩
    first|exact⟨ah,by simp[intOf];omega⟩|exact⟨by (repeat apply Exists.intro);exact⟨ah,rfl⟩,by simp[intOf];omega⟩
  obtain rfl:k=xs.length:=by omega
  have HD:=zq HST.o.done;go_wp2_with fail;go_end0;exact⟨rfl,M,HM.o,HD.o.1,HD.o.2,bn.o⟩
theorem Qp9 (w:World)(o:Obj){ao:Option Addr}{xs:List Nat}(aU:∀i x,xs[i]?=some x-> ∃g o,ao=some ⟨g,o,none⟩/\w.cell? ⟨g,o+i,none⟩=some (.int .u64 (x:Nat)))(h0:0<xs.length):∃ad,ao=some ad/\ ∀(j:Nat) (v:Value),(ws xs)[j]?=some v->(w.alloc o).cell? (ad.add j)=some v:=by
 obtain⟨g,of,rfl,_⟩:=aU 0 xs[0] (aad h0);refine⟨_,rfl,fun j u hu=> ?_⟩;simp only[ws,ads,aee]at hu;obtain⟨x,H,rfl⟩:=hu;obtain⟨g',o',e,h⟩:=aU j x H
 cases e
 have E:=adu w _ h
 have e2:(⟨g,of,none⟩:Addr).add j=⟨g,of+j,none⟩:=by unfold Addr.add;split<;>simp_all
 rw[e2,(Qq w o).cell (p:=⟨g,of+j,none⟩) E];exact h
theorem Qfa {m:Nat}{xs ys:List Nat}(hx:ok xs)(hy:ok ys)(h1:xs.length<=m)(h2:ys.length<=m):∀M,ok M->RL (xs++List.replicate (m+1-xs.length) 0) ys 0 M->M.length=m+1/\val M=val xs+val ys:=by
 intro M E ⟨a1,_,c,a3⟩
 have h:(xs++List.replicate (m+1-xs.length) 0).length=m+1:=by rw[aac,aa9];omega
 rw[adq,adq,h,Uv,Jg,aec,adt]at a3;refine⟨by rw[a1,h],?_⟩;have b1:=Yy hx;have b2:=Yy hy;exact(Sc a3 (Qpg (aaj b1 (adE Xs h1)) (aaj b2 (adE Xs h2)))).2
def Qh4 (xs ys:List Nat)(w:World)(e:Ending)(w':World):Prop:=∃g M,e=.returned (.slice (some ⟨g,0,none⟩) M.length M.length)/\w.heap.size<=g/\ba w' g M/\M.length=max xs.length ys.length+1/\val M=val xs+val ys/\Below w.heap.size w w'
theorem Hb (v u:Value)(xs ys:List Nat)(w:World)(hv:Rd w v xs)(hu:Rd w u ys)(hx:xs.length<=549755813888)(hy:ys.length<=549755813888):Calls Tryz.prog 288 #[v,u] w (Qh4 xs ys w):=by
 have HV:=zq hv;have HU:=zq hu;obtain⟨ao,cap,rfl,-,-,aZ,aU⟩:=hv.2;obtain⟨bo,fz,rfl,-,-,ej,-⟩:=hu.2;have dt:=zq aZ;have iw:=zq aU;obtain⟨m,hm⟩:=xq (max xs.length ys.length)
 have cW:xs.length<=m:=by omega
 have jW:ys.length<=m:=by omega
 have mR:m<=549755813888:=by omega
 have oh:∀w:World,(Instr.makeSlice 59 (.int .i64 ((m:Int)+1)) (.int .i64 ((m:Int)+1))).run Tryz.prog w=.ok (.slice (some ⟨w.heap.size,0,none⟩) (m+1) (m+1)) (w.alloc (.cells (madeCells #[.int .u64 0] (m+1)) 101)):=Zk (m+1) (by omega)
 have hmx:max (xs.length:Int) (ys.length:Int)=(m:Int):=by omega
 have HM:=zq hm;have HB:=zq (ba.made w (m+1)).1;have aP:=zq (Qq w (.cells (madeCells #[.int .u64 0] (m+1)) 101));have iU:=zq (Jq xs);have zO:Hid (Nat.min xs.length (m+1)=xs.length):=abd (by omega);have r5:=zq (Qp9 w (.cells (madeCells #[.int .u64 0] (m+1)) 101) iw.o)
 have rM:Hid (0+(ws xs).length<=(ws (List.replicate (m+1) 0)).length):=by show _<=_;rw[Jq,Jq,aa9];omega
 have aR:=zq (Qfa (m:=m) aZ ej cW jW);clear aZ ej aU hm;go_enter Tryz.func288,Tryz.ntmps288;go_wp2_with ((with_reducible refine wpList_copy_splice (o:=⟨some 15,_,_,_,_,_⟩) rfl (.tmp 13) (.tmp 14) 59 59 rfl 101 Tryz.underlying59 Tryz.lJ (some ⟨w.heap.size,0,none⟩) ao (m+1) (m+1) xs.length cap rfl rfl w.heap.size 0 (ws (List.replicate (m+1) 0)) 101 HB.o (ws xs) (by rw[iU.o,zO.o]) (fun h=>⟨rfl,r5.o (by rw[<-iU.o];exact h)⟩) rM.o (ZB _) w.heap.size w aP.o (aaa _) ?_);intro w2 hg2 hb2)
 have HF:Hid (ba w2 w.heap.size (xs++List.replicate (m+1-xs.length) 0)):=by refine⟨?_,D7 dt.o (Ng _)⟩;have h1:=hg2.o;rw[h1];congr 2;simp only[splice,ae4,adz,abx];rw[iU.o];simp[ws]
 have aD:=zq hb2;have HU2:=zq (HU.o.below hb2);have wZ:=HU.o.ne (aaa w.heap.size);clear hg2 hb2;go_wp2_with fail;refine(Vk w.heap.size 0 (m+1) (m+1) (xs++List.replicate (m+1-xs.length) 0) ys _ _ HF.o (by rw[aac,aa9];omega) (aaa _) (by omega) HU2.o wZ (by omega)).mono ?_;rintro e w3 ⟨rfl,M,hM,BR,hgr⟩;obtain⟨hl,hval⟩:=aR.o M hM.2 BR;have mj:=zq hM;have HL:=zq hl;have qd:=zq hval;have aS:Hid (Below w.heap.size w w3):=abq aD.o hgr aD.o.size (fun k hk=>by cases hk;exact aaa _);clear hM BR hgr hl hval;go_wp2_with fail;go_ret
 exact⟨w.heap.size,M,by rw[HL.o]<;>rfl,aaa _,mj.o,by rw[HL.o,HM.o],qd.o,aS.o⟩
theorem Rd.drop {w:World}{g o len cap n:Nat}{xs:List Nat}(h:Rd w (.slice (some ⟨g,o,none⟩) len cap) xs)(hn:n<=xs.length):Rd w (.slice (some ⟨g,o+n,none⟩) (xs.length-n) (cap-n)) (xs.drop n):=by
 obtain⟨E,ao',cap',e,K,O,H,I⟩:=h;simp only[Value.slice.injEq]at e;obtain⟨rfl,rfl,rfl⟩:=e;refine⟨fun k hk=>E k hk,_,_,by rw[aag],by rw[aag];omega,by omega,Wk H _,fun i x hx=>⟨g,o+n,rfl,?_⟩⟩;rw[adp]at hx;obtain⟨g',o',e,J⟩:=I (n+i) x hx
 cases e
 rw[abJ];exact J
theorem Rd.none' {w:World}{g o c:Nat}(hg:g<w.heap.size)(hc:c<=maxLen):Rd w (.slice (some ⟨g,o,none⟩) 0 c) []:=
 ⟨fun k hk=>by cases hk;exact hg,_,c,rfl,aao _,hc,Fj,fun i x h=>by simp at h⟩
theorem Rd.ok {w:World}{v:Value}{xs:List Nat}(h:Rd w v xs):ok xs:=by obtain⟨_,_,_,_,_,_,E,_⟩:=h;exact E
theorem Y7 {w0 w w':World}{g k:Nat}(h:w0.grownBy w (some g))(hg:w.grownBy w' (some k))(hk:k=g\/w0.heap.size<=k):w0.grownBy w' (some g):=by
 refine⟨hg.os.trans h.os,hg.tape.trans h.tape,hg.output.trans h.output,aan h.size hg.size,fun q hq hn=>(hg.block q (aaj hq h.size) ?_).trans (h.block q hq hn)⟩;rcases hk with rfl|hk
 ·exact hn
 intro e;cases e;omega
theorem Sh {w0 w w':World}{g:Nat}(h:w0.grownBy w (some g))(hb:Below w.heap.size w w'):w0.grownBy w' (some g):=
 ⟨hb.os.trans h.os,hb.tape.trans h.tape,hb.output.trans h.output,aan h.size hb.size,fun q hq hn=>(hb.block q (aaj hq h.size)).trans (h.block q hq hn)⟩
def Pu (xs ys:List Nat)(w:World)(e:Ending)(w':World):Prop:=∃g M,e=.returned (.slice (some ⟨g,0,none⟩) M.length M.length)/\w.heap.size<=g/\ba w' g M/\M.length=(Qw xs).length+(Qw ys).length/\val M=val xs*val ys/\Below w.heap.size w w'
def Mq (n:Nat):Prop:=∀(xs ys:List Nat) (v u:Value) (w:World),xs.length+ys.length<n->Rd w v xs->Rd w u ys->Calls Tryz.prog 253 #[v,u] w (Pu xs ys w)
theorem ba.whole {w:World}{g:Nat}{L:List Nat}(h:ba w g L)(hc:L.length<=1099511627776):Rd w (.slice (some ⟨g,0,none⟩) L.length L.length) L:=by have:=h.rd (o:=0) (n:=L.length) (c:=L.length) (by omega) (aaa _) (by unfold maxLen;omega);rw[adq,adx]at this;exact this
theorem Qs (w:World)(n:Nat):Below w.heap.size w (w.drewN n):=⟨rfl,rfl,rfl,aaa _,fun _ _=>rfl⟩
theorem T9 {P:Program}{w:World}{ops:Array Oper}{rest:List Oper}{o:Oper}{a:Act}{Q:Exit->Act->World->Prop}(hgd:o.guard=none)(d s:Operand)(dT sT:TypeId)
  (ho:o.op=.call {callee:=.builtin .copy,args:= #[d,s],argTypes:= #[dT,sT]}) (hu:P.underlying dT=some (.slice 101)) (hsz:(P.info? 101).map (·.size)=some 1)
  (g n c xU:Nat) (sp:Option Addr) (L cs:List Nat) (hd:a.eval d=.slice (some ⟨g,0,none⟩) n c) (hs:a.eval s=.slice sp cs.length xU) (hB:ba w g L) (hR:Rd w (.slice sp cs.length xU) cs) (hn:cs.length<=n) (hnL:n<=L.length)
  (h:∀w',Hid (ba w' g (cs++L.drop cs.length))->Hid (w.grownBy w' (some g))->wpList P ops Q rest (a.put o.dst (goInt cs.length)) w'):wpList P ops Q (o::rest) a w:=by
 by_cases h0:cs.length=0
 ·obtain rfl:cs=[]:=aaq h0
  refine wpList_copy_nothing hgd d s dT sT ho 101 hu hsz (some ⟨g,0,none⟩) sp n c 0 xU hd hs (abd (aao _)) ?_;exact h w (show ba _ _ _ by simpa using hB) (X1 w _)
 obtain⟨_,ao',cap',e,T,U,J,E⟩:=hR;simp only[Value.slice.injEq]at e;obtain⟨rfl,-,rfl⟩:=e;obtain⟨gs,os,rfl,_⟩:=E 0 cs[0] (aad (by omega))
 have I:ba (w.setRow g ((ws L).toArray.toList.take 0++(ws cs++(ws L).toArray.toList.drop (0+(ws cs).length))).toArray) g (cs++L.drop cs.length):=by refine⟨?_,D7 J (Wk hB.2 _)⟩;rw[ae3 w g _ _ 101 _ hB.1];simp[ws]
 refine wpList_copy_own hgd d s dT sT ho 101 hu hsz g 0 n c ⟨gs,os,none⟩ cs.length xU hd hs (ws L).toArray 101 hB.1 (ws cs) (by rw[Jq];exact(abd hn).symm) ?_ (by simp[ws];omega) (ZB _) ?_
 ·intro j v H
  simp only[ws,ads,aee]at H;obtain⟨x,O,rfl⟩:=H;obtain⟨g',o',e,K⟩:=E j x O
  cases e
  have e2:(⟨gs,os,none⟩:Addr).add j=⟨gs,os+j,none⟩:=by unfold Addr.add;split<;>simp_all
  rw[e2];exact K
 rw[Jq];rw[Jq]at I;refine h _ I ?_;exact⟨rfl,rfl,rfl,by simp[World.setRow],fun k _ hk=>setRow_other w g k _ (fun e=>hk (by rw[e]))⟩
theorem Xr (ao:Option Addr)(n cap:Nat)(xs:List Nat)(w:World)(hr:Rd w (.slice ao n cap) xs):Calls Tryz.prog 273 #[.slice ao n cap] w fun e w'=>e=.returned (.slice ao (Qw xs).length (Qw xs).length)/\w=w':=by have h:=hr;obtain⟨_,ao',cap',e,-⟩:=h;simp only[Value.slice.injEq]at e;obtain⟨rfl,rfl,rfl⟩:=e;exact U6 _ _ _ _ hr
theorem Tz {ao:Option Addr}{n cap:Nat}{xs:List Nat}{w:World}(hr:Rd w (.slice ao n cap) xs):Rd w (.slice ao (Qw xs).length (Qw xs).length) (Qw xs):=by have h:=hr;obtain⟨_,ao',cap',e,-⟩:=h;simp only[Value.slice.injEq]at e;obtain⟨rfl,rfl,rfl⟩:=e;exact N5 hr
theorem Gb (g ga oa gb ob hf:Nat)(xs ys:List Nat)(w:World)(IH:Mq (xs.length+ys.length))(hL:ba w g (List.replicate (xs.length+ys.length) 0))(hN:xs.length+ys.length<=274877906944)
  (ha:Rd w (.slice (some ⟨ga,oa,none⟩) xs.length xs.length) xs) (hb:Rd w (.slice (some ⟨gb,ob,none⟩) ys.length ys.length) ys) (SQ:ga≠g) (hgb:gb≠g) (hh:hf=(xs.length+1) / 2) (DX:ys.length<=xs.length) (h24:24<=ys.length) (h2:xs.length<2*ys.length):
  Calls Tryz.prog 276 #[.slice (some ⟨g,0,none⟩) (xs.length+ys.length) (xs.length+ys.length),.slice (some ⟨ga,oa,none⟩) xs.length xs.length,.slice (some ⟨gb,ob,none⟩) ys.length ys.length] w (Qkx xs ys g w):=by
 have hx1:hf<xs.length:=by omega
 have qL:hf<=ys.length:=by omega
 have HH:=zq (Half.mk ha.ok hb.ok (by omega) qL);have HI:=zq IH;have HZ:=zq hL;have vC:=zq (ha.take (n:=hf) (c:=hf) (by omega) (aaa _) (by omega));have iT:=zq (ha.drop (n:=hf) (by omega));have bU:=zq (hb.take (n:=hf) (c:=hf) qL (aaa _) qL);have aaL:=hb.lt (k:=gb) rfl
 have hdiv:((xs.length:Int)+1) / 2=(hf:Int):=by omega
 have zt:=zq (hb.drop (n:=hf) (by omega));clear ha hb hL IH hh;by_cases hyh:hf<ys.length
 ·have aC:=zt
  clear zt;go_enter Tryz.func276,Tryz.ntmps276;go_wp2_with fail;go_quiet (fail);go_wp2_with fail;go_quiet (fail);go_wp2_with fail;refine(HI.o _ _ _ _ _ (by rw[aak,aak];omega) (vC.o.drewN _) (bU.o.drewN _)).mono ?_;rintro e w1 ⟨g1,L1,rfl,hg1,wO,ig,gB,mI⟩;have C1:Below w.heap.size w w1:=(Qs w _).trans mI;have GU:w.heap.size<=g1:=hg1;have hs1:=wO.lt;have hz1:=C1.size
  have aa3:L1.length<=274877906944:=by have q1:=Qu (xs.take hf);have q2:=Qu (ys.take hf);rw[aak]at q1 q2;omega
  have R1:=zq (wO.whole (by omega));have K1:=zq C1;have V1:=zq gB;clear mI wO ig gB C1 hg1;go_wp2_with fail;refine(U6 _ _ L1 _ R1.o).mono ?_;rintro e w' ⟨rfl,rfl⟩;have T1:=zq (N5 R1.o);go_wp2_with fail;refine(HI.o _ _ _ _ _ (by rw[aag,aag];omega) (iT.o.below K1.o) (aC.o.below K1.o)).mono ?_;rintro e w2 ⟨g2,L2,rfl,hg2,ki,hl2,hv2,gw⟩;have hs2:=ki.lt;have hz2:=gw.size
  have NG:L2.length<=274877906944:=by have q1:=Qu (xs.drop hf);have q2:=Qu (ys.drop hf);rw[aag]at q1 q2;omega
  have R2:=zq (ki.whole (by omega));have K2:Hid (Below w.heap.size w w2):=K1.o.trans (gw.mono hz1);have V2:=zq hv2;have KP:=zq (T1.o.below gw);clear gw ki hl2 hv2 R1 T1;go_wp2_with fail;refine(U6 _ _ L2 _ R2.o).mono ?_;rintro e w' ⟨rfl,rfl⟩;have T2:=zq (N5 R2.o);go_wp2_with fail;refine(Hb _ _ _ _ _ (vC.o.below K2.o) (iT.o.below K2.o) (by rw[aak];omega) (by rw[aag];omega)).mono ?_;rintro e w3 ⟨g3,S1,rfl,hg3,kj,lG,hv3,cQ⟩;rw[aak,aag]at lG;have hs3:=kj.lt;have hz3:=cQ.size;have R3:=zq (kj.whole (by omega));have K3:Hid (Below w.heap.size w w3):=K2.o.trans (cQ.mono (by omega));have V3:=zq hv3;have KQ:=zq (KP.o.below cQ);have KW:=zq (T2.o.below cQ);have rQ:=zq lG;clear cQ kj hv3 R2 T2 KP lG;go_wp2_with fail;refine(Hb _ _ _ _ _ (bU.o.below K3.o) (aC.o.below K3.o) (by rw[aak];omega) (by rw[aag];omega)).mono ?_;rintro e w4 ⟨g4,S2,rfl,hg4,fK,hl4,hv4,eh⟩;rw[aak,aag]at hl4;have vn:=fK.lt;have DY:=eh.size;have R4:=zq (fK.whole (by omega));have KO:=zq (R3.o.below eh);have K4:Hid (Below w.heap.size w w4):=K3.o.trans (eh.mono (by omega));have V4:=zq hv4;have KS:=zq (KQ.o.below eh);have KX:=zq (KW.o.below eh)
  have hS:S1.length+S2.length<xs.length+ys.length:=by have:=rQ.o;omega
  clear eh fK hv4 R3 KQ KW hl4;go_wp2_with fail;refine(HI.o _ _ _ _ _ hS KO.o R4.o).mono ?_;rintro e w5 ⟨g5,L5,rfl,uW,sQ,NF,OD,eN⟩;have hs5:=sQ.lt;have TJ:=eN.size
  have aa4:L5.length<=274877906944:=by have q1:=Qu S1;have q2:=Qu S2;omega
  have K5:Hid (Below w.heap.size w w5):=K4.o.trans (eN.mono (by omega))
  have V5:Hid (val L5=(val (xs.take hf)+val (xs.drop hf))*(val (ys.take hf)+val (ys.drop hf))):=by show _=_;rw[OD,V3.o,V4.o]
  have AZ:=zq (KS.o.below eN);have KY:=zq (KX.o.below eN);have fe:=HZ.o.lt
  have n15:g1≠g5:=by omega
  have n25:g2≠g5:=by omega
  have uD:g5≠g:=by omega
  have n1g:g1≠g:=by omega
  have O0:g2≠g:=by omega
  have Oj:w.heap.size<=g5:=by omega
  have B5:=zq sQ;have JZ:=zq (HZ.o.below K5.o HZ.o.lt);clear eN sQ OD NF KO R4 KS KX V3 V4 rQ hS;obtain⟨tI,fD⟩:=Half.PD B5.o.2 V5.o V1.o;have rR:=zq tI;clear tI;go_wp2_with fail;refine(Ul g5 L5.length L5.length L5 (Qw L1) _ _ B5.o rfl (aaa _) (by omega) AZ.o (by intro e;cases e;exact n15 rfl) fD rR.o).mono ?_;rintro e w6 ⟨rfl,M1,pk,uZ,qK,ic⟩;have Ie:=ic.size;have TD:=pk.lt;have G6:Hid (w.grownBy w6 (some g)):=Y7 (Sh (X1 w (some g)) K5.o) ic (.inr Oj);have KU:=zq (AZ.o.kept ic (by intro k hk e;cases hk;cases e;exact n15 rfl));have BA:=zq (KY.o.kept ic (by intro k hk e;cases hk;cases e;exact n25 rfl));have KB:=zq (JZ.o.kept ic (by intro e;cases e;exact uD rfl));have B6:=zq pk;have V6:=zq qK;obtain⟨oO,tJ⟩:=Half.PE pk.2 V5.o V1.o V2.o qK;have rS:=zq oO;clear oO pk qK ic AZ KY JZ B5 K5;have pT:=zq uZ
  have oP:(Qw L2).length<=L5.length:=by omega
  clear uZ tJ;go_wp2_with fail;refine(Ul g5 L5.length L5.length M1 (Qw L2) _ _ B6.o pT.o.symm (aaa _) (by omega) BA.o (by intro e;cases e;exact n25 rfl) oP rS.o).mono ?_;rintro e w7 ⟨rfl,M2,BM,GM,OG,ie⟩;have hz7:=ie.size;have hs7:=BM.lt;have G7:Hid (w.grownBy w7 (some g)):=Y7 G6.o ie (.inr Oj);have KV:=zq (KU.o.kept ie (by intro k hk e;cases hk;cases e;exact n15 rfl));have KZ:=zq (BA.o.kept ie (by intro k hk e;cases hk;cases e;exact n25 rfl));have KC:=zq (KB.o.kept ie (by intro e;cases e;exact uD rfl));have B7:=zq BM;have V7:=zq (Half.mid V5.o V1.o V2.o V6.o OG);have qy:=HH.o.lM V1.o;have tF:=HH.o.mQ V2.o;have CU:=HH.o.pO V7.o;clear BM OG ie KU BA KB B6 G6 rR rS V5 V6;have hzl:(List.replicate (xs.length+ys.length) 0).length=xs.length+ys.length:=aa9;have AV:=zq hzl;clear hzl;have zL:Hid (M2.length=L5.length):=GM.trans pT.o;clear GM;go_wp2_with ((with_reducible refine T9 (o:=⟨some 55,_,_,_,_,_⟩) rfl (.tmp 53) (.tmp 54) 59 59 rfl Tryz.underlying59 Tryz.lJ g (xs.length+ys.length) (xs.length+ys.length) _ _ (List.replicate (xs.length+ys.length) 0) (Qw L1) rfl rfl KC.o KV.o (by omega) (by rw[AV.o];exact aaa _) ?_);intro w8 LA jy);have La:=zq (KZ.o.kept jy.o (by intro k hk e;cases hk;cases e;exact O0 rfl));have Ih:=zq (B7.o.kept jy.o (by intro e;cases e;exact uD rfl));have G8:Hid (w.grownBy w8 (some g)):=Y7 G7.o jy.o (.inl rfl);have hz8:=jy.o.size
  have h2n:2*hf<xs.length+ys.length:=by omega
  clear jy KZ B7 G7 KC AV KV;go_wp2_with fail;refine(Vk g (2*hf) (xs.length+ys.length-2*hf) (xs.length+ys.length-2*hf) _ (Qw L2) _ _ LA.o (by rw[aac,aag,aa9];omega) (aaa _) (by omega) La.o (by intro e;cases e;exact O0 rfl) tF).mono ?_;rintro e w9 ⟨rfl,Z,LB,⟨CS,OB,MC⟩,oL⟩;obtain⟨hzl,OY⟩:=HH.o.Ld rfl V1.o V2.o (by rw[List.drop_replicate]) CS OB MC;have B9:=zq LB;have TQ:=zq (Ih.o.kept oL (by intro e;cases e;exact uD rfl));have G9:Hid (w.grownBy w9 (some g)):=Y7 G8.o oL (.inl rfl);have ZL:=zq hzl;have ZV:=zq OY;have R5:=zq (TQ.o.whole (by have:=zL.o;omega));have jW:M2.length=L5.length:=zL.o;rw[jW]at R5;clear LB CS OB MC oL hzl OY LA La Ih G8 jW;go_wp2_with fail;have T5:Hid (Rd w9.drew _ (Qw M2)):=Tz (w:=w9.drew) (by exact R5.o);have eu:(0:Int)<=(hf:Int):=abP _
  have xd: ¬(xs.length+ys.length=hf):=by omega
  have dc:(hf:Int)<=((xs.length:Int)+(ys.length:Int)):=by omega
  go_region_held3 (fun _=>True) (trivial)
   (first
    |(go_at_call 273;refine(Xr _ _ _ M2 _ (by exact R5.o)).mono ?_;rintro e w' ⟨rfl,rfl⟩)
    |(go_at_call 275;refine(Vk g hf (xs.length+ys.length-hf) (xs.length+ys.length-hf) Z (Qw M2) _ _ (by exact B9.o) (by rw[ZL.o];omega) (aaa _) (by omega) T5.o (by intro e;cases e;exact uD rfl) CU).mono ?_;rintro e eH ⟨rfl,M,sP,⟨tK,uj,hcm⟩,mP⟩))
  have HF:=zq (HH.o.Lf ZL.o ZV.o V7.o tK uj hcm);have TP:=zq sP;have TV:Hid (w.grownBy eH (some g)):=Y7 (Y7 G9.o (Z0 w9 1 (some g)) (.inl rfl)) mP (.inl rfl);clear sP tK uj hcm mP;go_wp2_with fail;go_end0;exact⟨rfl,M,TP.o,HF.o.1,HF.o.2,TV.o⟩
 have je:ys.length<=hf:=by omega
 have aC:Hid (Rd w (.slice (some ⟨gb,ob,none⟩) 0 0) (ys.drop hf)):=by show Rd _ _ _;rw[aaR je];exact Rd.none' aaL (by unfold maxLen;omega)
 clear zt hyh;go_enter Tryz.func276,Tryz.ntmps276;go_wp2_with fail;go_quiet (fail);go_wp2_with fail;go_quiet (fail);go_wp2_with fail;refine(HI.o _ _ _ _ _ (by rw[aak,aak];omega) (vC.o.drewN _) (bU.o.drewN _)).mono ?_;rintro e w1 ⟨g1,L1,rfl,hg1,wO,ig,gB,mI⟩;have C1:Below w.heap.size w w1:=(Qs w _).trans mI;have GU:w.heap.size<=g1:=hg1;have hs1:=wO.lt;have hz1:=C1.size
 have aa3:L1.length<=274877906944:=by have q1:=Qu (xs.take hf);have q2:=Qu (ys.take hf);rw[aak]at q1 q2;omega
 have R1:=zq (wO.whole (by omega));have K1:=zq C1;have V1:=zq gB;clear mI wO ig gB C1 hg1;go_wp2_with fail;refine(U6 _ _ L1 _ R1.o).mono ?_;rintro e w' ⟨rfl,rfl⟩;have T1:=zq (N5 R1.o);go_wp2_with fail;refine(HI.o _ _ _ _ _ (by rw[aag,aag];omega) (iT.o.below K1.o) (aC.o.below K1.o)).mono ?_;rintro e w2 ⟨g2,L2,rfl,hg2,ki,hl2,hv2,gw⟩;have hs2:=ki.lt;have hz2:=gw.size
 have NG:L2.length<=274877906944:=by have q1:=Qu (xs.drop hf);have q2:=Qu (ys.drop hf);rw[aag]at q1 q2;omega
 have R2:=zq (ki.whole (by omega));have K2:Hid (Below w.heap.size w w2):=K1.o.trans (gw.mono hz1);have V2:=zq hv2;have KP:=zq (T1.o.below gw);clear gw ki hl2 hv2 R1 T1;go_wp2_with fail;refine(U6 _ _ L2 _ R2.o).mono ?_;rintro e w' ⟨rfl,rfl⟩;have T2:=zq (N5 R2.o);go_wp2_with fail;refine(Hb _ _ _ _ _ (vC.o.below K2.o) (iT.o.below K2.o) (by rw[aak];omega) (by rw[aag];omega)).mono ?_;rintro e w3 ⟨g3,S1,rfl,hg3,kj,lG,hv3,cQ⟩;rw[aak,aag]at lG;have hs3:=kj.lt;have hz3:=cQ.size;have R3:=zq (kj.whole (by omega));have K3:Hid (Below w.heap.size w w3):=K2.o.trans (cQ.mono (by omega));have V3:=zq hv3;have KQ:=zq (KP.o.below cQ);have KW:=zq (T2.o.below cQ);have rQ:=zq lG;clear cQ kj hv3 R2 T2 KP lG;go_wp2_with fail;refine(Hb _ _ _ _ _ (bU.o.below K3.o) (aC.o.below K3.o) (by rw[aak];omega) (by rw[aag];omega)).mono ?_;rintro e w4 ⟨g4,S2,rfl,hg4,fK,hl4,hv4,eh⟩;rw[aak,aag]at hl4;have vn:=fK.lt;have DY:=eh.size;have R4:=zq (fK.whole (by omega));have KO:=zq (R3.o.below eh);have K4:Hid (Below w.heap.size w w4):=K3.o.trans (eh.mono (by omega));have V4:=zq hv4;have KS:=zq (KQ.o.below eh);have KX:=zq (KW.o.below eh)
 have hS:S1.length+S2.length<xs.length+ys.length:=by have:=rQ.o;omega
 clear eh fK hv4 R3 KQ KW hl4;go_wp2_with fail;refine(HI.o _ _ _ _ _ hS KO.o R4.o).mono ?_;rintro e w5 ⟨g5,L5,rfl,uW,sQ,NF,OD,eN⟩;have hs5:=sQ.lt;have TJ:=eN.size
 have aa4:L5.length<=274877906944:=by have q1:=Qu S1;have q2:=Qu S2;omega
 have K5:Hid (Below w.heap.size w w5):=K4.o.trans (eN.mono (by omega))
 have V5:Hid (val L5=(val (xs.take hf)+val (xs.drop hf))*(val (ys.take hf)+val (ys.drop hf))):=by show _=_;rw[OD,V3.o,V4.o]
 have AZ:=zq (KS.o.below eN);have KY:=zq (KX.o.below eN);have fe:=HZ.o.lt
 have n15:g1≠g5:=by omega
 have n25:g2≠g5:=by omega
 have uD:g5≠g:=by omega
 have n1g:g1≠g:=by omega
 have O0:g2≠g:=by omega
 have Oj:w.heap.size<=g5:=by omega
 have B5:=zq sQ;have JZ:=zq (HZ.o.below K5.o HZ.o.lt);clear eN sQ OD NF KO R4 KS KX V3 V4 rQ hS;obtain⟨tI,fD⟩:=Half.PD B5.o.2 V5.o V1.o;have rR:=zq tI;clear tI;go_wp2_with fail;refine(Ul g5 L5.length L5.length L5 (Qw L1) _ _ B5.o rfl (aaa _) (by omega) AZ.o (by intro e;cases e;exact n15 rfl) fD rR.o).mono ?_;rintro e w6 ⟨rfl,M1,pk,uZ,qK,ic⟩;have Ie:=ic.size;have TD:=pk.lt;have G6:Hid (w.grownBy w6 (some g)):=Y7 (Sh (X1 w (some g)) K5.o) ic (.inr Oj);have KU:=zq (AZ.o.kept ic (by intro k hk e;cases hk;cases e;exact n15 rfl));have BA:=zq (KY.o.kept ic (by intro k hk e;cases hk;cases e;exact n25 rfl));have KB:=zq (JZ.o.kept ic (by intro e;cases e;exact uD rfl));have B6:=zq pk;have V6:=zq qK;obtain⟨oO,tJ⟩:=Half.PE pk.2 V5.o V1.o V2.o qK;have rS:=zq oO;clear oO pk qK ic AZ KY JZ B5 K5;have pT:=zq uZ
 have oP:(Qw L2).length<=L5.length:=by omega
 clear uZ tJ;go_wp2_with fail;refine(Ul g5 L5.length L5.length M1 (Qw L2) _ _ B6.o pT.o.symm (aaa _) (by omega) BA.o (by intro e;cases e;exact n25 rfl) oP rS.o).mono ?_;rintro e w7 ⟨rfl,M2,BM,GM,OG,ie⟩;have hz7:=ie.size;have hs7:=BM.lt;have G7:Hid (w.grownBy w7 (some g)):=Y7 G6.o ie (.inr Oj);have KV:=zq (KU.o.kept ie (by intro k hk e;cases hk;cases e;exact n15 rfl));have KZ:=zq (BA.o.kept ie (by intro k hk e;cases hk;cases e;exact n25 rfl));have KC:=zq (KB.o.kept ie (by intro e;cases e;exact uD rfl));have B7:=zq BM;have V7:=zq (Half.mid V5.o V1.o V2.o V6.o OG);have qy:=HH.o.lM V1.o;have tF:=HH.o.mQ V2.o;have CU:=HH.o.pO V7.o;clear BM OG ie KU BA KB B6 G6 rR rS V5 V6;have hzl:(List.replicate (xs.length+ys.length) 0).length=xs.length+ys.length:=aa9;have AV:=zq hzl;clear hzl;have zL:Hid (M2.length=L5.length):=GM.trans pT.o;clear GM;go_wp2_with ((with_reducible refine T9 (o:=⟨some 55,_,_,_,_,_⟩) rfl (.tmp 53) (.tmp 54) 59 59 rfl Tryz.underlying59 Tryz.lJ g (xs.length+ys.length) (xs.length+ys.length) _ _ (List.replicate (xs.length+ys.length) 0) (Qw L1) rfl rfl KC.o KV.o (by omega) (by rw[AV.o];exact aaa _) ?_);intro w8 LA jy);have La:=zq (KZ.o.kept jy.o (by intro k hk e;cases hk;cases e;exact O0 rfl));have Ih:=zq (B7.o.kept jy.o (by intro e;cases e;exact uD rfl));have G8:Hid (w.grownBy w8 (some g)):=Y7 G7.o jy.o (.inl rfl);have hz8:=jy.o.size
 have h2n:2*hf<xs.length+ys.length:=by omega
 clear jy KZ B7 G7 KC AV KV;go_wp2_with fail;refine(Vk g (2*hf) (xs.length+ys.length-2*hf) (xs.length+ys.length-2*hf) _ (Qw L2) _ _ LA.o (by rw[aac,aag,aa9];omega) (aaa _) (by omega) La.o (by intro e;cases e;exact O0 rfl) tF).mono ?_;rintro e w9 ⟨rfl,Z,LB,⟨CS,OB,MC⟩,oL⟩;obtain⟨hzl,OY⟩:=HH.o.Ld rfl V1.o V2.o (by rw[List.drop_replicate]) CS OB MC;have B9:=zq LB;have TQ:=zq (Ih.o.kept oL (by intro e;cases e;exact uD rfl));have G9:Hid (w.grownBy w9 (some g)):=Y7 G8.o oL (.inl rfl);have ZL:=zq hzl;have ZV:=zq OY;have R5:=zq (TQ.o.whole (by have:=zL.o;omega));have jW:M2.length=L5.length:=zL.o;rw[jW]at R5;clear LB CS OB MC oL hzl OY LA La Ih G8 jW;go_wp2_with fail;have T5:Hid (Rd w9.drew _ (Qw M2)):=Tz (w:=w9.drew) (by exact R5.o);have eu:(0:Int)<=(hf:Int):=abP _
 have xd: ¬(xs.length+ys.length=hf):=by omega
 have dc:(hf:Int)<=((xs.length:Int)+(ys.length:Int)):=by omega
 go_region_held3 (fun _=>True) (trivial)
  (first
   |(go_at_call 273;refine(Xr _ _ _ M2 _ (by exact R5.o)).mono ?_;rintro e w' ⟨rfl,rfl⟩)
   |(go_at_call 275;refine(Vk g hf (xs.length+ys.length-hf) (xs.length+ys.length-hf) Z (Qw M2) _ _ (by exact B9.o) (by rw[ZL.o];omega) (aaa _) (by omega) T5.o (by intro e;cases e;exact uD rfl) CU).mono ?_;rintro e eH ⟨rfl,M,sP,⟨tK,uj,hcm⟩,mP⟩))
 have HF:=zq (HH.o.Lf ZL.o ZV.o V7.o tK uj hcm);have TP:=zq sP;have TV:Hid (w.grownBy eH (some g)):=Y7 (Y7 G9.o (Z0 w9 1 (some g)) (.inl rfl)) mP (.inl rfl);clear sP tK uj hcm mP;go_wp2_with fail;go_end0;exact⟨rfl,M,TP.o,HF.o.1,HF.o.2,TV.o⟩
theorem Mq.mono {n m:Nat}(h:Mq n)(hm:m<=n):Mq m:=fun xs ys v u w hl hv hu=>h xs ys v u w (by omega) hv hu
theorem Rd.some' {w:World}{ao:Option Addr}{n c:Nat}{xs:List Nat}(h:Rd w (.slice ao n c) xs)(h0:0<xs.length):∃g o,ao=some ⟨g,o,none⟩:=by obtain⟨_,ao',cap',e,_,_,_,E⟩:=h;simp only[Value.slice.injEq]at e;obtain⟨rfl,-,-⟩:=e;obtain⟨g,o,H,_⟩:=E 0 xs[0] (aad h0);exact⟨g,o,H⟩
theorem Wu {w w1 w2:World}{e:Ending}{A B M xs ys:List Nat}{n:Nat}(h1:M.length=A.length+B.length)(h2:val M=val A*val B)(hn:n=M.length)(he:e=.returned (.slice (some ⟨w.heap.size,0,none⟩) n n))(hB:ba w2 w.heap.size M)(hb:Below w.heap.size w w1)(hg:w1.grownBy w2 (some w.heap.size))
  (hAB:(A=Qw xs/\B=Qw ys)\/(A=Qw ys/\B=Qw xs)):Pu xs ys w e w2:=by
 subst hn;refine⟨_,M,he,aaa _,hB,?_,?_,abq hb hg hb.size (fun k hk=>by cases hk;exact aaa _)⟩
 ·rcases hAB with ⟨rfl,rfl⟩|⟨rfl,rfl⟩
  ·exact h1
  rw[h1,Nat.add_comm]
 rcases hAB with ⟨rfl,rfl⟩|⟨rfl,rfl⟩
 ·rw[h2,Qn,Qn]
 rw[h2,Qn,Qn,aaW]
def RO (A B:List Nat)(g:Nat)(w1:World)(i:Value)(wr:World):Prop:=∃(k:Nat) (M:List Nat),i=.int .i64 (k:Nat)/\k<=A.length+B.length/\ba wr g M/\fu A B (min k A.length) M/\w1.grownBy wr (some g)
theorem Qyr (n:Nat)(IH:Mq n)(hn:n<=274877906944)(xs ys:List Nat)(v u:Value)(w:World)(hl:xs.length+ys.length<=n)(hv:Rd w v xs)(hu:Rd w u ys):Calls Tryz.prog 253 #[v,u] w (Pu xs ys w):=by
 have HV:=zq hv;have HU:=zq hu;obtain⟨_,ao,cap,rfl,-⟩:=hv;obtain⟨_,bo,fz,rfl,-⟩:=hu;have TA:=zq (Tz HV.o);have TB:=zq (Tz HU.o);have q1:=Qu xs;have q2:=Qu ys;have HI:=zq IH;obtain⟨X,hX⟩:=xq (Qw xs);obtain⟨Y,hY⟩:=xq (Qw ys);rw[<-hX]at TA q1;rw[<-hY]at TB q2;have HX:=zq hX;have HY:=zq hY;clear IH hX hY;by_cases hsw:X.length<Y.length
 ·have BG:X.length<=Y.length:=by omega
  have vD:Hid ((Y=Qw xs/\X=Qw ys)\/(Y=Qw ys/\X=Qw xs)):=.inr ⟨HY.o,HX.o⟩;have oh:∀w:World,(Instr.makeSlice 59 (.int .i64 ((Y.length:Int)+(X.length:Int))) (.int .i64 ((Y.length:Int)+(X.length:Int)))).run Tryz.prog w=.ok (.slice (some ⟨w.heap.size,0,none⟩) (Y.length+X.length) (Y.length+X.length)) (w.alloc (.cells (madeCells #[.int .u64 0] (Y.length+X.length)) 101)):=Zk (Y.length+X.length) (by omega);have HZ:=zq (ba.made w (Y.length+X.length));have aP:=zq (Qq w (.cells (madeCells #[.int .u64 0] (Y.length+X.length)) 101));have NA:=zq (TB.o.ne (aaa w.heap.size));have NB:=zq (TA.o.ne (aaa w.heap.size));have RA:=zq (TB.o.below aP.o);have RB:=zq (TA.o.below aP.o);by_cases h24:X.length<24
  ·go_enter Tryz.func253,Tryz.ntmps253
   go_wp2_with fail;refine(Xr _ _ _ xs _ HV.o).mono ?_;rintro e w' ⟨rfl,rfl⟩;rw[<-HX.o];go_wp2_with fail;refine(Xr _ _ _ ys _ HU.o).mono ?_;rintro e w' ⟨rfl,rfl⟩;rw[<-HY.o];go_wp2_with fail;refine(Qxt w.heap.size (Y.length+X.length) Y X _ _ _ HZ.o rfl (by omega) RA.o NA.o RB.o NB.o).mono ?_;rintro e w2 ⟨rfl,M,hM,ct,jD,hgr⟩;have HM:=zq hM;have dV:=zq ct;have jQ:=zq jD;have bn:=zq hgr;clear hM ct jD hgr;go_wp2_with fail;go_ret;exact Wu dV.o jQ.o dV.o.symm rfl HM.o aP.o bn.o vD.o
  obtain⟨ga,oa,hao⟩:=TB.o.some' (by omega);obtain⟨gb,ob,wZ⟩:=TA.o.some' (by omega);subst hao wZ;have SQ:ga≠w.heap.size:=fun e=>NA.o (by rw[e];rfl);have hgb:gb≠w.heap.size:=fun e=>NB.o (by rw[e];rfl)
  have d1:decide ((X.length:Int)<24)=false:=by simp;omega
  by_cases cR:2*X.length<=Y.length
  ·have d2:decide (2*(X.length:Int)<=(Y.length:Int))=true:=by simp;omega
   go_enter Tryz.func253,Tryz.ntmps253;go_wp2_with fail;refine(Xr _ _ _ xs _ HV.o).mono ?_;rintro e w' ⟨rfl,rfl⟩;rw[<-HX.o];go_wp2_with fail;refine(Xr _ _ _ ys _ HU.o).mono ?_;rintro e w' ⟨rfl,rfl⟩;rw[<-HY.o];go_wp2_with fail;generalize w.alloc (.cells (madeCells #[.int .u64 0] (Y.length+X.length)) 101)=w1 at*;go_loopw [6] (fun i wr=>RO Y X w.heap.size w1 i wr) (fun i _=>Y.length-(intOf i).toNat)
   case atStart=>exact⟨0,_,rfl,aao _,HZ.o,by rw[Nat.zero_min];exact fu.start Y X,X1 w1 _⟩
   case round=>
    obtain⟨k,M,rfl,hk,hM,hst,hgr⟩:=hrel;have HM:=zq hM;have HST:=zq hst;have bn:=zq hgr;have uu:=hgr.size;have hwb:=aP.o.size;have CK:=hM.lt;clear hM hst hgr;by_cases hlt:k<Y.length
    ·obtain⟨e,he⟩:=xq (min (k+X.length) Y.length)
     have fC:k<=e:=by omega
     have tx:e<=Y.length:=by omega
     have lF:e-k<=X.length:=by omega
     have tO:min ((k:Int)+(X.length:Int)) (Y.length:Int)=(e:Int):=by omega
     have rU:Hid (min (k+X.length) Y.length=e):=he.symm
     have iO:fu Y X k M:=by have:=HST.o;rw[abd (by omega)]at this;exact this
     have ee:=zq iO;have iT:=zq (((RA.o.kept bn.o (by intro q hq e2;cases hq;exact NA.o e2)).drop (n:=k) (by omega)).take (n:=e-k) (c:=e-k) (by rw[aag];omega) (aaa _) (by omega));have aC:=zq (RB.o.kept bn.o (by intro q hq e2;cases hq;exact NB.o e2));have eu:(0:Int)<=(k:Int):=abP _
     have dc:(k:Int)<=((Y.length:Int)+(X.length:Int)):=by omega
     have jV:(k:Int)<=(e:Int):=by omega
     have ri:(e:Int)<=(Y.length:Int):=by omega
     have hc1: ¬(Y.length+X.length=k):=by omega
     have hc2: ¬(e=k):=by omega
     have cD:((Y.drop k).take (e-k)).length=e-k:=by rw[aak,aag];omega
     have nZ:=zq cD;clear he iO cD;go_wp2_with fail
     go_region_held3 (fun _=>True) (trivial)
      (first
       |(go_at_call 253;refine(HI.o ((Y.drop k).take (e-k)) X _ _ _ (by have:=aeC (e-k) (Y.drop k);omega) (by exact iT.o) (by exact aC.o)).mono ?_;rintro e2 w3 ⟨g3,P,rfl,hg3,kj,lG,hv3,cQ⟩;have o9:=zq (kj.whole (by have p1:=Qu ((Y.drop k).take (e-k));have p2:=Qu X;have p3:=aeC (e-k) (Y.drop k);omega));have qd:=zq hv3;have aS:=zq cQ;have n3:g3≠w.heap.size:=(aeZ (aaj CK hg3)).symm;clear lG hv3 kj cQ)
       |(go_at_call 273;refine(Xr _ _ _ P _ (by exact o9.o)).mono ?_;rintro e2 w' ⟨rfl,rfl⟩)
       |(go_at_call 275;refine(Vk w.heap.size k (Y.length+X.length-k) (Y.length+X.length-k) M (Qw P) _ _ (by exact ba.below (w:=wr.drew) HM.o aS.o CK) (by have:=ee.o.1;omega) (aaa _) (by omega) (Tz o9.o) (by intro e2;cases e2;exact n3 rfl) (Cv RA.o.ok RB.o.ok tx qd.o fC)).mono ?_;rintro e2 w4 ⟨rfl,M',fK,⟨tK,uj,hcm⟩,tC⟩))
     have HN:=zq (fu.step RA.o.ok RB.o.ok ee.o fC tx qd.o tK uj hcm);have vS:=zq fK;have IE:Hid (w1.grownBy w4 (some w.heap.size)):=Y7 (Sh (w:=wr.drew) (Y7 bn.o (Z0 wr 1 (some w.heap.size)) (.inl rfl)) aS.o) tC (.inl rfl);clear fK tK uj hcm tC;go_wp2_with fail;have ah:RO Y X w.heap.size w1 (.int .i64 ((k:Int)+(X.length:Int))) w4:=⟨k+X.length,M',by go_num,by omega,vS.o,by rw[rU.o];exact HN.o,IE.o⟩
     first|exact⟨ah,by simp[intOf];omega⟩|exact⟨by (repeat apply Exists.intro);exact⟨ah,rfl⟩,by simp[intOf];omega⟩
    have HD:=zq (fu.done (xs:=Y) (ys:=X) (M:=M) (by have:=HST.o;rw[Nat.min_eq_right (by omega)]at this;exact this));go_wp2_with fail;go_ret;exact Wu HD.o.1 HD.o.2 HD.o.1.symm rfl HM.o aP.o bn.o vD.o
  go_enter Tryz.func253,Tryz.ntmps253;go_wp2_with fail;refine(Xr _ _ _ xs _ HV.o).mono ?_;rintro e w' ⟨rfl,rfl⟩;rw[<-HX.o];go_wp2_with fail;refine(Xr _ _ _ ys _ HU.o).mono ?_;rintro e w' ⟨rfl,rfl⟩;rw[<-HY.o];go_wp2_with fail;refine(Gb w.heap.size ga oa gb ob ((Y.length+1) / 2) Y X _ (HI.o.mono (by omega)) HZ.o (by omega) RA.o RB.o SQ hgb rfl BG (by omega) (by omega)).mono ?_;rintro e w2 ⟨rfl,M,hM,ct,jD,hgr⟩;have HM:=zq hM;have dV:=zq ct;have jQ:=zq jD;have bn:=zq hgr;clear hM ct jD hgr;go_wp2_with fail;go_ret;exact Wu dV.o jQ.o dV.o.symm rfl HM.o aP.o bn.o vD.o
 have BG:Y.length<=X.length:=by omega
 have vD:Hid ((X=Qw xs/\Y=Qw ys)\/(X=Qw ys/\Y=Qw xs)):=.inl ⟨HX.o,HY.o⟩;have oh:∀w:World,(Instr.makeSlice 59 (.int .i64 ((X.length:Int)+(Y.length:Int))) (.int .i64 ((X.length:Int)+(Y.length:Int)))).run Tryz.prog w=.ok (.slice (some ⟨w.heap.size,0,none⟩) (X.length+Y.length) (X.length+Y.length)) (w.alloc (.cells (madeCells #[.int .u64 0] (X.length+Y.length)) 101)):=Zk (X.length+Y.length) (by omega);have HZ:=zq (ba.made w (X.length+Y.length));have aP:=zq (Qq w (.cells (madeCells #[.int .u64 0] (X.length+Y.length)) 101));have NA:=zq (TA.o.ne (aaa w.heap.size));have NB:=zq (TB.o.ne (aaa w.heap.size));have RA:=zq (TA.o.below aP.o);have RB:=zq (TB.o.below aP.o);by_cases h24:Y.length<24
 ·go_enter Tryz.func253,Tryz.ntmps253
  go_wp2_with fail;refine(Xr _ _ _ xs _ HV.o).mono ?_;rintro e w' ⟨rfl,rfl⟩;rw[<-HX.o];go_wp2_with fail;refine(Xr _ _ _ ys _ HU.o).mono ?_;rintro e w' ⟨rfl,rfl⟩;rw[<-HY.o];go_wp2_with fail;refine(Qxt w.heap.size (X.length+Y.length) X Y _ _ _ HZ.o rfl (by omega) RA.o NA.o RB.o NB.o).mono ?_;rintro e w2 ⟨rfl,M,hM,ct,jD,hgr⟩;have HM:=zq hM;have dV:=zq ct;have jQ:=zq jD;have bn:=zq hgr;clear hM ct jD hgr;go_wp2_with fail;go_ret;exact Wu dV.o jQ.o dV.o.symm rfl HM.o aP.o bn.o vD.o
 obtain⟨ga,oa,hao⟩:=TA.o.some' (by omega);obtain⟨gb,ob,wZ⟩:=TB.o.some' (by omega);subst hao wZ;have SQ:ga≠w.heap.size:=fun e=>NA.o (by rw[e];rfl);have hgb:gb≠w.heap.size:=fun e=>NB.o (by rw[e];rfl)
 have d1:decide ((Y.length:Int)<24)=false:=by simp;omega
 by_cases cR:2*Y.length<=X.length
 ·have d2:decide (2*(Y.length:Int)<=(X.length:Int))=true:=by simp;omega
  go_enter Tryz.func253,Tryz.ntmps253;go_wp2_with fail;refine(Xr _ _ _ xs _ HV.o).mono ?_;rintro e w' ⟨rfl,rfl⟩;rw[<-HX.o];go_wp2_with fail;refine(Xr _ _ _ ys _ HU.o).mono ?_;rintro e w' ⟨rfl,rfl⟩;rw[<-HY.o];go_wp2_with fail;generalize w.alloc (.cells (madeCells #[.int .u64 0] (X.length+Y.length)) 101)=w1 at*;go_loopw [6] (fun i wr=>RO X Y w.heap.size w1 i wr) (fun i _=>X.length-(intOf i).toNat)
  case atStart=>exact⟨0,_,rfl,aao _,HZ.o,by rw[Nat.zero_min];exact fu.start X Y,X1 w1 _⟩
  case round=>
   obtain⟨k,M,rfl,hk,hM,hst,hgr⟩:=hrel;have HM:=zq hM;have HST:=zq hst;have bn:=zq hgr;have uu:=hgr.size;have hwb:=aP.o.size;have CK:=hM.lt;clear hM hst hgr;by_cases hlt:k<X.length
   ·obtain⟨e,he⟩:=xq (min (k+Y.length) X.length)
    have fC:k<=e:=by omega
    have tx:e<=X.length:=by omega
    have lF:e-k<=Y.length:=by omega
    have tO:min ((k:Int)+(Y.length:Int)) (X.length:Int)=(e:Int):=by omega
    have rU:Hid (min (k+Y.length) X.length=e):=he.symm
    have iO:fu X Y k M:=by have:=HST.o;rw[abd (by omega)]at this;exact this
    have ee:=zq iO;have iT:=zq (((RA.o.kept bn.o (by intro q hq e2;cases hq;exact NA.o e2)).drop (n:=k) (by omega)).take (n:=e-k) (c:=e-k) (by rw[aag];omega) (aaa _) (by omega));have aC:=zq (RB.o.kept bn.o (by intro q hq e2;cases hq;exact NB.o e2));have eu:(0:Int)<=(k:Int):=abP _
    have dc:(k:Int)<=((X.length:Int)+(Y.length:Int)):=by omega
    have jV:(k:Int)<=(e:Int):=by omega
    have ri:(e:Int)<=(X.length:Int):=by omega
    have hc1: ¬(X.length+Y.length=k):=by omega
    have hc2: ¬(e=k):=by omega
    have cD:((X.drop k).take (e-k)).length=e-k:=by rw[aak,aag];omega
    have nZ:=zq cD;clear he iO cD;go_wp2_with fail
    go_region_held3 (fun _=>True) (trivial)
     (first
      |(go_at_call 253;refine(HI.o ((X.drop k).take (e-k)) Y _ _ _ (by have:=aeC (e-k) (X.drop k);omega) (by exact iT.o) (by exact aC.o)).mono ?_;rintro e2 w3 ⟨g3,P,rfl,hg3,kj,lG,hv3,cQ⟩;have o9:=zq (kj.whole (by have p1:=Qu ((X.drop k).take (e-k));have p2:=Qu Y;have p3:=aeC (e-k) (X.drop k);omega));have qd:=zq hv3;have aS:=zq cQ;have n3:g3≠w.heap.size:=(aeZ (aaj CK hg3)).symm;clear lG hv3 kj cQ)
      |(go_at_call 273;refine(Xr _ _ _ P _ (by exact o9.o)).mono ?_;rintro e2 w' ⟨rfl,rfl⟩)
      |(go_at_call 275;refine(Vk w.heap.size k (X.length+Y.length-k) (X.length+Y.length-k) M (Qw P) _ _ (by exact ba.below (w:=wr.drew) HM.o aS.o CK) (by have:=ee.o.1;omega) (aaa _) (by omega) (Tz o9.o) (by intro e2;cases e2;exact n3 rfl) (Cv RA.o.ok RB.o.ok tx qd.o fC)).mono ?_;rintro e2 w4 ⟨rfl,M',fK,⟨tK,uj,hcm⟩,tC⟩))
    have HN:=zq (fu.step RA.o.ok RB.o.ok ee.o fC tx qd.o tK uj hcm);have vS:=zq fK;have IE:Hid (w1.grownBy w4 (some w.heap.size)):=Y7 (Sh (w:=wr.drew) (Y7 bn.o (Z0 wr 1 (some w.heap.size)) (.inl rfl)) aS.o) tC (.inl rfl);clear fK tK uj hcm tC;go_wp2_with fail;have ah:RO X Y w.heap.size w1 (.int .i64 ((k:Int)+(Y.length:Int))) w4:=⟨k+Y.length,M',by go_num,by omega,vS.o,by rw[rU.o];exact HN.o,IE.o⟩
    first|exact⟨ah,by simp[intOf];omega⟩|exact⟨by (repeat apply Exists.intro);exact⟨ah,rfl⟩,by simp[intOf];omega⟩
   have HD:=zq (fu.done (xs:=X) (ys:=Y) (M:=M) (by have:=HST.o;rw[Nat.min_eq_right (by omega)]at this;exact this));go_wp2_with fail;go_ret;exact Wu HD.o.1 HD.o.2 HD.o.1.symm rfl HM.o aP.o bn.o vD.o
 go_enter Tryz.func253,Tryz.ntmps253;go_wp2_with fail;refine(Xr _ _ _ xs _ HV.o).mono ?_;rintro e w' ⟨rfl,rfl⟩;rw[<-HX.o];go_wp2_with fail;refine(Xr _ _ _ ys _ HU.o).mono ?_;rintro e w' ⟨rfl,rfl⟩;rw[<-HY.o];go_wp2_with fail;refine(Gb w.heap.size ga oa gb ob ((X.length+1) / 2) X Y _ (HI.o.mono (by omega)) HZ.o (by omega) RA.o RB.o SQ hgb rfl BG (by omega) (by omega)).mono ?_;rintro e w2 ⟨rfl,M,hM,ct,jD,hgr⟩;have HM:=zq hM;have dV:=zq ct;have jQ:=zq jD;have bn:=zq hgr;clear hM ct jD hgr;go_wp2_with fail;go_ret;exact Wu dV.o jQ.o dV.o.symm rfl HM.o aP.o bn.o vD.o
theorem Qxq:∀n,n<=274877906944->Mq n
 |0,_=>fun xs ys v u w h _ _=>absurd h (aeP _)
 |n+1,hn=>fun xs ys v u w h hv hu=>Qyr n (Qxq n (by omega)) (by omega) xs ys v u w (by omega) hv hu
theorem Ks (xs ys:List Nat)(v u:Value)(w:World)(hl:xs.length+ys.length<274877906944)(hv:Rd w v xs)(hu:Rd w u ys):Calls Tryz.prog 253 #[v,u] w (Pu xs ys w):=Qxq _ (aaa _) xs ys v u w hl hv hu
def Zu (n:Nat)(m:Nat)(w:World)(e:Ending)(w':World):Prop:=∃v xs,e=.returned v/\Fr w.heap.size w' v xs/\val xs=n/\xs.length<=m/\Qw xs=xs/\Below w.heap.size w w'
theorem Yo (l:List Nat):Qw (Qw l)=Qw l:=by
 refine Va (P:=fun l=>Qw (Qw l)=Qw l) rfl (fun l d ih=> ?_) l;by_cases h:d=0
 ·subst h;rw[Yl];exact ih
 rw[Yf _ _ h,Yf _ _ h]
theorem Zu.EE {xs:List Nat}{n m:Nat}{w w':World}{e:Ending}(h:Hx (Qw xs) w e w')(hv:val xs=n)(hm:(Qw xs).length<=m):Zu n m w e w':=by obtain⟨v,H,I,E⟩:=h;exact⟨v,Qw xs,H,I,by rw[Qn,hv],hm,Yo _,E⟩
theorem Bb (xs ys:List Nat)(v u:Value)(w:World)(hl:xs.length+ys.length<274877906944)(hv:Rd w v xs)(hu:Rd w u ys):Calls Tryz.prog 237 #[v,u] w (Zu (val xs*val ys) (xs.length+ys.length) w):=by
 have HV:=zq hv;have HU:=zq hu;clear hv hu;go_enter Tryz.func237,Tryz.ntmps237;go_wp2_with fail;refine(Ks xs ys _ _ _ hl HV.o HU.o).mono ?_;rintro e w1 ⟨g,M,rfl,hg,hM,ct,jD,hb⟩;have q1:=Qu xs;have q2:=Qu ys
 have hMl:M.length<=xs.length+ys.length:=by omega
 have R:=zq (hM.whole (by omega));have HB:=zq hb;have HV:=zq jD;clear hM ct jD hb;go_wp2_with fail;refine(Jt _ M _ R.o (by omega)).mono ?_;rintro e w2 ⟨v2,rfl,hf,hb2⟩;have HF:=zq (hf.mono HB.o.size);have aD:Hid (Below w.heap.size w w2):=HB.o.trans (hb2.mono HB.o.size);clear hf hb2;go_wp2_with fail;go_ret;exact Zu.EE ⟨_,rfl,HF.o,aD.o⟩ HV.o (aan (Qu M) hMl)
theorem Ph (xs:List Nat)(v:Value)(w:World)(hl:xs.length+xs.length<274877906944)(hv:Rd w v xs):Calls Tryz.prog 215 #[v] w (Zu (val xs*val xs) (xs.length+xs.length) w):=by have HV:=zq hv;clear hv;go_enter Tryz.func215,Tryz.ntmps215;go_wp2_with fail;refine(Bb xs xs _ _ _ hl HV.o HV.o).mono ?_;rintro e w1 ⟨v1,zs,rfl,h1,h2,h3,h4,h5⟩;have H1:=zq h1;have H2:=zq h2;have H3:=zq h3;have H4:=zq h4;have H5:=zq h5;clear h1 h2 h3 h4 h5;go_wp2_with fail;go_ret;exact⟨_,zs,rfl,H1.o,H2.o,H3.o,H4.o,H5.o⟩
theorem Nf (w:World)(x:Nat)(hx:x<BB):Rd (w.alloc (.cells #[.int .u64 (x:Nat)] 101)) (.slice (some ⟨w.heap.size,0,none⟩) 1 1) [x]:=by
 refine⟨fun k hk=>by cases hk;simp,_,1,rfl,aaa _,by unfold maxLen;omega,Qka hx Fj,fun i y hy=> ?_⟩
 cases i with
 |zero=>
  simp at hy;subst hy
  exact⟨_,_,rfl,by simp[go_sem]⟩
 |succ i=>simp at hy
theorem Qhs (xs:List Nat)(x:Nat)(v:Value)(w:World)(hl:xs.length<137438953472)(hx:x<BB)(hv:Rd w v xs):Calls Tryz.prog 272 #[v,.int .u64 (x:Nat)] w (Zu (val xs*x) (xs.length+1) w):=by
 have HV:=zq hv;have HX:=zq hx;clear hv hx;go_enter Tryz.func272,Tryz.ntmps272;go_wp2_with fail;refine(Bb xs [x] _ _ _ (by simp;omega) (HV.o.alloc _) (Nf w x HX.o)).mono ?_;rintro e w1 ⟨v1,zs,rfl,h1,h2,h3,h4,h5⟩;have H1:Hid (Fr w.heap.size w1 v1 zs):=h1.mono (by simp)
 have H2:Hid (val zs=val xs*x):=by show _=_;rw[h2];simp[val]
 have H3:Hid (zs.length<=xs.length+1):=h3;have H4:=zq h4;have H5:Hid (Below w.heap.size w w1):=(Qq w _).trans (h5.mono (by simp));clear h1 h2 h3 h4 h5;go_wp2_with fail;go_ret;exact⟨_,zs,rfl,H1.o,H2.o,H3.o,H4.o,H5.o⟩
end Go.Proofs.YtgfmiladfeoldaaGreatDoor
