/- Joined texts of this claim's proof: DivW2, Num2. -/
import Derived.Test.YtgfmiladfeoldaaGreatDoorPk1
import Derived.Test.YtgfmiladfeoldaaGreatDoorPk3
import Derived.Lib.ItoaNum
import Derived.Deep.DeepCutAuto
import Derived.Deep.CutBlock
import Derived.Test.YtgfmiladfeoldaaGreatDoorPk2
set_option linter.unusedSimpArgs false
set_option linter.unusedVariables false
set_option maxRecDepth 100000
set_option maxHeartbeats 16000000
namespace Go.Proofs.YtgfmiladfeoldaaGreatDoor
open Go.RowKit NatP
theorem Qxq {W u1 v1 v0 d rest b:Nat}(h:d*v1+rest=W)(hW:W<v1*b+v0)(hv0:v0<b)(hr:b<=rest)(hg:(W*b+u1) / (v1*b+v0)<=d):(W*b+u1) / (v1*b+v0)=d:=by
 have H:d<b:=by
  refine Nat.lt_of_not_le fun H=> ?_;have E:b*v1<=d*v1:=Nat.mul_le_mul_right _ H;rw[Nat.mul_comm b v1]at E;omega
 refine Qzf h ?_ hg (by omega);have E:d*v0<=b*b:=Nat.mul_le_mul (by omega) (by omega);have I:b*b<=rest*b:=Nat.mul_le_mul_right _ hr;omega
def Hy (v1 W Q:Nat)(d rr:Value):Prop:=∃dn rn:Nat,d=.int .u64 (dn:Nat)/\rr=.int .u64 (rn:Nat)/\Hid (dn*v1+rn=W)/\Hid (Q<=dn)/\rn<4294967296/\dn<=8589934592
theorem Qjt {W u1 v1 v0 d Q:Nat}(hQ:Q=(W*4294967296+u1) / (v1*4294967296+v0))(hd:4294967296<=d)(hW:W<v1*4294967296+v0)(hu:u1<4294967296):Q<=d-1:=by
 have:=Qxk hW hu;rw[<-hQ]at this;omega
structure Down (v1 W Q dn rn d2 r2:Nat):Prop where
 f1:IntKind.u64.wrap ((dn:Int)-1)=(d2:Int)
 f2:IntKind.u64.wrap ((rn:Int)+(v1:Int))=(r2:Int)
 lt:d2<dn
 way:(decide ((4294967296:Int)<=(r2:Int))=true/\Q=d2)\/(decide ((4294967296:Int)<=(r2:Int))=false/\Hy v1 W Q (.int .u64 (d2:Nat)) (.int .u64 (r2:Nat)))
structure Test (v0 u1 dn rn m k z:Nat):Prop where
 f3:IntKind.u64.wrap ((dn:Int)*(v0:Int))=(m:Int)
 f4:IntKind.u64.wrap (4294967296*(rn:Int))=(k:Int)
 f5:IntKind.u64.wrap ((k:Int)+(u1:Int))=(z:Int)
theorem Fp {W u1 v1 v0 Q y2 dn rn:Nat}(hQ:Q=(W*4294967296+u1) / (v1*4294967296+v0))(hV:v1*4294967296+v0=y2)(hW:W<y2)(hv0:v0<4294967296)(hu:u1<4294967296)(hl:2147483648<=v1)(hh:v1<4294967296)
  (hi:dn*v1+rn=W) (hg:Q<=dn) (hr:rn<4294967296) (hd:dn<=8589934592):
  (decide ((4294967296:Int)<=(dn:Int))=true/\ ∃d2 r2,Down v1 W Q dn rn d2 r2)\/
  (decide ((4294967296:Int)<=(dn:Int))=false/\ ∃m k z,Test v0 u1 dn rn m k z/\((decide (z<m)=true/\ ∃d2 r2,Down v1 W Q dn rn d2 r2)\/(decide (z<m)=false/\Q=dn))):=by
 have E:0<dn->Q<=dn-1-> ∃d2 r2,Down v1 W Q dn rn d2 r2:=by
  intro h0 J
  have I:(dn-1)*v1+(rn+v1)=W:=by
   obtain⟨k,rfl⟩:∃k,dn=k+1:=⟨dn-1,by omega⟩;rw[Nat.add_mul,Nat.one_mul]at hi;rw[Nat.add_sub_cancel];omega
  refine⟨dn-1,rn+v1,by rw[IntKind.wrap_u64];omega,by rw[IntKind.wrap_u64];omega,by omega,?_⟩;by_cases ho:4294967296<=rn+v1
  ·refine .inl ⟨by simp only[decide_eq_true_eq];omega,?_⟩
   rw[hQ];exact Qxq I (by rw[hV];exact hW) hv0 ho (by rw[<-hQ];exact J)
  ·exact .inr ⟨by simp only[decide_eq_false_iff_not];omega,dn-1,rn+v1,rfl,rfl,I,J,by omega,by omega⟩
 by_cases hb:4294967296<=dn
 ·exact .inl ⟨by simp only[decide_eq_true_eq];omega,E (by omega) (Qjt hQ hb (by rw[hV];exact hW) hu)⟩
 ·obtain⟨m,H⟩:=xq (dn*v0)
  obtain⟨k,O⟩:=xq (4294967296*rn);obtain⟨z,K⟩:=xq (k+u1)
  have Z:m<=18446744065119617025:=by
   have U:dn<=4294967295:=by omega
   have T:v0<=4294967295:=by omega
   have h3:=Nat.mul_le_mul U T;rw[H];omega
  have e:((dn:Int)*(v0:Int))=(m:Int):=by rw[H,Int.natCast_mul]
  have g3:IntKind.u64.wrap ((dn:Int)*(v0:Int))=(m:Int):=by rw[e];exact Vb _ (by omega)
  have g4:IntKind.u64.wrap (4294967296*(rn:Int))=(k:Int):=by rw[IntKind.wrap_u64];omega
  have g5:IntKind.u64.wrap ((k:Int)+(u1:Int))=(z:Int):=by rw[IntKind.wrap_u64];omega
  refine .inr ⟨by simp only[decide_eq_false_iff_not];omega,m,k,z,⟨g3,g4,g5⟩,?_⟩
  ·have e2:rn*4294967296+u1=z:=by rw[K,O,Nat.mul_comm]
   rw[H];by_cases ht:z<dn*v0
   ·refine .inl ⟨by simp only[decide_eq_true_eq];exact ht,E ?_ ?_⟩
    ·refine Nat.pos_of_ne_zero fun h=> ?_
     rw[h,Nat.zero_mul]at ht;omega
    ·rw[hQ];exact Qgr hi (by rw[e2];exact ht) (by omega)
   ·refine .inr ⟨by simp only[decide_eq_false_iff_not];exact ht,?_⟩
    rw[hQ];exact Qzf hi (by rw[e2];omega) (by rw[<-hQ];exact hg) (by omega)
structure Left (W u1 Q y2 A1 A2 A3 X:Nat):Prop where
 g1:IntKind.u64.wrap ((W:Int)*4294967296)=(A1:Int)
 g2:IntKind.u64.wrap ((A1:Int)+(u1:Int))=(A2:Int)
 g3:IntKind.u64.wrap ((Q:Int)*(y2:Int))=(A3:Int)
 g4:IntKind.u64.wrap ((A2:Int)-(A3:Int))=(X:Int)
 gx:X=(W*4294967296+u1) % y2
theorem Hu {W u1 Q y2:Nat}(hQ:Q=(W*4294967296+u1) / y2)(h0:0<y2)(hy:y2<18446744073709551616):∃A1 A2 A3 X,Left W u1 Q y2 A1 A2 A3 X:=by
 obtain⟨N,H⟩:=xq (W*4294967296+u1);rw[<-H]at hQ;have h:=Nat.div_add_mod N y2;rw[<-hQ,Nat.mul_comm]at h;have I:=Nat.mod_lt N h0;obtain⟨P,E⟩:=xq (Q*y2);rw[<-E]at h
 have e3:((Q:Int)*(y2:Int))=(P:Int):=by rw[E,Int.natCast_mul]
 refine⟨W*4294967296 % 18446744073709551616,N % 18446744073709551616,P % 18446744073709551616,N % y2,?_,?_,?_,?_,by rw[H]⟩
 ·rw[IntKind.wrap_u64];omega
 ·clear E hQ I h e3
  rw[IntKind.wrap_u64];omega
 ·rw[e3,IntKind.wrap_u64];omega
 ·clear E hQ e3 H
  generalize N % y2=X at*;rw[IntKind.wrap_u64];omega
theorem Qgm {hi lo y s n W t u1 u0 Q Q2 X:Nat}(hP:0<2^n)(hS:0<2^s)(hT:18446744073709551616=2^n*2^s)(hW:W=hi*2^s+lo / 2^n)(ht:t=lo*2^s % 18446744073709551616)
  (hu1:u1=t / 4294967296) (hu0:u0=t % 4294967296) (hQ:Q=(W*4294967296+u1) / (y*2^s)) (hX:X=(W*4294967296+u1) % (y*2^s)) (hQ2:Q2=(X*4294967296+u0) / (y*2^s)) (hy:0<y):
  (hi*18446744073709551616+lo) / y=Q*4294967296+Q2/\(hi*18446744073709551616+lo) % y=(X*4294967296+u0) % (y*2^s) / 2^s:=by
 have h:=Cw (hi:=hi) (lo:=lo) hS hT;rw[<-hW,<-ht]at h
 have E:W*18446744073709551616+t=(W*4294967296+u1)*4294967296+u0:=by omega
 rw[E]at h;obtain⟨b1,b2⟩:=M8 (N:=hi*18446744073709551616+lo) (y:=y) hS;have H:0<y*2^s:=Nat.mul_pos hy hS;obtain⟨d1,d2⟩:=Qxx (by omega) H h;rw[<-hQ,<-hX,<-hQ2]at d1;rw[<-hX]at d2;exact⟨by rw[b1,d1],by rw[b2,d2]⟩
theorem Mb (y:Nat)(h0:0<y)(h:y<18446744073709551616):
  ∃n,Lib.bitLen y=n/\1<=n/\n<=64/\9223372036854775808<=y*2^(64-n)/\y*2^(64-n)<18446744073709551616:=by
 obtain⟨H,J,I⟩:=Lib.bitLenAux_bounds 64 y h (by omega);have E:=Lib.bitLen_le y 64 (Nat.le_refl _) h;refine⟨Lib.bitLenAux 64 y,rfl,H,E,?_,?_⟩
 ·have e:(9223372036854775808:Nat)=2^(Lib.bitLenAux 64 y-1)*2^(64-Lib.bitLenAux 64 y):=by
   rw[<-Nat.pow_add,show Lib.bitLenAux 64 y-1+(64-Lib.bitLenAux 64 y)=63 from by have:Lib.bitLenAux 64 y<=64:=E;omega]
  rw[e];exact Nat.mul_le_mul_right _ J
 ·have e:(18446744073709551616:Nat)=2^(Lib.bitLenAux 64 y)*2^(64-Lib.bitLenAux 64 y):=by
   rw[<-Nat.pow_add,show Lib.bitLenAux 64 y+(64-Lib.bitLenAux 64 y)=64 from by have:Lib.bitLenAux 64 y<=64:=E;omega]
  rw[e];exact Nat.mul_lt_mul_of_pos_right I (Nat.pow_pos (by omega))
def Qhv (hi lo y:Nat)(w:World)(e:Ending)(w':World):Prop:=
 e=.returned (.tuple #[.int .u64 ((hi*BB+lo) / y:Nat),.int .u64 ((hi*BB+lo) % y:Nat)])/\w=w'
theorem Qqm (hi lo y:Nat)(w:World)(hlo:lo<BB)(hhi:hi<y)(hh0:0<hi)(hy:y<BB):
  Calls Tryz.prog 277 #[.int .u64 (hi:Nat),.int .u64 (lo:Nat),.int .u64 (y:Nat)] w (Qhv hi lo y w):=by
 have hBB:BB=18446744073709551616:=rfl;rw[hBB]at hlo hy;clear hBB
 have hyz:((y:Int)==0)=false:=by simp;omega
 have hhz:((hi:Int)==0)=false:=by simp;omega
 obtain⟨n,hn,hn1,hn2,hy2l,hy2h⟩:=Mb y (by omega) hy;obtain⟨s,hs⟩:=xq (64-n);rw[<-hs]at hy2l hy2h
 have hs63:s<=63:=by omega
 have E1:IntKind.u64.wrap (64-(n:Int))=(s:Int):=by rw[IntKind.wrap_u64];omega
 have E1b:IntKind.u64.wrap (64-(s:Int))=(n:Int):=by rw[IntKind.wrap_u64];omega
 have E2:min s 64=s:=by omega
 have E2b:min n 64=n:=by omega
 obtain⟨y2,hy2⟩:=xq (y*2^s)
 have E3:IntKind.u64.wrap ((y:Int)*2^s)=(y2:Int):=by
  have e:((y:Int)*2^s)=((y*2^s:Nat):Int):=by rw[Int.natCast_mul,Int.natCast_pow];rfl
  rw[e,<-hy2];exact Vb _ (by rw[hy2];exact hy2h)
 rw[<-hy2]at hy2l hy2h;obtain⟨v1,hv1⟩:=xq (y2 / 4294967296)
 have hv1b:2147483648<=v1/\v1<4294967296:=by omega
 have E4:(y2:Int) / 4294967296=(v1:Int):=by omega
 have hv1z:((v1:Int)==0)=false:=by simp;omega
 have hpn:0<2^n:=Nat.pow_pos (by omega);have hps:0<2^s:=Nat.pow_pos (by omega)
 have hT:18446744073709551616=2^n*2^s:=by rw[<-Nat.pow_add,show n+s=64 from by omega]
 have hsl:=Qkb (P:=2^n) (S:=2^s) hpn hT hhi hlo;rw[<-hy2]at hsl;obtain⟨a1,ha1⟩:=xq (hi*2^s);obtain⟨b1,hb1⟩:=xq (lo / 2^n);obtain⟨W,hW⟩:=xq (a1+b1);rw[<-ha1,<-hb1,<-hW]at hsl
 have E5:IntKind.u64.wrap ((hi:Int)*2^s)=(a1:Int):=by
  have e:((hi:Int)*2^s)=((hi*2^s:Nat):Int):=by rw[Int.natCast_mul,Int.natCast_pow];rfl
  rw[e,<-ha1];exact Vb _ (by omega)
 have E6:(lo:Int) / 2^n=(b1:Int):=by
  have e:(lo:Int) / 2^n=((lo / 2^n:Nat):Int):=by rw[Int.natCast_ediv,Int.natCast_pow];rfl
  rw[e,<-hb1]
 have E7:bits BinOp.or IntKind.u64 (a1:Int) (b1:Int)=(W:Int):=by
  rw[hW];refine Dq a1 b1 s (by omega) (by rw[ha1];exact Nat.mul_mod_left _ _) ?_ (by omega);rw[hb1,Nat.div_lt_iff_lt_mul hpn,Nat.mul_comm,<-hT];exact hlo
 obtain⟨t,ht⟩:=xq (lo*2^s % 18446744073709551616)
 have htb:t<18446744073709551616:=by omega
 have E8:IntKind.u64.wrap ((lo:Int)*2^s)=(t:Int):=by
  have e:((lo:Int)*2^s)=((lo*2^s:Nat):Int):=by rw[Int.natCast_mul,Int.natCast_pow];rfl
  rw[e,IntKind.wrap_u64,ht];rfl
 obtain⟨u1,hu1⟩:=xq (t / 4294967296);obtain⟨u0,hu0⟩:=xq (t % 4294967296);obtain⟨v0,hv0⟩:=xq (y2 % 4294967296)
 have E9:(t:Int) / 4294967296=(u1:Int):=by omega
 have E10:bits BinOp.and IntKind.u64 (t:Int) 4294967295=(u0:Int):=by rw[hu0];exact Qmj t htb
 have E11:bits BinOp.and IntKind.u64 (y2:Int) 4294967295=(v0:Int):=by rw[hv0];exact Qmj y2 hy2h
 obtain⟨q,hq⟩:=xq (W / v1);obtain⟨p,hp⟩:=xq (q*v1);obtain⟨r,hr⟩:=xq (W % v1)
 have hdm:p+r=W:=by
  have:=Nat.div_add_mod W v1;rw[<-hq,<-hr,Nat.mul_comm,<-hp]at this;exact this
 have hqW:q<=W:=by rw[hq];exact Nat.div_le_self _ _
 have E12:(W:Int) / (v1:Int)=(q:Int):=by rw[hq];rfl
 have E12b:IntKind.u64.wrap (q:Int)=(q:Int):=Vb _ (by omega)
 have E13:IntKind.u64.wrap ((q:Int)*(v1:Int))=(p:Int):=by
  have e:((q:Int)*(v1:Int))=((q*v1:Nat):Int):=by rw[Int.natCast_mul]
  rw[e,<-hp];exact Vb _ (by omega)
 have E14:IntKind.u64.wrap ((W:Int)-(p:Int))=(r:Int):=by rw[IntKind.wrap_u64];omega
 have Hha1:=zq ha1;have Hhb1:=zq hb1;have HhW:=zq hW;have Hht:=zq ht;have Hhu1:=zq hu1;have Hhu0:=zq hu0;have Hhv0:=zq hv0;have Hhq:=zq hq;have Hhp:=zq hp;have Hhr:=zq hr;have HhT:=zq hT;have Hhdm:=zq hdm;have Hhs:=zq hs;have Hhy2:=zq hy2;have Hhv1:=zq hv1;have Hhpn:=zq hpn;have Hhps:=zq hps;have Hhn:=zq hn;clear ha1 hb1 hW ht hu1 hu0 hv0 hq hp hr hT hdm hs hy2 hv1 hpn hps;go_enter Tryz.func277,Tryz.ntmps277;go_wp2_with fail;refine(Tryz.bits_LeadingZeros64 (y:Int) _ (by omega) (by omega)).mono ?_;rintro e w1 ⟨rfl,rfl⟩;rw[Int.toNat_natCast,hn];obtain⟨Q,hQ⟩:=xq ((W*4294967296+u1) / (v1*4294967296+v0));have HQ:=zq hQ;clear hQ
 have hv0b:v0<4294967296:=by rw[Hhv0.o];exact Nat.mod_lt _ (by omega)
 have hu1b:u1<4294967296:=by rw[Hhu1.o];omega
 have HV:Hid (v1*4294967296+v0=y2):=by show _=_;rw[Hhv0.o,Hhv1.o];omega
 have hqb:q<=8589934592:=by
  have h1:=Hhdm.o;rw[Hhp.o]at h1;refine Nat.le_of_not_lt fun h2=> ?_;have h3:8589934593*2147483648<=q*v1:=Nat.mul_le_mul h2 hv1b.1;omega
 have hrb:r<4294967296:=by rw[Hhr.o];exact Nat.lt_trans (Nat.mod_lt _ (by omega)) hv1b.2
 have HST:Hid (Hy v1 W Q (.int .u64 (q:Nat)) (.int .u64 (r:Nat))):=⟨q,r,rfl,rfl,by show _=_;rw[<-Hhp.o];exact Hhdm.o,by
  show _<=_
  rw[HQ.o,Hhq.o];exact Cp hu1b (by omega),hrb,hqb⟩
 obtain⟨hv1l,hv1h⟩:=hv1b;go_upto_block 0 with fail;go_cut [15,16] (fun d _ wx=>d=.int .u64 (Q:Nat)/\wx=w1)
 case first=>
  go_wp2_with fail;have HV1L:=zq hv1l;have HV1H:=zq hv1h;have HV0B:=zq hv0b;have HU1B:=zq hu1b;have HSL:=zq hsl;have HQB:=zq hqb;have HRB:=zq hrb;have HTB:=zq htb;have HLO:=zq hlo;have HY:=zq hy;have HY2L:=zq hy2l;have HY2H:=zq hy2h;have HHI:=zq hhi;have HQW:=zq hqW;clear hv1l hv1h hv0b hu1b hsl hqb hrb htb hlo hy hy2l hy2h hhi hqW;go_loopw [15,16] (fun d rr wr=>Hy v1 W Q d rr/\wr=w1) (fun d _ _=>(intOf d).toNat)
  case atStart=>exact⟨HST.o,rfl⟩
  case round=>
   obtain⟨⟨dn,rn,rfl,rfl,hi1,hg1,hrn,hdn⟩,rfl⟩:=hrel;have HRN:=zq hrn;have HDN:=zq hdn;clear hrn hdn;have HC:=zq (Fp HQ.o HV.o HSL.o HV0B.o HU1B.o HV1L.o HV1H.o hi1.o hg1.o HRN.o HDN.o);rcases HC.o with ⟨t1,d2,r2,hdown⟩|⟨t1,m,k,z,htest,⟨t3,d2,r2,hdown⟩|⟨t3,hq⟩⟩
   ·obtain⟨f1,f2,hlt,⟨t2,hq⟩|⟨t2,hrel⟩⟩:=hdown
    ·have HQ2:=zq hq
     clear hq hlt;go_wp2_with fail;go_meet;exact⟨by rw[HQ2.o],rfl⟩
    ·have HR2:=zq hrel
     clear hrel;go_wp2_with fail;have hfin:=HR2.o
     first|exact⟨hfin,by simp[intOf];omega⟩|exact⟨⟨hfin,rfl⟩,by simp[intOf];omega⟩|exact⟨by (repeat apply Exists.intro);first|exact⟨hfin,rfl⟩|exact⟨⟨hfin,rfl⟩,rfl⟩|exact⟨hfin,trivial⟩|exact⟨⟨hfin,trivial⟩,rfl⟩,by simp[intOf];omega⟩
   ·obtain⟨f3,f4,f5⟩:=htest
    obtain⟨f1,f2,hlt,⟨t2,hq⟩|⟨t2,hrel⟩⟩:=hdown
    ·have HQ2:=zq hq
     clear hq hlt;go_wp2_with fail;go_meet;exact⟨by rw[HQ2.o],rfl⟩
    ·have HR2:=zq hrel
     clear hrel;go_wp2_with fail;have hfin:=HR2.o
     first|exact⟨hfin,by simp[intOf];omega⟩|exact⟨⟨hfin,rfl⟩,by simp[intOf];omega⟩|exact⟨by (repeat apply Exists.intro);first|exact⟨hfin,rfl⟩|exact⟨⟨hfin,rfl⟩,rfl⟩|exact⟨hfin,trivial⟩|exact⟨⟨hfin,trivial⟩,rfl⟩,by simp[intOf];omega⟩
   ·obtain⟨f3,f4,f5⟩:=htest
    have HQ2:=zq hq;clear hq;go_wp2_with fail;go_meet;exact⟨by rw[HQ2.o],rfl⟩
 case rest=>
  obtain⟨rfl,hwc⟩:=hcut;subst wc;clear HST;obtain⟨A1,A2,A3,X,hL⟩:=Hu (W:=W) (u1:=u1) (Q:=Q) (y2:=y2) (by rw[HQ.o,HV.o]) (by omega) hy2h;have HX:=zq hL.gx
  have hXy:X<y2:=by rw[HX.o];exact Nat.mod_lt _ (by omega)
  obtain⟨L1,L2,L3,L4,-⟩:=hL;obtain⟨q2,hq2⟩:=xq (X / v1);obtain⟨p2,hp2⟩:=xq (q2*v1);obtain⟨r2,hr2⟩:=xq (X % v1)
  have hdm2:p2+r2=X:=by
   have:=Nat.div_add_mod X v1;rw[<-hq2,<-hr2,Nat.mul_comm,<-hp2]at this;exact this
  have hqX:q2<=X:=by rw[hq2];exact Nat.div_le_self _ _
  have M12:(X:Int) / (v1:Int)=(q2:Int):=by rw[hq2];rfl
  have M12b:IntKind.u64.wrap (q2:Int)=(q2:Int):=Vb _ (by omega)
  have M13:IntKind.u64.wrap ((q2:Int)*(v1:Int))=(p2:Int):=by
   have e:((q2:Int)*(v1:Int))=((q2*v1:Nat):Int):=by rw[Int.natCast_mul]
   rw[e,<-hp2];exact Vb _ (by omega)
  have M14:IntKind.u64.wrap ((X:Int)-(p2:Int))=(r2:Int):=by rw[IntKind.wrap_u64];omega
  have Hhq2:=zq hq2;have Hhp2:=zq hp2;have Hhr2:=zq hr2;have Hhdm2:=zq hdm2;clear hq2 hp2 hr2 hdm2;obtain⟨Q2,hQ2⟩:=xq ((X*4294967296+u0) / (v1*4294967296+v0));have HQ2:=zq hQ2
  have hu0b:u0<4294967296:=by rw[Hhu0.o];exact Nat.mod_lt _ (by omega)
  have hq2b:q2<=8589934592:=by
   have h1:=Hhdm2.o;rw[Hhp2.o]at h1;refine Nat.le_of_not_lt fun h2=> ?_;have h3:8589934593*2147483648<=q2*v1:=Nat.mul_le_mul h2 hv1l;omega
  have hr2b:r2<4294967296:=by rw[Hhr2.o];exact Nat.lt_trans (Nat.mod_lt _ (by omega)) hv1h
  have HST2:Hid (Hy v1 X Q2 (.int .u64 (q2:Nat)) (.int .u64 (r2:Nat))):=⟨q2,r2,rfl,rfl,by show _=_;rw[<-Hhp2.o];exact Hhdm2.o,by
   show _<=_
   rw[HQ2.o,Hhq2.o];exact Cp hu0b (by omega),hr2b,hq2b⟩
  clear hQ2;go_upto_block 2 with fail;go_cut [18,16] (fun d _ wx=>d=.int .u64 (Q2:Nat)/\wx=w1)
  case first=>
   go_wp2_with fail;have HV1L:=zq hv1l;have HV1H:=zq hv1h;have HV0B:=zq hv0b;have HU1B:=zq hu1b;have HU0B:=zq hu0b;have HXY:=zq hXy;clear hv1l hv1h hv0b hu1b hsl hqb hrb htb hlo hy hy2l hy2h hhi hqW hXy hu0b hq2b hr2b hqX;go_loopw [18,16] (fun d rr wr=>Hy v1 X Q2 d rr/\wr=w1) (fun d _ _=>(intOf d).toNat)
   case atStart=>exact⟨HST2.o,rfl⟩
   case round=>
    obtain⟨⟨dn,rn,rfl,rfl,hi1,hg1,hrn,hdn⟩,rfl⟩:=hrel;have HRN:=zq hrn;have HDN:=zq hdn;clear hrn hdn;have HC:=zq (Fp HQ2.o HV.o HXY.o HV0B.o HU0B.o HV1L.o HV1H.o hi1.o hg1.o HRN.o HDN.o);rcases HC.o with ⟨t1,d2,r2,hdown⟩|⟨t1,m,k,z,htest,⟨t3,d2,r2,hdown⟩|⟨t3,hq⟩⟩
    ·obtain⟨f1,f2,hlt,⟨t2,hq⟩|⟨t2,hrel⟩⟩:=hdown
     ·have HQ3:=zq hq
      clear hq hlt;go_wp2_with fail;go_meet;exact⟨by rw[HQ3.o],rfl⟩
     ·have HR2:=zq hrel
      clear hrel;go_wp2_with fail;have hfin:=HR2.o
      first|exact⟨hfin,by simp[intOf];omega⟩|exact⟨⟨hfin,rfl⟩,by simp[intOf];omega⟩|exact⟨by (repeat apply Exists.intro);first|exact⟨hfin,rfl⟩|exact⟨⟨hfin,rfl⟩,rfl⟩|exact⟨hfin,trivial⟩|exact⟨⟨hfin,trivial⟩,rfl⟩,by simp[intOf];omega⟩
    ·obtain⟨f3,f4,f5⟩:=htest
     obtain⟨f1,f2,hlt,⟨t2,hq⟩|⟨t2,hrel⟩⟩:=hdown
     ·have HQ3:=zq hq
      clear hq hlt;go_wp2_with fail;go_meet;exact⟨by rw[HQ3.o],rfl⟩
     ·have HR2:=zq hrel
      clear hrel;go_wp2_with fail;have hfin:=HR2.o
      first|exact⟨hfin,by simp[intOf];omega⟩|exact⟨⟨hfin,rfl⟩,by simp[intOf];omega⟩|exact⟨by (repeat apply Exists.intro);first|exact⟨hfin,rfl⟩|exact⟨⟨hfin,rfl⟩,rfl⟩|exact⟨hfin,trivial⟩|exact⟨⟨hfin,trivial⟩,rfl⟩,by simp[intOf];omega⟩
    ·obtain⟨f3,f4,f5⟩:=htest
     have HQ3:=zq hq;clear hq;go_wp2_with fail;go_meet;exact⟨by rw[HQ3.o],rfl⟩
  case rest=>
   obtain⟨rfl,hwc⟩:=hcut;subst wc;clear HST2;have hfin:=Qgm (hi:=hi) (lo:=lo) (y:=y) (s:=s) (n:=n) (W:=W) (t:=t) (u1:=u1) (u0:=u0) (Q:=Q) (Q2:=Q2) (X:=X) Hhpn.o Hhps.o HhT.o (by rw[HhW.o,Hha1.o,Hhb1.o]) Hht.o Hhu1.o Hhu0.o (by rw[HQ.o,HV.o,Hhy2.o]) (by rw[HX.o,Hhy2.o]) (by rw[HQ2.o,HV.o,Hhy2.o]) (by omega)
   have hZ:(hi*18446744073709551616+lo) / y<18446744073709551616:=by
    rw[Nat.div_lt_iff_lt_mul (by omega)];have:(hi+1)*18446744073709551616<=y*18446744073709551616:=Nat.mul_le_mul_right _ hhi;omega
   obtain⟨Z,hZ1⟩:=xq ((hi*18446744073709551616+lo) / y);rw[<-hZ1]at hZ hfin;obtain⟨h1,h2⟩:=hfin;obtain⟨B1,hB1⟩:=xq (Q*4294967296)
   have N1:IntKind.u64.wrap ((Q:Int)*4294967296)=(B1:Int):=by
    rw[IntKind.wrap_u64];omega
   have N2:IntKind.u64.wrap ((B1:Int)+(Q2:Int))=(Z:Int):=by
    rw[IntKind.wrap_u64];omega
   obtain⟨C1,C2,C3,R,hL⟩:=Hu (W:=X) (u1:=u0) (Q:=Q2) (y2:=y2) (by rw[HQ2.o,HV.o]) (by omega) hy2h;obtain⟨O1,O2,O3,O4,hR⟩:=hL;obtain⟨rr,hrr⟩:=xq (R / 2^s)
   have N3:(R:Int) / 2^s=(rr:Int):=by
    have e:(R:Int) / 2^s=((R / 2^s:Nat):Int):=by rw[Int.natCast_ediv,Int.natCast_pow];rfl
    rw[e,<-hrr]
   have HFin:Hid (Z=(hi*BB+lo) / y/\rr=(hi*BB+lo) % y):=by
    refine⟨hZ1,?_⟩;show rr=(hi*18446744073709551616+lo) % y;rw[h2,hrr,hR,Hhy2.o]
   clear hZ1 hB1 hR hrr h1 h2 hZ;go_wp2_with fail;go_ret2;exact⟨by rw[<-HFin.o.1,<-HFin.o.2];rfl,rfl⟩
theorem Qz5 (hi lo y:Nat)(w:World)(hlo:lo<BB)(hhi:hi<y)(hy:y<BB):
  Calls Tryz.prog 277 #[.int .u64 (hi:Nat),.int .u64 (lo:Nat),.int .u64 (y:Nat)] w (Ft hi lo y w):=by
 by_cases h0:hi=0
 ·subst h0;exact Ao lo y w hlo hhi hy
 ·exact(Qqm hi lo y w hlo hhi (by omega) hy).mono fun e w' ⟨h1,h2⟩=>by subst h2;exact⟨h1,0,rfl⟩
theorem Qvs (hi lo y:Nat)(w:World)(hlo:lo<BB)(hhi:hi<y)(hy:y<BB):
  Calls Tryz.prog 277 #[.int .u64 (hi:Nat),.int .u64 (lo:Nat),.int .u64 (y:Nat)] w fun e w'=>e=.returned (.tuple #[.int .u64 ((hi*BB+lo) / y:Nat),.int .u64 ((hi*BB+lo) % y:Nat)])/\Below w.heap.size w w':=
 (Qz5 hi lo y w hlo hhi hy).mono fun e w' ⟨h1,k,h2⟩=>by subst h2;exact⟨h1,⟨rfl,rfl,rfl,Nat.le_refl _,fun _ _=>rfl⟩⟩
theorem Zq (n:Nat)(hn:n<=1099511627776):∀w:World,(Instr.makeSlice 59 (.int .i64 (n:Int)) (.int .i64 (n:Int))).run Tryz.prog w=.ok (.slice (some ⟨w.heap.size,0,none⟩) n n) (w.alloc (.cells (madeCells #[.int .u64 0] n) 101)):=by
 obtain⟨i0,K,E,H,h⟩:=info_parts Tryz.infoW;intro w
 have J:(i0.bytes:Int)*(n:Int)<=281474976710656:=by rw[h];omega
 have I:=run_make (P:=Tryz.prog) w 59 101 i0 (.int .u64 0) Tryz.underlying59 K E .i64 .i64 n n (by omega) (Int.le_refl _) J (by omega);simp only[Int.toNat_natCast]at I;rw[I,H,Nat.mul_one];rfl
theorem Qq (w:World)(o:Obj):Below w.heap.size w (w.alloc o):=(Below.refl _ _).alloc (Nat.le_refl _) o
def Ek (xs:List Nat)(w:World)(e:Ending)(w':World):Prop:=e=.returned (.slice (some ⟨w.heap.size,0,none⟩) xs.length xs.length)/\Blk w' w.heap.size xs/\Below w.heap.size w w'
theorem Qz4 (v:Value)(xs:List Nat)(w:World)(hr:Rd w v xs)(hl:xs.length<=1099511627776):
  Calls Tryz.prog 217 #[v] w (Ek (Qw xs) w):=by
 have HR:=zq hr;obtain⟨ao,cap,rfl,hnc,hcm,hok,hsh⟩:=hr.2;have hsl:=Qf xs;have HT:=zq (X9 xs).1;have HOK:=zq (Vm hok);have HSH:=zq hsh;have HMK:=Zq (Qw xs).length (by omega);clear hsh hcm hok;go_enter Tryz.func217,Tryz.ntmps217;go_wp2_with fail;refine(X8 _ xs _ HR.o).mono ?_;rintro e w' ⟨rfl,rfl⟩;generalize hns:(Qw xs).length=n at*;have HN:=zq hns;clear hns;have HB:=zq (Blk.made w n).1;have HBL:=zq (Qq w (.cells (madeCells #[.int .u64 0] n) 101))
 have hcl:(ws (Qw xs)).length=n:=by rw[Ze,HN.o]
 have HCL:=zq hcl;have hmin:Nat.min xs.length n=n:=Nat.min_eq_right (by omega);have HMIN:=zq hmin;clear hcl hmin
 have HPOS:Hid (0<(ws (Qw xs)).length-> ∃ad,ao=some ad/\ ∀(j:Nat) (v:Value),(ws (Qw xs))[j]?=some v->(w.alloc (.cells (madeCells #[.int .u64 0] n) 101)).cell? (ad.add j)=some v):=by
  intro h0;rw[HCL.o]at h0;obtain⟨g,o,rfl,_⟩:=HSH.o 0 xs[0] (List.getElem?_eq_getElem (by omega));refine⟨_,rfl,fun j u hu=> ?_⟩;simp only[ws,List.getElem?_map,Option.map_eq_some_iff]at hu;obtain⟨x,hx,rfl⟩:=hu;rw[HT.o,List.getElem?_take]at hx;split at hx
  ·obtain⟨g',o',e,hc⟩:=HSH.o j x hx
   cases e
   have hlt:=World.block_lt_of_cell? w _ hc
   have e2:(⟨g,o,none⟩:Addr).add j=⟨g,o+j,none⟩:=by unfold Addr.add;split<;>simp_all
   rw[e2,HBL.o.cell (p:=⟨g,o+j,none⟩) hlt];exact hc
  ·cases hx
 have HFIT:Hid (0+(ws (Qw xs)).length<=(ws (List.replicate n 0)).length):=by
  show _<=_;rw[HCL.o,Ze,List.length_replicate];omega
 go_wp2_with ((with_reducible refine wpList_copy_splice (o:=⟨some 11,_,_,_,_,_⟩) rfl (.tmp 9) (.tmp 10) 59 59 rfl 101 Tryz.underlying59 Tryz.infoW1 (some ⟨w.heap.size,0,none⟩) ao n n xs.length cap rfl rfl w.heap.size 0 (ws (List.replicate n 0)) 101 HB.o (ws (Qw xs)) (by rw[HCL.o,HMIN.o]) (fun h=>⟨rfl,HPOS.o h⟩) HFIT.o (Qqi _) w.heap.size w HBL.o (Nat.le_refl _) ?_);intro w2 hg2 hb2)
 have HF:Hid (Blk w2 w.heap.size (Qw xs)):=by
  refine⟨?_,HOK.o⟩;have h1:=hg2.o;rw[h1];congr 2;simp only[splice,List.take_zero,List.nil_append,Nat.zero_add];rw[HCL.o,List.drop_eq_nil_of_le (by rw[Ze,List.length_replicate];omega),List.append_nil]
 have HB2:=zq hb2;clear hg2 hb2;go_wp2_with fail;go_ret;exact⟨by rw[HN.o];rfl,HF.o,HB2.o⟩
theorem Qq1 {xs:List Nat}{w:World}{e:Ending}{w':World}(hl:xs.length<=1099511627776)(h:Ek xs w e w'):Me xs w e w':=by
 obtain⟨rfl,E,H⟩:=h;refine⟨_,rfl,⟨?_,fun k hk=> ?_⟩,H⟩
 ·have:=E.rd (o:=0) (n:=xs.length) (c:=xs.length) (by omega) (Nat.le_refl _) (by unfold maxLen;omega)
  rw[List.drop_zero,List.take_of_length_le (Nat.le_refl _)]at this;exact this
 ·cases hk;exact⟨Nat.le_refl _,E.lt⟩
theorem Qpi (v:Value)(xs:List Nat)(w:World)(hr:Rd w v xs)(hl:xs.length<=1099511627776):
  Calls Tryz.prog 217 #[v] w (Me (Qw xs) w):=
 (Qz4 v xs w hr hl).mono fun _ _ h=>Qq1 (by have:=Qf xs;omega) h
theorem J8 (v:Value)(xs:List Nat)(w:World)(hr:Rd w v xs)(hl:xs.length<=1099511627776):
  Calls Tryz.prog 171 #[v] w (Ek (Qw xs) w):=by
 have HR:=zq hr;clear hr;go_enter Tryz.func171,Tryz.ntmps171;go_wp2_with fail;refine(Qz4 _ xs _ HR.o hl).mono ?_;rintro e w' ⟨rfl,hf,hb⟩;have HF:=zq hf;have HB:=zq hb;clear hf hb;go_wp2_with fail;go_ret;exact⟨rfl,HF.o,HB.o⟩
theorem Jy (v:Value)(xs:List Nat)(w:World)(hr:Rd w v xs)(hl:xs.length<=1099511627776):
  Calls Tryz.prog 171 #[v] w (Me (Qw xs) w):=by
 have HR:=zq hr;clear hr;go_enter Tryz.func171,Tryz.ntmps171;go_wp2_with fail;refine(Qpi _ xs _ HR.o hl).mono ?_;rintro e w' ⟨v',rfl,hf,hb⟩;have HF:=zq hf;have HB:=zq hb;clear hf hb;go_wp2_with fail;go_ret;exact⟨_,rfl,HF.o,HB.o⟩
end Go.Proofs.YtgfmiladfeoldaaGreatDoor
