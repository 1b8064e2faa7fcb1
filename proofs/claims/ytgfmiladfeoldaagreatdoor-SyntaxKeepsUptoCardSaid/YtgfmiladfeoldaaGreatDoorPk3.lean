import Derived.Test.YtgfmiladfeoldaaGreatDoorPk1
import Derived.Lib.EndianBits
import Derived.Deep.DeepCutAuto
import Derived.Deep.CutBlock
set_option linter.unusedSimpArgs false
set_option linter.unusedVariables false
set_option maxRecDepth 100000
set_option maxHeartbeats 16000000
namespace Go.Proofs.YtgfmiladfeoldaaGreatDoor
open Go.RowKit NatP
theorem Va (n:Nat)(h:n<18446744073709551616):IntKind.u64.wrap (n:Int)=(n:Int):=by rw[IntKind.wrap_u64];omega
theorem Qmu (x:Nat)(h:x<18446744073709551616):bits BinOp.and IntKind.u64 (x:Int) 4294967295=((x % 4294967296:Nat):Int):=by
 have E:=bits_and_u64_nat x 4294967295 h (by omega);have H:x &&& 4294967295=x % 4294967296:=Nat.and_two_pow_sub_one_eq_mod x 32;rw[H]at E;exact E
theorem De (x y i:Nat)(hx:x<18446744073709551616)(hd:x % 2^i=0)(hy:y<2^i)(hy2:y<18446744073709551616):bits BinOp.or IntKind.u64 (x:Int) (y:Int)=((x+y:Nat):Int):=by
 have h:=bits_join .u64 64 (by decide) wraps_u64 i (x:Int) (y:Int) (by omega) (by exact_mod_cast hd) (by exact_mod_cast hx) (by omega) (by exact_mod_cast hy) (by exact_mod_cast hy2);rw[h];rfl
def G5 (hi lo y:Nat)(w:World)(e:Ending)(w':World):Prop:=
 e=.returned (.tuple #[.int .u64 ((hi*BB+lo) / y:Nat),.int .u64 ((hi*BB+lo) % y:Nat)])/\ ∃k,w'=w.drewN k
theorem Qq9 (lo y:Nat)(w:World)(hlo:lo<BB)(hy0:0<y)(hy:y<BB):
  Calls Tryz.prog 277 #[.int .u64 (0:Nat),.int .u64 (lo:Nat),.int .u64 (y:Nat)] w (G5 0 lo y w):=by
 have hBB:BB=18446744073709551616:=rfl;rw[hBB]at hlo hy
 have HQ:Hid ((0*BB+lo) / y=lo / y/\(0*BB+lo) % y=lo % y):=by rw[Nat.zero_mul,Nat.zero_add];exact⟨rfl,rfl⟩
 clear hBB
 have hyz:((y:Int)==0)=false:=by simp;omega
 have hqb:lo / y<18446744073709551616:=Nat.lt_of_le_of_lt (Nat.div_le_self _ _) hlo;have hrb:lo % y<18446744073709551616:=Nat.lt_trans (Nat.mod_lt _ hy0) hy
 have hqi:IntKind.u64.wrap ((lo:Int) / (y:Int))=((lo / y:Nat):Int):=by
  have e:((lo:Int) / (y:Int))=((lo / y:Nat):Int):=rfl;rw[e];exact Va _ hqb
 have hri:(lo:Int) % (y:Int)=((lo % y:Nat):Int):=rfl;clear hqb hrb;go_enter Tryz.func277,Tryz.ntmps277;go_wp2_with fail;go_quiet (fail);go_wp2_with fail;go_ret2;exact⟨by rw[HQ.o.1,HQ.o.2];rfl,⟨_,rfl⟩⟩
theorem Qq7 {W u1 v1 v0 d rest b:Nat}(h:d*v1+rest=W)(hW:W<v1*b+v0)(hv0:v0<b)(hr:b<=rest)(hg:(W*b+u1) / (v1*b+v0)<=d):(W*b+u1) / (v1*b+v0)=d:=by
 have H:d<b:=by
  refine Nat.lt_of_not_le fun H=> ?_;have E:b*v1<=d*v1:=Nat.mul_le_mul_right _ H;rw[Nat.mul_comm b v1]at E;omega
 refine Qz2 h ?_ hg (by omega);have E:d*v0<=b*b:=Nat.mul_le_mul (by omega) (by omega);have I:b*b<=rest*b:=Nat.mul_le_mul_right _ hr;omega
def Kk (v1 W Q:Nat)(d rr:Value):Prop:=∃dn rn:Nat,d=.int .u64 (dn:Nat)/\rr=.int .u64 (rn:Nat)/\Hid (dn*v1+rn=W)/\Hid (Q<=dn)/\rn<4294967296/\dn<=8589934592
theorem Qj7 {W u1 v1 v0 d Q:Nat}(hQ:Q=(W*4294967296+u1) / (v1*4294967296+v0))(hd:4294967296<=d)(hW:W<v1*4294967296+v0)(hu:u1<4294967296):Q<=d-1:=by
 have:=Qq6 hW hu;rw[<-hQ]at this;omega
structure Down (v1 W Q dn rn d2 r2:Nat):Prop where
 f1:IntKind.u64.wrap ((dn:Int)-1)=(d2:Int)
 f2:IntKind.u64.wrap ((rn:Int)+(v1:Int))=(r2:Int)
 lt:d2<dn
 way:(decide ((4294967296:Int)<=(r2:Int))=true/\Q=d2)\/(decide ((4294967296:Int)<=(r2:Int))=false/\Kk v1 W Q (.int .u64 (d2:Nat)) (.int .u64 (r2:Nat)))
structure Test (v0 u1 dn rn m k z:Nat):Prop where
 f3:IntKind.u64.wrap ((dn:Int)*(v0:Int))=(m:Int)
 f4:IntKind.u64.wrap (4294967296*(rn:Int))=(k:Int)
 f5:IntKind.u64.wrap ((k:Int)+(u1:Int))=(z:Int)
theorem Fl {W u1 v1 v0 Q y2 dn rn:Nat}(hQ:Q=(W*4294967296+u1) / (v1*4294967296+v0))(hV:v1*4294967296+v0=y2)(hW:W<y2)(hv0:v0<4294967296)(hu:u1<4294967296)(hl:2147483648<=v1)(hh:v1<4294967296)
  (hi:dn*v1+rn=W) (hg:Q<=dn) (hr:rn<4294967296) (hd:dn<=8589934592):
  (decide ((4294967296:Int)<=(dn:Int))=true/\ ∃d2 r2,Down v1 W Q dn rn d2 r2)\/
  (decide ((4294967296:Int)<=(dn:Int))=false/\ ∃m k z,Test v0 u1 dn rn m k z/\((decide (z<m)=true/\ ∃d2 r2,Down v1 W Q dn rn d2 r2)\/(decide (z<m)=false/\Q=dn))):=by
 have E:0<dn->Q<=dn-1-> ∃d2 r2,Down v1 W Q dn rn d2 r2:=by
  intro h0 J
  have I:(dn-1)*v1+(rn+v1)=W:=by
   obtain⟨k,rfl⟩:∃k,dn=k+1:=⟨dn-1,by omega⟩;rw[Nat.add_mul,Nat.one_mul]at hi;rw[Nat.add_sub_cancel];omega
  refine⟨dn-1,rn+v1,by rw[IntKind.wrap_u64];omega,by rw[IntKind.wrap_u64];omega,by omega,?_⟩;by_cases ho:4294967296<=rn+v1
  ·refine .inl ⟨by simp only[decide_eq_true_eq];omega,?_⟩
   rw[hQ];exact Qq7 I (by rw[hV];exact hW) hv0 ho (by rw[<-hQ];exact J)
  ·exact .inr ⟨by simp only[decide_eq_false_iff_not];omega,dn-1,rn+v1,rfl,rfl,I,J,by omega,by omega⟩
 by_cases hb:4294967296<=dn
 ·exact .inl ⟨by simp only[decide_eq_true_eq];omega,E (by omega) (Qj7 hQ hb (by rw[hV];exact hW) hu)⟩
 ·obtain⟨m,H⟩:=xq (dn*v0)
  obtain⟨k,T⟩:=xq (4294967296*rn);obtain⟨z,U⟩:=xq (k+u1)
  have Z:m<=18446744065119617025:=by
   have K:dn<=4294967295:=by omega
   have O:v0<=4294967295:=by omega
   have h3:=Nat.mul_le_mul K O;rw[H];omega
  have e:((dn:Int)*(v0:Int))=(m:Int):=by rw[H,Int.natCast_mul]
  have g3:IntKind.u64.wrap ((dn:Int)*(v0:Int))=(m:Int):=by rw[e];exact Va _ (by omega)
  have g4:IntKind.u64.wrap (4294967296*(rn:Int))=(k:Int):=by rw[IntKind.wrap_u64];omega
  have g5:IntKind.u64.wrap ((k:Int)+(u1:Int))=(z:Int):=by rw[IntKind.wrap_u64];omega
  refine .inr ⟨by simp only[decide_eq_false_iff_not];omega,m,k,z,⟨g3,g4,g5⟩,?_⟩
  ·have e2:rn*4294967296+u1=z:=by rw[U,T,Nat.mul_comm]
   rw[H];by_cases ht:z<dn*v0
   ·refine .inl ⟨by simp only[decide_eq_true_eq];exact ht,E ?_ ?_⟩
    ·refine Nat.pos_of_ne_zero fun h=> ?_
     rw[h,Nat.zero_mul]at ht;omega
    ·rw[hQ];exact Qpr hi (by rw[e2];exact ht) (by omega)
   ·refine .inr ⟨by simp only[decide_eq_false_iff_not];exact ht,?_⟩
    rw[hQ];exact Qz2 hi (by rw[e2];omega) (by rw[<-hQ];exact hg) (by omega)
structure Left (W u1 Q y2 A1 A2 A3 X:Nat):Prop where
 g1:IntKind.u64.wrap ((W:Int)*4294967296)=(A1:Int)
 g2:IntKind.u64.wrap ((A1:Int)+(u1:Int))=(A2:Int)
 g3:IntKind.u64.wrap ((Q:Int)*(y2:Int))=(A3:Int)
 g4:IntKind.u64.wrap ((A2:Int)-(A3:Int))=(X:Int)
 gx:X=(W*4294967296+u1) % y2
theorem Hb {W u1 Q y2:Nat}(hQ:Q=(W*4294967296+u1) / y2)(h0:0<y2)(hy:y2<18446744073709551616):∃A1 A2 A3 X,Left W u1 Q y2 A1 A2 A3 X:=by
 obtain⟨N,H⟩:=xq (W*4294967296+u1);rw[<-H]at hQ;have h:=Nat.div_add_mod N y2;rw[<-hQ,Nat.mul_comm]at h;have I:=Nat.mod_lt N h0;obtain⟨P,E⟩:=xq (Q*y2);rw[<-E]at h
 have e3:((Q:Int)*(y2:Int))=(P:Int):=by rw[E,Int.natCast_mul]
 refine⟨W*4294967296 % 18446744073709551616,N % 18446744073709551616,P % 18446744073709551616,N % y2,?_,?_,?_,?_,by rw[H]⟩
 ·rw[IntKind.wrap_u64];omega
 ·clear E hQ I h e3
  rw[IntKind.wrap_u64];omega
 ·rw[e3,IntKind.wrap_u64];omega
 ·clear E hQ e3 H
  generalize N % y2=X at*;rw[IntKind.wrap_u64];omega
theorem Qpt {hi lo y s n W t u1 u0 Q Q2 X:Nat}(hP:0<2^n)(hS:0<2^s)(hT:18446744073709551616=2^n*2^s)(hW:W=hi*2^s+lo / 2^n)(ht:t=lo*2^s % 18446744073709551616)
  (hu1:u1=t / 4294967296) (hu0:u0=t % 4294967296) (hQ:Q=(W*4294967296+u1) / (y*2^s)) (hX:X=(W*4294967296+u1) % (y*2^s)) (hQ2:Q2=(X*4294967296+u0) / (y*2^s)) (hy:0<y):
  (hi*18446744073709551616+lo) / y=Q*4294967296+Q2/\(hi*18446744073709551616+lo) % y=(X*4294967296+u0) % (y*2^s) / 2^s:=by
 have h:=A8 (hi:=hi) (lo:=lo) hS hT;rw[<-hW,<-ht]at h
 have E:W*18446744073709551616+t=(W*4294967296+u1)*4294967296+u0:=by omega
 rw[E]at h;obtain⟨b1,b2⟩:=Gy (N:=hi*18446744073709551616+lo) (y:=y) hS;have H:0<y*2^s:=Nat.mul_pos hy hS;obtain⟨d1,d2⟩:=Qzy (by omega) H h;rw[<-hQ,<-hX,<-hQ2]at d1;rw[<-hX]at d2;exact⟨by rw[b1,d1],by rw[b2,d2]⟩
theorem Mh (y:Nat)(h0:0<y)(h:y<18446744073709551616):
  ∃n,Lib.bitLen y=n/\1<=n/\n<=64/\9223372036854775808<=y*2^(64-n)/\y*2^(64-n)<18446744073709551616:=by
 obtain⟨H,I,J⟩:=Lib.bitLenAux_bounds 64 y h (by omega);have E:=Lib.bitLen_le y 64 (Nat.le_refl _) h;refine⟨Lib.bitLenAux 64 y,rfl,H,E,?_,?_⟩
 ·have e:(9223372036854775808:Nat)=2^(Lib.bitLenAux 64 y-1)*2^(64-Lib.bitLenAux 64 y):=by
   rw[<-Nat.pow_add,show Lib.bitLenAux 64 y-1+(64-Lib.bitLenAux 64 y)=63 from by have:Lib.bitLenAux 64 y<=64:=E;omega]
  rw[e];exact Nat.mul_le_mul_right _ I
 ·have e:(18446744073709551616:Nat)=2^(Lib.bitLenAux 64 y)*2^(64-Lib.bitLenAux 64 y):=by
   rw[<-Nat.pow_add,show Lib.bitLenAux 64 y+(64-Lib.bitLenAux 64 y)=64 from by have:Lib.bitLenAux 64 y<=64:=E;omega]
  rw[e];exact Nat.mul_lt_mul_of_pos_right J (Nat.pow_pos (by omega))
def Qme (hi lo y:Nat)(w:World)(e:Ending)(w':World):Prop:=
 e=.returned (.tuple #[.int .u64 ((hi*BB+lo) / y:Nat),.int .u64 ((hi*BB+lo) % y:Nat)])/\w=w'
theorem Qq8 (hi lo y:Nat)(w:World)(hlo:lo<BB)(hhi:hi<y)(hh0:0<hi)(hy:y<BB):
  Calls Tryz.prog 277 #[.int .u64 (hi:Nat),.int .u64 (lo:Nat),.int .u64 (y:Nat)] w (Qme hi lo y w):=by
 have hBB:BB=18446744073709551616:=rfl;rw[hBB]at hlo hy;clear hBB
 have hyz:((y:Int)==0)=false:=by simp;omega
 have hhz:((hi:Int)==0)=false:=by simp;omega
 obtain⟨n,hn,hn1,hn2,hy2l,hy2h⟩:=Mh y (by omega) hy;obtain⟨s,hs⟩:=xq (64-n);rw[<-hs]at hy2l hy2h
 have hs63:s<=63:=by omega
 have E1:IntKind.u64.wrap (64-(n:Int))=(s:Int):=by rw[IntKind.wrap_u64];omega
 have E1b:IntKind.u64.wrap (64-(s:Int))=(n:Int):=by rw[IntKind.wrap_u64];omega
 have E2:min s 64=s:=by omega
 have E2b:min n 64=n:=by omega
 obtain⟨y2,hy2⟩:=xq (y*2^s)
 have E3:IntKind.u64.wrap ((y:Int)*2^s)=(y2:Int):=by
  have e:((y:Int)*2^s)=((y*2^s:Nat):Int):=by rw[Int.natCast_mul,Int.natCast_pow];rfl
  rw[e,<-hy2];exact Va _ (by rw[hy2];exact hy2h)
 rw[<-hy2]at hy2l hy2h;obtain⟨v1,hv1⟩:=xq (y2 / 4294967296)
 have hv1b:2147483648<=v1/\v1<4294967296:=by omega
 have E4:(y2:Int) / 4294967296=(v1:Int):=by omega
 have hv1z:((v1:Int)==0)=false:=by simp;omega
 have hpn:0<2^n:=Nat.pow_pos (by omega);have hps:0<2^s:=Nat.pow_pos (by omega)
 have hT:18446744073709551616=2^n*2^s:=by rw[<-Nat.pow_add,show n+s=64 from by omega]
 have hsl:=Qy3 (P:=2^n) (S:=2^s) hpn hT hhi hlo;rw[<-hy2]at hsl;obtain⟨a1,ha1⟩:=xq (hi*2^s);obtain⟨b1,hb1⟩:=xq (lo / 2^n);obtain⟨W,hW⟩:=xq (a1+b1);rw[<-ha1,<-hb1,<-hW]at hsl
 have E5:IntKind.u64.wrap ((hi:Int)*2^s)=(a1:Int):=by
  have e:((hi:Int)*2^s)=((hi*2^s:Nat):Int):=by rw[Int.natCast_mul,Int.natCast_pow];rfl
  rw[e,<-ha1];exact Va _ (by omega)
 have E6:(lo:Int) / 2^n=(b1:Int):=by
  have e:(lo:Int) / 2^n=((lo / 2^n:Nat):Int):=by rw[Int.natCast_ediv,Int.natCast_pow];rfl
  rw[e,<-hb1]
 have E7:bits BinOp.or IntKind.u64 (a1:Int) (b1:Int)=(W:Int):=by
  rw[hW];refine De a1 b1 s (by omega) (by rw[ha1];exact Nat.mul_mod_left _ _) ?_ (by omega);rw[hb1,Nat.div_lt_iff_lt_mul hpn,Nat.mul_comm,<-hT];exact hlo
 obtain⟨t,ht⟩:=xq (lo*2^s % 18446744073709551616)
 have htb:t<18446744073709551616:=by omega
 have E8:IntKind.u64.wrap ((lo:Int)*2^s)=(t:Int):=by
  have e:((lo:Int)*2^s)=((lo*2^s:Nat):Int):=by rw[Int.natCast_mul,Int.natCast_pow];rfl
  rw[e,IntKind.wrap_u64,ht];rfl
 obtain⟨u1,hu1⟩:=xq (t / 4294967296);obtain⟨u0,hu0⟩:=xq (t % 4294967296);obtain⟨v0,hv0⟩:=xq (y2 % 4294967296)
 have E9:(t:Int) / 4294967296=(u1:Int):=by omega
 have E10:bits BinOp.and IntKind.u64 (t:Int) 4294967295=(u0:Int):=by rw[hu0];exact Qmu t htb
 have E11:bits BinOp.and IntKind.u64 (y2:Int) 4294967295=(v0:Int):=by rw[hv0];exact Qmu y2 hy2h
 obtain⟨q,hq⟩:=xq (W / v1);obtain⟨p,hp⟩:=xq (q*v1);obtain⟨r,hr⟩:=xq (W % v1)
 have hdm:p+r=W:=by
  have:=Nat.div_add_mod W v1;rw[<-hq,<-hr,Nat.mul_comm,<-hp]at this;exact this
 have hqW:q<=W:=by rw[hq];exact Nat.div_le_self _ _
 have E12:(W:Int) / (v1:Int)=(q:Int):=by rw[hq];rfl
 have E12b:IntKind.u64.wrap (q:Int)=(q:Int):=Va _ (by omega)
 have E13:IntKind.u64.wrap ((q:Int)*(v1:Int))=(p:Int):=by
  have e:((q:Int)*(v1:Int))=((q*v1:Nat):Int):=by rw[Int.natCast_mul]
  rw[e,<-hp];exact Va _ (by omega)
 have E14:IntKind.u64.wrap ((W:Int)-(p:Int))=(r:Int):=by rw[IntKind.wrap_u64];omega
 have Hha1:=zq ha1;have Hhb1:=zq hb1;have HhW:=zq hW;have Hht:=zq ht;have Hhu1:=zq hu1;have Hhu0:=zq hu0;have Hhv0:=zq hv0;have Hhq:=zq hq;have Hhp:=zq hp;have Hhr:=zq hr;have HhT:=zq hT;have Hhdm:=zq hdm;have Hhs:=zq hs;have Hhy2:=zq hy2;have Hhv1:=zq hv1;have Hhpn:=zq hpn;have Hhps:=zq hps;have Hhn:=zq hn;clear ha1 hb1 hW ht hu1 hu0 hv0 hq hp hr hT hdm hs hy2 hv1 hpn hps;go_enter Tryz.func277,Tryz.ntmps277;go_wp2_with fail;refine(Tryz.bits_LeadingZeros64 (y:Int) _ (by omega) (by omega)).mono ?_;rintro e w1 ⟨rfl,rfl⟩;rw[Int.toNat_natCast,hn];obtain⟨Q,hQ⟩:=xq ((W*4294967296+u1) / (v1*4294967296+v0));have HQ:=zq hQ;clear hQ
 have hv0b:v0<4294967296:=by rw[Hhv0.o];exact Nat.mod_lt _ (by omega)
 have hu1b:u1<4294967296:=by rw[Hhu1.o];omega
 have HV:Hid (v1*4294967296+v0=y2):=by show _=_;rw[Hhv0.o,Hhv1.o];omega
 have hqb:q<=8589934592:=by
  have h1:=Hhdm.o;rw[Hhp.o]at h1;refine Nat.le_of_not_lt fun h2=> ?_;have h3:8589934593*2147483648<=q*v1:=Nat.mul_le_mul h2 hv1b.1;omega
 have hrb:r<4294967296:=by rw[Hhr.o];exact Nat.lt_trans (Nat.mod_lt _ (by omega)) hv1b.2
 have HST:Hid (Kk v1 W Q (.int .u64 (q:Nat)) (.int .u64 (r:Nat))):=⟨q,r,rfl,rfl,by show _=_;rw[<-Hhp.o];exact Hhdm.o,by
  show _<=_
  rw[HQ.o,Hhq.o];exact Bv hu1b (by omega),hrb,hqb⟩
 obtain⟨hv1l,hv1h⟩:=hv1b;go_upto_block 0 with fail;go_cut [15,16] (fun d _ wx=>d=.int .u64 (Q:Nat)/\wx=w1)
 case first=>
  go_wp2_with fail;have HV1L:=zq hv1l;have HV1H:=zq hv1h;have HV0B:=zq hv0b;have HU1B:=zq hu1b;have HSL:=zq hsl;have HQB:=zq hqb;have HRB:=zq hrb;have HTB:=zq htb;have HLO:=zq hlo;have HY:=zq hy;have HY2L:=zq hy2l;have HY2H:=zq hy2h;have HHI:=zq hhi;have HQW:=zq hqW;clear hv1l hv1h hv0b hu1b hsl hqb hrb htb hlo hy hy2l hy2h hhi hqW;go_loopw [15,16] (fun d rr wr=>Kk v1 W Q d rr/\wr=w1) (fun d _ _=>(intOf d).toNat)
  case atStart=>exact⟨HST.o,rfl⟩
  case round=>
   obtain⟨⟨dn,rn,rfl,rfl,hi1,hg1,hrn,hdn⟩,rfl⟩:=hrel;have HRN:=zq hrn;have HDN:=zq hdn;clear hrn hdn;have HC:=zq (Fl HQ.o HV.o HSL.o HV0B.o HU1B.o HV1L.o HV1H.o hi1.o hg1.o HRN.o HDN.o);rcases HC.o with ⟨t1,d2,r2,hdown⟩|⟨t1,m,k,z,htest,⟨t3,d2,r2,hdown⟩|⟨t3,hq⟩⟩
   ·obtain⟨f1,f2,hlt,⟨t2,hq⟩|⟨t2,hrel⟩⟩:=hdown
    ·have HQ2:=zq hq
     clear hq hlt;go_wp2_with fail;go_meet;exact⟨by rw[HQ2.o],rfl⟩
    ·have HR2:=zq hrel
     clear hrel;go_wp2_with fail;have hfin:=HR2.o
     first|exact⟨hfin,by simp[intOf];omega⟩|exact⟨⟨hfin,rfl⟩,by simp[intOf];omega⟩|exact⟨by (repeat apply Exists.intro);first|exact⟨hfin,rfl⟩|exact⟨⟨hfin,rfl⟩,rfl⟩|exact⟨hfin,trivial⟩|exact⟨⟨hfin,trivial⟩,rfl⟩,by simp[intOf];omega⟩
   ·obtain⟨f3,f4,f5⟩:=htest
    obtain⟨f1,f2,hlt,⟨t2,hq⟩|⟨t2,hrel⟩⟩:=hdown
    ·have HQ2:=zq hq
     clear hq hlt;go_wp2_with fail;go_meet;exact⟨by rw[HQ2.o],rfl⟩
    ·have HR2:=zq hrel
     clear hrel;go_wp2_with fail;have hfin:=HR2.o
     first|exact⟨hfin,by simp[intOf];omega⟩|exact⟨⟨hfin,rfl⟩,by simp[intOf];omega⟩|exact⟨by (repeat apply Exists.intro);first|exact⟨hfin,rfl⟩|exact⟨⟨hfin,rfl⟩,rfl⟩|exact⟨hfin,trivial⟩|exact⟨⟨hfin,trivial⟩,rfl⟩,by simp[intOf];omega⟩
   ·obtain⟨f3,f4,f5⟩:=htest
    have HQ2:=zq hq;clear hq;go_wp2_with fail;go_meet;exact⟨by rw[HQ2.o],rfl⟩
 case rest=>
  obtain⟨rfl,hwc⟩:=hcut;subst wc;clear HST;obtain⟨A1,A2,A3,X,hL⟩:=Hb (W:=W) (u1:=u1) (Q:=Q) (y2:=y2) (by rw[HQ.o,HV.o]) (by omega) hy2h;have HX:=zq hL.gx
  have hXy:X<y2:=by rw[HX.o];exact Nat.mod_lt _ (by omega)
  obtain⟨L1,L2,L3,L4,-⟩:=hL;obtain⟨q2,hq2⟩:=xq (X / v1);obtain⟨p2,hp2⟩:=xq (q2*v1);obtain⟨r2,hr2⟩:=xq (X % v1)
  have hdm2:p2+r2=X:=by
   have:=Nat.div_add_mod X v1;rw[<-hq2,<-hr2,Nat.mul_comm,<-hp2]at this;exact this
  have hqX:q2<=X:=by rw[hq2];exact Nat.div_le_self _ _
  have M12:(X:Int) / (v1:Int)=(q2:Int):=by rw[hq2];rfl
  have M12b:IntKind.u64.wrap (q2:Int)=(q2:Int):=Va _ (by omega)
  have M13:IntKind.u64.wrap ((q2:Int)*(v1:Int))=(p2:Int):=by
   have e:((q2:Int)*(v1:Int))=((q2*v1:Nat):Int):=by rw[Int.natCast_mul]
   rw[e,<-hp2];exact Va _ (by omega)
  have M14:IntKind.u64.wrap ((X:Int)-(p2:Int))=(r2:Int):=by rw[IntKind.wrap_u64];omega
  have Hhq2:=zq hq2;have Hhp2:=zq hp2;have Hhr2:=zq hr2;have Hhdm2:=zq hdm2;clear hq2 hp2 hr2 hdm2;obtain⟨Q2,hQ2⟩:=xq ((X*4294967296+u0) / (v1*4294967296+v0));have HQ2:=zq hQ2
  have hu0b:u0<4294967296:=by rw[Hhu0.o];exact Nat.mod_lt _ (by omega)
  have hq2b:q2<=8589934592:=by
   have h1:=Hhdm2.o;rw[Hhp2.o]at h1;refine Nat.le_of_not_lt fun h2=> ?_;have h3:8589934593*2147483648<=q2*v1:=Nat.mul_le_mul h2 hv1l;omega
  have hr2b:r2<4294967296:=by rw[Hhr2.o];exact Nat.lt_trans (Nat.mod_lt _ (by omega)) hv1h
  have HST2:Hid (Kk v1 X Q2 (.int .u64 (q2:Nat)) (.int .u64 (r2:Nat))):=⟨q2,r2,rfl,rfl,by show _=_;rw[<-Hhp2.o];exact Hhdm2.o,by
   show _<=_
   rw[HQ2.o,Hhq2.o];exact Bv hu0b (by omega),hr2b,hq2b⟩
  clear hQ2;go_upto_block 2 with fail;go_cut [18,16] (fun d _ wx=>d=.int .u64 (Q2:Nat)/\wx=w1)
  case first=>
   go_wp2_with fail;have HV1L:=zq hv1l;have HV1H:=zq hv1h;have HV0B:=zq hv0b;have HU1B:=zq hu1b;have HU0B:=zq hu0b;have HXY:=zq hXy;clear hv1l hv1h hv0b hu1b hsl hqb hrb htb hlo hy hy2l hy2h hhi hqW hXy hu0b hq2b hr2b hqX;go_loopw [18,16] (fun d rr wr=>Kk v1 X Q2 d rr/\wr=w1) (fun d _ _=>(intOf d).toNat)
   case atStart=>exact⟨HST2.o,rfl⟩
   case round=>
    obtain⟨⟨dn,rn,rfl,rfl,hi1,hg1,hrn,hdn⟩,rfl⟩:=hrel;have HRN:=zq hrn;have HDN:=zq hdn;clear hrn hdn;have HC:=zq (Fl HQ2.o HV.o HXY.o HV0B.o HU0B.o HV1L.o HV1H.o hi1.o hg1.o HRN.o HDN.o);rcases HC.o with ⟨t1,d2,r2,hdown⟩|⟨t1,m,k,z,htest,⟨t3,d2,r2,hdown⟩|⟨t3,hq⟩⟩
    ·obtain⟨f1,f2,hlt,⟨t2,hq⟩|⟨t2,hrel⟩⟩:=hdown
     ·have HQ3:=zq hq
      clear hq hlt;go_wp2_with fail;go_meet;exact⟨by rw[HQ3.o],rfl⟩
     ·have HR2:=zq hrel
      clear hrel;go_wp2_with fail;have hfin:=HR2.o
      first|exact⟨hfin,by simp[intOf];omega⟩|exact⟨⟨hfin,rfl⟩,by simp[intOf];omega⟩|exact⟨by (repeat apply Exists.intro);first|exact⟨hfin,rfl⟩|exact⟨⟨hfin,rfl⟩,rfl⟩|exact⟨hfin,trivial⟩|exact⟨⟨hfin,trivial⟩,rfl⟩,by simp[intOf];omega⟩
    ·obtain⟨f3,f4,f5⟩:=htest
     obtain⟨f1,f2,hlt,⟨t2,hq⟩|⟨t2,hrel⟩⟩:=hdown
     ·have HQ3:=zq hq
      clear hq hlt;go_wp2_with fail;go_meet;exact⟨by rw[HQ3.o],rfl⟩
     ·have HR2:=zq hrel
      clear hrel;go_wp2_with fail;have hfin:=HR2.o
      first|exact⟨hfin,by simp[intOf];omega⟩|exact⟨⟨hfin,rfl⟩,by simp[intOf];omega⟩|exact⟨by (repeat apply Exists.intro);first|exact⟨hfin,rfl⟩|exact⟨⟨hfin,rfl⟩,rfl⟩|exact⟨hfin,trivial⟩|exact⟨⟨hfin,trivial⟩,rfl⟩,by simp[intOf];omega⟩
    ·obtain⟨f3,f4,f5⟩:=htest
     have HQ3:=zq hq;clear hq;go_wp2_with fail;go_meet;exact⟨by rw[HQ3.o],rfl⟩
  case rest=>
   obtain⟨rfl,hwc⟩:=hcut;subst wc;clear HST2;have hfin:=Qpt (hi:=hi) (lo:=lo) (y:=y) (s:=s) (n:=n) (W:=W) (t:=t) (u1:=u1) (u0:=u0) (Q:=Q) (Q2:=Q2) (X:=X) Hhpn.o Hhps.o HhT.o (by rw[HhW.o,Hha1.o,Hhb1.o]) Hht.o Hhu1.o Hhu0.o (by rw[HQ.o,HV.o,Hhy2.o]) (by rw[HX.o,Hhy2.o]) (by rw[HQ2.o,HV.o,Hhy2.o]) (by omega)
   have hZ:(hi*18446744073709551616+lo) / y<18446744073709551616:=by
    rw[Nat.div_lt_iff_lt_mul (by omega)];have:(hi+1)*18446744073709551616<=y*18446744073709551616:=Nat.mul_le_mul_right _ hhi;omega
   obtain⟨Z,hZ1⟩:=xq ((hi*18446744073709551616+lo) / y);rw[<-hZ1]at hZ hfin;obtain⟨h1,h2⟩:=hfin;obtain⟨B1,hB1⟩:=xq (Q*4294967296)
   have N1:IntKind.u64.wrap ((Q:Int)*4294967296)=(B1:Int):=by
    rw[IntKind.wrap_u64];omega
   have N2:IntKind.u64.wrap ((B1:Int)+(Q2:Int))=(Z:Int):=by
    rw[IntKind.wrap_u64];omega
   obtain⟨C1,C2,C3,R,hL⟩:=Hb (W:=X) (u1:=u0) (Q:=Q2) (y2:=y2) (by rw[HQ2.o,HV.o]) (by omega) hy2h;obtain⟨O1,O2,O3,O4,hR⟩:=hL;obtain⟨rr,hrr⟩:=xq (R / 2^s)
   have N3:(R:Int) / 2^s=(rr:Int):=by
    have e:(R:Int) / 2^s=((R / 2^s:Nat):Int):=by rw[Int.natCast_ediv,Int.natCast_pow];rfl
    rw[e,<-hrr]
   have HFin:Hid (Z=(hi*BB+lo) / y/\rr=(hi*BB+lo) % y):=by
    refine⟨hZ1,?_⟩;show rr=(hi*18446744073709551616+lo) % y;rw[h2,hrr,hR,Hhy2.o]
   clear hZ1 hB1 hR hrr h1 h2 hZ;go_wp2_with fail;go_ret2;exact⟨by rw[<-HFin.o.1,<-HFin.o.2];rfl,rfl⟩
theorem Qz4 (hi lo y:Nat)(w:World)(hlo:lo<BB)(hhi:hi<y)(hy:y<BB):
  Calls Tryz.prog 277 #[.int .u64 (hi:Nat),.int .u64 (lo:Nat),.int .u64 (y:Nat)] w (G5 hi lo y w):=by
 by_cases h0:hi=0
 ·subst h0;exact Qq9 lo y w hlo hhi hy
 ·exact(Qq8 hi lo y w hlo hhi (by omega) hy).mono fun e w' ⟨h1,h2⟩=>by subst h2;exact⟨h1,0,rfl⟩
theorem Qvp (hi lo y:Nat)(w:World)(hlo:lo<BB)(hhi:hi<y)(hy:y<BB):
  Calls Tryz.prog 277 #[.int .u64 (hi:Nat),.int .u64 (lo:Nat),.int .u64 (y:Nat)] w fun e w'=>e=.returned (.tuple #[.int .u64 ((hi*BB+lo) / y:Nat),.int .u64 ((hi*BB+lo) % y:Nat)])/\Below w.heap.size w w':=
 (Qz4 hi lo y w hlo hhi hy).mono fun e w' ⟨h1,k,h2⟩=>by subst h2;exact⟨h1,⟨rfl,rfl,rfl,Nat.le_refl _,fun _ _=>rfl⟩⟩
end Go.Proofs.YtgfmiladfeoldaaGreatDoor
namespace NatP
abbrev mid (M:List Nat)(o n:Nat):List Nat:=(M.drop o).take n
theorem Py {M:List Nat}{o n z:Nat}(h:M[o+n]?=some z):val (mid M o (n+1))=val (mid M o n)+BB^n*z:=by
 have I:o+n<M.length:=(List.getElem?_eq_some_iff.1 h).1
 have E:n<(M.drop o).length:=by rw[List.length_drop];omega
 rw[mid,X1 E];have H:=List.getElem?_eq_getElem E;rw[List.getElem?_drop,h]at H;rw[<-Option.some.inj H]
theorem Wl {l:List Nat}{k x:Nat}(h:l[k]?=some x):val (l.drop k)=x+BB*val (l.drop (k+1)):=by
 have E:k<l.length:=(List.getElem?_eq_some_iff.1 h).1;rw[List.drop_eq_getElem_cons E];have:=List.getElem?_eq_getElem E;rw[h]at this;rw[<-Option.some.inj this];rfl
theorem Bo {M:List Nat}{o n z:Nat}(h:M[o]?=some z):val (mid M o (n+1))=z+BB*val (mid M (o+1) n):=by
 have E:o<M.length:=(List.getElem?_eq_some_iff.1 h).1;unfold mid;rw[List.drop_eq_getElem_cons E];have:=List.getElem?_eq_getElem E;rw[h]at this;rw[<-Option.some.inj this];rfl
theorem Dc {M:List Nat}(hM:ok M)(o n:Nat)(h:o+n<=M.length):val (mid M o n)<BB^n:=by
 have:=Yk (Zd (Wx hM o) n);rw[List.length_take,List.length_drop,Nat.min_eq_left (by omega)]at this;exact this
structure LgSt (L V:List Nat) (n k:Nat) (M Q:List Nat):Prop where
 len:M.length=L.length
 low:M.take k=L.take k
 eq:val (L.drop k)=val (Q.drop k)*val V+val (mid M k n)
 lt:val (mid M k n)<val V
theorem LgSt.at {L V M Q:List Nat}{n k z:Nat}(h:LgSt L V n (k+1) M Q)(hz:M[k]?=some z):L[k]?=some z:=by
 have:=congrArg (fun l=>l[k]?) h.low;simp only[List.getElem?_take,Nat.lt_succ_self,if_true]at this;rw[<-this];exact hz
theorem Qw0 {L V M Q:List Nat}{n k z u2 u1 u0 v1 v0:Nat}(h:LgSt L V (n+2) (k+1) M Q)(hM:ok M)(hV:ok V)(hVl:V.length=n+2)(hml:k+(n+2)<M.length)(hz:M[k]?=some z)
  (h2:M[k+n+2]?=some u2) (h1:M[k+n+1]?=some u1) (h0:M[k+n]?=some u0) (g1:V[n+1]?=some v1) (g0:V[n]?=some v0) (hv1:0<v1):
  val (mid M k (n+3))<val V*BB/\u2<=v1/\
  val (mid M k (n+3)) / val V<=gq ((u2*BB+u1)*BB+u0) (v1*BB+v0)/\gq ((u2*BB+u1)*BB+u0) (v1*BB+v0)<=val (mid M k (n+3)) / val V+1:=by
 have e1:=Bo (n:=n+2) hz;have Z:z<BB:=hM z (List.mem_of_getElem? hz);have J:=h.lt
 have I:val (mid M k (n+3))<val V*BB:=by
  rw[e1];have:(val (mid M (k+1) (n+2))+1)*BB<=val V*BB:=Nat.mul_le_mul_right _ J;rw[Nat.add_mul,Nat.one_mul,Nat.mul_comm _ BB]at this;omega
 have e2:val (mid M k (n+3))=val (mid M k n)+BB^n*(u0+BB*(u1+BB*u2)):=by
  rw[Py (by rw[show k+(n+2)=k+n+2 from rfl];exact h2),Py (by rw[show k+(n+1)=k+n+1 from rfl];exact h1),Py h0,Nat.pow_succ,Nat.pow_succ];simp only[Nat.mul_add,Nat.mul_assoc,Nat.add_assoc,Nat.pow_succ]
 have e3:val V=val (V.take n)+BB^n*(v0+BB*v1):=by
  have a:=Xm V n (by omega);rw[Wl g0,Wl g1,List.drop_eq_nil_of_le (by omega)]at a
  simpa [val] using a
 have H:val (mid M k n)<BB^n:=Dc hM k n (by omega)
 have E:val (V.take n)<BB^n:=by
  have:=Yk (Zd hV n);rw[List.length_take,Nat.min_eq_left (by omega)]at this;exact this
 have e2':val (mid M k (n+3))=((u2*BB+u1)*BB+u0)*BB^n+val (mid M k n):=by
  rw[e2,Nat.mul_comm (BB^n),show u0+BB*(u1+BB*u2)=(u2*BB+u1)*BB+u0 from by rw[Nat.mul_comm BB (u1+BB*u2),Nat.mul_comm BB u2,Nat.add_comm u1,Nat.add_comm]];omega
 have e3':val V=(v1*BB+v0)*BB^n+val (V.take n):=by
  rw[e3,Nat.mul_comm (BB^n),show v0+BB*v1=v1*BB+v0 from by rw[Nat.mul_comm BB v1];omega];omega
 have K:BB<=v1*BB+v0:=by
  have:=Nat.mul_le_mul_right BB hv1;omega
 refine⟨I,?_,Qwt e2' H e3' E I K⟩;refine Nat.le_of_not_lt fun hgt=> ?_;have O:(v1+1)*BB<=u2*BB:=Nat.mul_le_mul_right _ hgt
 have T:(v1*BB+v0+1)*BB<=((u2*BB+u1)*BB+u0):=by
  rw[Nat.add_mul,Nat.one_mul]at O;have U:=hV v0 (List.mem_of_getElem? g0);have:(v1*BB+v0+1)*BB<=(u2*BB+u1)*BB:=Nat.mul_le_mul_right _ (by omega);omega
 have h5:(v1*BB+v0+1)*BB*BB^n<=((u2*BB+u1)*BB+u0)*BB^n:=Nat.mul_le_mul_right _ T
 have h6:val V*BB<=(v1*BB+v0+1)*BB*BB^n:=by
  rw[e3',Nat.mul_right_comm];refine Nat.mul_le_mul_right _ ?_;rw[Nat.add_mul (v1*BB+v0),Nat.one_mul];omega
 omega
theorem Qvo {M:List Nat}{o n R:Nat}(hM:ok M)(hl:o+n<M.length)(hv:val (mid M o (n+1))=R)(hR:R<BB^n):val (mid M o n)=R:=by
 obtain⟨z,h⟩:∃z,M[o+n]?=some z:=⟨_,List.getElem?_eq_getElem hl⟩;rw[Py h]at hv
 have:z=0:=by
  refine Nat.eq_zero_of_not_pos fun hp=> ?_;have:=Nat.mul_le_mul_left (BB^n) hp;omega
 subst this
 simpa using hv
theorem LgSt.step {L V M M' Q:List Nat}{n k z d:Nat}(h:LgSt L V n (k+1) M Q)(hV:ok V)(hVl:V.length=n)(hM':ok M')(hl:M'.length=M.length)(hml:k+n<M.length)(hz:M[k]?=some z)(hk:k<Q.length)
  (hlow:M'.take k=M.take k) (hd:d=val (mid M k (n+1)) / val V) (hR:val (mid M' k (n+1))=val (mid M k (n+1)) % val V):LgSt L V n k M' (Q.set k d):=by
 have O:=h.at hz;have I:0<val V:=Nat.lt_of_le_of_lt (Nat.zero_le _) h.lt;have E:=Nat.mod_lt (val (mid M k (n+1))) I
 have H:val V<BB^n:=by rw[<-hVl];exact Yk hV
 have K:=Qvo hM' (by omega) hR (Nat.lt_trans E H);refine⟨by rw[hl,h.len],?_,?_,by rw[K];exact E⟩
 ·rw[hlow]
  have:=congrArg (List.take k) h.low;rw[List.take_take,List.take_take,Nat.min_eq_left (Nat.le_succ k)]at this;exact this
 ·have e1:(Q.set k d)[k]?=some d:=by rw[List.getElem?_set_self hk]
  rw[Wl O,h.eq,Wl e1,Sc,K];have e2:=Bo (n:=n) hz;have J:=Nat.div_add_mod (val (mid M k (n+1))) (val V);rw[<-hd]at J;generalize val (mid M k (n+1)) % val V=R' at*;generalize val (mid M k (n+1))=U at*;generalize val (mid M (k+1) n)=R at*;generalize val (List.drop (k+1) Q)=q at*;generalize val V=v at*;rw[Nat.mul_add,Nat.add_mul,Nat.mul_comm v d]at*;rw[Nat.mul_assoc];omega
theorem Qgz {M1 M2:List Nat}{k n U V g c:Nat}(hM1:ok M1)(hM2:ok M2)(hl1:k+(n+1)<=M1.length)(hl2:k+(n+1)<=M2.length)(h1:U / V<=g)(h2:g<=U / V+1)(hV:0<V)(hVT:V<BB^(n+1))(ht:U+BB^(n+1)*1=val (mid M1 k (n+1))+g*V)
  (hg:val (mid M2 k (n+1))+BB^(n+1)*c=val (mid M1 k (n+1))+V):g-1=U / V/\val (mid M2 k (n+1))=U % V:=by
 have E:=Dc hM1 k (n+1) hl1;have J:=Dc hM2 k (n+1) hl2;rw[Nat.mul_one]at ht;obtain⟨a,b⟩:=Qkc h1 h2 hV E ht;refine⟨a,?_⟩;rw[b]at hg;have H:=Nat.mod_lt U hV;generalize BB^(n+1)=T at*
 have I:c=1:=by
  rcases Nat.lt_trichotomy c 1 with h|h|h
  ·have:c=0:=by omega
   subst this;omega
  ·exact h
  ·have:=Nat.mul_le_mul_left T h
   omega
 subst I;omega
theorem LgSt.fin {L V M Q:List Nat}{n:Nat}(h:LgSt L V n 0 M Q):val Q=val L / val V/\val (M.take n)=val L % val V:=by
 have H:=h.eq;have E:=h.lt;unfold mid at H E;rw[List.drop_zero,List.drop_zero,List.drop_zero]at H;rw[List.drop_zero]at E
 have I:0<val V:=by omega
 rw[H,Nat.mul_comm (val Q)];exact⟨by rw[Nat.mul_add_div I,Nat.div_eq_of_lt E,Nat.add_zero],by rw[Nat.mul_add_mod,Nat.mod_eq_of_lt E]⟩
theorem LgSt.start {L V Q:List Nat}{n k:Nat}(hl:L.length=k+n)(hlt:val (L.drop k)<val V)(hQ:Q.length<=k):LgSt L V n k L Q where
 len:=rfl
 low:=rfl
 eq:=by
  rw[List.drop_eq_nil_of_le hQ];have:mid L k n=L.drop k:=List.take_of_length_le (by rw[List.length_drop];omega);rw[this];simp[val]
 lt:=by
  have:mid L k n=L.drop k:=List.take_of_length_le (by rw[List.length_drop];omega);rw[this];exact hlt
theorem Qhz {x y S m n k:Nat}{L V:List Nat}(hLv:val L=x*S)(hx:x<BB^m)(hLl:L.length=m+1)(hk:k+n=m+1)(hV:val V=y*S)(hS:S<=9223372036854775808)(hn:1<=n)(hVt:9223372036854775808*BB^(n-1)<=val V):val (L.drop k)<val V:=by
 have h:=Xm L k (by omega)
 have E:BB^k*val (L.drop k)<=x*S:=by omega
 have H:x*S<BB^m*9223372036854775808:=by
  have a:x*S<=x*9223372036854775808:=Nat.mul_le_mul_left _ hS;have b:x*9223372036854775808<BB^m*9223372036854775808:=Nat.mul_lt_mul_of_pos_right hx (by omega);omega
 have I:BB^k*(9223372036854775808*BB^(n-1))<=BB^k*val V:=Nat.mul_le_mul_left _ hVt
 have J:BB^k*(9223372036854775808*BB^(n-1))=BB^m*9223372036854775808:=by
  rw[Nat.mul_left_comm,<-Nat.pow_add,show k+(n-1)=m from by omega,Nat.mul_comm]
 exact Nat.lt_of_mul_lt_mul_left (a:=BB^k) (by omega)
end NatP
namespace LexP
open Go
theorem Qwn (s:ByteArray)(i:Nat):s.get! i=(s.data.toList[i]?).getD default:=by
 obtain⟨⟨l⟩⟩:=s;simp[ByteArray.get!]
theorem Fd (s:ByteArray)(i:Nat)(hi:i<s.size):
  Utf8.decode s i=match dec (s.data.toList.drop i) with|some (v,n)=>(v,n)|none=>(0xFFFD,1):=by
 have J:s.size=s.data.toList.length:=Lib.size_eq s
 have O:∀k,s.get! (i+k)=((s.data.toList.drop i)[k]?).getD default:=by
  intro k;rw[Qwn,List.getElem?_drop]
 have K:∀k,i+k<s.size↔k<(s.data.toList.drop i).length:=by intro k;rw[J,List.length_drop];omega
 have I:0<(s.data.toList.drop i).length:=by rw[List.length_drop];omega
 generalize s.data.toList.drop i=l at*;simp only[Utf8.decode,O,K]
 match l,I with
 |b::t,_=>
  simp only[List.getElem?_cons_zero,Option.getD_some,List.getElem?_cons_succ,List.length_cons];by_cases h0:b.toNat<0x80
  ·simp[dec,h0]
  simp only[h0,if_false];by_cases h1:b.toNat / 32=6
  ·have h: ¬b.toNat / 16=14:=by omega
   have E: ¬b.toNat / 8=30:=by omega
   match t with
   | []=>simp[dec,h0,h1,Utf8.runeError]
   |c::t=>
    by_cases k1:c.toNat / 64=2
    ·by_cases k2:128<=b.toNat % 32*64+c.toNat % 64
     ·simp[dec,h0,h1,k1,Zb,k2]
     ·simp[dec,h0,h1,k1,Zb,k2,Utf8.runeError]
    ·simp[dec,h0,h1,k1,Zb,h,E,Utf8.runeError]
  by_cases h:b.toNat / 16=14
  ·have E: ¬b.toNat / 8=30:=by omega
   match t with
   | []=>simp[dec,h0,h1,h,Utf8.runeError]
   | [c]=>simp[dec,h0,h1,h,Utf8.runeError]
   |c::d::t=>
    have H:∀v:Nat,Utf8.valid (v:Int)=Um v:=by
     intro v;simp only[Utf8.valid,Um];rw[Bool.eq_iff_iff];simp;omega
    by_cases k1:c.toNat / 64=2
    ·by_cases k2:d.toNat / 64=2
     ·simp only[dec,h0,h1,h,k1,k2,Zb,if_true,if_false,beq_self_eq_true,Bool.true_and,Bool.and_true,H,List.length_cons,List.getElem?_cons_zero,Option.getD_some]
      by_cases k3:2048<=b.toNat % 16*4096+c.toNat % 64*64+d.toNat % 64/\Um (b.toNat % 16*4096+c.toNat % 64*64+d.toNat % 64)=true
      ·simp[k2,h1,k3]
      ·simp[Utf8.runeError,k2,h1,k3]
     ·simp[dec,h0,h1,h,k1,k2,Zb,E,Utf8.runeError]
    ·simp[dec,h0,h1,h,k1,Zb,E,Utf8.runeError]
  by_cases E:b.toNat / 8=30
  ·match t with
   | []=>simp[dec,h0,h1,h,E,Utf8.runeError]
   | [c]=>simp[dec,h0,h1,h,E,Utf8.runeError]
   | [c,d]=>simp[dec,h0,h1,h,E,Utf8.runeError]
   |c::d::f::t=>
    have H:∀v:Nat,Utf8.valid (v:Int)=Um v:=by
     intro v;simp only[Utf8.valid,Um];rw[Bool.eq_iff_iff];simp;omega
    by_cases k1:c.toNat / 64=2
    ·by_cases k2:d.toNat / 64=2
     ·by_cases k4:f.toNat / 64=2
      ·simp only[dec,h0,h1,h,E,k1,k2,k4,Zb,if_true,if_false,beq_self_eq_true,Bool.true_and,Bool.and_true,H,List.length_cons,List.getElem?_cons_zero,Option.getD_some]
       by_cases k3:65536<=b.toNat % 8*262144+c.toNat % 64*4096+d.toNat % 64*64+f.toNat % 64/\Um (b.toNat % 8*262144+c.toNat % 64*4096+d.toNat % 64*64+f.toNat % 64)=true
       ·simp[k2,k4,h1,h,k3]
       ·simp[Utf8.runeError,k2,k4,h1,h,k3]
      ·simp[dec,h0,h1,h,E,k1,k2,k4,Zb,Utf8.runeError]
     ·simp[dec,h0,h1,h,E,k1,k2,Zb,Utf8.runeError]
    ·simp[dec,h0,h1,h,E,k1,Zb,Utf8.runeError]
  ·simp[dec,h0,h1,h,E,Utf8.runeError]
theorem Wd (s:ByteArray)(i:Nat)(hi:i<s.size):(Utf8.decode s i).1=(val (s.data.toList.drop i)).getD 0xFFFD:=by
 rw[Fd s i hi];unfold val
 cases dec (s.data.toList.drop i)<;>rfl
theorem Wu (s:ByteArray)(i:Nat)(hi:i<s.size):(Utf8.decode s i).2=wid (s.data.toList.drop i):=by
 rw[Fd s i hi];unfold wid
 cases dec (s.data.toList.drop i)<;>rfl
theorem Qh1 {l:Qx}{v:Nat}(h:val l=some v):v<=0x10FFFF:=by
 unfold val at h
 cases hd:dec l with
 |none=>simp[hd]at h
 |some p=>obtain⟨a,b⟩:=p;simp[hd]at h;subst h;exact Qwk hd
theorem Qpq (l:Qx):(val l).getD 0xFFFD=0xFFFD->(Lib.hasPrefix l [239,191,189]=(val l).isSome):=by
 intro h
 cases hv:val l with
 |none=>
  cases hp:Lib.hasPrefix l [239,191,189] with
  |false=>rfl
  |true=>
   exfalso;obtain⟨t,rfl⟩:=List.isPrefixOf_iff_prefix.1 hp
   simp[val,dec,Zb,Um]at hv
 |some v=>
  have h':v=0xFFFD:=by simpa [hv] using h
  subst h';simp only[Option.isSome_some];unfold val at hv;unfold dec at hv;split at hv
  ·simp at hv
  ·rename_i b t
   split at hv
   ·simp at hv;omega
   split at hv
   ·split at hv
    ·split at hv
     ·simp at hv;omega
     ·simp at hv
    ·simp at hv
   split at hv
   ·split at hv
    ·rename_i c d r
     split at hv
     ·rename_i k
      simp only[Bool.and_eq_true,Zb,beq_iff_eq]at k;simp at hv
      have E:b.toNat=239:=by have:=b.toNat_lt;omega
      have H:c.toNat=191:=by have:=c.toNat_lt;omega
      have I:d.toNat=189:=by have:=d.toNat_lt;omega
      have eb:b=239:=UInt8.toNat_inj.1 E;have ec:c=191:=UInt8.toNat_inj.1 H;have ed:d=189:=UInt8.toNat_inj.1 I;subst eb ec ed;simp[Lib.hasPrefix]
     ·simp at hv
    ·simp at hv
   split at hv
   ·split at hv
    ·split at hv
     ·rename_i k
      simp only[Bool.and_eq_true,decide_eq_true_eq]at k;simp at hv;omega
     ·simp at hv
    ·simp at hv
   ·simp at hv
end LexP
namespace NatP
def UU:Nat:=10000000000000000000
theorem Qk0:UU=10^19:=rfl
theorem P4:0<UU:=by unfold UU;omega
theorem Qmd:UU<BB:=by unfold UU BB;omega
def prt (N i:Nat):Nat:=N / UU^i % UU
def prts (N k:Nat):List Nat:=(List.range k).map (prt N)
theorem Qv8 (N k:Nat):prts N (k+1)=prts N k++[prt N k]:=by simp[prts,List.range_succ]
theorem Qge {N k i:Nat}(h:i<k):(prts N k)[i]?=some (prt N i):=by simp[prts,h]
theorem Qx3 (N i:Nat):prt N i<UU:=Nat.mod_lt _ P4
theorem An (N k:Nat):N / UU^(k+1)=N / UU^k / UU:=by rw[Nat.pow_succ,Nat.div_div_eq_div_mul]
theorem Nf (N k:Nat):N / UU^k=N / UU^(k+1)*10^19+prt N k:=by
 rw[An,prt,<-Qk0,Nat.mul_comm];exact(Nat.div_add_mod _ _).symm
theorem Qm2 (L:Nat):BB^L<=UU^(2*L):=by
 rw[Nat.pow_mul];exact Nat.pow_le_pow_left (by unfold BB UU;decide) L
theorem Nb {N k L:Nat}(hN:N<BB^L)(h:0<N / UU^k):k<2*L:=by
 have E:UU^k<=N:=(Nat.div_pos_iff.1 h).2;have H:UU^k<UU^(2*L):=Nat.lt_of_le_of_lt E (Nat.lt_of_lt_of_le hN (Qm2 L));exact(Nat.pow_lt_pow_iff_right (by unfold UU;omega)).1 H
theorem Ac (w:Nat):pad 0 w=List.replicate w 0:=by unfold pad;rw[Wq];simp
theorem Qgu {N k w:Nat}(h:0<N / UU^(k+1)):pad (N / UU^k) (w-19*k)=pad (N / UU^(k+1)) (w-19*(k+1))++pad (prt N k) 19:=by
 have E:prt N k<10^19:=Qx3 N k;rw[Nf N k,Ez h E,Qyh E,show w-19*k-19=w-19*(k+1) from by omega]
theorem Qgl {N k w:Nat}(h:N / UU^(k+1)=0):pad (N / UU^k) (w-19*k)=pad (N / UU^(k+1)) (w-19*(k+1))++pad (prt N k) (min (w-19*k) 19):=by
 have E:prt N k<10^19:=Qx3 N k;have e:=Nf N k;rw[h,Nat.zero_mul,Nat.zero_add]at e;rw[h,Ac,e];have H:=Ud E;unfold pad;rw[<-List.append_assoc];congr 1;rw[List.replicate_append_replicate];congr 1;omega
theorem D7 (n w:Nat):(pad n w).length=max w (dg n).length:=by
 unfold pad;rw[List.length_append,List.length_replicate];omega
theorem Wp {n L:Nat}(h:n<BB^L):(dg n).length<=20*L:=by
 refine Ud (Nat.lt_of_lt_of_le h ?_);rw[Nat.pow_mul];exact Nat.pow_le_pow_left (by unfold BB;decide) L
end NatP
namespace LexP
theorem Mx (t:Qx):Xx (none,t)=false:=by simp[Xx,kd]
theorem Ml:∀(a b:Qx),(Qz a).all Xx=true->Qz (a++b)=Qz a++Qz b:=by
 intro a b;revert a;apply Ww
 ·intro _;simp[Ye]
 ·intro l K ih h
  have H:=Zq K;rw[H]at h;simp only[List.all_cons,Bool.and_eq_true]at h
  cases hd:dec l with
  |none=>simp[val,hd,Mx]at h
  |some p=>
   obtain⟨v,n⟩:=p
   have J:wid l=n:=by simp[wid,hd]
   have I:=Wy hd;have E:=U6 (K0 hd b);rw[List.drop_append_of_le_length I.2.1,List.take_append_of_le_length I.2.1]at E;rw[E,H,J];rw[J]at ih h;rw[ih h.2];simp[val,hd]
theorem W9 {g:UInt8}(hg:g.toNat<0x80)(b:Qx):Qz (g::b)=(some g.toNat,[g])::Qz b:=by
 have h:dec (g::b)=some (g.toNat,1):=by simp[dec,hg]
 rw[U6 h];rfl
end LexP
namespace LexP
def Qya:Res->List Tok| .ok l=>l| .error _=>[]
def resCol:Res->Nat| .ok _=>0| .error e=>e.1
def resErr:Res->Nat| .ok _=>0| .error e=>e.2
theorem Zm {p:C->Bool}(l:List C):∀c∈l.take (Qg p l),p c=true:=by
 have H:l.take (Qg p l)=l.takeWhile p:=by
  unfold Qg
  induction l with
  |nil=>rfl
  |cons d l ih=>
   by_cases h:p d=true
   ·simp[h,ih]
   ·simp[h]
 intro c E;rw[H]at E
 have:∀(l:List C),∀c∈l.takeWhile p,p c=true:=by
  intro l
  induction l with
  |nil=>intro c E;simp at E
  |cons d l ih=>
   intro c E;rw[List.takeWhile_cons]at E;split at E
   ·rename_i h
    rcases List.mem_cons.1 E with rfl|E
    ·exact h
    ·exact ih c E
   ·simp at E
 exact this l c E
theorem Kg {P:Nat->List C->Res->Prop}(h0:∀col,P col [] (.ok []))
  (hblank:∀col c A,kd c=1->P (col+1) A (Toks (col+1) A)->P col (c::A) (Toks (col+1) A))
  (hhash:∀col c A,kd c=2->P col (c::A) (if Qg Xx (c::A)<(c::A).length then .error (col+Qg Xx (c::A),12) else .ok []))
  (herr:∀col c A e,kd c≠1->kd c≠2->0<e->P col (c::A) (.error (col,e)))
  (htok:∀col c A n k t,kd c≠0->kd c≠1->kd c≠2->1<=n->n<=(c::A).length->(∀d∈(c::A).take n,Xx d=true)->
   P (col+n) ((c::A).drop n) (Toks (col+n) ((c::A).drop n))->P col (c::A) ((Toks (col+n) ((c::A).drop n)).after [(k,t,col)])):
  ∀A col,P col A (Toks col A):=by
 have J:∀n A col,A.length<=n->P col A (Toks col A):=by
  intro n
  induction n with
  |zero=>
   intro A col K;obtain rfl:A=[]:=List.eq_nil_of_length_eq_zero (by omega)
   exact h0 col
  |succ n ih=>
   intro A col K
   cases A with
   |nil=>exact h0 col
   |cons c A=>
    simp only[List.length_cons]at K;have O:=Pk c;by_cases k0:kd c=0
    ·rw[Vl _ k0];exact herr _ _ _ _ (by omega) (by omega) (by omega)
    by_cases k1:kd c=1
    ·rw[Y8 _ k1];exact hblank _ _ _ k1 (ih A _ (by omega))
    by_cases k2:kd c=2
    ·rw[Jf _ k2];exact hhash _ _ _ k2
    by_cases k3:kd c=3
    ·have H:=Xy (p:=Q7) (c:=c) (cs:=A) (by simp[Q7,k3])
     have I:=Zg Q7 (c::A);rw[Ji _ k3];split
     ·exact herr _ _ _ _ k1 k2 (by omega)
     ·refine htok _ _ _ _ _ _ k0 k1 k2 H I ?_ (ih _ _ (by simp only[List.length_drop,List.length_cons];omega))
      intro d E;have:=Zm _ d E;unfold Q7 at this;unfold Xx;simp only[Bool.or_eq_true,beq_iff_eq]at this;rcases this with h|h
      ·simp[h]
      ·unfold rn at h;unfold kd
       split at h
       ·rename_i v T
        have:=(Hm v).1;simp;omega
       ·omega
    by_cases k4:kd c=4
    ·have H:=Xy (p:=isAl) (c:=c) (cs:=A) (by simp[isAl,k4])
     have I:=Zg isAl (c::A);rw[Zw _ k4];split
     ·exact herr _ _ _ _ k1 k2 (by omega)
     ·refine htok _ _ _ _ _ _ k0 k1 k2 H I ?_ (ih _ _ (by simp only[List.length_drop,List.length_cons];omega))
      intro d E;have:=Zm _ d E;unfold isAl at this;unfold Xx;simp only[Bool.or_eq_true,beq_iff_eq]at this
      rcases this with h|h<;>simp[h]
    by_cases k5:kd c=5
    ·rw[Z2 _ k5]
     have:=htok col c A 1 3 (Z7 c) k0 k1 k2 (Nat.le_refl _) (by simp) (by intro d E;simp at E;subst E;simp[Xx,k5]);simp only[List.drop_succ_cons,List.drop_zero]at this;exact this (ih A _ (by omega))
    ·have k6:kd c=6:=by omega
     rw[Zs _ k6];exact herr _ _ _ _ k1 k2 (by omega)
 exact fun A col=>J _ A col (Nat.le_refl _)
theorem Uh:∀A col e,Toks col A=.error e->0<e.2/\col<=e.1/\e.1<=col+A.length:=by
 refine Kg (P:=fun col A r=> ∀e,r=.error e->0<e.2/\col<=e.1/\e.1<=col+A.length) ?_ ?_ ?_ ?_ ?_
 ·intro col e h;cases h
 ·intro col c A _ ih e h
  have:=ih e h;simp only[List.length_cons];omega
 ·intro col c A _ e h
  split at h
  ·have:=Zg Xx (c::A)
   cases h
   simp only;omega
  ·cases h
 ·intro col c A x _ _ I e h
  cases h;simp only[List.length_cons];omega
 ·intro col c A n k t _ _ _ H E _ ih e h
  cases hr:Toks (col+n) ((c::A).drop n) with
  |ok l=>rw[hr]at h;cases h
  |error x=>
   rw[hr]at h;simp only[Res.after]at h;have:=ih e (by rw[hr];exact h);simp only[List.length_drop,List.length_cons]at this E ⊢;omega
theorem W7:∀A col l,Toks col A=.ok l->l.length<=A.length/\ ∀t∈l,col<=t.2.2/\t.2.2<col+A.length:=by
 refine Kg (P:=fun col A r=> ∀l,r=.ok l->l.length<=A.length/\ ∀t∈l,col<=t.2.2/\t.2.2<col+A.length) ?_ ?_ ?_ ?_ ?_
 ·intro col l h;cases h;simp
 ·intro col c A _ ih l h
  obtain⟨I,H⟩:=ih l h;simp only[List.length_cons];exact⟨by omega,fun t ht=>by have:=H t ht;omega⟩
 ·intro col c A _ l h
  split at h
  ·cases h
  ·cases h;simp
 ·intro col c A x _ _ E l h;cases h
 ·intro col c A n k t _ _ _ I H _ ih l h
  cases hr:Toks (col+n) ((c::A).drop n) with
  |error x=>rw[hr]at h;cases h
  |ok m=>
   rw[hr]at h;simp only[Res.after,Except.ok.injEq]at h;obtain⟨g1,g2⟩:=ih m hr;simp only[List.length_drop,List.length_cons]at g1 g2 H ⊢;subst h;refine⟨by simp;omega,fun x E=> ?_⟩;simp only[List.singleton_append,List.mem_cons]at E;rcases E with rfl|E
   ·simp only;omega
   ·have:=g2 x E;omega
end LexP
namespace LexP
def badV (v m:Nat):Bool:=v<m||0x10ffff<v||(0xd800<=v && v<=0xdfff)
def fin (v m n:Nat):Option (Nat×Nat):=if badV v m then none else some (v,n)
end LexP
namespace LexP
end LexP
