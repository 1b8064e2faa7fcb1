/- Joined texts of this claim's proof: DivI, DivQ, DivJ. -/
import Derived.Test.YtgfmiladfeoldaaGreatDoorPk8
import Derived.IntWalk
import Derived.Test.YtgfmiladfeoldaaGreatDoorPk1
set_option linter.unusedSimpArgs false
set_option linter.unusedVariables false
set_option maxRecDepth 100000
set_option maxHeartbeats 16000000
namespace Go.Proofs.YtgfmiladfeoldaaGreatDoor
open Go.RowKit NatP
def shrW (L:List Nat)(s t i:Nat):Nat:=L.getD i 0 / 2^s+L.getD (i+1) 0*2^t % BB
theorem Qp2 {L:List Nat}{s t i:Nat}(hL:ok L)(hst:s+t=64):shrW L s t i<BB/\L.getD i 0 / 2^s<2^t/\(L.getD (i+1) 0*2^t % BB) % 2^t=0:=by
 have E:BB=2^t*2^s:=by rw[<-Nat.pow_add,show t+s=64 from by omega];rfl
 have I:0<2^s:=Nat.pow_pos (by omega);have a0:0<2^t:=Nat.pow_pos (by omega)
 have O:L.getD i 0<BB:=by
  rw[List.getD_eq_getElem?_getD]
  cases h:L[i]? with
  |none=>exact Xn
  |some x=>exact hL x (List.mem_of_getElem? h)
 have Z:L.getD i 0 / 2^s<2^t:=by rw[Nat.div_lt_iff_lt_mul I,<-E];exact O
 have J:(L.getD (i+1) 0*2^t % BB) % 2^t=0:=by
  rw[E,Nat.mul_comm (2^t) (2^s),Nat.mul_mod_mul_right,Nat.mul_mod_left]
 refine⟨?_,Z,J⟩;have H:L.getD (i+1) 0*2^t % BB<BB:=Nat.mod_lt _ Xn;unfold shrW;obtain⟨q,K⟩:=Nat.dvd_of_mod_eq_zero J;rw[K,E]at H;rw[K,E];have T:=Nat.lt_of_mul_lt_mul_left H;have U:2^t*(q+1)<=2^t*2^s:=Nat.mul_le_mul_left _ T;rw[Nat.mul_add,Nat.mul_one]at U;omega
theorem Qyd {y s t:Nat}(hst:s+t=64):y*2^t % BB=2^t*(y % 2^s):=by
 have h:BB=2^t*2^s:=by rw[<-Nat.pow_add,show t+s=64 from by omega];rfl
 rw[h,Nat.mul_comm y,Nat.mul_mod_mul_left]
theorem Qp4 {s t:Nat}(hst:s+t=64):∀(L M:List Nat),M.length=L.length->(∀i,i<L.length->M[i]?=some (shrW L s t i))->2^s*val M+L.getD 0 0 % 2^s=val L:=by
 have K:BB=2^s*2^t:=by rw[<-Nat.pow_add,hst];rfl
 intro L
 induction L with
 |nil=>intro M h _;rw[List.eq_nil_of_length_eq_zero h];simp[val]
 |cons x L ih=>
  intro M h J
  cases M with
  |nil=>simp at h
  |cons m M=>
   have E:=ih M (by simpa using h) (fun i hi=>by
    have:=J (i+1) (by simpa using hi)
    simpa [shrW] using this)
   have H:=J 0 (by simp);simp only[List.getElem?_cons_zero,shrW,List.getD_cons_zero,Option.some.injEq,Nat.zero_add,List.getD_cons_succ]at H;rw[Qyd hst]at H;show 2^s*(m+BB*val M)+x % 2^s=x+BB*val L;have I:=Nat.div_add_mod x (2^s);rw[<-E,H];generalize x / 2^s=a at*;generalize x % 2^s=b at*;generalize L.getD 0 0 % 2^s=c at*;rw[<-I,Nat.mul_add,Nat.mul_add,Nat.mul_add,<-Nat.mul_assoc (2^s) (2^t) c,<-K,Nat.mul_left_comm BB (2^s) (val M)];omega
theorem Qps {s t:Nat}(hst:s+t=64){L M:List Nat}(hl:M.length=L.length)(hM:∀i,i<L.length->M[i]?=some (shrW L s t i)):val M=val L / 2^s:=by
 have E:0<2^s:=Nat.pow_pos (by omega);have h:=Qp4 hst L M hl hM;have H:=Nat.mod_lt (L.getD 0 0) E;rw[<-h,Nat.mul_add_div E,Nat.div_eq_of_lt H,Nat.add_zero]
theorem Qv7 (x y i:Nat)(hx:x<18446744073709551616)(hd:x % 2^i=0)(hy:y<2^i)(hy2:y<18446744073709551616):bits BinOp.or IntKind.u64 (y:Int) (x:Int)=((y+x:Nat):Int):=by
 have h:=Dq x y i hx hd hy hy2;rw[bits_or_u64_nat x y hx hy2,Nat.or_comm,<-bits_or_u64_nat y x hy2 hx]at h;rw[h,Nat.add_comm]
def Qkf (L:List Nat)(s t n g:Nat)(w1:World)(i:Value)(wr:World):Prop:=∃(k:Nat) (M:List Nat),k<=n/\i=.int .i64 (k:Nat)/\M.length=n/\(∀i,i<k->M[i]?=some (shrW L s t i))/\Blk wr g M/\w1.grownBy wr (some g)
theorem Bj {M:List Nat}{k x:Nat}{f:Nat->Nat}(h:∀i,i<k->M[i]?=some (f i))(hk:k<M.length)(hx:x=f k):∀i,i<k+1->(M.set k x)[i]?=some (f i):=by
 intro i E;by_cases e:i=k
 ·subst e;rw[List.getElem?_set_self hk,hx]
 ·rw[List.getElem?_set_ne (by omega)];exact h i (by omega)
def Qpp (V m:Nat)(w:World)(e:Ending)(w':World):Prop:=∃v xs,e=.returned (.tuple #[v,.int .i64 0])/\Fr w.heap.size w' v xs/\val xs=V/\xs.length<=m/\Qw xs=xs/\Below w.heap.size w w'
theorem Qpc (v:Value)(xs:List Nat)(s:Nat)(w:World)(hv:Rd w v xs)(hs:s<64)(hl:xs.length<=1099511627776):
  Calls Tryz.prog 283 #[v,.int .i64 (s:Nat)] w (Qpp (val xs / 2^s) xs.length w):=by
 have HV:=zq hv;obtain⟨ao,cap,rfl,hnc,hcm,hok,-⟩:=hv.2;have HOK:=zq hok;obtain⟨X,hX⟩:=xq (Qw xs)
 have hXx:∀(i x:Nat),X[i]?=some x->xs[i]?=some x:=by
  intro i x h;rw[hX,(X9 xs).1,List.getElem?_take]at h;split at h
  ·exact h
  ·cases h
 obtain⟨n,hn⟩:=xq X.length
 have hnl:n<=xs.length:=by rw[hn,hX];exact Qf xs
 have hvX:val X=val xs:=by rw[hX,Ql]
 have hokX:ok X:=by rw[hX];exact Vm hok
 obtain⟨t,ht⟩:=xq (64-s)
 have hst:s+t=64:=by omega
 have E0:(s:Int) / 64=0:=by omega
 have hsn:decide ((s:Int)<0)=false:=by simp
 have E0b:(s:Int) % 64=(s:Int):=by omega
 have E1:IntKind.u64.wrap (64-(s:Int))=(t:Int):=by rw[IntKind.wrap_u64];omega
 have E1b:IntKind.u64.wrap (s:Int)=(s:Int):=Vb _ (by omega)
 have E2:min s 64=s:=by omega
 have E3:min t 64=t:=by omega
 have HX:=zq hX;have HN:=zq hn;have HVX:=zq hvX;have HOKX:=zq hokX;have HXX:=zq hXx
 have hcap:cap<=9223372036854775807:=by unfold maxLen at hcm;omega
 clear hv hok hcm hX hn hvX hokX hXx ht;by_cases h0:n=0
 ·have hv0:val xs / 2^s=0:=by
   have hX0:X=[]:=List.eq_nil_of_length_eq_zero (by rw[<-HN.o];exact h0);rw[<-HVX.o,hX0];simp[val]
  have HV0:=zq hv0;subst h0;clear hv0;go_enter Tryz.func283,Tryz.ntmps283;go_wp2_with fail;refine(X8 _ xs _ HV.o).mono ?_;rintro e w' ⟨rfl,rfl⟩;rw[<-HX.o,<-HN.o];go_wp2_with fail;go_ret2;exact⟨_,[],rfl,⟨Rd.nil w,fun k hk=>by cases hk⟩,by rw[HV0.o];rfl,Nat.zero_le _,rfl,Below.refl _ _⟩
 ·have hn1:1<=n:=by omega
  have HMK:=Zq n (by omega);obtain⟨g,hg⟩:=xq w.heap.size;obtain⟨w1,hw1⟩:=xq (w.alloc (.cells (madeCells #[.int .u64 0] n) 101))
  have HBL:Hid (Below w.heap.size w w1):=by rw[hw1];exact Qq w _
  have HB1:Hid (Blk w1 g (List.replicate n 0)):=by rw[hw1,hg];exact Blk.made w n
  have HG:=zq hg;have HW1:=zq hw1;clear hg hw1;go_enter Tryz.func283,Tryz.ntmps283;go_wp2_with fail;refine(X8 _ xs _ HV.o).mono ?_;rintro e w' ⟨rfl,rfl⟩;rw[<-HX.o,<-HN.o];go_wp2_with fail;rw[<-HW1.o,<-HG.o];clear E0b;go_loopw [29] (fun i wr=>Qkf X s t n g w1 i wr) (fun i _=>n-(intOf i).toNat)
  case atStart=>exact⟨0,_,Nat.zero_le _,rfl,List.length_replicate,fun i hi=>by omega,HB1.o,X1 _ _⟩
  clear HB1
  case round=>
   obtain⟨k,M,hk,rfl,hml,hst2,hM,hgr⟩:=hrel;have HST:=zq hst2;have HM:=zq hM;have HGR:=zq hgr;have HML:=zq hml;clear hst2 hM hgr hml;have HWB:Hid (Below w.heap.size w wr):=HBL.o.trans (Wi HGR.o HBL.o.size (by rw[HG.o];exact Nat.le_refl _));by_cases hlt:k<n
   ·obtain⟨z,hz⟩:∃z,M[k]?=some z:=⟨_,List.getElem?_eq_getElem (by rw[HML.o];exact hlt)⟩
    obtain⟨x,hx⟩:∃x,X[k]?=some x:=⟨_,List.getElem?_eq_getElem (by rw[<-HN.o];exact hlt)⟩;have e4:=HM.o.cell hz;have e3:=HM.o.frozen k;have hxb:=HOKX.o x (List.mem_of_getElem? hx);obtain⟨ao',cap',e,-,-,-,hsh⟩:=(HV.o.below HWB.o).2
    cases e
    obtain⟨g2,o2,rfl,e5⟩:=hsh k x (HXX.o k x hx)
    have hg2:g2<g:=by rw[HG.o];exact HV.o.1 g2 rfl
    obtain⟨a,ha⟩:=xq (x / 2^s)
    have hab:a<BB:=by rw[ha];exact Nat.lt_of_le_of_lt (Nat.div_le_self _ _) hxb
    have F1:(x:Int) / 2^s=(a:Int):=by rw[ha,Int.natCast_ediv,Int.natCast_pow];rfl
    have HS:=zq (HM.o.set k hab);have HA:=zq ha;have HX1:=zq hx;have hi0:(0:Int)<=(k:Int):=Int.natCast_nonneg _
    have hi1:(k:Int)<(n:Int):=by omega
    have hi2:(k:Int)<(xs.length:Int):=by omega
    have HSH:=zq hsh;clear hsh hx hxb ha hab hz;by_cases hin:k+1<n
    ·obtain⟨y,hy⟩:∃y,X[k+1]?=some y:=⟨_,List.getElem?_eq_getElem (by rw[<-HN.o];exact hin)⟩
     obtain⟨g3,o3,e,e6⟩:=HSH.o (k+1) y (HXX.o (k+1) y hy)
     cases e
     obtain⟨b,hb⟩:=xq (y*2^t % BB)
     have F2:IntKind.u64.wrap ((y:Int)*2^t)=(b:Int):=by
      have e:((y:Int)*2^t)=((y*2^t:Nat):Int):=by rw[Int.natCast_mul,Int.natCast_pow];rfl
      rw[e,IntKind.wrap_u64,hb];rfl
     obtain⟨h1,h2,h3⟩:=Qp2 (i:=k) HOKX.o hst
     have hg0:X.getD k 0=x:=by rw[List.getD_eq_getElem?_getD,HX1.o];rfl
     have hg1:X.getD (k+1) 0=y:=by rw[List.getD_eq_getElem?_getD,hy];rfl
     have hsw:shrW X s t k=a+b:=by unfold shrW;rw[hg0,hg1,<-HA.o,<-hb]
     rw[hg0,<-HA.o]at h2;rw[hg1,<-hb]at h3
     have hbb:b<BB:=by rw[hb];exact Nat.mod_lt _ Xn
     have hab:a<BB:=Nat.lt_of_le_of_lt (Nat.le_add_right a b) (by rw[<-hsw];exact h1);have F3:bits BinOp.or IntKind.u64 (a:Int) (b:Int)=((a+b:Nat):Int):=Qv7 b a t hbb h3 h2 hab;obtain⟨c,hc⟩:=xq (a+b);rw[<-hc]at F3 hsw;rw[hsw]at h1;have e7:(wr.setCell ⟨g,k,none⟩ (.int .u64 (a:Nat))).cell? ⟨g,k,none⟩=some (.int .u64 (a:Nat)):=HS.o.1.cell (by rw[List.getElem?_set_self (by rw[HML.o];exact hlt)]);have e8:(wr.setCell ⟨g,k,none⟩ (.int .u64 (a:Nat))).frozen? ⟨g,k,none⟩=false:=HS.o.1.frozen k;have e9:(wr.setCell ⟨g,k,none⟩ (.int .u64 (a:Nat))).cell? ⟨g2,o2+(k+1),none⟩=some (.int .u64 (y:Nat)):=HS.o.2.cell e6 (by simp;omega);have HS2:=zq (Blk.set (w:=(wr.setCell ⟨g,k,none⟩ (.int .u64 (a:Nat))).drewN 1) HS.o.1 k h1);have HSW:=zq hsw
     have hi3:(k:Int)+1<(n:Int):=by omega
     have hi4:(k:Int)+1<(xs.length:Int):=by omega
     clear hy hb h1 h2 h3 hg0 hg1 hsw hbb hab hc HSH e6 hg2;have W1:IntKind.i64.wrap (k:Int)=(k:Int):=IntWalk.i64_in _ (by omega);have W2:IntKind.i64.wrap ((k:Int)+1)=(k:Int)+1:=IntWalk.i64_in _ (by omega)
     have W3:((k:Int)+1).toNat=k+1:=by omega
     have W4:(0:Int)<=(k:Int)+1:=by omega
     go_wp2_with fail;go_region_law (fail)
     all_goals
      go_wp2_with fail
      have hfin:Qkf X s t n g w1 (.int .i64 ((k:Int)+1)) (((wr.setCell ⟨g,k,none⟩ (.int .u64 (a:Nat))).drewN 1).setCell ⟨g,k,none⟩ (.int .u64 (c:Nat))):=
       ⟨k+1,(M.set k a).set k c,by omega,by go_num,by rw[List.length_set,List.length_set,HML.o],Bj (f:=shrW X s t) (fun i hi=>by rw[List.getElem?_set_ne (by omega)];exact HST.o i hi) (by rw[List.length_set,HML.o];exact hlt) HSW.o.symm,HS2.o.1,Xk (Xk (Xk HGR.o HS.o.2) (Zs _ 1 _)) HS2.o.2⟩
      first|exact⟨hfin,by simp[intOf]<;>omega⟩|exact⟨by (repeat apply Exists.intro);exact⟨hfin,rfl⟩,by simp[intOf]<;>omega⟩
    ·have hi3: ¬((k:Int)+1<(n:Int)):=by omega
     have hsw:shrW X s t k=a:=by
      have hg0:X.getD k 0=x:=by rw[List.getD_eq_getElem?_getD,HX1.o];rfl
      have hg1:X.getD (k+1) 0=0:=by rw[List.getD_eq_getElem?_getD,List.getElem?_eq_none (by rw[<-HN.o];omega)];rfl
      unfold shrW;rw[hg0,hg1,<-HA.o];simp
     have HSW:=zq hsw;clear hsw HSH;go_wp2_with fail
     have hfin:Qkf X s t n g w1 (.int .i64 ((k:Int)+1)) (wr.setCell ⟨g,k,none⟩ (.int .u64 (a:Nat))):=
      ⟨k+1,M.set k a,by omega,by go_num,by rw[List.length_set,HML.o],Bj (f:=shrW X s t) HST.o (by rw[HML.o];exact hlt) HSW.o.symm,HS.o.1,Xk HGR.o HS.o.2⟩
     first|exact⟨hfin,by simp[intOf]<;>omega⟩|exact⟨by (repeat apply Exists.intro);exact⟨hfin,rfl⟩,by simp[intOf]<;>omega⟩
   ·obtain rfl:k=n:=by omega
    have hF:=Qps hst (L:=X) (M:=M) (by rw[HML.o,HN.o]) (fun i hi=>HST.o i (by rw[HN.o];exact hi));rw[HVX.o]at hF;have HF:=zq hF;have hR:=HM.o.whole (by rw[HML.o];omega);rw[HML.o]at hR;have HR:=zq hR;have hsl:=Qf M;rw[HML.o]at hsl;obtain⟨m,hm⟩:=xq ((Qw M).length);rw[<-hm]at hsl;have HMM:=zq hm;have hT:=hR.take (n:=m) (c:=k) (by rw[HML.o];exact hsl) hsl (Nat.le_refl _);rw[hm,<-(X9 M).1,<-hm]at hT;have HT:=zq hT
    have hml2:(Qw M).length<=xs.length:=by omega
    have HML2:=zq hml2;clear hF hR hm hT hml2;go_wp2_with fail;refine(X8 _ M _ HR.o).mono ?_;rintro e w' ⟨rfl,rfl⟩;rw[<-HMM.o];go_wp2_with fail;go_ret2;exact⟨_,Qw M,rfl,⟨HT.o,fun q hq=>by cases hq;exact⟨by rw[HG.o];exact Nat.le_refl _,HM.o.lt⟩⟩,by rw[Ql,HF.o],HML2.o,Y0 M,HWB.o⟩
end Go.Proofs.YtgfmiladfeoldaaGreatDoor
namespace NatP
abbrev mid (M:List Nat)(o n:Nat):List Nat:=(M.drop o).take n
theorem Py {M:List Nat}{o n z:Nat}(h:M[o+n]?=some z):val (mid M o (n+1))=val (mid M o n)+BB^n*z:=by
 have I:o+n<M.length:=(List.getElem?_eq_some_iff.1 h).1
 have H:n<(M.drop o).length:=by rw[List.length_drop];omega
 rw[mid,Xi H];have E:=List.getElem?_eq_getElem H;rw[List.getElem?_drop,h]at E;rw[<-Option.some.inj E]
theorem Wv {l:List Nat}{k x:Nat}(h:l[k]?=some x):val (l.drop k)=x+BB*val (l.drop (k+1)):=by
 have E:k<l.length:=(List.getElem?_eq_some_iff.1 h).1;rw[List.drop_eq_getElem_cons E];have:=List.getElem?_eq_getElem E;rw[h]at this;rw[<-Option.some.inj this];rfl
theorem D7 {M:List Nat}{o n z:Nat}(h:M[o]?=some z):val (mid M o (n+1))=z+BB*val (mid M (o+1) n):=by
 have E:o<M.length:=(List.getElem?_eq_some_iff.1 h).1;unfold mid;rw[List.drop_eq_getElem_cons E];have:=List.getElem?_eq_getElem E;rw[h]at this;rw[<-Option.some.inj this];rfl
theorem Er {M:List Nat}(hM:ok M)(o n:Nat)(h:o+n<=M.length):val (mid M o n)<BB^n:=by
 have:=Ym (Zb (Vs hM o) n);rw[List.length_take,List.length_drop,Nat.min_eq_left (by omega)]at this;exact this
structure LgSt (L V:List Nat) (n k:Nat) (M Q:List Nat):Prop where
 len:M.length=L.length
 low:M.take k=L.take k
 eq:val (L.drop k)=val (Q.drop k)*val V+val (mid M k n)
 lt:val (mid M k n)<val V
theorem LgSt.at {L V M Q:List Nat}{n k z:Nat}(h:LgSt L V n (k+1) M Q)(hz:M[k]?=some z):L[k]?=some z:=by
 have:=congrArg (fun l=>l[k]?) h.low;simp only[List.getElem?_take,Nat.lt_succ_self,if_true]at this;rw[<-this];exact hz
theorem Qkl {L V M Q:List Nat}{n k z u2 u1 u0 v1 v0:Nat}(h:LgSt L V (n+2) (k+1) M Q)(hM:ok M)(hV:ok V)(hVl:V.length=n+2)(hml:k+(n+2)<M.length)(hz:M[k]?=some z)
  (h2:M[k+n+2]?=some u2) (h1:M[k+n+1]?=some u1) (h0:M[k+n]?=some u0) (g1:V[n+1]?=some v1) (g0:V[n]?=some v0) (hv1:0<v1):
  val (mid M k (n+3))<val V*BB/\u2<=v1/\
  val (mid M k (n+3)) / val V<=gq ((u2*BB+u1)*BB+u0) (v1*BB+v0)/\gq ((u2*BB+u1)*BB+u0) (v1*BB+v0)<=val (mid M k (n+3)) / val V+1:=by
 have e1:=D7 (n:=n+2) hz;have Z:z<BB:=hM z (List.mem_of_getElem? hz);have I:=h.lt
 have J:val (mid M k (n+3))<val V*BB:=by
  rw[e1];have:(val (mid M (k+1) (n+2))+1)*BB<=val V*BB:=Nat.mul_le_mul_right _ I;rw[Nat.add_mul,Nat.one_mul,Nat.mul_comm _ BB]at this;omega
 have e2:val (mid M k (n+3))=val (mid M k n)+BB^n*(u0+BB*(u1+BB*u2)):=by
  rw[Py (by rw[show k+(n+2)=k+n+2 from rfl];exact h2),Py (by rw[show k+(n+1)=k+n+1 from rfl];exact h1),Py h0,Nat.pow_succ,Nat.pow_succ];simp only[Nat.mul_add,Nat.mul_assoc,Nat.add_assoc,Nat.pow_succ]
 have e3:val V=val (V.take n)+BB^n*(v0+BB*v1):=by
  have a:=Xb V n (by omega);rw[Wv g0,Wv g1,List.drop_eq_nil_of_le (by omega)]at a
  simpa [val] using a
 have H:val (mid M k n)<BB^n:=Er hM k n (by omega)
 have E:val (V.take n)<BB^n:=by
  have:=Ym (Zb hV n);rw[List.length_take,Nat.min_eq_left (by omega)]at this;exact this
 have e2':val (mid M k (n+3))=((u2*BB+u1)*BB+u0)*BB^n+val (mid M k n):=by
  rw[e2,Nat.mul_comm (BB^n),show u0+BB*(u1+BB*u2)=(u2*BB+u1)*BB+u0 from by rw[Nat.mul_comm BB (u1+BB*u2),Nat.mul_comm BB u2,Nat.add_comm u1,Nat.add_comm]];omega
 have e3':val V=(v1*BB+v0)*BB^n+val (V.take n):=by
  rw[e3,Nat.mul_comm (BB^n),show v0+BB*v1=v1*BB+v0 from by rw[Nat.mul_comm BB v1];omega];omega
 have K:BB<=v1*BB+v0:=by
  have:=Nat.mul_le_mul_right BB hv1;omega
 refine⟨J,?_,Qwf e2' H e3' E J K⟩;refine Nat.le_of_not_lt fun hgt=> ?_;have O:(v1+1)*BB<=u2*BB:=Nat.mul_le_mul_right _ hgt
 have T:(v1*BB+v0+1)*BB<=((u2*BB+u1)*BB+u0):=by
  rw[Nat.add_mul,Nat.one_mul]at O;have U:=hV v0 (List.mem_of_getElem? g0);have:(v1*BB+v0+1)*BB<=(u2*BB+u1)*BB:=Nat.mul_le_mul_right _ (by omega);omega
 have h5:(v1*BB+v0+1)*BB*BB^n<=((u2*BB+u1)*BB+u0)*BB^n:=Nat.mul_le_mul_right _ T
 have h6:val V*BB<=(v1*BB+v0+1)*BB*BB^n:=by
  rw[e3',Nat.mul_right_comm];refine Nat.mul_le_mul_right _ ?_;rw[Nat.add_mul (v1*BB+v0),Nat.one_mul];omega
 omega
theorem Qjc {M:List Nat}{o n R:Nat}(hM:ok M)(hl:o+n<M.length)(hv:val (mid M o (n+1))=R)(hR:R<BB^n):val (mid M o n)=R:=by
 obtain⟨z,h⟩:∃z,M[o+n]?=some z:=⟨_,List.getElem?_eq_getElem hl⟩;rw[Py h]at hv
 have:z=0:=by
  refine Nat.eq_zero_of_not_pos fun hp=> ?_;have:=Nat.mul_le_mul_left (BB^n) hp;omega
 subst this
 simpa using hv
theorem LgSt.step {L V M M' Q:List Nat}{n k z d:Nat}(h:LgSt L V n (k+1) M Q)(hV:ok V)(hVl:V.length=n)(hM':ok M')(hl:M'.length=M.length)(hml:k+n<M.length)(hz:M[k]?=some z)(hk:k<Q.length)
  (hlow:M'.take k=M.take k) (hd:d=val (mid M k (n+1)) / val V) (hR:val (mid M' k (n+1))=val (mid M k (n+1)) % val V):LgSt L V n k M' (Q.set k d):=by
 have O:=h.at hz;have J:0<val V:=Nat.lt_of_le_of_lt (Nat.zero_le _) h.lt;have E:=Nat.mod_lt (val (mid M k (n+1))) J
 have K:val V<BB^n:=by rw[<-hVl];exact Ym hV
 have H:=Qjc hM' (by omega) hR (Nat.lt_trans E K);refine⟨by rw[hl,h.len],?_,?_,by rw[H];exact E⟩
 ·rw[hlow]
  have:=congrArg (List.take k) h.low;rw[List.take_take,List.take_take,Nat.min_eq_left (Nat.le_succ k)]at this;exact this
 ·have e1:(Q.set k d)[k]?=some d:=by rw[List.getElem?_set_self hk]
  rw[Wv O,h.eq,Wv e1,Sc,H];have e2:=D7 (n:=n) hz;have I:=Nat.div_add_mod (val (mid M k (n+1))) (val V);rw[<-hd]at I;generalize val (mid M k (n+1)) % val V=R' at*;generalize val (mid M k (n+1))=U at*;generalize val (mid M (k+1) n)=R at*;generalize val (List.drop (k+1) Q)=q at*;generalize val V=v at*;rw[Nat.mul_add,Nat.add_mul,Nat.mul_comm v d]at*;rw[Nat.mul_assoc];omega
theorem Qp7 {M1 M2:List Nat}{k n U V g c:Nat}(hM1:ok M1)(hM2:ok M2)(hl1:k+(n+1)<=M1.length)(hl2:k+(n+1)<=M2.length)(h1:U / V<=g)(h2:g<=U / V+1)(hV:0<V)(hVT:V<BB^(n+1))(ht:U+BB^(n+1)*1=val (mid M1 k (n+1))+g*V)
  (hg:val (mid M2 k (n+1))+BB^(n+1)*c=val (mid M1 k (n+1))+V):g-1=U / V/\val (mid M2 k (n+1))=U % V:=by
 have E:=Er hM1 k (n+1) hl1;have J:=Er hM2 k (n+1) hl2;rw[Nat.mul_one]at ht;obtain⟨a,b⟩:=Qjx h1 h2 hV E ht;refine⟨a,?_⟩;rw[b]at hg;have I:=Nat.mod_lt U hV;generalize BB^(n+1)=T at*
 have H:c=1:=by
  rcases Nat.lt_trichotomy c 1 with h|h|h
  ·have:c=0:=by omega
   subst this;omega
  ·exact h
  ·have:=Nat.mul_le_mul_left T h
   omega
 subst H;omega
theorem LgSt.fin {L V M Q:List Nat}{n:Nat}(h:LgSt L V n 0 M Q):val Q=val L / val V/\val (M.take n)=val L % val V:=by
 have H:=h.eq;have E:=h.lt;unfold mid at H E;rw[List.drop_zero,List.drop_zero,List.drop_zero]at H;rw[List.drop_zero]at E
 have I:0<val V:=by omega
 rw[H,Nat.mul_comm (val Q)];exact⟨by rw[Nat.mul_add_div I,Nat.div_eq_of_lt E,Nat.add_zero],by rw[Nat.mul_add_mod,Nat.mod_eq_of_lt E]⟩
theorem LgSt.start {L V Q:List Nat}{n k:Nat}(hl:L.length=k+n)(hlt:val (L.drop k)<val V)(hQ:Q.length<=k):LgSt L V n k L Q where
 len:=rfl
 low:=rfl
 eq:=by
  rw[List.drop_eq_nil_of_le hQ];have:mid L k n=L.drop k:=List.take_of_length_le (by rw[List.length_drop];omega);rw[this];simp[val]
 lt:=by
  have:mid L k n=L.drop k:=List.take_of_length_le (by rw[List.length_drop];omega);rw[this];exact hlt
theorem Qmi {x y S m n k:Nat}{L V:List Nat}(hLv:val L=x*S)(hx:x<BB^m)(hLl:L.length=m+1)(hk:k+n=m+1)(hV:val V=y*S)(hS:S<=9223372036854775808)(hn:1<=n)(hVt:9223372036854775808*BB^(n-1)<=val V):val (L.drop k)<val V:=by
 have J:=Xb L k (by omega)
 have I:BB^k*val (L.drop k)<=x*S:=by omega
 have h:x*S<BB^m*9223372036854775808:=by
  have a:x*S<=x*9223372036854775808:=Nat.mul_le_mul_left _ hS;have b:x*9223372036854775808<BB^m*9223372036854775808:=Nat.mul_lt_mul_of_pos_right hx (by omega);omega
 have E:BB^k*(9223372036854775808*BB^(n-1))<=BB^k*val V:=Nat.mul_le_mul_left _ hVt
 have H:BB^k*(9223372036854775808*BB^(n-1))=BB^m*9223372036854775808:=by
  rw[Nat.mul_left_comm,<-Nat.pow_add,show k+(n-1)=m from by omega,Nat.mul_comm]
 exact Nat.lt_of_mul_lt_mul_left (a:=BB^k) (by omega)
end NatP
namespace Go.Proofs.YtgfmiladfeoldaaGreatDoor
open Go.RowKit NatP
def Qwi (a b m n:Nat)(w:World)(e:Ending)(w':World):Prop:=∃v u qs rs,e=.returned (.tuple #[v,u])/\Fr w.heap.size w' v qs/\val qs=a / b/\qs.length<=m/\Qw qs=qs/\Fr w.heap.size w' u rs/\val rs=a % b/\rs.length<=n/\Qw rs=rs/\Below w.heap.size w w'
def Qx2 (L V:List Nat)(n nz gv gu gz:Nat)(w:World)(i:Value)(wr:World):Prop:=∃(k:Nat) (M Q:List Nat),k<=nz/\i=.int .i64 ((k:Int)-1)/\Q.length=nz/\LgSt L V n k M Q/\Blk wr gv V/\Blk wr gu M/\Blk wr gz Q/\Below w.heap.size w wr
theorem Qvn {ys:List Nat}{n top s:Nat}(hok:ok ys)(hl:ys.length=n+1)(ht:ys[n]?=some top)(h1:9223372036854775808<=top*2^s)(h2:top*2^s<18446744073709551616)(hs:s<=63):
  val ys*2^s<BB^(n+1)/\9223372036854775808*BB^n<=val ys*2^s:=by
 have e:=Xb ys n (by omega);rw[Wv ht,List.drop_eq_nil_of_le (by omega)]at e;have e0:val ([]:List Nat)=0:=rfl;rw[e0,Nat.mul_zero,Nat.add_zero]at e;have h:=Ym (Zb hok n);rw[List.length_take,Nat.min_eq_left (by omega)]at h;have H:0<2^s:=Nat.pow_pos (by omega);constructor
 ·have I:BB=2^(64-s)*2^s:=by rw[<-Nat.pow_add,show 64-s+s=64 from by omega];rfl
  have K:top<2^(64-s):=by
   have J:top*2^s<2^(64-s)*2^s:=by rw[<-I];exact h2
   exact Nat.lt_of_mul_lt_mul_right J
  have O:val ys<BB^n*2^(64-s):=by
   have:=Nat.mul_le_mul_left (BB^n) K;rw[Nat.mul_succ]at this;omega
  have E:=Nat.mul_lt_mul_of_pos_right O H;rw[Nat.mul_assoc,<-I]at E;rw[Nat.pow_succ];exact E
 ·rw[e,Nat.add_mul,Nat.mul_assoc,Nat.mul_comm _ (BB^n)]
  have:=Nat.mul_le_mul_left (BB^n) h1;omega
theorem Qk6 {V:List Nat}{n v1:Nat}(hok:ok V)(hl:V.length=n+1)(ht:V[n]?=some v1)(h:9223372036854775808*BB^n<=val V):9223372036854775808<=v1:=by
 have e:=Xb V n (by omega);rw[Wv ht,List.drop_eq_nil_of_le (by omega)]at e;have e0:val ([]:List Nat)=0:=rfl;rw[e0,Nat.mul_zero,Nat.add_zero]at e;have E:=Ym (Zb hok n);rw[List.length_take,Nat.min_eq_left (by omega)]at E;refine Nat.le_of_not_lt fun hlt=> ?_;have:=Nat.mul_le_mul_left (BB^n) hlt;rw[Nat.mul_succ]at this;rw[Nat.mul_comm]at h;omega
theorem Qyi (v u:Value)(xs ys:List Nat)(p:Nat)(w:World)(hv:Rd w v xs)(hu:Rd w u ys)(hyl:ys.length=p+2)(hys:Qw ys=ys)(hlx:ys.length<=xs.length)(hl:xs.length<=274877906944):
  Calls Tryz.prog 256 #[v,u] w (Qwi (val xs) (val ys) (xs.length-ys.length+1) ys.length w):=by
 have HV:=zq hv;have HU:=zq hu;obtain⟨ao,cap,rfl,hnc,hcm,hok,-⟩:=hv.2;obtain⟨bo,cap2,rfl,hnc2,hcm2,hok2,hsh2⟩:=hu.2;have HOK:=zq hok;have HOK2:=zq hok2;obtain⟨top,htop,htop0⟩:=Vv ys (p+1) (by rw[hys,hyl]);rw[hys]at htop;have htb:=hok2 top (List.mem_of_getElem? htop);obtain⟨g2,o2,rfl,e1⟩:=hsh2 (p+1) top htop;obtain⟨nb,hnb,hnb1,hnb2,hy2l,hy2h⟩:=Mb top (by omega) htb;obtain⟨s,hs⟩:=xq (64-nb);rw[<-hs]at hy2l hy2h
 have hs63:s<=63:=by omega
 obtain⟨n,hn⟩:=xq ys.length;obtain⟨m,hm⟩:=xq xs.length;obtain⟨nz,hnq⟩:=xq (m-n+1);obtain⟨mu,hmu⟩:=xq (m+1)
 have hnp:n=p+2:=by omega
 have hmn:n<=m:=by omega
 have hm2:m<=274877906944:=by omega
 have F0:(ys.length:Int)=(n:Int):=by omega
 have F0x:(xs.length:Int)=(m:Int):=by omega
 have F1:(64-(nb:Int))=(s:Int):=by omega
 have F1b:IntKind.u64.wrap (s:Int)=(s:Int):=Vb _ (by omega)
 have F2:((n:Int)-1).toNat=p+1:=by omega
 have F3:(m:Int)-(n:Int)=(nz:Int)-1:=by omega
 have F4:(m:Int)+1=(mu:Int):=by omega
 have hmu2:mu<=274877906945:=by omega
 obtain⟨st1,st2⟩:=Qvn hok2 hyl htop hy2l hy2h hs63
 have HST1:Hid (val ys*2^s<BB^n):=by show _<_;rw[hnp];exact st1
 have HST2:Hid (9223372036854775808*BB^(p+1)<=val ys*2^s):=st2
 have hxfit:val xs*2^s<BB^(m+1):=by
  have a:=Ym hok;rw[<-hm]at a
  have b:2^s<BB:=by
   have:2^s<=2^63:=Nat.pow_le_pow_right (by omega) hs63;unfold BB;omega
  rw[Nat.pow_succ];exact Nat.mul_lt_mul'' a b
 have HXF:=zq hxfit;have HS:=zq hs;have HN:=zq hn;have HM:=zq hm;have HNB:=zq hnb;have HTB:=zq htb;have HYL:=zq hyl;have HNQ:=zq hnq;have HHL:=zq hl;have HNP:=zq hnp;have HMU:=zq hmu
 have hn1:1<=n:=by omega
 have hi1:(0:Int)<=(n:Int)-1:=by omega
 have hi2:(n:Int)-1<(n:Int):=by omega
 have HMK:=Zq nz (by omega);clear hv hu hok hok2 hcm hcm2 hsh2 htop htop0 htb hnb hy2l hy2h hs hyl hys hlx hl hxfit st1 st2 hn hm hnq hnp hmu;go_enter Tryz.func256,Tryz.ntmps256;go_wp2_with fail;refine(Tryz.bits_LeadingZeros64 (top:Int) _ (by omega) (by have:=HTB.o;unfold BB at this;omega)).mono ?_;rintro e w1 ⟨rfl,rfl⟩;rw[Int.toNat_natCast,HNB.o];go_wp2_with fail;refine(R9 _ ys s n _ HU.o (by omega) (by omega) (by have:=HN.o;omega) HST1.o).mono ?_;rintro e w2 ⟨V,rfl,hB2,hVl,hVv,hb2⟩;obtain⟨gv,hgv⟩:=xq w1.heap.size;rw[<-hgv]at hB2 ⊢;have hlv1:gv<w2.heap.size:=hB2.lt
 have hgvB:w1.heap.size<=gv:=by omega
 have HGV:=zq hgv;clear hgv;go_wp2_with fail;refine(R9 _ xs s mu _ (HV.o.below hb2) (by omega) (by omega) (by have:=HM.o;have:=HMU.o;omega) (by rw[HMU.o];exact HXF.o)).mono ?_;rintro e w3 ⟨L,rfl,hB3,hLl,hLv,hb3⟩;obtain⟨gu,hgu⟩:=xq w2.heap.size;rw[<-hgu]at hB3 ⊢
 have hlvu:gv<gu:=by omega
 have hguB:w1.heap.size<=gu:=by have:=hb2.size;omega
 have hlu1:gu<w3.heap.size:=hB3.lt;have HGU:=zq hgu;clear hgu;obtain⟨gz,hgz⟩:=xq w3.heap.size
 have hluz:gu<gz:=by omega
 have HBA:Hid (Below w1.heap.size w1 w3):=hb2.trans (hb3.mono hb2.size);have hz1:=HBA.o.size;have HBV3:Hid (Blk w3 gv V):=hB2.below hb3 hB2.lt;have HBU3:=zq hB3;have HGZ:=zq hgz;have HVL:=zq hVl;have HVV:=zq hVv;have HLL:=zq hLl;have HLV:=zq hLv
 have hgzB:w1.heap.size<=gz:=by omega
 clear hB2 hVl hVv hb2 hB3 hLl hLv hb3 hgz;go_wp2_with fail;rw[<-HGZ.o];obtain⟨w4,hw4⟩:=xq (w3.alloc (.cells (madeCells #[.int .u64 0] nz) 101));have ha:=Qq w3 (.cells (madeCells #[.int .u64 0] nz) 101);rw[<-hw4]at ha
 have HB4:Hid (Qx2 L V n nz gv gu gz w1 (.int .i64 ((nz:Int)-1)) w4):=by
  refine⟨nz,L,List.replicate nz 0,Nat.le_refl _,rfl,List.length_replicate,?_,HBV3.o.below ha HBV3.o.lt,HBU3.o.below ha HBU3.o.lt,?_,HBA.o.trans (ha.mono hz1)⟩
  ·have hk:nz+n=m+1:=by have:=HNQ.o;omega
   have hmu:=HMU.o;refine LgSt.start (by rw[HLL.o,hmu];omega) ?_ (by rw[List.length_replicate];exact Nat.le_refl _);have hx:=Ym HOK.o;rw[<-HM.o]at hx
   have hS:2^s<=9223372036854775808:=by
    have:2^s<=2^63:=Nat.pow_le_pow_right (by omega) hs63;exact this
   exact Qmi (n:=n) HLV.o hx (HLL.o.trans hmu) hk HVV.o hS hn1 (by rw[show n-1=p+1 from by have:=HNP.o;omega,HVV.o];exact HST2.o)
  ·rw[hw4,HGZ.o];exact Blk.made w3 nz
 rw[<-hw4];clear hw4 ha;have HF2:=zq F2;have HF3:=zq F3;have HF1:=zq F1;clear F2 F1 F3 F4 e1;go_loopw [11] (fun i wr=>Qx2 L V n nz gv gu gz w1 i wr) (fun i _=>(intOf i+1).toNat)
 case atStart=>exact HB4.o
 clear HB4
 case round=>
  obtain⟨k,M,Q,hk,rfl,hQl,hst,hBV,hBU,hBQ,hbl⟩:=hrel;have HST:=zq hst;have HBV:=zq hBV;have HBU:=zq hBU;have HBQ:=zq hBQ;have HBL:=zq hbl;have HQL:=zq hQl
  have hml:M.length=mu:=by rw[hst.len,HLL.o]
  have HML:=zq hml;clear hst hBV hBU hBQ hbl hQl hml
  cases k with
  |zero=>
   have hge: ¬((0:Int)<=((0:Nat):Int)-1):=by omega
   obtain⟨r1,r2⟩:=HST.o.fin
   have hnz:nz<=1099511627776:=by have:=HNQ.o;omega
   have hS:0<2^s:=Nat.pow_pos (by omega);obtain⟨b1,b2⟩:=M8 (N:=val xs) (y:=val ys) hS
   have HQV:Hid (val Q=val xs / val ys):=by show _=_;rw[r1,HLV.o,HVV.o,<-b1]
   have HRV:Hid (val (M.take n) / 2^s=val xs % val ys):=by show _=_;rw[r2,HLV.o,HVV.o,<-b2]
   have hnm:n<=mu:=by have:=HMU.o;omega
   have hRM:=(HBU.o.whole (by rw[HML.o];omega));rw[HML.o]at hRM;have HRM:=zq (hRM.take (n:=n) (c:=mu) (by rw[HML.o];exact hnm) hnm (Nat.le_refl _));have hRQ:=(HBQ.o.whole (by rw[HQL.o];omega));rw[HQL.o]at hRQ;have HRQ:=zq hRQ;clear r1 r2 b1 b2 hS hRM hRQ;have i0:(0:Int)<=(n:Int):=Int.natCast_nonneg _
   have i1:(n:Int)<=(mu:Int):=by omega
   go_wp2_with fail;refine(Qpc _ (M.take n) s _ HRM.o (by omega) (by rw[List.length_take,HML.o];omega)).mono ?_;rintro e w5 ⟨rv,rs,rfl,q1,q2,q3,q4,q5⟩;have HBL5:Hid (Below w1.heap.size w1 w5):=HBL.o.trans (q5.mono HBL.o.size);have hz5:=HBL.o.size;have hz6:=HBL5.o.size;have HRQ5:=zq (HRQ.o.below q5);have Q1:=zq q1
   have Q2:Hid (val rs=val xs % val ys):=by show _=_;rw[q2,HRV.o]
   have Q3:Hid (rs.length<=ys.length):=by show _<=_;rw[List.length_take]at q3;have:=HN.o;omega
   have Q4:=zq q4;clear q1 q2 q3 q4 q5;go_wp2_with fail;refine(Jy _ Q _ HRQ5.o (by rw[HQL.o];omega)).mono ?_;rintro e w6 ⟨qv,rfl,p1,p2⟩;have P1:=zq p1;have P2:=zq p2;clear p1 p2;go_wp2_with fail;go_ret2;have hsq:=Qf Q;have hQl:=HQL.o
   refine⟨_,_,Qw Q,rs,rfl,P1.o.mono hz6,by rw[Ql,HQV.o],by have:=HNQ.o;have:=HM.o;have:=HN.o;omega,Y0 Q,(Q1.o.mono hz5).below P2.o,Q2.o,Q3.o,Q4.o,HBL5.o.trans (P2.o.mono hz6)⟩
  |succ k=>
   have hkk:(((k+1:Nat):Int)-1)=(k:Int):=by omega
   rw[hkk];clear hkk
   have hkn:k+n<=m:=by have:=HNQ.o;omega
   have hnp:=HNP.o;have hVlen:=HVL.o;have hMlen:=HML.o;have hmu:=HMU.o;obtain⟨z,hz⟩:∃z,M[k]?=some z:=⟨_,List.getElem?_eq_getElem (by omega)⟩;obtain⟨u2,h2⟩:∃u2,M[k+p+2]?=some u2:=⟨_,List.getElem?_eq_getElem (by omega)⟩;obtain⟨u1,h1⟩:∃u1,M[k+p+1]?=some u1:=⟨_,List.getElem?_eq_getElem (by omega)⟩;obtain⟨u0,h0⟩:∃u0,M[k+p]?=some u0:=⟨_,List.getElem?_eq_getElem (by omega)⟩;obtain⟨v1,k1⟩:∃v1,V[p+1]?=some v1:=⟨_,List.getElem?_eq_getElem (by omega)⟩;obtain⟨v0,k0⟩:∃v0,V[p]?=some v0:=⟨_,List.getElem?_eq_getElem (by omega)⟩;have hu2b:=HBU.o.2 u2 (List.mem_of_getElem? h2);have hu1b:=HBU.o.2 u1 (List.mem_of_getElem? h1);have hu0b:=HBU.o.2 u0 (List.mem_of_getElem? h0);have hv1b:=HBV.o.2 v1 (List.mem_of_getElem? k1);have hv0b:=HBV.o.2 v0 (List.mem_of_getElem? k0);have hv1big:=Qk6 HBV.o.2 (by omega) k1 (by rw[HVV.o];exact HST2.o)
   have hst':LgSt L V (p+2) (k+1) M Q:=by have:=HST.o;rw[hnp]at this;exact this
   obtain⟨G1,G2,G3,G4⟩:=Qkl hst' HBU.o.2 HBV.o.2 (by omega) (by omega) hz h2 h1 h0 k1 k0 (by omega);obtain⟨d,hd⟩:=xq (gq ((u2*BB+u1)*BB+u0) (v1*BB+v0))
   have hdb:d<BB:=by rw[hd];exact Nat.lt_of_le_of_lt (Nat.min_le_left _ _) (Nat.sub_lt Xn Nat.one_pos)
   rw[<-hd]at G3 G4;obtain⟨U,hU⟩:=xq (val (mid M k (n+1)))
   have hU':val (mid M k (p+3))=U:=by rw[hU,hnp]
   rw[hU']at G1 G3 G4;obtain⟨a2,ha2⟩:=xq (k+n);obtain⟨a1,ha1⟩:=xq (k+p+1);obtain⟨a0,ha0⟩:=xq (k+p);obtain⟨n1,hn1'⟩:=xq (p+1)
   have S1:IntKind.i64.wrap ((k:Int)+(n:Int))=(a2:Int):=by rw[IntWalk.i64_in _ (by omega)];omega
   have S1':(k:Int)+(n:Int)=(a2:Int):=by omega
   have S0:IntKind.i64.wrap (a2:Int)=(a2:Int):=IntWalk.i64_in _ (by omega);obtain⟨a3,ha3⟩:=xq (a2+1)
   have S6:(a2:Int)+1=(a3:Int):=by omega
   have S2:IntKind.i64.wrap ((a2:Int)-1)=(a1:Int):=by rw[IntWalk.i64_in _ (by omega)];omega
   have S3:IntKind.i64.wrap ((a2:Int)-2)=(a0:Int):=by rw[IntWalk.i64_in _ (by omega)];omega
   have S4:IntKind.i64.wrap ((n:Int)-1)=(n1:Int):=by rw[IntWalk.i64_in _ (by omega)];omega
   have S5:IntKind.i64.wrap ((n:Int)-2)=(p:Int):=by rw[IntWalk.i64_in _ (by omega)];omega
   have c2:=HBU.o.cell (show M[a2]?=some u2 by rw[ha2,hnp];exact h2);have c1:=HBU.o.cell (show M[a1]?=some u1 by rw[ha1];exact h1);have c0:=HBU.o.cell (show M[a0]?=some u0 by rw[ha0];exact h0);have d1:=HBV.o.cell (show V[n1]?=some v1 by rw[hn1'];exact k1);have d0:=HBV.o.cell k0;have b0:(0:Int)<=(k:Int):=Int.natCast_nonneg _;have b1:(0:Int)<=(a2:Int):=Int.natCast_nonneg _
   have b2:(a2:Int)<(mu:Int):=by omega
   have b3:(0:Int)<=(a1:Int):=Int.natCast_nonneg _
   have b4:(a1:Int)<(mu:Int):=by omega
   have b5:(0:Int)<=(a0:Int):=Int.natCast_nonneg _
   have b6:(a0:Int)<(mu:Int):=by omega
   have b7:(0:Int)<=(n1:Int):=Int.natCast_nonneg _
   have b8:(n1:Int)<(n:Int):=by omega
   have b9:(0:Int)<=(p:Int):=Int.natCast_nonneg _
   have b10:(p:Int)<(n:Int):=by omega
   have HGUESS:Hid (∀w0:World,Calls Tryz.prog 280 #[.int .u64 (u2:Nat),.int .u64 (u1:Nat),.int .u64 (u0:Nat),.int .u64 (v1:Nat),.int .u64 (v0:Nat)] w0 (F7 d w0)):=fun w0=>by rw[hd];exact Qv3 u2 u1 u0 v1 v0 w0 G2 hu1b hu0b (by omega) hv1b hv0b
   have HD:=zq hd;have HDB:=zq hdb;have HU1:=zq hU;have HG1:=zq G1;have HG3:=zq G3;have HG4:=zq G4;have HZ:=zq hz
   have hA2:a2<=m:=by omega
   have HA2:=zq ha2;have HA3:=zq ha3
   have hA3:a3<=mu:=by omega
   clear hmu ha3 hnp hVlen hMlen hz h2 h1 h0 k1 k0 hu2b hu1b hu0b hv1b hv0b hv1big hst' G1 G2 G3 G4 hd hdb hU hU' ha2 ha1 ha0 hn1';go_wp2_with fail;go_quiet ((go_at_call 280;exact Calls.quiet_of (HGUESS.o _)));go_wp2_with fail;obtain⟨wg,hwg⟩:=xq (wr.drewN nq);rw[<-hwg]
   have hbg:Below wr.heap.size wr wg:=by rw[hwg];exact Yx wr nq
   have HWG:=zq hwg;clear hwg;have HBV2:Hid (Blk wg gv V):=HBV.o.below hbg HBV.o.lt;have HBU2:Hid (Blk wg gu M):=HBU.o.below hbg HBU.o.lt;have HBQ2:Hid (Blk wg gz Q):=HBQ.o.below hbg HBQ.o.lt;have HBL2:Hid (Below w1.heap.size w1 wg):=HBL.o.trans (hbg.mono HBL.o.size);have hsz2:=HBL2.o.size
   have e3:a3-k=V.length+1:=by have:=HVL.o;have:=HA3.o;have:=HA2.o;omega
   have HRV:=zq (HBV2.o.whole (by rw[HVL.o];omega));rw[HVL.o]at HRV;rw[e3];clear c2 c1 c0 d1 d0 hbg
   refine(Qyr gu k (mu-k) d M V _ wg HBU2.o (by rw[HVL.o,HML.o];have:=HA3.o;have:=HA2.o;omega) (by rw[HVL.o];have:=HA3.o;have:=HA2.o;omega) (by rw[HML.o];omega) HRV.o (by simp[Value.ownBlock]<;>omega) HDB.o).mono ?_
   rintro e w5 ⟨lent,M1,rfl,hlent,hB5,l1,l2,l3,heq,hgr⟩;rw[HVL.o]at l3 heq;have HEQ:=zq heq;have HB5:=zq hB5;have HL1:=zq l1;have HL2:=zq l2;have HGR:=zq hgr
   have HBV5:Hid (Blk w5 gv V):=HBV2.o.kept hgr (by simp<;>omega)
   have HBQ5:Hid (Blk w5 gz Q):=HBQ2.o.kept hgr (by simp<;>omega)
   have HBL5:Hid (Below w1.heap.size w1 w5):=Below.grown HBL2.o hgr hsz2 (fun q hq=>by cases hq;exact hguB);clear heq hB5 l1 l2 l3 hgr;obtain⟨q0,hq0⟩:∃q0,Q[k]?=some q0:=⟨_,List.getElem?_eq_getElem (by rw[HQL.o];omega)⟩
   have i0:(k:Int)<(nz:Int):=by omega
   by_cases hl0:lent=0
   ·have hlb:decide (lent≠0)=false:=by simp[hl0]
    obtain⟨r1,r2⟩:=Qyb HG3.o (Nat.lt_of_le_of_lt (Nat.zero_le _) HST.o.lt) (by rw[<-HU1.o]at HEQ;exact HEQ.o) hl0;have HSTN:=zq (HST.o.step (d:=d) HBV.o.2 HVL.o HB5.o.2 HL1.o (by rw[HML.o];have:=HA3.o;have:=HA2.o;omega) HZ.o (by rw[HQL.o];omega) HL2.o (by rw[<-HU1.o];exact r1) (by rw[<-HU1.o];exact r2));have e4:=HBQ5.o.cell hq0;have e5:=HBQ5.o.frozen k;have HSQ:=zq (HBQ5.o.set k HDB.o);clear r1 r2 hq0 hl0;rw[hlb];clear hlb;go_wp2_with fail
    have hfin:Qx2 L V n nz gv gu gz w1 (.int .i64 ((k:Int)-1)) (w5.setCell ⟨gz,k,none⟩ (.int .u64 (d:Nat))):=
     ⟨k,M1,Q.set k d,by omega,rfl,by rw[List.length_set,HQL.o],HSTN.o,HBV5.o.kept HSQ.o.2 (by simp<;>omega),HB5.o.kept HSQ.o.2 (by simp<;>omega),HSQ.o.1,Below.grown HBL5.o HSQ.o.2 HBL5.o.size (fun q hq=>by cases hq;exact hgzB)⟩
    first|exact⟨hfin,by simp[intOf]<;>omega⟩|exact⟨by (repeat apply Exists.intro);exact⟨hfin,rfl⟩,by simp[intOf]<;>omega⟩
   ·have hl1:lent=1:=by omega
    have hlb:decide (lent≠0)=true:=by simp[hl0]
    have HEQ1:Hid (U+BB^(n+1)*1=val (mid M1 k (n+1))+d*val V):=by
     show _=_;have h:=HEQ.o;rw[hl1]at h;rw[HU1.o];exact h
    rw[hlb];clear hlb hl1 hl0 HEQ
    have hd0:0<d:=by
     refine Nat.pos_of_ne_zero fun h0=> ?_;have h1:=HEQ1.o;have h2:=Er HB5.o.2 k (n+1) (by rw[HL1.o,HML.o];have:=HA3.o;have:=HA2.o;omega);rw[h0,Nat.zero_mul]at h1;omega
    obtain⟨d',hd'⟩:=xq (d-1)
    have W1:IntKind.u64.wrap ((d:Int)-1)=(d':Int):=by have:=HDB.o;unfold BB at this;rw[IntKind.wrap_u64];omega
    have hdb':d'<BB:=by have:=HDB.o;omega
    have HDB':=zq hdb';have HD':=zq hd';clear hdb' hd' hd0;go_wp2_with fail;have HRV5:=zq (HBV5.o.whole (by rw[HVL.o];omega));rw[HVL.o]at HRV5
    refine(Qk9 gu k (mu-k) M1 V _ w5 HB5.o (by rw[HVL.o,HL1.o,HML.o];have:=HA3.o;have:=HA2.o;omega) (by rw[HVL.o];have:=HA3.o;have:=HA2.o;omega) (by rw[HL1.o,HML.o];omega) HRV5.o (by simp[Value.ownBlock]<;>omega)).mono ?_
    rintro e w6 ⟨cg,M2,rfl,hB6,l1,l2,l3,heq,hgr⟩;rw[HVL.o]at l3 heq;have hVP:0<val V:=Nat.lt_of_le_of_lt (Nat.zero_le _) HST.o.lt;have hVT:val V<BB^(n+1):=Nat.lt_of_lt_of_le (Ym HBV.o.2) (Nat.pow_le_pow_right Xn (by rw[HVL.o];omega));obtain⟨r1,r2⟩:=Qp7 HB5.o.2 hB6.2 (by rw[HL1.o,HML.o];have:=HA3.o;have:=HA2.o;omega) (by rw[l1,HL1.o,HML.o];have:=HA3.o;have:=HA2.o;omega) HG3.o HG4.o hVP hVT HEQ1.o heq;have HSTN:=zq (HST.o.step (d:=d') HBV.o.2 HVL.o hB6.2 (l1.trans HL1.o) (by rw[HML.o];have:=HA3.o;have:=HA2.o;omega) HZ.o (by rw[HQL.o];omega) (by rw[<-HL2.o];exact l2) (by rw[<-HU1.o,HD'.o];exact r1) (by rw[<-HU1.o];exact r2));have HB6:=zq hB6
    have HBV6:Hid (Blk w6 gv V):=HBV5.o.kept hgr (by simp<;>omega)
    have HBQ6:Hid (Blk w6 gz Q):=HBQ5.o.kept hgr (by simp<;>omega)
    have HBL6:Hid (Below w1.heap.size w1 w6):=Below.grown HBL5.o hgr HBL5.o.size (fun q hq=>by cases hq;exact hguB);have e4:=HBQ6.o.cell hq0;have e5:=HBQ6.o.frozen k;have HSQ:=zq (HBQ6.o.set k HDB'.o);clear r1 r2 hq0 hB6 l1 l2 l3 heq hgr hVP hVT;go_wp2_with fail
    have hfin:Qx2 L V n nz gv gu gz w1 (.int .i64 ((k:Int)-1)) (w6.setCell ⟨gz,k,none⟩ (.int .u64 (d':Nat))):=
     ⟨k,M2,Q.set k d',by omega,rfl,by rw[List.length_set,HQL.o],HSTN.o,HBV6.o.kept HSQ.o.2 (by simp<;>omega),HB6.o.kept HSQ.o.2 (by simp<;>omega),HSQ.o.1,Below.grown HBL6.o HSQ.o.2 HBL6.o.size (fun q hq=>by cases hq;exact hgzB)⟩
    first|exact⟨hfin,by simp[intOf]<;>omega⟩|exact⟨by (repeat apply Exists.intro);exact⟨hfin,rfl⟩,by simp[intOf]<;>omega⟩
end Go.Proofs.YtgfmiladfeoldaaGreatDoor
