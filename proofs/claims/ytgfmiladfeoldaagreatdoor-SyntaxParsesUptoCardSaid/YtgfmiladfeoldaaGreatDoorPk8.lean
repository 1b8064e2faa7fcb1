/- Joined texts of this claim's proof: DivC, DivG, DivH. -/
import Derived.Test.YtgfmiladfeoldaaGreatDoorPk1
import Derived.Test.YtgfmiladfeoldaaGreatDoorPk7
import Derived.Test.YtgfmiladfeoldaaGreatDoorPk5
set_option linter.unusedSimpArgs false
set_option linter.unusedVariables false
set_option maxRecDepth 100000
set_option maxHeartbeats 16000000
namespace Go.Proofs.YtgfmiladfeoldaaGreatDoor
open Go.RowKit NatP
def ShSt (L:List Nat)(S n i c:Nat)(M:List Nat):Prop:=M.length=n/\c<S/\val (M.take i)+BB^i*c=val (L.take i)*S
theorem ShSt.start (L:List Nat){S:Nat}(hS:0<S)(n:Nat):ShSt L S n 0 0 (List.replicate n 0):=⟨List.length_replicate,hS,by simp[val]⟩
theorem ShSt.step {L M:List Nat}{S n i c x c2 lo:Nat}(h:ShSt L S n i c M)(hi:i<n)(hx:(L[i]?=some x)\/(L.length<=i/\x=0))(hs:x*S=c2*BB+lo)(hc:c2<S):ShSt L S n (i+1) c2 (M.set i (lo+c)):=by
 obtain⟨I,J,H⟩:=h;refine⟨by rw[List.length_set,I],hc,?_⟩
 have e1:(M.set i (lo+c)).take (i+1)=M.take i++[lo+c]:=by
  have:=Sn (l:=M) (o:=0) (i:=i) (lo+c) (by omega);rw[List.drop_zero,List.drop_zero,Nat.zero_add]at this;exact this
 have e2:val (L.take (i+1))=val (L.take i)+BB^i*x:=by
  rcases hx with hx|⟨hx,rfl⟩
  ·have E:i<L.length:=(List.getElem?_eq_some_iff.1 hx).1
   rw[Xi E];have:=List.getElem?_eq_getElem E;rw[hx]at this;rw[<-Option.some.inj this]
  ·rw[List.take_of_length_le hx,List.take_of_length_le (by omega)];simp
 rw[e1,Zv,List.length_take,Nat.min_eq_left (by omega),e2,Nat.add_mul,<-H,Nat.mul_assoc,hs];rw[Nat.pow_succ,Nat.mul_add,Nat.mul_add,Nat.mul_assoc,Nat.mul_comm BB c2];omega
theorem ShSt.fin {L M:List Nat}{S n c:Nat}(h:ShSt L S n n c M)(hl:L.length<=n)(hv:val L*S<BB^n):val M=val L*S:=by
 obtain⟨H,I,E⟩:=h;rw[List.take_of_length_le (by omega),List.take_of_length_le hl]at E;exact(T6 E hv).2
theorem Qqb {x s t:Nat}(hx:x<BB)(hst:s+t=64)(hs:s<64):∃lo c2,x*2^s=c2*BB+lo/\lo<BB/\lo % 2^s=0/\c2<2^s/\IntKind.u64.wrap ((x:Int)*2^s)=(lo:Int)/\(x:Int) / 2^t=(c2:Int)/\(s=0->c2=0):=by
 have E:BB=2^t*2^s:=by rw[<-Nat.pow_add,show t+s=64 from by omega];rfl
 have H:0<2^s:=Nat.pow_pos (by omega);have I:0<2^t:=Nat.pow_pos (by omega)
 have e:(x:Int)*2^s=((x*2^s:Nat):Int):=by rw[Int.natCast_mul,Int.natCast_pow];rfl
 have e2:(x:Int) / 2^t=((x / 2^t:Nat):Int):=by rw[Int.natCast_ediv,Int.natCast_pow];rfl
 have J:x*2^s / BB=x / 2^t:=by rw[E];exact Nat.mul_div_mul_right _ _ H
 have h:=Nat.div_add_mod (x*2^s) BB;rw[J,Nat.mul_comm]at h;refine⟨x*2^s % BB,x / 2^t,h.symm,Nat.mod_lt _ Xn,?_,?_,?_,e2,?_⟩
 ·rw[E,Nat.mul_mod_mul_right,Nat.mul_mod_left]
 ·rw[Nat.div_lt_iff_lt_mul I,Nat.mul_comm,<-E];exact hx
 ·rw[e,IntKind.wrap_u64]
  have:((x*2^s % BB:Nat):Int)=((x*2^s:Nat):Int) % (BB:Nat):=Int.natCast_emod _ _;rw[this];rfl
 ·rintro rfl
  have:t=64:=by omega
  subst this;exact Nat.div_eq_of_lt hx
theorem Wi {w1 wr:World}{B g:Nat}(h:w1.grownBy wr (some g))(hB:B<=w1.heap.size)(hg:B<=g):Below B w1 wr:=
 ⟨h.os,h.tape,h.output,h.size,fun k hk=>h.block k (by omega) (fun e=>by cases e;omega)⟩
def Qp6 (V n:Nat)(w:World)(e:Ending)(w':World):Prop:=∃M,e=.returned (.slice (some ⟨w.heap.size,0,none⟩) n n)/\Blk w' w.heap.size M/\M.length=n/\val M=V/\Below w.heap.size w w'
def Qg3 (L:List Nat)(S n g:Nat)(w1:World)(cv i:Value)(wr:World):Prop:=∃(k c:Nat) (M:List Nat),k<=n/\i=.int .i64 (k:Nat)/\cv=.int .u64 (c:Nat)/\ShSt L S n k c M/\Blk wr g M/\w1.grownBy wr (some g)
theorem R9 (v:Value)(xs:List Nat)(s n:Nat)(w:World)(hv:Rd w v xs)(hs:s<64)(hn:n<=1099511627776)(hl:xs.length<=n)(hfit:val xs*2^s<BB^n):
  Calls Tryz.prog 279 #[v,.int .u64 (s:Nat),.int .i64 (n:Nat)] w (Qp6 (val xs*2^s) n w):=by
 have HV:=zq hv;obtain⟨ao,cap,rfl,hnc,hcm,hok,-⟩:=hv.2;have HOK:=zq hok;have HMK:=Zq n hn;obtain⟨g,hg⟩:=xq w.heap.size;have HB:=(Blk.made w n).1;obtain⟨w1,hw1⟩:=xq (w.alloc (.cells (madeCells #[.int .u64 0] n) 101));have HBL:=Qq w (.cells (madeCells #[.int .u64 0] n) 101);rw[<-hw1]at HBL
 have HB1:Hid (Blk w1 g (List.replicate n 0)):=by rw[hw1,hg];exact Blk.made w n
 obtain⟨t,ht⟩:=xq (64-s)
 have hst:s+t=64:=by omega
 have E1:IntKind.u64.wrap (64-(s:Int))=(t:Int):=by rw[IntKind.wrap_u64];omega
 have E2:min s 64=s:=by omega
 have E3:min t 64=t:=by omega
 have HST0:=zq (ShSt.start xs (Nat.pow_pos (n:=s) (show 0<2 by omega)) n);have HFIT:=zq hfit;have HHBL:=zq HBL;have HG:=zq hg;have HW1:=zq hw1;have HT:=zq ht;clear hv hok hcm HB HBL hg hw1 ht hfit;go_enter Tryz.func279,Tryz.ntmps279;go_wp2_with fail;rw[<-HW1.o,<-HG.o];go_loopw [8,15] (fun cv i wr=>Qg3 xs (2^s) n g w1 cv i wr) (fun _ i _=>n-(intOf i).toNat)
 case atStart=>exact⟨0,0,_,Nat.zero_le _,rfl,rfl,HST0.o,HB1.o,X1 _ _⟩
 case round=>
  obtain⟨k,c,M,hk,rfl,rfl,hst2,hM,hgr⟩:=hrel;have HST:=zq hst2;have HM:=zq hM;have HGR:=zq hgr;have hml:M.length=n:=hst2.1;have HML:=zq hml;clear hst2 hM hgr hml;by_cases hlt:k<n
  ·obtain⟨z,hz⟩:∃z,M[k]?=some z:=⟨_,List.getElem?_eq_getElem (by rw[HML.o];exact hlt)⟩
   have e4:=HM.o.cell hz;have e3:=HM.o.frozen k;have hi0:(0:Int)<=(k:Int):=Int.natCast_nonneg _
   have hi1:(k:Int)<(n:Int):=by omega
   clear hz
   have fin:∀x lo c2,((xs[k]?=some x)\/(xs.length<=k/\x=0))->x*2^s=c2*BB+lo->c2<2^s->lo+c<BB->
     Qg3 xs (2^s) n g w1 (.int .u64 (c2:Nat)) (.int .i64 ((k:Int)+1)) (wr.setCell ⟨g,k,none⟩ (.int .u64 ((lo+c:Nat):Int))):=fun x lo c2 h1 h2 h3 h4=>by
    have HS:=HM.o.set k h4;exact⟨k+1,c2,_,by omega,by go_num,rfl,HST.o.step hlt h1 h2 h3,HS.1,Xk HGR.o HS.2⟩
   have sum:∀lo c2 x,lo<BB->lo % 2^s=0->x*2^s=c2*BB+lo->lo+c<BB/\bits BinOp.or IntKind.u64 (lo:Int) (c:Int)=((lo+c:Nat):Int):=fun lo c2 x h1 h2 h3=>by
    have hc:=HST.o.2.1;have hps:0<2^s:=Nat.pow_pos (by omega)
    have h5:lo+c<BB:=by
     have hT:BB=2^t*2^s:=by rw[<-Nat.pow_add,show t+s=64 from by omega];rfl
     obtain⟨q,hq⟩:=Nat.dvd_of_mod_eq_zero h2;rw[hT]at h1 ⊢;rw[hq,Nat.mul_comm]at h1 ⊢;have h6:=Nat.lt_of_mul_lt_mul_right h1;have h7:(q+1)*2^s<=2^t*2^s:=Nat.mul_le_mul_right _ h6;rw[Nat.add_mul,Nat.one_mul]at h7;omega
    exact⟨h5,Dq lo c s h1 h2 hc (by unfold BB at h5;omega)⟩
   by_cases hin:k<xs.length
   ·obtain⟨x,hx⟩:∃x,xs[k]?=some x:=⟨_,List.getElem?_eq_getElem hin⟩
    obtain⟨ao',cap',e,-,-,-,hsh⟩:=(HV.o.below (HHBL.o.trans (Wi HGR.o HHBL.o.size (by rw[HG.o];exact Nat.le_refl _)))).2
    cases e
    obtain⟨g2,o2,rfl,e5⟩:=hsh k x hx;obtain⟨lo,c2,f1,f2,f3,f4,f5,f6,f7⟩:=Qqb (HOK.o x (List.mem_of_getElem? hx)) hst hs;obtain⟨f8,f9⟩:=sum lo c2 x f2 f3 f1;have HFIN:=zq (fin x lo c2 (.inl hx) f1 f4 f8);have HF7:=zq f7
    have hi2:(k:Int)<(xs.length:Int):=by omega
    obtain⟨sm,hsm⟩:=xq (lo+c);rw[<-hsm]at f9 HFIN;clear hsh hx f1 f2 f3 f4 f7 f8 fin sum hsm;by_cases hs0:0<s
    ·have hsb:decide (0<(s:Int))=true:=by simp;omega
     go_wp2_with fail
     exact⟨HFIN.o,by simp[intOf]<;>omega⟩
    ·have hs00:s=0:=by omega
     have hsb:decide (0<(s:Int))=false:=by simp;omega
     obtain rfl:=HF7.o hs00;clear hs00 f6;go_wp2_with fail
     exact⟨HFIN.o,by simp[intOf]<;>omega⟩
   ·have f1:0*2^s=0*BB+0:=by simp
    obtain⟨f8,f9⟩:=sum 0 0 0 Xn (Nat.zero_mod _) f1;have HFIN:=zq (fin 0 0 0 (.inr ⟨by omega,rfl⟩) f1 (Nat.pow_pos (by omega)) f8)
    have f9':bits BinOp.or IntKind.u64 0 (c:Int)=(c:Int):=by
     rw[Nat.zero_add]at f9;exact f9
    rw[Nat.zero_add]at HFIN;have f5:IntKind.u64.wrap (0:Int)=0:=rfl
    have hi2: ¬((k:Int)<(xs.length:Int)):=by omega
    clear f1 f8 f9 fin sum;by_cases hs0:0<s
    ·have hsb:decide (0<(s:Int))=true:=by simp;omega
     go_wp2_with fail
     exact⟨HFIN.o,by simp[intOf]<;>omega⟩
    ·have hsb:decide (0<(s:Int))=false:=by simp;omega
     go_wp2_with fail
     exact⟨HFIN.o,by simp[intOf]<;>omega⟩
  ·obtain rfl:k=n:=by omega
   have HF:=zq (HST.o.fin hl HFIT.o);go_wp2_with fail;go_ret;exact⟨M,by rw[<-HG.o];rfl,by rw[<-HG.o];exact HM.o,HML.o,HF.o,HHBL.o.trans (Wi HGR.o HHBL.o.size (by rw[HG.o];exact Nat.le_refl _))⟩
def Bz (v1 W Q:Nat)(d rr:Value):Prop:=∃dn rn:Nat,d=.int .u64 (dn:Nat)/\rr=.int .u64 (rn:Nat)/\Hid (dn*v1+rn=W)/\Hid (Q<=dn)/\Hid (rn<BB)/\Hid (dn<BB)
structure GDown (v1 W Q dn rn d2 s c:Nat):Prop where
 f1:IntKind.u64.wrap ((dn:Int)-1)=(d2:Int)
 run:∀w:World,(callFunc 286 #[.int .u64 (rn:Nat),.int .u64 (v1:Nat),.int .u64 0]).run Tryz.prog w=.ok (.value (.tuple #[.int .u64 (s:Nat),.int .u64 (c:Nat)])) w
 lt:d2<dn
 way:(((c:Int) !=0)=true/\Q=d2)\/(((c:Int) !=0)=false/\Bz v1 W Q (.int .u64 (d2:Nat)) (.int .u64 (s:Nat)))
theorem Qzc {W u0 v1 v0 Q dn rn:Nat}(hQ:Q=gq (W*BB+u0) (v1*BB+v0))(hv0:v0<BB)(hv1:0<v1)(hv1b:v1<BB)(hi:dn*v1+rn=W)(hr:rn<BB)(hd:dn<BB)(ht:rn*BB+u0<dn*v0):
  ∃d2 s c,GDown v1 W Q dn rn d2 s c:=by
 have U:0<dn:=Nat.pos_of_ne_zero fun h=>by rw[h,Nat.zero_mul]at ht;omega
 have I:=Qgf hi ht hv1;rw[<-hQ]at I;obtain⟨s,c,O,T,E,H⟩:=Zk rn v1 0 hr hv1b (Nat.zero_le _)
 have K:(dn-1)*v1+(rn+v1)=W:=by
  obtain⟨k,rfl⟩:∃k,dn=k+1:=⟨dn-1,by omega⟩;rw[Nat.add_mul,Nat.one_mul]at hi;rw[Nat.add_sub_cancel];omega
 refine⟨dn-1,s,c,?_,H,by omega,?_⟩
 ·unfold BB at hd;rw[IntKind.wrap_u64];omega
 ·by_cases hc0:c=0
  ·subst hc0
   exact .inr ⟨by simp,dn-1,s,rfl,rfl,by show _=_;rw[Nat.mul_zero]at E;rw[show s=rn+v1 from by omega];exact K,I,O,show dn-1<BB by omega⟩
  ·refine .inl ⟨by simp;omega,?_⟩
   have J:c=1:=by omega
   rw[J,Nat.mul_one]at E;rw[hQ];exact Qzy K (by omega) hv0 (by omega) (by rw[<-hQ];exact I) hv1
theorem Cn {W u0 v1 v0 Q dn rn hi lo:Nat}(hQ:Q=gq (W*BB+u0) (v1*BB+v0))(hu0:u0<BB)(hv0:v0<BB)(hv1:0<v1)(hv1b:v1<BB)(hI:dn*v1+rn=W)(hg:Q<=dn)(hr:rn<BB)(hd:dn<BB)
  (hlo:lo<BB) (hp:hi*BB+lo=dn*v0):
  (decide (hi<rn)=true/\Q=dn)\/(decide (hi<rn)=false/\((hi:Int)==(rn:Int))=true/\decide (lo<=u0)=true/\Q=dn)\/
  (decide (hi<rn)=false/\(((hi:Int)==(rn:Int))=false\/(((hi:Int)==(rn:Int))=true/\decide (lo<=u0)=false))/\ ∃d2 s c,GDown v1 W Q dn rn d2 s c):=by
 by_cases h1:hi<rn
 ·refine .inl ⟨by simp[h1],?_⟩
  rw[hQ];refine Ea hI hd ?_ (by rw[<-hQ];exact hg) hv1;rw[<-hp];have:(hi+1)*BB<=rn*BB:=Nat.mul_le_mul_right _ h1;rw[Nat.add_mul,Nat.one_mul]at this;omega
 ·by_cases h2:hi=rn
  ·subst h2
   by_cases h3:lo<=u0
   ·refine .inr (.inl ⟨by simp,by simp,by simp[h3],?_⟩)
    rw[hQ];exact Ea hI hd (by rw[<-hp];omega) (by rw[<-hQ];exact hg) hv1
   ·exact .inr (.inr ⟨by simp,.inr ⟨by simp,by simp[h3]⟩,Qzc hQ hv0 hv1 hv1b hI hr hd (by rw[<-hp];omega)⟩)
  ·refine .inr (.inr ⟨by simp;omega,.inl (by simp;omega),Qzc hQ hv0 hv1 hv1b hI hr hd ?_⟩)
   rw[<-hp];have:(rn+1)*BB<=hi*BB:=Nat.mul_le_mul_right _ (by omega);rw[Nat.add_mul,Nat.one_mul]at this;omega
def F7 (q:Nat)(w:World)(e:Ending)(w':World):Prop:=e=.returned (.int .u64 (q:Nat))/\ ∃k,w'=w.drewN k
theorem Qv3 (u2 u1 u0 v1 v0:Nat)(w:World)(hu2:u2<=v1)(hu1:u1<BB)(hu0:u0<BB)(hv1:0<v1)(hv1b:v1<BB)(hv0:v0<BB):
  Calls Tryz.prog 280 #[.int .u64 (u2:Nat),.int .u64 (u1:Nat),.int .u64 (u0:Nat),.int .u64 (v1:Nat),.int .u64 (v0:Nat)] w (F7 (gq ((u2*BB+u1)*BB+u0) (v1*BB+v0)) w):=by
 obtain⟨W,hW⟩:=xq (u2*BB+u1);rw[<-hW];obtain⟨Q,hQ⟩:=xq (gq (W*BB+u0) (v1*BB+v0));rw[<-hQ];have HQ:=zq hQ;have HW:=zq hW;have HU1:=zq hu1;have HU0:=zq hu0;have HV1:=zq hv1;have HV1B:=zq hv1b;have HV0:=zq hv0;by_cases hge:v1<=u2
 ·obtain⟨s,c,hs,hc,hsum,hrun⟩:=Zk u1 v1 0 hu1 hv1b (Nat.zero_le _)
  have hrun':∀w:World,(callFunc 286 #[.int .u64 (u1:Nat),.int .u64 (v1:Nat),.int .u64 0]).run Tryz.prog w=.ok (.value (.tuple #[.int .u64 (s:Nat),.int .u64 (c:Nat)])) w:=hrun
  have hgeb:decide (v1<=u2)=true:=by simp[hge]
  have he:u2=v1:=by omega
  have hI:(BB-1)*v1+(u1+v1)=W:=by
   rw[hW,he]
   have:v1*BB=(BB-1)*v1+v1:=by
    have h1:BB=BB-1+1:=by have:=Xn;omega
    conv=>lhs;rw[h1,Nat.mul_add,Nat.mul_one,Nat.mul_comm]
   omega
  have htop:Q<=BB-1:=by rw[hQ];exact Qm3
  have HBEL:Hid (∃k,w=w.drewN k):=⟨0,rfl⟩;by_cases hc0:c=0
  ·have hcb:((c:Int) !=0)=false:=by simp[hc0]
   have HST:Hid (Bz v1 W Q (.int .u64 18446744073709551615) (.int .u64 (s:Nat))):=by
    refine⟨BB-1,s,rfl,rfl,?_,htop,hs,?_⟩
    ·show _=_
     rw[hc0,Nat.mul_zero]at hsum;rw[show s=u1+v1 from by omega];exact hI
    ·show _<_
     have:=Xn;omega
   clear hQ hW hu1 hu0 hv1 hv1b hv0 hu2 hge hs hc hsum hrun hc0 he hI htop;go_enter Tryz.func280,Tryz.ntmps280;go_wp2_with fail;go_step3;go_wp2_with fail;go_step3;go_wp2_with fail;go_loopw [11,12] (fun d rr wr=>Bz v1 W Q d rr/\wr=w) (fun d _ _=>(intOf d).toNat)
   case atStart=>exact⟨HST.o,rfl⟩
   clear HST
   case round=>
    obtain⟨⟨dn,rn,rfl,rfl,hi1,hg1,hrn,hdn⟩,rfl⟩:=hrel;obtain⟨hi,lo,hlo,hp,hmul⟩:=Pw dn v0 hdn.o HV0.o;have HC:=zq (Cn HQ.o HU0.o HV0.o HV1.o HV1B.o hi1.o hg1.o hrn.o hdn.o hlo hp);have HMUL:=zq hmul;clear hlo hp hmul;rcases HC.o with ⟨t1,hq⟩|⟨t1,t2,t3,hq⟩|⟨t1,t2|⟨t2,t3⟩,d2,s2,c2,f1,hrun2,hlt,⟨t4,hq⟩|⟨t4,hrel⟩⟩
    ·have HQ2:=zq hq
     clear hq HC;go_wp2_with fail;refine(HMUL.o _).mono ?_;rintro e w9 ⟨rfl,rfl⟩;go_wp2_with fail;rw[Exit.noGoto_ret];go_ret;exact⟨by rw[HQ2.o];rfl,HBEL.o⟩
    ·have HQ2:=zq hq
     clear hq HC;go_wp2_with fail;refine(HMUL.o _).mono ?_;rintro e w9 ⟨rfl,rfl⟩;go_wp2_with fail;rw[Exit.noGoto_ret];go_ret;exact⟨by rw[HQ2.o];rfl,HBEL.o⟩
    ·have HQ2:=zq hq
     clear hq HC hlt;go_wp2_with fail;refine(HMUL.o _).mono ?_;rintro e w9 ⟨rfl,rfl⟩;go_wp2_with fail;rw[Exit.noGoto_ret];go_ret;exact⟨by rw[HQ2.o];rfl,HBEL.o⟩
    ·have HR2:=zq hrel
     clear hrel HC;go_wp2_with fail;refine(HMUL.o _).mono ?_;rintro e w9 ⟨rfl,rfl⟩;go_wp2_with fail
     first|exact⟨⟨HR2.o,trivial⟩,by simp[intOf]<;>omega⟩|exact⟨⟨HR2.o,rfl⟩,by simp[intOf]<;>omega⟩
    ·have HQ2:=zq hq
     clear hq HC hlt;go_wp2_with fail;refine(HMUL.o _).mono ?_;rintro e w9 ⟨rfl,rfl⟩;go_wp2_with fail;rw[Exit.noGoto_ret];go_ret;exact⟨by rw[HQ2.o];rfl,HBEL.o⟩
    ·have HR2:=zq hrel
     clear hrel HC;go_wp2_with fail;refine(HMUL.o _).mono ?_;rintro e w9 ⟨rfl,rfl⟩;go_wp2_with fail
     first|exact⟨⟨HR2.o,trivial⟩,by simp[intOf]<;>omega⟩|exact⟨⟨HR2.o,rfl⟩,by simp[intOf]<;>omega⟩
  ·have hcb:((c:Int) !=0)=true:=by simp;omega
   have HQ2:Hid (Q=18446744073709551615):=by
    show _=_
    have hc1:c=1:=by omega
    rw[hc1,Nat.mul_one]at hsum;have h9:gq (W*BB+u0) (v1*BB+v0)=BB-1:=Qzy hI (Nat.sub_lt Xn Nat.one_pos) hv0 (by omega) (by rw[<-hQ];exact htop) hv1;rw[hQ,h9];rfl
   clear hQ hW hu1 hu0 hv1 hv1b hv0 hu2 hge hs hc hsum hrun hc0 he hI htop;go_enter Tryz.func280,Tryz.ntmps280;go_wp2_with fail;go_step3;go_wp2_with fail;rw[Exit.noGoto_ret];go_ret;exact⟨by rw[HQ2.o];rfl,HBEL.o⟩
 ·have hlt2:u2<v1:=by omega
  have HLT2:=zq hlt2
  have hgeb:decide (v1<=u2)=false:=by simp;omega
  have hWv:W<v1*BB:=by
   rw[hW];have:(u2+1)*BB<=v1*BB:=Nat.mul_le_mul_right _ hlt2;rw[Nat.add_mul,Nat.one_mul]at this;omega
  have HST:Hid (Bz v1 W Q (.int .u64 (W / v1:Nat)) (.int .u64 (W % v1:Nat))):=by
   refine⟨W / v1,W % v1,rfl,rfl,?_,?_,Nat.lt_trans (Nat.mod_lt _ hv1) hv1b,(Nat.div_lt_iff_lt_mul hv1).2 (by rw[Nat.mul_comm];exact hWv)⟩
   ·show _=_
    rw[Nat.mul_comm];exact Nat.div_add_mod W v1
   ·show _<=_
    rw[hQ];exact Qyx hu0 hv1
  obtain⟨q,hq⟩:=xq (W / v1);obtain⟨r,hr⟩:=xq (W % v1);rw[<-hq,<-hr]at HST;have HQE:=zq hq;have HRE:=zq hr;clear hQ hW hu1 hu0 hv1 hv1b hv0 hu2 hge hlt2 hWv hq hr;go_enter Tryz.func280,Tryz.ntmps280;go_wp2_with fail;go_step3;go_wp2_with fail;refine(Qz5 u2 u1 v1 _ HU1.o HLT2.o HV1B.o).mono ?_;rintro e w1 ⟨rfl,hb⟩;rw[<-HW.o,<-HQE.o,<-HRE.o];have HBEL:=zq hb;clear hb;go_wp2_with fail;go_step3;go_wp2_with fail;go_loopw [11,12] (fun d rr wr=>Bz v1 W Q d rr/\wr=w1) (fun d _ _=>(intOf d).toNat)
  case atStart=>exact⟨HST.o,rfl⟩
  clear HST
  case round=>
   obtain⟨⟨dn,rn,rfl,rfl,hi1,hg1,hrn,hdn⟩,rfl⟩:=hrel;obtain⟨hi,lo,hlo,hp,hmul⟩:=Pw dn v0 hdn.o HV0.o;have HC:=zq (Cn HQ.o HU0.o HV0.o HV1.o HV1B.o hi1.o hg1.o hrn.o hdn.o hlo hp);have HMUL:=zq hmul;clear hlo hp hmul;rcases HC.o with ⟨t1,hq⟩|⟨t1,t2,t3,hq⟩|⟨t1,t2|⟨t2,t3⟩,d2,s2,c2,f1,hrun2,hlt,⟨t4,hq⟩|⟨t4,hrel⟩⟩
   ·have HQ2:=zq hq
    clear hq HC;go_wp2_with fail;refine(HMUL.o _).mono ?_;rintro e w9 ⟨rfl,rfl⟩;go_wp2_with fail;rw[Exit.noGoto_ret];go_ret;exact⟨by rw[HQ2.o];rfl,HBEL.o⟩
   ·have HQ2:=zq hq
    clear hq HC;go_wp2_with fail;refine(HMUL.o _).mono ?_;rintro e w9 ⟨rfl,rfl⟩;go_wp2_with fail;rw[Exit.noGoto_ret];go_ret;exact⟨by rw[HQ2.o];rfl,HBEL.o⟩
   ·have HQ2:=zq hq
    clear hq HC hlt;go_wp2_with fail;refine(HMUL.o _).mono ?_;rintro e w9 ⟨rfl,rfl⟩;go_wp2_with fail;rw[Exit.noGoto_ret];go_ret;exact⟨by rw[HQ2.o];rfl,HBEL.o⟩
   ·have HR2:=zq hrel
    clear hrel HC;go_wp2_with fail;refine(HMUL.o _).mono ?_;rintro e w9 ⟨rfl,rfl⟩;go_wp2_with fail
    first|exact⟨⟨HR2.o,trivial⟩,by simp[intOf]<;>omega⟩|exact⟨⟨HR2.o,rfl⟩,by simp[intOf]<;>omega⟩
   ·have HQ2:=zq hq
    clear hq HC hlt;go_wp2_with fail;refine(HMUL.o _).mono ?_;rintro e w9 ⟨rfl,rfl⟩;go_wp2_with fail;rw[Exit.noGoto_ret];go_ret;exact⟨by rw[HQ2.o];rfl,HBEL.o⟩
   ·have HR2:=zq hrel
    clear hrel HC;go_wp2_with fail;refine(HMUL.o _).mono ?_;rintro e w9 ⟨rfl,rfl⟩;go_wp2_with fail
    first|exact⟨⟨HR2.o,trivial⟩,by simp[intOf]<;>omega⟩|exact⟨⟨HR2.o,rfl⟩,by simp[intOf]<;>omega⟩
def TkSt (L V:List Nat)(d o i carry lent:Nat)(M:List Nat):Prop:=
 M.length=L.length/\M.take o=L.take o/\M.drop (o+i)=L.drop (o+i)/\val ((L.drop o).take i)+BB^i*(carry+lent)=val ((M.drop o).take i)+d*val (V.take i)/\carry<BB/\lent<=1
theorem TkSt.start (L V:List Nat)(d o:Nat):TkSt L V d o 0 0 0 L:=⟨rfl,rfl,rfl,by simp[val],Xn,Nat.zero_le _⟩
theorem TkSt.at {L V M:List Nat}{d o i carry lent z:Nat}(h:TkSt L V d o i carry lent M)(hz:M[o+i]?=some z):L[o+i]?=some z:=by
 have:=congrArg (fun l=>l[0]?) h.2.2.1;simp only[List.getElem?_drop,Nat.add_zero]at this;rw[<-this];exact hz
theorem As {L:List Nat}{o i z:Nat}(h:L[o+i]?=some z):val ((L.drop o).take (i+1))=val ((L.drop o).take i)+BB^i*z:=by
 have I:o+i<L.length:=(List.getElem?_eq_some_iff.1 h).1
 have H:i<(L.drop o).length:=by rw[List.length_drop];omega
 rw[Xi H];have E:=List.getElem?_eq_getElem H;rw[List.getElem?_drop,h]at E;rw[<-Option.some.inj E]
theorem TkSt.set {L V M:List Nat}{d o i carry lent z s:Nat}(h:TkSt L V d o i carry lent M)(hz:M[o+i]?=some z):
  (M.set (o+i) s).length=L.length/\(M.set (o+i) s).take o=L.take o/\(M.set (o+i) s).drop (o+(i+1))=L.drop (o+(i+1))/\val (((M.set (o+i) s).drop o).take (i+1))=val ((M.drop o).take i)+BB^i*s:=by
 obtain⟨H,J,I,-⟩:=h;have E:o+i<M.length:=(List.getElem?_eq_some_iff.1 hz).1;refine⟨by rw[List.length_set,H],by rw[Pd _ (Nat.le_add_right _ _),J],?_,?_⟩
 ·rw[<-Nat.add_assoc,Sc]
  have:=congrArg (List.drop 1) I;rw[List.drop_drop,List.drop_drop]at this;exact this
 ·rw[Sn s E,Zv,List.length_take,List.length_drop,Nat.min_eq_left (by omega)]
theorem TkSt.step {L V M:List Nat}{d o i carry lent z v hi lo lo2 c s lent':Nat}(h:TkSt L V d o i carry lent M)(hd:d<BB)(hvb:v<BB)(hz:M[o+i]?=some z)(hv:V[i]?=some v)
  (hm:hi*BB+lo=d*v) (ha:lo+carry=lo2+c*BB) (hs:z+lent'*BB=s+lo2+lent) (hl:lent'<=1):TkSt L V d o (i+1) (hi+c) lent' (M.set (o+i) s):=by
 have J:=h.at hz;obtain⟨e1,e2,e3,e4⟩:=h.set (s:=s) hz;obtain⟨-,-,-,H,I,K⟩:=h;refine⟨e1,e2,e3,?_,Qqk hd hvb I hm ha,hl⟩;have E:i<V.length:=(List.getElem?_eq_some_iff.1 hv).1
 have e5:val (V.take (i+1))=val (V.take i)+BB^i*v:=by
  rw[Xi E];have:=List.getElem?_eq_getElem E;rw[hv]at this;rw[<-Option.some.inj this]
 rw[e4,As J,e5,Nat.pow_succ];have:=Qvd (P:=BB^i) hm ha hs H;exact this
theorem TkSt.fin {L V M:List Nat}{d o n carry lent z s lent':Nat}(h:TkSt L V d o n carry lent M)(hn:V.length=n)(hz:M[o+n]?=some z)(hs:z+lent'*BB=s+carry+lent):
  (M.set (o+n) s).length=L.length/\(M.set (o+n) s).take o=L.take o/\(M.set (o+n) s).drop (o+(n+1))=L.drop (o+(n+1))/\
   val ((L.drop o).take (n+1))+BB^(n+1)*lent'=val (((M.set (o+n) s).drop o).take (n+1))+d*val V:=by
 have H:=h.at hz;obtain⟨e1,e2,e3,e4⟩:=h.set (s:=s) hz;obtain⟨-,-,-,E,I,J⟩:=h;rw[List.take_of_length_le (l:=V) (by omega)]at E;refine⟨e1,e2,e3,?_⟩;rw[e4,As H,Nat.pow_succ,Nat.mul_assoc,Nat.add_assoc,<-Nat.mul_add,Nat.mul_comm BB lent',hs]
 have e6:BB^n*(s+carry+lent)=BB^n*s+BB^n*(carry+lent):=by rw[<-Nat.mul_add,Nat.add_assoc]
 rw[e6];omega
theorem Ew (x:Nat):((x:Int) !=0)=decide (x≠0):=by
 rw[Bool.eq_iff_iff];simp[Int.natCast_eq_zero]
def Bg (L V:List Nat)(d o n g:Nat)(w:World)(e:Ending)(w':World):Prop:=∃(lent:Nat) (M:List Nat),e=.returned (.bool (decide (lent≠0)))/\lent<=1/\Blk w' g M/\M.length=L.length/\M.take o=L.take o/\M.drop (o+(n+1))=L.drop (o+(n+1))/\
 val ((L.drop o).take (n+1))+BB^(n+1)*lent=val ((M.drop o).take (n+1))+d*val V/\w.grownBy w' (some g)
def Qzr (L V:List Nat)(d o n g:Nat)(w:World)(cv lv i:Value)(wr:World):Prop:=∃(k c l:Nat) (M:List Nat),k<=n/\i=.int .i64 (k:Nat)/\cv=.int .u64 (c:Nat)/\lv=.int .u64 (l:Nat)/\TkSt L V d o k c l M/\Blk wr g M/\w.grownBy wr (some g)
theorem Qyr (g o cap d:Nat)(L V:List Nat)(v:Value)(w:World)(hL:Blk w g L)(hn:o+V.length+1<=L.length)(hnc:V.length+1<=cap)(hc:L.length<=1099511627776)(hv:Rd w v V)(hvb:v.ownBlock≠some g)(hd:d<BB):
  Calls Tryz.prog 281 #[.slice (some ⟨g,o,none⟩) (V.length+1) cap,v,.int .u64 (d:Nat)] w (Bg L V d o V.length g w):=by
 have HV:=zq hv;obtain⟨ao,vcap,rfl,-,hcm,hok,-⟩:=hv.2;have HOK:=zq hok;have HB:=zq hL;have HST0:=zq (TkSt.start L V d o);have HD:=zq hd;have HVB:=zq hvb;obtain⟨n,hnn⟩:=xq V.length;rw[<-hnn]at hn hnc ⊢;have HNN:=zq hnn
 have hmn:n<=9223372036854775806:=by omega
 clear hv hok hcm hL hd hvb hnn;go_enter Tryz.func281,Tryz.ntmps281;go_wp2_with fail;go_loopw [7,8,16] (fun cv lv i wr=>Qzr L V d o n g w cv lv i wr) (fun _ _ i _=>n-(intOf i).toNat)
 case atStart=>exact⟨0,0,0,L,Nat.zero_le _,rfl,rfl,rfl,HST0.o,HB.o,X1 _ _⟩
 clear HST0 HB
 case round=>
  obtain⟨k,c,l,M,hk,rfl,rfl,rfl,hst,hM,hgr⟩:=hrel;have HST:=zq hst;have HM:=zq hM;have HGR:=zq hgr;have hml:M.length=L.length:=hst.1;have HML:=zq hml;have hcb:=hst.2.2.2.2.1;have hlb:=hst.2.2.2.2.2;clear hst hM hgr;obtain⟨z,hz⟩:∃z,M[o+k]?=some z:=⟨_,List.getElem?_eq_getElem (by omega)⟩;have hzb:=HM.o.2 z (List.mem_of_getElem? hz);have HZ:=zq hz;by_cases hlt:k<n
  ·obtain⟨y,hy⟩:∃y,V[k]?=some y:=⟨_,List.getElem?_eq_getElem (by have:=HNN.o;omega)⟩
   have hyb:=HOK.o y (List.mem_of_getElem? hy);obtain⟨ao',cap',e,-,-,-,hsh⟩:=(HV.o.kept HGR.o (fun q hq=>by cases hq;exact HVB.o)).2
   cases e
   obtain⟨g2,o2,rfl,e2⟩:=hsh k y hy;obtain⟨hi,lo,hlo,hp,hmul⟩:=Pw d y HD.o hyb;obtain⟨lo2,c2,hlo2,hc2,ha,hrun1⟩:=Zk lo c 0 hlo hcb (Nat.zero_le _);obtain⟨s,l2,hs,hl2,hsu,hrun2⟩:=Pr z lo2 l hzb hlo2 hlb;rw[Nat.add_zero,Nat.mul_comm]at ha;rw[Nat.mul_comm]at hsu;have HN:=zq (HST.o.step HD.o hyb hz hy hp ha.symm hsu.symm hl2);have hcar:hi+c2<BB:=HN.o.2.2.2.2.1;obtain⟨c3,hc3⟩:=xq (hi+c2);rw[<-hc3]at HN hcar
   have hw1:IntKind.u64.wrap ((hi:Int)+(c2:Int))=(c3:Int):=by unfold BB at hcar;rw[IntKind.wrap_u64];omega
   have HS:=zq (HM.o.set (o+k) hs);have e1:=HM.o.cell hz;have e3:=HM.o.frozen (o+k);have HMUL:=zq hmul;have HRUN1:Hid (∀w:World,(callFunc 286 #[.int .u64 (lo:Nat),.int .u64 (c:Nat),.int .u64 0]).run Tryz.prog w=.ok (.value (.tuple #[.int .u64 (lo2:Nat),.int .u64 (c2:Nat)])) w):=hrun1;have HRUN2:=zq hrun2;have hi0:(0:Int)<=(k:Int):=Int.natCast_nonneg _
   have hi1:(k:Int)<(n:Int)+1:=by omega
   have hi2:(k:Int)<(V.length:Int):=by have:=HNN.o;omega
   have HW1:=zq hw1;clear hsh hy hz hyb hzb hmul hrun1 hrun2 hp ha hsu hc3 hw1 hlo hlo2 hs hcar hcb
   have hvl:(V.length:Int)=(n:Int):=by have:=HNN.o;omega
   go_wp2_with fail;refine(HMUL.o _).mono ?_;rintro e w' ⟨rfl,rfl⟩;have hrun1:=HRUN1.o;have hrun2:=HRUN2.o;have hw1:=HW1.o;go_wp2_with fail;have hfin:Qzr L V d o n g w (.int .u64 (c3:Nat)) (.int .u64 (l2:Nat)) (.int .i64 ((k:Int)+1)) (wr.setCell ⟨g,o+k,none⟩ (.int .u64 (s:Nat))):=⟨k+1,c3,l2,_,by omega,by go_num,rfl,rfl,HN.o,HS.o.1,Xk HGR.o HS.o.2⟩
   exact⟨hfin,by simp[intOf]<;>omega⟩
  ·obtain rfl:k=n:=by omega
   obtain⟨s,l2,hs,hl2,hsu,hrun2⟩:=Pr z c l hzb hcb hlb;rw[Nat.mul_comm]at hsu;have HF:=zq (HST.o.fin HNN.o.symm hz hsu.symm);have HS:=zq (HM.o.set (o+k) hs);have e1:=HM.o.cell hz;have e3:=HM.o.frozen (o+k);have hi0:(0:Int)<=(k:Int):=Int.natCast_nonneg _
   have hi1:(k:Int)<(k:Int)+1:=by omega
   have hvl:(V.length:Int)=(k:Int):=by have:=HNN.o;omega
   have HDN:Hid (∀b:Bool,b=decide (l2≠0)->Bg L V d o k g w (.returned (.bool b)) (wr.setCell ⟨g,o+k,none⟩ (.int .u64 (s:Nat)))):=by
    rintro b rfl;exact⟨l2,_,rfl,hl2,HS.o.1,HF.o.1,HF.o.2.1,HF.o.2.2.1,HF.o.2.2.2,Xk HGR.o HS.o.2⟩
   clear hz hzb hs hsu hcb;go_wp2_with fail;go_ret;exact HDN.o _ (Ew l2)
def Qv6 (L V:List Nat)(o n g:Nat)(w:World)(e:Ending)(w':World):Prop:=∃(c:Nat) (M:List Nat),e=.returned (.tuple #[])/\Blk w' g M/\M.length=L.length/\M.take o=L.take o/\M.drop (o+(n+1))=L.drop (o+(n+1))/\
 val ((M.drop o).take (n+1))+BB^(n+1)*c=val ((L.drop o).take (n+1))+val V/\w.grownBy w' (some g)
def Qmm (L V:List Nat)(o n g:Nat)(w:World)(cv i:Value)(wr:World):Prop:=∃(k c:Nat) (M:List Nat),k<=n/\i=.int .i64 (k:Nat)/\cv=.int .u64 (c:Nat)/\c<=1/\J1 L V o k c M/\Blk wr g M/\w.grownBy wr (some g)
theorem Qk9 (g o cap:Nat)(L V:List Nat)(v:Value)(w:World)(hL:Blk w g L)(hn:o+V.length+1<=L.length)(hnc:V.length+1<=cap)(hc:L.length<=1099511627776)(hv:Rd w v V)(hvb:v.ownBlock≠some g):
  Calls Tryz.prog 282 #[.slice (some ⟨g,o,none⟩) (V.length+1) cap,v] w (Qv6 L V o V.length g w):=by
 have HV:=zq hv;obtain⟨ao,vcap,rfl,-,hcm,hok,-⟩:=hv.2;have HOK:=zq hok;have HB:=zq hL;have HST0:=zq (J1.start L V o);have HVB:=zq hvb;obtain⟨n,hnn⟩:=xq V.length;rw[<-hnn]at hn hnc ⊢;have HNN:=zq hnn
 have hmn:n<=9223372036854775806:=by omega
 clear hv hok hcm hL hvb hnn;go_enter Tryz.func282,Tryz.ntmps282;go_wp2_with fail;go_loopw [4,8] (fun cv i wr=>Qmm L V o n g w cv i wr) (fun _ i _=>n-(intOf i).toNat)
 case atStart=>exact⟨0,0,L,Nat.zero_le _,rfl,rfl,Nat.zero_le _,HST0.o,HB.o,X1 _ _⟩
 clear HST0 HB
 case round=>
  obtain⟨k,c,M,hk,rfl,rfl,hcc,hst,hM,hgr⟩:=hrel;have HST:=zq hst;have HM:=zq hM;have HGR:=zq hgr;have hml:M.length=L.length:=hst.1;have HML:=zq hml;clear hst hM hgr;obtain⟨z,hz⟩:∃z,M[o+k]?=some z:=⟨_,List.getElem?_eq_getElem (by omega)⟩;have hzb:=HM.o.2 z (List.mem_of_getElem? hz);by_cases hlt:k<n
  ·obtain⟨y,hyy⟩:∃y,V[k]?=some y:=⟨_,List.getElem?_eq_getElem (by have:=HNN.o;omega)⟩
   obtain⟨s,c',hs1,hs2,hs3,hrun⟩:=Zk z y c hzb (HOK.o y (List.mem_of_getElem? hyy)) hcc;obtain⟨ao',cap',e,-,-,-,hsh⟩:=(HV.o.kept HGR.o (fun q hq=>by cases hq;exact HVB.o)).2
   cases e
   obtain⟨g2,o2,rfl,e2⟩:=hsh k y hyy;have e1:=HM.o.cell hz;have e3:=HM.o.frozen (o+k);have HN:=zq (HST.o.step hz (.inl hyy) hs3);have HS:=zq (Blk.set (w:=wr.drewN 1) HM.o (o+k) hs1);have hi0:(0:Int)<=(k:Int):=Int.natCast_nonneg _
   have hi1:(k:Int)<(n:Int)+1:=by omega
   have hi2:(k:Int)<(V.length:Int):=by have:=HNN.o;omega
   have hvl:(V.length:Int)=(n:Int):=by have:=HNN.o;omega
   clear hyy hz hsh hs3 hzb hml;go_wp2_with fail;go_region_law (fail)
   all_goals
    go_wp2_with fail
    have hfin:Qmm L V o n g w (.int .u64 (c':Nat)) (.int .i64 ((k:Int)+1)) ((wr.drewN 1).setCell ⟨g,o+k,none⟩ (.int .u64 (s:Nat))):=
     ⟨k+1,c',M.set (o+k) s,by omega,by go_num,rfl,hs2,HN.o,HS.o.1,Xk (Xk HGR.o (Zs wr 1 _)) HS.o.2⟩
    first|exact⟨hfin,by simp[intOf]<;>omega⟩|exact⟨by (repeat apply Exists.intro);exact⟨hfin,rfl⟩,by simp[intOf]<;>omega⟩
  ·obtain rfl:k=n:=by omega
   obtain⟨s,hs⟩:=xq ((z+c) % BB)
   have hsb:s<BB:=by rw[hs];exact Nat.mod_lt _ Xn
   have hs3:s+BB*((z+c) / BB)=z+0+c:=by rw[hs,Nat.add_zero];exact Nat.mod_add_div _ _
   have HN:=zq (HST.o.step (y:=0) hz (.inr ⟨by have:=HNN.o;omega,rfl⟩) hs3)
   have hw1:IntKind.u64.wrap ((z:Int)+(c:Int))=(s:Int):=by unfold BB at hs;rw[IntKind.wrap_u64];omega
   have HS:=zq (HM.o.set (o+k) hsb);have e1:=HM.o.cell hz;have e3:=HM.o.frozen (o+k);have hi0:(0:Int)<=(k:Int):=Int.natCast_nonneg _
   have hi1:(k:Int)<(k:Int)+1:=by omega
   have hvl:(V.length:Int)=(k:Int):=by have:=HNN.o;omega
   clear hz hzb hs hsb hs3 hml;go_wp2_with fail;go_end0;have h4:=HN.o.2.2.2;rw[List.take_of_length_le (l:=V) (by have:=HNN.o;omega)]at h4;exact⟨(z+c) / BB,_,rfl,HS.o.1,HN.o.1,HN.o.2.1,HN.o.2.2.1,h4,Xk HGR.o HS.o.2⟩
end Go.Proofs.YtgfmiladfeoldaaGreatDoor
