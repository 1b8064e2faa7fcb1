/- Joined texts of this claim's proof: DivK, Num9, Num10, Num11, DecM. -/
import Derived.Test.YtgfmiladfeoldaaGreatDoorPk9
import Derived.Test.YtgfmiladfeoldaaGreatDoorPk7
import Derived.Test.YtgfmiladfeoldaaGreatDoorPk1
import Derived.Deep.AppendLies
set_option linter.unusedSimpArgs false
set_option linter.unusedVariables false
set_option maxRecDepth 100000
set_option maxHeartbeats 16000000
namespace Go.Proofs.YtgfmiladfeoldaaGreatDoor
open Go.RowKit NatP
def Qm4 (a b m n:Nat)(w:World)(e:Ending)(w':World):Prop:=∃v u qs rs,e=.returned (.tuple #[v,u,.int .i64 0])/\Fr w.heap.size w' v qs/\val qs=a / b/\qs.length<=m/\Qw qs=qs/\Fr w.heap.size w' u rs/\val rs=a % b/\rs.length<=n/\Qw rs=rs/\Below w.heap.size w w'
theorem Fr.nil (B:Nat)(w:World):Fr B w (.slice none 0 0) []:=⟨Rd.nil w,fun k hk=>by cases hk⟩
theorem A9 (v u:Value)(xs ys:List Nat)(w:World)(hv:Rd w v xs)(hu:Rd w u ys)(hl:xs.length<=274877906944)(hl2:ys.length<=274877906944)(h0:0<val ys):
  Calls Tryz.prog 239 #[v,u] w (Qm4 (val xs) (val ys) xs.length ys.length w):=by
 have HV:=zq hv;have HU:=zq hu;have HL:=zq hl;have HL2:=zq hl2;obtain⟨ao,cap,rfl,hnc,hcm,hok,-⟩:=hv.2;obtain⟨bo,cap2,rfl,hnc2,hcm2,hok2,-⟩:=hu.2;have HOK:=zq hok;have HOK2:=zq hok2;obtain⟨Y,hY⟩:=xq (Qw ys)
 have hYl:Y.length<=ys.length:=by rw[hY];exact Qf ys
 have hYv:val Y=val ys:=by rw[hY,Ql]
 have hYs:Qw Y=Y:=by rw[hY,Y0]
 have hYok:ok Y:=by rw[hY];exact Vm hok2
 have hY0:Y.length≠0:=fun e=>by
  rw[<-hYv,List.eq_nil_of_length_eq_zero e]at h0;simp[val]at h0
 obtain⟨n,hn⟩:=xq Y.length;have HY:=zq hY;have HYV:=zq hYv;have HYS:=zq hYs;have HYOK:=zq hYok;have HN:=zq hn
 have hn0:((n:Int)==0)=false:=by simp;omega
 have H0:=zq h0;rw[<-hn]at hYl hY0;clear hv hu hok hok2 hcm hcm2 hl hl2 hY hYv hYs hYok hn h0;by_cases h1:n=1
 ·have h1b:((n:Int)==1)=true:=by simp[h1]
  obtain⟨y,hy⟩:∃y,Y[0]?=some y:=⟨_,List.getElem?_eq_getElem (by rw[<-HN.o];omega)⟩;have hyb:=HYOK.o y (List.mem_of_getElem? hy)
  have hYy:val Y=y:=by
   rw[<-List.drop_zero (l:=Y),Wv hy,List.drop_eq_nil_of_le (by rw[<-HN.o];omega)];simp[val]
  have hy0:0<y:=by have:=H0.o;rw[<-HYV.o,hYy]at this;exact this
  have HYY:=zq hYy;have HYB:=zq hyb;have HY0:=zq hy0;have HYC:=zq hy
  have hn1:0<n:=by omega
  clear hy hyb hYy hy0 h1;go_enter Tryz.func239,Tryz.ntmps239;go_wp2_with fail;refine(J8 _ ys _ HU.o (by have:=HL2.o;omega)).mono ?_;rintro e w1 ⟨rfl,hB,hb⟩;rw[<-HY.o,<-HN.o]at*;have e1:=hB.cell HYC.o;have HBL:=zq hb;have HV1:=zq (HV.o.below hb);have hz1:=hb.size;clear hB hb;go_wp2_with fail;refine(Mz _ xs y _ HV1.o (by have:=HL.o;omega) HY0.o HYB.o).mono ?_;rintro e w2 ⟨qv,qs,rfl,q1,q2,q3,q4,q5⟩;have Q1:=zq q1
  have Q2:Hid (val qs=val xs / val ys):=by show _=_;rw[q2,<-HYV.o,HYY.o]
  have Q3:=zq q3;have Q4:=zq q4;have HBL2:Hid (Below w.heap.size w w2):=HBL.o.trans (q5.mono hz1);obtain⟨r,hr⟩:=xq (val xs % y);rw[<-hr]
  have hrb:r<BB:=by rw[hr];exact Nat.lt_trans (Nat.mod_lt _ HY0.o) HYB.o
  have HR:Hid (r=val xs % val ys):=by show _=_;rw[hr,<-HYV.o,HYY.o]
  have HRW:=zq (Pn w2 r hrb);have hz2:=HBL2.o.size;have ha:=Qq w2 (.cells #[.int .u64 (r:Nat)] 101);have HA:=zq ha;clear q1 q2 q3 q4 q5 hr hrb ha;go_wp2_with fail;refine(Jy _ [r] _ HRW.o (by simp)).mono ?_;rintro e w3 ⟨rv,rfl,p1,p2⟩;have P1:=zq p1;have HB3:=zq (HA.o.trans (p2.mono HA.o.size));clear p1 p2;go_wp2_with fail;go_ret3;have hsl:=Qf [r];refine⟨_,_,qs,Qw [r],rfl,(Q1.o.mono hz1).below HB3.o,Q2.o,Q3.o,Q4.o,P1.o.mono (Nat.le_trans hz2 HA.o.size),by rw[Ql,<-HR.o];simp[val],?_,Y0 _,HBL2.o.trans (HB3.o.mono hz2)⟩;simp only[List.length_cons,List.length_nil]at hsl;omega
 ·have h1b:((n:Int)==1)=false:=by simp;omega
  have hn2:2<=n:=by omega
  obtain⟨X,hX⟩:=xq (Qw xs)
  have hXl:X.length<=xs.length:=by rw[hX];exact Qf xs
  have hXv:val X=val xs:=by rw[hX,Ql]
  have hXs:Qw X=X:=by rw[hX,Y0]
  have hXok:ok X:=by rw[hX];exact Vm HOK.o
  have HX:=zq hX;have HXL:=zq hXl;have HXV:=zq hXv;have HXS:=zq hXs;have HXOK:=zq hXok;clear hX hXl hXv hXs hXok h1;by_cases hlt:val xs<val ys
  ·have hc:cmpI (val X) (val Y)= -1:=Ms (by rw[HXV.o,HYV.o];exact hlt)
   have HC:=zq hc;have HD:Hid (val xs / val ys=0/\val xs % val ys=val xs):=⟨Nat.div_eq_of_lt hlt,Nat.mod_eq_of_lt hlt⟩
   have hXY:X.length<=n:=by
    refine Nat.le_of_not_lt fun h=> ?_;have:=M6 (xs:=Y) (ys:=X) HYOK.o (by rw[HYS.o,HXS.o,<-HN.o];exact h);rw[HXV.o,HYV.o]at this;omega
   clear hc hlt;go_enter Tryz.func239,Tryz.ntmps239;go_wp2_with fail;refine(Jy _ ys _ HU.o (by have:=HL2.o;omega)).mono ?_;rintro e w1 ⟨yv,rfl,hB,hb⟩;rw[<-HY.o]at hB;obtain⟨yo,ycap,rfl,-,-,-,-⟩:=hB.1.2;have HB:=zq hB;have HBL:=zq hb;have HV1:=zq (HV.o.below hb);have hz1:=hb.size;clear hB hb;rw[<-HN.o];go_wp2_with fail;refine(Jy _ xs _ HV1.o (by have:=HL.o;omega)).mono ?_;rintro e w2 ⟨xv,rfl,hB2,hb2⟩;rw[<-HX.o]at hB2;have HB2:=zq hB2;have HY2:=zq (HB.o.below hb2);have HBL2:Hid (Below w.heap.size w w2):=HBL.o.trans (hb2.mono hz1);have hz2:=HBL2.o.size;rw[<-HN.o]at HY2;clear hB2 hb2;go_wp2_with fail;refine(Va _ _ X Y _ HB2.o.1 HY2.o.1).mono ?_;rintro e w3 ⟨rfl,hb3⟩;rw[HC.o];have HB3:=zq hb3;clear hb3;go_wp2_with fail;go_ret3;exact⟨_,_,[],X,rfl,Fr.nil _ _,by rw[HD.o.1];rfl,Nat.zero_le _,rfl,(HB2.o.mono hz1).below HB3.o,by rw[HXV.o,HD.o.2],by omega,HXS.o,HBL2.o.trans (HB3.o.mono hz2)⟩
  ·obtain⟨c,hc⟩:=xq (cmpI (val X) (val Y))
   have hcb:decide (c<0)=false:=by
    rw[hc,HXV.o,HYV.o];unfold cmpI;rw[if_neg hlt]
    split<;>decide
   have HC:=zq hc
   have hXY:n<=X.length:=by
    refine Nat.le_of_not_lt fun h=> ?_;have:=M6 (xs:=X) (ys:=Y) HXOK.o (by rw[HYS.o,HXS.o,<-HN.o];exact h);rw[HXV.o,HYV.o]at this;omega
   clear hc hlt;go_enter Tryz.func239,Tryz.ntmps239;go_wp2_with fail;refine(Jy _ ys _ HU.o (by have:=HL2.o;omega)).mono ?_;rintro e w1 ⟨yv,rfl,hB,hb⟩;rw[<-HY.o]at hB;obtain⟨yo,ycap,rfl,-,-,-,-⟩:=hB.1.2;have HB:=zq hB;have HBL:=zq hb;have HV1:=zq (HV.o.below hb);have hz1:=hb.size;clear hB hb;rw[<-HN.o];go_wp2_with fail;refine(Jy _ xs _ HV1.o (by have:=HL.o;omega)).mono ?_;rintro e w2 ⟨xv,rfl,hB2,hb2⟩;rw[<-HX.o]at hB2;have HB2:=zq hB2;have HY2:=zq (HB.o.below hb2);have HBL2:Hid (Below w.heap.size w w2):=HBL.o.trans (hb2.mono hz1);have hz2:=HBL2.o.size;rw[<-HN.o]at HY2;clear hB2 hb2;go_wp2_with fail;refine(Va _ _ X Y _ HB2.o.1 HY2.o.1).mono ?_;rintro e w3 ⟨rfl,hb3⟩;rw[<-HC.o];have HB3:=zq (HB2.o.below hb3);have HY3:=zq (HY2.o.below hb3);have HBL3:Hid (Below w.heap.size w w3):=HBL2.o.trans (hb3.mono hz2);have hz3:=HBL3.o.size;clear hb3;go_wp2_with fail;refine(Qyi _ _ X Y (n-2) _ HB3.o.1 HY3.o.1 (by rw[<-HN.o];omega) HYS.o (by rw[<-HN.o];exact hXY) (by have:=HXL.o;have:=HL.o;omega)).mono ?_;rintro e w4 ⟨qv,rv,qs,rs,rfl,q1,q2,q3,q4,r1,r2,r3,r4,hb4⟩;have Q1:=zq (q1.mono hz3);have R1:=zq (r1.mono hz3);have HBL4:Hid (Below w.heap.size w w4):=HBL3.o.trans (hb4.mono hz3)
   have Q2:Hid (val qs=val xs / val ys):=by show _=_;rw[q2,HXV.o,HYV.o]
   have R2:Hid (val rs=val xs % val ys):=by show _=_;rw[r2,HXV.o,HYV.o]
   have Q3:Hid (qs.length<=xs.length):=by show _<=_;have:=HXL.o;have:=HN.o;omega
   have R3:Hid (rs.length<=ys.length):=by show _<=_;have:=HN.o;omega
   have Q4:=zq q4;have R4:=zq r4;clear q1 q2 q3 q4 r1 r2 r3 r4 hb4;go_wp2_with fail;go_ret3;exact⟨_,_,qs,rs,rfl,Q1.o,Q2.o,Q3.o,Q4.o,R1.o,R2.o,R3.o,R4.o,HBL4.o⟩
theorem Ut (c:Nat)(w:World)(hc:c<=0x10ffff):
  Calls Tryz.prog 213 #[.int .i32 (c:Nat)] w fun e w'=>e=.returned (.int .i64 (digVal c:Nat))/\w=w':=by
 have G:(48<=c/\c<=57)\/(97<=c/\c<=122)\/(65<=c/\c<=90)\/c<48\/(57<c/\c<65)\/(90<c/\c<97)\/122<c:=by omega
 rcases G with G|G|G|G|G|G|G
 ·have e:digVal c=c-48:=by unfold digVal;rw[if_pos G]
  rw[e];clear e;go_enter Tryz.func213,Tryz.ntmps213;go_wp2_with fail;go_ret;exact⟨Wh (by omega),rfl⟩
 ·have e:digVal c=c-87:=by unfold digVal;rw[if_neg (by omega),if_pos G]
  rw[e];clear e;go_enter Tryz.func213,Tryz.ntmps213;go_wp2_with fail;go_ret;exact⟨Wh (by omega),rfl⟩
 ·have e:digVal c=c-55:=by unfold digVal;rw[if_neg (by omega),if_neg (by omega),if_pos G]
  rw[e];clear e;go_enter Tryz.func213,Tryz.ntmps213;go_wp2_with fail;go_ret;exact⟨Wh (by omega),rfl⟩
 all_goals
  have e:digVal c=36:=by unfold digVal;rw[if_neg (by omega),if_neg (by omega),if_neg (by omega)]
  rw[e];clear e;go_enter Tryz.func213,Tryz.ntmps213;go_wp2_with fail;go_ret;exact⟨Wh (by omega),rfl⟩
theorem P8 (w:World):
  Calls Tryz.prog 214 #[.int .i64 10] w fun e w'=>e=.returned (.tuple #[.int .i64 19,.int .u64 10000000000000000000])/\w=w':=by
 go_enter Tryz.func214,Tryz.ntmps214;go_wp2_with fail;refine wp_loop_rounds 20 ?_
 repeat (rw[rounds_succ];go_wp2_with fail)
 go_ret2;exact⟨rfl,rfl⟩
def Co (N:Nat)(w:World)(nv pv bv:Value)(wr:World):Prop:=∃(n q e:Nat) (ps bs:List Nat),nv=.int .i64 (n:Nat)/\Fr w.heap.size wr pv ps/\Fr w.heap.size wr bv bs/\val ps=10^q/\(1<=n->val bs=10^e)/\q+e*n=N/\n<=N/\Qw ps=ps/\Qw bs=bs/\Below w.heap.size w wr/\1<=e
theorem Qk8 {N q e n:Nat}(h:q+e*n=N)(he:1<=e)(hn:1<=n):e<=N/\q<=N:=by
 have:=Nat.mul_le_mul_left e hn;have E:=Nat.mul_le_mul_right n he;omega
theorem Qju (N:Nat)(w:World)(hN:N<=1073741824):
  Calls Tryz.prog 270 #[.int .i64 10,.int .i64 (N:Nat)] w (Zm (10^N) (N+1) w):=by
 have R1:=Pn w 1 (by unfold BB;omega);have R2:=Pn (w.alloc (.cells #[.int .u64 (1:Nat)] 101)) 10 (by unfold BB;omega);have b1:=Qq w (.cells #[.int .u64 (1:Nat)] 101);have b2:=Qq (w.alloc (.cells #[.int .u64 (1:Nat)] 101)) (.cells #[.int .u64 (10:Nat)] 101)
 have HS:Hid (Co N w (.int .i64 (N:Nat)) (.slice (some ⟨w.heap.size,0,none⟩) 1 1) (.slice (some ⟨w.heap.size+1,0,none⟩) 1 1) ((w.alloc (.cells #[.int .u64 1] 101)).alloc (.cells #[.int .u64 10] 101))):=
  ⟨N,0,1,[1],[10],rfl,⟨R1.below b2,fun k hk=>by cases hk;exact⟨Nat.le_refl _,by simp;omega⟩⟩,⟨by simpa using R2,fun k hk=>by cases hk;exact⟨by show w.heap.size<=w.heap.size+1;omega,by simp⟩⟩,by simp[val],fun _=>by simp[val],by omega,Nat.le_refl _,by decide,by decide,b1.trans (b2.mono b1.size),Nat.le_refl _⟩
 clear R1 R2 b1 b2;go_enter Tryz.func270,Tryz.ntmps270;go_wp2_with fail;go_loopw [1,5,6] (fun n p b wr=>Co N w n p b wr) (fun n _ _ _=>(intOf n).toNat)
 case atStart=>exact HS.o
 clear HS
 case round=>
  obtain⟨n,q,e,ps,bs,rfl,hp,hb,hvp,hvb,hqe,hnN,hsp,hsb,hbel,he⟩:=hrel;have HP:=zq hp;have HB:=zq hb;have HVP:=zq hvp;have HVB:=zq hvb;have HQE:=zq hqe;have HSP:=zq hsp;have HSB:=zq hsb;have HBEL:=zq hbel;have hwz:=hbel.size;clear hp hb hvp hvb hqe hsp hsb hbel;by_cases hn0:n=0
  ·subst hn0
   have hq:q=N:=by have:=HQE.o;omega
   have HQ:Hid (val ps=10^N):=by show _=_;rw[HVP.o,hq]
   clear hq;go_wp2_with fail;go_ret;exact⟨_,ps,rfl,HP.o,HQ.o,Ky HSP.o (Nat.le_of_eq HQ.o),HSP.o,HBEL.o⟩
  ·have hn1:1<=n:=by omega
   obtain⟨heN,hqN⟩:=Qk8 HQE.o he hn1;have hpl:=Ky HSP.o (Nat.le_of_eq HVP.o);have hbl:=Ky HSB.o (Nat.le_of_eq (HVB.o hn1));have VB:=zq (HVB.o hn1);clear HVB;obtain⟨m,r,hm,hr⟩:∃m r,n=2*m+r/\r<2:=⟨n / 2,n % 2,by omega,by omega⟩
   have hrem:(n:Int) % 2=(r:Int):=by omega
   have hquo:(n:Int) / 2=(m:Int):=by omega
   have HM:=zq hm
   have hmn:m<n:=by omega
   have hmN:m<=N:=by omega
   by_cases hr1:r=1
   ·have hrb:((r:Int)==1)=true:=by simp[hr1]
    have HR:=zq hr1;clear hm hr1;go_wp2_with fail;refine(Dt ps bs _ _ _ (by omega) HP.o.1 HB.o.1).mono ?_;rintro e2 w2 ⟨pv2,ps2,rfl,p1,p2,p3,p4,p5⟩;have HP2:=zq (p1.mono hwz)
    have HVP2:Hid (val ps2=10^(q+e)):=by show _=_;rw[p2,HVP.o,VB.o,Nat.pow_add]
    have HSP2:=zq p4;have HB2:=zq (HB.o.below p5);have HBEL2:Hid (Below w.heap.size w w2):=HBEL.o.trans (p5.mono hwz);have hwz2:=HBEL2.o.size;clear p1 p2 p3 p4 p5;by_cases hn2:1<n
    ·go_wp2_with fail
     refine(Rl bs _ _ (by omega) HB2.o.1).mono ?_;rintro e3 w3 ⟨bv3,bs3,rfl,s1,s2,s3,s4,s5⟩;have HB3:=zq (s1.mono hwz2)
     have HVB3:Hid (val bs3=10^(2*e)):=by show _=_;rw[s2,VB.o,<-Nat.pow_add,show e+e=2*e from by omega]
     have HSB3:=zq s4;have HP3:=zq (HP2.o.below s5);have HBEL3:Hid (Below w.heap.size w w3):=HBEL2.o.trans (s5.mono hwz2)
     have HQ3:Hid (q+e+2*e*m=N):=by
      show _=_;have h1:=HQE.o;rw[HM.o,HR.o,Nat.mul_add,Nat.mul_one,Nat.mul_left_comm,<-Nat.mul_assoc]at h1;omega
     clear s1 s2 s3 s4 s5;go_wp2_with fail;have hfin:Co N w (.int .i64 (m:Nat)) pv2 bv3 w3:=⟨m,q+e,2*e,ps2,bs3,rfl,HP3.o,HB3.o,HVP2.o,fun _=>HVB3.o,HQ3.o,hmN,HSP2.o,HSB3.o,HBEL3.o,by omega⟩
     first|exact⟨hfin,by simp[intOf];omega⟩|exact⟨by (repeat apply Exists.intro);exact⟨hfin,rfl⟩,by simp[intOf];omega⟩
    ·have hm0:m=0:=by have:=HM.o;omega
     have HQ3:Hid (q+e+e*m=N):=by
      show _=_;have h1:=HQE.o;have h2:=HM.o;rw[HR.o,hm0]at h2;rw[h2]at h1;rw[hm0,Nat.mul_zero];rw[Nat.mul_zero,Nat.zero_add,Nat.mul_one]at h1;exact h1
     clear hm0;go_wp2_with fail;have hfin:Co N w (.int .i64 (m:Nat)) pv2 u6 w2:=⟨m,q+e,e,ps2,bs,rfl,HP2.o,HB2.o,HVP2.o,fun _=>VB.o,HQ3.o,hmN,HSP2.o,HSB.o,HBEL2.o,he⟩
     first|exact⟨hfin,by simp[intOf];omega⟩|exact⟨by (repeat apply Exists.intro);exact⟨hfin,rfl⟩,by simp[intOf];omega⟩
   ·have hrb:((r:Int)==1)=false:=by simp;omega
    have hr0:r=0:=by omega
    have HR:=zq hr0
    have hn2:1<n:=by omega
    clear hm hr1 hr0;go_wp2_with fail;refine(Rl bs _ _ (by omega) HB.o.1).mono ?_;rintro e3 w3 ⟨bv3,bs3,rfl,s1,s2,s3,s4,s5⟩;have HB3:=zq (s1.mono hwz)
    have HVB3:Hid (val bs3=10^(2*e)):=by show _=_;rw[s2,VB.o,<-Nat.pow_add,show e+e=2*e from by omega]
    have HSB3:=zq s4;have HP3:=zq (HP.o.below s5);have HBEL3:Hid (Below w.heap.size w w3):=HBEL.o.trans (s5.mono hwz)
    have HQ3:Hid (q+2*e*m=N):=by
     show _=_;have h1:=HQE.o;rw[HM.o,HR.o,Nat.add_zero,Nat.mul_left_comm,<-Nat.mul_assoc]at h1;omega
    clear s1 s2 s3 s4 s5;go_wp2_with fail;have hfin:Co N w (.int .i64 (m:Nat)) u5 bv3 w3:=⟨m,q,2*e,ps,bs3,rfl,HP3.o,HB3.o,HVP.o,fun _=>HVB3.o,HQ3.o,hmN,HSP.o,HSB3.o,HBEL3.o,by omega⟩
    first|exact⟨hfin,by simp[intOf];omega⟩|exact⟨by (repeat apply Exists.intro);exact⟨hfin,rfl⟩,by simp[intOf];omega⟩
def RdD (w:World)(v:Value)(ds:List Nat):Prop:=
 (∀k,v.ownBlock=some k->k<w.heap.size)/\ ∃ao cap,v=.slice ao ds.length cap/\ds.length<=cap/\cap<=maxLen/\(∀x∈ds,x<10)/\ ∀i x,ds[i]?=some x-> ∃g o,ao=some ⟨g,o,none⟩/\w.cell? ⟨g,o+i,none⟩=some (.int .u8 (x:Nat))
theorem RdD.below {w w':World}{v:Value}{ds:List Nat}(h:RdD w v ds)(hb:Below w.heap.size w w'):RdD w' v ds:=by
 obtain⟨H,ao,E,rfl,O,K,I,J⟩:=h;refine⟨fun k hk=>Nat.lt_of_lt_of_le (H k hk) hb.size,ao,E,rfl,O,K,I,fun i x hx=> ?_⟩;obtain⟨g,o,rfl,T⟩:=J i x hx;exact⟨g,o,rfl,by rw[hb.cell (p:=⟨g,o+i,none⟩) (H g rfl)];exact T⟩
theorem RdD.take {w:World}{ao:Option Addr}{len cap n c:Nat}{ds:List Nat}(h:RdD w (.slice ao len cap) ds)(hn:n<=ds.length)(hc:n<=c)(hm:c<=cap):RdD w (.slice ao n c) (ds.take n):=by
 obtain⟨I,ao',cap',e,K,J,E,H⟩:=h;simp only[Value.slice.injEq]at e;obtain⟨rfl,rfl,rfl⟩:=e
 refine⟨fun k hk=>I k (by cases ao<;>first|exact hk|cases hk),ao,c,by rw[List.length_take,Nat.min_eq_left hn],by rw[List.length_take];omega,by omega,fun x hx=>E x (List.mem_of_mem_take hx),fun i x hx=> ?_⟩
 rw[List.getElem?_take]at hx;split at hx
 ·exact H i x hx
 ·cases hx
theorem RdD.drop {w:World}{g o len cap n:Nat}{ds:List Nat}(h:RdD w (.slice (some ⟨g,o,none⟩) len cap) ds)(hn:n<=ds.length):RdD w (.slice (some ⟨g,o+n,none⟩) (ds.length-n) (cap-n)) (ds.drop n):=by
 obtain⟨J,ao',cap',e,O,K,E,H⟩:=h;simp only[Value.slice.injEq]at e;obtain⟨rfl,rfl,rfl⟩:=e;refine⟨fun k hk=>J k hk,_,_,by rw[List.length_drop],by rw[List.length_drop];omega,by omega,fun x hx=>E x (List.mem_of_mem_drop hx),fun i x hx=>⟨g,o+n,rfl,?_⟩⟩;rw[List.getElem?_drop]at hx;obtain⟨g',o',e,I⟩:=H (n+i) x hx
 cases e
 rw[Nat.add_assoc];exact I
theorem RdD.dropAll {w:World}{g o len cap n:Nat}{ds:List Nat}(h:RdD w (.slice (some ⟨g,o,none⟩) len cap) ds)(hn:ds.length<=n):RdD w (.slice (some ⟨g,o,none⟩) 0 0) (ds.drop n):=by
 rw[List.drop_eq_nil_of_le hn];exact⟨fun k hk=>h.1 k hk,_,0,rfl,Nat.le_refl _,by unfold maxLen;omega,fun x hx=>(by cases hx),fun i x hx=>(by simp at hx)⟩
theorem RdD.some' {w:World}{ao:Option Addr}{n c:Nat}{ds:List Nat}(h:RdD w (.slice ao n c) ds)(h0:0<ds.length):∃g o,ao=some ⟨g,o,none⟩:=by
 obtain⟨_,ao',cap',e,_,_,_,H⟩:=h;simp only[Value.slice.injEq]at e;obtain⟨rfl,-,-⟩:=e;obtain⟨g,o,E,_⟩:=H 0 ds[0] (List.getElem?_eq_getElem h0);exact⟨g,o,E⟩
theorem RdD.shape {w:World}{v:Value}{ds:List Nat}(h:RdD w v ds):∃ao cap,v=.slice ao ds.length cap/\ds.length<=cap/\cap<=maxLen:=by
 obtain⟨_,ao,cap,E,I,H,_⟩:=h;exact⟨ao,cap,E,I,H⟩
theorem RdD.dig {w:World}{v:Value}{ds:List Nat}(h:RdD w v ds):∀x∈ds,x<10:=by obtain⟨_,_,_,_,_,_,E,_⟩:=h;exact E
def Cq (n:Nat):Prop:=∀(ds:List Nat) (v:Value) (w:World),ds.length<n->RdD w v ds->Calls Tryz.prog 252 #[v,.int .i64 10] w (Zm (decV ds) ds.length w)
theorem Az (n:Nat)(IH:Cq n)(hn:n<=1073741824)(ds:List Nat)(v:Value)(w:World)(hl:ds.length<=n)(h200:200<ds.length)(hv:RdD w v ds):
  Calls Tryz.prog 252 #[v,.int .i64 10] w (Zm (decV ds) ds.length w):=by
 have HV:=zq hv;obtain⟨ao,cap,rfl,hdc,hcm⟩:=hv.shape;obtain⟨g,o,rfl⟩:=hv.some' (by omega);obtain⟨lo,hlo⟩:=xq (ds.length / 2);obtain⟨cu,hcu⟩:=xq (ds.length-lo)
 have h1:1<=lo:=by omega
 have h2:lo<ds.length:=by omega
 have h3:1<=cu:=by omega
 have h4:cu<ds.length:=by omega
 have h5:lo+cu<=ds.length:=by omega
 have h6:ds.length<=lo+cu:=by omega
 have hquo:(ds.length:Int) / 2=(lo:Int):=by omega
 have hsub:(ds.length:Int)-(lo:Int)=(cu:Int):=by omega
 have HA1:=zq (HV.o.take (n:=cu) (c:=cap) (by omega) (by omega) (Nat.le_refl _));have HA2:=zq (HV.o.drop (n:=cu) (by omega));have HI:=zq IH;have hi0:(0:Int)<=(cu:Int):=Int.natCast_nonneg _
 have hi1:(cu:Int)<=(ds.length:Int):=by omega
 have hcc: ¬(cap=cu):=by omega
 have hi2:(cu:Int)<=(cap:Int):=by omega
 have hcap2:cap<=9223372036854775807:=by unfold maxLen at hcm;omega
 have HL1:Hid ((ds.take cu).length<=cu):=List.length_take_le _ _
 have HL2:Hid ((ds.drop cu).length<=lo):=by show _<=_;rw[List.length_drop];omega
 have HD:Hid (decV ds=decV (ds.take cu)*10^lo+decV (ds.drop cu)):=by
  show _=_;rw[Qq6 ds cu (by omega),show ds.length-cu=lo from by omega]
 have HDL:=zq (Tu HV.o.dig);clear IH hv hcm hlo hcu;go_enter Tryz.func252,Tryz.ntmps252;go_wp2_with fail
 go_region_held3 (fun _=>True) (trivial)
  (first
   |(go_at_call_of 252 (Value.slice (some ⟨g,o,none⟩) cu cap);refine(HI.o (ds.take cu) _ _ (by have:=HL1.o;omega) (by exact HA1.o)).mono ?_;rintro e1 w1 ⟨v1,x1,rfl,a1,a2,a3,a4,a5⟩;have A1:=zq a1;have A2:=zq a2;have A3:=zq a3;have A5:=zq a5;have hz1:=a5.size;clear a1 a2 a3 a4 a5)
   |(go_at_call 270;refine(Qju lo _ (by omega)).mono ?_;rintro e2 w2 ⟨v2,x2,rfl,a1,a2,a3,a4,a5⟩;have B1:=zq a1;have B2:=zq a2;have B3:=zq a3;have B5:=zq a5;have hz2:=a5.size;clear a1 a2 a3 a4 a5)
   |(go_at_call 252;refine(HI.o (ds.drop cu) _ _ (by have:=HL2.o;omega) (by exact(RdD.below (w:=w.drew) HA2.o A5.o).below B5.o)).mono ?_;rintro e3 w3 ⟨v3,x3,rfl,a1,a2,a3,a4,a5⟩;have C1:=zq a1;have C2:=zq a2;have C3:=zq a3;have C5:=zq a5;have hz3:=a5.size;clear a1 a2 a3 a4 a5)
   |(go_at_call 269;refine(Qq8 x1 x2 x3 _ _ _ _ (by have:=A3.o;have:=B3.o;have:=HL1.o;omega) (by have:=C3.o;have:=HL2.o;omega) ((A1.o.1.below B5.o).below C5.o) (B1.o.1.below C5.o) C1.o.1).mono ?_;rintro e4 w4 ⟨v4,x4,rfl,a1,a2,a3,a4,a5⟩))
 have D1:=zq (a1.mono (Nat.le_trans hz1 (Nat.le_trans hz2 hz3)))
 have D2:Hid (val x4=decV ds):=by show _=_;rw[a2,A2.o,B2.o,C2.o,HD.o]
 have D4:=zq a4;have D5:Hid (Below w.heap.size w w4):=((Yx w 1).trans (A5.o.trans ((B5.o.trans ((C5.o.trans (a5.mono hz3)).mono hz2)).mono hz1)));have D3:Hid (x4.length<=ds.length):=Se a4 (by rw[D2.o];exact HDL.o);clear a1 a2 a3 a4 a5;go_wp2_with fail;go_ret;exact⟨_,x4,rfl,D1.o,D2.o,D3.o,D4.o,D5.o⟩
def szS:Value->Nat| .slice _ n _=>n|_=>0
def pw (j:Nat):Nat:=10^j
def Qwr (ds:List Nat)(w:World)(dv av:Value)(wr:World):Prop:=∃(pos rem:Nat) (ao:Option Addr) (c:Nat) (zs:List Nat),pos+rem=ds.length/\dv=.slice ao rem c/\RdD wr dv (ds.drop pos)/\Fr w.heap.size wr av zs/\val zs=decV (ds.take pos)/\Qw zs=zs/\Below w.heap.size w wr
theorem Qy9 {ds:List Nat}{pos n:Nat}(h:pos+n<=ds.length):decV (ds.take (pos+n))=decV (ds.take pos)*pw n+decV ((ds.drop pos).take n):=by
 have e:ds.take (pos+n)=ds.take pos++(ds.drop pos).take n:=List.take_add;rw[e,Sd,List.length_take,List.length_drop,Nat.min_eq_left (by omega)];rfl
theorem Eh (ds:List Nat)(v:Value)(w:World)(h200:ds.length<=200)(hv:RdD w v ds):
  Calls Tryz.prog 252 #[v,.int .i64 10] w (Zm (decV ds) ds.length w):=by
 have HV:=zq hv;obtain⟨ao,cap,rfl,hdc,hcm⟩:=hv.shape
 have hcap2:cap<=9223372036854775807:=by unfold maxLen at hcm;omega
 have HDL:=zq (Tu HV.o.dig);clear hv hcm;go_enter Tryz.func252,Tryz.ntmps252;go_wp2_with fail;refine(P8 _).mono ?_;rintro e w' ⟨rfl,rfl⟩;go_wp2_with fail;go_loopw [0,9] (fun d a wr=>Qwr ds w d a wr) (fun d _ _=>szS d)
 case atStart=>exact⟨0,ds.length,ao,cap,[],by omega,rfl,HV.o,⟨Rd.nil w,fun k hk=>by cases hk⟩,rfl,rfl,Below.refl _ _⟩
 case round=>
  obtain⟨pos,rem,ao,c,zs,hpr,rfl,hd,ha,hva,hsa,hb⟩:=hrel;have HD:=zq hd;have HA:=zq ha;have HVA:=zq hva;have HSA:=zq hsa;have HB:=zq hb;have HPR:=zq hpr;have hwz:=hb.size;obtain⟨_,_,hsv,hrc,hcm⟩:=hd.shape;simp only[Value.slice.injEq]at hsv;obtain⟨-,-,rfl⟩:=hsv
  have hdl:(ds.drop pos).length=rem:=by rw[List.length_drop];omega
  rw[hdl]at hrc
  have hc2:c<=9223372036854775807:=by unfold maxLen at hcm;omega
  have hr200:rem<=200:=by omega
  have hal:zs.length<=200:=by
   have:=Se hsa (n:=pos) (by
    rw[hva];have h1:=Tu (ds:=ds.take pos) (fun x hx=>HV.o.dig x (List.mem_of_mem_take hx))
    rw[List.length_take,Nat.min_eq_left (by omega)]at h1;exact h1)
   omega
  clear hd ha hva hsa hb hpr hcm;by_cases hr0:rem=0
  ·have hfin:decV (ds.take pos)=decV ds:=by rw[List.take_of_length_le (by have:=HPR.o;omega)]
   have HF:=zq hfin;clear hfin hdl
   have h0: ¬0<rem:=by omega
   clear hr0;go_wp2_with fail;go_ret;exact⟨_,zs,rfl,HA.o,by rw[HVA.o,HF.o],Se HSA.o (by rw[HVA.o,HF.o];exact HDL.o),HSA.o,HB.o⟩
  ·obtain⟨n,hn⟩:=xq (min 19 rem)
   have hn1:1<=n:=by omega
   have hn2:n<=rem:=by omega
   have hn3:n<=19:=by omega
   have hmin:min (19:Int) (rem:Int)=(n:Int):=by omega
   obtain⟨g,o,rfl⟩:=HD.o.some' (by rw[hdl];omega);have HP:=zq (HD.o.take (n:=n) (c:=c) (by rw[hdl];omega) (by omega) (Nat.le_refl _));obtain⟨P,hP⟩:=xq ((ds.drop pos).take n);rw[<-hP]at HP
   have hPl:P.length=n:=by rw[hP,List.length_take,hdl];omega
   have HPL:=zq hPl;have HPE:=zq hP;have HDD:=zq hdl
   have hrp:0<rem:=by omega
   obtain⟨_,_,_,hsv,_,_,hdig,hcell⟩:=HP.o;simp only[Value.slice.injEq]at hsv;obtain⟨rfl,-,-⟩:=hsv;have HDG:=zq hdig;have HCE:=zq hcell
   have hi0:(n:Int)<=(c:Int):=by omega
   clear hn hPl hP hdl hdig hcell hr0;go_wp2_with fail;go_loop [11,12,55] (fun vv pp i=> ∃j:Nat,j<=n/\i=.int .i64 (j:Nat)/\vv=.int .u64 (decV (P.take j):Nat)/\pp=.int .u64 (pw j:Nat)) (fun _ _ i=>n-(intOf i).toNat)
   case atStart=>exact⟨0,Nat.zero_le _,rfl,rfl,rfl⟩
   case round=>
    obtain⟨j,hj,rfl,rfl,rfl⟩:=hrel;by_cases hlt:j<n
    ·obtain⟨x,hx⟩:∃x,P[j]?=some x:=⟨_,List.getElem?_eq_getElem (by have:=HPL.o;omega)⟩
     obtain⟨g',o',hao,e1⟩:=HCE.o j x hx
     cases hao
     have hx10:=HDG.o x (List.mem_of_getElem? hx);have hstep:=M9 hx;have hlt1:=Tu (ds:=P.take (j+1)) (fun y hy=>HDG.o y (List.mem_of_mem_take hy));have hlt2:=Ed (n:=(P.take (j+1)).length) (by rw[List.length_take];omega);have hp1:=Ed (n:=j+1) (by omega);obtain⟨m1,hm1⟩:=xq (decV (P.take j)*10)
     have hpw:pw (j+1)=pw j*10:=by unfold pw;rw[Nat.pow_succ]
     have hpw2:pw (j+1)<BB:=hp1
     have hw1:IntKind.u64.wrap ((decV (P.take j):Int)*10)=(m1:Int):=by unfold BB at*;rw[IntKind.wrap_u64];omega
     have hw2:IntKind.u64.wrap ((m1:Int)+(x:Int))=(decV (P.take (j+1)):Int):=by unfold BB at*;rw[IntKind.wrap_u64];omega
     have hw3:IntKind.u64.wrap ((pw j:Int)*10)=(pw (j+1):Int):=by unfold BB at*;rw[IntKind.wrap_u64];omega
     clear hx hstep hlt1 hlt2 hp1 hm1 hpw hpw2;go_wp2_with fail;exact⟨⟨j+1,by omega,by go_num,rfl,rfl⟩,by simp[intOf];omega⟩
    ·obtain rfl:j=n:=by omega
     have hpt:P.take j=P:=List.take_of_length_le (by have:=HPL.o;omega);rw[hpt]
     have hvb:decV P<BB:=by
      have h1:=Tu HDG.o;have h2:=Ed (n:=P.length) (by have:=HPL.o;omega);omega
     have hpb:pw j<BB:=Ed hn3;have HVB:=zq hvb;have HPB:=zq hpb;clear hpt hvb hpb hlt hj;go_wp2_with fail;refine(Qww zs (pw j) _ _ (by omega) HPB.o HA.o.1).mono ?_;rintro e w2 ⟨v2,z2,rfl,a1,a2,a3,a4,a5⟩;have A1:=zq a1.1;have A2:=zq a2;have A3:=zq a3;have A5:=zq a5;have hz2:=a5.size;clear a1 a2 a3 a4 a5;go_wp2_with fail;refine(Hq z2 [decV P] _ _ _ (by have:=A3.o;omega) (by simp) (A1.o.alloc _) (Pn w2 (decV P) HVB.o)).mono ?_;rintro e w3 ⟨v3,z3,rfl,a1,a2,a3,a4,a5⟩;have B1:Hid (Fr w.heap.size w3 v3 z3):=a1.mono (by simp;omega)
     have B2:Hid (val z3=decV (ds.take (pos+j))):=by
      show _=_;rw[a2,A2.o,HVA.o,Qy9 (by have:=HPR.o;omega),<-HPE.o];simp[val]
     have B4:=zq a4;have C5:Below wr.heap.size wr w3:=A5.o.trans (((Qq w2 _).trans (a5.mono (by simp))).mono hz2);have B5:Hid (Below w.heap.size w w3):=HB.o.trans (C5.mono hwz);have HD3:=zq (HD.o.below C5);clear a1 a2 a3 a4 a5 C5;by_cases hcn:c=j
     ·have HDA:Hid (RdD w3 (.slice (some ⟨g,o,none⟩) 0 0) (ds.drop (pos+j))):=by
       show RdD _ _ _;have:=HD3.o.dropAll (n:=j) (by rw[HDD.o];omega);rw[List.drop_drop]at this;exact this
      have hjr:rem<=j:=by omega
      go_wp2_with fail;have hfin:Qwr ds w (.slice (some ⟨g,o,none⟩) 0 0) v3 w3:=⟨pos+j,0,_,0,z3,by have:=HPR.o;omega,rfl,HDA.o,B1.o,B2.o,B4.o,B5.o⟩
      first|exact⟨hfin,by simp[szS];omega⟩|exact⟨by (repeat apply Exists.intro);exact⟨hfin,rfl⟩,by simp[szS];omega⟩
     ·have HDA:Hid (RdD w3 (.slice (some ⟨g,o+j,none⟩) (rem-j) (c-j)) (ds.drop (pos+j))):=by
       show RdD _ _ _;have:=HD3.o.drop (n:=j) (by rw[HDD.o];omega);rw[List.drop_drop,HDD.o]at this;exact this
      go_wp2_with fail;have hfin:Qwr ds w (.slice (some ⟨g,o+j,none⟩) (rem-j) (c-j)) v3 w3:=⟨pos+j,rem-j,_,c-j,z3,by have:=HPR.o;omega,rfl,HDA.o,B1.o,B2.o,B4.o,B5.o⟩
      first|exact⟨hfin,by simp[szS];omega⟩|exact⟨by (repeat apply Exists.intro);exact⟨hfin,rfl⟩,by simp[szS];omega⟩
theorem Kv:∀n,n<=1073741824->Cq n
 |0,_=>fun ds v w h _=>absurd h (Nat.not_lt_zero _)
 |n+1,hn=>fun ds v w h hv=>by
  by_cases h200:ds.length<=200
  ·exact Eh ds v w h200 hv
  ·exact Az n (Kv n (by omega)) (by omega) ds v w (by omega) (by omega) hv
theorem Qx0 (ds:List Nat)(v:Value)(w:World)(hl:ds.length<1073741824)(hv:RdD w v ds):
  Calls Tryz.prog 252 #[v,.int .i64 10] w (Zm (decV ds) ds.length w):=Kv _ (Nat.le_refl _) ds v w hl hv
open LexP
structure Wr (R:Nat) (og:Option Nat) (w w':World):Prop where
 os:w'.os=w.os
 tape:w'.tape=w.tape
 output:w'.output=w.output
 size:w.heap.size<=w'.heap.size
 block:∀k,k<w.heap.size->k≠R->some k≠og->w'.heap[k]?=w.heap[k]?
def Mv (w:World)(og og':Option Nat):Prop:=∀k,og'=some k->og=some k\/w.heap.size<=k
theorem Wr.refl (R:Nat)(og:Option Nat)(w:World):Wr R og w w:=⟨rfl,rfl,rfl,Nat.le_refl _,fun _ _ _ _=>rfl⟩
theorem Mv.refl (w:World)(og:Option Nat):Mv w og og:=fun _ h=> .inl h
theorem Wr.trans {R:Nat}{og og':Option Nat}{w w' w'':World}(h:Wr R og w w')(hm:Mv w og og')(k:Wr R og' w' w''):Wr R og w w'':=
 ⟨k.os.trans h.os,k.tape.trans h.tape,k.output.trans h.output,Nat.le_trans h.size k.size,fun i hi hR ho=>(k.block i (Nat.lt_of_lt_of_le hi h.size) hR (fun e=>by
  rcases hm i e.symm with E|E
  ·exact ho E.symm
  ·omega)).trans (h.block i hi hR ho)⟩
theorem Mv.trans {R:Nat}{w w':World}{og og' og'':Option Nat}(h:Mv w og og')(hw:w.heap.size<=w'.heap.size)(k:Mv w' og' og''):Mv w og og'':=fun i hi=>by
 rcases k i hi with E|E
 ·exact h i E
 ·exact .inr (by omega)
theorem Wr.of_below {R:Nat}{og:Option Nat}{w w':World}(h:Below w.heap.size w w'):Wr R og w w':=⟨h.os,h.tape,h.output,h.size,fun k hk _ _=>h.block k hk⟩
theorem Wr.of_grown {R:Nat}{og:Option Nat}{w w':World}(h:w.grownBy w' og):Wr R og w w':=⟨h.os,h.tape,h.output,h.size,fun k hk _ ho=>h.block k hk ho⟩
theorem Wr.of_set {R:Nat}{og:Option Nat}(w:World)(o:Nat)(u:Value):Wr R og w (w.setCell ⟨R,o,none⟩ u):=
 ⟨rfl,rfl,rfl,by simp[World.setCell],fun k _ hR _=>heap_setCell_other w ⟨R,o,none⟩ k u hR⟩
theorem Wr.to_below {R B:Nat}{og:Option Nat}{w0 w w':World}(h:Wr R og w w')(hb:Below B w0 w)(hB:B<=w.heap.size)(hR:B<=R)(ho:∀k,og=some k->B<=k):Below B w0 w':=
 ⟨h.os.trans hb.os,h.tape.trans hb.tape,h.output.trans hb.output,Nat.le_trans hb.size h.size,fun k hk=>(h.block k (by omega) (by omega) (fun e=>by have:=ho k e.symm;omega)).trans (hb.block k hk)⟩
theorem Rd.wr {R:Nat}{og:Option Nat}{w w':World}{v:Value}{xs:List Nat}(h:Rd w v xs)(hw:Wr R og w w')(h1:∀k,v.ownBlock=some k->k≠R/\og≠some k):Rd w' v xs:=by
 obtain⟨I,ao,H,rfl,a1,a2,a3,a4⟩:=h;refine⟨fun k hk=>Nat.lt_of_lt_of_le (I k hk) hw.size,ao,H,rfl,a1,a2,a3,fun i x hx=> ?_⟩;obtain⟨g,o,rfl,E⟩:=a4 i x hx;obtain⟨b1,b2⟩:=h1 g rfl;exact⟨g,o,rfl,(World.cell?_of_block (hw.block g (World.block_lt_of_cell? w _ E) b1 (fun e=>b2 e.symm))).trans E⟩
def u8s (l:Qx):List Value:=l.map fun b=> .int .u8 ((b.toNat:Nat):Int)
theorem Qze (l:Qx):(u8s l).length=l.length:=by simp[u8s]
theorem Dx (a b:Qx):u8s (a++b)=u8s a++u8s b:=by simp[u8s]
theorem Qp1 (l:Qx):∀u∈u8s l,u.oneCell'=true:=by
 intro u h;simp only[u8s,List.mem_map]at h;obtain⟨d,_,rfl⟩:=h;rfl
theorem Tryz.infoU8d:(Tryz.prog.info? 5).map (fun i=>(i.zero,i.size,i.bytes))=some (some (.int .u8 0),1,1):=by kernel_rfl
def SG (w:World):Prop:=∀d,d<10->w.cell? ⟨4,d,none⟩=some (.int .u8 ((48+d:Nat):Int))
theorem SG.below {w w':World}{B:Nat}(h:SG w)(hb:Below B w w')(hB:4<B):SG w':=fun d hd=>by rw[hb.cell (p:=⟨4,d,none⟩) hB];exact h d hd
theorem SG.wr {R:Nat}{og:Option Nat}{w w':World}(h:SG w)(hw:Wr R og w w')(h1:4≠R)(h2:og≠some 4):SG w':=fun d hd=>
 (World.cell?_of_block (hw.block _ (World.block_lt_of_cell? w _ (h d hd)) h1 (fun e=>h2 e.symm))).trans (h d hd)
structure WS (w:World) (R:Nat) (pv ov:Value) (out:Qx):Prop where
 blk:w.heap[R]?=some (.cells #[.int .i64 10,.int .i64 19,.int .u64 10000000000000000000,pv,ov] 216 (0,0))
 own:w.ownsRow (R+1) 5 1 ov out.length (u8s out)
 big:4<R
theorem WS.ne {w:World}{R:Nat}{pv ov:Value}{out:Qx}(h:WS w R pv ov out):∀k,ov.ownBlock=some k->R<k/\k<w.heap.size:=fun k hk=>by
 have:=h.own.lt k hk;omega
theorem WS.lt {w:World}{R:Nat}{pv ov:Value}{out:Qx}(h:WS w R pv ov out):R<w.heap.size:=(Array.getElem?_eq_some_iff.1 h.blk).1
theorem WS.cell {w:World}{R:Nat}{pv ov:Value}{out:Qx}(h:WS w R pv ov out):w.cell? ⟨R,0,none⟩=some (.int .i64 10)/\w.cell? ⟨R,1,none⟩=some (.int .i64 19)/\w.cell? ⟨R,2,none⟩=some (.int .u64 10000000000000000000)/\w.cell? ⟨R,3,none⟩=some pv/\w.cell? ⟨R,4,none⟩=some ov/\w.frozen? ⟨R,4,none⟩=false:=by
 refine⟨?_,?_,?_,?_,?_,frozen_of_row w R 4 _ _ h.blk⟩<;>rw[cell_of_row w R _ _ _ _ h.blk]<;>rfl
theorem WS.kept {w w':World}{R:Nat}{pv ov:Value}{out:Qx}{row:Option Nat}(h:WS w R pv ov out)(hg:w.grownBy w' row)(h1:row≠some R)(h2:∀k,row=some k->ov.ownBlock≠some k):WS w' R pv ov out:=
 ⟨(hg.block R h.lt (fun e=>h1 e.symm)).trans h.blk,h.own.kept hg (by
  cases ho:ov.ownBlock with
  |none=>exact .inl rfl
  |some k=>exact .inr (fun e=>h2 k e.symm (by rw[ho]))),h.big⟩
theorem WS.below {w w':World}{R:Nat}{pv ov:Value}{out:Qx}(h:WS w R pv ov out)(hb:Below w.heap.size w w'):WS w' R pv ov out:=
 h.kept (row:=none) ⟨hb.os,hb.tape,hb.output,hb.size,fun k hk _=>hb.block k hk⟩ (by simp) (fun k hk=>by cases hk)
def Qxn (w:World)(R:Nat)(pv ov:Value)(out l:Qx)(e:Ending)(w':World):Prop:=∃ov',e=.returned (.tuple #[])/\WS w' R pv ov' (out++l)/\Wr R ov.ownBlock w w'/\Mv w ov.ownBlock ov'.ownBlock
theorem WS.grow {w w2:World}{R gg n cap:Nat}{pv ov:Value}{out l:Qx}(h:WS w R pv ov out)(hown:w2.ownsRow (R+1) 5 1 (.slice (some ⟨gg,0,none⟩) n cap) n (u8s out++u8s l))(hn:n=(out++l).length)
  (hg:w.grownBy w2 ov.ownBlock) (hat:ov.ownBlock=some gg\/gg=w.heap.size):
  WS (w2.setCell ⟨R,4,none⟩ (.slice (some ⟨gg,0,none⟩) n cap)) R pv (.slice (some ⟨gg,0,none⟩) n cap) (out++l)/\Wr R ov.ownBlock w (w2.setCell ⟨R,4,none⟩ (.slice (some ⟨gg,0,none⟩) n cap))/\Mv w ov.ownBlock (Value.ownBlock (.slice (some ⟨gg,0,none⟩) n cap)):=by
 have H:some R≠ov.ownBlock:=fun e=>by have:=h.ne R e.symm;omega
 have I:=(hg.block R h.lt H).trans h.blk;have E:=heap_setCell_same w2 R 4 #[.int .i64 10,.int .i64 19,.int .u64 10000000000000000000,pv,ov] 216 (.slice (some ⟨gg,0,none⟩) n cap) I;refine⟨⟨E.trans (by simp),?_,h.big⟩,(Wr.of_grown hg).trans (Mv.refl _ _) (Wr.of_set w2 4 _),?_⟩
 ·subst hn
  rw[Dx];exact ownsRow_setCell_below hown (by simp) _
 ·intro k J
  cases J
  rcases hat with h|h
  ·exact .inl h
  ·exact .inr (Nat.le_of_eq h.symm)
end Go.Proofs.YtgfmiladfeoldaaGreatDoor
