import Derived.Test.YtgfmiladfeoldaaGreatDoorPk3
import Derived.Test.YtgfmiladfeoldaaGreatDoorPk2
import Derived.Deep.AppendLies
import Derived.Test.YtgfmiladfeoldaaGreatDoorPk5
set_option linter.unusedSimpArgs false
set_option linter.unusedVariables false
set_option maxRecDepth 100000
set_option maxHeartbeats 16000000
namespace Go.Proofs.YtgfmiladfeoldaaGreatDoor
open Go.RowKit NatP
def bitsN (xs:List Nat):Nat:=if (Qy xs).length=0 then 0 else 64*((Qy xs).length-1)+Lib.bitLen ((Qy xs).getD ((Qy xs).length-1) 0)
theorem Uy {x:Nat}(h0:0<x)(h:x<BB):1<=Lib.bitLen x/\Lib.bitLen x<=64/\2^(Lib.bitLen x-1)<=x/\x<2^Lib.bitLen x:=by
 have h':x<2^64:=h;obtain⟨E,H,I⟩:=Lib.bitLenAux_bounds 64 x h' (by omega);exact⟨E,Lib.bitLen_le x 64 (Nat.le_refl _) h',H,I⟩
theorem Kf (xs:List Nat)(hok:ok xs):bitsN xs=0↔val xs=0:=by
 rw[<-Qu xs];unfold bitsN;by_cases h:(Qy xs).length=0
 ·rw[if_pos h,List.eq_nil_of_length_eq_zero h];simp[val]
 ·rw[if_neg h]
  obtain⟨n,T⟩:∃n,(Qy xs).length=n+1:=⟨(Qy xs).length-1,by omega⟩;obtain⟨d,E,J⟩:=Vf xs n T;have K:d<BB:=J5 hok d (List.mem_of_getElem? E);rw[T,Nat.add_sub_cancel,List.getD_eq_getElem?_getD,E];have:=Uy (Nat.pos_of_ne_zero J) K;simp only[Option.getD_some];have U:=Xm (Qy xs) n (by omega)
  have O:(Qy xs).drop n=[d]:=by
   have H:n<(Qy xs).length:=by omega
   rw[List.drop_eq_getElem_cons H];have I:=List.getElem?_eq_getElem H;rw[E]at I;rw[<-Option.some.inj I,List.drop_eq_nil_of_le (by omega)]
  rw[O]at U;have Z:0<BB^n*val [d]:=Nat.mul_pos (Nat.pow_pos Xf) (by simp[val];omega);omega
theorem Vk (v:Value)(xs:List Nat)(w:World)(hr:Rd w v xs)(hl:xs.length<=1099511627776):
  Calls Tryz.prog 58 #[v] w fun e w'=>e=.returned (.int .i64 (bitsN xs:Nat))/\w=w':=by
 have HR:=zq hr;obtain⟨ao,cap,rfl,hnc,hcm,hok,hsh⟩:=hr.2;have HSH:=zq hsh;have HOK:=zq hok;have hle:=Qr xs;obtain⟨n,hn⟩:=xq ((Qy xs).length);rw[<-hn]at hle;have HN:=zq hn;clear hsh hok hcm hr;by_cases h0:n=0
 ·have hb:bitsN xs=0:=by unfold bitsN;rw[if_pos (by omega)]
  have HB:=zq hb;subst h0;clear hb hn;go_enter Tryz.func58,Tryz.ntmps58;go_wp2_with fail;refine(X8 _ xs _ HR.o).mono ?_;rintro e w' ⟨rfl,rfl⟩;rw[<-HN.o];go_wp2_with fail;go_ret;exact⟨by rw[HB.o];rfl,rfl⟩
 ·obtain⟨m,rfl⟩:∃m,n=m+1:=⟨n-1,by omega⟩
  obtain⟨d,hd,hd0⟩:=Vf xs m hn.symm
  have hdx:xs[m]?=some d:=by
   rw[(Yg xs).1,List.getElem?_take]at hd;split at hd
   ·exact hd
   ·cases hd
  have hdb:=HOK.o d (List.mem_of_getElem? hdx)
  have hb:bitsN xs=64*m+Lib.bitLen d:=by
   unfold bitsN;rw[if_neg (by omega),<-hn,Nat.add_sub_cancel,List.getD_eq_getElem?_getD,hd];rfl
  have hbl:=(Uy (Nat.pos_of_ne_zero hd0) hdb).2.1;obtain⟨k,hk⟩:=xq (Lib.bitLen d);rw[<-hk]at hb hbl;obtain⟨g,o,rfl,e1⟩:=HSH.o m d hdx;have HB:=zq hb;have HK:=zq hk;have HDB:=zq hdb;clear hb hd hdx hk hdb hn hd0;go_enter Tryz.func58,Tryz.ntmps58;go_wp2_with fail;refine(X8 _ xs _ HR.o).mono ?_;rintro e w' ⟨rfl,rfl⟩;rw[<-HN.o];go_wp2_with fail;refine(Tryz.bits_Len64 (d:Int) _ (by omega) (by have:=HDB.o;unfold BB at this;omega)).mono ?_;rintro e w1 ⟨rfl,rfl⟩;rw[Int.toNat_natCast,<-HK.o];go_wp2_with fail;go_ret;exact⟨by rw[HB.o];exact Wi (by omega),rfl⟩
def cmpI (a b:Nat):Int:=if a<b then -1 else if b<a then 1 else 0
theorem We {l:List Nat}{k x:Nat}(h:l[k]?=some x):val (l.drop k)=x+BB*val (l.drop (k+1)):=by
 have E:k<l.length:=(List.getElem?_eq_some_iff.1 h).1;rw[List.drop_eq_getElem_cons E];have:=List.getElem?_eq_getElem E;rw[h]at this;rw[<-Option.some.inj this];rfl
theorem Qqz {l:List Nat}{m:Nat}(h:(Qy l).length=m+1):BB^m<=val l:=by
 rw[<-Qu l];obtain⟨d,E,H⟩:=Vf l m h;rw[Xm (Qy l) m (by omega),We E];have I:BB^m*1<=BB^m*(d+BB*val ((Qy l).drop (m+1))):=Nat.mul_le_mul_left _ (by omega);omega
theorem Me {xs ys:List Nat}(hx:ok xs)(h:(Qy xs).length<(Qy ys).length):val xs<val ys:=by
 obtain⟨m,H⟩:∃m,(Qy ys).length=m+1:=⟨(Qy ys).length-1,by omega⟩;have I:=Qqz H;have E:=Yk (J5 hx);rw[Qu]at E;have J:BB^(Qy xs).length<=BB^m:=Nat.pow_le_pow_right Xf (by omega);omega
theorem C9 {X Y:List Nat}{k x y:Nat}(hX:ok X)(hx:X[k]?=some x)(hy:Y[k]?=some y)(hd:val (X.drop (k+1))=val (Y.drop (k+1)))(hlt:x<y):val X<val Y:=by
 have lx:k<X.length:=(List.getElem?_eq_some_iff.1 hx).1;have ly:k<Y.length:=(List.getElem?_eq_some_iff.1 hy).1;rw[Xm X k (by omega),Xm Y k (by omega),We hx,We hy,hd];have h:=Yk (Zd hX k);rw[List.length_take,Nat.min_eq_left (by omega)]at h;have E:BB^k*(x+BB*val (Y.drop (k+1))+1)<=BB^k*(y+BB*val (Y.drop (k+1))):=Nat.mul_le_mul_left _ (by omega);rw[Nat.mul_add,Nat.mul_one]at E;omega
def Qpk (a b:Nat)(w:World)(e:Ending)(w':World):Prop:=e=.returned (.int .i64 (cmpI a b))/\Below w.heap.size w w'
def Qma (X Y:List Nat)(w:World)(i:Value)(wr:World):Prop:=∃k:Nat,k<=X.length/\i=.int .i64 ((k:Int)-1)/\val (X.drop k)=val (Y.drop k)/\Below w.heap.size w wr
theorem Qpn {X Y:List Nat}(h:val (X.drop 0)=val (Y.drop 0)):cmpI (val X) (val Y)=0:=by
 rw[List.drop_zero,List.drop_zero]at h;unfold cmpI;rw[h];simp
theorem Ma {a b:Nat}(h:a<b):cmpI a b= -1:=if_pos h
theorem Qza {a b:Nat}(h:b<a):cmpI a b=1:=by unfold cmpI;rw[if_neg (by omega),if_pos h]
theorem V9 (v u:Value)(xs ys:List Nat)(w:World)(hv:Rd w v xs)(hu:Rd w u ys):
  Calls Tryz.prog 166 #[v,u] w (Qpk (val xs) (val ys) w):=by
 have HV:=zq hv;have HU:=zq hu;obtain⟨ao,cap,rfl,hnc,hcm,hok,-⟩:=hv.2;obtain⟨bo,cap2,rfl,hnc2,hcm2,hok2,-⟩:=hu.2;have HOK:=zq hok;have HOK2:=zq hok2;have hle:=Qr xs;have hle2:=Qr ys;obtain⟨n,hn⟩:=xq ((Qy xs).length);obtain⟨m,hm⟩:=xq ((Qy ys).length);rw[<-hn]at hle;rw[<-hm]at hle2
 have hb:xs.length<=9223372036854775807:=by unfold maxLen at hcm;omega
 have hb2:ys.length<=9223372036854775807:=by unfold maxLen at hcm2;omega
 have HN:=zq hn;have HM:=zq hm;clear hv hu hok hok2 hcm hcm2 hn hm;go_enter Tryz.func166,Tryz.ntmps166;go_wp2_with fail;refine(X8 _ xs _ HV.o).mono ?_;rintro e w' ⟨rfl,rfl⟩;rw[<-HN.o];go_wp2_with fail;refine(X8 _ ys _ HU.o).mono ?_;rintro e w' ⟨rfl,rfl⟩;rw[<-HM.o];by_cases hnm:n=m
 ·have hnmB:((n:Int) !=(m:Int))=false:=by simp[hnm]
  have HNM:=zq hnm;clear hnm
  have HX:Hid (val xs=val (xs.take n)):=by show _=_;rw[HN.o,<-(Yg xs).1,Qu]
  have HY:Hid (val ys=val (ys.take n)):=by show _=_;rw[HNM.o,HM.o,<-(Yg ys).1,Qu]
  have hle3:n<=ys.length:=by have:=HNM.o;omega
  go_wp2_with fail;go_loopw [7] (fun i wr=>Qma (xs.take n) (ys.take n) w i wr) (fun i _=>(intOf i+1).toNat)
  case atStart=>exact⟨n,by rw[List.length_take];omega,rfl,by rw[List.drop_eq_nil_of_le (by rw[List.length_take];omega),List.drop_eq_nil_of_le (by rw[List.length_take];omega)],Below.refl _ _⟩
  case round=>
   obtain⟨k,hk,rfl,hd,hbl⟩:=hrel;rw[List.length_take,Nat.min_eq_left hle]at hk;have HD:=zq hd;have HBL:=zq hbl;clear hd hbl
   cases k with
   |zero=>
    have hge: ¬((0:Int)<=((0:Nat):Int)-1):=by omega
    have HZ:=zq (Qpn HD.o);rw[<-HX.o,<-HY.o]at HZ;go_wp2_with fail;go_ret
    exact⟨by rw[HZ.o];rfl,HBL.o⟩
   |succ k=>
    have hkk:(((k+1:Nat):Int)-1)=(k:Int):=by omega
    rw[hkk];clear hkk;obtain⟨x,hx⟩:∃x,xs[k]?=some x:=⟨_,List.getElem?_eq_getElem (by omega)⟩;obtain⟨y,hy⟩:∃y,ys[k]?=some y:=⟨_,List.getElem?_eq_getElem (by omega)⟩;obtain⟨ao',cap',e,-,-,-,hsh⟩:=(HV.o.below HBL.o).2
    cases e
    obtain⟨g,o,rfl,e1⟩:=hsh k x hx;obtain⟨bo',cap2',e',-,-,-,hsh2⟩:=(HU.o.below HBL.o).2
    cases e'
    obtain⟨g2,o2,rfl,e2⟩:=hsh2 k y hy
    have hxt:(xs.take n)[k]?=some x:=by rw[List.getElem?_take,if_pos (by omega)];exact hx
    have hyt:(ys.take n)[k]?=some y:=by rw[List.getElem?_take,if_pos (by omega)];exact hy
    have HXT:=zq hxt;have HYT:=zq hyt;have hi0:(0:Int)<=(k:Int):=Int.natCast_nonneg _
    have hi1:(k:Int)<(xs.length:Int):=by omega
    have hi2:(k:Int)<(ys.length:Int):=by omega
    clear hsh hsh2 hx hy hxt hyt;by_cases hlt:x<y
    ·have hb1:decide (x<y)=true:=by simp[hlt]
     have HF:Hid (cmpI (val xs) (val ys)= -1):=by
      show _=_;rw[HX.o,HY.o];exact Ma (C9 (Zd HOK.o _) HXT.o HYT.o HD.o hlt)
     clear hlt;go_wp2_with fail;go_quiet (fail);go_wp2_with fail;go_ret;exact⟨by rw[HF.o];rfl,below_drewN HBL.o _⟩
    ·have hb1:decide (x<y)=false:=by simp[hlt]
     by_cases hgt:y<x
     ·have hb3:decide (y<x)=true:=by simp[hgt]
      have HF:Hid (cmpI (val xs) (val ys)=1):=by
       show _=_;rw[HX.o,HY.o];exact Qza (C9 (Zd HOK2.o _) HYT.o HXT.o HD.o.symm hgt)
      clear hlt hgt;go_wp2_with fail;go_quiet (fail);go_wp2_with fail;go_quiet (fail);go_wp2_with fail;go_ret;exact⟨by rw[HF.o];rfl,below_drewN (below_drewN HBL.o _) _⟩
     ·have hb3:decide (y<x)=false:=by simp[hgt]
      have HF:Hid (val ((xs.take n).drop k)=val ((ys.take n).drop k)):=by
       show _=_;rw[We HXT.o,We HYT.o,HD.o,show x=y from by omega]
      clear hlt hgt;go_wp2_with fail;go_quiet (fail);go_wp2_with fail;go_quiet (fail);go_wp2_with fail
      exact⟨⟨k,by rw[List.length_take];omega,rfl,HF.o,below_drewN HBL.o _⟩,by simp[intOf]<;>omega⟩
 ·have hnmB:((n:Int) !=(m:Int))=true:=by simp;omega
  by_cases hlt:n<m
  ·have hb1:decide (n<m)=true:=by simp[hlt]
   have HF:Hid (cmpI (val xs) (val ys)= -1):=Ma (Me HOK.o (by rw[<-HN.o,<-HM.o];exact hlt));clear hlt hnm;go_wp2_with fail;go_ret;exact⟨by rw[HF.o];rfl,Below.refl _ _⟩
  ·have hb1:decide (n<m)=false:=by simp[hlt]
   have HF:Hid (cmpI (val xs) (val ys)=1):=Qza (Me HOK2.o (by rw[<-HN.o,<-HM.o];omega));clear hlt hnm;go_wp2_with fail;go_ret;exact⟨by rw[HF.o];rfl,Below.refl _ _⟩
def WdSt (L:List Nat)(y k r:Nat)(M:List Nat):Prop:=M.length=L.length/\M.take k=L.take k/\r<y/\val (L.drop k)=val (M.drop k)*y+r
theorem WdSt.start (L:List Nat){y:Nat}(hy:0<y):WdSt L y L.length 0 L:=⟨rfl,rfl,hy,by rw[List.drop_eq_nil_of_le (Nat.le_refl _)];simp[val]⟩
theorem WdSt.at {L M:List Nat}{y k r x:Nat}(h:WdSt L y (k+1) r M)(hx:M[k]?=some x):L[k]?=some x:=by
 have:=congrArg (fun l=>l[k]?) h.2.1;simp only[List.getElem?_take,Nat.lt_succ_self,if_true]at this;rw[<-this];exact hx
theorem WdSt.step {L M:List Nat}{y k r x:Nat}(h:WdSt L y (k+1) r M)(hx:M[k]?=some x):WdSt L y k ((r*BB+x) % y) (M.set k ((r*BB+x) / y)):=by
 have J:=h.at hx;obtain⟨E,H,O,I⟩:=h;have K:k<M.length:=(List.getElem?_eq_some_iff.1 hx).1;refine⟨by rw[List.length_set,E],?_,Nat.mod_lt _ (by omega),?_⟩
 ·rw[Pl _ (Nat.le_refl _)]
  have:=congrArg (List.take k) H;rw[List.take_take,List.take_take,Nat.min_eq_left (Nat.le_succ k)]at this;exact this
 ·have e1:(M.set k ((r*BB+x) / y))[k]?=some ((r*BB+x) / y):=by rw[List.getElem?_set_self K]
  rw[We J,We e1,Sc,I];have:=Nat.div_add_mod (r*BB+x) y;generalize (r*BB+x) / y=q at*;generalize (r*BB+x) % y=t at*;rw[Nat.mul_add,Nat.add_mul,Nat.mul_comm BB r,Nat.mul_assoc,Nat.mul_comm y q]at*;omega
theorem WdSt.fin {L M:List Nat}{y r:Nat}(h:WdSt L y 0 r M):M.length=L.length/\val M=val L / y/\r=val L % y:=by
 obtain⟨I,_,H,E⟩:=h;rw[List.drop_zero,List.drop_zero]at E
 have J:0<y:=by omega
 refine⟨I,?_,?_⟩
 ·rw[E,Nat.mul_comm,Nat.mul_add_div J,Nat.div_eq_of_lt H,Nat.add_zero]
 ·rw[E,Nat.mul_comm,Nat.mul_add_mod,Nat.mod_eq_of_lt H]
def Qk1 (a y m:Nat)(w:World)(e:Ending)(w':World):Prop:=∃v qs,e=.returned (.tuple #[v,.int .u64 (a % y:Nat),.int .i64 0])/\Fr w.heap.size w' v qs/\val qs=a / y/\qs.length<=m/\Qy qs=qs/\Below w.heap.size w w'
theorem Ni (v:Value)(xs:List Nat)(y:Nat)(w:World)(hv:Rd w v xs)(hl:xs.length<=549755813888)(hy0:0<y)(hy:y<BB):
  Calls Tryz.prog 254 #[v,.int .u64 (y:Nat)] w (Qk1 (val xs) y xs.length w):=by
 have HV:=zq hv;obtain⟨ao,cap,rfl,hnc,hcm,hok,-⟩:=hv.2
 have hyz:((y:Int)==0)=false:=by simp;omega
 have HY:=zq hy;have HY0:=zq hy0;clear hv hok hcm hy hy0;go_enter Tryz.func254,Tryz.ntmps254;go_wp2_with fail;refine(Ju _ xs _ HV.o (by omega)).mono ?_;rintro e w1 ⟨rfl,hB,hb⟩;obtain⟨X,hX⟩:=xq (Qy xs)
 have hXl:X.length<=549755813888:=by have:=Qr xs;rw[hX];omega
 have hXl2:X.length<=xs.length:=by have:=Qr xs;rw[hX];omega
 rw[<-hX]at hB ⊢;have HX:=zq hX;have HB:=zq hB;have HBL:=zq hb;have HST0:=zq (WdSt.start X HY0.o);obtain⟨g,hg⟩:=xq w.heap.size;rw[<-hg]at HB ⊢;have HG:=zq hg;obtain⟨n,hn⟩:=xq X.length;rw[<-hn]at hXl hXl2 HST0 ⊢;have HN:=zq hn;clear hX hB hb hg hn;go_wp2_with fail;go_loopw [8,9] (fun r i wr=> ∃(k rr:Nat) (M:List Nat),k<=n/\i=.int .i64 ((k:Int)-1)/\r=.int .u64 (rr:Nat)/\WdSt X y k rr M/\Blk wr g M/\w1.grownBy wr (some g)) (fun _ i _=>(intOf i+1).toNat)
 case atStart=>exact⟨n,0,X,Nat.le_refl _,rfl,rfl,HST0.o,HB.o,X5 _ _⟩
 case round=>
  obtain⟨k,rr,M,hk,rfl,rfl,hst,hM,hgr⟩:=hrel;have HST:=zq hst;have HM:=zq hM;have HGR:=zq hgr
  have hml:M.length=n:=by rw[hst.1,HN.o]
  clear hst hM hgr
  cases k with
  |zero=>
   have hge: ¬((0:Int)<=((0:Nat):Int)-1):=by omega
   have HF:=zq HST.o.fin;have HWB:Hid (Below w.heap.size w wr):=Below.grown HBL.o HGR.o HBL.o.size (fun q hq=>by cases hq;rw[HG.o];exact Nat.le_refl _)
   have HR:Hid (Rd wr (.slice (some ⟨g,0,none⟩) n n) M):=by
    have h0:=HM.o.whole (by omega);rw[hml]at h0;exact h0
   clear HST0 HB;go_wp2_with fail;refine(Ju _ M _ HR.o (by omega)).mono ?_;rintro e w3 ⟨rfl,hB3,hb3⟩;have HB3:=zq hB3;have HBL3:Hid (Below w.heap.size w w3):=HWB.o.trans (hb3.mono HWB.o.size);have hz:=HWB.o.size;clear hB3 hb3;go_wp2_with fail;go_ret3;have hsM:=Qr M;refine⟨_,Qy M,by rw[<-Qu xs,<-HX.o,<-HF.o.2.2];rfl,⟨HB3.o.whole (by omega),fun q hq=>by cases hq;exact⟨hz,HB3.o.lt⟩⟩,?_,by omega,Yt M,HBL3.o⟩
   rw[Qu,HF.o.2.1,HX.o,Qu]
  |succ k=>
   have hkk:(((k+1:Nat):Int)-1)=(k:Int):=by omega
   rw[hkk];clear hkk;obtain⟨x,hx⟩:∃x,M[k]?=some x:=⟨_,List.getElem?_eq_getElem (by omega)⟩;have hxb:=HM.o.2 x (List.mem_of_getElem? hx);have HXB:=zq hxb;have hrr:=HST.o.2.2.1;have HRR:=zq hrr;have HS2:=zq (HST.o.step hx);have e1:=HM.o.cell hx
   have hq:(rr*BB+x) / y<BB:=by
    rw[Nat.div_lt_iff_lt_mul HY0.o];have h2:(rr+1)*BB<=y*BB:=Nat.mul_le_mul_right _ hrr;rw[Nat.mul_comm BB y];rw[Nat.add_mul,Nat.one_mul]at h2;omega
   obtain⟨q,hqe⟩:=xq ((rr*BB+x) / y);obtain⟨r2,hre⟩:=xq ((rr*BB+x) % y);rw[<-hqe]at hq HS2;rw[<-hre]at HS2;have HQ:=zq hq;have HQE:=zq hqe;have HRE:=zq hre;have hi0:(0:Int)<=(k:Int):=Int.natCast_nonneg _
   have hi1:(k:Int)<(n:Int):=by omega
   clear hx hxb hq hrr hqe hre;go_wp2_with fail;refine(Qvp rr x y _ HXB.o HRR.o HY.o).mono ?_;rintro e w3 ⟨rfl,hb3⟩;rw[<-HQE.o,<-HRE.o];have HM3:=zq (HM.o.below hb3 HM.o.lt);have HGR3:=zq (Pz HGR.o hb3);have HS:=zq (HM3.o.set k HQ.o);obtain⟨z,hz⟩:∃z,M[k]?=some z:=⟨_,List.getElem?_eq_getElem (by omega)⟩;have e4:=HM3.o.cell hz;have e3:=HM3.o.frozen k;clear hz hb3 e1;go_wp2_with fail
   have hfin:∃(k' rr':Nat) (M':List Nat),k'<=n/\Value.int .i64 ((k:Int)-1)=.int .i64 ((k':Int)-1)/\Value.int .u64 (r2:Nat)=.int .u64 (rr':Nat)/\WdSt X y k' rr' M'/\Blk (w3.setCell ⟨g,k,none⟩ (.int .u64 (q:Nat))) g M'/\w1.grownBy (w3.setCell ⟨g,k,none⟩ (.int .u64 (q:Nat))) (some g):=
    ⟨k,r2,M.set k q,by omega,rfl,rfl,HS2.o,HS.o.1,Xw HGR3.o HS.o.2⟩
   exact⟨hfin,by simp[intOf]<;>omega⟩
def ShSt (L:List Nat)(S n i c:Nat)(M:List Nat):Prop:=M.length=n/\c<S/\val (M.take i)+BB^i*c=val (L.take i)*S
theorem ShSt.start (L:List Nat){S:Nat}(hS:0<S)(n:Nat):ShSt L S n 0 0 (List.replicate n 0):=⟨List.length_replicate,hS,by simp[val]⟩
theorem ShSt.step {L M:List Nat}{S n i c x c2 lo:Nat}(h:ShSt L S n i c M)(hi:i<n)(hx:(L[i]?=some x)\/(L.length<=i/\x=0))(hs:x*S=c2*BB+lo)(hc:c2<S):ShSt L S n (i+1) c2 (M.set i (lo+c)):=by
 obtain⟨H,J,I⟩:=h;refine⟨by rw[List.length_set,H],hc,?_⟩
 have e1:(M.set i (lo+c)).take (i+1)=M.take i++[lo+c]:=by
  have:=Rv (l:=M) (o:=0) (i:=i) (lo+c) (by omega);rw[List.drop_zero,List.drop_zero,Nat.zero_add]at this;exact this
 have e2:val (L.take (i+1))=val (L.take i)+BB^i*x:=by
  rcases hx with hx|⟨hx,rfl⟩
  ·have E:i<L.length:=(List.getElem?_eq_some_iff.1 hx).1
   rw[X1 E];have:=List.getElem?_eq_getElem E;rw[hx]at this;rw[<-Option.some.inj this]
  ·rw[List.take_of_length_le hx,List.take_of_length_le (by omega)];simp
 rw[e1,Zk,List.length_take,Nat.min_eq_left (by omega),e2,Nat.add_mul,<-I,Nat.mul_assoc,hs];rw[Nat.pow_succ,Nat.mul_add,Nat.mul_add,Nat.mul_assoc,Nat.mul_comm BB c2];omega
theorem ShSt.fin {L M:List Nat}{S n c:Nat}(h:ShSt L S n n c M)(hl:L.length<=n)(hv:val L*S<BB^n):val M=val L*S:=by
 obtain⟨H,I,E⟩:=h;rw[List.take_of_length_le (by omega),List.take_of_length_le hl]at E;exact(Sf E hv).2
theorem Qx8 {x s t:Nat}(hx:x<BB)(hst:s+t=64)(hs:s<64):∃lo c2,x*2^s=c2*BB+lo/\lo<BB/\lo % 2^s=0/\c2<2^s/\IntKind.u64.wrap ((x:Int)*2^s)=(lo:Int)/\(x:Int) / 2^t=(c2:Int)/\(s=0->c2=0):=by
 have E:BB=2^t*2^s:=by rw[<-Nat.pow_add,show t+s=64 from by omega];rfl
 have H:0<2^s:=Nat.pow_pos (by omega);have I:0<2^t:=Nat.pow_pos (by omega)
 have e:(x:Int)*2^s=((x*2^s:Nat):Int):=by rw[Int.natCast_mul,Int.natCast_pow];rfl
 have e2:(x:Int) / 2^t=((x / 2^t:Nat):Int):=by rw[Int.natCast_ediv,Int.natCast_pow];rfl
 have J:x*2^s / BB=x / 2^t:=by rw[E];exact Nat.mul_div_mul_right _ _ H
 have h:=Nat.div_add_mod (x*2^s) BB;rw[J,Nat.mul_comm]at h;refine⟨x*2^s % BB,x / 2^t,h.symm,Nat.mod_lt _ Xf,?_,?_,?_,e2,?_⟩
 ·rw[E,Nat.mul_mod_mul_right,Nat.mul_mod_left]
 ·rw[Nat.div_lt_iff_lt_mul I,Nat.mul_comm,<-E];exact hx
 ·rw[e,IntKind.wrap_u64]
  have:((x*2^s % BB:Nat):Int)=((x*2^s:Nat):Int) % (BB:Nat):=Int.natCast_emod _ _;rw[this];rfl
 ·rintro rfl
  have:t=64:=by omega
  subst this;exact Nat.div_eq_of_lt hx
theorem Wc {w1 wr:World}{B g:Nat}(h:w1.grownBy wr (some g))(hB:B<=w1.heap.size)(hg:B<=g):Below B w1 wr:=
 ⟨h.os,h.tape,h.output,h.size,fun k hk=>h.block k (by omega) (fun e=>by cases e;omega)⟩
def Qpw (V n:Nat)(w:World)(e:Ending)(w':World):Prop:=∃M,e=.returned (.slice (some ⟨w.heap.size,0,none⟩) n n)/\Blk w' w.heap.size M/\M.length=n/\val M=V/\Below w.heap.size w w'
def Qmf (L:List Nat)(S n g:Nat)(w1:World)(cv i:Value)(wr:World):Prop:=∃(k c:Nat) (M:List Nat),k<=n/\i=.int .i64 (k:Nat)/\cv=.int .u64 (c:Nat)/\ShSt L S n k c M/\Blk wr g M/\w1.grownBy wr (some g)
theorem R7 (v:Value)(xs:List Nat)(s n:Nat)(w:World)(hv:Rd w v xs)(hs:s<64)(hn:n<=1099511627776)(hl:xs.length<=n)(hfit:val xs*2^s<BB^n):
  Calls Tryz.prog 279 #[v,.int .u64 (s:Nat),.int .i64 (n:Nat)] w (Qpw (val xs*2^s) n w):=by
 have HV:=zq hv;obtain⟨ao,cap,rfl,hnc,hcm,hok,-⟩:=hv.2;have HOK:=zq hok;have HMK:=Zz n hn;obtain⟨g,hg⟩:=xq w.heap.size;have HB:=(Blk.made w n).1;obtain⟨w1,hw1⟩:=xq (w.alloc (.cells (madeCells #[.int .u64 0] n) 101));have HBL:=Qq w (.cells (madeCells #[.int .u64 0] n) 101);rw[<-hw1]at HBL
 have HB1:Hid (Blk w1 g (List.replicate n 0)):=by rw[hw1,hg];exact Blk.made w n
 obtain⟨t,ht⟩:=xq (64-s)
 have hst:s+t=64:=by omega
 have E1:IntKind.u64.wrap (64-(s:Int))=(t:Int):=by rw[IntKind.wrap_u64];omega
 have E2:min s 64=s:=by omega
 have E3:min t 64=t:=by omega
 have HST0:=zq (ShSt.start xs (Nat.pow_pos (n:=s) (show 0<2 by omega)) n);have HFIT:=zq hfit;have HHBL:=zq HBL;have HG:=zq hg;have HW1:=zq hw1;have HT:=zq ht;clear hv hok hcm HB HBL hg hw1 ht hfit;go_enter Tryz.func279,Tryz.ntmps279;go_wp2_with fail;rw[<-HW1.o,<-HG.o];go_loopw [8,15] (fun cv i wr=>Qmf xs (2^s) n g w1 cv i wr) (fun _ i _=>n-(intOf i).toNat)
 case atStart=>exact⟨0,0,_,Nat.zero_le _,rfl,rfl,HST0.o,HB1.o,X5 _ _⟩
 case round=>
  obtain⟨k,c,M,hk,rfl,rfl,hst2,hM,hgr⟩:=hrel;have HST:=zq hst2;have HM:=zq hM;have HGR:=zq hgr;have hml:M.length=n:=hst2.1;have HML:=zq hml;clear hst2 hM hgr hml;by_cases hlt:k<n
  ·obtain⟨z,hz⟩:∃z,M[k]?=some z:=⟨_,List.getElem?_eq_getElem (by rw[HML.o];exact hlt)⟩
   have e4:=HM.o.cell hz;have e3:=HM.o.frozen k;have hi0:(0:Int)<=(k:Int):=Int.natCast_nonneg _
   have hi1:(k:Int)<(n:Int):=by omega
   clear hz
   have fin:∀x lo c2,((xs[k]?=some x)\/(xs.length<=k/\x=0))->x*2^s=c2*BB+lo->c2<2^s->lo+c<BB->
     Qmf xs (2^s) n g w1 (.int .u64 (c2:Nat)) (.int .i64 ((k:Int)+1)) (wr.setCell ⟨g,k,none⟩ (.int .u64 ((lo+c:Nat):Int))):=fun x lo c2 h1 h2 h3 h4=>by
    have HS:=HM.o.set k h4;exact⟨k+1,c2,_,by omega,by go_num,rfl,HST.o.step hlt h1 h2 h3,HS.1,Xw HGR.o HS.2⟩
   have sum:∀lo c2 x,lo<BB->lo % 2^s=0->x*2^s=c2*BB+lo->lo+c<BB/\bits BinOp.or IntKind.u64 (lo:Int) (c:Int)=((lo+c:Nat):Int):=fun lo c2 x h1 h2 h3=>by
    have hc:=HST.o.2.1;have hps:0<2^s:=Nat.pow_pos (by omega)
    have h5:lo+c<BB:=by
     have hT:BB=2^t*2^s:=by rw[<-Nat.pow_add,show t+s=64 from by omega];rfl
     obtain⟨q,hq⟩:=Nat.dvd_of_mod_eq_zero h2;rw[hT]at h1 ⊢;rw[hq,Nat.mul_comm]at h1 ⊢;have h6:=Nat.lt_of_mul_lt_mul_right h1;have h7:(q+1)*2^s<=2^t*2^s:=Nat.mul_le_mul_right _ h6;rw[Nat.add_mul,Nat.one_mul]at h7;omega
    exact⟨h5,De lo c s h1 h2 hc (by unfold BB at h5;omega)⟩
   by_cases hin:k<xs.length
   ·obtain⟨x,hx⟩:∃x,xs[k]?=some x:=⟨_,List.getElem?_eq_getElem hin⟩
    obtain⟨ao',cap',e,-,-,-,hsh⟩:=(HV.o.below (HHBL.o.trans (Wc HGR.o HHBL.o.size (by rw[HG.o];exact Nat.le_refl _)))).2
    cases e
    obtain⟨g2,o2,rfl,e5⟩:=hsh k x hx;obtain⟨lo,c2,f1,f2,f3,f4,f5,f6,f7⟩:=Qx8 (HOK.o x (List.mem_of_getElem? hx)) hst hs;obtain⟨f8,f9⟩:=sum lo c2 x f2 f3 f1;have HFIN:=zq (fin x lo c2 (.inl hx) f1 f4 f8);have HF7:=zq f7
    have hi2:(k:Int)<(xs.length:Int):=by omega
    obtain⟨sm,hsm⟩:=xq (lo+c);rw[<-hsm]at f9 HFIN;clear hsh hx f1 f2 f3 f4 f7 f8 fin sum hsm;by_cases hs0:0<s
    ·have hsb:decide (0<(s:Int))=true:=by simp;omega
     go_wp2_with fail
     exact⟨HFIN.o,by simp[intOf]<;>omega⟩
    ·have hs00:s=0:=by omega
     have hsb:decide (0<(s:Int))=false:=by simp;omega
     obtain rfl:=HF7.o hs00;clear hs00 f6;go_wp2_with fail
     exact⟨HFIN.o,by simp[intOf]<;>omega⟩
   ·have f1:0*2^s=0*BB+0:=by simp
    obtain⟨f8,f9⟩:=sum 0 0 0 Xf (Nat.zero_mod _) f1;have HFIN:=zq (fin 0 0 0 (.inr ⟨by omega,rfl⟩) f1 (Nat.pow_pos (by omega)) f8)
    have f9':bits BinOp.or IntKind.u64 0 (c:Int)=(c:Int):=by
     rw[Nat.zero_add]at f9;exact f9
    rw[Nat.zero_add]at HFIN;have f5:IntKind.u64.wrap (0:Int)=0:=rfl
    have hi2: ¬((k:Int)<(xs.length:Int)):=by omega
    clear f1 f8 f9 fin sum;by_cases hs0:0<s
    ·have hsb:decide (0<(s:Int))=true:=by simp;omega
     go_wp2_with fail
     exact⟨HFIN.o,by simp[intOf]<;>omega⟩
    ·have hsb:decide (0<(s:Int))=false:=by simp;omega
     go_wp2_with fail
     exact⟨HFIN.o,by simp[intOf]<;>omega⟩
  ·obtain rfl:k=n:=by omega
   have HF:=zq (HST.o.fin hl HFIT.o);go_wp2_with fail;go_ret;exact⟨M,by rw[<-HG.o];rfl,by rw[<-HG.o];exact HM.o,HML.o,HF.o,HHBL.o.trans (Wc HGR.o HHBL.o.size (by rw[HG.o];exact Nat.le_refl _))⟩
def Cn (v1 W Q:Nat)(d rr:Value):Prop:=∃dn rn:Nat,d=.int .u64 (dn:Nat)/\rr=.int .u64 (rn:Nat)/\Hid (dn*v1+rn=W)/\Hid (Q<=dn)/\Hid (rn<BB)/\Hid (dn<BB)
structure GDown (v1 W Q dn rn d2 s c:Nat):Prop where
 f1:IntKind.u64.wrap ((dn:Int)-1)=(d2:Int)
 run:∀w:World,(callFunc 286 #[.int .u64 (rn:Nat),.int .u64 (v1:Nat),.int .u64 0]).run Tryz.prog w=.ok (.value (.tuple #[.int .u64 (s:Nat),.int .u64 (c:Nat)])) w
 lt:d2<dn
 way:(((c:Int) !=0)=true/\Q=d2)\/(((c:Int) !=0)=false/\Cn v1 W Q (.int .u64 (d2:Nat)) (.int .u64 (s:Nat)))
theorem Qz8 {W u0 v1 v0 Q dn rn:Nat}(hQ:Q=gq (W*BB+u0) (v1*BB+v0))(hv0:v0<BB)(hv1:0<v1)(hv1b:v1<BB)(hi:dn*v1+rn=W)(hr:rn<BB)(hd:dn<BB)(ht:rn*BB+u0<dn*v0):
  ∃d2 s c,GDown v1 W Q dn rn d2 s c:=by
 have T:0<dn:=Nat.pos_of_ne_zero fun h=>by rw[h,Nat.zero_mul]at ht;omega
 have H:=Qp5 hi ht hv1;rw[<-hQ]at H;obtain⟨s,c,O,U,E,I⟩:=Zj rn v1 0 hr hv1b (Nat.zero_le _)
 have J:(dn-1)*v1+(rn+v1)=W:=by
  obtain⟨k,rfl⟩:∃k,dn=k+1:=⟨dn-1,by omega⟩;rw[Nat.add_mul,Nat.one_mul]at hi;rw[Nat.add_sub_cancel];omega
 refine⟨dn-1,s,c,?_,I,by omega,?_⟩
 ·unfold BB at hd;rw[IntKind.wrap_u64];omega
 ·by_cases hc0:c=0
  ·subst hc0
   exact .inr ⟨by simp,dn-1,s,rfl,rfl,by show _=_;rw[Nat.mul_zero]at E;rw[show s=rn+v1 from by omega];exact J,H,O,show dn-1<BB by omega⟩
  ·refine .inl ⟨by simp;omega,?_⟩
   have K:c=1:=by omega
   rw[K,Nat.mul_one]at E;rw[hQ];exact Qz7 J (by omega) hv0 (by omega) (by rw[<-hQ];exact H) hv1
theorem Bp {W u0 v1 v0 Q dn rn hi lo:Nat}(hQ:Q=gq (W*BB+u0) (v1*BB+v0))(hu0:u0<BB)(hv0:v0<BB)(hv1:0<v1)(hv1b:v1<BB)(hI:dn*v1+rn=W)(hg:Q<=dn)(hr:rn<BB)(hd:dn<BB)
  (hlo:lo<BB) (hp:hi*BB+lo=dn*v0):
  (decide (hi<rn)=true/\Q=dn)\/(decide (hi<rn)=false/\((hi:Int)==(rn:Int))=true/\decide (lo<=u0)=true/\Q=dn)\/
  (decide (hi<rn)=false/\(((hi:Int)==(rn:Int))=false\/(((hi:Int)==(rn:Int))=true/\decide (lo<=u0)=false))/\ ∃d2 s c,GDown v1 W Q dn rn d2 s c):=by
 by_cases h1:hi<rn
 ·refine .inl ⟨by simp[h1],?_⟩
  rw[hQ];refine Dw hI hd ?_ (by rw[<-hQ];exact hg) hv1;rw[<-hp];have:(hi+1)*BB<=rn*BB:=Nat.mul_le_mul_right _ h1;rw[Nat.add_mul,Nat.one_mul]at this;omega
 ·by_cases h2:hi=rn
  ·subst h2
   by_cases h3:lo<=u0
   ·refine .inr (.inl ⟨by simp,by simp,by simp[h3],?_⟩)
    rw[hQ];exact Dw hI hd (by rw[<-hp];omega) (by rw[<-hQ];exact hg) hv1
   ·exact .inr (.inr ⟨by simp,.inr ⟨by simp,by simp[h3]⟩,Qz8 hQ hv0 hv1 hv1b hI hr hd (by rw[<-hp];omega)⟩)
  ·refine .inr (.inr ⟨by simp;omega,.inl (by simp;omega),Qz8 hQ hv0 hv1 hv1b hI hr hd ?_⟩)
   rw[<-hp];have:(rn+1)*BB<=hi*BB:=Nat.mul_le_mul_right _ (by omega);rw[Nat.add_mul,Nat.one_mul]at this;omega
def Fx (q:Nat)(w:World)(e:Ending)(w':World):Prop:=e=.returned (.int .u64 (q:Nat))/\ ∃k,w'=w.drewN k
theorem Qvc (u2 u1 u0 v1 v0:Nat)(w:World)(hu2:u2<=v1)(hu1:u1<BB)(hu0:u0<BB)(hv1:0<v1)(hv1b:v1<BB)(hv0:v0<BB):
  Calls Tryz.prog 280 #[.int .u64 (u2:Nat),.int .u64 (u1:Nat),.int .u64 (u0:Nat),.int .u64 (v1:Nat),.int .u64 (v0:Nat)] w (Fx (gq ((u2*BB+u1)*BB+u0) (v1*BB+v0)) w):=by
 obtain⟨W,hW⟩:=xq (u2*BB+u1);rw[<-hW];obtain⟨Q,hQ⟩:=xq (gq (W*BB+u0) (v1*BB+v0));rw[<-hQ];have HQ:=zq hQ;have HW:=zq hW;have HU1:=zq hu1;have HU0:=zq hu0;have HV1:=zq hv1;have HV1B:=zq hv1b;have HV0:=zq hv0;by_cases hge:v1<=u2
 ·obtain⟨s,c,hs,hc,hsum,hrun⟩:=Zj u1 v1 0 hu1 hv1b (Nat.zero_le _)
  have hrun':∀w:World,(callFunc 286 #[.int .u64 (u1:Nat),.int .u64 (v1:Nat),.int .u64 0]).run Tryz.prog w=.ok (.value (.tuple #[.int .u64 (s:Nat),.int .u64 (c:Nat)])) w:=hrun
  have hgeb:decide (v1<=u2)=true:=by simp[hge]
  have he:u2=v1:=by omega
  have hI:(BB-1)*v1+(u1+v1)=W:=by
   rw[hW,he]
   have:v1*BB=(BB-1)*v1+v1:=by
    have h1:BB=BB-1+1:=by have:=Xf;omega
    conv=>lhs;rw[h1,Nat.mul_add,Nat.mul_one,Nat.mul_comm]
   omega
  have htop:Q<=BB-1:=by rw[hQ];exact Qhx
  have HBEL:Hid (∃k,w=w.drewN k):=⟨0,rfl⟩;by_cases hc0:c=0
  ·have hcb:((c:Int) !=0)=false:=by simp[hc0]
   have HST:Hid (Cn v1 W Q (.int .u64 18446744073709551615) (.int .u64 (s:Nat))):=by
    refine⟨BB-1,s,rfl,rfl,?_,htop,hs,?_⟩
    ·show _=_
     rw[hc0,Nat.mul_zero]at hsum;rw[show s=u1+v1 from by omega];exact hI
    ·show _<_
     have:=Xf;omega
   clear hQ hW hu1 hu0 hv1 hv1b hv0 hu2 hge hs hc hsum hrun hc0 he hI htop;go_enter Tryz.func280,Tryz.ntmps280;go_wp2_with fail;go_step3;go_wp2_with fail;go_step3;go_wp2_with fail;go_loopw [11,12] (fun d rr wr=>Cn v1 W Q d rr/\wr=w) (fun d _ _=>(intOf d).toNat)
   case atStart=>exact⟨HST.o,rfl⟩
   clear HST
   case round=>
    obtain⟨⟨dn,rn,rfl,rfl,hi1,hg1,hrn,hdn⟩,rfl⟩:=hrel;obtain⟨hi,lo,hlo,hp,hmul⟩:=Pg dn v0 hdn.o HV0.o;have HC:=zq (Bp HQ.o HU0.o HV0.o HV1.o HV1B.o hi1.o hg1.o hrn.o hdn.o hlo hp);have HMUL:=zq hmul;clear hlo hp hmul;rcases HC.o with ⟨t1,hq⟩|⟨t1,t2,t3,hq⟩|⟨t1,t2|⟨t2,t3⟩,d2,s2,c2,f1,hrun2,hlt,⟨t4,hq⟩|⟨t4,hrel⟩⟩
    ·have HQ2:=zq hq
     clear hq HC;go_wp2_with fail;refine(HMUL.o _).mono ?_;rintro e w9 ⟨rfl,rfl⟩;go_wp2_with fail;rw[Exit.noGoto_ret];go_ret;exact⟨by rw[HQ2.o];rfl,HBEL.o⟩
    ·have HQ2:=zq hq
     clear hq HC;go_wp2_with fail;refine(HMUL.o _).mono ?_;rintro e w9 ⟨rfl,rfl⟩;go_wp2_with fail;rw[Exit.noGoto_ret];go_ret;exact⟨by rw[HQ2.o];rfl,HBEL.o⟩
    ·have HQ2:=zq hq
     clear hq HC hlt;go_wp2_with fail;refine(HMUL.o _).mono ?_;rintro e w9 ⟨rfl,rfl⟩;go_wp2_with fail;rw[Exit.noGoto_ret];go_ret;exact⟨by rw[HQ2.o];rfl,HBEL.o⟩
    ·have HR2:=zq hrel
     clear hrel HC;go_wp2_with fail;refine(HMUL.o _).mono ?_;rintro e w9 ⟨rfl,rfl⟩;go_wp2_with fail
     first|exact⟨⟨HR2.o,trivial⟩,by simp[intOf]<;>omega⟩|exact⟨⟨HR2.o,rfl⟩,by simp[intOf]<;>omega⟩
    ·have HQ2:=zq hq
     clear hq HC hlt;go_wp2_with fail;refine(HMUL.o _).mono ?_;rintro e w9 ⟨rfl,rfl⟩;go_wp2_with fail;rw[Exit.noGoto_ret];go_ret;exact⟨by rw[HQ2.o];rfl,HBEL.o⟩
    ·have HR2:=zq hrel
     clear hrel HC;go_wp2_with fail;refine(HMUL.o _).mono ?_;rintro e w9 ⟨rfl,rfl⟩;go_wp2_with fail
     first|exact⟨⟨HR2.o,trivial⟩,by simp[intOf]<;>omega⟩|exact⟨⟨HR2.o,rfl⟩,by simp[intOf]<;>omega⟩
  ·have hcb:((c:Int) !=0)=true:=by simp;omega
   have HQ2:Hid (Q=18446744073709551615):=by
    show _=_
    have hc1:c=1:=by omega
    rw[hc1,Nat.mul_one]at hsum;have h9:gq (W*BB+u0) (v1*BB+v0)=BB-1:=Qz7 hI (Nat.sub_lt Xf Nat.one_pos) hv0 (by omega) (by rw[<-hQ];exact htop) hv1;rw[hQ,h9];rfl
   clear hQ hW hu1 hu0 hv1 hv1b hv0 hu2 hge hs hc hsum hrun hc0 he hI htop;go_enter Tryz.func280,Tryz.ntmps280;go_wp2_with fail;go_step3;go_wp2_with fail;rw[Exit.noGoto_ret];go_ret;exact⟨by rw[HQ2.o];rfl,HBEL.o⟩
 ·have hlt2:u2<v1:=by omega
  have HLT2:=zq hlt2
  have hgeb:decide (v1<=u2)=false:=by simp;omega
  have hWv:W<v1*BB:=by
   rw[hW];have:(u2+1)*BB<=v1*BB:=Nat.mul_le_mul_right _ hlt2;rw[Nat.add_mul,Nat.one_mul]at this;omega
  have HST:Hid (Cn v1 W Q (.int .u64 (W / v1:Nat)) (.int .u64 (W % v1:Nat))):=by
   refine⟨W / v1,W % v1,rfl,rfl,?_,?_,Nat.lt_trans (Nat.mod_lt _ hv1) hv1b,(Nat.div_lt_iff_lt_mul hv1).2 (by rw[Nat.mul_comm];exact hWv)⟩
   ·show _=_
    rw[Nat.mul_comm];exact Nat.div_add_mod W v1
   ·show _<=_
    rw[hQ];exact Qwi hu0 hv1
  obtain⟨q,hq⟩:=xq (W / v1);obtain⟨r,hr⟩:=xq (W % v1);rw[<-hq,<-hr]at HST;have HQE:=zq hq;have HRE:=zq hr;clear hQ hW hu1 hu0 hv1 hv1b hv0 hu2 hge hlt2 hWv hq hr;go_enter Tryz.func280,Tryz.ntmps280;go_wp2_with fail;go_step3;go_wp2_with fail;refine(Qz4 u2 u1 v1 _ HU1.o HLT2.o HV1B.o).mono ?_;rintro e w1 ⟨rfl,hb⟩;rw[<-HW.o,<-HQE.o,<-HRE.o];have HBEL:=zq hb;clear hb;go_wp2_with fail;go_step3;go_wp2_with fail;go_loopw [11,12] (fun d rr wr=>Cn v1 W Q d rr/\wr=w1) (fun d _ _=>(intOf d).toNat)
  case atStart=>exact⟨HST.o,rfl⟩
  clear HST
  case round=>
   obtain⟨⟨dn,rn,rfl,rfl,hi1,hg1,hrn,hdn⟩,rfl⟩:=hrel;obtain⟨hi,lo,hlo,hp,hmul⟩:=Pg dn v0 hdn.o HV0.o;have HC:=zq (Bp HQ.o HU0.o HV0.o HV1.o HV1B.o hi1.o hg1.o hrn.o hdn.o hlo hp);have HMUL:=zq hmul;clear hlo hp hmul;rcases HC.o with ⟨t1,hq⟩|⟨t1,t2,t3,hq⟩|⟨t1,t2|⟨t2,t3⟩,d2,s2,c2,f1,hrun2,hlt,⟨t4,hq⟩|⟨t4,hrel⟩⟩
   ·have HQ2:=zq hq
    clear hq HC;go_wp2_with fail;refine(HMUL.o _).mono ?_;rintro e w9 ⟨rfl,rfl⟩;go_wp2_with fail;rw[Exit.noGoto_ret];go_ret;exact⟨by rw[HQ2.o];rfl,HBEL.o⟩
   ·have HQ2:=zq hq
    clear hq HC;go_wp2_with fail;refine(HMUL.o _).mono ?_;rintro e w9 ⟨rfl,rfl⟩;go_wp2_with fail;rw[Exit.noGoto_ret];go_ret;exact⟨by rw[HQ2.o];rfl,HBEL.o⟩
   ·have HQ2:=zq hq
    clear hq HC hlt;go_wp2_with fail;refine(HMUL.o _).mono ?_;rintro e w9 ⟨rfl,rfl⟩;go_wp2_with fail;rw[Exit.noGoto_ret];go_ret;exact⟨by rw[HQ2.o];rfl,HBEL.o⟩
   ·have HR2:=zq hrel
    clear hrel HC;go_wp2_with fail;refine(HMUL.o _).mono ?_;rintro e w9 ⟨rfl,rfl⟩;go_wp2_with fail
    first|exact⟨⟨HR2.o,trivial⟩,by simp[intOf]<;>omega⟩|exact⟨⟨HR2.o,rfl⟩,by simp[intOf]<;>omega⟩
   ·have HQ2:=zq hq
    clear hq HC hlt;go_wp2_with fail;refine(HMUL.o _).mono ?_;rintro e w9 ⟨rfl,rfl⟩;go_wp2_with fail;rw[Exit.noGoto_ret];go_ret;exact⟨by rw[HQ2.o];rfl,HBEL.o⟩
   ·have HR2:=zq hrel
    clear hrel HC;go_wp2_with fail;refine(HMUL.o _).mono ?_;rintro e w9 ⟨rfl,rfl⟩;go_wp2_with fail
    first|exact⟨⟨HR2.o,trivial⟩,by simp[intOf]<;>omega⟩|exact⟨⟨HR2.o,rfl⟩,by simp[intOf]<;>omega⟩
def TkSt (L V:List Nat)(d o i carry lent:Nat)(M:List Nat):Prop:=
 M.length=L.length/\M.take o=L.take o/\M.drop (o+i)=L.drop (o+i)/\val ((L.drop o).take i)+BB^i*(carry+lent)=val ((M.drop o).take i)+d*val (V.take i)/\carry<BB/\lent<=1
theorem TkSt.start (L V:List Nat)(d o:Nat):TkSt L V d o 0 0 0 L:=⟨rfl,rfl,rfl,by simp[val],Xf,Nat.zero_le _⟩
theorem TkSt.at {L V M:List Nat}{d o i carry lent z:Nat}(h:TkSt L V d o i carry lent M)(hz:M[o+i]?=some z):L[o+i]?=some z:=by
 have:=congrArg (fun l=>l[0]?) h.2.2.1;simp only[List.getElem?_drop,Nat.add_zero]at this;rw[<-this];exact hz
theorem Ba {L:List Nat}{o i z:Nat}(h:L[o+i]?=some z):val ((L.drop o).take (i+1))=val ((L.drop o).take i)+BB^i*z:=by
 have I:o+i<L.length:=(List.getElem?_eq_some_iff.1 h).1
 have E:i<(L.drop o).length:=by rw[List.length_drop];omega
 rw[X1 E];have H:=List.getElem?_eq_getElem E;rw[List.getElem?_drop,h]at H;rw[<-Option.some.inj H]
theorem TkSt.set {L V M:List Nat}{d o i carry lent z s:Nat}(h:TkSt L V d o i carry lent M)(hz:M[o+i]?=some z):
  (M.set (o+i) s).length=L.length/\(M.set (o+i) s).take o=L.take o/\(M.set (o+i) s).drop (o+(i+1))=L.drop (o+(i+1))/\val (((M.set (o+i) s).drop o).take (i+1))=val ((M.drop o).take i)+BB^i*s:=by
 obtain⟨H,I,J,-⟩:=h;have E:o+i<M.length:=(List.getElem?_eq_some_iff.1 hz).1;refine⟨by rw[List.length_set,H],by rw[Pl _ (Nat.le_add_right _ _),I],?_,?_⟩
 ·rw[<-Nat.add_assoc,Sc]
  have:=congrArg (List.drop 1) J;rw[List.drop_drop,List.drop_drop]at this;exact this
 ·rw[Rv s E,Zk,List.length_take,List.length_drop,Nat.min_eq_left (by omega)]
theorem TkSt.step {L V M:List Nat}{d o i carry lent z v hi lo lo2 c s lent':Nat}(h:TkSt L V d o i carry lent M)(hd:d<BB)(hvb:v<BB)(hz:M[o+i]?=some z)(hv:V[i]?=some v)
  (hm:hi*BB+lo=d*v) (ha:lo+carry=lo2+c*BB) (hs:z+lent'*BB=s+lo2+lent) (hl:lent'<=1):TkSt L V d o (i+1) (hi+c) lent' (M.set (o+i) s):=by
 have J:=h.at hz;obtain⟨e1,e2,e3,e4⟩:=h.set (s:=s) hz;obtain⟨-,-,-,H,I,K⟩:=h;refine⟨e1,e2,e3,?_,Qzz hd hvb I hm ha,hl⟩;have E:i<V.length:=(List.getElem?_eq_some_iff.1 hv).1
 have e5:val (V.take (i+1))=val (V.take i)+BB^i*v:=by
  rw[X1 E];have:=List.getElem?_eq_getElem E;rw[hv]at this;rw[<-Option.some.inj this]
 rw[e4,Ba J,e5,Nat.pow_succ];have:=Qky (P:=BB^i) hm ha hs H;exact this
theorem TkSt.fin {L V M:List Nat}{d o n carry lent z s lent':Nat}(h:TkSt L V d o n carry lent M)(hn:V.length=n)(hz:M[o+n]?=some z)(hs:z+lent'*BB=s+carry+lent):
  (M.set (o+n) s).length=L.length/\(M.set (o+n) s).take o=L.take o/\(M.set (o+n) s).drop (o+(n+1))=L.drop (o+(n+1))/\
   val ((L.drop o).take (n+1))+BB^(n+1)*lent'=val (((M.set (o+n) s).drop o).take (n+1))+d*val V:=by
 have H:=h.at hz;obtain⟨e1,e2,e3,e4⟩:=h.set (s:=s) hz;obtain⟨-,-,-,E,I,J⟩:=h;rw[List.take_of_length_le (l:=V) (by omega)]at E;refine⟨e1,e2,e3,?_⟩;rw[e4,Ba H,Nat.pow_succ,Nat.mul_assoc,Nat.add_assoc,<-Nat.mul_add,Nat.mul_comm BB lent',hs]
 have e6:BB^n*(s+carry+lent)=BB^n*s+BB^n*(carry+lent):=by rw[<-Nat.mul_add,Nat.add_assoc]
 rw[e6];omega
theorem Dr (x:Nat):((x:Int) !=0)=decide (x≠0):=by
 rw[Bool.eq_iff_iff];simp[Int.natCast_eq_zero]
def Co (L V:List Nat)(d o n g:Nat)(w:World)(e:Ending)(w':World):Prop:=∃(lent:Nat) (M:List Nat),e=.returned (.bool (decide (lent≠0)))/\lent<=1/\Blk w' g M/\M.length=L.length/\M.take o=L.take o/\M.drop (o+(n+1))=L.drop (o+(n+1))/\
 val ((L.drop o).take (n+1))+BB^(n+1)*lent=val ((M.drop o).take (n+1))+d*val V/\w.grownBy w' (some g)
def Qzl (L V:List Nat)(d o n g:Nat)(w:World)(cv lv i:Value)(wr:World):Prop:=∃(k c l:Nat) (M:List Nat),k<=n/\i=.int .i64 (k:Nat)/\cv=.int .u64 (c:Nat)/\lv=.int .u64 (l:Nat)/\TkSt L V d o k c l M/\Blk wr g M/\w.grownBy wr (some g)
theorem Qy7 (g o cap d:Nat)(L V:List Nat)(v:Value)(w:World)(hL:Blk w g L)(hn:o+V.length+1<=L.length)(hnc:V.length+1<=cap)(hc:L.length<=1099511627776)(hv:Rd w v V)(hvb:v.ownBlock≠some g)(hd:d<BB):
  Calls Tryz.prog 281 #[.slice (some ⟨g,o,none⟩) (V.length+1) cap,v,.int .u64 (d:Nat)] w (Co L V d o V.length g w):=by
 have HV:=zq hv;obtain⟨ao,vcap,rfl,-,hcm,hok,-⟩:=hv.2;have HOK:=zq hok;have HB:=zq hL;have HST0:=zq (TkSt.start L V d o);have HD:=zq hd;have HVB:=zq hvb;obtain⟨n,hnn⟩:=xq V.length;rw[<-hnn]at hn hnc ⊢;have HNN:=zq hnn
 have hmn:n<=9223372036854775806:=by omega
 clear hv hok hcm hL hd hvb hnn;go_enter Tryz.func281,Tryz.ntmps281;go_wp2_with fail;go_loopw [7,8,16] (fun cv lv i wr=>Qzl L V d o n g w cv lv i wr) (fun _ _ i _=>n-(intOf i).toNat)
 case atStart=>exact⟨0,0,0,L,Nat.zero_le _,rfl,rfl,rfl,HST0.o,HB.o,X5 _ _⟩
 clear HST0 HB
 case round=>
  obtain⟨k,c,l,M,hk,rfl,rfl,rfl,hst,hM,hgr⟩:=hrel;have HST:=zq hst;have HM:=zq hM;have HGR:=zq hgr;have hml:M.length=L.length:=hst.1;have HML:=zq hml;have hcb:=hst.2.2.2.2.1;have hlb:=hst.2.2.2.2.2;clear hst hM hgr;obtain⟨z,hz⟩:∃z,M[o+k]?=some z:=⟨_,List.getElem?_eq_getElem (by omega)⟩;have hzb:=HM.o.2 z (List.mem_of_getElem? hz);have HZ:=zq hz;by_cases hlt:k<n
  ·obtain⟨y,hy⟩:∃y,V[k]?=some y:=⟨_,List.getElem?_eq_getElem (by have:=HNN.o;omega)⟩
   have hyb:=HOK.o y (List.mem_of_getElem? hy);obtain⟨ao',cap',e,-,-,-,hsh⟩:=(HV.o.kept HGR.o (fun q hq=>by cases hq;exact HVB.o)).2
   cases e
   obtain⟨g2,o2,rfl,e2⟩:=hsh k y hy;obtain⟨hi,lo,hlo,hp,hmul⟩:=Pg d y HD.o hyb;obtain⟨lo2,c2,hlo2,hc2,ha,hrun1⟩:=Zj lo c 0 hlo hcb (Nat.zero_le _);obtain⟨s,l2,hs,hl2,hsu,hrun2⟩:=Pt z lo2 l hzb hlo2 hlb;rw[Nat.add_zero,Nat.mul_comm]at ha;rw[Nat.mul_comm]at hsu;have HN:=zq (HST.o.step HD.o hyb hz hy hp ha.symm hsu.symm hl2);have hcar:hi+c2<BB:=HN.o.2.2.2.2.1;obtain⟨c3,hc3⟩:=xq (hi+c2);rw[<-hc3]at HN hcar
   have hw1:IntKind.u64.wrap ((hi:Int)+(c2:Int))=(c3:Int):=by unfold BB at hcar;rw[IntKind.wrap_u64];omega
   have HS:=zq (HM.o.set (o+k) hs);have e1:=HM.o.cell hz;have e3:=HM.o.frozen (o+k);have HMUL:=zq hmul;have HRUN1:Hid (∀w:World,(callFunc 286 #[.int .u64 (lo:Nat),.int .u64 (c:Nat),.int .u64 0]).run Tryz.prog w=.ok (.value (.tuple #[.int .u64 (lo2:Nat),.int .u64 (c2:Nat)])) w):=hrun1;have HRUN2:=zq hrun2;have hi0:(0:Int)<=(k:Int):=Int.natCast_nonneg _
   have hi1:(k:Int)<(n:Int)+1:=by omega
   have hi2:(k:Int)<(V.length:Int):=by have:=HNN.o;omega
   have HW1:=zq hw1;clear hsh hy hz hyb hzb hmul hrun1 hrun2 hp ha hsu hc3 hw1 hlo hlo2 hs hcar hcb
   have hvl:(V.length:Int)=(n:Int):=by have:=HNN.o;omega
   go_wp2_with fail;refine(HMUL.o _).mono ?_;rintro e w' ⟨rfl,rfl⟩;have hrun1:=HRUN1.o;have hrun2:=HRUN2.o;have hw1:=HW1.o;go_wp2_with fail;have hfin:Qzl L V d o n g w (.int .u64 (c3:Nat)) (.int .u64 (l2:Nat)) (.int .i64 ((k:Int)+1)) (wr.setCell ⟨g,o+k,none⟩ (.int .u64 (s:Nat))):=⟨k+1,c3,l2,_,by omega,by go_num,rfl,rfl,HN.o,HS.o.1,Xw HGR.o HS.o.2⟩
   exact⟨hfin,by simp[intOf]<;>omega⟩
  ·obtain rfl:k=n:=by omega
   obtain⟨s,l2,hs,hl2,hsu,hrun2⟩:=Pt z c l hzb hcb hlb;rw[Nat.mul_comm]at hsu;have HF:=zq (HST.o.fin HNN.o.symm hz hsu.symm);have HS:=zq (HM.o.set (o+k) hs);have e1:=HM.o.cell hz;have e3:=HM.o.frozen (o+k);have hi0:(0:Int)<=(k:Int):=Int.natCast_nonneg _
   have hi1:(k:Int)<(k:Int)+1:=by omega
   have hvl:(V.length:Int)=(k:Int):=by have:=HNN.o;omega
   have HDN:Hid (∀b:Bool,b=decide (l2≠0)->Co L V d o k g w (.returned (.bool b)) (wr.setCell ⟨g,o+k,none⟩ (.int .u64 (s:Nat)))):=by
    rintro b rfl;exact⟨l2,_,rfl,hl2,HS.o.1,HF.o.1,HF.o.2.1,HF.o.2.2.1,HF.o.2.2.2,Xw HGR.o HS.o.2⟩
   clear hz hzb hs hsu hcb;go_wp2_with fail;go_ret;exact HDN.o _ (Dr l2)
def Qks (L V:List Nat)(o n g:Nat)(w:World)(e:Ending)(w':World):Prop:=∃(c:Nat) (M:List Nat),e=.returned (.tuple #[])/\Blk w' g M/\M.length=L.length/\M.take o=L.take o/\M.drop (o+(n+1))=L.drop (o+(n+1))/\
 val ((M.drop o).take (n+1))+BB^(n+1)*c=val ((L.drop o).take (n+1))+val V/\w.grownBy w' (some g)
def Qmh (L V:List Nat)(o n g:Nat)(w:World)(cv i:Value)(wr:World):Prop:=∃(k c:Nat) (M:List Nat),k<=n/\i=.int .i64 (k:Nat)/\cv=.int .u64 (c:Nat)/\c<=1/\Vz L V o k c M/\Blk wr g M/\w.grownBy wr (some g)
theorem Qws (g o cap:Nat)(L V:List Nat)(v:Value)(w:World)(hL:Blk w g L)(hn:o+V.length+1<=L.length)(hnc:V.length+1<=cap)(hc:L.length<=1099511627776)(hv:Rd w v V)(hvb:v.ownBlock≠some g):
  Calls Tryz.prog 282 #[.slice (some ⟨g,o,none⟩) (V.length+1) cap,v] w (Qks L V o V.length g w):=by
 have HV:=zq hv;obtain⟨ao,vcap,rfl,-,hcm,hok,-⟩:=hv.2;have HOK:=zq hok;have HB:=zq hL;have HST0:=zq (Vz.start L V o);have HVB:=zq hvb;obtain⟨n,hnn⟩:=xq V.length;rw[<-hnn]at hn hnc ⊢;have HNN:=zq hnn
 have hmn:n<=9223372036854775806:=by omega
 clear hv hok hcm hL hvb hnn;go_enter Tryz.func282,Tryz.ntmps282;go_wp2_with fail;go_loopw [4,8] (fun cv i wr=>Qmh L V o n g w cv i wr) (fun _ i _=>n-(intOf i).toNat)
 case atStart=>exact⟨0,0,L,Nat.zero_le _,rfl,rfl,Nat.zero_le _,HST0.o,HB.o,X5 _ _⟩
 clear HST0 HB
 case round=>
  obtain⟨k,c,M,hk,rfl,rfl,hcc,hst,hM,hgr⟩:=hrel;have HST:=zq hst;have HM:=zq hM;have HGR:=zq hgr;have hml:M.length=L.length:=hst.1;have HML:=zq hml;clear hst hM hgr;obtain⟨z,hz⟩:∃z,M[o+k]?=some z:=⟨_,List.getElem?_eq_getElem (by omega)⟩;have hzb:=HM.o.2 z (List.mem_of_getElem? hz);by_cases hlt:k<n
  ·obtain⟨y,hyy⟩:∃y,V[k]?=some y:=⟨_,List.getElem?_eq_getElem (by have:=HNN.o;omega)⟩
   obtain⟨s,c',hs1,hs2,hs3,hrun⟩:=Zj z y c hzb (HOK.o y (List.mem_of_getElem? hyy)) hcc;obtain⟨ao',cap',e,-,-,-,hsh⟩:=(HV.o.kept HGR.o (fun q hq=>by cases hq;exact HVB.o)).2
   cases e
   obtain⟨g2,o2,rfl,e2⟩:=hsh k y hyy;have e1:=HM.o.cell hz;have e3:=HM.o.frozen (o+k);have HN:=zq (HST.o.step hz (.inl hyy) hs3);have HS:=zq (Blk.set (w:=wr.drewN 1) HM.o (o+k) hs1);have hi0:(0:Int)<=(k:Int):=Int.natCast_nonneg _
   have hi1:(k:Int)<(n:Int)+1:=by omega
   have hi2:(k:Int)<(V.length:Int):=by have:=HNN.o;omega
   have hvl:(V.length:Int)=(n:Int):=by have:=HNN.o;omega
   clear hyy hz hsh hs3 hzb hml;go_wp2_with fail;go_region_law (fail)
   all_goals
    go_wp2_with fail
    have hfin:Qmh L V o n g w (.int .u64 (c':Nat)) (.int .i64 ((k:Int)+1)) ((wr.drewN 1).setCell ⟨g,o+k,none⟩ (.int .u64 (s:Nat))):=
     ⟨k+1,c',M.set (o+k) s,by omega,by go_num,rfl,hs2,HN.o,HS.o.1,Xw (Xw HGR.o (Jd wr 1 _)) HS.o.2⟩
    exact⟨hfin,by simp[intOf]<;>omega⟩
  ·obtain rfl:k=n:=by omega
   obtain⟨s,hs⟩:=xq ((z+c) % BB)
   have hsb:s<BB:=by rw[hs];exact Nat.mod_lt _ Xf
   have hs3:s+BB*((z+c) / BB)=z+0+c:=by rw[hs,Nat.add_zero];exact Nat.mod_add_div _ _
   have HN:=zq (HST.o.step (y:=0) hz (.inr ⟨by have:=HNN.o;omega,rfl⟩) hs3)
   have hw1:IntKind.u64.wrap ((z:Int)+(c:Int))=(s:Int):=by unfold BB at hs;rw[IntKind.wrap_u64];omega
   have HS:=zq (HM.o.set (o+k) hsb);have e1:=HM.o.cell hz;have e3:=HM.o.frozen (o+k);have hi0:(0:Int)<=(k:Int):=Int.natCast_nonneg _
   have hi1:(k:Int)<(k:Int)+1:=by omega
   have hvl:(V.length:Int)=(k:Int):=by have:=HNN.o;omega
   clear hz hzb hs hsb hs3 hml;go_wp2_with fail;go_end0;have h4:=HN.o.2.2.2;rw[List.take_of_length_le (l:=V) (by have:=HNN.o;omega)]at h4;exact⟨(z+c) / BB,_,rfl,HS.o.1,HN.o.1,HN.o.2.1,HN.o.2.2.1,h4,Xw HGR.o HS.o.2⟩
def shrW (L:List Nat)(s t i:Nat):Nat:=L.getD i 0 / 2^s+L.getD (i+1) 0*2^t % BB
theorem Qg8 {L:List Nat}{s t i:Nat}(hL:ok L)(hst:s+t=64):shrW L s t i<BB/\L.getD i 0 / 2^s<2^t/\(L.getD (i+1) 0*2^t % BB) % 2^t=0:=by
 have E:BB=2^t*2^s:=by rw[<-Nat.pow_add,show t+s=64 from by omega];rfl
 have J:0<2^s:=Nat.pow_pos (by omega);have a0:0<2^t:=Nat.pow_pos (by omega)
 have Z:L.getD i 0<BB:=by
  rw[List.getD_eq_getElem?_getD]
  cases h:L[i]? with
  |none=>exact Xf
  |some x=>exact hL x (List.mem_of_getElem? h)
 have O:L.getD i 0 / 2^s<2^t:=by rw[Nat.div_lt_iff_lt_mul J,<-E];exact Z
 have H:(L.getD (i+1) 0*2^t % BB) % 2^t=0:=by
  rw[E,Nat.mul_comm (2^t) (2^s),Nat.mul_mod_mul_right,Nat.mul_mod_left]
 refine⟨?_,O,H⟩;have I:L.getD (i+1) 0*2^t % BB<BB:=Nat.mod_lt _ Xf;unfold shrW;obtain⟨q,K⟩:=Nat.dvd_of_mod_eq_zero H;rw[K,E]at I;rw[K,E];have T:=Nat.lt_of_mul_lt_mul_left I;have U:2^t*(q+1)<=2^t*2^s:=Nat.mul_le_mul_left _ T;rw[Nat.mul_add,Nat.mul_one]at U;omega
theorem Qy4 {y s t:Nat}(hst:s+t=64):y*2^t % BB=2^t*(y % 2^s):=by
 have h:BB=2^t*2^s:=by rw[<-Nat.pow_add,show t+s=64 from by omega];rfl
 rw[h,Nat.mul_comm y,Nat.mul_mod_mul_left]
theorem Qmx {s t:Nat}(hst:s+t=64):∀(L M:List Nat),M.length=L.length->(∀i,i<L.length->M[i]?=some (shrW L s t i))->2^s*val M+L.getD 0 0 % 2^s=val L:=by
 have K:BB=2^s*2^t:=by rw[<-Nat.pow_add,hst];rfl
 intro L
 induction L with
 |nil=>intro M h _;rw[List.eq_nil_of_length_eq_zero h];simp[val]
 |cons x L ih=>
  intro M h I
  cases M with
  |nil=>simp at h
  |cons m M=>
   have H:=ih M (by simpa using h) (fun i hi=>by
    have:=I (i+1) (by simpa using hi)
    simpa [shrW] using this)
   have E:=I 0 (by simp);simp only[List.getElem?_cons_zero,shrW,List.getD_cons_zero,Option.some.injEq,Nat.zero_add,List.getD_cons_succ]at E;rw[Qy4 hst]at E;show 2^s*(m+BB*val M)+x % 2^s=x+BB*val L;have J:=Nat.div_add_mod x (2^s);rw[<-H,E];generalize x / 2^s=a at*;generalize x % 2^s=b at*;generalize L.getD 0 0 % 2^s=c at*;rw[<-J,Nat.mul_add,Nat.mul_add,Nat.mul_add,<-Nat.mul_assoc (2^s) (2^t) c,<-K,Nat.mul_left_comm BB (2^s) (val M)];omega
theorem Qmq {s t:Nat}(hst:s+t=64){L M:List Nat}(hl:M.length=L.length)(hM:∀i,i<L.length->M[i]?=some (shrW L s t i)):val M=val L / 2^s:=by
 have E:0<2^s:=Nat.pow_pos (by omega);have h:=Qmx hst L M hl hM;have H:=Nat.mod_lt (L.getD 0 0) E;rw[<-h,Nat.mul_add_div E,Nat.div_eq_of_lt H,Nat.add_zero]
theorem Qyg (x y i:Nat)(hx:x<18446744073709551616)(hd:x % 2^i=0)(hy:y<2^i)(hy2:y<18446744073709551616):bits BinOp.or IntKind.u64 (y:Int) (x:Int)=((y+x:Nat):Int):=by
 have h:=De x y i hx hd hy hy2;rw[bits_or_u64_nat x y hx hy2,Nat.or_comm,<-bits_or_u64_nat y x hy2 hx]at h;rw[h,Nat.add_comm]
def Qke (L:List Nat)(s t n g:Nat)(w1:World)(i:Value)(wr:World):Prop:=∃(k:Nat) (M:List Nat),k<=n/\i=.int .i64 (k:Nat)/\M.length=n/\(∀i,i<k->M[i]?=some (shrW L s t i))/\Blk wr g M/\w1.grownBy wr (some g)
theorem A7 {M:List Nat}{k x:Nat}{f:Nat->Nat}(h:∀i,i<k->M[i]?=some (f i))(hk:k<M.length)(hx:x=f k):∀i,i<k+1->(M.set k x)[i]?=some (f i):=by
 intro i E;by_cases e:i=k
 ·subst e;rw[List.getElem?_set_self hk,hx]
 ·rw[List.getElem?_set_ne (by omega)];exact h i (by omega)
def Qpg (V m:Nat)(w:World)(e:Ending)(w':World):Prop:=∃v xs,e=.returned (.tuple #[v,.int .i64 0])/\Fr w.heap.size w' v xs/\val xs=V/\xs.length<=m/\Qy xs=xs/\Below w.heap.size w w'
theorem Qg9 (v:Value)(xs:List Nat)(s:Nat)(w:World)(hv:Rd w v xs)(hs:s<64)(hl:xs.length<=1099511627776):
  Calls Tryz.prog 283 #[v,.int .i64 (s:Nat)] w (Qpg (val xs / 2^s) xs.length w):=by
 have HV:=zq hv;obtain⟨ao,cap,rfl,hnc,hcm,hok,-⟩:=hv.2;have HOK:=zq hok;obtain⟨X,hX⟩:=xq (Qy xs)
 have hXx:∀(i x:Nat),X[i]?=some x->xs[i]?=some x:=by
  intro i x h;rw[hX,(Yg xs).1,List.getElem?_take]at h;split at h
  ·exact h
  ·cases h
 obtain⟨n,hn⟩:=xq X.length
 have hnl:n<=xs.length:=by rw[hn,hX];exact Qr xs
 have hvX:val X=val xs:=by rw[hX,Qu]
 have hokX:ok X:=by rw[hX];exact J5 hok
 obtain⟨t,ht⟩:=xq (64-s)
 have hst:s+t=64:=by omega
 have E0:(s:Int) / 64=0:=by omega
 have hsn:decide ((s:Int)<0)=false:=by simp
 have E0b:(s:Int) % 64=(s:Int):=by omega
 have E1:IntKind.u64.wrap (64-(s:Int))=(t:Int):=by rw[IntKind.wrap_u64];omega
 have E1b:IntKind.u64.wrap (s:Int)=(s:Int):=Va _ (by omega)
 have E2:min s 64=s:=by omega
 have E3:min t 64=t:=by omega
 have HX:=zq hX;have HN:=zq hn;have HVX:=zq hvX;have HOKX:=zq hokX;have HXX:=zq hXx
 have hcap:cap<=9223372036854775807:=by unfold maxLen at hcm;omega
 clear hv hok hcm hX hn hvX hokX hXx ht;by_cases h0:n=0
 ·have hv0:val xs / 2^s=0:=by
   have hX0:X=[]:=List.eq_nil_of_length_eq_zero (by rw[<-HN.o];exact h0);rw[<-HVX.o,hX0];simp[val]
  have HV0:=zq hv0;subst h0;clear hv0;go_enter Tryz.func283,Tryz.ntmps283;go_wp2_with fail;refine(X8 _ xs _ HV.o).mono ?_;rintro e w' ⟨rfl,rfl⟩;rw[<-HX.o,<-HN.o];go_wp2_with fail;go_ret2;exact⟨_,[],rfl,⟨Rd.nil w,fun k hk=>by cases hk⟩,by rw[HV0.o];rfl,Nat.zero_le _,rfl,Below.refl _ _⟩
 ·have hn1:1<=n:=by omega
  have HMK:=Zz n (by omega);obtain⟨g,hg⟩:=xq w.heap.size;obtain⟨w1,hw1⟩:=xq (w.alloc (.cells (madeCells #[.int .u64 0] n) 101))
  have HBL:Hid (Below w.heap.size w w1):=by rw[hw1];exact Qq w _
  have HB1:Hid (Blk w1 g (List.replicate n 0)):=by rw[hw1,hg];exact Blk.made w n
  have HG:=zq hg;have HW1:=zq hw1;clear hg hw1;go_enter Tryz.func283,Tryz.ntmps283;go_wp2_with fail;refine(X8 _ xs _ HV.o).mono ?_;rintro e w' ⟨rfl,rfl⟩;rw[<-HX.o,<-HN.o];go_wp2_with fail;rw[<-HW1.o,<-HG.o];clear E0b;go_loopw [29] (fun i wr=>Qke X s t n g w1 i wr) (fun i _=>n-(intOf i).toNat)
  case atStart=>exact⟨0,_,Nat.zero_le _,rfl,List.length_replicate,fun i hi=>by omega,HB1.o,X5 _ _⟩
  clear HB1
  case round=>
   obtain⟨k,M,hk,rfl,hml,hst2,hM,hgr⟩:=hrel;have HST:=zq hst2;have HM:=zq hM;have HGR:=zq hgr;have HML:=zq hml;clear hst2 hM hgr hml;have HWB:Hid (Below w.heap.size w wr):=HBL.o.trans (Wc HGR.o HBL.o.size (by rw[HG.o];exact Nat.le_refl _));by_cases hlt:k<n
   ·obtain⟨z,hz⟩:∃z,M[k]?=some z:=⟨_,List.getElem?_eq_getElem (by rw[HML.o];exact hlt)⟩
    obtain⟨x,hx⟩:∃x,X[k]?=some x:=⟨_,List.getElem?_eq_getElem (by rw[<-HN.o];exact hlt)⟩;have e4:=HM.o.cell hz;have e3:=HM.o.frozen k;have hxb:=HOKX.o x (List.mem_of_getElem? hx);obtain⟨ao',cap',e,-,-,-,hsh⟩:=(HV.o.below HWB.o).2
    cases e
    obtain⟨g2,o2,rfl,e5⟩:=hsh k x (HXX.o k x hx)
    have hg2:g2<g:=by rw[HG.o];exact HV.o.1 g2 rfl
    obtain⟨a,ha⟩:=xq (x / 2^s)
    have hab:a<BB:=by rw[ha];exact Nat.lt_of_le_of_lt (Nat.div_le_self _ _) hxb
    have F1:(x:Int) / 2^s=(a:Int):=by rw[ha,Int.natCast_ediv,Int.natCast_pow];rfl
    have HS:=zq (HM.o.set k hab);have HA:=zq ha;have HX1:=zq hx;have hi0:(0:Int)<=(k:Int):=Int.natCast_nonneg _
    have hi1:(k:Int)<(n:Int):=by omega
    have hi2:(k:Int)<(xs.length:Int):=by omega
    have HSH:=zq hsh;clear hsh hx hxb ha hab hz;by_cases hin:k+1<n
    ·obtain⟨y,hy⟩:∃y,X[k+1]?=some y:=⟨_,List.getElem?_eq_getElem (by rw[<-HN.o];exact hin)⟩
     obtain⟨g3,o3,e,e6⟩:=HSH.o (k+1) y (HXX.o (k+1) y hy)
     cases e
     obtain⟨b,hb⟩:=xq (y*2^t % BB)
     have F2:IntKind.u64.wrap ((y:Int)*2^t)=(b:Int):=by
      have e:((y:Int)*2^t)=((y*2^t:Nat):Int):=by rw[Int.natCast_mul,Int.natCast_pow];rfl
      rw[e,IntKind.wrap_u64,hb];rfl
     obtain⟨h1,h2,h3⟩:=Qg8 (i:=k) HOKX.o hst
     have hg0:X.getD k 0=x:=by rw[List.getD_eq_getElem?_getD,HX1.o];rfl
     have hg1:X.getD (k+1) 0=y:=by rw[List.getD_eq_getElem?_getD,hy];rfl
     have hsw:shrW X s t k=a+b:=by unfold shrW;rw[hg0,hg1,<-HA.o,<-hb]
     rw[hg0,<-HA.o]at h2;rw[hg1,<-hb]at h3
     have hbb:b<BB:=by rw[hb];exact Nat.mod_lt _ Xf
     have hab:a<BB:=Nat.lt_of_le_of_lt (Nat.le_add_right a b) (by rw[<-hsw];exact h1);have F3:bits BinOp.or IntKind.u64 (a:Int) (b:Int)=((a+b:Nat):Int):=Qyg b a t hbb h3 h2 hab;obtain⟨c,hc⟩:=xq (a+b);rw[<-hc]at F3 hsw;rw[hsw]at h1;have e7:(wr.setCell ⟨g,k,none⟩ (.int .u64 (a:Nat))).cell? ⟨g,k,none⟩=some (.int .u64 (a:Nat)):=HS.o.1.cell (by rw[List.getElem?_set_self (by rw[HML.o];exact hlt)]);have e8:(wr.setCell ⟨g,k,none⟩ (.int .u64 (a:Nat))).frozen? ⟨g,k,none⟩=false:=HS.o.1.frozen k;have e9:(wr.setCell ⟨g,k,none⟩ (.int .u64 (a:Nat))).cell? ⟨g2,o2+(k+1),none⟩=some (.int .u64 (y:Nat)):=HS.o.2.cell e6 (by simp;omega);have HS2:=zq (Blk.set (w:=(wr.setCell ⟨g,k,none⟩ (.int .u64 (a:Nat))).drewN 1) HS.o.1 k h1);have HSW:=zq hsw
     have hi3:(k:Int)+1<(n:Int):=by omega
     have hi4:(k:Int)+1<(xs.length:Int):=by omega
     clear hy hb h1 h2 h3 hg0 hg1 hsw hbb hab hc HSH e6 hg2;have W1:IntKind.i64.wrap (k:Int)=(k:Int):=IntWalk.i64_in _ (by omega);have W2:IntKind.i64.wrap ((k:Int)+1)=(k:Int)+1:=IntWalk.i64_in _ (by omega)
     have W3:((k:Int)+1).toNat=k+1:=by omega
     have W4:(0:Int)<=(k:Int)+1:=by omega
     go_wp2_with fail;go_region_law (fail)
     all_goals
      go_wp2_with fail
      have hfin:Qke X s t n g w1 (.int .i64 ((k:Int)+1)) (((wr.setCell ⟨g,k,none⟩ (.int .u64 (a:Nat))).drewN 1).setCell ⟨g,k,none⟩ (.int .u64 (c:Nat))):=
       ⟨k+1,(M.set k a).set k c,by omega,by go_num,by rw[List.length_set,List.length_set,HML.o],A7 (f:=shrW X s t) (fun i hi=>by rw[List.getElem?_set_ne (by omega)];exact HST.o i hi) (by rw[List.length_set,HML.o];exact hlt) HSW.o.symm,HS2.o.1,Xw (Xw (Xw HGR.o HS.o.2) (Jd _ 1 _)) HS2.o.2⟩
      exact⟨hfin,by simp[intOf]<;>omega⟩
    ·have hi3: ¬((k:Int)+1<(n:Int)):=by omega
     have hsw:shrW X s t k=a:=by
      have hg0:X.getD k 0=x:=by rw[List.getD_eq_getElem?_getD,HX1.o];rfl
      have hg1:X.getD (k+1) 0=0:=by rw[List.getD_eq_getElem?_getD,List.getElem?_eq_none (by rw[<-HN.o];omega)];rfl
      unfold shrW;rw[hg0,hg1,<-HA.o];simp
     have HSW:=zq hsw;clear hsw HSH;go_wp2_with fail
     have hfin:Qke X s t n g w1 (.int .i64 ((k:Int)+1)) (wr.setCell ⟨g,k,none⟩ (.int .u64 (a:Nat))):=
      ⟨k+1,M.set k a,by omega,by go_num,by rw[List.length_set,HML.o],A7 (f:=shrW X s t) HST.o (by rw[HML.o];exact hlt) HSW.o.symm,HS.o.1,Xw HGR.o HS.o.2⟩
     exact⟨hfin,by simp[intOf]<;>omega⟩
   ·obtain rfl:k=n:=by omega
    have hF:=Qmq hst (L:=X) (M:=M) (by rw[HML.o,HN.o]) (fun i hi=>HST.o i (by rw[HN.o];exact hi));rw[HVX.o]at hF;have HF:=zq hF;have hR:=HM.o.whole (by rw[HML.o];omega);rw[HML.o]at hR;have HR:=zq hR;have hsl:=Qr M;rw[HML.o]at hsl;obtain⟨m,hm⟩:=xq ((Qy M).length);rw[<-hm]at hsl;have HMM:=zq hm;have hT:=hR.take (n:=m) (c:=k) (by rw[HML.o];exact hsl) hsl (Nat.le_refl _);rw[hm,<-(Yg M).1,<-hm]at hT;have HT:=zq hT
    have hml2:(Qy M).length<=xs.length:=by omega
    have HML2:=zq hml2;clear hF hR hm hT hml2;go_wp2_with fail;refine(X8 _ M _ HR.o).mono ?_;rintro e w' ⟨rfl,rfl⟩;rw[<-HMM.o];go_wp2_with fail;go_ret2;exact⟨_,Qy M,rfl,⟨HT.o,fun q hq=>by cases hq;exact⟨by rw[HG.o];exact Nat.le_refl _,HM.o.lt⟩⟩,by rw[Qu,HF.o],HML2.o,Yt M,HWB.o⟩
def Qkt (a b m n:Nat)(w:World)(e:Ending)(w':World):Prop:=∃v u qs rs,e=.returned (.tuple #[v,u])/\Fr w.heap.size w' v qs/\val qs=a / b/\qs.length<=m/\Qy qs=qs/\Fr w.heap.size w' u rs/\val rs=a % b/\rs.length<=n/\Qy rs=rs/\Below w.heap.size w w'
def Qzb (L V:List Nat)(n nz gv gu gz:Nat)(w:World)(i:Value)(wr:World):Prop:=∃(k:Nat) (M Q:List Nat),k<=nz/\i=.int .i64 ((k:Int)-1)/\Q.length=nz/\LgSt L V n k M Q/\Blk wr gv V/\Blk wr gu M/\Blk wr gz Q/\Below w.heap.size w wr
theorem Qkj {ys:List Nat}{n top s:Nat}(hok:ok ys)(hl:ys.length=n+1)(ht:ys[n]?=some top)(h1:9223372036854775808<=top*2^s)(h2:top*2^s<18446744073709551616)(hs:s<=63):
  val ys*2^s<BB^(n+1)/\9223372036854775808*BB^n<=val ys*2^s:=by
 have e:=Xm ys n (by omega);rw[Wl ht,List.drop_eq_nil_of_le (by omega)]at e;have e0:val ([]:List Nat)=0:=rfl;rw[e0,Nat.mul_zero,Nat.add_zero]at e;have h:=Yk (Zd hok n);rw[List.length_take,Nat.min_eq_left (by omega)]at h;have J:0<2^s:=Nat.pow_pos (by omega);constructor
 ·have I:BB=2^(64-s)*2^s:=by rw[<-Nat.pow_add,show 64-s+s=64 from by omega];rfl
  have K:top<2^(64-s):=by
   have E:top*2^s<2^(64-s)*2^s:=by rw[<-I];exact h2
   exact Nat.lt_of_mul_lt_mul_right E
  have O:val ys<BB^n*2^(64-s):=by
   have:=Nat.mul_le_mul_left (BB^n) K;rw[Nat.mul_succ]at this;omega
  have H:=Nat.mul_lt_mul_of_pos_right O J;rw[Nat.mul_assoc,<-I]at H;rw[Nat.pow_succ];exact H
 ·rw[e,Nat.add_mul,Nat.mul_assoc,Nat.mul_comm _ (BB^n)]
  have:=Nat.mul_le_mul_left (BB^n) h1;omega
theorem Qy9 {V:List Nat}{n v1:Nat}(hok:ok V)(hl:V.length=n+1)(ht:V[n]?=some v1)(h:9223372036854775808*BB^n<=val V):9223372036854775808<=v1:=by
 have e:=Xm V n (by omega);rw[Wl ht,List.drop_eq_nil_of_le (by omega)]at e;have e0:val ([]:List Nat)=0:=rfl;rw[e0,Nat.mul_zero,Nat.add_zero]at e;have E:=Yk (Zd hok n);rw[List.length_take,Nat.min_eq_left (by omega)]at E;refine Nat.le_of_not_lt fun hlt=> ?_;have:=Nat.mul_le_mul_left (BB^n) hlt;rw[Nat.mul_succ]at this;rw[Nat.mul_comm]at h;omega
theorem Qw4 (v u:Value)(xs ys:List Nat)(p:Nat)(w:World)(hv:Rd w v xs)(hu:Rd w u ys)(hyl:ys.length=p+2)(hys:Qy ys=ys)(hlx:ys.length<=xs.length)(hl:xs.length<=274877906944):
  Calls Tryz.prog 256 #[v,u] w (Qkt (val xs) (val ys) (xs.length-ys.length+1) ys.length w):=by
 have HV:=zq hv;have HU:=zq hu;obtain⟨ao,cap,rfl,hnc,hcm,hok,-⟩:=hv.2;obtain⟨bo,cap2,rfl,hnc2,hcm2,hok2,hsh2⟩:=hu.2;have HOK:=zq hok;have HOK2:=zq hok2;obtain⟨top,htop,htop0⟩:=Vf ys (p+1) (by rw[hys,hyl]);rw[hys]at htop;have htb:=hok2 top (List.mem_of_getElem? htop);obtain⟨g2,o2,rfl,e1⟩:=hsh2 (p+1) top htop;obtain⟨nb,hnb,hnb1,hnb2,hy2l,hy2h⟩:=Mh top (by omega) htb;obtain⟨s,hs⟩:=xq (64-nb);rw[<-hs]at hy2l hy2h
 have hs63:s<=63:=by omega
 obtain⟨n,hn⟩:=xq ys.length;obtain⟨m,hm⟩:=xq xs.length;obtain⟨nz,hnq⟩:=xq (m-n+1);obtain⟨mu,hmu⟩:=xq (m+1)
 have hnp:n=p+2:=by omega
 have hmn:n<=m:=by omega
 have hm2:m<=274877906944:=by omega
 have F0:(ys.length:Int)=(n:Int):=by omega
 have F0x:(xs.length:Int)=(m:Int):=by omega
 have F1:(64-(nb:Int))=(s:Int):=by omega
 have F1b:IntKind.u64.wrap (s:Int)=(s:Int):=Va _ (by omega)
 have F2:((n:Int)-1).toNat=p+1:=by omega
 have F3:(m:Int)-(n:Int)=(nz:Int)-1:=by omega
 have F4:(m:Int)+1=(mu:Int):=by omega
 have hmu2:mu<=274877906945:=by omega
 obtain⟨st1,st2⟩:=Qkj hok2 hyl htop hy2l hy2h hs63
 have HST1:Hid (val ys*2^s<BB^n):=by show _<_;rw[hnp];exact st1
 have HST2:Hid (9223372036854775808*BB^(p+1)<=val ys*2^s):=st2
 have hxfit:val xs*2^s<BB^(m+1):=by
  have a:=Yk hok;rw[<-hm]at a
  have b:2^s<BB:=by
   have:2^s<=2^63:=Nat.pow_le_pow_right (by omega) hs63;unfold BB;omega
  rw[Nat.pow_succ];exact Nat.mul_lt_mul'' a b
 have HXF:=zq hxfit;have HS:=zq hs;have HN:=zq hn;have HM:=zq hm;have HNB:=zq hnb;have HTB:=zq htb;have HYL:=zq hyl;have HNQ:=zq hnq;have HHL:=zq hl;have HNP:=zq hnp;have HMU:=zq hmu
 have hn1:1<=n:=by omega
 have hi1:(0:Int)<=(n:Int)-1:=by omega
 have hi2:(n:Int)-1<(n:Int):=by omega
 have HMK:=Zz nz (by omega);clear hv hu hok hok2 hcm hcm2 hsh2 htop htop0 htb hnb hy2l hy2h hs hyl hys hlx hl hxfit st1 st2 hn hm hnq hnp hmu;go_enter Tryz.func256,Tryz.ntmps256;go_wp2_with fail;refine(Tryz.bits_LeadingZeros64 (top:Int) _ (by omega) (by have:=HTB.o;unfold BB at this;omega)).mono ?_;rintro e w1 ⟨rfl,rfl⟩;rw[Int.toNat_natCast,HNB.o];go_wp2_with fail;refine(R7 _ ys s n _ HU.o (by omega) (by omega) (by have:=HN.o;omega) HST1.o).mono ?_;rintro e w2 ⟨V,rfl,hB2,hVl,hVv,hb2⟩;obtain⟨gv,hgv⟩:=xq w1.heap.size;rw[<-hgv]at hB2 ⊢;have hlv1:gv<w2.heap.size:=hB2.lt
 have hgvB:w1.heap.size<=gv:=by omega
 have HGV:=zq hgv;clear hgv;go_wp2_with fail;refine(R7 _ xs s mu _ (HV.o.below hb2) (by omega) (by omega) (by have:=HM.o;have:=HMU.o;omega) (by rw[HMU.o];exact HXF.o)).mono ?_;rintro e w3 ⟨L,rfl,hB3,hLl,hLv,hb3⟩;obtain⟨gu,hgu⟩:=xq w2.heap.size;rw[<-hgu]at hB3 ⊢
 have hlvu:gv<gu:=by omega
 have hguB:w1.heap.size<=gu:=by have:=hb2.size;omega
 have hlu1:gu<w3.heap.size:=hB3.lt;have HGU:=zq hgu;clear hgu;obtain⟨gz,hgz⟩:=xq w3.heap.size
 have hluz:gu<gz:=by omega
 have HBA:Hid (Below w1.heap.size w1 w3):=hb2.trans (hb3.mono hb2.size);have hz1:=HBA.o.size;have HBV3:Hid (Blk w3 gv V):=hB2.below hb3 hB2.lt;have HBU3:=zq hB3;have HGZ:=zq hgz;have HVL:=zq hVl;have HVV:=zq hVv;have HLL:=zq hLl;have HLV:=zq hLv
 have hgzB:w1.heap.size<=gz:=by omega
 clear hB2 hVl hVv hb2 hB3 hLl hLv hb3 hgz;go_wp2_with fail;rw[<-HGZ.o];obtain⟨w4,hw4⟩:=xq (w3.alloc (.cells (madeCells #[.int .u64 0] nz) 101));have ha:=Qq w3 (.cells (madeCells #[.int .u64 0] nz) 101);rw[<-hw4]at ha
 have HB4:Hid (Qzb L V n nz gv gu gz w1 (.int .i64 ((nz:Int)-1)) w4):=by
  refine⟨nz,L,List.replicate nz 0,Nat.le_refl _,rfl,List.length_replicate,?_,HBV3.o.below ha HBV3.o.lt,HBU3.o.below ha HBU3.o.lt,?_,HBA.o.trans (ha.mono hz1)⟩
  ·have hk:nz+n=m+1:=by have:=HNQ.o;omega
   have hmu:=HMU.o;refine LgSt.start (by rw[HLL.o,hmu];omega) ?_ (by rw[List.length_replicate];exact Nat.le_refl _);have hx:=Yk HOK.o;rw[<-HM.o]at hx
   have hS:2^s<=9223372036854775808:=by
    have:2^s<=2^63:=Nat.pow_le_pow_right (by omega) hs63;exact this
   exact Qhz (n:=n) HLV.o hx (HLL.o.trans hmu) hk HVV.o hS hn1 (by rw[show n-1=p+1 from by have:=HNP.o;omega,HVV.o];exact HST2.o)
  ·rw[hw4,HGZ.o];exact Blk.made w3 nz
 rw[<-hw4];clear hw4 ha;have HF2:=zq F2;have HF3:=zq F3;have HF1:=zq F1;clear F2 F1 F3 F4 e1;go_loopw [11] (fun i wr=>Qzb L V n nz gv gu gz w1 i wr) (fun i _=>(intOf i+1).toNat)
 case atStart=>exact HB4.o
 clear HB4
 case round=>
  obtain⟨k,M,Q,hk,rfl,hQl,hst,hBV,hBU,hBQ,hbl⟩:=hrel;have HST:=zq hst;have HBV:=zq hBV;have HBU:=zq hBU;have HBQ:=zq hBQ;have HBL:=zq hbl;have HQL:=zq hQl
  have hml:M.length=mu:=by rw[hst.len,HLL.o]
  have HML:=zq hml;clear hst hBV hBU hBQ hbl hQl hml
  cases k with
  |zero=>
   have hge: ¬((0:Int)<=((0:Nat):Int)-1):=by omega
   obtain⟨r1,r2⟩:=HST.o.fin
   have hnz:nz<=1099511627776:=by have:=HNQ.o;omega
   have hS:0<2^s:=Nat.pow_pos (by omega);obtain⟨b1,b2⟩:=Gy (N:=val xs) (y:=val ys) hS
   have HQV:Hid (val Q=val xs / val ys):=by show _=_;rw[r1,HLV.o,HVV.o,<-b1]
   have HRV:Hid (val (M.take n) / 2^s=val xs % val ys):=by show _=_;rw[r2,HLV.o,HVV.o,<-b2]
   have hnm:n<=mu:=by have:=HMU.o;omega
   have hRM:=(HBU.o.whole (by rw[HML.o];omega));rw[HML.o]at hRM;have HRM:=zq (hRM.take (n:=n) (c:=mu) (by rw[HML.o];exact hnm) hnm (Nat.le_refl _));have hRQ:=(HBQ.o.whole (by rw[HQL.o];omega));rw[HQL.o]at hRQ;have HRQ:=zq hRQ;clear r1 r2 b1 b2 hS hRM hRQ;have i0:(0:Int)<=(n:Int):=Int.natCast_nonneg _
   have i1:(n:Int)<=(mu:Int):=by omega
   go_wp2_with fail;refine(Qg9 _ (M.take n) s _ HRM.o (by omega) (by rw[List.length_take,HML.o];omega)).mono ?_;rintro e w5 ⟨rv,rs,rfl,q1,q2,q3,q4,q5⟩;have HBL5:Hid (Below w1.heap.size w1 w5):=HBL.o.trans (q5.mono HBL.o.size);have hz5:=HBL.o.size;have hz6:=HBL5.o.size;have HRQ5:=zq (HRQ.o.below q5);have Q1:=zq q1
   have Q2:Hid (val rs=val xs % val ys):=by show _=_;rw[q2,HRV.o]
   have Q3:Hid (rs.length<=ys.length):=by show _<=_;rw[List.length_take]at q3;have:=HN.o;omega
   have Q4:=zq q4;clear q1 q2 q3 q4 q5;go_wp2_with fail;refine(Vp _ Q _ HRQ5.o (by rw[HQL.o];omega)).mono ?_;rintro e w6 ⟨qv,rfl,p1,p2⟩;have P1:=zq p1;have P2:=zq p2;clear p1 p2;go_wp2_with fail;go_ret2;have hsq:=Qr Q;have hQl:=HQL.o
   refine⟨_,_,Qy Q,rs,rfl,P1.o.mono hz6,by rw[Qu,HQV.o],by have:=HNQ.o;have:=HM.o;have:=HN.o;omega,Yt Q,(Q1.o.mono hz5).below P2.o,Q2.o,Q3.o,Q4.o,HBL5.o.trans (P2.o.mono hz6)⟩
  |succ k=>
   have hkk:(((k+1:Nat):Int)-1)=(k:Int):=by omega
   rw[hkk];clear hkk
   have hkn:k+n<=m:=by have:=HNQ.o;omega
   have hnp:=HNP.o;have hVlen:=HVL.o;have hMlen:=HML.o;have hmu:=HMU.o;obtain⟨z,hz⟩:∃z,M[k]?=some z:=⟨_,List.getElem?_eq_getElem (by omega)⟩;obtain⟨u2,h2⟩:∃u2,M[k+p+2]?=some u2:=⟨_,List.getElem?_eq_getElem (by omega)⟩;obtain⟨u1,h1⟩:∃u1,M[k+p+1]?=some u1:=⟨_,List.getElem?_eq_getElem (by omega)⟩;obtain⟨u0,h0⟩:∃u0,M[k+p]?=some u0:=⟨_,List.getElem?_eq_getElem (by omega)⟩;obtain⟨v1,k1⟩:∃v1,V[p+1]?=some v1:=⟨_,List.getElem?_eq_getElem (by omega)⟩;obtain⟨v0,k0⟩:∃v0,V[p]?=some v0:=⟨_,List.getElem?_eq_getElem (by omega)⟩;have hu2b:=HBU.o.2 u2 (List.mem_of_getElem? h2);have hu1b:=HBU.o.2 u1 (List.mem_of_getElem? h1);have hu0b:=HBU.o.2 u0 (List.mem_of_getElem? h0);have hv1b:=HBV.o.2 v1 (List.mem_of_getElem? k1);have hv0b:=HBV.o.2 v0 (List.mem_of_getElem? k0);have hv1big:=Qy9 HBV.o.2 (by omega) k1 (by rw[HVV.o];exact HST2.o)
   have hst':LgSt L V (p+2) (k+1) M Q:=by have:=HST.o;rw[hnp]at this;exact this
   obtain⟨G1,G2,G3,G4⟩:=Qw0 hst' HBU.o.2 HBV.o.2 (by omega) (by omega) hz h2 h1 h0 k1 k0 (by omega);obtain⟨d,hd⟩:=xq (gq ((u2*BB+u1)*BB+u0) (v1*BB+v0))
   have hdb:d<BB:=by rw[hd];exact Nat.lt_of_le_of_lt (Nat.min_le_left _ _) (Nat.sub_lt Xf Nat.one_pos)
   rw[<-hd]at G3 G4;obtain⟨U,hU⟩:=xq (val (mid M k (n+1)))
   have hU':val (mid M k (p+3))=U:=by rw[hU,hnp]
   rw[hU']at G1 G3 G4;obtain⟨a2,ha2⟩:=xq (k+n);obtain⟨a1,ha1⟩:=xq (k+p+1);obtain⟨a0,ha0⟩:=xq (k+p);obtain⟨n1,hn1'⟩:=xq (p+1)
   have S1:IntKind.i64.wrap ((k:Int)+(n:Int))=(a2:Int):=by rw[IntWalk.i64_in _ (by omega)];omega
   have S1':(k:Int)+(n:Int)=(a2:Int):=by omega
   have S0:IntKind.i64.wrap (a2:Int)=(a2:Int):=IntWalk.i64_in _ (by omega);obtain⟨a3,ha3⟩:=xq (a2+1)
   have S6:(a2:Int)+1=(a3:Int):=by omega
   have S2:IntKind.i64.wrap ((a2:Int)-1)=(a1:Int):=by rw[IntWalk.i64_in _ (by omega)];omega
   have S3:IntKind.i64.wrap ((a2:Int)-2)=(a0:Int):=by rw[IntWalk.i64_in _ (by omega)];omega
   have S4:IntKind.i64.wrap ((n:Int)-1)=(n1:Int):=by rw[IntWalk.i64_in _ (by omega)];omega
   have S5:IntKind.i64.wrap ((n:Int)-2)=(p:Int):=by rw[IntWalk.i64_in _ (by omega)];omega
   have c2:=HBU.o.cell (show M[a2]?=some u2 by rw[ha2,hnp];exact h2);have c1:=HBU.o.cell (show M[a1]?=some u1 by rw[ha1];exact h1);have c0:=HBU.o.cell (show M[a0]?=some u0 by rw[ha0];exact h0);have d1:=HBV.o.cell (show V[n1]?=some v1 by rw[hn1'];exact k1);have d0:=HBV.o.cell k0;have b0:(0:Int)<=(k:Int):=Int.natCast_nonneg _;have b1:(0:Int)<=(a2:Int):=Int.natCast_nonneg _
   have b2:(a2:Int)<(mu:Int):=by omega
   have b3:(0:Int)<=(a1:Int):=Int.natCast_nonneg _
   have b4:(a1:Int)<(mu:Int):=by omega
   have b5:(0:Int)<=(a0:Int):=Int.natCast_nonneg _
   have b6:(a0:Int)<(mu:Int):=by omega
   have b7:(0:Int)<=(n1:Int):=Int.natCast_nonneg _
   have b8:(n1:Int)<(n:Int):=by omega
   have b9:(0:Int)<=(p:Int):=Int.natCast_nonneg _
   have b10:(p:Int)<(n:Int):=by omega
   have HGUESS:Hid (∀w0:World,Calls Tryz.prog 280 #[.int .u64 (u2:Nat),.int .u64 (u1:Nat),.int .u64 (u0:Nat),.int .u64 (v1:Nat),.int .u64 (v0:Nat)] w0 (Fx d w0)):=fun w0=>by rw[hd];exact Qvc u2 u1 u0 v1 v0 w0 G2 hu1b hu0b (by omega) hv1b hv0b
   have HD:=zq hd;have HDB:=zq hdb;have HU1:=zq hU;have HG1:=zq G1;have HG3:=zq G3;have HG4:=zq G4;have HZ:=zq hz
   have hA2:a2<=m:=by omega
   have HA2:=zq ha2;have HA3:=zq ha3
   have hA3:a3<=mu:=by omega
   clear hmu ha3 hnp hVlen hMlen hz h2 h1 h0 k1 k0 hu2b hu1b hu0b hv1b hv0b hv1big hst' G1 G2 G3 G4 hd hdb hU hU' ha2 ha1 ha0 hn1';go_wp2_with fail;go_quiet ((go_at_call 280;exact Calls.quiet_of (HGUESS.o _)));go_wp2_with fail;obtain⟨wg,hwg⟩:=xq (wr.drewN nq);rw[<-hwg]
   have hbg:Below wr.heap.size wr wg:=by rw[hwg];exact Xt wr nq
   have HWG:=zq hwg;clear hwg;have HBV2:Hid (Blk wg gv V):=HBV.o.below hbg HBV.o.lt;have HBU2:Hid (Blk wg gu M):=HBU.o.below hbg HBU.o.lt;have HBQ2:Hid (Blk wg gz Q):=HBQ.o.below hbg HBQ.o.lt;have HBL2:Hid (Below w1.heap.size w1 wg):=HBL.o.trans (hbg.mono HBL.o.size);have hsz2:=HBL2.o.size
   have e3:a3-k=V.length+1:=by have:=HVL.o;have:=HA3.o;have:=HA2.o;omega
   have HRV:=zq (HBV2.o.whole (by rw[HVL.o];omega));rw[HVL.o]at HRV;rw[e3];clear c2 c1 c0 d1 d0 hbg
   refine(Qy7 gu k (mu-k) d M V _ wg HBU2.o (by rw[HVL.o,HML.o];have:=HA3.o;have:=HA2.o;omega) (by rw[HVL.o];have:=HA3.o;have:=HA2.o;omega) (by rw[HML.o];omega) HRV.o (by simp[Value.ownBlock]<;>omega) HDB.o).mono ?_
   rintro e w5 ⟨lent,M1,rfl,hlent,hB5,l1,l2,l3,heq,hgr⟩;rw[HVL.o]at l3 heq;have HEQ:=zq heq;have HB5:=zq hB5;have HL1:=zq l1;have HL2:=zq l2;have HGR:=zq hgr
   have HBV5:Hid (Blk w5 gv V):=HBV2.o.kept hgr (by simp<;>omega)
   have HBQ5:Hid (Blk w5 gz Q):=HBQ2.o.kept hgr (by simp<;>omega)
   have HBL5:Hid (Below w1.heap.size w1 w5):=Below.grown HBL2.o hgr hsz2 (fun q hq=>by cases hq;exact hguB);clear heq hB5 l1 l2 l3 hgr;obtain⟨q0,hq0⟩:∃q0,Q[k]?=some q0:=⟨_,List.getElem?_eq_getElem (by rw[HQL.o];omega)⟩
   have i0:(k:Int)<(nz:Int):=by omega
   by_cases hl0:lent=0
   ·have hlb:decide (lent≠0)=false:=by simp[hl0]
    obtain⟨r1,r2⟩:=Qpj HG3.o (Nat.lt_of_le_of_lt (Nat.zero_le _) HST.o.lt) (by rw[<-HU1.o]at HEQ;exact HEQ.o) hl0;have HSTN:=zq (HST.o.step (d:=d) HBV.o.2 HVL.o HB5.o.2 HL1.o (by rw[HML.o];have:=HA3.o;have:=HA2.o;omega) HZ.o (by rw[HQL.o];omega) HL2.o (by rw[<-HU1.o];exact r1) (by rw[<-HU1.o];exact r2));have e4:=HBQ5.o.cell hq0;have e5:=HBQ5.o.frozen k;have HSQ:=zq (HBQ5.o.set k HDB.o);clear r1 r2 hq0 hl0;rw[hlb];clear hlb;go_wp2_with fail
    have hfin:Qzb L V n nz gv gu gz w1 (.int .i64 ((k:Int)-1)) (w5.setCell ⟨gz,k,none⟩ (.int .u64 (d:Nat))):=
     ⟨k,M1,Q.set k d,by omega,rfl,by rw[List.length_set,HQL.o],HSTN.o,HBV5.o.kept HSQ.o.2 (by simp<;>omega),HB5.o.kept HSQ.o.2 (by simp<;>omega),HSQ.o.1,Below.grown HBL5.o HSQ.o.2 HBL5.o.size (fun q hq=>by cases hq;exact hgzB)⟩
    exact⟨hfin,by simp[intOf]<;>omega⟩
   ·have hl1:lent=1:=by omega
    have hlb:decide (lent≠0)=true:=by simp[hl0]
    have HEQ1:Hid (U+BB^(n+1)*1=val (mid M1 k (n+1))+d*val V):=by
     show _=_;have h:=HEQ.o;rw[hl1]at h;rw[HU1.o];exact h
    rw[hlb];clear hlb hl1 hl0 HEQ
    have hd0:0<d:=by
     refine Nat.pos_of_ne_zero fun h0=> ?_;have h1:=HEQ1.o;have h2:=Dc HB5.o.2 k (n+1) (by rw[HL1.o,HML.o];have:=HA3.o;have:=HA2.o;omega);rw[h0,Nat.zero_mul]at h1;omega
    obtain⟨d',hd'⟩:=xq (d-1)
    have W1:IntKind.u64.wrap ((d:Int)-1)=(d':Int):=by have:=HDB.o;unfold BB at this;rw[IntKind.wrap_u64];omega
    have hdb':d'<BB:=by have:=HDB.o;omega
    have HDB':=zq hdb';have HD':=zq hd';clear hdb' hd' hd0;go_wp2_with fail;have HRV5:=zq (HBV5.o.whole (by rw[HVL.o];omega));rw[HVL.o]at HRV5
    refine(Qws gu k (mu-k) M1 V _ w5 HB5.o (by rw[HVL.o,HL1.o,HML.o];have:=HA3.o;have:=HA2.o;omega) (by rw[HVL.o];have:=HA3.o;have:=HA2.o;omega) (by rw[HL1.o,HML.o];omega) HRV5.o (by simp[Value.ownBlock]<;>omega)).mono ?_
    rintro e w6 ⟨cg,M2,rfl,hB6,l1,l2,l3,heq,hgr⟩;rw[HVL.o]at l3 heq;have hVP:0<val V:=Nat.lt_of_le_of_lt (Nat.zero_le _) HST.o.lt;have hVT:val V<BB^(n+1):=Nat.lt_of_lt_of_le (Yk HBV.o.2) (Nat.pow_le_pow_right Xf (by rw[HVL.o];omega));obtain⟨r1,r2⟩:=Qgz HB5.o.2 hB6.2 (by rw[HL1.o,HML.o];have:=HA3.o;have:=HA2.o;omega) (by rw[l1,HL1.o,HML.o];have:=HA3.o;have:=HA2.o;omega) HG3.o HG4.o hVP hVT HEQ1.o heq;have HSTN:=zq (HST.o.step (d:=d') HBV.o.2 HVL.o hB6.2 (l1.trans HL1.o) (by rw[HML.o];have:=HA3.o;have:=HA2.o;omega) HZ.o (by rw[HQL.o];omega) (by rw[<-HL2.o];exact l2) (by rw[<-HU1.o,HD'.o];exact r1) (by rw[<-HU1.o];exact r2));have HB6:=zq hB6
    have HBV6:Hid (Blk w6 gv V):=HBV5.o.kept hgr (by simp<;>omega)
    have HBQ6:Hid (Blk w6 gz Q):=HBQ5.o.kept hgr (by simp<;>omega)
    have HBL6:Hid (Below w1.heap.size w1 w6):=Below.grown HBL5.o hgr HBL5.o.size (fun q hq=>by cases hq;exact hguB);have e4:=HBQ6.o.cell hq0;have e5:=HBQ6.o.frozen k;have HSQ:=zq (HBQ6.o.set k HDB'.o);clear r1 r2 hq0 hB6 l1 l2 l3 heq hgr hVP hVT;go_wp2_with fail
    have hfin:Qzb L V n nz gv gu gz w1 (.int .i64 ((k:Int)-1)) (w6.setCell ⟨gz,k,none⟩ (.int .u64 (d':Nat))):=
     ⟨k,M2,Q.set k d',by omega,rfl,by rw[List.length_set,HQL.o],HSTN.o,HBV6.o.kept HSQ.o.2 (by simp<;>omega),HB6.o.kept HSQ.o.2 (by simp<;>omega),HSQ.o.1,Below.grown HBL6.o HSQ.o.2 HBL6.o.size (fun q hq=>by cases hq;exact hgzB)⟩
    exact⟨hfin,by simp[intOf]<;>omega⟩
def Qm0 (a b m n:Nat)(w:World)(e:Ending)(w':World):Prop:=∃v u qs rs,e=.returned (.tuple #[v,u,.int .i64 0])/\Fr w.heap.size w' v qs/\val qs=a / b/\qs.length<=m/\Qy qs=qs/\Fr w.heap.size w' u rs/\val rs=a % b/\rs.length<=n/\Qy rs=rs/\Below w.heap.size w w'
theorem Fr.nil (B:Nat)(w:World):Fr B w (.slice none 0 0) []:=⟨Rd.nil w,fun k hk=>by cases hk⟩
theorem Qxq (v u:Value)(xs ys:List Nat)(w:World)(hv:Rd w v xs)(hu:Rd w u ys)(hl:xs.length<=274877906944)(hl2:ys.length<=274877906944)(h0:0<val ys):
  Calls Tryz.prog 239 #[v,u] w (Qm0 (val xs) (val ys) xs.length ys.length w):=by
 have HV:=zq hv;have HU:=zq hu;have HL:=zq hl;have HL2:=zq hl2;obtain⟨ao,cap,rfl,hnc,hcm,hok,-⟩:=hv.2;obtain⟨bo,cap2,rfl,hnc2,hcm2,hok2,-⟩:=hu.2;have HOK:=zq hok;have HOK2:=zq hok2;obtain⟨Y,hY⟩:=xq (Qy ys)
 have hYl:Y.length<=ys.length:=by rw[hY];exact Qr ys
 have hYv:val Y=val ys:=by rw[hY,Qu]
 have hYs:Qy Y=Y:=by rw[hY,Yt]
 have hYok:ok Y:=by rw[hY];exact J5 hok2
 have hY0:Y.length≠0:=fun e=>by
  rw[<-hYv,List.eq_nil_of_length_eq_zero e]at h0;simp[val]at h0
 obtain⟨n,hn⟩:=xq Y.length;have HY:=zq hY;have HYV:=zq hYv;have HYS:=zq hYs;have HYOK:=zq hYok;have HN:=zq hn
 have hn0:((n:Int)==0)=false:=by simp;omega
 have H0:=zq h0;rw[<-hn]at hYl hY0;clear hv hu hok hok2 hcm hcm2 hl hl2 hY hYv hYs hYok hn h0;by_cases h1:n=1
 ·have h1b:((n:Int)==1)=true:=by simp[h1]
  obtain⟨y,hy⟩:∃y,Y[0]?=some y:=⟨_,List.getElem?_eq_getElem (by rw[<-HN.o];omega)⟩;have hyb:=HYOK.o y (List.mem_of_getElem? hy)
  have hYy:val Y=y:=by
   rw[<-List.drop_zero (l:=Y),Wl hy,List.drop_eq_nil_of_le (by rw[<-HN.o];omega)];simp[val]
  have hy0:0<y:=by have:=H0.o;rw[<-HYV.o,hYy]at this;exact this
  have HYY:=zq hYy;have HYB:=zq hyb;have HY0:=zq hy0;have HYC:=zq hy
  have hn1:0<n:=by omega
  clear hy hyb hYy hy0 h1;go_enter Tryz.func239,Tryz.ntmps239;go_wp2_with fail;refine(Ju _ ys _ HU.o (by have:=HL2.o;omega)).mono ?_;rintro e w1 ⟨rfl,hB,hb⟩;rw[<-HY.o,<-HN.o]at*;have e1:=hB.cell HYC.o;have HBL:=zq hb;have HV1:=zq (HV.o.below hb);have hz1:=hb.size;clear hB hb;go_wp2_with fail;refine(Ni _ xs y _ HV1.o (by have:=HL.o;omega) HY0.o HYB.o).mono ?_;rintro e w2 ⟨qv,qs,rfl,q1,q2,q3,q4,q5⟩;have Q1:=zq q1
  have Q2:Hid (val qs=val xs / val ys):=by show _=_;rw[q2,<-HYV.o,HYY.o]
  have Q3:=zq q3;have Q4:=zq q4;have HBL2:Hid (Below w.heap.size w w2):=HBL.o.trans (q5.mono hz1);obtain⟨r,hr⟩:=xq (val xs % y);rw[<-hr]
  have hrb:r<BB:=by rw[hr];exact Nat.lt_trans (Nat.mod_lt _ HY0.o) HYB.o
  have HR:Hid (r=val xs % val ys):=by show _=_;rw[hr,<-HYV.o,HYY.o]
  have HRW:=zq (Pd w2 r hrb);have hz2:=HBL2.o.size;have ha:=Qq w2 (.cells #[.int .u64 (r:Nat)] 101);have HA:=zq ha;clear q1 q2 q3 q4 q5 hr hrb ha;go_wp2_with fail;refine(Vp _ [r] _ HRW.o (by simp)).mono ?_;rintro e w3 ⟨rv,rfl,p1,p2⟩;have P1:=zq p1;have HB3:=zq (HA.o.trans (p2.mono HA.o.size));clear p1 p2;go_wp2_with fail;go_ret3;have hsl:=Qr [r];refine⟨_,_,qs,Qy [r],rfl,(Q1.o.mono hz1).below HB3.o,Q2.o,Q3.o,Q4.o,P1.o.mono (Nat.le_trans hz2 HA.o.size),by rw[Qu,<-HR.o];simp[val],?_,Yt _,HBL2.o.trans (HB3.o.mono hz2)⟩;simp only[List.length_cons,List.length_nil]at hsl;omega
 ·have h1b:((n:Int)==1)=false:=by simp;omega
  have hn2:2<=n:=by omega
  obtain⟨X,hX⟩:=xq (Qy xs)
  have hXl:X.length<=xs.length:=by rw[hX];exact Qr xs
  have hXv:val X=val xs:=by rw[hX,Qu]
  have hXs:Qy X=X:=by rw[hX,Yt]
  have hXok:ok X:=by rw[hX];exact J5 HOK.o
  have HX:=zq hX;have HXL:=zq hXl;have HXV:=zq hXv;have HXS:=zq hXs;have HXOK:=zq hXok;clear hX hXl hXv hXs hXok h1;by_cases hlt:val xs<val ys
  ·have hc:cmpI (val X) (val Y)= -1:=Ma (by rw[HXV.o,HYV.o];exact hlt)
   have HC:=zq hc;have HD:Hid (val xs / val ys=0/\val xs % val ys=val xs):=⟨Nat.div_eq_of_lt hlt,Nat.mod_eq_of_lt hlt⟩
   have hXY:X.length<=n:=by
    refine Nat.le_of_not_lt fun h=> ?_;have:=Me (xs:=Y) (ys:=X) HYOK.o (by rw[HYS.o,HXS.o,<-HN.o];exact h);rw[HXV.o,HYV.o]at this;omega
   clear hc hlt;go_enter Tryz.func239,Tryz.ntmps239;go_wp2_with fail;refine(Vp _ ys _ HU.o (by have:=HL2.o;omega)).mono ?_;rintro e w1 ⟨yv,rfl,hB,hb⟩;rw[<-HY.o]at hB;obtain⟨yo,ycap,rfl,-,-,-,-⟩:=hB.1.2;have HB:=zq hB;have HBL:=zq hb;have HV1:=zq (HV.o.below hb);have hz1:=hb.size;clear hB hb;rw[<-HN.o];go_wp2_with fail;refine(Vp _ xs _ HV1.o (by have:=HL.o;omega)).mono ?_;rintro e w2 ⟨xv,rfl,hB2,hb2⟩;rw[<-HX.o]at hB2;have HB2:=zq hB2;have HY2:=zq (HB.o.below hb2);have HBL2:Hid (Below w.heap.size w w2):=HBL.o.trans (hb2.mono hz1);have hz2:=HBL2.o.size;rw[<-HN.o]at HY2;clear hB2 hb2;go_wp2_with fail;refine(V9 _ _ X Y _ HB2.o.1 HY2.o.1).mono ?_;rintro e w3 ⟨rfl,hb3⟩;rw[HC.o];have HB3:=zq hb3;clear hb3;go_wp2_with fail;go_ret3;exact⟨_,_,[],X,rfl,Fr.nil _ _,by rw[HD.o.1];rfl,Nat.zero_le _,rfl,(HB2.o.mono hz1).below HB3.o,by rw[HXV.o,HD.o.2],by omega,HXS.o,HBL2.o.trans (HB3.o.mono hz2)⟩
  ·obtain⟨c,hc⟩:=xq (cmpI (val X) (val Y))
   have hcb:decide (c<0)=false:=by
    rw[hc,HXV.o,HYV.o];unfold cmpI;rw[if_neg hlt]
    split<;>decide
   have HC:=zq hc
   have hXY:n<=X.length:=by
    refine Nat.le_of_not_lt fun h=> ?_;have:=Me (xs:=X) (ys:=Y) HXOK.o (by rw[HYS.o,HXS.o,<-HN.o];exact h);rw[HXV.o,HYV.o]at this;omega
   clear hc hlt;go_enter Tryz.func239,Tryz.ntmps239;go_wp2_with fail;refine(Vp _ ys _ HU.o (by have:=HL2.o;omega)).mono ?_;rintro e w1 ⟨yv,rfl,hB,hb⟩;rw[<-HY.o]at hB;obtain⟨yo,ycap,rfl,-,-,-,-⟩:=hB.1.2;have HB:=zq hB;have HBL:=zq hb;have HV1:=zq (HV.o.below hb);have hz1:=hb.size;clear hB hb;rw[<-HN.o];go_wp2_with fail;refine(Vp _ xs _ HV1.o (by have:=HL.o;omega)).mono ?_;rintro e w2 ⟨xv,rfl,hB2,hb2⟩;rw[<-HX.o]at hB2;have HB2:=zq hB2;have HY2:=zq (HB.o.below hb2);have HBL2:Hid (Below w.heap.size w w2):=HBL.o.trans (hb2.mono hz1);have hz2:=HBL2.o.size;rw[<-HN.o]at HY2;clear hB2 hb2;go_wp2_with fail;refine(V9 _ _ X Y _ HB2.o.1 HY2.o.1).mono ?_;rintro e w3 ⟨rfl,hb3⟩;rw[<-HC.o];have HB3:=zq (HB2.o.below hb3);have HY3:=zq (HY2.o.below hb3);have HBL3:Hid (Below w.heap.size w w3):=HBL2.o.trans (hb3.mono hz2);have hz3:=HBL3.o.size;clear hb3;go_wp2_with fail;refine(Qw4 _ _ X Y (n-2) _ HB3.o.1 HY3.o.1 (by rw[<-HN.o];omega) HYS.o (by rw[<-HN.o];exact hXY) (by have:=HXL.o;have:=HL.o;omega)).mono ?_;rintro e w4 ⟨qv,rv,qs,rs,rfl,q1,q2,q3,q4,r1,r2,r3,r4,hb4⟩;have Q1:=zq (q1.mono hz3);have R1:=zq (r1.mono hz3);have HBL4:Hid (Below w.heap.size w w4):=HBL3.o.trans (hb4.mono hz3)
   have Q2:Hid (val qs=val xs / val ys):=by show _=_;rw[q2,HXV.o,HYV.o]
   have R2:Hid (val rs=val xs % val ys):=by show _=_;rw[r2,HXV.o,HYV.o]
   have Q3:Hid (qs.length<=xs.length):=by show _<=_;have:=HXL.o;have:=HN.o;omega
   have R3:Hid (rs.length<=ys.length):=by show _<=_;have:=HN.o;omega
   have Q4:=zq q4;have R4:=zq r4;clear q1 q2 q3 q4 r1 r2 r3 r4 hb4;go_wp2_with fail;go_ret3;exact⟨_,_,qs,rs,rfl,Q1.o,Q2.o,Q3.o,Q4.o,R1.o,R2.o,R3.o,R4.o,HBL4.o⟩
open LexP
structure Wr (R:Nat) (og:Option Nat) (w w':World):Prop where
 os:w'.os=w.os
 tape:w'.tape=w.tape
 output:w'.output=w.output
 size:w.heap.size<=w'.heap.size
 block:∀k,k<w.heap.size->k≠R->some k≠og->w'.heap[k]?=w.heap[k]?
def Mv (w:World)(og og':Option Nat):Prop:=∀k,og'=some k->og=some k\/w.heap.size<=k
theorem Wr.refl (R:Nat)(og:Option Nat)(w:World):Wr R og w w:=⟨rfl,rfl,rfl,Nat.le_refl _,fun _ _ _ _=>rfl⟩
theorem Mv.refl (w:World)(og:Option Nat):Mv w og og:=fun _ h=> .inl h
theorem Wr.trans {R:Nat}{og og':Option Nat}{w w' w'':World}(h:Wr R og w w')(hm:Mv w og og')(k:Wr R og' w' w''):Wr R og w w'':=
 ⟨k.os.trans h.os,k.tape.trans h.tape,k.output.trans h.output,Nat.le_trans h.size k.size,fun i hi hR ho=>(k.block i (Nat.lt_of_lt_of_le hi h.size) hR (fun e=>by
  rcases hm i e.symm with E|E
  ·exact ho E.symm
  ·omega)).trans (h.block i hi hR ho)⟩
theorem Mv.trans {R:Nat}{w w':World}{og og' og'':Option Nat}(h:Mv w og og')(hw:w.heap.size<=w'.heap.size)(k:Mv w' og' og''):Mv w og og'':=fun i hi=>by
 rcases k i hi with E|E
 ·exact h i E
 ·exact .inr (by omega)
theorem Wr.of_below {R:Nat}{og:Option Nat}{w w':World}(h:Below w.heap.size w w'):Wr R og w w':=⟨h.os,h.tape,h.output,h.size,fun k hk _ _=>h.block k hk⟩
theorem Wr.of_grown {R:Nat}{og:Option Nat}{w w':World}(h:w.grownBy w' og):Wr R og w w':=⟨h.os,h.tape,h.output,h.size,fun k hk _ ho=>h.block k hk ho⟩
theorem Wr.of_set {R:Nat}{og:Option Nat}(w:World)(o:Nat)(u:Value):Wr R og w (w.setCell ⟨R,o,none⟩ u):=
 ⟨rfl,rfl,rfl,by simp[World.setCell],fun k _ hR _=>heap_setCell_other w ⟨R,o,none⟩ k u hR⟩
theorem Wr.to_below {R B:Nat}{og:Option Nat}{w0 w w':World}(h:Wr R og w w')(hb:Below B w0 w)(hB:B<=w.heap.size)(hR:B<=R)(ho:∀k,og=some k->B<=k):Below B w0 w':=
 ⟨h.os.trans hb.os,h.tape.trans hb.tape,h.output.trans hb.output,Nat.le_trans hb.size h.size,fun k hk=>(h.block k (by omega) (by omega) (fun e=>by have:=ho k e.symm;omega)).trans (hb.block k hk)⟩
theorem Rd.wr {R:Nat}{og:Option Nat}{w w':World}{v:Value}{xs:List Nat}(h:Rd w v xs)(hw:Wr R og w w')(h1:∀k,v.ownBlock=some k->k≠R/\og≠some k):Rd w' v xs:=by
 obtain⟨I,ao,E,rfl,a1,a2,a3,a4⟩:=h;refine⟨fun k hk=>Nat.lt_of_lt_of_le (I k hk) hw.size,ao,E,rfl,a1,a2,a3,fun i x hx=> ?_⟩;obtain⟨g,o,rfl,H⟩:=a4 i x hx;obtain⟨b1,b2⟩:=h1 g rfl;exact⟨g,o,rfl,(World.cell?_of_block (hw.block g (World.block_lt_of_cell? w _ H) b1 (fun e=>b2 e.symm))).trans H⟩
def u8s (l:Qx):List Value:=l.map fun b=> .int .u8 ((b.toNat:Nat):Int)
theorem Qje (l:Qx):(u8s l).length=l.length:=by simp[u8s]
theorem Cc (a b:Qx):u8s (a++b)=u8s a++u8s b:=by simp[u8s]
theorem Qmy (l:Qx):∀u∈u8s l,u.oneCell'=true:=by
 intro u h;simp only[u8s,List.mem_map]at h;obtain⟨d,_,rfl⟩:=h;rfl
theorem Tryz.infoU8d:(Tryz.prog.info? 5).map (fun i=>(i.zero,i.size,i.bytes))=some (some (.int .u8 0),1,1):=by kernel_rfl
def SG (w:World):Prop:=∀d,d<10->w.cell? ⟨4,d,none⟩=some (.int .u8 ((48+d:Nat):Int))
theorem SG.below {w w':World}{B:Nat}(h:SG w)(hb:Below B w w')(hB:4<B):SG w':=fun d hd=>by rw[hb.cell (p:=⟨4,d,none⟩) hB];exact h d hd
theorem SG.wr {R:Nat}{og:Option Nat}{w w':World}(h:SG w)(hw:Wr R og w w')(h1:4≠R)(h2:og≠some 4):SG w':=fun d hd=>
 (World.cell?_of_block (hw.block _ (World.block_lt_of_cell? w _ (h d hd)) h1 (fun e=>h2 e.symm))).trans (h d hd)
structure WS (w:World) (R:Nat) (pv ov:Value) (out:Qx):Prop where
 blk:w.heap[R]?=some (.cells #[.int .i64 10,.int .i64 19,.int .u64 10000000000000000000,pv,ov] 216 (0,0))
 own:w.ownsRow (R+1) 5 1 ov out.length (u8s out)
 big:4<R
theorem WS.ne {w:World}{R:Nat}{pv ov:Value}{out:Qx}(h:WS w R pv ov out):∀k,ov.ownBlock=some k->R<k/\k<w.heap.size:=fun k hk=>by
 have:=h.own.lt k hk;omega
theorem WS.lt {w:World}{R:Nat}{pv ov:Value}{out:Qx}(h:WS w R pv ov out):R<w.heap.size:=(Array.getElem?_eq_some_iff.1 h.blk).1
theorem WS.cell {w:World}{R:Nat}{pv ov:Value}{out:Qx}(h:WS w R pv ov out):w.cell? ⟨R,0,none⟩=some (.int .i64 10)/\w.cell? ⟨R,1,none⟩=some (.int .i64 19)/\w.cell? ⟨R,2,none⟩=some (.int .u64 10000000000000000000)/\w.cell? ⟨R,3,none⟩=some pv/\w.cell? ⟨R,4,none⟩=some ov/\w.frozen? ⟨R,4,none⟩=false:=by
 refine⟨?_,?_,?_,?_,?_,frozen_of_row w R 4 _ _ h.blk⟩<;>rw[cell_of_row w R _ _ _ _ h.blk]<;>rfl
theorem WS.kept {w w':World}{R:Nat}{pv ov:Value}{out:Qx}{row:Option Nat}(h:WS w R pv ov out)(hg:w.grownBy w' row)(h1:row≠some R)(h2:∀k,row=some k->ov.ownBlock≠some k):WS w' R pv ov out:=
 ⟨(hg.block R h.lt (fun e=>h1 e.symm)).trans h.blk,h.own.kept hg (by
  cases ho:ov.ownBlock with
  |none=>exact .inl rfl
  |some k=>exact .inr (fun e=>h2 k e.symm (by rw[ho]))),h.big⟩
theorem WS.below {w w':World}{R:Nat}{pv ov:Value}{out:Qx}(h:WS w R pv ov out)(hb:Below w.heap.size w w'):WS w' R pv ov out:=
 h.kept (row:=none) ⟨hb.os,hb.tape,hb.output,hb.size,fun k hk _=>hb.block k hk⟩ (by simp) (fun k hk=>by cases hk)
def Qqr (w:World)(R:Nat)(pv ov:Value)(out l:Qx)(e:Ending)(w':World):Prop:=∃ov',e=.returned (.tuple #[])/\WS w' R pv ov' (out++l)/\Wr R ov.ownBlock w w'/\Mv w ov.ownBlock ov'.ownBlock
theorem WS.grow {w w2:World}{R gg n cap:Nat}{pv ov:Value}{out l:Qx}(h:WS w R pv ov out)(hown:w2.ownsRow (R+1) 5 1 (.slice (some ⟨gg,0,none⟩) n cap) n (u8s out++u8s l))(hn:n=(out++l).length)
  (hg:w.grownBy w2 ov.ownBlock) (hat:ov.ownBlock=some gg\/gg=w.heap.size):
  WS (w2.setCell ⟨R,4,none⟩ (.slice (some ⟨gg,0,none⟩) n cap)) R pv (.slice (some ⟨gg,0,none⟩) n cap) (out++l)/\Wr R ov.ownBlock w (w2.setCell ⟨R,4,none⟩ (.slice (some ⟨gg,0,none⟩) n cap))/\Mv w ov.ownBlock (Value.ownBlock (.slice (some ⟨gg,0,none⟩) n cap)):=by
 have H:some R≠ov.ownBlock:=fun e=>by have:=h.ne R e.symm;omega
 have I:=(hg.block R h.lt H).trans h.blk;have E:=heap_setCell_same w2 R 4 #[.int .i64 10,.int .i64 19,.int .u64 10000000000000000000,pv,ov] 216 (.slice (some ⟨gg,0,none⟩) n cap) I;refine⟨⟨E.trans (by simp),?_,h.big⟩,(Wr.of_grown hg).trans (Mv.refl _ _) (Wr.of_set w2 4 _),?_⟩
 ·subst hn
  rw[Cc];exact ownsRow_setCell_below hown (by simp) _
 ·intro k J
  cases J
  rcases hat with h|h
  ·exact .inl h
  ·exact .inr (Nat.le_of_eq h.symm)
def sgn (d:Nat):UInt8:=UInt8.ofNat (48+d)
theorem Qg7 {d:Nat}(h:d<10):(sgn d).toNat=48+d:=by unfold sgn;rw[UInt8.toNat_ofNat'];omega
def u8c (L:List Nat):List Value:=L.map fun d=>Value.int .u8 ((d:Nat):Int)
def DB (w:World)(D:Nat)(L:List Nat):Prop:=w.heap[D]?=some (.cells (u8c L).toArray 246 (0,0))/\L.length=64
theorem DB.cell {w:World}{D i x:Nat}{L:List Nat}(h:DB w D L)(hx:L[i]?=some x):w.cell? ⟨D,i,none⟩=some (.int .u8 ((x:Nat):Int)):=by
 rw[cell_of_row w D i _ _ _ h.1];simp[u8c,hx]
theorem DB.frozen {w:World}{D:Nat}{L:List Nat}(h:DB w D L)(i:Nat):w.frozen? ⟨D,i,none⟩=false:=frozen_of_row w D i _ _ h.1
theorem DB.set {w:World}{D:Nat}{L:List Nat}(h:DB w D L)(i x:Nat):DB (w.setCell ⟨D,i,none⟩ (.int .u8 ((x:Nat):Int))) D (L.set i x)/\w.grownBy (w.setCell ⟨D,i,none⟩ (.int .u8 ((x:Nat):Int))) (some D):=by
 refine⟨⟨?_,by rw[List.length_set,h.2]⟩,⟨rfl,rfl,rfl,by simp,fun k _ hk=>heap_setCell_other w ⟨D,i,none⟩ k _ (fun e=>hk (by simp[e]))⟩⟩;have:=heap_setCell_same w D i (u8c L).toArray 246 (.int .u8 ((x:Nat):Int)) h.1;rw[this];simp[u8c,List.map_set]
theorem DB.made (w:World):DB (w.alloc (.cells (u8c (List.replicate 64 0)).toArray 246)) w.heap.size (List.replicate 64 0):=⟨heap_alloc_new w _,List.length_replicate⟩
def DgSt (v v' n:Nat)(L:List Nat):Prop:=∃rest:List Nat,dg v=dg v'++rest/\n+rest.length=64/\L.drop n=rest.map (48+ ·)
theorem DgSt.start (v:Nat):DgSt v v 64 (List.replicate 64 0):=⟨[],by simp,rfl,by simp⟩
theorem DgSt.step {v v' n:Nat}{L:List Nat}(h:DgSt v v' (n+1) L)(hL:L.length=64)(hv:0<v'):DgSt v (v' / 10) n (L.set n (48+v' % 10)):=by
 obtain⟨E,I,K,J⟩:=h;refine⟨(v' % 10)::E,?_,by simp only[List.length_cons];omega,?_⟩
 ·rw[I,Sy hv,List.append_assoc];rfl
 ·have H:n<(L.set n (48+v' % 10)).length:=by rw[List.length_set];omega
  rw[List.drop_eq_getElem_cons H,List.getElem_set_self,List.drop_set_of_lt (Nat.lt_succ_self n),J];rfl
theorem Qvy {v:Nat}(h:v<BB):(dg v).length<=20:=Ud (Nat.lt_trans h (by unfold BB;decide))
theorem DgSt.room {v v' n:Nat}{L:List Nat}(h:DgSt v v' n L)(hv:v<BB):44<=n:=by
 obtain⟨H,E,I,_⟩:=h;have:=Qvy hv;rw[E,List.length_append]at this;omega
def PdSt (v n:Nat)(L:List Nat):Prop:=∃j,n+j+(dg v).length=64/\L.drop n=(List.replicate j 0++dg v).map (48+ ·)
theorem PdSt.start {v n:Nat}{L:List Nat}(h:DgSt v 0 n L):PdSt v n L:=by
 obtain⟨I,E,J,H⟩:=h;rw[Wq,List.nil_append]at E;exact⟨0,by rw[E];omega,by rw[H,E];rfl⟩
theorem PdSt.step {v n:Nat}{L:List Nat}(h:PdSt v (n+1) L)(hL:L.length=64):PdSt v n (L.set n 48):=by
 obtain⟨j,I,H⟩:=h;refine⟨j+1,by omega,?_⟩
 have E:n<(L.set n 48).length:=by rw[List.length_set];omega
 rw[List.drop_eq_getElem_cons E,List.getElem_set_self,List.drop_set_of_lt (Nat.lt_succ_self n),H];rfl
def WdA (v D:Nat)(w:World)(vv nv:Value)(wr:World):Prop:=∃(v' n:Nat) (L:List Nat),vv=.int .u64 (v':Nat)/\nv=.int .i64 (n:Nat)/\v'<=v/\DgSt v v' n L/\DB wr D L/\Below w.heap.size w wr
def WdB (v width D:Nat)(w:World)(nv:Value)(wr:World):Prop:=∃(n:Nat) (L:List Nat),nv=.int .i64 (n:Nat)/\n<=64/\44<=n/\(64-n<=width\/64-n=(dg v).length)/\PdSt v n L/\DB wr D L/\Below w.heap.size w wr
theorem Ed (R v width:Nat)(pv ov:Value)(out:Qx)(w:World)(h:WS w R pv ov out)(hs:SG w)(hv:v<BB)(hw:width<=19)(h0:0<v\/0<width)(hl:out.length<=1099511627776):
  Calls Tryz.prog 255 #[.pointer (some ⟨R,0,none⟩),.int .u64 (v:Nat),.int .i64 (width:Nat)] w (Qqr w R pv ov out ((pad v width).map sgn)):=by
 have HS:=zq h;have HSG:=zq hs;have HV:=zq hv;have HST0:=zq (DgSt.start v)
 have hsz:4<w.heap.size:=by have:=h.big;have:=h.lt;omega
 have hRlt:=h.lt;clear h hs hv;go_enter Tryz.func255,Tryz.ntmps255;go_wp2_with fail;go_loopw [1,7] (fun vv nv wr=>WdA v w.heap.size w vv nv wr) (fun vv _ _=>(intOf vv).toNat)
 case atStart=>exact⟨v,64,List.replicate 64 0,rfl,rfl,Nat.le_refl _,HST0.o,DB.made w,Qq w _⟩
 clear HST0
 case round=>
  obtain⟨v',n,L,rfl,rfl,hvv,hst,hdb,hbl⟩:=hrel;have HST:=zq hst;have HDB:=zq hdb;have HBL:=zq hbl;have hroom:=hst.room HV.o;clear hst hdb hbl;by_cases hv0:v'=0
  ·subst hv0
   have HPD:=zq (PdSt.start HST.o)
   have HLEN:Hid (64-n=(dg v).length):=by
    obtain⟨rest,a1,a2,_⟩:=HST.o;show _=_;rw[Wq,List.nil_append]at a1;rw[a1];omega
   have hn64:n<=64:=by obtain⟨rest,a1,a2,_⟩:=HST.o;omega
   go_wp2_with fail;go_loopw [7] (fun nv wr=>WdB v width w.heap.size w nv wr) (fun nv _=>(intOf nv).toNat)
   case atStart=>exact⟨n,L,rfl,hn64,hroom,.inr HLEN.o,HPD.o,HDB.o,HBL.o⟩
   clear HST HDB HBL HPD HLEN hroom hn64
   case round=>
    rename_i wr2 _;obtain⟨n,L,rfl,hn64,hroom,hway,hst,hdb,hbl⟩:=hrel;have HST:=zq hst;have HDB:=zq hdb;have HBL:=zq hbl;have HWAY:=zq hway;clear hst hdb hbl hway;by_cases hlt:64-n<width
    ·obtain⟨m,rfl⟩:∃m,n=m+1:=⟨n-1,by omega⟩
     have F0:((m+1:Nat):Int)=(m:Int)+1:=by omega
     have F1:(64:Int)-((m:Int)+1)<(width:Int):=by omega
     have HN:=zq (HST.o.step HDB.o.2);obtain⟨z,hz⟩:∃z,L[m]?=some z:=⟨_,List.getElem?_eq_getElem (by rw[HDB.o.2];omega)⟩;have c3:=HDB.o.cell hz;have c4:=HDB.o.frozen m;have HSET:=zq (HDB.o.set m 48)
     have hm64:m<64:=by omega
     clear hz;rw[F0];go_wp2_with fail
     have hfin:WdB v width w.heap.size w (.int .i64 (m:Nat)) (wr.setCell ⟨w.heap.size,m,none⟩ (.int .u8 48)):=
      ⟨m,L.set m 48,rfl,by omega,by omega,.inl (by omega),HN.o,HSET.o.1,HBL.o.trans ((Below.refl _ _).setCell (by exact Nat.le_refl _) _)⟩
     exact⟨hfin,by simp[intOf]<;>omega⟩
    ·have F1: ¬((64:Int)-(n:Int)<(width:Int)):=by omega
     have hpad:L.drop n=(pad v width).map (48+ ·)/\(pad v width).length=64-n:=by
      obtain⟨j,a1,a2⟩:=HST.o
      have hj:j=width-(dg v).length:=by rcases HWAY.o with h|h<;>omega
      refine⟨by rw[a2,hj];rfl,?_⟩;unfold pad;rw[List.length_append,List.length_replicate];omega
     obtain⟨hp1,hp2⟩:=hpad;obtain⟨m,hm⟩:=xq (64-n);rw[<-hm]at hp2
     have hm1:0<m:=by
      rw[<-hp2];unfold pad;rw[List.length_append,List.length_replicate];rcases h0 with h|h
      ·have:0<(dg v).length:=by rw[Sy h];simp
       omega
      ·omega
     have hm64:m<=64:=by omega
     have HS2:=zq (HS.o.below HBL.o);obtain⟨i0,hi,hz0,hz1,hz2⟩:=info_parts Tryz.infoU8d;obtain⟨c0,c1,c2,c3,c4,c5⟩:=HS2.o.cell;have HP1:=zq hp1;have HP2:=zq hp2;have HM:=zq hm;have hi0:(0:Int)<=(n:Int):=Int.natCast_nonneg _
     have hi1:(n:Int)<=64:=by omega
     have hi2: ¬(64=n):=by omega
     have hi3:n<64:=by omega
     have HNEWS:Hid (∀(j:Nat) (u:Value),(u8s ((pad v width).map sgn))[j]?=some u->wr.cell? ((⟨w.heap.size,n,none⟩:Addr).add j)=some u):=by
      intro j u hu
      have e:(⟨w.heap.size,n,none⟩:Addr).add j=⟨w.heap.size,n+j,none⟩:=by unfold Addr.add;split<;>simp_all
      rw[e];simp only[u8s,List.map_map,List.getElem?_map,Option.map_eq_some_iff]at hu;obtain⟨d,hd,rfl⟩:=hu
      have hL:L[n+j]?=some (48+d):=by
       rw[<-List.getElem?_drop,HP1.o,List.getElem?_map,hd];rfl
      rw[HDB.o.cell hL]
      have hd10:d<10:=by
       have:=List.mem_of_getElem? hd;unfold pad at this;rcases List.mem_append.1 this with h|h
       ·rw[List.mem_replicate]at h;omega
       ·exact Qwp v d h
      simp only[Function.comp];rw[Qg7 hd10]
     have HLT:Hid (R<wr.drew.heap.size):=HS2.o.lt
     have HNE:Hid (some R≠ov.ownBlock):=fun e=>by have:=HS2.o.ne R e.symm;omega
     clear hp1 hp2 hm;go_wp2_with fail;go_region_law ((refine step_append_lies _ (by rfl) _ _ _ (by rfl) (R+1) 5 i0 _ 1 1 Tryz.underlying88 hi hz0 hz1 hz2 rfl (by omega) ov out.length (u8s out) (by rfl) (HS2.o.own.drew) ⟨w.heap.size,n,none⟩ (64-n) (64-n) (u8s ((pad v width).map sgn)) (by rfl) (by rw[Qje,List.length_map];have:=HP2.o;have:=HM.o;omega) (fun j u hu=>HNEWS.o j u hu) (Qmy _) (by omega) (by unfold maxLen;omega) (by omega) (by have:=HS2.o.lt;simp;omega) wr.heap.size (by simp) ?_;intro gg cap w2 hown2 hgrow hat hlt2;have d4:w2.cell? ⟨R,4,none⟩=some ov:=(hgrow.cell_far ⟨R,4,none⟩ HLT.o HNE.o).trans c4;have d5:w2.frozen? ⟨R,4,none⟩=false:=(hgrow.frozen_far ⟨R,4,none⟩ HLT.o HNE.o).trans c5))
     all_goals
      obtain⟨g1,g2,g3⟩:=HS2.o.grow (l:=(pad v width).map sgn) hown2 (by rw[List.length_append,List.length_map];have:=HP2.o;have:=HM.o;omega) ⟨hgrow.os,hgrow.tape,hgrow.output,hgrow.size,hgrow.block⟩ hat;clear hown2 hgrow hat hlt2 d4 d5;go_end0;exact⟨_,rfl,g1,(Wr.of_below HBL.o).trans (Mv.refl _ _) g2,fun k hk=>(g3 k hk).imp id (fun h=>Nat.le_trans HBL.o.size h)⟩
  ·have hvp:0<v':=by omega
   obtain⟨m,rfl⟩:∃m,n=m+1:=⟨n-1,by omega⟩;obtain⟨d,hd⟩:=xq (v' % 10);obtain⟨q,hq⟩:=xq (v' / 10)
   have hd10:d<10:=by omega
   have F0:((m+1:Nat):Int)=(m:Int)+1:=by omega
   have F1:(v':Int) % 10=(d:Int):=by omega
   have F2:(v':Int) / 10=(q:Int):=by omega
   have hqv:q<v':=by omega
   have F3:IntKind.u64.wrap (q:Int)=(q:Int):=Va _ (by have:=HV.o;unfold BB at this;omega);have HN:=zq (HST.o.step HDB.o.2 hvp);rw[<-hd,<-hq]at HN;have HSG2:=HSG.o.below HBL.o hsz;have c1:=HSG2 d hd10;have HS2:=HS.o.below HBL.o;have c2:=HS2.cell.1;obtain⟨z,hz⟩:∃z,L[m]?=some z:=⟨_,List.getElem?_eq_getElem (by rw[HDB.o.2];have:=HST.o;obtain⟨r,_,h2,_⟩:=this;omega)⟩
   have hm64:m<64:=by have:=(List.getElem?_eq_some_iff.1 hz).1;rw[HDB.o.2]at this;exact this
   have c3:=HDB.o.cell hz;have c4:=HDB.o.frozen m;have HSET:=zq (HDB.o.set m (48+d));have HV2:=zq hvv;clear hd hq hz HSG2 HS2;rw[F0];go_wp2_with fail
   have hfin:WdA v w.heap.size w (.int .u64 (q:Nat)) (.int .i64 (m:Nat)) (wr.setCell ⟨w.heap.size,m,none⟩ (.int .u8 (48+(d:Int)))):=
    ⟨q,m,L.set m (48+d),rfl,rfl,by omega,HN.o,HSET.o.1,HBL.o.trans ((Below.refl _ _).setCell (by exact Nat.le_refl _) _)⟩
   exact⟨hfin,by simp[intOf]<;>omega⟩
def lenOf:Value->Nat
 | .slice _ n _=>n
 |_=>0
def PlA (N L:Nat)(w:World)(av pv:Value)(wr:World):Prop:=∃(k:Nat) (xs:List Nat),Rd wr av xs/\val xs=N / UU^k/\xs.length<=L/\wr.ownsRow w.heap.size 101 1 pv k (ws (prts N k))/\Below w.heap.size w wr/\(k=0\/0<N / UU^(k-1))
theorem Ny {w:World}{b:Nat}{e:TypeId}{s:Nat}{v:Value}{n:Nat}{xs:List Value}(h:w.ownsRow b e s v n xs):lenOf v=n:=by
 rcases h.2 with ⟨rfl,E⟩|⟨g,H,I,rfl,_⟩
 ·rw[E];rfl
 ·rfl
def PlO (R:Nat)(pv:Value)(og:Option Nat)(w5:World)(l:Qx)(wr:World):Prop:=∃ov:Value,WS wr R pv ov l/\Wr R og w5 wr/\Mv w5 og ov.ownBlock
theorem PlO.push {R:Nat}{pv ov ov3:Value}{og:Option Nat}{w5 wr wa wz:World}{l:Qx}(hw:Wr R og w5 wr)(hm:Mv w5 og ov.ownBlock)(ha:Below wr.heap.size wr wa)(g1:WS wz R pv ov3 l)(g2:Wr R ov.ownBlock wa wz)(g3:Mv wa ov.ownBlock ov3.ownBlock):
  PlO R pv og w5 l wz:=
 ⟨ov3,g1,hw.trans hm ((Wr.of_below ha).trans (Mv.refl _ _) g2),Mv.trans (R:=R) (w':=wr) hm hw.size fun k hk=>(g3 k hk).imp id (fun h=>Nat.le_trans ha.size h)⟩
def PlB (R:Nat)(pv:Value)(og:Option Nat)(out:Qx)(m width:Nat)(w5:World)(nv:Value)(wr:World):Prop:=∃n:Nat,nv=.int .i64 (n:Nat)/\n<=width/\min width m<=n/\PlO R pv og w5 (out++(List.replicate (width-n) 0).map sgn) wr
def PlC (R:Nat)(pv:Value)(og:Option Nat)(out:Qx)(N k width:Nat)(w5:World)(nv:Value)(wr:World):Prop:=∃j:Nat,nv=.int .i64 ((j:Int)-1)/\j<=k/\PlO R pv og w5 (out++(pad (N / UU^j) (width-19*j)).map sgn) wr
theorem Ew (R width:Nat)(v pv ov:Value)(xs:List Nat)(out:Qx)(w:World)(h:WS w R pv ov out)(hs:SG w)(hv:Rd w v xs)(hl:xs.length<=17179869184)(hw:width<=274877906944)(ho:out.length<=274877906944):
  Calls Tryz.prog 238 #[.pointer (some ⟨R,0,none⟩),v,.int .i64 (width:Nat)] w (Qqr w R pv ov out ((pad (val xs) width).map sgn)):=by
 have HS:=zq h;have HSG:=zq hs;have HV:=zq hv
 have hsz:4<w.heap.size:=by have:=h.big;have:=h.lt;omega
 have hRlt:=h.lt;obtain⟨N,hN⟩:=xq (val xs);rw[<-hN];obtain⟨L,hL⟩:=xq xs.length;rw[<-hL]at hl
 have hNL:N<BB^L:=by rw[hN,hL];exact Yk hv.ok
 have HNL:=zq hNL
 have HN0:Hid (val xs=N / UU^0):=by show _=_;rw[Nat.pow_zero,Nat.div_one,hN]
 have HLL:Hid (xs.length<=L):=by show _<=_;omega
 obtain⟨i0,hi,hz0,hz1,hz2⟩:=info_parts Tryz.infoW;clear h hs hv hN hL hNL;go_enter Tryz.func238,Tryz.ntmps238;go_wp2_with fail;go_loopw [1,6] (fun av p wr=>PlA N L w av p wr) (fun _ p _=>2*L+2-lenOf p)
 case atStart=>exact⟨0,xs,HV.o,HN0.o,HLL.o,World.ownsRow_nil _ _ _ _,Below.refl _ _,.inl rfl⟩
 clear HV HN0 HLL
 case round=>
  obtain⟨k,xs,hrd,hval,hxl,hown,hbl,hk⟩:=hrel;obtain⟨b,hb⟩:=xq (bitsN xs);have HRD:=zq hrd;have HVAL:=zq hval;have HOWN:=zq hown;have HBL:=zq hbl;have HK:=zq hk;have hb0:=Kf xs hrd.ok;rw[<-hb]at hb0;have HB:=zq hb;have HB0:=zq hb0;have hlenp:=Ny hown;have HLP:=zq hlenp;clear hrd hval hown hbl hk hb hb0 hlenp;by_cases hz:b=0
  ·have hbz:decide (0<b)=false:=by simp;omega
   have HZ:Hid (N / UU^k=0):=by show _=_;rw[<-HVAL.o];exact HB0.o.1 hz
   obtain⟨po,pcap,rfl,hpc,hpm,hpsh⟩:=Qm HOWN.o
   have hkL:k<=2*L+1:=by
    rcases HK.o with h|h
    ·omega
    ·have:=Nb HNL.o h
     omega
   have HPS:=zq hpsh;have HPM:=zq hpm;obtain⟨wh,hwh⟩:∃wh:Int,wh=((k:Int)-1)*19:=⟨_,rfl⟩;obtain⟨k19,hk19⟩:=xq (19*k);have E1:((k:Int)-1)*19=wh:=hwh.symm
   have E2:wh+19=(k19:Int):=by omega
   have E3:max (k19:Int) 0=(k19:Int):=by omega
   have hwhb:wh<=20890720927744/\ -19<=wh:=by omega
   obtain⟨hwhb1,hwhb2⟩:=hwhb;have HS2:=zq (HS.o.below HBL.o);have HSG2:=zq (HSG.o.below HBL.o hsz);have hR5:=HS2.o.lt;have c1:=HS2.o.cell.2.1;have HWH:=zq hwh;have HK19:=zq hk19
   have hpar:∀q,(Value.slice po k pcap).ownBlock=some q->q≠R/\ov.ownBlock≠some q:=fun q hq=>by
    have h1:=HOWN.o.lt q hq;refine⟨by omega,fun e=> ?_⟩;have:=HS.o.ne q e;omega
   have HPAR:=zq hpar;obtain⟨w5,hw5⟩:=xq wr
   have hkb:k19<=20890720927744:=by omega
   clear hz hpsh hpm hwh hk19 hpar;go_wp2_with fail;refine(Vk _ xs _ HRD.o (by omega)).mono ?_;rintro e w' ⟨rfl,rfl⟩;rw[<-HB.o];go_wp2_with fail;have HW5:=zq hw5;clear hw5 c1;go_loopw [11] (fun nv wr=>PlB R pv ov.ownBlock out k19 width w5 nv wr) (fun nv _=>(intOf nv).toNat)
   case atStart=>exact⟨width,rfl,Nat.le_refl _,Nat.min_le_left _ _,ov,by rw[Nat.sub_self];simpa using (HW5.o ▸ HS2.o),by rw[HW5.o];exact Wr.refl _ _ _,Mv.refl _ _⟩
   case round=>
    rename_i wr2 _;obtain⟨n,rfl,hnw,hmn,ov2,hws,hwr2,hmv⟩:=hrel;have HWS:=zq hws;have HWR:=zq hwr2;have HMV:=zq hmv;have c1:=hws.cell.2.1;have c4:=hws.cell.2.2.2.2.1;have c5:=hws.cell.2.2.2.2.2;clear hws hwr2 hmv;obtain⟨j0,hj0,hk0,hk1,hk2⟩:=info_parts Tryz.infoU8d;have HA:=zq (Qq wr (.cells #[.int .u8 48] 5));have HWA:=zq (HWS.o.below HA.o);have HLT:Hid (R<(wr.alloc (.cells #[.int .u8 48] 5)).heap.size):=HWA.o.lt
    have HNE:Hid (some R≠ov2.ownBlock):=fun e=>by have:=HWA.o.ne R e.symm;omega
    have ca4:=HWA.o.cell.2.2.2.2.1;have ca5:=HWA.o.cell.2.2.2.2.2;have CA4:=zq ca4;have CA5:=zq ca5
    have hll:(out++(List.replicate (width-n) 0).map sgn).length<=549755813888:=by rw[List.length_append,List.length_map,List.length_replicate];omega
    obtain⟨l0,hl0⟩:=xq (out++(List.replicate (width-n) 0).map sgn);rw[<-hl0]at hll HWS HWA;have HL0:=zq hl0;clear ca4 ca5 hl0;by_cases hgt:k19<n
    ·go_wp2_with (at_builtin;refine wpList_append_lies _ rfl _ _ 88 rfl (R+1) 5 j0 (.int .u8 0) 1 1 Tryz.underlying88 hj0 hk0 hk1 hk2 rfl (by omega) ov2 l0.length (u8s l0) rfl HWA.o.own ⟨wr.heap.size,0,none⟩ 1 1 [.int .u8 48] rfl rfl (LexP.Qc _ _ _ _ rfl) (by simp[Value.oneCell']) (by omega) (by unfold maxLen;omega) (by omega) (by have:=HLT.o;simp at this;simp;omega) (wr.heap.size+1) (by simp) ?_)
     intro gg cap w2 hown2 hgrow hat hlt2;have d4:w2.cell? ⟨R,4,none⟩=some ov2:=(hgrow.cell_far ⟨R,4,none⟩ HLT.o HNE.o).trans CA4.o;have d5:w2.frozen? ⟨R,4,none⟩=false:=(hgrow.frozen_far ⟨R,4,none⟩ HLT.o HNE.o).trans CA5.o;have HG:=zq (HWA.o.grow (l:=[48]) hown2 (by simp) hgrow (by simpa using hat));clear hown2 hgrow hat hlt2;go_wp2_with fail
     have hfin:PlB R pv ov.ownBlock out k19 width w5 (.int .i64 ((n:Int)-1)) (w2.setCell ⟨R,4,none⟩ (.slice (some ⟨gg,0,none⟩) (l0.length+1) cap)):=by
      refine⟨n-1,by congr 1;omega,by omega,by omega,?_⟩
      have e:out++(List.replicate (width-(n-1)) 0).map sgn=l0++[48]:=by
       rw[HL0.o,show width-(n-1)=width-n+1 from by omega,List.replicate_succ',List.map_append,<-List.append_assoc];rfl
      rw[e];exact PlO.push HWR.o HMV.o HA.o HG.o.1 HG.o.2.1 HG.o.2.2
     exact⟨hfin,by simp[intOf]<;>omega⟩
    ·have hn:width-n=width-19*k:=by have:=HK19.o;omega
     have HN19:=zq hn;clear hn;go_wp2_with fail;go_loopw [12] (fun nv wr=>PlC R pv ov.ownBlock out N k width w5 nv wr) (fun nv _=>(intOf nv+1).toNat)
     case atStart=>
      refine⟨k,rfl,Nat.le_refl _,ov2,?_,HWR.o,HMV.o⟩
      have e:out++(pad (N / UU^k) (width-19*k)).map sgn=l0:=by rw[HL0.o,HZ.o,Ac,HN19.o]
      rw[e];exact HWS.o
     clear HWR HMV HWS HWA HL0 HN19 HA HLT HNE CA4 CA5 c1 c4 c5 hll hgt hmn
     case round=>
      rename_i wr3 _;obtain⟨j,rfl,hjk,ov3,hws,hwr3,hmv⟩:=hrel;have HWS:=zq hws;have HWR:=zq hwr3;have HMV:=zq hmv;clear hws hwr3 hmv
      cases j with
      |zero=>
       have hge: ¬((0:Int)<=((0:Nat):Int)-1):=by omega
       go_wp2_with fail;go_end0;have hfull:=HWS.o;rw[Nat.pow_zero,Nat.div_one,Nat.mul_zero,Nat.sub_zero]at hfull;refine⟨ov3,rfl,hfull,?_,?_⟩
       ·rw[HW5.o]at HWR
        exact(Wr.of_below HBL.o).trans (Mv.refl _ _) HWR.o
       ·rw[HW5.o]at HMV
        exact fun q hq=>(HMV.o q hq).imp id (fun h=>Nat.le_trans HBL.o.size h)
      |succ i=>
       have hkk:(((i+1:Nat):Int)-1)=(i:Int):=by omega
       rw[hkk];clear hkk;have c1:=HWS.o.cell.2.1;obtain⟨g,hg,hgb,hgl,hgc⟩:=HPS.o (by omega);subst hg;obtain⟨hpR,hpo⟩:=HPAR.o g rfl;obtain⟨x,hx⟩:=xq (prt N i)
       have cp:wr.cell? ⟨g,i,none⟩=some (.int .u64 (x:Nat)):=by
        have e1:w5.cell? ⟨g,i,none⟩=some (.int .u64 (x:Nat)):=by
         rw[HW5.o,hgc i (by omega),hx];exact Qbx (Qge (by omega))
        rw[<-e1];exact World.cell?_of_block (HWR.o.block g (by rw[HW5.o];exact hgl) hpR (fun e=>hpo e.symm))
       have hxb:x<BB:=by rw[hx];exact Nat.lt_trans (Qx3 _ _) Qmd
       have HSG3:Hid (SG wr):=by
        have h5:SG w5:=by rw[HW5.o];exact HSG2.o
        have hbig:=HS.o.big;exact h5.wr HWR.o (by omega) (fun e=>by have:=HS.o.ne _ e;omega)
       have hi0':(0:Int)<=(i:Int):=Int.natCast_nonneg _
       have hi1:(i:Int)<(k:Int):=by omega
       obtain⟨l3,hl3⟩:=xq (out++(pad (N / UU^(i+1)) (width-19*(i+1))).map sgn);rw[<-hl3]at HWS
       have hl3b:l3.length<=1099511627776:=by
        have h1:N / UU^(i+1)<BB^L:=Nat.lt_of_le_of_lt (Nat.div_le_self _ _) HNL.o;have h2:=Wp h1;rw[hl3,List.length_append,List.length_map,D7];omega
       have HL3:=zq hl3;have HX:=zq hx;have HXB:=zq hxb;by_cases htop:i+1=k
       ·have htb:((i:Int)==(k:Int)-1)=true:=by simp;omega
        obtain⟨wd,hwd⟩:∃wd:Int,wd=(width:Int)-wh:=⟨_,rfl⟩;have E4:(width:Int)-wh=wd:=hwd.symm;obtain⟨m1,hm1⟩:=xq (width-19*i);obtain⟨m2,hm2⟩:=xq (min m1 19);have hwh:=HWH.o
        have E5:max wd 0=(m1:Int):=by omega
        have E6:min (m1:Int) 19=(m2:Int):=by omega
        have hm19:m2<=19:=by omega
        have hx0:0<x:=by
         rcases HK.o with h|h
         ·omega
         ·rw[show k-1=i from by omega]at h
          have e:=Nf N i;have hzz:=HZ.o;rw[<-htop]at hzz;rw[hzz,Nat.zero_mul,Nat.zero_add]at e;rw[hx,<-e];exact h
        have HNEW:Hid (l3++(pad x m2).map sgn=out++(pad (N / UU^i) (width-19*i)).map sgn):=by
         show _=_;have hzz:=HZ.o;rw[<-htop]at hzz;rw[hl3,hx,hm2,hm1,Qgl hzz,List.map_append,List.append_assoc]
        clear hx hxb hl3 htop hwd hm1 hm2 hgc hpo hpR hwh;go_wp2_with fail;refine(Ed R x m2 pv ov3 l3 _ HWS.o HSG3.o HXB.o hm19 (.inl hx0) hl3b).mono ?_;rintro e w8 ⟨ov4,rfl,r1,r2,r3⟩;rw[HNEW.o]at r1;have hfin:PlC R pv ov.ownBlock out N k width w5 (.int .i64 ((i:Int)-1)) w8:=⟨i,rfl,by omega,ov4,r1,HWR.o.trans HMV.o r2,Mv.trans (R:=R) (w':=wr) HMV.o HWR.o.size r3⟩;have HFIN:=zq hfin;clear r1 r2 r3 hfin;go_wp2_with fail
        exact⟨HFIN.o,by simp[intOf]<;>omega⟩
       ·have htb:((i:Int)==(k:Int)-1)=false:=by simp;omega
        have HNEW:Hid (l3++(pad x 19).map sgn=out++(pad (N / UU^i) (width-19*i)).map sgn):=by
         show _=_
         have hpos:0<N / UU^(i+1):=by
          rcases HK.o with h|h
          ·omega
          ·refine Nat.lt_of_lt_of_le h (Nat.div_le_div_left (Nat.pow_le_pow_right P4 (by omega)) (Nat.pow_pos P4))
         rw[hl3,hx,Qgu hpos,List.map_append,List.append_assoc]
        clear hx hxb hl3 htop hgc hpo hpR;go_wp2_with fail;refine(Ed R x 19 pv ov3 l3 _ HWS.o HSG3.o HXB.o (Nat.le_refl _) (.inr (by omega)) hl3b).mono ?_;rintro e w8 ⟨ov4,rfl,r1,r2,r3⟩;rw[HNEW.o]at r1;have hfin:PlC R pv ov.ownBlock out N k width w5 (.int .i64 ((i:Int)-1)) w8:=⟨i,rfl,by omega,ov4,r1,HWR.o.trans HMV.o r2,Mv.trans (R:=R) (w':=wr) HMV.o HWR.o.size r3⟩;have HFIN:=zq hfin;clear r1 r2 r3 hfin;go_wp2_with fail
        exact⟨HFIN.o,by simp[intOf]<;>omega⟩
  ·have hbz:(0:Int)<(b:Int):=by omega
   have HZ:Hid (0<N / UU^k):=by show _<_;rw[<-HVAL.o];exact Nat.pos_of_ne_zero fun h=>hz (HB0.o.2 h)
   have HKL:=zq (Nb HNL.o HZ.o);obtain⟨U,hU⟩:=xq UU;have HS2:=HS.o.below HBL.o
   have c2:wr.cell? ⟨R,2,none⟩=some (.int .u64 (U:Nat)):=by rw[hU];exact HS2.cell.2.2.1
   have HU:=zq hU;clear hz hU HS2;go_wp2_with fail;refine(Vk _ xs _ HRD.o (by omega)).mono ?_;rintro e w' ⟨rfl,rfl⟩;rw[<-HB.o];go_wp2_with fail;refine(Ni _ xs U _ HRD.o (by omega) (by rw[HU.o];exact P4) (by rw[HU.o];exact Qmd)).mono ?_;rintro e w3 ⟨qv,qs,rfl,q1,q2,q3,q4,q5⟩;obtain⟨r,hr⟩:=xq (val xs % U);rw[<-hr]
   have HR:Hid (r=prt N k):=by show _=_;rw[hr,HVAL.o,HU.o];rfl
   have HQ:Hid (val qs=N / UU^(k+1)):=by show _=_;rw[q2,HVAL.o,HU.o,An]
   have Q1:=zq q1
   have HQL:Hid (qs.length<=L):=by show _<=_;omega
   have HBL3:Hid (Below w.heap.size w w3):=HBL.o.trans (q5.mono HBL.o.size);have HOWN3:=zq (Ql HOWN.o q5 (Nat.le_refl _));have hz3:=HBL3.o.size;have hzw:=q5.size
   have hkb:k<=549755813888:=by have:=HKL.o;omega
   clear q1 q2 q3 q4 q5 hr c2;go_wp2_with (at_builtin;refine wpList_append_own_at _ rfl _ _ 59 rfl w.heap.size 101 i0 (.int .u64 0) 1 8 Tryz.underlying59 hi hz0 hz1 hz2 rfl (by decide) _ _ _ rfl (World.ownsRow.alloc HOWN3.o _) ⟨w3.heap.size,0,none⟩ 1 1 [.int .u64 (r:Nat)] rfl rfl (LexP.Qc _ _ _ _ rfl) (by simp[Value.oneCell']) (by unfold maxLen;omega) (by omega) (by simp;omega) ?_);intro v4 w4 hown4 hgrow4 _ hbk4
   have HO4:Hid (w4.ownsRow w.heap.size 101 1 v4 (k+1) (ws (prts N (k+1)))):=by
    have e:ws (prts N (k+1))=ws (prts N k)++[.int .u64 (r:Nat)]:=by rw[Qv8,HR.o];simp[ws]
    show World.ownsRow _ _ _ _ _ _ _;rw[e];exact hown4
   have HB4:Hid (Below w.heap.size w w4):=Below.grown (HBL3.o.alloc hz3 _) hgrow4 (by simp;omega) (fun q hq=>(World.ownsRow.lt HOWN3.o q hq).1)
   have HR4:Hid (Rd w4 qv qs):=Rd.kept (Q1.o.1.alloc _) hgrow4 (fun q hq e=>by
    have h1:=(Q1.o.2 q e).1;have h2:=(HOWN.o.lt q hq).2
    omega)
   clear hown4 hgrow4 hbk4;go_wp2_with fail;have hfin:PlA N L w qv v4 w4:=⟨k+1,qs,HR4.o,HQ.o,HQL.o,HO4.o,HB4.o,.inr (by rw[Nat.add_sub_cancel];exact HZ.o)⟩;have hl4:=Ny HO4.o;have hlp:=HLP.o;have hkl:=HKL.o;exact⟨hfin,by omega⟩
def PW (w:World)(R:Nat)(og:Option Nat)(pv:Value)(np:Nat):Prop:=∃gp cap,(0<np->pv=.slice (some ⟨gp,0,none⟩) np cap/\np<=cap/\cap<=maxLen/\gp<w.heap.size/\gp≠R/\og≠some gp)/\
 ∀i,i<np-> ∃v bs,w.cell? ⟨gp,i,none⟩=some v/\Rd w v bs/\val bs=UU^2^i/\bs.length<=274877906944/\2^i<=34359738368/\ ∀q,v.ownBlock=some q->q≠R/\og≠some q
theorem PW.wr {w w':World}{R:Nat}{og og':Option Nat}{pv:Value}{np:Nat}(h:PW w R og pv np)(hw:Wr R og w w')(hm:Mv w og og'):PW w' R og' pv np:=by
 obtain⟨gp,E,H,I⟩:=h;refine⟨gp,E,fun h0=> ?_,fun i hi=> ?_⟩
 ·obtain⟨a1,a2,a3,a4,a5,a6⟩:=H h0
  refine⟨a1,a2,a3,Nat.lt_of_lt_of_le a4 hw.size,a5,fun e=> ?_⟩;rcases hm gp e with h|h
  ·exact a6 h
  ·omega
 ·obtain⟨a1,a2,a3,a4,a5,a6⟩:=H (by omega)
  obtain⟨v,bs,b1,b2,b3,b4,b5,b6⟩:=I i hi;refine⟨v,bs,(World.cell?_of_block (hw.block gp a4 a5 (fun e=>a6 e.symm))).trans b1,b2.wr hw (fun k hk=>b6 k hk),b3,b4,b5,fun q hq=>⟨(b6 q hq).1,fun e=> ?_⟩⟩;rcases hm q e with h|h
  ·exact(b6 q hq).2 h
  ·have:=b2.1 q hq;omega
theorem PW.below {w w':World}{R:Nat}{og:Option Nat}{pv:Value}{np:Nat}(h:PW w R og pv np)(hb:Below w.heap.size w w'):PW w' R og pv np:=h.wr (Wr.of_below hb) (Mv.refl _ _)
def Rt (k np:Nat):Prop:=∀(R width:Nat) (v pv ov:Value) (xs:List Nat) (out:Qx) (w:World),WS w R pv ov out->SG w->PW w R ov.ownBlock pv np->Rd w v xs->(∀q,v.ownBlock=some q->q≠R/\ov.ownBlock≠some q)->xs.length<=17179869184->out.length+(pad (val xs) width).length<=274877906944->
 Calls Tryz.prog 216 #[.pointer (some ⟨R,0,none⟩),v,.int .i64 ((k:Int)-1),.int .i64 (width:Nat)] w (Qqr w R pv ov out ((pad (val xs) width).map sgn))
theorem Bb (np:Nat):Rt 0 np:=by
 intro R width v pv ov xs out w h hs hp hv hne hl hb;have HS:=zq h;have HSG:=zq hs;have HV:=zq hv
 have hw:width<=274877906944:=by rw[D7]at hb;omega
 have ho:out.length<=274877906944:=by omega
 have HW:=zq hw;have HO:=zq ho
 have hi1:decide (((0:Nat):Int)-1<0)=true:=by decide
 clear h hs hp hv hne hb hw ho;go_enter Tryz.func216,Tryz.ntmps216;go_wp2_with fail;refine(Ew R width _ pv ov xs out _ HS.o HSG.o HV.o hl HW.o HO.o).mono ?_;rintro e w1 ⟨ov1,rfl,r1,r2,r3⟩;have HR:=zq (And.intro r1 (And.intro r2 r3));clear r1 r2 r3;go_wp2_with fail;go_end0;exact⟨ov1,rfl,HR.o.1,HR.o.2.1,HR.o.2.2⟩
theorem Bh (k np:Nat)(hk:k<np)(IH:Rt k np):Rt (k+1) np:=by
 intro R width v pv ov xs out w h hs hp hv hne hl hb;have HS:=zq h;have HSG:=zq hs;have HP:=zq hp;have HV:=zq hv;have HNE:=zq hne;have HBD:=zq hb;have HI:=zq IH
 have hw:width<=274877906944:=by rw[D7]at hb;omega
 have ho:out.length<=274877906944:=by omega
 obtain⟨ao,cap,rfl,hnc,hcm,hok,-⟩:=hv.2
 have hkk:(((k+1:Nat):Int)-1)=(k:Int):=by omega
 rw[hkk]
 have hi1:decide ((k:Int)<0)=false:=by simp
 have hRlt:=h.lt;clear h hs hp hv hne hb hok hcm hkk IH;by_cases h12:xs.length<=12
 ·have hi2:decide ((xs.length:Int)<=12)=true:=by simp;omega
  clear h12;go_enter Tryz.func216,Tryz.ntmps216;go_wp2_with fail;refine(Ew R width _ pv ov xs out _ HS.o HSG.o HV.o hl hw ho).mono ?_;rintro e w1 ⟨ov1,rfl,r1,r2,r3⟩;have HR:=zq (And.intro r1 (And.intro r2 r3));clear r1 r2 r3;go_wp2_with fail;go_end0;exact⟨ov1,rfl,HR.o.1,HR.o.2.1,HR.o.2.2⟩
 ·have hi2:decide ((xs.length:Int)<=12)=false:=by simp;omega
  obtain⟨gp,pcap,hp1,hp2⟩:=HP.o;obtain⟨rfl,hpc,hpm,hgl,hgR,hgo⟩:=hp1 (by omega);obtain⟨bv,bs,cb,hbr,hbval,hbl,hb2,hbn⟩:=hp2 k hk
  have hk64:k<64:=by
   have h1:2^k<2^36:=Nat.lt_of_le_of_lt hb2 (by decide);have:=(Nat.pow_lt_pow_iff_right (a:=2) (by omega)).1 h1;omega
  have HBR:=zq hbr;have HBV:=zq hbval;have c3:=HS.o.cell.2.2.2.1;have c1:=HS.o.cell.2.1;have hj0:(0:Int)<=(k:Int):=Int.natCast_nonneg _
  have hj1:(k:Int)<(np:Int):=by omega
  obtain⟨P,hP⟩:=xq (UU^2^k);rw[<-hP]at hbval
  have hP0:0<P:=by rw[hP];exact Nat.pow_pos P4
  have HP0:=zq hP0;have HPE:=zq hP;have HBN:=zq hbn;clear hp1 hp2 hbr hgl hgR hgo h12 hP0 hP hbn;by_cases hlt:val xs<val bs
  ·have HC:=zq (Ma hlt)
   clear hlt hbval;go_enter Tryz.func216,Tryz.ntmps216;go_wp2_with fail;refine(V9 _ _ xs bs _ HV.o HBR.o).mono ?_;rintro e w1 ⟨rfl,hb1⟩;rw[HC.o];have HB1:=zq hb1;clear hb1 c3 c1 cb;go_wp2_with fail;refine(HI.o R width _ _ ov xs out _ (HS.o.below HB1.o) (HSG.o.below HB1.o (by have:=HS.o.big;omega)) (HP.o.below HB1.o) (HV.o.below HB1.o) HNE.o hl HBD.o).mono ?_;rintro e w2 ⟨ov1,rfl,r1,r2,r3⟩;have HR:=zq (And.intro r1 (And.intro r2 r3));clear r1 r2 r3;go_wp2_with fail;go_end0;exact⟨ov1,rfl,HR.o.1,(Wr.of_below HB1.o).trans (Mv.refl _ _) HR.o.2.1,fun q hq=>(HR.o.2.2 q hq).imp id (fun h=>Nat.le_trans HB1.o.size h)⟩
  ·obtain⟨c,hc⟩:=xq (cmpI (val xs) (val bs))
   have hcb:decide (c<0)=false:=by
    rw[hc];unfold cmpI;rw[if_neg hlt]
    split<;>decide
   have HC:=zq hc;obtain⟨lw,hlw⟩:=xq (19*2^k);have S1:IntKind.u64.wrap (k:Int)=(k:Int):=Va _ (by omega)
   have S2:min k 64=k:=by omega
   have S3:IntKind.i64.wrap (19*2^k)=(lw:Int):=by
    have e:(19*2^k:Int)=((19*2^k:Nat):Int):=by rw[Int.natCast_mul,Int.natCast_pow];rfl
    rw[e,<-hlw];exact IntWalk.i64_in _ (by omega)
   obtain⟨w1',hw1'⟩:=xq (width-lw)
   have S4:max ((width:Int)-(lw:Int)) 0=(w1':Int):=by omega
   have hlwb:lw<=652835028992:=by omega
   have hPl:P=10^lw:=by rw[HPE.o,hlw,Qk0,<-Nat.pow_mul]
   have hpq:∀q r,q=val xs / val bs->r=val xs % val bs->pad (val xs) width=pad q w1'++pad r lw/\r<10^lw:=by
    intro q r hq hr
    have hbv:val bs=10^lw:=by rw[hbval,hPl]
    have hb0:0<val bs:=by rw[hbval];exact HP0.o
    have hr2:r<10^lw:=by rw[hr,<-hbv];exact Nat.mod_lt _ hb0
    have hq0:0<q:=by rw[hq];exact Nat.div_pos (Nat.le_of_not_lt hlt) hb0
    have e:val xs=q*10^lw+r:=by rw[hq,hr,<-hbv,Nat.mul_comm];exact(Nat.div_add_mod _ _).symm
    refine⟨?_,hr2⟩;rw[e,Ez hq0 hr2,Qyh hr2,hw1']
   have HPQ:=zq hpq
   have hb0:0<val bs:=by rw[hbval];exact HP0.o
   have HB0:=zq hb0;clear hlt hbval hc hlw hb2 hw1' hPl hpq hb0;go_enter Tryz.func216,Tryz.ntmps216;go_wp2_with fail;refine(V9 _ _ xs bs _ HV.o HBR.o).mono ?_;rintro e w1 ⟨rfl,hb1⟩;rw[<-HC.o];have HB1:=zq hb1;have hz1:=hb1.size;have HS1:=zq (HS.o.below hb1);have c3':=HS1.o.cell.2.2.2.1;have c1':=HS1.o.cell.2.1
   have cb':w1.cell? ⟨gp,k,none⟩=some bv:=by rw[hb1.cell (p:=⟨gp,k,none⟩) (World.block_lt_of_cell? w _ cb)];exact cb
   clear hb1 c3 c1 cb;go_wp2_with fail;refine(Qxq _ _ xs bs _ (HV.o.below HB1.o) (HBR.o.below HB1.o) (by omega) hbl HB0.o).mono ?_;rintro e w2 ⟨qv,rv,qs,rs,rfl,q1,q2,q3,q4,r1,r2,r3,r4,hb2⟩;obtain⟨p1,p2⟩:=HPQ.o _ _ q2 r2;have HB2:Hid (Below w.heap.size w w2):=HB1.o.trans (hb2.mono hz1);have HS2:=zq (HS1.o.below hb2);have c1:=HS2.o.cell.2.1;have Q1:=zq q1;have R1:=zq r1
   have hql:qs.length<=17179869184:=by omega
   have hrl:rs.length<=17179869184:=by
    have h1:val rs<BB^xs.length:=by
     refine Nat.lt_of_le_of_lt ?_ (Yk HV.o.ok);rw[r2];exact Nat.mod_le _ _
    have h2:=Yc rs xs.length h1;rw[r4]at h2;omega
   have HPA:=zq p1;have hbd:=HBD.o;rw[p1,List.length_append]at hbd;have HBD2:=zq hbd;have hov:∀q,ov.ownBlock=some q->q<w.heap.size:=fun q hq=>(HS.o.ne q hq).2;have HOV:=zq hov;clear q1 q2 q3 q4 r1 r2 r3 r4 hb2 c3' c1' cb' p1 p2 hbd hov;go_wp2_with fail
   refine(HI.o R w1' _ _ ov qs out _ HS2.o (HSG.o.below HB2.o (by have:=HS.o.big;omega)) (HP.o.below HB2.o) Q1.o.1 (fun q hq=>by
    have h1:=(Q1.o.2 q hq).1;refine⟨by omega,fun e=> ?_⟩;have:=HOV.o q e
    omega) hql (by have:=HBD2.o;omega)).mono ?_
   rintro e w3 ⟨ov1,rfl,a1,a2,a3⟩;have A1:=zq a1;have A2:=zq a2;have A3:=zq a3;have HSG3:Hid (SG w3):=(HSG.o.below HB2.o (by have:=HS.o.big;omega)).wr a2 (by have:=HS.o.big;omega) (fun e=>by have:=HOV.o _ e;have:=HS.o.ne _ e;have:=HS.o.big;omega);have HP3:=zq ((HP.o.below HB2.o).wr a2 a3)
   have HR3:Hid (Rd w3 rv rs):=R1.o.1.wr a2 (fun q hq=>by
    have h1:=(R1.o.2 q hq).1;refine⟨by omega,fun e=> ?_⟩;have:=HOV.o q e
    omega)
   have hrne:∀q,rv.ownBlock=some q->q≠R/\ov1.ownBlock≠some q:=fun q hq=>by
    have h1:=R1.o.2 q hq;refine⟨by omega,fun e=> ?_⟩;rcases a3 q e with h|h
    ·have:=HOV.o q h;omega
    ·omega
   have HRN:=zq hrne;clear a1 a2 a3 c1 hrne;go_wp2_with fail;refine(HI.o R lw _ _ ov1 rs _ _ A1.o HSG3.o HP3.o HR3.o HRN.o hrl (by rw[List.length_append,List.length_map];have:=HBD2.o;omega)).mono ?_;rintro e w4 ⟨ov2,rfl,b1,b2,b3⟩;have HFIN:=zq (And.intro b1 (And.intro b2 b3));clear b1 b2 b3;go_wp2_with fail;go_end0;obtain⟨b1,b2,b3⟩:=HFIN.o;rw[List.append_assoc,<-List.map_append,<-HPA.o]at b1;refine⟨ov2,rfl,b1,(Wr.of_below HB2.o).trans (Mv.refl _ _) (A2.o.trans A3.o b2),?_⟩;have m1:Mv w ov.ownBlock ov1.ownBlock:=fun q hq=>(A3.o q hq).imp id (fun h=>Nat.le_trans HB2.o.size h);exact Mv.trans (R:=R) (w':=w3) m1 (Nat.le_trans HB2.o.size A2.o.size) b3
theorem Ss (np:Nat):∀k,k<=np->Rt k np:=by
 intro k
 induction k with
 |zero=>intro _;exact Bb np
 |succ k ih=>intro h;exact Bh k np h (ih (by omega))
def Z8 (n:Nat):Qx:=if n=0 then [48] else (dg n).map sgn
def Kp (n:Nat)(w:World)(e:Ending)(w':World):Prop:=e=.returned (.tuple #[.string ⟨(Z8 n).toArray⟩,.int .i64 0])/\Below w.heap.size w w'
theorem Tryz.infoWs:(Tryz.prog.info? 59).map (fun i=>(i.zero,i.size,i.bytes))=some (some (.slice none 0 0),1,24):=by kernel_rfl
theorem WS.made (w:World)(h:4<w.heap.size):WS (w.alloc (.cells #[.int .i64 10,.int .i64 19,.int .u64 10000000000000000000,.slice none 0 0,.slice none 0 0] 216)) w.heap.size (.slice none 0 0) (.slice none 0 0) []:=
 ⟨heap_alloc_new w _,World.ownsRow_nil _ _ _ _,h⟩
theorem Kx (n:Nat):pad n 0=dg n:=by unfold pad;simp
theorem Qzv (v:Value)(xs:List Nat)(w:World)(hs:SG w)(hv:Rd w v xs)(hl:(Qy xs).length<=12)(hl2:xs.length<=17179869184):
  Calls Tryz.prog 169 #[v,.int .i64 10] w (Kp (val xs) w):=by
 have HV:=zq hv;have HSG:=zq hs;obtain⟨X,hX⟩:=xq (Qy xs)
 have hXv:val X=val xs:=by rw[hX,Qu]
 have hsz:4<w.heap.size:=World.block_lt_of_cell? w _ (hs 0 (by omega));rw[<-hX]at hl;obtain⟨n,hn⟩:=xq X.length;rw[<-hn]at hl;have HX:=zq hX;have HXV:=zq hXv;have HN:=zq hn;clear hv hs hX hXv hn;by_cases h0:n=0
 ·have hb:((n:Int)==0)=true:=by simp[h0]
  have HZ:Hid (Z8 (val xs)=[48]):=by
   have hX0:X=[]:=List.eq_nil_of_length_eq_zero (by rw[<-HN.o];exact h0);show _=_;rw[<-HXV.o,hX0];rfl
  clear h0;go_enter Tryz.func169,Tryz.ntmps169;go_wp2_with fail;refine(Ju _ xs _ HV.o (by omega)).mono ?_;rintro e w1 ⟨rfl,hB,hb1⟩;rw[<-HX.o,<-HN.o];have HB1:=zq hb1;clear hB hb1;go_wp2_with fail;go_ret2;exact⟨by rw[HZ.o];rfl,HB1.o⟩
 ·have hb:((n:Int)==0)=false:=by simp[h0]
  have hb12:decide (12<n)=false:=by simp;omega
  have hpos:val xs≠0:=fun e=>by
   have h1:(Qy xs).length=0:=by
    have:=Yc xs 0 (by rw[e];simp);omega
   rw[<-HX.o,<-HN.o]at h1;exact h0 h1
  have HD:Hid (Z8 (val xs)=(pad (val X) 0).map sgn):=by
   show _=_;unfold Z8;rw[if_neg hpos,Kx,HXV.o]
  clear h0 hpos;go_enter Tryz.func169,Tryz.ntmps169;go_wp2_with fail;refine(Ju _ xs _ HV.o (by omega)).mono ?_;rintro e w1 ⟨rfl,hB,hb1⟩;rw[<-HX.o]at hB ⊢;have HB:=zq hB;have HB1:=zq hb1;rw[<-HN.o];clear hB hb1;go_wp2_with fail;refine(Nh _).mono ?_;rintro e w2 ⟨rfl,rfl⟩;go_wp2_with fail;have hsg1:=HSG.o.below HB1.o hsz;have hb2:=Qq w1 (.cells #[.int .i64 10,.int .i64 19,.int .u64 10000000000000000000,.slice none 0 0,.slice none 0 0] 216);have hsz1:4<w1.heap.size:=Nat.lt_of_lt_of_le hsz HB1.o.size;have HW:=zq (WS.made w1 hsz1);have HSG2:=zq (hsg1.below hb2 hsz1);have HR:=zq ((HB.o.whole (by rw[<-HN.o];omega)).below hb2);rw[<-HN.o]at HR;have HB2:Hid (Below w.heap.size w (w1.alloc (.cells #[.int .i64 10,.int .i64 19,.int .u64 10000000000000000000,.slice none 0 0,.slice none 0 0] 216))):=HB1.o.trans (hb2.mono HB1.o.size)
  have hlen:([]:Qx).length+(pad (NatP.val X) 0).length<=274877906944:=by
   have h1:NatP.val X<BB^n:=by rw[HN.o];exact Yk HB.o.2
   have:=Wp h1;rw[Kx];simp only[List.length_nil];omega
  have HLEN:=zq hlen;have hz1:=HB1.o.size;clear hsg1 hb2 hlen;refine(Ss 0 0 (Nat.le_refl _) w1.heap.size 0 _ (.slice none 0 0) (.slice none 0 0) X [] _ HW.o HSG2.o ⟨0,0,fun h=>by omega,fun i h=>by omega⟩ HR.o (fun q hq=>by cases hq;have:=HB.o.lt;exact⟨by show w.heap.size≠w1.heap.size;omega,by simp[Value.ownBlock]⟩) (by rw[<-HN.o];omega) HLEN.o).mono ?_;rintro e w3 ⟨ov,rfl,r1,r2,r3⟩;rw[List.nil_append,<-HD.o]at r1;have c4:=r1.cell.2.2.2.2.1;have htx:=Pu (B:=w1.heap.size+1) (w:=w3) (v:=ov) (l:=Z8 (NatP.val xs)) r1.own;have HB3:Hid (Below w.heap.size w w3):=r2.to_below HB2.o HB2.o.size (by omega) (fun k hk=>by cases hk);clear r1 r2 r3;go_wp2_with fail;go_ret2;exact⟨rfl,HB3.o⟩
def Qzd (w:World)(R:Nat)(pb:Option Nat)(vs:List Value):Prop:=∀j v,vs[j]?=some v-> ∃bs,Rd w v bs/\val bs=UU^2^j/\bs.length<=274877906944/\2^j<=34359738368/\ ∀q,v.ownBlock=some q->R<q/\pb≠some q
structure PgMid (R:Nat) (w1:World) (wr:World) (i:Nat) (pv:Value) (vs:List Value):Prop where
 st:WS wr R pv (.slice none 0 0) []
 own:wr.ownsRow (R+1) 59 1 pv i vs
 all:Qzd wr R pv.ownBlock vs
 below:Below R w1 wr
structure PgSt (L R:Nat) (w1:World) (p:Value) (wr:World) (i:Nat) (pv:Value) (xs:List Nat) (vs:List Value):Prop extends PgMid R w1 wr i pv vs where
 rd:Fr (R+1) wr p xs
 ne:∀q,p.ownBlock=some q->pv.ownBlock≠some q
 vl:val xs=UU^2^i
 st2:Qy xs=xs
 len:xs.length<=2*L
theorem Qzd.wr {w w':World}{R:Nat}{pb pb':Option Nat}{vs:List Value}(h:Qzd w R pb vs)(hw:Wr R pb w w')(hm:Mv w pb pb'):Qzd w' R pb' vs:=fun j v hj=>by
 obtain⟨bs,H,I,J,K,E⟩:=h j v hj;refine⟨bs,H.wr hw (fun q hq=>⟨by have:=E q hq;omega,(E q hq).2⟩),I,J,K,fun q hq=>⟨(E q hq).1,fun e=> ?_⟩⟩;rcases hm q e with h|h
 ·exact(E q hq).2 h
 ·have:=H.lt hq;omega
theorem PgMid.below' {R:Nat}{w1 wr w2:World}{i:Nat}{pv:Value}{vs:List Value}(h:PgMid R w1 wr i pv vs)(hb:Below wr.heap.size wr w2):PgMid R w1 w2 i pv vs:=
 ⟨h.st.below hb,h.own.kept (row:=none) ⟨hb.os,hb.tape,hb.output,hb.size,fun k hk _=>hb.block k hk⟩ (by cases pv.ownBlock<;>simp),h.all.wr (Wr.of_below hb) (Mv.refl _ _),h.below.trans (hb.mono (Nat.le_of_lt h.st.lt))⟩
theorem PgSt.below' {L R:Nat}{w1 wr w2:World}{p:Value}{i:Nat}{pv:Value}{xs:List Nat}{vs:List Value}(h:PgSt L R w1 p wr i pv xs vs)(hb:Below wr.heap.size wr w2):PgSt L R w1 p w2 i pv xs vs:=
 ⟨h.toPgMid.below' hb,h.rd.below hb,h.ne,h.vl,h.st2,h.len⟩
theorem PgSt.push {L R:Nat}{w1 wr w2:World}{p:Value}{i gg cap:Nat}{pv:Value}{xs:List Nat}{vs:List Value}(h:PgSt L R w1 p wr i pv xs vs)(h1:xs.length<=274877906944)(h2:2^i<=34359738368)
  (hown:w2.ownsRow (R+1) 59 1 (.slice (some ⟨gg,0,none⟩) (i+1) cap) (i+1) (vs++[p])) (hg:wr.grownBy w2 pv.ownBlock) (hat:pv.ownBlock=some gg\/gg=wr.heap.size):
  PgMid R w1 (w2.setCell ⟨R,3,none⟩ (.slice (some ⟨gg,0,none⟩) (i+1) cap)) (i+1) (.slice (some ⟨gg,0,none⟩) (i+1) cap) (vs++[p]):=by
 have U:some R≠pv.ownBlock:=fun e=>by have:=h.own.lt R e.symm;omega
 have hb:=(hg.block R h.st.lt U).trans h.st.blk;have K:=heap_setCell_same w2 R 3 #[.int .i64 10,.int .i64 19,.int .u64 10000000000000000000,pv,.slice none 0 0] 216 (.slice (some ⟨gg,0,none⟩) (i+1) cap) hb;have H:Wr R pv.ownBlock wr (w2.setCell ⟨R,3,none⟩ (.slice (some ⟨gg,0,none⟩) (i+1) cap)):=(Wr.of_grown hg).trans (Mv.refl _ _) (Wr.of_set w2 3 _)
 have I:Mv wr pv.ownBlock (Value.ownBlock (.slice (some ⟨gg,0,none⟩) (i+1) cap)):=by
  intro k J
  cases J
  rcases hat with h|h
  ·exact .inl h
  ·exact .inr (Nat.le_of_eq h.symm)
 refine⟨⟨K.trans (by simp),World.ownsRow_nil _ _ _ _,h.st.big⟩,ownsRow_setCell_below hown (by simp) _,?_,H.to_below h.below (Nat.le_of_lt h.st.lt) (Nat.le_refl _) (fun k J=>by have:=h.own.lt k J;omega)⟩;intro j v E
 have Z:vs.length=i:=by have:=h.own.1;omega
 by_cases hji:j<vs.length
 ·rw[List.getElem?_append_left hji]at E
  exact h.all.wr H I j v E
 ·have T:j=i:=by
   have:=(List.getElem?_eq_some_iff.1 E).1;rw[List.length_append]at this;simp at this;omega
  subst T;rw[List.getElem?_append_right (by omega),Z]at E;simp at E;subst E;refine⟨xs,h.rd.1.wr H (fun q hq=>⟨by have:=h.rd.2 q hq;omega,h.ne q hq⟩),h.vl,h1,h2,fun q hq=>⟨by have:=h.rd.2 q hq;omega,fun e=> ?_⟩⟩;rcases I q e with O|O
  ·exact h.ne q hq O
  ·have:=h.rd.2 q hq;omega
theorem PgMid.pw {R:Nat}{w1 wr:World}{i:Nat}{pv:Value}{vs:List Value}(h:PgMid R w1 wr i pv vs):PW wr R (Value.ownBlock (.slice none 0 0)) pv i:=by
 have T:vs.length=i:=by have:=h.own.1;omega
 obtain⟨ao,H,e,I,J,K⟩:=Qm h.own;by_cases h0:0<i
 ·obtain⟨g,rfl,a1,a2,a3⟩:=K h0
  refine⟨g,H,fun _=>⟨e,I,J,a2,by omega,by simp[Value.ownBlock]⟩,fun j hj=> ?_⟩;have O:=a3 j (by omega)
  have E:j<vs.length:=by omega
  obtain⟨bs,b1,b2,b3,b4,b5⟩:=h.all j vs[j] (List.getElem?_eq_getElem E);refine⟨vs[j],bs,by rw[O,List.getElem?_eq_getElem E],b1,b2,b3,b4,fun q hq=>⟨by have:=b5 q hq;omega,by simp[Value.ownBlock]⟩⟩
 ·exact⟨0,0,fun h=>absurd h h0,fun j hj=>by omega⟩
def npow (R:Nat)(w:World):Nat:=lenOf ((w.cell? ⟨R,3,none⟩).getD (.bool false))
theorem PgMid.npow {R:Nat}{w1 wr:World}{i:Nat}{pv:Value}{vs:List Value}(h:PgMid R w1 wr i pv vs):npow R wr=i:=by
 unfold Go.Proofs.YtgfmiladfeoldaaGreatDoor.npow;rw[h.st.cell.2.2.2.1];exact Ny h.own
theorem PgSt.npow {L R:Nat}{w1 p:_}{wr:World}{i:Nat}{pv:Value}{xs:List Nat}{vs:List Value}(h:PgSt L R w1 p wr i pv xs vs):npow R wr=i:=h.toPgMid.npow
theorem Ga {N L i:Nat}(hN:N<BB^L)(h:UU^2^i<=N):2^i<2*L:=Nb (k:=2^i) hN (Nat.div_pos h (Nat.pow_pos P4))
theorem Qkp (v:Value)(xs:List Nat)(w:World)(hs:SG w)(hv:Rd w v xs)(hl:12<(Qy xs).length)(hl2:xs.length<=8589934592):
  Calls Tryz.prog 169 #[v,.int .i64 10] w (Kp (val xs) w):=by
 have HV:=zq hv;have HSG:=zq hs;obtain⟨X,hX⟩:=xq (Qy xs)
 have hXv:val X=val xs:=by rw[hX,Qu]
 have hXs:Qy X=X:=by rw[hX,Yt]
 have hsz:4<w.heap.size:=World.block_lt_of_cell? w _ (hs 0 (by omega))
 have hXl:X.length<=8589934592:=by rw[hX];exact Nat.le_trans (Qr xs) hl2
 rw[<-hX]at hl;obtain⟨n,hn⟩:=xq X.length;rw[<-hn]at hl hXl;have HX:=zq hX;have HXV:=zq hXv;have HN:=zq hn
 have hb:((n:Int)==0)=false:=by simp;omega
 have hb12:(12:Int)<(n:Int):=by omega
 have hpos:val xs≠0:=fun e=>by
  have:=Yc xs 0 (by rw[e];simp);rw[<-hX]at this;omega
 have HD:Hid (Z8 (val xs)=(pad (val X) 0).map sgn):=by
  show _=_;unfold Z8;rw[if_neg hpos,Kx,hXv]
 clear hv hs hX hXv hn hpos hXs;go_enter Tryz.func169,Tryz.ntmps169;go_wp2_with fail;refine(Ju _ xs _ HV.o (by omega)).mono ?_;rintro e w1 ⟨rfl,hB,hb1⟩;rw[<-HX.o]at hB ⊢;have HB:=zq hB;have HB1:=zq hb1;rw[<-HN.o];clear hB hb1;go_wp2_with fail;refine(Nh _).mono ?_;rintro e w2 ⟨rfl,rfl⟩;go_wp2_with fail;have hsg1:=HSG.o.below HB1.o hsz;have hb2:=Qq w1 (.cells #[.int .i64 10,.int .i64 19,.int .u64 10000000000000000000,.slice none 0 0,.slice none 0 0] 216);have hsz1:4<w1.heap.size:=Nat.lt_of_lt_of_le hsz HB1.o.size;have HW:=WS.made w1 hsz1;have HSG2:=zq (hsg1);have HR:=zq (HB.o.whole (by rw[<-HN.o];omega));rw[<-HN.o]at HR;have hz1:=HB1.o.size;have hwl:w.heap.size<w1.heap.size:=HB.o.lt
 have HS0:Hid (PgSt n w1.heap.size w1 (.slice (some ⟨w1.heap.size+1,0,none⟩) 1 1) ((w1.alloc (.cells #[.int .i64 10,.int .i64 19,.int .u64 10000000000000000000,.slice none 0 0,.slice none 0 0] 216)).alloc (.cells #[.int .u64 10000000000000000000] 101)) 0 (.slice none 0 0) [10000000000000000000] []):=by
  have hb3:=Qq (w1.alloc (.cells #[.int .i64 10,.int .i64 19,.int .u64 10000000000000000000,.slice none 0 0,.slice none 0 0] 216)) (.cells #[.int .u64 10000000000000000000] 101)
  have hblk:Blk ((w1.alloc (.cells #[.int .i64 10,.int .i64 19,.int .u64 10000000000000000000,.slice none 0 0,.slice none 0 0] 216)).alloc (.cells #[.int .u64 10000000000000000000] 101)) (w1.heap.size+1) [10000000000000000000]:=by
   refine⟨?_,?_⟩
   ·have:=heap_alloc_new (w1.alloc (.cells #[.int .i64 10,.int .i64 19,.int .u64 10000000000000000000,.slice none 0 0,.slice none 0 0] 216)) (.cells #[.int .u64 10000000000000000000] 101)
    simp only[World.size_alloc]at this;exact this
   ·intro x hx;simp at hx;subst hx;unfold BB;omega
  refine⟨⟨HW.below hb3,World.ownsRow_nil _ _ _ _,fun j v h=>by simp at h,hb2.trans (hb3.mono (by simp))⟩,⟨hblk.whole (by simp),fun q hq=> ?_⟩,fun q _=>by simp[Value.ownBlock],by rw[Nat.pow_zero,Nat.pow_one];rfl,by rfl,by simp;omega⟩
  cases hq
  exact⟨Nat.le_refl _,by simp⟩
 have HNL:Hid (val xs<BB^n):=by
  show _<_;rw[<-HXV.o,HN.o];exact Yk HB.o.2
 have hlen:([]:Qx).length+(pad (NatP.val X) 0).length<=274877906944:=by
  have h1:NatP.val X<BB^n:=by rw[HXV.o];exact HNL.o
  have:=Wp h1;rw[Kx];simp only[List.length_nil];omega
 have HLEN:=zq hlen;obtain⟨R,hR⟩:=xq w1.heap.size;have HRE:=zq hR;clear hsg1 hb2 HW hlen hR;go_loopw [9] (fun p wr=> ∃i pv zs vs,PgSt n w1.heap.size w1 p wr i pv zs vs/\i<=64) (fun _ wr=>64-npow w1.heap.size wr)
 case atStart=>exact⟨0,_,_,_,HS0.o,by omega⟩
 clear HS0
 case round=>
  obtain⟨i,pv,zs,vs,hst,hi65⟩:=hrel;have HST:=zq hst;have hnp:=hst.npow;have HNP:=zq hnp;have HNL2:=HNL;obtain⟨zo,zcap,rfl,hzc1,hzc2,-⟩:=hst.rd.1.2;clear hst hnp hzc1 hzc2;by_cases hle:NatP.val zs<=NatP.val xs
  ·have hp2:2^i<2*n:=Ga HNL.o (by rw[<-HST.o.vl];exact hle)
   have hi64:i<64:=by
    have h1:2^i<2^36:=Nat.lt_of_lt_of_le hp2 (by omega);have:=(Nat.pow_lt_pow_iff_right (a:=2) (by omega)).1 h1;omega
   have hzl:zs.length<=n:=by
    have:=Yc zs n (Nat.lt_of_le_of_lt hle HNL.o);rw[HST.o.st2]at this;exact this
   have hcb:decide (cmpI (NatP.val zs) (NatP.val X)<=0)=true:=by
    rw[HXV.o];unfold cmpI;by_cases h1:NatP.val zs<NatP.val xs
    ·rw[if_pos h1];rfl
    ·rw[if_neg h1,if_neg (by omega)];rfl
   obtain⟨ci,hci⟩:=xq (cmpI (NatP.val zs) (NatP.val X));rw[<-hci]at hcb;have HCI:=zq hci
   have hcl:2^i<=34359738368:=by omega
   clear hle hp2 hci;go_wp2_with fail;refine(V9 _ _ zs X _ HST.o.rd.1 (HR.o.below (HST.o.below.mono (by omega)))).mono ?_;rintro e w4 ⟨rfl,hb4⟩;rw[<-HCI.o];have HST4:=zq (HST.o.below' hb4);clear hb4;obtain⟨i0,hi,hk0,hk1,hk2⟩:=info_parts Tryz.infoWs;have HST5:=zq (HST4.o.below' (Qq w4 (.cells #[.slice zo zs.length zcap] 59)));have HLT:Hid (w1.heap.size<(w4.alloc (.cells #[.slice zo zs.length zcap] 59)).heap.size):=HST5.o.st.lt
   have HNE:Hid (some w1.heap.size≠pv.ownBlock):=fun e=>by have:=HST5.o.own.lt w1.heap.size e.symm;omega
   have c3:=HST4.o.st.cell.2.2.2.1;have ca3:=HST5.o.st.cell.2.2.2.1;have ca4:=frozen_of_row _ w1.heap.size 3 _ _ HST5.o.st.blk;have CA3:=zq ca3;have CA4:=zq ca4;clear ca3 ca4
   have hzl2:zs.length<=8589934592:=by omega
   have HZL:=zq hzl;go_wp2_with (at_builtin;refine wpList_append_lies _ rfl _ _ 36 rfl (w1.heap.size+1) 59 i0 (.slice none 0 0) 1 24 Tryz.underlying36 hi hk0 hk1 hk2 rfl (by omega) pv i vs rfl HST5.o.own ⟨w4.heap.size,0,none⟩ 1 1 [.slice zo zs.length zcap] rfl rfl (LexP.Qc _ _ _ _ rfl) (by simp[Value.oneCell']) (by omega) (by unfold maxLen;omega) (by omega) (by have:=HLT.o;simp at this;simp;omega) (w4.heap.size+1) (by simp) ?_);intro gg cap w5 hown5 hgrow hat hlt5;have d4:w5.cell? ⟨w1.heap.size,3,none⟩=some pv:=(hgrow.cell_far ⟨w1.heap.size,3,none⟩ HLT.o HNE.o).trans CA3.o;have d5:w5.frozen? ⟨w1.heap.size,3,none⟩=false:=(hgrow.frozen_far ⟨w1.heap.size,3,none⟩ HLT.o HNE.o).trans CA4.o;have HG:=zq (HST5.o.push (by omega) hcl hown5 hgrow (by simpa using hat));have HZR:=zq HST5.o;have HWRR:=zq ((Wr.of_grown (R:=w1.heap.size) hgrow).trans (Mv.refl _ _) (Wr.of_set w5 3 (.slice (some ⟨gg,0,none⟩) (i+1) cap)));clear hown5 hgrow hat hlt5;by_cases hbig:n+2<2*zs.length
   ·have hbb:decide ((n:Int)+2<2*(zs.length:Int))=true:=by simp;omega
    clear hbig;go_wp2_with fail;have HBE:=zq (HG.o.below);have hcall:=Ss (i+1) (i+1) (Nat.le_refl _) w1.heap.size 0 _ _ (.slice none 0 0) X [] _ HG.o.st (HSG2.o.below HBE.o hsz1) HG.o.pw (HR.o.below HBE.o) (fun q hq=>by cases hq;exact⟨by show w.heap.size≠w1.heap.size;omega,by simp[Value.ownBlock]⟩) (by rw[<-HN.o];omega) HLEN.o;rw[show (((i+1:Nat):Int)-1)=(i:Int) from by omega]at hcall;have HCALL:=zq hcall;have HB2:Hid (Below w.heap.size w (w5.setCell ⟨w1.heap.size,3,none⟩ (.slice (some ⟨gg,0,none⟩) (i+1) cap))):=HB1.o.trans (HBE.o.mono hz1);have HSZ:=zq (Nat.le_of_lt HG.o.st.lt);clear hcall;refine HCALL.o.mono ?_;rintro e w6 ⟨ov,rfl,r1,r2,r3⟩;rw[List.nil_append,<-HD.o]at r1;have c4:=r1.cell.2.2.2.2.1;have htx:=Pu (B:=w1.heap.size+1) (w:=w6) (v:=ov) (l:=Z8 (NatP.val xs)) r1.own;have HB3:Hid (Below w.heap.size w w6):=r2.to_below HB2.o (Nat.le_trans hz1 HSZ.o) (by omega) (fun k hk=>by cases hk);clear r1 r2 r3;go_wp2_with fail;go_ret2;exact⟨rfl,HB3.o⟩
   ·have hbb:decide ((n:Int)+2<2*(zs.length:Int))=false:=by simp;omega
    clear hbig;go_wp2_with fail;have HRD:=zq (HZR.o.rd.1.wr (R:=w1.heap.size) (og:=pv.ownBlock) HWRR.o (fun q hq=>⟨by have:=HZR.o.rd.2 q hq;omega,HZR.o.ne q hq⟩));refine(Rs zs _ _ (by omega) HRD.o).mono ?_;rintro e w6 ⟨v6,ys,rfl,f1,f2,f3,f4,f5⟩;have hfin:PgSt n w1.heap.size w1 v6 w6 (i+1) _ ys _:=⟨HG.o.below' f5,f1.mono HG.o.st.lt,fun q hq e=>by have:=f1.2 q hq;have:=HG.o.own.lt q e;omega,by rw[f2,HZR.o.vl,<-Nat.pow_add,<-Nat.two_mul,Nat.mul_comm,Nat.pow_succ],f4,by have:=HZL.o;omega⟩;have hnp6:=hfin.npow;have HFIN:=zq hfin;have HNP6:=zq hnp6;clear f1 f2 f3 f4 f5 hfin hnp6;go_wp2_with fail;exact⟨⟨_,_,_,_,HFIN.o,by omega⟩,by rw[HNP6.o,HNP.o];omega⟩
  ·have hcb:decide (cmpI (NatP.val zs) (NatP.val X)<=0)=false:=by
    rw[HXV.o];unfold cmpI;rw[if_neg (by omega),if_pos (by omega)];rfl
   obtain⟨ci,hci⟩:=xq (cmpI (NatP.val zs) (NatP.val X));rw[<-hci]at hcb;have HCI:=zq hci;clear hle hci;go_wp2_with fail;refine(V9 _ _ zs X _ HST.o.rd.1 (HR.o.below (HST.o.below.mono (by omega)))).mono ?_;rintro e w4 ⟨rfl,hb4⟩;rw[<-HCI.o];have HM:=zq (HST.o.below' hb4).toPgMid;clear hb4;have c3:=HM.o.st.cell.2.2.2.1;obtain⟨po,pcap,rfl,hpc,hpm,hpsh⟩:=Qm HM.o.own;have HPS:=zq hpsh;clear hpc hpm hpsh;go_wp2_with fail;have HBE:=zq (HM.o.below);have hcall:=Ss i i (Nat.le_refl _) w1.heap.size 0 _ _ (.slice none 0 0) X [] _ HM.o.st (HSG2.o.below HBE.o hsz1) HM.o.pw (HR.o.below HBE.o) (fun q hq=>by cases hq;exact⟨by show w.heap.size≠w1.heap.size;omega,by simp[Value.ownBlock]⟩) (by rw[<-HN.o];omega) HLEN.o;have HCALL:=zq hcall;have HB2:Hid (Below w.heap.size w w4):=HB1.o.trans (HBE.o.mono hz1);have HSZ:=zq (Nat.le_of_lt HM.o.st.lt);clear hcall;refine HCALL.o.mono ?_;rintro e w6 ⟨ov,rfl,r1,r2,r3⟩;rw[List.nil_append,<-HD.o]at r1;have c4:=r1.cell.2.2.2.2.1;have htx:=Pu (B:=w1.heap.size+1) (w:=w6) (v:=ov) (l:=Z8 (NatP.val xs)) r1.own;have HB3:Hid (Below w.heap.size w w6):=r2.to_below HB2.o (Nat.le_trans hz1 HSZ.o) (by omega) (fun k hk=>by cases hk);clear r1 r2 r3;go_wp2_with fail;go_ret2;exact⟨rfl,HB3.o⟩
theorem Ge (v:Value)(xs:List Nat)(w:World)(hs:SG w)(hv:Rd w v xs)(hl:xs.length<=8589934592):
  Calls Tryz.prog 169 #[v,.int .i64 10] w (Kp (val xs) w):=by
 by_cases h:(Qy xs).length<=12
 ·exact Qzv v xs w hs hv h (by omega)
 ·exact Qkp v xs w hs hv (by omega) hl
def Qpy (n:Nat)(w:World)(e:Ending)(w':World):Prop:=e=.returned (.string ⟨(Z8 n).toArray⟩)/\Below w.heap.size w w'
theorem U9 (v:Value)(xs:List Nat)(w:World)(hs:SG w)(hv:Rd w v xs)(hl:xs.length<=8589934592):
  Calls Tryz.prog 120 #[v] w (Qpy (val xs) w):=by
 have HV:=zq hv;have HSG:=zq hs;clear hv hs;go_enter Tryz.func120,Tryz.ntmps120;go_wp2_with fail;refine(Ge _ xs _ HSG.o HV.o hl).mono ?_;rintro e w1 ⟨rfl,hb1⟩;have HB1:=zq hb1;clear hb1;go_wp2_with fail;go_ret;exact⟨rfl,HB1.o⟩
def Rb (neg:Bool)(n:Nat):Int:=if n=0 then 0 else if neg then -1 else 1
theorem Eg (neg:Bool)(v:Value)(xs:List Nat)(w:World)(hv:Rd w v xs)(hl:xs.length<=1099511627776):
  Calls Tryz.prog 121 #[.agg #[.bool neg,v]] w fun e w'=>e=.returned (.int .i64 (Rb neg (val xs)))/\Below w.heap.size w w':=by
 have HV:=zq hv;obtain⟨ao,cap,rfl,-,-,hok,-⟩:=hv.2;have HA:=zq (Qq w (.cells #[.bool neg,.slice ao xs.length cap] 62));have HVA:=zq (HV.o.below HA.o);have hb0:=Kf xs hok;obtain⟨b,hb⟩:=xq (bitsN xs);rw[<-hb]at hb0;have HB:=zq hb;clear hv hok hb;by_cases h0:b=0
 ·have hz:((b:Int)==0)=true:=by simp[h0]
  have HR:Hid (Rb neg (val xs)=0):=by
   show _=_;unfold Rb;rw[if_pos (hb0.1 h0)]
  clear hb0 h0;go_enter Tryz.func121,Tryz.ntmps121;go_wp2_with fail;refine(Vk _ xs _ HVA.o hl).mono ?_;rintro e w1 ⟨rfl,rfl⟩;rw[<-HB.o];go_wp2_with fail;go_ret;exact⟨by rw[HR.o];rfl,HA.o⟩
 ·have hz:((b:Int)==0)=false:=by simp[h0]
  have hne: ¬val xs=0:=fun e=>h0 (hb0.2 e)
  have HR:Hid (Rb neg (val xs)=if neg then -1 else 1):=by
   show _=_;unfold Rb;rw[if_neg hne]
  clear hb0 h0 hne
  cases neg with
  |true=>
   go_enter Tryz.func121,Tryz.ntmps121;go_wp2_with fail;refine(Vk _ xs _ HVA.o hl).mono ?_;rintro e w1 ⟨rfl,rfl⟩;rw[<-HB.o];go_wp2_with fail;go_ret
   exact⟨by rw[HR.o];rfl,HA.o⟩
  |false=>
   go_enter Tryz.func121,Tryz.ntmps121;go_wp2_with fail;refine(Vk _ xs _ HVA.o hl).mono ?_;rintro e w1 ⟨rfl,rfl⟩;rw[<-HB.o];go_wp2_with fail;go_ret;exact⟨by rw[HR.o];rfl,HA.o⟩
theorem R6:Z8=SynP.decT:=rfl
theorem U4 (a b:Array UInt8):(⟨a⟩:ByteArray)++⟨b⟩=⟨a++b⟩:=by
 apply ByteArray.ext;simp
theorem Qvw {xs:List Nat}(hl:xs.length<=8589934592)(hok:ok xs):(Z8 (val xs)).length<=274877906944:=by
 unfold Z8;split
 ·simp
 ·have:=Wp (Yk hok)
  rw[List.length_map];omega
def Ve (neg:Bool)(n:Nat):Qx:=if neg=true/\n≠0 then 45::Z8 n else Z8 n
def Qj3 (neg:Bool)(n:Nat)(w:World)(e:Ending)(w':World):Prop:=e=.returned (.string ⟨(Ve neg n).toArray⟩)/\Below w.heap.size w w'
theorem Nu (neg:Bool)(v:Value)(xs:List Nat)(w:World)(hs:SG w)(hv:Rd w v xs)(hl:xs.length<=8589934592):
  Calls Tryz.prog 65 #[.agg #[.bool neg,v]] w (Qj3 neg (val xs) w):=by
 have HV:=zq hv;have HSG:=zq hs;have hsz:4<w.heap.size:=World.block_lt_of_cell? w _ (hs 0 (by omega));obtain⟨ao,cap,rfl,-,-,hok,-⟩:=hv.2;have HA:=zq (Qq w (.cells #[.bool neg,.slice ao xs.length cap] 62));have HVA:=zq (HV.o.below HA.o);have HSA:=zq (HSG.o.below HA.o hsz)
 have hc0:(w.alloc (.cells #[.bool neg,.slice ao xs.length cap] 62)).cell? ⟨w.heap.size,0,none⟩=some (.bool neg):=by rw[World.cell?_alloc_at _ _ _ _ rfl];rfl
 have hc1:(w.alloc (.cells #[.bool neg,.slice ao xs.length cap] 62)).cell? ⟨w.heap.size,1,none⟩=some (.slice ao xs.length cap):=by rw[World.cell?_alloc_at _ _ _ _ rfl];rfl
 have HC0:=zq hc0;have HC1:=zq hc1;have hok2:=hok;clear hv hok hs hc0 hc1;by_cases h0:neg=true/\val xs≠0
 ·have hn:Rb neg (val xs)= -1:=by unfold Rb;rw[if_neg h0.2,if_pos h0.1]
  have HR:Hid (Ve neg (val xs)=45::Z8 (val xs)):=by show _=_;unfold Ve;rw[if_pos h0]
  have HN:=zq hn
  have hcat: ¬9223372036854775807<1+(Z8 (val xs)).length:=by
   have:=Qvw hl hok2;omega
  clear h0 hn hok2;go_enter Tryz.func65,Tryz.ntmps65;go_wp2_with fail;refine(U9 _ xs _ HSA.o HVA.o hl).mono ?_;rintro e w1 ⟨rfl,hb1⟩;have HB1:=zq hb1;have d0:=(hb1.cell (p:=⟨w.heap.size,0,none⟩) (by simp)).trans HC0.o;have d1:=(hb1.cell (p:=⟨w.heap.size,1,none⟩) (by simp)).trans HC1.o;clear hb1;go_wp2_with fail;refine(Eg neg _ xs _ (HVA.o.below HB1.o) (by omega)).mono ?_;rintro e w2 ⟨rfl,hb2⟩;rw[HN.o];have HB2:=zq hb2;clear hb2;go_wp2_with fail;go_ret;refine⟨?_,(HA.o.trans (HB1.o.mono (by simp))).trans (HB2.o.mono ((HA.o.trans (HB1.o.mono (by simp))).size))⟩;rw[HR.o];show Ending.returned (.string ((⟨#[45]⟩:ByteArray)++⟨(Z8 (val xs)).toArray⟩))=_;rw[U4];simp
 ·have hn:0<=Rb neg (val xs):=by
   unfold Rb;split
   ·omega
   ·split
    ·rename_i h1 h2;exact absurd ⟨h2,h1⟩ h0
    ·omega
  have HR:Hid (Ve neg (val xs)=Z8 (val xs)):=by show _=_;unfold Ve;rw[if_neg h0]
  obtain⟨k,hk⟩:=xq (Rb neg (val xs));rw[<-hk]at hn;have HK:=zq hk
  have hkb:decide (k<0)=false:=by simp;omega
  clear h0 hn hk;go_enter Tryz.func65,Tryz.ntmps65;go_wp2_with fail;refine(U9 _ xs _ HSA.o HVA.o hl).mono ?_;rintro e w1 ⟨rfl,hb1⟩;have HB1:=zq hb1;have d0:=(hb1.cell (p:=⟨w.heap.size,0,none⟩) (by simp)).trans HC0.o;have d1:=(hb1.cell (p:=⟨w.heap.size,1,none⟩) (by simp)).trans HC1.o;clear hb1;go_wp2_with fail;refine(Eg neg _ xs _ (HVA.o.below HB1.o) (by omega)).mono ?_;rintro e w2 ⟨rfl,hb2⟩;rw[<-HK.o];have HB2:=zq hb2;clear hb2;go_wp2_with fail;go_ret;refine⟨?_,(HA.o.trans (HB1.o.mono (by simp))).trans (HB2.o.mono ((HA.o.trans (HB1.o.mono (by simp))).size))⟩;rw[HR.o];rfl
theorem Qgb (v:Value)(xs:List Nat)(w:World)(hv:Rd w v xs):
  Calls Tryz.prog 170 #[.bool false,v] w fun e w'=>e=.returned (.agg #[.bool false,v])/\Below w.heap.size w w':=by
 have HV:=zq hv;obtain⟨ao,cap,rfl,-,-,hok,-⟩:=hv.2;clear hv hok;go_enter Tryz.func170,Tryz.ntmps170;go_wp2_with fail;refine bodyPost_ret (results_cell_row rfl _ _ w.heap.size 62 _ _ _ rfl (heap_alloc_new w _) Tryz.underlying62 rfl (by kernel_rfl)) rfl ?_;exact⟨rfl,Qq _ _⟩
theorem Qzf (n:Nat)(w:World)(hn:n<=64):
  Calls Tryz.prog 122 #[.int .i64 (n:Nat)] w fun e w'=> ∃v xs,e=.returned (.agg #[.bool false,v])/\Rd w' v xs/\val xs=n/\xs.length<=1/\Below w.heap.size w w':=by
 go_enter Tryz.func122,Tryz.ntmps122
 have h1: ¬((n:Int)<0):=by omega
 go_wp2_with fail
 have hblk:Blk ((w.alloc (.cells #[.bool false,.slice none 0 0] 62)).alloc (.cells #[.int .u64 (n:Nat)] 101)) (w.heap.size+1) [n]:=by
  refine⟨?_,?_⟩
  ·have:=heap_alloc_new (w.alloc (.cells #[.bool false,.slice none 0 0] 62)) (.cells #[.int .u64 (n:Nat)] 101)
   simp only[World.size_alloc]at this;exact this
  ·intro x hx;simp at hx;subst hx;unfold BB;omega
 have HA:=zq (Qq w (.cells #[.bool false,.slice none 0 0] 62));have HA2:=zq (Qq (w.alloc (.cells #[.bool false,.slice none 0 0] 62)) (.cells #[.int .u64 (n:Nat)] 101));refine(Ju _ [n] _ (hblk.whole (by simp)) (by simp)).mono ?_;rintro e w1 ⟨rfl,hB,hb1⟩;obtain⟨g,hg⟩:∃g,g=((w.alloc (.cells #[.bool false,.slice none 0 0] 62)).alloc (.cells #[.int .u64 (n:Nat)] 101)).heap.size:=⟨_,rfl⟩;rw[<-hg]at hB ⊢
 have hgs:g=w.heap.size+2:=by rw[hg];simp
 have HGS:=zq hgs;have HB:=zq hB;have HB1:=zq hb1;clear hB hb1 hblk hg hgs;obtain⟨ys,hys⟩:=xq (Qy [n])
 have hyl:ys.length<=1:=by rw[hys];exact Qr [n]
 rw[<-hys]at HB ⊢
 have hyv:val ys=n:=by rw[hys,Qu];simp[NatP.val]
 have HYV:=zq hyv;clear hys hyv;go_wp2_with fail;refine(Qgb _ ys _ (HB.o.whole (by omega))).mono ?_;rintro e w2 ⟨rfl,hb2⟩;have HB2:=zq hb2;clear hb2
 have d0:w2.heap[w.heap.size]?=some (.cells #[.bool false,.slice none 0 0] 62 (0,0)):=by
  have q1:=HA2.o.block w.heap.size (by simp);have q2:=HB1.o.block w.heap.size (by simp;omega);have q3:=HB2.o.block w.heap.size (by have:=HB.o.lt;have:=HGS.o;omega);rw[q3,q2,q1];exact heap_alloc_new w _
 have e0:w2.cell? ⟨w.heap.size,0,none⟩=some (.bool false):=(cell_of_row w2 _ _ _ _ _ d0).trans rfl;have e1:w2.cell? ⟨w.heap.size,1,none⟩=some (.slice none 0 0):=(cell_of_row w2 _ _ _ _ _ d0).trans rfl;have f0:w2.frozen? ⟨w.heap.size,0,none⟩=false:=frozen_of_row w2 _ 0 _ _ d0;have f1:w2.frozen? ⟨w.heap.size,1,none⟩=false:=frozen_of_row w2 _ 1 _ _ d0;have D0:=zq d0;clear d0;go_wp2_with fail;have s1:=heap_setCell_same w2 w.heap.size 0 #[.bool false,.slice none 0 0] 62 (.bool false) D0.o;have s2:=heap_setCell_same (w2.setCell ⟨w.heap.size,0,none⟩ (.bool false)) w.heap.size 1 _ 62 (.slice (some ⟨g,0,none⟩) ys.length ys.length) s1;refine bodyPost_ret (results_cell_row rfl _ _ w.heap.size 62 _ _ _ rfl s2 Tryz.underlying62 rfl (by kernel_rfl)) rfl ?_;have hw:Below w.heap.size w w2:=(HA.o.trans (HA2.o.mono (by simp))).trans ((HB1.o.mono (by simp;omega)).trans (HB2.o.mono (by have:=HB.o.lt;have:=HGS.o;omega)));have hr:Wr w.heap.size none w2 ((w2.setCell ⟨w.heap.size,0,none⟩ (.bool false)).setCell ⟨w.heap.size,1,none⟩ (.slice (some ⟨g,0,none⟩) ys.length ys.length)):=(Wr.of_set w2 0 _).trans (Mv.refl _ _) (Wr.of_set _ 1 _);refine⟨_,ys,rfl,((HB.o.whole (by omega)).below HB2.o).wr hr (fun k hk=>by cases hk;have:=HGS.o;exact⟨by show g≠w.heap.size;omega,by simp⟩),HYV.o,hyl,hr.to_below hw hw.size (Nat.le_refl _) (fun k hk=>by cases hk)⟩
def sts (l:List Qx):List Value:=l.map fun b=> .string ⟨b.toArray⟩
theorem Qmv (l:List Qx):(sts l).length=l.length:=by simp[sts]
theorem Qmj (a b:List Qx):sts (a++b)=sts a++sts b:=by simp[sts]
theorem Tryz.infoSt:(Tryz.prog.info? 9).map (fun i=>(i.zero,i.size,i.bytes))=some (some (.string ⟨#[]⟩),1,16):=by kernel_rfl
theorem Dm (sep:Qx):∀l:List Qx,Lib.join l sep=SynP.Xn sep l
 | []=>rfl
 | [a]=>by rw[Lib.join_one];rfl
 |a::b::l=>by
  have h:=Dm sep (b::l);rw[Lib.join_cons]at h ⊢;show a++Lib.joinTail sep (b::l)=a++sep++SynP.Xn sep (b::l);rw[<-h];simp[Lib.joinTail]
def Ro (l:Qx)(w:World)(e:Ending)(w':World):Prop:=e=.returned (.string ⟨l.toArray⟩)/\Below w.heap.size w w'
def SS (w:World)(v:Value)(l:List Qx):Prop:=∃ao cap,v=.slice ao l.length cap/\l.length<=cap/\cap<=maxLen/\(0<l.length-> ∃g o,ao=some ⟨g,o,none⟩/\g<w.heap.size/\ ∀j b,l[j]?=some b->w.cell? ⟨g,o+j,none⟩=some (.string ⟨b.toArray⟩))
theorem SS.of_row {w:World}{B n:Nat}{v:Value}{l:List Qx}(h:w.ownsRow B 9 1 v n (sts l)):SS w v l:=by
 have J:l.length=n:=by have:=h.1;rw[Qmv]at this;omega
 obtain⟨ao,E,e,O,H,I⟩:=Qm h;refine⟨ao,E,by rw[J];exact e,by omega,H,fun h0=> ?_⟩;obtain⟨g,rfl,a1,a2,a3⟩:=I (by omega);refine⟨g,0,rfl,a2,fun j b hj=> ?_⟩;have K:=(List.getElem?_eq_some_iff.1 hj).1;rw[Nat.zero_add,a3 j (by omega)];simp[sts,hj]
theorem M3 (v:Value)(l:List Qx)(sep:ByteArray)(w:World)(h:SS w v l)(hN:l.length<=140737488355328)(hl:(SynP.Xn sep.data.toList l).length<=140737488355328):
  Calls Tryz.prog 123 #[v,.string sep] w (Ro (SynP.Xn sep.data.toList l) w):=by
 obtain⟨ao,E,rfl,I,O,J⟩:=h;by_cases h0:0<l.length
 ·obtain⟨g,o,rfl,a2,a3⟩:=J h0
  have H:(l.map fun b=>(⟨b.toArray⟩:ByteArray)).map (·.data.toList)=l:=by
   rw[List.map_map]
   conv=>rhs;rw[<-List.map_id l]
   exact List.map_congr_left fun b _=>rfl
  have:=Tryz.strings_Join g o E (l.map fun b=>⟨b.toArray⟩) sep w (fun j x hj=>by
   rw[List.getElem?_map,Option.map_eq_some_iff]at hj;obtain⟨b,K,rfl⟩:=hj
   exact a3 j b K) a2 (by rw[List.length_map];exact hN) (by rw[List.length_map];exact I) (by rw[H,Dm];exact hl)
  rw[List.length_map,H,Dm]at this;exact this.mono fun e w' h=>h
 ·have e:l=[]:=List.eq_nil_of_length_eq_zero (by omega)
  subst e;exact(Tryz.strings_Join_none ao E sep w).mono fun e w' ⟨a,b⟩=>⟨a,by rw[b];exact Below.refl _ _⟩
theorem Qmi (n:Nat)(w:World)(hn:n<=4611686018427387904):
  Calls Tryz.prog 119 #[.int .i64 (n:Nat)] w fun e w'=>e=.returned (.bool (decide (n<=64)))/\w=w':=by
 have h1:decide (0<=(n:Int))=true:=by simp
 have h2:decide ((n:Int)<=64)=decide (n<=64):=by simp;omega
 go_enter Tryz.func119,Tryz.ntmps119;go_wp2_with fail;go_ret;exact⟨rfl,rfl⟩
def matV (r c:Nat)(at_:Value):Value:=.agg #[.int .i64 (r:Nat),.int .i64 (c:Nat),at_]
theorem Qhw (r c n cap:Nat)(ao:Option Addr)(w:World)(hr:r<=64)(hc:c<=64)(hn:n=r*c):
  Calls Tryz.prog 64 #[.agg #[.int .i64 (r:Nat),.int .i64 (c:Nat),.slice ao n cap]] w fun e w'=>e=.returned (.int .i64 0)/\Below w.heap.size w w':=by
 have HA:=zq (Qq w (.cells #[.int .i64 (r:Nat),.int .i64 (c:Nat),.slice ao n cap] 47))
 have hd1:decide (r<=64)=true:=by simp;exact hr
 have hd2:decide (c<=64)=true:=by simp;exact hc
 have hrc:(r:Int)*(c:Int)=(n:Int):=by rw[hn];exact(Int.natCast_mul r c).symm
 have hnn:n<=4096:=by rw[hn];exact Nat.mul_le_mul hr hc
 have H1:=zq hd1;have H2:=zq hd2;clear hn;go_enter Tryz.func64,Tryz.ntmps64;go_wp2_with fail;refine(Qmi r _ (by omega)).mono ?_;rintro e w1 ⟨rfl,rfl⟩;rw[H1.o];go_wp2_with fail;refine(Qmi c _ (by omega)).mono ?_;rintro e w1 ⟨rfl,rfl⟩;rw[H2.o];go_wp2_with fail;go_ret;exact⟨rfl,HA.o⟩
theorem Mm {α:Type}(c:Nat):∀(i:Nat) (l:List α),SynP.Xb c (i+1) l=SynP.Xb c i l++[(l.drop (i*c)).take c]
 |0,l=>by simp[SynP.Xb]
 |i+1,l=>by
  have h:=Mm c i (l.drop c);show l.take c::SynP.Xb c (i+1) (l.drop c)=l.take c::SynP.Xb c i (l.drop c)++_;rw[h,List.drop_drop];simp[Nat.succ_mul,Nat.add_comm]
theorem Vb {α:Type}(c:Nat):∀(i:Nat) (l:List α),(SynP.Xb c i l).length=i
 |0,_=>rfl
 |i+1,l=>by show _+1=_;rw[Vb c i]
theorem Tl {α:Type}(c:Nat):∀(i:Nat) (l X:List α),X∈SynP.Xb c i l->(∀b∈X,b∈l)/\X.length<=c
 |0,_,_,h=>by cases h
 |i+1,l,X,h=>by
  rcases List.mem_cons.1 h with rfl|h
  ·exact⟨fun b hb=>List.mem_of_mem_take hb,by rw[List.length_take];omega⟩
  ·have:=Tl c i (l.drop c) X h
   exact⟨fun b hb=>List.mem_of_mem_drop (this.1 b hb),this.2⟩
theorem S7 (sep:Qx)(M:Nat):∀l:List Qx,(∀b∈l,b.length<=M)->(SynP.Xn sep l).length<=l.length*(M+sep.length)
 | [],_=>Nat.zero_le _
 | [a],h=>by have:=h a (by simp);show a.length<=1*_;omega
 |a::b::l,h=>by
  have E:=S7 sep M (b::l) (fun x hx=>h x (List.mem_cons_of_mem _ hx));have H:=h a (by simp);show (a++sep++SynP.Xn sep (b::l)).length<=_;simp only[List.length_append];have e:(a::b::l).length=(b::l).length+1:=rfl;rw[e,Nat.succ_mul];omega
def Rh (r c:Nat)(l:List Qx):Qx:=
 if l=[] then [91]++SynP.decT r++[58]++SynP.decT c++[93]
 else [91]++SynP.Xn [59,32] ((SynP.Xb c r l).map (SynP.Xn [32]))++[93]
theorem Sm (n:Nat):Ve false n=SynP.decT n:=by unfold Ve;simp;rfl
theorem Ko {n:Nat}(h:n<=64):(SynP.decT n).length<=20:=by
 have E:n<BB^1:=by unfold BB;omega
 have:=Wp E;unfold SynP.decT;split
 ·simp
 ·rw[List.length_map];omega
theorem Qxw (r c cap:Nat)(ao:Option Addr)(w:World)(hs:SG w)(hr:r<=64)(hc:c<=64):
  Calls Tryz.prog 66 #[.int .i64 (r:Nat),.int .i64 (c:Nat),.slice ao 0 cap] w (Ro (Rh r c []) w):=by
 have HSG:=zq hs;have hsz:4<w.heap.size:=World.block_lt_of_cell? w _ (hs 0 (by omega));have q1:=Ko hr;have q2:=Ko hc;obtain⟨A,hA⟩:=xq (SynP.decT r);obtain⟨B,hB⟩:=xq (SynP.decT c);rw[<-hA]at q1;rw[<-hB]at q2;have HA:=zq hA;have HB:=zq hB;clear hs hA hB;go_enter Tryz.func66,Tryz.ntmps66;go_wp2_with fail;refine(Qzf r _ hr).mono ?_;rintro e w1 ⟨v1,xs1,rfl,a1,a2,a3,a4⟩;have HR1:=zq a1;have HV1:=zq a2;have HB1:=zq a4;clear a1 a2 a4;go_wp2_with fail;have hs1:=HSG.o.below HB1.o hsz;have hsz1:4<w1.heap.size:=Nat.lt_of_lt_of_le hsz HB1.o.size;refine(Nu false _ xs1 _ hs1 HR1.o (by omega)).mono ?_;rintro e w2 ⟨rfl,b1⟩;rw[HV1.o,Sm,<-HA.o];have HB2:=zq b1;have HS2:=zq (hs1.below b1 hsz1);have hsz2:4<w2.heap.size:=Nat.lt_of_lt_of_le hsz1 HB2.o.size;clear b1 hs1;go_wp2_with fail;refine(Qzf c _ hc).mono ?_;rintro e w3 ⟨v3,xs3,rfl,a1,a2,a5,a4⟩;have HR3:=zq a1;have HV3:=zq a2;have HB3:=zq a4;clear a1 a2 a4;go_wp2_with fail;have hs3:=HS2.o.below HB3.o hsz2;refine(Nu false _ xs3 _ hs3 HR3.o (by omega)).mono ?_;rintro e w4 ⟨rfl,b1⟩;rw[HV3.o,Sm,<-HB.o];have HB4:=zq b1;clear b1 hs3;go_wp2_with fail;go_ret;have hz1:=HB1.o.size;have hz2:=HB2.o.size;have hz3:=HB3.o.size;refine⟨?_,((HB1.o.trans (HB2.o.mono hz1)).trans (HB3.o.mono (Nat.le_trans hz1 hz2))).trans (HB4.o.mono (Nat.le_trans (Nat.le_trans hz1 hz2) hz3))⟩
 have e:Rh r c []=[91]++A++[58]++B++[93]:=by rw[HA.o,HB.o];unfold Rh;rw[if_pos rfl]
 show Ending.returned (.string ((⟨#[91]⟩:ByteArray)++⟨A.toArray⟩++⟨#[58]⟩++⟨B.toArray⟩++⟨#[93]⟩))=_;rw[e,U4,U4,U4,U4];simp
theorem Qvb (r c:Nat)(l:List Qx)(v:Value)(w:World)(hv:SS w v l)(hl:l≠[])(hr:r<=64)(hc:c<=64)(hn:l.length=r*c)(hb:∀b∈l,b.length<=2147483648):
  Calls Tryz.prog 66 #[.int .i64 (r:Nat),.int .i64 (c:Nat),v] w (Ro (Rh r c l) w):=by
 obtain⟨ao,cap,rfl,h1,h2,h3⟩:=hv;have hpos:0<l.length:=List.length_pos_iff.2 hl;obtain⟨g,o,rfl,hg,hcell⟩:=h3 hpos;obtain⟨n,hnn⟩:=xq l.length;rw[<-hnn]at h1 hpos hn ⊢
 have hn4:n<=4096:=by rw[hn];exact Nat.mul_le_mul hr hc
 have HC:=zq hcell;have HL:=zq hl;have HN:=zq hn;have HNN:=zq hnn;have HBD:=zq hb
 have hne:((n:Int)==0)=false:=by simp;omega
 have h2':cap<=9223372036854775807:=by unfold maxLen at h2;omega
 have HPOS:=zq hpos;clear hcell hl hn hnn hb h3 hpos;obtain⟨i0,hi,hz0,hz1',hz2'⟩:=info_parts Tryz.infoSt;go_enter Tryz.func66,Tryz.ntmps66;go_wp2_with fail;go_loopw [7,8,23] (fun lv _ iv wr=> ∃i:Nat,iv=.int .i64 (i:Nat)/\i<=r/\wr.ownsRow w.heap.size 9 1 lv i (sts ((SynP.Xb c i l).map (SynP.Xn [32])))/\Below w.heap.size w wr) (fun _ _ iv _=>(r-intOf iv).toNat)
 case atStart=>exact⟨0,rfl,Nat.zero_le _,World.ownsRow_nil _ _ _ _,Below.refl _ _⟩
 case round=>
  obtain⟨i,rfl,hir,hown,hbl⟩:=hrel;have HOWN:=zq hown;have HBL:=zq hbl;obtain⟨bo,bcap,rfl,hbc,hbm,hbs⟩:=Qm hown;have HBS:=zq hbs;clear hown hbl hbs;by_cases hlt:i<r
  ·obtain⟨a,ha⟩:=xq (i*c)
   have hac:a+c<=n:=by rw[HN.o,ha,<-Nat.succ_mul];exact Nat.mul_le_mul (by omega) (Nat.le_refl _)
   have E1:(i:Int)*(c:Int)=(a:Int):=by rw[ha];exact(Int.natCast_mul i c).symm
   have E2:((i:Int)+1)*(c:Int)=((a+c:Nat):Int):=by rw[Int.add_mul,E1];omega
   have HAE:=zq ha;clear ha
   have hc0:0<c:=by
    rcases Nat.eq_zero_or_pos c with h|h
    ·subst h;have h1:=HN.o;rw[Nat.mul_zero]at h1;have h2:=HPOS.o;omega
    ·exact h
   have hca: ¬cap=a:=by omega
   obtain⟨X,hX⟩:=xq ((l.drop a).take c)
   have hXl:X.length=c:=by rw[hX,List.length_take,List.length_drop,<-HNN.o];omega
   have HX:=zq hX;have HXL:=zq hXl;have hXb:∀b∈X,b.length<=2147483648:=fun b hb=>HBD.o b (List.mem_of_mem_drop (List.mem_of_mem_take (hX ▸ hb)))
   have hss:SS wr (.slice (some ⟨g,o+a,none⟩) c (cap-a)) X:=by
    refine⟨_,_,by rw[hXl],by omega,by omega,fun _=>⟨g,o+a,rfl,Nat.lt_of_lt_of_le hg HBL.o.size,fun j b hj=> ?_⟩⟩;rw[hX,List.getElem?_take]at hj;split at hj
    ·rw[List.getElem?_drop]at hj
     rw[Nat.add_assoc];exact(HBL.o.cell (p:=⟨g,o+(a+j),none⟩) hg).trans (HC.o (a+j) b hj)
    ·cases hj
   have HSS:=zq hss;have hjl:=S7 [32] 2147483648 X hXb;rw[hXl]at hjl
   have hjl2:(SynP.Xn [32] X).length<=137438953536:=by
    refine Nat.le_trans hjl (Nat.le_trans (Nat.mul_le_mul hc (Nat.le_refl _)) (by decide))
   have HJL:=zq hjl2;clear hX hXl hXb hss hjl hjl2;go_wp2_with fail;refine(M3 _ X ⟨#[32]⟩ _ HSS.o (by rw[HXL.o];omega) (Nat.le_trans HJL.o (by omega))).mono ?_;rintro e w1 ⟨rfl,hb1⟩;have HB1:=zq hb1;have HO1:=zq (Ql HOWN.o hb1 (Nat.le_refl _));obtain⟨J,hJ⟩:=xq (SynP.Xn [32] X);rw[show SynP.Xn (⟨#[32]⟩:ByteArray).data.toList X=J from hJ.symm];have HJ:=zq hJ;clear hb1 hJ;have hz1:=HB1.o.size;have hz2:=HBL.o.size;go_wp2_with (at_builtin;refine wpList_append_own_at _ rfl _ _ 105 rfl w.heap.size 9 i0 (.string ⟨#[]⟩) 1 16 Tryz.underlying105 hi hz0 hz1' hz2' rfl (by decide) _ _ _ rfl (World.ownsRow.alloc HO1.o _) ⟨w1.heap.size,0,none⟩ 1 1 [.string ⟨J.toArray⟩] rfl rfl (LexP.Qc _ _ _ _ rfl) (by simp[Value.oneCell']) (by unfold maxLen;omega) (by omega) (by simp;omega) ?_);intro v4 w4 hown4 hgrow4 _ hbk4
   have hrows:sts ((SynP.Xb c (i+1) l).map (SynP.Xn [32]))=sts ((SynP.Xb c i l).map (SynP.Xn [32]))++[.string ⟨J.toArray⟩]:=by
    rw[Mm,List.map_append,Qmj,<-HAE.o,<-HX.o,HJ.o];rfl
   have HO4:Hid (w4.ownsRow w.heap.size 9 1 v4 (i+1) (sts ((SynP.Xb c (i+1) l).map (SynP.Xn [32])))):=by
    show World.ownsRow _ _ _ _ _ _ _;rw[hrows];exact hown4
   have HB4:Hid (Below w.heap.size w w4):=Below.grown ((HBL.o.trans (HB1.o.mono HBL.o.size)).alloc (by omega) _) hgrow4 (by simp;omega) (fun q hq=>(World.ownsRow.lt HO1.o q hq).1);clear hown4 hgrow4 hbk4 hrows;go_wp2_with fail;have hfin:w4.ownsRow w.heap.size 9 1 v4 (i+1) (sts ((SynP.Xb c (i+1) l).map (SynP.Xn [32])))/\Below w.heap.size w w4:=⟨HO4.o,HB4.o⟩
   exact⟨⟨i+1,rfl,by omega,hfin⟩,by simp[intOf]<;>omega⟩
  ·have hie:i=r:=by omega
   subst hie
   have hlb:∀b∈(SynP.Xb c i l).map (SynP.Xn [32]),b.length<=137438953536:=by
    intro b hb;rw[List.mem_map]at hb;obtain⟨X,hX,rfl⟩:=hb;have h1:=Tl c i l X hX;refine Nat.le_trans (S7 [32] 2147483648 X (fun b hb=>HBD.o b (h1.1 b hb))) ?_;refine Nat.le_trans (Nat.mul_le_mul (Nat.le_trans h1.2 hc) (Nat.le_refl _)) (by decide)
   have hjl:=S7 [59,32] 137438953536 _ hlb;rw[List.length_map,Vb]at hjl;obtain⟨T,hT⟩:=xq (SynP.Xn [59,32] ((SynP.Xb c i l).map (SynP.Xn [32])));rw[<-hT]at hjl
   have hjl2:T.length<=8796093026432:=by
    refine Nat.le_trans hjl (Nat.le_trans (Nat.mul_le_mul hr (Nat.le_refl _)) (by decide))
   have HT:=zq hT;clear hjl hlb hT;go_wp2_with fail
   have hJ:=M3 _ ((SynP.Xb c i l).map (SynP.Xn [32])) ⟨#[59,32]⟩ _ (SS.of_row HOWN.o) (by rw[List.length_map,Vb];omega) (by
    show (SynP.Xn [59,32] _).length<=_
    rw[<-HT.o];omega)
   rw[show SynP.Xn (⟨#[59,32]⟩:ByteArray).data.toList ((SynP.Xb c i l).map (SynP.Xn [32]))=T from HT.o.symm]at hJ;refine hJ.mono ?_;rintro e w1 ⟨rfl,hb1⟩;have HB1:=zq hb1;clear hb1 hJ;go_wp2_with fail;go_ret;refine⟨?_,HBL.o.trans (HB1.o.mono HBL.o.size)⟩
   have e:Rh i c l=[91]++T++[93]:=by rw[HT.o];unfold Rh;rw[if_neg HL.o]
   show Ending.returned (.string ((⟨#[91]⟩:ByteArray)++⟨T.toArray⟩++⟨#[93]⟩))=_;rw[e,U4,U4];simp
def IRd (w:World)(v:Value)(l:List (Bool×Nat)):Prop:=∃ao cap,v=.slice ao l.length cap/\l.length<=cap/\cap<=maxLen/\(0<l.length-> ∃g o,ao=some ⟨g,o,none⟩/\g<w.heap.size/\ ∀j p,l[j]?=some p-> ∃m xs,w.cell? ⟨g,o+j*2,none⟩=some (.bool p.1)/\w.cell? ⟨g,o+j*2+1,none⟩=some m/\Rd w m xs/\NatP.val xs=p.2/\xs.length<=67108864)
theorem IRd.below {w w':World}{v:Value}{l:List (Bool×Nat)}(h:IRd w v l)(hb:Below w.heap.size w w'):IRd w' v l:=by
 obtain⟨ao,E,e,H,I,J⟩:=h;refine⟨ao,E,e,H,I,fun h0=> ?_⟩;obtain⟨g,o,rfl,a2,a3⟩:=J h0;refine⟨g,o,rfl,Nat.lt_of_lt_of_le a2 hb.size,fun j p hj=> ?_⟩;obtain⟨m,xs,b1,b2,b3,b4,b5⟩:=a3 j p hj;exact⟨m,xs,(hb.cell (p:=⟨g,o+j*2,none⟩) a2).trans b1,(hb.cell (p:=⟨g,o+j*2+1,none⟩) a2).trans b2,b3.below hb,b4,b5⟩
def V0 (l:List (Bool×Nat)):List Qx:=l.map fun p=>Ve p.1 p.2
theorem Nz (neg:Bool){xs:List Nat}(hl:xs.length<=67108864)(hok:ok xs):(Ve neg (NatP.val xs)).length<=2147483648:=by
 have h:(Z8 (NatP.val xs)).length<=1342177281:=by
  unfold Z8;split
  ·simp
  ·have:=Wp (Yk hok)
   rw[List.length_map];omega
 unfold Ve;split
 ·simp only[List.length_cons];omega
 ·omega
theorem Bt (r c:Nat)(l:List (Bool×Nat))(v:Value)(w:World)(hs:SG w)(hv:IRd w v l)(hr:r<=64)(hc:c<=64)(hn:l.length=r*c):
  Calls Tryz.prog 30 #[.agg #[.int .i64 (r:Nat),.int .i64 (c:Nat),v]] w fun e w'=>e=.returned (.tuple #[.string ⟨(Rh r c (V0 l)).toArray⟩,.int .i64 0])/\Below w.heap.size w w':=by
 have HSG:=zq hs;have HV:=zq hv;have hsz:4<w.heap.size:=World.block_lt_of_cell? w _ (hs 0 (by omega));obtain⟨ao,cap,rfl,h1,h2,h3⟩:=hv;obtain⟨n,hnn⟩:=xq l.length;rw[<-hnn]at h1 hn ⊢
 have hn4:n<=4096:=by rw[hn];exact Nat.mul_le_mul hr hc
 have HN:=zq hn;have HNN:=zq hnn;have H3:=zq h3;have HA:=zq (Qq w (.cells #[.int .i64 (r:Nat),.int .i64 (c:Nat),.slice ao n cap] 47));have hblk:=heap_alloc_new w (.cells #[.int .i64 (r:Nat),.int .i64 (c:Nat),.slice ao n cap] 47);have HBK:=zq hblk;clear hs hn hnn h3 hblk;obtain⟨i0,hi,hz0,hz1',hz2'⟩:=info_parts Tryz.infoSt;go_enter Tryz.func30,Tryz.ntmps30;go_wp2_with fail;refine(Qhw r c n cap ao _ hr hc HN.o).mono ?_;rintro e w1 ⟨rfl,hb1⟩;have hbk1:w1.heap[w.heap.size]?=some (.cells #[.int .i64 (r:Nat),.int .i64 (c:Nat),.slice ao n cap] 47 (0,0)):=(hb1.block w.heap.size (by simp)).trans HBK.o;have HB1:Hid (Below w.heap.size w w1):=HA.o.trans (hb1.mono (by simp))
 have hw1:w.heap.size<w1.heap.size:=by have:=hb1.size;simp at this;omega
 have HBK1:=zq hbk1;have e0:w1.cell? ⟨w.heap.size,0,none⟩=some (.int .i64 (r:Nat)):=(cell_of_row w1 _ _ _ _ _ hbk1).trans rfl;have e1:w1.cell? ⟨w.heap.size,1,none⟩=some (.int .i64 (c:Nat)):=(cell_of_row w1 _ _ _ _ _ hbk1).trans rfl;have e2:w1.cell? ⟨w.heap.size,2,none⟩=some (.slice ao n cap):=(cell_of_row w1 _ _ _ _ _ hbk1).trans rfl;clear hb1 hbk1;go_wp2_with (at_make;refine wpList_make_own _ rfl _ _ 105 rfl w1.heap.size 9 i0 (.string ⟨#[]⟩) 1 Tryz.underlying105 hi hz0 hz1' _ _ _ n rfl rfl rfl (by rw[hz2'];omega) (by unfold maxLen;omega) (Nat.le_refl _) ?_);intro w2 hown2 hgrow2;have hb2:Below w1.heap.size w1 w2:=Below.grown (Below.refl _ _) hgrow2 (Nat.le_refl _) (fun k hk=>by cases hk);have HO2:=zq hown2;have HB2:=zq hb2;have f2:w2.cell? ⟨w.heap.size,2,none⟩=some (.slice ao n cap):=(hb2.cell (p:=⟨w.heap.size,2,none⟩) hw1).trans e2;clear hown2 hgrow2 hb2;go_wp2_with fail;clear e0 e1 e2 f2;go_loopw [5,7,20] (fun lv _ iv wr=> ∃i:Nat,iv=.int .i64 (i:Nat)/\i<=n/\wr.ownsRow w1.heap.size 9 1 lv i (sts (V0 (l.take i)))/\Below w1.heap.size w1 wr) (fun _ _ iv _=>(n-intOf iv).toNat)
 case atStart=>exact⟨0,rfl,Nat.zero_le _,by simpa [V0,sts] using HO2.o,HB2.o⟩
 case round=>
  obtain⟨i,rfl,hin,hown,hbl⟩:=hrel;have HOWN:=zq hown;have HBL:=zq hbl;obtain⟨bo,bcap,rfl,hbc,hbm,hbs⟩:=Qm hown;have hz1:=hbl.size;clear hown hbl hbs;by_cases hlt:i<n
  ·obtain⟨g,o,rfl,hg,hcell⟩:=H3.o (by rw[<-HNN.o];omega)
   obtain⟨p,hp⟩:∃p,l[i]?=some p:=⟨_,List.getElem?_eq_getElem (by rw[<-HNN.o];omega)⟩;obtain⟨m,xs,c0,c1,hrd,hval,hxl⟩:=hcell i p hp;obtain⟨neg,k⟩:=p;obtain⟨mo,mcap,hme,-⟩:=hrd.2;subst hme;have hbw:Below w.heap.size w wr:=HB1.o.trans (HBL.o.mono (Nat.le_of_lt hw1));have d0:wr.cell? ⟨g,o+i*2,none⟩=some (.bool neg):=(hbw.cell (p:=⟨g,o+i*2,none⟩) hg).trans c0;have d1:wr.cell? ⟨g,o+i*2+1,none⟩=some (.slice mo xs.length mcap):=(hbw.cell (p:=⟨g,o+i*2+1,none⟩) hg).trans c1;have HRD:=zq (hrd.below hbw);have HVAL:=zq hval;have HP:=zq hp;have HBW:=zq hbw;clear c0 c1 hrd hval hp hcell hbw;have HAL:=zq (Qq wr (.cells #[.bool neg,.slice mo xs.length mcap] 62))
   have HTL:Hid ((Ve neg k).length<=2147483648):=by
    have:=Nz neg hxl HRD.o.ok;rw[HVAL.o]at this;exact this
   go_wp2_with fail;have hsg:=(HSG.o.below HBW.o hsz).below HAL.o (Nat.lt_of_lt_of_le hsz HBW.o.size);refine(Nu neg _ xs _ hsg (HRD.o.below HAL.o) (by omega)).mono ?_;rintro e w3 ⟨rfl,hb3⟩
   have e1:Ve neg (NatP.val xs)=Ve neg k:=by rw[HVAL.o]
   rw[e1];obtain⟨T,hT⟩:=xq (Ve neg k);rw[<-hT];have HT:=zq hT;have HB3:Hid (Below wr.heap.size wr w3):=HAL.o.trans (hb3.mono (by simp));have HO3:=zq (Ql HOWN.o HB3.o (Nat.le_refl _));have hz3:=HB3.o.size;clear hb3 hsg hT e1 d0 d1;go_wp2_with (at_builtin;refine wpList_append_own_at _ rfl _ _ 105 rfl w1.heap.size 9 i0 (.string ⟨#[]⟩) 1 16 Tryz.underlying105 hi hz0 hz1' hz2' rfl (by decide) _ _ _ rfl (World.ownsRow.alloc HO3.o _) ⟨w3.heap.size,0,none⟩ 1 1 [.string ⟨T.toArray⟩] rfl rfl (LexP.Qc _ _ _ _ rfl) (by simp[Value.oneCell']) (by unfold maxLen;omega) (by omega) (by simp;omega) ?_);intro v4 w4 hown4 hgrow4 _ hbk4
   have hrows:sts (V0 (l.take (i+1)))=sts (V0 (l.take i))++[.string ⟨T.toArray⟩]:=by
    rw[List.take_add_one,HP.o];simp[V0,sts,HT.o]
   have HO4:Hid (w4.ownsRow w1.heap.size 9 1 v4 (i+1) (sts (V0 (l.take (i+1))))):=by
    show World.ownsRow _ _ _ _ _ _ _;rw[hrows];exact hown4
   have HB4:Hid (Below w1.heap.size w1 w4):=Below.grown ((HBL.o.trans (HB3.o.mono hz1)).alloc (by omega) _) hgrow4 (by simp;omega) (fun q hq=>(World.ownsRow.lt HO3.o q hq).1);clear hown4 hgrow4 hbk4 hrows;go_wp2_with fail;have hfin:w4.ownsRow w1.heap.size 9 1 v4 (i+1) (sts (V0 (l.take (i+1))))/\Below w1.heap.size w1 w4:=⟨HO4.o,HB4.o⟩
   exact⟨⟨i+1,rfl,by omega,hfin⟩,by simp[intOf]<;>omega⟩
  ·have hie:i=n:=by omega
   have htk:l.take i=l:=List.take_of_length_le (by rw[hie];exact Nat.le_of_eq HNN.o.symm);rw[htk]at HOWN;have hbk:=(HBL.o.block w.heap.size hw1).trans HBK1.o;have e0:wr.cell? ⟨w.heap.size,0,none⟩=some (.int .i64 (r:Nat)):=(cell_of_row wr _ _ _ _ _ hbk).trans rfl;have e1:wr.cell? ⟨w.heap.size,1,none⟩=some (.int .i64 (c:Nat)):=(cell_of_row wr _ _ _ _ _ hbk).trans rfl;have HBW:Hid (Below w.heap.size w wr):=HB1.o.trans (HBL.o.mono (Nat.le_of_lt hw1));have HIE:=zq hie;clear hbk htk hie;go_wp2_with fail
   have hil:(V0 l).length=r*c:=by unfold V0;rw[List.length_map,<-HNN.o,HN.o]
   have hgrid:Calls Tryz.prog 66 #[.int .i64 (r:Nat),.int .i64 (c:Nat),.slice bo i bcap] wr (Ro (Rh r c (V0 l)) wr):=by
    by_cases h0:V0 l=[]
    ·have hi0:i=0:=by
      have:=congrArg List.length h0;rw[hil,List.length_nil,<-HN.o]at this;rw[HIE.o];exact this
     subst hi0;rw[h0];exact Qxw r c bcap bo _ (HSG.o.below HBW.o hsz) hr hc
    ·refine Qvb r c (V0 l) _ _ (SS.of_row HOWN.o) h0 hr hc hil ?_
     intro b hb;unfold V0 at hb;rw[List.mem_map]at hb;obtain⟨p,hp,rfl⟩:=hb;obtain⟨j,hj⟩:=List.getElem?_of_mem hp
     have hl0:0<l.length:=by have:=(List.getElem?_eq_some_iff.1 hj).1;omega
     obtain⟨g,o,_,_,hcell⟩:=H3.o hl0;obtain⟨m,xs,_,_,hrd,hval,hxl⟩:=hcell j p hj;have:=Nz p.1 hxl hrd.ok;rw[hval]at this;exact this
   refine hgrid.mono ?_;rintro e w5 ⟨rfl,hb5⟩;have HB5:=zq hb5;clear hb5 hgrid;go_wp2_with fail;go_ret2;exact⟨rfl,HBW.o.trans (HB5.o.mono HBW.o.size)⟩
def Sl (w:World)(v:Value)(n:Nat)(R:Nat->Value->Prop):Prop:=∃ao cap,v=.slice ao n cap/\n<=cap/\cap<=maxLen/\(0<n-> ∃g o,ao=some ⟨g,o,none⟩/\g<w.heap.size/\ ∀j,j<n-> ∃u,w.cell? ⟨g,o+j,none⟩=some u/\R j u)
theorem Sl.mono {w w':World}{v:Value}{n:Nat}{R R':Nat->Value->Prop}(h:Sl w v n R)(hb:Below w.heap.size w w')(hr:∀j u,R j u->R' j u):Sl w' v n R':=by
 obtain⟨ao,E,e,H,I,J⟩:=h;refine⟨ao,E,e,H,I,fun h0=> ?_⟩;obtain⟨g,o,rfl,a2,a3⟩:=J h0;refine⟨g,o,rfl,Nat.lt_of_lt_of_le a2 hb.size,fun j hj=> ?_⟩;obtain⟨u,b1,b2⟩:=a3 j hj;exact⟨u,(hb.cell (p:=⟨g,o+j,none⟩) a2).trans b1,hr j u b2⟩
def NRd (w:World)(v:Value)(n:Nat):Prop:=∃xs,Rd w v xs/\NatP.val xs=n/\xs.length<=67108864
theorem NRd.below {w w':World}{v:Value}{n:Nat}(h:NRd w v n)(hb:Below w.heap.size w w'):NRd w' v n:=by
 obtain⟨xs,E,H,I⟩:=h;exact⟨xs,E.below hb,H,I⟩
def NsRd (w:World)(v:Value)(s:List Nat):Prop:=Sl w v s.length fun j u=> ∃n,s[j]?=some n/\NRd w u n
theorem NsRd.below {w w':World}{v:Value}{s:List Nat}(h:NsRd w v s)(hb:Below w.heap.size w w'):NsRd w' v s:=
 Sl.mono h hb fun _ _ ⟨n,a,b⟩=>⟨n,a,b.below hb⟩
def CRd (w:World)(v:Value)(l:List (List Nat)):Prop:=Sl w v l.length fun j u=> ∃s,l[j]?=some s/\NsRd w u s
theorem CRd.below {w w':World}{v:Value}{l:List (List Nat)}(h:CRd w v l)(hb:Below w.heap.size w w'):CRd w' v l:=
 Sl.mono h hb fun _ _ ⟨n,a,b⟩=>⟨n,a,b.below hb⟩
theorem Fo (sep:Qx):∀(l:List Qx) (b:Qx),b∈l->b.length<=(SynP.Xn sep l).length
 | [a],b,h=>by rw[List.mem_singleton.1 h];exact Nat.le_refl _
 |a::c::l,b,h=>by
  show b.length<=(a++sep++SynP.Xn sep (c::l)).length;simp only[List.length_append];rcases List.mem_cons.1 h with rfl|h
  ·omega
  ·have:=Fo sep (c::l) b h;omega
def simT (s:List Nat):Qx:=SynP.Xn [32] (s.map SynP.decT)
theorem Qwj {xs:List Nat}(hl:xs.length<=67108864)(hok:ok xs):(SynP.decT (NatP.val xs)).length<=2147483648:=by
 have:=Nz false hl hok;rw[Sm]at this;exact this
theorem Bj (l:List (List Nat))(v:Value)(w:World)(hs:SG w)(hv:CRd w v l)(hn:l.length<=134217728)(hm:∀s∈l,s.length<=134217728)(hT:(SynP.Xn [44,32] (l.map simT)).length<=70368744177664):
  Calls Tryz.prog 67 #[v] w (Ro (SynP.cpxT l) w):=by
 have HSG:=zq hs;have HV:=zq hv;have hsz:4<w.heap.size:=World.block_lt_of_cell? w _ (hs 0 (by omega));obtain⟨ao,cap,rfl,h1,h2,h3⟩:=hv;obtain⟨n,hnn⟩:=xq l.length;rw[<-hnn]at h1 hn h3 ⊢;have HNN:=zq hnn;have H3:=zq h3;have HM:=zq hm;have HT:=zq hT;clear hs hnn h3 hm hT;obtain⟨i0,hi,hz0,hz1',hz2'⟩:=info_parts Tryz.infoSt;go_enter Tryz.func67,Tryz.ntmps67;go_wp2_with fail;go_loopw [3,5,6,8,11] (fun lv _ _ _ iv wr=> ∃i:Nat,iv=.int .i64 (i:Nat)/\i<=n/\wr.ownsRow w.heap.size 9 1 lv i (sts ((l.map simT).take i))/\Below w.heap.size w wr) (fun _ _ _ _ iv _=>(n-intOf iv).toNat)
 case atStart=>exact⟨0,rfl,Nat.zero_le _,World.ownsRow_nil _ _ _ _,Below.refl _ _⟩
 case round=>
  obtain⟨i,rfl,hin,hown,hbl⟩:=hrel;have HOWN:=zq hown;have HBL:=zq hbl;obtain⟨bo,bcap,rfl,hbc,hbm,hbs⟩:=Qm hown;have hz1:=hbl.size;clear hown hbl hbs;by_cases hlt:i<n
  ·obtain⟨g,o,rfl,hg,hcell⟩:=H3.o (by omega)
   obtain⟨u,c0,s,hsi,hsr⟩:=hcell i hlt;have d0:wr.cell? ⟨g,o+i,none⟩=some u:=(HBL.o.cell (p:=⟨g,o+i,none⟩) hg).trans c0;have HSI:=zq hsi;have hsr2:=hsr.below HBL.o;have HSR:=zq hsr2;obtain⟨so,scap,rfl,s1,s2,s3⟩:=hsr2;have hsl:=HM.o s (List.mem_of_getElem? hsi);have HS3:=zq s3;obtain⟨m,hmm⟩:=xq s.length;rw[<-hmm]at s1 hsl HS3 d0;have HMM:=zq hmm;clear c0 hsi hsr hcell s3 hmm;obtain⟨wo,rfl⟩:=xq wr;go_wp2_with fail;go_loopw [6,8,17] (fun nv _ jv wx=> ∃j:Nat,jv=.int .i64 (j:Nat)/\j<=m/\wx.ownsRow wo.heap.size 9 1 nv j (sts ((s.map SynP.decT).take j))/\Below wo.heap.size wo wx) (fun _ _ jv _=>(m-intOf jv).toNat)
   case atStart=>exact⟨0,rfl,Nat.zero_le _,World.ownsRow_nil _ _ _ _,Below.refl _ _⟩
   case round=>
    obtain⟨j,rfl,hjm,hown2,hbl2⟩:=hrel;have HOWN2:=zq hown2;have HBL2:=zq hbl2;obtain⟨no,ncap,rfl,hnc,hnm,hns⟩:=Qm hown2;have hz2:=hbl2.size;have HBW:Hid (Below w.heap.size w wr):=HBL.o.trans (hbl2.mono hz1);clear hown2 hbl2 hns;by_cases hjt:j<m
    ·obtain⟨g2,o2,rfl,hg2,hcell2⟩:=HS3.o (by omega)
     obtain⟨u,c0,k,hsk,xs,hrd,hval,hxl⟩:=hcell2 j hjt;have e0:wr.cell? ⟨g2,o2+j,none⟩=some u:=(HBL2.o.cell (p:=⟨g2,o2+j,none⟩) hg2).trans c0;have HRD:=zq (hrd.below HBL2.o);have HVAL:=zq hval;have HSK:=zq hsk
     have HTL:Hid ((SynP.decT k).length<=2147483648):=by
      have:=Qwj hxl hrd.ok;rw[hval]at this;exact this
     obtain⟨uo,ucap,hue,-⟩:=hrd.2;subst hue;clear c0 hsk hrd hval hcell2;go_wp2_with fail;refine(U9 _ xs _ (HSG.o.below HBW.o hsz) HRD.o (by omega)).mono ?_;rintro e w3 ⟨rfl,hb3⟩;rw[HVAL.o,R6];obtain⟨T,hT⟩:=xq (SynP.decT k);rw[<-hT];have HT2:=zq hT;have HB3:=zq hb3;have HO3:=zq (Ql HOWN2.o hb3 (Nat.le_refl _));have hz3:=hb3.size;clear hb3 hT e0;go_wp2_with (at_builtin;refine wpList_append_own_at _ rfl _ _ 105 rfl wo.heap.size 9 i0 (.string ⟨#[]⟩) 1 16 Tryz.underlying105 hi hz0 hz1' hz2' rfl (by decide) _ _ _ rfl (World.ownsRow.alloc HO3.o _) ⟨w3.heap.size,0,none⟩ 1 1 [.string ⟨T.toArray⟩] rfl rfl (LexP.Qc _ _ _ _ rfl) (by simp[Value.oneCell']) (by unfold maxLen;omega) (by omega) (by simp;omega) ?_);intro v4 w4 hown4 hgrow4 _ hbk4
     have hrows:sts ((s.map SynP.decT).take (j+1))=sts ((s.map SynP.decT).take j)++[.string ⟨T.toArray⟩]:=by
      rw[List.take_add_one,List.getElem?_map,HSK.o];simp[sts,HT2.o]
     have HO4:Hid (w4.ownsRow wo.heap.size 9 1 v4 (j+1) (sts ((s.map SynP.decT).take (j+1)))):=by
      show World.ownsRow _ _ _ _ _ _ _;rw[hrows];exact hown4
     have HB4:Hid (Below wo.heap.size wo w4):=Below.grown ((HBL2.o.trans (HB3.o.mono hz2)).alloc (by omega) _) hgrow4 (by simp;omega) (fun q hq=>(World.ownsRow.lt HO3.o q hq).1);clear hown4 hgrow4 hbk4 hrows;go_wp2_with fail;have hfin:w4.ownsRow wo.heap.size 9 1 v4 (j+1) (sts ((s.map SynP.decT).take (j+1)))/\Below wo.heap.size wo w4:=⟨HO4.o,HB4.o⟩
     exact⟨⟨j+1,rfl,by omega,hfin⟩,by simp[intOf]<;>omega⟩
    ·have hje:j=m:=by omega
     have htk:(s.map SynP.decT).take j=s.map SynP.decT:=List.take_of_length_le (by rw[hje,List.length_map];exact Nat.le_of_eq HMM.o.symm);rw[htk]at HOWN2;have hsT:simT s=SynP.Xn [32] (s.map SynP.decT):=rfl;have HSL:Hid ((simT s).length<=70368744177664):=Nat.le_trans (Fo [44,32] (l.map simT) _ (List.mem_map_of_mem (List.mem_of_getElem? HSI.o))) HT.o;obtain⟨T,hT2⟩:=xq (simT s);have HT2:=zq hT2;have HSS:=zq (SS.of_row HOWN2.o);clear htk hsT hT2 hje;go_wp2_with fail
     have hJ:=M3 _ (s.map SynP.decT) ⟨#[32]⟩ _ HSS.o (by rw[List.length_map,<-HMM.o];omega) (by
      show (simT s).length<=_
      exact Nat.le_trans HSL.o (by omega))
     rw[show SynP.Xn (⟨#[32]⟩:ByteArray).data.toList (s.map SynP.decT)=T from HT2.o.symm]at hJ;refine hJ.mono ?_;rintro e w3 ⟨rfl,hb3⟩;have HB3:=zq (HBL2.o.trans (hb3.mono hz2));have HO3:=zq (Ql HOWN.o HB3.o (Nat.le_refl _));have hz3:=HB3.o.size;clear hb3 hJ;go_wp2_with (at_builtin;refine wpList_append_own_at _ rfl _ _ 105 rfl w.heap.size 9 i0 (.string ⟨#[]⟩) 1 16 Tryz.underlying105 hi hz0 hz1' hz2' rfl (by decide) _ _ _ rfl (World.ownsRow.alloc HO3.o _) ⟨w3.heap.size,0,none⟩ 1 1 [.string ⟨T.toArray⟩] rfl rfl (LexP.Qc _ _ _ _ rfl) (by simp[Value.oneCell']) (by unfold maxLen;omega) (by omega) (by simp;omega) ?_);intro v4 w4 hown4 hgrow4 _ hbk4
     have hrows:sts ((l.map simT).take (i+1))=sts ((l.map simT).take i)++[.string ⟨T.toArray⟩]:=by
      rw[List.take_add_one,List.getElem?_map,HSI.o];simp[sts,HT2.o]
     have HO4:Hid (w4.ownsRow w.heap.size 9 1 v4 (i+1) (sts ((l.map simT).take (i+1)))):=by
      show World.ownsRow _ _ _ _ _ _ _;rw[hrows];exact hown4
     have HB4:Hid (Below w.heap.size w w4):=Below.grown ((HBL.o.trans (HB3.o.mono hz1)).alloc (by omega) _) hgrow4 (by simp;omega) (fun q hq=>(World.ownsRow.lt HO3.o q hq).1);clear hown4 hgrow4 hbk4 hrows;go_wp2_with fail;have hfin:w4.ownsRow w.heap.size 9 1 v4 (i+1) (sts ((l.map simT).take (i+1)))/\Below w.heap.size w w4:=⟨HO4.o,HB4.o⟩
     exact⟨⟨i+1,rfl,by omega,hfin⟩,by simp[intOf]<;>omega⟩
  ·have hie:i=n:=by omega
   have htk:(l.map simT).take i=l.map simT:=List.take_of_length_le (by rw[hie,List.length_map];exact Nat.le_of_eq HNN.o.symm);rw[htk]at HOWN;obtain⟨T,hT⟩:=xq (SynP.Xn [44,32] (l.map simT))
   have hTl:T.length<=70368744177664:=by rw[hT];exact HT.o
   have HT2:=zq hT;have HSS:=zq (SS.of_row HOWN.o);clear htk hT hie;go_wp2_with fail
   have hJ:=M3 _ (l.map simT) ⟨#[44,32]⟩ _ HSS.o (by rw[List.length_map,<-HNN.o];omega) (by
    show (SynP.Xn [44,32] (l.map simT)).length<=_
    exact Nat.le_trans HT.o (by omega))
   rw[show SynP.Xn (⟨#[44,32]⟩:ByteArray).data.toList (l.map simT)=T from HT2.o.symm]at hJ;refine hJ.mono ?_;rintro e w3 ⟨rfl,hb3⟩;have HB3:=zq hb3;clear hb3 hJ;go_wp2_with fail;go_ret;refine⟨?_,HBL.o.trans (HB3.o.mono hz1)⟩
   have e:SynP.cpxT l=[123]++T++[125]:=by rw[HT2.o];rfl
   show Ending.returned (.string ((⟨#[123]⟩:ByteArray)++⟨T.toArray⟩++⟨#[125]⟩))=_;rw[e,U4,U4];simp
end Go.Proofs.YtgfmiladfeoldaaGreatDoor
