import Derived.Test.YtgfmiladfeoldaaGreatDoorPk3
import Derived.Test.YtgfmiladfeoldaaGreatDoorPk2
set_option linter.unusedSimpArgs false
set_option linter.unusedVariables false
set_option maxRecDepth 100000
set_option maxHeartbeats 16000000
open Go.Proofs.Tryz
open Option renaming none->Z,some->F
open Go.Value renaming int->A,slice->U,bool->c9,string->dl,tuple->ex,agg->eS,pointer->ff
open Go.Obj renaming cells->O
open Go renaming World->ca,Value->de,Calls->dk,Ending->du
open Go.RowKit renaming Below->ce,Hid->da
open Bool renaming false->cl,true->dq
open Go.IntKind renaming u64->co,i64->G
open Go.Proofs.Tryz renaming prog->db,underlying62->ef,underlying105->eg,ntmps216->fa,func216->fb,ntmps280->fi,ntmps239->fm,ntmps169->gc,ntmps121->gd,func280->ge,func239->gE,func169->g9,func121->hO,underlying88->ii,ntmps283->io,ntmps170->ip,ntmps58->it,func283->iS,ntmps65->i6,func170->i8,ntmps66->jj
open Go.Ending renaming returned->dj
namespace Go.Proofs.YtgfmiladfeoldaaGreatDoor
open Go.RowKit aw
def dH (xs:List Nat):Nat:=if (strip xs).length=0 then 0 else 64*((strip xs).length-1)+Lib.bitLen ((strip xs).getD ((strip xs).length-1) 0)
variable {B D R S b c carry cz d g i k lo n np r s t v1 x y z:Nat} {L M V l xs ys:List Nat} {og og':Option Nat} {ov pv u v:de} {p q:Addr} {vs:List de} {w w' w1 w2:ca}
theorem Uz (h0:0<x)(h:x<BB):1<=Lib.bitLen x/\Lib.bitLen x<=64/\2^(Lib.bitLen x-1)<=x/\x<2^Lib.bitLen x:=by have h':x<2^64:=h;obtain⟨E,H,I⟩:=Lib.bitLenAux_bounds 64 x h' (by omega);exact⟨E,Lib.bitLen_le x 64 (aab _) h',H,I⟩
theorem Gv (bm:ok xs):dH xs=0↔val xs=0:=by
 rw[<-ay xs];unfold dH;by_cases h:(strip xs).length=0
 ·rw[if_pos h,aau h];simp[val]
 rw[if_neg h];obtain⟨n,T⟩:∃n,(strip xs).length=n+1:=⟨(strip xs).length-1,by omega⟩;obtain⟨d,E,J⟩:=bt xs n T;have K:d<BB:=bJ bm d (aai E);rw[T,abW,abc,E];have:=Uz (abr J) K;simp only[ab6];have aE:=aH (strip xs) n (by omega)
 have bi:(strip xs).drop n=[d]:=by
  have H:n<(strip xs).length:=by omega
  rw[aaL H];have I:=aad H;rw[E]at I;rw[<-aav I,aaC (by omega)]
 rw[bi]at aE;have am:0<BB^n*val [d]:=ack (abC aC) (by simp[val];omega);omega
theorem J8 (hr:Rd w v xs)(hl:xs.length<=1099511627776):dk db 58 #[v] w fun e w'=>e=dj (A G (dH xs:Nat))/\w=w':=by
 have HR:=zq hr;obtain⟨ao,cap,rfl,bU,hcm,bm,aS⟩:=hr.2;have ju:=zq aS;have bS:=zq bm;have hle:=Qf xs;obtain⟨n,hn⟩:=xq ((strip xs).length);rw[<-hn]at hle;have HN:=zq hn;clear aS bm hcm hr;by_cases h0:n=0
 ·have hb:dH xs=0:=by unfold dH;rw[if_pos (by omega)]
  have HB:=zq hb;subst h0;clear hb hn;go_enter func58,it;go_wp2_with fail;refine(X8 HR).mono ?_;rintro e w' ⟨rfl,rfl⟩;rw[<-HN.o];go_wp2_with fail;go_ret;exact⟨by rw[HB.o];rfl,rfl⟩
 obtain⟨m,rfl⟩:∃m,n=m+1:=⟨n-1,by omega⟩;obtain⟨d,hd,I8⟩:=bt xs m hn.symm
 have DX:xs[m]?=F d:=by
  rw[(Xj xs).1,abE]at hd;split at hd
  ·exact hd
  cases hd
 have rM:=bS.o d (aai DX)
 have hb:dH xs=64*m+Lib.bitLen d:=by unfold dH;rw[if_neg (by omega),<-hn,abW,abc,hd];rfl
 have hbl:=(Uz (abr I8) rM).2.1;obtain⟨k,hk⟩:=xq (Lib.bitLen d);rw[<-hk]at hb hbl;obtain⟨g,o,rfl,e1⟩:=ju.o m d DX;have HB:=zq hb;have HK:=zq hk;have lR:=zq rM;clear hb hd DX hk rM hn I8;go_enter func58,it;go_wp2_with fail;refine(X8 HR).mono ?_;rintro e w' ⟨rfl,rfl⟩;rw[<-HN.o];go_wp2_with fail;refine(bits_Len64 (d:Int) _ (by omega) (by have:=lR.o;unfold BB at this;omega)).mono ?_;rintro e w1 ⟨rfl,rfl⟩;rw[acT,<-HK.o];go_wp2_with fail;go_ret;exact⟨by rw[HB.o];exact Wl (by omega),rfl⟩
def bY (a b:Nat):Int:=if a<b then -1 else if b<a then 1 else 0
theorem cr (h:l[k]?=F x):val (l.drop k)=x+BB*val (l.drop (k+1)):=by have E:k<l.length:=(aaf.1 h).1;rw[aaL E];have:=aad E;rw[h]at this;rw[<-aav this];rfl
theorem Ej {m:Nat}(h:(strip l).length=m+1):BB^m<=val l:=by rw[<-ay l];obtain⟨d,E,H⟩:=bt l m h;rw[aH (strip l) m (by omega),cr E];have I:BB^m*1<=BB^m*(d+BB*val ((strip l).drop (m+1))):=aaT _ (by omega);omega
theorem Hn (hx:ok xs)(h:(strip xs).length<(strip ys).length):val xs<val ys:=by obtain⟨m,H⟩:∃m,(strip ys).length=m+1:=⟨(strip ys).length-1,by omega⟩;have I:=Ej H;have E:=aN (bJ hx);rw[ay]at E;have J:BB^(strip xs).length<=BB^m:=aa6 aC (by omega);omega
theorem Qqy {X Y:List Nat}(hX:ok X)(hx:X[k]?=F x)(hy:Y[k]?=F y)(hd:val (X.drop (k+1))=val (Y.drop (k+1)))(hlt:x<y):val X<val Y:=by have lx:k<X.length:=(aaf.1 hx).1;have ly:k<Y.length:=(aaf.1 hy).1;rw[aH X k (by omega),aH Y k (by omega),cr hx,cr hy,hd];have h:=aN (bq hX k);rw[aak,aaG (by omega)]at h;have E:BB^k*(x+BB*val (Y.drop (k+1))+1)<=BB^k*(y+BB*val (Y.drop (k+1))):=aaT _ (by omega);rw[aay,abZ]at E;omega
def Qhr (a b:Nat)(w:ca)(e:du)(w':ca):Prop:=e=dj (A G (bY a b))/\ce w.heap.size w w'
def Qcc (X Y:List Nat)(w:ca)(i:de)(wr:ca):Prop:=∃k:Nat,k<=X.length/\i=A G ((k:Int)-1)/\val (X.drop k)=val (Y.drop k)/\ce w.heap.size w wr
theorem Qh5 {X Y:List Nat}(h:val (X.drop 0)=val (Y.drop 0)):bY (val X) (val Y)=0:=by rw[aa4,aa4]at h;unfold bY;rw[h];simp
theorem Hl {a:Nat}(h:a<b):bY a b= -1:=if_pos h
theorem Qkh {a:Nat}(h:b<a):bY a b=1:=by unfold bY;rw[if_neg (by omega),if_pos h]
theorem Vy (hv:Rd w v xs)(hu:Rd w u ys):dk db 166 #[v,u] w (Qhr (val xs) (val ys) w):=by
 have HV:=zq hv;have HU:=zq hu;obtain⟨ao,cap,rfl,bU,hcm,bm,-⟩:=hv.2;obtain⟨bo,bn,rfl,mF,jE,dc,-⟩:=hu.2;have bS:=zq bm;have eY:=zq dc;have hle:=Qf xs;have zW:=Qf ys;obtain⟨n,hn⟩:=xq ((strip xs).length);obtain⟨m,hm⟩:=xq ((strip ys).length);rw[<-hn]at hle;rw[<-hm]at zW
 have hb:xs.length<=9223372036854775807:=by unfold maxLen at hcm;omega
 have hb2:ys.length<=9223372036854775807:=by unfold maxLen at jE;omega
 have HN:=zq hn;have HM:=zq hm;clear hv hu bm dc hcm jE hn hm;go_enter func166,ntmps166;go_wp2_with fail;refine(X8 HV).mono ?_;rintro e w' ⟨rfl,rfl⟩;rw[<-HN.o];go_wp2_with fail;refine(X8 HU).mono ?_;rintro e w' ⟨rfl,rfl⟩;rw[<-HM.o];by_cases wO:n=m
 ·have agG:((n:Int) !=(m:Int))=cl:=by simp[wO]
  have kx:=zq wO;clear wO
  have HX:da (val xs=val (xs.take n)):=by show _=_;rw[HN.o,<-(Xj xs).1,ay]
  have HY:da (val ys=val (ys.take n)):=by show _=_;rw[kx.o,HM.o,<-(Xj ys).1,ay]
  have ail:n<=ys.length:=by have:=kx.o;omega
  go_wp2_with fail;go_loopw [7] (fun i wr=>Qcc (xs.take n) (ys.take n) w i wr) (fun i _=>(intOf i+1).toNat)
  case atStart=>exact⟨n,by rw[aak];omega,rfl,by rw[aaC (by rw[aak];omega),aaC (by rw[aak];omega)],aaw _ _⟩
  case round=>
   obtain⟨k,hk,rfl,hd,hbl⟩:=hrel;rw[aak,aaG hle]at hk;have HD:=zq hd;have aL:=zq hbl;clear hd hbl
   cases k with
   |zero=>
    have wj: ¬((0:Int)<=((0:Nat):Int)-1):=by omega
    have HZ:=zq (Qh5 HD);rw[<-HX.o,<-HY.o]at HZ;go_wp2_with fail;go_ret
    exact⟨by rw[HZ.o];rfl,aL⟩
   |succ k=>
    have fU:(((k+1:Nat):Int)-1)=(k:Int):=by omega
    rw[fU];clear fU;obtain⟨x,hx⟩:∃x,xs[k]?=F x:=⟨_,aad (by omega)⟩;obtain⟨y,hy⟩:∃y,ys[k]?=F y:=⟨_,aad (by omega)⟩;obtain⟨ao',cap',e,-,-,-,aS⟩:=(HV.o.below aL).2
    cases e
    obtain⟨g,o,rfl,e1⟩:=aS k x hx;obtain⟨SQ,rD,e',-,-,-,dP⟩:=(HU.o.below aL).2
    cases e'
    obtain⟨g2,o2,rfl,e2⟩:=dP k y hy
    have AR:(xs.take n)[k]?=F x:=by rw[abE,if_pos (by omega)];exact hx
    have hyt:(ys.take n)[k]?=F y:=by rw[abE,if_pos (by omega)];exact hy
    have HXT:=zq AR;have HYT:=zq hyt;have dR:(0:Int)<=(k:Int):=aaJ _
    have cB:(k:Int)<(xs.length:Int):=by omega
    have gF:(k:Int)<(ys.length:Int):=by omega
    clear aS dP hx hy AR hyt;by_cases hlt:x<y
    ·have hb1:decide (x<y)=dq:=by simp[hlt]
     have HF:da (bY (val xs) (val ys)= -1):=by show _=_;rw[HX.o,HY.o];exact Hl (Qqy (bq bS _) HXT HYT HD hlt)
     clear hlt;go_wp2_with fail;go_quiet (fail);go_wp2_with fail;go_ret;exact⟨by rw[HF.o];rfl,below_drewN aL.o _⟩
    have hb1:decide (x<y)=cl:=by simp[hlt]
    by_cases lA:y<x
    ·have hb3:decide (y<x)=dq:=by simp[lA]
     have HF:da (bY (val xs) (val ys)=1):=by show _=_;rw[HX.o,HY.o];exact Qkh (Qqy (bq eY _) HYT HXT HD.o.symm lA)
     clear hlt lA;go_wp2_with fail;go_quiet (fail);go_wp2_with fail;go_quiet (fail);go_wp2_with fail;go_ret;exact⟨by rw[HF.o];rfl,below_drewN (below_drewN aL.o _) _⟩
    have hb3:decide (y<x)=cl:=by simp[lA]
    have HF:da (val ((xs.take n).drop k)=val ((ys.take n).drop k)):=by show _=_;rw[cr HXT.o,cr HYT.o,HD.o,show x=y from by omega]
    clear hlt lA;go_wp2_with fail;go_quiet (fail);go_wp2_with fail;go_quiet (fail);go_wp2_with fail
    exact⟨⟨k,by rw[aak];omega,rfl,HF,below_drewN aL _⟩,by simp[intOf]<;>omega⟩
 have agG:((n:Int) !=(m:Int))=dq:=by simp;omega
 by_cases hlt:n<m
 ·have hb1:decide (n<m)=dq:=by simp[hlt]
  have HF:da (bY (val xs) (val ys)= -1):=Hl (Hn bS (by rw[<-HN.o,<-HM.o];exact hlt));clear hlt wO;go_wp2_with fail;go_ret;exact⟨by rw[HF.o];rfl,aaw _ _⟩
 have hb1:decide (n<m)=cl:=by simp[hlt]
 have HF:da (bY (val xs) (val ys)=1):=Qkh (Hn eY (by rw[<-HN.o,<-HM.o];omega));clear hlt wO;go_wp2_with fail;go_ret;exact⟨by rw[HF.o];rfl,aaw _ _⟩
def j8 (L:List Nat)(y k r:Nat)(M:List Nat):Prop:=M.length=L.length/\M.take k=L.take k/\r<y/\val (L.drop k)=val (M.drop k)*y+r
theorem j8.start (L:List Nat)(hy:0<y):j8 L y L.length 0 L:=⟨rfl,rfl,hy,by rw[aaC (aab _)];simp[val]⟩
theorem j8.at (h:j8 L y (k+1) r M)(hx:M[k]?=F x):L[k]?=F x:=by have:=aaE (fun l=>l[k]?) h.2.1;simp only[abE,acJ,if_true]at this;rw[<-this];exact hx
theorem j8.step (h:j8 L y (k+1) r M)(hx:M[k]?=F x):j8 L y k ((r*BB+x) % y) (M.set k ((r*BB+x) / y)):=by
 have J:=h.at hx;obtain⟨E,H,bi,I⟩:=h;have K:k<M.length:=(aaf.1 hx).1;refine⟨by rw[abb,E],?_,abL _ (by omega),?_⟩
 ·rw[Jq _ (aab _)]
  have:=aaE (List.take k) H;rw[acx,acx,aaG (Nat.le_succ k)]at this;exact this
 have e1:(M.set k ((r*BB+x) / y))[k]?=F ((r*BB+x) / y):=by rw[List.getElem?_set_self K]
 rw[cr J,cr e1,Js,I];have:=abP (r*BB+x) y;generalize (r*BB+x) / y=q at*;generalize (r*BB+x) % y=t at*;rw[aay,abd,aaz BB r,aaM,aaz y q]at*;omega
theorem j8.fin (h:j8 L y 0 r M):M.length=L.length/\val M=val L / y/\r=val L % y:=by
 obtain⟨I,_,H,E⟩:=h;rw[aa4,aa4]at E
 have J:0<y:=by omega
 refine⟨I,?_,?_⟩
 ·rw[E,aaz,Nat.mul_add_div J,acL H,aba]
 rw[E,aaz,Nat.mul_add_mod,ab7 H]
def Qp7 (a y m:Nat)(w:ca)(e:du)(w':ca):Prop:=∃v qs,e=dj (ex #[v,A co (a % y:Nat),A G 0])/\Fr w.heap.size w' v qs/\val qs=a / y/\qs.length<=m/\strip qs=qs/\ce w.heap.size w w'
theorem Kd (y:Nat)(hv:Rd w v xs)(hl:xs.length<=549755813888)(ja:0<y)(hy:y<BB):dk db 254 #[v,A co y] w (Qp7 (val xs) y xs.length w):=by
 have HV:=zq hv;obtain⟨ao,cap,rfl,bU,hcm,bm,-⟩:=hv.2
 have hyz:((y:Int)==0)=cl:=by simp;omega
 have HY:=zq hy;have tW:=zq ja;clear hv bm hcm hy ja;go_enter func254,ntmps254;go_wp2_with fail;refine(J9 HV (by omega)).mono ?_;rintro e w1 ⟨rfl,hB,hb⟩;obtain⟨X,hX⟩:=xq (strip xs)
 have vO:X.length<=549755813888:=by have:=Qf xs;rw[hX];omega
 have afC:X.length<=xs.length:=by have:=Qf xs;rw[hX];omega
 rw[<-hX]at hB ⊢;have HX:=zq hX;have HB:=zq hB;have aL:=zq hb;have dS:=zq (j8.start X tW);obtain⟨g,hg⟩:=xq w.heap.size;rw[<-hg]at HB ⊢;have HG:=zq hg;obtain⟨n,hn⟩:=xq X.length;rw[<-hn]at vO afC dS ⊢;have HN:=zq hn;clear hX hB hb hg hn;go_wp2_with fail;go_loopw [8,9] (fun r i wr=> ∃(k rr:Nat) (M:List Nat),k<=n/\i=A G ((k:Int)-1)/\r=A co rr/\j8 X y k rr M/\bh wr g M/\w1.grownBy wr (F g)) (fun _ i _=>(intOf i+1).toNat)
 case atStart=>exact⟨n,0,X,aab _,rfl,rfl,dS,HB,Xy _ _⟩
 case round=>
  obtain⟨k,rr,M,hk,rfl,rfl,hst,hM,hgr⟩:=hrel;have HST:=zq hst;have HM:=zq hM;have bD:=zq hgr
  have cR:M.length=n:=by rw[hst.1,HN.o]
  clear hst hM hgr
  cases k with
  |zero=>
   have wj: ¬((0:Int)<=((0:Nat):Int)-1):=by omega
   have HF:=zq HST.o.fin;have MO:da (ce w.heap.size w wr):=aaF aL bD aL.o.size (fun q hq=>by cases hq;rw[HG.o];exact aab _)
   have HR:da (Rd wr (U (F ⟨g,0,Z⟩) n n) M):=by have h0:=HM.o.whole (by omega);rw[cR]at h0;exact h0
   clear dS HB;go_wp2_with fail;refine(J9 HR (by omega)).mono ?_;rintro e w3 ⟨rfl,oX,hb3⟩;have aV:=zq oX;have qj:da (ce w.heap.size w w3):=MO.o.trans (hb3.mono MO.o.size);have hz:=MO.o.size;clear oX hb3;go_wp2_with fail;go_ret3;have hsM:=Qf M;refine⟨_,strip M,by rw[<-ay xs,<-HX.o,<-HF.o.2.2];rfl,⟨aV.o.whole (by omega),fun q hq=>by cases hq;exact⟨hz,aV.o.lt⟩⟩,?_,by omega,X2 M,qj⟩
   rw[ay,HF.o.2.1,HX.o,ay]
  |succ k=>
   have fU:(((k+1:Nat):Int)-1)=(k:Int):=by omega
   rw[fU];clear fU;obtain⟨x,hx⟩:∃x,M[k]?=F x:=⟨_,aad (by omega)⟩;have fY:=HM.o.2 x (aai hx);have vz:=zq fY;have iL:=HST.o.2.2.1;have ji:=zq iL;have cU:=zq (HST.o.step hx);have e1:=HM.o.cell hx
   have hq:(rr*BB+x) / y<BB:=by rw[abN tW.o];have h2:(rr+1)*BB<=y*BB:=aaS _ iL;rw[aaz BB y];rw[abd,abR]at h2;omega
   obtain⟨q,NZ⟩:=xq ((rr*BB+x) / y);obtain⟨r2,cF⟩:=xq ((rr*BB+x) % y);rw[<-NZ]at hq cU;rw[<-cF]at cU;have HQ:=zq hq;have tS:=zq NZ;have ky:=zq cF;have dR:(0:Int)<=(k:Int):=aaJ _
   have cB:(k:Int)<(n:Int):=by omega
   clear hx fY hq iL NZ cF;go_wp2_with fail;refine(Qwo rr x y vz ji HY).mono ?_;rintro e w3 ⟨rfl,hb3⟩;rw[<-tS.o,<-ky.o];have uU:=zq (HM.o.below hb3 HM.o.lt);have acM:=zq (Pi bD hb3);have HS:=zq (uU.o.set k HQ);obtain⟨z,hz⟩:∃z,M[k]?=F z:=⟨_,aad (by omega)⟩;have e4:=uU.o.cell hz;have e3:=uU.o.frozen k;clear hz hb3 e1;go_wp2_with fail
   have aq:∃(k' rr':Nat) (M':List Nat),k'<=n/\Value.int G ((k:Int)-1)=A G ((k':Int)-1)/\Value.int co r2=A co rr'/\j8 X y k' rr' M'/\bh (w3.setCell ⟨g,k,Z⟩ (A co q)) g M'/\w1.grownBy (w3.setCell ⟨g,k,Z⟩ (A co q)) (F g):=
    ⟨k,r2,M.set k q,by omega,rfl,rfl,cU,HS.o.1,Qi acM HS.o.2⟩
   exact⟨aq,by simp[intOf]<;>omega⟩
def nM (L:List Nat)(S n i c:Nat)(M:List Nat):Prop:=M.length=n/\c<S/\val (M.take i)+BB^i*c=val (L.take i)*S
theorem nM.start (L:List Nat)(hS:0<S)(n:Nat):nM L S n 0 0 (List.replicate n 0):=⟨aaZ,hS,by simp[val]⟩
theorem nM.step {c2:Nat}(h:nM L S n i c M)(hi:i<n)(hx:(L[i]?=F x)\/(L.length<=i/\x=0))(hs:x*S=c2*BB+lo)(hc:c2<S):nM L S n (i+1) c2 (M.set i (lo+c)):=by
 obtain⟨H,J,I⟩:=h;refine⟨by rw[abb,H],hc,?_⟩
 have e1:(M.set i (lo+c)).take (i+1)=M.take i++[lo+c]:=by have:=Rx (l:=M) (o:=0) (i:=i) (lo+c) (by omega);rw[aa4,aa4,aaX]at this;exact this
 have e2:val (L.take (i+1))=val (L.take i)+BB^i*x:=by
  rcases hx with hx|⟨hx,rfl⟩
  ·have E:i<L.length:=(aaf.1 hx).1
   rw[Xt E];have:=aad E;rw[hx]at this;rw[<-aav this]
  rw[aam hx,aam (by omega)];simp
 rw[e1,aY,aak,aaG (by omega),e2,abd,<-I,aaM,hs];rw[abf,aay,aay,aaM,aaz BB c2];omega
theorem nM.fin (h:nM L S n n c M)(hl:L.length<=n)(hv:val L*S<BB^n):val M=val L*S:=by obtain⟨H,I,E⟩:=h;rw[aam (by omega),aam hl]at E;exact(Sz E hv).2
theorem Qvc (hx:x<BB)(hst:s+t=64)(hs:s<64):∃lo c2,x*2^s=c2*BB+lo/\lo<BB/\lo % 2^s=0/\c2<2^s/\IntKind.u64.wrap ((x:Int)*2^s)=(lo:Int)/\(x:Int) / 2^t=(c2:Int)/\(s=0->c2=0):=by
 have E:BB=2^t*2^s:=by rw[<-abM,show t+s=64 from by omega];rfl
 have H:0<2^s:=abC (by omega);have I:0<2^t:=abC (by omega)
 have e:(x:Int)*2^s=((x*2^s:Nat):Int):=by rw[abH,acD];rfl
 have e2:(x:Int) / 2^t=((x / 2^t:Nat):Int):=by rw[ad4,acD];rfl
 have J:x*2^s / BB=x / 2^t:=by rw[E];exact Nat.mul_div_mul_right _ _ H
 have h:=abP (x*2^s) BB;rw[J,aaz]at h;refine⟨x*2^s % BB,x / 2^t,h.symm,abL _ aC,?_,?_,?_,e2,?_⟩
 ·rw[E,Nat.mul_mod_mul_right,Nat.mul_mod_left]
 ·rw[abN I,aaz,<-E];exact hx
 ·rw[e,aaA]
  have:((x*2^s % BB:Nat):Int)=((x*2^s:Nat):Int) % (BB:Nat):=Int.natCast_emod _ _;rw[this];rfl
 rintro rfl
 have:t=64:=by omega
 subst this;exact acL hx
theorem X3 {wr:ca}(h:w1.grownBy wr (F g))(hB:B<=w1.heap.size)(hg:B<=g):ce B w1 wr:=
 ⟨h.os,h.tape,h.output,h.size,fun k hk=>h.block k (by omega) (fun e=>by cases e;omega)⟩
def Qht (V n:Nat)(w:ca)(e:du)(w':ca):Prop:=∃M,e=dj (U (F ⟨w.heap.size,0,Z⟩) n n)/\bh w' w.heap.size M/\M.length=n/\val M=V/\ce w.heap.size w w'
def Qcz (L:List Nat)(S n g:Nat)(w1:ca)(cv i:de)(wr:ca):Prop:=∃(k c:Nat) (M:List Nat),k<=n/\i=A G k/\cv=A co c/\nM L S n k c M/\bh wr g M/\w1.grownBy wr (F g)
theorem Pd (s n:Nat)(hv:Rd w v xs)(hs:s<64)(hn:n<=1099511627776)(hl:xs.length<=n)(WA:val xs*2^s<BB^n):dk db 279 #[v,A co s,A G n] w (Qht (val xs*2^s) n w):=by
 have HV:=zq hv;obtain⟨ao,cap,rfl,bU,hcm,bm,-⟩:=hv.2;have bS:=zq bm;have fA:=X9 n hn;obtain⟨g,hg⟩:=xq w.heap.size;have HB:=(bh.made w n).1;obtain⟨w1,bA⟩:=xq (w.alloc (O (madeCells #[A co 0] n) 101));have aL:=Qq w (O (madeCells #[A co 0] n) 101);rw[<-bA]at aL
 have aK:da (bh w1 g (List.replicate n 0)):=by rw[bA,hg];exact bh.made w n
 obtain⟨t,ht⟩:=xq (64-s)
 have hst:s+t=64:=by omega
 have E1:IntKind.u64.wrap (64-(s:Int))=(t:Int):=by rw[aaA];omega
 have E2:min s 64=s:=by omega
 have E3:min t 64=t:=by omega
 have dS:=zq (nM.start xs (abC (n:=s) (show 0<2 by omega)) n);have uP:=zq WA;have fz:=zq aL;have HG:=zq hg;have jl:=zq bA;have HT:=zq ht;clear hv bm hcm HB aL hg bA ht WA;go_enter func279,ntmps279;go_wp2_with fail;rw[<-jl.o,<-HG.o];go_loopw [8,15] (fun cv i wr=>Qcz xs (2^s) n g w1 cv i wr) (fun _ i _=>n-(intOf i).toNat)
 case atStart=>exact⟨0,0,_,aat _,rfl,rfl,dS,aK,Xy _ _⟩
 case round=>
  obtain⟨k,c,M,hk,rfl,rfl,km,hM,hgr⟩:=hrel;have HST:=zq km;have HM:=zq hM;have bD:=zq hgr;have cR:M.length=n:=km.1;have eN:=zq cR;clear km hM hgr cR;by_cases hlt:k<n
  ·obtain⟨z,hz⟩:∃z,M[k]?=F z:=⟨_,aad (by rw[eN.o];exact hlt)⟩
   have e4:=HM.o.cell hz;have e3:=HM.o.frozen k;have dR:(0:Int)<=(k:Int):=aaJ _
   have cB:(k:Int)<(n:Int):=by omega
   clear hz
   have fin:∀x lo c2,((xs[k]?=F x)\/(xs.length<=k/\x=0))->x*2^s=c2*BB+lo->c2<2^s->lo+c<BB->Qcz xs (2^s) n g w1 (A co (c2:Nat)) (A G ((k:Int)+1)) (wr.setCell ⟨g,k,Z⟩ (A co ((lo+c:Nat):Int))):=fun x lo c2 h1 h2 h3 h4=>by have HS:=HM.o.set k h4;exact⟨k+1,c2,_,by omega,by go_num,rfl,HST.o.step hlt h1 h2 h3,HS.1,Qi bD HS.2⟩
   have sum:∀lo c2 x,lo<BB->lo % 2^s=0->x*2^s=c2*BB+lo->lo+c<BB/\bits BinOp.or IntKind.u64 (lo:Int) (c:Int)=((lo+c:Nat):Int):=fun lo c2 x h1 h2 h3=>by
    have hc:=HST.o.2.1;have wW:0<2^s:=abC (by omega)
    have h5:lo+c<BB:=by
     have hT:BB=2^t*2^s:=by rw[<-abM,show t+s=64 from by omega];rfl
     obtain⟨q,hq⟩:=Nat.dvd_of_mod_eq_zero h2;rw[hT]at h1 ⊢;rw[hq,aaz]at h1 ⊢;have h6:=Nat.lt_of_mul_lt_mul_right h1;have h7:(q+1)*2^s<=2^t*2^s:=aaS _ h6;rw[abd,abR]at h7;omega
    exact⟨h5,Be lo c s h1 h2 hc (by unfold BB at h5;omega)⟩
   by_cases ir:k<xs.length
   ·obtain⟨x,hx⟩:∃x,xs[k]?=F x:=⟨_,aad ir⟩
    obtain⟨ao',cap',e,-,-,-,aS⟩:=(HV.o.below (fz.o.trans (X3 bD fz.o.size (by rw[HG.o];exact aab _)))).2
    cases e
    obtain⟨g2,o2,rfl,e5⟩:=aS k x hx;obtain⟨lo,c2,f1,f2,f3,f4,f5,f6,f7⟩:=Qvc (bS.o x (aai hx)) hst hs;obtain⟨f8,f9⟩:=sum lo c2 x f2 f3 f1;have aQ:=zq (fin x lo c2 (.inl hx) f1 f4 f8);have HF7:=zq f7
    have gF:(k:Int)<(xs.length:Int):=by omega
    obtain⟨sm,hsm⟩:=xq (lo+c);rw[<-hsm]at f9 aQ;clear aS hx f1 f2 f3 f4 f7 f8 fin sum hsm;by_cases hs0:0<s
    ·have uh:decide (0<(s:Int))=dq:=by simp;omega
     go_wp2_with fail
     exact⟨aQ,by simp[intOf]<;>omega⟩
    have YD:s=0:=by omega
    have uh:decide (0<(s:Int))=cl:=by simp;omega
    obtain rfl:=HF7.o YD;clear YD f6;go_wp2_with fail
    exact⟨aQ,by simp[intOf]<;>omega⟩
   have f1:0*2^s=0*BB+0:=by simp
   obtain⟨f8,f9⟩:=sum 0 0 0 aC (Nat.zero_mod _) f1;have aQ:=zq (fin 0 0 0 (.inr ⟨by omega,rfl⟩) f1 (abC (by omega)) f8)
   have f9':bits BinOp.or IntKind.u64 0 (c:Int)=(c:Int):=by rw[aaX]at f9;exact f9
   rw[aaX]at aQ;have f5:IntKind.u64.wrap (0:Int)=0:=rfl
   have gF: ¬((k:Int)<(xs.length:Int)):=by omega
   clear f1 f8 f9 fin sum;by_cases hs0:0<s
   ·have uh:decide (0<(s:Int))=dq:=by simp;omega
    go_wp2_with fail
    exact⟨aQ,by simp[intOf]<;>omega⟩
   have uh:decide (0<(s:Int))=cl:=by simp;omega
   go_wp2_with fail
   exact⟨aQ,by simp[intOf]<;>omega⟩
  obtain rfl:k=n:=by omega
  have HF:=zq (HST.o.fin hl uP);go_wp2_with fail;go_ret;exact⟨M,by rw[<-HG.o];rfl,by rw[<-HG.o];exact HM.o,eN,HF,fz.o.trans (X3 bD fz.o.size (by rw[HG.o];exact aab _))⟩
def Ao (v1 W Q:Nat)(d rr:de):Prop:=∃dn rn:Nat,d=A co dn/\rr=A co rn/\da (dn*v1+rn=W)/\da (Q<=dn)/\da (rn<BB)/\da (dn<BB)
structure CA (v1 W Q dn rn d2 s c:Nat):Prop where
 f1:IntKind.u64.wrap ((dn:Int)-1)=(d2:Int)
 run:∀w:ca,(callFunc 286 #[A co rn,A co v1,A co 0]).run db w=.ok (.value (ex #[A co s,A co c])) w
 lt:d2<dn
 way:(((c:Int) !=0)=dq/\Q=d2)\/(((c:Int) !=0)=cl/\Ao v1 W Q (A co d2) (A co s))
theorem Qki {W u0 v0 Q dn rn:Nat}(hQ:Q=gq (W*BB+u0) (v1*BB+v0))(hv0:v0<BB)(kJ:0<v1)(fR:v1<BB)(hi:dn*v1+rn=W)(hr:rn<BB)(hd:dn<BB)(ht:rn*BB+u0<dn*v0):∃d2 s c,CA v1 W Q dn rn d2 s c:=by
 have T:0<dn:=abr fun h=>by rw[h,acH]at ht;omega
 have H:=Qbl hi ht kJ;rw[<-hQ]at H;obtain⟨s,c,bi,aE,E,I⟩:=Zk rn v1 0 hr fR (aat _)
 have J:(dn-1)*v1+(rn+v1)=W:=by obtain⟨k,rfl⟩:∃k,dn=k+1:=⟨dn-1,by omega⟩;rw[abd,abR]at hi;rw[abW];omega
 refine⟨dn-1,s,c,?_,I,by omega,?_⟩
 ·unfold BB at hd;rw[aaA];omega
 by_cases hc0:c=0
 ·subst hc0
  exact .inr ⟨by simp,dn-1,s,rfl,rfl,by show _=_;rw[abI]at E;rw[show s=rn+v1 from by omega];exact J,H,bi,show dn-1<BB by omega⟩
 refine .inl ⟨by simp;omega,?_⟩
 have K:c=1:=by omega
 rw[K,abZ]at E;rw[hQ];exact Qkr J (by omega) hv0 (by omega) (by rw[<-hQ];exact H) kJ
theorem Qqr {W u0 v0 Q dn rn hi:Nat}(hQ:Q=gq (W*BB+u0) (v1*BB+v0))(xk:u0<BB)(hv0:v0<BB)(kJ:0<v1)(fR:v1<BB)(hI:dn*v1+rn=W)(hg:Q<=dn)(hr:rn<BB)(hd:dn<BB)
  (fW:lo<BB) (hp:hi*BB+lo=dn*v0):
  (decide (hi<rn)=dq/\Q=dn)\/(decide (hi<rn)=cl/\((hi:Int)==(rn:Int))=dq/\decide (lo<=u0)=dq/\Q=dn)\/
  (decide (hi<rn)=cl/\(((hi:Int)==(rn:Int))=cl\/(((hi:Int)==(rn:Int))=dq/\decide (lo<=u0)=cl))/\ ∃d2 s c,CA v1 W Q dn rn d2 s c):=by
 by_cases h1:hi<rn
 ·refine .inl ⟨by simp[h1],?_⟩
  rw[hQ];refine Bp hI hd ?_ (by rw[<-hQ];exact hg) kJ;rw[<-hp];have:(hi+1)*BB<=rn*BB:=aaS _ h1;rw[abd,abR]at this;omega
 by_cases h2:hi=rn
 ·subst h2
  by_cases h3:lo<=u0
  ·refine .inr (.inl ⟨by simp,by simp,by simp[h3],?_⟩)
   rw[hQ];exact Bp hI hd (by rw[<-hp];omega) (by rw[<-hQ];exact hg) kJ
  exact .inr (.inr ⟨by simp,.inr ⟨by simp,by simp[h3]⟩,Qki hQ hv0 kJ fR hI hr hd (by rw[<-hp];omega)⟩)
 refine .inr (.inr ⟨by simp;omega,.inl (by simp;omega),Qki hQ hv0 kJ fR hI hr hd ?_⟩);rw[<-hp];have:(rn+1)*BB<=hi*BB:=aaS _ (by omega);rw[abd,abR]at this;omega
def Ei (q:Nat)(w:ca)(e:du)(w':ca):Prop:=e=dj (A co q)/\ ∃k,w'=w.drewN k
theorem Qw4 (u2 u1 u0 v1 v0:Nat)(w:ca)(YO:u2<=v1)(AL:u1<BB)(xk:u0<BB)(kJ:0<v1)(fR:v1<BB)(hv0:v0<BB):dk db 280 #[A co u2,A co u1,A co u0,A co v1,A co v0] w (Ei (gq ((u2*BB+u1)*BB+u0) (v1*BB+v0)) w):=by
 obtain⟨W,hW⟩:=xq (u2*BB+u1);rw[<-hW];obtain⟨Q,hQ⟩:=xq (gq (W*BB+u0) (v1*BB+v0));rw[<-hQ];have HQ:=zq hQ;have HW:=zq hW;have oz:=zq AL;have RQ:=zq xk;have p8:=zq kJ;have Ig:=zq fR;have vp:=zq hv0;by_cases wj:v1<=u2
 ·obtain⟨s,c,hs,hc,AJ,hrun⟩:=Zk u1 v1 0 AL fR (aat _)
  have hrun':∀w:ca,(callFunc 286 #[A co u1,A co v1,A co 0]).run db w=.ok (.value (ex #[A co s,A co c])) w:=hrun
  have afZ:decide (v1<=u2)=dq:=by simp[wj]
  have he:u2=v1:=by omega
  have hI:(BB-1)*v1+(u1+v1)=W:=by
   rw[hW,he]
   have:v1*BB=(BB-1)*v1+v1:=by
    have h1:BB=BB-1+1:=by have:=aC;omega
    conv=>lhs;rw[h1,aay,abZ,aaz]
   omega
  have gG:Q<=BB-1:=by rw[hQ];exact Qdk
  have eM:da (∃k,w=w.drewN k):=⟨0,rfl⟩;by_cases hc0:c=0
  ·have hcb:((c:Int) !=0)=cl:=by simp[hc0]
   have HST:da (Ao v1 W Q (A co 18446744073709551615) (A co s)):=by
    refine⟨BB-1,s,rfl,rfl,?_,gG,hs,?_⟩
    ·show _=_
     rw[hc0,abI]at AJ;rw[show s=u1+v1 from by omega];exact hI
    show _<_;have:=aC;omega
   clear hQ hW AL xk kJ fR hv0 YO wj hs hc AJ hrun hc0 he hI gG;go_enter ge,fi;go_wp2_with fail;go_step3;go_wp2_with fail;go_step3;go_wp2_with fail;go_loopw [11,12] (fun d rr wr=>Ao v1 W Q d rr/\wr=w) (fun d _ _=>(intOf d).toNat)
   case atStart=>exact⟨HST,rfl⟩
   clear HST
   case round=>
    obtain⟨⟨dn,rn,rfl,rfl,cB,hg1,AG,jF⟩,rfl⟩:=hrel;obtain⟨hi,lo,fW,hp,hmul⟩:=Nz dn v0 jF vp;have HC:=zq (Qqr HQ RQ vp p8 Ig cB hg1 AG jF fW hp);have fZ:=zq hmul;clear fW hp hmul;rcases HC.o with ⟨t1,hq⟩|⟨t1,t2,t3,hq⟩|⟨t1,t2|⟨t2,t3⟩,d2,s2,c2,f1,eI,hlt,⟨t4,hq⟩|⟨t4,hrel⟩⟩
    ·have cQ:=zq hq
     clear hq HC;go_wp2_with fail;refine(fZ.o _).mono ?_;rintro e w9 ⟨rfl,rfl⟩;go_wp2_with fail;rw[ada];go_ret;exact⟨by rw[cQ.o];rfl,eM⟩
    ·have cQ:=zq hq
     clear hq HC;go_wp2_with fail;refine(fZ.o _).mono ?_;rintro e w9 ⟨rfl,rfl⟩;go_wp2_with fail;rw[ada];go_ret;exact⟨by rw[cQ.o];rfl,eM⟩
    ·have cQ:=zq hq
     clear hq HC hlt;go_wp2_with fail;refine(fZ.o _).mono ?_;rintro e w9 ⟨rfl,rfl⟩;go_wp2_with fail;rw[ada];go_ret;exact⟨by rw[cQ.o];rfl,eM⟩
    ·have dW:=zq hrel
     clear hrel HC;go_wp2_with fail;refine(fZ.o _).mono ?_;rintro e w9 ⟨rfl,rfl⟩;go_wp2_with fail
     first|exact⟨⟨dW,trivial⟩,by simp[intOf]<;>omega⟩|exact⟨⟨dW,rfl⟩,by simp[intOf]<;>omega⟩
    ·have cQ:=zq hq
     clear hq HC hlt;go_wp2_with fail;refine(fZ.o _).mono ?_;rintro e w9 ⟨rfl,rfl⟩;go_wp2_with fail;rw[ada];go_ret;exact⟨by rw[cQ.o];rfl,eM⟩
    have dW:=zq hrel;clear hrel HC;go_wp2_with fail;refine(fZ.o _).mono ?_;rintro e w9 ⟨rfl,rfl⟩;go_wp2_with fail
    first|exact⟨⟨dW,trivial⟩,by simp[intOf]<;>omega⟩|exact⟨⟨dW,rfl⟩,by simp[intOf]<;>omega⟩
  have hcb:((c:Int) !=0)=dq:=by simp;omega
  have cQ:da (Q=18446744073709551615):=by
   show _=_
   have hc1:c=1:=by omega
   rw[hc1,abZ]at AJ;have h9:gq (W*BB+u0) (v1*BB+v0)=BB-1:=Qkr hI (Nat.sub_lt aC Nat.one_pos) hv0 (by omega) (by rw[<-hQ];exact gG) kJ;rw[hQ,h9];rfl
  clear hQ hW AL xk kJ fR hv0 YO wj hs hc AJ hrun hc0 he hI gG;go_enter ge,fi;go_wp2_with fail;go_step3;go_wp2_with fail;rw[ada];go_ret;exact⟨by rw[cQ.o];rfl,eM⟩
 have dJ:u2<v1:=by omega
 have ac1:=zq dJ
 have afZ:decide (v1<=u2)=cl:=by simp;omega
 have hWv:W<v1*BB:=by rw[hW];have:(u2+1)*BB<=v1*BB:=aaS _ dJ;rw[abd,abR]at this;omega
 have HST:da (Ao v1 W Q (A co (W / v1:Nat)) (A co (W % v1:Nat))):=by
  refine⟨W / v1,W % v1,rfl,rfl,?_,?_,ab1 (abL _ kJ) fR,(abN kJ).2 (by rw[aaz];exact hWv)⟩
  ·show _=_
   rw[aaz];exact abP W v1
  show _<=_;rw[hQ];exact Qge xk kJ
 obtain⟨q,hq⟩:=xq (W / v1);obtain⟨r,hr⟩:=xq (W % v1);rw[<-hq,<-hr]at HST;have tS:=zq hq;have ky:=zq hr;clear hQ hW AL xk kJ fR hv0 YO wj dJ hWv hq hr;go_enter ge,fi;go_wp2_with fail;go_step3;go_wp2_with fail;refine(Qkd u2 u1 v1 _ oz ac1 Ig).mono ?_;rintro e w1 ⟨rfl,hb⟩;rw[<-HW.o,<-tS.o,<-ky.o];have eM:=zq hb;clear hb;go_wp2_with fail;go_step3;go_wp2_with fail;go_loopw [11,12] (fun d rr wr=>Ao v1 W Q d rr/\wr=w1) (fun d _ _=>(intOf d).toNat)
 case atStart=>exact⟨HST,rfl⟩
 clear HST
 case round=>
  obtain⟨⟨dn,rn,rfl,rfl,cB,hg1,AG,jF⟩,rfl⟩:=hrel;obtain⟨hi,lo,fW,hp,hmul⟩:=Nz dn v0 jF vp;have HC:=zq (Qqr HQ RQ vp p8 Ig cB hg1 AG jF fW hp);have fZ:=zq hmul;clear fW hp hmul;rcases HC.o with ⟨t1,hq⟩|⟨t1,t2,t3,hq⟩|⟨t1,t2|⟨t2,t3⟩,d2,s2,c2,f1,eI,hlt,⟨t4,hq⟩|⟨t4,hrel⟩⟩
  ·have cQ:=zq hq
   clear hq HC;go_wp2_with fail;refine(fZ.o _).mono ?_;rintro e w9 ⟨rfl,rfl⟩;go_wp2_with fail;rw[ada];go_ret;exact⟨by rw[cQ.o];rfl,eM⟩
  ·have cQ:=zq hq
   clear hq HC;go_wp2_with fail;refine(fZ.o _).mono ?_;rintro e w9 ⟨rfl,rfl⟩;go_wp2_with fail;rw[ada];go_ret;exact⟨by rw[cQ.o];rfl,eM⟩
  ·have cQ:=zq hq
   clear hq HC hlt;go_wp2_with fail;refine(fZ.o _).mono ?_;rintro e w9 ⟨rfl,rfl⟩;go_wp2_with fail;rw[ada];go_ret;exact⟨by rw[cQ.o];rfl,eM⟩
  ·have dW:=zq hrel
   clear hrel HC;go_wp2_with fail;refine(fZ.o _).mono ?_;rintro e w9 ⟨rfl,rfl⟩;go_wp2_with fail
   first|exact⟨⟨dW,trivial⟩,by simp[intOf]<;>omega⟩|exact⟨⟨dW,rfl⟩,by simp[intOf]<;>omega⟩
  ·have cQ:=zq hq
   clear hq HC hlt;go_wp2_with fail;refine(fZ.o _).mono ?_;rintro e w9 ⟨rfl,rfl⟩;go_wp2_with fail;rw[ada];go_ret;exact⟨by rw[cQ.o];rfl,eM⟩
  have dW:=zq hrel;clear hrel HC;go_wp2_with fail;refine(fZ.o _).mono ?_;rintro e w9 ⟨rfl,rfl⟩;go_wp2_with fail
  first|exact⟨⟨dW,trivial⟩,by simp[intOf]<;>omega⟩|exact⟨⟨dW,rfl⟩,by simp[intOf]<;>omega⟩
def jx (L V:List Nat)(d o i carry cz:Nat)(M:List Nat):Prop:=
 M.length=L.length/\M.take o=L.take o/\M.drop (o+i)=L.drop (o+i)/\val ((L.drop o).take i)+BB^i*(carry+cz)=val ((M.drop o).take i)+d*val (V.take i)/\carry<BB/\cz<=1
theorem jx.start (L V:List Nat)(d o:Nat):jx L V d o 0 0 0 L:=⟨rfl,rfl,rfl,by simp[val],aC,aat _⟩
theorem jx.at {o:Nat}(h:jx L V d o i carry cz M)(hz:M[o+i]?=F z):L[o+i]?=F z:=by have:=aaE (fun l=>l[0]?) h.2.2.1;simp only[abg,aba]at this;rw[<-this];exact hz
theorem Qxq {o:Nat}(h:L[o+i]?=F z):val ((L.drop o).take (i+1))=val ((L.drop o).take i)+BB^i*z:=by
 have I:o+i<L.length:=(aaf.1 h).1
 have E:i<(L.drop o).length:=by rw[aan];omega
 rw[Xt E];have H:=aad E;rw[abg,h]at H;rw[<-aav H]
theorem jx.set {o:Nat}(h:jx L V d o i carry cz M)(hz:M[o+i]?=F z):(M.set (o+i) s).length=L.length/\(M.set (o+i) s).take o=L.take o/\(M.set (o+i) s).drop (o+(i+1))=L.drop (o+(i+1))/\val (((M.set (o+i) s).drop o).take (i+1))=val ((M.drop o).take i)+BB^i*s:=by
 obtain⟨H,I,J,-⟩:=h;have E:o+i<M.length:=(aaf.1 hz).1;refine⟨by rw[abb,H],by rw[Jq _ (Nat.le_add_right _ _),I],?_,?_⟩
 ·rw[<-abz,Js]
  have:=aaE (List.drop 1) J;rw[abB,abB]at this;exact this
 rw[Rx s E,aY,aak,aan,aaG (by omega)]
theorem jx.step {o v hi yw eo:Nat}(h:jx L V d o i carry cz M)(hd:d<BB)(l9:v<BB)(hz:M[o+i]?=F z)(hv:V[i]?=F v)
  (hm:hi*BB+lo=d*v) (ha:lo+carry=yw+c*BB) (hs:z+eo*BB=s+yw+cz) (hl:eo<=1):jx L V d o (i+1) (hi+c) eo (M.set (o+i) s):=by
 have J:=h.at hz;obtain⟨e1,e2,e3,e4⟩:=h.set (s:=s) hz;obtain⟨-,-,-,H,I,K⟩:=h;refine⟨e1,e2,e3,?_,Qvu hd l9 I hm ha,hl⟩;have E:i<V.length:=(aaf.1 hv).1
 have e5:val (V.take (i+1))=val (V.take i)+BB^i*v:=by rw[Xt E];have:=aad E;rw[hv]at this;rw[<-aav this]
 rw[e4,Qxq J,e5,abf];have:=jO (P:=BB^i) hm ha hs H;exact this
theorem jx.fin {o eo:Nat}(h:jx L V d o n carry cz M)(hn:V.length=n)(hz:M[o+n]?=F z)(hs:z+eo*BB=s+carry+cz):(M.set (o+n) s).length=L.length/\(M.set (o+n) s).take o=L.take o/\(M.set (o+n) s).drop (o+(n+1))=L.drop (o+(n+1))/\val ((L.drop o).take (n+1))+BB^(n+1)*eo=val (((M.set (o+n) s).drop o).take (n+1))+d*val V:=by
 have H:=h.at hz;obtain⟨e1,e2,e3,e4⟩:=h.set (s:=s) hz;obtain⟨-,-,-,E,I,J⟩:=h;rw[aam (l:=V) (by omega)]at E;refine⟨e1,e2,e3,?_⟩;rw[e4,Qxq H,abf,aaM,abz,<-aay,aaz BB eo,hs]
 have e6:BB^n*(s+carry+cz)=BB^n*s+BB^n*(carry+cz):=by rw[<-aay,abz]
 rw[e6];omega
theorem Bt (x:Nat):((x:Int) !=0)=decide (x≠0):=by rw[abj];simp[Int.natCast_eq_zero]
def A9 (L V:List Nat)(d o n g:Nat)(w:ca)(e:du)(w':ca):Prop:=∃(cz:Nat) (M:List Nat),e=dj (c9 (decide (cz≠0)))/\cz<=1/\bh w' g M/\M.length=L.length/\M.take o=L.take o/\M.drop (o+(n+1))=L.drop (o+(n+1))/\val ((L.drop o).take (n+1))+BB^(n+1)*cz=val ((M.drop o).take (n+1))+d*val V/\w.grownBy w' (F g)
def Qkk (L V:List Nat)(d o n g:Nat)(w:ca)(cv lv i:de)(wr:ca):Prop:=∃(k c l:Nat) (M:List Nat),k<=n/\i=A G k/\cv=A co c/\lv=A co l/\jx L V d o k c l M/\bh wr g M/\w.grownBy wr (F g)
theorem Qhg (o cap d:Nat)(hL:bh w g L)(hn:o+V.length+1<=L.length)(bU:V.length+1<=cap)(hc:L.length<=1099511627776)(hv:Rd w v V)(l9:v.ownBlock≠F g)(hd:d<BB):dk db 281 #[U (F ⟨g,o,Z⟩) (V.length+1) cap,v,A co d] w (A9 L V d o V.length g w):=by
 have HV:=zq hv;obtain⟨ao,aU,rfl,-,hcm,bm,-⟩:=hv.2;have bS:=zq bm;have HB:=zq hL;have dS:=zq (jx.start L V d o);have HD:=zq hd;have y8:=zq l9;obtain⟨n,bu⟩:=xq V.length;rw[<-bu]at hn bU ⊢;have bw:=zq bu
 have z6:n<=9223372036854775806:=by omega
 clear hv bm hcm hL hd l9 bu;go_enter func281,ntmps281;go_wp2_with fail;go_loopw [7,8,16] (fun cv lv i wr=>Qkk L V d o n g w cv lv i wr) (fun _ _ i _=>n-(intOf i).toNat)
 case atStart=>exact⟨0,0,0,L,aat _,rfl,rfl,rfl,dS,HB,Xy _ _⟩
 clear dS HB
 case round=>
  obtain⟨k,c,l,M,hk,rfl,rfl,rfl,hst,hM,hgr⟩:=hrel;have HST:=zq hst;have HM:=zq hM;have bD:=zq hgr;have cR:M.length=L.length:=hst.1;have eN:=zq cR;have hcb:=hst.2.2.2.2.1;have gV:=hst.2.2.2.2.2;clear hst hM hgr;obtain⟨z,hz⟩:∃z,M[o+k]?=F z:=⟨_,aad (by omega)⟩;have hzb:=HM.o.2 z (aai hz);have HZ:=zq hz;by_cases hlt:k<n
  ·obtain⟨y,hy⟩:∃y,V[k]?=F y:=⟨_,aad (by have:=bw.o;omega)⟩
   have rV:=bS.o y (aai hy);obtain⟨ao',cap',e,-,-,-,aS⟩:=(HV.o.kept bD (fun q hq=>by cases hq;exact y8.o)).2
   cases e
   obtain⟨g2,o2,rfl,e2⟩:=aS k y hy;obtain⟨hi,lo,fW,hp,hmul⟩:=Nz d y HD rV;obtain⟨yw,c2,XC,hc2,ha,xd⟩:=Zk lo c 0 fW hcb (aat _);obtain⟨s,l2,hs,hl2,hsu,eI⟩:=Nu z yw l hzb XC gV;rw[aba,aaz]at ha;rw[aaz]at hsu;have HN:=zq (HST.o.step HD rV hz hy hp ha.symm hsu.symm hl2);have I5:hi+c2<BB:=HN.o.2.2.2.2.1;obtain⟨c3,hc3⟩:=xq (hi+c2);rw[<-hc3]at HN I5
   have bA:IntKind.u64.wrap ((hi:Int)+(c2:Int))=(c3:Int):=by unfold BB at I5;rw[aaA];omega
   have HS:=zq (HM.o.set (o+k) hs);have e1:=HM.o.cell hz;have e3:=HM.o.frozen (o+k);have fZ:=zq hmul;have QU:da (∀w:ca,(callFunc 286 #[A co lo,A co c,A co 0]).run db w=.ok (.value (ex #[A co yw,A co c2])) w):=xd;have QV:=zq eI;have dR:(0:Int)<=(k:Int):=aaJ _
   have cB:(k:Int)<(n:Int)+1:=by omega
   have gF:(k:Int)<(V.length:Int):=by have:=bw.o;omega
   have jl:=zq bA;clear aS hy hz rV hzb hmul xd eI hp ha hsu hc3 bA fW XC hs I5 hcb
   have kK:(V.length:Int)=(n:Int):=by have:=bw.o;omega
   go_wp2_with fail;refine(fZ.o _).mono ?_;rintro e w' ⟨rfl,rfl⟩;have xd:=QU.o;have eI:=QV.o;have bA:=jl.o;go_wp2_with fail;have aq:Qkk L V d o n g w (A co c3) (A co l2) (A G ((k:Int)+1)) (wr.setCell ⟨g,o+k,Z⟩ (A co s)):=⟨k+1,c3,l2,_,by omega,by go_num,rfl,rfl,HN,HS.o.1,Qi bD HS.o.2⟩
   exact⟨aq,by simp[intOf]<;>omega⟩
  obtain rfl:k=n:=by omega
  obtain⟨s,l2,hs,hl2,hsu,eI⟩:=Nu z c l hzb hcb gV;rw[aaz]at hsu;have HF:=zq (HST.o.fin bw.o.symm hz hsu.symm);have HS:=zq (HM.o.set (o+k) hs);have e1:=HM.o.cell hz;have e3:=HM.o.frozen (o+k);have dR:(0:Int)<=(k:Int):=aaJ _
  have cB:(k:Int)<(k:Int)+1:=by omega
  have kK:(V.length:Int)=(k:Int):=by have:=bw.o;omega
  have uL:da (∀b:Bool,b=decide (l2≠0)->A9 L V d o k g w (dj (c9 b)) (wr.setCell ⟨g,o+k,Z⟩ (A co s))):=by rintro b rfl;exact⟨l2,_,rfl,hl2,HS.o.1,HF.o.1,HF.o.2.1,HF.o.2.2.1,HF.o.2.2.2,Qi bD HS.o.2⟩
  clear hz hzb hs hsu hcb;go_wp2_with fail;go_ret;exact uL.o _ (Bt l2)
def Qpn (L V:List Nat)(o n g:Nat)(w:ca)(e:du)(w':ca):Prop:=∃(c:Nat) (M:List Nat),e=dj (ex #[])/\bh w' g M/\M.length=L.length/\M.take o=L.take o/\M.drop (o+(n+1))=L.drop (o+(n+1))/\val ((M.drop o).take (n+1))+BB^(n+1)*c=val ((L.drop o).take (n+1))+val V/\w.grownBy w' (F g)
def Qf6 (L V:List Nat)(o n g:Nat)(w:ca)(cv i:de)(wr:ca):Prop:=∃(k c:Nat) (M:List Nat),k<=n/\i=A G k/\cv=A co c/\c<=1/\Je L V o k c M/\bh wr g M/\w.grownBy wr (F g)
theorem Qgi (o cap:Nat)(hL:bh w g L)(hn:o+V.length+1<=L.length)(bU:V.length+1<=cap)(hc:L.length<=1099511627776)(hv:Rd w v V)(l9:v.ownBlock≠F g):dk db 282 #[U (F ⟨g,o,Z⟩) (V.length+1) cap,v] w (Qpn L V o V.length g w):=by
 have HV:=zq hv;obtain⟨ao,aU,rfl,-,hcm,bm,-⟩:=hv.2;have bS:=zq bm;have HB:=zq hL;have dS:=zq (Je.start L V o);have y8:=zq l9;obtain⟨n,bu⟩:=xq V.length;rw[<-bu]at hn bU ⊢;have bw:=zq bu
 have z6:n<=9223372036854775806:=by omega
 clear hv bm hcm hL l9 bu;go_enter func282,ntmps282;go_wp2_with fail;go_loopw [4,8] (fun cv i wr=>Qf6 L V o n g w cv i wr) (fun _ i _=>n-(intOf i).toNat)
 case atStart=>exact⟨0,0,L,aat _,rfl,rfl,aat _,dS,HB,Xy _ _⟩
 clear dS HB
 case round=>
  obtain⟨k,c,M,hk,rfl,rfl,hcc,hst,hM,hgr⟩:=hrel;have HST:=zq hst;have HM:=zq hM;have bD:=zq hgr;have cR:M.length=L.length:=hst.1;have eN:=zq cR;clear hst hM hgr;obtain⟨z,hz⟩:∃z,M[o+k]?=F z:=⟨_,aad (by omega)⟩;have hzb:=HM.o.2 z (aai hz);by_cases hlt:k<n
  ·obtain⟨y,rW⟩:∃y,V[k]?=F y:=⟨_,aad (by have:=bw.o;omega)⟩
   obtain⟨s,c',hs1,hs2,hs3,hrun⟩:=Zk z y c hzb (bS.o y (aai rW)) hcc;obtain⟨ao',cap',e,-,-,-,aS⟩:=(HV.o.kept bD (fun q hq=>by cases hq;exact y8.o)).2
   cases e
   obtain⟨g2,o2,rfl,e2⟩:=aS k y rW;have e1:=HM.o.cell hz;have e3:=HM.o.frozen (o+k);have HN:=zq (HST.o.step hz (.inl rW) hs3);have HS:=zq (bh.set (w:=wr.drewN 1) HM (o+k) hs1);have dR:(0:Int)<=(k:Int):=aaJ _
   have cB:(k:Int)<(n:Int)+1:=by omega
   have gF:(k:Int)<(V.length:Int):=by have:=bw.o;omega
   have kK:(V.length:Int)=(n:Int):=by have:=bw.o;omega
   clear rW hz aS hs3 hzb cR;go_wp2_with fail;go_region_law (fail)
   all_goals
    go_wp2_with fail
    have aq:Qf6 L V o n g w (A co c') (A G ((k:Int)+1)) ((wr.drewN 1).setCell ⟨g,o+k,Z⟩ (A co s)):=
     ⟨k+1,c',M.set (o+k) s,by omega,by go_num,rfl,hs2,HN,HS.o.1,Qi (Qi bD (Jp wr 1 _)) HS.o.2⟩
    exact⟨aq,by simp[intOf]<;>omega⟩
  obtain rfl:k=n:=by omega
  obtain⟨s,hs⟩:=xq ((z+c) % BB)
  have uh:s<BB:=by rw[hs];exact abL _ aC
  have hs3:s+BB*((z+c) / BB)=z+0+c:=by rw[hs,aba];exact Nat.mod_add_div _ _
  have HN:=zq (HST.o.step (y:=0) hz (.inr ⟨by have:=bw.o;omega,rfl⟩) hs3)
  have bA:IntKind.u64.wrap ((z:Int)+(c:Int))=(s:Int):=by unfold BB at hs;rw[aaA];omega
  have HS:=zq (HM.o.set (o+k) uh);have e1:=HM.o.cell hz;have e3:=HM.o.frozen (o+k);have dR:(0:Int)<=(k:Int):=aaJ _
  have cB:(k:Int)<(k:Int)+1:=by omega
  have kK:(V.length:Int)=(k:Int):=by have:=bw.o;omega
  clear hz hzb hs uh hs3 cR;go_wp2_with fail;go_end0;have h4:=HN.o.2.2.2;rw[aam (l:=V) (by have:=bw.o;omega)]at h4;exact⟨(z+c) / BB,_,rfl,HS.o.1,HN.o.1,HN.o.2.1,HN.o.2.2.1,h4,Qi bD HS.o.2⟩
def jN (L:List Nat)(s t i:Nat):Nat:=L.getD i 0 / 2^s+L.getD (i+1) 0*2^t % BB
theorem Qfl (hL:ok L)(hst:s+t=64):jN L s t i<BB/\L.getD i 0 / 2^s<2^t/\(L.getD (i+1) 0*2^t % BB) % 2^t=0:=by
 have E:BB=2^t*2^s:=by rw[<-abM,show t+s=64 from by omega];rfl
 have J:0<2^s:=abC (by omega);have a0:0<2^t:=abC (by omega)
 have am:L.getD i 0<BB:=by
  rw[abc]
  cases h:L[i]? with
  |none=>exact aC
  |some x=>exact hL x (aai h)
 have bi:L.getD i 0 / 2^s<2^t:=by rw[abN J,<-E];exact am
 have H:(L.getD (i+1) 0*2^t % BB) % 2^t=0:=by rw[E,aaz (2^t) (2^s),Nat.mul_mod_mul_right,Nat.mul_mod_left]
 refine⟨?_,bi,H⟩;have I:L.getD (i+1) 0*2^t % BB<BB:=abL _ aC;unfold jN;obtain⟨q,K⟩:=Nat.dvd_of_mod_eq_zero H;rw[K,E]at I;rw[K,E];have T:=Nat.lt_of_mul_lt_mul_left I;have aE:2^t*(q+1)<=2^t*2^s:=aaT _ T;rw[aay,abZ]at aE;omega
theorem Qhv (hst:s+t=64):y*2^t % BB=2^t*(y % 2^s):=by
 have h:BB=2^t*2^s:=by rw[<-abM,show t+s=64 from by omega];rfl
 rw[h,aaz y,Nat.mul_mod_mul_left]
theorem Qfr (hst:s+t=64):∀(L M:List Nat),M.length=L.length->(∀i,i<L.length->M[i]?=F (jN L s t i))->2^s*val M+L.getD 0 0 % 2^s=val L:=by
 have K:BB=2^s*2^t:=by rw[<-abM,hst];rfl
 intro L
 induction L with
 |nil=>intro M h _;rw[aau h];simp[val]
 |cons x L ih=>
  intro M h I
  cases M with
  |nil=>simp at h
  |cons m M=>
   have H:=ih M (by simpa using h) (fun i hi=>by
    have:=I (i+1) (by simpa using hi)
    simpa [jN] using this)
   have E:=I 0 (by simp);simp only[ad1,jN,List.getD_cons_zero,Option.some.injEq,aaX,List.getD_cons_succ]at E;rw[Qhv hst]at E;show 2^s*(m+BB*val M)+x % 2^s=x+BB*val L;have J:=abP x (2^s);rw[<-H,E];generalize x / 2^s=a at*;generalize x % 2^s=b at*;generalize L.getD 0 0 % 2^s=c at*;rw[<-J,aay,aay,aay,<-aaM (2^s) (2^t) c,<-K,abO BB (2^s) (val M)];omega
theorem Qfs (hst:s+t=64)(hl:M.length=L.length)(hM:∀i,i<L.length->M[i]?=F (jN L s t i)):val M=val L / 2^s:=by have E:0<2^s:=abC (by omega);have h:=Qfr hst L M hl hM;have H:=abL (L.getD 0 0) E;rw[<-h,Nat.mul_add_div E,acL H,aba]
theorem Qml (x y i:Nat)(hx:x<18446744073709551616)(hd:x % 2^i=0)(hy:y<2^i)(mf:y<18446744073709551616):bits BinOp.or IntKind.u64 (y:Int) (x:Int)=((y+x:Nat):Int):=by have h:=Be x y i hx hd hy mf;rw[bits_or_u64_nat x y hx mf,Nat.or_comm,<-bits_or_u64_nat y x mf hx]at h;rw[h,Nat.add_comm]
def Qp0 (L:List Nat)(s t n g:Nat)(w1:ca)(i:de)(wr:ca):Prop:=∃(k:Nat) (M:List Nat),k<=n/\i=A G k/\M.length=n/\(∀i,i<k->M[i]?=F (jN L s t i))/\bh wr g M/\w1.grownBy wr (F g)
theorem Qx9 {f:Nat->Nat}(h:∀i,i<k->M[i]?=F (f i))(hk:k<M.length)(hx:x=f k):∀i,i<k+1->(M.set k x)[i]?=F (f i):=by
 intro i E;by_cases e:i=k
 ·subst e;rw[List.getElem?_set_self hk,hx]
 rw[List.getElem?_set_ne (by omega)];exact h i (by omega)
def Qh0 (V m:Nat)(w:ca)(e:du)(w':ca):Prop:=∃v xs,e=dj (ex #[v,A G 0])/\Fr w.heap.size w' v xs/\val xs=V/\xs.length<=m/\strip xs=xs/\ce w.heap.size w w'
theorem Qfn (s:Nat)(hv:Rd w v xs)(hs:s<64)(hl:xs.length<=1099511627776):dk db 283 #[v,A G s] w (Qh0 (val xs / 2^s) xs.length w):=by
 have HV:=zq hv;obtain⟨ao,cap,rfl,bU,hcm,bm,-⟩:=hv.2;have bS:=zq bm;obtain⟨X,hX⟩:=xq (strip xs)
 have hXx:∀(i x:Nat),X[i]?=F x->xs[i]?=F x:=by
  intro i x h;rw[hX,(Xj xs).1,abE]at h;split at h
  ·exact h
  cases h
 obtain⟨n,hn⟩:=xq X.length
 have kH:n<=xs.length:=by rw[hn,hX];exact Qf xs
 have hvX:val X=val xs:=by rw[hX,ay]
 have XU:ok X:=by rw[hX];exact bJ bm
 obtain⟨t,ht⟩:=xq (64-s)
 have hst:s+t=64:=by omega
 have E0:(s:Int) / 64=0:=by omega
 have Oa:decide ((s:Int)<0)=cl:=by simp
 have E0b:(s:Int) % 64=(s:Int):=by omega
 have E1:IntKind.u64.wrap (64-(s:Int))=(t:Int):=by rw[aaA];omega
 have E1b:IntKind.u64.wrap (s:Int)=(s:Int):=Vl (by omega)
 have E2:min s 64=s:=by omega
 have E3:min t 64=t:=by omega
 have HX:=zq hX;have HN:=zq hn;have vt:=zq hvX;have QG:=zq XU;have HXX:=zq hXx
 have I4:cap<=9223372036854775807:=by unfold maxLen at hcm;omega
 clear hv bm hcm hX hn hvX XU hXx ht;by_cases h0:n=0
 ·have hv0:val xs / 2^s=0:=by
   have hX0:X=[]:=aau (by rw[<-HN.o];exact h0);rw[<-vt.o,hX0];simp[val]
  have vp:=zq hv0;subst h0;clear hv0;go_enter iS,io;go_wp2_with fail;refine(X8 HV).mono ?_;rintro e w' ⟨rfl,rfl⟩;rw[<-HX.o,<-HN.o];go_wp2_with fail;go_ret2;exact⟨_,[],rfl,⟨Rd.nil w,fun k hk=>by cases hk⟩,by rw[vp.o];rfl,aat _,rfl,aaw _ _⟩
 have jq:1<=n:=by omega
 have fA:=X9 n (by omega);obtain⟨g,hg⟩:=xq w.heap.size;obtain⟨w1,bA⟩:=xq (w.alloc (O (madeCells #[A co 0] n) 101))
 have aL:da (ce w.heap.size w w1):=by rw[bA];exact Qq w _
 have aK:da (bh w1 g (List.replicate n 0)):=by rw[bA,hg];exact bh.made w n
 have HG:=zq hg;have jl:=zq bA;clear hg bA;go_enter iS,io;go_wp2_with fail;refine(X8 HV).mono ?_;rintro e w' ⟨rfl,rfl⟩;rw[<-HX.o,<-HN.o];go_wp2_with fail;rw[<-jl.o,<-HG.o];clear E0b;go_loopw [29] (fun i wr=>Qp0 X s t n g w1 i wr) (fun i _=>n-(intOf i).toNat)
 case atStart=>exact⟨0,_,aat _,rfl,aaZ,fun i hi=>by omega,aK,Xy _ _⟩
 clear aK
 case round=>
  obtain⟨k,M,hk,rfl,cR,km,hM,hgr⟩:=hrel;have HST:=zq km;have HM:=zq hM;have bD:=zq hgr;have eN:=zq cR;clear km hM hgr cR;have MO:da (ce w.heap.size w wr):=aL.o.trans (X3 bD aL.o.size (by rw[HG.o];exact aab _));by_cases hlt:k<n
  ·obtain⟨z,hz⟩:∃z,M[k]?=F z:=⟨_,aad (by rw[eN.o];exact hlt)⟩
   obtain⟨x,hx⟩:∃x,X[k]?=F x:=⟨_,aad (by rw[<-HN.o];exact hlt)⟩;have e4:=HM.o.cell hz;have e3:=HM.o.frozen k;have fY:=QG.o x (aai hx);obtain⟨ao',cap',e,-,-,-,aS⟩:=(HV.o.below MO).2
   cases e
   obtain⟨g2,o2,rfl,e5⟩:=aS k x (HXX.o k x hx)
   have hg2:g2<g:=by rw[HG.o];exact HV.o.1 g2 rfl
   obtain⟨a,ha⟩:=xq (x / 2^s)
   have hab:a<BB:=by rw[ha];exact abp (acB _ _) fY
   have F1:(x:Int) / 2^s=(a:Int):=by rw[ha,ad4,acD];rfl
   have HS:=zq (HM.o.set k hab);have HA:=zq ha;have MS:=zq hx;have dR:(0:Int)<=(k:Int):=aaJ _
   have cB:(k:Int)<(n:Int):=by omega
   have gF:(k:Int)<(xs.length:Int):=by omega
   have ju:=zq aS;clear aS hx fY ha hab hz;by_cases ir:k+1<n
   ·obtain⟨y,hy⟩:∃y,X[k+1]?=F y:=⟨_,aad (by rw[<-HN.o];exact ir)⟩
    obtain⟨g3,o3,e,e6⟩:=ju.o (k+1) y (HXX.o (k+1) y hy)
    cases e
    obtain⟨b,hb⟩:=xq (y*2^t % BB)
    have F2:IntKind.u64.wrap ((y:Int)*2^t)=(b:Int):=by
     have e:((y:Int)*2^t)=((y*2^t:Nat):Int):=by rw[abH,acD];rfl
     rw[e,aaA,hb];rfl
    obtain⟨h1,h2,h3⟩:=Qfl (i:=k) QG hst
    have hg0:X.getD k 0=x:=by rw[abc,MS.o];rfl
    have hg1:X.getD (k+1) 0=y:=by rw[abc,hy];rfl
    have hsw:jN X s t k=a+b:=by unfold jN;rw[hg0,hg1,<-HA.o,<-hb]
    rw[hg0,<-HA.o]at h2;rw[hg1,<-hb]at h3
    have lh:b<BB:=by rw[hb];exact abL _ aC
    have hab:a<BB:=abp (Nat.le_add_right a b) (by rw[<-hsw];exact h1);have F3:bits BinOp.or IntKind.u64 (a:Int) (b:Int)=((a+b:Nat):Int):=Qml b a t lh h3 h2 hab;obtain⟨c,hc⟩:=xq (a+b);rw[<-hc]at F3 hsw;rw[hsw]at h1;have e7:(wr.setCell ⟨g,k,Z⟩ (A co a)).cell? ⟨g,k,Z⟩=F (A co a):=HS.o.1.cell (by rw[List.getElem?_set_self (by rw[eN.o];exact hlt)]);have e8:(wr.setCell ⟨g,k,Z⟩ (A co a)).frozen? ⟨g,k,Z⟩=cl:=HS.o.1.frozen k;have e9:(wr.setCell ⟨g,k,Z⟩ (A co a)).cell? ⟨g2,o2+(k+1),Z⟩=F (A co y):=HS.o.2.cell e6 (by simp;omega);have cU:=zq (bh.set (w:=(wr.setCell ⟨g,k,Z⟩ (A co a)).drewN 1) HS.o.1 k h1);have HSW:=zq hsw
    have oF:(k:Int)+1<(n:Int):=by omega
    have wD:(k:Int)+1<(xs.length:Int):=by omega
    clear hy hb h1 h2 h3 hg0 hg1 hsw lh hab hc ju e6 hg2;have W1:IntKind.i64.wrap (k:Int)=(k:Int):=abh _ (by omega);have W2:IntKind.i64.wrap ((k:Int)+1)=(k:Int)+1:=abh _ (by omega)
    have W3:((k:Int)+1).toNat=k+1:=by omega
    have W4:(0:Int)<=(k:Int)+1:=by omega
    go_wp2_with fail;go_region_law (fail)
    all_goals
     go_wp2_with fail
     have aq:Qp0 X s t n g w1 (A G ((k:Int)+1)) (((wr.setCell ⟨g,k,Z⟩ (A co a)).drewN 1).setCell ⟨g,k,Z⟩ (A co c)):=
      ⟨k+1,(M.set k a).set k c,by omega,by go_num,by rw[abb,abb,eN.o],Qx9 (f:=jN X s t) (fun i hi=>by rw[List.getElem?_set_ne (by omega)];exact HST.o i hi) (by rw[abb,eN.o];exact hlt) HSW.o.symm,cU.o.1,Qi (Qi (Qi bD HS.o.2) (Jp _ 1 _)) cU.o.2⟩
     exact⟨aq,by simp[intOf]<;>omega⟩
   have oF: ¬((k:Int)+1<(n:Int)):=by omega
   have hsw:jN X s t k=a:=by
    have hg0:X.getD k 0=x:=by rw[abc,MS.o];rfl
    have hg1:X.getD (k+1) 0=0:=by rw[abc,abo (by rw[<-HN.o];omega)];rfl
    unfold jN;rw[hg0,hg1,<-HA.o];simp
   have HSW:=zq hsw;clear hsw ju;go_wp2_with fail
   have aq:Qp0 X s t n g w1 (A G ((k:Int)+1)) (wr.setCell ⟨g,k,Z⟩ (A co a)):=
    ⟨k+1,M.set k a,by omega,by go_num,by rw[abb,eN.o],Qx9 (f:=jN X s t) HST (by rw[eN.o];exact hlt) HSW.o.symm,HS.o.1,Qi bD HS.o.2⟩
   exact⟨aq,by simp[intOf]<;>omega⟩
  obtain rfl:k=n:=by omega
  have hF:=Qfs hst (L:=X) (M:=M) (by rw[eN.o,HN.o]) (fun i hi=>HST.o i (by rw[HN.o];exact hi));rw[vt.o]at hF;have HF:=zq hF;have hR:=HM.o.whole (by rw[eN.o];omega);rw[eN.o]at hR;have HR:=zq hR;have eW:=Qf M;rw[eN.o]at eW;obtain⟨m,hm⟩:=xq ((strip M).length);rw[<-hm]at eW;have ct:=zq hm;have hT:=hR.take (n:=m) (c:=k) (by rw[eN.o];exact eW) eW (aab _);rw[hm,<-(Xj M).1,<-hm]at hT;have HT:=zq hT
  have th:(strip M).length<=xs.length:=by omega
  have ac8:=zq th;clear hF hR hm hT th;go_wp2_with fail;refine(X8 HR).mono ?_;rintro e w' ⟨rfl,rfl⟩;rw[<-ct.o];go_wp2_with fail;go_ret2;exact⟨_,strip M,rfl,⟨HT,fun q hq=>by cases hq;exact⟨by rw[HG.o];exact aab _,HM.o.lt⟩⟩,by rw[ay,HF.o],ac8,X2 M,MO⟩
def Qpt (a b m n:Nat)(w:ca)(e:du)(w':ca):Prop:=∃v u qs rs,e=dj (ex #[v,u])/\Fr w.heap.size w' v qs/\val qs=a / b/\qs.length<=m/\strip qs=qs/\Fr w.heap.size w' u rs/\val rs=a % b/\rs.length<=n/\strip rs=rs/\ce w.heap.size w w'
def Qv9 (L V:List Nat)(n nz gv gu gz:Nat)(w:ca)(i:de)(wr:ca):Prop:=∃(k:Nat) (M Q:List Nat),k<=nz/\i=A G ((k:Int)-1)/\Q.length=nz/\jw L V n k M Q/\bh wr gv V/\bh wr gu M/\bh wr gz Q/\ce w.heap.size w wr
theorem Qpj {top:Nat}(bm:ok ys)(hl:ys.length=n+1)(ht:ys[n]?=F top)(h1:9223372036854775808<=top*2^s)(h2:top*2^s<18446744073709551616)(hs:s<=63):val ys*2^s<BB^(n+1)/\9223372036854775808*BB^n<=val ys*2^s:=by
 have e:=aH ys n (by omega);rw[Wf ht,aaC (by omega)]at e;have e0:val ([]:List Nat)=0:=rfl;rw[e0,abI,aba]at e;have h:=aN (bq bm n);rw[aak,aaG (by omega)]at h;have J:0<2^s:=abC (by omega);constructor
 ·have I:BB=2^(64-s)*2^s:=by rw[<-abM,show 64-s+s=64 from by omega];rfl
  have K:top<2^(64-s):=by
   have E:top*2^s<2^(64-s)*2^s:=by rw[<-I];exact h2
   exact Nat.lt_of_mul_lt_mul_right E
  have bi:val ys<BB^n*2^(64-s):=by have:=aaT (BB^n) K;rw[Nat.mul_succ]at this;omega
  have H:=ac3 bi J;rw[aaM,<-I]at H;rw[abf];exact H
 rw[e,abd,aaM,aaz _ (BB^n)];have:=aaT (BB^n) h1;omega
theorem Qhf (bm:ok V)(hl:V.length=n+1)(ht:V[n]?=F v1)(h:9223372036854775808*BB^n<=val V):9223372036854775808<=v1:=by have e:=aH V n (by omega);rw[Wf ht,aaC (by omega)]at e;have e0:val ([]:List Nat)=0:=rfl;rw[e0,abI,aba]at e;have E:=aN (bq bm n);rw[aak,aaG (by omega)]at E;refine acI fun hlt=> ?_;have:=aaT (BB^n) hlt;rw[Nat.mul_succ]at this;rw[aaz]at h;omega
theorem Qg9 (p:Nat)(hv:Rd w v xs)(hu:Rd w u ys)(pJ:ys.length=p+2)(xu:strip ys=ys)(hlx:ys.length<=xs.length)(hl:xs.length<=274877906944):dk db 256 #[v,u] w (Qpt (val xs) (val ys) (xs.length-ys.length+1) ys.length w):=by
 have HV:=zq hv;have HU:=zq hu;obtain⟨ao,cap,rfl,bU,hcm,bm,-⟩:=hv.2;obtain⟨bo,bn,rfl,mF,jE,dc,dP⟩:=hu.2;have bS:=zq bm;have eY:=zq dc;obtain⟨top,gG,YN⟩:=bt ys (p+1) (by rw[xu,pJ]);rw[xu]at gG;have rT:=dc top (aai gG);obtain⟨g2,o2,rfl,e1⟩:=dP (p+1) top gG;obtain⟨nb,fX,aiy,aiz,nZ,jK⟩:=Hz top (by omega) rT;obtain⟨s,hs⟩:=xq (64-nb);rw[<-hs]at nZ jK
 have AH:s<=63:=by omega
 obtain⟨n,hn⟩:=xq ys.length;obtain⟨m,hm⟩:=xq xs.length;obtain⟨nz,KE⟩:=xq (m-n+1);obtain⟨mu,JY⟩:=xq (m+1)
 have wP:n=p+2:=by omega
 have z6:n<=m:=by omega
 have gX:m<=274877906944:=by omega
 have F0:(ys.length:Int)=(n:Int):=by omega
 have F0x:(xs.length:Int)=(m:Int):=by omega
 have F1:(64-(nb:Int))=(s:Int):=by omega
 have F1b:IntKind.u64.wrap (s:Int)=(s:Int):=Vl (by omega)
 have F2:((n:Int)-1).toNat=p+1:=by omega
 have F3:(m:Int)-(n:Int)=(nz:Int)-1:=by omega
 have F4:(m:Int)+1=(mu:Int):=by omega
 have aiu:mu<=274877906945:=by omega
 obtain⟨st1,ZZ⟩:=Qpj dc pJ gG nZ jK AH
 have adI:da (val ys*2^s<BB^n):=by show _<_;rw[wP];exact st1
 have eP:da (9223372036854775808*BB^(p+1)<=val ys*2^s):=ZZ
 have ER:val xs*2^s<BB^(m+1):=by
  have a:=aN bm;rw[<-hm]at a
  have b:2^s<BB:=by have:2^s<=2^63:=aa6 (by omega) AH;unfold BB;omega
  rw[abf];exact Nat.mul_lt_mul'' a b
 have HXF:=zq ER;have HS:=zq hs;have HN:=zq hn;have HM:=zq hm;have HNB:=zq fX;have Ia:=zq rT;have HYL:=zq pJ;have CL:=zq KE;have HHL:=zq hl;have HNP:=zq wP;have PS:=zq JY
 have jq:1<=n:=by omega
 have cB:(0:Int)<=(n:Int)-1:=by omega
 have gF:(n:Int)-1<(n:Int):=by omega
 have fA:=X9 nz (by omega);clear hv hu bm dc hcm jE dP gG YN rT fX nZ jK hs pJ xu hlx hl ER st1 ZZ hn hm KE wP JY;go_enter func256,ntmps256;go_wp2_with fail;refine(bits_LeadingZeros64 (top:Int) _ (by omega) (by have:=Ia.o;unfold BB at this;omega)).mono ?_;rintro e w1 ⟨rfl,rfl⟩;rw[acT,HNB.o];go_wp2_with fail;refine(Pd s n HU (by omega) (by omega) (by have:=HN.o;omega) adI).mono ?_;rintro e w2 ⟨V,rfl,lX,UM,hVv,hb2⟩;obtain⟨gv,hgv⟩:=xq w1.heap.size;rw[<-hgv]at lX ⊢;have aiq:gv<w2.heap.size:=lX.lt
 have ah9:w1.heap.size<=gv:=by omega
 have HGV:=zq hgv;clear hgv;go_wp2_with fail;refine(Pd s mu (HV.o.below hb2) (by omega) (by omega) (by have:=HM.o;have:=PS.o;omega) (by rw[PS.o];exact HXF.o)).mono ?_;rintro e w3 ⟨L,rfl,oX,tZ,hLv,hb3⟩;obtain⟨gu,hgu⟩:=xq w2.heap.size;rw[<-hgu]at oX ⊢
 have air:gv<gu:=by omega
 have WG:w1.heap.size<=gu:=by have:=hb2.size;omega
 have aio:gu<w3.heap.size:=oX.lt;have HGU:=zq hgu;clear hgu;obtain⟨gz,hgz⟩:=xq w3.heap.size
 have aip:gu<gz:=by omega
 have cT:da (ce w1.heap.size w1 w3):=hb2.trans (hb3.mono hb2.size);have hz1:=cT.o.size;have OM:da (bh w3 gv V):=lX.below hb3 lX.lt;have OI:=zq oX;have HGZ:=zq hgz;have jS:=zq UM;have CX:=zq hVv;have fp:=zq tZ;have HLV:=zq hLv
 have WH:w1.heap.size<=gz:=by omega
 clear lX UM hVv hb2 oX tZ hLv hb3 hgz;go_wp2_with fail;rw[<-HGZ.o];obtain⟨w4,hw4⟩:=xq (w3.alloc (O (madeCells #[A co 0] nz) 101));have ha:=Qq w3 (O (madeCells #[A co 0] nz) 101);rw[<-hw4]at ha
 have cC:da (Qv9 L V n nz gv gu gz w1 (A G ((nz:Int)-1)) w4):=by
  refine⟨nz,L,List.replicate nz 0,aab _,rfl,aaZ,?_,OM.o.below ha OM.o.lt,OI.o.below ha OI.o.lt,?_,cT.o.trans (ha.mono hz1)⟩
  ·have hk:nz+n=m+1:=by have:=CL.o;omega
   have JY:=PS.o;refine jw.start (by rw[fp.o,JY];omega) ?_ (by rw[aaZ];exact aab _);have hx:=aN bS;rw[<-HM.o]at hx
   have hS:2^s<=9223372036854775808:=by have:2^s<=2^63:=aa6 (by omega) AH;exact this
   exact Qdy (n:=n) HLV hx (fp.o.trans JY) hk CX hS jq (by rw[show n-1=p+1 from by have:=HNP.o;omega,CX.o];exact eP.o)
  rw[hw4,HGZ.o];exact bh.made w3 nz
 rw[<-hw4];clear hw4 ha;have HF2:=zq F2;have rp:=zq F3;have FL:=zq F1;clear F2 F1 F3 F4 e1;go_loopw [11] (fun i wr=>Qv9 L V n nz gv gu gz w1 i wr) (fun i _=>(intOf i+1).toNat)
 case atStart=>exact cC.o
 clear cC
 case round=>
  obtain⟨k,M,Q,hk,rfl,hQl,hst,hBV,hBU,hBQ,hbl⟩:=hrel;have HST:=zq hst;have oq:=zq hBV;have xL:=zq hBU;have j5:=zq hBQ;have aL:=zq hbl;have sD:=zq hQl
  have cR:M.length=mu:=by rw[hst.len,fp.o]
  have eN:=zq cR;clear hst hBV hBU hBQ hbl hQl cR
  cases k with
  |zero=>
   have wj: ¬((0:Int)<=((0:Nat):Int)-1):=by omega
   obtain⟨r1,r2⟩:=HST.o.fin
   have hnz:nz<=1099511627776:=by have:=CL.o;omega
   have hS:0<2^s:=abC (by omega);obtain⟨b1,b2⟩:=F9 (N:=val xs) (y:=val ys) hS
   have HQV:da (val Q=val xs / val ys):=by show _=_;rw[r1,HLV.o,CX.o,<-b1]
   have HRV:da (val (M.take n) / 2^s=val xs % val ys):=by show _=_;rw[r2,HLV.o,CX.o,<-b2]
   have wO:n<=mu:=by have:=PS.o;omega
   have hRM:=(xL.o.whole (by rw[eN.o];omega));rw[eN.o]at hRM;have HRM:=zq (hRM.take (n:=n) (c:=mu) (by rw[eN.o];exact wO) wO (aab _));have hRQ:=(j5.o.whole (by rw[sD.o];omega));rw[sD.o]at hRQ;have HRQ:=zq hRQ;clear r1 r2 b1 b2 hS hRM hRQ;have i0:(0:Int)<=(n:Int):=aaJ _
   have i1:(n:Int)<=(mu:Int):=by omega
   go_wp2_with fail;refine(Qfn s HRM (by omega) (by rw[aak,eN.o];omega)).mono ?_;rintro e w5 ⟨rv,rs,rfl,q1,q2,q3,q4,q5⟩;have qm:da (ce w1.heap.size w1 w5):=aL.o.trans (q5.mono aL.o.size);have yu:=aL.o.size;have AV:=qm.o.size;have adD:=zq (HRQ.o.below q5);have Q1:=zq q1
   have Q2:da (val rs=val xs % val ys):=by show _=_;rw[q2,HRV.o]
   have Q3:da (rs.length<=ys.length):=by show _<=_;rw[aak]at q3;have:=HN.o;omega
   have Q4:=zq q4;clear q1 q2 q3 q4 q5;go_wp2_with fail;refine(Y6 Q adD (by rw[sD.o];omega)).mono ?_;rintro e w6 ⟨qv,rfl,p1,p2⟩;have P1:=zq p1;have P2:=zq p2;clear p1 p2;go_wp2_with fail;go_ret2;have hsq:=Qf Q;have hQl:=sD.o
   refine⟨_,_,strip Q,rs,rfl,P1.o.mono AV,by rw[ay,HQV.o],by have:=CL.o;have:=HM.o;have:=HN.o;omega,X2 Q,(Q1.o.mono yu).below P2,Q2,Q3,Q4,qm.o.trans (P2.o.mono AV)⟩
  |succ k=>
   have fU:(((k+1:Nat):Int)-1)=(k:Int):=by omega
   rw[fU];clear fU
   have dA:k+n<=m:=by have:=CL.o;omega
   have wP:=HNP.o;have UN:=jS.o;have UE:=eN.o;have JY:=PS.o;obtain⟨z,hz⟩:∃z,M[k]?=F z:=⟨_,aad (by omega)⟩;obtain⟨u2,h2⟩:∃u2,M[k+p+2]?=F u2:=⟨_,aad (by omega)⟩;obtain⟨u1,h1⟩:∃u1,M[k+p+1]?=F u1:=⟨_,aad (by omega)⟩;obtain⟨u0,h0⟩:∃u0,M[k+p]?=F u0:=⟨_,aad (by omega)⟩;obtain⟨v1,k1⟩:∃v1,V[p+1]?=F v1:=⟨_,aad (by omega)⟩;obtain⟨v0,k0⟩:∃v0,V[p]?=F v0:=⟨_,aad (by omega)⟩;have agY:=xL.o.2 u2 (aai h2);have pF:=xL.o.2 u1 (aai h1);have tx:=xL.o.2 u0 (aai h0);have fR:=oq.o.2 v1 (aai k1);have qU:=oq.o.2 v0 (aai k0);have Lg:=Qhf oq.o.2 (by omega) k1 (by rw[CX.o];exact eP.o)
   have hst':jw L V (p+2) (k+1) M Q:=by have:=HST.o;rw[wP]at this;exact this
   obtain⟨G1,G2,G3,G4⟩:=Qg7 hst' xL.o.2 oq.o.2 (by omega) (by omega) hz h2 h1 h0 k1 k0 (by omega);obtain⟨d,hd⟩:=xq (gq ((u2*BB+u1)*BB+u0) (v1*BB+v0))
   have rM:d<BB:=by rw[hd];exact abp (Nat.min_le_left _ _) (Nat.sub_lt aC Nat.one_pos)
   rw[<-hd]at G3 G4;obtain⟨aE,hU⟩:=xq (val (mid M k (n+1)))
   have hU':val (mid M k (p+3))=aE:=by rw[hU,wP]
   rw[hU']at G1 G3 G4;obtain⟨a2,ha2⟩:=xq (k+n);obtain⟨a1,ha1⟩:=xq (k+p+1);obtain⟨a0,ha0⟩:=xq (k+p);obtain⟨n1,XH⟩:=xq (p+1)
   have S1:IntKind.i64.wrap ((k:Int)+(n:Int))=(a2:Int):=by rw[abh _ (by omega)];omega
   have S1':(k:Int)+(n:Int)=(a2:Int):=by omega
   have S0:IntKind.i64.wrap (a2:Int)=(a2:Int):=abh _ (by omega);obtain⟨a3,ub⟩:=xq (a2+1)
   have S6:(a2:Int)+1=(a3:Int):=by omega
   have S2:IntKind.i64.wrap ((a2:Int)-1)=(a1:Int):=by rw[abh _ (by omega)];omega
   have S3:IntKind.i64.wrap ((a2:Int)-2)=(a0:Int):=by rw[abh _ (by omega)];omega
   have S4:IntKind.i64.wrap ((n:Int)-1)=(n1:Int):=by rw[abh _ (by omega)];omega
   have S5:IntKind.i64.wrap ((n:Int)-2)=(p:Int):=by rw[abh _ (by omega)];omega
   have c2:=xL.o.cell (show M[a2]?=F u2 by rw[ha2,wP];exact h2);have c1:=xL.o.cell (show M[a1]?=F u1 by rw[ha1];exact h1);have c0:=xL.o.cell (show M[a0]?=F u0 by rw[ha0];exact h0);have d1:=oq.o.cell (show V[n1]?=F v1 by rw[XH];exact k1);have d0:=oq.o.cell k0;have b0:(0:Int)<=(k:Int):=aaJ _;have b1:(0:Int)<=(a2:Int):=aaJ _
   have b2:(a2:Int)<(mu:Int):=by omega
   have b3:(0:Int)<=(a1:Int):=aaJ _
   have b4:(a1:Int)<(mu:Int):=by omega
   have b5:(0:Int)<=(a0:Int):=aaJ _
   have b6:(a0:Int)<(mu:Int):=by omega
   have b7:(0:Int)<=(n1:Int):=aaJ _
   have b8:(n1:Int)<(n:Int):=by omega
   have b9:(0:Int)<=(p:Int):=aaJ _
   have b10:(p:Int)<(n:Int):=by omega
   have FO:da (∀w0:ca,dk db 280 #[A co u2,A co u1,A co u0,A co v1,A co v0] w0 (Ei d w0)):=fun w0=>by rw[hd];exact Qw4 u2 u1 u0 v1 v0 w0 G2 pF tx (by omega) fR qU
   have HD:=zq hd;have lR:=zq rM;have oz:=zq hU;have LS:=zq G1;have CE:=zq G3;have O6:=zq G4;have HZ:=zq hz
   have hA2:a2<=m:=by omega
   have fy:=zq ha2;have ic:=zq ub
   have DJ:a3<=mu:=by omega
   clear JY ub wP UN UE hz h2 h1 h0 k1 k0 agY pF tx fR qU Lg hst' G1 G2 G3 G4 hd rM hU hU' ha2 ha1 ha0 XH;go_wp2_with fail;go_quiet ((go_at_call 280;exact Calls.quiet_of (FO.o _)));go_wp2_with fail;obtain⟨wg,hwg⟩:=xq (wr.drewN nq);rw[<-hwg]
   have hbg:ce wr.heap.size wr wg:=by rw[hwg];exact Yz wr nq
   have HWG:=zq hwg;clear hwg;have OJ:da (bh wg gv V):=oq.o.below hbg oq.o.lt;have acu:da (bh wg gu M):=xL.o.below hbg xL.o.lt;have FD:da (bh wg gz Q):=j5.o.below hbg j5.o.lt;have bH:da (ce w1.heap.size w1 wg):=aL.o.trans (hbg.mono aL.o.size);have kr:=bH.o.size
   have e3:a3-k=V.length+1:=by have:=jS.o;have:=ic.o;have:=fy.o;omega
   have HRV:=zq (OJ.o.whole (by rw[jS.o];omega));rw[jS.o]at HRV;rw[e3];clear c2 c1 c0 d1 d0 hbg
   refine(Qhg k (mu-k) d acu (by rw[jS.o,eN.o];have:=ic.o;have:=fy.o;omega) (by rw[jS.o];have:=ic.o;have:=fy.o;omega) (by rw[eN.o];omega) HRV (by simp[Value.ownBlock]<;>omega) lR).mono ?_
   rintro e w5 ⟨cz,M1,rfl,ahD,IJ,l1,l2,l3,heq,hgr⟩;rw[jS.o]at l3 heq;have HEQ:=zq heq;have cS:=zq IJ;have qw:=zq l1;have iG:=zq l2;have bD:=zq hgr
   have FH:da (bh w5 gv V):=OJ.o.kept hgr (by simp<;>omega)
   have yH:da (bh w5 gz Q):=FD.o.kept hgr (by simp<;>omega)
   have qm:da (ce w1.heap.size w1 w5):=aaF bH hgr kr (fun q hq=>by cases hq;exact WG);clear heq IJ l1 l2 l3 hgr;obtain⟨q0,lZ⟩:∃q0,Q[k]?=F q0:=⟨_,aad (by rw[sD.o];omega)⟩
   have i0:(k:Int)<(nz:Int):=by omega
   by_cases hl0:cz=0
   ·have gV:decide (cz≠0)=cl:=by simp[hl0]
    obtain⟨r1,r2⟩:=Qhl CE (abp (aat _) HST.o.lt) (by rw[<-oz.o]at HEQ;exact HEQ.o) hl0;have nJ:=zq (HST.o.step (d:=d) oq.o.2 jS cS.o.2 qw (by rw[eN.o];have:=ic.o;have:=fy.o;omega) HZ (by rw[sD.o];omega) iG (by rw[<-oz.o];exact r1) (by rw[<-oz.o];exact r2));have e4:=yH.o.cell lZ;have e5:=yH.o.frozen k;have yZ:=zq (yH.o.set k lR);clear r1 r2 lZ hl0;rw[gV];clear gV;go_wp2_with fail
    have aq:Qv9 L V n nz gv gu gz w1 (A G ((k:Int)-1)) (w5.setCell ⟨gz,k,Z⟩ (A co d)):=
     ⟨k,M1,Q.set k d,by omega,rfl,by rw[abb,sD.o],nJ,FH.o.kept yZ.o.2 (by simp<;>omega),cS.o.kept yZ.o.2 (by simp<;>omega),yZ.o.1,aaF qm yZ.o.2 qm.o.size (fun q hq=>by cases hq;exact WH)⟩
    exact⟨aq,by simp[intOf]<;>omega⟩
   have nj:cz=1:=by omega
   have gV:decide (cz≠0)=dq:=by simp[hl0]
   have OX:da (aE+BB^(n+1)*1=val (mid M1 k (n+1))+d*val V):=by show _=_;have h:=HEQ.o;rw[nj]at h;rw[oz.o];exact h
   rw[gV];clear gV nj hl0 HEQ
   have I8:0<d:=by refine abr fun h0=> ?_;have h1:=OX.o;have h2:=Bn cS.o.2 k (n+1) (by rw[qw.o,eN.o];have:=ic.o;have:=fy.o;omega);rw[h0,acH]at h1;omega
   obtain⟨d',hd'⟩:=xq (d-1)
   have W1:IntKind.u64.wrap ((d:Int)-1)=(d':Int):=by have:=lR.o;unfold BB at this;rw[aaA];omega
   have VN:d'<BB:=by have:=lR.o;omega
   have acF:=zq VN;have HD':=zq hd';clear VN hd' I8;go_wp2_with fail;have QW:=zq (FH.o.whole (by rw[jS.o];omega));rw[jS.o]at QW
   refine(Qgi k (mu-k) cS (by rw[jS.o,qw.o,eN.o];have:=ic.o;have:=fy.o;omega) (by rw[jS.o];have:=ic.o;have:=fy.o;omega) (by rw[qw.o,eN.o];omega) QW (by simp[Value.ownBlock]<;>omega)).mono ?_
   rintro e w6 ⟨cg,M2,rfl,zv,l1,l2,l3,heq,hgr⟩;rw[jS.o]at l3 heq;have hVP:0<val V:=abp (aat _) HST.o.lt;have hVT:val V<BB^(n+1):=aal (aN oq.o.2) (aa6 aC (by rw[jS.o];omega));obtain⟨r1,r2⟩:=Qbi cS.o.2 zv.2 (by rw[qw.o,eN.o];have:=ic.o;have:=fy.o;omega) (by rw[l1,qw.o,eN.o];have:=ic.o;have:=fy.o;omega) CE O6 hVP hVT OX heq;have nJ:=zq (HST.o.step (d:=d') oq.o.2 jS zv.2 (l1.trans qw) (by rw[eN.o];have:=ic.o;have:=fy.o;omega) HZ (by rw[sD.o];omega) (by rw[<-iG.o];exact l2) (by rw[<-oz.o,HD'.o];exact r1) (by rw[<-oz.o];exact r2));have jg:=zq zv
   have acv:da (bh w6 gv V):=FH.o.kept hgr (by simp<;>omega)
   have FE:da (bh w6 gz Q):=yH.o.kept hgr (by simp<;>omega)
   have OH:da (ce w1.heap.size w1 w6):=aaF qm hgr qm.o.size (fun q hq=>by cases hq;exact WG);have e4:=FE.o.cell lZ;have e5:=FE.o.frozen k;have yZ:=zq (FE.o.set k acF);clear r1 r2 lZ zv l1 l2 l3 heq hgr hVP hVT;go_wp2_with fail
   have aq:Qv9 L V n nz gv gu gz w1 (A G ((k:Int)-1)) (w6.setCell ⟨gz,k,Z⟩ (A co d')):=
    ⟨k,M2,Q.set k d',by omega,rfl,by rw[abb,sD.o],nJ,acv.o.kept yZ.o.2 (by simp<;>omega),jg.o.kept yZ.o.2 (by simp<;>omega),yZ.o.1,aaF OH yZ.o.2 OH.o.size (fun q hq=>by cases hq;exact WH)⟩
   exact⟨aq,by simp[intOf]<;>omega⟩
def Qcl (a b m n:Nat)(w:ca)(e:du)(w':ca):Prop:=∃v u qs rs,e=dj (ex #[v,u,A G 0])/\Fr w.heap.size w' v qs/\val qs=a / b/\qs.length<=m/\strip qs=qs/\Fr w.heap.size w' u rs/\val rs=a % b/\rs.length<=n/\strip rs=rs/\ce w.heap.size w w'
theorem Fr.nil (B:Nat)(w:ca):Fr B w (U Z 0 0) []:=⟨Rd.nil w,fun k hk=>by cases hk⟩
theorem U3 (xs ys:List Nat)(w:ca)(hv:Rd w v xs)(hu:Rd w u ys)(hl:xs.length<=274877906944)(hl2:ys.length<=274877906944)(h0:0<val ys):dk db 239 #[v,u] w (Qcl (val xs) (val ys) xs.length ys.length w):=by
 have HV:=zq hv;have HU:=zq hu;have HL:=zq hl;have iG:=zq hl2;obtain⟨ao,cap,rfl,bU,hcm,bm,-⟩:=hv.2;obtain⟨bo,bn,rfl,mF,jE,dc,-⟩:=hu.2;have bS:=zq bm;have eY:=zq dc;obtain⟨Y,hY⟩:=xq (strip ys)
 have hYl:Y.length<=ys.length:=by rw[hY];exact Qf ys
 have hYv:val Y=val ys:=by rw[hY,ay]
 have hYs:strip Y=Y:=by rw[hY,X2]
 have UR:ok Y:=by rw[hY];exact bJ dc
 have hY0:Y.length≠0:=fun e=>by rw[<-hYv,aau e]at h0;simp[val]at h0
 obtain⟨n,hn⟩:=xq Y.length;have HY:=zq hY;have vA:=zq hYv;have HYS:=zq hYs;have SB:=zq UR;have HN:=zq hn
 have fL:((n:Int)==0)=cl:=by simp;omega
 have H0:=zq h0;rw[<-hn]at hYl hY0;clear hv hu bm dc hcm jE hl hl2 hY hYv hYs UR hn h0;by_cases h1:n=1
 ·have h1b:((n:Int)==1)=dq:=by simp[h1]
  obtain⟨y,hy⟩:∃y,Y[0]?=F y:=⟨_,aad (by rw[<-HN.o];omega)⟩;have rV:=SB.o y (aai hy)
  have hYy:val Y=y:=by rw[<-aa4 (l:=Y),Wf hy,aaC (by rw[<-HN.o];omega)];simp[val]
  have ja:0<y:=by have:=H0.o;rw[<-vA.o,hYy]at this;exact this
  have Io:=zq hYy;have HYB:=zq rV;have tW:=zq ja;have HYC:=zq hy
  have jq:0<n:=by omega
  clear hy rV hYy ja h1;go_enter gE,fm;go_wp2_with fail;refine(J9 HU (by have:=iG.o;omega)).mono ?_;rintro e w1 ⟨rfl,hB,hb⟩;rw[<-HY.o,<-HN.o]at*;have e1:=hB.cell HYC;have aL:=zq hb;have p8:=zq (HV.o.below hb);have hz1:=hb.size;clear hB hb;go_wp2_with fail;refine(Kd y p8 (by have:=HL.o;omega) tW HYB).mono ?_;rintro e w2 ⟨qv,qs,rfl,q1,q2,q3,q4,q5⟩;have Q1:=zq q1
  have Q2:da (val qs=val xs / val ys):=by show _=_;rw[q2,<-vA.o,Io.o]
  have Q3:=zq q3;have Q4:=zq q4;have bH:da (ce w.heap.size w w2):=aL.o.trans (q5.mono hz1);obtain⟨r,hr⟩:=xq (val xs % y);rw[<-hr]
  have tu:r<BB:=by rw[hr];exact ab1 (abL _ tW) HYB
  have HR:da (r=val xs % val ys):=by show _=_;rw[hr,<-vA.o,Io.o]
  have HRW:=zq (Nc w2 r tu);have hz2:=bH.o.size;have ha:=Qq w2 (O #[A co r] 101);have HA:=zq ha;clear q1 q2 q3 q4 q5 hr tu ha;go_wp2_with fail;refine(Y6 [r] HRW (by simp)).mono ?_;rintro e w3 ⟨rv,rfl,p1,p2⟩;have P1:=zq p1;have aV:=zq (HA.o.trans (p2.mono HA.o.size));clear p1 p2;go_wp2_with fail;go_ret3;have eW:=Qf [r];refine⟨_,_,qs,strip [r],rfl,(Q1.o.mono hz1).below aV,Q2,Q3,Q4,P1.o.mono (aar hz2 HA.o.size),by rw[ay,<-HR.o];simp[val],?_,X2 _,bH.o.trans (aV.o.mono hz2)⟩;simp only[aaq,aa5]at eW;omega
 have h1b:((n:Int)==1)=cl:=by simp;omega
 have fQ:2<=n:=by omega
 obtain⟨X,hX⟩:=xq (strip xs)
 have vO:X.length<=xs.length:=by rw[hX];exact Qf xs
 have zy:val X=val xs:=by rw[hX,ay]
 have hXs:strip X=X:=by rw[hX,X2]
 have UQ:ok X:=by rw[hX];exact bJ bS
 have HX:=zq hX;have CZ:=zq vO;have qE:=zq zy;have MT:=zq hXs;have ad8:=zq UQ;clear hX vO zy hXs UQ h1;by_cases hlt:val xs<val ys
 ·have hc:bY (val X) (val Y)= -1:=Hl (by rw[qE.o,vA.o];exact hlt)
  have HC:=zq hc;have HD:da (val xs / val ys=0/\val xs % val ys=val xs):=⟨acL hlt,ab7 hlt⟩
  have hXY:X.length<=n:=by refine acI fun h=> ?_;have:=Hn (xs:=Y) (ys:=X) SB (by rw[HYS.o,MT.o,<-HN.o];exact h);rw[qE.o,vA.o]at this;omega
  clear hc hlt;go_enter gE,fm;go_wp2_with fail;refine(Y6 ys HU (by have:=iG.o;omega)).mono ?_;rintro e w1 ⟨yv,rfl,hB,hb⟩;rw[<-HY.o]at hB;obtain⟨yo,mK,rfl,-,-,-,-⟩:=hB.1.2;have HB:=zq hB;have aL:=zq hb;have p8:=zq (HV.o.below hb);have hz1:=hb.size;clear hB hb;rw[<-HN.o];go_wp2_with fail;refine(Y6 xs p8 (by have:=HL.o;omega)).mono ?_;rintro e w2 ⟨xv,rfl,lX,hb2⟩;rw[<-HX.o]at lX;have aI:=zq lX;have DA:=zq (HB.o.below hb2);have bH:da (ce w.heap.size w w2):=aL.o.trans (hb2.mono hz1);have hz2:=bH.o.size;rw[<-HN.o]at DA;clear lX hb2;go_wp2_with fail;refine(Vy aI.o.1 DA.o.1).mono ?_;rintro e w3 ⟨rfl,hb3⟩;rw[HC.o];have aV:=zq hb3;clear hb3;go_wp2_with fail;go_ret3;exact⟨_,_,[],X,rfl,Fr.nil _ _,by rw[HD.o.1];rfl,aat _,rfl,(aI.o.mono hz1).below aV,by rw[qE.o,HD.o.2],by omega,MT,bH.o.trans (aV.o.mono hz2)⟩
 obtain⟨c,hc⟩:=xq (bY (val X) (val Y))
 have hcb:decide (c<0)=cl:=by
  rw[hc,qE.o,vA.o];unfold bY;rw[if_neg hlt]
  split<;>decide
 have HC:=zq hc
 have hXY:n<=X.length:=by refine acI fun h=> ?_;have:=Hn (xs:=X) (ys:=Y) ad8 (by rw[HYS.o,MT.o,<-HN.o];exact h);rw[qE.o,vA.o]at this;omega
 clear hc hlt;go_enter gE,fm;go_wp2_with fail;refine(Y6 ys HU (by have:=iG.o;omega)).mono ?_;rintro e w1 ⟨yv,rfl,hB,hb⟩;rw[<-HY.o]at hB;obtain⟨yo,mK,rfl,-,-,-,-⟩:=hB.1.2;have HB:=zq hB;have aL:=zq hb;have p8:=zq (HV.o.below hb);have hz1:=hb.size;clear hB hb;rw[<-HN.o];go_wp2_with fail;refine(Y6 xs p8 (by have:=HL.o;omega)).mono ?_;rintro e w2 ⟨xv,rfl,lX,hb2⟩;rw[<-HX.o]at lX;have aI:=zq lX;have DA:=zq (HB.o.below hb2);have bH:da (ce w.heap.size w w2):=aL.o.trans (hb2.mono hz1);have hz2:=bH.o.size;rw[<-HN.o]at DA;clear lX hb2;go_wp2_with fail;refine(Vy aI.o.1 DA.o.1).mono ?_;rintro e w3 ⟨rfl,hb3⟩;rw[<-HC.o];have aV:=zq (aI.o.below hb3);have HY3:=zq (DA.o.below hb3);have qj:da (ce w.heap.size w w3):=bH.o.trans (hb3.mono hz2);have hz3:=qj.o.size;clear hb3;go_wp2_with fail;refine(Qg9 (n-2) aV.o.1 HY3.o.1 (by rw[<-HN.o];omega) HYS (by rw[<-HN.o];exact hXY) (by have:=CZ.o;have:=HL.o;omega)).mono ?_;rintro e w4 ⟨qv,rv,qs,rs,rfl,q1,q2,q3,q4,r1,r2,r3,r4,hb4⟩;have Q1:=zq (q1.mono hz3);have R1:=zq (r1.mono hz3);have acp:da (ce w.heap.size w w4):=qj.o.trans (hb4.mono hz3)
 have Q2:da (val qs=val xs / val ys):=by show _=_;rw[q2,qE.o,vA.o]
 have R2:da (val rs=val xs % val ys):=by show _=_;rw[r2,qE.o,vA.o]
 have Q3:da (qs.length<=xs.length):=by show _<=_;have:=CZ.o;have:=HN.o;omega
 have R3:da (rs.length<=ys.length):=by show _<=_;have:=HN.o;omega
 have Q4:=zq q4;have R4:=zq r4;clear q1 q2 q3 q4 r1 r2 r3 r4 hb4;go_wp2_with fail;go_ret3;exact⟨_,_,qs,rs,rfl,Q1,Q2,Q3,Q4,R1,R2,R3,R4,acp⟩
open ar
structure Wr (R:Nat) (og:Option Nat) (w w':ca):Prop where
 os:w'.os=w.os
 tape:w'.tape=w.tape
 output:w'.output=w.output
 size:w.heap.size<=w'.heap.size
 block:∀k,k<w.heap.size->k≠R->F k≠og->w'.heap[k]?=w.heap[k]?
def Mv (w:ca)(og og':Option Nat):Prop:=∀k,og'=F k->og=F k\/w.heap.size<=k
theorem Wr.refl (R:Nat)(og:Option Nat)(w:ca):Wr R og w w:=⟨rfl,rfl,rfl,aab _,fun _ _ _ _=>rfl⟩
theorem Mv.refl (w:ca)(og:Option Nat):Mv w og og:=fun _ h=> .inl h
theorem Wr.trans {w'':ca}(h:Wr R og w w')(hm:Mv w og og')(k:Wr R og' w' w''):Wr R og w w'':=
 ⟨k.os.trans h.os,k.tape.trans h.tape,k.output.trans h.output,aar h.size k.size,fun i hi hR ho=>(k.block i (aal hi h.size) hR (fun e=>by
  rcases hm i e.symm with E|E
  ·exact ho E.symm
  omega)).trans (h.block i hi hR ho)⟩
theorem Mv.trans {og'':Option Nat}(h:Mv w og og')(hw:w.heap.size<=w'.heap.size)(k:Mv w' og' og''):Mv w og og'':=fun i hi=>by
 rcases k i hi with E|E
 ·exact h i E
 exact .inr (by omega)
theorem Wr.au (h:ce w.heap.size w w'):Wr R og w w':=⟨h.os,h.tape,h.output,h.size,fun k hk _ _=>h.block k hk⟩
theorem Wr.dL (h:w.grownBy w' og):Wr R og w w':=⟨h.os,h.tape,h.output,h.size,fun k hk _ ho=>h.block k hk ho⟩
theorem Wr.aD (w:ca)(o:Nat)(u:de):Wr R og w (w.setCell ⟨R,o,Z⟩ u):=
 ⟨rfl,rfl,rfl,by simp[World.setCell],fun k _ hR _=>aaN w ⟨R,o,Z⟩ k u hR⟩
theorem Wr.aO {w0:ca}(h:Wr R og w w')(hb:ce B w0 w)(hB:B<=w.heap.size)(hR:B<=R)(ho:∀k,og=F k->B<=k):ce B w0 w':=
 ⟨h.os.trans hb.os,h.tape.trans hb.tape,h.output.trans hb.output,aar hb.size h.size,fun k hk=>(h.block k (by omega) (by omega) (fun e=>by have:=ho k e.symm;omega)).trans (hb.block k hk)⟩
theorem Rd.wr (h:Rd w v xs)(hw:Wr R og w w')(h1:∀k,v.ownBlock=F k->k≠R/\og≠F k):Rd w' v xs:=by obtain⟨I,ao,E,rfl,a1,a2,a3,a4⟩:=h;refine⟨fun k hk=>aal (I k hk) hw.size,ao,E,rfl,a1,a2,a3,fun i x hx=> ?_⟩;obtain⟨g,o,rfl,H⟩:=a4 i x hx;obtain⟨b1,b2⟩:=h1 g rfl;exact⟨g,o,rfl,(abe (hw.block g (aaY w _ H) b1 (fun e=>b2 e.symm))).trans H⟩
def js (l:Bytes):List de:=l.map fun b=> A .u8 ((b.toNat:Nat):Int)
theorem Qwp (l:Bytes):(js l).length=l.length:=by simp[js]
theorem Ad (a b:Bytes):js (a++b)=js a++js b:=by simp[js]
theorem Qf1 {l:Bytes}:∀u∈js l,u.oneCell'=dq:=by intro u h;simp only[js,abw]at h;obtain⟨d,_,rfl⟩:=h;rfl
theorem Tryz.kL:(Tryz.prog.info? 5).map (fun i=>(i.zero,i.size,i.bytes))=F (F (A .u8 0),1,1):=by kernel_rfl
def SG (w:ca):Prop:=∀d,d<10->w.cell? ⟨4,d,Z⟩=F (A .u8 ((48+d:Nat):Int))
theorem SG.below (h:SG w)(hb:ce B w w')(hB:4<B):SG w':=fun d hd=>by rw[hb.cell (p:=⟨4,d,Z⟩) hB];exact h d hd
theorem SG.wr (h:SG w)(hw:Wr R og w w')(h1:4≠R)(h2:og≠F 4):SG w':=fun d hd=>(abe (hw.block _ (aaY w _ (h d hd)) h1 (fun e=>h2 e.symm))).trans (h d hd)
structure WS (w:ca) (R:Nat) (pv ov:de) (out:Bytes):Prop where
 blk:w.heap[R]?=F (O #[A G 10,A G 19,A co 10000000000000000000,pv,ov] 216 (0,0))
 own:w.ownsRow (R+1) 5 1 ov out.length (js out)
 big:4<R
theorem WS.ne {out:Bytes}(h:WS w R pv ov out):∀k,ov.ownBlock=F k->R<k/\k<w.heap.size:=fun k hk=>by have:=h.own.lt k hk;omega
theorem WS.lt {out:Bytes}(h:WS w R pv ov out):R<w.heap.size:=(aah.1 h.blk).1
theorem WS.cell {out:Bytes}(h:WS w R pv ov out):w.cell? ⟨R,0,Z⟩=F (A G 10)/\w.cell? ⟨R,1,Z⟩=F (A G 19)/\w.cell? ⟨R,2,Z⟩=F (A co 10000000000000000000)/\w.cell? ⟨R,3,Z⟩=F pv/\w.cell? ⟨R,4,Z⟩=F ov/\w.frozen? ⟨R,4,Z⟩=cl:=by refine⟨?_,?_,?_,?_,?_,aax w R 4 _ _ h.blk⟩<;>rw[aaj w R _ _ _ _ h.blk]<;>rfl
theorem WS.kept {out:Bytes}{row:Option Nat}(h:WS w R pv ov out)(hg:w.grownBy w' row)(h1:row≠F R)(h2:∀k,row=F k->ov.ownBlock≠F k):WS w' R pv ov out:=
 ⟨(hg.block R h.lt (fun e=>h1 e.symm)).trans h.blk,h.own.kept hg (by
  cases ho:ov.ownBlock with
  |none=>exact .inl rfl
  |some k=>exact .inr (fun e=>h2 k e.symm (by rw[ho]))),h.big⟩
theorem WS.below {out:Bytes}(h:WS w R pv ov out)(hb:ce w.heap.size w w'):WS w' R pv ov out:=
 h.kept (row:=Z) ⟨hb.os,hb.tape,hb.output,hb.size,fun k hk _=>hb.block k hk⟩ (by simp) (fun k hk=>by cases hk)
def Qz5 (w:ca)(R:Nat)(pv ov:de)(out l:Bytes)(e:du)(w':ca):Prop:=∃ov',e=dj (ex #[])/\WS w' R pv ov' (out++l)/\Wr R ov.ownBlock w w'/\Mv w ov.ownBlock ov'.ownBlock
theorem WS.grow {gg cap:Nat}{out l:Bytes}(h:WS w R pv ov out)(hown:w2.ownsRow (R+1) 5 1 (U (F ⟨gg,0,Z⟩) n cap) n (js out++js l))(hn:n=(out++l).length)
  (hg:w.grownBy w2 ov.ownBlock) (hat:ov.ownBlock=F gg\/gg=w.heap.size):
  WS (w2.setCell ⟨R,4,Z⟩ (U (F ⟨gg,0,Z⟩) n cap)) R pv (U (F ⟨gg,0,Z⟩) n cap) (out++l)/\Wr R ov.ownBlock w (w2.setCell ⟨R,4,Z⟩ (U (F ⟨gg,0,Z⟩) n cap))/\Mv w ov.ownBlock (Value.ownBlock (U (F ⟨gg,0,Z⟩) n cap)):=by
 have H:F R≠ov.ownBlock:=fun e=>by have:=h.ne R e.symm;omega
 have I:=(hg.block R h.lt H).trans h.blk;have E:=aao w2 R 4 #[A G 10,A G 19,A co 10000000000000000000,pv,ov] 216 (U (F ⟨gg,0,Z⟩) n cap) I;refine⟨⟨E.trans (by simp),?_,h.big⟩,(Wr.dL hg).trans (Mv.refl _ _) (Wr.aD w2 4 _),?_⟩
 ·subst hn
  rw[Ad];exact ab8 hown (by simp) _
 intro k J
 cases J
 rcases hat with h|h
 ·exact .inl h
 exact .inr (abT h.symm)
def mg (d:Nat):UInt8:=UInt8.ofNat (48+d)
theorem Qfu (h:d<10):(mg d).toNat=48+d:=by unfold mg;rw[UInt8.toNat_ofNat'];omega
def u8c (L:List Nat):List de:=L.map fun d=>Value.int .u8 ((d:Nat):Int)
def DB (w:ca)(D:Nat)(L:List Nat):Prop:=w.heap[D]?=F (O (u8c L).toArray 246 (0,0))/\L.length=64
theorem DB.cell (h:DB w D L)(hx:L[i]?=F x):w.cell? ⟨D,i,Z⟩=F (A .u8 ((x:Nat):Int)):=by rw[aaj w D i _ _ _ h.1];simp[u8c,hx]
theorem DB.frozen (h:DB w D L)(i:Nat):w.frozen? ⟨D,i,Z⟩=cl:=aax w D i _ _ h.1
theorem DB.set (h:DB w D L)(i x:Nat):DB (w.setCell ⟨D,i,Z⟩ (A .u8 ((x:Nat):Int))) D (L.set i x)/\w.grownBy (w.setCell ⟨D,i,Z⟩ (A .u8 ((x:Nat):Int))) (F D):=by refine⟨⟨?_,by rw[abb,h.2]⟩,⟨rfl,rfl,rfl,by simp,fun k _ hk=>aaN w ⟨D,i,Z⟩ k _ (fun e=>hk (by simp[e]))⟩⟩;have:=aao w D i (u8c L).toArray 246 (A .u8 ((x:Nat):Int)) h.1;rw[this];simp[u8c,List.map_set]
theorem DB.made (w:ca):DB (w.alloc (O (u8c (List.replicate 64 0)).toArray 246)) w.heap.size (List.replicate 64 0):=⟨aap w _,aaZ⟩
def mh (v v' n:Nat)(L:List Nat):Prop:=∃rest:List Nat,dg v=dg v'++rest/\n+rest.length=64/\L.drop n=rest.map (48+ ·)
theorem mh.start (v:Nat):mh v v 64 (List.replicate 64 0):=⟨[],by simp,rfl,by simp⟩
theorem mh.step {v v':Nat}(h:mh v v' (n+1) L)(hL:L.length=64)(hv:0<v'):mh v (v' / 10) n (L.set n (48+v' % 10)):=by
 obtain⟨E,I,K,J⟩:=h;refine⟨(v' % 10)::E,?_,by simp only[aaq];omega,?_⟩
 ·rw[I,Vf hv,aaW];rfl
 have H:n<(L.set n (48+v' % 10)).length:=by rw[abb];omega
 rw[aaL H,List.getElem_set_self,List.drop_set_of_lt (acJ n),J];rfl
theorem Qwi {v:Nat}(h:v<BB):(dg v).length<=20:=V9 (ab1 h (by unfold BB;decide))
theorem mh.room {v v':Nat}(h:mh v v' n L)(hv:v<BB):44<=n:=by obtain⟨H,E,I,_⟩:=h;have:=Qwi hv;rw[E,aag]at this;omega
def qF (v n:Nat)(L:List Nat):Prop:=∃j,n+j+(dg v).length=64/\L.drop n=(List.replicate j 0++dg v).map (48+ ·)
theorem qF.start {v:Nat}(h:mh v 0 n L):qF v n L:=by obtain⟨I,E,J,H⟩:=h;rw[Jz,abv]at E;exact⟨0,by rw[E];omega,by rw[H,E];rfl⟩
theorem qF.step {v:Nat}(h:qF v (n+1) L)(hL:L.length=64):qF v n (L.set n 48):=by
 obtain⟨j,I,H⟩:=h;refine⟨j+1,by omega,?_⟩
 have E:n<(L.set n 48).length:=by rw[abb];omega
 rw[aaL E,List.getElem_set_self,List.drop_set_of_lt (acJ n),H];rfl
def WdA (v D:Nat)(w:ca)(vv nv:de)(wr:ca):Prop:=∃(v' n:Nat) (L:List Nat),vv=A co v'/\nv=A G n/\v'<=v/\mh v v' n L/\DB wr D L/\ce w.heap.size w wr
def WdB (v width D:Nat)(w:ca)(nv:de)(wr:ca):Prop:=∃(n:Nat) (L:List Nat),nv=A G n/\n<=64/\44<=n/\(64-n<=width\/64-n=(dg v).length)/\qF v n L/\DB wr D L/\ce w.heap.size w wr
theorem Cr (v width:Nat){out:Bytes}(h:WS w R pv ov out)(hs:SG w)(hv:v<BB)(hw:width<=19)(h0:0<v\/0<width)(hl:out.length<=1099511627776):dk db 255 #[ff (F ⟨R,0,Z⟩),A co v,A G width] w (Qz5 w R pv ov out ((pad v width).map mg)):=by
 have HS:=zq h;have ew:=zq hs;have HV:=zq hv;have dS:=zq (mh.start v)
 have hsz:4<w.heap.size:=by have:=h.big;have:=h.lt;omega
 have sU:=h.lt;clear h hs hv;go_enter func255,ntmps255;go_wp2_with fail;go_loopw [1,7] (fun vv nv wr=>WdA v w.heap.size w vv nv wr) (fun vv _ _=>(intOf vv).toNat)
 case atStart=>exact⟨v,64,List.replicate 64 0,rfl,rfl,aab _,dS,DB.made w,Qq w _⟩
 clear dS
 case round=>
  obtain⟨v',n,L,rfl,rfl,hvv,hst,rM,hbl⟩:=hrel;have HST:=zq hst;have lR:=zq rM;have aL:=zq hbl;have hroom:=hst.room HV;clear hst rM hbl;by_cases hv0:v'=0
  ·subst hv0
   have ME:=zq (qF.start HST)
   have HLEN:da (64-n=(dg v).length):=by obtain⟨rest,a1,a2,_⟩:=HST.o;show _=_;rw[Jz,abv]at a1;rw[a1];omega
   have JZ:n<=64:=by obtain⟨rest,a1,a2,_⟩:=HST.o;omega
   go_wp2_with fail;go_loopw [7] (fun nv wr=>WdB v width w.heap.size w nv wr) (fun nv _=>(intOf nv).toNat)
   case atStart=>exact⟨n,L,rfl,JZ,hroom,.inr HLEN,ME,lR,aL⟩
   clear HST lR aL ME HLEN hroom JZ
   case round=>
    rename_i wr2 _;obtain⟨n,L,rfl,JZ,hroom,ZA,hst,rM,hbl⟩:=hrel;have HST:=zq hst;have lR:=zq rM;have aL:=zq hbl;have adW:=zq ZA;clear hst rM hbl ZA;by_cases hlt:64-n<width
    ·obtain⟨m,rfl⟩:∃m,n=m+1:=⟨n-1,by omega⟩
     have F0:((m+1:Nat):Int)=(m:Int)+1:=by omega
     have F1:(64:Int)-((m:Int)+1)<(width:Int):=by omega
     have HN:=zq (HST.o.step lR.o.2);obtain⟨z,hz⟩:∃z,L[m]?=F z:=⟨_,aad (by rw[lR.o.2];omega)⟩;have c3:=lR.o.cell hz;have c4:=lR.o.frozen m;have sH:=zq (lR.o.set m 48)
     have XE:m<64:=by omega
     clear hz;rw[F0];go_wp2_with fail
     have aq:WdB v width w.heap.size w (A G m) (wr.setCell ⟨w.heap.size,m,Z⟩ (A .u8 48)):=
      ⟨m,L.set m 48,rfl,by omega,by omega,.inl (by omega),HN,sH.o.1,aL.o.trans ((aaw _ _).setCell (by exact aab _) _)⟩
     exact⟨aq,by simp[intOf]<;>omega⟩
    have F1: ¬((64:Int)-(n:Int)<(width:Int)):=by omega
    have agK:L.drop n=(pad v width).map (48+ ·)/\(pad v width).length=64-n:=by
     obtain⟨j,a1,a2⟩:=HST.o
     have hj:j=width-(dg v).length:=by rcases adW.o with h|h<;>omega
     refine⟨by rw[a2,hj];rfl,?_⟩;unfold pad;rw[aag,aaZ];omega
    obtain⟨mG,jW⟩:=agK;obtain⟨m,hm⟩:=xq (64-n);rw[<-hm]at jW
    have cD:0<m:=by
     rw[<-jW];unfold pad;rw[aag,aaZ];rcases h0 with h|h
     ·have:0<(dg v).length:=by rw[Vf h];simp
      omega
     omega
    have XE:m<=64:=by omega
    have cU:=zq (HS.o.below aL);obtain⟨i0,hi,hz0,hz1,hz2⟩:=aa0 Tryz.kL;obtain⟨c0,c1,c2,c3,c4,c5⟩:=cU.o.cell;have xR:=zq mG;have mO:=zq jW;have HM:=zq hm;have dR:(0:Int)<=(n:Int):=aaJ _
    have cB:(n:Int)<=64:=by omega
    have gF: ¬(64=n):=by omega
    have oF:n<64:=by omega
    have PY:da (∀(j:Nat) (u:de),(js ((pad v width).map mg))[j]?=F u->wr.cell? ((⟨w.heap.size,n,Z⟩:Addr).add j)=F u):=by
     intro j u hu
     have e:(⟨w.heap.size,n,Z⟩:Addr).add j=⟨w.heap.size,n+j,Z⟩:=by unfold Addr.add;split<;>simp_all
     rw[e];simp only[js,ab2,aa9,abD]at hu;obtain⟨d,hd,rfl⟩:=hu
     have hL:L[n+j]?=F (48+d):=by rw[<-abg,xR.o,aa9,hd];rfl
     rw[lR.o.cell hL]
     have I9:d<10:=by
      have:=aai hd;unfold pad at this;rcases aaP.1 this with h|h
      ·rw[aea]at h;omega
      exact Qgg v d h
     simp only[Function.comp];rw[Qfu I9]
    have kU:da (R<wr.drew.heap.size):=cU.o.lt
    have bV:da (F R≠ov.ownBlock):=fun e=>by have:=cU.o.ne R e.symm;omega
    clear mG jW hm;go_wp2_with fail;go_region_law ((refine ad6 _ (by rfl) _ _ _ (by rfl) (R+1) 5 i0 _ 1 1 ii hi hz0 hz1 hz2 rfl (by omega) ov out.length (js out) (by rfl) (cU.o.own.drew) ⟨w.heap.size,n,Z⟩ (64-n) (64-n) (js ((pad v width).map mg)) (by rfl) (by rw[Qwp,aas];have:=mO.o;have:=HM.o;omega) (fun j u hu=>PY.o j u hu) (Qf1) (by omega) (by unfold maxLen;omega) (by omega) (by have:=cU.o.lt;simp;omega) wr.heap.size (by simp) ?_;intro gg cap w2 hown2 hgrow hat dJ;have d4:w2.cell? ⟨R,4,Z⟩=F ov:=(hgrow.cell_far ⟨R,4,Z⟩ kU.o bV.o).trans c4;have d5:w2.frozen? ⟨R,4,Z⟩=cl:=(hgrow.frozen_far ⟨R,4,Z⟩ kU.o bV.o).trans c5))
    all_goals
     obtain⟨g1,g2,g3⟩:=cU.o.grow (l:=(pad v width).map mg) hown2 (by rw[aag,aas];have:=mO.o;have:=HM.o;omega) ⟨hgrow.os,hgrow.tape,hgrow.output,hgrow.size,hgrow.block⟩ hat;clear hown2 hgrow hat dJ d4 d5;go_end0;exact⟨_,rfl,g1,(Wr.au aL).trans (Mv.refl _ _) g2,fun k hk=>(g3 k hk).imp id (fun h=>aar aL.o.size h)⟩
  have hvp:0<v':=by omega
  obtain⟨m,rfl⟩:∃m,n=m+1:=⟨n-1,by omega⟩;obtain⟨d,hd⟩:=xq (v' % 10);obtain⟨q,hq⟩:=xq (v' / 10)
  have I9:d<10:=by omega
  have F0:((m+1:Nat):Int)=(m:Int)+1:=by omega
  have F1:(v':Int) % 10=(d:Int):=by omega
  have F2:(v':Int) / 10=(q:Int):=by omega
  have hqv:q<v':=by omega
  have F3:IntKind.u64.wrap (q:Int)=(q:Int):=Vl (by have:=HV.o;unfold BB at this;omega);have HN:=zq (HST.o.step lR.o.2 hvp);rw[<-hd,<-hq]at HN;have jt:=ew.o.below aL hsz;have c1:=jt d I9;have cU:=HS.o.below aL;have c2:=cU.cell.1;obtain⟨z,hz⟩:∃z,L[m]?=F z:=⟨_,aad (by rw[lR.o.2];have:=HST.o;obtain⟨r,_,h2,_⟩:=this;omega)⟩
  have XE:m<64:=by have:=(aaf.1 hz).1;rw[lR.o.2]at this;exact this
  have c3:=lR.o.cell hz;have c4:=lR.o.frozen m;have sH:=zq (lR.o.set m (48+d));have kY:=zq hvv;clear hd hq hz jt cU;rw[F0];go_wp2_with fail
  have aq:WdA v w.heap.size w (A co q) (A G m) (wr.setCell ⟨w.heap.size,m,Z⟩ (A .u8 (48+(d:Int)))):=
   ⟨q,m,L.set m (48+d),rfl,rfl,by omega,HN,sH.o.1,aL.o.trans ((aaw _ _).setCell (by exact aab _) _)⟩
  exact⟨aq,by simp[intOf]<;>omega⟩
def lenOf:de->Nat
 | U _ n _=>n
 |_=>0
def PlA (N L:Nat)(w:ca)(av pv:de)(wr:ca):Prop:=∃(k:Nat) (xs:List Nat),Rd wr av xs/\val xs=N / UU^k/\xs.length<=L/\wr.ownsRow w.heap.size 101 1 pv k (ws (lN N k))/\ce w.heap.size w wr/\(k=0\/0<N / UU^(k-1))
theorem Mo {e:TypeId}{xs:List de}(h:w.ownsRow b e s v n xs):lenOf v=n:=by
 rcases h.2 with ⟨rfl,E⟩|⟨g,H,I,rfl,_⟩
 ·rw[E];rfl
 rfl
def SJ (R:Nat)(pv:de)(og:Option Nat)(w5:ca)(l:Bytes)(wr:ca):Prop:=∃ov:de,WS wr R pv ov l/\Wr R og w5 wr/\Mv w5 og ov.ownBlock
theorem SJ.push {LG:de}{w5 wr wa wz:ca}{l:Bytes}(hw:Wr R og w5 wr)(hm:Mv w5 og ov.ownBlock)(ha:ce wr.heap.size wr wa)(g1:WS wz R pv LG l)(g2:Wr R ov.ownBlock wa wz)(g3:Mv wa ov.ownBlock LG.ownBlock):SJ R pv og w5 l wz:=
 ⟨LG,g1,hw.trans hm ((Wr.au ha).trans (Mv.refl _ _) g2),Mv.trans (w':=wr) hm hw.size fun k hk=>(g3 k hk).imp id (fun h=>aar ha.size h)⟩
def PlB (R:Nat)(pv:de)(og:Option Nat)(out:Bytes)(m width:Nat)(w5:ca)(nv:de)(wr:ca):Prop:=∃n:Nat,nv=A G n/\n<=width/\min width m<=n/\SJ R pv og w5 (out++(List.replicate (width-n) 0).map mg) wr
def PlC (R:Nat)(pv:de)(og:Option Nat)(out:Bytes)(N k width:Nat)(w5:ca)(nv:de)(wr:ca):Prop:=∃j:Nat,nv=A G ((j:Int)-1)/\j<=k/\SJ R pv og w5 (out++(pad (N / UU^j) (width-19*j)).map mg) wr
theorem Cj (width:Nat){out:Bytes}(h:WS w R pv ov out)(hs:SG w)(hv:Rd w v xs)(hl:xs.length<=17179869184)(hw:width<=274877906944)(ho:out.length<=274877906944):dk db 238 #[ff (F ⟨R,0,Z⟩),v,A G width] w (Qz5 w R pv ov out ((pad (val xs) width).map mg)):=by
 have HS:=zq h;have ew:=zq hs;have HV:=zq hv
 have hsz:4<w.heap.size:=by have:=h.big;have:=h.lt;omega
 have sU:=h.lt;obtain⟨N,hN⟩:=xq (val xs);rw[<-hN];obtain⟨L,hL⟩:=xq xs.length;rw[<-hL]at hl
 have hNL:N<BB^L:=by rw[hN,hL];exact aN hv.ok
 have gY:=zq hNL
 have tO:da (val xs=N / UU^0):=by show _=_;rw[aen,Nat.div_one,hN]
 have fp:da (xs.length<=L):=by show _<=_;omega
 obtain⟨i0,hi,hz0,hz1,hz2⟩:=aa0 Tryz.r5;clear h hs hv hN hL hNL;go_enter func238,ntmps238;go_wp2_with fail;go_loopw [1,6] (fun av p wr=>PlA N L w av p wr) (fun _ p _=>2*L+2-lenOf p)
 case atStart=>exact⟨0,xs,HV,tO,fp,abx _ _ _ _,aaw _ _,.inl rfl⟩
 clear HV tO fp
 case round=>
  obtain⟨k,xs,bQ,hval,fD,hown,hbl,hk⟩:=hrel;obtain⟨b,hb⟩:=xq (dH xs);have gj:=zq bQ;have gm:=zq hval;have HOWN:=zq hown;have aL:=zq hbl;have HK:=zq hk;have hb0:=Gv bQ.ok;rw[<-hb]at hb0;have HB:=zq hb;have bp:=zq hb0;have EH:=Mo hown;have HLP:=zq EH;clear bQ hval hown hbl hk hb hb0 EH;by_cases hz:b=0
  ·have I3:decide (0<b)=cl:=by simp;omega
   have HZ:da (N / UU^k=0):=by show _=_;rw[<-gm.o];exact bp.o.1 hz
   obtain⟨po,gK,rfl,wV,yj,wX⟩:=Qj HOWN
   have hkL:k<=2*L+1:=by
    rcases HK.o with h|h
    ·omega
    have:=Me gY h;omega
   have kW:=zq wX;have HPM:=zq yj;obtain⟨wh,ZE⟩:∃wh:Int,wh=((k:Int)-1)*19:=⟨_,rfl⟩;obtain⟨Lu,WQ⟩:=xq (19*k);have E1:((k:Int)-1)*19=wh:=ZE.symm
   have E2:wh+19=(Lu:Int):=by omega
   have E3:max (Lu:Int) 0=(Lu:Int):=by omega
   have ag0:wh<=20890720927744/\ -19<=wh:=by omega
   obtain⟨ahJ,ahK⟩:=ag0;have cU:=zq (HS.o.below aL);have jt:=zq (ew.o.below aL hsz);have ua:=cU.o.lt;have c1:=cU.o.cell.2.1;have HWH:=zq ZE;have acR:=zq WQ
   have XX:∀q,(Value.slice po k gK).ownBlock=F q->q≠R/\ov.ownBlock≠F q:=fun q hq=>by have h1:=HOWN.o.lt q hq;refine⟨by omega,fun e=> ?_⟩;have:=HS.o.ne q e;omega
   have adn:=zq XX;obtain⟨w5,jJ⟩:=xq wr
   have hkb:Lu<=20890720927744:=by omega
   clear hz wX yj ZE WQ XX;go_wp2_with fail;refine(J8 gj (by omega)).mono ?_;rintro e w' ⟨rfl,rfl⟩;rw[<-HB.o];go_wp2_with fail;have oB:=zq jJ;clear jJ c1;go_loopw [11] (fun nv wr=>PlB R pv ov.ownBlock out Lu width w5 nv wr) (fun nv _=>(intOf nv).toNat)
   case atStart=>exact⟨width,rfl,aab _,Nat.min_le_left _ _,ov,by rw[Nat.sub_self];simpa using (oB.o ▸ cU.o),by rw[oB.o];exact Wr.refl _ _ _,Mv.refl _ _⟩
   case round=>
    rename_i wr2 _;obtain⟨n,rfl,hnw,z6,Oo,uk,ZF,lD⟩:=hrel;have tV:=zq uk;have fO:=zq ZF;have lU:=zq lD;have c1:=uk.cell.2.1;have c4:=uk.cell.2.2.2.2.1;have c5:=uk.cell.2.2.2.2.2;clear uk ZF lD;obtain⟨j0,yf,cZ,eu,hk2⟩:=aa0 Tryz.kL;have HA:=zq (Qq wr (O #[A .u8 48] 5));have j6:=zq (tV.o.below HA);have kU:da (R<(wr.alloc (O #[A .u8 48] 5)).heap.size):=j6.o.lt
    have bV:da (F R≠Oo.ownBlock):=fun e=>by have:=j6.o.ne R e.symm;omega
    have SX:=j6.o.cell.2.2.2.2.1;have ca5:=j6.o.cell.2.2.2.2.2;have CA4:=zq SX;have CA5:=zq ca5
    have fV:(out++(List.replicate (width-n) 0).map mg).length<=549755813888:=by rw[aag,aas,aaZ];omega
    obtain⟨l0,hl0⟩:=xq (out++(List.replicate (width-n) 0).map mg);rw[<-hl0]at fV tV j6;have yP:=zq hl0;clear SX ca5 hl0;by_cases lA:Lu<n
    ·go_wp2_with (at_builtin;refine abk _ rfl _ _ 88 rfl (R+1) 5 j0 (A .u8 0) 1 1 ii yf cZ eu hk2 rfl (by omega) Oo l0.length (js l0) rfl j6.o.own ⟨wr.heap.size,0,Z⟩ 1 1 [A .u8 48] rfl rfl (ar.Qg _ _ _ _ rfl) (by simp[Value.oneCell']) (by omega) (by unfold maxLen;omega) (by omega) (by have:=kU.o;simp at this;simp;omega) (wr.heap.size+1) (by simp) ?_)
     intro gg cap w2 hown2 hgrow hat dJ;have d4:w2.cell? ⟨R,4,Z⟩=F Oo:=(hgrow.cell_far ⟨R,4,Z⟩ kU bV).trans CA4;have d5:w2.frozen? ⟨R,4,Z⟩=cl:=(hgrow.frozen_far ⟨R,4,Z⟩ kU bV).trans CA5;have HG:=zq (j6.o.grow (l:=[48]) hown2 (by simp) hgrow (by simpa using hat));clear hown2 hgrow hat dJ;go_wp2_with fail
     have aq:PlB R pv ov.ownBlock out Lu width w5 (A G ((n:Int)-1)) (w2.setCell ⟨R,4,Z⟩ (U (F ⟨gg,0,Z⟩) (l0.length+1) cap)):=by
      refine⟨n-1,by congr 1;omega,by omega,by omega,?_⟩
      have e:out++(List.replicate (width-(n-1)) 0).map mg=l0++[48]:=by rw[yP.o,show width-(n-1)=width-n+1 from by omega,List.replicate_succ',abl,<-aaW];rfl
      rw[e];exact SJ.push fO lU HA HG.o.1 HG.o.2.1 HG.o.2.2
     exact⟨aq,by simp[intOf]<;>omega⟩
    have hn:width-n=width-19*k:=by have:=acR.o;omega
    have PT:=zq hn;clear hn;go_wp2_with fail;go_loopw [12] (fun nv wr=>PlC R pv ov.ownBlock out N k width w5 nv wr) (fun nv _=>(intOf nv+1).toNat)
    case atStart=>
     refine⟨k,rfl,aab _,Oo,?_,fO,lU⟩
     have e:out++(pad (N / UU^k) (width-19*k)).map mg=l0:=by rw[yP.o,HZ.o,Qxf,PT.o]
     rw[e];exact tV.o
    clear fO lU tV j6 yP PT HA kU bV CA4 CA5 c1 c4 c5 fV lA z6
    case round=>
     rename_i wr3 _;obtain⟨j,rfl,hjk,LG,uk,ZG,lD⟩:=hrel;have tV:=zq uk;have fO:=zq ZG;have lU:=zq lD;clear uk ZG lD
     cases j with
     |zero=>
      have wj: ¬((0:Int)<=((0:Nat):Int)-1):=by omega
      go_wp2_with fail;go_end0;have DY:=tV.o;rw[aen,Nat.div_one,abI,Nat.sub_zero]at DY;refine⟨LG,rfl,DY,?_,?_⟩
      ·rw[oB.o]at fO
       exact(Wr.au aL).trans (Mv.refl _ _) fO
      rw[oB.o]at lU
      exact fun q hq=>(lU.o q hq).imp id (fun h=>aar aL.o.size h)
     |succ i=>
      have fU:(((i+1:Nat):Int)-1)=(i:Int):=by omega
      rw[fU];clear fU;have c1:=tV.o.cell.2.1;obtain⟨g,hg,hgb,iJ,ud⟩:=kW.o (by omega);subst hg;obtain⟨XW,NY⟩:=adn.o g rfl;obtain⟨x,hx⟩:=xq (um N i)
      have cp:wr.cell? ⟨g,i,Z⟩=F (A co x):=by
       have e1:w5.cell? ⟨g,i,Z⟩=F (A co x):=by rw[oB.o,ud i (by omega),hx];exact Qub (Qfj (by omega))
       rw[<-e1];exact abe (fO.o.block g (by rw[oB.o];exact iJ) XW (fun e=>NY e.symm))
      have fY:x<BB:=by rw[hx];exact ab1 (Qvx _ _) Qcv
      have yY:da (SG wr):=by
       have h5:SG w5:=by rw[oB.o];exact jt.o
       have cN:=HS.o.big;exact h5.wr fO (by omega) (fun e=>by have:=HS.o.ne _ e;omega)
      have aic:(0:Int)<=(i:Int):=aaJ _
      have cB:(i:Int)<(k:Int):=by omega
      obtain⟨l3,qO⟩:=xq (out++(pad (N / UU^(i+1)) (width-19*(i+1))).map mg);rw[<-qO]at tV
      have WX:l3.length<=1099511627776:=by have h1:N / UU^(i+1)<BB^L:=abp (acB _ _) gY;have h2:=Zw h1;rw[qO,aag,aas,Ax];omega
      have CH:=zq qO;have HX:=zq hx;have vz:=zq fY;by_cases gG:i+1=k
      ·have rT:((i:Int)==(k:Int)-1)=dq:=by simp;omega
       obtain⟨wd,hwd⟩:∃wd:Int,wd=(width:Int)-wh:=⟨_,rfl⟩;have E4:(width:Int)-wh=wd:=hwd.symm;obtain⟨m1,cD⟩:=xq (width-19*i);obtain⟨m2,gX⟩:=xq (min m1 19);have ZE:=HWH.o
       have E5:max wd 0=(m1:Int):=by omega
       have E6:min (m1:Int) 19=(m2:Int):=by omega
       have agr:m2<=19:=by omega
       have hx0:0<x:=by
        rcases HK.o with h|h
        ·omega
        rw[show k-1=i from by omega]at h;have e:=M5 N i;have hzz:=HZ.o;rw[<-gG]at hzz;rw[hzz,acH,aaX]at e;rw[hx,<-e];exact h
       have eO:da (l3++(pad x m2).map mg=out++(pad (N / UU^i) (width-19*i)).map mg):=by show _=_;have hzz:=HZ.o;rw[<-gG]at hzz;rw[qO,hx,gX,cD,Qb7 hzz,abl,aaW]
       clear hx fY qO gG hwd cD gX ud NY XW ZE;go_wp2_with fail;refine(Cr x m2 tV yY vz agr (.inl hx0) WX).mono ?_;rintro e w8 ⟨ov4,rfl,r1,r2,r3⟩;rw[eO.o]at r1;have aq:PlC R pv ov.ownBlock out N k width w5 (A G ((i:Int)-1)) w8:=⟨i,rfl,by omega,ov4,r1,fO.o.trans lU r2,Mv.trans (w':=wr) lU fO.o.size r3⟩;have aQ:=zq aq;clear r1 r2 r3 aq;go_wp2_with fail
       exact⟨aQ,by simp[intOf]<;>omega⟩
      have rT:((i:Int)==(k:Int)-1)=cl:=by simp;omega
      have eO:da (l3++(pad x 19).map mg=out++(pad (N / UU^i) (width-19*i)).map mg):=by
       show _=_
       have dO:0<N / UU^(i+1):=by
        rcases HK.o with h|h
        ·omega
        refine aal h (Nat.div_le_div_left (aa6 N7 (by omega)) (abC N7))
       rw[qO,hx,Qb6 dO,abl,aaW]
      clear hx fY qO gG ud NY XW;go_wp2_with fail;refine(Cr x 19 tV yY vz (aab _) (.inr (by omega)) WX).mono ?_;rintro e w8 ⟨ov4,rfl,r1,r2,r3⟩;rw[eO.o]at r1;have aq:PlC R pv ov.ownBlock out N k width w5 (A G ((i:Int)-1)) w8:=⟨i,rfl,by omega,ov4,r1,fO.o.trans lU r2,Mv.trans (w':=wr) lU fO.o.size r3⟩;have aQ:=zq aq;clear r1 r2 r3 aq;go_wp2_with fail
      exact⟨aQ,by simp[intOf]<;>omega⟩
  have I3:(0:Int)<(b:Int):=by omega
  have HZ:da (0<N / UU^k):=by show _<_;rw[<-gm.o];exact abr fun h=>hz (bp.o.2 h)
  have kT:=zq (Me gY HZ);obtain⟨aE,hU⟩:=xq UU;have cU:=HS.o.below aL
  have c2:wr.cell? ⟨R,2,Z⟩=F (A co aE):=by rw[hU];exact cU.cell.2.2.1
  have HU:=zq hU;clear hz hU cU;go_wp2_with fail;refine(J8 gj (by omega)).mono ?_;rintro e w' ⟨rfl,rfl⟩;rw[<-HB.o];go_wp2_with fail;refine(Kd aE gj (by omega) (by rw[HU.o];exact N7) (by rw[HU.o];exact Qcv)).mono ?_;rintro e w3 ⟨qv,qs,rfl,q1,q2,q3,q4,q5⟩;obtain⟨r,hr⟩:=xq (val xs % aE);rw[<-hr]
  have HR:da (r=um N k):=by show _=_;rw[hr,gm.o,HU.o];rfl
  have HQ:da (val qs=N / UU^(k+1)):=by show _=_;rw[q2,gm.o,HU.o,Qxd]
  have Q1:=zq q1
  have sD:da (qs.length<=L):=by show _<=_;omega
  have qj:da (ce w.heap.size w w3):=aL.o.trans (q5.mono aL.o.size);have CN:=zq (Qy HOWN q5 (aab _));have hz3:=qj.o.size;have Oi:=q5.size
  have hkb:k<=549755813888:=by have:=kT.o;omega
  clear q1 q2 q3 q4 q5 hr c2;go_wp2_with (at_builtin;refine abn _ rfl _ _ 59 rfl w.heap.size 101 i0 (A co 0) 1 8 underlying59 hi hz0 hz1 hz2 rfl (by decide) _ _ _ rfl (aaU CN.o _) ⟨w3.heap.size,0,Z⟩ 1 1 [A co r] rfl rfl (ar.Qg _ _ _ _ rfl) (by simp[Value.oneCell']) (by unfold maxLen;omega) (by omega) (by simp;omega) ?_);intro v4 w4 bg aJ _ gB
  have jQ:da (w4.ownsRow w.heap.size 101 1 v4 (k+1) (ws (lN N (k+1)))):=by
   have e:ws (lN N (k+1))=ws (lN N k)++[A co r]:=by rw[Qya,HR.o];simp[ws]
   show World.ownsRow _ _ _ _ _ _ _;rw[e];exact bg
  have cC:da (ce w.heap.size w w4):=aaF (qj.o.alloc hz3 _) aJ (by simp;omega) (fun q hq=>(aaB CN q hq).1)
  have lV:da (Rd w4 qv qs):=Rd.kept (Q1.o.1.alloc _) aJ (fun q hq e=>by
   have h1:=(Q1.o.2 q e).1;have h2:=(HOWN.o.lt q hq).2
   omega)
  clear bg aJ gB;go_wp2_with fail;have aq:PlA N L w qv v4 w4:=⟨k+1,qs,lV,HQ,sD,jQ,cC,.inr (by rw[abW];exact HZ.o)⟩;have hl4:=Mo jQ;have JQ:=HLP.o;have px:=kT.o;exact⟨aq,by omega⟩
def PW (w:ca)(R:Nat)(og:Option Nat)(pv:de)(np:Nat):Prop:=∃gp cap,(0<np->pv=U (F ⟨gp,0,Z⟩) np cap/\np<=cap/\cap<=maxLen/\gp<w.heap.size/\gp≠R/\og≠F gp)/\∀i,i<np-> ∃v bs,w.cell? ⟨gp,i,Z⟩=F v/\Rd w v bs/\val bs=UU^2^i/\bs.length<=274877906944/\2^i<=34359738368/\ ∀q,v.ownBlock=F q->q≠R/\og≠F q
theorem PW.wr (h:PW w R og pv np)(hw:Wr R og w w')(hm:Mv w og og'):PW w' R og' pv np:=by
 obtain⟨gp,E,H,I⟩:=h;refine⟨gp,E,fun h0=> ?_,fun i hi=> ?_⟩
 ·obtain⟨a1,a2,a3,a4,a5,a6⟩:=H h0
  refine⟨a1,a2,a3,aal a4 hw.size,a5,fun e=> ?_⟩;rcases hm gp e with h|h
  ·exact a6 h
  omega
 obtain⟨a1,a2,a3,a4,a5,a6⟩:=H (by omega);obtain⟨v,bs,b1,b2,b3,b4,b5,b6⟩:=I i hi;refine⟨v,bs,(abe (hw.block gp a4 a5 (fun e=>a6 e.symm))).trans b1,b2.wr hw (fun k hk=>b6 k hk),b3,b4,b5,fun q hq=>⟨(b6 q hq).1,fun e=> ?_⟩⟩;rcases hm q e with h|h
 ·exact(b6 q hq).2 h
 have:=b2.1 q hq;omega
theorem PW.below (h:PW w R og pv np)(hb:ce w.heap.size w w'):PW w' R og pv np:=h.wr (Wr.au hb) (Mv.refl _ _)
def Py (k np:Nat):Prop:=∀(R width:Nat) (v pv ov:de) (xs:List Nat) (out:Bytes) (w:ca),WS w R pv ov out->SG w->PW w R ov.ownBlock pv np->Rd w v xs->(∀q,v.ownBlock=F q->q≠R/\ov.ownBlock≠F q)->xs.length<=17179869184->out.length+(pad (val xs) width).length<=274877906944->dk db 216 #[ff (F ⟨R,0,Z⟩),v,A G ((k:Int)-1),A G width] w (Qz5 w R pv ov out ((pad (val xs) width).map mg))
theorem Qqe (np:Nat):Py 0 np:=by
 intro R width v pv ov xs out w h hs hp hv hne hl hb;have HS:=zq h;have ew:=zq hs;have HV:=zq hv
 have hw:width<=274877906944:=by rw[Ax]at hb;omega
 have ho:out.length<=274877906944:=by omega
 have HW:=zq hw;have HO:=zq ho
 have cB:decide (((0:Nat):Int)-1<0)=dq:=by decide
 clear h hs hp hv hne hb hw ho;go_enter fb,fa;go_wp2_with fail;refine(Cj width HS ew HV hl HW HO).mono ?_;rintro e w1 ⟨BN,rfl,r1,r2,r3⟩;have HR:=zq (And.intro r1 (And.intro r2 r3));clear r1 r2 r3;go_wp2_with fail;go_end0;exact⟨BN,rfl,HR.o.1,HR.o.2.1,HR.o.2.2⟩
theorem Qqa (hk:k<np)(IH:Py k np):Py (k+1) np:=by
 intro R width v pv ov xs out w h hs hp hv hne hl hb;have HS:=zq h;have ew:=zq hs;have HP:=zq hp;have HV:=zq hv;have bV:=zq hne;have pY:=zq hb;have HI:=zq IH
 have hw:width<=274877906944:=by rw[Ax]at hb;omega
 have ho:out.length<=274877906944:=by omega
 obtain⟨ao,cap,rfl,bU,hcm,bm,-⟩:=hv.2
 have fU:(((k+1:Nat):Int)-1)=(k:Int):=by omega
 rw[fU]
 have cB:decide ((k:Int)<0)=cl:=by simp
 have sU:=h.lt;clear h hs hp hv hne hb bm hcm fU IH;by_cases zt:xs.length<=12
 ·have gF:decide ((xs.length:Int)<=12)=dq:=by simp;omega
  clear zt;go_enter fb,fa;go_wp2_with fail;refine(Cj width HS ew HV hl hw ho).mono ?_;rintro e w1 ⟨BN,rfl,r1,r2,r3⟩;have HR:=zq (And.intro r1 (And.intro r2 r3));clear r1 r2 r3;go_wp2_with fail;go_end0;exact⟨BN,rfl,HR.o.1,HR.o.2.1,HR.o.2.2⟩
 have gF:decide ((xs.length:Int)<=12)=cl:=by simp;omega
 obtain⟨gp,gK,mG,jW⟩:=HP.o;obtain⟨rfl,wV,yj,iJ,DZ,hgo⟩:=mG (by omega);obtain⟨bv,bs,cb,hbr,lq,hbl,hb2,qL⟩:=jW k hk
 have JM:k<64:=by have h1:2^k<2^36:=abp hb2 (by decide);have:=(Nat.pow_lt_pow_iff_right (a:=2) (by omega)).1 h1;omega
 have FF:=zq hbr;have oq:=zq lq;have c3:=HS.o.cell.2.2.2.1;have c1:=HS.o.cell.2.1;have yf:(0:Int)<=(k:Int):=aaJ _
 have wG:(k:Int)<(np:Int):=by omega
 obtain⟨P,hP⟩:=xq (UU^2^k);rw[<-hP]at lq
 have hP0:0<P:=by rw[hP];exact abC N7
 have HP0:=zq hP0;have HPE:=zq hP;have HBN:=zq qL;clear mG jW hbr iJ DZ hgo zt hP0 hP qL;by_cases hlt:val xs<val bs
 ·have HC:=zq (Hl hlt)
  clear hlt lq;go_enter fb,fa;go_wp2_with fail;refine(Vy HV FF).mono ?_;rintro e w1 ⟨rfl,hb1⟩;rw[HC.o];have aK:=zq hb1;clear hb1 c3 c1 cb;go_wp2_with fail;refine(HI.o R width _ _ ov xs out _ (HS.o.below aK) (ew.o.below aK (by have:=HS.o.big;omega)) (HP.o.below aK) (HV.o.below aK) bV hl pY).mono ?_;rintro e w2 ⟨BN,rfl,r1,r2,r3⟩;have HR:=zq (And.intro r1 (And.intro r2 r3));clear r1 r2 r3;go_wp2_with fail;go_end0;exact⟨BN,rfl,HR.o.1,(Wr.au aK).trans (Mv.refl _ _) HR.o.2.1,fun q hq=>(HR.o.2.2 q hq).imp id (fun h=>aar aK.o.size h)⟩
 obtain⟨c,hc⟩:=xq (bY (val xs) (val bs))
 have hcb:decide (c<0)=cl:=by
  rw[hc];unfold bY;rw[if_neg hlt]
  split<;>decide
 have HC:=zq hc;obtain⟨lw,hlw⟩:=xq (19*2^k);have S1:IntKind.u64.wrap (k:Int)=(k:Int):=Vl (by omega)
 have S2:min k 64=k:=by omega
 have S3:IntKind.i64.wrap (19*2^k)=(lw:Int):=by
  have e:(19*2^k:Int)=((19*2^k:Nat):Int):=by rw[abH,acD];rfl
  rw[e,<-hlw];exact abh _ (by omega)
 obtain⟨w1',YV⟩:=xq (width-lw)
 have S4:max ((width:Int)-(lw:Int)) 0=(w1':Int):=by omega
 have ais:lw<=652835028992:=by omega
 have UG:P=10^lw:=by rw[HPE.o,hlw,Qp4,<-Nat.pow_mul]
 have rR:∀q r,q=val xs / val bs->r=val xs % val bs->pad (val xs) width=pad q w1'++pad r lw/\r<10^lw:=by
  intro q r hq hr
  have pk:val bs=10^lw:=by rw[lq,UG]
  have hb0:0<val bs:=by rw[lq];exact HP0.o
  have hr2:r<10^lw:=by rw[hr,<-pk];exact abL _ hb0
  have lZ:0<q:=by rw[hq];exact Nat.div_pos (acI hlt) hb0
  have e:val xs=q*10^lw+r:=by rw[hq,hr,<-pk,aaz];exact(abP _ _).symm
  refine⟨?_,hr2⟩;rw[e,D8 lZ hr2,Qms hr2,YV]
 have GK:=zq rR
 have hb0:0<val bs:=by rw[lq];exact HP0.o
 have bp:=zq hb0;clear hlt lq hc hlw hb2 YV UG rR hb0;go_enter fb,fa;go_wp2_with fail;refine(Vy HV FF).mono ?_;rintro e w1 ⟨rfl,hb1⟩;rw[<-HC.o];have aK:=zq hb1;have hz1:=hb1.size;have et:=zq (HS.o.below hb1);have c3':=et.o.cell.2.2.2.1;have c1':=et.o.cell.2.1
 have cb':w1.cell? ⟨gp,k,Z⟩=F bv:=by rw[hb1.cell (p:=⟨gp,k,Z⟩) (aaY w _ cb)];exact cb
 clear hb1 c3 c1 cb;go_wp2_with fail;refine(U3 xs bs _ (HV.o.below aK) (FF.o.below aK) (by omega) hbl bp).mono ?_;rintro e w2 ⟨qv,rv,qs,rs,rfl,q1,q2,q3,q4,r1,r2,r3,r4,hb2⟩;obtain⟨p1,p2⟩:=GK.o _ _ q2 r2;have aI:da (ce w.heap.size w w2):=aK.o.trans (hb2.mono hz1);have cU:=zq (et.o.below hb2);have c1:=cU.o.cell.2.1;have Q1:=zq q1;have R1:=zq r1
 have jX:qs.length<=17179869184:=by omega
 have lG:rs.length<=17179869184:=by
  have h1:val rs<BB^xs.length:=by refine abp ?_ (aN HV.o.ok);rw[r2];exact Nat.mod_le _ _
  have h2:=bf rs xs.length h1;rw[r4]at h2;omega
 have CT:=zq p1;have VA:=pY.o;rw[p1,aag]at VA;have OG:=zq VA;have KH:∀q,ov.ownBlock=F q->q<w.heap.size:=fun q hq=>(HS.o.ne q hq).2;have xQ:=zq KH;clear q1 q2 q3 q4 r1 r2 r3 r4 hb2 c3' c1' cb' p1 p2 VA KH;go_wp2_with fail
 refine(HI.o R w1' _ _ ov qs out _ cU (ew.o.below aI (by have:=HS.o.big;omega)) (HP.o.below aI) Q1.o.1 (fun q hq=>by
  have h1:=(Q1.o.2 q hq).1;refine⟨by omega,fun e=> ?_⟩;have:=xQ.o q e
  omega) jX (by have:=OG.o;omega)).mono ?_
 rintro e w3 ⟨BN,rfl,a1,a2,a3⟩;have A1:=zq a1;have A2:=zq a2;have A3:=zq a3;have yY:da (SG w3):=(ew.o.below aI (by have:=HS.o.big;omega)).wr a2 (by have:=HS.o.big;omega) (fun e=>by have:=xQ.o _ e;have:=HS.o.ne _ e;have:=HS.o.big;omega);have oL:=zq ((HP.o.below aI).wr a2 a3)
 have rA:da (Rd w3 rv rs):=R1.o.1.wr a2 (fun q hq=>by
  have h1:=(R1.o.2 q hq).1;refine⟨by omega,fun e=> ?_⟩;have:=xQ.o q e
  omega)
 have YC:∀q,rv.ownBlock=F q->q≠R/\BN.ownBlock≠F q:=fun q hq=>by
  have h1:=R1.o.2 q hq;refine⟨by omega,fun e=> ?_⟩;rcases a3 q e with h|h
  ·have:=xQ.o q h;omega
  omega
 have QR:=zq YC;clear a1 a2 a3 c1 YC;go_wp2_with fail;refine(HI.o R lw _ _ BN rs _ _ A1 yY oL rA QR lG (by rw[aag,aas];have:=OG.o;omega)).mono ?_;rintro e w4 ⟨Oo,rfl,b1,b2,b3⟩;have aQ:=zq (And.intro b1 (And.intro b2 b3));clear b1 b2 b3;go_wp2_with fail;go_end0;obtain⟨b1,b2,b3⟩:=aQ.o;rw[aaW,<-abl,<-CT.o]at b1;refine⟨Oo,rfl,b1,(Wr.au aI).trans (Mv.refl _ _) (A2.o.trans A3 b2),?_⟩;have m1:Mv w ov.ownBlock BN.ownBlock:=fun q hq=>(A3.o q hq).imp id (fun h=>aar aI.o.size h);exact Mv.trans (w':=w3) m1 (aar aI.o.size A2.o.size) b3
theorem Sm (np:Nat):∀k,k<=np->Py k np:=by
 intro k
 induction k with
 |zero=>intro _;exact Qqe np
 |succ k ih=>intro h;exact Qqa h (ih (by omega))
def Yb (n:Nat):Bytes:=if n=0 then [48] else (dg n).map mg
def Gz (n:Nat)(w:ca)(e:du)(w':ca):Prop:=e=dj (ex #[dl ⟨(Yb n).toArray⟩,A G 0])/\ce w.heap.size w w'
theorem Tryz.qX:(Tryz.prog.info? 59).map (fun i=>(i.zero,i.size,i.bytes))=F (F (U Z 0 0),1,24):=by kernel_rfl
theorem WS.made (w:ca)(h:4<w.heap.size):WS (w.alloc (O #[A G 10,A G 19,A co 10000000000000000000,U Z 0 0,U Z 0 0] 216)) w.heap.size (U Z 0 0) (U Z 0 0) []:=
 ⟨aap w _,abx _ _ _ _,h⟩
theorem Hi (n:Nat):pad n 0=dg n:=by unfold pad;simp
theorem Qvn (hs:SG w)(hv:Rd w v xs)(hl:(strip xs).length<=12)(hl2:xs.length<=17179869184):dk db 169 #[v,A G 10] w (Gz (val xs) w):=by
 have HV:=zq hv;have ew:=zq hs;obtain⟨X,hX⟩:=xq (strip xs)
 have zy:val X=val xs:=by rw[hX,ay]
 have hsz:4<w.heap.size:=aaY w _ (hs 0 (by omega));rw[<-hX]at hl;obtain⟨n,hn⟩:=xq X.length;rw[<-hn]at hl;have HX:=zq hX;have qE:=zq zy;have HN:=zq hn;clear hv hs hX zy hn;by_cases h0:n=0
 ·have hb:((n:Int)==0)=dq:=by simp[h0]
  have HZ:da (Yb (val xs)=[48]):=by have hX0:X=[]:=aau (by rw[<-HN.o];exact h0);show _=_;rw[<-qE.o,hX0];rfl
  clear h0;go_enter g9,gc;go_wp2_with fail;refine(J9 HV (by omega)).mono ?_;rintro e w1 ⟨rfl,hB,hb1⟩;rw[<-HX.o,<-HN.o];have aK:=zq hb1;clear hB hb1;go_wp2_with fail;go_ret2;exact⟨by rw[HZ.o];rfl,aK⟩
 have hb:((n:Int)==0)=cl:=by simp[h0]
 have gw:decide (12<n)=cl:=by simp;omega
 have dO:val xs≠0:=fun e=>by
  have h1:(strip xs).length=0:=by have:=bf xs 0 (by rw[e];simp);omega
  rw[<-HX.o,<-HN.o]at h1;exact h0 h1
 have HD:da (Yb (val xs)=(pad (val X) 0).map mg):=by show _=_;unfold Yb;rw[if_neg dO,Hi,qE.o]
 clear h0 dO;go_enter g9,gc;go_wp2_with fail;refine(J9 HV (by omega)).mono ?_;rintro e w1 ⟨rfl,hB,hb1⟩;rw[<-HX.o]at hB ⊢;have HB:=zq hB;have aK:=zq hb1;rw[<-HN.o];clear hB hb1;go_wp2_with fail;refine(Ma).mono ?_;rintro e w2 ⟨rfl,rfl⟩;go_wp2_with fail;have xf:=ew.o.below aK hsz;have hb2:=Qq w1 (O #[A G 10,A G 19,A co 10000000000000000000,U Z 0 0,U Z 0 0] 216);have jI:4<w1.heap.size:=aal hsz aK.o.size;have HW:=zq (WS.made w1 jI);have jt:=zq (xf.below hb2 jI);have HR:=zq ((HB.o.whole (by rw[<-HN.o];omega)).below hb2);rw[<-HN.o]at HR;have aI:da (ce w.heap.size w (w1.alloc (O #[A G 10,A G 19,A co 10000000000000000000,U Z 0 0,U Z 0 0] 216))):=aK.o.trans (hb2.mono aK.o.size)
 have hlen:([]:Bytes).length+(pad (aw.val X) 0).length<=274877906944:=by
  have h1:aw.val X<BB^n:=by rw[HN.o];exact aN HB.o.2
  have:=Zw h1;rw[Hi];simp only[aa5];omega
 have HLEN:=zq hlen;have hz1:=aK.o.size;clear xf hb2 hlen;refine(Sm 0 0 (aab _) w1.heap.size 0 _ (U Z 0 0) (U Z 0 0) X [] _ HW jt ⟨0,0,fun h=>by omega,fun i h=>by omega⟩ HR (fun q hq=>by cases hq;have:=HB.o.lt;exact⟨by show w.heap.size≠w1.heap.size;omega,by simp[Value.ownBlock]⟩) (by rw[<-HN.o];omega) HLEN).mono ?_;rintro e w3 ⟨ov,rfl,r1,r2,r3⟩;rw[abv,<-HD.o]at r1;have c4:=r1.cell.2.2.2.2.1;have htx:=Z9 (B:=w1.heap.size+1) (w:=w3) (v:=ov) (l:=Yb (aw.val xs)) r1.own;have aV:da (ce w.heap.size w w3):=r2.aO aI aI.o.size (by omega) (fun k hk=>by cases hk);clear r1 r2 r3;go_wp2_with fail;go_ret2;exact⟨rfl,aV⟩
def Qkz (w:ca)(R:Nat)(pb:Option Nat)(vs:List de):Prop:=∀j v,vs[j]?=F v-> ∃bs,Rd w v bs/\val bs=UU^2^j/\bs.length<=274877906944/\2^j<=34359738368/\ ∀q,v.ownBlock=F q->R<q/\pb≠F q
structure PgMid (R:Nat) (w1:ca) (wr:ca) (i:Nat) (pv:de) (vs:List de):Prop where
 st:WS wr R pv (U Z 0 0) []
 own:wr.ownsRow (R+1) 59 1 pv i vs
 all:Qkz wr R pv.ownBlock vs
 below:ce R w1 wr
structure mz (L R:Nat) (w1:ca) (p:de) (wr:ca) (i:Nat) (pv:de) (xs:List Nat) (vs:List de):Prop extends PgMid R w1 wr i pv vs where
 rd:Fr (R+1) wr p xs
 ne:∀q,p.ownBlock=F q->pv.ownBlock≠F q
 vl:val xs=UU^2^i
 ZZ:strip xs=xs
 len:xs.length<=2*L
theorem Qkz.wr {pb pb':Option Nat}(h:Qkz w R pb vs)(hw:Wr R pb w w')(hm:Mv w pb pb'):Qkz w' R pb' vs:=fun j v hj=>by
 obtain⟨bs,H,I,J,K,E⟩:=h j v hj;refine⟨bs,H.wr hw (fun q hq=>⟨by have:=E q hq;omega,(E q hq).2⟩),I,J,K,fun q hq=>⟨(E q hq).1,fun e=> ?_⟩⟩;rcases hm q e with h|h
 ·exact(E q hq).2 h
 have:=H.lt hq;omega
theorem PgMid.below' {wr:ca}(h:PgMid R w1 wr i pv vs)(hb:ce wr.heap.size wr w2):PgMid R w1 w2 i pv vs:=
 ⟨h.st.below hb,h.own.kept (row:=Z) ⟨hb.os,hb.tape,hb.output,hb.size,fun k hk _=>hb.block k hk⟩ (by cases pv.ownBlock<;>simp),h.all.wr (Wr.au hb) (Mv.refl _ _),h.below.trans (hb.mono (aa1 h.st.lt))⟩
theorem mz.below' {L:Nat}{wr:ca}{p:de}(h:mz L R w1 p wr i pv xs vs)(hb:ce wr.heap.size wr w2):mz L R w1 p w2 i pv xs vs:=
 ⟨h.toPgMid.below' hb,h.rd.below hb,h.ne,h.vl,h.ZZ,h.len⟩
theorem mz.push {L:Nat}{wr:ca}{p:de}{gg cap:Nat}(h:mz L R w1 p wr i pv xs vs)(h1:xs.length<=274877906944)(h2:2^i<=34359738368)
  (hown:w2.ownsRow (R+1) 59 1 (U (F ⟨gg,0,Z⟩) (i+1) cap) (i+1) (vs++[p])) (hg:wr.grownBy w2 pv.ownBlock) (hat:pv.ownBlock=F gg\/gg=wr.heap.size):
  PgMid R w1 (w2.setCell ⟨R,3,Z⟩ (U (F ⟨gg,0,Z⟩) (i+1) cap)) (i+1) (U (F ⟨gg,0,Z⟩) (i+1) cap) (vs++[p]):=by
 have aE:F R≠pv.ownBlock:=fun e=>by have:=h.own.lt R e.symm;omega
 have hb:=(hg.block R h.st.lt aE).trans h.st.blk;have K:=aao w2 R 3 #[A G 10,A G 19,A co 10000000000000000000,pv,U Z 0 0] 216 (U (F ⟨gg,0,Z⟩) (i+1) cap) hb;have H:Wr R pv.ownBlock wr (w2.setCell ⟨R,3,Z⟩ (U (F ⟨gg,0,Z⟩) (i+1) cap)):=(Wr.dL hg).trans (Mv.refl _ _) (Wr.aD w2 3 _)
 have I:Mv wr pv.ownBlock (Value.ownBlock (U (F ⟨gg,0,Z⟩) (i+1) cap)):=by
  intro k J
  cases J
  rcases hat with h|h
  ·exact .inl h
  exact .inr (abT h.symm)
 refine⟨⟨K.trans (by simp),abx _ _ _ _,h.st.big⟩,ab8 hown (by simp) _,?_,H.aO h.below (aa1 h.st.lt) (aab _) (fun k J=>by have:=h.own.lt k J;omega)⟩;intro j v E
 have am:vs.length=i:=by have:=h.own.1;omega
 by_cases hji:j<vs.length
 ·rw[aaH hji]at E
  exact h.all.wr H I j v E
 have T:j=i:=by have:=(aaf.1 E).1;rw[aag]at this;simp at this;omega
 subst T;rw[aaK (by omega),am]at E;simp at E;subst E;refine⟨xs,h.rd.1.wr H (fun q hq=>⟨by have:=h.rd.2 q hq;omega,h.ne q hq⟩),h.vl,h1,h2,fun q hq=>⟨by have:=h.rd.2 q hq;omega,fun e=> ?_⟩⟩;rcases I q e with bi|bi
 ·exact h.ne q hq bi
 have:=h.rd.2 q hq;omega
theorem PgMid.pw {wr:ca}(h:PgMid R w1 wr i pv vs):PW wr R (Value.ownBlock (U Z 0 0)) pv i:=by
 have T:vs.length=i:=by have:=h.own.1;omega
 obtain⟨ao,H,e,I,J,K⟩:=Qj h.own;by_cases h0:0<i
 ·obtain⟨g,rfl,a1,a2,a3⟩:=K h0
  refine⟨g,H,fun _=>⟨e,I,J,a2,by omega,by simp[Value.ownBlock]⟩,fun j hj=> ?_⟩;have bi:=a3 j (by omega)
  have E:j<vs.length:=by omega
  obtain⟨bs,b1,b2,b3,b4,b5⟩:=h.all j vs[j] (aad E);refine⟨vs[j],bs,by rw[bi,aad E],b1,b2,b3,b4,fun q hq=>⟨by have:=b5 q hq;omega,by simp[Value.ownBlock]⟩⟩
 exact⟨0,0,fun h=>absurd h h0,fun j hj=>by omega⟩
def npow (R:Nat)(w:ca):Nat:=lenOf ((w.cell? ⟨R,3,Z⟩).getD (c9 cl))
theorem PgMid.npow {wr:ca}(h:PgMid R w1 wr i pv vs):npow R wr=i:=by unfold Go.Proofs.YtgfmiladfeoldaaGreatDoor.npow;rw[h.st.cell.2.2.2.1];exact Mo h.own
theorem mz.npow {L:Nat}{w1 p:_}{wr:ca}(h:mz L R w1 p wr i pv xs vs):npow R wr=i:=h.toPgMid.npow
theorem Ec {N L:Nat}(hN:N<BB^L)(h:UU^2^i<=N):2^i<2*L:=Me (k:=2^i) hN (Nat.div_pos h (abC N7))
theorem Qpp (hs:SG w)(hv:Rd w v xs)(hl:12<(strip xs).length)(hl2:xs.length<=8589934592):dk db 169 #[v,A G 10] w (Gz (val xs) w):=by
 have HV:=zq hv;have ew:=zq hs;obtain⟨X,hX⟩:=xq (strip xs)
 have zy:val X=val xs:=by rw[hX,ay]
 have hXs:strip X=X:=by rw[hX,X2]
 have hsz:4<w.heap.size:=aaY w _ (hs 0 (by omega))
 have vO:X.length<=8589934592:=by rw[hX];exact aar (Qf xs) hl2
 rw[<-hX]at hl;obtain⟨n,hn⟩:=xq X.length;rw[<-hn]at hl vO;have HX:=zq hX;have qE:=zq zy;have HN:=zq hn
 have hb:((n:Int)==0)=cl:=by simp;omega
 have gw:(12:Int)<(n:Int):=by omega
 have dO:val xs≠0:=fun e=>by have:=bf xs 0 (by rw[e];simp);rw[<-hX]at this;omega
 have HD:da (Yb (val xs)=(pad (val X) 0).map mg):=by show _=_;unfold Yb;rw[if_neg dO,Hi,zy]
 clear hv hs hX zy hn dO hXs;go_enter g9,gc;go_wp2_with fail;refine(J9 HV (by omega)).mono ?_;rintro e w1 ⟨rfl,hB,hb1⟩;rw[<-HX.o]at hB ⊢;have HB:=zq hB;have aK:=zq hb1;rw[<-HN.o];clear hB hb1;go_wp2_with fail;refine(Ma).mono ?_;rintro e w2 ⟨rfl,rfl⟩;go_wp2_with fail;have xf:=ew.o.below aK hsz;have hb2:=Qq w1 (O #[A G 10,A G 19,A co 10000000000000000000,U Z 0 0,U Z 0 0] 216);have jI:4<w1.heap.size:=aal hsz aK.o.size;have HW:=WS.made w1 jI;have jt:=zq (xf);have HR:=zq (HB.o.whole (by rw[<-HN.o];omega));rw[<-HN.o]at HR;have hz1:=aK.o.size;have hwl:w.heap.size<w1.heap.size:=HB.o.lt
 have oM:da (mz n w1.heap.size w1 (U (F ⟨w1.heap.size+1,0,Z⟩) 1 1) ((w1.alloc (O #[A G 10,A G 19,A co 10000000000000000000,U Z 0 0,U Z 0 0] 216)).alloc (O #[A co 10000000000000000000] 101)) 0 (U Z 0 0) [10000000000000000000] []):=by
  have hb3:=Qq (w1.alloc (O #[A G 10,A G 19,A co 10000000000000000000,U Z 0 0,U Z 0 0] 216)) (O #[A co 10000000000000000000] 101)
  have hblk:bh ((w1.alloc (O #[A G 10,A G 19,A co 10000000000000000000,U Z 0 0,U Z 0 0] 216)).alloc (O #[A co 10000000000000000000] 101)) (w1.heap.size+1) [10000000000000000000]:=by
   refine⟨?_,?_⟩
   ·have:=aap (w1.alloc (O #[A G 10,A G 19,A co 10000000000000000000,U Z 0 0,U Z 0 0] 216)) (O #[A co 10000000000000000000] 101)
    simp only[aaV]at this;exact this
   intro x hx;simp at hx;subst hx;unfold BB;omega
  refine⟨⟨HW.below hb3,abx _ _ _ _,fun j v h=>by simp at h,hb2.trans (hb3.mono (by simp))⟩,⟨hblk.whole (by simp),fun q hq=> ?_⟩,fun q _=>by simp[Value.ownBlock],by rw[aen,Nat.pow_one];rfl,by rfl,by simp;omega⟩
  cases hq
  exact⟨aab _,by simp⟩
 have gY:da (val xs<BB^n):=by show _<_;rw[<-qE.o,HN.o];exact aN HB.o.2
 have hlen:([]:Bytes).length+(pad (aw.val X) 0).length<=274877906944:=by
  have h1:aw.val X<BB^n:=by rw[qE.o];exact gY.o
  have:=Zw h1;rw[Hi];simp only[aa5];omega
 have HLEN:=zq hlen;obtain⟨R,hR⟩:=xq w1.heap.size;have ky:=zq hR;clear xf hb2 HW hlen hR;go_loopw [9] (fun p wr=> ∃i pv zs vs,mz n w1.heap.size w1 p wr i pv zs vs/\i<=64) (fun _ wr=>64-npow w1.heap.size wr)
 case atStart=>exact⟨0,_,_,_,oM,by omega⟩
 clear oM
 case round=>
  obtain⟨i,pv,zs,vs,hst,aie⟩:=hrel;have HST:=zq hst;have wP:=hst.npow;have HNP:=zq wP;have ahN:=gY;obtain⟨zo,LL,rfl,ag6,ag7,-⟩:=hst.rd.1.2;clear hst wP ag6 ag7;by_cases hle:aw.val zs<=aw.val xs
  ·have jW:2^i<2*n:=Ec gY (by rw[<-HST.o.vl];exact hle)
   have aid:i<64:=by have h1:2^i<2^36:=aal jW (by omega);have:=(Nat.pow_lt_pow_iff_right (a:=2) (by omega)).1 h1;omega
   have hzl:zs.length<=n:=by have:=bf zs n (abp hle gY);rw[HST.o.ZZ]at this;exact this
   have hcb:decide (bY (aw.val zs) (aw.val X)<=0)=dq:=by
    rw[qE.o];unfold bY;by_cases h1:aw.val zs<aw.val xs
    ·rw[if_pos h1];rfl
    rw[if_neg h1,if_neg (by omega)];rfl
   obtain⟨ci,rL⟩:=xq (bY (aw.val zs) (aw.val X));rw[<-rL]at hcb;have FI:=zq rL
   have fT:2^i<=34359738368:=by omega
   clear hle jW rL;go_wp2_with fail;refine(Vy HST.o.rd.1 (HR.o.below (HST.o.below.mono (by omega)))).mono ?_;rintro e w4 ⟨rfl,hb4⟩;rw[<-FI.o];have y5:=zq (HST.o.below' hb4);clear hb4;obtain⟨i0,hi,cZ,eu,hk2⟩:=aa0 Tryz.qX;have qB:=zq (y5.o.below' (Qq w4 (O #[U zo zs.length LL] 59)));have kU:da (w1.heap.size<(w4.alloc (O #[U zo zs.length LL] 59)).heap.size):=qB.o.st.lt
   have bV:da (F w1.heap.size≠pv.ownBlock):=fun e=>by have:=qB.o.own.lt w1.heap.size e.symm;omega
   have c3:=y5.o.st.cell.2.2.2.1;have ca3:=qB.o.st.cell.2.2.2.1;have SX:=aax _ w1.heap.size 3 _ _ qB.o.st.blk;have CA3:=zq ca3;have CA4:=zq SX;clear ca3 SX
   have aiY:zs.length<=8589934592:=by omega
   have HZL:=zq hzl;go_wp2_with (at_builtin;refine abk _ rfl _ _ 36 rfl (w1.heap.size+1) 59 i0 (U Z 0 0) 1 24 underlying36 hi cZ eu hk2 rfl (by omega) pv i vs rfl qB.o.own ⟨w4.heap.size,0,Z⟩ 1 1 [U zo zs.length LL] rfl rfl (ar.Qg _ _ _ _ rfl) (by simp[Value.oneCell']) (by omega) (by unfold maxLen;omega) (by omega) (by have:=kU.o;simp at this;simp;omega) (w4.heap.size+1) (by simp) ?_);intro gg cap w5 cf hgrow hat gW;have d4:w5.cell? ⟨w1.heap.size,3,Z⟩=F pv:=(hgrow.cell_far ⟨w1.heap.size,3,Z⟩ kU.o bV.o).trans CA3.o;have d5:w5.frozen? ⟨w1.heap.size,3,Z⟩=cl:=(hgrow.frozen_far ⟨w1.heap.size,3,Z⟩ kU.o bV.o).trans CA4.o;have HG:=zq (qB.o.push (by omega) fT cf hgrow (by simpa using hat));have HZR:=zq qB.o;have adZ:=zq ((Wr.dL (R:=w1.heap.size) hgrow).trans (Mv.refl _ _) (Wr.aD w5 3 (U (F ⟨gg,0,Z⟩) (i+1) cap)));clear cf hgrow hat gW;by_cases cN:n+2<2*zs.length
   ·have lh:decide ((n:Int)+2<2*(zs.length:Int))=dq:=by simp;omega
    clear cN;go_wp2_with fail;have yF:=zq (HG.o.below);have mW:=Sm (i+1) (i+1) (aab _) w1.heap.size 0 _ _ (U Z 0 0) X [] _ HG.o.st (jt.o.below yF jI) HG.o.pw (HR.o.below yF) (fun q hq=>by cases hq;exact⟨by show w.heap.size≠w1.heap.size;omega,by simp[Value.ownBlock]⟩) (by rw[<-HN.o];omega) HLEN;rw[show (((i+1:Nat):Int)-1)=(i:Int) from by omega]at mW;have uH:=zq mW;have aI:da (ce w.heap.size w (w5.setCell ⟨w1.heap.size,3,Z⟩ (U (F ⟨gg,0,Z⟩) (i+1) cap))):=aK.o.trans (yF.o.mono hz1);have dy:=zq (aa1 HG.o.st.lt);clear mW;refine uH.o.mono ?_;rintro e w6 ⟨ov,rfl,r1,r2,r3⟩;rw[abv,<-HD.o]at r1;have c4:=r1.cell.2.2.2.2.1;have htx:=Z9 (B:=w1.heap.size+1) (w:=w6) (v:=ov) (l:=Yb (aw.val xs)) r1.own;have aV:da (ce w.heap.size w w6):=r2.aO aI (aar hz1 dy) (by omega) (fun k hk=>by cases hk);clear r1 r2 r3;go_wp2_with fail;go_ret2;exact⟨rfl,aV⟩
   have lh:decide ((n:Int)+2<2*(zs.length:Int))=cl:=by simp;omega
   clear cN;go_wp2_with fail;have gj:=zq (HZR.o.rd.1.wr (R:=w1.heap.size) (og:=pv.ownBlock) adZ (fun q hq=>⟨by have:=HZR.o.rd.2 q hq;omega,HZR.o.ne q hq⟩));refine(Pz (by omega) gj).mono ?_;rintro e w6 ⟨v6,ys,rfl,f1,f2,f3,f4,f5⟩;have aq:mz n w1.heap.size w1 v6 w6 (i+1) _ ys _:=⟨HG.o.below' f5,f1.mono HG.o.st.lt,fun q hq e=>by have:=f1.2 q hq;have:=HG.o.own.lt q e;omega,by rw[f2,HZR.o.vl,<-abM,<-Nat.two_mul,aaz,abf],f4,by have:=HZL.o;omega⟩;have XO:=aq.npow;have aQ:=zq aq;have adi:=zq XO;clear f1 f2 f3 f4 f5 aq XO;go_wp2_with fail;exact⟨⟨_,_,_,_,aQ,by omega⟩,by rw[adi.o,HNP.o];omega⟩
  have hcb:decide (bY (aw.val zs) (aw.val X)<=0)=cl:=by rw[qE.o];unfold bY;rw[if_neg (by omega),if_pos (by omega)];rfl
  obtain⟨ci,rL⟩:=xq (bY (aw.val zs) (aw.val X));rw[<-rL]at hcb;have FI:=zq rL;clear hle rL;go_wp2_with fail;refine(Vy HST.o.rd.1 (HR.o.below (HST.o.below.mono (by omega)))).mono ?_;rintro e w4 ⟨rfl,hb4⟩;rw[<-FI.o];have HM:=zq (HST.o.below' hb4).toPgMid;clear hb4;have c3:=HM.o.st.cell.2.2.2.1;obtain⟨po,gK,rfl,wV,yj,wX⟩:=Qj HM.o.own;have kW:=zq wX;clear wV yj wX;go_wp2_with fail;have yF:=zq (HM.o.below);have mW:=Sm i i (aab _) w1.heap.size 0 _ _ (U Z 0 0) X [] _ HM.o.st (jt.o.below yF jI) HM.o.pw (HR.o.below yF) (fun q hq=>by cases hq;exact⟨by show w.heap.size≠w1.heap.size;omega,by simp[Value.ownBlock]⟩) (by rw[<-HN.o];omega) HLEN;have uH:=zq mW;have aI:da (ce w.heap.size w w4):=aK.o.trans (yF.o.mono hz1);have dy:=zq (aa1 HM.o.st.lt);clear mW;refine uH.o.mono ?_;rintro e w6 ⟨ov,rfl,r1,r2,r3⟩;rw[abv,<-HD.o]at r1;have c4:=r1.cell.2.2.2.2.1;have htx:=Z9 (B:=w1.heap.size+1) (w:=w6) (v:=ov) (l:=Yb (aw.val xs)) r1.own;have aV:da (ce w.heap.size w w6):=r2.aO aI (aar hz1 dy) (by omega) (fun k hk=>by cases hk);clear r1 r2 r3;go_wp2_with fail;go_ret2;exact⟨rfl,aV⟩
theorem Ed (hs:SG w)(hv:Rd w v xs)(hl:xs.length<=8589934592):dk db 169 #[v,A G 10] w (Gz (val xs) w):=by
 by_cases h:(strip xs).length<=12
 ·exact Qvn hs hv h (by omega)
 exact Qpp hs hv (by omega) hl
def Qhi (n:Nat)(w:ca)(e:du)(w':ca):Prop:=e=dj (dl ⟨(Yb n).toArray⟩)/\ce w.heap.size w w'
theorem Pc (hs:SG w)(hv:Rd w v xs)(hl:xs.length<=8589934592):dk db 120 #[v] w (Qhi (val xs) w):=by have HV:=zq hv;have ew:=zq hs;clear hv hs;go_enter func120,ntmps120;go_wp2_with fail;refine(Ed ew HV hl).mono ?_;rintro e w1 ⟨rfl,hb1⟩;have aK:=zq hb1;clear hb1;go_wp2_with fail;go_ret;exact⟨rfl,aK⟩
def Ym (neg:Bool)(n:Nat):Int:=if n=0 then 0 else if neg then -1 else 1
theorem Ur (neg:Bool)(hv:Rd w v xs)(hl:xs.length<=1099511627776):dk db 121 #[eS #[c9 neg,v]] w fun e w'=>e=dj (A G (Ym neg (val xs)))/\ce w.heap.size w w':=by
 have HV:=zq hv;obtain⟨ao,cap,rfl,-,-,bm,-⟩:=hv.2;have HA:=zq (Qq w (O #[c9 neg,U ao xs.length cap] 62));have fJ:=zq (HV.o.below HA);have hb0:=Gv bm;obtain⟨b,hb⟩:=xq (dH xs);rw[<-hb]at hb0;have HB:=zq hb;clear hv bm hb;by_cases h0:b=0
 ·have hz:((b:Int)==0)=dq:=by simp[h0]
  have HR:da (Ym neg (val xs)=0):=by show _=_;unfold Ym;rw[if_pos (hb0.1 h0)]
  clear hb0 h0;go_enter hO,gd;go_wp2_with fail;refine(J8 fJ hl).mono ?_;rintro e w1 ⟨rfl,rfl⟩;rw[<-HB.o];go_wp2_with fail;go_ret;exact⟨by rw[HR.o];rfl,HA⟩
 have hz:((b:Int)==0)=cl:=by simp[h0]
 have hne: ¬val xs=0:=fun e=>h0 (hb0.2 e)
 have HR:da (Ym neg (val xs)=if neg then -1 else 1):=by show _=_;unfold Ym;rw[if_neg hne]
 clear hb0 h0 hne
 cases neg with
 |true=>
  go_enter hO,gd;go_wp2_with fail;refine(J8 fJ hl).mono ?_;rintro e w1 ⟨rfl,rfl⟩;rw[<-HB.o];go_wp2_with fail;go_ret
  exact⟨by rw[HR.o];rfl,HA⟩
 |false=>go_enter hO,gd;go_wp2_with fail;refine(J8 fJ hl).mono ?_;rintro e w1 ⟨rfl,rfl⟩;rw[<-HB.o];go_wp2_with fail;go_ret;exact⟨by rw[HR.o];rfl,HA⟩
theorem Gf:Yb=aj.aA:=rfl
theorem Zp (a b:Array UInt8):(⟨a⟩:ByteArray)++⟨b⟩=⟨a++b⟩:=by apply ByteArray.ext;simp
theorem Db (hl:xs.length<=8589934592)(bm:ok xs):(Yb (val xs)).length<=274877906944:=by
 unfold Yb;split
 ·simp
 have:=Zw (aN bm);rw[aas];omega
def Xu (neg:Bool)(n:Nat):Bytes:=if neg=dq/\n≠0 then 45::Yb n else Yb n
def Qwc (neg:Bool)(n:Nat)(w:ca)(e:du)(w':ca):Prop:=e=dj (dl ⟨(Xu neg n).toArray⟩)/\ce w.heap.size w w'
theorem Wp (neg:Bool)(hs:SG w)(hv:Rd w v xs)(hl:xs.length<=8589934592):dk db 65 #[eS #[c9 neg,v]] w (Qwc neg (val xs) w):=by
 have HV:=zq hv;have ew:=zq hs;have hsz:4<w.heap.size:=aaY w _ (hs 0 (by omega));obtain⟨ao,cap,rfl,-,-,bm,-⟩:=hv.2;have HA:=zq (Qq w (O #[c9 neg,U ao xs.length cap] 62));have fJ:=zq (HV.o.below HA);have ow:=zq (ew.o.below HA hsz)
 have hc0:(w.alloc (O #[c9 neg,U ao xs.length cap] 62)).cell? ⟨w.heap.size,0,Z⟩=F (c9 neg):=by rw[adL _ _ _ _ rfl];rfl
 have hc1:(w.alloc (O #[c9 neg,U ao xs.length cap] 62)).cell? ⟨w.heap.size,1,Z⟩=F (U ao xs.length cap):=by rw[adL _ _ _ _ rfl];rfl
 have tH:=zq hc0;have LP:=zq hc1;have dc:=bm;clear hv bm hs hc0 hc1;by_cases h0:neg=dq/\val xs≠0
 ·have hn:Ym neg (val xs)= -1:=by unfold Ym;rw[if_neg h0.2,if_pos h0.1]
  have HR:da (Xu neg (val xs)=45::Yb (val xs)):=by show _=_;unfold Xu;rw[if_pos h0]
  have HN:=zq hn
  have afK: ¬9223372036854775807<1+(Yb (val xs)).length:=by have:=Db hl dc;omega
  clear h0 hn dc;go_enter func65,i6;go_wp2_with fail;refine(Pc ow fJ hl).mono ?_;rintro e w1 ⟨rfl,hb1⟩;have aK:=zq hb1;have d0:=(hb1.cell (p:=⟨w.heap.size,0,Z⟩) (by simp)).trans tH;have d1:=(hb1.cell (p:=⟨w.heap.size,1,Z⟩) (by simp)).trans LP;clear hb1;go_wp2_with fail;refine(Ur neg (fJ.o.below aK) (by omega)).mono ?_;rintro e w2 ⟨rfl,hb2⟩;rw[HN.o];have aI:=zq hb2;clear hb2;go_wp2_with fail;go_ret;refine⟨?_,(HA.o.trans (aK.o.mono (by simp))).trans (aI.o.mono ((HA.o.trans (aK.o.mono (by simp))).size))⟩;rw[HR.o];show Ending.returned (dl ((⟨#[45]⟩:ByteArray)++⟨(Yb (val xs)).toArray⟩))=_;rw[Zp];simp
 have hn:0<=Ym neg (val xs):=by
  unfold Ym;split
  ·omega
  split
  ·rename_i h1 h2;exact absurd ⟨h2,h1⟩ h0
  omega
 have HR:da (Xu neg (val xs)=Yb (val xs)):=by show _=_;unfold Xu;rw[if_neg h0]
 obtain⟨k,hk⟩:=xq (Ym neg (val xs));rw[<-hk]at hn;have HK:=zq hk
 have hkb:decide (k<0)=cl:=by simp;omega
 clear h0 hn hk;go_enter func65,i6;go_wp2_with fail;refine(Pc ow fJ hl).mono ?_;rintro e w1 ⟨rfl,hb1⟩;have aK:=zq hb1;have d0:=(hb1.cell (p:=⟨w.heap.size,0,Z⟩) (by simp)).trans tH;have d1:=(hb1.cell (p:=⟨w.heap.size,1,Z⟩) (by simp)).trans LP;clear hb1;go_wp2_with fail;refine(Ur neg (fJ.o.below aK) (by omega)).mono ?_;rintro e w2 ⟨rfl,hb2⟩;rw[<-HK.o];have aI:=zq hb2;clear hb2;go_wp2_with fail;go_ret;refine⟨?_,(HA.o.trans (aK.o.mono (by simp))).trans (aI.o.mono ((HA.o.trans (aK.o.mono (by simp))).size))⟩;rw[HR.o];rfl
theorem Qk4 (hv:Rd w v xs):dk db 170 #[c9 cl,v] w fun e w'=>e=dj (eS #[c9 cl,v])/\ce w.heap.size w w':=by have HV:=zq hv;obtain⟨ao,cap,rfl,-,-,bm,-⟩:=hv.2;clear hv bm;go_enter i8,ip;go_wp2_with fail;refine aaD (abF rfl _ _ w.heap.size 62 _ _ _ rfl (aap w _) ef rfl (by kernel_rfl)) rfl ?_;exact⟨rfl,Qq _ _⟩
theorem Ci (n:Nat)(hn:n<=64):dk db 122 #[A G n] w fun e w'=> ∃v xs,e=dj (eS #[c9 cl,v])/\Rd w' v xs/\val xs=n/\xs.length<=1/\ce w.heap.size w w':=by
 go_enter func122,ntmps122
 have h1: ¬((n:Int)<0):=by omega
 go_wp2_with fail
 have hblk:bh ((w.alloc (O #[c9 cl,U Z 0 0] 62)).alloc (O #[A co n] 101)) (w.heap.size+1) [n]:=by
  refine⟨?_,?_⟩
  ·have:=aap (w.alloc (O #[c9 cl,U Z 0 0] 62)) (O #[A co n] 101)
   simp only[aaV]at this;exact this
  intro x hx;simp at hx;subst hx;unfold BB;omega
 have HA:=zq (Qq w (O #[c9 cl,U Z 0 0] 62));have fy:=zq (Qq (w.alloc (O #[c9 cl,U Z 0 0] 62)) (O #[A co n] 101));refine(J9 (hblk.whole (by simp)) (by simp)).mono ?_;rintro e w1 ⟨rfl,hB,hb1⟩;obtain⟨g,hg⟩:∃g,g=((w.alloc (O #[c9 cl,U Z 0 0] 62)).alloc (O #[A co n] 101)).heap.size:=⟨_,rfl⟩;rw[<-hg]at hB ⊢
 have nT:g=w.heap.size+2:=by rw[hg];simp
 have FN:=zq nT;have HB:=zq hB;have aK:=zq hb1;clear hB hb1 hblk hg nT;obtain⟨ys,xu⟩:=xq (strip [n])
 have pJ:ys.length<=1:=by rw[xu];exact Qf [n]
 rw[<-xu]at HB ⊢
 have yr:val ys=n:=by rw[xu,ay];simp[aw.val]
 have vA:=zq yr;clear xu yr;go_wp2_with fail;refine(Qk4 (HB.o.whole (by omega))).mono ?_;rintro e w2 ⟨rfl,hb2⟩;have aI:=zq hb2;clear hb2
 have d0:w2.heap[w.heap.size]?=F (O #[c9 cl,U Z 0 0] 62 (0,0)):=by have q1:=fy.o.block w.heap.size (by simp);have q2:=aK.o.block w.heap.size (by simp;omega);have q3:=aI.o.block w.heap.size (by have:=HB.o.lt;have:=FN.o;omega);rw[q3,q2,q1];exact aap w _
 have e0:w2.cell? ⟨w.heap.size,0,Z⟩=F (c9 cl):=(aaj w2 _ _ _ _ _ d0).trans rfl;have e1:w2.cell? ⟨w.heap.size,1,Z⟩=F (U Z 0 0):=(aaj w2 _ _ _ _ _ d0).trans rfl;have f0:w2.frozen? ⟨w.heap.size,0,Z⟩=cl:=aax w2 _ 0 _ _ d0;have f1:w2.frozen? ⟨w.heap.size,1,Z⟩=cl:=aax w2 _ 1 _ _ d0;have D0:=zq d0;clear d0;go_wp2_with fail;have s1:=aao w2 w.heap.size 0 #[c9 cl,U Z 0 0] 62 (c9 cl) D0;have s2:=aao (w2.setCell ⟨w.heap.size,0,Z⟩ (c9 cl)) w.heap.size 1 _ 62 (U (F ⟨g,0,Z⟩) ys.length ys.length) s1;refine aaD (abF rfl _ _ w.heap.size 62 _ _ _ rfl s2 ef rfl (by kernel_rfl)) rfl ?_;have hw:ce w.heap.size w w2:=(HA.o.trans (fy.o.mono (by simp))).trans ((aK.o.mono (by simp;omega)).trans (aI.o.mono (by have:=HB.o.lt;have:=FN.o;omega)));have hr:Wr w.heap.size Z w2 ((w2.setCell ⟨w.heap.size,0,Z⟩ (c9 cl)).setCell ⟨w.heap.size,1,Z⟩ (U (F ⟨g,0,Z⟩) ys.length ys.length)):=(Wr.aD w2 0 _).trans (Mv.refl _ _) (Wr.aD _ 1 _);refine⟨_,ys,rfl,((HB.o.whole (by omega)).below aI).wr hr (fun k hk=>by cases hk;have:=FN.o;exact⟨by show g≠w.heap.size;omega,by simp⟩),vA,pJ,hr.aO hw hw.size (aab _) (fun k hk=>by cases hk)⟩
def dr (l:List Bytes):List de:=l.map fun b=> dl ⟨b.toArray⟩
theorem Qfo (l:List Bytes):(dr l).length=l.length:=by simp[dr]
theorem Qfi (a b:List Bytes):dr (a++b)=dr a++dr b:=by simp[dr]
theorem Tryz.iA:(Tryz.prog.info? 9).map (fun i=>(i.zero,i.size,i.bytes))=F (F (dl ⟨#[]⟩),1,16):=by kernel_rfl
theorem Bf (sep:Bytes):∀l:List Bytes,Lib.join l sep=aj.Ql sep l
 | []=>rfl
 | [a]=>by rw[Lib.join_one];rfl
 |a::b::l=>by have h:=Bf sep (b::l);rw[Lib.join_cons]at h ⊢;show a++Lib.joinTail sep (b::l)=a++sep++aj.Ql sep (b::l);rw[<-h];simp[Lib.joinTail]
def Sb (l:Bytes)(w:ca)(e:du)(w':ca):Prop:=e=dj (dl ⟨l.toArray⟩)/\ce w.heap.size w w'
def SS (w:ca)(v:de)(l:List Bytes):Prop:=∃ao cap,v=U ao l.length cap/\l.length<=cap/\cap<=maxLen/\(0<l.length-> ∃g o,ao=F ⟨g,o,Z⟩/\g<w.heap.size/\ ∀j b,l[j]?=F b->w.cell? ⟨g,o+j,Z⟩=F (dl ⟨b.toArray⟩))
theorem SS.dh {l:List Bytes}(h:w.ownsRow B 9 1 v n (dr l)):SS w v l:=by
 have J:l.length=n:=by have:=h.1;rw[Qfo]at this;omega
 obtain⟨ao,E,e,bi,H,I⟩:=Qj h;refine⟨ao,E,by rw[J];exact e,by omega,H,fun h0=> ?_⟩;obtain⟨g,rfl,a1,a2,a3⟩:=I (by omega);refine⟨g,0,rfl,a2,fun j b hj=> ?_⟩;have K:=(aaf.1 hj).1;rw[aaX,a3 j (by omega)];simp[dr,hj]
theorem Ht {l:List Bytes}(sep:ByteArray)(h:SS w v l)(hN:l.length<=140737488355328)(hl:(aj.Ql sep.data.toList l).length<=140737488355328):dk db 123 #[v,dl sep] w (Sb (aj.Ql sep.data.toList l) w):=by
 obtain⟨ao,E,rfl,I,bi,J⟩:=h;by_cases h0:0<l.length
 ·obtain⟨g,o,rfl,a2,a3⟩:=J h0
  have H:(l.map fun b=>(⟨b.toArray⟩:ByteArray)).map (·.data.toList)=l:=by
   rw[ab2]
   conv=>rhs;rw[<-List.map_id l]
   exact List.map_congr_left fun b _=>rfl
  have:=strings_Join g o E (l.map fun b=>⟨b.toArray⟩) sep w (fun j x hj=>by
   rw[aa9,abD]at hj;obtain⟨b,K,rfl⟩:=hj
   exact a3 j b K) a2 (by rw[aas];exact hN) (by rw[aas];exact I) (by rw[H,Bf];exact hl)
  rw[aas,H,Bf]at this;exact this.mono fun e w' h=>h
 have e:l=[]:=aau (by omega);subst e;exact(strings_Join_none ao E sep w).mono fun e w' ⟨a,b⟩=>⟨a,by rw[b];exact aaw _ _⟩
theorem Qcm (n:Nat)(hn:n<=4611686018427387904):dk db 119 #[A G n] w fun e w'=>e=dj (c9 (decide (n<=64)))/\w=w':=by
 have h1:decide (0<=(n:Int))=dq:=by simp
 have h2:decide ((n:Int)<=64)=decide (n<=64):=by simp;omega
 go_enter func119,ntmps119;go_wp2_with fail;go_ret;exact⟨rfl,rfl⟩
def ZO (r c:Nat)(at_:de):de:=eS #[A G r,A G c,at_]
theorem Qmw (r c n cap:Nat)(ao:Option Addr)(hr:r<=64)(hc:c<=64)(hn:n=r*c):dk db 64 #[eS #[A G r,A G c,U ao n cap]] w fun e w'=>e=dj (A G 0)/\ce w.heap.size w w':=by
 have HA:=zq (Qq w (O #[A G r,A G c,U ao n cap] 47))
 have nR:decide (r<=64)=dq:=by simp;exact hr
 have kj:decide (c<=64)=dq:=by simp;exact hc
 have hrc:(r:Int)*(c:Int)=(n:Int):=by rw[hn];exact(abH r c).symm
 have bu:n<=4096:=by rw[hn];exact aa3 hr hc
 have H1:=zq nR;have H2:=zq kj;clear hn;go_enter func64,ntmps64;go_wp2_with fail;refine(Qcm r (by omega)).mono ?_;rintro e w1 ⟨rfl,rfl⟩;rw[H1.o];go_wp2_with fail;refine(Qcm c (by omega)).mono ?_;rintro e w1 ⟨rfl,rfl⟩;rw[H2.o];go_wp2_with fail;go_ret;exact⟨rfl,HA⟩
theorem Hx {α:Type}(c:Nat):∀(i:Nat) (l:List α),aj.Xd c (i+1) l=aj.Xd c i l++[(l.drop (i*c)).take c]
 |0,l=>by simp[aj.Xd]
 |i+1,l=>by have h:=Hx c i (l.drop c);show l.take c::aj.Xd c (i+1) (l.drop c)=l.take c::aj.Xd c i (l.drop c)++_;rw[h,abB];simp[adk,Nat.add_comm]
theorem Vv {α:Type}(c:Nat):∀(i:Nat) (l:List α),(aj.Xd c i l).length=i
 |0,_=>rfl
 |i+1,l=>by show _+1=_;rw[Vv c i]
theorem Tp {α:Type}(c:Nat):∀(i:Nat) (l X:List α),X∈aj.Xd c i l->(∀b∈X,b∈l)/\X.length<=c
 |0,_,_,h=>by cases h
 |i+1,l,X,h=>by
  rcases abu.1 h with rfl|h
  ·exact⟨fun b hb=>abA hb,by rw[aak];omega⟩
  have:=Tp c i (l.drop c) X h;exact⟨fun b hb=>abV (this.1 b hb),this.2⟩
theorem Wz (sep:Bytes)(M:Nat):∀l:List Bytes,(∀b∈l,b.length<=M)->(aj.Ql sep l).length<=l.length*(M+sep.length)
 | [],_=>aat _
 | [a],h=>by have:=h a (by simp);show a.length<=1*_;omega
 |a::b::l,h=>by have E:=Wz sep M (b::l) (fun x hx=>h x (aca _ hx));have H:=h a (by simp);show (a++sep++aj.Ql sep (b::l)).length<=_;simp only[aag];have e:(a::b::l).length=(b::l).length+1:=rfl;rw[e,adk];omega
def Yf (r c:Nat)(l:List Bytes):Bytes:=
 if l=[] then [91]++aj.aA r++[58]++aj.aA c++[93]
 else [91]++aj.Ql [59,32] ((aj.Xd c r l).map (aj.Ql [32]))++[93]
theorem Sq (n:Nat):Xu cl n=aj.aA n:=by unfold Xu;simp;rfl
theorem U1 (h:n<=64):(aj.aA n).length<=20:=by
 have E:n<BB^1:=by unfold BB;omega
 have:=Zw E;unfold aj.aA;split
 ·simp
 rw[aas];omega
theorem Ga (r c cap:Nat)(ao:Option Addr)(hs:SG w)(hr:r<=64)(hc:c<=64):dk db 66 #[A G r,A G c,U ao 0 cap] w (Sb (Yf r c []) w):=by
 have ew:=zq hs;have hsz:4<w.heap.size:=aaY w _ (hs 0 (by omega));have q1:=U1 hr;have q2:=U1 hc;obtain⟨an,hA⟩:=xq (aj.aA r);obtain⟨B,hB⟩:=xq (aj.aA c);rw[<-hA]at q1;rw[<-hB]at q2;have HA:=zq hA;have HB:=zq hB;clear hs hA hB;go_enter func66,jj;go_wp2_with fail;refine(Ci r hr).mono ?_;rintro e w1 ⟨v1,xs1,rfl,a1,a2,a3,a4⟩;have GM:=zq a1;have p8:=zq a2;have aK:=zq a4;clear a1 a2 a4;go_wp2_with fail;have hs1:=ew.o.below aK hsz;have jI:4<w1.heap.size:=aal hsz aK.o.size;refine(Wp cl hs1 GM (by omega)).mono ?_;rintro e w2 ⟨rfl,b1⟩;rw[p8.o,Sq,<-HA.o];have aI:=zq b1;have cU:=zq (hs1.below b1 jI);have kr:4<w2.heap.size:=aal jI aI.o.size;clear b1 hs1;go_wp2_with fail;refine(Ci c hc).mono ?_;rintro e w3 ⟨v3,xs3,rfl,a1,a2,a5,a4⟩;have rA:=zq a1;have vr:=zq a2;have aV:=zq a4;clear a1 a2 a4;go_wp2_with fail;have hs3:=cU.o.below aV kr;refine(Wp cl hs3 rA (by omega)).mono ?_;rintro e w4 ⟨rfl,b1⟩;rw[vr.o,Sq,<-HB.o];have cC:=zq b1;clear b1 hs3;go_wp2_with fail;go_ret;have hz1:=aK.o.size;have hz2:=aI.o.size;have hz3:=aV.o.size;refine⟨?_,((aK.o.trans (aI.o.mono hz1)).trans (aV.o.mono (aar hz1 hz2))).trans (cC.o.mono (aar (aar hz1 hz2) hz3))⟩
 have e:Yf r c []=[91]++an++[58]++B++[93]:=by rw[HA.o,HB.o];unfold Yf;rw[if_pos rfl]
 show Ending.returned (dl ((⟨#[91]⟩:ByteArray)++⟨an.toArray⟩++⟨#[58]⟩++⟨B.toArray⟩++⟨#[93]⟩))=_;rw[e,Zp,Zp,Zp,Zp];simp
theorem Dn (r c:Nat){l:List Bytes}(hv:SS w v l)(hl:l≠[])(hr:r<=64)(hc:c<=64)(hn:l.length=r*c)(hb:∀b∈l,b.length<=2147483648):dk db 66 #[A G r,A G c,v] w (Sb (Yf r c l) w):=by
 obtain⟨ao,cap,rfl,h1,h2,h3⟩:=hv;have dO:0<l.length:=abm.2 hl;obtain⟨g,o,rfl,hg,hcell⟩:=h3 dO;obtain⟨n,bu⟩:=xq l.length;rw[<-bu]at h1 dO hn ⊢
 have yg:n<=4096:=by rw[hn];exact aa3 hr hc
 have HC:=zq hcell;have HL:=zq hl;have HN:=zq hn;have bw:=zq bu;have pY:=zq hb
 have hne:((n:Int)==0)=cl:=by simp;omega
 have h2':cap<=9223372036854775807:=by unfold maxLen at h2;omega
 have iN:=zq dO;clear hcell hl hn bu hb h3 dO;obtain⟨i0,hi,hz0,hz1',hz2'⟩:=aa0 Tryz.iA;go_enter func66,jj;go_wp2_with fail;go_loopw [7,8,23] (fun lv _ iv wr=> ∃i:Nat,iv=A G i/\i<=r/\wr.ownsRow w.heap.size 9 1 lv i (dr ((aj.Xd c i l).map (aj.Ql [32])))/\ce w.heap.size w wr) (fun _ _ iv _=>(r-intOf iv).toNat)
 case atStart=>exact⟨0,rfl,aat _,abx _ _ _ _,aaw _ _⟩
 case round=>
  obtain⟨i,rfl,hir,hown,hbl⟩:=hrel;have HOWN:=zq hown;have aL:=zq hbl;obtain⟨bo,ez,rfl,qK,lp,rK⟩:=Qj hown;have HBS:=zq rK;clear hown hbl rK;by_cases hlt:i<r
  ·obtain⟨a,ha⟩:=xq (i*c)
   have hac:a+c<=n:=by rw[HN.o,ha,<-adk];exact aa3 (by omega) (aab _)
   have E1:(i:Int)*(c:Int)=(a:Int):=by rw[ha];exact(abH i c).symm
   have E2:((i:Int)+1)*(c:Int)=((a+c:Nat):Int):=by rw[Int.add_mul,E1];omega
   have HAE:=zq ha;clear ha
   have hc0:0<c:=by
    rcases abY c with h|h
    ·subst h;have h1:=HN.o;rw[abI]at h1;have h2:=iN.o;omega
    exact h
   have hca: ¬cap=a:=by omega
   obtain⟨X,hX⟩:=xq ((l.drop a).take c)
   have vO:X.length=c:=by rw[hX,aak,aan,<-bw.o];omega
   have HX:=zq hX;have CZ:=zq vO;have hXb:∀b∈X,b.length<=2147483648:=fun b hb=>pY.o b (abV (abA (hX ▸ hb)))
   have hss:SS wr (U (F ⟨g,o+a,Z⟩) c (cap-a)) X:=by
    refine⟨_,_,by rw[vO],by omega,by omega,fun _=>⟨g,o+a,rfl,aal hg aL.o.size,fun j b hj=> ?_⟩⟩;rw[hX,abE]at hj;split at hj
    ·rw[abg]at hj
     rw[abz];exact(aL.o.cell (p:=⟨g,o+(a+j),Z⟩) hg).trans (HC.o (a+j) b hj)
    cases hj
   have xU:=zq hss;have nh:=Wz [32] 2147483648 X hXb;rw[vO]at nh
   have zT:(aj.Ql [32] X).length<=137438953536:=by refine aar nh (aar (aa3 hc (aab _)) (by decide))
   have HJL:=zq zT;clear hX vO hXb hss nh zT;go_wp2_with fail;refine(Ht ⟨#[32]⟩ xU.o (by rw[CZ.o];omega) (aar HJL.o (by omega))).mono ?_;rintro e w1 ⟨rfl,hb1⟩;have aK:=zq hb1;have uW:=zq (Qy HOWN.o hb1 (aab _));obtain⟨J,hJ⟩:=xq (aj.Ql [32] X);rw[show aj.Ql (⟨#[32]⟩:ByteArray).data.toList X=J from hJ.symm];have HJ:=zq hJ;clear hb1 hJ;have hz1:=aK.o.size;have hz2:=aL.o.size;go_wp2_with (at_builtin;refine abn _ rfl _ _ 105 rfl w.heap.size 9 i0 (dl ⟨#[]⟩) 1 16 eg hi hz0 hz1' hz2' rfl (by decide) _ _ _ rfl (aaU uW.o _) ⟨w1.heap.size,0,Z⟩ 1 1 [dl ⟨J.toArray⟩] rfl rfl (ar.Qg _ _ _ _ rfl) (by simp[Value.oneCell']) (by unfold maxLen;omega) (by omega) (by simp;omega) ?_);intro v4 w4 bg aJ _ gB
   have cm:dr ((aj.Xd c (i+1) l).map (aj.Ql [32]))=dr ((aj.Xd c i l).map (aj.Ql [32]))++[dl ⟨J.toArray⟩]:=by rw[Hx,abl,Qfi,<-HAE.o,<-HX.o,HJ.o];rfl
   have jQ:da (w4.ownsRow w.heap.size 9 1 v4 (i+1) (dr ((aj.Xd c (i+1) l).map (aj.Ql [32])))):=by show World.ownsRow _ _ _ _ _ _ _;rw[cm];exact bg
   have cC:da (ce w.heap.size w w4):=aaF ((aL.o.trans (aK.o.mono aL.o.size)).alloc (by omega) _) aJ (by simp;omega) (fun q hq=>(aaB uW q hq).1);clear bg aJ gB cm;go_wp2_with fail;have aq:w4.ownsRow w.heap.size 9 1 v4 (i+1) (dr ((aj.Xd c (i+1) l).map (aj.Ql [32])))/\ce w.heap.size w w4:=⟨jQ,cC⟩
   exact⟨⟨i+1,rfl,by omega,aq⟩,by simp[intOf]<;>omega⟩
  have dD:i=r:=by omega
  subst dD
  have gV:∀b∈(aj.Xd c i l).map (aj.Ql [32]),b.length<=137438953536:=by intro b hb;rw[abw]at hb;obtain⟨X,hX,rfl⟩:=hb;have h1:=Tp c i l X hX;refine aar (Wz [32] 2147483648 X (fun b hb=>pY.o b (h1.1 b hb))) ?_;refine aar (aa3 (aar h1.2 hc) (aab _)) (by decide)
  have nh:=Wz [59,32] 137438953536 _ gV;rw[aas,Vv]at nh;obtain⟨T,hT⟩:=xq (aj.Ql [59,32] ((aj.Xd c i l).map (aj.Ql [32])));rw[<-hT]at nh
  have zT:T.length<=8796093026432:=by refine aar nh (aar (aa3 hr (aab _)) (by decide))
  have HT:=zq hT;clear nh gV hT;go_wp2_with fail
  have hJ:=Ht ⟨#[59,32]⟩ (SS.dh HOWN) (by rw[aas,Vv];omega) (by
   show (aj.Ql [59,32] _).length<=_
   rw[<-HT.o];omega)
  rw[show aj.Ql (⟨#[59,32]⟩:ByteArray).data.toList ((aj.Xd c i l).map (aj.Ql [32]))=T from HT.o.symm]at hJ;refine hJ.mono ?_;rintro e w1 ⟨rfl,hb1⟩;have aK:=zq hb1;clear hb1 hJ;go_wp2_with fail;go_ret;refine⟨?_,aL.o.trans (aK.o.mono aL.o.size)⟩
  have e:Yf i c l=[91]++T++[93]:=by rw[HT.o];unfold Yf;rw[if_neg HL.o]
  show Ending.returned (dl ((⟨#[91]⟩:ByteArray)++⟨T.toArray⟩++⟨#[93]⟩))=_;rw[e,Zp,Zp];simp
def DD (w:ca)(v:de)(l:List (Bool×Nat)):Prop:=∃ao cap,v=U ao l.length cap/\l.length<=cap/\cap<=maxLen/\(0<l.length-> ∃g o,ao=F ⟨g,o,Z⟩/\g<w.heap.size/\ ∀j p,l[j]?=F p-> ∃m xs,w.cell? ⟨g,o+j*2,Z⟩=F (c9 p.1)/\w.cell? ⟨g,o+j*2+1,Z⟩=F m/\Rd w m xs/\aw.val xs=p.2/\xs.length<=67108864)
def Xg (l:List (Bool×Nat)):List Bytes:=l.map fun p=>Xu p.1 p.2
theorem Zy (neg:Bool)(hl:xs.length<=67108864)(bm:ok xs):(Xu neg (aw.val xs)).length<=2147483648:=by
 have h:(Yb (aw.val xs)).length<=1342177281:=by
  unfold Yb;split
  ·simp
  have:=Zw (aN bm);rw[aas];omega
 unfold Xu;split
 ·simp only[aaq];omega
 omega
theorem Qmk (r c:Nat){l:List (Bool×Nat)}(hs:SG w)(hv:DD w v l)(hr:r<=64)(hc:c<=64)(hn:l.length=r*c):dk db 30 #[eS #[A G r,A G c,v]] w fun e w'=>e=dj (ex #[dl ⟨(Yf r c (Xg l)).toArray⟩,A G 0])/\ce w.heap.size w w':=by
 have ew:=zq hs;have HV:=zq hv;have hsz:4<w.heap.size:=aaY w _ (hs 0 (by omega));obtain⟨ao,cap,rfl,h1,h2,h3⟩:=hv;obtain⟨n,bu⟩:=xq l.length;rw[<-bu]at h1 hn ⊢
 have yg:n<=4096:=by rw[hn];exact aa3 hr hc
 have HN:=zq hn;have bw:=zq bu;have H3:=zq h3;have HA:=zq (Qq w (O #[A G r,A G c,U ao n cap] 47));have hblk:=aap w (O #[A G r,A G c,U ao n cap] 47);have jh:=zq hblk;clear hs hn bu h3 hblk;obtain⟨i0,hi,hz0,hz1',hz2'⟩:=aa0 Tryz.iA;go_enter func30,ntmps30;go_wp2_with fail;refine(Qmw r c n cap ao hr hc HN).mono ?_;rintro e w1 ⟨rfl,hb1⟩;have vT:w1.heap[w.heap.size]?=F (O #[A G r,A G c,U ao n cap] 47 (0,0)):=(hb1.block w.heap.size (by simp)).trans jh;have aK:da (ce w.heap.size w w1):=HA.o.trans (hb1.mono (by simp))
 have bA:w.heap.size<w1.heap.size:=by have:=hb1.size;simp at this;omega
 have sq:=zq vT;have e0:w1.cell? ⟨w.heap.size,0,Z⟩=F (A G r):=(aaj w1 _ _ _ _ _ vT).trans rfl;have e1:w1.cell? ⟨w.heap.size,1,Z⟩=F (A G c):=(aaj w1 _ _ _ _ _ vT).trans rfl;have e2:w1.cell? ⟨w.heap.size,2,Z⟩=F (U ao n cap):=(aaj w1 _ _ _ _ _ vT).trans rfl;clear hb1 vT;go_wp2_with (at_make;refine adO _ rfl _ _ 105 rfl w1.heap.size 9 i0 (dl ⟨#[]⟩) 1 eg hi hz0 hz1' _ _ _ n rfl rfl rfl (by rw[hz2'];omega) (by unfold maxLen;omega) (aab _) ?_);intro w2 hown2 hgrow2;have hb2:ce w1.heap.size w1 w2:=aaF (aaw _ _) hgrow2 (aab _) (fun k hk=>by cases hk);have mN:=zq hown2;have aI:=zq hb2;have f2:w2.cell? ⟨w.heap.size,2,Z⟩=F (U ao n cap):=(hb2.cell (p:=⟨w.heap.size,2,Z⟩) bA).trans e2;clear hown2 hgrow2 hb2;go_wp2_with fail;clear e0 e1 e2 f2;go_loopw [5,7,20] (fun lv _ iv wr=> ∃i:Nat,iv=A G i/\i<=n/\wr.ownsRow w1.heap.size 9 1 lv i (dr (Xg (l.take i)))/\ce w1.heap.size w1 wr) (fun _ _ iv _=>(n-intOf iv).toNat)
 case atStart=>exact⟨0,rfl,aat _,by simpa [Xg,dr] using mN.o,aI⟩
 case round=>
  obtain⟨i,rfl,ir,hown,hbl⟩:=hrel;have HOWN:=zq hown;have aL:=zq hbl;obtain⟨bo,ez,rfl,qK,lp,rK⟩:=Qj hown;have hz1:=hbl.size;clear hown hbl rK;by_cases hlt:i<n
  ·obtain⟨g,o,rfl,hg,hcell⟩:=H3.o (by rw[<-bw.o];omega)
   obtain⟨p,hp⟩:∃p,l[i]?=F p:=⟨_,aad (by rw[<-bw.o];omega)⟩;obtain⟨m,xs,c0,c1,bQ,hval,fD⟩:=hcell i p hp;obtain⟨neg,k⟩:=p;obtain⟨mo,gI,uf,-⟩:=bQ.2;subst uf;have jD:ce w.heap.size w wr:=aK.o.trans (aL.o.mono (aa1 bA));have d0:wr.cell? ⟨g,o+i*2,Z⟩=F (c9 neg):=(jD.cell (p:=⟨g,o+i*2,Z⟩) hg).trans c0;have d1:wr.cell? ⟨g,o+i*2+1,Z⟩=F (U mo xs.length gI):=(jD.cell (p:=⟨g,o+i*2+1,Z⟩) hg).trans c1;have gj:=zq (bQ.below jD);have gm:=zq hval;have HP:=zq hp;have dY:=zq jD;clear c0 c1 bQ hval hp hcell jD;have jf:=zq (Qq wr (O #[c9 neg,U mo xs.length gI] 62))
   have iO:da ((Xu neg k).length<=2147483648):=by have:=Zy neg fD gj.o.ok;rw[gm.o]at this;exact this
   go_wp2_with fail;have hsg:=(ew.o.below dY hsz).below jf (aal hsz dY.o.size);refine(Wp neg hsg (gj.o.below jf) (by omega)).mono ?_;rintro e w3 ⟨rfl,hb3⟩
   have e1:Xu neg (aw.val xs)=Xu neg k:=by rw[gm.o]
   rw[e1];obtain⟨T,hT⟩:=xq (Xu neg k);rw[<-hT];have HT:=zq hT;have aV:da (ce wr.heap.size wr w3):=jf.o.trans (hb3.mono (by simp));have fu:=zq (Qy HOWN.o aV.o (aab _));have hz3:=aV.o.size;clear hb3 hsg hT e1 d0 d1;go_wp2_with (at_builtin;refine abn _ rfl _ _ 105 rfl w1.heap.size 9 i0 (dl ⟨#[]⟩) 1 16 eg hi hz0 hz1' hz2' rfl (by decide) _ _ _ rfl (aaU fu.o _) ⟨w3.heap.size,0,Z⟩ 1 1 [dl ⟨T.toArray⟩] rfl rfl (ar.Qg _ _ _ _ rfl) (by simp[Value.oneCell']) (by unfold maxLen;omega) (by omega) (by simp;omega) ?_);intro v4 w4 bg aJ _ gB
   have cm:dr (Xg (l.take (i+1)))=dr (Xg (l.take i))++[dl ⟨T.toArray⟩]:=by rw[aaI,HP.o];simp[Xg,dr,HT.o]
   have jQ:da (w4.ownsRow w1.heap.size 9 1 v4 (i+1) (dr (Xg (l.take (i+1))))):=by show World.ownsRow _ _ _ _ _ _ _;rw[cm];exact bg
   have cC:da (ce w1.heap.size w1 w4):=aaF ((aL.o.trans (aV.o.mono hz1)).alloc (by omega) _) aJ (by simp;omega) (fun q hq=>(aaB fu q hq).1);clear bg aJ gB cm;go_wp2_with fail;have aq:w4.ownsRow w1.heap.size 9 1 v4 (i+1) (dr (Xg (l.take (i+1))))/\ce w1.heap.size w1 w4:=⟨jQ,cC⟩
   exact⟨⟨i+1,rfl,by omega,aq⟩,by simp[intOf]<;>omega⟩
  have dD:i=n:=by omega
  have bF:l.take i=l:=aam (by rw[dD];exact abT bw.o.symm);rw[bF]at HOWN;have bN:=(aL.o.block w.heap.size bA).trans sq;have e0:wr.cell? ⟨w.heap.size,0,Z⟩=F (A G r):=(aaj wr _ _ _ _ _ bN).trans rfl;have e1:wr.cell? ⟨w.heap.size,1,Z⟩=F (A G c):=(aaj wr _ _ _ _ _ bN).trans rfl;have dY:da (ce w.heap.size w wr):=aK.o.trans (aL.o.mono (aa1 bA));have qu:=zq dD;clear bN bF dD;go_wp2_with fail
  have iq:(Xg l).length=r*c:=by unfold Xg;rw[aas,<-bw.o,HN.o]
  have pn:dk db 66 #[A G r,A G c,U bo i ez] wr (Sb (Yf r c (Xg l)) wr):=by
   by_cases h0:Xg l=[]
   ·have dR:i=0:=by
     have:=aaE List.length h0;rw[iq,aa5,<-HN.o]at this;rw[qu.o];exact this
    subst dR;rw[h0];exact Ga r c ez bo (ew.o.below dY hsz) hr hc
   refine Dn r c (SS.dh HOWN) h0 hr hc iq ?_;intro b hb;unfold Xg at hb;rw[abw]at hb;obtain⟨p,hp,rfl⟩:=hb;obtain⟨j,hj⟩:=acd hp
   have hl0:0<l.length:=by have:=(aaf.1 hj).1;omega
   obtain⟨g,o,_,_,hcell⟩:=H3.o hl0;obtain⟨m,xs,_,_,bQ,hval,fD⟩:=hcell j p hj;have:=Zy p.1 fD bQ.ok;rw[hval]at this;exact this
  refine pn.mono ?_;rintro e w5 ⟨rfl,bG⟩;have cS:=zq bG;clear bG pn;go_wp2_with fail;go_ret2;exact⟨rfl,dY.o.trans (cS.o.mono dY.o.size)⟩
def Sl (w:ca)(v:de)(n:Nat)(R:Nat->de->Prop):Prop:=∃ao cap,v=U ao n cap/\n<=cap/\cap<=maxLen/\(0<n-> ∃g o,ao=F ⟨g,o,Z⟩/\g<w.heap.size/\ ∀j,j<n-> ∃u,w.cell? ⟨g,o+j,Z⟩=F u/\R j u)
theorem Sl.mono {R R':Nat->de->Prop}(h:Sl w v n R)(hb:ce w.heap.size w w')(hr:∀j u,R j u->R' j u):Sl w' v n R':=by obtain⟨ao,E,e,H,I,J⟩:=h;refine⟨ao,E,e,H,I,fun h0=> ?_⟩;obtain⟨g,o,rfl,a2,a3⟩:=J h0;refine⟨g,o,rfl,aal a2 hb.size,fun j hj=> ?_⟩;obtain⟨u,b1,b2⟩:=a3 j hj;exact⟨u,(hb.cell (p:=⟨g,o+j,Z⟩) a2).trans b1,hr j u b2⟩
def oC (w:ca)(v:de)(n:Nat):Prop:=∃xs,Rd w v xs/\aw.val xs=n/\xs.length<=67108864
theorem oC.below (h:oC w v n)(hb:ce w.heap.size w w'):oC w' v n:=by obtain⟨xs,E,H,I⟩:=h;exact⟨xs,E.below hb,H,I⟩
def zf (w:ca)(v:de)(s:List Nat):Prop:=Sl w v s.length fun j u=> ∃n,s[j]?=F n/\oC w u n
theorem zf.below {s:List Nat}(h:zf w v s)(hb:ce w.heap.size w w'):zf w' v s:=
 Sl.mono h hb fun _ _ ⟨n,a,b⟩=>⟨n,a,b.below hb⟩
def CRd (w:ca)(v:de)(l:List (List Nat)):Prop:=Sl w v l.length fun j u=> ∃s,l[j]?=F s/\zf w u s
theorem Ds (sep:Bytes):∀(l:List Bytes) (b:Bytes),b∈l->b.length<=(aj.Ql sep l).length
 | [a],b,h=>by rw[aaO.1 h];exact aab _
 |a::c::l,b,h=>by
  show b.length<=(a++sep++aj.Ql sep (c::l)).length;simp only[aag];rcases abu.1 h with rfl|h
  ·omega
  have:=Ds sep (c::l) b h;omega
def dQ (s:List Nat):Bytes:=aj.Ql [32] (s.map aj.aA)
theorem Qgy (hl:xs.length<=67108864)(bm:ok xs):(aj.aA (aw.val xs)).length<=2147483648:=by have:=Zy cl hl bm;rw[Sq]at this;exact this
theorem Qgw {l:List (List Nat)}(hs:SG w)(hv:CRd w v l)(hn:l.length<=134217728)(hm:∀s∈l,s.length<=134217728)(hT:(aj.Ql [44,32] (l.map dQ)).length<=70368744177664):dk db 67 #[v] w (Sb (aj.iT l) w):=by
 have ew:=zq hs;have HV:=zq hv;have hsz:4<w.heap.size:=aaY w _ (hs 0 (by omega));obtain⟨ao,cap,rfl,h1,h2,h3⟩:=hv;obtain⟨n,bu⟩:=xq l.length;rw[<-bu]at h1 hn h3 ⊢;have bw:=zq bu;have H3:=zq h3;have HM:=zq hm;have HT:=zq hT;clear hs bu h3 hm hT;obtain⟨i0,hi,hz0,hz1',hz2'⟩:=aa0 Tryz.iA;go_enter func67,ntmps67;go_wp2_with fail;go_loopw [3,5,6,8,11] (fun lv _ _ _ iv wr=> ∃i:Nat,iv=A G i/\i<=n/\wr.ownsRow w.heap.size 9 1 lv i (dr ((l.map dQ).take i))/\ce w.heap.size w wr) (fun _ _ _ _ iv _=>(n-intOf iv).toNat)
 case atStart=>exact⟨0,rfl,aat _,abx _ _ _ _,aaw _ _⟩
 case round=>
  obtain⟨i,rfl,ir,hown,hbl⟩:=hrel;have HOWN:=zq hown;have aL:=zq hbl;obtain⟨bo,ez,rfl,qK,lp,rK⟩:=Qj hown;have hz1:=hbl.size;clear hown hbl rK;by_cases hlt:i<n
  ·obtain⟨g,o,rfl,hg,hcell⟩:=H3.o (by omega)
   obtain⟨u,c0,s,qT,hsr⟩:=hcell i hlt;have d0:wr.cell? ⟨g,o+i,Z⟩=F u:=(aL.o.cell (p:=⟨g,o+i,Z⟩) hg).trans c0;have p7:=zq qT;have YH:=hsr.below aL;have HSR:=zq YH;obtain⟨so,cG,rfl,s1,s2,s3⟩:=YH;have eW:=HM.o s (aai qT);have ie:=zq s3;obtain⟨m,ei⟩:=xq s.length;rw[<-ei]at s1 eW ie d0;have ct:=zq ei;clear c0 qT hsr hcell s3 ei;obtain⟨wo,rfl⟩:=xq wr;go_wp2_with fail;go_loopw [6,8,17] (fun nv _ jv wx=> ∃j:Nat,jv=A G j/\j<=m/\wx.ownsRow wo.heap.size 9 1 nv j (dr ((s.map aj.aA).take j))/\ce wo.heap.size wo wx) (fun _ _ jv _=>(m-intOf jv).toNat)
   case atStart=>exact⟨0,rfl,aat _,abx _ _ _ _,aaw _ _⟩
   case round=>
    obtain⟨j,rfl,hjm,hown2,fe⟩:=hrel;have uY:=zq hown2;have bH:=zq fe;obtain⟨no,bL,rfl,bU,wO,XQ⟩:=Qj hown2;have hz2:=fe.size;have dY:da (ce w.heap.size w wr):=aL.o.trans (fe.mono hz1);clear hown2 fe XQ;by_cases zU:j<m
    ·obtain⟨g2,o2,rfl,hg2,lr⟩:=ie.o (by omega)
     obtain⟨u,c0,k,hsk,xs,bQ,hval,fD⟩:=lr j zU;have e0:wr.cell? ⟨g2,o2+j,Z⟩=F u:=(bH.o.cell (p:=⟨g2,o2+j,Z⟩) hg2).trans c0;have gj:=zq (bQ.below bH);have gm:=zq hval;have HSK:=zq hsk
     have iO:da ((aj.aA k).length<=2147483648):=by have:=Qgy fD bQ.ok;rw[hval]at this;exact this
     obtain⟨uo,ep,YP,-⟩:=bQ.2;subst YP;clear c0 hsk bQ hval lr;go_wp2_with fail;refine(Pc (ew.o.below dY.o hsz) gj.o (by omega)).mono ?_;rintro e w3 ⟨rfl,hb3⟩;rw[gm.o,Gf];obtain⟨T,hT⟩:=xq (aj.aA k);rw[<-hT];have oO:=zq hT;have aV:=zq hb3;have fu:=zq (Qy uY.o hb3 (aab _));have hz3:=hb3.size;clear hb3 hT e0;go_wp2_with (at_builtin;refine abn _ rfl _ _ 105 rfl wo.heap.size 9 i0 (dl ⟨#[]⟩) 1 16 eg hi hz0 hz1' hz2' rfl (by decide) _ _ _ rfl (aaU fu.o _) ⟨w3.heap.size,0,Z⟩ 1 1 [dl ⟨T.toArray⟩] rfl rfl (ar.Qg _ _ _ _ rfl) (by simp[Value.oneCell']) (by unfold maxLen;omega) (by omega) (by simp;omega) ?_);intro v4 w4 bg aJ _ gB
     have cm:dr ((s.map aj.aA).take (j+1))=dr ((s.map aj.aA).take j)++[dl ⟨T.toArray⟩]:=by rw[aaI,aa9,HSK.o];simp[dr,oO.o]
     have jQ:da (w4.ownsRow wo.heap.size 9 1 v4 (j+1) (dr ((s.map aj.aA).take (j+1)))):=by show World.ownsRow _ _ _ _ _ _ _;rw[cm];exact bg
     have cC:da (ce wo.heap.size wo w4):=aaF ((bH.o.trans (aV.o.mono hz2)).alloc (by omega) _) aJ (by simp;omega) (fun q hq=>(aaB fu q hq).1);clear bg aJ gB cm;go_wp2_with fail;have aq:w4.ownsRow wo.heap.size 9 1 v4 (j+1) (dr ((s.map aj.aA).take (j+1)))/\ce wo.heap.size wo w4:=⟨jQ,cC⟩
     exact⟨⟨j+1,rfl,by omega,aq⟩,by simp[intOf]<;>omega⟩
    have jo:j=m:=by omega
    have bF:(s.map aj.aA).take j=s.map aj.aA:=aam (by rw[jo,aas];exact abT ct.o.symm);rw[bF]at uY;have hsT:dQ s=aj.Ql [32] (s.map aj.aA):=rfl;have CU:da ((dQ s).length<=70368744177664):=aar (Ds [44,32] (l.map dQ) _ (List.mem_map_of_mem (aai p7))) HT;obtain⟨T,x7⟩:=xq (dQ s);have oO:=zq x7;have xU:=zq (SS.dh uY);clear bF hsT x7 jo;go_wp2_with fail
    have hJ:=Ht ⟨#[32]⟩ xU (by rw[aas,<-ct.o];omega) (by
     show (dQ s).length<=_
     exact aar CU (by omega))
    rw[show aj.Ql (⟨#[32]⟩:ByteArray).data.toList (s.map aj.aA)=T from oO.o.symm]at hJ;refine hJ.mono ?_;rintro e w3 ⟨rfl,hb3⟩;have aV:=zq (bH.o.trans (hb3.mono hz2));have fu:=zq (Qy HOWN.o aV.o (aab _));have hz3:=aV.o.size;clear hb3 hJ;go_wp2_with (at_builtin;refine abn _ rfl _ _ 105 rfl w.heap.size 9 i0 (dl ⟨#[]⟩) 1 16 eg hi hz0 hz1' hz2' rfl (by decide) _ _ _ rfl (aaU fu.o _) ⟨w3.heap.size,0,Z⟩ 1 1 [dl ⟨T.toArray⟩] rfl rfl (ar.Qg _ _ _ _ rfl) (by simp[Value.oneCell']) (by unfold maxLen;omega) (by omega) (by simp;omega) ?_);intro v4 w4 bg aJ _ gB
    have cm:dr ((l.map dQ).take (i+1))=dr ((l.map dQ).take i)++[dl ⟨T.toArray⟩]:=by rw[aaI,aa9,p7.o];simp[dr,oO.o]
    have jQ:da (w4.ownsRow w.heap.size 9 1 v4 (i+1) (dr ((l.map dQ).take (i+1)))):=by show World.ownsRow _ _ _ _ _ _ _;rw[cm];exact bg
    have cC:da (ce w.heap.size w w4):=aaF ((aL.o.trans (aV.o.mono hz1)).alloc (by omega) _) aJ (by simp;omega) (fun q hq=>(aaB fu q hq).1);clear bg aJ gB cm;go_wp2_with fail;have aq:w4.ownsRow w.heap.size 9 1 v4 (i+1) (dr ((l.map dQ).take (i+1)))/\ce w.heap.size w w4:=⟨jQ,cC⟩
    exact⟨⟨i+1,rfl,by omega,aq⟩,by simp[intOf]<;>omega⟩
  have dD:i=n:=by omega
  have bF:(l.map dQ).take i=l.map dQ:=aam (by rw[dD,aas];exact abT bw.o.symm);rw[bF]at HOWN;obtain⟨T,hT⟩:=xq (aj.Ql [44,32] (l.map dQ))
  have fS:T.length<=70368744177664:=by rw[hT];exact HT.o
  have oO:=zq hT;have xU:=zq (SS.dh HOWN);clear bF hT dD;go_wp2_with fail
  have hJ:=Ht ⟨#[44,32]⟩ xU (by rw[aas,<-bw.o];omega) (by
   show (aj.Ql [44,32] (l.map dQ)).length<=_
   exact aar HT (by omega))
  rw[show aj.Ql (⟨#[44,32]⟩:ByteArray).data.toList (l.map dQ)=T from oO.o.symm]at hJ;refine hJ.mono ?_;rintro e w3 ⟨rfl,hb3⟩;have aV:=zq hb3;clear hb3 hJ;go_wp2_with fail;go_ret;refine⟨?_,aL.o.trans (aV.o.mono hz1)⟩
  have e:aj.iT l=[123]++T++[125]:=by rw[oO.o];rfl
  show Ending.returned (dl ((⟨#[123]⟩:ByteArray)++⟨T.toArray⟩++⟨#[125]⟩))=_;rw[e,Zp,Zp];simp
theorem Gi (a b:Nat):Nat.gcd b (a % b)=Nat.gcd a b:=by rw[Nat.gcd_comm a b,Nat.gcd_rec b a];exact Nat.gcd_comm _ _
theorem Au (h:l.length=1)(hx:l[0]?=F x):val l=x:=by
 match l,h with
 | [y],_=>simp at hx;subst hx;simp[aw.val]
theorem Tx (hs:strip l=l)(h:val l=0):l=[]:=by
 cases hl:l.length with
 |zero=>exact aau hl
 |succ m=>have E:=Ej (l:=l) (m:=m) (by rw[hs];exact hl);rw[h]at E;exact absurd (abC (n:=m) aC) (by omega)
theorem Qw2 (x y:Nat)(hx:x<BB)(hy:y<BB):dk db 241 #[A co x,A co y] w fun e w'=> ∃v,e=dj v/\Fr w.heap.size w' v [Nat.gcd x y]/\ce w.heap.size w w':=by
 have HX:=zq hx;have HY:=zq hy;clear hx hy;go_enter func241,ntmps241;go_wp2_with fail;go_loopw [0,1] (fun xv yv wr=> ∃p q:Nat,xv=A co p/\yv=A co q/\p<BB/\q<BB/\Nat.gcd p q=Nat.gcd x y/\ce w.heap.size w wr) (fun _ yv _=>(intOf yv).toNat)
 case atStart=>exact⟨x,y,rfl,rfl,HX,HY,rfl,aaw _ _⟩
 case round=>
  obtain⟨p,q,rfl,rfl,hp,hq,hg,hbl⟩:=hrel;have aL:=zq hbl;have rX:=hbl.size;clear hbl;have HP:=zq hp;have HQ:=zq hq;have HG:=zq hg;clear hp hq hg;by_cases h0:q=0
  ·subst h0
   have rq:da (p=Nat.gcd x y):=by show _=_;rw[<-HG.o];simp
   have hblk:bh (wr.alloc (O #[A co p] 101)) wr.heap.size [p]:=by refine⟨aap wr _,?_⟩;intro z hz;simp at hz;subst hz;exact HP.o
   have jh:=zq hblk;clear hblk;go_wp2_with fail;go_ret;refine⟨_,rfl,⟨?_,fun k hk=> ?_⟩,aL.o.trans ((Qq _ _).mono rX)⟩
   ·rw[<-rq.o];exact jh.o.whole (by simp)
   cases hk;exact⟨rX,by simp⟩
  have lZ:((q:Int) !=0)=dq:=by simp;omega
  have ix: ¬((q:Int)=0):=by omega
  have hm:IntKind.u64.wrap ((p:Int).tmod (q:Int))=((p % q:Nat):Int):=by have:=abL p (abr h0);have qQ:=HQ.o;have e:(p:Int).tmod (q:Int)=((p % q:Nat):Int):=rfl;rw[e,aaA];unfold BB at qQ;omega
  have gX:(p:Int).tmod (q:Int)=((p % q:Nat):Int):=rfl;go_wp2_with fail;have hlt:p % q<q:=abL p (abr h0);have HD:=zq aL.o.drew
  have sw:da (Nat.gcd q (p % q)=Nat.gcd x y):=by show _=_;rw[Gi,HG.o]
  have xN:da (p % q<BB):=ab1 hlt HQ.o;obtain⟨m,uf⟩:=xq (p % q);rw[<-uf]at hm gX hlt sw xN;clear uf;go_region;go_wp2_with fail;have aq:q<BB/\m<BB/\Nat.gcd q m=Nat.gcd x y/\ce w.heap.size w wr.drew:=⟨HQ.o,xN.o,sw.o,HD.o⟩
  exact⟨⟨q,m,rfl,rfl,aq⟩,by simp[intOf]<;>omega⟩
def Qho (a b m:Nat)(w:ca)(e:du)(w':ca):Prop:=∃v gs,e=dj v/\Fr w.heap.size w' v gs/\val gs=Nat.gcd a b/\strip gs=gs/\gs.length<=m/\ce w.heap.size w w'
def Qcr (a b m:Nat)(w:ca)(k:Nat)(xv yv:de)(wr:ca):Prop:=∃xs ys,Fr w.heap.size wr xv xs/\Fr w.heap.size wr yv ys/\strip xs=xs/\strip ys=ys/\xs.length<=m/\ys.length<=m/\Nat.gcd (val xs) (val ys)=Nat.gcd a b/\val ys=k/\ce w.heap.size w wr
theorem Qc (h:ce w.heap.size w w')(hc:w.cell? p=F v)(hf:w.frozen? p=cl):w'.frozen? p=cl:=by have E:p.block<w.heap.size:=aaY w p hc;unfold World.frozen? at hf ⊢;rw[h.block p.block E];exact hf
theorem Qx (h:ce w.heap.size w w')(hc:w.cell? p=F v):w'.cell? p=F v:=
 (h.cell (aaY w p hc)).trans hc
theorem Qxh (h:l.length=1):∃x,l[0]?=F x/\val l=x:=by
 match l,h with
 | [y],_=>exact⟨y,rfl,by simp[aw.val]⟩
theorem Qpk (h:x≠0):strip [x]=[x]:=Q0 [] x h
theorem Qb0 (m:Nat)(hv:Rd w v xs)(hu:Rd w u ys)(hl:xs.length<=m)(hl2:ys.length<=m)(hm:m<=274877906944):dk db 219 #[v,u] w (Qho (val xs) (val ys) m w):=by
 have HV:=zq hv;have HU:=zq hu;obtain⟨ao,cap,rfl,-,-,-,-⟩:=hv.2;obtain⟨bo,bn,rfl,-,-,-,-⟩:=hu.2;clear hv hu;go_enter func219,ntmps219;go_wp2_with fail;refine(Y6 xs HV (by omega)).mono ?_;rintro e w1 ⟨xv,rfl,h1,hb1⟩;have H1:=zq h1;have aK:=zq hb1;have oz:=zq (HU.o.below hb1);have hz1:=hb1.size;clear h1 hb1;go_wp2_with fail;refine(Y6 ys oz (by omega)).mono ?_;rintro e w2 ⟨yv,rfl,h2,hb2⟩;have aI:=zq (aK.o.trans (hb2.mono hz1));have H12:=zq (H1.o.below hb2);have H2:=zq (h2.mono hz1);have et:=zq (aar (Qf xs) hl);have cU:=zq (aar (Qf ys) hl2);clear h2 hb2;go_wp2_with fail;go_loopg [5,6] (val ys) (fun k xv yv wr=>Qcr (val xs) (val ys) m w k xv yv wr)
 case atStart=>exact⟨strip xs,strip ys,H12,H2,X2 _,X2 _,et,cU,by rw[ay,ay],ay ys,aI⟩
 case round=>
  obtain⟨xs',ys',hx,hy,sx,sy,lx,ly,hg,hk,hb⟩:=hrel;obtain⟨xo,aae,rfl,-,-,Ol,-⟩:=hx.1.2;obtain⟨yo,mK,rfl,-,-,Om,-⟩:=hy.1.2;have HX:=zq hx;have HY:=zq hy;have HG:=zq hg;have HK:=zq hk;have HB:=zq hb;have hz:=hb.size;have rB:=zq sx;have xV:=zq sy;clear hx hy hg hk hb sx sy;obtain⟨p,hp⟩:=xq xs'.length;obtain⟨q,hq⟩:=xq ys'.length;have HP:=zq hp;have HQ:=zq hq;rw[<-hp]at lx ⊢;rw[<-hq]at ly ⊢;clear hp hq;by_cases lZ:q=0
  ·subst lZ
   have ja:ys'=[]:=aau HQ.o.symm
   have rq:da (val xs'=Nat.gcd (val xs) (val ys)):=by show _=_;rw[<-HG.o,ja];simp[aw.val]
   clear ja;go_wp2_with fail;go_ret;exact⟨_,xs',rfl,HP.o ▸ HX.o,rq,rB,HP.o ▸ lx,HB⟩
  have hqp:(0:Int)<(q:Int):=by omega
  by_cases h11:p=1/\q=1
  ·obtain⟨h1,h2⟩:=h11
   subst h1;subst h2;obtain⟨x,hx,Oh⟩:=Qxh HP.o.symm;obtain⟨y,hy,yr⟩:=Qxh HQ.o.symm;obtain⟨ao',cap',e,-,-,-,aS⟩:=HX.o.1.2;rw[<-HP.o]at e;cases e;obtain⟨g,o,rfl,e1⟩:=aS 0 x hx;obtain⟨SQ,rD,e',-,-,-,dP⟩:=HY.o.1.2;rw[<-HQ.o]at e';cases e';obtain⟨g2,o2,rfl,e2⟩:=dP 0 y hy;have fY:=HX.o.1.ok x (aai hx);have rV:=HY.o.1.ok y (aai hy);have vz:=zq fY;have HYB:=zq rV
   have lT:da (Nat.gcd x y=Nat.gcd (val xs) (val ys)):=by show _=_;rw[<-HG.o,Oh,yr]
   have HNZ:da (Nat.gcd x y≠0):=fun e=>by have h0:=(Nat.gcd_eq_zero_iff.1 e).2;have:=Tx xV (by rw[yr];exact h0);rw[this]at hy;cases hy
   clear hx hy Oh yr aS dP fY rV;go_wp2_with fail;rw[aba]at e1 e2
   go_region_held3 (fun w'=>w'.cell? ⟨g,o,Z⟩=F (A co x)/\w'.cell? ⟨g2,o2,Z⟩=F (A co y))
    (first|go_keep|exact⟨Qx r2 e1,Qx r2 e2⟩)
    ((go_at_call 241;refine(Qw2 x y (by exact vz.o) (by exact HYB.o)).mono ?_;rintro e w5 ⟨rv,rfl,r1,r2⟩))
   have R1:=zq r1;have R2:=zq r2;clear r1 r2;go_wp2_with fail;go_ret;refine⟨rv,[Nat.gcd (val xs) (val ys)],rfl,?_,by simp[aw.val],?_,by simp;omega,HB.o.drew.trans (R2.o.mono hz)⟩
   ·rw[<-lT.o];exact R1.o.mono hz
   rw[<-lT.o];exact Qpk HNZ
  have iN:da (0<val ys'):=by refine abr fun e=>lZ ?_;rw[HQ.o,Tx xV.o e];rfl
  rcases (by omega:p≠1\/(p=1/\q≠1)) with hc|⟨hc,hc2⟩
  ·clear h11 lZ
   have VJ:((p:Int)==1)=cl:=by simp;omega
   go_wp2_with fail;refine(U3 xs' ys' wr (by rw[HP.o];exact HX.o.1) (by rw[HQ.o];exact HY.o.1) (by rw[<-HP.o];omega) (by rw[<-HQ.o];omega) iN).mono ?_;rintro e w5 ⟨qv,rv,qs,rs,rfl,-,-,-,-,r1,r2,r3,r4,bG⟩;obtain⟨ro,rcap,rfl,-,-,-,-⟩:=r1.1.2;have R1:=zq (r1.mono hz);have R2:=zq r2;have R3:=zq r3;have R4:=zq r4;have cS:=zq (HB.o.trans (bG.mono hz));have HY5:=zq (HY.o.below bG);clear r1 r2 r3 r4 bG;go_wp2_with fail;go_roundg (val rs)
   case measure=>rw[R2.o,<-HK.o];exact abL _ iN
   case rel=>exact⟨ys',rs,HQ.o ▸ HY5.o,R1,xV,R4,by rw[<-HQ.o];exact ly,by have:=R3.o;have:=HQ.o;omega,by rw[R2.o,Gi,HG.o],rfl,cS⟩
  clear h11 lZ;subst hc
  have VJ:((q:Int)==1)=cl:=by simp;omega
  go_wp2_with fail;refine(U3 xs' ys' wr (by rw[HP.o];exact HX.o.1) (by rw[HQ.o];exact HY.o.1) (by rw[<-HP.o];omega) (by rw[<-HQ.o];omega) iN).mono ?_;rintro e w5 ⟨qv,rv,qs,rs,rfl,-,-,-,-,r1,r2,r3,r4,bG⟩;obtain⟨ro,rcap,rfl,-,-,-,-⟩:=r1.1.2;have R1:=zq (r1.mono hz);have R2:=zq r2;have R3:=zq r3;have R4:=zq r4;have cS:=zq (HB.o.trans (bG.mono hz));have HY5:=zq (HY.o.below bG);clear r1 r2 r3 r4 bG;go_wp2_with fail;go_roundg (val rs)
  case measure=>rw[R2.o,<-HK.o];exact abL _ iN
  case rel=>exact⟨ys',rs,HQ.o ▸ HY5.o,R1,xV,R4,by rw[<-HQ.o];exact ly,by have:=R3.o;have:=HQ.o;omega,by rw[R2.o,Gi,HG.o],rfl,cS⟩
theorem Qxg (neg:Bool)(xs:List Nat)(hv:Rd w v xs):dk db 170 #[c9 neg,v] w fun e w'=>e=dj (eS #[c9 (neg && decide (0<xs.length)),v])/\ce w.heap.size w w':=by
 cases neg with
 |false=>exact Qk4 hv
 |true=>
  obtain⟨ao,cap,rfl,-,hcm,-,-⟩:=hv.2;clear hv
  have hb:xs.length<=9223372036854775807->decide ((0:Int)<(xs.length:Int))=decide (0<xs.length):=fun _=>by rw[abj];simp
  go_enter i8,ip;go_wp2_with fail;refine aaD (abF rfl _ _ w.heap.size 62 _ _ _ rfl (aap w _) ef rfl (by kernel_rfl)) rfl ?_;exact⟨by simp,Qq _ _⟩
def Qck (b:Bool)(n m:Nat)(w:ca)(e:du)(w':ca):Prop:=∃v xs,e=dj (eS #[c9 b,v])/\Fr w.heap.size w' v xs/\val xs=n/\strip xs=xs/\xs.length<=m/\ce w.heap.size w w'
theorem Ks (hs:strip xs=xs):decide (0<xs.length)=decide (val xs≠0):=by
 rw[abj];simp only[abi];constructor
 ·intro h e
  rw[Tx hs e]at h;exact absurd h (ado 0)
 intro h;refine abr fun e=>h ?_;rw[aau e];rfl
theorem Qm (h:ce w.heap.size w w')(hc:(w.cell? p).isSome=dq):(w'.cell? p).isSome=dq:=by obtain⟨v,E⟩:=Option.isSome_iff_exists.1 hc;rw[Qx h E];rfl
theorem Xw {x:de}(h:(w.cell? q).isSome=dq):((w.setCell p x).cell? q).isSome=dq:=by
 obtain⟨v,E⟩:=Option.isSome_iff_exists.1 h;by_cases e:q=p
 ·subst e;rw[World.cell?_setCell_same w _ _ E];rfl
 have:=ab4 w p q x (fun h=>e h.symm);rw[this,E];rfl
theorem Vg {p1 p2:Addr}{x y:de}(h1:q.block≠p1.block)(h2:q.block≠p2.block):((w.setCell p1 x).setCell p2 y).cell? q=w.cell? q:=
 (ab4 _ _ _ _ (fun e=>h2 (by rw[<-e]))).trans (ab4 _ _ _ _ (fun e=>h1 (by rw[<-e])))
theorem Uu {p1 p2:Addr}{x y:de}:((w.setCell p1 x).setCell p2 y).frozen? q=w.frozen? q:=
 (adH _ _ _ _).trans (adH _ _ _ _)
theorem Hs {j:Nat}{x y:de}(h:Fr B w v xs)(hB:g<B):Fr B ((w.setCell ⟨g,i,Z⟩ x).setCell ⟨g,j,Z⟩ y) v xs:=by have E:Wr g Z w ((w.setCell ⟨g,i,Z⟩ x).setCell ⟨g,j,Z⟩ y):=(Wr.aD w i x).trans (Mv.refl _ _) (Wr.aD _ j y);exact⟨h.1.wr E (fun k hk=>⟨by have:=(h.2 k hk).1;omega,by simp⟩),fun k hk=>⟨(h.2 k hk).1,aal (h.2 k hk).2 E.size⟩⟩
theorem Zd {j:Nat}{x y:de}(h:ce B w w')(hB:B<=g):ce B w ((w'.setCell ⟨g,i,Z⟩ x).setCell ⟨g,j,Z⟩ y):=
 (h.setCell (p:=⟨g,i,Z⟩) hB _).setCell (p:=⟨g,j,Z⟩) hB _
theorem Qwj:∃aE:Nat->Nat->ca->de,∀b j w',(w'.cell? ⟨b,j,Z⟩).isSome=dq->w'.cell? ⟨b,j,Z⟩=F (aE b j w'):=
 ⟨fun b j w'=>(w'.cell? ⟨b,j,Z⟩).getD undef,fun b j w' h=>by obtain⟨v,E⟩:=Option.isSome_iff_exists.1 h;simp[E]⟩
theorem Qxx (neg:Bool)(hv:Rd w v xs)(hl:xs.length<=274877906944):dk db 175 #[eS #[c9 neg,v]] w (Qck (!neg && decide (val xs≠0)) (val xs) xs.length w):=by
 have HV:=zq hv;obtain⟨ao,cap,rfl,-,-,-,-⟩:=hv.2;clear hv;go_enter func175,ntmps175;go_wp2_with fail;obtain⟨g,hg⟩:=xq w.heap.size;obtain⟨w0,hw0⟩:=xq ((w.alloc (O #[c9 neg,U ao xs.length cap] 62)).alloc (O #[c9 cl,U Z 0 0] 62))
 have bp:da (ce w.heap.size w w0):=by rw[hw0];exact(Qq w (O #[c9 neg,U ao xs.length cap] 62)).trans ((Qq _ _).mono (Qq w (O #[c9 neg,U ao xs.length cap] 62)).size)
 have hb0:w0.heap[g]?=F (O #[c9 neg,U ao xs.length cap] 62 (0,0)):=by rw[hw0,hg];exact(Qq (w.alloc (O #[c9 neg,U ao xs.length cap] 62)) _).block w.heap.size (by simp)|>.trans (aap w _)
 have hb1:w0.heap[g+1]?=F (O #[c9 cl,U Z 0 0] 62 (0,0)):=by rw[hw0,hg];have:=aap (w.alloc (O #[c9 neg,U ao xs.length cap] 62)) (O #[c9 cl,U Z 0 0] 62);rw[aaV]at this;exact this
 have c0:w0.cell? ⟨g,0,Z⟩=F (c9 neg):=(aaj w0 _ _ _ _ _ hb0).trans rfl;have c1:w0.cell? ⟨g,1,Z⟩=F (U ao xs.length cap):=(aaj w0 _ _ _ _ _ hb0).trans rfl;have r0:w0.cell? ⟨g+1,0,Z⟩=F (c9 cl):=(aaj w0 _ _ _ _ _ hb1).trans rfl;have r1:w0.cell? ⟨g+1,1,Z⟩=F (U Z 0 0):=(aaj w0 _ _ _ _ _ hb1).trans rfl;have f0:w0.frozen? ⟨g+1,0,Z⟩=cl:=aax w0 _ 0 _ _ hb1;have f1:w0.frozen? ⟨g+1,1,Z⟩=cl:=aax w0 _ 1 _ _ hb1;have vp:=zq (HV.o.below bp);have HR:=zq hb1;have dy:da (g+1<w0.heap.size):=(aah.1 hb1).1;have HG:=zq hg;rw[<-hw0,<-hg];obtain⟨g1,hg1⟩:=xq (g+1);rw[<-hg1]at r0 r1 f0 f1 HR dy hb1 ⊢
 have hne:g≠g1:=by omega
 have LS:da (w.heap.size<=g1):=by show _<=_;omega
 clear hw0 hb0 hb1 hg hg1
 have Y0:da ((w0.cell? ⟨g1,0,Z⟩).isSome=dq):=by show _=_;rw[r0];rfl
 have Y1:da ((w0.cell? ⟨g1,1,Z⟩).isSome=dq):=by show _=_;rw[r1];rfl
 have R0:=zq r0;have R1:=zq r1;clear r0 r1;obtain⟨aE,hU⟩:=Qwj;have HU:=zq hU;clear hU
 go_region_held3 (fun w'=>w'.cell? ⟨g,0,Z⟩=F (c9 neg)/\w'.cell? ⟨g,1,Z⟩=F (U ao xs.length cap)/\w'.frozen? ⟨g1,0,Z⟩=cl/\w'.frozen? ⟨g1,1,Z⟩=cl/\w'.cell? ⟨g1,0,Z⟩=F (aE (g1) 0 w')/\w'.cell? ⟨g1,1,Z⟩=F (aE (g1) 1 w'))
  (first
   |(refine⟨?_,?_,?_,?_,HU.o _ _ _ (by exact Y0.o),HU.o _ _ _ (by exact Y1.o)⟩<;>go_keep)
   |exact⟨(Vg hne hne).trans (Qx b2 (Qx b1 c0)),(Vg hne hne).trans (Qx b2 (Qx b1 c1)),Uu.trans (Qc b2 (Qx b1 R0) (Qc b1 R0 f0)),Uu.trans (Qc b2 (Qx b1 R1) (Qc b1 R1 f1)),HU.o _ _ _ (Xw (Xw (Qm b2 (Qm b1 Y0)))),HU.o _ _ _ (Xw (Xw (Qm b2 (Qm b1 Y1))))⟩
   |exact⟨Qx b2 (Qx b1 c0),Qx b2 (Qx b1 c1),Qc b2 (Qx b1 R0) (Qc b1 R0 f0),Qc b2 (Qx b1 R1) (Qc b1 R1 f1),HU.o _ _ _ (Qm b2 (Qm b1 Y0)),HU.o _ _ _ (Qm b2 (Qm b1 Y1))⟩
   |exact⟨Qx b1 c0,Qx b1 c1,Qc b1 R0 f0,Qc b1 R1 f1,HU.o _ _ _ (Qm b1 Y0),HU.o _ _ _ (Qm b1 Y1)⟩)
  (first
   |(go_at_call 171;refine(Y6 xs (by exact vp.o) (by omega)).mono ?_;rintro e w1 ⟨u,rfl,h1,b1⟩;obtain⟨uo,ep,rfl,-,-,-,-⟩:=h1.1.2)
   |(go_at_call 170;refine(Qxg (!neg) (strip xs) (by exact h1.1)).mono ?_;rintro e w2 ⟨rfl,b2⟩))
 have aI:da (ce w.heap.size w w2):=bp.o.drew.trans ((b1.trans (b2.mono b1.size)).mono bp.o.size);have H2:=zq (h1.below b2);have ji:da (w2.heap[g1]?=F (O #[c9 cl,U Z 0 0] 62 (0,0))):=(b2.block g1 (aal dy b1.size)).trans ((b1.block g1 dy).trans HR);clear h1 b1 b2;go_wp2_with fail;have s1:=aao w2 g1 0 #[c9 cl,U Z 0 0] 62 (c9 (!neg && decide (0<(strip xs).length))) ji;have s2:=aao _ g1 1 _ 62 (U uo (strip xs).length ep) s1;refine aaD (abF rfl _ _ g1 62 _ _ _ rfl s2 ef rfl (by kernel_rfl)) rfl ?_;refine⟨_,strip xs,?_,(Hs H2 dy).mono (aa1 (abp LS dy)),ay xs,X2 xs,Qf xs,Zd aI LS⟩;rw[Ks (X2 xs),ay];rfl
theorem Yc {P:Program}{fn:Func}{p u:Tmp}{ty:TypeId}(h:fn.results= #[.cell p ty,.tmp u]){tmps:Array de}(g:Nat)(t:TypeId){cs:Array de}{fr:Nat×Nat}{d:TypeDesc}
  (hp:tmps.getD p undef=ff (F ⟨g,0,Z⟩)) (hg:w.heap[g]?=F (O cs t fr))
  (hu:P.underlying ty=F d) (hd:(match d with| .struct _| .array _ _=>dq|_=>cl)=dq) (hi:(P.info? ty).map (·.size)=F cs.size):
  (results fn tmps).run P w=.ok (ex #[eS cs,tmps.getD u undef]) w:=by
 have E:tmps[p]?.getD undef=ff (F ⟨g,0,Z⟩):=by simpa using hp
 simp[results,h,E,asAddr,run_loadVar_row w g t ty cs fr d hg hu hd hi]
def Qcn (n m:Nat)(w:ca)(e:du)(w':ca):Prop:=∃v xs,e=dj (ex #[v,A G 0])/\Fr w.heap.size w' v xs/\val xs=n/\strip xs=xs/\xs.length<=m/\ce w.heap.size w w'
theorem Qyb (hv:Rd w v xs)(hu:Rd w u ys)(hl:xs.length<=274877906944)(hl2:ys.length<=274877906944)(h0:0<val ys)(hd:val ys ∣ val xs):dk db 220 #[v,u] w (Qcn (val xs / val ys) xs.length w):=by have HC:=zq (U3 xs ys w hv hu hl hl2 h0);have HD:=zq (Nat.mod_eq_zero_of_dvd hd);obtain⟨ao,cap,rfl,-,-,-,-⟩:=hv.2;obtain⟨bo,bn,rfl,-,-,-,-⟩:=hu.2;clear hv hu h0 hd;go_enter func220,ntmps220;go_wp2_with fail;refine HC.o.mono ?_;rintro e w1 ⟨q,r,qs,rs,rfl,q1,q2,q3,q4,r1,r2,r3,r4,hb⟩;have hr:rs=[]:=Tx r4 (by rw[r2];exact HD.o);subst hr;obtain⟨ro,rcap,rfl,-,-,-,-⟩:=r1.1.2;have Q1:=zq q1;have Q2:=zq q2;have HB:=zq hb;clear q1 q2 r1 r2 r3 r4 hb;go_wp2_with fail;go_ret2;exact⟨q,qs,rfl,Q1,Q2,q4,q3,HB⟩
theorem Gr (na nb:Bool)(hv:Rd w v xs)(hu:Rd w u ys)(hl:xs.length<=274877906944)(hl2:ys.length<=274877906944)(h0:0<val ys)(hd:val ys ∣ val xs):dk db 174 #[eS #[c9 na,v],eS #[c9 nb,u]] w fun e w'=> ∃q qs,e=dj (ex #[eS #[c9 ((na !=nb) && decide (val xs / val ys≠0)),q],A G 0])/\Fr w.heap.size w' q qs/\val qs=val xs / val ys/\strip qs=qs/\qs.length<=xs.length/\ce w.heap.size w w':=by
 have HV:=zq hv;have HU:=zq hu;have H0:=zq h0;have HD:=zq hd;obtain⟨ao,cap,rfl,-,-,-,-⟩:=hv.2;obtain⟨bo,bn,rfl,-,-,-,-⟩:=hu.2;have HA:=zq (Qq w (O #[c9 na,U ao xs.length cap] 62));have fy:=zq (HA.o.trans ((Qq (w.alloc (O #[c9 na,U ao xs.length cap] 62)) (O #[c9 nb,U bo ys.length bn] 62)).mono HA.o.size));have ic:=zq (fy.o.trans ((Qq ((w.alloc (O #[c9 na,U ao xs.length cap] 62)).alloc (O #[c9 nb,U bo ys.length bn] 62)) (O #[c9 cl,U Z 0 0] 62)).mono fy.o.size));have fJ:=zq (HV.o.below ic);have jk:=zq (HU.o.below ic);clear hv hu h0 hd;go_enter func174,ntmps174;go_wp2_with fail;obtain⟨g,hg⟩:=xq w.heap.size;obtain⟨w0,hw0⟩:=xq (((w.alloc (O #[c9 na,U ao xs.length cap] 62)).alloc (O #[c9 nb,U bo ys.length bn] 62)).alloc (O #[c9 cl,U Z 0 0] 62))
 have hb0:w0.heap[g]?=F (O #[c9 na,U ao xs.length cap] 62 (0,0)):=by
  rw[hw0,hg]
  exact(Qq ((w.alloc (O #[c9 na,U ao xs.length cap] 62)).alloc _) _).block w.heap.size (by simp<;>omega)|>.trans ((Qq (w.alloc (O #[c9 na,U ao xs.length cap] 62)) _).block w.heap.size (by simp)|>.trans (aap w _))
 have hb1:w0.heap[g+1]?=F (O #[c9 nb,U bo ys.length bn] 62 (0,0)):=by rw[hw0,hg];have:=aap (w.alloc (O #[c9 na,U ao xs.length cap] 62)) (O #[c9 nb,U bo ys.length bn] 62);rw[aaV]at this;exact(Qq ((w.alloc (O #[c9 na,U ao xs.length cap] 62)).alloc _) _).block (w.heap.size+1) (by simp)|>.trans this
 have hb2:w0.heap[g+1+1]?=F (O #[c9 cl,U Z 0 0] 62 (0,0)):=by rw[hw0,hg];have:=aap ((w.alloc (O #[c9 na,U ao xs.length cap] 62)).alloc (O #[c9 nb,U bo ys.length bn] 62)) (O #[c9 cl,U Z 0 0] 62);rw[aaV,aaV]at this;exact this
 rw[<-hw0,<-hg];rw[<-hw0]at ic fJ jk;have dy:da (g+1+1<w0.heap.size):=(aah.1 hb2).1;have HG:da (w.heap.size=g):=hg.symm;have H00:=zq hb0;have H01:=zq hb1;have H02:=zq hb2;clear hw0 hb0 hb1 hb2 hg;refine(Qyb fJ jk hl hl2 H0 HD).mono ?_;rintro e w1 ⟨q,qs,rfl,q1,q2,q3,q4,hb⟩;obtain⟨qo,bK,rfl,-,-,-,-⟩:=q1.1.2;have Q1:=zq q1;have Q2:=zq q2;have Q3:=zq q3;have Q4:=zq q4;have HB:=zq hb;have hz:=hb.size;have i0:=(hb.block g (by have:=dy.o;omega)).trans H00;have i1:=(hb.block (g+1) (by have:=dy.o;omega)).trans H01;have c0:w1.cell? ⟨g,0,Z⟩=F (c9 na):=(aaj w1 _ _ _ _ _ i0).trans rfl;have c1:w1.cell? ⟨g+1,0,Z⟩=F (c9 nb):=(aaj w1 _ _ _ _ _ i1).trans rfl;clear q1 q2 q3 q4 hb i0 i1;go_wp2_with fail;refine(Qxg (na !=nb) qs Q1.o.1).mono ?_;rintro e w2 ⟨rfl,hb2⟩;have aI:=zq (HB.o.trans (hb2.mono hz));have Q12:=zq (Q1.o.below hb2);clear hb2;have j2:=(aI.o.block (g+1+1) dy).trans H02;have r0:w2.cell? ⟨g+1+1,0,Z⟩=F (c9 cl):=(aaj w2 _ _ _ _ _ j2).trans rfl;have r1:w2.cell? ⟨g+1+1,1,Z⟩=F (U Z 0 0):=(aaj w2 _ _ _ _ _ j2).trans rfl;have f0:w2.frozen? ⟨g+1+1,0,Z⟩=cl:=aax w2 _ 0 _ _ j2;have f1:w2.frozen? ⟨g+1+1,1,Z⟩=cl:=aax w2 _ 1 _ _ j2;have J2:=zq j2;clear j2;go_wp2_with fail;have s1:=aao w2 (g+1+1) 0 _ 62 (c9 ((na !=nb) && decide (0<qs.length))) J2;have s2:=aao _ (g+1+1) 1 _ 62 (U qo qs.length bK) s1;refine aaD (Yc rfl (g+1+1) 62 rfl s2 ef rfl (by kernel_rfl)) rfl ?_;refine⟨_,qs,?_,(Hs Q12 dy).mono (by have:=dy.o;have:=HG.o;omega),Q2,Q3,Q4,Zd (ic.o.trans (aI.o.mono ic.o.size)) (by have:=HG.o;omega)⟩;rw[Ks Q3.o,Q2.o];rfl
theorem Zn (w:ca)(c0 c1 c2:Array de)(t t2:TypeId):∃w0,w0=((w.alloc (O c0 t)).alloc (O c1 t)).alloc (O c2 t2)/\da (ce w.heap.size w w0)/\w0.heap[w.heap.size]?=F (O c0 t (0,0))/\w0.heap[w.heap.size+1]?=F (O c1 t (0,0))/\w0.heap[w.heap.size+1+1]?=F (O c2 t2 (0,0))/\w.heap.size+1+1<w0.heap.size:=by
 have a1:=Qq w (O c0 t);have a2:=Qq (w.alloc (O c0 t)) (O c1 t);have a3:=Qq ((w.alloc (O c0 t)).alloc (O c1 t)) (O c2 t2);have h:=aap (w.alloc (O c0 t)) (O c1 t);have E:=aap ((w.alloc (O c0 t)).alloc (O c1 t)) (O c2 t2);rw[aaV]at h;rw[aaV,aaV]at E;refine⟨_,rfl,a1.trans ((a2.trans (a3.mono (by simp))).mono (by simp)),?_,?_,E,by simp⟩
 ·exact(a3.block w.heap.size (by simp<;>omega)).trans ((a2.block w.heap.size (by simp)).trans (aap w _))
 exact(a3.block (w.heap.size+1) (by simp)).trans h
theorem Qh4 (na nb:Bool)(m:Nat)(hv:Rd w v xs)(hu:Rd w u ys)(hl:xs.length<=m)(hl2:ys.length<=m)(hm:m<=274877906944):dk db 173 #[eS #[c9 na,v],eS #[c9 nb,u]] w (Qck cl (Nat.gcd (val xs) (val ys)) m w):=by have HV:=zq hv;have HU:=zq hu;obtain⟨ao,cap,rfl,-,-,-,-⟩:=hv.2;obtain⟨bo,bn,rfl,-,-,-,-⟩:=hu.2;clear hv hu;obtain⟨w0,hw0,bp,b0,b1,b2,hsz⟩:=Zn w #[c9 na,U ao xs.length cap] #[c9 nb,U bo ys.length bn] #[c9 cl,U Z 0 0] 62 62;have fJ:=zq (HV.o.below bp);have jk:=zq (HU.o.below bp);have kz:=zq hw0;have B2:=zq b2;have dy:=zq hsz;clear hw0 b0 b1 b2 hsz;go_enter func173,ntmps173;go_wp2_with fail;rw[<-kz.o];obtain⟨g,hg⟩:=xq w.heap.size;rw[<-hg]at B2 dy ⊢;have HG:=zq hg;clear hg;refine(Qb0 m fJ jk hl hl2 hm).mono ?_;rintro e w1 ⟨q,qs,rfl,q1,q2,q3,q4,hb⟩;obtain⟨qo,bK,rfl,-,-,-,-⟩:=q1.1.2;have Q1:=zq q1;have Q2:=zq q2;have HB:=zq hb;clear q1 q2 hb;have j2:=(HB.o.block (g+1+1) dy).trans B2;have r0:w1.cell? ⟨g+1+1,0,Z⟩=F (c9 cl):=(aaj w1 _ _ _ _ _ j2).trans rfl;have r1:w1.cell? ⟨g+1+1,1,Z⟩=F (U Z 0 0):=(aaj w1 _ _ _ _ _ j2).trans rfl;have f0:w1.frozen? ⟨g+1+1,0,Z⟩=cl:=aax w1 _ 0 _ _ j2;have f1:w1.frozen? ⟨g+1+1,1,Z⟩=cl:=aax w1 _ 1 _ _ j2;have J2:=zq j2;clear j2;go_wp2_with fail;have s1:=aao w1 (g+1+1) 0 _ 62 (c9 cl) J2;have s2:=aao _ (g+1+1) 1 _ 62 (U qo qs.length bK) s1;refine aaD (abF rfl _ _ (g+1+1) 62 _ _ _ rfl s2 ef rfl (by kernel_rfl)) rfl ?_;exact⟨_,qs,rfl,(Hs Q1 dy).mono (by have:=dy.o;have:=HG.o;omega),Q2,q3,q4,Zd (bp.o.trans (HB.o.mono bp.o.size)) (by have:=HG.o;omega)⟩
end Go.Proofs.YtgfmiladfeoldaaGreatDoor
