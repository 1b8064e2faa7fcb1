import Derived.Test.YtgfmiladfeoldaaGreatDoorPk5
import Derived.Test.YtgfmiladfeoldaaGreatDoorRows
import Derived.Test.YtgfmiladfeoldaaGreatDoorPk6
import Derived.ShutString
import Derived.HandedShaped
import Derived.Deep.DeepHandedRow
import Derived.Stop.LaidErr
set_option linter.unusedSimpArgs false
set_option linter.unusedVariables false
set_option maxRecDepth 100000
set_option maxHeartbeats 16000000
open Go.Proofs.Tryz
open Go.Value renaming int->A,slice->U,tuple->de
open Option renaming some->F,none->Z
open Go renaming World->ca,Calls->da,Value->db,Ending->dj
open Go.Proofs.Tryz renaming prog->ce,ntmps64->dk,func64->dl,ntmps259->dq,ntmps245->du,ntmps119->ef,func259->eg,func245->ex,func119->eS
open Go.IntKind renaming u64->cl,i64->G
open Go.Ending renaming returned->co
open Go.Obj renaming cells->O
open Go.RowKit renaming Below->c9
namespace Go.Proofs.YtgfmiladfeoldaaGreatDoor
open Go.RowKit aw
variable {Af Dv g g1 g2 g3 k m n s x:Nat} {L L2 M Q R b ds rs xs:List Nat} {u v:db} {w w0:ca}
theorem Qql (hk:L[k]?=F x)(hL:L.length=n):(L.take k++List.replicate (n-k) 0).set k x=L.take (k+1)++List.replicate (n-(k+1)) 0:=by
 have I:k<L.length:=(aaf.1 hk).1;obtain⟨m,H⟩:∃m,n-k=m+1:=⟨n-k-1,by omega⟩
 have h:n-(k+1)=m:=by omega
 have E:k-(L.take k).length=0:=by rw[aak];omega
 rw[H,h,List.set_append,if_neg (by rw[aak];omega),E,List.replicate_succ,List.set_cons_zero,aaI,hk,aaW];rfl
theorem Qpz (hv:ee w v xs)(hu:ee w u xs):da ce 36 #[v,u] w fun e w'=>e=co (.bool true)/\c9 w.heap.size w w':=by
 have HV:=zq hv;have HU:=zq hu;obtain⟨ao,cap,rfl,-,hcm,-,-⟩:=hv.2;obtain⟨bo,bn,rfl,-,-,-,-⟩:=hu.2;obtain⟨n,hn⟩:=xq xs.length
 have fX:n<=9223372036854775807:=by obtain⟨_,_,e,h1,h2,-⟩:=hv.2;cases e;unfold maxLen at h2;omega
 have HN:=zq hn;rw[<-hn];clear hv hu hcm hn;go_enter func36,ntmps36;go_wp2_with fail;go_loopw [5] (fun iv wr=> ∃k:Nat,iv=A G k/\k<=n/\c9 w.heap.size w wr) (fun iv _=>n-(intOf iv).toNat)
 case atStart=>exact⟨0,rfl,aat _,aaw _ _⟩
 case round=>
  obtain⟨k,rfl,hk,hb⟩:=hrel;have HB:=zq hb;clear hb;by_cases hlt:k<n
  ·obtain⟨x,hx⟩:∃x,xs[k]?=F x:=⟨_,aad (by rw[<-HN.o];exact hlt)⟩
   obtain⟨ao',cap',e,-,-,-,aS⟩:=(HV.o.below HB).2;rw[<-HN.o]at e;cases e;obtain⟨g,o,rfl,e1⟩:=aS k x hx;obtain⟨SQ,rD,e',-,-,-,dP⟩:=(HU.o.below HB).2;rw[<-HN.o]at e';cases e';obtain⟨g2,o2,rfl,e2⟩:=dP k x hx;have dR:(0:Int)<=(k:Int):=aaJ _
   have cB:(k:Int)<(n:Int):=by omega
   have hxx:((x:Int) !=(x:Int))=false:=by simp
   have oI:=zq HB.o.drew;clear hx aS dP;go_wp2_with fail;go_region;go_wp2_with fail;have aq:c9 w.heap.size w wr.drew:=oI.o
   exact⟨⟨k+1,by go_num,by omega,aq⟩,by simp[intOf]<;>omega⟩
  go_wp2_with fail;go_ret;exact⟨rfl,HB⟩
theorem ee.strip {ao:Option Addr}{cap:Nat}(h:ee w (U ao xs.length cap) xs):ee w (U ao (aw.strip xs).length cap) (aw.strip xs):=by
 obtain⟨E,K⟩:=Xj xs;obtain⟨-,ao',cap',e,bi,H,I,J⟩:=h
 cases e
 refine⟨trivial,ao,cap,rfl,by omega,H,bJ I,fun i x hx=> ?_⟩;rw[E,abE]at hx;split at hx
 ·exact J i x hx
 cases hx
theorem Wg (ao:Option Addr)(cap:Nat)(xs:List Nat)(w:ca)(hr:ee w (U ao xs.length cap) xs):da ce 257 #[U ao xs.length cap] w fun e w'=>e=co (U ao (strip xs).length cap)/\w=w':=by
 obtain⟨ao,cap,e,bU,hcm,bm,aS⟩:=hr.2;simp only[Value.slice.injEq]at e;obtain⟨rfl,-,rfl⟩:=e;have HS:=zq aS
 have hm:cap<=9223372036854775807:=by unfold maxLen at hcm;omega
 clear aS hcm bm;go_enter func257,ntmps257;go_wp2_with fail;go_loop [3] (fun i=> ∃n:Nat,n<=xs.length/\i=A G n/\strip (xs.take n)=strip xs) (fun i=>(intOf i).toNat)
 case atStart=>exact⟨xs.length,aab _,rfl,by rw[aby]⟩
 case round=>
  obtain⟨n,hn,rfl,hst⟩:=hrel;have HST:=zq hst;clear hst
  cases n with
  |zero=>
   have HE:=zq (Vw hn HST (.inl rfl));go_wp2_with fail;go_ret
   exact⟨by first|(rw[HE.o];done)|(rw[HE.o];rfl),rfl⟩
  |succ m=>
   obtain⟨x,hx⟩:∃x,xs[m]?=F x:=⟨_,aad (by omega)⟩;obtain⟨g,o,rfl,e1⟩:=HS.o m x hx;have HX:=zq hx;clear hx;by_cases h0:x=0
   ·have h1:((x:Int)==0)=true:=by simp[h0]
    have HN:Hid (strip (xs.take m)=strip xs):=by
     rcases iE hn HST (fun m' e=>by cases e;rw[HX.o,h0]) with h|h
     ·cases h
     exact h
    clear h0;go_wp2_with fail;go_round
    case rel=>exact⟨m,by omega,by first|rfl|go_num,HN⟩
    case measure=>simp[intOf]<;>omega
   have h1:((x:Int)==0)=false:=by simp[h0]
   have HE:=zq (Vw hn HST (.inr ⟨m,x,rfl,HX,h0⟩));clear h0;go_wp2_with fail;go_ret;exact⟨by first|(rw[HE.o];done)|(rw[HE.o];rfl),rfl⟩
def HD (n:Nat)(ds:List Nat):Prop:=ak.ok ds/\strip ds=ds/\ak.val ds=n
theorem HD.of (h:ak.ok ds):HD (ak.val ds) (strip ds):=⟨ak.bJ h,by
  have E:=ak.ib (l:=strip ds) fun n hn=>ak.bt ds n hn
  exact E,ak.ay ds⟩
theorem HD.zero {a:List Nat}(ha:HD n a):a=[]↔n=0:=by rw[ak.val_zero ha.2.1 ha.1,ha.2.2]
def Qci (n m:Nat)(w:ca)(e:dj)(w':ca):Prop:=∃v ds,e=co v/\Fr w.heap.size w' v ds/\HD n ds/\ds.length<=m/\c9 w.heap.size w w'
def Qf7 (ys:List Nat)(n g:Nat)(w1:ca)(iv:db)(wr:ca):Prop:=∃k:Nat,iv=A G k/\k<=n/\bh wr g ((ak.cd ys).take (2*k)++List.replicate (2*n-2*k) 0)/\w1.grownBy wr (F g)
theorem Qg3 {ys:List Nat}(hx:ys[k]?=F x):(((ak.cd ys).take (2*k)++List.replicate (2*ys.length-2*k) 0).set (2*k) (x % 4294967296)).set (2*k+1) (x / 4294967296)=(ak.cd ys).take (2*(k+1))++List.replicate (2*ys.length-2*(k+1)) 0:=by have E:=(aaf.1 hx).1;obtain⟨a,b⟩:=ak.oY hx;have h:=ak.dC ys;rw[Qql (n:=2*ys.length) (by rw[a];rfl) h,Qql (n:=2*ys.length) (by rw[b];rfl) h];rw[show 2*k+1+1=2*(k+1) by omega]
theorem W5 (hv:ee w v xs)(hl:xs.length<=1073741824):da ce 244 #[v] w (Qci (val xs) (2*xs.length) w):=by
 have HV:=zq hv;obtain⟨ao,cap,rfl,bU,hcm,bm,-⟩:=hv.2;have bS:=zq (bJ bm);have eW:=Qf xs;have CU:=zq eW
 have CX:Hid (ak.val (ak.cd (strip xs))=val xs):=by show _=_;rw[ak.mU,ay]
 clear hv hcm bm;go_enter func244,ntmps244;go_wp2_with fail;refine(Wg _ _ xs _ HV).mono ?_;rintro e w' ⟨rfl,rfl⟩;have HVS:=zq HV.o.strip;obtain⟨ys,xu⟩:=xq (strip xs);rw[<-xu]at HVS bS CX eW CU ⊢;obtain⟨n,hn⟩:=xq ys.length;rw[<-hn]at eW ⊢;have HN:=zq hn;have fA:=X9 (2*n) (by omega);rw[show ((2*n:Nat):Int)=2*(n:Int) by omega]at fA;obtain⟨g,hg⟩:=xq w.heap.size;obtain⟨w1,bA⟩:=xq (w.alloc (O (madeCells #[A cl 0] (2*n)) 101));have aL:=Qq w (O (madeCells #[A cl 0] (2*n)) 101);rw[<-bA]at aL
 have aK:Hid (bh w1 g (List.replicate (2*n) 0)):=by rw[bA,hg];exact bh.made w (2*n)
 have fz:=zq aL;have HG:=zq hg;have jl:=zq bA
 have fX:n<=1073741824:=by omega
 clear aL hg bA hn xu;go_wp2_with fail;rw[<-jl.o,<-HG.o];go_loopw [4] (fun iv wr=>Qf7 ys n g w1 iv wr) (fun iv _=>n-(intOf iv).toNat)
 case atStart=>exact⟨0,rfl,aat _,by simpa using aK.o,Xy _ _⟩
 case round=>
  obtain⟨k,rfl,hk,hM,hgr⟩:=hrel;have HM:=zq hM;have bD:=zq hgr;clear hM hgr;by_cases hlt:k<n
  ·obtain⟨x,hx⟩:∃x,ys[k]?=F x:=⟨_,aad (by rw[<-HN.o];exact hlt)⟩
   obtain⟨ao',cap',e,-,-,-,aS⟩:=(HVS.o.below (fz.o.trans (by exact X3 bD fz.o.size (by rw[<-HG.o];exact aab _)))).2;rw[<-HN.o]at e;cases e;obtain⟨g2,o2,rfl,e2⟩:=aS k x hx
   have hg2:g2≠g:=by
    obtain⟨ao',cap',e',-,-,-,agV⟩:=HVS.o.2;rw[<-HN.o]at e';cases e';obtain⟨g3,o3,e3,e4⟩:=agV k x hx
    cases e3
    have:=aaY w _ e4;have h5:=HG.o;simp only at this;omega
   have fY:x<18446744073709551616:=bS.o x (aai hx);have q1:=HM.o.frozen (2*k);have q2:=HM.o.frozen (2*k+1)
   have hlen:((ak.cd ys).take (2*k)++List.replicate (2*n-2*k) 0).length=2*n:=by rw[aag,aak,ak.dC,aaZ,<-HN.o];omega
   obtain⟨y1,z1⟩:∃y1,((ak.cd ys).take (2*k)++List.replicate (2*n-2*k) 0)[2*k]?=F y1:=⟨_,aad (by omega)⟩;obtain⟨y2,z2⟩:∃y2,((ak.cd ys).take (2*k)++List.replicate (2*n-2*k) 0)[2*k+1]?=F y2:=⟨_,aad (by omega)⟩;have c1:=HM.o.cell z1;have c2:=HM.o.cell z2;have hs1:=HM.o.set (2*k) (x:=x % 4294967296) (by unfold BB;omega);have hs2:=hs1.1.set (2*k+1) (x:=x / 4294967296) (by unfold BB;omega)
   have aq:Qf7 ys n g w1 (A G ((k:Int)+1)) ((wr.setCell ⟨g,2*k,Z⟩ (A cl ((x % 4294967296:Nat):Int))).setCell ⟨g,2*k+1,Z⟩ (A cl ((x / 4294967296:Nat):Int))):=by refine⟨k+1,by go_num,by omega,?_,Qi (Qi bD hs1.2) hs2.2⟩;have h3:=hs2.1;rw[HN.o,Qg3 hx,<-HN.o]at h3;exact h3
   have aQ:=zq aq
   have ev:Hid (Value.int cl ((x:Int) % 4294967296)=A cl ((x % 4294967296:Nat):Int)):=by show _=_;congr 1
   have em:Hid (Value.int cl ((x:Int) / 4294967296)=A cl ((x / 4294967296:Nat):Int)):=by show _=_;congr 1
   have e3:(wr.setCell ⟨g,2*k,Z⟩ (A cl ((x:Int) % 4294967296))).cell? ⟨g2,o2+k,Z⟩=F (A cl x):=(ab4 _ _ _ _ (fun e=>hg2 (by have:=aaE Addr.block e;exact this.symm))).trans e2;have dR:(0:Int)<=(k:Int):=aaJ _
   have cB:(k:Int)<(n:Int):=by omega
   have gF:(2*(k:Int)).toNat=2*k:=by omega
   have oF:(2*(k:Int)+1).toNat=2*k+1:=by omega
   have wD:2*(k:Int)<2*(n:Int):=by omega
   have EE:2*(k:Int)+1<2*(n:Int):=by omega
   have hi6:(0:Int)<=2*(k:Int):=by omega
   have hi7:(0:Int)<=2*(k:Int)+1:=by omega
   clear hx aS hs1 hs2 aq z1 z2 hlen;go_wp2_with fail;rw[ev.o,em.o];have aq:=aQ.o
   exact⟨aq,by simp[intOf]<;>omega⟩
  have iK:k=n:=by omega
  have HB:Hid (bh wr g (ak.cd ys)):=by have:=HM.o;rw[iK,Nat.sub_self,List.replicate_zero,abt,aam (by rw[ak.dC,<-HN.o];exact aab _)]at this;exact this
  have dY:=zq (fz.o.trans (X3 bD fz.o.size (by rw[<-HG.o];exact aab _)));have bQ:=HB.o.rd (o:=0) (n:=2*n) (c:=2*n) (by rw[ak.dC,<-HN.o];omega) (aab _) (by unfold maxLen;omega);rw[aa4,aam (by rw[ak.dC,<-HN.o];exact aab _)]at bQ
  have TK:2*n=(ak.cd ys).length:=by rw[ak.dC,<-HN.o]
  have YB:Rd wr (U (F ⟨g,0,Z⟩) (ak.cd ys).length (2*n)) (ak.cd ys):=by rw[<-TK];exact bQ
  have gj:=zq YB;have H2N:=zq TK;have uj:=Wg (F ⟨g,0,Z⟩) (2*n) (ak.cd ys) wr gj.o.weak;rw[<-TK]at uj;have RN:=zq uj;clear iK bQ YB TK uj;go_wp2_with fail;refine RN.o.mono ?_;rintro e w2 ⟨rfl,rfl⟩;go_wp2_with fail;go_ret;refine⟨_,strip (ak.cd ys),rfl,⟨?_,fun k hk=> ?_⟩,?_,?_,dY⟩
  ·have:=gj.o.take (n:=(strip (ak.cd ys)).length) (c:=2*n) (Qf _) (by rw[H2N.o];exact Qf _) (aab _)
   rw[<-(Xj _).1]at this;exact this
  ·cases hk;exact⟨by rw[HG.o];exact aab _,HB.o.lt⟩
  ·have:=HD.of (ak.vP bS)
   rw[CX.o]at this;exact this
  have h1:=Qf (ak.cd ys);have h2:=CU.o;rw[<-H2N.o]at h1;have h3:=HN.o;omega
theorem Qjb {w':ca}{row:Option Nat}(h:w.grownBy w' row):w.grownBy w'.drew row:=⟨h.os,h.tape,h.output,h.size,h.block⟩
def Qp5 (ds:List Nat)(w:ca)(e:dj)(w':ca):Prop:=∃v xs,e=co v/\Fr w.heap.size w' v xs/\strip xs=xs/\val xs=ak.val ds/\xs.length=(ds.length+1) / 2/\c9 w.heap.size w w'
def Qp6 (ds:List Nat)(n m g:Nat)(w1:ca)(iv:db)(wr:ca):Prop:=∃k:Nat,iv=A G k/\k<=n/\bh wr g (ak.pT ds k m)/\w1.grownBy wr (F g)
theorem Pw (hv:ee w v ds)(hd:ak.ok ds)(hs:strip ds=ds)(hl:ds.length<=2147483648):da ce 246 #[v] w (Qp5 ds w):=by
 have HV:=zq hv;have OP:=zq hd;have oM:=zq hs;obtain⟨ao,cap,rfl,bU,hcm,-,-⟩:=hv.2;obtain⟨n,hn⟩:=xq ds.length;obtain⟨m,hm⟩:=xq ((n+1) / 2);have HN:=zq hn;have HM0:=zq hm;have fA:=X9 m (by omega);rw[show ((m:Nat):Int)=((n:Int)+1) / 2 by omega]at fA;obtain⟨g,hg⟩:=xq w.heap.size;obtain⟨w1,bA⟩:=xq (w.alloc (O (madeCells #[A cl 0] m) 101));have aL:=Qq w (O (madeCells #[A cl 0] m) 101);rw[<-bA]at aL
 have aK:Hid (bh w1 g (List.replicate m 0)):=by rw[bA,hg];exact bh.made w m
 have fz:=zq aL;have HG:=zq hg;have jl:=zq bA;have HT:Hid (ee w (U ao (strip ds).length cap) (strip ds)):=hv.strip;rw[hs]at HT;rw[<-hn]at HT hl bU
 have z6:m<=n:=by omega
 have fL:(0:Int)<=(n:Int):=aaJ _;clear hv hd hcm aL hg bA hm;go_enter func246,ntmps246;go_wp2_with fail;refine(Wg _ _ ds _ HV).mono ?_;rintro e w' ⟨rfl,rfl⟩;rw[hs,<-hn];clear hn hs;go_wp2_with fail;rw[<-jl.o,<-HG.o];go_loopw [4] (fun iv wr=>Qp6 ds n m g w1 iv wr) (fun iv _=>n-(intOf iv).toNat)
 case atStart=>exact⟨0,rfl,aat _,by rw[ak.xH];exact aK.o,Xy _ _⟩
 case round=>
  obtain⟨k,rfl,hk,hM,hgr⟩:=hrel;have HM:=zq hM;have bD:=zq hgr;clear hM hgr;by_cases hlt:k<n
  ·obtain⟨x,hx⟩:∃x,ds[k]?=F x:=⟨_,aad (by rw[<-HN.o];exact hlt)⟩
   obtain⟨ao',cap',e,-,-,-,aS⟩:=(HT.o.below (fz.o.trans (by exact X3 bD fz.o.size (by rw[<-HG.o];exact aab _)))).2;rw[<-HN.o]at e;cases e;obtain⟨g2,o2,rfl,e2⟩:=aS k x hx;have fY:=OP.o x (aai hx)
   have NP:k / 2<m:=by have:=HM0.o;omega
   have q1:=HM.o.frozen (k / 2);have c1:=HM.o.cell (ak.gL (d:=ds) (i:=k) NP);have dR:(0:Int)<=(k:Int):=aaJ _
   have cB:(k:Int)<(n:Int):=by omega
   have gF:((k:Int) / 2).toNat=k / 2:=by omega
   have oF:(k:Int) / 2<((n:Int)+1) / 2:=by omega
   have wD:(0:Int)<=(k:Int) / 2:=by omega
   have EE:(k:Int) / 2<((m:Nat):Int):=by omega
   by_cases he:k % 2=0
   ·have zJ:((k:Int) % 2==0)=true:=by simp;omega
    have hs1:=HM.o.set (k / 2) (x:=x) (by unfold ak.BB at fY;unfold BB;omega)
    have aq:Qp6 ds n m g w1 (A G ((k:Int)+1)) (wr.setCell ⟨g,k / 2,Z⟩ (A cl x)):=
     ⟨k+1,by go_num,by omega,by rw[ak.xG hx he];exact hs1.1,Qi bD hs1.2⟩
    have aQ:=zq aq;clear hx aS hs1 aq;go_wp2_with fail;have aq:=aQ.o
    exact⟨aq,by simp[intOf]<;>omega⟩
   have zJ:((k:Int) % 2==0)=false:=by simp;omega
   obtain⟨o1,o3⟩:=ak.BP (m:=m) hx (show k % 2=1 by omega);obtain⟨y,hy⟩:=xq (ak.pw ds k (k / 2));rw[<-hy]at c1 o1 o3
   have rV:y<4294967296:=by rw[o3];exact ak.kD OP _
   have aiW:x<4294967296:=fY;have hs1:=(show bh wr.drew g (ak.pT ds k m) from HM.o).set (k / 2) (x:=y+x*4294967296) (by unfold BB;omega)
   have aq:Qp6 ds n m g w1 (A G ((k:Int)+1)) (wr.drew.setCell ⟨g,k / 2,Z⟩ (A cl ((y+x*4294967296:Nat):Int))):=
    ⟨k+1,by go_num,by omega,by rw[o1];exact hs1.1,Qi (Qjb bD) hs1.2⟩
   have aQ:=zq aq
   have W0:IntKind.u64.wrap ((x:Int)*4294967296)=(x:Int)*4294967296:=by rw[aaA];omega
   have W1:IntKind.u64.wrap ((y:Int)+(x:Int)*4294967296)=(y:Int)+(x:Int)*4294967296:=by rw[aaA];omega
   have ev:Hid (Value.int cl ((y:Int)+(x:Int)*4294967296)=A cl ((y+x*4294967296:Nat):Int)):=by show _=_;congr 1
   clear hx aS hs1 aq o1 o3 hy;go_wp2_with fail;go_region
   all_goals
    go_wp2_with fail;rw[ev.o];have aq:=aQ.o
    exact⟨aq,by simp[intOf]<;>omega⟩
  have iK:k=n:=by omega
  have HB:Hid (bh wr g (ak.pT ds ds.length m)):=by have:=HM.o;rw[iK,HN.o]at this;exact this
  have dY:=zq (fz.o.trans (X3 bD fz.o.size (by rw[<-HG.o];exact aab _)));clear iK;go_wp2_with fail;go_ret;have hpl:=ak.dG ds ds.length m;have bQ:=HB.o.rd (o:=0) (n:=m) (c:=m) (by rw[hpl];omega) (aab _) (by unfold maxLen;omega);rw[aa4,aam (by rw[hpl];exact aab _)]at bQ
  have gX:m=(ds.length+1) / 2:=by rw[HM0.o,HN.o]
  refine⟨_,ak.pT ds ds.length m,?_,⟨bQ,fun k hk=> ?_⟩,?_,ak.BQ OP m (by omega),by rw[hpl];exact gX,dY⟩
  ·first|rfl|(congr 1;congr 1<;>omega)
  ·cases hk;exact⟨by rw[HG.o];exact aab _,HB.o.lt⟩
  rw[gX];exact ak.tC oM
def Qpe (ds:List Nat)(f:Nat)(w:ca)(e:dj)(w':ca):Prop:=∃L,e=co (U (F ⟨w.heap.size,0,Z⟩) (ds.length+1) (ds.length+1))/\bh w' w.heap.size L/\ak.ok L/\L.length=ds.length+1/\ak.val L=ak.val ds*f/\c9 w.heap.size w w'
def Qcx (ds:List Nat)(f n g:Nat)(w1:ca)(cv iv:db)(wr:ca):Prop:=∃(k c:Nat) (L:List Nat),cv=A cl c/\iv=A G k/\k<=n/\c<4294967296/\bh wr g L/\L.length=n+1/\ak.ok L/\ak.val (L.take k)+ak.BB^k*c=ak.val (ds.take k)*f/\w1.grownBy wr (F g)
theorem F7  (f : Nat) (hv : ee w v ds) (hd : ak.ok ds) (hf : f < 4294967296) (hl : ds.length ≤ 2147483648) :da ce 258 #[v, A cl (f : Nat)] w (Qpe ds f w) := by
  have HV := zq hv
  have OP := zq hd
  obtain ⟨ao, cap, rfl, bU, hcm, -, -⟩ := hv.2
  obtain ⟨n, hn⟩ : ∃ n, n = ds.length := ⟨_, rfl⟩
  have HN := zq hn
  have fA := X9 (n + 1) (by omega)
  rw [show ((n + 1 : Nat) : Int) = (n : Int) + 1 by omega] at fA
  obtain ⟨g, hg⟩ : ∃ g, g = w.heap.size := ⟨_, rfl⟩
  obtain ⟨w1, bA⟩ : ∃ w1, w1 = w.alloc (O (madeCells #[A cl 0] (n + 1)) 101) := ⟨_, rfl⟩
  have aL := Qq w (O (madeCells #[A cl 0] (n + 1)) 101)
  rw [← bA] at aL
  have aK : Hid (bh w1 g (List.replicate (n + 1) 0)) := by rw [bA, hg]; exact bh.made w (n + 1)
  have fz := zq aL
  have HG := zq hg
  have jl := zq bA
  rw [← hn] at hl bU ⊢
  clear hv hd hcm aL hg bA hn
  go_enter func258, ntmps258
  go_wp2_with fail
  rw [← jl.o, ← HG.o]
  go_loopw [6, 7] (fun cv iv wr => Qcx ds f n g w1 cv iv wr) (fun _ iv _ => n - (intOf iv).toNat)
  case atStart => exact ⟨0, 0, _, rfl, rfl, aat _, by omega, aK.o, by simp, ak.dm _, by simp [ak.val], Xy _ _⟩
  case round =>
    obtain ⟨k, c, L, rfl, rfl, hk, hc, hM, hL, bm, hval, hgr⟩ := hrel
    have HM := zq hM
    have bD := zq hgr
    have fp := zq hL
    have bS := zq bm
    have jS := zq hval
    clear hM hgr hL bm hval
    by_cases hlt : k < n
    · obtain ⟨x, hx⟩ : ∃ x, ds[k]? = F x := ⟨_, aad (by rw [← HN.o]; exact hlt)⟩
      obtain ⟨ao', cap', e, -, -, -, aS⟩ := (HV.o.below (fz.o.trans (by exact X3 bD fz.o.size (by rw [← HG.o]; exact aab _)))).2
      rw [← HN.o] at e; cases e
      obtain ⟨g2, o2, rfl, e2⟩ := aS k x hx
      have fY : x < 4294967296 := OP.o x (aai hx)
      obtain ⟨y, hy⟩ : ∃ y, L[k]? = F y := ⟨_, aad (by rw [fp.o]; omega)⟩
      have c1 := HM.o.cell hy
      have q1 := HM.o.frozen k
      obtain ⟨b1, b2⟩ := ak.pV (x := x) (f := f) (c := c) fY hf hc
      have b3 : x * f < 18446744073709551616 := by have : ak.BB * ak.BB = 18446744073709551616 := by decide
                                                   omega
      have b4 : x * f + c < 18446744073709551616 := by have : ak.BB * ak.BB = 18446744073709551616 := by decide
                                                       omega
      have HST := zq (ak.rh (x := x) jS)
      obtain ⟨p, hp⟩ : ∃ p, p = x * f := ⟨_, rfl⟩
      obtain ⟨t, ht⟩ : ∃ t, t = p + c := ⟨_, rfl⟩
      rw [← hp] at b1 b3 b4 HST
      rw [← ht] at b1 b4 HST
      have W0 : IntKind.u64.wrap ((x : Int) * (f : Int)) = (p : Int) := by rw [aaA, ← abH, ← hp]; omega
      have W1 : IntKind.u64.wrap ((p : Int) + (c : Int)) = (t : Int) := by rw [aaA]; omega
      have hs1 := HM.o.set k (x := t % 4294967296) (by unfold BB; omega)
      have aq : Qcx ds f n g w1 (A cl ((t / 4294967296 : Nat) : Int)) (A G ((k : Int) + 1)) (wr.setCell ⟨g, k, Z⟩ (A cl ((t % 4294967296 : Nat) : Int))) := by
        refine ⟨k + 1, _, _, rfl, by go_num, by omega, b1, hs1.1, by rw [abb]; exact fp.o, ak.iD bS k (abL _ (by omega)), ?_, Qi bD hs1.2⟩
        have h1 : (L.set k (t % 4294967296)).take (k + 1) = L.take k ++ [t % 4294967296] := by rw [aa8 (by rw [abb, fp.o]; omega), Jq _ (aab k)]; simp
        have h2 : ds.take (k + 1) = ds.take k ++ [x] := by
          have := aa8 (aaf.1 hx).1
          rw [(aaf.1 hx).2] at this; exact this
        rw [h1, h2, ak.aY, ak.aY, aak, aak, aaG (by rw [fp.o]; omega), aaG (by rw [← HN.o]; omega), abf]
        exact HST
      have aQ := zq aq
      have ev : Hid (Value.int cl ((t : Int) % 4294967296) = A cl ((t % 4294967296 : Nat) : Int)) := by
        show _ = _
        congr 1
      have em : Hid (Value.int cl ((t : Int) / 4294967296) = A cl ((t / 4294967296 : Nat) : Int)) := by
        show _ = _
        congr 1
      have dR : (0 : Int) ≤ (k : Int) := aaJ _
      have cB : (k : Int) < (n : Int) := by omega
      have gF : (k : Int) < (n : Int) + 1 := by omega
      have oF : (k : Int) < ((n + 1 : Nat) : Int) := by omega
      clear hx aS hs1 aq hy hp ht b1 b2
      go_wp2_with fail
      rw [ev.o, em.o]
      have aq := aQ.o
      exact ⟨aq, by simp [intOf] <;> omega⟩
    have iK : k = n := by omega
    obtain ⟨y, hy⟩ : ∃ y, L[n]? = F y := ⟨_, aad (by rw [fp.o]; omega)⟩
    have c1 := HM.o.cell hy
    have q1 := HM.o.frozen n
    have hs1 := HM.o.set n (x := c) (by unfold BB; omega)
    have fL : (0 : Int) ≤ (n : Int) := aaJ _
    have gF : (n : Int) < (n : Int) + 1 := by omega
    have oF : (n : Int) < ((n + 1 : Nat) : Int) := by omega
    have aq : Qpe ds f w (co (U (F ⟨g, 0, Z⟩) (n + 1) (n + 1))) (wr.setCell ⟨g, n, Z⟩ (A cl (c : Nat))) := by
      refine ⟨L.set n c, by rw [← HG.o, ← HN.o], by rw [← HG.o]; exact hs1.1, ak.iD bS n hc, by rw [abb, fp.o, HN.o], ?_, fz.o.trans (X3 (Qi bD hs1.2) fz.o.size (by rw [← HG.o]; exact aab _))⟩
      have h1 : L.set n c = L.take n ++ [c] := by
        have h2 : (L.set n c).take (n + 1) = L.take n ++ [c] := by rw [aa8 (by rw [abb, fp.o]; omega), Jq _ (aab n)]; simp
        rw [aam (by rw [abb, fp.o]; exact aab _)] at h2
        exact h2
      have h3 := jS.o
      rw [iK, aam (l := ds) (by rw [HN.o]; exact aab _)] at h3
      rw [h1, ak.aY, aak, aaG (by rw [fp.o]; omega)]
      exact h3
    have aQ := zq aq
    clear iK hy hs1 aq
    go_wp2_with fail
    go_ret
    exact aQ
theorem Qbd {y:Nat}(LF:ak.ok rs)(LD:ak.ok ds)(hs:s+ds.length<rs.length)(hy:rs[s+ds.length]?=F y)(h0:0<y):ak.val ds<=ak.val rs / ak.BB^s:=by
 rw[<-ak.cr rs s (by omega) LF]
 have h:(rs.drop s)[ds.length]?=F y:=by rw[abg];exact hy
 have E:=ak.oW h;have H:=ak.aN LD;have I:ak.BB^ds.length*1<=ak.BB^ds.length*y:=aaT _ h0;omega
theorem Qbu (LF:ak.ok rs)(hs:s+ds.length<rs.length)(hz:ak.val rs<ak.BB^(s+ds.length+1))(hy:rs[s+ds.length]?=F 0):ak.val rs / ak.BB^s=ak.val ((rs.drop s).take ds.length):=by
 have H:ak.val (rs.drop s)<ak.BB^(ds.length+1):=by rw[ak.cr rs s (by omega) LF];refine aeb ?_;rw[<-abM];exact hz
 rw[<-ak.cr rs s (by omega) LF]
 have I:(rs.drop s)[ds.length]?=F 0:=by rw[abg];exact hy
 have E:=ak.fG I
 have J:ak.val ((rs.drop s).drop (ds.length+1))=0:=by
  rcases abY (ak.val ((rs.drop s).drop (ds.length+1))) with h|h
  ·exact h
  have K:ak.BB^ds.length*(ak.BB*1)<=ak.BB^ds.length*(ak.BB*ak.val ((rs.drop s).drop (ds.length+1))):=aaT _ (aaT _ h);rw[abf]at H;rw[aaX]at E;rw[abZ]at K;omega
 rw[E,J,abI,aba,abI,aba]
theorem Qgo (s:Nat)(hv:ee w v rs)(hu:ee w u ds)(LF:ak.ok rs)(LD:ak.ok ds)(hs:s+ds.length<rs.length)(hz:ak.val rs<ak.BB^(s+ds.length+1))(hl:rs.length<=4294967296):da ce 259 #[v,u,A G s] w fun e w'=>e=co (.bool (decide (ak.val ds<=ak.val rs / ak.BB^s)))/\c9 w.heap.size w w':=by
 have HV:=zq hv;have HU:=zq hu;have tM:=zq LF;have HKD:=zq LD;have HZ:=zq hz;have xU:=zq hs;obtain⟨ao,cap,rfl,bU,hcm,-,aS⟩:=hv.2;obtain⟨bo,bn,rfl,mF,jE,-,-⟩:=hu.2;obtain⟨n,hn⟩:=xq rs.length;obtain⟨m,hm⟩:=xq ds.length;have HN:=zq hn;have HM:=zq hm;obtain⟨y,hy⟩:∃y,rs[s+m]?=F y:=⟨_,aad (by rw[hm];exact hs)⟩;obtain⟨g,o,rfl,e1⟩:=aS _ _ hy;have HY:=zq hy;rw[<-hn]at bU hs hl ⊢;rw[<-hm]at hs mF ⊢
 have hs0:(0:Int)<=(s:Int)+(m:Int):=by omega
 have hs1:(s:Int)+(m:Int)<(n:Int):=by omega
 have hs2:((s:Int)+(m:Int)).toNat=s+m:=by omega
 have ju:=zq aS;clear hv hu LF LD hz hcm jE hy hn hm aS;by_cases h0:0<y
 ·have ja:((0:Int)<(y:Int)):=by omega
  have HF:Hid (decide (ak.val ds<=ak.val rs / ak.BB^s)=true):=aa7 (Qbd tM HKD xU (by rw[<-HM.o];exact HY.o) h0);clear h0;go_enter eg,dq;go_wp2_with fail;go_ret;exact⟨by rw[HF.o];rfl,aaw _ _⟩
 have tz:y=0:=by omega
 subst tz;have ry:=zq (Qbu tM xU HZ (by rw[<-HM.o];exact HY.o));obtain⟨an,hA⟩:=xq ((rs.drop s).take ds.length);rw[<-hA]at ry
 have hAl:an.length=m:=by rw[hA,aak,aan,<-HM.o,<-HN.o];omega
 have FA:Hid (∀i,i<m->an[i]?=rs[s+i]?):=fun i hi=>by rw[hA,abE,if_pos (by rw[<-HM.o];exact hi),abg]
 have jf:=zq hAl
 have yO:Hid (ak.ok an):=by show ak.ok an;rw[hA];exact ak.bq (ak.di tM _) _
 clear hA hAl h0;go_enter eg,dq;go_wp2_with fail;go_loopw [8] (fun iv wr=> ∃k:Nat,iv=A G ((k:Int)-1)/\k<=m/\an.drop k=ds.drop k/\c9 w.heap.size w wr) (fun iv _=>(intOf iv+1).toNat)
 case atStart=>exact⟨m,rfl,aab _,by rw[aaC (by rw[jf.o];exact aab _),aaC (by rw[<-HM.o];exact aab _)],aaw _ _⟩
 case round=>
  obtain⟨k,rfl,hk,hdr,hbl⟩:=hrel;have aL:=zq hbl;have oI:=zq hdr
  cases k with
  |zero=>
   have HF:Hid (decide (ak.val ds<=ak.val rs / ak.BB^s)=true):=by refine aa7 ?_;have h1:=oI.o;rw[aa4,aa4]at h1;rw[ry.o,h1];exact aab _
   clear hdr hbl;go_wp2_with fail;go_ret
   exact⟨by rw[HF.o];rfl,aL⟩
  |succ k=>
   obtain⟨x,hx⟩:∃x,an[k]?=F x:=⟨_,aad (by rw[jf.o];omega)⟩;obtain⟨z,hz⟩:∃z,ds[k]?=F z:=⟨_,aad (by rw[<-HM.o];omega)⟩
   have hx2:rs[s+k]?=F x:=by rw[<-FA.o k (by omega)];exact hx
   obtain⟨ao',cap',e,-,-,-,KX⟩:=(HV.o.below hbl).2;rw[<-HN.o]at e;cases e;obtain⟨g',o',e',d1⟩:=KX _ _ hx2
   cases e'
   obtain⟨SQ,rD,e',-,-,-,dP⟩:=(HU.o.below hbl).2;rw[<-HM.o]at e';cases e';obtain⟨g2,o2,rfl,d2⟩:=dP _ _ hz
   have dR:(0:Int)<=((k+1:Nat):Int)-1:=by omega
   have cB:(((k+1:Nat):Int)-1).toNat=k:=by omega
   have gF:((k+1:Nat):Int)-1<(m:Int):=by omega
   have oF:(0:Int)<=(s:Int)+(((k+1:Nat):Int)-1):=by omega
   have wD:((s:Int)+(((k+1:Nat):Int)-1)).toNat=s+k:=by omega
   have EE:(s:Int)+(((k+1:Nat):Int)-1)<(n:Int):=by omega
   have pY:=zq hbl.drew;by_cases ZM:x=z
   ·subst ZM
    have hxx:((x:Int) !=(x:Int))=false:=by simp
    have OQ:Hid (an.drop k=ds.drop k):=by show _=_;have h1:=aaL (aaf.1 hx).1;have h2:=aaL (aaf.1 hz).1;rw[h1,h2,(aaf.1 hx).2,(aaf.1 hz).2,oI.o]
    clear hx hz hx2 KX dP hdr hbl;go_wp2_with fail;go_region;go_wp2_with fail
    exact⟨⟨k,by go_num,by omega,OQ,pY⟩,by simp[intOf]<;>omega⟩
   have hxx:((x:Int) !=(z:Int))=true:=by simp;omega
   have HC:=zq (ak.zi (a:=ds) (b:=an) (by rw[jf.o,HM.o]) HKD yO hz hx oI.o.symm (fun e=>ZM e.symm))
   have HF:Hid (decide (ak.val ds<=ak.val rs / ak.BB^s)=decide (z<x)):=by
    show _=_;rw[ry.o];by_cases h1:z<x
    ·rw[aa7 (HC.o.2 h1),aa7 h1]
    rw[aaQ (fun h=>h1 (HC.o.1 h)),aaQ h1]
   clear hx hz hx2 KX dP hdr hbl ZM;go_wp2_with fail;go_region;go_wp2_with fail;go_region;go_wp2_with fail;go_ret;exact⟨by rw[HF.o];rfl,pY.o.drew⟩
def Qz3 (L ds:List Nat)(q s g:Nat)(w:ca)(e:dj)(w':ca):Prop:=e=co (de #[])/\ ∃M,bh w' g M/\ak.ok M/\M.length=L.length/\ak.val M+q*(ak.val ds*ak.BB^s)=ak.val L/\w.grownBy w' (F g)
def Kp (L ds:List Nat)(q s g:Nat)(w:ca)(cv iv:db)(wr:ca):Prop:=∃(i c:Nat) (M:List Nat),cv=A cl c/\iv=A G i/\s+i<=L.length/\c<=4294967296/\bh wr g M/\M.length=L.length/\ak.ok M/\M.drop (s+i)=L.drop (s+i)/\ak.val (M.take (s+i))+q*(ak.val (ds.take i)*ak.BB^s)=ak.val (L.take (s+i))+ak.BB^(s+i)*c/\w.grownBy wr (F g)
theorem Kp.step {q i c low c' r r' d b:Nat}{wr:ca}(hi:s+i<L.length)(hM:bh wr g M)(hl:M.length=L.length)(bm:ak.ok M)(hdr:M.drop (s+i)=L.drop (s+i))
  (hv:ak.val (M.take (s+i))+q*(ak.val (ds.take i)*ak.BB^s)=ak.val (L.take (s+i))+ak.BB^(s+i)*c) (hgr:w.grownBy wr (F g)) (hr:M[s+i]?=F r)
  (hb:ak.val (ds.take (i+1))=ak.val (ds.take i)+ak.BB^i*b) (ht:c+q*b=low+ak.BB*c') (hs:(low<=r/\r'=r-low/\d=c')\/(r<low/\r'=r+ak.BB-low/\low<ak.BB/\d=c'+1)) (hr':r'<ak.BB) (hd:d<=4294967296):
  Kp L ds q s g w (A cl d) (A G ((i:Int)+1)) (wr.setCell ⟨g,s+i,Z⟩ (A cl r')):=by
 have H:=hM.set (s+i) (x:=r') (by unfold ak.BB at hr';unfold BB;omega)
 have J:s+i<M.length:=by omega
 refine⟨i+1,d,M.set (s+i) r',rfl,by go_num,by omega,hd,H.1,by rw[abb];exact hl,ak.iD bm _ hr',?_,?_,Qi hgr H.2⟩
 ·rw[show s+(i+1)=s+i+1 by omega,Js r']
  have h:=aaE (List.drop 1) hdr;rw[abB,abB]at h;exact h
 have h:(M.set (s+i) r').take (s+i+1)=M.take (s+i)++[r']:=by rw[aa8 (by rw[abb];exact J),Jq _ (aab _)];simp
 have I:L[s+i]?=F r:=by have E:=aaE (fun l:List Nat=>l[0]?) hdr;simp only[abg,aba]at E;rw[<-E];exact hr
 have E:L.take (s+i+1)=L.take (s+i)++[r]:=by have:=aa8 hi;rw[(aaf.1 I).2]at this;exact this
 have K:=ak.jO (Y:=ak.val (ds.take i)*ak.BB^s) (b:=b) (r:=r) (r':=r') (d:=d) hv ht hs;rw[show s+(i+1)=s+i+1 by omega,h,E,ak.aY,ak.aY,aak,aak,aaG (by omega),aaG (by omega),hb,abd,abf];rw[show ak.BB^i*b*ak.BB^s=ak.BB^(s+i)*b by rw[abM];simp only[aaz,abO,aaM]];exact K
theorem Kp.fin {q:Nat}{wr:ca}{i c:Nat}(hi:s+i<=L.length)(hM:bh wr g M)(hl:M.length=L.length)(bm:ak.ok M)(aiE:ak.ok L)(hdr:M.drop (s+i)=L.drop (s+i))
  (hv:ak.val (M.take (s+i))+q*(ak.val (ds.take i)*ak.BB^s)=ak.val (L.take (s+i))+ak.BB^(s+i)*c) (hgr:w.grownBy wr (F g)) (hgo:q*(ak.val ds*ak.BB^s)<=ak.val L)
  (hx:s+i=L.length\/(ds.length<=i/\c=0)):Qz3 L ds q s g w (co (de #[])) wr:=by
 refine⟨rfl,M,hM,bm,hl,?_,hgr⟩;rcases hx with hx|⟨hx,rfl⟩
 ·rw[aam (by omega),aam (l:=L) (by omega)]at hv
  have I:=ak.aN bm;rw[hl,<-hx]at I;by_cases hid:i<=ds.length
  ·have J:=ak.aH ds i hid
   rw[J]at hgo ⊢
   have K:q*((ak.val (ds.take i)+ak.BB^i*ak.val (ds.drop i))*ak.BB^s)=q*(ak.val (ds.take i)*ak.BB^s)+ak.BB^(s+i)*(q*ak.val (ds.drop i)):=by rw[abd,aay,abM];congr 1;simp only[aaz,abO,aaM]
   rw[K]at hgo ⊢
   have E:c+q*ak.val (ds.drop i)=0:=by
    rcases abY (c+q*ak.val (ds.drop i)) with h|h
    ·exact h
    have H:ak.BB^(s+i)*1<=ak.BB^(s+i)*(c+q*ak.val (ds.drop i)):=aaT _ h;rw[aay]at H;omega
   have bi:c=0:=by omega
   have T:q*ak.val (ds.drop i)=0:=by omega
   rw[T,abI,aba];rw[bi,abI,aba]at hv;exact hv
  rw[aam (by omega)]at hv
  have E:c=0:=by
   rcases abY c with h|h
   ·exact h
   have H:ak.BB^(s+i)*1<=ak.BB^(s+i)*c:=aaT _ h;omega
  rw[E,abI,aba]at hv;exact hv
 rw[aam hx,abI,aba]at hv;rw[ak.aH M (s+i) (by omega),ak.aH L (s+i) hi,hdr,<-hv];omega
theorem Hk (q s:Nat)(hB:bh w g L)(hu:ee w u ds)(hne:u.ownBlock≠F g)(okL:ak.ok L)(LD:ak.ok ds)(hq:q<4294967296)(hs:s<=L.length)(hl:L.length<=4294967296)(hld:ds.length<=4294967296)(hgo:q*(ak.val ds*ak.BB^s)<=ak.val L):da ce 260 #[U (F ⟨g,0,Z⟩) L.length L.length,u,A cl q,A G s] w (Qz3 L ds q s g w):=by
 have HB:=zq hB;have HU:=zq hu;have kT:=zq okL;have HKD:=zq LD;have O9:=zq hgo;obtain⟨bo,bn,rfl,mF,jE,-,-⟩:=hu.2;have bV:=zq hne;obtain⟨n,hn⟩:=xq L.length;obtain⟨m,hm⟩:=xq ds.length;have HN:=zq hn;have HM:=zq hm;rw[<-hn]at hs hl ⊢;rw[<-hm]at mF hld ⊢;clear hB hu okL LD hgo jE hn hm hne;go_enter func260,ntmps260;go_wp2_with fail;go_loopw [8,9] (fun cv iv wr=>Kp L ds q s g w cv iv wr) (fun _ iv _=>n+1-(intOf iv).toNat)
 case atStart=>exact⟨0,0,L,rfl,rfl,by rw[<-HN.o];omega,by omega,HB,rfl,kT,rfl,by simp[ak.val],Xy _ _⟩
 case round=>
  obtain⟨i,c,M,rfl,rfl,hi,hc,hM,hl2,bm,hdr,hval,hgr⟩:=hrel;rw[<-HN.o]at hi;have ct:=zq hM;have iG:=zq hl2;have bS:=zq bm;have oI:=zq hdr;have gm:=zq hval;have bD:=zq hgr
  have hii:(s:Int)+(i:Int)<=(n:Int):=by omega
  by_cases hlt:s+i<n
  ·have cB:(s:Int)+(i:Int)<(n:Int):=by omega
   have gF:(0:Int)<=(s:Int)+(i:Int):=by omega
   have oF:((s:Int)+(i:Int)).toNat=s+i:=by omega
   have wD:(0:Int)<=(i:Int):=aaJ _;by_cases WE:i<m\/0<c
   ·obtain⟨r,hr⟩:∃r,M[s+i]?=F r:=⟨_,aad (by rw[iG.o,<-HN.o];exact hlt)⟩
    have c1:=ct.o.cell hr;have q1:=ct.o.frozen (s+i);have tu:r<4294967296:=bS.o r (aai hr);have HR:=zq hr
    have eD:Hid (∀b low c' r' d,ak.val (ds.take (i+1))=ak.val (ds.take i)+ak.BB^i*b->c+q*b=low+ak.BB*c'->((low<=r/\r'=r-low/\d=c')\/(r<low/\r'=r+ak.BB-low/\low<ak.BB/\d=c'+1))->r'<ak.BB->d<=4294967296->Kp L ds q s g w (A cl (d:Nat)) (A G ((i:Int)+1)) (wr.setCell ⟨g,s+i,Z⟩ (A cl (r':Nat)))):=
     fun b low c' r' d h1 h2 h3 h4 h5=>Kp.step (by rw[<-HN.o];exact hlt) ct iG bS oI gm bD HR h1 h2 h3 h4 h5
    clear hM hl2 bm hdr hval hgr hr;by_cases him:i<m
    ·obtain⟨b,hb⟩:∃b,ds[i]?=F b:=⟨_,aad (by rw[<-HM.o];exact him)⟩
     obtain⟨SQ,rD,e',-,-,-,dP⟩:=HU.o.2;rw[<-HM.o]at e';cases e';obtain⟨g2,o2,rfl,d2⟩:=dP _ _ hb;have hg2:g2≠g:=fun e=>bV.o (by rw[e];rfl);have d3:wr.cell? ⟨g2,o2+i,Z⟩=F (A cl b):=bD.o.cell d2 (fun e=>hg2 (aav e));have lh:b<4294967296:=HKD.o b (aai hb)
     have oq:Hid (ak.val (ds.take (i+1))=ak.val (ds.take i)+ak.BB^i*b):=by show _=_;have h1:=aa8 (aaf.1 hb).1;rw[(aaf.1 hb).2]at h1;rw[h1,ak.aY,aak,aaG (by rw[<-HM.o];omega)]
     obtain⟨p,hp⟩:=xq (q*b)
     have EL:p<=4294967295*4294967295:=by rw[hp];exact aa3 (by omega) (by omega)
     obtain⟨t,ht⟩:=xq (c+p);obtain⟨low,s9⟩:=xq (t % 4294967296);obtain⟨c',hc'⟩:=xq (t / 4294967296)
     have W0:IntKind.u64.wrap ((q:Int)*(b:Int))=(p:Int):=by rw[aaA,<-abH,<-hp];omega
     have W1:IntKind.u64.wrap ((c:Int)+(p:Int))=(t:Int):=by rw[aaA];omega
     have E0:(t:Int) % 4294967296=(low:Int):=by omega
     have E1:(t:Int) / 4294967296=(c':Int):=by omega
     have gV:low<4294967296:=by omega
     have hcb:c'<=4294967295:=by omega
     have HT:Hid (c+q*b=low+ak.BB*c'):=by show _=_;unfold ak.BB;rw[<-hp];omega
     have hb1:(i:Int)<(m:Int):=by omega
     have hbx:t<18446744073709551616:=by omega
     clear hb dP d2 hg2 hp ht s9 hc' EL;by_cases lG:r<low
     ·have aq:=eD.o b low c' (r+ak.BB-low) (c'+1) oq HT (.inr ⟨lG,rfl,gV,rfl⟩) (by unfold ak.BB;omega) (by omega)
      have aQ:=zq aq
      have hr1:(r:Int)<(low:Int):=by omega
      have W2:IntKind.u64.wrap ((r:Int)+4294967296)=(r:Int)+4294967296:=by rw[aaA];omega
      have W3:IntKind.u64.wrap ((r:Int)+4294967296-(low:Int))=((r+ak.BB-low:Nat):Int):=by rw[aaA];unfold ak.BB;omega
      have W4:IntKind.u64.wrap ((c':Int)+1)=((c'+1:Nat):Int):=by rw[aaA];omega
      clear aq lG;go_wp2_with fail;have aq:=aQ.o
      exact⟨aq,by simp[intOf]<;>omega⟩
     have aq:=eD.o b low c' (r-low) c' oq HT (.inl ⟨by omega,rfl,rfl⟩) (by unfold ak.BB;omega) (by omega);have aQ:=zq aq
     have hr1: ¬(r:Int)<(low:Int):=by omega
     have W3:IntKind.u64.wrap ((r:Int)-(low:Int))=((r-low:Nat):Int):=by rw[aaA];omega
     clear aq lG;go_wp2_with fail;have aq:=aQ.o
     exact⟨aq,by simp[intOf]<;>omega⟩
    have hc0:(0:Int)<(c:Int):=by omega
    have hb1: ¬(i:Int)<(m:Int):=by omega
    have oq:Hid (ak.val (ds.take (i+1))=ak.val (ds.take i)+ak.BB^i*0):=by show _=_;rw[aam (by rw[<-HM.o];omega),aam (by rw[<-HM.o];omega)];omega
    obtain⟨low,s9⟩:=xq (c % 4294967296);obtain⟨c',hc'⟩:=xq (c / 4294967296)
    have E0:(c:Int) % 4294967296=(low:Int):=by omega
    have E1:(c:Int) / 4294967296=(c':Int):=by omega
    have gV:low<4294967296:=by omega
    have hcb:c'<=1:=by omega
    have HT:Hid (c+q*0=low+ak.BB*c'):=by show _=_;unfold ak.BB;omega
    have hbx:c<18446744073709551616:=by omega
    clear s9 hc' WE;by_cases lG:r<low
    ·have aq:=eD.o 0 low c' (r+ak.BB-low) (c'+1) oq HT (.inr ⟨lG,rfl,gV,rfl⟩) (by unfold ak.BB;omega) (by omega)
     have aQ:=zq aq
     have hr1:(r:Int)<(low:Int):=by omega
     have W2:IntKind.u64.wrap ((r:Int)+4294967296)=(r:Int)+4294967296:=by rw[aaA];omega
     have W3:IntKind.u64.wrap ((r:Int)+4294967296-(low:Int))=((r+ak.BB-low:Nat):Int):=by rw[aaA];unfold ak.BB;omega
     have W4:IntKind.u64.wrap ((c':Int)+1)=((c'+1:Nat):Int):=by rw[aaA];omega
     clear aq lG;go_wp2_with fail;have aq:=aQ.o
     exact⟨aq,by simp[intOf]<;>omega⟩
    have aq:=eD.o 0 low c' (r-low) c' oq HT (.inl ⟨by omega,rfl,rfl⟩) (by unfold ak.BB;omega) (by omega);have aQ:=zq aq
    have hr1: ¬(r:Int)<(low:Int):=by omega
    have W3:IntKind.u64.wrap ((r:Int)-(low:Int))=((r-low:Nat):Int):=by rw[aaA];omega
    clear aq lG;go_wp2_with fail;have aq:=aQ.o
    exact⟨aq,by simp[intOf]<;>omega⟩
   have hb1: ¬(i:Int)<(m:Int):=by omega
   have hc0: ¬(0:Int)<(c:Int):=by omega
   have aq:=Kp.fin (by rw[<-HN.o];exact hi) ct iG bS kT oI gm bD O9 (.inr ⟨by rw[<-HM.o];omega,by omega⟩);have aQ:=zq aq;clear hM hl2 bm hdr hval hgr aq WE;go_wp2_with fail;refine aaD (ab5 rfl _ _ _) rfl ?_;exact aQ.o
  have cB: ¬(s:Int)+(i:Int)<(n:Int):=by omega
  have aq:=Kp.fin (by rw[<-HN.o];exact hi) ct iG bS kT oI gm bD O9 (.inl (by rw[<-HN.o];omega));have aQ:=zq aq;clear hM hl2 bm hdr hval hgr aq;go_wp2_with fail;refine aaD (ab5 rfl _ _ _) rfl ?_;exact aQ.o
def qZ (w:ca)(g:Nat):Nat:=match w.heap[g]? with|some (O c _ _)=>ak.val (c.toList.map fun v=>(intOf v).toNat)|_=>0
theorem Nj (h:bh w g L):qZ w g=ak.val L:=by
 unfold qZ;rw[h.1];show ak.val ((ws L).map fun v=>(intOf v).toNat)=_;congr 1;rw[ws,ab2]
 conv=>rhs;rw[<-List.map_id L]
 apply List.map_congr_left;intro x _;simp[intOf]
structure oG (w0:ca) (g1 g2 g3 n m:Nat) (L2 R Q:List Nat) (wr:ca):Prop where
 r:bh wr g1 R
 rl:R.length=n+1
 yy:ak.ok R
 q:bh wr g3 Q
 ql:Q.length=n-m
 qok:ak.ok Q
 d:bh wr g2 L2
 fK:c9 w0.heap.size w0 wr
theorem oG.rdR {wr:ca}(h:oG w0 g1 g2 g3 n m L2 R Q wr)(hn:n<=4294967296):Rd wr (U (F ⟨g1,0,Z⟩) (n+1) (n+1)) R:=by have:=h.r.rd (o:=0) (n:=n+1) (c:=n+1) (by rw[h.rl];omega) (aab _) (by unfold maxLen;omega);rw[aa4,aam (by rw[h.rl];exact aab _)]at this;exact this
theorem oG.rdQ {wr:ca}(h:oG w0 g1 g2 g3 n m L2 R Q wr)(hn:n<=4294967296):Rd wr (U (F ⟨g3,0,Z⟩) (n-m) (n-m)) Q:=by have:=h.q.rd (o:=0) (n:=n-m) (c:=n-m) (by rw[h.ql];omega) (aab _) (by unfold maxLen;omega);rw[aa4,aam (by rw[h.ql];exact aab _)]at this;exact this
theorem oG.rdD {D:List Nat}{wr:ca}(h:oG w0 g1 g2 g3 n m L2 R Q wr)(hn:n<=4294967296)(z6:m<n)(hl:L2.length=m+2)(hD:strip L2=D)(hDl:D.length=m+1):Rd wr (U (F ⟨g2,0,Z⟩) (m+1) (m+2)) D:=by have:=h.d.rd (o:=0) (n:=m+1) (c:=m+2) (by rw[hl];omega) (by omega) (by unfold maxLen;omega);have E:=(Xj L2).1;rw[hD,hDl]at E;rw[aa4,<-E]at this;exact this
def OB (w0:ca)(g1 g2 g3 n m:Nat)(L2:List Nat)(Af Dv k:Nat)(wr:ca):Prop:=∃R Q,oG w0 g1 g2 g3 n m L2 R Q wr/\Af=ak.val R+Dv*ak.val Q/\ak.val R<Dv*ak.BB^k/\ ∀i,i<k->i<n-m->Q[i]?=F 0
def OA (w0:ca)(g1 g2 g3 n m:Nat)(L2:List Nat)(Af Dv s:Nat)(wr:ca):Prop:=∃R Q y,oG w0 g1 g2 g3 n m L2 R Q wr/\Af=ak.val R+Dv*ak.val Q/\Q[s]?=F y/\ak.val R+Dv*ak.BB^s*y<Dv*ak.BB^(s+1)/\ ∀i,i<s->i<n-m->Q[i]?=F 0
theorem OB.inner {wr:ca}(h:OB w0 g1 g2 g3 n m L2 Af Dv (s+1) wr)(hs:s<n-m):OA w0 g1 g2 g3 n m L2 Af Dv s wr:=by obtain⟨R,Q,H,I,J,E⟩:=h;exact⟨R,Q,0,H,I,E s (by omega) hs,by rw[abI,aba];exact J,fun i hi hn=>E i (by omega) hn⟩
theorem oG.step {D:List Nat}{e:dj}{y nn:Nat}{wr w':ca}(h:oG w0 g1 g2 g3 n m L2 R Q wr)(hA:Af=ak.val R+Dv*ak.val Q)(hy:Q[s]?=F y)(hlt:ak.val R+Dv*ak.BB^s*y<Dv*ak.BB^(s+1))(h0:∀i,i<s->i<n-m->Q[i]?=F 0)
  (hne:g1≠g2/\g1≠g3/\g2≠g3) (hw:w0.heap.size<=g1/\w0.heap.size<=g3) (hp:Qz3 R D nn s g1 wr e w') (hD:ak.val D=Dv):
  y+nn<4294967296/\OA w0 g1 g2 g3 n m L2 Af Dv s (w'.setCell ⟨g3,s,Z⟩ (A cl ((y+nn:Nat):Int)))/\(∃M,bh (w'.setCell ⟨g3,s,Z⟩ (A cl ((y+nn:Nat):Int))) g1 M/\ak.val M+nn*(Dv*ak.BB^s)=ak.val R)/\bh w' g3 Q:=by
 obtain⟨-,M,hM,am,lM,bi,H⟩:=hp;rw[hD]at bi
 have e1:Dv*ak.BB^s*(y+nn)=Dv*ak.BB^s*y+nn*(Dv*ak.BB^s):=by rw[aay,aaz nn]
 have I:ak.val M+Dv*ak.BB^s*(y+nn)<Dv*ak.BB^(s+1):=by omega
 have J:y+nn<ak.BB:=ak.BR I;have aE:bh w' g3 Q:=h.q.kept H (fun e=>hne.2.1 (aav e));have hd:bh w' g2 L2:=h.d.kept H (fun e=>hne.1 (aav e));have E:=aE.set s (x:=y+nn) (by unfold ak.BB at J;unfold BB;omega);have T:c9 w0.heap.size w0 w':=aaF h.fK H h.fK.size (fun k hk=>by cases hk;exact hw.1);have K:bh (w'.setCell ⟨g3,s,Z⟩ (A cl ((y+nn:Nat):Int))) g1 M:=hM.kept E.2 (fun e=>hne.2.1 (aav e).symm);refine⟨J,⟨M,Q.set s (y+nn),y+nn,⟨K,by rw[lM];exact h.rl,am,E.1,by rw[abb];exact h.ql,ak.iD h.qok s J,hd.kept E.2 (fun e=>hne.2.2 (aav e).symm),aaF T E.2 T.size (fun k hk=>by cases hk;exact hw.2)⟩,?_,?_,I,fun i hi hn=> ?_⟩,⟨M,K,bi⟩,aE⟩
 ·have h5:=ak.kN (y:=y+nn) hy
  have h6:ak.val (Q.set s (y+nn))=ak.val Q+ak.BB^s*nn:=by rw[aay]at h5;omega
  rw[h6,aay,hA,<-bi]
  have e2:Dv*(ak.BB^s*nn)=nn*(Dv*ak.BB^s):=by simp only[aaz,abO,aaM]
  omega
 ·rw[List.getElem?_set,if_pos rfl,if_pos (aaf.1 hy).1]
 rw[List.getElem?_set,if_neg (by omega)];exact h0 i hi hn
theorem OA.outer {wr:ca}(h:oG w0 g1 g2 g3 n m L2 R Q wr)(hA:Af=ak.val R+Dv*ak.val Q)(h0:∀i,i<s->i<n-m->Q[i]?=F 0)(hg: ¬Dv<=ak.val R / ak.BB^s):OB w0 g1 g2 g3 n m L2 Af Dv s wr:=
 ⟨R,Q,h,hA,ak.tE rfl (by omega),h0⟩
def DvR (w0:ca)(g1 g2 g3 n m:Nat)(L2 R Q:List Nat)(f:Nat)(rv iv:db)(wr:ca):Prop:=∃(k p:Nat) (M:List Nat),rv=A cl p/\iv=A G ((k:Int)-1)/\k<=n+1/\p<f/\oG w0 g1 g2 g3 n m L2 M Q wr/\M.take k=R.take k/\ak.val (R.drop k)=f*ak.val (M.drop k)+p
theorem DvR.step {f p:Nat}{wr:ca}(h:oG w0 g1 g2 g3 n m L2 M Q wr)(hk:k+1<=n+1)(hp:p<f)(hf:f<4294967296)(ht:M.take (k+1)=R.take (k+1))(hR:R.length=n+1)(hv:ak.val (R.drop (k+1))=f*ak.val (M.drop (k+1))+p)(hx:M[k]?=F x)
  (hne:g1≠g2/\g1≠g3/\g2≠g3) (hw:w0.heap.size<=g1/\w0.heap.size<=g3):
  p*4294967296+x<18446744073709551616/\(p*4294967296+x) / f<4294967296/\DvR w0 g1 g2 g3 n m L2 R Q f (A cl (((p*4294967296+x) % f:Nat):Int)) (A G ((k:Int)-1)) (wr.setCell ⟨g1,k,Z⟩ (A cl (((p*4294967296+x) / f:Nat):Int))):=by
 have am:x<4294967296:=h.yy x (aai hx)
 have I:p*4294967296+x<f*4294967296:=by have:(p+1)*4294967296<=f*4294967296:=aaS _ hp;omega
 have H:(p*4294967296+x) / f<4294967296:=aeb I;obtain⟨t,aE⟩:=xq (p*4294967296+x);rw[<-aE]at I H ⊢;have E:=h.r.set k (x:=t / f) (by unfold BB;omega)
 have T:k<M.length:=by rw[h.rl];omega
 refine⟨by omega,H,k,t % f,M.set k (t / f),rfl,rfl,by omega,abL _ (by omega),⟨E.1,by rw[abb];exact h.rl,ak.iD h.yy k H,h.q.kept E.2 (fun e=>hne.2.1 (aav e)),h.ql,h.qok,h.d.kept E.2 (fun e=>hne.1 (aav e)),aaF h.fK E.2 h.fK.size (fun k hk=>by cases hk;exact hw.1)⟩,?_,?_⟩
 ·rw[Jq _ (aab k)]
  have:=aaE (List.take k) ht;rw[acx,acx,aaG (by omega)]at this;exact this
 have bi:R[k]?=F x:=by have:=aaE (fun l:List Nat=>l[k]?) ht;simp only[abE]at this;rw[if_pos (by omega),if_pos (by omega)]at this;rw[<-this];exact hx
 obtain⟨K,J⟩:=aaf.1 bi;rw[aaL K,J,ak.val,hv]
 have e3:(M.set k (t / f)).drop k=t / f::M.drop (k+1):=by rw[aaL (by rw[abb];exact T),Js];simp
 rw[e3,ak.val];have h4:=abP t f;have e4:ak.BB=4294967296:=rfl;rw[aay,aay,abO ak.BB f,aaz ak.BB p,e4];omega
theorem Qbk {an B f VR VQ VM p:Nat}(hA:an*f=VR+B*f*VQ)(hlt:VR<B*f)(hM:VR=f*VM+p)(hp:p<f):an / B=VQ/\an % B=VM:=by
 have K:0<f:=by omega
 have E:p=0:=by
  have H:an*f=f*(VM+B*VQ)+p:=by rw[hA,hM,aay,<-aaM,aaz f B];omega
  have I:=aaE (· % f) H;simp only[Nat.mul_mod_left,Nat.mul_add_mod,ab7 hp]at I;omega
 subst E
 have h:VM<B:=by rw[hM,aba,aaz]at hlt;exact Nat.lt_of_mul_lt_mul_right hlt
 have J:an=VM+B*VQ:=by refine Nat.eq_of_mul_eq_mul_right K ?_;rw[hA,hM,abd,aba,aaz f VM];congr 1;simp only[aaz,abO,aaM]
 rw[J];exact⟨by rw[Nat.add_mul_div_left _ _ (by omega),acL h,aaX],by rw[Nat.add_mul_mod_self_left,ab7 h]⟩
def Qz1 (a b:List Nat)(w:ca)(e:dj)(w':ca):Prop:=∃qv rv qs rs,e=co (de #[qv,rv])/\ee w' qv qs/\ee w' rv rs/\HD (ak.val a / ak.val b) qs/\HD (ak.val a % ak.val b) rs/\c9 w.heap.size w w'
theorem oG.below {wr wx:ca}(h:oG w0 g1 g2 g3 n m L2 R Q wr)(hb:c9 wr.heap.size wr wx):oG w0 g1 g2 g3 n m L2 R Q wx:=
 ⟨h.r.below hb h.r.lt,h.rl,h.yy,h.q.below hb h.q.lt,h.ql,h.qok,h.d.below hb h.d.lt,h.fK.trans (hb.mono h.fK.size)⟩
theorem Qhb (hx:b[m]?=F x)(h0:x≠0):ak.BB^m<=ak.val b:=by have h:=ak.oW hx;have E:ak.BB^m*1<=ak.BB^m*x:=aaT _ (by omega);omega
theorem Qdi (ob:ak.ok b)(hx:b[m]?=F x)(hl:b.length=m+1):ak.val b<=(x+1)*ak.BB^m:=by have va:=ak.fG hx;have h:b.drop (m+1)=[]:=aaC (by omega);have la:=ak.aN (ak.bq ob m);rw[aak,aaG (by omega)]at la;rw[h,ak.val,abI,aba]at va;rw[va,abd,abR,aaz x];omega
theorem Qmt {j:Nat}(h:j<=31):2^j ∣ ak.BB:=by
 have:ak.BB=2^32:=by decide
 rw[this];exact Nat.pow_dvd_pow 2 (by omega)
theorem Qfx {j:Nat}(h:j<=31):2^j<=2147483648:=by
 have:2147483648=2^31:=by decide
 rw[this];exact aa6 (by omega) h
theorem Gn {a:List Nat}(hv:ee w v a)(hu:ee w u b)(ZX:ak.ok a)(okb:ak.ok b)(sb:strip b=b)(sa:strip a=a)(hb:b≠[])(hla:a.length<=2147483648)(gV:b.length<=2147483648):da ce 245 #[v,u] w (Qz1 a b w):=by
 have HV:=zq hv;have HU:=zq hu;have yO:=zq ZX;have HKB:=zq okb;have ow:=zq sa;obtain⟨ao,cap,rfl,bU,hcm,-,-⟩:=hv.2;obtain⟨bo,bn,rfl,mF,jE,-,dP⟩:=hu.2;obtain⟨n,hn⟩:=xq a.length;obtain⟨lb,zV⟩:=xq b.length;obtain⟨m,hm⟩:∃m,lb=m+1:=⟨lb-1,by have:=abm.2 hb;omega⟩;obtain⟨x,hx,hx0⟩:=ak.ia sb (show b.length=m+1 by omega);have HN:=zq hn;have LY:=zq zV;have HM:=zq hm;have HX:=zq hx;rw[<-hn]at bU hla HV ⊢;rw[<-zV]at mF gV HU ⊢;by_cases hlt:n<lb
 ·have JS:(n:Int)<(lb:Int):=by omega
  have HF:Hid (Qz1 a b w (co (de #[U Z 0 0,U ao n cap])) w):=by
   have h1:=ak.aN ZX;have h2:=Qhb hx hx0;have h3:ak.BB^a.length<=ak.BB^m:=aa6 ak.aC (by omega);refine⟨_,_,[],a,rfl,(Rd.nil w).weak,HV,?_,?_,aaw _ _⟩
   ·rw[acL (by omega)];exact⟨ak.fE,rfl,rfl⟩
   rw[ab7 (by omega)];exact⟨ZX,sa,rfl⟩
  clear hv hu ZX okb sb sa hb hcm jE dP hn zV hm hx hlt;go_enter ex,du;go_wp2_with fail;go_ret2;exact HF.o
 have JS: ¬(n:Int)<(lb:Int):=by omega
 obtain⟨g0,o0,rfl,e0⟩:=dP m x hx;have fY:x<4294967296:=okb x (aai hx)
 have dR:(0:Int)<=(lb:Int)-1:=by omega
 have cB:(lb:Int)-1<(lb:Int):=by omega
 have gF:((lb:Int)-1).toNat=m:=by omega
 have hx1:1<=x:=by omega
 have z6:m<n:=by omega
 clear hv hu ZX okb sb sa hb hcm jE dP hn zV hm hx hlt;go_enter ex,du;go_wp2_with fail;go_loopw [6] (fun fv wr=> ∃f j:Nat,fv=A cl f/\j<=31/\f=2^j/\x*f<4294967296/\wr=w) (fun fv _=>4294967296-(intOf fv).toNat)
 case atStart=>exact⟨1,0,rfl,by omega,rfl,by omega,rfl⟩
 case round=>
  obtain⟨f,j,rfl,hj,hf,hxf,rfl⟩:=hrel;have jn:=Qfx hj;rw[<-hf]at jn
  have ya:1<=f:=by rw[hf];exact abC (by omega)
  obtain⟨p,hp⟩:=xq (x*f);rw[<-hp]at hxf
  have W0:IntKind.u64.wrap ((x:Int)*(f:Int))=(p:Int):=by rw[aaA,<-abH,<-hp];omega
  by_cases jW:p<2147483648
  ·have hp3:(p:Int)<2147483648:=by omega
   have W1:IntKind.u64.wrap (2*(f:Int))=((2*f:Nat):Int):=by rw[aaA];omega
   have mZ:j+1<=31:=by
    rcases adQ j 31 with h|h
    ·omega
    have h31:j=31:=by omega
    rw[h31]at hf
    have h2:f<=p:=by rw[hp];exact Nat.le_mul_of_pos_left f (by omega)
    omega
   have HF2:Hid (2*f=2^(j+1)):=by show _=_;rw[abf,hf];omega
   have HX2:Hid (x*(2*f)<4294967296):=by show _<_;rw[abO,<-hp];omega
   clear hp hf;go_wp2_with fail
   exact⟨⟨2*f,j+1,by go_num,mZ,HF2,HX2,trivial⟩,by simp[intOf]<;>omega⟩
  have hp3: ¬(p:Int)<2147483648:=by omega
  have LR:Hid (f ∣ ak.BB):=by show f ∣ ak.BB;rw[hf];exact Qmt hj
  have HXF:Hid (x*f<ak.BB):=by show x*f<ak.BB;rw[<-hp];exact hxf
  have zN:f<4294967296:=by omega
  clear hp hf jW;go_wp2_with fail;refine(F7 f HV yO zN (by rw[<-HN.o];exact hla)).mono ?_;rintro e w1 ⟨L1,rfl,h1,ok1,l1,v1,b1⟩;rw[<-HN.o]at l1 ⊢;obtain⟨g1,hg1⟩:=xq wr.heap.size;rw[<-hg1]at h1 ⊢;have H1:=zq h1;have OK1:=zq ok1;have LL1:=zq l1;have V1:=zq v1;have B1:=zq b1;have G1:=zq hg1;have oz:=zq (HU.o.below b1);have d1:w1.cell? ⟨g0,o0+m,Z⟩=F (A cl x):=(b1.cell (p:=⟨g0,o0+m,Z⟩) (aaY wr _ e0)).trans e0;clear h1 ok1 l1 v1 b1 hg1 d1 e0;go_wp2_with fail;refine(F7 f oz HKB zN (by rw[<-LY.o];exact gV)).mono ?_;rintro e w2 ⟨L2,rfl,h2,ok2,l2,v2,b2⟩;rw[<-LY.o]at l2 ⊢;obtain⟨g2,hg2⟩:=xq w1.heap.size;rw[<-hg2]at h2 ⊢;have cO:=h2.rd (o:=0) (n:=L2.length) (c:=lb+1) (by omega) (by omega) (by unfold maxLen;omega);rw[aa4,aam (aab _)]at cO;have uj:=Wg (F ⟨g2,0,Z⟩) (lb+1) L2 w2 cO.weak;rw[l2]at uj;obtain⟨D,hD⟩:=xq (strip L2);rw[<-hD]at uj
  have hDv:ak.val D=ak.val b*f:=by rw[hD];exact(ak.ay L2).trans v2
  have ZW:ak.ok D:=by rw[hD];exact ak.bJ ok2
  have DK:ak.BB^m<=ak.val b:=Qhb HX (by omega);have hBf:ak.val b<=ak.val b*f:=Nat.le_mul_of_pos_right _ ya
  have hDl:D.length=lb:=by
   have h3:(ak.strip L2).length<=b.length:=ak.bf L2 b.length (by rw[v2];exact ak.tF HKB HX (by rw[<-LY.o,HM.o]) LR HXF)
   have h4:lb<=D.length:=by
    rcases adQ D.length lb with h|h
    ·have h5:=ak.aN ZW
     have h6:ak.BB^D.length<=ak.BB^m:=aa6 ak.aC (by have:=HM.o;omega);omega
    exact h
   have h7:D.length<=b.length:=by rw[hD];exact h3
   rw[<-LY.o]at h7;omega
  rw[hDl]at uj;have RN:=zq uj;obtain⟨dt,VW⟩:∃dt,D[m]?=F dt:=⟨_,aad (by rw[hDl,HM.o];omega)⟩;have ah5:dt<4294967296:=ZW dt (aai VW);have CF:=zq (Qdi ZW VW (by rw[hDl,HM.o]));obtain⟨Dv,zw⟩:=xq (ak.val b*f);rw[<-zw]at hDv;rw[hDv]at CF;have mL:=zq hDv;have OT:=zq zw;have OKD:=zq ZW;have lS:=zq hDl;have HDE:=zq hD;have H2:=zq h2;have LL2:=zq l2;have B2:=zq b2;have G2:=zq hg2;have H12:=zq (H1.o.below b2 H1.o.lt)
  have UA:1<=Dv:=by have:=abC (n:=m) ak.aC;omega
  have fA:=X9 (n-m) (by omega);rw[show ((n-m:Nat):Int)=(n:Int)-(lb:Int)+1 by have:=HM.o;omega]at fA;obtain⟨g3,hg3⟩:=xq w2.heap.size;obtain⟨w3,hw3⟩:=xq (w2.alloc (O (madeCells #[A cl 0] (n-m)) 101));have hb3:=Qq w2 (O (madeCells #[A cl 0] (n-m)) 101);rw[<-hw3]at hb3
  have h3:bh w3 g3 (List.replicate (n-m) 0):=by rw[hw3,hg3];exact bh.made w2 (n-m)
  have hz1:=B1.o.size;have hz2:=b2.size;have afW:=H1.o.lt;have afX:=h2.lt
  have JC:oG wr g1 g2 g3 n m L2 L1 (List.replicate (n-m) 0) w3:=
   ⟨H12.o.below hb3 H12.o.lt,LL1,OK1,h3,by simp,ak.dm _,h2.below hb3 h2.lt,(B1.o.trans (b2.mono hz1)).trans (hb3.mono (aar hz1 hz2))⟩
  have TS:ak.val a<ak.BB^n:=by rw[HN.o];exact ak.aN yO
  have VX:OB wr g1 g2 g3 n m L2 (ak.val a*f) Dv (n-m) w3:=by
   refine⟨L1,_,JC,by rw[V1.o,ak.bE,abI,aba],?_,fun i _ hi=>by rw[List.getElem?_replicate,if_pos hi]⟩;rw[V1.o,zw]
   have h5:ak.BB^n<=ak.val b*ak.BB^(n-m):=by
    have h6:ak.BB^n=ak.BB^m*ak.BB^(n-m):=by rw[<-abM];congr 1;omega
    rw[h6];exact aaS _ DK
   have h7:ak.val a*f<ak.val b*ak.BB^(n-m)*f:=ac3 (by omega) ya;rw[Nat.mul_right_comm];exact h7
  have OU:=zq VX
  have hne:g1≠g2/\g1≠g3/\g2≠g3:=by have:=G1.o;have:=G2.o;omega
  have nU:wr.heap.size<=g1/\wr.heap.size<=g3:=by have:=G1.o;omega
  have bV:=zq hne;have HGW:=zq nU
  have UC:L2[m]?=F dt:=by
   have h9:=(Xj L2).1;have h10:=VW;rw[<-hD,hDl]at h9;rw[h9,abE]at h10;split at h10
   ·exact h10
   cases h10
  have dd1:w3.cell? ⟨g2,m,Z⟩=F (A cl dt):=JC.d.cell UC;rw[hw3]at dd1;obtain⟨jF,WK⟩:=xq (dt+1)
  have Wh:IntKind.u64.wrap ((dt:Int)+1)=(jF:Int):=by rw[aaA];omega
  rw[<-WK]at CF
  have aia:1<=jF:=by omega
  have aib:jF<=4294967296:=by omega
  have oA:=zq hw3;have CE:=zq hg3;clear UC h2 ok2 l2 v2 b2 hg2 cO uj hD hDv ZW DK hBf hDl VW zw hg3 hw3 hb3 h3 JC TS VX hne nU WK afW afX;go_wp2_with fail;refine RN.o.mono ?_;rintro e w2' ⟨rfl,rfl⟩;go_wp2_with fail;rw[<-oA.o,<-CE.o];obtain⟨wS,rfl⟩:=xq wr;clear fA dd1;go_loopw [11] (fun sv wx=> ∃k:Nat,sv=A G ((k:Int)-1)/\k<=n-m/\OB wS g1 g2 g3 n m L2 (ak.val a*f) Dv k wx) (fun sv _=>(intOf sv+1).toNat)
  case atStart=>exact⟨n-m,by congr 1;have:=HM.o;omega,aab _,OU⟩
  clear OU
  case round=>
   obtain⟨k,rfl,hk,hdo⟩:=hrel
   cases k with
   |zero=>
    obtain⟨R,Q,hB,hA,br,-⟩:=hdo;have eL:=zq hB;have FA:=zq hA;have sF:=zq br;clear hB hA br;go_wp2_with fail;obtain⟨wT,rfl⟩:=xq wr;go_loopw [15,16] (fun rv iv wx=>DvR wS g1 g2 g3 n m L2 R Q f rv iv wx) (fun _ iv _=>(intOf iv+1).toNat)
    case atStart=>exact⟨n+1,0,R,rfl,by congr 1<;>omega,aab _,by omega,eL,rfl,by rw[aaC (by rw[eL.o.rl];exact aab _)];rfl⟩
    case round=>
     obtain⟨k,p,M,rfl,rfl,hk2,hp,oD,bF,Od⟩:=hrel
     cases k with
     |zero=>
      have ix:=oD.rdQ (by omega);have hr1:=oD.rdR (by omega);have l7:=Wg (F ⟨g3,0,Z⟩) (n-m) Q wr (by rw[oD.ql];exact ix.weak);have hr2:=Wg (F ⟨g1,0,Z⟩) (n+1) M wr (by rw[oD.rl];exact hr1.weak);have ym:ee wr (U (F ⟨g3,0,Z⟩) (strip Q).length (n-m)) (strip Q):=ee.strip (by rw[oD.ql];exact ix.weak);have hr3:ee wr (U (F ⟨g1,0,Z⟩) (strip M).length (n+1)) (strip M):=ee.strip (by rw[oD.rl];exact hr1.weak);rw[oD.ql]at l7;rw[oD.rl]at hr2;have cQ:=zq l7;have dW:=zq hr2
      have aq:Qz1 a b wS (co (de #[U (F ⟨g3,0,Z⟩) (strip Q).length (n-m),U (F ⟨g1,0,Z⟩) (strip M).length (n+1)])) wr:=by
       rw[aa4,aa4]at Od;have h1:=sF.o;rw[aen,abZ,OT.o]at h1;have h2:=FA.o;rw[OT.o]at h2;obtain⟨h3,h4⟩:=Qbk h2 h1 Od hp;refine⟨_,_,strip Q,strip M,rfl,ym,hr3,?_,?_,oD.fK⟩
       ·rw[h3];exact HD.of oD.qok
       rw[h4];exact HD.of oD.yy
      have aQ:=zq aq;clear ix hr1 l7 hr2 ym hr3 aq oD bF Od;go_wp2_with fail;refine cQ.o.mono ?_;rintro e w5 ⟨rfl,rfl⟩;go_wp2_with fail;refine dW.o.mono ?_;rintro e w6 ⟨rfl,rfl⟩;go_wp2_with fail;go_ret2
      exact aQ
     |succ k=>
      obtain⟨z,hz⟩:∃z,M[k]?=F z:=⟨_,aad (by rw[oD.rl];omega)⟩;have c1:=oD.r.cell hz;have q1:=oD.r.frozen k;have hzb:z<4294967296:=oD.yy z (aai hz);obtain⟨s1,s2,s3⟩:=DvR.step oD hk2 hp zN bF eL.o.rl Od hz bV HGW;obtain⟨t,ht⟩:=xq (p*4294967296+z);rw[<-ht]at s1 s2 s3;obtain⟨d1,nR⟩:=xq (t / f);obtain⟨d2,kj⟩:=xq (t % f);rw[<-nR,<-kj]at s3;rw[<-nR]at s2;have ie:=zq s3
      have W0:IntKind.u64.wrap ((p:Int)*4294967296)=(p:Int)*4294967296:=by rw[aaA];omega
      have W1:IntKind.u64.wrap ((p:Int)*4294967296+(z:Int))=(t:Int):=by rw[aaA];omega
      have E0:(t:Int) / (f:Int)=(d1:Int):=by rw[nR,ad4]
      have E1:(t:Int) % (f:Int)=(d2:Int):=by rw[kj,Int.natCast_emod]
      have hf0:((f:Int)==0)=false:=by simp;omega
      have yf:(0:Int)<=((k+1:Nat):Int)-1:=by omega
      have wG:(((k+1:Nat):Int)-1).toNat=k:=by omega
      have mZ:((k+1:Nat):Int)-1<(n:Int)+1:=by omega
      have hj3:((k+1:Nat):Int)-1<((n+1:Nat):Int):=by omega
      have hfz: ¬(f:Int)=0:=by omega
      have ah1:d2<4294967296:=by rw[kj];exact ab1 (abL _ (by omega)) zN
      clear hz ht nR kj s3 oD bF Od;go_wp2_with fail
      try rw[E1]
      have aq:=ie.o
      exact⟨aq,by simp[intOf]<;>omega⟩
   |succ s=>
    have eW:s<n-m:=by omega
    have PE:=zq (hdo.inner eW);rw[show ((s+1:Nat):Int)-1=(s:Int) by omega]
    have hs0:(0:Int)<=(s:Int):=by omega
    clear hdo;go_wp2_with fail;obtain⟨wT,rfl⟩:=xq wr;go_loopw [12] (fun _ wx=>OA wS g1 g2 g3 n m L2 (ak.val a*f) Dv s wx) (fun _ wx=>qZ wx g1)
    case atStart=>exact PE.o
    clear PE
    case round=>
     obtain⟨R,Q,y,hB,hA,hy,hlt,h0⟩:=hrel;have ei:=HM.o;obtain⟨r1,hr1⟩:∃r1,R[s+m]?=F r1:=⟨_,aad (by rw[hB.rl];omega)⟩;obtain⟨r2,hr2⟩:∃r2,R[s+m+1]?=F r2:=⟨_,aad (by rw[hB.rl];omega)⟩;have c1:=hB.r.cell hr1;have c2:=hB.r.cell hr2;rw[show s+m+1=s+lb by omega]at c2;have aiK:r1<4294967296:=hB.yy r1 (aai hr1);have KS:r2<4294967296:=hB.yy r2 (aai hr2)
     have sU:ak.val R<Dv*ak.BB^(s+1):=by omega
     have im:=ak.sN hr1 hr2;obtain⟨t,ht⟩:=xq (r1+r2*4294967296);rw[show r1+r2*ak.BB=t from ht.symm]at im;obtain⟨nq,KE⟩:=xq (t / jF)
     have agI:nq<4294967296:=by rw[KE];exact aeb (ak.zK sU im CF)
     have W0:IntKind.u64.wrap ((r2:Int)*4294967296)=(r2:Int)*4294967296:=by rw[aaA];omega
     have W1:IntKind.u64.wrap ((r1:Int)+(r2:Int)*4294967296)=(t:Int):=by rw[aaA];omega
     have E0:(t:Int) / (jF:Int)=(nq:Int):=by rw[KE,ad4]
     have hh0:((jF:Int)==0)=false:=by simp;omega
     have hhz: ¬(jF:Int)=0:=by omega
     have yf:(0:Int)<=(s:Int)+(lb:Int)-1:=by omega
     have wG:((s:Int)+(lb:Int)-1).toNat=s+m:=by omega
     have mZ:(s:Int)+(lb:Int)-1<(n:Int)+1:=by omega
     have hj3:(s:Int)+(lb:Int)<(n:Int)+1:=by omega
     have hj4:(0:Int)<=(s:Int)+(lb:Int):=by omega
     have hj5:((s:Int)+(lb:Int)).toNat=s+lb:=by omega
     have hj6:(0:Int)<=(s:Int):=by omega
     have hj7:(s:Int)<((n-m:Nat):Int):=by omega
     have rT:t<18446744073709551616:=by omega
     have eL:=zq hB;have FA:=zq hA;have Io:=zq hy;have kU:=zq hlt;have uQ:=zq h0;have tJ:=zq im;have CL:=zq KE;have adB:=zq sU;have KV:=hB.rdD (D:=D) (by omega) z6 (by rw[LL2.o,ei]) HDE.o.symm (by rw[lS.o,ei]);rw[show m+1=lb by omega,show m+2=lb+1 by omega]at KV;have GR:=zq KV;have adA:=zq (hB.rdR (by omega));clear hB hA hy hlt h0 hr1 hr2 im ht KE sU KV ei;by_cases lZ:nq=0
     ·have ix:((nq:Int)==0)=true:=by simp;exact lZ
      clear lZ;go_wp2_with fail;refine(Qgo s adA.o.weak GR.o.weak eL.o.yy OKD (by have:=HM.o;rw[lS.o,eL.o.rl];omega) ?_ (by rw[eL.o.rl];omega)).mono ?_
      ·have h5:=adB.o
       have h6:=ak.aN OKD;rw[mL.o,lS.o]at h6;rw[lS.o,show s+lb+1=lb+(s+1) by omega,abM];exact aal h5 (aaS _ (aa1 h6))
      rintro e w5 ⟨rfl,b5⟩;rw[mL.o];have cS:=zq (eL.o.below b5);have adz:=zq (GR.o.below b5);by_cases hg:Dv<=ak.val R / ak.BB^s
      ·have Lb:=Hk 1 s cS.o.r adz.o.weak (fun e=>bV.o.1 (aav e).symm) eL.o.yy OKD (by omega) (by rw[eL.o.rl];omega) (by rw[eL.o.rl];omega) (by rw[lS.o];omega) (by rw[mL.o];exact ak.pU rfl hg)
       rw[eL.o.rl]at Lb;have HTO:=zq Lb;rw[aa7 hg];clear hg Lb b5 c1 c2;go_wp2_with fail;refine HTO.o.mono ?_;rintro e w6 hp;obtain⟨p1,p2,⟨M,p3,p4⟩,p5⟩:=cS.o.step FA Io kU uQ bV HGW hp mL;obtain rfl:=hp.1;have c3:=p5.cell Io;have q3:=p5.frozen s
       have W2:IntKind.u64.wrap ((y:Int)+1)=((y+1:Nat):Int):=by rw[aaA];omega
       have kG:qZ (w6.setCell ⟨g3,s,Z⟩ (A cl ((y+1:Nat):Int))) g1<qZ wr g1:=by rw[Nj p3,Nj eL.o.r];have h7:1<=Dv*ak.BB^s:=ack UA (abC ak.aC);omega
       have nG:=zq kG;have mO:=zq p2;clear p2 p3 p4 p5 hp kG;go_wp2_with fail;have aq:=mO.o;have kG:=nG.o;exact⟨aq,kG⟩
      have gi:=zq (OA.outer cS FA uQ hg);rw[aaQ hg];clear hg b5 c1 c2;go_wp2_with fail;have aq:=gi.o
      exact⟨⟨s,by go_num,by omega,aq⟩,by simp[intOf]<;>omega⟩
     have ix:((nq:Int)==0)=false:=by simp;exact lZ
     have agH:1<=nq:=by omega
     have Lb:=Hk nq s eL.o.r GR.o.weak (fun e=>bV.o.1 (aav e).symm) eL.o.yy OKD agI (by rw[eL.o.rl];omega) (by rw[eL.o.rl];omega) (by rw[lS.o];omega) (by rw[mL.o];exact ak.rf tJ CF (by rw[CL.o];exact aab _));rw[eL.o.rl]at Lb;have HTO:=zq Lb;clear lZ Lb;go_wp2_with fail;refine HTO.o.mono ?_;rintro e w6 hp;obtain⟨p1,p2,⟨M,p3,p4⟩,p5⟩:=eL.o.step FA Io kU uQ bV HGW hp mL;obtain rfl:=hp.1;have c3:=p5.cell Io;have q3:=p5.frozen s
     have W2:IntKind.u64.wrap ((y:Int)+(nq:Int))=((y+nq:Nat):Int):=by rw[aaA];omega
     have kG:qZ (w6.setCell ⟨g3,s,Z⟩ (A cl ((y+nq:Nat):Int))) g1<qZ wr g1:=by rw[Nj p3,Nj eL.o.r];have h7:1<=Dv*ak.BB^s:=ack UA (abC ak.aC);have h8:1<=nq*(Dv*ak.BB^s):=ack agH h7;omega
     have nG:=zq kG;have mO:=zq p2;clear p2 p3 p4 p5 hp kG c1 c2;go_wp2_with fail;have aq:=mO.o;have kG:=nG.o;exact⟨aq,kG⟩
open ar
def Yw (r c:Int)(n:Nat):Prop:=(0<=r/\r<=64)/\(0<=c/\c<=64)/\(n:Int)=r*c
theorem Yw.nat {r c:Int}(h:Yw r c n):∃a b:Nat,r=(a:Int)/\c=(b:Int)/\a<=64/\b<=64/\n=a*b:=by
 obtain⟨⟨H,I⟩,⟨J,K⟩,E⟩:=h;refine⟨r.toNat,c.toNat,by omega,by omega,by omega,by omega,?_⟩
 have e1:r=(r.toNat:Int):=by omega
 have e2:c=(c.toNat:Int):=by omega
 rw[e1,e2,<-abH]at E;exact Int.ofNat.inj E
instance (r c:Int) (n:Nat):Decidable (Yw r c n):=by unfold Yw;infer_instance
def Ul (n:Int):Bool:=decide (0<=n/\n<=64)
theorem Uc (n:Int):da ce 119 #[A G n] w fun e w'=>e=co (.bool (Ul n))/\w=w':=by
 by_cases h1:0<=n
 ·have h2:Ul n=decide (n<=64):=by simp[Ul,h1]
  have H2:=zq h2;clear h2;go_enter eS,ef;go_wp2_with fail;go_ret;exact⟨by rw[H2.o];rfl,rfl⟩
 have h2:Ul n=false:=by simp[Ul];omega
 have H2:=zq h2;clear h2;go_enter eS,ef;go_wp2_with fail;go_ret;exact⟨by rw[H2.o];rfl,rfl⟩
theorem Fh (r c:Int)(n cap:Nat)(ao:Option Addr)(hn:n<=1073741824)(h: ¬Yw r c n):da ce 64 #[.agg #[A G r,A G c,U ao n cap]] w fun e w'=>e=co (A G 1)/\c9 w.heap.size w w':=by
 have HA:=zq (Qq w (O #[A G r,A G c,U ao n cap] 47));by_cases h1:0<=r/\r<=64
 ·have D1:=zq (show Ul r=true by simp[Ul];exact h1)
  by_cases h2:0<=c/\c<=64
  ·have D2:=zq (show Ul c=true by simp[Ul];exact h2)
   have hp: ¬(n:Int)=r*c:=fun e=>h ⟨h1,h2,e⟩
   have EL:0<=r*c/\r*c<=4096:=by obtain⟨h3,h4⟩:=h1;obtain⟨h5,h6⟩:=h2;exact⟨Int.mul_nonneg h3 h5,Int.le_trans (Int.mul_le_mul h4 h6 h5 (by omega)) (by omega)⟩
   obtain⟨p,KJ⟩:=xq (r*c);have NW:r*c=p:=KJ.symm;rw[<-KJ]at hp EL;obtain⟨mG,jW⟩:=EL
   have hne:((n:Int) !=p)=true:=by simp;exact hp
   clear h h1 h2 hp KJ;go_enter dl,dk;go_wp2_with fail;refine(Uc r).mono ?_;rintro e w1 ⟨rfl,rfl⟩;rw[D1.o];go_wp2_with fail;refine(Uc c).mono ?_;rintro e w1 ⟨rfl,rfl⟩;rw[D2.o];go_wp2_with fail;go_ret;exact⟨rfl,HA⟩
  have D2:=zq (show Ul c=false by simp[Ul];omega);clear h h1 h2;go_enter dl,dk;go_wp2_with fail;refine(Uc r).mono ?_;rintro e w1 ⟨rfl,rfl⟩;rw[D1.o];go_wp2_with fail;refine(Uc c).mono ?_;rintro e w1 ⟨rfl,rfl⟩;rw[D2.o];go_wp2_with fail;go_ret;exact⟨rfl,HA⟩
 have D1:=zq (show Ul r=false by simp[Ul];omega);clear h h1;go_enter dl,dk;go_wp2_with fail;refine(Uc r).mono ?_;rintro e w1 ⟨rfl,rfl⟩;rw[D1.o];go_wp2_with fail;go_ret;exact⟨rfl,HA⟩
def Qwd (r c:Int)(l:List (Bool×Nat))(w:ca)(e:dj)(w':ca):Prop:=
 (if Yw r c l.length then e=co (de #[.string ⟨(Yf r.toNat c.toNat (Xg l)).toArray⟩,A G 0]) else e=co (de #[.string ⟨#[]⟩,A G 1]))/\c9 w.heap.size w w'
theorem Bl (r c:Int){l:List (Bool×Nat)}(hs:SG w)(hv:DD w v l)(hn:l.length<=1073741824):da ce 30 #[.agg #[A G r,A G c,v]] w (Qwd r c l w):=by
 by_cases h:Yw r c l.length
 ·obtain⟨a,b,rfl,rfl,ha,hb,hab⟩:=h.nat
  refine(Qmk a b hs hv ha hb hab).mono ?_;rintro e w1 ⟨he,hb1⟩;refine⟨?_,hb1⟩;rw[if_pos h];exact he
 obtain⟨ao,cap,rfl,h1,h2,h3⟩:=hv;obtain⟨n,bu⟩:=xq l.length;rw[<-bu]at h hn ⊢;have HA:=zq (Qq w (O #[A G r,A G c,U ao n cap] 47));have H:=zq h;have bw:=zq bu;clear hs h1 h2 h3 bu h;go_enter func30,ntmps30;go_wp2_with fail;refine(Fh r c n cap ao hn H).mono ?_;rintro e w1 ⟨rfl,hb1⟩;have aK:=zq (HA.o.trans (hb1.mono HA.o.size));clear hb1;go_wp2_with fail;go_ret2;refine⟨?_,aK⟩;rw[<-bw.o,if_neg H.o];rfl
open Go.ChangeShapes Go.WideShapes Go.ChangeAt
theorem own:ownKnob Tryz.prog.godebug=Z:=by kernel_rfl
theorem Quj:Kids ce (· <Tryz.prog.types.size):=kids_rows (by kernel_rfl) (by kernel_rfl)
theorem Qux:∀t e,t<Tryz.prog.types.size->Tryz.prog.underlying t=F (.slice e)->0<Tryz.prog.cellsOf e:=slices_full_of ce (by kernel_rfl)
theorem Qgr: Tryz.prog.globalNamed "trellis/radix.signs" = F 4 := by kernel_rfl
theorem Qds:(Tryz.prog.globals[4]?).map (·.type)=F 258:=by kernel_rfl
theorem Qde:Tryz.prog.underlying 258=F (.array 36 5):=by kernel_rfl
theorem uU8:Tryz.prog.underlying 5=F (.int .u8):=by kernel_rfl
theorem cU8:Tryz.prog.cellsOf 5=1:=by kernel_rfl
theorem Qc7:Tryz.prog.cellsOf 258=36:=by kernel_rfl
def Qhk:List Int:=[48,49,50,51,52,53,54,55,56,57,97,98,99,100,101,102,103,104,105,106,107,108,109,110,111,112,113,114,115,116,117,118,119,120,121,122]
def Qcg : List (String × DataW Unit) := [("trellis/radix.signs", Rows.laid_trellis_radix_signs)]
theorem Bu (h:w.ShapedOpen ce):Lx w:=
 Go.Proofs.cell_of_shapedOpen_int (zero:= #[A G 0]) (t:=3) h (of_decide_eq_true (by kernel_rfl)) (by kernel_rfl) rfl (by kernel_rfl) (by kernel_rfl) (by kernel_rfl)
theorem Qvf (h:laidMetH ce Qcg w):SG w/\4<w.heap.size:=by
 rw[adK _ _ _ (by kernel_rfl)]at h
 have J : Lib.TabIs ce w "trellis/radix.signs" .u8 Qhk := Lib.tabIs_of_head (zs := Qhk) Qgr Qds Qde uU8 cU8 Qc7 h
 have E:SG w:=by
  intro d I;have H:=World.var?_cell Qgr J d;rw[H]
  match d,I with
  |0,_=>rfl
  |1,_=>rfl
  |2,_=>rfl
  |3,_=>rfl
  |4,_=>rfl
  |5,_=>rfl
  |6,_=>rfl
  |7,_=>rfl
  |8,_=>rfl
  |9,_=>rfl
 exact⟨E,aaY w _ (E 0 (by omega))⟩
theorem aeZ {H:Type}{l:List (DataW H)}(hk:Rows.uptoSmall H l=true):Rows.uptoBulkAll l<=1048576:=of_decide_eq_true hk
def Fy : List (String × DataW Unit) := [("math/bits.deBruijn32tab", Rows.laid_math_bits_deBruijn32tab), ("math/bits.deBruijn64tab", Rows.laid_math_bits_deBruijn64tab), ("internal/strconv.uint64pow10", Rows.laid_internal_strconv_uint64pow10), ("trellis/radix.signs", Rows.laid_trellis_radix_signs)]
theorem Qzq (h:laidMetH ce Fy w):SG w/\4<w.heap.size:=by
 rw[adK _ _ _ (by kernel_rfl)]at h
 have E:laidMetH ce Qcg w:=by rw[adK _ _ _ (by kernel_rfl)];exact h.tail.tail.tail
 exact Qvf E
def Qdm:DataW Unit->db
 | .lit (.int k z)=> A k z
 |_=>undef
def Qh3:DataW Unit->Array db
 | .agg l=>(l.map Qdm).toArray
 |_=> #[]
def Ho (d:DataW Unit):Obj->Obj
 | O _ t frozen=> O (Qh3 d) t frozen
 |o=>o
noncomputable def Tq (os:Os):ca:=
 {World.holding ce os ⟨#[],#[],[]⟩ with heap:=((((World.holding ce os ⟨#[],#[],[]⟩).heap.modify 4 (Ho Rows.laid_trellis_radix_signs)).modify 0 (Ho Rows.laid_internal_strconv_uint64pow10)).modify 3 (Ho Rows.laid_math_bits_deBruijn64tab)).modify 2 (Ho Rows.laid_math_bits_deBruijn32tab)}
theorem Qyx (os:Os){args:Array db}:laidMetH ce Fy ((Tq os).forCall (fun _ _=>0) ⟨#[],args,[]⟩).memory:=by rw[adK _ _ _ (by kernel_rfl)];exact laidMet_of_run' 8 (by kernel_rfl) (by kernel_rfl)
end Go.Proofs.YtgfmiladfeoldaaGreatDoor
