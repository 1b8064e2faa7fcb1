import Derived.Test.YtgfmiladfeoldaaGreatDoorPk1
import Derived.Shelf.Spec.BitsCarry
import Derived.StillTailTactics
import Derived.Deep.RegionHeld3
set_option linter.unusedSimpArgs false
set_option linter.unusedVariables false
set_option maxRecDepth 100000
set_option maxHeartbeats 16000000
open Go.Proofs.Tryz
open Option renaming some->F,none->Z
open Go.Value renaming int->A,slice->U,tuple->de
open Go.IntKind renaming u64->ca,i64->G
open Go.Proofs.Tryz renaming prog->ce,ntmps253->dj,func253->dk,underlying59->dl,ntmps213->ef,func213->eg,ntmps171->ex,ntmps271->eS,ntmps252->fa,func171->fb,func271->ff,func252->fi
open Go renaming World->cl,Calls->da,Value->dq,Ending->du
open Go.RowKit renaming Hid->co,Below->c9
open Go.Obj renaming cells->O
open Go.Ending renaming returned->db
namespace Go.Proofs.YtgfmiladfeoldaaGreatDoor
open Go.RowKit aw
variable {an B L M ds xs ys:List Nat} {ao:Option Addr} {c c' cap g i m n s x y z:Nat} {e:du} {u v:dq} {w w' w0:cl}
theorem X9 (n:Nat)(hn:n<=1099511627776):∀w:cl,(Instr.makeSlice 59 (A G (n:Int)) (A G (n:Int))).run ce w=.ok (U (F ⟨w.heap.size,0,Z⟩) n n) (w.alloc (O (madeCells #[A ca 0] n) 101)):=by
 obtain⟨i0,K,E,H,I⟩:=aa0 Tryz.r5;intro w
 have J:(i0.bytes:Int)*(n:Int)<=281474976710656:=by rw[I];omega
 have h:=run_make (P:=ce) w 59 101 i0 (A ca 0) dl K E G G n n (by omega) (Int.le_refl _) J (by omega);simp only[acT]at h;rw[h,H,abZ];rfl
theorem Qq (w:cl)(o:Obj):c9 w.heap.size w (w.alloc o):=(aaw _ _).alloc (aab _) o
def Co (xs:List Nat)(w:cl)(e:du)(w':cl):Prop:=e=db (U (F ⟨w.heap.size,0,Z⟩) xs.length xs.length)/\bh w' w.heap.size xs/\c9 w.heap.size w w'
theorem Qk7 (hr:Rd w v xs)(hl:xs.length<=1099511627776):da ce 217 #[v] w (Co (strip xs) w):=by
 have HR:=zq hr;obtain⟨ao,cap,rfl,bU,hcm,bm,aS⟩:=hr.2;have eW:=Qf xs;have HT:=zq (Xj xs).1;have bS:=zq (bJ bm);have ju:=zq aS;have fA:=X9 (strip xs).length (by omega);clear aS hcm bm;go_enter func217,ntmps217;go_wp2_with fail;refine(X8 HR).mono ?_;rintro e w' ⟨rfl,rfl⟩;generalize XQ:(strip xs).length=n at*;have HN:=zq XQ;clear XQ;have HB:=zq (bh.made w n).1;have aL:=zq (Qq w (O (madeCells #[A ca 0] n) 101))
 have fT:(ws (strip xs)).length=n:=by rw[Ze,HN.o]
 have lQ:=zq fT;have wL:Nat.min xs.length n=n:=Nat.min_eq_right (by omega);have GD:=zq wL;clear fT wL
 have iN:co (0<(ws (strip xs)).length-> ∃ad,ao=F ad/\ ∀(j:Nat) (v:dq),(ws (strip xs))[j]?=F v->(w.alloc (O (madeCells #[A ca 0] n) 101)).cell? (ad.add j)=F v):=by
  intro h0;rw[lQ.o]at h0;obtain⟨g,o,rfl,_⟩:=ju.o 0 xs[0] (aad (by omega));refine⟨_,rfl,fun j u hu=> ?_⟩;simp only[ws,aa9,abD]at hu;obtain⟨x,hx,rfl⟩:=hu;rw[HT.o,abE]at hx;split at hx
  ·obtain⟨g',o',e,hc⟩:=ju.o j x hx
   cases e
   have hlt:=aaY w _ hc
   have e2:(⟨g,o,Z⟩:Addr).add j=⟨g,o+j,Z⟩:=by unfold Addr.add;split<;>simp_all
   rw[e2,aL.o.cell (p:=⟨g,o+j,Z⟩) hlt];exact hc
  cases hx
 have uP:co (0+(ws (strip xs)).length<=(ws (List.replicate n 0)).length):=by show _<=_;rw[lQ.o,Ze,aaZ];omega
 go_wp2_with ((with_reducible refine wpList_copy_splice (o:=⟨F 11,_,_,_,_,_⟩) rfl (.tmp 9) (.tmp 10) 59 59 rfl 101 dl Tryz.qW (F ⟨w.heap.size,0,Z⟩) ao n n xs.length cap rfl rfl w.heap.size 0 (ws (List.replicate n 0)) 101 HB.o (ws (strip xs)) (by rw[lQ.o,GD.o]) (fun h=>⟨rfl,iN.o h⟩) uP.o (Qv3) w.heap.size w aL.o (aab _) ?_);intro w2 hg2 hb2)
 have HF:co (bh w2 w.heap.size (strip xs)):=by refine⟨?_,bS⟩;have h1:=hg2.o;rw[h1];congr 2;simp only[splice,aek,abv,aaX];rw[lQ.o,aaC (by rw[Ze,aaZ];omega),abt]
 have aI:=zq hb2;clear hg2 hb2;go_wp2_with fail;go_ret;exact⟨by rw[HN.o];rfl,HF,aI⟩
theorem Qje (hl:xs.length<=1099511627776)(h:Co xs w e w'):Hc xs w e w':=by
 obtain⟨rfl,E,H⟩:=h;refine⟨_,rfl,⟨?_,fun k hk=> ?_⟩,H⟩
 ·have:=E.rd (o:=0) (n:=xs.length) (c:=xs.length) (by omega) (aab _) (by unfold maxLen;omega)
  rw[aa4,aam (aab _)]at this;exact this
 cases hk;exact⟨aab _,E.lt⟩
theorem Qb5 (hr:Rd w v xs)(hl:xs.length<=1099511627776):da ce 217 #[v] w (Hc (strip xs) w):=
 (Qk7 hr hl).mono fun _ _ h=>Qje (by have:=Qf xs;omega) h
theorem J9 (hr:Rd w v xs)(hl:xs.length<=1099511627776):da ce 171 #[v] w (Co (strip xs) w):=by have HR:=zq hr;clear hr;go_enter fb,ex;go_wp2_with fail;refine(Qk7 HR hl).mono ?_;rintro e w' ⟨rfl,hf,hb⟩;have HF:=zq hf;have HB:=zq hb;clear hf hb;go_wp2_with fail;go_ret;exact⟨rfl,HF,HB⟩
theorem Y6 (xs:List Nat)(hr:Rd w v xs)(hl:xs.length<=1099511627776):da ce 171 #[v] w (Hc (strip xs) w):=by have HR:=zq hr;clear hr;go_enter fb,ex;go_wp2_with fail;refine(Qb5 HR hl).mono ?_;rintro e w' ⟨v',rfl,hf,hb⟩;have HF:=zq hf;have HB:=zq hb;clear hf hb;go_wp2_with fail;go_ret;exact⟨_,rfl,HF,HB⟩
theorem Zk (x y c:Nat)(hx:x<BB)(hy:y<BB)(hc:c<=1):∃s c':Nat,s<BB/\c'<=1/\s+BB*c'=x+y+c/\∀w:cl,(callFunc 286 #[A ca x,A ca y,A ca c]).run ce w=.ok (.value (de #[A ca s,A ca c'])) w:=by
 unfold BB at*;refine⟨(x+y+c) % 18446744073709551616,(x+y+c) / 18446744073709551616,by omega,by omega,by omega,fun w=> ?_⟩;rw[run_callFunc_extern func286 (by kernel_rfl) (by kernel_rfl) (by kernel_rfl) (e:=add64Entry) (by kernel_rfl),run_add64 x y c (by omega) (by omega) (by omega) (by omega)];simp only[Result.andThen]
 congr 5<;>omega
theorem Nu (x y c:Nat)(hx:x<BB)(hy:y<BB)(hc:c<=1):∃s c':Nat,s<BB/\c'<=1/\s+y+c=x+BB*c'/\∀w:cl,(callFunc 290 #[A ca x,A ca y,A ca c]).run ce w=.ok (.value (de #[A ca s,A ca c'])) w:=by
 unfold BB at*
 refine⟨(x+18446744073709551616-y-c) % 18446744073709551616,(if x<y+c then 1 else 0),by omega,by split<;>omega,by split<;>omega,fun w=> ?_⟩
 rw[run_callFunc_extern func290 (by kernel_rfl) (by kernel_rfl) (by kernel_rfl) (e:=sub64Entry) (by kernel_rfl),run_sub64 x y c hc];rfl
def Je (L ys:List Nat)(o i c:Nat)(M:List Nat):Prop:=
 M.length=L.length/\M.take o=L.take o/\M.drop (o+i)=L.drop (o+i)/\val ((M.drop o).take i)+BB^i*c=val ((L.drop o).take i)+val (ys.take i)
theorem Je.start (L ys:List Nat)(o:Nat):Je L ys o 0 0 L:=⟨rfl,rfl,rfl,by simp[val]⟩
theorem Je.at {o:Nat}(h:Je L ys o i c M)(hz:M[o+i]?=F z):L[o+i]?=F z:=by have E:=aaE (fun l=>l[0]?) h.2.2.1;simp only[abg,aba]at E;rw[<-E];exact hz
theorem Je.step {o:Nat}(h:Je L ys o i c M)(hz:M[o+i]?=F z)(hy:(ys[i]?=F y)\/(ys.length<=i/\y=0))(hs:s+BB*c'=z+y+c):Je L ys o (i+1) c' (M.set (o+i) s):=by
 have E:=h.at hz;obtain⟨J,K,bi,T⟩:=h;have I:o+i<M.length:=(aaf.1 hz).1;refine⟨by rw[abb,J],by rw[Jq _ (by omega),K],?_,?_⟩
 ·rw[show o+(i+1)=o+i+1 from by omega,Js]
  have:=aaE (List.drop 1) bi;rw[abB,abB]at this;exact this
 rw[Rx _ I];have aE:o+i<L.length:=(aaf.1 E).1
 have e1:(L.drop o).take (i+1)=(L.drop o).take i++[z]:=by rw[aaI,abg,E];rfl
 have e2:val (ys.take (i+1))=val (ys.take i)+BB^i*y:=by
  rcases hy with hy|⟨hy,rfl⟩
  ·have H:i<ys.length:=(aaf.1 hy).1
   rw[Xt H]
   have:ys[i]=y:=by rw[aad H]at hy;exact aav hy
   rw[this]
  rw[aam (by omega),aam (by omega)];simp
 rw[e1,e2,aY,aY,aak,aak,aan,aan,aaG (by omega),aaG (by omega),abf];exact Dp T hs
def Qv5 (L ys:List Nat)(o:Nat)(M:List Nat):Prop:=M.length=L.length/\M.take o=L.take o/\ ∃c,val (M.drop o)+BB^(L.length-o)*c=val (L.drop o)+val ys
theorem Je.ld {o:Nat}(h:Je L ys o i c M)(hi:o+i=L.length)(hy:ys.length<=i):Qv5 L ys o M:=by obtain⟨H,I,J,E⟩:=h;refine⟨H,I,c,?_⟩;rw[aam (by rw[aan];omega),aam (by rw[aan];omega),aam hy]at E;rw[show L.length-o=i from by omega];exact E
theorem Je.jz {o:Nat}(h:Je L ys o i 0 M)(hi:o+i<=L.length)(hy:ys.length<=i):Qv5 L ys o M:=by obtain⟨H,I,J,E⟩:=h;refine⟨H,I,0,?_⟩;rw[aam hy]at E;have e1:=aH (M.drop o) i (by rw[aan];omega);have e2:=aH (L.drop o) i (by rw[aan];omega);rw[abB]at e1 e2;rw[e1,e2,J];simp only[abI,aba]at E ⊢;omega
def Qhs (L ys:List Nat)(g o:Nat)(w:cl)(e:du)(w':cl):Prop:=e=db (de #[])/\ ∃M,bh w' g M/\Qv5 L ys o M/\w.grownBy w' (F g)
theorem Qi (h:w0.grownBy w (F g))(h2:w.grownBy w' (F g)):w0.grownBy w' (F g):=
 ⟨h2.os.trans h.os,h2.tape.trans h.tape,h2.output.trans h.output,aar h.size h2.size,fun k hk hn=>(h2.block k (aal hk h.size) hn).trans (h.block k hk hn)⟩
theorem Xy (w:cl)(row:Option Nat):w.grownBy w row:=⟨rfl,rfl,rfl,aab _,fun _ _ _=>rfl⟩
theorem Jp (w:cl)(n:Nat)(row:Option Nat):w.grownBy (w.drewN n) row:=⟨rfl,rfl,rfl,aab _,fun _ _ _=>rfl⟩
theorem Uy (g o n c:Nat)(L:List Nat)(hL:bh w g L)(hn:o+n=L.length)(bU:n<=c)(hc:c<=1099511627776)(hv:Rd w v ys)(l9:v.ownBlock≠F g)(hy:ys.length<=n):da ce 275 #[U (F ⟨g,o,Z⟩) n c,v] w (Qhs L ys g o w):=by
 have HV:=zq hv;obtain⟨ao,cap,rfl,-,hcm,bm,aS⟩:=hv.2;have HB:=zq hL;have bS:=zq bm
 have fV:o+n<=L.length:=by omega
 have fp:=zq hn;clear hL bm aS hcm hn;go_enter func275,ntmps275;go_wp2_with fail;go_loopw [4,9] (fun cv i wr=> ∃(k cc:Nat) (M:List Nat),k<=ys.length/\i=A G k/\cv=A ca cc/\cc<=1/\bh wr g M/\Je L ys o k cc M/\w.grownBy wr (F g)) (fun _ i _=>ys.length-(intOf i).toNat)
 case atStart=>exact⟨0,0,L,aat _,rfl,rfl,aat _,HB,Je.start L ys o,Xy w _⟩
 case round=>
  obtain⟨k,cc,M,hk,rfl,rfl,hcc,hM,hst,hgr⟩:=hrel;have HM:=zq hM;have HST:=zq hst;have bD:=zq hgr;have cR:M.length=L.length:=hst.1;clear hM hst hgr;by_cases hlt:k<ys.length
  ·obtain⟨y,rW⟩:∃y,ys[k]?=F y:=⟨_,aad hlt⟩
   obtain⟨z,hz⟩:∃z,M[o+k]?=F z:=⟨_,aad (by omega)⟩;obtain⟨s,c',hs1,hs2,hs3,hrun⟩:=Zk z y cc (HM.o.2 z (aai hz)) (bS.o y (aai rW)) hcc;obtain⟨ao',cap',e,-,-,-,aS⟩:=(HV.o.kept bD (fun q hq=>by cases hq;exact l9)).2
   cases e
   obtain⟨g2,o2,rfl,e2⟩:=aS k y rW;have e1:=HM.o.cell hz;have e3:=HM.o.frozen (o+k);have HN:=zq (HST.o.step hz (.inl rW) hs3);have HS:=zq (bh.set (w:=wr.drewN 1) HM (o+k) hs1);have dR:(0:Int)<=(k:Int):=aaJ _
   have cB:(k:Int)<(n:Int):=by omega
   have gF:(k:Int)<(ys.length:Int):=by omega
   clear rW hz aS hs3;go_wp2_with fail;go_region_law (fail)
   all_goals
    go_wp2_with fail
    have aq:∃(k' cc':Nat) (M':List Nat),k'<=ys.length/\Value.int G ((k:Int)+1)=A G k'/\Value.int ca c'=A ca cc'/\cc'<=1/\bh ((wr.drewN 1).setCell ⟨g,o+k,Z⟩ (A ca s)) g M'/\Je L ys o k' cc' M'/\w.grownBy ((wr.drewN 1).setCell ⟨g,o+k,Z⟩ (A ca s)) (F g):=
     ⟨k+1,c',M.set (o+k) s,by omega,by go_num,rfl,hs2,HS.o.1,HN,Qi (Qi bD (Jp wr 1 _)) HS.o.2⟩
    exact⟨aq,by simp[intOf];omega⟩
  obtain rfl:k=ys.length:=by omega
  have hyn:=hy;clear hlt hk hy;go_wp2_with fail;go_loopw [4,6] (fun cv i wr=> ∃(k cc:Nat) (M:List Nat),ys.length<=k/\k<=n/\i=A G k/\cv=A ca cc/\cc<=1/\bh wr g M/\Je L ys o k cc M/\w.grownBy wr (F g)) (fun _ i _=>n-(intOf i).toNat)
  case atStart=>exact⟨ys.length,cc,M,aab _,hyn,rfl,rfl,hcc,HM,HST,bD⟩
  clear HM HST bD cR hcc
  case round=>
   obtain⟨k,cc,M,hyk,hk,rfl,rfl,hcc,hM,hst,hgr⟩:=hrel;have HM:=zq hM;have HST:=zq hst;have bD:=zq hgr;have cR:M.length=L.length:=hst.1;clear hM hst hgr;by_cases hc0:cc=0
   ·subst hc0
    have HD:=zq (HST.o.jz (by omega) hyk);go_wp2_with fail;go_end0;exact⟨rfl,M,HM,HD,bD⟩
   have hcb:((cc:Int) !=0)=true:=by simp;omega
   by_cases hlt:k<n
   ·obtain⟨z,hz⟩:∃z,M[o+k]?=F z:=⟨_,aad (by omega)⟩
    obtain⟨s,c',hs1,hs2,hs3,hrun⟩:=Zk z 0 cc (HM.o.2 z (aai hz)) aC hcc;have eI:∀w:cl,(callFunc 286 #[A ca z,A ca 0,A ca cc]).run ce w=.ok (.value (de #[A ca s,A ca c'])) w:=hrun;have e1:=HM.o.cell hz;have e3:=HM.o.frozen (o+k);have HN:=zq (HST.o.step (y:=0) hz (.inr ⟨hyk,rfl⟩) hs3);have HS:=zq (HM.o.set (o+k) hs1);have dR:(0:Int)<=(k:Int):=aaJ _
    have cB:(k:Int)<(n:Int):=by omega
    clear hz hs3 hrun;go_wp2_with fail
    have aq:∃(k' cc':Nat) (M':List Nat),ys.length<=k'/\k'<=n/\Value.int G ((k:Int)+1)=A G k'/\Value.int ca c'=A ca cc'/\cc'<=1/\bh (wr.setCell ⟨g,o+k,Z⟩ (A ca s)) g M'/\Je L ys o k' cc' M'/\w.grownBy (wr.setCell ⟨g,o+k,Z⟩ (A ca s)) (F g):=
     ⟨k+1,c',M.set (o+k) s,by omega,by omega,by go_num,rfl,hs2,HS.o.1,HN,Qi bD HS.o.2⟩
    exact⟨aq,by simp[intOf];omega⟩
   have HD:=zq (HST.o.ld (by have:=fp.o;omega) hyk);go_wp2_with fail;go_end0;exact⟨rfl,M,HM,HD,bD⟩
def Wa (L ys:List Nat)(i c:Nat)(M:List Nat):Prop:=
 M.length=L.length/\M.drop i=L.drop i/\val (M.take i)+val (ys.take i)=val (L.take i)+BB^i*c
theorem Wa.start (L ys:List Nat):Wa L ys 0 0 L:=⟨rfl,rfl,by simp[val]⟩
theorem Qwr {P X Y am:Nat}(h:am+Y=X+P*c)(hs:s+y+c=x+BB*c'):(am+P*s)+(Y+P*y)=(X+P*x)+P*BB*c':=by
 have E:P*s+P*y+P*c=P*x+P*(BB*c'):=by rw[<-aay,<-aay,hs,aay]
 rw[aaM];omega
theorem Wa.step (h:Wa L ys i c M)(hz:M[i]?=F z)(hy:(ys[i]?=F y)\/(ys.length<=i/\y=0))(hs:s+y+c=z+BB*c'):Wa L ys (i+1) c' (M.set i s):=by
 obtain⟨bi,J,T⟩:=h;have am:i<M.length:=(aaf.1 hz).1
 have H:L[i]?=F z:=by have K:=aaE (fun l=>l[0]?) J;simp only[abg,aba]at K;rw[<-K];exact hz
 have aE:i<L.length:=(aaf.1 H).1;refine⟨by rw[abb,bi],?_,?_⟩
 ·rw[Js]
  have:=aaE (List.drop 1) J;rw[abB,abB]at this;exact this
 have E:=Rx (l:=M) (o:=0) (i:=i) s (by omega);rw[aa4,aa4,aaX]at E;rw[E]
 have e1:L.take (i+1)=L.take i++[z]:=by rw[aaI,H];rfl
 have e2:val (ys.take (i+1))=val (ys.take i)+BB^i*y:=by
  rcases hy with hy|⟨hy,rfl⟩
  ·have I:i<ys.length:=(aaf.1 hy).1
   rw[Xt I]
   have:ys[i]=y:=by rw[aad I]at hy;exact aav hy
   rw[this]
  rw[aam (by omega),aam (by omega)];simp
 rw[e1,e2,aY,aY,aak,aak,aaG (by omega),aaG (by omega),abf];exact Qwr T hs
theorem Wa.jz (h:Wa L ys i 0 M)(hi:i<=L.length)(hy:ys.length<=i):M.length=L.length/\val M+val ys=val L:=by obtain⟨H,I,E⟩:=h;refine⟨H,?_⟩;rw[aam hy]at E;have e1:=aH M i (by omega);have e2:=aH L i hi;rw[e1,e2,I];simp only[abI,aba]at E;omega
theorem Wa.ld (h:Wa L ys L.length c M)(hM:ok M)(hy:ys.length<=L.length)(hle:val ys<=val L):M.length=L.length/\val M+val ys=val L:=by
 obtain⟨H,J,E⟩:=h;refine⟨H,?_⟩;rw[aam hy,aam (by omega),aby]at E;have I:=aN hM;rw[H]at I
 cases c with
 |zero=>simpa using E
 |succ c=>rw[Nat.mul_succ]at E;omega
def Qh1 (L ys:List Nat)(g:Nat)(w:cl)(e:du)(w':cl):Prop:=e=db (de #[])/\ ∃M,bh w' g M/\M.length=L.length/\val M+val ys=val L/\w.grownBy w' (F g)
theorem Hv (n c:Nat)(hL:bh w g L)(hn:n=L.length)(bU:n<=c)(hc:c<=1099511627776)(hv:Rd w v ys)(l9:v.ownBlock≠F g)(hy:ys.length<=n)(hle:val ys<=val L):da ce 289 #[U (F ⟨g,0,Z⟩) n c,v] w (Qh1 L ys g w):=by
 have HV:=zq hv;obtain⟨ao,cap,rfl,-,hcm,bm,aS⟩:=hv.2;have HB:=zq hL;have bS:=zq bm;have PH:=zq hle
 have fV:n<=L.length:=by omega
 have fp:=zq hn;clear hL bm aS hcm hn hle;go_enter func289,ntmps289;go_wp2_with fail;go_loopw [4,9] (fun cv i wr=> ∃(k cc:Nat) (M:List Nat),k<=n/\i=A G k/\cv=A ca cc/\cc<=1/\bh wr g M/\Wa L ys k cc M/\w.grownBy wr (F g)) (fun _ i _=>n-(intOf i).toNat)
 case atStart=>exact⟨0,0,L,aat _,rfl,rfl,aat _,HB,Wa.start L ys,Xy w _⟩
 case round=>
  obtain⟨k,cc,M,hk,rfl,rfl,hcc,hM,hst,hgr⟩:=hrel;have HM:=zq hM;have HST:=zq hst;have bD:=zq hgr;have cR:M.length=L.length:=hst.1;clear hM hst hgr;by_cases hlt:k<n
  ·obtain⟨z,hz⟩:∃z,M[k]?=F z:=⟨_,aad (by omega)⟩
   have e1:=HM.o.cell hz;have e3:=HM.o.frozen k;have dR:(0:Int)<=(k:Int):=aaJ _
   have cB:(k:Int)<(n:Int):=by omega
   by_cases hky:k<ys.length
   ·obtain⟨y,rW⟩:∃y,ys[k]?=F y:=⟨_,aad hky⟩
    obtain⟨s,c',hs1,hs2,hs3,hrun⟩:=Nu z y cc (HM.o.2 z (aai hz)) (bS.o y (aai rW)) hcc;obtain⟨ao',cap',e,-,-,-,aS⟩:=(HV.o.kept bD (fun q hq=>by cases hq;exact l9)).2
    cases e
    obtain⟨g2,o2,rfl,e2⟩:=aS k y rW;have HN:=zq (HST.o.step hz (.inl rW) hs3);have HS:=zq (HM.o.set k hs1);clear rW hz aS hs3;go_wp2_with fail
    have aq:∃(k' cc':Nat) (M':List Nat),k'<=n/\Value.int G ((k:Int)+1)=A G k'/\Value.int ca c'=A ca cc'/\cc'<=1/\bh (wr.setCell ⟨g,k,Z⟩ (A ca s)) g M'/\Wa L ys k' cc' M'/\w.grownBy (wr.setCell ⟨g,k,Z⟩ (A ca s)) (F g):=
     ⟨k+1,c',M.set k s,by omega,by go_num,rfl,hs2,HS.o.1,HN,Qi bD HS.o.2⟩
    exact⟨aq,by simp[intOf];omega⟩
   by_cases hc0:cc=0
   ·subst hc0
    have HD:=zq (HST.o.jz (by omega) (by omega));clear hz;go_wp2_with fail;refine aaD (ab5 rfl _ _ _) rfl ?_;exact⟨rfl,M,HM,HD.o.1,HD.o.2,bD⟩
   have hcb:((cc:Int)==0)=false:=by simp;omega
   obtain⟨s,c',hs1,hs2,hs3,hrun⟩:=Nu z 0 cc (HM.o.2 z (aai hz)) aC hcc;have eI:∀w:cl,(callFunc 290 #[A ca z,A ca 0,A ca cc]).run ce w=.ok (.value (de #[A ca s,A ca c'])) w:=hrun;have HN:=zq (HST.o.step (y:=0) hz (.inr ⟨by omega,rfl⟩) hs3);have HS:=zq (HM.o.set k hs1);clear hz hs3 hrun;go_wp2_with fail
   have aq:∃(k' cc':Nat) (M':List Nat),k'<=n/\Value.int G ((k:Int)+1)=A G k'/\Value.int ca c'=A ca cc'/\cc'<=1/\bh (wr.setCell ⟨g,k,Z⟩ (A ca s)) g M'/\Wa L ys k' cc' M'/\w.grownBy (wr.setCell ⟨g,k,Z⟩ (A ca s)) (F g):=
    ⟨k+1,c',M.set k s,by omega,by go_num,rfl,hs2,HS.o.1,HN,Qi bD HS.o.2⟩
   exact⟨aq,by simp[intOf];omega⟩
  obtain rfl:k=n:=by omega
  have HD:co (M.length=L.length/\val M+val ys=val L):=Wa.ld (by rw[<-fp.o];exact HST.o) HM.o.2 (by omega) PH;go_wp2_with fail;go_end0;exact⟨rfl,M,HM,HD.o.1,HD.o.2,bD⟩
def Qha (hi lo:Nat)(w:cl)(e:du)(w':cl):Prop:=e=db (de #[A ca hi,A ca lo])/\w=w'
theorem Nz (x y:Nat)(hx:x<BB)(hy:y<BB):∃hi lo:Nat,lo<BB/\hi*BB+lo=x*y/\ ∀w:cl,da ce 287 #[A ca x,A ca y] w (Qha hi lo w):=by unfold BB at*;refine⟨x*y / 18446744073709551616,x*y % 18446744073709551616,by omega,by omega,fun w=> ?_⟩;refine(bits_Mul64 x y hx hy w).mono fun e w' ⟨h1,h2⟩=>⟨h1,h2.symm⟩
def Qkv (xs ys:List Nat)(g:Nat)(w:cl)(e:du)(w':cl):Prop:=e=db (de #[])/\ ∃M,bh w' g M/\M.length=xs.length+ys.length/\val M=val xs*val ys/\w.grownBy w' (F g)
theorem Qx7 (n:Nat)(hL:bh w g (List.replicate n 0))(hn:n=xs.length+ys.length)(hc:n<=1099511627776)
  (hv:Rd w v xs) (l9:v.ownBlock≠F g) (hu:Rd w u ys) (hub:u.ownBlock≠F g):
  da ce 274 #[U (F ⟨g,0,Z⟩) n n,v,u] w (Qkv xs ys g w):=by
 have HV:=zq hv;have HU:=zq hu;obtain⟨ao,cap,rfl,-,-,bm,-⟩:=hv.2;obtain⟨bo,bn,rfl,-,-,dc,-⟩:=hu.2;have bS:=zq bm;have eY:=zq dc;have dS:=zq (Wo.start xs ys);rw[<-hn]at dS;have HB:=zq hL
 have fV:xs.length+ys.length<=n:=by omega
 have agk:n<=xs.length+ys.length:=by omega
 clear hL bm dc hn;go_enter func274,ntmps274;go_wp2_with fail;go_loopw [16] (fun i wr=> ∃(k:Nat) (M:List Nat),k<=xs.length/\i=A G k/\bh wr g M/\Wo xs ys k M/\w.grownBy wr (F g)) (fun i _=>xs.length-(intOf i).toNat)
 case atStart=>exact⟨0,_,aat _,rfl,HB,dS,Xy w _⟩
 clear dS
 case round=>
  obtain⟨k,M,hk,rfl,hM,hst,hgr⟩:=hrel;have HM:=zq hM;have HST:=zq hst;have bD:=zq hgr;have cR:M.length=xs.length+ys.length:=hst.1;clear hM hst hgr;by_cases hlt:k<xs.length
  ·obtain⟨x,hx⟩:∃x,xs[k]?=F x:=⟨_,aad hlt⟩
   have fY:=bS.o x (aai hx);obtain⟨ao',cap',e,-,-,-,aS⟩:=(HV.o.kept bD (fun q hq=>by cases hq;exact l9)).2
   cases e
   obtain⟨g2,o2,rfl,e2⟩:=aS k x hx;have HX:=zq hx;have vz:=zq fY;clear aS hx fY;by_cases hx0:x=0
   ·subst hx0
    have HN:=zq (HST.o.zero HX);go_wp2_with fail;have aq:∃(k':Nat) (M':List Nat),k'<=xs.length/\Value.int G ((k:Int)+1)=A G k'/\bh wr g M'/\Wo xs ys k' M'/\w.grownBy wr (F g):=⟨k+1,M,by omega,by go_num,HM,HN,bD⟩;exact⟨aq,by simp[intOf];omega⟩
   have hxn:((x:Int)==0)=false:=by simp[hx0]
   clear hx0;go_wp2_with fail;go_loopw [8,25] (fun cv j w2=> ∃(q cc:Nat) (M':List Nat),q<=ys.length/\j=A G q/\cv=A ca cc/\co (cc<BB)/\bh w2 g M'/\oQ M ys k x q cc M'/\w.grownBy w2 (F g)) (fun _ j _=>ys.length-(intOf j).toNat)
   case atStart=>exact⟨0,0,M,aat _,rfl,rfl,aC,HM,oQ.start M ys k x,bD⟩
   clear HM bD e2
   case round=>
    rename_i w2 _;obtain⟨q,cc,M',hq,rfl,rfl,hcc,hM,hst,hgr⟩:=hrel;have HM:=zq hM;have PE:=zq hst;have bD:=zq hgr;have ait:M'.length=M.length:=hst.1;clear hM hst hgr;by_cases hqt:q<ys.length
    ·obtain⟨y,hy⟩:∃y,ys[q]?=F y:=⟨_,aad hqt⟩
     obtain⟨z,hz⟩:∃z,M'[k+q]?=F z:=⟨_,aad (by omega)⟩;have rV:=eY.o y (aai hy);have hzb:=HM.o.2 z (aai hz);obtain⟨hi,lo,fW,hp,hmul⟩:=Nz x y vz rV;obtain⟨s1,c1,hs1,hc1,h1,hr1⟩:=Zk lo cc 0 fW hcc (aat _);obtain⟨h2,WI⟩:=xq (hi+c1);obtain⟨s2,c2,hs2,hc2,h4,hr2⟩:=Zk z s1 0 hzb hs1 (aat _);obtain⟨c3,hc3⟩:=xq (h2+c2);rw[aba]at h1 h4;obtain⟨f1,f2,f3⟩:=Qpq vz rV hzb hcc hp h1 WI h4;rw[<-hc3]at f2 f3;have HN:=zq (PE.o.step hz hy f2);have rp:=zq f3;have HS:=zq (HM.o.set (k+q) hs2);obtain⟨SQ,ahW,e,-,-,-,aS⟩:=(HU.o.kept bD (fun q hq=>by cases hq;exact hub)).2
     cases e
     obtain⟨g3,o3,rfl,e2⟩:=aS q y hy;have e1:=HM.o.cell hz;have e3:=HM.o.frozen (k+q);have fZ:=zq hmul;have hr1':∀w:cl,(callFunc 286 #[A ca lo,A ca cc,A ca 0]).run ce w=.ok (.value (de #[A ca s1,A ca c1])) w:=hr1;have hr2':∀w:cl,(callFunc 286 #[A ca z,A ca s1,A ca 0]).run ce w=.ok (.value (de #[A ca s2,A ca c2])) w:=hr2
     have bA:IntKind.u64.wrap ((hi:Int)+(c1:Int))=(h2:Int):=by unfold BB at f1;rw[aaA];omega
     have hw2:IntKind.u64.wrap ((h2:Int)+(c2:Int))=(c3:Int):=by unfold BB at f3;rw[aaA];omega
     have jl:=zq bA;have eE:=zq hw2;clear aS hy hz rV hzb hmul hp h1 h4 WI hc3 f1 f2 f3 fW hs1 hs2 hr1 hr2 bA hw2;go_wp2_with fail;refine(fZ.o _).mono ?_;rintro e w' ⟨rfl,rfl⟩;have bA:=jl.o;have hw2:=eE.o;go_wp2_with fail;exact⟨⟨q+1,c3,M'.set (k+q) s2,by omega,by go_num,rfl,rp,HS.o.1,HN,Qi bD HS.o.2⟩,by simp[intOf];omega⟩
    obtain rfl:q=ys.length:=by omega
    obtain⟨jq,fQ⟩:=HST.o.row HX PE;have HN:=zq jq;have HS:=zq (HM.o.set (k+ys.length) hcc);have e1:=HM.o.cell fQ;have e3:=HM.o.frozen (k+ys.length);clear jq fQ hcc;go_wp2_with fail;have aq:∃(k':Nat) (M2:List Nat),k'<=xs.length/\Value.int G ((k:Int)+1)=A G k'/\bh (wr.setCell ⟨g,k+ys.length,Z⟩ (A ca cc)) g M2/\Wo xs ys k' M2/\w.grownBy (wr.setCell ⟨g,k+ys.length,Z⟩ (A ca cc)) (F g):=⟨k+1,_,by omega,by go_num,HS.o.1,HN,Qi bD HS.o.2⟩;exact⟨aq,by simp[intOf];omega⟩
  obtain rfl:k=xs.length:=by omega
  have HD:=zq HST.o.done;go_wp2_with fail;go_end0;exact⟨rfl,M,HM,HD.o.1,HD.o.2,bD⟩
theorem Qgj (w:cl)(o:Obj)(aS:∀i x,xs[i]?=F x-> ∃g o,ao=F ⟨g,o,Z⟩/\w.cell? ⟨g,o+i,Z⟩=F (A ca (x:Nat)))(h0:0<xs.length):∃ad,ao=F ad/\ ∀(j:Nat) (v:dq),(ws xs)[j]?=F v->(w.alloc o).cell? (ad.add j)=F v:=by
 obtain⟨g,of,rfl,_⟩:=aS 0 xs[0] (aad h0);refine⟨_,rfl,fun j u hu=> ?_⟩;simp only[ws,aa9,abD]at hu;obtain⟨x,H,rfl⟩:=hu;obtain⟨g',o',e,h⟩:=aS j x H
 cases e
 have E:=aaY w _ h
 have e2:(⟨g,of,Z⟩:Addr).add j=⟨g,of+j,Z⟩:=by unfold Addr.add;split<;>simp_all
 rw[e2,(Qq w o).cell (p:=⟨g,of+j,Z⟩) E];exact h
theorem Qfa (hx:ok xs)(hy:ok ys)(h1:xs.length<=m)(h2:ys.length<=m):∀M,ok M->Qv5 (xs++List.replicate (m+1-xs.length) 0) ys 0 M->M.length=m+1/\val M=val xs+val ys:=by
 intro M E ⟨a1,_,c,a3⟩
 have h:(xs++List.replicate (m+1-xs.length) 0).length=m+1:=by rw[aag,aaZ];omega
 rw[aa4,aa4,h,Y4,bE,abI,aba]at a3;refine⟨by rw[a1,h],?_⟩;have b1:=aN hx;have b2:=aN hy;exact(Sz a3 (Qph (aal b1 (aa6 aC h1)) (aal b2 (aa6 aC h2)))).2
def Qh2 (xs ys:List Nat)(w:cl)(e:du)(w':cl):Prop:=∃g M,e=db (U (F ⟨g,0,Z⟩) M.length M.length)/\w.heap.size<=g/\bh w' g M/\M.length=max xs.length ys.length+1/\val M=val xs+val ys/\c9 w.heap.size w w'
theorem Qwk (hv:Rd w v xs)(hu:Rd w u ys)(hx:xs.length<=549755813888)(hy:ys.length<=549755813888):da ce 288 #[v,u] w (Qh2 xs ys w):=by
 have HV:=zq hv;have HU:=zq hu;obtain⟨ao,cap,rfl,-,-,bm,aS⟩:=hv.2;obtain⟨bo,bn,rfl,-,-,dc,-⟩:=hu.2;have bS:=zq bm;have ju:=zq aS;obtain⟨m,hm⟩:=xq (max xs.length ys.length)
 have cD:xs.length<=m:=by omega
 have gX:ys.length<=m:=by omega
 have pA:m<=549755813888:=by omega
 have fA:∀w:cl,(Instr.makeSlice 59 (A G ((m:Int)+1)) (A G ((m:Int)+1))).run ce w=.ok (U (F ⟨w.heap.size,0,Z⟩) (m+1) (m+1)) (w.alloc (O (madeCells #[A ca 0] (m+1)) 101)):=X9 (m+1) (by omega)
 have hmx:max (xs.length:Int) (ys.length:Int)=(m:Int):=by omega
 have HM:=zq hm;have HB:=zq (bh.made w (m+1)).1;have aL:=zq (Qq w (O (madeCells #[A ca 0] (m+1)) 101));have lQ:=zq (Ze xs);have GD:co (Nat.min xs.length (m+1)=xs.length):=aaG (by omega);have iN:=zq (Qgj w (O (madeCells #[A ca 0] (m+1)) 101) ju)
 have uP:co (0+(ws xs).length<=(ws (List.replicate (m+1) 0)).length):=by show _<=_;rw[Ze,Ze,aaZ];omega
 have aQ:=zq (Qfa (m:=m) bm dc cD gX);clear bm dc aS hm;go_enter func288,ntmps288;go_wp2_with ((with_reducible refine wpList_copy_splice (o:=⟨F 15,_,_,_,_,_⟩) rfl (.tmp 13) (.tmp 14) 59 59 rfl 101 dl Tryz.qW (F ⟨w.heap.size,0,Z⟩) ao (m+1) (m+1) xs.length cap rfl rfl w.heap.size 0 (ws (List.replicate (m+1) 0)) 101 HB.o (ws xs) (by rw[lQ.o,GD.o]) (fun h=>⟨rfl,iN.o (by rw[<-lQ.o];exact h)⟩) uP.o (Qv3) w.heap.size w aL.o (aab _) ?_);intro w2 hg2 hb2)
 have HF:co (bh w2 w.heap.size (xs++List.replicate (m+1-xs.length) 0)):=by refine⟨?_,D6 bS (dm _)⟩;have h1:=hg2.o;rw[h1];congr 2;simp only[splice,aek,abv,aaX];rw[lQ.o];simp[ws]
 have aI:=zq hb2;have RT:=zq (HU.o.below hb2);have zH:=HU.o.ne (aab w.heap.size);clear hg2 hb2;go_wp2_with fail;refine(Uy w.heap.size 0 (m+1) (m+1) (xs++List.replicate (m+1-xs.length) 0) HF (by rw[aag,aaZ];omega) (aab _) (by omega) RT zH (by omega)).mono ?_;rintro e w3 ⟨rfl,M,hM,UT,hgr⟩;obtain⟨hl,hval⟩:=aQ.o M hM.2 UT;have uU:=zq hM;have HL:=zq hl;have vr:=zq hval;have aV:co (c9 w.heap.size w w3):=aaF aI hgr aI.o.size (fun k hk=>by cases hk;exact aab _);clear hM UT hgr hl hval;go_wp2_with fail;go_ret
 exact⟨w.heap.size,M,by rw[HL.o]<;>rfl,aab _,uU,by rw[HL.o,HM.o],vr,aV⟩
theorem Rd.drop {o len:Nat}(h:Rd w (U (F ⟨g,o,Z⟩) len cap) xs)(hn:n<=xs.length):Rd w (U (F ⟨g,o+n,Z⟩) (xs.length-n) (cap-n)) (xs.drop n):=by
 obtain⟨E,ao',cap',e,K,bi,H,I⟩:=h;simp only[Value.slice.injEq]at e;obtain⟨rfl,rfl,rfl⟩:=e;refine⟨fun k hk=>E k hk,_,_,by rw[aan],by rw[aan];omega,by omega,di H _,fun i x hx=>⟨g,o+n,rfl,?_⟩⟩;rw[abg]at hx;obtain⟨g',o',e,J⟩:=I (n+i) x hx
 cases e
 rw[abz];exact J
theorem Rd.none' {o:Nat}(hg:g<w.heap.size)(hc:c<=maxLen):Rd w (U (F ⟨g,o,Z⟩) 0 c) []:=
 ⟨fun k hk=>by cases hk;exact hg,_,c,rfl,aat _,hc,fE,fun i x h=>by simp at h⟩
theorem Rd.ok (h:Rd w v xs):ok xs:=by obtain⟨_,_,_,_,_,_,E,_⟩:=h;exact E
theorem Vp {k:Nat}(h:w0.grownBy w (F g))(hg:w.grownBy w' (F k))(hk:k=g\/w0.heap.size<=k):w0.grownBy w' (F g):=by
 refine⟨hg.os.trans h.os,hg.tape.trans h.tape,hg.output.trans h.output,aar h.size hg.size,fun q hq hn=>(hg.block q (aal hq h.size) ?_).trans (h.block q hq hn)⟩;rcases hk with rfl|hk
 ·exact hn
 intro e;cases e;omega
theorem Pi (h:w0.grownBy w (F g))(hb:c9 w.heap.size w w'):w0.grownBy w' (F g):=
 ⟨hb.os.trans h.os,hb.tape.trans h.tape,hb.output.trans h.output,aar h.size hb.size,fun q hq hn=>(hb.block q (aal hq h.size)).trans (h.block q hq hn)⟩
def Pp (xs ys:List Nat)(w:cl)(e:du)(w':cl):Prop:=∃g M,e=db (U (F ⟨g,0,Z⟩) M.length M.length)/\w.heap.size<=g/\bh w' g M/\M.length=(strip xs).length+(strip ys).length/\val M=val xs*val ys/\c9 w.heap.size w w'
def N6 (n:Nat):Prop:=∀(xs ys:List Nat) (v u:dq) (w:cl),xs.length+ys.length<n->Rd w v xs->Rd w u ys->da ce 253 #[v,u] w (Pp xs ys w)
theorem bh.whole (h:bh w g L)(hc:L.length<=1099511627776):Rd w (U (F ⟨g,0,Z⟩) L.length L.length) L:=by have:=h.rd (o:=0) (n:=L.length) (c:=L.length) (by omega) (aab _) (by unfold maxLen;omega);rw[aa4,aby]at this;exact this
theorem Yz (w:cl)(n:Nat):c9 w.heap.size w (w.drewN n):=⟨rfl,rfl,rfl,aab _,fun _ _=>rfl⟩
theorem Hf {P:Program}{ops:Array Oper}{rest:List Oper}{o:Oper}{a:Act}{Q:Exit->Act->cl->Prop}(hgd:o.guard=Z)(d s:Operand)(dT sT:TypeId)
  (ho:o.op=.call {callee:=.builtin .copy,args:= #[d,s],argTypes:= #[dT,sT]}) (hu:P.underlying dT=F (.slice 101)) (hsz:(P.info? 101).map (·.size)=F 1)
  (g n c BU:Nat) (sp:Option Addr) (L cs:List Nat) (hd:a.eval d=U (F ⟨g,0,Z⟩) n c) (hs:a.eval s=U sp cs.length BU) (hB:bh w g L) (hR:Rd w (U sp cs.length BU) cs) (hn:cs.length<=n) (hnL:n<=L.length)
  (h:∀w',co (bh w' g (cs++L.drop cs.length))->co (w.grownBy w' (F g))->wpList P ops Q rest (a.put o.dst (goInt cs.length)) w'):wpList P ops Q (o::rest) a w:=by
 by_cases h0:cs.length=0
 ·obtain rfl:cs=[]:=aau h0
  refine wpList_copy_nothing hgd d s dT sT ho 101 hu hsz (F ⟨g,0,Z⟩) sp n c 0 BU hd hs (aaG (aat _)) ?_;exact h w (show bh _ _ _ by simpa using hB) (Xy w _)
 obtain⟨_,ao',cap',e,T,aE,J,E⟩:=hR;simp only[Value.slice.injEq]at e;obtain⟨rfl,-,rfl⟩:=e;obtain⟨gs,os,rfl,_⟩:=E 0 cs[0] (aad (by omega))
 have I:bh (w.setRow g ((ws L).toArray.toList.take 0++(ws cs++(ws L).toArray.toList.drop (0+(ws cs).length))).toArray) g (cs++L.drop cs.length):=by refine⟨?_,D6 J (di hB.2 _)⟩;rw[aec w g _ _ 101 _ hB.1];simp[ws]
 refine wpList_copy_own hgd d s dT sT ho 101 hu hsz g 0 n c ⟨gs,os,Z⟩ cs.length BU hd hs (ws L).toArray 101 hB.1 (ws cs) (by rw[Ze];exact(aaG hn).symm) ?_ (by simp[ws];omega) (Qv3) ?_
 ·intro j v H
  simp only[ws,aa9,abD]at H;obtain⟨x,bi,rfl⟩:=H;obtain⟨g',o',e,K⟩:=E j x bi
  cases e
  have e2:(⟨gs,os,Z⟩:Addr).add j=⟨gs,os+j,Z⟩:=by unfold Addr.add;split<;>simp_all
  rw[e2];exact K
 rw[Ze];rw[Ze]at I;refine h _ I ?_;exact⟨rfl,rfl,rfl,by simp[World.setRow],fun k _ hk=>setRow_other w g k _ (fun e=>hk (by rw[e]))⟩
theorem X1 (xs:List Nat)(hr:Rd w (U ao n cap) xs):da ce 273 #[U ao n cap] w fun e w'=>e=db (U ao (strip xs).length (strip xs).length)/\w=w':=by have h:=hr;obtain⟨_,ao',cap',e,-⟩:=h;simp only[Value.slice.injEq]at e;obtain⟨rfl,rfl,rfl⟩:=e;exact Ml hr
theorem Sg (hr:Rd w (U ao n cap) xs):Rd w (U ao (strip xs).length (strip xs).length) (strip xs):=by have h:=hr;obtain⟨_,ao',cap',e,-⟩:=h;simp only[Value.slice.injEq]at e;obtain⟨rfl,rfl,rfl⟩:=e;exact Ac hr
theorem Fq (ga oa gb ob hf:Nat)(IH:N6 (xs.length+ys.length))(hL:bh w g (List.replicate (xs.length+ys.length) 0))(hN:xs.length+ys.length<=274877906944)
  (ha:Rd w (U (F ⟨ga,oa,Z⟩) xs.length xs.length) xs) (hb:Rd w (U (F ⟨gb,ob,Z⟩) ys.length ys.length) ys) (mX:ga≠g) (hgb:gb≠g) (hh:hf=(xs.length+1) / 2) (hxy:ys.length<=xs.length) (h24:24<=ys.length) (h2:xs.length<2*ys.length):
  da ce 276 #[U (F ⟨g,0,Z⟩) (xs.length+ys.length) (xs.length+ys.length),U (F ⟨ga,oa,Z⟩) xs.length xs.length,U (F ⟨gb,ob,Z⟩) ys.length ys.length] w (Qkv xs ys g w):=by
 have hx1:hf<xs.length:=by omega
 have tz:hf<=ys.length:=by omega
 have HH:=zq (Half.mk ha.ok hb.ok (by omega) tz);have HI:=zq IH;have HZ:=zq hL;have yC:=zq (ha.take (n:=hf) (c:=hf) (by omega) (aab _) (by omega));have mm:=zq (ha.drop (n:=hf) (by omega));have bp:=zq (hb.take (n:=hf) (c:=hf) tz (aab _) tz);have afY:=hb.lt (k:=gb) rfl
 have hdiv:((xs.length:Int)+1) / 2=(hf:Int):=by omega
 have FB:=zq (hb.drop (n:=hf) (by omega));clear ha hb hL IH hh;by_cases hyh:hf<ys.length
 case' pos=>have aK:=FB;clear FB
 case' neg=>
  have mf:ys.length<=hf:=by omega
  have aK:co (Rd w (U (F ⟨gb,ob,Z⟩) 0 0) (ys.drop hf)):=by show Rd _ _ _;rw[aaC mf];exact Rd.none' afY (by unfold maxLen;omega)
  clear FB hyh
 all_goals
  go_enter func276,ntmps276;go_wp2_with fail;go_quiet (fail);go_wp2_with fail;go_quiet (fail);go_wp2_with fail;refine(HI.o _ _ _ _ _ (by rw[aak,aak];omega) (yC.o.drewN _) (bp.o.drewN _)).mono ?_;rintro e w1 ⟨g1,L1,rfl,hg1,TU,nj,kJ,DV⟩;have C1:c9 w.heap.size w w1:=(Yz w _).trans DV;have ix:w.heap.size<=g1:=hg1;have hs1:=TU.lt;have hz1:=C1.size
  have aim:L1.length<=274877906944:=by have q1:=Qf (xs.take hf);have q2:=Qf (ys.take hf);rw[aak]at q1 q2;omega
  have R1:=zq (TU.whole (by omega));have K1:=zq C1;have V1:=zq kJ;clear DV TU nj kJ C1 hg1;go_wp2_with fail;refine(Ml R1).mono ?_;rintro e w' ⟨rfl,rfl⟩;have T1:=zq (Ac R1);go_wp2_with fail;refine(HI.o _ _ _ _ _ (by rw[aan,aan];omega) (mm.o.below K1) (aK.o.below K1)).mono ?_;rintro e w2 ⟨g2,L2,rfl,hg2,lX,hl2,hv2,rI⟩;have hs2:=lX.lt;have hz2:=rI.size
  have agk:L2.length<=274877906944:=by have q1:=Qf (xs.drop hf);have q2:=Qf (ys.drop hf);rw[aan]at q1 q2;omega
  have R2:=zq (lX.whole (by omega));have K2:co (c9 w.heap.size w w2):=K1.o.trans (rI.mono hz1);have V2:=zq hv2;have T1b:=zq (T1.o.below rI);clear rI lX hl2 hv2 R1 T1;go_wp2_with fail;refine(Ml R2).mono ?_;rintro e w' ⟨rfl,rfl⟩;have T2:=zq (Ac R2);go_wp2_with fail;refine(Qwk (yC.o.below K2) (mm.o.below K2) (by rw[aak];omega) (by rw[aan];omega)).mono ?_;rintro e w3 ⟨g3,S1,rfl,hg3,oX,qO,hv3,gA⟩;rw[aak,aan]at qO;have hs3:=oX.lt;have hz3:=gA.size;have R3:=zq (oX.whole (by omega));have K3:co (c9 w.heap.size w w3):=K2.o.trans (gA.mono (by omega));have V3:=zq hv3;have T1c:=zq (T1b.o.below gA);have T2c:=zq (T2.o.below gA);have CH:=zq qO;clear gA oX hv3 R2 T2 T1b qO;go_wp2_with fail;refine(Qwk (bp.o.below K3) (aK.o.below K3) (by rw[aak];omega) (by rw[aan];omega)).mono ?_;rintro e w4 ⟨g4,S2,rfl,hg4,jB,hl4,hv4,mV⟩;rw[aak,aan]at hl4;have xe:=jB.lt;have yt:=mV.size;have R4:=zq (jB.whole (by omega));have R3d:=zq (R3.o.below mV);have K4:co (c9 w.heap.size w w4):=K3.o.trans (mV.mono (by omega));have V4:=zq hv4;have T1d:=zq (T1c.o.below mV);have T2d:=zq (T2c.o.below mV)
  have hS:S1.length+S2.length<xs.length+ys.length:=by have:=CH.o;omega
  clear mV jB hv4 R3 T1c T2c hl4;go_wp2_with fail;refine(HI.o _ _ _ _ _ hS R3d R4).mono ?_;rintro e w5 ⟨g5,L5,rfl,zR,IJ,NS,hv5,pj⟩;have hs5:=IJ.lt;have yu:=pj.size
  have ain:L5.length<=274877906944:=by have q1:=Qf S1;have q2:=Qf S2;omega
  have K5:co (c9 w.heap.size w w5):=K4.o.trans (pj.mono (by omega))
  have V5:co (val L5=(val (xs.take hf)+val (xs.drop hf))*(val (ys.take hf)+val (ys.drop hf))):=by show _=_;rw[hv5,V3.o,V4.o]
  have T1e:=zq (T1d.o.below pj);have T2e:=zq (T2d.o.below pj);have iJ:=HZ.o.lt
  have n15:g1≠g5:=by omega
  have n25:g2≠g5:=by omega
  have ZQ:g5≠g:=by omega
  have n1g:g1≠g:=by omega
  have n2g:g2≠g:=by omega
  have hq5:w.heap.size<=g5:=by omega
  have B5:=zq IJ;have HZ5:=zq (HZ.o.below K5 HZ.o.lt);clear pj IJ hv5 NS R3d R4 T1d T2d V3 V4 CH hS;obtain⟨WZ,py⟩:=Half.ahs B5.o.2 V5 V1;have PI:=zq WZ;clear WZ;go_wp2_with fail;refine(Hv L5.length L5.length B5 rfl (aab _) (by omega) T1e (by intro e;cases e;exact n15 rfl) py PI).mono ?_;rintro e w6 ⟨rfl,M1,zv,EF,Oc,sX⟩;have AV:=sX.size;have hs6:=zv.lt;have G6:co (w.grownBy w6 (F g)):=Vp (Pi (Xy w (F g)) K5) sX (.inr hq5);have T1f:=zq (T1e.o.kept sX (by intro k hk e;cases hk;cases e;exact n15 rfl));have T2f:=zq (T2e.o.kept sX (by intro k hk e;cases hk;cases e;exact n25 rfl));have HZ6:=zq (HZ5.o.kept sX (by intro e;cases e;exact ZQ rfl));have B6:=zq zv;have V6:=zq Oc;obtain⟨zW,XA⟩:=Half.aht zv.2 V5 V1 V2 Oc;have PJ:=zq zW;clear zW zv Oc sX T1e T2e HZ5 B5 K5;have FY:=zq EF
  have JP:(strip L2).length<=L5.length:=by omega
  clear EF XA;go_wp2_with fail;refine(Hv L5.length L5.length B6.o FY.o.symm (aab _) (by omega) T2f.o (by intro e;cases e;exact n25 rfl) JP PJ.o).mono ?_;rintro e w7 ⟨rfl,M2,hB7,NT,hv7,sY⟩;have hz7:=sY.size;have hs7:=hB7.lt;have G7:co (w.grownBy w7 (F g)):=Vp G6.o sY (.inr hq5);have T1g:=zq (T1f.o.kept sY (by intro k hk e;cases hk;cases e;exact n15 rfl));have T2g:=zq (T2f.o.kept sY (by intro k hk e;cases hk;cases e;exact n25 rfl));have HZ7:=zq (HZ6.o.kept sY (by intro e;cases e;exact ZQ rfl));have B7:=zq hB7;have V7:=zq (Half.mid V5.o V1.o V2.o V6.o hv7);have s9:=HH.o.r9 V1.o;have WL:=HH.o.wE V2.o;have agw:=HH.o.BL V7.o;clear hB7 hv7 sY T1f T2f HZ6 B6 G6 PI PJ V5 V6;have hzl:(List.replicate (xs.length+ys.length) 0).length=xs.length+ys.length:=aaZ;have HZL:=zq hzl;clear hzl;have HL7:co (M2.length=L5.length):=NT.trans FY.o;clear NT;go_wp2_with ((with_reducible refine Hf (o:=⟨F 55,_,_,_,_,_⟩) rfl (.tmp 53) (.tmp 54) 59 59 rfl dl Tryz.qW g (xs.length+ys.length) (xs.length+ys.length) _ _ (List.replicate (xs.length+ys.length) 0) (strip L1) rfl rfl HZ7.o T1g.o (by omega) (by rw[HZL.o];exact aab _) ?_);intro w8 hB8 wC);have T2h:=zq (T2g.o.kept wC.o (by intro k hk e;cases hk;cases e;exact n2g rfl));have B7h:=zq (B7.o.kept wC.o (by intro e;cases e;exact ZQ rfl));have G8:co (w.grownBy w8 (F g)):=Vp G7.o wC.o (.inl rfl);have hz8:=wC.o.size
  have TK:2*hf<xs.length+ys.length:=by omega
  clear wC T2g B7 G7 HZ7 HZL T1g;go_wp2_with fail;refine(Uy g (2*hf) (xs.length+ys.length-2*hf) (xs.length+ys.length-2*hf) _ hB8 (by rw[aag,aan,aaZ];omega) (aab _) (by omega) T2h (by intro e;cases e;exact n2g rfl) WL).mono ?_;rintro e w9 ⟨rfl,am,hB9,⟨hlz,htz,hcz⟩,JI⟩;obtain⟨hzl,hzv⟩:=HH.o.aeV rfl V1 V2 (by rw[List.drop_replicate]) hlz htz hcz;have B9:=zq hB9;have B7i:=zq (B7h.o.kept JI (by intro e;cases e;exact ZQ rfl));have G9:co (w.grownBy w9 (F g)):=Vp G8 JI (.inl rfl);have ZL:=zq hzl;have ZV:=zq hzv;have R5:=zq (B7i.o.whole (by have:=HL7.o;omega));have gX:M2.length=L5.length:=HL7.o;rw[gX]at R5;clear hB9 hlz htz hcz JI hzl hzv hB8 T2h B7h G8 gX;go_wp2_with fail;have T5:co (Rd w9.drew _ (strip M2)):=Sg (w:=w9.drew) (by exact R5);have dR:(0:Int)<=(hf:Int):=aaJ _
  have I4: ¬(xs.length+ys.length=hf):=by omega
  have cB:(hf:Int)<=((xs.length:Int)+(ys.length:Int)):=by omega
  go_region_held3 (fun _=>True) (trivial)
   (first
    |(go_at_call 273;refine(X1 M2 (by exact R5.o)).mono ?_;rintro e w' ⟨rfl,rfl⟩)
    |(go_at_call 275;refine(Uy g hf (xs.length+ys.length-hf) (xs.length+ys.length-hf) am (by exact B9.o) (by rw[ZL.o];omega) (aab _) (by omega) T5.o (by intro e;cases e;exact ZQ rfl) agw).mono ?_;rintro e eU ⟨rfl,M,TV,⟨zX,EO,hcm⟩,EB⟩))
  have HF:=zq (HH.o.aeW ZL ZV V7 zX EO hcm);have B10:=zq TV;have G10:co (w.grownBy eU (F g)):=Vp (Vp G9 (Jp w9 1 (F g)) (.inl rfl)) EB (.inl rfl);clear TV zX EO hcm EB;go_wp2_with fail;go_end0;exact⟨rfl,M,B10,HF.o.1,HF.o.2,G10⟩
theorem N6.mono (h:N6 n)(hm:m<=n):N6 m:=fun xs ys v u w hl hv hu=>h xs ys v u w (by omega) hv hu
theorem Rd.some' (h:Rd w (U ao n c) xs)(h0:0<xs.length):∃g o,ao=F ⟨g,o,Z⟩:=by obtain⟨_,ao',cap',e,_,_,_,E⟩:=h;simp only[Value.slice.injEq]at e;obtain⟨rfl,-,-⟩:=e;obtain⟨g,o,H,_⟩:=E 0 xs[0] (aad h0);exact⟨g,o,H⟩
theorem Wv {w1 w2:cl}(h1:M.length=an.length+B.length)(h2:val M=val an*val B)(hn:n=M.length)(he:e=db (U (F ⟨w.heap.size,0,Z⟩) n n))(hB:bh w2 w.heap.size M)(hb:c9 w.heap.size w w1)(hg:w1.grownBy w2 (F w.heap.size))
  (hAB:(an=strip xs/\B=strip ys)\/(an=strip ys/\B=strip xs)):Pp xs ys w e w2:=by
 subst hn;refine⟨_,M,he,aab _,hB,?_,?_,aaF hb hg hb.size (fun k hk=>by cases hk;exact aab _)⟩
 ·rcases hAB with ⟨rfl,rfl⟩|⟨rfl,rfl⟩
  ·exact h1
  rw[h1,Nat.add_comm]
 rcases hAB with ⟨rfl,rfl⟩|⟨rfl,rfl⟩
 ·rw[h2,ay,ay]
 rw[h2,ay,ay,aaz]
def Qkq (an B:List Nat)(g:Nat)(w1:cl)(i:dq)(wr:cl):Prop:=∃(k:Nat) (M:List Nat),i=A G k/\k<=an.length+B.length/\bh wr g M/\gQ an B (min k an.length) M/\w1.grownBy wr (F g)
theorem Qyo (IH:N6 n)(hn:n<=274877906944)(hl:xs.length+ys.length<=n)(hv:Rd w v xs)(hu:Rd w u ys):da ce 253 #[v,u] w (Pp xs ys w):=by
 have HV:=zq hv;have HU:=zq hu;obtain⟨_,ao,cap,rfl,-⟩:=hv;obtain⟨_,bo,bn,rfl,-⟩:=hu;have TA:=zq (Sg HV);have TB:=zq (Sg HU);have q1:=Qf xs;have q2:=Qf ys;have HI:=zq IH;obtain⟨X,hX⟩:=xq (strip xs);obtain⟨Y,hY⟩:=xq (strip ys);rw[<-hX]at TA q1;rw[<-hY]at TB q2;have HX:=zq hX;have HY:=zq hY;clear IH hX hY;by_cases hsw:X.length<Y.length
 ·have ID:X.length<=Y.length:=by omega
  have yD:co ((Y=strip xs/\X=strip ys)\/(Y=strip ys/\X=strip xs)):=.inr ⟨HY,HX⟩;have fA:∀w:cl,(Instr.makeSlice 59 (A G ((Y.length:Int)+(X.length:Int))) (A G ((Y.length:Int)+(X.length:Int)))).run ce w=.ok (U (F ⟨w.heap.size,0,Z⟩) (Y.length+X.length) (Y.length+X.length)) (w.alloc (O (madeCells #[A ca 0] (Y.length+X.length)) 101)):=X9 (Y.length+X.length) (by omega);have HZ:=zq (bh.made w (Y.length+X.length));have aL:=zq (Qq w (O (madeCells #[A ca 0] (Y.length+X.length)) 101));have NA:=zq (TB.o.ne (aab w.heap.size));have NB:=zq (TA.o.ne (aab w.heap.size));have RA:=zq (TB.o.below aL);have RB:=zq (TA.o.below aL);by_cases h24:X.length<24
  ·go_enter dk,dj
   go_wp2_with fail;refine(X1 xs HV).mono ?_;rintro e w' ⟨rfl,rfl⟩;rw[<-HX.o];go_wp2_with fail;refine(X1 ys HU).mono ?_;rintro e w' ⟨rfl,rfl⟩;rw[<-HY.o];go_wp2_with fail;refine(Qx7 (Y.length+X.length) HZ rfl (by omega) RA NA RB NB).mono ?_;rintro e w2 ⟨rfl,M,hM,cR,lD,hgr⟩;have HM:=zq hM;have eN:=zq cR;have lU:=zq lD;have bD:=zq hgr;clear hM cR lD hgr;go_wp2_with fail;go_ret;exact Wv eN lU eN.o.symm rfl HM aL bD yD
  obtain⟨ga,oa,hao⟩:=TB.o.some' (by omega);obtain⟨gb,ob,zH⟩:=TA.o.some' (by omega);subst hao zH;have mX:ga≠w.heap.size:=fun e=>NA.o (by rw[e];rfl);have hgb:gb≠w.heap.size:=fun e=>NB.o (by rw[e];rfl)
  have d1:decide ((X.length:Int)<24)=false:=by simp;omega
  by_cases cN:2*X.length<=Y.length
  ·have d2:decide (2*(X.length:Int)<=(Y.length:Int))=true:=by simp;omega
   go_enter dk,dj;go_wp2_with fail;refine(X1 xs HV).mono ?_;rintro e w' ⟨rfl,rfl⟩;rw[<-HX.o];go_wp2_with fail;refine(X1 ys HU).mono ?_;rintro e w' ⟨rfl,rfl⟩;rw[<-HY.o];go_wp2_with fail;generalize w.alloc (O (madeCells #[A ca 0] (Y.length+X.length)) 101)=w1 at*;go_loopw [6] (fun i wr=>Qkq Y X w.heap.size w1 i wr) (fun i _=>Y.length-(intOf i).toNat)
   case atStart=>exact⟨0,_,rfl,aat _,HZ,by rw[Nat.zero_min];exact gQ.start Y X,Xy w1 _⟩
   case round=>
    obtain⟨k,M,rfl,hk,hM,hst,hgr⟩:=hrel;have HM:=zq hM;have HST:=zq hst;have bD:=zq hgr;have pI:=hgr.size;have hwb:=aL.o.size;have nU:=hM.lt;clear hM hst hgr;by_cases hlt:k<Y.length
    ·obtain⟨e,he⟩:=xq (min (k+X.length) Y.length)
     have iK:k<=e:=by omega
     have vY:e<=Y.length:=by omega
     have px:e-k<=X.length:=by omega
     have wL:min ((k:Int)+(X.length:Int)) (Y.length:Int)=(e:Int):=by omega
     have uV:co (min (k+X.length) Y.length=e):=he.symm
     have km:gQ Y X k M:=by have:=HST.o;rw[aaG (by omega)]at this;exact this
     have eP:=zq km;have mm:=zq (((RA.o.kept bD (by intro q hq e2;cases hq;exact NA.o e2)).drop (n:=k) (by omega)).take (n:=e-k) (c:=e-k) (by rw[aan];omega) (aab _) (by omega));have aK:=zq (RB.o.kept bD (by intro q hq e2;cases hq;exact NB.o e2));have dR:(0:Int)<=(k:Int):=aaJ _
     have cB:(k:Int)<=((Y.length:Int)+(X.length:Int)):=by omega
     have gF:(k:Int)<=(e:Int):=by omega
     have oF:(e:Int)<=(Y.length:Int):=by omega
     have hc1: ¬(Y.length+X.length=k):=by omega
     have hc2: ¬(e=k):=by omega
     have fg:((Y.drop k).take (e-k)).length=e-k:=by rw[aak,aan];omega
     have lS:=zq fg;clear he km fg;go_wp2_with fail
     go_region_held3 (fun _=>True) (trivial)
      (first
       |(go_at_call 253;refine(HI.o ((Y.drop k).take (e-k)) X _ _ _ (by have:=adh (e-k) (Y.drop k);omega) (by exact mm.o) (by exact aK.o)).mono ?_;rintro e2 w3 ⟨g3,P,rfl,hg3,oX,qO,hv3,gA⟩;have rA:=zq (oX.whole (by have p1:=Qf ((Y.drop k).take (e-k));have p2:=Qf X;have p3:=adh (e-k) (Y.drop k);omega));have vr:=zq hv3;have aV:=zq gA;have n3:g3≠w.heap.size:=(ad9 (aal nU hg3)).symm;clear qO hv3 oX gA)
       |(go_at_call 273;refine(X1 P (by exact rA.o)).mono ?_;rintro e2 w' ⟨rfl,rfl⟩)
       |(go_at_call 275;refine(Uy w.heap.size k (Y.length+X.length-k) (Y.length+X.length-k) M (by exact bh.below (w:=wr.drew) HM.o aV.o nU) (by have:=eP.o.1;omega) (aab _) (by omega) (Sg rA.o) (by intro e2;cases e2;exact n3 rfl) (Cz RA.o.ok RB.o.ok vY vr.o iK)).mono ?_;rintro e2 w4 ⟨rfl,M',jB,⟨zX,EO,hcm⟩,wB⟩))
     have HN:=zq (gQ.step RA.o.ok RB.o.ok eP iK vY vr zX EO hcm);have yS:=zq jB;have O6:co (w1.grownBy w4 (F w.heap.size)):=Vp (Pi (w:=wr.drew) (Vp bD (Jp wr 1 (F w.heap.size)) (.inl rfl)) aV) wB (.inl rfl);clear jB zX EO hcm wB;go_wp2_with fail;have aq:Qkq Y X w.heap.size w1 (A G ((k:Int)+(X.length:Int))) w4:=⟨k+X.length,M',by go_num,by omega,yS,by rw[uV.o];exact HN.o,O6⟩;exact⟨aq,by simp[intOf];omega⟩
    have HD:=zq (gQ.done (xs:=Y) (ys:=X) (M:=M) (by have:=HST.o;rw[Nat.min_eq_right (by omega)]at this;exact this));go_wp2_with fail;go_ret;exact Wv HD.o.1 HD.o.2 HD.o.1.symm rfl HM aL bD yD
  go_enter dk,dj;go_wp2_with fail;refine(X1 xs HV).mono ?_;rintro e w' ⟨rfl,rfl⟩;rw[<-HX.o];go_wp2_with fail;refine(X1 ys HU).mono ?_;rintro e w' ⟨rfl,rfl⟩;rw[<-HY.o];go_wp2_with fail;refine(Fq ga oa gb ob ((Y.length+1) / 2) (HI.o.mono (by omega)) HZ (by omega) RA RB mX hgb rfl ID (by omega) (by omega)).mono ?_;rintro e w2 ⟨rfl,M,hM,cR,lD,hgr⟩;have HM:=zq hM;have eN:=zq cR;have lU:=zq lD;have bD:=zq hgr;clear hM cR lD hgr;go_wp2_with fail;go_ret;exact Wv eN lU eN.o.symm rfl HM aL bD yD
 have ID:Y.length<=X.length:=by omega
 have yD:co ((X=strip xs/\Y=strip ys)\/(X=strip ys/\Y=strip xs)):=.inl ⟨HX,HY⟩;have fA:∀w:cl,(Instr.makeSlice 59 (A G ((X.length:Int)+(Y.length:Int))) (A G ((X.length:Int)+(Y.length:Int)))).run ce w=.ok (U (F ⟨w.heap.size,0,Z⟩) (X.length+Y.length) (X.length+Y.length)) (w.alloc (O (madeCells #[A ca 0] (X.length+Y.length)) 101)):=X9 (X.length+Y.length) (by omega);have HZ:=zq (bh.made w (X.length+Y.length));have aL:=zq (Qq w (O (madeCells #[A ca 0] (X.length+Y.length)) 101));have NA:=zq (TA.o.ne (aab w.heap.size));have NB:=zq (TB.o.ne (aab w.heap.size));have RA:=zq (TA.o.below aL);have RB:=zq (TB.o.below aL);by_cases h24:Y.length<24
 ·go_enter dk,dj
  go_wp2_with fail;refine(X1 xs HV).mono ?_;rintro e w' ⟨rfl,rfl⟩;rw[<-HX.o];go_wp2_with fail;refine(X1 ys HU).mono ?_;rintro e w' ⟨rfl,rfl⟩;rw[<-HY.o];go_wp2_with fail;refine(Qx7 (X.length+Y.length) HZ rfl (by omega) RA NA RB NB).mono ?_;rintro e w2 ⟨rfl,M,hM,cR,lD,hgr⟩;have HM:=zq hM;have eN:=zq cR;have lU:=zq lD;have bD:=zq hgr;clear hM cR lD hgr;go_wp2_with fail;go_ret;exact Wv eN lU eN.o.symm rfl HM aL bD yD
 obtain⟨ga,oa,hao⟩:=TA.o.some' (by omega);obtain⟨gb,ob,zH⟩:=TB.o.some' (by omega);subst hao zH;have mX:ga≠w.heap.size:=fun e=>NA.o (by rw[e];rfl);have hgb:gb≠w.heap.size:=fun e=>NB.o (by rw[e];rfl)
 have d1:decide ((Y.length:Int)<24)=false:=by simp;omega
 by_cases cN:2*Y.length<=X.length
 ·have d2:decide (2*(Y.length:Int)<=(X.length:Int))=true:=by simp;omega
  go_enter dk,dj;go_wp2_with fail;refine(X1 xs HV).mono ?_;rintro e w' ⟨rfl,rfl⟩;rw[<-HX.o];go_wp2_with fail;refine(X1 ys HU).mono ?_;rintro e w' ⟨rfl,rfl⟩;rw[<-HY.o];go_wp2_with fail;generalize w.alloc (O (madeCells #[A ca 0] (X.length+Y.length)) 101)=w1 at*;go_loopw [6] (fun i wr=>Qkq X Y w.heap.size w1 i wr) (fun i _=>X.length-(intOf i).toNat)
  case atStart=>exact⟨0,_,rfl,aat _,HZ,by rw[Nat.zero_min];exact gQ.start X Y,Xy w1 _⟩
  case round=>
   obtain⟨k,M,rfl,hk,hM,hst,hgr⟩:=hrel;have HM:=zq hM;have HST:=zq hst;have bD:=zq hgr;have pI:=hgr.size;have hwb:=aL.o.size;have nU:=hM.lt;clear hM hst hgr;by_cases hlt:k<X.length
   ·obtain⟨e,he⟩:=xq (min (k+Y.length) X.length)
    have iK:k<=e:=by omega
    have vY:e<=X.length:=by omega
    have px:e-k<=Y.length:=by omega
    have wL:min ((k:Int)+(Y.length:Int)) (X.length:Int)=(e:Int):=by omega
    have uV:co (min (k+Y.length) X.length=e):=he.symm
    have km:gQ X Y k M:=by have:=HST.o;rw[aaG (by omega)]at this;exact this
    have eP:=zq km;have mm:=zq (((RA.o.kept bD (by intro q hq e2;cases hq;exact NA.o e2)).drop (n:=k) (by omega)).take (n:=e-k) (c:=e-k) (by rw[aan];omega) (aab _) (by omega));have aK:=zq (RB.o.kept bD (by intro q hq e2;cases hq;exact NB.o e2));have dR:(0:Int)<=(k:Int):=aaJ _
    have cB:(k:Int)<=((X.length:Int)+(Y.length:Int)):=by omega
    have gF:(k:Int)<=(e:Int):=by omega
    have oF:(e:Int)<=(X.length:Int):=by omega
    have hc1: ¬(X.length+Y.length=k):=by omega
    have hc2: ¬(e=k):=by omega
    have fg:((X.drop k).take (e-k)).length=e-k:=by rw[aak,aan];omega
    have lS:=zq fg;clear he km fg;go_wp2_with fail
    go_region_held3 (fun _=>True) (trivial)
     (first
      |(go_at_call 253;refine(HI.o ((X.drop k).take (e-k)) Y _ _ _ (by have:=adh (e-k) (X.drop k);omega) (by exact mm.o) (by exact aK.o)).mono ?_;rintro e2 w3 ⟨g3,P,rfl,hg3,oX,qO,hv3,gA⟩;have rA:=zq (oX.whole (by have p1:=Qf ((X.drop k).take (e-k));have p2:=Qf Y;have p3:=adh (e-k) (X.drop k);omega));have vr:=zq hv3;have aV:=zq gA;have n3:g3≠w.heap.size:=(ad9 (aal nU hg3)).symm;clear qO hv3 oX gA)
      |(go_at_call 273;refine(X1 P (by exact rA.o)).mono ?_;rintro e2 w' ⟨rfl,rfl⟩)
      |(go_at_call 275;refine(Uy w.heap.size k (X.length+Y.length-k) (X.length+Y.length-k) M (by exact bh.below (w:=wr.drew) HM.o aV.o nU) (by have:=eP.o.1;omega) (aab _) (by omega) (Sg rA.o) (by intro e2;cases e2;exact n3 rfl) (Cz RA.o.ok RB.o.ok vY vr.o iK)).mono ?_;rintro e2 w4 ⟨rfl,M',jB,⟨zX,EO,hcm⟩,wB⟩))
    have HN:=zq (gQ.step RA.o.ok RB.o.ok eP iK vY vr zX EO hcm);have yS:=zq jB;have O6:co (w1.grownBy w4 (F w.heap.size)):=Vp (Pi (w:=wr.drew) (Vp bD (Jp wr 1 (F w.heap.size)) (.inl rfl)) aV) wB (.inl rfl);clear jB zX EO hcm wB;go_wp2_with fail;have aq:Qkq X Y w.heap.size w1 (A G ((k:Int)+(Y.length:Int))) w4:=⟨k+Y.length,M',by go_num,by omega,yS,by rw[uV.o];exact HN.o,O6⟩;exact⟨aq,by simp[intOf];omega⟩
   have HD:=zq (gQ.done (xs:=X) (ys:=Y) (M:=M) (by have:=HST.o;rw[Nat.min_eq_right (by omega)]at this;exact this));go_wp2_with fail;go_ret;exact Wv HD.o.1 HD.o.2 HD.o.1.symm rfl HM aL bD yD
 go_enter dk,dj;go_wp2_with fail;refine(X1 xs HV).mono ?_;rintro e w' ⟨rfl,rfl⟩;rw[<-HX.o];go_wp2_with fail;refine(X1 ys HU).mono ?_;rintro e w' ⟨rfl,rfl⟩;rw[<-HY.o];go_wp2_with fail;refine(Fq ga oa gb ob ((X.length+1) / 2) (HI.o.mono (by omega)) HZ (by omega) RA RB mX hgb rfl ID (by omega) (by omega)).mono ?_;rintro e w2 ⟨rfl,M,hM,cR,lD,hgr⟩;have HM:=zq hM;have eN:=zq cR;have lU:=zq lD;have bD:=zq hgr;clear hM cR lD hgr;go_wp2_with fail;go_ret;exact Wv eN lU eN.o.symm rfl HM aL bD yD
theorem Qxc:∀n,n<=274877906944->N6 n
 |0,_=>fun xs ys v u w h _ _=>absurd h (adM _)
 |n+1,hn=>fun xs ys v u w h hv hu=>Qyo (Qxc n (by omega)) (by omega) (by omega) hv hu
theorem Ko (hl:xs.length+ys.length<274877906944)(hv:Rd w v xs)(hu:Rd w u ys):da ce 253 #[v,u] w (Pp xs ys w):=Qxc _ (aab _) xs ys v u w hl hv hu
def Zm (n:Nat)(m:Nat)(w:cl)(e:du)(w':cl):Prop:=∃v xs,e=db v/\Fr w.heap.size w' v xs/\val xs=n/\xs.length<=m/\strip xs=xs/\c9 w.heap.size w w'
theorem X2 (l:List Nat):strip (strip l)=strip l:=by
 refine Y9 (P:=fun l=>strip (strip l)=strip l) rfl (fun l d ih=> ?_) l;by_cases h:d=0
 ·subst h;rw[Xk];exact ih
 rw[Q0 _ _ h,Q0 _ _ h]
theorem Zm.LC (h:Hc (strip xs) w e w')(hv:val xs=n)(hm:(strip xs).length<=m):Zm n m w e w':=by obtain⟨v,H,I,E⟩:=h;exact⟨v,strip xs,H,I,by rw[ay,hv],hm,X2 _,E⟩
theorem Br (hl:xs.length+ys.length<274877906944)(hv:Rd w v xs)(hu:Rd w u ys):da ce 237 #[v,u] w (Zm (val xs*val ys) (xs.length+ys.length) w):=by
 have HV:=zq hv;have HU:=zq hu;clear hv hu;go_enter func237,ntmps237;go_wp2_with fail;refine(Ko hl HV HU).mono ?_;rintro e w1 ⟨g,M,rfl,hg,hM,cR,lD,hb⟩;have q1:=Qf xs;have q2:=Qf ys
 have hMl:M.length<=xs.length+ys.length:=by omega
 have R:=zq (hM.whole (by omega));have HB:=zq hb;have HV:=zq lD;clear hM cR lD hb;go_wp2_with fail;refine(Y6 M R (by omega)).mono ?_;rintro e w2 ⟨v2,rfl,hf,hb2⟩;have HF:=zq (hf.mono HB.o.size);have aI:co (c9 w.heap.size w w2):=HB.o.trans (hb2.mono HB.o.size);clear hf hb2;go_wp2_with fail;go_ret;exact Zm.LC ⟨_,rfl,HF,aI⟩ HV (aar (Qf M) hMl)
theorem Pz (hl:xs.length+xs.length<274877906944)(hv:Rd w v xs):da ce 215 #[v] w (Zm (val xs*val xs) (xs.length+xs.length) w):=by have HV:=zq hv;clear hv;go_enter func215,ntmps215;go_wp2_with fail;refine(Br hl HV HV).mono ?_;rintro e w1 ⟨v1,zs,rfl,h1,h2,h3,h4,h5⟩;have H1:=zq h1;have H2:=zq h2;have H3:=zq h3;have H4:=zq h4;have H5:=zq h5;clear h1 h2 h3 h4 h5;go_wp2_with fail;go_ret;exact⟨_,zs,rfl,H1,H2,H3,H4,H5⟩
theorem Nc (w:cl)(x:Nat)(hx:x<BB):Rd (w.alloc (O #[A ca x] 101)) (U (F ⟨w.heap.size,0,Z⟩) 1 1) [x]:=by
 refine⟨fun k hk=>by cases hk;simp,_,1,rfl,aab _,by unfold maxLen;omega,Nw hx fE,fun i y hy=> ?_⟩
 cases i with
 |zero=>
  simp at hy;subst hy
  exact⟨_,_,rfl,by simp[go_sem]⟩
 |succ i=>simp at hy
theorem Qhu (x:Nat)(hl:xs.length<137438953472)(hx:x<BB)(hv:Rd w v xs):da ce 272 #[v,A ca x] w (Zm (val xs*x) (xs.length+1) w):=by
 have HV:=zq hv;have HX:=zq hx;clear hv hx;go_enter func272,ntmps272;go_wp2_with fail;refine(Br (by simp;omega) (HV.o.alloc _) (Nc w x HX)).mono ?_;rintro e w1 ⟨v1,zs,rfl,h1,h2,h3,h4,h5⟩;have H1:co (Fr w.heap.size w1 v1 zs):=h1.mono (by simp)
 have H2:co (val zs=val xs*x):=by show _=_;rw[h2];simp[val]
 have H3:co (zs.length<=xs.length+1):=h3;have H4:=zq h4;have H5:co (c9 w.heap.size w w1):=(Qq w _).trans (h5.mono (by simp));clear h1 h2 h3 h4 h5;go_wp2_with fail;go_ret;exact⟨_,zs,rfl,H1,H2,H3,H4,H5⟩
def mA (an B:List Nat)(i c:Nat)(M:List Nat):Prop:=M.length=an.length+1/\val (M.take i)+BB^i*c=val (an.take i)+val (B.take i)
theorem mA.start (an B:List Nat):mA an B 0 0 (List.replicate (an.length+1) 0):=⟨aaZ,by simp[val]⟩
theorem mA.step (h:mA an B i c M)(hx:an[i]?=F x)(hy:(B[i]?=F y)\/(B.length<=i/\y=0))(hs:s+BB*c'=x+y+c):mA an B (i+1) c' (M.set i s):=by
 obtain⟨J,K⟩:=h;obtain⟨bi,T⟩:=aaf.1 hx;refine⟨by rw[abb,J],?_⟩;have E:=Rx (l:=M) (o:=0) (i:=i) s (by omega);rw[aa4,aa4,aaX]at E
 have e1:val (an.take (i+1))=val (an.take i)+BB^i*x:=by rw[Xt bi,T]
 have e2:val (B.take (i+1))=val (B.take i)+BB^i*y:=by
  rcases hy with hy|⟨hy,rfl⟩
  ·obtain⟨H,I⟩:=aaf.1 hy
   rw[Xt H,I]
  rw[aam (by omega),aam (by omega)];simp
 rw[E,e1,e2,aY,aak,aaG (by omega),abf];exact Dp K hs
theorem mA.done (h:mA an B an.length c M)(hB:B.length<=an.length):(M.set an.length c).length=an.length+1/\val (M.set an.length c)=val an+val B:=by obtain⟨I,H⟩:=h;have E:=Rx (l:=M) (o:=0) (i:=an.length) c (by omega);rw[aa4,aa4,aaX]at E;rw[aam (by rw[abb];omega)]at E;refine⟨by rw[abb,I],?_⟩;rw[E,aY,aak,aaG (by omega)];rw[aby,aam hB]at H;exact H
theorem Rd.cellAt (h:Rd w (U ao n c) xs)(hx:(strip xs)[i]?=F x):∃g o,ao=F ⟨g,o,Z⟩/\w.cell? ⟨g,o+i,Z⟩=F (A ca x)/\i<n:=by
 obtain⟨_,ao',cap',e,_,_,_,H⟩:=h;simp only[Value.slice.injEq]at e;obtain⟨rfl,rfl,-⟩:=e
 have E:xs[i]?=F x:=by
  rw[(Xj xs).1,abE]at hx;split at hx
  ·exact hx
  cases hx
 obtain⟨g,o,I,J⟩:=H i x E;exact⟨g,o,I,J,(aaf.1 E).1⟩
def Eo (an B:List Nat)(g:Nat)(w1:cl)(cv i:dq)(wr:cl):Prop:=∃(k cc:Nat) (M:List Nat),k<=an.length/\i=A G k/\cv=A ca cc/\co (cc<=1)/\bh wr g M/\mA an B k cc M/\w1.grownBy wr (F g)
theorem Qqq {w1 w2:cl}(hl:M.length=an.length+1)(hv:val M=val an+val B)(hc:c=an.length+1)(hB:bh w2 w.heap.size M)(hb:c9 w.heap.size w w1)(hg:w1.grownBy w2 (F w.heap.size))(hs:an.length<=549755813888)
  (hn:val an+val B=n) (hm:an.length+1<=m):Zm n m w (db (U (F ⟨w.heap.size,0,Z⟩) (strip M).length c)) w2:=by
 subst hc;have E:=Qf M;have h:=hB.rd (o:=0) (n:=(strip M).length) (c:=an.length+1) (by omega) (by omega) (by unfold maxLen;omega);rw[aa4,<-(Xj M).1]at h;exact⟨_,strip M,rfl,⟨h,fun k hk=>by cases hk;exact⟨aab _,hB.lt⟩⟩,by rw[ay,hv,hn],by omega,X2 M,aaF hb hg hb.size (fun k hk=>by cases hk;exact aab _)⟩
theorem Ff (hlx:xs.length<=274877906944)(hly:ys.length<=274877906944)(hv:Rd w v xs)(hu:Rd w u ys):da ce 271 #[v,u] w (Zm (val xs+val ys) (max (strip xs).length (strip ys).length+1) w):=by
 have HV:=zq hv;have HU:=zq hu;obtain⟨_,ao,cap,rfl,-⟩:=hv;obtain⟨_,bo,bn,rfl,-⟩:=hu;have q1:=Qf xs;have q2:=Qf ys;obtain⟨X,hX⟩:=xq (strip xs);obtain⟨Y,hY⟩:=xq (strip ys)
 have vt:co (val X=val xs):=by show _=_;rw[hX,ay]
 have HVY:co (val Y=val ys):=by show _=_;rw[hY,ay]
 rw[<-hX]at q1;rw[<-hY]at q2;rw[<-hX,<-hY];have HX:=zq hX;have HY:=zq hY
 have HOX:co (ok X):=by show ok _;rw[hX];exact bJ HV.o.ok
 have MB:co (ok Y):=by show ok _;rw[hY];exact bJ HU.o.ok
 clear hX hY;by_cases hsw:X.length<Y.length
 ·have ID:X.length<=Y.length:=by omega
  have fA:∀w:cl,(Instr.makeSlice 59 (A G ((Y.length:Int)+1)) (A G ((Y.length:Int)+1))).run ce w=.ok (U (F ⟨w.heap.size,0,Z⟩) (Y.length+1) (Y.length+1)) (w.alloc (O (madeCells #[A ca 0] (Y.length+1)) 101)):=X9 (Y.length+1) (by omega);have HZ:=zq (bh.made w (Y.length+1));have aL:=zq (Qq w (O (madeCells #[A ca 0] (Y.length+1)) 101));have NA:=zq (HU.o.ne (aab w.heap.size));have NB:=zq (HV.o.ne (aab w.heap.size));have RA:=zq (HU.o.below aL);have RB:=zq (HV.o.below aL);go_enter ff,eS;go_wp2_with fail;refine(X8 HV).mono ?_;rintro e w' ⟨rfl,rfl⟩;rw[<-HX.o];go_wp2_with fail;refine(X8 HU).mono ?_;rintro e w' ⟨rfl,rfl⟩;rw[<-HY.o];go_wp2_with fail;refine(X8 HU).mono ?_;rintro e w' ⟨rfl,rfl⟩;rw[<-HY.o];go_wp2_with fail;refine(X8 HV).mono ?_;rintro e w' ⟨rfl,rfl⟩;rw[<-HX.o];go_wp2_with fail;generalize w.alloc (O (madeCells #[A ca 0] (Y.length+1)) 101)=w1 at*;go_loopw [8,26] (fun cv i wr=>Eo Y X w.heap.size w1 cv i wr) (fun _ i _=>Y.length-(intOf i).toNat)
  case atStart=>exact⟨0,0,_,aat _,rfl,rfl,aat _,HZ,mA.start Y X,Xy w1 _⟩
  case round=>
   obtain⟨k,cc,M,hk,rfl,rfl,hcc,hM,hst,hgr⟩:=hrel;have HM:=zq hM;have HST:=zq hst;have bD:=zq hgr
   have cR:k<M.length:=by have:=hst.1;omega
   have th:Y.length<M.length:=by have:=hst.1;omega
   have JX:M.length<=Y.length+1:=by have:=hst.1;omega
   have nU:=hM.lt;clear hM hst hgr;by_cases hlt:k<Y.length
   ·obtain⟨x,hx⟩:∃x,Y[k]?=F x:=⟨_,aad hlt⟩
    obtain⟨z,hz⟩:∃z,M[k]?=F z:=⟨_,aad cR⟩;have Ir:=RA.o.kept bD (by intro q hq e2;cases hq;exact NA.o e2);have Iu:=RB.o.kept bD (by intro q hq e2;cases hq;exact NB.o e2);obtain⟨ga,oa,hao,e1,cB⟩:=Ir.cellAt (i:=k) (x:=x) (by rw[<-HY.o];exact hx);subst hao;have c1:=HM.o.cell hz;have c2:=HM.o.frozen k;have fY:=MB.o x (aai hx);clear hz;by_cases hkb:k<X.length
    ·obtain⟨y,hy⟩:∃y,X[k]?=F y:=⟨_,aad hkb⟩
     obtain⟨gb,ob,zH,e2,gF⟩:=Iu.cellAt (i:=k) (x:=y) (by rw[<-HX.o];exact hy);subst zH;obtain⟨s,c',hs1,hs2,hs3,hrun⟩:=Zk x y cc fY (HOX.o y (aai hy)) hcc;have HN:=zq (HST.o.step hx (.inl hy) hs3);have HS:=zq (HM.o.set k hs1);have HC:=zq hs2;clear hx hy hs3 Ir Iu fY hs1 hs2 hcc;go_wp2_with fail;have aq:Eo Y X w.heap.size w1 (A ca c') (A G ((k:Int)+1)) (wr.setCell ⟨w.heap.size,k,Z⟩ (A ca s)):=⟨k+1,c',_,by omega,by go_num,rfl,HC,HS.o.1,HN,Qi bD HS.o.2⟩;exact⟨aq,by simp[intOf];omega⟩
    obtain⟨s,c',hs1,hs2,hs3,hrun⟩:=Zk x 0 cc fY aC hcc;have eI:∀w:cl,(callFunc 286 #[A ca x,A ca 0,A ca cc]).run ce w=.ok (.value (de #[A ca s,A ca c'])) w:=hrun;have HN:=zq (HST.o.step hx (.inr ⟨by omega,rfl⟩) hs3);have HS:=zq (HM.o.set k hs1);have HC:=zq hs2;clear hx hs3 Ir Iu fY hs1 hs2 hrun hcc;go_wp2_with fail;have aq:Eo Y X w.heap.size w1 (A ca c') (A G ((k:Int)+1)) (wr.setCell ⟨w.heap.size,k,Z⟩ (A ca s)):=⟨k+1,c',_,by omega,by go_num,rfl,HC,HS.o.1,HN,Qi bD HS.o.2⟩;exact⟨aq,by simp[intOf];omega⟩
   obtain rfl:k=Y.length:=by omega
   obtain⟨z,hz⟩:∃z,M[Y.length]?=F z:=⟨_,aad cR⟩;have c1:=HM.o.cell hz;have c2:=HM.o.frozen Y.length;have HD:=zq (HST.o.done ID);have HS:=zq (HM.o.set Y.length (show cc<BB by have:=hcc.o;unfold BB;omega));have R:=zq (HS.o.1.whole (by rw[HD.o.1];omega));have br:=HD.o.1;rw[br]at R;have eW:=Qf (M.set Y.length cc);rw[br]at eW;clear hz hlt hk cR th JX br hcc;go_wp2_with fail;refine(X8 R).mono ?_;rintro e w' ⟨rfl,rfl⟩;go_wp2_with fail;go_ret;exact Qqq HD.o.1 HD.o.2 rfl HS.o.1 aL (Qi bD HS.o.2) (by omega) (by rw[vt.o,HVY.o];exact Nat.add_comm _ _) (by omega)
 have ID:Y.length<=X.length:=by omega
 have fA:∀w:cl,(Instr.makeSlice 59 (A G ((X.length:Int)+1)) (A G ((X.length:Int)+1))).run ce w=.ok (U (F ⟨w.heap.size,0,Z⟩) (X.length+1) (X.length+1)) (w.alloc (O (madeCells #[A ca 0] (X.length+1)) 101)):=X9 (X.length+1) (by omega);have HZ:=zq (bh.made w (X.length+1));have aL:=zq (Qq w (O (madeCells #[A ca 0] (X.length+1)) 101));have NA:=zq (HV.o.ne (aab w.heap.size));have NB:=zq (HU.o.ne (aab w.heap.size));have RA:=zq (HV.o.below aL);have RB:=zq (HU.o.below aL);go_enter ff,eS;go_wp2_with fail;refine(X8 HV).mono ?_;rintro e w' ⟨rfl,rfl⟩;rw[<-HX.o];go_wp2_with fail;refine(X8 HU).mono ?_;rintro e w' ⟨rfl,rfl⟩;rw[<-HY.o];go_wp2_with fail;refine(X8 HV).mono ?_;rintro e w' ⟨rfl,rfl⟩;rw[<-HX.o];go_wp2_with fail;refine(X8 HU).mono ?_;rintro e w' ⟨rfl,rfl⟩;rw[<-HY.o];go_wp2_with fail;generalize w.alloc (O (madeCells #[A ca 0] (X.length+1)) 101)=w1 at*;go_loopw [8,26] (fun cv i wr=>Eo X Y w.heap.size w1 cv i wr) (fun _ i _=>X.length-(intOf i).toNat)
 case atStart=>exact⟨0,0,_,aat _,rfl,rfl,aat _,HZ,mA.start X Y,Xy w1 _⟩
 case round=>
  obtain⟨k,cc,M,hk,rfl,rfl,hcc,hM,hst,hgr⟩:=hrel;have HM:=zq hM;have HST:=zq hst;have bD:=zq hgr
  have cR:k<M.length:=by have:=hst.1;omega
  have th:X.length<M.length:=by have:=hst.1;omega
  have JX:M.length<=X.length+1:=by have:=hst.1;omega
  have nU:=hM.lt;clear hM hst hgr;by_cases hlt:k<X.length
  ·obtain⟨x,hx⟩:∃x,X[k]?=F x:=⟨_,aad hlt⟩
   obtain⟨z,hz⟩:∃z,M[k]?=F z:=⟨_,aad cR⟩;have Ir:=RA.o.kept bD (by intro q hq e2;cases hq;exact NA.o e2);have Iu:=RB.o.kept bD (by intro q hq e2;cases hq;exact NB.o e2);obtain⟨ga,oa,hao,e1,cB⟩:=Ir.cellAt (i:=k) (x:=x) (by rw[<-HX.o];exact hx);subst hao;have c1:=HM.o.cell hz;have c2:=HM.o.frozen k;have fY:=HOX.o x (aai hx);clear hz;by_cases hkb:k<Y.length
   ·obtain⟨y,hy⟩:∃y,Y[k]?=F y:=⟨_,aad hkb⟩
    obtain⟨gb,ob,zH,e2,gF⟩:=Iu.cellAt (i:=k) (x:=y) (by rw[<-HY.o];exact hy);subst zH;obtain⟨s,c',hs1,hs2,hs3,hrun⟩:=Zk x y cc fY (MB.o y (aai hy)) hcc;have HN:=zq (HST.o.step hx (.inl hy) hs3);have HS:=zq (HM.o.set k hs1);have HC:=zq hs2;clear hx hy hs3 Ir Iu fY hs1 hs2 hcc;go_wp2_with fail;have aq:Eo X Y w.heap.size w1 (A ca c') (A G ((k:Int)+1)) (wr.setCell ⟨w.heap.size,k,Z⟩ (A ca s)):=⟨k+1,c',_,by omega,by go_num,rfl,HC,HS.o.1,HN,Qi bD HS.o.2⟩;exact⟨aq,by simp[intOf];omega⟩
   obtain⟨s,c',hs1,hs2,hs3,hrun⟩:=Zk x 0 cc fY aC hcc;have eI:∀w:cl,(callFunc 286 #[A ca x,A ca 0,A ca cc]).run ce w=.ok (.value (de #[A ca s,A ca c'])) w:=hrun;have HN:=zq (HST.o.step hx (.inr ⟨by omega,rfl⟩) hs3);have HS:=zq (HM.o.set k hs1);have HC:=zq hs2;clear hx hs3 Ir Iu fY hs1 hs2 hrun hcc;go_wp2_with fail;have aq:Eo X Y w.heap.size w1 (A ca c') (A G ((k:Int)+1)) (wr.setCell ⟨w.heap.size,k,Z⟩ (A ca s)):=⟨k+1,c',_,by omega,by go_num,rfl,HC,HS.o.1,HN,Qi bD HS.o.2⟩;exact⟨aq,by simp[intOf];omega⟩
  obtain rfl:k=X.length:=by omega
  obtain⟨z,hz⟩:∃z,M[X.length]?=F z:=⟨_,aad cR⟩;have c1:=HM.o.cell hz;have c2:=HM.o.frozen X.length;have HD:=zq (HST.o.done ID);have HS:=zq (HM.o.set X.length (show cc<BB by have:=hcc.o;unfold BB;omega));have R:=zq (HS.o.1.whole (by rw[HD.o.1];omega));have br:=HD.o.1;rw[br]at R;have eW:=Qf (M.set X.length cc);rw[br]at eW;clear hz hlt hk cR th JX br hcc;go_wp2_with fail;refine(X8 R).mono ?_;rintro e w' ⟨rfl,rfl⟩;go_wp2_with fail;go_ret;exact Qqq HD.o.1 HD.o.2 rfl HS.o.1 aL (Qi bD HS.o.2) (by omega) (by rw[vt.o,HVY.o]) (by omega)
theorem Qjo {zs:List Nat}{t:dq}(hl:xs.length+ys.length<274877906944)(hlz:zs.length<=274877906944)(hv:Rd w v xs)(hu:Rd w u ys)(ht:Rd w t zs):da ce 269 #[v,u,t] w (Zm (val xs*val ys+val zs) (max (xs.length+ys.length) zs.length+1) w):=by
 have HV:=zq hv;have HU:=zq hu;have HT:=zq ht;clear hv hu ht;go_enter func269,ntmps269;go_wp2_with fail;refine(Ko hl HV HU).mono ?_;rintro e w1 ⟨g,M,rfl,hg,hM,cR,lD,hb⟩;have q1:=Qf xs;have q2:=Qf ys;have q3:=Qf zs;have q4:=Qf M
 have hMl:M.length<=xs.length+ys.length:=by omega
 have R:=zq (hM.whole (by omega));have HB:=zq hb;have lU:=zq lD;have qC:=zq (HT.o.below hb);clear hM cR lD hb;go_wp2_with fail;refine(Ff (by omega) hlz R qC).mono ?_;rintro e w2 ⟨v2,rs,rfl,h1,h2,h3,h4,h5⟩;have H1:=zq (h1.mono HB.o.size)
 have H2:co (val rs=val xs*val ys+val zs):=by show _=_;rw[h2,lU.o]
 have H3:co (rs.length<=max (xs.length+ys.length) zs.length+1):=by show _<=_;omega
 have H4:=zq h4;have H5:co (c9 w.heap.size w w2):=HB.o.trans (h5.mono HB.o.size);clear h1 h2 h3 h4 h5;go_wp2_with fail;go_ret;exact⟨_,rs,rfl,H1,H2,H3,H4,H5⟩
theorem Kv (c:Nat)(hc:c<=0x10ffff):da ce 213 #[A .i32 c] w fun e w'=>e=db (A G (cX c:Nat))/\w=w':=by
 have be:(48<=c/\c<=57)\/(97<=c/\c<=122)\/(65<=c/\c<=90)\/c<48\/(57<c/\c<65)\/(90<c/\c<97)\/122<c:=by omega
 rcases be with be|be|be|be|be|be|be
 ·have e:cX c=c-48:=by unfold cX;rw[if_pos be]
  rw[e];clear e;go_enter eg,ef;go_wp2_with fail;go_ret;exact⟨Wl (by omega),rfl⟩
 ·have e:cX c=c-87:=by unfold cX;rw[if_neg (by omega),if_pos be]
  rw[e];clear e;go_enter eg,ef;go_wp2_with fail;go_ret;exact⟨Wl (by omega),rfl⟩
 ·have e:cX c=c-55:=by unfold cX;rw[if_neg (by omega),if_neg (by omega),if_pos be]
  rw[e];clear e;go_enter eg,ef;go_wp2_with fail;go_ret;exact⟨Wl (by omega),rfl⟩
 all_goals
  have e:cX c=36:=by unfold cX;rw[if_neg (by omega),if_neg (by omega),if_neg (by omega)]
  rw[e];clear e;go_enter eg,ef;go_wp2_with fail;go_ret;exact⟨Wl (by omega),rfl⟩
theorem Ma:da ce 214 #[A G 10] w fun e w'=>e=db (de #[A G 19,A ca 10000000000000000000])/\w=w':=by
 go_enter func214,ntmps214;go_wp2_with fail;refine wp_loop_rounds 20 ?_
 repeat (rw[rounds_succ];go_wp2_with fail)
 go_ret2;exact⟨rfl,rfl⟩
def A6 (N:Nat)(w:cl)(nv pv bv:dq)(wr:cl):Prop:=∃(n q e:Nat) (ps bs:List Nat),nv=A G n/\Fr w.heap.size wr pv ps/\Fr w.heap.size wr bv bs/\val ps=10^q/\(1<=n->val bs=10^e)/\q+e*n=N/\n<=N/\strip ps=ps/\strip bs=bs/\c9 w.heap.size w wr/\1<=e
theorem Qmi {N q e:Nat}(h:q+e*n=N)(he:1<=e)(hn:1<=n):e<=N/\q<=N:=by have:=aaT e hn;have E:=aaS n he;omega
theorem Qyi (N:Nat)(hN:N<=1073741824):da ce 270 #[A G 10,A G N] w (Zm (10^N) (N+1) w):=by
 have R1:=Nc w 1 (by unfold BB;omega);have R2:=Nc (w.alloc (O #[A ca (1:Nat)] 101)) 10 (by unfold BB;omega);have b1:=Qq w (O #[A ca (1:Nat)] 101);have b2:=Qq (w.alloc (O #[A ca (1:Nat)] 101)) (O #[A ca (10:Nat)] 101)
 have HS:co (A6 N w (A G N) (U (F ⟨w.heap.size,0,Z⟩) 1 1) (U (F ⟨w.heap.size+1,0,Z⟩) 1 1) ((w.alloc (O #[A ca 1] 101)).alloc (O #[A ca 10] 101))):=
  ⟨N,0,1,[1],[10],rfl,⟨R1.below b2,fun k hk=>by cases hk;exact⟨aab _,by simp;omega⟩⟩,⟨by simpa using R2,fun k hk=>by cases hk;exact⟨by show w.heap.size<=w.heap.size+1;omega,by simp⟩⟩,by simp[val],fun _=>by simp[val],by omega,aab _,by decide,by decide,b1.trans (b2.mono b1.size),aab _⟩
 clear R1 R2 b1 b2;go_enter func270,ntmps270;go_wp2_with fail;go_loopw [1,5,6] (fun n p b wr=>A6 N w n p b wr) (fun n _ _ _=>(intOf n).toNat)
 case atStart=>exact HS.o
 clear HS
 case round=>
  obtain⟨n,q,e,ps,bs,rfl,hp,hb,hvp,l9,NZ,hnN,hsp,uh,cI,he⟩:=hrel;have HP:=zq hp;have HB:=zq hb;have HVP:=zq hvp;have y8:=zq l9;have tS:=zq NZ;have HSP:=zq hsp;have HSB:=zq uh;have eM:=zq cI;have pI:=cI.size;clear hp hb hvp l9 NZ hsp uh cI;by_cases fL:n=0
  ·subst fL
   have hq:q=N:=by have:=tS.o;omega
   have HQ:co (val ps=10^N):=by show _=_;rw[HVP.o,hq]
   clear hq;go_wp2_with fail;go_ret;exact⟨_,ps,rfl,HP,HQ,Gu HSP (abT HQ),HSP,eM⟩
  have jq:1<=n:=by omega
  obtain⟨heN,hqN⟩:=Qmi tS he jq;have hpl:=Gu HSP (abT HVP);have hbl:=Gu HSB (abT (y8.o jq));have VB:=zq (y8.o jq);clear y8;obtain⟨m,r,hm,hr⟩:∃m r,n=2*m+r/\r<2:=⟨n / 2,n % 2,by omega,by omega⟩
  have aiL:(n:Int) % 2=(r:Int):=by omega
  have agR:(n:Int) / 2=(m:Int):=by omega
  have HM:=zq hm
  have z6:m<n:=by omega
  have hmN:m<=N:=by omega
  by_cases hr1:r=1
  ·have tu:((r:Int)==1)=true:=by simp[hr1]
   have HR:=zq hr1;clear hm hr1;go_wp2_with fail;refine(Br (by omega) HP.o.1 HB.o.1).mono ?_;rintro e2 w2 ⟨pv2,ps2,rfl,p1,p2,p3,p4,p5⟩;have mO:=zq (p1.mono pI)
   have RV:co (val ps2=10^(q+e)):=by show _=_;rw[p2,HVP.o,VB.o,abM]
   have RI:=zq p4;have aI:=zq (HB.o.below p5);have uD:co (c9 w.heap.size w w2):=eM.o.trans (p5.mono pI);have ZI:=uD.o.size;clear p1 p2 p3 p4 p5;by_cases fQ:1<n
   ·go_wp2_with fail
    refine(Pz (by omega) aI.o.1).mono ?_;rintro e3 w3 ⟨xZ,SR,rfl,s1,s2,s3,s4,s5⟩;have aV:=zq (s1.mono ZI)
    have Ik:co (val SR=10^(2*e)):=by show _=_;rw[s2,VB.o,<-abM,show e+e=2*e from by omega]
    have GY:=zq s4;have oL:=zq (mO.o.below s5);have uE:co (c9 w.heap.size w w3):=uD.o.trans (s5.mono ZI)
    have fH:co (q+e+2*e*m=N):=by show _=_;have h1:=tS.o;rw[HM.o,HR.o,aay,abZ,abO,<-aaM]at h1;omega
    clear s1 s2 s3 s4 s5;go_wp2_with fail;have aq:A6 N w (A G m) pv2 xZ w3:=⟨m,q+e,2*e,ps2,SR,rfl,oL,aV,RV,fun _=>Ik.o,fH,hmN,RI,GY,uE,by omega⟩;exact⟨aq,by simp[intOf];omega⟩
   have nk:m=0:=by have:=HM.o;omega
   have fH:co (q+e+e*m=N):=by show _=_;have h1:=tS.o;have h2:=HM.o;rw[HR.o,nk]at h2;rw[h2]at h1;rw[nk,abI];rw[abI,aaX,abZ]at h1;exact h1
   clear nk;go_wp2_with fail;have aq:A6 N w (A G m) pv2 u6 w2:=⟨m,q+e,e,ps2,bs,rfl,mO,aI,RV,fun _=>VB.o,fH,hmN,RI,HSB,uD,he⟩;exact⟨aq,by simp[intOf];omega⟩
  have tu:((r:Int)==1)=false:=by simp;omega
  have nY:r=0:=by omega
  have HR:=zq nY
  have fQ:1<n:=by omega
  clear hm hr1 nY;go_wp2_with fail;refine(Pz (by omega) HB.o.1).mono ?_;rintro e3 w3 ⟨xZ,SR,rfl,s1,s2,s3,s4,s5⟩;have aV:=zq (s1.mono pI)
  have Ik:co (val SR=10^(2*e)):=by show _=_;rw[s2,VB.o,<-abM,show e+e=2*e from by omega]
  have GY:=zq s4;have oL:=zq (HP.o.below s5);have uE:co (c9 w.heap.size w w3):=eM.o.trans (s5.mono pI)
  have fH:co (q+2*e*m=N):=by show _=_;have h1:=tS.o;rw[HM.o,HR.o,aba,abO,<-aaM]at h1;omega
  clear s1 s2 s3 s4 s5;go_wp2_with fail;have aq:A6 N w (A G m) u5 xZ w3:=⟨m,q,2*e,ps,SR,rfl,oL,aV,HVP,fun _=>Ik.o,fH,hmN,HSP,GY,uE,by omega⟩;exact⟨aq,by simp[intOf];omega⟩
def iQ (w:cl)(v:dq)(ds:List Nat):Prop:=
 (∀k,v.ownBlock=F k->k<w.heap.size)/\ ∃ao cap,v=U ao ds.length cap/\ds.length<=cap/\cap<=maxLen/\(∀x∈ds,x<10)/\ ∀i x,ds[i]?=F x-> ∃g o,ao=F ⟨g,o,Z⟩/\w.cell? ⟨g,o+i,Z⟩=F (A .u8 (x:Nat))
theorem iQ.below (h:iQ w v ds)(hb:c9 w.heap.size w w'):iQ w' v ds:=by obtain⟨H,ao,E,rfl,I,J,K,bi⟩:=h;refine⟨fun k hk=>aal (H k hk) hb.size,ao,E,rfl,I,J,K,fun i x hx=> ?_⟩;obtain⟨g,o,rfl,T⟩:=bi i x hx;exact⟨g,o,rfl,by rw[hb.cell (p:=⟨g,o+i,Z⟩) (H g rfl)];exact T⟩
theorem iQ.take {len:Nat}(h:iQ w (U ao len cap) ds)(hn:n<=ds.length)(hc:n<=c)(hm:c<=cap):iQ w (U ao n c) (ds.take n):=by
 obtain⟨E,ao',cap',e,J,K,H,I⟩:=h;simp only[Value.slice.injEq]at e;obtain⟨rfl,rfl,rfl⟩:=e
 refine⟨fun k hk=>E k (by cases ao<;>first|exact hk|cases hk),ao,c,by rw[aak,aaG hn],by rw[aak];omega,by omega,fun x hx=>H x (abA hx),fun i x hx=> ?_⟩
 rw[abE]at hx;split at hx
 ·exact I i x hx
 cases hx
theorem iQ.drop {o len:Nat}(h:iQ w (U (F ⟨g,o,Z⟩) len cap) ds)(hn:n<=ds.length):iQ w (U (F ⟨g,o+n,Z⟩) (ds.length-n) (cap-n)) (ds.drop n):=by
 obtain⟨E,ao',cap',e,K,bi,H,I⟩:=h;simp only[Value.slice.injEq]at e;obtain⟨rfl,rfl,rfl⟩:=e;refine⟨fun k hk=>E k hk,_,_,by rw[aan],by rw[aan];omega,by omega,fun x hx=>H x (abV hx),fun i x hx=>⟨g,o+n,rfl,?_⟩⟩;rw[abg]at hx;obtain⟨g',o',e,J⟩:=I (n+i) x hx
 cases e
 rw[abz];exact J
theorem iQ.zl {o len:Nat}(h:iQ w (U (F ⟨g,o,Z⟩) len cap) ds)(hn:ds.length<=n):iQ w (U (F ⟨g,o,Z⟩) 0 0) (ds.drop n):=by rw[aaC hn];exact⟨fun k hk=>h.1 k hk,_,0,rfl,aab _,by unfold maxLen;omega,fun x hx=>(by cases hx),fun i x hx=>(by simp at hx)⟩
theorem iQ.some' (h:iQ w (U ao n c) ds)(h0:0<ds.length):∃g o,ao=F ⟨g,o,Z⟩:=by obtain⟨_,ao',cap',e,_,_,_,E⟩:=h;simp only[Value.slice.injEq]at e;obtain⟨rfl,-,-⟩:=e;obtain⟨g,o,H,_⟩:=E 0 ds[0] (aad h0);exact⟨g,o,H⟩
theorem iQ.shape (h:iQ w v ds):∃ao cap,v=U ao ds.length cap/\ds.length<=cap/\cap<=maxLen:=by obtain⟨_,ao,cap,E,H,I,_⟩:=h;exact⟨ao,cap,E,H,I⟩
theorem iQ.dig (h:iQ w v ds):∀x∈ds,x<10:=by obtain⟨_,_,_,_,_,_,E,_⟩:=h;exact E
def Ae (n:Nat):Prop:=∀(ds:List Nat) (v:dq) (w:cl),ds.length<n->iQ w v ds->da ce 252 #[v,A G 10] w (Zm (bC ds) ds.length w)
theorem Qxy (IH:Ae n)(hn:n<=1073741824)(hl:ds.length<=n)(IC:200<ds.length)(hv:iQ w v ds):da ce 252 #[v,A G 10] w (Zm (bC ds) ds.length w):=by
 have HV:=zq hv;obtain⟨ao,cap,rfl,sW,hcm⟩:=hv.shape;obtain⟨g,o,rfl⟩:=hv.some' (by omega);obtain⟨lo,fW⟩:=xq (ds.length / 2);obtain⟨cu,sV⟩:=xq (ds.length-lo)
 have h1:1<=lo:=by omega
 have h2:lo<ds.length:=by omega
 have h3:1<=cu:=by omega
 have h4:cu<ds.length:=by omega
 have h5:lo+cu<=ds.length:=by omega
 have h6:ds.length<=lo+cu:=by omega
 have agR:(ds.length:Int) / 2=(lo:Int):=by omega
 have KZ:(ds.length:Int)-(lo:Int)=(cu:Int):=by omega
 have mm:=zq (HV.o.take (n:=cu) (c:=cap) (by omega) (by omega) (aab _));have fy:=zq (HV.o.drop (n:=cu) (by omega));have HI:=zq IH;have dR:(0:Int)<=(cu:Int):=aaJ _
 have cB:(cu:Int)<=(ds.length:Int):=by omega
 have hcc: ¬(cap=cu):=by omega
 have gF:(cu:Int)<=(cap:Int):=by omega
 have VE:cap<=9223372036854775807:=by unfold maxLen at hcm;omega
 have qw:co ((ds.take cu).length<=cu):=adh _ _
 have iG:co ((ds.drop cu).length<=lo):=by show _<=_;rw[aan];omega
 have HD:co (bC ds=bC (ds.take cu)*10^lo+bC (ds.drop cu)):=by show _=_;rw[Qjj ds cu (by omega),show ds.length-cu=lo from by omega]
 have lS:=zq (U2 HV.o.dig);clear IH hv hcm fW sV;go_enter fi,fa;go_wp2_with fail
 go_region_held3 (fun _=>True) (trivial)
  (first
   |(go_at_call_of 252 (Value.slice (F ⟨g,o,Z⟩) cu cap);refine(HI.o (ds.take cu) _ _ (by have:=qw.o;omega) (by exact mm.o)).mono ?_;rintro e1 w1 ⟨v1,x1,rfl,a1,a2,a3,a4,a5⟩;have A1:=zq a1;have A2:=zq a2;have A3:=zq a3;have A5:=zq a5;have hz1:=a5.size;clear a1 a2 a3 a4 a5)
   |(go_at_call 270;refine(Qyi lo (by omega)).mono ?_;rintro e2 w2 ⟨v2,x2,rfl,a1,a2,a3,a4,a5⟩;have B1:=zq a1;have B2:=zq a2;have B3:=zq a3;have B5:=zq a5;have hz2:=a5.size;clear a1 a2 a3 a4 a5)
   |(go_at_call 252;refine(HI.o (ds.drop cu) _ _ (by have:=iG.o;omega) (by exact(iQ.below (w:=w.drew) fy.o A5.o).below B5.o)).mono ?_;rintro e3 w3 ⟨v3,x3,rfl,a1,a2,a3,a4,a5⟩;have C1:=zq a1;have C2:=zq a2;have C3:=zq a3;have C5:=zq a5;have hz3:=a5.size;clear a1 a2 a3 a4 a5)
   |(go_at_call 269;refine(Qjo (by have:=A3.o;have:=B3.o;have:=qw.o;omega) (by have:=C3.o;have:=iG.o;omega) ((A1.o.1.below B5.o).below C5.o) (B1.o.1.below C5.o) C1.o.1).mono ?_;rintro e4 w4 ⟨v4,x4,rfl,a1,a2,a3,a4,a5⟩))
 have D1:=zq (a1.mono (aar hz1 (aar hz2 hz3)))
 have D2:co (val x4=bC ds):=by show _=_;rw[a2,A2.o,B2.o,C2.o,HD.o]
 have D4:=zq a4;have D5:co (c9 w.heap.size w w4):=((Yz w 1).trans (A5.o.trans ((B5.o.trans ((C5.o.trans (a5.mono hz3)).mono hz2)).mono hz1)));have D3:co (x4.length<=ds.length):=Sr a4 (by rw[D2.o];exact lS.o);clear a1 a2 a3 a4 a5;go_wp2_with fail;go_ret;exact⟨_,x4,rfl,D1,D2,D3,D4,D5⟩
def szS:dq->Nat| U _ n _=>n|_=>0
def pw (j:Nat):Nat:=10^j
def Qpi (ds:List Nat)(w:cl)(dv av:dq)(wr:cl):Prop:=∃(pos rem:Nat) (ao:Option Addr) (c:Nat) (zs:List Nat),pos+rem=ds.length/\dv=U ao rem c/\iQ wr dv (ds.drop pos)/\Fr w.heap.size wr av zs/\val zs=bC (ds.take pos)/\strip zs=zs/\c9 w.heap.size w wr
theorem Qb1 {pos:Nat}(h:pos+n<=ds.length):bC (ds.take (pos+n))=bC (ds.take pos)*pw n+bC ((ds.drop pos).take n):=by have e:ds.take (pos+n)=ds.take pos++(ds.drop pos).take n:=List.take_add;rw[e,T4,aak,aan,aaG (by omega)];rfl
theorem Bi (IC:ds.length<=200)(hv:iQ w v ds):da ce 252 #[v,A G 10] w (Zm (bC ds) ds.length w):=by
 have HV:=zq hv;obtain⟨ao,cap,rfl,sW,hcm⟩:=hv.shape
 have VE:cap<=9223372036854775807:=by unfold maxLen at hcm;omega
 have lS:=zq (U2 HV.o.dig);clear hv hcm;go_enter fi,fa;go_wp2_with fail;refine(Ma).mono ?_;rintro e w' ⟨rfl,rfl⟩;go_wp2_with fail;go_loopw [0,9] (fun d a wr=>Qpi ds w d a wr) (fun d _ _=>szS d)
 case atStart=>exact⟨0,ds.length,ao,cap,[],by omega,rfl,HV,⟨Rd.nil w,fun k hk=>by cases hk⟩,rfl,rfl,aaw _ _⟩
 case round=>
  obtain⟨pos,rem,ao,c,zs,hpr,rfl,hd,ha,hva,qf,hb⟩:=hrel;have HD:=zq hd;have HA:=zq ha;have fJ:=zq hva;have ow:=zq qf;have HB:=zq hb;have MG:=zq hpr;have pI:=hb.size;obtain⟨_,_,kq,hrc,hcm⟩:=hd.shape;simp only[Value.slice.injEq]at kq;obtain⟨-,-,rfl⟩:=kq
  have fg:(ds.drop pos).length=rem:=by rw[aan];omega
  rw[fg]at hrc
  have hc2:c<=9223372036854775807:=by unfold maxLen at hcm;omega
  have ahH:rem<=200:=by omega
  have NK:zs.length<=200:=by
   have:=Sr qf (n:=pos) (by
    rw[hva];have h1:=U2 (ds:=ds.take pos) (fun x hx=>HV.o.dig x (abA hx))
    rw[aak,aaG (by omega)]at h1;exact h1)
   omega
  clear hd ha hva qf hb hpr hcm;by_cases nY:rem=0
  ·have aq:bC (ds.take pos)=bC ds:=by rw[aam (by have:=MG.o;omega)]
   have HF:=zq aq;clear aq fg
   have h0: ¬0<rem:=by omega
   clear nY;go_wp2_with fail;go_ret;exact⟨_,zs,rfl,HA,by rw[fJ.o,HF.o],Sr ow (by rw[fJ.o,HF.o];exact lS.o),ow,HB⟩
  obtain⟨n,hn⟩:=xq (min 19 rem)
  have jq:1<=n:=by omega
  have fQ:n<=rem:=by omega
  have XI:n<=19:=by omega
  have wL:min (19:Int) (rem:Int)=(n:Int):=by omega
  obtain⟨g,o,rfl⟩:=HD.o.some' (by rw[fg];omega);have HP:=zq (HD.o.take (n:=n) (c:=c) (by rw[fg];omega) (by omega) (aab _));obtain⟨P,hP⟩:=xq ((ds.drop pos).take n);rw[<-hP]at HP
  have UG:P.length=n:=by rw[hP,aak,fg];omega
  have HPL:=zq UG;have HPE:=zq hP;have OS:=zq fg
  have hrp:0<rem:=by omega
  obtain⟨_,_,_,kq,_,_,im,hcell⟩:=HP.o;simp only[Value.slice.injEq]at kq;obtain⟨rfl,-,-⟩:=kq;have tJ:=zq im;have HCE:=zq hcell
  have dR:(n:Int)<=(c:Int):=by omega
  clear hn UG hP fg im hcell nY;go_wp2_with fail;go_loop [11,12,55] (fun vv pp i=> ∃j:Nat,j<=n/\i=A G j/\vv=A ca (bC (P.take j):Nat)/\pp=A ca (pw j:Nat)) (fun _ _ i=>n-(intOf i).toNat)
  case atStart=>exact⟨0,aat _,rfl,rfl,rfl⟩
  case round=>
   obtain⟨j,hj,rfl,rfl,rfl⟩:=hrel;by_cases hlt:j<n
   ·obtain⟨x,hx⟩:∃x,P[j]?=F x:=⟨_,aad (by have:=HPL.o;omega)⟩
    obtain⟨g',o',hao,e1⟩:=HCE.o j x hx
    cases hao
    have aiV:=tJ.o x (aai hx);have hstep:=Gc hx;have JS:=U2 (ds:=P.take (j+1)) (fun y hy=>tJ.o y (abA hy));have dJ:=Ab (n:=(P.take (j+1)).length) (by rw[aak];omega);have mG:=Ab (n:=j+1) (by omega);obtain⟨m1,cD⟩:=xq (bC (P.take j)*10)
    have hpw:pw (j+1)=pw j*10:=by unfold pw;rw[abf]
    have agL:pw (j+1)<BB:=mG
    have bA:IntKind.u64.wrap ((bC (P.take j):Int)*10)=(m1:Int):=by unfold BB at*;rw[aaA];omega
    have hw2:IntKind.u64.wrap ((m1:Int)+(x:Int))=(bC (P.take (j+1)):Int):=by unfold BB at*;rw[aaA];omega
    have hw3:IntKind.u64.wrap ((pw j:Int)*10)=(pw (j+1):Int):=by unfold BB at*;rw[aaA];omega
    clear hx hstep JS dJ mG cD hpw agL;go_wp2_with fail;exact⟨⟨j+1,by omega,by go_num,rfl,rfl⟩,by simp[intOf];omega⟩
   obtain rfl:j=n:=by omega
   have hpt:P.take j=P:=aam (by have:=HPL.o;omega);rw[hpt]
   have l9:bC P<BB:=by have h1:=U2 tJ;have h2:=Ab (n:=P.length) (by have:=HPL.o;omega);omega
   have EL:pw j<BB:=Ab XI;have y8:=zq l9;have yV:=zq EL;clear hpt l9 EL hlt hj;go_wp2_with fail;refine(Qhu (pw j) (by omega) yV HA.o.1).mono ?_;rintro e w2 ⟨v2,z2,rfl,a1,a2,a3,a4,a5⟩;have A1:=zq a1.1;have A2:=zq a2;have A3:=zq a3;have A5:=zq a5;have hz2:=a5.size;clear a1 a2 a3 a4 a5;go_wp2_with fail;refine(Ff (by have:=A3.o;omega) (by simp) (A1.o.alloc _) (Nc w2 (bC P) y8)).mono ?_;rintro e w3 ⟨v3,z3,rfl,a1,a2,a3,a4,a5⟩;have B1:co (Fr w.heap.size w3 v3 z3):=a1.mono (by simp;omega)
   have B2:co (val z3=bC (ds.take (pos+j))):=by show _=_;rw[a2,A2.o,fJ.o,Qb1 (by have:=MG.o;omega),<-HPE.o];simp[val]
   have B4:=zq a4;have C5:c9 wr.heap.size wr w3:=A5.o.trans (((Qq w2 _).trans (a5.mono (by simp))).mono hz2);have B5:co (c9 w.heap.size w w3):=HB.o.trans (C5.mono pI);have CC:=zq (HD.o.below C5);clear a1 a2 a3 a4 a5 C5;by_cases VI:c=j
   ·have HDA:co (iQ w3 (U (F ⟨g,o,Z⟩) 0 0) (ds.drop (pos+j))):=by
     show iQ _ _ _;have:=CC.o.zl (n:=j) (by rw[OS.o];omega);rw[abB]at this;exact this
    have hjr:rem<=j:=by omega
    go_wp2_with fail;have aq:Qpi ds w (U (F ⟨g,o,Z⟩) 0 0) v3 w3:=⟨pos+j,0,_,0,z3,by have:=MG.o;omega,rfl,HDA,B1,B2,B4,B5⟩;exact⟨aq,by simp[szS];omega⟩
   have HDA:co (iQ w3 (U (F ⟨g,o+j,Z⟩) (rem-j) (c-j)) (ds.drop (pos+j))):=by show iQ _ _ _;have:=CC.o.drop (n:=j) (by rw[OS.o];omega);rw[abB,OS.o]at this;exact this
   go_wp2_with fail;have aq:Qpi ds w (U (F ⟨g,o+j,Z⟩) (rem-j) (c-j)) v3 w3:=⟨pos+j,rem-j,_,c-j,z3,by have:=MG.o;omega,rfl,HDA,B1,B2,B4,B5⟩;exact⟨aq,by simp[szS];omega⟩
theorem Fc:∀n,n<=1073741824->Ae n
 |0,_=>fun ds v w h _=>absurd h (adM _)
 |n+1,hn=>fun ds v w h hv=>by
  by_cases IC:ds.length<=200
  ·exact Bi IC hv
  exact Qxy (Fc n (by omega)) (by omega) (by omega) (by omega) hv
theorem Qj2 (hl:ds.length<1073741824)(hv:iQ w v ds):da ce 252 #[v,A G 10] w (Zm (bC ds) ds.length w):=Fc _ (aab _) ds v w hl hv
def ee (w:cl)(v:dq)(xs:List Nat):Prop:=True/\ ∃ao cap,v=U ao xs.length cap/\xs.length<=cap/\cap<=maxLen/\ok xs/\ ∀i x,xs[i]?=F x-> ∃g o,ao=F ⟨g,o,Z⟩/\w.cell? ⟨g,o+i,Z⟩=F (A ca (x:Nat))
theorem Rd.weak (h:Rd w v xs):ee w v xs:=⟨trivial,h.2⟩
theorem ee.below (h:ee w v xs)(hb:c9 w.heap.size w w'):ee w' v xs:=by obtain⟨-,ao,E,rfl,I,J,K,bi⟩:=h;refine⟨trivial,ao,E,rfl,I,J,K,fun i x hx=> ?_⟩;obtain⟨g,o,rfl,H⟩:=bi i x hx;exact⟨g,o,rfl,(hb.cell (p:=⟨g,o+i,Z⟩) (aaY w _ H)).trans H⟩
theorem ee.ok (h:ee w v xs):aw.ok xs:=by obtain⟨_,_,_,_,_,_,E,_⟩:=h;exact E
end Go.Proofs.YtgfmiladfeoldaaGreatDoor
namespace ak
def BB:Nat:=4294967296
variable {l:List Nat}
theorem aC:0<BB:=by unfold BB;omega
def val:List Nat->Nat
 | []=>0
 |x::l=>x+BB*val l
def ok (l:List Nat):Prop:=∀x∈l,x<BB
theorem fE:ok []:=fun x h=>by cases h
theorem Nw {x:Nat}(hx:x<BB)(h:ok l):ok (x::l):=fun y E=>by
 rcases abu.1 E with rfl|E
 ·exact hx
 exact h y E
theorem bq (h:ok l)(n:Nat):ok (l.take n):=fun x hx=>h x (abA hx)
theorem di (h:ok l)(n:Nat):ok (l.drop n):=fun x hx=>h x (abV hx)
theorem iD (h:ok l)(i:Nat){x:Nat}(hx:x<BB):ok (l.set i x):=fun y hy=>by
 rcases List.mem_or_eq_of_mem_set hy with E|rfl
 ·exact h y E
 exact hx
theorem dm (n:Nat):ok (List.replicate n 0):=fun x hx=>by rw[List.eq_of_mem_replicate hx];exact aC
theorem Y4:∀(a b:List Nat),val (a++b)=val a+BB^a.length*val b
 | [],b=>by simp[val]
 |x::a,b=>by simp only[adp,val,aaq,abf,Y4 a b];rw[aay,aaz (BB^a.length) BB,aaM,abz]
theorem aY (a:List Nat)(x:Nat):val (a++[x])=val a+BB^a.length*x:=by rw[Y4];simp[val]
theorem aH (l:List Nat)(i:Nat)(h:i<=l.length):val l=val (l.take i)+BB^i*val (l.drop i):=by have:=Y4 (l.take i) (l.drop i);rw[abG,aak,aaG h]at this;exact this
theorem bE (n:Nat):val (List.replicate n 0)=0:=by
 induction n with
 |zero=>rfl
 |succ n ih=>rw[List.replicate_succ];simp[val,ih]
theorem aN:∀{a:List Nat},ok a->val a<BB^a.length
 | [],_=>by simp[val]
 |x::a,h=>by
  have h1:=h x (by simp);have E:=aN (a:=a) fun d hd=>h d (by simp[hd]);simp only[val,aaq,abf]
  have H:BB*val a+BB<=BB*BB^a.length:=by rw[<-Nat.mul_succ];exact aaT _ E
  rw[aaz (BB^a.length)];omega
def strip (l:List Nat):List Nat:=(l.reverse.dropWhile (· ==0)).reverse
theorem Xk (l:List Nat):strip (l++[0])=strip l:=by simp[strip]
theorem Q0 (l:List Nat)(d:Nat)(h:d≠0):strip (l++[d])=l++[d]:=by simp[strip,h]
theorem Y9 {P:List Nat->Prop}(h0:P [])(h1:∀l d,P l->P (l++[d]))(l:List Nat):P l:=by
 have:∀m:List Nat,P m.reverse:=by
  intro m
  induction m with
  |nil=>exact h0
  |cons d m ih=>rw[List.reverse_cons];exact h1 _ _ ih
 have h:=this l.reverse
 rwa [List.reverse_reverse]at h
theorem Xj:∀l:List Nat,strip l=l.take (strip l).length/\(strip l).length<=l.length:=by
 apply Y9
 ·exact⟨rfl,aab _⟩
 intro l d ih;by_cases h:d=0
 ·subst h
  rw[Xk];refine⟨?_,by rw[aag];omega⟩;rw[List.take_append_of_le_length ih.2];exact ih.1
 rw[Q0 _ _ h];exact⟨by rw[aby],aab _⟩
theorem ay:∀l:List Nat,val (strip l)=val l:=by
 apply Y9
 ·rfl
 intro l d ih;by_cases h:d=0
 ·subst h
  rw[Xk,ih,aY];simp
 rw[Q0 _ _ h]
theorem bJ (h:ok l):ok (strip l):=by rw[(Xj l).1];exact bq h _
theorem Ch:strip []=[]:=rfl
theorem bf:∀(l:List Nat) (n:Nat),val l<BB^n->(strip l).length<=n:=by
 apply Y9 (P:=fun l=> ∀n,val l<BB^n->(strip l).length<=n)
 ·intro n _;exact aat _
 intro l d ih n h;by_cases hd:d=0
 ·subst hd
  rw[Xk];rw[aY]at h;exact ih n (by simpa using h)
 rw[Q0 _ _ hd,aag];rw[aY]at h;apply Classical.byContradiction;intro E;simp only[aaq,aa5,aaX,Nat.not_le]at E;have H:BB^n<=BB^l.length:=aa6 aC (by omega);have I:BB^l.length*1<=BB^l.length*d:=aaT _ (by omega);omega
theorem bt:∀(l:List Nat) (n:Nat),(strip l).length=n+1-> ∃d,(strip l)[n]?=F d/\d≠0:=by
 apply Y9 (P:=fun l=> ∀n,(strip l).length=n+1-> ∃d,(strip l)[n]?=F d/\d≠0)
 ·intro n h;simp[Ch]at h
 intro l d ih n h;by_cases hd:d=0
 ·subst hd
  rw[Xk]at h ⊢;exact ih n h
 rw[Q0 _ _ hd]at h ⊢;rw[aag]at h;simp only[aaq,aa5]at h
 obtain rfl:n=l.length:=by omega
 exact⟨d,by simp,hd⟩
theorem Jq {i o:Nat}(x:Nat)(h:o<=i):(l.set i x).take o=l.take o:=by rw[List.take_set,List.set_eq_of_length_le];rw[aak];omega
theorem Js {i:Nat}(x:Nat):(l.set i x).drop (i+1)=l.drop (i+1):=by rw[List.drop_set_of_lt (by omega)]
end ak
namespace ak
variable {D R c f i s x y:Nat} {b l:List Nat}
theorem LM:aw.BB=BB*BB:=by decide
def cd (xs:List Nat):List Nat:=xs.flatMap fun x=>[x % BB,x / BB]
theorem U6 (x:Nat)(l:List Nat):cd (x::l)=x % BB::x / BB::cd l:=rfl
theorem dC (xs:List Nat):(cd xs).length=2*xs.length:=by
 induction xs with
 |nil=>rfl
 |cons x l ih=>rw[U6];simp only[aaq,ih];omega
theorem mU (xs:List Nat):val (cd xs)=aw.val xs:=by
 induction xs with
 |nil=>rfl
 |cons x l ih=>rw[U6];simp only[val,aw.val,ih,LM];have h:=abP x BB;rw[aay,<-aaM];omega
theorem vP {xs:List Nat}(h:aw.ok xs):ok (cd xs):=by
 induction xs with
 |nil=>exact fE
 |cons x l ih=>
  rw[U6]
  have E:x<BB*BB:=by rw[<-LM];exact h x (acN ..)
  exact Nw (abL _ aC) (Nw (aeb E) (ih fun d hd=>h d (aca _ hd)))
theorem oY {xs:List Nat}(h:xs[i]?=F x):(cd xs)[2*i]?=F (x % BB)/\(cd xs)[2*i+1]?=F (x / BB):=by
 induction xs generalizing i with
 |nil=>cases h
 |cons y l ih=>
  rw[U6]
  match i,h with
  |0,h=>cases h;exact⟨rfl,rfl⟩
  |i+1,h=>
   have h':l[i]?=F x:=by simpa using h
   obtain⟨a,b⟩:=ih h';rw[show 2*(i+1)=2*i+1+1 by omega];exact⟨by simpa using a,by simpa using b⟩
theorem Qwg:∀{a b:List Nat},ok a->ok b->a.length=b.length->val a=val b->a=b
 | [],[],_,_,_,_=>rfl
 |x::a,y::b,ha,hb,hl,hv=>by
  have hx:=ha x (acN ..);have I:=hb y (acN ..);simp only[val]at hv
  have E:x=y:=by have h:=aaE (· % BB) hv;simp only[Nat.add_mul_mod_self_left,ab7 hx,ab7 I]at h;exact h
  subst E;have H:val a=val b:=Nat.eq_of_mul_eq_mul_left aC (by omega)
  rw[Qwg (fun d hd=>ha d (aca _ hd)) (fun d hd=>hb d (aca _ hd)) (by simpa using hl) H]
 | [],_::_,_,_,hl,_=>by simp at hl
 |_::_,[],_,_,hl,_=>by simp at hl
theorem iC (h:strip l=l)(ho:ok l)(n:Nat):l.length<=n↔val l<BB^n:=by
 constructor
 ·intro E
  exact aal (aN ho) (aa6 aC E)
 intro H;have:=bf l n H
 rwa [h]at this
theorem Qpv {a:List Nat}(ha:strip a=a)(hb:strip b=b)(oa:ok a)(ob:ok b)(h:val a=val b):a=b:=by have E:a.length=b.length:=Nat.le_antisymm ((iC ha oa _).2 (by rw[h];exact aN ob)) ((iC hb ob _).2 (by rw[<-h];exact aN oa));exact Qwg oa ob E h
theorem val_zero (h:strip l=l)(ho:ok l):l=[]↔val l=0:=by
 constructor
 ·rintro rfl;rfl
 intro E;exact Qpv h rfl ho fE (by rw[E];rfl)
theorem fG (h:l[i]?=F x):val l=val (l.take i)+BB^i*(x+BB*val (l.drop (i+1))):=by obtain⟨E,rfl⟩:=aaf.1 h;rw[aH l i (by omega),aaL E,val]
theorem kN (h:l[i]?=F x):val (l.set i y)+BB^i*x=val l+BB^i*y:=by
 obtain⟨H,rfl⟩:=aaf.1 h
 have E:(l.set i y)[i]?=F y:=by simp[H]
 rw[fG E,fG h,Jq y (aab i),Js y];simp only[aay];omega
theorem oW (h:l[i]?=F x):BB^i*x<=val l:=by rw[fG h,aay];omega
theorem sN (h:l[i]?=F x)(h2:l[i+1]?=F y):BB^i*(x+y*BB)<=val l:=by obtain⟨E,e⟩:=aaf.1 h2;rw[fG h,aaL E,val,e,aay BB,aaz y BB,aay (BB^i),aay (BB^i),aay (BB^i)];omega
theorem cr (l:List Nat)(s:Nat)(hs:s<=l.length)(ho:ok l):val (l.drop s)=val l / BB^s:=by have h:=aH l s hs;have E:=aN (bq ho s);rw[aak,aaG hs]at E;rw[h,Nat.add_mul_div_left _ _ (abC aC),acL E,aaX]
theorem zi {a:List Nat}(hl:a.length=b.length)(oa:ok a)(ob:ok b)(ha:a[i]?=F x)(hb:b[i]?=F y)(gG:a.drop (i+1)=b.drop (i+1))(hne:x≠y):(val a<=val b↔x<y):=by
 have va:=fG ha;have vb:=fG hb;rw[gG]at va;have la:=aN (bq oa i);have lb:=aN (bq ob i);have H:=(aaf.1 ha).1;rw[aak,aaG (by omega)]at la lb;rw[va,vb,aay,aay];constructor
 ·intro h
  rcases adQ y x with E|E
  ·have:BB^i*(y+1)<=BB^i*x:=aaT _ E
   rw[aay,abZ]at this;omega
  omega
 intro h;have:BB^i*(x+1)<=BB^i*y:=aaT _ h;rw[aay,abZ]at this;omega
theorem rf {Ld t head n:Nat}(ht:BB^(s+Ld)*t<=R)(hd:D<=head*BB^Ld)(hn:n<=t / head):n*(D*BB^s)<=R:=by
 have h:n*head<=t:=aar (aaS _ hn) (Nat.div_mul_le_self t head);have E:n*(D*BB^s)<=n*(head*BB^Ld*BB^s):=aaT _ (aaS _ hd)
 have H:n*(head*BB^Ld*BB^s)=BB^(s+Ld)*(n*head):=by rw[abM];simp only[aaM,abO,aaz]
 have I:BB^(s+Ld)*(n*head)<=BB^(s+Ld)*t:=aaT _ h;omega
theorem pU {H:Nat}(hs:H=R / BB^s)(h:D<=H):1*(D*BB^s)<=R:=by rw[abR];have I:D*BB^s<=H*BB^s:=aaS _ h;have E:=Nat.div_mul_le_self R (BB^s);rw[<-hs]at E;omega
theorem BR {q:Nat}(h:R+D*BB^s*q<D*BB^(s+1)):q<BB:=by
 rcases adQ q BB with E|E
 ·exact E
 have:D*BB^s*BB<=D*BB^s*q:=aaT _ E;rw[abf,<-aaM]at h;omega
theorem zK {Ld t head:Nat}(hR:R<D*BB^(s+1))(ht:BB^(s+Ld)*t<=R)(hd:D<=head*BB^Ld):t<head*BB:=by
 rcases adQ t (head*BB) with h|h
 ·exact h
 have E:BB^(s+Ld)*(head*BB)<=BB^(s+Ld)*t:=aaT _ h;have H:D*BB^(s+1)<=head*BB^Ld*BB^(s+1):=aaS _ hd
 have I:head*BB^Ld*BB^(s+1)=BB^(s+Ld)*(head*BB):=by rw[abM BB s Ld,abf BB s];simp only[aaM,abO,aaz]
 omega
theorem tE {H:Nat}(hs:H=R / BB^s)(h:H<D):R<D*BB^s:=by rw[hs]at h;exact(abN (abC aC)).1 h
theorem tF {k:Nat}(ob:ok b)(hx:b[k]?=F x)(hk:b.length=k+1)(hf:f ∣ BB)(h:x*f<BB):val b*f<BB^b.length:=by
 obtain⟨c,H⟩:=hf
 have I:0<f:=by
  rcases abY f with h|h
  ·rw[h,acH]at H;have:=aC;omega
  exact h
 have E:(x+1)*f<=BB:=by
  have:x<c:=by
   rcases adQ x c with E|E
   ·exact E
   have:c*f<=x*f:=aaS _ E;rw[aaz c f,<-H]at this;omega
  calc (x+1)*f<=c*f:=aaS _ this
   _=BB:=by rw[aaz,<-H]
 have va:=fG hx;have K:b.drop (k+1)=[]:=aaC (by omega);have la:=aN (bq ob k);rw[aak,aaG (by omega)]at la;rw[K,val,abI,aba]at va
 have J:val b<BB^k*(x+1):=by rw[va,aay,abZ];omega
 rw[hk,abf]
 calc val b*f<BB^k*(x+1)*f:=ac3 J I
  _=BB^k*((x+1)*f):=aaM _ _ _
  _<=BB^k*BB:=aaT _ E
theorem rh {T V P:Nat}(h:T+P*c=V*f):(T+P*((x*f+c) % BB))+P*BB*((x*f+c) / BB)=(V+P*x)*f:=by
 have E:=abP (x*f+c) BB
 have H:P*((x*f+c) % BB)+P*BB*((x*f+c) / BB)=P*(x*f+c):=by rw[aaM,<-aay,Nat.add_comm,E]
 rw[abz,H,abd,aay,<-h,aaM];omega
theorem pV (hx:x<BB)(hf:f<BB)(hc:c<BB):(x*f+c) / BB<BB/\x*f+c<BB*BB:=by
 have E:x*f<=(BB-1)*(BB-1):=aa3 (by omega) (by omega)
 have h:x*f+c<BB*BB:=by
  have:(BB-1)*(BB-1)+BB<=BB*BB:=by unfold BB;omega
  omega
 exact⟨aeb h,h⟩
theorem jO {X Y am P r b q low c' r' d:Nat}(h:X+q*Y=am+P*c)(ht:c+q*b=low+BB*c')(hr:(low<=r/\r'=r-low/\d=c')\/(r<low/\r'=r+BB-low/\low<BB/\d=c'+1)):(X+P*r')+q*(Y+P*b)=(am+P*r)+P*BB*d:=by
 have J:P*(c+q*b)=P*(low+BB*c'):=by rw[ht]
 rw[aay q,aay P c,aay P low]at*;have e1:q*(P*b)=P*(q*b):=abO _ _ _;have e2:P*(BB*c')=P*BB*c':=(aaM _ _ _).symm;rcases hr with ⟨E,H,rfl⟩|⟨E,H,I,rfl⟩
 ·have e3:P*r=P*r'+P*low:=by rw[<-aay];congr 1;omega
  omega
 have e3:P*r+P*BB=P*r'+P*low:=by rw[<-aay,<-aay];congr 1;omega
 rw[aay (P*BB),abZ];omega
end ak
namespace ak
variable {d:List Nat} {i m:Nat}
theorem ib {l:List Nat}(h:∀n,l.length=n+1-> ∃d,l[n]?=F d/\d≠0):aw.strip l=l:=by
 rcases abY l.length with E|E
 ·rw[aau E];rfl
 obtain⟨n,K⟩:∃n,l.length=n+1:=⟨l.length-1,by omega⟩;obtain⟨d,I,bi⟩:=h n K;have J:=(aaf.1 I).1
 have e:l=l.take n++[d]:=by have H:=aa8 J;rw[(aaf.1 I).2,aam (by omega)]at H;exact H
 rw[e,aw.Q0 _ _ bi]
theorem ia {l:List Nat}(h:aw.strip l=l){n:Nat}(hn:l.length=n+1):∃d,l[n]?=F d/\d≠0:=by have:=aw.bt l n (by rw[h];exact hn);rw[h]at this;exact this
def pw (d:List Nat)(i k:Nat):Nat:=(if 2*k<i then d.getD (2*k) 0 else 0)+(if 2*k+1<i then d.getD (2*k+1) 0*BB else 0)
def pT (d:List Nat)(i m:Nat):List Nat:=(List.range m).map (pw d i)
theorem dG (d:List Nat)(i m:Nat):(pT d i m).length=m:=by simp[pT]
theorem gL {k:Nat}(h:k<m):(pT d i m)[k]?=F (pw d i k):=by simp[pT,aa9,List.getElem?_range h]
theorem xH (d:List Nat)(m:Nat):pT d 0 m=List.replicate m 0:=by
 apply List.ext_getElem?;intro k;by_cases hk:k<m
 ·rw[gL hk,List.getElem?_replicate,if_pos hk];simp[pw]
 rw[abo (by rw[dG];omega),abo (by simp;omega)]
theorem xG {x:Nat}(hx:d[i]?=F x)(he:i % 2=0):pT d (i+1) m=(pT d i m).set (i / 2) x:=by
 apply List.ext_getElem?;intro k;by_cases hk:k<m
 ·rw[gL hk,List.getElem?_set,dG]
  split
  ·rename_i e
   rw[if_pos (by omega)]
   have e2:2*k=i:=by omega
   simp[pw,e2,List.getD,hx]
  rename_i e;rw[gL hk];have e1:(2*k<i+1)=(2*k<i):=propext (by omega);have e2:(2*k+1<i+1)=(2*k+1<i):=propext (by omega);simp only[pw,e1,e2]
 rw[abo (by rw[dG];omega),abo (by rw[abb,dG];omega)]
theorem BP {x:Nat}(hx:d[i]?=F x)(he:i % 2=1):pT d (i+1) m=(pT d i m).set (i / 2) (pw d i (i / 2)+x*BB)/\pw d i (i / 2)=d.getD (i-1) 0:=by
 have e3:pw d i (i / 2)=d.getD (i-1) 0:=by
  have e4:2*(i / 2)=i-1:=by omega
  simp only[pw];rw[if_pos (by omega),if_neg (by omega),e4,aba]
 refine⟨?_,e3⟩;apply List.ext_getElem?;intro k;by_cases hk:k<m
 ·rw[gL hk,List.getElem?_set,dG]
  split
  ·rename_i e
   rw[if_pos (by omega)];subst e
   have e2:2*(i / 2)+1=i:=by omega
   simp only[pw];rw[if_pos (by omega),if_pos (by omega),if_pos (by omega),if_neg (by omega),e2];simp[List.getD,hx]
  rename_i e;rw[gL hk];have e1:(2*k<i+1)=(2*k<i):=propext (by omega);have e2:(2*k+1<i+1)=(2*k+1<i):=propext (by omega);simp only[pw,e1,e2]
 rw[abo (by rw[dG];omega),abo (by rw[abb,dG];omega)]
theorem kD (h:ok d)(i:Nat):d.getD i 0<BB:=by
 rw[abc]
 cases e:d[i]? with
 |none=>exact aC
 |some x=>exact h x (aai e)
theorem Qme (h:ok d)(m:Nat)(hm:d.length<=2*m):cd (pT d d.length m)=d++List.replicate (2*m-d.length) 0:=by
 apply List.ext_getElem?;intro i;by_cases hi:i<2*m
 ·have J:i / 2<m:=by omega
  obtain⟨a,b⟩:=oY (gL (d:=d) (i:=d.length) J);have I:=kD h (2*(i / 2));have K:=kD h (2*(i / 2)+1)
  have H:(d++List.replicate (2*m-d.length) 0)[i]?=F (d.getD i 0):=by
   by_cases hd:i<d.length
   ·rw[aaH hd,abc,aad hd];rfl
   rw[aaK (by omega),List.getElem?_replicate,if_pos (by omega),abc,abo (by omega)];rfl
  have E:pw d d.length (i / 2)=d.getD (2*(i / 2)) 0+d.getD (2*(i / 2)+1) 0*BB:=by
   unfold pw;congr 1
   ·split
    ·rfl
    rw[abc,abo (by omega)];rfl
   split
   ·rfl
   rw[abc,abo (by omega)];simp
  rw[H];rcases Nat.mod_two_eq_zero_or_one i with e|e
  ·rw[show 2*(i / 2)=i by omega]at a E
   rw[a,E,Nat.add_mul_mod_self_right,ab7 (kD h i)]
  rw[show 2*(i / 2)+1=i by omega]at b E;rw[b,E,Nat.add_mul_div_right _ _ aC,acL I,aaX]
 rw[abo (by rw[dC,dG];omega),abo (by simp;omega)]
theorem BQ (h:ok d)(m:Nat)(hm:d.length<=2*m):aw.val (pT d d.length m)=val d:=by rw[<-mU,Qme h m hm,Y4,bE,abI,aba]
theorem tC (hs:aw.strip d=d):aw.strip (pT d d.length ((d.length+1) / 2))=pT d d.length ((d.length+1) / 2):=by
 refine ib fun n hn=> ?_;rw[dG]at hn;refine⟨_,gL (by omega),?_⟩;obtain⟨k,E⟩:∃k,d.length=k+1:=⟨d.length-1,by omega⟩;obtain⟨x,h,H⟩:=ia hs E;unfold pw;rcases Nat.mod_two_eq_zero_or_one k with e|e
 ·rw[if_pos (by omega),show 2*n=k by omega,abc,h]
  simp only[ab6];omega
 rw[if_pos (by omega),if_pos (by omega),show 2*n+1=k by omega,@abc _ d k,h];simp only[ab6];have:0<x*BB:=ack (by omega) aC;omega
end ak
