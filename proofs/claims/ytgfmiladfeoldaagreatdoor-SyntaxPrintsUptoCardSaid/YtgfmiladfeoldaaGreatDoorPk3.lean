import Derived.Test.YtgfmiladfeoldaaGreatDoorPk2
set_option linter.unusedSimpArgs false
set_option linter.unusedVariables false
set_option maxRecDepth 100000
set_option maxHeartbeats 16000000
namespace Go.Proofs.YtgfmiladfeoldaaGreatDoor
open Go.RowKit ai
def kh (A B:List Nat)(i c:Nat)(M:List Nat):Prop:=M.length=A.length+1/\val (M.take i)+BB^i*c=val (A.take i)+val (B.take i)
theorem kh.start (A B:List Nat):kh A B 0 0 (List.replicate (A.length+1) 0):=⟨aa9,by simp[val]⟩
theorem kh.step {A B M:List Nat}{i c x y s c':Nat}(h:kh A B i c M)(hx:A[i]?=some x)(hy:(B[i]?=some y)\/(B.length<=i/\y=0))(hs:s+BB*c'=x+y+c):kh A B (i+1) c' (M.set i s):=by
 obtain⟨J,K⟩:=h;obtain⟨O,T⟩:=aae.1 hx;refine⟨by rw[ab6,J],?_⟩;have E:=Rf (l:=M) (o:=0) (i:=i) s (by omega);rw[adq,adq,abx]at E
 have e1:val (A.take (i+1))=val (A.take i)+BB^i*x:=by rw[Xa O,T]
 have e2:val (B.take (i+1))=val (B.take i)+BB^i*y:=by
  rcases hy with hy|⟨hy,rfl⟩
  ·obtain⟨H,I⟩:=aae.1 hy
   rw[Xa H,I]
  rw[aat (by omega),aat (by omega)];simp
 rw[E,e1,e2,Zb,aak,abd (by omega),ady];exact Dk K hs
theorem kh.done {A B M:List Nat}{c:Nat}(h:kh A B A.length c M)(hB:B.length<=A.length):(M.set A.length c).length=A.length+1/\val (M.set A.length c)=val A+val B:=by obtain⟨I,H⟩:=h;have E:=Rf (l:=M) (o:=0) (i:=A.length) c (by omega);rw[adq,adq,abx]at E;rw[aat (by rw[ab6];omega)]at E;refine⟨by rw[ab6,I],?_⟩;rw[E,Zb,aak,abd (by omega)];rw[adx,aat hB]at H;exact H
theorem Rd.cellAt {w:World}{ao:Option Addr}{n c:Nat}{xs:List Nat}(h:Rd w (.slice ao n c) xs){i x:Nat}(hx:(Qw xs)[i]?=some x):∃g o,ao=some ⟨g,o,none⟩/\w.cell? ⟨g,o+i,none⟩=some (.int .u64 (x:Nat))/\i<n:=by
 obtain⟨_,ao',cap',e,_,_,_,H⟩:=h;simp only[Value.slice.injEq]at e;obtain⟨rfl,rfl,-⟩:=e
 have E:xs[i]?=some x:=by
  rw[(Yz xs).1,adX]at hx;split at hx
  ·exact hx
  cases hx
 obtain⟨g,o,I,J⟩:=H i x E;exact⟨g,o,I,J,(aae.1 E).1⟩
def Ee (A B:List Nat)(g:Nat)(w1:World)(cv i:Value)(wr:World):Prop:=∃(k cc:Nat) (M:List Nat),k<=A.length/\i=.int .i64 (k:Nat)/\cv=.int .u64 (cc:Nat)/\Hid (cc<=1)/\ba wr g M/\kh A B k cc M/\w1.grownBy wr (some g)
theorem As {w w1 w2:World}{A B M:List Nat}{n m c:Nat}(hl:M.length=A.length+1)(hv:val M=val A+val B)(hc:c=A.length+1)(hB:ba w2 w.heap.size M)(hb:Below w.heap.size w w1)(hg:w1.grownBy w2 (some w.heap.size))(hs:A.length<=549755813888)
  (hn:val A+val B=n) (hm:A.length+1<=m):Zu n m w (.returned (.slice (some ⟨w.heap.size,0,none⟩) (Qw M).length c)) w2:=by
 subst hc;have E:=Qu M;have h:=hB.rd (o:=0) (n:=(Qw M).length) (c:=A.length+1) (by omega) (by omega) (by unfold maxLen;omega);rw[adq,<-(Yz M).1]at h;exact⟨_,Qw M,rfl,⟨h,fun k hk=>by cases hk;exact⟨aaa _,hB.lt⟩⟩,by rw[Qn,hv,hn],by omega,Yo M,abq hb hg hb.size (fun k hk=>by cases hk;exact aaa _)⟩
theorem G5 (xs ys:List Nat)(v u:Value)(w:World)(hlx:xs.length<=274877906944)(hly:ys.length<=274877906944)(hv:Rd w v xs)(hu:Rd w u ys):Calls Tryz.prog 271 #[v,u] w (Zu (val xs+val ys) (max (Qw xs).length (Qw ys).length+1) w):=by
 have HV:=zq hv;have HU:=zq hu;obtain⟨_,ao,cap,rfl,-⟩:=hv;obtain⟨_,bo,fz,rfl,-⟩:=hu;have q1:=Qu xs;have q2:=Qu ys;obtain⟨X,hX⟩:=xq (Qw xs);obtain⟨Y,hY⟩:=xq (Qw ys)
 have AQ:Hid (val X=val xs):=by show _=_;rw[hX,Qn]
 have HVY:Hid (val Y=val ys):=by show _=_;rw[hY,Qn]
 rw[<-hX]at q1;rw[<-hY]at q2;rw[<-hX,<-hY];have HX:=zq hX;have HY:=zq hY
 have HOX:Hid (ok X):=by show ok _;rw[hX];exact Vt HV.o.ok
 have HOY:Hid (ok Y):=by show ok _;rw[hY];exact Vt HU.o.ok
 clear hX hY;by_cases hsw:X.length<Y.length
 ·have BG:X.length<=Y.length:=by omega
  have oh:∀w:World,(Instr.makeSlice 59 (.int .i64 ((Y.length:Int)+1)) (.int .i64 ((Y.length:Int)+1))).run Tryz.prog w=.ok (.slice (some ⟨w.heap.size,0,none⟩) (Y.length+1) (Y.length+1)) (w.alloc (.cells (madeCells #[.int .u64 0] (Y.length+1)) 101)):=Zk (Y.length+1) (by omega);have HZ:=zq (ba.made w (Y.length+1));have aP:=zq (Qq w (.cells (madeCells #[.int .u64 0] (Y.length+1)) 101));have NA:=zq (HU.o.ne (aaa w.heap.size));have NB:=zq (HV.o.ne (aaa w.heap.size));have RA:=zq (HU.o.below aP.o);have RB:=zq (HV.o.below aP.o);go_enter Tryz.func271,Tryz.ntmps271;go_wp2_with fail;refine(X9 _ xs _ HV.o).mono ?_;rintro e w' ⟨rfl,rfl⟩;rw[<-HX.o];go_wp2_with fail;refine(X9 _ ys _ HU.o).mono ?_;rintro e w' ⟨rfl,rfl⟩;rw[<-HY.o];go_wp2_with fail;refine(X9 _ ys _ HU.o).mono ?_;rintro e w' ⟨rfl,rfl⟩;rw[<-HY.o];go_wp2_with fail;refine(X9 _ xs _ HV.o).mono ?_;rintro e w' ⟨rfl,rfl⟩;rw[<-HX.o];go_wp2_with fail;generalize w.alloc (.cells (madeCells #[.int .u64 0] (Y.length+1)) 101)=w1 at*;go_loopw [8,26] (fun cv i wr=>Ee Y X w.heap.size w1 cv i wr) (fun _ i _=>Y.length-(intOf i).toNat)
  case atStart=>exact⟨0,0,_,aao _,rfl,rfl,aao _,HZ.o,kh.start Y X,X1 w1 _⟩
  case round=>
   obtain⟨k,cc,M,hk,rfl,rfl,hcc,hM,hst,hgr⟩:=hrel;have HM:=zq hM;have HST:=zq hst;have bn:=zq hgr
   have ct:k<M.length:=by have:=hst.1;omega
   have qz:Y.length<M.length:=by have:=hst.1;omega
   have CV:M.length<=Y.length+1:=by have:=hst.1;omega
   have CK:=hM.lt;clear hM hst hgr;by_cases hlt:k<Y.length
   ·obtain⟨x,hx⟩:∃x,Y[k]?=some x:=⟨_,aad hlt⟩
    obtain⟨z,hz⟩:∃z,M[k]?=some z:=⟨_,aad ct⟩;have AX:=RA.o.kept bn.o (by intro q hq e2;cases hq;exact NA.o e2);have AY:=RB.o.kept bn.o (by intro q hq e2;cases hq;exact NB.o e2);obtain⟨ga,oa,hao,e1,dc⟩:=AX.cellAt (i:=k) (x:=x) (by rw[<-HY.o];exact hx);subst hao;have c1:=HM.o.cell hz;have c2:=HM.o.frozen k;have gO:=HOY.o x (aah hx);clear hz;by_cases hkb:k<X.length
    ·obtain⟨y,hy⟩:∃y,X[k]?=some y:=⟨_,aad hkb⟩
     obtain⟨gb,ob,wZ,e2,jV⟩:=AY.cellAt (i:=k) (x:=y) (by rw[<-HX.o];exact hy);subst wZ;obtain⟨s,c',hs1,hs2,hs3,hrun⟩:=Zm x y cc gO (HOX.o y (aah hy)) hcc.o;have HN:=zq (HST.o.step hx (.inl hy) hs3);have HS:=zq (HM.o.set k hs1);have HC:=zq hs2;clear hx hy hs3 AX AY gO hs1 hs2 hcc;go_wp2_with fail;have ah:Ee Y X w.heap.size w1 (.int .u64 (c':Nat)) (.int .i64 ((k:Int)+1)) (wr.setCell ⟨w.heap.size,k,none⟩ (.int .u64 (s:Nat))):=⟨k+1,c',_,by omega,by go_num,rfl,HC.o,HS.o.1,HN.o,Xz bn.o HS.o.2⟩
     first|exact⟨ah,by simp[intOf];omega⟩|exact⟨by (repeat apply Exists.intro);exact⟨ah,rfl⟩,by simp[intOf];omega⟩
    obtain⟨s,c',hs1,hs2,hs3,hrun⟩:=Zm x 0 cc gO Xs hcc.o;have dQ:∀w:World,(callFunc 286 #[.int .u64 (x:Nat),.int .u64 0,.int .u64 (cc:Nat)]).run Tryz.prog w=.ok (.value (.tuple #[.int .u64 (s:Nat),.int .u64 (c':Nat)])) w:=hrun;have HN:=zq (HST.o.step hx (.inr ⟨by omega,rfl⟩) hs3);have HS:=zq (HM.o.set k hs1);have HC:=zq hs2;clear hx hs3 AX AY gO hs1 hs2 hrun hcc;go_wp2_with fail;have ah:Ee Y X w.heap.size w1 (.int .u64 (c':Nat)) (.int .i64 ((k:Int)+1)) (wr.setCell ⟨w.heap.size,k,none⟩ (.int .u64 (s:Nat))):=⟨k+1,c',_,by omega,by go_num,rfl,HC.o,HS.o.1,HN.o,Xz bn.o HS.o.2⟩
    first|exact⟨ah,by simp[intOf];omega⟩|exact⟨by (repeat apply Exists.intro);exact⟨ah,rfl⟩,by simp[intOf];omega⟩
   obtain rfl:k=Y.length:=by omega
   obtain⟨z,hz⟩:∃z,M[Y.length]?=some z:=⟨_,aad ct⟩;have c1:=HM.o.cell hz;have c2:=HM.o.frozen Y.length;have HD:=zq (HST.o.done BG);have HS:=zq (HM.o.set Y.length (show cc<BB by have:=hcc.o;unfold BB;omega));have R:=zq (HS.o.1.whole (by rw[HD.o.1];omega));have aT:=HD.o.1;rw[aT]at R;have iE:=Qu (M.set Y.length cc);rw[aT]at iE;clear hz hlt hk ct qz CV aT hcc;go_wp2_with fail;refine(X9 _ (M.set Y.length cc) _ R.o).mono ?_;rintro e w' ⟨rfl,rfl⟩;go_wp2_with fail;go_ret;exact As HD.o.1 HD.o.2 rfl HS.o.1 aP.o (Xz bn.o HS.o.2) (by omega) (by rw[AQ.o,HVY.o];exact Nat.add_comm _ _) (by omega)
 have BG:Y.length<=X.length:=by omega
 have oh:∀w:World,(Instr.makeSlice 59 (.int .i64 ((X.length:Int)+1)) (.int .i64 ((X.length:Int)+1))).run Tryz.prog w=.ok (.slice (some ⟨w.heap.size,0,none⟩) (X.length+1) (X.length+1)) (w.alloc (.cells (madeCells #[.int .u64 0] (X.length+1)) 101)):=Zk (X.length+1) (by omega);have HZ:=zq (ba.made w (X.length+1));have aP:=zq (Qq w (.cells (madeCells #[.int .u64 0] (X.length+1)) 101));have NA:=zq (HV.o.ne (aaa w.heap.size));have NB:=zq (HU.o.ne (aaa w.heap.size));have RA:=zq (HV.o.below aP.o);have RB:=zq (HU.o.below aP.o);go_enter Tryz.func271,Tryz.ntmps271;go_wp2_with fail;refine(X9 _ xs _ HV.o).mono ?_;rintro e w' ⟨rfl,rfl⟩;rw[<-HX.o];go_wp2_with fail;refine(X9 _ ys _ HU.o).mono ?_;rintro e w' ⟨rfl,rfl⟩;rw[<-HY.o];go_wp2_with fail;refine(X9 _ xs _ HV.o).mono ?_;rintro e w' ⟨rfl,rfl⟩;rw[<-HX.o];go_wp2_with fail;refine(X9 _ ys _ HU.o).mono ?_;rintro e w' ⟨rfl,rfl⟩;rw[<-HY.o];go_wp2_with fail;generalize w.alloc (.cells (madeCells #[.int .u64 0] (X.length+1)) 101)=w1 at*;go_loopw [8,26] (fun cv i wr=>Ee X Y w.heap.size w1 cv i wr) (fun _ i _=>X.length-(intOf i).toNat)
 case atStart=>exact⟨0,0,_,aao _,rfl,rfl,aao _,HZ.o,kh.start X Y,X1 w1 _⟩
 case round=>
  obtain⟨k,cc,M,hk,rfl,rfl,hcc,hM,hst,hgr⟩:=hrel;have HM:=zq hM;have HST:=zq hst;have bn:=zq hgr
  have ct:k<M.length:=by have:=hst.1;omega
  have qz:X.length<M.length:=by have:=hst.1;omega
  have CV:M.length<=X.length+1:=by have:=hst.1;omega
  have CK:=hM.lt;clear hM hst hgr;by_cases hlt:k<X.length
  ·obtain⟨x,hx⟩:∃x,X[k]?=some x:=⟨_,aad hlt⟩
   obtain⟨z,hz⟩:∃z,M[k]?=some z:=⟨_,aad ct⟩;have AX:=RA.o.kept bn.o (by intro q hq e2;cases hq;exact NA.o e2);have AY:=RB.o.kept bn.o (by intro q hq e2;cases hq;exact NB.o e2);obtain⟨ga,oa,hao,e1,dc⟩:=AX.cellAt (i:=k) (x:=x) (by rw[<-HX.o];exact hx);subst hao;have c1:=HM.o.cell hz;have c2:=HM.o.frozen k;have gO:=HOX.o x (aah hx);clear hz;by_cases hkb:k<Y.length
   ·obtain⟨y,hy⟩:∃y,Y[k]?=some y:=⟨_,aad hkb⟩
    obtain⟨gb,ob,wZ,e2,jV⟩:=AY.cellAt (i:=k) (x:=y) (by rw[<-HY.o];exact hy);subst wZ;obtain⟨s,c',hs1,hs2,hs3,hrun⟩:=Zm x y cc gO (HOY.o y (aah hy)) hcc.o;have HN:=zq (HST.o.step hx (.inl hy) hs3);have HS:=zq (HM.o.set k hs1);have HC:=zq hs2;clear hx hy hs3 AX AY gO hs1 hs2 hcc;go_wp2_with fail;have ah:Ee X Y w.heap.size w1 (.int .u64 (c':Nat)) (.int .i64 ((k:Int)+1)) (wr.setCell ⟨w.heap.size,k,none⟩ (.int .u64 (s:Nat))):=⟨k+1,c',_,by omega,by go_num,rfl,HC.o,HS.o.1,HN.o,Xz bn.o HS.o.2⟩
    first|exact⟨ah,by simp[intOf];omega⟩|exact⟨by (repeat apply Exists.intro);exact⟨ah,rfl⟩,by simp[intOf];omega⟩
   obtain⟨s,c',hs1,hs2,hs3,hrun⟩:=Zm x 0 cc gO Xs hcc.o;have dQ:∀w:World,(callFunc 286 #[.int .u64 (x:Nat),.int .u64 0,.int .u64 (cc:Nat)]).run Tryz.prog w=.ok (.value (.tuple #[.int .u64 (s:Nat),.int .u64 (c':Nat)])) w:=hrun;have HN:=zq (HST.o.step hx (.inr ⟨by omega,rfl⟩) hs3);have HS:=zq (HM.o.set k hs1);have HC:=zq hs2;clear hx hs3 AX AY gO hs1 hs2 hrun hcc;go_wp2_with fail;have ah:Ee X Y w.heap.size w1 (.int .u64 (c':Nat)) (.int .i64 ((k:Int)+1)) (wr.setCell ⟨w.heap.size,k,none⟩ (.int .u64 (s:Nat))):=⟨k+1,c',_,by omega,by go_num,rfl,HC.o,HS.o.1,HN.o,Xz bn.o HS.o.2⟩
   first|exact⟨ah,by simp[intOf];omega⟩|exact⟨by (repeat apply Exists.intro);exact⟨ah,rfl⟩,by simp[intOf];omega⟩
  obtain rfl:k=X.length:=by omega
  obtain⟨z,hz⟩:∃z,M[X.length]?=some z:=⟨_,aad ct⟩;have c1:=HM.o.cell hz;have c2:=HM.o.frozen X.length;have HD:=zq (HST.o.done BG);have HS:=zq (HM.o.set X.length (show cc<BB by have:=hcc.o;unfold BB;omega));have R:=zq (HS.o.1.whole (by rw[HD.o.1];omega));have aT:=HD.o.1;rw[aT]at R;have iE:=Qu (M.set X.length cc);rw[aT]at iE;clear hz hlt hk ct qz CV aT hcc;go_wp2_with fail;refine(X9 _ (M.set X.length cc) _ R.o).mono ?_;rintro e w' ⟨rfl,rfl⟩;go_wp2_with fail;go_ret;exact As HD.o.1 HD.o.2 rfl HS.o.1 aP.o (Xz bn.o HS.o.2) (by omega) (by rw[AQ.o,HVY.o]) (by omega)
theorem Qjo (xs ys zs:List Nat)(v u t:Value)(w:World)(hl:xs.length+ys.length<274877906944)(CS:zs.length<=274877906944)(hv:Rd w v xs)(hu:Rd w u ys)(ht:Rd w t zs):Calls Tryz.prog 269 #[v,u,t] w (Zu (val xs*val ys+val zs) (max (xs.length+ys.length) zs.length+1) w):=by
 have HV:=zq hv;have HU:=zq hu;have HT:=zq ht;clear hv hu ht;go_enter Tryz.func269,Tryz.ntmps269;go_wp2_with fail;refine(Ks xs ys _ _ _ hl HV.o HU.o).mono ?_;rintro e w1 ⟨g,M,rfl,hg,hM,ct,jD,hb⟩;have q1:=Qu xs;have q2:=Qu ys;have q3:=Qu zs;have q4:=Qu M
 have hMl:M.length<=xs.length+ys.length:=by omega
 have R:=zq (hM.whole (by omega));have HB:=zq hb;have jQ:=zq jD;have AE:=zq (HT.o.below hb);clear hM ct jD hb;go_wp2_with fail;refine(G5 M zs _ _ _ (by omega) CS R.o AE.o).mono ?_;rintro e w2 ⟨v2,rs,rfl,h1,h2,h3,h4,h5⟩;have H1:=zq (h1.mono HB.o.size)
 have H2:Hid (val rs=val xs*val ys+val zs):=by show _=_;rw[h2,jQ.o]
 have H3:Hid (rs.length<=max (xs.length+ys.length) zs.length+1):=by show _<=_;omega
 have H4:=zq h4;have H5:Hid (Below w.heap.size w w2):=HB.o.trans (h5.mono HB.o.size);clear h1 h2 h3 h4 h5;go_wp2_with fail;go_ret;exact⟨_,rs,rfl,H1.o,H2.o,H3.o,H4.o,H5.o⟩
def gi (xs:List Nat):Nat:=if (Qw xs).length=0 then 0 else 64*((Qw xs).length-1)+Lib.bitLen ((Qw xs).getD ((Qw xs).length-1) 0)
theorem Rl {x:Nat}(h0:0<x)(h:x<BB):1<=Lib.bitLen x/\Lib.bitLen x<=64/\2^(Lib.bitLen x-1)<=x/\x<2^Lib.bitLen x:=by have h':x<2^64:=h;obtain⟨E,H,I⟩:=Lib.bitLenAux_bounds 64 x h' (by omega);exact⟨E,Lib.bitLen_le x 64 (aaa _) h',H,I⟩
theorem Hs (xs:List Nat)(aZ:ok xs):gi xs=0↔val xs=0:=by
 rw[<-Qn xs];unfold gi;by_cases h:(Qw xs).length=0
 ·rw[if_pos h,aaq h];simp[val]
 rw[if_neg h];obtain⟨n,T⟩:∃n,(Qw xs).length=n+1:=⟨(Qw xs).length-1,by omega⟩;obtain⟨d,E,J⟩:=Vb xs n T;have K:d<BB:=Vt aZ d (aah E);rw[T,adQ,ab3,E];have:=Rl (aeM J) K;simp only[aeH];have U:=Xp (Qw xs) n (by omega)
 have O:(Qw xs).drop n=[d]:=by
  have H:n<(Qw xs).length:=by omega
  rw[aaS H];have I:=aad H;rw[E]at I;rw[<-aax I,aaR (by omega)]
 rw[O]at U;have Z:0<BB^n*val [d]:=aeO (adZ Xs) (by simp[val];omega);omega
theorem Wo (v:Value)(xs:List Nat)(w:World)(hr:Rd w v xs)(hl:xs.length<=1099511627776):Calls Tryz.prog 58 #[v] w fun e w'=>e=.returned (.int .i64 (gi xs:Nat))/\w=w':=by
 have HR:=zq hr;obtain⟨ao,cap,rfl,bq,hcm,aZ,aU⟩:=hr.2;have iw:=zq aU;have dt:=zq aZ;have hle:=Qu xs;obtain⟨n,hn⟩:=xq ((Qw xs).length);rw[<-hn]at hle;have HN:=zq hn;clear aU aZ hcm hr;by_cases h0:n=0
 ·have hb:gi xs=0:=by unfold gi;rw[if_pos (by omega)]
  have HB:=zq hb;subst h0;clear hb hn;go_enter Tryz.func58,Tryz.ntmps58;go_wp2_with fail;refine(X9 _ xs _ HR.o).mono ?_;rintro e w' ⟨rfl,rfl⟩;rw[<-HN.o];go_wp2_with fail;go_ret;exact⟨by rw[HB.o];rfl,rfl⟩
 obtain⟨m,rfl⟩:∃m,n=m+1:=⟨n-1,by omega⟩;obtain⟨d,hd,SJ⟩:=Vb xs m hn.symm
 have hdx:xs[m]?=some d:=by
  rw[(Yz xs).1,adX]at hd;split at hd
  ·exact hd
  cases hd
 have oK:=dt.o d (aah hdx)
 have hb:gi xs=64*m+Lib.bitLen d:=by unfold gi;rw[if_neg (by omega),<-hn,adQ,ab3,hd];rfl
 have hbl:=(Rl (aeM SJ) oK).2.1;obtain⟨k,hk⟩:=xq (Lib.bitLen d);rw[<-hk]at hb hbl;obtain⟨g,o,rfl,e1⟩:=iw.o m d hdx;have HB:=zq hb;have HK:=zq hk;have iV:=zq oK;clear hb hd hdx hk oK hn SJ;go_enter Tryz.func58,Tryz.ntmps58;go_wp2_with fail;refine(X9 _ xs _ HR.o).mono ?_;rintro e w' ⟨rfl,rfl⟩;rw[<-HN.o];go_wp2_with fail;refine(Tryz.bits_Len64 (d:Int) _ (by omega) (by have:=iV.o;unfold BB at this;omega)).mono ?_;rintro e w1 ⟨rfl,rfl⟩;rw[ae2,<-HK.o];go_wp2_with fail;go_ret;exact⟨by rw[HB.o];exact Ux (by omega),rfl⟩
def di (a b:Nat):Int:=if a<b then -1 else if b<a then 1 else 0
theorem Uk {l:List Nat}{k x:Nat}(h:l[k]?=some x):val (l.drop k)=x+BB*val (l.drop (k+1)):=by have E:k<l.length:=(aae.1 h).1;rw[aaS E];have:=aad E;rw[h]at this;rw[<-aax this];rfl
theorem Qhy {l:List Nat}{m:Nat}(h:(Qw l).length=m+1):BB^m<=val l:=by rw[<-Qn l];obtain⟨d,E,H⟩:=Vb l m h;rw[Xp (Qw l) m (by omega),Uk E];have I:BB^m*1<=BB^m*(d+BB*val ((Qw l).drop (m+1))):=adI _ (by omega);omega
theorem Hk {xs ys:List Nat}(hx:ok xs)(h:(Qw xs).length<(Qw ys).length):val xs<val ys:=by obtain⟨m,H⟩:∃m,(Qw ys).length=m+1:=⟨(Qw ys).length-1,by omega⟩;have I:=Qhy H;have E:=Yy (Vt hx);rw[Qn]at E;have J:BB^(Qw xs).length<=BB^m:=adE Xs (by omega);omega
theorem A6 {X Y:List Nat}{k x y:Nat}(hX:ok X)(hx:X[k]?=some x)(hy:Y[k]?=some y)(hd:val (X.drop (k+1))=val (Y.drop (k+1)))(hlt:x<y):val X<val Y:=by have lx:k<X.length:=(aae.1 hx).1;have ly:k<Y.length:=(aae.1 hy).1;rw[Xp X k (by omega),Xp Y k (by omega),Uk hx,Uk hy,hd];have h:=Yy (Zl hX k);rw[aak,abd (by omega)]at h;have E:BB^k*(x+BB*val (Y.drop (k+1))+1)<=BB^k*(y+BB*val (Y.drop (k+1))):=adI _ (by omega);rw[abp,aem]at E;omega
def Qha (a b:Nat)(w:World)(e:Ending)(w':World):Prop:=e=.returned (.int .i64 (di a b))/\Below w.heap.size w w'
def Qcm (X Y:List Nat)(w:World)(i:Value)(wr:World):Prop:=∃k:Nat,k<=X.length/\i=.int .i64 ((k:Int)-1)/\val (X.drop k)=val (Y.drop k)/\Below w.heap.size w wr
theorem Qh9 {X Y:List Nat}(h:val (X.drop 0)=val (Y.drop 0)):di (val X) (val Y)=0:=by rw[adq,adq]at h;unfold di;rw[h];simp
theorem Hv {a b:Nat}(h:a<b):di a b= -1:=if_pos h
theorem Qky {a b:Nat}(h:b<a):di a b=1:=by unfold di;rw[if_neg (by omega),if_pos h]
theorem Wz (v u:Value)(xs ys:List Nat)(w:World)(hv:Rd w v xs)(hu:Rd w u ys):Calls Tryz.prog 166 #[v,u] w (Qha (val xs) (val ys) w):=by
 have HV:=zq hv;have HU:=zq hu;obtain⟨ao,cap,rfl,bq,hcm,aZ,-⟩:=hv.2;obtain⟨bo,fz,rfl,qB,qp,ej,-⟩:=hu.2;have dt:=zq aZ;have iG:=zq ej;have hle:=Qu xs;have oO:=Qu ys;obtain⟨n,hn⟩:=xq ((Qw xs).length);obtain⟨m,hm⟩:=xq ((Qw ys).length);rw[<-hn]at hle;rw[<-hm]at oO
 have hb:xs.length<=9223372036854775807:=by unfold maxLen at hcm;omega
 have hb2:ys.length<=9223372036854775807:=by unfold maxLen at qp;omega
 have HN:=zq hn;have HM:=zq hm;clear hv hu aZ ej hcm qp hn hm;go_enter Tryz.func166,Tryz.ntmps166;go_wp2_with fail;refine(X9 _ xs _ HV.o).mono ?_;rintro e w' ⟨rfl,rfl⟩;rw[<-HN.o];go_wp2_with fail;refine(X9 _ ys _ HU.o).mono ?_;rintro e w' ⟨rfl,rfl⟩;rw[<-HM.o];by_cases xp:n=m
 ·have abl:((n:Int) !=(m:Int))=false:=by simp[xp]
  have EZ:=zq xp;clear xp
  have HX:Hid (val xs=val (xs.take n)):=by show _=_;rw[HN.o,<-(Yz xs).1,Qn]
  have HY:Hid (val ys=val (ys.take n)):=by show _=_;rw[EZ.o,HM.o,<-(Yz ys).1,Qn]
  have acM:n<=ys.length:=by have:=EZ.o;omega
  go_wp2_with fail;go_loopw [7] (fun i wr=>Qcm (xs.take n) (ys.take n) w i wr) (fun i _=>(intOf i+1).toNat)
  case atStart=>exact⟨n,by rw[aak];omega,rfl,by rw[aaR (by rw[aak];omega),aaR (by rw[aak];omega)],aa8 _ _⟩
  case round=>
   obtain⟨k,hk,rfl,hd,hbl⟩:=hrel;rw[aak,abd hle]at hk;have HD:=zq hd;have aP:=zq hbl;clear hd hbl
   cases k with
   |zero=>
    have tA: ¬((0:Int)<=((0:Nat):Int)-1):=by omega
    have HZ:=zq (Qh9 HD.o);rw[<-HX.o,<-HY.o]at HZ;go_wp2_with fail;go_ret
    exact⟨by rw[HZ.o];rfl,aP.o⟩
   |succ k=>
    have fg:(((k+1:Nat):Int)-1)=(k:Int):=by omega
    rw[fg];clear fg;obtain⟨x,hx⟩:∃x,xs[k]?=some x:=⟨_,aad (by omega)⟩;obtain⟨y,hy⟩:∃y,ys[k]?=some y:=⟨_,aad (by omega)⟩;obtain⟨ao',cap',e,-,-,-,aU⟩:=(HV.o.below aP.o).2
    cases e
    obtain⟨g,o,rfl,e1⟩:=aU k x hx;obtain⟨bo',ab8,e',-,-,-,mY⟩:=(HU.o.below aP.o).2
    cases e'
    obtain⟨g2,o2,rfl,e2⟩:=mY k y hy
    have xC:(xs.take n)[k]?=some x:=by rw[adX,if_pos (by omega)];exact hx
    have hyt:(ys.take n)[k]?=some y:=by rw[adX,if_pos (by omega)];exact hy
    have XU:=zq xC;have XW:=zq hyt;have eu:(0:Int)<=(k:Int):=abP _
    have dc:(k:Int)<(xs.length:Int):=by omega
    have jV:(k:Int)<(ys.length:Int):=by omega
    clear aU mY hx hy xC hyt;by_cases hlt:x<y
    ·have hb1:decide (x<y)=true:=by simp[hlt]
     have HF:Hid (di (val xs) (val ys)= -1):=by show _=_;rw[HX.o,HY.o];exact Hv (A6 (Zl dt.o _) XU.o XW.o HD.o hlt)
     clear hlt;go_wp2_with fail;go_quiet (fail);go_wp2_with fail;go_ret;exact⟨by rw[HF.o];rfl,below_drewN aP.o _⟩
    have hb1:decide (x<y)=false:=by simp[hlt]
    by_cases gN:y<x
    ·have hb3:decide (y<x)=true:=by simp[gN]
     have HF:Hid (di (val xs) (val ys)=1):=by show _=_;rw[HX.o,HY.o];exact Qky (A6 (Zl iG.o _) XW.o XU.o HD.o.symm gN)
     clear hlt gN;go_wp2_with fail;go_quiet (fail);go_wp2_with fail;go_quiet (fail);go_wp2_with fail;go_ret;exact⟨by rw[HF.o];rfl,below_drewN (below_drewN aP.o _) _⟩
    have hb3:decide (y<x)=false:=by simp[gN]
    have HF:Hid (val ((xs.take n).drop k)=val ((ys.take n).drop k)):=by show _=_;rw[Uk XU.o,Uk XW.o,HD.o,show x=y from by omega]
    clear hlt gN;go_wp2_with fail;go_quiet (fail);go_wp2_with fail;go_quiet (fail);go_wp2_with fail
    exact⟨⟨k,by rw[aak];omega,rfl,HF.o,below_drewN aP.o _⟩,by simp[intOf]<;>omega⟩
 have abl:((n:Int) !=(m:Int))=true:=by simp;omega
 by_cases hlt:n<m
 ·have hb1:decide (n<m)=true:=by simp[hlt]
  have HF:Hid (di (val xs) (val ys)= -1):=Hv (Hk dt.o (by rw[<-HN.o,<-HM.o];exact hlt));clear hlt xp;go_wp2_with fail;go_ret;exact⟨by rw[HF.o];rfl,aa8 _ _⟩
 have hb1:decide (n<m)=false:=by simp[hlt]
 have HF:Hid (di (val xs) (val ys)=1):=Qky (Hk iG.o (by rw[<-HN.o,<-HM.o];omega));clear hlt xp;go_wp2_with fail;go_ret;exact⟨by rw[HF.o];rfl,aa8 _ _⟩
def iK (L:List Nat)(y k r:Nat)(M:List Nat):Prop:=M.length=L.length/\M.take k=L.take k/\r<y/\val (L.drop k)=val (M.drop k)*y+r
theorem iK.start (L:List Nat){y:Nat}(hy:0<y):iK L y L.length 0 L:=⟨rfl,rfl,hy,by rw[aaR (aaa _)];simp[val]⟩
theorem iK.at {L M:List Nat}{y k r x:Nat}(h:iK L y (k+1) r M)(hx:M[k]?=some x):L[k]?=some x:=by have:=aa7 (fun l=>l[k]?) h.2.1;simp only[adX,aet,if_true]at this;rw[<-this];exact hx
theorem iK.step {L M:List Nat}{y k r x:Nat}(h:iK L y (k+1) r M)(hx:M[k]?=some x):iK L y k ((r*BB+x) % y) (M.set k ((r*BB+x) / y)):=by
 have J:=h.at hx;obtain⟨E,H,O,I⟩:=h;have K:k<M.length:=(aae.1 hx).1;refine⟨by rw[ab6,E],?_,ad8 _ (by omega),?_⟩
 ·rw[Nn _ (aaa _)]
  have:=aa7 (List.take k) H;rw[aeK,aeK,abd (Nat.le_succ k)]at this;exact this
 have e1:(M.set k ((r*BB+x) / y))[k]?=some ((r*BB+x) / y):=by rw[ad9 K]
 rw[Uk J,Uk e1,Si,I];have:=ad5 (r*BB+x) y;generalize (r*BB+x) / y=q at*;generalize (r*BB+x) % y=t at*;rw[abp,ab5,aaW BB r,abF,aaW y q]at*;omega
theorem iK.fin {L M:List Nat}{y r:Nat}(h:iK L y 0 r M):M.length=L.length/\val M=val L / y/\r=val L % y:=by
 obtain⟨I,_,H,E⟩:=h;rw[adq,adq]at E
 have J:0<y:=by omega
 refine⟨I,?_,?_⟩
 ·rw[E,aaW,Nat.mul_add_div J,Nat.div_eq_of_lt H,adt]
 rw[E,aaW,Nat.mul_add_mod,Nat.mod_eq_of_lt H]
def Qp3 (a y m:Nat)(w:World)(e:Ending)(w':World):Prop:=∃v qs,e=.returned (.tuple #[v,.int .u64 (a % y:Nat),.int .i64 0])/\Fr w.heap.size w' v qs/\val qs=a / y/\qs.length<=m/\Qw qs=qs/\Below w.heap.size w w'
theorem Kh (v:Value)(xs:List Nat)(y:Nat)(w:World)(hv:Rd w v xs)(hl:xs.length<=549755813888)(kB:0<y)(hy:y<BB):Calls Tryz.prog 254 #[v,.int .u64 (y:Nat)] w (Qp3 (val xs) y xs.length w):=by
 have HV:=zq hv;obtain⟨ao,cap,rfl,bq,hcm,aZ,-⟩:=hv.2
 have hyz:((y:Int)==0)=false:=by simp;omega
 have HY:=zq hy;have yz:=zq kB;clear hv aZ hcm hy kB;go_enter Tryz.func254,Tryz.ntmps254;go_wp2_with fail;refine(Vy _ xs _ HV.o (by omega)).mono ?_;rintro e w1 ⟨rfl,hB,hb⟩;obtain⟨X,hX⟩:=xq (Qw xs)
 have sX:X.length<=549755813888:=by have:=Qu xs;rw[hX];omega
 have aap:X.length<=xs.length:=by have:=Qu xs;rw[hX];omega
 rw[<-hX]at hB ⊢;have HX:=zq hX;have HB:=zq hB;have aP:=zq hb;have dW:=zq (iK.start X yz.o);obtain⟨g,hg⟩:=xq w.heap.size;rw[<-hg]at HB ⊢;have HG:=zq hg;obtain⟨n,hn⟩:=xq X.length;rw[<-hn]at sX aap dW ⊢;have HN:=zq hn;clear hX hB hb hg hn;go_wp2_with fail;go_loopw [8,9] (fun r i wr=> ∃(k rr:Nat) (M:List Nat),k<=n/\i=.int .i64 ((k:Int)-1)/\r=.int .u64 (rr:Nat)/\iK X y k rr M/\ba wr g M/\w1.grownBy wr (some g)) (fun _ i _=>(intOf i+1).toNat)
 case atStart=>exact⟨n,0,X,aaa _,rfl,rfl,dW.o,HB.o,X1 _ _⟩
 case round=>
  obtain⟨k,rr,M,hk,rfl,rfl,hst,hM,hgr⟩:=hrel;have HST:=zq hst;have HM:=zq hM;have bn:=zq hgr
  have ct:M.length=n:=by rw[hst.1,HN.o]
  clear hst hM hgr
  cases k with
  |zero=>
   have tA: ¬((0:Int)<=((0:Nat):Int)-1):=by omega
   have HF:=zq HST.o.fin;have FN:Hid (Below w.heap.size w wr):=abq aP.o bn.o aP.o.size (fun q hq=>by cases hq;rw[HG.o];exact aaa _)
   have HR:Hid (Rd wr (.slice (some ⟨g,0,none⟩) n n) M):=by have h0:=HM.o.whole (by omega);rw[ct]at h0;exact h0
   clear dW HB;go_wp2_with fail;refine(Vy _ M _ HR.o (by omega)).mono ?_;rintro e w3 ⟨rfl,kj,hb3⟩;have aS:=zq kj;have nW:Hid (Below w.heap.size w w3):=FN.o.trans (hb3.mono FN.o.size);have hz:=FN.o.size;clear kj hb3;go_wp2_with fail;go_ret3;have hsM:=Qu M;refine⟨_,Qw M,by rw[<-Qn xs,<-HX.o,<-HF.o.2.2];rfl,⟨aS.o.whole (by omega),fun q hq=>by cases hq;exact⟨hz,aS.o.lt⟩⟩,?_,by omega,Yo M,nW.o⟩
   rw[Qn,HF.o.2.1,HX.o,Qn]
  |succ k=>
   have fg:(((k+1:Nat):Int)-1)=(k:Int):=by omega
   rw[fg];clear fg;obtain⟨x,hx⟩:∃x,M[k]?=some x:=⟨_,aad (by omega)⟩;have gO:=HM.o.2 x (aah hx);have wC:=zq gO;have jH:=HST.o.2.2.1;have iW:=zq jH;have cr:=zq (HST.o.step hx);have e1:=HM.o.cell hx
   have hq:(rr*BB+x) / y<BB:=by rw[adL yz.o];have h2:(rr+1)*BB<=y*BB:=abW _ jH;rw[aaW BB y];rw[ab5,ad0]at h2;omega
   obtain⟨q,GX⟩:=xq ((rr*BB+x) / y);obtain⟨r2,bu⟩:=xq ((rr*BB+x) % y);rw[<-GX]at hq cr;rw[<-bu]at cr;have HQ:=zq hq;have qR:=zq GX;have fB:=zq bu;have eu:(0:Int)<=(k:Int):=abP _
   have dc:(k:Int)<(n:Int):=by omega
   clear hx gO hq jH GX bu;go_wp2_with fail;refine(Qwl rr x y _ wC.o iW.o HY.o).mono ?_;rintro e w3 ⟨rfl,hb3⟩;rw[<-qR.o,<-fB.o];have mj:=zq (HM.o.below hb3 HM.o.lt);have VD:=zq (Sh bn.o hb3);have HS:=zq (mj.o.set k HQ.o);obtain⟨z,hz⟩:∃z,M[k]?=some z:=⟨_,aad (by omega)⟩;have e4:=mj.o.cell hz;have e3:=mj.o.frozen k;clear hz hb3 e1;go_wp2_with fail
   have ah:∃(k' rr':Nat) (M':List Nat),k'<=n/\Value.int .i64 ((k:Int)-1)=.int .i64 ((k':Int)-1)/\Value.int .u64 (r2:Nat)=.int .u64 (rr':Nat)/\iK X y k' rr' M'/\ba (w3.setCell ⟨g,k,none⟩ (.int .u64 (q:Nat))) g M'/\w1.grownBy (w3.setCell ⟨g,k,none⟩ (.int .u64 (q:Nat))) (some g):=
    ⟨k,r2,M.set k q,by omega,rfl,rfl,cr.o,HS.o.1,Xz VD.o HS.o.2⟩
   first|exact⟨ah,by simp[intOf]<;>omega⟩|exact⟨by (repeat apply Exists.intro);exact⟨ah,rfl⟩,by simp[intOf]<;>omega⟩
def lh (L:List Nat)(S n i c:Nat)(M:List Nat):Prop:=M.length=n/\c<S/\val (M.take i)+BB^i*c=val (L.take i)*S
theorem lh.start (L:List Nat){S:Nat}(hS:0<S)(n:Nat):lh L S n 0 0 (List.replicate n 0):=⟨aa9,hS,by simp[val]⟩
theorem lh.step {L M:List Nat}{S n i c x c2 lo:Nat}(h:lh L S n i c M)(hi:i<n)(hx:(L[i]?=some x)\/(L.length<=i/\x=0))(hs:x*S=c2*BB+lo)(hc:c2<S):lh L S n (i+1) c2 (M.set i (lo+c)):=by
 obtain⟨H,J,I⟩:=h;refine⟨by rw[ab6,H],hc,?_⟩
 have e1:(M.set i (lo+c)).take (i+1)=M.take i++[lo+c]:=by have:=Rf (l:=M) (o:=0) (i:=i) (lo+c) (by omega);rw[adq,adq,abx]at this;exact this
 have e2:val (L.take (i+1))=val (L.take i)+BB^i*x:=by
  rcases hx with hx|⟨hx,rfl⟩
  ·have E:i<L.length:=(aae.1 hx).1
   rw[Xa E];have:=aad E;rw[hx]at this;rw[<-aax this]
  rw[aat hx,aat (by omega)];simp
 rw[e1,Zb,aak,abd (by omega),e2,ab5,<-I,abF,hs];rw[ady,abp,abp,abF,aaW BB c2];omega
theorem lh.fin {L M:List Nat}{S n c:Nat}(h:lh L S n n c M)(hl:L.length<=n)(hv:val L*S<BB^n):val M=val L*S:=by obtain⟨H,I,E⟩:=h;rw[aat (by omega),aat hl]at E;exact(Sc E hv).2
theorem Qvh {x s t:Nat}(hx:x<BB)(hst:s+t=64)(hs:s<64):∃lo c2,x*2^s=c2*BB+lo/\lo<BB/\lo % 2^s=0/\c2<2^s/\IntKind.u64.wrap ((x:Int)*2^s)=(lo:Int)/\(x:Int) / 2^t=(c2:Int)/\(s=0->c2=0):=by
 have E:BB=2^t*2^s:=by rw[<-ad3,show t+s=64 from by omega];rfl
 have H:0<2^s:=adZ (by omega);have I:0<2^t:=adZ (by omega)
 have e:(x:Int)*2^s=((x*2^s:Nat):Int):=by rw[ad1,aeq];rfl
 have e2:(x:Int) / 2^t=((x / 2^t:Nat):Int):=by rw[Int.natCast_ediv,aeq];rfl
 have J:x*2^s / BB=x / 2^t:=by rw[E];exact Nat.mul_div_mul_right _ _ H
 have h:=ad5 (x*2^s) BB;rw[J,aaW]at h;refine⟨x*2^s % BB,x / 2^t,h.symm,ad8 _ Xs,?_,?_,?_,e2,?_⟩
 ·rw[E,Nat.mul_mod_mul_right,Nat.mul_mod_left]
 ·rw[adL I,aaW,<-E];exact hx
 ·rw[e,abV]
  have:((x*2^s % BB:Nat):Int)=((x*2^s:Nat):Int) % (BB:Nat):=Int.natCast_emod _ _;rw[this];rfl
 rintro rfl
 have:t=64:=by omega
 subst this;exact Nat.div_eq_of_lt hx
theorem Wi {w1 wr:World}{B g:Nat}(h:w1.grownBy wr (some g))(hB:B<=w1.heap.size)(hg:B<=g):Below B w1 wr:=
 ⟨h.os,h.tape,h.output,h.size,fun k hk=>h.block k (by omega) (fun e=>by cases e;omega)⟩
def Qhe (V n:Nat)(w:World)(e:Ending)(w':World):Prop:=∃M,e=.returned (.slice (some ⟨w.heap.size,0,none⟩) n n)/\ba w' w.heap.size M/\M.length=n/\val M=V/\Below w.heap.size w w'
def Qcq (L:List Nat)(S n g:Nat)(w1:World)(cv i:Value)(wr:World):Prop:=∃(k c:Nat) (M:List Nat),k<=n/\i=.int .i64 (k:Nat)/\cv=.int .u64 (c:Nat)/\lh L S n k c M/\ba wr g M/\w1.grownBy wr (some g)
theorem Po (v:Value)(xs:List Nat)(s n:Nat)(w:World)(hv:Rd w v xs)(hs:s<64)(hn:n<=1099511627776)(hl:xs.length<=n)(MI:val xs*2^s<BB^n):Calls Tryz.prog 279 #[v,.int .u64 (s:Nat),.int .i64 (n:Nat)] w (Qhe (val xs*2^s) n w):=by
 have HV:=zq hv;obtain⟨ao,cap,rfl,bq,hcm,aZ,-⟩:=hv.2;have dt:=zq aZ;have oh:=Zk n hn;obtain⟨g,hg⟩:=xq w.heap.size;have HB:=(ba.made w n).1;obtain⟨w1,aQ⟩:=xq (w.alloc (.cells (madeCells #[.int .u64 0] n) 101));have aP:=Qq w (.cells (madeCells #[.int .u64 0] n) 101);rw[<-aQ]at aP
 have aC:Hid (ba w1 g (List.replicate n 0)):=by rw[aQ,hg];exact ba.made w n
 obtain⟨t,ht⟩:=xq (64-s)
 have hst:s+t=64:=by omega
 have E1:IntKind.u64.wrap (64-(s:Int))=(t:Int):=by rw[abV];omega
 have E2:min s 64=s:=by omega
 have E3:min t 64=t:=by omega
 have dW:=zq (lh.start xs (adZ (n:=s) (show 0<2 by omega)) n);have rM:=zq MI;have vO:=zq aP;have HG:=zq hg;have iX:=zq aQ;have HT:=zq ht;clear hv aZ hcm HB aP hg aQ ht MI;go_enter Tryz.func279,Tryz.ntmps279;go_wp2_with fail;rw[<-iX.o,<-HG.o];go_loopw [8,15] (fun cv i wr=>Qcq xs (2^s) n g w1 cv i wr) (fun _ i _=>n-(intOf i).toNat)
 case atStart=>exact⟨0,0,_,aao _,rfl,rfl,dW.o,aC.o,X1 _ _⟩
 case round=>
  obtain⟨k,c,M,hk,rfl,rfl,iO,hM,hgr⟩:=hrel;have HST:=zq iO;have HM:=zq hM;have bn:=zq hgr;have ct:M.length=n:=iO.1;have dV:=zq ct;clear iO hM hgr ct;by_cases hlt:k<n
  ·obtain⟨z,hz⟩:∃z,M[k]?=some z:=⟨_,aad (by rw[dV.o];exact hlt)⟩
   have e4:=HM.o.cell hz;have e3:=HM.o.frozen k;have eu:(0:Int)<=(k:Int):=abP _
   have dc:(k:Int)<(n:Int):=by omega
   clear hz
   have fin:∀x lo c2,((xs[k]?=some x)\/(xs.length<=k/\x=0))->x*2^s=c2*BB+lo->c2<2^s->lo+c<BB->Qcq xs (2^s) n g w1 (.int .u64 (c2:Nat)) (.int .i64 ((k:Int)+1)) (wr.setCell ⟨g,k,none⟩ (.int .u64 ((lo+c:Nat):Int))):=fun x lo c2 h1 h2 h3 h4=>by have HS:=HM.o.set k h4;exact⟨k+1,c2,_,by omega,by go_num,rfl,HST.o.step hlt h1 h2 h3,HS.1,Xz bn.o HS.2⟩
   have sum:∀lo c2 x,lo<BB->lo % 2^s=0->x*2^s=c2*BB+lo->lo+c<BB/\bits BinOp.or IntKind.u64 (lo:Int) (c:Int)=((lo+c:Nat):Int):=fun lo c2 x h1 h2 h3=>by
    have hc:=HST.o.2.1;have tW:0<2^s:=adZ (by omega)
    have h5:lo+c<BB:=by
     have hT:BB=2^t*2^s:=by rw[<-ad3,show t+s=64 from by omega];rfl
     obtain⟨q,hq⟩:=Nat.dvd_of_mod_eq_zero h2;rw[hT]at h1 ⊢;rw[hq,aaW]at h1 ⊢;have h6:=Nat.lt_of_mul_lt_mul_right h1;have h7:(q+1)*2^s<=2^t*2^s:=abW _ h6;rw[ab5,ad0]at h7;omega
    exact⟨h5,Bu lo c s h1 h2 hc (by unfold BB at h5;omega)⟩
   by_cases jb:k<xs.length
   ·obtain⟨x,hx⟩:∃x,xs[k]?=some x:=⟨_,aad jb⟩
    obtain⟨ao',cap',e,-,-,-,aU⟩:=(HV.o.below (vO.o.trans (Wi bn.o vO.o.size (by rw[HG.o];exact aaa _)))).2
    cases e
    obtain⟨g2,o2,rfl,e5⟩:=aU k x hx;obtain⟨lo,c2,f1,f2,f3,f4,f5,f6,f7⟩:=Qvh (dt.o x (aah hx)) hst hs;obtain⟨f8,f9⟩:=sum lo c2 x f2 f3 f1;have aR:=zq (fin x lo c2 (.inl hx) f1 f4 f8);have Iz:=zq f7
    have jV:(k:Int)<(xs.length:Int):=by omega
    obtain⟨sm,hsm⟩:=xq (lo+c);rw[<-hsm]at f9 aR;clear aU hx f1 f2 f3 f4 f7 f8 fin sum hsm;by_cases hs0:0<s
    ·have jI:decide (0<(s:Int))=true:=by simp;omega
     go_wp2_with fail
     exact⟨aR.o,by simp[intOf]<;>omega⟩
    have Oo:s=0:=by omega
    have jI:decide (0<(s:Int))=false:=by simp;omega
    obtain rfl:=Iz.o Oo;clear Oo f6;go_wp2_with fail
    exact⟨aR.o,by simp[intOf]<;>omega⟩
   have f1:0*2^s=0*BB+0:=by simp
   obtain⟨f8,f9⟩:=sum 0 0 0 Xs (Nat.zero_mod _) f1;have aR:=zq (fin 0 0 0 (.inr ⟨by omega,rfl⟩) f1 (adZ (by omega)) f8)
   have f9':bits BinOp.or IntKind.u64 0 (c:Int)=(c:Int):=by rw[abx]at f9;exact f9
   rw[abx]at aR;have f5:IntKind.u64.wrap (0:Int)=0:=rfl
   have jV: ¬((k:Int)<(xs.length:Int)):=by omega
   clear f1 f8 f9 fin sum;by_cases hs0:0<s
   ·have jI:decide (0<(s:Int))=true:=by simp;omega
    go_wp2_with fail
    exact⟨aR.o,by simp[intOf]<;>omega⟩
   have jI:decide (0<(s:Int))=false:=by simp;omega
   go_wp2_with fail
   exact⟨aR.o,by simp[intOf]<;>omega⟩
  obtain rfl:k=n:=by omega
  have HF:=zq (HST.o.fin hl rM.o);go_wp2_with fail;go_ret;exact⟨M,by rw[<-HG.o];rfl,by rw[<-HG.o];exact HM.o,dV.o,HF.o,vO.o.trans (Wi bn.o vO.o.size (by rw[HG.o];exact aaa _))⟩
def Ah (v1 W Q:Nat)(d rr:Value):Prop:=∃dn rn:Nat,d=.int .u64 (dn:Nat)/\rr=.int .u64 (rn:Nat)/\Hid (dn*v1+rn=W)/\Hid (Q<=dn)/\Hid (rn<BB)/\Hid (dn<BB)
structure xY (v1 W Q dn rn d2 s c:Nat):Prop where
 f1:IntKind.u64.wrap ((dn:Int)-1)=(d2:Int)
 run:∀w:World,(callFunc 286 #[.int .u64 (rn:Nat),.int .u64 (v1:Nat),.int .u64 0]).run Tryz.prog w=.ok (.value (.tuple #[.int .u64 (s:Nat),.int .u64 (c:Nat)])) w
 lt:d2<dn
 way:(((c:Int) !=0)=true/\Q=d2)\/(((c:Int) !=0)=false/\Ah v1 W Q (.int .u64 (d2:Nat)) (.int .u64 (s:Nat)))
theorem Qkn {W u0 v1 v0 Q dn rn:Nat}(hQ:Q=gq (W*BB+u0) (v1*BB+v0))(hv0:v0<BB)(gB:0<v1)(eG:v1<BB)(hi:dn*v1+rn=W)(hr:rn<BB)(hd:dn<BB)(ht:rn*BB+u0<dn*v0):∃d2 s c,xY v1 W Q dn rn d2 s c:=by
 have T:0<dn:=aeM fun h=>by rw[h,aeD]at ht;omega
 have H:=Qbr hi ht gB;rw[<-hQ]at H;obtain⟨s,c,O,U,E,I⟩:=Zm rn v1 0 hr eG (aao _)
 have J:(dn-1)*v1+(rn+v1)=W:=by obtain⟨k,rfl⟩:∃k,dn=k+1:=⟨dn-1,by omega⟩;rw[ab5,ad0]at hi;rw[adQ];omega
 refine⟨dn-1,s,c,?_,I,by omega,?_⟩
 ·unfold BB at hd;rw[abV];omega
 by_cases hc0:c=0
 ·subst hc0
  exact .inr ⟨by simp,dn-1,s,rfl,rfl,by show _=_;rw[aec]at E;rw[show s=rn+v1 from by omega];exact J,H,O,show dn-1<BB by omega⟩
 refine .inl ⟨by simp;omega,?_⟩
 have K:c=1:=by omega
 rw[K,aem]at E;rw[hQ];exact Qkl J (by omega) hv0 (by omega) (by rw[<-hQ];exact H) gB
theorem Qqz {W u0 v1 v0 Q dn rn hi lo:Nat}(hQ:Q=gq (W*BB+u0) (v1*BB+v0))(uk:u0<BB)(hv0:v0<BB)(gB:0<v1)(eG:v1<BB)(hI:dn*v1+rn=W)(hg:Q<=dn)(hr:rn<BB)(hd:dn<BB)
  (ei:lo<BB) (hp:hi*BB+lo=dn*v0):
  (decide (hi<rn)=true/\Q=dn)\/(decide (hi<rn)=false/\((hi:Int)==(rn:Int))=true/\decide (lo<=u0)=true/\Q=dn)\/
  (decide (hi<rn)=false/\(((hi:Int)==(rn:Int))=false\/(((hi:Int)==(rn:Int))=true/\decide (lo<=u0)=false))/\ ∃d2 s c,xY v1 W Q dn rn d2 s c):=by
 by_cases h1:hi<rn
 ·refine .inl ⟨by simp[h1],?_⟩
  rw[hQ];refine Bz hI hd ?_ (by rw[<-hQ];exact hg) gB;rw[<-hp];have:(hi+1)*BB<=rn*BB:=abW _ h1;rw[ab5,ad0]at this;omega
 by_cases h2:hi=rn
 ·subst h2
  by_cases h3:lo<=u0
  ·refine .inr (.inl ⟨by simp,by simp,by simp[h3],?_⟩)
   rw[hQ];exact Bz hI hd (by rw[<-hp];omega) (by rw[<-hQ];exact hg) gB
  exact .inr (.inr ⟨by simp,.inr ⟨by simp,by simp[h3]⟩,Qkn hQ hv0 gB eG hI hr hd (by rw[<-hp];omega)⟩)
 refine .inr (.inr ⟨by simp;omega,.inl (by simp;omega),Qkn hQ hv0 gB eG hI hr hd ?_⟩);rw[<-hp];have:(rn+1)*BB<=hi*BB:=abW _ (by omega);rw[ab5,ad0]at this;omega
def Ea (q:Nat)(w:World)(e:Ending)(w':World):Prop:=e=.returned (.int .u64 (q:Nat))/\ ∃k,w'=w.drewN k
theorem Qw0 (u2 u1 u0 v1 v0:Nat)(w:World)(hu2:u2<=v1)(xz:u1<BB)(uk:u0<BB)(gB:0<v1)(eG:v1<BB)(hv0:v0<BB):Calls Tryz.prog 280 #[.int .u64 (u2:Nat),.int .u64 (u1:Nat),.int .u64 (u0:Nat),.int .u64 (v1:Nat),.int .u64 (v0:Nat)] w (Ea (gq ((u2*BB+u1)*BB+u0) (v1*BB+v0)) w):=by
 obtain⟨W,hW⟩:=xq (u2*BB+u1);rw[<-hW];obtain⟨Q,hQ⟩:=xq (gq (W*BB+u0) (v1*BB+v0));rw[<-hQ];have HQ:=zq hQ;have HW:=zq hW;have yt:=zq xz;have HU0:=zq uk;have qc:=zq gB;have AK:=zq eG;have FM:=zq hv0;by_cases tA:v1<=u2
 ·obtain⟨s,c,hs,hc,mZ,hrun⟩:=Zm u1 v1 0 xz eG (aao _)
  have hrun':∀w:World,(callFunc 286 #[.int .u64 (u1:Nat),.int .u64 (v1:Nat),.int .u64 0]).run Tryz.prog w=.ok (.value (.tuple #[.int .u64 (s:Nat),.int .u64 (c:Nat)])) w:=hrun
  have aaM:decide (v1<=u2)=true:=by simp[tA]
  have he:u2=v1:=by omega
  have hI:(BB-1)*v1+(u1+v1)=W:=by
   rw[hW,he]
   have:v1*BB=(BB-1)*v1+v1:=by
    have h1:BB=BB-1+1:=by have:=Xs;omega
    conv=>lhs;rw[h1,abp,aem,aaW]
   omega
  have fN:Q<=BB-1:=by rw[hQ];exact Qc0
  have dw:Hid (∃k,w=w.drewN k):=⟨0,rfl⟩;by_cases hc0:c=0
  ·have hcb:((c:Int) !=0)=false:=by simp[hc0]
   have HST:Hid (Ah v1 W Q (.int .u64 18446744073709551615) (.int .u64 (s:Nat))):=by
    refine⟨BB-1,s,rfl,rfl,?_,fN,hs,?_⟩
    ·show _=_
     rw[hc0,aec]at mZ;rw[show s=u1+v1 from by omega];exact hI
    show _<_;have:=Xs;omega
   clear hQ hW xz uk gB eG hv0 hu2 tA hs hc mZ hrun hc0 he hI fN;go_enter Tryz.func280,Tryz.ntmps280;go_wp2_with fail;go_step3;go_wp2_with fail;go_step3;go_wp2_with fail;go_loopw [11,12] (fun d rr wr=>Ah v1 W Q d rr/\wr=w) (fun d _ _=>(intOf d).toNat)
   case atStart=>exact⟨HST.o,rfl⟩
   clear HST
   case round=>
    obtain⟨⟨dn,rn,rfl,rfl,dc,hg1,xu,pA⟩,rfl⟩:=hrel;obtain⟨hi,lo,ei,hp,hmul⟩:=Nw dn v0 pA.o FM.o;have HC:=zq (Qqz HQ.o HU0.o FM.o qc.o AK.o dc.o hg1.o xu.o pA.o ei hp);have eL:=zq hmul;clear ei hp hmul;rcases HC.o with ⟨t1,hq⟩|⟨t1,t2,t3,hq⟩|⟨t1,t2|⟨t2,t3⟩,d2,s2,c2,f1,dQ,hlt,⟨t4,hq⟩|⟨t4,hrel⟩⟩
    ·have cY:=zq hq
     clear hq HC;go_wp2_with fail;refine(eL.o _).mono ?_;rintro e w9 ⟨rfl,rfl⟩;go_wp2_with fail;rw[aeB];go_ret;exact⟨by rw[cY.o];rfl,dw.o⟩
    ·have cY:=zq hq
     clear hq HC;go_wp2_with fail;refine(eL.o _).mono ?_;rintro e w9 ⟨rfl,rfl⟩;go_wp2_with fail;rw[aeB];go_ret;exact⟨by rw[cY.o];rfl,dw.o⟩
    ·have cY:=zq hq
     clear hq HC hlt;go_wp2_with fail;refine(eL.o _).mono ?_;rintro e w9 ⟨rfl,rfl⟩;go_wp2_with fail;rw[aeB];go_ret;exact⟨by rw[cY.o];rfl,dw.o⟩
    ·have cZ:=zq hrel
     clear hrel HC;go_wp2_with fail;refine(eL.o _).mono ?_;rintro e w9 ⟨rfl,rfl⟩;go_wp2_with fail
     first|exact⟨⟨cZ.o,trivial⟩,by simp[intOf]<;>omega⟩|exact⟨⟨cZ.o,rfl⟩,by simp[intOf]<;>omega⟩
    ·have cY:=zq hq
     clear hq HC hlt;go_wp2_with fail;refine(eL.o _).mono ?_;rintro e w9 ⟨rfl,rfl⟩;go_wp2_with fail;rw[aeB];go_ret;exact⟨by rw[cY.o];rfl,dw.o⟩
    have cZ:=zq hrel;clear hrel HC;go_wp2_with fail;refine(eL.o _).mono ?_;rintro e w9 ⟨rfl,rfl⟩;go_wp2_with fail
    first|exact⟨⟨cZ.o,trivial⟩,by simp[intOf]<;>omega⟩|exact⟨⟨cZ.o,rfl⟩,by simp[intOf]<;>omega⟩
  have hcb:((c:Int) !=0)=true:=by simp;omega
  have cY:Hid (Q=18446744073709551615):=by
   show _=_
   have hc1:c=1:=by omega
   rw[hc1,aem]at mZ;have h9:gq (W*BB+u0) (v1*BB+v0)=BB-1:=Qkl hI (Nat.sub_lt Xs Nat.one_pos) hv0 (by omega) (by rw[<-hQ];exact fN) gB;rw[hQ,h9];rfl
  clear hQ hW xz uk gB eG hv0 hu2 tA hs hc mZ hrun hc0 he hI fN;go_enter Tryz.func280,Tryz.ntmps280;go_wp2_with fail;go_step3;go_wp2_with fail;rw[aeB];go_ret;exact⟨by rw[cY.o];rfl,dw.o⟩
 have cE:u2<v1:=by omega
 have VN:=zq cE
 have aaM:decide (v1<=u2)=false:=by simp;omega
 have hWv:W<v1*BB:=by rw[hW];have:(u2+1)*BB<=v1*BB:=abW _ cE;rw[ab5,ad0]at this;omega
 have HST:Hid (Ah v1 W Q (.int .u64 (W / v1:Nat)) (.int .u64 (W % v1:Nat))):=by
  refine⟨W / v1,W % v1,rfl,rfl,?_,?_,aed (ad8 _ gB) eG,(adL gB).2 (by rw[aaW];exact hWv)⟩
  ·show _=_
   rw[aaW];exact ad5 W v1
  show _<=_;rw[hQ];exact Qgi uk gB
 obtain⟨q,hq⟩:=xq (W / v1);obtain⟨r,hr⟩:=xq (W % v1);rw[<-hq,<-hr]at HST;have qR:=zq hq;have fB:=zq hr;clear hQ hW xz uk gB eG hv0 hu2 tA cE hWv hq hr;go_enter Tryz.func280,Tryz.ntmps280;go_wp2_with fail;go_step3;go_wp2_with fail;refine(Qkf u2 u1 v1 _ yt.o VN.o AK.o).mono ?_;rintro e w1 ⟨rfl,hb⟩;rw[<-HW.o,<-qR.o,<-fB.o];have dw:=zq hb;clear hb;go_wp2_with fail;go_step3;go_wp2_with fail;go_loopw [11,12] (fun d rr wr=>Ah v1 W Q d rr/\wr=w1) (fun d _ _=>(intOf d).toNat)
 case atStart=>exact⟨HST.o,rfl⟩
 clear HST
 case round=>
  obtain⟨⟨dn,rn,rfl,rfl,dc,hg1,xu,pA⟩,rfl⟩:=hrel;obtain⟨hi,lo,ei,hp,hmul⟩:=Nw dn v0 pA.o FM.o;have HC:=zq (Qqz HQ.o HU0.o FM.o qc.o AK.o dc.o hg1.o xu.o pA.o ei hp);have eL:=zq hmul;clear ei hp hmul;rcases HC.o with ⟨t1,hq⟩|⟨t1,t2,t3,hq⟩|⟨t1,t2|⟨t2,t3⟩,d2,s2,c2,f1,dQ,hlt,⟨t4,hq⟩|⟨t4,hrel⟩⟩
  ·have cY:=zq hq
   clear hq HC;go_wp2_with fail;refine(eL.o _).mono ?_;rintro e w9 ⟨rfl,rfl⟩;go_wp2_with fail;rw[aeB];go_ret;exact⟨by rw[cY.o];rfl,dw.o⟩
  ·have cY:=zq hq
   clear hq HC;go_wp2_with fail;refine(eL.o _).mono ?_;rintro e w9 ⟨rfl,rfl⟩;go_wp2_with fail;rw[aeB];go_ret;exact⟨by rw[cY.o];rfl,dw.o⟩
  ·have cY:=zq hq
   clear hq HC hlt;go_wp2_with fail;refine(eL.o _).mono ?_;rintro e w9 ⟨rfl,rfl⟩;go_wp2_with fail;rw[aeB];go_ret;exact⟨by rw[cY.o];rfl,dw.o⟩
  ·have cZ:=zq hrel
   clear hrel HC;go_wp2_with fail;refine(eL.o _).mono ?_;rintro e w9 ⟨rfl,rfl⟩;go_wp2_with fail
   first|exact⟨⟨cZ.o,trivial⟩,by simp[intOf]<;>omega⟩|exact⟨⟨cZ.o,rfl⟩,by simp[intOf]<;>omega⟩
  ·have cY:=zq hq
   clear hq HC hlt;go_wp2_with fail;refine(eL.o _).mono ?_;rintro e w9 ⟨rfl,rfl⟩;go_wp2_with fail;rw[aeB];go_ret;exact⟨by rw[cY.o];rfl,dw.o⟩
  have cZ:=zq hrel;clear hrel HC;go_wp2_with fail;refine(eL.o _).mono ?_;rintro e w9 ⟨rfl,rfl⟩;go_wp2_with fail
  first|exact⟨⟨cZ.o,trivial⟩,by simp[intOf]<;>omega⟩|exact⟨⟨cZ.o,rfl⟩,by simp[intOf]<;>omega⟩
def gV (L V:List Nat)(d o i carry bQ:Nat)(M:List Nat):Prop:=
 M.length=L.length/\M.take o=L.take o/\M.drop (o+i)=L.drop (o+i)/\val ((L.drop o).take i)+BB^i*(carry+bQ)=val ((M.drop o).take i)+d*val (V.take i)/\carry<BB/\bQ<=1
theorem gV.start (L V:List Nat)(d o:Nat):gV L V d o 0 0 0 L:=⟨rfl,rfl,rfl,by simp[val],Xs,aao _⟩
theorem gV.at {L V M:List Nat}{d o i carry bQ z:Nat}(h:gV L V d o i carry bQ M)(hz:M[o+i]?=some z):L[o+i]?=some z:=by have:=aa7 (fun l=>l[0]?) h.2.2.1;simp only[adp,adt]at this;rw[<-this];exact hz
theorem Qqr {L:List Nat}{o i z:Nat}(h:L[o+i]?=some z):val ((L.drop o).take (i+1))=val ((L.drop o).take i)+BB^i*z:=by
 have I:o+i<L.length:=(aae.1 h).1
 have E:i<(L.drop o).length:=by rw[aag];omega
 rw[Xa E];have H:=aad E;rw[adp,h]at H;rw[<-aax H]
theorem gV.set {L V M:List Nat}{d o i carry bQ z s:Nat}(h:gV L V d o i carry bQ M)(hz:M[o+i]?=some z):(M.set (o+i) s).length=L.length/\(M.set (o+i) s).take o=L.take o/\(M.set (o+i) s).drop (o+(i+1))=L.drop (o+(i+1))/\val (((M.set (o+i) s).drop o).take (i+1))=val ((M.drop o).take i)+BB^i*s:=by
 obtain⟨H,I,J,-⟩:=h;have E:o+i<M.length:=(aae.1 hz).1;refine⟨by rw[ab6,H],by rw[Nn _ (Nat.le_add_right _ _),I],?_,?_⟩
 ·rw[<-abJ,Si]
  have:=aa7 (List.drop 1) J;rw[adG,adG]at this;exact this
 rw[Rf s E,Zb,aak,aag,abd (by omega)]
theorem gV.step {L V M:List Nat}{d o i carry bQ z v hi lo vt c s dE:Nat}(h:gV L V d o i carry bQ M)(hd:d<BB)(kR:v<BB)(hz:M[o+i]?=some z)(hv:V[i]?=some v)
  (hm:hi*BB+lo=d*v) (ha:lo+carry=vt+c*BB) (hs:z+dE*BB=s+vt+bQ) (hl:dE<=1):gV L V d o (i+1) (hi+c) dE (M.set (o+i) s):=by
 have J:=h.at hz;obtain⟨e1,e2,e3,e4⟩:=h.set (s:=s) hz;obtain⟨-,-,-,H,I,K⟩:=h;refine⟨e1,e2,e3,?_,Qvc hd kR I hm ha,hl⟩;have E:i<V.length:=(aae.1 hv).1
 have e5:val (V.take (i+1))=val (V.take i)+BB^i*v:=by rw[Xa E];have:=aad E;rw[hv]at this;rw[<-aax this]
 rw[e4,Qqr J,e5,ady];have:=Qpk (P:=BB^i) hm ha hs H;exact this
theorem gV.fin {L V M:List Nat}{d o n carry bQ z s dE:Nat}(h:gV L V d o n carry bQ M)(hn:V.length=n)(hz:M[o+n]?=some z)(hs:z+dE*BB=s+carry+bQ):(M.set (o+n) s).length=L.length/\(M.set (o+n) s).take o=L.take o/\(M.set (o+n) s).drop (o+(n+1))=L.drop (o+(n+1))/\val ((L.drop o).take (n+1))+BB^(n+1)*dE=val (((M.set (o+n) s).drop o).take (n+1))+d*val V:=by
 have H:=h.at hz;obtain⟨e1,e2,e3,e4⟩:=h.set (s:=s) hz;obtain⟨-,-,-,E,I,J⟩:=h;rw[aat (l:=V) (by omega)]at E;refine⟨e1,e2,e3,?_⟩;rw[e4,Qqr H,ady,abF,abJ,<-abp,aaW BB dE,hs]
 have e6:BB^n*(s+carry+bQ)=BB^n*s+BB^n*(carry+bQ):=by rw[<-abp,abJ]
 rw[e6];omega
theorem Bf (x:Nat):((x:Int) !=0)=decide (x≠0):=by rw[abA];simp[Int.natCast_eq_zero]
def An (L V:List Nat)(d o n g:Nat)(w:World)(e:Ending)(w':World):Prop:=∃(bQ:Nat) (M:List Nat),e=.returned (.bool (decide (bQ≠0)))/\bQ<=1/\ba w' g M/\M.length=L.length/\M.take o=L.take o/\M.drop (o+(n+1))=L.drop (o+(n+1))/\val ((L.drop o).take (n+1))+BB^(n+1)*bQ=val ((M.drop o).take (n+1))+d*val V/\w.grownBy w' (some g)
def Qkz (L V:List Nat)(d o n g:Nat)(w:World)(cv lv i:Value)(wr:World):Prop:=∃(k c l:Nat) (M:List Nat),k<=n/\i=.int .i64 (k:Nat)/\cv=.int .u64 (c:Nat)/\lv=.int .u64 (l:Nat)/\gV L V d o k c l M/\ba wr g M/\w.grownBy wr (some g)
theorem Qhm (g o cap d:Nat)(L V:List Nat)(v:Value)(w:World)(hL:ba w g L)(hn:o+V.length+1<=L.length)(bq:V.length+1<=cap)(hc:L.length<=1099511627776)(hv:Rd w v V)(kR:v.ownBlock≠some g)(hd:d<BB):Calls Tryz.prog 281 #[.slice (some ⟨g,o,none⟩) (V.length+1) cap,v,.int .u64 (d:Nat)] w (An L V d o V.length g w):=by
 have HV:=zq hv;obtain⟨ao,aA,rfl,-,hcm,aZ,-⟩:=hv.2;have dt:=zq aZ;have HB:=zq hL;have dW:=zq (gV.start L V d o);have HD:=zq hd;have wu:=zq kR;obtain⟨n,bf⟩:=xq V.length;rw[<-bf]at hn bq ⊢;have cw:=zq bf
 have NR:n<=9223372036854775806:=by omega
 clear hv aZ hcm hL hd kR bf;go_enter Tryz.func281,Tryz.ntmps281;go_wp2_with fail;go_loopw [7,8,16] (fun cv lv i wr=>Qkz L V d o n g w cv lv i wr) (fun _ _ i _=>n-(intOf i).toNat)
 case atStart=>exact⟨0,0,0,L,aao _,rfl,rfl,rfl,dW.o,HB.o,X1 _ _⟩
 clear dW HB
 case round=>
  obtain⟨k,c,l,M,hk,rfl,rfl,rfl,hst,hM,hgr⟩:=hrel;have HST:=zq hst;have HM:=zq hM;have bn:=zq hgr;have ct:M.length=L.length:=hst.1;have dV:=zq ct;have hcb:=hst.2.2.2.2.1;have iA:=hst.2.2.2.2.2;clear hst hM hgr;obtain⟨z,hz⟩:∃z,M[o+k]?=some z:=⟨_,aad (by omega)⟩;have hzb:=HM.o.2 z (aah hz);have HZ:=zq hz;by_cases hlt:k<n
  ·obtain⟨y,hy⟩:∃y,V[k]?=some y:=⟨_,aad (by have:=cw.o;omega)⟩
   have vr:=dt.o y (aah hy);obtain⟨ao',cap',e,-,-,-,aU⟩:=(HV.o.kept bn.o (fun q hq=>by cases hq;exact wu.o)).2
   cases e
   obtain⟨g2,o2,rfl,e2⟩:=aU k y hy;obtain⟨hi,lo,ei,hp,hmul⟩:=Nw d y HD.o vr;obtain⟨vt,c2,NJ,hc2,ha,ue⟩:=Zm lo c 0 ei hcb (aao _);obtain⟨s,l2,hs,hl2,hsu,dQ⟩:=Nt z vt l hzb NJ iA;rw[adt,aaW]at ha;rw[aaW]at hsu;have HN:=zq (HST.o.step HD.o vr hz hy hp ha.symm hsu.symm hl2);have CA:hi+c2<BB:=HN.o.2.2.2.2.1;obtain⟨c3,hc3⟩:=xq (hi+c2);rw[<-hc3]at HN CA
   have aQ:IntKind.u64.wrap ((hi:Int)+(c2:Int))=(c3:Int):=by unfold BB at CA;rw[abV];omega
   have HS:=zq (HM.o.set (o+k) hs);have e1:=HM.o.cell hz;have e3:=HM.o.frozen (o+k);have eL:=zq hmul;have JE:Hid (∀w:World,(callFunc 286 #[.int .u64 (lo:Nat),.int .u64 (c:Nat),.int .u64 0]).run Tryz.prog w=.ok (.value (.tuple #[.int .u64 (vt:Nat),.int .u64 (c2:Nat)])) w):=ue;have JF:=zq dQ;have eu:(0:Int)<=(k:Int):=abP _
   have dc:(k:Int)<(n:Int)+1:=by omega
   have jV:(k:Int)<(V.length:Int):=by have:=cw.o;omega
   have iX:=zq aQ;clear aU hy hz vr hzb hmul ue dQ hp ha hsu hc3 aQ ei NJ hs CA hcb
   have nS:(V.length:Int)=(n:Int):=by have:=cw.o;omega
   go_wp2_with fail;refine(eL.o _).mono ?_;rintro e w' ⟨rfl,rfl⟩;have ue:=JE.o;have dQ:=JF.o;have aQ:=iX.o;go_wp2_with fail;have ah:Qkz L V d o n g w (.int .u64 (c3:Nat)) (.int .u64 (l2:Nat)) (.int .i64 ((k:Int)+1)) (wr.setCell ⟨g,o+k,none⟩ (.int .u64 (s:Nat))):=⟨k+1,c3,l2,_,by omega,by go_num,rfl,rfl,HN.o,HS.o.1,Xz bn.o HS.o.2⟩
   exact⟨ah,by simp[intOf]<;>omega⟩
  obtain rfl:k=n:=by omega
  obtain⟨s,l2,hs,hl2,hsu,dQ⟩:=Nt z c l hzb hcb iA;rw[aaW]at hsu;have HF:=zq (HST.o.fin cw.o.symm hz hsu.symm);have HS:=zq (HM.o.set (o+k) hs);have e1:=HM.o.cell hz;have e3:=HM.o.frozen (o+k);have eu:(0:Int)<=(k:Int):=abP _
  have dc:(k:Int)<(k:Int)+1:=by omega
  have nS:(V.length:Int)=(k:Int):=by have:=cw.o;omega
  have Ix:Hid (∀b:Bool,b=decide (l2≠0)->An L V d o k g w (.returned (.bool b)) (wr.setCell ⟨g,o+k,none⟩ (.int .u64 (s:Nat)))):=by rintro b rfl;exact⟨l2,_,rfl,hl2,HS.o.1,HF.o.1,HF.o.2.1,HF.o.2.2.1,HF.o.2.2.2,Xz bn.o HS.o.2⟩
  clear hz hzb hs hsu hcb;go_wp2_with fail;go_ret;exact Ix.o _ (Bf l2)
def Qpl (L V:List Nat)(o n g:Nat)(w:World)(e:Ending)(w':World):Prop:=∃(c:Nat) (M:List Nat),e=.returned (.tuple #[])/\ba w' g M/\M.length=L.length/\M.take o=L.take o/\M.drop (o+(n+1))=L.drop (o+(n+1))/\val ((M.drop o).take (n+1))+BB^(n+1)*c=val ((L.drop o).take (n+1))+val V/\w.grownBy w' (some g)
def Qf6 (L V:List Nat)(o n g:Nat)(w:World)(cv i:Value)(wr:World):Prop:=∃(k c:Nat) (M:List Nat),k<=n/\i=.int .i64 (k:Nat)/\cv=.int .u64 (c:Nat)/\c<=1/\Vz L V o k c M/\ba wr g M/\w.grownBy wr (some g)
theorem Qgr (g o cap:Nat)(L V:List Nat)(v:Value)(w:World)(hL:ba w g L)(hn:o+V.length+1<=L.length)(bq:V.length+1<=cap)(hc:L.length<=1099511627776)(hv:Rd w v V)(kR:v.ownBlock≠some g):Calls Tryz.prog 282 #[.slice (some ⟨g,o,none⟩) (V.length+1) cap,v] w (Qpl L V o V.length g w):=by
 have HV:=zq hv;obtain⟨ao,aA,rfl,-,hcm,aZ,-⟩:=hv.2;have dt:=zq aZ;have HB:=zq hL;have dW:=zq (Vz.start L V o);have wu:=zq kR;obtain⟨n,bf⟩:=xq V.length;rw[<-bf]at hn bq ⊢;have cw:=zq bf
 have NR:n<=9223372036854775806:=by omega
 clear hv aZ hcm hL kR bf;go_enter Tryz.func282,Tryz.ntmps282;go_wp2_with fail;go_loopw [4,8] (fun cv i wr=>Qf6 L V o n g w cv i wr) (fun _ i _=>n-(intOf i).toNat)
 case atStart=>exact⟨0,0,L,aao _,rfl,rfl,aao _,dW.o,HB.o,X1 _ _⟩
 clear dW HB
 case round=>
  obtain⟨k,c,M,hk,rfl,rfl,hcc,hst,hM,hgr⟩:=hrel;have HST:=zq hst;have HM:=zq hM;have bn:=zq hgr;have ct:M.length=L.length:=hst.1;have dV:=zq ct;clear hst hM hgr;obtain⟨z,hz⟩:∃z,M[o+k]?=some z:=⟨_,aad (by omega)⟩;have hzb:=HM.o.2 z (aah hz);by_cases hlt:k<n
  ·obtain⟨y,pJ⟩:∃y,V[k]?=some y:=⟨_,aad (by have:=cw.o;omega)⟩
   obtain⟨s,c',hs1,hs2,hs3,hrun⟩:=Zm z y c hzb (dt.o y (aah pJ)) hcc;obtain⟨ao',cap',e,-,-,-,aU⟩:=(HV.o.kept bn.o (fun q hq=>by cases hq;exact wu.o)).2
   cases e
   obtain⟨g2,o2,rfl,e2⟩:=aU k y pJ;have e1:=HM.o.cell hz;have e3:=HM.o.frozen (o+k);have HN:=zq (HST.o.step hz (.inl pJ) hs3);have HS:=zq (ba.set (w:=wr.drewN 1) HM.o (o+k) hs1);have eu:(0:Int)<=(k:Int):=abP _
   have dc:(k:Int)<(n:Int)+1:=by omega
   have jV:(k:Int)<(V.length:Int):=by have:=cw.o;omega
   have nS:(V.length:Int)=(n:Int):=by have:=cw.o;omega
   clear pJ hz aU hs3 hzb ct;go_wp2_with fail;go_region_law (fail)
   all_goals
    go_wp2_with fail
    have ah:Qf6 L V o n g w (.int .u64 (c':Nat)) (.int .i64 ((k:Int)+1)) ((wr.drewN 1).setCell ⟨g,o+k,none⟩ (.int .u64 (s:Nat))):=
     ⟨k+1,c',M.set (o+k) s,by omega,by go_num,rfl,hs2,HN.o,HS.o.1,Xz (Xz bn.o (Z0 wr 1 _)) HS.o.2⟩
    first|exact⟨ah,by simp[intOf]<;>omega⟩|exact⟨by (repeat apply Exists.intro);exact⟨ah,rfl⟩,by simp[intOf]<;>omega⟩
  obtain rfl:k=n:=by omega
  obtain⟨s,hs⟩:=xq ((z+c) % BB)
  have jI:s<BB:=by rw[hs];exact ad8 _ Xs
  have hs3:s+BB*((z+c) / BB)=z+0+c:=by rw[hs,adt];exact Nat.mod_add_div _ _
  have HN:=zq (HST.o.step (y:=0) hz (.inr ⟨by have:=cw.o;omega,rfl⟩) hs3)
  have aQ:IntKind.u64.wrap ((z:Int)+(c:Int))=(s:Int):=by unfold BB at hs;rw[abV];omega
  have HS:=zq (HM.o.set (o+k) jI);have e1:=HM.o.cell hz;have e3:=HM.o.frozen (o+k);have eu:(0:Int)<=(k:Int):=abP _
  have dc:(k:Int)<(k:Int)+1:=by omega
  have nS:(V.length:Int)=(k:Int):=by have:=cw.o;omega
  clear hz hzb hs jI hs3 ct;go_wp2_with fail;go_end0;have h4:=HN.o.2.2.2;rw[aat (l:=V) (by have:=cw.o;omega)]at h4;exact⟨(z+c) / BB,_,rfl,HS.o.1,HN.o.1,HN.o.2.1,HN.o.2.2.1,h4,Xz bn.o HS.o.2⟩
def iq (L:List Nat)(s t i:Nat):Nat:=L.getD i 0 / 2^s+L.getD (i+1) 0*2^t % BB
theorem Qfu {L:List Nat}{s t i:Nat}(hL:ok L)(hst:s+t=64):iq L s t i<BB/\L.getD i 0 / 2^s<2^t/\(L.getD (i+1) 0*2^t % BB) % 2^t=0:=by
 have E:BB=2^t*2^s:=by rw[<-ad3,show t+s=64 from by omega];rfl
 have J:0<2^s:=adZ (by omega);have a0:0<2^t:=adZ (by omega)
 have Z:L.getD i 0<BB:=by
  rw[ab3]
  cases h:L[i]? with
  |none=>exact Xs
  |some x=>exact hL x (aah h)
 have O:L.getD i 0 / 2^s<2^t:=by rw[adL J,<-E];exact Z
 have H:(L.getD (i+1) 0*2^t % BB) % 2^t=0:=by rw[E,aaW (2^t) (2^s),Nat.mul_mod_mul_right,Nat.mul_mod_left]
 refine⟨?_,O,H⟩;have I:L.getD (i+1) 0*2^t % BB<BB:=ad8 _ Xs;unfold iq;obtain⟨q,K⟩:=Nat.dvd_of_mod_eq_zero H;rw[K,E]at I;rw[K,E];have T:=Nat.lt_of_mul_lt_mul_left I;have U:2^t*(q+1)<=2^t*2^s:=adI _ T;rw[abp,aem]at U;omega
theorem Qhv {y s t:Nat}(hst:s+t=64):y*2^t % BB=2^t*(y % 2^s):=by
 have h:BB=2^t*2^s:=by rw[<-ad3,show t+s=64 from by omega];rfl
 rw[h,aaW y,Nat.mul_mod_mul_left]
theorem Qfs {s t:Nat}(hst:s+t=64):∀(L M:List Nat),M.length=L.length->(∀i,i<L.length->M[i]?=some (iq L s t i))->2^s*val M+L.getD 0 0 % 2^s=val L:=by
 have K:BB=2^s*2^t:=by rw[<-ad3,hst];rfl
 intro L
 induction L with
 |nil=>intro M h _;rw[aaq h];simp[val]
 |cons x L ih=>
  intro M h I
  cases M with
  |nil=>simp at h
  |cons m M=>
   have H:=ih M (by simpa using h) (fun i hi=>by
    have:=I (i+1) (by simpa using hi)
    simpa [iq] using this)
   have E:=I 0 (by simp);simp only[aeT,iq,List.getD_cons_zero,Option.some.injEq,abx,List.getD_cons_succ]at E;rw[Qhv hst]at E;show 2^s*(m+BB*val M)+x % 2^s=x+BB*val L;have J:=ad5 x (2^s);rw[<-H,E];generalize x / 2^s=a at*;generalize x % 2^s=b at*;generalize L.getD 0 0 % 2^s=c at*;rw[<-J,abp,abp,abp,<-abF (2^s) (2^t) c,<-K,aeQ BB (2^s) (val M)];omega
theorem Qfn {s t:Nat}(hst:s+t=64){L M:List Nat}(hl:M.length=L.length)(hM:∀i,i<L.length->M[i]?=some (iq L s t i)):val M=val L / 2^s:=by have E:0<2^s:=adZ (by omega);have h:=Qfs hst L M hl hM;have H:=ad8 (L.getD 0 0) E;rw[<-h,Nat.mul_add_div E,Nat.div_eq_of_lt H,adt]
theorem Qmi (x y i:Nat)(hx:x<18446744073709551616)(hd:x % 2^i=0)(hy:y<2^i)(je:y<18446744073709551616):bits BinOp.or IntKind.u64 (y:Int) (x:Int)=((y+x:Nat):Int):=by have h:=Bu x y i hx hd hy je;rw[bits_or_u64_nat x y hx je,Nat.or_comm,<-bits_or_u64_nat y x je hx]at h;rw[h,Nat.add_comm]
def YW (L:List Nat)(s t n g:Nat)(w1:World)(i:Value)(wr:World):Prop:=∃(k:Nat) (M:List Nat),k<=n/\i=.int .i64 (k:Nat)/\M.length=n/\(∀i,i<k->M[i]?=some (iq L s t i))/\ba wr g M/\w1.grownBy wr (some g)
theorem Qxa {M:List Nat}{k x:Nat}{f:Nat->Nat}(h:∀i,i<k->M[i]?=some (f i))(hk:k<M.length)(hx:x=f k):∀i,i<k+1->(M.set k x)[i]?=some (f i):=by
 intro i E;by_cases e:i=k
 ·subst e;rw[ad9 hk,hx]
 rw[adW (by omega)];exact h i (by omega)
def Qh2 (V m:Nat)(w:World)(e:Ending)(w':World):Prop:=∃v xs,e=.returned (.tuple #[v,.int .i64 0])/\Fr w.heap.size w' v xs/\val xs=V/\xs.length<=m/\Qw xs=xs/\Below w.heap.size w w'
theorem Qfl (v:Value)(xs:List Nat)(s:Nat)(w:World)(hv:Rd w v xs)(hs:s<64)(hl:xs.length<=1099511627776):Calls Tryz.prog 283 #[v,.int .i64 (s:Nat)] w (Qh2 (val xs / 2^s) xs.length w):=by
 have HV:=zq hv;obtain⟨ao,cap,rfl,bq,hcm,aZ,-⟩:=hv.2;have dt:=zq aZ;obtain⟨X,hX⟩:=xq (Qw xs)
 have hXx:∀(i x:Nat),X[i]?=some x->xs[i]?=some x:=by
  intro i x h;rw[hX,(Yz xs).1,adX]at h;split at h
  ·exact h
  cases h
 obtain⟨n,hn⟩:=xq X.length
 have eK:n<=xs.length:=by rw[hn,hX];exact Qu xs
 have hvX:val X=val xs:=by rw[hX,Qn]
 have Oc:ok X:=by rw[hX];exact Vt aZ
 obtain⟨t,ht⟩:=xq (64-s)
 have hst:s+t=64:=by omega
 have E0:(s:Int) / 64=0:=by omega
 have hsn:decide ((s:Int)<0)=false:=by simp
 have E0b:(s:Int) % 64=(s:Int):=by omega
 have E1:IntKind.u64.wrap (64-(s:Int))=(t:Int):=by rw[abV];omega
 have E1b:IntKind.u64.wrap (s:Int)=(s:Int):=Wq _ (by omega)
 have E2:min s 64=s:=by omega
 have E3:min t 64=t:=by omega
 have HX:=zq hX;have HN:=zq hn;have AQ:=zq hvX;have I4:=zq Oc;have QW:=zq hXx
 have xd:cap<=9223372036854775807:=by unfold maxLen at hcm;omega
 clear hv aZ hcm hX hn hvX Oc hXx ht;by_cases h0:n=0
 ·have hv0:val xs / 2^s=0:=by
   have hX0:X=[]:=aaq (by rw[<-HN.o];exact h0);rw[<-AQ.o,hX0];simp[val]
  have FM:=zq hv0;subst h0;clear hv0;go_enter Tryz.func283,Tryz.ntmps283;go_wp2_with fail;refine(X9 _ xs _ HV.o).mono ?_;rintro e w' ⟨rfl,rfl⟩;rw[<-HX.o,<-HN.o];go_wp2_with fail;go_ret2;exact⟨_,[],rfl,⟨Rd.nil w,fun k hk=>by cases hk⟩,by rw[FM.o];rfl,aao _,rfl,aa8 _ _⟩
 have jE:1<=n:=by omega
 have oh:=Zk n (by omega);obtain⟨g,hg⟩:=xq w.heap.size;obtain⟨w1,aQ⟩:=xq (w.alloc (.cells (madeCells #[.int .u64 0] n) 101))
 have aP:Hid (Below w.heap.size w w1):=by rw[aQ];exact Qq w _
 have aC:Hid (ba w1 g (List.replicate n 0)):=by rw[aQ,hg];exact ba.made w n
 have HG:=zq hg;have iX:=zq aQ;clear hg aQ;go_enter Tryz.func283,Tryz.ntmps283;go_wp2_with fail;refine(X9 _ xs _ HV.o).mono ?_;rintro e w' ⟨rfl,rfl⟩;rw[<-HX.o,<-HN.o];go_wp2_with fail;rw[<-iX.o,<-HG.o];clear E0b;go_loopw [29] (fun i wr=>YW X s t n g w1 i wr) (fun i _=>n-(intOf i).toNat)
 case atStart=>exact⟨0,_,aao _,rfl,aa9,fun i hi=>by omega,aC.o,X1 _ _⟩
 clear aC
 case round=>
  obtain⟨k,M,hk,rfl,ct,iO,hM,hgr⟩:=hrel;have HST:=zq iO;have HM:=zq hM;have bn:=zq hgr;have dV:=zq ct;clear iO hM hgr ct;have FN:Hid (Below w.heap.size w wr):=aP.o.trans (Wi bn.o aP.o.size (by rw[HG.o];exact aaa _));by_cases hlt:k<n
  ·obtain⟨z,hz⟩:∃z,M[k]?=some z:=⟨_,aad (by rw[dV.o];exact hlt)⟩
   obtain⟨x,hx⟩:∃x,X[k]?=some x:=⟨_,aad (by rw[<-HN.o];exact hlt)⟩;have e4:=HM.o.cell hz;have e3:=HM.o.frozen k;have gO:=I4.o x (aah hx);obtain⟨ao',cap',e,-,-,-,aU⟩:=(HV.o.below FN.o).2
   cases e
   obtain⟨g2,o2,rfl,e5⟩:=aU k x (QW.o k x hx)
   have hg2:g2<g:=by rw[HG.o];exact HV.o.1 g2 rfl
   obtain⟨a,ha⟩:=xq (x / 2^s)
   have hab:a<BB:=by rw[ha];exact adH (Nat.div_le_self _ _) gO
   have F1:(x:Int) / 2^s=(a:Int):=by rw[ha,Int.natCast_ediv,aeq];rfl
   have HS:=zq (HM.o.set k hab);have HA:=zq ha;have yy:=zq hx;have eu:(0:Int)<=(k:Int):=abP _
   have dc:(k:Int)<(n:Int):=by omega
   have jV:(k:Int)<(xs.length:Int):=by omega
   have iw:=zq aU;clear aU hx gO ha hab hz;by_cases jb:k+1<n
   ·obtain⟨y,hy⟩:∃y,X[k+1]?=some y:=⟨_,aad (by rw[<-HN.o];exact jb)⟩
    obtain⟨g3,o3,e,e6⟩:=iw.o (k+1) y (QW.o (k+1) y hy)
    cases e
    obtain⟨b,hb⟩:=xq (y*2^t % BB)
    have F2:IntKind.u64.wrap ((y:Int)*2^t)=(b:Int):=by
     have e:((y:Int)*2^t)=((y*2^t:Nat):Int):=by rw[ad1,aeq];rfl
     rw[e,abV,hb];rfl
    obtain⟨h1,h2,h3⟩:=Qfu (i:=k) I4.o hst
    have hg0:X.getD k 0=x:=by rw[ab3,yy.o];rfl
    have hg1:X.getD (k+1) 0=y:=by rw[ab3,hy];rfl
    have hsw:iq X s t k=a+b:=by unfold iq;rw[hg0,hg1,<-HA.o,<-hb]
    rw[hg0,<-HA.o]at h2;rw[hg1,<-hb]at h3
    have km:b<BB:=by rw[hb];exact ad8 _ Xs
    have hab:a<BB:=adH (Nat.le_add_right a b) (by rw[<-hsw];exact h1);have F3:bits BinOp.or IntKind.u64 (a:Int) (b:Int)=((a+b:Nat):Int):=Qmi b a t km h3 h2 hab;obtain⟨c,hc⟩:=xq (a+b);rw[<-hc]at F3 hsw;rw[hsw]at h1;have e7:(wr.setCell ⟨g,k,none⟩ (.int .u64 (a:Nat))).cell? ⟨g,k,none⟩=some (.int .u64 (a:Nat)):=HS.o.1.cell (by rw[ad9 (by rw[dV.o];exact hlt)]);have e8:(wr.setCell ⟨g,k,none⟩ (.int .u64 (a:Nat))).frozen? ⟨g,k,none⟩=false:=HS.o.1.frozen k;have e9:(wr.setCell ⟨g,k,none⟩ (.int .u64 (a:Nat))).cell? ⟨g2,o2+(k+1),none⟩=some (.int .u64 (y:Nat)):=HS.o.2.cell e6 (by simp;omega);have cr:=zq (ba.set (w:=(wr.setCell ⟨g,k,none⟩ (.int .u64 (a:Nat))).drewN 1) HS.o.1 k h1);have XA:=zq hsw
    have ri:(k:Int)+1<(n:Int):=by omega
    have CL:(k:Int)+1<(xs.length:Int):=by omega
    clear hy hb h1 h2 h3 hg0 hg1 hsw km hab hc iw e6 hg2;have W1:IntKind.i64.wrap (k:Int)=(k:Int):=abL _ (by omega);have W2:IntKind.i64.wrap ((k:Int)+1)=(k:Int)+1:=abL _ (by omega)
    have W3:((k:Int)+1).toNat=k+1:=by omega
    have W4:(0:Int)<=(k:Int)+1:=by omega
    go_wp2_with fail;go_region_law (fail)
    all_goals
     go_wp2_with fail
     have ah:YW X s t n g w1 (.int .i64 ((k:Int)+1)) (((wr.setCell ⟨g,k,none⟩ (.int .u64 (a:Nat))).drewN 1).setCell ⟨g,k,none⟩ (.int .u64 (c:Nat))):=
      ⟨k+1,(M.set k a).set k c,by omega,by go_num,by rw[ab6,ab6,dV.o],Qxa (f:=iq X s t) (fun i hi=>by rw[adW (by omega)];exact HST.o i hi) (by rw[ab6,dV.o];exact hlt) XA.o.symm,cr.o.1,Xz (Xz (Xz bn.o HS.o.2) (Z0 _ 1 _)) cr.o.2⟩
     first|exact⟨ah,by simp[intOf]<;>omega⟩|exact⟨by (repeat apply Exists.intro);exact⟨ah,rfl⟩,by simp[intOf]<;>omega⟩
   have ri: ¬((k:Int)+1<(n:Int)):=by omega
   have hsw:iq X s t k=a:=by
    have hg0:X.getD k 0=x:=by rw[ab3,yy.o];rfl
    have hg1:X.getD (k+1) 0=0:=by rw[ab3,aea (by rw[<-HN.o];omega)];rfl
    unfold iq;rw[hg0,hg1,<-HA.o];simp
   have XA:=zq hsw;clear hsw iw;go_wp2_with fail
   have ah:YW X s t n g w1 (.int .i64 ((k:Int)+1)) (wr.setCell ⟨g,k,none⟩ (.int .u64 (a:Nat))):=
    ⟨k+1,M.set k a,by omega,by go_num,by rw[ab6,dV.o],Qxa (f:=iq X s t) HST.o (by rw[dV.o];exact hlt) XA.o.symm,HS.o.1,Xz bn.o HS.o.2⟩
   first|exact⟨ah,by simp[intOf]<;>omega⟩|exact⟨by (repeat apply Exists.intro);exact⟨ah,rfl⟩,by simp[intOf]<;>omega⟩
  obtain rfl:k=n:=by omega
  have hF:=Qfn hst (L:=X) (M:=M) (by rw[dV.o,HN.o]) (fun i hi=>HST.o i (by rw[HN.o];exact hi));rw[AQ.o]at hF;have HF:=zq hF;have hR:=HM.o.whole (by rw[dV.o];omega);rw[dV.o]at hR;have HR:=zq hR;have iE:=Qu M;rw[dV.o]at iE;obtain⟨m,hm⟩:=xq ((Qw M).length);rw[<-hm]at iE;have cI:=zq hm;have hT:=hR.take (n:=m) (c:=k) (by rw[dV.o];exact iE) iE (aaa _);rw[hm,<-(Yz M).1,<-hm]at hT;have HT:=zq hT
  have qz:(Qw M).length<=xs.length:=by omega
  have VT:=zq qz;clear hF hR hm hT qz;go_wp2_with fail;refine(X9 _ M _ HR.o).mono ?_;rintro e w' ⟨rfl,rfl⟩;rw[<-cI.o];go_wp2_with fail;go_ret2;exact⟨_,Qw M,rfl,⟨HT.o,fun q hq=>by cases hq;exact⟨by rw[HG.o];exact aaa _,HM.o.lt⟩⟩,by rw[Qn,HF.o],VT.o,Yo M,FN.o⟩
end Go.Proofs.YtgfmiladfeoldaaGreatDoor
namespace ai
abbrev mid (M:List Nat)(o n:Nat):List Nat:=(M.drop o).take n
theorem Nk {M:List Nat}{o n z:Nat}(h:M[o+n]?=some z):val (mid M o (n+1))=val (mid M o n)+BB^n*z:=by
 have I:o+n<M.length:=(aae.1 h).1
 have E:n<(M.drop o).length:=by rw[aag];omega
 rw[mid,Xa E];have H:=aad E;rw[adp,h]at H;rw[<-aax H]
theorem W6 {l:List Nat}{k x:Nat}(h:l[k]?=some x):val (l.drop k)=x+BB*val (l.drop (k+1)):=by have E:k<l.length:=(aae.1 h).1;rw[aaS E];have:=aad E;rw[h]at this;rw[<-aax this];rfl
theorem Qqs {M:List Nat}{o n z:Nat}(h:M[o]?=some z):val (mid M o (n+1))=z+BB*val (mid M (o+1) n):=by have E:o<M.length:=(aae.1 h).1;unfold mid;rw[aaS E];have:=aad E;rw[h]at this;rw[<-aax this];rfl
theorem Bh {M:List Nat}(hM:ok M)(o n:Nat)(h:o+n<=M.length):val (mid M o n)<BB^n:=by have:=Yy (Zl (Wk hM o) n);rw[aak,aag,abd (by omega)]at this;exact this
structure gU (L V:List Nat) (n k:Nat) (M Q:List Nat):Prop where
 len:M.length=L.length
 low:M.take k=L.take k
 eq:val (L.drop k)=val (Q.drop k)*val V+val (mid M k n)
 lt:val (mid M k n)<val V
theorem gU.at {L V M Q:List Nat}{n k z:Nat}(h:gU L V n (k+1) M Q)(hz:M[k]?=some z):L[k]?=some z:=by have:=aa7 (fun l=>l[k]?) h.low;simp only[adX,aet,if_true]at this;rw[<-this];exact hz
theorem Qg2 {L V M Q:List Nat}{n k z u2 u1 u0 v1 v0:Nat}(h:gU L V (n+2) (k+1) M Q)(hM:ok M)(hV:ok V)(LR:V.length=n+2)(ct:k+(n+2)<M.length)(hz:M[k]?=some z)
  (h2:M[k+n+2]?=some u2) (h1:M[k+n+1]?=some u1) (h0:M[k+n]?=some u0) (g1:V[n+1]?=some v1) (g0:V[n]?=some v0) (gB:0<v1):
  val (mid M k (n+3))<val V*BB/\u2<=v1/\
  val (mid M k (n+3)) / val V<=gq ((u2*BB+u1)*BB+u0) (v1*BB+v0)/\gq ((u2*BB+u1)*BB+u0) (v1*BB+v0)<=val (mid M k (n+3)) / val V+1:=by
 have e1:=Qqs (n:=n+2) hz;have Z:z<BB:=hM z (aah hz);have J:=h.lt
 have I:val (mid M k (n+3))<val V*BB:=by rw[e1];have:(val (mid M (k+1) (n+2))+1)*BB<=val V*BB:=abW _ J;rw[ab5,ad0,aaW _ BB]at this;omega
 have e2:val (mid M k (n+3))=val (mid M k n)+BB^n*(u0+BB*(u1+BB*u2)):=by rw[Nk (by rw[show k+(n+2)=k+n+2 from rfl];exact h2),Nk (by rw[show k+(n+1)=k+n+1 from rfl];exact h1),Nk h0,ady,ady];simp only[abp,abF,abJ,ady]
 have e3:val V=val (V.take n)+BB^n*(v0+BB*v1):=by
  have a:=Xp V n (by omega);rw[W6 g0,W6 g1,aaR (by omega)]at a
  simpa [val] using a
 have H:val (mid M k n)<BB^n:=Bh hM k n (by omega)
 have E:val (V.take n)<BB^n:=by have:=Yy (Zl hV n);rw[aak,abd (by omega)]at this;exact this
 have e2':val (mid M k (n+3))=((u2*BB+u1)*BB+u0)*BB^n+val (mid M k n):=by rw[e2,aaW (BB^n),show u0+BB*(u1+BB*u2)=(u2*BB+u1)*BB+u0 from by rw[aaW BB (u1+BB*u2),aaW BB u2,Nat.add_comm u1,Nat.add_comm]];omega
 have e3':val V=(v1*BB+v0)*BB^n+val (V.take n):=by rw[e3,aaW (BB^n),show v0+BB*v1=v1*BB+v0 from by rw[aaW BB v1];omega];omega
 have K:BB<=v1*BB+v0:=by have:=abW BB gB;omega
 refine⟨I,?_,Qgt e2' H e3' E I K⟩;refine aeV fun gN=> ?_;have O:(v1+1)*BB<=u2*BB:=abW _ gN
 have T:(v1*BB+v0+1)*BB<=((u2*BB+u1)*BB+u0):=by rw[ab5,ad0]at O;have U:=hV v0 (aah g0);have:(v1*BB+v0+1)*BB<=(u2*BB+u1)*BB:=abW _ (by omega);omega
 have h5:(v1*BB+v0+1)*BB*BB^n<=((u2*BB+u1)*BB+u0)*BB^n:=abW _ T
 have h6:val V*BB<=(v1*BB+v0+1)*BB*BB^n:=by rw[e3',Nat.mul_right_comm];refine abW _ ?_;rw[ab5 (v1*BB+v0),ad0];omega
 omega
theorem Qyk {M:List Nat}{o n R:Nat}(hM:ok M)(hl:o+n<M.length)(hv:val (mid M o (n+1))=R)(hR:R<BB^n):val (mid M o n)=R:=by
 obtain⟨z,h⟩:∃z,M[o+n]?=some z:=⟨_,aad hl⟩;rw[Nk h]at hv
 have:z=0:=by refine Nat.eq_zero_of_not_pos fun hp=> ?_;have:=adI (BB^n) hp;omega
 subst this
 simpa using hv
theorem gU.step {L V M M' Q:List Nat}{n k z d:Nat}(h:gU L V n (k+1) M Q)(hV:ok V)(LR:V.length=n)(hM':ok M')(hl:M'.length=M.length)(ct:k+n<M.length)(hz:M[k]?=some z)(hk:k<Q.length)
  (qy:M'.take k=M.take k) (hd:d=val (mid M k (n+1)) / val V) (hR:val (mid M' k (n+1))=val (mid M k (n+1)) % val V):gU L V n k M' (Q.set k d):=by
 have O:=h.at hz;have I:0<val V:=adH (aao _) h.lt;have E:=ad8 (val (mid M k (n+1))) I
 have H:val V<BB^n:=by rw[<-LR];exact Yy hV
 have K:=Qyk hM' (by omega) hR (aed E H);refine⟨by rw[hl,h.len],?_,?_,by rw[K];exact E⟩
 ·rw[qy]
  have:=aa7 (List.take k) h.low;rw[aeK,aeK,abd (Nat.le_succ k)]at this;exact this
 have e1:(Q.set k d)[k]?=some d:=by rw[ad9 hk]
 rw[W6 O,h.eq,W6 e1,Si,K];have e2:=Qqs (n:=n) hz;have J:=ad5 (val (mid M k (n+1))) (val V);rw[<-hd]at J;generalize val (mid M k (n+1)) % val V=R' at*;generalize val (mid M k (n+1))=U at*;generalize val (mid M (k+1) n)=R at*;generalize val (List.drop (k+1) Q)=q at*;generalize val V=v at*;rw[abp,ab5,aaW v d]at*;rw[abF];omega
theorem Qb1 {M1 M2:List Nat}{k n U V g c:Nat}(hM1:ok M1)(hM2:ok M2)(ig:k+(n+1)<=M1.length)(hl2:k+(n+1)<=M2.length)(h1:U / V<=g)(h2:g<=U / V+1)(hV:0<V)(hVT:V<BB^(n+1))(ht:U+BB^(n+1)*1=val (mid M1 k (n+1))+g*V)
  (hg:val (mid M2 k (n+1))+BB^(n+1)*c=val (mid M1 k (n+1))+V):g-1=U / V/\val (mid M2 k (n+1))=U % V:=by
 have E:=Bh hM1 k (n+1) ig;have J:=Bh hM2 k (n+1) hl2;rw[aem]at ht;obtain⟨a,b⟩:=Qpb h1 h2 hV E ht;refine⟨a,?_⟩;rw[b]at hg;have H:=ad8 U hV;generalize BB^(n+1)=T at*
 have I:c=1:=by
  rcases Nat.lt_trichotomy c 1 with h|h|h
  ·have:c=0:=by omega
   subst this;omega
  ·exact h
  have:=adI T h;omega
 subst I;omega
theorem gU.fin {L V M Q:List Nat}{n:Nat}(h:gU L V n 0 M Q):val Q=val L / val V/\val (M.take n)=val L % val V:=by
 have H:=h.eq;have E:=h.lt;unfold mid at H E;rw[adq,adq,adq]at H;rw[adq]at E
 have I:0<val V:=by omega
 rw[H,aaW (val Q)];exact⟨by rw[Nat.mul_add_div I,Nat.div_eq_of_lt E,adt],by rw[Nat.mul_add_mod,Nat.mod_eq_of_lt E]⟩
theorem gU.start {L V Q:List Nat}{n k:Nat}(hl:L.length=k+n)(hlt:val (L.drop k)<val V)(hQ:Q.length<=k):gU L V n k L Q where
 len:=rfl
 low:=rfl
 eq:=by rw[aaR hQ];have:mid L k n=L.drop k:=aat (by rw[aag];omega);rw[this];simp[val]
 lt:=by have:mid L k n=L.drop k:=aat (by rw[aag];omega);rw[this];exact hlt
theorem Qc1 {x y S m n k:Nat}{L V:List Nat}(hLv:val L=x*S)(hx:x<BB^m)(rb:L.length=m+1)(hk:k+n=m+1)(hV:val V=y*S)(hS:S<=9223372036854775808)(hn:1<=n)(hVt:9223372036854775808*BB^(n-1)<=val V):val (L.drop k)<val V:=by
 have h:=Xp L k (by omega)
 have E:BB^k*val (L.drop k)<=x*S:=by omega
 have H:x*S<BB^m*9223372036854775808:=by have a:x*S<=x*9223372036854775808:=adI _ hS;have b:x*9223372036854775808<BB^m*9223372036854775808:=Nat.mul_lt_mul_of_pos_right hx (by omega);omega
 have I:BB^k*(9223372036854775808*BB^(n-1))<=BB^k*val V:=adI _ hVt
 have J:BB^k*(9223372036854775808*BB^(n-1))=BB^m*9223372036854775808:=by rw[aeQ,<-ad3,show k+(n-1)=m from by omega,aaW]
 exact Nat.lt_of_mul_lt_mul_left (a:=BB^k) (by omega)
end ai
