/- Joined texts of this claim's proof: Num7, Num8, DivA, DivB. -/
import Derived.Test.YtgfmiladfeoldaaGreatDoorPk1
import Derived.Test.YtgfmiladfeoldaaGreatDoorPk6
import Derived.Test.YtgfmiladfeoldaaGreatDoorPk4
import Derived.Lib.ItoaNum
set_option linter.unusedSimpArgs false
set_option linter.unusedVariables false
set_option maxRecDepth 100000
set_option maxHeartbeats 16000000
namespace Go.Proofs.YtgfmiladfeoldaaGreatDoor
open Go.RowKit NatP
def Zm (n:Nat)(m:Nat)(w:World)(e:Ending)(w':World):Prop:=∃v xs,e=.returned v/\Fr w.heap.size w' v xs/\val xs=n/\xs.length<=m/\Qw xs=xs/\Below w.heap.size w w'
theorem Y0 (l:List Nat):Qw (Qw l)=Qw l:=by
 refine Vp (P:=fun l=>Qw (Qw l)=Qw l) rfl (fun l d ih=> ?_) l;by_cases h:d=0
 ·subst h;rw[Yr];exact ih
 ·rw[Yu _ _ h,Yu _ _ h]
theorem Zm.of_new {xs:List Nat}{n m:Nat}{w w':World}{e:Ending}(h:Me (Qw xs) w e w')(hv:val xs=n)(hm:(Qw xs).length<=m):Zm n m w e w':=by
 obtain⟨v,H,I,E⟩:=h;exact⟨v,Qw xs,H,I,by rw[Ql,hv],hm,Y0 _,E⟩
theorem Dt (xs ys:List Nat)(v u:Value)(w:World)(hl:xs.length+ys.length<274877906944)(hv:Rd w v xs)(hu:Rd w u ys):
  Calls Tryz.prog 237 #[v,u] w (Zm (val xs*val ys) (xs.length+ys.length) w):=by
 have HV:=zq hv;have HU:=zq hu;clear hv hu;go_enter Tryz.func237,Tryz.ntmps237;go_wp2_with fail;refine(Mp xs ys _ _ _ hl HV.o HU.o).mono ?_;rintro e w1 ⟨g,M,rfl,hg,hM,hml,hmv,hb⟩;have q1:=Qf xs;have q2:=Qf ys
 have hMl:M.length<=xs.length+ys.length:=by omega
 have R:=zq (hM.whole (by omega));have HB:=zq hb;have HV:=zq hmv;clear hM hml hmv hb;go_wp2_with fail;refine(Jy _ M _ R.o (by omega)).mono ?_;rintro e w2 ⟨v2,rfl,hf,hb2⟩;have HF:=zq (hf.mono HB.o.size);have HB2:Hid (Below w.heap.size w w2):=HB.o.trans (hb2.mono HB.o.size);clear hf hb2;go_wp2_with fail;go_ret;exact Zm.of_new ⟨_,rfl,HF.o,HB2.o⟩ HV.o (Nat.le_trans (Qf M) hMl)
theorem Rl (xs:List Nat)(v:Value)(w:World)(hl:xs.length+xs.length<274877906944)(hv:Rd w v xs):
  Calls Tryz.prog 215 #[v] w (Zm (val xs*val xs) (xs.length+xs.length) w):=by
 have HV:=zq hv;clear hv;go_enter Tryz.func215,Tryz.ntmps215;go_wp2_with fail;refine(Dt xs xs _ _ _ hl HV.o HV.o).mono ?_;rintro e w1 ⟨v1,zs,rfl,h1,h2,h3,h4,h5⟩;have H1:=zq h1;have H2:=zq h2;have H3:=zq h3;have H4:=zq h4;have H5:=zq h5;clear h1 h2 h3 h4 h5;go_wp2_with fail;go_ret;exact⟨_,zs,rfl,H1.o,H2.o,H3.o,H4.o,H5.o⟩
theorem Pn (w:World)(x:Nat)(hx:x<BB):Rd (w.alloc (.cells #[.int .u64 (x:Nat)] 101)) (.slice (some ⟨w.heap.size,0,none⟩) 1 1) [x]:=by
 refine⟨fun k hk=>by cases hk;simp,_,1,rfl,Nat.le_refl _,by unfold maxLen;omega,Qzb hx H7,fun i y hy=> ?_⟩
 cases i with
 |zero=>
  simp at hy;subst hy
  exact⟨_,_,rfl,by simp[go_sem]⟩
 |succ i=>simp at hy
theorem Qww (xs:List Nat)(x:Nat)(v:Value)(w:World)(hl:xs.length<137438953472)(hx:x<BB)(hv:Rd w v xs):
  Calls Tryz.prog 272 #[v,.int .u64 (x:Nat)] w (Zm (val xs*x) (xs.length+1) w):=by
 have HV:=zq hv;have HX:=zq hx;clear hv hx;go_enter Tryz.func272,Tryz.ntmps272;go_wp2_with fail;refine(Dt xs [x] _ _ _ (by simp;omega) (HV.o.alloc _) (Pn w x HX.o)).mono ?_;rintro e w1 ⟨v1,zs,rfl,h1,h2,h3,h4,h5⟩;have H1:Hid (Fr w.heap.size w1 v1 zs):=h1.mono (by simp)
 have H2:Hid (val zs=val xs*x):=by show _=_;rw[h2];simp[val]
 have H3:Hid (zs.length<=xs.length+1):=h3;have H4:=zq h4;have H5:Hid (Below w.heap.size w w1):=(Qq w _).trans (h5.mono (by simp));clear h1 h2 h3 h4 h5;go_wp2_with fail;go_ret;exact⟨_,zs,rfl,H1.o,H2.o,H3.o,H4.o,H5.o⟩
def SmSt (A B:List Nat)(i c:Nat)(M:List Nat):Prop:=M.length=A.length+1/\val (M.take i)+BB^i*c=val (A.take i)+val (B.take i)
theorem SmSt.start (A B:List Nat):SmSt A B 0 0 (List.replicate (A.length+1) 0):=⟨List.length_replicate,by simp[val]⟩
theorem SmSt.step {A B M:List Nat}{i c x y s c':Nat}(h:SmSt A B i c M)(hx:A[i]?=some x)(hy:(B[i]?=some y)\/(B.length<=i/\y=0))(hs:s+BB*c'=x+y+c):SmSt A B (i+1) c' (M.set i s):=by
 obtain⟨O,K⟩:=h;obtain⟨T,J⟩:=List.getElem?_eq_some_iff.1 hx;refine⟨by rw[List.length_set,O],?_⟩;have E:=Sn (l:=M) (o:=0) (i:=i) s (by omega);rw[List.drop_zero,List.drop_zero,Nat.zero_add]at E
 have e1:val (A.take (i+1))=val (A.take i)+BB^i*x:=by rw[Xi T,J]
 have e2:val (B.take (i+1))=val (B.take i)+BB^i*y:=by
  rcases hy with hy|⟨hy,rfl⟩
  ·obtain⟨I,H⟩:=List.getElem?_eq_some_iff.1 hy
   rw[Xi I,H]
  ·rw[List.take_of_length_le (by omega),List.take_of_length_le (by omega)];simp
 rw[E,e1,e2,Zv,List.length_take,Nat.min_eq_left (by omega),Nat.pow_succ];exact F8 K hs
theorem SmSt.done {A B M:List Nat}{c:Nat}(h:SmSt A B A.length c M)(hB:B.length<=A.length):(M.set A.length c).length=A.length+1/\val (M.set A.length c)=val A+val B:=by
 obtain⟨I,H⟩:=h;have E:=Sn (l:=M) (o:=0) (i:=A.length) c (by omega);rw[List.drop_zero,List.drop_zero,Nat.zero_add]at E;rw[List.take_of_length_le (by rw[List.length_set];omega)]at E;refine⟨by rw[List.length_set,I],?_⟩;rw[E,Zv,List.length_take,Nat.min_eq_left (by omega)];rw[List.take_length,List.take_of_length_le hB]at H;exact H
theorem Rd.cellAt {w:World}{ao:Option Addr}{n c:Nat}{xs:List Nat}(h:Rd w (.slice ao n c) xs){i x:Nat}(hx:(Qw xs)[i]?=some x):∃g o,ao=some ⟨g,o,none⟩/\w.cell? ⟨g,o+i,none⟩=some (.int .u64 (x:Nat))/\i<n:=by
 obtain⟨_,ao',cap',e,_,_,_,J⟩:=h;simp only[Value.slice.injEq]at e;obtain⟨rfl,rfl,-⟩:=e
 have E:xs[i]?=some x:=by
  rw[(X9 xs).1,List.getElem?_take]at hx;split at hx
  ·exact hx
  ·cases hx
 obtain⟨g,o,H,I⟩:=J i x E;exact⟨g,o,H,I,(List.getElem?_eq_some_iff.1 E).1⟩
def Gc (A B:List Nat)(g:Nat)(w1:World)(cv i:Value)(wr:World):Prop:=∃(k cc:Nat) (M:List Nat),k<=A.length/\i=.int .i64 (k:Nat)/\cv=.int .u64 (cc:Nat)/\Hid (cc<=1)/\Blk wr g M/\SmSt A B k cc M/\w1.grownBy wr (some g)
theorem Ax {w w1 w2:World}{A B M:List Nat}{n m c:Nat}(hl:M.length=A.length+1)(hv:val M=val A+val B)(hc:c=A.length+1)(hB:Blk w2 w.heap.size M)(hb:Below w.heap.size w w1)(hg:w1.grownBy w2 (some w.heap.size))(hs:A.length<=549755813888)
  (hn:val A+val B=n) (hm:A.length+1<=m):Zm n m w (.returned (.slice (some ⟨w.heap.size,0,none⟩) (Qw M).length c)) w2:=by
 subst hc;have E:=Qf M;have h:=hB.rd (o:=0) (n:=(Qw M).length) (c:=A.length+1) (by omega) (by omega) (by unfold maxLen;omega);rw[List.drop_zero,<-(X9 M).1]at h;exact⟨_,Qw M,rfl,⟨h,fun k hk=>by cases hk;exact⟨Nat.le_refl _,hB.lt⟩⟩,by rw[Ql,hv,hn],by omega,Y0 M,Below.grown hb hg hb.size (fun k hk=>by cases hk;exact Nat.le_refl _)⟩
theorem Hq (xs ys:List Nat)(v u:Value)(w:World)(hlx:xs.length<=274877906944)(hly:ys.length<=274877906944)(hv:Rd w v xs)(hu:Rd w u ys):
  Calls Tryz.prog 271 #[v,u] w (Zm (val xs+val ys) (max (Qw xs).length (Qw ys).length+1) w):=by
 have HV:=zq hv;have HU:=zq hu;obtain⟨_,ao,cap,rfl,-⟩:=hv;obtain⟨_,bo,cap2,rfl,-⟩:=hu;have q1:=Qf xs;have q2:=Qf ys;obtain⟨X,hX⟩:=xq (Qw xs);obtain⟨Y,hY⟩:=xq (Qw ys)
 have HVX:Hid (val X=val xs):=by show _=_;rw[hX,Ql]
 have HVY:Hid (val Y=val ys):=by show _=_;rw[hY,Ql]
 rw[<-hX]at q1;rw[<-hY]at q2;rw[<-hX,<-hY];have HX:=zq hX;have HY:=zq hY
 have HOX:Hid (ok X):=by show ok _;rw[hX];exact Vm HV.o.ok
 have HOY:Hid (ok Y):=by show ok _;rw[hY];exact Vm HU.o.ok
 clear hX hY;by_cases hsw:X.length<Y.length
 ·have h21:X.length<=Y.length:=by omega
  have HMK:∀w:World,(Instr.makeSlice 59 (.int .i64 ((Y.length:Int)+1)) (.int .i64 ((Y.length:Int)+1))).run Tryz.prog w=.ok (.slice (some ⟨w.heap.size,0,none⟩) (Y.length+1) (Y.length+1)) (w.alloc (.cells (madeCells #[.int .u64 0] (Y.length+1)) 101)):=Zq (Y.length+1) (by omega);have HZ:=zq (Blk.made w (Y.length+1));have HBL:=zq (Qq w (.cells (madeCells #[.int .u64 0] (Y.length+1)) 101));have NA:=zq (HU.o.ne (Nat.le_refl w.heap.size));have NB:=zq (HV.o.ne (Nat.le_refl w.heap.size));have RA:=zq (HU.o.below HBL.o);have RB:=zq (HV.o.below HBL.o);go_enter Tryz.func271,Tryz.ntmps271;go_wp2_with fail;refine(X8 _ xs _ HV.o).mono ?_;rintro e w' ⟨rfl,rfl⟩;rw[<-HX.o];go_wp2_with fail;refine(X8 _ ys _ HU.o).mono ?_;rintro e w' ⟨rfl,rfl⟩;rw[<-HY.o];go_wp2_with fail;refine(X8 _ ys _ HU.o).mono ?_;rintro e w' ⟨rfl,rfl⟩;rw[<-HY.o];go_wp2_with fail;refine(X8 _ xs _ HV.o).mono ?_;rintro e w' ⟨rfl,rfl⟩;rw[<-HX.o];go_wp2_with fail;generalize w.alloc (.cells (madeCells #[.int .u64 0] (Y.length+1)) 101)=w1 at*;go_loopw [8,26] (fun cv i wr=>Gc Y X w.heap.size w1 cv i wr) (fun _ i _=>Y.length-(intOf i).toNat)
  case atStart=>exact⟨0,0,_,Nat.zero_le _,rfl,rfl,Nat.zero_le _,HZ.o,SmSt.start Y X,X1 w1 _⟩
  case round=>
   obtain⟨k,cc,M,hk,rfl,rfl,hcc,hM,hst,hgr⟩:=hrel;have HM:=zq hM;have HST:=zq hst;have HGR:=zq hgr
   have hml:k<M.length:=by have:=hst.1;omega
   have hml2:Y.length<M.length:=by have:=hst.1;omega
   have hml3:M.length<=Y.length+1:=by have:=hst.1;omega
   have hgw:=hM.lt;clear hM hst hgr;by_cases hlt:k<Y.length
   ·obtain⟨x,hx⟩:∃x,Y[k]?=some x:=⟨_,List.getElem?_eq_getElem hlt⟩
    obtain⟨z,hz⟩:∃z,M[k]?=some z:=⟨_,List.getElem?_eq_getElem hml⟩;have RA2:=RA.o.kept HGR.o (by intro q hq e2;cases hq;exact NA.o e2);have RB2:=RB.o.kept HGR.o (by intro q hq e2;cases hq;exact NB.o e2);obtain⟨ga,oa,hao,e1,hi1⟩:=RA2.cellAt (i:=k) (x:=x) (by rw[<-HY.o];exact hx);subst hao;have c1:=HM.o.cell hz;have c2:=HM.o.frozen k;have hxb:=HOY.o x (List.mem_of_getElem? hx);clear hz;by_cases hkb:k<X.length
    ·obtain⟨y,hy⟩:∃y,X[k]?=some y:=⟨_,List.getElem?_eq_getElem hkb⟩
     obtain⟨gb,ob,hbo,e2,hi2⟩:=RB2.cellAt (i:=k) (x:=y) (by rw[<-HX.o];exact hy);subst hbo;obtain⟨s,c',hs1,hs2,hs3,hrun⟩:=Zk x y cc hxb (HOX.o y (List.mem_of_getElem? hy)) hcc.o;have HN:=zq (HST.o.step hx (.inl hy) hs3);have HS:=zq (HM.o.set k hs1);have HC:=zq hs2;clear hx hy hs3 RA2 RB2 hxb hs1 hs2 hcc;go_wp2_with fail;have hfin:Gc Y X w.heap.size w1 (.int .u64 (c':Nat)) (.int .i64 ((k:Int)+1)) (wr.setCell ⟨w.heap.size,k,none⟩ (.int .u64 (s:Nat))):=⟨k+1,c',_,by omega,by go_num,rfl,HC.o,HS.o.1,HN.o,Xk HGR.o HS.o.2⟩
     first|exact⟨hfin,by simp[intOf];omega⟩|exact⟨by (repeat apply Exists.intro);exact⟨hfin,rfl⟩,by simp[intOf];omega⟩
    ·obtain⟨s,c',hs1,hs2,hs3,hrun⟩:=Zk x 0 cc hxb Xn hcc.o
     have hrun2:∀w:World,(callFunc 286 #[.int .u64 (x:Nat),.int .u64 0,.int .u64 (cc:Nat)]).run Tryz.prog w=.ok (.value (.tuple #[.int .u64 (s:Nat),.int .u64 (c':Nat)])) w:=hrun;have HN:=zq (HST.o.step hx (.inr ⟨by omega,rfl⟩) hs3);have HS:=zq (HM.o.set k hs1);have HC:=zq hs2;clear hx hs3 RA2 RB2 hxb hs1 hs2 hrun hcc;go_wp2_with fail;have hfin:Gc Y X w.heap.size w1 (.int .u64 (c':Nat)) (.int .i64 ((k:Int)+1)) (wr.setCell ⟨w.heap.size,k,none⟩ (.int .u64 (s:Nat))):=⟨k+1,c',_,by omega,by go_num,rfl,HC.o,HS.o.1,HN.o,Xk HGR.o HS.o.2⟩
     first|exact⟨hfin,by simp[intOf];omega⟩|exact⟨by (repeat apply Exists.intro);exact⟨hfin,rfl⟩,by simp[intOf];omega⟩
   ·obtain rfl:k=Y.length:=by omega
    obtain⟨z,hz⟩:∃z,M[Y.length]?=some z:=⟨_,List.getElem?_eq_getElem hml⟩;have c1:=HM.o.cell hz;have c2:=HM.o.frozen Y.length;have HD:=zq (HST.o.done h21);have HS:=zq (HM.o.set Y.length (show cc<BB by have:=hcc.o;unfold BB;omega));have R:=zq (HS.o.1.whole (by rw[HD.o.1];omega));have hRl:=HD.o.1;rw[hRl]at R;have hsl:=Qf (M.set Y.length cc);rw[hRl]at hsl;clear hz hlt hk hml hml2 hml3 hRl hcc;go_wp2_with fail;refine(X8 _ (M.set Y.length cc) _ R.o).mono ?_;rintro e w' ⟨rfl,rfl⟩;go_wp2_with fail;go_ret;exact Ax HD.o.1 HD.o.2 rfl HS.o.1 HBL.o (Xk HGR.o HS.o.2) (by omega) (by rw[HVX.o,HVY.o];exact Nat.add_comm _ _) (by omega)
 ·have h21:Y.length<=X.length:=by omega
  have HMK:∀w:World,(Instr.makeSlice 59 (.int .i64 ((X.length:Int)+1)) (.int .i64 ((X.length:Int)+1))).run Tryz.prog w=.ok (.slice (some ⟨w.heap.size,0,none⟩) (X.length+1) (X.length+1)) (w.alloc (.cells (madeCells #[.int .u64 0] (X.length+1)) 101)):=Zq (X.length+1) (by omega);have HZ:=zq (Blk.made w (X.length+1));have HBL:=zq (Qq w (.cells (madeCells #[.int .u64 0] (X.length+1)) 101));have NA:=zq (HV.o.ne (Nat.le_refl w.heap.size));have NB:=zq (HU.o.ne (Nat.le_refl w.heap.size));have RA:=zq (HV.o.below HBL.o);have RB:=zq (HU.o.below HBL.o);go_enter Tryz.func271,Tryz.ntmps271;go_wp2_with fail;refine(X8 _ xs _ HV.o).mono ?_;rintro e w' ⟨rfl,rfl⟩;rw[<-HX.o];go_wp2_with fail;refine(X8 _ ys _ HU.o).mono ?_;rintro e w' ⟨rfl,rfl⟩;rw[<-HY.o];go_wp2_with fail;refine(X8 _ xs _ HV.o).mono ?_;rintro e w' ⟨rfl,rfl⟩;rw[<-HX.o];go_wp2_with fail;refine(X8 _ ys _ HU.o).mono ?_;rintro e w' ⟨rfl,rfl⟩;rw[<-HY.o];go_wp2_with fail;generalize w.alloc (.cells (madeCells #[.int .u64 0] (X.length+1)) 101)=w1 at*;go_loopw [8,26] (fun cv i wr=>Gc X Y w.heap.size w1 cv i wr) (fun _ i _=>X.length-(intOf i).toNat)
  case atStart=>exact⟨0,0,_,Nat.zero_le _,rfl,rfl,Nat.zero_le _,HZ.o,SmSt.start X Y,X1 w1 _⟩
  case round=>
   obtain⟨k,cc,M,hk,rfl,rfl,hcc,hM,hst,hgr⟩:=hrel;have HM:=zq hM;have HST:=zq hst;have HGR:=zq hgr
   have hml:k<M.length:=by have:=hst.1;omega
   have hml2:X.length<M.length:=by have:=hst.1;omega
   have hml3:M.length<=X.length+1:=by have:=hst.1;omega
   have hgw:=hM.lt;clear hM hst hgr;by_cases hlt:k<X.length
   ·obtain⟨x,hx⟩:∃x,X[k]?=some x:=⟨_,List.getElem?_eq_getElem hlt⟩
    obtain⟨z,hz⟩:∃z,M[k]?=some z:=⟨_,List.getElem?_eq_getElem hml⟩;have RA2:=RA.o.kept HGR.o (by intro q hq e2;cases hq;exact NA.o e2);have RB2:=RB.o.kept HGR.o (by intro q hq e2;cases hq;exact NB.o e2);obtain⟨ga,oa,hao,e1,hi1⟩:=RA2.cellAt (i:=k) (x:=x) (by rw[<-HX.o];exact hx);subst hao;have c1:=HM.o.cell hz;have c2:=HM.o.frozen k;have hxb:=HOX.o x (List.mem_of_getElem? hx);clear hz;by_cases hkb:k<Y.length
    ·obtain⟨y,hy⟩:∃y,Y[k]?=some y:=⟨_,List.getElem?_eq_getElem hkb⟩
     obtain⟨gb,ob,hbo,e2,hi2⟩:=RB2.cellAt (i:=k) (x:=y) (by rw[<-HY.o];exact hy);subst hbo;obtain⟨s,c',hs1,hs2,hs3,hrun⟩:=Zk x y cc hxb (HOY.o y (List.mem_of_getElem? hy)) hcc.o;have HN:=zq (HST.o.step hx (.inl hy) hs3);have HS:=zq (HM.o.set k hs1);have HC:=zq hs2;clear hx hy hs3 RA2 RB2 hxb hs1 hs2 hcc;go_wp2_with fail;have hfin:Gc X Y w.heap.size w1 (.int .u64 (c':Nat)) (.int .i64 ((k:Int)+1)) (wr.setCell ⟨w.heap.size,k,none⟩ (.int .u64 (s:Nat))):=⟨k+1,c',_,by omega,by go_num,rfl,HC.o,HS.o.1,HN.o,Xk HGR.o HS.o.2⟩
     first|exact⟨hfin,by simp[intOf];omega⟩|exact⟨by (repeat apply Exists.intro);exact⟨hfin,rfl⟩,by simp[intOf];omega⟩
    ·obtain⟨s,c',hs1,hs2,hs3,hrun⟩:=Zk x 0 cc hxb Xn hcc.o
     have hrun2:∀w:World,(callFunc 286 #[.int .u64 (x:Nat),.int .u64 0,.int .u64 (cc:Nat)]).run Tryz.prog w=.ok (.value (.tuple #[.int .u64 (s:Nat),.int .u64 (c':Nat)])) w:=hrun;have HN:=zq (HST.o.step hx (.inr ⟨by omega,rfl⟩) hs3);have HS:=zq (HM.o.set k hs1);have HC:=zq hs2;clear hx hs3 RA2 RB2 hxb hs1 hs2 hrun hcc;go_wp2_with fail;have hfin:Gc X Y w.heap.size w1 (.int .u64 (c':Nat)) (.int .i64 ((k:Int)+1)) (wr.setCell ⟨w.heap.size,k,none⟩ (.int .u64 (s:Nat))):=⟨k+1,c',_,by omega,by go_num,rfl,HC.o,HS.o.1,HN.o,Xk HGR.o HS.o.2⟩
     first|exact⟨hfin,by simp[intOf];omega⟩|exact⟨by (repeat apply Exists.intro);exact⟨hfin,rfl⟩,by simp[intOf];omega⟩
   ·obtain rfl:k=X.length:=by omega
    obtain⟨z,hz⟩:∃z,M[X.length]?=some z:=⟨_,List.getElem?_eq_getElem hml⟩;have c1:=HM.o.cell hz;have c2:=HM.o.frozen X.length;have HD:=zq (HST.o.done h21);have HS:=zq (HM.o.set X.length (show cc<BB by have:=hcc.o;unfold BB;omega));have R:=zq (HS.o.1.whole (by rw[HD.o.1];omega));have hRl:=HD.o.1;rw[hRl]at R;have hsl:=Qf (M.set X.length cc);rw[hRl]at hsl;clear hz hlt hk hml hml2 hml3 hRl hcc;go_wp2_with fail;refine(X8 _ (M.set X.length cc) _ R.o).mono ?_;rintro e w' ⟨rfl,rfl⟩;go_wp2_with fail;go_ret;exact Ax HD.o.1 HD.o.2 rfl HS.o.1 HBL.o (Xk HGR.o HS.o.2) (by omega) (by rw[HVX.o,HVY.o]) (by omega)
theorem Qq8 (xs ys zs:List Nat)(v u t:Value)(w:World)(hl:xs.length+ys.length<274877906944)(hlz:zs.length<=274877906944)(hv:Rd w v xs)(hu:Rd w u ys)(ht:Rd w t zs):
  Calls Tryz.prog 269 #[v,u,t] w (Zm (val xs*val ys+val zs) (max (xs.length+ys.length) zs.length+1) w):=by
 have HV:=zq hv;have HU:=zq hu;have HT:=zq ht;clear hv hu ht;go_enter Tryz.func269,Tryz.ntmps269;go_wp2_with fail;refine(Mp xs ys _ _ _ hl HV.o HU.o).mono ?_;rintro e w1 ⟨g,M,rfl,hg,hM,hml,hmv,hb⟩;have q1:=Qf xs;have q2:=Qf ys;have q3:=Qf zs;have q4:=Qf M
 have hMl:M.length<=xs.length+ys.length:=by omega
 have R:=zq (hM.whole (by omega));have HB:=zq hb;have HMV:=zq hmv;have HT1:=zq (HT.o.below hb);clear hM hml hmv hb;go_wp2_with fail;refine(Hq M zs _ _ _ (by omega) hlz R.o HT1.o).mono ?_;rintro e w2 ⟨v2,rs,rfl,h1,h2,h3,h4,h5⟩;have H1:=zq (h1.mono HB.o.size)
 have H2:Hid (val rs=val xs*val ys+val zs):=by show _=_;rw[h2,HMV.o]
 have H3:Hid (rs.length<=max (xs.length+ys.length) zs.length+1):=by show _<=_;omega
 have H4:=zq h4;have H5:Hid (Below w.heap.size w w2):=HB.o.trans (h5.mono HB.o.size);clear h1 h2 h3 h4 h5;go_wp2_with fail;go_ret;exact⟨_,rs,rfl,H1.o,H2.o,H3.o,H4.o,H5.o⟩
def bitsN (xs:List Nat):Nat:=if (Qw xs).length=0 then 0 else 64*((Qw xs).length-1)+Lib.bitLen ((Qw xs).getD ((Qw xs).length-1) 0)
theorem Rv {x:Nat}(h0:0<x)(h:x<BB):1<=Lib.bitLen x/\Lib.bitLen x<=64/\2^(Lib.bitLen x-1)<=x/\x<2^Lib.bitLen x:=by
 have h':x<2^64:=h;obtain⟨E,I,H⟩:=Lib.bitLenAux_bounds 64 x h' (by omega);exact⟨E,Lib.bitLen_le x 64 (Nat.le_refl _) h',I,H⟩
theorem Kk (xs:List Nat)(hok:ok xs):bitsN xs=0↔val xs=0:=by
 rw[<-Ql xs];unfold bitsN;by_cases h:(Qw xs).length=0
 ·rw[if_pos h,List.eq_nil_of_length_eq_zero h];simp[val]
 ·rw[if_neg h]
  obtain⟨n,K⟩:∃n,(Qw xs).length=n+1:=⟨(Qw xs).length-1,by omega⟩;obtain⟨d,E,I⟩:=Vv xs n K;have T:d<BB:=Vm hok d (List.mem_of_getElem? E);rw[K,Nat.add_sub_cancel,List.getD_eq_getElem?_getD,E];have:=Rv (Nat.pos_of_ne_zero I) T;simp only[Option.getD_some];have U:=Xb (Qw xs) n (by omega)
  have J:(Qw xs).drop n=[d]:=by
   have O:n<(Qw xs).length:=by omega
   rw[List.drop_eq_getElem_cons O];have H:=List.getElem?_eq_getElem O;rw[E]at H;rw[<-Option.some.inj H,List.drop_eq_nil_of_le (by omega)]
  rw[J]at U;have Z:0<BB^n*val [d]:=Nat.mul_pos (Nat.pow_pos Xn) (by simp[val];omega);omega
theorem Wb (v:Value)(xs:List Nat)(w:World)(hr:Rd w v xs)(hl:xs.length<=1099511627776):
  Calls Tryz.prog 58 #[v] w fun e w'=>e=.returned (.int .i64 (bitsN xs:Nat))/\w=w':=by
 have HR:=zq hr;obtain⟨ao,cap,rfl,hnc,hcm,hok,hsh⟩:=hr.2;have HSH:=zq hsh;have HOK:=zq hok;have hle:=Qf xs;obtain⟨n,hn⟩:=xq ((Qw xs).length);rw[<-hn]at hle;have HN:=zq hn;clear hsh hok hcm hr;by_cases h0:n=0
 ·have hb:bitsN xs=0:=by unfold bitsN;rw[if_pos (by omega)]
  have HB:=zq hb;subst h0;clear hb hn;go_enter Tryz.func58,Tryz.ntmps58;go_wp2_with fail;refine(X8 _ xs _ HR.o).mono ?_;rintro e w' ⟨rfl,rfl⟩;rw[<-HN.o];go_wp2_with fail;go_ret;exact⟨by rw[HB.o];rfl,rfl⟩
 ·obtain⟨m,rfl⟩:∃m,n=m+1:=⟨n-1,by omega⟩
  obtain⟨d,hd,hd0⟩:=Vv xs m hn.symm
  have hdx:xs[m]?=some d:=by
   rw[(X9 xs).1,List.getElem?_take]at hd;split at hd
   ·exact hd
   ·cases hd
  have hdb:=HOK.o d (List.mem_of_getElem? hdx)
  have hb:bitsN xs=64*m+Lib.bitLen d:=by
   unfold bitsN;rw[if_neg (by omega),<-hn,Nat.add_sub_cancel,List.getD_eq_getElem?_getD,hd];rfl
  have hbl:=(Rv (Nat.pos_of_ne_zero hd0) hdb).2.1;obtain⟨k,hk⟩:=xq (Lib.bitLen d);rw[<-hk]at hb hbl;obtain⟨g,o,rfl,e1⟩:=HSH.o m d hdx;have HB:=zq hb;have HK:=zq hk;have HDB:=zq hdb;clear hb hd hdx hk hdb hn hd0;go_enter Tryz.func58,Tryz.ntmps58;go_wp2_with fail;refine(X8 _ xs _ HR.o).mono ?_;rintro e w' ⟨rfl,rfl⟩;rw[<-HN.o];go_wp2_with fail;refine(Tryz.bits_Len64 (d:Int) _ (by omega) (by have:=HDB.o;unfold BB at this;omega)).mono ?_;rintro e w1 ⟨rfl,rfl⟩;rw[Int.toNat_natCast,<-HK.o];go_wp2_with fail;go_ret;exact⟨by rw[HB.o];exact Wh (by omega),rfl⟩
def cmpI (a b:Nat):Int:=if a<b then -1 else if b<a then 1 else 0
theorem Wk {l:List Nat}{k x:Nat}(h:l[k]?=some x):val (l.drop k)=x+BB*val (l.drop (k+1)):=by
 have E:k<l.length:=(List.getElem?_eq_some_iff.1 h).1;rw[List.drop_eq_getElem_cons E];have:=List.getElem?_eq_getElem E;rw[h]at this;rw[<-Option.some.inj this];rfl
theorem Qkg {l:List Nat}{m:Nat}(h:(Qw l).length=m+1):BB^m<=val l:=by
 rw[<-Ql l];obtain⟨d,E,H⟩:=Vv l m h;rw[Xb (Qw l) m (by omega),Wk E];have I:BB^m*1<=BB^m*(d+BB*val ((Qw l).drop (m+1))):=Nat.mul_le_mul_left _ (by omega);omega
theorem M6 {xs ys:List Nat}(hx:ok xs)(h:(Qw xs).length<(Qw ys).length):val xs<val ys:=by
 obtain⟨m,H⟩:∃m,(Qw ys).length=m+1:=⟨(Qw ys).length-1,by omega⟩;have I:=Qkg H;have E:=Ym (Vm hx);rw[Ql]at E;have J:BB^(Qw xs).length<=BB^m:=Nat.pow_le_pow_right Xn (by omega);omega
theorem Bt {X Y:List Nat}{k x y:Nat}(hX:ok X)(hx:X[k]?=some x)(hy:Y[k]?=some y)(hd:val (X.drop (k+1))=val (Y.drop (k+1)))(hlt:x<y):val X<val Y:=by
 have lx:k<X.length:=(List.getElem?_eq_some_iff.1 hx).1;have ly:k<Y.length:=(List.getElem?_eq_some_iff.1 hy).1;rw[Xb X k (by omega),Xb Y k (by omega),Wk hx,Wk hy,hd];have h:=Ym (Zb hX k);rw[List.length_take,Nat.min_eq_left (by omega)]at h;have E:BB^k*(x+BB*val (Y.drop (k+1))+1)<=BB^k*(y+BB*val (Y.drop (k+1))):=Nat.mul_le_mul_left _ (by omega);rw[Nat.mul_add,Nat.mul_one]at E;omega
def Qga (a b:Nat)(w:World)(e:Ending)(w':World):Prop:=e=.returned (.int .i64 (cmpI a b))/\Below w.heap.size w w'
def Qhw (X Y:List Nat)(w:World)(i:Value)(wr:World):Prop:=∃k:Nat,k<=X.length/\i=.int .i64 ((k:Int)-1)/\val (X.drop k)=val (Y.drop k)/\Below w.heap.size w wr
theorem Qy1 {X Y:List Nat}(h:val (X.drop 0)=val (Y.drop 0)):cmpI (val X) (val Y)=0:=by
 rw[List.drop_zero,List.drop_zero]at h;unfold cmpI;rw[h];simp
theorem Ms {a b:Nat}(h:a<b):cmpI a b= -1:=if_pos h
theorem Qzt {a b:Nat}(h:b<a):cmpI a b=1:=by unfold cmpI;rw[if_neg (by omega),if_pos h]
theorem Va (v u:Value)(xs ys:List Nat)(w:World)(hv:Rd w v xs)(hu:Rd w u ys):
  Calls Tryz.prog 166 #[v,u] w (Qga (val xs) (val ys) w):=by
 have HV:=zq hv;have HU:=zq hu;obtain⟨ao,cap,rfl,hnc,hcm,hok,-⟩:=hv.2;obtain⟨bo,cap2,rfl,hnc2,hcm2,hok2,-⟩:=hu.2;have HOK:=zq hok;have HOK2:=zq hok2;have hle:=Qf xs;have hle2:=Qf ys;obtain⟨n,hn⟩:=xq ((Qw xs).length);obtain⟨m,hm⟩:=xq ((Qw ys).length);rw[<-hn]at hle;rw[<-hm]at hle2
 have hb:xs.length<=9223372036854775807:=by unfold maxLen at hcm;omega
 have hb2:ys.length<=9223372036854775807:=by unfold maxLen at hcm2;omega
 have HN:=zq hn;have HM:=zq hm;clear hv hu hok hok2 hcm hcm2 hn hm;go_enter Tryz.func166,Tryz.ntmps166;go_wp2_with fail;refine(X8 _ xs _ HV.o).mono ?_;rintro e w' ⟨rfl,rfl⟩;rw[<-HN.o];go_wp2_with fail;refine(X8 _ ys _ HU.o).mono ?_;rintro e w' ⟨rfl,rfl⟩;rw[<-HM.o];by_cases hnm:n=m
 ·have hnmB:((n:Int) !=(m:Int))=false:=by simp[hnm]
  have HNM:=zq hnm;clear hnm
  have HX:Hid (val xs=val (xs.take n)):=by show _=_;rw[HN.o,<-(X9 xs).1,Ql]
  have HY:Hid (val ys=val (ys.take n)):=by show _=_;rw[HNM.o,HM.o,<-(X9 ys).1,Ql]
  have hle3:n<=ys.length:=by have:=HNM.o;omega
  go_wp2_with fail;go_loopw [7] (fun i wr=>Qhw (xs.take n) (ys.take n) w i wr) (fun i _=>(intOf i+1).toNat)
  case atStart=>exact⟨n,by rw[List.length_take];omega,rfl,by rw[List.drop_eq_nil_of_le (by rw[List.length_take];omega),List.drop_eq_nil_of_le (by rw[List.length_take];omega)],Below.refl _ _⟩
  case round=>
   obtain⟨k,hk,rfl,hd,hbl⟩:=hrel;rw[List.length_take,Nat.min_eq_left hle]at hk;have HD:=zq hd;have HBL:=zq hbl;clear hd hbl
   cases k with
   |zero=>
    have hge: ¬((0:Int)<=((0:Nat):Int)-1):=by omega
    have HZ:=zq (Qy1 HD.o);rw[<-HX.o,<-HY.o]at HZ;go_wp2_with fail;go_ret
    exact⟨by rw[HZ.o];rfl,HBL.o⟩
   |succ k=>
    have hkk:(((k+1:Nat):Int)-1)=(k:Int):=by omega
    rw[hkk];clear hkk;obtain⟨x,hx⟩:∃x,xs[k]?=some x:=⟨_,List.getElem?_eq_getElem (by omega)⟩;obtain⟨y,hy⟩:∃y,ys[k]?=some y:=⟨_,List.getElem?_eq_getElem (by omega)⟩;obtain⟨ao',cap',e,-,-,-,hsh⟩:=(HV.o.below HBL.o).2
    cases e
    obtain⟨g,o,rfl,e1⟩:=hsh k x hx;obtain⟨bo',cap2',e',-,-,-,hsh2⟩:=(HU.o.below HBL.o).2
    cases e'
    obtain⟨g2,o2,rfl,e2⟩:=hsh2 k y hy
    have hxt:(xs.take n)[k]?=some x:=by rw[List.getElem?_take,if_pos (by omega)];exact hx
    have hyt:(ys.take n)[k]?=some y:=by rw[List.getElem?_take,if_pos (by omega)];exact hy
    have HXT:=zq hxt;have HYT:=zq hyt;have hi0:(0:Int)<=(k:Int):=Int.natCast_nonneg _
    have hi1:(k:Int)<(xs.length:Int):=by omega
    have hi2:(k:Int)<(ys.length:Int):=by omega
    clear hsh hsh2 hx hy hxt hyt;by_cases hlt:x<y
    ·have hb1:decide (x<y)=true:=by simp[hlt]
     have HF:Hid (cmpI (val xs) (val ys)= -1):=by
      show _=_;rw[HX.o,HY.o];exact Ms (Bt (Zb HOK.o _) HXT.o HYT.o HD.o hlt)
     clear hlt;go_wp2_with fail;go_quiet (fail);go_wp2_with fail;go_ret;exact⟨by rw[HF.o];rfl,below_drewN HBL.o _⟩
    ·have hb1:decide (x<y)=false:=by simp[hlt]
     by_cases hgt:y<x
     ·have hb3:decide (y<x)=true:=by simp[hgt]
      have HF:Hid (cmpI (val xs) (val ys)=1):=by
       show _=_;rw[HX.o,HY.o];exact Qzt (Bt (Zb HOK2.o _) HYT.o HXT.o HD.o.symm hgt)
      clear hlt hgt;go_wp2_with fail;go_quiet (fail);go_wp2_with fail;go_quiet (fail);go_wp2_with fail;go_ret;exact⟨by rw[HF.o];rfl,below_drewN (below_drewN HBL.o _) _⟩
     ·have hb3:decide (y<x)=false:=by simp[hgt]
      have HF:Hid (val ((xs.take n).drop k)=val ((ys.take n).drop k)):=by
       show _=_;rw[Wk HXT.o,Wk HYT.o,HD.o,show x=y from by omega]
      clear hlt hgt;go_wp2_with fail;go_quiet (fail);go_wp2_with fail;go_quiet (fail);go_wp2_with fail
      exact⟨⟨k,by rw[List.length_take];omega,rfl,HF.o,below_drewN HBL.o _⟩,by simp[intOf]<;>omega⟩
 ·have hnmB:((n:Int) !=(m:Int))=true:=by simp;omega
  by_cases hlt:n<m
  ·have hb1:decide (n<m)=true:=by simp[hlt]
   have HF:Hid (cmpI (val xs) (val ys)= -1):=Ms (M6 HOK.o (by rw[<-HN.o,<-HM.o];exact hlt));clear hlt hnm;go_wp2_with fail;go_ret;exact⟨by rw[HF.o];rfl,Below.refl _ _⟩
  ·have hb1:decide (n<m)=false:=by simp[hlt]
   have HF:Hid (cmpI (val xs) (val ys)=1):=Qzt (M6 HOK2.o (by rw[<-HN.o,<-HM.o];omega));clear hlt hnm;go_wp2_with fail;go_ret;exact⟨by rw[HF.o];rfl,Below.refl _ _⟩
def WdSt (L:List Nat)(y k r:Nat)(M:List Nat):Prop:=M.length=L.length/\M.take k=L.take k/\r<y/\val (L.drop k)=val (M.drop k)*y+r
theorem WdSt.start (L:List Nat){y:Nat}(hy:0<y):WdSt L y L.length 0 L:=⟨rfl,rfl,hy,by rw[List.drop_eq_nil_of_le (Nat.le_refl _)];simp[val]⟩
theorem WdSt.at {L M:List Nat}{y k r x:Nat}(h:WdSt L y (k+1) r M)(hx:M[k]?=some x):L[k]?=some x:=by
 have:=congrArg (fun l=>l[k]?) h.2.1;simp only[List.getElem?_take,Nat.lt_succ_self,if_true]at this;rw[<-this];exact hx
theorem WdSt.step {L M:List Nat}{y k r x:Nat}(h:WdSt L y (k+1) r M)(hx:M[k]?=some x):WdSt L y k ((r*BB+x) % y) (M.set k ((r*BB+x) / y)):=by
 have J:=h.at hx;obtain⟨K,I,O,E⟩:=h;have H:k<M.length:=(List.getElem?_eq_some_iff.1 hx).1;refine⟨by rw[List.length_set,K],?_,Nat.mod_lt _ (by omega),?_⟩
 ·rw[Pd _ (Nat.le_refl _)]
  have:=congrArg (List.take k) I;rw[List.take_take,List.take_take,Nat.min_eq_left (Nat.le_succ k)]at this;exact this
 ·have e1:(M.set k ((r*BB+x) / y))[k]?=some ((r*BB+x) / y):=by rw[List.getElem?_set_self H]
  rw[Wk J,Wk e1,Sc,E];have:=Nat.div_add_mod (r*BB+x) y;generalize (r*BB+x) / y=q at*;generalize (r*BB+x) % y=t at*;rw[Nat.mul_add,Nat.add_mul,Nat.mul_comm BB r,Nat.mul_assoc,Nat.mul_comm y q]at*;omega
theorem WdSt.fin {L M:List Nat}{y r:Nat}(h:WdSt L y 0 r M):M.length=L.length/\val M=val L / y/\r=val L % y:=by
 obtain⟨I,_,H,E⟩:=h;rw[List.drop_zero,List.drop_zero]at E
 have J:0<y:=by omega
 refine⟨I,?_,?_⟩
 ·rw[E,Nat.mul_comm,Nat.mul_add_div J,Nat.div_eq_of_lt H,Nat.add_zero]
 ·rw[E,Nat.mul_comm,Nat.mul_add_mod,Nat.mod_eq_of_lt H]
def Qwd (a y m:Nat)(w:World)(e:Ending)(w':World):Prop:=∃v qs,e=.returned (.tuple #[v,.int .u64 (a % y:Nat),.int .i64 0])/\Fr w.heap.size w' v qs/\val qs=a / y/\qs.length<=m/\Qw qs=qs/\Below w.heap.size w w'
theorem Mz (v:Value)(xs:List Nat)(y:Nat)(w:World)(hv:Rd w v xs)(hl:xs.length<=549755813888)(hy0:0<y)(hy:y<BB):
  Calls Tryz.prog 254 #[v,.int .u64 (y:Nat)] w (Qwd (val xs) y xs.length w):=by
 have HV:=zq hv;obtain⟨ao,cap,rfl,hnc,hcm,hok,-⟩:=hv.2
 have hyz:((y:Int)==0)=false:=by simp;omega
 have HY:=zq hy;have HY0:=zq hy0;clear hv hok hcm hy hy0;go_enter Tryz.func254,Tryz.ntmps254;go_wp2_with fail;refine(J8 _ xs _ HV.o (by omega)).mono ?_;rintro e w1 ⟨rfl,hB,hb⟩;obtain⟨X,hX⟩:=xq (Qw xs)
 have hXl:X.length<=549755813888:=by have:=Qf xs;rw[hX];omega
 have hXl2:X.length<=xs.length:=by have:=Qf xs;rw[hX];omega
 rw[<-hX]at hB ⊢;have HX:=zq hX;have HB:=zq hB;have HBL:=zq hb;have HST0:=zq (WdSt.start X HY0.o);obtain⟨g,hg⟩:=xq w.heap.size;rw[<-hg]at HB ⊢;have HG:=zq hg;obtain⟨n,hn⟩:=xq X.length;rw[<-hn]at hXl hXl2 HST0 ⊢;have HN:=zq hn;clear hX hB hb hg hn;go_wp2_with fail;go_loopw [8,9] (fun r i wr=> ∃(k rr:Nat) (M:List Nat),k<=n/\i=.int .i64 ((k:Int)-1)/\r=.int .u64 (rr:Nat)/\WdSt X y k rr M/\Blk wr g M/\w1.grownBy wr (some g)) (fun _ i _=>(intOf i+1).toNat)
 case atStart=>exact⟨n,0,X,Nat.le_refl _,rfl,rfl,HST0.o,HB.o,X1 _ _⟩
 case round=>
  obtain⟨k,rr,M,hk,rfl,rfl,hst,hM,hgr⟩:=hrel;have HST:=zq hst;have HM:=zq hM;have HGR:=zq hgr
  have hml:M.length=n:=by rw[hst.1,HN.o]
  clear hst hM hgr
  cases k with
  |zero=>
   have hge: ¬((0:Int)<=((0:Nat):Int)-1):=by omega
   have HF:=zq HST.o.fin;have HWB:Hid (Below w.heap.size w wr):=Below.grown HBL.o HGR.o HBL.o.size (fun q hq=>by cases hq;rw[HG.o];exact Nat.le_refl _)
   have HR:Hid (Rd wr (.slice (some ⟨g,0,none⟩) n n) M):=by
    have h0:=HM.o.whole (by omega);rw[hml]at h0;exact h0
   clear HST0 HB;go_wp2_with fail;refine(J8 _ M _ HR.o (by omega)).mono ?_;rintro e w3 ⟨rfl,hB3,hb3⟩;have HB3:=zq hB3;have HBL3:Hid (Below w.heap.size w w3):=HWB.o.trans (hb3.mono HWB.o.size);have hz:=HWB.o.size;clear hB3 hb3;go_wp2_with fail;go_ret3;have hsM:=Qf M;refine⟨_,Qw M,by rw[<-Ql xs,<-HX.o,<-HF.o.2.2];rfl,⟨HB3.o.whole (by omega),fun q hq=>by cases hq;exact⟨hz,HB3.o.lt⟩⟩,?_,by omega,Y0 M,HBL3.o⟩
   rw[Ql,HF.o.2.1,HX.o,Ql]
  |succ k=>
   have hkk:(((k+1:Nat):Int)-1)=(k:Int):=by omega
   rw[hkk];clear hkk;obtain⟨x,hx⟩:∃x,M[k]?=some x:=⟨_,List.getElem?_eq_getElem (by omega)⟩;have hxb:=HM.o.2 x (List.mem_of_getElem? hx);have HXB:=zq hxb;have hrr:=HST.o.2.2.1;have HRR:=zq hrr;have HS2:=zq (HST.o.step hx);have e1:=HM.o.cell hx
   have hq:(rr*BB+x) / y<BB:=by
    rw[Nat.div_lt_iff_lt_mul HY0.o];have h2:(rr+1)*BB<=y*BB:=Nat.mul_le_mul_right _ hrr;rw[Nat.mul_comm BB y];rw[Nat.add_mul,Nat.one_mul]at h2;omega
   obtain⟨q,hqe⟩:=xq ((rr*BB+x) / y);obtain⟨r2,hre⟩:=xq ((rr*BB+x) % y);rw[<-hqe]at hq HS2;rw[<-hre]at HS2;have HQ:=zq hq;have HQE:=zq hqe;have HRE:=zq hre;have hi0:(0:Int)<=(k:Int):=Int.natCast_nonneg _
   have hi1:(k:Int)<(n:Int):=by omega
   clear hx hxb hq hrr hqe hre;go_wp2_with fail;refine(Qvs rr x y _ HXB.o HRR.o HY.o).mono ?_;rintro e w3 ⟨rfl,hb3⟩;rw[<-HQE.o,<-HRE.o];have HM3:=zq (HM.o.below hb3 HM.o.lt);have HGR3:=zq (T9 HGR.o hb3);have HS:=zq (HM3.o.set k HQ.o);obtain⟨z,hz⟩:∃z,M[k]?=some z:=⟨_,List.getElem?_eq_getElem (by omega)⟩;have e4:=HM3.o.cell hz;have e3:=HM3.o.frozen k;clear hz hb3 e1;go_wp2_with fail
   have hfin:∃(k' rr':Nat) (M':List Nat),k'<=n/\Value.int .i64 ((k:Int)-1)=.int .i64 ((k':Int)-1)/\Value.int .u64 (r2:Nat)=.int .u64 (rr':Nat)/\WdSt X y k' rr' M'/\Blk (w3.setCell ⟨g,k,none⟩ (.int .u64 (q:Nat))) g M'/\w1.grownBy (w3.setCell ⟨g,k,none⟩ (.int .u64 (q:Nat))) (some g):=
    ⟨k,r2,M.set k q,by omega,rfl,rfl,HS2.o,HS.o.1,Xk HGR3.o HS.o.2⟩
   first|exact⟨hfin,by simp[intOf]<;>omega⟩|exact⟨by (repeat apply Exists.intro);exact⟨hfin,rfl⟩,by simp[intOf]<;>omega⟩
end Go.Proofs.YtgfmiladfeoldaaGreatDoor
