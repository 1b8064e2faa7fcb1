/- Joined texts of this claim's proof: Num3, Num4. -/
import Derived.Test.YtgfmiladfeoldaaGreatDoorPk4
import Derived.Shelf.Spec.BitsCarry
import Derived.StillTailTactics
import Derived.Deep.RegionLaw
import Derived.Test.YtgfmiladfeoldaaGreatDoorPk1
import Derived.Test.YtgfmiladfeoldaaGreatDoorPk3
set_option linter.unusedSimpArgs false
set_option linter.unusedVariables false
set_option maxRecDepth 100000
set_option maxHeartbeats 16000000
namespace Go.Proofs.YtgfmiladfeoldaaGreatDoor
open Go.RowKit NatP
theorem Zk (x y c:Nat)(hx:x<BB)(hy:y<BB)(hc:c<=1):∃s c':Nat,s<BB/\c'<=1/\s+BB*c'=x+y+c/\
  ∀w:World,(callFunc 286 #[.int .u64 (x:Nat),.int .u64 (y:Nat),.int .u64 (c:Nat)]).run Tryz.prog w=.ok (.value (.tuple #[.int .u64 (s:Nat),.int .u64 (c':Nat)])) w:=by
 unfold BB at*;refine⟨(x+y+c) % 18446744073709551616,(x+y+c) / 18446744073709551616,by omega,by omega,by omega,fun w=> ?_⟩;rw[run_callFunc_extern Tryz.func286 (by kernel_rfl) (by kernel_rfl) (by kernel_rfl) (e:=add64Entry) (by kernel_rfl),run_add64 x y c (by omega) (by omega) (by omega) (by omega)];simp only[Result.andThen]
 congr 5<;>omega
theorem Pr (x y c:Nat)(hx:x<BB)(hy:y<BB)(hc:c<=1):∃s c':Nat,s<BB/\c'<=1/\s+y+c=x+BB*c'/\
  ∀w:World,(callFunc 290 #[.int .u64 (x:Nat),.int .u64 (y:Nat),.int .u64 (c:Nat)]).run Tryz.prog w=.ok (.value (.tuple #[.int .u64 (s:Nat),.int .u64 (c':Nat)])) w:=by
 unfold BB at*
 refine⟨(x+18446744073709551616-y-c) % 18446744073709551616,(if x<y+c then 1 else 0),by omega,by split<;>omega,by split<;>omega,fun w=> ?_⟩
 rw[run_callFunc_extern Tryz.func290 (by kernel_rfl) (by kernel_rfl) (by kernel_rfl) (e:=sub64Entry) (by kernel_rfl),run_sub64 x y c hc];rfl
def J1 (L ys:List Nat)(o i c:Nat)(M:List Nat):Prop:=
 M.length=L.length/\M.take o=L.take o/\M.drop (o+i)=L.drop (o+i)/\val ((M.drop o).take i)+BB^i*c=val ((L.drop o).take i)+val (ys.take i)
theorem J1.start (L ys:List Nat)(o:Nat):J1 L ys o 0 0 L:=⟨rfl,rfl,rfl,by simp[val]⟩
theorem J1.at {L ys M:List Nat}{o i c z:Nat}(h:J1 L ys o i c M)(hz:M[o+i]?=some z):L[o+i]?=some z:=by
 have E:=congrArg (fun l=>l[0]?) h.2.2.1;simp only[List.getElem?_drop,Nat.add_zero]at E;rw[<-E];exact hz
theorem J1.step {L ys M:List Nat}{o i c z y s c':Nat}(h:J1 L ys o i c M)(hz:M[o+i]?=some z)(hy:(ys[i]?=some y)\/(ys.length<=i/\y=0))(hs:s+BB*c'=z+y+c):
  J1 L ys o (i+1) c' (M.set (o+i) s):=by
 have H:=h.at hz;obtain⟨T,O,J,K⟩:=h;have I:o+i<M.length:=(List.getElem?_eq_some_iff.1 hz).1;refine⟨by rw[List.length_set,T],by rw[Pd _ (by omega),O],?_,?_⟩
 ·rw[show o+(i+1)=o+i+1 from by omega,Sc]
  have:=congrArg (List.drop 1) J;rw[List.drop_drop,List.drop_drop]at this;exact this
 ·rw[Sn _ I]
  have U:o+i<L.length:=(List.getElem?_eq_some_iff.1 H).1
  have e1:(L.drop o).take (i+1)=(L.drop o).take i++[z]:=by
   rw[List.take_add_one,List.getElem?_drop,H];rfl
  have e2:val (ys.take (i+1))=val (ys.take i)+BB^i*y:=by
   rcases hy with hy|⟨hy,rfl⟩
   ·have E:i<ys.length:=(List.getElem?_eq_some_iff.1 hy).1
    rw[Xi E]
    have:ys[i]=y:=by rw[List.getElem?_eq_getElem E]at hy;exact Option.some.inj hy
    rw[this]
   ·rw[List.take_of_length_le (by omega),List.take_of_length_le (by omega)];simp
  rw[e1,e2,Zv,Zv,List.length_take,List.length_take,List.length_drop,List.length_drop,Nat.min_eq_left (by omega),Nat.min_eq_left (by omega),Nat.pow_succ];exact F8 K hs
def Qzv (L ys:List Nat)(o:Nat)(M:List Nat):Prop:=M.length=L.length/\M.take o=L.take o/\ ∃c,val (M.drop o)+BB^(L.length-o)*c=val (L.drop o)+val ys
theorem J1.done_all {L ys M:List Nat}{o i c:Nat}(h:J1 L ys o i c M)(hi:o+i=L.length)(hy:ys.length<=i):Qzv L ys o M:=by
 obtain⟨H,I,J,E⟩:=h;refine⟨H,I,c,?_⟩;rw[List.take_of_length_le (by rw[List.length_drop];omega),List.take_of_length_le (by rw[List.length_drop];omega),List.take_of_length_le hy]at E;rw[show L.length-o=i from by omega];exact E
theorem J1.done_zero {L ys M:List Nat}{o i:Nat}(h:J1 L ys o i 0 M)(hi:o+i<=L.length)(hy:ys.length<=i):Qzv L ys o M:=by
 obtain⟨H,J,I,E⟩:=h;refine⟨H,J,0,?_⟩;rw[List.take_of_length_le hy]at E;have e1:=Xb (M.drop o) i (by rw[List.length_drop];omega);have e2:=Xb (L.drop o) i (by rw[List.length_drop];omega);rw[List.drop_drop]at e1 e2;rw[e1,e2,I];simp only[Nat.mul_zero,Nat.add_zero]at E ⊢;omega
def Qgp (L ys:List Nat)(g o:Nat)(w:World)(e:Ending)(w':World):Prop:=e=.returned (.tuple #[])/\ ∃M,Blk w' g M/\Qzv L ys o M/\w.grownBy w' (some g)
theorem Xk {w0 w:World}{g:Nat}(h:w0.grownBy w (some g)){w':World}(h2:w.grownBy w' (some g)):w0.grownBy w' (some g):=
 ⟨h2.os.trans h.os,h2.tape.trans h.tape,h2.output.trans h.output,Nat.le_trans h.size h2.size,fun k hk hn=>(h2.block k (Nat.lt_of_lt_of_le hk h.size) hn).trans (h.block k hk hn)⟩
theorem X1 (w:World)(row:Option Nat):w.grownBy w row:=⟨rfl,rfl,rfl,Nat.le_refl _,fun _ _ _=>rfl⟩
theorem Zs (w:World)(n:Nat)(row:Option Nat):w.grownBy (w.drewN n) row:=⟨rfl,rfl,rfl,Nat.le_refl _,fun _ _ _=>rfl⟩
theorem J7 (g o n c:Nat)(L ys:List Nat)(v:Value)(w:World)(hL:Blk w g L)(hn:o+n=L.length)(hnc:n<=c)(hc:c<=1099511627776)(hv:Rd w v ys)(hvb:v.ownBlock≠some g)(hy:ys.length<=n):
  Calls Tryz.prog 275 #[.slice (some ⟨g,o,none⟩) n c,v] w (Qgp L ys g o w):=by
 have HV:=zq hv;obtain⟨ao,cap,rfl,-,hcm,hok,hsh⟩:=hv.2;have HB:=zq hL;have HOK:=zq hok
 have hll:o+n<=L.length:=by omega
 have HLL:=zq hn;clear hL hok hsh hcm hn;go_enter Tryz.func275,Tryz.ntmps275;go_wp2_with fail;go_loopw [4,9] (fun cv i wr=> ∃(k cc:Nat) (M:List Nat),k<=ys.length/\i=.int .i64 (k:Nat)/\cv=.int .u64 (cc:Nat)/\cc<=1/\Blk wr g M/\J1 L ys o k cc M/\w.grownBy wr (some g)) (fun _ i _=>ys.length-(intOf i).toNat)
 case atStart=>exact⟨0,0,L,Nat.zero_le _,rfl,rfl,Nat.zero_le _,HB.o,J1.start L ys o,X1 w _⟩
 case round=>
  obtain⟨k,cc,M,hk,rfl,rfl,hcc,hM,hst,hgr⟩:=hrel;have HM:=zq hM;have HST:=zq hst;have HGR:=zq hgr;have hml:M.length=L.length:=hst.1;clear hM hst hgr;by_cases hlt:k<ys.length
  ·obtain⟨y,hyy⟩:∃y,ys[k]?=some y:=⟨_,List.getElem?_eq_getElem hlt⟩
   obtain⟨z,hz⟩:∃z,M[o+k]?=some z:=⟨_,List.getElem?_eq_getElem (by omega)⟩;obtain⟨s,c',hs1,hs2,hs3,hrun⟩:=Zk z y cc (HM.o.2 z (List.mem_of_getElem? hz)) (HOK.o y (List.mem_of_getElem? hyy)) hcc;obtain⟨ao',cap',e,-,-,-,hsh⟩:=(HV.o.kept HGR.o (fun q hq=>by cases hq;exact hvb)).2
   cases e
   obtain⟨g2,o2,rfl,e2⟩:=hsh k y hyy;have e1:=HM.o.cell hz;have e3:=HM.o.frozen (o+k);have HN:=zq (HST.o.step hz (.inl hyy) hs3);have HS:=zq (Blk.set (w:=wr.drewN 1) HM.o (o+k) hs1);have hi0:(0:Int)<=(k:Int):=Int.natCast_nonneg _
   have hi1:(k:Int)<(n:Int):=by omega
   have hi2:(k:Int)<(ys.length:Int):=by omega
   clear hyy hz hsh hs3;go_wp2_with fail;go_region_law (fail)
   all_goals
    go_wp2_with fail
    have hfin:∃(k' cc':Nat) (M':List Nat),k'<=ys.length/\Value.int .i64 ((k:Int)+1)=.int .i64 (k':Nat)/\Value.int .u64 (c':Nat)=.int .u64 (cc':Nat)/\cc'<=1/\Blk ((wr.drewN 1).setCell ⟨g,o+k,none⟩ (.int .u64 (s:Nat))) g M'/\J1 L ys o k' cc' M'/\w.grownBy ((wr.drewN 1).setCell ⟨g,o+k,none⟩ (.int .u64 (s:Nat))) (some g):=
     ⟨k+1,c',M.set (o+k) s,by omega,by go_num,rfl,hs2,HS.o.1,HN.o,Xk (Xk HGR.o (Zs wr 1 _)) HS.o.2⟩
    first|exact⟨hfin,by simp[intOf];omega⟩|exact⟨by (repeat apply Exists.intro);exact⟨hfin,rfl⟩,by simp[intOf];omega⟩
  ·obtain rfl:k=ys.length:=by omega
   have hyn:=hy;clear hlt hk hy;go_wp2_with fail;go_loopw [4,6] (fun cv i wr=> ∃(k cc:Nat) (M:List Nat),ys.length<=k/\k<=n/\i=.int .i64 (k:Nat)/\cv=.int .u64 (cc:Nat)/\cc<=1/\Blk wr g M/\J1 L ys o k cc M/\w.grownBy wr (some g)) (fun _ i _=>n-(intOf i).toNat)
   case atStart=>exact⟨ys.length,cc,M,Nat.le_refl _,hyn,rfl,rfl,hcc,HM.o,HST.o,HGR.o⟩
   clear HM HST HGR hml hcc
   case round=>
    obtain⟨k,cc,M,hyk,hk,rfl,rfl,hcc,hM,hst,hgr⟩:=hrel;have HM:=zq hM;have HST:=zq hst;have HGR:=zq hgr;have hml:M.length=L.length:=hst.1;clear hM hst hgr;by_cases hc0:cc=0
    ·subst hc0
     have HD:=zq (HST.o.done_zero (by omega) hyk);go_wp2_with fail;go_end0;exact⟨rfl,M,HM.o,HD.o,HGR.o⟩
    ·have hcb:((cc:Int) !=0)=true:=by simp;omega
     by_cases hlt:k<n
     ·obtain⟨z,hz⟩:∃z,M[o+k]?=some z:=⟨_,List.getElem?_eq_getElem (by omega)⟩
      obtain⟨s,c',hs1,hs2,hs3,hrun⟩:=Zk z 0 cc (HM.o.2 z (List.mem_of_getElem? hz)) Xn hcc;have hrun2:∀w:World,(callFunc 286 #[.int .u64 (z:Nat),.int .u64 0,.int .u64 (cc:Nat)]).run Tryz.prog w=.ok (.value (.tuple #[.int .u64 (s:Nat),.int .u64 (c':Nat)])) w:=hrun;have e1:=HM.o.cell hz;have e3:=HM.o.frozen (o+k);have HN:=zq (HST.o.step (y:=0) hz (.inr ⟨hyk,rfl⟩) hs3);have HS:=zq (HM.o.set (o+k) hs1);have hi0:(0:Int)<=(k:Int):=Int.natCast_nonneg _
      have hi1:(k:Int)<(n:Int):=by omega
      clear hz hs3 hrun;go_wp2_with fail
      have hfin:∃(k' cc':Nat) (M':List Nat),ys.length<=k'/\k'<=n/\Value.int .i64 ((k:Int)+1)=.int .i64 (k':Nat)/\Value.int .u64 (c':Nat)=.int .u64 (cc':Nat)/\cc'<=1/\Blk (wr.setCell ⟨g,o+k,none⟩ (.int .u64 (s:Nat))) g M'/\J1 L ys o k' cc' M'/\w.grownBy (wr.setCell ⟨g,o+k,none⟩ (.int .u64 (s:Nat))) (some g):=
       ⟨k+1,c',M.set (o+k) s,by omega,by omega,by go_num,rfl,hs2,HS.o.1,HN.o,Xk HGR.o HS.o.2⟩
      first|exact⟨hfin,by simp[intOf];omega⟩|exact⟨by (repeat apply Exists.intro);exact⟨hfin,rfl⟩,by simp[intOf];omega⟩
     ·have HD:=zq (HST.o.done_all (by have:=HLL.o;omega) hyk)
      go_wp2_with fail;go_end0;exact⟨rfl,M,HM.o,HD.o,HGR.o⟩
def W6 (L ys:List Nat)(i c:Nat)(M:List Nat):Prop:=
 M.length=L.length/\M.drop i=L.drop i/\val (M.take i)+val (ys.take i)=val (L.take i)+BB^i*c
theorem W6.start (L ys:List Nat):W6 L ys 0 0 L:=⟨rfl,rfl,by simp[val]⟩
theorem Qjz {P X Y Z x y c s c':Nat}(h:Z+Y=X+P*c)(hs:s+y+c=x+BB*c'):(Z+P*s)+(Y+P*y)=(X+P*x)+P*BB*c':=by
 have E:P*s+P*y+P*c=P*x+P*(BB*c'):=by rw[<-Nat.mul_add,<-Nat.mul_add,hs,Nat.mul_add]
 rw[Nat.mul_assoc];omega
theorem W6.step {L ys M:List Nat}{i c z y s c':Nat}(h:W6 L ys i c M)(hz:M[i]?=some z)(hy:(ys[i]?=some y)\/(ys.length<=i/\y=0))(hs:s+y+c=z+BB*c'):
  W6 L ys (i+1) c' (M.set i s):=by
 obtain⟨T,J,O⟩:=h;have Z:i<M.length:=(List.getElem?_eq_some_iff.1 hz).1
 have I:L[i]?=some z:=by
  have K:=congrArg (fun l=>l[0]?) J;simp only[List.getElem?_drop,Nat.add_zero]at K;rw[<-K];exact hz
 have U:i<L.length:=(List.getElem?_eq_some_iff.1 I).1;refine⟨by rw[List.length_set,T],?_,?_⟩
 ·rw[Sc]
  have:=congrArg (List.drop 1) J;rw[List.drop_drop,List.drop_drop]at this;exact this
 ·have E:=Sn (l:=M) (o:=0) (i:=i) s (by omega)
  rw[List.drop_zero,List.drop_zero,Nat.zero_add]at E;rw[E]
  have e1:L.take (i+1)=L.take i++[z]:=by rw[List.take_add_one,I];rfl
  have e2:val (ys.take (i+1))=val (ys.take i)+BB^i*y:=by
   rcases hy with hy|⟨hy,rfl⟩
   ·have H:i<ys.length:=(List.getElem?_eq_some_iff.1 hy).1
    rw[Xi H]
    have:ys[i]=y:=by rw[List.getElem?_eq_getElem H]at hy;exact Option.some.inj hy
    rw[this]
   ·rw[List.take_of_length_le (by omega),List.take_of_length_le (by omega)];simp
  rw[e1,e2,Zv,Zv,List.length_take,List.length_take,Nat.min_eq_left (by omega),Nat.min_eq_left (by omega),Nat.pow_succ];exact Qjz O hs
theorem W6.done_zero {L ys M:List Nat}{i:Nat}(h:W6 L ys i 0 M)(hi:i<=L.length)(hy:ys.length<=i):M.length=L.length/\val M+val ys=val L:=by
 obtain⟨H,I,E⟩:=h;refine⟨H,?_⟩;rw[List.take_of_length_le hy]at E;have e1:=Xb M i (by omega);have e2:=Xb L i hi;rw[e1,e2,I];simp only[Nat.mul_zero,Nat.add_zero]at E;omega
theorem W6.done_all {L ys M:List Nat}{c:Nat}(h:W6 L ys L.length c M)(hM:ok M)(hy:ys.length<=L.length)(hle:val ys<=val L):M.length=L.length/\val M+val ys=val L:=by
 obtain⟨H,J,E⟩:=h;refine⟨H,?_⟩;rw[List.take_of_length_le hy,List.take_of_length_le (by omega),List.take_length]at E;have I:=Ym hM;rw[H]at I
 cases c with
 |zero=>simpa using E
 |succ c=>
  rw[Nat.mul_succ]at E;omega
def Qpm (L ys:List Nat)(g:Nat)(w:World)(e:Ending)(w':World):Prop:=e=.returned (.tuple #[])/\ ∃M,Blk w' g M/\M.length=L.length/\val M+val ys=val L/\w.grownBy w' (some g)
theorem Uq (g n c:Nat)(L ys:List Nat)(v:Value)(w:World)(hL:Blk w g L)(hn:n=L.length)(hnc:n<=c)(hc:c<=1099511627776)(hv:Rd w v ys)(hvb:v.ownBlock≠some g)(hy:ys.length<=n)(hle:val ys<=val L):
  Calls Tryz.prog 289 #[.slice (some ⟨g,0,none⟩) n c,v] w (Qpm L ys g w):=by
 have HV:=zq hv;obtain⟨ao,cap,rfl,-,hcm,hok,hsh⟩:=hv.2;have HB:=zq hL;have HOK:=zq hok;have HLE:=zq hle
 have hll:n<=L.length:=by omega
 have HLL:=zq hn;clear hL hok hsh hcm hn hle;go_enter Tryz.func289,Tryz.ntmps289;go_wp2_with fail;go_loopw [4,9] (fun cv i wr=> ∃(k cc:Nat) (M:List Nat),k<=n/\i=.int .i64 (k:Nat)/\cv=.int .u64 (cc:Nat)/\cc<=1/\Blk wr g M/\W6 L ys k cc M/\w.grownBy wr (some g)) (fun _ i _=>n-(intOf i).toNat)
 case atStart=>exact⟨0,0,L,Nat.zero_le _,rfl,rfl,Nat.zero_le _,HB.o,W6.start L ys,X1 w _⟩
 case round=>
  obtain⟨k,cc,M,hk,rfl,rfl,hcc,hM,hst,hgr⟩:=hrel;have HM:=zq hM;have HST:=zq hst;have HGR:=zq hgr;have hml:M.length=L.length:=hst.1;clear hM hst hgr;by_cases hlt:k<n
  ·obtain⟨z,hz⟩:∃z,M[k]?=some z:=⟨_,List.getElem?_eq_getElem (by omega)⟩
   have e1:=HM.o.cell hz;have e3:=HM.o.frozen k;have hi0:(0:Int)<=(k:Int):=Int.natCast_nonneg _
   have hi1:(k:Int)<(n:Int):=by omega
   by_cases hky:k<ys.length
   ·obtain⟨y,hyy⟩:∃y,ys[k]?=some y:=⟨_,List.getElem?_eq_getElem hky⟩
    obtain⟨s,c',hs1,hs2,hs3,hrun⟩:=Pr z y cc (HM.o.2 z (List.mem_of_getElem? hz)) (HOK.o y (List.mem_of_getElem? hyy)) hcc;obtain⟨ao',cap',e,-,-,-,hsh⟩:=(HV.o.kept HGR.o (fun q hq=>by cases hq;exact hvb)).2
    cases e
    obtain⟨g2,o2,rfl,e2⟩:=hsh k y hyy;have HN:=zq (HST.o.step hz (.inl hyy) hs3);have HS:=zq (HM.o.set k hs1);clear hyy hz hsh hs3;go_wp2_with fail
    have hfin:∃(k' cc':Nat) (M':List Nat),k'<=n/\Value.int .i64 ((k:Int)+1)=.int .i64 (k':Nat)/\Value.int .u64 (c':Nat)=.int .u64 (cc':Nat)/\cc'<=1/\Blk (wr.setCell ⟨g,k,none⟩ (.int .u64 (s:Nat))) g M'/\W6 L ys k' cc' M'/\w.grownBy (wr.setCell ⟨g,k,none⟩ (.int .u64 (s:Nat))) (some g):=
     ⟨k+1,c',M.set k s,by omega,by go_num,rfl,hs2,HS.o.1,HN.o,Xk HGR.o HS.o.2⟩
    first|exact⟨hfin,by simp[intOf];omega⟩|exact⟨by (repeat apply Exists.intro);exact⟨hfin,rfl⟩,by simp[intOf];omega⟩
   ·by_cases hc0:cc=0
    ·subst hc0
     have HD:=zq (HST.o.done_zero (by omega) (by omega));clear hz;go_wp2_with fail;refine bodyPost_ret (results_none rfl _ _ _) rfl ?_;exact⟨rfl,M,HM.o,HD.o.1,HD.o.2,HGR.o⟩
    ·have hcb:((cc:Int)==0)=false:=by simp;omega
     obtain⟨s,c',hs1,hs2,hs3,hrun⟩:=Pr z 0 cc (HM.o.2 z (List.mem_of_getElem? hz)) Xn hcc;have hrun2:∀w:World,(callFunc 290 #[.int .u64 (z:Nat),.int .u64 0,.int .u64 (cc:Nat)]).run Tryz.prog w=.ok (.value (.tuple #[.int .u64 (s:Nat),.int .u64 (c':Nat)])) w:=hrun;have HN:=zq (HST.o.step (y:=0) hz (.inr ⟨by omega,rfl⟩) hs3);have HS:=zq (HM.o.set k hs1);clear hz hs3 hrun;go_wp2_with fail
     have hfin:∃(k' cc':Nat) (M':List Nat),k'<=n/\Value.int .i64 ((k:Int)+1)=.int .i64 (k':Nat)/\Value.int .u64 (c':Nat)=.int .u64 (cc':Nat)/\cc'<=1/\Blk (wr.setCell ⟨g,k,none⟩ (.int .u64 (s:Nat))) g M'/\W6 L ys k' cc' M'/\w.grownBy (wr.setCell ⟨g,k,none⟩ (.int .u64 (s:Nat))) (some g):=
      ⟨k+1,c',M.set k s,by omega,by go_num,rfl,hs2,HS.o.1,HN.o,Xk HGR.o HS.o.2⟩
     first|exact⟨hfin,by simp[intOf];omega⟩|exact⟨by (repeat apply Exists.intro);exact⟨hfin,rfl⟩,by simp[intOf];omega⟩
  ·obtain rfl:k=n:=by omega
   have HD:Hid (M.length=L.length/\val M+val ys=val L):=W6.done_all (by rw[<-HLL.o];exact HST.o) HM.o.2 (by omega) HLE.o;go_wp2_with fail;go_end0;exact⟨rfl,M,HM.o,HD.o.1,HD.o.2,HGR.o⟩
def Qp3 (hi lo:Nat)(w:World)(e:Ending)(w':World):Prop:=e=.returned (.tuple #[.int .u64 (hi:Nat),.int .u64 (lo:Nat)])/\w=w'
theorem Pw (x y:Nat)(hx:x<BB)(hy:y<BB):∃hi lo:Nat,lo<BB/\hi*BB+lo=x*y/\ ∀w:World,Calls Tryz.prog 287 #[.int .u64 (x:Nat),.int .u64 (y:Nat)] w (Qp3 hi lo w):=by
 unfold BB at*;refine⟨x*y / 18446744073709551616,x*y % 18446744073709551616,by omega,by omega,fun w=> ?_⟩;refine(Tryz.bits_Mul64 x y hx hy w).mono fun e w' ⟨h1,h2⟩=>⟨h1,h2.symm⟩
def Qzm (xs ys:List Nat)(g:Nat)(w:World)(e:Ending)(w':World):Prop:=e=.returned (.tuple #[])/\ ∃M,Blk w' g M/\M.length=xs.length+ys.length/\val M=val xs*val ys/\w.grownBy w' (some g)
theorem Bx (g n:Nat)(xs ys:List Nat)(v u:Value)(w:World)(hL:Blk w g (List.replicate n 0))(hn:n=xs.length+ys.length)(hc:n<=1099511627776)
  (hv:Rd w v xs) (hvb:v.ownBlock≠some g) (hu:Rd w u ys) (hub:u.ownBlock≠some g):
  Calls Tryz.prog 274 #[.slice (some ⟨g,0,none⟩) n n,v,u] w (Qzm xs ys g w):=by
 have HV:=zq hv;have HU:=zq hu;obtain⟨ao,cap,rfl,-,-,hok,-⟩:=hv.2;obtain⟨bo,cap2,rfl,-,-,hok2,-⟩:=hu.2;have HOK:=zq hok;have HOK2:=zq hok2;have HST0:=zq (W8.start xs ys);rw[<-hn]at HST0;have HB:=zq hL
 have hll:xs.length+ys.length<=n:=by omega
 have hll2:n<=xs.length+ys.length:=by omega
 clear hL hok hok2 hn;go_enter Tryz.func274,Tryz.ntmps274;go_wp2_with fail;go_loopw [16] (fun i wr=> ∃(k:Nat) (M:List Nat),k<=xs.length/\i=.int .i64 (k:Nat)/\Blk wr g M/\W8 xs ys k M/\w.grownBy wr (some g)) (fun i _=>xs.length-(intOf i).toNat)
 case atStart=>exact⟨0,_,Nat.zero_le _,rfl,HB.o,HST0.o,X1 w _⟩
 clear HST0
 case round=>
  obtain⟨k,M,hk,rfl,hM,hst,hgr⟩:=hrel;have HM:=zq hM;have HST:=zq hst;have HGR:=zq hgr;have hml:M.length=xs.length+ys.length:=hst.1;clear hM hst hgr;by_cases hlt:k<xs.length
  ·obtain⟨x,hx⟩:∃x,xs[k]?=some x:=⟨_,List.getElem?_eq_getElem hlt⟩
   have hxb:=HOK.o x (List.mem_of_getElem? hx);obtain⟨ao',cap',e,-,-,-,hsh⟩:=(HV.o.kept HGR.o (fun q hq=>by cases hq;exact hvb)).2
   cases e
   obtain⟨g2,o2,rfl,e2⟩:=hsh k x hx;have HX:=zq hx;have HXB:=zq hxb;clear hsh hx hxb;by_cases hx0:x=0
   ·subst hx0
    have HN:=zq (HST.o.zero HX.o);go_wp2_with fail;have hfin:∃(k':Nat) (M':List Nat),k'<=xs.length/\Value.int .i64 ((k:Int)+1)=.int .i64 (k':Nat)/\Blk wr g M'/\W8 xs ys k' M'/\w.grownBy wr (some g):=⟨k+1,M,by omega,by go_num,HM.o,HN.o,HGR.o⟩
    first|exact⟨hfin,by simp[intOf];omega⟩|exact⟨by (repeat apply Exists.intro);exact⟨hfin,rfl⟩,by simp[intOf];omega⟩
   ·have hxn:((x:Int)==0)=false:=by simp[hx0]
    clear hx0;go_wp2_with fail;go_loopw [8,25] (fun cv j w2=> ∃(q cc:Nat) (M':List Nat),q<=ys.length/\j=.int .i64 (q:Nat)/\cv=.int .u64 (cc:Nat)/\Hid (cc<BB)/\Blk w2 g M'/\InSt M ys k x q cc M'/\w.grownBy w2 (some g)) (fun _ j _=>ys.length-(intOf j).toNat)
    case atStart=>exact⟨0,0,M,Nat.zero_le _,rfl,rfl,Xn,HM.o,InSt.start M ys k x,HGR.o⟩
    clear HM HGR e2
    case round=>
     rename_i w2 _;obtain⟨q,cc,M',hq,rfl,rfl,hcc,hM,hst,hgr⟩:=hrel;have HM:=zq hM;have HIN:=zq hst;have HGR:=zq hgr;have hml':M'.length=M.length:=hst.1;clear hM hst hgr;by_cases hqt:q<ys.length
     ·obtain⟨y,hy⟩:∃y,ys[q]?=some y:=⟨_,List.getElem?_eq_getElem hqt⟩
      obtain⟨z,hz⟩:∃z,M'[k+q]?=some z:=⟨_,List.getElem?_eq_getElem (by omega)⟩;have hyb:=HOK2.o y (List.mem_of_getElem? hy);have hzb:=HM.o.2 z (List.mem_of_getElem? hz);obtain⟨hi,lo,hlo,hp,hmul⟩:=Pw x y HXB.o hyb;obtain⟨s1,c1,hs1,hc1,h1,hr1⟩:=Zk lo cc 0 hlo hcc.o (Nat.zero_le _);obtain⟨h2,hh2⟩:=xq (hi+c1);obtain⟨s2,c2,hs2,hc2,h4,hr2⟩:=Zk z s1 0 hzb hs1 (Nat.zero_le _);obtain⟨c3,hc3⟩:=xq (h2+c2);rw[Nat.add_zero]at h1 h4;obtain⟨f1,f2,f3⟩:=Qja HXB.o hyb hzb hcc.o hp h1 hh2 h4;rw[<-hc3]at f2 f3;have HN:=zq (HIN.o.step hz hy f2);have HF3:=zq f3;have HS:=zq (HM.o.set (k+q) hs2);obtain⟨bo',cap3,e,-,-,-,hsh⟩:=(HU.o.kept HGR.o (fun q hq=>by cases hq;exact hub)).2
      cases e
      obtain⟨g3,o3,rfl,e2⟩:=hsh q y hy;have e1:=HM.o.cell hz;have e3:=HM.o.frozen (k+q);have HMUL:=zq hmul;have hr1':∀w:World,(callFunc 286 #[.int .u64 (lo:Nat),.int .u64 (cc:Nat),.int .u64 0]).run Tryz.prog w=.ok (.value (.tuple #[.int .u64 (s1:Nat),.int .u64 (c1:Nat)])) w:=hr1;have hr2':∀w:World,(callFunc 286 #[.int .u64 (z:Nat),.int .u64 (s1:Nat),.int .u64 0]).run Tryz.prog w=.ok (.value (.tuple #[.int .u64 (s2:Nat),.int .u64 (c2:Nat)])) w:=hr2
      have hw1:IntKind.u64.wrap ((hi:Int)+(c1:Int))=(h2:Int):=by unfold BB at f1;rw[IntKind.wrap_u64];omega
      have hw2:IntKind.u64.wrap ((h2:Int)+(c2:Int))=(c3:Int):=by unfold BB at f3;rw[IntKind.wrap_u64];omega
      have HW1:=zq hw1;have HW2:=zq hw2;clear hsh hy hz hyb hzb hmul hp h1 h4 hh2 hc3 f1 f2 f3 hlo hs1 hs2 hr1 hr2 hw1 hw2;go_wp2_with fail;refine(HMUL.o _).mono ?_;rintro e w' ⟨rfl,rfl⟩;have hw1:=HW1.o;have hw2:=HW2.o;go_wp2_with fail;exact⟨⟨q+1,c3,M'.set (k+q) s2,by omega,by go_num,rfl,HF3.o,HS.o.1,HN.o,Xk HGR.o HS.o.2⟩,by simp[intOf];omega⟩
     ·obtain rfl:q=ys.length:=by omega
      obtain⟨hn1,hn2⟩:=HST.o.row HX.o HIN.o;have HN:=zq hn1;have HS:=zq (HM.o.set (k+ys.length) hcc.o);have e1:=HM.o.cell hn2;have e3:=HM.o.frozen (k+ys.length);clear hn1 hn2 hcc;go_wp2_with fail;have hfin:∃(k':Nat) (M2:List Nat),k'<=xs.length/\Value.int .i64 ((k:Int)+1)=.int .i64 (k':Nat)/\Blk (wr.setCell ⟨g,k+ys.length,none⟩ (.int .u64 (cc:Nat))) g M2/\W8 xs ys k' M2/\w.grownBy (wr.setCell ⟨g,k+ys.length,none⟩ (.int .u64 (cc:Nat))) (some g):=⟨k+1,_,by omega,by go_num,HS.o.1,HN.o,Xk HGR.o HS.o.2⟩
      first|exact⟨hfin,by simp[intOf];omega⟩|exact⟨by (repeat apply Exists.intro);exact⟨hfin,rfl⟩,by simp[intOf];omega⟩
  ·obtain rfl:k=xs.length:=by omega
   have HD:=zq HST.o.done;go_wp2_with fail;go_end0;exact⟨rfl,M,HM.o,HD.o.1,HD.o.2,HGR.o⟩
theorem Qkk (w:World)(o:Obj){ao:Option Addr}{xs:List Nat}(hsh:∀i x,xs[i]?=some x-> ∃g o,ao=some ⟨g,o,none⟩/\w.cell? ⟨g,o+i,none⟩=some (.int .u64 (x:Nat)))(h0:0<xs.length):
  ∃ad,ao=some ad/\ ∀(j:Nat) (v:Value),(ws xs)[j]?=some v->(w.alloc o).cell? (ad.add j)=some v:=by
 obtain⟨g,of,rfl,_⟩:=hsh 0 xs[0] (List.getElem?_eq_getElem h0);refine⟨_,rfl,fun j u hu=> ?_⟩;simp only[ws,List.getElem?_map,Option.map_eq_some_iff]at hu;obtain⟨x,H,rfl⟩:=hu;obtain⟨g',o',e,E⟩:=hsh j x H
 cases e
 have h:=World.block_lt_of_cell? w _ E
 have e2:(⟨g,of,none⟩:Addr).add j=⟨g,of+j,none⟩:=by unfold Addr.add;split<;>simp_all
 rw[e2,(Qq w o).cell (p:=⟨g,of+j,none⟩) h];exact E
theorem Qgk {m:Nat}{xs ys:List Nat}(hx:ok xs)(hy:ok ys)(h1:xs.length<=m)(h2:ys.length<=m):∀M,ok M->Qzv (xs++List.replicate (m+1-xs.length) 0) ys 0 M->M.length=m+1/\val M=val xs+val ys:=by
 intro M E ⟨a1,_,c,a3⟩
 have h:(xs++List.replicate (m+1-xs.length) 0).length=m+1:=by rw[List.length_append,List.length_replicate];omega
 rw[List.drop_zero,List.drop_zero,h,Wc,Z2,Nat.mul_zero,Nat.add_zero]at a3;refine⟨by rw[a1,h],?_⟩;have b1:=Ym hx;have b2:=Ym hy;exact(T6 a3 (Qj0 (Nat.lt_of_lt_of_le b1 (Nat.pow_le_pow_right Xn h1)) (Nat.lt_of_lt_of_le b2 (Nat.pow_le_pow_right Xn h2)))).2
def Qpa (xs ys:List Nat)(w:World)(e:Ending)(w':World):Prop:=∃g M,e=.returned (.slice (some ⟨g,0,none⟩) M.length M.length)/\w.heap.size<=g/\Blk w' g M/\M.length=max xs.length ys.length+1/\val M=val xs+val ys/\Below w.heap.size w w'
theorem M5 (v u:Value)(xs ys:List Nat)(w:World)(hv:Rd w v xs)(hu:Rd w u ys)(hx:xs.length<=549755813888)(hy:ys.length<=549755813888):
  Calls Tryz.prog 288 #[v,u] w (Qpa xs ys w):=by
 have HV:=zq hv;have HU:=zq hu;obtain⟨ao,cap,rfl,-,-,hok,hsh⟩:=hv.2;obtain⟨bo,cap2,rfl,-,-,hok2,-⟩:=hu.2;have HOK:=zq hok;have HSH:=zq hsh;obtain⟨m,hm⟩:=xq (max xs.length ys.length)
 have hm1:xs.length<=m:=by omega
 have hm2:ys.length<=m:=by omega
 have hm3:m<=549755813888:=by omega
 have HMK:∀w:World,(Instr.makeSlice 59 (.int .i64 ((m:Int)+1)) (.int .i64 ((m:Int)+1))).run Tryz.prog w=.ok (.slice (some ⟨w.heap.size,0,none⟩) (m+1) (m+1)) (w.alloc (.cells (madeCells #[.int .u64 0] (m+1)) 101)):=Zq (m+1) (by omega)
 have hmx:max (xs.length:Int) (ys.length:Int)=(m:Int):=by omega
 have HM:=zq hm;have HB:=zq (Blk.made w (m+1)).1;have HBL:=zq (Qq w (.cells (madeCells #[.int .u64 0] (m+1)) 101));have HCL:=zq (Ze xs);have HMIN:Hid (Nat.min xs.length (m+1)=xs.length):=Nat.min_eq_left (by omega);have HPOS:=zq (Qkk w (.cells (madeCells #[.int .u64 0] (m+1)) 101) HSH.o)
 have HFIT:Hid (0+(ws xs).length<=(ws (List.replicate (m+1) 0)).length):=by
  show _<=_;rw[Ze,Ze,List.length_replicate];omega
 have HFIN:=zq (Qgk (m:=m) hok hok2 hm1 hm2);clear hok hok2 hsh hm;go_enter Tryz.func288,Tryz.ntmps288;go_wp2_with ((with_reducible refine wpList_copy_splice (o:=⟨some 15,_,_,_,_,_⟩) rfl (.tmp 13) (.tmp 14) 59 59 rfl 101 Tryz.underlying59 Tryz.infoW1 (some ⟨w.heap.size,0,none⟩) ao (m+1) (m+1) xs.length cap rfl rfl w.heap.size 0 (ws (List.replicate (m+1) 0)) 101 HB.o (ws xs) (by rw[HCL.o,HMIN.o]) (fun h=>⟨rfl,HPOS.o (by rw[<-HCL.o];exact h)⟩) HFIT.o (Qqi _) w.heap.size w HBL.o (Nat.le_refl _) ?_);intro w2 hg2 hb2)
 have HF:Hid (Blk w2 w.heap.size (xs++List.replicate (m+1-xs.length) 0)):=by
  refine⟨?_,Gi HOK.o (Px _)⟩;have h1:=hg2.o;rw[h1];congr 2;simp only[splice,List.take_zero,List.nil_append,Nat.zero_add];rw[HCL.o];simp[ws]
 have HB2:=zq hb2;have HU2:=zq (HU.o.below hb2);have hbo:=HU.o.ne (Nat.le_refl w.heap.size);clear hg2 hb2;go_wp2_with fail;refine(J7 w.heap.size 0 (m+1) (m+1) (xs++List.replicate (m+1-xs.length) 0) ys _ _ HF.o (by rw[List.length_append,List.length_replicate];omega) (Nat.le_refl _) (by omega) HU2.o hbo (by omega)).mono ?_;rintro e w3 ⟨rfl,M,hM,hadd,hgr⟩;obtain⟨hl,hval⟩:=HFIN.o M hM.2 hadd;have HM3:=zq hM;have HL:=zq hl;have HV3:=zq hval;have HB3:Hid (Below w.heap.size w w3):=Below.grown HB2.o hgr HB2.o.size (fun k hk=>by cases hk;exact Nat.le_refl _);clear hM hadd hgr hl hval;go_wp2_with fail;go_ret
 exact⟨w.heap.size,M,by rw[HL.o]<;>rfl,Nat.le_refl _,HM3.o,by rw[HL.o,HM.o],HV3.o,HB3.o⟩
end Go.Proofs.YtgfmiladfeoldaaGreatDoor
