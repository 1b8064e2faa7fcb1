import Derived.Test.YtgfmiladfeoldaaGreatDoorPk1
import Derived.Shelf.Spec.BitsCarry
import Derived.StillTailTactics
import Derived.Deep.RegionHeld3
set_option linter.unusedSimpArgs false
set_option linter.unusedVariables false
set_option maxRecDepth 100000
set_option maxHeartbeats 16000000
namespace Go.Proofs.YtgfmiladfeoldaaGreatDoor
open Go.RowKit NatP
theorem Zz (n:Nat)(hn:n<=1099511627776):∀w:World,(Instr.makeSlice 59 (.int .i64 (n:Int)) (.int .i64 (n:Int))).run Tryz.prog w=.ok (.slice (some ⟨w.heap.size,0,none⟩) n n) (w.alloc (.cells (madeCells #[.int .u64 0] n) 101)):=by
 obtain⟨i0,K,E,H,I⟩:=info_parts Tryz.infoW;intro w
 have J:(i0.bytes:Int)*(n:Int)<=281474976710656:=by rw[I];omega
 have h:=run_make (P:=Tryz.prog) w 59 101 i0 (.int .u64 0) Tryz.underlying59 K E .i64 .i64 n n (by omega) (Int.le_refl _) J (by omega);simp only[Int.toNat_natCast]at h;rw[h,H,Nat.mul_one];rfl
theorem Qq (w:World)(o:Obj):Below w.heap.size w (w.alloc o):=(Below.refl _ _).alloc (Nat.le_refl _) o
def Mo (xs:List Nat)(w:World)(e:Ending)(w':World):Prop:=e=.returned (.slice (some ⟨w.heap.size,0,none⟩) xs.length xs.length)/\Blk w' w.heap.size xs/\Below w.heap.size w w'
theorem Qjk (v:Value)(xs:List Nat)(w:World)(hr:Rd w v xs)(hl:xs.length<=1099511627776):
  Calls Tryz.prog 217 #[v] w (Mo (Qy xs) w):=by
 have HR:=zq hr;obtain⟨ao,cap,rfl,hnc,hcm,hok,hsh⟩:=hr.2;have hsl:=Qr xs;have HT:=zq (Yg xs).1;have HOK:=zq (J5 hok);have HSH:=zq hsh;have HMK:=Zz (Qy xs).length (by omega);clear hsh hcm hok;go_enter Tryz.func217,Tryz.ntmps217;go_wp2_with fail;refine(X8 _ xs _ HR.o).mono ?_;rintro e w' ⟨rfl,rfl⟩;generalize hns:(Qy xs).length=n at*;have HN:=zq hns;clear hns;have HB:=zq (Blk.made w n).1;have HBL:=zq (Qq w (.cells (madeCells #[.int .u64 0] n) 101))
 have hcl:(ws (Qy xs)).length=n:=by rw[Yl,HN.o]
 have HCL:=zq hcl;have hmin:Nat.min xs.length n=n:=Nat.min_eq_right (by omega);have HMIN:=zq hmin;clear hcl hmin
 have HPOS:Hid (0<(ws (Qy xs)).length-> ∃ad,ao=some ad/\ ∀(j:Nat) (v:Value),(ws (Qy xs))[j]?=some v->(w.alloc (.cells (madeCells #[.int .u64 0] n) 101)).cell? (ad.add j)=some v):=by
  intro h0;rw[HCL.o]at h0;obtain⟨g,o,rfl,_⟩:=HSH.o 0 xs[0] (List.getElem?_eq_getElem (by omega));refine⟨_,rfl,fun j u hu=> ?_⟩;simp only[ws,List.getElem?_map,Option.map_eq_some_iff]at hu;obtain⟨x,hx,rfl⟩:=hu;rw[HT.o,List.getElem?_take]at hx;split at hx
  ·obtain⟨g',o',e,hc⟩:=HSH.o j x hx
   cases e
   have hlt:=World.block_lt_of_cell? w _ hc
   have e2:(⟨g,o,none⟩:Addr).add j=⟨g,o+j,none⟩:=by unfold Addr.add;split<;>simp_all
   rw[e2,HBL.o.cell (p:=⟨g,o+j,none⟩) hlt];exact hc
  ·cases hx
 have HFIT:Hid (0+(ws (Qy xs)).length<=(ws (List.replicate n 0)).length):=by
  show _<=_;rw[HCL.o,Yl,List.length_replicate];omega
 go_wp2_with ((with_reducible refine wpList_copy_splice (o:=⟨some 11,_,_,_,_,_⟩) rfl (.tmp 9) (.tmp 10) 59 59 rfl 101 Tryz.underlying59 Tryz.infoW1 (some ⟨w.heap.size,0,none⟩) ao n n xs.length cap rfl rfl w.heap.size 0 (ws (List.replicate n 0)) 101 HB.o (ws (Qy xs)) (by rw[HCL.o,HMIN.o]) (fun h=>⟨rfl,HPOS.o h⟩) HFIT.o (Qzg _) w.heap.size w HBL.o (Nat.le_refl _) ?_);intro w2 hg2 hb2)
 have HF:Hid (Blk w2 w.heap.size (Qy xs)):=by
  refine⟨?_,HOK.o⟩;have h1:=hg2.o;rw[h1];congr 2;simp only[splice,List.take_zero,List.nil_append,Nat.zero_add];rw[HCL.o,List.drop_eq_nil_of_le (by rw[Yl,List.length_replicate];omega),List.append_nil]
 have HB2:=zq hb2;clear hg2 hb2;go_wp2_with fail;go_ret;exact⟨by rw[HN.o];rfl,HF.o,HB2.o⟩
theorem Hr {xs:List Nat}{w:World}{e:Ending}{w':World}(hl:xs.length<=1099511627776)(h:Mo xs w e w'):Mi xs w e w':=by
 obtain⟨rfl,E,H⟩:=h;refine⟨_,rfl,⟨?_,fun k hk=> ?_⟩,H⟩
 ·have:=E.rd (o:=0) (n:=xs.length) (c:=xs.length) (by omega) (Nat.le_refl _) (by unfold maxLen;omega)
  rw[List.drop_zero,List.take_of_length_le (Nat.le_refl _)]at this;exact this
 ·cases hk;exact⟨Nat.le_refl _,E.lt⟩
theorem Qgm {xs:List Nat}{w:World}{e:Ending}{w':World}(hl:xs.length<=1099511627776)(h:Mo xs w e w'):∃v,e=.returned v/\Fr w.heap.size w' v xs/\Below w.heap.size w w'/\w'.ownsRow 0 101 1 v xs.length (ws xs):=by
 obtain⟨v,J,E,H⟩:=Hr hl h;obtain⟨rfl,I,-⟩:=h
 cases J
 exact⟨_,rfl,E,H,by rw[Yl];omega,.inr ⟨w.heap.size,xs.length,_,rfl,Nat.zero_le _,I.1,Nat.le_refl _,by unfold maxLen;omega,by simp[Yl],by show List.take (xs.length*1) (ws xs)=ws xs;exact List.take_of_length_le (by rw[Yl];omega)⟩⟩
theorem Qgc (v:Value)(xs:List Nat)(w:World)(hr:Rd w v xs)(hl:xs.length<=1099511627776):
  Calls Tryz.prog 217 #[v] w (Mi (Qy xs) w):=
 (Qjk v xs w hr hl).mono fun _ _ h=>Hr (by have:=Qr xs;omega) h
theorem Ju (v:Value)(xs:List Nat)(w:World)(hr:Rd w v xs)(hl:xs.length<=1099511627776):
  Calls Tryz.prog 171 #[v] w (Mo (Qy xs) w):=by
 have HR:=zq hr;clear hr;go_enter Tryz.func171,Tryz.ntmps171;go_wp2_with fail;refine(Qjk _ xs _ HR.o hl).mono ?_;rintro e w' ⟨rfl,hf,hb⟩;have HF:=zq hf;have HB:=zq hb;clear hf hb;go_wp2_with fail;go_ret;exact⟨rfl,HF.o,HB.o⟩
theorem Vp (v:Value)(xs:List Nat)(w:World)(hr:Rd w v xs)(hl:xs.length<=1099511627776):
  Calls Tryz.prog 171 #[v] w (Mi (Qy xs) w):=by
 have HR:=zq hr;clear hr;go_enter Tryz.func171,Tryz.ntmps171;go_wp2_with fail;refine(Qgc _ xs _ HR.o hl).mono ?_;rintro e w' ⟨v',rfl,hf,hb⟩;have HF:=zq hf;have HB:=zq hb;clear hf hb;go_wp2_with fail;go_ret;exact⟨_,rfl,HF.o,HB.o⟩
theorem Zj (x y c:Nat)(hx:x<BB)(hy:y<BB)(hc:c<=1):∃s c':Nat,s<BB/\c'<=1/\s+BB*c'=x+y+c/\
  ∀w:World,(callFunc 286 #[.int .u64 (x:Nat),.int .u64 (y:Nat),.int .u64 (c:Nat)]).run Tryz.prog w=.ok (.value (.tuple #[.int .u64 (s:Nat),.int .u64 (c':Nat)])) w:=by
 unfold BB at*;refine⟨(x+y+c) % 18446744073709551616,(x+y+c) / 18446744073709551616,by omega,by omega,by omega,fun w=> ?_⟩;rw[run_callFunc_extern Tryz.func286 (by kernel_rfl) (by kernel_rfl) (by kernel_rfl) (e:=add64Entry) (by kernel_rfl),run_add64 x y c (by omega) (by omega) (by omega) (by omega)];simp only[Result.andThen]
 congr 5<;>omega
theorem Pt (x y c:Nat)(hx:x<BB)(hy:y<BB)(hc:c<=1):∃s c':Nat,s<BB/\c'<=1/\s+y+c=x+BB*c'/\
  ∀w:World,(callFunc 290 #[.int .u64 (x:Nat),.int .u64 (y:Nat),.int .u64 (c:Nat)]).run Tryz.prog w=.ok (.value (.tuple #[.int .u64 (s:Nat),.int .u64 (c':Nat)])) w:=by
 unfold BB at*
 refine⟨(x+18446744073709551616-y-c) % 18446744073709551616,(if x<y+c then 1 else 0),by omega,by split<;>omega,by split<;>omega,fun w=> ?_⟩
 rw[run_callFunc_extern Tryz.func290 (by kernel_rfl) (by kernel_rfl) (by kernel_rfl) (e:=sub64Entry) (by kernel_rfl),run_sub64 x y c hc];rfl
def Vz (L ys:List Nat)(o i c:Nat)(M:List Nat):Prop:=
 M.length=L.length/\M.take o=L.take o/\M.drop (o+i)=L.drop (o+i)/\val ((M.drop o).take i)+BB^i*c=val ((L.drop o).take i)+val (ys.take i)
theorem Vz.start (L ys:List Nat)(o:Nat):Vz L ys o 0 0 L:=⟨rfl,rfl,rfl,by simp[val]⟩
theorem Vz.at {L ys M:List Nat}{o i c z:Nat}(h:Vz L ys o i c M)(hz:M[o+i]?=some z):L[o+i]?=some z:=by
 have E:=congrArg (fun l=>l[0]?) h.2.2.1;simp only[List.getElem?_drop,Nat.add_zero]at E;rw[<-E];exact hz
theorem Vz.step {L ys M:List Nat}{o i c z y s c':Nat}(h:Vz L ys o i c M)(hz:M[o+i]?=some z)(hy:(ys[i]?=some y)\/(ys.length<=i/\y=0))(hs:s+BB*c'=z+y+c):
  Vz L ys o (i+1) c' (M.set (o+i) s):=by
 have E:=h.at hz;obtain⟨J,K,O,T⟩:=h;have I:o+i<M.length:=(List.getElem?_eq_some_iff.1 hz).1;refine⟨by rw[List.length_set,J],by rw[Pl _ (by omega),K],?_,?_⟩
 ·rw[show o+(i+1)=o+i+1 from by omega,Sc]
  have:=congrArg (List.drop 1) O;rw[List.drop_drop,List.drop_drop]at this;exact this
 ·rw[Rv _ I]
  have U:o+i<L.length:=(List.getElem?_eq_some_iff.1 E).1
  have e1:(L.drop o).take (i+1)=(L.drop o).take i++[z]:=by
   rw[List.take_add_one,List.getElem?_drop,E];rfl
  have e2:val (ys.take (i+1))=val (ys.take i)+BB^i*y:=by
   rcases hy with hy|⟨hy,rfl⟩
   ·have H:i<ys.length:=(List.getElem?_eq_some_iff.1 hy).1
    rw[X1 H]
    have:ys[i]=y:=by rw[List.getElem?_eq_getElem H]at hy;exact Option.some.inj hy
    rw[this]
   ·rw[List.take_of_length_le (by omega),List.take_of_length_le (by omega)];simp
  rw[e1,e2,Zk,Zk,List.length_take,List.length_take,List.length_drop,List.length_drop,Nat.min_eq_left (by omega),Nat.min_eq_left (by omega),Nat.pow_succ];exact Fp T hs
def Qzm (L ys:List Nat)(o:Nat)(M:List Nat):Prop:=M.length=L.length/\M.take o=L.take o/\ ∃c,val (M.drop o)+BB^(L.length-o)*c=val (L.drop o)+val ys
theorem Vz.done_all {L ys M:List Nat}{o i c:Nat}(h:Vz L ys o i c M)(hi:o+i=L.length)(hy:ys.length<=i):Qzm L ys o M:=by
 obtain⟨H,I,J,E⟩:=h;refine⟨H,I,c,?_⟩;rw[List.take_of_length_le (by rw[List.length_drop];omega),List.take_of_length_le (by rw[List.length_drop];omega),List.take_of_length_le hy]at E;rw[show L.length-o=i from by omega];exact E
theorem Vz.done_zero {L ys M:List Nat}{o i:Nat}(h:Vz L ys o i 0 M)(hi:o+i<=L.length)(hy:ys.length<=i):Qzm L ys o M:=by
 obtain⟨H,I,J,E⟩:=h;refine⟨H,I,0,?_⟩;rw[List.take_of_length_le hy]at E;have e1:=Xm (M.drop o) i (by rw[List.length_drop];omega);have e2:=Xm (L.drop o) i (by rw[List.length_drop];omega);rw[List.drop_drop]at e1 e2;rw[e1,e2,J];simp only[Nat.mul_zero,Nat.add_zero]at E ⊢;omega
def Qpv (L ys:List Nat)(g o:Nat)(w:World)(e:Ending)(w':World):Prop:=e=.returned (.tuple #[])/\ ∃M,Blk w' g M/\Qzm L ys o M/\w.grownBy w' (some g)
theorem Xw {w0 w:World}{g:Nat}(h:w0.grownBy w (some g)){w':World}(h2:w.grownBy w' (some g)):w0.grownBy w' (some g):=
 ⟨h2.os.trans h.os,h2.tape.trans h.tape,h2.output.trans h.output,Nat.le_trans h.size h2.size,fun k hk hn=>(h2.block k (Nat.lt_of_lt_of_le hk h.size) hn).trans (h.block k hk hn)⟩
theorem X5 (w:World)(row:Option Nat):w.grownBy w row:=⟨rfl,rfl,rfl,Nat.le_refl _,fun _ _ _=>rfl⟩
theorem Jd (w:World)(n:Nat)(row:Option Nat):w.grownBy (w.drewN n) row:=⟨rfl,rfl,rfl,Nat.le_refl _,fun _ _ _=>rfl⟩
theorem Ub (g o n c:Nat)(L ys:List Nat)(v:Value)(w:World)(hL:Blk w g L)(hn:o+n=L.length)(hnc:n<=c)(hc:c<=1099511627776)(hv:Rd w v ys)(hvb:v.ownBlock≠some g)(hy:ys.length<=n):
  Calls Tryz.prog 275 #[.slice (some ⟨g,o,none⟩) n c,v] w (Qpv L ys g o w):=by
 have HV:=zq hv;obtain⟨ao,cap,rfl,-,hcm,hok,hsh⟩:=hv.2;have HB:=zq hL;have HOK:=zq hok
 have hll:o+n<=L.length:=by omega
 have HLL:=zq hn;clear hL hok hsh hcm hn;go_enter Tryz.func275,Tryz.ntmps275;go_wp2_with fail;go_loopw [4,9] (fun cv i wr=> ∃(k cc:Nat) (M:List Nat),k<=ys.length/\i=.int .i64 (k:Nat)/\cv=.int .u64 (cc:Nat)/\cc<=1/\Blk wr g M/\Vz L ys o k cc M/\w.grownBy wr (some g)) (fun _ i _=>ys.length-(intOf i).toNat)
 case atStart=>exact⟨0,0,L,Nat.zero_le _,rfl,rfl,Nat.zero_le _,HB.o,Vz.start L ys o,X5 w _⟩
 case round=>
  obtain⟨k,cc,M,hk,rfl,rfl,hcc,hM,hst,hgr⟩:=hrel;have HM:=zq hM;have HST:=zq hst;have HGR:=zq hgr;have hml:M.length=L.length:=hst.1;clear hM hst hgr;by_cases hlt:k<ys.length
  ·obtain⟨y,hyy⟩:∃y,ys[k]?=some y:=⟨_,List.getElem?_eq_getElem hlt⟩
   obtain⟨z,hz⟩:∃z,M[o+k]?=some z:=⟨_,List.getElem?_eq_getElem (by omega)⟩;obtain⟨s,c',hs1,hs2,hs3,hrun⟩:=Zj z y cc (HM.o.2 z (List.mem_of_getElem? hz)) (HOK.o y (List.mem_of_getElem? hyy)) hcc;obtain⟨ao',cap',e,-,-,-,hsh⟩:=(HV.o.kept HGR.o (fun q hq=>by cases hq;exact hvb)).2
   cases e
   obtain⟨g2,o2,rfl,e2⟩:=hsh k y hyy;have e1:=HM.o.cell hz;have e3:=HM.o.frozen (o+k);have HN:=zq (HST.o.step hz (.inl hyy) hs3);have HS:=zq (Blk.set (w:=wr.drewN 1) HM.o (o+k) hs1);have hi0:(0:Int)<=(k:Int):=Int.natCast_nonneg _
   have hi1:(k:Int)<(n:Int):=by omega
   have hi2:(k:Int)<(ys.length:Int):=by omega
   clear hyy hz hsh hs3;go_wp2_with fail;go_region_law (fail)
   all_goals
    go_wp2_with fail
    have hfin:∃(k' cc':Nat) (M':List Nat),k'<=ys.length/\Value.int .i64 ((k:Int)+1)=.int .i64 (k':Nat)/\Value.int .u64 (c':Nat)=.int .u64 (cc':Nat)/\cc'<=1/\Blk ((wr.drewN 1).setCell ⟨g,o+k,none⟩ (.int .u64 (s:Nat))) g M'/\Vz L ys o k' cc' M'/\w.grownBy ((wr.drewN 1).setCell ⟨g,o+k,none⟩ (.int .u64 (s:Nat))) (some g):=
     ⟨k+1,c',M.set (o+k) s,by omega,by go_num,rfl,hs2,HS.o.1,HN.o,Xw (Xw HGR.o (Jd wr 1 _)) HS.o.2⟩
    exact⟨hfin,by simp[intOf];omega⟩
  ·obtain rfl:k=ys.length:=by omega
   have hyn:=hy;clear hlt hk hy;go_wp2_with fail;go_loopw [4,6] (fun cv i wr=> ∃(k cc:Nat) (M:List Nat),ys.length<=k/\k<=n/\i=.int .i64 (k:Nat)/\cv=.int .u64 (cc:Nat)/\cc<=1/\Blk wr g M/\Vz L ys o k cc M/\w.grownBy wr (some g)) (fun _ i _=>n-(intOf i).toNat)
   case atStart=>exact⟨ys.length,cc,M,Nat.le_refl _,hyn,rfl,rfl,hcc,HM.o,HST.o,HGR.o⟩
   clear HM HST HGR hml hcc
   case round=>
    obtain⟨k,cc,M,hyk,hk,rfl,rfl,hcc,hM,hst,hgr⟩:=hrel;have HM:=zq hM;have HST:=zq hst;have HGR:=zq hgr;have hml:M.length=L.length:=hst.1;clear hM hst hgr;by_cases hc0:cc=0
    ·subst hc0
     have HD:=zq (HST.o.done_zero (by omega) hyk);go_wp2_with fail;go_end0;exact⟨rfl,M,HM.o,HD.o,HGR.o⟩
    ·have hcb:((cc:Int) !=0)=true:=by simp;omega
     by_cases hlt:k<n
     ·obtain⟨z,hz⟩:∃z,M[o+k]?=some z:=⟨_,List.getElem?_eq_getElem (by omega)⟩
      obtain⟨s,c',hs1,hs2,hs3,hrun⟩:=Zj z 0 cc (HM.o.2 z (List.mem_of_getElem? hz)) Xf hcc;have hrun2:∀w:World,(callFunc 286 #[.int .u64 (z:Nat),.int .u64 0,.int .u64 (cc:Nat)]).run Tryz.prog w=.ok (.value (.tuple #[.int .u64 (s:Nat),.int .u64 (c':Nat)])) w:=hrun;have e1:=HM.o.cell hz;have e3:=HM.o.frozen (o+k);have HN:=zq (HST.o.step (y:=0) hz (.inr ⟨hyk,rfl⟩) hs3);have HS:=zq (HM.o.set (o+k) hs1);have hi0:(0:Int)<=(k:Int):=Int.natCast_nonneg _
      have hi1:(k:Int)<(n:Int):=by omega
      clear hz hs3 hrun;go_wp2_with fail
      have hfin:∃(k' cc':Nat) (M':List Nat),ys.length<=k'/\k'<=n/\Value.int .i64 ((k:Int)+1)=.int .i64 (k':Nat)/\Value.int .u64 (c':Nat)=.int .u64 (cc':Nat)/\cc'<=1/\Blk (wr.setCell ⟨g,o+k,none⟩ (.int .u64 (s:Nat))) g M'/\Vz L ys o k' cc' M'/\w.grownBy (wr.setCell ⟨g,o+k,none⟩ (.int .u64 (s:Nat))) (some g):=
       ⟨k+1,c',M.set (o+k) s,by omega,by omega,by go_num,rfl,hs2,HS.o.1,HN.o,Xw HGR.o HS.o.2⟩
      exact⟨hfin,by simp[intOf];omega⟩
     ·have HD:=zq (HST.o.done_all (by have:=HLL.o;omega) hyk)
      go_wp2_with fail;go_end0;exact⟨rfl,M,HM.o,HD.o,HGR.o⟩
def W6 (L ys:List Nat)(i c:Nat)(M:List Nat):Prop:=
 M.length=L.length/\M.drop i=L.drop i/\val (M.take i)+val (ys.take i)=val (L.take i)+BB^i*c
theorem W6.start (L ys:List Nat):W6 L ys 0 0 L:=⟨rfl,rfl,by simp[val]⟩
theorem Qvz {P X Y Z x y c s c':Nat}(h:Z+Y=X+P*c)(hs:s+y+c=x+BB*c'):(Z+P*s)+(Y+P*y)=(X+P*x)+P*BB*c':=by
 have E:P*s+P*y+P*c=P*x+P*(BB*c'):=by rw[<-Nat.mul_add,<-Nat.mul_add,hs,Nat.mul_add]
 rw[Nat.mul_assoc];omega
theorem W6.step {L ys M:List Nat}{i c z y s c':Nat}(h:W6 L ys i c M)(hz:M[i]?=some z)(hy:(ys[i]?=some y)\/(ys.length<=i/\y=0))(hs:s+y+c=z+BB*c'):
  W6 L ys (i+1) c' (M.set i s):=by
 obtain⟨O,J,T⟩:=h;have Z:i<M.length:=(List.getElem?_eq_some_iff.1 hz).1
 have H:L[i]?=some z:=by
  have K:=congrArg (fun l=>l[0]?) J;simp only[List.getElem?_drop,Nat.add_zero]at K;rw[<-K];exact hz
 have U:i<L.length:=(List.getElem?_eq_some_iff.1 H).1;refine⟨by rw[List.length_set,O],?_,?_⟩
 ·rw[Sc]
  have:=congrArg (List.drop 1) J;rw[List.drop_drop,List.drop_drop]at this;exact this
 ·have E:=Rv (l:=M) (o:=0) (i:=i) s (by omega)
  rw[List.drop_zero,List.drop_zero,Nat.zero_add]at E;rw[E]
  have e1:L.take (i+1)=L.take i++[z]:=by rw[List.take_add_one,H];rfl
  have e2:val (ys.take (i+1))=val (ys.take i)+BB^i*y:=by
   rcases hy with hy|⟨hy,rfl⟩
   ·have I:i<ys.length:=(List.getElem?_eq_some_iff.1 hy).1
    rw[X1 I]
    have:ys[i]=y:=by rw[List.getElem?_eq_getElem I]at hy;exact Option.some.inj hy
    rw[this]
   ·rw[List.take_of_length_le (by omega),List.take_of_length_le (by omega)];simp
  rw[e1,e2,Zk,Zk,List.length_take,List.length_take,Nat.min_eq_left (by omega),Nat.min_eq_left (by omega),Nat.pow_succ];exact Qvz T hs
theorem W6.done_zero {L ys M:List Nat}{i:Nat}(h:W6 L ys i 0 M)(hi:i<=L.length)(hy:ys.length<=i):M.length=L.length/\val M+val ys=val L:=by
 obtain⟨H,I,E⟩:=h;refine⟨H,?_⟩;rw[List.take_of_length_le hy]at E;have e1:=Xm M i (by omega);have e2:=Xm L i hi;rw[e1,e2,I];simp only[Nat.mul_zero,Nat.add_zero]at E;omega
theorem W6.done_all {L ys M:List Nat}{c:Nat}(h:W6 L ys L.length c M)(hM:ok M)(hy:ys.length<=L.length)(hle:val ys<=val L):M.length=L.length/\val M+val ys=val L:=by
 obtain⟨H,J,E⟩:=h;refine⟨H,?_⟩;rw[List.take_of_length_le hy,List.take_of_length_le (by omega),List.take_length]at E;have I:=Yk hM;rw[H]at I
 cases c with
 |zero=>simpa using E
 |succ c=>
  rw[Nat.mul_succ]at E;omega
def Qpm (L ys:List Nat)(g:Nat)(w:World)(e:Ending)(w':World):Prop:=e=.returned (.tuple #[])/\ ∃M,Blk w' g M/\M.length=L.length/\val M+val ys=val L/\w.grownBy w' (some g)
theorem Mf (g n c:Nat)(L ys:List Nat)(v:Value)(w:World)(hL:Blk w g L)(hn:n=L.length)(hnc:n<=c)(hc:c<=1099511627776)(hv:Rd w v ys)(hvb:v.ownBlock≠some g)(hy:ys.length<=n)(hle:val ys<=val L):
  Calls Tryz.prog 289 #[.slice (some ⟨g,0,none⟩) n c,v] w (Qpm L ys g w):=by
 have HV:=zq hv;obtain⟨ao,cap,rfl,-,hcm,hok,hsh⟩:=hv.2;have HB:=zq hL;have HOK:=zq hok;have HLE:=zq hle
 have hll:n<=L.length:=by omega
 have HLL:=zq hn;clear hL hok hsh hcm hn hle;go_enter Tryz.func289,Tryz.ntmps289;go_wp2_with fail;go_loopw [4,9] (fun cv i wr=> ∃(k cc:Nat) (M:List Nat),k<=n/\i=.int .i64 (k:Nat)/\cv=.int .u64 (cc:Nat)/\cc<=1/\Blk wr g M/\W6 L ys k cc M/\w.grownBy wr (some g)) (fun _ i _=>n-(intOf i).toNat)
 case atStart=>exact⟨0,0,L,Nat.zero_le _,rfl,rfl,Nat.zero_le _,HB.o,W6.start L ys,X5 w _⟩
 case round=>
  obtain⟨k,cc,M,hk,rfl,rfl,hcc,hM,hst,hgr⟩:=hrel;have HM:=zq hM;have HST:=zq hst;have HGR:=zq hgr;have hml:M.length=L.length:=hst.1;clear hM hst hgr;by_cases hlt:k<n
  ·obtain⟨z,hz⟩:∃z,M[k]?=some z:=⟨_,List.getElem?_eq_getElem (by omega)⟩
   have e1:=HM.o.cell hz;have e3:=HM.o.frozen k;have hi0:(0:Int)<=(k:Int):=Int.natCast_nonneg _
   have hi1:(k:Int)<(n:Int):=by omega
   by_cases hky:k<ys.length
   ·obtain⟨y,hyy⟩:∃y,ys[k]?=some y:=⟨_,List.getElem?_eq_getElem hky⟩
    obtain⟨s,c',hs1,hs2,hs3,hrun⟩:=Pt z y cc (HM.o.2 z (List.mem_of_getElem? hz)) (HOK.o y (List.mem_of_getElem? hyy)) hcc;obtain⟨ao',cap',e,-,-,-,hsh⟩:=(HV.o.kept HGR.o (fun q hq=>by cases hq;exact hvb)).2
    cases e
    obtain⟨g2,o2,rfl,e2⟩:=hsh k y hyy;have HN:=zq (HST.o.step hz (.inl hyy) hs3);have HS:=zq (HM.o.set k hs1);clear hyy hz hsh hs3;go_wp2_with fail
    have hfin:∃(k' cc':Nat) (M':List Nat),k'<=n/\Value.int .i64 ((k:Int)+1)=.int .i64 (k':Nat)/\Value.int .u64 (c':Nat)=.int .u64 (cc':Nat)/\cc'<=1/\Blk (wr.setCell ⟨g,k,none⟩ (.int .u64 (s:Nat))) g M'/\W6 L ys k' cc' M'/\w.grownBy (wr.setCell ⟨g,k,none⟩ (.int .u64 (s:Nat))) (some g):=
     ⟨k+1,c',M.set k s,by omega,by go_num,rfl,hs2,HS.o.1,HN.o,Xw HGR.o HS.o.2⟩
    exact⟨hfin,by simp[intOf];omega⟩
   ·by_cases hc0:cc=0
    ·subst hc0
     have HD:=zq (HST.o.done_zero (by omega) (by omega));clear hz;go_wp2_with fail;refine bodyPost_ret (results_none rfl _ _ _) rfl ?_;exact⟨rfl,M,HM.o,HD.o.1,HD.o.2,HGR.o⟩
    ·have hcb:((cc:Int)==0)=false:=by simp;omega
     obtain⟨s,c',hs1,hs2,hs3,hrun⟩:=Pt z 0 cc (HM.o.2 z (List.mem_of_getElem? hz)) Xf hcc;have hrun2:∀w:World,(callFunc 290 #[.int .u64 (z:Nat),.int .u64 0,.int .u64 (cc:Nat)]).run Tryz.prog w=.ok (.value (.tuple #[.int .u64 (s:Nat),.int .u64 (c':Nat)])) w:=hrun;have HN:=zq (HST.o.step (y:=0) hz (.inr ⟨by omega,rfl⟩) hs3);have HS:=zq (HM.o.set k hs1);clear hz hs3 hrun;go_wp2_with fail
     have hfin:∃(k' cc':Nat) (M':List Nat),k'<=n/\Value.int .i64 ((k:Int)+1)=.int .i64 (k':Nat)/\Value.int .u64 (c':Nat)=.int .u64 (cc':Nat)/\cc'<=1/\Blk (wr.setCell ⟨g,k,none⟩ (.int .u64 (s:Nat))) g M'/\W6 L ys k' cc' M'/\w.grownBy (wr.setCell ⟨g,k,none⟩ (.int .u64 (s:Nat))) (some g):=
      ⟨k+1,c',M.set k s,by omega,by go_num,rfl,hs2,HS.o.1,HN.o,Xw HGR.o HS.o.2⟩
     exact⟨hfin,by simp[intOf];omega⟩
  ·obtain rfl:k=n:=by omega
   have HD:Hid (M.length=L.length/\val M+val ys=val L):=W6.done_all (by rw[<-HLL.o];exact HST.o) HM.o.2 (by omega) HLE.o;go_wp2_with fail;go_end0;exact⟨rfl,M,HM.o,HD.o.1,HD.o.2,HGR.o⟩
def Qpp (hi lo:Nat)(w:World)(e:Ending)(w':World):Prop:=e=.returned (.tuple #[.int .u64 (hi:Nat),.int .u64 (lo:Nat)])/\w=w'
theorem Pg (x y:Nat)(hx:x<BB)(hy:y<BB):∃hi lo:Nat,lo<BB/\hi*BB+lo=x*y/\ ∀w:World,Calls Tryz.prog 287 #[.int .u64 (x:Nat),.int .u64 (y:Nat)] w (Qpp hi lo w):=by
 unfold BB at*;refine⟨x*y / 18446744073709551616,x*y % 18446744073709551616,by omega,by omega,fun w=> ?_⟩;refine(Tryz.bits_Mul64 x y hx hy w).mono fun e w' ⟨h1,h2⟩=>⟨h1,h2.symm⟩
def Qzu (xs ys:List Nat)(g:Nat)(w:World)(e:Ending)(w':World):Prop:=e=.returned (.tuple #[])/\ ∃M,Blk w' g M/\M.length=xs.length+ys.length/\val M=val xs*val ys/\w.grownBy w' (some g)
theorem Aa (g n:Nat)(xs ys:List Nat)(v u:Value)(w:World)(hL:Blk w g (List.replicate n 0))(hn:n=xs.length+ys.length)(hc:n<=1099511627776)
  (hv:Rd w v xs) (hvb:v.ownBlock≠some g) (hu:Rd w u ys) (hub:u.ownBlock≠some g):
  Calls Tryz.prog 274 #[.slice (some ⟨g,0,none⟩) n n,v,u] w (Qzu xs ys g w):=by
 have HV:=zq hv;have HU:=zq hu;obtain⟨ao,cap,rfl,-,-,hok,-⟩:=hv.2;obtain⟨bo,cap2,rfl,-,-,hok2,-⟩:=hu.2;have HOK:=zq hok;have HOK2:=zq hok2;have HST0:=zq (W5.start xs ys);rw[<-hn]at HST0;have HB:=zq hL
 have hll:xs.length+ys.length<=n:=by omega
 have hll2:n<=xs.length+ys.length:=by omega
 clear hL hok hok2 hn;go_enter Tryz.func274,Tryz.ntmps274;go_wp2_with fail;go_loopw [16] (fun i wr=> ∃(k:Nat) (M:List Nat),k<=xs.length/\i=.int .i64 (k:Nat)/\Blk wr g M/\W5 xs ys k M/\w.grownBy wr (some g)) (fun i _=>xs.length-(intOf i).toNat)
 case atStart=>exact⟨0,_,Nat.zero_le _,rfl,HB.o,HST0.o,X5 w _⟩
 clear HST0
 case round=>
  obtain⟨k,M,hk,rfl,hM,hst,hgr⟩:=hrel;have HM:=zq hM;have HST:=zq hst;have HGR:=zq hgr;have hml:M.length=xs.length+ys.length:=hst.1;clear hM hst hgr;by_cases hlt:k<xs.length
  ·obtain⟨x,hx⟩:∃x,xs[k]?=some x:=⟨_,List.getElem?_eq_getElem hlt⟩
   have hxb:=HOK.o x (List.mem_of_getElem? hx);obtain⟨ao',cap',e,-,-,-,hsh⟩:=(HV.o.kept HGR.o (fun q hq=>by cases hq;exact hvb)).2
   cases e
   obtain⟨g2,o2,rfl,e2⟩:=hsh k x hx;have HX:=zq hx;have HXB:=zq hxb;clear hsh hx hxb;by_cases hx0:x=0
   ·subst hx0
    have HN:=zq (HST.o.zero HX.o);go_wp2_with fail;have hfin:∃(k':Nat) (M':List Nat),k'<=xs.length/\Value.int .i64 ((k:Int)+1)=.int .i64 (k':Nat)/\Blk wr g M'/\W5 xs ys k' M'/\w.grownBy wr (some g):=⟨k+1,M,by omega,by go_num,HM.o,HN.o,HGR.o⟩;exact⟨hfin,by simp[intOf];omega⟩
   ·have hxn:((x:Int)==0)=false:=by simp[hx0]
    clear hx0;go_wp2_with fail;go_loopw [8,25] (fun cv j w2=> ∃(q cc:Nat) (M':List Nat),q<=ys.length/\j=.int .i64 (q:Nat)/\cv=.int .u64 (cc:Nat)/\Hid (cc<BB)/\Blk w2 g M'/\InSt M ys k x q cc M'/\w.grownBy w2 (some g)) (fun _ j _=>ys.length-(intOf j).toNat)
    case atStart=>exact⟨0,0,M,Nat.zero_le _,rfl,rfl,Xf,HM.o,InSt.start M ys k x,HGR.o⟩
    clear HM HGR e2
    case round=>
     rename_i w2 _;obtain⟨q,cc,M',hq,rfl,rfl,hcc,hM,hst,hgr⟩:=hrel;have HM:=zq hM;have HIN:=zq hst;have HGR:=zq hgr;have hml':M'.length=M.length:=hst.1;clear hM hst hgr;by_cases hqt:q<ys.length
     ·obtain⟨y,hy⟩:∃y,ys[q]?=some y:=⟨_,List.getElem?_eq_getElem hqt⟩
      obtain⟨z,hz⟩:∃z,M'[k+q]?=some z:=⟨_,List.getElem?_eq_getElem (by omega)⟩;have hyb:=HOK2.o y (List.mem_of_getElem? hy);have hzb:=HM.o.2 z (List.mem_of_getElem? hz);obtain⟨hi,lo,hlo,hp,hmul⟩:=Pg x y HXB.o hyb;obtain⟨s1,c1,hs1,hc1,h1,hr1⟩:=Zj lo cc 0 hlo hcc.o (Nat.zero_le _);obtain⟨h2,hh2⟩:=xq (hi+c1);obtain⟨s2,c2,hs2,hc2,h4,hr2⟩:=Zj z s1 0 hzb hs1 (Nat.zero_le _);obtain⟨c3,hc3⟩:=xq (h2+c2);rw[Nat.add_zero]at h1 h4;obtain⟨f1,f2,f3⟩:=Qkx HXB.o hyb hzb hcc.o hp h1 hh2 h4;rw[<-hc3]at f2 f3;have HN:=zq (HIN.o.step hz hy f2);have HF3:=zq f3;have HS:=zq (HM.o.set (k+q) hs2);obtain⟨bo',cap3,e,-,-,-,hsh⟩:=(HU.o.kept HGR.o (fun q hq=>by cases hq;exact hub)).2
      cases e
      obtain⟨g3,o3,rfl,e2⟩:=hsh q y hy;have e1:=HM.o.cell hz;have e3:=HM.o.frozen (k+q);have HMUL:=zq hmul;have hr1':∀w:World,(callFunc 286 #[.int .u64 (lo:Nat),.int .u64 (cc:Nat),.int .u64 0]).run Tryz.prog w=.ok (.value (.tuple #[.int .u64 (s1:Nat),.int .u64 (c1:Nat)])) w:=hr1;have hr2':∀w:World,(callFunc 286 #[.int .u64 (z:Nat),.int .u64 (s1:Nat),.int .u64 0]).run Tryz.prog w=.ok (.value (.tuple #[.int .u64 (s2:Nat),.int .u64 (c2:Nat)])) w:=hr2
      have hw1:IntKind.u64.wrap ((hi:Int)+(c1:Int))=(h2:Int):=by unfold BB at f1;rw[IntKind.wrap_u64];omega
      have hw2:IntKind.u64.wrap ((h2:Int)+(c2:Int))=(c3:Int):=by unfold BB at f3;rw[IntKind.wrap_u64];omega
      have HW1:=zq hw1;have HW2:=zq hw2;clear hsh hy hz hyb hzb hmul hp h1 h4 hh2 hc3 f1 f2 f3 hlo hs1 hs2 hr1 hr2 hw1 hw2;go_wp2_with fail;refine(HMUL.o _).mono ?_;rintro e w' ⟨rfl,rfl⟩;have hw1:=HW1.o;have hw2:=HW2.o;go_wp2_with fail;exact⟨⟨q+1,c3,M'.set (k+q) s2,by omega,by go_num,rfl,HF3.o,HS.o.1,HN.o,Xw HGR.o HS.o.2⟩,by simp[intOf];omega⟩
     ·obtain rfl:q=ys.length:=by omega
      obtain⟨hn1,hn2⟩:=HST.o.row HX.o HIN.o;have HN:=zq hn1;have HS:=zq (HM.o.set (k+ys.length) hcc.o);have e1:=HM.o.cell hn2;have e3:=HM.o.frozen (k+ys.length);clear hn1 hn2 hcc;go_wp2_with fail;have hfin:∃(k':Nat) (M2:List Nat),k'<=xs.length/\Value.int .i64 ((k:Int)+1)=.int .i64 (k':Nat)/\Blk (wr.setCell ⟨g,k+ys.length,none⟩ (.int .u64 (cc:Nat))) g M2/\W5 xs ys k' M2/\w.grownBy (wr.setCell ⟨g,k+ys.length,none⟩ (.int .u64 (cc:Nat))) (some g):=⟨k+1,_,by omega,by go_num,HS.o.1,HN.o,Xw HGR.o HS.o.2⟩;exact⟨hfin,by simp[intOf];omega⟩
  ·obtain rfl:k=xs.length:=by omega
   have HD:=zq HST.o.done;go_wp2_with fail;go_end0;exact⟨rfl,M,HM.o,HD.o.1,HD.o.2,HGR.o⟩
theorem Qk9 (w:World)(o:Obj){ao:Option Addr}{xs:List Nat}(hsh:∀i x,xs[i]?=some x-> ∃g o,ao=some ⟨g,o,none⟩/\w.cell? ⟨g,o+i,none⟩=some (.int .u64 (x:Nat)))(h0:0<xs.length):
  ∃ad,ao=some ad/\ ∀(j:Nat) (v:Value),(ws xs)[j]?=some v->(w.alloc o).cell? (ad.add j)=some v:=by
 obtain⟨g,of,rfl,_⟩:=hsh 0 xs[0] (List.getElem?_eq_getElem h0);refine⟨_,rfl,fun j u hu=> ?_⟩;simp only[ws,List.getElem?_map,Option.map_eq_some_iff]at hu;obtain⟨x,H,rfl⟩:=hu;obtain⟨g',o',e,h⟩:=hsh j x H
 cases e
 have E:=World.block_lt_of_cell? w _ h
 have e2:(⟨g,of,none⟩:Addr).add j=⟨g,of+j,none⟩:=by unfold Addr.add;split<;>simp_all
 rw[e2,(Qq w o).cell (p:=⟨g,of+j,none⟩) E];exact h
theorem Qmk {m:Nat}{xs ys:List Nat}(hx:ok xs)(hy:ok ys)(h1:xs.length<=m)(h2:ys.length<=m):∀M,ok M->Qzm (xs++List.replicate (m+1-xs.length) 0) ys 0 M->M.length=m+1/\val M=val xs+val ys:=by
 intro M E ⟨a1,_,c,a3⟩
 have h:(xs++List.replicate (m+1-xs.length) 0).length=m+1:=by rw[List.length_append,List.length_replicate];omega
 rw[List.drop_zero,List.drop_zero,h,Wa,Jz,Nat.mul_zero,Nat.add_zero]at a3;refine⟨by rw[a1,h],?_⟩;have b1:=Yk hx;have b2:=Yk hy;exact(Sf a3 (Qkb (Nat.lt_of_lt_of_le b1 (Nat.pow_le_pow_right Xf h1)) (Nat.lt_of_lt_of_le b2 (Nat.pow_le_pow_right Xf h2)))).2
def Qph (xs ys:List Nat)(w:World)(e:Ending)(w':World):Prop:=∃g M,e=.returned (.slice (some ⟨g,0,none⟩) M.length M.length)/\w.heap.size<=g/\Blk w' g M/\M.length=max xs.length ys.length+1/\val M=val xs+val ys/\Below w.heap.size w w'
theorem Qjt (v u:Value)(xs ys:List Nat)(w:World)(hv:Rd w v xs)(hu:Rd w u ys)(hx:xs.length<=549755813888)(hy:ys.length<=549755813888):
  Calls Tryz.prog 288 #[v,u] w (Qph xs ys w):=by
 have HV:=zq hv;have HU:=zq hu;obtain⟨ao,cap,rfl,-,-,hok,hsh⟩:=hv.2;obtain⟨bo,cap2,rfl,-,-,hok2,-⟩:=hu.2;have HOK:=zq hok;have HSH:=zq hsh;obtain⟨m,hm⟩:=xq (max xs.length ys.length)
 have hm1:xs.length<=m:=by omega
 have hm2:ys.length<=m:=by omega
 have hm3:m<=549755813888:=by omega
 have HMK:∀w:World,(Instr.makeSlice 59 (.int .i64 ((m:Int)+1)) (.int .i64 ((m:Int)+1))).run Tryz.prog w=.ok (.slice (some ⟨w.heap.size,0,none⟩) (m+1) (m+1)) (w.alloc (.cells (madeCells #[.int .u64 0] (m+1)) 101)):=Zz (m+1) (by omega)
 have hmx:max (xs.length:Int) (ys.length:Int)=(m:Int):=by omega
 have HM:=zq hm;have HB:=zq (Blk.made w (m+1)).1;have HBL:=zq (Qq w (.cells (madeCells #[.int .u64 0] (m+1)) 101));have HCL:=zq (Yl xs);have HMIN:Hid (Nat.min xs.length (m+1)=xs.length):=Nat.min_eq_left (by omega);have HPOS:=zq (Qk9 w (.cells (madeCells #[.int .u64 0] (m+1)) 101) HSH.o)
 have HFIT:Hid (0+(ws xs).length<=(ws (List.replicate (m+1) 0)).length):=by
  show _<=_;rw[Yl,Yl,List.length_replicate];omega
 have HFIN:=zq (Qmk (m:=m) hok hok2 hm1 hm2);clear hok hok2 hsh hm;go_enter Tryz.func288,Tryz.ntmps288;go_wp2_with ((with_reducible refine wpList_copy_splice (o:=⟨some 15,_,_,_,_,_⟩) rfl (.tmp 13) (.tmp 14) 59 59 rfl 101 Tryz.underlying59 Tryz.infoW1 (some ⟨w.heap.size,0,none⟩) ao (m+1) (m+1) xs.length cap rfl rfl w.heap.size 0 (ws (List.replicate (m+1) 0)) 101 HB.o (ws xs) (by rw[HCL.o,HMIN.o]) (fun h=>⟨rfl,HPOS.o (by rw[<-HCL.o];exact h)⟩) HFIT.o (Qzg _) w.heap.size w HBL.o (Nat.le_refl _) ?_);intro w2 hg2 hb2)
 have HF:Hid (Blk w2 w.heap.size (xs++List.replicate (m+1-xs.length) 0)):=by
  refine⟨?_,F9 HOK.o (Pb _)⟩;have h1:=hg2.o;rw[h1];congr 2;simp only[splice,List.take_zero,List.nil_append,Nat.zero_add];rw[HCL.o];simp[ws]
 have HB2:=zq hb2;have HU2:=zq (HU.o.below hb2);have hbo:=HU.o.ne (Nat.le_refl w.heap.size);clear hg2 hb2;go_wp2_with fail;refine(Ub w.heap.size 0 (m+1) (m+1) (xs++List.replicate (m+1-xs.length) 0) ys _ _ HF.o (by rw[List.length_append,List.length_replicate];omega) (Nat.le_refl _) (by omega) HU2.o hbo (by omega)).mono ?_;rintro e w3 ⟨rfl,M,hM,hadd,hgr⟩;obtain⟨hl,hval⟩:=HFIN.o M hM.2 hadd;have HM3:=zq hM;have HL:=zq hl;have HV3:=zq hval;have HB3:Hid (Below w.heap.size w w3):=Below.grown HB2.o hgr HB2.o.size (fun k hk=>by cases hk;exact Nat.le_refl _);clear hM hadd hgr hl hval;go_wp2_with fail;go_ret
 exact⟨w.heap.size,M,by rw[HL.o]<;>rfl,Nat.le_refl _,HM3.o,by rw[HL.o,HM.o],HV3.o,HB3.o⟩
theorem Rd.drop {w:World}{g o len cap n:Nat}{xs:List Nat}(h:Rd w (.slice (some ⟨g,o,none⟩) len cap) xs)(hn:n<=xs.length):Rd w (.slice (some ⟨g,o+n,none⟩) (xs.length-n) (cap-n)) (xs.drop n):=by
 obtain⟨E,ao',cap',e,K,O,H,I⟩:=h;simp only[Value.slice.injEq]at e;obtain⟨rfl,rfl,rfl⟩:=e;refine⟨fun k hk=>E k hk,_,_,by rw[List.length_drop],by rw[List.length_drop];omega,by omega,Wx H _,fun i x hx=>⟨g,o+n,rfl,?_⟩⟩;rw[List.getElem?_drop]at hx;obtain⟨g',o',e,J⟩:=I (n+i) x hx
 cases e
 rw[Nat.add_assoc];exact J
theorem Rd.none' {w:World}{g o c:Nat}(hg:g<w.heap.size)(hc:c<=maxLen):Rd w (.slice (some ⟨g,o,none⟩) 0 c) []:=
 ⟨fun k hk=>by cases hk;exact hg,_,c,rfl,Nat.zero_le _,hc,Qx1,fun i x h=>by simp at h⟩
theorem Rd.ok {w:World}{v:Value}{xs:List Nat}(h:Rd w v xs):ok xs:=by obtain⟨_,_,_,_,_,_,E,_⟩:=h;exact E
theorem Vu {w0 w w':World}{g k:Nat}(h:w0.grownBy w (some g))(hg:w.grownBy w' (some k))(hk:k=g\/w0.heap.size<=k):w0.grownBy w' (some g):=by
 refine⟨hg.os.trans h.os,hg.tape.trans h.tape,hg.output.trans h.output,Nat.le_trans h.size hg.size,fun q hq hn=>(hg.block q (Nat.lt_of_lt_of_le hq h.size) ?_).trans (h.block q hq hn)⟩;rcases hk with rfl|hk
 ·exact hn
 ·intro e;cases e;omega
theorem Pz {w0 w w':World}{g:Nat}(h:w0.grownBy w (some g))(hb:Below w.heap.size w w'):w0.grownBy w' (some g):=
 ⟨hb.os.trans h.os,hb.tape.trans h.tape,hb.output.trans h.output,Nat.le_trans h.size hb.size,fun q hq hn=>(hb.block q (Nat.lt_of_lt_of_le hq h.size)).trans (h.block q hq hn)⟩
def Ri (xs ys:List Nat)(w:World)(e:Ending)(w':World):Prop:=∃g M,e=.returned (.slice (some ⟨g,0,none⟩) M.length M.length)/\w.heap.size<=g/\Blk w' g M/\M.length=(Qy xs).length+(Qy ys).length/\val M=val xs*val ys/\Below w.heap.size w w'
def P0 (n:Nat):Prop:=∀(xs ys:List Nat) (v u:Value) (w:World),xs.length+ys.length<n->Rd w v xs->Rd w u ys->Calls Tryz.prog 253 #[v,u] w (Ri xs ys w)
theorem Blk.whole {w:World}{g:Nat}{L:List Nat}(h:Blk w g L)(hc:L.length<=1099511627776):Rd w (.slice (some ⟨g,0,none⟩) L.length L.length) L:=by
 have:=h.rd (o:=0) (n:=L.length) (c:=L.length) (by omega) (Nat.le_refl _) (by unfold maxLen;omega);rw[List.drop_zero,List.take_length]at this;exact this
theorem Xt (w:World)(n:Nat):Below w.heap.size w (w.drewN n):=⟨rfl,rfl,rfl,Nat.le_refl _,fun _ _=>rfl⟩
theorem Mt {P:Program}{w:World}{ops:Array Oper}{rest:List Oper}{o:Oper}{a:Act}{Q:Exit->Act->World->Prop}(hgd:o.guard=none)(d s:Operand)(dT sT:TypeId)
  (ho:o.op=.call {callee:=.builtin .copy,args:= #[d,s],argTypes:= #[dT,sT]}) (hu:P.underlying dT=some (.slice 101)) (hsz:(P.info? 101).map (·.size)=some 1)
  (g n c sCap:Nat) (sp:Option Addr) (L cs:List Nat) (hd:a.eval d=.slice (some ⟨g,0,none⟩) n c) (hs:a.eval s=.slice sp cs.length sCap) (hB:Blk w g L) (hR:Rd w (.slice sp cs.length sCap) cs) (hn:cs.length<=n) (hnL:n<=L.length)
  (h:∀w',Hid (Blk w' g (cs++L.drop cs.length))->Hid (w.grownBy w' (some g))->wpList P ops Q rest (a.put o.dst (goInt cs.length)) w'):wpList P ops Q (o::rest) a w:=by
 by_cases h0:cs.length=0
 ·obtain rfl:cs=[]:=List.eq_nil_of_length_eq_zero h0
  refine wpList_copy_nothing hgd d s dT sT ho 101 hu hsz (some ⟨g,0,none⟩) sp n c 0 sCap hd hs (Nat.min_eq_left (Nat.zero_le _)) ?_;exact h w (show Blk _ _ _ by simpa using hB) (X5 w _)
 ·obtain⟨_,ao',cap',e,T,U,J,E⟩:=hR
  simp only[Value.slice.injEq]at e;obtain⟨rfl,-,rfl⟩:=e;obtain⟨gs,os,rfl,_⟩:=E 0 cs[0] (List.getElem?_eq_getElem (by omega))
  have I:Blk (w.setRow g ((ws L).toArray.toList.take 0++(ws cs++(ws L).toArray.toList.drop (0+(ws cs).length))).toArray) g (cs++L.drop cs.length):=by
   refine⟨?_,F9 J (Wx hB.2 _)⟩;rw[setRow_heap w g _ _ 101 _ hB.1];simp[ws]
  refine wpList_copy_own hgd d s dT sT ho 101 hu hsz g 0 n c ⟨gs,os,none⟩ cs.length sCap hd hs (ws L).toArray 101 hB.1 (ws cs) (by rw[Yl];exact(Nat.min_eq_left hn).symm) ?_ (by simp[ws];omega) (Qzg _) ?_
  ·intro j v H
   simp only[ws,List.getElem?_map,Option.map_eq_some_iff]at H;obtain⟨x,O,rfl⟩:=H;obtain⟨g',o',e,K⟩:=E j x O
   cases e
   have e2:(⟨gs,os,none⟩:Addr).add j=⟨gs,os+j,none⟩:=by unfold Addr.add;split<;>simp_all
   rw[e2];exact K
  ·rw[Yl]
   rw[Yl]at I;refine h _ I ?_;exact⟨rfl,rfl,rfl,by simp[World.setRow],fun k _ hk=>setRow_other w g k _ (fun e=>hk (by rw[e]))⟩
theorem X2 (ao:Option Addr)(n cap:Nat)(xs:List Nat)(w:World)(hr:Rd w (.slice ao n cap) xs):
  Calls Tryz.prog 273 #[.slice ao n cap] w fun e w'=>e=.returned (.slice ao (Qy xs).length (Qy xs).length)/\w=w':=by
 have h:=hr;obtain⟨_,ao',cap',e,-⟩:=h;simp only[Value.slice.injEq]at e;obtain⟨rfl,rfl,rfl⟩:=e;exact Nk _ _ _ _ hr
theorem Sn {ao:Option Addr}{n cap:Nat}{xs:List Nat}{w:World}(hr:Rd w (.slice ao n cap) xs):Rd w (.slice ao (Qy xs).length (Qy xs).length) (Qy xs):=by
 have h:=hr;obtain⟨_,ao',cap',e,-⟩:=h;simp only[Value.slice.injEq]at e;obtain⟨rfl,rfl,rfl⟩:=e;exact Cf hr
theorem Hy (g ga oa gb ob hf:Nat)(xs ys:List Nat)(w:World)(IH:P0 (xs.length+ys.length))(hL:Blk w g (List.replicate (xs.length+ys.length) 0))(hN:xs.length+ys.length<=274877906944)
  (ha:Rd w (.slice (some ⟨ga,oa,none⟩) xs.length xs.length) xs) (hb:Rd w (.slice (some ⟨gb,ob,none⟩) ys.length ys.length) ys) (hga:ga≠g) (hgb:gb≠g) (hh:hf=(xs.length+1) / 2) (hxy:ys.length<=xs.length) (h24:24<=ys.length) (h2:xs.length<2*ys.length):
  Calls Tryz.prog 276 #[.slice (some ⟨g,0,none⟩) (xs.length+ys.length) (xs.length+ys.length),.slice (some ⟨ga,oa,none⟩) xs.length xs.length,.slice (some ⟨gb,ob,none⟩) ys.length ys.length] w (Qzu xs ys g w):=by
 have hx1:hf<xs.length:=by omega
 have hy1:hf<=ys.length:=by omega
 have HH:=zq (Half.mk ha.ok hb.ok (by omega) hy1);have HI:=zq IH;have HZ:=zq hL;have HA0:=zq (ha.take (n:=hf) (c:=hf) (by omega) (Nat.le_refl _) (by omega));have HA1:=zq (ha.drop (n:=hf) (by omega));have HB0:=zq (hb.take (n:=hf) (c:=hf) hy1 (Nat.le_refl _) hy1);have hgbl:=hb.lt (k:=gb) rfl
 have hdiv:((xs.length:Int)+1) / 2=(hf:Int):=by omega
 have HB1a:=zq (hb.drop (n:=hf) (by omega));clear ha hb hL IH hh;by_cases hyh:hf<ys.length
 case' pos=>
  have HB1:=HB1a;clear HB1a
 case' neg=>
  have hy2:ys.length<=hf:=by omega
  have HB1:Hid (Rd w (.slice (some ⟨gb,ob,none⟩) 0 0) (ys.drop hf)):=by
   show Rd _ _ _;rw[List.drop_eq_nil_of_le hy2];exact Rd.none' hgbl (by unfold maxLen;omega)
  clear HB1a hyh
 all_goals
  go_enter Tryz.func276,Tryz.ntmps276;go_wp2_with fail;go_quiet (fail);go_wp2_with fail;go_quiet (fail);go_wp2_with fail;refine(HI.o _ _ _ _ _ (by rw[List.length_take,List.length_take];omega) (HA0.o.drewN _) (HB0.o.drewN _)).mono ?_;rintro e w1 ⟨g1,L1,rfl,hg1,hB1,hl1,hv1,hbel1⟩;have C1:Below w.heap.size w w1:=(Xt w _).trans hbel1;have hq1:w.heap.size<=g1:=hg1;have hs1:=hB1.lt;have hz1:=C1.size
  have hll1:L1.length<=274877906944:=by have q1:=Qr (xs.take hf);have q2:=Qr (ys.take hf);rw[List.length_take]at q1 q2;omega
  have R1:=zq (hB1.whole (by omega));have K1:=zq C1;have V1:=zq hv1;clear hbel1 hB1 hl1 hv1 C1 hg1;go_wp2_with fail;refine(Nk _ _ L1 _ R1.o).mono ?_;rintro e w' ⟨rfl,rfl⟩;have T1:=zq (Cf R1.o);go_wp2_with fail;refine(HI.o _ _ _ _ _ (by rw[List.length_drop,List.length_drop];omega) (HA1.o.below K1.o) (HB1.o.below K1.o)).mono ?_;rintro e w2 ⟨g2,L2,rfl,hg2,hB2,hl2,hv2,hbel2⟩;have hs2:=hB2.lt;have hz2:=hbel2.size
  have hll2:L2.length<=274877906944:=by have q1:=Qr (xs.drop hf);have q2:=Qr (ys.drop hf);rw[List.length_drop]at q1 q2;omega
  have R2:=zq (hB2.whole (by omega));have K2:Hid (Below w.heap.size w w2):=K1.o.trans (hbel2.mono hz1);have V2:=zq hv2;have T1b:=zq (T1.o.below hbel2);clear hbel2 hB2 hl2 hv2 R1 T1;go_wp2_with fail;refine(Nk _ _ L2 _ R2.o).mono ?_;rintro e w' ⟨rfl,rfl⟩;have T2:=zq (Cf R2.o);go_wp2_with fail;refine(Qjt _ _ _ _ _ (HA0.o.below K2.o) (HA1.o.below K2.o) (by rw[List.length_take];omega) (by rw[List.length_drop];omega)).mono ?_;rintro e w3 ⟨g3,S1,rfl,hg3,hB3,hl3,hv3,hbel3⟩;rw[List.length_take,List.length_drop]at hl3;have hs3:=hB3.lt;have hz3:=hbel3.size;have R3:=zq (hB3.whole (by omega));have K3:Hid (Below w.heap.size w w3):=K2.o.trans (hbel3.mono (by omega));have V3:=zq hv3;have T1c:=zq (T1b.o.below hbel3);have T2c:=zq (T2.o.below hbel3);have HL3:=zq hl3;clear hbel3 hB3 hv3 R2 T2 T1b hl3;go_wp2_with fail;refine(Qjt _ _ _ _ _ (HB0.o.below K3.o) (HB1.o.below K3.o) (by rw[List.length_take];omega) (by rw[List.length_drop];omega)).mono ?_;rintro e w4 ⟨g4,S2,rfl,hg4,hB4,hl4,hv4,hbel4⟩;rw[List.length_take,List.length_drop]at hl4;have hs4:=hB4.lt;have hz4:=hbel4.size;have R4:=zq (hB4.whole (by omega));have R3d:=zq (R3.o.below hbel4);have K4:Hid (Below w.heap.size w w4):=K3.o.trans (hbel4.mono (by omega));have V4:=zq hv4;have T1d:=zq (T1c.o.below hbel4);have T2d:=zq (T2c.o.below hbel4)
  have hS:S1.length+S2.length<xs.length+ys.length:=by have:=HL3.o;omega
  clear hbel4 hB4 hv4 R3 T1c T2c hl4;go_wp2_with fail;refine(HI.o _ _ _ _ _ hS R3d.o R4.o).mono ?_;rintro e w5 ⟨g5,L5,rfl,hg5,hB5,hl5,hv5,hbel5⟩;have hs5:=hB5.lt;have hz5:=hbel5.size
  have hll5:L5.length<=274877906944:=by have q1:=Qr S1;have q2:=Qr S2;omega
  have K5:Hid (Below w.heap.size w w5):=K4.o.trans (hbel5.mono (by omega))
  have V5:Hid (val L5=(val (xs.take hf)+val (xs.drop hf))*(val (ys.take hf)+val (ys.drop hf))):=by show _=_;rw[hv5,V3.o,V4.o]
  have T1e:=zq (T1d.o.below hbel5);have T2e:=zq (T2d.o.below hbel5);have hgl:=HZ.o.lt
  have n15:g1≠g5:=by omega
  have n25:g2≠g5:=by omega
  have n5g:g5≠g:=by omega
  have n1g:g1≠g:=by omega
  have n2g:g2≠g:=by omega
  have hq5:w.heap.size<=g5:=by omega
  have B5:=zq hB5;have HZ5:=zq (HZ.o.below K5.o HZ.o.lt);clear hbel5 hB5 hv5 hl5 R3d R4 T1d T2d V3 V4 HL3 hS;obtain⟨hle1,hlen1⟩:=Half.sub1 B5.o.2 V5.o V1.o;have HLE1:=zq hle1;clear hle1;go_wp2_with fail;refine(Mf g5 L5.length L5.length L5 (Qy L1) _ _ B5.o rfl (Nat.le_refl _) (by omega) T1e.o (by intro e;cases e;exact n15 rfl) hlen1 HLE1.o).mono ?_;rintro e w6 ⟨rfl,M1,hB6,hl6,hv6,hgr6⟩;have hz6:=hgr6.size;have hs6:=hB6.lt;have G6:Hid (w.grownBy w6 (some g)):=Vu (Pz (X5 w (some g)) K5.o) hgr6 (.inr hq5);have T1f:=zq (T1e.o.kept hgr6 (by intro k hk e;cases hk;cases e;exact n15 rfl));have T2f:=zq (T2e.o.kept hgr6 (by intro k hk e;cases hk;cases e;exact n25 rfl));have HZ6:=zq (HZ5.o.kept hgr6 (by intro e;cases e;exact n5g rfl));have B6:=zq hB6;have V6:=zq hv6;obtain⟨hle2,hlen2⟩:=Half.sub2 hB6.2 V5.o V1.o V2.o hv6;have HLE2:=zq hle2;clear hle2 hB6 hv6 hgr6 T1e T2e HZ5 B5 K5;have HL6:=zq hl6
  have hlen2':(Qy L2).length<=L5.length:=by omega
  clear hl6 hlen2;go_wp2_with fail;refine(Mf g5 L5.length L5.length M1 (Qy L2) _ _ B6.o HL6.o.symm (Nat.le_refl _) (by omega) T2f.o (by intro e;cases e;exact n25 rfl) hlen2' HLE2.o).mono ?_;rintro e w7 ⟨rfl,M2,hB7,hl7,hv7,hgr7⟩;have hz7:=hgr7.size;have hs7:=hB7.lt;have G7:Hid (w.grownBy w7 (some g)):=Vu G6.o hgr7 (.inr hq5);have T1g:=zq (T1f.o.kept hgr7 (by intro k hk e;cases hk;cases e;exact n15 rfl));have T2g:=zq (T2f.o.kept hgr7 (by intro k hk e;cases hk;cases e;exact n25 rfl));have HZ7:=zq (HZ6.o.kept hgr7 (by intro e;cases e;exact n5g rfl));have B7:=zq hB7;have V7:=zq (Half.mid V5.o V1.o V2.o V6.o hv7);have hlow:=HH.o.low_len V1.o;have hhigh:=HH.o.high_len V2.o;have hmid:=HH.o.mid_len V7.o;clear hB7 hv7 hgr7 T1f T2f HZ6 B6 G6 HLE1 HLE2 V5 V6;have hzl:(List.replicate (xs.length+ys.length) 0).length=xs.length+ys.length:=List.length_replicate;have HZL:=zq hzl;clear hzl;have HL7:Hid (M2.length=L5.length):=hl7.trans HL6.o;clear hl7;go_wp2_with ((with_reducible refine Mt (o:=⟨some 55,_,_,_,_,_⟩) rfl (.tmp 53) (.tmp 54) 59 59 rfl Tryz.underlying59 Tryz.infoW1 g (xs.length+ys.length) (xs.length+ys.length) _ _ (List.replicate (xs.length+ys.length) 0) (Qy L1) rfl rfl HZ7.o T1g.o (by omega) (by rw[HZL.o];exact Nat.le_refl _) ?_);intro w8 hB8 hgr8);have T2h:=zq (T2g.o.kept hgr8.o (by intro k hk e;cases hk;cases e;exact n2g rfl));have B7h:=zq (B7.o.kept hgr8.o (by intro e;cases e;exact n5g rfl));have G8:Hid (w.grownBy w8 (some g)):=Vu G7.o hgr8.o (.inl rfl);have hz8:=hgr8.o.size
  have h2n:2*hf<xs.length+ys.length:=by omega
  clear hgr8 T2g B7 G7 HZ7 HZL T1g;go_wp2_with fail;refine(Ub g (2*hf) (xs.length+ys.length-2*hf) (xs.length+ys.length-2*hf) _ (Qy L2) _ _ hB8.o (by rw[List.length_append,List.length_drop,List.length_replicate];omega) (Nat.le_refl _) (by omega) T2h.o (by intro e;cases e;exact n2g rfl) hhigh).mono ?_;rintro e w9 ⟨rfl,Z,hB9,⟨hlz,htz,hcz⟩,hgr9⟩;obtain⟨hzl,hzv⟩:=HH.o.add1 rfl V1.o V2.o (by rw[List.drop_replicate]) hlz htz hcz;have B9:=zq hB9;have B7i:=zq (B7h.o.kept hgr9 (by intro e;cases e;exact n5g rfl));have G9:Hid (w.grownBy w9 (some g)):=Vu G8.o hgr9 (.inl rfl);have ZL:=zq hzl;have ZV:=zq hzv;have R5:=zq (B7i.o.whole (by have:=HL7.o;omega));have hm2:M2.length=L5.length:=HL7.o;rw[hm2]at R5;clear hB9 hlz htz hcz hgr9 hzl hzv hB8 T2h B7h G8 hm2;go_wp2_with fail;have T5:Hid (Rd w9.drew _ (Qy M2)):=Sn (w:=w9.drew) (by exact R5.o);have hi0:(0:Int)<=(hf:Int):=Int.natCast_nonneg _
  have hcap: ¬(xs.length+ys.length=hf):=by omega
  have hi1:(hf:Int)<=((xs.length:Int)+(ys.length:Int)):=by omega
  go_region_held3 (fun _=>True) (trivial)
   (first
    |(go_at_call 273;refine(X2 _ _ _ M2 _ (by exact R5.o)).mono ?_;rintro e w' ⟨rfl,rfl⟩)
    |(go_at_call 275;refine(Ub g hf (xs.length+ys.length-hf) (xs.length+ys.length-hf) Z (Qy M2) _ _ (by exact B9.o) (by rw[ZL.o];omega) (Nat.le_refl _) (by omega) T5.o (by intro e;cases e;exact n5g rfl) hmid).mono ?_;rintro e w10 ⟨rfl,M,hB10,⟨hlm,htm,hcm⟩,hgr10⟩))
  have HF:=zq (HH.o.add2 ZL.o ZV.o V7.o hlm htm hcm);have B10:=zq hB10;have G10:Hid (w.grownBy w10 (some g)):=Vu (Vu G9.o (Jd w9 1 (some g)) (.inl rfl)) hgr10 (.inl rfl);clear hB10 hlm htm hcm hgr10;go_wp2_with fail;go_end0;exact⟨rfl,M,B10.o,HF.o.1,HF.o.2,G10.o⟩
theorem P0.mono {n m:Nat}(h:P0 n)(hm:m<=n):P0 m:=fun xs ys v u w hl hv hu=>h xs ys v u w (by omega) hv hu
theorem Rd.some' {w:World}{ao:Option Addr}{n c:Nat}{xs:List Nat}(h:Rd w (.slice ao n c) xs)(h0:0<xs.length):∃g o,ao=some ⟨g,o,none⟩:=by
 obtain⟨_,ao',cap',e,_,_,_,E⟩:=h;simp only[Value.slice.injEq]at e;obtain⟨rfl,-,-⟩:=e;obtain⟨g,o,H,_⟩:=E 0 xs[0] (List.getElem?_eq_getElem h0);exact⟨g,o,H⟩
theorem Wh {w w1 w2:World}{e:Ending}{A B M xs ys:List Nat}{n:Nat}(h1:M.length=A.length+B.length)(h2:val M=val A*val B)(hn:n=M.length)(he:e=.returned (.slice (some ⟨w.heap.size,0,none⟩) n n))(hB:Blk w2 w.heap.size M)(hb:Below w.heap.size w w1)(hg:w1.grownBy w2 (some w.heap.size))
  (hAB:(A=Qy xs/\B=Qy ys)\/(A=Qy ys/\B=Qy xs)):Ri xs ys w e w2:=by
 subst hn;refine⟨_,M,he,Nat.le_refl _,hB,?_,?_,Below.grown hb hg hb.size (fun k hk=>by cases hk;exact Nat.le_refl _)⟩
 ·rcases hAB with ⟨rfl,rfl⟩|⟨rfl,rfl⟩
  ·exact h1
  ·rw[h1,Nat.add_comm]
 ·rcases hAB with ⟨rfl,rfl⟩|⟨rfl,rfl⟩
  ·rw[h2,Qu,Qu]
  ·rw[h2,Qu,Qu,Nat.mul_comm]
def Qzc (A B:List Nat)(g:Nat)(w1:World)(i:Value)(wr:World):Prop:=∃(k:Nat) (M:List Nat),i=.int .i64 (k:Nat)/\k<=A.length+B.length/\Blk wr g M/\PiSt A B (min k A.length) M/\w1.grownBy wr (some g)
theorem Qv7 (n:Nat)(IH:P0 n)(hn:n<=274877906944)(xs ys:List Nat)(v u:Value)(w:World)(hl:xs.length+ys.length<=n)(hv:Rd w v xs)(hu:Rd w u ys):
  Calls Tryz.prog 253 #[v,u] w (Ri xs ys w):=by
 have HV:=zq hv;have HU:=zq hu;obtain⟨_,ao,cap,rfl,-⟩:=hv;obtain⟨_,bo,cap2,rfl,-⟩:=hu;have TA:=zq (Sn HV.o);have TB:=zq (Sn HU.o);have q1:=Qr xs;have q2:=Qr ys;have HI:=zq IH;obtain⟨X,hX⟩:=xq (Qy xs);obtain⟨Y,hY⟩:=xq (Qy ys);rw[<-hX]at TA q1;rw[<-hY]at TB q2;have HX:=zq hX;have HY:=zq hY;clear IH hX hY;by_cases hsw:X.length<Y.length
 ·have h21:X.length<=Y.length:=by omega
  have HAB:Hid ((Y=Qy xs/\X=Qy ys)\/(Y=Qy ys/\X=Qy xs)):=.inr ⟨HY.o,HX.o⟩;have HMK:∀w:World,(Instr.makeSlice 59 (.int .i64 ((Y.length:Int)+(X.length:Int))) (.int .i64 ((Y.length:Int)+(X.length:Int)))).run Tryz.prog w=.ok (.slice (some ⟨w.heap.size,0,none⟩) (Y.length+X.length) (Y.length+X.length)) (w.alloc (.cells (madeCells #[.int .u64 0] (Y.length+X.length)) 101)):=Zz (Y.length+X.length) (by omega);have HZ:=zq (Blk.made w (Y.length+X.length));have HBL:=zq (Qq w (.cells (madeCells #[.int .u64 0] (Y.length+X.length)) 101));have NA:=zq (TB.o.ne (Nat.le_refl w.heap.size));have NB:=zq (TA.o.ne (Nat.le_refl w.heap.size));have RA:=zq (TB.o.below HBL.o);have RB:=zq (TA.o.below HBL.o);by_cases h24:X.length<24
  ·go_enter Tryz.func253,Tryz.ntmps253
   go_wp2_with fail;refine(X2 _ _ _ xs _ HV.o).mono ?_;rintro e w' ⟨rfl,rfl⟩;rw[<-HX.o];go_wp2_with fail;refine(X2 _ _ _ ys _ HU.o).mono ?_;rintro e w' ⟨rfl,rfl⟩;rw[<-HY.o];go_wp2_with fail;refine(Aa w.heap.size (Y.length+X.length) Y X _ _ _ HZ.o rfl (by omega) RA.o NA.o RB.o NB.o).mono ?_;rintro e w2 ⟨rfl,M,hM,hml,hmv,hgr⟩;have HM:=zq hM;have HML:=zq hml;have HMV:=zq hmv;have HGR:=zq hgr;clear hM hml hmv hgr;go_wp2_with fail;go_ret;exact Wh HML.o HMV.o HML.o.symm rfl HM.o HBL.o HGR.o HAB.o
  obtain⟨ga,oa,hao⟩:=TB.o.some' (by omega);obtain⟨gb,ob,hbo⟩:=TA.o.some' (by omega);subst hao hbo;have hga:ga≠w.heap.size:=fun e=>NA.o (by rw[e];rfl);have hgb:gb≠w.heap.size:=fun e=>NB.o (by rw[e];rfl)
  have d1:decide ((X.length:Int)<24)=false:=by simp;omega
  by_cases hbig:2*X.length<=Y.length
  ·have d2:decide (2*(X.length:Int)<=(Y.length:Int))=true:=by simp;omega
   go_enter Tryz.func253,Tryz.ntmps253;go_wp2_with fail;refine(X2 _ _ _ xs _ HV.o).mono ?_;rintro e w' ⟨rfl,rfl⟩;rw[<-HX.o];go_wp2_with fail;refine(X2 _ _ _ ys _ HU.o).mono ?_;rintro e w' ⟨rfl,rfl⟩;rw[<-HY.o];go_wp2_with fail;generalize w.alloc (.cells (madeCells #[.int .u64 0] (Y.length+X.length)) 101)=w1 at*;go_loopw [6] (fun i wr=>Qzc Y X w.heap.size w1 i wr) (fun i _=>Y.length-(intOf i).toNat)
   case atStart=>exact⟨0,_,rfl,Nat.zero_le _,HZ.o,by rw[Nat.zero_min];exact PiSt.start Y X,X5 w1 _⟩
   case round=>
    obtain⟨k,M,rfl,hk,hM,hst,hgr⟩:=hrel;have HM:=zq hM;have HST:=zq hst;have HGR:=zq hgr;have hwz:=hgr.size;have hwb:=HBL.o.size;have hgw:=hM.lt;clear hM hst hgr;by_cases hlt:k<Y.length
    ·obtain⟨e,he⟩:=xq (min (k+X.length) Y.length)
     have hke:k<=e:=by omega
     have hea:e<=Y.length:=by omega
     have hkl:e-k<=X.length:=by omega
     have hmin:min ((k:Int)+(X.length:Int)) (Y.length:Int)=(e:Int):=by omega
     have HMIN2:Hid (min (k+X.length) Y.length=e):=he.symm
     have hst2:PiSt Y X k M:=by have:=HST.o;rw[Nat.min_eq_left (by omega)]at this;exact this
     have HST2:=zq hst2;have HA1:=zq (((RA.o.kept HGR.o (by intro q hq e2;cases hq;exact NA.o e2)).drop (n:=k) (by omega)).take (n:=e-k) (c:=e-k) (by rw[List.length_drop];omega) (Nat.le_refl _) (by omega));have HB1:=zq (RB.o.kept HGR.o (by intro q hq e2;cases hq;exact NB.o e2));have hi0:(0:Int)<=(k:Int):=Int.natCast_nonneg _
     have hi1:(k:Int)<=((Y.length:Int)+(X.length:Int)):=by omega
     have hi2:(k:Int)<=(e:Int):=by omega
     have hi3:(e:Int)<=(Y.length:Int):=by omega
     have hc1: ¬(Y.length+X.length=k):=by omega
     have hc2: ¬(e=k):=by omega
     have hdl:((Y.drop k).take (e-k)).length=e-k:=by rw[List.length_take,List.length_drop];omega
     have HDL:=zq hdl;clear he hst2 hdl;go_wp2_with fail
     go_region_held3 (fun _=>True) (trivial)
      (first
       |(go_at_call 253;refine(HI.o ((Y.drop k).take (e-k)) X _ _ _ (by have:=List.length_take_le (e-k) (Y.drop k);omega) (by exact HA1.o) (by exact HB1.o)).mono ?_;rintro e2 w3 ⟨g3,P,rfl,hg3,hB3,hl3,hv3,hbel3⟩;have HR3:=zq (hB3.whole (by have p1:=Qr ((Y.drop k).take (e-k));have p2:=Qr X;have p3:=List.length_take_le (e-k) (Y.drop k);omega));have HV3:=zq hv3;have HB3:=zq hbel3;have n3:g3≠w.heap.size:=(Nat.ne_of_lt (Nat.lt_of_lt_of_le hgw hg3)).symm;clear hl3 hv3 hB3 hbel3)
       |(go_at_call 273;refine(X2 _ _ _ P _ (by exact HR3.o)).mono ?_;rintro e2 w' ⟨rfl,rfl⟩)
       |(go_at_call 275;refine(Ub w.heap.size k (Y.length+X.length-k) (Y.length+X.length-k) M (Qy P) _ _ (by exact Blk.below (w:=wr.drew) HM.o HB3.o hgw) (by have:=HST2.o.1;omega) (Nat.le_refl _) (by omega) (Sn HR3.o) (by intro e2;cases e2;exact n3 rfl) (Ek RA.o.ok RB.o.ok hea HV3.o hke)).mono ?_;rintro e2 w4 ⟨rfl,M',hB4,⟨hlm,htm,hcm⟩,hgr4⟩))
     have HN:=zq (PiSt.step RA.o.ok RB.o.ok HST2.o hke hea HV3.o hlm htm hcm);have HM4:=zq hB4;have HG4:Hid (w1.grownBy w4 (some w.heap.size)):=Vu (Pz (w:=wr.drew) (Vu HGR.o (Jd wr 1 (some w.heap.size)) (.inl rfl)) HB3.o) hgr4 (.inl rfl);clear hB4 hlm htm hcm hgr4;go_wp2_with fail;have hfin:Qzc Y X w.heap.size w1 (.int .i64 ((k:Int)+(X.length:Int))) w4:=⟨k+X.length,M',by go_num,by omega,HM4.o,by rw[HMIN2.o];exact HN.o,HG4.o⟩;exact⟨hfin,by simp[intOf];omega⟩
    ·have HD:=zq (PiSt.done (xs:=Y) (ys:=X) (M:=M) (by have:=HST.o;rw[Nat.min_eq_right (by omega)]at this;exact this))
     go_wp2_with fail;go_ret;exact Wh HD.o.1 HD.o.2 HD.o.1.symm rfl HM.o HBL.o HGR.o HAB.o
  ·go_enter Tryz.func253,Tryz.ntmps253
   go_wp2_with fail;refine(X2 _ _ _ xs _ HV.o).mono ?_;rintro e w' ⟨rfl,rfl⟩;rw[<-HX.o];go_wp2_with fail;refine(X2 _ _ _ ys _ HU.o).mono ?_;rintro e w' ⟨rfl,rfl⟩;rw[<-HY.o];go_wp2_with fail;refine(Hy w.heap.size ga oa gb ob ((Y.length+1) / 2) Y X _ (HI.o.mono (by omega)) HZ.o (by omega) RA.o RB.o hga hgb rfl h21 (by omega) (by omega)).mono ?_;rintro e w2 ⟨rfl,M,hM,hml,hmv,hgr⟩;have HM:=zq hM;have HML:=zq hml;have HMV:=zq hmv;have HGR:=zq hgr;clear hM hml hmv hgr;go_wp2_with fail;go_ret;exact Wh HML.o HMV.o HML.o.symm rfl HM.o HBL.o HGR.o HAB.o
 ·have h21:Y.length<=X.length:=by omega
  have HAB:Hid ((X=Qy xs/\Y=Qy ys)\/(X=Qy ys/\Y=Qy xs)):=.inl ⟨HX.o,HY.o⟩;have HMK:∀w:World,(Instr.makeSlice 59 (.int .i64 ((X.length:Int)+(Y.length:Int))) (.int .i64 ((X.length:Int)+(Y.length:Int)))).run Tryz.prog w=.ok (.slice (some ⟨w.heap.size,0,none⟩) (X.length+Y.length) (X.length+Y.length)) (w.alloc (.cells (madeCells #[.int .u64 0] (X.length+Y.length)) 101)):=Zz (X.length+Y.length) (by omega);have HZ:=zq (Blk.made w (X.length+Y.length));have HBL:=zq (Qq w (.cells (madeCells #[.int .u64 0] (X.length+Y.length)) 101));have NA:=zq (TA.o.ne (Nat.le_refl w.heap.size));have NB:=zq (TB.o.ne (Nat.le_refl w.heap.size));have RA:=zq (TA.o.below HBL.o);have RB:=zq (TB.o.below HBL.o);by_cases h24:Y.length<24
  ·go_enter Tryz.func253,Tryz.ntmps253
   go_wp2_with fail;refine(X2 _ _ _ xs _ HV.o).mono ?_;rintro e w' ⟨rfl,rfl⟩;rw[<-HX.o];go_wp2_with fail;refine(X2 _ _ _ ys _ HU.o).mono ?_;rintro e w' ⟨rfl,rfl⟩;rw[<-HY.o];go_wp2_with fail;refine(Aa w.heap.size (X.length+Y.length) X Y _ _ _ HZ.o rfl (by omega) RA.o NA.o RB.o NB.o).mono ?_;rintro e w2 ⟨rfl,M,hM,hml,hmv,hgr⟩;have HM:=zq hM;have HML:=zq hml;have HMV:=zq hmv;have HGR:=zq hgr;clear hM hml hmv hgr;go_wp2_with fail;go_ret;exact Wh HML.o HMV.o HML.o.symm rfl HM.o HBL.o HGR.o HAB.o
  obtain⟨ga,oa,hao⟩:=TA.o.some' (by omega);obtain⟨gb,ob,hbo⟩:=TB.o.some' (by omega);subst hao hbo;have hga:ga≠w.heap.size:=fun e=>NA.o (by rw[e];rfl);have hgb:gb≠w.heap.size:=fun e=>NB.o (by rw[e];rfl)
  have d1:decide ((Y.length:Int)<24)=false:=by simp;omega
  by_cases hbig:2*Y.length<=X.length
  ·have d2:decide (2*(Y.length:Int)<=(X.length:Int))=true:=by simp;omega
   go_enter Tryz.func253,Tryz.ntmps253;go_wp2_with fail;refine(X2 _ _ _ xs _ HV.o).mono ?_;rintro e w' ⟨rfl,rfl⟩;rw[<-HX.o];go_wp2_with fail;refine(X2 _ _ _ ys _ HU.o).mono ?_;rintro e w' ⟨rfl,rfl⟩;rw[<-HY.o];go_wp2_with fail;generalize w.alloc (.cells (madeCells #[.int .u64 0] (X.length+Y.length)) 101)=w1 at*;go_loopw [6] (fun i wr=>Qzc X Y w.heap.size w1 i wr) (fun i _=>X.length-(intOf i).toNat)
   case atStart=>exact⟨0,_,rfl,Nat.zero_le _,HZ.o,by rw[Nat.zero_min];exact PiSt.start X Y,X5 w1 _⟩
   case round=>
    obtain⟨k,M,rfl,hk,hM,hst,hgr⟩:=hrel;have HM:=zq hM;have HST:=zq hst;have HGR:=zq hgr;have hwz:=hgr.size;have hwb:=HBL.o.size;have hgw:=hM.lt;clear hM hst hgr;by_cases hlt:k<X.length
    ·obtain⟨e,he⟩:=xq (min (k+Y.length) X.length)
     have hke:k<=e:=by omega
     have hea:e<=X.length:=by omega
     have hkl:e-k<=Y.length:=by omega
     have hmin:min ((k:Int)+(Y.length:Int)) (X.length:Int)=(e:Int):=by omega
     have HMIN2:Hid (min (k+Y.length) X.length=e):=he.symm
     have hst2:PiSt X Y k M:=by have:=HST.o;rw[Nat.min_eq_left (by omega)]at this;exact this
     have HST2:=zq hst2;have HA1:=zq (((RA.o.kept HGR.o (by intro q hq e2;cases hq;exact NA.o e2)).drop (n:=k) (by omega)).take (n:=e-k) (c:=e-k) (by rw[List.length_drop];omega) (Nat.le_refl _) (by omega));have HB1:=zq (RB.o.kept HGR.o (by intro q hq e2;cases hq;exact NB.o e2));have hi0:(0:Int)<=(k:Int):=Int.natCast_nonneg _
     have hi1:(k:Int)<=((X.length:Int)+(Y.length:Int)):=by omega
     have hi2:(k:Int)<=(e:Int):=by omega
     have hi3:(e:Int)<=(X.length:Int):=by omega
     have hc1: ¬(X.length+Y.length=k):=by omega
     have hc2: ¬(e=k):=by omega
     have hdl:((X.drop k).take (e-k)).length=e-k:=by rw[List.length_take,List.length_drop];omega
     have HDL:=zq hdl;clear he hst2 hdl;go_wp2_with fail
     go_region_held3 (fun _=>True) (trivial)
      (first
       |(go_at_call 253;refine(HI.o ((X.drop k).take (e-k)) Y _ _ _ (by have:=List.length_take_le (e-k) (X.drop k);omega) (by exact HA1.o) (by exact HB1.o)).mono ?_;rintro e2 w3 ⟨g3,P,rfl,hg3,hB3,hl3,hv3,hbel3⟩;have HR3:=zq (hB3.whole (by have p1:=Qr ((X.drop k).take (e-k));have p2:=Qr Y;have p3:=List.length_take_le (e-k) (X.drop k);omega));have HV3:=zq hv3;have HB3:=zq hbel3;have n3:g3≠w.heap.size:=(Nat.ne_of_lt (Nat.lt_of_lt_of_le hgw hg3)).symm;clear hl3 hv3 hB3 hbel3)
       |(go_at_call 273;refine(X2 _ _ _ P _ (by exact HR3.o)).mono ?_;rintro e2 w' ⟨rfl,rfl⟩)
       |(go_at_call 275;refine(Ub w.heap.size k (X.length+Y.length-k) (X.length+Y.length-k) M (Qy P) _ _ (by exact Blk.below (w:=wr.drew) HM.o HB3.o hgw) (by have:=HST2.o.1;omega) (Nat.le_refl _) (by omega) (Sn HR3.o) (by intro e2;cases e2;exact n3 rfl) (Ek RA.o.ok RB.o.ok hea HV3.o hke)).mono ?_;rintro e2 w4 ⟨rfl,M',hB4,⟨hlm,htm,hcm⟩,hgr4⟩))
     have HN:=zq (PiSt.step RA.o.ok RB.o.ok HST2.o hke hea HV3.o hlm htm hcm);have HM4:=zq hB4;have HG4:Hid (w1.grownBy w4 (some w.heap.size)):=Vu (Pz (w:=wr.drew) (Vu HGR.o (Jd wr 1 (some w.heap.size)) (.inl rfl)) HB3.o) hgr4 (.inl rfl);clear hB4 hlm htm hcm hgr4;go_wp2_with fail;have hfin:Qzc X Y w.heap.size w1 (.int .i64 ((k:Int)+(Y.length:Int))) w4:=⟨k+Y.length,M',by go_num,by omega,HM4.o,by rw[HMIN2.o];exact HN.o,HG4.o⟩;exact⟨hfin,by simp[intOf];omega⟩
    ·have HD:=zq (PiSt.done (xs:=X) (ys:=Y) (M:=M) (by have:=HST.o;rw[Nat.min_eq_right (by omega)]at this;exact this))
     go_wp2_with fail;go_ret;exact Wh HD.o.1 HD.o.2 HD.o.1.symm rfl HM.o HBL.o HGR.o HAB.o
  ·go_enter Tryz.func253,Tryz.ntmps253
   go_wp2_with fail;refine(X2 _ _ _ xs _ HV.o).mono ?_;rintro e w' ⟨rfl,rfl⟩;rw[<-HX.o];go_wp2_with fail;refine(X2 _ _ _ ys _ HU.o).mono ?_;rintro e w' ⟨rfl,rfl⟩;rw[<-HY.o];go_wp2_with fail;refine(Hy w.heap.size ga oa gb ob ((X.length+1) / 2) X Y _ (HI.o.mono (by omega)) HZ.o (by omega) RA.o RB.o hga hgb rfl h21 (by omega) (by omega)).mono ?_;rintro e w2 ⟨rfl,M,hM,hml,hmv,hgr⟩;have HM:=zq hM;have HML:=zq hml;have HMV:=zq hmv;have HGR:=zq hgr;clear hM hml hmv hgr;go_wp2_with fail;go_ret;exact Wh HML.o HMV.o HML.o.symm rfl HM.o HBL.o HGR.o HAB.o
theorem Al:∀n,n<=274877906944->P0 n
 |0,_=>fun xs ys v u w h _ _=>absurd h (Nat.not_lt_zero _)
 |n+1,hn=>fun xs ys v u w h hv hu=>Qv7 n (Al n (by omega)) (by omega) xs ys v u w (by omega) hv hu
theorem Mk (xs ys:List Nat)(v u:Value)(w:World)(hl:xs.length+ys.length<274877906944)(hv:Rd w v xs)(hu:Rd w u ys):
  Calls Tryz.prog 253 #[v,u] w (Ri xs ys w):=Al _ (Nat.le_refl _) xs ys v u w hl hv hu
def Zc (n:Nat)(m:Nat)(w:World)(e:Ending)(w':World):Prop:=∃v xs,e=.returned v/\Fr w.heap.size w' v xs/\val xs=n/\xs.length<=m/\Qy xs=xs/\Below w.heap.size w w'
theorem Yt (l:List Nat):Qy (Qy l)=Qy l:=by
 refine U0 (P:=fun l=>Qy (Qy l)=Qy l) rfl (fun l d ih=> ?_) l;by_cases h:d=0
 ·subst h;rw[Yd];exact ih
 ·rw[Yp _ _ h,Yp _ _ h]
theorem Zc.of_new {xs:List Nat}{n m:Nat}{w w':World}{e:Ending}(h:Mi (Qy xs) w e w')(hv:val xs=n)(hm:(Qy xs).length<=m):Zc n m w e w':=by
 obtain⟨v,H,I,E⟩:=h;exact⟨v,Qy xs,H,I,by rw[Qu,hv],hm,Yt _,E⟩
theorem Dn (xs ys:List Nat)(v u:Value)(w:World)(hl:xs.length+ys.length<274877906944)(hv:Rd w v xs)(hu:Rd w u ys):
  Calls Tryz.prog 237 #[v,u] w (Zc (val xs*val ys) (xs.length+ys.length) w):=by
 have HV:=zq hv;have HU:=zq hu;clear hv hu;go_enter Tryz.func237,Tryz.ntmps237;go_wp2_with fail;refine(Mk xs ys _ _ _ hl HV.o HU.o).mono ?_;rintro e w1 ⟨g,M,rfl,hg,hM,hml,hmv,hb⟩;have q1:=Qr xs;have q2:=Qr ys
 have hMl:M.length<=xs.length+ys.length:=by omega
 have R:=zq (hM.whole (by omega));have HB:=zq hb;have HV:=zq hmv;clear hM hml hmv hb;go_wp2_with fail;refine(Vp _ M _ R.o (by omega)).mono ?_;rintro e w2 ⟨v2,rfl,hf,hb2⟩;have HF:=zq (hf.mono HB.o.size);have HB2:Hid (Below w.heap.size w w2):=HB.o.trans (hb2.mono HB.o.size);clear hf hb2;go_wp2_with fail;go_ret;exact Zc.of_new ⟨_,rfl,HF.o,HB2.o⟩ HV.o (Nat.le_trans (Qr M) hMl)
theorem Rs (xs:List Nat)(v:Value)(w:World)(hl:xs.length+xs.length<274877906944)(hv:Rd w v xs):
  Calls Tryz.prog 215 #[v] w (Zc (val xs*val xs) (xs.length+xs.length) w):=by
 have HV:=zq hv;clear hv;go_enter Tryz.func215,Tryz.ntmps215;go_wp2_with fail;refine(Dn xs xs _ _ _ hl HV.o HV.o).mono ?_;rintro e w1 ⟨v1,zs,rfl,h1,h2,h3,h4,h5⟩;have H1:=zq h1;have H2:=zq h2;have H3:=zq h3;have H4:=zq h4;have H5:=zq h5;clear h1 h2 h3 h4 h5;go_wp2_with fail;go_ret;exact⟨_,zs,rfl,H1.o,H2.o,H3.o,H4.o,H5.o⟩
theorem Pd (w:World)(x:Nat)(hx:x<BB):Rd (w.alloc (.cells #[.int .u64 (x:Nat)] 101)) (.slice (some ⟨w.heap.size,0,none⟩) 1 1) [x]:=by
 refine⟨fun k hk=>by cases hk;simp,_,1,rfl,Nat.le_refl _,by unfold maxLen;omega,Qgf hx Qx1,fun i y hy=> ?_⟩
 cases i with
 |zero=>
  simp at hy;subst hy
  exact⟨_,_,rfl,by simp[go_sem]⟩
 |succ i=>simp at hy
theorem Qpz (xs:List Nat)(x:Nat)(v:Value)(w:World)(hl:xs.length<137438953472)(hx:x<BB)(hv:Rd w v xs):
  Calls Tryz.prog 272 #[v,.int .u64 (x:Nat)] w (Zc (val xs*x) (xs.length+1) w):=by
 have HV:=zq hv;have HX:=zq hx;clear hv hx;go_enter Tryz.func272,Tryz.ntmps272;go_wp2_with fail;refine(Dn xs [x] _ _ _ (by simp;omega) (HV.o.alloc _) (Pd w x HX.o)).mono ?_;rintro e w1 ⟨v1,zs,rfl,h1,h2,h3,h4,h5⟩;have H1:Hid (Fr w.heap.size w1 v1 zs):=h1.mono (by simp)
 have H2:Hid (val zs=val xs*x):=by show _=_;rw[h2];simp[val]
 have H3:Hid (zs.length<=xs.length+1):=h3;have H4:=zq h4;have H5:Hid (Below w.heap.size w w1):=(Qq w _).trans (h5.mono (by simp));clear h1 h2 h3 h4 h5;go_wp2_with fail;go_ret;exact⟨_,zs,rfl,H1.o,H2.o,H3.o,H4.o,H5.o⟩
def SmSt (A B:List Nat)(i c:Nat)(M:List Nat):Prop:=M.length=A.length+1/\val (M.take i)+BB^i*c=val (A.take i)+val (B.take i)
theorem SmSt.start (A B:List Nat):SmSt A B 0 0 (List.replicate (A.length+1) 0):=⟨List.length_replicate,by simp[val]⟩
theorem SmSt.step {A B M:List Nat}{i c x y s c':Nat}(h:SmSt A B i c M)(hx:A[i]?=some x)(hy:(B[i]?=some y)\/(B.length<=i/\y=0))(hs:s+BB*c'=x+y+c):SmSt A B (i+1) c' (M.set i s):=by
 obtain⟨J,K⟩:=h;obtain⟨O,T⟩:=List.getElem?_eq_some_iff.1 hx;refine⟨by rw[List.length_set,J],?_⟩;have E:=Rv (l:=M) (o:=0) (i:=i) s (by omega);rw[List.drop_zero,List.drop_zero,Nat.zero_add]at E
 have e1:val (A.take (i+1))=val (A.take i)+BB^i*x:=by rw[X1 O,T]
 have e2:val (B.take (i+1))=val (B.take i)+BB^i*y:=by
  rcases hy with hy|⟨hy,rfl⟩
  ·obtain⟨H,I⟩:=List.getElem?_eq_some_iff.1 hy
   rw[X1 H,I]
  ·rw[List.take_of_length_le (by omega),List.take_of_length_le (by omega)];simp
 rw[E,e1,e2,Zk,List.length_take,Nat.min_eq_left (by omega),Nat.pow_succ];exact Fp K hs
theorem SmSt.done {A B M:List Nat}{c:Nat}(h:SmSt A B A.length c M)(hB:B.length<=A.length):(M.set A.length c).length=A.length+1/\val (M.set A.length c)=val A+val B:=by
 obtain⟨I,H⟩:=h;have E:=Rv (l:=M) (o:=0) (i:=A.length) c (by omega);rw[List.drop_zero,List.drop_zero,Nat.zero_add]at E;rw[List.take_of_length_le (by rw[List.length_set];omega)]at E;refine⟨by rw[List.length_set,I],?_⟩;rw[E,Zk,List.length_take,Nat.min_eq_left (by omega)];rw[List.take_length,List.take_of_length_le hB]at H;exact H
theorem Rd.cellAt {w:World}{ao:Option Addr}{n c:Nat}{xs:List Nat}(h:Rd w (.slice ao n c) xs){i x:Nat}(hx:(Qy xs)[i]?=some x):∃g o,ao=some ⟨g,o,none⟩/\w.cell? ⟨g,o+i,none⟩=some (.int .u64 (x:Nat))/\i<n:=by
 obtain⟨_,ao',cap',e,_,_,_,H⟩:=h;simp only[Value.slice.injEq]at e;obtain⟨rfl,rfl,-⟩:=e
 have E:xs[i]?=some x:=by
  rw[(Yg xs).1,List.getElem?_take]at hx;split at hx
  ·exact hx
  ·cases hx
 obtain⟨g,o,I,J⟩:=H i x E;exact⟨g,o,I,J,(List.getElem?_eq_some_iff.1 E).1⟩
def Fj (A B:List Nat)(g:Nat)(w1:World)(cv i:Value)(wr:World):Prop:=∃(k cc:Nat) (M:List Nat),k<=A.length/\i=.int .i64 (k:Nat)/\cv=.int .u64 (cc:Nat)/\Hid (cc<=1)/\Blk wr g M/\SmSt A B k cc M/\w1.grownBy wr (some g)
theorem Ca {w w1 w2:World}{A B M:List Nat}{n m c:Nat}(hl:M.length=A.length+1)(hv:val M=val A+val B)(hc:c=A.length+1)(hB:Blk w2 w.heap.size M)(hb:Below w.heap.size w w1)(hg:w1.grownBy w2 (some w.heap.size))(hs:A.length<=549755813888)
  (hn:val A+val B=n) (hm:A.length+1<=m):Zc n m w (.returned (.slice (some ⟨w.heap.size,0,none⟩) (Qy M).length c)) w2:=by
 subst hc;have E:=Qr M;have h:=hB.rd (o:=0) (n:=(Qy M).length) (c:=A.length+1) (by omega) (by omega) (by unfold maxLen;omega);rw[List.drop_zero,<-(Yg M).1]at h;exact⟨_,Qy M,rfl,⟨h,fun k hk=>by cases hk;exact⟨Nat.le_refl _,hB.lt⟩⟩,by rw[Qu,hv,hn],by omega,Yt M,Below.grown hb hg hb.size (fun k hk=>by cases hk;exact Nat.le_refl _)⟩
theorem Hs (xs ys:List Nat)(v u:Value)(w:World)(hlx:xs.length<=274877906944)(hly:ys.length<=274877906944)(hv:Rd w v xs)(hu:Rd w u ys):
  Calls Tryz.prog 271 #[v,u] w (Zc (val xs+val ys) (max (Qy xs).length (Qy ys).length+1) w):=by
 have HV:=zq hv;have HU:=zq hu;obtain⟨_,ao,cap,rfl,-⟩:=hv;obtain⟨_,bo,cap2,rfl,-⟩:=hu;have q1:=Qr xs;have q2:=Qr ys;obtain⟨X,hX⟩:=xq (Qy xs);obtain⟨Y,hY⟩:=xq (Qy ys)
 have HVX:Hid (val X=val xs):=by show _=_;rw[hX,Qu]
 have HVY:Hid (val Y=val ys):=by show _=_;rw[hY,Qu]
 rw[<-hX]at q1;rw[<-hY]at q2;rw[<-hX,<-hY];have HX:=zq hX;have HY:=zq hY
 have HOX:Hid (ok X):=by show ok _;rw[hX];exact J5 HV.o.ok
 have HOY:Hid (ok Y):=by show ok _;rw[hY];exact J5 HU.o.ok
 clear hX hY;by_cases hsw:X.length<Y.length
 ·have h21:X.length<=Y.length:=by omega
  have HMK:∀w:World,(Instr.makeSlice 59 (.int .i64 ((Y.length:Int)+1)) (.int .i64 ((Y.length:Int)+1))).run Tryz.prog w=.ok (.slice (some ⟨w.heap.size,0,none⟩) (Y.length+1) (Y.length+1)) (w.alloc (.cells (madeCells #[.int .u64 0] (Y.length+1)) 101)):=Zz (Y.length+1) (by omega);have HZ:=zq (Blk.made w (Y.length+1));have HBL:=zq (Qq w (.cells (madeCells #[.int .u64 0] (Y.length+1)) 101));have NA:=zq (HU.o.ne (Nat.le_refl w.heap.size));have NB:=zq (HV.o.ne (Nat.le_refl w.heap.size));have RA:=zq (HU.o.below HBL.o);have RB:=zq (HV.o.below HBL.o);go_enter Tryz.func271,Tryz.ntmps271;go_wp2_with fail;refine(X8 _ xs _ HV.o).mono ?_;rintro e w' ⟨rfl,rfl⟩;rw[<-HX.o];go_wp2_with fail;refine(X8 _ ys _ HU.o).mono ?_;rintro e w' ⟨rfl,rfl⟩;rw[<-HY.o];go_wp2_with fail;refine(X8 _ ys _ HU.o).mono ?_;rintro e w' ⟨rfl,rfl⟩;rw[<-HY.o];go_wp2_with fail;refine(X8 _ xs _ HV.o).mono ?_;rintro e w' ⟨rfl,rfl⟩;rw[<-HX.o];go_wp2_with fail;generalize w.alloc (.cells (madeCells #[.int .u64 0] (Y.length+1)) 101)=w1 at*;go_loopw [8,26] (fun cv i wr=>Fj Y X w.heap.size w1 cv i wr) (fun _ i _=>Y.length-(intOf i).toNat)
  case atStart=>exact⟨0,0,_,Nat.zero_le _,rfl,rfl,Nat.zero_le _,HZ.o,SmSt.start Y X,X5 w1 _⟩
  case round=>
   obtain⟨k,cc,M,hk,rfl,rfl,hcc,hM,hst,hgr⟩:=hrel;have HM:=zq hM;have HST:=zq hst;have HGR:=zq hgr
   have hml:k<M.length:=by have:=hst.1;omega
   have hml2:Y.length<M.length:=by have:=hst.1;omega
   have hml3:M.length<=Y.length+1:=by have:=hst.1;omega
   have hgw:=hM.lt;clear hM hst hgr;by_cases hlt:k<Y.length
   ·obtain⟨x,hx⟩:∃x,Y[k]?=some x:=⟨_,List.getElem?_eq_getElem hlt⟩
    obtain⟨z,hz⟩:∃z,M[k]?=some z:=⟨_,List.getElem?_eq_getElem hml⟩;have RA2:=RA.o.kept HGR.o (by intro q hq e2;cases hq;exact NA.o e2);have RB2:=RB.o.kept HGR.o (by intro q hq e2;cases hq;exact NB.o e2);obtain⟨ga,oa,hao,e1,hi1⟩:=RA2.cellAt (i:=k) (x:=x) (by rw[<-HY.o];exact hx);subst hao;have c1:=HM.o.cell hz;have c2:=HM.o.frozen k;have hxb:=HOY.o x (List.mem_of_getElem? hx);clear hz;by_cases hkb:k<X.length
    ·obtain⟨y,hy⟩:∃y,X[k]?=some y:=⟨_,List.getElem?_eq_getElem hkb⟩
     obtain⟨gb,ob,hbo,e2,hi2⟩:=RB2.cellAt (i:=k) (x:=y) (by rw[<-HX.o];exact hy);subst hbo;obtain⟨s,c',hs1,hs2,hs3,hrun⟩:=Zj x y cc hxb (HOX.o y (List.mem_of_getElem? hy)) hcc.o;have HN:=zq (HST.o.step hx (.inl hy) hs3);have HS:=zq (HM.o.set k hs1);have HC:=zq hs2;clear hx hy hs3 RA2 RB2 hxb hs1 hs2 hcc;go_wp2_with fail;have hfin:Fj Y X w.heap.size w1 (.int .u64 (c':Nat)) (.int .i64 ((k:Int)+1)) (wr.setCell ⟨w.heap.size,k,none⟩ (.int .u64 (s:Nat))):=⟨k+1,c',_,by omega,by go_num,rfl,HC.o,HS.o.1,HN.o,Xw HGR.o HS.o.2⟩;exact⟨hfin,by simp[intOf];omega⟩
    ·obtain⟨s,c',hs1,hs2,hs3,hrun⟩:=Zj x 0 cc hxb Xf hcc.o
     have hrun2:∀w:World,(callFunc 286 #[.int .u64 (x:Nat),.int .u64 0,.int .u64 (cc:Nat)]).run Tryz.prog w=.ok (.value (.tuple #[.int .u64 (s:Nat),.int .u64 (c':Nat)])) w:=hrun;have HN:=zq (HST.o.step hx (.inr ⟨by omega,rfl⟩) hs3);have HS:=zq (HM.o.set k hs1);have HC:=zq hs2;clear hx hs3 RA2 RB2 hxb hs1 hs2 hrun hcc;go_wp2_with fail;have hfin:Fj Y X w.heap.size w1 (.int .u64 (c':Nat)) (.int .i64 ((k:Int)+1)) (wr.setCell ⟨w.heap.size,k,none⟩ (.int .u64 (s:Nat))):=⟨k+1,c',_,by omega,by go_num,rfl,HC.o,HS.o.1,HN.o,Xw HGR.o HS.o.2⟩;exact⟨hfin,by simp[intOf];omega⟩
   ·obtain rfl:k=Y.length:=by omega
    obtain⟨z,hz⟩:∃z,M[Y.length]?=some z:=⟨_,List.getElem?_eq_getElem hml⟩;have c1:=HM.o.cell hz;have c2:=HM.o.frozen Y.length;have HD:=zq (HST.o.done h21);have HS:=zq (HM.o.set Y.length (show cc<BB by have:=hcc.o;unfold BB;omega));have R:=zq (HS.o.1.whole (by rw[HD.o.1];omega));have hRl:=HD.o.1;rw[hRl]at R;have hsl:=Qr (M.set Y.length cc);rw[hRl]at hsl;clear hz hlt hk hml hml2 hml3 hRl hcc;go_wp2_with fail;refine(X8 _ (M.set Y.length cc) _ R.o).mono ?_;rintro e w' ⟨rfl,rfl⟩;go_wp2_with fail;go_ret;exact Ca HD.o.1 HD.o.2 rfl HS.o.1 HBL.o (Xw HGR.o HS.o.2) (by omega) (by rw[HVX.o,HVY.o];exact Nat.add_comm _ _) (by omega)
 ·have h21:Y.length<=X.length:=by omega
  have HMK:∀w:World,(Instr.makeSlice 59 (.int .i64 ((X.length:Int)+1)) (.int .i64 ((X.length:Int)+1))).run Tryz.prog w=.ok (.slice (some ⟨w.heap.size,0,none⟩) (X.length+1) (X.length+1)) (w.alloc (.cells (madeCells #[.int .u64 0] (X.length+1)) 101)):=Zz (X.length+1) (by omega);have HZ:=zq (Blk.made w (X.length+1));have HBL:=zq (Qq w (.cells (madeCells #[.int .u64 0] (X.length+1)) 101));have NA:=zq (HV.o.ne (Nat.le_refl w.heap.size));have NB:=zq (HU.o.ne (Nat.le_refl w.heap.size));have RA:=zq (HV.o.below HBL.o);have RB:=zq (HU.o.below HBL.o);go_enter Tryz.func271,Tryz.ntmps271;go_wp2_with fail;refine(X8 _ xs _ HV.o).mono ?_;rintro e w' ⟨rfl,rfl⟩;rw[<-HX.o];go_wp2_with fail;refine(X8 _ ys _ HU.o).mono ?_;rintro e w' ⟨rfl,rfl⟩;rw[<-HY.o];go_wp2_with fail;refine(X8 _ xs _ HV.o).mono ?_;rintro e w' ⟨rfl,rfl⟩;rw[<-HX.o];go_wp2_with fail;refine(X8 _ ys _ HU.o).mono ?_;rintro e w' ⟨rfl,rfl⟩;rw[<-HY.o];go_wp2_with fail;generalize w.alloc (.cells (madeCells #[.int .u64 0] (X.length+1)) 101)=w1 at*;go_loopw [8,26] (fun cv i wr=>Fj X Y w.heap.size w1 cv i wr) (fun _ i _=>X.length-(intOf i).toNat)
  case atStart=>exact⟨0,0,_,Nat.zero_le _,rfl,rfl,Nat.zero_le _,HZ.o,SmSt.start X Y,X5 w1 _⟩
  case round=>
   obtain⟨k,cc,M,hk,rfl,rfl,hcc,hM,hst,hgr⟩:=hrel;have HM:=zq hM;have HST:=zq hst;have HGR:=zq hgr
   have hml:k<M.length:=by have:=hst.1;omega
   have hml2:X.length<M.length:=by have:=hst.1;omega
   have hml3:M.length<=X.length+1:=by have:=hst.1;omega
   have hgw:=hM.lt;clear hM hst hgr;by_cases hlt:k<X.length
   ·obtain⟨x,hx⟩:∃x,X[k]?=some x:=⟨_,List.getElem?_eq_getElem hlt⟩
    obtain⟨z,hz⟩:∃z,M[k]?=some z:=⟨_,List.getElem?_eq_getElem hml⟩;have RA2:=RA.o.kept HGR.o (by intro q hq e2;cases hq;exact NA.o e2);have RB2:=RB.o.kept HGR.o (by intro q hq e2;cases hq;exact NB.o e2);obtain⟨ga,oa,hao,e1,hi1⟩:=RA2.cellAt (i:=k) (x:=x) (by rw[<-HX.o];exact hx);subst hao;have c1:=HM.o.cell hz;have c2:=HM.o.frozen k;have hxb:=HOX.o x (List.mem_of_getElem? hx);clear hz;by_cases hkb:k<Y.length
    ·obtain⟨y,hy⟩:∃y,Y[k]?=some y:=⟨_,List.getElem?_eq_getElem hkb⟩
     obtain⟨gb,ob,hbo,e2,hi2⟩:=RB2.cellAt (i:=k) (x:=y) (by rw[<-HY.o];exact hy);subst hbo;obtain⟨s,c',hs1,hs2,hs3,hrun⟩:=Zj x y cc hxb (HOY.o y (List.mem_of_getElem? hy)) hcc.o;have HN:=zq (HST.o.step hx (.inl hy) hs3);have HS:=zq (HM.o.set k hs1);have HC:=zq hs2;clear hx hy hs3 RA2 RB2 hxb hs1 hs2 hcc;go_wp2_with fail;have hfin:Fj X Y w.heap.size w1 (.int .u64 (c':Nat)) (.int .i64 ((k:Int)+1)) (wr.setCell ⟨w.heap.size,k,none⟩ (.int .u64 (s:Nat))):=⟨k+1,c',_,by omega,by go_num,rfl,HC.o,HS.o.1,HN.o,Xw HGR.o HS.o.2⟩;exact⟨hfin,by simp[intOf];omega⟩
    ·obtain⟨s,c',hs1,hs2,hs3,hrun⟩:=Zj x 0 cc hxb Xf hcc.o
     have hrun2:∀w:World,(callFunc 286 #[.int .u64 (x:Nat),.int .u64 0,.int .u64 (cc:Nat)]).run Tryz.prog w=.ok (.value (.tuple #[.int .u64 (s:Nat),.int .u64 (c':Nat)])) w:=hrun;have HN:=zq (HST.o.step hx (.inr ⟨by omega,rfl⟩) hs3);have HS:=zq (HM.o.set k hs1);have HC:=zq hs2;clear hx hs3 RA2 RB2 hxb hs1 hs2 hrun hcc;go_wp2_with fail;have hfin:Fj X Y w.heap.size w1 (.int .u64 (c':Nat)) (.int .i64 ((k:Int)+1)) (wr.setCell ⟨w.heap.size,k,none⟩ (.int .u64 (s:Nat))):=⟨k+1,c',_,by omega,by go_num,rfl,HC.o,HS.o.1,HN.o,Xw HGR.o HS.o.2⟩;exact⟨hfin,by simp[intOf];omega⟩
   ·obtain rfl:k=X.length:=by omega
    obtain⟨z,hz⟩:∃z,M[X.length]?=some z:=⟨_,List.getElem?_eq_getElem hml⟩;have c1:=HM.o.cell hz;have c2:=HM.o.frozen X.length;have HD:=zq (HST.o.done h21);have HS:=zq (HM.o.set X.length (show cc<BB by have:=hcc.o;unfold BB;omega));have R:=zq (HS.o.1.whole (by rw[HD.o.1];omega));have hRl:=HD.o.1;rw[hRl]at R;have hsl:=Qr (M.set X.length cc);rw[hRl]at hsl;clear hz hlt hk hml hml2 hml3 hRl hcc;go_wp2_with fail;refine(X8 _ (M.set X.length cc) _ R.o).mono ?_;rintro e w' ⟨rfl,rfl⟩;go_wp2_with fail;go_ret;exact Ca HD.o.1 HD.o.2 rfl HS.o.1 HBL.o (Xw HGR.o HS.o.2) (by omega) (by rw[HVX.o,HVY.o]) (by omega)
theorem Qxr (xs ys zs:List Nat)(v u t:Value)(w:World)(hl:xs.length+ys.length<274877906944)(hlz:zs.length<=274877906944)(hv:Rd w v xs)(hu:Rd w u ys)(ht:Rd w t zs):
  Calls Tryz.prog 269 #[v,u,t] w (Zc (val xs*val ys+val zs) (max (xs.length+ys.length) zs.length+1) w):=by
 have HV:=zq hv;have HU:=zq hu;have HT:=zq ht;clear hv hu ht;go_enter Tryz.func269,Tryz.ntmps269;go_wp2_with fail;refine(Mk xs ys _ _ _ hl HV.o HU.o).mono ?_;rintro e w1 ⟨g,M,rfl,hg,hM,hml,hmv,hb⟩;have q1:=Qr xs;have q2:=Qr ys;have q3:=Qr zs;have q4:=Qr M
 have hMl:M.length<=xs.length+ys.length:=by omega
 have R:=zq (hM.whole (by omega));have HB:=zq hb;have HMV:=zq hmv;have HT1:=zq (HT.o.below hb);clear hM hml hmv hb;go_wp2_with fail;refine(Hs M zs _ _ _ (by omega) hlz R.o HT1.o).mono ?_;rintro e w2 ⟨v2,rs,rfl,h1,h2,h3,h4,h5⟩;have H1:=zq (h1.mono HB.o.size)
 have H2:Hid (val rs=val xs*val ys+val zs):=by show _=_;rw[h2,HMV.o]
 have H3:Hid (rs.length<=max (xs.length+ys.length) zs.length+1):=by show _<=_;omega
 have H4:=zq h4;have H5:Hid (Below w.heap.size w w2):=HB.o.trans (h5.mono HB.o.size);clear h1 h2 h3 h4 h5;go_wp2_with fail;go_ret;exact⟨_,rs,rfl,H1.o,H2.o,H3.o,H4.o,H5.o⟩
theorem U2 (c:Nat)(w:World)(hc:c<=0x10ffff):
  Calls Tryz.prog 213 #[.int .i32 (c:Nat)] w fun e w'=>e=.returned (.int .i64 (digVal c:Nat))/\w=w':=by
 have G:(48<=c/\c<=57)\/(97<=c/\c<=122)\/(65<=c/\c<=90)\/c<48\/(57<c/\c<65)\/(90<c/\c<97)\/122<c:=by omega
 rcases G with G|G|G|G|G|G|G
 ·have e:digVal c=c-48:=by unfold digVal;rw[if_pos G]
  rw[e];clear e;go_enter Tryz.func213,Tryz.ntmps213;go_wp2_with fail;go_ret;exact⟨Wi (by omega),rfl⟩
 ·have e:digVal c=c-87:=by unfold digVal;rw[if_neg (by omega),if_pos G]
  rw[e];clear e;go_enter Tryz.func213,Tryz.ntmps213;go_wp2_with fail;go_ret;exact⟨Wi (by omega),rfl⟩
 ·have e:digVal c=c-55:=by unfold digVal;rw[if_neg (by omega),if_neg (by omega),if_pos G]
  rw[e];clear e;go_enter Tryz.func213,Tryz.ntmps213;go_wp2_with fail;go_ret;exact⟨Wi (by omega),rfl⟩
 all_goals
  have e:digVal c=36:=by unfold digVal;rw[if_neg (by omega),if_neg (by omega),if_neg (by omega)]
  rw[e];clear e;go_enter Tryz.func213,Tryz.ntmps213;go_wp2_with fail;go_ret;exact⟨Wi (by omega),rfl⟩
theorem Nh (w:World):
  Calls Tryz.prog 214 #[.int .i64 10] w fun e w'=>e=.returned (.tuple #[.int .i64 19,.int .u64 10000000000000000000])/\w=w':=by
 go_enter Tryz.func214,Tryz.ntmps214;go_wp2_with fail;refine wp_loop_rounds 20 ?_
 repeat (rw[rounds_succ];go_wp2_with fail)
 go_ret2;exact⟨rfl,rfl⟩
def Ci (N:Nat)(w:World)(nv pv bv:Value)(wr:World):Prop:=∃(n q e:Nat) (ps bs:List Nat),nv=.int .i64 (n:Nat)/\Fr w.heap.size wr pv ps/\Fr w.heap.size wr bv bs/\val ps=10^q/\(1<=n->val bs=10^e)/\q+e*n=N/\n<=N/\Qy ps=ps/\Qy bs=bs/\Below w.heap.size w wr/\1<=e
theorem Qyl {N q e n:Nat}(h:q+e*n=N)(he:1<=e)(hn:1<=n):e<=N/\q<=N:=by
 have:=Nat.mul_le_mul_left e hn;have E:=Nat.mul_le_mul_right n he;omega
theorem Qv4 (N:Nat)(w:World)(hN:N<=1073741824):
  Calls Tryz.prog 270 #[.int .i64 10,.int .i64 (N:Nat)] w (Zc (10^N) (N+1) w):=by
 have R1:=Pd w 1 (by unfold BB;omega);have R2:=Pd (w.alloc (.cells #[.int .u64 (1:Nat)] 101)) 10 (by unfold BB;omega);have b1:=Qq w (.cells #[.int .u64 (1:Nat)] 101);have b2:=Qq (w.alloc (.cells #[.int .u64 (1:Nat)] 101)) (.cells #[.int .u64 (10:Nat)] 101)
 have HS:Hid (Ci N w (.int .i64 (N:Nat)) (.slice (some ⟨w.heap.size,0,none⟩) 1 1) (.slice (some ⟨w.heap.size+1,0,none⟩) 1 1) ((w.alloc (.cells #[.int .u64 1] 101)).alloc (.cells #[.int .u64 10] 101))):=
  ⟨N,0,1,[1],[10],rfl,⟨R1.below b2,fun k hk=>by cases hk;exact⟨Nat.le_refl _,by simp;omega⟩⟩,⟨by simpa using R2,fun k hk=>by cases hk;exact⟨by show w.heap.size<=w.heap.size+1;omega,by simp⟩⟩,by simp[val],fun _=>by simp[val],by omega,Nat.le_refl _,by decide,by decide,b1.trans (b2.mono b1.size),Nat.le_refl _⟩
 clear R1 R2 b1 b2;go_enter Tryz.func270,Tryz.ntmps270;go_wp2_with fail;go_loopw [1,5,6] (fun n p b wr=>Ci N w n p b wr) (fun n _ _ _=>(intOf n).toNat)
 case atStart=>exact HS.o
 clear HS
 case round=>
  obtain⟨n,q,e,ps,bs,rfl,hp,hb,hvp,hvb,hqe,hnN,hsp,hsb,hbel,he⟩:=hrel;have HP:=zq hp;have HB:=zq hb;have HVP:=zq hvp;have HVB:=zq hvb;have HQE:=zq hqe;have HSP:=zq hsp;have HSB:=zq hsb;have HBEL:=zq hbel;have hwz:=hbel.size;clear hp hb hvp hvb hqe hsp hsb hbel;by_cases hn0:n=0
  ·subst hn0
   have hq:q=N:=by have:=HQE.o;omega
   have HQ:Hid (val ps=10^N):=by show _=_;rw[HVP.o,hq]
   clear hq;go_wp2_with fail;go_ret;exact⟨_,ps,rfl,HP.o,HQ.o,K7 HSP.o (Nat.le_of_eq HQ.o),HSP.o,HBEL.o⟩
  ·have hn1:1<=n:=by omega
   obtain⟨heN,hqN⟩:=Qyl HQE.o he hn1;have hpl:=K7 HSP.o (Nat.le_of_eq HVP.o);have hbl:=K7 HSB.o (Nat.le_of_eq (HVB.o hn1));have VB:=zq (HVB.o hn1);clear HVB;obtain⟨m,r,hm,hr⟩:∃m r,n=2*m+r/\r<2:=⟨n / 2,n % 2,by omega,by omega⟩
   have hrem:(n:Int) % 2=(r:Int):=by omega
   have hquo:(n:Int) / 2=(m:Int):=by omega
   have HM:=zq hm
   have hmn:m<n:=by omega
   have hmN:m<=N:=by omega
   by_cases hr1:r=1
   ·have hrb:((r:Int)==1)=true:=by simp[hr1]
    have HR:=zq hr1;clear hm hr1;go_wp2_with fail;refine(Dn ps bs _ _ _ (by omega) HP.o.1 HB.o.1).mono ?_;rintro e2 w2 ⟨pv2,ps2,rfl,p1,p2,p3,p4,p5⟩;have HP2:=zq (p1.mono hwz)
    have HVP2:Hid (val ps2=10^(q+e)):=by show _=_;rw[p2,HVP.o,VB.o,Nat.pow_add]
    have HSP2:=zq p4;have HB2:=zq (HB.o.below p5);have HBEL2:Hid (Below w.heap.size w w2):=HBEL.o.trans (p5.mono hwz);have hwz2:=HBEL2.o.size;clear p1 p2 p3 p4 p5;by_cases hn2:1<n
    ·go_wp2_with fail
     refine(Rs bs _ _ (by omega) HB2.o.1).mono ?_;rintro e3 w3 ⟨bv3,bs3,rfl,s1,s2,s3,s4,s5⟩;have HB3:=zq (s1.mono hwz2)
     have HVB3:Hid (val bs3=10^(2*e)):=by show _=_;rw[s2,VB.o,<-Nat.pow_add,show e+e=2*e from by omega]
     have HSB3:=zq s4;have HP3:=zq (HP2.o.below s5);have HBEL3:Hid (Below w.heap.size w w3):=HBEL2.o.trans (s5.mono hwz2)
     have HQ3:Hid (q+e+2*e*m=N):=by
      show _=_;have h1:=HQE.o;rw[HM.o,HR.o,Nat.mul_add,Nat.mul_one,Nat.mul_left_comm,<-Nat.mul_assoc]at h1;omega
     clear s1 s2 s3 s4 s5;go_wp2_with fail;have hfin:Ci N w (.int .i64 (m:Nat)) pv2 bv3 w3:=⟨m,q+e,2*e,ps2,bs3,rfl,HP3.o,HB3.o,HVP2.o,fun _=>HVB3.o,HQ3.o,hmN,HSP2.o,HSB3.o,HBEL3.o,by omega⟩;exact⟨hfin,by simp[intOf];omega⟩
    ·have hm0:m=0:=by have:=HM.o;omega
     have HQ3:Hid (q+e+e*m=N):=by
      show _=_;have h1:=HQE.o;have h2:=HM.o;rw[HR.o,hm0]at h2;rw[h2]at h1;rw[hm0,Nat.mul_zero];rw[Nat.mul_zero,Nat.zero_add,Nat.mul_one]at h1;exact h1
     clear hm0;go_wp2_with fail;have hfin:Ci N w (.int .i64 (m:Nat)) pv2 u6 w2:=⟨m,q+e,e,ps2,bs,rfl,HP2.o,HB2.o,HVP2.o,fun _=>VB.o,HQ3.o,hmN,HSP2.o,HSB.o,HBEL2.o,he⟩;exact⟨hfin,by simp[intOf];omega⟩
   ·have hrb:((r:Int)==1)=false:=by simp;omega
    have hr0:r=0:=by omega
    have HR:=zq hr0
    have hn2:1<n:=by omega
    clear hm hr1 hr0;go_wp2_with fail;refine(Rs bs _ _ (by omega) HB.o.1).mono ?_;rintro e3 w3 ⟨bv3,bs3,rfl,s1,s2,s3,s4,s5⟩;have HB3:=zq (s1.mono hwz)
    have HVB3:Hid (val bs3=10^(2*e)):=by show _=_;rw[s2,VB.o,<-Nat.pow_add,show e+e=2*e from by omega]
    have HSB3:=zq s4;have HP3:=zq (HP.o.below s5);have HBEL3:Hid (Below w.heap.size w w3):=HBEL.o.trans (s5.mono hwz)
    have HQ3:Hid (q+2*e*m=N):=by
     show _=_;have h1:=HQE.o;rw[HM.o,HR.o,Nat.add_zero,Nat.mul_left_comm,<-Nat.mul_assoc]at h1;omega
    clear s1 s2 s3 s4 s5;go_wp2_with fail;have hfin:Ci N w (.int .i64 (m:Nat)) u5 bv3 w3:=⟨m,q,2*e,ps,bs3,rfl,HP3.o,HB3.o,HVP.o,fun _=>HVB3.o,HQ3.o,hmN,HSP.o,HSB3.o,HBEL3.o,by omega⟩;exact⟨hfin,by simp[intOf];omega⟩
def RdD (w:World)(v:Value)(ds:List Nat):Prop:=
 (∀k,v.ownBlock=some k->k<w.heap.size)/\ ∃ao cap,v=.slice ao ds.length cap/\ds.length<=cap/\cap<=maxLen/\(∀x∈ds,x<10)/\ ∀i x,ds[i]?=some x-> ∃g o,ao=some ⟨g,o,none⟩/\w.cell? ⟨g,o+i,none⟩=some (.int .u8 (x:Nat))
theorem RdD.below {w w':World}{v:Value}{ds:List Nat}(h:RdD w v ds)(hb:Below w.heap.size w w'):RdD w' v ds:=by
 obtain⟨H,ao,E,rfl,I,J,K,O⟩:=h;refine⟨fun k hk=>Nat.lt_of_lt_of_le (H k hk) hb.size,ao,E,rfl,I,J,K,fun i x hx=> ?_⟩;obtain⟨g,o,rfl,T⟩:=O i x hx;exact⟨g,o,rfl,by rw[hb.cell (p:=⟨g,o+i,none⟩) (H g rfl)];exact T⟩
theorem RdD.take {w:World}{ao:Option Addr}{len cap n c:Nat}{ds:List Nat}(h:RdD w (.slice ao len cap) ds)(hn:n<=ds.length)(hc:n<=c)(hm:c<=cap):RdD w (.slice ao n c) (ds.take n):=by
 obtain⟨E,ao',cap',e,J,K,H,I⟩:=h;simp only[Value.slice.injEq]at e;obtain⟨rfl,rfl,rfl⟩:=e
 refine⟨fun k hk=>E k (by cases ao<;>first|exact hk|cases hk),ao,c,by rw[List.length_take,Nat.min_eq_left hn],by rw[List.length_take];omega,by omega,fun x hx=>H x (List.mem_of_mem_take hx),fun i x hx=> ?_⟩
 rw[List.getElem?_take]at hx;split at hx
 ·exact I i x hx
 ·cases hx
theorem RdD.drop {w:World}{g o len cap n:Nat}{ds:List Nat}(h:RdD w (.slice (some ⟨g,o,none⟩) len cap) ds)(hn:n<=ds.length):RdD w (.slice (some ⟨g,o+n,none⟩) (ds.length-n) (cap-n)) (ds.drop n):=by
 obtain⟨E,ao',cap',e,K,O,H,I⟩:=h;simp only[Value.slice.injEq]at e;obtain⟨rfl,rfl,rfl⟩:=e;refine⟨fun k hk=>E k hk,_,_,by rw[List.length_drop],by rw[List.length_drop];omega,by omega,fun x hx=>H x (List.mem_of_mem_drop hx),fun i x hx=>⟨g,o+n,rfl,?_⟩⟩;rw[List.getElem?_drop]at hx;obtain⟨g',o',e,J⟩:=I (n+i) x hx
 cases e
 rw[Nat.add_assoc];exact J
theorem RdD.dropAll {w:World}{g o len cap n:Nat}{ds:List Nat}(h:RdD w (.slice (some ⟨g,o,none⟩) len cap) ds)(hn:ds.length<=n):RdD w (.slice (some ⟨g,o,none⟩) 0 0) (ds.drop n):=by
 rw[List.drop_eq_nil_of_le hn];exact⟨fun k hk=>h.1 k hk,_,0,rfl,Nat.le_refl _,by unfold maxLen;omega,fun x hx=>(by cases hx),fun i x hx=>(by simp at hx)⟩
theorem RdD.some' {w:World}{ao:Option Addr}{n c:Nat}{ds:List Nat}(h:RdD w (.slice ao n c) ds)(h0:0<ds.length):∃g o,ao=some ⟨g,o,none⟩:=by
 obtain⟨_,ao',cap',e,_,_,_,E⟩:=h;simp only[Value.slice.injEq]at e;obtain⟨rfl,-,-⟩:=e;obtain⟨g,o,H,_⟩:=E 0 ds[0] (List.getElem?_eq_getElem h0);exact⟨g,o,H⟩
theorem RdD.shape {w:World}{v:Value}{ds:List Nat}(h:RdD w v ds):∃ao cap,v=.slice ao ds.length cap/\ds.length<=cap/\cap<=maxLen:=by
 obtain⟨_,ao,cap,E,H,I,_⟩:=h;exact⟨ao,cap,E,H,I⟩
theorem RdD.dig {w:World}{v:Value}{ds:List Nat}(h:RdD w v ds):∀x∈ds,x<10:=by obtain⟨_,_,_,_,_,_,E,_⟩:=h;exact E
def Ct (n:Nat):Prop:=∀(ds:List Nat) (v:Value) (w:World),ds.length<n->RdD w v ds->Calls Tryz.prog 252 #[v,.int .i64 10] w (Zc (decV ds) ds.length w)
theorem Ap (n:Nat)(IH:Ct n)(hn:n<=1073741824)(ds:List Nat)(v:Value)(w:World)(hl:ds.length<=n)(h200:200<ds.length)(hv:RdD w v ds):
  Calls Tryz.prog 252 #[v,.int .i64 10] w (Zc (decV ds) ds.length w):=by
 have HV:=zq hv;obtain⟨ao,cap,rfl,hdc,hcm⟩:=hv.shape;obtain⟨g,o,rfl⟩:=hv.some' (by omega);obtain⟨lo,hlo⟩:=xq (ds.length / 2);obtain⟨cu,hcu⟩:=xq (ds.length-lo)
 have h1:1<=lo:=by omega
 have h2:lo<ds.length:=by omega
 have h3:1<=cu:=by omega
 have h4:cu<ds.length:=by omega
 have h5:lo+cu<=ds.length:=by omega
 have h6:ds.length<=lo+cu:=by omega
 have hquo:(ds.length:Int) / 2=(lo:Int):=by omega
 have hsub:(ds.length:Int)-(lo:Int)=(cu:Int):=by omega
 have HA1:=zq (HV.o.take (n:=cu) (c:=cap) (by omega) (by omega) (Nat.le_refl _));have HA2:=zq (HV.o.drop (n:=cu) (by omega));have HI:=zq IH;have hi0:(0:Int)<=(cu:Int):=Int.natCast_nonneg _
 have hi1:(cu:Int)<=(ds.length:Int):=by omega
 have hcc: ¬(cap=cu):=by omega
 have hi2:(cu:Int)<=(cap:Int):=by omega
 have hcap2:cap<=9223372036854775807:=by unfold maxLen at hcm;omega
 have HL1:Hid ((ds.take cu).length<=cu):=List.length_take_le _ _
 have HL2:Hid ((ds.drop cu).length<=lo):=by show _<=_;rw[List.length_drop];omega
 have HD:Hid (decV ds=decV (ds.take cu)*10^lo+decV (ds.drop cu)):=by
  show _=_;rw[Qq5 ds cu (by omega),show ds.length-cu=lo from by omega]
 have HDL:=zq (U8 HV.o.dig);clear IH hv hcm hlo hcu;go_enter Tryz.func252,Tryz.ntmps252;go_wp2_with fail
 go_region_held3 (fun _=>True) (trivial)
  (first
   |(go_at_call_of 252 (Value.slice (some ⟨g,o,none⟩) cu cap);refine(HI.o (ds.take cu) _ _ (by have:=HL1.o;omega) (by exact HA1.o)).mono ?_;rintro e1 w1 ⟨v1,x1,rfl,a1,a2,a3,a4,a5⟩;have A1:=zq a1;have A2:=zq a2;have A3:=zq a3;have A5:=zq a5;have hz1:=a5.size;clear a1 a2 a3 a4 a5)
   |(go_at_call 270;refine(Qv4 lo _ (by omega)).mono ?_;rintro e2 w2 ⟨v2,x2,rfl,a1,a2,a3,a4,a5⟩;have B1:=zq a1;have B2:=zq a2;have B3:=zq a3;have B5:=zq a5;have hz2:=a5.size;clear a1 a2 a3 a4 a5)
   |(go_at_call 252;refine(HI.o (ds.drop cu) _ _ (by have:=HL2.o;omega) (by exact(RdD.below (w:=w.drew) HA2.o A5.o).below B5.o)).mono ?_;rintro e3 w3 ⟨v3,x3,rfl,a1,a2,a3,a4,a5⟩;have C1:=zq a1;have C2:=zq a2;have C3:=zq a3;have C5:=zq a5;have hz3:=a5.size;clear a1 a2 a3 a4 a5)
   |(go_at_call 269;refine(Qxr x1 x2 x3 _ _ _ _ (by have:=A3.o;have:=B3.o;have:=HL1.o;omega) (by have:=C3.o;have:=HL2.o;omega) ((A1.o.1.below B5.o).below C5.o) (B1.o.1.below C5.o) C1.o.1).mono ?_;rintro e4 w4 ⟨v4,x4,rfl,a1,a2,a3,a4,a5⟩))
 have D1:=zq (a1.mono (Nat.le_trans hz1 (Nat.le_trans hz2 hz3)))
 have D2:Hid (val x4=decV ds):=by show _=_;rw[a2,A2.o,B2.o,C2.o,HD.o]
 have D4:=zq a4;have D5:Hid (Below w.heap.size w w4):=((Xt w 1).trans (A5.o.trans ((B5.o.trans ((C5.o.trans (a5.mono hz3)).mono hz2)).mono hz1)));have D3:Hid (x4.length<=ds.length):=So a4 (by rw[D2.o];exact HDL.o);clear a1 a2 a3 a4 a5;go_wp2_with fail;go_ret;exact⟨_,x4,rfl,D1.o,D2.o,D3.o,D4.o,D5.o⟩
def szS:Value->Nat| .slice _ n _=>n|_=>0
def pw (j:Nat):Nat:=10^j
def Qko (ds:List Nat)(w:World)(dv av:Value)(wr:World):Prop:=∃(pos rem:Nat) (ao:Option Addr) (c:Nat) (zs:List Nat),pos+rem=ds.length/\dv=.slice ao rem c/\RdD wr dv (ds.drop pos)/\Fr w.heap.size wr av zs/\val zs=decV (ds.take pos)/\Qy zs=zs/\Below w.heap.size w wr
theorem Qgh {ds:List Nat}{pos n:Nat}(h:pos+n<=ds.length):decV (ds.take (pos+n))=decV (ds.take pos)*pw n+decV ((ds.drop pos).take n):=by
 have e:ds.take (pos+n)=ds.take pos++(ds.drop pos).take n:=List.take_add;rw[e,Sw,List.length_take,List.length_drop,Nat.min_eq_left (by omega)];rfl
theorem Do (ds:List Nat)(v:Value)(w:World)(h200:ds.length<=200)(hv:RdD w v ds):
  Calls Tryz.prog 252 #[v,.int .i64 10] w (Zc (decV ds) ds.length w):=by
 have HV:=zq hv;obtain⟨ao,cap,rfl,hdc,hcm⟩:=hv.shape
 have hcap2:cap<=9223372036854775807:=by unfold maxLen at hcm;omega
 have HDL:=zq (U8 HV.o.dig);clear hv hcm;go_enter Tryz.func252,Tryz.ntmps252;go_wp2_with fail;refine(Nh _).mono ?_;rintro e w' ⟨rfl,rfl⟩;go_wp2_with fail;go_loopw [0,9] (fun d a wr=>Qko ds w d a wr) (fun d _ _=>szS d)
 case atStart=>exact⟨0,ds.length,ao,cap,[],by omega,rfl,HV.o,⟨Rd.nil w,fun k hk=>by cases hk⟩,rfl,rfl,Below.refl _ _⟩
 case round=>
  obtain⟨pos,rem,ao,c,zs,hpr,rfl,hd,ha,hva,hsa,hb⟩:=hrel;have HD:=zq hd;have HA:=zq ha;have HVA:=zq hva;have HSA:=zq hsa;have HB:=zq hb;have HPR:=zq hpr;have hwz:=hb.size;obtain⟨_,_,hsv,hrc,hcm⟩:=hd.shape;simp only[Value.slice.injEq]at hsv;obtain⟨-,-,rfl⟩:=hsv
  have hdl:(ds.drop pos).length=rem:=by rw[List.length_drop];omega
  rw[hdl]at hrc
  have hc2:c<=9223372036854775807:=by unfold maxLen at hcm;omega
  have hr200:rem<=200:=by omega
  have hal:zs.length<=200:=by
   have:=So hsa (n:=pos) (by
    rw[hva];have h1:=U8 (ds:=ds.take pos) (fun x hx=>HV.o.dig x (List.mem_of_mem_take hx))
    rw[List.length_take,Nat.min_eq_left (by omega)]at h1;exact h1)
   omega
  clear hd ha hva hsa hb hpr hcm;by_cases hr0:rem=0
  ·have hfin:decV (ds.take pos)=decV ds:=by rw[List.take_of_length_le (by have:=HPR.o;omega)]
   have HF:=zq hfin;clear hfin hdl
   have h0: ¬0<rem:=by omega
   clear hr0;go_wp2_with fail;go_ret;exact⟨_,zs,rfl,HA.o,by rw[HVA.o,HF.o],So HSA.o (by rw[HVA.o,HF.o];exact HDL.o),HSA.o,HB.o⟩
  ·obtain⟨n,hn⟩:=xq (min 19 rem)
   have hn1:1<=n:=by omega
   have hn2:n<=rem:=by omega
   have hn3:n<=19:=by omega
   have hmin:min (19:Int) (rem:Int)=(n:Int):=by omega
   obtain⟨g,o,rfl⟩:=HD.o.some' (by rw[hdl];omega);have HP:=zq (HD.o.take (n:=n) (c:=c) (by rw[hdl];omega) (by omega) (Nat.le_refl _));obtain⟨P,hP⟩:=xq ((ds.drop pos).take n);rw[<-hP]at HP
   have hPl:P.length=n:=by rw[hP,List.length_take,hdl];omega
   have HPL:=zq hPl;have HPE:=zq hP;have HDD:=zq hdl
   have hrp:0<rem:=by omega
   obtain⟨_,_,_,hsv,_,_,hdig,hcell⟩:=HP.o;simp only[Value.slice.injEq]at hsv;obtain⟨rfl,-,-⟩:=hsv;have HDG:=zq hdig;have HCE:=zq hcell
   have hi0:(n:Int)<=(c:Int):=by omega
   clear hn hPl hP hdl hdig hcell hr0;go_wp2_with fail;go_loop [11,12,55] (fun vv pp i=> ∃j:Nat,j<=n/\i=.int .i64 (j:Nat)/\vv=.int .u64 (decV (P.take j):Nat)/\pp=.int .u64 (pw j:Nat)) (fun _ _ i=>n-(intOf i).toNat)
   case atStart=>exact⟨0,Nat.zero_le _,rfl,rfl,rfl⟩
   case round=>
    obtain⟨j,hj,rfl,rfl,rfl⟩:=hrel;by_cases hlt:j<n
    ·obtain⟨x,hx⟩:∃x,P[j]?=some x:=⟨_,List.getElem?_eq_getElem (by have:=HPL.o;omega)⟩
     obtain⟨g',o',hao,e1⟩:=HCE.o j x hx
     cases hao
     have hx10:=HDG.o x (List.mem_of_getElem? hx);have hstep:=Ke hx;have hlt1:=U8 (ds:=P.take (j+1)) (fun y hy=>HDG.o y (List.mem_of_mem_take hy));have hlt2:=Cm (n:=(P.take (j+1)).length) (by rw[List.length_take];omega);have hp1:=Cm (n:=j+1) (by omega);obtain⟨m1,hm1⟩:=xq (decV (P.take j)*10)
     have hpw:pw (j+1)=pw j*10:=by unfold pw;rw[Nat.pow_succ]
     have hpw2:pw (j+1)<BB:=hp1
     have hw1:IntKind.u64.wrap ((decV (P.take j):Int)*10)=(m1:Int):=by unfold BB at*;rw[IntKind.wrap_u64];omega
     have hw2:IntKind.u64.wrap ((m1:Int)+(x:Int))=(decV (P.take (j+1)):Int):=by unfold BB at*;rw[IntKind.wrap_u64];omega
     have hw3:IntKind.u64.wrap ((pw j:Int)*10)=(pw (j+1):Int):=by unfold BB at*;rw[IntKind.wrap_u64];omega
     clear hx hstep hlt1 hlt2 hp1 hm1 hpw hpw2;go_wp2_with fail;exact⟨⟨j+1,by omega,by go_num,rfl,rfl⟩,by simp[intOf];omega⟩
    ·obtain rfl:j=n:=by omega
     have hpt:P.take j=P:=List.take_of_length_le (by have:=HPL.o;omega);rw[hpt]
     have hvb:decV P<BB:=by
      have h1:=U8 HDG.o;have h2:=Cm (n:=P.length) (by have:=HPL.o;omega);omega
     have hpb:pw j<BB:=Cm hn3;have HVB:=zq hvb;have HPB:=zq hpb;clear hpt hvb hpb hlt hj;go_wp2_with fail;refine(Qpz zs (pw j) _ _ (by omega) HPB.o HA.o.1).mono ?_;rintro e w2 ⟨v2,z2,rfl,a1,a2,a3,a4,a5⟩;have A1:=zq a1.1;have A2:=zq a2;have A3:=zq a3;have A5:=zq a5;have hz2:=a5.size;clear a1 a2 a3 a4 a5;go_wp2_with fail;refine(Hs z2 [decV P] _ _ _ (by have:=A3.o;omega) (by simp) (A1.o.alloc _) (Pd w2 (decV P) HVB.o)).mono ?_;rintro e w3 ⟨v3,z3,rfl,a1,a2,a3,a4,a5⟩;have B1:Hid (Fr w.heap.size w3 v3 z3):=a1.mono (by simp;omega)
     have B2:Hid (val z3=decV (ds.take (pos+j))):=by
      show _=_;rw[a2,A2.o,HVA.o,Qgh (by have:=HPR.o;omega),<-HPE.o];simp[val]
     have B4:=zq a4;have C5:Below wr.heap.size wr w3:=A5.o.trans (((Qq w2 _).trans (a5.mono (by simp))).mono hz2);have B5:Hid (Below w.heap.size w w3):=HB.o.trans (C5.mono hwz);have HD3:=zq (HD.o.below C5);clear a1 a2 a3 a4 a5 C5;by_cases hcn:c=j
     ·have HDA:Hid (RdD w3 (.slice (some ⟨g,o,none⟩) 0 0) (ds.drop (pos+j))):=by
       show RdD _ _ _;have:=HD3.o.dropAll (n:=j) (by rw[HDD.o];omega);rw[List.drop_drop]at this;exact this
      have hjr:rem<=j:=by omega
      go_wp2_with fail;have hfin:Qko ds w (.slice (some ⟨g,o,none⟩) 0 0) v3 w3:=⟨pos+j,0,_,0,z3,by have:=HPR.o;omega,rfl,HDA.o,B1.o,B2.o,B4.o,B5.o⟩;exact⟨hfin,by simp[szS];omega⟩
     ·have HDA:Hid (RdD w3 (.slice (some ⟨g,o+j,none⟩) (rem-j) (c-j)) (ds.drop (pos+j))):=by
       show RdD _ _ _;have:=HD3.o.drop (n:=j) (by rw[HDD.o];omega);rw[List.drop_drop,HDD.o]at this;exact this
      go_wp2_with fail;have hfin:Qko ds w (.slice (some ⟨g,o+j,none⟩) (rem-j) (c-j)) v3 w3:=⟨pos+j,rem-j,_,c-j,z3,by have:=HPR.o;omega,rfl,HDA.o,B1.o,B2.o,B4.o,B5.o⟩;exact⟨hfin,by simp[szS];omega⟩
theorem Hi:∀n,n<=1073741824->Ct n
 |0,_=>fun ds v w h _=>absurd h (Nat.not_lt_zero _)
 |n+1,hn=>fun ds v w h hv=>by
  by_cases h200:ds.length<=200
  ·exact Do ds v w h200 hv
  ·exact Ap n (Hi n (by omega)) (by omega) ds v w (by omega) (by omega) hv
theorem Qxe (ds:List Nat)(v:Value)(w:World)(hl:ds.length<1073741824)(hv:RdD w v ds):
  Calls Tryz.prog 252 #[v,.int .i64 10] w (Zc (decV ds) ds.length w):=Hi _ (Nat.le_refl _) ds v w hl hv
def RdW (w:World)(v:Value)(xs:List Nat):Prop:=True/\ ∃ao cap,v=.slice ao xs.length cap/\xs.length<=cap/\cap<=maxLen/\ok xs/\ ∀i x,xs[i]?=some x-> ∃g o,ao=some ⟨g,o,none⟩/\w.cell? ⟨g,o+i,none⟩=some (.int .u64 (x:Nat))
theorem Rd.weak {w:World}{v:Value}{xs:List Nat}(h:Rd w v xs):RdW w v xs:=⟨trivial,h.2⟩
theorem RdW.below {w w':World}{v:Value}{xs:List Nat}(h:RdW w v xs)(hb:Below w.heap.size w w'):RdW w' v xs:=by
 obtain⟨-,ao,E,rfl,I,J,K,O⟩:=h;refine⟨trivial,ao,E,rfl,I,J,K,fun i x hx=> ?_⟩;obtain⟨g,o,rfl,H⟩:=O i x hx;exact⟨g,o,rfl,(hb.cell (p:=⟨g,o+i,none⟩) (World.block_lt_of_cell? w _ H)).trans H⟩
end Go.Proofs.YtgfmiladfeoldaaGreatDoor
