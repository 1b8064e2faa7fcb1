import Derived.Test.YtgfmiladfeoldaaGreatDoorPk10
set_option linter.unusedSimpArgs false
set_option linter.unusedVariables false
set_option maxRecDepth 100000
set_option maxHeartbeats 16000000
namespace Go.Proofs.YtgfmiladfeoldaaGreatDoor
open ag
mutual
def bK:ae.Ex->Nat
 | .num n=>(ae.ar n).length
 | .name x=>x.length
 | .mat m=>(ae.bB m).length
 | .cpx l=>(ae.cP l).length
 | .neg a=>bK a
 | .turn a=>bK a
 | .add a b=>bK a+bK b
 | .sub a b=>bK a+bK b
 | .mul a b=>bK a+bK b
 | .pow a n=>bK a+(ae.ar n).length
 | .call x l=>x.length+P5 l
def P5:ae.aV->Nat
 | .nil=>0
 | .cons a l=>bK a+P5 l
end
def lL:ae.Ln->Nat
 | .nothing=>0
 | .lets x e=>x.length+bK e
 | .cmd x l=>x.length+P5 l
theorem J6 (b:Bool)(t:Bytes):(ae.par b t).length<=t.length+2:=by
 unfold ae.par;split
 ·simp
 omega
mutual
theorem V9:∀e:ae.Ex,e.pr.length+2<=bK e+10*e.size
 | .num n=>by simp only[ae.Ex.pr,bK,ae.Ex.size];omega
 | .name x=>by simp only[ae.Ex.pr,bK,ae.Ex.size];omega
 | .mat m=>by simp only[ae.Ex.pr,bK,ae.Ex.size];omega
 | .cpx l=>by simp only[ae.Ex.pr,bK,ae.Ex.size];omega
 | .neg a=>by
  have:=V9 a;have:=J6 (ae.Qy 4 0 a.op) a.pr
  simp only[ae.Ex.pr,bK,ae.Ex.size,aac,aaf,aaG];omega
 | .turn a=>by
  have:=V9 a;have:=J6 (ae.Qy 5 0 a.op) a.pr
  simp only[ae.Ex.pr,bK,ae.Ex.size,aac,aaf,aaG];omega
 | .add a b=>by
  have:=V9 a;have:=V9 b;have:=J6 (ae.Qy 6 0 a.op) a.pr;have:=J6 (ae.Qy 6 1 b.op) b.pr
  simp only[ae.Ex.pr,bK,ae.Ex.size,aac,aaf,aaG];omega
 | .sub a b=>by
  have:=V9 a;have:=V9 b;have:=J6 (ae.Qy 7 0 a.op) a.pr;have:=J6 (ae.Qy 7 1 b.op) b.pr
  simp only[ae.Ex.pr,bK,ae.Ex.size,aac,aaf,aaG];omega
 | .mul a b=>by
  have:=V9 a;have:=V9 b;have:=J6 (ae.Qy 8 0 a.op) a.pr;have:=J6 (ae.Qy 8 1 b.op) b.pr
  simp only[ae.Ex.pr,bK,ae.Ex.size,aac,aaf,aaG];omega
 | .pow a n=>by
  have:=V9 a;have:=J6 (ae.Qy 9 0 a.op) a.pr
  simp only[ae.Ex.pr,bK,ae.Ex.size,aac,aaf,aaG];omega
 | .call x l=>by have:=Qk2 l;simp only[ae.Ex.pr,bK,ae.Ex.size,aac,aaf,aaG];omega
theorem Qk2:∀l:ae.aV,l.pr.length<=P5 l+10*l.size
 | .nil=>aao _
 | .cons a l=>by have:=V9 a;have:=Qk3 l;simp only[ae.aV.pr,P5,ae.aV.size,aac];omega
theorem Qk3:∀l:ae.aV,l.dX.length<=P5 l+10*l.size
 | .nil=>aao _
 | .cons a l=>by have:=V9 a;have:=Qk3 l;simp only[ae.aV.dX,P5,ae.aV.size,aac,aaf,aaG];omega
end
theorem Qc6:∀n:ae.Ln,n.pr.length<=lL n+10*n.size
 | .nothing=>aao _
 | .lets x e=>by
  have:=V9 e
  simp only[ae.Ln.pr,lL,ae.Ln.size,aac,aaf,aaG];omega
 | .cmd x .nil=>by simp only[ae.Ln.pr,lL];omega
 | .cmd x (.cons a l)=>by have:=Qk2 (.cons a l);simp only[ae.Ln.pr,lL,ae.Ln.size,aac,aaf,aaG]at*;omega
def gI (l:List ae.Node):Nat:=(l.map fun n=>n.text.length).sum
theorem Jp (a b:List ae.Node):gI (a++b)=gI a+gI b:=by simp[gI]
theorem Vx (n:ae.Node):gI [n]=n.text.length:=by simp[gI]
mutual
theorem J5:∀(e:ae.Ex) (o:Nat),gI (e.flat o)=bK e
 | .num n,_=>by simp[ae.Ex.flat,bK,gI]
 | .name x,_=>by simp[ae.Ex.flat,bK,gI]
 | .mat m,_=>by simp[ae.Ex.flat,bK,gI]
 | .cpx l,_=>by simp[ae.Ex.flat,bK,gI]
 | .neg a,o=>by simp[ae.Ex.flat,bK,Jp,Vx,J5 a]
 | .turn a,o=>by simp[ae.Ex.flat,bK,Jp,Vx,J5 a]
 | .add a b,o=>by simp[ae.Ex.flat,bK,Jp,Vx,J5 a,J5 b]
 | .sub a b,o=>by simp[ae.Ex.flat,bK,Jp,Vx,J5 a,J5 b]
 | .mul a b,o=>by simp[ae.Ex.flat,bK,Jp,Vx,J5 a,J5 b]
 | .pow a n,o=>by simp[ae.Ex.flat,bK,Jp,Vx,J5 a]
 | .call x l,o=>by simp[ae.Ex.flat,bK,Jp,Vx,Gp l];omega
theorem Gp:∀(l:ae.aV) (o:Nat),gI (l.flat o)=P5 l
 | .nil,_=>rfl
 | .cons a l,o=>by simp[ae.aV.flat,P5,Jp,J5 a,Gp l]
end
theorem Qcw:∀n:ae.Ln,gI n.flat=lL n
 | .nothing=>rfl
 | .lets x e=>by simp[ae.Ln.flat,lL,Jp,Vx,J5];omega
 | .cmd x l=>by simp[ae.Ln.flat,lL,Jp,Vx,Gp];omega
def nI (l:List (Bool×Nat)):Nat:=(l.map fun x=>(ae.ar x.2).length).sum
theorem Qxi:∀R:List (List Bytes),((R.map (ae.Qb [32])).map List.length).sum<=(R.flatten.map List.length).sum+R.flatten.length
 | []=>aao _
 |a::R=>by have h1:=Qxi R;have h:=cK [32] a;have E:([32]:Bytes).length=1:=rfl;rw[E,aem]at h;simp only[abK,adY,aeR,ado,List.sum_append,aac];omega
theorem Qqp:∀l:List (Bool×Nat),((l.map ae.bg).map List.length).sum<=nI l+l.length
 | []=>aao _
 |x::l=>by
  have h1:=Qqp l
  have h:(ae.bg x).length<=(ae.ar x.2).length+1:=by
   unfold ae.bg;rw[aac]
   split<;>simp<;>omega
  have e1:nI (x::l)=(ae.ar x.2).length+nI l:=by simp[nI]
  rw[e1,abK,abK,adY,aaf];omega
theorem Rc {n:Nat}(h:n<=64):(ae.ar n).length<=2:=by
 unfold ae.ar;split
 ·simp
 rw[aay];exact ai.Wf (by omega)
theorem Qg9 {m:ae.cn}(h:ae.Ue m):(ae.bB m).length<=nI m.at_+8400:=by
 unfold ae.bB;obtain⟨E,H,J,-⟩:=h;split
 ·have:=Rc E
  have:=Rc H;simp only[aac,aaf,aaG];omega
 have I:(m.at_.map ae.bg).length=m.rows*m.aB:=by rw[aay,J]
 obtain⟨k1,k2⟩:=ae.Jn m.aB m.rows _ I;have k3:=Qxi (ae.Xq m.aB m.rows (m.at_.map ae.bg));rw[k2,I]at k3;have k4:=Qqp m.at_;have k5:=cK [59,32] ((ae.Xq m.aB m.rows (m.at_.map ae.bg)).map (ae.Qb [32]))
 have k6:(ae.Xq m.aB m.rows (m.at_.map ae.bg)).length=m.rows:=by have:=aa7 List.length k1;rw[aay,aa9]at this;exact this
 have K:([59,32]:Bytes).length=2:=rfl;rw[aay,k6,K]at k5;have O:m.rows*m.aB<=64*64:=ab7 E H;simp only[aac,aaf,aaG];omega
open Go.RowKit ai
def R6 (op:Int)(t:Bytes)(w:World)(e:Ending)(w':World):Prop:=e=.returned (.bool (ae.WV op t))/\Below w.heap.size w w'
theorem Qvz {t:Bytes}{k:Nat}(h:ae.Yg t=.error k):0<k:=by
 unfold ae.Yg at h
 cases hK:aw 1 (Qx t) with
 |error p=>rw[hK]at h;cases h;decide
 |ok ts=>
  rw[hK]at h;have E:=ae.Vn ((Qx t).length+1) (ts.length+3) (s:=⟨ts,0⟩) (aaa _) (aaa _)
  have H:ae.Good ts.length (iI ((Qx t).length+1) (ts.length+3) ⟨ts,0⟩):=ae.Good.bind E (fun a s hl=>by
   unfold ae.done;split
   ·exact ae.Zh a (by simp at hl;omega)
   exact ae.W8 _ _ _)
  change (match iI ((Qx t).length+1) (ts.length+3) ⟨ts,0⟩ with|none=>(.error 0:Except Nat ae.cn)|some (.error (_,k))=> .error (if k=2\/k=5 then k else 7)|some (.ok (m,_))=> .ok m)=_ at h
  rcases hL:iI ((Qx t).length+1) (ts.length+3) ⟨ts,0⟩ with- |(⟨c,j⟩|⟨m,s'⟩)<;>rw[hL]at h H
  ·exact H.elim
  ·have I:(if j=2\/j=5 then j else 7)=k:=by
    have:=h;simp only[Except.error.injEq]at this;exact this
   split at I<;>omega
  cases h
theorem Qb5 {l:List (List Nat)}:∀s∈l,s.length<=nT l:=by
 induction l with
 |nil=>intro s h;cases h
 |cons a l ih=>
  intro s h;rcases abY.1 h with rfl|h
  ·simp[nT]
  have:=ih s h;simp[nT]at this ⊢;omega
theorem Qyo {t:Bytes}{l:List (List Nat)}(h:ae.Zn t=some l)(ht:t.length<=67108864):l.length<=134217728/\(∀s∈l,s.length<=134217728)/\(ae.Qb [44,32] (l.map dL)).length<=70368744177664:=by
 unfold ae.Zn at h
 cases hK:aw 1 (Qx t) with
 |error p=>rw[hK]at h;cases h
 |ok ts=>
  rw[hK]at h;have J:=Fits.dG (l:=t) ht hK;simp only at h;split at h
  ·rename_i l' s' I
   cases h
   obtain⟨a,s,E,H⟩:=ae.Q7 I;have:=ae.C4 H
   cases this
   have k1:=Ep E;have k2:=Qz0 E;have k3:Lb ⟨ts,0⟩<=201326592:=J.2;simp only at k1 k2;refine⟨by omega,fun s hs=> ?_,Qbk (by omega) (by omega) (by omega)⟩;have:=Qb5 s hs;omega
  cases h
theorem Qbb (t:Bytes):(t.isEmpty)=(t==[]):=by cases t<;>rfl
theorem Ke (op:Int)(hop:op=1\/op=9)(t:Bytes)(kv:Value)(w:World)(ht:t.length<=67108864)(hs:SG w)(hsz:4<w.heap.size):Calls Tryz.prog 101 #[.agg #[.int .i64 op,.string ⟨t.toArray⟩,kv]] w (R6 op t w):=by
 have HV:Hid (ae.WV op t=ae.kD t):=by show _=_;unfold ae.WV;rw[if_pos hop]
 obtain⟨T,hT⟩:=xq (⟨t.toArray⟩:ByteArray)
 have fF:Hid (T.data.toList=t):=by show _=_;rw[hT]
 have bU:=zq (Qq w (.cells #[.int .i64 op,.string T,kv] 43));have o8:=zq (aaz w (.cells #[.int .i64 op,.string T,kv] 43));have HC:=zq (Qq2 t (w.alloc (.cells #[.int .i64 op,.string T,kv] 43)) ht (hs.below bU.o hsz) (by simp;omega));rw[<-hT]at HC ⊢;clear hs hT ht;rcases hop with rfl|rfl
 all_goals
  go_enter Tryz.func101,Tryz.ntmps101;go_wp2_with fail;refine HC.o.mono ?_;rintro e w1 ⟨rfl,hb⟩;have HB:=zq (Qz bU.o hb);clear hb;go_wp2_with fail;go_ret;exact⟨by rw[HV.o];rfl,HB.o⟩
theorem S7 (op:Int)(hop:op=2\/op=10\/op=11)(t:Bytes)(kv:Value)(w:World)(ht:t.length<=67108864)(hx:Lx w):Calls Tryz.prog 101 #[.agg #[.int .i64 op,.string ⟨t.toArray⟩,kv]] w (R6 op t w):=by
 have HV:Hid (ae.WV op t=ae.cF t):=by show _=_;unfold ae.WV;rw[if_neg (by omega),if_pos hop]
 obtain⟨T,hT⟩:=xq (⟨t.toArray⟩:ByteArray)
 have fF:Hid (T.data.toList=t):=by show _=_;rw[hT]
 have bU:=zq (Qq w (.cells #[.int .i64 op,.string T,kv] 43));have o8:=zq (aaz w (.cells #[.int .i64 op,.string T,kv] 43));have HC:=zq (Da t (w.alloc (.cells #[.int .i64 op,.string T,kv] 43)) ht (hx.below bU.o));rw[<-hT]at HC ⊢;clear hx hT ht;rcases hop with rfl|rfl|rfl
 all_goals
  go_enter Tryz.func101,Tryz.ntmps101;go_wp2_with fail;refine HC.o.mono ?_;rintro e w1 ⟨rfl,hb⟩;have HB:=zq (Qz bU.o hb);clear hb;go_wp2_with fail;go_ret;exact⟨by rw[HV.o];rfl,HB.o⟩
theorem Qva (t:Bytes)(kv:Value)(w:World)(ht:t.length<=67108864)(hx:Lx w):Calls Tryz.prog 101 #[.agg #[.int .i64 12,.string ⟨t.toArray⟩,kv]] w (R6 12 t w):=by
 have HV:Hid (ae.WV 12 t=(ae.cF t && t !=ae.lK)):=rfl;obtain⟨T,hT⟩:=xq (⟨t.toArray⟩:ByteArray)
 have fF:Hid (T.data.toList=t):=by show _=_;rw[hT]
 have bU:=zq (Qq w (.cells #[.int .i64 12,.string T,kv] 43));have o8:=zq (aaz w (.cells #[.int .i64 12,.string T,kv] 43));have HC:=zq (Da t (w.alloc (.cells #[.int .i64 12,.string T,kv] 43)) ht (hx.below bU.o));rw[<-hT]at HC ⊢;clear hx hT ht;go_enter Tryz.func101,Tryz.ntmps101;go_wp2_with fail;refine HC.o.mono ?_;rintro e w1 ⟨rfl,hb⟩;have HB:=zq (Qz bU.o hb)
 have d1:w1.cell? ⟨w.heap.size,1,none⟩=some (.string T):=by rw[aam _ _ 1 _ _ _ ((hb.block w.heap.size (by simp)).trans o8.o)];rfl
 clear hb;rcases hn:ae.cF t
 ·have HN:=zq hn
  clear hn;go_wp2_with fail;go_ret;exact⟨by rw[HV.o,HN.o];rfl,HB.o⟩
 have HN:=zq hn;clear hn;go_wp2_with fail;go_ret;exact⟨by rw[HV.o,HN.o,<-fF.o,<-adT];rfl,HB.o⟩
theorem Qzc (t:Bytes)(kv:Value)(w:World)(ht:t.length<=67108864)(hx:Lx w)(hs:SG w)(hsz:4<w.heap.size):Calls Tryz.prog 101 #[.agg #[.int .i64 3,.string ⟨t.toArray⟩,kv]] w (R6 3 t w):=by
 have HV:Hid (ae.WV 3 t=ae.im t):=rfl;obtain⟨T,hT⟩:=xq (⟨t.toArray⟩:ByteArray)
 have fF:Hid (T.data.toList=t):=by show _=_;rw[hT]
 have bU:=zq (Qq w (.cells #[.int .i64 3,.string T,kv] 43));have o8:=zq (aaz w (.cells #[.int .i64 3,.string T,kv] 43));have se:=zq (hs.below bU.o hsz)
 have oT:4<(w.alloc (.cells #[.int .i64 3,.string T,kv] 43)).heap.size:=by simp;omega
 have HC:=zq (Qxp t (w.alloc (.cells #[.int .i64 3,.string T,kv] 43)) ht (hx.below bU.o) se.o oT);rw[<-hT]at HC ⊢;clear hs hx hT ht;go_enter Tryz.func101,Tryz.ntmps101;go_wp2_with fail;refine HC.o.mono ?_;rintro e w1 hn;unfold R0 at hn
 cases hK:ae.Yg t with
 |error k=>
  rw[hK]at hn;obtain⟨rfl,hb⟩:=hn
  have HW:Hid (ae.im t=false):=by show _=_;unfold ae.im;rw[hK]
  have bF:0<k:=Qvz hK
  have fg:((k:Int) !=0)=true:=by simp;omega
  have HB:=zq (fun b=>(Qz bU.o hb).alloc (aan bU.o.size hb.size) b);clear hb hK bF;go_wp2_with fail;go_ret
  exact⟨by rw[HV.o,HW.o];rfl,HB.o _⟩
 |ok m=>
  rw[hK]at hn;obtain⟨av,rfl,hb,hi⟩:=hn
  have HW:Hid (ae.im t=(ae.bB m==t)):=by show _=_;unfold ae.im;rw[hK]
  have hm:=ae.Qxw hK;have HT:=zq (Qyz m hm.2.2.2);have py:=Qz bU.o hb;have hlt:=aan bU.o.size hb.size;have hg1:=(hb.block w.heap.size (by simp)).trans o8.o;have ig:w.heap.size<w1.heap.size:=(aal.1 hg1).1;have WU:=zq (se.o.below hb oT);have HI:=zq hi;have HM:=zq hm;obtain⟨ao,cap,rfl,-⟩:=hi;obtain⟨ln,fh⟩:=xq m.at_.length;rw[<-fh]at HI ⊢;obtain⟨w2,hw2⟩:∃w2,w2=w1.alloc (.cells #[.int .i64 (m.rows:Nat),.int .i64 (m.aB:Nat),.slice ao ln cap] 47):=⟨_,rfl⟩
  have hb2:Below w1.heap.size w1 w2:=by rw[hw2];exact Qq _ _
  have ji:Hid (Below w.heap.size w w2):=by show Below _ _ _;rw[hw2];exact py.alloc hlt _
  have hg2:=(hb2.block w.heap.size ig).trans hg1;have eE:4<w1.heap.size:=aaj oT hb.size;have hl2:w.heap.size<w2.heap.size:=aaj ig hb2.size;have ml:=zq (Qmx m.rows m.aB m.at_ (.slice ao ln cap) w2 (WU.o.below hb2 eE) (HI.o.below hb2) HM.o.1 HM.o.2.1 HM.o.2.2.1);have fE:=zq hg2;clear hb hK hm py hg1 fh hb2 hg2;go_wp2_with fail;rw[<-hw2];clear hw2;refine ml.o.mono ?_;rintro e w3 ⟨rfl,hb3⟩;have aS:=zq (Qz ji.o hb3)
  have d1:w3.cell? ⟨w.heap.size,1,none⟩=some (.string T):=by rw[aam _ _ 1 _ _ _ ((hb3.block w.heap.size hl2).trans fE.o)];rfl
  clear hb3;go_wp2_with fail;go_ret;exact⟨by rw[HV.o,HW.o,<-HT.o,<-fF.o,<-adT];rfl,aS.o⟩
theorem Qzf (t:Bytes)(kv:Value)(w:World)(ht:t.length<=67108864)(hx:Lx w)(hs:SG w)(hsz:4<w.heap.size):Calls Tryz.prog 101 #[.agg #[.int .i64 13,.string ⟨t.toArray⟩,kv]] w (R6 13 t w):=by
 have HV:Hid (ae.WV 13 t=ae.fI t):=rfl;obtain⟨T,hT⟩:=xq (⟨t.toArray⟩:ByteArray)
 have fF:Hid (T.data.toList=t):=by show _=_;rw[hT]
 have bU:=zq (Qq w (.cells #[.int .i64 13,.string T,kv] 43));have o8:=zq (aaz w (.cells #[.int .i64 13,.string T,kv] 43));have se:=zq (hs.below bU.o hsz)
 have oT:4<(w.alloc (.cells #[.int .i64 13,.string T,kv] 43)).heap.size:=by simp;omega
 have HC:=zq (K7 t (w.alloc (.cells #[.int .i64 13,.string T,kv] 43)) ht (hx.below bU.o) se.o oT);have IK:=zq ht;rw[<-hT]at HC ⊢;clear hs hx hT ht;go_enter Tryz.func101,Tryz.ntmps101;go_wp2_with fail;refine HC.o.mono ?_;rintro e w1 hn;unfold Hd at hn
 cases hK:ae.Zn t with
 |none=>
  rw[hK]at hn;obtain⟨ao,n,cap,rfl,hb⟩:=hn
  have HW:Hid (ae.fI t=false):=by show _=_;unfold ae.fI;rw[hK]
  have HB:=zq (Qz bU.o hb);clear hb hK;go_wp2_with fail;go_quiet (fail);go_wp2_with fail;go_ret
  exact⟨by rw[HV.o,HW.o];rfl,Qz HB.o (Qs w1 _)⟩
 |some l=>
  rw[hK]at hn;obtain⟨lv,dS,rfl,hb,hi⟩:=hn
  have HW:Hid (ae.fI t=(ae.cP l==t)):=by show _=_;unfold ae.fI;rw[hK]
  obtain⟨q1,q2,q3⟩:=Qyo hK IK.o;have ml:=zq (fun w2 (hb2:Below w1.heap.size w1 w2)=>Qgj l lv w2 ((se.o.below hb oT).below hb2 (aaj oT hb.size)) (hi.crd.below hb2) q1 q2 q3);obtain⟨ao,cap,hv2,-,-,-⟩:=Qj hi.own;obtain⟨ln,fh⟩:=xq dS.length;rw[<-fh]at hv2;have HB:=zq (Qz bU.o hb);have hg1:=(hb.block w.heap.size (by simp)).trans o8.o;have ig:w.heap.size<w1.heap.size:=(aal.1 hg1).1
  have hc1:w1.cell? ⟨w.heap.size,1,none⟩=some (.string T):=by rw[aam _ _ 1 _ _ _ hg1];rfl
  subst hv2;clear hb hK hi q1 q2 q3 fh hg1;go_wp2_with fail
  go_region_held3 (fun w'=>w'.cell? ⟨w.heap.size,1,none⟩=some (.string T))
   (first
    |go_keep
    |exact(hb2.cell (p:=⟨w.heap.size,1,none⟩) ig).trans hc1)
   (first
    |(go_at_call 67;refine(ml.o _ (Qs w1 _)).mono ?_;rintro e w2 ⟨rfl,hb2⟩))
  have aD:Hid (Below w.heap.size w w2):=by
   refine Qz HB.o ?_
   first|exact hb2|exact(Qs w1 1).trans hb2
  clear hb2;go_wp2_with fail;go_ret;exact⟨by rw[HV.o,HW.o,<-fF.o,<-adT];rfl,aD.o⟩
theorem Ap (op:Int)(h1:op≠1)(h2:op≠2)(h3:op≠3)(h9:op≠9)(h10:op≠10)(h11:op≠11)(lr:op≠12)(nO:op≠13)(t:Bytes)(kv:Value)(w:World):Calls Tryz.prog 101 #[.agg #[.int .i64 op,.string ⟨t.toArray⟩,kv]] w (R6 op t w):=by
 have HV:Hid (ae.WV op t=(t==[])):=by show _=_;unfold ae.WV;rw[if_neg (by omega),if_neg (by omega),if_neg lr,if_neg h3,if_neg nO]
 obtain⟨T,hT⟩:=xq (⟨t.toArray⟩:ByteArray)
 have fF:Hid (T.data.toList=t):=by show _=_;rw[hT]
 have bU:=zq (Qq w (.cells #[.int .i64 op,.string T,kv] 43));have o8:=zq (aaz w (.cells #[.int .i64 op,.string T,kv] 43));rw[<-hT];clear hT
 have e1:(op==1)=false:=by simp[h1]
 have e2:(op==2)=false:=by simp[h2]
 have e3:(op==3)=false:=by simp[h3]
 have e9:(op==9)=false:=by simp[h9]
 have e10:(op==10)=false:=by simp[h10]
 have e11:(op==11)=false:=by simp[h11]
 have e12:(op==12)=false:=by simp[lr]
 have e13:(op==13)=false:=by simp[nO]
 clear h1 h2 h3 h9 h10 h11 lr nO;go_enter Tryz.func101,Tryz.ntmps101;go_wp2_with fail;go_ret;exact⟨by rw[HV.o,<-fF.o,<-Qbb,<-adT];rfl,bU.o⟩
theorem Qzb (op:Int)(t:Bytes)(kv:Value)(w:World)(ht:t.length<=67108864)(hx:Lx w)(hs:SG w)(hsz:4<w.heap.size):Calls Tryz.prog 101 #[.agg #[.int .i64 op,.string ⟨t.toArray⟩,kv]] w (R6 op t w):=by
 by_cases h1:op=1
 ·exact Ke op (.inl h1) t kv w ht hs hsz
 by_cases h9:op=9
 ·exact Ke op (.inr h9) t kv w ht hs hsz
 by_cases h2:op=2
 ·exact S7 op (.inl h2) t kv w ht hx
 by_cases h10:op=10
 ·exact S7 op (.inr (.inl h10)) t kv w ht hx
 by_cases h11:op=11
 ·exact S7 op (.inr (.inr h11)) t kv w ht hx
 by_cases lr:op=12
 ·subst lr;exact Qva t kv w ht hx
 by_cases h3:op=3
 ·subst h3;exact Qzc t kv w ht hx hs hsz
 by_cases nO:op=13
 ·subst nO;exact Qzf t kv w ht hx hs hsz
 exact Ap op h1 h2 h3 h9 h10 h11 lr nO t kv w
theorem Ka {w w':World}{R k n:Nat}{e:TypeId}{v:Value}{cs:List Value}(h:w.ownsRow (R+1) e k v n cs)(hw:Wr R none w w'):w'.ownsRow (R+1) e k v n cs:=by
 refine⟨h.1,?_⟩;rcases h.2 with O|⟨g,I,J,rfl,K,E,H⟩
 ·exact .inl O
 exact .inr ⟨g,I,J,rfl,K,(hw.block g (aal.1 E).1 (by omega) (by simp)).trans E,H⟩
structure dI (w:World) (R:Nat) (tv bv:Value) (out:Bytes) (o m:Nat):Prop where
 blk:∃av,(av=.pointer none\/av=.pointer (some ⟨R,1,none⟩))/\w.heap[R]?=some (.cells #[tv,av,bv,.int .i64 (o:Nat),.int .i64 (m:Nat)] 92 (0,0))
 own:w.ownsRow (R+1) 5 1 bv out.length (gJ out)
 le:o<=m
theorem dI.lt {w:World}{R:Nat}{tv bv:Value}{out:Bytes}{o m:Nat}(h:dI w R tv bv out o m):R<w.heap.size:=by obtain⟨av,-,E⟩:=h.blk;exact(aal.1 E).1
theorem dI.gt {w:World}{R:Nat}{tv bv:Value}{out:Bytes}{o m:Nat}(h:dI w R tv bv out o m):∀q,bv.ownBlock=some q->R<q:=fun q hq=>by have:=h.own.lt q hq;omega
theorem dI.cells {w:World}{R:Nat}{tv bv:Value}{out:Bytes}{o m:Nat}(h:dI w R tv bv out o m):w.cell? ⟨R,0,none⟩=some tv/\w.cell? ⟨R,3,none⟩=some (.int .i64 (o:Nat))/\w.cell? ⟨R,4,none⟩=some (.int .i64 (m:Nat)):=by
 obtain⟨av,-,E⟩:=h.blk
 refine⟨?_,?_,?_⟩<;>rw[aam w R _ _ _ _ E]<;>rfl
theorem dI.eD {w:World}{R:Nat}{tv bv:Value}{out:Bytes}{o m:Nat}(h:dI w R tv bv out o m)(k:Nat):w.frozen? ⟨R,k,none⟩=false:=by obtain⟨av,-,E⟩:=h.blk;exact aaH w R k _ _ E
theorem dI.below {w w':World}{R:Nat}{tv bv:Value}{out:Bytes}{o m:Nat}(h:dI w R tv bv out o m)(hb:Below w.heap.size w w'):dI w' R tv bv out o m:=by
 obtain⟨av,H,E⟩:=h.blk
 exact⟨⟨av,H,(hb.block R h.lt).trans E⟩,h.own.kept (row:=none) ⟨hb.os,hb.tape,hb.output,hb.size,fun k hk _=>hb.block k hk⟩ (by cases bv.ownBlock<;>simp),h.le⟩
def kI (R:Nat)(tv bv:Value)(out:Bytes)(o m:Nat)(v:Value)(w:World)(e:Ending)(w':World):Prop:=
 e=.returned v/\ ∃bv',dI w' R tv bv' out o m/\Wr R bv.ownBlock w w'/\Mv w bv.ownBlock bv'.ownBlock
theorem dI.PA {w:World}{R:Nat}{tv bv:Value}{out:Bytes}{o m o':Nat}(h:dI w R tv bv out o m)(hl:o'<=m):dI (w.setCell ⟨R,3,none⟩ (.int .i64 (o':Nat))) R tv bv out o' m/\Wr R none w (w.setCell ⟨R,3,none⟩ (.int .i64 (o':Nat))):=by obtain⟨av,I,H⟩:=h.blk;have E:=aas w R 3 _ 92 (.int .i64 (o':Nat)) H;exact⟨⟨⟨av,I,E.trans (by simp)⟩,ad6 h.own (by simp) _,hl⟩,Wr.aI w 3 _⟩
theorem dI.O9 {w:World}{R:Nat}{tv bv:Value}{out:Bytes}{o1 m m':Nat}(bA:∃av,(av=.pointer none\/av=.pointer (some ⟨R,1,none⟩))/\w.heap[R]?=some (.cells #[tv,av,bv,.int .i64 (o1:Nat),.int .i64 (m:Nat)] 92 (0,0)))(hown:w.ownsRow (R+1) 5 1 bv out.length (gJ out))(hl:o1<=m'):dI (w.setCell ⟨R,4,none⟩ (.int .i64 (m':Nat))) R tv bv out o1 m'/\Wr R none w (w.setCell ⟨R,4,none⟩ (.int .i64 (m':Nat))):=by obtain⟨av,E,bA⟩:=bA;have h:=aas w R 4 _ 92 (.int .i64 (m':Nat)) bA;exact⟨⟨⟨av,E,h.trans (by simp)⟩,ad6 hown (by simp) _,hl⟩,Wr.aI w 4 _⟩
theorem Tryz.xW:(Tryz.prog.info? 90).map (·.size)=some 2:=by kernel_rfl
theorem Tryz.xQ:liesAt Tryz.prog Tryz.prog.depth 92 (5 / Tryz.prog.cellsOf 92) 1 90 1=true:=by kernel_rfl
theorem Dj (R:Nat)(tv av bv ov mv:Value)(w:World)(ha:av=.pointer none\/av=.pointer (some ⟨R,1,none⟩))(hb:w.heap[R]?=some (.cells #[tv,av,bv,ov,mv] 92 (0,0))):Calls Tryz.prog 165 #[.pointer (some ⟨R,1,none⟩)] w fun e w'=>e=.returned (.tuple #[])/\w'.heap[R]?=some (.cells #[tv,.pointer (some ⟨R,1,none⟩),bv,ov,mv] 92 (0,0))/\Wr R none w w':=by
 obtain⟨j,hj,hjs⟩:=aee.1 Tryz.xW
 have h0:w.cell? ⟨R,1,none⟩=some av:=by rw[aam w R _ _ _ _ hb];rfl
 rcases ha with rfl|rfl
 ·have aU:w.shape? R=some (92,5):=by simp[World.shape?,hb]
  have hfz:w.frozen? ⟨R,1,none⟩=false:=aaH w R 1 _ _ hb;have HB:=zq hb;clear hb;go_enter Tryz.func165,Tryz.ntmps165;go_wp2_with fail;rw[Lib.run_to_unsafe w ⟨R,1,none⟩ Tryz.underlying87 Tryz.underlying210 hj (by rw[hjs];decide) aU (by show 1<5;decide)];simp only[Result.andThen];rw[Oper.upon_value];go_wp2_with fail;rw[run_callFunc_extern Tryz.func212 (by kernel_rfl) (by kernel_rfl) (by kernel_rfl) (e:=Extern.AbiNoEscape.same) (by kernel_rfl)];rw[Lib.run_noEscape];simp only[Result.andThen];rw[Oper.upon_value];go_wp2_with fail;rw[Lib.run_from_unsafe w ⟨R,1,none⟩ Tryz.underlying210 Tryz.underlying87 hj aU Tryz.xQ];simp only[Result.andThen];rw[Oper.upon_value];go_wp2_with fail;go_end0;exact⟨rfl,(aas w R 1 _ 92 _ HB.o).trans (by simp),Wr.aI w 1 _⟩
 have HB:=zq hb;clear hb;go_enter Tryz.func165,Tryz.ntmps165;go_wp2_with fail;rw[Lib.run_neq_ptr_same w _ Tryz.underlying87 hj];go_wp2_with fail;go_end0;exact⟨rfl,HB.o,Wr.refl _ _ _⟩
theorem Vu (R:Nat)(tv bv:Value)(out:Bytes)(o m:Nat)(c:UInt8)(w:World)(h:dI w R tv bv out o m)(hl:out.length<=1099511627776):Calls Tryz.prog 104 #[.pointer (some ⟨R,1,none⟩),.int .u8 (c.toNat:Nat)] w (kI R tv bv (out++[c]) o m .nilIface w):=by
 obtain⟨i0,hi,hz0,hz1,hz2⟩:=abO Tryz.jf;have HS:=zq h;have aT:=h.lt;clear h;obtain⟨av,ha,hb⟩:=HS.o.blk;have HB:=zq hb;clear hb;go_enter Tryz.func104,Tryz.ntmps104;go_wp2_with fail;refine(Dj R tv av bv _ _ _ ha HB.o).mono ?_;rintro e w1 ⟨rfl,k1,k2⟩
 have c2:w1.cell? ⟨R,2,none⟩=some bv:=by rw[aam w1 R _ _ _ _ k1];rfl
 have hown:=Ka HS.o.own k2;have HOWN:=zq (hown.alloc (.cells #[.int .u8 ((c.toNat:Nat):Int)] 5));have hR1:=k2.size;obtain⟨nl,eK⟩:=xq out.length;rw[<-eK]at HOWN hl;have dH:=zq eK;have K1:=zq k1;have K2:=zq k2
 have hcs:(gJ out).length=nl:=by rw[Qk9,eK]
 clear k1 k2 hown eK;go_wp2_with (at_builtin;refine adr _ rfl _ _ 88 rfl (R+1) 5 i0 (.int .u8 0) 1 1 Tryz.underlying88 hi hz0 hz1 hz2 rfl (by omega) bv nl (gJ out) rfl HOWN.o ⟨w1.heap.size,0,none⟩ 1 1 [.int .u8 (c.toNat:Nat)] rfl rfl (ag.Qh _ _ _ _ rfl) (by simp[Value.oneCell']) (by omega) (by unfold maxLen;omega) (by omega) (by simp;omega) (w1.heap.size+1) (by simp) ?_);intro g cap w2 hown' hgrow hat cT
 have hne:some R≠bv.ownBlock:=fun e=>by have:=HS.o.gt R e.symm;omega
 have hb2:w2.heap[R]?=some (.cells #[tv,.pointer (some ⟨R,1,none⟩),bv,.int .i64 (o:Nat),.int .i64 (m:Nat)] 92 (0,0)):=by rw[hgrow.block R (by simp;omega) hne,Lib.alloc_old w1 _ R (by omega)];exact K1.o
 have f2:w2.frozen? ⟨R,2,none⟩=false:=aaH w2 R 2 _ _ hb2
 have d2:w2.cell? ⟨R,2,none⟩=some bv:=by rw[aam w2 R _ _ _ _ hb2];rfl
 have aD:=zq hb2;have ou:=zq hown';have HG:=zq hgrow;have fS:=zq hat;clear hb2 hown' hgrow hat;go_wp2_with fail;go_ret;have aY:=aas w2 R 2 _ 92 (.slice (some ⟨g,0,none⟩) (nl+1) cap) aD.o;refine⟨rfl,.slice (some ⟨g,0,none⟩) (nl+1) cap,⟨⟨.pointer (some ⟨R,1,none⟩),.inr rfl,aY.trans (by simp)⟩,?_,HS.o.le⟩,?_,?_⟩
 ·have e1:(out++[c]).length=nl+1:=by rw[aac,dH.o];rfl
  rw[e1,Ak];refine ad6 ?_ (by simp) _;exact ou.o
 ·exact(((K2.o.weak _).trans (Mv.refl _ _) (Wr.af (Qq w1 _))).trans (Mv.refl _ _) (Wr.cV HG.o)).trans (Mv.refl _ _) (Wr.aI w2 2 _)
 intro k hk
 cases hk
 rcases fS.o with h1|h1
 ·exact .inl h1
 right;have h2:g=w1.heap.size+1:=h1;show w.heap.size<=g;have:=K2.o.size;omega
theorem Sr {P:Program}(base:Nat)(t u ty e:TypeId)(i:TypeInfo)(ht:P.underlying t=some (.slice e))(hu:P.underlying u=some .string)(hi:P.info? e=some i)(hz:i.zero=some (.int .u8 0))
  (hsize:i.size=1) (hby:i.bytes=1) (w:World) (v:Value) (n:Nat) (xs:List Value) (hown:w.ownsRow base e 1 v n xs) (s:ByteArray) (hbytes:n+s.size<=140737488355328) (hbase:base<=w.heap.size):
  ∃v' w',(Builtin.append_ #[t,u] ty #[v,.string s]).run P w=.ok v' w'/\w'.ownsRow base e 1 v' (n+s.size) (xs++Lib.strCells s)/\w.grownBy w' v.ownBlock/\(v'.ownBlock=v.ownBlock\/v'.ownBlock=some w.heap.size):=by
 obtain⟨v',w',E,U,Z,h3⟩:=Lib.run_append_own_string (P:=P) w base t u ty e i ht hu hi hz hsize hby v n xs hown s (by unfold maxLen;omega) hbytes hbase;refine⟨v',w',E,U,Z,?_⟩
 have O:xs.length=n:=by simpa using hown.1
 rcases hown.2 with ⟨rfl,rfl⟩|⟨g,H,J,rfl,a3,hg,a5,a4,K,T⟩
 ·by_cases hm:s.size=0
  ·left;rw[h3.2 ⟨rfl,hm⟩]
  have h:=run_append_nil_string (P:=P) w t u ty e i (.int .u8 0) ht hu hi hz s (by omega) (by omega) (by rw[hby];omega);rw[h]at E
  cases E
  right;rfl
 by_cases hroom:n+s.size<=H
 ·have a1:J.size=H:=by simpa using K
  have h:=Lib.run_append_room_string (P:=P) w t u ty e i ht hu hi hsize g n H J hg s hroom (by omega);rw[h]at E
  cases E
  left;rfl
 have I:∀j u,xs[j]?=some u->w.cell? ((⟨g,0,none⟩:Addr).add j)=some u:=hown.cells (g:=g) rfl;have h:=Lib.run_append_grow_string (P:=P) w t u ty e i (.int .u8 0) ht hu hi hz ⟨g,0,none⟩ n H xs (by rw[hsize];simpa using O) I s (by omega) (by omega) (by rw[hby];exact growslice_fits (by omega) (by omega));rw[h]at E
 cases E
 right;rfl
theorem Ya {P:Program}{w:World}{ops:Array Oper}{rest:List Oper}{o:Oper}{a:Act}{Q:Exit->Act->World->Prop}(hgd:o.guard=none)(sl x:Operand)(t u:TypeId)
  (ho:o.op=.call {callee:=.builtin .append,args:= #[sl,x],argTypes:= #[t,u]})
  (base:Nat) (e:TypeId) (i:TypeInfo) (ht:P.underlying t=some (.slice e)) (hu:P.underlying u=some .string) (hi:P.info? e=some i) (hz:i.zero=some (.int .u8 0))
  (hsize:i.size=1) (hby:i.bytes=1)
  (v:Value) (n:Nat) (xs:List Value) (hs:a.eval sl=v) (hown:w.ownsRow base e 1 v n xs) (s:ByteArray) (hx:a.eval x=.string s)
  (hbytes:n+s.size<=140737488355328) (hbase:base<=w.heap.size)
  (h:∀v' w',w'.ownsRow base e 1 v' (n+s.size) (xs++Lib.strCells s)->w.grownBy w' v.ownBlock->(v'.ownBlock=v.ownBlock\/v'.ownBlock=some w.heap.size)->wpList P ops Q rest (a.put o.dst v') w'):wpList P ops Q (o::rest) a w:=by
 refine wpList_plain hgd fun K hK=> ?_;obtain⟨v',w',J,E,H,I⟩:=Sr (P:=P) base t u o.type e i ht hu hi hz hsize hby w v n xs hown s hbytes hbase;unfold Oper.wp execOp;simp only[ho,resolve,invoke,builtin,Sem.run_bind,Sem.run_pure,Result.andThen_ok,List.map_toArray,abK,aex,hs,hx,J];exact hK _ _ (h v' w' E H I)
theorem Wp (s:Bytes):Lib.strCells ⟨s.toArray⟩=gJ s:=by simp[Lib.strCells,gJ]
theorem Z7 (R:Nat)(tv bv:Value)(out:Bytes)(o m:Nat)(t:Bytes)(w:World)(h:dI w R tv bv out o m)(hl:out.length<=1099511627776)(ht:t.length<=1099511627776):Calls Tryz.prog 105 #[.pointer (some ⟨R,1,none⟩),.string ⟨t.toArray⟩] w (kI R tv bv (out++t) o m (.tuple #[.int .i64 (t.length:Nat),.nilIface]) w):=by
 obtain⟨i0,hi,hz0,hz1,hz2⟩:=abO Tryz.jf;have HS:=zq h;have aT:=h.lt;clear h;obtain⟨av,ha,hb⟩:=HS.o.blk;have HB:=zq hb;obtain⟨T,hT⟩:=xq (⟨t.toArray⟩:ByteArray)
 have fL:T.size=t.length:=by rw[hT];rfl
 have HT:=zq hT;rw[<-hT];clear hb hT;go_enter Tryz.func105,Tryz.ntmps105;go_wp2_with fail;refine(Dj R tv av bv _ _ _ ha HB.o).mono ?_;rintro e w1 ⟨rfl,k1,k2⟩
 have c2:w1.cell? ⟨R,2,none⟩=some bv:=by rw[aam w1 R _ _ _ _ k1];rfl
 have HOWN:=zq (Ka HS.o.own k2);have hR1:=k2.size;obtain⟨nl,eK⟩:=xq out.length;rw[<-eK]at HOWN hl;have dH:=zq eK;have K1:=zq k1;have K2:=zq k2;clear k1 k2 eK;go_wp2_with (at_builtin;go_loud (refine Ya rfl _ _ 88 9 rfl (R+1) 5 i0 Tryz.underlying88 Tryz.underlying9 hi hz0 hz1 hz2 bv nl (gJ out) rfl HOWN.o T rfl ?d1 ?d2 ?_))
 case d1=>omega
 case d2=>omega
 intro v' w2 hown' hgrow hat
 have hne:some R≠bv.ownBlock:=fun e=>by have:=HS.o.gt R e.symm;omega
 have hb2:w2.heap[R]?=some (.cells #[tv,.pointer (some ⟨R,1,none⟩),bv,.int .i64 (o:Nat),.int .i64 (m:Nat)] 92 (0,0)):=by rw[hgrow.block R (by omega) hne];exact K1.o
 have f2:w2.frozen? ⟨R,2,none⟩=false:=aaH w2 R 2 _ _ hb2
 have d2:w2.cell? ⟨R,2,none⟩=some bv:=by rw[aam w2 R _ _ _ _ hb2];rfl
 obtain⟨ao,n',cap,rfl⟩:∃ao n' cap,v'=.slice ao n' cap:=by
  rcases hown'.2 with ⟨hv,_⟩|⟨g,cap,cur,hv,_⟩
  ·exact⟨_,_,_,hv⟩
  exact⟨_,_,_,hv⟩
 have aD:=zq hb2;have ou:=zq hown';have HG:=zq hgrow;have fS:=zq hat;clear hb2 hown' hgrow hat;go_wp2_with fail;go_ret2;have aY:=aas w2 R 2 _ 92 (.slice ao n' cap) aD.o;refine⟨rfl,.slice ao n' cap,⟨⟨.pointer (some ⟨R,1,none⟩),.inr rfl,aY.trans (by simp)⟩,?_,HS.o.le⟩,?_,?_⟩
 ·have e1:(out++t).length=nl+t.length:=by rw[aac,dH.o]
  rw[e1,Ak,<-Wp t,<-HT.o];refine ad6 ?_ (by simp) _;exact ou.o
 ·exact((K2.o.weak _).trans (Mv.refl _ _) (Wr.cV HG.o)).trans (Mv.refl _ _) (Wr.aI w2 2 _)
 intro k hk;have hk':(Value.slice ao n' cap).ownBlock=some k:=hk
 rcases fS.o with h1|h1<;>rw[h1]at hk'
 ·exact .inl hk'
 right;cases hk';exact K2.o.size
theorem Qw7 (op side part:Nat)(w:World):Calls Tryz.prog 163 #[.int .i64 (op:Nat),.int .i64 (side:Nat),.int .i64 (part:Nat)] w fun e w'=>e=.returned (.bool (ae.Qy op side part))/\w=w':=by
 have s1:(((side:Nat):Int)==1)=(side==1):=by rw[abA];simp;omega
 have p4:(((part:Nat):Int)==4)=(part==4):=by rw[abA];simp;omega
 have p9:(((part:Nat):Int)==9)=(part==9):=by rw[abA];simp;omega
 obtain⟨S,hS⟩:=xq (ae.P7 part);obtain⟨Q,hQ⟩:=xq (ae.Sf part);have HS:=zq hS;have HQ:=zq hQ;clear hS hQ;by_cases SB:op=6\/op=7
 ·have HV:Hid (ae.Qy op side part=(side==1 && S)):=by
   show _=_;unfold ae.Qy;rw[HS.o]
   rcases SB with rfl|rfl<;>rfl
  cases hs:(side==1)<;>rw[hs]at s1<;>rcases SB with rfl|rfl
  all_goals
   have iH:=HV;rw[hs]at iH;clear HV hs;go_enter Tryz.func163,Tryz.ntmps163;go_wp2_with fail
   try (refine(Sa part _).mono ?_;rintro e w1 ⟨rfl,rfl⟩;rw[<-HS.o];go_wp2_with fail)
   go_ret;exact⟨by rw[iH.o];rfl,rfl⟩
 obtain⟨h6,h7⟩:=not_or.1 SB
 have d6:(((op:Nat):Int)==6)=false:=by simp;omega
 have d7:(((op:Nat):Int)==7)=false:=by simp;omega
 by_cases h8:op=8
 ·subst h8
  have HV:Hid (ae.Qy 8 side part=(S||(side==1 && Q))):=by show _=_;unfold ae.Qy;rw[HS.o,HQ.o];rfl
  cases S
  ·cases hs:(side==1)<;>rw[hs]at s1
   all_goals
    have iH:=HV;rw[hs]at iH;clear HV hs;go_enter Tryz.func163,Tryz.ntmps163;go_wp2_with fail;refine(Sa part _).mono ?_;rintro e w1 ⟨rfl,rfl⟩;rw[<-HS.o];go_wp2_with fail
    try (refine(Tn part _).mono ?_;rintro e w1 ⟨rfl,rfl⟩;rw[<-HQ.o];go_wp2_with fail)
    go_ret;exact⟨by rw[iH.o];rfl,rfl⟩
  go_enter Tryz.func163,Tryz.ntmps163;go_wp2_with fail;refine(Sa part _).mono ?_;rintro e w1 ⟨rfl,rfl⟩;rw[<-HS.o];go_wp2_with fail;go_ret;exact⟨by rw[HV.o];rfl,rfl⟩
 have d8:(((op:Nat):Int)==8)=false:=by simp;omega
 by_cases h4:op=4
 ·subst h4
  have HV:Hid (ae.Qy 4 side part=Q):=by show _=_;unfold ae.Qy;rw[HQ.o];rfl
  go_enter Tryz.func163,Tryz.ntmps163;go_wp2_with fail;refine(Tn part _).mono ?_;rintro e w1 ⟨rfl,rfl⟩;rw[<-HQ.o];go_wp2_with fail;go_ret;exact⟨by rw[HV.o];rfl,rfl⟩
 have d4:(((op:Nat):Int)==4)=false:=by simp;omega
 by_cases kM:op=9\/op=5
 ·have HV:Hid (ae.Qy op side part=(Q||part==4||part==9)):=by
   show _=_;unfold ae.Qy;rw[HQ.o]
   rcases kM with rfl|rfl<;>rfl
  cases Q<;>cases hp:(part==4)<;>rw[hp]at p4<;>rcases kM with rfl|rfl
  all_goals
   have iH:=HV;rw[hp]at iH;clear HV hp;go_enter Tryz.func163,Tryz.ntmps163;go_wp2_with fail;refine(Tn part _).mono ?_;rintro e w1 ⟨rfl,rfl⟩;rw[<-HQ.o];go_wp2_with fail;go_ret;exact⟨by rw[iH.o];first|rfl|(rw[p9];rfl),rfl⟩
 obtain⟨h9,h5⟩:=not_or.1 kM
 have d9:(((op:Nat):Int)==9)=false:=by simp;omega
 have d5:(((op:Nat):Int)==5)=false:=by simp;omega
 have HV:Hid (ae.Qy op side part=false):=by show _=_;unfold ae.Qy;simp[h6,h7,h8,h4,h9,h5]
 clear SB kM;go_enter Tryz.func163,Tryz.ntmps163;go_wp2_with fail;go_ret;exact⟨by rw[HV.o];rfl,rfl⟩
theorem Qzo (R:Nat)(tv bv:Value)(out:Bytes)(o m:Nat)(w:World)(h:dI w R tv bv out o m)(hl:out.length<=549755813888)(ho:o<=100000)(a b:Value)(X:Bytes)(hX:X.length<=274877906944)(d:Nat)(hd:d<=100000)
  (HF:∀sH w2,dI w2 R tv sH (out++[40]) (o+1) (max m (o+1))->Wr R bv.ownBlock w w2->Mv w bv.ownBlock sH.ownBlock->Calls Tryz.prog 164 #[a,b] w2 (kI R tv sH (out++[40]++X) (o+1) (max (max m (o+1)) (o+1+d)) (.tuple #[]) w2)):
  Calls Tryz.prog 106 #[.pointer (some ⟨R,0,none⟩),.func (.func 164) #[] #[a,b]] w (kI R tv bv (out++([40]++X++[41])) o (max m (o+(d+1))) (.tuple #[]) w):=by
 have HS:=zq h;have EP:=zq HF;obtain⟨OUT,aG⟩:=xq (out++([40]++X++[41]));obtain⟨M,hM⟩:=xq (max m (o+(d+1)));rw[<-aG,<-hM];have bD:=zq aG;have HM:=zq hM;clear aG hM;obtain⟨-,c3,c4⟩:=h.cells;have f3:=h.eD 3;obtain⟨o1,l7⟩:=xq (o+1)
 have hw:((o:Nat):Int)+1=((o1:Nat):Int):=by omega
 have hb1:∃av,(av=.pointer none\/av=.pointer (some ⟨R,1,none⟩))/\(w.setCell ⟨R,3,none⟩ (.int .i64 (o1:Nat))).heap[R]?=some (.cells #[tv,av,bv,.int .i64 (o1:Nat),.int .i64 (m:Nat)] 92 (0,0)):=by obtain⟨av,ha,hb⟩:=h.blk;exact⟨av,ha,(aas w R 3 _ 92 (.int .i64 (o1:Nat)) hb).trans (by simp)⟩
 have aC:=zq hb1;obtain⟨w1,aQ⟩:∃w1,w1=w.setCell ⟨R,3,none⟩ (.int .i64 (o1:Nat)):=⟨_,rfl⟩;rw[<-aQ]at aC
 have iX:Hid (Wr R none w w1):=by show Wr R none w w1;rw[aQ];exact Wr.aI w 3 _
 have pV:Hid (w1.ownsRow (R+1) 5 1 bv out.length (gJ out)):=by show _;rw[aQ];exact ad6 h.own (by simp) _
 have d3:w1.cell? ⟨R,3,none⟩=some (.int .i64 (o1:Nat)):=by obtain⟨av,-,hb⟩:=aC.o;rw[aam w1 R _ _ _ _ hb];rfl
 have d4:w1.cell? ⟨R,4,none⟩=some (.int .i64 (m:Nat)):=by obtain⟨av,-,hb⟩:=aC.o;rw[aam w1 R _ _ _ _ hb];rfl
 have e4:w1.frozen? ⟨R,4,none⟩=false:=by obtain⟨av,-,hb⟩:=aC.o;exact aaH w1 R 4 _ _ hb
 obtain⟨m1,cW⟩:=xq (max m o1)
 have hmx:max ((m:Nat):Int) ((o1:Nat):Int)=((m1:Nat):Int):=by omega
 have XH:=zq aQ;have IK:=zq h.le;have sf:=zq (dI.O9 (m':=m1) aC.o pV.o (by omega));have pW:=zq l7;have EW:=zq cW;have hf:∀args w,(callFunc 164 args).run Tryz.prog w=.ok (.enter 164 args) w:=enters_of Tryz.func164 (by kernel_rfl) rfl;clear h HF hb1 l7 cW;go_enter Tryz.func106,Tryz.ntmps106;go_wp2_with fail;rw[<-aQ];clear aQ;go_region;go_wp2_with fail;obtain⟨w2,hw2⟩:∃w2,w2=(w1.setCell ⟨R,4,none⟩ (.int .i64 (m1:Nat))).drew:=⟨_,rfl⟩;rw[<-hw2]
 have ja:Below (w1.setCell ⟨R,4,none⟩ (.int .i64 (m1:Nat))).heap.size (w1.setCell ⟨R,4,none⟩ (.int .i64 (m1:Nat))) w2:=by rw[hw2];exact Below.drew (aa8 _ _)
 have aD:=zq (sf.o.1.below ja);have dz:Hid (Wr R none w w2):=(iX.o.trans (Mv.refl _ _) sf.o.2).trans (Mv.refl _ _) (Wr.af ja);clear hw2 ja d3 d4 e4 c3 c4 f3;refine(Vu R tv bv out o1 m1 40 _ aD.o (by omega)).mono ?_;rintro e w3 ⟨rfl,mA,k1,k2,k3⟩;rw[EW.o,pW.o]at k1;have K1:=zq k1;have K2:Hid (Wr R bv.ownBlock w w3):=(dz.o.weak _).trans (Mv.refl _ _) k2;have K3:Hid (Mv w bv.ownBlock mA.ownBlock):=Mv.trans (R:=R) (w':=w2) (Mv.refl _ _) dz.o.size k3;clear k1 k2 k3;go_wp2_with fail;refine(EP.o mA w3 K1.o K2.o K3.o).mono ?_;rintro e w4 ⟨rfl,oF,l1,l2,l3⟩;have L1:=zq l1;have L2:Hid (Wr R bv.ownBlock w w4):=K2.o.trans K3.o l2;have L3:Hid (Mv w bv.ownBlock oF.ownBlock):=Mv.trans (R:=R) (w':=w3) K3.o K2.o.size l3;clear l1 l2 l3;go_wp2_with fail;refine(Vu R tv oF _ _ _ 41 _ L1.o (by simp only[aac,aaJ];omega)).mono ?_;rintro e w5 ⟨rfl,kK,q1,q2,q3⟩;rw[<-pW.o]at q1;have g3:=q1.cells.2.1;have gf:=q1.eD 3
 have jd:((o1:Nat):Int)-1=((o:Nat):Int):=by have:=pW.o;omega
 have Q2:Hid (Wr R bv.ownBlock w w5):=L2.o.trans L3.o q2;have Q3:Hid (Mv w bv.ownBlock kK.ownBlock):=Mv.trans (R:=R) (w':=w4) L3.o L2.o.size q3;have Q1:=zq (q1.PA (o':=o) (by have:=pW.o;omega))
 have abn:o1<=100001:=by have:=pW.o;omega
 clear q1 q2 q3;go_wp2_with fail
 first|go_end0|refine aaI (adF rfl _ _ _) rfl ?_
 have e1:out++[40]++X++[41]=OUT:=by rw[bD.o];simp
 have e2:max (max m o1) (o1+d)=M:=by rw[HM.o,pW.o];omega
 have q5:=Q1.o.1;rw[e1,e2]at q5;exact⟨rfl,kK,q5,Q2.o.trans Q3.o (Q1.o.2.weak _),Mv.trans (R:=R) (w':=w5) Q3.o Q2.o.size (Mv.refl _ _)⟩
theorem Qzi (R:Nat)(tv bv:Value)(out:Bytes)(o m:Nat)(w:World)(h:dI w R tv bv out o m)(hl:out.length<=549755813888)(ho:o<=100000)(a b:Value)(X:Bytes)(hX:X.length<=274877906944)(d:Nat)(hd:d<=100000)
  (HF:∀sH w2,dI w2 R tv sH (out++[40]) (o+1) (max m (o+1))->Wr R bv.ownBlock w w2->Mv w bv.ownBlock sH.ownBlock->Calls Tryz.prog 107 #[a,b] w2 (kI R tv sH (out++[40]++X) (o+1) (max (max m (o+1)) (o+1+d)) (.tuple #[]) w2)):
  Calls Tryz.prog 106 #[.pointer (some ⟨R,0,none⟩),.func (.func 107) #[] #[a,b]] w (kI R tv bv (out++([40]++X++[41])) o (max m (o+(d+1))) (.tuple #[]) w):=by
 have HS:=zq h;have EP:=zq HF;obtain⟨OUT,aG⟩:=xq (out++([40]++X++[41]));obtain⟨M,hM⟩:=xq (max m (o+(d+1)));rw[<-aG,<-hM];have bD:=zq aG;have HM:=zq hM;clear aG hM;obtain⟨-,c3,c4⟩:=h.cells;have f3:=h.eD 3;obtain⟨o1,l7⟩:=xq (o+1)
 have hw:((o:Nat):Int)+1=((o1:Nat):Int):=by omega
 have hb1:∃av,(av=.pointer none\/av=.pointer (some ⟨R,1,none⟩))/\(w.setCell ⟨R,3,none⟩ (.int .i64 (o1:Nat))).heap[R]?=some (.cells #[tv,av,bv,.int .i64 (o1:Nat),.int .i64 (m:Nat)] 92 (0,0)):=by obtain⟨av,ha,hb⟩:=h.blk;exact⟨av,ha,(aas w R 3 _ 92 (.int .i64 (o1:Nat)) hb).trans (by simp)⟩
 have aC:=zq hb1;obtain⟨w1,aQ⟩:∃w1,w1=w.setCell ⟨R,3,none⟩ (.int .i64 (o1:Nat)):=⟨_,rfl⟩;rw[<-aQ]at aC
 have iX:Hid (Wr R none w w1):=by show Wr R none w w1;rw[aQ];exact Wr.aI w 3 _
 have pV:Hid (w1.ownsRow (R+1) 5 1 bv out.length (gJ out)):=by show _;rw[aQ];exact ad6 h.own (by simp) _
 have d3:w1.cell? ⟨R,3,none⟩=some (.int .i64 (o1:Nat)):=by obtain⟨av,-,hb⟩:=aC.o;rw[aam w1 R _ _ _ _ hb];rfl
 have d4:w1.cell? ⟨R,4,none⟩=some (.int .i64 (m:Nat)):=by obtain⟨av,-,hb⟩:=aC.o;rw[aam w1 R _ _ _ _ hb];rfl
 have e4:w1.frozen? ⟨R,4,none⟩=false:=by obtain⟨av,-,hb⟩:=aC.o;exact aaH w1 R 4 _ _ hb
 obtain⟨m1,cW⟩:=xq (max m o1)
 have hmx:max ((m:Nat):Int) ((o1:Nat):Int)=((m1:Nat):Int):=by omega
 have XH:=zq aQ;have IK:=zq h.le;have sf:=zq (dI.O9 (m':=m1) aC.o pV.o (by omega));have pW:=zq l7;have EW:=zq cW;have hf:∀args w,(callFunc 107 args).run Tryz.prog w=.ok (.enter 107 args) w:=enters_of Tryz.func107 (by kernel_rfl) rfl;clear h HF hb1 l7 cW;go_enter Tryz.func106,Tryz.ntmps106;go_wp2_with fail;rw[<-aQ];clear aQ;go_region;go_wp2_with fail;obtain⟨w2,hw2⟩:∃w2,w2=(w1.setCell ⟨R,4,none⟩ (.int .i64 (m1:Nat))).drew:=⟨_,rfl⟩;rw[<-hw2]
 have ja:Below (w1.setCell ⟨R,4,none⟩ (.int .i64 (m1:Nat))).heap.size (w1.setCell ⟨R,4,none⟩ (.int .i64 (m1:Nat))) w2:=by rw[hw2];exact Below.drew (aa8 _ _)
 have aD:=zq (sf.o.1.below ja);have dz:Hid (Wr R none w w2):=(iX.o.trans (Mv.refl _ _) sf.o.2).trans (Mv.refl _ _) (Wr.af ja);clear hw2 ja d3 d4 e4 c3 c4 f3;refine(Vu R tv bv out o1 m1 40 _ aD.o (by omega)).mono ?_;rintro e w3 ⟨rfl,mA,k1,k2,k3⟩;rw[EW.o,pW.o]at k1;have K1:=zq k1;have K2:Hid (Wr R bv.ownBlock w w3):=(dz.o.weak _).trans (Mv.refl _ _) k2;have K3:Hid (Mv w bv.ownBlock mA.ownBlock):=Mv.trans (R:=R) (w':=w2) (Mv.refl _ _) dz.o.size k3;clear k1 k2 k3;go_wp2_with fail;refine(EP.o mA w3 K1.o K2.o K3.o).mono ?_;rintro e w4 ⟨rfl,oF,l1,l2,l3⟩;have L1:=zq l1;have L2:Hid (Wr R bv.ownBlock w w4):=K2.o.trans K3.o l2;have L3:Hid (Mv w bv.ownBlock oF.ownBlock):=Mv.trans (R:=R) (w':=w3) K3.o K2.o.size l3;clear l1 l2 l3;go_wp2_with fail;refine(Vu R tv oF _ _ _ 41 _ L1.o (by simp only[aac,aaJ];omega)).mono ?_;rintro e w5 ⟨rfl,kK,q1,q2,q3⟩;rw[<-pW.o]at q1;have g3:=q1.cells.2.1;have gf:=q1.eD 3
 have jd:((o1:Nat):Int)-1=((o:Nat):Int):=by have:=pW.o;omega
 have Q2:Hid (Wr R bv.ownBlock w w5):=L2.o.trans L3.o q2;have Q3:Hid (Mv w bv.ownBlock kK.ownBlock):=Mv.trans (R:=R) (w':=w4) L3.o L2.o.size q3;have Q1:=zq (q1.PA (o':=o) (by have:=pW.o;omega))
 have abn:o1<=100001:=by have:=pW.o;omega
 clear q1 q2 q3;go_wp2_with fail
 first|go_end0|refine aaI (adF rfl _ _ _) rfl ?_
 have e1:out++[40]++X++[41]=OUT:=by rw[bD.o];simp
 have e2:max (max m o1) (o1+d)=M:=by rw[HM.o,pW.o];omega
 have q5:=Q1.o.1;rw[e1,e2]at q5;exact⟨rfl,kK,q5,Q2.o.trans Q3.o (Q1.o.2.weak _),Mv.trans (R:=R) (w':=w5) Q3.o Q2.o.size (Mv.refl _ _)⟩
def KL (w:World)(B:Nat)(v:Value)(ks:List Int):Prop:=∃ao cap,v=.slice ao ks.length cap/\ks.length<=cap/\cap<=maxLen/\(0<ks.length-> ∃g,ao=some ⟨g,0,none⟩/\g<B/\ ∀j k,ks[j]?=some k->w.cell? ⟨g,j,none⟩=some (.int .i64 k))
def eB (w:World)(B:Nat)(v:Value)(l:List ae.NI):Prop:=∃ao cap,v=.slice ao l.length cap/\l.length<=cap/\cap<=maxLen/\(0<l.length-> ∃g,ao=some ⟨g,0,none⟩/\g<B/\ ∀j x,l[j]?=some x->w.cell? ⟨g,j*3,none⟩=some (.int .i64 x.op)/\w.cell? ⟨g,j*3+1,none⟩=some (.string ⟨x.text.toArray⟩)/\ ∃kv,w.cell? ⟨g,j*3+2,none⟩=some kv/\KL w B kv x.kids)
theorem KL.below {w w':World}{B:Nat}{v:Value}{ks:List Int}(h:KL w B v ks)(hb:Below B w w'):KL w' B v ks:=by obtain⟨ao,E,rfl,I,J,K⟩:=h;refine⟨ao,E,rfl,I,J,fun h0=> ?_⟩;obtain⟨g,rfl,H,O⟩:=K h0;exact⟨g,rfl,H,fun j k hj=>(hb.cell (p:=⟨g,j,none⟩) H).trans (O j k hj)⟩
theorem eB.below {w w':World}{B:Nat}{v:Value}{l:List ae.NI}(h:eB w B v l)(hb:Below B w w'):eB w' B v l:=by obtain⟨ao,H,rfl,I,J,K⟩:=h;refine⟨ao,H,rfl,I,J,fun h0=> ?_⟩;obtain⟨g,rfl,E,O⟩:=K h0;refine⟨g,rfl,E,fun j x hj=> ?_⟩;obtain⟨a,b,kv,c,d⟩:=O j x hj;exact⟨(hb.cell (p:=⟨g,j*3,none⟩) E).trans a,(hb.cell (p:=⟨g,j*3+1,none⟩) E).trans b,kv,(hb.cell (p:=⟨g,j*3+2,none⟩) E).trans c,d.below hb⟩
theorem Wr.gX {R:Nat}{og:Option Nat}{w w':World}(h:Wr R og w w')(hR:R<=w.heap.size)(ho:∀q,og=some q->R<q):Below R w w':=
 ⟨h.os,h.tape,h.output,h.size,fun k hk=>h.block k (by omega) (by omega) (fun e=>by have:=ho k e.symm;omega)⟩
def Xt (e:ae.Ex):Prop:=∀(l:List ae.NI) (R p:Nat) (tv bv:Value) (out:Bytes) (o m:Nat) (w:World),dI w R tv bv out o m->eB w R tv l->ae.bN l p (e.flat p)->out.length+e.pr.length<=274877906944->o+2*e.size<=100000->p+e.size<=100000->Calls Tryz.prog 51 #[.pointer (some ⟨R,0,none⟩),.int .i64 ((p+e.size-1:Nat):Int)] w (kI R tv bv (out++e.pr) o (max m (o+e.dp)) (.tuple #[]) w)
theorem Qdh:∀(e:ae.Ex) (p:Nat) (l:List ae.NI),ae.bN l p (e.flat p)-> ∃x,l[p+e.size-1]?=some x/\x.op=(e.op:Nat):=by
 intro e p l h;have J:=ae.X7 e p;have I:=ae.Q5 e
 obtain⟨n,H,E⟩:∃n,(e.flat p)[e.size-1]?=some n/\n.op=e.op:=by
  cases e<;>simp[ae.Ex.flat,ae.Ex.size,ae.X7,ae.W7,ae.Ex.op,<-abJ,abw,ab1]
 have:=h _ _ H;refine⟨_,by rw[<-Nat.add_sub_assoc I]at this;exact this,?_⟩;show ((n.op:Nat):Int)=_;rw[E]
theorem Qme (e:ae.Ex)(IH:Xt e)(l:List ae.NI)(R p:Nat)(tv bv:Value)(out:Bytes)(o m:Nat)(w:World)(h:dI w R tv bv out o m)(ht:eB w R tv l)(hs:ae.bN l p (e.flat p))(hl:out.length+e.pr.length<=274877906944)(ho:o+2*e.size<=100000)(hp:p+e.size<=100000)
  (a b:Addr) (K:Nat) (hK:K=p+e.size-1) (c0:w.cell? a=some (.pointer (some ⟨R,0,none⟩))) (c1:w.cell? b=some (.int .i64 (K:Nat))):
  Calls Tryz.prog 164 #[.pointer (some a),.pointer (some b)] w (kI R tv bv (out++e.pr) o (max m (o+e.dp)) (.tuple #[]) w):=by
 have HC:=zq (IH l R p tv bv out o m w h ht hs hl ho hp);rw[<-hK]at HC;obtain⟨OUT,aG⟩:=xq (out++e.pr);obtain⟨M,hM⟩:=xq (max m (o+e.dp));rw[<-aG,<-hM]at HC ⊢;clear h ht hs hl ho hp hK aG hM;go_enter Tryz.func164,Tryz.ntmps164;go_wp2_with fail;refine HC.o.mono ?_;rintro e w1 ⟨rfl,H⟩;have HH:=zq H;clear H;go_wp2_with fail
 first|go_end0|refine aaI (adF rfl _ _ _) rfl ?_
 exact⟨rfl,HH.o⟩
theorem Jm (op side:Nat)(e:ae.Ex)(IH:Xt e)(l:List ae.NI)(R p:Nat)(tv bv:Value)(out:Bytes)(o m:Nat)(w:World)(h:dI w R tv bv out o m)(ht:eB w R tv l)(hs:ae.bN l p (e.flat p))(hl:out.length+(ae.par (ae.Qy op side e.op) e.pr).length<=274877906944)(ho:o+2*e.size+1<=100000)(hp:p+e.size<=100000)
  (text:ByteArray) (kv:Value) (ks:List Int) (hk:KL w R kv ks) (DJ:ks[side]?=some ((p+e.size-1:Nat):Int)):
  Calls Tryz.prog 103 #[.pointer (some ⟨R,0,none⟩),.agg #[.int .i64 (op:Nat),.string text,kv],.int .i64 (side:Nat)] w (kI R tv bv (out++ae.par (ae.Qy op side e.op) e.pr) o (max m (o+ae.ay (ae.Qy op side e.op) e.dp)) (.tuple #[]) w):=by
 obtain⟨K,hK⟩:=xq (p+e.size-1);rw[<-hK]at DJ;have aT:=h.lt;have iE:=(aae.1 DJ).1;obtain⟨ko,aj,rfl,k1,k2,k3⟩:=hk;obtain⟨kg,rfl,k4,k5⟩:=k3 (by omega);obtain⟨n,hn⟩:=xq ks.length;rw[<-hn]at iE k1 ⊢;obtain⟨x,hx,hxo⟩:=Qdh e p l hs;rw[<-hK]at hx;obtain⟨ta,dZ,rfl,t1,t2,t3⟩:=ht;have nP:=(aae.1 hx).1;obtain⟨tg,rfl,t4,t5⟩:=t3 (by omega);obtain⟨t6,-,-⟩:=t5 K x hx;rw[hxo]at t6;obtain⟨ln,fh⟩:=xq l.length;rw[<-fh]at nP t1 h ⊢;have hb2:Below w.heap.size w ((w.alloc (.cells #[.pointer (some ⟨R,0,none⟩)] 86)).alloc (.cells #[.int .i64 (op:Nat),.string text,.slice (some ⟨kg,0,none⟩) n aj] 43)):=Qz (Qq _ _) (Qq _ _);have ck:((w.alloc (.cells #[.pointer (some ⟨R,0,none⟩)] 86)).alloc (.cells #[.int .i64 (op:Nat),.string text,.slice (some ⟨kg,0,none⟩) n aj] 43)).cell? ⟨kg,side,none⟩=some (.int .i64 (K:Nat)):=(hb2.cell (p:=⟨kg,side,none⟩) (by show kg<_;omega)).trans (k5 side _ DJ);have HN:=zq hn;have VM:=zq fh;have fU:=zq hK;clear hn fh hK hb2;go_enter Tryz.func103,Tryz.ntmps103;go_wp2_with fail;obtain⟨w3,hw3⟩:∃w3,w3=((w.alloc (.cells #[.pointer (some ⟨R,0,none⟩)] 86)).alloc (.cells #[.int .i64 (op:Nat),.string text,.slice (some ⟨kg,0,none⟩) n aj] 43)).alloc (.cells #[.int .i64 (K:Nat)] 3):=⟨_,rfl⟩;rw[<-hw3]
 have hb3:Below w.heap.size w w3:=by rw[hw3];exact Qz (Qz (Qq _ _) (Qq _ _)) (Qq _ _)
 have kA:w3.heap.size=w.heap.size+3:=by rw[hw3];simp
 have h0:w3.heap[w.heap.size]?=some (.cells #[.pointer (some ⟨R,0,none⟩)] 86 (0,0)):=by rw[hw3];exact((Qq _ _).block _ (by simp;omega)).trans (((Qq _ _).block _ (by simp)).trans (aaz w _))
 have h1:w3.heap[w.heap.size+1]?=some (.cells #[.int .i64 (op:Nat),.string text,.slice (some ⟨kg,0,none⟩) n aj] 43 (0,0)):=by rw[hw3];have:=aaz (w.alloc (.cells #[.pointer (some ⟨R,0,none⟩)] 86)) (.cells #[.int .i64 (op:Nat),.string text,.slice (some ⟨kg,0,none⟩) n aj] 43);rw[show (w.alloc (.cells #[.pointer (some ⟨R,0,none⟩)] 86)).heap.size=w.heap.size+1 by simp]at this;exact((Qq _ _).block _ (by simp)).trans this
 have h2:w3.heap[w.heap.size+2]?=some (.cells #[.int .i64 (K:Nat)] 3 (0,0)):=by rw[hw3];have:=aaz ((w.alloc (.cells #[.pointer (some ⟨R,0,none⟩)] 86)).alloc (.cells #[.int .i64 (op:Nat),.string text,.slice (some ⟨kg,0,none⟩) n aj] 43)) (.cells #[.int .i64 (K:Nat)] 3);rw[show ((w.alloc (.cells #[.pointer (some ⟨R,0,none⟩)] 86)).alloc (.cells #[.int .i64 (op:Nat),.string text,.slice (some ⟨kg,0,none⟩) n aj] 43)).heap.size=w.heap.size+2 by simp]at this;exact this
 have gR:=zq (h.below hb3)
 have dH:Hid (eB w3 R (.slice (some ⟨tg,0,none⟩) ln dZ) l):=by rw[VM.o]at t1 ⊢;exact eB.below ⟨_,dZ,rfl,t1,t2,t3⟩ (hb3.mono (by omega))
 have q0:w3.cell? ⟨w.heap.size,0,none⟩=some (.pointer (some ⟨R,0,none⟩)):=by rw[aam _ _ 0 _ _ _ h0];rfl
 have q1:w3.cell? ⟨w.heap.size+1,0,none⟩=some (.int .i64 (op:Nat)):=by rw[aam _ _ 0 _ _ _ h1];rfl
 have q2:w3.cell? ⟨w.heap.size+2,0,none⟩=some (.int .i64 (K:Nat)):=by rw[aam _ _ 0 _ _ _ h2];rfl
 have q3:=gR.o.cells.1;have q4:w3.cell? ⟨tg,K*3,none⟩=some (.int .i64 (e.op:Nat)):=(hb3.cell (p:=⟨tg,K*3,none⟩) (by show tg<_;omega)).trans t6;have aS:=zq hb3;have uL:Hid (∀q,bv.ownBlock=some q->q<w.heap.size):=fun q hq=>(h.own.lt q hq).2;obtain⟨G,hG⟩:=xq w.heap.size;rw[<-hG]at q0 q1 q2 uL kA aT ⊢;have j7:=zq hG;have eo:=zq hs;clear hw3 h0 h1 h2 hb3 h hG hs ck DJ t3 t5 t6 hx;have ky:∀(fn:Fn) (first cap:Array Value) (w:World),(Instr.makeFunc fn first cap).run Tryz.prog w=.ok (.func fn first cap) w:=fun _ _ _ _=>rfl;have uM:∀v,Calls Tryz.prog 163 #[.int .i64 (op:Nat),.int .i64 (side:Nat),.int .i64 (e.op:Nat)] v fun y v'=>y=.returned (.bool (ae.Qy op side e.op))/\v'=v:=fun v=>(Qw7 op side e.op v).mono fun _ _ h=>⟨h.1,h.2.symm⟩;go_quiet ((go_at_call 163;exact Calls.quiet_of_same (uM _)));obtain⟨w4,hw4⟩:=xq (w3.drewN nq);rw[<-hw4]
 have hb4:Below w3.heap.size w3 w4:=by rw[hw4];exact below_drewN _ _
 have lW:=zq (gR.o.below hb4);have hRw:R<w3.heap.size:=gR.o.lt;have IY:=zq (dH.o.below (hb4.mono (abD hRw)));have r0:w4.cell? ⟨G,0,none⟩=some (.pointer (some ⟨R,0,none⟩)):=(hb4.cell (p:=⟨G,0,none⟩) (by show G<_;omega)).trans q0;have r2:w4.cell? ⟨G+1+1,0,none⟩=some (.int .i64 (K:Nat)):=(hb4.cell (p:=⟨G+1+1,0,none⟩) (by show G+1+1<_;omega)).trans q2;have ZZ:G+3<=w4.heap.size:=aan (by omega) hb4.size;have bG:Hid (Below w.heap.size w w4):=Qz aS.o hb4;have nM:=zq r0;have cZ:=zq r2;obtain⟨OUT,aG⟩:=xq (out++ae.par (ae.Qy op side e.op) e.pr);obtain⟨M,hM⟩:=xq (max m (o+ae.ay (ae.Qy op side e.op) e.dp));have bD:=zq aG;have cI:=zq hM;rw[<-aG,<-hM];clear q0 q1 q2 q3 q4 hw4 hb4 uM
 cases hB:ae.Qy op side e.op with
 |false=>
  rw[hB]at aG hM hl;have ig:out.length+e.pr.length<=274877906944:=hl;have e1:OUT=out++e.pr:=aG;have e2:M=max m (o+e.dp):=hM;have HC:=zq (IH l R p _ bv out o m w4 lW.o IY.o eo.o ig (by omega) hp);rw[<-fU.o,<-e1,<-e2]at HC;clear aG hM e1 e2 hB;go_wp2_with fail;refine HC.o.mono ?_;rintro y w5 ⟨rfl,kK,a1,a2,a3⟩;have A1:=zq a1;have A2:Hid (Wr R bv.ownBlock w w5):=(Wr.af bG.o).trans (Mv.refl _ _) a2;have A3:Hid (Mv w bv.ownBlock kK.ownBlock):=Mv.trans (R:=R) (w':=w4) (Mv.refl _ _) bG.o.size a3;clear a1 a2 a3;go_wp2_with fail
  first|go_end0|refine aaI (adF rfl _ _ _) rfl ?_
  have A5:=A1.o;rw[bD.o,cI.o]at A5
  exact⟨rfl,kK,A5,A2.o,A3.o⟩
 |true=>
  rw[hB]at aG hM hl;have ig:out.length+(([40]:Bytes)++e.pr++[41]).length<=274877906944:=hl;simp only[aac,aaf,aaG]at ig;have e1:OUT=out++([40]++e.pr++[41]):=aG;have e2:M=max m (o+(e.dp+1)):=hM;have SM:=ae.Sm e
  have HC:=zq (Qzo R _ bv out o m w4 lW.o (by omega) (by omega) (.pointer (some ⟨G,0,none⟩)) (.pointer (some ⟨G+1+1,0,none⟩)) e.pr (by omega) e.dp (by omega) (fun sH w5 b1 b2 b3=>by
   have hG0:w5.cell? ⟨G,0,none⟩=some (.pointer (some ⟨R,0,none⟩)):=(abG (b2.block G (by omega) (by omega) (fun e=>by have:=uL.o G e.symm;omega))).trans nM.o;have hG2:w5.cell? ⟨G+1+1,0,none⟩=some (.int .i64 (K:Nat)):=(abG (b2.block (G+1+1) (by omega) (by omega) (fun e=>by have:=uL.o _ e.symm;omega))).trans cZ.o
   exact Qme e IH l R p _ sH (out++[40]) (o+1) (max m (o+1)) w5 b1 (IY.o.below (b2.gX (by omega) (fun q hq=>lW.o.gt q hq))) eo.o (by rw[aac,aaJ];omega) (by omega) hp _ _ K fU.o hG0 hG2))
  rw[<-e1,<-e2]at HC;clear aG hM e1 e2 hB;go_wp2_with fail;refine HC.o.mono ?_;rintro y w5 ⟨rfl,kK,a1,a2,a3⟩;have A1:=zq a1;have A2:Hid (Wr R bv.ownBlock w w5):=(Wr.af bG.o).trans (Mv.refl _ _) a2;have A3:Hid (Mv w bv.ownBlock kK.ownBlock):=Mv.trans (R:=R) (w':=w4) (Mv.refl _ _) bG.o.size a3;clear a1 a2 a3;go_wp2_with fail
  first|go_end0|refine aaI (adF rfl _ _ _) rfl ?_
  have A5:=A1.o;rw[bD.o,cI.o]at A5;exact⟨rfl,kK,A5,A2.o,A3.o⟩
theorem Wy {w:World}{B g cap n m:Nat}{e:TypeId}{xs:List Value}(h:w.ownsRow B e 1 (.slice (some ⟨g,0,none⟩) n cap) n xs)(hm:m<=n):w.ownsRow B e 1 (.slice (some ⟨g,0,none⟩) m cap) m (xs.take m):=by
 obtain⟨Z,I⟩:=h;rcases I with ⟨E,-⟩|⟨g',cap',H,E,J,K,h6,O,T,U⟩
 ·cases E
 cases E
 refine⟨by rw[aak];omega,.inr ⟨g,cap,H,rfl,J,K,by omega,O,T,?_⟩⟩;rw[<-U,aeK];congr 1;omega
theorem Ds (l:List Nat)(m:Nat):(ints l).take m=ints (l.take m):=by simp[ints]
theorem Wt {w w' w'':World}{row:Option Nat}(h:Below w.heap.size w w')(hg:w'.grownBy w'' row)(hb:∀q,row=some q->w.heap.size<=q):Below w.heap.size w w'':=
 ⟨hg.os.trans h.os,hg.tape.trans h.tape,hg.output.trans h.output,aan h.size hg.size,fun k hk=>(hg.block k (aaj hk h.size) (fun e=>by have:=hb k e.symm;omega)).trans (h.block k hk)⟩
def PM (l:List ae.NI)(w:World)(r:Bool)(fv iv:Value)(wr:World):Prop:=
 ∃(i:Nat) (free:List Nat),i<=l.length/\iv=.int .i64 (i:Nat)/\free.length<=i/\ae.Qi ae.WV l.length i free (l.drop i)=r/\wr.ownsRow w.heap.size 3 1 fv free.length (ints free)/\Below w.heap.size w wr
theorem Vr {W:Int->Bytes->Bool}{n i:Nat}{free:List Nat}{x:ae.NI}{l:List ae.NI}(h:ae.Zd W n i free x=false):ae.Qi W n i free (x::l)=false:=by unfold ae.Qi;rw[h];rfl
theorem Gm {W:Int->Bytes->Bool}{n i:Nat}{free:List Nat}{x:ae.NI}{l:List ae.NI}(h:x.kids≠ae.Yb free x.kids.length):ae.Qi W n i free (x::l)=false:=by unfold ae.Qi;rw[if_neg h];split<;>rfl
theorem Gg {W:Int->Bytes->Bool}{n i:Nat}{free:List Nat}{x:ae.NI}{l:List ae.NI}(h:ae.Zd W n i free x=true)(hk:x.kids=ae.Yb free x.kids.length):ae.Qi W n i free (x::l)=ae.Qi W n (i+1) (free.take (free.length-x.kids.length)++[i]) l:=by
 conv=>lhs;unfold ae.Qi
 rw[if_pos h,if_pos hk]
theorem Qjw {w2:World}{ap:Option Addr}{B0 B g M k N gm:Nat}{ko:Option Addr}{aj:Nat}{kids:List Int}{free:List Nat}(hk:k=kids.length)(hN:N=free.length)(hM:N=M+k)(lF:KL w2 B (.slice ko k aj) kids)(hB:B<=w2.heap.size)
  (how:w2.ownsRow B0 3 1 (.slice (some ⟨g,0,none⟩) N gm) N (ints free)) (hb:N<=4096) (hap:k≠0->ap=some ⟨g,M,none⟩) (q d:Nat):
  Calls Tryz.prog 102 #[.slice ko k aj,.slice ap k d] (w2.drewN q) fun e w'=>e=.returned (.bool (decide (kids=ae.Yb free k)))/\ ∃m,w'=(w2.drewN q).drewN m:=by
 have E:ae.Yb free k=(free.drop M).map fun k:Nat=>(k:Int):=by unfold ae.Yb;rw[show free.length-k=M by omega]
 have J:g<w2.heap.size:=(how.lt g rfl).2
 have Z:(ae.Yb free k).length=k:=by rw[E,aay,aag];omega
 by_cases h0:k=0
 ·have T:kids=[]:=aaq (by omega)
  have O:ae.Yb free k=[]:=aaq (by omega);rw[O,T];subst h0;exact(Tryz.slices_Equal_int_empty ko ap aj 0 d (w2.drewN q) (by omega)).mono fun e w' ⟨h1,h2⟩=>⟨h1,0,h2⟩
 obtain rfl:=hap h0;obtain⟨ao,a0,H,-,-,U⟩:=lF;simp only[Value.slice.injEq]at H;obtain⟨rfl,-,rfl⟩:=H;obtain⟨gk,rfl,I,h⟩:=U (by omega);refine(Tryz.slices_Equal_int gk 0 k aj g M k d kids (ae.Yb free k) (w2.drewN q) (by omega) (by omega) (by omega) (by omega) (fun j hj=> ?_) (fun j hj=> ?_)).mono fun e w' ⟨h1,h2⟩=>⟨h1.trans ?_,h2⟩
 ·rw[(Qs w2 q).cell (p:=⟨gk,0+j,none⟩) (aaj I hB),abx,h j kids[j] (aad hj)]
  simp[ab3,aad hj]
 ·have K:M+j<free.length:=by omega
  rw[(Qs w2 q).cell (p:=⟨g,M+j,none⟩) J,how.cellAt (M+j) (by omega),E];simp[ints,ab3,aad K]
 rw[aat (by omega),aat (by omega)];congr 2;rw[abA,adN,aaV]
theorem Qqx {l:List ae.NI}{w w6:World}{r:Bool}{i M gg cq:Nat}{free:List Nat}(hg:ae.Qi ae.WV l.length (i+1) (free.take M++[i]) (l.drop (i+1))=r)
  (hown:w6.ownsRow w.heap.size 3 1 (.slice (some ⟨gg,0,none⟩) (M+1) cq) (M+1) (ints (free.take M)++[.int .i64 ((i:Nat):Int)])) (hb:Below w.heap.size w w6) (hi:i+1<=l.length) (hM:M<=i) (hMf:M<=free.length):
  PM l w r (.slice (some ⟨gg,0,none⟩) (M+1) cq) (.int .i64 ((i+1:Nat):Int)) w6:=by
 have e:(free.take M++[i]).length=M+1:=by rw[aac,aak];simp;omega
 refine⟨i+1,free.take M++[i],hi,rfl,by rw[e];omega,hg,?_,hb⟩;rw[e]
 have e2:ints (free.take M++[i])=ints (free.take M)++[.int .i64 ((i:Nat):Int)]:=by simp[ints]
 rw[e2];exact hown
theorem Du (v:Value)(l:List ae.NI)(w:World)(B:Nat)(hl:l.length<=4096)(ht:∀x∈l,x.text.length<=67108864)(hv:eB w B v l)(hB:B<=w.heap.size)(hx:Lx w)(hs:SG w)(hsz:4<w.heap.size):Calls Tryz.prog 50 #[v] w fun e w'=>e=.returned (.bool (ae.Qi ae.WV l.length 0 [] l))/\Below w.heap.size w w':=by
 obtain⟨i0,eu,hz0,hz1,nk⟩:=abO Tryz.cC;have HV:=zq hv;have HX:=zq hx;have eo:=zq hs;have HT:=zq ht;obtain⟨ao,cap,rfl,bq,hcm,-⟩:=hv;obtain⟨n,hn⟩:=xq l.length;obtain⟨r,hr⟩:=xq (ae.Qi ae.WV l.length 0 [] l);have HR:=zq hr;rw[<-hr];rw[<-hn]at hl bq ⊢;have HN:=zq hn;clear hn hr hx hs ht hcm;go_enter Tryz.func50,Tryz.ntmps50;go_wp2_with fail;go_loopw [3,9] (fun fv iv wr=>PM l w r fv iv wr) (fun _ iv _=>n-(intOf iv).toNat)
 case atStart=>exact⟨0,[],aao _,rfl,aao _,HR.o.symm,⟨rfl,.inl ⟨rfl,rfl⟩⟩,aa8 _ _⟩
 case round=>
  obtain⟨i,free,hi,rfl,qw,hg,hown,hb⟩:=hrel;rw[<-HN.o]at hi hg;have HG:=zq hg;have HOW:=zq hown;have HB:=zq hb;have hzb:=hb.size;have JT:=zq (HV.o.below (hb.mono hB));obtain⟨fo,gm,rfl,f1,f2,f3⟩:=Qj hown;obtain⟨N,BO⟩:=xq free.length;rw[<-BO]at qw f1 HOW ⊢;have lV:=zq BO;clear hg hown hb f3 BO;by_cases hlt:i<n
  ·obtain⟨x,hx⟩:∃x,l[i]?=some x:=⟨_,aad (by rw[<-HN.o];exact hlt)⟩
   have fE:Hid (ae.Qi ae.WV n i free (x::l.drop (i+1))=r):=by show _=_;rw[<-HG.o];congr 1;obtain⟨h1,h2⟩:=aae.1 hx;rw[aaS h1,h2]
   have qI:x.text.length<=67108864:=HT.o x (aah hx);obtain⟨wI,fz,he,-,-,hc⟩:=JT.o
   cases he
   obtain⟨gt,rfl,gN,hcell⟩:=hc (by rw[<-HN.o];omega);obtain⟨e0,e1,kv,e2,lF⟩:=hcell i x hx;have rO:=zq lF;obtain⟨ko,aj,rfl,k1,k2,k3⟩:=lF;obtain⟨op,text,kids⟩:=x;simp only at e0 e1 e2 qI rO k1 k2 k3;obtain⟨k,fC⟩:=xq kids.length;rw[<-fC]at e2 k1 rO;obtain⟨T,hT⟩:=xq (⟨text.toArray⟩:ByteArray);rw[<-hT]at e1;have qb:=zq hT;have fU:=zq fC;clear hc hcell hx hT fC k3;obtain⟨w1,aQ⟩:=xq (wr.alloc (.cells #[.int .i64 op,.string T,.slice ko k aj] 43))
   have hb1:Below wr.heap.size wr w1:=by rw[aQ];exact Qq _ _
   have hg1:w1.heap[wr.heap.size]?=some (.cells #[.int .i64 op,.string T,.slice ko k aj] 43 (0,0)):=by rw[aQ];exact aaz _ _
   have abQ:w1.heap.size=wr.heap.size+1:=by rw[aQ];simp
   have d0:w1.cell? ⟨wr.heap.size,0,none⟩=some (.int .i64 op):=by rw[aam _ _ 0 _ _ _ hg1];rfl
   have d1:w1.cell? ⟨wr.heap.size,1,none⟩=some (.string T):=by rw[aam _ _ 1 _ _ _ hg1];rfl
   have d2:w1.cell? ⟨wr.heap.size,2,none⟩=some (.slice ko k aj):=by rw[aam _ _ 2 _ _ _ hg1];rfl
   have aC:=zq hb1;have VC:=zq hg1;have mL:Below w.heap.size w w1:=HB.o.trans (hb1.mono hzb);have nY:=zq mL;have yw:=zq (Qzb op text (.slice ko k aj) w1 qI (HX.o.below mL) (eo.o.below mL hsz) (aaj hsz mL.size));rw[<-qb.o]at yw;clear hb1 hg1 mL qI HV;have hA:∃b c:Bool,ae.Vf op=b/\((((i:Nat):Int)==((n:Nat):Int)-1)=c)/\(i+1==n)=c:=⟨_,_,rfl,rfl,by rw[abA];simp;omega⟩;obtain⟨b,c,ha1,ha2,yH⟩:=hA;have iT:=zq ha1;have kV:=zq yH;clear ha1 yH;by_cases rf:b=c
   ·
    subst rf
    cases uV:ae.cnt op k with
    |false=>
     have pR:=zq uV
     have hF:Hid (r=false):=by show _=_;rw[<-fE.o];refine Vr ?_;unfold ae.Zd;simp only;rw[<-fU.o,pR.o];simp
     clear uV
     cases b
     all_goals
      go_wp2_with fail;rw[<-aQ];clear aQ;refine(Tk op _).mono ?_;rintro e w2 ⟨rfl,rfl⟩;rw[iT.o];go_wp2_with fail;refine(Rz op k _).mono ?_;rintro e w2 ⟨rfl,rfl⟩;rw[pR.o];go_wp2_with fail;go_ret
      exact⟨by rw[hF.o];rfl,nY.o⟩
    |true=>
     have pR:=zq uV;clear uV;by_cases NC:N<k
     ·have hF:Hid (r=false):=by show _=_;rw[<-fE.o];refine Vr ?_;unfold ae.Zd;simp only;rw[<-fU.o,<-lV.o,abH NC];simp
      have mN:decide (((N:Nat):Int)<((k:Nat):Int))=true:=abH (by omega)
      cases b
      all_goals
       go_wp2_with fail;rw[<-aQ];clear aQ;refine(Tk op _).mono ?_;rintro e w2 ⟨rfl,rfl⟩;rw[iT.o];go_wp2_with fail;refine(Rz op k _).mono ?_;rintro e w2 ⟨rfl,rfl⟩;rw[pR.o];go_wp2_with fail;go_ret;exact⟨by rw[hF.o];rfl,nY.o⟩
     have mN:decide (((N:Nat):Int)<((k:Nat):Int))=false:=abC (by omega)
     cases xB:ae.WV op text with
     |false=>
      have wB:=zq xB
      have hF:Hid (r=false):=by show _=_;rw[<-fE.o];refine Vr ?_;unfold ae.Zd;simp only;rw[wB.o];simp
      clear xB
      cases b
      all_goals
       go_wp2_with fail;rw[<-aQ];clear aQ;refine(Tk op _).mono ?_;rintro e w2 ⟨rfl,rfl⟩;rw[iT.o];go_wp2_with fail;refine(Rz op k _).mono ?_;rintro e w2 ⟨rfl,rfl⟩;rw[pR.o];go_wp2_with fail;refine yw.o.mono ?_;rintro e w2 ⟨rfl,hb2⟩;rw[wB.o];have aD:=zq (Qz nY.o hb2);clear hb2;go_wp2_with fail;go_ret
       exact⟨by rw[hF.o];rfl,aD.o⟩
     |true=>
      have wB:=zq xB
      have LN:Hid (ae.Zd ae.WV n i free ⟨op,text,kids⟩=true):=by show _=_;unfold ae.Zd;simp only;rw[wB.o,<-fU.o,pR.o,<-lV.o,iT.o,kV.o,abC NC];simp
      clear xB
      cases b
      all_goals
       go_wp2_with fail;rw[<-aQ];clear aQ;refine(Tk op _).mono ?_;rintro e w2 ⟨rfl,rfl⟩;rw[iT.o];go_wp2_with fail;refine(Rz op k _).mono ?_;rintro e w2 ⟨rfl,rfl⟩;rw[pR.o];go_wp2_with fail;refine yw.o.mono ?_;rintro e w2 ⟨rfl,hb2⟩;rw[wB.o];have hg2:=(hb2.block wr.heap.size (by omega)).trans VC.o
       have c2:w2.cell? ⟨wr.heap.size,2,none⟩=some (.slice ko k aj):=by rw[aam _ _ 2 _ _ _ hg2];rfl
       have js:Below wr.heap.size wr w2:=Qz aC.o hb2;have aD:=zq (HB.o.trans (js.mono hzb));have kY:=zq (Qg HOW.o js (aaa _));have vQ:=zq (rO.o.below (js.mono (aan hB hzb)));have hz2:w.heap.size<=w2.heap.size:=aan hzb js.size;obtain⟨M,hM⟩:∃M,N=M+k:=⟨N-k,by omega⟩;have cI:=zq hM
       have qG:((N:Nat):Int)-((k:Nat):Int)=((M:Nat):Int):=by omega
       have hlen:N-M=k:=by omega
       have hMN:M<=N:=by omega
       clear hb2 hg2 js hM d0 d1 d2;rcases kY.o.2 with ⟨he,hN0⟩|⟨g,fc,cur,he,hg1,-,GH,hfm,-,-⟩
       ·cases he
        have bF:k=0:=by omega
        have hM0:M=0:=by omega
        subst bF;subst hM0;have bh:kids=[]:=aaq fU.o.symm
        have ya:Hid (ae.Qi ae.WV n (i+1) (free.take 0++[i]) (l.drop (i+1))=r):=by show _=_;rw[<-fE.o,Gg LN.o (by subst bh;simp[ae.Yb])];subst bh;rw[show free.length-([]:List Int).length=0 from by have h0:free.length=0:=lV.o.symm;rw[h0];rfl]
        have qU:Hid (w2.ownsRow w.heap.size 3 1 (.slice none 0 0) 0 (ints (free.take 0))):=⟨rfl,.inl ⟨rfl,rfl⟩⟩
        have rX:Hid (∀q,(Value.slice none 0 0).ownBlock=some q->w.heap.size<=q):=fun q hq=>by cases hq
        have HQ:Hid (∀w3,Calls Tryz.prog 102 #[.slice ko 0 aj,.slice none 0 0] w3 fun e w'=>e=.returned (.bool true)/\w'=w3):=fun w3=>Tryz.slices_Equal_int_empty ko none aj 0 0 w3 (by omega);go_wp2_with fail;go_quiet ((go_at_call 102;exact Calls.quiet_of_same (HQ.o _)));obtain⟨w4,hw4⟩:=xq (w2.drewN nq)
        have bG:Hid (Below w.heap.size w w4):=by show Below _ _ _;rw[hw4];exact Qz aD.o (Qs w2 nq)
        have JO:Hid (w4.ownsRow w.heap.size 3 1 (.slice none 0 0) 0 (ints (free.take 0))):=by show World.ownsRow _ _ _ _ _ _ _;rw[hw4];exact Qg qU.o (Qs w2 nq) (aaa _)
        have DY:w.heap.size<=w4.heap.size:=bG.o.size;rw[<-hw4];clear hw4;go_wp2_with (at_builtin;refine adr _ rfl _ _ 41 rfl w.heap.size 3 i0 (.int .i64 0) 1 8 Tryz.underlying41 eu hz0 hz1 nk rfl (by omega) (.slice none 0 0) 0 (ints (free.take 0)) rfl (JO.o.alloc _) ⟨w4.heap.size,0,none⟩ 1 1 [.int .i64 ((i:Nat):Int)] rfl rfl (ag.Qh _ _ _ _ rfl) (by simp[Value.oneCell']) (by omega) (by unfold maxLen;omega) (by omega) (by simp;omega) (w4.heap.size+1) (by simp) ?_);intro gg cq w6 cm cX lz tM;have l8:Hid (Below w.heap.size w w6):=Wt (bG.o.alloc DY _) cX (fun q hq=>rX.o q hq);have rL:Hid (PM l w r (.slice (some ⟨gg,0,none⟩) (0+1) cq) (.int .i64 ((i+1:Nat):Int)) w6):=Qqx (HN.o ▸ ya.o) cm l8.o (by rw[<-HN.o];omega) (by omega) (lV.o ▸ by omega);clear cm cX lz tM;go_wp2_with fail
        have yX:n-(intOf (.int .i64 (((i:Nat):Int)+1))).toNat<n-(intOf (.int .i64 ((i:Nat):Int))).toNat:=by simp[intOf];omega
        have dc:(((i+1:Nat):Int))=((i:Nat):Int)+1:=by omega
        rw[dc]at rL
        first|exact⟨rL.o,yX⟩|exact⟨by (repeat apply Exists.intro);exact⟨rL.o,rfl⟩,yX⟩
       cases he
       obtain⟨ap,LX⟩:∃ap,(if gm=M then some (⟨g,0,none⟩:Addr) else some ⟨g,M,none⟩)=ap:=⟨_,rfl⟩
       have HQ:Hid (∀q d,Calls Tryz.prog 102 #[.slice ko k aj,.slice ap k d] (w2.drewN q) fun e w'=>e=.returned (.bool (decide (kids=ae.Yb free k)))/\ ∃m,w'=(w2.drewN q).drewN m):=
        fun q d=>Qjw fU.o lV.o cI.o vQ.o (aan hB hz2) kY.o (by omega) (fun h0=>by rw[<-LX];exact if_neg (by omega)) q d
       have qU:Hid (w2.ownsRow w.heap.size 3 1 (.slice (some ⟨g,0,none⟩) M gm) M (ints (free.take M))):=by show World.ownsRow _ _ _ _ _ _ _;rw[<-Ds];exact Wy kY.o hMN
       have hs0:(0:Int)<=((M:Nat):Int):=by omega
       have hs1:((M:Nat):Int)<=((N:Nat):Int):=by omega
       have hs2:((N:Nat):Int)<=((gm:Nat):Int):=by omega
       have hwM:IntKind.i64.wrap ((M:Nat):Int)=((M:Nat):Int):=abL _ (by omega)
       have rX:Hid (∀q,(Value.slice (some ⟨g,0,none⟩) M gm).ownBlock=some q->w.heap.size<=q):=fun q hq=>by cases hq;exact hg1
       by_cases xm:kids=ae.Yb free k
       ·have ya:Hid (ae.Qi ae.WV n (i+1) (free.take M++[i]) (l.drop (i+1))=r):=by
         show _=_;rw[<-fE.o,Gg LN.o (by simp only;rw[<-fU.o];exact xm)];rw[show free.length-kids.length=M by rw[<-fU.o,<-lV.o];have:=cI.o;omega]
        rw[abH xm]at HQ;clear xm;go_wp2_with fail;go_quiet ((go_at_call 102;exact Calls.quiet_of (HQ.o _ _)));obtain⟨w4,hw4⟩:=xq (w2.drewN nq)
        have bG:Hid (Below w.heap.size w w4):=by show Below _ _ _;rw[hw4];exact Qz aD.o (Qs w2 nq)
        have JO:Hid (w4.ownsRow w.heap.size 3 1 (.slice (some ⟨g,0,none⟩) M gm) M (ints (free.take M))):=by show World.ownsRow _ _ _ _ _ _ _;rw[hw4];exact Qg qU.o (Qs w2 nq) (aaa _)
        have DY:w.heap.size<=w4.heap.size:=bG.o.size;rw[<-hw4];clear hw4;go_wp2_with (at_builtin;refine adr _ rfl _ _ 41 rfl w.heap.size 3 i0 (.int .i64 0) 1 8 Tryz.underlying41 eu hz0 hz1 nk rfl (by omega) (.slice (some ⟨g,0,none⟩) M gm) M (ints (free.take M)) rfl (JO.o.alloc _) ⟨w4.heap.size,0,none⟩ 1 1 [.int .i64 ((i:Nat):Int)] rfl rfl (ag.Qh _ _ _ _ rfl) (by simp[Value.oneCell']) (by omega) (by unfold maxLen;omega) (by omega) (by simp;omega) (w4.heap.size+1) (by simp) ?_);intro gg cq w6 cm cX lz tM;have l8:Hid (Below w.heap.size w w6):=Wt (bG.o.alloc DY _) cX (fun q hq=>rX.o q hq);have rL:Hid (PM l w r (.slice (some ⟨gg,0,none⟩) (M+1) cq) (.int .i64 ((i+1:Nat):Int)) w6):=Qqx (HN.o ▸ ya.o) cm l8.o (by rw[<-HN.o];omega) (by omega) (lV.o ▸ by omega);clear cm cX lz tM;go_wp2_with fail
        have yX:n-(intOf (.int .i64 (((i:Nat):Int)+1))).toNat<n-(intOf (.int .i64 ((i:Nat):Int))).toNat:=by simp[intOf];omega
        have dc:(((i+1:Nat):Int))=((i:Nat):Int)+1:=by omega
        rw[dc]at rL
        first|exact⟨rL.o,yX⟩|exact⟨by (repeat apply Exists.intro);exact⟨rL.o,rfl⟩,yX⟩
       have hF:Hid (r=false):=by show _=_;rw[<-fE.o,Gm (by simp only;rw[<-fU.o];exact xm)]
       rw[abC xm]at HQ;clear xm;go_wp2_with fail;go_quiet ((go_at_call 102;exact Calls.quiet_of (HQ.o _ _)));go_wp2_with fail;go_ret;exact⟨by rw[hF.o];rfl,Qz aD.o (Qs w2 nq)⟩
   have hF:Hid (r=false):=by
    show _=_;rw[<-fE.o];refine Vr ?_;unfold ae.Zd;simp only;rw[iT.o,kV.o]
    cases b<;>cases c<;>first|exact absurd rfl rf|simp
   cases b<;>cases c<;>first|exact absurd rfl rf|skip
   all_goals
    go_wp2_with fail;rw[<-aQ];clear aQ;refine(Tk op _).mono ?_;rintro e w2 ⟨rfl,rfl⟩;rw[iT.o];go_wp2_with fail;go_ret;exact⟨by rw[hF.o];rfl,nY.o⟩
  obtain rfl:i=n:=by omega
  have HF:Hid (r=(N==1)):=by show _=_;rw[<-HG.o,HN.o,List.drop_length,lV.o];rfl
  have hN1:(((N:Nat):Int)==1)=(N==1):=by rw[abA];simp;omega
  clear hlt;go_wp2_with fail;go_ret;exact⟨by rw[HF.o];rfl,HB.o⟩
theorem Nx (n:ae.Ln):n.flat.length=n.size:=by
 cases n with
 |nothing=>rfl
 |lets x e=>simp[ae.Ln.flat,ae.Ln.size,U3]
 |cmd x l=>simp[ae.Ln.flat,ae.Ln.size,Mp]
theorem Qhh {n:ae.Ln}{x:ae.NI}(h:x∈ae.nL n.flat):x.text.length<=lL n:=by
 rw[<-Qcw];unfold gI;obtain⟨y,E,rfl⟩:=adR.1 h
 have:∀(l:List ae.Node) (y:ae.Node),y∈l->y.text.length<=(l.map fun n=>n.text.length).sum:=by
  intro l y E
  induction l with
  |nil=>cases E
  |cons a l ih=>
   rcases abY.1 E with rfl|E
   ·simp
   have:=ih E;simp only[abK,adY];omega
 exact this _ _ E
structure sx (n:ae.Ln):Prop where
 wf:n.wf
 size:n.size<=4096
 txt:∀x∈ae.nL n.flat,x.text.length<=67108864
 prl:n.pr.length<=67108864
theorem Qwr {n:ae.Ln}(h:n.wf):ae.Qi ae.WV (ae.nL n.flat).length 0 [] (ae.nL n.flat)=true:=by have:=ae.Gt ae.YL n h;rw[show (ae.nL n.flat).length=n.size by rw[ae.nL,aay,Nx]];exact this
theorem Qwa {l:List ae.NI}(hg:ae.Qi ae.WV l.length 0 [] l=true)(h0:l≠[])(hl:l.length<=4096)(hs:(l.map fun x=>x.text.length).sum<=1048576):∃n:ae.Ln,sx n/\ae.nL n.flat=l:=by
 obtain⟨n,h,E⟩:=ae.Qjg ae.YL l.length l [] (fun e he=>by cases he) (by simp[ae.Xn]) hg h0
 have e:ae.nL n.flat=l:=by rw[E];rfl
 have H:n.size=l.length:=by rw[<-e,ae.nL,aay,Nx]
 have J:lL n=(l.map fun x=>x.text.length).sum:=by rw[<-Qcw,<-e,ae.nL,aeE];rfl
 have I:=Qc6 n;exact⟨n,⟨h,by omega,fun x hx=>by have:=Qhh hx;omega,by omega⟩,e⟩
def YM:Bytes:=[112,114,105,110,116,32,45,65,39,94,50]
def Uo:ae.Ln:=.cmd [112,114,105,110,116] (.cons (.neg (.pow (.turn (.name [65])) 2)) .nil)
theorem Qwz:Uo.pr=YM:=by
 have e:ae.ar 2=[50]:=by kernel_rfl
 simp[Uo,ae.Ln.pr,ae.aV.pr,ae.Ex.pr,e,YM,ae.par,ae.Qy,ae.Ex.op,ae.Sf,ae.P7,ae.aV.dX]
theorem Qf2:Uo.wf:=by refine⟨⟨1,by kernel_rfl⟩,by decide,⟨1,by kernel_rfl⟩,trivial⟩
theorem Qwx:ae.nL Uo.flat=[⟨2,[65],[]⟩,⟨5,[],[0]⟩,⟨9,[50],[1]⟩,⟨4,[],[2]⟩,⟨12,[112,114,105,110,116],[3]⟩]:=by
 have e:ae.ar 2=[50]:=by kernel_rfl
 simp[Uo,ae.Ln.flat,ae.aV.flat,ae.Ex.flat,ae.Ex.size,ae.aV.roots,ae.nL,ae.Node.gH,e]
theorem Qhn:sx Uo:=⟨Qf2,by decide,by rw[Qwx];decide,by rw[Qwz];decide⟩
def Jz (l:List Nat):List Int:=l.map fun k:Nat=>(k:Int)
def ZH (R:Nat)(tv bv:Value)(out:Bytes)(o m:Nat)(es:List ae.Ex)(w:World)(i:Value)(wr:World):Prop:=
 ∃k bv',i=.int .i64 ((k:Nat):Int)/\k<=es.length/\dI wr R tv bv' (out++ae.Wx es k) o (max m (o+ae.pd es k))/\Wr R bv.ownBlock w wr/\Mv w bv.ownBlock bv'.ownBlock
theorem Qf1:∀(ks:ae.aV) (i:Nat),i<=(ae.bO ks).length->(ae.Wx (ae.bO ks) i).length<=ks.pr.length:=by
 intro ks i h;rw[<-ae.Cf ks]
 have:∀d,i+d<=(ae.bO ks).length->(ae.Wx (ae.bO ks) i).length<=(ae.Wx (ae.bO ks) (i+d)).length:=by
  intro d
  induction d with
  |zero=>intro _;exact aaa _
  |succ d ih=>intro I;have H:=ih (by omega);have E:(ae.bO ks)[i+d]?=some (ae.bO ks)[i+d]:=aad (by omega);rw[show i+(d+1)=(i+d)+1 by omega,ae.Te E,aac];omega
 have:=this ((ae.bO ks).length-i) (by omega)
 rwa [show i+((ae.bO ks).length-i)=(ae.bO ks).length by omega]at this
theorem ZF (ks:ae.aV)(IH:∀e∈ae.bO ks,Xt e)(l:List ae.NI)(R p:Nat)(tv bv:Value)(out:Bytes)(o m:Nat)(w:World)(h:dI w R tv bv out o m)(ht:eB w R tv l)(hs:ae.bN l p (ks.flat p))(hl:out.length+ks.pr.length<=274877906944)(ho:o+2*ks.size+1<=100000)(hp:p+ks.size<=100000)
  (op:Nat) (hop:op=10\/op=12) (text:ByteArray) (kv:Value) (hk:KL w R kv (Jz (ks.roots p))):
  Calls Tryz.prog 108 #[.pointer (some ⟨R,0,none⟩),.agg #[.int .i64 (op:Nat),.string text,kv]] w (kI R tv bv (out++ks.pr) o (max m (o+ks.dp)) (.tuple #[]) w):=by
 have tL:∀s q,ae.Qy op s q=false:=by intro s q;rcases hop with rfl|rfl<;>rfl
 have SC:=hk;obtain⟨ko,aj,rfl,k1,k2,-⟩:=hk
 have hn:(Jz (ks.roots p)).length=(ae.bO ks).length:=by rw[Jz,aay,ae.Rk]
 obtain⟨n,bf⟩:=xq ((Jz (ks.roots p)).length);rw[<-bf]at k1 hn SC ⊢;have rO:=zq SC;have HN:=zq bf;have aT:=h.lt;obtain⟨w1,aQ⟩:∃w1,w1=w.alloc (.cells #[.int .i64 (op:Nat),.string text,.slice ko n aj] 43):=⟨_,rfl⟩
 have hb1:Below w.heap.size w w1:=by rw[aQ];exact Qq _ _
 have cL:=zq (h.below hb1);have AE:=zq (ht.below (hb1.mono (abD aT)));have zJ:=zq (SC.below (hb1.mono (abD aT)))
 have hG:w1.heap[w.heap.size]?=some (.cells #[.int .i64 (op:Nat),.string text,.slice ko n aj] 43 (0,0)):=by rw[aQ];exact aaz _ _
 have HG:=zq hG;have aC:=zq hb1;have uL:Hid (∀q,bv.ownBlock=some q->q<w.heap.size):=fun q hq=>(h.own.lt q hq).2;have eo:=zq hs;have bR:=zq hn;have uM:=zq tL;have eE:w.heap.size<w1.heap.size:=(aal.1 hG).1
 have acX:n<=100000:=by
  have:∀ks:ae.aV,(ae.bO ks).length<=ks.size:=by
   intro ks
   induction ks using ae.aV.rec (motive_1:=fun _=>True) with
   |nil=>exact aao _
   |cons a l _ ih=>have:=ae.Q5 a;show (ae.bO l).length+1<=a.size+l.size;omega
   |_=>trivial
  have:=this ks;omega
 clear h ht hs hb1 tL bf hn hop SC;go_enter Tryz.func108,Tryz.ntmps108;go_wp2_with fail;rw[<-aQ];obtain⟨G,hGe⟩:=xq w.heap.size;have aai:=aT;rw[<-hGe]at HG uL eE aT ⊢;have j7:=zq hGe;have jP:=zq aC.o;clear aQ hGe hG;go_loopw [8] (fun i wr=>ZH R tv bv out o m (ae.bO ks) w1 i wr) (fun i _=>n-(intOf i).toNat)
 case atStart=>exact⟨0,bv,rfl,aao _,by rw[ae.Qvr,ae.Qgh,ab4];rw[show max m (o+0)=m by have:=cL.o.le;omega];exact cL.o,Wr.refl _ _ _,Mv.refl _ _⟩
 case round=>
  obtain⟨k,bv',rfl,hk,hS,hW,hM⟩:=hrel;have LG:wr.heap[G]?=some (.cells #[.int .i64 (op:Nat),.string text,.slice ko n aj] 43 (0,0)):=(hW.block G (by omega) (by omega) (fun e=>by have:=uL.o G e.symm;omega)).trans HG.o
  have c0:wr.cell? ⟨G,0,none⟩=some (.int .i64 (op:Nat)):=by rw[aam _ _ 0 _ _ _ LG];rfl
  have c1:wr.cell? ⟨G,1,none⟩=some (.string text):=by rw[aam _ _ 1 _ _ _ LG];rfl
  have c2:wr.cell? ⟨G,2,none⟩=some (.slice ko n aj):=by rw[aam _ _ 2 _ _ _ LG];rfl
  have HS:=zq hS;have HW:=zq hW;have HM:=zq hM;have bn:=zq LG;rw[<-bR.o]at hk;clear hS hW hM LG;by_cases hlt:k<n
  ·obtain⟨e,fC⟩:∃e,(ae.bO ks)[k]?=some e:=⟨_,aad (by rw[<-bR.o];exact hlt)⟩
   obtain⟨p',hr1,hr2,hr3,hr4⟩:=ae.Qge (l:=l) ks p k e fC;have iN:Xt e:=IH e (aah fC);have zG:=zq iN
   have DJ:(Jz (ks.roots p))[k]?=some ((p'+e.size-1:Nat):Int):=by rw[Jz,ads,hr1];rfl
   have HSD:=zq DJ;have HSE:=zq (hr2 eo.o);have hep:=ae.Q5 e;have XF:Hid (ae.Wx (ae.bO ks) (k+1)=ae.Wx (ae.bO ks) k++ae.Kn k e):=ae.Te fC;have HDP:Hid (ae.pd (ae.bO ks) (k+1)=max (ae.pd (ae.bO ks) k) e.dp):=ae.Qgm fC;have DR:=Qf1 ks (k+1) (by rw[<-bR.o];omega);rw[XF.o,aac]at DR
   have hes:e.size<=ks.size:=by omega
   have pF:Hid (n-(k+1)<n-k):=by show _<_;omega
   have cE:decide (((k:Nat):Int)<((n:Nat):Int))=true:=abH (by omega);have hWR:Hid (Below R w wr):=((jP.o).mono (abD aai)).trans (HW.o.gX (by omega) (fun q hq=>cL.o.gt q hq));have jT:Hid (eB wr R tv l):=AE.o.below (HW.o.gX (by omega) (fun q hq=>cL.o.gt q hq));have yh:Hid (KL wr R (.slice ko n aj) (Jz (ks.roots p))):=zJ.o.below (HW.o.gX (by omega) (fun q hq=>cL.o.gt q hq));have uu:=HW.o.size;clear fC hr1 hr2 iN DJ;by_cases h0:k=0
   ·have tV:ae.Kn k e=e.pr:=by unfold ae.Kn;rw[if_neg (by omega)];rfl
    rw[tV]at DR;have WK:=zq tV;have HC:=zq (Jm op k e zG.o l R p' tv bv' _ o _ wr HS.o jT.o HSE.o (by rw[uM.o k e.op,aac];show _+e.pr.length<=_;omega) (by omega) (by omega) text _ _ yh.o HSD.o);rw[uM.o k e.op]at HC;clear tV;subst h0;go_wp2_with fail;refine HC.o.mono ?_;rintro y w5 ⟨rfl,kK,a1,a2,a3⟩
    have ah:Hid (ZH R tv bv out o m (ae.bO ks) w1 (.int .i64 1) w5):=by
     refine⟨0+1,kK,rfl,by rw[<-bR.o];omega,?_,HW.o.trans HM.o a2,Mv.trans (R:=R) (w':=wr) HM.o HW.o.size a3⟩;rw[XF.o,HDP.o,WK.o,<-aar]
     have e2:max m (o+max (ae.pd (ae.bO ks) 0) e.dp)=max (max m (o+ae.pd (ae.bO ks) 0)) (o+e.dp):=by omega
     rw[e2];exact a1
    clear a1 a2 a3;go_wp2_with fail
    first|exact⟨ah.o,pF.o⟩|exact⟨by (repeat apply Exists.intro);exact⟨ah.o,rfl⟩,pF.o⟩
   have dC:0<k:=by omega
   have tV:ae.Kn k e=[44,32]++e.pr:=by unfold ae.Kn;rw[if_pos (by omega)]
   rw[tV,aac]at DR;have h2l:([44,32]:Bytes).length=2:=rfl;have WK:=zq tV;have qD:(out++ae.Wx (ae.bO ks) k).length=out.length+(ae.Wx (ae.bO ks) k).length:=aac;have WY:=zq (Z7 R tv bv' _ o _ [44,32] wr HS.o (by omega) (by omega));clear tV h0;go_wp2_with fail;refine WY.o.mono ?_;rintro y w4 ⟨rfl,oF,a1,a2,a3⟩
   have wP:w4.heap[G]?=some (.cells #[.int .i64 (op:Nat),.string text,.slice ko n aj] 43 (0,0)):=(a2.block G (by omega) (by omega) (fun e=>by
    rcases HM.o G e.symm with h1|h1
    ·have:=uL.o G h1;omega
    omega)).trans bn.o
   have d0:w4.cell? ⟨G,0,none⟩=some (.int .i64 (op:Nat)):=by rw[aam _ _ 0 _ _ _ wP];rfl
   have d1:w4.cell? ⟨G,1,none⟩=some (.string text):=by rw[aam _ _ 1 _ _ _ wP];rfl
   have d2:w4.cell? ⟨G,2,none⟩=some (.slice ko n aj):=by rw[aam _ _ 2 _ _ _ wP];rfl
   have hbl:=a2.gX (by omega) (fun q hq=>HS.o.gt q hq);have j4:Hid (Wr R bv.ownBlock w1 w4):=HW.o.trans HM.o a2;have kV:Hid (Mv w1 bv.ownBlock oF.ownBlock):=Mv.trans (R:=R) (w':=wr) HM.o HW.o.size a3;have HC:=zq (Jm op k e zG.o l R p' tv oF _ o _ w4 a1 (jT.o.below hbl) HSE.o (by rw[uM.o k e.op,aac,qD];show _+e.pr.length<=_;omega) (by omega) (by omega) text _ _ (yh.o.below hbl) HSD.o);rw[uM.o k e.op]at HC;clear a1 a2 a3 wP hbl c0 c1 c2 qD;go_wp2_with fail;refine HC.o.mono ?_;rintro y w5 ⟨rfl,kK,a1,a2,a3⟩
   have ah:Hid (ZH R tv bv out o m (ae.bO ks) w1 (.int .i64 ((k+1:Nat):Int)) w5):=by
    refine⟨k+1,kK,rfl,by rw[<-bR.o];omega,?_,j4.o.trans kV.o a2,Mv.trans (R:=R) (w':=w4) kV.o j4.o.size a3⟩;rw[XF.o,HDP.o,WK.o,<-aar,<-aar]
    have e2:max m (o+max (ae.pd (ae.bO ks) k) e.dp)=max (max m (o+ae.pd (ae.bO ks) k)) (o+e.dp):=by omega
    rw[e2];exact a1
   clear a1 a2 a3;go_wp2_with fail
   first|exact⟨ah.o,pF.o⟩|exact⟨by (repeat apply Exists.intro);exact⟨ah.o,rfl⟩,pF.o⟩
  have cE:decide (((k:Nat):Int)<((n:Nat):Int))=false:=abC (by omega)
  have bh:k=n:=by omega
  have hS:=HS.o;rw[bh,bR.o,ae.Cf,ae.Qkc]at hS;have AA:=zq hS;have HWW:Hid (Wr R bv.ownBlock w wr):=(Wr.af jP.o).trans (Mv.refl _ _) HW.o;have cI:Hid (Mv w bv.ownBlock bv'.ownBlock):=Mv.trans (R:=R) (w':=w1) (Mv.refl _ _) jP.o.size HM.o;clear hS bh;go_wp2_with fail
  first|go_end0|refine aaI (adF rfl _ _ _) rfl ?_
  exact⟨rfl,bv',AA.o,HWW.o,cI.o⟩
end Go.Proofs.YtgfmiladfeoldaaGreatDoor
