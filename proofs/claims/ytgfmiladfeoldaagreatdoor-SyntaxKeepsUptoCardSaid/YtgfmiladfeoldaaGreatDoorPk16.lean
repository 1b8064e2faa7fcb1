import Derived.Test.YtgfmiladfeoldaaGreatDoorPk10
import Derived.Test.YtgfmiladfeoldaaGreatDoorPk9
set_option linter.unusedSimpArgs false
set_option linter.unusedVariables false
set_option maxRecDepth 100000
set_option maxHeartbeats 16000000
namespace Go.Proofs.YtgfmiladfeoldaaGreatDoor
open Go.RowKit NatP LexP
theorem Qp6 {x:Bool×Nat}(h:SynP.Fq x):Ve x.1 x.2=SynP.intT x:=by
 obtain⟨b,n⟩:=x;unfold Ve SynP.intT
 cases b with
 |false=>simp;rfl
 |true=>
  have E:n≠0:=by have H:0<n:=h rfl;omega
  simp[E];rfl
theorem Fa (m:SynP.MatV)(h:∀x∈m.at_,SynP.Fq x):Rh m.rows m.cols (V0 m.at_)=SynP.matT m:=by
 have e:V0 m.at_=m.at_.map SynP.intT:=List.map_congr_left (fun x hx=>Qp6 (h x hx));rw[e];unfold Rh SynP.matT;by_cases h0:m.at_=[]
 ·rw[if_pos h0,h0,if_pos (by rfl)]
 ·rw[if_neg h0,if_neg (by simpa using h0)]
theorem Sh {k:Nat}{s:SynP.St}(h:SynP.Qb k s.ts=true):s.adv.ts.length+1=s.ts.length:=by
 have E:=List.length_pos_iff.2 (Vw h);show s.ts.tail.length+1=_;rw[List.length_tail];omega
theorem Qxf {fin f:Nat}{s s':SynP.St}{m:SynP.MatV}(h:SynP.Xi fin f s=some (.ok (m,s'))):s'.ts.length+1<=s.ts.length:=by
 unfold SynP.Xi at h;obtain⟨u,s1,I,H⟩:=SynP.Qv h;have k1:=Vs I;split at H
 ·unfold SynP.Yr at H
  obtain⟨a,s2,a1,a2⟩:=SynP.Qv H;obtain⟨u2,s3,b1,b2⟩:=SynP.Qv a2;obtain⟨c,s4,c1,c2⟩:=SynP.Qv b2;obtain⟨u3,s5,d1,d2⟩:=SynP.Qv c2;have e1:=(SynP.Z0 a1).2;have e2:=(SynP.Yu b1).2;have e3:=(SynP.Z0 c1).2;have e4:=(SynP.Yu d1).2;split at d2
  ·exact(SynP.Xu d2).elim
  ·have e:=SynP.Qh d2
   cases e
   try simp only at*
   omega
 ·obtain⟨q,s2,J,E⟩:=SynP.Qv H
  have e1:=(SynP.Tq fin f _ _ _ _ J).2;unfold SynP.Ys at E;split at E
  ·exact(SynP.Xu E).elim
  ·split at E
   ·exact(SynP.Xu E).elim
   ·have e:=SynP.Qh E
    cases e
    try simp only at*
    omega
def tot (l:List (List Nat)):Nat:=(l.map List.length).sum
theorem Rf (fin:Nat):∀(f:Nat) (acc:List Nat) (s:SynP.St) (r:List Nat×SynP.St),SynP.Q9 fin f acc s=some (.ok r)->r.1.length+r.2.ts.length<=acc.length+s.ts.length
 |0,_,_,_,h=>by cases h
 |f+1,acc,s,r,h=>by
  unfold SynP.Q9 at h;split at h
  ·obtain⟨m,s',h1,h2⟩:=SynP.Qv h
   have E:=Rf fin f _ _ _ h2;have H:=Yo h1;rw[List.length_append,List.length_singleton]at E;omega
  ·rw[SynP.Qh h];exact Nat.le_refl _
theorem Rp (fin:Nat):∀(f:Nat) (acc:List (List Nat)) (s:SynP.St) (r:List (List Nat)×SynP.St),SynP.Xq fin f acc s=some (.ok r)->tot r.1+r.2.ts.length<=tot acc+s.ts.length/\r.1.length+r.2.ts.length<=acc.length+s.ts.length
 |0,_,_,_,h=>by cases h
 |f+1,acc,s,r,h=>by
  unfold SynP.Xq at h;obtain⟨n,s1,h1,h2⟩:=SynP.Qv h;obtain⟨x,s2,H,E⟩:=SynP.Qv h2;have k1:=Yo h1;have k3:=Rf fin f _ _ _ H;have k4:=(SynP.Tn fin f _ _ _ H).2
  have kt:tot (acc++[x])=tot acc+x.length:=by simp[tot]
  simp only[List.length_singleton]at k3;split at E
  ·rw[SynP.Qh E]
   have k5:=(SynP.Keep.adv s2).2;simp only[kt,List.length_append,List.length_singleton]at*;omega
  ·obtain⟨u,s3,I,J⟩:=SynP.Qv E
   have k5:=(SynP.Yu I).2;have k6:=Rp fin f _ _ _ J;rw[kt,List.length_append,List.length_singleton]at k6
   try simp only at*
   omega
theorem Ug {fin f:Nat}{s:SynP.St}{r:List (List Nat)×SynP.St}(h:SynP.Q5 fin f s=some (.ok r)):tot r.1<=s.ts.length/\r.1.length<=s.ts.length:=by
 unfold SynP.Q5 at h;obtain⟨u,s1,H,E⟩:=SynP.Qv h;have k1:=(SynP.Yu H).2;split at E
 ·rw[SynP.Qh E];simp[tot]
 ·have:=Rp fin f _ _ _ E
  simp[tot]at this k1 ⊢;omega
theorem Bx {fin f:Nat}{s s':SynP.St}{l:List (List Nat)}(h:SynP.Q5 fin f s=some (.ok (l,s'))):s'.ts.length+1<=s.ts.length:=by
 unfold SynP.Q5 at h;obtain⟨u,s1,H,E⟩:=SynP.Qv h;have k1:=Vs H;split at E
 ·have e:=SynP.Qh E
  cases e
  have:=Jy s1;omega
 ·have:=(SynP.U7 fin f _ _ _ E).2
  simp only at this;omega
theorem Cb:∀{l:List (List Nat)} {s:List Nat},s∈l->s.length<=tot l
 |a::l,s,h=>by
  show _<=a.length+tot l;rcases List.mem_cons.1 h with rfl|h
  ·omega
  ·have:=Cb h;omega
theorem Wg (sep:Qx):∀l:List Qx,(SynP.Xn sep l).length<=(l.map List.length).sum+l.length*sep.length
 | []=>Nat.zero_le _
 | [a]=>by show a.length<=(a.length+0)+1*_;omega
 |a::b::l=>by
  have h1:=Wg sep (b::l);show (a++sep++SynP.Xn sep (b::l)).length<=(a.length+((b::l).map List.length).sum)+((b::l).length+1)*sep.length;simp only[List.length_append];rw[Nat.succ_mul];omega
theorem Qkf (t:Qx):(SynP.decT (SynP.U1 t)).length<=max 1 t.length:=by
 unfold SynP.decT;split
 ·show 1<=_;omega
 ·rw[List.length_map]
  refine Nat.le_trans (NatP.Ud (w:=(digs (t.filter NumP.Xz)).length) (NatP.U8 fun x hx=> ?_)) ?_
  ·obtain⟨c,h,rfl⟩:=List.mem_map.1 hx
   have:=(List.mem_filter.1 h).2;unfold NumP.Xz at this;simp at this;omega
  ·rw[show (digs (t.filter NumP.Xz)).length=(t.filter NumP.Xz).length from List.length_map _]
   exact Nat.le_trans (List.length_filter_le _ _) (Nat.le_max_right _ _)
def Lb (s:SynP.St):Nat:=(s.ts.map fun t=>t.2.1.length+1).sum
def sum1 (x:List Nat):Nat:=(x.map fun n=>(SynP.decT n).length).sum
def sumD (l:List (List Nat)):Nat:=(l.map sum1).sum
theorem Jp (s:SynP.St):Lb s.adv<=Lb s:=by
 unfold Lb SynP.St.adv
 cases s.ts with
 |nil=>exact Nat.le_refl _
 |cons t l=>simp
theorem Z5 {fin:Nat}{s s':SynP.St}{n:Nat}(h:SynP.Qd fin s=some (.ok (n,s'))):(SynP.decT n).length+Lb s'<=Lb s:=by
 unfold SynP.Qd at h;split at h
 ·rename_i H
  have e:=SynP.Qh h
  injection e with e1 e2
  subst e1 e2;have E:=Qkf (SynP.Xl s.ts);unfold Lb SynP.St.adv
  cases hts:s.ts with
  |nil=>rw[hts]at H;cases H
  |cons t l=>
   rw[hts]at E;change (SynP.decT (SynP.U1 t.2.1)).length<=max 1 t.2.1.length at E;show (SynP.decT (SynP.U1 t.2.1)).length+(l.map fun t=>t.2.1.length+1).sum<=((t::l).map fun t=>t.2.1.length+1).sum;rw[List.map_cons,List.sum_cons];omega
 ·cases h
theorem want_lb {fin:Nat}{x:Qx}{s s':SynP.St}{u:Unit}(h:SynP.want fin x s=some (.ok (u,s'))):Lb s'<=Lb s:=by
 unfold SynP.want at h;split at h
 ·have e:=SynP.Qh h
  injection e with e1 e2
  subst e2;exact Jp s
 ·cases h
theorem Gg (fin:Nat):∀(f:Nat) (acc:List Nat) (s:SynP.St) (r:List Nat×SynP.St),SynP.Q9 fin f acc s=some (.ok r)->sum1 r.1+Lb r.2<=sum1 acc+Lb s
 |0,_,_,_,h=>by cases h
 |f+1,acc,s,r,h=>by
  unfold SynP.Q9 at h;split at h
  ·obtain⟨m,s',h1,h2⟩:=SynP.Qv h
   have E:=Gg fin f _ _ _ h2;have I:=Z5 h1
   have H:sum1 (acc++[m])=sum1 acc+(SynP.decT m).length:=by simp[sum1]
   rw[H]at E;omega
  ·rw[SynP.Qh h];exact Nat.le_refl _
theorem Kt (fin:Nat):∀(f:Nat) (acc:List (List Nat)) (s:SynP.St) (r:List (List Nat)×SynP.St),SynP.Xq fin f acc s=some (.ok r)->sumD r.1+Lb r.2<=sumD acc+Lb s
 |0,_,_,_,h=>by cases h
 |f+1,acc,s,r,h=>by
  unfold SynP.Xq at h;obtain⟨n,s1,h1,h2⟩:=SynP.Qv h;obtain⟨x,s2,H,E⟩:=SynP.Qv h2;have k1:=Z5 h1;have k3:=Gg fin f _ _ _ H
  have kn:sum1 [n]=(SynP.decT n).length:=by simp[sum1]
  have kt:sumD (acc++[x])=sumD acc+sum1 x:=by simp[sumD]
  simp only[kn]at k3;split at E
  ·rw[SynP.Qh E]
   have k5:=Jp s2;simp only[kt]at*;omega
  ·obtain⟨u,s3,I,J⟩:=SynP.Qv E
   have k5:=want_lb I;have k6:=Kt fin f _ _ _ J;rw[kt]at k6
   try simp only at*
   omega
theorem Ks {fin f:Nat}{s:SynP.St}{r:List (List Nat)×SynP.St}(h:SynP.Q5 fin f s=some (.ok r)):sumD r.1<=Lb s:=by
 unfold SynP.Q5 at h;obtain⟨u,s1,H,E⟩:=SynP.Qv h;have k1:=want_lb H;split at E
 ·rw[SynP.Qh E];exact Nat.zero_le _
 ·have:=Kt fin f _ _ _ E
  have k0:sumD []=0:=rfl;omega
theorem Qju (x:List Nat):(simT x).length<=sum1 x+x.length:=by
 have h:=Wg [32] (x.map SynP.decT);rw[List.length_map,List.map_map]at h;have E:([32]:Qx).length=1:=rfl;rw[E,Nat.mul_one]at h;exact h
theorem Qqq:∀l:List (List Nat),((l.map simT).map List.length).sum<=sumD l+tot l
 | []=>Nat.zero_le _
 |a::l=>by
  have h1:=Qqq l;have h:=Qju a
  have e1:sumD (a::l)=sum1 a+sumD l:=by simp[sumD]
  have e2:tot (a::l)=a.length+tot l:=by simp[tot]
  rw[e1,e2,List.map_cons,List.map_cons,List.sum_cons];omega
theorem Qz0 {l:List (List Nat)}(hd:sumD l<=201326592)(ht:tot l<=67108864)(hl:l.length<=67108864):(SynP.Xn [44,32] (l.map simT)).length<=70368744177664:=by
 have H:=Qqq l;have h:=Wg [44,32] (l.map simT);rw[List.length_map]at h;have E:([44,32]:Qx).length=2:=rfl;rw[E]at h;omega
theorem Qp9 {L:List Tok}{a:Nat}{s:SynP.St}(h:L.drop a=s.ts):Lb s<=(L.map fun t=>t.2.1.length+1).sum:=by
 unfold Lb;rw[<-h]
 conv=>rhs;rw[<-List.take_append_drop a L,List.map_append,List.sum_append]
 omega
mutual
def exWt:SynP.Ex->Nat
 | .num n=>(SynP.decT n).length
 | .name x=>x.length
 | .mat m=>(SynP.matT m).length
 | .cpx l=>(SynP.cpxT l).length
 | .neg a=>exWt a
 | .turn a=>exWt a
 | .add a b=>exWt a+exWt b
 | .sub a b=>exWt a+exWt b
 | .mul a b=>exWt a+exWt b
 | .pow a n=>exWt a+(SynP.decT n).length
 | .call x l=>x.length+Vj l
def Vj:SynP.Exs->Nat
 | .nil=>0
 | .cons a l=>exWt a+Vj l
end
def lnWt:SynP.Ln->Nat
 | .nothing=>0
 | .lets x e=>x.length+exWt e
 | .cmd x l=>x.length+Vj l
theorem Wz (b:Bool)(t:Qx):(SynP.par b t).length<=t.length+2:=by
 unfold SynP.par;split
 ·simp
 ·omega
mutual
theorem Vo:∀e:SynP.Ex,e.pr.length+2<=exWt e+10*e.size
 | .num n=>by simp only[SynP.Ex.pr,exWt,SynP.Ex.size];omega
 | .name x=>by simp only[SynP.Ex.pr,exWt,SynP.Ex.size];omega
 | .mat m=>by simp only[SynP.Ex.pr,exWt,SynP.Ex.size];omega
 | .cpx l=>by simp only[SynP.Ex.pr,exWt,SynP.Ex.size];omega
 | .neg a=>by
  have:=Vo a;have:=Wz (SynP.Qp 4 0 a.op) a.pr
  simp only[SynP.Ex.pr,exWt,SynP.Ex.size,List.length_append,List.length_cons,List.length_nil];omega
 | .turn a=>by
  have:=Vo a;have:=Wz (SynP.Qp 5 0 a.op) a.pr
  simp only[SynP.Ex.pr,exWt,SynP.Ex.size,List.length_append,List.length_cons,List.length_nil];omega
 | .add a b=>by
  have:=Vo a;have:=Vo b;have:=Wz (SynP.Qp 6 0 a.op) a.pr;have:=Wz (SynP.Qp 6 1 b.op) b.pr
  simp only[SynP.Ex.pr,exWt,SynP.Ex.size,List.length_append,List.length_cons,List.length_nil];omega
 | .sub a b=>by
  have:=Vo a;have:=Vo b;have:=Wz (SynP.Qp 7 0 a.op) a.pr;have:=Wz (SynP.Qp 7 1 b.op) b.pr
  simp only[SynP.Ex.pr,exWt,SynP.Ex.size,List.length_append,List.length_cons,List.length_nil];omega
 | .mul a b=>by
  have:=Vo a;have:=Vo b;have:=Wz (SynP.Qp 8 0 a.op) a.pr;have:=Wz (SynP.Qp 8 1 b.op) b.pr
  simp only[SynP.Ex.pr,exWt,SynP.Ex.size,List.length_append,List.length_cons,List.length_nil];omega
 | .pow a n=>by
  have:=Vo a;have:=Wz (SynP.Qp 9 0 a.op) a.pr
  simp only[SynP.Ex.pr,exWt,SynP.Ex.size,List.length_append,List.length_cons,List.length_nil];omega
 | .call x l=>by
  have:=Qjm l;simp only[SynP.Ex.pr,exWt,SynP.Ex.size,List.length_append,List.length_cons,List.length_nil];omega
theorem Qjm:∀l:SynP.Exs,l.pr.length<=Vj l+10*l.size
 | .nil=>Nat.zero_le _
 | .cons a l=>by
  have:=Vo a;have:=Qjh l;simp only[SynP.Exs.pr,Vj,SynP.Exs.size,List.length_append];omega
theorem Qjh:∀l:SynP.Exs,l.prTail.length<=Vj l+10*l.size
 | .nil=>Nat.zero_le _
 | .cons a l=>by
  have:=Vo a;have:=Qjh l;simp only[SynP.Exs.prTail,Vj,SynP.Exs.size,List.length_append,List.length_cons,List.length_nil];omega
end
theorem Qhk:∀n:SynP.Ln,n.pr.length<=lnWt n+10*n.size
 | .nothing=>Nat.zero_le _
 | .lets x e=>by
  have:=Vo e
  simp only[SynP.Ln.pr,lnWt,SynP.Ln.size,List.length_append,List.length_cons,List.length_nil];omega
 | .cmd x .nil=>by simp only[SynP.Ln.pr,lnWt];omega
 | .cmd x (.cons a l)=>by
  have:=Qjm (.cons a l);simp only[SynP.Ln.pr,lnWt,SynP.Ln.size,List.length_append,List.length_cons,List.length_nil]at*;omega
def txWt (l:List SynP.Node):Nat:=(l.map fun n=>n.text.length).sum
theorem Jx (a b:List SynP.Node):txWt (a++b)=txWt a+txWt b:=by simp[txWt]
theorem Vq (n:SynP.Node):txWt [n]=n.text.length:=by simp[txWt]
mutual
theorem Je:∀(e:SynP.Ex) (o:Nat),txWt (e.flat o)=exWt e
 | .num n,_=>by simp[SynP.Ex.flat,exWt,txWt]
 | .name x,_=>by simp[SynP.Ex.flat,exWt,txWt]
 | .mat m,_=>by simp[SynP.Ex.flat,exWt,txWt]
 | .cpx l,_=>by simp[SynP.Ex.flat,exWt,txWt]
 | .neg a,o=>by simp[SynP.Ex.flat,exWt,Jx,Vq,Je a]
 | .turn a,o=>by simp[SynP.Ex.flat,exWt,Jx,Vq,Je a]
 | .add a b,o=>by simp[SynP.Ex.flat,exWt,Jx,Vq,Je a,Je b]
 | .sub a b,o=>by simp[SynP.Ex.flat,exWt,Jx,Vq,Je a,Je b]
 | .mul a b,o=>by simp[SynP.Ex.flat,exWt,Jx,Vq,Je a,Je b]
 | .pow a n,o=>by simp[SynP.Ex.flat,exWt,Jx,Vq,Je a]
 | .call x l,o=>by simp[SynP.Ex.flat,exWt,Jx,Vq,Hk l];omega
theorem Hk:∀(l:SynP.Exs) (o:Nat),txWt (l.flat o)=Vj l
 | .nil,_=>rfl
 | .cons a l,o=>by simp[SynP.Exs.flat,Vj,Jx,Je a,Hk l]
end
theorem Qh7:∀n:SynP.Ln,txWt n.flat=lnWt n
 | .nothing=>rfl
 | .lets x e=>by simp[SynP.Ln.flat,lnWt,Jx,Vq,Je];omega
 | .cmd x l=>by simp[SynP.Ln.flat,lnWt,Jx,Vq,Hk];omega
theorem Ho {fin:Nat}{s s':SynP.St}{n:Nat}(h:SynP.Qd fin s=some (.ok (n,s'))):Lb s'+1<=Lb s:=by
 unfold SynP.Qd at h;split at h
 ·rename_i E
  have e:=SynP.Qh h
  injection e with e1 e2
  subst e1 e2;unfold Lb SynP.St.adv
  cases hts:s.ts with
  |nil=>rw[hts]at E;cases E
  |cons t l=>
   show (l.map fun t=>t.2.1.length+1).sum+1<=((t::l).map fun t=>t.2.1.length+1).sum;rw[List.map_cons,List.sum_cons];omega
 ·cases h
theorem M7 {fin:Nat}{s s':SynP.St}{x:Qx}(h:SynP.name fin s=some (.ok (x,s'))):x.length+Lb s'<=Lb s:=by
 unfold SynP.name at h;split at h
 ·have e:=SynP.Qh h
  injection e with e1 e2
  subst e1 e2;unfold Lb SynP.St.adv SynP.Xl
  cases s.ts with
  |nil=>exact Nat.le_refl _
  |cons t l=>
   show t.2.1.length+(l.map fun t=>t.2.1.length+1).sum<=((t::l).map fun t=>t.2.1.length+1).sum;rw[List.map_cons,List.sum_cons];omega
 ·cases h
def sumE (l:List (Bool×Nat)):Nat:=(l.map fun x=>(SynP.decT x.2).length).sum
theorem Qkk (l:List (Bool×Nat))(x:Bool×Nat):sumE (l++[x])=sumE l+(SynP.decT x.2).length:=by simp[sumE]
theorem N0 (fin:Nat):∀(f n:Nat) (acc:List (Bool×Nat)) (s:SynP.St) (r:(Nat×List (Bool×Nat))×SynP.St),SynP.Qo fin f n acc s=some (.ok r)->sumE r.1.2+Lb r.2<=sumE acc+Lb s
 |0,_,_,_,_,h=>by cases h
 |f+1,n,acc,s,r,h=>by
  unfold SynP.Qo at h;split at h
  ·obtain⟨m,s',h1,h2⟩:=SynP.Qv h
   have E:=N0 fin f _ _ _ _ h2;have H:=Z5 h1
   have I:Lb (if SynP.Qk [45] s.ts then s.adv else s)<=Lb s:=by
    split
    ·exact Jp s
    ·exact Nat.le_refl _
   rw[Qkk]at E;simp only at E;omega
  ·rw[SynP.Qh h];exact Nat.le_refl _
theorem Hz (fin:Nat):∀(f:Nat) (acc:List (Bool×Nat)) (lens:List Nat) (s:SynP.St) (r:(List (Bool×Nat)×List Nat)×SynP.St),SynP.Xj fin f acc lens s=some (.ok r)->sumE r.1.1+Lb r.2<=sumE acc+Lb s
 |0,_,_,_,_,h=>by cases h
 |f+1,acc,lens,s,r,h=>by
  unfold SynP.Xj at h;obtain⟨x,s1,h1,h2⟩:=SynP.Qv h;have k1:=N0 fin f _ _ _ _ h1;split at h2
  ·rw[SynP.Qh h2]
   have:=Jp s1
   try simp only at*
   omega
  ·obtain⟨u,s2,E,H⟩:=SynP.Qv h2
   have:=want_lb E;have:=Hz fin f _ _ _ _ H
   try simp only at*
   omega
theorem Qkw (n:Nat):sumE (List.replicate n (false,0))=n:=by
 unfold sumE;rw[List.map_replicate];have:(SynP.decT 0).length=1:=rfl;simp[this]
theorem Qvi {fin f:Nat}{s:SynP.St}{r:SynP.MatV×SynP.St}(h:SynP.Xi fin f s=some (.ok r)):sumE r.1.at_+Lb r.2<=Lb s+4096/\Lb r.2<=Lb s:=by
 have J:=SynP.Ut h;unfold SynP.Xi at h;obtain⟨u,s1,O,I⟩:=SynP.Qv h;have k1:=want_lb O;split at I
 ·unfold SynP.Yr at I
  obtain⟨a,s2,K,E⟩:=SynP.Qv I;obtain⟨u,s3,T,U⟩:=SynP.Qv E;obtain⟨b,s4,Z,h8⟩:=SynP.Qv U;obtain⟨u,s5,h9,H⟩:=SynP.Qv h8;have:=Z5 K;have:=want_lb T;have:=Z5 Z;have:=want_lb h9;split at H
  ·exact(SynP.Xu H).elim
  ·have e:=SynP.Qh H
   subst e;have a2:a*b<=64*64:=Nat.mul_le_mul J.1 J.2.1;show sumE (List.replicate (a*b) (false,0))+Lb s5<=_/\Lb s5<=_;rw[Qkw];omega
 ·obtain⟨a,s2,K,E⟩:=SynP.Qv I
  have k2:=Hz fin f _ _ _ _ K;have k0:sumE []=0:=rfl;unfold SynP.Ys at E;split at E
  ·exact(SynP.Xu E).elim
  ·split at E
   ·exact(SynP.Xu E).elim
   ·have e:=SynP.Qh E
    subst e;simp only at k2 ⊢;omega
theorem Ae:∀R:List (List Qx),((R.map (SynP.Xn [32])).map List.length).sum<=(R.flatten.map List.length).sum+R.flatten.length
 | []=>Nat.zero_le _
 |a::R=>by
  have h1:=Ae R;have h:=Wg [32] a;have E:([32]:Qx).length=1:=rfl;rw[E,Nat.mul_one]at h;simp only[List.map_cons,List.sum_cons,List.flatten_cons,List.map_append,List.sum_append,List.length_append];omega
theorem Bf:∀l:List (Bool×Nat),((l.map SynP.intT).map List.length).sum<=sumE l+l.length
 | []=>Nat.zero_le _
 |x::l=>by
  have h1:=Bf l
  have h:(SynP.intT x).length<=(SynP.decT x.2).length+1:=by
   unfold SynP.intT;rw[List.length_append]
   split<;>simp<;>omega
  have e1:sumE (x::l)=(SynP.decT x.2).length+sumE l:=by simp[sumE]
  rw[e1,List.map_cons,List.map_cons,List.sum_cons,List.length_cons];omega
theorem Eh {n:Nat}(h:n<=64):(SynP.decT n).length<=2:=by
 unfold SynP.decT;split
 ·simp
 ·rw[List.length_map]
  exact NatP.Ud (by omega)
theorem Qw5 {m:SynP.MatV}(h:SynP.Nl m):(SynP.matT m).length<=sumE m.at_+8400:=by
 unfold SynP.matT;obtain⟨E,H,J,-⟩:=h;split
 ·have:=Eh E
  have:=Eh H;simp only[List.length_append,List.length_cons,List.length_nil];omega
 ·have I:(m.at_.map SynP.intT).length=m.rows*m.cols:=by rw[List.length_map,J]
  obtain⟨k1,k2⟩:=SynP.Vb m.cols m.rows _ I;have k3:=Ae (SynP.Xb m.cols m.rows (m.at_.map SynP.intT));rw[k2,I]at k3;have k4:=Bf m.at_;have k5:=Wg [59,32] ((SynP.Xb m.cols m.rows (m.at_.map SynP.intT)).map (SynP.Xn [32]))
  have k6:(SynP.Xb m.cols m.rows (m.at_.map SynP.intT)).length=m.rows:=by
   have:=congrArg List.length k1;rw[List.length_map,List.length_replicate]at this;exact this
  have K:([59,32]:Qx).length=2:=rfl;rw[List.length_map,k6,K]at k5;have O:m.rows*m.cols<=64*64:=Nat.mul_le_mul E H;simp only[List.length_append,List.length_cons,List.length_nil];omega
def cA (x:List Nat):Nat:=(x.map fun n=>(SynP.decT n).length+1).sum
def cL (l:List (List Nat)):Nat:=(l.map fun x=>cA x+2).sum
theorem Qpl (x:List Nat)(n:Nat):cA (x++[n])=cA x+((SynP.decT n).length+1):=by simp[cA]
theorem Qzi (l:List (List Nat))(x:List Nat):cL (l++[x])=cL l+(cA x+2):=by simp[cL]
theorem Em (fin:Nat):∀(f:Nat) (acc:List Nat) (s:SynP.St) (r:List Nat×SynP.St),SynP.Q9 fin f acc s=some (.ok r)->cA r.1+4*Lb r.2<=cA acc+4*Lb s
 |0,_,_,_,h=>by cases h
 |f+1,acc,s,r,h=>by
  unfold SynP.Q9 at h;split at h
  ·obtain⟨m,s',h1,h2⟩:=SynP.Qv h
   have E:=Em fin f _ _ _ h2;have H:=Z5 h1;have I:=Ho h1;rw[Qpl]at E;omega
  ·rw[SynP.Qh h];exact Nat.le_refl _
theorem Ff (fin:Nat):∀(f:Nat) (acc:List (List Nat)) (s:SynP.St) (r:List (List Nat)×SynP.St),SynP.Xq fin f acc s=some (.ok r)->cL r.1+4*Lb r.2<=cL acc+4*Lb s
 |0,_,_,_,h=>by cases h
 |f+1,acc,s,r,h=>by
  unfold SynP.Xq at h;obtain⟨n,s1,h1,h2⟩:=SynP.Qv h;obtain⟨x,s2,H,E⟩:=SynP.Qv h2;have k1:=Z5 h1;have k2:=Ho h1;have k3:=Em fin f _ _ _ H
  have kn:cA [n]=(SynP.decT n).length+1:=by simp[cA]
  rw[kn]at k3;split at E
  ·rw[SynP.Qh E]
   have k5:=Jp s2
   try simp only[Qzi]at*
   omega
  ·obtain⟨u,s3,I,J⟩:=SynP.Qv E
   have k5:=want_lb I;have k6:=Ff fin f _ _ _ J;rw[Qzi]at k6
   try simp only at*
   omega
theorem Qmn:∀a:List Nat,cA a=sum1 a+a.length
 | []=>rfl
 |x::a=>by
  have h1:=Qmn a
  have e1:cA (x::a)=(SynP.decT x).length+1+cA a:=by simp[cA]
  have e2:sum1 (x::a)=(SynP.decT x).length+sum1 a:=by simp[sum1]
  rw[e1,e2,List.length_cons];omega
theorem Qwq:∀l:List (List Nat),(SynP.cpxT l).length<=cL l+2:=by
 intro l;have h:=Wg [44,32] (l.map simT);have H:([44,32]:Qx).length=2:=rfl;rw[List.length_map,H]at h
 have E:∀l:List (List Nat),((l.map simT).map List.length).sum+l.length*2<=cL l:=by
  intro l
  induction l with
  |nil=>exact Nat.le_refl _
  |cons a l ih=>
   have k:=Qju a
   have e1:cL (a::l)=cA a+2+cL l:=by simp[cL]
   have e2:=Qmn a;rw[e1,List.map_cons,List.map_cons,List.sum_cons,List.length_cons];omega
 have I:=E l;show ([123]++SynP.Xn [44,32] (l.map simT)++[125]:Qx).length<=_;simp only[List.length_append,List.length_cons,List.length_nil];omega
theorem Qvk {fin f:Nat}{s:SynP.St}{r:List (List Nat)×SynP.St}(h:SynP.Q5 fin f s=some (.ok r)):(SynP.cpxT r.1).length+4*Lb r.2<=4*Lb s+2:=by
 have I:=Qwq r.1;unfold SynP.Q5 at h;obtain⟨u,s1,H,E⟩:=SynP.Qv h;have k1:=want_lb H;have k0:cL []=0:=rfl;split at E
 ·have e:=SynP.Qh E
  subst e;have:=Jp s1
  try simp only[k0]at*
  omega
 ·have:=Ff fin f _ _ _ E
  omega
theorem Ab {fin:Nat}{s s':SynP.St}{u:Unit}(h:SynP.Zu fin s=some (.ok (u,s'))):Lb s'<=Lb s:=by
 unfold SynP.Zu at h;split at h
 ·exact(SynP.Xu h).elim
 ·have e:=SynP.Qh h
  injection e with e1 e2
  subst e2;exact Jp s
theorem Fm {fin:Nat}{s s':SynP.St}{u:Unit}(h:SynP.X6 fin s=some (.ok (u,s'))):Lb s'<=Lb s:=by
 unfold SynP.X6 at h;obtain⟨v,s1,E,H⟩:=SynP.Qv h;have e:=SynP.Qh H
 injection e with e1 e2
 subst e2;exact(want_lb E:Lb s1<=Lb s)
theorem Hc:∀(f n:Nat) (s:SynP.St) (r:Nat×SynP.St),SynP.Xg f n s=some (.ok r)->Lb r.2<=Lb s
 |0,_,_,_,h=>by cases h
 |f+1,n,s,r,h=>by
  unfold SynP.Xg at h;split at h
  ·exact Nat.le_trans (Hc f _ _ _ h) (Jp s)
  ·rw[SynP.Qh h];exact Nat.le_refl _
theorem Dt:∀(n:Nat) (k:SynP.Ex),exWt (SynP.negs n k)=exWt k/\k.size<=(SynP.negs n k).size
 |0,k=>⟨rfl,Nat.le_refl _⟩
 |n+1,k=>by
  obtain⟨h1,h2⟩:=Dt n (.neg k);have e:(SynP.Ex.neg k).size=k.size+1:=rfl;rw[e]at h2;exact⟨h1,by show k.size<=(SynP.negs n (.neg k)).size;omega⟩
theorem Qjr:∀(l:SynP.Exs) (e:SynP.Ex),Vj (l.snoc e)=Vj l+exWt e/\(l.snoc e).size=l.size+e.size
 | .nil,e=>by simp[SynP.Exs.snoc,Vj,SynP.Exs.size]
 | .cons a l,e=>by
  obtain⟨h1,h2⟩:=Qjr l e;show exWt a+Vj (l.snoc e)=exWt a+Vj l+exWt e/\a.size+(l.snoc e).size=a.size+l.size+e.size;omega
def Pays (k:Nat)(z:Nat)(s:SynP.St)(r:SynP.Ex×SynP.St):Prop:=exWt r.1+4*Lb r.2+12500*z<=k+4*Lb s+12500*r.1.size
def Fz (k:Nat)(z:Nat)(s:SynP.St)(r:SynP.Exs×SynP.St):Prop:=Vj r.1+4*Lb r.2+12500*z<=k+4*Lb s+12500*r.1.size
theorem Ef:∀(f:Nat) (k:SynP.Ex) (s:SynP.St) (r:SynP.Ex×SynP.St),SynP.X9 f k s=some (.ok r)->Pays (exWt k) k.size s r
 |0,_,_,_,h=>by cases h
 |f+1,k,s,r,h=>by
  unfold SynP.X9 at h;split at h
  ·have h1:=Ef f _ _ _ h
   have E:=Jp s;have e:(SynP.Ex.turn k).size=k.size+1:=rfl
   have e2:exWt (SynP.Ex.turn k)=exWt k:=by simp only[exWt]
   unfold Pays at*;omega
  ·rw[SynP.Qh h];exact Nat.le_refl _
structure AllPay (fin f:Nat):Prop where
 ex:∀s r,SynP.expr fin f s=some (.ok r)->Pays 0 0 s r
 exl:∀k s r,SynP.Qf fin f k s=some (.ok r)->Pays (exWt k) k.size s r
 te:∀s r,SynP.term fin f s=some (.ok r)->Pays 0 0 s r
 tel:∀k s r,SynP.Qi fin f k s=some (.ok r)->Pays (exWt k) k.size s r
 fa:∀s r,SynP.Xr fin f s=some (.ok r)->Pays 0 0 s r
 po:∀s r,SynP.post fin f s=some (.ok r)->Pays 0 0 s r
 at_:∀s r,SynP.atom fin f s=some (.ok r)->Pays 0 0 s r
 pa:∀s r,SynP.X7 fin f s=some (.ok r)->Fz 0 0 s r
 pal:∀k s r,SynP.Qs fin f k s=some (.ok r)->Fz (Vj k) k.size s r
theorem Es (fin:Nat):∀f,AllPay fin f
 |0=>by
  constructor
  ·intro s r h;rw[SynP.expr]at h;cases h
  ·intro k s r h;rw[SynP.Qf]at h;cases h
  ·intro s r h;rw[SynP.term]at h;cases h
  ·intro k s r h;rw[SynP.Qi]at h;cases h
  ·intro s r h;rw[SynP.Xr]at h;cases h
  ·intro s r h;rw[SynP.post]at h;cases h
  ·intro s r h;rw[SynP.atom]at h;cases h
  ·intro s r h;rw[SynP.X7]at h;cases h
  ·intro k s r h;rw[SynP.Qs]at h;cases h
 |f+1=>by
  have ih:=Es fin f;constructor
  ·intro s r h
   rw[SynP.expr]at h;obtain⟨k,s1,E,H⟩:=SynP.Qv h;have a1:=ih.te _ _ E;have a2:=ih.exl _ _ _ H;unfold Pays at*
   try simp only at*
   omega
  ·intro k s r h
   rw[SynP.Qf]at h;split at h
   ·obtain⟨t,s1,E,H⟩:=SynP.Qv h
    have a0:=Jp s;have a1:=ih.te _ _ E;have a2:=ih.exl _ _ _ H;have e:(SynP.Ex.add k t).size=k.size+t.size+1:=rfl
    have e2:exWt (SynP.Ex.add k t)=exWt k+exWt t:=by simp only[exWt]
    unfold Pays at*
    try simp only at*
    omega
   ·split at h
    ·obtain⟨t,s1,E,H⟩:=SynP.Qv h
     have a0:=Jp s;have a1:=ih.te _ _ E;have a2:=ih.exl _ _ _ H;have e:(SynP.Ex.sub k t).size=k.size+t.size+1:=rfl
     have e2:exWt (SynP.Ex.sub k t)=exWt k+exWt t:=by simp only[exWt]
     unfold Pays at*
     try simp only at*
     omega
    ·rw[SynP.Qh h];exact Nat.le_refl _
  ·intro s r h
   rw[SynP.term]at h;obtain⟨k,s1,E,H⟩:=SynP.Qv h;have a1:=ih.fa _ _ E;have a2:=ih.tel _ _ _ H;unfold Pays at*
   try simp only at*
   omega
  ·intro k s r h
   rw[SynP.Qi]at h;split at h
   ·obtain⟨t,s1,E,H⟩:=SynP.Qv h
    have a0:=Jp s;have a1:=ih.fa _ _ E;have a2:=ih.tel _ _ _ H;have e:(SynP.Ex.mul k t).size=k.size+t.size+1:=rfl
    have e2:exWt (SynP.Ex.mul k t)=exWt k+exWt t:=by simp only[exWt]
    unfold Pays at*
    try simp only at*
    omega
   ·rw[SynP.Qh h];exact Nat.le_refl _
  ·intro s r h
   rw[SynP.Xr]at h;obtain⟨n,s1,E,H⟩:=SynP.Qv h;obtain⟨k,s2,J,I⟩:=SynP.Qv H;have a0:=Hc _ _ _ _ E;have a1:=ih.po _ _ J;split at I
   ·obtain⟨m,s3,K,O⟩:=SynP.Qv I
    have a5:=Z5 K;have a6:=Jp s2;rw[SynP.Qh O];obtain⟨b1,b2⟩:=Dt n (.pow k m);have e:(SynP.Ex.pow k m).size=k.size+1:=rfl
    have e2:exWt (SynP.Ex.pow k m)=exWt k+(SynP.decT m).length:=by simp only[exWt]
    rw[e2]at b1;rw[e]at b2;unfold Pays at*
    try simp only at*
    omega
   ·rw[SynP.Qh I]
    obtain⟨b1,b2⟩:=Dt n k;unfold Pays at*
    try simp only at*
    omega
  ·intro s r h
   rw[SynP.post]at h;obtain⟨k,s1,E,H⟩:=SynP.Qv h;have a1:=ih.at_ _ _ E;have a2:=Ef _ _ _ _ H;unfold Pays at*
   try simp only at*
   omega
  ·intro s r h
   rw[SynP.atom]at h;split at h
   ·obtain⟨n,s1,E,H⟩:=SynP.Qv h
    rw[SynP.Qh H];have:=Z5 E;unfold Pays;simp only[exWt,SynP.Ex.size];omega
   ·split at h
    ·obtain⟨x,s1,E,H⟩:=SynP.Qv h
     obtain⟨u,s2,J,I⟩:=SynP.Qv H;obtain⟨ks,s3,K,O⟩:=SynP.Qv I;obtain⟨u,s4,T,U⟩:=SynP.Qv O;rw[SynP.Qh U];have a1:=M7 E;have a2:=Ab J;have a3:=ih.pa _ _ K;have a4:=Fm T;unfold Fz at a3;unfold Pays;simp only[exWt,SynP.Ex.size]at*;omega
    ·split at h
     ·obtain⟨x,s1,E,H⟩:=SynP.Qv h
      rw[SynP.Qh H];have:=M7 E;unfold Pays;simp only[exWt,SynP.Ex.size];omega
     ·split at h
      ·obtain⟨u,s2,J,I⟩:=SynP.Qv h
       obtain⟨e,s3,K,O⟩:=SynP.Qv I;obtain⟨u,s4,T,U⟩:=SynP.Qv O;rw[SynP.Qh U];have a2:=Ab J;have a3:=ih.ex _ _ K;have a4:=Fm T;unfold Pays at*
       try simp only at*
       omega
      ·split at h
       ·obtain⟨m,s1,E,H⟩:=SynP.Qv h
        rw[SynP.Qh H];have a1:=Qvi E;have a2:=Qw5 (SynP.Ut E);unfold Pays;simp only[exWt,SynP.Ex.size]at*;omega
       ·split at h
        ·obtain⟨m,s1,E,H⟩:=SynP.Qv h
         rw[SynP.Qh H];have a1:=Qvk E;unfold Pays;simp only[exWt,SynP.Ex.size]at*;omega
        ·exact(SynP.Xu h).elim
  ·intro s r h
   rw[SynP.X7]at h;obtain⟨k,s1,E,H⟩:=SynP.Qv h;have a1:=ih.ex _ _ E;have a2:=ih.pal _ _ _ H;unfold Fz Pays at*;simp only[Vj,SynP.Exs.size]at*;omega
  ·intro k s r h
   rw[SynP.Qs]at h;split at h
   ·obtain⟨t,s1,E,H⟩:=SynP.Qv h
    have a0:=Jp s;have a1:=ih.ex _ _ E;have a2:=ih.pal _ _ _ H;obtain⟨e1,e2⟩:=Qjr k t;unfold Fz Pays at*;rw[e1,e2]at a2
    try simp only at*
    omega
   ·rw[SynP.Qh h];exact Nat.le_refl _
theorem Qw3 {fin f:Nat}{s:SynP.St}{r:SynP.Ln×SynP.St}(h:SynP.line fin f s=some (.ok r)):lnWt r.1<=4*Lb s+12500*r.1.size:=by
 unfold SynP.line at h;split at h
 ·rw[SynP.Qh h];exact Nat.zero_le _
 ·split at h
  ·obtain⟨x,s1,H,E⟩:=SynP.Qv h
   obtain⟨u,s2,K,O⟩:=SynP.Qv E;obtain⟨e,s3,I,J⟩:=SynP.Qv O;rw[SynP.Vc J];have a0:=Jp s;have a1:=M7 H;have a2:=want_lb K;have a3:=(Es fin f).ex _ _ I;unfold Pays at a3;simp only[lnWt,SynP.Ln.size]at*;omega
  ·obtain⟨x,s1,H,E⟩:=SynP.Qv h
   have a1:=M7 H;split at E
   ·rw[SynP.Vc E]
    simp only[lnWt,Vj]at*;omega
   ·obtain⟨ks,s3,I,J⟩:=SynP.Qv E
    rw[SynP.Vc J];have a3:=(Es fin f).pa _ _ I;unfold Fz at a3;simp only[lnWt,SynP.Ln.size]at*;omega
theorem Qym {w:World}{B n z:Nat}{e:TypeId}{g cap:Nat}{xs:List Value}(h:w.ownsRow B e z (.slice (some ⟨g,0,none⟩) n cap) n xs)(i:Nat)(u:Value):
  (w.setCell ⟨g,i,none⟩ u).ownsRow B e z (.slice (some ⟨g,0,none⟩) n cap) n (xs.set i u):=by
 obtain⟨K,E⟩:=h;refine⟨by simpa using K,?_⟩;rcases E with E|⟨g',cap',H,O,I,J,r1,r2,r3,r4⟩
 ·cases E.1
 ·cases O
  refine .inr ⟨g,cap,H.setIfInBounds i u,rfl,I,heap_setCell_same w g i _ e u J,r1,r2,by simpa using r3,?_⟩;rw[<-r4,Array.toList_setIfInBounds,List.take_set]
theorem Ra (g j:Nat):(⟨g,0,none⟩:Addr).add j=⟨g,j,none⟩:=by
 have e:(⟨g,0,none⟩:Addr).add j=⟨g,0+j,none⟩:=by unfold Addr.add;split<;>simp_all
 rw[e,Nat.zero_add]
theorem Mr {P:Program}(w:World)(base:Nat)(t ty e:TypeId)(i:TypeInfo)(z:Value)(size bytes:Nat)(ht:P.underlying t=some (.slice e))(hi:P.info? e=some i)(hz:i.zero=some z)
  (hsize:i.size=size) (hby:i.bytes=bytes) (hzs:z.cells.size=size) (hsz:0<size)
  (v:Value) (n:Nat) (xs:List Value) (hown:w.ownsRow base e size v n xs)
  (a:Addr) (m c:Nat) (news:List Value) (hl:news.length=m*size) (hnews:∀j u,news[j]?=some u->w.cell? (a.add j)=some u) (h1:∀u∈news,u.oneCell'=true)
  (h63:n+m<=maxLen) (hbytes:(n+m)*bytes<=140737488355328) (hbase:base<=w.heap.size):
  ∃v' w',(Builtin.append_ #[t,t] ty #[v,.slice (some a) m c]).run P w=.ok v' w'/\w'.ownsRow base e size v' (n+m) (xs++news)/\w.grownBy w' v.ownBlock/\(v'.ownBlock=v.ownBlock\/v'.ownBlock=some w.heap.size)/\
   ∀g,v.ownBlock=some g-> ∀j u,xs[j]?=some u->w'.cell? ⟨g,j,none⟩=some u:=by
 obtain⟨v',w',H,o,hg,-,K⟩:=run_append_own_at (P:=P) w base t ty e i z size bytes ht hi hz hsize hby hzs hsz v n xs hown a m c news hl hnews h1 h63 hbytes hbase;refine⟨v',w',H,o,hg,K,fun g hv j u hj=> ?_⟩;have T:=hown.cells hv j u hj;rw[Ra]at T;rcases K with h|h
 ·have:=o.cells (h.trans hv) j u (by rw[List.getElem?_append_left (List.getElem?_eq_some_iff.1 hj).1];exact hj)
  rw[Ra]at this;exact this
 ·rcases hown.2 with ⟨rfl,-⟩|⟨g',E,J,rfl,a3,O,a5,a4,Z,a1⟩
  ·cases hv
  ·cases hv
   have a0:=(Array.getElem?_eq_some_iff.1 O).1;by_cases hroom:n+m<=E
   ·exfalso
    have U:n*i.size+news.length<=J.size:=by rw[hl,Z,hsize,<-Nat.add_mul];exact Nat.mul_le_mul_right _ hroom
    have I:=run_append_room (P:=P) w t ty e i ht hi g' n E J O a m c news (by rw[hl,hsize]) hnews h1 hroom U;rw[I]at H
    cases H
    have h2:g'=w.heap.size:=by simpa [Value.ownBlock] using h
    omega
   ·have I:=run_append_grow (P:=P) (w:=w) t ty e i z ht hi hz ⟨g',0,none⟩ n E xs (by rw[hown.1,hsize]) (hown.cells (g:=g') rfl) a m c news (by rw[hl,hsize]) hnews (by omega) (by simp only[maxLen]at h63;omega) (by rw[hby];exact growslice_fits (by omega) hbytes)
    rw[I]at H
    cases H
    exact(World.cell?_of_block (a:=⟨g',j,none⟩) (Go.heap_alloc_old w.drew _ a0)).trans T
theorem X3 {P:Program}{w:World}{ops:Array Oper}{rest:List Oper}{o:Oper}{a:Act}{Q:Exit->Act->World->Prop}(hgd:o.guard=none)(s x:Operand)(t:TypeId)
  (ho:o.op=.call {callee:=.builtin .append,args:= #[s,x],argTypes:= #[t,t]})
  (base:Nat) (e:TypeId) (i:TypeInfo) (z:Value) (size bytes:Nat) (ht:P.underlying t=some (.slice e)) (hi:P.info? e=some i) (hz:i.zero=some z)
  (hsize:i.size=size) (hby:i.bytes=bytes) (hzs:z.cells.size=size) (hsz:0<size)
  (v:Value) (n:Nat) (xs:List Value) (hs:a.eval s=v) (hown:w.ownsRow base e size v n xs)
  (ad:Addr) (m c:Nat) (news:List Value) (hx:a.eval x=.slice (some ad) m c) (hl:news.length=m*size) (hnews:∀j u,news[j]?=some u->w.cell? (ad.add j)=some u) (h1:∀u∈news,u.oneCell'=true)
  (h63:n+m<=maxLen) (hbytes:(n+m)*bytes<=140737488355328) (hbase:base<=w.heap.size)
  (h:∀v' w',w'.ownsRow base e size v' (n+m) (xs++news)->w.grownBy w' v.ownBlock->(v'.ownBlock=v.ownBlock\/v'.ownBlock=some w.heap.size)->
   (∀g,v.ownBlock=some g-> ∀j u,xs[j]?=some u->w'.cell? ⟨g,j,none⟩=some u)->wpList P ops Q rest (a.put o.dst v') w'):wpList P ops Q (o::rest) a w:=by
 refine wpList_plain hgd fun K hK=> ?_;obtain⟨v',w',O,E,H,I,J⟩:=Mr (P:=P) w base t o.type e i z size bytes ht hi hz hsize hby hzs hsz v n xs hown ad m c news hl hnews h1 h63 hbytes hbase;unfold Oper.wp execOp;simp only[ho,resolve,invoke,builtin,Sem.run_bind,Sem.run_pure,Result.andThen_ok,List.map_toArray,List.map_cons,List.map_nil,hs,hx,O];exact hK _ _ (h v' w' E H I J)
def bsg (i j:Nat):Nat:=4323455642275676160+i*1048576+j
def bmk (k:IntKind)(i n:Nat):List Value:=(List.range n).map fun j=> .int k ((bsg i j:Nat):Int)
theorem Qzt (k:IntKind)(i n:Nat):(bmk k i n).length=n:=by simp[bmk]
theorem Er {k:IntKind}{i n j:Nat}(h:j<n):(bmk k i n)[j]?=some (.int k ((bsg i j:Nat):Int)):=by
 unfold bmk;rw[List.getElem?_map,List.getElem?_range h];rfl
theorem C6 (k:IntKind)(i n:Nat):bmk k i (n+1)=bmk k i n++[.int k ((bsg i n:Nat):Int)]:=by
 unfold bmk;rw[List.range_succ,List.map_append];rfl
theorem Qpu {k:IntKind}{i j:Nat}{c:List Value}(h:j<c.length):(bmk k i j++c.drop j).set j (.int k ((bsg i j:Nat):Int))=bmk k i (j+1)++c.drop (j+1):=by
 rw[List.set_append,if_neg (by rw[Qzt];omega),Qzt,Nat.sub_self,List.drop_eq_getElem_cons h,List.set_cons_zero,C6,List.append_assoc];rfl
theorem Qh8 {w:World}{B n N z cap:Nat}{t:TypeId}{ao:Option Addr}{xs:List Value}(h:w.ownsRow B t z (.slice ao n cap) N xs):n=N:=by
 rcases h.2 with ⟨e,E⟩|⟨g,c,H,e,-⟩
 ·cases e;exact E.symm
 ·cases e;rfl
theorem Zx (w:World)(g j:Nat)(u:Value):w.grownBy (w.setCell ⟨g,j,none⟩ u) (some g):=
 ⟨rfl,rfl,rfl,by simp[World.setCell],fun k _ hk=>heap_setCell_other w ⟨g,j,none⟩ k _ (fun e=>hk (by rw[e]))⟩
structure OL (w:World) (B:Nat) (t:TypeId) (z:Nat) (vs:List Value) (L:Nat->Nat) (F:Nat->List Value):Prop where
 el:∀(j:Nat) (x:Value),vs[j]?=some x->w.ownsRow B t z x (L j) (F j)
 ap:∀(i j:Nat) (x y:Value) (q:Nat),vs[i]?=some x->vs[j]?=some y->i≠j->x.ownBlock=some q->y.ownBlock≠some q
theorem OL.congr {w:World}{B z:Nat}{t:TypeId}{vs:List Value}{L M:Nat->Nat}{F G:Nat->List Value}(h:OL w B t z vs L F)(hlm:∀j,j<vs.length->L j=M j)(hfg:∀j,j<vs.length->F j=G j):OL w B t z vs M G:=
 ⟨fun j x hx=>by have E:=(List.getElem?_eq_some_iff.1 hx).1;rw[<-hfg j E,<-hlm j E];exact h.el j x hx,h.ap⟩
theorem OL.kept {w w':World}{B z:Nat}{t:TypeId}{vs:List Value}{L:Nat->Nat}{F:Nat->List Value}(h:OL w B t z vs L F){row:Option Nat}(hg:w.grownBy w' row)(hr:∀(j:Nat) (x:Value) (q:Nat),vs[j]?=some x->x.ownBlock=some q->row≠some q):OL w' B t z vs L F:=
 ⟨fun j x hx=>(h.el j x hx).kept hg (by
  cases hv:x.ownBlock with
  |none=>exact .inl rfl
  |some q=>exact .inr (fun e=>hr j x q hx hv e.symm)),h.ap⟩
theorem OL.below {w w':World}{B z:Nat}{t:TypeId}{vs:List Value}{L:Nat->Nat}{F:Nat->List Value}(h:OL w B t z vs L F)(hb:Below w.heap.size w w'):OL w' B t z vs L F:=
 ⟨fun j x hx=>Ql (h.el j x hx) hb (Nat.le_refl _),h.ap⟩
theorem OL.set {w:World}{B z:Nat}{t:TypeId}{vs:List Value}{L:Nat->Nat}{F:Nat->List Value}(h:OL w B t z vs L F){i g n cap:Nat}(hx:vs[i]?=some (.slice (some ⟨g,0,none⟩) n cap))(j:Nat)(u:Value):
  OL (w.setCell ⟨g,j,none⟩ u) B t z vs L (fun a=>if a=i then (F i).set j u else F a):=by
 have E:=Qh8 (h.el i _ hx);refine⟨fun a x ha=> ?_,h.ap⟩;by_cases hai:a=i
 ·subst hai
  rw[hx]at ha;cases ha;rw[if_pos rfl];have:=h.el a _ hx;rw[<-E]at this ⊢;exact Qym this j u
 ·rw[if_neg hai]
  refine(h.el a x ha).kept (Zx w g j u) ?_
  cases hv:x.ownBlock with
  |none=>exact .inl rfl
  |some q=>exact .inr (fun e=>by cases e;exact h.ap i a _ x g hx ha (fun e=>hai e.symm) rfl hv)
def Rw (w:World)(x:Value)(n:Nat)(c:List Value):Prop:=∃ao cap,x=.slice ao n cap/\(0<n-> ∃g,ao=some ⟨g,0,none⟩/\ ∀j u,c[j]?=some u->w.cell? ⟨g,j,none⟩=some u)
theorem Rw.of_own {w:World}{B z n:Nat}{t:TypeId}{x:Value}{c:List Value}(h:w.ownsRow B t z x n c):Rw w x n c:=by
 rcases h.2 with ⟨rfl,H⟩|⟨g,E,I,rfl,J⟩
 ·exact⟨none,0,by rw[H],fun hp=>by omega⟩
 ·refine⟨_,E,rfl,fun _=>⟨g,rfl,fun j u hj=> ?_⟩⟩
  have:=h.cells (g:=g) rfl j u hj;rw[Ra]at this;exact this
structure GL (w0 w:World) (B:Nat) (t:TypeId) (z:Nat) (vs ys:List Value) (LO:Nat->Nat) (O:Nat->List Value) (L:Nat->Nat) (F:Nat->List Value):Prop where
 ol:OL w B t z ys L F
 len:ys.length=vs.length
 old:∀(j:Nat) (x:Value),vs[j]?=some x->Rw w x (LO j) (O j)
 pre:∀(j a:Nat) (u:Value),(O j)[a]?=some u->(F j)[a]?=some u
 oa:∀(i j:Nat) (x y:Value) (q:Nat),vs[i]?=some x->ys[j]?=some y->i≠j->x.ownBlock=some q->y.ownBlock≠some q
 lt:∀(j:Nat) (x:Value) (q:Nat),vs[j]?=some x->x.ownBlock=some q->q<w0.heap.size
 yb:∀(j:Nat) (y:Value) (q:Nat),ys[j]?=some y->y.ownBlock=some q->q<w0.heap.size-> ∃x,vs[j]?=some x/\x.ownBlock=some q
 sz:w0.heap.size<=w.heap.size
theorem GL.start {w:World}{B z:Nat}{t:TypeId}{vs:List Value}{L:Nat->Nat}{F:Nat->List Value}(h:OL w B t z vs L F):GL w w B t z vs vs L F L F:=
 ⟨h,rfl,fun j x hx=>Rw.of_own (h.el j x hx),fun _ _ _ h=>h,h.ap,fun j x q hx hq=>(World.ownsRow.lt (h.el j x hx) q hq).2,fun j y q hy hq _=>⟨y,hy,hq⟩,Nat.le_refl _⟩
theorem GL.grow {w0 w w':World}{B z:Nat}{t:TypeId}{vs ys:List Value}{LO:Nat->Nat}{O:Nat->List Value}{L:Nat->Nat}{F:Nat->List Value}(h:GL w0 w B t z vs ys LO O L F){i:Nat}{v v':Value}{us:List Value}(hy:ys[i]?=some v)(ho:w'.ownsRow B t z v' (L i+1) (F i++us))(hg:w.grownBy w' v.ownBlock)
  (hat:v'.ownBlock=v.ownBlock\/v'.ownBlock=some w.heap.size) (hk:∀g,v.ownBlock=some g-> ∀j u,(F i)[j]?=some u->w'.cell? ⟨g,j,none⟩=some u):
  GL w0 w' B t z vs (ys.set i v') LO O (fun a=>if a=i then L i+1 else L a) (fun a=>if a=i then F i++us else F a):=by
 have a9:=(List.getElem?_eq_some_iff.1 hy).1
 have K:∀a y,(ys.set i v')[a]?=some y->(a=i/\y=v')\/(a≠i/\ys[a]?=some y):=by
  intro a y H;by_cases J:a=i
  ·subst J
   rw[List.getElem?_set_self a9]at H
   cases H;exact .inl ⟨rfl,rfl⟩
  ·rw[List.getElem?_set_ne (fun e=>J e.symm)]at H
   exact .inr ⟨J,H⟩
 have Z:∀q,v'.ownBlock=some q->v.ownBlock=some q\/q=w.heap.size:=by
  intro q E;rcases hat with I|I
  ·exact .inl (I ▸ E)
  ·rw[I]at E;cases E;exact .inr rfl
 have a3:∀(j:Nat) (x:Value) (q:Nat),vs[j]?=some x->x.ownBlock=some q->q<w.heap.size:=fun j x q hx E=>Nat.lt_of_lt_of_le (h.lt j x q hx E) h.sz;have a5:∀(j:Nat) (y:Value) (q:Nat),ys[j]?=some y->y.ownBlock=some q->q<w.heap.size:=fun j y q hy E=>(World.ownsRow.lt (h.ol.el j y hy) q E).2;refine⟨⟨fun a y H=> ?_,fun a b x y q H hb hab E hq2=> ?_⟩,by rw[List.length_set];exact h.len,fun j x hx=> ?_,fun j a x hx=> ?_,fun a b x y q H hb hab E hq2=> ?_,h.lt,fun j y q hj E hlt=> ?_,Nat.le_trans h.sz hg.size⟩
 ·rcases K a y H with ⟨rfl,rfl⟩|⟨J,H⟩
  ·rw[if_pos rfl,if_pos rfl];exact ho
  ·rw[if_neg J,if_neg J]
   refine(h.ol.el a y H).kept hg ?_
   cases hv:y.ownBlock with
   |none=>exact .inl rfl
   |some q=>exact .inr (fun e=>h.ol.ap i a v y q hy H (fun e=>J e.symm) e.symm hv)
 ·rcases K a x H with ⟨rfl,rfl⟩|⟨J,a0⟩<;>rcases K b y hb with ⟨U,rfl⟩|⟨U,a2⟩
  ·exact hab U.symm
  ·rcases Z q E with I|I
   ·exact h.ol.ap a b v y q hy a2 hab I hq2
   ·have:=a5 b y q a2 hq2;omega
  ·rcases Z q hq2 with I|I
   ·exact h.ol.ap a b x v q a0 (by rw[U];exact hy) hab E I
   ·have:=a5 a x q a0 E;omega
  ·exact h.ol.ap a b x y q a0 a2 hab E hq2
 ·obtain⟨ao,a7,e,hc⟩:=h.old j x hx
  refine⟨ao,a7,e,fun hp=> ?_⟩;obtain⟨g,rfl,a8⟩:=hc hp
  have a4:x.ownBlock=some g:=by rw[e];rfl
  refine⟨g,rfl,fun a u' H=> ?_⟩;by_cases hvg:v.ownBlock=some g
  ·by_cases T:j=i
   ·subst T
    exact hk g hvg a u' (h.pre j a u' H)
   ·exact absurd hvg (h.oa j i x v g hx hy T a4)
  ·exact(World.cell?_of_block (a:=⟨g,a,none⟩) (hg.block g (a3 j x g hx a4) (fun e=>hvg e.symm))).trans (a8 a u' H)
 ·by_cases T:j=i
  ·subst T
   rw[if_pos rfl,List.getElem?_append_left (List.getElem?_eq_some_iff.1 (h.pre j a x hx)).1];exact h.pre j a x hx
  ·rw[if_neg T];exact h.pre j a x hx
 ·rcases K b y hb with ⟨rfl,rfl⟩|⟨U,hb⟩
  ·rcases Z q hq2 with I|I
   ·exact h.oa a b x v q H hy hab E I
   ·have:=a3 a x q H E;omega
  ·exact h.oa a b x y q H hb hab E hq2
 ·rcases K j y hj with ⟨rfl,rfl⟩|⟨T,hj⟩
  ·rcases Z q E with I|I
   ·exact h.yb j v q hy I hlt
   ·have:=h.sz;omega
  ·exact h.yb j y q hj E hlt
theorem Zy (i j:Nat)(w:World)(hi:i<=1073741824)(hj:j<=1099511627776):
  Calls Tryz.prog 117 #[.int .i64 (i:Nat),.int .i64 (j:Nat)] w (fun e w'=>e=.returned (.int .u64 ((bsg i j:Nat):Int))/\w=w'):=by
 have W0:IntKind.u64.wrap (i:Int)=(i:Int):=by rw[IntKind.wrap_u64];omega
 have W1:IntKind.u64.wrap (j:Int)=(j:Int):=by rw[IntKind.wrap_u64];omega
 have W2:IntKind.u64.wrap ((i:Int)*1048576)=(i:Int)*1048576:=by rw[IntKind.wrap_u64];omega
 have W3:IntKind.u64.wrap (4323455642275676160+(i:Int)*1048576)=4323455642275676160+(i:Int)*1048576:=by rw[IntKind.wrap_u64];omega
 have W4:IntKind.u64.wrap (4323455642275676160+(i:Int)*1048576+(j:Int))=((bsg i j:Nat):Int):=by rw[IntKind.wrap_u64];unfold bsg;omega
 go_enter Tryz.func117,Tryz.ntmps117;go_wp2_with fail;go_ret;exact⟨rfl,rfl⟩
theorem X0 {w:World}{B n N z cap g:Nat}{t:TypeId}{xs:List Value}(h:w.ownsRow B t z (.slice (some ⟨g,0,none⟩) n cap) N xs){j:Nat}{u:Value}(hj:xs[j]?=some u):w.cell? ⟨g,j,none⟩=some u:=by
 have:=h.cells (g:=g) rfl j u hj;rw[Ra]at this;exact this
theorem Uj {w:World}{B n N z cap g:Nat}{t:TypeId}{xs:List Value}(h:w.ownsRow B t z (.slice (some ⟨g,0,none⟩) n cap) N xs)(j:Nat):w.frozen? ⟨g,j,none⟩=false:=by
 rcases h.2 with ⟨e,-⟩|⟨g',c,H,e,-,E,-⟩
 ·cases e
 ·cases e;exact frozen_of_row w g j _ _ E
theorem Qn {w:World}{B z:Nat}{t:TypeId}{x:Value}{N:Nat}{xs:List Value}(h:w.ownsRow B t z x N xs):∃ao cap,x=.slice ao N cap/\N<=cap/\cap<=maxLen/\(0<N-> ∃g,ao=some ⟨g,0,none⟩):=by
 rcases h.2 with ⟨rfl,rfl⟩|⟨g,cap,I,rfl,-,-,E,H,-⟩
 ·exact⟨none,0,rfl,Nat.le_refl _,by unfold maxLen;omega,fun h=>by omega⟩
 ·exact⟨_,cap,rfl,E,H,fun _=>⟨g,rfl⟩⟩
structure BFr (vs:List Value) (w w':World):Prop where
 os:w'.os=w.os
 tape:w'.tape=w.tape
 output:w'.output=w.output
 size:w.heap.size<=w'.heap.size
 block:∀k,k<w.heap.size->(∀x∈vs,x.ownBlock≠some k)->w'.heap[k]?=w.heap[k]?
theorem BFr.refl (vs:List Value)(w:World):BFr vs w w:=⟨rfl,rfl,rfl,Nat.le_refl _,fun _ _ _=>rfl⟩
theorem BFr.step {vs:List Value}{w w1 w2:World}(h:BFr vs w w1){row:Option Nat}(hg:w1.grownBy w2 row)(hr:∀q,row=some q->q<w.heap.size-> ∃x∈vs,x.ownBlock=some q):BFr vs w w2:=
 ⟨hg.os.trans h.os,hg.tape.trans h.tape,hg.output.trans h.output,Nat.le_trans h.size hg.size,fun k hk hv=>(hg.block k (Nat.lt_of_lt_of_le hk h.size) (fun e=>by
  obtain⟨x,H,E⟩:=hr k e.symm hk
  exact hv x H E)).trans (h.block k hk hv)⟩
theorem BFr.below {vs:List Value}{w w1 w2:World}(h:BFr vs w w1)(hb:Below w1.heap.size w1 w2):BFr vs w w2:=
 ⟨hb.os.trans h.os,hb.tape.trans h.tape,hb.output.trans h.output,Nat.le_trans h.size hb.size,fun k hk hv=>(hb.block k (Nat.lt_of_lt_of_le hk h.size)).trans (h.block k hk hv)⟩
structure LsAt (vs:List Value) (w:World) (ao:Option Addr) (cap:Nat) (G:Nat) (row:Array Value) (o:Nat):Prop where
 blk:w.heap[G]?=some (.cells row 40 (0,0))
 is:row[o]?=some (.slice ao vs.length cap)
 far:∀x∈vs,x.ownBlock≠some G
 at':0<vs.length-> ∃g,ao=some ⟨g,0,none⟩/\g<w.heap.size/\(∀x∈vs,x.ownBlock≠some g)/\ ∀j x,vs[j]?=some x->w.cell? ⟨g,j,none⟩=some x
theorem LsAt.cell {vs:List Value}{w:World}{ao:Option Addr}{cap G:Nat}{row:Array Value}{o:Nat}(h:LsAt vs w ao cap G row o):w.cell? ⟨G,o,none⟩=some (.slice ao vs.length cap):=by
 rw[cell_of_row _ _ _ _ _ _ h.blk];exact h.is
theorem LsAt.fr {vs:List Value}{w w':World}{ao:Option Addr}{cap G:Nat}{row:Array Value}{o:Nat}(h:LsAt vs w ao cap G row o)(hf:BFr vs w w'):LsAt vs w' ao cap G row o:=
 ⟨(hf.block G (Array.getElem?_eq_some_iff.1 h.blk).1 h.far).trans h.blk,h.is,h.far,fun h0=>by
  obtain⟨g,e,E,H,I⟩:=h.at' h0
  exact⟨g,e,Nat.lt_of_lt_of_le E hf.size,H,fun j x hx=>(World.cell?_of_block (a:=⟨g,j,none⟩) (hf.block g E H)).trans (I j x hx)⟩⟩
def NM (k:IntKind)(L:Nat->Nat)(F:Nat->List Value)(i:Nat):Nat->List Value:=fun j=>if j<i then bmk k j (L j) else F j
def NMi (k:IntKind)(L:Nat->Nat)(F:Nat->List Value)(i j:Nat):Nat->List Value:=fun a=>if a<i then bmk k a (L a) else if a=i then bmk k i j++(F i).drop j else F a
def R1 (k:IntKind)(w:World)(B:Nat)(t:TypeId)(vs:List Value)(L:Nat->Nat)(F:Nat->List Value)(iv:Value)(wr:World):Prop:=∃i:Nat,iv=.int .i64 (i:Nat)/\i<=vs.length/\OL wr B t 1 vs L (NM k L F i)/\BFr vs w wr
def R2 (k:IntKind)(w:World)(B:Nat)(t:TypeId)(vs:List Value)(L:Nat->Nat)(F:Nat->List Value)(i:Nat)(jv:Value)(wr:World):Prop:=∃j:Nat,jv=.int .i64 (j:Nat)/\j<=L i/\OL wr B t 1 vs L (NMi k L F i j)/\BFr vs w wr
theorem Cr (k:IntKind)(L:Nat->Nat)(F:Nat->List Value)(i:Nat):NMi k L F i 0=NM k L F i:=by
 funext a;unfold NMi NM
 by_cases h:a<i
 ·rw[if_pos h,if_pos h]
 ·rw[if_neg h,if_neg h]
  by_cases h2:a=i
  ·rw[if_pos h2,h2];simp[bmk]
  ·rw[if_neg h2]
theorem Cs (k:IntKind)(L:Nat->Nat)(F:Nat->List Value)(i:Nat)(hF:(F i).length<=L i):NMi k L F i (L i)=NM k L F (i+1):=by
 funext a;unfold NMi NM
 by_cases h:a<i
 ·rw[if_pos h,if_pos (by omega)]
 ·rw[if_neg h]
  by_cases h2:a=i
  ·rw[if_pos h2,if_pos (by omega),h2,List.drop_eq_nil_of_le hF,List.append_nil]
  ·rw[if_neg h2,if_neg (by omega)]
theorem Qki (k:IntKind)(L:Nat->Nat)(F:Nat->List Value)(i j:Nat):NMi k L F i j i=bmk k i j++(F i).drop j:=by unfold NMi;rw[if_neg (Nat.lt_irrefl i),if_pos rfl]
theorem R2.next {k:IntKind}{w wr:World}{B:Nat}{t:TypeId}{vs:List Value}{L:Nat->Nat}{F:Nat->List Value}{i j g n cap:Nat}(h:OL wr B t 1 vs L (NMi k L F i j))(hf:BFr vs w wr)(hx:vs[i]?=some (.slice (some ⟨g,0,none⟩) n cap))(hF:(F i).length=L i)(hn:n=L i)(hj:j<n):
  R2 k w B t vs L F i (.int .i64 ((j:Int)+1)) (wr.setCell ⟨g,j,none⟩ (.int k ((bsg i j:Nat):Int))):=by
 refine⟨j+1,by go_num,by omega,(h.set hx j _).congr (fun _ _=>rfl) fun a ha=> ?_,hf.step (Zx _ _ _ _) fun q hq _=>⟨_,List.mem_of_getElem? hx,by cases hq;rfl⟩⟩;by_cases hai:a=i
 ·subst hai
  rw[if_pos rfl,Qki,Qpu (by omega),Qki]
 ·rw[if_neg hai]
  unfold NMi;by_cases h:a<i
  ·rw[if_pos h,if_pos h]
  ·rw[if_neg h,if_neg h,if_neg hai,if_neg hai]
theorem Tryz.infoBk:(Tryz.prog.info? 41).map (fun i=>(i.zero,i.size,i.bytes))=some (some (.slice none 0 0),1,24):=by kernel_rfl
theorem Jj {w w':World}{p:Addr}{v:Value}(hb:Below w.heap.size w w')(h:w.cell? p=some v):w'.cell? p=some v:=(hb.cell (World.block_lt_of_cell? _ _ h)).trans h
theorem Rw.kept {w w':World}{x:Value}{n:Nat}{c:List Value}(h:Rw w x n c){row:Option Nat}(hg:w.grownBy w' row)(hlt:∀q,x.ownBlock=some q->q<w.heap.size)(hne:∀q,x.ownBlock=some q->row≠some q):Rw w' x n c:=by
 obtain⟨ao,E,rfl,I⟩:=h;refine⟨ao,E,rfl,fun hp=> ?_⟩;obtain⟨g,rfl,H⟩:=I hp;exact⟨g,rfl,fun j u hj=>(World.cell?_of_block (a:=⟨g,j,none⟩) (hg.block g (hlt g rfl) (fun e=>hne g rfl e.symm))).trans (H j u hj)⟩
theorem GL.far {w0 w w':World}{B z:Nat}{t:TypeId}{vs ys:List Value}{LO:Nat->Nat}{O:Nat->List Value}{L:Nat->Nat}{F:Nat->List Value}(h:GL w0 w B t z vs ys LO O L F){row:Option Nat}(hg:w.grownBy w' row)(h1:∀(j:Nat) (x:Value) (q:Nat),vs[j]?=some x->x.ownBlock=some q->row≠some q)(h2:∀(j:Nat) (x:Value) (q:Nat),ys[j]?=some x->x.ownBlock=some q->row≠some q):
  GL w0 w' B t z vs ys LO O L F:=
 ⟨h.ol.kept hg h2,h.len,fun j x hx=>(h.old j x hx).kept hg (fun q hq=>Nat.lt_of_lt_of_le (h.lt j x q hx hq) h.sz) (fun q hq=>h1 j x q hx hq),h.pre,h.oa,h.lt,h.yb,Nat.le_trans h.sz hg.size⟩
theorem GL.congr {w0 w:World}{B z:Nat}{t:TypeId}{vs ys:List Value}{LO:Nat->Nat}{O:Nat->List Value}{L M:Nat->Nat}{F G:Nat->List Value}(h:GL w0 w B t z vs ys LO O L F)(hl:∀j,L j=M j)(hf:∀j,F j=G j):GL w0 w B t z vs ys LO O M G:=by
 have e1:L=M:=funext hl;have e2:F=G:=funext hf;rw[<-e1,<-e2];exact h
def LG (L:Nat->Nat)(i:Nat):Nat->Nat:=fun j=>if j<i then L j+80 else L j
def LGi (L:Nat->Nat)(i m:Nat):Nat->Nat:=fun j=>if j<i then L j+80 else if j=i then L i+m else L j
theorem T9 (L:Nat->Nat)(i:Nat)(j:Nat):LG L i j=LGi L i 0 j:=by
 unfold LGi LG;by_cases h:j<i
 ·rw[if_pos h,if_pos h]
 ·rw[if_neg h,if_neg h]
  by_cases h2:j=i
  ·rw[if_pos h2,h2];rfl
  ·rw[if_neg h2]
theorem T8 (L:Nat->Nat)(i:Nat)(j:Nat):LGi L i 80 j=LG L (i+1) j:=by
 unfold LGi LG;by_cases h:j<i
 ·rw[if_pos h,if_pos (by omega)]
 ·rw[if_neg h]
  by_cases h2:j=i
  ·rw[if_pos h2,if_pos (by omega),h2]
  ·rw[if_neg h2,if_neg (by omega)]
theorem Wb (L:Nat->Nat)(i m:Nat):LGi L i m i=L i+m:=by unfold LGi;rw[if_neg (Nat.lt_irrefl i),if_pos rfl]
theorem Kw (L:Nat->Nat)(i m j:Nat):(if j=i then LGi L i m i+1 else LGi L i m j)=LGi L i (m+1) j:=by
 by_cases h2:j=i
 ·rw[if_pos h2,h2,Wb,Wb];rfl
 ·rw[if_neg h2];unfold LGi
  by_cases h:j<i
  ·rw[if_pos h,if_pos h]
  ·rw[if_neg h,if_neg h,if_neg h2,if_neg h2]
theorem Qkn (k:IntKind)(L:Nat->Nat)(i m j:Nat):(if j=i then bmk k i (LGi L i m i)++[.int k ((bsg i (L i+m):Nat):Int)] else bmk k j (LGi L i m j))=bmk k j (LGi L i (m+1) j):=by
 by_cases h2:j=i
 ·rw[if_pos h2,h2,Wb,Wb,<-C6];rfl
 ·have:=Kw L i m j
  rw[if_neg h2]at this;rw[if_neg h2,this]
def GrB (w:World)(GB n i:Nat)(ys:List Value)(t:TypeId):Prop:=∃cur:Array Value,w.heap[GB]?=some (.cells cur t (0,0))/\cur.size=n/\ ∀j,j<i->cur[j]?=ys[j]?
theorem GrB.far {w w':World}{GB n i:Nat}{ys:List Value}{t:TypeId}(h:GrB w GB n i ys t){row:Option Nat}(hg:w.grownBy w' row)(hr:row≠some GB):GrB w' GB n i ys t:=by
 obtain⟨E,H,I,J⟩:=h;exact⟨E,(hg.block GB (Array.getElem?_eq_some_iff.1 H).1 (fun e=>hr e.symm)).trans H,I,J⟩
theorem GrB.set {w:World}{GB n i:Nat}{ys:List Value}{t:TypeId}(h:GrB w GB n i ys t){v:Value}(hv:ys[i]?=some v)(hi:i<n):GrB (w.setCell ⟨GB,i,none⟩ v) GB n (i+1) ys t:=by
 obtain⟨E,H,I,J⟩:=h;refine⟨E.setIfInBounds i v,heap_setCell_same w GB i _ t v H,by simpa using I,fun j hj=> ?_⟩;by_cases hji:j=i
 ·subst hji
  rw[Array.getElem?_setIfInBounds_self_of_lt (by omega),hv]
 ·rw[Array.getElem?_setIfInBounds_ne (fun e=>hji e.symm)];exact J j (by omega)
theorem GrB.cong {w:World}{GB n i:Nat}{ys zs:List Value}{t:TypeId}(h:GrB w GB n i ys t)(he:∀j,j<i->ys[j]?=zs[j]?):GrB w GB n i zs t:=by
 obtain⟨E,H,I,J⟩:=h;exact⟨E,H,I,fun j hj=>(J j hj).trans (he j hj)⟩
def R3 (k:IntKind)(w w2:World)(B:Nat)(t t2:TypeId)(vs:List Value)(L:Nat->Nat)(GB:Nat)(iv:Value)(wr:World):Prop:=
 ∃(i:Nat) (ys:List Value),iv=.int .i64 (i:Nat)/\i<=vs.length/\GL w2 wr B t 1 vs ys L (fun j=>bmk k j (L j)) (LG L i) (fun j=>bmk k j (LG L i j))/\(∀j,i<=j->ys[j]?=vs[j]?)/\GrB wr GB vs.length i ys t2/\BFr vs w wr
def R4 (k:IntKind)(w w2:World)(B:Nat)(t t2:TypeId)(vs:List Value)(L:Nat->Nat)(GB i:Nat)(gv jv:Value)(wr:World):Prop:=
 ∃(m:Nat) (ys:List Value),jv=.int .i64 (m:Nat)/\m<=80/\ys[i]?=some gv/\GL w2 wr B t 1 vs ys L (fun j=>bmk k j (L j)) (LGi L i m) (fun j=>bmk k j (LGi L i m j))/\(∀j,i+1<=j->ys[j]?=vs[j]?)/\GrB wr GB vs.length i ys t2/\BFr vs w wr
theorem R4.next {k:IntKind}{w w2 wr w':World}{B:Nat}{t t2:TypeId}{vs ys:List Value}{L:Nat->Nat}{GB i m:Nat}{gv v':Value}(hgl:GL w2 wr B t 1 vs ys L (fun j=>bmk k j (L j)) (LGi L i m) (fun j=>bmk k j (LGi L i m j)))(hy:ys[i]?=some gv)(hz:∀j,i+1<=j->ys[j]?=vs[j]?)
  (hgr:GrB wr GB vs.length i ys t2) (hbf:BFr vs w wr) (hm:m<80) (ho:w'.ownsRow B t 1 v' (L i+m+1) (bmk k i (L i+m)++[.int k ((bsg i (L i+m):Nat):Int)])) (hg:wr.grownBy w' gv.ownBlock) (hat:v'.ownBlock=gv.ownBlock\/v'.ownBlock=some wr.heap.size)
  (hk:∀g,gv.ownBlock=some g-> ∀j u,(bmk k i (L i+m))[j]?=some u->w'.cell? ⟨g,j,none⟩=some u) (hGB:∀x∈vs,x.ownBlock≠some GB) (hGl:GB<w2.heap.size) (hw:w.heap.size<=w2.heap.size):
  R4 k w w2 B t t2 vs L GB i v' (.int .i64 ((m:Int)+1)) w':=by
 have H:=(List.getElem?_eq_some_iff.1 hy).1;refine⟨m+1,ys.set i v',by go_num,by omega,List.getElem?_set_self H,(hgl.grow hy (us:=[.int k ((bsg i (L i+m):Nat):Int)]) ?_ hg hat ?_).congr (Kw L i m) (Qkn k L i m),fun j hj=> ?_,(hgr.far hg fun e=> ?_).cong fun j hj=> ?_,hbf.step hg fun q h hlt=> ?_⟩
 ·simp only[Wb];exact ho
 ·simp only[Wb];exact hk
 ·rw[List.getElem?_set_ne (by omega)];exact hz j hj
 ·obtain⟨x,E,h⟩:=hgl.yb i gv GB hy e hGl
  exact hGB x (List.mem_of_getElem? E) h
 ·rw[List.getElem?_set_ne (by omega)]
 ·obtain⟨x,E,I⟩:=hgl.yb i gv q hy h (by omega)
  exact⟨x,List.mem_of_getElem? E,I⟩
theorem Qyp (G n cap:Nat)(row:Array Value)(ao:Option Addr)(vs:List Value)(L:Nat->Nat)(F:Nat->List Value)(B:Nat)(w:World)(hL:LsAt vs w ao cap G row 2)(hO:OL w B 3 1 vs L F)(hn:n=vs.length)(hnb:n<=536870912)(hF:∀j,L j<=549755813888)(hB:B<=w.heap.size):
  Calls Tryz.prog 62 #[.pointer (some ⟨G,0,none⟩)] w (fun e w'=>e=.returned (.bool true)/\BFr vs w w'):=by
 have HL:=zq hL;have HO:=zq hO;have HF:=zq hF;have HN:=zq hn
 have c2:w.cell? ⟨G,2,none⟩=some (.slice ao n cap):=by rw[hn];exact hL.cell
 have HC:Hid (∀wx,BFr vs w wx->wx.cell? ⟨G,2,none⟩=some (.slice ao n cap)):=fun wx hf=>by rw[hn];exact(hL.fr hf).cell
 have HS1:Hid (R1 .i64 w B 3 vs L F (.int .i64 0) w):=⟨0,rfl,Nat.zero_le _,hO.congr (fun _ _=>rfl) fun j _=>by unfold NM;rw[if_neg (Nat.not_lt_zero j)],BFr.refl _ _⟩;clear hL hO hF hn;go_enter Tryz.func62,Tryz.ntmps62;go_wp2_with fail;go_loopw [3,4,5] (fun iv _ _ wr=>R1 .i64 w B 3 vs L F iv wr) (fun iv _ _ _=>n-(intOf iv).toNat)
 case atStart=>exact HS1.o
 clear HS1
 case round=>
  obtain⟨i,rfl,hi,hol,hbf⟩:=hrel;rw[<-HN.o]at hi;have c2:=HC.o wr hbf;have HOL:=zq hol;have HBF:=zq hbf;clear hol hbf;by_cases hlt:i<n
  ·obtain⟨x,hx⟩:∃x,vs[i]?=some x:=⟨_,List.getElem?_eq_getElem (by rw[<-HN.o];exact hlt)⟩
   obtain⟨g,rfl,hg1,hg2,hg3⟩:=HL.o.at' (by rw[<-HN.o];omega);obtain⟨xo,xcap,rfl,hxc,hxm,hxf⟩:=Qn (HO.o.el i x hx);have e0:=((HL.o.fr HBF.o).at' (by rw[<-HN.o];omega));obtain⟨g',e,-,-,h3⟩:=e0
   cases e
   have c3:=h3 i _ hx;obtain⟨m,hm⟩:=xq (L i)
   have HFL:Hid ((F i).length=L i):=by show _=_;rw[(HO.o.el i _ hx).1,Nat.mul_one]
   rw[<-hm]at c3 hx hxc hxf;have HX:=zq hx;have HM:=zq hm;have HXF:=zq hxf
   have hmb:m<=549755813888:=by rw[hm];exact HF.o i
   have hi0:(0:Int)<=(i:Int):=Int.natCast_nonneg _
   have hi1:(i:Int)<(n:Int):=by omega
   have HS2:Hid (R2 .i64 w B 3 vs L F i (.int .i64 0) wr):=⟨0,rfl,Nat.zero_le _,by rw[Cr];exact HOL.o,HBF.o⟩;clear hx hm hxf h3 hg1 hg2 hg3;go_wp2_with fail;go_loopw [5] (fun jv wr=>R2 .i64 w B 3 vs L F i jv wr) (fun jv _=>m-(intOf jv).toNat)
   case atStart=>exact HS2.o
   clear HS2 HOL HBF c2 c3
   case round=>
    obtain⟨j,rfl,hj,hol,hbf⟩:=hrel;rw[<-HM.o]at hj;have HOL:=zq hol;have HBF:=zq hbf;clear hol hbf;by_cases hjt:j<m
    ·obtain⟨h,rfl⟩:=HXF.o (by omega)
     have hel:=HOL.o.el i _ HX.o
     have hlen:j<(NMi .i64 L F i j i).length:=by rw[hel.1,Nat.mul_one,<-HM.o];exact hjt
     obtain⟨u4,hu4⟩:∃u,(NMi .i64 L F i j i)[j]?=some u:=⟨_,List.getElem?_eq_getElem hlen⟩;have c4:=X0 hel hu4;have f4:=Uj hel j;have hj0:(0:Int)<=(j:Int):=Int.natCast_nonneg _
     have hj1:(j:Int)<(m:Int):=by omega
     have W0:IntKind.i64.wrap ((bsg i j:Nat):Int)=((bsg i j:Nat):Int):=by rw[IntWalk.i64_in _ (by unfold bsg;omega)]
     have HFIN:=zq (R2.next HOL.o HBF.o HX.o HFL.o HM.o hjt);clear hel hlen hu4;go_wp2_with fail;refine(Zy i j _ (by omega) (by omega)).mono ?_;rintro e w5 ⟨rfl,rfl⟩;go_wp2_with fail;have hfin:=HFIN.o
     exact⟨hfin,by simp[intOf]<;>omega⟩
    ·have hje:j=m:=by omega
     have HFIN:Hid (R1 .i64 w B 3 vs L F (.int .i64 ((i:Int)+1)) wr):=⟨i+1,by go_num,by rw[<-HN.o];omega,by
      have h:=HOL.o;rw[hje,HM.o,Cs _ _ _ _ (Nat.le_of_eq HFL.o)]at h
      exact h,HBF.o⟩
     clear hje;go_wp2_with fail;have hfin:=HFIN.o
     exact⟨hfin,by simp[intOf]<;>omega⟩
  ·have hie:i=n:=by omega
   subst hie
   have HMK2:Hid (OL wr B 3 1 vs L (fun j=>bmk .i64 j (L j))):=HOL.o.congr (fun _ _=>rfl) fun j hj=>by unfold NM;rw[if_pos (by rw[HN.o];exact hj)]
   have HLB:Hid (∀j,L j<=549755813888):=HF.o
   have HVB:Hid (∀x∈vs,∀q,x.ownBlock=some q->q<wr.heap.size):=fun x hx q hq=>by
    obtain⟨j,hj⟩:=List.mem_iff_getElem?.1 hx;exact(World.ownsRow.lt (HOL.o.el j x hj) q hq).2
   obtain⟨w2,hw2⟩:=xq (wr.alloc (.cells (madeCells #[.slice none 0 0] i) 41));obtain⟨GB,hGB⟩:=xq wr.heap.size
   have HGL:Hid (GB<w2.heap.size):=by show _<_;rw[hw2,hGB];simp
   have HWZ:Hid (w.heap.size<=w2.heap.size):=by show _<=_;rw[hw2];have:=HBF.o.size;simp;omega
   have HGW:Hid (w.heap.size<=GB):=by show _<=_;rw[hGB];exact HBF.o.size
   have HGV:Hid (∀x∈vs,x.ownBlock≠some GB):=fun x hx e=>by have:=HVB.o x hx GB e;omega
   have HW2:=zq hw2;have HGE:=zq hGB
   have HS3:Hid (R3 .i64 w w2 B 3 41 vs L GB (.int .i64 0) w2):=by
    have hba:=Qq wr (.cells (madeCells #[.slice none 0 0] i) 41);refine⟨0,vs,rfl,Nat.zero_le _,(GL.start (by rw[hw2];exact HMK2.o.below hba)).congr (fun j=> ?_) (fun j=> ?_),fun _ _=>rfl,⟨_,by rw[hw2,hGB];exact heap_alloc_new wr _,by rw[<-HN.o];simp[madeCells],fun j hj=>absurd hj (Nat.not_lt_zero j)⟩,by rw[hw2];exact HBF.o.below hba⟩
    ·unfold LG;rw[if_neg (Nat.not_lt_zero j)]
    ·unfold LG;rw[if_neg (Nat.not_lt_zero j)]
   have HMAKE:=run_make_row' (P:=Tryz.prog) 38 41 (.slice none 0 0) 24 Tryz.underlying38 Tryz.infoBk rfl .i64 .i64 i (by omega) (by omega);obtain⟨j0,hj,hk0,hk1,hk2⟩:=info_parts Tryz.infoInt;clear hw2 hGB;go_wp2_with fail;rw[<-HW2.o,<-HGE.o];clear c2;go_loopw [7,8,9] (fun iv _ _ wr=>R3 .i64 w w2 B 3 41 vs L GB iv wr) (fun iv _ _ _=>i-(intOf iv).toNat)
   case atStart=>exact HS3.o
   clear HS3
   case round=>
    obtain⟨k,ys,rfl,hk,hgl,hz,hgr,hbf⟩:=hrel;rw[<-HN.o]at hk;have c2:=HC.o wr hbf;have HGLr:=zq hgl;have HZ:=zq hz;have HGR:=zq hgr;have HBFr:=zq hbf;clear hgl hz hgr hbf;by_cases hlt:k<i
    ·obtain⟨x,hx⟩:∃x,vs[k]?=some x:=⟨_,List.getElem?_eq_getElem (by rw[<-HN.o];exact hlt)⟩
     obtain⟨g,rfl,h3⟩:∃g,ao=some ⟨g,0,none⟩/\ ∀j x,vs[j]?=some x->wr.cell? ⟨g,j,none⟩=some x:=by
      obtain⟨g,e,-,-,h3⟩:=(HL.o.fr HBFr.o).at' (by rw[<-HN.o];omega);exact⟨g,e,h3⟩
     obtain⟨xo,xcap,rfl,hxc,hxm,hxf⟩:=Qn (HMK2.o.el k x hx);have c3:=h3 k _ hx;have HX:=zq hx;have hlb:=HLB.o k;have hi0:(0:Int)<=(k:Int):=Int.natCast_nonneg _
     have hi1:(k:Int)<(i:Int):=by omega
     have HS4:Hid (R4 .i64 w w2 B 3 41 vs L GB k (.slice xo (L k) xcap) (.int .i64 0) wr):=⟨0,ys,rfl,Nat.zero_le _,by rw[HZ.o k (Nat.le_refl k)];exact hx,HGLr.o.congr (T9 L k) (fun j=>by rw[T9]),fun j hj=>HZ.o j (by omega),HGR.o,HBFr.o⟩;clear hx hxf h3;go_wp2_with fail;go_loopw [8,9] (fun gv jv wr=>R4 .i64 w w2 B 3 41 vs L GB k gv jv wr) (fun _ jv _=>80-(intOf jv).toNat)
     case atStart=>exact HS4.o
     clear HS4 c2 c3 HGLr HZ HGR HBFr
     case round=>
      obtain⟨m,ys,rfl,hm,hy,hgl,hz,hgr,hbf⟩:=hrel;obtain⟨q,hq⟩:=xq (L k+m);have hel:=hgl.ol.el k _ hy;simp only[Wb,<-hq]at hel;obtain⟨go,gcap,rfl,hgc,hgm,-⟩:=Qn hel;have HEL:=zq hel;have HY:=zq hy;have HGLr:=zq hgl;have HZ:=zq hz;have HGR:=zq hgr;have HBFr:=zq hbf;have HQ:=zq hq
      have hqb:q<=549755813968:=by omega
      have hsz:=HGLr.o.sz;have hwz:=HWZ.o;clear hel hy hgl hz hgr hbf hq;by_cases hmt:m<80
      ·have hm1:(m:Int)<80:=by omega
       have W0:IntKind.i64.wrap ((bsg k q:Nat):Int)=((bsg k q:Nat):Int):=by rw[IntWalk.i64_in _ (by unfold bsg;omega)]
       go_wp2_with fail;refine(Zy k q _ (by omega) (by omega)).mono ?_;rintro e w5 ⟨rfl,rfl⟩;go_wp2_with (at_builtin;refine X3 rfl _ _ 41 rfl B 3 j0 (.int .i64 0) 1 8 Tryz.underlying41 hj hk0 hk1 hk2 rfl (by omega) _ q (bmk .i64 k q) rfl (World.ownsRow.alloc HEL.o _) ⟨wr.heap.size,0,none⟩ 1 1 [.int .i64 ((bsg k q:Nat):Int)] rfl rfl (LexP.Qc _ _ _ _ rfl) (by simp[Value.oneCell']) (by unfold maxLen;omega) (by omega) (by simp;omega) ?_);intro v6 w6 ho hg hat hkp
       have HFIN:Hid (R4 .i64 w w2 B 3 41 vs L GB k v6 (.int .i64 ((m:Int)+1)) w6):=
        R4.next (HGLr.o.far (World.grownBy_alloc wr _ none) (fun _ _ _ _ _ e=>by cases e) (fun _ _ _ _ _ e=>by cases e)) HY.o HZ.o (HGR.o.far (World.grownBy_alloc wr _ none) (fun e=>by cases e)) (HBFr.o.below (Qq wr _)) hmt (by rw[<-HQ.o];exact ho) hg (by simpa using hat) (by rw[<-HQ.o];exact hkp) HGV.o HGL.o HWZ.o
       clear ho hg hat hkp;go_wp2_with fail;have hfin:=HFIN.o
       exact⟨hfin,by simp[intOf]<;>omega⟩
      ·have hme:m=80:=by omega
       obtain⟨z,c5,f5⟩:∃z,wr.cell? ⟨GB,k,none⟩=some z/\wr.frozen? ⟨GB,k,none⟩=false:=by
        obtain⟨cur,h1,h2,-⟩:=HGR.o;rw[<-HN.o]at h2;exact⟨cur[k]'(by omega),by rw[cell_of_row _ _ _ _ _ _ h1,Array.getElem?_eq_getElem (by omega)],frozen_of_row _ _ _ _ _ h1⟩
       have HFIN:Hid (R3 .i64 w w2 B 3 41 vs L GB (.int .i64 ((k:Int)+1)) (wr.setCell ⟨GB,k,none⟩ (.slice go q gcap))):=by
        refine⟨k+1,ys,by go_num,by rw[<-HN.o];omega,(HGLr.o.far (Zx wr GB k _) (fun j x q hx hq e=> ?_) (fun j x q hx hq e=> ?_)).congr (fun j=>by rw[hme];exact T8 L k j) (fun j=>by rw[hme,T8 L k j]),HZ.o,HGR.o.set HY.o (by rw[<-HN.o];omega),HBFr.o.step (Zx wr GB k _) fun q hq hlt=> ?_⟩
        ·cases e;exact HGV.o x (List.mem_of_getElem? hx) hq
        ·cases e
         obtain⟨x2,hx2,hq2⟩:=HGLr.o.yb j x GB hx hq HGL.o;exact HGV.o x2 (List.mem_of_getElem? hx2) hq2
        ·cases hq;have:=HGW.o;omega
       clear hme;go_wp2_with fail;have hfin:=HFIN.o
       exact⟨hfin,by simp[intOf]<;>omega⟩
    ·have hke:k=i:=by omega
     subst hke
     have HRO:Hid (∀p,p<k-> ∃xo xcap yo ycap,vs[p]?=some (.slice xo (L p) xcap)/\(∀q,q<L p-> ∃g,xo=some ⟨g,0,none⟩/\wr.cell? ⟨g,q,none⟩=some (.int .i64 ((bsg p q:Nat):Int)))/\
       wr.cell? ⟨GB,p,none⟩=some (.slice yo (L p+80) ycap)/\(∃g,yo=some ⟨g,0,none⟩/\ ∀q,q<L p+80->wr.cell? ⟨g,q,none⟩=some (.int .i64 ((bsg p q:Nat):Int)))):=by
      intro p hp;obtain⟨x,hx⟩:∃x,vs[p]?=some x:=⟨_,List.getElem?_eq_getElem (by rw[<-HN.o];exact hp)⟩;obtain⟨y,hy⟩:∃y,ys[p]?=some y:=⟨_,List.getElem?_eq_getElem (by rw[HGLr.o.len,<-HN.o];exact hp)⟩;have hel:=HGLr.o.ol.el p y hy
      have hfg:LG L k p=L p+80:=by unfold LG;rw[if_pos hp]
      simp only[hfg]at hel;obtain⟨xo,xcap,rfl,hxr⟩:=HGLr.o.old p x hx;obtain⟨yo,ycap,rfl,-,-,hyf⟩:=Qn hel;obtain⟨gy,rfl⟩:=hyf (by omega);obtain⟨cur,h1,h2,h3⟩:=HGR.o;refine⟨xo,xcap,_,ycap,hx,fun q hq=> ?_,?_,gy,rfl,fun q hq=>X0 hel (Er hq)⟩
      ·obtain⟨g,rfl,h4⟩:=hxr (by omega)
       exact⟨g,rfl,h4 q _ (Er hq)⟩
      ·rw[cell_of_row _ _ _ _ _ _ h1,h3 p hp,hy]
     go_wp2_with fail;obtain⟨w3,hw3⟩:=xq wr
     have HR3:Hid (∀wx,Below w3.heap.size w3 wx->BFr vs w wx):=fun wx hb=>by subst hw3;exact HBFr.o.below hb
     have HLA:Hid (∀wx,Below w3.heap.size w3 wx->LsAt vs wx ao cap G row 2):=fun wx hb=>HL.o.fr (HR3.o wx hb)
     have HRP:Hid (∀p,p<k-> ∃xo xcap yo ycap,vs[p]?=some (.slice xo (L p) xcap)/\(∀q,q<L p-> ∃g,xo=some ⟨g,0,none⟩/\ ∀wx,Below w3.heap.size w3 wx->wx.cell? ⟨g,q,none⟩=some (.int .i64 ((bsg p q:Nat):Int)))/\
       (∀wx,Below w3.heap.size w3 wx->wx.cell? ⟨GB,p,none⟩=some (.slice yo (L p+80) ycap))/\(∃g,yo=some ⟨g,0,none⟩/\ ∀q,q<L p+80-> ∀wx,Below w3.heap.size w3 wx->wx.cell? ⟨g,q,none⟩=some (.int .i64 ((bsg p q:Nat):Int)))):=by
      intro p hp;obtain⟨xo,xcap,yo,ycap,h1,h2,h3,g,h4,h5⟩:=HRO.o p hp;subst hw3;refine⟨xo,xcap,yo,ycap,h1,fun q hq=> ?_,fun wx hb=>Jj hb h3,g,h4,fun q hq wx hb=>Jj hb (h5 q hq)⟩;obtain⟨g2,e,h6⟩:=h2 q hq;exact⟨g2,e,fun wx hb=>Jj hb h6⟩
     have HST:Hid (Below w3.heap.size w3 wr):=by subst hw3;exact Below.refl _ _
     clear hw3 c2;go_loopw [10,11,12,13] (fun iv _ _ _ wx=> ∃p:Nat,iv=.int .i64 (p:Nat)/\p<=k/\Below w3.heap.size w3 wx) (fun iv _ _ _ _=>k-(intOf iv).toNat)
     case atStart=>exact⟨0,rfl,Nat.zero_le _,HST.o⟩
     case round=>
      obtain⟨p,rfl,hp,hbw⟩:=hrel;have HBW:=zq hbw;have c2:wr.cell? ⟨G,2,none⟩=some (.slice ao k cap):=HC.o wr (HR3.o wr hbw);clear hbw;by_cases hlt:p<k
      ·obtain⟨xo,xcap,yo,ycap,hx,hxr,hyc,gy,rfl,hyr⟩:=HRP.o p hlt
       obtain⟨g,rfl,h3⟩:∃g,ao=some ⟨g,0,none⟩/\ ∀j x,vs[j]?=some x->wr.cell? ⟨g,j,none⟩=some x:=by
        obtain⟨g,e,-,-,h3⟩:=(HLA.o wr HBW.o).at' (by rw[<-HN.o];omega);exact⟨g,e,h3⟩
       have c3:=h3 p _ hx;have c4:=hyc wr HBW.o;have HXR:=zq hxr;have HYR:=zq hyr;have hlb:=HLB.o p;have hi0:(0:Int)<=(p:Int):=Int.natCast_nonneg _
       have hi1:(p:Int)<(k:Int):=by omega
       obtain⟨M,hM⟩:=xq (L p);rw[<-hM]at c3 c4 hlb;have HM:=zq hM;clear hx hxr hyc hyr h3 hM;go_wp2_with fail;go_loopw [13] (fun jv wx=> ∃q:Nat,jv=.int .i64 (q:Nat)/\q<=M+80/\Below w3.heap.size w3 wx) (fun jv _=>M+80-(intOf jv).toNat)
       case atStart=>exact⟨0,rfl,Nat.zero_le _,HBW.o⟩
       case round=>
        obtain⟨q,rfl,hq,hbw⟩:=hrel;have HBW2:=zq hbw;clear hbw c2 c3 c4
        have W0:IntKind.i64.wrap ((bsg p q:Nat):Int)=((bsg p q:Nat):Int):=by rw[IntWalk.i64_in _ (by unfold bsg;omega)]
        by_cases hqt:q<M+80
        ·have c5:=HYR.o q (by rw[<-HM.o];exact hqt) wr HBW2.o
         have hj0:(0:Int)<=(q:Int):=Int.natCast_nonneg _
         have hj1:(q:Int)<(M:Int)+80:=by omega
         obtain⟨S0,hS0⟩:∃S0:Int,S0=((bsg p q:Nat):Int):=⟨_,rfl⟩;rw[<-hS0]at c5 W0;have HS0:=zq hS0;have HC5:=zq c5;clear hS0;by_cases hqm:q<M
         case' pos=>
          obtain⟨gx,rfl,hc6⟩:=HXR.o q (by rw[<-HM.o];exact hqm);have c6:=hc6 wr HBW2.o;rw[<-HS0.o]at c6
          have hj2:(q:Int)<(M:Int):=by omega
          have hj4:decide ((q:Int)<(M:Int))=true:=decide_eq_true hj2
         case' neg=>
          have hj2: ¬(q:Int)<(M:Int):=by omega
          have hj4:decide ((q:Int)<(M:Int))=false:=decide_eq_false hj2
         all_goals
          have HSG:Hid (∀wx:World,Calls Tryz.prog 117 #[.int .i64 (p:Nat),.int .i64 (q:Nat)] wx fun e w'=>e=.returned (.int .u64 S0)/\w'=wx):=fun wx=>by
           rw[HS0.o];exact(Zy p q wx (by omega) (by omega)).mono fun _ _ h=>⟨h.1,h.2.symm⟩
          go_wp2_with fail;go_quiet ((go_at_call 117;exact Calls.quiet_of_same (HSG.o _)));have HBW3:Hid (Below w3.heap.size w3 (wr.drewN nq)):=HBW2.o.trans ((below_drewN wr nq).mono HBW2.o.size);go_wp2_with fail;have hfin:=HBW3.o
          exact⟨⟨q+1,by go_num,by omega,hfin⟩,by simp[intOf]<;>omega⟩
        ·have hj1: ¬(q:Int)<(M:Int)+80:=by omega
         go_wp2_with fail;have hfin:=HBW2.o
         exact⟨⟨p+1,by go_num,by omega,hfin⟩,by simp[intOf]<;>omega⟩
      ·have hi1: ¬(p:Int)<(k:Int):=by omega
       go_wp2_with fail;go_ret;exact⟨rfl,HR3.o _ HBW.o⟩
def qv (Q:List Nat):List (Bool×Value):=Q.map fun q=>(false,.slice (some ⟨q,0,none⟩) 1 1)
def qc (Q:List Nat):List Value:=Zh (qv Q)
theorem Cz (Q:List Nat):(qc Q).length=Q.length*2:=by unfold qc;rw[Hg,qv,List.length_map]
theorem Qjf (Q:List Nat)(q:Nat):qc (Q++[q])=qc Q++[.bool false,.slice (some ⟨q,0,none⟩) 1 1]:=by
 unfold qc qv;rw[List.map_append,Hp];rfl
theorem Qjb {Q:List Nat}{a q:Nat}(h:Q[a]?=some q):(qc Q)[a*2]?=some (.bool false)/\(qc Q)[a*2+1]?=some (.slice (some ⟨q,0,none⟩) 1 1):=
 Us _ a (false,.slice (some ⟨q,0,none⟩) 1 1) (by unfold qv;rw[List.getElem?_map,h];rfl)
theorem Qhn {Q:List Nat}{c:List Value}{q:Nat}(h:Q.length*2+1<c.length):
  ((qc Q++c.drop (Q.length*2)).set (Q.length*2) (.bool false)).set (Q.length*2+1) (.slice (some ⟨q,0,none⟩) 1 1)=qc (Q++[q])++c.drop ((Q.length+1)*2):=by
 have E:=Cz Q
 rw[List.set_append,if_neg (by omega),E,Nat.sub_self,List.set_append,if_neg (by omega),E,show Q.length*2+1-Q.length*2=1 by omega,
  List.drop_eq_getElem_cons (by omega),List.drop_eq_getElem_cons (by omega),List.set_cons_zero,List.set_cons_succ,List.set_cons_zero,Qjf,List.append_assoc,show (Q.length+1)*2=Q.length*2+1+1 by omega]
 rfl
def MkAt (w:World)(i:Nat)(Q:List Nat):Prop:=∀(a q:Nat),Q[a]?=some q->w.heap[q]?=some (.cells #[.int .u64 ((bsg i a:Nat):Int)] 101 (0,0))
theorem MkAt.keep {w w':World}{i:Nat}{Q:List Nat}(h:MkAt w i Q)(hk:∀q∈Q,q<w.heap.size->w'.heap[q]?=w.heap[q]?):MkAt w' i Q:=fun a q ha=>
 (hk q (List.mem_of_getElem? ha) (Array.getElem?_eq_some_iff.1 (h a q ha)).1).trans (h a q ha)
theorem MkAt.snoc {w:World}{i q:Nat}{Q:List Nat}(h:MkAt w i Q)(hq:w.heap[q]?=some (.cells #[.int .u64 ((bsg i Q.length:Nat):Int)] 101 (0,0))):MkAt w i (Q++[q]):=fun a p ha=>by
 by_cases hl:a<Q.length
 ·rw[List.getElem?_append_left hl]at ha;exact h a p ha
 ·have:=(List.getElem?_eq_some_iff.1 ha).1
  rw[List.length_append,List.length_singleton]at this
  have e:a=Q.length:=by omega
  subst e;rw[List.getElem?_append_right (Nat.le_refl _),Nat.sub_self]at ha
  cases ha;exact hq
theorem MkAt.lt {w:World}{i:Nat}{Q:List Nat}(h:MkAt w i Q):∀q∈Q,q<w.heap.size:=fun q hq=>by
 obtain⟨a,E⟩:=List.mem_iff_getElem?.1 hq;exact(Array.getElem?_eq_some_iff.1 (h a q E)).1
def NQ (F:Nat->List Value)(Q:Nat->List Nat)(i:Nat):Nat->List Value:=fun a=>if a<i then qc (Q a) else if a=i then qc (Q i)++(F i).drop ((Q i).length*2) else F a
def I0 (w:World)(B:Nat)(t:TypeId)(vs:List Value)(L:Nat->Nat)(F:Nat->List Value)(i:Nat)(Q:Nat->List Nat)(wr:World):Prop:=
 OL wr B t 2 vs L (NQ F Q i)/\(∀a,a<=i->MkAt wr a (Q a)/\ ∀q∈Q a,w.heap.size<=q)/\BFr vs w wr
def I1 (w:World)(B:Nat)(t:TypeId)(vs:List Value)(L:Nat->Nat)(F:Nat->List Value)(iv:Value)(wr:World):Prop:=
 ∃(i:Nat) (Q:Nat->List Nat),iv=.int .i64 (i:Nat)/\i<=vs.length/\Q i=[]/\I0 w B t vs L F i Q wr
def I2 (w:World)(B:Nat)(t:TypeId)(vs:List Value)(L:Nat->Nat)(F:Nat->List Value)(i:Nat)(jv:Value)(wr:World):Prop:=
 ∃(j:Nat) (Q:Nat->List Nat),jv=.int .i64 (j:Nat)/\j<=L i/\(Q i).length=j/\I0 w B t vs L F i Q wr
theorem I1.start {w:World}{B:Nat}{t:TypeId}{vs:List Value}{L:Nat->Nat}{F:Nat->List Value}(h:OL w B t 2 vs L F):I1 w B t vs L F (.int .i64 0) w:=
 ⟨0,fun _=>[],rfl,Nat.zero_le _,rfl,h.congr (fun _ _=>rfl) fun j _=>by
  unfold NQ;rw[if_neg (Nat.not_lt_zero j)];by_cases h:j=0
  ·rw[if_pos h,h];rfl
  ·rw[if_neg h],fun a _=>⟨fun b q hb=>by simp at hb,fun q hq=>by simp at hq⟩,BFr.refl _ _⟩
theorem I2.next {w wr:World}{B:Nat}{t:TypeId}{vs:List Value}{L:Nat->Nat}{F:Nat->List Value}{i j g n cap:Nat}{Q:Nat->List Nat}(h:I0 w B t vs L F i Q wr)(hx:vs[i]?=some (.slice (some ⟨g,0,none⟩) n cap))(hQ:(Q i).length=j)(hn:n=L i)(hj:j<n)(hF:(F i).length=L i*2)(hgl:g<w.heap.size):
  I2 w B t vs L F i (.int .i64 ((j:Int)+1)) (((wr.setCell ⟨g,j*2,none⟩ (.bool false)).setCell ⟨g,j*2+1,none⟩ (.slice (some ⟨wr.heap.size,0,none⟩) 1 1)).alloc (.cells #[.int .u64 ((bsg i j:Nat):Int)] 101)):=by
 obtain⟨h1,O,T⟩:=h;have a0:=T.size;obtain⟨wS,H⟩:=xq ((wr.setCell ⟨g,j*2,none⟩ (.bool false)).setCell ⟨g,j*2+1,none⟩ (.slice (some ⟨wr.heap.size,0,none⟩) 1 1));rw[<-H]
 have Z:wS.heap.size=wr.heap.size:=by rw[H];simp[World.setCell]
 have I:=Qq wS (.cells #[.int .u64 ((bsg i j:Nat):Int)] 101)
 have J:∀q,q≠g->q<wr.heap.size->(wS.alloc (.cells #[.int .u64 ((bsg i j:Nat):Int)] 101)).heap[q]?=wr.heap[q]? :=fun q E hl=>
  (I.block q (by omega)).trans (by rw[H];exact(heap_setCell_other _ ⟨g,j*2+1,none⟩ q _ E).trans (heap_setCell_other _ ⟨g,j*2,none⟩ q _ E))
 have K:=(h1.set hx (j*2) (.bool false)).set hx (j*2+1) (.slice (some ⟨wr.heap.size,0,none⟩) 1 1);rw[<-H]at K
 have U:BFr vs w wS:=by rw[H];exact(T.step (Zx _ _ _ _) fun q E _=>⟨_,List.mem_of_getElem? hx,by cases E;rfl⟩).step (Zx _ _ _ _) fun q E _=>⟨_,List.mem_of_getElem? hx,by cases E;rfl⟩
 refine⟨j+1,fun a=>if a=i then Q i++[wr.heap.size] else Q a,by go_num,by omega,by simp[hQ],(K.below I).congr (fun _ _=>rfl) fun a ha=> ?_,fun a ha=> ?_,U.below I⟩
 ·unfold NQ
  by_cases hai:a=i
  ·subst hai
   simp only[if_pos,if_neg (Nat.lt_irrefl a)];rw[List.length_append,List.length_singleton,<-hQ];exact Qhn (by rw[hF];omega)
  ·simp only[if_neg hai]
 ·by_cases hai:a=i
  ·subst hai
   simp only[if_pos];obtain⟨m1,m2⟩:=O a (Nat.le_refl _);refine⟨MkAt.snoc (m1.keep fun q E hlt=> ?_) ?_,fun q E=> ?_⟩
   ·have:=m2 q E
    exact J q (by omega) hlt
   ·rw[hQ,<-Z];exact heap_alloc_new wS _
   ·rcases List.mem_append.1 E with E|E
    ·exact m2 q E
    ·rw[List.mem_singleton.1 E];exact a0
  ·simp only[if_neg hai]
   obtain⟨m1,m2⟩:=O a ha;exact⟨m1.keep fun q E hlt=>by have:=m2 q E;exact J q (by omega) hlt,m2⟩
theorem I2.full {w wr:World}{B:Nat}{t:TypeId}{vs:List Value}{L:Nat->Nat}{F:Nat->List Value}{i:Nat}{Q:Nat->List Nat}(h:I0 w B t vs L F i Q wr)(hQ:(Q i).length=L i)(hF:(F i).length=L i*2)(hi:i<vs.length):
  I1 w B t vs L F (.int .i64 ((i:Int)+1)) wr:=by
 obtain⟨E,H,I⟩:=h;obtain⟨Q',e1,e2⟩:∃Q':Nat->List Nat,(∀a,a≠i+1->Q' a=Q a)/\Q' (i+1)=[]:=⟨fun a=>if a=i+1 then [] else Q a,fun a h=>if_neg h,if_pos rfl⟩;refine⟨i+1,Q',by go_num,hi,e2,E.congr (fun _ _=>rfl) fun a ha=> ?_,fun a ha=> ?_,I⟩
 ·unfold NQ
  by_cases hlt:a<i
  ·rw[if_pos hlt,if_pos (by omega),e1 a (by omega)]
  ·rw[if_neg hlt]
   by_cases hai:a=i
   ·subst hai
    rw[if_pos rfl,if_pos (by omega),e1 a (by omega),List.drop_eq_nil_of_le (by rw[hF,hQ];exact Nat.le_refl _),List.append_nil]
   ·rw[if_neg hai,if_neg (by omega)]
    by_cases hai2:a=i+1
    ·rw[if_pos hai2,e2,hai2];rfl
    ·rw[if_neg hai2]
 ·by_cases hai:a=i+1
  ·rw[hai,e2];exact⟨fun b q hb=>by simp at hb,fun q hq=>by simp at hq⟩
  ·rw[e1 a hai];exact H a (by omega)
def MKg (w wr:World)(GB n:Nat)(ys:List Value)(Q:Nat->List Nat):Prop:=∀j,j<n->MkAt wr j (Q j)/\ ∀q∈Q j,q≠GB/\w.heap.size<=q/\ ∀y∈ys,y.ownBlock≠some q
def I3 (w w2:World)(B:Nat)(t t2:TypeId)(vs:List Value)(L:Nat->Nat)(Q0:Nat->List Nat)(GB:Nat)(iv:Value)(wr:World):Prop:=
 ∃(i:Nat) (ys:List Value) (Q:Nat->List Nat),iv=.int .i64 (i:Nat)/\i<=vs.length/\GL w2 wr B t 2 vs ys L (fun j=>qc (Q0 j)) (LG L i) (fun j=>qc (Q j))/\(∀j,i<=j->ys[j]?=vs[j]?)/\GrB wr GB vs.length i ys t2/\BFr vs w wr/\MKg w wr GB vs.length ys Q
def I4 (w w2:World)(B:Nat)(t t2:TypeId)(vs:List Value)(L:Nat->Nat)(Q0:Nat->List Nat)(GB i:Nat)(gv jv:Value)(wr:World):Prop:=
 ∃(m:Nat) (ys:List Value) (Q:Nat->List Nat),jv=.int .i64 (m:Nat)/\m<=80/\ys[i]?=some gv/\GL w2 wr B t 2 vs ys L (fun j=>qc (Q0 j)) (LGi L i m) (fun j=>qc (Q j))/\(∀j,i+1<=j->ys[j]?=vs[j]?)/\GrB wr GB vs.length i ys t2/\BFr vs w wr/\MKg w wr GB vs.length ys Q
theorem I4.next {w w2 wr w':World}{B:Nat}{t t2:TypeId}{vs ys:List Value}{L:Nat->Nat}{Q0 Q:Nat->List Nat}{GB i m:Nat}{gv v':Value}{x:Value}(hgl:GL w2 wr B t 2 vs ys L (fun j=>qc (Q0 j)) (LGi L i m) (fun j=>qc (Q j)))(hy:ys[i]?=some gv)(hz:∀j,i+1<=j->ys[j]?=vs[j]?)
  (hgr:GrB wr GB vs.length i ys t2) (hbf:BFr vs w wr) (hmk:MKg w wr GB vs.length ys Q) (hm:m<80)
  (ho:w'.ownsRow B t 2 v' (L i+m+1) (qc (Q i)++[.bool false,.slice (some ⟨wr.heap.size,0,none⟩) 1 1])) (hg:((wr.alloc (.cells #[.int .u64 ((bsg i (L i+m):Nat):Int)] 101)).alloc (.cells #[.bool false,.slice (some ⟨wr.heap.size,0,none⟩) 1 1] t)).grownBy w' gv.ownBlock) (hat:v'.ownBlock=gv.ownBlock\/v'.ownBlock=some (wr.heap.size+2))
  (hk:∀g,gv.ownBlock=some g-> ∀j u,(qc (Q i))[j]?=some u->w'.cell? ⟨g,j,none⟩=some u) (hGB:∀x∈vs,x.ownBlock≠some GB) (hGl:GB<w2.heap.size) (hw:w.heap.size<=w2.heap.size):
  I4 w w2 B t t2 vs L Q0 GB i v' (.int .i64 ((m:Int)+1)) w':=by
 obtain⟨wA,K⟩:∃wA,wA=wr.alloc (.cells #[.int .u64 ((bsg i (L i+m):Nat):Int)] 101):=⟨_,rfl⟩;obtain⟨wB,T⟩:=xq (wA.alloc (.cells #[.bool false,.slice (some ⟨wr.heap.size,0,none⟩) 1 1] t));rw[<-K,<-T]at hg
 have bA:Below wr.heap.size wr wA:=by rw[K];exact Qq _ _
 have bB:Below wA.heap.size wA wB:=by rw[T];exact Qq _ _
 have a8:wA.heap.size=wr.heap.size+1:=by rw[K];simp
 have a9:wB.heap.size=wr.heap.size+2:=by rw[T];simp[a8]
 have a7:wA.heap[wr.heap.size]?=some (.cells #[.int .u64 ((bsg i (L i+m):Nat):Int)] 101 (0,0)):=by rw[K];exact heap_alloc_new wr _
 have H:Below wr.heap.size wr wB:=bA.trans (bB.mono bA.size);have a0:=(List.getElem?_eq_some_iff.1 hy).1
 have ad:i<vs.length:=by rw[<-hgl.len];exact a0
 have Z:∀q,gv.ownBlock=some q->q<wr.heap.size:=fun q E=>(World.ownsRow.lt (hgl.ol.el i gv hy) q E).2
 have aa:(Q i).length=L i+m:=by
  have:=(hgl.ol.el i gv hy).1;rw[Cz,Wb]at this;omega
 have U:wr.grownBy wB none:=⟨H.os,H.tape,H.output,H.size,fun k hk _=>H.block k hk⟩;have a5:=hgl.far U (fun _ _ _ _ _ e=>by cases e) (fun _ _ _ _ _ e=>by cases e);have a4:∀q,q<wr.heap.size->gv.ownBlock≠some q->w'.heap[q]?=wr.heap[q]? :=fun q E hne=>(hg.block q (by omega) (fun e=>hne e.symm)).trans (H.block q E);refine⟨m+1,ys.set i v',fun a=>if a=i then Q i++[wr.heap.size] else Q a,by go_num,by omega,List.getElem?_set_self a0,(a5.grow hy (us:=[.bool false,.slice (some ⟨wr.heap.size,0,none⟩) 1 1]) ?_ hg ?_ hk).congr (Kw L i m) (fun j=> ?_),fun j hj=> ?_,((hgr.far U (fun e=>by cases e)).far hg fun e=> ?_).cong fun j hj=> ?_,(hbf.below H).step hg fun q E hlt=> ?_,fun j hj=> ?_⟩
 ·simp only[Wb];exact ho
 ·rw[a9];exact hat
 ·by_cases hji:j=i
  ·simp only[if_pos hji];rw[Qjf]
  ·simp only[if_neg hji]
 ·rw[List.getElem?_set_ne (by omega)];exact hz j hj
 ·obtain⟨x,hx,E⟩:=hgl.yb i gv GB hy e hGl
  exact hGB x (List.mem_of_getElem? hx) E
 ·rw[List.getElem?_set_ne (by omega)]
 ·obtain⟨x,hx,ab⟩:=hgl.yb i gv q hy E (by omega)
  exact⟨x,List.mem_of_getElem? hx,ab⟩
 ·obtain⟨m1,m2⟩:=hmk j hj
  have O:∀q∈Q j,q≠GB/\w.heap.size<=q/\ ∀y∈ys.set i v',y.ownBlock≠some q:=by
   intro q E;obtain⟨a1,a2,a3⟩:=m2 q E;refine⟨a1,a2,fun y hy' e=> ?_⟩;rcases List.mem_or_eq_of_mem_set hy' with h|h
   ·exact a3 y h e
   ·subst h
    rcases hat with I|I
    ·exact a3 gv (List.mem_of_getElem? hy) (I ▸ e)
    ·rw[I]at e;cases e
     have:=m1.lt _ E;omega
  have J:MkAt w' j (Q j):=m1.keep fun q E hlt=>a4 q hlt fun e=>(m2 q E).2.2 gv (List.mem_of_getElem? hy) e;by_cases hji:j=i
  ·subst hji
   simp only[if_pos];refine⟨J.snoc ?_,fun q E=> ?_⟩
   ·rw[aa,hg.block _ (by omega) (fun e=>by have:=Z _ e.symm;omega),bB.block _ (by omega)];exact a7
   ·rcases List.mem_append.1 E with E|E
    ·exact O q E
    ·rw[List.mem_singleton.1 E]
     have I:=hgl.sz;refine⟨by omega,by omega,fun y hy' e=> ?_⟩;rcases List.mem_or_eq_of_mem_set hy' with h|h
     ·obtain⟨a,ha⟩:=List.mem_iff_getElem?.1 h
      have:=(World.ownsRow.lt (hgl.ol.el a y ha) _ e).2;omega
     ·subst h
      rcases hat with I|I
      ·rw[I]at e;have:=Z _ e;omega
      ·rw[I]at e;have:=Option.some.inj e;omega
  ·simp only[if_neg hji]
   exact⟨J,O⟩
theorem Tryz.infoBkI:(Tryz.prog.info? 45).map (fun i=>(i.zero,i.size,i.bytes))=some (some (.slice none 0 0),1,24):=by kernel_rfl
theorem Qjj {w:World}{i a q:Nat}{Q:List Nat}(h:MkAt w i Q)(ha:Q[a]?=some q):w.cell? ⟨q,0,none⟩=some (.int .u64 ((bsg i a:Nat):Int)):=by
 rw[cell_of_row _ _ _ _ _ _ (h a q ha)];rfl
theorem Qwo (G n cap:Nat)(row:Array Value)(ao:Option Addr)(vs:List Value)(L:Nat->Nat)(F:Nat->List Value)(B:Nat)(w:World)(hL:LsAt vs w ao cap G row 1)(hO:OL w B 62 2 vs L F)(hn:n=vs.length)(hnb:n<=536870912)(hF:∀j,L j<=549755813888)(hB:B<=w.heap.size):
  Calls Tryz.prog 61 #[.pointer (some ⟨G,0,none⟩)] w (fun e w'=>e=.returned (.bool true)/\BFr vs w w'):=by
 have HL:=zq hL;have HO:=zq hO;have HF:=zq hF;have HN:=zq hn
 have c1:w.cell? ⟨G,1,none⟩=some (.slice ao n cap):=by rw[hn];exact hL.cell
 have HC:Hid (∀wx,BFr vs w wx->wx.cell? ⟨G,1,none⟩=some (.slice ao n cap)):=fun wx hf=>by rw[hn];exact(hL.fr hf).cell
 have HS1:Hid (I1 w B 62 vs L F (.int .i64 0) w):=I1.start hO;clear hL hO hF hn;go_enter Tryz.func61,Tryz.ntmps61;go_wp2_with fail;go_loopw [3,4,5] (fun iv _ _ wr=>I1 w B 62 vs L F iv wr) (fun iv _ _ _=>n-(intOf iv).toNat)
 case atStart=>exact HS1.o
 clear HS1
 case round=>
  obtain⟨i,Q,rfl,hi,hq0,h0⟩:=hrel;rw[<-HN.o]at hi;have c1:=HC.o wr h0.2.2;have HI0:=zq h0;have HQ0:=zq hq0;clear h0 hq0;by_cases hlt:i<n
  ·obtain⟨x,hx⟩:∃x,vs[i]?=some x:=⟨_,List.getElem?_eq_getElem (by rw[<-HN.o];exact hlt)⟩
   obtain⟨g,rfl,hg1,hg2,hg3⟩:=HL.o.at' (by rw[<-HN.o];omega);have HEL:=zq (HO.o.el i x hx);obtain⟨xo,xcap,rfl,hxc,hxm,hxf⟩:=Qn HEL.o;have e0:=((HL.o.fr HI0.o.2.2).at' (by rw[<-HN.o];omega));obtain⟨g',e,-,-,h3⟩:=e0
   cases e
   have c3:=h3 i _ hx;have HFL:Hid ((F i).length=L i*2):=HEL.o.1;obtain⟨m,hm⟩:=xq (L i);rw[<-hm]at c3 hx hxc hxf;have HX:=zq hx;have HM:=zq hm;have HXF:=zq hxf
   have hmb:m<=549755813888:=by rw[hm];exact HF.o i
   have hi0:(0:Int)<=(i:Int):=Int.natCast_nonneg _
   have hi1:(i:Int)<(n:Int):=by omega
   have HS2:Hid (I2 w B 62 vs L F i (.int .i64 0) wr):=⟨0,Q,rfl,Nat.zero_le _,by rw[HQ0.o];rfl,HI0.o⟩;clear hx hm hxf h3 hg1 hg2 hg3;go_wp2_with fail;go_loopw [5] (fun jv wr=>I2 w B 62 vs L F i jv wr) (fun jv _=>m-(intOf jv).toNat)
   case atStart=>exact HS2.o
   clear HS2 HI0 HQ0 c1 c3
   case round=>
    obtain⟨j,Q,rfl,hj,hqj,h0⟩:=hrel;rw[<-HM.o]at hj;have HI0:=zq h0;have HQJ:=zq hqj;clear h0 hqj;by_cases hjt:j<m
    ·obtain⟨h,rfl⟩:=HXF.o (by omega)
     have hel:=HI0.o.1.el i _ HX.o;have hlen:(NQ F Q i i).length=L i*2:=hel.1;have hhl:h<w.heap.size:=(World.ownsRow.lt (HO.o.el i _ HX.o) h rfl).2;obtain⟨u4,hu4⟩:∃u,(NQ F Q i i)[j*2]?=some u:=⟨_,List.getElem?_eq_getElem (by rw[hlen,<-HM.o];omega)⟩;obtain⟨u5,hu5⟩:∃u,(NQ F Q i i)[j*2+1]?=some u:=⟨_,List.getElem?_eq_getElem (by rw[hlen,<-HM.o];omega)⟩;have c4:=X0 hel hu4;have c5:=X0 hel hu5;have f4:=Uj hel (j*2);have f5:=Uj hel (j*2+1);have hj0:(0:Int)<=(j:Int):=Int.natCast_nonneg _
     have hj1:(j:Int)<(m:Int):=by omega
     have HFIN:=zq (I2.next HI0.o HX.o HQJ.o HM.o hjt HFL.o hhl);have hhr:h<wr.heap.size:=Nat.lt_of_lt_of_le hhl HI0.o.2.2.size;clear hel hlen hu4 hu5;go_wp2_with fail;refine(Zy i j _ (by omega) (by omega)).mono ?_;rintro e w5 ⟨rfl,rfl⟩;go_wp2_with fail;have hfin:=HFIN.o
     exact⟨hfin,by simp[intOf]<;>omega⟩
    ·have hje:j=m:=by omega
     have HFIN:Hid (I1 w B 62 vs L F (.int .i64 ((i:Int)+1)) wr):=I2.full HI0.o (by rw[HQJ.o,hje];exact HM.o) HFL.o (by rw[<-HN.o];exact hlt);clear hje;go_wp2_with fail;have hfin:=HFIN.o
     exact⟨hfin,by simp[intOf]<;>omega⟩
  ·have hie:i=n:=by omega
   subst hie
   have HMK2:Hid (OL wr B 62 2 vs L (fun j=>qc (Q j))):=HI0.o.1.congr (fun _ _=>rfl) fun j hj=>by unfold NQ;rw[if_pos (by rw[HN.o];exact hj)]
   have HLB:Hid (∀j,L j<=549755813888):=HF.o
   have HVB:Hid (∀x∈vs,∀q,x.ownBlock=some q->q<wr.heap.size):=fun x hx q hq=>by
    obtain⟨j,hj⟩:=List.mem_iff_getElem?.1 hx;exact(World.ownsRow.lt (HMK2.o.el j x hj) q hq).2
   have HVB0:Hid (∀x∈vs,∀q,x.ownBlock=some q->q<w.heap.size):=fun x hx q hq=>by
    obtain⟨j,hj⟩:=List.mem_iff_getElem?.1 hx;exact(World.ownsRow.lt (HO.o.el j x hj) q hq).2
   obtain⟨w2,hw2⟩:=xq (wr.alloc (.cells (madeCells #[.slice none 0 0] i) 45));obtain⟨GB,hGB⟩:=xq wr.heap.size
   have HGL:Hid (GB<w2.heap.size):=by show _<_;rw[hw2,hGB];simp
   have HWZ:Hid (w.heap.size<=w2.heap.size):=by show _<=_;rw[hw2];have:=HI0.o.2.2.size;simp;omega
   have HGW:Hid (w.heap.size<=GB):=by show _<=_;rw[hGB];exact HI0.o.2.2.size
   have HGV:Hid (∀x∈vs,x.ownBlock≠some GB):=fun x hx e=>by have:=HVB.o x hx GB e;omega
   have HW2:=zq hw2;have HGE:=zq hGB
   have HS3:Hid (I3 w w2 B 62 45 vs L Q GB (.int .i64 0) w2):=by
    have hba:=Qq wr (.cells (madeCells #[.slice none 0 0] i) 45);refine⟨0,vs,Q,rfl,Nat.zero_le _,(GL.start (by rw[hw2];exact HMK2.o.below hba)).congr (fun j=> ?_) (fun _=>rfl),fun _ _=>rfl,⟨_,by rw[hw2,hGB];exact heap_alloc_new wr _,by rw[<-HN.o];simp[madeCells],fun j hj=>absurd hj (Nat.not_lt_zero j)⟩,by rw[hw2];exact HI0.o.2.2.below hba,fun j hj=> ?_⟩
    ·unfold LG;rw[if_neg (Nat.not_lt_zero j)]
    ·obtain⟨m1,m2⟩:=HI0.o.2.1 j (by rw[HN.o];omega)
     refine⟨by rw[hw2];exact m1.keep fun q hq hlt=>hba.block q hlt,fun q hq=>⟨?_,m2 q hq,fun y hy e=> ?_⟩⟩
     ·have:=m1.lt q hq;omega
     ·have:=HVB0.o y hy q e;have:=m2 q hq;omega
   have HMAKE:=run_make_row' (P:=Tryz.prog) 37 45 (.slice none 0 0) 24 Tryz.underlying37 Tryz.infoBkI rfl .i64 .i64 i (by omega) (by omega);obtain⟨j0,hj,hk0,hk1,hk2⟩:=info_parts Tryz.infoAI;clear hw2 hGB;go_wp2_with fail;rw[<-HW2.o,<-HGE.o];clear c1;go_loopw [7,8,9] (fun iv _ _ wr=>I3 w w2 B 62 45 vs L Q GB iv wr) (fun iv _ _ _=>i-(intOf iv).toNat)
   case atStart=>exact HS3.o
   clear HS3
   case round=>
    obtain⟨k,ys,Q3,rfl,hk,hgl,hz,hgr,hbf,hmk⟩:=hrel;rw[<-HN.o]at hk;have c1:=HC.o wr hbf;have HGLr:=zq hgl;have HZ:=zq hz;have HGR:=zq hgr;have HBFr:=zq hbf;have HMKG:=zq hmk;clear hgl hz hgr hbf hmk;by_cases hlt:k<i
    ·obtain⟨x,hx⟩:∃x,vs[k]?=some x:=⟨_,List.getElem?_eq_getElem (by rw[<-HN.o];exact hlt)⟩
     obtain⟨g,rfl,h3⟩:∃g,ao=some ⟨g,0,none⟩/\ ∀j x,vs[j]?=some x->wr.cell? ⟨g,j,none⟩=some x:=by
      obtain⟨g,e,-,-,h3⟩:=(HL.o.fr HBFr.o).at' (by rw[<-HN.o];omega);exact⟨g,e,h3⟩
     obtain⟨xo,xcap,rfl,hxc,hxm,hxf⟩:=Qn (HMK2.o.el k x hx);have c3:=h3 k _ hx;have HX:=zq hx;have hlb:=HLB.o k;have hi0:(0:Int)<=(k:Int):=Int.natCast_nonneg _
     have hi1:(k:Int)<(i:Int):=by omega
     have HS4:Hid (I4 w w2 B 62 45 vs L Q GB k (.slice xo (L k) xcap) (.int .i64 0) wr):=⟨0,ys,Q3,rfl,Nat.zero_le _,by rw[HZ.o k (Nat.le_refl k)];exact hx,HGLr.o.congr (T9 L k) (fun _=>rfl),fun j hj=>HZ.o j (by omega),HGR.o,HBFr.o,HMKG.o⟩;clear hx hxf h3;go_wp2_with fail;go_loopw [8,9] (fun gv jv wr=>I4 w w2 B 62 45 vs L Q GB k gv jv wr) (fun _ jv _=>80-(intOf jv).toNat)
     case atStart=>exact HS4.o
     clear HS4 c1 c3 HGLr HZ HGR HBFr HMKG
     case round=>
      obtain⟨m,ys,Q4,rfl,hm,hy,hgl,hz,hgr,hbf,hmk⟩:=hrel;obtain⟨q,hq⟩:=xq (L k+m);have hel:=hgl.ol.el k _ hy;simp only[Wb,<-hq]at hel;obtain⟨go,gcap,rfl,hgc,hgm,-⟩:=Qn hel;have HEL:=zq hel;have HY:=zq hy;have HGLr:=zq hgl;have HZ:=zq hz;have HGR:=zq hgr;have HBFr:=zq hbf;have HMKG:=zq hmk;have HQ:=zq hq
      have hqb:q<=549755813968:=by omega
      have hsz:=HGLr.o.sz;have hwz:=HWZ.o;clear hel hy hgl hz hgr hbf hmk hq;by_cases hmt:m<80
      ·have hm1:(m:Int)<80:=by omega
       have HAA:=zq ((Qq wr (.cells #[.int .u64 ((bsg k q:Nat):Int)] 101)).trans ((Qq (wr.alloc (.cells #[.int .u64 ((bsg k q:Nat):Int)] 101)) (.cells #[.bool false,.slice (some ⟨wr.heap.size,0,none⟩) 1 1] 62)).mono (by simp)));have HOW:=zq (Ql HEL.o HAA.o (Nat.le_refl _));have HCN:=zq (LexP.Qc (wr.alloc (.cells #[.int .u64 ((bsg k q:Nat):Int)] 101)) [Value.bool false,.slice (some ⟨wr.heap.size,0,none⟩) 1 1] 62 (wr.heap.size+1) (by simp));go_wp2_with fail;refine(Zy k q _ (by omega) (by omega)).mono ?_;rintro e w5 ⟨rfl,rfl⟩;go_wp2_with (at_builtin;refine X3 rfl _ _ 45 rfl B 62 j0 (.agg #[.bool false,.slice none 0 0]) 2 32 Tryz.underlying45 hj hk0 hk1 hk2 rfl (by omega) _ q (qc (Q4 k)) rfl HOW.o ⟨wr.heap.size+1,0,none⟩ 1 1 [.bool false,.slice (some ⟨wr.heap.size,0,none⟩) 1 1] rfl rfl HCN.o (by simp[Value.oneCell']) (by unfold maxLen;omega) (by omega) (by simp;omega) ?_);intro v6 w6 ho hg hat hkp
       have HFIN:Hid (I4 w w2 B 62 45 vs L Q GB k v6 (.int .i64 ((m:Int)+1)) w6):=
        I4.next (x:=.bool false) HGLr.o HY.o HZ.o HGR.o HBFr.o HMKG.o hmt (by rw[<-HQ.o];exact ho) (by rw[<-HQ.o];exact hg) (by simpa using hat) hkp HGV.o HGL.o HWZ.o
       clear ho hg hat hkp;go_wp2_with fail;have hfin:=HFIN.o
       exact⟨hfin,by simp[intOf]<;>omega⟩
      ·have hme:m=80:=by omega
       obtain⟨z,c5,f5⟩:∃z,wr.cell? ⟨GB,k,none⟩=some z/\wr.frozen? ⟨GB,k,none⟩=false:=by
        obtain⟨cur,h1,h2,-⟩:=HGR.o;rw[<-HN.o]at h2;exact⟨cur[k]'(by omega),by rw[cell_of_row _ _ _ _ _ _ h1,Array.getElem?_eq_getElem (by omega)],frozen_of_row _ _ _ _ _ h1⟩
       have HFIN:Hid (I3 w w2 B 62 45 vs L Q GB (.int .i64 ((k:Int)+1)) (wr.setCell ⟨GB,k,none⟩ (.slice go q gcap))):=by
        refine⟨k+1,ys,Q4,by go_num,by rw[<-HN.o];omega,(HGLr.o.far (Zx wr GB k _) (fun j x q hx hq e=> ?_) (fun j x q hx hq e=> ?_)).congr (fun j=>by rw[hme];exact T8 L k j) (fun _=>rfl),HZ.o,HGR.o.set HY.o (by rw[<-HN.o];omega),HBFr.o.step (Zx wr GB k _) fun q hq hlt=> ?_,fun j hj=> ?_⟩
        ·cases e;exact HGV.o x (List.mem_of_getElem? hx) hq
        ·cases e
         obtain⟨x2,hx2,hq2⟩:=HGLr.o.yb j x GB hx hq HGL.o;exact HGV.o x2 (List.mem_of_getElem? hx2) hq2
        ·cases hq;have:=HGW.o;omega
        ·obtain⟨m1,m2⟩:=HMKG.o j hj
         exact⟨m1.keep fun q hq _=>heap_setCell_other wr ⟨GB,k,none⟩ q _ (m2 q hq).1,m2⟩
       clear hme;go_wp2_with fail;have hfin:=HFIN.o
       exact⟨hfin,by simp[intOf]<;>omega⟩
    ·have hke:k=i:=by omega
     subst hke
     have HRO:Hid (∀p,p<k-> ∃xo xcap yo ycap,vs[p]?=some (.slice xo (L p) xcap)/\(∀q,q<L p-> ∃g qq,xo=some ⟨g,0,none⟩/\wr.cell? ⟨g,q*2+1,none⟩=some (.slice (some ⟨qq,0,none⟩) 1 1)/\wr.cell? ⟨qq,0,none⟩=some (.int .u64 ((bsg p q:Nat):Int)))/\
       wr.cell? ⟨GB,p,none⟩=some (.slice yo (L p+80) ycap)/\(∃g,yo=some ⟨g,0,none⟩/\ ∀q,q<L p+80-> ∃qq,wr.cell? ⟨g,q*2,none⟩=some (.bool false)/\wr.cell? ⟨g,q*2+1,none⟩=some (.slice (some ⟨qq,0,none⟩) 1 1)/\wr.cell? ⟨qq,0,none⟩=some (.int .u64 ((bsg p q:Nat):Int)))):=by
      intro p hp;obtain⟨x,hx⟩:∃x,vs[p]?=some x:=⟨_,List.getElem?_eq_getElem (by rw[<-HN.o];exact hp)⟩;obtain⟨y,hy⟩:∃y,ys[p]?=some y:=⟨_,List.getElem?_eq_getElem (by rw[HGLr.o.len,<-HN.o];exact hp)⟩;have hel:=HGLr.o.ol.el p y hy
      have hfg:LG L k p=L p+80:=by unfold LG;rw[if_pos hp]
      simp only[hfg]at hel
      have hQl:(Q3 p).length=L p+80:=by have:=hel.1;rw[Cz]at this;omega
      have hQ0:(Q p).length=L p:=by have:=(HMK2.o.el p x hx).1;rw[Cz]at this;omega
      obtain⟨xo,xcap,rfl,hxr⟩:=HGLr.o.old p x hx;obtain⟨yo,ycap,rfl,-,-,hyf⟩:=Qn hel;obtain⟨gy,rfl⟩:=hyf (by omega);obtain⟨cur,h1,h2,h3⟩:=HGR.o;have hmk:=(HMKG.o p (by rw[<-HN.o];exact hp)).1;refine⟨xo,xcap,_,ycap,hx,fun q hq=> ?_,?_,gy,rfl,fun q hq=> ?_⟩
      ·obtain⟨g,rfl,h4⟩:=hxr (by omega)
       have ha:(Q p)[q]?=some (Q p)[q]:=List.getElem?_eq_getElem (by omega);have hb:=(Qjb ha).2;have hc:(Q3 p)[q]?=some (Q3 p)[q]:=List.getElem?_eq_getElem (by omega);have hd:=HGLr.o.pre p _ _ hb;rw[(Qjb hc).2]at hd;exact⟨g,(Q3 p)[q],rfl,by rw[hd];exact h4 _ _ hb,Qjj hmk hc⟩
      ·rw[cell_of_row _ _ _ _ _ _ h1,h3 p hp,hy]
      ·have hc:(Q3 p)[q]?=some (Q3 p)[q]:=List.getElem?_eq_getElem (by omega)
       exact⟨(Q3 p)[q],X0 hel (Qjb hc).1,X0 hel (Qjb hc).2,Qjj hmk hc⟩
     go_wp2_with fail;obtain⟨w3,hw3⟩:=xq wr
     have HR3:Hid (∀wx,Below w3.heap.size w3 wx->BFr vs w wx):=fun wx hb=>by subst hw3;exact HBFr.o.below hb
     have HLA:Hid (∀wx,Below w3.heap.size w3 wx->LsAt vs wx ao cap G row 1):=fun wx hb=>HL.o.fr (HR3.o wx hb)
     have HRP:Hid (∀p,p<k-> ∃xo xcap yo ycap,vs[p]?=some (.slice xo (L p) xcap)/\(∀q,q<L p-> ∃g qq,xo=some ⟨g,0,none⟩/\ ∀wx,Below w3.heap.size w3 wx->wx.cell? ⟨g,q*2+1,none⟩=some (.slice (some ⟨qq,0,none⟩) 1 1)/\wx.cell? ⟨qq,0,none⟩=some (.int .u64 ((bsg p q:Nat):Int)))/\
       (∀wx,Below w3.heap.size w3 wx->wx.cell? ⟨GB,p,none⟩=some (.slice yo (L p+80) ycap))/\(∃g,yo=some ⟨g,0,none⟩/\ ∀q,q<L p+80-> ∃qq,∀wx,Below w3.heap.size w3 wx->wx.cell? ⟨g,q*2,none⟩=some (.bool false)/\wx.cell? ⟨g,q*2+1,none⟩=some (.slice (some ⟨qq,0,none⟩) 1 1)/\wx.cell? ⟨qq,0,none⟩=some (.int .u64 ((bsg p q:Nat):Int)))):=by
      intro p hp;obtain⟨xo,xcap,yo,ycap,h1,h2,h3,g,h4,h5⟩:=HRO.o p hp;subst hw3;refine⟨xo,xcap,yo,ycap,h1,fun q hq=> ?_,fun wx hb=>Jj hb h3,g,h4,fun q hq=> ?_⟩
      ·obtain⟨g2,qq,e,h6,h7⟩:=h2 q hq
       exact⟨g2,qq,e,fun wx hb=>⟨Jj hb h6,Jj hb h7⟩⟩
      ·obtain⟨qq,h6,h7,h8⟩:=h5 q hq
       exact⟨qq,fun wx hb=>⟨Jj hb h6,Jj hb h7,Jj hb h8⟩⟩
     have HST:Hid (Below w3.heap.size w3 wr):=by subst hw3;exact Below.refl _ _
     clear hw3 c1;go_loopw [10,11,12,13,14] (fun iv _ _ _ _ wx=> ∃p:Nat,iv=.int .i64 (p:Nat)/\p<=k/\Below w3.heap.size w3 wx) (fun iv _ _ _ _ _=>k-(intOf iv).toNat)
     case atStart=>exact⟨0,rfl,Nat.zero_le _,HST.o⟩
     case round=>
      obtain⟨p,rfl,hp,hbw⟩:=hrel;have HBW:=zq hbw;have c1:wr.cell? ⟨G,1,none⟩=some (.slice ao k cap):=HC.o wr (HR3.o wr hbw);clear hbw;by_cases hlt:p<k
      ·obtain⟨xo,xcap,yo,ycap,hx,hxr,hyc,gy,rfl,hyr⟩:=HRP.o p hlt
       obtain⟨g,rfl,h3⟩:∃g,ao=some ⟨g,0,none⟩/\ ∀j x,vs[j]?=some x->wr.cell? ⟨g,j,none⟩=some x:=by
        obtain⟨g,e,-,-,h3⟩:=(HLA.o wr HBW.o).at' (by rw[<-HN.o];omega);exact⟨g,e,h3⟩
       have c3:=h3 p _ hx;have c4:=hyc wr HBW.o;have HXR:=zq hxr;have HYR:=zq hyr;have hlb:=HLB.o p;have hi0:(0:Int)<=(p:Int):=Int.natCast_nonneg _
       have hi1:(p:Int)<(k:Int):=by omega
       obtain⟨M,hM⟩:=xq (L p);rw[<-hM]at c3 c4 hlb;have HM:=zq hM;clear hx hxr hyc hyr h3 hM;go_wp2_with fail;go_loopw [13,14] (fun jv _ wx=> ∃q:Nat,jv=.int .i64 (q:Nat)/\q<=M+80/\Below w3.heap.size w3 wx) (fun jv _ _=>M+80-(intOf jv).toNat)
       case atStart=>exact⟨0,rfl,Nat.zero_le _,HBW.o⟩
       case round=>
        obtain⟨q,rfl,hq,hbw⟩:=hrel;have HBW2:=zq hbw;clear hbw c1 c3 c4;by_cases hqt:q<M+80
        ·obtain⟨qq,hyq⟩:=HYR.o q (by rw[<-HM.o];exact hqt)
         obtain⟨d0,d1,d2⟩:=hyq wr HBW2.o;have HYQ:=zq hyq;have hj0:(0:Int)<=(q:Int):=Int.natCast_nonneg _
         have hj1:(q:Int)<(M:Int)+80:=by omega
         obtain⟨S0,hS0⟩:∃S0:Int,S0=((bsg p q:Nat):Int):=⟨_,rfl⟩
         have HSG:Hid (∀wx:World,Calls Tryz.prog 117 #[.int .i64 (p:Nat),.int .i64 (q:Nat)] wx fun e w'=>e=.returned (.int .u64 S0)/\w'=wx):=fun wx=>by
          rw[hS0];exact(Zy p q wx (by omega) (by omega)).mono fun _ _ h=>⟨h.1,h.2.symm⟩
         rw[<-hS0]at d2;have HS0:=zq hS0;obtain⟨wA,hwA⟩:=xq (wr.alloc (.cells #[.bool false,.slice (some ⟨qq,0,none⟩) 1 1] 62));have hA:=Qq wr (.cells #[.bool false,.slice (some ⟨qq,0,none⟩) 1 1] 62);obtain⟨GX,hGX⟩:=xq wr.heap.size
         have e1:wA.cell? ⟨GX,1,none⟩=some (.slice (some ⟨qq,0,none⟩) 1 1):=by rw[hwA,hGX,cell_of_row _ _ _ _ _ _ (heap_alloc_new wr _)];rfl
         rw[<-hwA]at hA;have HBA:Hid (Below w3.heap.size w3 wA):=HBW2.o.trans (hA.mono HBW2.o.size);obtain⟨-,-,e2⟩:=HYQ.o wA HBA.o;rw[<-hS0]at e2
         have HXQ:Hid (∀wx,Below w3.heap.size w3 wx->q<M-> ∃g qx,xo=some ⟨g,0,none⟩/\wx.cell? ⟨g,q*2+1,none⟩=some (.slice (some ⟨qx,0,none⟩) 1 1)/\wx.cell? ⟨qx,0,none⟩=some (.int .u64 S0)):=fun wx hb hqm=>by
          obtain⟨g2,qx,e,h6⟩:=HXR.o q (by rw[<-HM.o];exact hqm);obtain⟨h7,h8⟩:=h6 wx hb;rw[<-hS0]at h8;exact⟨g2,qx,e,h7,h8⟩
         clear hyq hS0 hA;go_wp2_with fail;rw[<-hwA,<-hGX];clear hwA hGX d0 d1 d2;go_quiet ((go_at_call 117;exact Calls.quiet_of_same (HSG.o _)));obtain⟨wB,hwB⟩:=xq (wA.drewN nq)
         have HBB:Hid (Below w3.heap.size w3 wB):=by rw[hwB];exact HBA.o.trans ((below_drewN wA nq).mono HBA.o.size)
         rw[<-hwB];clear hwB e1 e2;go_wp2_with fail;by_cases hqm:q<M
         case' pos=>
          obtain⟨gx,qx,rfl,x1,x2⟩:=HXQ.o wB HBB.o hqm
          have hj2:(q:Int)<(M:Int):=by omega
          have hj4:decide ((q:Int)<(M:Int))=true:=decide_eq_true hj2
         case' neg=>
          have hj2: ¬(q:Int)<(M:Int):=by omega
          have hj4:decide ((q:Int)<(M:Int))=false:=decide_eq_false hj2
         all_goals
          go_quiet ((go_at_call 117;exact Calls.quiet_of_same (HSG.o _)));have HBW3:Hid (Below w3.heap.size w3 (wB.drewN nq)):=HBB.o.trans ((below_drewN wB nq).mono HBB.o.size);go_wp2_with fail;have hfin:=HBW3.o
          exact⟨⟨q+1,by go_num,by omega,hfin⟩,by simp[intOf]<;>omega⟩
        ·have hj1: ¬(q:Int)<(M:Int)+80:=by omega
         go_wp2_with fail;have hfin:=HBW2.o
         exact⟨⟨p+1,by go_num,by omega,hfin⟩,by simp[intOf]<;>omega⟩
      ·have hi1: ¬(p:Int)<(k:Int):=by omega
       go_wp2_with fail;go_ret;exact⟨rfl,HR3.o _ HBW.o⟩
def stS (b:Nat)(j:Nat)(c:List Value):List Value:=(List.range j).foldl (fun c i=>c.set (i*3) (.int .i64 ((b+i:Nat):Int))) c
theorem Pr (b j:Nat)(c:List Value):stS b (j+1) c=(stS b j c).set (j*3) (.int .i64 ((b+j:Nat):Int)):=by
 unfold stS;rw[List.range_succ,List.foldl_append];rfl
theorem Ps (b j:Nat)(c:List Value):(stS b j c).length=c.length:=by
 induction j with
 |zero=>rfl
 |succ j ih=>rw[Pr,List.length_set,ih]
theorem Qy6 {b j:Nat}{c:List Value}{i:Nat}(hi:i<j)(hc:i*3<c.length):(stS b j c)[i*3]?=some (.int .i64 ((b+i:Nat):Int)):=by
 induction j with
 |zero=>omega
 |succ j ih=>
  rw[Pr];by_cases h:i=j
  ·rw[h,List.getElem?_set_self (by rw[Ps,<-h];exact hc)]
  ·rw[List.getElem?_set_ne (by omega)];exact ih (by omega)
def nw (b i:Nat):List Value:=(List.range i).flatMap fun j=>[.int .i64 ((b+j:Nat):Int),.string ⟨#[]⟩,.slice none 0 0]
theorem Kq (b i:Nat):nw b (i+1)=nw b i++[.int .i64 ((b+i:Nat):Int),.string ⟨#[]⟩,.slice none 0 0]:=by
 unfold nw;rw[List.range_succ,List.flatMap_append];simp
theorem Qx0 (b i:Nat):(nw b i).length=i*3:=by
 induction i with
 |zero=>rfl
 |succ i ih=>rw[Kq,List.length_append,ih];simp;omega
theorem Qmo {b i j:Nat}(h:j<i):(nw b i)[j*3]?=some (.int .i64 ((b+j:Nat):Int)):=by
 induction i with
 |zero=>omega
 |succ i ih=>
  rw[Kq];by_cases hj:j=i
  ·rw[List.getElem?_append_right (by rw[Qx0];omega),Qx0,hj,Nat.sub_self];rfl
  ·rw[List.getElem?_append_left (by rw[Qx0];omega)];exact ih (by omega)
theorem two_get {tv uv x:Value}{j:Nat}(h:[tv,uv][j]?=some x):(j=0/\x=tv)\/(j=1/\x=uv):=by
 match j,h with
 |0,h=>left;simp at h;exact⟨rfl,h.symm⟩
 |1,h=>right;simp at h;exact⟨rfl,h.symm⟩
def two {α:Type}(d a b:α):Nat->α:=fun k=>if k=0 then a else if k=1 then b else d
theorem Gd {α:Type}(d a b a':α)(j:Nat):(if j=0 then a' else two d a b j)=two d a' b j:=by
 unfold two;by_cases h:j=0
 ·rw[if_pos h,if_pos h]
 ·rw[if_neg h,if_neg h,if_neg h]
theorem Gu {α:Type}(d a b b':α)(j:Nat):(if j=1 then b' else two d a b j)=two d a b' j:=by
 unfold two;by_cases h:j=1
 ·rw[if_pos h,if_neg (by omega),if_pos h]
 ·rw[if_neg h]
  by_cases h0:j=0
  ·rw[if_pos h0,if_pos h0]
  ·rw[if_neg h0,if_neg h0,if_neg h,if_neg h]
def NA0 (w:World)(B n:Nat)(tv uv:Value)(c0 c1:List Value)(iv:Value)(wr:World):Prop:=
 ∃i:Nat,iv=.int .i64 (i:Nat)/\i<=n/\OL wr B 43 3 [tv,uv] (fun _=>n) (two [] (stS 1000 i c0) (stS 9000 i c1))/\BFr [tv,uv] w wr
def NA1 (w w1:World)(B n:Nat)(tv uv:Value)(c0 c1:List Value)(i j:Nat)(gv hv:Value)(wr:World):Prop:=
 GL w1 wr B 43 3 [tv,uv] [gv,hv] (fun _=>n) (two [] c0 c1) (two n (n+i) (n+j)) (two [] (c0++nw 20000 i) (c1++nw 30000 j))/\BFr [tv,uv] w wr/\w.heap.size<=w1.heap.size
theorem NA1.start {w w1:World}{B n:Nat}{tv uv:Value}{c0 c1:List Value}(h:OL w1 B 43 3 [tv,uv] (fun _=>n) (two [] c0 c1))(hf:BFr [tv,uv] w w1):NA1 w w1 B n tv uv c0 c1 0 0 tv uv w1:=by
 refine⟨(GL.start h).congr (fun j=> ?_) (fun j=> ?_),hf,hf.size⟩
 ·unfold two;repeat' split
  all_goals rfl
 ·unfold two;repeat' split
  all_goals simp[nw]
theorem NA1.bfr {w w1 wr w':World}{B n:Nat}{tv uv:Value}{c0 c1:List Value}{i j:Nat}{gv hv x:Value}(h:NA1 w w1 B n tv uv c0 c1 i j gv hv wr)(hx:x∈[gv,hv])(hg:wr.grownBy w' x.ownBlock):BFr [tv,uv] w w':=
 h.2.1.step hg fun q hq hlt=>by
  obtain⟨a,H⟩:=List.mem_iff_getElem?.1 hx;obtain⟨y,I,E⟩:=h.1.yb a x q H hq (Nat.lt_of_lt_of_le hlt h.2.2);exact⟨y,List.mem_of_getElem? I,E⟩
theorem NA1.far {w w1 wr w':World}{B n:Nat}{tv uv:Value}{c0 c1:List Value}{i j:Nat}{gv hv:Value}(h:NA1 w w1 B n tv uv c0 c1 i j gv hv wr)(hb:Below wr.heap.size wr w'):NA1 w w1 B n tv uv c0 c1 i j gv hv w':=
 ⟨h.1.far (row:=none) ⟨hb.os,hb.tape,hb.output,hb.size,fun k hk _=>hb.block k hk⟩ (fun _ _ _ _ _ e=>by cases e) (fun _ _ _ _ _ e=>by cases e),h.2.1.below hb,h.2.2⟩
theorem NA1.next0 {w w1 wr w':World}{B n:Nat}{tv uv:Value}{c0 c1:List Value}{i j:Nat}{gv hv v':Value}(h:NA1 w w1 B n tv uv c0 c1 i j gv hv wr)(ho:w'.ownsRow B 43 3 v' (n+i+1) (c0++nw 20000 i++[.int .i64 ((20000+i:Nat):Int),.string ⟨#[]⟩,.slice none 0 0]))(hg:wr.grownBy w' gv.ownBlock)(hat:v'.ownBlock=gv.ownBlock\/v'.ownBlock=some wr.heap.size)
  (hk:∀g,gv.ownBlock=some g-> ∀j u,(c0++nw 20000 i)[j]?=some u->w'.cell? ⟨g,j,none⟩=some u):NA1 w w1 B n tv uv c0 c1 (i+1) j v' hv w':=by
 refine⟨(h.1.grow (i:=0) (v:=gv) (v':=v') (us:=[.int .i64 ((20000+i:Nat):Int),.string ⟨#[]⟩,.slice none 0 0]) rfl ho hg hat hk).congr (fun a=> ?_) (fun a=> ?_),h.bfr (x:=gv) (by simp) hg,h.2.2⟩
 ·exact Gd _ _ _ _ a
 ·rw[Kq,<-List.append_assoc];exact Gd _ _ _ _ a
theorem NA1.next1 {w w1 wr w':World}{B n:Nat}{tv uv:Value}{c0 c1:List Value}{i j:Nat}{gv hv v':Value}(h:NA1 w w1 B n tv uv c0 c1 i j gv hv wr)(ho:w'.ownsRow B 43 3 v' (n+j+1) (c1++nw 30000 j++[.int .i64 ((30000+j:Nat):Int),.string ⟨#[]⟩,.slice none 0 0]))(hg:wr.grownBy w' hv.ownBlock)(hat:v'.ownBlock=hv.ownBlock\/v'.ownBlock=some wr.heap.size)
  (hk:∀g,hv.ownBlock=some g-> ∀a u,(c1++nw 30000 j)[a]?=some u->w'.cell? ⟨g,a,none⟩=some u):NA1 w w1 B n tv uv c0 c1 i (j+1) gv v' w':=by
 refine⟨(h.1.grow (i:=1) (v:=hv) (v':=v') (us:=[.int .i64 ((30000+j:Nat):Int),.string ⟨#[]⟩,.slice none 0 0]) rfl ho hg hat hk).congr (fun a=> ?_) (fun a=> ?_),h.bfr (x:=hv) (by simp) hg,h.2.2⟩
 ·exact Gu _ _ _ _ a
 ·rw[Kq,<-List.append_assoc];exact Gu _ _ _ _ a
theorem Ht (B n:Nat)(tv uv:Value)(c0 c1:List Value)(w:World)(h0:w.ownsRow B 43 3 tv n c0)(h1:w.ownsRow B 43 3 uv n c1)(hap:∀q,tv.ownBlock=some q->uv.ownBlock≠some q)(hn:n<=134217728)(hB:B<=w.heap.size):
  Calls Tryz.prog 26 #[tv,uv] w (fun e w'=>e=.returned (.bool true)/\BFr [tv,uv] w w'):=by
 obtain⟨i0,hi,hz0,hz1,hz2⟩:=info_parts Tryz.infoNd
 have hol:OL w B 43 3 [tv,uv] (fun _=>n) (two [] c0 c1):=by
  refine⟨fun j x hx=> ?_,fun i j x y q hx hy hij hq e=> ?_⟩
  ·rcases two_get hx with ⟨rfl,rfl⟩|⟨rfl,rfl⟩
   ·exact h0
   ·exact h1
  ·rcases two_get hx with ⟨rfl,rfl⟩|⟨rfl,rfl⟩<;>rcases two_get hy with ⟨rfl,rfl⟩|⟨rfl,rfl⟩
   ·exact hij rfl
   ·exact hap q hq e
   ·exact hap q e hq
   ·exact hij rfl
 obtain⟨tO,tcap,rfl,-,-,htf⟩:=Qn h0;obtain⟨uo,ucap,rfl,-,-,huf⟩:=Qn h1;have hl0:c0.length=n*3:=h0.1;have hl1:c1.length=n*3:=h1.1;have HL0:=zq hl0;have HL1:=zq hl1;have HTF:=zq htf;have HUF:=zq huf;have HS0:Hid (NA0 w B n (.slice tO n tcap) (.slice uo n ucap) c0 c1 (.int .i64 0) w):=⟨0,rfl,Nat.zero_le _,hol,BFr.refl _ _⟩;clear h0 h1 hap hol hl0 hl1 htf huf;go_enter Tryz.func26,Tryz.ntmps26;go_wp2_with fail;go_loopw [5] (fun iv wr=>NA0 w B n (.slice tO n tcap) (.slice uo n ucap) c0 c1 iv wr) (fun iv _=>n-(intOf iv).toNat)
 case atStart=>exact HS0.o
 clear HS0
 case round=>
  obtain⟨i,rfl,hin,hol,hbf⟩:=hrel;have HOL:=zq hol;have HBF:=zq hbf;clear hol hbf;by_cases hlt:i<n
  ·obtain⟨gt,rfl⟩:=HTF.o (by omega)
   obtain⟨gu,rfl⟩:=HUF.o (by omega);have e0:=HOL.o.el 0 _ rfl;have e1:=HOL.o.el 1 _ rfl;have hne:gt≠gu:=fun e=>HOL.o.ap 0 1 _ _ gt rfl rfl (by omega) rfl (by rw[e];rfl);obtain⟨a0,ha0⟩:∃u,(stS 1000 i c0)[i*3]?=some u:=⟨_,List.getElem?_eq_getElem (by rw[Ps,HL0.o];omega)⟩;obtain⟨a1,ha1⟩:∃u,(stS 9000 i c1)[i*3]?=some u:=⟨_,List.getElem?_eq_getElem (by rw[Ps,HL1.o];omega)⟩;have d0:wr.cell? ⟨gt,i*3,none⟩=some a0:=X0 e0 ha0;have d1:wr.cell? ⟨gu,i*3,none⟩=some a1:=X0 e1 ha1;have f0:=Uj e0 (i*3);have f1:=Uj e1 (i*3);have hi0:(0:Int)<=(i:Int):=Int.natCast_nonneg _
   have hi1:(i:Int)<(n:Int):=by omega
   have W0:IntKind.i64.wrap (1000+(i:Int))=((1000+i:Nat):Int):=by rw[IntKind.wrap_i64];omega
   have W1:IntKind.i64.wrap (9000+(i:Int))=((9000+i:Nat):Int):=by rw[IntKind.wrap_i64];omega
   have HFIN:Hid (NA0 w B n (.slice (some ⟨gt,0,none⟩) n tcap) (.slice (some ⟨gu,0,none⟩) n ucap) c0 c1 (.int .i64 ((i:Int)+1)) ((wr.setCell ⟨gt,i*3,none⟩ (.int .i64 ((1000+i:Nat):Int))).setCell ⟨gu,i*3,none⟩ (.int .i64 ((9000+i:Nat):Int)))):=by
    refine⟨i+1,by go_num,by omega,(((HOL.o.set (i:=0) rfl (i*3) (.int .i64 ((1000+i:Nat):Int))).set (i:=1) rfl (i*3) (.int .i64 ((9000+i:Nat):Int)))).congr (fun _ _=>rfl) fun j hj=> ?_,(HBF.o.step (Zx _ _ _ _) fun q hq _=>⟨.slice (some ⟨gt,0,none⟩) n tcap,by simp,by cases hq;rfl⟩).step (Zx _ _ _ _) fun q hq _=>⟨.slice (some ⟨gu,0,none⟩) n ucap,by simp,by cases hq;rfl⟩⟩;rw[Pr,Pr]
    match j,hj with
    |0,_=>rfl
    |1,_=>rfl
   clear e0 e1 ha0 ha1;go_wp2_with fail;have hfin:=HFIN.o
   exact⟨hfin,by simp[intOf]<;>omega⟩
  ·have hie:i=n:=by omega
   subst hie;obtain⟨d0,hd0⟩:=xq (stS 1000 i c0);obtain⟨d1,hd1⟩:=xq (stS 9000 i c1);have HST:Hid (NA1 w wr B i (.slice tO i tcap) (.slice uo i ucap) d0 d1 0 0 (.slice tO i tcap) (.slice uo i ucap) wr):=NA1.start (by rw[hd0,hd1];exact HOL.o) HBF.o
   have HD0:Hid (∀j,j<i->d0[j*3]?=some (.int .i64 ((1000+j:Nat):Int))):=fun j hj=>by rw[hd0];exact Qy6 hj (by rw[HL0.o];omega)
   have HD1:Hid (∀j,j<i->d1[j*3]?=some (.int .i64 ((9000+j:Nat):Int))):=fun j hj=>by rw[hd1];exact Qy6 hj (by rw[HL1.o];omega)
   have HE0:Hid (d0.length=i*3):=by show _=_;rw[hd0,Ps];exact HL0.o
   have HE1:Hid (d1.length=i*3):=by show _=_;rw[hd1,Ps];exact HL1.o
   obtain⟨w1,hw1⟩:=xq wr;have HW1:=zq hw1
   have HBW:Hid (B<=w1.heap.size):=by show _<=_;rw[hw1];exact Nat.le_trans hB HBF.o.size
   have HST2:Hid (NA1 w w1 B i (.slice tO i tcap) (.slice uo i ucap) d0 d1 0 0 (.slice tO i tcap) (.slice uo i ucap) wr):=by rw[hw1];exact HST.o
   clear hd0 hd1 HST HOL HBF hw1;go_wp2_with fail;go_loopw [6,8] (fun gv iv wx=> ∃k:Nat,iv=.int .i64 (k:Nat)/\k<=12/\NA1 w w1 B i (.slice tO i tcap) (.slice uo i ucap) d0 d1 k 0 gv (.slice uo i ucap) wx) (fun _ iv _=>12-(intOf iv).toNat)
   case atStart=>exact⟨0,rfl,Nat.zero_le _,HST2.o⟩
   case round=>
    obtain⟨k,rfl,hk,hna⟩:=hrel;have HNA:=zq hna;have hsz:=hna.1.sz;have hel:=hna.1.ol.el 0 _ rfl;obtain⟨m,hm⟩:=xq (i+k)
    have hel2:wr.ownsRow B 43 3 u6 m (d0++nw 20000 k):=by rw[hm];exact hel
    obtain⟨go,gcap,rfl,-,-,-⟩:=Qn hel2;have HEL:=zq hel2;have HM:=zq hm
    have hmb:m<=134217740:=by omega
    clear hna hel hel2 hm;by_cases hkt:k<12
    ·have hk1:(k:Int)<12:=by omega
     have W0:IntKind.i64.wrap (20000+(k:Int))=((20000+k:Nat):Int):=by rw[IntKind.wrap_i64];omega
     have HBA:=zq (Qq wr (.cells #[.int .i64 ((20000+k:Nat):Int),.string ⟨#[]⟩,.slice none 0 0] 43));have hbw:=HBW.o;go_wp2_with (at_builtin;refine X3 rfl _ _ 23 rfl B 43 i0 (.agg #[.int .i64 0,.string ⟨#[]⟩,.slice none 0 0]) 3 48 Tryz.underlying23 hi hz0 hz1 hz2 rfl (by omega) _ m (d0++nw 20000 k) rfl (World.ownsRow.alloc HEL.o _) ⟨wr.heap.size,0,none⟩ 1 1 [.int .i64 ((20000+k:Nat):Int),.string ⟨#[]⟩,.slice none 0 0] rfl rfl (LexP.Qc _ _ _ _ rfl) (by simp[Value.oneCell']) (by unfold maxLen;omega) (by omega) (by simp;omega) ?_);intro v6 w6 ho hg hat hkp;have HFIN:=zq ((HNA.o.far HBA.o).next0 (v':=v6) (w':=w6) (by rw[<-HM.o];simpa using ho) hg (by simpa using hat) hkp);clear ho hg hat hkp;go_wp2_with fail;have hfin:=HFIN.o
     exact⟨⟨k+1,by go_num,by omega,hfin⟩,by simp[intOf]<;>omega⟩
    ·have HKE:Hid (k=12):=by show _=_;omega
     have hk1: ¬(k:Int)<12:=by omega
     obtain⟨k0,hk0⟩:=xq k;rw[<-hk0]at HNA HKE HM hk1 ⊢;clear hk hkt hk0;go_wp2_with fail;go_loopw [7,9] (fun hv iv wx=> ∃k:Nat,iv=.int .i64 (k:Nat)/\k<=12/\NA1 w w1 B i (.slice tO i tcap) (.slice uo i ucap) d0 d1 k0 k (.slice go m gcap) hv wx) (fun _ iv _=>12-(intOf iv).toNat)
     case atStart=>exact⟨0,rfl,Nat.zero_le _,HNA.o⟩
     clear HNA HEL
     case round=>
      obtain⟨k,rfl,hk,hna⟩:=hrel;have HNA:=zq hna;have hsz:=hna.1.sz;have hel:=hna.1.ol.el 1 _ rfl;obtain⟨m2,hm2⟩:=xq (i+k)
      have hel2:wr.ownsRow B 43 3 u7 m2 (d1++nw 30000 k):=by rw[hm2];exact hel
      obtain⟨ho',hcap,rfl,-,-,-⟩:=Qn hel2;have HEL:=zq hel2;have HM2:=zq hm2
      have hmb2:m2<=134217740:=by omega
      clear hna hel hel2 hm2;by_cases hkt:k<12
      ·have hk1:(k:Int)<12:=by omega
       have W0:IntKind.i64.wrap (30000+(k:Int))=((30000+k:Nat):Int):=by rw[IntKind.wrap_i64];omega
       have HBA:=zq (Qq wr (.cells #[.int .i64 ((30000+k:Nat):Int),.string ⟨#[]⟩,.slice none 0 0] 43));have hbw:=HBW.o;go_wp2_with (at_builtin;refine X3 rfl _ _ 23 rfl B 43 i0 (.agg #[.int .i64 0,.string ⟨#[]⟩,.slice none 0 0]) 3 48 Tryz.underlying23 hi hz0 hz1 hz2 rfl (by omega) _ m2 (d1++nw 30000 k) rfl (World.ownsRow.alloc HEL.o _) ⟨wr.heap.size,0,none⟩ 1 1 [.int .i64 ((30000+k:Nat):Int),.string ⟨#[]⟩,.slice none 0 0] rfl rfl (LexP.Qc _ _ _ _ rfl) (by simp[Value.oneCell']) (by unfold maxLen;omega) (by omega) (by simp;omega) ?_);intro v6 w6 ho hg hat hkp;have HFIN:=zq ((HNA.o.far HBA.o).next1 (v':=v6) (w':=w6) (by rw[<-HM2.o];simpa using ho) hg (by simpa using hat) hkp);clear ho hg hat hkp;go_wp2_with fail;have hfin:=HFIN.o
       exact⟨⟨k+1,by go_num,by omega,hfin⟩,by simp[intOf]<;>omega⟩
      ·have hke:k=12:=by omega
       have hk1: ¬(k:Int)<12:=by omega
       have hna:=HNA.o;rw[hke,HKE.o]at hna;have HN12:=zq hna;have HBE:=zq hna.2.1;clear hna hke
       have HG0:Hid (∃g,go=some ⟨g,0,none⟩/\ ∀j u,(d0++nw 20000 12)[j]?=some u->wr.cell? ⟨g,j,none⟩=some u):=by
        have hel:=HN12.o.1.ol.el 0 _ rfl;obtain⟨a1,a2,e,-,-,hf⟩:=Qn hel;obtain⟨g,e2⟩:=hf (by show 0<i+12;omega)
        cases e
        subst e2;exact⟨g,rfl,fun j u hj=>X0 hel hj⟩
       have HG1:Hid (∃g,ho'=some ⟨g,0,none⟩/\ ∀j u,(d1++nw 30000 12)[j]?=some u->wr.cell? ⟨g,j,none⟩=some u):=by
        have hel:=HN12.o.1.ol.el 1 _ rfl;obtain⟨a1,a2,e,-,-,hf⟩:=Qn hel;obtain⟨g,e2⟩:=hf (by show 0<i+12;omega)
        cases e
        subst e2;exact⟨g,rfl,fun j u hj=>X0 hel hj⟩
       have HO0:=zq (HN12.o.1.old 0 _ rfl);have HO1:=zq (HN12.o.1.old 1 _ rfl);obtain⟨g0,rfl,hg0⟩:=HG0.o;obtain⟨g1,rfl,hg1⟩:=HG1.o;have HC0:=zq hg0;have HC1:=zq hg1
       have HRT:Hid (∀j,j<i-> ∃g,tO=some ⟨g,0,none⟩/\wr.cell? ⟨g,j*3,none⟩=some (.int .i64 ((1000+j:Nat):Int))):=fun j hj=>by
        obtain⟨a1,a2,e,hf⟩:=HO0.o
        cases e
        obtain⟨g,e2,hf2⟩:=hf (by omega);exact⟨g,e2,hf2 _ _ (HD0.o j hj)⟩
       have HRU:Hid (∀j,j<i-> ∃g,uo=some ⟨g,0,none⟩/\wr.cell? ⟨g,j*3,none⟩=some (.int .i64 ((9000+j:Nat):Int))):=fun j hj=>by
        obtain⟨a1,a2,e,hf⟩:=HO1.o
        cases e
        obtain⟨g,e2,hf2⟩:=hf (by omega);exact⟨g,e2,hf2 _ _ (HD1.o j hj)⟩
       have HGO:Hid (∀j,j<i->wr.cell? ⟨g0,j*3,none⟩=some (.int .i64 ((1000+j:Nat):Int))):=fun j hj=>HC0.o _ _ (by rw[List.getElem?_append_left (by rw[HE0.o];omega)];exact HD0.o j hj);have HGN:Hid (∀j,j<12->wr.cell? ⟨g0,(i+j)*3,none⟩=some (.int .i64 ((20000+j:Nat):Int))):=fun j hj=>HC0.o _ _ (by rw[List.getElem?_append_right (by rw[HE0.o];omega),HE0.o,show (i+j)*3-i*3=j*3 by omega];exact Qmo hj);have HHN:Hid (∀j,j<12->wr.cell? ⟨g1,(i+j)*3,none⟩=some (.int .i64 ((30000+j:Nat):Int))):=fun j hj=>HC1.o _ _ (by rw[List.getElem?_append_right (by rw[HE1.o];omega),HE1.o,show (i+j)*3-i*3=j*3 by omega];exact Qmo hj)
       have hme:m=i+12:=by rw[HM.o,HKE.o]
       have hme2:m2=i+12:=by rw[HM2.o];omega
       have HME:=zq hme;have HME2:=zq hme2;obtain⟨w4,hw4⟩:=xq wr;rw[<-hw4]at HRT HRU HGO HGN HHN HBE;have HW4:=zq hw4;clear hg0 hg1 HG0 HG1 hk hkt hme hme2 hw4;go_wp2_with fail;go_loopw [10] (fun jv wx=> ∃j:Nat,jv=.int .i64 (j:Nat)/\j<=i/\Hid (wx=w4)) (fun jv _=>i-(intOf jv).toNat)
       case atStart=>exact⟨0,rfl,Nat.zero_le _,HW4.o.symm⟩
       case round=>
        obtain⟨j,rfl,hj,hw⟩:=hrel;have hj0:(0:Int)<=(j:Int):=Int.natCast_nonneg _;by_cases hjt:j<i
        ·obtain⟨gt,rfl,x0⟩:=HRT.o j hjt
         rw[<-hw.o]at x0;obtain⟨gu,rfl,x1⟩:=HRU.o j hjt;rw[<-hw.o]at x1;have x2:=HGO.o j hjt;rw[<-hw.o]at x2
         have hj1:(j:Int)<(i:Int):=by omega
         have hj2:(j:Int)<(m:Int):=by have:=HME.o;omega
         have W0:IntKind.i64.wrap (1000+(j:Int))=((1000+j:Nat):Int):=by rw[IntKind.wrap_i64];omega
         have W1:IntKind.i64.wrap (9000+(j:Int))=((9000+j:Nat):Int):=by rw[IntKind.wrap_i64];omega
         go_wp2_with fail
         exact⟨⟨j+1,by go_num,by omega,hw⟩,by simp[intOf]<;>omega⟩
        ·have hj1: ¬(j:Int)<(i:Int):=by omega
         go_wp2_with fail;go_loopw [11] (fun jv wx=> ∃j:Nat,jv=.int .i64 (j:Nat)/\j<=12/\Hid (wx=w4)) (fun jv _=>12-(intOf jv).toNat)
         case atStart=>exact⟨0,rfl,Nat.zero_le _,hw⟩
         clear hw
         case round=>
          obtain⟨q,rfl,hq,hw⟩:=hrel;have hq0:(0:Int)<=(q:Int):=Int.natCast_nonneg _;by_cases hqt:q<12
          ·have hq1:(q:Int)<12:=by omega
           obtain⟨e,he⟩:=xq (i+q);have x0:=HGN.o q hqt;have x1:=HHN.o q hqt;rw[<-he,<-hw.o]at x0 x1
           have W2:IntKind.i64.wrap ((i:Int)+(q:Int))=((e:Nat):Int):=by rw[IntKind.wrap_i64];omega
           have hq2:(e:Int)<(m:Int):=by have:=HME.o;omega
           have hq3:(e:Int)<(m2:Int):=by have:=HME2.o;omega
           have hq4:(0:Int)<=(e:Int):=Int.natCast_nonneg _
           have W0:IntKind.i64.wrap (20000+(q:Int))=((20000+q:Nat):Int):=by rw[IntKind.wrap_i64];omega
           have W1:IntKind.i64.wrap (30000+(q:Int))=((30000+q:Nat):Int):=by rw[IntKind.wrap_i64];omega
           clear he;go_wp2_with fail
           exact⟨⟨q+1,by go_num,by omega,hw⟩,by simp[intOf]<;>omega⟩
          ·have hq1: ¬(q:Int)<12:=by omega
           go_wp2_with fail;go_ret;exact⟨rfl,by rw[hw.o];exact HBE.o⟩
structure PF (P:Nat->Prop) (w w':World):Prop where
 os:w'.os=w.os
 tape:w'.tape=w.tape
 output:w'.output=w.output
 size:w.heap.size<=w'.heap.size
 block:∀k,k<w.heap.size-> ¬P k->w'.heap[k]?=w.heap[k]?
theorem PF.refl (P:Nat->Prop)(w:World):PF P w w:=⟨rfl,rfl,rfl,Nat.le_refl _,fun _ _ _=>rfl⟩
theorem PF.trans {P:Nat->Prop}{a b c:World}(h:PF P a b)(k:PF P b c):PF P a c:=
 ⟨k.os.trans h.os,k.tape.trans h.tape,k.output.trans h.output,Nat.le_trans h.size k.size,fun q hq hp=>(k.block q (Nat.lt_of_lt_of_le hq h.size) hp).trans (h.block q hq hp)⟩
theorem PF.of_below {P:Nat->Prop}{w w':World}(hb:Below w.heap.size w w'):PF P w w':=⟨hb.os,hb.tape,hb.output,hb.size,fun k hk _=>hb.block k hk⟩
theorem PF.of_grown {P:Nat->Prop}{w w':World}{row:Option Nat}(hg:w.grownBy w' row)(hr:∀q,row=some q->P q):PF P w w':=
 ⟨hg.os,hg.tape,hg.output,hg.size,fun k hk hp=>hg.block k hk fun e=>hp (hr k e.symm)⟩
def bty (o:Nat):TypeId:=if o=0 then 59 else if o=1 then 45 else 41
structure BkS (P:Nat->Prop) (w:World) (G:Nat) (row:Nat->Value) (ls:Nat->List Value):Prop where
 blk:w.heap[G]?=some (.cells #[row 0,row 1,row 2] 40 (0,0))
 own:∀o,o<3->w.ownsRow 0 (bty o) 1 (row o) (ls o).length (ls o)
 pg:P G
 pr:∀o,o<3-> ∀q,(row o).ownBlock=some q->P q/\q≠G
 pd:∀o p,o<3->p<3->o≠p-> ∀q,(row o).ownBlock=some q->(row p).ownBlock≠some q
 el:∀o,o<3-> ∀x∈ls o,∀q,x.ownBlock=some q-> ¬P q
theorem BkS.lt {P:Nat->Prop}{w:World}{G:Nat}{row:Nat->Value}{ls:Nat->List Value}(h:BkS P w G row ls):G<w.heap.size:=(Array.getElem?_eq_some_iff.1 h.blk).1
theorem BkS.cell {P:Nat->Prop}{w:World}{G:Nat}{row:Nat->Value}{ls:Nat->List Value}(h:BkS P w G row ls)(o:Nat)(ho:o<3):w.cell? ⟨G,o,none⟩=some (row o)/\w.frozen? ⟨G,o,none⟩=false:=by
 refine⟨?_,frozen_of_row _ _ _ _ _ h.blk⟩;rw[cell_of_row _ _ _ _ _ _ h.blk]
 match o,ho with
 |0,_=>rfl
 |1,_=>rfl
 |2,_=>rfl
theorem BkS.below {P:Nat->Prop}{w w':World}{G:Nat}{row:Nat->Value}{ls:Nat->List Value}(h:BkS P w G row ls)(hb:Below w.heap.size w w'):BkS P w' G row ls:=
 ⟨(hb.block G h.lt).trans h.blk,fun o ho=>Ql (h.own o ho) hb (Nat.le_refl _),h.pg,h.pr,h.pd,h.el⟩
theorem BkS.push {P:Nat->Prop}{w w1 w2:World}{G:Nat}{row:Nat->Value}{ls:Nat->List Value}(h:BkS P w G row ls)(hb:Below w.heap.size w w1){o:Nat}(ho:o<3){x v':Value}(hx:∀q,x.ownBlock=some q-> ¬P q)(hP:∀k,w.heap.size<=k->P k)
  (hown:w2.ownsRow 0 (bty o) 1 v' ((ls o).length+1) (ls o++[x])) (hg:w1.grownBy w2 (row o).ownBlock) (hat:∀q,v'.ownBlock=some q->(row o).ownBlock=some q\/w.heap.size<=q):
  BkS P (w2.setCell ⟨G,o,none⟩ v') G (fun p=>if p=o then v' else row p) (fun p=>if p=o then ls o++[x] else ls p)/\PF P w (w2.setCell ⟨G,o,none⟩ v'):=by
 have J:=h.lt;have K:∀p,p<3->(row p).ownBlock≠some G:=fun p hp e=>(h.pr p hp G e).2 rfl;have I:∀p,p<3-> ∀q,(row p).ownBlock=some q->q<w.heap.size:=fun p hp q hq=>(World.ownsRow.lt (h.own p hp) q hq).2;have T:w2.heap[G]?=some (.cells #[row 0,row 1,row 2] 40 (0,0)):=(hg.block G (Nat.lt_of_lt_of_le J hb.size) fun e=>K o ho e.symm).trans ((hb.block G J).trans h.blk)
 have O:∀q,v'.ownBlock=some q->P q/\q≠G:=fun q hq=>by
  rcases hat q hq with E|E
  ·exact h.pr o ho q E
  ·exact⟨hP q E,by omega⟩
 refine⟨⟨?_,fun p hp=> ?_,h.pg,fun p hp q hq=> ?_,fun p p2 hp hp2 hne q hq=> ?_,fun p hp y H q hq=> ?_⟩,?_⟩
 ·rw[heap_setCell_same w2 G o _ _ v' T]
  match o,ho with
  |0,_=>rfl
  |1,_=>rfl
  |2,_=>rfl
 ·have U:∀{v:Value} {n:Nat} {xs:List Value} {t:TypeId},w2.ownsRow 0 t 1 v n xs->v.ownBlock≠some G->(w2.setCell ⟨G,o,none⟩ v').ownsRow 0 t 1 v n xs:=fun E h2=>
   Zf E fun q hq _=>heap_setCell_other w2 ⟨G,o,none⟩ q _ (fun e=>h2 (by rw[hq,e]))
  by_cases hpo:p=o
  ·subst hpo
   simp only[if_pos];rw[List.length_append,List.length_singleton];exact U hown fun e=>(O G e).2 rfl
  ·simp only[if_neg hpo]
   refine U (Zf (h.own p hp) fun q hq hl=> ?_) (K p hp);exact(hg.block q (Nat.lt_of_lt_of_le hl hb.size) fun e=>h.pd p o hp ho hpo q hq e.symm).trans (hb.block q hl)
 ·by_cases hpo:p=o
  ·simp only[if_pos hpo]at hq;exact O q hq
  ·simp only[if_neg hpo]at hq;exact h.pr p hp q hq
 ·by_cases hpo:p=o
  ·simp only[if_pos hpo]at hq
   rw[if_neg (by omega)];intro e;rcases hat q hq with E|E
   ·exact h.pd o p2 ho hp2 (by omega) q E e
   ·have:=I p2 hp2 q e;omega
  ·simp only[if_neg hpo]at hq
   by_cases hpo2:p2=o
   ·simp only[if_pos hpo2]
    intro e;rcases hat q e with E|E
    ·exact h.pd p o hp ho hpo q hq E
    ·have:=I p hp q hq;omega
   ·simp only[if_neg hpo2];exact h.pd p p2 hp hp2 hne q hq
 ·by_cases hpo:p=o
  ·simp only[if_pos hpo]at H
   rcases List.mem_append.1 H with H|H
   ·exact h.el o ho y H q hq
   ·rw[List.mem_singleton.1 H]at hq;exact hx q hq
  ·simp only[if_neg hpo]at H;exact h.el p hp y H q hq
 ·refine((PF.of_below hb).trans (PF.of_grown hg fun q hq=>(h.pr o ho q hq).1)).trans (PF.of_grown (Zx w2 G o v') fun q hq=>by cases hq;exact h.pg)
theorem BkS.at {P:Nat->Prop}{w:World}{G:Nat}{row:Nat->Value}{ls:Nat->List Value}(h:BkS P w G row ls)(o:Nat)(ho:o<3):∃ao cap,row o=.slice ao (ls o).length cap/\LsAt (ls o) w ao cap G #[row 0,row 1,row 2] o:=by
 have ow:=h.own o ho;obtain⟨ao,cap,e,I,J,H⟩:=Qn ow;refine⟨ao,cap,e,h.blk,?_,fun x hx e=>h.el o ho x hx G e h.pg,fun h0=> ?_⟩
 ·rw[<-e]
  match o,ho with
  |0,_=>rfl
  |1,_=>rfl
  |2,_=>rfl
 ·obtain⟨g,rfl⟩:=H h0
  have E:(row o).ownBlock=some g:=by rw[e];rfl
  refine⟨g,rfl,(World.ownsRow.lt ow g E).2,fun x hx e2=>h.el o ho x hx g e2 (h.pr o ho g E).1,fun j x hj=> ?_⟩;rw[e]at ow;exact X0 ow hj
theorem Tryz.infoBkN:(Tryz.prog.info? 41).map (fun i=>(i.zero,i.size,i.bytes))=some (some (.slice none 0 0),1,24):=by kernel_rfl
theorem Tryz.infoBkU:(Tryz.prog.info? 59).map (fun i=>(i.zero,i.size,i.bytes))=some (some (.slice none 0 0),1,24):=by kernel_rfl
theorem Tryz.infoBkT:(Tryz.prog.info? 45).map (fun i=>(i.zero,i.size,i.bytes))=some (some (.slice none 0 0),1,24):=by kernel_rfl
def PuP (P:Nat->Prop)(w:World)(G:Nat)(ls:Nat->List Value)(e:Ending)(w':World):Prop:=e=.returned (.tuple #[])/\PF P w w'/\ ∃row',BkS P w' G row' ls
theorem M9 (P:Nat->Prop)(G xl xcap:Nat)(xo:Option Addr)(row:Nat->Value)(ls:Nat->List Value)(w:World)(h:BkS P w G row ls)(hl:(ls 2).length<=134217728)(hx:∀q,(Value.slice xo xl xcap).ownBlock=some q-> ¬P q)(hP:∀k,w.heap.size<=k->P k):
  Calls Tryz.prog 19 #[.pointer (some ⟨G,0,none⟩),.slice xo xl xcap] w (PuP P w G (fun p=>if p=2 then ls 2++[.slice xo xl xcap] else ls p)):=by
 obtain⟨j0,hj,hk0,hk1,hk2⟩:=info_parts Tryz.infoBkN;obtain⟨ao,cap,hr,hat⟩:=h.at 2 (by omega);obtain⟨c2,f2⟩:=h.cell 2 (by omega);rw[hr]at c2;have hGl:=h.lt;have HBA:=zq (Qq w (.cells #[.slice xo xl xcap] 41));obtain⟨n,hn⟩:=xq ((ls 2).length)
 have HOW:Hid ((w.alloc (.cells #[.slice xo xl xcap] 41)).ownsRow 0 41 1 (.slice ao n cap) n (ls 2)):=by
  have:=h.own 2 (by omega);rw[hr,<-hn]at this;exact World.ownsRow.alloc this _
 rw[<-hn]at hl c2;have H:=zq h;have HR:=zq hr;have HN:=zq hn;have HX:=zq hx;have HP:=zq hP
 have HNG:Hid (some G≠(Value.slice ao n cap).ownBlock):=fun e=>by
  have:=(h.pr 2 (by omega) G (by rw[hr,<-hn];exact e.symm)).2;exact this rfl
 clear h hat hr hn hx hP;go_enter Tryz.func19,Tryz.ntmps19;go_wp2_with (at_builtin;refine wpList_append_lies _ rfl _ _ 38 rfl 0 41 j0 (.slice none 0 0) 1 24 Tryz.underlying38 hj hk0 hk1 hk2 rfl (by omega) (.slice ao n cap) n (ls 2) rfl HOW.o ⟨w.heap.size,0,none⟩ 1 1 [.slice xo xl xcap] rfl rfl (LexP.Qc _ _ _ _ rfl) (by simp[Value.oneCell']) (by omega) (by unfold maxLen;omega) (by omega) (by simp) (w.heap.size+1) (by simp) ?_);intro gg cap9 w9 hown9 hgrow hat hlt9;have e2:w9.cell? ⟨G,2,none⟩=some (.slice ao n cap):=(hgrow.cell_far ⟨G,2,none⟩ (by simp;omega) HNG.o).trans ((HBA.o.cell (p:=⟨G,2,none⟩) hGl).trans c2);have e4:w9.frozen? ⟨G,2,none⟩=false:=(hgrow.frozen_far ⟨G,2,none⟩ (by simp;omega) HNG.o).trans ((HBA.o.frozen (p:=⟨G,2,none⟩) hGl).trans f2)
 have HFIN:=zq (H.o.push HBA.o (o:=2) (by omega) HX.o HP.o (v':=.slice (some ⟨gg,0,none⟩) (n+1) cap9) (by rw[<-HN.o];exact hown9) (by rw[HR.o,<-HN.o];exact hgrow) (fun q hq=>by
  cases hq
  rcases hat with h1|h1
  ·left;rw[HR.o,<-HN.o];exact h1
  ·right;show w.heap.size<=gg;omega))
 clear hown9 hgrow hat hlt9;go_wp2_with fail;go_end0;exact⟨rfl,HFIN.o.2,_,HFIN.o.1⟩
def LsR (ls:Nat->List Value)(v:Value)(xs:List Value):Nat->List Value:=fun p=>if p=0 then ls 0++xs else if p=1 then ls 1++[v] else ls p
theorem BkS.lists {P:Nat->Prop}{w:World}{G:Nat}{row:Nat->Value}{ls ls':Nat->List Value}(h:BkS P w G row ls)(e:∀p,p<3->ls p=ls' p):BkS P w G row ls':=
 ⟨h.blk,fun o ho=>by rw[<-e o ho];exact h.own o ho,h.pg,h.pr,h.pd,fun o ho x hx q hq=>h.el o ho x (by rw[e o ho];exact hx) q hq⟩
def RwR (P:Nat->Prop)(w:World)(G m:Nat)(ls:Nat->List Value)(v:Value)(cs:List (Bool×Value))(iv:Value)(wr:World):Prop:=
 ∃(i:Nat) (row':Nat->Value),iv=.int .i64 (i:Nat)/\i<=m/\BkS P wr G row' (LsR ls v ((cs.take i).map Prod.snd))/\PF P w wr
theorem Qg6 (P:Nat->Prop)(G B:Nat)(row:Nat->Value)(ls:Nat->List Value)(v:Value)(cs:List (Bool×Value))(w:World)(h:BkS P w G row ls)(hl:(ls 1).length<=1000000)(hl0:(ls 0).length+cs.length<=1000000)(hv:w.ownsRow B 62 2 v cs.length (Zh cs))(hx:∀q,v.ownBlock=some q-> ¬P q)
  (hc:∀c∈cs,(∃xo xl xcap,c.2=.slice xo xl xcap)/\ ∀q,c.2.ownBlock=some q-> ¬P q) (hP:∀k,w.heap.size<=k->P k):
  Calls Tryz.prog 59 #[.pointer (some ⟨G,0,none⟩),v] w (PuP P w G (LsR ls v (cs.map Prod.snd))):=by
 obtain⟨i0,hi,hz0,hz1,hz2⟩:=info_parts Tryz.infoBkT;obtain⟨j0,hj,hk0,hk1,hk2⟩:=info_parts Tryz.infoBkU;obtain⟨lo,lcap,rfl,hlc,hlm,hlf⟩:=Qn hv;obtain⟨m,hm⟩:=xq cs.length;rw[<-hm]at hv hx hl0 hlc hlf;obtain⟨ao,cap,hr,hat⟩:=h.at 1 (by omega);obtain⟨c1,f1⟩:=h.cell 1 (by omega);rw[hr]at c1;have hGl:=h.lt;have HBA:=zq (Qq w (.cells #[.slice lo m lcap] 45));obtain⟨n,hn⟩:=xq ((ls 1).length)
 have HOW:Hid ((w.alloc (.cells #[.slice lo m lcap] 45)).ownsRow 0 45 1 (.slice ao n cap) n (ls 1)):=by
  have:=h.own 1 (by omega);rw[hr,<-hn]at this;exact World.ownsRow.alloc this _
 rw[<-hn]at hl c1;have H:=zq h;have HR:=zq hr;have HN:=zq hn;have HX:=zq hx;have HC:=zq hc;have HP:=zq hP;have HV:=zq hv;have HM:=zq hm;have HLF:=zq hlf
 have HNG:Hid (some G≠(Value.slice ao n cap).ownBlock):=fun e=>by
  have:=(h.pr 1 (by omega) G (by rw[hr,<-hn];exact e.symm)).2;exact this rfl
 rw[<-hm];clear h hat hr hn hx hP hc hv hm hlf;go_enter Tryz.func59,Tryz.ntmps59;go_wp2_with (at_builtin;refine wpList_append_lies _ rfl _ _ 37 rfl 0 45 i0 (.slice none 0 0) 1 24 Tryz.underlying37 hi hz0 hz1 hz2 rfl (by omega) (.slice ao n cap) n (ls 1) rfl HOW.o ⟨w.heap.size,0,none⟩ 1 1 [.slice lo m lcap] rfl rfl (LexP.Qc _ _ _ _ rfl) (by simp[Value.oneCell']) (by omega) (by unfold maxLen;omega) (by omega) (by simp) (w.heap.size+1) (by simp) ?_);intro gg cap9 w9 hown9 hgrow hat hlt9;have e2:w9.cell? ⟨G,1,none⟩=some (.slice ao n cap):=(hgrow.cell_far ⟨G,1,none⟩ (by simp;omega) HNG.o).trans ((HBA.o.cell (p:=⟨G,1,none⟩) hGl).trans c1);have e4:w9.frozen? ⟨G,1,none⟩=false:=(hgrow.frozen_far ⟨G,1,none⟩ (by simp;omega) HNG.o).trans ((HBA.o.frozen (p:=⟨G,1,none⟩) hGl).trans f1)
 have HS0:Hid (RwR P w G m ls (.slice lo m lcap) cs (.int .i64 0) (w9.setCell ⟨G,1,none⟩ (.slice (some ⟨gg,0,none⟩) (n+1) cap9))):=by
  have h1:=H.o.push HBA.o (o:=1) (by omega) HX.o HP.o (v':=.slice (some ⟨gg,0,none⟩) (n+1) cap9) (by rw[<-HN.o];exact hown9) (by rw[HR.o,<-HN.o];exact hgrow) (fun q hq=>by
   cases hq
   rcases hat with h1|h1
   ·left;rw[HR.o,<-HN.o];exact h1
   ·right;show w.heap.size<=gg;omega)
  refine⟨0,_,rfl,Nat.zero_le _,h1.1.lists fun p hp=> ?_,h1.2⟩;unfold LsR
  match p,hp with
  |0,_=>simp
  |1,_=>simp
  |2,_=>simp
 clear hown9 hgrow hat hlt9;go_wp2_with fail;clear c1 f1 e2 e4;go_loopw [4] (fun iv wr=>RwR P w G m ls (.slice lo m lcap) cs iv wr) (fun iv _=>m-(intOf iv).toNat)
 case atStart=>exact HS0.o
 clear HS0
 case round=>
  obtain⟨i,row',rfl,hi2,hb,hpf⟩:=hrel;have HB:=zq hb;have HPF:=zq hpf;by_cases hlt:i<m
  ·obtain⟨g,rfl⟩:=HLF.o (by omega)
   obtain⟨c,hci⟩:∃c,cs[i]?=some c:=⟨_,List.getElem?_eq_getElem (by rw[<-HM.o];exact hlt)⟩;obtain⟨⟨xo,xl,xcap,hcx⟩,hcp⟩:=HC.o c (List.mem_of_getElem? hci);have hgw:g<w.heap.size:=(World.ownsRow.lt HV.o g rfl).2
   have d1:wr.cell? ⟨g,i*2+1,none⟩=some (.slice xo xl xcap):=by
    have h1:=X0 HV.o (Us cs i c hci).2;rw[hcx]at h1;exact(World.cell?_of_block (a:=⟨g,i*2+1,none⟩) (hpf.block g hgw (HX.o g rfl))).trans h1
   have hgr:g<wr.heap.size:=Nat.lt_of_lt_of_le hgw hpf.size;obtain⟨bo,bcap,hr,-⟩:=hb.at 0 (by omega);obtain⟨c0,f0⟩:=hb.cell 0 (by omega);rw[hr]at c0;have hG:=hb.lt;obtain⟨k,hk⟩:=xq ((LsR ls (.slice (some ⟨g,0,none⟩) m lcap) ((cs.take i).map Prod.snd) 0).length)
   have hkb:k<=1000000:=by
    rw[hk];unfold LsR;simp only[if_pos];rw[List.length_append,List.length_map,List.length_take];omega
   have HBA2:=zq (Qq wr (.cells #[.slice xo xl xcap] 59))
   have HOW2:Hid ((wr.alloc (.cells #[.slice xo xl xcap] 59)).ownsRow 0 59 1 (.slice bo k bcap) k (LsR ls (.slice (some ⟨g,0,none⟩) m lcap) ((cs.take i).map Prod.snd) 0)):=by
    have:=hb.own 0 (by omega);rw[hr,<-hk]at this;exact World.ownsRow.alloc this _
   have HNG2:Hid (some G≠(Value.slice bo k bcap).ownBlock):=fun e=>by
    have:=(hb.pr 0 (by omega) G (by rw[hr,<-hk];exact e.symm)).2;exact this rfl
   rw[<-hk]at c0;have HR2:=zq hr;have HK:=zq hk;have HCI:=zq hci;have HCX:=zq hcx
   have HCP:Hid (∀q,(Value.slice xo xl xcap).ownBlock=some q-> ¬P q):=by rw[<-hcx];exact hcp
   have hi0:(0:Int)<=(i:Int):=Int.natCast_nonneg _
   have hi1:(i:Int)<(m:Int):=by omega
   have HGL:Hid (G<wr.heap.size):=hG;have hwz:=hpf.size;have C0:=zq c0;have F0:=zq f0;clear hb hpf hr hk hci hcx hcp;go_wp2_with fail
   go_region_law
    ((refine step_append_lies _ (by rfl) _ _ _ (by rfl) 0 59 j0 _ 1 24 Tryz.underlying36 hj hk0 hk1 hk2 rfl (by omega) (.slice bo k bcap) k (LsR ls (.slice (some ⟨g,0,none⟩) m lcap) ((cs.take i).map Prod.snd) 0) (by rfl) (by exact HOW2.o) ⟨wr.heap.size,0,none⟩ 1 1 [.slice xo xl xcap] (by rfl) (by rfl) (World.news_of_block (cs:= #[.slice xo xl xcap]) (heap_alloc_new _ _)) (by simp[Value.oneCell']) (by omega) (by unfold maxLen;omega) (by omega) (by simp) (wr.heap.size+1) (by simp) ?_;intro g5 cap5 w5 hown5 hgrow5 hat5 hlt5;have e3:w5.cell? ⟨G,0,none⟩=some (.slice bo k bcap):=(hgrow5.cell_far ⟨G,0,none⟩ (by simp;omega) HNG2.o).trans ((HBA2.o.cell (p:=⟨G,0,none⟩) HGL.o).trans C0.o);have e4:w5.frozen? ⟨G,0,none⟩=false:=(hgrow5.frozen_far ⟨G,0,none⟩ (by simp;omega) HNG2.o).trans ((HBA2.o.frozen (p:=⟨G,0,none⟩) HGL.o).trans F0.o)))
   all_goals
    have hfin:RwR P w G m ls (.slice (some ⟨g,0,none⟩) m lcap) cs (.int .i64 ((i:Int)+1)) (w5.setCell ⟨G,0,none⟩ (.slice (some ⟨g5,0,none⟩) (k+1) cap5)):=by
     have h1:=HB.o.push HBA2.o.drew (o:=0) (by omega) HCP.o (fun q hq=>HP.o q (Nat.le_trans hwz hq)) (v':=.slice (some ⟨g5,0,none⟩) (k+1) cap5) (by rw[<-HK.o];exact hown5) (by rw[HR2.o,<-HK.o];exact hgrow5) (fun q hq=>by
      cases hq
      rcases hat5 with h1|h1
      ·left;rw[HR2.o,<-HK.o];exact h1
      ·right;show wr.heap.size<=g5;omega)
     refine⟨i+1,_,by go_num,by omega,h1.1.lists fun p hp=> ?_,HPF.o.trans h1.2⟩;unfold LsR
     match p,hp with
     |0,_=>
      simp only[if_pos];rw[List.take_add_one,HCI.o,List.map_append,List.append_assoc];show _=_++(_++[c.2])
      rw[HCX.o]
     |1,_=>simp
     |2,_=>simp
    have HFIN:=zq hfin;clear hfin hown5 hgrow5 hat5 hlt5 e3 e4;go_wp2_with fail;have hfin:=HFIN.o
    exact⟨hfin,by simp[intOf]<;>omega⟩
  ·have hie:i=m:=by omega
   have HE:Hid ((cs.take i).map Prod.snd=cs.map Prod.snd):=by show _=_;rw[List.take_of_length_le (by rw[hie,HM.o];exact Nat.le_refl _)]
   have hi1: ¬(i:Int)<(m:Int):=by omega
   clear hb hpf hie;go_wp2_with fail;go_end0;refine⟨rfl,HPF.o,row',?_⟩;rw[<-HE.o];exact HB.o
theorem Qjx (P:Nat->Prop)(G B:Nat)(r c:Value)(row:Nat->Value)(ls:Nat->List Value)(v:Value)(cs:List (Bool×Value))(w:World)(h:BkS P w G row ls)(hl:(ls 1).length<=1000000)(hl0:(ls 0).length+cs.length<=1000000)(hv:w.ownsRow B 62 2 v cs.length (Zh cs))(hx:∀q,v.ownBlock=some q-> ¬P q)
  (hc:∀c∈cs,(∃xo xl xcap,c.2=.slice xo xl xcap)/\ ∀q,c.2.ownBlock=some q-> ¬P q) (hP:∀k,w.heap.size<=k->P k):
  Calls Tryz.prog 24 #[.pointer (some ⟨G,0,none⟩),.agg #[r,c,v]] w (PuP P w G (LsR ls v (cs.map Prod.snd))):=by
 have hba:=Qq w (.cells #[r,c,v] 47);have HBA:=zq hba;have HC:=zq (Qg6 P G B row ls v cs (w.alloc (.cells #[r,c,v] 47)) (h.below hba) hl hl0 (Ql hv hba (Nat.le_refl _)) hx hc (fun k hk=>hP k (Nat.le_trans hba.size hk)));obtain⟨ao,cap,rfl,-⟩:=Qn hv
 have e0:(w.alloc (.cells #[r,c,.slice ao cs.length cap] 47)).cell? ⟨w.heap.size,2,none⟩=some (.slice ao cs.length cap):=by rw[cell_of_row _ _ _ _ _ _ (heap_alloc_new w _)];rfl
 clear h hv hx hc hP hba;go_enter Tryz.func24,Tryz.ntmps24;go_wp2_with fail;refine HC.o.mono ?_;rintro e w2 ⟨rfl,h1,h2⟩;have H1:=zq ((PF.of_below HBA.o).trans h1);have H2:=zq h2;clear h1 h2;go_wp2_with fail;go_end0;exact⟨rfl,H1.o,H2.o⟩
theorem Tryz.infoBkW:(Tryz.prog.info? 59).map (fun i=>(i.zero,i.size,i.bytes))=some (some (.slice none 0 0),1,24):=by kernel_rfl
theorem Qvd (i M xcap ycap:Nat)(xo yo:Option Addr)(w:World)(hi:i<=1073741824)(hM:M<=549755813888)(hx:∀q,q<M-> ∃g,xo=some ⟨g,0,none⟩/\w.cell? ⟨g,q,none⟩=some (.int .u64 ((bsg i q:Nat):Int)))
  (hy:∀q,q<M+80-> ∃g,yo=some ⟨g,0,none⟩/\w.cell? ⟨g,q,none⟩=some (.int .u64 ((bsg i q:Nat):Int))):
  Calls Tryz.prog 118 #[.int .i64 (i:Nat),.slice xo M xcap,.slice yo (M+80) ycap] w (fun e w'=>e=.returned (.bool true)/\ ∃m,w'=w.drewN m):=by
 have HX:=zq hx;have HY:=zq hy
 have W1:IntKind.i64.wrap ((M:Int)+80)=(M:Int)+80:=by rw[IntKind.wrap_i64];omega
 clear hx hy;go_enter Tryz.func118,Tryz.ntmps118;go_wp2_with fail;go_loopw [7] (fun jv wx=> ∃q m:Nat,jv=.int .i64 (q:Nat)/\q<=M/\wx=w.drewN m) (fun jv _=>M-(intOf jv).toNat)
 case atStart=>exact⟨0,0,rfl,Nat.zero_le _,rfl⟩
 case round=>
  obtain⟨q,m,rfl,hq,hw⟩:=hrel;have HW:=zq hw;have hj0:(0:Int)<=(q:Int):=Int.natCast_nonneg _;by_cases hqt:q<M
  ·obtain⟨g,rfl,c⟩:=HX.o q hqt
   have c1:wr.cell? ⟨g,q,none⟩=some (.int .u64 ((bsg i q:Nat):Int)):=by rw[hw];exact c
   clear hw c
   have hj1:(q:Int)<(M:Int):=by omega
   have HSG:Hid (∀wx:World,Calls Tryz.prog 117 #[.int .i64 (i:Nat),.int .i64 (q:Nat)] wx fun e w'=>e=.returned (.int .u64 ((bsg i q:Nat):Int))/\w'=wx):=fun wx=>
    (Zy i q wx hi (by omega)).mono fun _ _ h=>⟨h.1,h.2.symm⟩
   go_wp2_with fail;go_quiet ((go_at_call 117;exact Calls.quiet_of_same (HSG.o _)));go_wp2_with fail
   exact⟨⟨q+1,m+nq,by go_num,by omega,by rw[HW.o];exact World.drewN_drewN _ _ _⟩,by simp[intOf]<;>omega⟩
  ·clear hw
   have hj1: ¬(q:Int)<(M:Int):=by omega
   go_wp2_with fail;go_loopw [8] (fun jv wx=> ∃q m:Nat,jv=.int .i64 (q:Nat)/\q<=M+80/\wx=w.drewN m) (fun jv _=>M+80-(intOf jv).toNat)
   case atStart=>exact⟨0,m,rfl,Nat.zero_le _,HW.o⟩
   case round=>
    obtain⟨r,m2,rfl,hr,hw⟩:=hrel;have HW2:=zq hw;have hr0:(0:Int)<=(r:Int):=Int.natCast_nonneg _;by_cases hrt:r<M+80
    ·obtain⟨g,rfl,c⟩:=HY.o r hrt
     have c1:wr.cell? ⟨g,r,none⟩=some (.int .u64 ((bsg i r:Nat):Int)):=by rw[hw];exact c
     clear hw c
     have hr1:(r:Int)<(M:Int)+80:=by omega
     have HSG:Hid (∀wx:World,Calls Tryz.prog 117 #[.int .i64 (i:Nat),.int .i64 (r:Nat)] wx fun e w'=>e=.returned (.int .u64 ((bsg i r:Nat):Int))/\w'=wx):=fun wx=>
      (Zy i r wx hi (by omega)).mono fun _ _ h=>⟨h.1,h.2.symm⟩
     go_wp2_with fail;go_quiet ((go_at_call 117;exact Calls.quiet_of_same (HSG.o _)));go_wp2_with fail
     exact⟨⟨r+1,m2+nq,by go_num,by omega,by rw[HW2.o];exact World.drewN_drewN _ _ _⟩,by simp[intOf]<;>omega⟩
    ·clear hw
     have hr1: ¬(r:Int)<(M:Int)+80:=by omega
     go_wp2_with fail;go_ret;exact⟨rfl,m2,HW2.o⟩
theorem Qkd (G n cap:Nat)(row:Array Value)(ao:Option Addr)(vs:List Value)(L:Nat->Nat)(F:Nat->List Value)(B:Nat)(w:World)(hL:LsAt vs w ao cap G row 0)(hO:OL w B 101 1 vs L F)(hn:n=vs.length)(hnb:n<=536870912)(hF:∀j,L j<=549755813888)(hB:B<=w.heap.size):
  Calls Tryz.prog 60 #[.pointer (some ⟨G,0,none⟩)] w (fun e w'=>e=.returned (.bool true)/\BFr vs w w'):=by
 have HL:=zq hL;have HO:=zq hO;have HF:=zq hF;have HN:=zq hn
 have c2:w.cell? ⟨G,0,none⟩=some (.slice ao n cap):=by rw[hn];exact hL.cell
 have HC:Hid (∀wx,BFr vs w wx->wx.cell? ⟨G,0,none⟩=some (.slice ao n cap)):=fun wx hf=>by rw[hn];exact(hL.fr hf).cell
 have HS1:Hid (R1 .u64 w B 101 vs L F (.int .i64 0) w):=⟨0,rfl,Nat.zero_le _,hO.congr (fun _ _=>rfl) fun j _=>by unfold NM;rw[if_neg (Nat.not_lt_zero j)],BFr.refl _ _⟩;clear hL hO hF hn;go_enter Tryz.func60,Tryz.ntmps60;go_wp2_with fail;go_loopw [3,4,5] (fun iv _ _ wr=>R1 .u64 w B 101 vs L F iv wr) (fun iv _ _ _=>n-(intOf iv).toNat)
 case atStart=>exact HS1.o
 clear HS1
 case round=>
  obtain⟨i,rfl,hi,hol,hbf⟩:=hrel;rw[<-HN.o]at hi;have c2:=HC.o wr hbf;have HOL:=zq hol;have HBF:=zq hbf;clear hol hbf;by_cases hlt:i<n
  ·obtain⟨x,hx⟩:∃x,vs[i]?=some x:=⟨_,List.getElem?_eq_getElem (by rw[<-HN.o];exact hlt)⟩
   obtain⟨g,rfl,hg1,hg2,hg3⟩:=HL.o.at' (by rw[<-HN.o];omega);obtain⟨xo,xcap,rfl,hxc,hxm,hxf⟩:=Qn (HO.o.el i x hx);have e0:=((HL.o.fr HBF.o).at' (by rw[<-HN.o];omega));obtain⟨g',e,-,-,h3⟩:=e0
   cases e
   have c3:=h3 i _ hx;obtain⟨m,hm⟩:=xq (L i)
   have HFL:Hid ((F i).length=L i):=by show _=_;rw[(HO.o.el i _ hx).1,Nat.mul_one]
   rw[<-hm]at c3 hx hxc hxf;have HX:=zq hx;have HM:=zq hm;have HXF:=zq hxf
   have hmb:m<=549755813888:=by rw[hm];exact HF.o i
   have hi0:(0:Int)<=(i:Int):=Int.natCast_nonneg _
   have hi1:(i:Int)<(n:Int):=by omega
   have HS2:Hid (R2 .u64 w B 101 vs L F i (.int .i64 0) wr):=⟨0,rfl,Nat.zero_le _,by rw[Cr];exact HOL.o,HBF.o⟩;clear hx hm hxf h3 hg1 hg2 hg3;go_wp2_with fail;go_loopw [5] (fun jv wr=>R2 .u64 w B 101 vs L F i jv wr) (fun jv _=>m-(intOf jv).toNat)
   case atStart=>exact HS2.o
   clear HS2 HOL HBF c2 c3
   case round=>
    obtain⟨j,rfl,hj,hol,hbf⟩:=hrel;rw[<-HM.o]at hj;have HOL:=zq hol;have HBF:=zq hbf;clear hol hbf;by_cases hjt:j<m
    ·obtain⟨h,rfl⟩:=HXF.o (by omega)
     have hel:=HOL.o.el i _ HX.o
     have hlen:j<(NMi .u64 L F i j i).length:=by rw[hel.1,Nat.mul_one,<-HM.o];exact hjt
     obtain⟨u4,hu4⟩:∃u,(NMi .u64 L F i j i)[j]?=some u:=⟨_,List.getElem?_eq_getElem hlen⟩;have c4:=X0 hel hu4;have f4:=Uj hel j;have hj0:(0:Int)<=(j:Int):=Int.natCast_nonneg _
     have hj1:(j:Int)<(m:Int):=by omega
     have HFIN:=zq (R2.next HOL.o HBF.o HX.o HFL.o HM.o hjt);clear hel hlen hu4;go_wp2_with fail;refine(Zy i j _ (by omega) (by omega)).mono ?_;rintro e w5 ⟨rfl,rfl⟩;go_wp2_with fail;have hfin:=HFIN.o
     exact⟨hfin,by simp[intOf]<;>omega⟩
    ·have hje:j=m:=by omega
     have HFIN:Hid (R1 .u64 w B 101 vs L F (.int .i64 ((i:Int)+1)) wr):=⟨i+1,by go_num,by rw[<-HN.o];omega,by
      have h:=HOL.o;rw[hje,HM.o,Cs _ _ _ _ (Nat.le_of_eq HFL.o)]at h
      exact h,HBF.o⟩
     clear hje;go_wp2_with fail;have hfin:=HFIN.o
     exact⟨hfin,by simp[intOf]<;>omega⟩
  ·have hie:i=n:=by omega
   subst hie
   have HMK2:Hid (OL wr B 101 1 vs L (fun j=>bmk .u64 j (L j))):=HOL.o.congr (fun _ _=>rfl) fun j hj=>by unfold NM;rw[if_pos (by rw[HN.o];exact hj)]
   have HLB:Hid (∀j,L j<=549755813888):=HF.o
   have HVB:Hid (∀x∈vs,∀q,x.ownBlock=some q->q<wr.heap.size):=fun x hx q hq=>by
    obtain⟨j,hj⟩:=List.mem_iff_getElem?.1 hx;exact(World.ownsRow.lt (HOL.o.el j x hj) q hq).2
   obtain⟨w2,hw2⟩:=xq (wr.alloc (.cells (madeCells #[.slice none 0 0] i) 59));obtain⟨GB,hGB⟩:=xq wr.heap.size
   have HGL:Hid (GB<w2.heap.size):=by show _<_;rw[hw2,hGB];simp
   have HWZ:Hid (w.heap.size<=w2.heap.size):=by show _<=_;rw[hw2];have:=HBF.o.size;simp;omega
   have HGW:Hid (w.heap.size<=GB):=by show _<=_;rw[hGB];exact HBF.o.size
   have HGV:Hid (∀x∈vs,x.ownBlock≠some GB):=fun x hx e=>by have:=HVB.o x hx GB e;omega
   have HW2:=zq hw2;have HGE:=zq hGB
   have HS3:Hid (R3 .u64 w w2 B 101 59 vs L GB (.int .i64 0) w2):=by
    have hba:=Qq wr (.cells (madeCells #[.slice none 0 0] i) 59);refine⟨0,vs,rfl,Nat.zero_le _,(GL.start (by rw[hw2];exact HMK2.o.below hba)).congr (fun j=> ?_) (fun j=> ?_),fun _ _=>rfl,⟨_,by rw[hw2,hGB];exact heap_alloc_new wr _,by rw[<-HN.o];simp[madeCells],fun j hj=>absurd hj (Nat.not_lt_zero j)⟩,by rw[hw2];exact HBF.o.below hba⟩
    ·unfold LG;rw[if_neg (Nat.not_lt_zero j)]
    ·unfold LG;rw[if_neg (Nat.not_lt_zero j)]
   have HMAKE:=run_make_row' (P:=Tryz.prog) 36 59 (.slice none 0 0) 24 Tryz.underlying36 Tryz.infoBkW rfl .i64 .i64 i (by omega) (by omega);obtain⟨j0,hj,hk0,hk1,hk2⟩:=info_parts Tryz.infoW;clear hw2 hGB;go_wp2_with fail;rw[<-HW2.o,<-HGE.o];clear c2;go_loopw [7,8,9] (fun iv _ _ wr=>R3 .u64 w w2 B 101 59 vs L GB iv wr) (fun iv _ _ _=>i-(intOf iv).toNat)
   case atStart=>exact HS3.o
   clear HS3
   case round=>
    obtain⟨k,ys,rfl,hk,hgl,hz,hgr,hbf⟩:=hrel;rw[<-HN.o]at hk;have c2:=HC.o wr hbf;have HGLr:=zq hgl;have HZ:=zq hz;have HGR:=zq hgr;have HBFr:=zq hbf;clear hgl hz hgr hbf;by_cases hlt:k<i
    ·obtain⟨x,hx⟩:∃x,vs[k]?=some x:=⟨_,List.getElem?_eq_getElem (by rw[<-HN.o];exact hlt)⟩
     obtain⟨g,rfl,h3⟩:∃g,ao=some ⟨g,0,none⟩/\ ∀j x,vs[j]?=some x->wr.cell? ⟨g,j,none⟩=some x:=by
      obtain⟨g,e,-,-,h3⟩:=(HL.o.fr HBFr.o).at' (by rw[<-HN.o];omega);exact⟨g,e,h3⟩
     obtain⟨xo,xcap,rfl,hxc,hxm,hxf⟩:=Qn (HMK2.o.el k x hx);have c3:=h3 k _ hx;have HX:=zq hx;have hlb:=HLB.o k;have hi0:(0:Int)<=(k:Int):=Int.natCast_nonneg _
     have hi1:(k:Int)<(i:Int):=by omega
     have HS4:Hid (R4 .u64 w w2 B 101 59 vs L GB k (.slice xo (L k) xcap) (.int .i64 0) wr):=⟨0,ys,rfl,Nat.zero_le _,by rw[HZ.o k (Nat.le_refl k)];exact hx,HGLr.o.congr (T9 L k) (fun j=>by rw[T9]),fun j hj=>HZ.o j (by omega),HGR.o,HBFr.o⟩;clear hx hxf h3;go_wp2_with fail;go_loopw [8,9] (fun gv jv wr=>R4 .u64 w w2 B 101 59 vs L GB k gv jv wr) (fun _ jv _=>80-(intOf jv).toNat)
     case atStart=>exact HS4.o
     clear HS4 c2 c3 HGLr HZ HGR HBFr
     case round=>
      obtain⟨m,ys,rfl,hm,hy,hgl,hz,hgr,hbf⟩:=hrel;obtain⟨q,hq⟩:=xq (L k+m);have hel:=hgl.ol.el k _ hy;simp only[Wb,<-hq]at hel;obtain⟨go,gcap,rfl,hgc,hgm,-⟩:=Qn hel;have HEL:=zq hel;have HY:=zq hy;have HGLr:=zq hgl;have HZ:=zq hz;have HGR:=zq hgr;have HBFr:=zq hbf;have HQ:=zq hq
      have hqb:q<=549755813968:=by omega
      have hsz:=HGLr.o.sz;have hwz:=HWZ.o;clear hel hy hgl hz hgr hbf hq;by_cases hmt:m<80
      ·have hm1:(m:Int)<80:=by omega
       go_wp2_with fail;refine(Zy k q _ (by omega) (by omega)).mono ?_;rintro e w5 ⟨rfl,rfl⟩;go_wp2_with (at_builtin;refine X3 rfl _ _ 59 rfl B 101 j0 (.int .u64 0) 1 8 Tryz.underlying59 hj hk0 hk1 hk2 rfl (by omega) _ q (bmk .u64 k q) rfl (World.ownsRow.alloc HEL.o _) ⟨wr.heap.size,0,none⟩ 1 1 [.int .u64 ((bsg k q:Nat):Int)] rfl rfl (LexP.Qc _ _ _ _ rfl) (by simp[Value.oneCell']) (by unfold maxLen;omega) (by omega) (by simp;omega) ?_);intro v6 w6 ho hg hat hkp
       have HFIN:Hid (R4 .u64 w w2 B 101 59 vs L GB k v6 (.int .i64 ((m:Int)+1)) w6):=
        R4.next (HGLr.o.far (World.grownBy_alloc wr _ none) (fun _ _ _ _ _ e=>by cases e) (fun _ _ _ _ _ e=>by cases e)) HY.o HZ.o (HGR.o.far (World.grownBy_alloc wr _ none) (fun e=>by cases e)) (HBFr.o.below (Qq wr _)) hmt (by rw[<-HQ.o];exact ho) hg (by simpa using hat) (by rw[<-HQ.o];exact hkp) HGV.o HGL.o HWZ.o
       clear ho hg hat hkp;go_wp2_with fail;have hfin:=HFIN.o
       exact⟨hfin,by simp[intOf]<;>omega⟩
      ·have hme:m=80:=by omega
       obtain⟨z,c5,f5⟩:∃z,wr.cell? ⟨GB,k,none⟩=some z/\wr.frozen? ⟨GB,k,none⟩=false:=by
        obtain⟨cur,h1,h2,-⟩:=HGR.o;rw[<-HN.o]at h2;exact⟨cur[k]'(by omega),by rw[cell_of_row _ _ _ _ _ _ h1,Array.getElem?_eq_getElem (by omega)],frozen_of_row _ _ _ _ _ h1⟩
       have HFIN:Hid (R3 .u64 w w2 B 101 59 vs L GB (.int .i64 ((k:Int)+1)) (wr.setCell ⟨GB,k,none⟩ (.slice go q gcap))):=by
        refine⟨k+1,ys,by go_num,by rw[<-HN.o];omega,(HGLr.o.far (Zx wr GB k _) (fun j x q hx hq e=> ?_) (fun j x q hx hq e=> ?_)).congr (fun j=>by rw[hme];exact T8 L k j) (fun j=>by rw[hme,T8 L k j]),HZ.o,HGR.o.set HY.o (by rw[<-HN.o];omega),HBFr.o.step (Zx wr GB k _) fun q hq hlt=> ?_⟩
        ·cases e;exact HGV.o x (List.mem_of_getElem? hx) hq
        ·cases e
         obtain⟨x2,hx2,hq2⟩:=HGLr.o.yb j x GB hx hq HGL.o;exact HGV.o x2 (List.mem_of_getElem? hx2) hq2
        ·cases hq;have:=HGW.o;omega
       clear hme;go_wp2_with fail;have hfin:=HFIN.o
       exact⟨hfin,by simp[intOf]<;>omega⟩
    ·have hke:k=i:=by omega
     subst hke
     have HRO:Hid (∀p,p<k-> ∃xo xcap yo ycap,vs[p]?=some (.slice xo (L p) xcap)/\(∀q,q<L p-> ∃g,xo=some ⟨g,0,none⟩/\wr.cell? ⟨g,q,none⟩=some (.int .u64 ((bsg p q:Nat):Int)))/\
       wr.cell? ⟨GB,p,none⟩=some (.slice yo (L p+80) ycap)/\(∃g,yo=some ⟨g,0,none⟩/\ ∀q,q<L p+80->wr.cell? ⟨g,q,none⟩=some (.int .u64 ((bsg p q:Nat):Int)))):=by
      intro p hp;obtain⟨x,hx⟩:∃x,vs[p]?=some x:=⟨_,List.getElem?_eq_getElem (by rw[<-HN.o];exact hp)⟩;obtain⟨y,hy⟩:∃y,ys[p]?=some y:=⟨_,List.getElem?_eq_getElem (by rw[HGLr.o.len,<-HN.o];exact hp)⟩;have hel:=HGLr.o.ol.el p y hy
      have hfg:LG L k p=L p+80:=by unfold LG;rw[if_pos hp]
      simp only[hfg]at hel;obtain⟨xo,xcap,rfl,hxr⟩:=HGLr.o.old p x hx;obtain⟨yo,ycap,rfl,-,-,hyf⟩:=Qn hel;obtain⟨gy,rfl⟩:=hyf (by omega);obtain⟨cur,h1,h2,h3⟩:=HGR.o;refine⟨xo,xcap,_,ycap,hx,fun q hq=> ?_,?_,gy,rfl,fun q hq=>X0 hel (Er hq)⟩
      ·obtain⟨g,rfl,h4⟩:=hxr (by omega)
       exact⟨g,rfl,h4 q _ (Er hq)⟩
      ·rw[cell_of_row _ _ _ _ _ _ h1,h3 p hp,hy]
     go_wp2_with fail;obtain⟨w3,hw3⟩:=xq wr
     have HR3:Hid (∀wx,Below w3.heap.size w3 wx->BFr vs w wx):=fun wx hb=>by subst hw3;exact HBFr.o.below hb
     have HLA:Hid (∀wx,Below w3.heap.size w3 wx->LsAt vs wx ao cap G row 0):=fun wx hb=>HL.o.fr (HR3.o wx hb)
     have HRP:Hid (∀p,p<k-> ∃xo xcap yo ycap,vs[p]?=some (.slice xo (L p) xcap)/\(∀q,q<L p-> ∃g,xo=some ⟨g,0,none⟩/\ ∀wx,Below w3.heap.size w3 wx->wx.cell? ⟨g,q,none⟩=some (.int .u64 ((bsg p q:Nat):Int)))/\
       (∀wx,Below w3.heap.size w3 wx->wx.cell? ⟨GB,p,none⟩=some (.slice yo (L p+80) ycap))/\(∃g,yo=some ⟨g,0,none⟩/\ ∀q,q<L p+80-> ∀wx,Below w3.heap.size w3 wx->wx.cell? ⟨g,q,none⟩=some (.int .u64 ((bsg p q:Nat):Int)))):=by
      intro p hp;obtain⟨xo,xcap,yo,ycap,h1,h2,h3,g,h4,h5⟩:=HRO.o p hp;subst hw3;refine⟨xo,xcap,yo,ycap,h1,fun q hq=> ?_,fun wx hb=>Jj hb h3,g,h4,fun q hq wx hb=>Jj hb (h5 q hq)⟩;obtain⟨g2,e,h6⟩:=h2 q hq;exact⟨g2,e,fun wx hb=>Jj hb h6⟩
     have HST:Hid (Below w3.heap.size w3 wr):=by subst hw3;exact Below.refl _ _
     clear hw3 c2;go_loopw [10] (fun iv wx=> ∃p:Nat,iv=.int .i64 (p:Nat)/\p<=k/\Below w3.heap.size w3 wx) (fun iv _=>k-(intOf iv).toNat)
     case atStart=>exact⟨0,rfl,Nat.zero_le _,HST.o⟩
     case round=>
      obtain⟨p,rfl,hp,hbw⟩:=hrel;have HBW:=zq hbw;have c2:wr.cell? ⟨G,0,none⟩=some (.slice ao k cap):=HC.o wr (HR3.o wr hbw);clear hbw;by_cases hlt:p<k
      ·obtain⟨xo,xcap,yo,ycap,hx,hxr,hyc,gy,rfl,hyr⟩:=HRP.o p hlt
       obtain⟨g,rfl,h3⟩:∃g,ao=some ⟨g,0,none⟩/\ ∀j x,vs[j]?=some x->wr.cell? ⟨g,j,none⟩=some x:=by
        obtain⟨g,e,-,-,h3⟩:=(HLA.o wr HBW.o).at' (by rw[<-HN.o];omega);exact⟨g,e,h3⟩
       have c3:=h3 p _ hx;have c4:=hyc wr HBW.o;have hlb:=HLB.o p;have hi0:(0:Int)<=(p:Int):=Int.natCast_nonneg _
       have hi1:(p:Int)<(k:Int):=by omega
       have HHO:Hid (∀n,Calls Tryz.prog 118 #[.int .i64 (p:Nat),.slice xo (L p) xcap,.slice (some ⟨gy,0,none⟩) (L p+80) ycap] (wr.drewN n) (fun e w'=>e=.returned (.bool true)/\ ∃m,w'=(wr.drewN n).drewN m)):=fun n=>
        Qvd p (L p) xcap ycap xo _ (wr.drewN n) (by omega) hlb (fun q hq=>by
         obtain⟨g2,e,h6⟩:=hxr q hq
         exact⟨g2,e,h6 wr HBW.o⟩) (fun q hq=>⟨gy,rfl,hyr q hq wr HBW.o⟩)
       obtain⟨M,hM⟩:=xq (L p);rw[<-hM]at c3 c4 hlb HHO;clear hx hxr hyc hyr h3 hM;go_wp2_with fail;go_quiet ((go_at_call 118;exact Calls.quiet_of (HHO.o _)));have HBW3:Hid (Below w3.heap.size w3 (wr.drewN nq)):=HBW.o.trans ((below_drewN wr nq).mono HBW.o.size);go_wp2_with fail;have hfin:=HBW3.o
       exact⟨⟨p+1,by go_num,by omega,hfin⟩,by simp[intOf]<;>omega⟩
      ·have hi1: ¬(p:Int)<(k:Int):=by omega
       go_wp2_with fail;go_ret;exact⟨rfl,HR3.o _ HBW.o⟩
def sl1 (Q:List Nat):List Value:=Q.map fun q=> .slice (some ⟨q,0,none⟩) 1 1
theorem Uv (Q:List Nat):(sl1 Q).length=Q.length:=by simp[sl1]
theorem Cw {Q:List Nat}{a q:Nat}(h:Q[a]?=some q):(sl1 Q)[a]?=some (.slice (some ⟨q,0,none⟩) 1 1):=by unfold sl1;rw[List.getElem?_map,h];rfl
theorem Qqx (Q:List Nat)(q:Nat):sl1 (Q++[q])=sl1 Q++[.slice (some ⟨q,0,none⟩) 1 1]:=by unfold sl1;rw[List.map_append];rfl
theorem Qjl {Q:List Nat}{c:List Value}{q i:Nat}(hi:Q.length=i)(h:i<c.length):(sl1 Q++c.drop i).set i (.slice (some ⟨q,0,none⟩) 1 1)=sl1 (Q++[q])++c.drop (i+1):=by
 have E:=Uv Q;rw[List.set_append,if_neg (by omega),E,hi,Nat.sub_self,List.drop_eq_getElem_cons h,List.set_cons_zero,Qqx,List.append_assoc];rfl
def VAt (w:World)(f:Nat->Nat)(Q:List Nat):Prop:=∀(a q:Nat),Q[a]?=some q->w.heap[q]?=some (.cells #[.int .i64 ((f a:Nat):Int)] 3 (0,0))
theorem VAt.lt {w:World}{f:Nat->Nat}{Q:List Nat}(h:VAt w f Q):∀q∈Q,q<w.heap.size:=fun q hq=>by
 obtain⟨a,E⟩:=List.mem_iff_getElem?.1 hq;exact(Array.getElem?_eq_some_iff.1 (h a q E)).1
theorem VAt.keep {w w':World}{f:Nat->Nat}{Q:List Nat}(h:VAt w f Q)(hk:∀q∈Q,q<w.heap.size->w'.heap[q]?=w.heap[q]?):VAt w' f Q:=fun a q ha=>
 (hk q (List.mem_of_getElem? ha) (Array.getElem?_eq_some_iff.1 (h a q ha)).1).trans (h a q ha)
theorem VAt.snoc {w:World}{f:Nat->Nat}{q:Nat}{Q:List Nat}(h:VAt w f Q)(hq:w.heap[q]?=some (.cells #[.int .i64 ((f Q.length:Nat):Int)] 3 (0,0))):VAt w f (Q++[q]):=fun a p ha=>by
 by_cases hl:a<Q.length
 ·rw[List.getElem?_append_left hl]at ha;exact h a p ha
 ·have:=(List.getElem?_eq_some_iff.1 ha).1
  rw[List.length_append,List.length_singleton]at this
  have e:a=Q.length:=by omega
  subst e;rw[List.getElem?_append_right (Nat.le_refl _),Nat.sub_self]at ha
  cases ha;exact hq
theorem VAt.cell {w:World}{f:Nat->Nat}{a q:Nat}{Q:List Nat}(h:VAt w f Q)(ha:Q[a]?=some q):w.cell? ⟨q,0,none⟩=some (.int .i64 ((f a:Nat):Int)):=by
 rw[cell_of_row _ _ _ _ _ _ (h a q ha)];rfl
def LA0 (w:World)(B n:Nat)(vs:List Value)(c:Nat->List Value)(f:Nat->Nat->Nat)(iv:Value)(wr:World):Prop:=
 ∃(i:Nat) (Q:Nat->List Nat),iv=.int .i64 (i:Nat)/\i<=n/\(∀j,j<2->(Q j).length=i)/\OL wr B 41 1 vs (fun _=>n) (fun j=>sl1 (Q j)++(c j).drop i)/\(∀j,j<2->VAt wr (f j) (Q j)/\ ∀q∈Q j,w.heap.size<=q)/\BFr vs w wr
theorem LA0.next {w wr:World}{B n:Nat}{tv uv:Value}{c:Nat->List Value}{f:Nat->Nat->Nat}{i gt gu tcap ucap:Nat}{Q:Nat->List Nat}(ht:tv=.slice (some ⟨gt,0,none⟩) n tcap)(hu:uv=.slice (some ⟨gu,0,none⟩) n ucap)(hgt:gt<w.heap.size)(hgu:gu<w.heap.size)(hin:i<n)(hc:∀j,j<2->(c j).length=n)
  (hl:∀j,j<2->(Q j).length=i) (hol:OL wr B 41 1 [tv,uv] (fun _=>n) (fun j=>sl1 (Q j)++(c j).drop i)) (hq:∀j,j<2->VAt wr (f j) (Q j)/\ ∀q∈Q j,w.heap.size<=q) (hbf:BFr [tv,uv] w wr):
  LA0 w B n [tv,uv] c f (.int .i64 ((i:Int)+1)) ((((wr.setCell ⟨gt,i,none⟩ (.slice (some ⟨wr.heap.size,0,none⟩) 1 1)).setCell ⟨gu,i,none⟩ (.slice (some ⟨wr.heap.size+1,0,none⟩) 1 1)).alloc (.cells #[.int .i64 ((f 0 i:Nat):Int)] 3)).alloc (.cells #[.int .i64 ((f 1 i:Nat):Int)] 3)):=by
 subst ht;subst hu;have a2:=hbf.size;obtain⟨wS,h⟩:=xq ((wr.setCell ⟨gt,i,none⟩ (.slice (some ⟨wr.heap.size,0,none⟩) 1 1)).setCell ⟨gu,i,none⟩ (.slice (some ⟨wr.heap.size+1,0,none⟩) 1 1));rw[<-h]
 have O:wS.heap.size=wr.heap.size:=by rw[h];simp[World.setCell]
 have I:=Qq wS (.cells #[.int .i64 ((f 0 i:Nat):Int)] 3);have E:=Qq (wS.alloc (.cells #[.int .i64 ((f 0 i:Nat):Int)] 3)) (.cells #[.int .i64 ((f 1 i:Nat):Int)] 3);have J:=heap_alloc_new wS (.cells #[.int .i64 ((f 0 i:Nat):Int)] 3);have H:=heap_alloc_new (wS.alloc (.cells #[.int .i64 ((f 0 i:Nat):Int)] 3)) (.cells #[.int .i64 ((f 1 i:Nat):Int)] 3);rw[World.size_alloc,O]at H;rw[O]at J;obtain⟨wA,T⟩:∃wA,wA=wS.alloc (.cells #[.int .i64 ((f 0 i:Nat):Int)] 3):=⟨_,rfl⟩;obtain⟨wB,a3⟩:∃wB,wB=wA.alloc (.cells #[.int .i64 ((f 1 i:Nat):Int)] 3):=⟨_,rfl⟩;rw[<-T]at I E J H ⊢;rw[<-a3]at E H ⊢
 have a4:wA.heap.size=wr.heap.size+1:=by rw[T,World.size_alloc,O]
 have bb:Below wS.heap.size wS wB:=I.trans (E.mono I.size);have U:wB.heap[wr.heap.size]?=some (.cells #[.int .i64 ((f 0 i:Nat):Int)] 3 (0,0)):=(E.block _ (by omega)).trans J
 have Z:∀q,q≠gt->q≠gu->q<wr.heap.size->wB.heap[q]?=wr.heap[q]? :=fun q h1 h2 hl=>
  (bb.block q (by omega)).trans (by rw[h];exact(heap_setCell_other _ ⟨gu,i,none⟩ q _ h2).trans (heap_setCell_other _ ⟨gt,i,none⟩ q _ h1))
 have K:=(hol.set (i:=0) rfl i (.slice (some ⟨wr.heap.size,0,none⟩) 1 1)).set (i:=1) rfl i (.slice (some ⟨wr.heap.size+1,0,none⟩) 1 1);rw[<-h]at K
 have a0:BFr [.slice (some ⟨gt,0,none⟩) n tcap,.slice (some ⟨gu,0,none⟩) n ucap] w wS:=by
  rw[h];exact(hbf.step (Zx _ _ _ _) fun q hq _=>⟨.slice (some ⟨gt,0,none⟩) n tcap,by simp,by cases hq;rfl⟩).step (Zx _ _ _ _) fun q hq _=>⟨.slice (some ⟨gu,0,none⟩) n ucap,by simp,by cases hq;rfl⟩
 refine⟨i+1,fun j=>if j=0 then Q 0++[wr.heap.size] else if j=1 then Q 1++[wr.heap.size+1] else Q j,by go_num,hin,fun j hj=> ?_,(K.below bb).congr (fun _ _=>rfl) fun j hj=> ?_,fun j hj=> ?_,a0.below bb⟩
 ·match j,hj with
  |0,_=>simp[hl 0 (by omega)]
  |1,_=>simp[hl 1 (by omega)]
 ·match j,hj with
  |0,_=>exact Qjl (hl 0 (by omega)) (by rw[hc 0 (by omega)];exact hin)
  |1,_=>exact Qjl (hl 1 (by omega)) (by rw[hc 1 (by omega)];exact hin)
 ·obtain⟨m1,m2⟩:=hq j hj
  have hk:VAt wB (f j) (Q j):=m1.keep fun q hq hl=>by have:=m2 q hq;exact Z q (by omega) (by omega) hl
  match j,hj with
  |0,_=>
   refine⟨VAt.snoc hk (by rw[hl 0 (by omega)];exact U),fun q hq=> ?_⟩;rcases List.mem_append.1 hq with hq|hq
   ·exact m2 q hq
   ·rw[List.mem_singleton.1 hq];exact a2
  |1,_=>
   refine⟨VAt.snoc hk (by rw[hl 1 (by omega)];exact H),fun q hq=> ?_⟩;rcases List.mem_append.1 hq with hq|hq
   ·exact m2 q hq
   ·rw[List.mem_singleton.1 hq];omega
def LB (w w1:World)(B n:Nat)(vs:List Value)(Q0:Nat->List Nat)(f:Nat->Nat->Nat)(L:Nat->Nat)(ys:List Value)(wr:World):Prop:=
 ∃Q:Nat->List Nat,GL w1 wr B 41 1 vs ys (fun _=>n) (fun j=>sl1 (Q0 j)) L (fun j=>sl1 (Q j))/\(∀j,j<vs.length->VAt wr (f j) (Q j)/\ ∀q∈Q j,∀y∈ys,y.ownBlock≠some q)/\BFr vs w wr/\w.heap.size<=w1.heap.size
theorem LB.congr {w w1 wr:World}{B n:Nat}{vs ys:List Value}{Q0:Nat->List Nat}{f:Nat->Nat->Nat}{L M:Nat->Nat}(h:LB w w1 B n vs Q0 f L ys wr)(hl:∀j,L j=M j):LB w w1 B n vs Q0 f M ys wr:=by
 have e:L=M:=funext hl;rw[<-e];exact h
theorem LB.step {w w1 wr w':World}{B n:Nat}{vs ys:List Value}{Q0:Nat->List Nat}{f:Nat->Nat->Nat}{L:Nat->Nat}{k b:Nat}{gv v':Value}{Q:Nat->List Nat}(hgl:GL w1 wr B 41 1 vs ys (fun _=>n) (fun j=>sl1 (Q0 j)) L (fun j=>sl1 (Q j)))(hmk:∀j,j<vs.length->VAt wr (f j) (Q j)/\ ∀q∈Q j,∀y∈ys,y.ownBlock≠some q)(hbf:BFr vs w wr)(hw:w.heap.size<=w1.heap.size)
  (hy:ys[k]?=some gv) (hb:b=f k (L k)) (ho:w'.ownsRow B 41 1 v' (L k+1) (sl1 (Q k)++[.slice (some ⟨wr.heap.size,0,none⟩) 1 1])) (hg:((wr.alloc (.cells #[.int .i64 ((b:Nat):Int)] 3)).alloc (.cells #[.slice (some ⟨wr.heap.size,0,none⟩) 1 1] 41)).grownBy w' gv.ownBlock) (hat:v'.ownBlock=gv.ownBlock\/v'.ownBlock=some (wr.heap.size+2))
  (hk:∀g,gv.ownBlock=some g-> ∀j u,(sl1 (Q k))[j]?=some u->w'.cell? ⟨g,j,none⟩=some u):LB w w1 B n vs Q0 f (fun a=>if a=k then L k+1 else L a) (ys.set k v') w':=by
 obtain⟨wA,K⟩:∃wA,wA=wr.alloc (.cells #[.int .i64 ((b:Nat):Int)] 3):=⟨_,rfl⟩;obtain⟨wB,T⟩:=xq (wA.alloc (.cells #[.slice (some ⟨wr.heap.size,0,none⟩) 1 1] 41));rw[<-K,<-T]at hg
 have bA:Below wr.heap.size wr wA:=by rw[K];exact Qq _ _
 have bB:Below wA.heap.size wA wB:=by rw[T];exact Qq _ _
 have a4:wA.heap.size=wr.heap.size+1:=by rw[K];simp
 have a5:wB.heap.size=wr.heap.size+2:=by rw[T];simp[a4]
 have a3:wA.heap[wr.heap.size]?=some (.cells #[.int .i64 ((b:Nat):Int)] 3 (0,0)):=by rw[K];exact heap_alloc_new wr _
 have H:Below wr.heap.size wr wB:=bA.trans (bB.mono bA.size);have aa:=(List.getElem?_eq_some_iff.1 hy).1;have Z:∀q,gv.ownBlock=some q->q<wr.heap.size:=fun q E=>(World.ownsRow.lt (hgl.ol.el k gv hy) q E).2
 have a6:(Q k).length=L k:=by
  have:=(hgl.ol.el k gv hy).1;rw[Uv]at this;omega
 have a2:wr.grownBy wB none:=⟨H.os,H.tape,H.output,H.size,fun k hk _=>H.block k hk⟩;have a1:=hgl.far a2 (fun _ _ _ _ _ e=>by cases e) (fun _ _ _ _ _ e=>by cases e);have a0:∀q,q<wr.heap.size->gv.ownBlock≠some q->w'.heap[q]?=wr.heap[q]? :=fun q E hne=>(hg.block q (by omega) (fun e=>hne e.symm)).trans (H.block q E);refine⟨fun a=>if a=k then Q k++[wr.heap.size] else Q a,(a1.grow hy (us:=[.slice (some ⟨wr.heap.size,0,none⟩) 1 1]) ho hg (by rw[a5];exact hat) hk).congr (fun _=>rfl) (fun j=> ?_),fun j hj=> ?_,(hbf.below H).step hg fun q E hlt=> ?_,hw⟩
 ·by_cases hji:j=k
  ·simp only[if_pos hji];rw[Qqx]
  ·simp only[if_neg hji]
 ·obtain⟨m1,m2⟩:=hmk j hj
  have O:∀q∈Q j,∀y∈ys.set k v',y.ownBlock≠some q:=by
   intro q E y U e;rcases List.mem_or_eq_of_mem_set U with h|h
   ·exact m2 q E y h e
   ·subst h
    rcases hat with I|I
    ·exact m2 q E gv (List.mem_of_getElem? hy) (I ▸ e)
    ·rw[I]at e;cases e
     have:=m1.lt _ E;omega
  have J:VAt w' (f j) (Q j):=m1.keep fun q E hlt=>a0 q hlt fun e=>m2 q E gv (List.mem_of_getElem? hy) e;by_cases hji:j=k
  ·subst hji
   simp only[if_pos];refine⟨J.snoc ?_,fun q E=> ?_⟩
   ·rw[a6,<-hb,hg.block _ (by omega) (fun e=>by have:=Z _ e.symm;omega),bB.block _ (by omega)];exact a3
   ·rcases List.mem_append.1 E with E|E
    ·exact O q E
    ·rw[List.mem_singleton.1 E]
     intro y U e;rcases List.mem_or_eq_of_mem_set U with h|h
     ·obtain⟨a,ha⟩:=List.mem_iff_getElem?.1 h
      have:=(World.ownsRow.lt (hgl.ol.el a y ha) _ e).2;omega
     ·subst h
      rcases hat with I|I
      ·rw[I]at e;have:=Z _ e;omega
      ·rw[I]at e;have:=Option.some.inj e;omega
  ·simp only[if_neg hji]
   exact⟨J,O⟩
 ·obtain⟨x,hx,a7⟩:=hgl.yb k gv q hy E (by omega)
  exact⟨x,List.mem_of_getElem? hx,a7⟩
def fLA (n:Nat)(j a:Nat):Nat:=if a<n then two 0 1000 9000 j+a else two 0 20000 30000 j+(a-n)
theorem Dq {n j a:Nat}(h:a<n):fLA n j a=two 0 1000 9000 j+a:=by unfold fLA;rw[if_pos h]
theorem Ee {n j a:Nat}:fLA n j (n+a)=two 0 20000 30000 j+a:=by unfold fLA;rw[if_neg (by omega),Nat.add_sub_cancel_left]
theorem Hf (B n:Nat)(tv uv:Value)(c0 c1:List Value)(w:World)(h0:w.ownsRow B 41 1 tv n c0)(h1:w.ownsRow B 41 1 uv n c1)(hap:∀q,tv.ownBlock=some q->uv.ownBlock≠some q)(hn:n<=134217728)(hB:B<=w.heap.size):
  Calls Tryz.prog 27 #[tv,uv] w (fun e w'=>e=.returned (.bool true)/\BFr [tv,uv] w w'):=by
 obtain⟨i0,hi,hz0,hz1,hz2⟩:=info_parts Tryz.infoBk
 have hol:OL w B 41 1 [tv,uv] (fun _=>n) (two [] c0 c1):=by
  refine⟨fun j x hx=> ?_,fun i j x y q hx hy hij hq e=> ?_⟩
  ·rcases two_get hx with ⟨rfl,rfl⟩|⟨rfl,rfl⟩
   ·exact h0
   ·exact h1
  ·rcases two_get hx with ⟨rfl,rfl⟩|⟨rfl,rfl⟩<;>rcases two_get hy with ⟨rfl,rfl⟩|⟨rfl,rfl⟩
   ·exact hij rfl
   ·exact hap q hq e
   ·exact hap q e hq
   ·exact hij rfl
 have HVW:Hid (∀y∈[tv,uv],∀q,y.ownBlock=some q->q<w.heap.size):=fun y hy q hq=>by
  obtain⟨a,ha⟩:=List.mem_iff_getElem?.1 hy;exact(World.ownsRow.lt (hol.el a y ha) q hq).2
 obtain⟨tO,tcap,rfl,-,-,htf⟩:=Qn h0;obtain⟨uo,ucap,rfl,-,-,huf⟩:=Qn h1
 have HCL:Hid (∀j,j<2->(two [] c0 c1 j).length=n):=fun j hj=>by
  have hl0:=h0.1;have hl1:=h1.1
  match j,hj with
  |0,_=>show c0.length=n;omega
  |1,_=>show c1.length=n;omega
 have HTF:=zq htf;have HUF:=zq huf
 have HS0:Hid (LA0 w B n [.slice tO n tcap,.slice uo n ucap] (two [] c0 c1) (fLA n) (.int .i64 0) w):=
  ⟨0,fun _=>[],rfl,Nat.zero_le _,fun _ _=>rfl,hol.congr (fun _ _=>rfl) (fun _ _=>rfl),fun j _=>⟨fun a q h=>by simp at h,fun q h=>by simp at h⟩,BFr.refl _ _⟩
 clear h0 h1 hap hol htf huf;go_enter Tryz.func27,Tryz.ntmps27;go_wp2_with fail;go_loopw [5] (fun iv wr=>LA0 w B n [.slice tO n tcap,.slice uo n ucap] (two [] c0 c1) (fLA n) iv wr) (fun iv _=>n-(intOf iv).toNat)
 case atStart=>exact HS0.o
 clear HS0
 case round=>
  obtain⟨i,Q,rfl,hin,hql,hol,hq,hbf⟩:=hrel;have HQL:=zq hql;have HOL:=zq hol;have HQ:=zq hq;have HBF:=zq hbf;clear hql hol hq hbf;by_cases hlt:i<n
  ·obtain⟨gt,rfl⟩:=HTF.o (by omega)
   obtain⟨gu,rfl⟩:=HUF.o (by omega);have e0:=HOL.o.el 0 _ rfl;have e1:=HOL.o.el 1 _ rfl;have hne:gt≠gu:=fun e=>HOL.o.ap 0 1 _ _ gt rfl rfl (by omega) rfl (by rw[e];rfl);have hgt:=HVW.o (.slice (some ⟨gt,0,none⟩) n tcap) (by simp) gt rfl;have hgu:=HVW.o (.slice (some ⟨gu,0,none⟩) n ucap) (by simp) gu rfl;have hgtr:gt<wr.heap.size:=Nat.lt_of_lt_of_le hgt HBF.o.size;have hgur:gu<wr.heap.size:=Nat.lt_of_lt_of_le hgu HBF.o.size;obtain⟨a0,ha0⟩:∃u,(sl1 (Q 0)++(two [] c0 c1 0).drop i)[i]?=some u:=⟨_,List.getElem?_eq_getElem (by rw[List.length_append,List.length_drop,Uv,HQL.o 0 (by omega),HCL.o 0 (by omega)];omega)⟩;obtain⟨a1,ha1⟩:∃u,(sl1 (Q 1)++(two [] c0 c1 1).drop i)[i]?=some u:=⟨_,List.getElem?_eq_getElem (by rw[List.length_append,List.length_drop,Uv,HQL.o 1 (by omega),HCL.o 1 (by omega)];omega)⟩;have d0:wr.cell? ⟨gt,i,none⟩=some a0:=X0 e0 ha0;have d1:wr.cell? ⟨gu,i,none⟩=some a1:=X0 e1 ha1;have f0:=Uj e0 i;have f1:=Uj e1 i;have hi0:(0:Int)<=(i:Int):=Int.natCast_nonneg _
   have hi1:(i:Int)<(n:Int):=by omega
   have W0:IntKind.i64.wrap (1000+(i:Int))=((fLA n 0 i:Nat):Int):=by rw[Dq hlt,IntKind.wrap_i64];show _=((1000+i:Nat):Int);omega
   have W1:IntKind.i64.wrap (9000+(i:Int))=((fLA n 1 i:Nat):Int):=by rw[Dq hlt,IntKind.wrap_i64];show _=((9000+i:Nat):Int);omega
   have HFIN:=zq (LA0.next rfl rfl hgt hgu hlt HCL.o HQL.o HOL.o HQ.o HBF.o);clear e0 e1 ha0 ha1;go_wp2_with fail;have hfin:=HFIN.o
   exact⟨hfin,by simp[intOf]<;>omega⟩
  ·have hie:i=n:=by omega
   subst hie
   have hOLs:OL wr B 41 1 [.slice tO i tcap,.slice uo i ucap] (fun _=>i) (fun j=>sl1 (Q j)):=HOL.o.congr (fun _ _=>rfl) fun j hj=>by
    have:(two [] c0 c1 j).drop i=[]:=List.drop_eq_nil_of_le (by rw[HCL.o j hj];exact Nat.le_refl _);rw[this,List.append_nil]
   have HLB:Hid (LB w wr B i [.slice tO i tcap,.slice uo i ucap] Q (fLA i) (two i (i+0) (i+0)) [.slice tO i tcap,.slice uo i ucap] wr):=by
    refine⟨Q,(GL.start hOLs).congr (fun j=> ?_) (fun _=>rfl),fun j hj=>⟨(HQ.o j hj).1,fun q hq y hy e=> ?_⟩,HBF.o,HBF.o.size⟩
    ·unfold two;repeat' split
     all_goals rfl
    ·have:=(HQ.o j hj).2 q hq
     have:=HVW.o y hy q e;omega
   obtain⟨w1,hw1⟩:=xq wr;have HW1:=zq hw1
   have HBW:Hid (B<=w1.heap.size):=by show _<=_;rw[hw1];exact Nat.le_trans hB HBF.o.size
   have HST2:Hid (LB w w1 B i [.slice tO i tcap,.slice uo i ucap] Q (fLA i) (two i (i+0) (i+0)) [.slice tO i tcap,.slice uo i ucap] wr):=by rw[hw1];exact HLB.o
   clear hOLs HLB HOL HQ HBF hw1;go_wp2_with fail;go_loopw [6,8] (fun gv iv wx=> ∃k:Nat,iv=.int .i64 (k:Nat)/\k<=12/\LB w w1 B i [.slice tO i tcap,.slice uo i ucap] Q (fLA i) (two i (i+k) (i+0)) [gv,.slice uo i ucap] wx) (fun _ iv _=>12-(intOf iv).toNat)
   case atStart=>exact⟨0,rfl,Nat.zero_le _,HST2.o⟩
   case round=>
    obtain⟨k,rfl,hk,Q2,hgl,hmk,hbf,hws⟩:=hrel;have HGL:=zq hgl;have HMK:=zq hmk;have HBF:=zq hbf;have hsz:=hgl.sz;have hel:=hgl.ol.el 0 _ rfl;obtain⟨m,hm⟩:=xq (i+k)
    have hel2:wr.ownsRow B 41 1 u6 m (sl1 (Q2 0)):=by rw[hm];exact hel
    obtain⟨go,gcap,rfl,-,-,-⟩:=Qn hel2;have HEL:=zq hel2;have HM:=zq hm
    have hmb:m<=134217740:=by omega
    clear hgl hmk hbf hel hel2 hm;by_cases hkt:k<12
    ·have hk1:(k:Int)<12:=by omega
     have W0:IntKind.i64.wrap (20000+(k:Int))=((20000+k:Nat):Int):=by rw[IntKind.wrap_i64];omega
     have HAA:=zq ((Qq wr (.cells #[.int .i64 ((20000+k:Nat):Int)] 3)).trans ((Qq (wr.alloc (.cells #[.int .i64 ((20000+k:Nat):Int)] 3)) (.cells #[.slice (some ⟨wr.heap.size,0,none⟩) 1 1] 41)).mono (by simp)));have HOW:=zq (Ql HEL.o HAA.o (Nat.le_refl _));have HCN:=zq (LexP.Qc (wr.alloc (.cells #[.int .i64 ((20000+k:Nat):Int)] 3)) [Value.slice (some ⟨wr.heap.size,0,none⟩) 1 1] 41 (wr.heap.size+1) (by simp));have hbw:=HBW.o;go_wp2_with (at_builtin;refine X3 rfl _ _ 38 rfl B 41 i0 (.slice none 0 0) 1 24 Tryz.underlying38 hi hz0 hz1 hz2 rfl (by omega) _ m (sl1 (Q2 0)) rfl HOW.o ⟨wr.heap.size+1,0,none⟩ 1 1 [.slice (some ⟨wr.heap.size,0,none⟩) 1 1] rfl rfl HCN.o (by simp[Value.oneCell']) (by unfold maxLen;omega) (by omega) (by simp;omega) ?_);intro v6 w6 ho hg hat hkp
     have HFIN:Hid (LB w w1 B i [.slice tO i tcap,.slice uo i ucap] Q (fLA i) (two i (i+(k+1)) (i+0)) [v6,.slice uo i ucap] w6):=
      (LB.step HGL.o HMK.o HBF.o hws (k:=0) (b:=20000+k) rfl (by show _=fLA i 0 (i+k);rw[Ee];rfl) (by show World.ownsRow _ _ _ _ _ (i+k+1) _;rw[<-HM.o];exact ho) hg (by simpa using hat) hkp).congr (Gd _ _ _ _)
     clear ho hg hat hkp;go_wp2_with fail;have hfin:=HFIN.o
     exact⟨⟨k+1,by go_num,by omega,hfin⟩,by simp[intOf]<;>omega⟩
    ·have HKE:Hid (k=12):=by show _=_;omega
     have hk1: ¬(k:Int)<12:=by omega
     have HNA:Hid (LB w w1 B i [.slice tO i tcap,.slice uo i ucap] Q (fLA i) (two i (i+k) (i+0)) [.slice go m gcap,.slice uo i ucap] wr):=⟨Q2,HGL.o,HMK.o,HBF.o,hws⟩;obtain⟨k0,hk0⟩:=xq k;rw[<-hk0]at HNA HKE HM hk1 ⊢;clear hk hkt hk0 HGL HMK HBF HEL;go_wp2_with fail;go_loopw [7,9] (fun hv iv wx=> ∃k:Nat,iv=.int .i64 (k:Nat)/\k<=12/\LB w w1 B i [.slice tO i tcap,.slice uo i ucap] Q (fLA i) (two i (i+k0) (i+k)) [.slice go m gcap,hv] wx) (fun _ iv _=>12-(intOf iv).toNat)
     case atStart=>exact⟨0,rfl,Nat.zero_le _,HNA.o⟩
     clear HNA
     case round=>
      obtain⟨k,rfl,hk,Q3,hgl,hmk,hbf,hws⟩:=hrel;have HGL:=zq hgl;have HMK:=zq hmk;have HBF:=zq hbf;have hsz:=hgl.sz;have hel:=hgl.ol.el 1 _ rfl;obtain⟨m2,hm2⟩:=xq (i+k)
      have hel2:wr.ownsRow B 41 1 u7 m2 (sl1 (Q3 1)):=by rw[hm2];exact hel
      obtain⟨ho',hcap,rfl,-,-,-⟩:=Qn hel2;have HEL:=zq hel2;have HM2:=zq hm2
      have hmb2:m2<=134217740:=by omega
      clear hgl hmk hbf hel hel2 hm2;by_cases hkt:k<12
      ·have hk1:(k:Int)<12:=by omega
       have W0:IntKind.i64.wrap (30000+(k:Int))=((30000+k:Nat):Int):=by rw[IntKind.wrap_i64];omega
       have HAA:=zq ((Qq wr (.cells #[.int .i64 ((30000+k:Nat):Int)] 3)).trans ((Qq (wr.alloc (.cells #[.int .i64 ((30000+k:Nat):Int)] 3)) (.cells #[.slice (some ⟨wr.heap.size,0,none⟩) 1 1] 41)).mono (by simp)));have HOW:=zq (Ql HEL.o HAA.o (Nat.le_refl _));have HCN:=zq (LexP.Qc (wr.alloc (.cells #[.int .i64 ((30000+k:Nat):Int)] 3)) [Value.slice (some ⟨wr.heap.size,0,none⟩) 1 1] 41 (wr.heap.size+1) (by simp));have hbw:=HBW.o;go_wp2_with (at_builtin;refine X3 rfl _ _ 38 rfl B 41 i0 (.slice none 0 0) 1 24 Tryz.underlying38 hi hz0 hz1 hz2 rfl (by omega) _ m2 (sl1 (Q3 1)) rfl HOW.o ⟨wr.heap.size+1,0,none⟩ 1 1 [.slice (some ⟨wr.heap.size,0,none⟩) 1 1] rfl rfl HCN.o (by simp[Value.oneCell']) (by unfold maxLen;omega) (by omega) (by simp;omega) ?_);intro v6 w6 ho hg hat hkp
       have HFIN:Hid (LB w w1 B i [.slice tO i tcap,.slice uo i ucap] Q (fLA i) (two i (i+k0) (i+(k+1))) [.slice go m gcap,v6] w6):=
        (LB.step HGL.o HMK.o HBF.o hws (k:=1) (b:=30000+k) rfl (by show _=fLA i 1 (i+k);rw[Ee];rfl) (by show World.ownsRow _ _ _ _ _ (i+k+1) _;rw[<-HM2.o];exact ho) hg (by simpa using hat) hkp).congr (Gu _ _ _ _)
       clear ho hg hat hkp;go_wp2_with fail;have hfin:=HFIN.o
       exact⟨⟨k+1,by go_num,by omega,hfin⟩,by simp[intOf]<;>omega⟩
      ·have hke:k=12:=by omega
       have hk1: ¬(k:Int)<12:=by omega
       have hme:m=i+12:=by rw[HM.o,HKE.o]
       have hme2:m2=i+12:=by rw[HM2.o];omega
       have hQl:∀j,j<2->(Q j).length=i:=HQL.o
       have hQ0:(Q3 0).length=i+12:=by
        have:=(HGL.o.ol.el 0 _ rfl).1;rw[Uv]at this;rw[this];show (i+k0)*1=i+12;rw[HKE.o];omega
       have hQ1:(Q3 1).length=i+12:=by
        have:=(HGL.o.ol.el 1 _ rfl).1;rw[Uv]at this;rw[this];show (i+k)*1=i+12;omega
       have HRD:Hid (∀(j:Nat) (x:Option Addr) (len cap a:Nat),[Value.slice tO i tcap,.slice uo i ucap][j]?=some (.slice x len cap)->a<i-> ∃g q,x=some ⟨g,0,none⟩/\wr.cell? ⟨g,a,none⟩=some (.slice (some ⟨q,0,none⟩) 1 1)/\wr.cell? ⟨q,0,none⟩=some (.int .i64 ((two 0 1000 9000 j+a:Nat):Int))):=by
        intro j x len cap a hx ha;have hj:=(List.getElem?_eq_some_iff.1 hx).1;obtain⟨a1,a2,e,hf⟩:=HGL.o.old j _ hx
        cases e
        obtain⟨g,e2,hf2⟩:=hf (by omega);obtain⟨qa,hq⟩:∃q,(Q j)[a]?=some q:=⟨_,List.getElem?_eq_getElem (by rw[hQl j hj];exact ha)⟩;have hp:=HGL.o.pre j a _ (Cw hq)
        have hlen:a<(Q3 j).length:=by have:=(List.getElem?_eq_some_iff.1 hp).1;rwa [Uv]at this
        obtain⟨qb,hq3⟩:∃q,(Q3 j)[a]?=some q:=⟨_,List.getElem?_eq_getElem hlen⟩;rw[Cw hq3]at hp;have hv:=(HMK.o j hj).1.cell hq3;rw[Dq ha]at hv;exact⟨g,qb,e2,by rw[hp];exact hf2 a _ (Cw hq),hv⟩
       have HRN:Hid (∀(j:Nat) (x:Option Addr) (len cap a:Nat),[Value.slice go m gcap,.slice ho' m2 hcap][j]?=some (.slice x len cap)->a<12-> ∃g q,x=some ⟨g,0,none⟩/\wr.cell? ⟨g,i+a,none⟩=some (.slice (some ⟨q,0,none⟩) 1 1)/\wr.cell? ⟨q,0,none⟩=some (.int .i64 ((two 0 20000 30000 j+a:Nat):Int))):=by
        intro j x len cap a hx ha;have hj:j<2:=(List.getElem?_eq_some_iff.1 hx).1;have hel:=HGL.o.ol.el j _ hx;obtain⟨b1,b2,e,-,-,hf⟩:=Qn hel
        have hlen:(Q3 j).length=i+12:=by
         match j,hj with
         |0,_=>exact hQ0
         |1,_=>exact hQ1
        have hLj:0<two i (i+k0) (i+k) j:=by
         have:=hel.1;rw[Uv]at this;omega
        obtain⟨g,e2⟩:=hf hLj
        cases e
        subst e2;obtain⟨qb,hq3⟩:∃q,(Q3 j)[i+a]?=some q:=⟨_,List.getElem?_eq_getElem (by omega)⟩;have hv:=(HMK.o j hj).1.cell hq3;rw[Ee]at hv;exact⟨g,qb,rfl,X0 hel (Cw hq3),hv⟩
       have HBE:=zq HBF.o;have HME:=zq hme;have HME2:=zq hme2;obtain⟨w4,hw4⟩:=xq wr;rw[<-hw4]at HRD HRN HBE;have HW4:=zq hw4;clear hk hkt hke hme hme2 hw4 hQl hQ0 hQ1 HGL HMK HBF HEL;go_wp2_with fail;go_loopw [10] (fun jv wx=> ∃j:Nat,jv=.int .i64 (j:Nat)/\j<=i/\Hid (wx=w4)) (fun jv _=>i-(intOf jv).toNat)
       case atStart=>exact⟨0,rfl,Nat.zero_le _,HW4.o.symm⟩
       case round=>
        obtain⟨j,rfl,hj,hw⟩:=hrel;have hj0:(0:Int)<=(j:Int):=Int.natCast_nonneg _;by_cases hjt:j<i
        ·obtain⟨gt,qt,rfl,x0,y0⟩:=HRD.o 0 _ _ _ j rfl hjt
         obtain⟨gu,qu,rfl,x1,y1⟩:=HRD.o 1 _ _ _ j rfl hjt;rw[<-hw.o]at x0 y0 x1 y1
         have hj1:(j:Int)<(i:Int):=by omega
         have W0:IntKind.i64.wrap (1000+(j:Int))=((two 0 1000 9000 0+j:Nat):Int):=by rw[IntKind.wrap_i64];show _=((1000+j:Nat):Int);omega
         have W1:IntKind.i64.wrap (9000+(j:Int))=((two 0 1000 9000 1+j:Nat):Int):=by rw[IntKind.wrap_i64];show _=((9000+j:Nat):Int);omega
         go_wp2_with fail
         exact⟨⟨j+1,by go_num,by omega,hw⟩,by simp[intOf]<;>omega⟩
        ·have hj1: ¬(j:Int)<(i:Int):=by omega
         go_wp2_with fail;go_loopw [11] (fun jv wx=> ∃j:Nat,jv=.int .i64 (j:Nat)/\j<=12/\Hid (wx=w4)) (fun jv _=>12-(intOf jv).toNat)
         case atStart=>exact⟨0,rfl,Nat.zero_le _,hw⟩
         clear hw
         case round=>
          obtain⟨q,rfl,hq,hw⟩:=hrel;have hq0:(0:Int)<=(q:Int):=Int.natCast_nonneg _;by_cases hqt:q<12
          ·have hq1:(q:Int)<12:=by omega
           obtain⟨e,he⟩:=xq (i+q);obtain⟨gt,qt,rfl,x0,y0⟩:=HRN.o 0 _ _ _ q rfl hqt;obtain⟨gu,qu,rfl,x1,y1⟩:=HRN.o 1 _ _ _ q rfl hqt;rw[<-hw.o]at x0 y0 x1 y1;rw[<-he]at x0 x1
           have W2:IntKind.i64.wrap ((i:Int)+(q:Int))=((e:Nat):Int):=by rw[IntKind.wrap_i64];omega
           have hq2:(e:Int)<(m:Int):=by have:=HME.o;omega
           have hq3:(e:Int)<(m2:Int):=by have:=HME2.o;omega
           have hq4:(0:Int)<=(e:Int):=Int.natCast_nonneg _
           have W0:IntKind.i64.wrap (20000+(q:Int))=((two 0 20000 30000 0+q:Nat):Int):=by rw[IntKind.wrap_i64];show _=((20000+q:Nat):Int);omega
           have W1:IntKind.i64.wrap (30000+(q:Int))=((two 0 20000 30000 1+q:Nat):Int):=by rw[IntKind.wrap_i64];show _=((30000+q:Nat):Int);omega
           clear he;go_wp2_with fail
           exact⟨⟨q+1,by go_num,by omega,hw⟩,by simp[intOf]<;>omega⟩
          ·have hq1: ¬(q:Int)<12:=by omega
           go_wp2_with fail;go_ret;exact⟨rfl,by rw[hw.o];exact HBE.o⟩
theorem BFr.sub {vs us:List Value}{w w':World}(h:BFr vs w w')(hs:∀x∈vs,x∈us):BFr us w w':=⟨h.os,h.tape,h.output,h.size,fun k hk hu=>h.block k hk fun x hx=>hu x (hs x hx)⟩
theorem BFr.trans {vs:List Value}{a b c:World}(h:BFr vs a b)(k:BFr vs b c):BFr vs a c:=
 ⟨k.os.trans h.os,k.tape.trans h.tape,k.output.trans h.output,Nat.le_trans h.size k.size,fun q hq hv=>(k.block q (Nat.lt_of_lt_of_le hq h.size) hv).trans (h.block q hq hv)⟩
theorem OL.fr {w w':World}{B z:Nat}{t:TypeId}{us vs:List Value}{L:Nat->Nat}{F:Nat->List Value}(h:OL w B t z us L F)(hf:BFr vs w w')(hx:∀x∈vs,∀y∈us,∀q,x.ownBlock=some q->y.ownBlock≠some q):OL w' B t z us L F:=
 ⟨fun j y hy=>Zf (h.el j y hy) fun q hq hl=>hf.block q hl fun x hx' e=>hx x hx' y (List.mem_of_getElem? hy) q e hq,h.ap⟩
theorem BkS.fr {P:Nat->Prop}{w w':World}{G:Nat}{row:Nat->Value}{ls:Nat->List Value}(h:BkS P w G row ls){vs:List Value}(hf:BFr vs w w')(hv:∀x∈vs,∀q,x.ownBlock=some q-> ¬P q):BkS P w' G row ls:=
 ⟨(hf.block G h.lt fun x hx e=>hv x hx G e h.pg).trans h.blk,fun o ho=>Zf (h.own o ho) fun q hq hl=>hf.block q hl fun x hx e=>hv x hx q e (h.pr o ho q hq).1,h.pg,h.pr,h.pd,h.el⟩
theorem Qj5 (P:Nat->Prop)(G B:Nat)(row:Nat->Value)(ls:Nat->List Value)(L0 L1 L2:Nat->Nat)(F0 F1 F2:Nat->List Value)(w:World)(h:BkS P w G row ls)
  (o0:OL w B 101 1 (ls 0) L0 F0) (o1:OL w B 62 2 (ls 1) L1 F1) (o2:OL w B 3 1 (ls 2) L2 F2)
  (x01:∀x∈ls 0,∀y∈ls 1,∀q,x.ownBlock=some q->y.ownBlock≠some q) (x02:∀x∈ls 0,∀y∈ls 2,∀q,x.ownBlock=some q->y.ownBlock≠some q) (x12:∀x∈ls 1,∀y∈ls 2,∀q,x.ownBlock=some q->y.ownBlock≠some q)
  (n0:(ls 0).length<=536870912) (n1:(ls 1).length<=536870912) (n2:(ls 2).length<=536870912) (m0:∀j,L0 j<=549755813888) (m1:∀j,L1 j<=549755813888) (m2:∀j,L2 j<=549755813888) (hB:B<=w.heap.size):
  Calls Tryz.prog 25 #[.pointer (some ⟨G,0,none⟩)] w (fun e w'=>e=.returned (.bool true)/\BFr (ls 0++ls 1++ls 2) w w'):=by
 have e0:∀x∈ls 0,∀q,x.ownBlock=some q-> ¬P q:=h.el 0 (by omega);have e1:∀x∈ls 1,∀q,x.ownBlock=some q-> ¬P q:=h.el 1 (by omega);obtain⟨a0,c0,r0,l0⟩:=h.at 0 (by omega);have HC:=zq (Qkd G _ c0 _ a0 (ls 0) L0 F0 B w l0 o0 rfl n0 m0 hB)
 have HN:Hid (∀w1,BFr (ls 0) w w1->Calls Tryz.prog 61 #[.pointer (some ⟨G,0,none⟩)] w1 (fun e w'=>e=.returned (.bool true)/\BFr (ls 1) w1 w')):=fun w1 b1=>by
  obtain⟨a1,c1,r1,l1⟩:=(h.fr b1 e0).at 1 (by omega);exact Qwo G _ c1 _ a1 (ls 1) L1 F1 B w1 l1 (o1.fr b1 x01) rfl n1 m1 (Nat.le_trans hB b1.size)
 have HK:Hid (∀w1 w2,BFr (ls 0) w w1->BFr (ls 1) w1 w2->Calls Tryz.prog 62 #[.pointer (some ⟨G,0,none⟩)] w2 (fun e w'=>e=.returned (.bool true)/\BFr (ls 2) w2 w')):=fun w1 w2 b1 b2=>by
  obtain⟨a2,c2,r2,l2⟩:=((h.fr b1 e0).fr b2 e1).at 2 (by omega);exact Qyp G _ c2 _ a2 (ls 2) L2 F2 B w2 l2 ((o2.fr b1 x02).fr b2 x12) rfl n2 m2 (Nat.le_trans hB (Nat.le_trans b1.size b2.size))
 clear h o0 o1 o2 x01 x02 x12 e0 e1 l0 r0;go_enter Tryz.func25,Tryz.ntmps25;go_wp2_with fail;refine HC.o.mono ?_;rintro e w1 ⟨rfl,b1⟩;have HN1:=zq (HN.o w1 b1);have B1:=zq b1;clear b1 HC HN;go_wp2_with fail;refine HN1.o.mono ?_;rintro e w2 ⟨rfl,b2⟩;have HK2:=zq (HK.o w1 w2 B1.o b2);have B2:=zq b2;clear b2 HN1 HK;go_wp2_with fail;refine HK2.o.mono ?_;rintro e w3 ⟨rfl,b3⟩;have B3:=zq b3;clear b3 HK2;go_wp2_with fail;go_ret
 refine⟨rfl,((B1.o.sub fun x hx=> ?_).trans (B2.o.sub fun x hx=> ?_)).trans (B3.o.sub fun x hx=> ?_)⟩<;>simp[hx]
end Go.Proofs.YtgfmiladfeoldaaGreatDoor
