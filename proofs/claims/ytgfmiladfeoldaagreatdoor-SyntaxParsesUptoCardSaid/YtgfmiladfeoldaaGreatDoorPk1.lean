/- Joined texts of this claim's proof: NatP, NatP2, NatP3, NatP4, DecP, DivP, Div64P. -/
import Derived.Below
import Derived.Lib.IndexMore
set_option linter.unusedSimpArgs false
set_option linter.unusedVariables false
set_option maxRecDepth 100000
set_option maxHeartbeats 16000000
theorem zq{p:Prop}(h:p):Go.RowKit.Hid p:=h
theorem Go.RowKit.Hid.o{p:Prop}(h:Go.RowKit.Hid p):p:=h
theorem xq{α:Type _}(a:α):∃b,b=a:=⟨a,rfl⟩
theorem xr{α:Type _}(a:α):∃b,a=b:=⟨a,rfl⟩
namespace NatP
def BB:Nat:=18446744073709551616
theorem Xn:0<BB:=by unfold BB;omega
def val:List Nat->Nat
 | []=>0
 |x::l=>x+BB*val l
def ok (l:List Nat):Prop:=∀x∈l,x<BB
theorem H7:ok []:=fun x h=>by cases h
theorem Qzb {x:Nat}{l:List Nat}(hx:x<BB)(h:ok l):ok (x::l):=fun y E=>by
 rcases List.mem_cons.1 E with rfl|E
 ·exact hx
 ·exact h y E
theorem Zb {l:List Nat}(h:ok l)(n:Nat):ok (l.take n):=fun x hx=>h x (List.mem_of_mem_take hx)
theorem Vs {l:List Nat}(h:ok l)(n:Nat):ok (l.drop n):=fun x hx=>h x (List.mem_of_mem_drop hx)
theorem Gi {a b:List Nat}(ha:ok a)(hb:ok b):ok (a++b):=fun x hx=>by
 rcases List.mem_append.1 hx with h|h
 ·exact ha x h
 ·exact hb x h
theorem Qm1 {l:List Nat}(h:ok l)(i:Nat){x:Nat}(hx:x<BB):ok (l.set i x):=fun y hy=>by
 rcases List.mem_or_eq_of_mem_set hy with E|rfl
 ·exact h y E
 ·exact hx
theorem Px (n:Nat):ok (List.replicate n 0):=fun x hx=>by
 rw[List.eq_of_mem_replicate hx];exact Xn
theorem Wc:∀(a b:List Nat),val (a++b)=val a+BB^a.length*val b
 | [],b=>by simp[val]
 |x::a,b=>by
  simp only[List.cons_append,val,List.length_cons,Nat.pow_succ,Wc a b];rw[Nat.mul_add,Nat.mul_comm (BB^a.length) BB,Nat.mul_assoc,Nat.add_assoc]
theorem Zv (a:List Nat)(x:Nat):val (a++[x])=val a+BB^a.length*x:=by
 rw[Wc];simp[val]
theorem Xi {l:List Nat}{i:Nat}(h:i<l.length):val (l.take (i+1))=val (l.take i)+BB^i*l[i]:=by
 rw[List.take_succ_eq_append_getElem h,Zv,List.length_take,Nat.min_eq_left (by omega)]
theorem Xb (l:List Nat)(i:Nat)(h:i<=l.length):val l=val (l.take i)+BB^i*val (l.drop i):=by
 have:=Wc (l.take i) (l.drop i);rw[List.take_append_drop,List.length_take,Nat.min_eq_left h]at this;exact this
theorem Z2 (n:Nat):val (List.replicate n 0)=0:=by
 induction n with
 |zero=>rfl
 |succ n ih=>rw[List.replicate_succ];simp[val,ih]
theorem Ym:∀{a:List Nat},ok a->val a<BB^a.length
 | [],_=>by simp[val]
 |x::a,h=>by
  have h1:=h x (by simp);have E:=Ym (a:=a) fun d hd=>h d (by simp[hd]);simp only[val,List.length_cons,Nat.pow_succ]
  have H:BB*val a+BB<=BB*BB^a.length:=by
   rw[<-Nat.mul_succ];exact Nat.mul_le_mul_left _ E
  rw[Nat.mul_comm (BB^a.length)];omega
def Qw (l:List Nat):List Nat:=(l.reverse.dropWhile (· ==0)).reverse
theorem Yr (l:List Nat):Qw (l++[0])=Qw l:=by simp[Qw]
theorem Yu (l:List Nat)(d:Nat)(h:d≠0):Qw (l++[d])=l++[d]:=by simp[Qw,h]
theorem Qz7:Qw []=[]:=rfl
theorem Vp {P:List Nat->Prop}(h0:P [])(h1:∀l d,P l->P (l++[d]))(l:List Nat):P l:=by
 have:∀m:List Nat,P m.reverse:=by
  intro m
  induction m with
  |nil=>exact h0
  |cons d m ih=>rw[List.reverse_cons];exact h1 _ _ ih
 have h:=this l.reverse
 rwa [List.reverse_reverse]at h
theorem X9:∀l:List Nat,Qw l=l.take (Qw l).length/\(Qw l).length<=l.length:=by
 apply Vp
 ·exact⟨rfl,Nat.le_refl _⟩
 ·intro l d ih
  by_cases h:d=0
  ·subst h
   rw[Yr];refine⟨?_,by rw[List.length_append];omega⟩;rw[List.take_append_of_le_length ih.2];exact ih.1
  ·rw[Yu _ _ h]
   exact⟨by rw[List.take_length],Nat.le_refl _⟩
theorem Ql:∀l:List Nat,val (Qw l)=val l:=by
 apply Vp
 ·rfl
 ·intro l d ih
  by_cases h:d=0
  ·subst h
   rw[Yr,ih,Zv];simp
  ·rw[Yu _ _ h]
theorem Qf (l:List Nat):(Qw l).length<=l.length:=(X9 l).2
theorem Vm {l:List Nat}(h:ok l):ok (Qw l):=by rw[(X9 l).1];exact Zb h _
theorem Yy:∀(l:List Nat) (n:Nat),val l<BB^n->(Qw l).length<=n:=by
 apply Vp (P:=fun l=> ∀n,val l<BB^n->(Qw l).length<=n)
 ·intro n _;exact Nat.zero_le _
 ·intro l d ih n h
  by_cases hd:d=0
  ·subst hd
   rw[Yr];rw[Zv]at h;exact ih n (by simpa using h)
  ·rw[Yu _ _ hd,List.length_append]
   rw[Zv]at h;apply Classical.byContradiction;intro E;simp only[List.length_cons,List.length_nil,Nat.zero_add,Nat.not_le]at E;have H:BB^n<=BB^l.length:=Nat.pow_le_pow_right Xn (by omega);have I:BB^l.length*1<=BB^l.length*d:=Nat.mul_le_mul_left _ (by omega);omega
theorem Vv:∀(l:List Nat) (n:Nat),(Qw l).length=n+1-> ∃d,(Qw l)[n]?=some d/\d≠0:=by
 apply Vp (P:=fun l=> ∀n,(Qw l).length=n+1-> ∃d,(Qw l)[n]?=some d/\d≠0)
 ·intro n h;simp[Qz7]at h
 ·intro l d ih n h
  by_cases hd:d=0
  ·subst hd
   rw[Yr]at h ⊢;exact ih n h
  ·rw[Yu _ _ hd]at h ⊢
   rw[List.length_append]at h;simp only[List.length_cons,List.length_nil]at h
   obtain rfl:n=l.length:=by omega
   exact⟨d,by simp,hd⟩
theorem strip_step {l:List Nat}{n:Nat}(hn:n<=l.length)(h:Qw (l.take n)=Qw l)(h0:∀m,n=m+1->l[m]?=some 0):n=0\/Qw (l.take (n-1))=Qw l:=by
 cases n with
 |zero=>exact .inl rfl
 |succ m=>
  right;have E:=h0 m rfl
  have H:m<l.length:=by omega
  have I:l[m]=0:=by rw[List.getElem?_eq_getElem H]at E;exact Option.some.inj E
  rw[Nat.add_sub_cancel];rw[List.take_succ_eq_append_getElem H,I,Yr]at h;exact h
theorem Tx {l:List Nat}{n:Nat}(hn:n<=l.length)(h:Qw (l.take n)=Qw l)(h0:n=0\/ ∃m x,n=m+1/\l[m]?=some x/\x≠0):(Qw l).length=n:=by
 rcases h0 with rfl|⟨m,x,rfl,E,J⟩
 ·rw[<-h];rfl
 ·have H:m<l.length:=by omega
  have I:l[m]=x:=by rw[List.getElem?_eq_getElem H]at E;exact Option.some.inj E
  rw[List.take_succ_eq_append_getElem H,I,Yu _ _ J]at h;rw[<-h,List.length_append,List.length_take,Nat.min_eq_left (by omega)];rfl
theorem F8 {P X Y Z x y c s c':Nat}(h:Z+P*c=X+Y)(hs:s+BB*c'=x+y+c):(Z+P*s)+P*BB*c'=(X+P*x)+(Y+P*y):=by
 have E:P*s+P*(BB*c')=P*x+P*y+P*c:=by rw[<-Nat.mul_add,hs,Nat.mul_add,Nat.mul_add]
 rw[Nat.mul_assoc];omega
theorem Pd {l:List Nat}{i o:Nat}(x:Nat)(h:o<=i):(l.set i x).take o=l.take o:=by
 rw[List.take_set,List.set_eq_of_length_le];rw[List.length_take];omega
theorem Sc {l:List Nat}{i:Nat}(x:Nat):(l.set i x).drop (i+1)=l.drop (i+1):=by
 rw[List.drop_set_of_lt (by omega)]
theorem Sn {l:List Nat}{o i:Nat}(x:Nat)(h:o+i<l.length):((l.set (o+i) x).drop o).take (i+1)=(l.drop o).take i++[x]:=by
 have E:(l.set (o+i) x).drop o=(l.drop o).set i x:=by
  rw[List.drop_set];rw[if_neg (by omega),Nat.add_sub_cancel_left]
 rw[E,List.take_succ_eq_append_getElem (by rw[List.length_set,List.length_drop];omega),Pd x (Nat.le_refl i)];simp
end NatP
namespace NatP
theorem Qzs:∀(l:List Nat) (i s:Nat) (h:i<l.length),val (l.set i s)+BB^i*l[i]=val l+BB^i*s
 | [],i,s,h=>by simp at h
 |x::l,0,s,h=>by simp[val];omega
 |x::l,i+1,s,h=>by
  have ih:=Qzs l i s (by simpa using h);simp only[List.set_cons_succ,val,List.getElem_cons_succ,Nat.pow_succ]
  have e:∀q,BB^i*BB*q=BB*(BB^i*q):=fun q=>by rw[Nat.mul_comm (BB^i) BB,Nat.mul_assoc]
  rw[e,e]
  have:BB*val (l.set i s)+BB*(BB^i*l[i]'(by simpa using h))=BB*val l+BB*(BB^i*s):=by rw[<-Nat.mul_add,ih,Nat.mul_add]
  omega
theorem Cm {l:List Nat}{i s z:Nat}(h:l[i]?=some z):val (l.set i s)+BB^i*z=val l+BB^i*s:=by
 obtain⟨E,H⟩:=List.getElem?_eq_some_iff.1 h;have:=Qzs l i s E;rw[H]at this;exact this
theorem Qja {x y z cc hi lo s1 c1 h2 s2 c2:Nat}(hx:x<BB)(hy:y<BB)(hz:z<BB)(hc:cc<BB)(hp:hi*BB+lo=x*y)(h1:s1+BB*c1=lo+cc)(h3:h2=hi+c1)(h4:s2+BB*c2=z+s1):
  h2<BB/\s2+BB*(h2+c2)=z+x*y+cc/\h2+c2<BB:=by
 have h:x*y<=18446744073709551615*18446744073709551615:=Nat.mul_le_mul (by unfold BB at hx;omega) (by unfold BB at hy;omega);unfold BB at*;refine⟨by omega,by omega,by omega⟩
def InSt (M0 ys:List Nat)(k x j cc:Nat)(M:List Nat):Prop:=
 M.length=M0.length/\(∀q,k+ys.length<=q->M[q]?=M0[q]?)/\val M+BB^(k+j)*cc=val M0+BB^k*(x*val (ys.take j))
theorem InSt.start (M0 ys:List Nat)(k x:Nat):InSt M0 ys k x 0 0 M0:=⟨rfl,fun _ _=>rfl,by simp[val]⟩
theorem InSt.step {M0 ys M:List Nat}{k x j cc z y s cc':Nat}(h:InSt M0 ys k x j cc M)(hz:M[k+j]?=some z)(hy:ys[j]?=some y)(hs:s+BB*cc'=z+x*y+cc):
  InSt M0 ys k x (j+1) cc' (M.set (k+j) s):=by
 obtain⟨J,I,K⟩:=h;obtain⟨H,E⟩:=List.getElem?_eq_some_iff.1 hy;refine⟨by rw[List.length_set,J],fun q hq=> ?_,?_⟩
 ·rw[List.getElem?_set_ne (by omega)];exact I q hq
 ·have e1:=Cm (s:=s) hz
  have e2:=Xi H;rw[E]at e2;rw[e2,<-Nat.add_assoc,Nat.pow_succ]
  have e3:BB^k*(x*(val (ys.take j)+BB^j*y))=BB^k*(x*val (ys.take j))+BB^(k+j)*(x*y):=by
   rw[Nat.mul_add,Nat.mul_add,Nat.pow_add];congr 1;rw[Nat.mul_left_comm x,Nat.mul_assoc]
  rw[e3];generalize BB^(k+j)=P at*
  have e4:P*s+P*(BB*cc')=P*z+P*(x*y)+P*cc:=by rw[<-Nat.mul_add,hs,Nat.mul_add,Nat.mul_add]
  rw[Nat.mul_assoc];omega
def W8 (xs ys:List Nat)(k:Nat)(M:List Nat):Prop:=
 M.length=xs.length+ys.length/\(∀q,k+ys.length<=q->q<M.length->M[q]?=some 0)/\val M=val (xs.take k)*val ys
theorem W8.start (xs ys:List Nat):W8 xs ys 0 (List.replicate (xs.length+ys.length) 0):=
 ⟨List.length_replicate,fun q _ hq=>by rw[List.length_replicate]at hq;simp[hq],by rw[Z2];simp[val]⟩
theorem W8.zero {xs ys M:List Nat}{k:Nat}(h:W8 xs ys k M)(hx:xs[k]?=some 0):W8 xs ys (k+1) M:=by
 obtain⟨K,J,E⟩:=h;obtain⟨I,H⟩:=List.getElem?_eq_some_iff.1 hx;refine⟨K,fun q hq hl=>J q (by omega) hl,?_⟩;rw[Xi I,H,E];simp
theorem W8.row {xs ys M0 M:List Nat}{k x cc:Nat}(h:W8 xs ys k M0)(hx:xs[k]?=some x)(hi:InSt M0 ys k x ys.length cc M):W8 xs ys (k+1) (M.set (k+ys.length) cc)/\M[k+ys.length]?=some 0:=by
 obtain⟨O,H,I⟩:=h;obtain⟨i1,i2,i3⟩:=hi;obtain⟨K,J⟩:=List.getElem?_eq_some_iff.1 hx
 have E:M[k+ys.length]?=some 0:=by rw[i2 _ (Nat.le_refl _)];exact H _ (Nat.le_refl _) (by omega)
 refine⟨⟨by rw[List.length_set,i1,O],fun q hq hl=> ?_,?_⟩,E⟩
 ·rw[List.getElem?_set_ne (by omega),i2 q (by omega)]
  rw[List.length_set]at hl;exact H q (by omega) (by omega)
 ·have e1:=Cm (s:=cc) E
  rw[List.take_length]at i3;rw[Xi K,J,Nat.add_mul,<-I];have e2:BB^k*x*val ys=BB^k*(x*val ys):=Nat.mul_assoc _ _ _;rw[e2,<-i3];simp only[Nat.mul_zero,Nat.add_zero]at e1;omega
theorem W8.done {xs ys M:List Nat}(h:W8 xs ys xs.length M):M.length=xs.length+ys.length/\val M=val xs*val ys:=by
 obtain⟨H,_,E⟩:=h;rw[List.take_length]at E;exact⟨H,E⟩
theorem T6 {V W P c:Nat}(h:V+P*c=W)(hW:W<P):c=0/\V=W:=by
 cases c with
 |zero=>exact⟨rfl,by simpa using h⟩
 |succ c=>rw[Nat.mul_succ]at h;omega
theorem Qmt:2<=BB:=by unfold BB;omega
theorem Qj0 {a b m:Nat}(ha:a<BB^m)(hb:b<BB^m):a+b<BB^(m+1):=by
 rw[Nat.pow_succ];have h:=Nat.mul_le_mul_left (BB^m) Qmt;generalize BB^m*BB=Q at*;generalize BB^m=P at*;omega
end NatP
namespace NatP
theorem Qxu (A0 A1 B0 B1:Nat):(A0+A1)*(B0+B1)=A0*B0+A1*B1+(A0*B1+A1*B0):=by
 rw[Nat.add_mul,Nat.mul_add,Nat.mul_add];omega
theorem Cb (A0 A1 B0 B1 P:Nat):(A0+P*A1)*(B0+P*B1)=A0*B0+P*P*(A1*B1)+P*(A0*B1+A1*B0):=by
 rw[Nat.add_mul,Nat.mul_add,Nat.mul_add]
 have e1:A0*(P*B1)=P*(A0*B1):=by rw[Nat.mul_left_comm]
 have e2:P*A1*B0=P*(A1*B0):=Nat.mul_assoc _ _ _
 have e3:P*A1*(P*B1)=P*P*(A1*B1):=by rw[Nat.mul_assoc,Nat.mul_assoc,Nat.mul_left_comm A1]
 rw[e1,e2,e3,Nat.mul_add];omega
theorem Jq {xs ys:List Nat}(hx:ok xs)(hy:ok ys):val xs*val ys<BB^(xs.length+ys.length):=by
 rw[Nat.pow_add];exact Nat.mul_lt_mul_of_lt_of_le (Ym hx) (Nat.le_of_lt (Ym hy)) (Nat.pow_pos Xn)
theorem Jg (l:List Nat){n:Nat}(h:val l<BB^n):(Qw l).length<=n:=Yy l n h
structure Half (xs ys:List Nat) (h:Nat):Prop where
 okx:ok xs
 oky:ok ys
 hx:h<=xs.length
 hy:h<=ys.length
theorem Half.vx {xs ys:List Nat}{h:Nat}(H:Half xs ys h):val xs=val (xs.take h)+BB^h*val (xs.drop h):=Xb xs h H.hx
theorem Half.vy {xs ys:List Nat}{h:Nat}(H:Half xs ys h):val ys=val (ys.take h)+BB^h*val (ys.drop h):=Xb ys h H.hy
theorem Half.low_len {xs ys L:List Nat}{h:Nat}(H:Half xs ys h)(hL:val L=val (xs.take h)*val (ys.take h)):(Qw L).length<=2*h:=by
 refine Jg L ?_;have:=Jq (Zb H.okx h) (Zb H.oky h);rw[List.length_take,List.length_take,Nat.min_eq_left H.hx,Nat.min_eq_left H.hy]at this;rw[hL,show 2*h=h+h from by omega];exact this
theorem Half.high_len {xs ys L:List Nat}{h:Nat}(H:Half xs ys h)(hL:val L=val (xs.drop h)*val (ys.drop h)):(Qw L).length<=xs.length+ys.length-2*h:=by
 refine Jg L ?_;have:=Jq (Vs H.okx h) (Vs H.oky h);rw[List.length_drop,List.length_drop]at this;have E:=H.hx;have I:=H.hy;rw[hL,show xs.length+ys.length-2*h=xs.length-h+(ys.length-h) from by omega];exact this
theorem Half.sub1 {xs ys Lm Ll:List Nat}{h:Nat}(hm:ok Lm)(hv:val Lm=(val (xs.take h)+val (xs.drop h))*(val (ys.take h)+val (ys.drop h)))(hl:val Ll=val (xs.take h)*val (ys.take h)):
  val (Qw Ll)<=val Lm/\(Qw Ll).length<=Lm.length:=by
 have E:val Ll<=val Lm:=by rw[hv,hl,Qxu];omega
 exact⟨by rw[Ql];exact E,Jg Ll (Nat.lt_of_le_of_lt E (Ym hm))⟩
theorem Half.sub2 {xs ys Lm Ll Lh M1:List Nat}{h:Nat}(hm:ok M1)(hv:val Lm=(val (xs.take h)+val (xs.drop h))*(val (ys.take h)+val (ys.drop h)))(hl:val Ll=val (xs.take h)*val (ys.take h))(hh:val Lh=val (xs.drop h)*val (ys.drop h))
  (h1:val M1+val (Qw Ll)=val Lm):val (Qw Lh)<=val M1/\(Qw Lh).length<=M1.length:=by
 have E:val Lh<=val M1:=by
  rw[Ql,hv,hl,Qxu]at h1;rw[hh];omega
 exact⟨by rw[Ql];exact E,Jg Lh (Nat.lt_of_le_of_lt E (Ym hm))⟩
theorem Half.mid {xs ys Lm Ll Lh M1 M2:List Nat}{h:Nat}(hv:val Lm=(val (xs.take h)+val (xs.drop h))*(val (ys.take h)+val (ys.drop h)))(hl:val Ll=val (xs.take h)*val (ys.take h))(hh:val Lh=val (xs.drop h)*val (ys.drop h))
  (h1:val M1+val (Qw Ll)=val Lm) (h2:val M2+val (Qw Lh)=val M1):val M2=val (xs.take h)*val (ys.drop h)+val (xs.drop h)*val (ys.take h):=by
 rw[Ql,hv,hl,Qxu]at h1;rw[Ql,hh]at h2;omega
theorem Half.mid_len {xs ys M2:List Nat}{h:Nat}(H:Half xs ys h)(hv:val M2=val (xs.take h)*val (ys.drop h)+val (xs.drop h)*val (ys.take h)):(Qw M2).length<=xs.length+ys.length-h:=by
 refine Jg M2 ?_;have E:=Jq H.okx H.oky;rw[H.vx,H.vy,Cb,<-hv]at E;have J:=H.hx
 have I:BB^(xs.length+ys.length)=BB^h*BB^(xs.length+ys.length-h):=by rw[<-Nat.pow_add];congr 1;omega
 rw[I]at E;exact Nat.lt_of_mul_lt_mul_left (a:=BB^h) (by omega)
theorem Half.add1 {xs ys Ll Lh M:List Nat}{h N:Nat}(H:Half xs ys h)(hN:N=xs.length+ys.length)(hl:val Ll=val (xs.take h)*val (ys.take h))(hh:val Lh=val (xs.drop h)*val (ys.drop h)){Z:List Nat}(hZ:Z=Qw Ll++List.replicate (N-(Qw Ll).length) 0)
  (hM:M.length=Z.length) (ht:M.take (2*h)=Z.take (2*h)) (hc:∃c,val (M.drop (2*h))+BB^(Z.length-2*h)*c=val (Z.drop (2*h))+val (Qw Lh)):
  M.length=N/\val M=val (xs.take h)*val (ys.take h)+BB^h*BB^h*(val (xs.drop h)*val (ys.drop h)):=by
 have h1:=H.hx;have U:=H.hy;have K:=H.low_len hl
 have I:Z.length=N:=by rw[hZ,List.length_append,List.length_replicate];omega
 have E:val (Z.drop (2*h))=0:=by
  rw[hZ,List.drop_append,List.drop_eq_nil_of_le K,List.nil_append,List.drop_replicate,Z2]
 have J:val (Z.take (2*h))=val (xs.take h)*val (ys.take h):=by
  have e:=Xb Z (2*h) (by omega);rw[E]at e
  have e2:val Z=val (Qw Ll):=by rw[hZ,Wc,Z2];simp
  rw[e2,Ql,hl]at e
  simpa using e.symm
 obtain⟨c,hc⟩:=hc;rw[E,Nat.zero_add,Ql,hh,I]at hc
 have O:val (xs.drop h)*val (ys.drop h)<BB^(N-2*h):=by
  have:=Jq (Vs H.okx h) (Vs H.oky h);rw[List.length_drop,List.length_drop]at this;rw[show N-2*h=xs.length-h+(ys.length-h) from by omega];exact this
 obtain⟨_,T⟩:=T6 hc O;refine⟨by rw[hM,I],?_⟩;rw[Xb M (2*h) (by omega),ht,J,T,<-Nat.pow_add,show h+h=2*h from by omega]
theorem Half.add2 {xs ys M2 Lm Z:List Nat}{h:Nat}(H:Half xs ys h)(hZ:Z.length=xs.length+ys.length)(hv:val Z=val (xs.take h)*val (ys.take h)+BB^h*BB^h*(val (xs.drop h)*val (ys.drop h)))
  (hm:val Lm=val (xs.take h)*val (ys.drop h)+val (xs.drop h)*val (ys.take h))
  (hM:M2.length=Z.length) (ht:M2.take h=Z.take h) (hc:∃c,val (M2.drop h)+BB^(Z.length-h)*c=val (Z.drop h)+val (Qw Lm)):
  M2.length=xs.length+ys.length/\val M2=val xs*val ys:=by
 have E:=H.hx;refine⟨by rw[hM,hZ],?_⟩;obtain⟨c,hc⟩:=hc;have e1:=Xb M2 h (by omega);have e2:=Xb Z h (by omega);rw[ht]at e1
 have e3:val M2+BB^Z.length*c=val Z+BB^h*val (Qw Lm):=by
  have:BB^Z.length=BB^h*BB^(Z.length-h):=by rw[<-Nat.pow_add];congr 1;omega
  rw[this,Nat.mul_assoc,e1,e2,Nat.add_assoc,<-Nat.mul_add,hc,Nat.mul_add,Nat.add_assoc]
 have e4:val Z+BB^h*val (Qw Lm)=val xs*val ys:=by
  rw[Ql,hm,hv,H.vx,H.vy,Cb]
 rw[e4,hZ]at e3;exact(T6 e3 (Jq H.okx H.oky)).2
def PiSt (xs ys:List Nat)(i:Nat)(M:List Nat):Prop:=M.length=xs.length+ys.length/\val M=val (xs.take i)*val ys
theorem PiSt.start (xs ys:List Nat):PiSt xs ys 0 (List.replicate (xs.length+ys.length) 0):=⟨List.length_replicate,by rw[Z2];simp[val]⟩
theorem PiSt.step {xs ys L M P:List Nat}{i e:Nat}(hx:ok xs)(hy:ok ys)(h:PiSt xs ys i L)(hie:i<=e)(he:e<=xs.length)(hP:val P=val ((xs.drop i).take (e-i))*val ys)
  (hM:M.length=L.length) (ht:M.take i=L.take i) (hc:∃c,val (M.drop i)+BB^(L.length-i)*c=val (L.drop i)+val (Qw P)):PiSt xs ys e M:=by
 obtain⟨E,I⟩:=h;refine⟨by rw[hM,E],?_⟩;obtain⟨c,hc⟩:=hc;have e1:=Xb M i (by omega);have e2:=Xb L i (by omega);rw[ht]at e1
 have e3:val M+BB^L.length*c=val L+BB^i*val (Qw P):=by
  have:BB^L.length=BB^i*BB^(L.length-i):=by rw[<-Nat.pow_add];congr 1;omega
  rw[this,Nat.mul_assoc,e1,e2,Nat.add_assoc,<-Nat.mul_add,hc,Nat.mul_add,Nat.add_assoc]
 have e4:val L+BB^i*val (Qw P)=val (xs.take e)*val ys:=by
  have e5:=Xb (xs.take e) i (by rw[List.length_take];omega);rw[List.take_take,Nat.min_eq_left hie,List.drop_take]at e5;rw[Ql,hP,I,e5,Nat.add_mul,Nat.mul_assoc]
 rw[e4,E]at e3;refine(T6 e3 ?_).2;have H:=Jq (Zb hx e) hy;refine Nat.lt_of_lt_of_le H (Nat.pow_le_pow_right Xn ?_);rw[List.length_take];omega
theorem PiSt.done {xs ys M:List Nat}(h:PiSt xs ys xs.length M):M.length=xs.length+ys.length/\val M=val xs*val ys:=by
 obtain⟨H,E⟩:=h;rw[List.take_length]at E;exact⟨H,E⟩
theorem Gd {xs ys P:List Nat}{i e:Nat}(hx:ok xs)(hy:ok ys)(he:e<=xs.length)(hP:val P=val ((xs.drop i).take (e-i))*val ys)(hie:i<=e):(Qw P).length<=xs.length+ys.length-i:=by
 refine Jg P ?_;have:=Jq (Zb (Vs hx i) (e-i)) hy;rw[hP];refine Nat.lt_of_lt_of_le this (Nat.pow_le_pow_right Xn ?_);rw[List.length_take,List.length_drop];omega
end NatP
namespace NatP
def decV (ds:List Nat):Nat:=ds.foldl (fun a x=>a*10+x) 0
theorem Nn:∀(b:List Nat) (a:Nat),b.foldl (fun a x=>a*10+x) a=a*10^b.length+decV b
 | [],a=>by simp[decV]
 |x::b,a=>by
  have h1:=Nn b (a*10+x);have h:=Nn b (0*10+x);have e:decV (x::b)=b.foldl (fun a x=>a*10+x) (0*10+x):=rfl;rw[List.foldl_cons,h1,e,h,List.length_cons,Nat.pow_succ,Nat.zero_mul,Nat.zero_add,Nat.add_mul,Nat.mul_assoc,Nat.mul_comm 10,Nat.add_assoc]
theorem Sd (a b:List Nat):decV (a++b)=decV a*10^b.length+decV b:=by
 unfold decV;rw[List.foldl_append];exact Nn b _
theorem Fs (a:List Nat)(x:Nat):decV (a++[x])=decV a*10+x:=by
 rw[Sd];simp[decV]
theorem Tu {ds:List Nat}(h:∀x∈ds,x<10):decV ds<10^ds.length:=by
 refine Vp (P:=fun ds=>(∀x∈ds,x<10)->decV ds<10^ds.length) (fun _=>by simp[decV]) (fun l d ih h=> ?_) ds h;have E:=ih fun x hx=>h x (by simp[hx]);have H:=h d (by simp);rw[Fs,List.length_append,List.length_cons,List.length_nil,Nat.pow_succ];omega
theorem M9 {ds:List Nat}{i x:Nat}(h:ds[i]?=some x):decV (ds.take (i+1))=decV (ds.take i)*10+x:=by
 rw[List.take_add_one,h];exact Fs _ _
theorem Qmo (n:Nat):10^n<=BB^n:=Nat.pow_le_pow_left (by unfold BB;omega) n
theorem Ed {n:Nat}(h:n<=19):10^n<BB:=by
 have E:10^n<=10^19:=Nat.pow_le_pow_right (by omega) h
 have H:(10:Nat)^19<BB:=by unfold BB;decide
 omega
theorem Se {l:List Nat}{n:Nat}(hs:Qw l=l)(h:val l<10^n):l.length<=n:=by
 have:=Yy l n (Nat.lt_of_lt_of_le h (Qmo n));rw[hs]at this;exact this
theorem Ky {l:List Nat}{n:Nat}(hs:Qw l=l)(h:val l<=10^n):l.length<=n+1:=by
 refine Se hs (Nat.lt_of_le_of_lt h ?_);rw[Nat.pow_succ];have:0<10^n:=Nat.pow_pos (by omega);omega
theorem Qq6 (ds:List Nat)(i:Nat)(h:i<=ds.length):decV ds=decV (ds.take i)*10^(ds.length-i)+decV (ds.drop i):=by
 have:=Sd (ds.take i) (ds.drop i);rw[List.take_append_drop,List.length_drop]at this;exact this
def digVal (c:Nat):Nat:=if 48<=c/\c<=57 then c-48 else if 97<=c/\c<=122 then c-87 else if 65<=c/\c<=90 then c-55 else 36
end NatP
namespace NatP
def dg (n:Nat):List Nat:=if n=0 then [] else dg (n / 10)++[n % 10]
termination_by n
decreasing_by omega
theorem Jt:dg 0=[]:=by rw[dg];rfl
theorem Wg {n:Nat}(h:0<n):dg n=dg (n / 10)++[n % 10]:=by rw[dg,if_neg (by omega)]
theorem Qhl:∀n,∀x∈dg n,x<10:=by
 intro n
 induction n using Nat.strongRecOn with
 |ind n ih=>
  intro x E;by_cases h:n=0
  ·subst h;rw[Jt]at E;cases E
  ·rw[Wg (by omega)]at E
   rcases List.mem_append.1 E with E|E
   ·exact ih (n / 10) (by omega) x E
   ·simp at E;omega
def fw (n:Nat):Nat->List Nat
 |0=>[]
 |w+1=>fw (n / 10) w++[n % 10]
theorem Qm7 (n:Nat):∀w,(fw n w).length=w:=by
 intro w
 induction w generalizing n with
 |zero=>rfl
 |succ w ih=>rw[fw,List.length_append,ih];rfl
theorem Qy3 (w:Nat):fw 0 w=List.replicate w 0:=by
 induction w with
 |zero=>rfl
 |succ w ih=>rw[fw,Nat.zero_div,ih,<-List.replicate_succ']
def pad (n w:Nat):List Nat:=List.replicate (w-(dg n).length) 0++dg n
theorem Uc {n w:Nat}(h:n<10^w):(dg n).length<=w:=by
 induction w generalizing n with
 |zero=>
  have:n=0:=by rw[Nat.pow_zero]at h;omega
  subst this;rw[Jt];exact Nat.le_refl _
 |succ w ih=>
  by_cases h0:n=0
  ·subst h0;rw[Jt];exact Nat.zero_le _
  ·rw[Wg (by omega),List.length_append]
   have:=ih (n:=n / 10) (by rw[Nat.pow_succ]at h;omega);simp only[List.length_cons,List.length_nil];omega
theorem Qw5 {n w:Nat}(h:n<10^w):pad n w=fw n w:=by
 induction w generalizing n with
 |zero=>
  have:n=0:=by rw[Nat.pow_zero]at h;omega
  subst this;simp[pad,Jt,fw]
 |succ w ih=>
  by_cases h0:n=0
  ·subst h0;rw[Qy3];simp[pad,Jt]
  ·have E:n / 10<10^w:=by rw[Nat.pow_succ]at h;omega
   have H:=ih E;rw[fw,<-H,pad,pad,Wg (by omega:0<n),List.length_append,List.length_cons,List.length_nil];rw[show w+1-((dg (n / 10)).length+(0+1))=w-(dg (n / 10)).length from by omega,List.append_assoc]
theorem Qyw {q r l:Nat}(hq:0<q)(hr:r<10^l):dg (q*10^l+r)=dg q++fw r l:=by
 induction l generalizing r with
 |zero=>
  have:r=0:=by rw[Nat.pow_zero]at hr;omega
  subst this;simp[fw]
 |succ l ih=>
  have h:0<10^l:=Nat.pow_pos (by omega);have H:0<q*10^l:=Nat.mul_pos hq h
  have e:q*10^(l+1)+r=10*(q*10^l)+r:=by rw[Nat.pow_succ,<-Nat.mul_assoc,Nat.mul_comm _ 10]
  have E:r / 10<10^l:=by rw[Nat.pow_succ]at hr;omega
  have e2:(10*(q*10^l)+r) / 10=q*10^l+r / 10:=by omega
  have e3:(10*(q*10^l)+r) % 10=r % 10:=by omega
  rw[e,Wg (by omega),e2,e3,ih E,fw,List.append_assoc]
theorem Fm {q r l w:Nat}(hq:0<q)(hr:r<10^l):pad (q*10^l+r) w=pad q (w-l)++fw r l:=by
 rw[pad,Qyw hq hr,List.length_append,Qm7,pad,<-List.append_assoc];rw[show w-((dg q).length+l)=w-l-(dg q).length from by omega]
def gq (U V:Nat):Nat:=min (BB-1) (U / V)
theorem Qwf {U V P u3 v2 ul vl:Nat}(hU:U=u3*P+ul)(hul:ul<P)(hV:V=v2*P+vl)(hvl:vl<P)(hlt:U<V*BB)(hv2:BB<=v2):
  U / V<=gq u3 v2/\gq u3 v2<=U / V+1:=by
 have O:0<P:=by omega
 have hB:=Xn
 have h:0<v2:=by omega
 have E:0<V:=by rw[hV];have:=Nat.mul_pos h O;omega
 constructor
 ·unfold gq
  refine Nat.le_min.2 ⟨?_,?_⟩
  ·have:U / V<BB:=(Nat.div_lt_iff_lt_mul E).2 (by rw[Nat.mul_comm];exact hlt)
   omega
  ·rw[Nat.le_div_iff_mul_le h]
   have K:U / V*V<=U:=Nat.div_mul_le_self U V
   have T:U / V*v2*P<=U / V*V:=by
    rw[Nat.mul_assoc];exact Nat.mul_le_mul_left _ (by rw[hV];omega)
   have H:U<(u3+1)*P:=by rw[hU,Nat.add_mul,Nat.one_mul];omega
   have J:U / V*v2*P<(u3+1)*P:=by omega
   have h5:=Nat.lt_of_mul_lt_mul_right J;omega
 ·have I:gq u3 v2<=u3 / v2:=Nat.min_le_right _ _
  have Z:gq u3 v2<=BB-1:=Nat.min_le_left _ _;generalize gq u3 v2=g at*
  cases g with
  |zero=>exact Nat.zero_le _
  |succ g=>
   have K:(g+1)*v2<=u3:=(Nat.le_div_iff_mul_le h).1 I;have T:(g+1)*v2*P<=u3*P:=Nat.mul_le_mul_right P K
   have H:g*V<=U:=by
    have e1:(g+1)*v2*P=g*(v2*P)+v2*P:=by rw[Nat.mul_assoc,Nat.add_mul,Nat.one_mul]
    have e2:g*V=g*(v2*P)+g*vl:=by rw[hV,Nat.mul_add]
    have J:g*vl<=v2*P:=Nat.mul_le_mul (by omega) (by omega);omega
   have:=(Nat.le_div_iff_mul_le E).2 H;omega
end NatP
namespace NatP
section guess
variable {W u0 v1 v0 d rest:Nat}
theorem Qqy:d*(v1*BB+v0)=d*v1*BB+d*v0:=by rw[Nat.mul_add,Nat.mul_assoc]
theorem Ea (h:d*v1+rest=W)(hd:d<BB)(ht:d*v0<=rest*BB+u0)(hg:gq (W*BB+u0) (v1*BB+v0)<=d)(hv:0<v1):gq (W*BB+u0) (v1*BB+v0)=d:=by
 have E:0<v1*BB+v0:=by have:=Nat.mul_pos hv Xn;omega
 refine Nat.le_antisymm hg ?_;unfold gq;refine Nat.le_min.2 ⟨by omega,?_⟩;rw[Nat.le_div_iff_mul_le E,Qqy,<-h,Nat.add_mul];omega
theorem Qgf (h:d*v1+rest=W)(ht:rest*BB+u0<d*v0)(hv:0<v1):gq (W*BB+u0) (v1*BB+v0)<=d-1:=by
 have E:0<v1*BB+v0:=by have:=Nat.mul_pos hv Xn;omega
 refine Nat.le_trans (Nat.min_le_right _ _) ?_
 have:(W*BB+u0) / (v1*BB+v0)<d:=by
  rw[Nat.div_lt_iff_lt_mul E,Qqy,<-h,Nat.add_mul];omega
 omega
theorem Qzy (h:d*v1+rest=W)(hd:d<BB)(hv0:v0<BB)(hr:BB<=rest)(hg:gq (W*BB+u0) (v1*BB+v0)<=d)(hv:0<v1):gq (W*BB+u0) (v1*BB+v0)=d:=by
 refine Ea h hd ?_ hg hv;have E:d*v0<=BB*BB:=Nat.mul_le_mul (by omega) (by omega);have H:BB*BB<=rest*BB:=Nat.mul_le_mul_right _ hr;omega
theorem Qyx (hu:u0<BB)(hv:0<v1):gq (W*BB+u0) (v1*BB+v0)<=W / v1:=by
 have H:0<v1*BB+v0:=by have:=Nat.mul_pos hv Xn;omega
 refine Nat.le_trans (Nat.min_le_right _ _) ?_
 have:(W*BB+u0) / (v1*BB+v0)<W / v1+1:=by
  rw[Nat.div_lt_iff_lt_mul H,Qqy]
  have h:W<(W / v1+1)*v1:=by
   have:=Nat.lt_div_mul_add (a:=W) hv;rw[Nat.add_mul,Nat.one_mul];omega
  have E:(W+1)*BB<=(W / v1+1)*v1*BB:=Nat.mul_le_mul_right _ h;rw[Nat.add_mul,Nat.one_mul]at E;omega
 omega
theorem Qm3:gq (W*BB+u0) (v1*BB+v0)<=BB-1:=Nat.min_le_left _ _
end guess
theorem Qvd {A A' P d Vi vi ui u' carry lent hi lo lo2 c lent':Nat}(hm:hi*BB+lo=d*vi)(ha:lo+carry=lo2+c*BB)(hs:ui+lent'*BB=u'+lo2+lent)
  (h:A+P*(carry+lent)=A'+d*Vi):A+P*ui+P*BB*(hi+c+lent')=A'+P*u'+d*(Vi+P*vi):=by
 have e1:ui+BB*(hi+c+lent')=u'+lent+carry+d*vi:=by
  rw[Nat.mul_add,Nat.mul_add,Nat.mul_comm BB hi,Nat.mul_comm BB c,Nat.mul_comm BB lent'];omega
 have e2:P*ui+P*BB*(hi+c+lent')=P*(ui+BB*(hi+c+lent')):=by rw[Nat.mul_add P ui (BB*(hi+c+lent')),Nat.mul_assoc]
 have e3:P*(u'+lent+carry+d*vi)=P*u'+P*(carry+lent)+d*(P*vi):=by
  rw[show u'+lent+carry+d*vi=u'+(carry+lent)+d*vi from by omega,Nat.mul_add,Nat.mul_add,<-Nat.mul_assoc,Nat.mul_comm P d,Nat.mul_assoc]
 have e4:d*(Vi+P*vi)=d*Vi+d*(P*vi):=Nat.mul_add _ _ _;rw[Nat.add_assoc,e2,e1,e3,e4];omega
theorem Qqk {d vi carry hi lo lo2 c:Nat}(hd:d<BB)(hv:vi<BB)(hc:carry<BB)(hm:hi*BB+lo=d*vi)(ha:lo+carry=lo2+c*BB):hi+c<BB:=by
 have E:d*vi<=(BB-1)*(BB-1):=Nat.mul_le_mul (by omega) (by omega)
 have H:(BB-1)*(BB-1)+(BB-1)=(BB-1)*BB:=by
  have:BB=BB-1+1:=by have:=Xn;omega
  conv=>rhs;rw[this]
  rw[Nat.add_sub_cancel,Nat.mul_add,Nat.mul_one]
 have h:(hi+c)*BB<=(BB-1)*BB:=by rw[Nat.add_mul];omega
 have I:=Nat.le_of_mul_le_mul_right h Xn;have:=Xn;omega
theorem Qyb {U V R g T lent:Nat}(h1:U / V<=g)(hV:0<V)(h:U+T*lent=R+g*V)(hl:lent=0):g=U / V/\R=U % V:=by
 subst hl;rw[Nat.mul_zero,Nat.add_zero]at h;have H:g<=U / V:=(Nat.le_div_iff_mul_le hV).2 (by omega);have E:g=U / V:=Nat.le_antisymm H h1;refine⟨E,?_⟩;have:=Nat.div_add_mod U V;rw[Nat.mul_comm,<-E]at this;omega
theorem Qjx {U V R g T:Nat}(h1:U / V<=g)(h2:g<=U / V+1)(hV:0<V)(hR:R<T)(h:U+T=R+g*V):g-1=U / V/\R+V=U % V+T:=by
 have H: ¬g=U / V:=fun e=>by
  have:=Nat.div_mul_le_self U V;rw[<-e]at this;omega
 have E:g=U / V+1:=by omega
 refine⟨by rw[E,Nat.add_sub_cancel],?_⟩;rw[E,Nat.add_mul,Nat.one_mul]at h;have:=Nat.div_add_mod U V;rw[Nat.mul_comm]at this;omega
end NatP
namespace NatP
theorem Qzf {W u1 v1 v0 d rest b:Nat}(h:d*v1+rest=W)(ht:d*v0<=rest*b+u1)(hg:(W*b+u1) / (v1*b+v0)<=d)(hv:0<v1*b+v0):(W*b+u1) / (v1*b+v0)=d:=by
 refine Nat.le_antisymm hg ?_;rw[Nat.le_div_iff_mul_le hv,Nat.mul_add,<-h,Nat.add_mul,<-Nat.mul_assoc];omega
theorem Qgr {W u1 v1 v0 d rest b:Nat}(h:d*v1+rest=W)(ht:rest*b+u1<d*v0)(hv:0<v1*b+v0):(W*b+u1) / (v1*b+v0)<=d-1:=by
 have:(W*b+u1) / (v1*b+v0)<d:=by
  rw[Nat.div_lt_iff_lt_mul hv,Nat.mul_add,<-h,Nat.add_mul,<-Nat.mul_assoc];omega
 omega
theorem Cp {W u1 v1 v0 b:Nat}(hu:u1<b)(hv:0<v1):(W*b+u1) / (v1*b+v0)<=W / v1:=by
 have h:0<b:=by omega
 have I:0<v1*b+v0:=by have:=Nat.mul_pos hv h;omega
 have:(W*b+u1) / (v1*b+v0)<W / v1+1:=by
  rw[Nat.div_lt_iff_lt_mul I,Nat.mul_add,<-Nat.mul_assoc]
  have E:W<(W / v1+1)*v1:=by
   have:=Nat.lt_div_mul_add (a:=W) hv;rw[Nat.add_mul,Nat.one_mul];omega
  have H:(W+1)*b<=(W / v1+1)*v1*b:=Nat.mul_le_mul_right _ E;rw[Nat.add_mul,Nat.one_mul]at H;omega
 omega
theorem Qxk {W u1 V b:Nat}(hW:W<V)(hu:u1<b):(W*b+u1) / V<b:=by
 rw[Nat.div_lt_iff_lt_mul (by omega)];have:(W+1)*b<=V*b:=Nat.mul_le_mul_right _ hW;rw[Nat.add_mul,Nat.one_mul,Nat.mul_comm V b]at this;omega
theorem Qxx {N V b W u1 u0:Nat}(hb:0<b)(hV:0<V)(hN:N=(W*b+u1)*b+u0):
  N / V=(W*b+u1) / V*b+((W*b+u1) % V*b+u0) / V/\N % V=((W*b+u1) % V*b+u0) % V:=by
 have h:=Nat.div_add_mod (W*b+u1) V;generalize (W*b+u1) / V=q at*;generalize (W*b+u1) % V=r at*
 have e:N=V*(q*b)+(r*b+u0):=by rw[hN,<-h,Nat.add_mul,Nat.mul_assoc,Nat.add_assoc]
 rw[e];exact⟨Nat.mul_add_div hV _ _,Nat.mul_add_mod _ _ _⟩
theorem Cw {hi lo P S T:Nat}(hS:0<S)(hT:T=P*S):(hi*T+lo)*S=(hi*S+lo / P)*T+lo*S % T:=by
 have E:lo*S / T=lo / P:=by rw[hT];exact Nat.mul_div_mul_right _ _ hS
 have h:=Nat.div_add_mod (lo*S) T;rw[E,Nat.mul_comm T]at h;rw[Nat.add_mul,Nat.add_mul,Nat.add_assoc,h,Nat.mul_right_comm]
theorem M8 {N y S:Nat}(hS:0<S):N / y=N*S / (y*S)/\N % y=N*S % (y*S) / S:=by
 refine⟨(Nat.mul_div_mul_right _ _ hS).symm,?_⟩;rw[Nat.mul_mod_mul_right,Nat.mul_div_cancel _ hS]
theorem Qkb {hi lo y P S T:Nat}(hP:0<P)(hT:T=P*S)(hh:hi<y)(hlo:lo<T):hi*S+lo / P<y*S:=by
 have E:lo / P<S:=by rw[Nat.div_lt_iff_lt_mul hP,Nat.mul_comm,<-hT];exact hlo
 have h:(hi+1)*S<=y*S:=Nat.mul_le_mul_right _ hh;rw[Nat.add_mul,Nat.one_mul]at h;omega
end NatP
