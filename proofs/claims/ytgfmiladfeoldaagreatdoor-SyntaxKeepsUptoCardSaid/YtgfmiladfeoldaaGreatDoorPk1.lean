import Derived.WalkSpells
import Derived.WalkLawsBesides
import Derived.Test.YtgfmiladfeoldaaGreatDoorProg
import Derived.Handy
import Derived.BigQuiet
import Derived.Laws.CopyOwn
import Derived.Deep.OwnRows
import Derived.Shelf.Strings.OnBuilder
import Derived.Shelf.Small.Utf8
import Derived.Shelf.Small.Bits
import Derived.Shelf.Strconv.Itoa3
import Derived.Shelf.Strings.Shaped
import Derived.Shelf.Strings.Prefix
import Derived.Shelf.Strings.Runes
import Derived.Shelf.Bits.Mul64
import Derived.Shelf.Strings.BuilderCap
import Derived.Shelf.Slices.Empties2
set_option linter.unusedSimpArgs false
set_option linter.unusedVariables false
set_option maxRecDepth 100000
set_option maxHeartbeats 16000000
theorem zq{p:Prop}(h:p):Go.RowKit.Hid p:=h
theorem Go.RowKit.Hid.o{p:Prop}(h:Go.RowKit.Hid p):p:=h
theorem xq{α:Type _}(a:α):∃b,b=a:=⟨a,rfl⟩
theorem xr{α:Type _}(a:α):∃b,a=b:=⟨a,rfl⟩
namespace NatP
def BB:Nat:=18446744073709551616
theorem Xf:0<BB:=by unfold BB;omega
def val:List Nat->Nat
 | []=>0
 |x::l=>x+BB*val l
def ok (l:List Nat):Prop:=∀x∈l,x<BB
theorem Qx1:ok []:=fun x h=>by cases h
theorem Qgf {x:Nat}{l:List Nat}(hx:x<BB)(h:ok l):ok (x::l):=fun y E=>by
 rcases List.mem_cons.1 E with rfl|E
 ·exact hx
 ·exact h y E
theorem Zd {l:List Nat}(h:ok l)(n:Nat):ok (l.take n):=fun x hx=>h x (List.mem_of_mem_take hx)
theorem Wx {l:List Nat}(h:ok l)(n:Nat):ok (l.drop n):=fun x hx=>h x (List.mem_of_mem_drop hx)
theorem F9 {a b:List Nat}(ha:ok a)(hb:ok b):ok (a++b):=fun x hx=>by
 rcases List.mem_append.1 hx with h|h
 ·exact ha x h
 ·exact hb x h
theorem Qhp {l:List Nat}(h:ok l)(i:Nat){x:Nat}(hx:x<BB):ok (l.set i x):=fun y hy=>by
 rcases List.mem_or_eq_of_mem_set hy with E|rfl
 ·exact h y E
 ·exact hx
theorem Pb (n:Nat):ok (List.replicate n 0):=fun x hx=>by
 rw[List.eq_of_mem_replicate hx];exact Xf
theorem Wa:∀(a b:List Nat),val (a++b)=val a+BB^a.length*val b
 | [],b=>by simp[val]
 |x::a,b=>by
  simp only[List.cons_append,val,List.length_cons,Nat.pow_succ,Wa a b];rw[Nat.mul_add,Nat.mul_comm (BB^a.length) BB,Nat.mul_assoc,Nat.add_assoc]
theorem Zk (a:List Nat)(x:Nat):val (a++[x])=val a+BB^a.length*x:=by
 rw[Wa];simp[val]
theorem X1 {l:List Nat}{i:Nat}(h:i<l.length):val (l.take (i+1))=val (l.take i)+BB^i*l[i]:=by
 rw[List.take_succ_eq_append_getElem h,Zk,List.length_take,Nat.min_eq_left (by omega)]
theorem Xm (l:List Nat)(i:Nat)(h:i<=l.length):val l=val (l.take i)+BB^i*val (l.drop i):=by
 have:=Wa (l.take i) (l.drop i);rw[List.take_append_drop,List.length_take,Nat.min_eq_left h]at this;exact this
theorem Jz (n:Nat):val (List.replicate n 0)=0:=by
 induction n with
 |zero=>rfl
 |succ n ih=>rw[List.replicate_succ];simp[val,ih]
theorem Yk:∀{a:List Nat},ok a->val a<BB^a.length
 | [],_=>by simp[val]
 |x::a,h=>by
  have h1:=h x (by simp);have E:=Yk (a:=a) fun d hd=>h d (by simp[hd]);simp only[val,List.length_cons,Nat.pow_succ]
  have H:BB*val a+BB<=BB*BB^a.length:=by
   rw[<-Nat.mul_succ];exact Nat.mul_le_mul_left _ E
  rw[Nat.mul_comm (BB^a.length)];omega
def Qy (l:List Nat):List Nat:=(l.reverse.dropWhile (· ==0)).reverse
theorem Yd (l:List Nat):Qy (l++[0])=Qy l:=by simp[Qy]
theorem Yp (l:List Nat)(d:Nat)(h:d≠0):Qy (l++[d])=l++[d]:=by simp[Qy,h]
theorem Qkv:Qy []=[]:=rfl
theorem U0 {P:List Nat->Prop}(h0:P [])(h1:∀l d,P l->P (l++[d]))(l:List Nat):P l:=by
 have:∀m:List Nat,P m.reverse:=by
  intro m
  induction m with
  |nil=>exact h0
  |cons d m ih=>rw[List.reverse_cons];exact h1 _ _ ih
 have h:=this l.reverse
 rwa [List.reverse_reverse]at h
theorem Yg:∀l:List Nat,Qy l=l.take (Qy l).length/\(Qy l).length<=l.length:=by
 apply U0
 ·exact⟨rfl,Nat.le_refl _⟩
 ·intro l d ih
  by_cases h:d=0
  ·subst h
   rw[Yd];refine⟨?_,by rw[List.length_append];omega⟩;rw[List.take_append_of_le_length ih.2];exact ih.1
  ·rw[Yp _ _ h]
   exact⟨by rw[List.take_length],Nat.le_refl _⟩
theorem Qu:∀l:List Nat,val (Qy l)=val l:=by
 apply U0
 ·rfl
 ·intro l d ih
  by_cases h:d=0
  ·subst h
   rw[Yd,ih,Zk];simp
  ·rw[Yp _ _ h]
theorem Qr (l:List Nat):(Qy l).length<=l.length:=(Yg l).2
theorem J5 {l:List Nat}(h:ok l):ok (Qy l):=by rw[(Yg l).1];exact Zd h _
theorem Yc:∀(l:List Nat) (n:Nat),val l<BB^n->(Qy l).length<=n:=by
 apply U0 (P:=fun l=> ∀n,val l<BB^n->(Qy l).length<=n)
 ·intro n _;exact Nat.zero_le _
 ·intro l d ih n h
  by_cases hd:d=0
  ·subst hd
   rw[Yd];rw[Zk]at h;exact ih n (by simpa using h)
  ·rw[Yp _ _ hd,List.length_append]
   rw[Zk]at h;apply Classical.byContradiction;intro E;simp only[List.length_cons,List.length_nil,Nat.zero_add,Nat.not_le]at E;have H:BB^n<=BB^l.length:=Nat.pow_le_pow_right Xf (by omega);have I:BB^l.length*1<=BB^l.length*d:=Nat.mul_le_mul_left _ (by omega);omega
theorem Vf:∀(l:List Nat) (n:Nat),(Qy l).length=n+1-> ∃d,(Qy l)[n]?=some d/\d≠0:=by
 apply U0 (P:=fun l=> ∀n,(Qy l).length=n+1-> ∃d,(Qy l)[n]?=some d/\d≠0)
 ·intro n h;simp[Qkv]at h
 ·intro l d ih n h
  by_cases hd:d=0
  ·subst hd
   rw[Yd]at h ⊢;exact ih n h
  ·rw[Yp _ _ hd]at h ⊢
   rw[List.length_append]at h;simp only[List.length_cons,List.length_nil]at h
   obtain rfl:n=l.length:=by omega
   exact⟨d,by simp,hd⟩
theorem strip_step {l:List Nat}{n:Nat}(hn:n<=l.length)(h:Qy (l.take n)=Qy l)(h0:∀m,n=m+1->l[m]?=some 0):n=0\/Qy (l.take (n-1))=Qy l:=by
 cases n with
 |zero=>exact .inl rfl
 |succ m=>
  right;have E:=h0 m rfl
  have H:m<l.length:=by omega
  have I:l[m]=0:=by rw[List.getElem?_eq_getElem H]at E;exact Option.some.inj E
  rw[Nat.add_sub_cancel];rw[List.take_succ_eq_append_getElem H,I,Yd]at h;exact h
theorem Ts {l:List Nat}{n:Nat}(hn:n<=l.length)(h:Qy (l.take n)=Qy l)(h0:n=0\/ ∃m x,n=m+1/\l[m]?=some x/\x≠0):(Qy l).length=n:=by
 rcases h0 with rfl|⟨m,x,rfl,E,I⟩
 ·rw[<-h];rfl
 ·have H:m<l.length:=by omega
  have J:l[m]=x:=by rw[List.getElem?_eq_getElem H]at E;exact Option.some.inj E
  rw[List.take_succ_eq_append_getElem H,J,Yp _ _ I]at h;rw[<-h,List.length_append,List.length_take,Nat.min_eq_left (by omega)];rfl
theorem Fp {P X Y Z x y c s c':Nat}(h:Z+P*c=X+Y)(hs:s+BB*c'=x+y+c):(Z+P*s)+P*BB*c'=(X+P*x)+(Y+P*y):=by
 have E:P*s+P*(BB*c')=P*x+P*y+P*c:=by rw[<-Nat.mul_add,hs,Nat.mul_add,Nat.mul_add]
 rw[Nat.mul_assoc];omega
theorem Pl {l:List Nat}{i o:Nat}(x:Nat)(h:o<=i):(l.set i x).take o=l.take o:=by
 rw[List.take_set,List.set_eq_of_length_le];rw[List.length_take];omega
theorem Sc {l:List Nat}{i:Nat}(x:Nat):(l.set i x).drop (i+1)=l.drop (i+1):=by
 rw[List.drop_set_of_lt (by omega)]
theorem Rv {l:List Nat}{o i:Nat}(x:Nat)(h:o+i<l.length):((l.set (o+i) x).drop o).take (i+1)=(l.drop o).take i++[x]:=by
 have E:(l.set (o+i) x).drop o=(l.drop o).set i x:=by
  rw[List.drop_set];rw[if_neg (by omega),Nat.add_sub_cancel_left]
 rw[E,List.take_succ_eq_append_getElem (by rw[List.length_set,List.length_drop];omega),Pl x (Nat.le_refl i)];simp
end NatP
namespace NatP
theorem Qj0:∀(l:List Nat) (i s:Nat) (h:i<l.length),val (l.set i s)+BB^i*l[i]=val l+BB^i*s
 | [],i,s,h=>by simp at h
 |x::l,0,s,h=>by simp[val];omega
 |x::l,i+1,s,h=>by
  have ih:=Qj0 l i s (by simpa using h);simp only[List.set_cons_succ,val,List.getElem_cons_succ,Nat.pow_succ]
  have e:∀q,BB^i*BB*q=BB*(BB^i*q):=fun q=>by rw[Nat.mul_comm (BB^i) BB,Nat.mul_assoc]
  rw[e,e]
  have:BB*val (l.set i s)+BB*(BB^i*l[i]'(by simpa using h))=BB*val l+BB*(BB^i*s):=by rw[<-Nat.mul_add,ih,Nat.mul_add]
  omega
theorem Qqg {l:List Nat}{i s z:Nat}(h:l[i]?=some z):val (l.set i s)+BB^i*z=val l+BB^i*s:=by
 obtain⟨E,H⟩:=List.getElem?_eq_some_iff.1 h;have:=Qj0 l i s E;rw[H]at this;exact this
theorem Qkx {x y z cc hi lo s1 c1 h2 s2 c2:Nat}(hx:x<BB)(hy:y<BB)(hz:z<BB)(hc:cc<BB)(hp:hi*BB+lo=x*y)(h1:s1+BB*c1=lo+cc)(h3:h2=hi+c1)(h4:s2+BB*c2=z+s1):
  h2<BB/\s2+BB*(h2+c2)=z+x*y+cc/\h2+c2<BB:=by
 have h:x*y<=18446744073709551615*18446744073709551615:=Nat.mul_le_mul (by unfold BB at hx;omega) (by unfold BB at hy;omega);unfold BB at*;refine⟨by omega,by omega,by omega⟩
def InSt (M0 ys:List Nat)(k x j cc:Nat)(M:List Nat):Prop:=
 M.length=M0.length/\(∀q,k+ys.length<=q->M[q]?=M0[q]?)/\val M+BB^(k+j)*cc=val M0+BB^k*(x*val (ys.take j))
theorem InSt.start (M0 ys:List Nat)(k x:Nat):InSt M0 ys k x 0 0 M0:=⟨rfl,fun _ _=>rfl,by simp[val]⟩
theorem InSt.step {M0 ys M:List Nat}{k x j cc z y s cc':Nat}(h:InSt M0 ys k x j cc M)(hz:M[k+j]?=some z)(hy:ys[j]?=some y)(hs:s+BB*cc'=z+x*y+cc):
  InSt M0 ys k x (j+1) cc' (M.set (k+j) s):=by
 obtain⟨I,J,K⟩:=h;obtain⟨E,H⟩:=List.getElem?_eq_some_iff.1 hy;refine⟨by rw[List.length_set,I],fun q hq=> ?_,?_⟩
 ·rw[List.getElem?_set_ne (by omega)];exact J q hq
 ·have e1:=Qqg (s:=s) hz
  have e2:=X1 E;rw[H]at e2;rw[e2,<-Nat.add_assoc,Nat.pow_succ]
  have e3:BB^k*(x*(val (ys.take j)+BB^j*y))=BB^k*(x*val (ys.take j))+BB^(k+j)*(x*y):=by
   rw[Nat.mul_add,Nat.mul_add,Nat.pow_add];congr 1;rw[Nat.mul_left_comm x,Nat.mul_assoc]
  rw[e3];generalize BB^(k+j)=P at*
  have e4:P*s+P*(BB*cc')=P*z+P*(x*y)+P*cc:=by rw[<-Nat.mul_add,hs,Nat.mul_add,Nat.mul_add]
  rw[Nat.mul_assoc];omega
def W5 (xs ys:List Nat)(k:Nat)(M:List Nat):Prop:=
 M.length=xs.length+ys.length/\(∀q,k+ys.length<=q->q<M.length->M[q]?=some 0)/\val M=val (xs.take k)*val ys
theorem W5.start (xs ys:List Nat):W5 xs ys 0 (List.replicate (xs.length+ys.length) 0):=
 ⟨List.length_replicate,fun q _ hq=>by rw[List.length_replicate]at hq;simp[hq],by rw[Jz];simp[val]⟩
theorem W5.zero {xs ys M:List Nat}{k:Nat}(h:W5 xs ys k M)(hx:xs[k]?=some 0):W5 xs ys (k+1) M:=by
 obtain⟨E,H,I⟩:=h;obtain⟨J,K⟩:=List.getElem?_eq_some_iff.1 hx;refine⟨E,fun q hq hl=>H q (by omega) hl,?_⟩;rw[X1 J,K,I];simp
theorem W5.row {xs ys M0 M:List Nat}{k x cc:Nat}(h:W5 xs ys k M0)(hx:xs[k]?=some x)(hi:InSt M0 ys k x ys.length cc M):W5 xs ys (k+1) (M.set (k+ys.length) cc)/\M[k+ys.length]?=some 0:=by
 obtain⟨I,E,J⟩:=h;obtain⟨i1,i2,i3⟩:=hi;obtain⟨K,O⟩:=List.getElem?_eq_some_iff.1 hx
 have H:M[k+ys.length]?=some 0:=by rw[i2 _ (Nat.le_refl _)];exact E _ (Nat.le_refl _) (by omega)
 refine⟨⟨by rw[List.length_set,i1,I],fun q hq hl=> ?_,?_⟩,H⟩
 ·rw[List.getElem?_set_ne (by omega),i2 q (by omega)]
  rw[List.length_set]at hl;exact E q (by omega) (by omega)
 ·have e1:=Qqg (s:=cc) H
  rw[List.take_length]at i3;rw[X1 K,O,Nat.add_mul,<-J];have e2:BB^k*x*val ys=BB^k*(x*val ys):=Nat.mul_assoc _ _ _;rw[e2,<-i3];simp only[Nat.mul_zero,Nat.add_zero]at e1;omega
theorem W5.done {xs ys M:List Nat}(h:W5 xs ys xs.length M):M.length=xs.length+ys.length/\val M=val xs*val ys:=by
 obtain⟨H,_,E⟩:=h;rw[List.take_length]at E;exact⟨H,E⟩
theorem Sf {V W P c:Nat}(h:V+P*c=W)(hW:W<P):c=0/\V=W:=by
 cases c with
 |zero=>exact⟨rfl,by simpa using h⟩
 |succ c=>rw[Nat.mul_succ]at h;omega
theorem Qhe:2<=BB:=by unfold BB;omega
theorem Qkb {a b m:Nat}(ha:a<BB^m)(hb:b<BB^m):a+b<BB^(m+1):=by
 rw[Nat.pow_succ];have h:=Nat.mul_le_mul_left (BB^m) Qhe;generalize BB^m*BB=Q at*;generalize BB^m=P at*;omega
end NatP
namespace NatP
theorem Qxd (A0 A1 B0 B1:Nat):(A0+A1)*(B0+B1)=A0*B0+A1*B1+(A0*B1+A1*B0):=by
 rw[Nat.add_mul,Nat.mul_add,Nat.mul_add];omega
theorem Qqh (A0 A1 B0 B1 P:Nat):(A0+P*A1)*(B0+P*B1)=A0*B0+P*P*(A1*B1)+P*(A0*B1+A1*B0):=by
 rw[Nat.add_mul,Nat.mul_add,Nat.mul_add]
 have e1:A0*(P*B1)=P*(A0*B1):=by rw[Nat.mul_left_comm]
 have e2:P*A1*B0=P*(A1*B0):=Nat.mul_assoc _ _ _
 have e3:P*A1*(P*B1)=P*P*(A1*B1):=by rw[Nat.mul_assoc,Nat.mul_assoc,Nat.mul_left_comm A1]
 rw[e1,e2,e3,Nat.mul_add];omega
theorem Jh {xs ys:List Nat}(hx:ok xs)(hy:ok ys):val xs*val ys<BB^(xs.length+ys.length):=by
 rw[Nat.pow_add];exact Nat.mul_lt_mul_of_lt_of_le (Yk hx) (Nat.le_of_lt (Yk hy)) (Nat.pow_pos Xf)
theorem Jt (l:List Nat){n:Nat}(h:val l<BB^n):(Qy l).length<=n:=Yc l n h
structure Half (xs ys:List Nat) (h:Nat):Prop where
 okx:ok xs
 oky:ok ys
 hx:h<=xs.length
 hy:h<=ys.length
theorem Half.vx {xs ys:List Nat}{h:Nat}(H:Half xs ys h):val xs=val (xs.take h)+BB^h*val (xs.drop h):=Xm xs h H.hx
theorem Half.vy {xs ys:List Nat}{h:Nat}(H:Half xs ys h):val ys=val (ys.take h)+BB^h*val (ys.drop h):=Xm ys h H.hy
theorem Half.low_len {xs ys L:List Nat}{h:Nat}(H:Half xs ys h)(hL:val L=val (xs.take h)*val (ys.take h)):(Qy L).length<=2*h:=by
 refine Jt L ?_;have:=Jh (Zd H.okx h) (Zd H.oky h);rw[List.length_take,List.length_take,Nat.min_eq_left H.hx,Nat.min_eq_left H.hy]at this;rw[hL,show 2*h=h+h from by omega];exact this
theorem Half.high_len {xs ys L:List Nat}{h:Nat}(H:Half xs ys h)(hL:val L=val (xs.drop h)*val (ys.drop h)):(Qy L).length<=xs.length+ys.length-2*h:=by
 refine Jt L ?_;have:=Jh (Wx H.okx h) (Wx H.oky h);rw[List.length_drop,List.length_drop]at this;have E:=H.hx;have I:=H.hy;rw[hL,show xs.length+ys.length-2*h=xs.length-h+(ys.length-h) from by omega];exact this
theorem Half.sub1 {xs ys Lm Ll:List Nat}{h:Nat}(hm:ok Lm)(hv:val Lm=(val (xs.take h)+val (xs.drop h))*(val (ys.take h)+val (ys.drop h)))(hl:val Ll=val (xs.take h)*val (ys.take h)):
  val (Qy Ll)<=val Lm/\(Qy Ll).length<=Lm.length:=by
 have E:val Ll<=val Lm:=by rw[hv,hl,Qxd];omega
 exact⟨by rw[Qu];exact E,Jt Ll (Nat.lt_of_le_of_lt E (Yk hm))⟩
theorem Half.sub2 {xs ys Lm Ll Lh M1:List Nat}{h:Nat}(hm:ok M1)(hv:val Lm=(val (xs.take h)+val (xs.drop h))*(val (ys.take h)+val (ys.drop h)))(hl:val Ll=val (xs.take h)*val (ys.take h))(hh:val Lh=val (xs.drop h)*val (ys.drop h))
  (h1:val M1+val (Qy Ll)=val Lm):val (Qy Lh)<=val M1/\(Qy Lh).length<=M1.length:=by
 have E:val Lh<=val M1:=by
  rw[Qu,hv,hl,Qxd]at h1;rw[hh];omega
 exact⟨by rw[Qu];exact E,Jt Lh (Nat.lt_of_le_of_lt E (Yk hm))⟩
theorem Half.mid {xs ys Lm Ll Lh M1 M2:List Nat}{h:Nat}(hv:val Lm=(val (xs.take h)+val (xs.drop h))*(val (ys.take h)+val (ys.drop h)))(hl:val Ll=val (xs.take h)*val (ys.take h))(hh:val Lh=val (xs.drop h)*val (ys.drop h))
  (h1:val M1+val (Qy Ll)=val Lm) (h2:val M2+val (Qy Lh)=val M1):val M2=val (xs.take h)*val (ys.drop h)+val (xs.drop h)*val (ys.take h):=by
 rw[Qu,hv,hl,Qxd]at h1;rw[Qu,hh]at h2;omega
theorem Half.mid_len {xs ys M2:List Nat}{h:Nat}(H:Half xs ys h)(hv:val M2=val (xs.take h)*val (ys.drop h)+val (xs.drop h)*val (ys.take h)):(Qy M2).length<=xs.length+ys.length-h:=by
 refine Jt M2 ?_;have E:=Jh H.okx H.oky;rw[H.vx,H.vy,Qqh,<-hv]at E;have J:=H.hx
 have I:BB^(xs.length+ys.length)=BB^h*BB^(xs.length+ys.length-h):=by rw[<-Nat.pow_add];congr 1;omega
 rw[I]at E;exact Nat.lt_of_mul_lt_mul_left (a:=BB^h) (by omega)
theorem Half.add1 {xs ys Ll Lh M:List Nat}{h N:Nat}(H:Half xs ys h)(hN:N=xs.length+ys.length)(hl:val Ll=val (xs.take h)*val (ys.take h))(hh:val Lh=val (xs.drop h)*val (ys.drop h)){Z:List Nat}(hZ:Z=Qy Ll++List.replicate (N-(Qy Ll).length) 0)
  (hM:M.length=Z.length) (ht:M.take (2*h)=Z.take (2*h)) (hc:∃c,val (M.drop (2*h))+BB^(Z.length-2*h)*c=val (Z.drop (2*h))+val (Qy Lh)):
  M.length=N/\val M=val (xs.take h)*val (ys.take h)+BB^h*BB^h*(val (xs.drop h)*val (ys.drop h)):=by
 have U:=H.hx;have h2:=H.hy;have K:=H.low_len hl
 have I:Z.length=N:=by rw[hZ,List.length_append,List.length_replicate];omega
 have E:val (Z.drop (2*h))=0:=by
  rw[hZ,List.drop_append,List.drop_eq_nil_of_le K,List.nil_append,List.drop_replicate,Jz]
 have J:val (Z.take (2*h))=val (xs.take h)*val (ys.take h):=by
  have e:=Xm Z (2*h) (by omega);rw[E]at e
  have e2:val Z=val (Qy Ll):=by rw[hZ,Wa,Jz];simp
  rw[e2,Qu,hl]at e
  simpa using e.symm
 obtain⟨c,hc⟩:=hc;rw[E,Nat.zero_add,Qu,hh,I]at hc
 have O:val (xs.drop h)*val (ys.drop h)<BB^(N-2*h):=by
  have:=Jh (Wx H.okx h) (Wx H.oky h);rw[List.length_drop,List.length_drop]at this;rw[show N-2*h=xs.length-h+(ys.length-h) from by omega];exact this
 obtain⟨_,T⟩:=Sf hc O;refine⟨by rw[hM,I],?_⟩;rw[Xm M (2*h) (by omega),ht,J,T,<-Nat.pow_add,show h+h=2*h from by omega]
theorem Half.add2 {xs ys M2 Lm Z:List Nat}{h:Nat}(H:Half xs ys h)(hZ:Z.length=xs.length+ys.length)(hv:val Z=val (xs.take h)*val (ys.take h)+BB^h*BB^h*(val (xs.drop h)*val (ys.drop h)))
  (hm:val Lm=val (xs.take h)*val (ys.drop h)+val (xs.drop h)*val (ys.take h))
  (hM:M2.length=Z.length) (ht:M2.take h=Z.take h) (hc:∃c,val (M2.drop h)+BB^(Z.length-h)*c=val (Z.drop h)+val (Qy Lm)):
  M2.length=xs.length+ys.length/\val M2=val xs*val ys:=by
 have E:=H.hx;refine⟨by rw[hM,hZ],?_⟩;obtain⟨c,hc⟩:=hc;have e1:=Xm M2 h (by omega);have e2:=Xm Z h (by omega);rw[ht]at e1
 have e3:val M2+BB^Z.length*c=val Z+BB^h*val (Qy Lm):=by
  have:BB^Z.length=BB^h*BB^(Z.length-h):=by rw[<-Nat.pow_add];congr 1;omega
  rw[this,Nat.mul_assoc,e1,e2,Nat.add_assoc,<-Nat.mul_add,hc,Nat.mul_add,Nat.add_assoc]
 have e4:val Z+BB^h*val (Qy Lm)=val xs*val ys:=by
  rw[Qu,hm,hv,H.vx,H.vy,Qqh]
 rw[e4,hZ]at e3;exact(Sf e3 (Jh H.okx H.oky)).2
def PiSt (xs ys:List Nat)(i:Nat)(M:List Nat):Prop:=M.length=xs.length+ys.length/\val M=val (xs.take i)*val ys
theorem PiSt.start (xs ys:List Nat):PiSt xs ys 0 (List.replicate (xs.length+ys.length) 0):=⟨List.length_replicate,by rw[Jz];simp[val]⟩
theorem PiSt.step {xs ys L M P:List Nat}{i e:Nat}(hx:ok xs)(hy:ok ys)(h:PiSt xs ys i L)(hie:i<=e)(he:e<=xs.length)(hP:val P=val ((xs.drop i).take (e-i))*val ys)
  (hM:M.length=L.length) (ht:M.take i=L.take i) (hc:∃c,val (M.drop i)+BB^(L.length-i)*c=val (L.drop i)+val (Qy P)):PiSt xs ys e M:=by
 obtain⟨E,H⟩:=h;refine⟨by rw[hM,E],?_⟩;obtain⟨c,hc⟩:=hc;have e1:=Xm M i (by omega);have e2:=Xm L i (by omega);rw[ht]at e1
 have e3:val M+BB^L.length*c=val L+BB^i*val (Qy P):=by
  have:BB^L.length=BB^i*BB^(L.length-i):=by rw[<-Nat.pow_add];congr 1;omega
  rw[this,Nat.mul_assoc,e1,e2,Nat.add_assoc,<-Nat.mul_add,hc,Nat.mul_add,Nat.add_assoc]
 have e4:val L+BB^i*val (Qy P)=val (xs.take e)*val ys:=by
  have e5:=Xm (xs.take e) i (by rw[List.length_take];omega);rw[List.take_take,Nat.min_eq_left hie,List.drop_take]at e5;rw[Qu,hP,H,e5,Nat.add_mul,Nat.mul_assoc]
 rw[e4,E]at e3;refine(Sf e3 ?_).2;have I:=Jh (Zd hx e) hy;refine Nat.lt_of_lt_of_le I (Nat.pow_le_pow_right Xf ?_);rw[List.length_take];omega
theorem PiSt.done {xs ys M:List Nat}(h:PiSt xs ys xs.length M):M.length=xs.length+ys.length/\val M=val xs*val ys:=by
 obtain⟨H,E⟩:=h;rw[List.take_length]at E;exact⟨H,E⟩
theorem Ek {xs ys P:List Nat}{i e:Nat}(hx:ok xs)(hy:ok ys)(he:e<=xs.length)(hP:val P=val ((xs.drop i).take (e-i))*val ys)(hie:i<=e):(Qy P).length<=xs.length+ys.length-i:=by
 refine Jt P ?_;have:=Jh (Zd (Wx hx i) (e-i)) hy;rw[hP];refine Nat.lt_of_lt_of_le this (Nat.pow_le_pow_right Xf ?_);rw[List.length_take,List.length_drop];omega
end NatP
namespace NatP
def decV (ds:List Nat):Nat:=ds.foldl (fun a x=>a*10+x) 0
theorem P9:∀(b:List Nat) (a:Nat),b.foldl (fun a x=>a*10+x) a=a*10^b.length+decV b
 | [],a=>by simp[decV]
 |x::b,a=>by
  have h1:=P9 b (a*10+x);have h:=P9 b (0*10+x);have e:decV (x::b)=b.foldl (fun a x=>a*10+x) (0*10+x):=rfl;rw[List.foldl_cons,h1,e,h,List.length_cons,Nat.pow_succ,Nat.zero_mul,Nat.zero_add,Nat.add_mul,Nat.mul_assoc,Nat.mul_comm 10,Nat.add_assoc]
theorem Sw (a b:List Nat):decV (a++b)=decV a*10^b.length+decV b:=by
 unfold decV;rw[List.foldl_append];exact P9 b _
theorem P6 (a:List Nat)(x:Nat):decV (a++[x])=decV a*10+x:=by
 rw[Sw];simp[decV]
theorem U8 {ds:List Nat}(h:∀x∈ds,x<10):decV ds<10^ds.length:=by
 refine U0 (P:=fun ds=>(∀x∈ds,x<10)->decV ds<10^ds.length) (fun _=>by simp[decV]) (fun l d ih h=> ?_) ds h;have E:=ih fun x hx=>h x (by simp[hx]);have H:=h d (by simp);rw[P6,List.length_append,List.length_cons,List.length_nil,Nat.pow_succ];omega
theorem Ke {ds:List Nat}{i x:Nat}(h:ds[i]?=some x):decV (ds.take (i+1))=decV (ds.take i)*10+x:=by
 rw[List.take_add_one,h];exact P6 _ _
theorem Qhi (n:Nat):10^n<=BB^n:=Nat.pow_le_pow_left (by unfold BB;omega) n
theorem Cm {n:Nat}(h:n<=19):10^n<BB:=by
 have E:10^n<=10^19:=Nat.pow_le_pow_right (by omega) h
 have H:(10:Nat)^19<BB:=by unfold BB;decide
 omega
theorem So {l:List Nat}{n:Nat}(hs:Qy l=l)(h:val l<10^n):l.length<=n:=by
 have:=Yc l n (Nat.lt_of_lt_of_le h (Qhi n));rw[hs]at this;exact this
theorem K7 {l:List Nat}{n:Nat}(hs:Qy l=l)(h:val l<=10^n):l.length<=n+1:=by
 refine So hs (Nat.lt_of_le_of_lt h ?_);rw[Nat.pow_succ];have:0<10^n:=Nat.pow_pos (by omega);omega
theorem Qq5 (ds:List Nat)(i:Nat)(h:i<=ds.length):decV ds=decV (ds.take i)*10^(ds.length-i)+decV (ds.drop i):=by
 have:=Sw (ds.take i) (ds.drop i);rw[List.take_append_drop,List.length_drop]at this;exact this
def digVal (c:Nat):Nat:=if 48<=c/\c<=57 then c-48 else if 97<=c/\c<=122 then c-87 else if 65<=c/\c<=90 then c-55 else 36
end NatP
namespace NatP
def dg (n:Nat):List Nat:=if n=0 then [] else dg (n / 10)++[n % 10]
termination_by n
decreasing_by omega
theorem Wq:dg 0=[]:=by rw[dg];rfl
theorem Sy {n:Nat}(h:0<n):dg n=dg (n / 10)++[n % 10]:=by rw[dg,if_neg (by omega)]
theorem Qwp:∀n,∀x∈dg n,x<10:=by
 intro n
 induction n using Nat.strongRecOn with
 |ind n ih=>
  intro x E;by_cases h:n=0
  ·subst h;rw[Wq]at E;cases E
  ·rw[Sy (by omega)]at E
   rcases List.mem_append.1 E with E|E
   ·exact ih (n / 10) (by omega) x E
   ·simp at E;omega
theorem Qps (n:Nat):decV (dg n)=n:=by
 induction n using Nat.strongRecOn with
 |ind n ih=>
  by_cases h:n=0
  ·subst h;rw[Wq];rfl
  ·rw[Sy (by omega),P6,ih (n / 10) (by omega)];omega
def fw (n:Nat):Nat->List Nat
 |0=>[]
 |w+1=>fw (n / 10) w++[n % 10]
theorem Qhq (n:Nat):∀w,(fw n w).length=w:=by
 intro w
 induction w generalizing n with
 |zero=>rfl
 |succ w ih=>rw[fw,List.length_append,ih];rfl
theorem Qp4 (w:Nat):fw 0 w=List.replicate w 0:=by
 induction w with
 |zero=>rfl
 |succ w ih=>rw[fw,Nat.zero_div,ih,<-List.replicate_succ']
def pad (n w:Nat):List Nat:=List.replicate (w-(dg n).length) 0++dg n
theorem Ud {n w:Nat}(h:n<10^w):(dg n).length<=w:=by
 induction w generalizing n with
 |zero=>
  have:n=0:=by rw[Nat.pow_zero]at h;omega
  subst this;rw[Wq];exact Nat.le_refl _
 |succ w ih=>
  by_cases h0:n=0
  ·subst h0;rw[Wq];exact Nat.zero_le _
  ·rw[Sy (by omega),List.length_append]
   have:=ih (n:=n / 10) (by rw[Nat.pow_succ]at h;omega);simp only[List.length_cons,List.length_nil];omega
theorem Qyh {n w:Nat}(h:n<10^w):pad n w=fw n w:=by
 induction w generalizing n with
 |zero=>
  have:n=0:=by rw[Nat.pow_zero]at h;omega
  subst this;simp[pad,Wq,fw]
 |succ w ih=>
  by_cases h0:n=0
  ·subst h0;rw[Qp4];simp[pad,Wq]
  ·have E:n / 10<10^w:=by rw[Nat.pow_succ]at h;omega
   have H:=ih E;rw[fw,<-H,pad,pad,Sy (by omega:0<n),List.length_append,List.length_cons,List.length_nil];rw[show w+1-((dg (n / 10)).length+(0+1))=w-(dg (n / 10)).length from by omega,List.append_assoc]
theorem Qwg {q r l:Nat}(hq:0<q)(hr:r<10^l):dg (q*10^l+r)=dg q++fw r l:=by
 induction l generalizing r with
 |zero=>
  have:r=0:=by rw[Nat.pow_zero]at hr;omega
  subst this;simp[fw]
 |succ l ih=>
  have E:0<10^l:=Nat.pow_pos (by omega);have H:0<q*10^l:=Nat.mul_pos hq E
  have e:q*10^(l+1)+r=10*(q*10^l)+r:=by rw[Nat.pow_succ,<-Nat.mul_assoc,Nat.mul_comm _ 10]
  have h:r / 10<10^l:=by rw[Nat.pow_succ]at hr;omega
  have e2:(10*(q*10^l)+r) / 10=q*10^l+r / 10:=by omega
  have e3:(10*(q*10^l)+r) % 10=r % 10:=by omega
  rw[e,Sy (by omega),e2,e3,ih h,fw,List.append_assoc]
theorem Ez {q r l w:Nat}(hq:0<q)(hr:r<10^l):pad (q*10^l+r) w=pad q (w-l)++fw r l:=by
 rw[pad,Qwg hq hr,List.length_append,Qhq,pad,<-List.append_assoc];rw[show w-((dg q).length+l)=w-l-(dg q).length from by omega]
def gq (U V:Nat):Nat:=min (BB-1) (U / V)
theorem Qwt {U V P u3 v2 ul vl:Nat}(hU:U=u3*P+ul)(hul:ul<P)(hV:V=v2*P+vl)(hvl:vl<P)(hlt:U<V*BB)(hv2:BB<=v2):
  U / V<=gq u3 v2/\gq u3 v2<=U / V+1:=by
 have T:0<P:=by omega
 have hB:=Xf
 have h:0<v2:=by omega
 have E:0<V:=by rw[hV];have:=Nat.mul_pos h T;omega
 constructor
 ·unfold gq
  refine Nat.le_min.2 ⟨?_,?_⟩
  ·have:U / V<BB:=(Nat.div_lt_iff_lt_mul E).2 (by rw[Nat.mul_comm];exact hlt)
   omega
  ·rw[Nat.le_div_iff_mul_le h]
   have H:U / V*V<=U:=Nat.div_mul_le_self U V
   have O:U / V*v2*P<=U / V*V:=by
    rw[Nat.mul_assoc];exact Nat.mul_le_mul_left _ (by rw[hV];omega)
   have I:U<(u3+1)*P:=by rw[hU,Nat.add_mul,Nat.one_mul];omega
   have J:U / V*v2*P<(u3+1)*P:=by omega
   have h5:=Nat.lt_of_mul_lt_mul_right J;omega
 ·have K:gq u3 v2<=u3 / v2:=Nat.min_le_right _ _
  have Z:gq u3 v2<=BB-1:=Nat.min_le_left _ _;generalize gq u3 v2=g at*
  cases g with
  |zero=>exact Nat.zero_le _
  |succ g=>
   have H:(g+1)*v2<=u3:=(Nat.le_div_iff_mul_le h).1 K;have O:(g+1)*v2*P<=u3*P:=Nat.mul_le_mul_right P H
   have I:g*V<=U:=by
    have e1:(g+1)*v2*P=g*(v2*P)+v2*P:=by rw[Nat.mul_assoc,Nat.add_mul,Nat.one_mul]
    have e2:g*V=g*(v2*P)+g*vl:=by rw[hV,Nat.mul_add]
    have J:g*vl<=v2*P:=Nat.mul_le_mul (by omega) (by omega);omega
   have:=(Nat.le_div_iff_mul_le E).2 I;omega
end NatP
namespace NatP
section guess
variable {W u0 v1 v0 d rest:Nat}
theorem Qxk:d*(v1*BB+v0)=d*v1*BB+d*v0:=by rw[Nat.mul_add,Nat.mul_assoc]
theorem Dw (h:d*v1+rest=W)(hd:d<BB)(ht:d*v0<=rest*BB+u0)(hg:gq (W*BB+u0) (v1*BB+v0)<=d)(hv:0<v1):gq (W*BB+u0) (v1*BB+v0)=d:=by
 have E:0<v1*BB+v0:=by have:=Nat.mul_pos hv Xf;omega
 refine Nat.le_antisymm hg ?_;unfold gq;refine Nat.le_min.2 ⟨by omega,?_⟩;rw[Nat.le_div_iff_mul_le E,Qxk,<-h,Nat.add_mul];omega
theorem Qp5 (h:d*v1+rest=W)(ht:rest*BB+u0<d*v0)(hv:0<v1):gq (W*BB+u0) (v1*BB+v0)<=d-1:=by
 have E:0<v1*BB+v0:=by have:=Nat.mul_pos hv Xf;omega
 refine Nat.le_trans (Nat.min_le_right _ _) ?_
 have:(W*BB+u0) / (v1*BB+v0)<d:=by
  rw[Nat.div_lt_iff_lt_mul E,Qxk,<-h,Nat.add_mul];omega
 omega
theorem Qz7 (h:d*v1+rest=W)(hd:d<BB)(hv0:v0<BB)(hr:BB<=rest)(hg:gq (W*BB+u0) (v1*BB+v0)<=d)(hv:0<v1):gq (W*BB+u0) (v1*BB+v0)=d:=by
 refine Dw h hd ?_ hg hv;have E:d*v0<=BB*BB:=Nat.mul_le_mul (by omega) (by omega);have H:BB*BB<=rest*BB:=Nat.mul_le_mul_right _ hr;omega
theorem Qwi (hu:u0<BB)(hv:0<v1):gq (W*BB+u0) (v1*BB+v0)<=W / v1:=by
 have H:0<v1*BB+v0:=by have:=Nat.mul_pos hv Xf;omega
 refine Nat.le_trans (Nat.min_le_right _ _) ?_
 have:(W*BB+u0) / (v1*BB+v0)<W / v1+1:=by
  rw[Nat.div_lt_iff_lt_mul H,Qxk]
  have h:W<(W / v1+1)*v1:=by
   have:=Nat.lt_div_mul_add (a:=W) hv;rw[Nat.add_mul,Nat.one_mul];omega
  have E:(W+1)*BB<=(W / v1+1)*v1*BB:=Nat.mul_le_mul_right _ h;rw[Nat.add_mul,Nat.one_mul]at E;omega
 omega
theorem Qhx:gq (W*BB+u0) (v1*BB+v0)<=BB-1:=Nat.min_le_left _ _
end guess
theorem Qky {A A' P d Vi vi ui u' carry lent hi lo lo2 c lent':Nat}(hm:hi*BB+lo=d*vi)(ha:lo+carry=lo2+c*BB)(hs:ui+lent'*BB=u'+lo2+lent)
  (h:A+P*(carry+lent)=A'+d*Vi):A+P*ui+P*BB*(hi+c+lent')=A'+P*u'+d*(Vi+P*vi):=by
 have e1:ui+BB*(hi+c+lent')=u'+lent+carry+d*vi:=by
  rw[Nat.mul_add,Nat.mul_add,Nat.mul_comm BB hi,Nat.mul_comm BB c,Nat.mul_comm BB lent'];omega
 have e2:P*ui+P*BB*(hi+c+lent')=P*(ui+BB*(hi+c+lent')):=by rw[Nat.mul_add P ui (BB*(hi+c+lent')),Nat.mul_assoc]
 have e3:P*(u'+lent+carry+d*vi)=P*u'+P*(carry+lent)+d*(P*vi):=by
  rw[show u'+lent+carry+d*vi=u'+(carry+lent)+d*vi from by omega,Nat.mul_add,Nat.mul_add,<-Nat.mul_assoc,Nat.mul_comm P d,Nat.mul_assoc]
 have e4:d*(Vi+P*vi)=d*Vi+d*(P*vi):=Nat.mul_add _ _ _;rw[Nat.add_assoc,e2,e1,e3,e4];omega
theorem Qzz {d vi carry hi lo lo2 c:Nat}(hd:d<BB)(hv:vi<BB)(hc:carry<BB)(hm:hi*BB+lo=d*vi)(ha:lo+carry=lo2+c*BB):hi+c<BB:=by
 have E:d*vi<=(BB-1)*(BB-1):=Nat.mul_le_mul (by omega) (by omega)
 have H:(BB-1)*(BB-1)+(BB-1)=(BB-1)*BB:=by
  have:BB=BB-1+1:=by have:=Xf;omega
  conv=>rhs;rw[this]
  rw[Nat.add_sub_cancel,Nat.mul_add,Nat.mul_one]
 have h:(hi+c)*BB<=(BB-1)*BB:=by rw[Nat.add_mul];omega
 have I:=Nat.le_of_mul_le_mul_right h Xf;have:=Xf;omega
theorem Qpj {U V R g T lent:Nat}(h1:U / V<=g)(hV:0<V)(h:U+T*lent=R+g*V)(hl:lent=0):g=U / V/\R=U % V:=by
 subst hl;rw[Nat.mul_zero,Nat.add_zero]at h;have H:g<=U / V:=(Nat.le_div_iff_mul_le hV).2 (by omega);have E:g=U / V:=Nat.le_antisymm H h1;refine⟨E,?_⟩;have:=Nat.div_add_mod U V;rw[Nat.mul_comm,<-E]at this;omega
theorem Qkc {U V R g T:Nat}(h1:U / V<=g)(h2:g<=U / V+1)(hV:0<V)(hR:R<T)(h:U+T=R+g*V):g-1=U / V/\R+V=U % V+T:=by
 have H: ¬g=U / V:=fun e=>by
  have:=Nat.div_mul_le_self U V;rw[<-e]at this;omega
 have E:g=U / V+1:=by omega
 refine⟨by rw[E,Nat.add_sub_cancel],?_⟩;rw[E,Nat.add_mul,Nat.one_mul]at h;have:=Nat.div_add_mod U V;rw[Nat.mul_comm]at this;omega
end NatP
namespace NatP
theorem Qz2 {W u1 v1 v0 d rest b:Nat}(h:d*v1+rest=W)(ht:d*v0<=rest*b+u1)(hg:(W*b+u1) / (v1*b+v0)<=d)(hv:0<v1*b+v0):(W*b+u1) / (v1*b+v0)=d:=by
 refine Nat.le_antisymm hg ?_;rw[Nat.le_div_iff_mul_le hv,Nat.mul_add,<-h,Nat.add_mul,<-Nat.mul_assoc];omega
theorem Qpr {W u1 v1 v0 d rest b:Nat}(h:d*v1+rest=W)(ht:rest*b+u1<d*v0)(hv:0<v1*b+v0):(W*b+u1) / (v1*b+v0)<=d-1:=by
 have:(W*b+u1) / (v1*b+v0)<d:=by
  rw[Nat.div_lt_iff_lt_mul hv,Nat.mul_add,<-h,Nat.add_mul,<-Nat.mul_assoc];omega
 omega
theorem Bv {W u1 v1 v0 b:Nat}(hu:u1<b)(hv:0<v1):(W*b+u1) / (v1*b+v0)<=W / v1:=by
 have I:0<b:=by omega
 have H:0<v1*b+v0:=by have:=Nat.mul_pos hv I;omega
 have:(W*b+u1) / (v1*b+v0)<W / v1+1:=by
  rw[Nat.div_lt_iff_lt_mul H,Nat.mul_add,<-Nat.mul_assoc]
  have h:W<(W / v1+1)*v1:=by
   have:=Nat.lt_div_mul_add (a:=W) hv;rw[Nat.add_mul,Nat.one_mul];omega
  have E:(W+1)*b<=(W / v1+1)*v1*b:=Nat.mul_le_mul_right _ h;rw[Nat.add_mul,Nat.one_mul]at E;omega
 omega
theorem Qq6 {W u1 V b:Nat}(hW:W<V)(hu:u1<b):(W*b+u1) / V<b:=by
 rw[Nat.div_lt_iff_lt_mul (by omega)];have:(W+1)*b<=V*b:=Nat.mul_le_mul_right _ hW;rw[Nat.add_mul,Nat.one_mul,Nat.mul_comm V b]at this;omega
theorem Qzy {N V b W u1 u0:Nat}(hb:0<b)(hV:0<V)(hN:N=(W*b+u1)*b+u0):
  N / V=(W*b+u1) / V*b+((W*b+u1) % V*b+u0) / V/\N % V=((W*b+u1) % V*b+u0) % V:=by
 have h:=Nat.div_add_mod (W*b+u1) V;generalize (W*b+u1) / V=q at*;generalize (W*b+u1) % V=r at*
 have e:N=V*(q*b)+(r*b+u0):=by rw[hN,<-h,Nat.add_mul,Nat.mul_assoc,Nat.add_assoc]
 rw[e];exact⟨Nat.mul_add_div hV _ _,Nat.mul_add_mod _ _ _⟩
theorem A8 {hi lo P S T:Nat}(hS:0<S)(hT:T=P*S):(hi*T+lo)*S=(hi*S+lo / P)*T+lo*S % T:=by
 have E:lo*S / T=lo / P:=by rw[hT];exact Nat.mul_div_mul_right _ _ hS
 have h:=Nat.div_add_mod (lo*S) T;rw[E,Nat.mul_comm T]at h;rw[Nat.add_mul,Nat.add_mul,Nat.add_assoc,h,Nat.mul_right_comm]
theorem Gy {N y S:Nat}(hS:0<S):N / y=N*S / (y*S)/\N % y=N*S % (y*S) / S:=by
 refine⟨(Nat.mul_div_mul_right _ _ hS).symm,?_⟩;rw[Nat.mul_mod_mul_right,Nat.mul_div_cancel _ hS]
theorem Qy3 {hi lo y P S T:Nat}(hP:0<P)(hT:T=P*S)(hh:hi<y)(hlo:lo<T):hi*S+lo / P<y*S:=by
 have E:lo / P<S:=by rw[Nat.div_lt_iff_lt_mul hP,Nat.mul_comm,<-hT];exact hlo
 have h:(hi+1)*S<=y*S:=Nat.mul_le_mul_right _ hh;rw[Nat.add_mul,Nat.one_mul]at h;omega
end NatP
namespace LexP
abbrev Qx:=List UInt8
abbrev C:=Option Nat×Qx
abbrev Tok:=Nat×Qx×Nat
def Um (v:Nat):Bool:=v<0xD800||(0xE000<=v && v<=0x10FFFF)
def Zb (b:UInt8):Bool:=b.toNat / 64==2
def dec:Qx->Option (Nat×Nat)
 | []=>none
 |b::t=>
  if b.toNat<0x80 then some (b.toNat,1)
  else if b.toNat / 32=6 then
   match t with
   |c::_=>if Zb c && 0x80<=(b.toNat % 32)*64+c.toNat % 64 then some ((b.toNat % 32)*64+c.toNat % 64,2) else none
   |_=>none
  else if b.toNat / 16=14 then
   match t with
   |c::d::_=>
    if Zb c && Zb d && 0x800<=(b.toNat % 16)*4096+(c.toNat % 64)*64+d.toNat % 64 && Um ((b.toNat % 16)*4096+(c.toNat % 64)*64+d.toNat % 64)
    then some ((b.toNat % 16)*4096+(c.toNat % 64)*64+d.toNat % 64,3) else none
   |_=>none
  else if b.toNat / 8=30 then
   match t with
   |c::d::f::_=>
    if Zb c && Zb d && Zb f && 0x10000<=(b.toNat % 8)*262144+(c.toNat % 64)*4096+(d.toNat % 64)*64+f.toNat % 64 && Um ((b.toNat % 8)*262144+(c.toNat % 64)*4096+(d.toNat % 64)*64+f.toNat % 64)
    then some ((b.toNat % 8)*262144+(c.toNat % 64)*4096+(d.toNat % 64)*64+f.toNat % 64,4) else none
   |_=>none
  else none
theorem Wy {l:Qx}{v n:Nat}(h:dec l=some (v,n)):1<=n/\n<=l.length/\n<=4:=by
 unfold dec at h;split at h
 ·cases h
 ·rename_i b t
  split at h
  ·cases h;simp
  split at h
  ·split at h
   ·split at h<;>simp at h;obtain⟨_,rfl⟩:=h;simp
   ·cases h
  split at h
  ·split at h
   ·split at h<;>simp at h;obtain⟨_,rfl⟩:=h;simp
   ·cases h
  split at h
  ·split at h
   ·split at h<;>simp at h;obtain⟨_,rfl⟩:=h;simp
   ·cases h
  ·cases h
theorem Qwk {l:Qx}{v n:Nat}(h:dec l=some (v,n)):v<=0x10FFFF:=by
 unfold dec at h;split at h
 ·cases h
 ·rename_i b t
  split at h
  ·cases h;omega
  split at h
  ·split at h
   ·split at h<;>simp at h;omega
   ·cases h
  split at h
  ·split at h
   ·split at h<;>simp at h;omega
   ·cases h
  split at h
  ·split at h
   ·split at h
    ·rename_i E
     simp only[Bool.and_eq_true,Um,Bool.or_eq_true,decide_eq_true_eq]at E;simp at h;omega
    ·cases h
   ·cases h
  ·cases h
theorem K0 {l:Qx}{v n:Nat}(h:dec l=some (v,n))(t:Qx):dec (l++t)=some (v,n):=by
 unfold dec at h;split at h
 ·cases h
 ·rename_i b r
  simp only[List.cons_append];unfold dec;split at h
  ·rename_i E;simp only[E,if_true];exact h
  rename_i E;split at h
  ·rename_i H
   split at h
   ·simp only[E,H,if_true,if_false,List.cons_append];exact h
   ·cases h
  rename_i H;split at h
  ·rename_i I
   split at h
   ·simp only[E,H,I,if_true,if_false,List.cons_append];exact h
   ·cases h
  rename_i I;split at h
  ·rename_i J
   split at h
   ·simp only[E,H,I,J,if_true,if_false,List.cons_append];exact h
   ·cases h
  ·cases h
def chop:Nat->Qx->List C
 |0,_=>[]
 |_,[]=>[]
 |n+1,b::t=>
  match dec (b::t) with
  |some (v,k)=>(some v,(b::t).take k)::chop n ((b::t).drop k)
  |none=>(none,[b])::chop n t
def Qz (l:Qx):List C:=chop l.length l
theorem Qvv:∀(n:Nat) (l:Qx),l.length<=n->chop n l=chop l.length l:=by
 intro n
 induction n using Nat.strongRecOn with
 |ind n ih=>
  intro l E
  cases l with
  |nil=>cases n<;>rfl
  |cons b t=>
   cases n with
   |zero=>simp at E
   |succ n=>
    simp only[List.length_cons,chop];simp only[List.length_cons]at E
    cases hd:dec (b::t) with
    |none=>
     simp only
     rw[ih n (by omega) t (by omega)]
    |some p=>
     obtain⟨v,k⟩:=p;simp only;have H:=Wy hd
     have h:((b::t).drop k).length=t.length+1-k:=by simp
     rw[ih n (by omega) _ (by rw[h];omega)];by_cases hnt:t.length=n
     ·rw[hnt,ih n (by omega) _ (by rw[h];omega)]
     ·rw[ih t.length (by omega) _ (by rw[h];omega)]
theorem Ye:Qz []=[]:=rfl
theorem U6 {l:Qx}{v k:Nat}(h:dec l=some (v,k)):Qz l=(some v,l.take k)::Qz (l.drop k):=by
 cases l with
 |nil=>cases h
 |cons b t=>
  have E:=Wy h;unfold Qz;simp only[List.length_cons,chop,h];rw[Qvv t.length _ (by simp;omega)]
theorem Qq2 {b:UInt8}{t:Qx}(h:dec (b::t)=none):Qz (b::t)=(none,[b])::Qz t:=by
 unfold Qz;simp only[List.length_cons,chop,h]
def wid (l:Qx):Nat:=match dec l with|some (_,k)=>k|none=>1
def val (l:Qx):Option Nat:=(dec l).map (·.1)
theorem Kv (l:Qx):1<=wid l:=by
 unfold wid
 cases h:dec l with
 |none=>simp
 |some p=>obtain⟨v,k⟩:=p;have:=Wy h;simp;omega
theorem Gs {l:Qx}(hl:l≠[]):wid l<=l.length:=by
 unfold wid
 cases h:dec l with
 |none=>cases l with|nil=>exact absurd rfl hl|cons b t=>simp
 |some p=>obtain⟨v,k⟩:=p;have:=Wy h;simp;omega
theorem Zq {l:Qx}(hl:l≠[]):Qz l=(val l,l.take (wid l))::Qz (l.drop (wid l)):=by
 cases h:dec l with
 |none=>
  cases l with
  |nil=>exact absurd rfl hl
  |cons b t=>rw[Qq2 h];simp[val,wid,h]
 |some p=>obtain⟨v,k⟩:=p;rw[U6 h];simp[val,wid,h]
theorem Ww {P:Qx->Prop}(h0:P [])(h1:∀l,l≠[]->P (l.drop (wid l))->P l):∀l,P l:=by
 intro l
 have:∀n (l:Qx),l.length<=n->P l:=by
  intro n
  induction n with
  |zero=>intro l h;cases l with|nil=>exact h0|cons _ _=>simp at h
  |succ n ih=>
   intro l h;by_cases he:l=[]
   ·rw[he];exact h0
   ·refine h1 l he (ih _ ?_)
    have:=Kv l;have:=Gs he;simp only[List.length_drop];omega
 exact this _ l (Nat.le_refl _)
theorem Zp:∀l:Qx,(Qz l).length<=l.length:=by
 apply Ww
 ·simp[Ye]
 ·intro l h ih
  rw[Zq h];have:=Kv l;have:=Gs h;simp only[List.length_cons,List.length_drop]at ih ⊢;omega
def Qw (cs:List C):Qx:=cs.flatMap (·.2)
theorem Yx:∀l:Qx,Qw (Qz l)=l:=by
 apply Ww
 ·rfl
 ·intro l h ih
  rw[Zq h];simp only[Qw,List.flatMap_cons]at ih ⊢;rw[ih,List.take_append_drop]
theorem Qq1:∀(k:Nat) (l:Qx),(Qz l).drop k=Qz (l.drop (Qw ((Qz l).take k)).length):=by
 intro k
 induction k with
 |zero=>intro l;simp[Qw]
 |succ k ih=>
  intro l;by_cases hl:l=[]
  ·subst hl;simp[Ye,Qw]
  ·have h:=Zq hl
   rw[h];simp only[List.drop_succ_cons,List.take_succ_cons,Qw,List.flatMap_cons,List.length_append]
   have E:(l.take (wid l)).length=wid l:=by have:=Gs hl;simp;omega
   rw[E,ih,List.drop_drop];simp only[Qw]
def kindOf (r:Nat):Nat:=
 if r=32\/r=9\/r=0xa0 then 1
 else if r=35 then 2
 else if 48<=r/\r<=57 then 3
 else if (97<=r/\r<=122)\/(65<=r/\r<=90)\/r=95 then 4
 else if r=0x2212\/r=0xd7 then 5
 else if (0xc0<=r/\r<=0x2af/\r≠0xf7)\/(0x370<=r/\r<=0x3ff) then 4
 else if r<0x80/\(r.toUInt8∈([43,45,42,94,39,40,41,91,93,123,125,44,59,58,61]:Qx)) then 5
 else 6
def kd (c:C):Nat:=match c.1 with|some v=>kindOf v|none=>0
def rn (c:C):Nat:=match c.1 with|some v=>v|none=>0xFFFD
theorem Hm (r:Nat):1<=kindOf r/\kindOf r<=6:=by
 unfold kindOf;repeat' split
 all_goals omega
def Q7 (c:C):Bool:=kd c==3||rn c==95
def isAl (c:C):Bool:=kd c==3||kd c==4
def Xx (c:C):Bool:=kd c !=0
def Jo (t:Qx):Bool:=Go.Lib.hasSuffix t [95]||Go.Lib.contains t [95,95]
def Z7 (c:C):Qx:=if rn c=0x2212 then [45] else if rn c=0xd7 then [42] else c.2
def Qg (p:C->Bool)(cs:List C):Nat:=(cs.takeWhile p).length
abbrev Res:=Except (Nat×Nat) (List Tok)
def Res.after (a:List Tok):Res->Res
 | .ok l=> .ok (a++l)
 | .error e=> .error e
def toks:Nat->Nat->List C->Res
 |0,_,_=> .ok []
 |_,_,[]=> .ok []
 |n+1,col,c::cs=>
  if kd c=1 then toks n (col+1) cs
  else if kd c=2 then
   if Qg Xx (c::cs)<(c::cs).length then .error (col+Qg Xx (c::cs),12) else .ok []
  else if kd c=0 then .error (col,12)
  else if kd c=3 then
   if Jo (Qw ((c::cs).take (Qg Q7 (c::cs)))) then .error (col,7)
   else (toks n (col+Qg Q7 (c::cs)) ((c::cs).drop (Qg Q7 (c::cs)))).after [(1,Qw ((c::cs).take (Qg Q7 (c::cs))),col)]
  else if kd c=4 then
   if 32<(Qw ((c::cs).take (Qg isAl (c::cs)))).length then .error (col,17)
   else (toks n (col+Qg isAl (c::cs)) ((c::cs).drop (Qg isAl (c::cs)))).after [(2,Qw ((c::cs).take (Qg isAl (c::cs))),col)]
  else if kd c=5 then (toks n (col+1) cs).after [(3,Z7 c,col)]
  else .error (col,13)
theorem Res.after_after (a b:List Tok)(r:Res):(r.after b).after a=r.after (a++b):=by
 cases r<;>simp[Res.after]
theorem Res.after_nil (r:Res):r.after []=r:=by cases r<;>simp[Res.after]
theorem Zg (p:C->Bool)(cs:List C):Qg p cs<=cs.length:=by
 unfold Qg
 induction cs with
 |nil=>simp
 |cons c cs ih=>simp only[List.takeWhile_cons];split<;>simp;exact ih
theorem Xy {p:C->Bool}{c:C}{cs:List C}(h:p c=true):1<=Qg p (c::cs):=by
 simp[Qg,h]
theorem Qkg:∀(n:Nat) (col:Nat) (cs:List C),cs.length<=n->toks n col cs=toks cs.length col cs:=by
 intro n
 induction n using Nat.strongRecOn with
 |ind n ih=>
  intro col cs I
  cases cs with
  |nil=>cases n<;>rfl
  |cons c cs=>
   cases n with
   |zero=>simp at I
   |succ n=>
    simp only[List.length_cons]at I
    have h:∀(m col:Nat) (r:List C),n<=m\/cs.length<=m->r.length<=cs.length->m<=n->toks m col r=toks r.length col r:=by
     intro m col r K H J;exact ih m (by omega) col r (by omega)
    have e:∀(col:Nat) (r:List C),r.length<=cs.length->toks n col r=toks cs.length col r:=by
     intro col r H;rw[h n col r (.inl (Nat.le_refl _)) H (Nat.le_refl _),h cs.length col r (.inr (Nat.le_refl _)) H (by omega)]
    have d1:kd c=3->((c::cs).drop (Qg Q7 (c::cs))).length<=cs.length:=by
     intro E;have:=Xy (p:=Q7) (c:=c) (cs:=cs) (by simp[Q7,E]);simp only[List.length_drop,List.length_cons];omega
    have d2:kd c=4->((c::cs).drop (Qg isAl (c::cs))).length<=cs.length:=by
     intro E;have:=Xy (p:=isAl) (c:=c) (cs:=cs) (by simp[isAl,E]);simp only[List.length_drop,List.length_cons];omega
    simp only[toks,List.length_cons];by_cases k1:kd c=1
    ·rw[if_pos k1,if_pos k1,e _ _ (Nat.le_refl _)]
    ·rw[if_neg k1,if_neg k1]
     by_cases k2:kd c=2
     ·rw[if_pos k2,if_pos k2]
     ·rw[if_neg k2,if_neg k2]
      by_cases k0:kd c=0
      ·rw[if_pos k0,if_pos k0]
      ·rw[if_neg k0,if_neg k0]
       by_cases k3:kd c=3
       ·rw[if_pos k3,if_pos k3,e _ _ (d1 k3)]
       ·rw[if_neg k3,if_neg k3]
        by_cases k4:kd c=4
        ·rw[if_pos k4,if_pos k4,e _ _ (d2 k4)]
        ·rw[if_neg k4,if_neg k4,e _ _ (Nat.le_refl _)]
def Toks (col:Nat)(cs:List C):Res:=toks cs.length col cs
theorem Yy (col:Nat):Toks col []=.ok []:=rfl
theorem Eb (n col:Nat)(cs:List C)(h:cs.length<=n):toks n col cs=Toks col cs:=Qkg n col cs h
theorem Y8 {c:C}{cs:List C}(col:Nat)(h:kd c=1):Toks col (c::cs)=Toks (col+1) cs:=by
 simp only[Toks,List.length_cons,toks];rw[if_pos h]
theorem Jf {c:C}{cs:List C}(col:Nat)(h:kd c=2):
  Toks col (c::cs)=if Qg Xx (c::cs)<(c::cs).length then .error (col+Qg Xx (c::cs),12) else .ok []:=by
 simp only[Toks,List.length_cons,toks,h];simp
theorem Vl {c:C}{cs:List C}(col:Nat)(h:kd c=0):Toks col (c::cs)=.error (col,12):=by
 simp only[Toks,List.length_cons,toks,h];simp
theorem Ji {c:C}{cs:List C}(col:Nat)(h:kd c=3):
  Toks col (c::cs)=if Jo (Qw ((c::cs).take (Qg Q7 (c::cs)))) then .error (col,7)
   else (Toks (col+Qg Q7 (c::cs)) ((c::cs).drop (Qg Q7 (c::cs)))).after [(1,Qw ((c::cs).take (Qg Q7 (c::cs))),col)]:=by
 have E:=Xy (p:=Q7) (c:=c) (cs:=cs) (by simp[Q7,h]);rw[<-Eb cs.length _ ((c::cs).drop _) (by simp only[List.length_drop,List.length_cons];omega)];simp only[Toks,List.length_cons,toks,h];simp
theorem Zw {c:C}{cs:List C}(col:Nat)(h:kd c=4):
  Toks col (c::cs)=if 32<(Qw ((c::cs).take (Qg isAl (c::cs)))).length then .error (col,17)
   else (Toks (col+Qg isAl (c::cs)) ((c::cs).drop (Qg isAl (c::cs)))).after [(2,Qw ((c::cs).take (Qg isAl (c::cs))),col)]:=by
 have E:=Xy (p:=isAl) (c:=c) (cs:=cs) (by simp[isAl,h]);rw[<-Eb cs.length _ ((c::cs).drop _) (by simp only[List.length_drop,List.length_cons];omega)];simp only[Toks,List.length_cons,toks,h];simp
theorem Z2 {c:C}{cs:List C}(col:Nat)(h:kd c=5):Toks col (c::cs)=(Toks (col+1) cs).after [(3,Z7 c,col)]:=by
 simp only[Toks,List.length_cons,toks,h];simp
theorem Zs {c:C}{cs:List C}(col:Nat)(h:kd c=6):Toks col (c::cs)=.error (col,13):=by
 simp only[Toks,List.length_cons,toks,h];simp
theorem Pk (c:C):kd c<=6:=by
 unfold kd;split
 ·exact(Hm _).2
 ·omega
theorem Ue (p:C->Bool):∀(l:List C) (m:Nat),m<=l.length->(∀c∈l.take m,p c=true)->(∀c,l[m]?=some c->p c=false)->Qg p l=m:=by
 intro l
 induction l with
 |nil=>intro m h _ _;simp at h;subst h;rfl
 |cons d l ih=>
  intro m h E H
  cases m with
  |zero=>simp[Qg,H d (by simp)]
  |succ m=>
   have I:p d=true:=E d (by simp);have:=ih m (by simpa using h) (fun c hc=>E c (by simp[hc])) (fun c hc=>H c (by simpa using hc));simp only[Qg]at this;simp[Qg,I,this]
theorem Qj9 (l:Qx)(i j:Nat)(h:i<=j):
  (l.drop (Qw ((Qz l).take i)).length).take ((Qw ((Qz l).take j)).length-(Qw ((Qz l).take i)).length)=Qw (((Qz l).drop i).take (j-i)):=by
 have e1:Qw ((Qz l).take i)++Qw ((Qz l).drop i)=l:=by
  have:=Yx l;simp only[Qw]at*;rw[<-List.flatMap_append,List.take_append_drop,this]
 have e2:(Qz l).take j=(Qz l).take i++((Qz l).drop i).take (j-i):=by
  have:=List.take_add (l:=Qz l) (i:=i) (j:=j-i);rw[show i+(j-i)=j from by omega]at this;exact this
 have e3:Qw ((Qz l).drop i)=Qw (((Qz l).drop i).take (j-i))++Qw (((Qz l).drop i).drop (j-i)):=by
  simp only[Qw];rw[<-List.flatMap_append,List.take_append_drop]
 have e4:l.drop (Qw ((Qz l).take i)).length=Qw ((Qz l).drop i):=by
  have E:=List.drop_left (l₁:=Qw ((Qz l).take i)) (l₂:=Qw ((Qz l).drop i));rw[e1]at E;exact E
 rw[e4,e3,e2]
 have e5:(Qw ((Qz l).take i++((Qz l).drop i).take (j-i))).length-(Qw ((Qz l).take i)).length=(Qw (((Qz l).drop i).take (j-i))).length:=by
  simp only[Qw,List.flatMap_append,List.length_append];omega
 rw[e5,List.take_left]
theorem Wk (cs:List C)(i:Nat):(Qw (cs.take i)).length<=(Qw cs).length:=by
 have:Qw (cs.take i)++Qw (cs.drop i)=Qw cs:=by simp only[Qw];rw[<-List.flatMap_append,List.take_append_drop]
 rw[<-this,List.length_append];omega
end LexP
namespace LexP
open Go Go.RowKit
def X4:Nat->List C->List Value
 |_,[]=>[]
 |p,c::cs=> .int .i64 (kd c:Nat)::.int .i32 (rn c:Nat)::.int .i64 (p:Nat)::X4 (p+c.2.length) cs
theorem Kd:∀(a b:List C) (p:Nat),X4 p (a++b)=X4 p a++X4 (p+(Qw a).length) b:=by
 intro a
 induction a with
 |nil=>intro b p;simp[X4,Qw]
 |cons c cs ih=>intro b p;simp[X4,Qw,ih,Nat.add_assoc]
theorem Sk (p:Nat)(c:C):X4 p [c]=[.int .i64 (kd c:Nat),.int .i32 (rn c:Nat),.int .i64 (p:Nat)]:=rfl
theorem Ku:∀(a:List C) (p k:Nat) (c:C),a[k]?=some c->
  (X4 p a)[k*3]?=some (.int .i64 (kd c:Nat))/\(X4 p a)[k*3+1]?=some (.int .i32 (rn c:Nat))/\
  (X4 p a)[k*3+2]?=some (.int .i64 (p+(Qw (a.take k)).length:Nat)):=by
 intro a
 induction a with
 |nil=>intro p k c h;simp at h
 |cons d cs ih=>
  intro p k c h
  cases k with
  |zero=>simp at h;subst h;simp[X4,Qw]
  |succ k=>
   simp only[List.getElem?_cons_succ]at h;obtain⟨E,H,I⟩:=ih (p+d.2.length) k c h
   have e0:(k+1)*3=k*3+1+1+1:=by omega
   have e1:(k+1)*3+1=k*3+1+1+1+1:=by omega
   have e2:(k+1)*3+2=k*3+2+1+1+1:=by omega
   refine⟨?_,?_,?_⟩
   ·rw[e0];simp only[X4,List.getElem?_cons_succ];exact E
   ·rw[e1];simp only[X4,List.getElem?_cons_succ];exact H
   ·rw[e2];simp only[X4,List.getElem?_cons_succ,List.take_succ_cons,Qw,List.flatMap_cons,List.length_append];rw[I];simp only[Qw,Nat.add_assoc]
def Yh (l:List Tok):List Value:=l.flatMap fun t=>[.int .i64 (t.1:Nat),.string ⟨t.2.1.toArray⟩,.int .i64 (t.2.2:Nat)]
theorem Gh (a b:List Tok):Yh (a++b)=Yh a++Yh b:=by simp[Yh]
theorem Gb:∀(a:List Tok) (k:Nat) (t:Tok),a[k]?=some t->
  (Yh a)[k*3]?=some (.int .i64 (t.1:Nat))/\(Yh a)[k*3+1]?=some (.string ⟨t.2.1.toArray⟩)/\(Yh a)[k*3+2]?=some (.int .i64 (t.2.2:Nat)):=by
 intro a
 induction a with
 |nil=>intro k t h;simp at h
 |cons d cs ih=>
  intro k t h
  cases k with
  |zero=>simp at h;subst h;simp[Yh]
  |succ k=>
   simp only[List.getElem?_cons_succ]at h;obtain⟨E,H,I⟩:=ih k t h
   have e0:(k+1)*3=k*3+1+1+1:=by omega
   have e1:(k+1)*3+1=k*3+1+1+1+1:=by omega
   have e2:(k+1)*3+2=k*3+2+1+1+1:=by omega
   have ec:Yh (d::cs)=.int .i64 (d.1:Nat)::.string ⟨d.2.1.toArray⟩::.int .i64 (d.2.2:Nat)::Yh cs:=rfl;refine⟨?_,?_,?_⟩
   ·rw[e0,ec];simp only[List.getElem?_cons_succ];exact E
   ·rw[e1,ec];simp only[List.getElem?_cons_succ];exact H
   ·rw[e2,ec];simp only[List.getElem?_cons_succ];exact I
theorem J6 {w:World}{b b':Nat}{e:TypeId}{size:Nat}{v:Value}{n:Nat}{xs:List Value}(h:w.ownsRow b e size v n xs)(hb:b'<=b):w.ownsRow b' e size v n xs:=by
 refine⟨h.1,?_⟩;rcases h.2 with I|⟨g,E,H,K,J,r⟩
 ·exact .inl I
 ·exact .inr ⟨g,E,H,K,Nat.le_trans hb J,r⟩
theorem Ql {w w':World}{b B:Nat}{e:TypeId}{size:Nat}{v:Value}{n:Nat}{xs:List Value}(h:w.ownsRow b e size v n xs)(hb:Below B w w')(hB:w.heap.size<=B):w'.ownsRow b e size v n xs:=by
 refine⟨h.1,?_⟩;rcases h.2 with J|⟨g,E,H,O,K,I,r⟩
 ·exact .inl J
 ·have T:g<w.heap.size:=(Array.getElem?_eq_some_iff.1 I).1
  exact .inr ⟨g,E,H,O,K,by rw[hb.block g (by omega)];exact I,r⟩
theorem ownsRow_open {w:World}{b:Nat}{e:TypeId}{size:Nat}{v:Value}{n:Nat}{xs:List Value}(h:w.ownsRow b e size v n xs):
  (v=.slice none 0 0/\n=0/\xs=[])\/ ∃g cap,v=.slice (some ⟨g,0,none⟩) n cap/\b<=g/\g<w.heap.size/\n<=cap/\cap<=maxLen/\ ∀j,j<n*size->w.cell? ⟨g,j,none⟩=xs[j]? :=by
 rcases h.2 with ⟨rfl,rfl⟩|⟨g,cap,K,rfl,H,I,J,E,_⟩
 ·exact .inl ⟨rfl,rfl,List.eq_nil_of_length_eq_zero (by simpa using h.1)⟩
 ·exact .inr ⟨g,cap,rfl,H,(Array.getElem?_eq_some_iff.1 I).1,J,E,fun j hj=>h.cellAt j hj⟩
theorem Qc (w:World)(cs:List Value)(t:TypeId)(n:Nat)(hn:n=w.heap.size):∀j u,cs[j]?=some u->(w.alloc (.cells cs.toArray t)).cell? ((⟨n,0,none⟩:Addr).add j)=some u:=by
 intro j u h;subst hn;rw[Addr.add_lit,World.cell?_alloc_at _ _ _ _ rfl]
 simpa using h
theorem Qm {w:World}{b:Nat}{e:TypeId}{size:Nat}{v:Value}{n:Nat}{xs:List Value}(h:w.ownsRow b e size v n xs):
  ∃ao cap,v=.slice ao n cap/\n<=cap/\cap<=maxLen/\(0<n-> ∃g,ao=some ⟨g,0,none⟩/\b<=g/\g<w.heap.size/\ ∀j,j<n*size->w.cell? ⟨g,j,none⟩=xs[j]?):=by
 rcases h.2 with ⟨rfl,rfl⟩|⟨g,cap,K,rfl,H,I,J,E,_⟩
 ·exact⟨none,0,rfl,Nat.le_refl _,Nat.zero_le _,fun h0=>absurd h0 (Nat.lt_irrefl _)⟩
 ·exact⟨_,cap,rfl,J,E,fun _=>⟨g,rfl,H,(Array.getElem?_eq_some_iff.1 I).1,fun j hj=>h.cellAt j hj⟩⟩
end LexP
namespace Go.Proofs.YtgfmiladfeoldaaGreatDoor
open Go.RowKit NatP LexP
theorem Wi {a b:Int}(h:a=b):Ending.returned (.int .i64 a)=.returned (.int .i64 b):=by rw[h]
def ws (l:List Nat):List Value:=l.map fun d=> .int .u64 (d:Nat)
theorem Yl (l:List Nat):(ws l).length=l.length:=by simp[ws]
theorem Qbx {l:List Nat}{i x:Nat}(h:l[i]?=some x):(ws l)[i]?=some (.int .u64 (x:Nat)):=by simp[ws,h]
theorem Qzg (l:List Nat):∀u∈ws l,u.oneCell'=true:=by
 intro u h;simp only[ws,List.mem_map]at h;obtain⟨d,_,rfl⟩:=h;rfl
theorem Tryz.infoW:(Tryz.prog.info? 101).map (fun i=>(i.zero,i.size,i.bytes))=some (some (.int .u64 0),1,8):=by kernel_rfl
theorem Tryz.infoW1:(Tryz.prog.info? 101).map (·.size)=some 1:=by kernel_rfl
def Rd (w:World)(v:Value)(xs:List Nat):Prop:=
 (∀k,v.ownBlock=some k->k<w.heap.size)/\ ∃ao cap,v=.slice ao xs.length cap/\xs.length<=cap/\cap<=maxLen/\ok xs/\ ∀i x,xs[i]?=some x-> ∃g o,ao=some ⟨g,o,none⟩/\w.cell? ⟨g,o+i,none⟩=some (.int .u64 (x:Nat))
theorem Rd.kept {w w':World}{v:Value}{xs:List Nat}{row:Option Nat}(h:Rd w v xs)(hg:w.grownBy w' row)(hne:∀k,row=some k->v.ownBlock≠some k):Rd w' v xs:=by
 obtain⟨H,ao,E,rfl,I,J,K,O⟩:=h;refine⟨fun k hk=>Nat.lt_of_lt_of_le (H k hk) hg.size,ao,E,rfl,I,J,K,fun i x hx=> ?_⟩;obtain⟨g,o,rfl,T⟩:=O i x hx;exact⟨g,o,rfl,hg.cell T (fun e=>hne g e.symm rfl)⟩
theorem Rd.below {w w':World}{v:Value}{xs:List Nat}(h:Rd w v xs)(hb:Below w.heap.size w w'):Rd w' v xs:=
 h.kept (row:=none) ⟨hb.os,hb.tape,hb.output,hb.size,fun k hk _=>hb.block k hk⟩ (fun k hk=>by cases hk)
theorem Rd.drewN {w:World}{v:Value}{xs:List Nat}(h:Rd w v xs)(n:Nat):Rd (w.drewN n) v xs:=
 h.below ⟨rfl,rfl,rfl,Nat.le_refl _,fun _ _=>rfl⟩
theorem Rd.alloc {w:World}{v:Value}{xs:List Nat}(h:Rd w v xs)(o:Obj):Rd (w.alloc o) v xs:=
 h.below ((Below.refl _ _).alloc (Nat.le_refl _) o)
theorem Rd.nil (w:World):Rd w (.slice none 0 0) []:=⟨fun k hk=>(by cases hk),none,0,rfl,Nat.le_refl _,Nat.zero_le _,Qx1,fun i x h=>by simp at h⟩
theorem Rd.take {w:World}{ao:Option Addr}{len cap n c:Nat}{xs:List Nat}(h:Rd w (.slice ao len cap) xs)(hn:n<=xs.length)(hc:n<=c)(hm:c<=cap):Rd w (.slice ao n c) (xs.take n):=by
 obtain⟨E,ao',cap',e,J,K,H,I⟩:=h;simp only[Value.slice.injEq]at e;obtain⟨rfl,rfl,rfl⟩:=e
 refine⟨fun k hk=>E k (by cases ao<;>first|exact hk|cases hk),ao,c,by rw[List.length_take,Nat.min_eq_left hn],by rw[List.length_take];omega,by omega,Zd H _,fun i x hx=> ?_⟩
 rw[List.getElem?_take]at hx;split at hx
 ·exact I i x hx
 ·cases hx
theorem Rd.lt {w:World}{v:Value}{xs:List Nat}(h:Rd w v xs){k:Nat}(hk:v.ownBlock=some k):k<w.heap.size:=h.1 k hk
theorem Rd.ne {w:World}{v:Value}{xs:List Nat}(h:Rd w v xs){g:Nat}(hg:w.heap.size<=g):v.ownBlock≠some g:=fun e=>by have:=h.1 g e;omega
def Blk (w:World)(g:Nat)(L:List Nat):Prop:=w.heap[g]?=some (.cells (ws L).toArray 101 (0,0))/\ok L
theorem Blk.lt {w:World}{g:Nat}{L:List Nat}(h:Blk w g L):g<w.heap.size:=(Array.getElem?_eq_some_iff.1 h.1).1
theorem Blk.cell {w:World}{g:Nat}{L:List Nat}(h:Blk w g L){i x:Nat}(hx:L[i]?=some x):w.cell? ⟨g,i,none⟩=some (.int .u64 (x:Nat)):=by
 rw[cell_of_row w g i _ _ _ h.1];simp[ws,hx]
theorem Blk.frozen {w:World}{g:Nat}{L:List Nat}(h:Blk w g L)(i:Nat):w.frozen? ⟨g,i,none⟩=false:=frozen_of_row w g i _ _ h.1
theorem Blk.set {w:World}{g:Nat}{L:List Nat}(h:Blk w g L)(i:Nat){x:Nat}(hx:x<BB):Blk (w.setCell ⟨g,i,none⟩ (.int .u64 (x:Nat))) g (L.set i x)/\w.grownBy (w.setCell ⟨g,i,none⟩ (.int .u64 (x:Nat))) (some g):=by
 refine⟨⟨?_,Qhp h.2 i hx⟩,⟨rfl,rfl,rfl,by simp,fun k _ hk=>heap_setCell_other w ⟨g,i,none⟩ k _ (fun e=>hk (by simp[e]))⟩⟩;have:=heap_setCell_same w g i (ws L).toArray 101 (.int .u64 (x:Nat)) h.1;rw[this];simp[ws,List.map_set]
theorem Blk.kept {w w':World}{g:Nat}{L:List Nat}{row:Option Nat}(h:Blk w g L)(hg:w.grownBy w' row)(hne:row≠some g):Blk w' g L:=
 ⟨(hg.block g h.lt (fun e=>hne e.symm)).trans h.1,h.2⟩
theorem Blk.below {w w':World}{g B:Nat}{L:List Nat}(h:Blk w g L)(hb:Below B w w')(hB:g<B):Blk w' g L:=⟨(hb.block g hB).trans h.1,h.2⟩
theorem Blk.rd {w:World}{g:Nat}{L:List Nat}(h:Blk w g L){o n c:Nat}(ho:o+n<=L.length)(hnc:n<=c)(hc:c<=maxLen):Rd w (.slice (some ⟨g,o,none⟩) n c) ((L.drop o).take n):=by
 refine⟨fun k hk=>by cases hk;exact h.lt,_,c,by rw[List.length_take,List.length_drop,Nat.min_eq_left (by omega)],by rw[List.length_take];omega,hc,Zd (Wx h.2 _) _,fun i x hx=>⟨g,o,rfl,h.cell ?_⟩⟩;rw[List.getElem?_take]at hx;split at hx
 ·rw[List.getElem?_drop]at hx;exact hx
 ·cases hx
theorem Blk.made (w:World)(n:Nat):Blk (w.alloc (.cells (madeCells #[.int .u64 0] n) 101)) w.heap.size (List.replicate n 0):=by
 refine⟨?_,Pb n⟩
 have h:(w.alloc (.cells (madeCells #[.int .u64 0] n) 101)).heap[w.heap.size]?=some (.cells (madeCells #[.int .u64 0] n) 101 (0,0)):=by first|exact heap_alloc_new w _
 rw[h];have E:=toList_madeCells_one (.int .u64 0) n
 have H:madeCells #[Value.int .u64 0] n=(ws (List.replicate n 0)).toArray:=by
  apply Array.toList_inj.1;rw[E];simp[ws]
 rw[H]
def Fr (B:Nat)(w:World)(v:Value)(xs:List Nat):Prop:=Rd w v xs/\ ∀k,v.ownBlock=some k->B<=k/\k<w.heap.size
theorem Fr.below {B:Nat}{w w':World}{v:Value}{xs:List Nat}(h:Fr B w v xs)(hb:Below w.heap.size w w'):Fr B w' v xs:=⟨h.1.below hb,fun k hk=>⟨(h.2 k hk).1,Nat.lt_of_lt_of_le (h.2 k hk).2 hb.size⟩⟩
theorem Fr.mono {B B':Nat}{w:World}{v:Value}{xs:List Nat}(h:Fr B w v xs)(hb:B'<=B):Fr B' w v xs:=⟨h.1,fun k hk=>⟨Nat.le_trans hb (h.2 k hk).1,(h.2 k hk).2⟩⟩
def Mi (xs:List Nat)(w:World)(e:Ending)(w':World):Prop:=∃v,e=.returned v/\Fr w.heap.size w' v xs/\Below w.heap.size w w'
theorem X8 (v:Value)(xs:List Nat)(w:World)(hr:Rd w v xs):
  Calls Tryz.prog 115 #[v] w fun e w'=>e=.returned (.int .i64 ((Qy xs).length:Nat))/\w=w':=by
 obtain⟨ao,cap,rfl,hnc,hcm,hok,hsh⟩:=hr.2;have HS:=zq hsh
 have hm:xs.length<=9223372036854775807:=by unfold maxLen at hcm;omega
 clear hsh hcm hok;go_enter Tryz.func115,Tryz.ntmps115;go_wp2_with fail;go_loop [3] (fun i=> ∃n:Nat,n<=xs.length/\i=.int .i64 (n:Nat)/\Qy (xs.take n)=Qy xs) (fun i=>(intOf i).toNat)
 case atStart=>exact⟨xs.length,Nat.le_refl _,rfl,by rw[List.take_length]⟩
 case round=>
  obtain⟨n,hn,rfl,hst⟩:=hrel;have HST:=zq hst;clear hst
  cases n with
  |zero=>
   have HE:=zq (Ts hn HST.o (.inl rfl));go_wp2_with fail;go_ret
   exact⟨Wi (by rw[HE.o];rfl),rfl⟩
  |succ m=>
   obtain⟨x,hx⟩:∃x,xs[m]?=some x:=⟨_,List.getElem?_eq_getElem (by omega)⟩;obtain⟨g,o,rfl,e1⟩:=HS.o m x hx;have HX:=zq hx;clear hx;by_cases h0:x=0
   ·have h1:((x:Int)==0)=true:=by simp[h0]
    have HN:Hid (Qy (xs.take m)=Qy xs):=by
     rcases strip_step hn HST.o (fun m' e=>by cases e;rw[HX.o,h0]) with h|h
     ·cases h
     ·exact h
    clear h0;go_wp2_with fail;go_round
    case rel=>exact⟨m,by omega,by first|rfl|go_num,HN.o⟩
    case measure=>simp[intOf]<;>omega
   ·have h1:((x:Int)==0)=false:=by simp[h0]
    have HE:=zq (Ts hn HST.o (.inr ⟨m,x,rfl,HX.o,h0⟩));clear h0;go_wp2_with fail;go_ret
    exact⟨Wi (by rw[HE.o]<;>first|rfl|omega),rfl⟩
theorem Nk (ao:Option Addr)(cap:Nat)(xs:List Nat)(w:World)(hr:Rd w (.slice ao xs.length cap) xs):
  Calls Tryz.prog 273 #[.slice ao xs.length cap] w fun e w'=>e=.returned (.slice ao (Qy xs).length (Qy xs).length)/\w=w':=by
 obtain⟨ao,cap,e,hnc,hcm,hok,hsh⟩:=hr.2;simp only[Value.slice.injEq]at e;obtain⟨rfl,-,rfl⟩:=e;have HS:=zq hsh
 have hm:cap<=9223372036854775807:=by unfold maxLen at hcm;omega
 clear hsh hcm hok;go_enter Tryz.func273,Tryz.ntmps273;go_wp2_with fail;go_loop [3] (fun i=> ∃n:Nat,n<=xs.length/\i=.int .i64 (n:Nat)/\Qy (xs.take n)=Qy xs) (fun i=>(intOf i).toNat)
 case atStart=>exact⟨xs.length,Nat.le_refl _,rfl,by rw[List.take_length]⟩
 case round=>
  obtain⟨n,hn,rfl,hst⟩:=hrel;have HST:=zq hst;clear hst
  cases n with
  |zero=>
   have HE:=zq (Ts hn HST.o (.inl rfl));go_wp2_with fail;go_ret
   exact⟨by first|(rw[HE.o];done)|(rw[HE.o];rfl),rfl⟩
  |succ m=>
   obtain⟨x,hx⟩:∃x,xs[m]?=some x:=⟨_,List.getElem?_eq_getElem (by omega)⟩;obtain⟨g,o,rfl,e1⟩:=HS.o m x hx;have HX:=zq hx;clear hx;by_cases h0:x=0
   ·have h1:((x:Int)==0)=true:=by simp[h0]
    have HN:Hid (Qy (xs.take m)=Qy xs):=by
     rcases strip_step hn HST.o (fun m' e=>by cases e;rw[HX.o,h0]) with h|h
     ·cases h
     ·exact h
    clear h0;go_wp2_with fail;go_round
    case rel=>exact⟨m,by omega,by first|rfl|go_num,HN.o⟩
    case measure=>simp[intOf]<;>omega
   ·have h1:((x:Int)==0)=false:=by simp[h0]
    have HE:=zq (Ts hn HST.o (.inr ⟨m,x,rfl,HX.o,h0⟩));clear h0;go_wp2_with fail;go_ret;exact⟨by first|(rw[HE.o];done)|(rw[HE.o];rfl),rfl⟩
theorem Cf {ao:Option Addr}{cap:Nat}{xs:List Nat}{w:World}(hr:Rd w (.slice ao xs.length cap) xs):Rd w (.slice ao (Qy xs).length (Qy xs).length) (Qy xs):=by
 have h:=Yg xs;have H:=hr;obtain⟨ao',cap',e,E,-,-,-⟩:=H.2;simp only[Value.slice.injEq]at e;obtain⟨rfl,-,rfl⟩:=e;have:=hr.take (n:=(Qy xs).length) (c:=(Qy xs).length) h.2 (Nat.le_refl _) (Nat.le_trans h.2 E);rw[<-h.1]at this;exact this
end Go.Proofs.YtgfmiladfeoldaaGreatDoor
namespace Go.Proofs
open Go.Shelf
def Tryz.lays156_ren:Go.Shelf.Ren:=⟨fun|156=>123|165=>172|166=>105|169=>52|240=>165|241=>218|276=>212|277=>240|n=>n,fun|31=>105|9=>9|3=>3|4=>4|0=>0|20=>20|72=>90|76=>141|70=>87|37=>88|75=>139|127=>145|164=>210|5=>5|80=>94|n=>n,fun|n=>n⟩
theorem Tryz.lays156:Go.Proofs.Lays.n156 Tryz.prog Tryz.lays156_ren:={
 mixed:=by kernel_rfl
 f156:=Tryz.func123.trans (congrArg some (by kernel_rfl))
 f165:=Tryz.func172.trans (congrArg some (by kernel_rfl))
 f166:=Tryz.func105.trans (congrArg some (by kernel_rfl))
 f169:=Tryz.func52.trans (congrArg some (by kernel_rfl))
 f240:=Tryz.func165.trans (congrArg some (by kernel_rfl))
 f241:=Tryz.func218.trans (congrArg some (by kernel_rfl))
 f276:=Tryz.func212.trans (congrArg some (by kernel_rfl))
 f277:=Tryz.func240.trans (congrArg some (by kernel_rfl))
 t0:=Tryz.underlying0
 a0:=Tryz.isAgg0
 z0:=Tryz.sizeOf0
 v0:=Tryz.zeroValue0
 t3:=Tryz.underlying3
 a3:=Tryz.isAgg3
 z3:=Tryz.sizeOf3
 v3:=Tryz.zeroValue3
 t4:=Tryz.underlying4
 a4:=Tryz.isAgg4
 z4:=Tryz.sizeOf4
 v4:=Tryz.zeroValue4
 t9:=Tryz.underlying9
 a9:=Tryz.isAgg9
 z9:=Tryz.sizeOf9
 v9:=Tryz.zeroValue9
 t20:=Tryz.underlying20
 a20:=Tryz.isAgg20
 z20:=Tryz.sizeOf20
 v20:=Tryz.zeroValue20
 t31:=Tryz.underlying105
 a31:=Tryz.isAgg105
 z31:=Tryz.sizeOf105
 v31:=Tryz.zeroValue105
 t37:=Tryz.underlying88
 a37:=Tryz.isAgg88
 z37:=Tryz.sizeOf88
 v37:=Tryz.zeroValue88
 t70:=Tryz.underlying87
 a70:=Tryz.isAgg87
 z70:=Tryz.sizeOf87
 v70:=Tryz.zeroValue87
 t72:=Tryz.underlying90
 a72:=Tryz.isAgg90
 z72:=Tryz.sizeOf90
 v72:=Tryz.zeroValue90
 t75:=Tryz.underlying139
 a75:=Tryz.isAgg139
 z75:=Tryz.sizeOf139
 v75:=Tryz.zeroValue139
 t76:=Tryz.underlying141
 a76:=Tryz.isAgg141
 z76:=Tryz.sizeOf141
 v76:=Tryz.zeroValue141
 t127:=Tryz.underlying145
 a127:=Tryz.isAgg145
 z127:=Tryz.sizeOf145
 v127:=Tryz.zeroValue145
 t164:=Tryz.underlying210
 a164:=Tryz.isAgg210
 z164:=Tryz.sizeOf210
 v164:=Tryz.zeroValue210}
theorem Tryz.Builder_Extra_156:Builder.Extra Tryz.prog Tryz.lays156_ren:={
 sizeBuilder:=by kernel_rfl
 liesBuilder:=by kernel_rfl
 t5:=Tryz.underlying5
 a5:=Tryz.isAgg5
 z5:=Tryz.sizeOf5
 v5:=Tryz.zeroValue5
 infoByte:=by kernel_rfl
 cellsByte:=by kernel_rfl
 sizeByte:=by kernel_rfl
 neB5:=by decide}
open Go.RowKit in
theorem Tryz.strings_Join_none (a:Option Addr)(c:Nat)(sep:ByteArray)(w:World):
  Calls Tryz.prog 123 #[.slice a 0 c,.string sep] w fun e w'=>e=.returned (.string ⟨#[]⟩)/\w'=w:=Any.strings_Join_none Tryz.lays156 Tryz.Builder_Extra_156 a c sep w
open Go.RowKit in
theorem Tryz.strings_Join (bk o c:Nat)(xs:List ByteArray)(sep:ByteArray)(w:World)(hcells:∀(j:Nat) x,xs[j]?=some x->w.cell? ⟨bk,o+j,none⟩=some (.string x))(hbk:bk<w.heap.size)(hN:xs.length<=140737488355328)(hcap:xs.length<=c)(hlen:(Lib.join (xs.map (·.data.toList)) sep.data.toList).length<=140737488355328):
  Calls Tryz.prog 123 #[.slice (some ⟨bk,o,none⟩) xs.length c,.string sep] w fun e w'=>e=.returned (.string ⟨(Lib.join (xs.map (·.data.toList)) sep.data.toList).toArray⟩)/\Below w.heap.size w w':=Any.strings_Join Tryz.lays156 Tryz.Builder_Extra_156 bk o c xs sep w hcells hbk hN hcap hlen
def Tryz.lays134_ren:Go.Shelf.Ren:=⟨fun|134=>278|129=>116|n=>n,fun|53=>101|3=>3|4=>4|46=>188|5=>5|9=>9|n=>n,fun|n=>n⟩
theorem Tryz.lays134:Go.Proofs.Lays.n134 Tryz.prog Tryz.lays134_ren:={
 mixed:=by kernel_rfl
 f129:=Tryz.func116.trans (congrArg some (by kernel_rfl))
 f134:=Tryz.func278.trans (congrArg some (by kernel_rfl))
 t3:=Tryz.underlying3
 a3:=Tryz.isAgg3
 z3:=Tryz.sizeOf3
 v3:=Tryz.zeroValue3
 t4:=Tryz.underlying4
 a4:=Tryz.isAgg4
 z4:=Tryz.sizeOf4
 v4:=Tryz.zeroValue4
 t5:=Tryz.underlying5
 a5:=Tryz.isAgg5
 z5:=Tryz.sizeOf5
 v5:=Tryz.zeroValue5
 t9:=Tryz.underlying9
 a9:=Tryz.isAgg9
 z9:=Tryz.sizeOf9
 v9:=Tryz.zeroValue9
 t46:=Tryz.underlying188
 a46:=Tryz.isAgg188
 z46:=Tryz.sizeOf188
 v46:=Tryz.zeroValue188
 t53:=Tryz.underlying101
 a53:=Tryz.isAgg101
 z53:=Tryz.sizeOf101
 v53:=Tryz.zeroValue101}
theorem Tryz.bits_LeadingZeros64 (x:Int)(w:World)(h0:0<=x)(h1:x<=18446744073709551615):
  Calls Tryz.prog 278 #[.int .u64 x] w fun e w'=>e=.returned (.int .i64 (64-(Lib.bitLen x.toNat:Int)))/\w'=w:=Any.bits_LeadingZeros64 Tryz.lays134 x w h0 h1
def Tryz.lays129_ren:Go.Shelf.Ren:=⟨fun|129=>116|n=>n,fun|53=>101|3=>3|4=>4|46=>188|5=>5|9=>9|n=>n,fun|n=>n⟩
theorem Tryz.lays129:Go.Proofs.Lays.n129 Tryz.prog Tryz.lays129_ren:={
 mixed:=by kernel_rfl
 f129:=Tryz.func116.trans (congrArg some (by kernel_rfl))
 t3:=Tryz.underlying3
 a3:=Tryz.isAgg3
 z3:=Tryz.sizeOf3
 v3:=Tryz.zeroValue3
 t4:=Tryz.underlying4
 a4:=Tryz.isAgg4
 z4:=Tryz.sizeOf4
 v4:=Tryz.zeroValue4
 t5:=Tryz.underlying5
 a5:=Tryz.isAgg5
 z5:=Tryz.sizeOf5
 v5:=Tryz.zeroValue5
 t9:=Tryz.underlying9
 a9:=Tryz.isAgg9
 z9:=Tryz.sizeOf9
 v9:=Tryz.zeroValue9
 t46:=Tryz.underlying188
 a46:=Tryz.isAgg188
 z46:=Tryz.sizeOf188
 v46:=Tryz.zeroValue188
 t53:=Tryz.underlying101
 a53:=Tryz.isAgg101
 z53:=Tryz.sizeOf101
 v53:=Tryz.zeroValue101}
theorem Tryz.bits_Len64 (x:Int)(w:World)(h0:0<=x)(h1:x<=18446744073709551615):
  Calls Tryz.prog 116 #[.int .u64 x] w fun e w'=>e=.returned (.int .i64 (Lib.bitLen x.toNat))/\w'=w:=Any.bits_Len64 Tryz.lays129 x w h0 h1
def Tryz.lays219_ren:Go.Shelf.Ren:=⟨fun|219=>250|217=>265|225=>264|224=>263|267=>266|266=>284|314=>285|n=>n,fun|9=>9|3=>3|4=>4|5=>5|46=>188|146=>263|51=>222|n=>n,fun|1=>1|n=>n⟩
def Tryz.lays144_ren:Go.Shelf.Ren:=⟨fun|144=>205|143=>234|219=>250|217=>265|225=>264|224=>263|267=>266|266=>284|314=>285|n=>n,fun|9=>9|4=>4|3=>3|5=>5|46=>188|146=>263|51=>222|n=>n,fun|1=>1|n=>n⟩
theorem Tryz.lays144:Go.Proofs.Lays.n144 Tryz.prog Tryz.lays144_ren:={
 mixed:=by kernel_rfl
 f143:=Tryz.func234.trans (congrArg some (by kernel_rfl))
 f144:=Tryz.func205.trans (congrArg some (by kernel_rfl))
 f217:=Tryz.func265.trans (congrArg some (by kernel_rfl))
 f219:=Tryz.func250.trans (congrArg some (by kernel_rfl))
 f224:=Tryz.func263.trans (congrArg some (by kernel_rfl))
 f225:=Tryz.func264.trans (congrArg some (by kernel_rfl))
 f266:=Tryz.func284.trans (congrArg some (by kernel_rfl))
 f267:=Tryz.func266.trans (congrArg some (by kernel_rfl))
 f314:=Tryz.func285.trans (congrArg some (by kernel_rfl))
 t3:=Tryz.underlying3
 a3:=Tryz.isAgg3
 z3:=Tryz.sizeOf3
 v3:=Tryz.zeroValue3
 t4:=Tryz.underlying4
 a4:=Tryz.isAgg4
 z4:=Tryz.sizeOf4
 v4:=Tryz.zeroValue4
 t5:=Tryz.underlying5
 a5:=Tryz.isAgg5
 z5:=Tryz.sizeOf5
 v5:=Tryz.zeroValue5
 t9:=Tryz.underlying9
 a9:=Tryz.isAgg9
 z9:=Tryz.sizeOf9
 v9:=Tryz.zeroValue9
 t46:=Tryz.underlying188
 a46:=Tryz.isAgg188
 z46:=Tryz.sizeOf188
 v46:=Tryz.zeroValue188
 t51:=Tryz.underlying222
 a51:=Tryz.isAgg222
 z51:=Tryz.sizeOf222
 v51:=Tryz.zeroValue222
 t146:=Tryz.underlying263
 a146:=Tryz.isAgg263
 z146:=Tryz.sizeOf263
 v146:=Tryz.zeroValue263
 g1:=by kernel_rfl}
open Go.RowKit Go.Lib in
theorem Tryz.strings_Contains (s sub:ByteArray)(m:Int)(w:World)(hs:s.size<4294967281)(hm:w.cell? ⟨1,0,none⟩=some (.int .i64 m)):
  Calls Tryz.prog 205 #[.string s,.string sub] w fun e w'=>e=.returned (.bool (Lib.contains s.data.toList sub.data.toList))/\w'=w:=Any.strings_Contains Tryz.lays144 s sub m w hs hm
def Tryz.lays206_ren:Go.Shelf.Ren:=⟨fun|206=>232|n=>n,fun|9=>9|4=>4|3=>3|n=>n,fun|n=>n⟩
def Tryz.lays99_ren:Go.Shelf.Ren:=⟨fun|99=>201|206=>232|n=>n,fun|9=>9|4=>4|3=>3|n=>n,fun|n=>n⟩
theorem Tryz.lays99:Go.Proofs.Lays.n99 Tryz.prog Tryz.lays99_ren:={
 mixed:=by kernel_rfl
 f99:=Tryz.func201.trans (congrArg some (by kernel_rfl))
 f206:=Tryz.func232.trans (congrArg some (by kernel_rfl))
 t3:=Tryz.underlying3
 a3:=Tryz.isAgg3
 z3:=Tryz.sizeOf3
 v3:=Tryz.zeroValue3
 t4:=Tryz.underlying4
 a4:=Tryz.isAgg4
 z4:=Tryz.sizeOf4
 v4:=Tryz.zeroValue4
 t9:=Tryz.underlying9
 a9:=Tryz.isAgg9
 z9:=Tryz.sizeOf9
 v9:=Tryz.zeroValue9}
open Go.RowKit Go.Lib in
theorem Tryz.strings_HasPrefix (s p:ByteArray)(w:World):
  Calls Tryz.prog 201 #[.string s,.string p] w fun e w'=>e=.returned (.bool (Lib.hasPrefix s.data.toList p.data.toList))/\w'=w:=Any.strings_HasPrefix Tryz.lays99 s p w
def Tryz.lays100_ren:Go.Shelf.Ren:=⟨fun|100=>204|207=>233|n=>n,fun|9=>9|4=>4|3=>3|n=>n,fun|n=>n⟩
theorem Tryz.lays100:Go.Proofs.Lays.n100 Tryz.prog Tryz.lays100_ren:={
 mixed:=by kernel_rfl
 f100:=Tryz.func204.trans (congrArg some (by kernel_rfl))
 f207:=Tryz.func233.trans (congrArg some (by kernel_rfl))
 t3:=Tryz.underlying3
 a3:=Tryz.isAgg3
 z3:=Tryz.sizeOf3
 v3:=Tryz.zeroValue3
 t4:=Tryz.underlying4
 a4:=Tryz.isAgg4
 z4:=Tryz.sizeOf4
 v4:=Tryz.zeroValue4
 t9:=Tryz.underlying9
 a9:=Tryz.isAgg9
 z9:=Tryz.sizeOf9
 v9:=Tryz.zeroValue9}
open Go.RowKit Go.Lib in
theorem Tryz.strings_HasSuffix (s p:ByteArray)(w:World)(hs:s.size<=9223372036854775807):
  Calls Tryz.prog 204 #[.string s,.string p] w fun e w'=>e=.returned (.bool (Lib.hasSuffix s.data.toList p.data.toList))/\w'=w:=Any.strings_HasSuffix Tryz.lays100 s p w hs
def Tryz.lays151_ren:Go.Shelf.Ren:=⟨fun|151=>231|152=>249|137=>261|119=>262|224=>263|225=>264|217=>265|266=>284|n=>n,fun|9=>9|21=>21|4=>4|3=>3|5=>5|0=>0|46=>188|n=>n,fun|n=>n⟩
theorem Tryz.lays151:Go.Proofs.Lays.n151 Tryz.prog Tryz.lays151_ren:={
 mixed:=by kernel_rfl
 f119:=Tryz.func262.trans (congrArg some (by kernel_rfl))
 f137:=Tryz.func261.trans (congrArg some (by kernel_rfl))
 f151:=Tryz.func231.trans (congrArg some (by kernel_rfl))
 f152:=Tryz.func249.trans (congrArg some (by kernel_rfl))
 f217:=Tryz.func265.trans (congrArg some (by kernel_rfl))
 f224:=Tryz.func263.trans (congrArg some (by kernel_rfl))
 f225:=Tryz.func264.trans (congrArg some (by kernel_rfl))
 f266:=Tryz.func284.trans (congrArg some (by kernel_rfl))
 t0:=Tryz.underlying0
 a0:=Tryz.isAgg0
 z0:=Tryz.sizeOf0
 v0:=Tryz.zeroValue0
 t3:=Tryz.underlying3
 a3:=Tryz.isAgg3
 z3:=Tryz.sizeOf3
 v3:=Tryz.zeroValue3
 t4:=Tryz.underlying4
 a4:=Tryz.isAgg4
 z4:=Tryz.sizeOf4
 v4:=Tryz.zeroValue4
 t5:=Tryz.underlying5
 a5:=Tryz.isAgg5
 z5:=Tryz.sizeOf5
 v5:=Tryz.zeroValue5
 t9:=Tryz.underlying9
 a9:=Tryz.isAgg9
 z9:=Tryz.sizeOf9
 v9:=Tryz.zeroValue9
 t21:=Tryz.underlying21
 a21:=Tryz.isAgg21
 z21:=Tryz.sizeOf21
 v21:=Tryz.zeroValue21
 t46:=Tryz.underlying188
 a46:=Tryz.isAgg188
 z46:=Tryz.sizeOf188
 v46:=Tryz.zeroValue188}
open Go.RowKit Go.Lib in
theorem Tryz.strings_ContainsRune_ascii (s:ByteArray)(r:Int)(w:World)(h0:0<=r)(h1:r<128):
  Calls Tryz.prog 231 #[.string s,.int .i32 r] w fun e w'=>e=.returned (.bool (decide (0<=Lib.indexByte s.data.toList r.toNat.toUInt8)))/\w'=w:=Any.strings_ContainsRune_ascii Tryz.lays151 s r w h0 h1
def Tryz.lays264_ren:Go.Shelf.Ren:=⟨fun|264=>287|n=>n,fun|53=>101|46=>188|n=>n,fun|n=>n⟩
theorem Tryz.lays264:Go.Proofs.Lays.n264 Tryz.prog Tryz.lays264_ren:={
 mixed:=by kernel_rfl
 f264:=Tryz.func287.trans (congrArg some (by kernel_rfl))
 t46:=Tryz.underlying188
 a46:=Tryz.isAgg188
 z46:=Tryz.sizeOf188
 v46:=Tryz.zeroValue188
 t53:=Tryz.underlying101
 a53:=Tryz.isAgg101
 z53:=Tryz.sizeOf101
 v53:=Tryz.zeroValue101}
open Go.RowKit Go.Lib in
theorem Tryz.bits_Mul64 (x y:Nat)(hx:x<18446744073709551616)(hy:y<18446744073709551616)(w:World):
  Calls Tryz.prog 287 #[.int .u64 x,.int .u64 y] w fun e w'=>e=.returned (.tuple #[.int .u64 ((x*y / 18446744073709551616:Nat):Int),.int .u64 ((x*y % 18446744073709551616:Nat):Int)])/\w'=w:=Any.bits_Mul64 Tryz.lays264 x y hx hy w
def Tryz.lays111_ren:Go.Shelf.Ren:=⟨fun|111=>102|n=>n,fun|28=>41|3=>3|4=>4|0=>0|n=>n,fun|n=>n⟩
theorem Tryz.lays111:Go.Proofs.Lays.n111 Tryz.prog Tryz.lays111_ren:={
 mixed:=by kernel_rfl
 f111:=Tryz.func102.trans (congrArg some (by kernel_rfl))
 t0:=Tryz.underlying0
 a0:=Tryz.isAgg0
 z0:=Tryz.sizeOf0
 v0:=Tryz.zeroValue0
 t3:=Tryz.underlying3
 a3:=Tryz.isAgg3
 z3:=Tryz.sizeOf3
 v3:=Tryz.zeroValue3
 t4:=Tryz.underlying4
 a4:=Tryz.isAgg4
 z4:=Tryz.sizeOf4
 v4:=Tryz.zeroValue4
 t28:=Tryz.underlying41
 a28:=Tryz.isAgg41
 z28:=Tryz.sizeOf41
 v28:=Tryz.zeroValue41}
open Go.RowKit Go.Lib in
theorem Tryz.slices_Equal_int (b1 o1 n c b2 o2 m d:Nat)(xs ys:List Int)(w:World)(hx:n<=xs.length)(hy:m<=ys.length)(hbig:n<=9223372036854775807)(hbig2:m<=9223372036854775807)(hc1:∀j,j<xs.length->w.cell? ⟨b1,o1+j,none⟩=some (.int .i64 (xs.getD j 0)))(hc2:∀j,j<ys.length->w.cell? ⟨b2,o2+j,none⟩=some (.int .i64 (ys.getD j 0))):
  Calls Tryz.prog 102 #[.slice (some ⟨b1,o1,none⟩) n c,.slice (some ⟨b2,o2,none⟩) m d] w fun e w'=>e=.returned (.bool (xs.take n==ys.take m))/\ ∃q,w'=w.drewN q:=Any.slices_Equal_int Tryz.lays111 b1 o1 n c b2 o2 m d xs ys w hx hy hbig hbig2 hc1 hc2
open Go.RowKit Go.Lib in
theorem Tryz.slices_Equal_int_empty (a1 a2:Option Addr)(c m d:Nat)(w:World)(hbig2:m<=9223372036854775807):
  Calls Tryz.prog 102 #[.slice a1 0 c,.slice a2 m d] w fun e w'=>e=.returned (.bool (decide (m=0)))/\w'=w:=Any.slices_Equal_int_empty Tryz.lays111 a1 a2 c m d w hbig2
end Go.Proofs
