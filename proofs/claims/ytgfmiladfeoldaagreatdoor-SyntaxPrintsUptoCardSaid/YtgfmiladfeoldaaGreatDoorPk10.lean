import Derived.Test.YtgfmiladfeoldaaGreatDoorPk9
set_option linter.unusedSimpArgs false
set_option linter.unusedVariables false
set_option maxRecDepth 100000
set_option maxHeartbeats 16000000
namespace ae
open ag
structure NI where
 op:Int
 text:Bytes
 kids:List Int
deriving DecidableEq
def Node.gH (n:Node):NI:=⟨n.op,n.text,n.kids.map fun k:Nat=>(k:Int)⟩
def cnt (op:Int)(k:Nat):Bool:=
 if op=1\/op=2\/op=3\/op=13\/op=14 then k==0
 else if op=4\/op=5\/op=9\/op=11 then k==1
 else if op=6\/op=7\/op=8 then k==2
 else if op=10 then decide (1<=k)
 else decide (op=12)
def Vf (op:Int):Bool:=op==11||op==12||op==14
def Yb (free:List Nat)(k:Nat):List Int:=(free.drop (free.length-k)).map fun k:Nat=>(k:Int)
def Zd (W:Int->Bytes->Bool)(n i:Nat)(free:List Nat)(x:NI):Bool:=
 !(Vf x.op !=(i+1==n)|| !cnt x.op x.kids.length||decide (free.length<x.kids.length)|| !W x.op x.text)
def Qi (W:Int->Bytes->Bool)(n:Nat):Nat->List Nat->List NI->Bool
 |_,free,[]=>free.length==1
 |i,free,x::l=>
  if Zd W n i free x then
   if x.kids=Yb free x.kids.length then Qi W n (i+1) (free.take (free.length-x.kids.length)++[i]) l else false
  else false
structure FV (W:Int->Bytes->Bool):Prop where
 num:∀t,W 1 t=true↔ ∃n,t=ar n
 pow:∀t,W 9 t=true↔ ∃n,t=ar n
 name:∀t,W 2 t=true↔Un t
 call:∀t,W 10 t=true↔Un t
 lets:∀t,W 11 t=true↔Un t
 cmd:∀t,W 12 t=true↔Un t/\t≠lK
 mat:∀t,W 3 t=true↔ ∃m,Ue m/\t=bB m
 cpx:∀t,W 13 t=true↔ ∃l,Sq l/\t=cP l
 none:∀(op:Int) t,op=4\/op=5\/op=6\/op=7\/op=8\/op=14->(W op t=true↔t=[])
def Zx:List Ex->Nat->List Node
 | [],_=>[]
 |a::l,o=>a.flat o++Zx l (o+a.size)
def Q0:List Ex->Nat->List Nat
 | [],_=>[]
 |a::l,o=>(o+a.size-1)::Q0 l (o+a.size)
def Xn:List Ex->Nat
 | []=>0
 |a::l=>a.size+Xn l
def lO:List Ex->aV
 | []=> .nil
 |a::l=> .cons a (lO l)
theorem Fz:∀(l:List Ex) (o:Nat),(lO l).flat o=Zx l o
 | [],_=>rfl
 |a::l,o=>by show a.flat o++(lO l).flat _=_;rw[Fz l];rfl
theorem Ml:∀(l:List Ex) (o:Nat),(lO l).roots o=Q0 l o
 | [],_=>rfl
 |a::l,o=>by show _::(lO l).roots _=_;rw[Ml l];rfl
theorem Qq4:∀(l:List Ex),(lO l).size=Xn l
 | []=>rfl
 |a::l=>by show _+(lO l).size=_;rw[Qq4 l];rfl
theorem YN:∀(l:List Ex),(∀e∈l,e.wf)->(lO l).wf
 | [],_=>trivial
 |a::l,h=>⟨h a (by simp),YN l (fun e he=>h e (ad4 _ he))⟩
theorem U2:∀(a b:List Ex) (o:Nat),Zx (a++b) o=Zx a o++Zx b (o+Xn a)
 | [],_,_=>rfl
 |x::a,b,o=>by show x.flat o++Zx (a++b) _=x.flat o++Zx a _++_;rw[U2 a b,aar,abJ];rfl
theorem Vm:∀(a b:List Ex) (o:Nat),Q0 (a++b) o=Q0 a o++Q0 b (o+Xn a)
 | [],_,_=>rfl
 |x::a,b,o=>by show _::Q0 (a++b) _=_::Q0 a _++_;rw[Vm a b,abJ];rfl
theorem Tq:∀(a b:List Ex),Xn (a++b)=Xn a+Xn b
 | [],_=>by simp[Xn]
 |x::a,b=>by show x.size+Xn (a++b)=x.size+Xn a+_;rw[Tq a b,abJ]
theorem Zp:∀(a:List Ex) (o:Nat),(Q0 a o).length=a.length
 | [],_=>rfl
 |x::a,o=>by show (Q0 a _).length+1=a.length+1;rw[Zp a]
def nL (l:List Node):List NI:=l.map Node.gH
theorem Z2 (a b:List Node):nL (a++b)=nL a++nL b:=by simp[nL]
theorem Qdr {W:Int->Bytes->Bool}(hW:FV W){x:NI}{es:List Ex}{o:Nat}(hc:cnt x.op es.length=true)(hw:Vf x.op=false)(hk:x.kids=(Q0 es o).map fun k:Nat=>(k:Int))(ht:W x.op x.text=true)(he:∀e∈es,e.wf):∃e:Ex,e.wf/\nL (e.flat o)=nL (Zx es o)++[x]/\e.size=Xn es+1:=by
 obtain⟨op,text,kids⟩:=x;simp only at hc hw hk ht;subst hk;unfold cnt at hc;split at hc
 ·rename_i h
  have e0:es=[]:=aaq (by simpa using hc);subst e0;rcases h with rfl|rfl|rfl|rfl|rfl
  ·obtain⟨n,rfl⟩:=(hW.num _).1 ht
   exact⟨.num n,trivial,rfl,rfl⟩
  ·exact⟨.name text,(hW.name _).1 ht,rfl,rfl⟩
  ·obtain⟨m,I,rfl⟩:=(hW.mat _).1 ht
   exact⟨.mat m,I,rfl,rfl⟩
  ·obtain⟨m,I,rfl⟩:=(hW.cpx _).1 ht
   exact⟨.cpx m,I,rfl,rfl⟩
  cases hw
 split at hc
 ·rename_i h
  obtain⟨a,rfl⟩:∃a,es=[a]:=by
   rcases es with- |⟨a,- |⟨b,l⟩⟩
   ·cases hc
   ·exact⟨a,rfl⟩
   simp at hc
  have E:=he a (by simp);rcases h with rfl|rfl|rfl|rfl
  ·have:=(hW.none _ text (by simp)).1 ht
   subst this;exact⟨.neg a,E,by simp[Ex.flat,nL,Zx,Q0,Node.gH],by simp[Ex.size,Xn]⟩
  ·have:=(hW.none _ text (by simp)).1 ht
   subst this;exact⟨.turn a,E,by simp[Ex.flat,nL,Zx,Q0,Node.gH],by simp[Ex.size,Xn]⟩
  ·obtain⟨n,rfl⟩:=(hW.pow _).1 ht
   exact⟨.pow a n,E,by simp[Ex.flat,nL,Zx,Q0,Node.gH],by simp[Ex.size,Xn]⟩
  cases hw
 split at hc
 ·rename_i h
  obtain⟨a,b,rfl⟩:∃a b,es=[a,b]:=by
   rcases es with- |⟨a,- |⟨b,- |⟨c,l⟩⟩⟩
   ·cases hc
   ·cases hc
   ·exact⟨a,b,rfl⟩
   simp at hc
  have E:=he a (by simp);have H:=he b (by simp);have:=(hW.none op text (by omega)).1 ht;subst this;rcases h with rfl|rfl|rfl
  ·exact⟨.add a b,⟨E,H⟩,by simp[Ex.flat,nL,Zx,Q0,Node.gH],by simp[Ex.size,Xn,abJ]⟩
  ·exact⟨.sub a b,⟨E,H⟩,by simp[Ex.flat,nL,Zx,Q0,Node.gH],by simp[Ex.size,Xn,abJ]⟩
  exact⟨.mul a b,⟨E,H⟩,by simp[Ex.flat,nL,Zx,Q0,Node.gH],by simp[Ex.size,Xn,abJ]⟩
 split at hc
 ·rename_i h
  subst h
  have J:lO es≠ .nil:=by
   cases es with
   |nil=>simp at hc
   |cons a l=>simp[lO]
  refine⟨.call text (lO es),⟨(hW.call _).1 ht,J,YN es he⟩,?_,?_⟩
  ·show nL ((lO es).flat o++[⟨10,text,(lO es).roots o⟩])=_
   rw[Fz,Ml,Z2];rfl
  show (lO es).size+1=_;rw[Qq4]
 have:op=12:=by simpa using hc
 subst this
 cases hw
theorem Qjv {α:Type}(l:List α){k:Nat}(h:k<=l.length):∃a b,l=a++b/\b.length=k/\a.length=l.length-k:=⟨l.take (l.length-k),l.drop (l.length-k),(adA _ _).symm,by rw[aag];omega,by rw[aak];omega⟩
theorem Qjf {a b:List Ex}{k:Nat}(hb:b.length=k):Yb (Q0 (a++b) 0) k=(Q0 b (Xn a)).map (fun k:Nat=>(k:Int))/\(Q0 (a++b) 0).take ((Q0 (a++b) 0).length-k)=Q0 a 0:=by
 have h:(Q0 (a++b) 0).length-k=(Q0 a 0).length:=by rw[Zp,Zp,aac];omega
 unfold Yb;rw[h,Vm,List.drop_left,List.take_left,abx];exact⟨rfl,rfl⟩
theorem Qjg {W:Int->Bytes->Bool}(hW:FV W)(n:Nat):∀(l:List NI) (es:List Ex),(∀e∈es,e.wf)->Xn es+l.length=n->Qi W n (Xn es) (Q0 es 0) l=true->l≠[]->∃ln:Ln,ln.wf/\nL ln.flat=nL (Zx es 0)++l:=by
 intro l
 induction l with
 |nil=>intro es _ _ _ h;exact absurd rfl h
 |cons x l ih=>
  intro es he hn E _;rw[Qi]at E;split at E
  ·rename_i hs
   split at E
   ·rename_i Z
    unfold Zd at hs;simp only[Bool.not_eq_true',Bool.or_eq_false_iff,bne_eq_false_iff_eq,Bool.not_eq_false',ael]at hs;obtain⟨⟨⟨h1,I⟩,h3⟩,K⟩:=hs;rw[Zp]at h3;obtain⟨a,b,rfl,U,ha⟩:=Qjv es (k:=x.kids.length) (by omega);obtain⟨k1,k2⟩:=Qjf (a:=a) U;rw[k1]at Z;rw[k2]at E;have a8:∀e∈a,e.wf:=fun e h=>he e (List.mem_append_left _ h);have O:∀e∈b,e.wf:=fun e h=>he e (List.mem_append_right _ h);rw[aaf]at hn
    cases l with
    |nil=>
     have J:Vf x.op=true:=by rw[h1];simp at hn ⊢;exact hn
     rw[Qi]at E
     have a4:a=[]:=by
      have:(Q0 a 0).length=0:=by simpa using E
      rw[Zp]at this;exact aaq this
     subst a4;obtain⟨op,H,kids⟩:=x;simp only at I K Z J U;rw[<-U]at I;have a9:kids=(Q0 b 0).map fun k:Nat=>(k:Int):=Z;subst a9
     have ab:op=11\/op=12\/op=14:=by simpa [Vf,or_assoc] using J
     rcases ab with rfl|rfl|rfl
     ·obtain⟨e,rfl⟩:∃e,b=[e]:=by
       rcases b with- |⟨e,- |⟨f,b⟩⟩
       ·cases I
       ·exact⟨e,rfl⟩
       simp[cnt]at I
      refine⟨.lets H e,⟨(hW.lets _).1 K,O e (by simp)⟩,?_⟩;simp[Ln.flat,nL,Zx,Q0,Node.gH]
     ·have hc:=(hW.cmd _).1 K
      refine⟨.cmd H (lO b),⟨hc.1,hc.2,YN b O⟩,?_⟩;show nL ((lO b).flat 0++[⟨12,H,(lO b).roots 0⟩])=_;rw[Fz,Ml,Z2];rfl
     have a5:b=[]:=aaq (by simpa [cnt] using I);subst a5;have:=(hW.none _ H (by simp)).1 K;subst this
     exact⟨.nothing,trivial,rfl⟩
    |cons y l=>
     have aa:Vf x.op=false:=by rw[h1];simp only[aaf]at hn;simp;omega
     rw[<-U]at I;obtain⟨e,e1,e2,e3⟩:=Qdr hW I aa Z K O
     have a1:Xn (a++[e])=Xn (a++b)+1:=by rw[Tq,Tq];show Xn a+(e.size+0)=_;omega
     have hr:Q0 (a++[e]) 0=Q0 a 0++[Xn (a++b)]:=by rw[Vm,Tq];show Q0 a 0++[0+Xn a+e.size-1]=_;rw[e3];congr 2;omega
     obtain⟨ln,w1,w2⟩:=ih (a++[e]) (fun f T=>by
      rcases abZ.1 T with T|T
      ·exact a8 f T
      rw[abu.1 T];exact e1) (by rw[a1];omega) (by rw[a1,hr];exact E) (by simp)
     refine⟨ln,w1,w2.trans ?_⟩;rw[U2,U2,Z2,Z2]
     have:Zx [e] (0+Xn a)=e.flat (Xn a):=by show e.flat (0+Xn a)++[]=_;rw[ab4,abx]
     rw[this,e2,abx];simp[aar]
   cases E
  cases E
theorem Zs {W:Int->Bytes->Bool}{n i:Nat}{free fr:List Nat}{x:NI}{ks:List Nat}{l:List NI}(hf:free=fr++ks)(hk:x.kids=ks.map fun k:Nat=>(k:Int))(hc:cnt x.op ks.length=true)(ht:W x.op x.text=true)(hw:Vf x.op=(i+1==n)):Qi W n i free (x::l)=Qi W n (i+1) (fr++[i]) l:=by
 subst hf
 have h:x.kids.length=ks.length:=by rw[hk,aay]
 rw[Qi,if_pos,if_pos]
 ·have:(fr++ks).length-x.kids.length=fr.length:=by rw[h,aac];omega
  rw[this,List.take_left]
 ·unfold Yb
  have:(fr++ks).length-x.kids.length=fr.length:=by rw[h,aac];omega
  rw[this,List.drop_left];exact hk
 unfold Zd;rw[h,hc,ht,hw]
 have: ¬((fr++ks).length<ks.length):=by rw[aac];omega
 simp[this]
theorem Q5:∀e:Ex,0<e.size:=by intro e;cases e<;>simp[Ex.size]
mutual
theorem Za {W:Int->Bytes->Bool}(hW:FV W)(n:Nat):∀(e:Ex) (o:Nat) (free:List Nat) (l:List NI),e.wf->o+e.size<n->Qi W n o free (nL (e.flat o)++l)=Qi W n (o+e.size) (free++[o+e.size-1]) l
 | .num m,o,free,l,_,hn=>by
  have hn':o+1<n:=hn
  exact Zs (ks:=[]) (by simp) rfl rfl ((hW.num _).2 ⟨m,rfl⟩) (by show false=_;simp;omega)
 | .name x,o,free,l,h,hn=>by
  have hn':o+1<n:=hn
  exact Zs (ks:=[]) (by simp) rfl rfl ((hW.name _).2 h) (by show false=_;simp;omega)
 | .mat m,o,free,l,h,hn=>by
  have hn':o+1<n:=hn
  exact Zs (ks:=[]) (by simp) rfl rfl ((hW.mat _).2 ⟨m,h,rfl⟩) (by show false=_;simp;omega)
 | .cpx c,o,free,l,h,hn=>by
  have hn':o+1<n:=hn
  exact Zs (ks:=[]) (by simp) rfl rfl ((hW.cpx _).2 ⟨c,h,rfl⟩) (by show false=_;simp;omega)
 | .neg a,o,free,l,h,hn=>by
  have hn':o+(a.size+1)<n:=hn;have hp:=Q5 a;show Qi W n o free (nL (a.flat o++[⟨4,[],[o+a.size-1]⟩])++l)=_;rw[Z2,aar,Za hW n a o free _ h (by omega)];have:=Zs (W:=W) (n:=n) (i:=o+a.size) (free:=free++[o+a.size-1]) (fr:=free) (x:=Node.gH ⟨4,[],[o+a.size-1]⟩) (ks:=[o+a.size-1]) (l:=l) rfl rfl rfl ((hW.none 4 _ (by simp)).2 rfl) (by show false=_;simp;omega)
  exact this
 | .turn a,o,free,l,h,hn=>by
  have hn':o+(a.size+1)<n:=hn;have hp:=Q5 a;show Qi W n o free (nL (a.flat o++[⟨5,[],[o+a.size-1]⟩])++l)=_;rw[Z2,aar,Za hW n a o free _ h (by omega)];have:=Zs (W:=W) (n:=n) (i:=o+a.size) (free:=free++[o+a.size-1]) (fr:=free) (x:=Node.gH ⟨5,[],[o+a.size-1]⟩) (ks:=[o+a.size-1]) (l:=l) rfl rfl rfl ((hW.none 5 _ (by simp)).2 rfl) (by show false=_;simp;omega)
  exact this
 | .pow a m,o,free,l,h,hn=>by
  have hn':o+(a.size+1)<n:=hn;have hp:=Q5 a;show Qi W n o free (nL (a.flat o++[⟨9,ar m,[o+a.size-1]⟩])++l)=_;rw[Z2,aar,Za hW n a o free _ h (by omega)];have:=Zs (W:=W) (n:=n) (i:=o+a.size) (free:=free++[o+a.size-1]) (fr:=free) (x:=Node.gH ⟨9,ar m,[o+a.size-1]⟩) (ks:=[o+a.size-1]) (l:=l) rfl rfl rfl ((hW.pow _).2 ⟨m,rfl⟩) (by show false=_;simp;omega)
  exact this
 | .add a b,o,free,l,h,hn=>by
  have hn':o+(a.size+b.size+1)<n:=hn;have hp:=Q5 a;have hq:=Q5 b;show Qi W n o free (nL (a.flat o++b.flat (o+a.size)++[⟨6,[],[o+a.size-1,o+a.size+b.size-1]⟩])++l)=_;rw[Z2,Z2,aar,aar,Za hW n a o free _ h.1 (by omega),Za hW n b _ _ _ h.2 (by omega)];have:=Zs (W:=W) (n:=n) (i:=o+a.size+b.size) (free:=free++[o+a.size-1]++[o+a.size+b.size-1]) (fr:=free) (x:=Node.gH ⟨6,[],[o+a.size-1,o+a.size+b.size-1]⟩) (ks:=[o+a.size-1,o+a.size+b.size-1]) (l:=l) (by simp) rfl rfl ((hW.none 6 _ (by simp)).2 rfl) (by show false=_;simp;omega);refine this.trans ?_
  have e:o+(Ex.add a b).size=o+a.size+b.size+1:=by show o+(a.size+b.size+1)=_;omega
  rw[e];rfl
 | .sub a b,o,free,l,h,hn=>by
  have hn':o+(a.size+b.size+1)<n:=hn;have hp:=Q5 a;have hq:=Q5 b;show Qi W n o free (nL (a.flat o++b.flat (o+a.size)++[⟨7,[],[o+a.size-1,o+a.size+b.size-1]⟩])++l)=_;rw[Z2,Z2,aar,aar,Za hW n a o free _ h.1 (by omega),Za hW n b _ _ _ h.2 (by omega)];have:=Zs (W:=W) (n:=n) (i:=o+a.size+b.size) (free:=free++[o+a.size-1]++[o+a.size+b.size-1]) (fr:=free) (x:=Node.gH ⟨7,[],[o+a.size-1,o+a.size+b.size-1]⟩) (ks:=[o+a.size-1,o+a.size+b.size-1]) (l:=l) (by simp) rfl rfl ((hW.none 7 _ (by simp)).2 rfl) (by show false=_;simp;omega);refine this.trans ?_
  have e:o+(Ex.sub a b).size=o+a.size+b.size+1:=by show o+(a.size+b.size+1)=_;omega
  rw[e];rfl
 | .mul a b,o,free,l,h,hn=>by
  have hn':o+(a.size+b.size+1)<n:=hn;have hp:=Q5 a;have hq:=Q5 b;show Qi W n o free (nL (a.flat o++b.flat (o+a.size)++[⟨8,[],[o+a.size-1,o+a.size+b.size-1]⟩])++l)=_;rw[Z2,Z2,aar,aar,Za hW n a o free _ h.1 (by omega),Za hW n b _ _ _ h.2 (by omega)];have:=Zs (W:=W) (n:=n) (i:=o+a.size+b.size) (free:=free++[o+a.size-1]++[o+a.size+b.size-1]) (fr:=free) (x:=Node.gH ⟨8,[],[o+a.size-1,o+a.size+b.size-1]⟩) (ks:=[o+a.size-1,o+a.size+b.size-1]) (l:=l) (by simp) rfl rfl ((hW.none 8 _ (by simp)).2 rfl) (by show false=_;simp;omega);refine this.trans ?_
  have e:o+(Ex.mul a b).size=o+a.size+b.size+1:=by show o+(a.size+b.size+1)=_;omega
  rw[e];rfl
 | .call x ks,o,free,l,h,hn=>by
  have hn':o+(ks.size+1)<n:=hn;show Qi W n o free (nL (ks.flat o++[⟨10,x,ks.roots o⟩])++l)=_;rw[Z2,aar,My hW n ks o free _ h.2.2 (by omega)]
  have hlen:cnt 10 (ks.roots o).length=true:=by
   cases ks with
   |nil=>exact absurd rfl h.2.1
   |cons a k=>simp[cnt,aV.roots]
  have:=Zs (W:=W) (n:=n) (i:=o+ks.size) (free:=free++ks.roots o) (fr:=free) (x:=Node.gH ⟨10,x,ks.roots o⟩) (ks:=ks.roots o) (l:=l) rfl rfl hlen ((hW.call _).2 h.1) (by show false=_;simp;omega);exact this
theorem My {W:Int->Bytes->Bool}(hW:FV W)(n:Nat):∀(ks:aV) (o:Nat) (free:List Nat) (l:List NI),ks.wf->o+ks.size<n->Qi W n o free (nL (ks.flat o)++l)=Qi W n (o+ks.size) (free++ks.roots o) l
 | .nil,o,free,l,_,_=>by
  show Qi W n o free ([]++l)=Qi W n (o+0) (free++[]) l
  rw[ab4];rfl
 | .cons a ks,o,free,l,h,hn=>by have hn':o+(a.size+ks.size)<n:=hn;show Qi W n o free (nL (a.flat o++ks.flat (o+a.size))++l)=Qi W n (o+(a.size+ks.size)) (free++(o+a.size-1)::ks.roots (o+a.size)) l;rw[Z2,aar,Za hW n a o free _ h.1 (by omega),My hW n ks _ _ _ h.2 (by omega)];rw[aar,abJ];rfl
end
theorem Gt {W:Int->Bytes->Bool}(hW:FV W)(ln:Ln)(h:ln.wf):Qi W ln.size 0 [] (nL ln.flat)=true:=by
 cases ln with
 |nothing=>
  show Qi W 1 0 [] (Node.gH ⟨14,[],[]⟩::[])=true;have:=Zs (W:=W) (n:=1) (i:=0) (free:=[]) (fr:=[]) (x:=Node.gH ⟨14,[],[]⟩) (ks:=[]) (l:=[]) rfl rfl rfl ((hW.none 14 _ (by simp)).2 rfl) rfl
  exact this.trans rfl
 |lets x e=>
  have E:=Q5 e;show Qi W (e.size+1) 0 [] (nL (e.flat 0++[⟨11,x,[e.size-1]⟩]))=true;rw[Z2,Za hW _ e 0 [] _ h.2 (by omega)];have:=Zs (W:=W) (n:=e.size+1) (i:=0+e.size) (free:=[]++[0+e.size-1]) (fr:=[]) (x:=Node.gH ⟨11,x,[e.size-1]⟩) (ks:=[e.size-1]) (l:=[]) (by simp) rfl rfl ((hW.lets _).2 h.1) (by show true=_;simp)
  exact this.trans rfl
 |cmd x ks=>show Qi W (ks.size+1) 0 [] (nL (ks.flat 0++[⟨12,x,ks.roots 0⟩]))=true;rw[Z2,My hW _ ks 0 [] _ h.2.2 (by omega)];have:=Zs (W:=W) (n:=ks.size+1) (i:=0+ks.size) (free:=[]++ks.roots 0) (fr:=[]) (x:=Node.gH ⟨12,x,ks.roots 0⟩) (ks:=ks.roots 0) (l:=[]) rfl rfl rfl ((hW.cmd _).2 ⟨h.1,h.2.1⟩) (by show true=_;simp);exact this.trans rfl
end ae
namespace ae
open ag
theorem P8 {α:Type}{sep:Bytes}{sk:List KT}(hs:lg sep sk)(hd:Sd sep)(f:α->Bytes)(g:α->List KT):∀l:List α,(∀x∈l,sD (f x) (g x))->sD (Qb sep (l.map f)) (Z1 sk (l.map g))
 | [],_=>lg.nil.d
 | [a],h=>h a (by simp)
 |a::b::l,h=>by have h1:=P8 hs hd f g (b::l) (fun x hx=>h x (ad4 _ hx));have E:=((h a (by simp)).sG hs hd).qh h1;exact E
theorem Mc:∀l:List (List KT),Z1 [] l=l.flatten
 | []=>rfl
 | [a]=>by simp[Z1]
 |a::b::l=>by show a++[]++Z1 [] (b::l)=_;rw[Mc (b::l)];simp
theorem Fi {α β:Type}(f:α->β)(c:Nat):∀(r:Nat) (l:List α),Xq c r (l.map f)=(Xq c r l).map (List.map f)
 |0,_=>rfl
 |r+1,l=>by show (l.map f).take c::Xq c r ((l.map f).drop c)=(l.take c).map f::(Xq c r (l.drop c)).map (List.map f);rw[<-Fi f c r,List.map_take,List.map_drop]
theorem sd (x:UInt8)(t:Bytes)(h:Dh x=true):Sd (x::t):=⟨x,t,rfl,h⟩
theorem Qbi (x:Bool×Nat):sD (bg x) (dD x):=by
 unfold bg dD
 cases x.1 with
 |true=>exact(Uh (x:=45) (by decide)).qh (Gi x.2)
 |false=>exact Gi x.2
theorem Qdk (l:List (Bool×Nat)):sD (Qb [32] (l.map bg)) (l.flatMap dD):=by
 have:=P8 Nz (sd 32 [] (by decide)) bg dD l (fun x _=>Qbi x);rw[Mc]at this
 rwa [List.flatMap]
theorem Qc8 (m:cn):lg (bB m) (uC m):=by
 unfold bB uC;have E:=Uh (x:=91) (by decide);have H:=Uh (x:=93) (by decide);split
 ·have h:=(((E.qh (Gi m.rows)).sG (Uh (x:=58) (by decide)) (sd 58 [] (by decide))).qh (Gi m.aB)).sG H (sd 93 [] (by decide))
  exact h
 rw[Fi,aeE];have h:=P8 (sep:=[59,32]) ((Uh (x:=59) (by decide)).app Nz) (sd 59 [32] (by decide)) (Qb [32]∘List.map bg) (fun l=>l.flatMap dD) (Xq m.aB m.rows m.at_) (fun l _=>Qdk l);have I:=(E.qh h).sG H (sd 93 [] (by decide));exact I
theorem Qcr (l:List (List Nat)):lg (cP l) (sI l):=by
 unfold cP sI
 have h:∀s:List Nat,sD (Qb [32] (s.map ar)) (s.map bC):=by
  intro s;have:=P8 Nz (sd 32 [] (by decide)) ar (fun n=>[bC n]) s (fun x _=>Gi x);rw[Mc]at this
  have e:∀l:List Nat,(l.map fun n=>[bC n]).flatten=l.map bC:=by
   intro l
   induction l with
   |nil=>rfl
   |cons a l ih=>simp[ih]
  rwa [e]at this
 have E:=P8 (sep:=[44,32]) ((Uh (x:=44) (by decide)).app Nz) (sd 44 [32] (by decide)) (fun s:List Nat=>Qb [32] (s.map ar)) (fun s=>s.map bC) l (fun s _=>h s);exact((Uh (x:=123) (by decide)).qh E).sG (Uh (x:=125) (by decide)) (sd 125 [] (by decide))
end ae
namespace ae
open ag
def Yg (t:Bytes):Except Nat cn:=
 match aw 1 (Qx t) with
 | .error _=> .error 7
 | .ok ts=>
  match (Xl ((Qx t).length+1) (ts.length+3) ⟨ts,0⟩).bind fun m s=>done ((Qx t).length+1) m s with
  |none=> .error 0
  |some (.error (_,k))=> .error (if k=2\/k=5 then k else 7)
  |some (.ok (m,_))=> .ok m
def Zn (t:Bytes):Option (List (List Nat)):=
 match aw 1 (Qx t) with
 | .error _=>none
 | .ok ts=>
  match (Q8 ((Qx t).length+1) (ts.length+2) ⟨ts,0⟩).bind fun l s=>done ((Qx t).length+1) l s with
  |some (.ok (l,_))=>some l
  |_=>none
theorem Qxw {t:Bytes}{m:cn}(h:Yg t=.ok m):Ue m:=by
 unfold Yg at h;split at h
 ·cases h
 split at h
 ·cases h
 ·cases h
 rename_i m' s' I
 cases h
 obtain⟨a,s,E,H⟩:=Q7 I;have:=C4 H
 cases this
 exact Rp E
theorem Qm5 {t:Bytes}{l:List (List Nat)}(h:Zn t=some l):Sq l:=by
 unfold Zn at h;split at h
 ·cases h
 split at h
 ·rename_i l' s' I
  cases h
  obtain⟨a,s,E,H⟩:=Q7 I;have:=C4 H
  cases this
  exact Qz1 E
 cases h
theorem Qqd {t:Bytes}{k:List KT}(h:lg t k):∃ts,aw 1 (Qx t)=.ok ts/\Is ts k []:=by obtain⟨n,ts,E,H⟩:=h 1 [];rw[ab4,Zf,Zg]at E;exact⟨ts,by rw[E];simp[ep.after],by rw[<-H];exact Is.all ts⟩
theorem Qxy {m:cn}(hm:Ue m):Yg (bB m)=.ok m:=by
 obtain⟨ts,E,I⟩:=Qqd (Qc8 m);obtain⟨f,H⟩:=Qyv ((Qx (bB m)).length+1) (o:=0) hm I;have h:=Vn ((Qx (bB m)).length+1) (ts.length+3) (s:=⟨ts,0⟩) (aaa _) (aaa _);rcases hL:Xl ((Qx (bB m)).length+1) (ts.length+3) ⟨ts,0⟩ with- |r
 ·simp only[hL]at h
  exact h.elim
 have e:r=.ok (m,⟨[],0⟩):=Ev.one (fun f=>Qqn ((Qx (bB m)).length+1) f ⟨ts,0⟩) ⟨_,hL⟩ ⟨f,H⟩;subst e;unfold Yg;rw[E];simp only[hL];rfl
theorem Qxj {l:List (List Nat)}(hl:Sq l):Zn (cP l)=some l:=by
 obtain⟨ts,E,I⟩:=Qqd (Qcr l);obtain⟨f,H⟩:=Qze ((Qx (cP l)).length+1) (o:=0) hl I;have h:=Wj ((Qx (cP l)).length+1) (ts.length+2) (s:=⟨ts,0⟩) (aaa _) (aaa _);rcases hL:Q8 ((Qx (cP l)).length+1) (ts.length+2) ⟨ts,0⟩ with- |r
 ·simp only[hL]at h
  exact h.elim
 have e:r=.ok (l,⟨[],0⟩):=Ev.one (fun f=>Co ((Qx (cP l)).length+1) f ⟨ts,0⟩) ⟨_,hL⟩ ⟨f,H⟩;subst e;unfold Zn;rw[E];simp only[hL];rfl
def kD (t:Bytes):Bool:=decide (t≠[]) && t.all aF.Qf && (ar (Xg t)==t)
def cF (t:Bytes):Bool:=
 match aw 1 (Qx t) with
 | .ok [(k,x,_)]=>k==2 && x==t
 |_=>false
def im (t:Bytes):Bool:=
 match Yg t with
 | .ok m=>bB m==t
 | .error _=>false
def fI (t:Bytes):Bool:=
 match Zn t with
 |some l=>cP l==t
 |none=>false
def WV (op:Int)(t:Bytes):Bool:=
 if op=1\/op=9 then kD t
 else if op=2\/op=10\/op=11 then cF t
 else if op=12 then cF t && t !=lK
 else if op=3 then im t
 else if op=13 then fI t
 else t==[]
theorem Fq (t:Bytes):kD t=true↔ ∃n,t=ar n:=by
 unfold kD;constructor
 ·intro h
  simp only[aaY,adN]at h;exact⟨_,h.2.symm⟩
 rintro ⟨n,rfl⟩;rw[T0];simp only[aaY,adN,aaV,and_true];exact⟨Tp n,aeJ.2 (Zi n)⟩
theorem Ny (t:Bytes):cF t=true↔Un t:=by
 unfold cF Un;constructor
 ·intro h
  split at h
  ·rename_i k x c E
   simp only[aaY,adN]at h;obtain⟨rfl,rfl⟩:=h;exact⟨c,E⟩
  cases h
 rintro ⟨c,h⟩;rw[h];simp
theorem Qmq (t:Bytes):im t=true↔ ∃m,Ue m/\t=bB m:=by
 unfold im;constructor
 ·intro h
  split at h
  ·rename_i m E
   exact⟨m,Qxw E,(adN.1 h).symm⟩
  cases h
 rintro ⟨m,H,rfl⟩;rw[Qxy H];simp
theorem Qgq (t:Bytes):fI t=true↔ ∃l,Sq l/\t=cP l:=by
 unfold fI;constructor
 ·intro h
  split at h
  ·rename_i m E
   exact⟨m,Qm5 E,(adN.1 h).symm⟩
  cases h
 rintro ⟨m,H,rfl⟩;rw[Qxj H];simp
theorem YL:FV WV where
 num:=Fq
 pow:=Fq
 name:=Ny
 call:=Ny
 lets:=Ny
 cmd:=fun t=>by show (cF t && t !=lK)=true↔_;rw[aaY,Ny];simp
 mat:=Qmq
 cpx:=Qgq
 none:=fun op t h=>by
  rcases h with rfl|rfl|rfl|rfl|rfl|rfl<;>(show (t==[])=true↔_;simp)
end ae
namespace ae
open ag
def bN (l:List NI)(o:Nat)(ns:List Node):Prop:=∀j n,ns[j]?=some n->l[o+j]?=some n.gH
theorem bN.app {l:List NI}{o:Nat}{a b:List Node}(h:bN l o (a++b)):bN l o a/\bN l (o+a.length) b:=
 ⟨fun j n hj=>h j n (by rw[ab1 (aae.1 hj).1];exact hj),fun j n hj=>by
  have:=h (a.length+j) n (by rw[abw (by omega)];simpa using hj)
  rwa [<-abJ]at this⟩
theorem bN.one {l:List NI}{o:Nat}{n:Node}(h:bN l o [n]):l[o]?=some n.gH:=by simpa using h 0 n rfl
theorem bN.all (ns:List Node):bN (nL ns) 0 ns:=fun j n hj=>by simp[nL,hj]
def bO:aV->List Ex
 | .nil=>[]
 | .cons a l=>a::bO l
def Kn (i:Nat)(e:Ex):Bytes:=(if 0<i then [44,32] else [])++e.pr
def Qk1 (l:List Ex)(j:Nat):Bytes:=
 match l[j]? with
 |some e=>Kn j e
 |none=>[]
def Wx (l:List Ex)(i:Nat):Bytes:=(List.range i).flatMap (Qk1 l)
theorem Qvr (l:List Ex):Wx l 0=[]:=rfl
theorem Te {l:List Ex}{i:Nat}{e:Ex}(h:l[i]?=some e):Wx l (i+1)=Wx l i++Kn i e:=by unfold Wx;rw[List.range_succ,ad7];simp[Qk1,h]
theorem Ej:∀(ks:aV) (p:List Ex),p≠[]->Wx (p++bO ks) (p.length+(bO ks).length)=Wx (p++bO ks) p.length++ks.dX
 | .nil,p,_=>by simp[bO,aV.dX]
 | .cons a ks,p,hp=>by
  have h1:=Ej ks (p++[a]) (by simp)
  have e1:(p++[a])++bO ks=p++bO (.cons a ks):=by simp[bO]
  have e2:(p++[a]).length+(bO ks).length=p.length+(bO (.cons a ks)).length:=by simp[bO];omega
  rw[e1,e2]at h1;rw[h1]
  have h:(p++bO (.cons a ks))[p.length]?=some a:=by simp[bO]
  have E:(p++[a]).length=p.length+1:=by simp
  rw[E,Te h];have H:0<p.length:=adJ.2 hp;show _=_++([44,32]++a.pr++ks.dX);unfold Kn;rw[if_pos H];simp
theorem Cf (ks:aV):Wx (bO ks) (bO ks).length=ks.pr:=by
 cases ks with
 |nil=>rfl
 |cons a ks=>
  have h:=Ej ks [a] (by simp);have e1:[a]++bO ks=bO (.cons a ks):=rfl
  have e2:([a]:List Ex).length+(bO ks).length=(bO (.cons a ks)).length:=by simp[bO];omega
  rw[e1,e2]at h;rw[h];show Wx (bO (.cons a ks)) (0+1)++_=_;rw[Te (e:=a) rfl];rfl
def pd (l:List Ex)(i:Nat):Nat:=((l.take i).map Ex.dp).foldl max 0
theorem Qgh (l:List Ex):pd l 0=0:=by simp[pd]
theorem Qgm {l:List Ex}{i:Nat}{e:Ex}(h:l[i]?=some e):pd l (i+1)=max (pd l i) e.dp:=by unfold pd;rw[ab2,h];simp[List.foldl_append]
theorem Mm:∀(l:List Nat) (m:Nat),l.foldl max m=max m (l.foldl max 0)
 | [],m=>by simp
 |a::l,m=>by show l.foldl max (max m a)=max m (l.foldl max (max 0 a));rw[Mm l (max m a),Mm l (max 0 a)];omega
theorem Qkc:∀ks:aV,pd (bO ks) (bO ks).length=ks.dp
 | .nil=>rfl
 | .cons a ks=>by have h:=Qkc ks;unfold pd at h ⊢;rw[adx]at h ⊢;show (bO ks|>.map Ex.dp).foldl max (max 0 a.dp)=max a.dp ks.dp;rw[Mm,h];omega
theorem Rk:∀(ks:aV) (o:Nat),(ks.roots o).length=(bO ks).length
 | .nil,_=>rfl
 | .cons a ks,o=>by show (ks.roots _).length+1=(bO ks).length+1;rw[Rk ks]
mutual
theorem X7:∀(e:Ex) (o:Nat),(e.flat o).length=e.size
 | .num _,_| .name _,_| .mat _,_| .cpx _,_=>rfl
 | .neg a,o| .turn a,o| .pow a _,o=>by simp[Ex.flat,Ex.size,X7 a]
 | .add a b,o| .sub a b,o| .mul a b,o=>by simp[Ex.flat,Ex.size,X7 a,X7 b];omega
 | .call _ l,o=>by simp[Ex.flat,Ex.size,W7 l]
theorem W7:∀(l:aV) (o:Nat),(l.flat o).length=l.size
 | .nil,_=>rfl
 | .cons a l,o=>by simp[aV.flat,aV.size,X7 a,W7 l]
end
theorem Qge {l:List NI}:∀(ks:aV) (o i:Nat) (e:Ex),(bO ks)[i]?=some e-> ∃p,(ks.roots o)[i]?=some (p+e.size-1)/\(bN l o (ks.flat o)->bN l p (e.flat p))/\p+e.size<=o+ks.size/\o<=p
 | .nil,_,_,_,h=>by simp[bO]at h
 | .cons a ks,o,0,e,h=>by
  have e1:a=e:=by simpa [bO] using h
  subst e1;refine⟨o,rfl,fun hs=>(bN.app (b:=ks.flat (o+a.size)) hs).1,?_,aaa _⟩;show o+a.size<=o+(a.size+ks.size)
  omega
 | .cons a ks,o,i+1,e,h=>by
  obtain⟨p,E,H,I,J⟩:=Qge (l:=l) ks (o+a.size) i e (by simpa [bO] using h);refine⟨p,E,fun hs=>H ?_,?_,by omega⟩
  ·have:=(bN.app (b:=ks.flat (o+a.size)) hs).2
   rw[X7]at this;exact this
  show p+e.size<=o+(a.size+ks.size);omega
mutual
theorem Sm:∀e:Ex,e.dp<=e.size
 | .num _| .name _| .mat _| .cpx _=>aao _
 | .neg a=>by have:=Sm a;simp only[Ex.dp,Ex.size,ay];split<;>omega
 | .turn a=>by have:=Sm a;simp only[Ex.dp,Ex.size,ay];split<;>omega
 | .pow a _=>by have:=Sm a;simp only[Ex.dp,Ex.size,ay];split<;>omega
 | .add a b=>by have:=Sm a;have:=Sm b;simp only[Ex.dp,Ex.size,ay];split<;>split<;>omega
 | .sub a b=>by have:=Sm a;have:=Sm b;simp only[Ex.dp,Ex.size,ay];split<;>split<;>omega
 | .mul a b=>by have:=Sm a;have:=Sm b;simp only[Ex.dp,Ex.size,ay];split<;>split<;>omega
 | .call _ l=>by have:=YR l;simp only[Ex.dp,Ex.size];omega
theorem YR:∀l:aV,l.dp<=l.size
 | .nil=>aao _
 | .cons a l=>by have:=Sm a;have:=YR l;simp only[aV.dp,aV.size];omega
end
end ae
namespace Go.Proofs.YtgfmiladfeoldaaGreatDoor
open Go.RowKit ai ag
theorem Tk (op:Int)(w:World):Calls Tryz.prog 99 #[.int .i64 op] w fun e w'=>e=.returned (.bool (ae.Vf op))/\w=w':=by
 unfold ae.Vf;by_cases h1:op=11
 ·subst h1
  go_enter Tryz.func99,Tryz.ntmps99;go_wp2_with fail;go_ret;exact⟨rfl,rfl⟩
 by_cases h2:op=12
 ·subst h2
  go_enter Tryz.func99,Tryz.ntmps99;go_wp2_with fail;go_ret;exact⟨rfl,rfl⟩
 have e1:(op==11)=false:=by simp[h1]
 have e2:(op==12)=false:=by simp[h2]
 go_enter Tryz.func99,Tryz.ntmps99;go_wp2_with fail;go_ret;exact⟨by rw[e1,e2];rfl,rfl⟩
theorem Rz (op:Int)(n:Nat)(w:World):Calls Tryz.prog 100 #[.int .i64 op,.int .i64 (n:Nat)] w fun e w'=>e=.returned (.bool (ae.cnt op n))/\w=w':=by
 have k0:(((n:Nat):Int)==0)=(n==0):=by rw[abA];simp
 have k1:(((n:Nat):Int)==1)=(n==1):=by rw[abA];simp;omega
 have k2:(((n:Nat):Int)==2)=(n==2):=by rw[abA];simp;omega
 have k3:decide ((1:Int)<=(n:Nat))=decide (1<=n):=by rw[decide_eq_decide];omega
 by_cases h:op∈([1,2,3,13,14,4,5,9,11,6,7,8,10,12]:List Int)
 ·simp only[abY,aeg,ae5]at h
  rcases h with rfl|rfl|rfl|rfl|rfl|rfl|rfl|rfl|rfl|rfl|rfl|rfl|rfl|rfl
  all_goals
   go_enter Tryz.func100,Tryz.ntmps100;go_wp2_with fail;go_ret;exact⟨by simp only[k0,k1,k2,k3];rfl,rfl⟩
 simp only[abY,aeg,ae5,not_or]at h;obtain⟨h1,h2,h3,h4,h5,h6,h7,h8,h9,h10,h11,lr,nO,Lt⟩:=h
 have e:ae.cnt op n=false:=by unfold ae.cnt;simp[h1,h2,h3,h4,h5,h6,h7,h8,h9,h10,h11,lr,nO,Lt]
 have HE:=zq e
 have d1:(op==1)=false:=by simp[h1]
 have d2:(op==2)=false:=by simp[h2]
 have d3:(op==3)=false:=by simp[h3]
 have d4:(op==13)=false:=by simp[h4]
 have d5:(op==14)=false:=by simp[h5]
 have d6:(op==4)=false:=by simp[h6]
 have d7:(op==5)=false:=by simp[h7]
 have d8:(op==9)=false:=by simp[h8]
 have d9:(op==11)=false:=by simp[h9]
 have d10:(op==6)=false:=by simp[h10]
 have d11:(op==7)=false:=by simp[h11]
 have d12:(op==8)=false:=by simp[lr]
 have d13:(op==10)=false:=by simp[nO]
 have d14:(op==12)=false:=by simp[Lt]
 clear e;go_enter Tryz.func100,Tryz.ntmps100;go_wp2_with fail;go_ret;exact⟨by rw[HE.o];rfl,rfl⟩
theorem Sa (op:Nat)(w:World):Calls Tryz.prog 210 #[.int .i64 (op:Nat)] w fun e w'=>e=.returned (.bool (ae.P7 op))/\w=w':=by
 unfold ae.P7
 have k6:(((op:Nat):Int)==6)=(op==6):=by rw[abA];simp;omega
 have k7:(((op:Nat):Int)==7)=(op==7):=by rw[abA];simp;omega
 cases h6:(op==6)<;>rw[h6]at k6<;>
 ·go_enter Tryz.func210,Tryz.ntmps210
  go_wp2_with fail;go_ret;exact⟨by simp[k7],rfl⟩
theorem Tn (op:Nat)(w:World):Calls Tryz.prog 211 #[.int .i64 (op:Nat)] w fun e w'=>e=.returned (.bool (ae.Sf op))/\w=w':=by
 unfold ae.Sf
 have k8:(((op:Nat):Int)==8)=(op==8):=by rw[abA];simp;omega
 have K8:=zq k8;clear k8
 cases h6:ae.P7 op
 ·have H6:=zq h6
  clear h6;go_enter Tryz.func211,Tryz.ntmps211;go_wp2_with fail;refine(Sa op _).mono ?_;rintro e w1 ⟨rfl,rfl⟩;rw[H6.o];go_wp2_with fail;go_ret;exact⟨by rw[K8.o];rfl,rfl⟩
 have H6:=zq h6;clear h6;go_enter Tryz.func211,Tryz.ntmps211;go_wp2_with fail;refine(Sa op _).mono ?_;rintro e w1 ⟨rfl,rfl⟩;rw[H6.o];go_wp2_with fail;go_ret;exact⟨rfl,rfl⟩
theorem Da (t:Bytes)(w:World)(ht:t.length<=67108864)(hx:Lx w):Calls Tryz.prog 162 #[.string ⟨t.toArray⟩] w fun e w'=>e=.returned (.bool (ae.cF t))/\Below w.heap.size w w':=by
 obtain⟨T,hT⟩:=xq (⟨t.toArray⟩:ByteArray)
 have bW:T.data.toList=t:=by rw[hT]
 have vn:T.size<=67108864:=by rw[abg,bW];exact ht
 have HX:=zq hx;have fF:=zq bW;rw[<-hT];clear hx hT bW ht;go_enter Tryz.func162,Tryz.ntmps162;go_wp2_with fail;refine(Ez T _ vn HX.o).mono ?_;rintro e w1 ⟨v,rfl,h1,h2⟩;rw[fF.o]at h1 ⊢;have H2:=zq h2;clear h2
 cases hK:aw 1 (Qx t) with
 |error p=>
  obtain⟨c,k⟩:=p;have bF:=(Sv _ _ _ hK).1
  have HV:Hid (ae.cF t=false):=by show _=_;unfold ae.cF;rw[hK]
  have ec:(fQ (.error (c,k)):Nat)=c:=rfl;have ek:(dY (.error (c,k)):Nat)=k:=rfl;rw[ec,ek];simp only at bF
  have fg:((k:Int)==0)=false:=by simp;omega
  clear h1 hK bF;go_wp2_with fail;go_ret
  exact⟨by rw[HV.o];rfl,H2.o⟩
 |ok ts=>
  have h1':w1.ownsRow w.heap.size 119 3 v ts.length (Xk ts):=by rw[hK]at h1;exact h1
  obtain⟨ao,cap,rfl,a1,a2,a3⟩:=Qj h1';have ec:(fQ (.ok ts):Nat)=0:=rfl;have ek:(dY (.ok ts):Nat)=0:=rfl;rw[ec,ek];clear h1 h1';by_cases hn:ts.length=1
  ·obtain⟨x,rfl⟩:=List.length_eq_one_iff.1 hn
   obtain⟨g,rfl,-,b2,b3⟩:=a3 (by simp);obtain⟨c1,c2,-⟩:=Pb [x] 0 x rfl
   have d1:w1.cell? ⟨g,0,none⟩=some (.int .i64 (x.1:Nat)):=by rw[b3 _ (by simp)];exact c1
   have d2:w1.cell? ⟨g,1,none⟩=some (.string ⟨x.2.1.toArray⟩):=by rw[b3 _ (by simp)];exact c2
   have hk2:(((x.1:Nat):Int)==2)=(x.1==2):=by rw[abA];simp;omega
   have HV:Hid (ae.cF t=(x.1==2 && x.2.1==t)):=by show _=_;unfold ae.cF;rw[hK]
   obtain⟨k,y,c⟩:=x;clear hK a3 b3 c1 c2;have e1:([(k,y,c)]:List Tok).length=1:=rfl;rw[e1]
   cases h2:(k==2) with
   |false=>
    rw[h2]at hk2;simp only at hk2
    have iH:Hid (ae.cF t=false):=by show _=_;rw[HV.o];simp[h2]
    clear h2;go_wp2_with fail;go_ret
    exact⟨by rw[iH.o];rfl,H2.o⟩
   |true=>
    rw[h2]at hk2;simp only at hk2
    have iH:Hid (ae.cF t=(y==t)):=by show _=_;rw[HV.o];simp[h2]
    clear h2;go_wp2_with fail;go_ret;exact⟨by rw[iH.o,<-fF.o,<-adT];rfl,H2.o⟩
  have HV:Hid (ae.cF t=false):=by
   show _=_;unfold ae.cF;rw[hK]
   match ts,hn with
   | [],_=>rfl
   |_::_::_,_=>rfl
   | [_],hn=>exact absurd rfl hn
  have bf:(((ts.length:Nat):Int)==1)=false:=by simp;omega
  clear hK a3;go_wp2_with fail;go_ret;exact⟨by rw[HV.o];rfl,H2.o⟩
theorem N8 {g:Nat}{w2:World}(x y:Value):Wr g none w2 ((w2.setCell ⟨g,0,none⟩ x).setCell ⟨g,1,none⟩ y):=
 (Wr.aI w2 0 x).trans (Mv.refl _ _) (Wr.aI _ 1 y)
theorem Qqv (pp mp:Value)(w:World)(E:Nat->Nat->World->Prop)(Q:World->Prop)
  (hc:Calls Tryz.prog 53 #[pp,mp] (w.alloc (.cells #[.int .i64 0,.int .i64 0] 81)) fun e w'=>w'.heap[w.heap.size]?=some (.cells #[.int .i64 0,.int .i64 0] 81 (0,0))/\((∃c k,e=Sz c k/\E c k w')\/(e=.returned (.tuple #[])/\Q w'))):
  Calls Tryz.prog 48 #[.func (.func 53) #[] #[pp,mp]] w fun e w'=> ∃w2,w2.heap[w.heap.size]?=some (.cells #[.int .i64 0,.int .i64 0] 81 (0,0))/\Wr w.heap.size none w2 w'/\((∃c k,e=.returned (.agg #[.int .i64 (c:Nat),.int .i64 (k:Nat)])/\E c k w2)\/(e=.returned (.agg #[.int .i64 0,.int .i64 0])/\Q w2)):=by
 have ky:∀(fn:Fn) (first cap:Array Value) (w:World),(Instr.makeFunc fn first cap).run Tryz.prog w=.ok (.func fn first cap) w:=fun _ _ _ _=>rfl;have HC:=zq hc;clear hc;go_enter_defers Tryz.func48,Tryz.ntmps48;go_wp2_with fail;refine HC.o.mono ?_;rintro e w2 ⟨hb,⟨c,k,rfl,n1⟩|⟨rfl,n1⟩⟩
 ·have HE:=zq n1
  clear n1;refine leaves_cons (f:=92) (args:= #[.pointer (some ⟨w.heap.size,0,none⟩)]) (by simp) (by simp[go_sem]) ?_;refine(Kw w.heap.size c k _ _ _ hb).mono ?_;rintro e u' w3 ⟨rfl,rfl,hw3⟩
  have ah:Wr w.heap.size none w2 w3:=by rw[hw3];exact(N8 _ _).trans (Mv.refl _ _) (Wr.af (Qq _ _))
  have jP:=zq hb;have hlt:=(aal.1 hb).1;have s1:=aas w2 w.heap.size 0 _ 81 (.int .i64 (c:Nat)) hb;have s2:=aas (w2.setCell ⟨w.heap.size,0,none⟩ (.int .i64 (c:Nat))) w.heap.size 1 _ 81 (.int .i64 (k:Nat)) s1
  have s3:w3.heap[w.heap.size]?=some (.cells #[.int .i64 (c:Nat),.int .i64 (k:Nat)] 81 (0,0)):=by rw[hw3];exact((Qq _ _).block w.heap.size (by simpa [World.setCell] using hlt)).trans (s2.trans (by simp))
  have q0:w3.cell? ⟨w.heap.size,0,none⟩=some (.int .i64 (c:Nat)):=by rw[aam _ _ 0 _ _ _ s3];rfl
  have q1:w3.cell? ⟨w.heap.size,1,none⟩=some (.int .i64 (k:Nat)):=by rw[aam _ _ 1 _ _ _ s3];rfl
  have HF:=zq ah;clear s1 s2 s3 hw3 ah hb;simp[Leaves,settle,results,Tryz.results48,go_sem,q0,q1];exact⟨w2,jP.o,HF.o,.inl ⟨c,k,⟨rfl,rfl⟩,HE.o⟩⟩
 have jP:=zq hb;have hz0:w2.frozen? ⟨w.heap.size,0,none⟩=false:=aaH _ _ 0 _ _ hb;have hz1:w2.frozen? ⟨w.heap.size,1,none⟩=false:=aaH _ _ 1 _ _ hb
 have hc0:w2.cell? ⟨w.heap.size,0,none⟩=some (.int .i64 0):=by rw[aam _ _ 0 _ _ _ hb];rfl
 have hc1:w2.cell? ⟨w.heap.size,1,none⟩=some (.int .i64 0):=by rw[aam _ _ 1 _ _ _ hb];rfl
 have s1:=aas w2 w.heap.size 0 _ 81 (.int .i64 0) hb;have S2:=zq (aas (w2.setCell ⟨w.heap.size,0,none⟩ (.int .i64 0)) w.heap.size 1 _ 81 (.int .i64 0) s1);have HE:=zq n1;clear n1 hb s1;go_wp2_with fail;refine leaves_cons (f:=92) (args:= #[.pointer (some ⟨w.heap.size,0,none⟩)]) (by simp) (by simp[go_sem]) ?_;refine(R8 w.heap.size _).mono ?_;rintro e u' w3 ⟨rfl,rfl,hw3⟩
 have HF:Hid (Wr w.heap.size none w2 w3):=by show Wr _ _ _ _;rw[hw3];exact N8 _ _
 have q0:w3.cell? ⟨w.heap.size,0,none⟩=some (.int .i64 0):=by rw[hw3,aam _ _ 0 _ _ _ S2.o];rfl
 have q1:w3.cell? ⟨w.heap.size,1,none⟩=some (.int .i64 0):=by rw[hw3,aam _ _ 1 _ _ _ S2.o];rfl
 clear hw3;simp[Leaves,settle,results,Tryz.results48,go_sem,q0,q1];exact⟨w2,jP.o,HF.o,.inr HE.o⟩
theorem Qqj (pp mp:Value)(w:World)(E:Nat->Nat->World->Prop)(Q:World->Prop)
  (hc:Calls Tryz.prog 113 #[pp,mp] (w.alloc (.cells #[.int .i64 0,.int .i64 0] 81)) fun e w'=>w'.heap[w.heap.size]?=some (.cells #[.int .i64 0,.int .i64 0] 81 (0,0))/\((∃c k,e=Sz c k/\E c k w')\/(e=.returned (.tuple #[])/\Q w'))):
  Calls Tryz.prog 48 #[.func (.func 113) #[] #[pp,mp]] w fun e w'=> ∃w2,w2.heap[w.heap.size]?=some (.cells #[.int .i64 0,.int .i64 0] 81 (0,0))/\Wr w.heap.size none w2 w'/\((∃c k,e=.returned (.agg #[.int .i64 (c:Nat),.int .i64 (k:Nat)])/\E c k w2)\/(e=.returned (.agg #[.int .i64 0,.int .i64 0])/\Q w2)):=by
 have ky:∀(fn:Fn) (first cap:Array Value) (w:World),(Instr.makeFunc fn first cap).run Tryz.prog w=.ok (.func fn first cap) w:=fun _ _ _ _=>rfl;have HC:=zq hc;clear hc;go_enter_defers Tryz.func48,Tryz.ntmps48;go_wp2_with fail;refine HC.o.mono ?_;rintro e w2 ⟨hb,⟨c,k,rfl,n1⟩|⟨rfl,n1⟩⟩
 ·have HE:=zq n1
  clear n1;refine leaves_cons (f:=92) (args:= #[.pointer (some ⟨w.heap.size,0,none⟩)]) (by simp) (by simp[go_sem]) ?_;refine(Kw w.heap.size c k _ _ _ hb).mono ?_;rintro e u' w3 ⟨rfl,rfl,hw3⟩
  have ah:Wr w.heap.size none w2 w3:=by rw[hw3];exact(N8 _ _).trans (Mv.refl _ _) (Wr.af (Qq _ _))
  have jP:=zq hb;have hlt:=(aal.1 hb).1;have s1:=aas w2 w.heap.size 0 _ 81 (.int .i64 (c:Nat)) hb;have s2:=aas (w2.setCell ⟨w.heap.size,0,none⟩ (.int .i64 (c:Nat))) w.heap.size 1 _ 81 (.int .i64 (k:Nat)) s1
  have s3:w3.heap[w.heap.size]?=some (.cells #[.int .i64 (c:Nat),.int .i64 (k:Nat)] 81 (0,0)):=by rw[hw3];exact((Qq _ _).block w.heap.size (by simpa [World.setCell] using hlt)).trans (s2.trans (by simp))
  have q0:w3.cell? ⟨w.heap.size,0,none⟩=some (.int .i64 (c:Nat)):=by rw[aam _ _ 0 _ _ _ s3];rfl
  have q1:w3.cell? ⟨w.heap.size,1,none⟩=some (.int .i64 (k:Nat)):=by rw[aam _ _ 1 _ _ _ s3];rfl
  have HF:=zq ah;clear s1 s2 s3 hw3 ah hb;simp[Leaves,settle,results,Tryz.results48,go_sem,q0,q1];exact⟨w2,jP.o,HF.o,.inl ⟨c,k,⟨rfl,rfl⟩,HE.o⟩⟩
 have jP:=zq hb;have hz0:w2.frozen? ⟨w.heap.size,0,none⟩=false:=aaH _ _ 0 _ _ hb;have hz1:w2.frozen? ⟨w.heap.size,1,none⟩=false:=aaH _ _ 1 _ _ hb
 have hc0:w2.cell? ⟨w.heap.size,0,none⟩=some (.int .i64 0):=by rw[aam _ _ 0 _ _ _ hb];rfl
 have hc1:w2.cell? ⟨w.heap.size,1,none⟩=some (.int .i64 0):=by rw[aam _ _ 1 _ _ _ hb];rfl
 have s1:=aas w2 w.heap.size 0 _ 81 (.int .i64 0) hb;have S2:=zq (aas (w2.setCell ⟨w.heap.size,0,none⟩ (.int .i64 0)) w.heap.size 1 _ 81 (.int .i64 0) s1);have HE:=zq n1;clear n1 hb s1;go_wp2_with fail;refine leaves_cons (f:=92) (args:= #[.pointer (some ⟨w.heap.size,0,none⟩)]) (by simp) (by simp[go_sem]) ?_;refine(R8 w.heap.size _).mono ?_;rintro e u' w3 ⟨rfl,rfl,hw3⟩
 have HF:Hid (Wr w.heap.size none w2 w3):=by show Wr _ _ _ _;rw[hw3];exact N8 _ _
 have q0:w3.cell? ⟨w.heap.size,0,none⟩=some (.int .i64 0):=by rw[hw3,aam _ _ 0 _ _ _ S2.o];rfl
 have q1:w3.cell? ⟨w.heap.size,1,none⟩=some (.int .i64 0):=by rw[hw3,aam _ _ 1 _ _ _ S2.o];rfl
 clear hw3;simp[Leaves,settle,results,Tryz.results48,go_sem,q0,q1];exact⟨w2,jP.o,HF.o,.inr HE.o⟩
theorem iY.stay {w w':World}{v:Value}{l:List (Bool×Nat)}{q:Nat}(h:iY w v l)(hq:∀o,(∀b,w.cell? ⟨q,o,none⟩≠some (.bool b))/\ ∀x,w.cell? ⟨q,o,none⟩≠some (.int .u64 x))(hg:w.grownBy w' (some q)):iY w' v l:=by
 obtain⟨ao,E,e,O,T,U⟩:=h;refine⟨ao,E,e,O,T,fun h0=> ?_⟩;obtain⟨g,o,rfl,a2,a3⟩:=U h0
 have I:g≠q:=by intro e;subst e;obtain⟨m,xs,b1,-⟩:=a3 0 l[0] (aad h0);exact(hq _).1 _ b1
 refine⟨g,o,rfl,aaj a2 hg.size,fun j p hj=> ?_⟩;obtain⟨m,xs,b1,b2,b3,b4,b5⟩:=a3 j p hj;have H:∀i,w'.cell? ⟨g,i,none⟩=w.cell? ⟨g,i,none⟩:=fun i=>abG (hg.block g a2 (fun e=>I (by cases e;rfl)));refine⟨m,xs,(H _).trans b1,(H _).trans b2,?_,b4,b5⟩;obtain⟨c0,ao,E,rfl,c1,c2,c3,c4⟩:=b3;refine⟨fun k hk=>aaj (c0 k hk) hg.size,ao,E,rfl,c1,c2,c3,fun i x hx=> ?_⟩;obtain⟨g2,o2,rfl,c5⟩:=c4 i x hx;refine⟨g2,o2,rfl,?_⟩;have J:=adu w _ c5
 have K:g2≠q:=by intro e;subst e;exact(hq _).2 _ c5
 exact(abG (hg.block g2 J (fun e=>K (by cases e;rfl)))).trans c5
def iI (fin f:Nat)(s:ae.St):ae.PR ae.cn:=(ae.Xl fin f s).bind fun m s=>ae.done fin m s
def RmP (r:ae.PR ae.cn)(R mb:Nat)(w:World)(e:Ending)(w':World):Prop:=
 match r with
 |none=>False
 |some (.error (c,k))=>e=Sz c k/\Wr R (some mb) w w'
 |some (.ok (m,_))=>e=.returned (.tuple #[])/\Wr R (some mb) w w'/\ ∃av,w'.heap[mb]?=some (.cells #[.int .i64 (m.rows:Nat),.int .i64 (m.aB:Nat),av] 47 (0,0))/\iY w' av m.at_
theorem Qdv (R:Nat)(tv:Value)(L:List Tok)(fin f:Nat)(s:ae.St)(pb mb:Nat)(w:World)(h:RS w R tv L fin 0 s (.slice none 0 0) [])(hp:w.heap[pb]?=some (.cells #[.pointer (some ⟨R,0,none⟩)] 77 (0,0)))(hm:w.heap[mb]?=some (.cells #[.int .i64 0,.int .i64 0,.slice none 0 0] 47 (0,0)))(Oe:R<pb)(hmR:R<mb)(vg:pb≠mb)(hne:ae.Xl fin f s≠none):Calls Tryz.prog 53 #[.pointer (some ⟨pb,0,none⟩),.pointer (some ⟨mb,0,none⟩)] w (RmP (iI fin f s) R mb w):=by
 have HS:=zq h;have bR:=zq hne;have hpl:=(aal.1 hp).1;have ct:=(aal.1 hm).1;have HP:=zq hp;have HM:=zq hm;obtain⟨r,hr⟩:=xq (iI fin f s);have HR:=zq hr;rw[<-hr]
 have c0:w.cell? ⟨pb,0,none⟩=some (.pointer (some ⟨R,0,none⟩)):=by rw[aam _ _ 0 _ _ _ hp];rfl
 clear h hne hp hm hr;go_enter Tryz.func53,Tryz.ntmps53;go_wp2_with fail;refine(Qyi R tv L fin 0 s _ [] _ HS.o f bR.o).mono ?_;rintro e w1 hn
 rcases hN:ae.Xl fin f s with- |(⟨fc,fk⟩|⟨m,s2⟩)<;>rw[hN]at hn
 ·exact hn.elim
 ·obtain⟨rfl,n1⟩:=hn
  refine⟨rfl,?_⟩
  have bu:r=some (.error (fc,fk)):=by rw[HR.o];unfold iI;rw[hN];rfl
  rw[bu];exact⟨rfl,n1.weak _⟩
 obtain⟨v2,a2,rfl,n1,n2,n3,av,rfl,n4⟩:=hn
 have zT:Hid (r=ae.done fin m s2):=by show _=_;rw[HR.o];unfold iI;rw[hN];rfl
 have cW:w1.heap[mb]?=some (.cells #[.int .i64 0,.int .i64 0,.slice none 0 0] 47 (0,0)):=(n2.block mb ct (by omega) (by simp)).trans HM.o;have kP:w1.heap[pb]?=some (.cells #[.pointer (some ⟨R,0,none⟩)] 77 (0,0)):=(n2.block pb hpl (by omega) (by simp)).trans HP.o;have abc:=(aal.1 cW).1;have DF:=(aal.1 kP).1
 have fj:∀o,(∀b,w1.cell? ⟨mb,o,none⟩≠some (.bool b))/\ ∀x,w1.cell? ⟨mb,o,none⟩≠some (.int .u64 x):=by
  intro o;rw[aam _ _ o _ _ _ cW]
  match o with
  |0=>exact⟨fun b e=>by simp at e,fun x e=>by simp at e⟩
  |1=>exact⟨fun b e=>by simp at e,fun x e=>by simp at e⟩
  |2=>exact⟨fun b e=>by simp at e,fun x e=>by simp at e⟩
  |o+3=>exact⟨fun b e=>by simp at e,fun x e=>by simp at e⟩
 have N4:=zq n4;obtain⟨ao,cap,rfl,-,-,-⟩:=n4
 have e0:w1.cell? ⟨pb,0,none⟩=some (.pointer (some ⟨R,0,none⟩)):=by rw[aam _ _ 0 _ _ _ kP];rfl
 have d0:w1.cell? ⟨mb,0,none⟩=some (.int .i64 0):=by rw[aam _ _ 0 _ _ _ cW];rfl
 have d1:w1.cell? ⟨mb,1,none⟩=some (.int .i64 0):=by rw[aam _ _ 1 _ _ _ cW];rfl
 have d2:w1.cell? ⟨mb,2,none⟩=some (.slice none 0 0):=by rw[aam _ _ 2 _ _ _ cW];rfl
 have z0:w1.frozen? ⟨mb,0,none⟩=false:=aaH _ _ 0 _ _ cW;have z1:w1.frozen? ⟨mb,1,none⟩=false:=aaH _ _ 1 _ _ cW;have z2:w1.frozen? ⟨mb,2,none⟩=false:=aaH _ _ 2 _ _ cW;obtain⟨ln,fh⟩:=xq m.at_.length;rw[<-fh]at N4 ⊢;have s0:=aas w1 mb 0 _ 47 (.int .i64 (m.rows:Nat)) cW;have s1:=aas _ mb 1 _ 47 (.int .i64 (m.aB:Nat)) s0;have s2':=aas _ mb 2 _ 47 (.slice ao ln cap) s1
 have hgr:w1.grownBy (((w1.setCell ⟨mb,0,none⟩ (.int .i64 (m.rows:Nat))).setCell ⟨mb,1,none⟩ (.int .i64 (m.aB:Nat))).setCell ⟨mb,2,none⟩ (.slice ao ln cap)) (some mb):=by refine⟨rfl,rfl,rfl,by simp[World.setCell],fun k _ hk=> ?_⟩;have hne:k≠mb:=fun e=>hk (by rw[e]);exact(aaX _ ⟨mb,2,none⟩ k _ hne).trans ((aaX _ ⟨mb,1,none⟩ k _ hne).trans (aaX _ ⟨mb,0,none⟩ k _ hne))
 have bn:=zq hgr;have zN:Hid ((((w1.setCell ⟨mb,0,none⟩ (.int .i64 (m.rows:Nat))).setCell ⟨mb,1,none⟩ (.int .i64 (m.aB:Nat))).setCell ⟨mb,2,none⟩ (.slice ao ln cap)).heap[mb]?=some (.cells #[.int .i64 (m.rows:Nat),.int .i64 (m.aB:Nat),.slice ao ln cap] 47 (0,0))):=s2'.trans (by simp);have ER:Hid (iY (((w1.setCell ⟨mb,0,none⟩ (.int .i64 (m.rows:Nat))).setCell ⟨mb,1,none⟩ (.int .i64 (m.aB:Nat))).setCell ⟨mb,2,none⟩ (.slice ao ln cap)) (.slice ao ln cap) m.at_):=N4.o.stay fj hgr;have zY:=zq (n1.pj hgr (fun q hq=>by cases hq;exact⟨hmR,by simp[Value.ownBlock],fun p hp=>by cases hp⟩)).1;have nK:Hid ((((w1.setCell ⟨mb,0,none⟩ (.int .i64 (m.rows:Nat))).setCell ⟨mb,1,none⟩ (.int .i64 (m.aB:Nat))).setCell ⟨mb,2,none⟩ (.slice ao ln cap)).heap[pb]?=some (.cells #[.pointer (some ⟨R,0,none⟩)] 77 (0,0))):=(hgr.block pb DF (by simp;exact vg)).trans kP;have gM:Hid (Wr R (some mb) w (((w1.setCell ⟨mb,0,none⟩ (.int .i64 (m.rows:Nat))).setCell ⟨mb,1,none⟩ (.int .i64 (m.aB:Nat))).setCell ⟨mb,2,none⟩ (.slice ao ln cap))):=(n2.weak _).trans (Mv.refl _ _) (Wr.cV hgr);obtain⟨a5,ha5⟩:=xq a2;clear n1 n2 n3 hN cW kP fj s0 s1 s2' hgr fh ha5;go_wp2_with fail;obtain⟨w3,hw3⟩:∃w3,w3=((w1.setCell ⟨mb,0,none⟩ (.int .i64 (m.rows:Nat))).setCell ⟨mb,1,none⟩ (.int .i64 (m.aB:Nat))).setCell ⟨mb,2,none⟩ (.slice ao ln cap):=⟨_,rfl⟩;rw[<-hw3]at bn zN ER zY nK gM ⊢;clear hw3 d0 d1 d2 z0 z1 z2 e0 c0;refine(Nh R tv L fin a2 s2 _ _ _ zY.o).mono ?_;rintro e w4 ⟨rfl,b1⟩;have fq:=zq (zY.o.below b1);have kx:w4.heap[mb]?=some (.cells #[.int .i64 (m.rows:Nat),.int .i64 (m.aB:Nat),.slice ao ln cap] 47 (0,0)):=(b1.block mb ((aal.1 zN.o).1)).trans zN.o;have vS:=zq kx;have HI4:=zq (ER.o.below b1);have cJ:Hid (Wr R (some mb) w w4):=gM.o.trans (Mv.refl _ _) (Wr.af b1)
 have c4:w4.cell? ⟨pb,0,none⟩=some (.pointer (some ⟨R,0,none⟩)):=by have:=(b1.block pb ((aal.1 nK.o).1)).trans nK.o;rw[aam _ _ 0 _ _ _ this];rfl
 clear b1 kx;by_cases dm:s2.ts=[]
 ·have jS:Hid (r=some (.ok (m,s2))):=by show _=_;rw[zT.o];unfold ae.done;rw[if_pos dm];rfl
  rw[abH dm];clear dm;go_wp2_with fail
  first|go_end0|refine aaI (adF rfl _ _ _) rfl ?_
  rw[jS.o];exact⟨rfl,cJ.o,_,vS.o,HI4.o⟩
 have jS:Hid (r=ae.dh fin s2):=by show _=_;rw[zT.o];unfold ae.done;rw[if_neg dm]
 rw[abC dm];clear dm;go_wp2_with fail;refine(Sn R tv L fin a2 s2 _ _ _ fq.o).mono ?_;rintro e w5 ⟨rfl,b1⟩;refine⟨rfl,?_⟩;rw[jS.o];exact⟨rfl,cJ.o.trans (Mv.refl _ _) ((Wr.af (R:=R) (og:=none) b1).weak _)⟩
theorem Wr.BD {g:Nat}{w w':World}(h:Wr g none w w'):w.grownBy w' (some g):=⟨h.os,h.tape,h.output,h.size,fun k hk hne=>h.block k hk (fun e=>hne (by rw[e])) (by simp)⟩
theorem Qc {P:Program}{fn:Func}{p u:Tmp}{ty:TypeId}(h:fn.results= #[.cell p ty,.tmp u])(tmps:Array Value)(w:World)(g:Nat)(t:TypeId)(cs:Array Value)(fr:Nat×Nat)(d:TypeDesc)
  (hp:tmps.getD p undef=.pointer (some ⟨g,0,none⟩)) (hg:w.heap[g]?=some (.cells cs t fr))
  (hu:P.underlying ty=some d) (hd:(match d with| .struct _| .array _ _=>true|_=>false)=true) (hi:(P.info? ty).map (·.size)=some cs.size):
  (results fn tmps).run P w=.ok (.tuple #[.agg cs,tmps.getD u undef]) w:=by
 have E:tmps[p]?.getD undef=.pointer (some ⟨g,0,none⟩):=by simpa using hp
 simp[results,h,E,asAddr,run_loadVar_row w g t ty cs fr d hg hu hd hi]
theorem Ft {w:World}{g:Nat}{x y z:Value}(h:w.heap[g]?=some (.cells #[x,y,z] 47 (0,0)))(x' y' z':Value):(((w.setCell ⟨g,0,none⟩ x').setCell ⟨g,1,none⟩ y').setCell ⟨g,2,none⟩ z').heap[g]?=some (.cells #[x',y',z'] 47 (0,0))/\w.grownBy (((w.setCell ⟨g,0,none⟩ x').setCell ⟨g,1,none⟩ y').setCell ⟨g,2,none⟩ z') (some g):=by have s0:=aas w g 0 _ 47 x' h;have s1:=aas _ g 1 _ 47 y' s0;have s2:=aas _ g 2 _ 47 z' s1;refine⟨s2.trans (by simp),rfl,rfl,rfl,by simp[World.setCell],fun k _ hk=> ?_⟩;have E:k≠g:=fun e=>hk (by rw[e]);exact(aaX _ ⟨g,2,none⟩ k _ E).trans ((aaX _ ⟨g,1,none⟩ k _ E).trans (aaX _ ⟨g,0,none⟩ k _ E))
theorem Ts {w:World}{g:Nat}{x y z:Value}(h:w.heap[g]?=some (.cells #[x,y,z] 47 (0,0))):w.cell? ⟨g,0,none⟩=some x/\w.cell? ⟨g,1,none⟩=some y/\w.cell? ⟨g,2,none⟩=some z/\w.frozen? ⟨g,0,none⟩=false/\w.frozen? ⟨g,1,none⟩=false/\w.frozen? ⟨g,2,none⟩=false:=by refine⟨?_,?_,?_,aaH _ _ 0 _ _ h,aaH _ _ 1 _ _ h,aaH _ _ 2 _ _ h⟩<;>rw[aam _ _ _ _ _ _ h]<;>rfl
theorem R7 {w w' w'':World}{g:Nat}(h:Below w.heap.size w w')(hg:w'.grownBy w'' (some g))(hb:w.heap.size<=g):Below w.heap.size w w'':=
 ⟨hg.os.trans h.os,hg.tape.trans h.tape,hg.output.trans h.output,aan h.size hg.size,fun k hk=>(hg.block k (aaj hk h.size) (fun e=>by cases e;omega)).trans (h.block k hk)⟩
theorem Qfb {w:World}{g:Nat}{x y:Int}{z:Value}(h:w.heap[g]?=some (.cells #[.int .i64 x,.int .i64 y,z] 47 (0,0)))(hz:(∀b,z≠ .bool b)/\ ∀x,z≠ .int .u64 x):∀o,(∀b,w.cell? ⟨g,o,none⟩≠some (.bool b))/\ ∀x,w.cell? ⟨g,o,none⟩≠some (.int .u64 x):=by
 intro o;rw[aam _ _ o _ _ _ h]
 match o with
 |0=>exact⟨fun b e=>by simp at e,fun x e=>by simp at e⟩
 |1=>exact⟨fun b e=>by simp at e,fun x e=>by simp at e⟩
 |2=>exact⟨fun b e=>hz.1 b (by simpa using e),fun x e=>hz.2 x (by simpa using e)⟩
 |o+3=>exact⟨fun b e=>by simp at e,fun x e=>by simp at e⟩
theorem Qgu {w:World}{g:Nat}{x y:Int}(h:w.heap[g]?=some (.cells #[.int .i64 x,.int .i64 y] 81 (0,0))):∀o,(∀b,w.cell? ⟨g,o,none⟩≠some (.bool b))/\ ∀x,w.cell? ⟨g,o,none⟩≠some (.int .u64 x):=by
 intro o;rw[aam _ _ o _ _ _ h]
 match o with
 |0=>exact⟨fun b e=>by simp at e,fun x e=>by simp at e⟩
 |1=>exact⟨fun b e=>by simp at e,fun x e=>by simp at e⟩
 |o+2=>exact⟨fun b e=>by simp at e,fun x e=>by simp at e⟩
def R0 (t:Bytes)(w:World)(e:Ending)(w':World):Prop:=
 match ae.Yg t with
 | .error k=>e=.returned (.tuple #[.agg #[.int .i64 0,.int .i64 0,.slice none 0 0],.int .i64 (k:Nat)])/\Below w.heap.size w w'
 | .ok m=> ∃av,e=.returned (.tuple #[.agg #[.int .i64 (m.rows:Nat),.int .i64 (m.aB:Nat),av],.int .i64 0])/\Below w.heap.size w w'/\iY w' av m.at_
theorem Qxp (t:Bytes)(w:World)(ht:t.length<=67108864)(hx:Lx w)(hs:SG w)(hsz:4<w.heap.size):Calls Tryz.prog 20 #[.string ⟨t.toArray⟩] w (R0 t w):=by
 have ky:∀(fn:Fn) (first cap:Array Value) (w:World),(Instr.makeFunc fn first cap).run Tryz.prog w=.ok (.func fn first cap) w:=fun _ _ _ _=>rfl;obtain⟨T,hT⟩:=xq (⟨t.toArray⟩:ByteArray)
 have bW:T.data.toList=t:=by rw[hT]
 have HF:Hid (Fits T.data.toList):=by show Fits _;rw[bW];exact ht
 have fF:=zq bW;rw[<-hT];have vC:=zq (Qq w (.cells #[.int .i64 0,.int .i64 0,.slice none 0 0] 47));have bU:=zq (aaz w (.cells #[.int .i64 0,.int .i64 0,.slice none 0 0] 47));have HX:=zq (hx.below vC.o);have eo:=zq (hs.below vC.o hsz)
 have eE:4<(w.alloc (.cells #[.int .i64 0,.int .i64 0,.slice none 0 0] 47)).heap.size:=by simp;omega
 clear hx hs hT bW ht;go_enter Tryz.func20,Tryz.ntmps20;go_wp2_with fail;refine(M7 T _ HF.o HX.o eo.o eE).mono ?_;rintro e w1 hn;unfold FU at hn;rw[fF.o]at hn
 cases hK:aw 1 (Qx t) with
 |error p=>
  obtain⟨c,k⟩:=p;rw[hK]at hn;obtain⟨rfl,hb⟩:=hn;have bF:=(Sv _ _ _ hK).1
  have HV:Hid (ae.Yg t=.error 7):=by show _=_;unfold ae.Yg;rw[hK]
  simp only at bF
  have fg:((k:Int) !=0)=true:=by simp;omega
  have hb1:Below w.heap.size w w1:=Qz vC.o hb;have hg1:w1.heap[w.heap.size]?=some (.cells #[.int .i64 0,.int .i64 0,.slice none 0 0] 47 (0,0)):=(hb.block _ (by simp)).trans bU.o;have fe:w.heap.size<w1.heap.size:=(aal.1 hg1).1;obtain⟨c0,c1,c2,z0,z1,z2⟩:=Ts hg1;obtain⟨k1,k2⟩:=Ft hg1 (.int .i64 0) (.int .i64 0) (.slice none 0 0);have k3:=R7 hb1 k2 (aaa _);have K1:=zq (fun b:Obj=>((Qq (((w1.setCell ⟨w.heap.size,0,none⟩ (.int .i64 0)).setCell ⟨w.heap.size,1,none⟩ (.int .i64 0)).setCell ⟨w.heap.size,2,none⟩ (.slice none 0 0)) b).block w.heap.size (aaj fe k2.size)).trans k1);have K2:=zq (fun b:Obj=>Qz k3 (Qq (((w1.setCell ⟨w.heap.size,0,none⟩ (.int .i64 0)).setCell ⟨w.heap.size,1,none⟩ (.int .i64 0)).setCell ⟨w.heap.size,2,none⟩ (.slice none 0 0)) b));clear hb hb1 hg1 k1 k2 k3 hK bF;go_wp2_with fail;refine aaI (Qc rfl _ _ w.heap.size 47 _ _ _ rfl (K1.o _) Tryz.underlying47 rfl (by kernel_rfl)) rfl ?_;unfold R0;rw[HV.o]
  exact⟨rfl,K2.o _⟩
 |ok ts=>
  rw[hK]at hn;obtain⟨R,tv,rfl,hR,hb,h⟩:=hn;obtain⟨fin,ah⟩:=xq ((Qx t).length+1);rw[<-ah]at h;have dB:=ae.Vn fin (ts.length+3) (s:=⟨ts,0⟩) (aaa _) (aaa _)
  have hne:ae.Xl fin (ts.length+3) ⟨ts,0⟩≠none:=by intro e;simp only[e]at dB;exact dB.elim
  have hgr:ae.Good ts.length (iI fin (ts.length+3) ⟨ts,0⟩):=ae.Good.bind dB (fun a s hl=>by
   unfold ae.done;split
   ·exact ae.Zh a (by simp at hl;omega)
   exact ae.W8 _ _ _)
  have fB:Hid (ae.Yg t=match iI fin (ts.length+3) ⟨ts,0⟩ with|none=> .error 0|some (.error (_,k))=> .error (if k=2\/k=5 then k else 7)|some (.ok (m,_))=> .ok m):=by show _=_;unfold ae.Yg;rw[hK,ah];rfl
  have kG:=zq hgr;have bR:=zq hne;have hb1:Below w.heap.size w w1:=Qz vC.o hb;have hg1:w1.heap[w.heap.size]?=some (.cells #[.int .i64 0,.int .i64 0,.slice none 0 0] 47 (0,0)):=(hb.block _ (by simp)).trans bU.o
  have hRw:w.heap.size<R:=by simp at hR;omega
  have aT:=h.lt;obtain⟨w2,hw2⟩:=xq ((w1.alloc (.cells #[.pointer (some ⟨R,0,none⟩)] 77)).alloc (.cells #[.int .i64 0,.int .i64 0,.slice none 0 0] 47))
  have hb2:Below w1.heap.size w1 w2:=by rw[hw2];exact Qz (Qq _ _) (Qq _ _)
  have jG:w2.heap[w1.heap.size]?=some (.cells #[.pointer (some ⟨R,0,none⟩)] 77 (0,0)):=by rw[hw2];exact((Qq _ _).block _ (by simp)).trans (aaz w1 _)
  have jW:w2.heap[w1.heap.size+1]?=some (.cells #[.int .i64 0,.int .i64 0,.slice none 0 0] 47 (0,0)):=by rw[hw2];have:=aaz (w1.alloc (.cells #[.pointer (some ⟨R,0,none⟩)] 77)) (.cells #[.int .i64 0,.int .i64 0,.slice none 0 0] 47);rw[show (w1.alloc (.cells #[.pointer (some ⟨R,0,none⟩)] 77)).heap.size=w1.heap.size+1 by simp]at this;exact this
  have eF:w2.heap.size=w1.heap.size+2:=by rw[hw2];simp
  obtain⟨G,hG⟩:=xq w1.heap.size;rw[<-hG]at jG jW eF aT;have sW:=Qq w2 (.cells #[.int .i64 0,.int .i64 0] 81);have LU:=aaz w2 (.cells #[.int .i64 0,.int .i64 0] 81)
  have QE:=zq (Qqv (.pointer (some ⟨G,0,none⟩)) (.pointer (some ⟨G+1,0,none⟩)) w2
   (fun c k w'=>iI fin (ts.length+3) ⟨ts,0⟩=some (.error (c,k))/\Wr R (some (G+1)) w2 w')
   (fun w'=> ∃m s',iI fin (ts.length+3) ⟨ts,0⟩=some (.ok (m,s'))/\Wr R (some (G+1)) w2 w'/\ ∃av,w'.heap[G+1]?=some (.cells #[.int .i64 (m.rows:Nat),.int .i64 (m.aB:Nat),av] 47 (0,0))/\iY w' av m.at_)
   ((Qdv R tv ts fin (ts.length+3) ⟨ts,0⟩ G (G+1) _ ((h.below hb2).below sW) ((sW.block G (by omega)).trans jG) ((sW.block (G+1) (by omega)).trans jW) (by omega) (by omega) (by omega) hne).mono fun e w' hq=>by
      unfold RmP at hq
      have fr:∀w',Wr R (some (G+1)) (w2.alloc (.cells #[.int .i64 0,.int .i64 0] 81)) w'->w'.heap[w2.heap.size]?=some (.cells #[.int .i64 0,.int .i64 0] 81 (0,0))/\Wr R (some (G+1)) w2 w':=fun w' hw=>⟨(hw.block _ (by simp) (by omega) (by simp;omega)).trans LU,(Wr.af sW).trans (Mv.refl _ _) hw⟩
      rcases hL:iI fin (ts.length+3) ⟨ts,0⟩ with- |(⟨c,k⟩|⟨m,s'⟩)<;>rw[hL]at hq
      ·exact hq.elim
      ·exact⟨(fr w' hq.2).1,.inl ⟨c,k,hq.1,rfl,(fr w' hq.2).2⟩⟩
      exact⟨(fr w' hq.2.1).1,.inr ⟨hq.1,m,s',rfl,(fr w' hq.2.1).2,hq.2.2⟩⟩))
  have hb3:=Qz hb1 (hb2.mono (by omega));have ji:=zq (Qz hb1 hb2);have hg2:w2.heap[w.heap.size]?=some (.cells #[.int .i64 0,.int .i64 0,.slice none 0 0] 47 (0,0)):=(hb2.block _ (by omega)).trans hg1;have fE:=zq hg2;clear h hb hb1 hg1 hb2 jG jW dB hne hgr sW LU hb3 hg2 hK ah;go_wp2_with fail;rw[<-hw2,<-hG];clear hw2 hG;refine QE.o.mono ?_;rintro e w4 ⟨w3,hg3,gC,⟨c,k,rfl,hL,fO⟩|⟨rfl,m,s',hL,fO,av,mR,ri⟩⟩
  ·have bF:0<k:=by
    have:=kG.o;rw[hL]at this;exact this
   have HV:Hid (ae.Yg t=.error (if k=2\/k=5 then k else 7)):=by show _=_;rw[fB.o,hL]
   have fK:Below (w.heap.size+1) w2 w4:=gC.aX (fO.aX (aa8 _ _) (by omega) (by omega) (fun q hq=>by cases hq;omega)) (by have:=fO.size;omega) (by omega) (fun q hq=>by cases hq)
   have aa0:((k:Int)==0)=false:=by simp;omega
   have CQ:w.heap.size<w4.heap.size:=by have:=fK.size;omega
   have hg4:=(fK.block w.heap.size (by omega)).trans fE.o;have hw4:Below w.heap.size w w4:=ji.o.trans (fK.mono (by omega));obtain⟨y0,y1,y2,x0,x1,x2⟩:=Ts hg4;obtain⟨j1,j2⟩:=Ft hg4 (.int .i64 0) (.int .i64 0) (.slice none 0 0);have j3:=R7 hw4 j2 (aaa _);have J1:=zq (fun b:Obj=>((Qq (((w4.setCell ⟨w.heap.size,0,none⟩ (.int .i64 0)).setCell ⟨w.heap.size,1,none⟩ (.int .i64 0)).setCell ⟨w.heap.size,2,none⟩ (.slice none 0 0)) b).block w.heap.size (aaj CQ j2.size)).trans j1);have J2:=zq (fun b:Obj=>Qz j3 (Qq (((w4.setCell ⟨w.heap.size,0,none⟩ (.int .i64 0)).setCell ⟨w.heap.size,1,none⟩ (.int .i64 0)).setCell ⟨w.heap.size,2,none⟩ (.slice none 0 0)) b));clear hg3 gC hL fO fK hg4 hw4 j1 j2 j3;by_cases h2:k=2
   ·subst h2
    have iH:Hid (ae.Yg t=.error 2):=by show _=_;rw[HV.o,if_pos (.inl rfl)]
    go_wp2_with fail;go_region
    all_goals
     go_wp2_with fail;refine aaI (Qc rfl _ _ w.heap.size 47 _ _ _ rfl (J1.o _) Tryz.underlying47 rfl (by kernel_rfl)) rfl ?_;unfold R0;rw[iH.o];exact⟨rfl,(J2.o _).drew⟩
   by_cases h5:k=5
   ·subst h5
    have iH:Hid (ae.Yg t=.error 5):=by show _=_;rw[HV.o,if_pos (.inr rfl)]
    go_wp2_with fail;go_region
    all_goals
     go_wp2_with fail;refine aaI (Qc rfl _ _ w.heap.size 47 _ _ _ rfl (J1.o _) Tryz.underlying47 rfl (by kernel_rfl)) rfl ?_;unfold R0;rw[iH.o];exact⟨rfl,(J2.o _).drew⟩
   have e2:((k:Int)==2)=false:=by simp;omega
   have e5:((k:Int)==5)=false:=by simp;omega
   have iH:Hid (ae.Yg t=.error 7):=by show _=_;rw[HV.o,if_neg (by omega)]
   go_wp2_with fail;refine aaI (Qc rfl _ _ w.heap.size 47 _ _ _ rfl (J1.o _) Tryz.underlying47 rfl (by kernel_rfl)) rfl ?_;unfold R0;rw[iH.o];exact⟨rfl,J2.o _⟩
  have HV:Hid (ae.Yg t=.ok m):=by show _=_;rw[fB.o,hL]
  have fK:Below (w.heap.size+1) w2 w4:=gC.aX (fO.aX (aa8 _ _) (by omega) (by omega) (fun q hq=>by cases hq;omega)) (by have:=fO.size;omega) (by omega) (fun q hq=>by cases hq);have ha:=Qq w4 (.cells #[.int .i64 0,.int .i64 0] 81)
  have CQ:w.heap.size<w4.heap.size:=by have:=fK.size;omega
  have hg4:=(fK.block w.heap.size (by omega)).trans fE.o;have hw4:Below w.heap.size w w4:=ji.o.trans (fK.mono (by omega));have CL:=ri.stay (Qgu hg3) gC.BD;have kx:w4.heap[G+1]?=some (.cells #[.int .i64 (m.rows:Nat),.int .i64 (m.aB:Nat),av] 47 (0,0)):=(gC.block (G+1) ((aal.1 mR).1) (by omega) (by simp)).trans mR;have ZZ:G+1<w4.heap.size:=(aal.1 kx).1;obtain⟨ao,cap,rfl,-,-,-⟩:=ri;obtain⟨ln,fh⟩:=xq m.at_.length;rw[<-fh]at CL kx;obtain⟨c0,c1,c2,z0,z1,z2⟩:=Ts hg4;obtain⟨d0,d1,d2,-,-,-⟩:=Ts kx;obtain⟨j1,j2⟩:=Ft hg4 (.int .i64 (m.rows:Nat)) (.int .i64 (m.aB:Nat)) (.slice ao ln cap);have j3:=R7 hw4 j2 (aaa _);have J1:=zq (fun b:Obj=>((Qq (((w4.setCell ⟨w.heap.size,0,none⟩ (.int .i64 (m.rows:Nat))).setCell ⟨w.heap.size,1,none⟩ (.int .i64 (m.aB:Nat))).setCell ⟨w.heap.size,2,none⟩ (.slice ao ln cap)) b).block w.heap.size (aaj CQ j2.size)).trans j1);have J2:=zq (fun b:Obj=>Qz j3 (Qq (((w4.setCell ⟨w.heap.size,0,none⟩ (.int .i64 (m.rows:Nat))).setCell ⟨w.heap.size,1,none⟩ (.int .i64 (m.aB:Nat))).setCell ⟨w.heap.size,2,none⟩ (.slice ao ln cap)) b));have J3:=zq (fun b:Obj=>(CL.stay (Qfb (z:=.slice none 0 0) hg4 ⟨(fun b e=>by cases e),(fun x e=>by cases e)⟩) j2).below (Qq _ b));clear hg3 gC hL fO fK hg4 hw4 j1 j2 j3 CL mR kx fh ha;go_wp2_with fail;refine aaI (Qc rfl _ _ w.heap.size 47 _ _ _ rfl (J1.o _) Tryz.underlying47 rfl (by kernel_rfl)) rfl ?_;unfold R0;rw[HV.o];exact⟨.slice ao ln cap,rfl,J2.o _,J3.o _⟩
theorem Qfg {w:World}{g:Nat}{x:Value}(h:w.heap[g]?=some (.cells #[x] 97 (0,0)))(x':Value):(w.setCell ⟨g,0,none⟩ x').heap[g]?=some (.cells #[x'] 97 (0,0))/\w.grownBy (w.setCell ⟨g,0,none⟩ x') (some g):=by have s0:=aas w g 0 _ 97 x' h;refine⟨s0.trans (by simp),rfl,rfl,rfl,by simp[World.setCell],fun k _ hk=> ?_⟩;have E:k≠g:=fun e=>hk (by rw[e]);exact aaX _ ⟨g,0,none⟩ k _ E
def vA (fin f:Nat)(s:ae.St):ae.PR (List (List Nat)):=(ae.Q8 fin f s).bind fun m s=>ae.done fin m s
def CxP (r:ae.PR (List (List Nat)))(R mb:Nat)(w:World)(e:Ending)(w':World):Prop:=
 match r with
 |none=>False
 |some (.error (c,k))=>e=Sz c k/\Wr R (some mb) w w'/\ ∃ao n cap,w'.heap[mb]?=some (.cells #[.slice ao n cap] 97 (0,0))
 |some (.ok (l,_))=>e=.returned (.tuple #[])/\Wr R (some mb) w w'/\ ∃lv dS,w'.heap[mb]?=some (.cells #[lv] 97 (0,0))/\Cx w' w.heap.size lv dS l
theorem Qct (R:Nat)(tv:Value)(L:List Tok)(fin f:Nat)(s:ae.St)(pb mb:Nat)(w:World)(h:RS w R tv L fin 0 s (.slice none 0 0) [])(hp:w.heap[pb]?=some (.cells #[.pointer (some ⟨R,0,none⟩)] 77 (0,0)))(hm:w.heap[mb]?=some (.cells #[.slice none 0 0] 97 (0,0)))(Oe:R<pb)(hmR:R<mb)(vg:pb≠mb)(hne:ae.Q8 fin f s≠none):Calls Tryz.prog 113 #[.pointer (some ⟨pb,0,none⟩),.pointer (some ⟨mb,0,none⟩)] w (CxP (vA fin f s) R mb w):=by
 have HS:=zq h;have bR:=zq hne;have hpl:=(aal.1 hp).1;have ct:=(aal.1 hm).1;have HP:=zq hp;have HM:=zq hm;obtain⟨r,hr⟩:=xq (vA fin f s);have HR:=zq hr;rw[<-hr]
 have c0:w.cell? ⟨pb,0,none⟩=some (.pointer (some ⟨R,0,none⟩)):=by rw[aam _ _ 0 _ _ _ hp];rfl
 clear h hne hp hm hr;go_enter Tryz.func113,Tryz.ntmps113;go_wp2_with fail;refine(Qvq R tv L fin 0 s _ [] _ HS.o f bR.o).mono ?_;rintro e w1 hn
 rcases hN:ae.Q8 fin f s with- |(⟨fc,fk⟩|⟨m,s2⟩)<;>rw[hN]at hn
 ·exact hn.elim
 ·obtain⟨rfl,n1⟩:=hn
  refine⟨rfl,?_⟩
  have bu:r=some (.error (fc,fk)):=by rw[HR.o];unfold vA;rw[hN];rfl
  rw[bu];exact⟨rfl,n1.weak _,_,_,_,(n1.block mb ct (by omega) (by simp)).trans HM.o⟩
 obtain⟨v2,a2,rfl,n1,n2,n3,dS,n4⟩:=hn
 have zT:Hid (r=ae.done fin m s2):=by show _=_;rw[HR.o];unfold vA;rw[hN];rfl
 have cW:w1.heap[mb]?=some (.cells #[.slice none 0 0] 97 (0,0)):=(n2.block mb ct (by omega) (by simp)).trans HM.o;have kP:w1.heap[pb]?=some (.cells #[.pointer (some ⟨R,0,none⟩)] 77 (0,0)):=(n2.block pb hpl (by omega) (by simp)).trans HP.o;have abc:=(aal.1 cW).1;have DF:=(aal.1 kP).1;obtain⟨ao,cap,hv2,-,-,-⟩:=Qj n4.own;obtain⟨ln,fh⟩:=xq dS.length;rw[<-fh]at hv2;subst hv2
 have e0:w1.cell? ⟨pb,0,none⟩=some (.pointer (some ⟨R,0,none⟩)):=by rw[aam _ _ 0 _ _ _ kP];rfl
 have d0:w1.cell? ⟨mb,0,none⟩=some (.slice none 0 0):=by rw[aam _ _ 0 _ _ _ cW];rfl
 have z0:w1.frozen? ⟨mb,0,none⟩=false:=aaH _ _ 0 _ _ cW;obtain⟨s0,hgr⟩:=Qfg cW (.slice ao ln cap);have bn:=zq hgr;have zN:=zq s0;have UN:=zq (n4.wr (Wr.aI w1 0 (.slice ao ln cap)) ct);have zY:=zq (n1.pj hgr (fun q hq=>by cases hq;exact⟨hmR,by simp[Value.ownBlock],fun p hp=>by cases hp⟩)).1;have nK:Hid ((w1.setCell ⟨mb,0,none⟩ (.slice ao ln cap)).heap[pb]?=some (.cells #[.pointer (some ⟨R,0,none⟩)] 77 (0,0))):=(hgr.block pb DF (by simp;exact vg)).trans kP;have gM:Hid (Wr R (some mb) w (w1.setCell ⟨mb,0,none⟩ (.slice ao ln cap))):=(n2.weak _).trans (Mv.refl _ _) (Wr.cV hgr);obtain⟨a5,ha5⟩:=xq a2;clear n1 n2 n3 n4 hN cW kP s0 hgr fh ha5;go_wp2_with fail;obtain⟨w3,hw3⟩:=xq (w1.setCell ⟨mb,0,none⟩ (.slice ao ln cap));rw[<-hw3]at bn zN UN zY nK gM ⊢;clear hw3 d0 z0 e0 c0;refine(Nh R tv L fin a2 s2 _ _ _ zY.o).mono ?_;rintro e w4 ⟨rfl,b1⟩;have fq:=zq (zY.o.below b1);have kx:w4.heap[mb]?=some (.cells #[.slice ao ln cap] 97 (0,0)):=(b1.block mb ((aal.1 zN.o).1)).trans zN.o;have vS:=zq kx;have vK:=zq (UN.o.wr (Wr.af (R:=R) b1) (by omega));have cJ:Hid (Wr R (some mb) w w4):=gM.o.trans (Mv.refl _ _) (Wr.af b1)
 have c4:w4.cell? ⟨pb,0,none⟩=some (.pointer (some ⟨R,0,none⟩)):=by have:=(b1.block pb ((aal.1 nK.o).1)).trans nK.o;rw[aam _ _ 0 _ _ _ this];rfl
 clear b1 kx;by_cases dm:s2.ts=[]
 ·have jS:Hid (r=some (.ok (m,s2))):=by show _=_;rw[zT.o];unfold ae.done;rw[if_pos dm];rfl
  rw[abH dm];clear dm;go_wp2_with fail
  first|go_end0|refine aaI (adF rfl _ _ _) rfl ?_
  rw[jS.o];exact⟨rfl,cJ.o,_,_,vS.o,vK.o⟩
 have jS:Hid (r=ae.dh fin s2):=by show _=_;rw[zT.o];unfold ae.done;rw[if_neg dm]
 rw[abC dm];clear dm;go_wp2_with fail;refine(Sn R tv L fin a2 s2 _ _ _ fq.o).mono ?_;rintro e w5 ⟨rfl,b1⟩;refine⟨rfl,?_⟩;rw[jS.o];exact⟨rfl,cJ.o.trans (Mv.refl _ _) ((Wr.af (R:=R) (og:=none) b1).weak _),_,_,_,(b1.block mb ((aal.1 vS.o).1)).trans vS.o⟩
def Hd (t:Bytes)(w:World)(e:Ending)(w':World):Prop:=
 match ae.Zn t with
 |none=> ∃ao n cap,e=.returned (.tuple #[.slice ao n cap,.bool false])/\Below w.heap.size w w'
 |some l=> ∃lv dS,e=.returned (.tuple #[lv,.bool true])/\Below w.heap.size w w'/\Cx w' w.heap.size lv dS l
theorem Cx.lower {w:World}{B B':Nat}{v:Value}{dS:List Value}{l:List (List Nat)}(h:Cx w B v dS l)(hb:B'<=B):Cx w B' v dS l:=
 ⟨X0 h.own hb,h.len,fun j sv s h1 h2=>(h.el j sv s h1 h2).mono hb⟩
theorem K7 (t:Bytes)(w:World)(ht:t.length<=67108864)(hx:Lx w)(hs:SG w)(hsz:4<w.heap.size):Calls Tryz.prog 57 #[.string ⟨t.toArray⟩] w (Hd t w):=by
 have ky:∀(fn:Fn) (first cap:Array Value) (w:World),(Instr.makeFunc fn first cap).run Tryz.prog w=.ok (.func fn first cap) w:=fun _ _ _ _=>rfl;obtain⟨T,hT⟩:=xq (⟨t.toArray⟩:ByteArray)
 have bW:T.data.toList=t:=by rw[hT]
 have HF:Hid (Fits T.data.toList):=by show Fits _;rw[bW];exact ht
 have fF:=zq bW;have HX:=zq hx;have eo:=zq hs;rw[<-hT];clear hx hs hT bW ht;go_enter Tryz.func57,Tryz.ntmps57;go_wp2_with fail;refine(M7 T _ HF.o HX.o eo.o hsz).mono ?_;rintro e w1 hn;unfold FU at hn;rw[fF.o]at hn
 cases hK:aw 1 (Qx t) with
 |error p=>
  obtain⟨c,k⟩:=p;rw[hK]at hn;obtain⟨rfl,hb⟩:=hn;have bF:=(Sv _ _ _ hK).1
  have HV:Hid (ae.Zn t=none):=by show _=_;unfold ae.Zn;rw[hK]
  simp only at bF
  have fg:((k:Int) !=0)=true:=by simp;omega
  have HB:=zq (fun b:Obj=>hb.alloc hb.size b);clear hb hK bF;go_wp2_with fail;go_ret2;unfold Hd;rw[HV.o]
  exact⟨_,_,_,rfl,HB.o _⟩
 |ok ts=>
  rw[hK]at hn;obtain⟨R,tv,rfl,hR,hb,h⟩:=hn;obtain⟨fin,ah⟩:=xq ((Qx t).length+1);rw[<-ah]at h;have dB:=ae.Wj fin (ts.length+2) (s:=⟨ts,0⟩) (aaa _) (aaa _)
  have hne:ae.Q8 fin (ts.length+2) ⟨ts,0⟩≠none:=by intro e;simp only[e]at dB;exact dB.elim
  have hgr:ae.Good ts.length (vA fin (ts.length+2) ⟨ts,0⟩):=ae.Good.bind dB (fun a s hl=>by
   unfold ae.done;split
   ·exact ae.Zh a (by simp at hl;omega)
   exact ae.W8 _ _ _)
  have fB:Hid (ae.Zn t=match vA fin (ts.length+2) ⟨ts,0⟩ with|some (.ok (m,_))=>some m|_=>none):=by show _=_;unfold ae.Zn;rw[hK,ah];rfl
  have kG:=zq hgr;have aT:=h.lt;obtain⟨w2,hw2⟩:=xq ((w1.alloc (.cells #[.pointer (some ⟨R,0,none⟩)] 77)).alloc (.cells #[.slice none 0 0] 97))
  have hb2:Below w1.heap.size w1 w2:=by rw[hw2];exact Qz (Qq _ _) (Qq _ _)
  have jG:w2.heap[w1.heap.size]?=some (.cells #[.pointer (some ⟨R,0,none⟩)] 77 (0,0)):=by rw[hw2];exact((Qq _ _).block _ (by simp)).trans (aaz w1 _)
  have jW:w2.heap[w1.heap.size+1]?=some (.cells #[.slice none 0 0] 97 (0,0)):=by rw[hw2];have:=aaz (w1.alloc (.cells #[.pointer (some ⟨R,0,none⟩)] 77)) (.cells #[.slice none 0 0] 97);rw[show (w1.alloc (.cells #[.pointer (some ⟨R,0,none⟩)] 77)).heap.size=w1.heap.size+1 by simp]at this;exact this
  have eF:w2.heap.size=w1.heap.size+2:=by rw[hw2];simp
  obtain⟨G,hG⟩:=xq w1.heap.size;rw[<-hG]at jG jW eF aT;have sW:=Qq w2 (.cells #[.int .i64 0,.int .i64 0] 81);have LU:=aaz w2 (.cells #[.int .i64 0,.int .i64 0] 81)
  have QE:=zq (Qqj (.pointer (some ⟨G,0,none⟩)) (.pointer (some ⟨G+1,0,none⟩)) w2
   (fun c k w'=>vA fin (ts.length+2) ⟨ts,0⟩=some (.error (c,k))/\Wr R (some (G+1)) w2 w'/\ ∃ao n cap,w'.heap[G+1]?=some (.cells #[.slice ao n cap] 97 (0,0)))
   (fun w'=> ∃m s',vA fin (ts.length+2) ⟨ts,0⟩=some (.ok (m,s'))/\Wr R (some (G+1)) w2 w'/\ ∃lv dS,w'.heap[G+1]?=some (.cells #[lv] 97 (0,0))/\Cx w' (w2.heap.size+1) lv dS m)
   ((Qct R tv ts fin (ts.length+2) ⟨ts,0⟩ G (G+1) _ ((h.below hb2).below sW) ((sW.block G (by omega)).trans jG) ((sW.block (G+1) (by omega)).trans jW) (by omega) (by omega) (by omega) hne).mono fun e w' hq=>by
      unfold CxP at hq
      have fr:∀w',Wr R (some (G+1)) (w2.alloc (.cells #[.int .i64 0,.int .i64 0] 81)) w'->w'.heap[w2.heap.size]?=some (.cells #[.int .i64 0,.int .i64 0] 81 (0,0))/\Wr R (some (G+1)) w2 w':=fun w' hw=>⟨(hw.block _ (by simp) (by omega) (by simp;omega)).trans LU,(Wr.af sW).trans (Mv.refl _ _) hw⟩
      rcases hL:vA fin (ts.length+2) ⟨ts,0⟩ with- |(⟨c,k⟩|⟨m,s'⟩)<;>rw[hL]at hq
      ·exact hq.elim
      ·exact⟨(fr w' hq.2.1).1,.inl ⟨c,k,hq.1,rfl,(fr w' hq.2.1).2,hq.2.2⟩⟩
      obtain⟨lv,dS,q1,q2⟩:=hq.2.2
      have e0:(w2.alloc (.cells #[.int .i64 0,.int .i64 0] 81)).heap.size=w2.heap.size+1:=by simp
      rw[e0]at q2
      exact⟨(fr w' hq.2.1).1,.inr ⟨hq.1,m,s',rfl,(fr w' hq.2.1).2,lv,dS,q1,q2⟩⟩))
  have ji:=zq (Qz hb hb2)
  have hwG:w.heap.size<=G:=by rw[hG];exact hb.size
  clear h hb hb2 jG jW dB hne hgr sW LU hK ah;go_wp2_with fail;rw[<-hw2,<-hG];clear hw2 hG;refine QE.o.mono ?_;rintro e w4 ⟨w3,hg3,gC,⟨c,k,rfl,hL,fO,lo,lnn,bE,mR⟩|⟨rfl,m,s',hL,fO,lv,dS,mR,ri⟩⟩
  ·have bF:0<k:=by
    have:=kG.o;rw[hL]at this;exact this
   have HV:Hid (ae.Zn t=none):=by show _=_;rw[fB.o,hL]
   have fK:Below w.heap.size w2 w4:=gC.aX (fO.aX (aa8 _ _) (by omega) (by omega) (fun q hq=>by cases hq;omega)) (by have:=fO.size;omega) (by omega) (fun q hq=>by cases hq);have kx:w4.heap[G+1]?=some (.cells #[.slice lo lnn bE] 97 (0,0)):=(gC.block (G+1) ((aal.1 mR).1) (by omega) (by simp)).trans mR
   have aa0:((k:Int)==0)=false:=by simp;omega
   have ZZ:G+1<w4.heap.size:=(aal.1 kx).1
   have c4:w4.cell? ⟨G+1,0,none⟩=some (.slice lo lnn bE):=by rw[aam _ _ 0 _ _ _ kx];rfl
   have dU:=zq (fun b:Obj=>(ji.o.trans fK).alloc (aan ji.o.size fK.size) b);clear hg3 gC hL fO fK kx mR;go_wp2_with fail;go_region
   all_goals
    go_wp2_with fail;go_ret2;unfold Hd;rw[HV.o];exact⟨_,_,_,rfl,(dU.o _).drew⟩
  have HV:Hid (ae.Zn t=some m):=by show _=_;rw[fB.o,hL]
  have fK:Below w.heap.size w2 w4:=gC.aX (fO.aX (aa8 _ _) (by omega) (by omega) (fun q hq=>by cases hq;omega)) (by have:=fO.size;omega) (by omega) (fun q hq=>by cases hq);have kx:w4.heap[G+1]?=some (.cells #[lv] 97 (0,0)):=(gC.block (G+1) ((aal.1 mR).1) (by omega) (by simp)).trans mR;have CL:=ri.wr gC (aet _);obtain⟨ao,cap,hv2,-,-,-⟩:=Qj ri.own;obtain⟨ln,fh⟩:=xq dS.length;rw[<-fh]at hv2;subst hv2;have ZZ:G+1<w4.heap.size:=(aal.1 kx).1
  have c4:w4.cell? ⟨G+1,0,none⟩=some (.slice ao ln cap):=by rw[aam _ _ 0 _ _ _ kx];rfl
  have dU:=zq (fun b:Obj=>(ji.o.trans fK).alloc (aan ji.o.size fK.size) b);have UI:=zq (fun b:Obj=>((CL.wr (Wr.af (R:=G) ((Qq w4 b).drew)) (by omega)).lower (B':=w.heap.size) (by omega)));clear hg3 gC hL fO fK kx mR CL ri fh;go_wp2_with fail;go_region
  all_goals
   go_wp2_with fail;go_ret2;unfold Hd;rw[HV.o];exact⟨_,dS,rfl,(dU.o _).drew,UI.o _⟩
end Go.Proofs.YtgfmiladfeoldaaGreatDoor
namespace ag
theorem Qgw {b:UInt8}{t:Bytes}{v n:Nat}(h:dec (b::t)=some (v,n))(hb:128<=b.toNat):128<=v:=by
 unfold dec at h;simp only[show ¬b.toNat<128 from by omega,aeb]at h;split at h
 ·split at h
  ·split at h
   ·rename_i E
    simp only[aaY,aaV]at E;simp at h;omega
   cases h
  cases h
 split at h
 ·split at h
  ·split at h
   ·rename_i E
    simp only[aaY,aaV]at E;simp at h;omega
   cases h
  cases h
 split at h
 ·split at h
  ·split at h
   ·rename_i E
    simp only[aaY,aaV]at E;simp at h;omega
   cases h
  cases h
 cases h
theorem Qm9 {b:UInt8}{t:Bytes}(h:aF.Qf b=false):(val (b::t)).getD 65533<=0x10ffff/\10<=ai.bp ((val (b::t)).getD 65533):=by
 have I: ¬(48<=b.toNat/\b.toNat<=57):=by intro J;unfold aF.Qf at h;simp at h;omega
 unfold val
 cases jw:dec (b::t) with
 |none=>exact⟨by decide,by decide⟩
 |some p=>
  obtain⟨v,n⟩:=p;have E:=ZC jw;show v<=0x10ffff/\10<=ai.bp v;refine⟨E,?_⟩
  have H: ¬(48<=v/\v<=57):=by
   by_cases hb:b.toNat<128
   ·rw[Qgy jw hb];exact I
   have:=Qgw jw (by omega);omega
  unfold ai.bp;rw[if_neg H];split
  ·omega
  split<;>omega
end ag
namespace Go.Proofs.YtgfmiladfeoldaaGreatDoor
open Go.RowKit ai ag
def Qpu (s:ByteArray)(w:World)(k:Nat)(dv:Value)(wr:World):Prop:=
 ∃pos,pos<=s.size/\wr.heap[k]?=some (.stringIter s pos)/\Below w.heap.size w wr/\wr.ownsRow w.heap.size 5 1 dv (ag.aO (s.data.toList.take pos)).length (qY (ag.aO (s.data.toList.take pos)))/\dv.ownBlock≠some k/\ ∀c∈s.data.toList.take pos,aF.Qf c=true
theorem Qm7 (s:ByteArray)(w:World)(hs:s.size<=67108864)(hd:s.size=0\/ ∃c∈s.data.toList,aF.Qf c=false):Calls Tryz.prog 236 #[.string s,.int .i64 10] w fun e w'=>e=.returned (.tuple #[.slice none 0 0,.int .i64 7])/\Below w.heap.size w w':=by
 obtain⟨i0,hi,hz0,hz1,hz2⟩:=abO Tryz.uy;have hsz:s.data.toList.length=s.size:=(abg s).symm;have dN:=zq hsz;have HD:=zq hd;clear hsz hd;go_enter Tryz.func236,Tryz.ntmps236;go_wp2_with (at_make;refine wpList_make_own _ rfl _ _ 88 rfl w.heap.size 5 i0 (.int .u8 0) 1 Tryz.underlying88 hi hz0 hz1 _ _ _ s.size rfl rfl rfl ?b1 ?b2 ?b3 ?_)
 case b1=>rw[hz2];omega
 case b2=>unfold maxLen;omega
 case b3=>exact aaa _
 intro w1 hown1 hgrow1;have hb1:Below w.heap.size w w1:=abq (aa8 _ _) hgrow1 (aaa _) (fun k hk=>by cases hk);have zh:=hb1.size;have HO:=zq hown1;have aC:=zq hb1;clear hown1 hgrow1 hb1;have GL:w.heap.size<w1.heap.size:=(HO.o.lt w.heap.size rfl).2;go_wp2_with fail;go_loopw [6] (fun v wr=>Qpu s w w1.heap.size v wr) (fun _ wr=>s.size-wr.iterPos w1.heap.size)
 case atStart=>exact⟨0,aao _,World.iter_heap w1 s 0,aC.o.alloc zh _,HO.o.alloc _,by simp[Value.ownBlock];omega,by simp⟩
 case round=>
  obtain⟨pos,dC,hit,bz,hown,hne,hall⟩:=hrel;have eF:w1.heap.size<wr.heap.size:=(aal.1 hit).1;by_cases hlt:pos<s.size
  ·have hn:=fun ty=>Lib.run_next_any_at (P:=Tryz.prog) wr w1.heap.size s pos ty hit hlt
   have hpl:pos<s.data.toList.length:=by rw[dN.o];exact hlt
   by_cases dO: ¬aF.Qf s.data.toList[pos]=true
   ·have jw:=aaS hpl
    have hval:=ag.Qm9 (b:=s.data.toList[pos]) (t:=s.data.toList.drop (pos+1)) (by simpa using dO);rw[<-jw]at hval;rw[ag.W0 s pos hlt,ag.W5 s pos hlt]at hn;obtain⟨rv,uf⟩:=xq ((ag.val (s.data.toList.drop pos)).getD 65533);rw[<-uf]at hn hval;obtain⟨rw_,hrw⟩:=xq (ag.wid (s.data.toList.drop pos));rw[<-hrw]at hn;obtain⟨wi,ij⟩:=xq (wr.iterAt w1.heap.size s (pos+rw_):World)
    have q2:Below w.heap.size w wi:=by rw[ij];exact Lib.below_iterAt bz (abD GL) _ _
    rw[<-ij]at hn;obtain⟨dv,mO⟩:=xq (bp rv);obtain⟨gB,hv2⟩:=hval;rw[<-mO]at hv2;have ma:=zq mO;have Q2:=zq q2;clear ij hown bz hit jw uf hrw mO q2 hall dO;go_wp2_with fail;refine(Tj rv _ gB).mono ?_;rintro e w' ⟨rfl,rfl⟩;rw[<-ma.o];go_wp2_with fail;go_ret2;exact⟨rfl,Q2.o⟩
   have dO:aF.Qf s.data.toList[pos]=true:=by simpa using dO
   have jw:=aaS hpl;have bT:s.data.toList.take (pos+1)=s.data.toList.take pos++[s.data.toList[pos]]:=adw hpl;generalize s.data.toList[pos]=b at*
   have oH:48<=b.toNat/\b.toNat<=57:=by simpa [aF.Qf] using dO
   obtain⟨hv,hwd⟩:=ag.Ce (b:=b) (r:=s.data.toList.drop (pos+1)) (by omega);rw[ag.W0 s pos hlt,ag.W5 s pos hlt,jw,hv,hwd]at hn;simp only[aeH]at hn
   have hall':∀c∈s.data.toList.take (pos+1),aF.Qf c=true:=by
    intro c hc;rw[bT]at hc;rcases abZ.1 hc with hc|hc
    ·exact hall c hc
    rw[abu.1 hc];exact dO
   have bw:=zq hall'
   have ey:Hid (ag.aO (s.data.toList.take (pos+1))=ag.aO (s.data.toList.take pos)++[b.toNat-48]):=by show _=_;rw[bT,ag.Km];rfl
   have mO:bp b.toNat=b.toNat-48:=by unfold bp;rw[if_pos oH]
   have ma:=zq mO
   have iz:(ag.aO (s.data.toList.take pos)).length=pos:=by rw[ag.aO,aay,aak];omega
   have oY:=zq iz;obtain⟨wi,ij⟩:=xq (wr.iterAt w1.heap.size s (pos+1):World)
   have q1:wi.ownsRow w.heap.size 5 1 u6 (ag.aO (s.data.toList.take pos)).length (qY (ag.aO (s.data.toList.take pos))):=by rw[ij];exact hown.kept (Th wr w1.heap.size s (pos+1)) (.inr hne)
   have q2:Below w.heap.size w wi:=by rw[ij];exact Lib.below_iterAt bz (abD GL) _ _
   have q3:wi.heap[w1.heap.size]?=some (.stringIter s (pos+1)):=by rw[ij];exact Lib.iterAt_heap _ _ _ _ _ hit
   have q4:w1.heap.size<wi.heap.size:=(aal.1 q3).1;rw[<-ij]at hn
   have HM:Hid (s.size-(pos+1)<s.size-wr.iterPos w1.heap.size):=by show _<_;rw[Jd hit];omega
   clear ij hown bz hit jw bT hv hwd dO mO iz hall hall';have Q3:=zq q3;have Q2:=zq q2;have bR:=zq hne;clear q3 q2 hne;obtain⟨BJ,BK⟩:=oH;obtain⟨dg,dO⟩:=xq (b.toNat-48)
   have yN:dg<10:=by omega
   have pS:=zq dO;generalize ag.aO (s.data.toList.take pos)=F at*
   have hF:F.length<=67108864:=by have:=oY.o;omega
   clear dO;go_wp2_with fail;refine(Tj b.toNat _ (by omega)).mono ?_;rintro e w' ⟨rfl,rfl⟩;rw[ma.o,<-pS.o];go_wp2_with (at_builtin;refine adv _ rfl _ _ 88 rfl w.heap.size 5 i0 (.int .u8 0) 1 1 Tryz.underlying88 hi hz0 hz1 hz2 rfl (by decide) _ _ _ rfl (abj q1 _) ⟨wi.heap.size,0,none⟩ 1 1 [.int .u8 (dg:Nat)] rfl rfl (ag.Qh _ _ _ _ rfl) (by simp[Value.oneCell']) (by unfold maxLen;omega) (by omega) (by simp;omega) ?_);intro v3 w3 au ak _ mJ
   have hF2:w3.ownsRow w.heap.size 5 1 v3 (ag.aO (s.data.toList.take (pos+1))).length (qY (ag.aO (s.data.toList.take (pos+1)))):=by rw[ey.o,Gk,aac,<-pS.o];exact au
   have jz:w3.heap[w1.heap.size]?=some (.stringIter s (pos+1)):=
    (ak.block w1.heap.size (by simp;omega) (fun e=>bR.o e.symm)).trans ((aeu _ _ _ q4).trans Q3.o)
   have kF:Hid (Qpu s w w1.heap.size v3 w3):=⟨pos+1,by omega,jz,abq (Q2.o.alloc (by omega) _) ak (by simp;omega) (fun q hq=>(aaZ q1 q hq).1),hF2,by
    rcases mJ with h|h
    ·rw[h];exact bR.o
    rw[h];simp;omega,bw.o⟩
   have mj:Hid (s.size-w3.iterPos w1.heap.size<s.size-wr.iterPos w1.heap.size):=by show _<_;rw[Jd jz];exact HM.o
   clear au ak mJ hF2 jz q1;go_wp2_with fail
   first|exact⟨kF.o,mj.o⟩|exact⟨by (repeat apply Exists.intro);exact⟨kF.o,rfl⟩,mj.o⟩
  have hn:=fun ty=>Lib.run_next_end_at (P:=Tryz.prog) wr w1.heap.size s pos ty hit hlt;have y8:s.data.toList.take pos=s.data.toList:=aat (by rw[dN.o];omega);rw[y8]at hall
  have hz:s.size=0:=by
   rcases HD.o with h|⟨c,hc,GG⟩
   ·exact h
   rw[hall c hc]at GG;cases GG
  have hnil:s.data.toList=[]:=aaq (by rw[dN.o,hz]);obtain⟨ao,cp,qK,-,-,-⟩:=ag.Qj hown
  have e0:(ag.aO (s.data.toList.take pos)).length=0:=by rw[hnil];simp[ag.aO]
  rw[e0]at qK;subst qK;have dw:=zq bz;clear hown bz y8 hit hne hall hnil e0;go_wp2_with fail;go_ret2;exact⟨rfl,dw.o⟩
theorem Qxv (s:ByteArray)(w:World)(hs:s.size<=67108864)(hd:s.size=0\/ ∃c∈s.data.toList,aF.Qf c=false):Calls Tryz.prog 209 #[.string s] w fun e w'=>e=.returned (.tuple #[.slice none 0 0,.int .i64 7])/\Below w.heap.size w w':=by have HD:=zq hd;clear hd;go_enter Tryz.func209,Tryz.ntmps209;go_wp2_with fail;refine(Qm7 s _ hs HD.o).mono ?_;rintro e w2 ⟨rfl,h⟩;have H:=zq h;clear h;go_wp2_with fail;go_ret2;exact⟨rfl,H.o⟩
theorem Qq2 (t:Bytes)(w:World)(ht:t.length<=67108864)(hs:SG w)(hsz:4<w.heap.size):Calls Tryz.prog 161 #[.string ⟨t.toArray⟩] w fun e w'=>e=.returned (.bool (ae.kD t))/\Below w.heap.size w w':=by
 obtain⟨T,hT⟩:=xq (⟨t.toArray⟩:ByteArray)
 have bW:T.data.toList=t:=by rw[hT]
 have vn:T.size<=67108864:=by rw[abg,bW];exact ht
 have fF:=zq bW;have eo:=zq hs;rw[<-hT];clear hs hT ht;by_cases hd:0<T.size/\ ∀c∈T.data.toList,aF.Qf c=true
 ·have HV:Hid (ae.kD t=(ae.ar (aN (ag.aO t))==t)):=by
   show _=_;obtain⟨h1,h2⟩:=hd;rw[abg,bW]at h1;rw[bW]at h2;unfold ae.kD ae.Xg;rw[List.filter_eq_self.2 h2,aeJ.2 h2,abH (adJ.1 h1)];rfl
  have hlt:aN (ag.aO T.data.toList)<10^T.size:=by have:=Qzw T.data.toList;unfold ae.Xg at this;rw[List.filter_eq_self.2 hd.2,<-abg]at this;exact this
  have kH:=zq hlt;have HD:=zq hd;clear hd bW hlt;go_enter Tryz.func161,Tryz.ntmps161;go_wp2_with fail;refine(Kr T _ vn HD.o.1 HD.o.2).mono ?_;rintro e w2 ⟨v2,x2,rfl,a1,a2,a4,a5⟩;have hx2:x2.length<=8589934592:=aan (aan (Rv a4 (by rw[a2];exact kH.o)) vn) (by decide);obtain⟨ao,cap,hv2,-⟩:=a1.1.2;subst hv2;have dU:=zq (a5.mono (aaa _));have A1:=zq a1.1;have A5:=zq a5;have jm:=zq (eo.o.below a5 hsz);have A2:=zq a2;clear a1 a2 a4 a5;go_wp2_with fail;refine(Pi _ x2 _ jm.o A1.o hx2).mono ?_;rintro e w3 ⟨rfl,b1⟩;have B1:=zq b1;clear b1;rw[A2.o];go_wp2_with fail;go_ret;exact⟨by rw[HV.o,<-fF.o,<-adT];rfl,Qz A5.o B1.o⟩
 have hb:T.size=0\/ ∃c∈T.data.toList,aF.Qf c=false:=by
  by_cases h0:T.size=0
  ·exact .inl h0
  right;have h1: ¬ ∀c∈T.data.toList,aF.Qf c=true:=fun h=>hd ⟨by omega,h⟩;simp only[Classical.not_forall]at h1;obtain⟨c,hc,h2⟩:=h1;exact⟨c,hc,by simpa using h2⟩
 have HV:Hid (ae.kD t=false):=by
  show _=_;unfold ae.kD;rcases hb with h|⟨c,hc,GG⟩
  ·rw[abg,bW]at h
   rw[aaq h];rfl
  rw[bW]at hc
  rw[show t.all aF.Qf=false from by
   rw[List.all_eq_false]
   exact⟨c,hc,by simp[GG]⟩]
  simp
 have HB:=zq hb;clear hb hd bW;go_enter Tryz.func161,Tryz.ntmps161;go_wp2_with fail;refine(Qxv T _ vn HB.o).mono ?_;rintro e w2 ⟨rfl,h⟩;have H:=zq h;clear h;go_wp2_with fail;go_ret;exact⟨by rw[HV.o];rfl,H.o⟩
end Go.Proofs.YtgfmiladfeoldaaGreatDoor
