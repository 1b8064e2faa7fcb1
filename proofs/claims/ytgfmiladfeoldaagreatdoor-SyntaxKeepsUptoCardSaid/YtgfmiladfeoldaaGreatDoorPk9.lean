import Derived.Test.YtgfmiladfeoldaaGreatDoorPk3
import Derived.Test.YtgfmiladfeoldaaGreatDoorPk5
set_option linter.unusedSimpArgs false
set_option linter.unusedVariables false
set_option maxRecDepth 100000
set_option maxHeartbeats 16000000
namespace LexP
def Qbj:Nat->Bool
 |2=>true|3=>true|4=>true|9=>true|_=>false
theorem Qye {p:C->Bool}{A:List C}(hA:∀c∈A,p c=true):Qg p A=A.length:=
 Ue p _ _ (Nat.le_refl _) (fun c hc=>hA c (List.mem_of_mem_take hc)) (fun c hc=>by simp at hc)
def asC (t:Qx):List C:=t.map fun b=>(some b.toNat,[b])
theorem Qvj:∀(t r:Qx),Tg t->Qz (t++r)=asC t++Qz r:=by
 intro t
 induction t with
 |nil=>intro r _;rfl
 |cons b t ih=>
  intro r h
  have E:b.toNat<0x80:=by
   rcases h b (by simp) with h|rfl
   ·simp[NumP.Xz]at h;omega
   ·decide
  rw[List.cons_append,W9 E,ih r (fun c hc=>h c (by simp[hc]))];rfl
theorem Qpb {t:Qx}(h:Tg t):∀c∈asC t,Q7 c=true:=by
 intro c H;obtain⟨b,E,rfl⟩:=List.mem_map.1 H;rcases h b E with I|rfl
 ·simp only[NumP.Xz,Bool.and_eq_true,decide_eq_true_eq]at I
  have:kindOf b.toNat=3:=by unfold kindOf;rw[if_neg (by omega),if_neg (by omega),if_pos (by omega)]
  simp[Q7,kd,this]
 ·decide
end LexP
namespace SynP
open LexP
def Fu (b:UInt8):Bool:=b.toNat<128 && kindOf b.toNat !=3 && kindOf b.toNat !=4 && b.toNat !=95
def Dl (r:Qx):Prop:=r=[]\/ ∃b t,r=b::t/\Fu b=true
def LxA (b:Qx)(l:List KT):Prop:=∀col r,∃n ts,Toks col (Qz (b++r))=(Toks (col+n) (Qz r)).after ts/\kt ts=l
def LxD (b:Qx)(l:List KT):Prop:=∀col r,Dl r-> ∃n ts,Toks col (Qz (b++r))=(Toks (col+n) (Qz r)).after ts/\kt ts=l
def Sd (b:Qx):Prop:=∃x t,b=x::t/\Fu x=true
theorem Sd.dl {b:Qx}(h:Sd b)(r:Qx):Dl (b++r):=by
 obtain⟨x,t,rfl,E⟩:=h;exact .inr ⟨x,t++r,rfl,E⟩
theorem Dh (a b:List Tok):kt (a++b)=kt a++kt b:=by simp[kt]
theorem LxA.d {b:Qx}{l:List KT}(h:LxA b l):LxD b l:=fun col r _=>h col r
theorem LxA.nil:LxA [] []:=fun col r=>⟨0,[],by simp[Res.after_nil],rfl⟩
theorem LxA.app {b1 b2:Qx}{l1 l2:List KT}(h1:LxA b1 l1)(h2:LxA b2 l2):LxA (b1++b2) (l1++l2):=by
 intro h r;obtain⟨n1,t1,e1,k1⟩:=h1 h (b2++r);obtain⟨n2,t2,e2,k2⟩:=h2 (h+n1) r;refine⟨n1+n2,t1++t2,?_,by rw[Dh,k1,k2]⟩;rw[List.append_assoc,e1,e2,Res.after_after,Nat.add_assoc]
theorem LxA.appD {b1 b2:Qx}{l1 l2:List KT}(h1:LxA b1 l1)(h2:LxD b2 l2):LxD (b1++b2) (l1++l2):=by
 intro h r E;obtain⟨n1,t1,e1,k1⟩:=h1 h (b2++r);obtain⟨n2,t2,e2,k2⟩:=h2 (h+n1) r E;refine⟨n1+n2,t1++t2,?_,by rw[Dh,k1,k2]⟩;rw[List.append_assoc,e1,e2,Res.after_after,Nat.add_assoc]
theorem LxD.appA {b1 b2:Qx}{l1 l2:List KT}(h1:LxD b1 l1)(h2:LxA b2 l2)(hs:Sd b2):LxA (b1++b2) (l1++l2):=by
 intro h r;obtain⟨n1,t1,e1,k1⟩:=h1 h (b2++r) (hs.dl r);obtain⟨n2,t2,e2,k2⟩:=h2 (h+n1) r;refine⟨n1+n2,t1++t2,?_,by rw[Dh,k1,k2]⟩;rw[List.append_assoc,e1,e2,Res.after_after,Nat.add_assoc]
theorem LxD.appD {b1 b2:Qx}{l1 l2:List KT}(h1:LxD b1 l1)(h2:LxD b2 l2)(hs:Sd b2):LxD (b1++b2) (l1++l2):=by
 intro h r E;obtain⟨n1,t1,e1,k1⟩:=h1 h (b2++r) (hs.dl r);obtain⟨n2,t2,e2,k2⟩:=h2 (h+n1) r E;refine⟨n1+n2,t1++t2,?_,by rw[Dh,k1,k2]⟩;rw[List.append_assoc,e1,e2,Res.after_after,Nat.add_assoc]
theorem Ym {x:UInt8}(hx:x.toNat<128/\kindOf x.toNat=5):LxA [x] [mk x]:=by
 intro h r;refine⟨1,[(3,[x],h)],?_,rfl⟩;show Toks h (Qz (x::r))=_;rw[W9 hx.1];have H:kd ((some x.toNat,[x]):C)=5:=hx.2;rw[Z2 _ H]
 have I:Z7 ((some x.toNat,[x]):C)=[x]:=by
  unfold Z7;have E:rn ((some x.toNat,[x]):C)=x.toNat:=rfl;rw[E,if_neg (by omega),if_neg (by omega)]
 rw[I]
theorem J0:LxA [32] []:=by
 intro h r;refine⟨1,[],?_,rfl⟩;show Toks h (Qz (32::r))=_;rw[W9 (by decide),Y8 _ (by decide),Res.after_nil]
theorem K9 {b:UInt8}(h:Fu b=true):b.toNat<128/\isAl ((some b.toNat,[b]):C)=false/\Q7 ((some b.toNat,[b]):C)=false:=by
 simp only[Fu,Bool.and_eq_true,decide_eq_true_eq,bne_iff_ne]at h;obtain⟨⟨⟨H,E⟩,I⟩,J⟩:=h;refine⟨H,?_,?_⟩
 ·simp[isAl,kd,E,I]
 ·simp[Q7,kd,rn,E,J]
theorem Qy0 {p:C->Bool}{t r:Qx}(hp:∀c∈Qz t,p c=true)(hr:Dl r)(hd:∀b:UInt8,Fu b=true->p ((some b.toNat,[b]):C)=false)(hbad:(Qz t).all Xx=true):
  Qz (t++r)=Qz t++Qz r/\Qg p (Qz t++Qz r)=(Qz t).length:=by
 refine⟨Ml t r hbad,?_⟩;rcases hr with rfl|⟨b,u,rfl,h⟩
 ·rw[Ye,List.append_nil]
  exact Ue p _ _ (Nat.le_refl _) (fun c hc=>hp c (List.mem_of_mem_take hc)) (fun c hc=>by rw[List.getElem?_eq_none (Nat.le_refl _)]at hc;cases hc)
 ·rw[W9 (K9 h).1]
  exact Ue p _ _ (by simp) (fun c hc=>by rw[List.take_left]at hc;exact hp c hc) (fun c hc=>by
   rw[List.getElem?_append_right (Nat.le_refl _),Nat.sub_self]at hc;simp at hc;subst hc
   exact hd b h)
theorem Rl (n:Nat):LxD (decT n) [numK n]:=by
 intro Z r hr;have J:Tg (decT n):=fun c E=> .inl (Uc n c E)
 have e0:Qz (decT n)=asC (decT n):=by
  have:=Qvj (decT n) [] J;rw[List.append_nil,Ye,List.append_nil]at this;exact this
 have T:∀c∈Qz (decT n),Q7 c=true:=by rw[e0];exact Qpb J
 have I:∀c∈Qz (decT n),kd c=3:=by
  rw[e0];intro c E;obtain⟨b,H,rfl⟩:=List.mem_map.1 E;have hd:=Uc n b H;simp only[NumP.Xz,Bool.and_eq_true,decide_eq_true_eq]at hd;show kindOf b.toNat=3;unfold kindOf;rw[if_neg (by omega),if_neg (by omega),if_pos (by omega)]
 have U:(Qz (decT n)).all Xx=true:=by
  rw[List.all_eq_true];intro c E;simp[Xx,I c E]
 obtain⟨e1,e2⟩:=Qy0 T hr (fun b H=>(K9 H).2.2) U;have H:Qw (Qz (decT n))=decT n:=Yx _
 have a2:Qz (decT n)≠[]:=by
  intro e;exact Qz1 n (by rw[<-H,e];rfl)
 have a1:Jo (decT n)=false:=by
  rw[Ry (by
   intro h;have:=Uc n 95 (List.mem_of_getElem? h)
   simp[NumP.Xz]at this)]
  cases hx:Zr (decT n) with
  |false=>rfl
  |true=>
   obtain⟨i,_,hi⟩:=(Wf _).1 hx;simp only[Pi,Bool.and_eq_true,beq_iff_eq]at hi;have:=Uc n 95 (List.mem_of_getElem? hi.1);simp[NumP.Xz]at this
 obtain⟨c,cs,E⟩:=List.exists_cons_of_ne_nil a2;refine⟨(Qz (decT n)).length,[(1,decT n,Z)],?_,rfl⟩;rw[e1];rw[E]at e2 ⊢;have hk:=I c (by rw[E];exact List.mem_cons_self);rw[List.cons_append,Ji _ hk];rw[List.cons_append]at e2
 have O:(c::(cs++Qz r)).take (c::cs).length=c::cs:=by rw[<-List.cons_append,List.take_left]
 have K:(c::(cs++Qz r)).drop (c::cs).length=Qz r:=by rw[<-List.cons_append,List.drop_left]
 rw[e2,O,K,<-E,H,a1];rfl
theorem Xa {r:Res}{a l:List Tok}(h:r.after a=.ok l):∃m,r=.ok m/\l=a++m:=by
 cases r with
 |error e=>cases h
 |ok m=>exact⟨m,rfl,by simpa [Res.after] using h.symm⟩
theorem W8 (k:Nat)(L:List C):Qw L=Qw (L.take k)++Qw (L.drop k):=by
 unfold Qw;rw[<-List.flatMap_append,List.take_append_drop]
theorem Fy {d:C}:∀{L:List C},d∈L->d.2.length<=(Qw L).length
 | [],h=>by cases h
 |c::L,h=>by
  have hb:(Qw (c::L)).length=c.2.length+(Qw L).length:=by simp[Qw]
  rcases List.mem_cons.1 h with rfl|h
  ·omega
  ·have:=Fy h;omega
theorem C8 {c:C}{t:Qx}(h:c∈Qz t):0<c.2.length:=by
 revert h;refine Ww (P:=fun t=>c∈Qz t->0<c.2.length) (fun h=>by simp[Ye]at h) (fun l hl ih h=> ?_) t;rw[Zq hl]at h;rcases List.mem_cons.1 h with rfl|h
 ·simp only[List.length_take]
  have:=Kv l;have:=List.length_pos_iff.2 hl;omega
 ·exact ih h
theorem Ds {x:Qx}(h:Y7 x):(∃c cs,Qz x=c::cs/\kd c=4)/\(∀c∈Qz x,isAl c=true)/\x.length<=32:=by
 obtain⟨co,h⟩:=h
 have a0:∀I cs l,Toks I cs=.ok l-> ∀t∈l,t.1=2->t.2.1.length<=(Qw cs).length:=by
  have:∀I (cs:List C) (r:Res),Toks I cs=r-> ∀l,r=.ok l-> ∀t∈l,t.1=2->t.2.1.length<=(Qw cs).length:=by
   intro I cs
   induction hn:cs.length using Nat.strongRecOn generalizing I cs with
   |ind n ih=>
    intro r hr l E t H O;subst hr
    cases cs with
    |nil=>rw[Yy]at E;cases E;cases H
    |cons c cs=>
     have a9:(Qw (c::cs)).length=c.2.length+(Qw cs).length:=by simp[Qw]
     have J:∀k (L:List C),(Qw (L.drop k)).length<=(Qw L).length:=fun k L=>by
      have e:=congrArg List.length (W8 k L);rw[List.length_append]at e;omega
     have hk:=Pk c;by_cases k0:kd c=0
     ·rw[Vl _ k0]at E;cases E
     by_cases k1:kd c=1
     ·rw[Y8 _ k1]at E
      have:=ih cs.length (by rw[<-hn];simp) _ cs rfl _ rfl l E t H O;omega
     by_cases k2:kd c=2
     ·rw[Jf _ k2]at E
      split at E
      ·cases E
      ·cases E;cases H
     by_cases k3:kd c=3
     ·rw[Ji _ k3]at E
      split at E
      ·cases E
      ·obtain⟨m,K,rfl⟩:=Xa E
       rcases List.mem_cons.1 H with rfl|H
       ·cases O
       ·have hp:=Xy (p:=Q7) (c:=c) (cs:=cs) (by simp[Q7,k3])
        have:=ih ((c::cs).drop (Qg Q7 (c::cs))).length (by rw[<-hn,List.length_drop];simp;omega) _ _ rfl _ rfl m K t H O;exact Nat.le_trans this (J _ _)
     by_cases k4:kd c=4
     ·rw[Zw _ k4]at E
      split at E
      ·cases E
      ·obtain⟨m,K,rfl⟩:=Xa E
       rcases List.mem_cons.1 H with rfl|H
       ·exact Wk _ _
       ·have hp:=Xy (p:=isAl) (c:=c) (cs:=cs) (by simp[isAl,k4])
        have:=ih ((c::cs).drop (Qg isAl (c::cs))).length (by rw[<-hn,List.length_drop];simp;omega) _ _ rfl _ rfl m K t H O;exact Nat.le_trans this (J _ _)
     by_cases k5:kd c=5
     ·rw[Z2 _ k5]at E
      obtain⟨m,K,rfl⟩:=Xa E;rcases List.mem_cons.1 H with rfl|H
      ·cases O
      ·have:=ih cs.length (by rw[<-hn];simp) _ cs rfl _ rfl m K t H O
       omega
     ·rw[Zs _ (by omega)]at E;cases E
  intro I cs l h;exact this I cs _ rfl l h
 have hb:Qw (Qz x)=x:=Yx x
 cases hc:Qz x with
 |nil=>rw[hc,Yy]at h;cases h
 |cons c cs=>
  have a7:0<c.2.length:=C8 (t:=x) (by rw[hc];exact List.mem_cons_self)
  have ab:x.length=c.2.length+(Qw cs).length:=by
   rw[<-hb,hc];simp[Qw]
  rw[hc]at h;have hk:=Pk c;by_cases k0:kd c=0
  ·rw[Vl _ k0]at h;cases h
  by_cases k1:kd c=1
  ·rw[Y8 _ k1]at h
   have:=a0 _ _ _ h _ List.mem_cons_self rfl;simp only at this;omega
  by_cases k2:kd c=2
  ·rw[Jf _ k2]at h
   split at h<;>cases h
  by_cases k3:kd c=3
  ·rw[Ji _ k3]at h
   split at h
   ·cases h
   ·obtain⟨m,K,e⟩:=Xa h
    simp at e
  by_cases k4:kd c=4
  ·rw[Zw _ k4]at h
   split at h
   ·cases h
   ·rename_i a1
    obtain⟨m,K,e⟩:=Xa h;simp only[List.cons_append,List.nil_append,List.cons.injEq,Prod.mk.injEq,true_and]at e;obtain⟨⟨e1,_⟩,rfl⟩:=e;have a3:=Zg isAl (c::cs);have Z:=Zm (p:=isAl) (c::cs)
    have U:Qg isAl (c::cs)=(c::cs).length:=by
     refine Nat.le_antisymm a3 (Nat.le_of_not_lt fun hlt=> ?_)
     have h1:x=Qw ((c::cs).take (Qg isAl (c::cs)))++Qw ((c::cs).drop (Qg isAl (c::cs))):=by
      rw[<-W8,<-hc];exact hb.symm
     have O:(Qw ((c::cs).drop (Qg isAl (c::cs)))).length=0:=by
      have:=congrArg List.length h1;rw[List.length_append,<-e1]at this;omega
     obtain⟨d,T⟩:∃d,d∈(c::cs).drop (Qg isAl (c::cs)):=by
      have:0<((c::cs).drop (Qg isAl (c::cs))).length:=by rw[List.length_drop];omega
      exact⟨_,List.getElem_mem this⟩
     have aa:0<d.2.length:=C8 (t:=x) (by rw[hc];exact List.mem_of_mem_drop T);have:=Fy T;omega
    refine⟨⟨c,cs,rfl,k4⟩,fun d T=>Z d (by rw[U,List.take_length];exact T),?_⟩;rw[<-e1]at a1;omega
  by_cases k5:kd c=5
  ·rw[Z2 _ k5]at h
   obtain⟨m,K,e⟩:=Xa h;simp at e
  ·rw[Zs _ (by omega)]at h;cases h
theorem Rx {x:Qx}(h:Y7 x):LxD x [(2,x)]:=by
 intro O r hr;obtain⟨⟨c,cs,T,Z⟩,E,a1⟩:=Ds h
 have K:(Qz x).all Xx=true:=by
  rw[List.all_eq_true];intro d U;have:=E d U;simp only[isAl,Bool.or_eq_true,beq_iff_eq]at this;simp only[Xx,bne_iff_ne];omega
 obtain⟨e1,e2⟩:=Qy0 E hr (fun b J=>(K9 J).2.1) K;refine⟨(Qz x).length,[(2,x,O)],?_,rfl⟩;have J:Qw (Qz x)=x:=Yx x;rw[e1];rw[T]at e2 ⊢;rw[List.cons_append,Zw _ Z];rw[List.cons_append]at e2
 have I:(c::(cs++Qz r)).take (c::cs).length=c::cs:=by rw[<-List.cons_append,List.take_left]
 have H:(c::(cs++Qz r)).drop (c::cs).length=Qz r:=by rw[<-List.cons_append,List.drop_left]
 rw[e2,I,H,<-T,J,if_neg (by omega)]
end SynP
namespace LexP
open NumP
theorem Qwy {l:Qx}{v n:Nat}(h:dec l=some (v,n)):dec (l.take n)=some (v,n):=by
 unfold dec at h;split at h
 ·cases h
 ·rename_i b t
  split at h
  ·rename_i E;cases h;simp[dec,E]
  rename_i E;split at h
  ·rename_i I
   split at h
   ·rename_i c r
    split at h<;>simp only[Option.some.injEq,Prod.mk.injEq,reduceCtorEq]at h
    rename_i H;obtain⟨rfl,rfl⟩:=h;show dec [b,c]=_;unfold dec;simp only[E,I,if_true,if_false];rw[if_pos H]
   ·cases h
  rename_i I;split at h
  ·rename_i J
   split at h
   ·rename_i c d r
    split at h<;>simp only[Option.some.injEq,Prod.mk.injEq,reduceCtorEq]at h
    rename_i H;obtain⟨rfl,rfl⟩:=h;show dec [b,c,d]=_;unfold dec;simp only[E,I,J,if_true,if_false];rw[if_pos H]
   ·cases h
  rename_i J;split at h
  ·rename_i K
   split at h
   ·rename_i c d f r
    split at h<;>simp only[Option.some.injEq,Prod.mk.injEq,reduceCtorEq]at h
    rename_i H;obtain⟨rfl,rfl⟩:=h;show dec [b,c,d,f]=_;unfold dec;simp only[E,I,J,K,if_true,if_false];rw[if_pos H]
   ·cases h
  ·cases h
theorem Qww {b:UInt8}{t:Qx}{v n:Nat}(h:dec (b::t)=some (v,n))(hb:b.toNat<128):v=b.toNat:=by
 unfold dec at h;simp only[hb,if_true]at h
 cases h;rfl
theorem Qq3:∀(k:Nat) (L:Qx),(∀c∈(Qz L).take k,Xx c=true)->Qz (Qw ((Qz L).take k))=(Qz L).take k:=by
 intro k
 induction k with
 |zero=>intro L _;rfl
 |succ k ih=>
  intro L h;by_cases hl:L=[]
  ·subst hl;rfl
  ·have E:=Zq hl
   rw[E]at h ⊢;simp only[List.take_succ_cons]at h ⊢;have K:=h _ List.mem_cons_self
   cases hd:dec L with
   |none=>simp[val,hd,Mx]at K
   |some p=>
    obtain⟨v,n⟩:=p
    have O:val L=some v:=by simp[val,hd]
    have T:wid L=n:=by simp[wid,hd]
    have U:=Wy hd;rw[O,T]at h E ⊢
    have Z:(L.take n).length=n:=by simp;omega
    have e:Qw ((some v,L.take n)::(Qz (L.drop n)).take k)=L.take n++Qw ((Qz (L.drop n)).take k):=rfl;rw[e];have I:=K0 (Qwy hd) (Qw ((Qz (L.drop n)).take k));have H:=U6 I;have J:(L.take n).drop n=[]:=List.drop_eq_nil_of_le (by omega);rw[List.take_append_of_le_length (by omega),List.drop_append_of_le_length (by omega),List.take_take,Nat.min_self,J,List.nil_append]at H;rw[H,ih (L.drop n) (fun c E=>h c (List.mem_cons_of_mem _ E))]
end LexP
namespace SynP
open LexP
def Sfx (s s':St):Prop:=s'.opened=s.opened/\ ∃k,s'.ts=s.ts.drop k
theorem Sfx.refl (s:St):Sfx s s:=⟨rfl,0,rfl⟩
theorem Sfx.trans {a b c:St}(h:Sfx a b)(k:Sfx b c):Sfx a c:=⟨k.1.trans h.1,by
 obtain⟨i,E⟩:=h.2;obtain⟨j,H⟩:=k.2
 exact⟨i+j,by rw[H,E,List.drop_drop]⟩⟩
theorem Sfx.adv (s:St):Sfx s s.adv:=⟨rfl,1,by show s.ts.tail=_;cases s.ts<;>rfl⟩
theorem Vr {fin:Nat}{x:Qx}{s:St}{r:Unit×St}(h:want fin x s=some (.ok r)):Sfx s r.2:=by
 unfold want at h;split at h
 ·rw[Qh h];exact Sfx.adv s
 ·unfold unfit at h;exact(Xu h).elim
theorem Jb {fin:Nat}{s:St}{r:Nat×St}(h:Qd fin s=some (.ok r)):Sfx s r.2:=by
 unfold Qd at h;split at h
 ·rw[Qh h];exact Sfx.adv s
 ·unfold unfit at h;exact(Xu h).elim
theorem R9 (fin:Nat):∀(f n:Nat) (acc:List (Bool×Nat)) (s:St) (r:(Nat×List (Bool×Nat))×St),Qo fin f n acc s=some (.ok r)->Sfx s r.2
 |0,_,_,_,_,h=>by cases h
 |f+1,n,acc,s,r,h=>by
  unfold Qo at h;split at h
  ·obtain⟨m,s',h1,h2⟩:=Qv h
   have k1:=Jb h1;have k2:=R9 fin f _ _ _ _ h2;refine Sfx.trans ?_ (k1.trans k2);split
   ·exact Sfx.adv s
   ·exact Sfx.refl s
  ·rw[Qh h];exact Sfx.refl s
theorem No (fin:Nat):∀(f:Nat) (acc:List (Bool×Nat)) (lens:List Nat) (s:St) (r:(List (Bool×Nat)×List Nat)×St),Xj fin f acc lens s=some (.ok r)->Sfx s r.2
 |0,_,_,_,_,h=>by cases h
 |f+1,acc,lens,s,r,h=>by
  unfold Xj at h;obtain⟨q,s1,h1,h2⟩:=Qv h;have k1:=R9 fin f _ _ _ _ h1;split at h2
  ·rw[Qh h2];exact k1.trans (Sfx.adv s1)
  ·obtain⟨u,s2,E,H⟩:=Qv h2
   exact k1.trans ((Vr E).trans (No fin f _ _ _ _ H))
theorem Qxc {fin f:Nat}{s:St}{r:MatV×St}(h:Xi fin f s=some (.ok r)):Sfx s r.2:=by
 unfold Xi at h;obtain⟨u,s1,K,H⟩:=Qv h;refine(Vr K).trans ?_;split at H
 ·unfold Yr at H
  obtain⟨a,s2,g1,I⟩:=Qv H;obtain⟨_,s3,g2,E⟩:=Qv I;obtain⟨c,s4,g3,O⟩:=Qv E;obtain⟨_,s5,g4,J⟩:=Qv O;refine(Jb g1).trans ((Vr g2).trans ((Jb g3).trans ((Vr g4).trans ?_)));split at J
  ·exact(Xu J).elim
  ·rw[Qh J];exact Sfx.refl _
 ·obtain⟨q,s2,I,E⟩:=Qv H
  refine(No fin f _ _ _ _ I).trans ?_;unfold Ys at E;split at E
  ·exact(Xu E).elim
  ·split at E
   ·exact(Xu E).elim
   ·rw[Qh E];exact Sfx.refl _
theorem Mb (fin:Nat):∀(f:Nat) (acc:List Nat) (s:St) (r:List Nat×St),Q9 fin f acc s=some (.ok r)->Sfx s r.2
 |0,_,_,_,h=>by cases h
 |f+1,acc,s,r,h=>by
  unfold Q9 at h;split at h
  ·obtain⟨m,s',h1,h2⟩:=Qv h
   exact(Jb h1).trans (Mb fin f _ _ _ h2)
  ·rw[Qh h];exact Sfx.refl s
theorem Nr (fin:Nat):∀(f:Nat) (acc:List (List Nat)) (s:St) (r:List (List Nat)×St),Xq fin f acc s=some (.ok r)->Sfx s r.2
 |0,_,_,_,h=>by cases h
 |f+1,acc,s,r,h=>by
  unfold Xq at h;obtain⟨n,s1,h1,h2⟩:=Qv h;obtain⟨x,s2,H,E⟩:=Qv h2;refine(Jb h1).trans ((Mb fin f _ _ _ H).trans ?_);split at E
  ·rw[Qh E];exact Sfx.adv s2
  ·obtain⟨u,s3,I,J⟩:=Qv E
   exact(Vr I).trans (Nr fin f _ _ _ J)
theorem Bz {fin f:Nat}{s:St}{r:List (List Nat)×St}(h:Q5 fin f s=some (.ok r)):Sfx s r.2:=by
 unfold Q5 at h;obtain⟨u,s1,H,E⟩:=Qv h;refine(Vr H).trans ?_;split at E
 ·rw[Qh E];exact Sfx.adv s1
 ·exact Nr fin f _ _ _ E
def Nm (s:St):Prop:=∀t∈s.ts,t.1=2->Y7 t.2.1
theorem Nm.sfx {s s':St}(h:Nm s)(k:Sfx s s'):Nm s':=by
 obtain⟨-,i,H⟩:=k;intro t E;rw[H]at E;exact h t (List.mem_of_mem_drop E)
theorem M8 {fin:Nat}{s:St}{r:Qx×St}(h:name fin s=some (.ok r))(hn:Nm s):Sfx s r.2/\Y7 r.1/\Qb 2 s.ts=true/\r.1=Xl s.ts:=by
 unfold name at h;split at h
 ·rename_i E
  rw[Qh h];refine⟨Sfx.adv s,?_,E,rfl⟩;obtain⟨ts,o⟩:=s
  cases ts with
  |nil=>cases E
  |cons t l=>
   obtain⟨k,x,c⟩:=t
   have e:k=2:=by simpa [Qb] using E
   exact hn (k,x,c) (by simp) e
 ·exact(Xu h).elim
theorem Af {fin:Nat}{s:St}{r:Unit×St}(h:Zu fin s=some (.ok r)):r.2.opened=s.opened+1/\s.opened+1<=100/\ ∃k,r.2.ts=s.ts.drop k:=by
 unfold Zu at h;split at h
 ·exact(Xu h).elim
 ·rw[Qh h]
  exact⟨rfl,by omega,1,by show s.ts.tail=_;cases s.ts<;>rfl⟩
theorem Fh {fin:Nat}{s:St}{r:Unit×St}(h:X6 fin s=some (.ok r)):r.2.opened=s.opened-1/\ ∃k,r.2.ts=s.ts.drop k:=by
 unfold X6 at h;obtain⟨u,s1,H,I⟩:=Qv h;have E:=Vr H;rw[Qh I];exact⟨by show s1.opened-1=_;rw[E.1],E.2⟩
theorem N9:∀(f n:Nat) (s:St) (r:Nat×St),Xg f n s=some (.ok r)->Sfx s r.2
 |0,_,_,_,h=>by cases h
 |f+1,n,s,r,h=>by
  unfold Xg at h;split at h
  ·exact(Sfx.adv s).trans (N9 f _ _ _ h)
  ·rw[Qh h];exact Sfx.refl s
theorem Gm (fin:Nat):∀(f:Nat) (acc:List Nat) (s:St) (r:List Nat×St),Q9 fin f acc s=some (.ok r)->acc≠[]->r.1≠[]
 |0,_,_,_,h,_=>by cases h
 |f+1,acc,s,r,h,ha=>by
  unfold Q9 at h;split at h
  ·obtain⟨m,s',h1,h2⟩:=Qv h
   exact Gm fin f _ _ _ h2 (by simp)
  ·rw[Qh h];exact ha
theorem Ki (fin:Nat):∀(f:Nat) (acc:List (List Nat)) (s:St) (r:List (List Nat)×St),Xq fin f acc s=some (.ok r)->T6 acc->T6 r.1
 |0,_,_,_,h,_=>by cases h
 |f+1,acc,s,r,h,ha=>by
  unfold Xq at h;obtain⟨n,s1,h1,h2⟩:=Qv h;obtain⟨x,s2,J,H⟩:=Qv h2;have O:=Gm fin f _ _ _ J (by simp)
  have I:T6 (acc++[x]):=by
   intro y E;rcases List.mem_append.1 E with E|E
   ·exact ha y E
   ·rw[List.mem_singleton.1 E];exact O
  split at H
  ·rw[Qh H];exact I
  ·obtain⟨u,s3,T,K⟩:=Qv H
   exact Ki fin f _ _ _ K I
theorem Kr {fin f:Nat}{s:St}{r:List (List Nat)×St}(h:Q5 fin f s=some (.ok r)):T6 r.1:=by
 unfold Q5 at h;obtain⟨u,s1,I,E⟩:=Qv h;split at E
 ·rw[Qh E];intro y H;cases H
 ·exact Ki fin f _ _ _ E (by intro y H;cases H)
def Fit (c:Nat->Bool)(o:Nat)(e:Ex):Prop:=o+e.dp+1<=100\/(c e.op=true/\o+e.dp<=100)
def cA (op:Nat):Bool:=Kh op
def cP (op:Nat):Bool:=Kh op||op==5
def cF (op:Nat):Bool:= !Y3 op
def cT (op:Nat):Bool:= !Vv op
def cE (_:Nat):Bool:=true
theorem Fit.mono {c c':Nat->Bool}{o:Nat}{e:Ex}(h:Fit c o e)(hc:∀op,c op=true->c' op=true):Fit c' o e:=h.imp id (fun h=>⟨hc _ h.1,h.2⟩)
theorem Fit.le {c:Nat->Bool}{o:Nat}{e:Ex}(h:Fit c o e):o+e.dp<=100:=by rcases h with h|h<;>omega
theorem Th {c:Nat->Bool}{o:Nat}{a:Ex}{b:Bool}(h:Fit c o a)(hb:c a.op=true->b=false):o+parD b a.dp<=100:=by
 rcases h with h|⟨E,H⟩
 ·unfold parD;split<;>omega
 ·rw[hb E];exact H
theorem Qh3 (op:Nat)(h:cA op=true):cP op=true:=by unfold cP;unfold cA at h;rw[h];rfl
theorem cP_is {op:Nat}(h:cP op=true):op=1\/op=2\/op=3\/op=13\/op=10\/op=5:=by
 simp[cP,Kh]at h;omega
theorem Qh4 (op:Nat)(h:cP op=true):cF op=true:=by
 rcases cP_is h with rfl|rfl|rfl|rfl|rfl|rfl<;>rfl
theorem Qms (op:Nat)(h:cF op=true):cT op=true:=by
 unfold cF Y3 at h;unfold cT
 cases hs:Vv op with
 |false=>rfl
 |true=>rw[hs]at h;cases h
theorem Qvq {op:Nat}(h:cP op=true):Qp 5 0 op=false:=by
 rcases cP_is h with rfl|rfl|rfl|rfl|rfl|rfl<;>rfl
theorem Qvx {op:Nat}(h:cP op=true):Qp 9 0 op=false:=by
 rcases cP_is h with rfl|rfl|rfl|rfl|rfl|rfl<;>rfl
theorem Qmr {op:Nat}(h:cF op=true):Y3 op=false:=by
 unfold cF at h;cases hp:Y3 op with
 |false=>rfl
 |true=>rw[hp]at h;cases h
theorem Qzo {op:Nat}(h:cT op=true):Vv op=false:=by
 unfold cT at h;cases hp:Vv op with
 |false=>rfl
 |true=>rw[hp]at h;cases h
theorem Qwu {o:Nat}{a:Ex}(h:Fit cP o a):Fit cP o (.turn a):=.inr ⟨rfl,Th h Qvq⟩
theorem Qp1 {o n:Nat}{a:Ex}(h:Fit cP o a):Fit cF o (.pow a n):=.inr ⟨rfl,Th h Qvx⟩
theorem Qp0 {o:Nat}{a:Ex}(h:Fit cF o a):Fit cF o (.neg a):=.inr ⟨rfl,Th h (fun h=>by show Qp 4 0 a.op=false;unfold Qp;simp[Qmr h])⟩
theorem Hj {o:Nat}:∀(n:Nat) {a:Ex},Fit cF o a->Fit cF o (negs n a)
 |0,_,h=>h
 |n+1,_,h=>Hj n (Qp0 h)
theorem Cu:∀(n:Nat) {a:Ex},a.wf->(negs n a).wf
 |0,_,h=>h
 |n+1,a,h=>Cu n (a:=.neg a) h
theorem M5 {o a b:Nat}(h1:o+a<=100)(h2:o+b<=100):o+max a b<=100:=by omega
theorem Qpe {o:Nat}{a b:Ex}(h1:Fit cT o a)(h2:Fit cF o b):Fit cT o (.mul a b):=
 .inr ⟨rfl,M5 (Th h1 (fun h=>by show Qp 8 0 a.op=false;unfold Qp;simp[Qzo h])) (Th h2 (fun h=>by
  have E:=Qmr h;have H:=Qzo (Qms _ h)
  show Qp 8 1 b.op=false;unfold Qp;simp[E,H]))⟩
theorem Qpa {o:Nat}{a b:Ex}(h1:Fit cE o a)(h2:Fit cT o b):Fit cE o (.add a b):=
 .inr ⟨rfl,M5 (by show o+parD (Qp 6 0 a.op) a.dp<=100;rw[show Qp 6 0 a.op=false from rfl];exact h1.le) (Th h2 (fun h=>by show Qp 6 1 b.op=false;unfold Qp;simp[Qzo h]))⟩
theorem Qp2 {o:Nat}{a b:Ex}(h1:Fit cE o a)(h2:Fit cT o b):Fit cE o (.sub a b):=
 .inr ⟨rfl,M5 (by show o+parD (Qp 7 0 a.op) a.dp<=100;rw[show Qp 7 0 a.op=false from rfl];exact h1.le) (Th h2 (fun h=>by show Qp 7 1 b.op=false;unfold Qp;simp[Qzo h]))⟩
theorem Qjs:∀(l:Exs) (e:Ex),l.wf->e.wf->(l.snoc e).wf
 | .nil,_,_,he=>⟨he,trivial⟩
 | .cons a l,e,h,he=>⟨h.1,Qjs l e h.2 he⟩
theorem Qjn:∀(l:Exs) (e:Ex),(l.snoc e).dp=max l.dp e.dp
 | .nil,e=>by show max e.dp 0=max 0 e.dp;omega
 | .cons a l,e=>by show max a.dp (l.snoc e).dp=max (max a.dp l.dp) e.dp;rw[Qjn l e];omega
theorem Qmz (l:Exs)(e:Ex):l.snoc e≠ .nil:=by cases l<;>simp[Exs.snoc]
def Ans (c:Nat->Bool)(s:St)(r:Ex×St):Prop:=Sfx s r.2/\r.1.wf/\Fit c s.opened r.1
theorem Ans.from {c:Nat->Bool}{s s1:St}{r:Ex×St}(hs:Sfx s s1)(h:Ans c s1 r):Ans c s r:=⟨hs.trans h.1,h.2.1,by rw[<-hs.1];exact h.2.2⟩
def AnsL (s:St)(r:Exs×St):Prop:=Sfx s r.2/\r.1.wf/\s.opened+r.1.dp<=100/\r.1≠ .nil
theorem AnsL.from {s s1:St}{r:Exs×St}(hs:Sfx s s1)(h:AnsL s1 r):AnsL s r:=⟨hs.trans h.1,h.2.1,by rw[<-hs.1];exact h.2.2.1,h.2.2.2⟩
structure AllWf (fin f:Nat):Prop where
 ex:∀s r,expr fin f s=some (.ok r)->Nm s->s.opened<=100->Ans cE s r
 exl:∀k s r,Qf fin f k s=some (.ok r)->Nm s->s.opened<=100->k.wf->Fit cE s.opened k->Ans cE s r
 te:∀s r,term fin f s=some (.ok r)->Nm s->s.opened<=100->Ans cT s r
 tel:∀k s r,Qi fin f k s=some (.ok r)->Nm s->s.opened<=100->k.wf->Fit cT s.opened k->Ans cT s r
 fa:∀s r,Xr fin f s=some (.ok r)->Nm s->s.opened<=100->Ans cF s r
 po:∀s r,post fin f s=some (.ok r)->Nm s->s.opened<=100->Ans cP s r
 at_:∀s r,atom fin f s=some (.ok r)->Nm s->s.opened<=100->Ans cA s r
 pa:∀s r,X7 fin f s=some (.ok r)->Nm s->s.opened<=100->AnsL s r
 pal:∀k s r,Qs fin f k s=some (.ok r)->Nm s->s.opened<=100->k.wf->s.opened+k.dp<=100->k≠ .nil->AnsL s r
theorem Qqw:∀(f:Nat) (k:Ex) (s:St) (r:Ex×St),X9 f k s=some (.ok r)->k.wf->Fit cP s.opened k->Ans cP s r
 |0,_,_,_,h,_,_=>by cases h
 |f+1,k,s,r,h,hk,hf=>by
  unfold X9 at h;split at h
  ·exact Ans.from (Sfx.adv s) (Qqw f _ _ _ h hk (Qwu hf))
  ·rw[Qh h];exact⟨Sfx.refl s,hk,hf⟩
theorem Qqi (fin:Nat):∀f,AllWf fin f
 |0=>by
  constructor
  ·intro s r h;rw[expr]at h;cases h
  ·intro k s r h;rw[Qf]at h;cases h
  ·intro s r h;rw[term]at h;cases h
  ·intro k s r h;rw[Qi]at h;cases h
  ·intro s r h;rw[Xr]at h;cases h
  ·intro s r h;rw[post]at h;cases h
  ·intro s r h;rw[atom]at h;cases h
  ·intro s r h;rw[X7]at h;cases h
  ·intro k s r h;rw[Qs]at h;cases h
 |f+1=>by
  have ih:=Qqi fin f;constructor
  ·intro s r h H I
   rw[expr]at h;obtain⟨k,s1,E,J⟩:=Qv h;obtain⟨a1,a2,a3⟩:=ih.te _ _ E H I;exact Ans.from a1 (ih.exl _ _ _ J (H.sfx a1) (by rw[a1.1];exact I) a2 (by rw[a1.1];exact a3.mono (fun _ _=>rfl)))
  ·intro k s r h H I K T
   rw[Qf]at h;split at h
   ·obtain⟨t,s1,E,J⟩:=Qv h
    have a0:=Sfx.adv s;obtain⟨a1,a2,a3⟩:=ih.te _ _ E (H.sfx a0) I;have a4:=a0.trans a1;exact Ans.from a4 (ih.exl _ _ _ J (H.sfx a4) (by rw[a4.1];exact I) ⟨K,a2⟩ (by rw[a4.1];exact Qpa T a3))
   ·split at h
    ·obtain⟨t,s1,E,J⟩:=Qv h
     have a0:=Sfx.adv s;obtain⟨a1,a2,a3⟩:=ih.te _ _ E (H.sfx a0) I;have a4:=a0.trans a1;exact Ans.from a4 (ih.exl _ _ _ J (H.sfx a4) (by rw[a4.1];exact I) ⟨K,a2⟩ (by rw[a4.1];exact Qp2 T a3))
    ·rw[Qh h];exact⟨Sfx.refl s,K,T⟩
  ·intro s r h H I
   rw[term]at h;obtain⟨k,s1,E,J⟩:=Qv h;obtain⟨a1,a2,a3⟩:=ih.fa _ _ E H I;exact Ans.from a1 (ih.tel _ _ _ J (H.sfx a1) (by rw[a1.1];exact I) a2 (by rw[a1.1];exact a3.mono Qms))
  ·intro k s r h H I K T
   rw[Qi]at h;split at h
   ·obtain⟨t,s1,E,J⟩:=Qv h
    have a0:=Sfx.adv s;obtain⟨a1,a2,a3⟩:=ih.fa _ _ E (H.sfx a0) I;have a4:=a0.trans a1;exact Ans.from a4 (ih.tel _ _ _ J (H.sfx a4) (by rw[a4.1];exact I) ⟨K,a2⟩ (by rw[a4.1];exact Qpe T a3))
   ·rw[Qh h];exact⟨Sfx.refl s,K,T⟩
  ·intro s r h H I
   rw[Xr]at h;obtain⟨n,s1,E,J⟩:=Qv h;obtain⟨k,s2,U,O⟩:=Qv J;have a0:=N9 _ _ _ _ E;obtain⟨a1,a2,a3⟩:=ih.po _ _ U (H.sfx a0) (by rw[a0.1];exact I);have a4:=a0.trans a1;rw[a0.1]at a3;split at O
   ·obtain⟨m,s3,Z,h6⟩:=Qv O
    have a5:=Jb Z;rw[Qh h6];exact⟨a4.trans ((Sfx.adv s2).trans a5),Cu n (a:=.pow k m) a2,Hj n (Qp1 a3)⟩
   ·rw[Qh O]
    exact⟨a4,Cu n a2,Hj n (a3.mono Qh4)⟩
  ·intro s r h H I
   rw[post]at h;obtain⟨k,s1,E,J⟩:=Qv h;obtain⟨a1,a2,a3⟩:=ih.at_ _ _ E H I;exact Ans.from a1 (Qqw _ _ _ _ J a2 (by rw[a1.1];exact a3.mono Qh3))
  ·intro s r h H I
   rw[atom]at h;split at h
   ·obtain⟨n,s1,E,J⟩:=Qv h
    rw[Qh J];exact⟨Jb E,trivial,.inr ⟨rfl,I⟩⟩
   ·split at h
    ·obtain⟨x,s1,E,J⟩:=Qv h
     obtain⟨u,s2,U,O⟩:=Qv J;obtain⟨ks,s3,Z,h6⟩:=Qv O;obtain⟨u,s4,h7,h8⟩:=Qv h6;rw[Qh h8];obtain⟨a1,a2,-,-⟩:=M8 E H;obtain⟨b1,b2,kb,b3⟩:=Af U;simp only at a1 a2 b1 b2 b3;obtain⟨ka,a3⟩:=a1.2
     have n2:Nm s2:=by
      intro t ht;rw[b3,a3]at ht;exact H t (List.mem_of_mem_drop (List.mem_of_mem_drop ht))
     obtain⟨c1,c2,c3,c4⟩:=ih.pa _ _ Z n2 (by omega);obtain⟨d1,kd',d2⟩:=Fh h7;obtain⟨kc,c5⟩:=c1.2;have e1:=a1.1;have e2:=c1.1;simp only at e1 e2 c2 c3 c4 c5 d1 d2;refine⟨⟨by show s4.opened=s.opened;omega,ka+(kb+(kc+kd')),by show s4.ts=_;rw[d2,c5,b3,a3,List.drop_drop,List.drop_drop,List.drop_drop]⟩,⟨a2,c4,c2⟩,.inr ⟨rfl,?_⟩⟩;show s.opened+(ks.dp+1)<=100;omega
    ·split at h
     ·obtain⟨x,s1,E,J⟩:=Qv h
      rw[Qh J];obtain⟨a1,a2,-,-⟩:=M8 E H;exact⟨a1,a2,.inr ⟨rfl,I⟩⟩
     ·split at h
      ·obtain⟨u,s2,U,O⟩:=Qv h
       obtain⟨e,s3,Z,h6⟩:=Qv O;obtain⟨u,s4,h7,h8⟩:=Qv h6;rw[Qh h8];obtain⟨b1,b2,kb,b3⟩:=Af U;simp only at b1 b2 b3
       have n2:Nm s2:=by
        intro t ht;rw[b3]at ht;exact H t (List.mem_of_mem_drop ht)
       obtain⟨c1,c2,c3⟩:=ih.ex _ _ Z n2 (by omega);obtain⟨d1,kd',d2⟩:=Fh h7;obtain⟨kc,c5⟩:=c1.2;have e2:=c1.1;have c6:=c3.le;simp only at e2 c2 c5 c6 d1 d2;refine⟨⟨by show s4.opened=s.opened;omega,kb+(kc+kd'),by show s4.ts=_;rw[d2,c5,b3,List.drop_drop,List.drop_drop]⟩,c2,.inl ?_⟩;show s.opened+e.dp+1<=100;omega
      ·split at h
       ·obtain⟨m,s1,E,J⟩:=Qv h
        rw[Qh J];exact⟨Qxc E,Ut E,.inr ⟨rfl,I⟩⟩
       ·split at h
        ·obtain⟨m,s1,E,J⟩:=Qv h
         rw[Qh J];exact⟨Bz E,Kr E,.inr ⟨rfl,I⟩⟩
        ·exact(Xu h).elim
  ·intro s r h H I
   rw[X7]at h;obtain⟨k,s1,E,J⟩:=Qv h;obtain⟨a1,a2,a3⟩:=ih.ex _ _ E H I;have a4:=a3.le;simp only at a4;exact AnsL.from a1 (ih.pal _ _ _ J (H.sfx a1) (by rw[a1.1];exact I) ⟨a2,trivial⟩ (by rw[a1.1];show s.opened+max k.dp 0<=100;omega) (by simp))
  ·intro k s r h H I K hd ac
   rw[Qs]at h;split at h
   ·obtain⟨t,s1,E,J⟩:=Qv h
    have a0:=Sfx.adv s;obtain⟨a1,a2,a3⟩:=ih.ex _ _ E (H.sfx a0) I;have a4:=a0.trans a1;have a5:=a3.le;have a6:s.adv.opened=s.opened:=rfl;rw[a6]at a5;simp only at a5;exact AnsL.from a4 (ih.pal _ _ _ J (H.sfx a4) (by rw[a4.1];exact I) (Qjs k t K a2) (by rw[a4.1,Qjn];exact M5 hd a5) (Qmz k t))
   ·rw[Qh h];exact⟨Sfx.refl s,K,hd,ac⟩
theorem Vc {α:Type}{fin:Nat}{a:α}{s:St}{r:α×St}(h:done fin a s=some (.ok r)):r=(a,s):=by
 unfold done at h;split at h
 ·exact Qh h
 ·exact(Xu h).elim
theorem Qgw {fin f:Nat}{ts:List Tok}{r:Ln×St}(h:line fin f ⟨ts,0⟩=some (.ok r))(hn:Nm ⟨ts,0⟩):r.1.wf/\r.1.dp<=100:=by
 unfold line at h;split at h
 ·rw[Qh h];exact⟨trivial,Nat.zero_le _⟩
 ·split at h
  ·obtain⟨x,s1,H,E⟩:=Qv h
   obtain⟨u,s2,I,J⟩:=Qv E;obtain⟨e,s3,T,U⟩:=Qv J;have a0:=Sfx.adv ⟨ts,0⟩;obtain⟨a1,a2,-,-⟩:=M8 H (hn.sfx a0);have a3:=(a0.trans a1).trans (Vr I);have e0:s2.opened=0:=a3.1;obtain⟨b1,b2,b3⟩:=(Qqi fin f).ex _ _ T (hn.sfx a3) (by omega);have b4:=b3.le;rw[Vc U];exact⟨⟨a2,b2⟩,by show e.dp<=100;simp only at b4;omega⟩
  ·rename_i K
   obtain⟨x,s1,H,E⟩:=Qv h;obtain⟨a1,a2,a3,a4⟩:=M8 H hn
   have O:x≠letB:=by
    intro e;refine K ?_;have a4':x=Xl ts:=a4;have a3':Qb 2 ts=true:=a3;rw[a3',<-a4',e];simp
   have e0:s1.opened=0:=a1.1;split at E
   ·rw[Vc E]
    exact⟨⟨a2,O,trivial⟩,Nat.zero_le _⟩
   ·obtain⟨l,s2,I,J⟩:=Qv E
    obtain⟨b1,b2,b3,-⟩:=(Qqi fin f).pa _ _ I (hn.sfx a1) (by omega);rw[Vc J];exact⟨⟨a2,O,b2⟩,by show l.dp<=100;simp only at b3;omega⟩
theorem Qzw:∀(n:Nat) (L:Qx) (col:Nat) (ts:List Tok),(Qz L).length<=n->Toks col (Qz L)=.ok ts-> ∀t∈ts,t.1=2->Y7 t.2.1:=by
 intro n
 induction n with
 |zero=>
  intro L col ts hl h;rw[List.eq_nil_of_length_eq_zero (Nat.le_zero.1 hl),Yy]at h
  cases h
  intro t E;cases E
 |succ n ih=>
  intro L col ts hl h;have K:∀k,Qz (L.drop ((Qw ((Qz L).take k)).length))=(Qz L).drop k:=fun k=>(Qq1 k L).symm
  have H:∀(k col:Nat) (m:List Tok),1<=k->Toks col ((Qz L).drop k)=.ok m-> ∀t∈m,t.1=2->Y7 t.2.1:=by
   intro k col m hk I;rw[<-K k]at I;refine ih _ _ _ ?_ I;rw[K k,List.length_drop];omega
  cases hc:Qz L with
  |nil=>
   rw[hc,Yy]at h
   cases h
   intro t E;cases E
  |cons c cs=>
   rw[hc]at h H;have hk:=Pk c;by_cases k0:kd c=0
   ·rw[Vl _ k0]at h;cases h
   by_cases k1:kd c=1
   ·rw[Y8 _ k1]at h
    exact H 1 _ _ (Nat.le_refl _) h
   by_cases k2:kd c=2
   ·rw[Jf _ k2]at h
    split at h
    ·cases h
    ·cases h
     intro t E;cases E
   by_cases k3:kd c=3
   ·rw[Ji _ k3]at h
    split at h
    ·cases h
    ·obtain⟨m,I,rfl⟩:=Xa h
     have:=H _ _ _ (Xy (p:=Q7) (c:=c) (cs:=cs) (by simp[Q7,k3])) I;intro t E J;rcases List.mem_cons.1 E with rfl|E
     ·cases J
     ·exact this t E J
   by_cases k4:kd c=4
   ·rw[Zw _ k4]at h
    split at h
    ·cases h
    ·rename_i U
     obtain⟨m,I,rfl⟩:=Xa h;have hp:=Xy (p:=isAl) (c:=c) (cs:=cs) (by simp[isAl,k4]);have:=H _ _ _ hp I;intro t E J;rcases List.mem_cons.1 E with rfl|E
     ·have O:=Zm (p:=isAl) (c::cs)
      have T:∀d∈(Qz L).take (Qg isAl (c::cs)),Xx d=true:=by
       rw[hc];intro d Z;have:=O d Z;simp only[isAl,Bool.or_eq_true,beq_iff_eq]at this;simp only[Xx,bne_iff_ne];omega
      have e:=Qq3 _ L T;rw[hc]at e;have a5:=Zg isAl (c::cs);obtain⟨j,hj⟩:∃j,Qg isAl (c::cs)=j+1:=⟨Qg isAl (c::cs)-1,by omega⟩;refine⟨1,?_⟩;show Toks 1 (Qz (Qw ((c::cs).take (Qg isAl (c::cs)))))=_;rw[e]
      have et:(c::cs).take (Qg isAl (c::cs))=c::cs.take j:=by rw[hj];rfl
      have a0:Qg isAl (c::cs.take j)=(c::cs.take j).length:=Qye (fun d Z=>O d (by rw[et];exact Z));rw[et]at U ⊢;rw[Zw _ k4,a0,List.take_length,List.drop_length,if_neg U,Yy];rfl
     ·exact this t E J
   by_cases k5:kd c=5
   ·rw[Z2 _ k5]at h
    obtain⟨m,I,rfl⟩:=Xa h;have:=H 1 _ _ (Nat.le_refl _) I;intro t E J;rcases List.mem_cons.1 E with rfl|E
    ·cases J
    ·exact this t E J
   ·rw[Zs _ (by omega)]at h;cases h
theorem Qkh:∀(n:Nat) (cs:List C) (col:Nat) (ts:List Tok),cs.length<=n->Toks col cs=.ok ts-> ∀t∈ts,t.1=1->t.2.1.length<=(Qw cs).length:=by
 intro n
 induction n with
 |zero=>
  intro cs col ts K h;rw[List.eq_nil_of_length_eq_zero (Nat.le_zero.1 K),Yy]at h
  cases h
  intro t E;cases E
 |succ n ih=>
  intro cs col ts K h
  cases cs with
  |nil=>
   rw[Yy]at h
   cases h
   intro t E;cases E
  |cons c cs=>
   have I:∀(k col:Nat) (m:List Tok),1<=k->Toks col ((c::cs).drop k)=.ok m-> ∀t∈m,t.1=1->t.2.1.length<=(Qw (c::cs)).length:=by
    intro k col m O J t E H;have e:=congrArg List.length (W8 k (c::cs));rw[List.length_append]at e;have:=ih _ _ _ (by rw[List.length_drop];omega) J t E H;omega
   have O:=Pk c;by_cases k0:kd c=0
   ·rw[Vl _ k0]at h;cases h
   by_cases k1:kd c=1
   ·rw[Y8 _ k1]at h
    exact I 1 _ _ (Nat.le_refl _) h
   by_cases k2:kd c=2
   ·rw[Jf _ k2]at h
    split at h
    ·cases h
    ·cases h
     intro t E;cases E
   by_cases k3:kd c=3
   ·rw[Ji _ k3]at h
    split at h
    ·cases h
    ·obtain⟨m,J,rfl⟩:=Xa h
     have:=I _ _ _ (Xy (p:=Q7) (c:=c) (cs:=cs) (by simp[Q7,k3])) J;intro t E H;rcases List.mem_cons.1 E with rfl|E
     ·exact Wk _ _
     ·exact this t E H
   by_cases k4:kd c=4
   ·rw[Zw _ k4]at h
    split at h
    ·cases h
    ·obtain⟨m,J,rfl⟩:=Xa h
     have:=I _ _ _ (Xy (p:=isAl) (c:=c) (cs:=cs) (by simp[isAl,k4])) J;intro t E H;rcases List.mem_cons.1 E with rfl|E
     ·cases H
     ·exact this t E H
   by_cases k5:kd c=5
   ·rw[Z2 _ k5]at h
    obtain⟨m,J,rfl⟩:=Xa h;have:=I 1 _ _ (Nat.le_refl _) J;intro t E H;rcases List.mem_cons.1 E with rfl|E
    ·cases H
    ·exact this t E H
   ·rw[Zs _ (by omega)]at h;cases h
end SynP
