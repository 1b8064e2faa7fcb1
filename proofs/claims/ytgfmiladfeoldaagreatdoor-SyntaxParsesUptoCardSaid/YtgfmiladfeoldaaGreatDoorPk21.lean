/- Joined texts of this claim's proof: SynT, SynR, SynR2, SynR3, SynB, RdG. -/
import Derived.Test.YtgfmiladfeoldaaGreatDoorPk1
import Derived.Test.YtgfmiladfeoldaaGreatDoorPk20
set_option linter.unusedSimpArgs false
set_option linter.unusedVariables false
set_option maxRecDepth 100000
set_option maxHeartbeats 16000000
namespace SynP
open LexP
def Good {α:Type}(n:Nat):PR α->Prop
 |none=>False
 |some (.error e)=>0<e.2
 |some (.ok (_,s))=>s.ts.length<=n
theorem Good.bind {α β:Type}{x:PR α}{f:α->St->PR β}{n m:Nat}(h:Good n x)(hf:∀a s,s.ts.length<=n->Good m (f a s)):Good m (x.bind f):=by
 rcases x with _|(e|⟨a,s⟩)
 ·exact h
 ·exact h
 ·exact hf a s h
theorem Good.mono {α:Type}{x:PR α}{n m:Nat}(h:Good n x)(hm:n<=m):Good m x:=by
 rcases x with _|(e|⟨a,s⟩)
 ·exact h
 ·exact h
 ·exact Nat.le_trans h hm
theorem Good.ite {α:Type}{c:Bool}{a b:PR α}{n:Nat}(h1:c=true->Good n a)(h2:c=false->Good n b):Good n (if c then a else b):=by
 cases c
 ·exact h2 rfl
 ·exact h1 rfl
theorem Good.itep {α:Type}{c:Prop}[Decidable c]{a b:PR α}{n:Nat}(h1:c->Good n a)(h2: ¬c->Good n b):Good n (if c then a else b):=by
 by_cases h:c
 ·rw[if_pos h];exact h1 h
 ·rw[if_neg h];exact h2 h
theorem Z8 {α:Type}(fin n:Nat)(s:St):Good n (unfit fin s:PR α):=(by decide:0<14)
theorem Tj {α:Type}(c:Nat){e:Nat}(he:0<e)(n:Nat):Good n (fault c e:PR α):=he
theorem Xz {α:Type}(a:α){n:Nat}{s:St}(h:s.ts.length<=n):Good n (ret a s):=h
theorem Zz {s:St}{n:Nat}(h:s.ts.length<=n):s.adv.ts.length<=n-1:=by
 show s.ts.tail.length<=_;rw[List.length_tail];omega
theorem Xp {x:Qx}{ts:List Tok}(h:Qv x ts=true):0<ts.length:=by
 cases ts with
 |nil=>cases h
 |cons=>simp
theorem Df {k:Nat}{ts:List Tok}(h:Qy k ts=true):0<ts.length:=by
 cases ts with
 |nil=>cases h
 |cons=>simp
theorem Jf (fin:Nat)(x:Qx){s:St}{n:Nat}(h:s.ts.length<=n):Good (n-1) (want fin x s):=by
 unfold want;exact Good.ite (fun _=>Xz _ (Zz h)) (fun _=>Z8 _ _ _)
theorem Zd (fin:Nat){s:St}{n:Nat}(h:s.ts.length<=n):Good (n-1) (Qi fin s):=by
 unfold Qi;exact Good.ite (fun _=>Xz _ (Zz h)) (fun _=>Z8 _ _ _)
theorem Sr (fin:Nat){s:St}{n:Nat}(h:s.ts.length<=n):Good (n-1) (name fin s):=by
 unfold name;exact Good.ite (fun _=>Xz _ (Zz h)) (fun _=>Z8 _ _ _)
theorem Gx (fin:Nat):∀f n k acc s,s.ts.length<=n->n+2<=f->Good n (Q9 fin f k acc s):=by
 intro f
 induction f with
 |zero=>intro n k acc s h I;omega
 |succ f ih=>
  intro n k acc s h I;rw[Q9];refine Good.ite (fun _=> ?_) (fun _=>Xz _ h)
  have J:(if Qv [45] s.ts then s.adv else s).ts.length<=n:=by
   split
   ·exact Nat.le_trans (Zz h) (Nat.sub_le _ _)
   ·exact h
  by_cases hn:n=0
  ·subst hn
   have E:(if Qv [45] s.ts then s.adv else s).ts=[]:=List.eq_nil_of_length_eq_zero (by omega)
   have H:Qi fin (if Qv [45] s.ts then s.adv else s)=unfit fin (if Qv [45] s.ts then s.adv else s):=by unfold Qi;rw[E];rfl
   rw[H];exact(by decide:0<14)
  ·exact(Zd fin J).bind fun m s' E=>(ih (n-1) _ _ _ E (by omega)).mono (by omega)
theorem Eg (fin:Nat):∀f n acc lens s,s.ts.length<=n->n+3<=f->Good n (entries fin f acc lens s):=by
 intro f
 induction f with
 |zero=>intro n acc lens s h I;omega
 |succ f ih=>
  intro n acc lens s h I;rw[entries];refine(Gx fin f n 0 acc s h (by omega)).bind fun r s h=>Good.ite (fun _=>Xz _ (Nat.le_trans (Zz h) (Nat.sub_le _ _))) (fun _=> ?_);by_cases hn:n=0
  ·subst hn
   have E:s.ts=[]:=List.eq_nil_of_length_eq_zero (by omega)
   have H:want fin [59] s=unfit fin s:=by unfold want;rw[E];rfl
   rw[H];exact(by decide:0<14)
  ·exact(Jf fin _ h).bind fun _ s h=>(ih (n-1) _ _ _ h (by omega)).mono (by omega)
theorem Gz (fin col:Nat){s:St}{n:Nat}(h:s.ts.length<=n):Good n (Ja fin col s):=by
 unfold Ja;refine(Zd fin h).bind fun _ s h=>(Jf fin _ h).bind fun _ s h=>(Zd fin h).bind fun _ s h=>(Jf fin _ h).bind fun _ s h=> ?_;exact Good.ite (fun _=>Tj _ (by decide) _) (fun _=>Xz _ (by omega))
theorem Dk (col:Nat)(a:List (Bool×Nat)×List Nat){s:St}{n:Nat}(h:s.ts.length<=n):Good n (Yo col a s):=by
 unfold Yo;exact Good.ite (fun _=>Tj _ (by decide) _) (fun _=>Good.ite (fun _=>Tj _ (by decide) _) (fun _=>Xz _ h))
theorem W7 (fin f:Nat){s:St}{n:Nat}(h:s.ts.length<=n)(hf:n+3<=f):Good (n-1) (X6 fin f s):=by
 unfold X6;refine(Jf fin _ h).bind fun _ s h=>Good.ite (fun _=>Gz _ _ h) (fun _=> ?_);exact(Eg fin f _ _ _ _ h (by omega)).bind fun _ _ h=>Dk _ _ h
theorem Dp (fin:Nat):∀f n acc s,s.ts.length<=n->n+1<=f->Good n (X0 fin f acc s):=by
 intro f
 induction f with
 |zero=>intro n acc s h E;omega
 |succ f ih=>
  intro n acc s h E;rw[X0];refine Good.ite (fun hk=> ?_) (fun _=>Xz _ h);have:=Df hk;exact(Zd fin h).bind fun _ s h=>(ih (n-1) _ _ h (by omega)).mono (by omega)
theorem Dr (fin:Nat):∀f n acc s,s.ts.length<=n->n+2<=f->Good n (Xa fin f acc s):=by
 intro f
 induction f with
 |zero=>intro n acc s h I;omega
 |succ f ih=>
  intro n acc s h I;rw[Xa];refine(Zd fin h).bind fun _ s h=>(Dp fin f (n-1) _ _ h (by omega)).bind fun _ s h=>Good.ite (fun _=>Xz _ (Nat.le_trans (Zz h) (by omega))) (fun _=> ?_);by_cases hn:n-1=0
  ·have E:s.ts=[]:=List.eq_nil_of_length_eq_zero (by omega)
   have H:want fin [44] s=unfit fin s:=by unfold want;rw[E];rfl
   rw[H];exact(by decide:0<14)
  ·exact(Jf fin _ h).bind fun _ s h=>(ih (n-1-1) _ _ h (by omega)).mono (by omega)
theorem Vt (fin f:Nat){s:St}{n:Nat}(h:s.ts.length<=n)(hf:n+2<=f):Good (n-1) (Xg fin f s):=by
 unfold Xg;refine(Jf fin _ h).bind fun _ s h=>Good.ite (fun _=>Xz _ (Nat.le_trans (Zz h) (by omega))) (fun _=> ?_);exact Dr fin f _ _ _ h (by omega)
theorem Ey:∀f n k s,s.ts.length<=n->n+1<=f->Good n (J0 f k s):=by
 intro f
 induction f with
 |zero=>intro n k s h E;omega
 |succ f ih=>
  intro n k s h E;rw[J0];refine Good.ite (fun hk=> ?_) (fun _=>Xz _ h);have:=Xp hk;exact(ih (n-1) _ _ (Zz h) (by omega)).mono (by omega)
theorem Qqs:∀f n k s,s.ts.length<=n->n+1<=f->Good n (Su f k s):=by
 intro f
 induction f with
 |zero=>intro n k s h E;omega
 |succ f ih=>
  intro n k s h E;rw[Su];refine Good.ite (fun hk=> ?_) (fun _=>Xz _ h);have:=Xp hk;exact(ih (n-1) _ _ (Zz h) (by omega)).mono (by omega)
theorem Hk (fin:Nat){s:St}{n:Nat}(h:s.ts.length<=n):Good (n-1) (Wd fin s):=by
 unfold Wd;exact Good.itep (fun _=>Tj _ (by decide) _) (fun _=>Xz _ (Zz h))
theorem N4 (fin:Nat){s:St}{n:Nat}(h:s.ts.length<=n):Good (n-1) (Y9 fin s):=by
 unfold Y9;exact(Jf fin _ h).bind fun _ s h=>Xz _ h
structure AllGood (fin n:Nat):Prop where
 at_:∀f s,s.ts.length<=n->10*n+4<=f->Good (n-1) (atom fin f s)
 po:∀f s,s.ts.length<=n->10*n+5<=f->Good (n-1) (post fin f s)
 fa:∀f s,s.ts.length<=n->10*n+6<=f->Good (n-1) (factor fin f s)
 tl:∀f k s,s.ts.length<=n->10*n+4<=f->Good n (termLoop fin f k s)
 t:∀f s,s.ts.length<=n->10*n+7<=f->Good (n-1) (term fin f s)
 el:∀f k s,s.ts.length<=n->10*n+4<=f->Good n (exprLoop fin f k s)
 e:∀f s,s.ts.length<=n->10*n+8<=f->Good (n-1) (expr fin f s)
 pl:∀f k s,s.ts.length<=n->10*n+4<=f->Good n (partsLoop fin f k s)
 pa:∀f s,s.ts.length<=n->10*n+9<=f->Good (n-1) (parts fin f s)
theorem Zo {f n k:Nat}(h:10*n+k<=f)(hk:0<k):∃g,f=g+1/\10*n+k<=g+1:=⟨f-1,by omega,by omega⟩
theorem Bn (fin:Nat):∀n,AllGood fin n:=by
 intro n
 induction n using Nat.strongRecOn with
 |ind n ih=>
  have H:∀f s,s.ts.length<=n->10*n+4<=f->Good (n-1) (atom fin f s):=by
   intro f s h E;obtain⟨f,rfl,E⟩:=Zo E (by omega);rw[atom];refine Good.ite (fun _=>(Zd fin h).bind fun _ s h=>Xz _ h) fun _=>Good.ite (fun hk=> ?_) fun _=>Good.ite (fun _=>(Sr fin h).bind fun _ s h=>Xz _ h) fun _=>Good.ite (fun hk=> ?_) fun _=>Good.ite (fun _=> ?_) fun _=>Good.ite (fun _=> ?_) fun _=>Z8 _ _ _
   ·have:=Df (Bool.and_eq_true_iff.1 hk).1
    refine(Sr fin h).bind fun _ s h=>(Hk fin h).bind fun _ s h=>((ih (n-1) (by omega)).pa f s (by omega) (by omega)).bind fun _ s h=>(N4 fin h).bind fun _ s h=>Xz _ (by omega)
   ·have:=Xp hk
    refine(Hk fin h).bind fun _ s h=>((ih (n-1) (by omega)).e f s h (by omega)).bind fun _ s h=>(N4 fin h).bind fun _ s h=>Xz _ (by omega)
   ·exact(W7 fin f h (by omega)).bind fun _ s h=>Xz _ h
   ·exact(Vt fin f h (by omega)).bind fun _ s h=>Xz _ h
  have po:∀f s,s.ts.length<=n->10*n+5<=f->Good (n-1) (post fin f s):=by
   intro f s h E;obtain⟨f,rfl,E⟩:=Zo E (by omega);rw[post];exact(H f s h (by omega)).bind fun _ s h=>Qqs f _ _ _ h (by omega)
  have fa:∀f s,s.ts.length<=n->10*n+6<=f->Good (n-1) (factor fin f s):=by
   intro f s h E;obtain⟨f,rfl,E⟩:=Zo E (by omega);rw[factor];exact(Ey f _ _ _ h (by omega)).bind fun _ s h=>(po f s h (by omega)).bind fun _ s h=>Good.ite (fun _=>(Zd fin (Zz h)).bind fun _ s h=>Xz _ (by omega)) (fun _=>Xz _ h)
  have tl:∀f k s,s.ts.length<=n->10*n+4<=f->Good n (termLoop fin f k s):=by
   intro f k s h E;obtain⟨f,rfl,E⟩:=Zo E (by omega);rw[termLoop];refine Good.ite (fun hk=> ?_) (fun _=>Xz _ h);have:=Xp hk;exact((ih (n-1) (by omega)).fa f s.adv (Zz h) (by omega)).bind fun _ s h=>((ih (n-1) (by omega)).tl f _ s (by omega) (by omega)).mono (by omega)
  have t:∀f s,s.ts.length<=n->10*n+7<=f->Good (n-1) (term fin f s):=by
   intro f s h E;obtain⟨f,rfl,E⟩:=Zo E (by omega);rw[term];refine(fa f s h (by omega)).bind fun _ s h=> ?_;by_cases hn:n=0
   ·subst hn;exact tl f _ s h (by omega)
   ·exact(ih (n-1) (by omega)).tl f _ s h (by omega)
  have el:∀f k s,s.ts.length<=n->10*n+4<=f->Good n (exprLoop fin f k s):=by
   intro f k s h E;obtain⟨f,rfl,E⟩:=Zo E (by omega);rw[exprLoop];refine Good.ite (fun hk=> ?_) (fun _=>Good.ite (fun hk=> ?_) (fun _=>Xz _ h))
   all_goals
    have:=Xp hk;exact((ih (n-1) (by omega)).t f s.adv (Zz h) (by omega)).bind fun _ s h=>((ih (n-1) (by omega)).el f _ s (by omega) (by omega)).mono (by omega)
  have e:∀f s,s.ts.length<=n->10*n+8<=f->Good (n-1) (expr fin f s):=by
   intro f s h E;obtain⟨f,rfl,E⟩:=Zo E (by omega);rw[expr];refine(t f s h (by omega)).bind fun _ s h=> ?_;by_cases hn:n=0
   ·subst hn;exact el f _ s h (by omega)
   ·exact(ih (n-1) (by omega)).el f _ s h (by omega)
  have pl:∀f k s,s.ts.length<=n->10*n+4<=f->Good n (partsLoop fin f k s):=by
   intro f k s h E;obtain⟨f,rfl,E⟩:=Zo E (by omega);rw[partsLoop];refine Good.ite (fun hk=> ?_) (fun _=>Xz _ h);have:=Xp hk;exact((ih (n-1) (by omega)).e f s.adv (Zz h) (by omega)).bind fun _ s h=>((ih (n-1) (by omega)).pl f _ s (by omega) (by omega)).mono (by omega)
  have pa:∀f s,s.ts.length<=n->10*n+9<=f->Good (n-1) (parts fin f s):=by
   intro f s h E;obtain⟨f,rfl,E⟩:=Zo E (by omega);rw[parts];refine(e f s h (by omega)).bind fun _ s h=> ?_;by_cases hn:n=0
   ·subst hn;exact pl f _ s h (by omega)
   ·exact(ih (n-1) (by omega)).pl f _ s h (by omega)
  exact⟨H,po,fa,tl,t,el,e,pl,pa⟩
theorem Nq (fin:Nat)(s:St):Good s.ts.length (line fin (10*s.ts.length+9) s):=by
 unfold line;refine Good.itep (fun _=>Xz _ (Nat.le_refl _)) (fun _=>Good.ite (fun _=> ?_) (fun _=> ?_))
 ·refine(Sr fin (Zz (Nat.le_refl _))).bind fun _ s1 h=>(Jf fin _ h).bind fun _ s1 h=>((Bn fin s.ts.length).e _ s1 (by omega) (by omega)).bind fun _ s1 h=> ?_
  unfold done;exact Good.itep (fun _=>Xz _ (by omega)) (fun _=>Z8 _ _ _)
 ·refine(Sr fin (Nat.le_refl _)).bind fun _ s1 h=>Good.itep (fun _=> ?_) (fun _=>((Bn fin s.ts.length).pa _ s1 (by omega) (by omega)).bind fun _ s1 h=> ?_)
  ·unfold done;exact Good.itep (fun _=>Xz _ (by omega)) (fun _=>Z8 _ _ _)
  ·unfold done;exact Good.itep (fun _=>Xz _ (by omega)) (fun _=>Z8 _ _ _)
end SynP
namespace SynP
open LexP
abbrev KT:=Nat×Qx
def kt (ts:List Tok):List KT:=ts.map fun t=>(t.1,t.2.1)
def Is (ts:List Tok)(l:List KT)(r:List Tok):Prop:=∃a,ts=a++r/\kt a=l
theorem Yj {α β:Type}(a:α)(s:St)(f:α->St->PR β):(ret a s).bind f=f a s:=rfl
theorem Qza (n:Nat):decT n≠[]:=by
 unfold decT;split
 ·simp
 ·rename_i h
  rw[NatP.Wg (by omega)];simp
abbrev mk (x:UInt8):KT:=(3,[x])
def Qhn (m:MatV):Prop:=m.rows<=64/\m.cols<=64/\m.at_.length=m.rows*m.cols/\ ∀x∈m.at_,x.1=true->0<x.2
end SynP
namespace SynP
open LexP
end SynP
namespace SynP
open LexP
def nm (x:UInt8)(r:List Tok):Prop:=Qv [x] r=false
structure S2 (r:List Tok):Prop where
 a:nm 40 r
 b:nm 39 r
 c:nm 94 r
structure S3 (r:List Tok):Prop where
 s2:S2 r
 d:nm 42 r
structure S4 (r:List Tok):Prop where
 s3:S3 r
 e:nm 43 r
 f:nm 45 r
end SynP
namespace SynP
open LexP
theorem Q0 {α β:Type}{x:PR α}{f:α->St->PR β}{r:β×St}(h:x.bind f=some (.ok r)):∃a s,x=some (.ok (a,s))/\f a s=some (.ok r):=by
 rcases x with- |(e|⟨a,s⟩)
 ·cases h
 ·cases h
 ·exact⟨a,s,rfl,h⟩
def Fd (x:Bool×Nat):Prop:=x.1=true->0<x.2
theorem Pf (fin:Nat):∀(f n:Nat) (acc:List (Bool×Nat)) (s:St) (r:(Nat×List (Bool×Nat))×St),Q9 fin f n acc s=some (.ok r)-> ∃l,r.1.2=acc++l/\r.1.1=n+l.length/\(∀x∈l,Fd x)
 |0,_,_,_,_,h=>by cases h
 |f+1,n,acc,s,r,h=>by
  unfold Q9 at h;split at h
  ·obtain⟨m,s',h1,h2⟩:=Q0 h
   obtain⟨l,a1,a2,a3⟩:=Pf fin f _ _ _ _ h2;refine⟨(Qv [45] s.ts && decide (0<m),m)::l,by rw[a1,List.append_assoc];rfl,by rw[a2,List.length_cons];omega,fun x E=> ?_⟩;rcases List.mem_cons.1 E with rfl|E
   ·intro H;simp at H;exact H.2
   ·exact a3 x E
  ·unfold ret at h
   cases h
   exact⟨[],by simp,by simp,fun x E=>by cases E⟩
theorem W9 (fin:Nat):∀(f:Nat) (acc:List (Bool×Nat)) (lens:List Nat) (s:St) (r:(List (Bool×Nat)×List Nat)×St),entries fin f acc lens s=some (.ok r)->acc.length=lens.sum->(∀x∈acc,Fd x)->r.1.1.length=r.1.2.sum/\(∀x∈r.1.1,Fd x)/\0<r.1.2.length
 |0,_,_,_,_,h=>by cases h
 |f+1,acc,lens,s,r,h=>by
  intro hs ho;unfold entries at h;obtain⟨q,s1,h1,h2⟩:=Q0 h;obtain⟨l,a1,a2,a3⟩:=Pf fin f _ _ _ _ h1;simp only at a1 a2
  have E:q.2.length=(lens++[q.1]).sum:=by rw[a1,a2,List.length_append,List.sum_append,hs];simp
  have H:∀x∈q.2,Fd x:=by
   intro x I;rw[a1]at I;rcases List.mem_append.1 I with h|h
   ·exact ho x h
   ·exact a3 x h
  split at h2
  ·unfold ret at h2
   cases h2
   exact⟨E,H,by simp⟩
  ·obtain⟨u,s2,K,J⟩:=Q0 h2
   exact W9 fin f _ _ _ _ J E H
theorem Ct:∀(l:List Nat) (k:Nat),(∀x∈l,x=k)->l.sum=l.length*k
 | [],_,_=>by simp
 |a::l,k,h=>by
  rw[List.sum_cons,List.length_cons,Ct l k (fun x hx=>h x (List.mem_cons_of_mem _ hx)),h a (by simp),Nat.succ_mul];omega
theorem Qjh {fin f:Nat}{s:St}{r:MatV×St}(h:X6 fin f s=some (.ok r)):Qhn r.1:=by
 unfold X6 at h;obtain⟨u,s1,Z,K⟩:=Q0 h;split at K
 ·unfold Ja at K
  obtain⟨a,s2,-,T⟩:=Q0 K;obtain⟨-,s3,-,E⟩:=Q0 T;obtain⟨c,s4,-,U⟩:=Q0 E;obtain⟨-,s5,-,J⟩:=Q0 U;split at J
  ·cases J
  ·rename_i H
   unfold ret at J
   cases J
   have O:∀n,¬64<side n->n<=64:=by
    intro n H;unfold side at H
    split at H<;>omega
   simp at H;refine⟨O a (by omega),O c (by omega),by simp,fun x hx=> ?_⟩;have:=List.eq_of_mem_replicate hx;subst this;intro h;cases h
 ·obtain⟨q,s2,T,E⟩:=Q0 K
  obtain⟨e1,e2,e3⟩:=W9 fin f _ _ _ _ T rfl (fun x hx=>by cases hx);unfold Yo at E;split at E
  ·cases E
  ·rename_i I
   split at E
   ·cases E
   ·rename_i H
    unfold ret at E
    cases E
    simp at H I
    refine⟨H.1,by show q.2.headD 0<=64;have:=H.2;cases O:q.2<;>simp[O]at this ⊢ <;>exact this,?_,e2⟩
    show q.1.length=q.2.length*q.2.headD 0;rw[e1];refine Ct _ _ (fun x hx=> ?_);have:=I x hx
    simpa using this
end SynP
namespace Go.Proofs.YtgfmiladfeoldaaGreatDoor
open Go.RowKit NatP LexP
theorem Qku (a b:Value)(n j:Nat)(hj:j<n):(madeCells #[a,b] (n*2))[j*2]?=some a/\(madeCells #[a,b] (n*2))[j*2+1]?=some b:=by
 unfold madeCells;constructor
 ·rw[Array.getElem?_map,Array.getElem?_range,if_pos (by omega)]
  show some (#[a,b][(j*2) % 2]!)=_;rw[show (j*2) % 2=0 from by omega];rfl
 ·rw[Array.getElem?_map,Array.getElem?_range,if_pos (by omega)]
  show some (#[a,b][(j*2+1) % 2]!)=_;rw[show (j*2+1) % 2=1 from by omega];rfl
theorem Qj4 (n:Nat)(hn:n<=4096):∀w:World,(Instr.makeSlice 45 (.int .i64 (n:Int)) (.int .i64 (n:Int))).run Tryz.prog w=.ok (.slice (some ⟨w.heap.size,0,none⟩) n n) (w.alloc (.cells (madeCells #[.bool false,.slice none 0 0] (n*2)) 62)):=by
 obtain⟨i0,K,E,H,h⟩:=info_parts Tryz.infoAI;intro w
 have J:(i0.bytes:Int)*(n:Int)<=281474976710656:=by rw[h];omega
 have I:=run_make (P:=Tryz.prog) w 45 62 i0 (.agg #[.bool false,.slice none 0 0]) Tryz.underlying45 K E .i64 .i64 n n (by omega) (Int.le_refl _) J (by omega);simp only[Int.toNat_natCast]at I;rw[I,H];rfl
theorem IRd.zeros (w:World)(n:Nat)(hn:n<=4096):IRd (w.alloc (.cells (madeCells #[.bool false,.slice none 0 0] (n*2)) 62)) (.slice (some ⟨w.heap.size,0,none⟩) n n) (List.replicate n (false,0)):=by
 have E:=heap_alloc_new w (.cells (madeCells #[.bool false,.slice none 0 0] (n*2)) 62);refine⟨_,n,by rw[List.length_replicate],by rw[List.length_replicate];omega,by unfold maxLen;omega,fun _=>⟨w.heap.size,0,rfl,by simp,fun j p hj=> ?_⟩⟩
 have h:j<n:=by have:=(List.getElem?_eq_some_iff.1 hj).1;rwa [List.length_replicate]at this
 have H:p=(false,0):=by rw[List.getElem?_replicate,if_pos h]at hj;simpa using hj.symm
 subst H;obtain⟨m1,m2⟩:=Qku (.bool false) (.slice none 0 0) n j h;refine⟨.slice none 0 0,[],?_,?_,Rd.nil _,rfl,by simp⟩
 ·rw[Nat.zero_add];exact(cell_of_row _ _ _ _ _ _ E).trans m1
 ·rw[Nat.zero_add];exact(cell_of_row _ _ _ _ _ _ E).trans m2
theorem En.ird {w:World}{B:Nat}{av lv:Value}{cs:List (Bool×Value)}{acc:List (Bool×Nat)}{lens:List Nat}(h:En w B av lv cs acc lens):IRd w av acc:=by
 obtain⟨ao,H,e,K,J,I⟩:=Qj h.own1;refine⟨ao,H,by rw[<-h.len];exact e,by rw[<-h.len];exact K,J,fun h0=> ?_⟩;obtain⟨g,rfl,a1,a2,a3⟩:=I (by rw[h.len];exact h0);refine⟨g,0,rfl,a2,fun j p hj=> ?_⟩
 have E:j<cs.length:=by rw[h.len];exact(List.getElem?_eq_some_iff.1 hj).1
 obtain⟨q1,⟨⟨xs,x1,x2,x3⟩,-⟩,-⟩:=h.el j cs[j] p (List.getElem?_eq_getElem E) hj;obtain⟨i1,i2⟩:=Ng cs j cs[j] (List.getElem?_eq_getElem E);refine⟨_,xs,?_,?_,x1,x2,x3⟩
 ·rw[Nat.zero_add,a3 _ (by omega),i1,q1]
 ·rw[Nat.zero_add,a3 _ (by omega),i2]
theorem Da {w w':World}{g:Nat}{x y z u v t:Value}(h:w.heap[g]?=some (.cells #[u,v,t] 47 (0,0)))(hw:w'=((w.setCell ⟨g,0,none⟩ x).setCell ⟨g,1,none⟩ y).setCell ⟨g,2,none⟩ z):
  w'.heap[g]?=some (.cells #[x,y,z] 47 (0,0))/\w.grownBy w' (some g)/\w'.heap.size=w.heap.size/\Wr g none w w':=by
 have s1:=heap_setCell_same w g 0 #[u,v,t] 47 x h;have s2:=heap_setCell_same (w.setCell ⟨g,0,none⟩ x) g 1 _ 47 y s1;have s3:=heap_setCell_same ((w.setCell ⟨g,0,none⟩ x).setCell ⟨g,1,none⟩ y) g 2 _ 47 z s2
 have r1:Wr g none w w':=by
  rw[hw];exact RS.step (RS.step (Wr.of_set w 0 x) (Wr.of_set _ 1 y)) (Wr.of_set _ 2 z)
 refine⟨by rw[hw];exact s3.trans (by simp),⟨r1.os,r1.tape,r1.output,r1.size,fun k hk hne=>r1.block k hk (fun e=>hne (by rw[e])) (by simp)⟩,by rw[hw];simp[World.setCell],r1⟩
def MatQ (m:SynP.MatV)(v:Value)(w':World):Prop:=∃av,v=.agg #[.int .i64 (m.rows:Nat),.int .i64 (m.cols:Nat),av]/\IRd w' av m.at_
end Go.Proofs.YtgfmiladfeoldaaGreatDoor
