import Derived.Test.YtgfmiladfeoldaaGreatDoorPk1
set_option linter.unusedSimpArgs false
set_option linter.unusedVariables false
set_option maxRecDepth 100000
set_option maxHeartbeats 16000000
namespace NumP
def Xz (c:UInt8):Bool:=48<=c.toNat && c.toNat<=57
end NumP
namespace Go.Proofs.YtgfmiladfeoldaaGreatDoor
open Go.RowKit LexP NumP
theorem Tryz.infoInt:(Tryz.prog.info? 3).map (fun i=>(i.zero,i.size,i.bytes))=some (some (.int .i64 0),1,8):=by kernel_rfl
end Go.Proofs.YtgfmiladfeoldaaGreatDoor
namespace LexP
open Go.Lib
def Pi (t:Qx)(i:Nat):Bool:=t[i]?==some 95 && (i==0||decide (t.length<=i+1)||t[i-1]?==some 95||t[i+1]?==some 95)
def Zr (t:Qx):Bool:=(List.range t.length).any (Pi t)
theorem Wf (t:Qx):Zr t=true↔ ∃i,i<t.length/\Pi t i=true:=by
 simp[Zr,List.any_eq_true]
theorem Da (t:Qx)(j:Nat):occAt t [95,95] j=true↔t[j]?=some 95/\t[j+1]?=some 95:=by
 unfold occAt;rw[List.isPrefixOf_iff_prefix]
 have h:(t.drop j)[0]?=t[j]? :=by rw[List.getElem?_drop];rfl
 have E:(t.drop j)[1]?=t[j+1]? :=by rw[List.getElem?_drop]
 rw[<-h,<-E]
 match t.drop j with
 | []=>simp
 | [a]=>simp
 |a::b::r=>simp;constructor<;>(rintro ⟨rfl,rfl⟩;exact⟨rfl,rfl⟩)
theorem Ei (t sub:Qx)(hs:sub≠[]):contains t sub=true↔ ∃j,occAt t sub j=true:=by
 unfold contains;rw[decide_eq_true_eq];constructor
 ·intro h
  apply Classical.byContradiction;intro T
  have:index t sub= -1:=index_none fun j _=>by
   cases ho:occAt t sub j with
   |false=>rfl
   |true=>exact absurd ⟨j,ho⟩ T
  omega
 ·rintro ⟨j,O⟩
  have K:∀n,(∃j,j<n/\occAt t sub j=true)-> ∃i,occAt t sub i=true/\ ∀k,k<i->occAt t sub k=false:=by
   intro n
   induction n with
   |zero=>rintro ⟨j,h,_⟩;omega
   |succ n ih=>
    rintro ⟨j,H,E⟩;by_cases h:∃j,j<n/\occAt t sub j=true
    ·exact ih h
    ·have I:j=n:=by
      apply Classical.byContradiction;intro U;exact h ⟨j,by omega,E⟩
     subst I;refine⟨j,E,fun k hk=> ?_⟩
     cases ho:occAt t sub k with
     |false=>rfl
     |true=>exact absurd ⟨k,hk,ho⟩ h
  obtain⟨i,H,E⟩:=K (j+1) ⟨j,by omega,O⟩
  have J:i<=t.length:=by
   rcases occAt_room H with h|h
   ·omega
   ·exact absurd h hs
  rw[index_first J H E];omega
theorem Qzq (t:Qx):hasSuffix t [95]=true↔ ∃i,t.length=i+1/\t[i]?=some 95:=by
 unfold hasSuffix;rw[List.isSuffixOf_iff_suffix];constructor
 ·rintro ⟨q,rfl⟩
  exact⟨q.length,by simp,by simp⟩
 ·rintro ⟨i,h,E⟩
  refine⟨t.take i,?_⟩;have:=List.take_add_one (l:=t) (i:=i);rw[E,<-h,List.take_length]at this;exact this.symm
theorem Ry {t:Qx}(h0:t[0]? ≠some 95):Jo t=Zr t:=by
 rw[Bool.eq_iff_iff,Wf];unfold Jo;rw[Bool.or_eq_true,Qzq,Ei t [95,95] (by simp)];constructor
 ·rintro (⟨i,J,H⟩|⟨j,I⟩)
  ·have K:decide (t.length<=i+1)=true:=decide_eq_true (by omega)
   exact⟨i,by omega,by simp only[Pi,H,K,beq_self_eq_true,Bool.true_and,Bool.or_true,Bool.true_or]⟩
  ·rw[Da]at I
   have:j<t.length:=(List.getElem?_eq_some_iff.1 I.1).1;exact⟨j,this,by simp only[Pi,I.1,I.2,beq_self_eq_true,Bool.true_and,Bool.or_true]⟩
 ·rintro ⟨i,J,H⟩
  simp only[Pi,Bool.and_eq_true,beq_iff_eq,Bool.or_eq_true,decide_eq_true_eq]at H;obtain⟨E,((h|h)|h)|h⟩:=H
  ·subst h;exact absurd E h0
  ·exact .inl ⟨i,by omega,E⟩
  ·have:i≠0:=by rintro rfl;exact h0 E
   exact .inr ⟨i-1,by rw[Da];exact⟨h,by rw[show i-1+1=i from by omega];exact E⟩⟩
  ·exact .inr ⟨i,by rw[Da];exact⟨E,h⟩⟩
def Tg (t:Qx):Prop:=∀c∈t,NumP.Xz c=true\/c=95
end LexP
namespace Go.Proofs.YtgfmiladfeoldaaGreatDoor
open Go.RowKit LexP NumP
def Ja (l:Qx):List Value:=l.map fun c=> .int .u8 (c.toNat:Nat)
theorem Kc (a b:Qx):Ja (a++b)=Ja a++Ja b:=by simp[Ja]
def OwnB (B:Nat)(w:World)(v:Value)(ds:Qx):Prop:=w.ownsRow B 5 1 v ds.length (Ja ds)
theorem Qyn:∀(l:Qx) (s:ByteArray),(l.map fun c=>((c.toNat:Nat):Int)).foldl (fun r n=>r.push (UInt8.ofNat n.toNat)) s=⟨s.data++l.toArray⟩:=by
 intro l
 induction l with
 |nil=>intro s;simp
 |cons c l ih=>
  intro s;simp only[List.map_cons,List.foldl_cons,Int.toNat_natCast,UInt8.ofNat_toNat];rw[ih];show (⟨s.data.push c++l.toArray⟩:ByteArray)=_;congr 1;simp
theorem Pu {B:Nat}{w:World}{v:Value}{l:Qx}(h:OwnB B w v l):(convert 88 9 v).run Tryz.prog w=.ok (.string ⟨l.toArray⟩) w:=by
 rcases ownsRow_open h with ⟨rfl,E,K⟩|⟨g,H,rfl,-,-,-,-,-⟩
 ·rw[run_convert_bytes_string w _ _ 5 none 0 0 Tryz.underlying88 Tryz.underlying5 Tryz.underlying9]
  obtain rfl:l=[]:=List.eq_nil_of_length_eq_zero E;rfl
 ·rw[run_convert_bytes_string w _ _ 5 _ _ _ Tryz.underlying88 Tryz.underlying5 Tryz.underlying9]
  have J:=h.cells (g:=g) rfl;have I:=run_loadCells_list (P:=Tryz.prog) (w:=w) ⟨g,0,none⟩ (Ja l) J
  have e:Ja l=(l.map fun c=>((c.toNat:Nat):Int)).map (Value.int .u8):=by simp[Ja]
  have E:(Ja l).length=l.length:=by simp[Ja]
  rw[E,e]at I;rw[run_bytesToString w ⟨g,0,none⟩ l.length H _ I,Qyn];congr 2;simp
end Go.Proofs.YtgfmiladfeoldaaGreatDoor
namespace LexP
def Nw (t:Qx)(pos:Nat):Prop:=∀j,j<pos->t[j]?=some 95->0<j/\t[j-1]? ≠some 95
def btw (t:Qx)(pos:Nat):Bool:=decide (0<pos) && (t[pos-1]? !=some 95)
theorem Ah (t:Qx):Nw t 0:=fun j h=>absurd h (Nat.not_lt_zero _)
theorem C7 (t:Qx)(pos:Nat):btw t (pos+1)=(t[pos]? !=some 95):=by simp[btw]
theorem Mz {t:Qx}{pos:Nat}(h:Nw t pos)(hb:t[pos]?=some 95->btw t pos=true):Nw t (pos+1):=by
 intro j I E;rcases Nat.lt_succ_iff_lt_or_eq.1 I with H|rfl
 ·exact h j H E
 ·have:=hb E
  simp only[btw,Bool.and_eq_true,decide_eq_true_eq,bne_iff_ne]at this;exact this
theorem Qg3 {t:Qx}{pos:Nat}(h:t[pos]?=some 95)(hb:btw t pos=false):Zr t=true:=by
 rw[Wf];refine⟨pos,(List.getElem?_eq_some_iff.1 h).1,?_⟩;simp only[btw,Bool.and_eq_false_iff,decide_eq_false_iff_not,bne_eq_false_iff_eq]at hb;simp only[Pi,h,beq_self_eq_true,Bool.true_and];rcases hb with hb|hb
 ·have:pos=0:=by omega
  subst this;simp
 ·rw[hb];simp
theorem Gx {t:Qx}(h0:t≠[])(hb:btw t t.length=false):Zr t=true:=by
 rw[Wf];have h:0<t.length:=List.length_pos_iff.2 h0;simp only[btw,Bool.and_eq_false_iff,decide_eq_false_iff_not,bne_eq_false_iff_eq]at hb;rcases hb with hb|hb
 ·omega
 ·refine⟨t.length-1,by omega,?_⟩
  have:decide (t.length<=t.length-1+1)=true:=decide_eq_true (by omega);simp only[Pi,hb,beq_self_eq_true,this,Bool.true_and,Bool.or_true,Bool.true_or]
theorem Qkq {t:Qx}(h:Nw t t.length)(hb:btw t t.length=true):Zr t=false:=by
 cases ha:Zr t with
 |false=>rfl
 |true=>
  exfalso;obtain⟨j,O,E⟩:=(Wf t).1 ha;simp only[Pi,Bool.and_eq_true,Bool.or_eq_true,beq_iff_eq,decide_eq_true_eq]at E;obtain⟨H,E⟩:=E;obtain⟨T,K⟩:=h j O H;simp only[btw,Bool.and_eq_true,decide_eq_true_eq,bne_iff_ne]at hb;rcases E with ((E|E)|E)|E
  ·omega
  ·have:t.length-1=j:=by omega
   rw[this]at hb;exact hb.2 H
  ·exact K E
  ·have J:j+1<t.length:=(List.getElem?_eq_some_iff.1 E).1
   obtain⟨_,I⟩:=h (j+1) J E;rw[Nat.add_sub_cancel]at I;exact I H
theorem Qj8 {t:Qx}(h0:t≠[])(h:Zr t=false):btw t t.length=true:=by
 cases hb:btw t t.length with
 |true=>rfl
 |false=>rw[Gx h0 hb]at h;cases h
theorem Eo {b:UInt8}{r:Qx}(h:b.toNat<128):val (b::r)=some b.toNat/\wid (b::r)=1:=by
 have:dec (b::r)=some (b.toNat,1):=by
  show (if b.toNat<0x80 then _ else _)=_;rw[if_pos h]
 simp[val,wid,this]
def digs (l:Qx):List Nat:=l.map fun c=>c.toNat-48
theorem Nt (a b:Qx):digs (a++b)=digs a++digs b:=by simp[digs]
end LexP
namespace SynP
open LexP
structure Node where
 op:Nat
 text:Qx
 kids:List Nat
deriving DecidableEq,Repr
structure MatV where
 rows:Nat
 cols:Nat
 at_:List (Bool×Nat)
deriving DecidableEq,Repr
mutual
inductive Ex where
 |num (n:Nat)|name (x:Qx)|mat (m:MatV)|cpx (l:List (List Nat))
 |neg (a:Ex)|turn (a:Ex)|add (a b:Ex)|sub (a b:Ex)|mul (a b:Ex)|pow (a:Ex) (n:Nat)|call (x:Qx) (l:Exs)
inductive Exs where
 |nil|cons (a:Ex) (l:Exs)
end
inductive Ln where
 |nothing|lets (x:Qx) (e:Ex)|cmd (x:Qx) (l:Exs)
def Exs.snoc:Exs->Ex->Exs
 | .nil,e=> .cons e .nil
 | .cons a l,e=> .cons a (l.snoc e)
def Exs.len:Exs->Nat
 | .nil=>0
 | .cons _ l=>l.len+1
structure St where
 ts:List Tok
 opened:Nat
deriving DecidableEq,Repr
abbrev PR (α:Type):=Option (Except (Nat×Nat) (α×St))
def PR.bind {α β:Type}(x:PR α)(f:α->St->PR β):PR β:=
 match x with
 |none=>none
 |some (.error e)=>some (.error e)
 |some (.ok (a,s))=>f a s
def ret {α:Type}(a:α)(s:St):PR α:=some (.ok (a,s))
def fault {α:Type}(c e:Nat):PR α:=some (.error (c,e))
def Te (fin:Nat)(ts:List Tok):Nat:=match ts with| []=>fin|t::_=>t.2.2
def Qk (x:Qx)(ts:List Tok):Bool:=match ts with|(k,t,_)::_=>k==3 && t==x| []=>false
def Qb (k:Nat)(ts:List Tok):Bool:=match ts with|(j,_,_)::_=>j==k| []=>false
def St.adv (s:St):St:={s with ts:=s.ts.tail}
def unfit {α:Type}(fin:Nat)(s:St):PR α:=fault (Te fin s.ts) 14
def want (fin:Nat)(x:Qx)(s:St):PR Unit:=if Qk x s.ts then ret () s.adv else unfit fin s
def U1 (t:Qx):Nat:=NatP.decV (digs (t.filter NumP.Xz))
def Xl (ts:List Tok):Qx:=match ts with|(_,t,_)::_=>t| []=>[]
def Qd (fin:Nat)(s:St):PR Nat:=if Qb 1 s.ts then ret (U1 (Xl s.ts)) s.adv else unfit fin s
def name (fin:Nat)(s:St):PR Qx:=if Qb 2 s.ts then ret (Xl s.ts) s.adv else unfit fin s
def decT (n:Nat):Qx:=if n=0 then [48] else (NatP.dg n).map fun d=>UInt8.ofNat (48+d)
def intT (x:Bool×Nat):Qx:=(if x.1 then [45] else [])++decT x.2
def Xn (sep:Qx):List Qx->Qx
 | []=>[]
 | [a]=>a
 |a::l=>a++sep++Xn sep l
def Xb {α:Type}(cols:Nat):Nat->List α->List (List α)
 |0,_=>[]
 |r+1,l=>l.take cols::Xb cols r (l.drop cols)
def matT (m:MatV):Qx:=
 if m.at_=[] then [91]++decT m.rows++[58]++decT m.cols++[93]
 else [91]++Xn [59,32] ((Xb m.cols m.rows (m.at_.map intT)).map (Xn [32]))++[93]
def cpxT (l:List (List Nat)):Qx:=[123]++Xn [44,32] (l.map fun s=>Xn [32] (s.map decT))++[125]
def side (n:Nat):Nat:=if 64<n then 65 else n
def Qo (fin:Nat):Nat->Nat->List (Bool×Nat)->St->PR (Nat×List (Bool×Nat))
 |0,_,_,_=>none
 |f+1,n,acc,s=>
  if n=0||Qk [45] s.ts||Qb 1 s.ts then
   (Qd fin (if Qk [45] s.ts then s.adv else s)).bind fun m s'=>Qo fin f (n+1) (acc++[(Qk [45] s.ts && decide (0<m),m)]) s'
  else ret (n,acc) s
def Xj (fin:Nat):Nat->List (Bool×Nat)->List Nat->St->PR (List (Bool×Nat)×List Nat)
 |0,_,_,_=>none
 |f+1,acc,lens,s=>
  (Qo fin f 0 acc s).bind fun r s=>
   if Qk [93] s.ts then ret (r.2,lens++[r.1]) s.adv
   else (want fin [59] s).bind fun _ s=>Xj fin f r.2 (lens++[r.1]) s
def Yr (fin col:Nat)(s:St):PR MatV:=
 (Qd fin s).bind fun r s=>(want fin [58] s).bind fun _ s=>(Qd fin s).bind fun c s=>(want fin [93] s).bind fun _ s=>
  if 64<side r||64<side c then fault col 5
  else ret ⟨r,c,List.replicate (r*c) (false,0)⟩ s
def Ys (col:Nat)(a:List (Bool×Nat)×List Nat)(s:St):PR MatV:=
 if a.2.any (· !=a.2.headD 0) then fault col 2
 else if 64<a.2.length||64<a.2.headD 0 then fault col 5
 else ret ⟨a.2.length,a.2.headD 0,a.1⟩ s
def Xi (fin f:Nat)(s0:St):PR MatV:=
 (want fin [91] s0).bind fun _ s=>
  if Qb 1 s.ts && Qk [58] s.ts.tail then Yr fin (Te fin s0.ts) s
  else (Xj fin f [] [] s).bind (Ys (Te fin s0.ts))
def Q9 (fin:Nat):Nat->List Nat->St->PR (List Nat)
 |0,_,_=>none
 |f+1,acc,s=>if Qb 1 s.ts then (Qd fin s).bind fun n s=>Q9 fin f (acc++[n]) s else ret acc s
def Xq (fin:Nat):Nat->List (List Nat)->St->PR (List (List Nat))
 |0,_,_=>none
 |f+1,acc,s=>
  (Qd fin s).bind fun n s=>(Q9 fin f [n] s).bind fun x s=>
   if Qk [125] s.ts then ret (acc++[x]) s.adv
   else (want fin [44] s).bind fun _ s=>Xq fin f (acc++[x]) s
def Q5 (fin f:Nat)(s:St):PR (List (List Nat)):=
 (want fin [123] s).bind fun _ s=>if Qk [125] s.ts then ret [] s.adv else Xq fin f [] s
def Xg:Nat->Nat->St->PR Nat
 |0,_,_=>none
 |f+1,n,s=>if Qk [45] s.ts then Xg f (n+1) s.adv else ret n s
def negs:Nat->Ex->Ex
 |0,k=>k
 |n+1,k=>negs n (.neg k)
def X9:Nat->Ex->St->PR Ex
 |0,_,_=>none
 |f+1,k,s=>if Qk [39] s.ts then X9 f (.turn k) s.adv else ret k s
def Zu (fin:Nat)(s:St):PR Unit:=
 if 100<s.opened+1 then fault (Te fin s.ts) 5 else ret () {s.adv with opened:=s.opened+1}
def X6 (fin:Nat)(s:St):PR Unit:=(want fin [41] s).bind fun _ s=>ret () {s with opened:=s.opened-1}
mutual
def expr (fin:Nat):Nat->St->PR Ex
 |0,_=>none
 |f+1,s=>(term fin f s).bind fun k s=>Qf fin f k s
def Qf (fin:Nat):Nat->Ex->St->PR Ex
 |0,_,_=>none
 |f+1,k,s=>
  if Qk [43] s.ts then (term fin f s.adv).bind fun t s=>Qf fin f (.add k t) s
  else if Qk [45] s.ts then (term fin f s.adv).bind fun t s=>Qf fin f (.sub k t) s
  else ret k s
def term (fin:Nat):Nat->St->PR Ex
 |0,_=>none
 |f+1,s=>(Xr fin f s).bind fun k s=>Qi fin f k s
def Qi (fin:Nat):Nat->Ex->St->PR Ex
 |0,_,_=>none
 |f+1,k,s=>
  if Qk [42] s.ts then (Xr fin f s.adv).bind fun t s=>Qi fin f (.mul k t) s
  else ret k s
def Xr (fin:Nat):Nat->St->PR Ex
 |0,_=>none
 |f+1,s=>
  (Xg f 0 s).bind fun n s=>(post fin f s).bind fun k s=>
   if Qk [94] s.ts then (Qd fin s.adv).bind fun m s=>ret (negs n (.pow k m)) s
   else ret (negs n k) s
def post (fin:Nat):Nat->St->PR Ex
 |0,_=>none
 |f+1,s=>(atom fin f s).bind fun k s=>X9 f k s
def atom (fin:Nat):Nat->St->PR Ex
 |0,_=>none
 |f+1,s=>
  if Qb 1 s.ts then (Qd fin s).bind fun n s=>ret (.num n) s
  else if Qb 2 s.ts && Qk [40] s.ts.tail then
   (name fin s).bind fun x s=>(Zu fin s).bind fun _ s=>(X7 fin f s).bind fun ks s=>(X6 fin s).bind fun _ s=>ret (.call x ks) s
  else if Qb 2 s.ts then (name fin s).bind fun x s=>ret (.name x) s
  else if Qk [40] s.ts then (Zu fin s).bind fun _ s=>(expr fin f s).bind fun k s=>(X6 fin s).bind fun _ s=>ret k s
  else if Qk [91] s.ts then (Xi fin f s).bind fun m s=>ret (.mat m) s
  else if Qk [123] s.ts then (Q5 fin f s).bind fun l s=>ret (.cpx l) s
  else unfit fin s
def X7 (fin:Nat):Nat->St->PR Exs
 |0,_=>none
 |f+1,s=>(expr fin f s).bind fun k s=>Qs fin f (.cons k .nil) s
def Qs (fin:Nat):Nat->Exs->St->PR Exs
 |0,_,_=>none
 |f+1,ks,s=>if Qk [44] s.ts then (expr fin f s.adv).bind fun k s=>Qs fin f (ks.snoc k) s else ret ks s
end
def done {α:Type}(fin:Nat)(a:α)(s:St):PR α:=if s.ts=[] then ret a s else unfit fin s
def letB:Qx:=[108,101,116]
def line (fin f:Nat)(s:St):PR Ln:=
 if s.ts=[] then ret .nothing s
 else if Qb 2 s.ts && Xl s.ts==letB then
  (name fin s.adv).bind fun x s=>(want fin [61] s).bind fun _ s=>(expr fin f s).bind fun e s=>done fin (.lets x e) s
 else
  (name fin s).bind fun x s=>
   if s.ts=[] then done fin (.cmd x .nil) s
   else (X7 fin f s).bind fun ks s=>done fin (.cmd x ks) s
mutual
def Ex.size:Ex->Nat
 | .num _=>1| .name _=>1| .mat _=>1| .cpx _=>1
 | .neg a=>a.size+1| .turn a=>a.size+1
 | .add a b=>a.size+b.size+1| .sub a b=>a.size+b.size+1| .mul a b=>a.size+b.size+1
 | .pow a _=>a.size+1
 | .call _ l=>l.size+1
def Exs.size:Exs->Nat
 | .nil=>0
 | .cons a l=>a.size+l.size
end
def Exs.roots:Exs->Nat->List Nat
 | .nil,_=>[]
 | .cons a l,o=>(o+a.size-1)::l.roots (o+a.size)
mutual
def Ex.flat:Ex->Nat->List Node
 | .num n,_=>[⟨1,decT n,[]⟩]
 | .name x,_=>[⟨2,x,[]⟩]
 | .mat m,_=>[⟨3,matT m,[]⟩]
 | .cpx l,_=>[⟨13,cpxT l,[]⟩]
 | .neg a,o=>a.flat o++[⟨4,[],[o+a.size-1]⟩]
 | .turn a,o=>a.flat o++[⟨5,[],[o+a.size-1]⟩]
 | .add a b,o=>a.flat o++b.flat (o+a.size)++[⟨6,[],[o+a.size-1,o+a.size+b.size-1]⟩]
 | .sub a b,o=>a.flat o++b.flat (o+a.size)++[⟨7,[],[o+a.size-1,o+a.size+b.size-1]⟩]
 | .mul a b,o=>a.flat o++b.flat (o+a.size)++[⟨8,[],[o+a.size-1,o+a.size+b.size-1]⟩]
 | .pow a n,o=>a.flat o++[⟨9,decT n,[o+a.size-1]⟩]
 | .call x l,o=>l.flat o++[⟨10,x,l.roots o⟩]
def Exs.flat:Exs->Nat->List Node
 | .nil,_=>[]
 | .cons a l,o=>a.flat o++l.flat (o+a.size)
end
def Ln.size:Ln->Nat
 | .nothing=>1
 | .lets _ e=>e.size+1
 | .cmd _ l=>l.size+1
def Ln.flat:Ln->List Node
 | .nothing=>[⟨14,[],[]⟩]
 | .lets x e=>e.flat 0++[⟨11,x,[e.size-1]⟩]
 | .cmd x l=>l.flat 0++[⟨12,x,l.roots 0⟩]
def Ex.op:Ex->Nat
 | .num _=>1| .name _=>2| .mat _=>3| .cpx _=>13| .neg _=>4| .turn _=>5| .add _ _=>6| .sub _ _=>7| .mul _ _=>8| .pow _ _=>9| .call _ _=>10
def Vv (o:Nat):Bool:=o==6||o==7
def Y3 (o:Nat):Bool:=Vv o||o==8
def Qp (op place part:Nat):Bool:=
 if op==6||op==7 then place==1 && Vv part
 else if op==8 then Vv part||(place==1 && Y3 part)
 else if op==4 then Y3 part
 else if op==9||op==5 then Y3 part||part==4||part==9
 else false
def par (b:Bool)(t:Qx):Qx:=if b then [40]++t++[41] else t
mutual
def Ex.pr:Ex->Qx
 | .num n=>decT n
 | .name x=>x
 | .mat m=>matT m
 | .cpx l=>cpxT l
 | .neg a=>[45]++par (Qp 4 0 a.op) a.pr
 | .turn a=>par (Qp 5 0 a.op) a.pr++[39]
 | .add a b=>par (Qp 6 0 a.op) a.pr++[32,43,32]++par (Qp 6 1 b.op) b.pr
 | .sub a b=>par (Qp 7 0 a.op) a.pr++[32,45,32]++par (Qp 7 1 b.op) b.pr
 | .mul a b=>par (Qp 8 0 a.op) a.pr++[42]++par (Qp 8 1 b.op) b.pr
 | .pow a n=>par (Qp 9 0 a.op) a.pr++([94]++decT n)
 | .call x l=>x++([40]++l.pr++[41])
def Exs.pr:Exs->Qx
 | .nil=>[]
 | .cons a l=>a.pr++l.prTail
def Exs.prTail:Exs->Qx
 | .nil=>[]
 | .cons a l=>[44,32]++a.pr++l.prTail
end
def Ln.pr:Ln->Qx
 | .nothing=>[]
 | .lets x e=>[108,101,116,32]++x++[32,61,32]++e.pr
 | .cmd x .nil=>x
 | .cmd x l=>x++[32]++l.pr
def parD (b:Bool)(d:Nat):Nat:=if b then d+1 else d
mutual
def Ex.dp:Ex->Nat
 | .num _=>0| .name _=>0| .mat _=>0| .cpx _=>0
 | .neg a=>parD (Qp 4 0 a.op) a.dp
 | .turn a=>parD (Qp 5 0 a.op) a.dp
 | .add a b=>max (parD (Qp 6 0 a.op) a.dp) (parD (Qp 6 1 b.op) b.dp)
 | .sub a b=>max (parD (Qp 7 0 a.op) a.dp) (parD (Qp 7 1 b.op) b.dp)
 | .mul a b=>max (parD (Qp 8 0 a.op) a.dp) (parD (Qp 8 1 b.op) b.dp)
 | .pow a _=>parD (Qp 9 0 a.op) a.dp
 | .call _ l=>l.dp+1
def Exs.dp:Exs->Nat
 | .nil=>0
 | .cons a l=>max a.dp l.dp
end
def Ln.dp:Ln->Nat
 | .nothing=>0
 | .lets _ e=>e.dp
 | .cmd _ l=>l.dp
end SynP
namespace SynP
open LexP
def Le {α:Type}(a b:PR α):Prop:=a=none\/a=b
theorem Le.refl {α:Type}(a:PR α):Le a a:=.inr rfl
theorem Le.none {α:Type}(b:PR α):Le (none:PR α) b:=.inl rfl
theorem Le.bind {α β:Type}{a a':PR α}{f f':α->St->PR β}(h:Le a a')(hf:∀x s,Le (f x s) (f' x s)):Le (a.bind f) (a'.bind f'):=by
 rcases h with rfl|rfl
 ·exact .inl rfl
 ·rcases a with _|(e|⟨x,s⟩)
  ·exact .inl rfl
  ·exact .inr rfl
  ·exact hf x s
theorem Le.ite {α:Type}{c:Bool}{a b a' b':PR α}(h1:Le a a')(h2:Le b b'):Le (if c then a else b) (if c then a' else b'):=by
 cases c
 ·exact h2
 ·exact h1
theorem Le.itep {α:Type}{c:Prop}[Decidable c]{a b a' b':PR α}(h1:Le a a')(h2:Le b b'):Le (if c then a else b) (if c then a' else b'):=by
 by_cases h:c
 ·rw[if_pos h,if_pos h];exact h1
 ·rw[if_neg h,if_neg h];exact h2
theorem Le.some {α:Type}{a b:PR α}{r:Except (Nat×Nat) (α×St)}(h:Le a b)(ha:a=some r):b=some r:=by
 rcases h with h|h
 ·rw[h]at ha;cases ha
 ·rw[<-h];exact ha
theorem Rm (fin:Nat):∀f n acc s,Le (Qo fin f n acc s) (Qo fin (f+1) n acc s):=by
 intro f
 induction f with
 |zero=>intro n acc s;exact Le.none _
 |succ f ih=>
  intro n acc s;rw[Qo,Qo];exact Le.ite (Le.bind (Le.refl _) fun m s'=>ih _ _ _) (Le.refl _)
theorem R8 (fin:Nat):∀f acc lens s,Le (Xj fin f acc lens s) (Xj fin (f+1) acc lens s):=by
 intro f
 induction f with
 |zero=>intro acc lens s;exact Le.none _
 |succ f ih=>
  intro acc lens s;rw[Xj,Xj];exact Le.bind (Rm fin f 0 acc s) fun r s=>Le.ite (Le.refl _) (Le.bind (Le.refl _) fun _ _=>ih _ _ _)
theorem N8 (fin f:Nat)(s:St):Le (Xi fin f s) (Xi fin (f+1) s):=by
 unfold Xi;exact Le.bind (Le.refl _) fun _ s=>Le.ite (Le.refl _) (Le.bind (R8 _ _ _ _ _) fun _ _=>Le.refl _)
theorem Pn (fin:Nat):∀f acc s,Le (Q9 fin f acc s) (Q9 fin (f+1) acc s):=by
 intro f
 induction f with
 |zero=>intro acc s;exact Le.none _
 |succ f ih=>
  intro acc s;rw[Q9,Q9];exact Le.ite (Le.bind (Le.refl _) fun _ _=>ih _ _) (Le.refl _)
theorem R0 (fin:Nat):∀f acc s,Le (Xq fin f acc s) (Xq fin (f+1) acc s):=by
 intro f
 induction f with
 |zero=>intro acc s;exact Le.none _
 |succ f ih=>
  intro acc s;rw[Xq,Xq];exact Le.bind (Le.refl _) fun n s=>Le.bind (Pn _ _ _ _) fun x s=>Le.ite (Le.refl _) (Le.bind (Le.refl _) fun _ _=>ih _ _)
theorem Re (fin f:Nat)(s:St):Le (Q5 fin f s) (Q5 fin (f+1) s):=by
 unfold Q5;exact Le.bind (Le.refl _) fun _ s=>Le.ite (Le.refl _) (R0 _ _ _ _)
theorem Ty:∀f n s,Le (Xg f n s) (Xg (f+1) n s):=by
 intro f
 induction f with
 |zero=>intro n s;exact Le.none _
 |succ f ih=>intro n s;rw[Xg,Xg];exact Le.ite (ih _ _) (Le.refl _)
theorem Gc:∀f k s,Le (X9 f k s) (X9 (f+1) k s):=by
 intro f
 induction f with
 |zero=>intro n s;exact Le.none _
 |succ f ih=>intro n s;rw[X9,X9];exact Le.ite (ih _ _) (Le.refl _)
structure AllMono (fin f:Nat):Prop where
 e:∀s,Le (expr fin f s) (expr fin (f+1) s)
 el:∀k s,Le (Qf fin f k s) (Qf fin (f+1) k s)
 t:∀s,Le (term fin f s) (term fin (f+1) s)
 tl:∀k s,Le (Qi fin f k s) (Qi fin (f+1) k s)
 fa:∀s,Le (Xr fin f s) (Xr fin (f+1) s)
 po:∀s,Le (post fin f s) (post fin (f+1) s)
 at_:∀s,Le (atom fin f s) (atom fin (f+1) s)
 pa:∀s,Le (X7 fin f s) (X7 fin (f+1) s)
 pl:∀k s,Le (Qs fin f k s) (Qs fin (f+1) k s)
theorem Xo (fin:Nat):∀f,AllMono fin f:=by
 intro f
 induction f with
 |zero=>constructor<;>intros<;>(first|rw[expr]|rw[Qf]|rw[term]|rw[Qi]|rw[Xr]|rw[post]|rw[atom]|rw[X7]|rw[Qs])<;>exact Le.none _
 |succ f ih=>
  constructor
  ·intro s;rw[expr,expr];exact Le.bind (ih.t _) fun _ _=>ih.el _ _
  ·intro k s;rw[Qf,Qf]
   exact Le.ite (Le.bind (ih.t _) fun _ _=>ih.el _ _) (Le.ite (Le.bind (ih.t _) fun _ _=>ih.el _ _) (Le.refl _))
  ·intro s;rw[term,term];exact Le.bind (ih.fa _) fun _ _=>ih.tl _ _
  ·intro k s;rw[Qi,Qi];exact Le.ite (Le.bind (ih.fa _) fun _ _=>ih.tl _ _) (Le.refl _)
  ·intro s;rw[Xr,Xr]
   exact Le.bind (Ty _ _ _) fun _ _=>Le.bind (ih.po _) fun _ _=>Le.refl _
  ·intro s;rw[post,post];exact Le.bind (ih.at_ _) fun _ _=>Gc _ _ _
  ·intro s;rw[atom,atom]
   refine Le.ite (Le.refl _) (Le.ite ?_ (Le.ite (Le.refl _) (Le.ite ?_ (Le.ite ?_ (Le.ite ?_ (Le.refl _))))))
   ·exact Le.bind (Le.refl _) fun _ _=>Le.bind (Le.refl _) fun _ _=>Le.bind (ih.pa _) fun _ _=>Le.refl _
   ·exact Le.bind (Le.refl _) fun _ _=>Le.bind (ih.e _) fun _ _=>Le.refl _
   ·exact Le.bind (N8 _ _ _) fun _ _=>Le.refl _
   ·exact Le.bind (Re _ _ _) fun _ _=>Le.refl _
  ·intro s;rw[X7,X7];exact Le.bind (ih.e _) fun _ _=>ih.pl _ _
  ·intro k s;rw[Qs,Qs];exact Le.ite (Le.bind (ih.e _) fun _ _=>ih.pl _ _) (Le.refl _)
theorem Qvl (fin f:Nat)(s:St):Le (line fin f s) (line fin (f+1) s):=by
 unfold line;refine Le.itep (Le.refl _) (Le.ite ?_ ?_)
 ·exact Le.bind (Le.refl _) fun _ _=>Le.bind (Le.refl _) fun _ _=>Le.bind ((Xo fin f).e _) fun _ _=>Le.refl _
 ·exact Le.bind (Le.refl _) fun _ _=>Le.itep (Le.refl _) (Le.bind ((Xo fin f).pa _) fun _ _=>Le.refl _)
def Stab {α:Type}(g:Nat->PR α):Prop:=∀f,Le (g f) (g (f+1))
def Ev {α:Type}(g:Nat->PR α)(r:Except (Nat×Nat) (α×St)):Prop:=∃f,g f=some r
theorem Stab.le {α:Type}{g:Nat->PR α}(h:Stab g){f f':Nat}(hf:f<=f'){r:Except (Nat×Nat) (α×St)}(hr:g f=some r):g f'=some r:=by
 induction hf with
 |refl=>exact hr
 |step _ ih=>exact(h _).some ih
theorem Ev.one {α:Type}{g:Nat->PR α}(h:Stab g){r r':Except (Nat×Nat) (α×St)}(h1:Ev g r)(h2:Ev g r'):r=r':=by
 obtain⟨f1,h1⟩:=h1;obtain⟨f2,h2⟩:=h2;have a:=h.le (Nat.le_max_left f1 f2) h1;rw[h.le (Nat.le_max_right f1 f2) h2]at a;exact(Option.some.inj a).symm
end SynP
namespace SynP
open LexP
def Good {α:Type}(n:Nat):PR α->Prop
 |none=>False
 |some (.error e)=>0<e.2
 |some (.ok (_,s))=>s.ts.length<=n
theorem Good.bind {α β:Type}{x:PR α}{f:α->St->PR β}{n m:Nat}(h:Good n x)(hf:∀a s,s.ts.length<=n->Good m (f a s)):Good m (x.bind f):=by
 rcases x with _|(e|⟨a,s⟩)
 ·exact h
 ·exact h
 ·exact hf a s h
theorem Good.mono {α:Type}{x:PR α}{n m:Nat}(h:Good n x)(hm:n<=m):Good m x:=by
 rcases x with _|(e|⟨a,s⟩)
 ·exact h
 ·exact h
 ·exact Nat.le_trans h hm
theorem Good.ite {α:Type}{c:Bool}{a b:PR α}{n:Nat}(h1:c=true->Good n a)(h2:c=false->Good n b):Good n (if c then a else b):=by
 cases c
 ·exact h2 rfl
 ·exact h1 rfl
theorem Good.itep {α:Type}{c:Prop}[Decidable c]{a b:PR α}{n:Nat}(h1:c->Good n a)(h2: ¬c->Good n b):Good n (if c then a else b):=by
 by_cases h:c
 ·rw[if_pos h];exact h1 h
 ·rw[if_neg h];exact h2 h
theorem Yi {α:Type}(fin n:Nat)(s:St):Good n (unfit fin s:PR α):=(by decide:0<14)
theorem Tv {α:Type}(c:Nat){e:Nat}(he:0<e)(n:Nat):Good n (fault c e:PR α):=he
theorem Q6 {α:Type}(a:α){n:Nat}{s:St}(h:s.ts.length<=n):Good n (ret a s):=h
theorem Y9 {s:St}{n:Nat}(h:s.ts.length<=n):s.adv.ts.length<=n-1:=by
 show s.ts.tail.length<=_;rw[List.length_tail];omega
theorem Rz {x:Qx}{ts:List Tok}(h:Qk x ts=true):0<ts.length:=by
 cases ts with
 |nil=>cases h
 |cons=>simp
theorem Qz9 {k:Nat}{ts:List Tok}(h:Qb k ts=true):0<ts.length:=by
 cases ts with
 |nil=>cases h
 |cons=>simp
theorem Jc (fin:Nat)(x:Qx){s:St}{n:Nat}(h:s.ts.length<=n):Good (n-1) (want fin x s):=by
 unfold want;exact Good.ite (fun _=>Q6 _ (Y9 h)) (fun _=>Yi _ _ _)
theorem Zo (fin:Nat){s:St}{n:Nat}(h:s.ts.length<=n):Good (n-1) (Qd fin s):=by
 unfold Qd;exact Good.ite (fun _=>Q6 _ (Y9 h)) (fun _=>Yi _ _ _)
theorem Se (fin:Nat){s:St}{n:Nat}(h:s.ts.length<=n):Good (n-1) (name fin s):=by
 unfold name;exact Good.ite (fun _=>Q6 _ (Y9 h)) (fun _=>Yi _ _ _)
theorem Gt (fin:Nat):∀f n k acc s,s.ts.length<=n->n+2<=f->Good n (Qo fin f k acc s):=by
 intro f
 induction f with
 |zero=>intro n k acc s h J;omega
 |succ f ih=>
  intro n k acc s h J;rw[Qo];refine Good.ite (fun _=> ?_) (fun _=>Q6 _ h)
  have H:(if Qk [45] s.ts then s.adv else s).ts.length<=n:=by
   split
   ·exact Nat.le_trans (Y9 h) (Nat.sub_le _ _)
   ·exact h
  by_cases hn:n=0
  ·subst hn
   have E:(if Qk [45] s.ts then s.adv else s).ts=[]:=List.eq_nil_of_length_eq_zero (by omega)
   have I:Qd fin (if Qk [45] s.ts then s.adv else s)=unfit fin (if Qk [45] s.ts then s.adv else s):=by unfold Qd;rw[E];rfl
   rw[I];exact(by decide:0<14)
  ·exact(Zo fin H).bind fun m s' E=>(ih (n-1) _ _ _ E (by omega)).mono (by omega)
theorem Dz (fin:Nat):∀f n acc lens s,s.ts.length<=n->n+3<=f->Good n (Xj fin f acc lens s):=by
 intro f
 induction f with
 |zero=>intro n acc lens s h I;omega
 |succ f ih=>
  intro n acc lens s h I;rw[Xj];refine(Gt fin f n 0 acc s h (by omega)).bind fun r s h=>Good.ite (fun _=>Q6 _ (Nat.le_trans (Y9 h) (Nat.sub_le _ _))) (fun _=> ?_);by_cases hn:n=0
  ·subst hn
   have E:s.ts=[]:=List.eq_nil_of_length_eq_zero (by omega)
   have H:want fin [59] s=unfit fin s:=by unfold want;rw[E];rfl
   rw[H];exact(by decide:0<14)
  ·exact(Jc fin _ h).bind fun _ s h=>(ih (n-1) _ _ _ h (by omega)).mono (by omega)
theorem Gi (fin col:Nat){s:St}{n:Nat}(h:s.ts.length<=n):Good n (Yr fin col s):=by
 unfold Yr;refine(Zo fin h).bind fun _ s h=>(Jc fin _ h).bind fun _ s h=>(Zo fin h).bind fun _ s h=>(Jc fin _ h).bind fun _ s h=> ?_;exact Good.ite (fun _=>Tv _ (by decide) _) (fun _=>Q6 _ (by omega))
theorem Dj (col:Nat)(a:List (Bool×Nat)×List Nat){s:St}{n:Nat}(h:s.ts.length<=n):Good n (Ys col a s):=by
 unfold Ys;exact Good.ite (fun _=>Tv _ (by decide) _) (fun _=>Good.ite (fun _=>Tv _ (by decide) _) (fun _=>Q6 _ h))
theorem Ux (fin f:Nat){s:St}{n:Nat}(h:s.ts.length<=n)(hf:n+3<=f):Good (n-1) (Xi fin f s):=by
 unfold Xi;refine(Jc fin _ h).bind fun _ s h=>Good.ite (fun _=>Gi _ _ h) (fun _=> ?_);exact(Dz fin f _ _ _ _ h (by omega)).bind fun _ _ h=>Dj _ _ h
theorem Dk (fin:Nat):∀f n acc s,s.ts.length<=n->n+1<=f->Good n (Q9 fin f acc s):=by
 intro f
 induction f with
 |zero=>intro n acc s h E;omega
 |succ f ih=>
  intro n acc s h E;rw[Q9];refine Good.ite (fun hk=> ?_) (fun _=>Q6 _ h);have:=Qz9 hk;exact(Zo fin h).bind fun _ s h=>(ih (n-1) _ _ h (by omega)).mono (by omega)
theorem Dx (fin:Nat):∀f n acc s,s.ts.length<=n->n+2<=f->Good n (Xq fin f acc s):=by
 intro f
 induction f with
 |zero=>intro n acc s h I;omega
 |succ f ih=>
  intro n acc s h I;rw[Xq];refine(Zo fin h).bind fun _ s h=>(Dk fin f (n-1) _ _ h (by omega)).bind fun _ s h=>Good.ite (fun _=>Q6 _ (Nat.le_trans (Y9 h) (by omega))) (fun _=> ?_);by_cases hn:n-1=0
  ·have E:s.ts=[]:=List.eq_nil_of_length_eq_zero (by omega)
   have H:want fin [44] s=unfit fin s:=by unfold want;rw[E];rfl
   rw[H];exact(by decide:0<14)
  ·exact(Jc fin _ h).bind fun _ s h=>(ih (n-1-1) _ _ h (by omega)).mono (by omega)
theorem Tj (fin f:Nat){s:St}{n:Nat}(h:s.ts.length<=n)(hf:n+2<=f):Good (n-1) (Q5 fin f s):=by
 unfold Q5;refine(Jc fin _ h).bind fun _ s h=>Good.ite (fun _=>Q6 _ (Nat.le_trans (Y9 h) (by omega))) (fun _=> ?_);exact Dx fin f _ _ _ h (by omega)
theorem Dv:∀f n k s,s.ts.length<=n->n+1<=f->Good n (Xg f k s):=by
 intro f
 induction f with
 |zero=>intro n k s h E;omega
 |succ f ih=>
  intro n k s h E;rw[Xg];refine Good.ite (fun hk=> ?_) (fun _=>Q6 _ h);have:=Rz hk;exact(ih (n-1) _ _ (Y9 h) (by omega)).mono (by omega)
theorem Qxv:∀f n k s,s.ts.length<=n->n+1<=f->Good n (X9 f k s):=by
 intro f
 induction f with
 |zero=>intro n k s h E;omega
 |succ f ih=>
  intro n k s h E;rw[X9];refine Good.ite (fun hk=> ?_) (fun _=>Q6 _ h);have:=Rz hk;exact(ih (n-1) _ _ (Y9 h) (by omega)).mono (by omega)
theorem Hw (fin:Nat){s:St}{n:Nat}(h:s.ts.length<=n):Good (n-1) (Zu fin s):=by
 unfold Zu;exact Good.itep (fun _=>Tv _ (by decide) _) (fun _=>Q6 _ (Y9 h))
theorem N6 (fin:Nat){s:St}{n:Nat}(h:s.ts.length<=n):Good (n-1) (X6 fin s):=by
 unfold X6;exact(Jc fin _ h).bind fun _ s h=>Q6 _ h
structure AllGood (fin n:Nat):Prop where
 at_:∀f s,s.ts.length<=n->10*n+4<=f->Good (n-1) (atom fin f s)
 po:∀f s,s.ts.length<=n->10*n+5<=f->Good (n-1) (post fin f s)
 fa:∀f s,s.ts.length<=n->10*n+6<=f->Good (n-1) (Xr fin f s)
 tl:∀f k s,s.ts.length<=n->10*n+4<=f->Good n (Qi fin f k s)
 t:∀f s,s.ts.length<=n->10*n+7<=f->Good (n-1) (term fin f s)
 el:∀f k s,s.ts.length<=n->10*n+4<=f->Good n (Qf fin f k s)
 e:∀f s,s.ts.length<=n->10*n+8<=f->Good (n-1) (expr fin f s)
 pl:∀f k s,s.ts.length<=n->10*n+4<=f->Good n (Qs fin f k s)
 pa:∀f s,s.ts.length<=n->10*n+9<=f->Good (n-1) (X7 fin f s)
theorem Z4 {f n k:Nat}(h:10*n+k<=f)(hk:0<k):∃g,f=g+1/\10*n+k<=g+1:=⟨f-1,by omega,by omega⟩
theorem Ce (fin:Nat):∀n,AllGood fin n:=by
 intro n
 induction n using Nat.strongRecOn with
 |ind n ih=>
  have H:∀f s,s.ts.length<=n->10*n+4<=f->Good (n-1) (atom fin f s):=by
   intro f s h E;obtain⟨f,rfl,E⟩:=Z4 E (by omega);rw[atom];refine Good.ite (fun _=>(Zo fin h).bind fun _ s h=>Q6 _ h) fun _=>Good.ite (fun hk=> ?_) fun _=>Good.ite (fun _=>(Se fin h).bind fun _ s h=>Q6 _ h) fun _=>Good.ite (fun hk=> ?_) fun _=>Good.ite (fun _=> ?_) fun _=>Good.ite (fun _=> ?_) fun _=>Yi _ _ _
   ·have:=Qz9 (Bool.and_eq_true_iff.1 hk).1
    refine(Se fin h).bind fun _ s h=>(Hw fin h).bind fun _ s h=>((ih (n-1) (by omega)).pa f s (by omega) (by omega)).bind fun _ s h=>(N6 fin h).bind fun _ s h=>Q6 _ (by omega)
   ·have:=Rz hk
    refine(Hw fin h).bind fun _ s h=>((ih (n-1) (by omega)).e f s h (by omega)).bind fun _ s h=>(N6 fin h).bind fun _ s h=>Q6 _ (by omega)
   ·exact(Ux fin f h (by omega)).bind fun _ s h=>Q6 _ h
   ·exact(Tj fin f h (by omega)).bind fun _ s h=>Q6 _ h
  have po:∀f s,s.ts.length<=n->10*n+5<=f->Good (n-1) (post fin f s):=by
   intro f s h E;obtain⟨f,rfl,E⟩:=Z4 E (by omega);rw[post];exact(H f s h (by omega)).bind fun _ s h=>Qxv f _ _ _ h (by omega)
  have fa:∀f s,s.ts.length<=n->10*n+6<=f->Good (n-1) (Xr fin f s):=by
   intro f s h E;obtain⟨f,rfl,E⟩:=Z4 E (by omega);rw[Xr];exact(Dv f _ _ _ h (by omega)).bind fun _ s h=>(po f s h (by omega)).bind fun _ s h=>Good.ite (fun _=>(Zo fin (Y9 h)).bind fun _ s h=>Q6 _ (by omega)) (fun _=>Q6 _ h)
  have tl:∀f k s,s.ts.length<=n->10*n+4<=f->Good n (Qi fin f k s):=by
   intro f k s h E;obtain⟨f,rfl,E⟩:=Z4 E (by omega);rw[Qi];refine Good.ite (fun hk=> ?_) (fun _=>Q6 _ h);have:=Rz hk;exact((ih (n-1) (by omega)).fa f s.adv (Y9 h) (by omega)).bind fun _ s h=>((ih (n-1) (by omega)).tl f _ s (by omega) (by omega)).mono (by omega)
  have t:∀f s,s.ts.length<=n->10*n+7<=f->Good (n-1) (term fin f s):=by
   intro f s h E;obtain⟨f,rfl,E⟩:=Z4 E (by omega);rw[term];refine(fa f s h (by omega)).bind fun _ s h=> ?_;by_cases hn:n=0
   ·subst hn;exact tl f _ s h (by omega)
   ·exact(ih (n-1) (by omega)).tl f _ s h (by omega)
  have el:∀f k s,s.ts.length<=n->10*n+4<=f->Good n (Qf fin f k s):=by
   intro f k s h E;obtain⟨f,rfl,E⟩:=Z4 E (by omega);rw[Qf];refine Good.ite (fun hk=> ?_) (fun _=>Good.ite (fun hk=> ?_) (fun _=>Q6 _ h))
   all_goals
    have:=Rz hk;exact((ih (n-1) (by omega)).t f s.adv (Y9 h) (by omega)).bind fun _ s h=>((ih (n-1) (by omega)).el f _ s (by omega) (by omega)).mono (by omega)
  have e:∀f s,s.ts.length<=n->10*n+8<=f->Good (n-1) (expr fin f s):=by
   intro f s h E;obtain⟨f,rfl,E⟩:=Z4 E (by omega);rw[expr];refine(t f s h (by omega)).bind fun _ s h=> ?_;by_cases hn:n=0
   ·subst hn;exact el f _ s h (by omega)
   ·exact(ih (n-1) (by omega)).el f _ s h (by omega)
  have pl:∀f k s,s.ts.length<=n->10*n+4<=f->Good n (Qs fin f k s):=by
   intro f k s h E;obtain⟨f,rfl,E⟩:=Z4 E (by omega);rw[Qs];refine Good.ite (fun hk=> ?_) (fun _=>Q6 _ h);have:=Rz hk;exact((ih (n-1) (by omega)).e f s.adv (Y9 h) (by omega)).bind fun _ s h=>((ih (n-1) (by omega)).pl f _ s (by omega) (by omega)).mono (by omega)
  have pa:∀f s,s.ts.length<=n->10*n+9<=f->Good (n-1) (X7 fin f s):=by
   intro f s h E;obtain⟨f,rfl,E⟩:=Z4 E (by omega);rw[X7];refine(e f s h (by omega)).bind fun _ s h=> ?_;by_cases hn:n=0
   ·subst hn;exact pl f _ s h (by omega)
   ·exact(ih (n-1) (by omega)).pl f _ s h (by omega)
  exact⟨H,po,fa,tl,t,el,e,pl,pa⟩
theorem Nx (fin:Nat)(s:St):Good s.ts.length (line fin (10*s.ts.length+9) s):=by
 unfold line;refine Good.itep (fun _=>Q6 _ (Nat.le_refl _)) (fun _=>Good.ite (fun _=> ?_) (fun _=> ?_))
 ·refine(Se fin (Y9 (Nat.le_refl _))).bind fun _ s1 h=>(Jc fin _ h).bind fun _ s1 h=>((Ce fin s.ts.length).e _ s1 (by omega) (by omega)).bind fun _ s1 h=> ?_
  unfold done;exact Good.itep (fun _=>Q6 _ (by omega)) (fun _=>Yi _ _ _)
 ·refine(Se fin (Nat.le_refl _)).bind fun _ s1 h=>Good.itep (fun _=> ?_) (fun _=>((Ce fin s.ts.length).pa _ s1 (by omega) (by omega)).bind fun _ s1 h=> ?_)
  ·unfold done;exact Good.itep (fun _=>Q6 _ (by omega)) (fun _=>Yi _ _ _)
  ·unfold done;exact Good.itep (fun _=>Q6 _ (by omega)) (fun _=>Yi _ _ _)
end SynP
namespace SynP
open LexP
abbrev KT:=Nat×Qx
def kt (ts:List Tok):List KT:=ts.map fun t=>(t.1,t.2.1)
def Is (ts:List Tok)(l:List KT)(r:List Tok):Prop:=∃a,ts=a++r/\kt a=l
theorem Is.nil {ts r:List Tok}(h:Is ts [] r):ts=r:=by
 obtain⟨a,rfl,h⟩:=h
 cases a with
 |nil=>rfl
 |cons x a=>simp[kt]at h
theorem Is.cons {ts r:List Tok}{x:KT}{l:List KT}(h:Is ts (x::l) r):∃c ts',ts=(x.1,x.2,c)::ts'/\Is ts' l r:=by
 obtain⟨a,rfl,h⟩:=h
 cases a with
 |nil=>simp[kt]at h
 |cons y a=>
  simp only[kt,List.map_cons,List.cons.injEq]at h;refine⟨y.2.2,a++r,?_,a,rfl,h.2⟩;rw[<-h.1];rfl
theorem Is.app {ts r:List Tok}{l1 l2:List KT}(h:Is ts (l1++l2) r):∃m,Is ts l1 m/\Is m l2 r:=by
 obtain⟨a,rfl,h⟩:=h;unfold kt at h;obtain⟨b,c,rfl,E,H⟩:=List.map_eq_append_iff.1 h;exact⟨c++r,⟨b,by rw[List.append_assoc],E⟩,c,rfl,H⟩
theorem Is.all (ts:List Tok):Is ts (kt ts) []:=⟨ts,by simp,rfl⟩
theorem Ev.const {α:Type}{x:PR α}{r:Except (Nat×Nat) (α×St)}(h:x=some r):Ev (fun _=>x) r:=⟨0,h⟩
theorem Ev.succ {α:Type}{g:Nat->PR α}{r:Except (Nat×Nat) (α×St)}(h:Ev (fun f=>g (f+1)) r):Ev g r:=by
 obtain⟨f,h⟩:=h;exact⟨f+1,h⟩
theorem Ev.bind {α β:Type}{g:Nat->PR α}{h:Nat->α->St->PR β}{a:α}{s:St}{r:Except (Nat×Nat) (β×St)}(sg:Stab g)(sh:∀a s,Stab fun f=>h f a s)
  (h1:Ev g (.ok (a,s))) (h2:Ev (fun f=>h f a s) r):Ev (fun f=>(g f).bind (h f)) r:=by
 obtain⟨f1,h1⟩:=h1;obtain⟨f2,h2⟩:=h2;refine⟨max f1 f2,?_⟩;simp only;rw[sg.le (Nat.le_max_left f1 f2) h1];exact(sh a s).le (Nat.le_max_right f1 f2) h2
theorem Stab.const {α:Type}(x:PR α):Stab fun _=>x:=fun _=>Le.refl _
theorem Wt {α β:Type}(a:α)(s:St)(f:α->St->PR β):(ret a s).bind f=f a s:=rfl
theorem Qz3 {d:Nat}(h:d<10):NumP.Xz (UInt8.ofNat (48+d))=true/\(UInt8.ofNat (48+d)).toNat-48=d:=by
 have e:(UInt8.ofNat (48+d)).toNat=48+d:=by rw[UInt8.toNat_ofNat'];omega
 unfold NumP.Xz;rw[e];refine⟨?_,by omega⟩;simp only[Bool.and_eq_true,decide_eq_true_eq];omega
theorem Uc (n:Nat):∀c∈decT n,NumP.Xz c=true:=by
 intro c h;unfold decT at h;split at h
 ·simp only[List.mem_singleton]at h;subst h;rfl
 ·simp only[List.mem_map]at h
  obtain⟨d,E,rfl⟩:=h;exact(Qz3 (NatP.Qwp _ _ E)).1
theorem Qz1 (n:Nat):decT n≠[]:=by
 unfold decT;split
 ·simp
 ·rename_i h
  rw[NatP.Sy (by omega)];simp
theorem Rr (n:Nat):U1 (decT n)=n:=by
 unfold U1;rw[List.filter_eq_self.2 (Uc n)];unfold decT;split
 ·rename_i h;subst h;rfl
 ·have:digs ((NatP.dg n).map fun d=>UInt8.ofNat (48+d))=NatP.dg n:=by
   unfold digs;rw[List.map_map]
   conv=>rhs;rw[<-List.map_id (NatP.dg n)]
   refine List.map_congr_left fun d hd=> ?_;exact(Qz3 (NatP.Qwp _ _ hd)).2
  rw[this,NatP.Qps]
abbrev mk (x:UInt8):KT:=(3,[x])
def numK (n:Nat):KT:=(1,decT n)
def intK (x:Bool×Nat):List KT:=(if x.1 then [mk 45] else [])++[numK x.2]
def Za (sep:List KT):List (List KT)->List KT
 | []=>[]
 | [a]=>a
 |a::l=>a++sep++Za sep l
def matK (m:MatV):List KT:=
 if m.at_=[] then [mk 91,numK m.rows,mk 58,numK m.cols,mk 93]
 else mk 91::(Za [mk 59] ((Xb m.cols m.rows m.at_).map fun l=>l.flatMap intK)++[mk 93])
def cpxK (l:List (List Nat)):List KT:=mk 123::(Za [mk 44] (l.map fun s=>s.map numK)++[mk 125])
def parK (b:Bool)(t:List KT):List KT:=if b then mk 40::(t++[mk 41]) else t
mutual
def Ex.tk:Ex->List KT
 | .num n=>[numK n]
 | .name x=>[(2,x)]
 | .mat m=>matK m
 | .cpx l=>cpxK l
 | .neg a=>mk 45::parK (Qp 4 0 a.op) a.tk
 | .turn a=>parK (Qp 5 0 a.op) a.tk++[mk 39]
 | .add a b=>parK (Qp 6 0 a.op) a.tk++mk 43::parK (Qp 6 1 b.op) b.tk
 | .sub a b=>parK (Qp 7 0 a.op) a.tk++mk 45::parK (Qp 7 1 b.op) b.tk
 | .mul a b=>parK (Qp 8 0 a.op) a.tk++mk 42::parK (Qp 8 1 b.op) b.tk
 | .pow a n=>parK (Qp 9 0 a.op) a.tk++[mk 94,numK n]
 | .call x l=>(2,x)::mk 40::(l.tk++[mk 41])
def Exs.tk:Exs->List KT
 | .nil=>[]
 | .cons a l=>a.tk++l.tkTail
def Exs.tkTail:Exs->List KT
 | .nil=>[]
 | .cons a l=>mk 44::(a.tk++l.tkTail)
end
def Ln.tk:Ln->List KT
 | .nothing=>[]
 | .lets x e=>(2,letB)::(2,x)::mk 61::e.tk
 | .cmd x l=>(2,x)::l.tk
def Nl (m:MatV):Prop:=m.rows<=64/\m.cols<=64/\m.at_.length=m.rows*m.cols/\ ∀x∈m.at_,x.1=true->0<x.2
def T6 (l:List (List Nat)):Prop:=∀s∈l,s≠[]
def Y7 (x:Qx):Prop:=∃c,Toks 1 (Qz x)=.ok [(2,x,c)]
mutual
def Ex.wf:Ex->Prop
 | .num _=>True
 | .name x=>Y7 x
 | .mat m=>Nl m
 | .cpx l=>T6 l
 | .neg a=>a.wf| .turn a=>a.wf
 | .add a b=>a.wf/\b.wf| .sub a b=>a.wf/\b.wf| .mul a b=>a.wf/\b.wf
 | .pow a _=>a.wf
 | .call x l=>Y7 x/\l≠ .nil/\l.wf
def Exs.wf:Exs->Prop
 | .nil=>True
 | .cons a l=>a.wf/\l.wf
end
def Ln.wf:Ln->Prop
 | .nothing=>True
 | .lets x e=>Y7 x/\e.wf
 | .cmd x l=>Y7 x/\x≠letB/\l.wf
theorem Bc {k:Nat}(hk:k≠3)(x y:Qx)(c:Nat)(ts:List Tok):Qk x ((k,y,c)::ts)=false:=by simp[Qk,hk]
theorem Wm (fin:Nat){n o:Nat}{ts r:List Tok}(h:Is ts [numK n] r):Qd fin ⟨ts,o⟩=ret n ⟨r,o⟩:=by
 obtain⟨c,ts',rfl,E⟩:=h.cons;have e:=Is.nil E;subst e;unfold Qd;rw[if_pos (by rfl)];show ret (U1 (decT n)) _=_;rw[Rr];rfl
end SynP
namespace SynP
open LexP
theorem Qxg {ts r:List Tok}{l:List KT}{x:Qx}(h:Is ts l r)(hl:l≠[])(hm:Qk x ts=true):(3,x)∈l:=by
 cases l with
 |nil=>exact absurd rfl hl
 |cons k l=>
  obtain⟨c,ts',rfl,h'⟩:=h.cons;obtain⟨a,b⟩:=k;simp only[Qk,Bool.and_eq_true,beq_iff_eq]at hm;rw[<-hm.1,<-hm.2];exact List.mem_cons_self
theorem Is.tail {ts r:List Tok}{k:KT}{l:List KT}(h:Is ts (k::l) r):Is ts.tail l r:=by
 obtain⟨c,ts',rfl,h'⟩:=h.cons;exact h'
theorem Qvh {α:Type}(x:Bool×Nat)(l:List (Bool×Nat)):(x::l).flatMap intK=intK x++l.flatMap intK:=rfl
theorem Na (fin:Nat):∀(l:List (Bool×Nat)) (n:Nat) (acc:List (Bool×Nat)) (ts r:List Tok) (o:Nat),(∀x∈l,x.1=true->0<x.2)->Is ts (l.flatMap intK) r->Qk [45] r=false->Qb 1 r=false->(n=0->l≠[])->
  Ev (fun f=>Qo fin f n acc ⟨ts,o⟩) (.ok ((n+l.length,acc++l),⟨r,o⟩)):=by
 intro l
 induction l with
 |nil=>
  intro n acc ts r o _ h K O hn;have a1:=Is.nil h;subst a1;refine⟨1,?_⟩;show Qo fin 1 n acc ⟨ts,o⟩=_;rw[Qo]
  have H:(decide (n=0)||Qk [45] ts||Qb 1 ts)=false:=by
   rw[K,O];have:n≠0:=fun e=>hn e rfl;simp[this]
  simp only[H]
  simp[ret]
 |cons x l ih=>
  intro n acc ts r o hx h K O hn;obtain⟨E,v⟩:=x;rw[Qvh (α:=Unit)]at h;obtain⟨m,Z,hb⟩:=h.app
  have J:∀ts',(decide (n=0)||Qk [45] ts||Qb 1 ts)=true->(if Qk [45] ts then (⟨ts,o⟩:St).adv else ⟨ts,o⟩)=⟨ts',o⟩->Is ts' [numK v] m->(Qk [45] ts && decide (0<v))=E->
    Ev (fun f=>Qo fin f n acc ⟨ts,o⟩) (.ok ((n+(l.length+1),acc++(E,v)::l),⟨r,o⟩)):=by
   intro ts' c1 c2 c3 c4;have U:=ih (n+1) (acc++[(E,v)]) m r o (fun y hy=>hx y (List.mem_cons_of_mem _ hy)) hb K O (by omega);obtain⟨f,T⟩:=U;refine⟨f+1,?_⟩;show Qo fin (f+1) n acc ⟨ts,o⟩=_;rw[Qo];simp only[c1,if_true];rw[c2,Wm fin c3,Wt,c4];simp only at T
   have e1:n+1+l.length=n+(l.length+1):=by omega
   have e2:acc++[(E,v)]++l=acc++(E,v)::l:=by simp
   rw[e1,e2]at T;exact T
  cases E with
  |true=>
   obtain⟨c,ts',rfl,H⟩:=Is.cons (x:=mk 45) (l:=[numK v]) Z;have hp:0<v:=hx (true,v) List.mem_cons_self rfl;refine J ts' ?_ ?_ H ?_
   ·simp[Qk]
   ·simp[Qk,St.adv]
   ·simp[Qk,hp]
  |false=>
   have I:Is ts [numK v] m:=Z;obtain⟨c,ts',rfl,H⟩:=I.cons;refine J _ ?_ ?_ I ?_
   ·simp[numK,Qb]
   ·simp[numK,Qk]
   ·simp[numK,Qk]
theorem Qxz (fin:Nat):∀(rows:List (List (Bool×Nat))) (acc:List (Bool×Nat)) (lens:List Nat) (ts r:List Tok) (o:Nat),rows≠[]->(∀l∈rows,l≠[]/\ ∀x∈l,x.1=true->0<x.2)->
  Is ts (Za [mk 59] (rows.map fun l=>l.flatMap intK)++[mk 93]) r->
  Ev (fun f=>Xj fin f acc lens ⟨ts,o⟩) (.ok ((acc++rows.flatten,lens++rows.map List.length),⟨r,o⟩)):=by
 intro rows
 induction rows with
 |nil=>intro acc lens ts r o h;exact absurd rfl h
 |cons l rows ih=>
  intro acc lens ts r o _ E h;obtain⟨U,Z⟩:=E l List.mem_cons_self
  cases rows with
  |nil=>
   have h':Is ts (l.flatMap intK++[mk 93]) r:=h;obtain⟨m,I,J⟩:=h'.app;obtain⟨c,ts',rfl,H⟩:=J.cons;have:=Is.nil H;subst this;obtain⟨f,K⟩:=Na fin l 0 acc ts _ o Z I (by simp[Qk]) (by simp[Qb]) (fun _=>U);refine⟨f+1,?_⟩;show Xj fin (f+1) acc lens ⟨ts,o⟩=_;simp only at K;rw[Xj,K]
   simp[PR.bind,Qk,ret,St.adv]
  |cons l2 rows=>
   have h':Is ts (l.flatMap intK++(mk 59::(Za [mk 59] ((l2::rows).map fun l=>l.flatMap intK)++[mk 93]))) r:=by
    have e:Za [mk 59] ((l::l2::rows).map fun l=>l.flatMap intK)++[mk 93]=l.flatMap intK++(mk 59::(Za [mk 59] ((l2::rows).map fun l=>l.flatMap intK)++[mk 93])):=by
     simp[Za,List.append_assoc]
    rw[<-e];exact h
   obtain⟨m,I,J⟩:=h'.app;obtain⟨c,ts',rfl,H⟩:=J.cons;obtain⟨f1,O⟩:=Na fin l 0 acc ts _ o Z I (by simp[Qk]) (by simp[Qb]) (fun _=>U);obtain⟨f2,T⟩:=ih (acc++l) (lens++[l.length]) ts' r o (by simp) (fun y hy=>E y (List.mem_cons_of_mem _ hy)) H;refine⟨max f1 f2+1,?_⟩;show Xj fin (max f1 f2+1) acc lens ⟨ts,o⟩=_;have s1:Stab fun f=>Qo fin f 0 acc ⟨ts,o⟩:=fun f=>Rm _ _ _ _ _;have s2:Stab fun f=>Xj fin f (acc++l) (lens++[l.length]) ⟨ts',o⟩:=fun f=>R8 _ _ _ _ _;have g1:=s1.le (Nat.le_max_left f1 f2) O;have g2:=s2.le (Nat.le_max_right f1 f2) T;simp only at g1 g2;rw[Xj,g1];simp only[PR.bind,Nat.zero_add]
   have e1:Qk [93] ((3,[59],c)::ts')=false:=by simp[Qk]
   have e2:want fin [59] ⟨(3,[59],c)::ts',o⟩=some (.ok ((),⟨ts',o⟩)):=by simp[want,Qk,ret,St.adv]
   simp only[e1,e2,PR.bind];rw[if_neg (by simp),g2];simp[List.append_assoc]
theorem Vb {α:Type}(cols:Nat):∀(r:Nat) (l:List α),l.length=r*cols->(Xb cols r l).map List.length=List.replicate r cols/\(Xb cols r l).flatten=l:=by
 intro r
 induction r with
 |zero=>intro l h;rw[Nat.zero_mul]at h;exact⟨rfl,(List.eq_nil_of_length_eq_zero h).symm⟩
 |succ r ih=>
  intro l h;rw[Nat.add_mul,Nat.one_mul]at h;obtain⟨E,H⟩:=ih (l.drop cols) (by rw[List.length_drop];omega);refine⟨?_,?_⟩
  ·simp only[Xb,List.map_cons,List.replicate_succ,E]
   rw[List.length_take,Nat.min_eq_left (by omega)]
  ·simp only[Xb,List.flatten_cons,H,List.take_append_drop]
theorem Tl {α:Type}(cols:Nat):∀(r:Nat) (l:List α),∀y∈Xb cols r l,∀x∈y,x∈l:=by
 intro r
 induction r with
 |zero=>intro l y h;cases h
 |succ r ih=>
  intro l y h x E;simp only[Xb,List.mem_cons]at h;rcases h with rfl|h
  ·exact List.mem_of_mem_take E
  ·exact List.mem_of_mem_drop (ih _ _ h x E)
theorem Qyq {rows:List (List (Bool×Nat))}:∀k∈Za [mk 59] (rows.map fun l=>l.flatMap intK)++[mk 93],k≠mk 58:=by
 have E:∀l:List (Bool×Nat),∀k∈l.flatMap intK,k≠mk 58:=by
  intro l k h;simp only[List.mem_flatMap]at h;obtain⟨x,_,h⟩:=h;unfold intK at h
  split at h<;>simp[numK]at h
  ·rcases h with rfl|rfl<;>simp
  ·subst h;simp
 have H:∀rows:List (List (Bool×Nat)),∀k∈Za [mk 59] (rows.map fun l=>l.flatMap intK),k≠mk 58:=by
  intro rows
  induction rows with
  |nil=>intro k h;cases h
  |cons l rows ih=>
   intro k h
   cases rows with
   |nil=>exact E l k h
   |cons l2 rows=>
    simp only[List.map_cons,Za,List.append_assoc,List.mem_append,List.mem_singleton]at h;rcases h with h|rfl|h
    ·exact E l k h
    ·simp
    ·exact ih k h
 intro k h;rw[List.mem_append]at h;rcases h with h|h
 ·exact H rows k h
 ·simp only[List.mem_singleton]at h;subst h;simp
theorem Fe (fin:Nat){m:MatV}(hm:Nl m){ts r:List Tok}{o:Nat}(h:Is ts (matK m) r):Ev (fun f=>Xi fin f ⟨ts,o⟩) (.ok (m,⟨r,o⟩)):=by
 obtain⟨hr,hc,hl,hx⟩:=hm;unfold matK at h;by_cases h0:m.at_=[]
 ·rw[if_pos h0]at h
  have hz:m.rows*m.cols=0:=by rw[<-hl,h0];rfl
  obtain⟨c1,t1,rfl,k1⟩:=h.cons;obtain⟨c2,t2,rfl,k2⟩:=k1.cons;obtain⟨c3,t3,rfl,k3⟩:=k2.cons;obtain⟨c4,t4,rfl,k4⟩:=k3.cons;obtain⟨c5,t5,rfl,k5⟩:=k4.cons;have:=Is.nil k5;subst this;refine⟨0,?_⟩
  have n1: ¬(64<m.rows):=by omega
  have n2: ¬(64<m.cols):=by omega
  have e:(⟨m.rows,m.cols,List.replicate (m.rows*m.cols) (false,0)⟩:MatV)=m:=by
   rw[hz]
   cases m
   simp only at h0;simp[h0]
  simp only[Xi,want,Qk,numK,St.adv,ret,PR.bind,Qb,Yr,Qd,Xl,Rr,side,n1,n2,List.tail_cons,beq_self_eq_true,Bool.and_self,if_true,if_false,decide_false,Bool.or_self,Bool.false_eq_true];rw[e]
 ·rw[if_neg h0]at h
  have J:0<m.rows*m.cols:=by rw[<-hl];exact List.length_pos_iff.2 h0
  have ab:0<m.rows:=Nat.pos_of_mul_pos_right J;have aa:0<m.cols:=Nat.pos_of_mul_pos_left J;obtain⟨O,h2⟩:=Vb m.cols m.rows m.at_ hl;obtain⟨c1,t1,rfl,h'⟩:=Is.cons (x:=mk 91) h;clear h;have h:=h';clear h'
  have Z:(Za [mk 59] ((Xb m.cols m.rows m.at_).map fun l=>l.flatMap intK)++[mk 93])≠[]:=by simp
  have K:(Qb 1 t1 && Qk [58] t1.tail)=false:=by
   cases I:Qb 1 t1 && Qk [58] t1.tail with
   |false=>rfl
   |true=>
    exfalso;simp only[Bool.and_eq_true]at I;generalize hL:(Za [mk 59] ((Xb m.cols m.rows m.at_).map fun l=>l.flatMap intK)++[mk 93])=L at h Z
    have a5:∀k∈L,k≠mk 58:=by rw[<-hL];exact Qyq
    cases L with
    |nil=>exact Z rfl
    |cons k L=>
     have ht:=h.tail;by_cases hL0:L=[]
     ·subst hL0
      have E:mk 93∈[k]:=by rw[<-hL];simp
      simp only[List.mem_singleton]at E;subst E;obtain⟨c,t,rfl,_⟩:=h.cons;simp[Qb]at I
     ·exact a5 _ (List.mem_cons_of_mem _ (Qxg ht hL0 I.2)) rfl
  have T:∀l∈Xb m.cols m.rows m.at_,l≠[]/\ ∀x∈l,x.1=true->0<x.2:=by
   intro l U;refine⟨fun e=> ?_,fun x H=>hx x (Tl _ _ _ l U x H)⟩;have:l.length∈(Xb m.cols m.rows m.at_).map List.length:=List.mem_map_of_mem U;rw[O,List.mem_replicate]at this;rw[e]at this;simp at this;omega
  have a3:Xb m.cols m.rows m.at_≠[]:=by
   intro e;rw[e]at O;have:=congrArg List.length O;simp at this;omega
  obtain⟨f,hf⟩:=Qxz fin _ [] [] t1 r o a3 T h;refine⟨f,?_⟩;simp only at hf;show Xi fin f ⟨(3,[91],c1)::t1,o⟩=_;unfold Xi
  have e1:want fin [91] ⟨(3,[91],c1)::t1,o⟩=some (.ok ((),⟨t1,o⟩)):=by simp[want,Qk,ret,St.adv]
  rw[e1];simp only[PR.bind,K,Bool.false_eq_true,if_false,hf,List.nil_append,O,h2];unfold Ys
  have a2:(List.replicate m.rows m.cols).headD 0=m.cols:=by
   obtain⟨k,I⟩:∃k,m.rows=k+1:=⟨m.rows-1,by omega⟩;rw[I,List.replicate_succ];rfl
  have a0:(List.replicate m.rows m.cols).any (· !=m.cols)=false:=by
   rw[List.any_eq_false];intro x H;rw[List.mem_replicate]at H;simp[H.2]
  simp only[a2,a0,Bool.false_eq_true,if_false,List.length_replicate]
  have n1: ¬(64<m.rows):=by omega
  have n2: ¬(64<m.cols):=by omega
  simp[n1,n2,ret]
theorem Gp (fin:Nat):∀(s acc:List Nat) (ts r:List Tok) (o:Nat),Is ts (s.map numK) r->Qb 1 r=false->Ev (fun f=>Q9 fin f acc ⟨ts,o⟩) (.ok (acc++s,⟨r,o⟩)):=by
 intro s
 induction s with
 |nil=>
  intro acc ts r o h E;have:=Is.nil h;subst this;refine⟨1,?_⟩;show Q9 fin 1 acc ⟨ts,o⟩=_
  rw[Q9,E];simp[ret]
 |cons n s ih=>
  intro acc ts r o h E;obtain⟨m,H,J⟩:=Is.app (l1:=[numK n]) (l2:=s.map numK) h;obtain⟨f,I⟩:=ih (acc++[n]) m r o J E;refine⟨f+1,?_⟩;show Q9 fin (f+1) acc ⟨ts,o⟩=_
  have K:Qb 1 ts=true:=by obtain⟨c,t,rfl,_⟩:=H.cons;rfl
  simp only at I;rw[Q9,K,Wm fin H,Wt,I];simp
theorem Qq4 (fin:Nat):∀(l acc:List (List Nat)) (ts r:List Tok) (o:Nat),l≠[]->T6 l->Is ts (Za [mk 44] (l.map fun s=>s.map numK)++[mk 125]) r->Ev (fun f=>Xq fin f acc ⟨ts,o⟩) (.ok (acc++l,⟨r,o⟩)):=by
 intro l
 induction l with
 |nil=>intro acc ts r o h;exact absurd rfl h
 |cons s l ih=>
  intro acc ts r o _ H h;have hs:=H s List.mem_cons_self
  obtain⟨n,s,rfl⟩:∃n s',s=n::s':=by cases s with|nil=>exact absurd rfl hs|cons n s=>exact⟨n,s,rfl⟩
  cases l with
  |nil=>
   have h':Is ts ([numK n]++(s.map numK++[mk 125])) r:=h;obtain⟨m1,J,K⟩:=h'.app;obtain⟨m2,E,O⟩:=K.app;obtain⟨c,ts',rfl,I⟩:=O.cons;have:=Is.nil I;subst this;obtain⟨f,T⟩:=Gp fin s [n] m1 _ o E (by simp[Qb]);refine⟨f+1,?_⟩;show Xq fin (f+1) acc ⟨ts,o⟩=_;simp only at T;rw[Xq,Wm fin J,Wt,T]
   simp[PR.bind,Qk,ret,St.adv]
  |cons s2 l=>
   have h':Is ts ([numK n]++(s.map numK++(mk 44::(Za [mk 44] ((s2::l).map fun s=>s.map numK)++[mk 125])))) r:=by
    have e:Za [mk 44] (((n::s)::s2::l).map fun s=>s.map numK)++[mk 125]=[numK n]++(s.map numK++(mk 44::(Za [mk 44] ((s2::l).map fun s=>s.map numK)++[mk 125]))):=by
     simp[Za,List.append_assoc]
    rw[<-e];exact h
   obtain⟨m1,J,K⟩:=h'.app;obtain⟨m2,E,O⟩:=K.app;obtain⟨c,ts',rfl,I⟩:=O.cons;obtain⟨f1,U⟩:=Gp fin s [n] m1 _ o E (by simp[Qb]);obtain⟨f2,Z⟩:=ih (acc++[n::s]) ts' r o (by simp) (fun y hy=>H y (List.mem_cons_of_mem _ hy)) I;have g1:=Stab.le (g:=fun f=>Q9 fin f [n] ⟨m1,o⟩) (fun f=>Pn _ _ _ _) (Nat.le_max_left f1 f2) U;have g2:=Stab.le (g:=fun f=>Xq fin f (acc++[n::s]) ⟨ts',o⟩) (fun f=>R0 _ _ _ _) (Nat.le_max_right f1 f2) Z;simp only at g1 g2;refine⟨max f1 f2+1,?_⟩;show Xq fin (max f1 f2+1) acc ⟨ts,o⟩=_;rw[Xq,Wm fin J,Wt,g1]
   have e1:Qk [125] ((3,[44],c)::ts')=false:=by simp[Qk]
   have e2:want fin [44] ⟨(3,[44],c)::ts',o⟩=some (.ok ((),⟨ts',o⟩)):=by simp[want,Qk,ret,St.adv]
   have e3:([n]++s)=n::s:=rfl;simp only[PR.bind,e1,e2,e3,Bool.false_eq_true,if_false,g2];simp[List.append_assoc]
theorem Kn (fin:Nat){l:List (List Nat)}(hok:T6 l){ts r:List Tok}{o:Nat}(h:Is ts (cpxK l) r):Ev (fun f=>Q5 fin f ⟨ts,o⟩) (.ok (l,⟨r,o⟩)):=by
 unfold cpxK at h;obtain⟨c1,t1,rfl,h'⟩:=Is.cons (x:=mk 123) h;clear h;have h:=h';clear h'
 have e1:want fin [123] ⟨(3,[123],c1)::t1,o⟩=some (.ok ((),⟨t1,o⟩)):=by simp[want,Qk,ret,St.adv]
 cases l with
 |nil=>
  obtain⟨c2,t2,rfl,h'⟩:=Is.cons (x:=mk 125) (l:=[]) h;have:=Is.nil h';subst this;refine⟨0,?_⟩;show Q5 fin 0 ⟨(3,[123],c1)::(3,[125],c2)::t2,o⟩=_;unfold Q5;rw[e1]
  simp[PR.bind,Qk,ret,St.adv]
 |cons s l=>
  obtain⟨f,E⟩:=Qq4 fin (s::l) [] t1 r o (by simp) hok h;refine⟨f,?_⟩;show Q5 fin f ⟨(3,[123],c1)::t1,o⟩=_;unfold Q5;simp only at E;rw[e1];have J:=hok s List.mem_cons_self
  have I:Qk [125] t1=false:=by
   cases s with
   |nil=>exact absurd rfl J
   |cons n s=>
    have:∃L,Za [mk 44] (((n::s)::l).map fun s=>s.map numK)++[mk 125]=numK n::L:=by
     cases l with
     |nil=>exact⟨_,rfl⟩
     |cons s2 l=>exact⟨_,rfl⟩
    obtain⟨L,H⟩:=this;rw[H]at h;obtain⟨c,t,rfl,_⟩:=h.cons;simp[Qk,numK]
  simp only[PR.bind,I,Bool.false_eq_true,if_false,E];simp
end SynP
namespace SynP
open LexP
def nm (x:UInt8)(r:List Tok):Prop:=Qk [x] r=false
structure S2 (r:List Tok):Prop where
 a:nm 40 r
 b:nm 39 r
 c:nm 94 r
structure S3 (r:List Tok):Prop where
 s2:S2 r
 d:nm 42 r
structure S4 (r:List Tok):Prop where
 s3:S3 r
 e:nm 43 r
 f:nm 45 r
theorem Q8 {x y:UInt8}(h:(y==x)=false)(c:Nat)(ts:List Tok):nm x ((3,[y],c)::ts):=by
 unfold nm Qk;simp at h ⊢;exact h
theorem Di {k:Nat}(hk:k≠3)(x:UInt8)(y:Qx)(c:Nat)(ts:List Tok):nm x ((k,y,c)::ts):=by unfold nm;exact Bc hk _ _ _ _
def Kh (o:Nat):Bool:=o==1||o==2||o==3||o==13||o==10
def Ua (o:Nat):Bool:= !(Y3 o||o==4||o==9)
def Px (fin n f:Nat)(s:St):PR Ex:=
 (Xg f n s).bind fun n s=>(post fin f s).bind fun k s=>
  if Qk [94] s.ts then (Qd fin s.adv).bind fun m s=>ret (negs n (.pow k m)) s
  else ret (negs n k) s
structure PE (fin:Nat) (e:Ex):Prop where
 at_:Kh e.op=true-> ∀ts r o,e.wf->Is ts e.tk r->nm 40 r->o+e.dp<=100->Ev (fun f=>atom fin f ⟨ts,o⟩) (.ok (e,⟨r,o⟩))
 po:Ua e.op=true-> ∀ts r o res,e.wf->Is ts e.tk r->nm 40 r->o+e.dp<=100->Ev (fun f=>X9 f e ⟨r,o⟩) res->Ev (fun f=>post fin f ⟨ts,o⟩) res
 nomin:(Ua e.op||e.op==9)=true-> ∀ts r,Is ts e.tk r->nm 45 ts
 fa:Y3 e.op=false-> ∀n ts r o,e.wf->Is ts e.tk r->S2 r->o+e.dp<=100->Ev (fun f=>Px fin n f ⟨ts,o⟩) (.ok (negs n e,⟨r,o⟩))
 te:Vv e.op=false-> ∀ts r o res,e.wf->Is ts e.tk r->S2 r->o+e.dp<=100->Ev (fun f=>Qi fin f e ⟨r,o⟩) res->Ev (fun f=>term fin f ⟨ts,o⟩) res
 ex:∀ts r o res,e.wf->Is ts e.tk r->S3 r->o+e.dp<=100->Ev (fun f=>Qf fin f e ⟨r,o⟩) res->Ev (fun f=>expr fin f ⟨ts,o⟩) res
theorem Tt {k:Ex}{r:List Tok}{o:Nat}(h:nm 39 r):Ev (fun f=>X9 f k ⟨r,o⟩) (.ok (k,⟨r,o⟩)):=
 ⟨1,by show X9 1 k ⟨r,o⟩=_;rw[X9];unfold nm at h;simp only[h];simp[ret]⟩
theorem Jq (fin:Nat){k:Ex}{r:List Tok}{o:Nat}(h:nm 42 r):Ev (fun f=>Qi fin f k ⟨r,o⟩) (.ok (k,⟨r,o⟩)):=
 ⟨1,by show Qi fin 1 k ⟨r,o⟩=_;rw[Qi];unfold nm at h;simp only[h];simp[ret]⟩
theorem Vd (fin:Nat){k:Ex}{r:List Tok}{o:Nat}(h:S4 r):Ev (fun f=>Qf fin f k ⟨r,o⟩) (.ok (k,⟨r,o⟩)):=
 ⟨1,by
  show Qf fin 1 k ⟨r,o⟩=_;have E:=h.e;have H:=h.f;unfold nm at E H
  rw[Qf];simp only[E,H];simp[ret]⟩
theorem Pp {n:Nat}{r:List Tok}{o:Nat}(h:nm 45 r):Ev (fun f=>Xg f n ⟨r,o⟩) (.ok (n,⟨r,o⟩)):=
 ⟨1,by show Xg 1 n ⟨r,o⟩=_;rw[Xg];unfold nm at h;simp only[h];simp[ret]⟩
theorem Wj {fin:Nat}{ts r:List Tok}{o:Nat}{e:Ex}{res:Except (Nat×Nat) (Ex×St)}(h:Ev (fun f=>atom fin f ⟨ts,o⟩) (.ok (e,⟨r,o⟩)))(ht:Ev (fun f=>X9 f e ⟨r,o⟩) res):Ev (fun f=>post fin f ⟨ts,o⟩) res:=by
 refine Ev.succ ?_;have:=Ev.bind (h:=fun f k s=>X9 f k s) (fun f=>(Xo fin f).at_ _) (fun a s f=>Gc _ _ _) h ht;obtain⟨f,E⟩:=this;exact⟨f,by simp only;rw[post];exact E⟩
theorem Tz {fin n:Nat}{ts r:List Tok}{o:Nat}{e:Ex}(hm:nm 45 ts)(h:Ev (fun f=>post fin f ⟨ts,o⟩) (.ok (e,⟨r,o⟩)))(hr:nm 94 r):Ev (fun f=>Px fin n f ⟨ts,o⟩) (.ok (negs n e,⟨r,o⟩)):=by
 refine Ev.bind (h:=fun f n s=>(post fin f s).bind fun k s=>if Qk [94] s.ts then (Qd fin s.adv).bind fun m s=>ret (negs n (.pow k m)) s else ret (negs n k) s)
  (fun f=>Ty _ _ _) (fun a s f=>Le.bind ((Xo fin f).po _) fun _ _=>Le.refl _) (Pp hm) ?_
 refine Ev.bind (h:=fun _ k s=>if Qk [94] s.ts then (Qd fin s.adv).bind fun m s=>ret (negs n (.pow k m)) s else ret (negs n k) s)
  (fun f=>(Xo fin f).po _) (fun a s=>Stab.const _) h ?_
 refine Ev.const ?_;unfold nm at hr;simp only[hr];simp[ret]
theorem J9 {fin:Nat}{ts r:List Tok}{o:Nat}{e:Ex}{res:Except (Nat×Nat) (Ex×St)}(h:Ev (fun f=>Px fin 0 f ⟨ts,o⟩) (.ok (e,⟨r,o⟩)))(ht:Ev (fun f=>Qi fin f e ⟨r,o⟩) res):Ev (fun f=>term fin f ⟨ts,o⟩) res:=by
 have H:Ev (fun f=>Xr fin f ⟨ts,o⟩) (.ok (e,⟨r,o⟩)):=by
  obtain⟨f,E⟩:=h;exact⟨f+1,by simp only;rw[Xr];exact E⟩
 have:=Ev.bind (h:=fun f k s=>Qi fin f k s) (fun f=>(Xo fin f).fa _) (fun a s f=>(Xo fin f).tl _ _) H ht;obtain⟨f,E⟩:=this;exact⟨f+1,by simp only;rw[term];exact E⟩
theorem Tx {fin:Nat}{ts r:List Tok}{o:Nat}{e:Ex}{res:Except (Nat×Nat) (Ex×St)}(h:Ev (fun f=>term fin f ⟨ts,o⟩) (.ok (e,⟨r,o⟩)))(ht:Ev (fun f=>Qf fin f e ⟨r,o⟩) res):Ev (fun f=>expr fin f ⟨ts,o⟩) res:=by
 have:=Ev.bind (h:=fun f k s=>Qf fin f k s) (fun f=>(Xo fin f).t _) (fun a s f=>(Xo fin f).el _ _) h ht;obtain⟨f,E⟩:=this;exact⟨f+1,by simp only;rw[expr];exact E⟩
theorem PE.ofEx {fin:Nat}{e:Ex}(h1:Vv e.op=true)(ex:∀ts r o res,e.wf->Is ts e.tk r->S3 r->o+e.dp<=100->Ev (fun f=>Qf fin f e ⟨r,o⟩) res->Ev (fun f=>expr fin f ⟨ts,o⟩) res):PE fin e where
 at_:=fun h=>by unfold Vv at h1;unfold Kh at h;simp at h1 h;omega
 po:=fun h=>by unfold Ua Y3 at h;rw[h1]at h;simp at h
 nomin:=fun h=>by unfold Ua Y3 at h;rw[h1]at h;unfold Vv at h1;simp at h1 h;omega
 fa:=fun h=>by unfold Y3 at h;rw[h1]at h;simp at h
 te:=fun h=>by rw[h1]at h;cases h
 ex:=ex
theorem PE.ofTe {fin:Nat}{e:Ex}(h1:e.op=8)(te:∀ts r o res,e.wf->Is ts e.tk r->S2 r->o+e.dp<=100->Ev (fun f=>Qi fin f e ⟨r,o⟩) res->Ev (fun f=>term fin f ⟨ts,o⟩) res):PE fin e where
 at_:=fun h=>by rw[h1]at h;cases h
 po:=fun h=>by rw[h1]at h;cases h
 nomin:=fun h=>by rw[h1]at h;cases h
 fa:=fun h=>by rw[h1]at h;cases h
 te:=fun _=>te
 ex:=fun ts r o _ hw h hr hd hx=>Tx (te ts r o _ hw h hr.s2 hd (Jq fin hr.d)) hx
theorem PE.ofFa {fin:Nat}{e:Ex}(h1:Y3 e.op=false)(h2:Ua e.op=false)(h3:Kh e.op=false)(nomin:e.op=9-> ∀ts r,Is ts e.tk r->nm 45 ts)
  (fa:∀n ts r o,e.wf->Is ts e.tk r->S2 r->o+e.dp<=100->Ev (fun f=>Px fin n f ⟨ts,o⟩) (.ok (negs n e,⟨r,o⟩))):PE fin e where
 at_:=fun h=>by rw[h3]at h;cases h
 po:=fun h=>by rw[h2]at h;cases h
 nomin:=fun h=>nomin (by rw[h2]at h;simpa using h)
 fa:=fun _=>fa
 te:=fun _ ts r o _ hw h hr hd hx=>J9 (fa 0 ts r o hw h hr hd) hx
 ex:=fun ts r o _ hw h hr hd hx=>Tx (J9 (fa 0 ts r o hw h hr.s2 hd) (Jq fin hr.d)) hx
theorem PE.ofPo {fin : Nat} {e : Ex} (h2 : Ua e.op = true) (nomin : ∀ ts r, Is ts e.tk r → nm 45 ts)
    (at_ : Kh e.op = true → ∀ ts r o, e.wf → Is ts e.tk r → nm 40 r → o + e.dp ≤ 100 → Ev (fun f => atom fin f ⟨ts, o⟩) (.ok (e, ⟨r, o⟩)))
    (po : ∀ ts r o res, e.wf → Is ts e.tk r → nm 40 r → o + e.dp ≤ 100 → Ev (fun f => X9 f e ⟨r, o⟩) res → Ev (fun f => post fin f ⟨ts, o⟩) res) : PE fin e :=
  have fa : ∀ n ts r o, e.wf → Is ts e.tk r → S2 r → o + e.dp ≤ 100 → Ev (fun f => Px fin n f ⟨ts, o⟩) (.ok (negs n e, ⟨r, o⟩)) := fun n ts r o hw h hr hd =>
    Tz (nomin ts r h) (po ts r o _ hw h hr.a hd (Tt hr.b)) hr.c
  { at_ := at_
    po := fun _ => po
    nomin := fun _ => nomin
    fa := fun _ => fa
    te := fun _ ts r o _ hw h hr hd hx => J9 (fa 0 ts r o hw h hr hd) hx
    ex := fun ts r o _ hw h hr hd hx => Tx (J9 (fa 0 ts r o hw h hr.s2 hd) (Jq fin hr.d)) hx }
theorem PE.ofAt {fin:Nat}{e:Ex}(h2:Ua e.op=true)(nomin:∀ts r,Is ts e.tk r->nm 45 ts)
  (at_:∀ts r o,e.wf->Is ts e.tk r->nm 40 r->o+e.dp<=100->Ev (fun f=>atom fin f ⟨ts,o⟩) (.ok (e,⟨r,o⟩))):PE fin e:=
 PE.ofPo h2 nomin (fun _=>at_) fun ts r o _ hw h hr hd ht=>Wj (at_ ts r o hw h hr hd) ht
theorem Qyd {fin:Nat}{e:Ex}(h:PE fin e){ts r:List Tok}{o:Nat}(hw:e.wf)(hi:Is ts (mk 40::(e.tk++[mk 41])) r)(hd:o+(e.dp+1)<=100):Ev (fun f=>atom fin f ⟨ts,o⟩) (.ok (e,⟨r,o⟩)):=by
 obtain⟨c,t1,rfl,H⟩:=hi.cons;obtain⟨m,I,J⟩:=H.app;obtain⟨c2,t2,rfl,K⟩:=J.cons;have e4:=Is.nil K;subst e4;have s4:S4 ((3,[41],c2)::t2):=⟨⟨⟨Q8 rfl _ _,Q8 rfl _ _,Q8 rfl _ _⟩,Q8 rfl _ _⟩,Q8 rfl _ _,Q8 rfl _ _⟩;have O:=h.ex t1 _ (o+1) _ hw I s4.s3 (by omega) (Vd fin s4);obtain⟨f,E⟩:=O;refine⟨f+1,?_⟩;simp only at E;show atom fin (f+1) ⟨(3,[40],c)::t1,o⟩=_
 have n1: ¬(100<o+1):=by omega
 have e5:Zu fin ⟨(3,[40],c)::t1,o⟩=some (.ok ((),⟨t1,o+1⟩)):=by unfold Zu;simp only;rw[if_neg n1];rfl
 have e6:X6 fin ⟨(3,[41],c2)::t2,o+1⟩=some (.ok ((),⟨t2,o⟩)):=by unfold X6 want;rw[if_pos (by simp[Qk])];rfl
 rw[atom];simp only[Qb,Qk,beq_self_eq_true,Bool.and_self,if_true,Nat.reduceBEq,Bool.false_and,Bool.false_eq_true,if_false,List.tail_cons];rw[e5];simp only[PR.bind,E,e6,ret]
theorem Qjy {fin:Nat}{a:Ex}(h:PE fin a){b:Bool}(hb:b= !Ua a.op){ts r:List Tok}{o:Nat}{res:Except (Nat×Nat) (Ex×St)}(hw:a.wf)(hi:Is ts (parK b a.tk) r)(hr:nm 40 r)(hd:o+parD b a.dp<=100)
  (ht:Ev (fun f=>X9 f a ⟨r,o⟩) res):Ev (fun f=>post fin f ⟨ts,o⟩) res:=by
 cases b with
 |true=>exact Wj (Qyd h hw hi hd) ht
 |false=>exact h.po (by rw[<-Bool.not_eq_false'];exact hb.symm) ts r o res hw hi hr hd ht
theorem Np {fin:Nat}{a:Ex}(h:PE fin a){b:Bool}(hb:b= !Ua a.op){ts r:List Tok}(hi:Is ts (parK b a.tk) r):nm 45 ts:=by
 cases b with
 |true=>
  obtain⟨c,t1,rfl,_⟩:=Is.cons (x:=mk 40) hi
  exact Q8 rfl _ _
 |false=>exact h.nomin (by rw[show Ua a.op=true from by rw[<-Bool.not_eq_false'];exact hb.symm];rfl) ts r hi
theorem Qjw {fin:Nat}{a:Ex}(h:PE fin a){b:Bool}(hb:b=Y3 a.op){n:Nat}{ts r:List Tok}{o:Nat}(hw:a.wf)(hi:Is ts (parK b a.tk) r)(hr:S2 r)(hd:o+parD b a.dp<=100):
  Ev (fun f=>Px fin n f ⟨ts,o⟩) (.ok (negs n a,⟨r,o⟩)):=by
 cases b with
 |true=>
  refine Tz ?_ (Wj (Qyd h hw hi hd) (Tt hr.b)) hr.c;obtain⟨c,t1,rfl,_⟩:=Is.cons (x:=mk 40) hi
  exact Q8 rfl _ _
 |false=>exact h.fa hb.symm n ts r o hw hi hr hd
theorem D8 {fin:Nat}{a:Ex}(h:PE fin a){b:Bool}(hb:b=Vv a.op){ts r:List Tok}{o:Nat}{res:Except (Nat×Nat) (Ex×St)}(hw:a.wf)(hi:Is ts (parK b a.tk) r)(hr:S2 r)(hd:o+parD b a.dp<=100)
  (ht:Ev (fun f=>Qi fin f a ⟨r,o⟩) res):Ev (fun f=>term fin f ⟨ts,o⟩) res:=by
 cases b with
 |true=>
  refine J9 (Tz ?_ (Wj (Qyd h hw hi hd) (Tt hr.b)) hr.c) ht;obtain⟨c,t1,rfl,_⟩:=Is.cons (x:=mk 40) hi
  exact Q8 rfl _ _
 |false=>exact h.te hb.symm ts r o res hw hi hr hd ht
theorem Qhc (fin n:Nat):PE fin (.num n):=by
 refine PE.ofAt rfl (fun ts r hi=> ?_) fun ts r o _ hi _ _=> ?_
 ·obtain⟨c,t1,rfl,_⟩:=Is.cons (x:=numK n) (l:=[]) hi
  exact Di (k:=1) (by decide) _ _ _ _
 ·have h:Is ts [numK n] r:=hi
  refine⟨1,?_⟩;show atom fin 1 ⟨ts,o⟩=_;rw[atom]
  have E:Qb 1 ts=true:=by obtain⟨c,t,rfl,_⟩:=h.cons;rfl
  simp only[E,if_true];rw[Wm fin h,Wt];rfl
theorem Qgr (fin:Nat)(x:Qx):PE fin (.name x):=by
 refine PE.ofAt rfl (fun ts r hi=> ?_) fun ts r o _ hi hr _=> ?_
 ·obtain⟨c,t1,rfl,_⟩:=Is.cons (x:=(2,x)) (l:=[]) hi
  exact Di (k:=2) (by decide) _ _ _ _
 ·obtain⟨c,t,rfl,h⟩:=Is.cons (x:=(2,x)) (l:=[]) hi
  have e1:=Is.nil h;subst e1;unfold nm at hr;refine⟨1,?_⟩;show atom fin 1 ⟨(2,x,c)::t,o⟩=_;rw[atom];simp only[Qb,Nat.reduceBEq,Bool.false_eq_true,if_false,List.tail_cons,hr,Bool.and_false,if_true];unfold name;rw[if_pos (by rfl),Wt];rfl
theorem Qhh (fin:Nat)(m:MatV):PE fin (.mat m):=by
 have H:∀ts r,Is ts (matK m) r-> ∃c t,ts=(3,[91],c)::t:=by
  intro ts r h;unfold matK at h;split at h
  ·obtain⟨c,t,rfl,_⟩:=h.cons;exact⟨c,t,rfl⟩
  ·obtain⟨c,t,rfl,_⟩:=h.cons;exact⟨c,t,rfl⟩
 refine PE.ofAt rfl (fun ts r h=> ?_) fun ts r o hw h _ _=> ?_
 ·obtain⟨c,t,rfl⟩:=H ts r h
  exact Q8 rfl _ _
 ·obtain⟨f,E⟩:=Fe fin (m:=m) hw (o:=o) h
  obtain⟨c,t,rfl⟩:=H ts r h;refine⟨f+1,?_⟩;simp only at E;show atom fin (f+1) ⟨(3,[91],c)::t,o⟩=_;rw[atom];simp only[Qb,Qk,Nat.reduceBEq,Bool.false_and,Bool.false_eq_true,if_false,beq_self_eq_true,Bool.and_self,if_true,Bool.true_and];rw[if_neg (by decide),E];rfl
theorem Qhm (fin:Nat)(l:List (List Nat)):PE fin (.cpx l):=by
 have H:∀ts r,Is ts (cpxK l) r-> ∃c t,ts=(3,[123],c)::t:=by
  intro ts r h;unfold cpxK at h;obtain⟨c,t,rfl,_⟩:=h.cons;exact⟨c,t,rfl⟩
 refine PE.ofAt rfl (fun ts r h=> ?_) fun ts r o hw h _ _=> ?_
 ·obtain⟨c,t,rfl⟩:=H ts r h
  exact Q8 rfl _ _
 ·obtain⟨f,E⟩:=Kn fin (l:=l) hw (o:=o) h
  obtain⟨c,t,rfl⟩:=H ts r h;refine⟨f+1,?_⟩;simp only at E;show atom fin (f+1) ⟨(3,[123],c)::t,o⟩=_;rw[atom];simp only[Qb,Qk,Nat.reduceBEq,Bool.false_and,Bool.false_eq_true,if_false,beq_self_eq_true,Bool.and_self,if_true,Bool.true_and];rw[if_neg (by decide),if_neg (by decide),E];rfl
theorem Qhf {fin:Nat}{a:Ex}(ha:PE fin a):PE fin (.neg a):=by
 refine PE.ofFa rfl rfl rfl (fun h=>by cases h) fun n ts r o hw hi hr hd=> ?_;obtain⟨c,t,rfl,H⟩:=Is.cons (x:=mk 45) hi;have I:=Qjw ha (b:=Qp 4 0 a.op) (by simp[Qp]) (n:=n+1) (o:=o) hw H hr hd;obtain⟨f,K⟩:=I
 have O:Px fin n (f+1) ⟨(3,[45],c)::t,o⟩=some (.ok (negs (n+1) a,⟨r,o⟩)):=by
  have E:Px fin (n+1) f ⟨t,o⟩=some (.ok (negs (n+1) a,⟨r,o⟩)):=K;unfold Px at E ⊢;rw[Xg];simp only[Qk,beq_self_eq_true,Bool.and_self,if_true];have J:=(Le.bind (Le.refl (Xg f (n+1) ⟨t,o⟩)) fun n s=>Le.bind ((Xo fin f).po s) fun k s=>Le.refl (if Qk [94] s.ts then (Qd fin s.adv).bind fun m s=>ret (negs n (.pow k m)) s else ret (negs n k) s)).some E;exact J
 exact⟨f+1,O⟩
theorem Wn (p:Nat):Qp 5 0 p= !Ua p/\Qp 9 0 p= !Ua p:=by
 constructor<;>simp[Qp,Ua,Y3,Vv,Bool.or_assoc]
theorem Qgt {fin:Nat}{a:Ex}(ha:PE fin a):PE fin (.turn a):=by
 refine PE.ofPo rfl (fun ts r hi=> ?_) (fun h=>by cases h) fun ts r o res hw hi hr hd ht=> ?_
 ·obtain⟨m,E,_⟩:=Is.app (l1:=parK (Qp 5 0 a.op) a.tk) (l2:=[mk 39]) hi
  exact Np ha (Wn _).1 E
 ·obtain⟨m,E,H⟩:=Is.app (l1:=parK (Qp 5 0 a.op) a.tk) (l2:=[mk 39]) hi
  obtain⟨c,t,rfl,I⟩:=H.cons;have e3:=Is.nil I;subst e3;refine Qjy ha (Wn _).1 hw E (Q8 rfl _ _) hd ?_;obtain⟨f,J⟩:=ht;refine⟨f+1,?_⟩;show X9 (f+1) a ⟨(3,[39],c)::t,o⟩=_;rw[X9];simp only[Qk,beq_self_eq_true,Bool.and_self,if_true];exact J
theorem Qhd {fin:Nat}{a:Ex}(n:Nat)(ha:PE fin a):PE fin (.pow a n):=by
 refine PE.ofFa rfl rfl rfl (fun _ ts r hi=> ?_) fun k ts r o hw hi hr hd=> ?_
 ·obtain⟨m,E,_⟩:=Is.app (l1:=parK (Qp 9 0 a.op) a.tk) (l2:=[mk 94,numK n]) hi
  exact Np ha (Wn _).2 E
 ·obtain⟨m,E,H⟩:=Is.app (l1:=parK (Qp 9 0 a.op) a.tk) (l2:=[mk 94,numK n]) hi
  obtain⟨c,t,rfl,I⟩:=H.cons;have J:=Np ha (Wn _).2 E;have K:=Qjy ha (Wn _).2 (o:=o) hw E (Q8 rfl _ _) hd (Tt (Q8 rfl _ _))
  refine Ev.bind (h:=fun f n s=>(post fin f s).bind fun k s=>if Qk [94] s.ts then (Qd fin s.adv).bind fun m s=>ret (negs n (.pow k m)) s else ret (negs n k) s)
   (fun f=>Ty _ _ _) (fun a s f=>Le.bind ((Xo fin f).po _) fun _ _=>Le.refl _) (Pp J) ?_
  refine Ev.bind (h:=fun _ e s=>if Qk [94] s.ts then (Qd fin s.adv).bind fun m s=>ret (negs k (.pow e m)) s else ret (negs k e) s)
   (fun f=>(Xo fin f).po _) (fun a s=>Stab.const _) K ?_
  refine Ev.const ?_;simp only[Qk,beq_self_eq_true,Bool.and_self,if_true];have:Qd fin (St.adv ⟨(3,[94],c)::t,o⟩)=ret n ⟨r,o⟩:=Wm fin I;rw[this,Wt];rfl
theorem Qhb {fin:Nat}{a b:Ex}(ha:PE fin a)(hb:PE fin b):PE fin (.mul a b):=by
 refine PE.ofTe rfl fun ts r o res hw hi hr hd ht=> ?_;obtain⟨m,I,J⟩:=Is.app (l1:=parK (Qp 8 0 a.op) a.tk) (l2:=mk 42::parK (Qp 8 1 b.op) b.tk) hi;obtain⟨c,t,rfl,K⟩:=J.cons;have O:o+max (parD (Qp 8 0 a.op) a.dp) (parD (Qp 8 1 b.op) b.dp)<=100:=hd;refine D8 ha (b:=Qp 8 0 a.op) (by simp[Qp]) hw.1 I ⟨Q8 rfl _ _,Q8 rfl _ _,Q8 rfl _ _⟩ (by omega) ?_;have E:=Qjw hb (b:=Qp 8 1 b.op) (by simp[Qp,Y3]) (n:=0) (o:=o) hw.2 K hr (by omega)
 have H:Ev (fun f=>Xr fin f ⟨t,o⟩) (.ok (b,⟨r,o⟩)):=by
  obtain⟨f,E⟩:=E;exact⟨f+1,by simp only;rw[Xr];exact E⟩
 have:=Ev.bind (h:=fun f k s=>Qi fin f (.mul a k) s) (fun f=>(Xo fin f).fa _) (fun a s f=>(Xo fin f).tl _ _) H ht;obtain⟨f,E⟩:=this;refine⟨f+1,?_⟩;show Qi fin (f+1) a ⟨(3,[42],c)::t,o⟩=_;rw[Qi];simp only[Qk,beq_self_eq_true,Bool.and_self,if_true];exact E
theorem Qhg {fin:Nat}{a b:Ex}(ha:PE fin a)(hb:PE fin b):PE fin (.add a b):=by
 refine PE.ofEx rfl fun ts r o res hw hi hr hd ht=> ?_;obtain⟨m,H,J⟩:=Is.app (l1:=parK (Qp 6 0 a.op) a.tk) (l2:=mk 43::parK (Qp 6 1 b.op) b.tk) hi;obtain⟨c,t,rfl,K⟩:=J.cons
 have T:Qp 6 0 a.op=false:=by simp[Qp]
 have E:o+max (parD (Qp 6 0 a.op) a.dp) (parD (Qp 6 1 b.op) b.dp)<=100:=hd;rw[T]at H E;simp only[parD,Bool.false_eq_true,if_false]at E;refine ha.ex ts _ o _ hw.1 H ⟨⟨Q8 rfl _ _,Q8 rfl _ _,Q8 rfl _ _⟩,Q8 rfl _ _⟩ (by omega) ?_;have I:=D8 hb (b:=Qp 6 1 b.op) (by simp[Qp]) (o:=o) hw.2 K hr.s2 (by unfold parD;omega) (Jq fin hr.d);have:=Ev.bind (h:=fun f k s=>Qf fin f (.add a k) s) (fun f=>(Xo fin f).t _) (fun a s f=>(Xo fin f).el _ _) I ht;obtain⟨f,O⟩:=this;refine⟨f+1,?_⟩;show Qf fin (f+1) a ⟨(3,[43],c)::t,o⟩=_;rw[Qf];simp only[Qk,beq_self_eq_true,Bool.and_self,if_true];exact O
theorem Qhu {fin:Nat}{a b:Ex}(ha:PE fin a)(hb:PE fin b):PE fin (.sub a b):=by
 refine PE.ofEx rfl fun ts r o res hw hi hr hd ht=> ?_;obtain⟨m,H,J⟩:=Is.app (l1:=parK (Qp 7 0 a.op) a.tk) (l2:=mk 45::parK (Qp 7 1 b.op) b.tk) hi;obtain⟨c,t,rfl,K⟩:=J.cons
 have T:Qp 7 0 a.op=false:=by simp[Qp]
 have E:o+max (parD (Qp 7 0 a.op) a.dp) (parD (Qp 7 1 b.op) b.dp)<=100:=hd;rw[T]at H E;simp only[parD,Bool.false_eq_true,if_false]at E;refine ha.ex ts _ o _ hw.1 H ⟨⟨Q8 rfl _ _,Q8 rfl _ _,Q8 rfl _ _⟩,Q8 rfl _ _⟩ (by omega) ?_;have I:=D8 hb (b:=Qp 7 1 b.op) (by simp[Qp]) (o:=o) hw.2 K hr.s2 (by unfold parD;omega) (Jq fin hr.d);have:=Ev.bind (h:=fun f k s=>Qf fin f (.sub a k) s) (fun f=>(Xo fin f).t _) (fun a s f=>(Xo fin f).el _ _) I ht;obtain⟨f,O⟩:=this;refine⟨f+1,?_⟩;show Qf fin (f+1) a ⟨(3,[45],c)::t,o⟩=_
 have e1:Qk [43] ((3,[45],c)::t)=false:=by simp[Qk]
 have e2:Qk [45] ((3,[45],c)::t)=true:=by simp[Qk]
 rw[Qf];simp only[e1,e2,Bool.false_eq_true,if_false,if_true];exact O
def Exs.app:Exs->Exs->Exs
 | .nil,m=>m
 | .cons a l,m=> .cons a (l.app m)
theorem Exs.snoc_app:∀(l:Exs) (a:Ex) (m:Exs),(l.snoc a).app m=l.app (.cons a m)
 | .nil,_,_=>rfl
 | .cons b l,a,m=>by simp only[Exs.snoc,Exs.app,Exs.snoc_app l a m]
theorem Exs.app_nil:∀l:Exs,l.app .nil=l
 | .nil=>rfl
 | .cons a l=>by simp only[Exs.app,Exs.app_nil l]
def PES (fin:Nat)(l:Exs):Prop:=∀acc ts r o,l.wf->Is ts l.tkTail r->S4 r->nm 44 r->o+l.dp<=100->Ev (fun f=>Qs fin f acc ⟨ts,o⟩) (.ok (acc.app l,⟨r,o⟩))
theorem Qjo {l:Exs}{ts r:List Tok}(hi:Is ts l.tkTail r)(hr:S4 r):S4 ts:=by
 cases l with
 |nil=>have:=Is.nil hi;subst this;exact hr
 |cons a l=>
  obtain⟨c,t,rfl,_⟩:=Is.cons (x:=mk 44) hi;exact⟨⟨⟨Q8 rfl _ _,Q8 rfl _ _,Q8 rfl _ _⟩,Q8 rfl _ _⟩,Q8 rfl _ _,Q8 rfl _ _⟩
theorem Qgi (fin:Nat):PES fin .nil:=by
 intro E ts r o _ H _ h _;have e:=Is.nil H;subst e;refine⟨1,?_⟩;show Qs fin 1 E ⟨ts,o⟩=_;unfold nm at h;rw[Qs];simp only[h];simp[ret,Exs.app_nil]
theorem Qyu {fin:Nat}{a:Ex}{l:Exs}(ha:PE fin a)(hl:PES fin l):PES fin (.cons a l):=by
 intro E ts r o T hi O I hd;obtain⟨c,t,rfl,U⟩:=Is.cons (x:=mk 44) (l:=a.tk++l.tkTail) hi;obtain⟨m,Z,H⟩:=U.app;have J:=Qjo H O;have a4:o+max a.dp l.dp<=100:=hd;have he:=ha.ex t m o _ T.1 Z J.s3 (by omega) (Vd fin J);have K:=hl (E.snoc a) m r o T.2 H O I (by omega);rw[Exs.snoc_app]at K;have:=Ev.bind (h:=fun f k s=>Qs fin f (E.snoc k) s) (fun f=>(Xo fin f).e _) (fun a s f=>(Xo fin f).pl _ _) he K;obtain⟨f,hf⟩:=this;refine⟨f+1,?_⟩;show Qs fin (f+1) E ⟨(3,[44],c)::t,o⟩=_;rw[Qs];simp only[Qk,beq_self_eq_true,Bool.and_self,if_true];exact hf
theorem Ad {fin:Nat}{a:Ex}{l:Exs}(ha:PE fin a)(hl:PES fin l){ts r:List Tok}{o:Nat}(hw:(Exs.cons a l).wf)(hi:Is ts (Exs.cons a l).tk r)(hr:S4 r)(h44:nm 44 r)(hd:o+(Exs.cons a l).dp<=100):
  Ev (fun f=>X7 fin f ⟨ts,o⟩) (.ok (.cons a l,⟨r,o⟩)):=by
 obtain⟨m,I,E⟩:=Is.app (l1:=a.tk) (l2:=l.tkTail) hi;have H:=Qjo E hr;have T:o+max a.dp l.dp<=100:=hd;have J:=ha.ex ts m o _ hw.1 I H.s3 (by omega) (Vd fin H);have O:=hl (.cons a .nil) m r o hw.2 E hr h44 (by omega);have:=Ev.bind (h:=fun f k s=>Qs fin f (.cons k .nil) s) (fun f=>(Xo fin f).e _) (fun a s f=>(Xo fin f).pl _ _) J O;obtain⟨f,K⟩:=this;exact⟨f+1,by simp only;rw[X7];exact K⟩
theorem Qjp {fin:Nat}(x:Qx){l:Exs}(hl:∀a m,l=.cons a m->PE fin a/\PES fin m):PE fin (.call x l):=by
 refine PE.ofAt rfl (fun ts r hi=> ?_) fun ts r o hw hi hr hd=> ?_
 ·obtain⟨c,t1,rfl,_⟩:=Is.cons (x:=(2,x)) hi
  exact Di (k:=2) (by decide) _ _ _ _
 ·obtain⟨c,t1,rfl,I⟩:=Is.cons (x:=(2,x)) hi
  obtain⟨c2,t2,rfl,J⟩:=Is.cons (x:=mk 40) I;obtain⟨m,K,O⟩:=J.app;obtain⟨c3,t3,rfl,T⟩:=O.cons;have e5:=Is.nil T;subst e5;obtain⟨_,E,H⟩:Y7 x/\l≠ .nil/\l.wf:=hw
  cases l with
  |nil=>exact absurd rfl E
  |cons a l=>
   obtain⟨U,Z⟩:=hl a l rfl;have a0:o+((Exs.cons a l).dp+1)<=100:=hd;have s4:S4 ((3,[41],c3)::t3):=⟨⟨⟨Q8 rfl _ _,Q8 rfl _ _,Q8 rfl _ _⟩,Q8 rfl _ _⟩,Q8 rfl _ _,Q8 rfl _ _⟩;obtain⟨f,h⟩:=Ad U Z (o:=o+1) H K s4 (Q8 rfl _ _) (by omega);refine⟨f+1,?_⟩;simp only at h;show atom fin (f+1) ⟨(2,x,c)::(3,[40],c2)::t2,o⟩=_
   have n1: ¬(100<o+1):=by omega
   have e4:name fin ⟨(2,x,c)::(3,[40],c2)::t2,o⟩=some (.ok (x,⟨(3,[40],c2)::t2,o⟩)):=by unfold name;rw[if_pos (by rfl)];rfl
   have e5:Zu fin ⟨(3,[40],c2)::t2,o⟩=some (.ok ((),⟨t2,o+1⟩)):=by unfold Zu;simp only;rw[if_neg n1];rfl
   have e6:X6 fin ⟨(3,[41],c3)::t3,o+1⟩=some (.ok ((),⟨t3,o⟩)):=by unfold X6 want;rw[if_pos (by simp[Qk])];rfl
   rw[atom];simp only[Qb,Qk,Nat.reduceBEq,Bool.false_eq_true,if_false,List.tail_cons,beq_self_eq_true,Bool.and_self,if_true];rw[e4];simp only[PR.bind];rw[e5];simp only[h,e6,ret]
mutual
theorem Vm (fin:Nat):(e:Ex)->PE fin e
 | .num n=>Qhc fin n
 | .name x=>Qgr fin x
 | .mat m=>Qhh fin m
 | .cpx l=>Qhm fin l
 | .neg a=>Qhf (Vm fin a)
 | .turn a=>Qgt (Vm fin a)
 | .add a b=>Qhg (Vm fin a) (Vm fin b)
 | .sub a b=>Qhu (Vm fin a) (Vm fin b)
 | .mul a b=>Qhb (Vm fin a) (Vm fin b)
 | .pow a n=>Qhd n (Vm fin a)
 | .call x .nil=>Qjp x (fun _ _ h=>by cases h)
 | .call x (.cons a l)=>Qjp x (fun _ _ h=>by cases h;exact⟨Vm fin a,Cq fin l⟩)
theorem Cq (fin:Nat):(l:Exs)->PES fin l
 | .nil=>Qgi fin
 | .cons a l=>Qyu (Vm fin a) (Cq fin l)
end
theorem Qh9:∀e:Ex,e.tk≠[]:=by
 intro e
 cases e<;>simp[Ex.tk,matK,cpxK]
 split<;>simp
theorem Qx6:S4 []:=⟨⟨⟨rfl,rfl,rfl⟩,rfl⟩,rfl,rfl⟩
theorem Qgv (fin:Nat){n:Ln}(hw:n.wf)(hd:n.dp<=100){ts:List Tok}(hi:Is ts n.tk []):Ev (fun f=>line fin f ⟨ts,0⟩) (.ok (n,⟨[],0⟩)):=by
 cases n with
 |nothing=>
  have e:=Is.nil hi;subst e
  exact⟨0,rfl⟩
 |lets x e=>
  obtain⟨c,t,rfl,h⟩:=Is.cons (x:=(2,letB)) hi;obtain⟨c2,t2,rfl,O⟩:=h.cons;obtain⟨c3,t3,rfl,T⟩:=O.cons;have Z:=(Vm fin e).ex t3 [] 0 _ hw.2 T Qx6.s3 (by rw[Nat.zero_add];exact hd) (Vd fin Qx6);obtain⟨f,E⟩:=Z;refine⟨f,?_⟩;simp only at E;show line fin f ⟨(2,letB,c)::(2,x,c2)::(3,[61],c3)::t3,0⟩=_;unfold line;rw[if_neg (by simp),if_pos (by simp[Qb,Xl])]
  have e4:name fin (St.adv ⟨(2,letB,c)::(2,x,c2)::(3,[61],c3)::t3,0⟩)=some (.ok (x,⟨(3,[61],c3)::t3,0⟩)):=by unfold name;rw[if_pos (by rfl)];rfl
  have e5:want fin [61] ⟨(3,[61],c3)::t3,0⟩=some (.ok ((),⟨t3,0⟩)):=by unfold want;rw[if_pos (by simp[Qk])];rfl
  rw[e4];simp only[PR.bind];rw[e5];simp only[E];unfold done
  rw[if_pos rfl];rfl
 |cmd x l=>
  obtain⟨_,hx,K⟩:Y7 x/\x≠letB/\l.wf:=hw;obtain⟨c,t,rfl,h⟩:=Is.cons (x:=(2,x)) hi
  have H:(Qb 2 ((2,x,c)::t) && Xl ((2,x,c)::t)==letB)=false:=by simp[Qb,Xl,hx]
  have e4:name fin ⟨(2,x,c)::t,0⟩=some (.ok (x,⟨t,0⟩)):=by unfold name;rw[if_pos (by rfl)];rfl
  cases l with
  |nil=>
   have e1:=Is.nil h;subst e1;refine⟨0,?_⟩;show line fin 0 ⟨[(2,x,c)],0⟩=_;unfold line;rw[if_neg (by simp)];simp only[H,Bool.false_eq_true,if_false];rw[e4];simp only[PR.bind,if_true];unfold done
   rw[if_pos (by rfl)];rfl
  |cons a l=>
   obtain⟨f,E⟩:=Ad (Vm fin a) (Cq fin l) (o:=0) K h Qx6 rfl (by rw[Nat.zero_add];exact hd);refine⟨f,?_⟩;simp only at E;show line fin f ⟨(2,x,c)::t,0⟩=_
   have ht:t≠[]:=by
    intro e;subst e;obtain⟨b,U,hk⟩:=h
    have J:b=[]:=by simpa using U.symm
    subst J;have I:(Exs.cons a l).tk=[]:=hk.symm;simp only[Exs.tk,List.append_eq_nil_iff]at I;exact Qh9 a I.1
   unfold line;rw[if_neg (by simp)];simp only[H,Bool.false_eq_true,if_false];rw[e4];simp only[PR.bind];rw[if_neg ht,E];simp only;unfold done;rw[if_pos (by rfl)];rfl
end SynP
namespace SynP
open LexP
theorem Qv {α β:Type}{x:PR α}{f:α->St->PR β}{r:β×St}(h:x.bind f=some (.ok r)):∃a s,x=some (.ok (a,s))/\f a s=some (.ok r):=by
 rcases x with- |(e|⟨a,s⟩)
 ·cases h
 ·cases h
 ·exact⟨a,s,rfl,h⟩
def Fq (x:Bool×Nat):Prop:=x.1=true->0<x.2
theorem Pq (fin:Nat):∀(f n:Nat) (acc:List (Bool×Nat)) (s:St) (r:(Nat×List (Bool×Nat))×St),Qo fin f n acc s=some (.ok r)-> ∃l,r.1.2=acc++l/\r.1.1=n+l.length/\(∀x∈l,Fq x)
 |0,_,_,_,_,h=>by cases h
 |f+1,n,acc,s,r,h=>by
  unfold Qo at h;split at h
  ·obtain⟨m,s',h1,h2⟩:=Qv h
   obtain⟨l,a1,a2,a3⟩:=Pq fin f _ _ _ _ h2;refine⟨(Qk [45] s.ts && decide (0<m),m)::l,by rw[a1,List.append_assoc];rfl,by rw[a2,List.length_cons];omega,fun x E=> ?_⟩;rcases List.mem_cons.1 E with rfl|E
   ·intro H;simp at H;exact H.2
   ·exact a3 x E
  ·unfold ret at h
   cases h
   exact⟨[],by simp,by simp,fun x E=>by cases E⟩
theorem Sg (fin:Nat):∀(f:Nat) (acc:List (Bool×Nat)) (lens:List Nat) (s:St) (r:(List (Bool×Nat)×List Nat)×St),Xj fin f acc lens s=some (.ok r)->acc.length=lens.sum->(∀x∈acc,Fq x)->r.1.1.length=r.1.2.sum/\(∀x∈r.1.1,Fq x)/\0<r.1.2.length
 |0,_,_,_,_,h=>by cases h
 |f+1,acc,lens,s,r,h=>by
  intro hs ho;unfold Xj at h;obtain⟨q,s1,h1,h2⟩:=Qv h;obtain⟨l,a1,a2,a3⟩:=Pq fin f _ _ _ _ h1;simp only at a1 a2
  have H:q.2.length=(lens++[q.1]).sum:=by rw[a1,a2,List.length_append,List.sum_append,hs];simp
  have E:∀x∈q.2,Fq x:=by
   intro x I;rw[a1]at I;rcases List.mem_append.1 I with h|h
   ·exact ho x h
   ·exact a3 x h
  split at h2
  ·unfold ret at h2
   cases h2
   exact⟨H,E,by simp⟩
  ·obtain⟨u,s2,K,J⟩:=Qv h2
   exact Sg fin f _ _ _ _ J H E
theorem Qqj:∀(l:List Nat) (k:Nat),(∀x∈l,x=k)->l.sum=l.length*k
 | [],_,_=>by simp
 |a::l,k,h=>by
  rw[List.sum_cons,List.length_cons,Qqj l k (fun x hx=>h x (List.mem_cons_of_mem _ hx)),h a (by simp),Nat.succ_mul];omega
theorem Ut {fin f:Nat}{s:St}{r:MatV×St}(h:Xi fin f s=some (.ok r)):Nl r.1:=by
 unfold Xi at h;obtain⟨u,s1,Z,J⟩:=Qv h;split at J
 ·unfold Yr at J
  obtain⟨a,s2,-,T⟩:=Qv J;obtain⟨-,s3,-,E⟩:=Qv T;obtain⟨c,s4,-,U⟩:=Qv E;obtain⟨-,s5,-,K⟩:=Qv U;split at K
  ·cases K
  ·rename_i H
   unfold ret at K
   cases K
   have O:∀n,¬64<side n->n<=64:=by
    intro n H;unfold side at H
    split at H<;>omega
   simp at H;refine⟨O a (by omega),O c (by omega),by simp,fun x hx=> ?_⟩;have:=List.eq_of_mem_replicate hx;subst this;intro h;cases h
 ·obtain⟨q,s2,T,E⟩:=Qv J
  obtain⟨e1,e2,e3⟩:=Sg fin f _ _ _ _ T rfl (fun x hx=>by cases hx);unfold Ys at E;split at E
  ·cases E
  ·rename_i I
   split at E
   ·cases E
   ·rename_i H
    unfold ret at E
    cases E
    simp at H I
    refine⟨H.1,by show q.2.headD 0<=64;have:=H.2;cases O:q.2<;>simp[O]at this ⊢ <;>exact this,?_,e2⟩
    show q.1.length=q.2.length*q.2.headD 0;rw[e1];refine Qqj _ _ (fun x hx=> ?_);have:=I x hx
    simpa using this
end SynP
namespace SynP
open LexP
def Keep (s s':St):Prop:=s'.opened=s.opened/\s'.ts.length<=s.ts.length
theorem Keep.refl (s:St):Keep s s:=⟨rfl,Nat.le_refl _⟩
theorem Keep.trans {a b c:St}(h:Keep a b)(k:Keep b c):Keep a c:=⟨k.1.trans h.1,Nat.le_trans k.2 h.2⟩
theorem Keep.adv (s:St):Keep s s.adv:=⟨rfl,by show s.ts.tail.length<=_;rw[List.length_tail];omega⟩
theorem Qh {α:Type}{a:α}{s:St}{r:α×St}(h:ret a s=some (.ok r)):r=(a,s):=by unfold ret at h;cases h;rfl
theorem Xu {α:Type}{c k:Nat}{r:α×St}(h:(fault c k:PR α)=some (.ok r)):False:=by unfold fault at h;cases h
theorem Yu {fin:Nat}{x:Qx}{s:St}{r:Unit×St}(h:want fin x s=some (.ok r)):Keep s r.2:=by
 unfold want at h;split at h
 ·rw[Qh h];exact Keep.adv s
 ·unfold unfit at h;exact(Xu h).elim
theorem Z0 {fin:Nat}{s:St}{r:Nat×St}(h:Qd fin s=some (.ok r)):Keep s r.2:=by
 unfold Qd at h;split at h
 ·rw[Qh h];exact Keep.adv s
 ·unfold unfit at h;exact(Xu h).elim
theorem Rg (fin:Nat):∀(f n:Nat) (acc:List (Bool×Nat)) (s:St) (r:(Nat×List (Bool×Nat))×St),Qo fin f n acc s=some (.ok r)->Keep s r.2
 |0,_,_,_,_,h=>by cases h
 |f+1,n,acc,s,r,h=>by
  unfold Qo at h;split at h
  ·obtain⟨m,s',h1,h2⟩:=Qv h
   have k1:=Z0 h1;have k2:=Rg fin f _ _ _ _ h2;refine Keep.trans ?_ (k1.trans k2);split
   ·exact Keep.adv s
   ·exact Keep.refl s
  ·rw[Qh h];exact Keep.refl s
theorem Tq (fin:Nat):∀(f:Nat) (acc:List (Bool×Nat)) (lens:List Nat) (s:St) (r:(List (Bool×Nat)×List Nat)×St),Xj fin f acc lens s=some (.ok r)->Keep s r.2
 |0,_,_,_,_,h=>by cases h
 |f+1,acc,lens,s,r,h=>by
  unfold Xj at h;obtain⟨q,s1,h1,h2⟩:=Qv h;have k1:=Rg fin f _ _ _ _ h1;split at h2
  ·rw[Qh h2];exact k1.trans (Keep.adv s1)
  ·obtain⟨u,s2,E,H⟩:=Qv h2
   exact k1.trans ((Yu E).trans (Tq fin f _ _ _ _ H))
theorem Bi {fin f:Nat}{s:St}{r:MatV×St}(h:Xi fin f s=some (.ok r)):Keep s r.2:=by
 unfold Xi at h;obtain⟨u,s1,K,H⟩:=Qv h;refine(Yu K).trans ?_;split at H
 ·unfold Yr at H
  obtain⟨a,s2,g1,I⟩:=Qv H;obtain⟨_,s3,g2,E⟩:=Qv I;obtain⟨c,s4,g3,O⟩:=Qv E;obtain⟨_,s5,g4,J⟩:=Qv O;refine(Z0 g1).trans ((Yu g2).trans ((Z0 g3).trans ((Yu g4).trans ?_)));split at J
  ·exact(Xu J).elim
  ·rw[Qh J];exact Keep.refl _
 ·obtain⟨q,s2,I,E⟩:=Qv H
  refine(Tq fin f _ _ _ _ I).trans ?_;unfold Ys at E;split at E
  ·exact(Xu E).elim
  ·split at E
   ·exact(Xu E).elim
   ·rw[Qh E];exact Keep.refl _
theorem Tn (fin:Nat):∀(f:Nat) (acc:List Nat) (s:St) (r:List Nat×St),Q9 fin f acc s=some (.ok r)->Keep s r.2
 |0,_,_,_,h=>by cases h
 |f+1,acc,s,r,h=>by
  unfold Q9 at h;split at h
  ·obtain⟨m,s',h1,h2⟩:=Qv h
   exact(Z0 h1).trans (Tn fin f _ _ _ h2)
  ·rw[Qh h];exact Keep.refl s
theorem U7 (fin:Nat):∀(f:Nat) (acc:List (List Nat)) (s:St) (r:List (List Nat)×St),Xq fin f acc s=some (.ok r)->Keep s r.2
 |0,_,_,_,h=>by cases h
 |f+1,acc,s,r,h=>by
  unfold Xq at h;obtain⟨n,s1,h1,h2⟩:=Qv h;obtain⟨x,s2,H,E⟩:=Qv h2;refine(Z0 h1).trans ((Tn fin f _ _ _ H).trans ?_);split at E
  ·rw[Qh E];exact Keep.adv s2
  ·obtain⟨u,s3,I,J⟩:=Qv E
   exact(Yu I).trans (U7 fin f _ _ _ J)
theorem Et {fin f:Nat}{s:St}{r:List (List Nat)×St}(h:Q5 fin f s=some (.ok r)):Keep s r.2:=by
 unfold Q5 at h;obtain⟨u,s1,H,E⟩:=Qv h;refine(Yu H).trans ?_;split at E
 ·rw[Qh E];exact Keep.adv s1
 ·exact U7 fin f _ _ _ E
end SynP
namespace SynP
open LexP
structure NI where
 op:Int
 text:Qx
 kids:List Int
deriving DecidableEq
def Node.toI (n:Node):NI:=⟨n.op,n.text,n.kids.map fun k:Nat=>(k:Int)⟩
def cnt (op:Int)(k:Nat):Bool:=
 if op=1\/op=2\/op=3\/op=13\/op=14 then k==0
 else if op=4\/op=5\/op=9\/op=11 then k==1
 else if op=6\/op=7\/op=8 then k==2
 else if op=10 then decide (1<=k)
 else decide (op=12)
def Gn (op:Int):Bool:=op==11||op==12||op==14
def Vy (free:List Nat)(k:Nat):List Int:=(free.drop (free.length-k)).map fun k:Nat=>(k:Int)
def Wo (W:Int->Qx->Bool)(n i:Nat)(free:List Nat)(x:NI):Bool:=
 !(Gn x.op !=(i+1==n)|| !cnt x.op x.kids.length||decide (free.length<x.kids.length)|| !W x.op x.text)
def Xk (W:Int->Qx->Bool)(n:Nat):Nat->List Nat->List NI->Bool
 |_,free,[]=>free.length==1
 |i,free,x::l=>
  if Wo W n i free x then
   if x.kids=Vy free x.kids.length then Xk W n (i+1) (free.take (free.length-x.kids.length)++[i]) l else false
  else false
structure WOk (W:Int->Qx->Bool):Prop where
 num:∀t,W 1 t=true↔ ∃n,t=decT n
 pow:∀t,W 9 t=true↔ ∃n,t=decT n
 name:∀t,W 2 t=true↔Y7 t
 call:∀t,W 10 t=true↔Y7 t
 lets:∀t,W 11 t=true↔Y7 t
 cmd:∀t,W 12 t=true↔Y7 t/\t≠letB
 mat:∀t,W 3 t=true↔ ∃m,Nl m/\t=matT m
 cpx:∀t,W 13 t=true↔ ∃l,T6 l/\t=cpxT l
 none:∀(op:Int) t,op=4\/op=5\/op=6\/op=7\/op=8\/op=14->(W op t=true↔t=[])
def nL (l:List Node):List NI:=l.map Node.toI
theorem Vg (a b:List Node):nL (a++b)=nL a++nL b:=by simp[nL]
theorem Zn {W:Int->Qx->Bool}{n i:Nat}{free fr:List Nat}{x:NI}{ks:List Nat}{l:List NI}(hf:free=fr++ks)(hk:x.kids=ks.map fun k:Nat=>(k:Int))(hc:cnt x.op ks.length=true)(ht:W x.op x.text=true)(hw:Gn x.op=(i+1==n)):
  Xk W n i free (x::l)=Xk W n (i+1) (fr++[i]) l:=by
 subst hf
 have h:x.kids.length=ks.length:=by rw[hk,List.length_map]
 rw[Xk,if_pos,if_pos]
 ·have:(fr++ks).length-x.kids.length=fr.length:=by rw[h,List.length_append];omega
  rw[this,List.take_left]
 ·unfold Vy
  have:(fr++ks).length-x.kids.length=fr.length:=by rw[h,List.length_append];omega
  rw[this,List.drop_left];exact hk
 ·unfold Wo
  rw[h,hc,ht,hw]
  have: ¬((fr++ks).length<ks.length):=by rw[List.length_append];omega
  simp[this]
theorem Xp:∀e:Ex,0<e.size:=by
 intro e;cases e<;>simp[Ex.size]
mutual
theorem Zi {W:Int->Qx->Bool}(hW:WOk W)(n:Nat):∀(e:Ex) (o:Nat) (free:List Nat) (l:List NI),e.wf->o+e.size<n->Xk W n o free (nL (e.flat o)++l)=Xk W n (o+e.size) (free++[o+e.size-1]) l
 | .num m,o,free,l,_,hn=>by
  have hn':o+1<n:=hn
  exact Zn (ks:=[]) (by simp) rfl rfl ((hW.num _).2 ⟨m,rfl⟩) (by show false=_;simp;omega)
 | .name x,o,free,l,h,hn=>by
  have hn':o+1<n:=hn
  exact Zn (ks:=[]) (by simp) rfl rfl ((hW.name _).2 h) (by show false=_;simp;omega)
 | .mat m,o,free,l,h,hn=>by
  have hn':o+1<n:=hn
  exact Zn (ks:=[]) (by simp) rfl rfl ((hW.mat _).2 ⟨m,h,rfl⟩) (by show false=_;simp;omega)
 | .cpx c,o,free,l,h,hn=>by
  have hn':o+1<n:=hn
  exact Zn (ks:=[]) (by simp) rfl rfl ((hW.cpx _).2 ⟨c,h,rfl⟩) (by show false=_;simp;omega)
 | .neg a,o,free,l,h,hn=>by
  have hn':o+(a.size+1)<n:=hn;have hp:=Xp a;show Xk W n o free (nL (a.flat o++[⟨4,[],[o+a.size-1]⟩])++l)=_;rw[Vg,List.append_assoc,Zi hW n a o free _ h (by omega)];have:=Zn (W:=W) (n:=n) (i:=o+a.size) (free:=free++[o+a.size-1]) (fr:=free) (x:=Node.toI ⟨4,[],[o+a.size-1]⟩) (ks:=[o+a.size-1]) (l:=l) rfl rfl rfl ((hW.none 4 _ (by simp)).2 rfl) (by show false=_;simp;omega)
  exact this
 | .turn a,o,free,l,h,hn=>by
  have hn':o+(a.size+1)<n:=hn;have hp:=Xp a;show Xk W n o free (nL (a.flat o++[⟨5,[],[o+a.size-1]⟩])++l)=_;rw[Vg,List.append_assoc,Zi hW n a o free _ h (by omega)];have:=Zn (W:=W) (n:=n) (i:=o+a.size) (free:=free++[o+a.size-1]) (fr:=free) (x:=Node.toI ⟨5,[],[o+a.size-1]⟩) (ks:=[o+a.size-1]) (l:=l) rfl rfl rfl ((hW.none 5 _ (by simp)).2 rfl) (by show false=_;simp;omega)
  exact this
 | .pow a m,o,free,l,h,hn=>by
  have hn':o+(a.size+1)<n:=hn;have hp:=Xp a;show Xk W n o free (nL (a.flat o++[⟨9,decT m,[o+a.size-1]⟩])++l)=_;rw[Vg,List.append_assoc,Zi hW n a o free _ h (by omega)];have:=Zn (W:=W) (n:=n) (i:=o+a.size) (free:=free++[o+a.size-1]) (fr:=free) (x:=Node.toI ⟨9,decT m,[o+a.size-1]⟩) (ks:=[o+a.size-1]) (l:=l) rfl rfl rfl ((hW.pow _).2 ⟨m,rfl⟩) (by show false=_;simp;omega)
  exact this
 | .add a b,o,free,l,h,hn=>by
  have hn':o+(a.size+b.size+1)<n:=hn;have hp:=Xp a;have hq:=Xp b;show Xk W n o free (nL (a.flat o++b.flat (o+a.size)++[⟨6,[],[o+a.size-1,o+a.size+b.size-1]⟩])++l)=_;rw[Vg,Vg,List.append_assoc,List.append_assoc,Zi hW n a o free _ h.1 (by omega),Zi hW n b _ _ _ h.2 (by omega)];have:=Zn (W:=W) (n:=n) (i:=o+a.size+b.size) (free:=free++[o+a.size-1]++[o+a.size+b.size-1]) (fr:=free) (x:=Node.toI ⟨6,[],[o+a.size-1,o+a.size+b.size-1]⟩) (ks:=[o+a.size-1,o+a.size+b.size-1]) (l:=l) (by simp) rfl rfl ((hW.none 6 _ (by simp)).2 rfl) (by show false=_;simp;omega);refine this.trans ?_
  have e:o+(Ex.add a b).size=o+a.size+b.size+1:=by show o+(a.size+b.size+1)=_;omega
  rw[e];rfl
 | .sub a b,o,free,l,h,hn=>by
  have hn':o+(a.size+b.size+1)<n:=hn;have hp:=Xp a;have hq:=Xp b;show Xk W n o free (nL (a.flat o++b.flat (o+a.size)++[⟨7,[],[o+a.size-1,o+a.size+b.size-1]⟩])++l)=_;rw[Vg,Vg,List.append_assoc,List.append_assoc,Zi hW n a o free _ h.1 (by omega),Zi hW n b _ _ _ h.2 (by omega)];have:=Zn (W:=W) (n:=n) (i:=o+a.size+b.size) (free:=free++[o+a.size-1]++[o+a.size+b.size-1]) (fr:=free) (x:=Node.toI ⟨7,[],[o+a.size-1,o+a.size+b.size-1]⟩) (ks:=[o+a.size-1,o+a.size+b.size-1]) (l:=l) (by simp) rfl rfl ((hW.none 7 _ (by simp)).2 rfl) (by show false=_;simp;omega);refine this.trans ?_
  have e:o+(Ex.sub a b).size=o+a.size+b.size+1:=by show o+(a.size+b.size+1)=_;omega
  rw[e];rfl
 | .mul a b,o,free,l,h,hn=>by
  have hn':o+(a.size+b.size+1)<n:=hn;have hp:=Xp a;have hq:=Xp b;show Xk W n o free (nL (a.flat o++b.flat (o+a.size)++[⟨8,[],[o+a.size-1,o+a.size+b.size-1]⟩])++l)=_;rw[Vg,Vg,List.append_assoc,List.append_assoc,Zi hW n a o free _ h.1 (by omega),Zi hW n b _ _ _ h.2 (by omega)];have:=Zn (W:=W) (n:=n) (i:=o+a.size+b.size) (free:=free++[o+a.size-1]++[o+a.size+b.size-1]) (fr:=free) (x:=Node.toI ⟨8,[],[o+a.size-1,o+a.size+b.size-1]⟩) (ks:=[o+a.size-1,o+a.size+b.size-1]) (l:=l) (by simp) rfl rfl ((hW.none 8 _ (by simp)).2 rfl) (by show false=_;simp;omega);refine this.trans ?_
  have e:o+(Ex.mul a b).size=o+a.size+b.size+1:=by show o+(a.size+b.size+1)=_;omega
  rw[e];rfl
 | .call x ks,o,free,l,h,hn=>by
  have hn':o+(ks.size+1)<n:=hn;show Xk W n o free (nL (ks.flat o++[⟨10,x,ks.roots o⟩])++l)=_;rw[Vg,List.append_assoc,P8 hW n ks o free _ h.2.2 (by omega)]
  have hlen:cnt 10 (ks.roots o).length=true:=by
   cases ks with
   |nil=>exact absurd rfl h.2.1
   |cons a k=>simp[cnt,Exs.roots]
  have:=Zn (W:=W) (n:=n) (i:=o+ks.size) (free:=free++ks.roots o) (fr:=free) (x:=Node.toI ⟨10,x,ks.roots o⟩) (ks:=ks.roots o) (l:=l) rfl rfl hlen ((hW.call _).2 h.1) (by show false=_;simp;omega);exact this
theorem P8 {W:Int->Qx->Bool}(hW:WOk W)(n:Nat):∀(ks:Exs) (o:Nat) (free:List Nat) (l:List NI),ks.wf->o+ks.size<n->Xk W n o free (nL (ks.flat o)++l)=Xk W n (o+ks.size) (free++ks.roots o) l
 | .nil,o,free,l,_,_=>by
  show Xk W n o free ([]++l)=Xk W n (o+0) (free++[]) l
  rw[List.append_nil];rfl
 | .cons a ks,o,free,l,h,hn=>by
  have hn':o+(a.size+ks.size)<n:=hn;show Xk W n o free (nL (a.flat o++ks.flat (o+a.size))++l)=Xk W n (o+(a.size+ks.size)) (free++(o+a.size-1)::ks.roots (o+a.size)) l;rw[Vg,List.append_assoc,Zi hW n a o free _ h.1 (by omega),P8 hW n ks _ _ _ h.2 (by omega)];rw[List.append_assoc,Nat.add_assoc];rfl
end
theorem Qxm {W:Int->Qx->Bool}(hW:WOk W)(ln:Ln)(h:ln.wf):Xk W ln.size 0 [] (nL ln.flat)=true:=by
 cases ln with
 |nothing=>
  show Xk W 1 0 [] (Node.toI ⟨14,[],[]⟩::[])=true;have:=Zn (W:=W) (n:=1) (i:=0) (free:=[]) (fr:=[]) (x:=Node.toI ⟨14,[],[]⟩) (ks:=[]) (l:=[]) rfl rfl rfl ((hW.none 14 _ (by simp)).2 rfl) rfl
  exact this.trans rfl
 |lets x e=>
  have E:=Xp e;show Xk W (e.size+1) 0 [] (nL (e.flat 0++[⟨11,x,[e.size-1]⟩]))=true;rw[Vg,Zi hW _ e 0 [] _ h.2 (by omega)];have:=Zn (W:=W) (n:=e.size+1) (i:=0+e.size) (free:=[]++[0+e.size-1]) (fr:=[]) (x:=Node.toI ⟨11,x,[e.size-1]⟩) (ks:=[e.size-1]) (l:=[]) (by simp) rfl rfl ((hW.lets _).2 h.1) (by show true=_;simp)
  exact this.trans rfl
 |cmd x ks=>
  show Xk W (ks.size+1) 0 [] (nL (ks.flat 0++[⟨12,x,ks.roots 0⟩]))=true;rw[Vg,P8 hW _ ks 0 [] _ h.2.2 (by omega)];have:=Zn (W:=W) (n:=ks.size+1) (i:=0+ks.size) (free:=[]++ks.roots 0) (fr:=[]) (x:=Node.toI ⟨12,x,ks.roots 0⟩) (ks:=ks.roots 0) (l:=[]) rfl rfl rfl ((hW.cmd _).2 ⟨h.1,h.2.1⟩) (by show true=_;simp);exact this.trans rfl
end SynP
namespace SynP
open LexP
def SegN (l:List NI)(o:Nat)(ns:List Node):Prop:=∀j n,ns[j]?=some n->l[o+j]?=some n.toI
theorem SegN.app {l:List NI}{o:Nat}{a b:List Node}(h:SegN l o (a++b)):SegN l o a/\SegN l (o+a.length) b:=
 ⟨fun j n hj=>h j n (by rw[List.getElem?_append_left (List.getElem?_eq_some_iff.1 hj).1];exact hj),fun j n hj=>by
  have:=h (a.length+j) n (by rw[List.getElem?_append_right (by omega)];simpa using hj)
  rwa [<-Nat.add_assoc]at this⟩
theorem SegN.one {l:List NI}{o:Nat}{n:Node}(h:SegN l o [n]):l[o]?=some n.toI:=by simpa using h 0 n rfl
theorem SegN.all (ns:List Node):SegN (nL ns) 0 ns:=fun j n hj=>by simp[nL,hj]
def exL:Exs->List Ex
 | .nil=>[]
 | .cons a l=>a::exL l
def Mj (i:Nat)(e:Ex):Qx:=(if 0<i then [44,32] else [])++e.pr
def Qjg (l:List Ex)(j:Nat):Qx:=
 match l[j]? with
 |some e=>Mj j e
 |none=>[]
def V8 (l:List Ex)(i:Nat):Qx:=(List.range i).flatMap (Qjg l)
theorem Qzp (l:List Ex):V8 l 0=[]:=rfl
theorem Ti {l:List Ex}{i:Nat}{e:Ex}(h:l[i]?=some e):V8 l (i+1)=V8 l i++Mj i e:=by
 unfold V8;rw[List.range_succ,List.flatMap_append];simp[Qjg,h]
theorem Gl:∀(ks:Exs) (p:List Ex),p≠[]->V8 (p++exL ks) (p.length+(exL ks).length)=V8 (p++exL ks) p.length++ks.prTail
 | .nil,p,_=>by simp[exL,Exs.prTail]
 | .cons a ks,p,hp=>by
  have h1:=Gl ks (p++[a]) (by simp)
  have e1:(p++[a])++exL ks=p++exL (.cons a ks):=by simp[exL]
  have e2:(p++[a]).length+(exL ks).length=p.length+(exL (.cons a ks)).length:=by simp[exL];omega
  rw[e1,e2]at h1;rw[h1]
  have h:(p++exL (.cons a ks))[p.length]?=some a:=by simp[exL]
  have E:(p++[a]).length=p.length+1:=by simp
  rw[E,Ti h];have H:0<p.length:=List.length_pos_iff.2 hp;show _=_++([44,32]++a.pr++ks.prTail);unfold Mj;rw[if_pos H];simp
theorem Ec (ks:Exs):V8 (exL ks) (exL ks).length=ks.pr:=by
 cases ks with
 |nil=>rfl
 |cons a ks=>
  have h:=Gl ks [a] (by simp);have e1:[a]++exL ks=exL (.cons a ks):=rfl
  have e2:([a]:List Ex).length+(exL ks).length=(exL (.cons a ks)).length:=by simp[exL];omega
  rw[e1,e2]at h;rw[h];show V8 (exL (.cons a ks)) (0+1)++_=_;rw[Ti (e:=a) rfl];rfl
def dpU (l:List Ex)(i:Nat):Nat:=((l.take i).map Ex.dp).foldl max 0
theorem Qwh (l:List Ex):dpU l 0=0:=by simp[dpU]
theorem Qwm {l:List Ex}{i:Nat}{e:Ex}(h:l[i]?=some e):dpU l (i+1)=max (dpU l i) e.dp:=by
 unfold dpU;rw[List.take_add_one,h];simp[List.foldl_append]
theorem Nq:∀(l:List Nat) (m:Nat),l.foldl max m=max m (l.foldl max 0)
 | [],m=>by simp
 |a::l,m=>by
  show l.foldl max (max m a)=max m (l.foldl max (max 0 a));rw[Nq l (max m a),Nq l (max 0 a)];omega
theorem Qz5:∀ks:Exs,dpU (exL ks) (exL ks).length=ks.dp
 | .nil=>rfl
 | .cons a ks=>by
  have h:=Qz5 ks;unfold dpU at h ⊢;rw[List.take_length]at h ⊢;show (exL ks|>.map Ex.dp).foldl max (max 0 a.dp)=max a.dp ks.dp;rw[Nq,h];omega
theorem Sa:∀(ks:Exs) (o:Nat),(ks.roots o).length=(exL ks).length
 | .nil,_=>rfl
 | .cons a ks,o=>by show (ks.roots _).length+1=(exL ks).length+1;rw[Sa ks]
mutual
theorem Yj:∀(e:Ex) (o:Nat),(e.flat o).length=e.size
 | .num _,_| .name _,_| .mat _,_| .cpx _,_=>rfl
 | .neg a,o| .turn a,o| .pow a _,o=>by simp[Ex.flat,Ex.size,Yj a]
 | .add a b,o| .sub a b,o| .mul a b,o=>by simp[Ex.flat,Ex.size,Yj a,Yj b];omega
 | .call _ l,o=>by simp[Ex.flat,Ex.size,Ul l]
theorem Ul:∀(l:Exs) (o:Nat),(l.flat o).length=l.size
 | .nil,_=>rfl
 | .cons a l,o=>by simp[Exs.flat,Exs.size,Yj a,Ul l]
end
theorem Qwa {l:List NI}:∀(ks:Exs) (o i:Nat) (e:Ex),(exL ks)[i]?=some e-> ∃p,(ks.roots o)[i]?=some (p+e.size-1)/\(SegN l o (ks.flat o)->SegN l p (e.flat p))/\p+e.size<=o+ks.size/\o<=p
 | .nil,_,_,_,h=>by simp[exL]at h
 | .cons a ks,o,0,e,h=>by
  have e1:a=e:=by simpa [exL] using h
  subst e1;refine⟨o,rfl,fun hs=>(SegN.app (b:=ks.flat (o+a.size)) hs).1,?_,Nat.le_refl _⟩;show o+a.size<=o+(a.size+ks.size)
  omega
 | .cons a ks,o,i+1,e,h=>by
  obtain⟨p,E,H,I,J⟩:=Qwa (l:=l) ks (o+a.size) i e (by simpa [exL] using h);refine⟨p,E,fun hs=>H ?_,?_,by omega⟩
  ·have:=(SegN.app (b:=ks.flat (o+a.size)) hs).2
   rw[Yj]at this;exact this
  ·show p+e.size<=o+(a.size+ks.size)
   omega
mutual
theorem Sp:∀e:Ex,e.dp<=e.size
 | .num _| .name _| .mat _| .cpx _=>Nat.zero_le _
 | .neg a=>by have:=Sp a;simp only[Ex.dp,Ex.size,parD];split<;>omega
 | .turn a=>by have:=Sp a;simp only[Ex.dp,Ex.size,parD];split<;>omega
 | .pow a _=>by have:=Sp a;simp only[Ex.dp,Ex.size,parD];split<;>omega
 | .add a b=>by have:=Sp a;have:=Sp b;simp only[Ex.dp,Ex.size,parD];split<;>split<;>omega
 | .sub a b=>by have:=Sp a;have:=Sp b;simp only[Ex.dp,Ex.size,parD];split<;>split<;>omega
 | .mul a b=>by have:=Sp a;have:=Sp b;simp only[Ex.dp,Ex.size,parD];split<;>split<;>omega
 | .call _ l=>by have:=Qxx l;simp only[Ex.dp,Ex.size];omega
theorem Qxx:∀l:Exs,l.dp<=l.size
 | .nil=>Nat.zero_le _
 | .cons a l=>by have:=Sp a;have:=Qxx l;simp only[Exs.dp,Exs.size];omega
end
end SynP
