/- Joined texts of this claim's proof: LexPure, LexMem, Num1. -/
import Derived.Lib.IndexMore
import Derived.WalkKit
import Derived.WalkSpells
import Derived.WalkSmall
import Derived.WalkLawsBesides
import Derived.Lib.OthersKept
import Derived.Lib.Hide
import Derived.Test.YtgfmiladfeoldaaGreatDoorPk1
import Derived.Test.YtgfmiladfeoldaaGreatDoorChecked
import Derived.Handy
import Derived.BigQuiet
import Derived.Deep.QuietTactic
import Derived.Below
import Derived.Laws.CopyOwn
import Derived.Laws.OwnMore
import Derived.Deep.OwnRows
set_option linter.unusedSimpArgs false
set_option linter.unusedVariables false
set_option maxRecDepth 100000
set_option maxHeartbeats 16000000
namespace LexP
abbrev Qx:=List UInt8
abbrev C:=Option Nat×Qx
abbrev Tok:=Nat×Qx×Nat
def Vh (v:Nat):Bool:=v<0xD800||(0xE000<=v && v<=0x10FFFF)
def Xo (b:UInt8):Bool:=b.toNat / 64==2
def dec:Qx->Option (Nat×Nat)
 | []=>none
 |b::t=>
  if b.toNat<0x80 then some (b.toNat,1)
  else if b.toNat / 32=6 then
   match t with
   |c::_=>if Xo c && 0x80<=(b.toNat % 32)*64+c.toNat % 64 then some ((b.toNat % 32)*64+c.toNat % 64,2) else none
   |_=>none
  else if b.toNat / 16=14 then
   match t with
   |c::d::_=>
    if Xo c && Xo d && 0x800<=(b.toNat % 16)*4096+(c.toNat % 64)*64+d.toNat % 64 && Vh ((b.toNat % 16)*4096+(c.toNat % 64)*64+d.toNat % 64)
    then some ((b.toNat % 16)*4096+(c.toNat % 64)*64+d.toNat % 64,3) else none
   |_=>none
  else if b.toNat / 8=30 then
   match t with
   |c::d::f::_=>
    if Xo c && Xo d && Xo f && 0x10000<=(b.toNat % 8)*262144+(c.toNat % 64)*4096+(d.toNat % 64)*64+f.toNat % 64 && Vh ((b.toNat % 8)*262144+(c.toNat % 64)*4096+(d.toNat % 64)*64+f.toNat % 64)
    then some ((b.toNat % 8)*262144+(c.toNat % 64)*4096+(d.toNat % 64)*64+f.toNat % 64,4) else none
   |_=>none
  else none
theorem Uo {l:Qx}{v n:Nat}(h:dec l=some (v,n)):1<=n/\n<=l.length/\n<=4:=by
 unfold dec at h;split at h
 ·cases h
 ·rename_i b t
  split at h
  ·cases h;simp
  split at h
  ·split at h
   ·split at h<;>simp at h;obtain⟨_,rfl⟩:=h;simp
   ·cases h
  split at h
  ·split at h
   ·split at h<;>simp at h;obtain⟨_,rfl⟩:=h;simp
   ·cases h
  split at h
  ·split at h
   ·split at h<;>simp at h;obtain⟨_,rfl⟩:=h;simp
   ·cases h
  ·cases h
theorem Qxt {l:Qx}{v n:Nat}(h:dec l=some (v,n)):v<=0x10FFFF:=by
 unfold dec at h;split at h
 ·cases h
 ·rename_i b t
  split at h
  ·cases h;omega
  split at h
  ·split at h
   ·split at h<;>simp at h;omega
   ·cases h
  split at h
  ·split at h
   ·split at h<;>simp at h;omega
   ·cases h
  split at h
  ·split at h
   ·split at h
    ·rename_i E
     simp only[Bool.and_eq_true,Vh,Bool.or_eq_true,decide_eq_true_eq]at E;simp at h;omega
    ·cases h
   ·cases h
  ·cases h
def chop:Nat->Qx->List C
 |0,_=>[]
 |_,[]=>[]
 |n+1,b::t=>
  match dec (b::t) with
  |some (v,k)=>(some v,(b::t).take k)::chop n ((b::t).drop k)
  |none=>(none,[b])::chop n t
def Qz (l:Qx):List C:=chop l.length l
theorem Qz6:∀(n:Nat) (l:Qx),l.length<=n->chop n l=chop l.length l:=by
 intro n
 induction n using Nat.strongRecOn with
 |ind n ih=>
  intro l E
  cases l with
  |nil=>cases n<;>rfl
  |cons b t=>
   cases n with
   |zero=>simp at E
   |succ n=>
    simp only[List.length_cons,chop];simp only[List.length_cons]at E
    cases hd:dec (b::t) with
    |none=>
     simp only
     rw[ih n (by omega) t (by omega)]
    |some p=>
     obtain⟨v,k⟩:=p;simp only;have H:=Uo hd
     have h:((b::t).drop k).length=t.length+1-k:=by simp
     rw[ih n (by omega) _ (by rw[h];omega)];by_cases hnt:t.length=n
     ·rw[hnt,ih n (by omega) _ (by rw[h];omega)]
     ·rw[ih t.length (by omega) _ (by rw[h];omega)]
theorem Wx:Qz []=[]:=rfl
theorem Qqf {l:Qx}{v k:Nat}(h:dec l=some (v,k)):Qz l=(some v,l.take k)::Qz (l.drop k):=by
 cases l with
 |nil=>cases h
 |cons b t=>
  have E:=Uo h;unfold Qz;simp only[List.length_cons,chop,h];rw[Qz6 t.length _ (by simp;omega)]
theorem Qqc {b:UInt8}{t:Qx}(h:dec (b::t)=none):Qz (b::t)=(none,[b])::Qz t:=by
 unfold Qz;simp only[List.length_cons,chop,h]
def wid (l:Qx):Nat:=match dec l with|some (_,k)=>k|none=>1
def val (l:Qx):Option Nat:=(dec l).map (·.1)
theorem Db (l:Qx):1<=wid l:=by
 unfold wid
 cases h:dec l with
 |none=>simp
 |some p=>obtain⟨v,k⟩:=p;have:=Uo h;simp;omega
theorem P4 {l:Qx}(hl:l≠[]):wid l<=l.length:=by
 unfold wid
 cases h:dec l with
 |none=>cases l with|nil=>exact absurd rfl hl|cons b t=>simp
 |some p=>obtain⟨v,k⟩:=p;have:=Uo h;simp;omega
theorem Zj {l:Qx}(hl:l≠[]):Qz l=(val l,l.take (wid l))::Qz (l.drop (wid l)):=by
 cases h:dec l with
 |none=>
  cases l with
  |nil=>exact absurd rfl hl
  |cons b t=>rw[Qqc h];simp[val,wid,h]
 |some p=>obtain⟨v,k⟩:=p;rw[Qqf h];simp[val,wid,h]
theorem Ul {P:Qx->Prop}(h0:P [])(h1:∀l,l≠[]->P (l.drop (wid l))->P l):∀l,P l:=by
 intro l
 have:∀n (l:Qx),l.length<=n->P l:=by
  intro n
  induction n with
  |zero=>intro l h;cases l with|nil=>exact h0|cons _ _=>simp at h
  |succ n ih=>
   intro l h;by_cases he:l=[]
   ·rw[he];exact h0
   ·refine h1 l he (ih _ ?_)
    have:=Db l;have:=P4 he;simp only[List.length_drop];omega
 exact this _ l (Nat.le_refl _)
theorem Yq:∀l:Qx,(Qz l).length<=l.length:=by
 apply Ul
 ·simp[Wx]
 ·intro l h ih
  rw[Zj h];have:=Db l;have:=P4 h;simp only[List.length_cons,List.length_drop]at ih ⊢;omega
def Qk (cs:List C):Qx:=cs.flatMap (·.2)
theorem Y1:∀l:Qx,Qk (Qz l)=l:=by
 apply Ul
 ·rfl
 ·intro l h ih
  rw[Zj h];simp only[Qk,List.flatMap_cons]at ih ⊢;rw[ih,List.take_append_drop]
theorem Kw:∀(k:Nat) (l:Qx),(Qz l).drop k=Qz (l.drop (Qk ((Qz l).take k)).length):=by
 intro k
 induction k with
 |zero=>intro l;simp[Qk]
 |succ k ih=>
  intro l;by_cases hl:l=[]
  ·subst hl;simp[Wx,Qk]
  ·have h:=Zj hl
   rw[h];simp only[List.drop_succ_cons,List.take_succ_cons,Qk,List.flatMap_cons,List.length_append]
   have E:(l.take (wid l)).length=wid l:=by have:=P4 hl;simp;omega
   rw[E,ih,List.drop_drop];simp only[Qk]
def kindOf (r:Nat):Nat:=
 if r=32\/r=9\/r=0xa0 then 1
 else if r=35 then 2
 else if 48<=r/\r<=57 then 3
 else if (97<=r/\r<=122)\/(65<=r/\r<=90)\/r=95 then 4
 else if r=0x2212\/r=0xd7 then 5
 else if (0xc0<=r/\r<=0x2af/\r≠0xf7)\/(0x370<=r/\r<=0x3ff) then 4
 else if r<0x80/\(r.toUInt8∈([43,45,42,94,39,40,41,91,93,123,125,44,59,58,61]:Qx)) then 5
 else 6
def kd (c:C):Nat:=match c.1 with|some v=>kindOf v|none=>0
def rn (c:C):Nat:=match c.1 with|some v=>v|none=>0xFFFD
theorem Tq (r:Nat):1<=kindOf r/\kindOf r<=6:=by
 unfold kindOf;repeat' split
 all_goals omega
def Qd (c:C):Bool:=kd c==3||rn c==95
def isAl (c:C):Bool:=kd c==3||kd c==4
def Qe (c:C):Bool:=kd c !=0
def Ju (t:Qx):Bool:=Go.Lib.hasSuffix t [95]||Go.Lib.contains t [95,95]
def Z1 (c:C):Qx:=if rn c=0x2212 then [45] else if rn c=0xd7 then [42] else c.2
def Qp (p:C->Bool)(cs:List C):Nat:=(cs.takeWhile p).length
abbrev Res:=Except (Nat×Nat) (List Tok)
def Res.after (a:List Tok):Res->Res
 | .ok l=> .ok (a++l)
 | .error e=> .error e
def toks:Nat->Nat->List C->Res
 |0,_,_=> .ok []
 |_,_,[]=> .ok []
 |n+1,col,c::cs=>
  if kd c=1 then toks n (col+1) cs
  else if kd c=2 then
   if Qp Qe (c::cs)<(c::cs).length then .error (col+Qp Qe (c::cs),12) else .ok []
  else if kd c=0 then .error (col,12)
  else if kd c=3 then
   if Ju (Qk ((c::cs).take (Qp Qd (c::cs)))) then .error (col,7)
   else (toks n (col+Qp Qd (c::cs)) ((c::cs).drop (Qp Qd (c::cs)))).after [(1,Qk ((c::cs).take (Qp Qd (c::cs))),col)]
  else if kd c=4 then
   if 32<(Qk ((c::cs).take (Qp isAl (c::cs)))).length then .error (col,17)
   else (toks n (col+Qp isAl (c::cs)) ((c::cs).drop (Qp isAl (c::cs)))).after [(2,Qk ((c::cs).take (Qp isAl (c::cs))),col)]
  else if kd c=5 then (toks n (col+1) cs).after [(3,Z1 c,col)]
  else .error (col,13)
theorem Res.after_after (a b:List Tok)(r:Res):(r.after b).after a=r.after (a++b):=by
 cases r<;>simp[Res.after]
theorem Res.after_nil (r:Res):r.after []=r:=by cases r<;>simp[Res.after]
theorem Y7 (p:C->Bool)(cs:List C):Qp p cs<=cs.length:=by
 unfold Qp
 induction cs with
 |nil=>simp
 |cons c cs ih=>simp only[List.takeWhile_cons];split<;>simp;exact ih
theorem Xy {p:C->Bool}{c:C}{cs:List C}(h:p c=true):1<=Qp p (c::cs):=by
 simp[Qp,h]
theorem Qjl:∀(n:Nat) (col:Nat) (cs:List C),cs.length<=n->toks n col cs=toks cs.length col cs:=by
 intro n
 induction n using Nat.strongRecOn with
 |ind n ih=>
  intro col cs I
  cases cs with
  |nil=>cases n<;>rfl
  |cons c cs=>
   cases n with
   |zero=>simp at I
   |succ n=>
    simp only[List.length_cons]at I
    have h:∀(m col:Nat) (r:List C),n<=m\/cs.length<=m->r.length<=cs.length->m<=n->toks m col r=toks r.length col r:=by
     intro m col r K H J;exact ih m (by omega) col r (by omega)
    have e:∀(col:Nat) (r:List C),r.length<=cs.length->toks n col r=toks cs.length col r:=by
     intro col r H;rw[h n col r (.inl (Nat.le_refl _)) H (Nat.le_refl _),h cs.length col r (.inr (Nat.le_refl _)) H (by omega)]
    have d1:kd c=3->((c::cs).drop (Qp Qd (c::cs))).length<=cs.length:=by
     intro E;have:=Xy (p:=Qd) (c:=c) (cs:=cs) (by simp[Qd,E]);simp only[List.length_drop,List.length_cons];omega
    have d2:kd c=4->((c::cs).drop (Qp isAl (c::cs))).length<=cs.length:=by
     intro E;have:=Xy (p:=isAl) (c:=c) (cs:=cs) (by simp[isAl,E]);simp only[List.length_drop,List.length_cons];omega
    simp only[toks,List.length_cons];by_cases k1:kd c=1
    ·rw[if_pos k1,if_pos k1,e _ _ (Nat.le_refl _)]
    ·rw[if_neg k1,if_neg k1]
     by_cases k2:kd c=2
     ·rw[if_pos k2,if_pos k2]
     ·rw[if_neg k2,if_neg k2]
      by_cases k0:kd c=0
      ·rw[if_pos k0,if_pos k0]
      ·rw[if_neg k0,if_neg k0]
       by_cases k3:kd c=3
       ·rw[if_pos k3,if_pos k3,e _ _ (d1 k3)]
       ·rw[if_neg k3,if_neg k3]
        by_cases k4:kd c=4
        ·rw[if_pos k4,if_pos k4,e _ _ (d2 k4)]
        ·rw[if_neg k4,if_neg k4,e _ _ (Nat.le_refl _)]
def Toks (col:Nat)(cs:List C):Res:=toks cs.length col cs
theorem Zu (col:Nat):Toks col []=.ok []:=rfl
theorem Gb (n col:Nat)(cs:List C)(h:cs.length<=n):toks n col cs=Toks col cs:=Qjl n col cs h
theorem Z9 {c:C}{cs:List C}(col:Nat)(h:kd c=1):Toks col (c::cs)=Toks (col+1) cs:=by
 simp only[Toks,List.length_cons,toks];rw[if_pos h]
theorem J6 {c:C}{cs:List C}(col:Nat)(h:kd c=2):
  Toks col (c::cs)=if Qp Qe (c::cs)<(c::cs).length then .error (col+Qp Qe (c::cs),12) else .ok []:=by
 simp only[Toks,List.length_cons,toks,h];simp
theorem Wl {c:C}{cs:List C}(col:Nat)(h:kd c=0):Toks col (c::cs)=.error (col,12):=by
 simp only[Toks,List.length_cons,toks,h];simp
theorem Wu {c:C}{cs:List C}(col:Nat)(h:kd c=3):
  Toks col (c::cs)=if Ju (Qk ((c::cs).take (Qp Qd (c::cs)))) then .error (col,7)
   else (Toks (col+Qp Qd (c::cs)) ((c::cs).drop (Qp Qd (c::cs)))).after [(1,Qk ((c::cs).take (Qp Qd (c::cs))),col)]:=by
 have E:=Xy (p:=Qd) (c:=c) (cs:=cs) (by simp[Qd,h]);rw[<-Gb cs.length _ ((c::cs).drop _) (by simp only[List.length_drop,List.length_cons];omega)];simp only[Toks,List.length_cons,toks,h];simp
theorem J3 {c:C}{cs:List C}(col:Nat)(h:kd c=4):
  Toks col (c::cs)=if 32<(Qk ((c::cs).take (Qp isAl (c::cs)))).length then .error (col,17)
   else (Toks (col+Qp isAl (c::cs)) ((c::cs).drop (Qp isAl (c::cs)))).after [(2,Qk ((c::cs).take (Qp isAl (c::cs))),col)]:=by
 have E:=Xy (p:=isAl) (c:=c) (cs:=cs) (by simp[isAl,h]);rw[<-Gb cs.length _ ((c::cs).drop _) (by simp only[List.length_drop,List.length_cons];omega)];simp only[Toks,List.length_cons,toks,h];simp
theorem J5 {c:C}{cs:List C}(col:Nat)(h:kd c=5):Toks col (c::cs)=(Toks (col+1) cs).after [(3,Z1 c,col)]:=by
 simp only[Toks,List.length_cons,toks,h];simp
theorem Jk {c:C}{cs:List C}(col:Nat)(h:kd c=6):Toks col (c::cs)=.error (col,13):=by
 simp only[Toks,List.length_cons,toks,h];simp
theorem Ks (c:C):kd c<=6:=by
 unfold kd;split
 ·exact(Tq _).2
 ·omega
theorem S9 (p:C->Bool):∀(l:List C) (m:Nat),m<=l.length->(∀c∈l.take m,p c=true)->(∀c,l[m]?=some c->p c=false)->Qp p l=m:=by
 intro l
 induction l with
 |nil=>intro m h _ _;simp at h;subst h;rfl
 |cons d l ih=>
  intro m h E H
  cases m with
  |zero=>simp[Qp,H d (by simp)]
  |succ m=>
   have I:p d=true:=E d (by simp);have:=ih m (by simpa using h) (fun c hc=>E c (by simp[hc])) (fun c hc=>H c (by simpa using hc));simp only[Qp]at this;simp[Qp,I,this]
theorem Fk (l:Qx)(i j:Nat)(h:i<=j):
  (l.drop (Qk ((Qz l).take i)).length).take ((Qk ((Qz l).take j)).length-(Qk ((Qz l).take i)).length)=Qk (((Qz l).drop i).take (j-i)):=by
 have e1:Qk ((Qz l).take i)++Qk ((Qz l).drop i)=l:=by
  have:=Y1 l;simp only[Qk]at*;rw[<-List.flatMap_append,List.take_append_drop,this]
 have e2:(Qz l).take j=(Qz l).take i++((Qz l).drop i).take (j-i):=by
  have:=List.take_add (l:=Qz l) (i:=i) (j:=j-i);rw[show i+(j-i)=j from by omega]at this;exact this
 have e3:Qk ((Qz l).drop i)=Qk (((Qz l).drop i).take (j-i))++Qk (((Qz l).drop i).drop (j-i)):=by
  simp only[Qk];rw[<-List.flatMap_append,List.take_append_drop]
 have e4:l.drop (Qk ((Qz l).take i)).length=Qk ((Qz l).drop i):=by
  have E:=List.drop_left (l₁:=Qk ((Qz l).take i)) (l₂:=Qk ((Qz l).drop i));rw[e1]at E;exact E
 rw[e4,e3,e2]
 have e5:(Qk ((Qz l).take i++((Qz l).drop i).take (j-i))).length-(Qk ((Qz l).take i)).length=(Qk (((Qz l).drop i).take (j-i))).length:=by
  simp only[Qk,List.flatMap_append,List.length_append];omega
 rw[e5,List.take_left]
theorem Ve (cs:List C)(i:Nat):(Qk (cs.take i)).length<=(Qk cs).length:=by
 have:Qk (cs.take i)++Qk (cs.drop i)=Qk cs:=by simp only[Qk];rw[<-List.flatMap_append,List.take_append_drop]
 rw[<-this,List.length_append];omega
end LexP
namespace LexP
open Go Go.RowKit
def X5:Nat->List C->List Value
 |_,[]=>[]
 |p,c::cs=> .int .i64 (kd c:Nat)::.int .i32 (rn c:Nat)::.int .i64 (p:Nat)::X5 (p+c.2.length) cs
theorem Hw:∀(a b:List C) (p:Nat),X5 p (a++b)=X5 p a++X5 (p+(Qk a).length) b:=by
 intro a
 induction a with
 |nil=>intro b p;simp[X5,Qk]
 |cons c cs ih=>intro b p;simp[X5,Qk,ih,Nat.add_assoc]
theorem Sv (p:Nat)(c:C):X5 p [c]=[.int .i64 (kd c:Nat),.int .i32 (rn c:Nat),.int .i64 (p:Nat)]:=rfl
theorem Hg:∀(a:List C) (p k:Nat) (c:C),a[k]?=some c->
  (X5 p a)[k*3]?=some (.int .i64 (kd c:Nat))/\(X5 p a)[k*3+1]?=some (.int .i32 (rn c:Nat))/\
  (X5 p a)[k*3+2]?=some (.int .i64 (p+(Qk (a.take k)).length:Nat)):=by
 intro a
 induction a with
 |nil=>intro p k c h;simp at h
 |cons d cs ih=>
  intro p k c h
  cases k with
  |zero=>simp at h;subst h;simp[X5,Qk]
  |succ k=>
   simp only[List.getElem?_cons_succ]at h;obtain⟨E,I,H⟩:=ih (p+d.2.length) k c h
   have e0:(k+1)*3=k*3+1+1+1:=by omega
   have e1:(k+1)*3+1=k*3+1+1+1+1:=by omega
   have e2:(k+1)*3+2=k*3+2+1+1+1:=by omega
   refine⟨?_,?_,?_⟩
   ·rw[e0];simp only[X5,List.getElem?_cons_succ];exact E
   ·rw[e1];simp only[X5,List.getElem?_cons_succ];exact I
   ·rw[e2];simp only[X5,List.getElem?_cons_succ,List.take_succ_cons,Qk,List.flatMap_cons,List.length_append];rw[H];simp only[Qk,Nat.add_assoc]
def Xu (l:List Tok):List Value:=l.flatMap fun t=>[.int .i64 (t.1:Nat),.string ⟨t.2.1.toArray⟩,.int .i64 (t.2.2:Nat)]
theorem Ji (a b:List Tok):Xu (a++b)=Xu a++Xu b:=by simp[Xu]
theorem Rn:∀(a:List Tok) (k:Nat) (t:Tok),a[k]?=some t->
  (Xu a)[k*3]?=some (.int .i64 (t.1:Nat))/\(Xu a)[k*3+1]?=some (.string ⟨t.2.1.toArray⟩)/\(Xu a)[k*3+2]?=some (.int .i64 (t.2.2:Nat)):=by
 intro a
 induction a with
 |nil=>intro k t h;simp at h
 |cons d cs ih=>
  intro k t h
  cases k with
  |zero=>simp at h;subst h;simp[Xu]
  |succ k=>
   simp only[List.getElem?_cons_succ]at h;obtain⟨E,I,H⟩:=ih k t h
   have e0:(k+1)*3=k*3+1+1+1:=by omega
   have e1:(k+1)*3+1=k*3+1+1+1+1:=by omega
   have e2:(k+1)*3+2=k*3+2+1+1+1:=by omega
   have ec:Xu (d::cs)=.int .i64 (d.1:Nat)::.string ⟨d.2.1.toArray⟩::.int .i64 (d.2.2:Nat)::Xu cs:=rfl;refine⟨?_,?_,?_⟩
   ·rw[e0,ec];simp only[List.getElem?_cons_succ];exact E
   ·rw[e1,ec];simp only[List.getElem?_cons_succ];exact I
   ·rw[e2,ec];simp only[List.getElem?_cons_succ];exact H
theorem X4 {w:World}{b b':Nat}{e:TypeId}{size:Nat}{v:Value}{n:Nat}{xs:List Value}(h:w.ownsRow b e size v n xs)(hb:b'<=b):w.ownsRow b' e size v n xs:=by
 refine⟨h.1,?_⟩;rcases h.2 with K|⟨g,H,E,J,I,r⟩
 ·exact .inl K
 ·exact .inr ⟨g,H,E,J,Nat.le_trans hb I,r⟩
theorem Qh {w w':World}{b B:Nat}{e:TypeId}{size:Nat}{v:Value}{n:Nat}{xs:List Value}(h:w.ownsRow b e size v n xs)(hb:Below B w w')(hB:w.heap.size<=B):w'.ownsRow b e size v n xs:=by
 refine⟨h.1,?_⟩;rcases h.2 with O|⟨g,H,E,K,J,I,r⟩
 ·exact .inl O
 ·have T:g<w.heap.size:=(Array.getElem?_eq_some_iff.1 I).1
  exact .inr ⟨g,H,E,K,J,by rw[hb.block g (by omega)];exact I,r⟩
theorem ownsRow_open {w:World}{b:Nat}{e:TypeId}{size:Nat}{v:Value}{n:Nat}{xs:List Value}(h:w.ownsRow b e size v n xs):
  (v=.slice none 0 0/\n=0/\xs=[])\/ ∃g cap,v=.slice (some ⟨g,0,none⟩) n cap/\b<=g/\g<w.heap.size/\n<=cap/\cap<=maxLen/\ ∀j,j<n*size->w.cell? ⟨g,j,none⟩=xs[j]? :=by
 rcases h.2 with ⟨rfl,rfl⟩|⟨g,cap,K,rfl,E,J,H,I,_⟩
 ·exact .inl ⟨rfl,rfl,List.eq_nil_of_length_eq_zero (by simpa using h.1)⟩
 ·exact .inr ⟨g,cap,rfl,E,(Array.getElem?_eq_some_iff.1 J).1,H,I,fun j hj=>h.cellAt j hj⟩
theorem Qb (w:World)(cs:List Value)(t:TypeId)(n:Nat)(hn:n=w.heap.size):∀j u,cs[j]?=some u->(w.alloc (.cells cs.toArray t)).cell? ((⟨n,0,none⟩:Addr).add j)=some u:=by
 intro j u h;subst hn;rw[Addr.add_lit,World.cell?_alloc_at _ _ _ _ rfl]
 simpa using h
theorem Qj {w:World}{b:Nat}{e:TypeId}{size:Nat}{v:Value}{n:Nat}{xs:List Value}(h:w.ownsRow b e size v n xs):
  ∃ao cap,v=.slice ao n cap/\n<=cap/\cap<=maxLen/\(0<n-> ∃g,ao=some ⟨g,0,none⟩/\b<=g/\g<w.heap.size/\ ∀j,j<n*size->w.cell? ⟨g,j,none⟩=xs[j]?):=by
 rcases h.2 with ⟨rfl,rfl⟩|⟨g,cap,K,rfl,E,J,H,I,_⟩
 ·exact⟨none,0,rfl,Nat.le_refl _,Nat.zero_le _,fun h0=>absurd h0 (Nat.lt_irrefl _)⟩
 ·exact⟨_,cap,rfl,H,I,fun _=>⟨g,rfl,E,(Array.getElem?_eq_some_iff.1 J).1,fun j hj=>h.cellAt j hj⟩⟩
end LexP
namespace Go.Proofs.YtgfmiladfeoldaaGreatDoor
open Go.RowKit NatP LexP
theorem Wh {a b:Int}(h:a=b):Ending.returned (.int .i64 a)=.returned (.int .i64 b):=by rw[h]
def ws (l:List Nat):List Value:=l.map fun d=> .int .u64 (d:Nat)
theorem Ze (l:List Nat):(ws l).length=l.length:=by simp[ws]
theorem Qhp {l:List Nat}{i x:Nat}(h:l[i]?=some x):(ws l)[i]?=some (.int .u64 (x:Nat)):=by simp[ws,h]
theorem Qqi (l:List Nat):∀u∈ws l,u.oneCell'=true:=by
 intro u h;simp only[ws,List.mem_map]at h;obtain⟨d,_,rfl⟩:=h;rfl
theorem Tryz.infoW:(Tryz.prog.info? 101).map (fun i=>(i.zero,i.size,i.bytes))=some (some (.int .u64 0),1,8):=by kernel_rfl
theorem Tryz.infoW1:(Tryz.prog.info? 101).map (·.size)=some 1:=by kernel_rfl
def Rd (w:World)(v:Value)(xs:List Nat):Prop:=
 (∀k,v.ownBlock=some k->k<w.heap.size)/\ ∃ao cap,v=.slice ao xs.length cap/\xs.length<=cap/\cap<=maxLen/\ok xs/\ ∀i x,xs[i]?=some x-> ∃g o,ao=some ⟨g,o,none⟩/\w.cell? ⟨g,o+i,none⟩=some (.int .u64 (x:Nat))
theorem Rd.kept {w w':World}{v:Value}{xs:List Nat}{row:Option Nat}(h:Rd w v xs)(hg:w.grownBy w' row)(hne:∀k,row=some k->v.ownBlock≠some k):Rd w' v xs:=by
 obtain⟨T,ao,E,rfl,K,J,H,I⟩:=h;refine⟨fun k hk=>Nat.lt_of_lt_of_le (T k hk) hg.size,ao,E,rfl,K,J,H,fun i x hx=> ?_⟩;obtain⟨g,o,rfl,O⟩:=I i x hx;exact⟨g,o,rfl,hg.cell O (fun e=>hne g e.symm rfl)⟩
theorem Rd.below {w w':World}{v:Value}{xs:List Nat}(h:Rd w v xs)(hb:Below w.heap.size w w'):Rd w' v xs:=
 h.kept (row:=none) ⟨hb.os,hb.tape,hb.output,hb.size,fun k hk _=>hb.block k hk⟩ (fun k hk=>by cases hk)
theorem Rd.drewN {w:World}{v:Value}{xs:List Nat}(h:Rd w v xs)(n:Nat):Rd (w.drewN n) v xs:=
 h.below ⟨rfl,rfl,rfl,Nat.le_refl _,fun _ _=>rfl⟩
theorem Rd.alloc {w:World}{v:Value}{xs:List Nat}(h:Rd w v xs)(o:Obj):Rd (w.alloc o) v xs:=
 h.below ((Below.refl _ _).alloc (Nat.le_refl _) o)
theorem Rd.nil (w:World):Rd w (.slice none 0 0) []:=⟨fun k hk=>(by cases hk),none,0,rfl,Nat.le_refl _,Nat.zero_le _,H7,fun i x h=>by simp at h⟩
theorem Rd.take {w:World}{ao:Option Addr}{len cap n c:Nat}{xs:List Nat}(h:Rd w (.slice ao len cap) xs)(hn:n<=xs.length)(hc:n<=c)(hm:c<=cap):Rd w (.slice ao n c) (xs.take n):=by
 obtain⟨I,ao',cap',e,K,J,E,H⟩:=h;simp only[Value.slice.injEq]at e;obtain⟨rfl,rfl,rfl⟩:=e
 refine⟨fun k hk=>I k (by cases ao<;>first|exact hk|cases hk),ao,c,by rw[List.length_take,Nat.min_eq_left hn],by rw[List.length_take];omega,by omega,Zb E _,fun i x hx=> ?_⟩
 rw[List.getElem?_take]at hx;split at hx
 ·exact H i x hx
 ·cases hx
theorem Rd.lt {w:World}{v:Value}{xs:List Nat}(h:Rd w v xs){k:Nat}(hk:v.ownBlock=some k):k<w.heap.size:=h.1 k hk
theorem Rd.ne {w:World}{v:Value}{xs:List Nat}(h:Rd w v xs){g:Nat}(hg:w.heap.size<=g):v.ownBlock≠some g:=fun e=>by have:=h.1 g e;omega
def Blk (w:World)(g:Nat)(L:List Nat):Prop:=w.heap[g]?=some (.cells (ws L).toArray 101 (0,0))/\ok L
theorem Blk.lt {w:World}{g:Nat}{L:List Nat}(h:Blk w g L):g<w.heap.size:=(Array.getElem?_eq_some_iff.1 h.1).1
theorem Blk.cell {w:World}{g:Nat}{L:List Nat}(h:Blk w g L){i x:Nat}(hx:L[i]?=some x):w.cell? ⟨g,i,none⟩=some (.int .u64 (x:Nat)):=by
 rw[cell_of_row w g i _ _ _ h.1];simp[ws,hx]
theorem Blk.frozen {w:World}{g:Nat}{L:List Nat}(h:Blk w g L)(i:Nat):w.frozen? ⟨g,i,none⟩=false:=frozen_of_row w g i _ _ h.1
theorem Blk.set {w:World}{g:Nat}{L:List Nat}(h:Blk w g L)(i:Nat){x:Nat}(hx:x<BB):Blk (w.setCell ⟨g,i,none⟩ (.int .u64 (x:Nat))) g (L.set i x)/\w.grownBy (w.setCell ⟨g,i,none⟩ (.int .u64 (x:Nat))) (some g):=by
 refine⟨⟨?_,Qm1 h.2 i hx⟩,⟨rfl,rfl,rfl,by simp,fun k _ hk=>heap_setCell_other w ⟨g,i,none⟩ k _ (fun e=>hk (by simp[e]))⟩⟩;have:=heap_setCell_same w g i (ws L).toArray 101 (.int .u64 (x:Nat)) h.1;rw[this];simp[ws,List.map_set]
theorem Blk.kept {w w':World}{g:Nat}{L:List Nat}{row:Option Nat}(h:Blk w g L)(hg:w.grownBy w' row)(hne:row≠some g):Blk w' g L:=
 ⟨(hg.block g h.lt (fun e=>hne e.symm)).trans h.1,h.2⟩
theorem Blk.below {w w':World}{g B:Nat}{L:List Nat}(h:Blk w g L)(hb:Below B w w')(hB:g<B):Blk w' g L:=⟨(hb.block g hB).trans h.1,h.2⟩
theorem Blk.rd {w:World}{g:Nat}{L:List Nat}(h:Blk w g L){o n c:Nat}(ho:o+n<=L.length)(hnc:n<=c)(hc:c<=maxLen):Rd w (.slice (some ⟨g,o,none⟩) n c) ((L.drop o).take n):=by
 refine⟨fun k hk=>by cases hk;exact h.lt,_,c,by rw[List.length_take,List.length_drop,Nat.min_eq_left (by omega)],by rw[List.length_take];omega,hc,Zb (Vs h.2 _) _,fun i x hx=>⟨g,o,rfl,h.cell ?_⟩⟩;rw[List.getElem?_take]at hx;split at hx
 ·rw[List.getElem?_drop]at hx;exact hx
 ·cases hx
theorem Blk.made (w:World)(n:Nat):Blk (w.alloc (.cells (madeCells #[.int .u64 0] n) 101)) w.heap.size (List.replicate n 0):=by
 refine⟨?_,Px n⟩
 have h:(w.alloc (.cells (madeCells #[.int .u64 0] n) 101)).heap[w.heap.size]?=some (.cells (madeCells #[.int .u64 0] n) 101 (0,0)):=by first|exact heap_alloc_new w _
 rw[h];have H:=toList_madeCells_one (.int .u64 0) n
 have E:madeCells #[Value.int .u64 0] n=(ws (List.replicate n 0)).toArray:=by
  apply Array.toList_inj.1;rw[H];simp[ws]
 rw[E]
def Fr (B:Nat)(w:World)(v:Value)(xs:List Nat):Prop:=Rd w v xs/\ ∀k,v.ownBlock=some k->B<=k/\k<w.heap.size
theorem Fr.below {B:Nat}{w w':World}{v:Value}{xs:List Nat}(h:Fr B w v xs)(hb:Below w.heap.size w w'):Fr B w' v xs:=⟨h.1.below hb,fun k hk=>⟨(h.2 k hk).1,Nat.lt_of_lt_of_le (h.2 k hk).2 hb.size⟩⟩
theorem Fr.mono {B B':Nat}{w:World}{v:Value}{xs:List Nat}(h:Fr B w v xs)(hb:B'<=B):Fr B' w v xs:=⟨h.1,fun k hk=>⟨Nat.le_trans hb (h.2 k hk).1,(h.2 k hk).2⟩⟩
def Me (xs:List Nat)(w:World)(e:Ending)(w':World):Prop:=∃v,e=.returned v/\Fr w.heap.size w' v xs/\Below w.heap.size w w'
theorem X8 (v:Value)(xs:List Nat)(w:World)(hr:Rd w v xs):
  Calls Tryz.prog 115 #[v] w fun e w'=>e=.returned (.int .i64 ((Qw xs).length:Nat))/\w=w':=by
 obtain⟨ao,cap,rfl,hnc,hcm,hok,hsh⟩:=hr.2;have HS:=zq hsh
 have hm:xs.length<=9223372036854775807:=by unfold maxLen at hcm;omega
 clear hsh hcm hok;go_enter Tryz.func115,Tryz.ntmps115;go_wp2_with fail;go_loop [3] (fun i=> ∃n:Nat,n<=xs.length/\i=.int .i64 (n:Nat)/\Qw (xs.take n)=Qw xs) (fun i=>(intOf i).toNat)
 case atStart=>exact⟨xs.length,Nat.le_refl _,rfl,by rw[List.take_length]⟩
 case round=>
  obtain⟨n,hn,rfl,hst⟩:=hrel;have HST:=zq hst;clear hst
  cases n with
  |zero=>
   have HE:=zq (Tx hn HST.o (.inl rfl));go_wp2_with fail;go_ret
   exact⟨Wh (by rw[HE.o];rfl),rfl⟩
  |succ m=>
   obtain⟨x,hx⟩:∃x,xs[m]?=some x:=⟨_,List.getElem?_eq_getElem (by omega)⟩;obtain⟨g,o,rfl,e1⟩:=HS.o m x hx;have HX:=zq hx;clear hx;by_cases h0:x=0
   ·have h1:((x:Int)==0)=true:=by simp[h0]
    have HN:Hid (Qw (xs.take m)=Qw xs):=by
     rcases strip_step hn HST.o (fun m' e=>by cases e;rw[HX.o,h0]) with h|h
     ·cases h
     ·exact h
    clear h0;go_wp2_with fail;go_round
    case rel=>exact⟨m,by omega,by first|rfl|go_num,HN.o⟩
    case measure=>simp[intOf]<;>omega
   ·have h1:((x:Int)==0)=false:=by simp[h0]
    have HE:=zq (Tx hn HST.o (.inr ⟨m,x,rfl,HX.o,h0⟩));clear h0;go_wp2_with fail;go_ret
    exact⟨Wh (by rw[HE.o]<;>first|rfl|omega),rfl⟩
theorem Uf (ao:Option Addr)(cap:Nat)(xs:List Nat)(w:World)(hr:Rd w (.slice ao xs.length cap) xs):
  Calls Tryz.prog 273 #[.slice ao xs.length cap] w fun e w'=>e=.returned (.slice ao (Qw xs).length (Qw xs).length)/\w=w':=by
 obtain⟨ao,cap,e,hnc,hcm,hok,hsh⟩:=hr.2;simp only[Value.slice.injEq]at e;obtain⟨rfl,-,rfl⟩:=e;have HS:=zq hsh
 have hm:cap<=9223372036854775807:=by unfold maxLen at hcm;omega
 clear hsh hcm hok;go_enter Tryz.func273,Tryz.ntmps273;go_wp2_with fail;go_loop [3] (fun i=> ∃n:Nat,n<=xs.length/\i=.int .i64 (n:Nat)/\Qw (xs.take n)=Qw xs) (fun i=>(intOf i).toNat)
 case atStart=>exact⟨xs.length,Nat.le_refl _,rfl,by rw[List.take_length]⟩
 case round=>
  obtain⟨n,hn,rfl,hst⟩:=hrel;have HST:=zq hst;clear hst
  cases n with
  |zero=>
   have HE:=zq (Tx hn HST.o (.inl rfl));go_wp2_with fail;go_ret
   exact⟨by first|(rw[HE.o];done)|(rw[HE.o];rfl),rfl⟩
  |succ m=>
   obtain⟨x,hx⟩:∃x,xs[m]?=some x:=⟨_,List.getElem?_eq_getElem (by omega)⟩;obtain⟨g,o,rfl,e1⟩:=HS.o m x hx;have HX:=zq hx;clear hx;by_cases h0:x=0
   ·have h1:((x:Int)==0)=true:=by simp[h0]
    have HN:Hid (Qw (xs.take m)=Qw xs):=by
     rcases strip_step hn HST.o (fun m' e=>by cases e;rw[HX.o,h0]) with h|h
     ·cases h
     ·exact h
    clear h0;go_wp2_with fail;go_round
    case rel=>exact⟨m,by omega,by first|rfl|go_num,HN.o⟩
    case measure=>simp[intOf]<;>omega
   ·have h1:((x:Int)==0)=false:=by simp[h0]
    have HE:=zq (Tx hn HST.o (.inr ⟨m,x,rfl,HX.o,h0⟩));clear h0;go_wp2_with fail;go_ret;exact⟨by first|(rw[HE.o];done)|(rw[HE.o];rfl),rfl⟩
theorem Pe {ao:Option Addr}{cap:Nat}{xs:List Nat}{w:World}(hr:Rd w (.slice ao xs.length cap) xs):Rd w (.slice ao (Qw xs).length (Qw xs).length) (Qw xs):=by
 have h:=X9 xs;have H:=hr;obtain⟨ao',cap',e,E,-,-,-⟩:=H.2;simp only[Value.slice.injEq]at e;obtain⟨rfl,-,rfl⟩:=e;have:=hr.take (n:=(Qw xs).length) (c:=(Qw xs).length) h.2 (Nat.le_refl _) (Nat.le_trans h.2 E);rw[<-h.1]at this;exact this
end Go.Proofs.YtgfmiladfeoldaaGreatDoor
