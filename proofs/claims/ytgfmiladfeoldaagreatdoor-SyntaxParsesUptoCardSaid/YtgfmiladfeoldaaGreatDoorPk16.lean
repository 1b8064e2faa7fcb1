/- Joined texts of this claim's proof: SynP, ZintW, TxtM, GridW. -/
import Derived.Test.YtgfmiladfeoldaaGreatDoorPk1
import Derived.Test.YtgfmiladfeoldaaGreatDoorPk15
set_option linter.unusedSimpArgs false
set_option linter.unusedVariables false
set_option maxRecDepth 100000
set_option maxHeartbeats 16000000
namespace SynP
open LexP
structure Node where
 op:Nat
 text:Qx
 kids:List Nat
deriving DecidableEq,Repr
structure MatV where
 rows:Nat
 cols:Nat
 at_:List (Bool×Nat)
deriving DecidableEq,Repr
mutual
inductive Ex where
 |num (n:Nat)|name (x:Qx)|mat (m:MatV)|cpx (l:List (List Nat))
 |neg (a:Ex)|turn (a:Ex)|add (a b:Ex)|sub (a b:Ex)|mul (a b:Ex)|pow (a:Ex) (n:Nat)|call (x:Qx) (l:Exs)
inductive Exs where
 |nil|cons (a:Ex) (l:Exs)
end
inductive Ln where
 |nothing|lets (x:Qx) (e:Ex)|cmd (x:Qx) (l:Exs)
def Exs.snoc:Exs->Ex->Exs
 | .nil,e=> .cons e .nil
 | .cons a l,e=> .cons a (l.snoc e)
def Exs.len:Exs->Nat
 | .nil=>0
 | .cons _ l=>l.len+1
structure St where
 ts:List Tok
 opened:Nat
deriving DecidableEq,Repr
abbrev PR (α:Type):=Option (Except (Nat×Nat) (α×St))
def PR.bind {α β:Type}(x:PR α)(f:α->St->PR β):PR β:=
 match x with
 |none=>none
 |some (.error e)=>some (.error e)
 |some (.ok (a,s))=>f a s
def ret {α:Type}(a:α)(s:St):PR α:=some (.ok (a,s))
def fault {α:Type}(c e:Nat):PR α:=some (.error (c,e))
def Q7 (fin:Nat)(ts:List Tok):Nat:=match ts with| []=>fin|t::_=>t.2.2
def Qv (x:Qx)(ts:List Tok):Bool:=match ts with|(k,t,_)::_=>k==3 && t==x| []=>false
def Qy (k:Nat)(ts:List Tok):Bool:=match ts with|(j,_,_)::_=>j==k| []=>false
def St.adv (s:St):St:={s with ts:=s.ts.tail}
def unfit {α:Type}(fin:Nat)(s:St):PR α:=fault (Q7 fin s.ts) 14
def want (fin:Nat)(x:Qx)(s:St):PR Unit:=if Qv x s.ts then ret () s.adv else unfit fin s
def Xx (t:Qx):Nat:=NatP.decV (digs (t.filter NumP.Qu))
def Qm (ts:List Tok):Qx:=match ts with|(_,t,_)::_=>t| []=>[]
def Qi (fin:Nat)(s:St):PR Nat:=if Qy 1 s.ts then ret (Xx (Qm s.ts)) s.adv else unfit fin s
def name (fin:Nat)(s:St):PR Qx:=if Qy 2 s.ts then ret (Qm s.ts) s.adv else unfit fin s
def decT (n:Nat):Qx:=if n=0 then [48] else (NatP.dg n).map fun d=>UInt8.ofNat (48+d)
def intT (x:Bool×Nat):Qx:=(if x.1 then [45] else [])++decT x.2
def Q8 (sep:Qx):List Qx->Qx
 | []=>[]
 | [a]=>a
 |a::l=>a++sep++Q8 sep l
def Yb {α:Type}(cols:Nat):Nat->List α->List (List α)
 |0,_=>[]
 |r+1,l=>l.take cols::Yb cols r (l.drop cols)
def matT (m:MatV):Qx:=
 if m.at_=[] then [91]++decT m.rows++[58]++decT m.cols++[93]
 else [91]++Q8 [59,32] ((Yb m.cols m.rows (m.at_.map intT)).map (Q8 [32]))++[93]
def cpxT (l:List (List Nat)):Qx:=[123]++Q8 [44,32] (l.map fun s=>Q8 [32] (s.map decT))++[125]
def side (n:Nat):Nat:=if 64<n then 65 else n
def Q9 (fin:Nat):Nat->Nat->List (Bool×Nat)->St->PR (Nat×List (Bool×Nat))
 |0,_,_,_=>none
 |f+1,n,acc,s=>
  if n=0||Qv [45] s.ts||Qy 1 s.ts then
   (Qi fin (if Qv [45] s.ts then s.adv else s)).bind fun m s'=>Q9 fin f (n+1) (acc++[(Qv [45] s.ts && decide (0<m),m)]) s'
  else ret (n,acc) s
def entries (fin:Nat):Nat->List (Bool×Nat)->List Nat->St->PR (List (Bool×Nat)×List Nat)
 |0,_,_,_=>none
 |f+1,acc,lens,s=>
  (Q9 fin f 0 acc s).bind fun r s=>
   if Qv [93] s.ts then ret (r.2,lens++[r.1]) s.adv
   else (want fin [59] s).bind fun _ s=>entries fin f r.2 (lens++[r.1]) s
def Ja (fin col:Nat)(s:St):PR MatV:=
 (Qi fin s).bind fun r s=>(want fin [58] s).bind fun _ s=>(Qi fin s).bind fun c s=>(want fin [93] s).bind fun _ s=>
  if 64<side r||64<side c then fault col 5
  else ret ⟨r,c,List.replicate (r*c) (false,0)⟩ s
def Yo (col:Nat)(a:List (Bool×Nat)×List Nat)(s:St):PR MatV:=
 if a.2.any (· !=a.2.headD 0) then fault col 2
 else if 64<a.2.length||64<a.2.headD 0 then fault col 5
 else ret ⟨a.2.length,a.2.headD 0,a.1⟩ s
def X6 (fin f:Nat)(s0:St):PR MatV:=
 (want fin [91] s0).bind fun _ s=>
  if Qy 1 s.ts && Qv [58] s.ts.tail then Ja fin (Q7 fin s0.ts) s
  else (entries fin f [] [] s).bind (Yo (Q7 fin s0.ts))
def X0 (fin:Nat):Nat->List Nat->St->PR (List Nat)
 |0,_,_=>none
 |f+1,acc,s=>if Qy 1 s.ts then (Qi fin s).bind fun n s=>X0 fin f (acc++[n]) s else ret acc s
def Xa (fin:Nat):Nat->List (List Nat)->St->PR (List (List Nat))
 |0,_,_=>none
 |f+1,acc,s=>
  (Qi fin s).bind fun n s=>(X0 fin f [n] s).bind fun x s=>
   if Qv [125] s.ts then ret (acc++[x]) s.adv
   else (want fin [44] s).bind fun _ s=>Xa fin f (acc++[x]) s
def Xg (fin f:Nat)(s:St):PR (List (List Nat)):=
 (want fin [123] s).bind fun _ s=>if Qv [125] s.ts then ret [] s.adv else Xa fin f [] s
def J0:Nat->Nat->St->PR Nat
 |0,_,_=>none
 |f+1,n,s=>if Qv [45] s.ts then J0 f (n+1) s.adv else ret n s
def negs:Nat->Ex->Ex
 |0,k=>k
 |n+1,k=>negs n (.neg k)
def Su:Nat->Ex->St->PR Ex
 |0,_,_=>none
 |f+1,k,s=>if Qv [39] s.ts then Su f (.turn k) s.adv else ret k s
def Wd (fin:Nat)(s:St):PR Unit:=
 if 100<s.opened+1 then fault (Q7 fin s.ts) 5 else ret () {s.adv with opened:=s.opened+1}
def Y9 (fin:Nat)(s:St):PR Unit:=(want fin [41] s).bind fun _ s=>ret () {s with opened:=s.opened-1}
mutual
def expr (fin:Nat):Nat->St->PR Ex
 |0,_=>none
 |f+1,s=>(term fin f s).bind fun k s=>exprLoop fin f k s
def exprLoop (fin:Nat):Nat->Ex->St->PR Ex
 |0,_,_=>none
 |f+1,k,s=>
  if Qv [43] s.ts then (term fin f s.adv).bind fun t s=>exprLoop fin f (.add k t) s
  else if Qv [45] s.ts then (term fin f s.adv).bind fun t s=>exprLoop fin f (.sub k t) s
  else ret k s
def term (fin:Nat):Nat->St->PR Ex
 |0,_=>none
 |f+1,s=>(factor fin f s).bind fun k s=>termLoop fin f k s
def termLoop (fin:Nat):Nat->Ex->St->PR Ex
 |0,_,_=>none
 |f+1,k,s=>
  if Qv [42] s.ts then (factor fin f s.adv).bind fun t s=>termLoop fin f (.mul k t) s
  else ret k s
def factor (fin:Nat):Nat->St->PR Ex
 |0,_=>none
 |f+1,s=>
  (J0 f 0 s).bind fun n s=>(post fin f s).bind fun k s=>
   if Qv [94] s.ts then (Qi fin s.adv).bind fun m s=>ret (negs n (.pow k m)) s
   else ret (negs n k) s
def post (fin:Nat):Nat->St->PR Ex
 |0,_=>none
 |f+1,s=>(atom fin f s).bind fun k s=>Su f k s
def atom (fin:Nat):Nat->St->PR Ex
 |0,_=>none
 |f+1,s=>
  if Qy 1 s.ts then (Qi fin s).bind fun n s=>ret (.num n) s
  else if Qy 2 s.ts && Qv [40] s.ts.tail then
   (name fin s).bind fun x s=>(Wd fin s).bind fun _ s=>(parts fin f s).bind fun ks s=>(Y9 fin s).bind fun _ s=>ret (.call x ks) s
  else if Qy 2 s.ts then (name fin s).bind fun x s=>ret (.name x) s
  else if Qv [40] s.ts then (Wd fin s).bind fun _ s=>(expr fin f s).bind fun k s=>(Y9 fin s).bind fun _ s=>ret k s
  else if Qv [91] s.ts then (X6 fin f s).bind fun m s=>ret (.mat m) s
  else if Qv [123] s.ts then (Xg fin f s).bind fun l s=>ret (.cpx l) s
  else unfit fin s
def parts (fin:Nat):Nat->St->PR Exs
 |0,_=>none
 |f+1,s=>(expr fin f s).bind fun k s=>partsLoop fin f (.cons k .nil) s
def partsLoop (fin:Nat):Nat->Exs->St->PR Exs
 |0,_,_=>none
 |f+1,ks,s=>if Qv [44] s.ts then (expr fin f s.adv).bind fun k s=>partsLoop fin f (ks.snoc k) s else ret ks s
end
def done {α:Type}(fin:Nat)(a:α)(s:St):PR α:=if s.ts=[] then ret a s else unfit fin s
def letB:Qx:=[108,101,116]
def line (fin f:Nat)(s:St):PR Ln:=
 if s.ts=[] then ret .nothing s
 else if Qy 2 s.ts && Qm s.ts==letB then
  (name fin s.adv).bind fun x s=>(want fin [61] s).bind fun _ s=>(expr fin f s).bind fun e s=>done fin (.lets x e) s
 else
  (name fin s).bind fun x s=>
   if s.ts=[] then done fin (.cmd x .nil) s
   else (parts fin f s).bind fun ks s=>done fin (.cmd x ks) s
mutual
def Ex.size:Ex->Nat
 | .num _=>1| .name _=>1| .mat _=>1| .cpx _=>1
 | .neg a=>a.size+1| .turn a=>a.size+1
 | .add a b=>a.size+b.size+1| .sub a b=>a.size+b.size+1| .mul a b=>a.size+b.size+1
 | .pow a _=>a.size+1
 | .call _ l=>l.size+1
def Exs.size:Exs->Nat
 | .nil=>0
 | .cons a l=>a.size+l.size
end
def Exs.roots:Exs->Nat->List Nat
 | .nil,_=>[]
 | .cons a l,o=>(o+a.size-1)::l.roots (o+a.size)
mutual
def Ex.flat:Ex->Nat->List Node
 | .num n,_=>[⟨1,decT n,[]⟩]
 | .name x,_=>[⟨2,x,[]⟩]
 | .mat m,_=>[⟨3,matT m,[]⟩]
 | .cpx l,_=>[⟨13,cpxT l,[]⟩]
 | .neg a,o=>a.flat o++[⟨4,[],[o+a.size-1]⟩]
 | .turn a,o=>a.flat o++[⟨5,[],[o+a.size-1]⟩]
 | .add a b,o=>a.flat o++b.flat (o+a.size)++[⟨6,[],[o+a.size-1,o+a.size+b.size-1]⟩]
 | .sub a b,o=>a.flat o++b.flat (o+a.size)++[⟨7,[],[o+a.size-1,o+a.size+b.size-1]⟩]
 | .mul a b,o=>a.flat o++b.flat (o+a.size)++[⟨8,[],[o+a.size-1,o+a.size+b.size-1]⟩]
 | .pow a n,o=>a.flat o++[⟨9,decT n,[o+a.size-1]⟩]
 | .call x l,o=>l.flat o++[⟨10,x,l.roots o⟩]
def Exs.flat:Exs->Nat->List Node
 | .nil,_=>[]
 | .cons a l,o=>a.flat o++l.flat (o+a.size)
end
def Ln.size:Ln->Nat
 | .nothing=>1
 | .lets _ e=>e.size+1
 | .cmd _ l=>l.size+1
def Ln.flat:Ln->List Node
 | .nothing=>[⟨14,[],[]⟩]
 | .lets x e=>e.flat 0++[⟨11,x,[e.size-1]⟩]
 | .cmd x l=>l.flat 0++[⟨12,x,l.roots 0⟩]
def Ex.op:Ex->Nat
 | .num _=>1| .name _=>2| .mat _=>3| .cpx _=>13| .neg _=>4| .turn _=>5| .add _ _=>6| .sub _ _=>7| .mul _ _=>8| .pow _ _=>9| .call _ _=>10
def My (o:Nat):Bool:=o==6||o==7
def Re (o:Nat):Bool:=My o||o==8
def Xw (op place part:Nat):Bool:=
 if op==6||op==7 then place==1 && My part
 else if op==8 then My part||(place==1 && Re part)
 else if op==4 then Re part
 else if op==9||op==5 then Re part||part==4||part==9
 else false
def par (b:Bool)(t:Qx):Qx:=if b then [40]++t++[41] else t
mutual
def Ex.pr:Ex->Qx
 | .num n=>decT n
 | .name x=>x
 | .mat m=>matT m
 | .cpx l=>cpxT l
 | .neg a=>[45]++par (Xw 4 0 a.op) a.pr
 | .turn a=>par (Xw 5 0 a.op) a.pr++[39]
 | .add a b=>par (Xw 6 0 a.op) a.pr++[32,43,32]++par (Xw 6 1 b.op) b.pr
 | .sub a b=>par (Xw 7 0 a.op) a.pr++[32,45,32]++par (Xw 7 1 b.op) b.pr
 | .mul a b=>par (Xw 8 0 a.op) a.pr++[42]++par (Xw 8 1 b.op) b.pr
 | .pow a n=>par (Xw 9 0 a.op) a.pr++([94]++decT n)
 | .call x l=>x++([40]++l.pr++[41])
def Exs.pr:Exs->Qx
 | .nil=>[]
 | .cons a l=>a.pr++l.prTail
def Exs.prTail:Exs->Qx
 | .nil=>[]
 | .cons a l=>[44,32]++a.pr++l.prTail
end
def Ln.pr:Ln->Qx
 | .nothing=>[]
 | .lets x e=>[108,101,116,32]++x++[32,61,32]++e.pr
 | .cmd x .nil=>x
 | .cmd x l=>x++[32]++l.pr
def parD (b:Bool)(d:Nat):Nat:=if b then d+1 else d
mutual
def Ex.dp:Ex->Nat
 | .num _=>0| .name _=>0| .mat _=>0| .cpx _=>0
 | .neg a=>parD (Xw 4 0 a.op) a.dp
 | .turn a=>parD (Xw 5 0 a.op) a.dp
 | .add a b=>max (parD (Xw 6 0 a.op) a.dp) (parD (Xw 6 1 b.op) b.dp)
 | .sub a b=>max (parD (Xw 7 0 a.op) a.dp) (parD (Xw 7 1 b.op) b.dp)
 | .mul a b=>max (parD (Xw 8 0 a.op) a.dp) (parD (Xw 8 1 b.op) b.dp)
 | .pow a _=>parD (Xw 9 0 a.op) a.dp
 | .call _ l=>l.dp+1
def Exs.dp:Exs->Nat
 | .nil=>0
 | .cons a l=>max a.dp l.dp
end
def Ln.dp:Ln->Nat
 | .nothing=>0
 | .lets _ e=>e.dp
 | .cmd _ l=>l.dp
end SynP
namespace Go.Proofs.YtgfmiladfeoldaaGreatDoor
open Go.RowKit NatP LexP
def Vg (neg:Bool)(n:Nat):Int:=if n=0 then 0 else if neg then -1 else 1
theorem Fz (neg:Bool)(v:Value)(xs:List Nat)(w:World)(hv:Rd w v xs)(hl:xs.length<=1099511627776):
  Calls Tryz.prog 121 #[.agg #[.bool neg,v]] w fun e w'=>e=.returned (.int .i64 (Vg neg (val xs)))/\Below w.heap.size w w':=by
 have HV:=zq hv;obtain⟨ao,cap,rfl,-,-,hok,-⟩:=hv.2;have HA:=zq (Qq w (.cells #[.bool neg,.slice ao xs.length cap] 62));have HVA:=zq (HV.o.below HA.o);have hb0:=Kk xs hok;obtain⟨b,hb⟩:=xq (bitsN xs);rw[<-hb]at hb0;have HB:=zq hb;clear hv hok hb;by_cases h0:b=0
 ·have hz:((b:Int)==0)=true:=by simp[h0]
  have HR:Hid (Vg neg (val xs)=0):=by
   show _=_;unfold Vg;rw[if_pos (hb0.1 h0)]
  clear hb0 h0;go_enter Tryz.func121,Tryz.ntmps121;go_wp2_with fail;refine(Wb _ xs _ HVA.o hl).mono ?_;rintro e w1 ⟨rfl,rfl⟩;rw[<-HB.o];go_wp2_with fail;go_ret;exact⟨by rw[HR.o];rfl,HA.o⟩
 ·have hz:((b:Int)==0)=false:=by simp[h0]
  have hne: ¬val xs=0:=fun e=>h0 (hb0.2 e)
  have HR:Hid (Vg neg (val xs)=if neg then -1 else 1):=by
   show _=_;unfold Vg;rw[if_neg hne]
  clear hb0 h0 hne
  cases neg with
  |true=>
   go_enter Tryz.func121,Tryz.ntmps121;go_wp2_with fail;refine(Wb _ xs _ HVA.o hl).mono ?_;rintro e w1 ⟨rfl,rfl⟩;rw[<-HB.o];go_wp2_with fail;go_ret
   exact⟨by rw[HR.o];rfl,HA.o⟩
  |false=>
   go_enter Tryz.func121,Tryz.ntmps121;go_wp2_with fail;refine(Wb _ xs _ HVA.o hl).mono ?_;rintro e w1 ⟨rfl,rfl⟩;rw[<-HB.o];go_wp2_with fail;go_ret;exact⟨by rw[HR.o];rfl,HA.o⟩
theorem Pt:Zf=SynP.decT:=rfl
theorem Jl (a b:Array UInt8):(⟨a⟩:ByteArray)++⟨b⟩=⟨a++b⟩:=by
 apply ByteArray.ext;simp
theorem Fq {xs:List Nat}(hl:xs.length<=8589934592)(hok:ok xs):(Zf (val xs)).length<=274877906944:=by
 unfold Zf;split
 ·simp
 ·have:=Wq (Ym hok)
  rw[List.length_map];omega
def Y8 (neg:Bool)(n:Nat):Qx:=if neg=true/\n≠0 then 45::Zf n else Zf n
def Qz8 (neg:Bool)(n:Nat)(w:World)(e:Ending)(w':World):Prop:=e=.returned (.string ⟨(Y8 neg n).toArray⟩)/\Below w.heap.size w w'
theorem P7 (neg:Bool)(v:Value)(xs:List Nat)(w:World)(hs:SG w)(hv:Rd w v xs)(hl:xs.length<=8589934592):
  Calls Tryz.prog 65 #[.agg #[.bool neg,v]] w (Qz8 neg (val xs) w):=by
 have HV:=zq hv;have HSG:=zq hs;have hsz:4<w.heap.size:=World.block_lt_of_cell? w _ (hs 0 (by omega));obtain⟨ao,cap,rfl,-,-,hok,-⟩:=hv.2;have HA:=zq (Qq w (.cells #[.bool neg,.slice ao xs.length cap] 62));have HVA:=zq (HV.o.below HA.o);have HSA:=zq (HSG.o.below HA.o hsz)
 have hc0:(w.alloc (.cells #[.bool neg,.slice ao xs.length cap] 62)).cell? ⟨w.heap.size,0,none⟩=some (.bool neg):=by rw[World.cell?_alloc_at _ _ _ _ rfl];rfl
 have hc1:(w.alloc (.cells #[.bool neg,.slice ao xs.length cap] 62)).cell? ⟨w.heap.size,1,none⟩=some (.slice ao xs.length cap):=by rw[World.cell?_alloc_at _ _ _ _ rfl];rfl
 have HC0:=zq hc0;have HC1:=zq hc1;have hok2:=hok;clear hv hok hs hc0 hc1;by_cases h0:neg=true/\val xs≠0
 ·have hn:Vg neg (val xs)= -1:=by unfold Vg;rw[if_neg h0.2,if_pos h0.1]
  have HR:Hid (Y8 neg (val xs)=45::Zf (val xs)):=by show _=_;unfold Y8;rw[if_pos h0]
  have HN:=zq hn
  have hcat: ¬9223372036854775807<1+(Zf (val xs)).length:=by
   have:=Fq hl hok2;omega
  clear h0 hn hok2;go_enter Tryz.func65,Tryz.ntmps65;go_wp2_with fail;refine(S7 _ xs _ HSA.o HVA.o hl).mono ?_;rintro e w1 ⟨rfl,hb1⟩;have HB1:=zq hb1;have d0:=(hb1.cell (p:=⟨w.heap.size,0,none⟩) (by simp)).trans HC0.o;have d1:=(hb1.cell (p:=⟨w.heap.size,1,none⟩) (by simp)).trans HC1.o;clear hb1;go_wp2_with fail;refine(Fz neg _ xs _ (HVA.o.below HB1.o) (by omega)).mono ?_;rintro e w2 ⟨rfl,hb2⟩;rw[HN.o];have HB2:=zq hb2;clear hb2;go_wp2_with fail;go_ret;refine⟨?_,(HA.o.trans (HB1.o.mono (by simp))).trans (HB2.o.mono ((HA.o.trans (HB1.o.mono (by simp))).size))⟩;rw[HR.o];show Ending.returned (.string ((⟨#[45]⟩:ByteArray)++⟨(Zf (val xs)).toArray⟩))=_;rw[Jl];simp
 ·have hn:0<=Vg neg (val xs):=by
   unfold Vg;split
   ·omega
   ·split
    ·rename_i h1 h2;exact absurd ⟨h2,h1⟩ h0
    ·omega
  have HR:Hid (Y8 neg (val xs)=Zf (val xs)):=by show _=_;unfold Y8;rw[if_neg h0]
  obtain⟨k,hk⟩:=xq (Vg neg (val xs));rw[<-hk]at hn;have HK:=zq hk
  have hkb:decide (k<0)=false:=by simp;omega
  clear h0 hn hk;go_enter Tryz.func65,Tryz.ntmps65;go_wp2_with fail;refine(S7 _ xs _ HSA.o HVA.o hl).mono ?_;rintro e w1 ⟨rfl,hb1⟩;have HB1:=zq hb1;have d0:=(hb1.cell (p:=⟨w.heap.size,0,none⟩) (by simp)).trans HC0.o;have d1:=(hb1.cell (p:=⟨w.heap.size,1,none⟩) (by simp)).trans HC1.o;clear hb1;go_wp2_with fail;refine(Fz neg _ xs _ (HVA.o.below HB1.o) (by omega)).mono ?_;rintro e w2 ⟨rfl,hb2⟩;rw[<-HK.o];have HB2:=zq hb2;clear hb2;go_wp2_with fail;go_ret;refine⟨?_,(HA.o.trans (HB1.o.mono (by simp))).trans (HB2.o.mono ((HA.o.trans (HB1.o.mono (by simp))).size))⟩;rw[HR.o];rfl
theorem Qp9 (v:Value)(xs:List Nat)(w:World)(hv:Rd w v xs):
  Calls Tryz.prog 170 #[.bool false,v] w fun e w'=>e=.returned (.agg #[.bool false,v])/\Below w.heap.size w w':=by
 have HV:=zq hv;obtain⟨ao,cap,rfl,-,-,hok,-⟩:=hv.2;clear hv hok;go_enter Tryz.func170,Tryz.ntmps170;go_wp2_with fail;refine bodyPost_ret (results_cell_row rfl _ _ w.heap.size 62 _ _ _ rfl (heap_alloc_new w _) Tryz.underlying62 rfl (by kernel_rfl)) rfl ?_;exact⟨rfl,Qq _ _⟩
theorem Qzj (n:Nat)(w:World)(hn:n<=64):
  Calls Tryz.prog 122 #[.int .i64 (n:Nat)] w fun e w'=> ∃v xs,e=.returned (.agg #[.bool false,v])/\Rd w' v xs/\val xs=n/\xs.length<=1/\Below w.heap.size w w':=by
 go_enter Tryz.func122,Tryz.ntmps122
 have h1: ¬((n:Int)<0):=by omega
 go_wp2_with fail
 have hblk:Blk ((w.alloc (.cells #[.bool false,.slice none 0 0] 62)).alloc (.cells #[.int .u64 (n:Nat)] 101)) (w.heap.size+1) [n]:=by
  refine⟨?_,?_⟩
  ·have:=heap_alloc_new (w.alloc (.cells #[.bool false,.slice none 0 0] 62)) (.cells #[.int .u64 (n:Nat)] 101)
   simp only[World.size_alloc]at this;exact this
  ·intro x hx;simp at hx;subst hx;unfold BB;omega
 have HA:=zq (Qq w (.cells #[.bool false,.slice none 0 0] 62));have HA2:=zq (Qq (w.alloc (.cells #[.bool false,.slice none 0 0] 62)) (.cells #[.int .u64 (n:Nat)] 101));refine(J8 _ [n] _ (hblk.whole (by simp)) (by simp)).mono ?_;rintro e w1 ⟨rfl,hB,hb1⟩;obtain⟨g,hg⟩:∃g,g=((w.alloc (.cells #[.bool false,.slice none 0 0] 62)).alloc (.cells #[.int .u64 (n:Nat)] 101)).heap.size:=⟨_,rfl⟩;rw[<-hg]at hB ⊢
 have hgs:g=w.heap.size+2:=by rw[hg];simp
 have HGS:=zq hgs;have HB:=zq hB;have HB1:=zq hb1;clear hB hb1 hblk hg hgs;obtain⟨ys,hys⟩:=xq (Qw [n])
 have hyl:ys.length<=1:=by rw[hys];exact Qf [n]
 rw[<-hys]at HB ⊢
 have hyv:val ys=n:=by rw[hys,Ql];simp[NatP.val]
 have HYV:=zq hyv;clear hys hyv;go_wp2_with fail;refine(Qp9 _ ys _ (HB.o.whole (by omega))).mono ?_;rintro e w2 ⟨rfl,hb2⟩;have HB2:=zq hb2;clear hb2
 have d0:w2.heap[w.heap.size]?=some (.cells #[.bool false,.slice none 0 0] 62 (0,0)):=by
  have q1:=HA2.o.block w.heap.size (by simp);have q2:=HB1.o.block w.heap.size (by simp;omega);have q3:=HB2.o.block w.heap.size (by have:=HB.o.lt;have:=HGS.o;omega);rw[q3,q2,q1];exact heap_alloc_new w _
 have e0:w2.cell? ⟨w.heap.size,0,none⟩=some (.bool false):=(cell_of_row w2 _ _ _ _ _ d0).trans rfl;have e1:w2.cell? ⟨w.heap.size,1,none⟩=some (.slice none 0 0):=(cell_of_row w2 _ _ _ _ _ d0).trans rfl;have f0:w2.frozen? ⟨w.heap.size,0,none⟩=false:=frozen_of_row w2 _ 0 _ _ d0;have f1:w2.frozen? ⟨w.heap.size,1,none⟩=false:=frozen_of_row w2 _ 1 _ _ d0;have D0:=zq d0;clear d0;go_wp2_with fail;have s1:=heap_setCell_same w2 w.heap.size 0 #[.bool false,.slice none 0 0] 62 (.bool false) D0.o;have s2:=heap_setCell_same (w2.setCell ⟨w.heap.size,0,none⟩ (.bool false)) w.heap.size 1 _ 62 (.slice (some ⟨g,0,none⟩) ys.length ys.length) s1;refine bodyPost_ret (results_cell_row rfl _ _ w.heap.size 62 _ _ _ rfl s2 Tryz.underlying62 rfl (by kernel_rfl)) rfl ?_;have hw:Below w.heap.size w w2:=(HA.o.trans (HA2.o.mono (by simp))).trans ((HB1.o.mono (by simp;omega)).trans (HB2.o.mono (by have:=HB.o.lt;have:=HGS.o;omega)));have hr:Wr w.heap.size none w2 ((w2.setCell ⟨w.heap.size,0,none⟩ (.bool false)).setCell ⟨w.heap.size,1,none⟩ (.slice (some ⟨g,0,none⟩) ys.length ys.length)):=(Wr.of_set w2 0 _).trans (Mv.refl _ _) (Wr.of_set _ 1 _);refine⟨_,ys,rfl,((HB.o.whole (by omega)).below HB2.o).wr hr (fun k hk=>by cases hk;have:=HGS.o;exact⟨by show g≠w.heap.size;omega,by simp⟩),HYV.o,hyl,hr.to_below hw hw.size (Nat.le_refl _) (fun k hk=>by cases hk)⟩
def sts (l:List Qx):List Value:=l.map fun b=> .string ⟨b.toArray⟩
theorem Qp0 (l:List Qx):(sts l).length=l.length:=by simp[sts]
theorem Qgx (a b:List Qx):sts (a++b)=sts a++sts b:=by simp[sts]
theorem Tryz.infoSt:(Tryz.prog.info? 9).map (fun i=>(i.zero,i.size,i.bytes))=some (some (.string ⟨#[]⟩),1,16):=by kernel_rfl
theorem Ef (sep:Qx):∀l:List Qx,Lib.join l sep=SynP.Q8 sep l
 | []=>rfl
 | [a]=>by rw[Lib.join_one];rfl
 |a::b::l=>by
  have h:=Ef sep (b::l);rw[Lib.join_cons]at h ⊢;show a++Lib.joinTail sep (b::l)=a++sep++SynP.Q8 sep (b::l);rw[<-h];simp[Lib.joinTail]
def R7 (l:Qx)(w:World)(e:Ending)(w':World):Prop:=e=.returned (.string ⟨l.toArray⟩)/\Below w.heap.size w w'
def SS (w:World)(v:Value)(l:List Qx):Prop:=∃ao cap,v=.slice ao l.length cap/\l.length<=cap/\cap<=maxLen/\(0<l.length-> ∃g o,ao=some ⟨g,o,none⟩/\g<w.heap.size/\ ∀j b,l[j]?=some b->w.cell? ⟨g,o+j,none⟩=some (.string ⟨b.toArray⟩))
theorem SS.of_row {w:World}{B n:Nat}{v:Value}{l:List Qx}(h:w.ownsRow B 9 1 v n (sts l)):SS w v l:=by
 have I:l.length=n:=by have:=h.1;rw[Qp0]at this;omega
 obtain⟨ao,E,e,O,J,H⟩:=Qj h;refine⟨ao,E,by rw[I];exact e,by omega,J,fun h0=> ?_⟩;obtain⟨g,rfl,a1,a2,a3⟩:=H (by omega);refine⟨g,0,rfl,a2,fun j b hj=> ?_⟩;have K:=(List.getElem?_eq_some_iff.1 hj).1;rw[Nat.zero_add,a3 j (by omega)];simp[sts,hj]
theorem Ml (v:Value)(l:List Qx)(sep:ByteArray)(w:World)(h:SS w v l)(hN:l.length<=140737488355328)(hl:(SynP.Q8 sep.data.toList l).length<=140737488355328):
  Calls Tryz.prog 123 #[v,.string sep] w (R7 (SynP.Q8 sep.data.toList l) w):=by
 obtain⟨ao,E,rfl,K,O,I⟩:=h;by_cases h0:0<l.length
 ·obtain⟨g,o,rfl,a2,a3⟩:=I h0
  have H:(l.map fun b=>(⟨b.toArray⟩:ByteArray)).map (·.data.toList)=l:=by
   rw[List.map_map]
   conv=>rhs;rw[<-List.map_id l]
   exact List.map_congr_left fun b _=>rfl
  have:=Tryz.strings_Join g o E (l.map fun b=>⟨b.toArray⟩) sep w (fun j x hj=>by
   rw[List.getElem?_map,Option.map_eq_some_iff]at hj;obtain⟨b,J,rfl⟩:=hj
   exact a3 j b J) a2 (by rw[List.length_map];exact hN) (by rw[List.length_map];exact K) (by rw[H,Ef];exact hl)
  rw[List.length_map,H,Ef]at this;exact this.mono fun e w' h=>h
 ·have e:l=[]:=List.eq_nil_of_length_eq_zero (by omega)
  subst e;exact(Tryz.strings_Join_none ao E sep w).mono fun e w' ⟨a,b⟩=>⟨a,by rw[b];exact Below.refl _ _⟩
theorem Qmz (n:Nat)(w:World)(hn:n<=4611686018427387904):
  Calls Tryz.prog 119 #[.int .i64 (n:Nat)] w fun e w'=>e=.returned (.bool (decide (n<=64)))/\w=w':=by
 have h1:decide (0<=(n:Int))=true:=by simp
 have h2:decide ((n:Int)<=64)=decide (n<=64):=by simp;omega
 go_enter Tryz.func119,Tryz.ntmps119;go_wp2_with fail;go_ret;exact⟨rfl,rfl⟩
def matV (r c:Nat)(at_:Value):Value:=.agg #[.int .i64 (r:Nat),.int .i64 (c:Nat),at_]
theorem Qm6 (r c n cap:Nat)(ao:Option Addr)(w:World)(hr:r<=64)(hc:c<=64)(hn:n=r*c):
  Calls Tryz.prog 64 #[.agg #[.int .i64 (r:Nat),.int .i64 (c:Nat),.slice ao n cap]] w fun e w'=>e=.returned (.int .i64 0)/\Below w.heap.size w w':=by
 have HA:=zq (Qq w (.cells #[.int .i64 (r:Nat),.int .i64 (c:Nat),.slice ao n cap] 47))
 have hd1:decide (r<=64)=true:=by simp;exact hr
 have hd2:decide (c<=64)=true:=by simp;exact hc
 have hrc:(r:Int)*(c:Int)=(n:Int):=by rw[hn];exact(Int.natCast_mul r c).symm
 have hnn:n<=4096:=by rw[hn];exact Nat.mul_le_mul hr hc
 have H1:=zq hd1;have H2:=zq hd2;clear hn;go_enter Tryz.func64,Tryz.ntmps64;go_wp2_with fail;refine(Qmz r _ (by omega)).mono ?_;rintro e w1 ⟨rfl,rfl⟩;rw[H1.o];go_wp2_with fail;refine(Qmz c _ (by omega)).mono ?_;rintro e w1 ⟨rfl,rfl⟩;rw[H2.o];go_wp2_with fail;go_ret;exact⟨rfl,HA.o⟩
theorem Na {α:Type}(c:Nat):∀(i:Nat) (l:List α),SynP.Yb c (i+1) l=SynP.Yb c i l++[(l.drop (i*c)).take c]
 |0,l=>by simp[SynP.Yb]
 |i+1,l=>by
  have h:=Na c i (l.drop c);show l.take c::SynP.Yb c (i+1) (l.drop c)=l.take c::SynP.Yb c i (l.drop c)++_;rw[h,List.drop_drop];simp[Nat.succ_mul,Nat.add_comm]
theorem Ru {α:Type}(c:Nat):∀(i:Nat) (l:List α),(SynP.Yb c i l).length=i
 |0,_=>rfl
 |i+1,l=>by show _+1=_;rw[Ru c i]
theorem K7 {α:Type}(c:Nat):∀(i:Nat) (l X:List α),X∈SynP.Yb c i l->(∀b∈X,b∈l)/\X.length<=c
 |0,_,_,h=>by cases h
 |i+1,l,X,h=>by
  rcases List.mem_cons.1 h with rfl|h
  ·exact⟨fun b hb=>List.mem_of_mem_take hb,by rw[List.length_take];omega⟩
  ·have:=K7 c i (l.drop c) X h
   exact⟨fun b hb=>List.mem_of_mem_drop (this.1 b hb),this.2⟩
theorem So (sep:Qx)(M:Nat):∀l:List Qx,(∀b∈l,b.length<=M)->(SynP.Q8 sep l).length<=l.length*(M+sep.length)
 | [],_=>Nat.zero_le _
 | [a],h=>by have:=h a (by simp);show a.length<=1*_;omega
 |a::b::l,h=>by
  have E:=So sep M (b::l) (fun x hx=>h x (List.mem_cons_of_mem _ hx));have H:=h a (by simp);show (a++sep++SynP.Q8 sep (b::l)).length<=_;simp only[List.length_append];have e:(a::b::l).length=(b::l).length+1:=rfl;rw[e,Nat.succ_mul];omega
def Zr (r c:Nat)(l:List Qx):Qx:=
 if l=[] then [91]++SynP.decT r++[58]++SynP.decT c++[93]
 else [91]++SynP.Q8 [59,32] ((SynP.Yb c r l).map (SynP.Q8 [32]))++[93]
theorem Te (n:Nat):Y8 false n=SynP.decT n:=by unfold Y8;simp;rfl
theorem U8 {n:Nat}(h:n<=64):(SynP.decT n).length<=20:=by
 have E:n<BB^1:=by unfold BB;omega
 have:=Wq E;unfold SynP.decT;split
 ·simp
 ·rw[List.length_map];omega
theorem Qqe (r c cap:Nat)(ao:Option Addr)(w:World)(hs:SG w)(hr:r<=64)(hc:c<=64):
  Calls Tryz.prog 66 #[.int .i64 (r:Nat),.int .i64 (c:Nat),.slice ao 0 cap] w (R7 (Zr r c []) w):=by
 have HSG:=zq hs;have hsz:4<w.heap.size:=World.block_lt_of_cell? w _ (hs 0 (by omega));have q1:=U8 hr;have q2:=U8 hc;obtain⟨A,hA⟩:=xq (SynP.decT r);obtain⟨B,hB⟩:=xq (SynP.decT c);rw[<-hA]at q1;rw[<-hB]at q2;have HA:=zq hA;have HB:=zq hB;clear hs hA hB;go_enter Tryz.func66,Tryz.ntmps66;go_wp2_with fail;refine(Qzj r _ hr).mono ?_;rintro e w1 ⟨v1,xs1,rfl,a1,a2,a3,a4⟩;have HR1:=zq a1;have HV1:=zq a2;have HB1:=zq a4;clear a1 a2 a4;go_wp2_with fail;have hs1:=HSG.o.below HB1.o hsz;have hsz1:4<w1.heap.size:=Nat.lt_of_lt_of_le hsz HB1.o.size;refine(P7 false _ xs1 _ hs1 HR1.o (by omega)).mono ?_;rintro e w2 ⟨rfl,b1⟩;rw[HV1.o,Te,<-HA.o];have HB2:=zq b1;have HS2:=zq (hs1.below b1 hsz1);have hsz2:4<w2.heap.size:=Nat.lt_of_lt_of_le hsz1 HB2.o.size;clear b1 hs1;go_wp2_with fail;refine(Qzj c _ hc).mono ?_;rintro e w3 ⟨v3,xs3,rfl,a1,a2,a5,a4⟩;have HR3:=zq a1;have HV3:=zq a2;have HB3:=zq a4;clear a1 a2 a4;go_wp2_with fail;have hs3:=HS2.o.below HB3.o hsz2;refine(P7 false _ xs3 _ hs3 HR3.o (by omega)).mono ?_;rintro e w4 ⟨rfl,b1⟩;rw[HV3.o,Te,<-HB.o];have HB4:=zq b1;clear b1 hs3;go_wp2_with fail;go_ret;have hz1:=HB1.o.size;have hz2:=HB2.o.size;have hz3:=HB3.o.size;refine⟨?_,((HB1.o.trans (HB2.o.mono hz1)).trans (HB3.o.mono (Nat.le_trans hz1 hz2))).trans (HB4.o.mono (Nat.le_trans (Nat.le_trans hz1 hz2) hz3))⟩
 have e:Zr r c []=[91]++A++[58]++B++[93]:=by rw[HA.o,HB.o];unfold Zr;rw[if_pos rfl]
 show Ending.returned (.string ((⟨#[91]⟩:ByteArray)++⟨A.toArray⟩++⟨#[58]⟩++⟨B.toArray⟩++⟨#[93]⟩))=_;rw[e,Jl,Jl,Jl,Jl];simp
theorem Qjw (r c:Nat)(l:List Qx)(v:Value)(w:World)(hv:SS w v l)(hl:l≠[])(hr:r<=64)(hc:c<=64)(hn:l.length=r*c)(hb:∀b∈l,b.length<=2147483648):
  Calls Tryz.prog 66 #[.int .i64 (r:Nat),.int .i64 (c:Nat),v] w (R7 (Zr r c l) w):=by
 obtain⟨ao,cap,rfl,h1,h2,h3⟩:=hv;have hpos:0<l.length:=List.length_pos_iff.2 hl;obtain⟨g,o,rfl,hg,hcell⟩:=h3 hpos;obtain⟨n,hnn⟩:=xq l.length;rw[<-hnn]at h1 hpos hn ⊢
 have hn4:n<=4096:=by rw[hn];exact Nat.mul_le_mul hr hc
 have HC:=zq hcell;have HL:=zq hl;have HN:=zq hn;have HNN:=zq hnn;have HBD:=zq hb
 have hne:((n:Int)==0)=false:=by simp;omega
 have h2':cap<=9223372036854775807:=by unfold maxLen at h2;omega
 have HPOS:=zq hpos;clear hcell hl hn hnn hb h3 hpos;obtain⟨i0,hi,hz0,hz1',hz2'⟩:=info_parts Tryz.infoSt;go_enter Tryz.func66,Tryz.ntmps66;go_wp2_with fail;go_loopw [7,8,23] (fun lv _ iv wr=> ∃i:Nat,iv=.int .i64 (i:Nat)/\i<=r/\wr.ownsRow w.heap.size 9 1 lv i (sts ((SynP.Yb c i l).map (SynP.Q8 [32])))/\Below w.heap.size w wr) (fun _ _ iv _=>(r-intOf iv).toNat)
 case atStart=>exact⟨0,rfl,Nat.zero_le _,World.ownsRow_nil _ _ _ _,Below.refl _ _⟩
 case round=>
  obtain⟨i,rfl,hir,hown,hbl⟩:=hrel;have HOWN:=zq hown;have HBL:=zq hbl;obtain⟨bo,bcap,rfl,hbc,hbm,hbs⟩:=Qj hown;have HBS:=zq hbs;clear hown hbl hbs;by_cases hlt:i<r
  ·obtain⟨a,ha⟩:=xq (i*c)
   have hac:a+c<=n:=by rw[HN.o,ha,<-Nat.succ_mul];exact Nat.mul_le_mul (by omega) (Nat.le_refl _)
   have E1:(i:Int)*(c:Int)=(a:Int):=by rw[ha];exact(Int.natCast_mul i c).symm
   have E2:((i:Int)+1)*(c:Int)=((a+c:Nat):Int):=by rw[Int.add_mul,E1];omega
   have HAE:=zq ha;clear ha
   have hc0:0<c:=by
    rcases Nat.eq_zero_or_pos c with h|h
    ·subst h;have h1:=HN.o;rw[Nat.mul_zero]at h1;have h2:=HPOS.o;omega
    ·exact h
   have hca: ¬cap=a:=by omega
   obtain⟨X,hX⟩:=xq ((l.drop a).take c)
   have hXl:X.length=c:=by rw[hX,List.length_take,List.length_drop,<-HNN.o];omega
   have HX:=zq hX;have HXL:=zq hXl;have hXb:∀b∈X,b.length<=2147483648:=fun b hb=>HBD.o b (List.mem_of_mem_drop (List.mem_of_mem_take (hX ▸ hb)))
   have hss:SS wr (.slice (some ⟨g,o+a,none⟩) c (cap-a)) X:=by
    refine⟨_,_,by rw[hXl],by omega,by omega,fun _=>⟨g,o+a,rfl,Nat.lt_of_lt_of_le hg HBL.o.size,fun j b hj=> ?_⟩⟩;rw[hX,List.getElem?_take]at hj;split at hj
    ·rw[List.getElem?_drop]at hj
     rw[Nat.add_assoc];exact(HBL.o.cell (p:=⟨g,o+(a+j),none⟩) hg).trans (HC.o (a+j) b hj)
    ·cases hj
   have HSS:=zq hss;have hjl:=So [32] 2147483648 X hXb;rw[hXl]at hjl
   have hjl2:(SynP.Q8 [32] X).length<=137438953536:=by
    refine Nat.le_trans hjl (Nat.le_trans (Nat.mul_le_mul hc (Nat.le_refl _)) (by decide))
   have HJL:=zq hjl2;clear hX hXl hXb hss hjl hjl2;go_wp2_with fail;refine(Ml _ X ⟨#[32]⟩ _ HSS.o (by rw[HXL.o];omega) (Nat.le_trans HJL.o (by omega))).mono ?_;rintro e w1 ⟨rfl,hb1⟩;have HB1:=zq hb1;have HO1:=zq (Qh HOWN.o hb1 (Nat.le_refl _));obtain⟨J,hJ⟩:=xq (SynP.Q8 [32] X);rw[show SynP.Q8 (⟨#[32]⟩:ByteArray).data.toList X=J from hJ.symm];have HJ:=zq hJ;clear hb1 hJ;have hz1:=HB1.o.size;have hz2:=HBL.o.size;go_wp2_with (at_builtin;refine wpList_append_own_at _ rfl _ _ 105 rfl w.heap.size 9 i0 (.string ⟨#[]⟩) 1 16 Tryz.underlying105 hi hz0 hz1' hz2' rfl (by decide) _ _ _ rfl (World.ownsRow.alloc HO1.o _) ⟨w1.heap.size,0,none⟩ 1 1 [.string ⟨J.toArray⟩] rfl rfl (LexP.Qb _ _ _ _ rfl) (by simp[Value.oneCell']) (by unfold maxLen;omega) (by omega) (by simp;omega) ?_);intro v4 w4 hown4 hgrow4 _ hbk4
   have hrows:sts ((SynP.Yb c (i+1) l).map (SynP.Q8 [32]))=sts ((SynP.Yb c i l).map (SynP.Q8 [32]))++[.string ⟨J.toArray⟩]:=by
    rw[Na,List.map_append,Qgx,<-HAE.o,<-HX.o,HJ.o];rfl
   have HO4:Hid (w4.ownsRow w.heap.size 9 1 v4 (i+1) (sts ((SynP.Yb c (i+1) l).map (SynP.Q8 [32])))):=by
    show World.ownsRow _ _ _ _ _ _ _;rw[hrows];exact hown4
   have HB4:Hid (Below w.heap.size w w4):=Below.grown ((HBL.o.trans (HB1.o.mono HBL.o.size)).alloc (by omega) _) hgrow4 (by simp;omega) (fun q hq=>(World.ownsRow.lt HO1.o q hq).1);clear hown4 hgrow4 hbk4 hrows;go_wp2_with fail;have hfin:w4.ownsRow w.heap.size 9 1 v4 (i+1) (sts ((SynP.Yb c (i+1) l).map (SynP.Q8 [32])))/\Below w.heap.size w w4:=⟨HO4.o,HB4.o⟩
   first|exact⟨⟨i+1,rfl,by omega,hfin⟩,by simp[intOf]<;>omega⟩|exact⟨by (repeat apply Exists.intro);exact⟨⟨i+1,rfl,by omega,hfin⟩,rfl⟩,by simp[intOf]<;>omega⟩
  ·have hie:i=r:=by omega
   subst hie
   have hlb:∀b∈(SynP.Yb c i l).map (SynP.Q8 [32]),b.length<=137438953536:=by
    intro b hb;rw[List.mem_map]at hb;obtain⟨X,hX,rfl⟩:=hb;have h1:=K7 c i l X hX;refine Nat.le_trans (So [32] 2147483648 X (fun b hb=>HBD.o b (h1.1 b hb))) ?_;refine Nat.le_trans (Nat.mul_le_mul (Nat.le_trans h1.2 hc) (Nat.le_refl _)) (by decide)
   have hjl:=So [59,32] 137438953536 _ hlb;rw[List.length_map,Ru]at hjl;obtain⟨T,hT⟩:=xq (SynP.Q8 [59,32] ((SynP.Yb c i l).map (SynP.Q8 [32])));rw[<-hT]at hjl
   have hjl2:T.length<=8796093026432:=by
    refine Nat.le_trans hjl (Nat.le_trans (Nat.mul_le_mul hr (Nat.le_refl _)) (by decide))
   have HT:=zq hT;clear hjl hlb hT;go_wp2_with fail
   have hJ:=Ml _ ((SynP.Yb c i l).map (SynP.Q8 [32])) ⟨#[59,32]⟩ _ (SS.of_row HOWN.o) (by rw[List.length_map,Ru];omega) (by
    show (SynP.Q8 [59,32] _).length<=_
    rw[<-HT.o];omega)
   rw[show SynP.Q8 (⟨#[59,32]⟩:ByteArray).data.toList ((SynP.Yb c i l).map (SynP.Q8 [32]))=T from HT.o.symm]at hJ;refine hJ.mono ?_;rintro e w1 ⟨rfl,hb1⟩;have HB1:=zq hb1;clear hb1 hJ;go_wp2_with fail;go_ret;refine⟨?_,HBL.o.trans (HB1.o.mono HBL.o.size)⟩
   have e:Zr i c l=[91]++T++[93]:=by rw[HT.o];unfold Zr;rw[if_neg HL.o]
   show Ending.returned (.string ((⟨#[91]⟩:ByteArray)++⟨T.toArray⟩++⟨#[93]⟩))=_;rw[e,Jl,Jl];simp
end Go.Proofs.YtgfmiladfeoldaaGreatDoor
