import Derived.Test.YtgfmiladfeoldaaGreatDoorPk14
import Derived.Lib.SlBytesConst
set_option linter.unusedSimpArgs false
set_option linter.unusedVariables false
set_option maxRecDepth 100000
set_option maxHeartbeats 16000000
namespace Go.Proofs.YtgfmiladfeoldaaGreatDoor
open Go.RowKit ag aF ai
theorem Qxs (neg:Bool)(n:Nat)(v:Value)(w:World)(hv:lY w v n):Calls Tryz.prog 144 #[.agg #[.bool neg,v]] w fun e w'=>e=.returned (.int .i64 (Vo neg n))/\Below w.heap.size w w':=by
 obtain⟨ao,L,cap,rfl⟩:∃ao L cap,v=.slice ao L cap:=by obtain⟨xs,h1,-,-⟩:=hv;obtain⟨ao,cap,rfl,-⟩:=h1.2;exact⟨_,_,_,rfl⟩
 have hb0:=Qq w (.cells #[.bool neg,.slice ao L cap] 62);have bS:=zq hb0;have HL:=zq (Fd neg n _ _ (hv.below hb0));clear hv hb0;go_enter Tryz.func144,Tryz.ntmps144;go_wp2_with fail;refine HL.o.mono ?_;rintro e w1 ⟨v1,rfl,hf,hb⟩;obtain⟨iZ,L1,cO,rfl,hL⟩:=hf.val;have HB:=zq (Qz bS.o hb);clear hf hb;by_cases hn:n=0
 ·have lu:L1=0:=hL.2 hn
  subst lu
  have hb:(neg && decide (0<n))=false:=by rw[hn];simp
  have HS:Hid (Vo neg n=0):=by show _=_;unfold Vo;rw[if_pos hn]
  have aD:=zq (Qz HB.o (Qq w1 (.cells #[.bool false,.slice iZ 0 cO] 62)));rw[hb];clear hn hL hb;go_wp2_with fail;go_ret;exact⟨by rw[HS.o];rfl,aD.o⟩
 have lu:(0:Int)<(L1:Int):=by
  rcases aeN L1 with h|h
  ·exact absurd (hL.1 h) hn
  omega
 have hb:(neg && decide (0<n))=neg:=by rw[abH (show 0<n by omega),Bool.and_true]
 rw[hb]
 have HS:Hid (Vo neg n=if neg then -1 else 1):=by show _=_;unfold Vo;rw[if_neg hn]
 clear hn hL hb
 cases neg with
 |true=>
  have aD:=zq (Qz HB.o (Qq w1 (.cells #[.bool true,.slice iZ L1 cO] 62)));go_wp2_with fail;go_ret
  exact⟨by rw[HS.o];rfl,aD.o⟩
 |false=>have aD:=zq (Qz HB.o (Qq w1 (.cells #[.bool false,.slice iZ L1 cO] 62)));go_wp2_with fail;go_ret;exact⟨by rw[HS.o];rfl,aD.o⟩
theorem Qy5 (neg:Bool)(n:Nat)(v:Value)(w:World)(hv:lY w v n):Calls Tryz.prog 81 #[.agg #[.bool neg,v]] w fun e w'=>e=.returned (.string ⟨(Zz neg n).toArray⟩)/\Below w.heap.size w w':=by
 obtain⟨xs,h1,hn,hl⟩:=hv;obtain⟨ao,cap,rfl,-⟩:=h1.2;have hb0:=Qq w (.cells #[.bool neg,.slice ao xs.length cap] 62);have bS:=zq hb0;have HD:=zq (Qk5 xs _ _ (h1.below hb0) hl);have I2:Hid (∀w5,Below w.heap.size w w5->lY w5 (.slice ao xs.length cap) n):=fun w5 h5=>⟨xs,h1.below h5,hn,hl⟩
 have hc0:(w.alloc (.cells #[.bool neg,.slice ao xs.length cap] 62)).cell? ⟨w.heap.size,0,none⟩=some (.bool neg):=by rw[World.cell?_alloc_at _ _ _ _ rfl];rfl
 have hc1:(w.alloc (.cells #[.bool neg,.slice ao xs.length cap] 62)).cell? ⟨w.heap.size,1,none⟩=some (.slice ao xs.length cap):=by rw[World.cell?_alloc_at _ _ _ _ rfl];rfl
 have vJ:=zq hc0;have EN:=zq hc1
 have aaB: ¬9223372036854775807<1+(Zo n).length:=by have:=Dg (xs:=xs) (by omega) h1.ok;rw[hn]at this;omega
 rw[hn]at HD;obtain⟨L,hL⟩:=xq xs.length;rw[<-hL]at HD I2 bS vJ EN ⊢;obtain⟨k,hk⟩:=xq (Vo neg n);have HK:=zq hk
 have FL:Hid (Zz neg n=if k<0 then 45::ae.ar n else ae.ar n):=by
  show _=_;rw[hk];unfold Zz Vo;by_cases h0:n=0
  ·rw[if_neg (by simp[h0]),if_pos h0,if_neg (by omega)];rfl
  cases neg with
  |true=>rw[if_pos ⟨rfl,h0⟩,if_neg h0,if_pos rfl,if_pos (by omega)];rfl
  |false=>rw[if_neg (by simp),if_neg h0,if_neg (by simp)];rfl
 clear h1 hn hl hb0 hc0 hc1 hk hL;by_cases bF:k<0
 ·have hT:Zz neg n=45::ae.ar n:=by rw[FL.o,if_pos bF]
  have HT:=zq hT;clear hT;go_enter Tryz.func81,Tryz.ntmps81;go_wp2_with fail;refine HD.o.mono ?_;rintro e w1 ⟨rfl,hb1⟩;have aC:=zq (Qz bS.o hb1);have d0:=(hb1.cell (p:=⟨w.heap.size,0,none⟩) (by simp)).trans vJ.o;have d1:=(hb1.cell (p:=⟨w.heap.size,1,none⟩) (by simp)).trans EN.o;clear hb1;go_wp2_with fail;refine(Qxs neg n _ _ (I2.o _ aC.o)).mono ?_;rintro e w2 ⟨rfl,hb2⟩;rw[<-HK.o];have aD:=zq (Qz aC.o hb2);clear hb2;go_wp2_with fail;go_ret;refine⟨?_,aD.o⟩;rw[HT.o];show Ending.returned (.string ((⟨#[45]⟩:ByteArray)++⟨(Zo n).toArray⟩))=_;rw[Jb,Gq];simp
 have hT:Zz neg n=ae.ar n:=by rw[FL.o,if_neg bF]
 have HT:=zq hT;clear hT;go_enter Tryz.func81,Tryz.ntmps81;go_wp2_with fail;refine HD.o.mono ?_;rintro e w1 ⟨rfl,hb1⟩;have aC:=zq (Qz bS.o hb1);have d0:=(hb1.cell (p:=⟨w.heap.size,0,none⟩) (by simp)).trans vJ.o;have d1:=(hb1.cell (p:=⟨w.heap.size,1,none⟩) (by simp)).trans EN.o;clear hb1;go_wp2_with fail;refine(Qxs neg n _ _ (I2.o _ aC.o)).mono ?_;rintro e w2 ⟨rfl,hb2⟩;rw[<-HK.o];have aD:=zq (Qz aC.o hb2);clear hb2;go_wp2_with fail;go_ret;exact⟨by rw[HT.o];rfl,aD.o⟩
def Vp (x:List Nat)(y:Nat):Int:=if 1<x.length then 1 else match x with| []=> -1|d::_=>if d<y then -1 else if y<d then 1 else 0
theorem Qvw (B:Nat)(x:List Nat)(y:Nat)(xv yv:Value)(w:World)(hx:bX B w xv x)(hy:bX B w yv [y]):Calls Tryz.prog 248 #[xv,yv] w fun e w'=>e=.returned (.int .i64 (Vp x y))/\Below w.heap.size w w':=by
 obtain⟨xo,adn,rfl,x1,x2,x3⟩:=Qj hx;obtain⟨yo,lS,rfl,y1,y2,y3⟩:=Qj hy;obtain⟨gy,rfl,-,yl,yc⟩:=y3 (by simp)
 have cy:w.cell? ⟨gy,0,none⟩=some (.int .i64 (y:Nat)):=by rw[yc 0 (by simp)];rfl
 cases x with
 |nil=>
  clear hx hy x3 y3 yc;go_enter Tryz.func248,Tryz.ntmps248;go_wp2_with fail;go_ret
  exact⟨rfl,aa8 _ _⟩
 |cons d l=>
  cases l with
  |cons d2 l=>
   have hne:(((d::d2::l).length:Nat):Int)≠1:=by simp only[aaf];omega
   have HO:Hid (Vp (d::d2::l) y=1):=by show _=_;unfold Vp;rw[if_pos (by simp)]
   obtain⟨n,hn⟩:∃n,n=(d::d2::l).length:=⟨_,rfl⟩
   have jX:2<=n:=by rw[hn];simp
   rw[<-hn]
   have fj:(((n:Nat):Int) !=1)=true:=by simp;omega
   have eK:decide (((n:Nat):Int)<1)=false:=abC (by omega);clear hx hy x3 y3 yc hne hn x1;go_enter Tryz.func248,Tryz.ntmps248;go_wp2_with fail;go_ret
   exact⟨by rw[HO.o];rfl,aa8 _ _⟩
  |nil=>
   obtain⟨gx,rfl,-,xl,xc⟩:=x3 (by simp)
   have cx:w.cell? ⟨gx,0,none⟩=some (.int .i64 (d:Nat)):=by rw[xc 0 (by simp)];rfl
   have qC:=World.new_ne w ⟨gx,0,none⟩ cx;have hny:=World.new_ne w ⟨gy,0,none⟩ cy;have UN:=zq cx;have zz:Hid (Below w.heap.size w w.drew.drew/\Below w.heap.size w w.drew):=⟨(aa8 _ _).drew.drew,(aa8 _ _).drew⟩;have HCY:=zq cy;rcases Nat.lt_trichotomy d y with hlt|heq|gN
   ·have h1:decide (d<y)=true:=abH hlt
    have HO:Hid (Vp [d] y= -1):=by show _=_;unfold Vp;rw[if_neg (by simp)];simp[hlt]
    clear hx hy x3 y3 yc xc hlt;go_enter Tryz.func248,Tryz.ntmps248;go_wp2_with fail;go_loop [5] (fun iv=>iv=.int .i64 0) (fun iv=>(intOf iv+1).toNat)
    case atStart=>rfl
    case round=>
     subst hrel;go_wp2_with fail;go_region;go_wp2_with fail;go_ret;exact⟨by rw[HO.o];rfl,by first|exact zz.o.1|exact zz.o.2⟩
   ·have h1:decide (d<y)=false:=abC (by omega)
    have h2:decide (y<d)=false:=abC (by omega)
    have HO:Hid (Vp [d] y=0):=by show _=_;unfold Vp;rw[if_neg (by simp)];simp[heq]
    clear hx hy x3 y3 yc xc heq;go_enter Tryz.func248,Tryz.ntmps248;go_wp2_with fail;go_loopw [5] (fun iv wr=>(iv=.int .i64 0/\wr=w)\/(iv=.int .i64 (-1)/\wr=w.drew.drew)) (fun iv _=>(intOf iv+1).toNat)
    case atStart=>exact .inl ⟨rfl,rfl⟩
    case round=>
     rcases hrel with ⟨rfl,rfl⟩|⟨rfl,rfl⟩
     ·go_wp2_with fail
      go_region;go_wp2_with fail;go_region;go_wp2_with fail;exact⟨.inr ⟨rfl,trivial⟩,by simp[intOf]⟩
     go_wp2_with fail;go_ret;exact⟨by rw[HO.o];rfl,zz.o.1⟩
   have h1:decide (d<y)=false:=abC (by omega);have h2:decide (y<d)=true:=abH gN
   have HO:Hid (Vp [d] y=1):=by show _=_;unfold Vp;rw[if_neg (by simp)];simp[gN];omega
   clear hx hy x3 y3 yc xc gN;go_enter Tryz.func248,Tryz.ntmps248;go_wp2_with fail;go_loop [5] (fun iv=>iv=.int .i64 0) (fun iv=>(intOf iv+1).toNat)
   case atStart=>rfl
   case round=>
    subst hrel;go_wp2_with fail;go_region;go_wp2_with fail;go_region;go_wp2_with fail;go_ret;exact⟨by rw[HO.o];rfl,by first|exact zz.o.1|exact zz.o.2⟩
end Go.Proofs.YtgfmiladfeoldaaGreatDoor
namespace aq
open ae ag
structure Op where
 kind:Nat
 name:Bytes
 args:Nat
structure RW where
 ts:List Tok
 vals:List Ex
 stack:List Op
 want:Bool
 pw:Bool
 depth:Nat
def lev (k:Nat):Nat:=if k=43\/k=45 then 1 else if k=42 then 2 else if k=110 then 3 else 0
def bin (k:Nat)(a b:Ex):Ex:=if k=43 then .add a b else if k=45 then .sub a b else .mul a b
def red (least:Nat):List Op->List Ex->List Op×List Ex
 | [],V=>([],V)
 |o::S,V=>
  if lev o.kind<least then (o::S,V)
  else if o.kind=110 then
   match V with
   | []=>(o::S,V)
   |a::V=>red least S (.neg a::V)
  else
   match V with
   |b::a::V=>red least S (bin o.kind a b::V)
   |V=>(o::S,V)
def Qfy (x:Bytes)(k:Nat)(V:List Ex):List Ex:=.call x (lO (V.take k).reverse)::V.drop k
abbrev MR:=Except (Nat×Nat) RW
def has (w:RW)(e:Ex)(ts:List Tok):MR:=.ok {w with ts:=ts,vals:=e::w.vals,want:=false,pw:=false}
def Qfq (fin:Nat)(w:RW):MR:=
 if Qm 1 w.ts then has w (.num (Xg (Xx w.ts))) w.ts.tail
 else if Qm 2 w.ts && Qv [40] w.ts.tail then
  if 100<w.depth+1 then .error (X5 fin w.ts.tail,5)
  else .ok {w with ts:=w.ts.tail.tail,stack:=⟨102,Xx w.ts,0⟩::w.stack,depth:=w.depth+1}
 else if Qm 2 w.ts then has w (.name (Xx w.ts)) w.ts.tail
 else if Qv [45] w.ts then .ok {w with ts:=w.ts.tail,stack:=⟨110,[],0⟩::w.stack}
 else if Qv [40] w.ts then
  if 100<w.depth+1 then .error (X5 fin w.ts,5)
  else .ok {w with ts:=w.ts.tail,stack:=⟨40,[],0⟩::w.stack,depth:=w.depth+1}
 else if Qv [91] w.ts then
  match Xl fin (w.ts.length+3) ⟨w.ts,w.depth⟩ with
  |some (.ok (m,s))=>has w (.mat m) s.ts
  |some (.error e)=> .error e
  |none=> .error (0,0)
 else if Qv [123] w.ts then
  match Q8 fin (w.ts.length+2) ⟨w.ts,w.depth⟩ with
  |some (.ok (l,s))=>has w (.cpx l) s.ts
  |some (.error e)=> .error e
  |none=> .error (0,0)
 else .error (X5 fin w.ts,14)
def Fv (w:RW)(k:Nat):MR:=
 let r:=red (lev k) w.stack w.vals
 .ok {w with ts:=w.ts.tail,vals:=r.2,stack:=⟨k,[],0⟩::r.1,want:=true}
def close (fin:Nat)(w:RW):MR:=
 if w.depth=0 then .error (X5 fin w.ts,14)
 else
  let r:=red 1 w.stack w.vals
  match r.1 with
  | []=> .error (0,0)
  |o::S=> .ok {w with ts:=w.ts.tail,vals:=if o.kind=102 then Qfy o.name (o.args+1) r.2 else r.2,stack:=S,depth:=w.depth-1,pw:=false}
def Qdo (fin:Nat)(w:RW):MR:=
 let r:=red 1 w.stack w.vals
 match r.1 with
 | []=> .error (0,0)
 |o::S=>if o.kind=102\/o.kind=100 then .ok {w with ts:=w.ts.tail,vals:=r.2,stack:={o with args:=o.args+1}::S,want:=true} else .error (X5 fin w.ts,14)
def Qd6 (w:RW):List Ex:=match w.vals with|a::V=> .turn a::V| []=>[]
def abX (w:RW)(n:Nat):List Ex:=match w.vals with|a::V=> .pow a n::V| []=>[]
def behind (fin:Nat)(w:RW):MR:=
 if Qv [39] w.ts then if w.pw then .error (X5 fin w.ts,14) else .ok {w with ts:=w.ts.tail,vals:=Qd6 w}
 else if Qv [94] w.ts then
  if w.pw then .error (X5 fin w.ts,14)
  else if Qm 1 w.ts.tail then .ok {w with ts:=w.ts.tail.tail,vals:=abX w (Xg (Xx w.ts.tail)),pw:=true}
  else .error (X5 fin w.ts.tail,14)
 else if Qv [43] w.ts then Fv w 43
 else if Qv [45] w.ts then Fv w 45
 else if Qv [42] w.ts then Fv w 42
 else if Qv [41] w.ts then close fin w
 else if Qv [44] w.ts then Qdo fin w
 else .error (X5 fin w.ts,14)
def step (fin:Nat)(w:RW):MR:=if w.want then Qfq fin w else behind fin w
def ZX (fin:Nat)(w:RW):MR:=if w.want||decide (0<w.depth) then .error (fin,14) else .ok w
inductive FT (fin:Nat):RW->MR->Prop
 |fin (w:RW):w.ts=[]->FT fin w (ZX fin w)
 |go (w w':RW) (r:MR):w.ts≠[]->step fin w=.ok w'->FT fin w' r->FT fin w r
 |stop (w:RW) (e:Nat×Nat):w.ts≠[]->step fin w=.error e->FT fin w (.error e)
def uG (ks:aV)(V:List Ex):List Ex:=
 match ks with
 | .nil=>V
 | .cons a l=>uG l (a::V)
theorem Ji {x:Bytes}{ts:List Tok}(h:Qv x ts=true):ts≠[]:=by rintro rfl;cases h
theorem Qkr {k j:Nat}{ts:List Tok}(h:Qm k ts=true)(hne:k≠j):Qm j ts=false:=by
 unfold Qm at h ⊢;split at h
 ·simp only[adN]at h
  rw[h];simpa using hne
 cases h
end aq
namespace aq
open ae ag
end aq
namespace aq
open ae ag
def Qds (w:RW)(n:Ln):Prop:=
 ∃o V,red 1 w.stack w.vals=([o],V)/\((o.kind=108/\ ∃e,V=[e]/\n=.lets o.name e)\/(o.kind=100/\n=.cmd o.name (lO V.reverse)))
end aq
namespace aq
open ae ag
def Qd1 (k:Nat):Bool:=k==43||k==45||k==42
def Qd5:List Op->Nat
 | []=>0
 |o::S=>(if Qd1 o.kind then 1 else 0)+o.args+Qd5 S
end aq
namespace aq
open ae ag
def Pa (fin f:Nat)(lens:List Nat)(r:Nat×List (Bool×Nat))(s:St):PR (List (Bool×Nat)×List Nat):=
 if Qv [93] s.ts then ret (r.2,lens++[r.1]) s.aW
 else (want fin [59] s).bind fun _ s=>entries fin f r.2 (lens++[r.1]) s
def Dp (fin f g:Nat)(rows:List (List (Bool×Nat)))(cur:List (Bool×Nat))(s:St):PR (List (Bool×Nat)×List Nat):=
 (Qt fin g cur.length (rows.flatten++cur) s).bind (Pa fin f (rows.map List.length))
abbrev jh:=Except (Nat×Nat) ((List (Bool×Nat)×List Nat)×St)
def Ua (fin:Nat)(rows:List (List (Bool×Nat)))(cur:List (Bool×Nat))(s:St)(r:jh):Prop:=∃f g,Dp fin f g rows cur s=some r
theorem Qwn {fin f:Nat}{s:St}{r:jh}(h:entries fin f [] [] s=some r):Ua fin [] [] s r:=by
 cases f with
 |zero=>cases h
 |succ f=>exact⟨f,f,h⟩
def Yn (s:St):St:=if Qv [45] s.ts then s.aW else s
theorem Qku {fin g n:Nat}{acc:List (Bool×Nat)}{s:St}(h:(n=0||Qv [45] s.ts||Qm 1 s.ts)=true):Qt fin (g+1) n acc s=(Qa fin (Yn s)).bind fun m s'=>Qt fin g (n+1) (acc++[(Qv [45] s.ts && decide (0<m),m)]) s':=by
 conv=>lhs;unfold Qt
 rw[if_pos h];rfl
theorem Qbd {fin:Nat}{rows:List (List (Bool×Nat))}{cur:List (Bool×Nat)}{s:St}{r:jh}(h:Ua fin rows cur s r)(hk:Qm 1 (Yn s).ts=true):Ua fin rows (cur++[(Qv [45] s.ts && decide (0<Xg (Xx (Yn s).ts)),Xg (Xx (Yn s).ts))]) (Yn s).aW r:=by
 obtain⟨f,g,h⟩:=h
 cases g with
 |zero=>cases h
 |succ g=>
  have E:(cur.length=0||Qv [45] s.ts||Qm 1 s.ts)=true:=by
   cases hm:Qv [45] s.ts with
   |true=>simp
   |false=>
    have e:Yn s=s:=by unfold Yn;rw[hm];rfl
    rw[e]at hk;rw[hk];simp
  unfold Dp at h;rw[Qku E]at h;unfold Qa at h;rw[if_pos hk]at h;refine⟨f,g,?_⟩;unfold Dp;rw[aac,aaJ,<-aar];exact h
theorem Qbf {fin:Nat}{rows:List (List (Bool×Nat))}{cur:List (Bool×Nat)}{s:St}{r:jh}(h:Ua fin rows cur s r)(hk:Qm 1 (Yn s).ts=false)(hn:Qv [45] s.ts=true\/cur=[]):r=.error (X5 fin (Yn s).ts,14):=by
 obtain⟨f,g,h⟩:=h
 cases g with
 |zero=>cases h
 |succ g=>
  have E:(cur.length=0||Qv [45] s.ts||Qm 1 s.ts)=true:=by
   rcases hn with h|rfl
   ·rw[h];simp
   simp
  unfold Dp at h;rw[Qku E]at h;unfold Qa at h;rw[if_neg (by rw[hk];decide)]at h
  cases h
  rfl
theorem Gw {fin:Nat}{rows:List (List (Bool×Nat))}{cur:List (Bool×Nat)}{s:St}{r:jh}(h:Ua fin rows cur s r)(hm:Qv [45] s.ts=false)(hk:Qm 1 s.ts=false)(hn:cur≠[]):∃f,Pa fin f (rows.map List.length) (cur.length,rows.flatten++cur) s=some r:=by
 obtain⟨f,g,h⟩:=h
 cases g with
 |zero=>cases h
 |succ g=>
  refine⟨f,?_⟩;unfold Dp at h
  have e:Qt fin (g+1) cur.length (rows.flatten++cur) s=ret (cur.length,rows.flatten++cur) s:=by unfold Qt;rw[if_neg (by rw[hm,hk];simpa using hn)]
  rw[e]at h;exact h
theorem Qbc {fin:Nat}{rows:List (List (Bool×Nat))}{cur:List (Bool×Nat)}{s:St}{r:jh}(h:Ua fin rows cur s r)(hm:Qv [45] s.ts=false)(hk:Qm 1 s.ts=false)(hn:cur≠[])(he:Qv [93] s.ts=true):r=.ok (((rows++[cur]).flatten,(rows++[cur]).map List.length),s.aW):=by
 obtain⟨f,h⟩:=Gw h hm hk hn;unfold Pa at h;rw[if_pos he]at h
 cases h
 simp
theorem Qqu {x y:Bytes}{ts:List Tok}(h:Qv x ts=true)(hne:x≠y):Qv y ts=false:=by
 unfold Qv at h ⊢;split at h
 ·simp only[aaY,adN]at h
  obtain⟨-,rfl⟩:=h;simp[hne]
 cases h
theorem Qgb {fin:Nat}{rows:List (List (Bool×Nat))}{cur:List (Bool×Nat)}{s:St}{r:jh}(h:Ua fin rows cur s r)(hm:Qv [45] s.ts=false)(hk:Qm 1 s.ts=false)(hn:cur≠[])(he:Qv [59] s.ts=true):Ua fin (rows++[cur]) [] s.aW r:=by
 obtain⟨f,h⟩:=Gw h hm hk hn;unfold Pa at h;rw[if_neg (by rw[Qqu he (by decide)];decide)]at h;unfold want at h;rw[if_pos he]at h;simp only[Y9]at h
 cases f with
 |zero=>cases h
 |succ f=>refine⟨f,f,?_⟩;unfold entries at h;unfold Dp;simp only[aaG,ab4,List.flatten_append,ado,aeR,List.flatten_nil,abK,aex];exact h
theorem Qgf {fin:Nat}{rows:List (List (Bool×Nat))}{cur:List (Bool×Nat)}{s:St}{r:jh}(h:Ua fin rows cur s r)(hm:Qv [45] s.ts=false)(hk:Qm 1 s.ts=false)(hn:cur≠[])(he:Qv [93] s.ts=false)(CG:Qv [59] s.ts=false):r=.error (X5 fin s.ts,14):=by
 obtain⟨f,h⟩:=Gw h hm hk hn;unfold Pa at h;rw[if_neg (by rw[he];decide)]at h;unfold want at h;rw[if_neg (by rw[CG];decide)]at h
 cases h
 rfl
def Pr (fin f:Nat)(acc:List (List Nat))(x:List Nat)(s:St):PR (List (List Nat)):=
 if Qv [125] s.ts then ret (acc++[x]) s.aW
 else (want fin [44] s).bind fun _ s=>Xw fin f (acc++[x]) s
abbrev kU:=Except (Nat×Nat) (List (List Nat)×St)
def J4 (fin:Nat)(acc:List (List Nat))(cur:List Nat)(s:St)(r:kU):Prop:=
 if cur=[] then ∃f,Xw fin f acc s=some r else ∃f g,(Xj fin g cur s).bind (Pr fin f acc)=some r
theorem Qbv {fin:Nat}{acc:List (List Nat)}{cur:List Nat}{s:St}{r:kU}(h:J4 fin acc cur s r)(hk:Qm 1 s.ts=true):J4 fin acc (cur++[Xg (Xx s.ts)]) s.aW r:=by
 unfold J4;rw[if_neg (by simp)];by_cases hc:cur=[]
 ·unfold J4 at h
  rw[if_pos hc]at h;obtain⟨f,h⟩:=h
  cases f with
  |zero=>cases h
  |succ f=>unfold Xw Qa at h;rw[if_pos hk]at h;rw[hc];exact⟨f,f,h⟩
 unfold J4 at h;rw[if_neg hc]at h;obtain⟨f,g,h⟩:=h
 cases g with
 |zero=>cases h
 |succ g=>unfold Xj Qa at h;rw[if_pos hk,if_pos hk]at h;exact⟨f,g,h⟩
theorem Qbz {fin:Nat}{acc:List (List Nat)}{s:St}{r:kU}(h:J4 fin acc [] s r)(hk:Qm 1 s.ts=false):r=.error (X5 fin s.ts,14):=by
 unfold J4 at h;rw[if_pos rfl]at h;obtain⟨f,h⟩:=h
 cases f with
 |zero=>cases h
 |succ f=>
  unfold Xw Qa at h;rw[if_neg (by rw[hk];decide)]at h
  cases h
  rfl
theorem H8 {fin:Nat}{acc:List (List Nat)}{cur:List Nat}{s:St}{r:kU}(h:J4 fin acc cur s r)(hk:Qm 1 s.ts=false)(hc:cur≠[]):∃f,Pr fin f acc cur s=some r:=by
 unfold J4 at h;rw[if_neg hc]at h;obtain⟨f,g,h⟩:=h
 cases g with
 |zero=>cases h
 |succ g=>refine⟨f,?_⟩;unfold Xj at h;rw[if_neg (by rw[hk];decide)]at h;exact h
theorem Qbj {fin:Nat}{acc:List (List Nat)}{cur:List Nat}{s:St}{r:kU}(h:J4 fin acc cur s r)(hk:Qm 1 s.ts=false)(hc:cur≠[])(he:Qv [125] s.ts=true):r=.ok (acc++[cur],s.aW):=by
 obtain⟨f,h⟩:=H8 h hk hc;unfold Pr at h;rw[if_pos he]at h
 cases h;rfl
theorem Qgx {fin:Nat}{acc:List (List Nat)}{cur:List Nat}{s:St}{r:kU}(h:J4 fin acc cur s r)(hk:Qm 1 s.ts=false)(hc:cur≠[])(he:Qv [44] s.ts=true):J4 fin (acc++[cur]) [] s.aW r:=by obtain⟨f,h⟩:=H8 h hk hc;unfold Pr at h;rw[if_neg (by rw[Qqu he (by decide)];decide)]at h;unfold want at h;rw[if_pos he]at h;unfold J4;rw[if_pos rfl];exact⟨f,h⟩
theorem Qgz {fin:Nat}{acc:List (List Nat)}{cur:List Nat}{s:St}{r:kU}(h:J4 fin acc cur s r)(hk:Qm 1 s.ts=false)(hc:cur≠[])(he:Qv [125] s.ts=false)(CG:Qv [44] s.ts=false):r=.error (X5 fin s.ts,14):=by
 obtain⟨f,h⟩:=H8 h hk hc;unfold Pr at h;rw[if_neg (by rw[he];decide)]at h;unfold want at h;rw[if_neg (by rw[CG];decide)]at h
 cases h;rfl
theorem Tf (sep:Bytes):∀(l:List Bytes) (a:Bytes),Qb sep (l++[a])=l.flatMap (· ++sep)++a
 | [],a=>rfl
 | [b],a=>by simp[Qb]
 |b::c::l,a=>by have ih:=Tf sep (c::l) a;show b++sep++Qb sep (c::l++[a])=_;rw[ih];simp
theorem Gu (sep:Bytes)(l:List Bytes)(a:Bytes):Qb sep (l++[a])=Qb sep l++(if l=[] then [] else sep)++a:=by
 rcases l.eq_nil_or_concat with rfl|⟨l',b,rfl⟩
 ·rfl
 rw[List.concat_eq_append,Tf,Tf,if_neg (by simp)];simp
def Xd (acc:List (List Nat))(cur:List Nat):Bytes:=[123]++(acc.map fun x=>Qb [32] (x.map ar)).flatMap (· ++[44,32])++Qb [32] (cur.map ar)
theorem Qz4 (acc:List (List Nat))(cur:List Nat)(n:Nat):Xd acc (cur++[n])=Xd acc cur++((if cur=[] then [] else [32])++ar n):=by
 unfold Xd;rw[ado,List.map_singleton,Gu];by_cases h:cur=[]
 ·rw[if_pos h,if_pos (by rw[h];rfl)];simp
 rw[if_neg h,if_neg (by simpa using h)];simp
theorem Kg (acc:List (List Nat))(cur:List Nat):Xd (acc++[cur]) []=Xd acc cur++[44,32]:=by unfold Xd;simp[Qb]
theorem Qz3 (acc:List (List Nat))(cur:List Nat):cP (acc++[cur])=Xd acc cur++[125]:=by unfold cP Xd;rw[ado,List.map_singleton,Tf];simp
def Ud (c i:Nat):Bytes:=if i=0 then [] else if i % c=0 then [59,32] else [32]
def bm (c:Nat):Nat->List Bytes->Bytes
 |_,[]=>[]
 |i,a::l=>Ud c i++a++bm c (i+1) l
theorem Nq (c:Nat):∀(a b:List Bytes) (i:Nat),bm c i (a++b)=bm c i a++bm c (i+a.length) b
 | [],b,i=>rfl
 |x::a,b,i=>by show Ud c i++x++bm c (i+1) (a++b)=Ud c i++x++bm c (i+1) a++bm c (i+(a.length+1)) b;rw[Nq c a b (i+1),show i+1+a.length=i+(a.length+1) from by omega];simp
theorem Qkt (c k:Nat):∀(a:List Bytes) (j:Nat),0<j->j+a.length<=c->bm c (k*c+j) a=a.flatMap ([32]++ ·)
 | [],_,_,_=>rfl
 |x::a,j,hj,h=>by
  simp only[aaf]at h
  have e:(k*c+j) % c=j:=by rw[aaW,Nat.mul_add_mod,Nat.mod_eq_of_lt (by omega)]
  show Ud c (k*c+j)++x++bm c (k*c+j+1) a=_;rw[show k*c+j+1=k*c+(j+1) from by omega,Qkt c k a (j+1) (by omega) (by omega)];unfold Ud;rw[if_neg (by omega),if_neg (by omega)];simp
theorem Pj (sep a:Bytes):∀l:List Bytes,Qb sep (a::l)=a++l.flatMap (sep++ ·)
 | []=>by simp[Qb]
 |b::l=>by show a++sep++Qb sep (b::l)=_;rw[Pj sep b l];simp
theorem Qqf {c k:Nat}{a:List Bytes}(ha:a.length=c)(hc:0<c):bm c (k*c) a=(if k=0 then [] else [59,32])++Qb [32] a:=by
 cases a with
 |nil=>simp at ha;omega
 |cons x a=>
  simp only[aaf]at ha;show Ud c (k*c)++x++bm c (k*c+1) a=_;rw[Qkt c k a 1 (by omega) (by omega),Pj];unfold Ud;by_cases h:k=0
  ·rw[h];simp
  rw[if_neg (by have:=aeO (aeM h) hc;omega),if_pos (by rw[Nat.mul_mod_left]),if_neg h];simp
theorem Qqb {c:Nat}(hc:0<c):∀(r k:Nat) (l:List Bytes),l.length=r*c->0<k->bm c (k*c) l=(Xq c r l).flatMap fun x=>[59,32]++Qb [32] x
 |0,k,l,h,_=>by
  obtain rfl:=aaq (by omega:l.length=0)
  rfl
 |r+1,k,l,h,hk=>by
  have E:(l.take c).length=c:=by rw[aak,h,aeF];omega
  conv=>lhs;rw[<-adA c l,Nq,E,show k*c+c=(k+1)*c from by rw[aeF]]
  rw[Qqf E hc,if_neg (by omega),Qqb hc r (k+1) (l.drop c) (by rw[aag,h,aeF];omega) (by omega)];rfl
theorem Qw6 {c r:Nat}(hc:0<c){l:List Bytes}(h:l.length=(r+1)*c):bm c 0 l=Qb [59,32] ((Xq c (r+1) l).map (Qb [32])):=by
 have E:(l.take c).length=c:=by rw[aak,h,aeF];omega
 conv=>lhs;rw[<-adA c l,Nq,E]
 have e:bm c 0 (l.take c)=Qb [32] (l.take c):=by have:=Qqf (k:=0) E hc;rw[aeD]at this;rw[this];rfl
 have e2:bm c (0+c) (l.drop c)=(Xq c r (l.drop c)).flatMap fun x=>[59,32]++Qb [32] x:=by have:=Qqb hc r 1 (l.drop c) (by rw[aag,h,aeF];omega) (by omega);rw[ad0]at this;rw[abx];exact this
 rw[e,e2];show _=Qb [59,32] (Qb [32] (l.take c)::(Xq c r (l.drop c)).map (Qb [32]));rw[Pj,List.flatMap_map]
end aq
namespace Go.Proofs.YtgfmiladfeoldaaGreatDoor
open Go.RowKit ag ai
theorem We:∀(k u:Nat),u<=k->Lib.decDigits u=ae.ar u
 |k,u,h=>by
  by_cases h0:u=0
  ·subst h0
   rw[Lib.decDigits_one (by omega)];rfl
  have hd:ae.ar u=(dg u).map fun d=>UInt8.ofNat (48+d):=by unfold ae.ar;rw[if_neg h0]
  by_cases h1:u<10
  ·rw[Lib.decDigits_one h1,hd,Jc (by omega),show u / 10=0 by omega,Zv,show u % 10=u by omega];rfl
  cases k with
  |zero=>omega
  |succ k=>
   have ih:=We k (u / 10) (by omega)
   have E:ae.ar (u / 10)=(dg (u / 10)).map fun d=>UInt8.ofNat (48+d):=by unfold ae.ar;rw[if_neg (by omega)]
   rw[Lib.decDigits,dif_neg h1,ih,hd,E,Jc (show 0<u by omega),ado];rfl
theorem Qy1 (r c:Nat)(ao:Option Addr)(cap:Nat)(w:World)(hr:r<=64)(hc:c<=64)(h0:r=0\/c=0):Calls Tryz.prog 82 #[.int .i64 (r:Nat),.int .i64 (c:Nat),.slice ao 0 cap] w fun e w'=>e=.returned (.string ⟨(Ze r c []).toArray⟩)/\w=w':=by
 have q1:=Tg hr;have q2:=Tg hc
 have ye:Hid (∀w,Calls Tryz.prog 41 #[.int .i64 (r:Nat)] w fun e w'=>e=.returned (.string ⟨(ae.ar r).toArray⟩)/\w'=w):=fun w=>by have:=Tryz.strconv_Itoa_small r (by omega) w;rw[We r r (aaa _)]at this;exact this
 have yf:Hid (∀w,Calls Tryz.prog 41 #[.int .i64 (c:Nat)] w fun e w'=>e=.returned (.string ⟨(ae.ar c).toArray⟩)/\w'=w):=fun w=>by have:=Tryz.strconv_Itoa_small c (by omega) w;rw[We c c (aaa _)]at this;exact this
 obtain⟨A,hA⟩:=xq (ae.ar r);obtain⟨B,hB⟩:=xq (ae.ar c);rw[<-hA]at q1 ye;rw[<-hB]at q2 yf;have HA:=zq hA;have HB:=zq hB;clear hA hB
 have HE:Hid (Ending.returned (.string ((⟨#[91]⟩:ByteArray)++⟨A.toArray⟩++⟨#[58]⟩++⟨B.toArray⟩++⟨#[93]⟩))=Ending.returned (.string ⟨(Ze r c []).toArray⟩)):=by
  show _=_
  have e:Ze r c []=[91]++A++[58]++B++[93]:=by rw[HA.o,HB.o];unfold Ze;rw[if_pos rfl]
  rw[e,Jb,Jb,Jb,Jb];simp
 by_cases lH:r=0
 ·have hz:(((r:Nat):Int)==0)=true:=by simp[lH]
  clear lH h0;go_enter Tryz.func82,Tryz.ntmps82;go_wp2_with fail;refine(ye.o _).mono ?_;rintro e w1 ⟨rfl,rfl⟩;go_wp2_with fail;refine(yf.o _).mono ?_;rintro e w2 ⟨rfl,rfl⟩;go_wp2_with fail;go_ret;exact⟨HE.o,rfl⟩
 have hz:(((r:Nat):Int)==0)=false:=by simp[lH]
 have hz2:(((c:Nat):Int)==0)=true:=by
  rcases h0 with h|h
  ·exact absurd h lH
  simp[h]
 clear lH h0;go_enter Tryz.func82,Tryz.ntmps82;go_wp2_with fail;refine(ye.o _).mono ?_;rintro e w1 ⟨rfl,rfl⟩;go_wp2_with fail;refine(yf.o _).mono ?_;rintro e w2 ⟨rfl,rfl⟩;go_wp2_with fail;go_ret;exact⟨HE.o,rfl⟩
theorem T7 {P:Program}(base:Nat)(t u ty e:TypeId)(i:TypeInfo)(ht:P.underlying t=some (.slice e))(hu:P.underlying u=some .string)(hi:P.info? e=some i)(hz:i.zero=some (.int .u8 0))
  (hsize:i.size=1) (hby:i.bytes=1) (w:World) (g:Nat) (x:Value) (hg:w.cell? ⟨g,0,none⟩=some x) (s:ByteArray) (hs:0<s.size) (hbytes:1+s.size<=140737488355328) (hbase:base<=w.heap.size):
  ∃v' w',(Builtin.append_ #[t,u] ty #[.slice (some ⟨g,0,none⟩) 1 1,.string s]).run P w=.ok v' w'/\w'.ownsRow base e 1 v' (1+s.size) (x::Lib.strCells s)/\w.grownBy w' none:=by
 have E:∀j y,[x][j]?=some y->w.cell? ((⟨g,0,none⟩:Addr).add j)=some y:=by
  intro j y I
  have K:j=0:=by have:=(aae.1 I).1;simp at this;omega
  subst K;simp at I;subst I;exact hg
 have T:=Lib.run_append_grow_string (P:=P) w t u ty e i (.int .u8 0) ht hu hi hz ⟨g,0,none⟩ 1 1 [x] (by rw[hsize];rfl) E s (by omega) (by omega) (by rw[hby];exact growslice_fits (by omega) (by omega));have J:=grownCap_ge w (1+s.size) 1 e;have H:grownCap w (1+s.size) 1 e<=maxLen:=grownCap_le_maxLen w (1+s.size) 1 e (by unfold maxLen;omega)
 have h:([x]++Lib.strCells s).length=(1+s.size)*1:=by rw[aac,Lib.strCells_length,aaJ];omega
 refine⟨_,_,T,⟨h,.inr ⟨w.heap.size,_,_,rfl,hbase,aaz w.drew _,J,H,?_,?_⟩⟩,⟨rfl,rfl,rfl,by simp,fun k hk _=>Go.heap_alloc_old w.drew _ hk⟩⟩
 ·have O:(Value.int IntKind.u8 0).cells.size=1:=rfl
  simp only[Array.size_append,List.size_toArray,size_zeroCells,O,aaJ,Lib.strCells_length];omega
 simp only[Array.toList_append,aar];rw[<-aar,<-h];exact List.take_left
theorem Pc {P:Program}{w:World}{ops:Array Oper}{rest:List Oper}{o:Oper}{a:Act}{Q:Exit->Act->World->Prop}(hgd:o.guard=none)(sl x:Operand)(t u:TypeId)
  (ho:o.op=.call {callee:=.builtin .append,args:= #[sl,x],argTypes:= #[t,u]})
  (base:Nat) (e:TypeId) (i:TypeInfo) (ht:P.underlying t=some (.slice e)) (hu:P.underlying u=some .string) (hi:P.info? e=some i) (hz:i.zero=some (.int .u8 0))
  (hsize:i.size=1) (hby:i.bytes=1) (g:Nat) (hs:a.eval sl=.slice (some ⟨g,0,none⟩) 1 1) (y:Value) (hg:w.cell? ⟨g,0,none⟩=some y) (s:ByteArray) (hx:a.eval x=.string s) (hs0:0<s.size)
  (hbytes:1+s.size<=140737488355328) (hbase:base<=w.heap.size)
  (h:∀v' w',w'.ownsRow base e 1 v' (1+s.size) (y::Lib.strCells s)->w.grownBy w' none->wpList P ops Q rest (a.put o.dst v') w'):wpList P ops Q (o::rest) a w:=by
 refine wpList_plain hgd fun K hK=> ?_;obtain⟨v',w',I,E,H⟩:=T7 (P:=P) base t u o.type e i ht hu hi hz hsize hby w g y hg s hs0 hbytes hbase;unfold Oper.wp execOp;simp only[ho,resolve,invoke,builtin,Sem.run_bind,Sem.run_pure,Result.andThen_ok,List.map_toArray,abK,aex,hs,hx,I];exact hK _ _ (h v' w' E H)
theorem Sw (l:Bytes):Qr l=gJ l:=by simp[Qr,gJ]
def Af (c:Nat)(l:List Bytes)(w1:World)(sv iv:Value)(wr:World):Prop:=
 ∃i:Nat,iv=.int .i64 (i:Nat)/\i<=l.length/\Below w1.heap.size w1 wr/\w1.heap.size<wr.heap.size/\([91]++aq.bm c 0 (l.take i)).length<=1+i*2147483650/\((i=0/\sv=.slice (some ⟨w1.heap.size,0,none⟩) 1 1/\wr.cell? ⟨w1.heap.size,0,none⟩=some (.int .u8 91))\/(0<i/\cz w1.heap.size wr sv ([91]++aq.bm c 0 (l.take i))))
theorem Qg0 {c i:Nat}{l:List Bytes}{b:Bytes}(h:l[i]?=some b):aq.bm c 0 (l.take (i+1))=aq.bm c 0 (l.take i)++(aq.Ud c i++b):=by have E:=(aae.1 h).1;rw[ab2,h];show aq.bm c 0 (l.take i++[b])=_;rw[aq.Nq,aak,abd (by omega),abx];simp[aq.bm]
theorem Qy2 (r c:Nat)(l:List Bytes)(v:Value)(w:World)(hv:SS w v l)(hr:r+1<=64)(hc:c<=64)(hc0:0<c)(hn:l.length=(r+1)*c)(hb:∀b∈l,b.length<=2147483648)(hne:∀b∈l,b≠[]):Calls Tryz.prog 82 #[.int .i64 ((r+1:Nat):Int),.int .i64 (c:Nat),v] w fun e w'=>e=.returned (.string ⟨(Ze (r+1) c l).toArray⟩)/\Below w.heap.size w w':=by
 obtain⟨i0,hi,hz0,hz1,hz2⟩:=abO Tryz.jM;obtain⟨ao,cap,rfl,h1,h2,h3⟩:=hv
 have CP:0<l.length:=by rw[hn];exact aeO (by omega) hc0
 have fh:l≠[]:=by rintro rfl;simp at CP
 obtain⟨g,o,rfl,hg,hcell⟩:=h3 CP;obtain⟨n,bf⟩:=xq l.length;rw[<-bf]at h1 CP hn ⊢
 have oQ:n<=4096:=by rw[hn];exact ab7 hr hc
 have HC:=zq hcell;have HN:=zq hn;have cw:=zq bf;have vF:=zq hb;have bR:=zq hne
 have uL:Hid (Ze (r+1) c l=[91]++aq.bm c 0 l++[93]):=by show _=_;unfold Ze;rw[if_neg fh,aq.Qw6 hc0 (by rw[<-bf];exact hn)]
 have hr1:(((r+1:Nat):Int)==0)=false:=by simp;omega
 have hc1:(((c:Nat):Int)==0)=false:=by simp;omega
 have hc2:((c:Nat):Int)≠0:=by omega
 have HST:Hid (Af c l w (.slice (some ⟨w.heap.size,0,none⟩) 1 1) (.int .i64 0) (w.alloc (.cells #[.int .u8 91] 5 (1,2)))):=
  ⟨0,rfl,aao _,Qq w _,by simp,by simp[aq.bm],.inl ⟨rfl,rfl,(World.cell?_alloc_mark w #[.int .u8 91] 5 (1,2) 0).trans rfl⟩⟩
 have kc:=fun (w:World) (C:Array Value) (n c:Nat)=>Lib.run_convert_bytes_const (P:=Tryz.prog) w 88 5 C n c Tryz.underlying88 Tryz.underlying5;clear hcell hn bf hb fh h3 hne;go_enter Tryz.func82,Tryz.ntmps82;go_wp2_with fail;go_loopw [7,8] (fun sv iv wr=>Af c l w sv iv wr) (fun _ iv _=>n-(intOf iv).toNat)
 case atStart=>exact HST.o
 case round=>
  obtain⟨i,rfl,kr,hbl,uu,hlen,mM⟩:=hrel;rw[<-cw.o]at kr;have aP:=zq hbl;have l9:=zq mM;have HLEN:=zq hlen;clear mM hbl hlen;by_cases hlt:i<n
  ·obtain⟨b,hb⟩:∃b,l[i]?=some b:=⟨_,aad (by rw[<-cw.o];exact hlt)⟩
   have kN:=aah hb;have hbl:=vF.o b kN;have oJ:=bR.o b kN;have hc0':wr.cell? ⟨g,o+i,none⟩=some (.string ⟨b.toArray⟩):=(aP.o.cell (p:=⟨g,o+i,none⟩) hg).trans (HC.o i b hb);have cf:=zq (Qg0 (c:=c) hb);obtain⟨T,hT⟩:=xq (⟨b.toArray⟩:ByteArray);rw[<-hT]at hc0'
   have sV:T.size=b.length:=by rw[hT];show b.toArray.size=_;simp
   have fL:=zq sV
   have PY:Hid (w.cell? ⟨g,o+i,none⟩=some (.string T)):=by rw[hT];exact HC.o i b hb
   have FK:Hid (Lib.strCells T=Qr b):=by show _=_;rw[hT,Wp,Sw]
   have hbp:0<b.length:=adJ.2 oJ
   have hTp:0<T.size:=by omega
   have hTb:T.size<=2147483648:=by omega
   clear hb kN oJ hT sV;rcases l9.o with ⟨eu,DL,vd⟩|⟨hip,hown⟩
   ·subst eu
    subst DL;rw[adt]at hc0';have HM:=zq vd;clear vd;go_wp2_with (at_builtin;refine Pc rfl _ _ 88 9 rfl w.heap.size 5 i0 Tryz.underlying88 Tryz.underlying9 hi hz0 hz1 hz2 w.heap.size rfl _ HM.o T rfl (by omega) (by omega) (by omega) ?_);intro v4 w4 aM az;have bG:Hid (Below w.heap.size w w4):=abq aP.o az (by omega) (fun q hq=>by cases hq)
    have jR:Hid (cz w.heap.size w4 v4 ([91]++aq.bm c 0 (l.take (0+1)))):=by
     show World.ownsRow _ _ _ _ _ _ _
     have e1:[91]++aq.bm c 0 (l.take (0+1))=[91]++b:=by rw[cf.o];simp[aq.bm,aq.Ud]
     have e2:(([91]:Bytes)++b).length=1+T.size:=by rw[aac,fL.o];rfl
     rw[e1,e2,Qo _ b,<-FK.o];exact aM
    have cJ:Hid (w.heap.size<w4.heap.size):=by show _<_;have:=az.size;omega
    clear aM az;go_wp2_with fail
    have ah:Af c l w v4 (.int .i64 1) w4:=⟨0+1,rfl,by rw[<-cw.o];omega,bG.o,cJ.o,by
     rw[cf.o];simp[aq.bm,aq.Ud]
     omega,.inr ⟨by omega,jR.o⟩⟩
    first|exact⟨ah,by simp[intOf]<;>omega⟩|exact⟨by (repeat apply Exists.intro);exact⟨ah,rfl⟩,by simp[intOf]<;>omega⟩
   have dc:decide ((0:Int)<(i:Int))=true:=abH (by omega);have vJ:=zq hc0';obtain⟨m,hm⟩:=xq (([91]++aq.bm c 0 (l.take i)).length);have HM:=zq hm
   have NP:m<=1+i*2147483650:=by rw[hm];exact HLEN.o
   have hown:wr.ownsRow w.heap.size 5 1 u7 m (Qr ([91]++aq.bm c 0 (l.take i))):=by rw[hm];exact hown
   have hzz:w.heap.size<=wr.heap.size:=by omega
   clear hm;by_cases tQ:i % c=0
   ·have u9:(((i:Nat):Int) % ((c:Nat):Int)==0)=true:=by
     rw[adN,show ((i:Int) % (c:Int))=((i % c:Nat):Int) from rfl,tQ];rfl
    have ow:Hid (aq.Ud c i=[59,32]):=by show _=_;unfold aq.Ud;rw[if_neg (by omega),if_pos tQ]
    clear tQ;have hown2:=hown;go_wp2_with (at_builtin;refine adv _ rfl _ _ 88 rfl w.heap.size 5 i0 (.int .u8 0) 1 1 Tryz.underlying88 hi hz0 hz1 hz2 rfl (by decide) _ _ _ rfl (abj hown2 _) ⟨wr.heap.size,0,none⟩ 2 2 [.int .u8 59,.int .u8 32] rfl rfl (ag.Qh _ _ _ _ rfl) (by simp[Value.oneCell']) (by unfold maxLen;omega) (by omega) (by simp;omega) ?_);intro v3 w3 au ak _ fA;have hb3:Below w.heap.size w w3:=abq (aP.o.alloc hzz _) ak (by simp;omega) (fun q hq=>(aaZ hown2 q hq).1)
    have eM:Hid (w3.ownsRow w.heap.size 5 1 v3 (m+2) (Qr ([91]++aq.bm c 0 (l.take i)++[59,32]))):=by show World.ownsRow _ _ _ _ _ _ _;rw[Qo];exact au
    have aS:=zq hb3;have uw:=hb3.size
    have kA:w.heap.size<w3.heap.size:=by have:=ak.size;simp at this;omega
    have hc3:w3.cell? ⟨g,o+i,none⟩=some (.string T):=(hb3.cell (p:=⟨g,o+i,none⟩) hg).trans PY.o;clear hown hown2 au ak fA hb3;go_wp2_with (at_builtin;refine Ya rfl _ _ 88 9 rfl w.heap.size 5 i0 Tryz.underlying88 Tryz.underlying9 hi hz0 hz1 hz2 _ _ _ rfl eM.o T rfl (by omega) (by omega) ?_);intro v4 w4 aM az oG;have bG:Hid (Below w.heap.size w w4):=abq aS.o az uw (fun q hq=>(aaZ eM.o q hq).1)
    have e1:[91]++aq.bm c 0 (l.take (i+1))=[91]++aq.bm c 0 (l.take i)++[59,32]++b:=by rw[cf.o,ow.o];simp
    have e2:([91]++aq.bm c 0 (l.take i)++[59,32]++b).length=m+2+T.size:=by rw[aac,aac,<-HM.o,fL.o];rfl
    have rT:Hid (([91]++aq.bm c 0 (l.take (i+1))).length=m+2+T.size):=by show _=_;rw[e1,e2]
    have jR:Hid (cz w.heap.size w4 v4 ([91]++aq.bm c 0 (l.take (i+1)))):=by show World.ownsRow _ _ _ _ _ _ _;rw[e1,e2,Qo _ b,<-FK.o];exact aM
    clear e1 e2
    have cJ:Hid (w.heap.size<w4.heap.size):=by show _<_;have:=az.size;omega
    clear aM az oG;go_wp2_with fail;have ah:Af c l w v4 (.int .i64 ((i:Int)+1)) w4:=⟨i+1,by go_num,by rw[<-cw.o];omega,bG.o,cJ.o,by rw[rT.o];omega,.inr ⟨by omega,jR.o⟩⟩
    first|exact⟨ah,by simp[intOf]<;>omega⟩|exact⟨by (repeat apply Exists.intro);exact⟨ah,rfl⟩,by simp[intOf]<;>omega⟩
   have u9:(((i:Nat):Int) % ((c:Nat):Int)==0)=false:=by rw[beq_eq_false_iff_ne,show ((i:Int) % (c:Int))=((i % c:Nat):Int) from rfl];omega
   have ow:Hid (aq.Ud c i=[32]):=by show _=_;unfold aq.Ud;rw[if_neg (by omega),if_neg tQ]
   clear tQ;have hown2:=hown;go_wp2_with (at_builtin;refine adv _ rfl _ _ 88 rfl w.heap.size 5 i0 (.int .u8 0) 1 1 Tryz.underlying88 hi hz0 hz1 hz2 rfl (by decide) _ _ _ rfl (abj hown2 _) ⟨wr.heap.size,0,none⟩ 1 1 [.int .u8 32] rfl rfl (ag.Qh _ _ _ _ rfl) (by simp[Value.oneCell']) (by unfold maxLen;omega) (by omega) (by simp;omega) ?_);intro v3 w3 au ak _ fA;have hb3:Below w.heap.size w w3:=abq (aP.o.alloc hzz _) ak (by simp;omega) (fun q hq=>(aaZ hown2 q hq).1)
   have eM:Hid (w3.ownsRow w.heap.size 5 1 v3 (m+1) (Qr ([91]++aq.bm c 0 (l.take i)++[32]))):=by show World.ownsRow _ _ _ _ _ _ _;rw[Qo];exact au
   have aS:=zq hb3;have uw:=hb3.size
   have kA:w.heap.size<w3.heap.size:=by have:=ak.size;simp at this;omega
   have hc3:w3.cell? ⟨g,o+i,none⟩=some (.string T):=(hb3.cell (p:=⟨g,o+i,none⟩) hg).trans PY.o;clear hown hown2 au ak fA hb3;go_wp2_with (at_builtin;refine Ya rfl _ _ 88 9 rfl w.heap.size 5 i0 Tryz.underlying88 Tryz.underlying9 hi hz0 hz1 hz2 _ _ _ rfl eM.o T rfl (by omega) (by omega) ?_);intro v4 w4 aM az oG;have bG:Hid (Below w.heap.size w w4):=abq aS.o az uw (fun q hq=>(aaZ eM.o q hq).1)
   have e1:[91]++aq.bm c 0 (l.take (i+1))=[91]++aq.bm c 0 (l.take i)++[32]++b:=by rw[cf.o,ow.o];simp
   have e2:([91]++aq.bm c 0 (l.take i)++[32]++b).length=m+1+T.size:=by rw[aac,aac,<-HM.o,fL.o];rfl
   have rT:Hid (([91]++aq.bm c 0 (l.take (i+1))).length=m+1+T.size):=by show _=_;rw[e1,e2]
   have jR:Hid (cz w.heap.size w4 v4 ([91]++aq.bm c 0 (l.take (i+1)))):=by show World.ownsRow _ _ _ _ _ _ _;rw[e1,e2,Qo _ b,<-FK.o];exact aM
   clear e1 e2
   have cJ:Hid (w.heap.size<w4.heap.size):=by show _<_;have:=az.size;omega
   clear aM az oG;go_wp2_with fail;have ah:Af c l w v4 (.int .i64 ((i:Int)+1)) w4:=⟨i+1,by go_num,by rw[<-cw.o];omega,bG.o,cJ.o,by rw[rT.o];omega,.inr ⟨by omega,jR.o⟩⟩
   first|exact⟨ah,by simp[intOf]<;>omega⟩|exact⟨by (repeat apply Exists.intro);exact⟨ah,rfl⟩,by simp[intOf]<;>omega⟩
  have jb:i=n:=by omega
  subst jb;rcases l9.o with ⟨eu,-,-⟩|⟨-,hown⟩
  ·omega
  obtain⟨m,hm⟩:=xq (([91]++aq.bm c 0 l).length);have bT:l.take i=l:=aat (by rw[<-cw.o];exact aaa _)
  have NP:m<=1+i*2147483650:=by have:=HLEN.o;rw[bT]at this;omega
  have hown:wr.ownsRow w.heap.size 5 1 u7 m (Qr ([91]++aq.bm c 0 l)):=by rw[bT]at hown;rw[hm];exact hown
  have HM:=zq hm
  have hzz:w.heap.size<=wr.heap.size:=by omega
  clear hm bT;go_wp2_with (at_builtin;refine adv _ rfl _ _ 88 rfl w.heap.size 5 i0 (.int .u8 0) 1 1 Tryz.underlying88 hi hz0 hz1 hz2 rfl (by decide) _ _ _ rfl (abj hown _) ⟨wr.heap.size,0,none⟩ 1 1 [.int .u8 93] rfl rfl (ag.Qh _ _ _ _ rfl) (by simp[Value.oneCell']) (by unfold maxLen;omega) (by omega) (by simp;omega) ?_);intro v3 w3 au ak _ fA;have aS:Hid (Below w.heap.size w w3):=abq (aP.o.alloc hzz _) ak (by simp;omega) (fun q hq=>(aaZ hown q hq).1)
  have yZ:cz w.heap.size w3 v3 (Ze (r+1) c l):=by
   show World.ownsRow _ _ _ _ _ _ _
   have e2:(Ze (r+1) c l).length=m+1:=by rw[uL.o,aac,<-HM.o];rfl
   rw[e2,uL.o,Qo];exact au
  have hcv:=J8 yZ;clear hown au ak fA yZ;go_wp2_with fail;go_ret;exact⟨rfl,aS.o⟩
def RM (l:List Bytes)(w:World)(sv iv:Value)(wr:World):Prop:=
 ∃i:Nat,iv=.int .i64 (i:Nat)/\i<=l.length/\Below w.heap.size w wr/\w.heap.size<wr.heap.size/\cz w.heap.size wr sv (ae.Qb [44,32] (l.take i))
theorem Qh8 {l:List Bytes}{i:Nat}{b:Bytes}(h:l[i]?=some b):ae.Qb [44,32] (l.take (i+1))=ae.Qb [44,32] (l.take i)++(if i=0 then [] else [44,32])++b:=by
 have I:=(aae.1 h).1;rw[ab2,h];show ae.Qb [44,32] (l.take i++[b])=_;rw[aq.Gu];by_cases h0:i=0
 ·subst h0;simp
 rw[if_neg h0,if_neg];intro H
 have E:(l.take i).length=i:=by rw[aak];omega
 rw[H]at E;exact h0 E.symm
theorem Qx7 (l:List Bytes)(i:Nat):((l.take i).map List.length).sum<=(l.map List.length).sum:=by
 conv=>rhs;rw[<-adA i l,ado,List.sum_append]
 omega
theorem Ci {l:List Bytes}{M:Nat}(h:(l.map List.length).sum+2*l.length<=M)(i:Nat):(ae.Qb [44,32] (l.take i)).length<=M:=by
 have E:=cK [44,32] (l.take i);have H:=Qx7 l i
 have I:(l.take i).length<=l.length:=by rw[aak];omega
 simp only[aaf,aaG]at E;omega
theorem Ff (l:List Bytes)(v:Value)(w:World)(hv:SS w v l)(hM:(l.map List.length).sum+2*l.length<=1099511627776):Calls Tryz.prog 141 #[v] w fun e w'=>e=.returned (.string ⟨(ae.Qb [44,32] l).toArray⟩)/\Below w.heap.size w w':=by
 obtain⟨i0,hi,hz0,hz1,hz2⟩:=abO Tryz.jM;obtain⟨ao,cap,rfl,h1,h2,h3⟩:=hv;obtain⟨n,bf⟩:=xq l.length;rw[<-bf]at h1 h3 ⊢
 have acW:n<=549755813888:=by rw[bf];omega
 have cw:=zq bf;have H3:=zq h3;have HM:=zq hM
 have HST:Hid (RM l w (.slice (some ⟨w.heap.size,0,none⟩) 0 0) (.int .i64 0) (w.alloc (.cells #[] 5))):=
  ⟨0,rfl,aao _,Qq w _,by simp,by
   show World.ownsRow _ _ _ _ _ _ _
   exact ad2 (base:=w.heap.size) (e:=5) (size:=1) w #[] 0 (aaa _) (by unfold maxLen;omega) rfl⟩
 clear bf h3 hM;go_enter Tryz.func141,Tryz.ntmps141;go_wp2_with fail;go_loopw [3,4] (fun sv iv wr=>RM l w sv iv wr) (fun _ iv _=>n-(intOf iv).toNat)
 case atStart=>exact HST.o
 case round=>
  obtain⟨i,rfl,kr,hbl,uu,hown⟩:=hrel;rw[<-cw.o]at kr;have aP:=zq hbl;have hlen:=Ci HM.o i;have HOWN:=zq hown;clear hbl hown;by_cases hlt:i<n
  ·obtain⟨b,hb⟩:∃b,l[i]?=some b:=⟨_,aad (by rw[<-cw.o];exact hlt)⟩
   obtain⟨g,o,rfl,hg,hcell⟩:=H3.o (by omega);have hc0':wr.cell? ⟨g,o+i,none⟩=some (.string ⟨b.toArray⟩):=(aP.o.cell (p:=⟨g,o+i,none⟩) hg).trans (hcell i b hb);have cf:=zq (Qh8 hb);have fD:=Ci HM.o (i+1);obtain⟨T,hT⟩:=xq (⟨b.toArray⟩:ByteArray)
   have PY:Hid (w.cell? ⟨g,o+i,none⟩=some (.string T)):=by rw[hT];exact hcell i b hb
   rw[<-hT]at hc0'
   have sV:T.size=b.length:=by rw[hT];show b.toArray.size=_;simp
   have fL:=zq sV
   have FK:Hid (Lib.strCells T=Qr b):=by show _=_;rw[hT,Wp,Sw]
   obtain⟨m,hm⟩:=xq ((ae.Qb [44,32] (l.take i)).length);have cI:=zq hm;rw[<-hm]at hlen
   have hTb:T.size<=1099511627776:=by rw[cf.o,aac]at fD;omega
   have hown:wr.ownsRow w.heap.size 5 1 u3 m (Qr (ae.Qb [44,32] (l.take i))):=by rw[hm];exact HOWN.o
   have hzz:w.heap.size<=wr.heap.size:=by omega
   clear hb hcell hT sV fD hm;by_cases eu:i=0
   ·have aS:=aP
    have eM:=zq hown;subst eu;rw[adt]at hc0'
    have ow:Hid ((if 0=0 then [] else [44,32]:Bytes)=[]):=by show _=_;rw[if_pos rfl]
    clear hown;go_wp2_with (at_builtin;refine Ya rfl _ _ 88 9 rfl w.heap.size 5 i0 Tryz.underlying88 Tryz.underlying9 hi hz0 hz1 hz2 _ _ _ rfl eM.o T rfl (by omega) (by omega) ?_);intro v4 w4 aM az oG;have bG:Hid (Below w.heap.size w w4):=abq aS.o az hzz (fun q hq=>(aaZ eM.o q hq).1)
    have e1:ae.Qb [44,32] (l.take (0+1))=ae.Qb [44,32] (l.take 0)++b:=by rw[cf.o,ow.o];simp
    have jR:Hid (cz w.heap.size w4 v4 (ae.Qb [44,32] (l.take (0+1)))):=by show World.ownsRow _ _ _ _ _ _ _;rw[e1,aac,<-cI.o,<-fL.o,Qo _ b,<-FK.o];exact aM
    have cJ:Hid (w.heap.size<w4.heap.size):=by show _<_;have:=az.size;omega
    clear e1 aM az oG;go_wp2_with fail;have ah:RM l w v4 (.int .i64 1) w4:=⟨0+1,rfl,by rw[<-cw.o];omega,bG.o,cJ.o,jR.o⟩
    first|exact⟨ah,by simp[intOf]<;>omega⟩|exact⟨by (repeat apply Exists.intro);exact⟨ah,rfl⟩,by simp[intOf]<;>omega⟩
   have ow:Hid ((if i=0 then [] else [44,32]:Bytes)=[44,32]):=by show _=_;rw[if_neg eu]
   have dc:(0:Int)<(i:Int):=by omega
   clear eu;have hown2:=hown;go_wp2_with (at_builtin;refine adv _ rfl _ _ 88 rfl w.heap.size 5 i0 (.int .u8 0) 1 1 Tryz.underlying88 hi hz0 hz1 hz2 rfl (by decide) _ _ _ rfl (abj hown2 _) ⟨wr.heap.size,0,none⟩ 2 2 [.int .u8 44,.int .u8 32] rfl rfl (ag.Qh _ _ _ _ rfl) (by simp[Value.oneCell']) (by unfold maxLen;omega) (by omega) (by simp;omega) ?_);intro v3 w3 au ak _ fA;have hb3:Below w.heap.size w w3:=abq (aP.o.alloc hzz _) ak (by simp;omega) (fun q hq=>(aaZ hown2 q hq).1)
   have eM:Hid (w3.ownsRow w.heap.size 5 1 v3 (m+2) (Qr (ae.Qb [44,32] (l.take i)++[44,32]))):=by show World.ownsRow _ _ _ _ _ _ _;rw[Qo];exact au
   have aS:=zq hb3;have uw:=hb3.size
   have kA:w.heap.size<w3.heap.size:=by have:=ak.size;simp at this;omega
   have hc3:w3.cell? ⟨g,o+i,none⟩=some (.string T):=(hb3.cell (p:=⟨g,o+i,none⟩) hg).trans PY.o;clear hown hown2 au ak fA hb3;go_wp2_with (at_builtin;refine Ya rfl _ _ 88 9 rfl w.heap.size 5 i0 Tryz.underlying88 Tryz.underlying9 hi hz0 hz1 hz2 _ _ _ rfl eM.o T rfl (by omega) (by omega) ?_);intro v4 w4 aM az oG;have bG:Hid (Below w.heap.size w w4):=abq aS.o az uw (fun q hq=>(aaZ eM.o q hq).1)
   have e1:ae.Qb [44,32] (l.take (i+1))=ae.Qb [44,32] (l.take i)++[44,32]++b:=by rw[cf.o,ow.o]
   have e2:(ae.Qb [44,32] (l.take i)++[44,32]++b).length=m+2+T.size:=by rw[aac,aac,<-cI.o,fL.o];rfl
   have jR:Hid (cz w.heap.size w4 v4 (ae.Qb [44,32] (l.take (i+1)))):=by show World.ownsRow _ _ _ _ _ _ _;rw[e1,e2,Qo _ b,<-FK.o];exact aM
   have cJ:Hid (w.heap.size<w4.heap.size):=by show _<_;have:=az.size;omega
   clear e1 e2 aM az oG;go_wp2_with fail;have ah:RM l w v4 (.int .i64 ((i:Int)+1)) w4:=⟨i+1,by go_num,by rw[<-cw.o];omega,bG.o,cJ.o,jR.o⟩
   first|exact⟨ah,by simp[intOf]<;>omega⟩|exact⟨by (repeat apply Exists.intro);exact⟨ah,rfl⟩,by simp[intOf]<;>omega⟩
  have jb:i=n:=by omega
  subst jb;have bT:l.take i=l:=aat (by rw[<-cw.o];exact aaa _)
  have yZ:cz w.heap.size wr u3 (ae.Qb [44,32] l):=by have:=HOWN.o;rw[bT]at this;exact this
  have hcv:=J8 yZ;clear yZ bT;go_wp2_with fail;go_ret;exact⟨rfl,aP.o⟩
def Qv6 (op n:Nat):Prop:=(op=4\/op=5\/op=9\/op=11->1<=n)/\(op=6\/op=7\/op=8->2<=n)
theorem Yv (a b:Bytes):(⟨(a++b).toArray⟩:ByteArray)=⟨a.toArray⟩++⟨b.toArray⟩:=by rw[Jb];simp
theorem Qki:∀(p:List Bytes) (b:Bytes),b∈p->b.length<=(p.map List.length).sum
 |a::p,b,h=>by
  simp only[abK,adY];rcases abY.1 h with rfl|h
  ·omega
  have:=Qki p b h;omega
theorem Jk {p:List Bytes}{M:Nat}(h:(p.map List.length).sum+2*p.length<=M)(k:Nat):(⟨(p.getD k []).toArray⟩:ByteArray).size<=M:=by
 show (p.getD k []).toArray.size<=M;rw[List.size_toArray,ab3]
 cases hk:p[k]? with
 |none=>exact aao _
 |some b=>have:b.length<=(p.map List.length).sum:=Qki p b (aah hk);show b.length<=M;omega
theorem F9 {w:World}{v:Value}{p:List Bytes}(h:SS w v p)(k:Nat)(hk:k<p.length):∃g o cap,v=.slice (some ⟨g,o,none⟩) p.length cap/\g<w.heap.size/\ ∀j,j<=k->w.cell? ⟨g,o+j,none⟩=some (.string ⟨(p.getD j []).toArray⟩):=by
 obtain⟨ao,cap,rfl,-,-,E⟩:=h;obtain⟨g,o,rfl,H,I⟩:=E (by omega);refine⟨g,o,cap,rfl,H,fun j hj=> ?_⟩
 have:p[j]?=some (p.getD j []):=by rw[ab3,aad (by omega)];rfl
 exact I j _ this
theorem Bt (text:Bytes)(kids:List Nat)(kv v:Value)(p:List Bytes)(w:World)(hkv:∃ko k aj,kv=.slice ko k aj)(hv:SS w v p)(hn:1<=p.length)(hM:(p.map List.length).sum+2*p.length<=1099511627776)(ht:text.length<=1099511627776):Calls Tryz.prog 78 #[.agg #[.int .i64 4,.string ⟨text.toArray⟩,kv],v] w fun e w'=>e=.returned (.string ⟨(aq.X6 ⟨4,text,kids⟩ p).toArray⟩)/\Below w.heap.size w w':=by
 obtain⟨ko,k,aj,rfl⟩:=hkv;obtain⟨g,o,cap,rfl,hg,hc⟩:=F9 hv 0 (by omega);obtain⟨T,hT⟩:=xq (⟨text.toArray⟩:ByteArray);obtain⟨A,hA⟩:=xq (⟨(p.getD 0 []).toArray⟩:ByteArray);have fJ:=hc 0 (by omega);rw[<-hA,adt]at fJ
 have hX:(⟨(aq.X6 ⟨4,text,kids⟩ p).toArray⟩:ByteArray)=(⟨#[45]⟩:ByteArray)++A:=by show (⟨(([45]:Bytes)++(p.getD 0 [])).toArray⟩:ByteArray)=_;rw[Yv,<-hA]
 have sA:A.size<=1099511627776:=by rw[hA];exact Jk hM 0
 have sT:T.size<=1099511627776:=by rw[hT];exact aan (adK (by show text.toArray.size=_;simp)) ht
 have HX:=zq hX;have bt:=Qq w (.cells #[.int .i64 4,.string T,.slice ko k aj] 43);have bS:=zq bt;have a0:(w.alloc (.cells #[.int .i64 4,.string T,.slice ko k aj] 43)).cell? ⟨g,o,none⟩=some (.string A):=(bt.cell (p:=⟨g,o,none⟩) hg).trans fJ;obtain⟨n,bf⟩:=xq p.length;rw[<-bf]at hn ⊢
 have i0:(0:Int)<((n:Nat):Int):=by omega
 rw[<-hT];clear hX bt hT hA fJ hc hv hM ht bf hn;go_enter Tryz.func78,Tryz.ntmps78;go_wp2_with fail;go_ret;exact⟨by rw[HX.o];rfl,by first|exact bS.o|exact bS.o.drew⟩
theorem Bi (text:Bytes)(kids:List Nat)(kv v:Value)(p:List Bytes)(w:World)(hkv:∃ko k aj,kv=.slice ko k aj)(hv:SS w v p)(hn:1<=p.length)(hM:(p.map List.length).sum+2*p.length<=1099511627776)(ht:text.length<=1099511627776):Calls Tryz.prog 78 #[.agg #[.int .i64 5,.string ⟨text.toArray⟩,kv],v] w fun e w'=>e=.returned (.string ⟨(aq.X6 ⟨5,text,kids⟩ p).toArray⟩)/\Below w.heap.size w w':=by
 obtain⟨ko,k,aj,rfl⟩:=hkv;obtain⟨g,o,cap,rfl,hg,hc⟩:=F9 hv 0 (by omega);obtain⟨T,hT⟩:=xq (⟨text.toArray⟩:ByteArray);obtain⟨A,hA⟩:=xq (⟨(p.getD 0 []).toArray⟩:ByteArray);have fJ:=hc 0 (by omega);rw[<-hA,adt]at fJ
 have hX:(⟨(aq.X6 ⟨5,text,kids⟩ p).toArray⟩:ByteArray)=A++(⟨#[39]⟩:ByteArray):=by show (⟨((p.getD 0 [])++([39]:Bytes)).toArray⟩:ByteArray)=_;rw[Yv,<-hA]
 have sA:A.size<=1099511627776:=by rw[hA];exact Jk hM 0
 have sT:T.size<=1099511627776:=by rw[hT];exact aan (adK (by show text.toArray.size=_;simp)) ht
 have HX:=zq hX;have bt:=Qq w (.cells #[.int .i64 5,.string T,.slice ko k aj] 43);have bS:=zq bt;have a0:(w.alloc (.cells #[.int .i64 5,.string T,.slice ko k aj] 43)).cell? ⟨g,o,none⟩=some (.string A):=(bt.cell (p:=⟨g,o,none⟩) hg).trans fJ;obtain⟨n,bf⟩:=xq p.length;rw[<-bf]at hn ⊢
 have i0:(0:Int)<((n:Nat):Int):=by omega
 rw[<-hT];clear hX bt hT hA fJ hc hv hM ht bf hn;go_enter Tryz.func78,Tryz.ntmps78;go_wp2_with fail;go_ret;exact⟨by rw[HX.o];rfl,by first|exact bS.o|exact bS.o.drew⟩
theorem Bo (text:Bytes)(kids:List Nat)(kv v:Value)(p:List Bytes)(w:World)(hkv:∃ko k aj,kv=.slice ko k aj)(hv:SS w v p)(hn:2<=p.length)(hM:(p.map List.length).sum+2*p.length<=1099511627776)(ht:text.length<=1099511627776):Calls Tryz.prog 78 #[.agg #[.int .i64 6,.string ⟨text.toArray⟩,kv],v] w fun e w'=>e=.returned (.string ⟨(aq.X6 ⟨6,text,kids⟩ p).toArray⟩)/\Below w.heap.size w w':=by
 obtain⟨ko,k,aj,rfl⟩:=hkv;obtain⟨g,o,cap,rfl,hg,hc⟩:=F9 hv 1 (by omega);obtain⟨T,hT⟩:=xq (⟨text.toArray⟩:ByteArray);obtain⟨A,hA⟩:=xq (⟨(p.getD 0 []).toArray⟩:ByteArray);have fJ:=hc 0 (by omega);rw[<-hA,adt]at fJ;obtain⟨B,hB⟩:=xq (⟨(p.getD 1 []).toArray⟩:ByteArray);have sO:=hc 1 (by omega);rw[<-hB]at sO
 have hX:(⟨(aq.X6 ⟨6,text,kids⟩ p).toArray⟩:ByteArray)=A++(⟨#[32,43,32]⟩:ByteArray)++B:=by show (⟨((p.getD 0 [])++([32,43,32]:Bytes)++(p.getD 1 [])).toArray⟩:ByteArray)=_;rw[Yv,Yv,<-hA,<-hB]
 have sA:A.size<=1099511627776:=by rw[hA];exact Jk hM 0
 have sT:T.size<=1099511627776:=by rw[hT];exact aan (adK (by show text.toArray.size=_;simp)) ht
 have sB:B.size<=1099511627776:=by rw[hB];exact Jk hM 1
 have HX:=zq hX;have bt:=Qq w (.cells #[.int .i64 6,.string T,.slice ko k aj] 43);have bS:=zq bt;have a0:(w.alloc (.cells #[.int .i64 6,.string T,.slice ko k aj] 43)).cell? ⟨g,o,none⟩=some (.string A):=(bt.cell (p:=⟨g,o,none⟩) hg).trans fJ;have b0:(w.alloc (.cells #[.int .i64 6,.string T,.slice ko k aj] 43)).cell? ⟨g,o+1,none⟩=some (.string B):=(bt.cell (p:=⟨g,o+1,none⟩) hg).trans sO;obtain⟨n,bf⟩:=xq p.length;rw[<-bf]at hn ⊢
 have i0:(0:Int)<((n:Nat):Int):=by omega
 have i1:(1:Int)<((n:Nat):Int):=by omega
 rw[<-hT];clear hX bt hT hA fJ hB sO hc hv hM ht bf hn;go_enter Tryz.func78,Tryz.ntmps78;go_wp2_with fail;go_region;go_wp2_with fail;go_ret;exact⟨by rw[HX.o];rfl,by first|exact bS.o|exact bS.o.drew⟩
theorem Ba (text:Bytes)(kids:List Nat)(kv v:Value)(p:List Bytes)(w:World)(hkv:∃ko k aj,kv=.slice ko k aj)(hv:SS w v p)(hn:2<=p.length)(hM:(p.map List.length).sum+2*p.length<=1099511627776)(ht:text.length<=1099511627776):Calls Tryz.prog 78 #[.agg #[.int .i64 7,.string ⟨text.toArray⟩,kv],v] w fun e w'=>e=.returned (.string ⟨(aq.X6 ⟨7,text,kids⟩ p).toArray⟩)/\Below w.heap.size w w':=by
 obtain⟨ko,k,aj,rfl⟩:=hkv;obtain⟨g,o,cap,rfl,hg,hc⟩:=F9 hv 1 (by omega);obtain⟨T,hT⟩:=xq (⟨text.toArray⟩:ByteArray);obtain⟨A,hA⟩:=xq (⟨(p.getD 0 []).toArray⟩:ByteArray);have fJ:=hc 0 (by omega);rw[<-hA,adt]at fJ;obtain⟨B,hB⟩:=xq (⟨(p.getD 1 []).toArray⟩:ByteArray);have sO:=hc 1 (by omega);rw[<-hB]at sO
 have hX:(⟨(aq.X6 ⟨7,text,kids⟩ p).toArray⟩:ByteArray)=A++(⟨#[32,45,32]⟩:ByteArray)++B:=by show (⟨((p.getD 0 [])++([32,45,32]:Bytes)++(p.getD 1 [])).toArray⟩:ByteArray)=_;rw[Yv,Yv,<-hA,<-hB]
 have sA:A.size<=1099511627776:=by rw[hA];exact Jk hM 0
 have sT:T.size<=1099511627776:=by rw[hT];exact aan (adK (by show text.toArray.size=_;simp)) ht
 have sB:B.size<=1099511627776:=by rw[hB];exact Jk hM 1
 have HX:=zq hX;have bt:=Qq w (.cells #[.int .i64 7,.string T,.slice ko k aj] 43);have bS:=zq bt;have a0:(w.alloc (.cells #[.int .i64 7,.string T,.slice ko k aj] 43)).cell? ⟨g,o,none⟩=some (.string A):=(bt.cell (p:=⟨g,o,none⟩) hg).trans fJ;have b0:(w.alloc (.cells #[.int .i64 7,.string T,.slice ko k aj] 43)).cell? ⟨g,o+1,none⟩=some (.string B):=(bt.cell (p:=⟨g,o+1,none⟩) hg).trans sO;obtain⟨n,bf⟩:=xq p.length;rw[<-bf]at hn ⊢
 have i0:(0:Int)<((n:Nat):Int):=by omega
 have i1:(1:Int)<((n:Nat):Int):=by omega
 rw[<-hT];clear hX bt hT hA fJ hB sO hc hv hM ht bf hn;go_enter Tryz.func78,Tryz.ntmps78;go_wp2_with fail;go_region;go_wp2_with fail;go_ret;exact⟨by rw[HX.o];rfl,by first|exact bS.o|exact bS.o.drew⟩
theorem Be (text:Bytes)(kids:List Nat)(kv v:Value)(p:List Bytes)(w:World)(hkv:∃ko k aj,kv=.slice ko k aj)(hv:SS w v p)(hn:2<=p.length)(hM:(p.map List.length).sum+2*p.length<=1099511627776)(ht:text.length<=1099511627776):Calls Tryz.prog 78 #[.agg #[.int .i64 8,.string ⟨text.toArray⟩,kv],v] w fun e w'=>e=.returned (.string ⟨(aq.X6 ⟨8,text,kids⟩ p).toArray⟩)/\Below w.heap.size w w':=by
 obtain⟨ko,k,aj,rfl⟩:=hkv;obtain⟨g,o,cap,rfl,hg,hc⟩:=F9 hv 1 (by omega);obtain⟨T,hT⟩:=xq (⟨text.toArray⟩:ByteArray);obtain⟨A,hA⟩:=xq (⟨(p.getD 0 []).toArray⟩:ByteArray);have fJ:=hc 0 (by omega);rw[<-hA,adt]at fJ;obtain⟨B,hB⟩:=xq (⟨(p.getD 1 []).toArray⟩:ByteArray);have sO:=hc 1 (by omega);rw[<-hB]at sO
 have hX:(⟨(aq.X6 ⟨8,text,kids⟩ p).toArray⟩:ByteArray)=A++(⟨#[42]⟩:ByteArray)++B:=by show (⟨((p.getD 0 [])++([42]:Bytes)++(p.getD 1 [])).toArray⟩:ByteArray)=_;rw[Yv,Yv,<-hA,<-hB]
 have sA:A.size<=1099511627776:=by rw[hA];exact Jk hM 0
 have sT:T.size<=1099511627776:=by rw[hT];exact aan (adK (by show text.toArray.size=_;simp)) ht
 have sB:B.size<=1099511627776:=by rw[hB];exact Jk hM 1
 have HX:=zq hX;have bt:=Qq w (.cells #[.int .i64 8,.string T,.slice ko k aj] 43);have bS:=zq bt;have a0:(w.alloc (.cells #[.int .i64 8,.string T,.slice ko k aj] 43)).cell? ⟨g,o,none⟩=some (.string A):=(bt.cell (p:=⟨g,o,none⟩) hg).trans fJ;have b0:(w.alloc (.cells #[.int .i64 8,.string T,.slice ko k aj] 43)).cell? ⟨g,o+1,none⟩=some (.string B):=(bt.cell (p:=⟨g,o+1,none⟩) hg).trans sO;obtain⟨n,bf⟩:=xq p.length;rw[<-bf]at hn ⊢
 have i0:(0:Int)<((n:Nat):Int):=by omega
 have i1:(1:Int)<((n:Nat):Int):=by omega
 rw[<-hT];clear hX bt hT hA fJ hB sO hc hv hM ht bf hn;go_enter Tryz.func78,Tryz.ntmps78;go_wp2_with fail;go_region;go_wp2_with fail;go_ret;exact⟨by rw[HX.o];rfl,by first|exact bS.o|exact bS.o.drew⟩
theorem B8 (text:Bytes)(kids:List Nat)(kv v:Value)(p:List Bytes)(w:World)(hkv:∃ko k aj,kv=.slice ko k aj)(hv:SS w v p)(hn:1<=p.length)(hM:(p.map List.length).sum+2*p.length<=1099511627776)(ht:text.length<=1099511627776):Calls Tryz.prog 78 #[.agg #[.int .i64 9,.string ⟨text.toArray⟩,kv],v] w fun e w'=>e=.returned (.string ⟨(aq.X6 ⟨9,text,kids⟩ p).toArray⟩)/\Below w.heap.size w w':=by
 obtain⟨ko,k,aj,rfl⟩:=hkv;obtain⟨g,o,cap,rfl,hg,hc⟩:=F9 hv 0 (by omega);obtain⟨T,hT⟩:=xq (⟨text.toArray⟩:ByteArray);obtain⟨A,hA⟩:=xq (⟨(p.getD 0 []).toArray⟩:ByteArray);have fJ:=hc 0 (by omega);rw[<-hA,adt]at fJ
 have hX:(⟨(aq.X6 ⟨9,text,kids⟩ p).toArray⟩:ByteArray)=A++(⟨#[94]⟩:ByteArray)++T:=by show (⟨((p.getD 0 [])++([94]:Bytes)++text).toArray⟩:ByteArray)=_;rw[Yv,Yv,<-hT,<-hA]
 have sA:A.size<=1099511627776:=by rw[hA];exact Jk hM 0
 have sT:T.size<=1099511627776:=by rw[hT];exact aan (adK (by show text.toArray.size=_;simp)) ht
 have HX:=zq hX;have bt:=Qq w (.cells #[.int .i64 9,.string T,.slice ko k aj] 43);have bS:=zq bt;have a0:(w.alloc (.cells #[.int .i64 9,.string T,.slice ko k aj] 43)).cell? ⟨g,o,none⟩=some (.string A):=(bt.cell (p:=⟨g,o,none⟩) hg).trans fJ;obtain⟨n,bf⟩:=xq p.length;rw[<-bf]at hn ⊢
 have i0:(0:Int)<((n:Nat):Int):=by omega
 rw[<-hT];clear hX bt hT hA fJ hc hv hM ht bf hn;go_enter Tryz.func78,Tryz.ntmps78;go_wp2_with fail;go_region;go_wp2_with fail;go_ret;exact⟨by rw[HX.o];rfl,by first|exact bS.o|exact bS.o.drew⟩
theorem Er (text:Bytes)(kids:List Nat)(kv v:Value)(p:List Bytes)(w:World)(hkv:∃ko k aj,kv=.slice ko k aj)(hv:SS w v p)(hn:1<=p.length)(hM:(p.map List.length).sum+2*p.length<=1099511627776)(ht:text.length<=1099511627776):Calls Tryz.prog 78 #[.agg #[.int .i64 11,.string ⟨text.toArray⟩,kv],v] w fun e w'=>e=.returned (.string ⟨(aq.X6 ⟨11,text,kids⟩ p).toArray⟩)/\Below w.heap.size w w':=by
 obtain⟨ko,k,aj,rfl⟩:=hkv;obtain⟨g,o,cap,rfl,hg,hc⟩:=F9 hv 0 (by omega);obtain⟨T,hT⟩:=xq (⟨text.toArray⟩:ByteArray);obtain⟨A,hA⟩:=xq (⟨(p.getD 0 []).toArray⟩:ByteArray);have fJ:=hc 0 (by omega);rw[<-hA,adt]at fJ
 have hX:(⟨(aq.X6 ⟨11,text,kids⟩ p).toArray⟩:ByteArray)=(⟨#[108,101,116,32]⟩:ByteArray)++T++(⟨#[32,61,32]⟩:ByteArray)++A:=by show (⟨(([108,101,116,32]:Bytes)++text++([32,61,32]:Bytes)++(p.getD 0 [])).toArray⟩:ByteArray)=_;rw[Yv,Yv,Yv,<-hT,<-hA]
 have sA:A.size<=1099511627776:=by rw[hA];exact Jk hM 0
 have sT:T.size<=1099511627776:=by rw[hT];exact aan (adK (by show text.toArray.size=_;simp)) ht
 have HX:=zq hX;have bt:=Qq w (.cells #[.int .i64 11,.string T,.slice ko k aj] 43);have bS:=zq bt;have a0:(w.alloc (.cells #[.int .i64 11,.string T,.slice ko k aj] 43)).cell? ⟨g,o,none⟩=some (.string A):=(bt.cell (p:=⟨g,o,none⟩) hg).trans fJ;obtain⟨n,bf⟩:=xq p.length;rw[<-bf]at hn ⊢
 have i0:(0:Int)<((n:Nat):Int):=by omega
 rw[<-hT];clear hX bt hT hA fJ hc hv hM ht bf hn;go_enter Tryz.func78,Tryz.ntmps78;go_wp2_with fail;go_region;go_wp2_with fail;go_ret;exact⟨by rw[HX.o];rfl,by first|exact bS.o|exact bS.o.drew⟩
theorem Es (text:Bytes)(kids:List Nat)(kv v:Value)(p:List Bytes)(w:World)(hkv:∃ko k aj,kv=.slice ko k aj)(hv:SS w v p)(hM:(p.map List.length).sum+2*p.length<=1099511627776)(ht:text.length<=1099511627776):Calls Tryz.prog 78 #[.agg #[.int .i64 10,.string ⟨text.toArray⟩,kv],v] w fun e w'=>e=.returned (.string ⟨(aq.X6 ⟨10,text,kids⟩ p).toArray⟩)/\Below w.heap.size w w':=by
 obtain⟨ko,k,aj,rfl⟩:=hkv;have OL:=hv;obtain⟨ao,cap,rfl,-,-,-⟩:=hv;obtain⟨T,hT⟩:=xq (⟨text.toArray⟩:ByteArray);obtain⟨J,hJ⟩:=xq (⟨(ae.Qb [44,32] p).toArray⟩:ByteArray)
 have hX:(⟨(aq.X6 ⟨10,text,kids⟩ p).toArray⟩:ByteArray)=T++(⟨#[40]⟩:ByteArray)++J++(⟨#[41]⟩:ByteArray):=by
  have e9:aq.X6 ⟨10,text,kids⟩ p=text++([40]:Bytes)++ae.Qb [44,32] p++([41]:Bytes):=by rfl
  rw[e9,Yv,Yv,Yv,<-hT,<-hJ]
 have sT:T.size<=1099511627776:=by rw[hT];exact aan (adK (by show text.toArray.size=_;simp)) ht
 have sJ:J.size<=1099511627776:=by rw[hJ];have h1:=Ci hM p.length;rw[adx]at h1;exact aan (adK (by show (ae.Qb [44,32] p).toArray.size=_;simp)) h1
 have s1: ¬9223372036854775807<T.size+1:=by omega
 have s2: ¬9223372036854775807<T.size+1+J.size:=by omega
 have s3: ¬9223372036854775807<T.size+1+J.size+1:=by omega
 have HX:=zq hX;obtain⟨w1,aQ⟩:=xq (w.alloc (.cells #[.int .i64 10,.string T,.slice ko k aj] 43))
 have bt:Below w.heap.size w w1:=by rw[aQ];exact Qq _ _
 have hz1:w.heap.size<w1.heap.size:=by rw[aQ];simp
 have hg1:w1.heap[w.heap.size]?=some (.cells #[.int .i64 10,.string T,.slice ko k aj] 43 (0,0)):=by rw[aQ];exact aaz _ _
 have c1:w1.cell? ⟨w.heap.size,1,none⟩=some (.string T):=by rw[aam _ _ 1 _ _ _ hg1];rfl
 have bS:=zq bt
 have HC:Hid (∀w5,Below w1.heap.size w1 w5->Calls Tryz.prog 141 #[.slice ao p.length cap] w5 fun e w'=>e=.returned (.string J)/\Below w5.heap.size w5 w'):=by intro w5 h5;have:=Ff p _ w5 ((OL.below bt).below h5) hM;rw[<-hJ]at this;exact this
 obtain⟨n,bf⟩:=xq p.length;rw[<-bf]at HC ⊢;rw[<-hT];clear hX bt hT hJ hg1 OL hM ht bf;go_enter Tryz.func78,Tryz.ntmps78;go_wp2_with fail;rw[<-aQ];clear aQ;go_wp2_with fail
 go_region_held3 (fun w'=>w'.cell? ⟨w.heap.size,1,none⟩=some (.string T))
  (first
   |go_keep
   |exact(hb3.cell (p:=⟨w.heap.size,1,none⟩) hz1).trans c1)
  ((go_at_call 141;refine(HC.o _ (by first|exact aa8 _ _|exact Qs _ _)).mono ?_;rintro e w3 ⟨rfl,hb3⟩))
 have aS:=zq (Qz bS.o.drew hb3);clear hb3;go_wp2_with fail;go_ret;exact⟨by rw[HX.o];rfl,by first|exact aS.o|exact aS.o.drew⟩
theorem Et (text:Bytes)(kids:List Nat)(kv v:Value)(p:List Bytes)(w:World)(hkv:∃ko k aj,kv=.slice ko k aj)(hv:SS w v p)(y7:p.length≠0)(hM:(p.map List.length).sum+2*p.length<=1099511627776)(ht:text.length<=1099511627776):Calls Tryz.prog 78 #[.agg #[.int .i64 12,.string ⟨text.toArray⟩,kv],v] w fun e w'=>e=.returned (.string ⟨(aq.X6 ⟨12,text,kids⟩ p).toArray⟩)/\Below w.heap.size w w':=by
 obtain⟨ko,k,aj,rfl⟩:=hkv;have OL:=hv;obtain⟨ao,cap,rfl,-,-,-⟩:=hv;obtain⟨T,hT⟩:=xq (⟨text.toArray⟩:ByteArray);obtain⟨J,hJ⟩:=xq (⟨(ae.Qb [44,32] p).toArray⟩:ByteArray)
 have hX:(⟨(aq.X6 ⟨12,text,kids⟩ p).toArray⟩:ByteArray)=T++(⟨#[32]⟩:ByteArray)++J:=by
  have e9:aq.X6 ⟨12,text,kids⟩ p=text++([32]:Bytes)++ae.Qb [44,32] p:=by exact if_neg y7
  rw[e9,Yv,Yv,<-hT,<-hJ]
 have sT:T.size<=1099511627776:=by rw[hT];exact aan (adK (by show text.toArray.size=_;simp)) ht
 have sJ:J.size<=1099511627776:=by rw[hJ];have h1:=Ci hM p.length;rw[adx]at h1;exact aan (adK (by show (ae.Qb [44,32] p).toArray.size=_;simp)) h1
 have s1: ¬9223372036854775807<T.size+1:=by omega
 have s2: ¬9223372036854775807<T.size+1+J.size:=by omega
 have s3: ¬9223372036854775807<T.size+1+J.size+1:=by omega
 have HX:=zq hX;obtain⟨w1,aQ⟩:=xq (w.alloc (.cells #[.int .i64 12,.string T,.slice ko k aj] 43))
 have bt:Below w.heap.size w w1:=by rw[aQ];exact Qq _ _
 have hz1:w.heap.size<w1.heap.size:=by rw[aQ];simp
 have hg1:w1.heap[w.heap.size]?=some (.cells #[.int .i64 12,.string T,.slice ko k aj] 43 (0,0)):=by rw[aQ];exact aaz _ _
 have c1:w1.cell? ⟨w.heap.size,1,none⟩=some (.string T):=by rw[aam _ _ 1 _ _ _ hg1];rfl
 have bS:=zq bt
 have HC:Hid (∀w5,Below w1.heap.size w1 w5->Calls Tryz.prog 141 #[.slice ao p.length cap] w5 fun e w'=>e=.returned (.string J)/\Below w5.heap.size w5 w'):=by intro w5 h5;have:=Ff p _ w5 ((OL.below bt).below h5) hM;rw[<-hJ]at this;exact this
 obtain⟨n,bf⟩:=xq p.length;rw[<-bf]at HC y7 ⊢
 have eQ:(((n:Nat):Int)==0)=false:=by simp;omega
 rw[<-hT];clear hX bt hT hJ hg1 OL hM ht bf y7;go_enter Tryz.func78,Tryz.ntmps78;go_wp2_with fail;rw[<-aQ];clear aQ;go_wp2_with fail
 go_region_held3 (fun w'=>w'.cell? ⟨w.heap.size,1,none⟩=some (.string T))
  (first
   |go_keep
   |exact(hb3.cell (p:=⟨w.heap.size,1,none⟩) hz1).trans c1)
  ((go_at_call 141;refine(HC.o _ (by first|exact aa8 _ _|exact Qs _ _)).mono ?_;rintro e w3 ⟨rfl,hb3⟩))
 have aS:=zq (Qz bS.o.drew hb3);clear hb3;go_wp2_with fail;go_ret;exact⟨by rw[HX.o];rfl,by first|exact aS.o|exact aS.o.drew⟩
theorem Br (text:Bytes)(kids:List Nat)(kv v:Value)(p:List Bytes)(w:World)(hkv:∃ko k aj,kv=.slice ko k aj)(hv:SS w v p)(y7:p.length=0):Calls Tryz.prog 78 #[.agg #[.int .i64 12,.string ⟨text.toArray⟩,kv],v] w fun e w'=>e=.returned (.string ⟨(aq.X6 ⟨12,text,kids⟩ p).toArray⟩)/\Below w.heap.size w w':=by obtain⟨ko,k,aj,rfl⟩:=hkv;obtain⟨ao,cap,rfl,-,-,-⟩:=hv;have e9:aq.X6 ⟨12,text,kids⟩ p=text:=if_pos y7;rw[e9,y7];obtain⟨T,hT⟩:=xq (⟨text.toArray⟩:ByteArray);rw[<-hT];have bS:=zq (Qq w (.cells #[.int .i64 12,.string T,.slice ko k aj] 43));clear hT e9 y7;go_enter Tryz.func78,Tryz.ntmps78;go_wp2_with fail;go_ret;exact⟨rfl,bS.o⟩
theorem Aq (op:Nat)(text:Bytes)(kids:List Nat)(kv v:Value)(p:List Bytes)(w:World)(hkv:∃ko k aj,kv=.slice ko k aj)(hop:op<4\/12<op):Calls Tryz.prog 78 #[.agg #[.int .i64 (op:Nat),.string ⟨text.toArray⟩,kv],v] w fun e w'=>e=.returned (.string ⟨(aq.X6 ⟨op,text,kids⟩ p).toArray⟩)/\Below w.heap.size w w':=by
 obtain⟨ko,k,aj,rfl⟩:=hkv
 have e9:aq.X6 ⟨op,text,kids⟩ p=text:=by unfold aq.X6;rw[if_neg (by show ¬op=4;omega),if_neg (by show ¬op=5;omega),if_neg (by show ¬op=6;omega),if_neg (by show ¬op=7;omega),if_neg (by show ¬op=8;omega),if_neg (by show ¬op=9;omega),if_neg (by show ¬op=10;omega),if_neg (by show ¬op=11;omega),if_neg (by show ¬op=12;omega)]
 rw[e9];obtain⟨T,hT⟩:=xq (⟨text.toArray⟩:ByteArray);rw[<-hT];have bS:=zq (Qq w (.cells #[.int .i64 (op:Nat),.string T,.slice ko k aj] 43))
 have d4:(((op:Nat):Int)==4)=false:=by simp;omega
 have d5:(((op:Nat):Int)==5)=false:=by simp;omega
 have d6:(((op:Nat):Int)==6)=false:=by simp;omega
 have d7:(((op:Nat):Int)==7)=false:=by simp;omega
 have d8:(((op:Nat):Int)==8)=false:=by simp;omega
 have d9:(((op:Nat):Int)==9)=false:=by simp;omega
 have d10:(((op:Nat):Int)==10)=false:=by simp;omega
 have d11:(((op:Nat):Int)==11)=false:=by simp;omega
 have d12:(((op:Nat):Int)==12)=false:=by simp;omega
 clear hT e9 hop;go_enter Tryz.func78,Tryz.ntmps78;go_wp2_with fail;go_ret;exact⟨rfl,bS.o⟩
theorem Qxr (op:Nat)(text:Bytes)(kids:List Nat)(kv v:Value)(p:List Bytes)(w:World)(hkv:∃ko k aj,kv=.slice ko k aj)(hv:SS w v p)(hp:Qv6 op p.length)(hM:(p.map List.length).sum+2*p.length<=1099511627776)(ht:text.length<=1099511627776):Calls Tryz.prog 78 #[.agg #[.int .i64 (op:Nat),.string ⟨text.toArray⟩,kv],v] w fun e w'=>e=.returned (.string ⟨(aq.X6 ⟨op,text,kids⟩ p).toArray⟩)/\Below w.heap.size w w':=by
 by_cases h:op<4\/12<op
 ·exact Aq op text kids kv v p w hkv h
 have E:op=4\/op=5\/op=6\/op=7\/op=8\/op=9\/op=10\/op=11\/op=12:=by omega
 rcases E with rfl|rfl|rfl|rfl|rfl|rfl|rfl|rfl|rfl
 ·exact Bt text kids kv v p w hkv hv (hp.1 (by simp)) hM ht
 ·exact Bi text kids kv v p w hkv hv (hp.1 (by simp)) hM ht
 ·exact Bo text kids kv v p w hkv hv (hp.2 (by simp)) hM ht
 ·exact Ba text kids kv v p w hkv hv (hp.2 (by simp)) hM ht
 ·exact Be text kids kv v p w hkv hv (hp.2 (by simp)) hM ht
 ·exact B8 text kids kv v p w hkv hv (hp.1 (by simp)) hM ht
 ·exact Es text kids kv v p w hkv hv hM ht
 ·exact Er text kids kv v p w hkv hv (hp.1 (by simp)) hM ht
 by_cases h0:p.length=0
 ·exact Br text kids kv v p w hkv hv h0
 exact Et text kids kv v p w hkv hv h0 hM ht
end Go.Proofs.YtgfmiladfeoldaaGreatDoor
namespace aq
open ae ag
def cost (x:Node):Nat:=x.text.length+4*x.kids.length+7
def dr (l:List Bytes):Nat:=(l.map List.length).sum
theorem Ni:∀(l:List Bytes) (k:Nat) (b c:Bytes),l[k]?=some b->dr (l.set k c)+b.length=dr l+c.length
 | [],_,_,_,h=>by simp at h
 |a::l,0,b,c,h=>by
  simp at h;subst h;simp[dr]
  omega
 |a::l,k+1,b,c,h=>by have ih:=Ni l k b c (by simpa using h);simp[dr]at ih ⊢;omega
theorem Qhp (a b:List Bytes):dr (a++b)=dr a+dr b:=by simp[dr]
theorem Qx4:∀n:Nat,dr (List.replicate n [])=0
 |0=>rfl
 |n+1=>by have:=Qx4 n;simp[dr,List.replicate_succ]at this ⊢
theorem Qhg (p:List Bytes):(p.getD 0 []).length+(p.getD 1 []).length<=dr p:=by
 rcases p with- |⟨a,- |⟨b,l⟩⟩<;>simp[dr]<;>omega
theorem Qpc (x:Node)(p:List Bytes):(X6 x p).length<=dr p+2*p.length+x.text.length+7:=by
 have E:=Qhg p;have h:=Go.Proofs.YtgfmiladfeoldaaGreatDoor.cK [44,32] p;simp only[aaf,aaG]at h
 have H:(Qb [44,32] p).length<=dr p+2*p.length:=by unfold dr;omega
 unfold X6
 repeat' split
 all_goals try simp only[aac,aaf,aaG]
 all_goals omega
theorem Qqo (opOf:Nat->Nat)(i:Nat)(x:Node)(l:List Node)(lines:List Bytes)(deep:List Nat):Zw opOf i (x::l) lines deep=Zw opOf (i+1) l ((J7 opOf deep x.op 0 x.kids ⟨lines,0,[]⟩).lines.set i (X6 x (J7 opOf deep x.op 0 x.kids ⟨lines,0,[]⟩).parts)) (deep.set i (J7 opOf deep x.op 0 x.kids ⟨lines,0,[]⟩).d):=rfl
theorem Qq8 (opOf:Nat->Nat)(deep:List Nat)(op j k:Nat)(ks:List Nat)(s:fH):J7 opOf deep op j (k::ks) s=J7 opOf deep op (j+1) ks ⟨s.lines.set k [],max s.d (ay (op==10) (ay (Qy op j (opOf k)) (deep.getD k 0))),s.parts++[par (Qy op j (opOf k)) (s.lines.getD k [])]⟩:=rfl
theorem Qj8 (opOf:Nat->Nat)(deep:List Nat)(op j:Nat)(s:fH):J7 opOf deep op j [] s=s:=rfl
theorem J6 (b:Bool)(t:Bytes):(par b t).length<=t.length+2:=by
 cases b<;>simp[par]
def opAt (N:List Node)(k:Nat):Nat:=match N[k]? with|some x=>x.op|none=>0
theorem Qmt (N:List Node):T4 (opAt N) 0 N:=fun j x hj=>by rw[abx];unfold opAt;rw[hj]
end aq
namespace Go.Proofs.YtgfmiladfeoldaaGreatDoor
open Go.RowKit ai ag
def Yh (B:Nat)(w:World)(cs:List (Bool×Value))(l:List (Bool×Nat)):Prop:=
 cs.length=l.length/\ ∀(j:Nat) (c:Bool×Value) (p:Bool×Nat),cs[j]?=some c->l[j]?=some p->c.1=p.1/\bM B w c.2 p.2
theorem Yh.nil (B:Nat)(w:World):Yh B w [] []:=⟨rfl,fun j c p h=>by simp at h⟩
theorem Yh.app {B:Nat}{w:World}{a b:List (Bool×Value)}{l m:List (Bool×Nat)}(h:Yh B w a l)(k:Yh B w b m):Yh B w (a++b) (l++m):=by
 refine⟨by rw[aac,aac,h.1,k.1],fun j c p hc hp=> ?_⟩;by_cases hj:j<a.length
 ·rw[ab1 hj]at hc
  rw[ab1 (by rw[<-h.1];exact hj)]at hp;exact h.2 j c p hc hp
 rw[abw (by omega)]at hc;rw[abw (by rw[<-h.1];omega),<-h.1]at hp;exact k.2 _ c p hc hp
theorem bM.blk {B B':Nat}{w w':World}{v:Value}{n:Nat}(h:bM B w v n)(hB:B'<=B)(hz:w.heap.size<=w'.heap.size)(hb:∀q,v.ownBlock=some q->w'.heap[q]?=w.heap[q]?):bM B' w' v n:=by obtain⟨⟨xs,I,J,K⟩,H,O⟩:=h;refine⟨⟨xs,?_,J,K⟩,fun q hq=>⟨aan hB (H q hq).1,aaj (H q hq).2 hz⟩,O⟩;obtain⟨k0,ao,E,rfl,k1,k2,k3,k4⟩:=I;refine⟨fun k hk=>aaj (k0 k hk) hz,ao,E,rfl,k1,k2,k3,fun i x hx=> ?_⟩;obtain⟨g,o,rfl,T⟩:=k4 i x hx;exact⟨g,o,rfl,(abG (hb g rfl)).trans T⟩
theorem Yh.blk {B B':Nat}{w w':World}{cs:List (Bool×Value)}{l:List (Bool×Nat)}(h:Yh B w cs l)(hB:B'<=B)(hz:w.heap.size<=w'.heap.size)(hb:∀q c,c∈cs->c.2.ownBlock=some q->w'.heap[q]?=w.heap[q]?):Yh B' w' cs l:=
 ⟨h.1,fun j c p hc hp=>⟨(h.2 j c p hc hp).1,(h.2 j c p hc hp).2.blk hB hz fun q hq=>hb q c (aah hc) hq⟩⟩
abbrev bY:=Value×List (Bool×Value)×List (Bool×Nat)
structure Mt (w:World) (B:Nat) (rv:Value) (rs:List bY):Prop where
 own:w.ownsRow B 45 1 rv rs.length (rs.map Prod.fst)
 row:∀r∈rs,w.ownsRow B 62 2 r.1 r.2.1.length (Q6 r.2.1)/\Yh B w r.2.1 r.2.2
 wJ:∀r∈rs,∀q,r.1.ownBlock=some q->rv.ownBlock≠some q
 yC:∀r∈rs,∀c∈r.2.1,∀q,c.2.ownBlock=some q->rv.ownBlock≠some q/\ ∀r'∈rs,r'.1.ownBlock≠some q
 ap:∀(i j:Nat) (r s:bY) (q:Nat),rs[i]?=some r->rs[j]?=some s->r.1.ownBlock=some q->s.1.ownBlock=some q->i=j
theorem Y4 {w w':World}{B B':Nat}{e:TypeId}{z:Nat}{v:Value}{n:Nat}{xs:List Value}(h:w.ownsRow B e z v n xs)(hB:B'<=B)(hb:∀q,v.ownBlock=some q->w'.heap[q]?=w.heap[q]?):w'.ownsRow B' e z v n xs:=by
 refine⟨h.1,?_⟩;rcases h.2 with O|⟨g,H,I,rfl,J,K,E⟩
 ·exact .inl O
 exact .inr ⟨g,H,I,rfl,aan hB J,(hb g rfl).trans K,E⟩
theorem Yh.own {B:Nat}{w:World}{cs:List (Bool×Value)}{l:List (Bool×Nat)}(h:Yh B w cs l){c:Bool×Value}(hc:c∈cs){q:Nat}(hq:c.2.ownBlock=some q):B<=q/\q<w.heap.size:=by obtain⟨j,E⟩:=aez hc;have H:=(aae.1 E).1;obtain⟨p,I⟩:∃p,l[j]?=some p:=⟨_,aad (by rw[<-h.1];exact H)⟩;exact(h.2 j c p E I).2.2.1 q hq
theorem Mt.keep {w w':World}{B:Nat}{rv:Value}{rs:List bY}(h:Mt w B rv rs)(hz:w.heap.size<=w'.heap.size)(hb:∀q,B<=q->q<w.heap.size->w'.heap[q]?=w.heap[q]?):Mt w' B rv rs where
 own:=Y4 h.own (aaa _) fun q hq=>hb q (h.own.lt q hq).1 (h.own.lt q hq).2
 row:=fun r hr=>⟨Y4 (h.row r hr).1 (aaa _) fun q hq=>hb q ((h.row r hr).1.lt q hq).1 ((h.row r hr).1.lt q hq).2,(h.row r hr).2.blk (aaa _) hz fun q c hc hq=>hb q ((h.row r hr).2.own hc hq).1 ((h.row r hr).2.own hc hq).2⟩
 wJ:=h.wJ
 yC:=h.yC
 ap:=h.ap
theorem Mt.wr {w w':World}{B R:Nat}{rv:Value}{rs:List bY}(h:Mt w B rv rs)(hw:Wr R none w w')(hR:R<B):Mt w' B rv rs:=
 h.keep hw.size fun q h1 h2=>hw.block q h2 (by omega) (by simp)
theorem Mt.push {w w1 w2:World}{B:Nat}{rv lv lN:Value}{rs:List bY}{cs:List (Bool×Value)}{l:List (Bool×Nat)}(h:Mt w B rv (rs++[(lv,cs,l)])){neg:Bool}{m:Value}{k:Nat}(hm:bM B w m k)
  (hd:∀q,m.ownBlock=some q->rv.ownBlock≠some q/\ ∀r∈rs++[(lv,cs,l)],r.1.ownBlock≠some q)
  (hown:w1.ownsRow B 62 2 lN (cs.length+1) (Q6 cs++[.bool neg,m])) (hg:w.grownBy w1 lv.ownBlock) (hat:∀q,lN.ownBlock=some q->lv.ownBlock=some q\/w.heap.size<=q)
  {gr:Nat} (hgr:rv.ownBlock=some gr) (hw2:w2=w1.setCell ⟨gr,rs.length,none⟩ lN)
  (hrow:w2.ownsRow B 45 1 rv (rs.length+1) (rs.map Prod.fst++[lN])):
  Mt w2 B rv (rs++[(lN,cs++[(neg,m)],l++[(neg,k)])]):=by
 have hz:w.heap.size<=w2.heap.size:=by rw[hw2];simpa [World.setCell] using hg.size
 have I:(lv,cs,l)∈rs++[(lv,cs,l)]:=by simp
 have a9:∀q,lv.ownBlock=some q->q≠gr:=fun q E e=>by rw[e]at E;exact h.wJ _ I _ E hgr
 have hb:∀q,q<w.heap.size->q≠gr->lv.ownBlock≠some q->w2.heap[q]?=w.heap[q]? :=by intro q E Z hl;rw[hw2];exact(aaX w1 ⟨gr,rs.length,none⟩ q lN Z).trans (hg.block q E (fun e=>hl e.symm))
 have ad:gr<w.heap.size:=(h.own.lt gr hgr).2
 have a6:∀q,lN.ownBlock=some q->q≠gr:=fun q E e=>by
  rcases hat q E with O|O
  ·exact a9 q O e
  omega
 have J:∀r∈rs,r∈rs++[(lv,cs,l)]:=fun r H=>List.mem_append_left _ H
 have Z:∀r∈rs,∀q,r.1.ownBlock=some q->lv.ownBlock≠some q:=by intro r H q E e;obtain⟨i,T⟩:=aez H;have aa:=(aae.1 T).1;have:=h.ap i rs.length r (lv,cs,l) q (by rw[ab1 aa];exact T) (by rw[abw (aaa _),Nat.sub_self];rfl) E e;omega
 have U:∀r,r∈rs++[(lN,cs++[(neg,m)],l++[(neg,k)])]->r∈rs\/r=(lN,cs++[(neg,m)],l++[(neg,k)]):=fun r H=>by
  rcases abZ.1 H with O|O
  ·exact .inl O
  exact .inr (abu.1 O)
 have a0:∀q,q<w.heap.size->lv.ownBlock≠some q->lN.ownBlock≠some q:=fun q E hl e=>by
  rcases hat q e with O|O
  ·exact hl O
  omega
 have a7:∀q,m.ownBlock=some q->q<w.heap.size:=fun q E=>(hm.2.1 q E).2;have ab:bM B w2 m k:=hm.blk (aaa _) hz fun q E=>hb q (a7 q E) (fun e=>(hd q E).1 (by rw[e];exact hgr)) ((hd q E).2 _ I);refine⟨?_,?_,?_,?_,?_⟩
 ·rw[ado,aac];exact hrow
 ·intro r H
  rcases U r H with H|rfl
  ·have O:=h.row r (J r H)
   refine⟨Y4 O.1 (aaa _) fun q E=>hb q (O.1.lt q E).2 (fun e=>by rw[e]at E;exact h.wJ r (J r H) _ E hgr) (Z r H q E),O.2.blk (aaa _) hz fun q c K E=> ?_⟩;obtain⟨a,b⟩:=h.yC r (J r H) c K q E;exact hb q (O.2.own K E).2 (fun e=>a (by rw[e];exact hgr)) (b _ I)
  have O:=h.row _ I;refine⟨?_,Yh.app (O.2.blk (aaa _) hz fun q c K E=> ?_) ⟨rfl,fun j c p K hp=> ?_⟩⟩
  ·refine Y4 (B:=B) (w:=w1) ?_ (aaa _) fun q E=>by rw[hw2];exact aaX w1 ⟨gr,rs.length,none⟩ q lN (a6 q E)
   show World.ownsRow _ _ _ _ _ _ _;simp only[aac,aaJ,Pz];exact hown
  ·obtain⟨a,b⟩:=h.yC _ I c K q E
   exact hb q (O.2.own K E).2 (fun e=>a (by rw[e];exact hgr)) (b _ I)
  cases j with
  |zero=>simp at K hp;subst K;subst hp;exact⟨rfl,ab⟩
  |succ j=>simp at K
 ·intro r H q E
  rcases U r H with H|rfl
  ·exact h.wJ r (J r H) q E
  intro e;rw[hgr]at e;exact a6 q E (aax e).symm
 ·intro r H c K q E
  have ac:q<w.heap.size/\rv.ownBlock≠some q/\ ∀r'∈rs++[(lv,cs,l)],r'.1.ownBlock≠some q:=by
   rcases U r H with H|rfl
   ·exact⟨((h.row r (J r H)).2.own K E).2,h.yC r (J r H) c K q E⟩
   rcases abZ.1 K with K|K
   ·exact⟨((h.row _ I).2.own K E).2,h.yC _ I c K q E⟩
   rw[abu.1 K]at E;exact⟨a7 q E,hd q E⟩
  obtain⟨k1,k2,k3⟩:=ac;refine⟨k2,fun r' a3=> ?_⟩;rcases U r' a3 with a3|rfl
  ·exact k3 r' (J r' a3)
  exact a0 q k1 (k3 _ I)
 intro i j r s q T hj H hs
 have a1:∀(i:Nat) (r:bY),(rs++[(lN,cs++[(neg,m)],l++[(neg,k)])])[i]?=some r->(i<rs.length/\rs[i]?=some r)\/(i=rs.length/\r=(lN,cs++[(neg,m)],l++[(neg,k)])):=by
  intro i r T;by_cases hl:i<rs.length
  ·rw[ab1 hl]at T;exact .inl ⟨hl,T⟩
  rw[abw (by omega)]at T;have:=(aae.1 T).1;simp at this
  have e:i=rs.length:=by omega
  rw[e,Nat.sub_self]at T;exact .inr ⟨e,(aax T).symm⟩
 rcases a1 i r T with ⟨i1,i2⟩|⟨rfl,rfl⟩<;>rcases a1 j s hj with ⟨j1,j2⟩|⟨rfl,rfl⟩
 ·exact h.ap i j r s q (by rw[ab1 i1];exact i2) (by rw[ab1 j1];exact j2) H hs
 ·exact absurd hs (a0 q ((h.row r (J r (aah i2))).1.lt q H).2 (Z r (aah i2) q H))
 ·exact absurd H (a0 q ((h.row s (J s (aah j2))).1.lt q hs).2 (Z s (aah j2) q hs))
 rfl
theorem Mt.new {w w1 w2:World}{B:Nat}{rv TM:Value}{rs:List bY}(h:Mt w B rv rs)(hB:B<=w.heap.size)(aQ:w1=w.alloc (.cells #[] 62))(hg:w1.grownBy w2 rv.ownBlock)
  (hown:w2.ownsRow B 45 1 TM (rs.length+1) (rs.map Prod.fst++[.slice (some ⟨w.heap.size,0,none⟩) 0 0])) (hat:∀q,TM.ownBlock=some q->rv.ownBlock=some q\/w1.heap.size<=q):
  Mt w2 B TM (rs++[(.slice (some ⟨w.heap.size,0,none⟩) 0 0,[],[])]):=by
 have Z:=Qq w (.cells #[] 62);rw[<-aQ]at Z
 have a7:w1.heap.size=w.heap.size+1:=by rw[aQ];simp
 have hz:w.heap.size<=w2.heap.size:=aan Z.size hg.size
 have hb:∀q,q<w.heap.size->rv.ownBlock≠some q->w2.heap[q]?=w.heap[q]? :=fun q H T=>(hg.block q (by omega) (fun e=>T e.symm)).trans (Z.block q H)
 have a1:∀q,rv.ownBlock=some q->q<w.heap.size:=fun q H=>(h.own.lt q H).2
 have T:∀q,q<w.heap.size->rv.ownBlock≠some q->TM.ownBlock≠some q:=fun q H hn e=>by
  rcases hat q e with I|I
  ·exact hn I
  omega
 have J:∀r,r∈rs++[((.slice (some ⟨w.heap.size,0,none⟩) 0 0,[],[]):bY)]->r∈rs\/r=(.slice (some ⟨w.heap.size,0,none⟩) 0 0,[],[]):=fun r E=>by
  rcases abZ.1 E with I|I
  ·exact .inl I
  exact .inr (abu.1 I)
 refine⟨?_,?_,?_,?_,?_⟩
 ·rw[ado,aac];exact hown
 ·intro r E
  rcases J r E with E|rfl
  ·have I:=h.row r E
   exact⟨Y4 I.1 (aaa _) fun q H=>hb q (I.1.lt q H).2 (h.wJ r E q H),I.2.blk (aaa _) hz fun q c U H=>hb q (I.2.own U H).2 (h.yC r E c U q H).1⟩
  refine⟨?_,Yh.nil _ _⟩
  have I:w1.ownsRow B 62 2 (.slice (some ⟨w.heap.size,0,none⟩) 0 0) 0 []:=by rw[aQ];exact ad2 w #[] 0 hB (by unfold maxLen;omega) rfl
  exact Y4 I (aaa _) fun q H=>by have e0:w.heap.size=q:=aax H;subst e0;exact hg.block _ (by omega) (fun e=>by have:=a1 _ e.symm;omega)
 ·intro r E q H
  rcases J r E with E|rfl
  ·exact T q ((h.row r E).1.lt q H).2 (h.wJ r E q H)
  have e0:w.heap.size=q:=aax H;subst e0;intro e;rcases hat _ e with I|I
  ·have:=a1 _ I;omega
  omega
 ·intro r E c U q H
  rcases J r E with E|rfl
  ·obtain⟨a,b⟩:=h.yC r E c U q H
   have a4:=((h.row r E).2.own U H).2;refine⟨T q a4 a,fun r' a0=> ?_⟩;rcases J r' a0 with a0|rfl
   ·exact b r' a0
   intro e;have e0:w.heap.size=q:=aax e;omega
  cases U
 intro i j r s q K hj E hs
 have O:∀(i:Nat) (r:bY),(rs++[((.slice (some ⟨w.heap.size,0,none⟩) 0 0,[],[]):bY)])[i]?=some r->(i<rs.length/\rs[i]?=some r)\/(i=rs.length/\r=(.slice (some ⟨w.heap.size,0,none⟩) 0 0,[],[])):=by
  intro i r K;by_cases hl:i<rs.length
  ·rw[ab1 hl]at K;exact .inl ⟨hl,K⟩
  rw[abw (by omega)]at K;have:=(aae.1 K).1;simp at this
  have e:i=rs.length:=by omega
  rw[e,Nat.sub_self]at K;exact .inr ⟨e,(aax K).symm⟩
 rcases O i r K with ⟨i1,i2⟩|⟨rfl,rfl⟩<;>rcases O j s hj with ⟨j1,j2⟩|⟨rfl,rfl⟩
 ·exact h.ap i j r s q i2 j2 E hs
 ·have e0:w.heap.size=q:=aax hs
  have:=((h.row r (aah i2)).1.lt _ E).2;omega
 ·have e0:w.heap.size=q:=aax E
  have:=((h.row s (aah j2)).1.lt _ hs).2;omega
 rfl
theorem Mt.one (w:World)(B:Nat)(hB:B<=w.heap.size):Mt ((w.alloc (.cells #[] 62)).alloc (.cells #[.slice (some ⟨w.heap.size,0,none⟩) 0 0] 45)) B (.slice (some ⟨w.heap.size+1,0,none⟩) 1 1) [(.slice (some ⟨w.heap.size,0,none⟩) 0 0,[],[])]:=by
 have E:(w.alloc (.cells #[] 62)).heap.size=w.heap.size+1:=by simp
 refine⟨?_,?_,?_,?_,?_⟩
 ·have:=ad2 (base:=B) (e:=45) (size:=1) (w.alloc (.cells #[] 62)) #[.slice (some ⟨w.heap.size,0,none⟩) 0 0] 1 (by omega) (by unfold maxLen;omega) rfl
  rw[E]at this;exact this
 ·intro r h
  obtain rfl:=abu.1 h;exact⟨(ad2 (base:=B) (e:=62) (size:=2) w #[] 0 hB (by unfold maxLen;omega) rfl).alloc _,Yh.nil _ _⟩
 ·intro r h q T
  obtain rfl:=abu.1 h;have e0:w.heap.size=q:=aax T;intro e;have:w.heap.size+1=q:=aax e;omega
 ·intro r h c J
  obtain rfl:=abu.1 h
  cases J
 intro i j r s q K O _ _;have H:=(aae.1 K).1;have I:=(aae.1 O).1;simp at H I;omega
theorem Yh.zj {B:Nat}{w:World}{v:Value}{cs:List (Bool×Value)}{l:List (Bool×Nat)}(h:Yh B w cs l)(ho:w.ownsRow B 62 2 v cs.length (Q6 cs)):iY w v l:=by obtain⟨ao,H,rfl,a1,a2,a3⟩:=Qj ho;refine⟨ao,H,by rw[h.1],by rw[<-h.1];exact a1,a2,fun h0=> ?_⟩;obtain⟨g,rfl,-,b2,b3⟩:=a3 (by rw[h.1];exact h0);refine⟨g,0,rfl,b2,fun j p hj=> ?_⟩;have I:=(aae.1 hj).1;obtain⟨c,E⟩:∃c,cs[j]?=some c:=⟨_,aad (by rw[h.1];exact I)⟩;obtain⟨e1,⟨xs,x1,x2,x3⟩,-,-⟩:=h.2 j c p E hj;obtain⟨c1,c2⟩:=Mb cs j c E;have J:=(aae.1 E).1;rw[abx];exact⟨c.2,xs,by rw[b3 _ (by omega),c1,e1],by rw[b3 _ (by omega)];exact c2,x1,x2,x3⟩
end Go.Proofs.YtgfmiladfeoldaaGreatDoor
