/- Joined texts of this claim's proof: LexPure6, PadP, SynE, SynN, SynS, SynW, Pa1, SynG, SynD, SynV, SynQ, WtA, WtC, WtD, WtE, WtF. -/
import Derived.Test.YtgfmiladfeoldaaGreatDoorPk1
import Derived.Test.YtgfmiladfeoldaaGreatDoorPk27
import Derived.Test.YtgfmiladfeoldaaGreatDoorPk12
import Derived.Test.YtgfmiladfeoldaaGreatDoorPk23
import Derived.Test.YtgfmiladfeoldaaGreatDoorPk21
import Derived.Test.YtgfmiladfeoldaaGreatDoorPk14
import Derived.BigQuiet
set_option linter.unusedSimpArgs false
set_option linter.unusedVariables false
set_option maxRecDepth 100000
set_option maxHeartbeats 16000000
namespace LexP
def blen (l:Qx)(k:Nat):Nat:=(Qk ((Qz l).take k)).length
theorem Ua (l:Qx):blen l 0=0:=by simp[blen,Qk]
theorem Ri (l:Qx)(k:Nat):Qz (l.drop (blen l k))=(Qz l).drop k:=(Kw k l).symm
theorem Tv (l:Qx)(k:Nat):blen l k<=l.length:=by
 have h:=Ve (Qz l) k;rw[Y1]at h;exact h
theorem Gg (l:Qx):Qz l=[]↔l=[]:=by
 constructor
 ·intro h
  by_cases hl:l=[]
  ·exact hl
  ·rw[Zj hl]at h;cases h
 ·rintro rfl;rfl
theorem Yv (l:Qx)(k:Nat):blen l k<l.length↔k<(Qz l).length:=by
 have h:=Gg (l.drop (blen l k));rw[Ri,List.drop_eq_nil_iff,List.drop_eq_nil_iff]at h;omega
theorem Qx1 {l:Qx}{k:Nat}(h:k<(Qz l).length):l.drop (blen l k)≠[]:=by
 have:=(Yv l k).2 h;intro E;rw[List.drop_eq_nil_iff]at E;omega
theorem Uh {l:Qx}{k:Nat}(h:k<(Qz l).length):(Qz l)[k]?=some (val (l.drop (blen l k)),(l.drop (blen l k)).take (wid (l.drop (blen l k)))):=by
 have E:=Zj (Qx1 h);rw[Ri]at E
 have H:((Qz l).drop k)[0]?=(Qz l)[k]? :=by rw[List.getElem?_drop];rfl
 rw[<-H,E];rfl
theorem Ub {l:Qx}{k:Nat}(h:k<(Qz l).length):blen l (k+1)=blen l k+wid (l.drop (blen l k)):=by
 have E:=Uh h;have H:=P4 (Qx1 h);show (Qk ((Qz l).take (k+1))).length=_;rw[List.take_add_one,E];simp only[Option.toList_some,Qk,List.flatMap_append,List.flatMap_cons,List.flatMap_nil,List.append_nil,List.length_append,List.length_take];rw[Nat.min_eq_left H];rfl
theorem Kz (l:Qx)(i k:Nat):blen l (i+k)=blen l i+blen (l.drop (blen l i)) k:=by
 unfold blen;rw[<-Kw,List.take_add,Qk,List.flatMap_append,List.length_append];rfl
theorem charRes_cases (l:Qx):(Yi l=(0,0)/\val l=none)\/
  ∃v n,Yi l=(v,n)/\1<=n/\n<=l.length/\n<=4/\v<=0x10ffff/\val l=some v/\wid l=n:=by
 unfold Yi val wid
 cases h:dec l with
 |none=>exact .inl ⟨rfl,rfl⟩
 |some p=>
  obtain⟨v,n⟩:=p;have E:=Uo h;exact .inr ⟨v,n,rfl,E.1,E.2.1,E.2.2,Qxt h,rfl,rfl⟩
theorem Ud {p:C->Bool}{cs:List C}{j:Nat}{c:C}(hj:j<cs.length)(hall:∀d∈cs.take j,p d=true)(hc:cs[j]?=some c)(hp:p c=false):Qp p cs=j:=
 S9 p cs j (by omega) hall (fun d hd=>by rw[hc]at hd;cases hd;exact hp)
theorem Rs {p:C->Bool}{cs:List C}(hall:∀d∈cs.take cs.length,p d=true):Qp p cs=cs.length:=
 S9 p cs cs.length (Nat.le_refl _) hall (fun d hd=>by simp at hd)
theorem Wn {p:C->Bool}{cs:List C}{j:Nat}{c:C}(hall:∀d∈cs.take j,p d=true)(hc:cs[j]?=some c)(hp:p c=true):∀d∈cs.take (j+1),p d=true:=by
 intro d h;rw[List.take_add_one,hc]at h;simp at h;rcases h with h|rfl
 ·exact hall d h
 ·exact hp
end LexP
namespace LexP
open NumP
theorem Qkv {b:UInt8}{t:Qx}{v n:Nat}(h:dec (b::t)=some (v,n))(hb:b.toNat<128):v=b.toNat:=by
 unfold dec at h;simp only[hb,if_true]at h
 cases h;rfl
end LexP
namespace SynP
open LexP
theorem Gn:∀(n:Nat) (cs:List C) (col:Nat) (ts:List Tok),cs.length<=n->Toks col cs=.ok ts-> ∀t∈ts,t.1=1->t.2.1.length<=(Qk cs).length:=by
 intro n
 induction n with
 |zero=>
  intro cs col ts K h;rw[List.eq_nil_of_length_eq_zero (Nat.le_zero.1 K),Zu]at h
  cases h
  intro t E;cases E
 |succ n ih=>
  intro cs col ts K h
  cases cs with
  |nil=>
   rw[Zu]at h
   cases h
   intro t E;cases E
  |cons c cs=>
   have H:∀(k col:Nat) (m:List Tok),1<=k->Toks col ((c::cs).drop k)=.ok m-> ∀t∈m,t.1=1->t.2.1.length<=(Qk (c::cs)).length:=by
    intro k col m O J t E I;have e:=congrArg List.length (N9 k (c::cs));rw[List.length_append]at e;have:=ih _ _ _ (by rw[List.length_drop];omega) J t E I;omega
   have O:=Ks c;by_cases k0:kd c=0
   ·rw[Wl _ k0]at h;cases h
   by_cases k1:kd c=1
   ·rw[Z9 _ k1]at h
    exact H 1 _ _ (Nat.le_refl _) h
   by_cases k2:kd c=2
   ·rw[J6 _ k2]at h
    split at h
    ·cases h
    ·cases h
     intro t E;cases E
   by_cases k3:kd c=3
   ·rw[Wu _ k3]at h
    split at h
    ·cases h
    ·obtain⟨m,J,rfl⟩:=Yn h
     have:=H _ _ _ (Xy (p:=Qd) (c:=c) (cs:=cs) (by simp[Qd,k3])) J;intro t E I;rcases List.mem_cons.1 E with rfl|E
     ·exact Ve _ _
     ·exact this t E I
   by_cases k4:kd c=4
   ·rw[J3 _ k4]at h
    split at h
    ·cases h
    ·obtain⟨m,J,rfl⟩:=Yn h
     have:=H _ _ _ (Xy (p:=isAl) (c:=c) (cs:=cs) (by simp[isAl,k4])) J;intro t E I;rcases List.mem_cons.1 E with rfl|E
     ·cases I
     ·exact this t E I
   by_cases k5:kd c=5
   ·rw[J5 _ k5]at h
    obtain⟨m,J,rfl⟩:=Yn h;have:=H 1 _ _ (Nat.le_refl _) J;intro t E I;rcases List.mem_cons.1 E with rfl|E
    ·cases I
    ·exact this t E I
   ·rw[Jk _ (by omega)]at h;cases h
end SynP
namespace Go.Proofs.YtgfmiladfeoldaaGreatDoor
open LexP NumP
theorem K0:∀l:Qx,∀c∈Qz l,Qd c=true-> ∃b,c.2=[b]/\(Qu b=true\/b=95)/\(kd c=3->Qu b=true):=by
 apply Ul
 ·intro c E;simp[Wx]at E
 ·intro l Z ih c E
  rw[Zj Z]at E;rcases List.mem_cons.1 E with rfl|E
  ·intro I
   cases hd:dec l with
   |none=>
    have H:val l=none:=by simp[val,hd]
    rw[H]at I;simp[Qd,kd,rn]at I
   |some p=>
    obtain⟨v,n⟩:=p
    have H:val l=some v:=by simp[val,hd]
    have hw:wid l=n:=by simp[wid,hd]
    rw[H]at I;rw[hw,H];have J:(kindOf v==3||v==95)=true:=I
    have O:kindOf v=3->48<=v/\v<=57:=by
     unfold kindOf
     repeat' split
     all_goals omega
    have T:(48<=v/\v<=57)\/v=95:=by
     simp only[Bool.or_eq_true,beq_iff_eq]at J;rcases J with h|h
     ·exact .inl (O h)
     ·exact .inr h
    obtain⟨rfl,U⟩:=Nt hd (by omega)
    have K:v.toUInt8.toNat=v:=by simp;omega
    refine⟨v.toUInt8,U,?_,?_⟩
    ·rcases T with h|rfl
     ·left;simp only[Qu,K,Bool.and_eq_true,decide_eq_true_eq];exact h
     ·right;rfl
    ·intro hk
     have:=O hk;simp only[Qu,K,Bool.and_eq_true,decide_eq_true_eq];exact this
  ·exact ih c E
theorem Aq {S:Qx}{cs:List C}(h:∀c∈cs,c∈Qz S):Je (Qk (cs.take (Qp Qd cs))):=by
 intro b H;simp only[Qk,List.mem_flatMap]at H;obtain⟨c,I,E⟩:=H;have O:=Z4 _ c I;obtain⟨x,J,K,_⟩:=K0 S c (h c (List.mem_of_mem_take I)) O;rw[J]at E;simp only[List.mem_singleton]at E;subst E;exact K
def Qqh (t:Tok):Prop:=t.1=1->Je t.2.1/\0<t.2.1.length/\Xr t.2.1=false
theorem Qjp (S:Qx):∀(n:Nat) (cs:List C) (col:Nat) (ts:List Tok),cs.length<=n->(∀c∈cs,c∈Qz S)->Toks col cs=.ok ts-> ∀t∈ts,Qqh t:=by
 intro n
 induction n with
 |zero=>
  intro cs col ts U _ h;rw[List.eq_nil_of_length_eq_zero (Nat.le_zero.1 U),Zu]at h
  cases h
  intro t E;cases E
 |succ n ih=>
  intro cs col ts U J h
  cases cs with
  |nil=>
   rw[Zu]at h
   cases h
   intro t E;cases E
  |cons c cs=>
   have H:∀(k col:Nat) (m:List Tok),1<=k->Toks col ((c::cs).drop k)=.ok m-> ∀t∈m,Qqh t:=by
    intro k col m hk I;exact ih _ _ _ (by rw[List.length_drop];omega) (fun d hd=>J d (List.mem_of_mem_drop hd)) I
   have hk:=Ks c;by_cases k0:kd c=0
   ·rw[Wl _ k0]at h;cases h
   by_cases k1:kd c=1
   ·rw[Z9 _ k1]at h
    exact H 1 _ _ (Nat.le_refl _) h
   by_cases k2:kd c=2
   ·rw[J6 _ k2]at h
    split at h
    ·cases h
    ·cases h
     intro t E;cases E
   by_cases k3:kd c=3
   ·rw[Wu _ k3]at h
    split at h
    ·cases h
    ·rename_i hb
     obtain⟨m,I,rfl⟩:=SynP.Yn h
     have Z:Qd c=true:=by simp[Qd,k3]
     have hp:=Xy (p:=Qd) (c:=c) (cs:=cs) Z;have:=H _ _ _ hp I;intro t E;rcases List.mem_cons.1 E with rfl|E
     ·intro _
      have hr:=Aq (S:=S) (cs:=c::cs) J;obtain⟨x,hx,-,h2⟩:=K0 S c (J c (by simp)) Z;obtain⟨j,hj⟩:∃j,Qp Qd (c::cs)=j+1:=⟨Qp Qd (c::cs)-1,by omega⟩
      have e:Qk ((c::cs).take (Qp Qd (c::cs)))=x::Qk (cs.take j):=by rw[hj,List.take_succ_cons];simp[Qk,hx]
      refine⟨hr,by show 0<(Qk _).length;rw[e];simp,?_⟩
      have T:Ju (Qk ((c::cs).take (Qp Qd (c::cs))))=false:=by simpa using hb
      show Xr (Qk _)=false;rw[<-Rp,T];rw[e];intro a0
      have K:x=95:=by simpa using a0
      have:=h2 k3;rw[K]at this;exact absurd this (by decide)
     ·exact this t E
   by_cases k4:kd c=4
   ·rw[J3 _ k4]at h
    split at h
    ·cases h
    ·obtain⟨m,I,rfl⟩:=SynP.Yn h
     have:=H _ _ _ (Xy (p:=isAl) (c:=c) (cs:=cs) (by simp[isAl,k4])) I;intro t E;rcases List.mem_cons.1 E with rfl|E
     ·intro O;cases O
     ·exact this t E
   by_cases k5:kd c=5
   ·rw[J5 _ k5]at h
    obtain⟨m,I,rfl⟩:=SynP.Yn h;have:=H 1 _ _ (Nat.le_refl _) I;intro t E;rcases List.mem_cons.1 E with rfl|E
    ·intro O;cases O
    ·exact this t E
   ·rw[Jk _ (by omega)]at h;cases h
theorem Pb {S:Qx}{ts:List Tok}(h:Toks 1 (Qz S)=.ok ts):∀t∈ts,Qqh t:=Qjp S _ _ _ _ (Nat.le_refl _) (fun _ h=>h) h
end Go.Proofs.YtgfmiladfeoldaaGreatDoor
namespace SynP
open LexP
section
variable {φ:Nat->Nat} {α β:Type}
end
end SynP
namespace SynP
open LexP
theorem Sy {r:Res}{t:List Tok}{ts:List Tok}(h:r.after t=.ok ts):∃m,r=.ok m/\ts=t++m:=by
 cases r with
 |error e=>cases h
 |ok m=>exact⟨m,rfl,by simpa [Res.after] using h.symm⟩
theorem Qvh {c:C}(h:kd c≠0):Qe c=true:=by simp[Qe,h]
theorem Hh:∀(A:List C) (col:Nat) (ts:List Tok),Toks col A=.ok ts->A.all Qe=true:=by
 intro A col ts h;refine(Hi (P:=fun _ A r=>(∃l,r=Except.ok l)->A.all Qe=true) ?_ ?_ ?_ ?_ ?_ A col) ⟨ts,h⟩
 ·intro _ _;rfl
 ·intro col c A O ih E
  rw[List.all_cons,ih E,Qvh (by omega)];rfl
 ·intro col c A O E
  obtain⟨l,H⟩:=E;split at H
  ·cases H
  ·rename_i Z
   have U:=Y7 Qe (c::A);have I:=Z4 (p:=Qe) (c::A);rw[show Qp Qe (c::A)=(c::A).length from by omega,List.take_length]at I;exact List.all_eq_true.2 I
 ·intro col c A e _ _ _ E
  obtain⟨l,H⟩:=E
  cases H
 ·intro col c A n k t _ _ _ U I J ih E
  obtain⟨l,H⟩:=E;obtain⟨m,T,-⟩:=Sy H;have K:=ih ⟨m,T⟩;rw[<-List.take_append_drop n (c::A),List.all_append,K,List.all_eq_true.2 J];rfl
def Y4 (l:Qx):Except (Nat×Nat) Ln:=
 match Toks 1 (Qz l) with
 | .error e=> .error e
 | .ok ts=>
  match line ((Qz l).length+1) (10*ts.length+9) ⟨ts,0⟩ with
  |none=> .error (0,0)
  |some (.error e)=> .error e
  |some (.ok (n,_))=>if 4096<n.size then .error (1,5) else .ok n
theorem H9 {l:Qx}{e:Nat×Nat}(h:Toks 1 (Qz l)=.error e):Y4 l=.error e:=by unfold Y4;rw[h]
theorem Hd {l:Qx}{ts:List Tok}{e:Nat×Nat}(h:Toks 1 (Qz l)=.ok ts)(k:line ((Qz l).length+1) (10*ts.length+9) ⟨ts,0⟩=some (.error e)):Y4 l=.error e:=by
 unfold Y4;rw[h];simp only[k]
theorem F5 {l:Qx}{ts:List Tok}{n:Ln}{s:St}(h:Toks 1 (Qz l)=.ok ts)(k:line ((Qz l).length+1) (10*ts.length+9) ⟨ts,0⟩=some (.ok (n,s))):Y4 l=if 4096<n.size then .error (1,5) else .ok n:=by
 unfold Y4;rw[h];simp only[k]
end SynP
namespace Go.Proofs.YtgfmiladfeoldaaGreatDoor
open Go.RowKit NatP LexP
theorem Qg {a b c:World}(h:Below a.heap.size a b)(k:Below b.heap.size b c):Below a.heap.size a c:=h.trans (k.mono h.size)
def Fits (l:Qx):Prop:=l.length<=67108864
theorem Qgd:∀(n:Nat) (cs:List C) (col:Nat) (ts:List Tok),cs.length<=n->Toks col cs=.ok ts->(ts.map fun t=>t.2.1.length+1).sum<=(Qk cs).length+2*cs.length:=by
 intro n
 induction n with
 |zero=>
  intro cs col ts I h;rw[List.eq_nil_of_length_eq_zero (Nat.le_zero.1 I),Zu]at h
  cases h
  exact Nat.zero_le _
 |succ n ih=>
  intro cs col ts I h
  cases cs with
  |nil=>
   rw[Zu]at h
   cases h
   exact Nat.zero_le _
  |cons c cs=>
   have E:∀(k col:Nat) (m:List Tok),1<=k->Toks col ((c::cs).drop k)=.ok m->(m.map fun t=>t.2.1.length+1).sum+(Qk ((c::cs).take k)).length+2<=(Qk (c::cs)).length+2*(c::cs).length:=by
    intro k col m J H;have e:=congrArg List.length (SynP.N9 k (c::cs));rw[List.length_append]at e
    have O:((c::cs).drop k).length+1<=(c::cs).length:=by rw[List.length_drop,List.length_cons];omega
    have:=ih _ _ _ (by omega) H;omega
   have J:=Ks c;by_cases k0:kd c=0
   ·rw[Wl _ k0]at h;cases h
   by_cases k1:kd c=1
   ·rw[Z9 _ k1]at h
    have:=E 1 _ _ (Nat.le_refl _) h;omega
   by_cases k2:kd c=2
   ·rw[J6 _ k2]at h
    split at h
    ·cases h
    ·cases h
     exact Nat.zero_le _
   by_cases k3:kd c=3
   ·rw[Wu _ k3]at h
    split at h
    ·cases h
    ·obtain⟨m,H,rfl⟩:=SynP.Yn h
     have:=E _ _ _ (Xy (p:=Qd) (c:=c) (cs:=cs) (by simp[Qd,k3])) H;rw[List.map_append,List.sum_append];simp only[List.map_cons,List.map_nil,List.sum_cons,List.sum_nil];omega
   by_cases k4:kd c=4
   ·rw[J3 _ k4]at h
    split at h
    ·cases h
    ·obtain⟨m,H,rfl⟩:=SynP.Yn h
     have:=E _ _ _ (Xy (p:=isAl) (c:=c) (cs:=cs) (by simp[isAl,k4])) H;rw[List.map_append,List.sum_append];simp only[List.map_cons,List.map_nil,List.sum_cons,List.sum_nil];omega
   by_cases k5:kd c=5
   ·rw[J5 _ k5]at h
    obtain⟨m,H,rfl⟩:=SynP.Yn h;have:=E 1 _ _ (Nat.le_refl _) H
    have e1:Qk ((c::cs).take 1)=c.2:=by simp[Qk]
    rw[e1]at this
    have K:(Z1 c).length<=c.2.length+1:=by
     unfold Z1
     repeat' split
     all_goals simp
    rw[List.map_append,List.sum_append];simp only[List.map_cons,List.map_nil,List.sum_cons,List.sum_nil];omega
   ·rw[Jk _ (by omega)]at h;cases h
theorem Fits.toks {l:Qx}(h:Fits l){ts:List Tok}(ht:Toks 1 (Qz l)=.ok ts):ts.length<=67108864/\(ts.map fun t=>t.2.1.length+1).sum<=201326592:=by
 unfold Fits at h;have H:=(Mh _ _ _ ht).1;have I:=Yq l;have E:=Qgd _ _ _ _ (Nat.le_refl _) ht;rw[Y1]at E;omega
theorem Fits.good {l:Qx}(h:Fits l){ts:List Tok}(ht:Toks 1 (Qz l)=.ok ts):∀t∈ts,Qmk t:=fun t hm h1=>by
 obtain⟨a,b,c⟩:=Pb ht t hm h1;refine⟨a,b,?_,c⟩;have E:=SynP.Gn _ _ _ _ (Nat.le_refl _) ht t hm h1;rw[Y1]at E;exact Nat.le_trans E h
def StP (l:Qx)(w:World)(e:Ending)(w':World):Prop:=
 match Toks 1 (Qz l) with
 | .error (c,k)=>e=.returned (.tuple #[.pointer none,.int .i64 (c:Nat),.int .i64 (k:Nat)])/\Below w.heap.size w w'
 | .ok ts=> ∃R tv,e=.returned (.tuple #[.pointer (some ⟨R,0,none⟩),.int .i64 0,.int .i64 0])/\w.heap.size<=R/\Below w.heap.size w w'/\RS w' R tv ts ((Qz l).length+1) 0 ⟨ts,0⟩ (.slice none 0 0) []
theorem Qjn (s:ByteArray)(w:World)(hf:Fits s.data.toList)(hx:Lx w)(hs:SG w)(hsz:4<w.heap.size):
  Calls Tryz.prog 47 #[.string s] w (StP s.data.toList w):=by
 have HF:=zq hf;have HX:=zq hx;have HSG:=zq hs
 have hs4:s.size<=67108864:=by rw[Lib.size_eq];exact hf
 clear hf hx hs;go_enter Tryz.func47,Tryz.ntmps47;go_wp2_with fail;refine(Ku s _ hs4 HX.o).mono ?_;rintro e w1 ⟨v,rfl,h1,h2⟩
 cases hT:Toks 1 (Qz s.data.toList) with
 |error p=>
  obtain⟨c,k⟩:=p;have HT:=zq hT;have hk0:=(Pm _ _ _ hT).1;have H2:=zq h2;clear h1 h2 hT;have ec:(resCol (.error (c,k)):Nat)=c:=rfl;have ek:(resErr (.error (c,k)):Nat)=k:=rfl;rw[ec,ek];simp only at hk0
  have hkk:((k:Int) !=0)=true:=by simp;omega
  go_wp2_with fail;go_ret3;unfold StP;rw[HT.o]
  exact⟨rfl,H2.o⟩
 |ok ts=>
  have HT:=zq hT
  have h1':w1.ownsRow w.heap.size 119 3 v ts.length (Xu ts):=by rw[hT]at h1;exact h1
  have H1:=zq h1';obtain⟨ao,cap,rfl,-,-,-⟩:=Qj h1';have H2:=zq h2;have hcl:=SynP.Hh _ _ _ hT
  have HCL:Hid (Vz s.data.toList=((Qz s.data.toList).length,0)):=by show _=_;unfold Vz;rw[if_pos hcl]
  have hlen:=Yq s.data.toList;rw[<-Lib.size_eq]at hlen;clear h1 h1' h2 hT hcl;have ec:(resCol (.ok ts):Nat)=0:=rfl;have ek:(resErr (.ok ts):Nat)=0:=rfl;rw[ec,ek];go_wp2_with fail;refine(Al s _ hs4).mono ?_;rintro e w2 ⟨rfl,h3⟩;rw[HCL.o];have H3:=zq h3;clear h3;obtain⟨n,hn⟩:=xq ((Qz s.data.toList).length);rw[<-hn]at hlen;simp only;rw[<-hn];have HN:=zq hn;clear hn;go_wp2_with fail;go_ret3;have hb:=Qg H2.o H3.o;obtain⟨hts,hsm⟩:=HF.o.toks HT.o;unfold StP;rw[HT.o];refine⟨w2.heap.size,.slice ao ts.length cap,rfl,hb.size,Qg hb (Qq _ _),?_⟩;have hal:=Qq w2 (.cells #[.slice ao ts.length cap,.int .i64 0,.int .i64 ((n:Int)+1),.int .i64 0,.slice none 0 0] 85);refine {blk:= ?_,tks:= ?_,drop:=rfl,le:=Nat.zero_le _,own:=World.ownsRow_nil _ _ _ _,kids:=(fun p hp=>by cases hp),apart:=(fun i j p q k h=>by simp at h),few:=(by show 0+ts.length<=_;omega),deep:=Nat.zero_le _,short:=hts,sum:=hsm,good:=HF.o.good HT.o,sg:= ?_,sgl:= ?_}
  ·rw[<-HN.o];exact heap_alloc_new w2 _
  ·obtain⟨ao',cap',e,a1,a2,a3⟩:=Qj H1.o
   cases e
   refine⟨ao,cap,rfl,a1,a2,fun h0=> ?_⟩;obtain⟨g,rfl,b1,b2,b3⟩:=a3 h0;refine⟨g,rfl,Nat.lt_of_lt_of_le b2 H3.o.size,fun j t hj=> ?_⟩;have hjl:=(List.getElem?_eq_some_iff.1 hj).1;obtain⟨c1,c2,c3⟩:=Rn ts j t hj
   have hc:∀o,(w2.alloc (.cells #[.slice (some ⟨g,0,none⟩) ts.length cap,.int .i64 0,.int .i64 ((n:Int)+1),.int .i64 0,.slice none 0 0] 85)).cell? ⟨g,o,none⟩=w1.cell? ⟨g,o,none⟩:=fun o=>
    (hal.cell (p:=⟨g,o,none⟩) (Nat.lt_of_lt_of_le b2 H3.o.size)).trans (H3.o.cell (p:=⟨g,o,none⟩) b2)
   exact⟨by rw[hc,b3 _ (by omega)];exact c1,by rw[hc,b3 _ (by omega)];exact c2,by rw[hc,b3 _ (by omega),c3]⟩
  ·exact HSG.o.below (Qg hb hal) hsz
  ·exact Nat.lt_of_lt_of_le hsz hb.size
structure Tr (w:World) (B:Nat) (nv:Value) (ns:List Nv):Prop where
 own:w.ownsRow B 43 3 nv ns.length (Xd ns)
 kids:∀p∈ns,KR w B nv.ownBlock p.2 p.1.kids
 apart:∀(i j:Nat) (p q:Nv) (k:Nat),ns[i]?=some p->ns[j]?=some q->p.2.ownBlock=some k->q.2.ownBlock=some k->i=j
theorem Aj {w:World}{B B' k n:Nat}{e:TypeId}{v:Value}{cs:List Value}(h:w.ownsRow B e k v n cs)(hB:B'<=B):w.ownsRow B' e k v n cs:=by
 refine⟨h.1,?_⟩;rcases h.2 with K|⟨g,I,H,rfl,O,J,E⟩
 ·exact .inl K
 ·exact .inr ⟨g,I,H,rfl,Nat.le_trans hB O,J,E⟩
theorem KR.low {w:World}{R R':Nat}{og:Option Nat}{v:Value}{ks:List Nat}(h:KR w R og v ks)(hr:R'<=R):KR w R' og v ks:=by
 obtain⟨ao,H,rfl,K,J,E,I⟩:=h;exact⟨ao,H,rfl,K,J,fun q hq=>⟨Nat.lt_of_le_of_lt hr (E q hq).1,(E q hq).2⟩,I⟩
theorem RS.tr {w:World}{R:Nat}{tv:Value}{L:List Tok}{fin a:Nat}{s:SynP.St}{nv:Value}{ns:List Nv}(h:RS w R tv L fin a s nv ns){B:Nat}(hB:B<=R):Tr w B nv ns:=
 ⟨Aj h.own (by omega),fun p hp=>(h.kids p hp).low hB,h.apart⟩
def PaP (l:Qx)(w:World)(e:Ending)(w':World):Prop:=
 match SynP.Y4 l with
 | .error (c,k)=>e=.returned (.tuple #[.slice none 0 0,.int .i64 (c:Nat),.int .i64 (k:Nat)])/\Below w.heap.size w w'
 | .ok n=> ∃nv ns,e=.returned (.tuple #[nv,.int .i64 0,.int .i64 0])/\Below w.heap.size w w'/\Tr w' w.heap.size nv ns/\ns.map Prod.fst=n.flat
theorem Wr.belowR {R:Nat}{w0 w w':World}(h:Wr R none w w')(hb:Below w0.heap.size w0 w)(hB:w0.heap.size<=R):Below w0.heap.size w0 w':=
 ⟨h.os.trans hb.os,h.tape.trans hb.tape,h.output.trans hb.output,Nat.le_trans hb.size h.size,fun k hk=>(h.block k (Nat.lt_of_lt_of_le hk hb.size) (by omega) (by simp)).trans (hb.block k hk)⟩
end Go.Proofs.YtgfmiladfeoldaaGreatDoor
namespace SynP
open LexP
structure NI where
 op:Int
 text:Qx
 kids:List Int
deriving DecidableEq
def Node.toI (n:Node):NI:=⟨n.op,n.text,n.kids.map fun k:Nat=>(k:Int)⟩
def cnt (op:Int)(k:Nat):Bool:=
 if op=1\/op=2\/op=3\/op=13\/op=14 then k==0
 else if op=4\/op=5\/op=9\/op=11 then k==1
 else if op=6\/op=7\/op=8 then k==2
 else if op=10 then decide (1<=k)
 else decide (op=12)
def Ez (op:Int):Bool:=op==11||op==12||op==14
def Vf (free:List Nat)(k:Nat):List Int:=(free.drop (free.length-k)).map fun k:Nat=>(k:Int)
def Ty (W:Int->Qx->Bool)(n i:Nat)(free:List Nat)(x:NI):Bool:=
 !(Ez x.op !=(i+1==n)|| !cnt x.op x.kids.length||decide (free.length<x.kids.length)|| !W x.op x.text)
def Zt (W:Int->Qx->Bool)(n:Nat):Nat->List Nat->List NI->Bool
 |_,free,[]=>free.length==1
 |i,free,x::l=>
  if Ty W n i free x then
   if x.kids=Vf free x.kids.length then Zt W n (i+1) (free.take (free.length-x.kids.length)++[i]) l else false
  else false
def Y5:List Ex->Nat->List Node
 | [],_=>[]
 |a::l,o=>a.flat o++Y5 l (o+a.size)
def Xm:List Ex->Nat->List Nat
 | [],_=>[]
 |a::l,o=>(o+a.size-1)::Xm l (o+a.size)
def Qo:List Ex->Nat
 | []=>0
 |a::l=>a.size+Qo l
def ofL:List Ex->Exs
 | []=> .nil
 |a::l=> .cons a (ofL l)
theorem Kr:∀(l:List Ex) (o:Nat),(ofL l).flat o=Y5 l o
 | [],_=>rfl
 |a::l,o=>by show a.flat o++(ofL l).flat _=_;rw[Kr l];rfl
theorem P0:∀(l:List Ex) (o:Nat),(ofL l).roots o=Xm l o
 | [],_=>rfl
 |a::l,o=>by show _::(ofL l).roots _=_;rw[P0 l];rfl
theorem Hf:∀(l:List Ex),(ofL l).size=Qo l
 | []=>rfl
 |a::l=>by show _+(ofL l).size=_;rw[Hf l];rfl
theorem Nd:∀(a b:List Ex) (o:Nat),Y5 (a++b) o=Y5 a o++Y5 b (o+Qo a)
 | [],_,_=>rfl
 |x::a,b,o=>by
  show x.flat o++Y5 (a++b) _=x.flat o++Y5 a _++_;rw[Nd a b,List.append_assoc,Nat.add_assoc];rfl
theorem U3:∀(a b:List Ex) (o:Nat),Xm (a++b) o=Xm a o++Xm b (o+Qo a)
 | [],_,_=>rfl
 |x::a,b,o=>by
  show _::Xm (a++b) _=_::Xm a _++_;rw[U3 a b,Nat.add_assoc];rfl
theorem Zw:∀(a b:List Ex),Qo (a++b)=Qo a+Qo b
 | [],_=>by simp[Qo]
 |x::a,b=>by show x.size+Qo (a++b)=x.size+Qo a+_;rw[Zw a b,Nat.add_assoc]
theorem Jv:∀(a:List Ex) (o:Nat),(Xm a o).length=a.length
 | [],_=>rfl
 |x::a,o=>by show (Xm a _).length+1=a.length+1;rw[Jv a]
def nL (l:List Node):List NI:=l.map Node.toI
theorem Vj:∀e:Ex,0<e.size:=by
 intro e;cases e<;>simp[Ex.size]
end SynP
namespace SynP
open LexP
end SynP
namespace SynP
open LexP
def Qhd (t:Qx):Except Nat MatV:=
 match Toks 1 (Qz t) with
 | .error _=> .error 7
 | .ok ts=>
  match (X6 ((Qz t).length+1) (ts.length+3) ⟨ts,0⟩).bind fun m s=>done ((Qz t).length+1) m s with
  |none=> .error 0
  |some (.error (_,k))=> .error (if k=2\/k=5 then k else 7)
  |some (.ok (m,_))=> .ok m
def Qhb (t:Qx):Option (List (List Nat)):=
 match Toks 1 (Qz t) with
 | .error _=>none
 | .ok ts=>
  match (Xg ((Qz t).length+1) (ts.length+2) ⟨ts,0⟩).bind fun l s=>done ((Qz t).length+1) l s with
  |some (.ok (l,_))=>some l
  |_=>none
def numV (t:Qx):Bool:=decide (t≠[]) && t.all NumP.Qu && (decT (Xx t)==t)
def namV (t:Qx):Bool:=
 match Toks 1 (Qz t) with
 | .ok [(k,x,_)]=>k==2 && x==t
 |_=>false
def matV (t:Qx):Bool:=
 match Qhd t with
 | .ok m=>matT m==t
 | .error _=>false
def cpxV (t:Qx):Bool:=
 match Qhb t with
 |some l=>cpxT l==t
 |none=>false
def WV (op:Int)(t:Qx):Bool:=
 if op=1\/op=9 then numV t
 else if op=2\/op=10\/op=11 then namV t
 else if op=12 then namV t && t !=letB
 else if op=3 then matV t
 else if op=13 then cpxV t
 else t==[]
end SynP
namespace SynP
open LexP
def SegN (l:List NI)(o:Nat)(ns:List Node):Prop:=∀j n,ns[j]?=some n->l[o+j]?=some n.toI
theorem SegN.app {l:List NI}{o:Nat}{a b:List Node}(h:SegN l o (a++b)):SegN l o a/\SegN l (o+a.length) b:=
 ⟨fun j n hj=>h j n (by rw[List.getElem?_append_left (List.getElem?_eq_some_iff.1 hj).1];exact hj),fun j n hj=>by
  have:=h (a.length+j) n (by rw[List.getElem?_append_right (by omega)];simpa using hj)
  rwa [<-Nat.add_assoc]at this⟩
theorem SegN.one {l:List NI}{o:Nat}{n:Node}(h:SegN l o [n]):l[o]?=some n.toI:=by simpa using h 0 n rfl
theorem SegN.all (ns:List Node):SegN (nL ns) 0 ns:=fun j n hj=>by simp[nL,hj]
def exL:Exs->List Ex
 | .nil=>[]
 | .cons a l=>a::exL l
def Mk (i:Nat)(e:Ex):Qx:=(if 0<i then [44,32] else [])++e.pr
def Qzn (l:List Ex)(j:Nat):Qx:=
 match l[j]? with
 |some e=>Mk j e
 |none=>[]
def Vd (l:List Ex)(i:Nat):Qx:=(List.range i).flatMap (Qzn l)
theorem Qqx (l:List Ex):Vd l 0=[]:=rfl
theorem U9 {l:List Ex}{i:Nat}{e:Ex}(h:l[i]?=some e):Vd l (i+1)=Vd l i++Mk i e:=by
 unfold Vd;rw[List.range_succ,List.flatMap_append];simp[Qzn,h]
theorem Gq:∀(ks:Exs) (p:List Ex),p≠[]->Vd (p++exL ks) (p.length+(exL ks).length)=Vd (p++exL ks) p.length++ks.prTail
 | .nil,p,_=>by simp[exL,Exs.prTail]
 | .cons a ks,p,hp=>by
  have h1:=Gq ks (p++[a]) (by simp)
  have e1:(p++[a])++exL ks=p++exL (.cons a ks):=by simp[exL]
  have e2:(p++[a]).length+(exL ks).length=p.length+(exL (.cons a ks)).length:=by simp[exL];omega
  rw[e1,e2]at h1;rw[h1]
  have E:(p++exL (.cons a ks))[p.length]?=some a:=by simp[exL]
  have h:(p++[a]).length=p.length+1:=by simp
  rw[h,U9 E];have H:0<p.length:=List.length_pos_iff.2 hp;show _=_++([44,32]++a.pr++ks.prTail);unfold Mk;rw[if_pos H];simp
theorem Fe (ks:Exs):Vd (exL ks) (exL ks).length=ks.pr:=by
 cases ks with
 |nil=>rfl
 |cons a ks=>
  have h:=Gq ks [a] (by simp);have e1:[a]++exL ks=exL (.cons a ks):=rfl
  have e2:([a]:List Ex).length+(exL ks).length=(exL (.cons a ks)).length:=by simp[exL];omega
  rw[e1,e2]at h;rw[h];show Vd (exL (.cons a ks)) (0+1)++_=_;rw[U9 (e:=a) rfl];rfl
def dpU (l:List Ex)(i:Nat):Nat:=((l.take i).map Ex.dp).foldl max 0
theorem Qw9 (l:List Ex):dpU l 0=0:=by simp[dpU]
theorem Qwt {l:List Ex}{i:Nat}{e:Ex}(h:l[i]?=some e):dpU l (i+1)=max (dpU l i) e.dp:=by
 unfold dpU;rw[List.take_add_one,h];simp[List.foldl_append]
theorem Ni:∀(l:List Nat) (m:Nat),l.foldl max m=max m (l.foldl max 0)
 | [],m=>by simp
 |a::l,m=>by
  show l.foldl max (max m a)=max m (l.foldl max (max 0 a));rw[Ni l (max m a),Ni l (max 0 a)];omega
theorem Qz3:∀ks:Exs,dpU (exL ks) (exL ks).length=ks.dp
 | .nil=>rfl
 | .cons a ks=>by
  have h:=Qz3 ks;unfold dpU at h ⊢;rw[List.take_length]at h ⊢;show (exL ks|>.map Ex.dp).foldl max (max 0 a.dp)=max a.dp ks.dp;rw[Ni,h];omega
theorem Ny:∀(ks:Exs) (o:Nat),(ks.roots o).length=(exL ks).length
 | .nil,_=>rfl
 | .cons a ks,o=>by show (ks.roots _).length+1=(exL ks).length+1;rw[Ny ks]
mutual
theorem Jr:∀(e:Ex) (o:Nat),(e.flat o).length=e.size
 | .num _,_| .name _,_| .mat _,_| .cpx _,_=>rfl
 | .neg a,o| .turn a,o| .pow a _,o=>by simp[Ex.flat,Ex.size,Jr a]
 | .add a b,o| .sub a b,o| .mul a b,o=>by simp[Ex.flat,Ex.size,Jr a,Jr b];omega
 | .call _ l,o=>by simp[Ex.flat,Ex.size,Pu l]
theorem Pu:∀(l:Exs) (o:Nat),(l.flat o).length=l.size
 | .nil,_=>rfl
 | .cons a l,o=>by simp[Exs.flat,Exs.size,Jr a,Pu l]
end
theorem Qwv {l:List NI}:∀(ks:Exs) (o i:Nat) (e:Ex),(exL ks)[i]?=some e-> ∃p,(ks.roots o)[i]?=some (p+e.size-1)/\(SegN l o (ks.flat o)->SegN l p (e.flat p))/\p+e.size<=o+ks.size/\o<=p
 | .nil,_,_,_,h=>by simp[exL]at h
 | .cons a ks,o,0,e,h=>by
  have e1:a=e:=by simpa [exL] using h
  subst e1;refine⟨o,rfl,fun hs=>(SegN.app (b:=ks.flat (o+a.size)) hs).1,?_,Nat.le_refl _⟩;show o+a.size<=o+(a.size+ks.size)
  omega
 | .cons a ks,o,i+1,e,h=>by
  obtain⟨p,E,H,I,J⟩:=Qwv (l:=l) ks (o+a.size) i e (by simpa [exL] using h);refine⟨p,E,fun hs=>H ?_,?_,by omega⟩
  ·have:=(SegN.app (b:=ks.flat (o+a.size)) hs).2
   rw[Jr]at this;exact this
  ·show p+e.size<=o+(a.size+ks.size)
   omega
mutual
theorem T0:∀e:Ex,e.dp<=e.size
 | .num _| .name _| .mat _| .cpx _=>Nat.zero_le _
 | .neg a=>by have:=T0 a;simp only[Ex.dp,Ex.size,parD];split<;>omega
 | .turn a=>by have:=T0 a;simp only[Ex.dp,Ex.size,parD];split<;>omega
 | .pow a _=>by have:=T0 a;simp only[Ex.dp,Ex.size,parD];split<;>omega
 | .add a b=>by have:=T0 a;have:=T0 b;simp only[Ex.dp,Ex.size,parD];split<;>split<;>omega
 | .sub a b=>by have:=T0 a;have:=T0 b;simp only[Ex.dp,Ex.size,parD];split<;>split<;>omega
 | .mul a b=>by have:=T0 a;have:=T0 b;simp only[Ex.dp,Ex.size,parD];split<;>split<;>omega
 | .call _ l=>by have:=Qys l;simp only[Ex.dp,Ex.size];omega
theorem Qys:∀l:Exs,l.dp<=l.size
 | .nil=>Nat.zero_le _
 | .cons a l=>by have:=T0 a;have:=Qys l;simp only[Exs.dp,Exs.size];omega
end
end SynP
namespace Go.Proofs.YtgfmiladfeoldaaGreatDoor
open Go.RowKit NatP LexP
theorem Qvu (op:Int)(w:World):
  Calls Tryz.prog 99 #[.int .i64 op] w fun e w'=>e=.returned (.bool (SynP.Ez op))/\w=w':=by
 unfold SynP.Ez;by_cases h1:op=11
 ·subst h1
  go_enter Tryz.func99,Tryz.ntmps99;go_wp2_with fail;go_ret;exact⟨rfl,rfl⟩
 ·by_cases h2:op=12
  ·subst h2
   go_enter Tryz.func99,Tryz.ntmps99;go_wp2_with fail;go_ret;exact⟨rfl,rfl⟩
  ·have e1:(op==11)=false:=by simp[h1]
   have e2:(op==12)=false:=by simp[h2]
   go_enter Tryz.func99,Tryz.ntmps99;go_wp2_with fail;go_ret;exact⟨by rw[e1,e2];rfl,rfl⟩
theorem Qjf (op:Int)(n:Nat)(w:World):
  Calls Tryz.prog 100 #[.int .i64 op,.int .i64 (n:Nat)] w fun e w'=>e=.returned (.bool (SynP.cnt op n))/\w=w':=by
 have k0:(((n:Nat):Int)==0)=(n==0):=by rw[Bool.eq_iff_iff];simp
 have k1:(((n:Nat):Int)==1)=(n==1):=by rw[Bool.eq_iff_iff];simp;omega
 have k2:(((n:Nat):Int)==2)=(n==2):=by rw[Bool.eq_iff_iff];simp;omega
 have k3:decide ((1:Int)<=(n:Nat))=decide (1<=n):=by rw[decide_eq_decide];omega
 by_cases h:op∈([1,2,3,13,14,4,5,9,11,6,7,8,10,12]:List Int)
 ·simp only[List.mem_cons,List.not_mem_nil,or_false]at h
  rcases h with rfl|rfl|rfl|rfl|rfl|rfl|rfl|rfl|rfl|rfl|rfl|rfl|rfl|rfl
  all_goals
   go_enter Tryz.func100,Tryz.ntmps100;go_wp2_with fail;go_ret;exact⟨by simp only[k0,k1,k2,k3];rfl,rfl⟩
 ·simp only[List.mem_cons,List.not_mem_nil,or_false,not_or]at h
  obtain⟨h1,h2,h3,h4,h5,h6,h7,h8,h9,h10,h11,h12,h13,h14⟩:=h
  have e:SynP.cnt op n=false:=by unfold SynP.cnt;simp[h1,h2,h3,h4,h5,h6,h7,h8,h9,h10,h11,h12,h13,h14]
  have HE:=zq e
  have d1:(op==1)=false:=by simp[h1]
  have d2:(op==2)=false:=by simp[h2]
  have d3:(op==3)=false:=by simp[h3]
  have d4:(op==13)=false:=by simp[h4]
  have d5:(op==14)=false:=by simp[h5]
  have d6:(op==4)=false:=by simp[h6]
  have d7:(op==5)=false:=by simp[h7]
  have d8:(op==9)=false:=by simp[h8]
  have d9:(op==11)=false:=by simp[h9]
  have d10:(op==6)=false:=by simp[h10]
  have d11:(op==7)=false:=by simp[h11]
  have d12:(op==8)=false:=by simp[h12]
  have d13:(op==10)=false:=by simp[h13]
  have d14:(op==12)=false:=by simp[h14]
  clear e;go_enter Tryz.func100,Tryz.ntmps100;go_wp2_with fail;go_ret;exact⟨by rw[HE.o];rfl,rfl⟩
theorem Sb (op:Nat)(w:World):
  Calls Tryz.prog 210 #[.int .i64 (op:Nat)] w fun e w'=>e=.returned (.bool (SynP.My op))/\w=w':=by
 unfold SynP.My
 have k6:(((op:Nat):Int)==6)=(op==6):=by rw[Bool.eq_iff_iff];simp;omega
 have k7:(((op:Nat):Int)==7)=(op==7):=by rw[Bool.eq_iff_iff];simp;omega
 cases h6:(op==6)<;>rw[h6]at k6<;>
 ·go_enter Tryz.func210,Tryz.ntmps210
  go_wp2_with fail;go_ret;exact⟨by simp[k7],rfl⟩
theorem U7 (op:Nat)(w:World):
  Calls Tryz.prog 211 #[.int .i64 (op:Nat)] w fun e w'=>e=.returned (.bool (SynP.Re op))/\w=w':=by
 unfold SynP.Re
 have k8:(((op:Nat):Int)==8)=(op==8):=by rw[Bool.eq_iff_iff];simp;omega
 have K8:=zq k8;clear k8
 cases h6:SynP.My op
 ·have H6:=zq h6
  clear h6;go_enter Tryz.func211,Tryz.ntmps211;go_wp2_with fail;refine(Sb op _).mono ?_;rintro e w1 ⟨rfl,rfl⟩;rw[H6.o];go_wp2_with fail;go_ret;exact⟨by rw[K8.o];rfl,rfl⟩
 ·have H6:=zq h6
  clear h6;go_enter Tryz.func211,Tryz.ntmps211;go_wp2_with fail;refine(Sb op _).mono ?_;rintro e w1 ⟨rfl,rfl⟩;rw[H6.o];go_wp2_with fail;go_ret;exact⟨rfl,rfl⟩
theorem G5 (t:Qx)(w:World)(ht:t.length<=67108864)(hx:Lx w):
  Calls Tryz.prog 162 #[.string ⟨t.toArray⟩] w fun e w'=>e=.returned (.bool (SynP.namV t))/\Below w.heap.size w w':=by
 obtain⟨T,hT⟩:=xq (⟨t.toArray⟩:ByteArray)
 have hTl:T.data.toList=t:=by rw[hT]
 have hs4:T.size<=67108864:=by rw[Lib.size_eq,hTl];exact ht
 have HX:=zq hx;have HTL:=zq hTl;rw[<-hT];clear hx hT hTl ht;go_enter Tryz.func162,Tryz.ntmps162;go_wp2_with fail;refine(Ku T _ hs4 HX.o).mono ?_;rintro e w1 ⟨v,rfl,h1,h2⟩;rw[HTL.o]at h1 ⊢;have H2:=zq h2;clear h2
 cases hK:Toks 1 (Qz t) with
 |error p=>
  obtain⟨c,k⟩:=p;have hk0:=(Pm _ _ _ hK).1
  have HV:Hid (SynP.namV t=false):=by show _=_;unfold SynP.namV;rw[hK]
  have ec:(resCol (.error (c,k)):Nat)=c:=rfl;have ek:(resErr (.error (c,k)):Nat)=k:=rfl;rw[ec,ek];simp only at hk0
  have hkk:((k:Int)==0)=false:=by simp;omega
  clear h1 hK hk0;go_wp2_with fail;go_ret
  exact⟨by rw[HV.o];rfl,H2.o⟩
 |ok ts=>
  have h1':w1.ownsRow w.heap.size 119 3 v ts.length (Xu ts):=by rw[hK]at h1;exact h1
  obtain⟨ao,cap,rfl,a1,a2,a3⟩:=Qj h1';have ec:(resCol (.ok ts):Nat)=0:=rfl;have ek:(resErr (.ok ts):Nat)=0:=rfl;rw[ec,ek];clear h1 h1';by_cases hn:ts.length=1
  ·obtain⟨x,rfl⟩:=List.length_eq_one_iff.1 hn
   obtain⟨g,rfl,-,b2,b3⟩:=a3 (by simp);obtain⟨c1,c2,-⟩:=Rn [x] 0 x rfl
   have d1:w1.cell? ⟨g,0,none⟩=some (.int .i64 (x.1:Nat)):=by rw[b3 _ (by simp)];exact c1
   have d2:w1.cell? ⟨g,1,none⟩=some (.string ⟨x.2.1.toArray⟩):=by rw[b3 _ (by simp)];exact c2
   have hk2:(((x.1:Nat):Int)==2)=(x.1==2):=by rw[Bool.eq_iff_iff];simp;omega
   have HV:Hid (SynP.namV t=(x.1==2 && x.2.1==t)):=by show _=_;unfold SynP.namV;rw[hK]
   obtain⟨k,y,c⟩:=x;clear hK a3 b3 c1 c2;have e1:([(k,y,c)]:List Tok).length=1:=rfl;rw[e1]
   cases h2:(k==2) with
   |false=>
    rw[h2]at hk2;simp only at hk2
    have HV2:Hid (SynP.namV t=false):=by show _=_;rw[HV.o];simp[h2]
    clear h2;go_wp2_with fail;go_ret
    exact⟨by rw[HV2.o];rfl,H2.o⟩
   |true=>
    rw[h2]at hk2;simp only at hk2
    have HV2:Hid (SynP.namV t=(y==t)):=by show _=_;rw[HV.o];simp[h2]
    clear h2;go_wp2_with fail;go_ret;exact⟨by rw[HV2.o,<-HTL.o,<-ByteArray.toList_eq];rfl,H2.o⟩
  ·have HV:Hid (SynP.namV t=false):=by
    show _=_;unfold SynP.namV;rw[hK]
    match ts,hn with
    | [],_=>rfl
    |_::_::_,_=>rfl
    | [_],hn=>exact absurd rfl hn
   have hnn:(((ts.length:Nat):Int)==1)=false:=by simp;omega
   clear hK a3;go_wp2_with fail;go_ret;exact⟨by rw[HV.o];rfl,H2.o⟩
end Go.Proofs.YtgfmiladfeoldaaGreatDoor
