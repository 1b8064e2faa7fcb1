/- Joined texts of this claim's proof: RefLex3, RefLex4, RefCol, RpA. -/
import Derived.Test.YtgfmiladfeoldaaGreatDoorPk1
import Derived.Test.YtgfmiladfeoldaaGreatDoorPk40
import Derived.Test.YtgfmiladfeoldaaGreatDoorPk28
import Derived.Test.YtgfmiladfeoldaaGreatDoorPk15
import Derived.Test.YtgfmiladfeoldaaGreatDoorPk12
import Derived.Deep.RegionHeld3
set_option linter.unusedSimpArgs false
set_option linter.unusedVariables false
set_option maxRecDepth 100000
set_option maxHeartbeats 16000000
namespace Go.Proofs.YtgfmiladfeoldaaGreatDoor
open Go.RowKit LexP
def Mr (l:Qx)(p:C->Bool)(w:World)(e:Ending)(w':World):Prop:=
 e=.returned (.tuple #[.int .i64 (blen l (Qp p (Qz l)):Nat),.int .i64 (Qp p (Qz l):Nat)])/\w=w'
theorem U1 (v:Nat)(t:Qx):Qd (some v,t)=(isK 3 v||v==95):=rfl
theorem S8 (v:Nat)(t:Qx):isAl (some v,t)=(isK 3 v||isK 4 v):=rfl
theorem Ho (t:Qx):Qd (none,t)=false:=by simp[Qd,kd,rn]
theorem Qjg (t:Qx):isAl (none,t)=false:=by simp[isAl,kd]
theorem C4 (s:ByteArray)(i:Nat)(w:World)(hs:s.size<=1048576)(hi:i<=s.size):
  Calls Tryz.prog 131 #[.string s,.int .i64 (i:Nat),.bool true] w (Mr (s.data.toList.drop i) Qd w):=by
 have hsz:s.size=s.data.toList.length:=Lib.size_eq s;obtain⟨L,hL⟩:=xq (s.data.toList.drop i);rw[<-hL]
 have hLl:L.length=s.size-i:=by rw[hL,List.length_drop,hsz]
 have HL:=zq hL
 have HP:Hid (∀j,Qp Qd (Qz L)=j->Mr L Qd w (.returned (.tuple #[.int .i64 (blen L j:Nat),.int .i64 (j:Nat)])) w):=by
  intro j h;exact⟨by rw[h],rfl⟩
 have hcl:(Qz L).length<=1048576:=by have:=Yq L;omega
 clear hsz hL;go_enter Tryz.func131,Tryz.ntmps131;go_wp2_with fail;go_loopw [8,9] (fun b c wr=> ∃j:Nat,j<=(Qz L).length/\b=.int .i64 (blen L j:Nat)/\c=.int .i64 (j:Nat)/\(∀d∈(Qz L).take j,Qd d=true)/\wr=w) (fun _ c _=>(Qz L).length-(intOf c).toNat)
 case atStart=>exact⟨0,Nat.zero_le _,by rw[Ua];rfl,rfl,by simp,rfl⟩
 case round=>
  obtain⟨j,hj,rfl,rfl,hall,rfl⟩:=hrel;have HALL:=zq hall;have hble:=Tv L j;clear hall;by_cases hlt:j<(Qz L).length
  ·have hbl:=(Yv L j).2 hlt
   have HAT:=zq (Uh hlt);have HSU:=zq (Ub hlt)
   have HD:Hid (s.data.toList.drop (i+blen L j)=L.drop (blen L j)):=by show _=_;rw[HL.o,List.drop_drop]
   have e1:(i:Int)+(blen L j:Int)=((i+blen L j:Nat):Int):=by omega
   have E1:=zq e1;clear e1;rcases charRes_cases (L.drop (blen L j)) with ⟨h1,h2⟩|⟨v,n,h1,hn1,hn2,hn4,hv,h2,h3⟩
   ·have HF:=zq (HP.o j (Ud hlt HALL.o HAT.o (by rw[h2];exact Ho _)))
    have H1:=zq h1;clear h1 h2;go_wp2_with fail;rw[E1.o];refine(X3 s (i+blen L j) _ hs (by omega)).mono ?_;rintro e w' ⟨rfl,rfl⟩;rw[HD.o,H1.o];simp only;go_wp2_with fail;go_ret2;exact HF.o
   ·have H1:=zq h1
    rw[List.length_drop]at hn2
    have hn0:((n:Int)==0)=false:=by simp;omega
    cases hd:isK 3 v with
    |true=>
     have HA:Hid (∀d∈(Qz L).take (j+1),Qd d=true):=Wn HALL.o HAT.o (by rw[h2,U1,hd];rfl)
     have HS:Hid (blen L (j+1)=blen L j+n):=by show _=_;rw[HSU.o,h3]
     have HK:=zq hd;clear h1 h2 h3 hd;go_wp2_with fail;rw[E1.o];refine(X3 s (i+blen L j) _ hs (by omega)).mono ?_;rintro e w' ⟨rfl,rfl⟩;rw[HD.o,H1.o];simp only;go_wp2_with fail;refine(Y6 v _ hv).mono ?_;rintro e w' ⟨rfl,rfl⟩;rw[HK.o];go_wp2_with fail
     refine⟨⟨j+1,by omega,by rw[HS.o];go_num,by go_num,HA.o,trivial⟩,by simp[intOf];omega⟩
    |false=>
     have HK:=zq hd;by_cases h95:v=95
     ·subst h95
      have HA:Hid (∀d∈(Qz L).take (j+1),Qd d=true):=Wn HALL.o HAT.o (by rw[h2,U1,hd];rfl)
      have HS:Hid (blen L (j+1)=blen L j+n):=by show _=_;rw[HSU.o,h3]
      clear h1 h2 h3 hd;go_wp2_with fail;rw[E1.o];refine(X3 s (i+blen L j) _ hs (by omega)).mono ?_;rintro e w' ⟨rfl,rfl⟩;rw[HD.o,H1.o];simp only;go_wp2_with fail;refine(Y6 95 _ hv).mono ?_;rintro e w' ⟨rfl,rfl⟩;rw[HK.o];go_wp2_with fail;refine⟨⟨j+1,by omega,by rw[HS.o];go_num,by go_num,HA.o,trivial⟩,by simp[intOf];omega⟩
     ·have hne:((v:Int) !=95)=true:=by simp;omega
      have HF:=zq (HP.o j (Ud hlt HALL.o HAT.o (by rw[h2,U1,hd];simpa using h95)));clear h1 h2 h3 hd h95;go_wp2_with fail;rw[E1.o];refine(X3 s (i+blen L j) _ hs (by omega)).mono ?_;rintro e w' ⟨rfl,rfl⟩;rw[HD.o,H1.o];simp only;go_wp2_with fail;refine(Y6 v _ hv).mono ?_;rintro e w' ⟨rfl,rfl⟩;rw[HK.o];go_wp2_with fail;go_ret2;exact HF.o
  ·have hje:j=(Qz L).length:=by omega
   have hbe:L.length<=blen L j:=by
    have:=Yv L j;omega
   have HF:=zq (HP.o j (by rw[hje];exact Rs (by rw[<-hje];exact HALL.o)))
   have hge: ¬((i:Int)+(blen L j:Int)<(s.size:Int)):=by omega
   clear hje;go_wp2_with fail;go_ret2;exact HF.o
theorem Qxr (s:ByteArray)(i:Nat)(w:World)(hs:s.size<=1048576)(hi:i<=s.size):
  Calls Tryz.prog 131 #[.string s,.int .i64 (i:Nat),.bool false] w (Mr (s.data.toList.drop i) isAl w):=by
 have hsz:s.size=s.data.toList.length:=Lib.size_eq s;obtain⟨L,hL⟩:=xq (s.data.toList.drop i);rw[<-hL]
 have hLl:L.length=s.size-i:=by rw[hL,List.length_drop,hsz]
 have HL:=zq hL
 have HP:Hid (∀j,Qp isAl (Qz L)=j->Mr L isAl w (.returned (.tuple #[.int .i64 (blen L j:Nat),.int .i64 (j:Nat)])) w):=by
  intro j h;exact⟨by rw[h],rfl⟩
 have hcl:(Qz L).length<=1048576:=by have:=Yq L;omega
 clear hsz hL;go_enter Tryz.func131,Tryz.ntmps131;go_wp2_with fail;go_loopw [8,9] (fun b c wr=> ∃j:Nat,j<=(Qz L).length/\b=.int .i64 (blen L j:Nat)/\c=.int .i64 (j:Nat)/\(∀d∈(Qz L).take j,isAl d=true)/\wr=w) (fun _ c _=>(Qz L).length-(intOf c).toNat)
 case atStart=>exact⟨0,Nat.zero_le _,by rw[Ua];rfl,rfl,by simp,rfl⟩
 case round=>
  obtain⟨j,hj,rfl,rfl,hall,rfl⟩:=hrel;have HALL:=zq hall;have hble:=Tv L j;clear hall;by_cases hlt:j<(Qz L).length
  ·have hbl:=(Yv L j).2 hlt
   have HAT:=zq (Uh hlt);have HSU:=zq (Ub hlt)
   have HD:Hid (s.data.toList.drop (i+blen L j)=L.drop (blen L j)):=by show _=_;rw[HL.o,List.drop_drop]
   have e1:(i:Int)+(blen L j:Int)=((i+blen L j:Nat):Int):=by omega
   have E1:=zq e1;clear e1;rcases charRes_cases (L.drop (blen L j)) with ⟨h1,h2⟩|⟨v,n,h1,hn1,hn2,hn4,hv,h2,h3⟩
   ·have HF:=zq (HP.o j (Ud hlt HALL.o HAT.o (by rw[h2];exact Qjg _)))
    have H1:=zq h1;clear h1 h2;go_wp2_with fail;rw[E1.o];refine(X3 s (i+blen L j) _ hs (by omega)).mono ?_;rintro e w' ⟨rfl,rfl⟩;rw[HD.o,H1.o];simp only;go_wp2_with fail;go_ret2;exact HF.o
   ·have H1:=zq h1
    rw[List.length_drop]at hn2
    have hn0:((n:Int)==0)=false:=by simp;omega
    cases hd:isK 3 v with
    |true=>
     have HA:Hid (∀d∈(Qz L).take (j+1),isAl d=true):=Wn HALL.o HAT.o (by rw[h2,S8,hd];rfl)
     have HS:Hid (blen L (j+1)=blen L j+n):=by show _=_;rw[HSU.o,h3]
     have HK:=zq hd;clear h1 h2 h3 hd;go_wp2_with fail;rw[E1.o];refine(X3 s (i+blen L j) _ hs (by omega)).mono ?_;rintro e w' ⟨rfl,rfl⟩;rw[HD.o,H1.o];simp only;go_wp2_with fail;refine(Y6 v _ hv).mono ?_;rintro e w' ⟨rfl,rfl⟩;rw[HK.o];go_wp2_with fail
     refine⟨⟨j+1,by omega,by rw[HS.o];go_num,by go_num,HA.o,trivial⟩,by simp[intOf];omega⟩
    |false=>
     have HK:=zq hd;by_cases h95:v=95
     ·subst h95
      have HA:Hid (∀d∈(Qz L).take (j+1),isAl d=true):=Wn HALL.o HAT.o (by rw[h2,S8,hd];rfl)
      have HS:Hid (blen L (j+1)=blen L j+n):=by show _=_;rw[HSU.o,h3]
      clear h1 h2 h3 hd;go_wp2_with fail;rw[E1.o];refine(X3 s (i+blen L j) _ hs (by omega)).mono ?_;rintro e w' ⟨rfl,rfl⟩;rw[HD.o,H1.o];simp only;go_wp2_with fail;refine(Y6 95 _ hv).mono ?_;rintro e w' ⟨rfl,rfl⟩;rw[HK.o];go_wp2_with fail;refine⟨⟨j+1,by omega,by rw[HS.o];go_num,by go_num,HA.o,trivial⟩,by simp[intOf];omega⟩
     ·have hne:((v:Int) !=95)=true:=by simp;omega
      cases h4:isK 4 v with
      |true=>
       have HA:Hid (∀d∈(Qz L).take (j+1),isAl d=true):=Wn HALL.o HAT.o (by rw[h2,S8,hd,h4];rfl)
       have HS:Hid (blen L (j+1)=blen L j+n):=by show _=_;rw[HSU.o,h3]
       have HK4:=zq h4;clear h1 h2 h3 hd h95 h4;go_wp2_with fail;rw[E1.o];refine(X3 s (i+blen L j) _ hs (by omega)).mono ?_;rintro e w' ⟨rfl,rfl⟩;rw[HD.o,H1.o];simp only;go_wp2_with fail;refine(Y6 v _ hv).mono ?_;rintro e w' ⟨rfl,rfl⟩;rw[HK.o];go_wp2_with fail;refine(Wf v _ hv).mono ?_;rintro e w' ⟨rfl,rfl⟩;rw[HK4.o];go_wp2_with fail
       refine⟨⟨j+1,by omega,by rw[HS.o];go_num,by go_num,HA.o,trivial⟩,by simp[intOf];omega⟩
      |false=>
       have HF:=zq (HP.o j (Ud hlt HALL.o HAT.o (by rw[h2,S8,hd,h4];rfl)));have HK4:=zq h4;clear h1 h2 h3 hd h95 h4;go_wp2_with fail;rw[E1.o];refine(X3 s (i+blen L j) _ hs (by omega)).mono ?_;rintro e w' ⟨rfl,rfl⟩;rw[HD.o,H1.o];simp only;go_wp2_with fail;refine(Y6 v _ hv).mono ?_;rintro e w' ⟨rfl,rfl⟩;rw[HK.o];go_wp2_with fail;refine(Wf v _ hv).mono ?_;rintro e w' ⟨rfl,rfl⟩;rw[HK4.o];go_wp2_with fail;go_ret2;exact HF.o
  ·have hje:j=(Qz L).length:=by omega
   have hbe:L.length<=blen L j:=by
    have:=Yv L j;omega
   have HF:=zq (HP.o j (by rw[hje];exact Rs (by rw[<-hje];exact HALL.o)))
   have hge: ¬((i:Int)+(blen L j:Int)<(s.size:Int)):=by omega
   clear hje;go_wp2_with fail;go_ret2;exact HF.o
def comCol (l:Qx)(col:Nat):Nat:=if Qp Qe (Qz l)<(Qz l).length then col+Qp Qe (Qz l) else 0
def Do (l:Qx)(col:Nat)(w:World)(e:Ending)(w':World):Prop:=e=.returned (.int .i64 (comCol l col:Nat))/\w=w'
theorem Bl (s:ByteArray)(i col:Nat)(w:World)(hs:s.size<=1048576)(hi:i<=s.size)(hc:col<=1048577):
  Calls Tryz.prog 129 #[.string s,.int .i64 (i:Nat),.int .i64 (col:Nat)] w (Do (s.data.toList.drop i) col w):=by
 have hsz:s.size=s.data.toList.length:=Lib.size_eq s;obtain⟨L,hL⟩:=xq (s.data.toList.drop i);rw[<-hL]
 have hLl:L.length=s.size-i:=by rw[hL,List.length_drop,hsz]
 have HL:=zq hL
 have HP:Hid (∀j,j<(Qz L).length->Qp Qe (Qz L)=j->Do L col w (.returned (.int .i64 (col+j:Nat))) w):=by
  intro j hj h;exact⟨by unfold comCol;rw[h,if_pos hj],rfl⟩
 have HE:Hid (Qp Qe (Qz L)=(Qz L).length->Do L col w (.returned (.int .i64 0)) w):=by
  intro h;exact⟨by unfold comCol;rw[h,if_neg (Nat.lt_irrefl _)];rfl,rfl⟩
 have hcl:(Qz L).length<=1048576:=by have:=Yq L;omega
 clear hsz hL;go_enter Tryz.func129,Tryz.ntmps129;go_wp2_with fail;go_loopw [1,2] (fun b c wr=> ∃j:Nat,j<=(Qz L).length/\b=.int .i64 (i+blen L j:Nat)/\c=.int .i64 (col+j:Nat)/\(∀d∈(Qz L).take j,Qe d=true)/\wr=w) (fun _ c _=>col+(Qz L).length-(intOf c).toNat)
 case atStart=>exact⟨0,Nat.zero_le _,by rw[Ua];rfl,rfl,by simp,rfl⟩
 case round=>
  obtain⟨j,hj,rfl,rfl,hall,rfl⟩:=hrel;have HALL:=zq hall;have hble:=Tv L j;clear hall;by_cases hlt:j<(Qz L).length
  ·have hbl:=(Yv L j).2 hlt
   have HAT:=zq (Uh hlt);have HSU:=zq (Ub hlt)
   have HD:Hid (s.data.toList.drop (i+blen L j)=L.drop (blen L j)):=by show _=_;rw[HL.o,List.drop_drop]
   rcases charRes_cases (L.drop (blen L j)) with ⟨h1,h2⟩|⟨v,n,h1,hn1,hn2,hn4,hv,h2,h3⟩
   ·have HF:=zq (HP.o j hlt (Ud hlt HALL.o HAT.o (by rw[h2];exact Mm _)))
    have H1:=zq h1;clear h1 h2;go_wp2_with fail;refine(X3 s (i+blen L j) _ hs (by omega)).mono ?_;rintro e w' ⟨rfl,rfl⟩;rw[HD.o,H1.o];simp only;go_wp2_with fail;go_ret;exact HF.o
   ·have H1:=zq h1
    rw[List.length_drop]at hn2
    have hn0:((n:Int)==0)=false:=by simp;omega
    have HA:Hid (∀d∈(Qz L).take (j+1),Qe d=true):=Wn HALL.o HAT.o (by rw[h2];exact Mc _ _)
    have HS:Hid (blen L (j+1)=blen L j+n):=by show _=_;rw[HSU.o,h3]
    clear h1 h2 h3;go_wp2_with fail;refine(X3 s (i+blen L j) _ hs (by omega)).mono ?_;rintro e w' ⟨rfl,rfl⟩;rw[HD.o,H1.o];simp only;go_wp2_with fail;refine⟨⟨j+1,by omega,by rw[HS.o];go_num,by go_num,HA.o,trivial⟩,by simp[intOf];omega⟩
  ·have hje:j=(Qz L).length:=by omega
   have hbe:L.length<=blen L j:=by
    have:=Yv L j;omega
   have HF:=zq (HE.o (Rs (by rw[<-hje];exact HALL.o)));clear hje;go_wp2_with fail;go_ret;exact HF.o
open NumP
def Aw (S:Qx)(w:World)(l col i:Value)(wr:World):Prop:=
 ∃k acc,k<=(Qz S).length/\i=.int .i64 (blen S k:Nat)/\col=.int .i64 ((k:Int)+1)/\wr.ownsRow w.heap.size 119 3 l acc.length (Xu acc)/\Below w.heap.size w wr/\
  Toks 1 (Qz S)=(Toks (k+1) ((Qz S).drop k)).after acc/\acc.length<=k
theorem Tz (l:List Tok):∀u∈Xu l,u.oneCell'=true:=by
 intro u h;simp only[Xu,List.mem_flatMap]at h;obtain⟨t,_,E⟩:=h;simp at E
 rcases E with rfl|rfl|rfl<;>rfl
theorem Dj (v:Nat)(t:Qx):kd (some v,t)=kindOf v:=rfl
theorem Qq5 {k v:Nat}(h:kindOf v=k):isK k v=true:=by unfold isK;rw[h];simp
theorem Dl {k v:Nat}(h:kindOf v≠k):isK k v=false:=by unfold isK;simp[h]
theorem Gs {v:Nat}:kindOf v=2↔v=35:=by
 unfold kindOf
 repeat' split
 all_goals omega
theorem Qvc {v:Nat}(h:kindOf v≠5):Rb v=[]:=by
 have E:v≠0x2212:=by rintro rfl;exact h (by decide)
 have H:v≠0xd7:=by rintro rfl;exact h (by decide)
 unfold Rb;rw[if_neg E,if_neg H,if_neg h]
theorem Qs {v:Nat}{t:Qx}(h:kindOf v=5)(hm:Nr (some v,t)):∃x,Rb v=[x]/\Z1 (some v,t)=[x]:=by
 unfold Rb Z1 rn;by_cases h1:v=0x2212
 ·subst h1;exact⟨45,rfl,rfl⟩
 by_cases h2:v=0xd7
 ·subst h2;exact⟨42,rfl,rfl⟩
 have E:v<128:=by
  unfold kindOf at h
  repeat' split at h
  all_goals omega
 have:=hm h (by simpa [rn] using E);refine⟨v.toUInt8,?_,?_⟩
 ·rw[if_neg h1,if_neg h2,if_pos h]
 ·simp only[h1,h2,if_false];exact this
theorem Qg4 (s:ByteArray)(k r:Nat)(hr:k+r<=(Qz s.data.toList).length):
  s.extract (blen s.data.toList k) (blen s.data.toList k+blen (s.data.toList.drop (blen s.data.toList k)) r)=⟨(Qk (((Qz s.data.toList).drop k).take r)).toArray⟩:=by
 have h:=Fk s.data.toList k (k+r) (by omega);rw[Lib.extract_eq]
 have e:blen s.data.toList k+blen (s.data.toList.drop (blen s.data.toList k)) r=(Qk ((Qz s.data.toList).take (k+r))).length:=by rw[<-Kz];rfl
 rw[e,show k+r-k=r from by omega]at*;rw[<-h];rfl
theorem Gr:∀l:Qx,∀c∈Qz l,Qd c=true-> ∃b,c.2=[b]/\(Qu b=true\/b=95)/\(kd c=3->Qu b=true):=by
 apply Ul
 ·intro c H;simp[Wx]at H
 ·intro l U ih c H
  rw[Zj U]at H;rcases List.mem_cons.1 H with rfl|H
  ·intro E
   cases hd:dec l with
   |none=>
    have I:val l=none:=by simp[val,hd]
    rw[I]at E;simp[Ho]at E
   |some p=>
    obtain⟨v,n⟩:=p
    have I:val l=some v:=by simp[val,hd]
    have hw:wid l=n:=by simp[wid,hd]
    rw[I]at E;rw[hw,I];rw[U1]at E
    have K:kindOf v=3->48<=v/\v<=57:=by
     unfold kindOf
     repeat' split
     all_goals omega
    have O:(48<=v/\v<=57)\/v=95:=by
     simp only[Bool.or_eq_true,isK,beq_iff_eq]at E;rcases E with h|h
     ·exact .inl (K h)
     ·exact .inr h
    obtain⟨rfl,T⟩:=Nt hd (by omega)
    have J:v.toUInt8.toNat=v:=by simp;omega
    refine⟨v.toUInt8,T,?_,?_⟩
    ·rcases O with h|rfl
     ·left;simp only[Qu,J,Bool.and_eq_true,decide_eq_true_eq];exact h
     ·right;rfl
    ·intro Z
     have:=K Z;simp only[Qu,J,Bool.and_eq_true,decide_eq_true_eq];exact this
  ·exact ih c H
theorem Qkt (S:Qx)(k:Nat):Je (Qk (((Qz S).drop k).take (Qp Qd ((Qz S).drop k)))):=by
 intro b E;simp only[Qk,List.mem_flatMap]at E;obtain⟨c,H,h⟩:=E;have K:=Z4 _ c H;obtain⟨x,I,J,_⟩:=Gr S c (List.mem_of_mem_drop (List.mem_of_mem_take H)) K;rw[I]at h;simp only[List.mem_singleton]at h;subst h;exact J
theorem Qjb (S:Qx){k v:Nat}{t:Qx}{r:List C}(h:(Qz S).drop k=(some v,t)::r)(h3:kindOf v=3):
  ∃c,(Qk (((Qz S).drop k).take (Qp Qd ((Qz S).drop k))))[0]?=some c/\Qu c=true:=by
 have E:Qd (some v,t)=true:=by simp[Qd,Dj,h3]
 have J:(some v,t)∈Qz S:=List.mem_of_mem_drop (by rw[h];exact List.mem_cons_self);obtain⟨x,H,_,I⟩:=Gr S _ J E;simp only at H;refine⟨x,?_,I h3⟩;rw[h,Qp,List.takeWhile_cons,if_pos E,List.length_cons,List.take_succ_cons];simp only[Qk,List.flatMap_cons,H];rfl
theorem Qqt (s:ByteArray)(w:World)(hs:s.size<=1048576):
  Calls Tryz.prog 69 #[.string s] w (M7 (Toks 1 (Qz s.data.toList)) w):=by
 obtain⟨i0,hi,hz0,hz1,hz2⟩:=info_parts Tryz.infoTok;have HMK:=zq (Pl s.data.toList)
 have hn:(Qz s.data.toList).length<=1048576:=by have:=Yq s.data.toList;rw[<-Lib.size_eq]at this;omega
 have hsz:=zq (Lib.size_eq s);go_enter Tryz.func69,Tryz.ntmps69;go_wp2_with fail;go_loopw [5,6,7] (fun l col i wr=>Aw s.data.toList w l col i wr) (fun _ col _ _=>(Qz s.data.toList).length+1-(intOf col).toNat)
 case atStart=>exact⟨0,[],Nat.zero_le _,by rw[Ua];rfl,rfl,World.ownsRow_nil _ _ _ _,Below.refl _ _,by simp[Res.after_nil],Nat.le_refl _⟩
 case round=>
  obtain⟨k,acc,hk,rfl,rfl,hown,hb,htk,hal⟩:=hrel;have HTK:=zq htk;have hzz:=hb.size;have hble:=Tv s.data.toList k;rw[<-hsz.o]at hble;clear htk;by_cases hlt:k<(Qz s.data.toList).length
  ·have hbl:=(Yv s.data.toList k).2 hlt
   rw[<-hsz.o]at hbl;have HAT:=zq (Uh hlt);have HSU:=zq (Ub hlt);have HDC:=zq (P9 HAT.o)
   have hLl:(s.data.toList.drop (blen s.data.toList k)).length=s.size-blen s.data.toList k:=by rw[List.length_drop,<-hsz.o]
   have HCL:=zq (Ri s.data.toList k);obtain⟨L,hL⟩:=xq (s.data.toList.drop (blen s.data.toList k));have HLD:Hid (s.data.toList.drop (blen s.data.toList k)=L):=hL.symm;rw[<-hL]at HAT HSU HDC HCL hLl;clear hL;rcases charRes_cases L with ⟨h1,h2⟩|⟨v,n,h1,hn1,hn2,hn4,hv,h2,h3⟩
   ·have HE:Hid (Toks (k+1) ((Qz s.data.toList).drop k)=.error (k+1,12)):=by show _=_;rw[HDC.o,h2,Wl _ rfl]
    have H1:=zq h1;clear h1 h2;go_wp2_with fail;refine(X3 s (blen s.data.toList k) _ hs (by omega)).mono ?_;rintro e w' ⟨rfl,rfl⟩;rw[HLD.o,H1.o];simp only;go_wp2_with fail;refine(Wt 0 _ (by omega)).mono ?_;rintro e w' ⟨rfl,rfl⟩;go_wp2_with fail;go_ret3;exact Zl (k+1) 12 (by show Value.int .i64 _=_;congr 1) rfl (HTK.o.trans (J9 HE.o)) hb
   ·have H1:=zq h1
    have hkp:=Tq v
    have hn0:((n:Int)==0)=false:=by simp;omega
    have HS:Hid (blen s.data.toList (k+1)=blen s.data.toList k+n):=by show _=_;rw[HSU.o,h3]
    have HDV:Hid ((Qz s.data.toList).drop k=(some v,L.take n)::(Qz s.data.toList).drop (k+1)):=by show _=_;rw[HDC.o,h2,h3]
    have HMV:Hid (Nr (some v,L.take n)):=by
     have:=HMK.o _ (List.mem_of_getElem? HAT.o);rw[h2,h3]at this;exact this
    clear h1 h2 h3;by_cases k1:kindOf v=1
    ·have HB:=zq (Qq5 k1)
     have HE:Hid (Toks (k+1) ((Qz s.data.toList).drop k)=Toks (k+1+1) ((Qz s.data.toList).drop (k+1))):=by show _=_;rw[HDV.o,Z9 (c:=(some v,L.take n)) _ k1]
     clear k1 hkp;go_wp2_with fail;refine(X3 s (blen s.data.toList k) _ hs (by omega)).mono ?_;rintro e w' ⟨rfl,rfl⟩;rw[HLD.o,H1.o];simp only;go_wp2_with fail;refine(Wt v _ hv).mono ?_;rintro e w' ⟨rfl,rfl⟩;go_wp2_with fail;refine(V9 v _ hv).mono ?_;rintro e w' ⟨rfl,rfl⟩;rw[HB.o];go_wp2_with fail;have hfin:Aw s.data.toList w u5 (.int .i64 ((k:Int)+1+1)) (.int .i64 ((blen s.data.toList k:Int)+(n:Int))) wr:=⟨k+1,acc,by omega,by rw[HS.o];go_num,by go_num,hown,hb,by rw[HTK.o,HE.o],by omega⟩
     first|exact⟨hfin,by simp[intOf];omega⟩|exact⟨by (repeat apply Exists.intro);exact⟨hfin,rfl⟩,by simp[intOf];omega⟩
    have HB:=zq (Dl k1);by_cases k2:kindOf v=2
    ·have h35:=Gs.1 k2
     subst h35;have HE:=zq (J6 (c:=(some 35,L.take n)) (cs:=(Qz s.data.toList).drop (k+1)) (k+1) k2);rw[<-HDV.o]at HE;have hle:=Y7 Qe ((Qz s.data.toList).drop k);rw[List.length_drop]at hle;clear k1 k2 hkp;go_wp2_with fail;refine(X3 s (blen s.data.toList k) _ hs (by omega)).mono ?_;rintro e w' ⟨rfl,rfl⟩;rw[HLD.o,H1.o];simp only;go_wp2_with fail;refine(Wt 35 _ hv).mono ?_;rintro e w' ⟨rfl,rfl⟩;go_wp2_with fail;refine(V9 35 _ hv).mono ?_;rintro e w' ⟨rfl,rfl⟩;rw[HB.o];go_wp2_with fail;rw[show ((k:Int)+1)=((k+1:Nat):Int) from by omega];refine(Bl s (blen s.data.toList k) (k+1) _ hs (by omega) (by omega)).mono ?_;rintro e w' ⟨rfl,rfl⟩;rw[HLD.o];unfold comCol;rw[HCL.o,List.length_drop];by_cases hl2:Qp Qe ((Qz s.data.toList).drop k)<(Qz s.data.toList).length-k
     ·rw[if_pos hl2]
      have hgt:(0:Int)<((k+1+Qp Qe ((Qz s.data.toList).drop k):Nat):Int):=by omega
      go_wp2_with fail;go_ret3
      exact Zl (k+1+Qp Qe ((Qz s.data.toList).drop k)) 12 (by show Value.int .i64 _=_;congr 1) rfl
       (HTK.o.trans (J9 (HE.o.trans (if_pos (by rw[List.length_drop];omega))))) hb
     ·rw[if_neg hl2]
      go_wp2_with fail;go_ret3;refine Ro (HTK.o.trans (Sy ?_)) hown hb;rw[HE.o,if_neg (by rw[List.length_drop];omega)]
    have h35:v≠35:=fun h=>k2 (Gs.2 h)
    have h35b:((v:Int)==35)=false:=by simp;omega
    by_cases k3:kindOf v=3
    ·have HK3:=zq (Qq5 k3)
     have HE:=zq (Wu (c:=(some v,L.take n)) (cs:=(Qz s.data.toList).drop (k+1)) (k+1) k3);rw[<-HDV.o]at HE
     have hp:1<=Qp Qd ((Qz s.data.toList).drop k):=by rw[HDV.o];exact Xy (by simp[Qd,Dj,k3])
     have hle:=Y7 Qd ((Qz s.data.toList).drop k);rw[List.length_drop]at hle;have HT:=zq (Qg4 s k (Qp Qd ((Qz s.data.toList).drop k)) (by omega));rw[HLD.o]at HT;have HNR:=zq (Qkt s.data.toList k);have HND:=zq (Qjb s.data.toList HDV.o k3);have hb2:=Tv L (Qp Qd ((Qz s.data.toList).drop k));rw[hLl]at hb2
     have HSR:Hid (blen s.data.toList (k+Qp Qd ((Qz s.data.toList).drop k))=blen s.data.toList k+blen L (Qp Qd ((Qz s.data.toList).drop k))):=by show _=_;rw[Kz,HLD.o]
     have HTL:Hid ((Qk (((Qz s.data.toList).drop k).take (Qp Qd ((Qz s.data.toList).drop k)))).length<=1048576):=by
      show _<=_
      have:(Qk (((Qz s.data.toList).drop k).take (Qp Qd ((Qz s.data.toList).drop k)))).length=blen L (Qp Qd ((Qz s.data.toList).drop k)):=by unfold blen;rw[HCL.o]
      omega
     have HBN:Hid (Ju (Qk (((Qz s.data.toList).drop k).take (Qp Qd ((Qz s.data.toList).drop k))))=Xr (Qk (((Qz s.data.toList).drop k).take (Qp Qd ((Qz s.data.toList).drop k))))):=by
      refine Rp ?_;obtain⟨c,h1,h2⟩:=HND.o;rw[h1];intro h;rw[Option.some.inj h]at h2;exact absurd h2 (by decide)
     clear k1 k2 hkp k3 h35 hLl;go_wp2_with fail;refine(X3 s (blen s.data.toList k) _ hs (by omega)).mono ?_;rintro e w' ⟨rfl,rfl⟩;rw[HLD.o,H1.o];simp only;go_wp2_with fail;refine(Wt v _ hv).mono ?_;rintro e w' ⟨rfl,rfl⟩;go_wp2_with fail;refine(V9 v _ hv).mono ?_;rintro e w' ⟨rfl,rfl⟩;rw[HB.o];go_wp2_with fail;refine(Y6 v _ hv).mono ?_;rintro e w' ⟨rfl,rfl⟩;rw[HK3.o];go_wp2_with fail;refine(C4 s (blen s.data.toList k) _ hs (by omega)).mono ?_;rintro e w' ⟨rfl,rfl⟩;rw[HLD.o,HCL.o];generalize Qp Qd ((Qz s.data.toList).drop k)=r at*;generalize blen L r=bl at*;go_wp2_with fail;rw[HT.o];generalize Qk (((Qz s.data.toList).drop k).take r)=t at*;have htl:t.length<=1048576:=HTL.o;refine(Md ⟨t.toArray⟩ _ (by rw[Lib.size_eq];exact htl) HNR.o HND.o).mono ?_;rintro e w2 hpost;rcases hpost with ⟨hbad,rfl,hb2⟩|⟨hgood,v2,rfl,hown2,hb2⟩
     ·have HE2:Hid (Toks (k+1) ((Qz s.data.toList).drop k)=.error (k+1,7)):=by show _=_;rw[HE.o,HBN.o,if_pos hbad]
      have HB2:Hid (Below w.heap.size w w2):=hb.trans (hb2.mono hzz);clear hbad hb2;go_wp2_with fail;go_ret3;exact Zl (k+1) 7 (by show Value.int .i64 _=_;congr 1) rfl (HTK.o.trans (J9 HE2.o)) HB2.o
     ·have HE2:Hid (Toks (k+1) ((Qz s.data.toList).drop k)=(Toks (k+r+1) ((Qz s.data.toList).drop (k+r))).after [(1,t,k+1)]):=by
       show _=_;rw[HE.o,HBN.o,hgood,List.drop_drop,show k+1+r=k+r+1 from by omega];rfl
      have HB2:Hid (Below w.heap.size w w2):=hb.trans (hb2.mono hzz);have q0:=Qh hown hb2 (Nat.le_refl _);have hz2':=hb2.size;clear hgood hb2 hown2 hown;go_wp2_with (at_builtin;refine wpList_append_own _ rfl _ _ 83 rfl w.heap.size 119 i0 (.agg #[.int .i64 0,.string ⟨#[]⟩,.int .i64 0]) 3 32 Tryz.underlying83 hi hz0 hz1 hz2 rfl (by decide) _ _ _ rfl (World.ownsRow.alloc q0 _) ⟨w2.heap.size,0,none⟩ 1 1 (Xu [(1,t,k+1)]) rfl rfl (Qb _ _ _ _ rfl) (Tz _) (by unfold maxLen;omega) (by omega) (by simp;omega) ?_);intro v' w3 hown3 hgrow3 _
      have HO3:Hid (w3.ownsRow w.heap.size 119 3 v' (acc++[(1,t,k+1)]).length (Xu (acc++[(1,t,k+1)]))):=by
       show World.ownsRow _ _ _ _ _ _ _;rw[Ji,List.length_append];exact hown3
      have HB3:Hid (Below w.heap.size w w3):=Below.grown (HB2.o.alloc (by omega) _) hgrow3 (by simp;omega) (fun q hq=>(World.ownsRow.lt q0 q hq).1);clear hown3 hgrow3 q0;go_wp2_with fail;have hfin:Aw s.data.toList w v' (.int .i64 ((k:Int)+1+(r:Int))) (.int .i64 ((blen s.data.toList k:Int)+(bl:Int))) w3:=⟨k+r,acc++[(1,t,k+1)],by omega,by rw[HSR.o];go_num,by go_num,HO3.o,HB3.o,by rw[HTK.o,HE2.o,Res.after_after],by simp;omega⟩
      first|exact⟨hfin,by simp[intOf];omega⟩|exact⟨by (repeat apply Exists.intro);exact⟨hfin,rfl⟩,by simp[intOf];omega⟩
    have HK3:=zq (Dl k3);by_cases k4:kindOf v=4
    ·have HK4:=zq (Qq5 k4)
     have HE:=zq (J3 (c:=(some v,L.take n)) (cs:=(Qz s.data.toList).drop (k+1)) (k+1) k4);rw[<-HDV.o]at HE
     have hp:1<=Qp isAl ((Qz s.data.toList).drop k):=by rw[HDV.o];exact Xy (by simp[isAl,Dj,k4])
     have hle:=Y7 isAl ((Qz s.data.toList).drop k);rw[List.length_drop]at hle;have HT:=zq (Qg4 s k (Qp isAl ((Qz s.data.toList).drop k)) (by omega));rw[HLD.o]at HT;have hb2:=Tv L (Qp isAl ((Qz s.data.toList).drop k));rw[hLl]at hb2
     have HSR:Hid (blen s.data.toList (k+Qp isAl ((Qz s.data.toList).drop k))=blen s.data.toList k+blen L (Qp isAl ((Qz s.data.toList).drop k))):=by show _=_;rw[Kz,HLD.o]
     have htbl:(Qk (((Qz s.data.toList).drop k).take (Qp isAl ((Qz s.data.toList).drop k)))).length=blen L (Qp isAl ((Qz s.data.toList).drop k)):=by unfold blen;rw[HCL.o]
     have HTB:=zq htbl;clear k1 k2 hkp k3 k4 h35 hLl htbl;go_wp2_with fail;refine(X3 s (blen s.data.toList k) _ hs (by omega)).mono ?_;rintro e w' ⟨rfl,rfl⟩;rw[HLD.o,H1.o];simp only;go_wp2_with fail;refine(Wt v _ hv).mono ?_;rintro e w' ⟨rfl,rfl⟩;go_wp2_with fail;refine(V9 v _ hv).mono ?_;rintro e w' ⟨rfl,rfl⟩;rw[HB.o];go_wp2_with fail;refine(Y6 v _ hv).mono ?_;rintro e w' ⟨rfl,rfl⟩;rw[HK3.o];go_wp2_with fail;refine(Wf v _ hv).mono ?_;rintro e w' ⟨rfl,rfl⟩;rw[HK4.o];go_wp2_with fail;refine(Qxr s (blen s.data.toList k) _ hs (by omega)).mono ?_;rintro e w' ⟨rfl,rfl⟩;rw[HLD.o,HCL.o];generalize Qp isAl ((Qz s.data.toList).drop k)=r at*;generalize blen L r=bl at*;generalize Qk (((Qz s.data.toList).drop k).take r)=t at*;by_cases h32:32<bl
     ·have HE2:Hid (Toks (k+1) ((Qz s.data.toList).drop k)=.error (k+1,17)):=by show _=_;rw[HE.o,HTB.o,if_pos h32]
      go_wp2_with fail;go_ret3;exact Zl (k+1) 17 (by show Value.int .i64 _=_;congr 1) rfl (HTK.o.trans (J9 HE2.o)) hb
     ·have HE2:Hid (Toks (k+1) ((Qz s.data.toList).drop k)=(Toks (k+r+1) ((Qz s.data.toList).drop (k+r))).after [(2,t,k+1)]):=by
       show _=_;rw[HE.o,HTB.o,if_neg h32,List.drop_drop,show k+1+r=k+r+1 from by omega]
      go_wp2_with (at_builtin;rw[HT.o];refine wpList_append_own _ rfl _ _ 83 rfl w.heap.size 119 i0 (.agg #[.int .i64 0,.string ⟨#[]⟩,.int .i64 0]) 3 32 Tryz.underlying83 hi hz0 hz1 hz2 rfl (by decide) _ _ _ rfl (World.ownsRow.alloc hown _) ⟨wr.heap.size,0,none⟩ 1 1 (Xu [(2,t,k+1)]) rfl rfl (Qb _ _ _ _ rfl) (Tz _) (by unfold maxLen;omega) (by omega) (by simp;omega) ?_);intro v' w3 hown3 hgrow3 _
      have HO3:Hid (w3.ownsRow w.heap.size 119 3 v' (acc++[(2,t,k+1)]).length (Xu (acc++[(2,t,k+1)]))):=by
       show World.ownsRow _ _ _ _ _ _ _;rw[Ji,List.length_append];exact hown3
      have HB3:Hid (Below w.heap.size w w3):=Below.grown (hb.alloc (by omega) _) hgrow3 (by simp;omega) (fun q hq=>(World.ownsRow.lt hown q hq).1);clear hown3 hgrow3 hown;go_wp2_with fail;have hfin:Aw s.data.toList w v' (.int .i64 ((k:Int)+1+(r:Int))) (.int .i64 ((blen s.data.toList k:Int)+(bl:Int))) w3:=⟨k+r,acc++[(2,t,k+1)],by omega,by rw[HSR.o];go_num,by go_num,HO3.o,HB3.o,by rw[HTK.o,HE2.o,Res.after_after],by simp;omega⟩
      first|exact⟨hfin,by simp[intOf];omega⟩|exact⟨by (repeat apply Exists.intro);exact⟨hfin,rfl⟩,by simp[intOf];omega⟩
    have HK4:=zq (Dl k4);by_cases k5:kindOf v=5
    ·obtain⟨x,hx1,hx2⟩:=Qs k5 HMV.o
     have HE:=zq (J5 (c:=(some v,L.take n)) (cs:=(Qz s.data.toList).drop (k+1)) (k+1) k5);rw[<-HDV.o,hx2]at HE;have HM:=zq hx1;clear k1 k2 hkp k3 k4 k5 h35 hx1 hx2;go_wp2_with fail;refine(X3 s (blen s.data.toList k) _ hs (by omega)).mono ?_;rintro e w' ⟨rfl,rfl⟩;rw[HLD.o,H1.o];simp only;go_wp2_with fail;refine(Wt v _ hv).mono ?_;rintro e w' ⟨rfl,rfl⟩;rw[HM.o];go_wp2_with fail;refine(V9 v _ hv).mono ?_;rintro e w' ⟨rfl,rfl⟩;rw[HB.o];go_wp2_with fail;refine(Y6 v _ hv).mono ?_;rintro e w' ⟨rfl,rfl⟩;rw[HK3.o];go_wp2_with fail;refine(Wf v _ hv).mono ?_;rintro e w' ⟨rfl,rfl⟩;rw[HK4.o];go_wp2_with (at_builtin;refine wpList_append_own _ rfl _ _ 83 rfl w.heap.size 119 i0 (.agg #[.int .i64 0,.string ⟨#[]⟩,.int .i64 0]) 3 32 Tryz.underlying83 hi hz0 hz1 hz2 rfl (by decide) _ _ _ rfl (World.ownsRow.alloc hown _) ⟨wr.heap.size,0,none⟩ 1 1 (Xu [(3,[x],k+1)]) rfl rfl (Qb _ _ _ _ rfl) (Tz _) (by unfold maxLen;omega) (by omega) (by simp;omega) ?_);intro v' w3 hown3 hgrow3 _
     have HO3:Hid (w3.ownsRow w.heap.size 119 3 v' (acc++[(3,[x],k+1)]).length (Xu (acc++[(3,[x],k+1)]))):=by
      show World.ownsRow _ _ _ _ _ _ _;rw[Ji,List.length_append];exact hown3
     have HB3:Hid (Below w.heap.size w w3):=Below.grown (hb.alloc (by omega) _) hgrow3 (by simp;omega) (fun q hq=>(World.ownsRow.lt hown q hq).1);clear hown3 hgrow3 hown;go_wp2_with fail;have hfin:Aw s.data.toList w v' (.int .i64 ((k:Int)+1+1)) (.int .i64 ((blen s.data.toList k:Int)+(n:Int))) w3:=⟨k+1,acc++[(3,[x],k+1)],by omega,by rw[HS.o];go_num,by go_num,HO3.o,HB3.o,by rw[HTK.o,HE.o,Res.after_after],by simp;omega⟩
     first|exact⟨hfin,by simp[intOf];omega⟩|exact⟨by (repeat apply Exists.intro);exact⟨hfin,rfl⟩,by simp[intOf];omega⟩
    ·have k6:kindOf v=6:=by omega
     have HE:Hid (Toks (k+1) ((Qz s.data.toList).drop k)=.error (k+1,13)):=by show _=_;rw[HDV.o,Jk (c:=(some v,L.take n)) _ k6]
     have HM:=zq (Qvc k5);clear k1 k2 hkp k3 k4 k5 h35 k6;go_wp2_with fail;refine(X3 s (blen s.data.toList k) _ hs (by omega)).mono ?_;rintro e w' ⟨rfl,rfl⟩;rw[HLD.o,H1.o];simp only;go_wp2_with fail;refine(Wt v _ hv).mono ?_;rintro e w' ⟨rfl,rfl⟩;rw[HM.o];go_wp2_with fail;refine(V9 v _ hv).mono ?_;rintro e w' ⟨rfl,rfl⟩;rw[HB.o];go_wp2_with fail;refine(Y6 v _ hv).mono ?_;rintro e w' ⟨rfl,rfl⟩;rw[HK3.o];go_wp2_with fail;refine(Wf v _ hv).mono ?_;rintro e w' ⟨rfl,rfl⟩;rw[HK4.o];go_wp2_with fail;go_ret3;exact Zl (k+1) 13 (by show Value.int .i64 _=_;congr 1) rfl (HTK.o.trans (J9 HE.o)) hb
  ·have hbe:s.size<=blen s.data.toList k:=by
    have:=Yv s.data.toList k;have:=hsz.o;omega
   go_wp2_with fail;go_ret3;refine Ro (HTK.o.trans (Sy ?_)) hown hb;rw[List.drop_of_length_le (by omega),Zu]
def Cs (l:Qx)(w:World)(e:Ending)(w':World):Prop:=
 e=.returned (.tuple #[.int .i64 ((Vz l).1:Nat),.int .i64 ((Vz l).2:Nat)])/\w=w'
theorem Bb (s:ByteArray)(w:World)(hs:s.size<=1048576):
  Calls Tryz.prog 70 #[.string s] w (Cs s.data.toList w):=by
 obtain⟨L,hL⟩:=xq s.data.toList;rw[<-hL]
 have hLl:L.length=s.size:=by rw[hL,Lib.size_eq]
 have HL:=zq hL
 have HP:Hid (∀a:Nat×Nat,Vz L=a->Cs L w (.returned (.tuple #[.int .i64 (a.1:Nat),.int .i64 (a.2:Nat)])) w):=by
  intro a h;exact⟨by rw[h],rfl⟩
 have hcl:(Qz L).length<=1048576:=by have:=Yq L;omega
 clear hL;go_enter Tryz.func70,Tryz.ntmps70;go_wp2_with fail;go_loopw [4,5] (fun c b wr=> ∃j:Nat,j<=(Qz L).length/\b=.int .i64 (blen L j:Nat)/\c=.int .i64 (j:Nat)/\(∀d∈(Qz L).take j,Qe d=true)/\wr=w) (fun c _ _=>(Qz L).length-(intOf c).toNat)
 case atStart=>exact⟨0,Nat.zero_le _,by rw[Ua];rfl,rfl,by simp,rfl⟩
 case round=>
  obtain⟨j,hj,rfl,rfl,hall,rfl⟩:=hrel;have HALL:=zq hall;have hble:=Tv L j;clear hall;by_cases hlt:j<(Qz L).length
  ·have hbl:=(Yv L j).2 hlt
   have HAT:=zq (Uh hlt);have HSU:=zq (Ub hlt);rcases charRes_cases (L.drop (blen L j)) with ⟨h1,h2⟩|⟨v,n,h1,hn1,hn2,hn4,hv,h2,h3⟩
   ·have HF:=zq (HP.o (0,12) (by
     have:(Qz L).all Qe=false:=by
      rw[List.all_eq_false];exact⟨_,List.mem_of_getElem? HAT.o,by rw[h2,Mm];simp⟩
     unfold Vz;rw[this];rfl))
    have H1:=zq h1;clear h1 h2;go_wp2_with fail;refine(X3 s (blen L j) _ hs (by omega)).mono ?_;rintro e w' ⟨rfl,rfl⟩;rw[<-HL.o,H1.o];simp only;go_wp2_with fail;go_ret2;exact HF.o
   ·have H1:=zq h1
    rw[List.length_drop]at hn2
    have hn0:((n:Int)==0)=false:=by simp;omega
    have HA:Hid (∀d∈(Qz L).take (j+1),Qe d=true):=Wn HALL.o HAT.o (by rw[h2];exact Mc _ _)
    have HS:Hid (blen L (j+1)=blen L j+n):=by show _=_;rw[HSU.o,h3]
    clear h1 h2 h3;go_wp2_with fail;refine(X3 s (blen L j) _ hs (by omega)).mono ?_;rintro e w' ⟨rfl,rfl⟩;rw[<-HL.o,H1.o];simp only;go_wp2_with fail;refine⟨⟨j+1,by omega,by rw[HS.o];go_num,by go_num,HA.o,trivial⟩,by simp[intOf];omega⟩
  ·have hje:j=(Qz L).length:=by omega
   have hbe:L.length<=blen L j:=by
    have:=Yv L j;omega
   have HF:=zq (HP.o (j,0) (by
    have h1:=HALL.o;rw[hje,List.take_length]at h1
    unfold Vz;rw[List.all_eq_true.2 h1,if_pos rfl,hje]))
   clear hje;go_wp2_with fail;go_ret2;exact HF.o
open NatP
theorem Qxl:∀(n:Nat) (cs:List C) (col:Nat) (ts:List Tok),cs.length<=n->Toks col cs=.ok ts-> ∀t∈ts,t.1=1\/t.1=2\/t.1=3:=by
 intro n
 induction n with
 |zero=>
  intro cs col ts K h;rw[List.eq_nil_of_length_eq_zero (Nat.le_zero.1 K),Zu]at h
  cases h
  intro t E;cases E
 |succ n ih=>
  intro cs col ts K h
  cases cs with
  |nil=>
   rw[Zu]at h
   cases h
   intro t E;cases E
  |cons c cs=>
   have I:∀(k col:Nat) (m:List Tok),1<=k->Toks col ((c::cs).drop k)=.ok m-> ∀t∈m,t.1=1\/t.1=2\/t.1=3:=by
    intro k col m T J
    have U:((c::cs).drop k).length+1<=(c::cs).length:=by rw[List.length_drop,List.length_cons];omega
    exact ih _ _ _ (by omega) J
   have T:=Ks c
   have H:∀(x:Tok) (m:List Tok),(x.1=1\/x.1=2\/x.1=3)->(∀t∈m,t.1=1\/t.1=2\/t.1=3)-> ∀t∈[x]++m,t.1=1\/t.1=2\/t.1=3:=by
    intro x m O J t E;rcases List.mem_append.1 E with E|E
    ·rw[List.mem_singleton.1 E];exact O
    ·exact J t E
   by_cases k0:kd c=0
   ·rw[Wl _ k0]at h;cases h
   by_cases k1:kd c=1
   ·rw[Z9 _ k1]at h
    exact I 1 _ _ (Nat.le_refl _) h
   by_cases k2:kd c=2
   ·rw[J6 _ k2]at h
    split at h
    ·cases h
    ·cases h
     intro t E;cases E
   by_cases k3:kd c=3
   ·rw[Wu _ k3]at h
    split at h
    ·cases h
    ·obtain⟨m,J,rfl⟩:=SynP.Yn h
     exact H _ _ (by simp) (I _ _ _ (Xy (p:=Qd) (c:=c) (cs:=cs) (by simp[Qd,k3])) J)
   by_cases k4:kd c=4
   ·rw[J3 _ k4]at h
    split at h
    ·cases h
    ·obtain⟨m,J,rfl⟩:=SynP.Yn h
     exact H _ _ (by simp) (I _ _ _ (Xy (p:=isAl) (c:=c) (cs:=cs) (by simp[isAl,k4])) J)
   by_cases k5:kd c=5
   ·rw[J5 _ k5]at h
    obtain⟨m,J,rfl⟩:=SynP.Yn h;exact H _ _ (by simp) (I 1 _ _ (Nat.le_refl _) J)
   ·rw[Jk _ (by omega)]at h;cases h
structure TksW (l:Qx) (ts:List Tok):Prop where
 len:ts.length<=1048576
 num:∀t∈ts,TokW t
 kind:∀t∈ts,t.1=1\/t.1=2\/t.1=3
theorem tksW {l:Qx}(h:l.length<=1048576){ts:List Tok}(ht:Toks 1 (Qz l)=.ok ts):TksW l ts where
 len:=by
  have h1:=(Mh _ _ _ ht).1;have h2:=Yq l;omega
 num:=fun t hm h1=>by
  obtain⟨a,b,c⟩:=Pb ht t hm h1;refine⟨a,b,?_,c⟩;have h2:=SynP.Gn _ _ _ _ (Nat.le_refl _) ht t hm h1;rw[Y1]at h2;exact Nat.le_trans h2 h
 kind:=Qxl _ _ _ _ (Nat.le_refl _) ht
theorem WM.ndl {w:World}{R:Nat}{tv:Value}{L:List Tok}{i:Nat}{nv vv sv:Value}{ns:List Nv}{vs:List Nat}{stk:List RfP.Op}{want pw:Bool}{d:Nat}(h:WM w R tv L i nv vv sv ns vs stk want pw d):NdL w w.heap.size nv (SynP.nL (ns.map Prod.fst)):=by
 obtain⟨ao,H,rfl,a1,a2,a3⟩:=Qj h.ndo
 have E:(SynP.nL (ns.map Prod.fst)).length=ns.length:=by simp[SynP.nL]
 refine⟨ao,H,by rw[E],by rw[E];exact a1,a2,fun h0=> ?_⟩;rw[E]at h0;obtain⟨g,rfl,-,b2,b3⟩:=a3 h0;refine⟨g,rfl,b2,fun j x hj=> ?_⟩;simp only[SynP.nL,List.map_map,List.getElem?_map]at hj
 cases hp:ns[j]? with
 |none=>rw[hp]at hj;cases hj
 |some p=>
  rw[hp]at hj
  cases hj
  have I:=(List.getElem?_eq_some_iff.1 hp).1;obtain⟨c1,c2,c3⟩:=Kc ns j p hp;exact⟨by rw[b3 _ (by omega)];exact c1,by rw[b3 _ (by omega)];exact c2,p.2,by rw[b3 _ (by omega)];exact c3,(h.kids p (List.mem_of_getElem? hp)).kl⟩
def RPa (l:Qx)(w:World)(e:Ending)(w':World):Prop:=
 Below w.heap.size w w'/\match SynP.Y4 l with
 | .error (c,k)=>e=.returned (.tuple #[.slice none 0 0,.int .i64 (c:Nat),.int .i64 (k:Nat)])
 | .ok n=> ∃v,e=.returned (.tuple #[v,.int .i64 0,.int .i64 0])/\NdA w' v (SynP.nL n.flat)
end Go.Proofs.YtgfmiladfeoldaaGreatDoor
