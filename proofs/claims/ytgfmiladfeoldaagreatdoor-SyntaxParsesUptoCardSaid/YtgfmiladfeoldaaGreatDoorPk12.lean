/- Joined texts of this claim's proof: LexW6, LexPure2, LexPure3, LexW7, SyRow, SyRow4. -/
import Derived.Test.YtgfmiladfeoldaaGreatDoorPk1
import Derived.Test.YtgfmiladfeoldaaGreatDoorPk11
import Derived.Test.YtgfmiladfeoldaaGreatDoorPk2
import Derived.Test.YtgfmiladfeoldaaGreatDoorRows
import Derived.Test.YtgfmiladfeoldaaGreatDoorPk10
import Derived.ProofKit
import Derived.OpenShut
import Derived.ShutString
import Derived.JoinedCond
import Derived.HandedShaped
import Derived.Below
import Derived.ReadAgain
import Derived.ChangeOld
import Derived.Deep.DeepHandedRow
import Derived.Lib.LaidTab
import Derived.MakeChecks
import Derived.Stop.LaidErr
set_option linter.unusedSimpArgs false
set_option linter.unusedVariables false
set_option maxRecDepth 100000
set_option maxHeartbeats 16000000
namespace Go.Proofs.YtgfmiladfeoldaaGreatDoor
open Go.RowKit LexP
theorem Qg5 {W w1:World}(hb:Below W.heap.size W w1):(∀b o,b<W.heap.size->w1.cell? ⟨b,o,none⟩=W.cell? ⟨b,o,none⟩)/\(∀b o,b<W.heap.size->w1.frozen? ⟨b,o,none⟩=W.frozen? ⟨b,o,none⟩):=
 ⟨fun b o h=>hb.cell (p:=⟨b,o,none⟩) h,fun b o h=>hb.frozen (p:=⟨b,o,none⟩) h⟩
theorem Ts (l:Qx)(i n:Nat):(Qk (((Qz l).drop i).take n)).length<=l.length:=by
 have E:=Ve ((Qz l).drop i) n
 have h:(Qk ((Qz l).drop i)).length<=(Qk (Qz l)).length:=by
  have:Qk ((Qz l).take i)++Qk ((Qz l).drop i)=Qk (Qz l):=by simp only[Qk];rw[<-List.flatMap_append,List.take_append_drop]
  rw[<-this,List.length_append];omega
 rw[Y1]at h;omega
def Lx (w:World):Prop:=∃m,w.cell? ⟨1,0,none⟩=some (.int .i64 m)
theorem Lx.lt {w:World}(h:Lx w):1<w.heap.size:=by obtain⟨m,h⟩:=h;exact World.block_lt_of_cell? w _ h
theorem Lx.below {w w':World}(h:Lx w)(hb:Below w.heap.size w w'):Lx w':=by
 have:=h.lt;obtain⟨m,h⟩:=h;exact⟨m,by rw[hb.cell (p:=⟨_,_,_⟩) this];exact h⟩
theorem Mq (s sub:ByteArray)(w:World)(hs:s.size<=67108864)(hx:Lx w):
  Calls Tryz.prog 205 #[.string s,.string sub] w fun e w'=>e=.returned (.bool (Lib.contains s.data.toList sub.data.toList))/\w'=w:=by
 obtain⟨m,h⟩:=hx;exact Tryz.strings_Contains s sub m w (by omega) h
theorem Qk4 (s:ByteArray)(v:Value)(i:Nat)(c:C)(w:World)(hr:RdCh w v (Qz s.data.toList))(hc:(Qz s.data.toList)[i]?=some c)(hs:s.size<=67108864)(hk:kd c=3)(hx:Lx w):
  Calls Tryz.prog 158 #[.string s,v,.int .i64 (i:Nat)] w (Sz (Xh (Qz s.data.toList) i c) i w):=by
 have hn:(Qz s.data.toList).length<=67108864:=by have:=Yq s.data.toList;rw[<-Lib.size_eq]at this;omega
 have hlt:i<(Qz s.data.toList).length:=(List.getElem?_eq_some_iff.1 hc).1;have HR:=zq hr;have HX:=zq hx
 have hp:1<=Qp Qd ((Qz s.data.toList).drop i):=by
  rw[List.drop_eq_getElem_cons hlt];have:=List.getElem?_eq_getElem hlt;rw[hc]at this;obtain rfl:=Option.some.inj this;exact Xy (by simp[Qd,hk])
 have hq:i+Qp Qd ((Qz s.data.toList).drop i)<=(Qz s.data.toList).length:=by
  have:=Y7 Qd ((Qz s.data.toList).drop i);rw[List.length_drop]at this;omega
 obtain⟨ao,cap,hv,hnc,hcm,hsh⟩:=hr.shape;obtain⟨g,hao,hgs,e1,e2,e3⟩:=hsh _ c hc;subst hao
 have hT:(Qk (((Qz s.data.toList).drop i).take (Qp Qd ((Qz s.data.toList).drop i)))).length<=67108864:=by have:=Ts s.data.toList i (Qp Qd ((Qz s.data.toList).drop i));rw[<-Lib.size_eq]at this;omega
 obtain⟨res,hres⟩:=xq (Xh (Qz s.data.toList) i c);rw[<-hres]
 have hres2:Xh (Qz s.data.toList) i c=(1,Qk (((Qz s.data.toList).drop i).take (Qp Qd ((Qz s.data.toList).drop i))),if Ju (Qk (((Qz s.data.toList).drop i).take (Qp Qd ((Qz s.data.toList).drop i)))) then (i,7) else (i+Qp Qd ((Qz s.data.toList).drop i),0)):=by unfold Xh;simp[hk]
 rw[hres2]at hres;obtain⟨m,hmm⟩:∃m,Qp Qd ((Qz s.data.toList).drop i)=m:=⟨_,rfl⟩;rw[hmm]at hres hT hq hp;obtain⟨T,htt⟩:∃T,Qk (((Qz s.data.toList).drop i).take m)=T:=⟨_,rfl⟩;rw[htt]at hres hT;have HM:=zq hmm;have HT:=zq htt;have HRES:=zq hres
 have hTs:(⟨T.toArray⟩:ByteArray).size<=67108864:=by rw[Lib.size_eq];simpa using hT
 rw[hk]at e1;subst hv;clear hres hres2 hmm htt hk hc hsh hr hx hcm;go_enter Tryz.func158,Tryz.ntmps158;go_wp2_with fail;refine(Ei _ Qd C9 _ (Qz s.data.toList) i _ (HR.o.below ?_) (by omega)).mono ?_
 ·go_grown
 rintro e w1 ⟨rfl,hb1⟩;rw[HM.o];go_wp2_with fail;refine(Cy s _ i (i+m) w1 ((HR.o.below ?_).below hb1) (by omega) hq hs).mono ?_
 ·go_grown
 rintro e w2 ⟨rfl,nn,hw2⟩;rw[Nat.add_sub_cancel_left,HT.o];have hb2:=below_drewN hb1 nn;rw[<-hw2]at hb2;clear hw2 hb1 HR e1 e2 e3 HM HT;have hB:Below w.heap.size w w2:=Below.trans (by go_grown) (hb2.mono (by simp;omega));obtain⟨hcc,hff⟩:=Qg5 hb2;have hz:=hb2.size;simp only[World.size_alloc]at hz hcc hff;have q0:w2.cell? ⟨w.heap.size,0,none⟩=some (.int .i64 0):=(hcc _ _ (by omega)).trans (by simp[go_sem]);have q1:w2.cell? ⟨w.heap.size,1,none⟩=some (.string ⟨#[]⟩):=(hcc _ _ (by omega)).trans (by simp[go_sem]);have q2:w2.cell? ⟨w.heap.size,2,none⟩=some (.int .i64 0):=(hcc _ _ (by omega)).trans (by simp[go_sem]);clear hb2
 cases h1:Lib.hasSuffix T [95] with
 |true=>
  have H1:=zq h1
  have HB0:Hid ((if Ju T=true then (i,7) else (i+m,0))=(i,7)):=by show _=_;simp[Ju,h1]
  clear h1;go_wp2_with (go_at_call 204;refine(Tryz.strings_HasSuffix _ _ _ (by omega)).mono ?_;rintro e w' ⟨rfl,rfl⟩;simp only[H1.o]);have HB:=HB0.o
  refine bodyPost_ret (v:=.tuple #[.agg #[.int .i64 1,.string ⟨T.toArray⟩,.int .i64 (↑i+1)],.int .i64 ↑i,.int .i64 7]) (by simp[results,Tryz.results158,go_sem,q0,q1,q2]) rfl (Jm _ _ _ _ _ (by rw[HRES.o]<;>rfl) (by rw[HRES.o]) (by first|rfl|simp) (by rw[HRES.o,HB]<;>first|rfl|simp) (by rw[HRES.o,HB]<;>first|rfl|simp) ?_)
  go_grown
 |false=>
  have H1:=zq h1
  cases h2:Lib.contains T [95,95] with
  |true=>
   have H2:=zq h2
   have HB0:Hid ((if Ju T=true then (i,7) else (i+m,0))=(i,7)):=by show _=_;simp[Ju,h2]
   clear h1 h2;go_wp2_with (first|(go_at_call 204;refine(Tryz.strings_HasSuffix _ _ _ (by omega)).mono ?_;rintro e w' ⟨rfl,rfl⟩;simp only[H1.o])|(go_at_call 205;refine(Mq _ _ _ hTs (HX.o.below (by go_grown))).mono ?_;rintro e w' ⟨rfl,rfl⟩;simp only[H2.o]));have HB:=HB0.o
   refine bodyPost_ret (v:=.tuple #[.agg #[.int .i64 1,.string ⟨T.toArray⟩,.int .i64 (↑i+1)],.int .i64 ↑i,.int .i64 7]) (by simp[results,Tryz.results158,go_sem,q0,q1,q2]) rfl (Jm _ _ _ _ _ (by rw[HRES.o]<;>rfl) (by rw[HRES.o]) (by first|rfl|simp) (by rw[HRES.o,HB]<;>first|rfl|simp) (by rw[HRES.o,HB]<;>first|rfl|simp) ?_)
   go_grown
  |false=>
   have H2:=zq h2
   have HB0:Hid ((if Ju T=true then (i,7) else (i+m,0))=(i+m,0)):=by show _=_;simp[Ju,h1,h2]
   clear h1 h2;go_wp2_with (first|(go_at_call 204;refine(Tryz.strings_HasSuffix _ _ _ (by omega)).mono ?_;rintro e w' ⟨rfl,rfl⟩;simp only[H1.o])|(go_at_call 205;refine(Mq _ _ _ hTs (HX.o.below (by go_grown))).mono ?_;rintro e w' ⟨rfl,rfl⟩;simp only[H2.o]));have HB:=HB0.o
   refine bodyPost_ret (v:=.tuple #[.agg #[.int .i64 1,.string ⟨T.toArray⟩,.int .i64 (↑i+1)],.int .i64 (↑i+ ↑m),.int .i64 0]) (by simp[results,Tryz.results158,go_sem,q0,q1,q2]) rfl (Jm _ _ _ _ _ (by rw[HRES.o]<;>rfl) (by rw[HRES.o]) (by first|rfl|simp) (by rw[HRES.o,HB]<;>first|rfl|simp) (by rw[HRES.o,HB]<;>first|rfl|simp) ?_)
   go_grown
theorem Qvy (s:ByteArray)(v:Value)(i:Nat)(c:C)(w:World)(hr:RdCh w v (Qz s.data.toList))(hc:(Qz s.data.toList)[i]?=some c)(hs:s.size<=67108864)(hk:kd c=4)(hx:Lx w):
  Calls Tryz.prog 158 #[.string s,v,.int .i64 (i:Nat)] w (Sz (Xh (Qz s.data.toList) i c) i w):=by
 have hn:(Qz s.data.toList).length<=67108864:=by have:=Yq s.data.toList;rw[<-Lib.size_eq]at this;omega
 have hlt:i<(Qz s.data.toList).length:=(List.getElem?_eq_some_iff.1 hc).1;have HR:=zq hr;have HX:=zq hx
 have hp:1<=Qp isAl ((Qz s.data.toList).drop i):=by
  rw[List.drop_eq_getElem_cons hlt];have:=List.getElem?_eq_getElem hlt;rw[hc]at this;obtain rfl:=Option.some.inj this;exact Xy (by simp[isAl,hk])
 have hq:i+Qp isAl ((Qz s.data.toList).drop i)<=(Qz s.data.toList).length:=by
  have:=Y7 isAl ((Qz s.data.toList).drop i);rw[List.length_drop]at this;omega
 obtain⟨ao,cap,hv,hnc,hcm,hsh⟩:=hr.shape;obtain⟨g,hao,hgs,e1,e2,e3⟩:=hsh _ c hc;subst hao
 have hT:(Qk (((Qz s.data.toList).drop i).take (Qp isAl ((Qz s.data.toList).drop i)))).length<=67108864:=by have:=Ts s.data.toList i (Qp isAl ((Qz s.data.toList).drop i));rw[<-Lib.size_eq]at this;omega
 obtain⟨res,hres⟩:=xq (Xh (Qz s.data.toList) i c);rw[<-hres]
 have hres2:Xh (Qz s.data.toList) i c=(2,Qk (((Qz s.data.toList).drop i).take (Qp isAl ((Qz s.data.toList).drop i))),if 32<(Qk (((Qz s.data.toList).drop i).take (Qp isAl ((Qz s.data.toList).drop i)))).length then (i,17) else (i+Qp isAl ((Qz s.data.toList).drop i),0)):=by unfold Xh;simp[hk]
 rw[hres2]at hres;obtain⟨m,hmm⟩:∃m,Qp isAl ((Qz s.data.toList).drop i)=m:=⟨_,rfl⟩;rw[hmm]at hres hT hq hp;obtain⟨T,htt⟩:∃T,Qk (((Qz s.data.toList).drop i).take m)=T:=⟨_,rfl⟩;rw[htt]at hres hT;have HM:=zq hmm;have HT:=zq htt;have HRES:=zq hres
 have hTs:(⟨T.toArray⟩:ByteArray).size<=67108864:=by rw[Lib.size_eq];simpa using hT
 rw[hk]at e1;subst hv;clear hres hres2 hmm htt hk hc hsh hr hx hcm;go_enter Tryz.func158,Tryz.ntmps158;go_wp2_with fail;refine(Ei _ isAl Qxj _ (Qz s.data.toList) i _ (HR.o.below ?_) (by omega)).mono ?_
 ·go_grown
 rintro e w1 ⟨rfl,hb1⟩;rw[HM.o];go_wp2_with fail;refine(Cy s _ i (i+m) w1 ((HR.o.below ?_).below hb1) (by omega) hq hs).mono ?_
 ·go_grown
 rintro e w2 ⟨rfl,nn,hw2⟩;rw[Nat.add_sub_cancel_left,HT.o];have hb2:=below_drewN hb1 nn;rw[<-hw2]at hb2;clear hw2 hb1 HR e1 e2 e3 HM HT;have hB:Below w.heap.size w w2:=Below.trans (by go_grown) (hb2.mono (by simp;omega));obtain⟨hcc,hff⟩:=Qg5 hb2;have hz:=hb2.size;simp only[World.size_alloc]at hz hcc hff;have q0:w2.cell? ⟨w.heap.size,0,none⟩=some (.int .i64 0):=(hcc _ _ (by omega)).trans (by simp[go_sem]);have q1:w2.cell? ⟨w.heap.size,1,none⟩=some (.string ⟨#[]⟩):=(hcc _ _ (by omega)).trans (by simp[go_sem]);have q2:w2.cell? ⟨w.heap.size,2,none⟩=some (.int .i64 0):=(hcc _ _ (by omega)).trans (by simp[go_sem]);clear hb2
 have hsz:(⟨T.toArray⟩:ByteArray).size=T.length:=by rw[Lib.size_eq]
 have HSZ:=zq hsz;clear hsz;by_cases h1:32<T.length
 ·have HB0:Hid ((if 32<T.length then (i,17) else (i+m,0))=(i,17)):=by show _=_;rw[if_pos h1]
  have h3:(32:Int)<((⟨T.toArray⟩:ByteArray).size:Int):=by rw[HSZ.o];omega
  go_wp2;have HB:=HB0.o
  refine bodyPost_ret (v:=.tuple #[.agg #[.int .i64 2,.string ⟨T.toArray⟩,.int .i64 (↑i+1)],.int .i64 ↑i,.int .i64 17]) (by simp[results,Tryz.results158,go_sem,q0,q1,q2]) rfl (Jm _ _ _ _ _ (by rw[HRES.o]<;>rfl) (by rw[HRES.o]) (by first|rfl|simp) (by rw[HRES.o,HB]<;>first|rfl|simp) (by rw[HRES.o,HB]<;>first|rfl|simp) ?_)
  go_grown
 ·have HB0:Hid ((if 32<T.length then (i,17) else (i+m,0))=(i+m,0)):=by show _=_;rw[if_neg h1]
  have h3: ¬(32:Int)<((⟨T.toArray⟩:ByteArray).size:Int):=by rw[HSZ.o];omega
  go_wp2;have HB:=HB0.o
  refine bodyPost_ret (v:=.tuple #[.agg #[.int .i64 2,.string ⟨T.toArray⟩,.int .i64 (↑i+1)],.int .i64 (↑i+ ↑m),.int .i64 0]) (by simp[results,Tryz.results158,go_sem,q0,q1,q2]) rfl (Jm _ _ _ _ _ (by rw[HRES.o]<;>rfl) (by rw[HRES.o]) (by first|rfl|simp) (by rw[HRES.o,HB]<;>first|rfl|simp) (by rw[HRES.o,HB]<;>first|rfl|simp) ?_)
  go_grown
theorem Qk7 (s:ByteArray)(v:Value)(i:Nat)(c:C)(w:World)(hr:RdCh w v (Qz s.data.toList))(hc:(Qz s.data.toList)[i]?=some c)(hs:s.size<=67108864)(h1:kd c≠1)(h2:kd c≠2)(hmk:Nr c)(hx:Lx w):
  Calls Tryz.prog 158 #[.string s,v,.int .i64 (i:Nat)] w (Sz (Xh (Qz s.data.toList) i c) i w):=by
 have E:=Ks c
 have h:(Qz s.data.toList).length<=67108864:=by have:=Yq s.data.toList;rw[<-Lib.size_eq]at this;omega
 by_cases h3:kd c=3
 ·exact Qk4 s v i c w hr hc hs h3 hx
 by_cases h4:kd c=4
 ·exact Qvy s v i c w hr hc hs h4 hx
 exact A6 s v _ i c w hr hc h (by omega) hmk
end Go.Proofs.YtgfmiladfeoldaaGreatDoor
namespace LexP
theorem Mc (v:Nat)(t:Qx):Qe (some v,t)=true:=by
 have:=(Tq v).1;simp[Qe,kd];omega
theorem Mm (t:Qx):Qe (none,t)=false:=by simp[Qe,kd]
end LexP
namespace LexP
def Qwq:Res->List Tok| .ok l=>l| .error _=>[]
def resCol:Res->Nat| .ok _=>0| .error e=>e.1
def resErr:Res->Nat| .ok _=>0| .error e=>e.2
theorem Z4 {p:C->Bool}(l:List C):∀c∈l.take (Qp p l),p c=true:=by
 have H:l.take (Qp p l)=l.takeWhile p:=by
  unfold Qp
  induction l with
  |nil=>rfl
  |cons d l ih=>
   by_cases h:p d=true
   ·simp[h,ih]
   ·simp[h]
 intro c E;rw[H]at E
 have:∀(l:List C),∀c∈l.takeWhile p,p c=true:=by
  intro l
  induction l with
  |nil=>intro c E;simp at E
  |cons d l ih=>
   intro c E;rw[List.takeWhile_cons]at E;split at E
   ·rename_i h
    rcases List.mem_cons.1 E with rfl|E
    ·exact h
    ·exact ih c E
   ·simp at E
 exact this l c E
theorem Hi {P:Nat->List C->Res->Prop}(h0:∀col,P col [] (.ok []))
  (hblank:∀col c A,kd c=1->P (col+1) A (Toks (col+1) A)->P col (c::A) (Toks (col+1) A))
  (hhash:∀col c A,kd c=2->P col (c::A) (if Qp Qe (c::A)<(c::A).length then .error (col+Qp Qe (c::A),12) else .ok []))
  (herr:∀col c A e,kd c≠1->kd c≠2->0<e->P col (c::A) (.error (col,e)))
  (htok:∀col c A n k t,kd c≠0->kd c≠1->kd c≠2->1<=n->n<=(c::A).length->(∀d∈(c::A).take n,Qe d=true)->
   P (col+n) ((c::A).drop n) (Toks (col+n) ((c::A).drop n))->P col (c::A) ((Toks (col+n) ((c::A).drop n)).after [(k,t,col)])):
  ∀A col,P col A (Toks col A):=by
 have H:∀n A col,A.length<=n->P col A (Toks col A):=by
  intro n
  induction n with
  |zero=>
   intro A col K;obtain rfl:A=[]:=List.eq_nil_of_length_eq_zero (by omega)
   exact h0 col
  |succ n ih=>
   intro A col K
   cases A with
   |nil=>exact h0 col
   |cons c A=>
    simp only[List.length_cons]at K;have T:=Ks c;by_cases k0:kd c=0
    ·rw[Wl _ k0];exact herr _ _ _ _ (by omega) (by omega) (by omega)
    by_cases k1:kd c=1
    ·rw[Z9 _ k1];exact hblank _ _ _ k1 (ih A _ (by omega))
    by_cases k2:kd c=2
    ·rw[J6 _ k2];exact hhash _ _ _ k2
    by_cases k3:kd c=3
    ·have J:=Xy (p:=Qd) (c:=c) (cs:=A) (by simp[Qd,k3])
     have I:=Y7 Qd (c::A);rw[Wu _ k3];split
     ·exact herr _ _ _ _ k1 k2 (by omega)
     ·refine htok _ _ _ _ _ _ k0 k1 k2 J I ?_ (ih _ _ (by simp only[List.length_drop,List.length_cons];omega))
      intro d E;have:=Z4 _ d E;unfold Qd at this;unfold Qe;simp only[Bool.or_eq_true,beq_iff_eq]at this;rcases this with h|h
      ·simp[h]
      ·unfold rn at h;unfold kd
       split at h
       ·rename_i v O
        have:=(Tq v).1;simp;omega
       ·omega
    by_cases k4:kd c=4
    ·have J:=Xy (p:=isAl) (c:=c) (cs:=A) (by simp[isAl,k4])
     have I:=Y7 isAl (c::A);rw[J3 _ k4];split
     ·exact herr _ _ _ _ k1 k2 (by omega)
     ·refine htok _ _ _ _ _ _ k0 k1 k2 J I ?_ (ih _ _ (by simp only[List.length_drop,List.length_cons];omega))
      intro d E;have:=Z4 _ d E;unfold isAl at this;unfold Qe;simp only[Bool.or_eq_true,beq_iff_eq]at this
      rcases this with h|h<;>simp[h]
    by_cases k5:kd c=5
    ·rw[J5 _ k5]
     have:=htok col c A 1 3 (Z1 c) k0 k1 k2 (Nat.le_refl _) (by simp) (by intro d E;simp at E;subst E;simp[Qe,k5]);simp only[List.drop_succ_cons,List.drop_zero]at this;exact this (ih A _ (by omega))
    ·have k6:kd c=6:=by omega
     rw[Jk _ k6];exact herr _ _ _ _ k1 k2 (by omega)
 exact fun A col=>H _ A col (Nat.le_refl _)
theorem Pm:∀A col e,Toks col A=.error e->0<e.2/\col<=e.1/\e.1<=col+A.length:=by
 refine Hi (P:=fun col A r=> ∀e,r=.error e->0<e.2/\col<=e.1/\e.1<=col+A.length) ?_ ?_ ?_ ?_ ?_
 ·intro col e h;cases h
 ·intro col c A _ ih e h
  have:=ih e h;simp only[List.length_cons];omega
 ·intro col c A _ e h
  split at h
  ·have:=Y7 Qe (c::A)
   cases h
   simp only;omega
  ·cases h
 ·intro col c A x _ _ I e h
  cases h;simp only[List.length_cons];omega
 ·intro col c A n k t _ _ _ H E _ ih e h
  cases hr:Toks (col+n) ((c::A).drop n) with
  |ok l=>rw[hr]at h;cases h
  |error x=>
   rw[hr]at h;simp only[Res.after]at h;have:=ih e (by rw[hr];exact h);simp only[List.length_drop,List.length_cons]at this E ⊢;omega
theorem Mh:∀A col l,Toks col A=.ok l->l.length<=A.length/\ ∀t∈l,col<=t.2.2/\t.2.2<col+A.length:=by
 refine Hi (P:=fun col A r=> ∀l,r=.ok l->l.length<=A.length/\ ∀t∈l,col<=t.2.2/\t.2.2<col+A.length) ?_ ?_ ?_ ?_ ?_
 ·intro col l h;cases h;simp
 ·intro col c A _ ih l h
  obtain⟨I,H⟩:=ih l h;simp only[List.length_cons];exact⟨by omega,fun t ht=>by have:=H t ht;omega⟩
 ·intro col c A _ l h
  split at h
  ·cases h
  ·cases h;simp
 ·intro col c A x _ _ E l h;cases h
 ·intro col c A n k t _ _ _ I H _ ih l h
  cases hr:Toks (col+n) ((c::A).drop n) with
  |error x=>rw[hr]at h;cases h
  |ok m=>
   rw[hr]at h;simp only[Res.after,Except.ok.injEq]at h;obtain⟨g1,g2⟩:=ih m hr;simp only[List.length_drop,List.length_cons]at g1 g2 H ⊢;subst h;refine⟨by simp;omega,fun x E=> ?_⟩;simp only[List.singleton_append,List.mem_cons]at E;rcases E with rfl|E
   ·simp only;omega
   ·have:=g2 x E;omega
end LexP
namespace Go.Proofs.YtgfmiladfeoldaaGreatDoor
open Go.RowKit LexP
theorem Nt {l:Qx}{v n:Nat}(h:dec l=some (v,n))(hv:v<128):n=1/\l.take n=[v.toUInt8]:=by
 unfold dec at h;split at h
 ·cases h
 ·rename_i b t
  split at h
  ·cases h
   refine⟨rfl,?_⟩;simp
  split at h
  ·split at h
   ·split at h
    ·rename_i k;simp only[Bool.and_eq_true,decide_eq_true_eq]at k;simp at h;omega
    ·simp at h
   ·cases h
  split at h
  ·split at h
   ·split at h
    ·rename_i k;simp only[Bool.and_eq_true,decide_eq_true_eq]at k;simp at h;omega
    ·simp at h
   ·cases h
  split at h
  ·split at h
   ·split at h
    ·rename_i k;simp only[Bool.and_eq_true,decide_eq_true_eq]at k;simp at h;omega
    ·simp at h
   ·cases h
  ·cases h
theorem Pl:∀l:Qx,∀c∈Qz l,Nr c:=by
 apply Ul
 ·intro c E;simp[Wx]at E
 ·intro l I ih c E
  rw[Zj I]at E;rcases List.mem_cons.1 E with rfl|E
  ·intro K h
   unfold rn at h ⊢;simp only at h ⊢
   cases hd:dec l with
   |none=>simp[val,hd]at h
   |some p=>
    obtain⟨v,n⟩:=p
    have H:val l=some v:=by simp[val,hd]
    have J:wid l=n:=by simp[wid,hd]
    rw[H]at h ⊢;rw[J];exact(Nt hd h).2
  ·exact ih c E
theorem P9 {cs:List C}{i:Nat}{c:C}(h:cs[i]?=some c):cs.drop i=c::cs.drop (i+1):=by
 have E:i<cs.length:=(List.getElem?_eq_some_iff.1 h).1;rw[List.drop_eq_getElem_cons E];have:=List.getElem?_eq_getElem E;rw[h]at this;rw[Option.some.inj this]
theorem Qvg {cs:List C}{i:Nat}{c:C}(h:cs[i]?=some c)(h1:kd c≠1)(h2:kd c≠2):
  ((Xh cs i c).2.2.2≠0->Toks (i+1) (cs.drop i)=.error (i+1,(Xh cs i c).2.2.2))/\
  ((Xh cs i c).2.2.2=0->i<(Xh cs i c).2.2.1/\(Xh cs i c).2.2.1<=cs.length/\
   Toks (i+1) (cs.drop i)=(Toks ((Xh cs i c).2.2.1+1) (cs.drop (Xh cs i c).2.2.1)).after [((Xh cs i c).1,(Xh cs i c).2.1,i+1)]):=by
 have K:i<cs.length:=(List.getElem?_eq_some_iff.1 h).1;have E:=P9 h;have O:=Ks c
 have I:∀p,i+Qp p (cs.drop i)<=cs.length:=fun p=>by have:=Y7 p (cs.drop i);rw[List.length_drop]at this;omega
 by_cases h0:kd c=0
 ·unfold Xh;simp only[h0,if_true]
  exact⟨fun _=>by rw[E,Wl _ h0],fun h=>by simp at h⟩
 by_cases h3:kd c=3
 ·have e:=Wu (c:=c) (cs:=cs.drop (i+1)) (i+1) h3
  rw[<-E]at e
  have J:1<=Qp Qd (cs.drop i):=by rw[E];exact Xy (by simp[Qd,h3])
  unfold Xh;simp only[h3,Nat.reduceEqDiff,if_true,if_false];rw[e];split
  ·exact⟨fun _=>rfl,fun h=>by simp at h⟩
  ·refine⟨fun h=>by simp at h,fun _=>⟨by simp only;omega,I _,?_⟩⟩
   simp only[List.drop_drop];rw[show i+1+Qp Qd (cs.drop i)=i+Qp Qd (cs.drop i)+1 from by omega]
 by_cases h4:kd c=4
 ·have e:=J3 (c:=c) (cs:=cs.drop (i+1)) (i+1) h4
  rw[<-E]at e
  have J:1<=Qp isAl (cs.drop i):=by rw[E];exact Xy (by simp[isAl,h4])
  unfold Xh;simp only[h4,Nat.reduceEqDiff,if_true,if_false];rw[e];split
  ·exact⟨fun _=>rfl,fun h=>by simp at h⟩
  ·refine⟨fun h=>by simp at h,fun _=>⟨by simp only;omega,I _,?_⟩⟩
   simp only[List.drop_drop];rw[show i+1+Qp isAl (cs.drop i)=i+Qp isAl (cs.drop i)+1 from by omega]
 by_cases h5:kd c=5
 ·unfold Xh;simp only[h5,Nat.reduceEqDiff,if_true,if_false]
  refine⟨fun h=>by simp at h,fun _=>⟨by omega,by omega,?_⟩⟩;rw[E,J5 _ h5]
 ·have H:kd c=6:=by omega
  unfold Xh;simp only[H,Nat.reduceEqDiff,if_false];exact⟨fun _=>by rw[E,Jk _ H],fun h=>by simp at h⟩
def M7 (r:Res)(w:World)(e:Ending)(w':World):Prop:=
 ∃v,e=.returned (.tuple #[v,.int .i64 (resCol r:Nat),.int .i64 (resErr r:Nat)])/\w'.ownsRow w.heap.size 119 3 v (Qwq r).length (Xu (Qwq r))/\Below w.heap.size w w'
theorem Tryz.infoTok:(Tryz.prog.info? 119).map (fun i=>(i.zero,i.size,i.bytes))=some (some (.agg #[.int .i64 0,.string ⟨#[]⟩,.int .i64 0]),3,32):=by kernel_rfl
def Qx9 (cs:List C)(w1:World)(v i:Value)(wr:World):Prop:=
 ∃k acc,k<=cs.length/\i=.int .i64 (k:Nat)/\wr.ownsRow w1.heap.size 119 3 v acc.length (Xu acc)/\Below w1.heap.size w1 wr/\
  Toks 1 cs=(Toks (k+1) (cs.drop k)).after acc/\acc.length<=k
theorem Zl {r:Res}{w w':World}{x y:Value}(c e:Nat)(hx:x=.int .i64 (c:Nat))(hy:y=.int .i64 (e:Nat))(h:r=.error (c,e))(hb:Below w.heap.size w w'):M7 r w (.returned (.tuple #[.slice none 0 0,x,y])) w':=by
 subst h hx hy;exact⟨_,rfl,World.ownsRow_nil _ _ _ _,hb⟩
theorem Ro {r:Res}{w w':World}{v:Value}{l:List Tok}(h:r=.ok l)(ho:w'.ownsRow w.heap.size 119 3 v l.length (Xu l))(hb:Below w.heap.size w w'):M7 r w (.returned (.tuple #[v,.int .i64 0,.int .i64 0])) w':=by
 subst h;exact⟨_,rfl,ho,hb⟩
theorem J9 {r:Res}{acc:List Tok}{e:Nat×Nat}(h:r=.error e):r.after acc=.error e:=by subst h;rfl
theorem Sy {r:Res}{acc:List Tok}(h:r=.ok []):r.after acc=.ok acc:=by subst h;simp[Res.after]
theorem Ku (s:ByteArray)(w:World)(hs:s.size<=67108864)(hx:Lx w):
  Calls Tryz.prog 90 #[.string s] w (M7 (Toks 1 (Qz s.data.toList)) w):=by
 obtain⟨i0,hi,hz0,hz1,hz2⟩:=info_parts Tryz.infoTok;have HX:=zq hx;have HMK:=zq (Pl s.data.toList)
 have hn:(Qz s.data.toList).length<=67108864:=by have:=Yq s.data.toList;rw[<-Lib.size_eq]at this;omega
 clear hx;go_enter Tryz.func90,Tryz.ntmps90;go_wp2_with fail;refine(Fi s _ hs).mono ?_;rintro e w1 ⟨v,rfl,hown,hbel⟩;have HR:Hid (RdCh w1 v (Qz s.data.toList)):=X4 hown (Nat.zero_le _);have HB:=zq hbel;have hsz:=hbel.size;clear hown hbel;obtain⟨ao,cap,hv,hnc,hcm,hsh⟩:=HR.o.shape;have HSH:=zq hsh;clear hsh hcm;subst hv;go_wp2_with fail;go_loopw [2,6] (fun v i wr=>Qx9 (Qz s.data.toList) w1 v i wr) (fun _ i _=>(Qz s.data.toList).length-(intOf i).toNat)
 case atStart=>exact⟨0,[],Nat.zero_le _,rfl,World.ownsRow_nil _ _ _ _,Below.refl _ _,by simp[Res.after_nil],Nat.le_refl _⟩
 case round=>
  obtain⟨k,acc,hk,rfl,hown,hb,htk,hal⟩:=hrel;have HTK:=zq htk;have HB2:Hid (Below w.heap.size w wr):=HB.o.trans (hb.mono HB.o.size);have hzz:=hb.size;clear htk;by_cases hlt:k<(Qz s.data.toList).length
  ·obtain⟨c,hc⟩:∃c,(Qz s.data.toList)[k]?=some c:=⟨_,List.getElem?_eq_getElem hlt⟩
   obtain⟨g,rfl,hgs,e1,e2,e3⟩:=HSH.o _ c hc;rw[<-hb.cell (p:=⟨g,_,none⟩) hgs]at e1 e2 e3;have HC:=zq hc;have HD:=zq (P9 hc);clear hc HSH;by_cases hk1:kd c=1
   ·have HE:Hid (Toks (k+1) ((Qz s.data.toList).drop k)=Toks (k+1+1) ((Qz s.data.toList).drop (k+1))):=by show _=_;rw[HD.o,Z9 _ hk1]
    rw[hk1]at e1;clear hk1;go_wp2_with fail;have hfin:Qx9 (Qz s.data.toList) w1 u2 (.int .i64 (k+1)) wr:=⟨k+1,acc,by omega,by go_num,hown,hb,by rw[HTK.o,HE.o],by omega⟩
    first|exact⟨hfin,by simp[intOf];omega⟩|exact⟨by (repeat apply Exists.intro);exact⟨hfin,rfl⟩,by simp[intOf];omega⟩
   by_cases hk2:kd c=2
   ·have HE:=zq (J6 (cs:=(Qz s.data.toList).drop (k+1)) (k+1) hk2)
    rw[<-HD.o]at HE;have hle:=Y7 Qe ((Qz s.data.toList).drop k);rw[List.length_drop]at hle;rw[hk2]at e1;clear hk1 hk2;go_wp2_with fail;refine(Ei _ Qe Em _ (Qz s.data.toList) k _ (HR.o.below hb) hk).mono ?_;rintro e w2 ⟨rfl,hb2⟩;by_cases hl2:k+Qp Qe ((Qz s.data.toList).drop k)<(Qz s.data.toList).length
    ·go_wp2_with fail
     go_ret3
     exact Zl (k+1+Qp Qe ((Qz s.data.toList).drop k)) 12 (by show Value.int .i64 _=_;congr 1;omega) rfl
      (HTK.o.trans (J9 (HE.o.trans (if_pos (by rw[List.length_drop];omega))))) (HB2.o.trans (hb2.mono HB2.o.size))
    ·go_wp2_with fail
     have hfin:Qx9 (Qz s.data.toList) w1 u2 (.int .i64 (↑k+ ↑(Qp Qe ((Qz s.data.toList).drop k)))) w2:=by
      refine⟨k+Qp Qe ((Qz s.data.toList).drop k),acc,by omega,by go_num,Qh hown hb2 (Nat.le_refl _),hb.trans (hb2.mono hzz),?_,by omega⟩;have hdn:List.drop (k+Qp Qe ((Qz s.data.toList).drop k)) (Qz s.data.toList)=[]:=List.drop_eq_nil_of_le (by omega);rw[hdn,Zu,HTK.o,HE.o,if_neg (by rw[List.length_drop];omega)]
     have hrun:1<=Qp Qe ((Qz s.data.toList).drop k):=by omega
     first|exact⟨hfin,by simp[intOf];omega⟩|exact⟨by (repeat apply Exists.intro);exact⟨hfin,rfl⟩,by simp[intOf];omega⟩
   ·have HN:=Qvg HC.o hk1 hk2
    have HNE:=zq HN.1;have HNO:=zq HN.2;have HMC:=HMK.o c (List.mem_of_getElem? HC.o)
    have n1:((kd c:Int)==1)=false:=by simp;omega
    have n2:((kd c:Int)==2)=false:=by simp;omega
    clear HN;go_wp2_with fail;refine(Qk7 s _ k c _ (HR.o.below hb) HC.o hs hk1 hk2 HMC (HX.o.below HB2.o)).mono ?_;rintro e w2 ⟨rfl,hb2⟩;generalize Xh (Qz s.data.toList) k c=nr at*;obtain⟨k3,t3,j3,e3⟩:=nr;simp only at HNE HNO ⊢;clear HMC hk1 hk2 n1 n2 e1 e2 HD HC;by_cases he:e3=0
    ·subst he
     obtain⟨hj1,hj2,hj3⟩:=HNO.o rfl;have HJ:=zq hj3;have q0:=Qh hown hb2 (Nat.le_refl _);have hzw2:=hb2.size;clear hj3 HNE HNO;go_wp2_with (at_builtin;refine wpList_append_own _ rfl _ _ 83 rfl w1.heap.size 119 i0 (.agg #[.int .i64 0,.string ⟨#[]⟩,.int .i64 0]) 3 32 Tryz.underlying83 hi hz0 hz1 hz2 rfl (by decide) _ _ _ rfl ((q0.alloc _).alloc _) ⟨w2.heap.size+1,0,none⟩ 1 1 (Xu [(k3,t3,k+1)]) rfl rfl ?c1 ?c2 ?c3 ?c4 ?c5 ?_)
     case c1=>exact Qb _ _ _ _ (by simp)
     case c2=>intro u hu;simp[Xu]at hu;rcases hu with rfl|rfl|rfl<;>rfl
     case c3=>unfold maxLen;omega
     case c4=>omega
     case c5=>simp;omega
     intro v' w3 hown3 hgrow3 _
     have HO3:Hid (w3.ownsRow w1.heap.size 119 3 v' (acc++[(k3,t3,k+1)]).length (Xu (acc++[(k3,t3,k+1)]))):=by
      show World.ownsRow _ _ _ _ _ _ _;rw[Ji,List.length_append];exact hown3
     have HB3:Hid (Below w1.heap.size w1 w3):=Below.grown ((((hb.trans (hb2.mono hzz)).alloc (by omega) _).alloc (by simp;omega) _)) hgrow3 (by simp;omega) (fun k hk=>(q0.lt k hk).1);clear hown3 hgrow3 q0 hown;go_wp2_with fail;have hfin:Qx9 (Qz s.data.toList) w1 v' (.int .i64 ↑j3) w3:=⟨j3,acc++[(k3,t3,k+1)],hj2,rfl,HO3.o,HB3.o,by rw[HTK.o,HJ.o,Res.after_after],by simp;omega⟩
     first|exact⟨hfin,by simp[intOf];omega⟩|exact⟨by (repeat apply Exists.intro);exact⟨hfin,rfl⟩,by simp[intOf];omega⟩
    ·have he2:((e3:Int) !=0)=true:=by simp;omega
     go_wp2_with fail;go_ret3;exact Zl (k+1) e3 (by show Value.int .i64 _=_;congr 1) rfl (HTK.o.trans (J9 (HNE.o he))) ((HB2.o.trans (hb2.mono HB2.o.size)).alloc (by have:=hb2.size;have:=HB2.o.size;omega) _)
  ·go_wp2_with fail
   go_ret3;refine Ro (HTK.o.trans (Sy ?_)) (X4 hown HB.o.size) HB2.o;rw[List.drop_of_length_le (by omega),Zu]
open Go.ChangeShapes Go.WideShapes Go.ChangeAt
theorem own:ownKnob Tryz.prog.godebug=none:=by kernel_rfl
theorem Qwj : Tryz.prog.globalNamed "trellis/radix.signs" = some 4 := by kernel_rfl
theorem Qmn:(Tryz.prog.globals[4]?).map (·.type)=some 258:=by kernel_rfl
theorem Qm8:Tryz.prog.underlying 258=some (.array 36 5):=by kernel_rfl
theorem uU8:Tryz.prog.underlying 5=some (.int .u8):=by kernel_rfl
theorem cU8:Tryz.prog.cellsOf 5=1:=by kernel_rfl
theorem Qhz:Tryz.prog.cellsOf 258=36:=by kernel_rfl
def Qwx:List Int:=[48,49,50,51,52,53,54,55,56,57,97,98,99,100,101,102,103,104,105,106,107,108,109,110,111,112,113,114,115,116,117,118,119,120,121,122]
def Qmq : List (String × DataW Unit) := [("trellis/radix.signs", Rows.laid_trellis_radix_signs)]
theorem Es {w:World}(h:w.ShapedOpen Tryz.prog):Lx w:=
 Go.Proofs.cell_of_shapedOpen_int (zero:= #[.int .i64 0]) (t:=3) h (of_decide_eq_true (by kernel_rfl)) (by kernel_rfl) rfl (by kernel_rfl) (by kernel_rfl) (by kernel_rfl)
theorem Qqd {w:World}(h:laidMetH Tryz.prog Qmq w):SG w/\4<w.heap.size:=by
 rw[MakeChecks.laidMetH_plain _ _ _ (by kernel_rfl)]at h
 have H : Lib.TabIs Tryz.prog w "trellis/radix.signs" .u8 Qwx := Lib.tabIs_of_head (zs := Qwx) Qwj Qmn Qm8 uU8 cU8 Qhz h
 have E:SG w:=by
  intro d J;have I:=World.var?_cell Qwj H d;rw[I]
  match d,J with
  |0,_=>rfl
  |1,_=>rfl
  |2,_=>rfl
  |3,_=>rfl
  |4,_=>rfl
  |5,_=>rfl
  |6,_=>rfl
  |7,_=>rfl
  |8,_=>rfl
  |9,_=>rfl
 exact⟨E,World.block_lt_of_cell? w _ (E 0 (by omega))⟩
theorem bulk {H:Type}{l:List (DataW H)}(hk:Rows.uptoSmall H l=true):Rows.uptoBulkAll l<=1048576:=of_decide_eq_true hk
def Cr : List (String × DataW Unit) := [("math/bits.deBruijn32tab", Rows.laid_math_bits_deBruijn32tab), ("math/bits.deBruijn64tab", Rows.laid_math_bits_deBruijn64tab), ("internal/strconv.uint64pow10", Rows.laid_internal_strconv_uint64pow10), ("trellis/radix.signs", Rows.laid_trellis_radix_signs)]
theorem Cg {w:World}(h:laidMetH Tryz.prog Cr w):SG w/\4<w.heap.size:=by
 rw[MakeChecks.laidMetH_plain _ _ _ (by kernel_rfl)]at h
 have E:laidMetH Tryz.prog Qmq w:=by
  rw[MakeChecks.laidMetH_plain _ _ _ (by kernel_rfl)];exact h.tail.tail.tail
 exact Qqd E
def Qhx:DataW Unit->Value
 | .lit (.int k z)=> .int k z
 |_=>undef
def Qpt:DataW Unit->Array Value
 | .agg l=>(l.map Qhx).toArray
 |_=> #[]
def Mo (d:DataW Unit):Obj->Obj
 | .cells _ t frozen=> .cells (Qpt d) t frozen
 |o=>o
noncomputable def Tk (os:Os):World:=
 {World.holding Tryz.prog os ⟨#[],#[],[]⟩ with heap:=((((World.holding Tryz.prog os ⟨#[],#[],[]⟩).heap.modify 4 (Mo Rows.laid_trellis_radix_signs)).modify 0 (Mo Rows.laid_internal_strconv_uint64pow10)).modify 3 (Mo Rows.laid_math_bits_deBruijn64tab)).modify 2 (Mo Rows.laid_math_bits_deBruijn32tab)}
theorem Qj8 (os:Os)(args:Array Value):laidMetH Tryz.prog Cr ((Tk os).forCall (fun _ _=>0) ⟨#[],args,[]⟩).memory:=by
 rw[MakeChecks.laidMetH_plain _ _ _ (by kernel_rfl)];exact laidMet_of_run' 8 (by kernel_rfl) (by kernel_rfl)
end Go.Proofs.YtgfmiladfeoldaaGreatDoor
