import Derived.Test.YtgfmiladfeoldaaGreatDoorPk4
import Derived.Test.YtgfmiladfeoldaaGreatDoorRows
import Derived.ShutString
import Derived.HandedShaped
import Derived.Deep.DeepHandedRow
import Derived.MakeChecks
import Derived.Stop.LaidErr
set_option linter.unusedSimpArgs false
set_option linter.unusedVariables false
set_option maxRecDepth 100000
set_option maxHeartbeats 16000000
namespace Go.Proofs.YtgfmiladfeoldaaGreatDoor
open Go.RowKit ag
theorem Qcv {W w1:World}(hb:Below W.heap.size W w1):(∀b o,b<W.heap.size->w1.cell? ⟨b,o,none⟩=W.cell? ⟨b,o,none⟩)/\(∀b o,b<W.heap.size->w1.frozen? ⟨b,o,none⟩=W.frozen? ⟨b,o,none⟩):=
 ⟨fun b o h=>hb.cell (p:=⟨b,o,none⟩) h,fun b o h=>hb.frozen (p:=⟨b,o,none⟩) h⟩
theorem T6 (l:Bytes)(i n:Nat):(Qk (((Qx l).drop i).take n)).length<=l.length:=by
 have E:=Wg ((Qx l).drop i) n
 have h:(Qk ((Qx l).drop i)).length<=(Qk (Qx l)).length:=by
  have:Qk ((Qx l).take i)++Qk ((Qx l).drop i)=Qk (Qx l):=by simp only[Qk];rw[<-ad7,adA]
  rw[<-this,aac];omega
 rw[Yp]at h;omega
def Lx (w:World):Prop:=∃m,w.cell? ⟨1,0,none⟩=some (.int .i64 m)
theorem Lx.lt {w:World}(h:Lx w):1<w.heap.size:=by obtain⟨m,h⟩:=h;exact adu w _ h
theorem Lx.below {w w':World}(h:Lx w)(hb:Below w.heap.size w w'):Lx w':=by have:=h.lt;obtain⟨m,h⟩:=h;exact⟨m,by rw[hb.cell (p:=⟨_,_,_⟩) this];exact h⟩
theorem Kp (s sub:ByteArray)(w:World)(hs:s.size<=67108864)(hx:Lx w):Calls Tryz.prog 205 #[.string s,.string sub] w fun e w'=>e=.returned (.bool (Lib.contains s.data.toList sub.data.toList))/\w'=w:=by obtain⟨m,h⟩:=hx;exact Tryz.strings_Contains s sub m w (by omega) h
theorem Qmy (s:ByteArray)(v:Value)(i:Nat)(c:C)(w:World)(hr:iJ w v (Qx s.data.toList))(hc:(Qx s.data.toList)[i]?=some c)(hs:s.size<=67108864)(hk:kd c=3)(hx:Lx w):Calls Tryz.prog 158 #[.string s,v,.int .i64 (i:Nat)] w (Sj (Xy (Qx s.data.toList) i c) i w):=by
 have hn:(Qx s.data.toList).length<=67108864:=by have:=Ym s.data.toList;rw[<-abg]at this;omega
 have hlt:i<(Qx s.data.toList).length:=(aae.1 hc).1;have HR:=zq hr;have HX:=zq hx
 have hp:1<=Qp Ql ((Qx s.data.toList).drop i):=by rw[aaS hlt];have:=aad hlt;rw[hc]at this;obtain rfl:=aax this;exact Xv (by simp[Ql,hk])
 have hq:i+Qp Ql ((Qx s.data.toList).drop i)<=(Qx s.data.toList).length:=by have:=Zq Ql ((Qx s.data.toList).drop i);rw[aag]at this;omega
 obtain⟨ao,cap,hv,bq,hcm,aU⟩:=hr.shape;obtain⟨g,hao,lD,e1,e2,e3⟩:=aU _ c hc;subst hao
 have hT:(Qk (((Qx s.data.toList).drop i).take (Qp Ql ((Qx s.data.toList).drop i)))).length<=67108864:=by have:=T6 s.data.toList i (Qp Ql ((Qx s.data.toList).drop i));rw[<-abg]at this;omega
 obtain⟨res,hres⟩:=xq (Xy (Qx s.data.toList) i c);rw[<-hres]
 have mW:Xy (Qx s.data.toList) i c=(1,Qk (((Qx s.data.toList).drop i).take (Qp Ql ((Qx s.data.toList).drop i))),if Jf (Qk (((Qx s.data.toList).drop i).take (Qp Ql ((Qx s.data.toList).drop i)))) then (i,7) else (i+Qp Ql ((Qx s.data.toList).drop i),0)):=by unfold Xy;simp[hk]
 rw[mW]at hres;obtain⟨m,eJ⟩:∃m,Qp Ql ((Qx s.data.toList).drop i)=m:=⟨_,rfl⟩;rw[eJ]at hres hT hq hp;obtain⟨T,vp⟩:∃T,Qk (((Qx s.data.toList).drop i).take m)=T:=⟨_,rfl⟩;rw[vp]at hres hT;have HM:=zq eJ;have HT:=zq vp;have dy:=zq hres
 have fL:(⟨T.toArray⟩:ByteArray).size<=67108864:=by rw[abg];simpa using hT
 rw[hk]at e1;subst hv;clear hres mW eJ vp hk hc aU hr hx hcm;go_enter Tryz.func158,Tryz.ntmps158;go_wp2_with fail;refine(Az _ Ql Qx9 _ (Qx s.data.toList) i _ (HR.o.below ?_) (by omega)).mono ?_
 ·go_grown
 rintro e w1 ⟨rfl,hb1⟩;rw[HM.o];go_wp2_with fail;refine(Qzx s _ i (i+m) w1 ((HR.o.below ?_).below hb1) (by omega) hq hs).mono ?_
 ·go_grown
 rintro e w2 ⟨rfl,nn,hw2⟩;rw[Nat.add_sub_cancel_left,HT.o];have hb2:=below_drewN hb1 nn;rw[<-hw2]at hb2;clear hw2 hb1 HR e1 e2 e3 HM HT;have hB:Below w.heap.size w w2:=Below.trans (by go_grown) (hb2.mono (by simp;omega));obtain⟨hcc,hff⟩:=Qcv hb2;have hz:=hb2.size;simp only[adB]at hz hcc hff;have q0:w2.cell? ⟨w.heap.size,0,none⟩=some (.int .i64 0):=(hcc _ _ (by omega)).trans (by simp[go_sem]);have q1:w2.cell? ⟨w.heap.size,1,none⟩=some (.string ⟨#[]⟩):=(hcc _ _ (by omega)).trans (by simp[go_sem]);have q2:w2.cell? ⟨w.heap.size,2,none⟩=some (.int .i64 0):=(hcc _ _ (by omega)).trans (by simp[go_sem]);clear hb2
 cases h1:Lib.hasSuffix T [95] with
 |true=>
  have H1:=zq h1
  have bU:Hid ((if Jf T=true then (i,7) else (i+m,0))=(i,7)):=by show _=_;simp[Jf,h1]
  clear h1;go_wp2_with (go_at_call 204;refine(Tryz.strings_HasSuffix _ _ _ (by omega)).mono ?_;rintro e w' ⟨rfl,rfl⟩;simp only[H1.o]);have HB:=bU.o
  refine aaI (v:=.tuple #[.agg #[.int .i64 1,.string ⟨T.toArray⟩,.int .i64 (↑i+1)],.int .i64 ↑i,.int .i64 7]) (by simp[results,Tryz.results158,go_sem,q0,q1,q2]) rfl (Jo _ _ _ _ _ (by rw[dy.o]<;>rfl) (by rw[dy.o]) (by first|rfl|simp) (by rw[dy.o,HB]<;>first|rfl|simp) (by rw[dy.o,HB]<;>first|rfl|simp) ?_)
  go_grown
 |false=>
  have H1:=zq h1
  cases h2:Lib.contains T [95,95] with
  |true=>
   have H2:=zq h2
   have bU:Hid ((if Jf T=true then (i,7) else (i+m,0))=(i,7)):=by show _=_;simp[Jf,h2]
   clear h1 h2;go_wp2_with (first|(go_at_call 204;refine(Tryz.strings_HasSuffix _ _ _ (by omega)).mono ?_;rintro e w' ⟨rfl,rfl⟩;simp only[H1.o])|(go_at_call 205;refine(Kp _ _ _ fL (HX.o.below (by go_grown))).mono ?_;rintro e w' ⟨rfl,rfl⟩;simp only[H2.o]));have HB:=bU.o
   refine aaI (v:=.tuple #[.agg #[.int .i64 1,.string ⟨T.toArray⟩,.int .i64 (↑i+1)],.int .i64 ↑i,.int .i64 7]) (by simp[results,Tryz.results158,go_sem,q0,q1,q2]) rfl (Jo _ _ _ _ _ (by rw[dy.o]<;>rfl) (by rw[dy.o]) (by first|rfl|simp) (by rw[dy.o,HB]<;>first|rfl|simp) (by rw[dy.o,HB]<;>first|rfl|simp) ?_)
   go_grown
  |false=>
   have H2:=zq h2
   have bU:Hid ((if Jf T=true then (i,7) else (i+m,0))=(i+m,0)):=by show _=_;simp[Jf,h1,h2]
   clear h1 h2;go_wp2_with (first|(go_at_call 204;refine(Tryz.strings_HasSuffix _ _ _ (by omega)).mono ?_;rintro e w' ⟨rfl,rfl⟩;simp only[H1.o])|(go_at_call 205;refine(Kp _ _ _ fL (HX.o.below (by go_grown))).mono ?_;rintro e w' ⟨rfl,rfl⟩;simp only[H2.o]));have HB:=bU.o
   refine aaI (v:=.tuple #[.agg #[.int .i64 1,.string ⟨T.toArray⟩,.int .i64 (↑i+1)],.int .i64 (↑i+ ↑m),.int .i64 0]) (by simp[results,Tryz.results158,go_sem,q0,q1,q2]) rfl (Jo _ _ _ _ _ (by rw[dy.o]<;>rfl) (by rw[dy.o]) (by first|rfl|simp) (by rw[dy.o,HB]<;>first|rfl|simp) (by rw[dy.o,HB]<;>first|rfl|simp) ?_)
   go_grown
theorem Qyw (s:ByteArray)(v:Value)(i:Nat)(c:C)(w:World)(hr:iJ w v (Qx s.data.toList))(hc:(Qx s.data.toList)[i]?=some c)(hs:s.size<=67108864)(hk:kd c=4)(hx:Lx w):Calls Tryz.prog 158 #[.string s,v,.int .i64 (i:Nat)] w (Sj (Xy (Qx s.data.toList) i c) i w):=by
 have hn:(Qx s.data.toList).length<=67108864:=by have:=Ym s.data.toList;rw[<-abg]at this;omega
 have hlt:i<(Qx s.data.toList).length:=(aae.1 hc).1;have HR:=zq hr;have HX:=zq hx
 have hp:1<=Qp aL ((Qx s.data.toList).drop i):=by rw[aaS hlt];have:=aad hlt;rw[hc]at this;obtain rfl:=aax this;exact Xv (by simp[aL,hk])
 have hq:i+Qp aL ((Qx s.data.toList).drop i)<=(Qx s.data.toList).length:=by have:=Zq aL ((Qx s.data.toList).drop i);rw[aag]at this;omega
 obtain⟨ao,cap,hv,bq,hcm,aU⟩:=hr.shape;obtain⟨g,hao,lD,e1,e2,e3⟩:=aU _ c hc;subst hao
 have hT:(Qk (((Qx s.data.toList).drop i).take (Qp aL ((Qx s.data.toList).drop i)))).length<=67108864:=by have:=T6 s.data.toList i (Qp aL ((Qx s.data.toList).drop i));rw[<-abg]at this;omega
 obtain⟨res,hres⟩:=xq (Xy (Qx s.data.toList) i c);rw[<-hres]
 have mW:Xy (Qx s.data.toList) i c=(2,Qk (((Qx s.data.toList).drop i).take (Qp aL ((Qx s.data.toList).drop i))),if 32<(Qk (((Qx s.data.toList).drop i).take (Qp aL ((Qx s.data.toList).drop i)))).length then (i,17) else (i+Qp aL ((Qx s.data.toList).drop i),0)):=by unfold Xy;simp[hk]
 rw[mW]at hres;obtain⟨m,eJ⟩:∃m,Qp aL ((Qx s.data.toList).drop i)=m:=⟨_,rfl⟩;rw[eJ]at hres hT hq hp;obtain⟨T,vp⟩:∃T,Qk (((Qx s.data.toList).drop i).take m)=T:=⟨_,rfl⟩;rw[vp]at hres hT;have HM:=zq eJ;have HT:=zq vp;have dy:=zq hres
 have fL:(⟨T.toArray⟩:ByteArray).size<=67108864:=by rw[abg];simpa using hT
 rw[hk]at e1;subst hv;clear hres mW eJ vp hk hc aU hr hx hcm;go_enter Tryz.func158,Tryz.ntmps158;go_wp2_with fail;refine(Az _ aL Qvd _ (Qx s.data.toList) i _ (HR.o.below ?_) (by omega)).mono ?_
 ·go_grown
 rintro e w1 ⟨rfl,hb1⟩;rw[HM.o];go_wp2_with fail;refine(Qzx s _ i (i+m) w1 ((HR.o.below ?_).below hb1) (by omega) hq hs).mono ?_
 ·go_grown
 rintro e w2 ⟨rfl,nn,hw2⟩;rw[Nat.add_sub_cancel_left,HT.o];have hb2:=below_drewN hb1 nn;rw[<-hw2]at hb2;clear hw2 hb1 HR e1 e2 e3 HM HT;have hB:Below w.heap.size w w2:=Below.trans (by go_grown) (hb2.mono (by simp;omega));obtain⟨hcc,hff⟩:=Qcv hb2;have hz:=hb2.size;simp only[adB]at hz hcc hff;have q0:w2.cell? ⟨w.heap.size,0,none⟩=some (.int .i64 0):=(hcc _ _ (by omega)).trans (by simp[go_sem]);have q1:w2.cell? ⟨w.heap.size,1,none⟩=some (.string ⟨#[]⟩):=(hcc _ _ (by omega)).trans (by simp[go_sem]);have q2:w2.cell? ⟨w.heap.size,2,none⟩=some (.int .i64 0):=(hcc _ _ (by omega)).trans (by simp[go_sem]);clear hb2
 have hsz:(⟨T.toArray⟩:ByteArray).size=T.length:=by rw[abg]
 have dN:=zq hsz;clear hsz;by_cases h1:32<T.length
 ·have bU:Hid ((if 32<T.length then (i,17) else (i+m,0))=(i,17)):=by show _=_;rw[if_pos h1]
  have h3:(32:Int)<((⟨T.toArray⟩:ByteArray).size:Int):=by rw[dN.o];omega
  go_wp2;have HB:=bU.o
  refine aaI (v:=.tuple #[.agg #[.int .i64 2,.string ⟨T.toArray⟩,.int .i64 (↑i+1)],.int .i64 ↑i,.int .i64 17]) (by simp[results,Tryz.results158,go_sem,q0,q1,q2]) rfl (Jo _ _ _ _ _ (by rw[dy.o]<;>rfl) (by rw[dy.o]) (by first|rfl|simp) (by rw[dy.o,HB]<;>first|rfl|simp) (by rw[dy.o,HB]<;>first|rfl|simp) ?_)
  go_grown
 have bU:Hid ((if 32<T.length then (i,17) else (i+m,0))=(i+m,0)):=by show _=_;rw[if_neg h1]
 have h3: ¬(32:Int)<((⟨T.toArray⟩:ByteArray).size:Int):=by rw[dN.o];omega
 go_wp2;have HB:=bU.o
 refine aaI (v:=.tuple #[.agg #[.int .i64 2,.string ⟨T.toArray⟩,.int .i64 (↑i+1)],.int .i64 (↑i+ ↑m),.int .i64 0]) (by simp[results,Tryz.results158,go_sem,q0,q1,q2]) rfl (Jo _ _ _ _ _ (by rw[dy.o]<;>rfl) (by rw[dy.o]) (by first|rfl|simp) (by rw[dy.o,HB]<;>first|rfl|simp) (by rw[dy.o,HB]<;>first|rfl|simp) ?_)
 go_grown
theorem Qmw (s:ByteArray)(v:Value)(i:Nat)(c:C)(w:World)(hr:iJ w v (Qx s.data.toList))(hc:(Qx s.data.toList)[i]?=some c)(hs:s.size<=67108864)(h1:kd c≠1)(h2:kd c≠2)(vd:N9 c)(hx:Lx w):Calls Tryz.prog 158 #[.string s,v,.int .i64 (i:Nat)] w (Sj (Xy (Qx s.data.toList) i c) i w):=by
 have E:=Gn c
 have h:(Qx s.data.toList).length<=67108864:=by have:=Ym s.data.toList;rw[<-abg]at this;omega
 by_cases h3:kd c=3
 ·exact Qmy s v i c w hr hc hs h3 hx
 by_cases h4:kd c=4
 ·exact Qyw s v i c w hr hc hs h4 hx
 exact Qj0 s v _ i c w hr hc h (by omega) vd
end Go.Proofs.YtgfmiladfeoldaaGreatDoor
namespace ag
theorem Qqa (v:Nat)(t:Bytes):Qe (some v,t)=true:=by have:=(Tc v).1;simp[Qe,kd];omega
theorem Kd (t:Bytes):Qe (none,t)=false:=by simp[Qe,kd]
theorem K0:∀(a b:Bytes),(Qx a).all Qe=true->Qx (a++b)=Qx a++Qx b:=by
 intro a b;revert a;apply Wm
 ·intro _;simp[Zf]
 intro l K ih h;have H:=Ye K;rw[H]at h;simp only[List.all_cons,aaY]at h
 cases hd:dec l with
 |none=>simp[val,hd,Kd]at h
 |some p=>
  obtain⟨v,n⟩:=p
  have J:wid l=n:=by simp[wid,hd]
  have I:=Wh hd;have E:=Pq (Qz6 hd b);rw[List.drop_append_of_le_length I.2.1,List.take_append_of_le_length I.2.1]at E;rw[E,H,J];rw[J]at ih h;rw[ih h.2];simp[val,hd]
theorem Ug {g:UInt8}(hg:g.toNat<0x80)(b:Bytes):Qx (g::b)=(some g.toNat,[g])::Qx b:=by
 have h:dec (g::b)=some (g.toNat,1):=by simp[dec,hg]
 rw[Pq h];rfl
end ag
namespace ag
def Ui:ep->List Tok| .ok l=>l| .error _=>[]
def fQ:ep->Nat| .ok _=>0| .error e=>e.1
def dY:ep->Nat| .ok _=>0| .error e=>e.2
theorem Jy {p:C->Bool}(l:List C):∀c∈l.take (Qp p l),p c=true:=by
 have H:l.take (Qp p l)=l.takeWhile p:=by
  unfold Qp
  induction l with
  |nil=>rfl
  |cons d l ih=>
   by_cases h:p d=true
   ·simp[h,ih]
   simp[h]
 intro c E;rw[H]at E
 have:∀(l:List C),∀c∈l.takeWhile p,p c=true:=by
  intro l
  induction l with
  |nil=>intro c E;simp at E
  |cons d l ih=>
   intro c E;rw[List.takeWhile_cons]at E;split at E
   ·rename_i h
    rcases abY.1 E with rfl|E
    ·exact h
    exact ih c E
   simp at E
 exact this l c E
theorem Hl {P:Nat->List C->ep->Prop}(h0:∀col,P col [] (.ok []))
  (BW:∀col c A,kd c=1->P (col+1) A (aw (col+1) A)->P col (c::A) (aw (col+1) A))
  (MS:∀col c A,kd c=2->P col (c::A) (if Qp Qe (c::A)<(c::A).length then .error (col+Qp Qe (c::A),12) else .ok []))
  (xf:∀col c A e,kd c≠1->kd c≠2->0<e->P col (c::A) (.error (col,e)))
  (DM:∀col c A n k t,kd c≠0->kd c≠1->kd c≠2->1<=n->n<=(c::A).length->(∀d∈(c::A).take n,Qe d=true)->P (col+n) ((c::A).drop n) (aw (col+n) ((c::A).drop n))->P col (c::A) ((aw (col+n) ((c::A).drop n)).after [(k,t,col)])):
  ∀A col,P col A (aw col A):=by
 have J:∀n A col,A.length<=n->P col A (aw col A):=by
  intro n
  induction n with
  |zero=>
   intro A col K;obtain rfl:A=[]:=aaq (by omega)
   exact h0 col
  |succ n ih=>
   intro A col K
   cases A with
   |nil=>exact h0 col
   |cons c A=>
    simp only[aaf]at K;have O:=Gn c;by_cases k0:kd c=0
    ·rw[Ws _ k0];exact xf _ _ _ _ (by omega) (by omega) (by omega)
    by_cases k1:kd c=1
    ·rw[Zr _ k1];exact BW _ _ _ k1 (ih A _ (by omega))
    by_cases k2:kd c=2
    ·rw[Vj _ k2];exact MS _ _ _ k2
    by_cases k3:kd c=3
    ·have H:=Xv (p:=Ql) (c:=c) (cs:=A) (by simp[Ql,k3])
     have I:=Zq Ql (c::A);rw[Vd _ k3];split
     ·exact xf _ _ _ _ k1 k2 (by omega)
     refine DM _ _ _ _ _ _ k0 k1 k2 H I ?_ (ih _ _ (by simp only[aag,aaf];omega));intro d E;have:=Jy _ d E;unfold Ql at this;unfold Qe;simp only[aep,adN]at this;rcases this with h|h
     ·simp[h]
     unfold rn at h;unfold kd;split at h
     ·rename_i v T
      have:=(Tc v).1;simp;omega
     omega
    by_cases k4:kd c=4
    ·have H:=Xv (p:=aL) (c:=c) (cs:=A) (by simp[aL,k4])
     have I:=Zq aL (c::A);rw[Vv _ k4];split
     ·exact xf _ _ _ _ k1 k2 (by omega)
     refine DM _ _ _ _ _ _ k0 k1 k2 H I ?_ (ih _ _ (by simp only[aag,aaf];omega));intro d E;have:=Jy _ d E;unfold aL at this;unfold Qe;simp only[aep,adN]at this
     rcases this with h|h<;>simp[h]
    by_cases k5:kd c=5
    ·rw[Jr _ k5]
     have:=DM col c A 1 3 (Zc c) k0 k1 k2 (aaa _) (by simp) (by intro d E;simp at E;subst E;simp[Qe,k5]);simp only[List.drop_succ_cons,adq]at this;exact this (ih A _ (by omega))
    have k6:kd c=6:=by omega
    rw[Jh _ k6];exact xf _ _ _ _ k1 k2 (by omega)
 exact fun A col=>J _ A col (aaa _)
theorem Sv:∀A col e,aw col A=.error e->0<e.2/\col<=e.1/\e.1<=col+A.length:=by
 refine Hl (P:=fun col A r=> ∀e,r=.error e->0<e.2/\col<=e.1/\e.1<=col+A.length) ?_ ?_ ?_ ?_ ?_
 ·intro col e h;cases h
 ·intro col c A _ ih e h
  have:=ih e h;simp only[aaf];omega
 ·intro col c A _ e h
  split at h
  ·have:=Zq Qe (c::A)
   cases h
   simp only;omega
  cases h
 ·intro col c A x _ _ I e h
  cases h;simp only[aaf];omega
 intro col c A n k t _ _ _ H E _ ih e h
 cases hr:aw (col+n) ((c::A).drop n) with
 |ok l=>rw[hr]at h;cases h
 |error x=>rw[hr]at h;simp only[ep.after]at h;have:=ih e (by rw[hr];exact h);simp only[aag,aaf]at this E ⊢;omega
theorem Kv:∀A col l,aw col A=.ok l->l.length<=A.length/\ ∀t∈l,col<=t.2.2/\t.2.2<col+A.length:=by
 refine Hl (P:=fun col A r=> ∀l,r=.ok l->l.length<=A.length/\ ∀t∈l,col<=t.2.2/\t.2.2<col+A.length) ?_ ?_ ?_ ?_ ?_
 ·intro col l h;cases h;simp
 ·intro col c A _ ih l h
  obtain⟨I,H⟩:=ih l h;simp only[aaf];exact⟨by omega,fun t ht=>by have:=H t ht;omega⟩
 ·intro col c A _ l h
  split at h
  ·cases h
  cases h;simp
 ·intro col c A x _ _ E l h;cases h
 intro col c A n k t _ _ _ I H _ ih l h
 cases hr:aw (col+n) ((c::A).drop n) with
 |error x=>rw[hr]at h;cases h
 |ok m=>
  rw[hr]at h;simp only[ep.after,Except.ok.injEq]at h;obtain⟨g1,g2⟩:=ih m hr;simp only[aag,aaf]at g1 g2 H ⊢;subst h;refine⟨by simp;omega,fun x E=> ?_⟩;simp only[List.singleton_append,abY]at E;rcases E with rfl|E
  ·simp only;omega
  have:=g2 x E;omega
end ag
namespace Go.Proofs.YtgfmiladfeoldaaGreatDoor
open Go.RowKit ag
theorem Mj {l:Bytes}{v n:Nat}(h:dec l=some (v,n))(hv:v<128):n=1/\l.take n=[v.toUInt8]:=by
 unfold dec at h;split at h
 ·cases h
 rename_i b t;split at h
 ·cases h
  refine⟨rfl,?_⟩;simp
 split at h
 ·split at h
  ·split at h
   ·rename_i k;simp only[aaY,aaV]at k;simp at h;omega
   simp at h
  cases h
 split at h
 ·split at h
  ·split at h
   ·rename_i k;simp only[aaY,aaV]at k;simp at h;omega
   simp at h
  cases h
 split at h
 ·split at h
  ·split at h
   ·rename_i k;simp only[aaY,aaV]at k;simp at h;omega
   simp at h
  cases h
 cases h
theorem Nj:∀l:Bytes,∀c∈Qx l,N9 c:=by
 apply Wm
 ·intro c E;simp[Zf]at E
 intro l H ih c E;rw[Ye H]at E;rcases abY.1 E with rfl|E
 ·intro K h
  unfold rn at h ⊢;simp only at h ⊢
  cases hd:dec l with
  |none=>simp[val,hd]at h
  |some p=>
   obtain⟨v,n⟩:=p
   have I:val l=some v:=by simp[val,hd]
   have J:wid l=n:=by simp[wid,hd]
   rw[I]at h ⊢;rw[J];exact(Mj hd h).2
 exact ih c E
theorem Mk {cs:List C}{i:Nat}{c:C}(h:cs[i]?=some c):cs.drop i=c::cs.drop (i+1):=by have E:i<cs.length:=(aae.1 h).1;rw[aaS E];have:=aad E;rw[h]at this;rw[aax this]
theorem Qwy {cs:List C}{i:Nat}{c:C}(h:cs[i]?=some c)(h1:kd c≠1)(h2:kd c≠2):((Xy cs i c).2.2.2≠0->aw (i+1) (cs.drop i)=.error (i+1,(Xy cs i c).2.2.2))/\((Xy cs i c).2.2.2=0->i<(Xy cs i c).2.2.1/\(Xy cs i c).2.2.1<=cs.length/\aw (i+1) (cs.drop i)=(aw ((Xy cs i c).2.2.1+1) (cs.drop (Xy cs i c).2.2.1)).after [((Xy cs i c).1,(Xy cs i c).2.1,i+1)]):=by
 have K:i<cs.length:=(aae.1 h).1;have E:=Mk h;have O:=Gn c
 have I:∀p,i+Qp p (cs.drop i)<=cs.length:=fun p=>by have:=Zq p (cs.drop i);rw[aag]at this;omega
 by_cases h0:kd c=0
 ·unfold Xy;simp only[h0,if_true]
  exact⟨fun _=>by rw[E,Ws _ h0],fun h=>by simp at h⟩
 by_cases h3:kd c=3
 ·have e:=Vd (c:=c) (cs:=cs.drop (i+1)) (i+1) h3
  rw[<-E]at e
  have J:1<=Qp Ql (cs.drop i):=by rw[E];exact Xv (by simp[Ql,h3])
  unfold Xy;simp only[h3,Nat.reduceEqDiff,if_true,aeb];rw[e];split
  ·exact⟨fun _=>rfl,fun h=>by simp at h⟩
  refine⟨fun h=>by simp at h,fun _=>⟨by simp only;omega,I _,?_⟩⟩;simp only[adG];rw[show i+1+Qp Ql (cs.drop i)=i+Qp Ql (cs.drop i)+1 from by omega]
 by_cases h4:kd c=4
 ·have e:=Vv (c:=c) (cs:=cs.drop (i+1)) (i+1) h4
  rw[<-E]at e
  have J:1<=Qp aL (cs.drop i):=by rw[E];exact Xv (by simp[aL,h4])
  unfold Xy;simp only[h4,Nat.reduceEqDiff,if_true,aeb];rw[e];split
  ·exact⟨fun _=>rfl,fun h=>by simp at h⟩
  refine⟨fun h=>by simp at h,fun _=>⟨by simp only;omega,I _,?_⟩⟩;simp only[adG];rw[show i+1+Qp aL (cs.drop i)=i+Qp aL (cs.drop i)+1 from by omega]
 by_cases h5:kd c=5
 ·unfold Xy;simp only[h5,Nat.reduceEqDiff,if_true,aeb]
  refine⟨fun h=>by simp at h,fun _=>⟨by omega,by omega,?_⟩⟩;rw[E,Jr _ h5]
 have H:kd c=6:=by omega
 unfold Xy;simp only[H,Nat.reduceEqDiff,aeb];exact⟨fun _=>by rw[E,Jh _ H],fun h=>by simp at h⟩
def Hj (r:ep)(w:World)(e:Ending)(w':World):Prop:=
 ∃v,e=.returned (.tuple #[v,.int .i64 (fQ r:Nat),.int .i64 (dY r:Nat)])/\w'.ownsRow w.heap.size 119 3 v (Ui r).length (Xk (Ui r))/\Below w.heap.size w w'
theorem Tryz.pL:(Tryz.prog.info? 119).map (fun i=>(i.zero,i.size,i.bytes))=some (some (.agg #[.int .i64 0,.string ⟨#[]⟩,.int .i64 0]),3,32):=by kernel_rfl
def RJ (cs:List C)(w1:World)(v i:Value)(wr:World):Prop:=
 ∃k acc,k<=cs.length/\i=.int .i64 (k:Nat)/\wr.ownsRow w1.heap.size 119 3 v acc.length (Xk acc)/\Below w1.heap.size w1 wr/\aw 1 cs=(aw (k+1) (cs.drop k)).after acc/\acc.length<=k
theorem Z5 {r:ep}{w w':World}{x y:Value}(c e:Nat)(hx:x=.int .i64 (c:Nat))(hy:y=.int .i64 (e:Nat))(h:r=.error (c,e))(hb:Below w.heap.size w w'):Hj r w (.returned (.tuple #[.slice none 0 0,x,y])) w':=by subst h hx hy;exact⟨_,rfl,adC _ _ _ _,hb⟩
theorem Pf {r:ep}{w w':World}{v:Value}{l:List Tok}(h:r=.ok l)(ho:w'.ownsRow w.heap.size 119 3 v l.length (Xk l))(hb:Below w.heap.size w w'):Hj r w (.returned (.tuple #[v,.int .i64 0,.int .i64 0])) w':=by subst h;exact⟨_,rfl,ho,hb⟩
theorem Vw {r:ep}{acc:List Tok}{e:Nat×Nat}(h:r=.error e):r.after acc=.error e:=by subst h;rfl
theorem Sk {r:ep}{acc:List Tok}(h:r=.ok []):r.after acc=.ok acc:=by subst h;simp[ep.after]
theorem Ez (s:ByteArray)(w:World)(hs:s.size<=67108864)(hx:Lx w):Calls Tryz.prog 90 #[.string s] w (Hj (aw 1 (Qx s.data.toList)) w):=by
 obtain⟨i0,hi,hz0,hz1,hz2⟩:=abO Tryz.pL;have HX:=zq hx;have oh:=zq (Nj s.data.toList)
 have hn:(Qx s.data.toList).length<=67108864:=by have:=Ym s.data.toList;rw[<-abg]at this;omega
 clear hx;go_enter Tryz.func90,Tryz.ntmps90;go_wp2_with fail;refine(Dw s _ hs).mono ?_;rintro e w1 ⟨v,rfl,hown,bz⟩;have HR:Hid (iJ w1 v (Qx s.data.toList)):=X0 hown (aao _);have HB:=zq bz;have hsz:=bz.size;clear hown bz;obtain⟨ao,cap,hv,bq,hcm,aU⟩:=HR.o.shape;have iw:=zq aU;clear aU hcm;subst hv;go_wp2_with fail;go_loopw [2,6] (fun v i wr=>RJ (Qx s.data.toList) w1 v i wr) (fun _ i _=>(Qx s.data.toList).length-(intOf i).toNat)
 case atStart=>exact⟨0,[],aao _,rfl,adC _ _ _ _,aa8 _ _,by simp[ep.eZ],aaa _⟩
 case round=>
  obtain⟨k,acc,hk,rfl,hown,hb,bT,pn⟩:=hrel;have ey:=zq bT;have aD:Hid (Below w.heap.size w wr):=HB.o.trans (hb.mono HB.o.size);have hzz:=hb.size;clear bT;by_cases hlt:k<(Qx s.data.toList).length
  ·obtain⟨c,hc⟩:∃c,(Qx s.data.toList)[k]?=some c:=⟨_,aad hlt⟩
   obtain⟨g,rfl,lD,e1,e2,e3⟩:=iw.o _ c hc;rw[<-hb.cell (p:=⟨g,_,none⟩) lD]at e1 e2 e3;have HC:=zq hc;have HD:=zq (Mk hc);clear hc iw;by_cases cS:kd c=1
   ·have HE:Hid (aw (k+1) ((Qx s.data.toList).drop k)=aw (k+1+1) ((Qx s.data.toList).drop (k+1))):=by show _=_;rw[HD.o,Zr _ cS]
    rw[cS]at e1;clear cS;go_wp2_with fail;have ah:RJ (Qx s.data.toList) w1 u2 (.int .i64 (k+1)) wr:=⟨k+1,acc,by omega,by go_num,hown,hb,by rw[ey.o,HE.o],by omega⟩
    first|exact⟨ah,by simp[intOf];omega⟩|exact⟨by (repeat apply Exists.intro);exact⟨ah,rfl⟩,by simp[intOf];omega⟩
   by_cases hk2:kd c=2
   ·have HE:=zq (Vj (cs:=(Qx s.data.toList).drop (k+1)) (k+1) hk2)
    rw[<-HD.o]at HE;have hle:=Zq Qe ((Qx s.data.toList).drop k);rw[aag]at hle;rw[hk2]at e1;clear cS hk2;go_wp2_with fail;refine(Az _ Qe Aj _ (Qx s.data.toList) k _ (HR.o.below hb) hk).mono ?_;rintro e w2 ⟨rfl,hb2⟩;by_cases hl2:k+Qp Qe ((Qx s.data.toList).drop k)<(Qx s.data.toList).length
    ·go_wp2_with fail
     go_ret3
     exact Z5 (k+1+Qp Qe ((Qx s.data.toList).drop k)) 12 (by show Value.int .i64 _=_;congr 1;omega) rfl
      (ey.o.trans (Vw (HE.o.trans (if_pos (by rw[aag];omega))))) (aD.o.trans (hb2.mono aD.o.size))
    go_wp2_with fail
    have ah:RJ (Qx s.data.toList) w1 u2 (.int .i64 (↑k+ ↑(Qp Qe ((Qx s.data.toList).drop k)))) w2:=by refine⟨k+Qp Qe ((Qx s.data.toList).drop k),acc,by omega,by go_num,Qg hown hb2 (aaa _),hb.trans (hb2.mono hzz),?_,by omega⟩;have pA:List.drop (k+Qp Qe ((Qx s.data.toList).drop k)) (Qx s.data.toList)=[]:=aaR (by omega);rw[pA,Zg,ey.o,HE.o,if_neg (by rw[aag];omega)]
    have hrun:1<=Qp Qe ((Qx s.data.toList).drop k):=by omega
    first|exact⟨ah,by simp[intOf];omega⟩|exact⟨by (repeat apply Exists.intro);exact⟨ah,rfl⟩,by simp[intOf];omega⟩
   have HN:=Qwy HC.o cS hk2;have bR:=zq HN.1;have IZ:=zq HN.2;have EU:=oh.o c (aah HC.o)
   have n1:((kd c:Int)==1)=false:=by simp;omega
   have n2:((kd c:Int)==2)=false:=by simp;omega
   clear HN;go_wp2_with fail;refine(Qmw s _ k c _ (HR.o.below hb) HC.o hs cS hk2 EU (HX.o.below aD.o)).mono ?_;rintro e w2 ⟨rfl,hb2⟩;generalize Xy (Qx s.data.toList) k c=nr at*;obtain⟨k3,t3,j3,e3⟩:=nr;simp only at bR IZ ⊢;clear EU cS hk2 n1 n2 e1 e2 HD HC;by_cases he:e3=0
   ·subst he
    obtain⟨GI,hj2,hj3⟩:=IZ.o rfl;have HJ:=zq hj3;have q0:=Qg hown hb2 (aaa _);have adk:=hb2.size;clear hj3 bR IZ;go_wp2_with (at_builtin;refine adO _ rfl _ _ 83 rfl w1.heap.size 119 i0 (.agg #[.int .i64 0,.string ⟨#[]⟩,.int .i64 0]) 3 32 Tryz.underlying83 hi hz0 hz1 hz2 rfl (by decide) _ _ _ rfl ((q0.alloc _).alloc _) ⟨w2.heap.size+1,0,none⟩ 1 1 (Xk [(k3,t3,k+1)]) rfl rfl ?c1 ?c2 ?c3 ?c4 ?c5 ?_)
    case c1=>exact Qh _ _ _ _ (by simp)
    case c2=>intro u hu;simp[Xk]at hu;rcases hu with rfl|rfl|rfl<;>rfl
    case c3=>unfold maxLen;omega
    case c4=>omega
    case c5=>simp;omega
    intro v' w3 au ak _
    have eM:Hid (w3.ownsRow w1.heap.size 119 3 v' (acc++[(k3,t3,k+1)]).length (Xk (acc++[(k3,t3,k+1)]))):=by show World.ownsRow _ _ _ _ _ _ _;rw[Vq,aac];exact au
    have aS:Hid (Below w1.heap.size w1 w3):=abq ((((hb.trans (hb2.mono hzz)).alloc (by omega) _).alloc (by simp;omega) _)) ak (by simp;omega) (fun k hk=>(q0.lt k hk).1);clear au ak q0 hown;go_wp2_with fail;have ah:RJ (Qx s.data.toList) w1 v' (.int .i64 ↑j3) w3:=⟨j3,acc++[(k3,t3,k+1)],hj2,rfl,eM.o,aS.o,by rw[ey.o,HJ.o,ep.bH],by simp;omega⟩
    first|exact⟨ah,by simp[intOf];omega⟩|exact⟨by (repeat apply Exists.intro);exact⟨ah,rfl⟩,by simp[intOf];omega⟩
   have CG:((e3:Int) !=0)=true:=by simp;omega
   go_wp2_with fail;go_ret3;exact Z5 (k+1) e3 (by show Value.int .i64 _=_;congr 1) rfl (ey.o.trans (Vw (bR.o he))) ((aD.o.trans (hb2.mono aD.o.size)).alloc (by have:=hb2.size;have:=aD.o.size;omega) _)
  go_wp2_with fail;go_ret3;refine Pf (ey.o.trans (Sk ?_)) (X0 hown HB.o.size) aD.o;rw[aef (by omega),Zg]
open Go.ChangeShapes Go.WideShapes Go.ChangeAt
theorem own:ownKnob Tryz.prog.godebug=none:=by kernel_rfl
theorem Qd2:Kids Tryz.prog (· <Tryz.prog.types.size):=kids_rows (by kernel_rfl) (by kernel_rfl)
theorem Qd0:∀t e,t<Tryz.prog.types.size->Tryz.prog.underlying t=some (.slice e)->0<Tryz.prog.cellsOf e:=slices_full_of Tryz.prog (by kernel_rfl)
theorem Qgn : Tryz.prog.globalNamed "trellis/radix.signs" = some 4 := by kernel_rfl
theorem Qdp:(Tryz.prog.globals[4]?).map (·.type)=some 258:=by kernel_rfl
theorem Qdf:Tryz.prog.underlying 258=some (.array 36 5):=by kernel_rfl
theorem uU8:Tryz.prog.underlying 5=some (.int .u8):=by kernel_rfl
theorem cU8:Tryz.prog.cellsOf 5=1:=by kernel_rfl
theorem Qcs:Tryz.prog.cellsOf 258=36:=by kernel_rfl
def Qhk:List Int:=[48,49,50,51,52,53,54,55,56,57,97,98,99,100,101,102,103,104,105,106,107,108,109,110,111,112,113,114,115,116,117,118,119,120,121,122]
def Qck : List (String × DataW Unit) := [("trellis/radix.signs", Rows.laid_trellis_radix_signs)]
theorem Bg {w:World}(h:w.ShapedOpen Tryz.prog):Lx w:=
 Go.Proofs.cell_of_shapedOpen_int (zero:= #[.int .i64 0]) (t:=3) h (of_decide_eq_true (by kernel_rfl)) (by kernel_rfl) rfl (by kernel_rfl) (by kernel_rfl) (by kernel_rfl)
theorem Qvm {w:World}(h:laidMetH Tryz.prog Qck w):SG w/\4<w.heap.size:=by
 rw[MakeChecks.laidMetH_plain _ _ _ (by kernel_rfl)]at h
 have J : Lib.TabIs Tryz.prog w "trellis/radix.signs" .u8 Qhk := Lib.tabIs_of_head (zs := Qhk) Qgn Qdp Qdf uU8 cU8 Qcs h
 have E:SG w:=by
  intro d I;have H:=World.var?_cell Qgn J d;rw[H]
  match d,I with
  |0,_=>rfl
  |1,_=>rfl
  |2,_=>rfl
  |3,_=>rfl
  |4,_=>rfl
  |5,_=>rfl
  |6,_=>rfl
  |7,_=>rfl
  |8,_=>rfl
  |9,_=>rfl
 exact⟨E,adu w _ (E 0 (by omega))⟩
theorem bulk {H:Type}{l:List (DataW H)}(hk:Rows.uptoSmall H l=true):Rows.uptoBulkAll l<=1048576:=of_decide_eq_true hk
def KM : List (String × DataW Unit) := [("math/bits.deBruijn32tab", Rows.laid_math_bits_deBruijn32tab), ("math/bits.deBruijn64tab", Rows.laid_math_bits_deBruijn64tab), ("internal/strconv.uint64pow10", Rows.laid_internal_strconv_uint64pow10), ("trellis/radix.signs", Rows.laid_trellis_radix_signs)]
theorem Qxe {w:World}(h:laidMetH Tryz.prog KM w):SG w/\4<w.heap.size:=by
 rw[MakeChecks.laidMetH_plain _ _ _ (by kernel_rfl)]at h
 have E:laidMetH Tryz.prog Qck w:=by rw[MakeChecks.laidMetH_plain _ _ _ (by kernel_rfl)];exact h.tail.tail.tail
 exact Qvm E
def Qc4:DataW Unit->Value
 | .lit (.int k z)=> .int k z
 |_=>undef
def Qh5:DataW Unit->Array Value
 | .agg l=>(l.map Qc4).toArray
 |_=> #[]
def Hm (d:DataW Unit):Obj->Obj
 | .cells _ t frozen=> .cells (Qh5 d) t frozen
 |o=>o
noncomputable def Td (os:Os):World:=
 {World.holding Tryz.prog os ⟨#[],#[],[]⟩ with heap:=((((World.holding Tryz.prog os ⟨#[],#[],[]⟩).heap.modify 4 (Hm Rows.laid_trellis_radix_signs)).modify 0 (Hm Rows.laid_internal_strconv_uint64pow10)).modify 3 (Hm Rows.laid_math_bits_deBruijn64tab)).modify 2 (Hm Rows.laid_math_bits_deBruijn32tab)}
theorem Qw5 (os:Os)(args:Array Value):laidMetH Tryz.prog KM ((Td os).forCall (fun _ _=>0) ⟨#[],args,[]⟩).memory:=by rw[MakeChecks.laidMetH_plain _ _ _ (by kernel_rfl)];exact laidMet_of_run' 8 (by kernel_rfl) (by kernel_rfl)
open ai
def jY (d:Nat):UInt8:=UInt8.ofNat (48+d)
theorem Qfd {d:Nat}(h:d<10):(jY d).toNat=48+d:=by unfold jY;rw[UInt8.toNat_ofNat'];omega
def PI (L:List Nat):List Value:=L.map fun d=>Value.int .u8 ((d:Nat):Int)
def DB (w:World)(D:Nat)(L:List Nat):Prop:=w.heap[D]?=some (.cells (PI L).toArray 246 (0,0))/\L.length=64
theorem DB.cell {w:World}{D i x:Nat}{L:List Nat}(h:DB w D L)(hx:L[i]?=some x):w.cell? ⟨D,i,none⟩=some (.int .u8 ((x:Nat):Int)):=by rw[aam w D i _ _ _ h.1];simp[PI,hx]
theorem DB.frozen {w:World}{D:Nat}{L:List Nat}(h:DB w D L)(i:Nat):w.frozen? ⟨D,i,none⟩=false:=aaH w D i _ _ h.1
theorem DB.set {w:World}{D:Nat}{L:List Nat}(h:DB w D L)(i x:Nat):DB (w.setCell ⟨D,i,none⟩ (.int .u8 ((x:Nat):Int))) D (L.set i x)/\w.grownBy (w.setCell ⟨D,i,none⟩ (.int .u8 ((x:Nat):Int))) (some D):=by refine⟨⟨?_,by rw[ab6,h.2]⟩,⟨rfl,rfl,rfl,by simp,fun k _ hk=>aaX w ⟨D,i,none⟩ k _ (fun e=>hk (by simp[e]))⟩⟩;have:=aas w D i (PI L).toArray 246 (.int .u8 ((x:Nat):Int)) h.1;rw[this];simp[PI,List.map_set]
theorem DB.made (w:World):DB (w.alloc (.cells (PI (List.replicate 64 0)).toArray 246)) w.heap.size (List.replicate 64 0):=⟨aaz w _,aa9⟩
def jZ (v v' n:Nat)(L:List Nat):Prop:=∃rest:List Nat,dg v=dg v'++rest/\n+rest.length=64/\L.drop n=rest.map (48+ ·)
theorem jZ.start (v:Nat):jZ v v 64 (List.replicate 64 0):=⟨[],by simp,rfl,by simp⟩
theorem jZ.step {v v' n:Nat}{L:List Nat}(h:jZ v v' (n+1) L)(hL:L.length=64)(hv:0<v'):jZ v (v' / 10) n (L.set n (48+v' % 10)):=by
 obtain⟨E,I,K,J⟩:=h;refine⟨(v' % 10)::E,?_,by simp only[aaf];omega,?_⟩
 ·rw[I,Jc hv,aar];rfl
 have H:n<(L.set n (48+v' % 10)).length:=by rw[ab6];omega
 rw[aaS H,List.getElem_set_self,List.drop_set_of_lt (aet n),J];rfl
theorem Qwu {v:Nat}(h:v<BB):(dg v).length<=20:=Wf (aed h (by unfold BB;decide))
theorem jZ.room {v v' n:Nat}{L:List Nat}(h:jZ v v' n L)(hv:v<BB):44<=n:=by obtain⟨H,E,I,_⟩:=h;have:=Qwu hv;rw[E,aac]at this;omega
def oA (v n:Nat)(L:List Nat):Prop:=∃j,n+j+(dg v).length=64/\L.drop n=(List.replicate j 0++dg v).map (48+ ·)
theorem oA.start {v n:Nat}{L:List Nat}(h:jZ v 0 n L):oA v n L:=by obtain⟨I,E,J,H⟩:=h;rw[Zv,adz]at E;exact⟨0,by rw[E];omega,by rw[H,E];rfl⟩
theorem oA.step {v n:Nat}{L:List Nat}(h:oA v (n+1) L)(hL:L.length=64):oA v n (L.set n 48):=by
 obtain⟨j,I,H⟩:=h;refine⟨j+1,by omega,?_⟩
 have E:n<(L.set n 48).length:=by rw[ab6];omega
 rw[aaS E,List.getElem_set_self,List.drop_set_of_lt (aet n),H];rfl
def WdA (v D:Nat)(w:World)(vv nv:Value)(wr:World):Prop:=∃(v' n:Nat) (L:List Nat),vv=.int .u64 (v':Nat)/\nv=.int .i64 (n:Nat)/\v'<=v/\jZ v v' n L/\DB wr D L/\Below w.heap.size w wr
def WdB (v width D:Nat)(w:World)(nv:Value)(wr:World):Prop:=∃(n:Nat) (L:List Nat),nv=.int .i64 (n:Nat)/\n<=64/\44<=n/\(64-n<=width\/64-n=(dg v).length)/\oA v n L/\DB wr D L/\Below w.heap.size w wr
theorem Cn (R v width:Nat)(pv ov:Value)(out:Bytes)(w:World)(h:WS w R pv ov out)(hs:SG w)(hv:v<BB)(hw:width<=19)(h0:0<v\/0<width)(hl:out.length<=1099511627776):Calls Tryz.prog 255 #[.pointer (some ⟨R,0,none⟩),.int .u64 (v:Nat),.int .i64 (width:Nat)] w (ZG w R pv ov out ((pad v width).map jY)):=by
 have HS:=zq h;have eo:=zq hs;have HV:=zq hv;have dW:=zq (jZ.start v)
 have hsz:4<w.heap.size:=by have:=h.big;have:=h.lt;omega
 have LM:=h.lt;clear h hs hv;go_enter Tryz.func255,Tryz.ntmps255;go_wp2_with fail;go_loopw [1,7] (fun vv nv wr=>WdA v w.heap.size w vv nv wr) (fun vv _ _=>(intOf vv).toNat)
 case atStart=>exact⟨v,64,List.replicate 64 0,rfl,rfl,aaa _,dW.o,DB.made w,Qq w _⟩
 clear dW
 case round=>
  obtain⟨v',n,L,rfl,rfl,hvv,hst,oK,hbl⟩:=hrel;have HST:=zq hst;have iV:=zq oK;have aP:=zq hbl;have hroom:=hst.room HV.o;clear hst oK hbl;by_cases hv0:v'=0
  ·subst hv0
   have HPD:=zq (oA.start HST.o)
   have HLEN:Hid (64-n=(dg v).length):=by obtain⟨rest,a1,a2,_⟩:=HST.o;show _=_;rw[Zv,adz]at a1;rw[a1];omega
   have CX:n<=64:=by obtain⟨rest,a1,a2,_⟩:=HST.o;omega
   go_wp2_with fail;go_loopw [7] (fun nv wr=>WdB v width w.heap.size w nv wr) (fun nv _=>(intOf nv).toNat)
   case atStart=>exact⟨n,L,rfl,CX,hroom,.inr HLEN.o,HPD.o,iV.o,aP.o⟩
   clear HST iV aP HPD HLEN hroom CX
   case round=>
    rename_i wr2 _;obtain⟨n,L,rfl,CX,hroom,OP,hst,oK,hbl⟩:=hrel;have HST:=zq hst;have iV:=zq oK;have aP:=zq hbl;have XI:=zq OP;clear hst oK hbl OP;by_cases hlt:64-n<width
    ·obtain⟨m,rfl⟩:∃m,n=m+1:=⟨n-1,by omega⟩
     have F0:((m+1:Nat):Int)=(m:Int)+1:=by omega
     have F1:(64:Int)-((m:Int)+1)<(width:Int):=by omega
     have HN:=zq (HST.o.step iV.o.2);obtain⟨z,hz⟩:∃z,L[m]?=some z:=⟨_,aad (by rw[iV.o.2];omega)⟩;have c3:=iV.o.cell hz;have c4:=iV.o.frozen m;have qa:=zq (iV.o.set m 48)
     have NM:m<64:=by omega
     clear hz;rw[F0];go_wp2_with fail
     have ah:WdB v width w.heap.size w (.int .i64 (m:Nat)) (wr.setCell ⟨w.heap.size,m,none⟩ (.int .u8 48)):=
      ⟨m,L.set m 48,rfl,by omega,by omega,.inl (by omega),HN.o,qa.o.1,aP.o.trans ((aa8 _ _).setCell (by exact aaa _) _)⟩
     exact⟨ah,by simp[intOf]<;>omega⟩
    have F1: ¬((64:Int)-(n:Int)<(width:Int)):=by omega
    have abo:L.drop n=(pad v width).map (48+ ·)/\(pad v width).length=64-n:=by
     obtain⟨j,a1,a2⟩:=HST.o
     have hj:j=width-(dg v).length:=by rcases XI.o with h|h<;>omega
     refine⟨by rw[a2,hj];rfl,?_⟩;unfold pad;rw[aac,aa9];omega
    obtain⟨kP,jG⟩:=abo;obtain⟨m,hm⟩:=xq (64-n);rw[<-hm]at jG
    have cW:0<m:=by
     rw[<-jG];unfold pad;rw[aac,aa9];rcases h0 with h|h
     ·have:0<(dg v).length:=by rw[Jc h];simp
      omega
     omega
    have NM:m<=64:=by omega
    have cr:=zq (HS.o.below aP.o);obtain⟨i0,hi,hz0,hz1,hz2⟩:=abO Tryz.jf;obtain⟨c0,c1,c2,c3,c4,c5⟩:=cr.o.cell;have I6:=zq kP;have rZ:=zq jG;have HM:=zq hm;have eu:(0:Int)<=(n:Int):=abP _
    have dc:(n:Int)<=64:=by omega
    have jV: ¬(64=n):=by omega
    have ri:n<64:=by omega
    have IX:Hid (∀(j:Nat) (u:Value),(gJ ((pad v width).map jY))[j]?=some u->wr.cell? ((⟨w.heap.size,n,none⟩:Addr).add j)=some u):=by
     intro j u hu
     have e:(⟨w.heap.size,n,none⟩:Addr).add j=⟨w.heap.size,n+j,none⟩:=by unfold Addr.add;split<;>simp_all
     rw[e];simp only[gJ,aeE,ads,aee]at hu;obtain⟨d,hd,rfl⟩:=hu
     have hL:L[n+j]?=some (48+d):=by rw[<-adp,I6.o,ads,hd];rfl
     rw[iV.o.cell hL]
     have CD:d<10:=by
      have:=aah hd;unfold pad at this;rcases abZ.1 this with h|h
      ·rw[aev]at h;omega
      exact RH v d h
     simp only[Function.comp];rw[Qfd CD]
    have kH:Hid (R<wr.drew.heap.size):=cr.o.lt
    have bR:Hid (some R≠ov.ownBlock):=fun e=>by have:=cr.o.ne R e.symm;omega
    clear kP jG hm;go_wp2_with fail;go_region_law ((refine aeX _ (by rfl) _ _ _ (by rfl) (R+1) 5 i0 _ 1 1 Tryz.underlying88 hi hz0 hz1 hz2 rfl (by omega) ov out.length (gJ out) (by rfl) (cr.o.own.drew) ⟨w.heap.size,n,none⟩ (64-n) (64-n) (gJ ((pad v width).map jY)) (by rfl) (by rw[Qk9,aay];have:=rZ.o;have:=HM.o;omega) (fun j u hu=>IX.o j u hu) (Qf0 _) (by omega) (by unfold maxLen;omega) (by omega) (by have:=cr.o.lt;simp;omega) wr.heap.size (by simp) ?_;intro gg cap w2 hown2 hgrow hat cE;have d4:w2.cell? ⟨R,4,none⟩=some ov:=(hgrow.cell_far ⟨R,4,none⟩ kH.o bR.o).trans c4;have d5:w2.frozen? ⟨R,4,none⟩=false:=(hgrow.frozen_far ⟨R,4,none⟩ kH.o bR.o).trans c5))
    all_goals
     obtain⟨g1,g2,g3⟩:=cr.o.grow (l:=(pad v width).map jY) hown2 (by rw[aac,aay];have:=rZ.o;have:=HM.o;omega) ⟨hgrow.os,hgrow.tape,hgrow.output,hgrow.size,hgrow.block⟩ hat;clear hown2 hgrow hat cE d4 d5;go_end0;exact⟨_,rfl,g1,(Wr.af aP.o).trans (Mv.refl _ _) g2,fun k hk=>(g3 k hk).imp id (fun h=>aan aP.o.size h)⟩
  have hvp:0<v':=by omega
  obtain⟨m,rfl⟩:∃m,n=m+1:=⟨n-1,by omega⟩;obtain⟨d,hd⟩:=xq (v' % 10);obtain⟨q,hq⟩:=xq (v' / 10)
  have CD:d<10:=by omega
  have F0:((m+1:Nat):Int)=(m:Int)+1:=by omega
  have F1:(v':Int) % 10=(d:Int):=by omega
  have F2:(v':Int) / 10=(q:Int):=by omega
  have hqv:q<v':=by omega
  have F3:IntKind.u64.wrap (q:Int)=(q:Int):=Wq _ (by have:=HV.o;unfold BB at this;omega);have HN:=zq (HST.o.step iV.o.2 hvp);rw[<-hd,<-hq]at HN;have jm:=eo.o.below aP.o hsz;have c1:=jm d CD;have cr:=HS.o.below aP.o;have c2:=cr.cell.1;obtain⟨z,hz⟩:∃z,L[m]?=some z:=⟨_,aad (by rw[iV.o.2];have:=HST.o;obtain⟨r,_,h2,_⟩:=this;omega)⟩
  have NM:m<64:=by have:=(aae.1 hz).1;rw[iV.o.2]at this;exact this
  have c3:=iV.o.cell hz;have c4:=iV.o.frozen m;have qa:=zq (iV.o.set m (48+d));have iH:=zq hvv;clear hd hq hz jm cr;rw[F0];go_wp2_with fail
  have ah:WdA v w.heap.size w (.int .u64 (q:Nat)) (.int .i64 (m:Nat)) (wr.setCell ⟨w.heap.size,m,none⟩ (.int .u8 (48+(d:Int)))):=
   ⟨q,m,L.set m (48+d),rfl,rfl,by omega,HN.o,qa.o.1,aP.o.trans ((aa8 _ _).setCell (by exact aaa _) _)⟩
  first|exact⟨ah,by simp[intOf]<;>omega⟩|exact⟨by (repeat apply Exists.intro);exact⟨ah,rfl⟩,by simp[intOf]<;>omega⟩
end Go.Proofs.YtgfmiladfeoldaaGreatDoor
namespace ai
def UU:Nat:=10000000000000000000
theorem Qp2:UU=10^19:=rfl
theorem Mx:0<UU:=by unfold UU;omega
theorem Qcz:UU<BB:=by unfold UU BB;omega
def rq (N i:Nat):Nat:=N / UU^i % UU
def cG (N k:Nat):List Nat:=(List.range k).map (rq N)
theorem Fp (N k:Nat):(cG N k).length=k:=by simp[cG]
theorem Qyt (N k:Nat):cG N (k+1)=cG N k++[rq N k]:=by simp[cG,List.range_succ]
theorem Qfp {N k i:Nat}(h:i<k):(cG N k)[i]?=some (rq N i):=by simp[cG,h]
theorem YO (N i:Nat):rq N i<UU:=ad8 _ Mx
theorem Qxx (N k:Nat):N / UU^(k+1)=N / UU^k / UU:=by rw[ady,Nat.div_div_eq_div_mul]
theorem Ma (N k:Nat):N / UU^k=N / UU^(k+1)*10^19+rq N k:=by rw[Qxx,rq,<-Qp2,aaW];exact(ad5 _ _).symm
theorem Qcl (L:Nat):BB^L<=UU^(2*L):=by rw[Nat.pow_mul];exact Nat.pow_le_pow_left (by unfold BB UU;decide) L
theorem Mo {N k L:Nat}(hN:N<BB^L)(h:0<N / UU^k):k<2*L:=by have E:UU^k<=N:=(Nat.div_pos_iff.1 h).2;have H:UU^k<UU^(2*L):=adH E (aaj hN (Qcl L));exact(Nat.pow_lt_pow_iff_right (by unfold UU;omega)).1 H
theorem Qq7 (w:Nat):pad 0 w=List.replicate w 0:=by unfold pad;rw[Zv];simp
theorem Qfj {N k w:Nat}(h:0<N / UU^(k+1)):pad (N / UU^k) (w-19*k)=pad (N / UU^(k+1)) (w-19*(k+1))++pad (rq N k) 19:=by have E:rq N k<10^19:=YO N k;rw[Ma N k,D9 h E,Qma E,show w-19*k-19=w-19*(k+1) from by omega]
theorem Qfv {N k w:Nat}(h:N / UU^(k+1)=0):pad (N / UU^k) (w-19*k)=pad (N / UU^(k+1)) (w-19*(k+1))++pad (rq N k) (min (w-19*k) 19):=by have E:rq N k<10^19:=YO N k;have e:=Ma N k;rw[h,aeD,abx]at e;rw[h,Qq7,e];have H:=Wf E;unfold pad;rw[<-aar];congr 1;rw[List.replicate_append_replicate];congr 1;omega
theorem Bl (n w:Nat):(pad n w).length=max w (dg n).length:=by unfold pad;rw[aac,aa9];omega
theorem Wb {n L:Nat}(h:n<BB^L):(dg n).length<=20*L:=by refine Wf (aaj h ?_);rw[Nat.pow_mul];exact Nat.pow_le_pow_left (by unfold BB;decide) L
end ai
namespace Go.Proofs.YtgfmiladfeoldaaGreatDoor
open Go.RowKit ai ag
def lenOf:Value->Nat
 | .slice _ n _=>n
 |_=>0
def PlA (N L:Nat)(w:World)(av pv:Value)(wr:World):Prop:=∃(k:Nat) (xs:List Nat),Rd wr av xs/\val xs=N / UU^k/\xs.length<=L/\wr.ownsRow w.heap.size 101 1 pv k (ws (cG N k))/\Below w.heap.size w wr/\(k=0\/0<N / UU^(k-1))
theorem Mr {w:World}{b:Nat}{e:TypeId}{s:Nat}{v:Value}{n:Nat}{xs:List Value}(h:w.ownsRow b e s v n xs):lenOf v=n:=by
 rcases h.2 with ⟨rfl,E⟩|⟨g,H,I,rfl,_⟩
 ·rw[E];rfl
 rfl
def KJ (R:Nat)(pv:Value)(og:Option Nat)(w5:World)(l:Bytes)(wr:World):Prop:=∃ov:Value,WS wr R pv ov l/\Wr R og w5 wr/\Mv w5 og ov.ownBlock
theorem KJ.push {R:Nat}{pv ov EF:Value}{og:Option Nat}{w5 wr wa wz:World}{l:Bytes}(hw:Wr R og w5 wr)(hm:Mv w5 og ov.ownBlock)(ha:Below wr.heap.size wr wa)(g1:WS wz R pv EF l)(g2:Wr R ov.ownBlock wa wz)(g3:Mv wa ov.ownBlock EF.ownBlock):KJ R pv og w5 l wz:=
 ⟨EF,g1,hw.trans hm ((Wr.af ha).trans (Mv.refl _ _) g2),Mv.trans (R:=R) (w':=wr) hm hw.size fun k hk=>(g3 k hk).imp id (fun h=>aan ha.size h)⟩
def PlB (R:Nat)(pv:Value)(og:Option Nat)(out:Bytes)(m width:Nat)(w5:World)(nv:Value)(wr:World):Prop:=∃n:Nat,nv=.int .i64 (n:Nat)/\n<=width/\min width m<=n/\KJ R pv og w5 (out++(List.replicate (width-n) 0).map jY) wr
def YJ (R:Nat)(pv:Value)(og:Option Nat)(out:Bytes)(N k width:Nat)(w5:World)(nv:Value)(wr:World):Prop:=∃j:Nat,nv=.int .i64 ((j:Int)-1)/\j<=k/\KJ R pv og w5 (out++(pad (N / UU^j) (width-19*j)).map jY) wr
theorem Ck (R width:Nat)(v pv ov:Value)(xs:List Nat)(out:Bytes)(w:World)(h:WS w R pv ov out)(hs:SG w)(hv:Rd w v xs)(hl:xs.length<=17179869184)(hw:width<=274877906944)(ho:out.length<=274877906944):Calls Tryz.prog 238 #[.pointer (some ⟨R,0,none⟩),v,.int .i64 (width:Nat)] w (ZG w R pv ov out ((pad (val xs) width).map jY)):=by
 have HS:=zq h;have eo:=zq hs;have HV:=zq hv
 have hsz:4<w.heap.size:=by have:=h.big;have:=h.lt;omega
 have LM:=h.lt;obtain⟨N,hN⟩:=xq (val xs);rw[<-hN];obtain⟨L,hL⟩:=xq xs.length;rw[<-hL]at hl
 have hNL:N<BB^L:=by rw[hN,hL];exact Yy hv.ok
 have dH:=zq hNL
 have o8:Hid (val xs=N / UU^0):=by show _=_;rw[Nat.pow_zero,Nat.div_one,hN]
 have mh:Hid (xs.length<=L):=by show _<=_;omega
 obtain⟨i0,hi,hz0,hz1,hz2⟩:=abO Tryz.zi;clear h hs hv hN hL hNL;go_enter Tryz.func238,Tryz.ntmps238;go_wp2_with fail;go_loopw [1,6] (fun av p wr=>PlA N L w av p wr) (fun _ p _=>2*L+2-lenOf p)
 case atStart=>exact⟨0,xs,HV.o,o8.o,mh.o,adC _ _ _ _,aa8 _ _,.inl rfl⟩
 clear HV o8 mh
 case round=>
  obtain⟨k,xs,jc,hval,pI,hown,hbl,hk⟩:=hrel;obtain⟨b,hb⟩:=xq (gi xs);have iu:=zq jc;have k9:=zq hval;have HOWN:=zq hown;have aP:=zq hbl;have HK:=zq hk;have hb0:=Hs xs jc.ok;rw[<-hb]at hb0;have HB:=zq hb;have bU:=zq hb0;have yV:=Mr hown;have HLP:=zq yV;clear jc hval hown hbl hk hb hb0 yV;by_cases hz:b=0
  ·have xb:decide (0<b)=false:=by simp;omega
   have HZ:Hid (N / UU^k=0):=by show _=_;rw[<-k9.o];exact bU.o.1 hz
   obtain⟨po,EG,rfl,tV,vg,tX⟩:=Qj HOWN.o
   have hkL:k<=2*L+1:=by
    rcases HK.o with h|h
    ·omega
    have:=Mo dH.o h;omega
   have gQ:=zq tX;have HPM:=zq vg;obtain⟨wh,OQ⟩:∃wh:Int,wh=((k:Int)-1)*19:=⟨_,rfl⟩;obtain⟨EB,MZ⟩:=xq (19*k);have E1:((k:Int)-1)*19=wh:=OQ.symm
   have E2:wh+19=(EB:Int):=by omega
   have E3:max (EB:Int) 0=(EB:Int):=by omega
   have abI:wh<=20890720927744/\ -19<=wh:=by omega
   obtain⟨aci,acj⟩:=abI;have cr:=zq (HS.o.below aP.o);have jm:=zq (eo.o.below aP.o hsz);have uT:=cr.o.lt;have c1:=cr.o.cell.2.1;have HWH:=zq OQ;have VG:=zq MZ
   have Og:∀q,(Value.slice po k EG).ownBlock=some q->q≠R/\ov.ownBlock≠some q:=fun q hq=>by have h1:=HOWN.o.lt q hq;refine⟨by omega,fun e=> ?_⟩;have:=HS.o.ne q e;omega
   have WJ:=zq Og;obtain⟨w5,jd⟩:=xq wr
   have hkb:EB<=20890720927744:=by omega
   clear hz tX vg OQ MZ Og;go_wp2_with fail;refine(Wo _ xs _ iu.o (by omega)).mono ?_;rintro e w' ⟨rfl,rfl⟩;rw[<-HB.o];go_wp2_with fail;have nN:=zq jd;clear jd c1;go_loopw [11] (fun nv wr=>PlB R pv ov.ownBlock out EB width w5 nv wr) (fun nv _=>(intOf nv).toNat)
   case atStart=>exact⟨width,rfl,aaa _,Nat.min_le_left _ _,ov,by rw[Nat.sub_self];simpa using (nN.o ▸ cr.o),by rw[nN.o];exact Wr.refl _ _ _,Mv.refl _ _⟩
   case round=>
    rename_i wr2 _;obtain⟨n,rfl,hnw,NR,Ig,rp,OU,jD⟩:=hrel;have lX:=zq rp;have gM:=zq OU;have jQ:=zq jD;have c1:=rp.cell.2.1;have c4:=rp.cell.2.2.2.2.1;have c5:=rp.cell.2.2.2.2.2;clear rp OU jD;obtain⟨j0,MW,bF,cS,hk2⟩:=abO Tryz.jf;have HA:=zq (Qq wr (.cells #[.int .u8 48] 5));have gT:=zq (lX.o.below HA.o);have kH:Hid (R<(wr.alloc (.cells #[.int .u8 48] 5)).heap.size):=gT.o.lt
    have bR:Hid (some R≠Ig.ownBlock):=fun e=>by have:=gT.o.ne R e.symm;omega
    have Lj:=gT.o.cell.2.2.2.2.1;have ca5:=gT.o.cell.2.2.2.2.2;have PK:=zq Lj;have CA5:=zq ca5
    have nR:(out++(List.replicate (width-n) 0).map jY).length<=549755813888:=by rw[aac,aay,aa9];omega
    obtain⟨l0,hl0⟩:=xq (out++(List.replicate (width-n) 0).map jY);rw[<-hl0]at nR lX gT;have rP:=zq hl0;clear Lj ca5 hl0;by_cases gN:EB<n
    ·go_wp2_with (at_builtin;refine adr _ rfl _ _ 88 rfl (R+1) 5 j0 (.int .u8 0) 1 1 Tryz.underlying88 MW bF cS hk2 rfl (by omega) Ig l0.length (gJ l0) rfl gT.o.own ⟨wr.heap.size,0,none⟩ 1 1 [.int .u8 48] rfl rfl (ag.Qh _ _ _ _ rfl) (by simp[Value.oneCell']) (by omega) (by unfold maxLen;omega) (by omega) (by have:=kH.o;simp at this;simp;omega) (wr.heap.size+1) (by simp) ?_)
     intro gg cap w2 hown2 hgrow hat cE;have d4:w2.cell? ⟨R,4,none⟩=some Ig:=(hgrow.cell_far ⟨R,4,none⟩ kH.o bR.o).trans PK.o;have d5:w2.frozen? ⟨R,4,none⟩=false:=(hgrow.frozen_far ⟨R,4,none⟩ kH.o bR.o).trans CA5.o;have HG:=zq (gT.o.grow (l:=[48]) hown2 (by simp) hgrow (by simpa using hat));clear hown2 hgrow hat cE;go_wp2_with fail
     have ah:PlB R pv ov.ownBlock out EB width w5 (.int .i64 ((n:Int)-1)) (w2.setCell ⟨R,4,none⟩ (.slice (some ⟨gg,0,none⟩) (l0.length+1) cap)):=by
      refine⟨n-1,by congr 1;omega,by omega,by omega,?_⟩
      have e:out++(List.replicate (width-(n-1)) 0).map jY=l0++[48]:=by rw[rP.o,show width-(n-1)=width-n+1 from by omega,List.replicate_succ',ado,<-aar];rfl
      rw[e];exact KJ.push gM.o jQ.o HA.o HG.o.1 HG.o.2.1 HG.o.2.2
     first|exact⟨ah,by simp[intOf]<;>omega⟩|exact⟨by (repeat apply Exists.intro);exact⟨ah,rfl⟩,by simp[intOf]<;>omega⟩
    have hn:width-n=width-19*k:=by have:=VG.o;omega
    have IU:=zq hn;clear hn;go_wp2_with fail;go_loopw [12] (fun nv wr=>YJ R pv ov.ownBlock out N k width w5 nv wr) (fun nv _=>(intOf nv+1).toNat)
    case atStart=>
     refine⟨k,rfl,aaa _,Ig,?_,gM.o,jQ.o⟩
     have e:out++(pad (N / UU^k) (width-19*k)).map jY=l0:=by rw[rP.o,HZ.o,Qq7,IU.o]
     rw[e];exact lX.o
    clear gM jQ lX gT rP IU HA kH bR PK CA5 c1 c4 c5 nR gN NR
    case round=>
     rename_i wr3 _;obtain⟨j,rfl,hjk,EF,rp,OV,jD⟩:=hrel;have lX:=zq rp;have gM:=zq OV;have jQ:=zq jD;clear rp OV jD
     cases j with
     |zero=>
      have tA: ¬((0:Int)<=((0:Nat):Int)-1):=by omega
      go_wp2_with fail;go_end0;have yP:=lX.o;rw[Nat.pow_zero,Nat.div_one,aec,Nat.sub_zero]at yP;refine⟨EF,rfl,yP,?_,?_⟩
      ·rw[nN.o]at gM
       exact(Wr.af aP.o).trans (Mv.refl _ _) gM.o
      rw[nN.o]at jQ
      exact fun q hq=>(jQ.o q hq).imp id (fun h=>aan aP.o.size h)
     |succ i=>
      have fg:(((i+1:Nat):Int)-1)=(i:Int):=by omega
      rw[fg];clear fg;have c1:=lX.o.cell.2.1;obtain⟨g,hg,hgb,fe,rh⟩:=gQ.o (by omega);subst hg;obtain⟨Oe,GQ⟩:=WJ.o g rfl;obtain⟨x,hx⟩:=xq (rq N i)
      have cp:wr.cell? ⟨g,i,none⟩=some (.int .u64 (x:Nat)):=by
       have e1:w5.cell? ⟨g,i,none⟩=some (.int .u64 (x:Nat)):=by rw[nN.o,rh i (by omega),hx];exact Qd8 (Qfp (by omega))
       rw[<-e1];exact abG (gM.o.block g (by rw[nN.o];exact fe) Oe (fun e=>GQ e.symm))
      have gO:x<BB:=by rw[hx];exact aed (YO _ _) Qcz
      have vW:Hid (SG wr):=by
       have h5:SG w5:=by rw[nN.o];exact jm.o
       have cR:=HS.o.big;exact h5.wr gM.o (by omega) (fun e=>by have:=HS.o.ne _ e;omega)
      have acF:(0:Int)<=(i:Int):=abP _
      have dc:(i:Int)<(k:Int):=by omega
      obtain⟨l3,lG⟩:=xq (out++(pad (N / UU^(i+1)) (width-19*(i+1))).map jY);rw[<-lG]at lX
      have ND:l3.length<=1099511627776:=by have h1:N / UU^(i+1)<BB^L:=adH (Nat.div_le_self _ _) dH.o;have h2:=Wb h1;rw[lG,aac,aay,Bl];omega
      have rQ:=zq lG;have HX:=zq hx;have wC:=zq gO;by_cases fN:i+1=k
      ·have qH:((i:Int)==(k:Int)-1)=true:=by simp;omega
       obtain⟨wd,hwd⟩:∃wd:Int,wd=(width:Int)-wh:=⟨_,rfl⟩;have E4:(width:Int)-wh=wd:=hwd.symm;obtain⟨m1,cW⟩:=xq (width-19*i);obtain⟨m2,jW⟩:=xq (min m1 19);have OQ:=HWH.o
       have E5:max wd 0=(m1:Int):=by omega
       have E6:min (m1:Int) 19=(m2:Int):=by omega
       have aa6:m2<=19:=by omega
       have hx0:0<x:=by
        rcases HK.o with h|h
        ·omega
        rw[show k-1=i from by omega]at h;have e:=Ma N i;have hzz:=HZ.o;rw[<-fN]at hzz;rw[hzz,aeD,abx]at e;rw[hx,<-e];exact h
       have dJ:Hid (l3++(pad x m2).map jY=out++(pad (N / UU^i) (width-19*i)).map jY):=by show _=_;have hzz:=HZ.o;rw[<-fN]at hzz;rw[lG,hx,jW,cW,Qfv hzz,ado,aar]
       clear hx gO lG fN hwd cW jW rh GQ Oe OQ;go_wp2_with fail;refine(Cn R x m2 pv EF l3 _ lX.o vW.o wC.o aa6 (.inl hx0) ND).mono ?_;rintro e w8 ⟨ov4,rfl,r1,r2,r3⟩;rw[dJ.o]at r1;have ah:YJ R pv ov.ownBlock out N k width w5 (.int .i64 ((i:Int)-1)) w8:=⟨i,rfl,by omega,ov4,r1,gM.o.trans jQ.o r2,Mv.trans (R:=R) (w':=wr) jQ.o gM.o.size r3⟩;have aR:=zq ah;clear r1 r2 r3 ah;go_wp2_with fail
       first|exact⟨aR.o,by simp[intOf]<;>omega⟩|exact⟨by (repeat apply Exists.intro);exact⟨aR.o,rfl⟩,by simp[intOf]<;>omega⟩
      have qH:((i:Int)==(k:Int)-1)=false:=by simp;omega
      have dJ:Hid (l3++(pad x 19).map jY=out++(pad (N / UU^i) (width-19*i)).map jY):=by
       show _=_
       have dC:0<N / UU^(i+1):=by
        rcases HK.o with h|h
        ·omega
        refine aaj h (Nat.div_le_div_left (adE Mx (by omega)) (adZ Mx))
       rw[lG,hx,Qfj dC,ado,aar]
      clear hx gO lG fN rh GQ Oe;go_wp2_with fail;refine(Cn R x 19 pv EF l3 _ lX.o vW.o wC.o (aaa _) (.inr (by omega)) ND).mono ?_;rintro e w8 ⟨ov4,rfl,r1,r2,r3⟩;rw[dJ.o]at r1;have ah:YJ R pv ov.ownBlock out N k width w5 (.int .i64 ((i:Int)-1)) w8:=⟨i,rfl,by omega,ov4,r1,gM.o.trans jQ.o r2,Mv.trans (R:=R) (w':=wr) jQ.o gM.o.size r3⟩;have aR:=zq ah;clear r1 r2 r3 ah;go_wp2_with fail
      first|exact⟨aR.o,by simp[intOf]<;>omega⟩|exact⟨by (repeat apply Exists.intro);exact⟨aR.o,rfl⟩,by simp[intOf]<;>omega⟩
  have xb:(0:Int)<(b:Int):=by omega
  have HZ:Hid (0<N / UU^k):=by show _<_;rw[<-k9.o];exact aeM fun h=>hz (bU.o.2 h)
  have rO:=zq (Mo dH.o HZ.o);obtain⟨U,hU⟩:=xq UU;have cr:=HS.o.below aP.o
  have c2:wr.cell? ⟨R,2,none⟩=some (.int .u64 (U:Nat)):=by rw[hU];exact cr.cell.2.2.1
  have HU:=zq hU;clear hz hU cr;go_wp2_with fail;refine(Wo _ xs _ iu.o (by omega)).mono ?_;rintro e w' ⟨rfl,rfl⟩;rw[<-HB.o];go_wp2_with fail;refine(Kh _ xs U _ iu.o (by omega) (by rw[HU.o];exact Mx) (by rw[HU.o];exact Qcz)).mono ?_;rintro e w3 ⟨qv,qs,rfl,q1,q2,q3,q4,q5⟩;obtain⟨r,hr⟩:=xq (val xs % U);rw[<-hr]
  have HR:Hid (r=rq N k):=by show _=_;rw[hr,k9.o,HU.o];rfl
  have HQ:Hid (val qs=N / UU^(k+1)):=by show _=_;rw[q2,k9.o,HU.o,Qxx]
  have Q1:=zq q1
  have r6:Hid (qs.length<=L):=by show _<=_;omega
  have nW:Hid (Below w.heap.size w w3):=aP.o.trans (q5.mono aP.o.size);have yi:=zq (Qg HOWN.o q5 (aaa _));have hz3:=nW.o.size;have zh:=q5.size
  have hkb:k<=549755813888:=by have:=rO.o;omega
  clear q1 q2 q3 q4 q5 hr c2;go_wp2_with (at_builtin;refine adv _ rfl _ _ 59 rfl w.heap.size 101 i0 (.int .u64 0) 1 8 Tryz.underlying59 hi hz0 hz1 hz2 rfl (by decide) _ _ _ rfl (abj yi.o _) ⟨w3.heap.size,0,none⟩ 1 1 [.int .u64 (r:Nat)] rfl rfl (ag.Qh _ _ _ _ rfl) (by simp[Value.oneCell']) (by unfold maxLen;omega) (by omega) (by simp;omega) ?_);intro v4 w4 aM az _ jr
  have jR:Hid (w4.ownsRow w.heap.size 101 1 v4 (k+1) (ws (cG N (k+1)))):=by
   have e:ws (cG N (k+1))=ws (cG N k)++[.int .u64 (r:Nat)]:=by rw[Qyt,HR.o];simp[ws]
   show World.ownsRow _ _ _ _ _ _ _;rw[e];exact aM
  have bG:Hid (Below w.heap.size w w4):=abq (nW.o.alloc hz3 _) az (by simp;omega) (fun q hq=>(aaZ yi.o q hq).1)
  have jS:Hid (Rd w4 qv qs):=Rd.kept (Q1.o.1.alloc _) az (fun q hq e=>by
   have h1:=(Q1.o.2 q e).1;have h2:=(HOWN.o.lt q hq).2
   omega)
  clear aM az jr;go_wp2_with fail;have ah:PlA N L w qv v4 w4:=⟨k+1,qs,jS.o,HQ.o,r6.o,jR.o,bG.o,.inr (by rw[adQ];exact HZ.o)⟩;have hl4:=Mr jR.o;have CP:=HLP.o;have lF:=rO.o
  first|exact⟨ah,by omega⟩|exact⟨by (repeat apply Exists.intro);exact⟨ah,rfl⟩,by omega⟩
def PW (w:World)(R:Nat)(og:Option Nat)(pv:Value)(np:Nat):Prop:=∃gp cap,(0<np->pv=.slice (some ⟨gp,0,none⟩) np cap/\np<=cap/\cap<=maxLen/\gp<w.heap.size/\gp≠R/\og≠some gp)/\∀i,i<np-> ∃v bs,w.cell? ⟨gp,i,none⟩=some v/\Rd w v bs/\val bs=UU^2^i/\bs.length<=274877906944/\2^i<=34359738368/\ ∀q,v.ownBlock=some q->q≠R/\og≠some q
theorem PW.wr {w w':World}{R:Nat}{og og':Option Nat}{pv:Value}{np:Nat}(h:PW w R og pv np)(hw:Wr R og w w')(hm:Mv w og og'):PW w' R og' pv np:=by
 obtain⟨gp,E,H,I⟩:=h;refine⟨gp,E,fun h0=> ?_,fun i hi=> ?_⟩
 ·obtain⟨a1,a2,a3,a4,a5,a6⟩:=H h0
  refine⟨a1,a2,a3,aaj a4 hw.size,a5,fun e=> ?_⟩;rcases hm gp e with h|h
  ·exact a6 h
  omega
 obtain⟨a1,a2,a3,a4,a5,a6⟩:=H (by omega);obtain⟨v,bs,b1,b2,b3,b4,b5,b6⟩:=I i hi;refine⟨v,bs,(abG (hw.block gp a4 a5 (fun e=>a6 e.symm))).trans b1,b2.wr hw (fun k hk=>b6 k hk),b3,b4,b5,fun q hq=>⟨(b6 q hq).1,fun e=> ?_⟩⟩;rcases hm q e with h|h
 ·exact(b6 q hq).2 h
 have:=b2.1 q hq;omega
theorem PW.below {w w':World}{R:Nat}{og:Option Nat}{pv:Value}{np:Nat}(h:PW w R og pv np)(hb:Below w.heap.size w w'):PW w' R og pv np:=h.wr (Wr.af hb) (Mv.refl _ _)
def Pd (k np:Nat):Prop:=∀(R width:Nat) (v pv ov:Value) (xs:List Nat) (out:Bytes) (w:World),WS w R pv ov out->SG w->PW w R ov.ownBlock pv np->Rd w v xs->(∀q,v.ownBlock=some q->q≠R/\ov.ownBlock≠some q)->xs.length<=17179869184->out.length+(pad (val xs) width).length<=274877906944->Calls Tryz.prog 216 #[.pointer (some ⟨R,0,none⟩),v,.int .i64 ((k:Int)-1),.int .i64 (width:Nat)] w (ZG w R pv ov out ((pad (val xs) width).map jY))
theorem Qqw (np:Nat):Pd 0 np:=by
 intro R width v pv ov xs out w h hs hp hv hne hl hb;have HS:=zq h;have eo:=zq hs;have HV:=zq hv
 have hw:width<=274877906944:=by rw[Bl]at hb;omega
 have ho:out.length<=274877906944:=by omega
 have HW:=zq hw;have HO:=zq ho
 have dc:decide (((0:Nat):Int)-1<0)=true:=by decide
 clear h hs hp hv hne hb hw ho;go_enter Tryz.func216,Tryz.ntmps216;go_wp2_with fail;refine(Ck R width _ pv ov xs out _ HS.o eo.o HV.o hl HW.o HO.o).mono ?_;rintro e w1 ⟨xS,rfl,r1,r2,r3⟩;have HR:=zq (And.intro r1 (And.intro r2 r3));clear r1 r2 r3;go_wp2_with fail;go_end0;exact⟨xS,rfl,HR.o.1,HR.o.2.1,HR.o.2.2⟩
theorem Qqk (k np:Nat)(hk:k<np)(IH:Pd k np):Pd (k+1) np:=by
 intro R width v pv ov xs out w h hs hp hv hne hl hb;have HS:=zq h;have eo:=zq hs;have HP:=zq hp;have HV:=zq hv;have bR:=zq hne;have vF:=zq hb;have HI:=zq IH
 have hw:width<=274877906944:=by rw[Bl]at hb;omega
 have ho:out.length<=274877906944:=by omega
 obtain⟨ao,cap,rfl,bq,hcm,aZ,-⟩:=hv.2
 have fg:(((k+1:Nat):Int)-1)=(k:Int):=by omega
 rw[fg]
 have dc:decide ((k:Int)<0)=false:=by simp
 have LM:=h.lt;clear h hs hp hv hne hb aZ hcm fg IH;by_cases lr:xs.length<=12
 ·have jV:decide ((xs.length:Int)<=12)=true:=by simp;omega
  clear lr;go_enter Tryz.func216,Tryz.ntmps216;go_wp2_with fail;refine(Ck R width _ pv ov xs out _ HS.o eo.o HV.o hl hw ho).mono ?_;rintro e w1 ⟨xS,rfl,r1,r2,r3⟩;have HR:=zq (And.intro r1 (And.intro r2 r3));clear r1 r2 r3;go_wp2_with fail;go_end0;exact⟨xS,rfl,HR.o.1,HR.o.2.1,HR.o.2.2⟩
 have jV:decide ((xs.length:Int)<=12)=false:=by simp;omega
 obtain⟨gp,EG,kP,jG⟩:=HP.o;obtain⟨rfl,tV,vg,fe,yQ,hgo⟩:=kP (by omega);obtain⟨bv,bs,cb,hbr,jt,hbl,hb2,oJ⟩:=jG k hk
 have CM:k<64:=by have h1:2^k<2^36:=adH hb2 (by decide);have:=(Nat.pow_lt_pow_iff_right (a:=2) (by omega)).1 h1;omega
 have uJ:=zq hbr;have qP:=zq jt;have c3:=HS.o.cell.2.2.2.1;have c1:=HS.o.cell.2.1;have MW:(0:Int)<=(k:Int):=abP _
 have GI:(k:Int)<(np:Int):=by omega
 obtain⟨P,hP⟩:=xq (UU^2^k);rw[<-hP]at jt
 have hP0:0<P:=by rw[hP];exact adZ Mx
 have HP0:=zq hP0;have WL:=zq hP;have Ip:=zq oJ;clear kP jG hbr fe yQ hgo lr hP0 hP oJ;by_cases hlt:val xs<val bs
 ·have HC:=zq (Hv hlt)
  clear hlt jt;go_enter Tryz.func216,Tryz.ntmps216;go_wp2_with fail;refine(Wz _ _ xs bs _ HV.o uJ.o).mono ?_;rintro e w1 ⟨rfl,hb1⟩;rw[HC.o];have aC:=zq hb1;clear hb1 c3 c1 cb;go_wp2_with fail;refine(HI.o R width _ _ ov xs out _ (HS.o.below aC.o) (eo.o.below aC.o (by have:=HS.o.big;omega)) (HP.o.below aC.o) (HV.o.below aC.o) bR.o hl vF.o).mono ?_;rintro e w2 ⟨xS,rfl,r1,r2,r3⟩;have HR:=zq (And.intro r1 (And.intro r2 r3));clear r1 r2 r3;go_wp2_with fail;go_end0;exact⟨xS,rfl,HR.o.1,(Wr.af aC.o).trans (Mv.refl _ _) HR.o.2.1,fun q hq=>(HR.o.2.2 q hq).imp id (fun h=>aan aC.o.size h)⟩
 obtain⟨c,hc⟩:=xq (di (val xs) (val bs))
 have hcb:decide (c<0)=false:=by
  rw[hc];unfold di;rw[if_neg hlt]
  split<;>decide
 have HC:=zq hc;obtain⟨lw,NK⟩:=xq (19*2^k);have S1:IntKind.u64.wrap (k:Int)=(k:Int):=Wq _ (by omega)
 have S2:min k 64=k:=by omega
 have S3:IntKind.i64.wrap (19*2^k)=(lw:Int):=by
  have e:(19*2^k:Int)=((19*2^k:Nat):Int):=by rw[ad1,aeq];rfl
  rw[e,<-NK];exact abL _ (by omega)
 obtain⟨w1',OM⟩:=xq (width-lw)
 have S4:max ((width:Int)-(lw:Int)) 0=(w1':Int):=by omega
 have acR:lw<=652835028992:=by omega
 have LJ:P=10^lw:=by rw[WL.o,NK,Qp2,<-Nat.pow_mul]
 have GR:∀q r,q=val xs / val bs->r=val xs % val bs->pad (val xs) width=pad q w1'++pad r lw/\r<10^lw:=by
  intro q r hq hr
  have mK:val bs=10^lw:=by rw[jt,LJ]
  have hb0:0<val bs:=by rw[jt];exact HP0.o
  have hr2:r<10^lw:=by rw[hr,<-mK];exact ad8 _ hb0
  have tY:0<q:=by rw[hq];exact Nat.div_pos (aeV hlt) hb0
  have e:val xs=q*10^lw+r:=by rw[hq,hr,<-mK,aaW];exact(ad5 _ _).symm
  refine⟨?_,hr2⟩;rw[e,D9 tY hr2,Qma hr2,OM]
 have zR:=zq GR
 have hb0:0<val bs:=by rw[jt];exact HP0.o
 have bU:=zq hb0;clear hlt jt hc NK hb2 OM LJ GR hb0;go_enter Tryz.func216,Tryz.ntmps216;go_wp2_with fail;refine(Wz _ _ xs bs _ HV.o uJ.o).mono ?_;rintro e w1 ⟨rfl,hb1⟩;rw[<-HC.o];have aC:=zq hb1;have hz1:=hb1.size;have cL:=zq (HS.o.below hb1);have c3':=cL.o.cell.2.2.2.1;have c1':=cL.o.cell.2.1
 have cb':w1.cell? ⟨gp,k,none⟩=some bv:=by rw[hb1.cell (p:=⟨gp,k,none⟩) (adu w _ cb)];exact cb
 clear hb1 c3 c1 cb;go_wp2_with fail;refine(Qjz _ _ xs bs _ (HV.o.below aC.o) (uJ.o.below aC.o) (by omega) hbl bU.o).mono ?_;rintro e w2 ⟨qv,rv,qs,rs,rfl,q1,q2,q3,q4,r1,r2,r3,r4,hb2⟩;obtain⟨p1,p2⟩:=zR.o _ _ q2 r2;have aD:Hid (Below w.heap.size w w2):=aC.o.trans (hb2.mono hz1);have cr:=zq (cL.o.below hb2);have c1:=cr.o.cell.2.1;have Q1:=zq q1;have R1:=zq r1
 have xr:qs.length<=17179869184:=by omega
 have mX:rs.length<=17179869184:=by
  have h1:val rs<BB^xs.length:=by refine adH ?_ (Yy HV.o.ok);rw[r2];exact Nat.mod_le _ _
  have h2:=Yw rs xs.length h1;rw[r4]at h2;omega
 have WI:=zq p1;have LY:=vF.o;rw[p1,aac]at LY;have Im:=zq LY;have DD:∀q,ov.ownBlock=some q->q<w.heap.size:=fun q hq=>(HS.o.ne q hq).2;have uO:=zq DD;clear q1 q2 q3 q4 r1 r2 r3 r4 hb2 c3' c1' cb' p1 p2 LY DD;go_wp2_with fail
 refine(HI.o R w1' _ _ ov qs out _ cr.o (eo.o.below aD.o (by have:=HS.o.big;omega)) (HP.o.below aD.o) Q1.o.1 (fun q hq=>by
  have h1:=(Q1.o.2 q hq).1;refine⟨by omega,fun e=> ?_⟩;have:=uO.o q e
  omega) xr (by have:=Im.o;omega)).mono ?_
 rintro e w3 ⟨xS,rfl,a1,a2,a3⟩;have A1:=zq a1;have A2:=zq a2;have A3:=zq a3;have vW:Hid (SG w3):=(eo.o.below aD.o (by have:=HS.o.big;omega)).wr a2 (by have:=HS.o.big;omega) (fun e=>by have:=uO.o _ e;have:=HS.o.ne _ e;have:=HS.o.big;omega);have mn:=zq ((HP.o.below aD.o).wr a2 a3)
 have o9:Hid (Rd w3 rv rs):=R1.o.1.wr a2 (fun q hq=>by
  have h1:=(R1.o.2 q hq).1;refine⟨by omega,fun e=> ?_⟩;have:=uO.o q e
  omega)
 have Om:∀q,rv.ownBlock=some q->q≠R/\xS.ownBlock≠some q:=fun q hq=>by
  have h1:=R1.o.2 q hq;refine⟨by omega,fun e=> ?_⟩;rcases a3 q e with h|h
  ·have:=uO.o q h;omega
  omega
 have JB:=zq Om;clear a1 a2 a3 c1 Om;go_wp2_with fail;refine(HI.o R lw _ _ xS rs _ _ A1.o vW.o mn.o o9.o JB.o mX (by rw[aac,aay];have:=Im.o;omega)).mono ?_;rintro e w4 ⟨Ig,rfl,b1,b2,b3⟩;have aR:=zq (And.intro b1 (And.intro b2 b3));clear b1 b2 b3;go_wp2_with fail;go_end0;obtain⟨b1,b2,b3⟩:=aR.o;rw[aar,<-ado,<-WI.o]at b1;refine⟨Ig,rfl,b1,(Wr.af aD.o).trans (Mv.refl _ _) (A2.o.trans A3.o b2),?_⟩;have m1:Mv w ov.ownBlock xS.ownBlock:=fun q hq=>(A3.o q hq).imp id (fun h=>aan aD.o.size h);exact Mv.trans (R:=R) (w':=w3) m1 (aan aD.o.size A2.o.size) b3
theorem Se (np:Nat):∀k,k<=np->Pd k np:=by
 intro k
 induction k with
 |zero=>intro _;exact Qqw np
 |succ k ih=>intro h;exact Qqk k np h (ih (by omega))
end Go.Proofs.YtgfmiladfeoldaaGreatDoor
namespace aF
def Y6:List Nat->Nat->Nat->List Nat
 | [],_,v=>if 0<v then [v] else []
 |d::ds,b,v=>(d*b+v) % 65536::Y6 ds b ((d*b+v) / 65536)
def aJ:List Nat->Nat
 | []=>0
 |d::ds=>d+65536*aJ ds
theorem Qpm:∀(ds:List Nat) (b v:Nat),aJ (Y6 ds b v)=aJ ds*b+v:=by
 intro ds
 induction ds with
 |nil=>intro b v;unfold Y6;split<;>simp[aJ];omega
 |cons d ds ih=>intro b v;simp only[Y6,aJ,ih];have:=Nat.mod_add_div (d*b+v) 65536;rw[abp,<-abF,ab5,abF 65536];generalize aJ ds*b=q at*;omega
theorem Qj6:∀(ds:List Nat) (b v:Nat),(∀d∈ds,d<65536)->b<=65536->v<65536-> ∀d∈Y6 ds b v,d<65536:=by
 intro ds
 induction ds with
 |nil=>intro b v _ _ I d h;unfold Y6 at h;split at h<;>simp at h;omega
 |cons x ds ih=>
  intro b v E H I d h;simp only[Y6,abY]at h;rcases h with rfl|h
  ·omega
  have K:=E x (by simp);have J:x*b<=65535*65536:=ab7 (by omega) H;exact ih b _ (fun y hy=>E y (by simp[hy])) H (by omega) d h
theorem Qmr:∀(ds:List Nat) (b v:Nat),(Y6 ds b v).length<=ds.length+1:=by
 intro ds
 induction ds with
 |nil=>intro b v;unfold Y6;split<;>simp
 |cons d ds ih=>intro b v;simp only[Y6,aaf];have:=ih b ((d*b+v) / 65536);omega
def Qd (l:List Nat):List Nat:=(l.reverse.dropWhile (· ==0)).reverse
theorem Z9 (l:List Nat):Qd (l++[0])=Qd l:=by simp[Qd]
theorem Yu (l:List Nat)(d:Nat)(h:d≠0):Qd (l++[d])=l++[d]:=by simp[Qd,h]
def Cl (l:List Nat):Nat:=aJ (l.take 4)
def Kc:Nat->List Nat->List Nat
 |0,_=>[]
 |_+1,[]=>[]
 |n+1,d::ds=>Cl (d::ds)::Kc n ((d::ds).drop 4)
def Jx (l:List Nat):List Nat:=Kc l.length l
theorem Qjb:∀(n:Nat) (l:List Nat),l.length<=n->Kc n l=Kc l.length l:=by
 intro n
 induction n using Nat.strongRecOn with
 |ind n ih=>
  intro l h
  cases l with
  |nil=>cases n<;>rfl
  |cons b l=>
   cases n with
   |zero=>simp at h
   |succ n=>
    simp only[aaf]at h;simp only[Kc,aaf];by_cases hn:l.length=n
    ·rw[hn]
    rw[ih n (by omega) _ (by simp;omega),ih l.length (by omega) _ (by simp)]
theorem Md:Jx []=[]:=rfl
theorem Pv {l:List Nat}(h:l≠[]):Jx l=Cl l::Jx (l.drop 4):=by
 cases l with
 |nil=>exact absurd rfl h
 |cons d l=>unfold Jx;simp only[aaf,Kc];rw[Qjb l.length _ (by simp)]
theorem Ve:∀(a b:List Nat),aJ (a++b)=aJ a+65536^a.length*aJ b:=by
 intro a
 induction a with
 |nil=>intro b;simp[aJ]
 |cons d a ih=>intro b;simp only[adV,aJ,ih,aaf,ady];rw[abp,<-abF,aaW 65536 (65536^a.length)];omega
theorem Hf:∀(a:List Nat),(∀d∈a,d<65536)->aJ a<65536^a.length:=by
 intro a
 induction a with
 |nil=>intro _;simp[aJ]
 |cons d a ih=>intro h;have E:=ih fun x hx=>h x (by simp[hx]);have H:=h d (by simp);simp only[aJ,aaf,ady];have I:65536*(aJ a+1)<=65536*65536^a.length:=adI _ E;rw[aaW (65536^a.length)];omega
def gG (l:List UInt8):List Nat:=l.foldl (fun d c=>Y6 d 10 (c.toNat-48)) []
def Qf (c:UInt8):Bool:=48<=c.toNat && c.toNat<=57
theorem Qyh (l:List UInt8)(c:UInt8):gG (l++[c])=Y6 (gG l) 10 (c.toNat-48):=by simp[gG,List.foldl_append]
theorem Tu (l:List UInt8):∀d∈gG l,d<65536:=by
 have:∀(l:List UInt8) (a:List Nat),(∀d∈a,d<65536)-> ∀d∈l.foldl (fun d c=>Y6 d 10 (c.toNat-48)) a,d<65536:=by
  intro l
  induction l with
  |nil=>intro a h;exact h
  |cons c l ih=>intro a h;exact ih _ (Qj6 a 10 _ h (by omega) (by have:=c.toNat_lt;omega))
 exact this l [] (by simp)
theorem Np (l:List UInt8):(gG l).length<=l.length:=by
 have:∀(l:List UInt8) (a:List Nat),(l.foldl (fun d c=>Y6 d 10 (c.toNat-48)) a).length<=a.length+l.length:=by
  intro l
  induction l with
  |nil=>intro a;simp
  |cons c l ih=>intro a;simp only[List.foldl_cons,aaf];have:=ih (Y6 a 10 (c.toNat-48));have:=Qmr a 10 (c.toNat-48);omega
 have h:=this l [];simp only[aaG,abx]at h;exact h
end aF
namespace Go.Proofs.YtgfmiladfeoldaaGreatDoor
open Go.RowKit ag aF
def Xe (l:List Nat):List Value:=l.map fun d=> .int .i64 (d:Nat)
theorem Xu (a b:List Nat):Xe (a++b)=Xe a++Xe b:=by simp[Xe]
theorem Yj (a:List Nat):(Xe a).length=a.length:=by simp[Xe]
theorem Tryz.cC:(Tryz.prog.info? 3).map (fun i=>(i.zero,i.size,i.bytes))=some (some (.int .i64 0),1,8):=by kernel_rfl
def bX (B:Nat)(w:World)(v:Value)(ds:List Nat):Prop:=w.ownsRow B 3 1 v ds.length (Xe ds)
theorem Fk {w:World}{B:Nat}{e:TypeId}{size:Nat}{ao:Option Addr}{n cap k:Nat}{xs:List Value}(h:w.ownsRow B e size (.slice ao n cap) n xs)(hk:k<=n):w.ownsRow B e size (.slice ao k cap) k (xs.take (k*size)):=by
 have J:k*size<=n*size:=abW _ hk;refine⟨by rw[aak,h.1];omega,?_⟩;rcases h.2 with ⟨E,rfl⟩|⟨g,cap',H,E,O,T,Z,K,I,U⟩
 ·cases E
  obtain rfl:k=0:=by omega
  exact .inl ⟨rfl,rfl⟩
 cases E
 refine .inr ⟨g,cap,H,rfl,O,T,by omega,K,I,?_⟩;rw[<-U,aeK,abd J]
theorem bX.head {B:Nat}{w:World}{ao:Option Addr}{cap k:Nat}{ds:List Nat}(h:bX B w (.slice ao ds.length cap) ds)(hk:k<=ds.length):bX B w (.slice ao k cap) (ds.take k):=by
 have E:=Fk h hk;unfold bX
 have e:Xe (ds.take k)=(Xe ds).take (k*1):=by simp[Xe]
 rw[aak,abd hk,e];exact E
theorem Qvb {l:List Nat}{d:Nat}(h:l.getLast? =some d)(hd:d≠0):Qd l=l:=by obtain⟨q,rfl⟩:=List.getLast?_eq_some_iff.1 h;exact Yu q d hd
def Qpi (B:Nat)(l:List Nat)(w:World)(e:Ending)(w':World):Prop:=∃v,e=.returned v/\bX B w' v l/\Below B w w'
def Qdu (B:Nat)(ds:List Nat)(b v:Nat)(dv:Value)(w:World)(sv si:Value)(wr:World):Prop:=
 ∃k vk dn,k<=ds.length/\si=.int .i64 (k:Nat)/\sv=.int .i64 (vk:Nat)/\vk<65536/\dn.length=k/\Y6 ds b v=dn++Y6 (ds.drop k) b vk/\wr.ownsRow B 3 1 dv ds.length (Xe (dn++ds.drop k))/\Below B w wr
theorem Qms (B:Nat)(ds:List Nat)(b v:Nat)(dv:Value)(w:World)(hown:bX B w dv ds)(hB:B<=w.heap.size)(hds:∀d∈ds,d<65536)(hb:b<=36)(hv:v<65536)(hl:ds.length<=2097152):Calls Tryz.prog 195 #[dv,.int .i64 (b:Nat),.int .i64 (v:Nat)] w (Qpi B (Y6 ds b v) w):=by
 obtain⟨i0,hi,hz0,hz1,hz2⟩:=abO Tryz.cC;have HD:=zq hds;have HO:=zq hown;obtain⟨ao,cap,mO,bq,hcm,-⟩:=Qj hown;subst mO;clear hds hown hcm;go_enter Tryz.func195,Tryz.ntmps195;go_wp2_with fail;go_loopw [2,7] (fun sv si wr=>Qdu B ds b v (.slice ao ds.length cap) w sv si wr) (fun _ si _=>ds.length-(intOf si).toNat)
 case atStart=>exact⟨0,v,[],aao _,rfl,rfl,hv,rfl,rfl,HO.o,aa8 _ _⟩
 case round=>
  obtain⟨k,vk,dn,hk,rfl,rfl,hvk,cD,hon,hown,hbl⟩:=hrel;have QL:=zq hon;have nZ:=zq cD;have hzz:=hbl.size;clear hon cD;by_cases hlt:k<ds.length
  ·obtain⟨d,hd⟩:∃d,ds[k]?=some d:=⟨_,aad hlt⟩
   obtain⟨wI,fz,tu,-,-,aU⟩:=Qj hown;obtain⟨g,hao,hbg,lD,hcell⟩:=aU (by omega)
   cases tu
   subst hao;have ja:=HD.o d (aah hd)
   have iy:ds.drop k=d::ds.drop (k+1):=by rw[aaS hlt];have:=aad hlt;rw[hd]at this;rw[aax this]
   have e1:wr.cell? ⟨g,k,none⟩=some (.int .i64 (d:Nat)):=by
    rw[hcell k (by omega),iy,Xu,abw (by rw[Yj];have:=nZ.o;omega)]
    have:k-(Xe dn).length=0:=by rw[Yj];have:=nZ.o;omega
    rw[this];rfl
   have e2:wr.frozen? ⟨g,k,none⟩=false:=hown.frozenAt k
   have pD:(0:Int)<=(d:Int)*(b:Int):=by rw[<-ad1];omega
   have cW:(d:Int)*(b:Int)<=2359260:=by have h1:d*b<=65535*36:=ab7 (by omega) hb;rw[<-ad1];omega
   have hst:=hown.stored k (.int .i64 (((d*b+vk) % 65536:Nat)))
   have aY:(Xe (dn++ds.drop k)).set k (.int .i64 (((d*b+vk) % 65536:Nat)))=Xe ((dn++[(d*b+vk) % 65536])++ds.drop (k+1)):=by
    rw[iy,Xu,List.set_append_right _ _ (by rw[Yj];have:=nZ.o;omega)]
    have:k-(Xe dn).length=0:=by rw[Yj];have:=nZ.o;omega
    rw[this,Xu,Xu,aar];rfl
   rw[aY]at hst;have HST:=zq hst;have zz:=zq iy;clear hcell aU hst aY iy hd
   have tY:(0:Int)<=((d:Int)*(b:Int)+(vk:Int)) / 65536:=by omega
   have GU:((d*b+vk) / 65536:Nat)<65536:=by have h1:d*b<=65535*36:=ab7 (by omega) hb;omega
   have WE:Hid (Y6 ds b v=(dn++[(d*b+vk) % 65536])++Y6 (ds.drop (k+1)) b ((d*b+vk) / 65536)):=by show _=_;rw[QL.o,zz.o];simp[Y6]
   have ev:Hid (Value.int .i64 (((d:Int)*(b:Int)+(vk:Int)) / 65536)=.int .i64 (((d*b+vk) / 65536:Nat):Int)):=by show _=_;congr 1
   have em:Hid (Value.int .i64 (((d:Int)*(b:Int)+(vk:Int)) % 65536)=.int .i64 (((d*b+vk) % 65536:Nat):Int)):=by show _=_;congr 1
   go_wp2_with fail;rw[em.o]
   refine⟨⟨k+1,(d*b+vk) / 65536,dn++[(d*b+vk) % 65536],by omega,by go_num,ev.o,GU,by rw[aac,nZ.o];rfl,WE.o,HST.o.1,hbl.setCell hbg _⟩,by simp[intOf]<;>omega⟩
  have bh:k=ds.length:=by omega
  have hend:Hid (Y6 ds b v=dn++if 0<vk then [vk] else []):=by show _=_;rw[QL.o,aef (by omega)];rfl
  have hown2:wr.ownsRow B 3 1 (.slice ao ds.length cap) ds.length (Xe dn):=by rw[aef (by omega),ab4]at hown;exact hown
  have hlen:Hid (dn.length=ds.length):=by show _=_;rw[nZ.o];exact bh
  by_cases hv0:0<vk
  ·have HE:Hid (Y6 ds b v=dn++[vk]):=by show _=_;rw[hend.o,if_pos hv0]
   clear hend hown bh;go_wp2_with (at_builtin;refine adO _ rfl _ _ 41 rfl B 3 i0 (.int .i64 0) 1 8 Tryz.underlying41 hi hz0 hz1 hz2 rfl (by decide) _ _ _ rfl (hown2.alloc _) ⟨wr.heap.size,0,none⟩ 1 1 [.int .i64 vk] rfl rfl ?c1 ?c2 ?c3 ?c4 ?c5 ?_)
   case c1=>exact Qh _ _ _ _ rfl
   case c2=>intro u hu;simp at hu;subst hu;rfl
   case c3=>unfold maxLen;omega
   case c4=>omega
   case c5=>simp;omega
   intro v3 w3 au ak _
   have eM:Hid (bX B w3 v3 (Y6 ds b v)):=by show World.ownsRow _ _ _ _ _ _ _;rw[HE.o,Xu,aac,hlen.o];exact au
   have aS:Hid (Below B w w3):=abq (hbl.alloc (by omega) _) ak (by simp;omega) (fun q hq=>(hown2.lt q hq).1);clear au ak;go_wp2_with fail;go_ret;exact⟨_,rfl,eM.o,aS.o⟩
  have HE:Hid (Y6 ds b v=dn):=by show _=_;rw[hend.o,if_neg hv0,ab4]
  clear hend hown bh;go_wp2_with fail;go_ret;refine⟨_,rfl,?_,hbl⟩;show World.ownsRow _ _ _ _ _ _ _;rw[HE.o,hlen.o];exact hown2
def Qp0 (B:Nat)(ds:List Nat)(w:World)(e:Ending)(w':World):Prop:=∃v,e=.returned v/\bX B w v (Qd ds)/\w=w'
theorem Qzk (B:Nat)(ds:List Nat)(dv:Value)(w:World)(hown:bX B w dv ds):Calls Tryz.prog 196 #[dv] w (Qp0 B ds w):=by
 have HO:=zq hown;obtain⟨ao,cap,mO,bq,hcm,-⟩:=Qj hown;subst mO
 have hm:ds.length<=9223372036854775807:=by unfold maxLen at hcm;omega
 clear hown hcm;go_enter Tryz.func196,Tryz.ntmps196;go_wp2_with fail;go_loop [3] (fun n=> ∃k:Nat,k<=ds.length/\n=.int .i64 (k:Nat)/\Qd (ds.take k)=Qd ds) (fun n=>(intOf n).toNat)
 case atStart=>exact⟨ds.length,aaa _,rfl,by rw[adx]⟩
 case round=>
  obtain⟨k,hk,rfl,hst⟩:=hrel;have HST:=zq hst;clear hst;by_cases h0:0<k
  ·obtain⟨wI,fz,tu,-,-,aU⟩:=Qj HO.o
   obtain⟨g,hao,hbg,lD,hcell⟩:=aU (by omega)
   cases tu
   subst hao;obtain⟨d,hd⟩:∃d,ds[k-1]?=some d:=⟨_,aad (by omega)⟩
   have e1:w.cell? ⟨g,k-1,none⟩=some (.int .i64 (d:Nat)):=by rw[hcell (k-1) (by omega)];simp[Xe,hd]
   have dc:(0:Int)<=(k:Int)-1:=by omega
   have jV:(((k:Int)-1).toNat)=k-1:=by omega
   have bT:Hid (ds.take k=ds.take (k-1)++[d]):=by show _=_;have:=ab2 (l:=ds) (i:=k-1);rw[show k-1+1=k from by omega,hd]at this;exact this
   clear aU hcell hd;by_cases qu:d=0
   ·have hz1:((d:Int)==0)=true:=by simp[qu]
    have zA:=zq qu;clear qu;go_wp2_with fail
    exact⟨⟨k-1,by omega,by show Value.int .i64 _=_;congr 1;omega,by rw[<-HST.o,bT.o,zA.o,Z9]⟩,by simp[intOf]<;>omega⟩
   have hz1:((d:Int)==0)=false:=by simp[qu]
   have zA:=zq qu;clear qu;go_wp2_with fail;go_ret
   have e:Qd ds=ds.take k:=by rw[<-HST.o,bT.o,Yu _ _ zA.o]
   exact⟨_,rfl,by rw[e];exact bX.head HO.o hk,rfl⟩
  obtain rfl:k=0:=by omega
  go_wp2_with fail;go_ret
  have e:Qd ds=ds.take 0:=by rw[<-HST.o];rfl
  exact⟨_,rfl,by rw[e];exact bX.head HO.o hk,rfl⟩
def Ru (l:List Nat):List Value:=l.map fun d=> .int .u64 (d:Nat)
theorem Ew (a b:List Nat):Ru (a++b)=Ru a++Ru b:=by simp[Ru]
theorem Tryz.xD:(Tryz.prog.info? 101).map (fun i=>(i.zero,i.size,i.bytes))=some (some (.int .u64 0),1,8):=by kernel_rfl
def jn (B:Nat)(w:World)(v:Value)(ds:List Nat):Prop:=w.ownsRow B 101 1 v ds.length (Ru ds)
def Ab (ds:List Nat)(w:World)(e:Ending)(w':World):Prop:=∃v,e=.returned v/\jn w.heap.size w' v (Jx (Qd ds))/\Below w.heap.size w w'
theorem Qco {B:Nat}{w:World}{ao:Option Addr}{cap:Nat}{ds:List Nat}(h:bX B w (.slice ao ds.length cap) ds)(k d:Nat)(hd:ds[k]?=some d):∃g,ao=some ⟨g,0,none⟩/\B<=g/\g<w.heap.size/\w.cell? ⟨g,k,none⟩=some (.int .i64 (d:Nat)):=by
 have Z:k<ds.length:=(aae.1 hd).1;obtain⟨U,T,H,-,-,O⟩:=Qj h;obtain⟨g,I,J,K,E⟩:=O (by omega)
 cases H
 exact⟨g,I,J,K,by rw[E k (by omega)];simp[Xe,hd]⟩
theorem Qvo (l:List Nat)(h:∀d∈l,d<65536)(i j:Nat)(hj:1<=j):aJ ((l.drop (i+j)).take (4-j))<=281474976710655:=by
 have E:=Hf ((l.drop (i+j)).take (4-j)) (fun d hd=>h d (adU (adD hd)));have H:65536^((l.drop (i+j)).take (4-j)).length<=65536^3:=adE (by omega) (by rw[aak];omega)
 have I:65536^3=281474976710656:=by decide
 omega
theorem Qpf {l:List Nat}{i j:Nat}(hj:j<4){d:Nat}(hd:l[i+j]?=some d):aJ ((l.drop (i+j)).take (4-j))=d+65536*aJ ((l.drop (i+(j+1))).take (4-(j+1))):=by
 have h:i+j<l.length:=(aae.1 hd).1
 have e:l.drop (i+j)=d::l.drop (i+(j+1)):=by rw[aaS h];have:=aad h;rw[hd]at this;rw[aax this];rfl
 rw[e,show 4-j=(4-(j+1))+1 from by omega,aei];rfl
theorem Qzm {l:List Nat}{i j:Nat}(h:l.length<=i+j):aJ ((l.drop (i+j)).take (4-j))=0:=by rw[aef h];simp[aJ]
def Qf8 (ds:List Nat)(w1:World)(B:Nat)(v i:Value)(wr:World):Prop:=
 ∃k acc,i=.int .i64 (k:Nat)/\k<=ds.length+3/\Jx ds=acc++Jx (ds.drop k)/\jn B wr v acc/\Below B w1 wr/\acc.length<=k
theorem Gl (B:Nat)(pg:List Nat)(dv:Value)(w:World)(hown:bX B w dv pg)(hds:∀d∈pg,d<65536)(hl:pg.length<=536870912):Calls Tryz.prog 152 #[dv] w (Ab pg w):=by
 obtain⟨i0,hi,hz0,hz1,hz2⟩:=abO Tryz.xD
 have MH:∀d∈Qd pg,d<65536:=fun d hd=>hds d (by
  unfold Qd at hd;rw[List.mem_reverse]at hd
  exact List.mem_reverse.1 ((List.dropWhile_sublist _).subset hd))
 have hl2:(Qd pg).length<=536870912:=by
  have:(Qd pg).length<=pg.length:=by unfold Qd;rw[aeo];have:=(List.dropWhile_sublist (· ==0) (l:=pg.reverse)).length_le;rw[aeo]at this;exact this
  omega
 have HD:=zq MH;have HO:=zq hown;clear hds MH hown hl;go_enter Tryz.func152,Tryz.ntmps152;go_wp2_with fail;refine(Qzk B pg dv w HO.o).mono ?_;rintro e w' ⟨v,rfl,DD,rfl⟩;have hjp:∀e w',Ab pg w e w'=∃v,e=.returned v/\jn w.heap.size w' v (Jx (Qd pg))/\Below w.heap.size w w':=fun _ _=>rfl;obtain⟨ds,hdd⟩:=xq (Qd pg);rw[<-hdd]at DD hl2 HD;have x8:=zq hdd;have HV:=zq DD;obtain⟨ao,cap,mO,bq,hcm,-⟩:=Qj DD;subst mO;clear DD hcm hjp hdd;go_wp2_with (at_make;refine wpList_make_own _ rfl _ _ 59 rfl w.heap.size 101 i0 (.int .u64 0) 1 Tryz.underlying59 hi hz0 hz1 _ _ _ (ds.length / 4+1) rfl rfl ?hC ?b1 ?b2 ?b3 ?_)
 case hC=>omega
 case b1=>rw[hz2];omega
 case b2=>unfold maxLen;omega
 case b3=>exact aaa _
 intro w1 hown1 hgrow1;have hb1:Below w.heap.size w w1:=abq (aa8 _ _) hgrow1 (aaa _) (fun k hk=>by cases hk);have HOW:=zq hown1;have aC:=zq hb1;clear hown1 hgrow1 hb1;go_wp2_with fail;go_loopw [3,4] (fun v i wr=>Qf8 ds w w.heap.size v i wr) (fun _ i _=>ds.length+3-(intOf i).toNat)
 case atStart=>exact⟨0,[],rfl,by omega,rfl,HOW.o,aC.o,aaa _⟩
 case round=>
  obtain⟨k,acc,rfl,hk,uY,hown,hb,pn⟩:=hrel;have HJN:=zq uY;have JT:Hid (bX B wr (.slice ao ds.length cap) ds):=Qg HV.o hb (aaa _);have hzz:=hb.size;clear uY;by_cases hlt:k<ds.length
  ·have hne:ds.drop k≠[]:=by rw[Ne,aey];omega
   have HJ1:=zq (Pv hne);clear hne;go_wp2_with fail;go_loop [5,6] (fun wd kk=> ∃j:Nat,j<=4/\kk=.int .i64 ((j:Int)-1)/\wd=.int .u64 (aJ ((ds.drop (k+j)).take (4-j)):Nat)) (fun _ kk=>(intOf kk+1).toNat)
   case atStart=>exact⟨4,aaa _,by rfl,by simp[aJ]⟩
   case round=>
    obtain⟨j,hj,rfl,rfl⟩:=hrel;by_cases MW:0<j
    ·have LY:=Qvo ds HD.o k j MW
     have dc:(0:Int)<=(k:Int)+((j:Int)-1):=by omega
     by_cases jb:k+(j-1)<ds.length
     ·obtain⟨d,hd⟩:∃d,ds[k+(j-1)]?=some d:=⟨_,aad jb⟩
      have ja:=HD.o d (aah hd);have hst:=Qpf (l:=ds) (i:=k) (j:=j-1) (by omega) hd;rw[show j-1+1=j from by omega]at hst;obtain⟨g,hao,hbg,lD,e1⟩:=Qco JT.o _ d hd;subst hao
      have jV:((k:Int)+((j:Int)-1)).toNat=k+(j-1):=by omega
      have cE:(k:Int)+((j:Int)-1)<(ds.length:Int):=by omega
      generalize aJ ((ds.drop (k+j)).take (4-j))=X at*;have HST:=zq hst;clear hd hst;go_wp2_with fail
      exact⟨⟨j-1,by omega,by show Value.int .i64 _=_;congr 1;omega,by rw[HST.o];show Value.int .u64 _=_;congr 1;omega⟩,by simp[intOf]<;>omega⟩
     have hx0:aJ ((ds.drop (k+j)).take (4-j))=0:=Qzm (by omega);have yy:=zq (Qzm (l:=ds) (i:=k) (j:=j-1) (by omega))
     have tA: ¬(k:Int)+((j:Int)-1)<(ds.length:Int):=by omega
     rw[hx0]at*;have XP:=zq hx0;clear hx0 LY;go_wp2_with fail
     exact⟨⟨j-1,by omega,by show Value.int .i64 _=_;congr 1;omega,by rw[yy.o];rfl⟩,by simp[intOf]<;>omega⟩
    obtain rfl:j=0:=by omega
    have py:=Hf ((ds.drop k).take 4) (fun d hd=>HD.o d (adU (adD hd)));rw[adt,Nat.sub_zero];generalize hX:aJ ((ds.drop k).take 4)=X at*;have HX:Hid (Cl (ds.drop k)=X):=hX;clear hX py;go_wp2_with (at_builtin;refine adO _ rfl _ _ 59 rfl w.heap.size 101 i0 (.int .u64 0) 1 8 Tryz.underlying59 hi hz0 hz1 hz2 rfl (by decide) _ _ _ rfl (abj hown _) ⟨wr.heap.size,0,none⟩ 1 1 [.int .u64 X] rfl rfl ?c1 ?c2 ?c3 ?c4 ?c5 ?_)
    case c2=>rfl
    case c3=>unfold maxLen;omega
    case c4=>omega
    case c5=>have:=aC.o.size;simp;omega
    intro v3 w3 au ak _
    have ah:Qf8 ds w w.heap.size v3 (.int .i64 (k+4)) w3:=by
     refine⟨k+4,acc++[X],by go_num,by omega,?_,?_,abq (hb.alloc (by have:=aC.o.size;omega) _) ak (by have:=aC.o.size;simp;omega) (fun q hq=>(aaZ hown q hq).1),by simp;omega⟩
     ·rw[HJN.o,HJ1.o,HX.o,adG];simp
     show World.ownsRow _ _ _ _ _ _ _;rw[Ew,aac];exact au
    have HF:=zq ah;clear au ak ah;go_wp2_with fail
    first|exact⟨HF.o,by simp[intOf]<;>omega⟩|exact⟨by (repeat apply Exists.intro);exact⟨HF.o,rfl⟩,by simp[intOf]<;>omega⟩
  go_wp2_with fail;go_ret;have h1:=HJN.o;rw[aef (by omega),Md,ab4]at h1;refine⟨_,rfl,?_,hb⟩;rw[<-x8.o,h1];exact hown
end Go.Proofs.YtgfmiladfeoldaaGreatDoor
