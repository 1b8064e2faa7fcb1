/- Joined texts of this claim's proof: RfQ, RfL, RfI. -/
import Derived.Test.YtgfmiladfeoldaaGreatDoorPk1
import Derived.Test.YtgfmiladfeoldaaGreatDoorPk32
set_option linter.unusedSimpArgs false
set_option linter.unusedVariables false
set_option maxRecDepth 100000
set_option maxHeartbeats 16000000
namespace RfP
open SynP LexP
theorem Qgq {fin f:Nat}(ih:AllRf fin f):∀s r,expr fin (f+1) s=some r-> ∀(o:Op) (S:List Op) (V:List Ex),lev o.kind=0->Goes fin 1 s (o::S) V r:=by
 intro s r h o S V I pw;unfold expr at h;rcases bind_or h with ⟨e,E,rfl⟩|⟨k,s1,E,J⟩
 ·exact ih.term s _ E o S V (by omega) pw
 ·obtain⟨g1,S1,V1,H,g2,g3,g4⟩:=ih.term s _ E o S V (by omega) pw
  have K:red 1 S1 V1=(o::S,k::V):=by rw[Sg (by decide) g3,Z6 (by omega)]
  exact Qmp g1 g2 (ih.exprLoop k s1 r J o S V S1 V1 H I K g4)
theorem Br {fin f:Nat}(ih:AllRf fin f):∀k s r,exprLoop fin (f+1) k s=some r-> ∀(o:Op) (S:List Op) (V:List Ex) (S0:List Op) (V0:List Ex) (pw:Bool),lev o.kind=0->red 1 S0 V0=(o::S,k::V)->Nx 2 pw s.ts->Kb fin 1 s S0 V0 pw (o::S) V r:=by
 intro k s r h o S V S0 V0 pw ho U K;unfold exprLoop at h;split at h
 ·rename_i T
  have E:∀R,Run fin ⟨s.ts.tail,k::V,⟨43,[],0⟩::o::S,true,pw,s.opened⟩ R->Run fin ⟨s.ts,V0,S0,false,pw,s.opened⟩ R:=fun R hR=>Du (c:=43) rfl (.inl rfl) T U hR;rcases bind_or h with ⟨e,H,rfl⟩|⟨t,s1,H,O⟩
  ·exact E _ (ih.term s.adv _ H ⟨43,[],0⟩ (o::S) (k::V) (by decide) pw)
  ·obtain⟨g1,S1,V1,J,g2,g3,g4⟩:=ih.term s.adv _ H ⟨43,[],0⟩ (o::S) (k::V) (by decide) pw
   have I:red 1 S1 V1=(o::S,.add k t::V):=by
    rw[Sg (by decide) g3,Tm (show (43:Nat)≠110 by decide) (show 1<=lev 43 by decide),Z6 (by omega)];rfl
   exact Qwm (s1:=s1) g1 (fun R hR=>E R (g2 R hR)) (ih.exprLoop _ s1 r O o S V S1 V1 J ho I g4)
 ·rename_i a0
  split at h
  ·rename_i T
   have E:∀R,Run fin ⟨s.ts.tail,k::V,⟨45,[],0⟩::o::S,true,pw,s.opened⟩ R->Run fin ⟨s.ts,V0,S0,false,pw,s.opened⟩ R:=fun R hR=>Du (c:=45) rfl (.inr (.inl rfl)) T U hR;rcases bind_or h with ⟨e,H,rfl⟩|⟨t,s1,H,O⟩
   ·exact E _ (ih.term s.adv _ H ⟨45,[],0⟩ (o::S) (k::V) (by decide) pw)
   ·obtain⟨g1,S1,V1,J,g2,g3,g4⟩:=ih.term s.adv _ H ⟨45,[],0⟩ (o::S) (k::V) (by decide) pw
    have I:red 1 S1 V1=(o::S,.sub k t::V):=by
     rw[Sg (by decide) g3,Tm (show (45:Nat)≠110 by decide) (show 1<=lev 45 by decide),Z6 (by omega)];rfl
    exact Qwm (s1:=s1) g1 (fun R hR=>E R (g2 R hR)) (ih.exprLoop _ s1 r O o S V S1 V1 J ho I g4)
  ·rename_i Z
   cases h
   exact⟨rfl,S0,V0,pw,fun R hR=>hR,U,⟨K.turn,K.pow,fun _=>K.mul (by omega),fun _=>⟨by simpa using a0,by simpa using Z⟩⟩⟩
theorem Qgn {fin f:Nat}(ih:AllRf fin f):∀s r,term fin (f+1) s=some r-> ∀(o:Op) (S:List Op) (V:List Ex),lev o.kind<=1->Goes fin 2 s (o::S) V r:=by
 intro s r h o S V I pw;unfold term at h;rcases bind_or h with ⟨e,E,rfl⟩|⟨k,s1,E,J⟩
 ·exact ih.factor s _ E o S V (by omega) pw
 ·obtain⟨g1,S1,V1,H,g2,g3,g4⟩:=ih.factor s _ E o S V (by omega) pw
  have K:red 2 S1 V1=(o::S,k::V):=by rw[Sg (by decide) g3,Z6 (by omega)]
  exact Qmp g1 g2 (ih.termLoop k s1 r J o S V S1 V1 H I K g4)
theorem Cv {fin f:Nat}(ih:AllRf fin f):∀k s r,termLoop fin (f+1) k s=some r-> ∀(o:Op) (S:List Op) (V:List Ex) (S0:List Op) (V0:List Ex) (pw:Bool),lev o.kind<=1->red 2 S0 V0=(o::S,k::V)->Nx 3 pw s.ts->Kb fin 2 s S0 V0 pw (o::S) V r:=by
 intro k s r h o S V S0 V0 pw U T I;unfold termLoop at h;split at h
 ·rename_i hm
  have E:∀R,Run fin ⟨s.ts.tail,k::V,⟨42,[],0⟩::o::S,true,pw,s.opened⟩ R->Run fin ⟨s.ts,V0,S0,false,pw,s.opened⟩ R:=fun R hR=>Du (c:=42) rfl (.inr (.inr rfl)) hm T hR;rcases bind_or h with ⟨e,H,rfl⟩|⟨t,s1,H,Z⟩
  ·exact E _ (ih.factor s.adv _ H ⟨42,[],0⟩ (o::S) (k::V) (by decide) pw)
  ·obtain⟨g1,S1,V1,O,g2,g3,g4⟩:=ih.factor s.adv _ H ⟨42,[],0⟩ (o::S) (k::V) (by decide) pw
   have K:red 2 S1 V1=(o::S,.mul k t::V):=by
    rw[Sg (by decide) g3,Tm (show (42:Nat)≠110 by decide) (show 2<=lev 42 by decide),Z6 (by omega)];rfl
   exact Qwm (s1:=s1) g1 (fun R hR=>E R (g2 R hR)) (ih.termLoop _ s1 r Z o S V S1 V1 O U K g4)
 ·rename_i J
  cases h
  exact⟨rfl,S0,V0,pw,fun R hR=>hR,T,⟨I.turn,I.pow,fun _=>by simpa using J,fun h=>absurd h (by decide)⟩⟩
theorem Qjo {fin f:Nat}(ih:AllRf fin f):∀s r,factor fin (f+1) s=some r-> ∀(o:Op) (S:List Op) (V:List Ex),lev o.kind<=2->Goes fin 3 s (o::S) V r:=by
 intro s r h o S V ho pw;unfold factor at h;rcases bind_or h with ⟨e,U,rfl⟩|⟨n,s1,U,h2⟩
 ·obtain⟨j,s',e1,-⟩:=T7 (fin:=fin) (V:=V) (pw:=pw) f 0 s _ U rfl (o::S)
  cases e1
 ·obtain⟨j,s',e1,g1,I,g2⟩:=T7 (fin:=fin) (V:=V) (pw:=pw) f 0 s _ U rfl (o::S)
  simp only[Except.ok.injEq,Prod.mk.injEq,Nat.zero_add]at e1;obtain⟨rfl,rfl⟩:=e1;rw[<-g1]at g2;rcases bind_or h2 with ⟨e,J,rfl⟩|⟨k,s2,J,K⟩
  ·have:=(ih.post s1 _ J I (List.replicate n negO++o::S) V).1 pw
   show Run fin _ _;rw[<-g1];exact g2 _ this
  ·have Z:=(ih.post s1 _ J I (List.replicate n negO++o::S) V)
   obtain⟨p1,p2⟩:=Z.1 pw;have T:=Z.2 k s2 rfl;split at K
   ·rename_i H
    rcases bind_or K with ⟨e,E,rfl⟩|⟨m,s3,E,h6⟩
    ·unfold Qi at E
     split at E
     ·cases E
     ·rename_i O
      unfold unfit at E
      cases E
      show Run fin _ _;rw[<-g1];refine g2 _ (p2 _ (Run.stop _ _ (Qs H) ?_));show behind fin _=_;unfold behind;simp only;rw[if_neg (by rw[T];decide),if_pos H,if_neg (by decide)];exact if_neg O
    ·unfold Qi at E
     split at E
     ·rename_i O
      cases E
      cases h6
      refine⟨p1.trans g1,List.replicate n negO++o::S,.pow k (Xx (Qm s2.adv.ts))::V,true,fun R hR=> ?_,Hx ho n _ _,⟨fun _=>rfl,fun _=>rfl,fun (h:3<=2)=>absurd h (by decide),fun (h:3<=1)=>absurd h (by decide)⟩⟩;rw[<-g1];refine g2 _ (p2 _ (Run.go _ _ _ (Qs H) ?_ hR));show behind fin _=_;unfold behind;simp only;rw[if_neg (by rw[T];decide),if_pos H,if_neg (by decide)];exact if_pos O
     ·cases E
   ·rename_i H
    cases K
    exact⟨p1.trans g1,List.replicate n negO++o::S,k::V,false,fun R hR=>by rw[<-g1];exact g2 _ (p2 _ hR),Hx ho n _ _,⟨(by intro h;rw[T]at h;cases h),fun h=>absurd h H,fun (h:3<=2)=>absurd h (by decide),fun (h:3<=1)=>absurd h (by decide)⟩⟩
theorem Qgy {fin f:Nat}(ih:AllRf fin f):∀s r,post fin (f+1) s=some r->Qv [45] s.ts=false-> ∀S V,Post fin s S V r/\ ∀e s',r=.ok (e,s')->Qv [39] s'.ts=false:=by
 intro s r h E S V;unfold post at h;rcases bind_or h with ⟨e,H,rfl⟩|⟨k,s1,H,I⟩
 ·exact⟨ih.atom s _ H E S V,fun e s' h=>by cases h⟩
 ·obtain⟨e,s',rfl,g1,g2,g3⟩:=Gt (fin:=fin) (V:=V) (S:=S) f k s1 r I rfl
  refine⟨fun pw=> ?_,fun e2 s2 h=>by cases h;exact g2⟩;obtain⟨p1,p2⟩:=ih.atom s _ H E S V pw;exact⟨g1.trans p1,fun R hR=>p2 _ (g3 R (by rw[<-g1];exact hR))⟩
theorem Qwg {fin f:Nat}(ih:AllRf fin f):∀s r,parts fin (f+1) s=some r-> ∀(o:Op) (S:List Op) (V:List Ex),(o.kind=102\/o.kind=100)->Qg7 fin s o S V r:=by
 intro s r h o S V H pw
 have I:lev o.kind=0:=by rcases H with h|h<;>rw[h]<;>rfl
 unfold parts at h;rcases bind_or h with ⟨e,E,rfl⟩|⟨k,s1,E,O⟩
 ·exact ih.expr s _ E o S V I pw
 ·obtain⟨g1,S1,V1,K,g2,g3,g4⟩:=ih.expr s _ E o S V I pw
  have:=ih.partsLoop (.cons k .nil) s1 r O o S V S1 V1 K 0 H g3 rfl g4;rcases r with e|⟨ks,s2⟩
  ·exact g2 _ this
  ·obtain⟨a1,S2,V2,J,n2,a2,a3,a4,a5,a6⟩:=this
   exact⟨a1.trans g1,S2,V2,J,n2,fun R hR=>g2 _ (a2 R hR),a3,a4,a5,a6⟩
theorem Ej {fin f:Nat}(ih:AllRf fin f):∀ks s r,partsLoop fin (f+1) ks s=some r-> ∀(o:Op) (S:List Op) (V:List Ex) (S0:List Op) (V0:List Ex) (pw:Bool) (n:Nat),(o.kind=102\/o.kind=100)->red 1 S0 V0=({o with args:=o.args+n}::S,pushL ks V)->ks.len=n+1->Nx 1 pw s.ts->Qmg fin s o S V S0 V0 pw r:=by
 intro ks s r h o S V S0 V0 pw n K hr I hn
 have T:lev o.kind=0:=by rcases K with h|h<;>rw[h]<;>rfl
 unfold partsLoop at h;split at h
 ·rename_i E
  have H:∀R,Run fin ⟨s.ts.tail,pushL ks V,{o with args:=o.args+(n+1)}::S,true,pw,s.opened⟩ R->Run fin ⟨s.ts,V0,S0,false,pw,s.opened⟩ R:=by
   intro R J;refine Run.go _ _ _ (Qs E) ?_ J;show behind fin _=_;unfold behind;simp only;rw[if_neg (by rw[Xp E (by decide)];decide),if_neg (by rw[Xp E (by decide)];decide),if_neg (by rw[Xp E (by decide)];decide),if_neg (by rw[Xp E (by decide)];decide),if_neg (by rw[Xp E (by decide)];decide),if_neg (by rw[Xp E (by decide)];decide),if_pos E];unfold Rz;simp only[hr];rw[if_pos K];rfl
  rcases bind_or h with ⟨e,O,rfl⟩|⟨k,s1,O,h2⟩
  ·exact H _ (ih.expr s.adv _ O {o with args:=o.args+(n+1)} S (pushL ks V) T pw)
  ·obtain⟨g1,S1,V1,Z,g2,g3,g4⟩:=ih.expr s.adv _ O {o with args:=o.args+(n+1)} S (pushL ks V) T pw
   have:=ih.partsLoop (ks.snoc k) s1 r h2 o S V S1 V1 Z (n+1) K (by rw[Kh];exact g3) (by rw[Ce,I]) g4;rcases r with e|⟨ks',s2⟩
   ·exact H _ (g2 _ this)
   ·obtain⟨a1,S2,V2,U,n2,a2,a3,a4,a5,a6⟩:=this
    exact⟨a1.trans g1,S2,V2,U,n2,fun R J=>H _ (g2 _ (a2 R J)),a3,a4,a5,a6⟩
 ·rename_i E
  cases h
  exact⟨rfl,S0,V0,pw,n,fun R J=>J,hr,I,hn,by simpa using E⟩
theorem Bp {fin:Nat}{ts:List Tok}{V:List Ex}{S:List Op}{pw:Bool}{d:Nat}{o:Op}{S1:List Op}{V1:List Ex}(hm:Qv [41] ts=true)(hd:d≠0)(hr:red 1 S V=(o::S1,V1)){R:MR}
  (h:Run fin ⟨ts.tail,if o.kind=102 then Vo o.name (o.args+1) V1 else V1,S1,false,false,d-1⟩ R):Run fin ⟨ts,V,S,false,pw,d⟩ R:=by
 refine Run.go _ _ _ (Qs hm) ?_ h;show behind fin _=_;unfold behind;simp only;rw[if_neg (by rw[Xp hm (by decide)];decide),if_neg (by rw[Xp hm (by decide)];decide),if_neg (by rw[Xp hm (by decide)];decide),if_neg (by rw[Xp hm (by decide)];decide),if_neg (by rw[Xp hm (by decide)];decide),if_pos hm];unfold close;simp only;rw[if_neg hd,hr]
theorem Qpz {fin f:Nat}(ih:AllRf fin f):∀s r,atom fin (f+1) s=some r->Qv [45] s.ts=false-> ∀S V,Post fin s S V r:=by
 intro s r h a8 S V pw;unfold atom at h;split at h
 ·rename_i Z
  unfold Qi at h;rw[if_pos Z]at h
  cases h
  refine⟨rfl,fun R O=>Run.go _ _ _ (Jh Z) ?_ O⟩;show Qn fin _=_;unfold Qn;simp only;rw[if_pos Z];rfl
 rename_i K;split at h
 ·rename_i Z
  have a9:=Z;simp only[Bool.and_eq_true]at a9;obtain⟨J,E⟩:=a9;unfold name at h;rw[if_pos J]at h;simp only[Yj]at h;unfold Wd at h;by_cases hd:100<s.opened+1
  ·rw[if_pos (show 100<s.adv.opened+1 from hd)]at h
   cases h
   refine Run.stop _ _ (Jh J) ?_;show Qn fin _=_;unfold Qn;simp only;rw[if_neg K,if_pos Z,if_pos hd];rfl
  ·rw[if_neg (show ¬100<s.adv.opened+1 from hd)]at h
   simp only[Yj]at h
   have U:∀R,Run fin ⟨s.ts.tail.tail,V,⟨102,Qm s.ts,0⟩::S,true,pw,s.opened+1⟩ R->Run fin ⟨s.ts,V,S,true,pw,s.opened⟩ R:=by
    intro R O;refine Run.go _ _ _ (Jh J) ?_ O;show Qn fin _=_;unfold Qn;simp only;rw[if_neg K,if_pos Z,if_neg hd]
   rcases bind_or h with ⟨e,H,rfl⟩|⟨ks,s3,H,I⟩
   ·exact U _ (ih.parts _ _ H ⟨102,Qm s.ts,0⟩ S V (.inl rfl) pw)
   ·obtain⟨a1,S2,V2,ab,n2,a2,a3,a4,a5,a6⟩:=ih.parts _ _ H ⟨102,Qm s.ts,0⟩ S V (.inl rfl) pw
    have a1':s3.opened=s.opened+1:=a1;unfold Y9 want at I;by_cases hc:Qv [41] s3.ts=true
    ·rw[if_pos hc]at I
     simp only[Yj]at I
     cases I
     refine⟨by show s3.opened-1=_;omega,fun R O=>U _ (a2 _ (Bp hc (by omega) a3 ?_))⟩;rw[if_pos rfl,Qym _ _ _ (by rw[a4];show n2+1=0+n2+1;omega)];exact O
    ·rw[if_neg hc]at I
     unfold unfit at I
     cases I
     exact U _ (a2 _ (Qzg a5 a3 (fun h=>absurd h hc) (fun h=>by rw[a6]at h;cases h) (fun _=>by omega)))
 rename_i J;split at h
 ·rename_i Z
  unfold name at h;rw[if_pos Z]at h
  cases h
  refine⟨rfl,fun R O=>Run.go _ _ _ (Jh Z) ?_ O⟩;show Qn fin _=_;unfold Qn;simp only;rw[if_neg K,if_neg J,if_pos Z];rfl
 rename_i T;split at h
 ·rename_i E
  unfold Wd at h;by_cases hd:100<s.opened+1
  ·rw[if_pos hd]at h
   cases h
   refine Run.stop _ _ (Qs E) ?_;show Qn fin _=_;unfold Qn;simp only;rw[if_neg K,if_neg J,if_neg T,if_neg (by rw[a8];decide),if_pos E,if_pos hd]
  ·rw[if_neg hd]at h
   simp only[Yj]at h
   have U:∀R,Run fin ⟨s.ts.tail,V,⟨40,[],0⟩::S,true,pw,s.opened+1⟩ R->Run fin ⟨s.ts,V,S,true,pw,s.opened⟩ R:=by
    intro R O;refine Run.go _ _ _ (Qs E) ?_ O;show Qn fin _=_;unfold Qn;simp only;rw[if_neg K,if_neg J,if_neg T,if_neg (by rw[Xp E (by decide)];decide),if_pos E,if_neg hd]
   rcases bind_or h with ⟨e,H,rfl⟩|⟨k,s3,H,I⟩
   ·exact U _ (ih.expr _ _ H ⟨40,[],0⟩ S V rfl pw)
   ·obtain⟨a1,S2,V2,ab,a2,a3,a5⟩:=ih.expr _ _ H ⟨40,[],0⟩ S V rfl pw
    have a1':s3.opened=s.opened+1:=a1;unfold Y9 want at I;by_cases hc:Qv [41] s3.ts=true
    ·rw[if_pos hc]at I
     simp only[Yj]at I
     cases I
     refine⟨by show s3.opened-1=_;omega,fun R O=>U _ (a2 _ (Bp hc (by omega) a3 ?_))⟩;exact O
    ·rw[if_neg hc]at I
     unfold unfit at I
     cases I
     exact U _ (a2 _ (Qzg a5 a3 (fun h=>absurd h hc) (fun _=>by decide) (fun _=>by omega)))
 rename_i a0;split at h
 ·rename_i E
  rcases bind_or h with ⟨e,H,rfl⟩|⟨m,s3,H,I⟩
  ·refine Run.stop _ _ (Qs E) ?_
   show Qn fin _=_;unfold Qn;simp only;rw[if_neg K,if_neg J,if_neg T,if_neg (by rw[Xp E (by decide)];decide),if_neg a0,if_pos E,show X6 fin (s.ts.length+3) ⟨s.ts,s.opened⟩=_ from Qw7 H]
  ·cases I
   refine⟨(Sw H).1,fun R O=>Run.go _ _ _ (Qs E) ?_ O⟩;show Qn fin _=_;unfold Qn;simp only;rw[if_neg K,if_neg J,if_neg T,if_neg (by rw[Xp E (by decide)];decide),if_neg a0,if_pos E,show X6 fin (s.ts.length+3) ⟨s.ts,s.opened⟩=_ from Qw7 H,(Sw H).1];rfl
 rename_i a7;split at h
 ·rename_i E
  rcases bind_or h with ⟨e,H,rfl⟩|⟨m,s3,H,I⟩
  ·refine Run.stop _ _ (Qs E) ?_
   show Qn fin _=_;unfold Qn;simp only;rw[if_neg K,if_neg J,if_neg T,if_neg (by rw[Xp E (by decide)];decide),if_neg a0,if_neg a7,if_pos E,show Xg fin (s.ts.length+2) ⟨s.ts,s.opened⟩=_ from Qw4 H]
  ·cases I
   refine⟨(Tf H).1,fun R O=>Run.go _ _ _ (Qs E) ?_ O⟩;show Qn fin _=_;unfold Qn;simp only;rw[if_neg K,if_neg J,if_neg T,if_neg (by rw[Xp E (by decide)];decide),if_neg a0,if_neg a7,if_pos E,show Xg fin (s.ts.length+2) ⟨s.ts,s.opened⟩=_ from Qw4 H,(Tf H).1];rfl
 rename_i aa;unfold unfit at h
 cases h
 by_cases ht:s.ts=[]
 ·have:=Run.fin (fin:=fin) ⟨s.ts,V,S,true,pw,s.opened⟩ ht
  have e:fate fin ⟨s.ts,V,S,true,pw,s.opened⟩=.error (Q7 fin s.ts,14):=by rw[ht];rfl
  rw[e]at this;exact this
 ·refine Run.stop _ _ ht ?_
  show Qn fin _=_;unfold Qn;simp only;rw[if_neg K,if_neg J,if_neg T,if_neg (by rw[a8];decide),if_neg a0,if_neg a7,if_neg aa]
theorem Uv (fin:Nat):∀f,AllRf fin f
 |0=>⟨(by intro _ _ h;cases h),(by intro _ _ _ h;cases h),(by intro _ _ h;cases h),(by intro _ _ _ h;cases h),(by intro _ _ h;cases h),(by intro _ _ h;cases h),(by intro _ _ h;cases h),(by intro _ _ h;cases h),(by intro _ _ _ h;cases h)⟩
 |f+1=>⟨Qgq (Uv fin f),Br (Uv fin f),Qgn (Uv fin f),Cv (Uv fin f),Qjo (Uv fin f),Qgy (Uv fin f),Qpz (Uv fin f),Qwg (Uv fin f),Ej (Uv fin f)⟩
end RfP
namespace RfP
open SynP LexP
def Yh (fin:Nat)(ts:List Tok):MR:=
 if Qy 2 ts=false then .error (Q7 fin ts,14)
 else if (Qm ts==letB)=false then .ok ⟨ts.tail,[],[⟨100,Qm ts,0⟩],true,false,0⟩
 else if Qy 2 ts.tail=false then .error (Q7 fin ts.tail,14)
 else if Qv [61] ts.tail.tail=false then .error (Q7 fin ts.tail.tail,14)
 else .ok ⟨ts.tail.tail.tail,[],[⟨108,Qm ts.tail,0⟩],true,false,0⟩
def Bc (w:RW)(n:Ln):Prop:=
 ∃o V,red 1 w.stack w.vals=([o],V)/\((o.kind=108/\ ∃e,V=[e]/\n=.lets o.name e)\/(o.kind=100/\n=.cmd o.name (ofL V.reverse)))
def Qhy (fin:Nat)(w:RW)(r:Except (Nat×Nat) (Ln×St)):Prop:=
 match r with
 | .error e=>Run fin w (.error e)
 | .ok (n,_)=> ∃w',Run fin w (.ok w')/\Bc w' n
theorem Qpq {fin f:Nat}{ts:List Tok}{r:Except (Nat×Nat) (Ln×St)}(h:line fin f ⟨ts,0⟩=some r)(hts:ts≠[]):
  match Yh fin ts with
  | .error e=>r=.error e
  | .ok w=>(ts.tail=[]/\Qy 2 ts=true/\(Qm ts==letB)=false/\ ∃s,r=.ok (.cmd (Qm ts) .nil,s))\/((ts.tail≠[]\/(Qm ts==letB)=true)/\Qhy fin w r):=by
 have O:=Uv fin f;unfold line at h;rw[if_neg hts]at h;by_cases h2:Qy 2 ts=true
 ·by_cases hl:(Qm ts==letB)=true
  ·rw[if_pos (by rw[h2,hl];rfl)]at h
   have I:Yh fin ts=if Qy 2 ts.tail=false then .error (Q7 fin ts.tail,14) else if Qv [61] ts.tail.tail=false then .error (Q7 fin ts.tail.tail,14) else .ok ⟨ts.tail.tail.tail,[],[⟨108,Qm ts.tail,0⟩],true,false,0⟩:=by
    unfold Yh;rw[if_neg (by rw[h2];decide),if_neg (by rw[hl];decide)]
   unfold name at h;by_cases h3:Qy 2 ts.tail=true
   ·rw[if_pos (show Qy 2 (St.adv ⟨ts,0⟩).ts=true from h3)]at h
    simp only[Yj]at h;unfold want at h;by_cases h4:Qv [61] ts.tail.tail=true
    ·rw[if_pos (show Qv [61] ((St.adv ⟨ts,0⟩).adv).ts=true from h4)]at h
     simp only[Yj]at h;rw[I,if_neg (by rw[h3];decide),if_neg (by rw[h4];decide)];right;refine⟨.inr hl,?_⟩;rcases bind_or h with ⟨e,J,rfl⟩|⟨e,s1,J,H⟩
     ·exact O.expr _ _ J ⟨108,Qm ts.tail,0⟩ [] [] rfl false
     ·obtain⟨g1,S1,V1,E,g2,g3,g4⟩:=O.expr _ _ J ⟨108,Qm ts.tail,0⟩ [] [] rfl false
      have g1':s1.opened=0:=g1;unfold done at H;by_cases ht:s1.ts=[]
      ·rw[if_pos ht]at H
       cases H
       refine⟨⟨s1.ts,V1,S1,false,E,s1.opened⟩,g2 _ ?_,_,_,g3,.inl ⟨rfl,e,rfl,rfl⟩⟩;have:=Run.fin (fin:=fin) ⟨s1.ts,V1,S1,false,E,s1.opened⟩ ht
       have e2:fate fin ⟨s1.ts,V1,S1,false,E,s1.opened⟩=.ok ⟨s1.ts,V1,S1,false,E,s1.opened⟩:=by unfold fate;rw[if_neg (by simp[g1'])]
       rw[e2]at this;exact this
      ·rw[if_neg ht]at H
       unfold unfit at H
       cases H
       exact g2 _ (Qzg g4 g3 (fun _=>g1') (fun _=>by show ¬((108:Nat)=102\/(108:Nat)=100);decide) (fun h=>absurd h ht))
    ·rw[if_neg (show ¬Qv [61] ((St.adv ⟨ts,0⟩).adv).ts=true from h4)]at h
     unfold unfit at h
     cases h
     rw[I,if_neg (by rw[h3];decide),if_pos (by simpa using h4)];rfl
   ·rw[if_neg (show ¬Qy 2 (St.adv ⟨ts,0⟩).ts=true from h3)]at h
    unfold unfit at h
    cases h
    rw[I,if_pos (by simpa using h3)];rfl
  ·have K:(Qm ts==letB)=false:=by simpa using hl
   rw[if_neg (by rw[h2,K];decide)]at h
   have I:Yh fin ts=.ok ⟨ts.tail,[],[⟨100,Qm ts,0⟩],true,false,0⟩:=by
    unfold Yh;rw[if_neg (by rw[h2];decide),if_pos K]
   rw[I];unfold name at h;rw[if_pos h2]at h;simp only[Yj]at h;by_cases ht:ts.tail=[]
   ·rw[if_pos (show (St.adv ⟨ts,0⟩).ts=[] from ht)]at h
    unfold done at h;rw[if_pos (show (St.adv ⟨ts,0⟩).ts=[] from ht)]at h
    cases h
    exact .inl ⟨ht,h2,K,_,rfl⟩
   ·rw[if_neg (show ¬(St.adv ⟨ts,0⟩).ts=[] from ht)]at h
    right;refine⟨.inl ht,?_⟩;rcases bind_or h with ⟨e,J,rfl⟩|⟨ks,s1,J,H⟩
    ·exact O.parts _ _ J ⟨100,Qm ts,0⟩ [] [] (.inr rfl) false
    ·obtain⟨g1,S1,V1,E,n1,g2,g3,g4,g5,g6⟩:=O.parts _ _ J ⟨100,Qm ts,0⟩ [] [] (.inr rfl) false
     have g1':s1.opened=0:=g1;unfold done at H;by_cases ht1:s1.ts=[]
     ·rw[if_pos ht1]at H
      cases H
      refine⟨⟨s1.ts,V1,S1,false,E,s1.opened⟩,g2 _ ?_,_,_,g3,.inr ⟨rfl,?_⟩⟩
      ·have:=Run.fin (fin:=fin) ⟨s1.ts,V1,S1,false,E,s1.opened⟩ ht1
       have e2:fate fin ⟨s1.ts,V1,S1,false,E,s1.opened⟩=.ok ⟨s1.ts,V1,S1,false,E,s1.opened⟩:=by unfold fate;rw[if_neg (by simp[g1'])]
       rw[e2]at this;exact this
      ·rw[Ht,List.append_nil,List.reverse_reverse,El]
     ·rw[if_neg ht1]at H
      unfold unfit at H
      cases H
      exact g2 _ (Qzg g5 g3 (fun _=>g1') (fun h=>by rw[g6]at h;cases h) (fun h=>absurd h ht1))
 ·have T:Qy 2 ts=false:=by simpa using h2
  rw[if_neg (by rw[T];simp)]at h;unfold name at h;rw[if_neg h2]at h;unfold unfit at h
  cases h
  have I:Yh fin ts=.error (Q7 fin ts,14):=by unfold Yh;rw[if_pos T]
  rw[I]
end RfP
namespace RfP
open SynP LexP
def Jp (k:Nat):Bool:=k==43||k==45||k==42
def Uy (k:Nat):Bool:=k==40||k==102
def Yk:List Op->Nat
 | []=>0
 |o::S=>(if Jp o.kind then 1 else 0)+o.args+Yk S
def Vc:List Op->Nat
 | []=>0
 |o::S=>(if Uy o.kind then 1 else 0)+Vc S
def Bot:List Op->Prop
 | []=>False
 | [b]=>b.kind=100\/b.kind=108
 |o::S=>((o.kind=40/\o.args=0)\/o.kind=102\/((Jp o.kind=true\/o.kind=110)/\o.args=0))/\Bot S
theorem Bot.cons {o:Op}{S:List Op}(h:Bot S)(ho:(o.kind=40/\o.args=0)\/o.kind=102\/((Jp o.kind=true\/o.kind=110)/\o.args=0)):Bot (o::S):=by
 cases S with
 |nil=>exact h.elim
 |cons p S=>exact⟨ho,h⟩
theorem Bot.ne {S:List Op}(h:Bot S):S≠[]:=by rintro rfl;exact h
theorem isBin_iff {k:Nat}:Jp k=true↔k=43\/k=45\/k=42:=by
 unfold Jp;simp[or_assoc]
theorem De {k:Nat}(h:Jp k=true):1<=lev k/\k≠110:=by
 rcases isBin_iff.1 h with rfl|rfl|rfl<;>decide
theorem Zc {l:Nat}(hl:1<=l):∀(S:List Op) (V:List Ex),Bot S->V.length=Yk S+1->
  ∃o S1 V1,red l S V=(o::S1,V1)/\lev o.kind<l/\V1.length=Yk (o::S1)+1/\Bot (o::S1)/\Vc (o::S1)=Vc S/\Qo V1.reverse+(o::S1).length=Qo V.reverse+S.length
 | [],_,h,_=>h.elim
 | [b],V,h,hV=>by
  have h0:lev b.kind=0:=by rcases h with h|h<;>rw[h]<;>rfl
  exact⟨b,[],V,Z6 (by omega),by omega,hV,h,rfl,rfl⟩
 |o::p::S,V,h,hV=>by
  by_cases hlo:lev o.kind<l
  ·exact⟨o,p::S,V,Z6 hlo,hlo,hV,h,rfl,rfl⟩
  ·obtain⟨E,O⟩:=h
   rcases E with ⟨E,-⟩|E|⟨E|E,K⟩
   ·exact absurd (by rw[E];show 0<l;omega) hlo
   ·exact absurd (by rw[E];show 0<l;omega) hlo
   ·have Z:=De E
    have I:Uy o.kind=false:=by rcases isBin_iff.1 E with h|h|h<;>rw[h]<;>rfl
    match V,hV with
    | [],hV=>simp[Yk,E]at hV
    | [a],hV=>simp[Yk,E]at hV
    |b::a::V,hV=>
     have H:(bin o.kind a b::V).length=Yk (p::S)+1:=by
      simp only[Yk,E,K,if_true,List.length_cons]at hV ⊢;omega
     obtain⟨o',S1,V1,e1,e2,e3,e4,e5,e6⟩:=Zc hl (p::S) _ O H;refine⟨o',S1,V1,by rw[Tm Z.2 (by omega)];exact e1,e2,e3,e4,by rw[e5];simp[Vc,I],?_⟩
     have J:(bin o.kind a b).size=a.size+b.size+1:=by
      unfold bin;split
      ·rfl
      ·split<;>rfl
     rw[e6];simp only[List.reverse_cons,Zw,Qo,J,List.length_cons];omega
   ·have I:Uy o.kind=false:=by rw[E];rfl
    have T:Jp o.kind=false:=by rw[E];rfl
    match V,hV with
    | [],hV=>simp at hV
    |a::V,hV=>
     have H:(Ex.neg a::V).length=Yk (p::S)+1:=by
      simp only[Yk,T,K,List.length_cons]at hV ⊢;simpa using hV
     obtain⟨o',S1,V1,e1,e2,e3,e4,e5,e6⟩:=Zc hl (p::S) _ O H
     have U:l<=3:=by
      have:lev o.kind=3:=by rw[E];rfl
      omega
     refine⟨o',S1,V1,by rw[Dz E U];exact e1,e2,e3,e4,by rw[e5];simp[Vc,I],?_⟩;rw[e6];simp only[List.reverse_cons,Zw,Qo,Ex.size,List.length_cons];omega
structure Fine (x:RW):Prop where
 len:x.vals.length=Yk x.stack+(if x.want then 0 else 1)
 dep:x.depth=Vc x.stack
 bot:Bot x.stack
theorem red1_kind {o:Op}{S:List Op}(h:lev o.kind<1)(hb:Bot (o::S)):((o.kind=40/\o.args=0)\/o.kind=102)/\Bot S\/(S=[]/\(o.kind=100\/o.kind=108)):=by
 cases S with
 |nil=>exact .inr ⟨rfl,hb⟩
 |cons p S=>
  obtain⟨E,H⟩:=hb;rcases E with E|E|⟨E|E,-⟩
  ·exact .inl ⟨.inl E,H⟩
  ·exact .inl ⟨.inr E,H⟩
  ·have:=(De E).1;omega
  ·rw[E]at h;exact absurd h (by decide)
def wt (x:RW):Nat:=Qo x.vals.reverse+x.stack.length+x.ts.length
theorem Tp (V:List Ex)(e:Ex):Qo (e::V).reverse=Qo V.reverse+e.size:=by simp[Zw,Qo]
theorem Yf {ts:List Tok}(h:ts≠[]):ts.tail.length+1=ts.length:=by
 cases ts with
 |nil=>exact absurd rfl h
 |cons a l=>rfl
theorem Ep {fin:Nat}{x x':RW}(h:Fine x)(hw:x.want=true)(hs:Qn fin x=.ok x'):Fine x'/\x'.ts.length<x.ts.length/\wt x'<=wt x:=by
 have I:=h.len;rw[hw]at I;simp only[if_true,Nat.add_zero]at I
 have H:∀(e:Ex) (ts:List Tok),e.size=1->ts.length<x.ts.length->has x e ts=.ok x'->Fine x'/\x'.ts.length<x.ts.length/\wt x'<=wt x:=by
  intro e ts T U Z
  cases Z
  refine⟨⟨by simp[I],h.dep,h.bot⟩,U,?_⟩;unfold wt;simp only[Tp,T];omega
 unfold Qn at hs;split at hs
 ·rename_i E
  exact H _ _ rfl (by have:=Yf (Jh E);omega) hs
 split at hs
 ·rename_i E
  simp only[Bool.and_eq_true]at E;have t1:=Yf (Jh E.1);have t2:=Yf (Qs E.2);split at hs
  ·cases hs
  ·cases hs
   refine⟨⟨by simp[Yk,Jp,I,hw],by simp[Vc,Uy,h.dep];omega,h.bot.cons (.inr (.inl rfl))⟩,by show x.ts.tail.tail.length<_;omega,?_⟩;unfold wt;simp only[List.length_cons];omega
 split at hs
 ·rename_i E
  exact H _ _ rfl (by have:=Yf (Jh E);omega) hs
 split at hs
 ·rename_i E
  have t1:=Yf (Qs E)
  cases hs
  refine⟨⟨by simp[Yk,Jp,I,hw],by simp[Vc,Uy,h.dep],h.bot.cons (.inr (.inr ⟨.inr rfl,rfl⟩))⟩,by show x.ts.tail.length<_;omega,?_⟩;unfold wt;simp only[List.length_cons];omega
 split at hs
 ·rename_i E
  have t1:=Yf (Qs E);split at hs
  ·cases hs
  ·cases hs
   refine⟨⟨by simp[Yk,Jp,I,hw],by simp[Vc,Uy,h.dep];omega,h.bot.cons (.inl ⟨rfl,rfl⟩)⟩,by show x.ts.tail.length<_;omega,?_⟩;unfold wt;simp only[List.length_cons];omega
 split at hs
 ·rename_i E
  split at hs
  ·rename_i m s K
   exact H _ _ rfl (by
    have J:=W7 fin (x.ts.length+3) (s:=⟨x.ts,x.depth⟩) (Nat.le_refl _) (Nat.le_refl _);rw[K]at J;have O:s.ts.length<=x.ts.length-1:=J;have:=Yf (Qs E)
    omega) hs
  ·cases hs
  ·cases hs
 split at hs
 ·rename_i E
  split at hs
  ·rename_i m s K
   exact H _ _ rfl (by
    have J:=Vt fin (x.ts.length+2) (s:=⟨x.ts,x.depth⟩) (Nat.le_refl _) (Nat.le_refl _);rw[K]at J;have O:s.ts.length<=x.ts.length-1:=J;have:=Yf (Qs E)
    omega) hs
  ·cases hs
  ·cases hs
 ·cases hs
theorem Qxp (V:List Ex)(k:Nat)(x:Qx)(hk:k<=V.length):Qo (Vo x k V).reverse=Qo V.reverse+1:=by
 unfold Vo;rw[Tp]
 have e:(Ex.call x (ofL (V.take k).reverse)).size=Qo (V.take k).reverse+1:=by show (ofL _).size+1=_;rw[Hf]
 have e2:V.reverse=(V.drop k).reverse++(V.take k).reverse:=by rw[<-List.reverse_append,List.take_append_drop]
 rw[e,e2,Zw];omega
theorem Bv {fin:Nat}{x x':RW}(h:Fine x)(hw:x.want=false)(hs:behind fin x=.ok x'):Fine x'/\x'.ts.length<x.ts.length/\wt x'<=wt x:=by
 have I:=h.len;rw[hw]at I;simp only[Bool.false_eq_true,if_false]at I
 have J:∀k,Jp k=true->x.ts≠[]->Yg x k=.ok x'->Fine x'/\x'.ts.length<x.ts.length/\wt x'<=wt x:=by
  intro k E ht Z;have t1:=Yf ht;obtain⟨o,S1,V1,e1,e2,e3,e4,e5,e6⟩:=Zc (l:=lev k) (De E).1 x.stack x.vals h.bot I;unfold Yg at Z;simp only[e1]at Z
  cases Z
  have a1:Uy k=false:=by rcases isBin_iff.1 E with h|h|h<;>rw[h]<;>rfl
  refine⟨⟨?_,?_,e4.cons (.inr (.inr ⟨.inl E,rfl⟩))⟩,by show x.ts.tail.length<_;omega,?_⟩
  ·simp only[Yk,E,if_true]at e3 ⊢;omega
  ·have:=h.dep
   simp only[Vc,a1]at e5 ⊢;simp;omega
  ·unfold wt
   simp only[List.length_cons]at e6 ⊢;omega
 have K:∀e:Ex->Ex,(∀a,(e a).size=a.size+1)-> ∀V,(match x.vals with|a::V=>e a::V| []=>[])=V->V.length=x.vals.length/\Qo V.reverse=Qo x.vals.reverse+1:=by
  intro e he V hV
  cases hv:x.vals with
  |nil=>rw[hv]at I;simp at I
  |cons a W=>
   rw[hv]at hV;subst hV;refine⟨rfl,?_⟩;rw[Tp,Tp,he];omega
 unfold behind at hs;split at hs
 ·rename_i E
  have t1:=Yf (Qs E);split at hs
  ·cases hs
  ·cases hs
   obtain⟨v1,v2⟩:=K .turn (fun _=>rfl) (Qzu x) rfl;refine⟨⟨by show (Qzu x).length=_;rw[v1,hw];simpa using I,h.dep,h.bot⟩,by show x.ts.tail.length<_;omega,?_⟩;unfold wt;simp only[v2];omega
 split at hs
 ·rename_i E
  have t1:=Yf (Qs E);split at hs
  ·cases hs
  ·split at hs
   ·rename_i H
    have t2:=Yf (Jh H)
    cases hs
    obtain⟨v1,v2⟩:=K (fun a=> .pow a (Xx (Qm x.ts.tail))) (fun _=>rfl) (pow1 x (Xx (Qm x.ts.tail))) rfl;refine⟨⟨by show (pow1 x _).length=_;rw[v1,hw];simpa using I,h.dep,h.bot⟩,by show x.ts.tail.tail.length<_;omega,?_⟩;unfold wt;simp only[v2];omega
   ·cases hs
 split at hs
 ·rename_i E;exact J 43 rfl (Qs E) hs
 split at hs
 ·rename_i E;exact J 45 rfl (Qs E) hs
 split at hs
 ·rename_i E;exact J 42 rfl (Qs E) hs
 split at hs
 ·rename_i E
  have t1:=Yf (Qs E);unfold close at hs;split at hs
  ·cases hs
  ·rename_i hd
   obtain⟨o,S1,V1,e1,e2,e3,e4,e5,e6⟩:=Zc (l:=1) (Nat.le_refl _) x.stack x.vals h.bot I;simp only[e1]at hs
   cases hs
   have a3:=h.dep;rcases red1_kind e2 e4 with ⟨H,T⟩|⟨rfl,H⟩
   ·have U:Uy o.kind=true:=by rcases H with ⟨h,-⟩|h<;>rw[h]<;>rfl
    have O:Jp o.kind=false:=by rcases H with ⟨h,-⟩|h<;>rw[h]<;>rfl
    simp only[Yk,O,Vc,U,if_true]at e3 e5;simp only[Bool.false_eq_true,if_false,Nat.zero_add]at e3;simp only[List.length_cons]at e6;by_cases hc:o.kind=102
    ·refine⟨⟨?_,?_,T⟩,by show x.ts.tail.length<_;omega,?_⟩
     ·simp only[hc,if_true,hw,Bool.false_eq_true,if_false]
      unfold Vo;simp only[List.length_cons,List.length_drop];omega
     ·show x.depth-1=Vc S1;omega
     ·unfold wt
      simp only[hc,if_true,Qxp V1 (o.args+1) o.name (by omega)];omega
    ·have a6:o.args=0:=by omega
     refine⟨⟨?_,?_,T⟩,by show x.ts.tail.length<_;omega,?_⟩
     ·simp only[hc,if_false,hw,Bool.false_eq_true]
      omega
     ·show x.depth-1=Vc S1;omega
     ·unfold wt
      simp only[hc,if_false];omega
   ·exfalso
    have:Uy o.kind=false:=by rcases H with h|h<;>rw[h]<;>rfl
    simp only[Vc,this]at e5;simp at e5;omega
 split at hs
 ·rename_i E
  have t1:=Yf (Qs E);unfold Rz at hs;obtain⟨o,S1,V1,e1,e2,e3,e4,e5,e6⟩:=Zc (l:=1) (Nat.le_refl _) x.stack x.vals h.bot I;simp only[e1]at hs;split at hs
  ·rename_i a2
   cases hs
   have O:Jp o.kind=false:=by rcases a2 with h|h<;>rw[h]<;>rfl
   refine⟨⟨?_,?_,?_⟩,by show x.ts.tail.length<_;omega,?_⟩
   ·simp only[Yk,O]at e3 ⊢;simp at e3 ⊢;omega
   ·have:=h.dep
    simp only[Vc]at e5 ⊢;omega
   ·rcases red1_kind e2 e4 with ⟨H,T⟩|⟨rfl,H⟩
    ·exact T.cons (.inr (.inl (by show o.kind=102;omega)))
    ·exact H
   ·unfold wt
    simp only[List.length_cons]at e6 ⊢;omega
  ·cases hs
 ·cases hs
end RfP
