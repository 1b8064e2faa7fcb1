import Derived.Test.YtgfmiladfeoldaaGreatDoorPk8
set_option linter.unusedSimpArgs false
set_option linter.unusedVariables false
set_option maxRecDepth 100000
set_option maxHeartbeats 16000000
namespace Go.Proofs.YtgfmiladfeoldaaGreatDoor
open Go.RowKit ai ag
theorem Tryz.xE:(Tryz.prog.info? 36).map (fun i=>(i.zero,i.size,i.bytes))=some (some (.slice none 0 0),1,24):=by kernel_rfl
def Sx (w:World)(B:Nat)(og:Option Nat)(sv:Value)(s:List Nat):Prop:=∃ms:List Value,w.ownsRow B 59 1 sv ms.length ms/\ms.length=s.length/\(∀q,sv.ownBlock=some q->og≠some q)/\ ∀(i:Nat) (m:Value) (n:Nat),ms[i]?=some m->s[i]?=some n->bM B w m n/\ ∀q,m.ownBlock=some q->sv.ownBlock≠some q/\og≠some q
theorem Sx.wr {w w':World}{B R:Nat}{og:Option Nat}{sv:Value}{s:List Nat}(h:Sx w B og sv s)(hw:Wr R none w w')(hR:R<B):Sx w' B og sv s:=by obtain⟨ms,H,I,J,E⟩:=h;exact⟨ms,Tl H hw hR,I,J,fun i m n hm hn=>⟨(E i m n hm hn).1.wr hw hR (fun q hq=>by cases hq),(E i m n hm hn).2⟩⟩
theorem Sx.mono {w:World}{B B':Nat}{og:Option Nat}{sv:Value}{s:List Nat}(h:Sx w B og sv s)(hb:B'<=B):Sx w B' og sv s:=by obtain⟨ms,H,I,J,E⟩:=h;exact⟨ms,X0 H hb,I,J,fun i m n hm hn=>⟨(E i m n hm hn).1.mono hb,(E i m n hm hn).2⟩⟩
theorem Sx.turn {w w':World}{B g:Nat}{og og':Option Nat}{sv:Value}{s:List Nat}(h:Sx w B og sv s)(hg:w.grownBy w' og)(hat:og'=some g)(aau:og=some g\/g=w.heap.size):Sx w' B og' sv s:=by
 obtain⟨ms,I,O,J,T⟩:=h
 have H:∀q,q<w.heap.size->og≠some q->og'≠some q:=by
  intro q E K e;rw[hat]at e
  cases e
  rcases aau with h|h
  ·exact K h
  omega
 refine⟨ms,I.kept hg ?_,O,fun q E=>H q (I.lt q E).2 (J q E),fun i m n hm hn=> ?_⟩
 ·cases hv:sv.ownBlock with
  |none=>exact .inl rfl
  |some q=>exact .inr (fun e=>J q hv e.symm)
 obtain⟨q1,q2⟩:=T i m n hm hn;exact⟨q1.grown hg (fun q E=>(q2 q E).2),fun q E=>⟨(q2 q E).1,H q (q1.2.1 q E).2 (q2 q E).2⟩⟩
theorem Sx.push {w w':World}{B g cap N:Nat}{og:Option Nat}{sv:Value}{ms:List Value}{s:List Nat}
  (h1:w.ownsRow B 59 1 sv ms.length ms) (h2:ms.length=s.length) (h3:∀q,sv.ownBlock=some q->og≠some q) (h4:∀(i:Nat) (m:Value) (n:Nat),ms[i]?=some m->s[i]?=some n->bM B w m n/\ ∀q,m.ownBlock=some q->sv.ownBlock≠some q/\og≠some q)
  {m:Value} {k:Nat} (hm:bM B w m k) (hd:∀q,m.ownBlock=some q->sv.ownBlock≠some q/\og≠some q) (hog:∀q,og=some q->q<w.heap.size)
  (hown:w'.ownsRow B 59 1 (.slice (some ⟨g,0,none⟩) N cap) N (ms++[m])) (hN:N=ms.length+1) (hg:w.grownBy w' sv.ownBlock) (hat:sv.ownBlock=some g\/g=w.heap.size):
  Sx w' B og (.slice (some ⟨g,0,none⟩) N cap) (s++[k]):=by
 subst hN
 have J:∀q,q<w.heap.size->sv.ownBlock≠some q->(Value.ownBlock (.slice (some ⟨g,0,none⟩) (ms.length+1) cap))≠some q:=by
  intro q E O e
  cases e
  rcases hat with h|h
  ·exact O h
  change g<_ at E;omega
 have K:(ms++[m]).length=ms.length+1:=by simp
 refine⟨ms++[m],by rw[K];exact hown,by rw[K,h2];simp,?_,?_⟩
 ·intro q E e
  cases E
  rcases hat with h|h
  ·exact h3 _ h e
  have:=hog _ e;change g<_ at this;omega
 intro i x n H I;by_cases hlt:i<ms.length
 ·rw[ab1 hlt]at H
  rw[ab1 (by rw[<-h2];exact hlt)]at I;obtain⟨q1,q2⟩:=h4 i x n H I;exact⟨q1.grown hg (fun q E=>(q2 q E).1),fun q E=>⟨J q (q1.2.1 q E).2 (q2 q E).1,(q2 q E).2⟩⟩
 have T:i=ms.length:=by have:=(aae.1 H).1;rw[K]at this;omega
 subst T;rw[abw (aaa _)]at H;rw[h2,abw (aaa _)]at I;simp at H I;subst H;subst I;exact⟨hm.grown hg (fun q E=>(hd q E).1),fun q E=>⟨J q (hm.2.1 q E).2 (hd q E).1,(hd q E).2⟩⟩
structure Cx (w:World) (B:Nat) (lv:Value) (dS:List Value) (acc:List (List Nat)):Prop where
 own:w.ownsRow B 36 1 lv dS.length dS
 len:dS.length=acc.length
 el:∀(j:Nat) (sv:Value) (s:List Nat),dS[j]?=some sv->acc[j]?=some s->Sx w B lv.ownBlock sv s
theorem Cx.wr {w w':World}{B R:Nat}{lv:Value}{dS:List Value}{acc:List (List Nat)}(h:Cx w B lv dS acc)(hw:Wr R none w w')(hR:R<B):Cx w' B lv dS acc:=
 ⟨Tl h.own hw hR,h.len,fun j sv s h1 h2=>(h.el j sv s h1 h2).wr hw hR⟩
theorem Cx.push {w w':World}{B g cap N:Nat}{lv:Value}{dS:List Value}{acc:List (List Nat)}(h:Cx w B lv dS acc){sv:Value}{s:List Nat}(hs:Sx w B lv.ownBlock sv s)
  (hown:w'.ownsRow B 36 1 (.slice (some ⟨g,0,none⟩) N cap) N (dS++[sv])) (hN:N=dS.length+1) (hg:w.grownBy w' lv.ownBlock) (hat:lv.ownBlock=some g\/g=w.heap.size):
  Cx w' B (.slice (some ⟨g,0,none⟩) N cap) (dS++[sv]) (acc++[s]):=by
 subst hN
 have I:(dS++[sv]).length=dS.length+1:=by simp
 refine⟨by rw[I];exact hown,by rw[I,h.len];simp,?_⟩;intro j x t E H;by_cases hlt:j<dS.length
 ·rw[ab1 hlt]at E
  rw[ab1 (by rw[<-h.len];exact hlt)]at H;exact(h.el j x t E H).turn hg rfl hat
 have J:j=dS.length:=by have:=(aae.1 E).1;rw[I]at this;omega
 subst J;rw[abw (aaa _)]at E;rw[h.len,abw (aaa _)]at H;simp at E H;subst E;subst H;exact hs.turn hg rfl hat
theorem Sl.uE {w:World}{B n:Nat}{e:TypeId}{v:Value}{xs:List Value}{P:Nat->Value->Prop}(h:w.ownsRow B e 1 v xs.length xs)(hn:xs.length=n)(hp:∀j u,xs[j]?=some u->P j u):Sl w v n P:=by obtain⟨ao,E,e,H,I,J⟩:=Qj h;subst hn;refine⟨ao,E,e,H,I,fun h0=> ?_⟩;obtain⟨g,rfl,a1,a2,a3⟩:=J h0;refine⟨g,0,rfl,a2,fun j hj=>⟨xs[j],?_,hp j _ (aad hj)⟩⟩;rw[abx,a3 j (by omega),aad hj]
theorem Cx.crd {w:World}{B:Nat}{lv:Value}{dS:List Value}{acc:List (List Nat)}(h:Cx w B lv dS acc):Ii w lv acc:=by
 refine Sl.uE h.own h.len fun j sv hj=> ?_
 have H:j<acc.length:=by rw[<-h.len];exact(aae.1 hj).1
 refine⟨acc[j],aad H,?_⟩;obtain⟨ms,J,I,-,K⟩:=h.el j sv acc[j] hj (aad H);refine Sl.uE J I fun i m hi=> ?_
 have E:i<acc[j].length:=by rw[<-I];exact(aae.1 hi).1
 exact⟨acc[j][i],aad E,(K i m _ hi (aad E)).1.1⟩
def TT (R:Nat)(tv:Value)(L:List Tok)(fin:Nat)(nv:Value)(ns:List Nv)(w:World)(N:Nat)(r:ae.PR (List (List Nat)))(lv:Value)(wr:World):Prop:=
 ∃f acc dS a' s',ae.Xw fin f acc s'=r/\RS wr R tv L fin a' s' nv ns/\Wr R none w wr/\Cx wr w.heap.size lv dS acc/\s'.ts.length<=N/\acc.length+s'.ts.length<=67108864
def TS (R:Nat)(tv:Value)(L:List Tok)(fin:Nat)(nv:Value)(ns:List Nv)(w:World)(N:Nat)(og:Option Nat)(r:ae.PR (List Nat))(sv:Value)(wr:World):Prop:=
 ∃f x a' s',ae.Xj fin f x s'=r/\RS wr R tv L fin a' s' nv ns/\Wr R none w wr/\Sx wr w.heap.size og sv x/\s'.ts.length+1<=N/\x.length+s'.ts.length<=67108864
theorem Qvq (R:Nat)(tv:Value)(L:List Tok)(fin a:Nat)(s:ae.St)(nv:Value)(ns:List Nv)(w:World)(h:RS w R tv L fin a s nv ns)(f:Nat)(hf:ae.Q8 fin f s≠none):Calls Tryz.prog 114 #[.pointer (some ⟨R,0,none⟩)] w (RB (ae.Q8 fin f s) R tv L fin s nv ns (fun l v w'=> ∃dS,Cx w' w.heap.size v dS l) w):=by
 have H:=zq h;have aT:=h.lt;obtain⟨r,hr⟩:=xq (ae.Q8 fin f s);rw[<-hr]at hf ⊢
 have nM:Hid (r=(ae.want fin [123] s).bind fun _ s=>if ae.Qv [125] s.ts then ae.ret [] s.aW else ae.Xw fin f [] s):=by show _=_;rw[hr];rfl
 have bR:=zq hf
 have dm:s.ts.length<=67108864:=by have:=h.short;rw[<-h.drop,aag];omega
 obtain⟨i0,hi,hz0,hz1,hz2⟩:=abO Tryz.uB;obtain⟨j0,hj,bF,cS,hk2⟩:=abO Tryz.xE;clear h hr hf;go_enter Tryz.func114,Tryz.ntmps114;go_wp2_with fail;refine(Rb R tv L fin a s nv ns _ H.o [123]).mono ?_;rintro e w2 hn;rcases hN:ae.want fin [123] s with- |(⟨fc,fk⟩|⟨u2',s2⟩)
 ·rw[hN]at hn;exact hn.elim
 ·rw[hN]at hn
  obtain⟨rfl,n1⟩:=hn;refine⟨rfl,?_⟩
  have bu:r=some (.error (fc,fk)):=by rw[nM.o,hN];rfl
  rw[bu];exact⟨rfl,n1⟩
 rw[hN]at hn;obtain⟨v2,a2,rfl,n1,n2,n3,rfl⟩:=hn;have hl2:=Tv hN
 have cZ:Hid (r=if ae.Qv [125] s2.ts then ae.ret [] s2.aW else ae.Xw fin f [] s2):=by show _=_;rw[nM.o,hN];rfl
 have HA:=zq (Qq w2 (.cells #[] 36));have cr:=zq (n1.below HA.o);have dz:=zq (RS.step n2 (Wr.af HA.o))
 have hC2:Cx (w2.alloc (.cells #[] 36)) w.heap.size (.slice (some ⟨w2.heap.size,0,none⟩) 0 0) [] []:=
  ⟨World.ownsRow_made w2 #[] 0 n2.size (aao _) rfl,rfl,fun j sv s h=>by simp at h⟩
 have HC2:=zq hC2;clear n1 n2 n3 hN hC2;go_wp2_with fail;refine(Zy R tv L fin a2 s2 nv ns _ cr.o [125]).mono ?_;rintro e w3 ⟨rfl,t1,t2⟩;have pc:=zq (RS.step dz.o t1);have rE:=zq (HC2.o.wr t1 aT);clear t1
 cases hm:ae.Qv [125] s2.ts with
 |true=>
  rw[if_pos hm]at t2;have gR:=zq t2;have HM:=zq hm;clear t2 hm;go_wp2_with fail;go_ret;rw[cZ.o,if_pos HM.o]
  exact⟨_,_,rfl,gR.o,pc.o,aan (Vc s2) (by omega),_,rE.o⟩
 |false=>
  rw[if_neg (by rw[hm];decide)]at t2 cZ;have gR:=zq t2;have HM:=zq hm;have HST:Hid (TT R tv L fin nv ns w s.ts.length r (.slice (some ⟨w2.heap.size,0,none⟩) 0 0) w3):=⟨f,[],[],a2,s2,cZ.o.symm,t2,pc.o,rE.o,by omega,by simp;omega⟩;clear t2 hm cZ;go_wp2_with fail;go_loopw [2,3,4] (fun _ lv _ wr=>TT R tv L fin nv ns w s.ts.length r lv wr) (fun _ _ _ wr=>Q9 L R wr)
  case atStart=>exact HST.o
  clear HST gR pc rE cr dz HC2
  case round=>
   obtain⟨f,acc,dS,a4,s4,hen,kz,hwr,hcx,hb1,hb2⟩:=hrel;obtain⟨wo,rfl⟩:=xq wr
   cases f with
   |zero=>exact absurd hen.symm bR.o
   |succ f=>
    have jS:Hid (r=(ae.Qa fin s4).bind fun n s=>(ae.Xj fin f [n] s).bind fun x s=>if ae.Qv [125] s.ts then ae.ret (acc++[x]) s.aW else (ae.want fin [44] s).bind fun _ s=>ae.Xw fin f (acc++[x]) s):=hen.symm;have lW:=zq kz;have cJ:=zq hwr;have vK:=zq hcx;have VK:=zq kz.left;have GC:=kz.lt;clear hen kz hwr hcx;go_wp2_with fail;refine(Ja R tv L fin a4 s4 nv ns _ lW.o).mono ?_;rintro e w5 hn;rcases hN:ae.Qa fin s4 with- |(⟨fc,fk⟩|⟨m,s5⟩)
    ·rw[hN]at hn;exact hn.elim
    ·rw[hN]at hn
     obtain⟨rfl,n1⟩:=hn;refine⟨rfl,?_⟩
     have bu:r=some (.error (fc,fk)):=by rw[jS.o,hN];rfl
     rw[bu];exact⟨rfl,RS.step cJ.o n1⟩
    rw[hN]at hn;obtain⟨v5,a5,rfl,n1,n2,n3,n4⟩:=hn;have NF:=Y3 hN
    have uP:Hid (r=(ae.Xj fin f [m] s5).bind fun x s=>if ae.Qv [125] s.ts then ae.ret (acc++[x]) s.aW else (ae.want fin [44] s).bind fun _ s=>ae.Xw fin f (acc++[x]) s):=by show _=_;rw[jS.o,hN];rfl
    obtain⟨vo,aA,vl,rfl⟩:∃vo aA vl,v5=.slice vo vl aA:=by obtain⟨⟨xs,hx,-⟩,-⟩:=n4;obtain⟨vo,aA,e,-⟩:=hx.2;exact⟨vo,aA,_,e⟩
    have TW:=zq (Qq w5 (.cells #[.slice vo vl aA] 59));have FI:=zq (n1.below TW.o);have nN:=zq (RS.step n2 (Wr.af TW.o))
    have hSx:Sx (w5.alloc (.cells #[.slice vo vl aA] 59)) wo.heap.size u3.ownBlock (.slice (some ⟨w5.heap.size,0,none⟩) 1 1) [m]:=by
     refine⟨[.slice vo vl aA],⟨rfl,.inr ⟨w5.heap.size,1,_,rfl,n2.size,aaz w5 _,aaa _,by unfold maxLen;omega,rfl,rfl⟩⟩,rfl,?_,?_⟩
     ·intro q hq e
      cases hq
      have h7:=(vK.o.own.lt _ e).2;change w5.heap.size<wo.heap.size at h7;have:=n2.size;omega
     intro i x n hx hn
     have hi:i=0:=by have:=(aae.1 hx).1;simp at this;exact this
     subst hi;simp at hx hn;subst hx;subst hn;refine⟨n4.wr (R:=R) (og:=none) (Wr.af TW.o) GC (fun q hq=>by cases hq),fun q hq=>⟨fun e=> ?_,fun e=> ?_⟩⟩
     ·cases e
      have h7:=(n4.2.1 _ hq).2;change w5.heap.size<w5.heap.size at h7;omega
     have:=(vK.o.own.lt _ e).2;have:=(n4.2.1 q hq).1;omega
    obtain⟨r2,hr2⟩:=xq (ae.Xj fin f [m] s5);rw[<-hr2]at uP
    have zV:Hid (r2≠none):=by intro e;have:=uP.o;rw[e]at this;exact bR.o this
    have HI:Hid (TS R tv L fin nv ns wo s4.ts.length u3.ownBlock r2 (.slice (some ⟨w5.heap.size,0,none⟩) 1 1) (w5.alloc (.cells #[.slice vo vl aA] 59))):=⟨f,[m],a5,s5,hr2.symm,FI.o,nN.o,hSx,by omega,by simp;omega⟩;clear n1 n2 n3 n4 hN hSx hr2 jS FI nN;go_wp2_with fail;go_loopw [4] (fun sv wr=>TS R tv L fin nv ns wo s4.ts.length u3.ownBlock r2 sv wr) (fun _ wr=>Q9 L R wr)
    case atStart=>exact HI.o
    clear HI
    case round=>
     obtain⟨f2,x,a6,s6,DK,kz,hwr,hsx,hb3,hb4⟩:=hrel
     cases f2 with
     |zero=>exact absurd DK.symm zV.o
     |succ f2=>
      have yr:=zq kz;have yu:=zq hwr;have HX6:=zq hsx;have pT:=zq kz.left;have z8:=zq DK;have fM:=Zj 1 [] s6.ts (by decide);clear kz hwr hsx DK
      cases hk:ae.Qm 1 s6.ts with
      |true=>
       rw[hk]at fM;have qQ:=zq fM
       have FJ:Hid (r2=(ae.Qa fin s6).bind fun n s=>ae.Xj fin f2 (x++[n]) s):=by have h1:=z8.o;unfold ae.Xj at h1;rw[if_pos hk]at h1;exact h1.symm
       clear fM hk z8;go_wp2_with fail;refine(X4 R tv L fin a6 s6 nv ns _ yr.o 0 1 [] (by omega) (by omega)).mono ?_;rintro e w7 ⟨rfl,b1⟩;rw[qQ.o];have JH:=zq (yr.o.below b1);have qf:=zq (RS.step yu.o (Wr.af b1));have JX:=zq (HX6.o.wr (R:=R) (Wr.af b1) GC);clear b1;go_wp2_with fail;refine(Ja R tv L fin a6 s6 nv ns _ JH.o).mono ?_;rintro e w8 hn;rcases hN:ae.Qa fin s6 with- |(⟨fc,fk⟩|⟨m2,s8⟩)
       ·rw[hN]at hn;exact hn.elim
       ·rw[hN]at hn
        obtain⟨rfl,n1⟩:=hn;refine⟨rfl,?_⟩
        have bu:r=some (.error (fc,fk)):=by rw[uP.o,FJ.o,hN];rfl
        rw[bu];exact⟨rfl,RS.step cJ.o (RS.step qf.o n1)⟩
       rw[hN]at hn;obtain⟨v8,a8,rfl,n1,n2,n3,n4⟩:=hn;have hl8:=Y3 hN
       have WW:Hid (ae.Xj fin f2 (x++[m2]) s8=r2):=by show _=_;rw[FJ.o,hN];rfl
       obtain⟨yo,lS,yl,rfl⟩:∃vo aA vl,v8=.slice vo vl aA:=by obtain⟨⟨xs,hx,-⟩,-⟩:=n4;obtain⟨vo,aA,e,-⟩:=hx.2;exact⟨vo,aA,_,e⟩
       have PQ:=zq (Qq w8 (.cells #[.slice yo yl lS] 59));have JI:=zq (n1.below PQ.o);have JV:=zq (RS.step (RS.step qf.o n2) (Wr.af PQ.o));obtain⟨ms,h1,h2,h3,h4⟩:=(JX.o.wr n2 GC).wr (R:=R) (Wr.af PQ.o) GC;have Ow:=qf.o.size;have ac9:=n2.size;have NN:bM wo.heap.size (w8.alloc (.cells #[.slice yo yl lS] 59)) (.slice yo yl lS) m2:=(n4.wr (R:=R) (og:=none) (Wr.af PQ.o) (by omega) (fun q hq=>by cases hq)).mono Ow
       have hd8:∀q,(Value.ownBlock (.slice yo yl lS))=some q->u4.ownBlock≠some q/\u3.ownBlock≠some q:=by
        intro q hq;have h7:=(n4.2.1 q hq).1;refine⟨fun e=> ?_,fun e=> ?_⟩
        ·obtain⟨ms',g1,-⟩:=JX.o
         have:=(g1.lt q e).2;omega
        have:=(vK.o.own.lt q e).2;omega
       obtain⟨nx,qC⟩:=xq ms.length;have lU:=zq qC
       have abm:nx<=67108864:=by rw[qC,h2];omega
       have H1:=zq h1;have H2:=zq h2;have H3:=zq h3;have H4:=zq h4;have HM8:=zq NN;have HD8:=zq hd8
       have mE:(w8.alloc (.cells #[.slice yo yl lS] 59)).ownsRow wo.heap.size 59 1 u4 nx ms:=by rw[qC];exact h1
       have HOW:=zq mE;clear n1 n2 n3 n4 hN h1 h2 h3 h4 NN hd8 qC mE;go_wp2_with (at_builtin;refine adr _ rfl _ _ 36 rfl wo.heap.size 59 i0 (.slice none 0 0) 1 24 Tryz.underlying36 hi hz0 hz1 hz2 rfl (by omega) u4 nx ms rfl HOW.o ⟨w8.heap.size,0,none⟩ 1 1 [.slice yo yl lS] rfl rfl (ag.Qh _ _ _ _ rfl) (by simp[Value.oneCell']) (by omega) (by unfold maxLen;omega) (by omega) (by simp;omega) (w8.heap.size+1) (by simp) ?_);intro gg cap w9 iD hgrow hat CR;have q1:=Sx.push (og:=u3.ownBlock) H1.o H2.o H3.o H4.o HM8.o HD8.o (fun q hq=>by have:=(vK.o.own.lt q hq).2;simp;omega) iD (by rw[lU.o]) hgrow (by simpa using hat);obtain⟨q2,q3⟩:=lW.o.loc JI.o JV.o hgrow (fun q hq=>(H1.o.lt q hq).1);have ir:=zq q1;have cY:=zq q2;have eY:=zq q3;have gP:=zq q2.left;clear iD hgrow hat CR q1 q2 q3;go_wp2_with fail;have ah:TS R tv L fin nv ns wo s4.ts.length u3.ownBlock r2 (.slice (some ⟨gg,0,none⟩) (nx+1) cap) w9:=⟨f2,x++[m2],a8,s8,WW.o,cY.o,eY.o,ir.o,by omega,by rw[aac,aaJ];omega⟩
       have eP:Q9 L R w9<Q9 L R wr:=by rw[gP.o,pT.o];omega
       first|exact⟨ah,eP⟩|exact⟨by (repeat apply Exists.intro);exact⟨ah,rfl⟩,eP⟩
      |false=>
       rw[hk]at fM;have qQ:=zq fM
       have FJ:Hid (r=if ae.Qv [125] s6.ts then ae.ret (acc++[x]) s6.aW else (ae.want fin [44] s6).bind fun _ s=>ae.Xw fin f (acc++[x]) s):=by have h1:=z8.o;unfold ae.Xj at h1;rw[if_neg (by rw[hk];decide)]at h1;show _=_;rw[uP.o,<-h1];rfl
       clear fM hk z8;go_wp2_with fail;refine(X4 R tv L fin a6 s6 nv ns _ yr.o 0 1 [] (by omega) (by omega)).mono ?_;rintro e w7 ⟨rfl,b1⟩;rw[qQ.o];have JH:=zq (yr.o.below b1);have qf:=zq (RS.step cJ.o (RS.step yu.o (Wr.af b1)));have JX:=zq (HX6.o.wr (R:=R) (Wr.af b1) GC);have HC7:=zq (vK.o.wr (RS.step yu.o (Wr.af b1)) aT);clear b1
       obtain⟨so,nH,sl,rfl⟩:∃so nH sl,u4=.slice so sl nH:=by obtain⟨ms,h1,-⟩:=JX.o;obtain⟨so,nH,e,-⟩:=Qj h1;exact⟨so,nH,_,e⟩
       have PO:=zq (Qq w7 (.cells #[.slice so sl nH] 36));have JI:=zq (JH.o.below PO.o);have JV:=zq (RS.step qf.o (Wr.af PO.o));have HX8:=zq ((JX.o.wr (R:=R) (Wr.af PO.o) GC).mono cJ.o.size);have PX:=zq (HC7.o.wr (R:=R) (Wr.af PO.o) aT);obtain⟨nx,qC⟩:=xq dS.length;have lU:=zq qC
       have abm:nx<=67108864:=by rw[qC,PX.o.len];omega
       have mE:(w7.alloc (.cells #[.slice so sl nH] 36)).ownsRow w.heap.size 36 1 u3 nx dS:=by rw[qC];exact PX.o.own
       have HOW:=zq mE;have Ow:=qf.o.size;clear qC mE;go_wp2_with (at_builtin;refine adr _ rfl _ _ 97 rfl w.heap.size 36 j0 (.slice none 0 0) 1 24 Tryz.underlying97 hj bF cS hk2 rfl (by omega) u3 nx dS rfl HOW.o ⟨w7.heap.size,0,none⟩ 1 1 [.slice so sl nH] rfl rfl (ag.Qh _ _ _ _ rfl) (by simp[Value.oneCell']) (by omega) (by unfold maxLen;omega) (by omega) (by simp;omega) (w7.heap.size+1) (by simp) ?_);intro gg cap w9 iD hgrow hat CR;have q1:=PX.o.push HX8.o iD (by rw[lU.o]) hgrow (by simpa using hat);obtain⟨q2,q3⟩:=H.o.loc JI.o JV.o hgrow (fun q hq=>(PX.o.own.lt q hq).1);have ir:=zq q1;have cY:=zq q2;have eY:=zq q3;clear iD hgrow hat CR q1 q2 q3;go_wp2_with fail;refine(Zy R tv L fin a6 s6 nv ns _ cY.o [125]).mono ?_;rintro e eH ⟨rfl,t1,t2⟩;have T1:=zq (RS.step eY.o t1);have TC:=zq (ir.o.wr t1 aT);clear t1
       cases ix:ae.Qv [125] s6.ts with
       |true=>
        rw[if_pos ix]at t2;have T2:=zq t2;have vB:=zq ix;clear t2 ix;go_wp2_with fail;go_ret;rw[FJ.o,if_pos vB.o]
        exact⟨_,_,rfl,T2.o,T1.o,aan (Vc s6) (by omega),_,TC.o⟩
       |false=>
        rw[if_neg (by rw[ix];decide)]at t2;have T2:=zq t2;have vB:=zq ix;clear t2 ix;go_wp2_with fail;refine(Rb R tv L fin a6 s6 nv ns _ T2.o [44]).mono ?_;rintro e TN hn;rcases hN:ae.want fin [44] s6 with- |(⟨fc,fk⟩|⟨m,s11⟩)
        ·rw[hN]at hn;exact hn.elim
        ·rw[hN]at hn
         obtain⟨rfl,n1⟩:=hn;refine⟨rfl,?_⟩
         have bu:r=some (.error (fc,fk)):=by rw[FJ.o,if_neg (by rw[vB.o];decide),hN];rfl
         rw[bu];exact⟨rfl,RS.step T1.o n1⟩
        rw[hN]at hn;obtain⟨v,a11,rfl,n1,n2,n3,rfl⟩:=hn;have hwl:=Tv hN
        have bu:ae.Xw fin f (acc++[x]) s11=r:=by rw[FJ.o,if_neg (by rw[vB.o];decide),hN];rfl
        have FH:=zq bu;have VJ:=zq n1.left;have VW:=zq n1;have jl:=zq (RS.step T1.o n2);have UH:=zq (TC.o.wr n2 aT);clear n1 n2 n3 bu hN;go_wp2_with fail;have ah:TT R tv L fin nv ns w s.ts.length r (.slice (some ⟨gg,0,none⟩) (nx+1) cap) TN:=⟨f,acc++[x],_,a11,s11,FH.o,VW.o,jl.o,UH.o,by omega,by rw[aac,aaJ];omega⟩
        have eP:Q9 L R TN<Q9 L R wo:=by rw[VJ.o,VK.o];omega
        first|exact⟨ah,eP⟩|exact⟨by (repeat apply Exists.intro);exact⟨ah,rfl⟩,eP⟩
structure fH (R:Nat) (tv:Value) (L:List Tok) (fin:Nat) (s0:ae.St) (nv:Value) (ns:List Nv) (w wr:World) (a':Nat) (s':ae.St) (dR:Value) (ns':List Nv):Prop where
 rs:RS wr R tv L fin a' s' dR (ns++ns')
 wr:Wr R nv.ownBlock w wr
 mv:Mv w nv.ownBlock dR.ownBlock
 few:(ns++ns').length+s'.ts.length<=ns.length+s0.ts.length
 opn:s'.opened=s0.opened
 fresh:∀p∈ns',∀q,p.2.ownBlock=some q->w.heap.size<=q
theorem fH.refl {R:Nat}{tv:Value}{L:List Tok}{fin a:Nat}{s:ae.St}{nv:Value}{ns:List Nv}{w:World}(h:RS w R tv L fin a s nv ns):fH R tv L fin s nv ns w w a s nv []:=
 ⟨by rw[ab4];exact h,Wr.refl _ _ _,Mv.refl _ _,by rw[ab4];exact aaa _,rfl,fun p hp=>by cases hp⟩
theorem fH.trans {R:Nat}{tv:Value}{L:List Tok}{fin:Nat}{s0 s1 s2:ae.St}{nv eU nG:Value}{ns ez vw:List Nv}{w w1 w2:World}{a1 a2:Nat}(h:fH R tv L fin s0 nv ns w w1 a1 s1 eU ez)(k:fH R tv L fin s1 eU (ns++ez) w1 w2 a2 s2 nG vw):fH R tv L fin s0 nv ns w w2 a2 s2 nG (ez++vw):=
 ⟨by rw[<-aar];exact k.rs,h.wr.trans h.mv k.wr,Mv.trans (R:=R) (w':=w1) h.mv h.wr.size k.mv,by have:=h.few;have:=k.few;rw[<-aar];omega,k.opn.trans h.opn,fun p E q hq=>by
  rcases abZ.1 E with E|E
  ·exact h.fresh p E q hq
  exact aan h.wr.size (k.fresh p E q hq)⟩
theorem fH.step {R:Nat}{tv:Value}{L:List Tok}{fin:Nat}{s0 s1 s2:ae.St}{nv eU:Value}{ns ez:List Nv}{w w1 w2:World}{a1 a2:Nat}(h:fH R tv L fin s0 nv ns w w1 a1 s1 eU ez)(k:RS w2 R tv L fin a2 s2 eU (ns++ez))(hw:Wr R none w1 w2)(hl:s2.ts.length<=s1.ts.length)(ho:s2.opened=s1.opened):fH R tv L fin s0 nv ns w w2 a2 s2 eU ez:=
 ⟨k,h.wr.trans h.mv (hw.weak _),h.mv,by have:=h.few;omega,ho.trans h.opn,h.fresh⟩
theorem fH.xT {R:Nat}{tv:Value}{L:List Tok}{fin:Nat}{s0 s1:ae.St}{nv eU nG:Value}{ns ez:List Nv}{w w1 w2:World}{a1:Nat}{nd:ae.Node}{kv:Value}(h:fH R tv L fin s0 nv ns w w1 a1 s1 eU ez)
  (k:RS w2 R tv L fin a1 s1 nG (ns++ez++[(nd,kv)])) (hw:Wr R eU.ownBlock w1 w2) (hm:Mv w1 eU.ownBlock nG.ownBlock) (hf:(ns++ez).length+1+s1.ts.length<=ns.length+s0.ts.length) (hv:∀q,kv.ownBlock=some q->w.heap.size<=q):
  fH R tv L fin s0 nv ns w w2 a1 s1 nG (ez++[(nd,kv)]):=
 ⟨by rw[<-aar];exact k,h.wr.trans h.mv hw,Mv.trans (R:=R) (w':=w1) h.mv h.wr.size hm,by rw[<-aar,aac,aaJ];omega,h.opn,fun p E q hq=>by
  rcases abZ.1 E with E|E
  ·exact h.fresh p E q hq
  rw[abu.1 E]at hq;exact hv q hq⟩
def RP {α:Type}(r:ae.PR α)(R:Nat)(tv:Value)(L:List Tok)(fin:Nat)(s:ae.St)(nv:Value)(ns:List Nv)(Q:α->Value->List Nv->Value->World->Prop)(w:World)(e:Ending)(w':World):Prop:=
 match r with
 |none=>False
 |some (.error (c,k))=>e=Sz c k/\Wr R nv.ownBlock w w'
 |some (.ok (x,s'))=> ∃v a' dR ns',e=.returned v/\fH R tv L fin s nv ns w w' a' s' dR ns'/\Q x v ns' dR w'
def EM (ns:List Nv)(e:ae.Ex)(v:Value)(ns':List Nv)(_:Value)(_:World):Prop:=v=.int .i64 ((ns.length+e.size-1:Nat):Int)/\ns'.map Prod.fst=e.flat ns.length
mutual
theorem U3:∀(e:ae.Ex) (o:Nat),(e.flat o).length=e.size
 | .num _,_| .name _,_| .mat _,_| .cpx _,_=>rfl
 | .neg a,o| .turn a,o| .pow a _,o=>by simp[ae.Ex.flat,ae.Ex.size,U3 a]
 | .add a b,o| .sub a b,o| .mul a b,o=>by simp[ae.Ex.flat,ae.Ex.size,U3 a,U3 b];omega
 | .call _ l,o=>by simp[ae.Ex.flat,ae.Ex.size,Mp l]
theorem Mp:∀(l:ae.aV) (o:Nat),(l.flat o).length=l.size
 | .nil,_=>rfl
 | .cons a l,o=>by simp[ae.aV.flat,ae.aV.size,U3 a,Mp l]
end
theorem F8:∀e:ae.Ex,0<e.size:=by intro e;cases e<;>simp[ae.Ex.size]
theorem EM.len {ns ns':List Nv}{e:ae.Ex}{v nv:Value}{w:World}(h:EM ns e v ns' nv w):ns'.length=e.size:=by have:=aa7 List.length h.2;rw[aay,U3]at this;exact this
theorem ft.fresh {w:World}{R:Nat}{tv:Value}{L:List Tok}{fin a:Nat}{s:ae.St}{nv:Value}{ns:List Nv}(h:RS w R tv L fin a s nv ns)(ks:List Nat):ft (w.alloc (.cells (ks.map fun k=>Value.int .i64 ((k:Nat):Int)).toArray 3)) R nv ns (.slice (some ⟨w.heap.size,0,none⟩) ks.length ks.length) ks\/9223372036854775807<ks.length:=by
 by_cases hl:ks.length<=9223372036854775807
 ·left
  have J:=aaz w (.cells (ks.map fun k=>Value.int .i64 ((k:Nat):Int)).toArray 3);refine⟨⟨_,_,rfl,aaa _,by unfold maxLen;omega,?_,fun _=>⟨_,rfl,fun j k hj=> ?_⟩⟩,fun p hp q H e=> ?_⟩
  ·intro q H
   cases H
   refine⟨h.lt,by simp,fun e=> ?_⟩;have E:=(h.own.lt _ e).2;change w.heap.size<w.heap.size at E;omega
  ·rw[aam _ _ _ _ _ _ J];simp[hj]
  cases e
  obtain⟨ao,K,e1,-,-,I,-⟩:=h.kids p hp;have E:=(I _ H).2.1;change w.heap.size<w.heap.size at E;omega
 right;omega
theorem ft.nil {w:World}{R:Nat}{nv:Value}{ns:List Nv}:ft w R nv ns (.slice none 0 0) []:=
 ⟨⟨none,0,rfl,aaa _,aao _,fun q hq=>by simp[Value.ownBlock]at hq,fun h=>absurd h (ae1 _)⟩,fun p _ q _ e=>by simp[Value.ownBlock]at e⟩
end Go.Proofs.YtgfmiladfeoldaaGreatDoor
namespace ae
open ag
def fG (s s':St):Prop:=s'.opened=s.opened/\s'.ts.length<=s.ts.length
theorem fG.refl (s:St):fG s s:=⟨rfl,aaa _⟩
theorem fG.trans {a b c:St}(h:fG a b)(k:fG b c):fG a c:=⟨k.1.trans h.1,aan k.2 h.2⟩
theorem fG.aW (s:St):fG s s.aW:=⟨rfl,by show s.ts.tail.length<=_;rw[aeI];omega⟩
theorem Jj {α:Type}{a:α}{s:St}{r:α×St}(h:ret a s=some (.ok r)):r=(a,s):=by unfold ret at h;cases h;rfl
theorem P6 {α:Type}{c k:Nat}{r:α×St}(h:(fault c k:PR α)=some (.ok r)):False:=by unfold fault at h;cases h
theorem Cu {fin:Nat}{x:Bytes}{s:St}{r:Unit×St}(h:want fin x s=some (.ok r)):fG s r.2:=by
 unfold want at h;split at h
 ·rw[Jj h];exact fG.aW s
 unfold dh at h;exact(P6 h).elim
theorem Qq0 {fin:Nat}{s:St}{r:Nat×St}(h:Qa fin s=some (.ok r)):fG s r.2:=by
 unfold Qa at h;split at h
 ·rw[Jj h];exact fG.aW s
 unfold dh at h;exact(P6 h).elim
theorem Ns (fin:Nat):∀(f:Nat) (acc:List Nat) (s:St) (r:List Nat×St),Xj fin f acc s=some (.ok r)->fG s r.2
 |0,_,_,_,h=>by cases h
 |f+1,acc,s,r,h=>by
  unfold Xj at h;split at h
  ·obtain⟨m,s',h1,h2⟩:=Q7 h
   exact(Qq0 h1).trans (Ns fin f _ _ _ h2)
  rw[Jj h];exact fG.refl s
end ae
namespace Go.Proofs.YtgfmiladfeoldaaGreatDoor
open Go.RowKit ai ag
def eA (F:Nat)(P:ae.St->ae.PR ae.Ex)(fin:Nat):Prop:=∀(R:Nat) (tv:Value) (L:List Tok) (a:Nat) (s:ae.St) (nv:Value) (ns:List Nv) (w:World),RS w R tv L fin a s nv ns->P s≠none->Calls Tryz.prog F #[.pointer (some ⟨R,0,none⟩)] w (RP (P s) R tv L fin s nv ns (EM ns) w)
theorem Ga {x:Bytes}{s:ae.St}(h:ae.Qv x s.ts=true):s.aW.ts.length+1=s.ts.length:=by have E:=adJ.2 (Mf h);show s.ts.tail.length+1=_;rw[aeI];omega
def ZK (R:Nat)(tv:Value)(L:List Tok)(fin:Nat)(s0:ae.St)(nv:Value)(ns:List Nv)(w:World)(r:ae.PR ae.Ex)(kv:Value)(wr:World):Prop:=
 ∃g k s' a' dR ns',ae.N6 g k s'=r/\fH R tv L fin s0 nv ns w wr a' s' dR ns'/\EM ns k kv ns' dR wr
def YH (R:Nat)(tv:Value)(L:List Tok)(fin:Nat)(s0:ae.St)(nv:Value)(ns:List Nv)(w:World)(r:ae.PR Nat)(nn:Value)(wr:World):Prop:=
 ∃g n s' a',ae.Ub g n s'=r/\nn=.int .i64 ((n:Nat):Int)/\RS wr R tv L fin a' s' nv ns/\Wr R none w wr/\n+s'.ts.length<=s0.ts.length/\s'.opened=s0.opened
def YI (R:Nat)(tv:Value)(L:List Tok)(fin:Nat)(s0:ae.St)(nv:Value)(ns:List Nv)(w:World)(n:Nat)(s2:ae.St)(e0:ae.Ex)(kv iv:Value)(wr:World):Prop:=
 ∃i k a' dR ns',iv=.int .i64 ((i:Nat):Int)/\i<=n/\ae.gF (n-i) k=e0/\fH R tv L fin s0 nv ns w wr a' s2 dR ns'/\EM ns k kv ns' dR wr/\(ns++ns').length+s2.ts.length+(n-i)<=ns.length+s0.ts.length
def PaQ (R:Nat)(ns:List Nv)(w:World)(l:ae.aV)(v:Value)(ns':List Nv)(dR:Value)(w':World):Prop:=ft w' R dR (ns++ns') v (l.roots ns.length)/\ns'.map Prod.fst=l.flat ns.length/\ ∀q,v.ownBlock=some q->w.heap.size<=q
theorem RS.pj {w w':World}{R:Nat}{tv:Value}{L:List Tok}{fin a:Nat}{s:ae.St}{nv:Value}{ns:List Nv}{row:Option Nat}(h:RS w R tv L fin a s nv ns)(hg:w.grownBy w' row)(hr:∀q,row=some q->R<q/\nv.ownBlock≠some q/\ ∀p∈ns,p.2.ownBlock≠some q):RS w' R tv L fin a s nv ns/\(∀B,B<=w.heap.size->(∀q,row=some q->B<=q)->Below B w w'):=by
 refine⟨⟨?_,?_,h.drop,h.le,?_,?_,h.apart,h.few,h.deep,h.short,h.sum,h.good,?_,h.sgl⟩,fun B hB hq=>⟨hg.os,hg.tape,hg.output,hg.size,fun k hk=>hg.block k (by omega) (fun e=>by have:=hq k e.symm;omega)⟩⟩
 ·exact(hg.block R h.lt (fun e=>by have:=(hr R e.symm).1;omega)).trans h.blk
 ·obtain⟨ao,H,e,K,O,E⟩:=h.tks
  refine⟨ao,H,e,K,O,fun h0=> ?_⟩;obtain⟨g,rfl,T,I⟩:=E h0;have U:=hg.block g (by have:=h.lt;omega) (fun e=>by have:=(hr g e.symm).1;omega);exact⟨g,rfl,T,fun j t hj=>⟨(abG U).trans (I j t hj).1,(abG U).trans (I j t hj).2.1,(abG U).trans (I j t hj).2.2⟩⟩
 ·refine h.own.kept hg ?_
  cases ho:nv.ownBlock with
  |none=>exact .inl rfl
  |some q=>exact .inr (fun e=>(hr q e.symm).2.1 ho)
 ·intro p Z
  obtain⟨ao,H,e,K,O,E,h4⟩:=h.kids p Z;refine⟨ao,H,e,K,O,fun q hq=>⟨(E q hq).1,aaj (E q hq).2.1 hg.size,(E q hq).2.2⟩,fun h0=> ?_⟩;obtain⟨g,rfl,T⟩:=h4 h0
  have J:p.2.ownBlock=some g:=by rw[e];rfl
  have I:=E g J;exact⟨g,rfl,fun j k hj=>(abG (hg.block g I.2.1 (fun e=>(hr g e.symm).2.2 p Z J))).trans (T j k hj)⟩
 intro d hd;exact(abG (hg.block _ (aed h.sgl h.lt) (fun e=>Nat.lt_asymm (hr _ e.symm).1 h.sgl))).trans (h.sg d hd)
theorem Qbt {x:Bool×Nat}(h:ae.Eo x):Zz x.1 x.2=ae.bg x:=by
 obtain⟨b,n⟩:=x;unfold Zz ae.bg
 cases b with
 |false=>simp;rfl
 |true=>
  have E:n≠0:=by have H:0<n:=h rfl;omega
  simp[E];rfl
theorem Qyz (m:ae.cn)(h:∀x∈m.at_,ae.Eo x):Ze m.rows m.aB (Yk m.at_)=ae.bB m:=by
 have e:Yk m.at_=m.at_.map ae.bg:=List.map_congr_left (fun x hx=>Qbt (h x hx));rw[e];unfold Ze ae.bB;by_cases h0:m.at_=[]
 ·rw[if_pos h0,h0,if_pos (by rfl)]
 rw[if_neg h0,if_neg (by simpa using h0)]
theorem Qqm {k:Nat}{s:ae.St}(h:ae.Qm k s.ts=true):s.aW.ts.length+1=s.ts.length:=by have E:=adJ.2 (Wd h);show s.ts.tail.length+1=_;rw[aeI];omega
def nT (l:List (List Nat)):Nat:=(l.map List.length).sum
theorem Ri (fin:Nat):∀(f:Nat) (acc:List Nat) (s:ae.St) (r:List Nat×ae.St),ae.Xj fin f acc s=some (.ok r)->r.1.length+r.2.ts.length<=acc.length+s.ts.length
 |0,_,_,_,h=>by cases h
 |f+1,acc,s,r,h=>by
  unfold ae.Xj at h;split at h
  ·obtain⟨m,s',h1,h2⟩:=ae.Q7 h
   have E:=Ri fin f _ _ _ h2;have H:=Y3 h1;rw[aac,aaJ]at E;omega
  rw[ae.Jj h];exact aaa _
theorem Rn (fin:Nat):∀(f:Nat) (acc:List (List Nat)) (s:ae.St) (r:List (List Nat)×ae.St),ae.Xw fin f acc s=some (.ok r)->nT r.1+r.2.ts.length<=nT acc+s.ts.length/\r.1.length+r.2.ts.length<=acc.length+s.ts.length
 |0,_,_,_,h=>by cases h
 |f+1,acc,s,r,h=>by
  unfold ae.Xw at h;obtain⟨n,s1,h1,h2⟩:=ae.Q7 h;obtain⟨x,s2,H,E⟩:=ae.Q7 h2;have k1:=Y3 h1;have k3:=Ri fin f _ _ _ H;have k4:=(ae.Ns fin f _ _ _ H).2
  have kt:nT (acc++[x])=nT acc+x.length:=by simp[nT]
  simp only[aaJ]at k3;split at E
  ·rw[ae.Jj E]
   have k5:=(ae.fG.aW s2).2;simp only[kt,aac,aaJ]at*;omega
  obtain⟨u,s3,I,J⟩:=ae.Q7 E;have k5:=(ae.Cu I).2;have k6:=Rn fin f _ _ _ J;rw[kt,aac,aaJ]at k6
  try simp only at*
  omega
theorem Ep {fin f:Nat}{s:ae.St}{r:List (List Nat)×ae.St}(h:ae.Q8 fin f s=some (.ok r)):nT r.1<=s.ts.length/\r.1.length<=s.ts.length:=by
 unfold ae.Q8 at h;obtain⟨u,s1,H,E⟩:=ae.Q7 h;have k1:=(ae.Cu H).2;split at E
 ·rw[ae.Jj E];simp[nT]
 have:=Rn fin f _ _ _ E;simp[nT]at this k1 ⊢;omega
theorem cK (sep:Bytes):∀l:List Bytes,(ae.Qb sep l).length<=(l.map List.length).sum+l.length*sep.length
 | []=>aao _
 | [a]=>by show a.length<=(a.length+0)+1*_;omega
 |a::b::l=>by have h1:=cK sep (b::l);show (a++sep++ae.Qb sep (b::l)).length<=(a.length+((b::l).map List.length).sum)+((b::l).length+1)*sep.length;simp only[aac];rw[aeF];omega
theorem Kz (t:Bytes):(ae.ar (ae.Xg t)).length<=max 1 t.length:=by
 unfold ae.ar;split
 ·show 1<=_;omega
 rw[aay];refine aan (ai.Wf (w:=(aO (t.filter aF.Qf)).length) (ai.Tm fun x hx=> ?_)) ?_
 ·obtain⟨c,h,rfl⟩:=adR.1 hx
  have:=(List.mem_filter.1 h).2;unfold aF.Qf at this;simp at this;omega
 rw[show (aO (t.filter aF.Qf)).length=(t.filter aF.Qf).length from aay _];exact aan (aes _ _) (Nat.le_max_right _ _)
def Lb (s:ae.St):Nat:=(s.ts.map fun t=>t.2.1.length+1).sum
def jO (x:List Nat):Nat:=(x.map fun n=>(ae.ar n).length).sum
def iR (l:List (List Nat)):Nat:=(l.map jO).sum
theorem Qp4 (s:ae.St):Lb s.aW<=Lb s:=by
 unfold Lb ae.St.aW
 cases s.ts with
 |nil=>exact aaa _
 |cons t l=>simp
theorem D6 {fin:Nat}{s s':ae.St}{n:Nat}(h:ae.Qa fin s=some (.ok (n,s'))):(ae.ar n).length+Lb s'<=Lb s:=by
 unfold ae.Qa at h;split at h
 ·rename_i H
  have e:=ae.Jj h
  injection e with e1 e2
  subst e1 e2;have E:=Kz (ae.Xx s.ts);unfold Lb ae.St.aW
  cases dm:s.ts with
  |nil=>rw[dm]at H;cases H
  |cons t l=>rw[dm]at E;change (ae.ar (ae.Xg t.2.1)).length<=max 1 t.2.1.length at E;show (ae.ar (ae.Xg t.2.1)).length+(l.map fun t=>t.2.1.length+1).sum<=((t::l).map fun t=>t.2.1.length+1).sum;rw[abK,adY];omega
 cases h
theorem Qwj {fin:Nat}{x:Bytes}{s s':ae.St}{u:Unit}(h:ae.want fin x s=some (.ok (u,s'))):Lb s'<=Lb s:=by
 unfold ae.want at h;split at h
 ·have e:=ae.Jj h
  injection e with e1 e2
  subst e2;exact Qp4 s
 cases h
theorem F6 (fin:Nat):∀(f:Nat) (acc:List Nat) (s:ae.St) (r:List Nat×ae.St),ae.Xj fin f acc s=some (.ok r)->jO r.1+Lb r.2<=jO acc+Lb s
 |0,_,_,_,h=>by cases h
 |f+1,acc,s,r,h=>by
  unfold ae.Xj at h;split at h
  ·obtain⟨m,s',h1,h2⟩:=ae.Q7 h
   have E:=F6 fin f _ _ _ h2;have I:=D6 h1
   have H:jO (acc++[m])=jO acc+(ae.ar m).length:=by simp[jO]
   rw[H]at E;omega
  rw[ae.Jj h];exact aaa _
theorem He (fin:Nat):∀(f:Nat) (acc:List (List Nat)) (s:ae.St) (r:List (List Nat)×ae.St),ae.Xw fin f acc s=some (.ok r)->iR r.1+Lb r.2<=iR acc+Lb s
 |0,_,_,_,h=>by cases h
 |f+1,acc,s,r,h=>by
  unfold ae.Xw at h;obtain⟨n,s1,h1,h2⟩:=ae.Q7 h;obtain⟨x,s2,H,E⟩:=ae.Q7 h2;have k1:=D6 h1;have k3:=F6 fin f _ _ _ H
  have kn:jO [n]=(ae.ar n).length:=by simp[jO]
  have kt:iR (acc++[x])=iR acc+jO x:=by simp[iR]
  simp only[kn]at k3;split at E
  ·rw[ae.Jj E]
   have k5:=Qp4 s2;simp only[kt]at*;omega
  obtain⟨u,s3,I,J⟩:=ae.Q7 E;have k5:=Qwj I;have k6:=He fin f _ _ _ J;rw[kt]at k6
  try simp only at*
  omega
theorem Qz0 {fin f:Nat}{s:ae.St}{r:List (List Nat)×ae.St}(h:ae.Q8 fin f s=some (.ok r)):iR r.1<=Lb s:=by
 unfold ae.Q8 at h;obtain⟨u,s1,H,E⟩:=ae.Q7 h;have k1:=Qwj H;split at E
 ·rw[ae.Jj E];exact aao _
 have:=He fin f _ _ _ E;have k0:iR []=0:=rfl;omega
theorem Qfr (x:List Nat):(dL x).length<=jO x+x.length:=by have h:=cK [32] (x.map ae.ar);rw[aay,aeE]at h;have E:([32]:Bytes).length=1:=rfl;rw[E,aem]at h;exact h
theorem Qx2:∀l:List (List Nat),((l.map dL).map List.length).sum<=iR l+nT l
 | []=>aao _
 |a::l=>by
  have h1:=Qx2 l;have h:=Qfr a
  have e1:iR (a::l)=jO a+iR l:=by simp[iR]
  have e2:nT (a::l)=a.length+nT l:=by simp[nT]
  rw[e1,e2,abK,abK,adY];omega
theorem Qbk {l:List (List Nat)}(hd:iR l<=201326592)(ht:nT l<=67108864)(hl:l.length<=67108864):(ae.Qb [44,32] (l.map dL)).length<=70368744177664:=by have H:=Qx2 l;have h:=cK [44,32] (l.map dL);rw[aay]at h;have E:([44,32]:Bytes).length=2:=rfl;rw[E]at h;omega
theorem fH.of0 {R:Nat}{tv:Value}{L:List Tok}{fin a a2:Nat}{s s2:ae.St}{nv:Value}{ns:List Nv}{w w2:World}(h:RS w R tv L fin a s nv ns)(k:RS w2 R tv L fin a2 s2 nv ns)(hw:Wr R none w w2)(hl:s2.ts.length<=s.ts.length)(ho:s2.opened=s.opened):fH R tv L fin s nv ns w w2 a2 s2 nv []:=
 (fH.refl h).step (by rw[ab4];exact k) hw hl ho
theorem Rg {fin:Nat}{s s':ae.St}{x:Bytes}(h:ae.name fin s=some (.ok (x,s'))):s'=s.aW/\ae.Qm 2 s.ts=true:=by
 unfold ae.name at h;split at h
 ·have e:=ae.Jj h
  cases e
  rename_i E;exact⟨rfl,E⟩
 exact(ae.P6 h).elim
theorem Qwp (fin f:Nat)(R:Nat)(tv:Value)(L:List Tok)(a:Nat)(s:ae.St)(nv:Value)(ns:List Nv)(w:World)(h:RS w R tv L fin a s nv ns)(cS:ae.Qm 1 s.ts=false)(hk2:ae.Qm 2 s.ts=true)(hm:ae.Qv [40] s.ts.tail=false)(hne:ae.atom fin (f+1) s≠none):Calls Tryz.prog 251 #[.pointer (some ⟨R,0,none⟩)] w (RP (ae.atom fin (f+1) s) R tv L fin s nv ns (EM ns) w):=by
 have pZ:=zq h;have HW0:Hid (Wr R none w w):=Wr.refl _ _ _;obtain⟨r,hr⟩:=xq (ae.atom fin (f+1) s);rw[<-hr]at hne ⊢;have bR:=zq hne
 have nM:Hid (r=(ae.name fin s).bind fun x s=>ae.ret (.name x) s):=by show _=_;rw[hr];unfold ae.atom;simp only[cS,hk2,hm,Bool.and_false,ae0,aeb,if_true];try rfl
 have xh:=h.few;have aU:=h.short
 have hLn:s.ts.length<=L.length:=by rw[<-h.drop,aag];omega
 have C1:=zq (Zj 1 [] s.ts (by decide));have C2:=zq (Zj 2 [] s.ts (by decide));have C3:=zq (Ky [40] s.ts);rw[cS]at C1;rw[hk2]at C2;rw[hm]at C3;clear h hr hne cS hk2 hm;go_enter Tryz.func251,Tryz.ntmps251;go_wp2_with fail;refine(X4 R tv L fin a s nv ns _ pZ.o 0 1 [] (by omega) (by omega)).mono ?_;rintro e w1 ⟨rfl,b1⟩;rw[C1.o];have cL:=zq (pZ.o.below b1);have iX:=zq (RS.step HW0.o (Wr.af b1));clear b1;go_wp2_with fail;refine(X4 R tv L fin a s nv ns _ cL.o 0 2 [] (by omega) (by omega)).mono ?_;rintro e w2 ⟨rfl,b1⟩;rw[C2.o];have cr:=zq (cL.o.below b1);have dz:=zq (RS.step iX.o (Wr.af b1));clear b1;go_wp2_with fail;refine(X4 R tv L fin a s nv ns _ cr.o 1 3 [40] (by omega) (by omega)).mono ?_;rintro e w3 ⟨rfl,b1⟩;rw[C3.o];have gR:=zq (cr.o.below b1);have pc:=zq (RS.step dz.o (Wr.af b1));clear b1;go_wp2_with fail;refine(X4 R tv L fin a s nv ns _ gR.o 0 2 [] (by omega) (by omega)).mono ?_;rintro e w4 ⟨rfl,b1⟩;rw[C2.o];have lW:=zq (gR.o.below b1);have cJ:=zq (RS.step pc.o (Wr.af b1));clear b1;go_wp2_with fail;refine(Qk4 R tv L fin a s nv ns _ lW.o).mono ?_;rintro e w5 hn
 rcases hN:ae.name fin s with- |(⟨fc,fk⟩|⟨x,s2⟩)<;>rw[hN]at hn
 ·exact hn.elim
 ·obtain⟨rfl,n1⟩:=hn
  refine⟨rfl,?_⟩
  have bu:r=some (.error (fc,fk)):=by rw[nM.o];simp only[hN,ae.PR.bind];try rfl
  rw[bu];exact⟨rfl,(cJ.o.weak _).trans (Mv.refl _ _) (n1.weak _)⟩
 obtain⟨v2,a2,rfl,n1,n2,n3,rfl⟩:=hn;obtain⟨rfl,-⟩:=Rg hN;have HN:=zq hN;have FI:=zq n1;have nN:=zq (RS.step cJ.o n2);clear n1 n2 hN;have BS:s.aW.ts.length+1=s.ts.length:=Qqm (Rg HN.o).2;have HP:=zq (fH.of0 pZ.o FI.o nN.o (Vc s) rfl);go_wp2_with fail;refine(Fm R tv L fin a2 s.aW nv (ns++[]) _ HP.o.rs ⟨2,x,[]⟩ _ ft.nil (by have:=HP.o.rs.few;rw[ab4];omega)).mono ?_;rintro e wq ⟨nvq,rfl,b1,b2,b3⟩;have HQ:=zq (HP.o.xT b1 b2 b3 (by rw[ab4];omega) (fun q hq=>by simp[Value.ownBlock]at hq));clear b1 b2 b3
 have iW:Hid (r=some (.ok (.name x,s.aW))):=by show _=_;rw[nM.o,HN.o];rfl
 go_wp2_with fail;go_ret;rw[iW.o];exact⟨_,a2,nvq,_,rfl,HQ.o,by simp[ae.Ex.size],by simp[ae.Ex.flat]⟩
def LnP (r:ae.PR ae.Ln)(R:Nat)(tv:Value)(L:List Tok)(fin:Nat)(nv:Value)(w:World)(e:Ending)(w':World):Prop:=
 match r with
 |none=>False
 |some (.error (c,k))=>e=Sz c k/\Wr R nv.ownBlock w w'
 |some (.ok (n,s'))=>e=.returned (.tuple #[])/\ ∃a' dR ns',RS w' R tv L fin a' s' dR ns'/\Wr R nv.ownBlock w w'/\ns'.map Prod.fst=n.flat/\Mv w nv.ownBlock dR.ownBlock/\ ∀p∈ns',∀q,p.2.ownBlock=some q->w.heap.size<=q
structure uS (R:Nat) (tv:Value) (L:List Tok) (fin:Nat) (nv:Value) (w wr:World) (a':Nat) (s':ae.St) (dR:Value) (ns':List Nv):Prop where
 rs:RS wr R tv L fin a' s' dR ns'
 wr:Wr R nv.ownBlock w wr
 mv:Mv w nv.ownBlock dR.ownBlock
 fresh:∀p∈ns',∀q,p.2.ownBlock=some q->w.heap.size<=q
theorem uS.step {R:Nat}{tv:Value}{L:List Tok}{fin:Nat}{s1 s2:ae.St}{nv eU:Value}{ez:List Nv}{w w1 w2:World}{a1 a2:Nat}(h:uS R tv L fin nv w w1 a1 s1 eU ez)(k:RS w2 R tv L fin a2 s2 eU ez)(hw:Wr R none w1 w2):uS R tv L fin nv w w2 a2 s2 eU ez:=
 ⟨k,h.wr.trans h.mv (hw.weak _),h.mv,h.fresh⟩
theorem uS.trans {R:Nat}{tv:Value}{L:List Tok}{fin:Nat}{s1 s2:ae.St}{nv eU nG:Value}{ez vw:List Nv}{w w1 w2:World}{a1 a2:Nat}(h:uS R tv L fin nv w w1 a1 s1 eU ez)(k:fH R tv L fin s1 eU ez w1 w2 a2 s2 nG vw):uS R tv L fin nv w w2 a2 s2 nG (ez++vw):=
 ⟨k.rs,h.wr.trans h.mv k.wr,Mv.trans (R:=R) (w':=w1) h.mv h.wr.size k.mv,fun p E q hq=>by
  rcases abZ.1 E with E|E
  ·exact h.fresh p E q hq
  exact aan h.wr.size (k.fresh p E q hq)⟩
theorem uS.put {R:Nat}{tv:Value}{L:List Tok}{fin:Nat}{s1:ae.St}{nv eU nG:Value}{ez:List Nv}{w w1 w2:World}{a1:Nat}{nd:ae.Node}{kv:Value}(h:uS R tv L fin nv w w1 a1 s1 eU ez)(k:RS w2 R tv L fin a1 s1 nG (ez++[(nd,kv)]))(hw:Wr R eU.ownBlock w1 w2)(hm:Mv w1 eU.ownBlock nG.ownBlock)(hv:∀q,kv.ownBlock=some q->w.heap.size<=q):uS R tv L fin nv w w2 a1 s1 nG (ez++[(nd,kv)]):=
 ⟨k,h.wr.trans h.mv hw,Mv.trans (R:=R) (w':=w1) h.mv h.wr.size hm,fun p E q hq=>by
  rcases abZ.1 E with E|E
  ·exact h.fresh p E q hq
  rw[abu.1 E]at hq;exact hv q hq⟩
theorem Qzh {P:Program}{fn:Func}{c₀:Frame}{cs:List Frame}{R:Ending->FrameMode->World->Prop}{c:Code}{a:Act}{w:World}(u':FrameMode)(h:c.wp P (bodyPost P fn (fun e w'=>R e u' w')) a w):c.wpS P (bodyPostS P fn c₀ cs R) a ({c₀ with mode:=u'}::cs) w:=fun b k _ _=>by
 obtain⟨e,a',w',q,r⟩:=h b k ({c₀ with mode:=u'}::cs);refine⟨e,a',_,w',?_,r⟩
 cases e with
 |normal=>exact⟨q.1,u',rfl,q.2⟩
 |ret=>exact⟨q.1,u',rfl,q.2⟩
 |panic ch=>exact⟨q.1,u',rfl,q.2⟩
 |outgrown=>exact⟨u',q⟩
 |exit i=>exact q.elim
 |goto i=>exact q.elim
theorem M6 (c k:Int)(w:World):(Instr.typeAssert (.iface 81 (.agg #[.int .i64 c,.int .i64 k])) 20 81 true).run Tryz.prog w=.ok (.tuple #[.agg #[.int .i64 c,.int .i64 k],.bool true]) w:=by unfold Instr.typeAssert;simp[go_sem,Tryz.underlying20]
theorem Kw (g c k:Nat)(x y:Value)(w:World)(hb:w.heap[g]?=some (.cells #[x,y] 81 (0,0))):CallsD Tryz.prog 92 #[.pointer (some ⟨g,0,none⟩)] (.panicking [{v:=.iface 81 (.agg #[.int .i64 (c:Nat),.int .i64 (k:Nat)]),recovered:=false}]) w fun e u' w'=>
   e=.returned (.tuple #[])/\u'=.panicking [{v:=.iface 81 (.agg #[.int .i64 (c:Nat),.int .i64 (k:Nat)]),recovered:=true}]/\w'=((w.setCell ⟨g,0,none⟩ (.int .i64 (c:Nat))).setCell ⟨g,1,none⟩ (.int .i64 (k:Nat))).alloc (.cells #[.int .i64 (c:Nat),.int .i64 (k:Nat)] 81):=by
 refine callsD_of_wpS Tryz.func92 rfl fun c₀ cs hu=> ?_;have hg:g<w.heap.size:=(aal.1 hb).1;have hz0:w.frozen? ⟨g,0,none⟩=false:=aaH w g 0 _ _ hb;have hz1:w.frozen? ⟨g,1,none⟩=false:=aaH w g 1 _ _ hb
 have hc0:w.cell? ⟨g,0,none⟩=some x:=by rw[aam w g 0 _ _ _ hb];rfl
 have hc1:w.cell? ⟨g,1,none⟩=some y:=by rw[aam w g 1 _ _ _ hb];rfl
 apply wpS_seq;apply wpS_region;simp[wpOpsS,go_sem,recoverD,hu,Tryz.ntmps92,Exit.thenS];refine Qzh (.panicking [{v:=.iface 81 (.agg #[.int .i64 (c:Nat),.int .i64 (k:Nat)]),recovered:=true}]) ?_;clear hb;simp only[Array.replicate_succ,Array.replicate_zero,List.push_toArray,List.append_toArray,adz,adV,List.setIfInBounds_toArray,List.set];have hta:∀(c k:Int) (w:World),(Instr.typeAssert (.iface 81 (.agg #[.int .i64 c,.int .i64 k])) 20 81 true).run Tryz.prog w=.ok (.tuple #[.agg #[.int .i64 c,.int .i64 k],.bool true]) w:=M6;go_wp2_with fail;go_end0;exact⟨rfl,trivial,rfl⟩
theorem R8 (g:Nat)(w:World):CallsD Tryz.prog 92 #[.pointer (some ⟨g,0,none⟩)] .returning w fun e u' w'=>e=.returned (.tuple #[])/\u'=.returning/\w'=w:=by refine callsD_of_wpS Tryz.func92 rfl fun c₀ cs hu=> ?_;apply wpS_seq;apply wpS_region;simp[wpOpsS,go_sem,recoverD,hu,Tryz.ntmps92,Exit.thenS];refine Qzh c₀.mode ?_;rw[hu];simp only[Array.replicate_succ,Array.replicate_zero,List.push_toArray,List.append_toArray,adz,adV,List.setIfInBounds_toArray,List.set];go_wp2_with fail;go_end0;exact⟨rfl,trivial,rfl⟩
def GuP (r:ae.PR ae.Ln)(R:Nat)(tv:Value)(L:List Tok)(fin:Nat)(nv:Value)(w:World)(e:Ending)(w':World):Prop:=
 match r with
 |none=>False
 |some (.error (c,k))=>e=.returned (.agg #[.int .i64 (c:Nat),.int .i64 (k:Nat)])/\Wr R nv.ownBlock w w'
 |some (.ok (n,s'))=>e=.returned (.agg #[.int .i64 0,.int .i64 0])/\ ∃a' dR ns',RS w' R tv L fin a' s' dR ns'/\Wr R nv.ownBlock w w'/\ns'.map Prod.fst=n.flat
theorem Wr.PB {R g o:Nat}{og:Option Nat}{w w2:World}(h:Wr R og w w2)(hg:w.heap.size<=g)(u:Value):Wr R og w (w2.setCell ⟨g,o,none⟩ u):=
 ⟨h.os,h.tape,h.output,by simpa [World.setCell] using h.size,fun k hk hR ho=>(aaX w2 ⟨g,o,none⟩ k u (by show k≠g;omega)).trans (h.block k hk hR ho)⟩
theorem Gh {g o:Nat}(w:World)(u:Value):w.grownBy (w.setCell ⟨g,o,none⟩ u) (some g):=
 ⟨rfl,rfl,rfl,by simp[World.setCell],fun k _ hk=>aaX w ⟨g,o,none⟩ k u (fun e=>hk (by rw[e]))⟩
end Go.Proofs.YtgfmiladfeoldaaGreatDoor
namespace ag
def letter:Nat->Bytes
 |0=>[97]|1=>[90]|2=>[95]|3=>[48]|4=>[57]|5=>[195,169]|6=>[202,175]|7=>[205,191]|8=>[207,191]|_=>[55]
def Qd9:Nat->Bool
 |2=>true|3=>true|4=>true|9=>true|_=>false
def ZM (t:Bytes):List C:=t.map fun b=>(some b.toNat,[b])
theorem Qwf:∀(t r:Bytes),Jl t->Qx (t++r)=ZM t++Qx r:=by
 intro t
 induction t with
 |nil=>intro r _;rfl
 |cons b t ih=>
  intro r h
  have E:b.toNat<0x80:=by
   rcases h b (by simp) with h|rfl
   ·simp[aF.Qf]at h;omega
   decide
  rw[adV,Ug E,ih r (fun c hc=>h c (by simp[hc]))];rfl
theorem Qh6 {t:Bytes}(h:Jl t):∀c∈ZM t,Ql c=true:=by
 intro c H;obtain⟨b,E,rfl⟩:=adR.1 H;rcases h b E with I|rfl
 ·simp only[aF.Qf,aaY,aaV]at I
  have:kindOf b.toNat=3:=by unfold kindOf;rw[if_neg (by omega),if_neg (by omega),if_pos (by omega)]
  simp[Ql,kd,this]
 decide
end ag
namespace ae
open ag
def Dh (b:UInt8):Bool:=b.toNat<128 && kindOf b.toNat !=3 && kindOf b.toNat !=4 && b.toNat !=95
def Dl (r:Bytes):Prop:=r=[]\/ ∃b t,r=b::t/\Dh b=true
def lg (b:Bytes)(l:List KT):Prop:=∀col r,∃n ts,aw col (Qx (b++r))=(aw (col+n) (Qx r)).after ts/\kt ts=l
def sD (b:Bytes)(l:List KT):Prop:=∀col r,Dl r-> ∃n ts,aw col (Qx (b++r))=(aw (col+n) (Qx r)).after ts/\kt ts=l
def Sd (b:Bytes):Prop:=∃x t,b=x::t/\Dh x=true
theorem Sd.dl {b:Bytes}(h:Sd b)(r:Bytes):Dl (b++r):=by obtain⟨x,t,rfl,E⟩:=h;exact .inr ⟨x,t++r,rfl,E⟩
theorem YP (a b:List Tok):kt (a++b)=kt a++kt b:=by simp[kt]
theorem lg.d {b:Bytes}{l:List KT}(h:lg b l):sD b l:=fun col r _=>h col r
theorem lg.nil:lg [] []:=fun col r=>⟨0,[],by simp[ep.eZ],rfl⟩
theorem lg.app {b1 b2:Bytes}{l1 l2:List KT}(h1:lg b1 l1)(h2:lg b2 l2):lg (b1++b2) (l1++l2):=by intro h r;obtain⟨n1,t1,e1,k1⟩:=h1 h (b2++r);obtain⟨n2,t2,e2,k2⟩:=h2 (h+n1) r;refine⟨n1+n2,t1++t2,?_,by rw[YP,k1,k2]⟩;rw[aar,e1,e2,ep.bH,abJ]
theorem lg.qh {b1 b2:Bytes}{l1 l2:List KT}(h1:lg b1 l1)(h2:sD b2 l2):sD (b1++b2) (l1++l2):=by intro h r E;obtain⟨n1,t1,e1,k1⟩:=h1 h (b2++r);obtain⟨n2,t2,e2,k2⟩:=h2 (h+n1) r E;refine⟨n1+n2,t1++t2,?_,by rw[YP,k1,k2]⟩;rw[aar,e1,e2,ep.bH,abJ]
theorem sD.sG {b1 b2:Bytes}{l1 l2:List KT}(h1:sD b1 l1)(h2:lg b2 l2)(hs:Sd b2):lg (b1++b2) (l1++l2):=by intro h r;obtain⟨n1,t1,e1,k1⟩:=h1 h (b2++r) (hs.dl r);obtain⟨n2,t2,e2,k2⟩:=h2 (h+n1) r;refine⟨n1+n2,t1++t2,?_,by rw[YP,k1,k2]⟩;rw[aar,e1,e2,ep.bH,abJ]
theorem Uh {x:UInt8}(hx:x.toNat<128/\kindOf x.toNat=5):lg [x] [mk x]:=by
 intro h r;refine⟨1,[(3,[x],h)],?_,rfl⟩;show aw h (Qx (x::r))=_;rw[Ug hx.1];have H:kd ((some x.toNat,[x]):C)=5:=hx.2;rw[Jr _ H]
 have I:Zc ((some x.toNat,[x]):C)=[x]:=by unfold Zc;have E:rn ((some x.toNat,[x]):C)=x.toNat:=rfl;rw[E,if_neg (by omega),if_neg (by omega)]
 rw[I]
theorem Nz:lg [32] []:=by intro h r;refine⟨1,[],?_,rfl⟩;show aw h (Qx (32::r))=_;rw[Ug (by decide),Zr _ (by decide),ep.eZ]
theorem A8 {b:UInt8}(h:Dh b=true):b.toNat<128/\aL ((some b.toNat,[b]):C)=false/\Ql ((some b.toNat,[b]):C)=false:=by
 simp only[Dh,aaY,aaV,bne_iff_ne]at h;obtain⟨⟨⟨H,E⟩,I⟩,J⟩:=h;refine⟨H,?_,?_⟩
 ·simp[aL,kd,E,I]
 simp[Ql,kd,rn,E,J]
theorem Qdw {p:C->Bool}{t r:Bytes}(hp:∀c∈Qx t,p c=true)(hr:Dl r)(hd:∀b:UInt8,Dh b=true->p ((some b.toNat,[b]):C)=false)(hbad:(Qx t).all Qe=true):Qx (t++r)=Qx t++Qx r/\Qp p (Qx t++Qx r)=(Qx t).length:=by
 refine⟨K0 t r hbad,?_⟩;rcases hr with rfl|⟨b,u,rfl,h⟩
 ·rw[Zf,ab4]
  exact Wn p _ _ (aaa _) (fun c hc=>hp c (adD hc)) (fun c hc=>by rw[aea (aaa _)]at hc;cases hc)
 rw[Ug (A8 h).1]
 exact Wn p _ _ (by simp) (fun c hc=>by rw[List.take_left]at hc;exact hp c hc) (fun c hc=>by
  rw[abw (aaa _),Nat.sub_self]at hc;simp at hc;subst hc
  exact hd b h)
theorem Gi (n:Nat):sD (ar n) [bC n]:=by
 intro Z r hr;have J:Jl (ar n):=fun c E=> .inl (Zi n c E)
 have e0:Qx (ar n)=ZM (ar n):=by have:=Qwf (ar n) [] J;rw[ab4,Zf,ab4]at this;exact this
 have T:∀c∈Qx (ar n),Ql c=true:=by rw[e0];exact Qh6 J
 have I:∀c∈Qx (ar n),kd c=3:=by rw[e0];intro c E;obtain⟨b,H,rfl⟩:=adR.1 E;have hd:=Zi n b H;simp only[aF.Qf,aaY,aaV]at hd;show kindOf b.toNat=3;unfold kindOf;rw[if_neg (by omega),if_neg (by omega),if_pos (by omega)]
 have U:(Qx (ar n)).all Qe=true:=by rw[aeJ];intro c E;simp[Qe,I c E]
 obtain⟨e1,e2⟩:=Qdw T hr (fun b H=>(A8 H).2.2) U;have H:Qk (Qx (ar n))=ar n:=Yp _
 have a2:Qx (ar n)≠[]:=by intro e;exact Tp n (by rw[<-H,e];rfl)
 have a1:Jf (ar n)=false:=by
  rw[Us (by
   intro h;have:=Zi n 95 (aah h)
   simp[aF.Qf]at this)]
  cases hx:Xi (ar n) with
  |false=>rfl
  |true=>obtain⟨i,_,hi⟩:=(Zt _).1 hx;simp only[Uj,aaY,adN]at hi;have:=Zi n 95 (aah hi.1);simp[aF.Qf]at this
 obtain⟨c,cs,E⟩:=List.exists_cons_of_ne_nil a2;refine⟨(Qx (ar n)).length,[(1,ar n,Z)],?_,rfl⟩;rw[e1];rw[E]at e2 ⊢;have hk:=I c (by rw[E];exact aek);rw[adV,Vd _ hk];rw[adV]at e2
 have O:(c::(cs++Qx r)).take (c::cs).length=c::cs:=by rw[<-adV,List.take_left]
 have K:(c::(cs++Qx r)).drop (c::cs).length=Qx r:=by rw[<-adV,List.drop_left]
 rw[e2,O,K,<-E,H,a1];rfl
theorem Yd {r:ep}{a l:List Tok}(h:r.after a=.ok l):∃m,r=.ok m/\l=a++m:=by
 cases r with
 |error e=>cases h
 |ok m=>exact⟨m,rfl,by simpa [ep.after] using h.symm⟩
theorem Kk (k:Nat)(L:List C):Qk L=Qk (L.take k)++Qk (L.drop k):=by unfold Qk;rw[<-ad7,adA]
end ae
namespace ag
def Xh:Nat->Bytes->Option Nat
 |v,[]=>some v
 |v,c::t=>if Xo c then Xh (64*v+c.toNat % 64) t else none
def cN (b:Nat):Nat×Nat×Nat:=
 if b<0x80 then (1,b,0) else if b / 32=6 then (2,b % 32,0x80) else if b / 16=14 then (3,b % 16,0x800) else if b / 8=30 then (4,b % 8,0x10000) else (0,0,0)
def fy (v m:Nat):Bool:=v<m||0x10ffff<v||(0xd800<=v && v<=0xdfff)
def fin (v m n:Nat):Option (Nat×Nat):=if fy v m then none else some (v,n)
theorem Eg (c:UInt8):∀(l:Bytes) (v v':Nat),Xh v l=some v'->Xh v (l++[c])=if Xo c then some (64*v'+c.toNat % 64) else none:=by
 intro l
 induction l with
 |nil=>intro v v' h;simp[Xh]at h;subst h;rfl
 |cons d l ih=>
  intro v v' h;simp only[adV,Xh]at h ⊢;by_cases hd:Xo d
  ·rw[if_pos hd]at h ⊢;exact ih _ _ h
  rw[if_neg hd]at h;cases h
theorem Em:∀(k:Nat) (l:Bytes) (v:Nat),Xh v (l.take k)=none->Xh v l=none:=by
 intro k l
 induction l generalizing k with
 |nil=>intro v h;simpa using h
 |cons d l ih=>
  intro v h
  cases k with
  |zero=>simp[Xh]at h
  |succ k=>
   simp only[aei,Xh]at h ⊢;by_cases hd:Xo d
   ·rw[if_pos hd]at h ⊢;exact ih _ _ h
   rw[if_neg hd]
theorem Qqg {α:Type}{p q:Bool}{a b:α}(h:p= !q):(if p=true then a else b)=if q=true then b else a:=by subst h;cases q<;>rfl
theorem Gz (b:UInt8)(t:Bytes):dec (b::t)=if (cN b.toNat).1=0\/t.length+1<(cN b.toNat).1 then none else (Xh (cN b.toNat).2.1 (t.take ((cN b.toNat).1-1))).bind fun v=>fin v (cN b.toNat).2.2 (cN b.toNat).1:=by
 have h:=b.toNat_lt;by_cases h0:b.toNat<0x80
 ·simp[dec,cN,h0,Xh,fin,fy];omega
 by_cases h1:b.toNat / 32=6
 ·match t with
  | []=>simp[dec,cN,h0,h1]
  |c::t=>
   by_cases hc:Xo c
   ·simp only[dec,cN,h0,h1,Xh,fin,fy,hc,if_true,aeb,aei,aaf,Nat.add_one_sub_one,ae4,Option.bind_some,aeG]
    rw[if_neg (show ¬(2=0\/t.length+1+1<2) by omega)]
    have e:b.toNat % 32*64=64*(b.toNat % 32):=by omega
    rw[e];generalize hv:64*(b.toNat % 32)+c.toNat % 64=v;by_cases k:128<=v
    ·have:(decide (v<128)||decide (1114111<v)||decide (55296<=v) && decide (v<=57343))=false:=by
      simp;omega
     rw[this];simp[k]
    have:(decide (v<128)||decide (1114111<v)||decide (55296<=v) && decide (v<=57343))=true:=by simp;omega
    rw[this];simp[k]
   simp[dec,cN,h0,h1,Xh,hc]
 by_cases h2:b.toNat / 16=14
 ·match t with
  | []=>simp[dec,cN,h0,h1,h2]
  | [c]=>simp[dec,cN,h0,h1,h2]
  |c::d::t=>
   by_cases hc:Xo c
   ·by_cases hd:Xo d
    ·simp only[dec,cN,h0,h1,h2,Xh,fin,fy,hc,hd,if_true,aeb,aei,aaf,Nat.add_one_sub_one,ae4,Option.bind_some,aeG,show (3-1:Nat)=1+1 from rfl]
     rw[if_neg (show ¬(3=0\/t.length+1+1+1<3) by omega)]
     have e:b.toNat % 16*4096+c.toNat % 64*64+d.toNat % 64=64*(64*(b.toNat % 16)+c.toNat % 64)+d.toNat % 64:=by omega
     rw[e];generalize hv:64*(64*(b.toNat % 16)+c.toNat % 64)+d.toNat % 64=v;simp only[V8];exact Qqg (by rw[abA];simp;omega)
    simp[dec,cN,h0,h1,h2,Xh,hc,hd]
   simp[dec,cN,h0,h1,h2,Xh,hc]
 by_cases h3:b.toNat / 8=30
 ·match t with
  | []=>simp[dec,cN,h0,h1,h2,h3]
  | [c]=>simp[dec,cN,h0,h1,h2,h3]
  | [c,d]=>simp[dec,cN,h0,h1,h2,h3]
  |c::d::f::t=>
   by_cases hc:Xo c
   ·by_cases hd:Xo d
    ·by_cases hf:Xo f
     ·simp only[dec,cN,h0,h1,h2,h3,Xh,fin,fy,hc,hd,hf,if_true,aeb,aei,aaf,Nat.add_one_sub_one,ae4,Option.bind_some,aeG,show (4-1:Nat)=1+1+1 from rfl]
      rw[if_neg (show ¬(4=0\/t.length+1+1+1+1<4) by omega)]
      have e:b.toNat % 8*262144+c.toNat % 64*4096+d.toNat % 64*64+f.toNat % 64=64*(64*(64*(b.toNat % 8)+c.toNat % 64)+d.toNat % 64)+f.toNat % 64:=by omega
      rw[e];generalize hv:64*(64*(64*(b.toNat % 8)+c.toNat % 64)+d.toNat % 64)+f.toNat % 64=v;simp only[V8];exact Qqg (by rw[abA];simp;omega)
     simp[dec,cN,h0,h1,h2,h3,Xh,hc,hd,hf]
    simp[dec,cN,h0,h1,h2,h3,Xh,hc,hd]
   simp[dec,cN,h0,h1,h2,h3,Xh,hc]
 simp[dec,cN,h0,h1,h2,h3]
def Yt (l:Bytes):Nat×Nat:=(dec l).getD (0,0)
theorem Ct {b:UInt8}{t:Bytes}(h:(cN b.toNat).1=0\/t.length+1<(cN b.toNat).1):Yt (b::t)=(0,0):=by unfold Yt;rw[Gz,if_pos h];rfl
theorem Aa {b:UInt8}{t:Bytes}(k:Nat)(hk:k<=(cN b.toNat).1-1)(h:Xh (cN b.toNat).2.1 (t.take k)=none):Yt (b::t)=(0,0):=by
 unfold Yt;rw[Gz];split
 ·rfl
 rw[Em k (t.take ((cN b.toNat).1-1)) _ (by rw[aeK,abd hk];exact h)];rfl
theorem Ae {b:UInt8}{t:Bytes}{v:Nat}(h: ¬((cN b.toNat).1=0\/t.length+1<(cN b.toNat).1))(hv:Xh (cN b.toNat).2.1 (t.take ((cN b.toNat).1-1))=some v):Yt (b::t)=if fy v (cN b.toNat).2.2 then (0,0) else (v,(cN b.toNat).1):=by
 unfold Yt;rw[Gz,if_neg h,hv];simp only[Option.bind_some,fin]
 split<;>rfl
def lim (j:Nat):Nat:=2*64^j
theorem Qg3 (j:Nat):lim (j+1)=64*lim j:=by unfold lim;rw[ady];omega
theorem Qc2 {j:Nat}(h:j<=4):lim j<=33554432:=by unfold lim;have:=adE (n:=64) (by omega) h;omega
theorem Qdx (b:Nat):(cN b).1<=4/\(cN b).2.1<lim 1/\(cN b).2.2<=65536:=by
 unfold cN lim;repeat' split
 all_goals simp<;>omega
end ag
namespace ag
def ax (l:Bytes)(k:Nat):Nat:=(Qk ((Qx l).take k)).length
theorem Rx (l:Bytes):ax l 0=0:=by simp[ax,Qk]
theorem R9 (l:Bytes)(k:Nat):Qx (l.drop (ax l k))=(Qx l).drop k:=(Ho k l).symm
theorem S9 (l:Bytes)(k:Nat):ax l k<=l.length:=by have h:=Wg (Qx l) k;rw[Yp]at h;exact h
theorem Ey (l:Bytes):Qx l=[]↔l=[]:=by
 constructor
 ·intro h
  by_cases hl:l=[]
  ·exact hl
  rw[Ye hl]at h;cases h
 rintro rfl;rfl
theorem Yr (l:Bytes)(k:Nat):ax l k<l.length↔k<(Qx l).length:=by have h:=Ey (l.drop (ax l k));rw[R9,aey,aey]at h;omega
theorem Qkd {l:Bytes}{k:Nat}(h:k<(Qx l).length):l.drop (ax l k)≠[]:=by have:=(Yr l k).2 h;intro E;rw[aey]at E;omega
theorem Sp {l:Bytes}{k:Nat}(h:k<(Qx l).length):(Qx l)[k]?=some (val (l.drop (ax l k)),(l.drop (ax l k)).take (wid (l.drop (ax l k)))):=by
 have E:=Ye (Qkd h);rw[R9]at E
 have H:((Qx l).drop k)[0]?=(Qx l)[k]? :=by rw[adp];rfl
 rw[<-H,E];rfl
theorem Rq {l:Bytes}{k:Nat}(h:k<(Qx l).length):ax l (k+1)=ax l k+wid (l.drop (ax l k)):=by have E:=Sp h;have H:=Kj (Qkd h);show (Qk ((Qx l).take (k+1))).length=_;rw[ab2,E];simp only[Option.toList_some,Qk,ad7,aen,List.flatMap_nil,ab4,aac,aak];rw[abd H];rfl
theorem Hr (l:Bytes)(i k:Nat):ax l (i+k)=ax l i+ax (l.drop (ax l i)) k:=by unfold ax;rw[<-Ho,List.take_add,Qk,ad7,aac];rfl
theorem cM (l:Bytes):(Yt l=(0,0)/\val l=none)\/∃v n,Yt l=(v,n)/\1<=n/\n<=l.length/\n<=4/\v<=0x10ffff/\val l=some v/\wid l=n:=by
 unfold Yt val wid
 cases h:dec l with
 |none=>exact .inl ⟨rfl,rfl⟩
 |some p=>obtain⟨v,n⟩:=p;have E:=Wh h;exact .inr ⟨v,n,rfl,E.1,E.2.1,E.2.2,ZC h,rfl,rfl⟩
theorem U8 {p:C->Bool}{cs:List C}{j:Nat}{c:C}(hj:j<cs.length)(hall:∀d∈cs.take j,p d=true)(hc:cs[j]?=some c)(hp:p c=false):Qp p cs=j:=
 Wn p cs j (by omega) hall (fun d hd=>by rw[hc]at hd;cases hd;exact hp)
theorem Pm {p:C->Bool}{cs:List C}(hall:∀d∈cs.take cs.length,p d=true):Qp p cs=cs.length:=
 Wn p cs cs.length (aaa _) hall (fun d hd=>by simp at hd)
theorem U0 {p:C->Bool}{cs:List C}{j:Nat}{c:C}(hall:∀d∈cs.take j,p d=true)(hc:cs[j]?=some c)(hp:p c=true):∀d∈cs.take (j+1),p d=true:=by
 intro d h;rw[ab2,hc]at h;simp at h;rcases h with h|rfl
 ·exact hall d h
 exact hp
end ag
namespace ag
open aF
theorem Qgy {b:UInt8}{t:Bytes}{v n:Nat}(h:dec (b::t)=some (v,n))(hb:b.toNat<128):v=b.toNat:=by
 unfold dec at h;simp only[hb,if_true]at h
 cases h;rfl
end ag
namespace ae
open ag
theorem F7 (fin:Nat):∀(f:Nat) (acc:List Nat) (s:St) (r:List Nat×St),Xj fin f acc s=some (.ok r)->acc≠[]->r.1≠[]
 |0,_,_,_,h,_=>by cases h
 |f+1,acc,s,r,h,ha=>by
  unfold Xj at h;split at h
  ·obtain⟨m,s',h1,h2⟩:=Q7 h
   exact F7 fin f _ _ _ h2 (by simp)
  rw[Jj h];exact ha
theorem H7 (fin:Nat):∀(f:Nat) (acc:List (List Nat)) (s:St) (r:List (List Nat)×St),Xw fin f acc s=some (.ok r)->Sq acc->Sq r.1
 |0,_,_,_,h,_=>by cases h
 |f+1,acc,s,r,h,ha=>by
  unfold Xw at h;obtain⟨n,s1,h1,h2⟩:=Q7 h;obtain⟨x,s2,J,H⟩:=Q7 h2;have O:=F7 fin f _ _ _ J (by simp)
  have I:Sq (acc++[x]):=by
   intro y E;rcases abZ.1 E with E|E
   ·exact ha y E
   rw[abu.1 E];exact O
  split at H
  ·rw[Jj H];exact I
  obtain⟨u,s3,T,K⟩:=Q7 H;exact H7 fin f _ _ _ K I
theorem Qz1 {fin f:Nat}{s:St}{r:List (List Nat)×St}(h:Q8 fin f s=some (.ok r)):Sq r.1:=by
 unfold Q8 at h;obtain⟨u,s1,I,E⟩:=Q7 h;split at E
 ·rw[Jj E];intro y H;cases H
 exact H7 fin f _ _ _ E (by intro y H;cases H)
theorem C4 {α:Type}{fin:Nat}{a:α}{s:St}{r:α×St}(h:done fin a s=some (.ok r)):r=(a,s):=by
 unfold done at h;split at h
 ·exact Jj h
 exact(P6 h).elim
theorem Cb:∀(n:Nat) (cs:List C) (col:Nat) (ts:List Tok),cs.length<=n->aw col cs=.ok ts-> ∀t∈ts,t.1=1->t.2.1.length<=(Qk cs).length:=by
 intro n
 induction n with
 |zero=>
  intro cs col ts K h;rw[aaq (Nat.le_zero.1 K),Zg]at h
  cases h
  intro t E;cases E
 |succ n ih=>
  intro cs col ts K h
  cases cs with
  |nil=>
   rw[Zg]at h
   cases h
   intro t E;cases E
  |cons c cs=>
   have I:∀(k col:Nat) (m:List Tok),1<=k->aw col ((c::cs).drop k)=.ok m-> ∀t∈m,t.1=1->t.2.1.length<=(Qk (c::cs)).length:=by intro k col m O J t E H;have e:=aa7 List.length (Kk k (c::cs));rw[aac]at e;have:=ih _ _ _ (by rw[aag];omega) J t E H;omega
   have O:=Gn c;by_cases k0:kd c=0
   ·rw[Ws _ k0]at h;cases h
   by_cases k1:kd c=1
   ·rw[Zr _ k1]at h
    exact I 1 _ _ (aaa _) h
   by_cases k2:kd c=2
   ·rw[Vj _ k2]at h
    split at h
    ·cases h
    cases h
    intro t E;cases E
   by_cases k3:kd c=3
   ·rw[Vd _ k3]at h
    split at h
    ·cases h
    obtain⟨m,J,rfl⟩:=Yd h;have:=I _ _ _ (Xv (p:=Ql) (c:=c) (cs:=cs) (by simp[Ql,k3])) J;intro t E H;rcases abY.1 E with rfl|E
    ·exact Wg _ _
    exact this t E H
   by_cases k4:kd c=4
   ·rw[Vv _ k4]at h
    split at h
    ·cases h
    obtain⟨m,J,rfl⟩:=Yd h;have:=I _ _ _ (Xv (p:=aL) (c:=c) (cs:=cs) (by simp[aL,k4])) J;intro t E H;rcases abY.1 E with rfl|E
    ·cases H
    exact this t E H
   by_cases k5:kd c=5
   ·rw[Jr _ k5]at h
    obtain⟨m,J,rfl⟩:=Yd h;have:=I 1 _ _ (aaa _) J;intro t E H;rcases abY.1 E with rfl|E
    ·cases H
    exact this t E H
   rw[Jh _ (by omega)]at h;cases h
end ae
namespace Go.Proofs.YtgfmiladfeoldaaGreatDoor
open ag aF
theorem Gv:∀l:Bytes,∀c∈Qx l,Ql c=true-> ∃b,c.2=[b]/\(Qf b=true\/b=95)/\(kd c=3->Qf b=true):=by
 apply Wm
 ·intro c E;simp[Zf]at E
 intro l Z ih c E;rw[Ye Z]at E;rcases abY.1 E with rfl|E
 ·intro H
  cases hd:dec l with
  |none=>
   have I:val l=none:=by simp[val,hd]
   rw[I]at H;simp[Ql,kd,rn]at H
  |some p=>
   obtain⟨v,n⟩:=p
   have I:val l=some v:=by simp[val,hd]
   have hw:wid l=n:=by simp[wid,hd]
   rw[I]at H;rw[hw,I];have J:(kindOf v==3||v==95)=true:=H
   have O:kindOf v=3->48<=v/\v<=57:=by
    unfold kindOf
    repeat' split
    all_goals omega
   have T:(48<=v/\v<=57)\/v=95:=by
    simp only[aep,adN]at J;rcases J with h|h
    ·exact .inl (O h)
    exact .inr h
   obtain⟨rfl,ht⟩:=Mj hd (by omega)
   have K:v.toUInt8.toNat=v:=by simp;omega
   refine⟨v.toUInt8,ht,?_,?_⟩
   ·rcases T with h|rfl
    ·left;simp only[Qf,K,aaY,aaV];exact h
    right;rfl
   intro U;have:=O U;simp only[Qf,K,aaY,aaV];exact this
 exact ih c E
theorem Qq3 {S:Bytes}{cs:List C}(h:∀c∈cs,c∈Qx S):Jl (Qk (cs.take (Qp Ql cs))):=by intro b H;simp only[Qk,aeY]at H;obtain⟨c,I,E⟩:=H;have J:=Jy _ c I;obtain⟨x,O,K,_⟩:=Gv S c (h c (adD I)) J;rw[O]at E;simp only[abu]at E;subst E;exact K
def ZE (t:Tok):Prop:=t.1=1->Jl t.2.1/\0<t.2.1.length/\Xi t.2.1=false
theorem Qpp (S:Bytes):∀(n:Nat) (cs:List C) (col:Nat) (ts:List Tok),cs.length<=n->(∀c∈cs,c∈Qx S)->aw col cs=.ok ts-> ∀t∈ts,ZE t:=by
 intro n
 induction n with
 |zero=>
  intro cs col ts hl _ h;rw[aaq (Nat.le_zero.1 hl),Zg]at h
  cases h
  intro t E;cases E
 |succ n ih=>
  intro cs col ts hl O h
  cases cs with
  |nil=>
   rw[Zg]at h
   cases h
   intro t E;cases E
  |cons c cs=>
   have H:∀(k col:Nat) (m:List Tok),1<=k->aw col ((c::cs).drop k)=.ok m-> ∀t∈m,ZE t:=by intro k col m hk I;exact ih _ _ _ (by rw[aag];omega) (fun d hd=>O d (adU hd)) I
   have hk:=Gn c;by_cases k0:kd c=0
   ·rw[Ws _ k0]at h;cases h
   by_cases k1:kd c=1
   ·rw[Zr _ k1]at h
    exact H 1 _ _ (aaa _) h
   by_cases k2:kd c=2
   ·rw[Vj _ k2]at h
    split at h
    ·cases h
    cases h
    intro t E;cases E
   by_cases k3:kd c=3
   ·rw[Vd _ k3]at h
    split at h
    ·cases h
    rename_i hb;obtain⟨m,I,rfl⟩:=ae.Yd h
    have Z:Ql c=true:=by simp[Ql,k3]
    have hp:=Xv (p:=Ql) (c:=c) (cs:=cs) Z;have:=H _ _ _ hp I;intro t E;rcases abY.1 E with rfl|E
    ·intro _
     have hr:=Qq3 (S:=S) (cs:=c::cs) O;obtain⟨x,hx,-,h2⟩:=Gv S c (O c (by simp)) Z;obtain⟨j,hj⟩:∃j,Qp Ql (c::cs)=j+1:=⟨Qp Ql (c::cs)-1,by omega⟩
     have e:Qk ((c::cs).take (Qp Ql (c::cs)))=x::Qk (cs.take j):=by rw[hj,aei];simp[Qk,hx]
     refine⟨hr,by show 0<(Qk _).length;rw[e];simp,?_⟩
     have U:Jf (Qk ((c::cs).take (Qp Ql (c::cs))))=false:=by simpa using hb
     show Xi (Qk _)=false;rw[<-Us,U];rw[e];intro T
     have K:x=95:=by simpa using T
     have:=h2 k3;rw[K]at this;exact absurd this (by decide)
    exact this t E
   by_cases k4:kd c=4
   ·rw[Vv _ k4]at h
    split at h
    ·cases h
    obtain⟨m,I,rfl⟩:=ae.Yd h;have:=H _ _ _ (Xv (p:=aL) (c:=c) (cs:=cs) (by simp[aL,k4])) I;intro t E;rcases abY.1 E with rfl|E
    ·intro J;cases J
    exact this t E
   by_cases k5:kd c=5
   ·rw[Jr _ k5]at h
    obtain⟨m,I,rfl⟩:=ae.Yd h;have:=H 1 _ _ (aaa _) I;intro t E;rcases abY.1 E with rfl|E
    ·intro J;cases J
    exact this t E
   rw[Jh _ (by omega)]at h;cases h
theorem N0 {S:Bytes}{ts:List Tok}(h:aw 1 (Qx S)=.ok ts):∀t∈ts,ZE t:=Qpp S _ _ _ _ (aaa _) (fun _ h=>h) h
end Go.Proofs.YtgfmiladfeoldaaGreatDoor
namespace ae
open ag
section
variable {φ:Nat->Nat} {α β:Type}
end
end ae
namespace ae
open ag
theorem Sk {r:ep}{t:List Tok}{ts:List Tok}(h:r.after t=.ok ts):∃m,r=.ok m/\ts=t++m:=by
 cases r with
 |error e=>cases h
 |ok m=>exact⟨m,rfl,by simpa [ep.after] using h.symm⟩
theorem Qym {c:C}(h:kd c≠0):Qe c=true:=by simp[Qe,h]
theorem Qzn:∀(A:List C) (col:Nat) (ts:List Tok),aw col A=.ok ts->A.all Qe=true:=by
 intro A col ts h;refine(Hl (P:=fun _ A r=>(∃l,r=Except.ok l)->A.all Qe=true) ?_ ?_ ?_ ?_ ?_ A col) ⟨ts,h⟩
 ·intro _ _;rfl
 ·intro col c A T ih E
  rw[List.all_cons,ih E,Qym (by omega)];rfl
 ·intro col c A T E
  obtain⟨l,H⟩:=E;split at H
  ·cases H
  rename_i Z;have J:=Zq Qe (c::A);have I:=Jy (p:=Qe) (c::A);rw[show Qp Qe (c::A)=(c::A).length from by omega,adx]at I;exact aeJ.2 I
 ·intro col c A e _ _ _ E
  obtain⟨l,H⟩:=E
  cases H
 intro col c A n k t _ _ _ J I K ih E;obtain⟨l,H⟩:=E;obtain⟨m,U,-⟩:=Sk H;have O:=ih ⟨m,U⟩;rw[<-adA n (c::A),List.all_append,O,aeJ.2 K];rfl
end ae
namespace Go.Proofs.YtgfmiladfeoldaaGreatDoor
open Go.RowKit ai ag
theorem Qz {a b c:World}(h:Below a.heap.size a b)(k:Below b.heap.size b c):Below a.heap.size a c:=h.trans (k.mono h.size)
def Fits (l:Bytes):Prop:=l.length<=67108864
theorem Qfe:∀(n:Nat) (cs:List C) (col:Nat) (ts:List Tok),cs.length<=n->aw col cs=.ok ts->(ts.map fun t=>t.2.1.length+1).sum<=(Qk cs).length+2*cs.length:=by
 intro n
 induction n with
 |zero=>
  intro cs col ts I h;rw[aaq (Nat.le_zero.1 I),Zg]at h
  cases h
  exact aao _
 |succ n ih=>
  intro cs col ts I h
  cases cs with
  |nil=>
   rw[Zg]at h
   cases h
   exact aao _
  |cons c cs=>
   have E:∀(k col:Nat) (m:List Tok),1<=k->aw col ((c::cs).drop k)=.ok m->(m.map fun t=>t.2.1.length+1).sum+(Qk ((c::cs).take k)).length+2<=(Qk (c::cs)).length+2*(c::cs).length:=by
    intro k col m J H;have e:=aa7 List.length (ae.Kk k (c::cs));rw[aac]at e
    have K:((c::cs).drop k).length+1<=(c::cs).length:=by rw[aag,aaf];omega
    have:=ih _ _ _ (by omega) H;omega
   have J:=Gn c;by_cases k0:kd c=0
   ·rw[Ws _ k0]at h;cases h
   by_cases k1:kd c=1
   ·rw[Zr _ k1]at h
    have:=E 1 _ _ (aaa _) h;omega
   by_cases k2:kd c=2
   ·rw[Vj _ k2]at h
    split at h
    ·cases h
    cases h
    exact aao _
   by_cases k3:kd c=3
   ·rw[Vd _ k3]at h
    split at h
    ·cases h
    obtain⟨m,H,rfl⟩:=ae.Yd h;have:=E _ _ _ (Xv (p:=Ql) (c:=c) (cs:=cs) (by simp[Ql,k3])) H;rw[ado,List.sum_append];simp only[abK,aex,adY,List.sum_nil];omega
   by_cases k4:kd c=4
   ·rw[Vv _ k4]at h
    split at h
    ·cases h
    obtain⟨m,H,rfl⟩:=ae.Yd h;have:=E _ _ _ (Xv (p:=aL) (c:=c) (cs:=cs) (by simp[aL,k4])) H;rw[ado,List.sum_append];simp only[abK,aex,adY,List.sum_nil];omega
   by_cases k5:kd c=5
   ·rw[Jr _ k5]at h
    obtain⟨m,H,rfl⟩:=ae.Yd h;have:=E 1 _ _ (aaa _) H
    have e1:Qk ((c::cs).take 1)=c.2:=by simp[Qk]
    rw[e1]at this
    have O:(Zc c).length<=c.2.length+1:=by
     unfold Zc
     repeat' split
     all_goals simp
    rw[ado,List.sum_append];simp only[abK,aex,adY,List.sum_nil];omega
   rw[Jh _ (by omega)]at h;cases h
theorem Fits.dG {l:Bytes}(h:Fits l){ts:List Tok}(ht:aw 1 (Qx l)=.ok ts):ts.length<=67108864/\(ts.map fun t=>t.2.1.length+1).sum<=201326592:=by unfold Fits at h;have H:=(Kv _ _ _ ht).1;have I:=Ym l;have E:=Qfe _ _ _ _ (aaa _) ht;rw[Yp]at E;omega
theorem Fits.good {l:Bytes}(h:Fits l){ts:List Tok}(ht:aw 1 (Qx l)=.ok ts):∀t∈ts,Qcx t:=fun t hm h1=>by obtain⟨a,b,c⟩:=N0 ht t hm h1;refine⟨a,b,?_,c⟩;have E:=ae.Cb _ _ _ _ (aaa _) ht t hm h1;rw[Yp]at E;exact aan E h
def FU (l:Bytes)(w:World)(e:Ending)(w':World):Prop:=
 match aw 1 (Qx l) with
 | .error (c,k)=>e=.returned (.tuple #[.pointer none,.int .i64 (c:Nat),.int .i64 (k:Nat)])/\Below w.heap.size w w'
 | .ok ts=> ∃R tv,e=.returned (.tuple #[.pointer (some ⟨R,0,none⟩),.int .i64 0,.int .i64 0])/\w.heap.size<=R/\Below w.heap.size w w'/\RS w' R tv ts ((Qx l).length+1) 0 ⟨ts,0⟩ (.slice none 0 0) []
theorem M7 (s:ByteArray)(w:World)(hf:Fits s.data.toList)(hx:Lx w)(hs:SG w)(hsz:4<w.heap.size):Calls Tryz.prog 47 #[.string s] w (FU s.data.toList w):=by
 have HF:=zq hf;have HX:=zq hx;have eo:=zq hs
 have vn:s.size<=67108864:=by rw[abg];exact hf
 clear hf hx hs;go_enter Tryz.func47,Tryz.ntmps47;go_wp2_with fail;refine(Ez s _ vn HX.o).mono ?_;rintro e w1 ⟨v,rfl,h1,h2⟩
 cases hT:aw 1 (Qx s.data.toList) with
 |error p=>
  obtain⟨c,k⟩:=p;have HT:=zq hT;have bF:=(Sv _ _ _ hT).1;have H2:=zq h2;clear h1 h2 hT;have ec:(fQ (.error (c,k)):Nat)=c:=rfl;have ek:(dY (.error (c,k)):Nat)=k:=rfl;rw[ec,ek];simp only at bF
  have fg:((k:Int) !=0)=true:=by simp;omega
  go_wp2_with fail;go_ret3;unfold FU;rw[HT.o]
  exact⟨rfl,H2.o⟩
 |ok ts=>
  have HT:=zq hT
  have h1':w1.ownsRow w.heap.size 119 3 v ts.length (Xk ts):=by rw[hT]at h1;exact h1
  have H1:=zq h1';obtain⟨ao,cap,rfl,-,-,-⟩:=Qj h1';have H2:=zq h2;have dA:=ae.Qzn _ _ _ hT
  have iU:Hid (Mz s.data.toList=((Qx s.data.toList).length,0)):=by show _=_;unfold Mz;rw[if_pos dA]
  have hlen:=Ym s.data.toList;rw[<-abg]at hlen;clear h1 h1' h2 hT dA;have ec:(fQ (.ok ts):Nat)=0:=rfl;have ek:(dY (.ok ts):Nat)=0:=rfl;rw[ec,ek];go_wp2_with fail;refine(A7 s _ vn).mono ?_;rintro e w2 ⟨rfl,h3⟩;rw[iU.o];have H3:=zq h3;clear h3;obtain⟨n,hn⟩:=xq ((Qx s.data.toList).length);rw[<-hn]at hlen;simp only;rw[<-hn];have HN:=zq hn;clear hn;go_wp2_with fail;go_ret3;have hb:=Qz H2.o H3.o;obtain⟨dm,hsm⟩:=HF.o.dG HT.o;unfold FU;rw[HT.o];refine⟨w2.heap.size,.slice ao ts.length cap,rfl,hb.size,Qz hb (Qq _ _),?_⟩;have pn:=Qq w2 (.cells #[.slice ao ts.length cap,.int .i64 0,.int .i64 ((n:Int)+1),.int .i64 0,.slice none 0 0] 85);refine {blk:= ?_,tks:= ?_,drop:=rfl,le:=aao _,own:=adC _ _ _ _,kids:=(fun p hp=>by cases hp),apart:=(fun i j p q k h=>by simp at h),few:=(by show 0+ts.length<=_;omega),deep:=aao _,short:=dm,sum:=hsm,good:=HF.o.good HT.o,sg:= ?_,sgl:= ?_}
  ·rw[<-HN.o];exact aaz w2 _
  ·obtain⟨ao',cap',e,a1,a2,a3⟩:=Qj H1.o
   cases e
   refine⟨ao,cap,rfl,a1,a2,fun h0=> ?_⟩;obtain⟨g,rfl,b1,b2,b3⟩:=a3 h0;refine⟨g,rfl,aaj b2 H3.o.size,fun j t hj=> ?_⟩;have jA:=(aae.1 hj).1;obtain⟨c1,c2,c3⟩:=Pb ts j t hj
   have hc:∀o,(w2.alloc (.cells #[.slice (some ⟨g,0,none⟩) ts.length cap,.int .i64 0,.int .i64 ((n:Int)+1),.int .i64 0,.slice none 0 0] 85)).cell? ⟨g,o,none⟩=w1.cell? ⟨g,o,none⟩:=fun o=>(pn.cell (p:=⟨g,o,none⟩) (aaj b2 H3.o.size)).trans (H3.o.cell (p:=⟨g,o,none⟩) b2)
   exact⟨by rw[hc,b3 _ (by omega)];exact c1,by rw[hc,b3 _ (by omega)];exact c2,by rw[hc,b3 _ (by omega),c3]⟩
  ·exact eo.o.below (Qz hb pn) hsz
  exact aaj hsz hb.size
structure Tr (w:World) (B:Nat) (nv:Value) (ns:List Nv):Prop where
 own:w.ownsRow B 43 3 nv ns.length (Xb ns)
 kids:∀p∈ns,KR w B nv.ownBlock p.2 p.1.kids
 apart:∀(i j:Nat) (p q:Nv) (k:Nat),ns[i]?=some p->ns[j]?=some q->p.2.ownBlock=some k->q.2.ownBlock=some k->i=j
theorem Qq6 {w:World}{B B' k n:Nat}{e:TypeId}{v:Value}{cs:List Value}(h:w.ownsRow B e k v n cs)(hB:B'<=B):w.ownsRow B' e k v n cs:=by
 refine⟨h.1,?_⟩;rcases h.2 with O|⟨g,H,I,rfl,K,J,E⟩
 ·exact .inl O
 exact .inr ⟨g,H,I,rfl,aan hB K,J,E⟩
theorem KR.low {w:World}{R R':Nat}{og:Option Nat}{v:Value}{ks:List Nat}(h:KR w R og v ks)(hr:R'<=R):KR w R' og v ks:=by obtain⟨ao,E,rfl,I,J,H,K⟩:=h;exact⟨ao,E,rfl,I,J,fun q hq=>⟨adH hr (H q hq).1,(H q hq).2⟩,K⟩
theorem RS.tr {w:World}{R:Nat}{tv:Value}{L:List Tok}{fin a:Nat}{s:ae.St}{nv:Value}{ns:List Nv}(h:RS w R tv L fin a s nv ns){B:Nat}(hB:B<=R):Tr w B nv ns:=
 ⟨Qq6 h.own (by omega),fun p hp=>(h.kids p hp).low hB,h.apart⟩
theorem Wr.cA {R:Nat}{w0 w w':World}(h:Wr R none w w')(hb:Below w0.heap.size w0 w)(hB:w0.heap.size<=R):Below w0.heap.size w0 w':=
 ⟨h.os.trans hb.os,h.tape.trans hb.tape,h.output.trans hb.output,aan hb.size h.size,fun k hk=>(h.block k (aaj hk hb.size) (by omega) (by simp)).trans (hb.block k hk)⟩
end Go.Proofs.YtgfmiladfeoldaaGreatDoor
