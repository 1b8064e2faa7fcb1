import Derived.Test.YtgfmiladfeoldaaGreatDoorPk14
import Derived.Test.YtgfmiladfeoldaaGreatDoorPk16
import Derived.Test.YtgfmiladfeoldaaGreatDoorPk15
set_option linter.unusedSimpArgs false
set_option linter.unusedVariables false
set_option maxRecDepth 100000
set_option maxHeartbeats 16000000
open Go.Proofs.Tryz
open Go.Value renaming slice->U,bool->ca,int->A,string->c9,tuple->da
open Option renaming some->F,none->Z
open Go.Obj renaming cells->O
open Bool renaming false->ce
open Go.IntKind renaming i64->G
open Go renaming Value->cl,World->co
namespace Go.Proofs.YtgfmiladfeoldaaGreatDoor
open Go.RowKit ar aw
def Ue (t:Bytes):Bool:=(gM (aM 1 (Qz t))==0) && decide (0<(Uk (aM 1 (Qz t))).length)
def Qpu (t:Bytes)(w:co)(e:Ending)(w':co):Prop:=
 ∃tv so,e=.returned (da #[.agg #[tv,A G 0,U Z 0 0,U Z 0 0,U (F ⟨so,0,Z⟩) 1 1,ca true,ca ce,A G 0],ca (Ue t)])/\w'.ownsRow w.heap.size 119 3 tv (Uk (aM 1 (Qz t))).length (Xv (Uk (aM 1 (Qz t))))/\so<w'.heap.size/\Below w.heap.size w w'
variable {B R g n:Nat} {acc:List (List Nat)} {bc:List cl} {lv sv v:cl} {og:Option Nat} {s:List Nat} {w w':co}
theorem Tryz.xB:(Tryz.prog.info? 116).map (·.size)=F 8:=by kernel_rfl
theorem Cv (s:ByteArray)(w:co)(hs:s.size<=1048576):Calls prog 84 #[c9 s] w (Qpu s.data.toList w):=by
 have eG:=Qq w (O #[U Z 0 0,A G 0,U Z 0 0,U Z 0 0,U Z 0 0,ca ce,ca ce,A G 0] 116);have cT:=zq eG
 have hz0:(w.alloc (O #[U Z 0 0,A G 0,U Z 0 0,U Z 0 0,U Z 0 0,ca ce,ca ce,A G 0] 116)).heap.size=w.heap.size+1:=by simp
 have eO:=zq (aap w (O #[U Z 0 0,A G 0,U Z 0 0,U Z 0 0,U Z 0 0,ca ce,ca ce,A G 0] 116));have HT:=zq (Qvb s (w.alloc (O #[U Z 0 0,A G 0,U Z 0 0,U Z 0 0,U Z 0 0,ca ce,ca ce,A G 0] 116)) hs);obtain⟨r,hr⟩:=xq (aM 1 (Qz s.data.toList));rw[<-hr]at HT
 have yD:Hid (Ue s.data.toList=((gM r==0) && decide (0<(Uk r).length))):=by show _=_;unfold Ue;rw[hr]
 have ji:=zq hr;clear eG hr;go_enter func84,ntmps84;go_wp2_with fail;refine HT.o.mono ?_;rintro e w1 ⟨tv,rfl,h1,h2⟩;obtain⟨k,hk⟩:=xq (gM r);obtain⟨n,hn⟩:=xq ((Uk r).length);rw[<-hk];rw[hz0]at h1 h2;obtain⟨ao,cap,rfl,-,-,-⟩:=Qj h1;rw[<-hn]at h1 ⊢;have H1:=zq h1;have hz1:=h2.size;rw[hz0]at hz1;have gw:=Qq w1 (O #[A .u8 100,c9 ⟨#[]⟩,A G 0] 167)
 have hblk:(w1.alloc (O #[A .u8 100,c9 ⟨#[]⟩,A G 0] 167)).heap[w.heap.size]?=F (O #[U Z 0 0,A G 0,U Z 0 0,U Z 0 0,U Z 0 0,ca ce,ca ce,A G 0] 116 (0,0)):=
  (gw.block w.heap.size (by omega)).trans ((h2.block w.heap.size (by omega)).trans eO)
 have jh:=zq hblk
 have GJ:Hid (∀cs:Array cl,cs= #[U ao n cap,A G 0,U Z 0 0,U Z 0 0,U (F ⟨w1.heap.size,0,Z⟩) 1 1,ca true,ca ce,A G 0]->Qpu s.data.toList w (.returned (da #[.agg cs,ca ((k==0) && decide (0<n))])) ((w1.alloc (O #[A .u8 100,c9 ⟨#[]⟩,A G 0] 167)).setRow w.heap.size cs)/\((w1.alloc (O #[A .u8 100,c9 ⟨#[]⟩,A G 0] 167)).setRow w.heap.size cs).heap[w.heap.size]?=F (O cs 116 (0,0))):=by
  intro cs hcs;refine⟨⟨U ao n cap,w1.heap.size,by rw[hcs,yD.o,<-hk,<-hn],?_,by simp,?_⟩,aec _ _ _ _ _ _ jh⟩
  ·rw[<-ji.o,<-hn]
   refine Xh (Xa (Qy H1 gw (by omega)) fun q hq h6 h7=> ?_) (Nat.le_succ _);exact setRow_other _ _ _ _ (by omega)
  exact aeu (cT.o.trans ((h2.mono (Nat.le_succ _)).trans (gw.mono (by omega)))) (aab _) _
 have H3:w.heap.size<w1.heap.size:=by omega
 clear h1 h2 hz1 hblk gw hk hn;by_cases cZ:k=0
 ·subst cZ
  by_cases fL:0<n
  case' pos=>have hni:decide ((0:Int)<((n:Nat):Int))=true:=aa7 (by omega);clear fL
  case' neg=>
   have agC:n=0:=by omega
   subst agC;have eL:Hid (((0==0) && decide (0<0))=ce):=rfl;rw[eL.o]at GJ
  all_goals
   go_wp2_with (refine acs (by rfl) 116 (.tmp 2) (.tmp 16) (by rfl) w.heap.size _ rfl rfl 116 _ jh (by exact Tryz.xB) (by rfl) (by simp[Value.oneCell']) ?_);obtain⟨q1,q2⟩:=GJ.o _ rfl;refine aaD (Qd rfl w.heap.size 116 rfl q2 underlying116 rfl (by kernel_rfl)) rfl ?_;exact q1
 have fU:(((k:Nat):Int)==0)=ce:=by simp;omega
 have eL:Hid (((k==0) && decide (0<n))=ce):=by show _=_;rw[show (k==0)=ce by simpa using cZ];rfl
 rw[eL.o]at GJ;clear cZ;go_wp2_with (refine acs (by rfl) 116 (.tmp 2) (.tmp 16) (by rfl) w.heap.size _ rfl rfl 116 _ jh (by exact Tryz.xB) (by rfl) (by simp[Value.oneCell']) ?_);obtain⟨q1,q2⟩:=GJ.o _ rfl;refine aaD (Qd rfl w.heap.size 116 rfl q2 underlying116 rfl (by kernel_rfl)) rfl ?_;exact q1
def sJ (B:Nat)(w:co)(v:cl)(n:Nat):Prop:=oC w v n/\ ∀q,v.ownBlock=F q->B<=q/\q<w.heap.size
theorem sJ.wr (h:sJ B w v n)(hw:Wr R og w w')(hR:R<B)(ho:∀q,og=F q->q<B):sJ B w' v n:=by obtain⟨⟨xs,H,I,J⟩,E⟩:=h;exact⟨⟨xs,H.wr hw (fun q hq=>⟨by have:=E q hq;omega,fun e=>by have:=E q hq;have:=ho q e;omega⟩),I,J⟩,fun q hq=>⟨(E q hq).1,aal (E q hq).2 hw.size⟩⟩
theorem sJ.mono {B':Nat}(h:sJ B w v n)(hb:B'<=B):sJ B' w v n:=⟨h.1,fun q hq=>⟨aar hb (h.2 q hq).1,(h.2 q hq).2⟩⟩
theorem sJ.grown (h:sJ B w v n)(hg:w.grownBy w' og)(hne:∀q,v.ownBlock=F q->og≠F q):sJ B w' v n:=by obtain⟨⟨xs,H,I,J⟩,E⟩:=h;exact⟨⟨xs,H.kept hg (fun k hk e=>hne k e hk),I,J⟩,fun q hq=>⟨(E q hq).1,aal (E q hq).2 hg.size⟩⟩
def Sy (w:co)(B:Nat)(og:Option Nat)(sv:cl)(s:List Nat):Prop:=∃ms:List cl,w.ownsRow B 59 1 sv ms.length ms/\ms.length=s.length/\(∀q,sv.ownBlock=F q->og≠F q)/\ ∀(i:Nat) (m:cl) (n:Nat),ms[i]?=F m->s[i]?=F n->sJ B w m n/\ ∀q,m.ownBlock=F q->sv.ownBlock≠F q/\og≠F q
theorem Sy.wr (h:Sy w B og sv s)(hw:Wr R Z w w')(hR:R<B):Sy w' B og sv s:=by obtain⟨ms,H,I,J,E⟩:=h;exact⟨ms,Vx H hw hR,I,J,fun i m n hm hn=>⟨(E i m n hm hn).1.wr hw hR (fun q hq=>by cases hq),(E i m n hm hn).2⟩⟩
theorem Sy.mono {B':Nat}(h:Sy w B og sv s)(hb:B'<=B):Sy w B' og sv s:=by obtain⟨ms,H,I,J,E⟩:=h;exact⟨ms,Xh H hb,I,J,fun i m n hm hn=>⟨(E i m n hm hn).1.mono hb,(E i m n hm hn).2⟩⟩
theorem Sy.turn {og':Option Nat}(h:Sy w B og sv s)(hg:w.grownBy w' og)(hat:og'=F g)(IW:og=F g\/g=w.heap.size):Sy w' B og' sv s:=by
 obtain⟨ms,I,bi,J,T⟩:=h
 have H:∀q,q<w.heap.size->og≠F q->og'≠F q:=by
  intro q E K e;rw[hat]at e
  cases e
  rcases IW with h|h
  ·exact K h
  omega
 refine⟨ms,I.kept hg ?_,bi,fun q E=>H q (I.lt q E).2 (J q E),fun i m n hm hn=> ?_⟩
 ·cases hv:sv.ownBlock with
  |none=>exact .inl rfl
  |some q=>exact .inr (fun e=>J q hv e.symm)
 obtain⟨q1,q2⟩:=T i m n hm hn;exact⟨q1.grown hg (fun q E=>(q2 q E).2),fun q E=>⟨(q2 q E).1,H q (q1.2 q E).2 (q2 q E).2⟩⟩
theorem Sy.push {cap N:Nat}{ms:List cl}
  (h1:w.ownsRow B 59 1 sv ms.length ms) (h2:ms.length=s.length) (h3:∀q,sv.ownBlock=F q->og≠F q) (h4:∀(i:Nat) (m:cl) (n:Nat),ms[i]?=F m->s[i]?=F n->sJ B w m n/\ ∀q,m.ownBlock=F q->sv.ownBlock≠F q/\og≠F q)
  {m:cl} {k:Nat} (hm:sJ B w m k) (hd:∀q,m.ownBlock=F q->sv.ownBlock≠F q/\og≠F q) (hog:∀q,og=F q->q<w.heap.size)
  (hown:w'.ownsRow B 59 1 (U (F ⟨g,0,Z⟩) N cap) N (ms++[m])) (hN:N=ms.length+1) (hg:w.grownBy w' sv.ownBlock) (hat:sv.ownBlock=F g\/g=w.heap.size):
  Sy w' B og (U (F ⟨g,0,Z⟩) N cap) (s++[k]):=by
 subst hN
 have J:∀q,q<w.heap.size->sv.ownBlock≠F q->(Value.ownBlock (U (F ⟨g,0,Z⟩) (ms.length+1) cap))≠F q:=by
  intro q E bi e
  cases e
  rcases hat with h|h
  ·exact bi h
  change g<_ at E;omega
 have K:(ms++[m]).length=ms.length+1:=by simp
 refine⟨ms++[m],by rw[K];exact hown,by rw[K,h2];simp,?_,?_⟩
 ·intro q E e
  cases E
  rcases hat with h|h
  ·exact h3 _ h e
  have:=hog _ e;change g<_ at this;omega
 intro i x n H I;by_cases hlt:i<ms.length
 ·rw[aaH hlt]at H
  rw[aaH (by rw[<-h2];exact hlt)]at I;obtain⟨q1,q2⟩:=h4 i x n H I;exact⟨q1.grown hg (fun q E=>(q2 q E).1),fun q E=>⟨J q (q1.2 q E).2 (q2 q E).1,(q2 q E).2⟩⟩
 have T:i=ms.length:=by have:=(aaf.1 H).1;rw[K]at this;omega
 subst T;rw[aaK (aab _)]at H;rw[h2,aaK (aab _)]at I;simp at H I;subst H;subst I;exact⟨hm.grown hg (fun q E=>(hd q E).1),fun q E=>⟨J q (hm.2 q E).2 (hd q E).1,(hd q E).2⟩⟩
structure Cy (w:co) (B:Nat) (lv:cl) (bc:List cl) (acc:List (List Nat)):Prop where
 own:w.ownsRow B 36 1 lv bc.length bc
 len:bc.length=acc.length
 el:∀(j:Nat) (sv:cl) (s:List Nat),bc[j]?=F sv->acc[j]?=F s->Sy w B lv.ownBlock sv s
theorem Cy.wr (h:Cy w B lv bc acc)(hw:Wr R Z w w')(hR:R<B):Cy w' B lv bc acc:=
 ⟨Vx h.own hw hR,h.len,fun j sv s h1 h2=>(h.el j sv s h1 h2).wr hw hR⟩
theorem Cy.push {cap N:Nat}(h:Cy w B lv bc acc)(hs:Sy w B lv.ownBlock sv s)
  (hown:w'.ownsRow B 36 1 (U (F ⟨g,0,Z⟩) N cap) N (bc++[sv])) (hN:N=bc.length+1) (hg:w.grownBy w' lv.ownBlock) (hat:lv.ownBlock=F g\/g=w.heap.size):
  Cy w' B (U (F ⟨g,0,Z⟩) N cap) (bc++[sv]) (acc++[s]):=by
 subst hN
 have I:(bc++[sv]).length=bc.length+1:=by simp
 refine⟨by rw[I];exact hown,by rw[I,h.len];simp,?_⟩;intro j x t E H;by_cases hlt:j<bc.length
 ·rw[aaH hlt]at E
  rw[aaH (by rw[<-h.len];exact hlt)]at H;exact(h.el j x t E H).turn hg rfl hat
 have J:j=bc.length:=by have:=(aaf.1 E).1;rw[I]at this;omega
 subst J;rw[aaK (aab _)]at E;rw[h.len,aaK (aab _)]at H;simp at E H;subst E;subst H;exact hs.turn hg rfl hat
theorem Cy.crd (h:Cy w B lv bc acc):CRd w lv acc:=by
 refine Sl.jL h.own h.len fun j sv hj=> ?_
 have H:j<acc.length:=by rw[<-h.len];exact(aaf.1 hj).1
 refine⟨acc[j],aad H,?_⟩;obtain⟨ms,J,I,-,K⟩:=h.el j sv acc[j] hj (aad H);refine Sl.jL J I fun i m hi=> ?_
 have E:i<acc[j].length:=by rw[<-I];exact(aaf.1 hi).1
 exact⟨acc[j][i],aad E,(K i m _ hi (aad E)).1.1⟩
def ml (w:co)(v:cl)(fs:List (List Int)):Prop:=Sl w v fs.length fun j u=> ∃ks,fs[j]?=F ks/\KA w u ks
theorem ml.below {fs:List (List Int)}(h:ml w v fs)(hb:Below w.heap.size w w'):ml w' v fs:=
 Sl.mono h hb fun _ _ ⟨n,a,b⟩=>⟨n,a,b.below hb⟩
def Yg (ks:List Int):List Nat:=ks.map Int.toNat
def Kl (ks:List Int):Prop:=ks≠[]/\ ∀k∈ks,0<=k
instance (ks:List Int):Decidable (Kl ks):=by unfold Kl;infer_instance
def ik (fs:List (List Int)):Prop:=∀ks∈fs,Kl ks
instance (fs:List (List Int)):Decidable (ik fs):=by unfold ik;infer_instance
def Qcd (fs:List (List Int))(w:co)(e:Ending)(w':co):Prop:=
 (if ik fs then e=.returned (da #[c9 ⟨(aj.iT (fs.map Yg)).toArray⟩,A G 0]) else e=.returned (da #[c9 ⟨#[]⟩,A G 3]))/\Below w.heap.size w w'
theorem Qhy (hs:s.length<=1048576)(hb:∀n∈s,n<BB):(dQ s).length<=34603008:=by
 have h:=Wz [32] 32 (s.map aj.aA) (fun b hb'=>by
  obtain⟨n,H,rfl⟩:=abw.1 hb';show (Yb n).length<=32;unfold Yb;split
  ·simp
  have E:n<BB^1:=by rw[Nat.pow_one];exact hb n H
  have:=Zw E
  rw[aas];omega)
 rw[aas]at h;have I:s.length*(32+[32].length)<=1048576*33:=aa3 hs (by simp);unfold dQ;omega
theorem Qh9 {l:List (List Nat)}(hl:l.length<=1048576)(hs:∀s∈l,s.length<=1048576/\ ∀n∈s,n<BB):(aj.Ql [44,32] (l.map dQ)).length<=70368744177664:=by
 have h:=Wz [44,32] 34603008 (l.map dQ) (fun b hb'=>by
  obtain⟨s,E,rfl⟩:=abw.1 hb'
  exact Qhy (hs s E).1 (hs s E).2)
 rw[aas]at h;have H:l.length*(34603008+[44,32].length)<=1048576*34603010:=aa3 hl (by simp);omega
theorem Qyh {ks:List Int}(h:n∈Yg ks):∃k∈ks,n=k.toNat:=by obtain⟨k,E,rfl⟩:=abw.1 h;exact⟨k,E,rfl⟩
def acg (n:Nat)(fs:List (List Int))(w:co)(lv iv:cl)(wr:co):Prop:=∃(i:Nat) (bc:List cl),iv=A G i/\i<=n/\Cy wr w.heap.size lv bc ((fs.map Yg).take i)/\Below w.heap.size w wr/\ik (fs.take i)
def ace (m:Nat)(ks:List Int)(og:Option Nat)(wo:co)(sv jv:cl)(wr:co):Prop:=∃j:Nat,jv=A G (j:Nat)/\j<=m/\Sy wr wo.heap.size og sv (Yg (ks.take j))/\Below wo.heap.size wo wr/\ ∀k∈ks.take j,0<=k
theorem Qqh {fs:List (List Int)}(hs:SG w)(hv:ml w v fs)(hn:fs.length<=1048576)(hm:∀ks∈fs,ks.length<=1048576/\ ∀k∈ks,k<=9223372036854775807):Calls prog 32 #[v] w (Qcd fs w):=by
 have ew:=zq hs;have hsz:4<w.heap.size:=aaY w _ (hs 0 (by omega));obtain⟨ao,cap,rfl,h1,h2,h3⟩:=hv;obtain⟨n,bu⟩:=xq fs.length;rw[<-bu]at h1 hn h3 ⊢;have bw:=zq bu;have H3:=zq h3;have HM:=zq hm;have dy:=zq hsz;clear hs bu h3 hm hsz;obtain⟨i0,hi,hz0,hz1,hz2⟩:=aa0 Tryz.qX;obtain⟨j0,hj,cZ,eu,hk2⟩:=aa0 Tryz.r6;go_enter func32,ntmps32;go_wp2_with fail;go_loopw [4,12] (fun lv iv wr=>acg n fs w lv iv wr) (fun _ iv _=>(n-intOf iv).toNat)
 case atStart=>exact⟨0,[],rfl,aat _,⟨abx _ _ _ _,rfl,fun j sv s h=>by simp at h⟩,aaw _ _,fun p hp=>by simp at hp⟩
 case round=>
  obtain⟨i,bc,rfl,ir,vW,hbl,bm⟩:=hrel;have qp:=zq vW;have aL:=zq hbl;have bS:=zq bm;have hz1':=hbl.size;clear vW hbl bm;obtain⟨wo,rfl⟩:=xq wr;by_cases hlt:i<n
  ·obtain⟨g,o,rfl,hg,hcell⟩:=H3.o (by omega)
   obtain⟨u,c0,ks,qT,hka⟩:=hcell i hlt;have d0:wo.cell? ⟨g,o+i,Z⟩=F u:=(aL.o.cell (p:=⟨g,o+i,Z⟩) hg).trans c0;have p7:=zq qT;have qN:=hka.below aL;obtain⟨so,cG,rfl,s1,s2,s3⟩:=qN;obtain⟨eW,uh⟩:=HM.o ks (aai qT);have HSB:=zq uh;have ie:=zq s3;obtain⟨m,ei⟩:=xq ks.length;rw[<-ei]at s1 eW d0;have ct:=zq ei;clear c0 qT hcell s3 ei hka uh;go_wp2_with fail;go_loopw [7,18] (fun sv jv wx=>ace m ks u4.ownBlock wo sv jv wx) (fun _ jv _=>(m-intOf jv).toNat)
   case atStart=>exact⟨0,rfl,aat _,⟨[],abx _ _ _ _,rfl,(fun q hq=>by cases hq),fun i m n h=>by simp at h⟩,aaw _ _,fun p hp=>by simp at hp⟩
   case round=>
    obtain⟨j,rfl,hjm,YI,fe,dc⟩:=hrel;have rB:=zq YI;have bH:=zq fe;have eY:=zq dc;have hz2':=fe.size;clear YI fe dc;by_cases zU:j<m
    ·obtain⟨k,hk⟩:∃k,ks[j]?=F k:=⟨_,aad (by rw[<-ct.o];exact zU)⟩
     obtain⟨g2,o2,rfl,hg2,e0⟩:=ie.o j k hk;have f0:wr.cell? ⟨g2,o2+j,Z⟩=F (A G k):=(bH.o.cell (p:=⟨g2,o2+j,Z⟩) hg2).trans e0;have HK:=zq hk;clear e0 hk;by_cases aiA:k<0
     ·have eK:Hid (¬ik fs):=fun h=>by
       have:=(h ks (aai p7)).2 k (aai HK);omega
      go_wp2_with fail;go_ret2;refine⟨?_,aL.o.trans (bH.o.mono hz1')⟩;rw[if_neg eK.o];rfl
     obtain⟨kn,dA⟩:∃kn:Nat,k=(kn:Int):=⟨k.toNat,by omega⟩;subst dA;have hkb:=HSB.o _ (aai HK)
     have W0:IntKind.u64.wrap (kn:Int)=(kn:Int):=by rw[aaA];omega
     have hblk:bh (wr.alloc (O #[A .u64 kn] 101)) wr.heap.size [kn]:=by refine⟨aap wr _,?_⟩;intro z hz;simp at hz;subst hz;unfold BB;omega
     have HA:=zq (Qq wr (O #[A .u64 kn] 101));have fy:=zq (Qq (wr.alloc (O #[A .u64 kn] 101)) (O #[U (F ⟨wr.heap.size,0,Z⟩) 1 1] 59));obtain⟨ms,m1,m2,m3,m4⟩:=(rB.o.wr (R:=4) (Wr.au HA) (by have:=dy.o;omega)).wr (R:=4) (Wr.au fy) (by have:=dy.o;omega)
     have EI:sJ wo.heap.size ((wr.alloc (O #[A .u64 kn] 101)).alloc (O #[U (F ⟨wr.heap.size,0,Z⟩) 1 1] 59)) (U (F ⟨wr.heap.size,0,Z⟩) 1 1) kn:=
      ⟨⟨[kn],(hblk.whole (by simp)).below fy,by simp[aw.val],by simp⟩,fun q hq=>by cases hq;exact⟨hz2',by simp;omega⟩⟩
     have VL:∀q,(Value.ownBlock (U (F ⟨wr.heap.size,0,Z⟩) 1 1))=F q->u7.ownBlock≠F q/\u4.ownBlock≠F q:=by
      intro q hq
      cases hq
      refine⟨fun e=> ?_,fun e=> ?_⟩
      ·obtain⟨ms',g1,-⟩:=rB.o
       have:=(g1.lt _ e).2;change wr.heap.size<wr.heap.size at this;omega
      have:=(qp.o.own.lt _ e).2;change wr.heap.size<wo.heap.size at this;omega
     obtain⟨nx,gZ⟩:=xq ms.length;have kV:=zq gZ
     have AA:nx<=1048576:=by rw[gZ,m2];unfold Yg;rw[aas,aak];omega
     have lg:((wr.alloc (O #[A .u64 kn] 101)).alloc (O #[U (F ⟨wr.heap.size,0,Z⟩) 1 1] 59)).ownsRow wo.heap.size 59 1 u7 nx ms:=by rw[gZ];exact m1
     have HOW:=zq lg;have M1:=zq m1;have M2:=zq m2;have M3:=zq m3;have M4:=zq m4;have HM8:=zq EI;have HD8:=zq VL;have cT:=zq (bH.o.trans ((HA.o.trans (fy.o.mono HA.o.size)).mono hz2'));clear m1 m2 m3 m4 EI VL gZ lg hblk;go_wp2_with (at_builtin;refine abk _ rfl _ _ 36 rfl wo.heap.size 59 i0 (U Z 0 0) 1 24 underlying36 hi hz0 hz1 hz2 rfl (by omega) u7 nx ms rfl HOW.o ⟨wr.heap.size+1,0,Z⟩ 1 1 [U (F ⟨wr.heap.size,0,Z⟩) 1 1] rfl rfl (ar.Qg _ _ _ _ (by simp)) (by simp[Value.oneCell']) (by omega) (by unfold maxLen;omega) (by omega) (by simp;omega) (wr.heap.size+1+1) (by simp) ?_);intro gg ij w9 bT hgrow hat jH;have q1:=Sy.push (og:=u4.ownBlock) M1.o M2.o M3.o M4.o HM8.o HD8.o (fun q hq=>by have:=(qp.o.own.lt q hq).2;simp;omega) bT (by rw[kV.o]) hgrow (by simpa using hat)
     have bF:Yg (ks.take (j+1))=Yg (ks.take j)++[kn]:=by rw[aaI,HK.o];simp[Yg]
     rw[<-bF]at q1;have il:Below wo.heap.size wo w9:=aaF cT hgrow cT.o.size (fun q hq=>(M1.o.lt q hq).1)
     have wR:∀k∈ks.take (j+1),0<=k:=by
      intro k hk;rw[aaI,HK.o]at hk;rcases aaP.1 hk with hk|hk
      ·exact eY.o k hk
      simp at hk;omega
     have jR:=zq q1;have cQ:=zq il;have fH:=zq wR;clear bT hgrow hat jH q1 bF il wR;go_wp2_with fail;have aq:Sy w9 wo.heap.size u4.ownBlock (U (F ⟨gg,0,Z⟩) (nx+1) ij) (Yg (ks.take (j+1)))/\Below wo.heap.size wo w9/\ ∀k∈ks.take (j+1),0<=k:=⟨jR,cQ,fH⟩
     exact⟨⟨j+1,by go_num,by omega,aq⟩,by simp[intOf]<;>omega⟩
    have jo:j=m:=by omega
    have bF:ks.take j=ks:=aam (by rw[jo];exact abT ct.o.symm);rw[bF]at rB eY
    obtain⟨sn,Ox,sl,YE,qR⟩:∃sn Ox sl,sl=m/\u7=U sn sl Ox:=by obtain⟨ms,g1,g2,-⟩:=rB.o;obtain⟨so',sc',e,-⟩:=Qj g1;exact⟨so',sc',_,by rw[g2];unfold Yg;rw[aas,ct.o],e⟩
    subst qR;rw[YE]at rB ⊢;clear bF jo YE;by_cases nk:m=0
    ·have eK:Hid (¬ik fs):=fun h=>by
      have:=(h ks (aai p7)).1;exact this (aau (by rw[<-ct.o];exact nk))
     subst nk;go_wp2_with fail;go_ret2;refine⟨?_,aL.o.trans (bH.o.mono hz1')⟩;rw[if_neg eK.o];rfl
    have cD:((m:Int)==0)=ce:=by simp;omega
    have acC:=zq (qp.o.wr (R:=4) (Wr.au bH) dy);have kP:=zq (Qq wr (O #[U sn m Ox] 36));have yK:=zq (acC.o.wr (R:=4) (Wr.au kP) dy);have HX8:=zq ((rB.o.wr (R:=4) (Wr.au kP) (by have:=dy.o;omega)).mono hz1');obtain⟨nx,gZ⟩:=xq bc.length;have kV:=zq gZ
    have AA:nx<=1048576:=by rw[gZ,yK.o.len,aak];omega
    have lg:(wr.alloc (O #[U sn m Ox] 36)).ownsRow w.heap.size 36 1 u4 nx bc:=by rw[gZ];exact yK.o.own
    have HOW:=zq lg;have cT:=zq ((aL.o.trans (bH.o.mono hz1')).trans (kP.o.mono (aL.o.trans (bH.o.mono hz1')).size));clear gZ lg nk;go_wp2_with (at_builtin;refine abk _ rfl _ _ 97 rfl w.heap.size 36 j0 (U Z 0 0) 1 24 underlying97 hj cZ eu hk2 rfl (by omega) u4 nx bc rfl HOW.o ⟨wr.heap.size,0,Z⟩ 1 1 [U sn m Ox] rfl rfl (ar.Qg _ _ _ _ rfl) (by simp[Value.oneCell']) (by omega) (by unfold maxLen;omega) (by omega) (by simp;omega) (wr.heap.size+1) (by simp) ?_);intro gg ij w9 bT hgrow hat jH;have q1:=yK.o.push HX8.o bT (by rw[kV.o]) hgrow (by simpa using hat)
    have bF:(fs.map Yg).take (i+1)=(fs.map Yg).take i++[Yg ks]:=by rw[aaI,aa9,p7.o];rfl
    rw[<-bF]at q1;have il:Below w.heap.size w w9:=aaF cT hgrow cT.o.size (fun q hq=>(yK.o.own.lt q hq).1)
    have wR:ik (fs.take (i+1)):=by
     intro k hk;rw[aaI,p7.o]at hk;rcases aaP.1 hk with hk|hk
     ·exact bS.o k hk
     simp at hk;subst hk;exact⟨fun e=>by rw[e]at ct;have:=ct.o;simp at this cD;exact cD this,eY⟩
    have jR:=zq q1;have cQ:=zq il;have fH:=zq wR;clear bT hgrow hat jH q1 bF il wR;go_wp2_with fail;have aq:Cy w9 w.heap.size (U (F ⟨gg,0,Z⟩) (nx+1) ij) (bc++[U sn m Ox]) ((fs.map Yg).take (i+1))/\Below w.heap.size w w9/\ik (fs.take (i+1)):=⟨jR,cQ,fH⟩
    exact⟨⟨i+1,_,by go_num,by omega,aq⟩,by simp[intOf]<;>omega⟩
  have dD:i=n:=by omega
  have bF:(fs.map Yg).take i=fs.map Yg:=aam (by rw[dD,aas];exact abT bw.o.symm);have xj:fs.take i=fs:=aam (by rw[dD];exact abT bw.o.symm);rw[bF]at qp;rw[xj]at bS;have jt:=zq (ew.o.below aL dy);have HCR:=zq qp.o.crd;clear bF xj dD;go_wp2_with fail;refine(Qgw jt HCR (by rw[aas,<-bw.o];omega) (fun s hs=> ?_) (Qh9 (by rw[aas,<-bw.o];exact hn) (fun s hs=> ?_))).mono ?_
  ·obtain⟨ks,mE,rfl⟩:=abw.1 hs
   have:=(HM.o ks mE).1;unfold Yg;rw[aas];omega
  ·obtain⟨ks,mE,rfl⟩:=abw.1 hs
   have h1:=(HM.o ks mE).1;refine⟨by unfold Yg;rw[aas];exact h1,fun x hx=> ?_⟩;obtain⟨k,hk,rfl⟩:=Qyh hx;have:=(HM.o ks mE).2 k hk;unfold BB;omega
  rintro e w5 ⟨rfl,bG⟩;have cS:=zq (aL.o.trans (bG.mono hz1'));clear bG;go_wp2_with fail;go_ret2;refine⟨?_,cS⟩;rw[if_pos bS.o];rfl
open aZ
theorem eR.se (h:eR w v n)(b:Bool):(Xu b n).length<=2147483648:=by obtain⟨xs,E,H,I⟩:=h;have:=Zy b I E.ok;rw[H]at this;exact this
theorem Qvh (na nb:Bool)(x y:Nat){u:cl}(w:co)(hv:eR w v x)(hu:eR w u y):Calls prog 83 #[.agg #[ca na,v,ca nb,u]] w (Qkp na nb x y w):=by
 have HV:=zq hv;have HU:=zq hu;obtain⟨ao,L,cap,rfl⟩:=hv.shape;obtain⟨bo,L2,bn,rfl⟩:=hu.shape;have HA:=zq (Qq w (O #[ca na,U ao L cap,ca nb,U bo L2 bn] 71));have fJ:=zq (HV.o.below HA);have jk:=zq (HU.o.below HA);clear hv hu;by_cases h0:y=0
 ·have H0:=zq h0
  clear h0;go_enter func83,ntmps83;go_wp2_with fail;refine(Qxa na nb fJ jk).mono ?_;intro e w1 hp;unfold Iq at hp;rw[if_pos H0.o]at hp;obtain⟨rfl,hb1⟩:=hp;have aK:=zq (HA.o.trans (hb1.mono HA.o.size));clear hb1;unfold Qwb;go_wp2_with fail;go_ret2;refine⟨?_,aK.o.alloc aK.o.size _⟩;rw[if_pos H0.o];rfl
 have H0:=zq h0;obtain⟨be,hG⟩:=xq (Nat.gcd x y);have lT:=zq hG
 have HQZ:Hid (y / be≠0):=by show _≠_;rw[hG];exact Nat.pos_iff_ne_zero.1 (Nat.div_pos (Nat.le_of_dvd (abr h0) (Nat.gcd_dvd_right _ _)) (Nat.gcd_pos_of_pos_right _ (abr h0)))
 have HDE:Hid (decide (x / be≠0)=decide (0<x / be)):=decide_eq_decide.2 ⟨fun h=>abr h,fun h=>Nat.pos_iff_ne_zero.1 h⟩;clear h0 hG;go_enter func83,ntmps83;go_wp2_with fail;refine(Qxa na nb fJ jk).mono ?_;intro e w1 hp;unfold Iq at hp;rw[if_neg H0.o,<-lT.o]at hp;obtain⟨p,q,rfl,p1,q1,hb1⟩:=hp;obtain⟨po,PL,gK,rfl⟩:=p1.weak.shape;obtain⟨qo,QL,bK,rfl⟩:=q1.weak.shape;obtain⟨fn,hfn⟩:=xq (((na !=nb) && decide (0<x / be)));rw[<-hfn];have tK:=zq hfn;have xR:=zq p1.weak;have jR:=zq q1.weak;have aK:=zq (HA.o.trans (hb1.mono HA.o.size));have ha2:=Qq w1 (O #[ca fn,U po PL gK,ca ce,U qo QL bK] 71);have fQ:=aap w1 (O #[ca fn,U po PL gK,ca ce,U qo QL bK] 71);obtain⟨c0,c1,c2,c3,-,-,-,-⟩:=Yo fQ;have fy:=zq ha2;have ou:=zq fQ;clear p1 q1 hb1 hfn ha2 fQ;go_wp2_with fail;obtain⟨w2,hw2⟩:=xq (w1.alloc (O #[ca fn,U po PL gK,ca ce,U qo QL bK] 71));obtain⟨h4,JK⟩:=xq w1.heap.size;rw[<-hw2]at fy;rw[<-hw2,<-JK]at ou;rw[<-hw2]
 try rw[<-JK]
 have hl4:h4<w2.heap.size:=(aah.1 ou).1;have aI:=zq (aK.o.trans (fy.o.mono aK.o.size));have CT:=zq (xR.o.below fy);have HQA:=zq (jR.o.below fy);have HH4:=zq JK;clear hw2 JK c0 c1 c2 c3;refine(Tk fn (x / be) _ CT).mono ?_;rintro e w3 ⟨rfl,hb3⟩;obtain⟨T1,DN⟩:=xq (Xu fn (x / be));rw[<-DN];have qC:=zq DN
 have ahY:T1.length<=2147483648:=by rw[DN];exact CT.o.se fn
 have aV:=zq (aI.o.trans (hb3.mono aI.o.size));have ft:=zq ((hb3.block h4 hl4).trans ou);have fH:=zq (HQA.o.below hb3);have agf:h4<w3.heap.size:=(aah.1 ft).1;obtain⟨c0,c1,c2,c3,-,-,-,-⟩:=Yo ft;have bd:Below w3.heap.size w3 w3.drew:=(aaw w3.heap.size w3).drew;have C2:=zq (Qx bd c2);have C3:=zq (Qx bd c3);have HQD:=zq (fH.o.below bd);clear hb3 DN bd;go_wp2_with fail
 go_region_held3 (fun w'=>w'.cell? ⟨h4,2,Z⟩=F (ca ce)/\w'.cell? ⟨h4,3,Z⟩=F (U qo QL bK))
  (first
   |exact⟨Qx b5 (Qx b4 C2),Qx b5 (Qx b4 C3)⟩
   |exact⟨Qx b4 C2,Qx b4 C3⟩
   |exact⟨C2,C3⟩)
  (first
   |(have hq:=b4;go_at_call 146;refine(Qxr (HQD.o.below b4) o1 HQZ.o).mono ?_;rintro e w5 ⟨c,rfl,hc,b5⟩)
   |(go_at_call 147;refine(Qy5).mono ?_;rintro e w4 ⟨ov,rfl,o1',b4⟩;have o1:=o1'.weak;obtain⟨oo,OL,ahh,rfl⟩:=o1.shape))
 have bG:Below w3.heap.size w3 w5:=(aaw w3.heap.size w3).drew.trans (b4.trans (b5.mono b4.size));have cS:=zq (aV.o.trans (bG.mono aV.o.size));obtain⟨d0,d1,d2,d3,-,-,-,-⟩:=Yo ((bG.block h4 agf).trans ft);have HQ5:=zq (fH.o.below bG);have HC:=zq hc;clear b4 b5 o1 o1' bG c0 c1 c2 c3;by_cases h1:y / be=1
 ·have hc0:c=0:=hc.1.2 h1
  subst hc0
  have HF:Hid (Vr na nb x y=T1):=by show _=_;unfold Vr;rw[<-lT.o,if_pos h1,abt,qC.o,tK.o,HDE.o]
  have hcz:((0:Int)==0)=true:=rfl;clear h1 hc;go_wp2_with fail;go_ret2;refine⟨?_,cS⟩;rw[if_neg H0.o,HF.o];rfl
 have hc0:(c==0)=ce:=by rw[ad2];intro h;exact h1 (hc.1.1 h)
 have hcz: ¬c=0:=fun h=>h1 (hc.1.1 h)
 have HF:Hid (Vr na nb x y=T1++47::Xu ce (y / be)):=by show _=_;unfold Vr;rw[<-lT.o,if_neg h1,qC.o,tK.o,HDE.o]
 have afw:=HQ5.o.se ce
 have VF: ¬9223372036854775807<T1.length+1:=by omega
 clear h1 hc;go_wp2_with fail;refine(Tk ce (y / be) _ HQ5).mono ?_;rintro e w6 ⟨rfl,eV⟩;obtain⟨T2,x7⟩:=xq (Xu ce (y / be));rw[<-x7]at afw ⊢;have oO:=zq x7
 have VG: ¬9223372036854775807<T1.length+1+T2.length:=by omega
 have jg:=zq (cS.o.trans (eV.mono cS.o.size));clear eV x7 d0 d1 d2 d3;go_wp2_with fail;go_ret2;refine⟨?_,jg⟩;rw[if_neg H0.o,HF.o,<-oO.o];show Ending.returned (da #[c9 ((⟨T1.toArray⟩:ByteArray)++⟨#[47]⟩++⟨T2.toArray⟩),A G 0])=_;rw[Zp,Zp];simp
end Go.Proofs.YtgfmiladfeoldaaGreatDoor
