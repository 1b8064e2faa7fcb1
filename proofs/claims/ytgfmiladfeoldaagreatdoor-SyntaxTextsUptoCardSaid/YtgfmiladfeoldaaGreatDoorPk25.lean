import Derived.Test.YtgfmiladfeoldaaGreatDoorPk22
import Derived.Test.YtgfmiladfeoldaaGreatDoorPk24
set_option linter.unusedSimpArgs false
set_option linter.unusedVariables false
set_option maxRecDepth 100000
set_option maxHeartbeats 16000000
open Go.Value renaming slice->U,int->A,string->ca,bool->da
open Option renaming none->Z,some->F
open Go.IntKind renaming i64->G
open Go.Obj renaming cells->O
open Bool renaming false->ce,true->cl
open Go.Proofs.Tryz renaming underlying47->co,underlying41->db,prog->de
open Go.RowKit renaming Below->c9
namespace Go.Proofs.YtgfmiladfeoldaaGreatDoor
open Go.RowKit ar aw
def qG (t:Bytes)(w:World)(e:Ending)(w':World):Prop:=c9 w.heap.size w w'/\match aj.Yy t with
 | .ok m=>aj.Ky m/\ ∃v,e=.returned (.tuple #[.agg #[A G (m.rows:Nat),A G (m.aW:Nat),v],A G 0])/\mr w' v m.at_
 | .error k=>e=.returned (.tuple #[.agg #[A G 0,A G 0,U Z 0 0],A G k])/\0<k
theorem Qwv (M:Nat):∀l:List (Bool×Nat),(∀p∈l,(aj.aA p.2).length<=M)->pX l<=l.length*M
 | [],_=>by simp[pX]
 |p::l,h=>by have h1:=Qwv M l fun q hq=>h q (aca _ hq);have E:=h p (acN ..);simp only[pX,abq,adV,aaq]at h1 ⊢;rw[abd];omega
theorem Qyg {L:List Tok}{m:aj.ey}(hm:aj.Ky m)(hf:∀p∈m.at_,aF.From L p)(hL:∀t∈L,vC t):(aj.fj m).length<=1099511627776/\ ∀p∈Th m,(aj.aA p.2).length<=1048576/\(p.1=cl->p.2≠0):=by
 obtain⟨I,J,K,bi⟩:=hm
 have H:∀p∈m.at_,(aj.aA p.2).length<=1048576:=by
  intro p E;rcases hf p E with h|⟨t,ht,T,aE⟩
  ·rw[h];decide
  rw[aE];have am:=Cl t.2.1;have h8:=(hL t ht T).2.2.1;omega
 refine⟨?_,fun p E=> ?_⟩
 ·have T:=Qmv (m:=m) ⟨I,J,K,bi⟩
  have aE:=Qwv 1048576 m.at_ H
  have am:m.at_.length<=4096:=by rw[K];exact aar (aa3 I J) (by decide)
  have h8:m.at_.length*1048576<=4096*1048576:=aa3 am (aab _);omega
 unfold Th at E;split at E
 ·simp only[abu,aeq,or_false]at E
  rcases E with rfl|rfl
  ·exact⟨aar (Rz I) (by decide),fun h=>by cases h⟩
  exact⟨aar (Rz J) (by decide),fun h=>by cases h⟩
 exact⟨H p E,fun h=>by have:=bi p E h;omega⟩
theorem Dx {w1:World}{B so cap:Nat}{ao:Option Addr}{L:List Tok}(ho:w1.ownsRow B 119 3 (U ao L.length cap) L.length (Xv L))(KY:so<w1.heap.size):fP (w1.alloc (O #[U ao L.length cap,A G 0,U Z 0 0,U Z 0 0,U (F ⟨so,0,Z⟩) 1 1,da cl,da ce,A G 0] 116)) w1.heap.size (U ao L.length cap) L 0 ⟨L,[],[],cl,ce,0⟩:=by
 have E:=Qq w1 (O #[U ao L.length cap,A G 0,U Z 0 0,U Z 0 0,U (F ⟨so,0,Z⟩) 1 1,da cl,da ce,A G 0] 116)
 have H:oT w1 w1.heap.size (U ao L.length cap) L:=by
  obtain⟨ao',cap',e,a1,a2,a3⟩:=Qj ho
  cases e
  refine⟨_,cap,rfl,a1,a2,fun h0=> ?_⟩;obtain⟨g',e,b1,b2,b3⟩:=a3 h0
  cases e
  refine⟨g',rfl,b2,fun j t hj=> ?_⟩;have I:=(aaf.1 hj).1;obtain⟨c1,c2,c3⟩:=Pv L j t hj;exact⟨by rw[b3 _ (by omega)];exact c1,by rw[b3 _ (by omega)];exact c2,by rw[b3 _ (by omega),c3]⟩
 refine⟨U Z 0 0,U Z 0 0,U (F ⟨so,0,Z⟩) 1 1,[],?_,rfl⟩
 exact {
  blk:=aap w1 _
  tks:=H.low fun k hk=>E.block k hk
  kM:=abx _ _ _ _
  sf:=abx _ _ _ _
  uq:=⟨fun q hq=>by cases hq;exact⟨ad9 KY,aal KY E.size⟩,fun h=>absurd rfl h⟩
  kids:=(fun p hp=>by cases hp)
  AX:=(fun p hp=>by cases hp)
  yx:=(fun q hq=>by cases hq)
  EX:=(fun q hq=>by cases hq)}
theorem fP.node {w:World}{R:Nat}{tv:Value}{L:List Tok}{i:Nat}{x:aF.RW}{e:aj.Ex}(h:fP w R tv L i x)(hv:x.vals=[e]){op:Nat}{text:Bytes}(he:∀o,e.flat o=[⟨op,text,[]⟩]):∃g cap,w.cell? ⟨R,2,Z⟩=F (U (F ⟨g,0,Z⟩) 1 cap)/\g<w.heap.size/\w.cell? ⟨g,1,Z⟩=F (ca ⟨text.toArray⟩):=by
 obtain⟨nv,vv,sv,ns,E,H⟩:=h;rw[hv]at H
 have I:ns.map Prod.fst=[⟨op,text,[]⟩]:=by rw[H];show e.flat 0++[]=_;rw[abt,he]
 obtain⟨p,rfl⟩:∃p,ns=[p]:=by
  have:=aaE List.length I;rw[aas]at this
  match ns,this with
  | [p],_=>exact⟨p,rfl⟩
 obtain⟨-,-,c2,-⟩:=E.cells;obtain⟨ao,cap,rfl,-,-,a3⟩:=Qj E.kM;obtain⟨g,rfl,-,g2,g3⟩:=a3 Nat.zero_lt_one;refine⟨g,cap,c2,g2,?_⟩;rw[g3 1 (by show 1<1*3;omega)]
 have J:p.1=⟨op,text,[]⟩:=by simpa using I
 simp[Xm,J]
theorem Dq {t:Bytes}(h:Ue t=ce):aj.Yy t=.error 7/\aj.Zb t=Z:=by
 unfold Ue at h
 cases hT:aM 1 (Qz t) with
 |error e=>exact⟨aF.Qy2 hT,aF.Qy1 hT⟩
 |ok L=>rw[hT]at h;have E:decide (0<L.length)=ce:=h;have H:L=[]:=aau (by have:=of_decide_eq_false E;omega);subst H;exact⟨aF.Ft hT rfl,aF.Fs hT rfl⟩
theorem Dz {t:Bytes}(h:Ue t=cl):∃L,aM 1 (Qz t)=.ok L/\0<L.length:=by
 unfold Ue at h
 cases hT:aM 1 (Qz t) with
 |error e=>
  rw[hT]at h;simp only[Uk,aa5,ado,decide_false,Bool.and_false]at h
  cases h
 |ok L=>rw[hT]at h;have E:decide (0<L.length)=cl:=h;exact⟨L,rfl,of_decide_eq_true E⟩
theorem Ay {t:Bytes}{w w':World}{k:Nat}(h:aj.Yy t=.error k)(hk:0<k)(hb:c9 w.heap.size w w'):qG t w (.returned (.tuple #[.agg #[A G 0,A G 0,U Z 0 0],A G k])) w':=by unfold qG;rw[h];exact⟨hb,rfl,hk⟩
theorem Qx3 (s:ByteArray)(w:World)(hs:s.size<=1048576):Calls de 89 #[ca s] w (qG s.data.toList w):=by
 have eG:=Qq w (O #[A G 0,A G 0,U Z 0 0] 47);have cT:=zq eG
 have hz0:(w.alloc (O #[A G 0,A G 0,U Z 0 0] 47)).heap.size=w.heap.size+1:=by simp
 have eO:=zq (aap w (O #[A G 0,A G 0,U Z 0 0] 47));have jf:=zq (Cv s (w.alloc (O #[A G 0,A G 0,U Z 0 0] 47)) hs)
 have hs2:s.data.toList.length<=1048576:=by rw[<-aa2];exact hs
 have cU:=zq hs2;obtain⟨t,ht⟩:=xq s.data.toList;rw[<-ht]at jf cU ⊢;clear eG hs hs2 ht;go_enter Tryz.func89,Tryz.ntmps89;go_wp2_with fail;refine jf.o.mono ?_;rintro e w1 ⟨tv,so,rfl,ho,KY,hb1⟩;obtain⟨b,hb⟩:=xq (Ue t);rw[<-hb];obtain⟨ao,cap,rfl,-,-,-⟩:=Qj ho;obtain⟨n,hn⟩:=xq ((Uk (aM 1 (Qz t))).length);rw[<-hn]at ho ⊢;obtain⟨w2,hw2⟩:=xq (w1.alloc (O #[U ao n cap,A G 0,U Z 0 0,U Z 0 0,U (F ⟨so,0,Z⟩) 1 1,da cl,da ce,A G 0] 116))
 have gw:c9 w1.heap.size w1 w2:=by rw[hw2];exact Qq _ _
 have hz1:=hb1.size;rw[hz0]at hz1 hb1;have aI:Hid (c9 w.heap.size w w2):=cT.o.trans ((hb1.mono (Nat.le_succ _)).trans (gw.mono (by omega)));have GX:Hid (w2.heap[w.heap.size]?=F (O #[A G 0,A G 0,U Z 0 0] 47 (0,0))):=(gw.block w.heap.size (by omega)).trans ((hb1.block w.heap.size (by omega)).trans eO);obtain⟨R,hR⟩:=xq w1.heap.size
 have YY:w.heap.size<R:=by omega
 cases b with
 |false=>
  have HE:=zq (Dq hb.symm).1;clear ho hb1 gw hz1 hb hn;go_wp2_with (first|(rw[<-hw2];fail)|(refine acs (by rfl) 47 (.tmp 2) (.tmp 19) (by rfl) w.heap.size _ rfl rfl 47 _ (by rw[<-hw2];exact GX.o) (by exact Tryz.gH) (by rfl) (by simp[Value.oneCell']) ?_));rw[<-hw2];refine aaD (Qd rfl w.heap.size 47 rfl (aec _ _ _ _ _ _ GX) co rfl (by kernel_rfl)) rfl ?_
  exact Ay HE (by decide) (aeu aI (aab _) _)
 |true=>
  obtain⟨L,hT,sR⟩:=Dz hb.symm;rw[hT]at hn ho;have hn':n=L.length:=hn
  have ho':w1.ownsRow (w.alloc (O #[A G 0,A G 0,U Z 0 0] 47)).heap.size 119 3 (U ao L.length cap) L.length (Xv L):=by rw[<-hn'];exact ho
  have hwr:=Dx ho' KY;rw[<-hn',<-hw2,<-hR]at hwr;have fO:=zq hwr;have HT:=zq hT;have fI:=zq (aaa cU hT);have HN:=zq hn';obtain⟨c0,c1,-,-,-,bF⟩:=hwr.cells;have HIS:=zq (Rg 0 [91] c0 bF (by omega));rw[aa4]at HIS;have ji:=zq hR;have yP:=zq sR;clear ho hb1 gw hz1 hb hn ho' hn' hwr hT bF sR;go_wp2_with fail;rw[<-hw2,<-hR];clear hw2 hR;go_wp2_with fail;refine HIS.o.mono ?_;rintro e w3 ⟨rfl,hb3⟩;have aV:=zq (Qv aI hb3);have vg:Hid (w3.heap[w.heap.size]?=F (O #[A G 0,A G 0,U Z 0 0] 47 (0,0))):=(hb3.block w.heap.size (by have:=aI.o.size;have:=fO.o.lt;omega)).trans GX;have oA:=zq (fO.o.below hb3)
  cases hm:aj.Qk [91] L with
  |false=>
   have HE:=zq (aF.Ft HT hm);clear hm hb3 c0 c1;go_wp2_with (refine acs (by rfl) 47 (.tmp 2) (.tmp 19) (by rfl) w.heap.size _ rfl rfl 47 _ vg (by exact Tryz.gH) (by rfl) (by simp[Value.oneCell']) ?_);refine aaD (Qd rfl w.heap.size 47 rfl (aec _ _ _ _ _ _ vg) co rfl (by kernel_rfl)) rfl ?_
   exact Ay HE (by decide) (aeu aV (aab _) _)
  |true=>
   obtain⟨x0,hx0⟩:∃x0:aF.RW,x0=⟨L,[],[],cl,ce,0⟩:=⟨_,rfl⟩;have fA:=zq hm;have c1':=oA.o.cells.2.1;have f1:=oA.o.iH 1;have br:=oA.o.lt;have hw4':fP (w3.setCell ⟨R,1,Z⟩ (A G 1)) R (U ao n cap) L (0+1) ⟨L,[],[],cl,ce,0⟩:=oA.o.set 1 (A G 1) (fun _ _ _=>rfl) (ts':=L);have eQ:=zq hw4';have JV:=Quk R (U ao n cap) L ((Qz t).length+1) 0 ⟨L,[],[],cl,ce,0⟩ _ hw4' hm rfl yP (by have:=fI.o.len;omega) fI.o.num (by show 0<=134217728;omega);rw[<-hx0]at JV;have LZ:=zq JV;have HX0:=zq hx0;have cC:Hid (c9 w.heap.size w (w3.setCell ⟨R,1,Z⟩ (A G 1))):=aV.o.setCell (p:=⟨R,1,Z⟩) (aa1 YY) _
   have nI:Hid ((w3.setCell ⟨R,1,Z⟩ (A G 1)).heap[w.heap.size]?=F (O #[A G 0,A G 0,U Z 0 0] 47 (0,0))):=by show _=_;rw[aaN w3 ⟨R,1,Z⟩ w.heap.size _ (by show w.heap.size≠R;omega)];exact vg.o
   clear hm hb3 c0 c1 hw4' JV hx0;go_wp2_with fail;refine LZ.o.mono ?_;rintro e w5 ⟨bG,rP⟩;have cS:=zq (cC.o.trans (bG.mono (aa1 YY)));have sG:Hid (w5.heap[w.heap.size]?=F (O #[A G 0,A G 0,U Z 0 0] 47 (0,0))):=(bG.block w.heap.size YY).trans nI;have hg:=aj.T8 ((Qz t).length+1) (L.length+3) (s:=⟨L,0⟩) (aab _) (aab _)
   have oJ:Hid (jb ((Qz t).length+1) x0=match aj.Yq ((Qz t).length+1) (L.length+3) ⟨L,0⟩ with
     |some (.ok (m,s))=>aF.has x0 (.mat m) s.ts|some (.error e)=> .error e|none=> .error (0,0)):=by show _=_;rw[HX0.o];rfl
   rw[oJ.o]at rP;rcases hM:aj.Yq ((Qz t).length+1) (L.length+3) ⟨L,0⟩ with- |(⟨c,k⟩|⟨m,st⟩)
   ·rw[hM]at hg
    exact hg.elim
   ·rw[hM]at rP
    obtain⟨a,rfl,-,cZ⟩:=rP;have HE:=zq (aF.Qxl HT hM);have fU:=aF.Fm hM;clear hg hM bG cZ;rcases fU with fU|fU|fU
    all_goals
     simp only at fU;subst fU
     go_wp2_with (first
      |refine acs (by rfl) 47 (.tmp 2) (.tmp 39) (by rfl) w.heap.size _ rfl rfl 47 _ sG (by exact Tryz.gH) (by rfl) (by simp[Value.oneCell']) ?_
      |refine acs (by rfl) 47 (.tmp 2) (.tmp 42) (by rfl) w.heap.size _ rfl rfl 47 _ sG (by exact Tryz.gH) (by rfl) (by simp[Value.oneCell']) ?_)
     refine aaD (Qd rfl w.heap.size 47 rfl (aec _ _ _ _ _ _ sG) co rfl (by kernel_rfl)) rfl ?_;exact Ay HE (by decide) (aeu cS (aab _) _)
   rw[hM]at rP;obtain⟨rfl,i',jJ,JA,EE⟩:=rP;have QT:=zq (aF.Qvk HT hM);have HMO:=zq (aj.So hM);obtain⟨cR,kG⟩:=Qyg (aj.So hM) (aF.Qq8 hM) fI.o.num;obtain⟨d0,d1,-,-,-,-⟩:=jJ.cells;obtain⟨gn,bL,d2,hgn,d3⟩:=jJ.node (e:=.mat m) (by rw[HX0.o]) (op:=3) (text:=aj.fj m) (fun _=>rfl);have nS:L.drop i'=st.ts:=JA;have HMX:=zq (Av (aj.So hM) w5 cR kG);by_cases ir:i'<n
   ·have ej:st.ts≠[]:=by
     rw[<-nS];intro h;rw[acr]at h;have:=HN.o;omega
    have HE:Hid (aj.Yy t=.error 7):=by show _=_;rw[QT.o,if_neg ej]
    have JL:((i':Nat):Int)<((n:Nat):Int):=by omega
    have af6:decide (((i':Nat):Int)<((n:Nat):Int))=cl:=aa7 JL;clear hg hM bG jJ JA EE cR kG nS ej ir d2 d3;go_wp2_with (refine acs (by rfl) 47 (.tmp 2) (.tmp 39) (by rfl) w.heap.size _ rfl rfl 47 _ sG (by exact Tryz.gH) (by rfl) (by simp[Value.oneCell']) ?_);refine aaD (Qd rfl w.heap.size 47 rfl (aec _ _ _ _ _ _ sG) co rfl (by kernel_rfl)) rfl ?_;exact Ay HE (by decide) (aeu cS (aab _) _)
   have ej:st.ts=[]:=by rw[<-nS];exact aaC (by have:=HN.o;omega)
   have HE:Hid (aj.Yy t=.ok m):=by show _=_;rw[QT.o,if_pos ej]
   have JL: ¬((i':Nat):Int)<((n:Nat):Int):=by omega
   have af6:decide (((i':Nat):Int)<((n:Nat):Int))=ce:=aaQ JL;have hwl:=jJ.lt;clear hg hM bG jJ JA EE cR kG nS ej ir;go_wp2_with fail;refine HMX.o.mono ?_;rintro e w6 ⟨v6,rfl,hir,eV⟩;have jg:=zq (Qv cS eV);have QS:Hid (w6.heap[w.heap.size]?=F (O #[A G 0,A G 0,U Z 0 0] 47 (0,0))):=(eV.block w.heap.size (by omega)).trans sG
   obtain⟨vo,vc,rfl⟩:∃vo vc,v6=U vo m.at_.length vc:=by obtain⟨a,c,e,-⟩:=hir.irs;exact⟨a,c,e⟩
   have LV:Hid (∀cs:Array Value,mr (w6.setRow w.heap.size cs) (U vo m.at_.length vc) m.at_):=by intro cs;exact hir _ (by rw[size_setRow];exact aab _) fun q h1 _=>setRow_other _ _ _ _ (by omega)
   clear eV hir d0 d1 d2 d3;go_wp2_with (refine acs (by rfl) 47 (.tmp 2) (.tmp 49) (by rfl) w.heap.size _ rfl rfl 47 _ QS (by exact Tryz.gH) (by rfl) (by simp[Value.oneCell']) ?_);refine aaD (Qd rfl w.heap.size 47 rfl (aec _ _ _ _ _ _ QS) co rfl (by kernel_rfl)) rfl ?_;unfold qG;rw[HE.o];exact⟨aeu jg (aab _) _,HMO,_,rfl,LV.o _⟩
theorem Nh {t:Bytes}(h:aj.Zb t=Z):eT t=Z:=by unfold eT;rw[h]
theorem Qm3 {t:Bytes}{l:List (List Nat)}(h:aj.Zb t=F l):eT t=if iB l then F (l.map Ya) else Z:=by unfold eT;rw[h]
def RcO (n:Nat)(L:List Tok)(w0:World)(lv iv:Value)(wr:World):Prop:=∃(i:Nat) (bc:List Value),iv=A G i/\1<=i/\i<=n/\Ly wr w0.heap.size lv bc (gs L i)/\c9 w0.heap.size w0 wr/\iB (gs L i)
theorem Ly.start (w:World):Ly (w.alloc (O #[] 41)) w.heap.size (U (F ⟨w.heap.size,0,Z⟩) 0 0) [] []:=
 ⟨ab3 w #[] 0 (by omega) (by unfold maxLen;omega) rfl,rfl,fun j sv s h=>by simp at h,fun i j x y h=>by simp at h⟩
theorem Hh (T:ByteArray)(w:World)(jC:T.size<=1048576):Calls de 45 #[ca T] w (Zx T.data.toList w):=by
 have jf:=zq (Cv T w jC);obtain⟨text,xi⟩:=xq T.data.toList
 have HL:Hid (text.length<=1048576):=by show _<=_;rw[xi,<-aa2];exact jC
 rw[<-xi]at jf ⊢;clear jC xi;go_enter Tryz.func45,Tryz.ntmps45;go_wp2_with fail;refine jf.o.mono ?_;rintro e w2 ⟨tv,so,rfl,ho,KY,hb2⟩;obtain⟨b,hb⟩:=xq (Ue text);rw[<-hb];obtain⟨ao,cap,rfl,-,-,-⟩:=Qj ho;obtain⟨n,hn⟩:=xq ((Uk (aM 1 (Qz text))).length);rw[<-hn]at ho ⊢;obtain⟨w3,hw3⟩:=xq (w2.alloc (O #[U ao n cap,A G 0,U Z 0 0,U Z 0 0,U (F ⟨so,0,Z⟩) 1 1,da cl,da ce,A G 0] 116))
 have IX:c9 w2.heap.size w2 w3:=by rw[hw3];exact Qq _ _
 have aV:=zq (Qv hb2 IX);obtain⟨R,hR⟩:=xq w2.heap.size
 cases b with
 |false=>
  have HF:=zq (Nh (Dq hb.symm).2);clear ho hb2 IX hb hn;go_wp2_with fail;go_ret2;rw[<-hw3]
  exact Zx.none HF aV rfl
 |true=>
  obtain⟨L,hTk,sR⟩:=Dz hb.symm;rw[hTk]at hn ho;have hn':n=L.length:=hn
  have ho':w2.ownsRow w.heap.size 119 3 (U ao L.length cap) L.length (Xv L):=by rw[<-hn'];exact ho
  have hwr:=Dx ho' KY;rw[<-hn',<-hw3,<-hR]at hwr;have fO:=zq hwr;have Ic:=zq hTk;have fI:=zq (aaa HL hTk);have HN:=zq hn';have hz2:=hb2.size
  have YY:w.heap.size<=R:=by omega
  obtain⟨x0,x1,-,-,-,bF⟩:=hwr.cells;have HIS:=zq (Rg 0 [123] x0 bF (by omega));rw[aa4]at HIS;have yP:=zq sR;have HRW:=zq YY;clear ho hb2 IX hb hn ho' hn' hwr hTk bF sR KY hz2;go_wp2_with fail;rw[<-hw3,<-hR];clear hw3 hR;go_wp2_with fail;refine HIS.o.mono ?_;rintro e w4 ⟨rfl,hb4⟩;have cC:=zq (Qv aV hb4);have eQ:=zq (fO.o.below hb4)
  cases hm:aj.Qk [123] L with
  |false=>
   have HF:=zq (Nh (aF.Fs Ic hm));clear hm hb4 x0 x1;go_wp2_with fail;go_ret2
   exact Zx.none HF cC rfl
  |true=>
   obtain⟨y0,ja⟩:∃y0:aF.RW,y0=⟨L,[],[],cl,ce,0⟩:=⟨_,rfl⟩;have c1':=eQ.o.cells.2.1;have f1:=eQ.o.iH 1;have br:=eQ.o.lt;have YX:fP (w4.setCell ⟨R,1,Z⟩ (A G 1)) R (U ao n cap) L (0+1) ⟨L,[],[],cl,ce,0⟩:=eQ.o.set 1 (A G 1) (fun _ _ _=>rfl) (ts':=L);have JV:=Qd8 Quq R (U ao n cap) L ((Qz text).length+1) 0 ⟨L,[],[],cl,ce,0⟩ _ YX hm rfl yP (by have:=fI.o.len;omega) fI.o.num (by show 0<=134217728;omega);rw[<-ja]at JV;have LZ:=zq JV;have tW:=zq ja;have cS:Hid (c9 w.heap.size w (w4.setCell ⟨R,1,Z⟩ (A G 1))):=cC.o.setCell (p:=⟨R,1,Z⟩) HRW _;have fA:=zq hm;clear hm hb4 x0 x1 YX JV ja;go_wp2_with fail;refine LZ.o.mono ?_;rintro e w5 ⟨bG,rP⟩;have jg:=zq (cS.o.trans (bG.mono HRW));have hg:=aj.U4 ((Qz text).length+1) (L.length+2) (s:=⟨L,0⟩) (aab _) (aab _)
   have oJ:Hid (nP ((Qz text).length+1) y0=match aj.Xs ((Qz text).length+1) (L.length+2) ⟨L,0⟩ with
     |some (.ok (l,s))=>aF.has y0 (.cpx l) s.ts|some (.error e)=> .error e|none=> .error (0,0)):=by show _=_;rw[tW.o];rfl
   rw[oJ.o]at rP;rcases hM:aj.Xs ((Qz text).length+1) (L.length+2) ⟨L,0⟩ with- |(⟨c,kk⟩|⟨l,st⟩)
   ·rw[hM]at hg
    exact hg.elim
   ·rw[hM]at rP
    obtain⟨a,rfl,-,cZ⟩:=rP;have HF:=zq (Nh (aF.Qxu Ic hM))
    have fU:(((kk:Nat):Int) !=0)=cl:=by simp;omega
    clear hg hM bG cZ;go_wp2_with fail;go_ret2;exact Zx.none HF jg rfl
   rw[hM]at rP;obtain⟨rfl,i',jJ,JA,EE⟩:=rP;have QT:=zq (aF.Qvv Ic hM);obtain⟨d0,d1,-,-,-,bF⟩:=jJ.cells;have nS:L.drop i'=st.ts:=JA;have ua:=jJ.lt;by_cases ir:i'=n
   ·have ej:st.ts=[]:=by
     rw[<-nS];exact aaC (by have:=HN.o;omega)
    have hcg:gs L n=l:=by have h1:=Qqg hM ej;rw[HN.o,Qjd];exact h1
    have QX:Hid (eT text=if iB (gs L n) then F ((gs L n).map Ya) else Z):=by show _=_;rw[hcg];exact Qm3 (by rw[QT.o,if_pos ej])
    have kH: ¬((i':Nat):Int)<((n:Nat):Int):=by omega
    have XN:=fI.o.len;rw[<-HN.o]at XN;have gY:=zq XN;obtain⟨ao',cap',e,-,-,uj⟩:=bF;obtain⟨e1,-,e3⟩:=Value.slice.inj e;subst e1;subst e3;obtain⟨gT,rfl,hgT,ht4⟩:=uj yP;have CW:=zq ht4;have D0:=zq d0;clear hg hM bG jJ JA EE nS ej ir e uj ht4 hcg;obtain⟨wq,ma⟩:=xq w5;have j5:=zq jg.o;have hRq:=ua;have RO:=CW;have DQ:=D0;subst ma;have dS:=zq (Ly.start wq);have OE:=zq (Qq wq (O #[] 41))
    have jq:1<=n:=by have:=yP.o;have:=HN.o;omega
    obtain⟨ki,hki,WT,WU,WW⟩:=aa0 Tryz.df;obtain⟨kl,px,ago,agp,agq⟩:=aa0 Tryz.qV;go_wp2_with fail;rw[show decide (i'<n)=ce from aaQ (by omega)];go_loopw [8,9] (fun lv iv wr=>RcO n L wq lv iv wr) (fun _ iv _=>(n-intOf iv).toNat)
    case atStart=>exact⟨1,[],rfl,aab _,jq,by rw[Qg2];exact dS.o,OE,by rw[Qg2];intro s hs;cases hs⟩
    clear dS OE
    case round=>
     obtain⟨i,bc,rfl,cB,ir,hly,hbl,bm⟩:=hrel;have CK:=zq hly;have aL:=zq hbl;have bS:=zq bm;have rX:=hbl.size;clear hly hbl bm;have d0:wr.cell? ⟨R,0,Z⟩=F (U (F ⟨gT,0,Z⟩) n cap):=(aL.o.cell (p:=⟨R,0,Z⟩) hRq).trans DQ;by_cases hlt:i<n
     ·obtain⟨⟨k,tt,tc⟩,ht⟩:∃t,L[i]?=F t:=⟨_,aad (by rw[<-HN.o];exact hlt)⟩
      obtain⟨⟨k2,tt2,tc2⟩,hu⟩:∃u,L[i-1]?=F u:=⟨_,aad (by rw[<-HN.o];omega)⟩;obtain⟨x0,x1,x2⟩:=RO.o i _ ht;obtain⟨y0,-,-⟩:=RO.o (i-1) _ hu;simp only at x0 x1 x2 y0
      have EA:gT<wq.heap.size:=by omega
      replace x0:=(aL.o.cell (p:=⟨gT,i*3,Z⟩) EA).trans x0;replace x1:=(aL.o.cell (p:=⟨gT,i*3+1,Z⟩) EA).trans x1;replace x2:=(aL.o.cell (p:=⟨gT,i*3+2,Z⟩) EA).trans x2;replace y0:=(aL.o.cell (p:=⟨gT,(i-1)*3,Z⟩) EA).trans y0;have HT:=zq ht;have HU:=zq hu;obtain⟨j,hj⟩:=xq (i-1);rw[<-hj]at y0
      have wG:IntKind.i64.wrap ((i:Int)-1)=(j:Int):=by rw[IntKind.wrap_i64];omega
      have yf:(0:Int)<=(j:Int):=aaJ _
      have mZ:(j:Int)<(n:Int):=by omega
      have HJ:=zq hj;obtain⟨T,hT⟩:=xq (⟨tt.toArray⟩:ByteArray);rw[<-hT]at x1;have HTX:=zq hT;have eG:=Qq wr (O #[A G k,ca T,A G tc] 119);have uC:=zq eG;have d0b:=Qx eG d0;have y0b:=Qx eG y0;have HNB:=zq (aap wr (O #[A G k,ca T,A G tc] 119));clear ht hu hj hT eG;by_cases hk:k=1
      ·have HTW:=zq (fI.o.num _ (aai HT) hk)
       obtain⟨v,hv⟩:=xq (aj.Q7 tt);have HV:=zq hv
       have adj:Hid (∀w1,Calls de 87 #[ca T] w1 fun e w'=> ∃v',e=.returned (.tuple #[v',A G 0])/\bI w1.heap.size w' v' v/\c9 w1.heap.size w1 w'):=fun w1=>by rw[HTX.o,HV.o];exact W8 w1 HTW.o.1 HTW.o.2.1 HTW.o.2.2.1 HTW.o.2.2.2
       have eK:Hid (9223372036854775807<v->eT text=Z):=fun h=>by rw[QX.o,HN.o,Qjd,if_neg (Qdw fA cB HT hk (by rw[<-HV.o];exact h))]
       have iY:=Pe cB HT HU fA;rw[if_pos (show (k,tt,tc).1=1 from hk)]at iY;simp only at iY;rw[<-HV.o]at iY
       have PH:Hid (v<=9223372036854775807->iB (gs L (i+1))):=fun h=>by rw[iY];exact Qyj bS h
       have fU:(((k:Nat):Int) !=1)=ce:=by simp;omega
       have agb:(((k:Nat):Int)==1)=cl:=by simp;omega
       have HK1:=zq hk;clear hv hk;have HQ9:Hid (∃(wz:World) (gg M N ij:Nat) (xs:List Value) (sv:Value) (a:List (List Nat)) (s:List Nat),True):=⟨wr,0,0,0,0,[],da cl,[],[],trivial⟩;clear HQ9;by_cases hk2:k2=1
       case' pos=>
        have ei:(((k2:Nat):Int) !=1)=ce:=by simp;omega
        have agy:(((k2:Nat):Int)==1)=cl:=by simp;omega
        obtain⟨a,s,hgo⟩:=Qbn fA cB HU hk2
        have hka:(k2==1)=cl:=by simp[hk2]
        rw[hgo,hka,Ee]at iY;have FN:=zq iY;have nV:=CK.o.below uC;rw[hgo]at nV;have eW:=nV.len;rw[aag,aaR]at eW
        obtain⟨xs,sv,kq⟩:∃xs sv,bc=xs++[sv]:=by
         rcases bc.eq_nil_or_concat with e|⟨a',d',e⟩
         ·rw[e]at eW;simp at eW
         exact⟨a',d',by rw[e,List.concat_eq_append]⟩
        subst kq;obtain⟨ao8,ij,aS,hn9,hc9,hs9⟩:=Qj nV.own;obtain⟨gg,rfl,-,-,-⟩:=hs9 (by simp);obtain⟨N,hN⟩:=xq ((xs++[sv]).length);rw[<-hN]at aS;subst aS;obtain⟨w9,AO⟩:∃w9,w9=wr.alloc (O #[A G k,ca T,A G tc] 119):=⟨_,rfl⟩
        have yQ:Hid (Ly w9 wq.heap.size (U (F ⟨gg,0,Z⟩) N ij) (xs++[sv]) (a++[s])):=by show Ly _ _ _ _ _;rw[AO];exact nV
        have bx1:w9.cell? ⟨wr.heap.size,1,Z⟩=F (ca T):=by rw[AO];exact(aaj _ _ _ _ _ _ HNB).trans rfl
        have qi:Hid (c9 wq.heap.size wq w9):=by show c9 _ _ _;rw[AO];exact aL.o.trans (uC.o.mono rX)
        have kx:Hid (N=xs.length+1):=by show _=_;rw[hN];simp
        obtain⟨iV,JH⟩:=Qg1 L i;rw[hgo]at iV JH;have KC:=gY.o
        have hN9:N<=1048576:=by rw[hN,eW,<-aaR (a:=s),<-aag];omega
        have agU:s.length<=1048576:=by have:=JH s (by simp);omega
        clear iV JH KC hk2 iY nV eW hn9 hc9 hs9 hN hka hgo;go_wp2_with fail;rw[<-AO];clear AO
       case' neg=>
        have ei:(((k2:Nat):Int) !=1)=cl:=by simp;omega
        have agy:(((k2:Nat):Int)==1)=ce:=by simp;omega
        have hka:(k2==1)=ce:=by simp[hk2]
        rw[hka]at iY;obtain⟨a,ha⟩:=xq (gs L i);obtain⟨s,hs0⟩:=xq ([]:List Nat);obtain⟨xs,hxs⟩:=xq bc
        have FN:Hid (gs L (i+1)=a++[s++[v]]):=by show _=_;rw[iY,ha,hs0];simp[addN]
        obtain⟨iV,-⟩:=Qg1 L i;have hlv:=CK.o.len;obtain⟨nx,gZ⟩:=xq bc.length;have KC:=gY.o
        have aiC:nx<=1048576:=by omega
        have hz1':(wr.alloc (O #[A G k,ca T,A G tc] 119)).heap.size=wr.heap.size+1:=by simp
        have ba1:=Qq (wr.alloc (O #[A G k,ca T,A G tc] 119)) (O #[] 3);have ba2:=Qq ((wr.alloc (O #[A G k,ca T,A G tc] 119)).alloc (O #[] 3)) (O #[U (F ⟨wr.heap.size+1,0,Z⟩) 0 0] 41);have hrow:((wr.alloc (O #[A G k,ca T,A G tc] 119)).alloc (O #[] 3)).ownsRow wq.heap.size 3 1 (U (F ⟨(wr.alloc (O #[A G k,ca T,A G tc] 119)).heap.size,0,Z⟩) 0 0) 0 []:=ab3 _ #[] 0 (by simp;omega) (by unfold maxLen;omega) rfl;rw[hz1']at hrow;have HOLD:Hid (∀q,u8.ownBlock=F q->q<wr.heap.size):=fun q hq=>(CK.o.own.lt q hq).2
        have HELD:Hid (∀(j:Nat) (x:Value),bc[j]?=F x-> ∀q,x.ownBlock=F q->q<wr.heap.size):=fun j x hj q hq=>(aaB (CK.o.el j x _ hj (aad (by rw[<-hlv];exact(aaf.1 hj).1))).1 q hq).2
        obtain⟨wc,hwc⟩:∃wc,wc=((wr.alloc (O #[A G k,ca T,A G tc] 119)).alloc (O #[] 3)).alloc (O #[U (F ⟨wr.heap.size+1,0,Z⟩) 0 0] 41):=⟨_,rfl⟩;have qK:=(uC.o.trans (ba1.mono (by simp))).trans (ba2.mono (by simp;omega));rw[<-hwc]at qK ba2;have HBC:=zq qK;have PQ:=zq (CK.o.below qK)
        have adC:Hid (wc.ownsRow wq.heap.size 3 1 (U (F ⟨wr.heap.size+1,0,Z⟩) 0 0) s.length (Xl s)):=by rw[hs0];exact Qy hrow ba2 (by simp)
        have hBX:wc.heap[wr.heap.size]?=F (O #[A G k,ca T,A G tc] 119 (0,0)):=by rw[hwc];have h1:=((Qq (wr.alloc (O #[A G k,ca T,A G tc] 119)) (O #[] 3)).block wr.heap.size (by simp)).trans HNB;exact((Qq ((wr.alloc (O #[A G k,ca T,A G tc] 119)).alloc (O #[] 3)) _).block wr.heap.size (by simp;omega)).trans h1
        have HBX:=zq hBX
        have QH:Hid (wc.ownsRow wq.heap.size 41 1 u8 nx bc):=by have:=PQ.o.own;rw[<-gZ]at this;exact this
        have hzc:wc.heap.size=wr.heap.size+1+1+1:=by rw[hwc];simp
        rw[hwc]at QH;have RY:=zq hwc;have HZC:=zq hzc;have HA:=zq ha;have oM:=zq hs0;have MT:=zq hxs;have QC:=zq gZ;clear hk2 hka iY ha hs0 hxs iV hlv gZ KC hz1' ba1 ba2 hrow qK hBX hzc hwc;go_wp2_with (at_builtin;refine abk _ rfl _ _ 38 rfl wq.heap.size 41 kl (U Z 0 0) 1 24 Tryz.underlying38 px ago agp agq rfl (by omega) u8 nx bc rfl QH.o ⟨wr.heap.size+1+1,0,Z⟩ 1 1 [U (F ⟨wr.heap.size+1,0,Z⟩) 0 0] rfl rfl (ar.Qg _ _ _ _ (by simp)) (by simp[Value.oneCell']) (by omega) (by unfold maxLen;omega) (by omega) (by simp;omega) (wr.heap.size+1+1+1) (by simp) ?_);intro gg ij w9 bT gD UY jH;rw[<-RY.o]at gD;obtain⟨N,hN⟩:=xq (nx+1);rw[<-hN]at bT ⊢;obtain⟨sv,kq⟩:=xq (U (F ⟨wr.heap.size+1,0,Z⟩) 0 0:Value)
        have nV:=PQ.o.push (sv:=sv) (s:=s) (g:=gg) (cap:=ij) (N:=N) (by rw[kq];exact adC.o)
         (fun q hq h=>by rw[kq]at hq;have h1:wr.heap.size+1=q:=aav hq;have:=HOLD.o q h;omega)
         (fun j x hj q hq h=>by rw[kq]at h;have h1:wr.heap.size+1=q:=aav h;have:=HELD.o j x hj q hq;omega)
         (by rw[kq];exact bT) (by rw[hN,QC.o]) gD (by rw[HZC.o];exact UY)
        rw[<-MT.o,<-HA.o]at nV;have yQ:=zq nV
        have bx1:w9.cell? ⟨wr.heap.size,1,Z⟩=F (ca T):=by have h1:w9.heap[wr.heap.size]?=_:=(gD.block wr.heap.size (by rw[HZC.o];omega) (fun e=>by have:=HOLD.o _ e.symm;omega)).trans HBX;exact(aaj _ _ _ _ _ _ h1).trans rfl
        have I1:=aL.o.trans (HBC.o.mono rX);have qi:Hid (c9 wq.heap.size wq w9):=aaF I1 gD I1.size (fun q hq=>(aaB CK.o.own q hq).1)
        have kx:Hid (N=xs.length+1):=by show _=_;rw[hN,QC.o,MT.o]
        have hN9:N<=1048577:=by omega
        have agU:s.length<=1048576:=by rw[oM.o];simp
        clear bT gD UY jH nV I1 hN kq;go_wp2_with fail
       all_goals
        refine(adj.o _).mono ?_;rintro e eU ⟨v10,rfl,hnf,dw⟩;have HNF:=zq hnf;have mn:=zq dw;clear hnf dw;go_wp2_with fail;refine(Qvp HNF.o.1).mono ?_;rintro e rj ⟨o11,c11,ahz,rfl,KQ,YQ,TJ,pc⟩;have il:=mn.o.trans (pc.mono mn.o.size);have j4:=zq (Qv qi il);have mM:=zq (yQ.o.below il);have hcs:=Qv1 YQ TJ;obtain⟨m11,td⟩:=xq ahz.length;rw[<-td]at KQ ⊢;have QY:=zq KQ;clear KQ YQ TJ pc il bx1;rcases hcs with ⟨h0,hv0⟩|h1|⟨h2,cN⟩
        rotate_right
        ·have gX:(1:Int)<(m11:Int):=by omega
         have pY:=zq (eK.o cN);clear h2 cN td;go_wp2_with fail;go_ret2;exact Zx.none pY (Qv j5 j4) rfl
        ·have nk:m11=0:=by rw[td,h0];rfl
         subst nk;clear td h0
         have Ij:Hid (v<=9223372036854775807):=by show _<=_;omega
         subst hv0;have uw:=zq (Qq rj (O #[A G (0:Nat)] 3));have iu:=mM.o.below uw;obtain⟨so,cG,kq,-,-,-⟩:=Qj (iu.el xs.length sv s (by simp) (by have:=iu.len;simp at this;simp[this])).1;subst kq;obtain⟨ls,JR⟩:=xq s.length;have lH:=(iu.el xs.length (U so s.length cG) s (by simp) (by have:=iu.len;simp at this;simp[this])).1;rw[<-JR]at lH iu mM yQ;have HOW:=zq lH;have nE:=zq iu;have GC:=zq JR;have oH:=zq (j4.o.trans (uw.o.mono j4.o.size));have iw:=mM.o.own;rw[show (xs++[Value.slice so ls cG]).length=N by rw[kx.o];simp]at iw;obtain⟨z1,-,-,-⟩:=Np iw (N-1) (by have:=kx.o;omega)
         have z0:rj.cell? ⟨gg,N-1,Z⟩=F (U so ls cG):=by rw[z1,show N-1=xs.length by have:=kx.o;omega];simp
         have agl:ls<=1048576:=by omega
         have ag4:=j4.o.size
         have hN1:1<=N:=by have:=kx.o;omega
         clear lH iu JR iw z1;go_wp2_with (at_builtin;refine abk _ rfl _ _ 41 rfl wq.heap.size 3 ki (A G 0) 1 8 db hki WT WU WW rfl (by omega) (U so ls cG) ls (Xl s) rfl HOW.o ⟨rj.heap.size,0,Z⟩ 1 1 [A G (0:Nat)] rfl rfl (ar.Qg _ _ _ _ rfl) (by simp[Value.oneCell']) (by omega) (by unfold maxLen;omega) (by omega) (by simp;omega) (rj.heap.size+1) (by simp) ?_);intro g12 iR ur fC dV oZ wJ
         replace fC:ur.ownsRow wq.heap.size 3 1 (U (F ⟨g12,0,Z⟩) (ls+1) iR) (ls+1) (Xl (s++[0])):=by rw[Ka];exact fC
         have UD:(s++[0]).length=ls+1:=by rw[aag,<-GC.o];rfl
         have pz:=nE.o.last kx (sv':=U (F ⟨g12,0,Z⟩) (ls+1) iR) (n:=0) (by rw[UD];exact fC) dV (fun q hq=>by
          cases hq
          rcases oZ with h|h
          ·exact .inl h
          exact .inr (by rw[h];simp))
         have nU:=(nE.o.grow (k:=xs.length) (sv:=U so ls cG) (by simp) dV (nE.o.el xs.length (U so ls cG) s (by simp) (by have:=nE.o.len;simp at this;simp[this])).2).1;rw[show (xs++[Value.slice so ls cG]).length=N by rw[kx.o];simp]at nU;obtain⟨q1,q2,q3,q4⟩:=Np nU (N-1) (by have:=kx.o;omega)
         have IM:N-1=xs.length:=by have:=kx.o;omega
         have q1':ur.cell? ⟨gg,N-1,Z⟩=F (U so ls cG):=by rw[q1,IM];simp
         have gw:c9 wq.heap.size wq ur:=aaF oH dV oH.o.size (fun q hq=>(aaB HOW q hq).1)
         have kV:Hid (RcO n L wq (U (F ⟨gg,0,Z⟩) N ij) (A G ((i:Int)+1)) (ur.setCell ⟨gg,N-1,Z⟩ (U (F ⟨g12,0,Z⟩) (ls+1) iR))):=
          ⟨i+1,xs++[U (F ⟨g12,0,Z⟩) (ls+1) iR],by go_num,by omega,by omega,by rw[FN.o,IM];exact pz,gw.setCell (p:=⟨gg,N-1,Z⟩) q3 _,PH.o (by have:=Ij.o;omega)⟩
         clear fC dV oZ wJ pz nU q1 q3 q4 IM gw UD;go_wp2_with fail;have aq:=kV.o
         exact⟨aq,by simp[intOf]<;>omega⟩
        subst h1;have cD:m11=1:=td;subst cD;obtain⟨ao',cap',e,-,-,-,aS⟩:=QY.o.2;obtain⟨g8,o8,hao,c8⟩:=aS 0 v rfl;obtain⟨e1,-,e3⟩:=Value.slice.inj e;subst e1;subst e3;subst hao;rw[aba]at c8;clear e aS td;by_cases cN:9223372036854775807<v
        ·have l9:(9223372036854775807:Int)<(v:Int):=by omega
         have pY:=zq (eK.o cN);clear cN;go_wp2_with fail;go_ret2;exact Zx.none pY (Qv j5 j4) rfl
        have l9: ¬(9223372036854775807:Int)<(v:Int):=by omega
        have ZH:IntKind.i64.wrap (v:Int)=(v:Int):=by rw[IntKind.wrap_i64];omega
        have Ij:Hid (v<=9223372036854775807):=by show _<=_;omega
        clear cN;have uw:=zq (Qq rj (O #[A G v] 3));have iu:=mM.o.below uw;obtain⟨so,cG,kq,-,-,-⟩:=Qj (iu.el xs.length sv s (by simp) (by have:=iu.len;simp at this;simp[this])).1;subst kq;obtain⟨ls,JR⟩:=xq s.length;have lH:=(iu.el xs.length (U so s.length cG) s (by simp) (by have:=iu.len;simp at this;simp[this])).1;rw[<-JR]at lH iu mM yQ;have HOW:=zq lH;have nE:=zq iu;have GC:=zq JR;have oH:=zq (j4.o.trans (uw.o.mono j4.o.size));have iw:=mM.o.own;rw[show (xs++[Value.slice so ls cG]).length=N by rw[kx.o];simp]at iw;obtain⟨z1,-,-,-⟩:=Np iw (N-1) (by have:=kx.o;omega)
        have z0:rj.cell? ⟨gg,N-1,Z⟩=F (U so ls cG):=by rw[z1,show N-1=xs.length by have:=kx.o;omega];simp
        have agl:ls<=1048576:=by omega
        have ag4:=j4.o.size
        have hN1:1<=N:=by have:=kx.o;omega
        clear lH iu JR iw z1;go_wp2_with (at_builtin;refine abk _ rfl _ _ 41 rfl wq.heap.size 3 ki (A G 0) 1 8 db hki WT WU WW rfl (by omega) (U so ls cG) ls (Xl s) rfl HOW.o ⟨rj.heap.size,0,Z⟩ 1 1 [A G v] rfl rfl (ar.Qg _ _ _ _ rfl) (by simp[Value.oneCell']) (by omega) (by unfold maxLen;omega) (by omega) (by simp;omega) (rj.heap.size+1) (by simp) ?_);intro g12 iR ur fC dV oZ wJ
        replace fC:ur.ownsRow wq.heap.size 3 1 (U (F ⟨g12,0,Z⟩) (ls+1) iR) (ls+1) (Xl (s++[v])):=by rw[Ka];exact fC
        have UD:(s++[v]).length=ls+1:=by rw[aag,<-GC.o];rfl
        have pz:=nE.o.last kx (sv':=U (F ⟨g12,0,Z⟩) (ls+1) iR) (n:=v) (by rw[UD];exact fC) dV (fun q hq=>by
         cases hq
         rcases oZ with h|h
         ·exact .inl h
         exact .inr (by rw[h];simp))
        have nU:=(nE.o.grow (k:=xs.length) (sv:=U so ls cG) (by simp) dV (nE.o.el xs.length (U so ls cG) s (by simp) (by have:=nE.o.len;simp at this;simp[this])).2).1;rw[show (xs++[Value.slice so ls cG]).length=N by rw[kx.o];simp]at nU;obtain⟨q1,q2,q3,q4⟩:=Np nU (N-1) (by have:=kx.o;omega)
        have IM:N-1=xs.length:=by have:=kx.o;omega
        have q1':ur.cell? ⟨gg,N-1,Z⟩=F (U so ls cG):=by rw[q1,IM];simp
        have gw:c9 wq.heap.size wq ur:=aaF oH dV oH.o.size (fun q hq=>(aaB HOW q hq).1)
        have kV:Hid (RcO n L wq (U (F ⟨gg,0,Z⟩) N ij) (A G ((i:Int)+1)) (ur.setCell ⟨gg,N-1,Z⟩ (U (F ⟨g12,0,Z⟩) (ls+1) iR))):=
         ⟨i+1,xs++[U (F ⟨g12,0,Z⟩) (ls+1) iR],by go_num,by omega,by omega,by rw[FN.o,IM];exact pz,gw.setCell (p:=⟨gg,N-1,Z⟩) q3 _,PH.o (by have:=Ij.o;omega)⟩
        clear fC dV oZ wJ pz nU q1 q3 q4 IM gw UD;go_wp2_with fail;have aq:=kV.o
        exact⟨aq,by simp[intOf]<;>omega⟩
      have iY:=Pe cB HT HU fA;simp only[hk,adq]at iY
      have fU:(((k:Nat):Int)==1)=ce:=by simp;omega
      have agb:(((k:Nat):Int) !=1)=cl:=by simp;omega
      have RM:=zq iY
      have kV:Hid (RcO n L wq u8 (A G ((i:Int)+1)) (wr.alloc (O #[A G k,ca T,A G tc] 119))):=
       ⟨i+1,bc,by go_num,by omega,by omega,by rw[RM.o];exact CK.o.below uC,aL.o.trans (uC.o.mono rX),by rw[RM.o];exact bS.o⟩
      clear iY y0 y0b;go_wp2_with fail;have aq:=kV.o
      exact⟨aq,by simp[intOf]<;>omega⟩
     have dD:i=n:=by omega
     have eX:Hid (eT text=F ((gs L i).map Ya)):=by show _=_;rw[QX.o,<-dD,if_pos bS.o]
     clear dD;go_wp2_with fail;go_ret2;exact Zx.some eX (Qv j5 aL) _ rfl CK.o.TH
   have ej:st.ts≠[]:=by rw[<-nS];intro h;rw[acr]at h;have:=HN.o;omega
   have HF:=zq (Nh (by rw[QT.o,if_neg ej]))
   have iq:((i':Nat):Int)<((n:Nat):Int):=by have:=HN.o;omega
   clear hg hM bG jJ JA EE nS ej ir bF;go_wp2_with fail;go_ret2;exact Zx.none HF jg rfl
end Go.Proofs.YtgfmiladfeoldaaGreatDoor
