import Derived.Test.YtgfmiladfeoldaaGreatDoorPk8
import Derived.Test.YtgfmiladfeoldaaGreatDoorPk9
import Derived.Test.YtgfmiladfeoldaaGreatDoorPk10
set_option linter.unusedSimpArgs false
set_option linter.unusedVariables false
set_option maxRecDepth 100000
set_option maxHeartbeats 16000000
open Go.Proofs.Tryz
open Option renaming some->F,none->Z
open Go.Value renaming slice->U,bool->ca,int->A,string->cl,tuple->dj,agg->dk
open Go.Obj renaming cells->O
open Bool renaming false->ce
open Go.IntKind renaming i64->G
open Go.Ending renaming returned->co
open Go.RowKit renaming Below->c9
open Go.Proofs.Tryz renaming prog->da,underlying105->dl,ntmps68->du,ntmps34->ef
open Go renaming World->db,Value->de,Calls->dq
namespace Go.Proofs.YtgfmiladfeoldaaGreatDoor
open ar
def pX (l:List (Bool×Nat)):Nat:=(l.map fun x=>(aj.aA x.2).length).sum
variable {B B' n:Nat} {cs:List (Bool×de)} {l:List (Bool×Nat)} {rv v:de} {w w':db} {xs:List Nat}
theorem Qx8:∀R:List (List Bytes),((R.map (aj.Ql [32])).map List.length).sum<=(R.flatten.map List.length).sum+R.flatten.length
 | []=>aat _
 |a::R=>by have h1:=Qx8 R;have h:=Mf [32] a;have E:([32]:Bytes).length=1:=rfl;rw[E,abZ]at h;simp only[abq,adV,adS,abl,List.sum_append,aag];omega
theorem Qq0:∀l:List (Bool×Nat),((l.map aj.bR).map List.length).sum<=pX l+l.length
 | []=>aat _
 |x::l=>by
  have h1:=Qq0 l
  have h:(aj.bR x).length<=(aj.aA x.2).length+1:=by
   unfold aj.bR;rw[aag]
   split<;>simp<;>omega
  have e1:pX (x::l)=(aj.aA x.2).length+pX l:=by simp[pX]
  rw[e1,abq,abq,adV,aaq];omega
theorem Rz (h:n<=64):(aj.aA n).length<=2:=by
 unfold aj.aA;split
 ·simp
 rw[aas];exact aw.V9 (by omega)
theorem Qmv {m:aj.ey}(h:aj.Ky m):(aj.fj m).length<=pX m.at_+8400:=by
 unfold aj.fj;obtain⟨E,H,J,-⟩:=h;split
 ·have:=Rz E
  have:=Rz H;simp only[aag,aaq,aa5];omega
 have I:(m.at_.map aj.bR).length=m.rows*m.aW:=by rw[aas,J]
 obtain⟨k1,k2⟩:=aj.Vv m.aW m.rows _ I;have k3:=Qx8 (aj.Xd m.aW m.rows (m.at_.map aj.bR));rw[k2,I]at k3;have k4:=Qq0 m.at_;have k5:=Mf [59,32] ((aj.Xd m.aW m.rows (m.at_.map aj.bR)).map (aj.Ql [32]))
 have k6:(aj.Xd m.aW m.rows (m.at_.map aj.bR)).length=m.rows:=by have:=aaE List.length k1;rw[aas,aaZ]at this;exact this
 have K:([59,32]:Bytes).length=2:=rfl;rw[aas,k6,K]at k5;have bi:m.rows*m.aW<=64*64:=aa3 E H;simp only[aag,aaq,aa5];omega
open Go.RowKit aw
def Yh (B:Nat)(w:db)(cs:List (Bool×de))(l:List (Bool×Nat)):Prop:=
 cs.length=l.length/\ ∀(j:Nat) (c:Bool×de) (p:Bool×Nat),cs[j]?=F c->l[j]?=F p->c.1=p.1/\bI B w c.2 p.2
theorem Yh.nil (B:Nat)(w:db):Yh B w [] []:=⟨rfl,fun j c p h=>by simp at h⟩
theorem Yh.app {a b:List (Bool×de)}{m:List (Bool×Nat)}(h:Yh B w a l)(k:Yh B w b m):Yh B w (a++b) (l++m):=by
 refine⟨by rw[aag,aag,h.1,k.1],fun j c p hc hp=> ?_⟩;by_cases hj:j<a.length
 ·rw[aaH hj]at hc
  rw[aaH (by rw[<-h.1];exact hj)]at hp;exact h.2 j c p hc hp
 rw[aaK (by omega)]at hc;rw[aaK (by rw[<-h.1];omega),<-h.1]at hp;exact k.2 _ c p hc hp
theorem bI.blk (h:bI B w v n)(hB:B'<=B)(hz:w.heap.size<=w'.heap.size)(hb:∀q,v.ownBlock=F q->w'.heap[q]?=w.heap[q]?):bI B' w' v n:=by obtain⟨⟨xs,I,J,K⟩,H,bi⟩:=h;refine⟨⟨xs,?_,J,K⟩,fun q hq=>⟨aar hB (H q hq).1,aal (H q hq).2 hz⟩,bi⟩;obtain⟨k0,ao,E,rfl,k1,k2,k3,k4⟩:=I;refine⟨fun k hk=>aal (k0 k hk) hz,ao,E,rfl,k1,k2,k3,fun i x hx=> ?_⟩;obtain⟨g,o,rfl,T⟩:=k4 i x hx;exact⟨g,o,rfl,(abe (hb g rfl)).trans T⟩
theorem Yh.blk (h:Yh B w cs l)(hB:B'<=B)(hz:w.heap.size<=w'.heap.size)(hb:∀q c,c∈cs->c.2.ownBlock=F q->w'.heap[q]?=w.heap[q]?):Yh B' w' cs l:=
 ⟨h.1,fun j c p hc hp=>⟨(h.2 j c p hc hp).1,(h.2 j c p hc hp).2.blk hB hz fun q hq=>hb q c (aai hc) hq⟩⟩
abbrev cH:=de×List (Bool×de)×List (Bool×Nat)
structure Mt (w:db) (B:Nat) (rv:de) (rs:List cH):Prop where
 own:w.ownsRow B 45 1 rv rs.length (rs.map Prod.fst)
 row:∀r∈rs,w.ownsRow B 62 2 r.1 r.2.1.length (Q9 r.2.1)/\Yh B w r.2.1 r.2.2
 zg:∀r∈rs,∀q,r.1.ownBlock=F q->rv.ownBlock≠F q
 DG:∀r∈rs,∀c∈r.2.1,∀q,c.2.ownBlock=F q->rv.ownBlock≠F q/\ ∀r'∈rs,r'.1.ownBlock≠F q
 ap:∀(i j:Nat) (r s:cH) (q:Nat),rs[i]?=F r->rs[j]?=F s->r.1.ownBlock=F q->s.1.ownBlock=F q->i=j
theorem Zv {e:TypeId}{z:Nat}{xs:List de}(h:w.ownsRow B e z v n xs)(hB:B'<=B)(hb:∀q,v.ownBlock=F q->w'.heap[q]?=w.heap[q]?):w'.ownsRow B' e z v n xs:=by
 refine⟨h.1,?_⟩;rcases h.2 with bi|⟨g,H,I,rfl,J,K,E⟩
 ·exact .inl bi
 exact .inr ⟨g,H,I,rfl,aar hB J,(hb g rfl).trans K,E⟩
theorem Yh.own (h:Yh B w cs l){c:Bool×de}(hc:c∈cs){q:Nat}(hq:c.2.ownBlock=F q):B<=q/\q<w.heap.size:=by obtain⟨j,E⟩:=acd hc;have H:=(aaf.1 E).1;obtain⟨p,I⟩:∃p,l[j]?=F p:=⟨_,aad (by rw[<-h.1];exact H)⟩;exact(h.2 j c p E I).2.2.1 q hq
theorem Mt.keep {rs:List cH}(h:Mt w B rv rs)(hz:w.heap.size<=w'.heap.size)(hb:∀q,B<=q->q<w.heap.size->w'.heap[q]?=w.heap[q]?):Mt w' B rv rs where
 own:=Zv h.own (aab _) fun q hq=>hb q (h.own.lt q hq).1 (h.own.lt q hq).2
 row:=fun r hr=>⟨Zv (h.row r hr).1 (aab _) fun q hq=>hb q ((h.row r hr).1.lt q hq).1 ((h.row r hr).1.lt q hq).2,(h.row r hr).2.blk (aab _) hz fun q c hc hq=>hb q ((h.row r hr).2.own hc hq).1 ((h.row r hr).2.own hc hq).2⟩
 zg:=h.zg
 DG:=h.DG
 ap:=h.ap
theorem Mt.wr {R:Nat}{rs:List cH}(h:Mt w B rv rs)(hw:Wr R Z w w')(hR:R<B):Mt w' B rv rs:=
 h.keep hw.size fun q h1 h2=>hw.block q h2 (by omega) (by simp)
theorem Mt.push {w1 w2:db}{lv oh:de}{rs:List cH}(h:Mt w B rv (rs++[(lv,cs,l)])){neg:Bool}{m:de}{k:Nat}(hm:bI B w m k)
  (hd:∀q,m.ownBlock=F q->rv.ownBlock≠F q/\ ∀r∈rs++[(lv,cs,l)],r.1.ownBlock≠F q)
  (hown:w1.ownsRow B 62 2 oh (cs.length+1) (Q9 cs++[ca neg,m])) (hg:w.grownBy w1 lv.ownBlock) (hat:∀q,oh.ownBlock=F q->lv.ownBlock=F q\/w.heap.size<=q)
  {gr:Nat} (hgr:rv.ownBlock=F gr) (hw2:w2=w1.setCell ⟨gr,rs.length,Z⟩ oh)
  (hrow:w2.ownsRow B 45 1 rv (rs.length+1) (rs.map Prod.fst++[oh])):
  Mt w2 B rv (rs++[(oh,cs++[(neg,m)],l++[(neg,k)])]):=by
 have hz:w.heap.size<=w2.heap.size:=by rw[hw2];simpa [World.setCell] using hg.size
 have I:(lv,cs,l)∈rs++[(lv,cs,l)]:=by simp
 have a9:∀q,lv.ownBlock=F q->q≠gr:=fun q E e=>by rw[e]at E;exact h.zg _ I _ E hgr
 have hb:∀q,q<w.heap.size->q≠gr->lv.ownBlock≠F q->w2.heap[q]?=w.heap[q]? :=by intro q E am hl;rw[hw2];exact(aaN w1 ⟨gr,rs.length,Z⟩ q oh am).trans (hg.block q E (fun e=>hl e.symm))
 have ad:gr<w.heap.size:=(h.own.lt gr hgr).2
 have a6:∀q,oh.ownBlock=F q->q≠gr:=fun q E e=>by
  rcases hat q E with bi|bi
  ·exact a9 q bi e
  omega
 have J:∀r∈rs,r∈rs++[(lv,cs,l)]:=fun r H=>List.mem_append_left _ H
 have am:∀r∈rs,∀q,r.1.ownBlock=F q->lv.ownBlock≠F q:=by intro r H q E e;obtain⟨i,T⟩:=acd H;have aa:=(aaf.1 T).1;have:=h.ap i rs.length r (lv,cs,l) q (by rw[aaH aa];exact T) (by rw[aaK (aab _),Nat.sub_self];rfl) E e;omega
 have aE:∀r,r∈rs++[(oh,cs++[(neg,m)],l++[(neg,k)])]->r∈rs\/r=(oh,cs++[(neg,m)],l++[(neg,k)]):=fun r H=>by
  rcases aaP.1 H with bi|bi
  ·exact .inl bi
  exact .inr (aaO.1 bi)
 have a0:∀q,q<w.heap.size->lv.ownBlock≠F q->oh.ownBlock≠F q:=fun q E hl e=>by
  rcases hat q e with bi|bi
  ·exact hl bi
  omega
 have a7:∀q,m.ownBlock=F q->q<w.heap.size:=fun q E=>(hm.2.1 q E).2;have ab:bI B w2 m k:=hm.blk (aab _) hz fun q E=>hb q (a7 q E) (fun e=>(hd q E).1 (by rw[e];exact hgr)) ((hd q E).2 _ I);refine⟨?_,?_,?_,?_,?_⟩
 ·rw[abl,aag];exact hrow
 ·intro r H
  rcases aE r H with H|rfl
  ·have bi:=h.row r (J r H)
   refine⟨Zv bi.1 (aab _) fun q E=>hb q (bi.1.lt q E).2 (fun e=>by rw[e]at E;exact h.zg r (J r H) _ E hgr) (am r H q E),bi.2.blk (aab _) hz fun q c K E=> ?_⟩;obtain⟨a,b⟩:=h.DG r (J r H) c K q E;exact hb q (bi.2.own K E).2 (fun e=>a (by rw[e];exact hgr)) (b _ I)
  have bi:=h.row _ I;refine⟨?_,Yh.app (bi.2.blk (aab _) hz fun q c K E=> ?_) ⟨rfl,fun j c p K hp=> ?_⟩⟩
  ·refine Zv (B:=B) (w:=w1) ?_ (aab _) fun q E=>by rw[hw2];exact aaN w1 ⟨gr,rs.length,Z⟩ q oh (a6 q E)
   show World.ownsRow _ _ _ _ _ _ _;simp only[aag,aaR,Rt];exact hown
  ·obtain⟨a,b⟩:=h.DG _ I c K q E
   exact hb q (bi.2.own K E).2 (fun e=>a (by rw[e];exact hgr)) (b _ I)
  cases j with
  |zero=>simp at K hp;subst K;subst hp;exact⟨rfl,ab⟩
  |succ j=>simp at K
 ·intro r H q E
  rcases aE r H with H|rfl
  ·exact h.zg r (J r H) q E
  intro e;rw[hgr]at e;exact a6 q E (aav e).symm
 ·intro r H c K q E
  have ac:q<w.heap.size/\rv.ownBlock≠F q/\ ∀r'∈rs++[(lv,cs,l)],r'.1.ownBlock≠F q:=by
   rcases aE r H with H|rfl
   ·exact⟨((h.row r (J r H)).2.own K E).2,h.DG r (J r H) c K q E⟩
   rcases aaP.1 K with K|K
   ·exact⟨((h.row _ I).2.own K E).2,h.DG _ I c K q E⟩
   rw[aaO.1 K]at E;exact⟨a7 q E,hd q E⟩
  obtain⟨k1,k2,k3⟩:=ac;refine⟨k2,fun r' a3=> ?_⟩;rcases aE r' a3 with a3|rfl
  ·exact k3 r' (J r' a3)
  exact a0 q k1 (k3 _ I)
 intro i j r s q T hj H hs
 have a1:∀(i:Nat) (r:cH),(rs++[(oh,cs++[(neg,m)],l++[(neg,k)])])[i]?=F r->(i<rs.length/\rs[i]?=F r)\/(i=rs.length/\r=(oh,cs++[(neg,m)],l++[(neg,k)])):=by
  intro i r T;by_cases hl:i<rs.length
  ·rw[aaH hl]at T;exact .inl ⟨hl,T⟩
  rw[aaK (by omega)]at T;have:=(aaf.1 T).1;simp at this
  have e:i=rs.length:=by omega
  rw[e,Nat.sub_self]at T;exact .inr ⟨e,(aav T).symm⟩
 rcases a1 i r T with ⟨i1,i2⟩|⟨rfl,rfl⟩<;>rcases a1 j s hj with ⟨j1,j2⟩|⟨rfl,rfl⟩
 ·exact h.ap i j r s q (by rw[aaH i1];exact i2) (by rw[aaH j1];exact j2) H hs
 ·exact absurd hs (a0 q ((h.row r (J r (aai i2))).1.lt q H).2 (am r (aai i2) q H))
 ·exact absurd H (a0 q ((h.row s (J s (aai j2))).1.lt q hs).2 (am s (aai j2) q hs))
 rfl
theorem Mt.new {w1 w2:db}{Ov:de}{rs:List cH}(h:Mt w B rv rs)(hB:B<=w.heap.size)(bA:w1=w.alloc (O #[] 62))(hg:w1.grownBy w2 rv.ownBlock)
  (hown:w2.ownsRow B 45 1 Ov (rs.length+1) (rs.map Prod.fst++[U (F ⟨w.heap.size,0,Z⟩) 0 0])) (hat:∀q,Ov.ownBlock=F q->rv.ownBlock=F q\/w1.heap.size<=q):
  Mt w2 B Ov (rs++[(U (F ⟨w.heap.size,0,Z⟩) 0 0,[],[])]):=by
 have am:=Qq w (O #[] 62);rw[<-bA]at am
 have a7:w1.heap.size=w.heap.size+1:=by rw[bA];simp
 have hz:w.heap.size<=w2.heap.size:=aar am.size hg.size
 have hb:∀q,q<w.heap.size->rv.ownBlock≠F q->w2.heap[q]?=w.heap[q]? :=fun q H T=>(hg.block q (by omega) (fun e=>T e.symm)).trans (am.block q H)
 have a1:∀q,rv.ownBlock=F q->q<w.heap.size:=fun q H=>(h.own.lt q H).2
 have T:∀q,q<w.heap.size->rv.ownBlock≠F q->Ov.ownBlock≠F q:=fun q H hn e=>by
  rcases hat q e with I|I
  ·exact hn I
  omega
 have J:∀r,r∈rs++[((U (F ⟨w.heap.size,0,Z⟩) 0 0,[],[]):cH)]->r∈rs\/r=(U (F ⟨w.heap.size,0,Z⟩) 0 0,[],[]):=fun r E=>by
  rcases aaP.1 E with I|I
  ·exact .inl I
  exact .inr (aaO.1 I)
 refine⟨?_,?_,?_,?_,?_⟩
 ·rw[abl,aag];exact hown
 ·intro r E
  rcases J r E with E|rfl
  ·have I:=h.row r E
   exact⟨Zv I.1 (aab _) fun q H=>hb q (I.1.lt q H).2 (h.zg r E q H),I.2.blk (aab _) hz fun q c aE H=>hb q (I.2.own aE H).2 (h.DG r E c aE q H).1⟩
  refine⟨?_,Yh.nil _ _⟩
  have I:w1.ownsRow B 62 2 (U (F ⟨w.heap.size,0,Z⟩) 0 0) 0 []:=by rw[bA];exact ab3 w #[] 0 hB (by unfold maxLen;omega) rfl
  exact Zv I (aab _) fun q H=>by have e0:w.heap.size=q:=aav H;subst e0;exact hg.block _ (by omega) (fun e=>by have:=a1 _ e.symm;omega)
 ·intro r E q H
  rcases J r E with E|rfl
  ·exact T q ((h.row r E).1.lt q H).2 (h.zg r E q H)
  have e0:w.heap.size=q:=aav H;subst e0;intro e;rcases hat _ e with I|I
  ·have:=a1 _ I;omega
  omega
 ·intro r E c aE q H
  rcases J r E with E|rfl
  ·obtain⟨a,b⟩:=h.DG r E c aE q H
   have a4:=((h.row r E).2.own aE H).2;refine⟨T q a4 a,fun r' a0=> ?_⟩;rcases J r' a0 with a0|rfl
   ·exact b r' a0
   intro e;have e0:w.heap.size=q:=aav e;omega
  cases aE
 intro i j r s q K hj E hs
 have bi:∀(i:Nat) (r:cH),(rs++[((U (F ⟨w.heap.size,0,Z⟩) 0 0,[],[]):cH)])[i]?=F r->(i<rs.length/\rs[i]?=F r)\/(i=rs.length/\r=(U (F ⟨w.heap.size,0,Z⟩) 0 0,[],[])):=by
  intro i r K;by_cases hl:i<rs.length
  ·rw[aaH hl]at K;exact .inl ⟨hl,K⟩
  rw[aaK (by omega)]at K;have:=(aaf.1 K).1;simp at this
  have e:i=rs.length:=by omega
  rw[e,Nat.sub_self]at K;exact .inr ⟨e,(aav K).symm⟩
 rcases bi i r K with ⟨i1,i2⟩|⟨rfl,rfl⟩<;>rcases bi j s hj with ⟨j1,j2⟩|⟨rfl,rfl⟩
 ·exact h.ap i j r s q i2 j2 E hs
 ·have e0:w.heap.size=q:=aav hs
  have:=((h.row r (aai i2)).1.lt _ E).2;omega
 ·have e0:w.heap.size=q:=aav E
  have:=((h.row s (aai j2)).1.lt _ hs).2;omega
 rfl
theorem Mt.one (w:db)(B:Nat)(hB:B<=w.heap.size):Mt ((w.alloc (O #[] 62)).alloc (O #[U (F ⟨w.heap.size,0,Z⟩) 0 0] 45)) B (U (F ⟨w.heap.size+1,0,Z⟩) 1 1) [(U (F ⟨w.heap.size,0,Z⟩) 0 0,[],[])]:=by
 have E:(w.alloc (O #[] 62)).heap.size=w.heap.size+1:=by simp
 refine⟨?_,?_,?_,?_,?_⟩
 ·have:=ab3 (base:=B) (e:=45) (size:=1) (w.alloc (O #[] 62)) #[U (F ⟨w.heap.size,0,Z⟩) 0 0] 1 (by omega) (by unfold maxLen;omega) rfl
  rw[E]at this;exact this
 ·intro r h
  obtain rfl:=aaO.1 h;exact⟨(ab3 (base:=B) (e:=62) (size:=2) w #[] 0 hB (by unfold maxLen;omega) rfl).alloc _,Yh.nil _ _⟩
 ·intro r h q T
  obtain rfl:=aaO.1 h;have e0:w.heap.size=q:=aav T;intro e;have:w.heap.size+1=q:=aav e;omega
 ·intro r h c J
  obtain rfl:=aaO.1 h
  cases J
 intro i j r s q K bi _ _;have H:=(aaf.1 K).1;have I:=(aaf.1 bi).1;simp at H I;omega
theorem Yh.ird (h:Yh B w cs l)(ho:w.ownsRow B 62 2 v cs.length (Q9 cs)):DD w v l:=by obtain⟨ao,H,rfl,a1,a2,a3⟩:=Qj ho;refine⟨ao,H,by rw[h.1],by rw[<-h.1];exact a1,a2,fun h0=> ?_⟩;obtain⟨g,rfl,-,b2,b3⟩:=a3 (by rw[h.1];exact h0);refine⟨g,0,rfl,b2,fun j p hj=> ?_⟩;have I:=(aaf.1 hj).1;obtain⟨c,E⟩:∃c,cs[j]?=F c:=⟨_,aad (by rw[h.1];exact I)⟩;obtain⟨e1,⟨xs,x1,x2,x3⟩,-,-⟩:=h.2 j c p E hj;obtain⟨c1,c2⟩:=Mh cs j c E;have J:=(aaf.1 E).1;rw[aaX];exact⟨c.2,xs,by rw[b3 _ (by omega),c1,e1],by rw[b3 _ (by omega)];exact c2,x1,x2,x3⟩
theorem qI (a b:Nat):bY a b= -1\/bY a b=0\/bY a b=1:=by
 unfold bY;split
 ·exact .inl rfl
 split
 ·exact .inr (.inr rfl)
 exact .inr (.inl rfl)
theorem Dm {a b:Nat}:bY a b=0↔a=b:=by
 unfold bY;split
 ·constructor
  ·intro h;cases h
  intro h;omega
 split
 ·constructor
  ·intro h;cases h
  intro h;omega
 constructor
 ·intro _;omega
 intro _;rfl
theorem Qzv (hv:Rd w v xs)(hl:xs.length<=1099511627776)(h:Ym ce (val xs)=1):dq da 121 #[dk #[ca ce,v]] w fun e w'=>e=co (A G 1)/\c9 w.heap.size w w':=by have:=Ur ce hv hl;rw[h]at this;exact this
theorem Qgz {u:de}{ys:List Nat}(hv:Rd w v xs)(hu:Rd w u ys)(hl:xs.length<=274877906944)(hl2:ys.length<=274877906944)(h0:val xs≠0)(h1:val ys≠0):dq da 125 #[dk #[ca ce,v],dk #[ca ce,u]] w fun e w'=>e=co (A G (bY (val xs) (val ys)))/\c9 w.heap.size w w':=by
 have HV:=zq hv;have HU:=zq hu;have H0:=zq (Us h0);have H1:=zq (Us h1);obtain⟨ao,cap,rfl,-,-,-,-⟩:=hv.2;obtain⟨bo,bn,rfl,-,-,-,-⟩:=hu.2;obtain⟨c,hc⟩:=xq (bY (val xs) (val ys))
 have hcr:wrap64 c=c:=by
  rcases qI (val xs) (val ys) with h|h|h<;>(rw[hc,h];exact IntWalk.wrap64_in _ (by omega))
 have HC:=zq hc;have HCR:=zq hcr;clear hcr;clear hv hu h0 h1 hc;have mm:=zq (Qq w (O #[ca ce,U ao xs.length cap] 62));have fy:=zq (mm.o.trans ((Qq (w.alloc (O #[ca ce,U ao xs.length cap] 62)) (O #[ca ce,U bo ys.length bn] 62)).mono mm.o.size));obtain⟨w0,hw0⟩:=xq ((w.alloc (O #[ca ce,U ao xs.length cap] 62)).alloc (O #[ca ce,U bo ys.length bn] 62))
 have b0:w0.heap[w.heap.size]?=F (O #[ca ce,U ao xs.length cap] 62 (0,0)):=by rw[hw0];exact((Qq (w.alloc (O #[ca ce,U ao xs.length cap] 62)) _).block w.heap.size (by simp)).trans (aap w _)
 have b1:w0.heap[w.heap.size+1]?=F (O #[ca ce,U bo ys.length bn] 62 (0,0)):=by rw[hw0];have:=aap (w.alloc (O #[ca ce,U ao xs.length cap] 62)) (O #[ca ce,U bo ys.length bn] 62);rw[aaV]at this;exact this
 rw[<-hw0]at fy;obtain⟨g,hg⟩:=xq w.heap.size;rw[<-hg]at b0 b1;have HG:=zq hg;have kz:=zq hw0;have B0:=zq b0;have B1:=zq b1;have hsz:g+1<w0.heap.size:=(aah.1 b1).1;have vp:=zq (HV.o.below fy);have RQ:=zq (HU.o.below fy);clear b0 b1 hg hw0;go_enter func125,ntmps125;go_wp2_with fail;rw[<-kz.o,<-HG.o];obtain⟨c0,c1,-,-⟩:=Qb B0;obtain⟨c10,c11,-,-⟩:=Qb B1;have HVD:=zq (vp.o.below (aaw w0.heap.size w0).drew);have HUD:=zq (RQ.o.below (aaw w0.heap.size w0).drew)
 have cD:xs.length<=1099511627776:=by omega
 have gX:ys.length<=1099511627776:=by omega
 go_region_held3 (fun w'=>w'.cell? ⟨g,0,Z⟩=F (ca ce)/\w'.cell? ⟨g,1,Z⟩=F (U ao xs.length cap)/\w'.cell? ⟨g+1,0,Z⟩=F (ca ce)/\w'.cell? ⟨g+1,1,Z⟩=F (U bo ys.length bn))
  (first
   |go_keep
   |exact⟨Qx b2 (Qx b1 c0),Qx b2 (Qx b1 c1),Qx b2 (Qx b1 c10),Qx b2 (Qx b1 c11)⟩
   |exact⟨Qx b1 c0,Qx b1 c1,Qx b1 c10,Qx b1 c11⟩)
  (first
   |(have hq:=b1;go_at_call 121;refine(Qzv (HUD.o.below b1) gX H1.o).mono ?_;rintro e w2 ⟨rfl,b2⟩)
   |(go_at_call 121;refine(Qzv HVD.o cD H0.o).mono ?_;rintro e w1 ⟨rfl,b1⟩))
 have hb2:c9 w0.heap.size w0 w2:=(aaw w0.heap.size w0).drew.trans (b1.trans (b2.mono b1.size));have aI:=zq hb2;obtain⟨-,d1,-,-⟩:=Qb ((hb2.block g (by omega)).trans B0);obtain⟨-,d11,-,-⟩:=Qb ((hb2.block (g+1) hsz).trans B1);clear b1 b2 hb2 c0 c1 c10 c11;go_wp2_with fail;refine(Vy (vp.o.below aI) (RQ.o.below aI)).mono ?_;rintro e w3 ⟨rfl,hb3⟩;rw[<-HC.o];have aV:=zq (fy.o.trans ((aI.o.trans (hb3.mono aI.o.size)).mono fy.o.size));clear hb3;go_wp2_with fail;go_ret;refine⟨?_,aV⟩;show Ending.returned (A G (wrap64 c))=_;rw[HCR.o,HC.o]
def Vr (na nb:Bool)(a b:Nat):Bytes:=Xu ((na !=nb) && decide (a / Nat.gcd a b≠0)) (a / Nat.gcd a b)++(if b / Nat.gcd a b=1 then [] else 47::Xu ce (b / Nat.gcd a b))
def Qkp (na nb:Bool)(a b:Nat)(w:db)(e:Ending)(w':db):Prop:=
 (if b=0 then e=co (dj #[cl ⟨#[]⟩,A G 4]) else e=co (dj #[cl ⟨(Vr na nb a b).toArray⟩,A G 0]))/\c9 w.heap.size w w'
theorem Qpy (na nb:Bool){u:de}{ys:List Nat}(hs:SG w)(hv:Rd w v xs)(hu:Rd w u ys)(hl:xs.length<=67108864)(hl2:ys.length<=67108864):dq da 68 #[dk #[ca na,v,ca nb,u]] w (Qkp na nb (val xs) (val ys) w):=by
 have HV:=zq hv;have HU:=zq hu;have ew:=zq hs;have hsz:4<w.heap.size:=aaY w _ (hs 0 (by omega));obtain⟨ao,cap,rfl,-,-,-,-⟩:=hv.2;obtain⟨bo,bn,rfl,-,-,-,-⟩:=hu.2;have HA:=zq (Qq w (O #[ca na,U ao xs.length cap,ca nb,U bo ys.length bn] 71));have fJ:=zq (HV.o.below HA);have jk:=zq (HU.o.below HA);have HL:=zq hl;have iG:=zq hl2;clear hs hv hu hl hl2;by_cases h0:val ys=0
 ·have H0:=zq h0
  clear h0;go_enter func68,du;go_wp2_with fail;refine(Qk3 na nb 67108864 fJ jk HL iG (by omega)).mono ?_;intro e w1 hp;unfold Sh at hp;rw[if_pos H0.o]at hp;obtain⟨rfl,hb1⟩:=hp;have aK:=zq (HA.o.trans (hb1.mono HA.o.size));clear hb1;unfold Qwb;go_wp2_with fail;go_ret2;refine⟨?_,aK.o.alloc aK.o.size _⟩;rw[if_pos H0.o];rfl
 have H0:=zq h0;clear h0;go_enter func68,du;go_wp2_with fail;refine(Qk3 na nb 67108864 fJ jk HL iG (by omega)).mono ?_;intro e w1 hp;unfold Sh at hp;rw[if_neg H0.o]at hp;obtain⟨p,q,ps,qs,rfl,p1,p2,p3,p4,q1,q2,q3,q4,hb1⟩:=hp;obtain⟨po,gK,rfl,-,-,-,-⟩:=p1.1.2;obtain⟨qo,bK,rfl,-,-,-,-⟩:=q1.1.2;obtain⟨fn,hfn⟩:=xq (((na !=nb) && decide (val xs / Nat.gcd (val xs) (val ys)≠0)));rw[<-hfn];have tK:=zq hfn;have xR:=zq p1.1;have mO:=zq p2;have tQ:=zq p4;have jR:=zq q1.1;have cQ:=zq q2;have tR:=zq q4;have aK:=zq (HA.o.trans (hb1.mono HA.o.size));clear p1 p2 p3 p4 q1 q2 q3 q4 hb1 hfn;go_wp2_with fail;obtain⟨w2,hw2⟩:=xq (w1.alloc (O #[ca fn,U po ps.length gK,ca ce,U qo qs.length bK] 71));obtain⟨h4,JK⟩:=xq w1.heap.size;have ha2:=Qq w1 (O #[ca fn,U po ps.length gK,ca ce,U qo qs.length bK] 71);have fQ:=aap w1 (O #[ca fn,U po ps.length gK,ca ce,U qo qs.length bK] 71);rw[<-hw2]at ha2 fQ ⊢;rw[<-JK]at fQ ⊢;have hl4:h4<w2.heap.size:=(aah.1 fQ).1;obtain⟨c0,c1,c2,c3,-,-,-,-⟩:=Yo fQ;have aI:=zq (aK.o.trans (ha2.mono aK.o.size));have CT:=zq (xR.o.below ha2);have HQA:=zq (jR.o.below ha2);have HQD:=zq (HQA.o.below (aaw w2.heap.size w2).drew);have ou:=zq fQ
 have HQZ:Hid (val qs≠0):=by show _≠_;rw[cQ.o];exact Nat.pos_iff_ne_zero.1 (Nat.div_pos (Nat.le_of_dvd (abr H0) (Nat.gcd_dvd_right _ _)) (Nat.gcd_pos_of_pos_right _ (abr H0)))
 have cD:qs.length<=274877906944:=by have:=tR.o;omega
 clear hw2 JK ha2 fQ
 go_region_held3 (fun w'=>w'.cell? ⟨h4,2,Z⟩=F (ca ce)/\w'.cell? ⟨h4,3,Z⟩=F (U qo qs.length bK))
  (first
   |go_keep
   |exact⟨Qx b4 (Qx b3 c2),Qx b4 (Qx b3 c3)⟩
   |exact⟨Qx b3 c2,Qx b3 c3⟩)
  (first
   |(have hq:=b3;go_at_call 125;refine(Qgz (HQD.o.below b3) o1 cD o3 HQZ.o o4).mono ?_;rintro e w4 ⟨rfl,b4⟩)
   |(go_at_call 122;refine(Ci 1 (by omega)).mono ?_;rintro e w3 ⟨ov,os,rfl,o1,o2,o3',b3⟩;have o3:os.length<=274877906944:=(by omega);have o4:val os≠0:=(by omega);obtain⟨oo,ahh,rfl,-,-,-,-⟩:=o1.2))
 have hb4:c9 w2.heap.size w2 w4:=(aaw w2.heap.size w2).drew.trans (b3.trans (b4.mono b3.size));have cC:=zq hb4;have sr:=zq (aI.o.trans (hb4.mono aI.o.size));have mN:=zq o2;obtain⟨d0,d1,d2,d3,-,-,-,-⟩:=Yo ((hb4.block h4 hl4).trans ou);have RF:=zq (ew.o.below sr hsz);have QK:=zq (CT.o.below hb4);have adr:=zq (HQA.o.below hb4);have xh:4<w4.heap.size:=aal hsz sr.o.size;have qC:=zq (Zy fn tQ xR.o.ok);have oO:=zq (Zy ce tR jR.o.ok)
 have NS:ps.length<=8589934592:=by have:=tQ.o;omega
 have EF:qs.length<=8589934592:=by have:=tR.o;omega
 clear b3 b4 hb4 c0 c1 c2 c3 o1 o2 o3 o3' o4;by_cases h1:val qs=1
 ·have hc:bY (val qs) 1=0:=Dm.2 h1
  have HF:Hid (Vr na nb (val xs) (val ys)=Xu fn (val ps)):=by show _=_;unfold Vr;rw[<-cQ.o,if_pos h1,abt,<-mO.o,tK.o,<-mO.o]
  clear h1;rw[hc];go_wp2_with fail;refine(Wp fn RF QK NS).mono ?_;rintro e w5 ⟨rfl,bG⟩;have cS:=zq (sr.o.trans (bG.mono sr.o.size));clear bG;go_wp2_with fail;go_ret2;refine⟨?_,cS⟩;rw[if_neg H0.o,HF.o];rfl
 have hc:(bY (val qs) 1==0)=ce:=by rw[ad2];intro h;exact h1 (Dm.1 h)
 have HF:Hid (Vr na nb (val xs) (val ys)=Xu fn (val ps)++47::Xu ce (val qs)):=by show _=_;unfold Vr;rw[<-cQ.o,if_neg h1,<-mO.o,tK.o,<-mO.o]
 obtain⟨c,hcc⟩:=xq (bY (val qs) 1);rw[<-hcc]at hc ⊢
 have VF: ¬9223372036854775807<(Xu fn (val ps)).length+1:=by have:=qC.o;omega
 have VG: ¬9223372036854775807<(Xu fn (val ps)).length+1+(Xu ce (val qs)).length:=by have:=qC.o;have:=oO.o;omega
 have RG:=zq (RF.o.below (aaw w4.heap.size w4).drew xh);have ME:=zq (QK.o.below (aaw w4.heap.size w4).drew);have adt:=zq (adr.o.below (aaw w4.heap.size w4).drew);clear h1 hcc;go_wp2_with fail
 go_region_held3 (fun w'=>w'.cell? ⟨h4,0,Z⟩=F (ca fn)/\w'.cell? ⟨h4,1,Z⟩=F (U po ps.length gK)/\w'.cell? ⟨h4,2,Z⟩=F (ca ce)/\w'.cell? ⟨h4,3,Z⟩=F (U qo qs.length bK))
  (first
   |go_keep
   |exact⟨Qx b6 (Qx b5 d0),Qx b6 (Qx b5 d1),Qx b6 (Qx b5 d2),Qx b6 (Qx b5 d3)⟩
   |exact⟨Qx b5 d0,Qx b5 d1,Qx b5 d2,Qx b5 d3⟩)
  (first
   |(have hq:=b5;go_at_call 65;refine(Wp ce (RG.o.below b5 xh) (adt.o.below b5) EF).mono ?_;rintro e w6 ⟨rfl,b6⟩)
   |(go_at_call 65;refine(Wp fn RG.o ME.o NS).mono ?_;rintro e w5 ⟨rfl,b5⟩))
 have jg:=zq (sr.o.drew.trans ((b5.trans (b6.mono b5.size)).mono sr.o.size));clear b5 b6 d0 d1 d2 d3;go_wp2_with fail;go_ret2;refine⟨?_,jg⟩;rw[if_neg H0.o,HF.o];show Ending.returned (dj #[cl ((⟨(Xu fn (val ps)).toArray⟩:ByteArray)++⟨#[47]⟩++⟨(Xu ce (val qs)).toArray⟩),A G 0])=_;rw[Zp,Zp];simp
def ZC (w:db)(g o:Nat)(p:Bool×Nat):Prop:=∃m xs,w.cell? ⟨g,o,Z⟩=F (ca p.1)/\w.cell? ⟨g,o+1,Z⟩=F m/\Rd w m xs/\aw.val xs=p.2/\xs.length<=1048576
theorem ZC.below {g o:Nat}{p:Bool×Nat}(h:ZC w g o p)(hb:c9 w.heap.size w w'):ZC w' g o p:=by obtain⟨m,xs,b1,b2,b3,b4,b5⟩:=h;exact⟨m,xs,Qx hb b1,Qx hb b2,b3.below hb,b4,b5⟩
def SK (w:db)(v:de)(l:List ((Bool×Nat)×(Bool×Nat))):Prop:=∃ao cap,v=U ao l.length cap/\l.length<=cap/\cap<=maxLen/\(0<l.length-> ∃g o,ao=F ⟨g,o,Z⟩/\g<w.heap.size/\ ∀j p,l[j]?=F p->ZC w g (o+j*4) p.1/\ZC w g (o+j*4+2) p.2)
theorem Tryz.Ls:(Tryz.prog.info? 62).map (fun i=>(i.zero,i.size,i.bytes))=F (F (dk #[ca ce,U Z 0 0]),2,32):=by kernel_rfl
theorem Md (n:Nat)(hn:n<=1099511627776):∀w:db,(Instr.makeSlice 45 (A G (n:Int)) (A G (n:Int))).run da w=.ok (U (F ⟨w.heap.size,0,Z⟩) n n) (w.alloc (O (madeCells #[ca ce,U Z 0 0] (n*2)) 62)):=by
 obtain⟨i0,K,E,H,I⟩:=aa0 Tryz.Ls;intro w
 have J:(i0.bytes:Int)*(n:Int)<=281474976710656:=by rw[I];omega
 have h:=run_make (P:=da) w 45 62 i0 (dk #[ca ce,U Z 0 0]) underlying45 K E G G n n (by omega) (Int.le_refl _) J (by omega);simp only[acT]at h;rw[h,H];rfl
def qTx (p:(Bool×Nat)×(Bool×Nat)):Bytes:=Vr p.1.1 p.2.1 p.1.2 p.2.2
def iM (l:List ((Bool×Nat)×(Bool×Nat))):List Bytes:=l.map qTx
def Vn (l:List ((Bool×Nat)×(Bool×Nat))):Prop:=∀p∈l,p.2.2≠0
instance (l:List ((Bool×Nat)×(Bool×Nat))):Decidable (Vn l):=by unfold Vn;infer_instance
def Qca (r c:Int)(l:List ((Bool×Nat)×(Bool×Nat)))(w:db)(e:Ending)(w':db):Prop:=
 (if Yw r c l.length then if Vn l then e=co (dj #[cl ⟨(Yf r.toNat c.toNat (iM l)).toArray⟩,A G 0]) else e=co (dj #[cl ⟨#[]⟩,A G 4])
  else e=co (dj #[cl ⟨#[]⟩,A G 1]))/\c9 w.heap.size w w'
theorem Qm0 (r c:Int){l:List ((Bool×Nat)×(Bool×Nat))}(hv:SK w v l)(hn:l.length<=1073741824)(h: ¬Yw r c l.length):dq da 34 #[dk #[A G r,A G c,v]] w fun e w'=>e=co (dj #[cl ⟨#[]⟩,A G 1])/\c9 w.heap.size w w':=by
 obtain⟨ao,cap,rfl,h1,h2,-⟩:=hv;obtain⟨n,bu⟩:=xq l.length;rw[<-bu]at h hn h1 ⊢;have H:=zq h;have fA:=Md n (by omega);have HA:=zq (Qq w (O #[A G r,A G c,U ao n cap] 58));have hb0:=aap w (O #[A G r,A G c,U ao n cap] 58);obtain⟨w0,hw0⟩:=xq (w.alloc (O #[A G r,A G c,U ao n cap] 58));rw[<-hw0]at HA hb0;have kz:=zq hw0;obtain⟨g,hg⟩:=xq w.heap.size;rw[<-hg]at hb0;have HG:=zq hg;have c0:w0.cell? ⟨g,0,Z⟩=F (A G r):=(aaj w0 _ _ _ _ _ hb0).trans rfl;have c1:w0.cell? ⟨g,1,Z⟩=F (A G c):=(aaj w0 _ _ _ _ _ hb0).trans rfl;have c2:w0.cell? ⟨g,2,Z⟩=F (U ao n cap):=(aaj w0 _ _ _ _ _ hb0).trans rfl;have k0:=zq (Qx (Qq w0.drew (O (madeCells #[ca ce,U Z 0 0] (n*2)) 62)) (Qx (aaw w0.heap.size w0).drew c0));have k1:=zq (Qx (Qq w0.drew (O (madeCells #[ca ce,U Z 0 0] (n*2)) 62)) (Qx (aaw w0.heap.size w0).drew c1));have k2:=zq (Qx (Qq w0.drew (O (madeCells #[ca ce,U Z 0 0] (n*2)) 62)) (Qx (aaw w0.heap.size w0).drew c2));clear h h2 bu hw0 hb0 hg;go_enter func34,ef;go_wp2_with fail;rw[<-kz.o,<-HG.o]
 go_region_held3 (fun w'=>w'.cell? ⟨g,0,Z⟩=F (A G r)/\w'.cell? ⟨g,1,Z⟩=F (A G c)/\w'.cell? ⟨g,2,Z⟩=F (U ao n cap))
  (first
   |go_keep
   |exact⟨Qx b1 k0,Qx b1 k1,Qx b1 k2⟩)
  ((go_at_call 64;refine(Fh r c n n _ hn H.o).mono ?_;rintro e w1 ⟨rfl,b1⟩))
 have aK:=zq (HA.o.drew.trans (((Qq _ _).trans (b1.mono (Qq _ _).size)).mono HA.o.size));clear b1 c0 c1 c2;go_wp2_with fail;go_ret2;exact⟨rfl,aK⟩
theorem Rp (bm:ok xs)(hl:xs.length<=1048576)(b:Bool)(d:Nat):(Xu b (val xs / d)).length<=1073741823:=by
 have h:(Yb (val xs / d)).length<=1073741822:=by
  unfold Yb;split
  ·simp
  have E:val xs / d<BB^xs.length:=abp (acB _ _) (aN bm);have:=Zw E;rw[aas];omega
 unfold Xu;split
 ·simp only[aaq];omega
 omega
def Qhe (r c:Nat)(l:List ((Bool×Nat)×(Bool×Nat)))(w:db)(e:Ending)(w':db):Prop:=
 (if Vn l then e=co (dj #[cl ⟨(Yf r c (iM l)).toArray⟩,A G 0]) else e=co (dj #[cl ⟨#[]⟩,A G 4]))/\c9 w.heap.size w w'
theorem Qfv (r c:Nat){l:List ((Bool×Nat)×(Bool×Nat))}(hs:SG w)(hv:SK w v l)(hr:r<=64)(hc:c<=64)(hn:l.length=r*c):dq da 34 #[dk #[A G r,A G c,v]] w (Qhe r c l w):=by
 have ew:=zq hs;have HV:=zq hv;have hsz:4<w.heap.size:=aaY w _ (hs 0 (by omega));obtain⟨ao,cap,rfl,h1,h2,h3⟩:=hv;obtain⟨n,bu⟩:=xq l.length;rw[<-bu]at h1 hn ⊢
 have yg:n<=4096:=by rw[hn];exact aa3 hr hc
 have HN:=zq hn;have bw:=zq bu;have H3:=zq h3;have fA:=Md n (by omega);have HA:=zq (Qq w (O #[A G r,A G c,U ao n cap] 58));have hb0:=aap w (O #[A G r,A G c,U ao n cap] 58);obtain⟨w0,hw0⟩:∃w0,w0=w.alloc (O #[A G r,A G c,U ao n cap] 58):=⟨_,rfl⟩;rw[<-hw0]at HA hb0;have kz:=zq hw0;obtain⟨g,hg⟩:=xq w.heap.size;rw[<-hg]at hb0;have HG:=zq hg;have bp:=zq hb0;have c0:w0.cell? ⟨g,0,Z⟩=F (A G r):=(aaj w0 _ _ _ _ _ hb0).trans rfl;have c1:w0.cell? ⟨g,1,Z⟩=F (A G c):=(aaj w0 _ _ _ _ _ hb0).trans rfl;have c2:w0.cell? ⟨g,2,Z⟩=F (U ao n cap):=(aaj w0 _ _ _ _ _ hb0).trans rfl;have k0:=zq (Qx (Qq w0.drew (O (madeCells #[ca ce,U Z 0 0] (n*2)) 62)) (Qx (aaw w0.heap.size w0).drew c0));have k1:=zq (Qx (Qq w0.drew (O (madeCells #[ca ce,U Z 0 0] (n*2)) 62)) (Qx (aaw w0.heap.size w0).drew c1));have k2:=zq (Qx (Qq w0.drew (O (madeCells #[ca ce,U Z 0 0] (n*2)) 62)) (Qx (aaw w0.heap.size w0).drew c2));clear hs hn bu h3 hw0 hb0 hg;obtain⟨i0,hi,hz0,hz1',hz2'⟩:=aa0 Tryz.iA;go_enter func34,ef;go_wp2_with fail;rw[<-kz.o,<-HG.o]
 go_region_held3 (fun w'=>w'.cell? ⟨g,0,Z⟩=F (A G r)/\w'.cell? ⟨g,1,Z⟩=F (A G c)/\w'.cell? ⟨g,2,Z⟩=F (U ao n cap))
  (first
   |go_keep
   |exact⟨Qx b1 k0,Qx b1 k1,Qx b1 k2⟩)
  ((go_at_call 64;refine(Qmw r c n n _ hr hc HN.o).mono ?_;rintro e w1 ⟨rfl,b1⟩))
 have zB:c9 w0.heap.size w0 w1:=(aaw w0.heap.size w0).drew.trans (show c9 w0.heap.size w0.drew w1 from (Qq w0.drew (O (madeCells #[ca ce,U Z 0 0] (n*2)) 62)).trans (b1.mono (Qq w0.drew (O (madeCells #[ca ce,U Z 0 0] (n*2)) 62)).size));have iJ:g<w0.heap.size:=(aah.1 bp).1;have aK:=zq (HA.o.trans (zB.mono HA.o.size));have sq:=zq ((zB.block g iJ).trans bp);have bA:g<w1.heap.size:=aal iJ zB.size;have e0:w1.cell? ⟨g,0,Z⟩=F (A G r):=(aaj w1 _ _ _ _ _ sq).trans rfl;have e1:w1.cell? ⟨g,1,Z⟩=F (A G c):=(aaj w1 _ _ _ _ _ sq).trans rfl;have e2:w1.cell? ⟨g,2,Z⟩=F (U ao n cap):=(aaj w1 _ _ _ _ _ sq).trans rfl;clear b1 c0 c1 c2 zB k0 k1 k2 fA;go_wp2_with (at_make;refine adO _ rfl _ _ 105 rfl w1.heap.size 9 i0 (cl ⟨#[]⟩) 1 dl hi hz0 hz1' _ _ _ n rfl rfl rfl (by rw[hz2'];omega) (by unfold maxLen;omega) (aab _) ?_);intro w2 hown2 hgrow2;have hb2:c9 w1.heap.size w1 w2:=aaF (aaw _ _) hgrow2 (aab _) (fun k hk=>by cases hk);have mN:=zq hown2;have aI:=zq hb2;have f2:w2.cell? ⟨g,2,Z⟩=F (U ao n cap):=Qx hb2 e2;clear hown2 hgrow2 hb2;go_wp2_with fail;clear e0 e1 e2 f2;go_loopw [5,30] (fun lv iv wr=> ∃i:Nat,iv=A G i/\i<=n/\wr.ownsRow w1.heap.size 9 1 lv i (dr (iM (l.take i)))/\c9 w1.heap.size w1 wr/\Vn (l.take i)) (fun _ iv _=>(n-intOf iv).toNat)
 case atStart=>exact⟨0,rfl,aat _,by simpa [iM,dr] using mN.o,aI,fun p hp=>by simp at hp⟩
 case round=>
  obtain⟨i,rfl,ir,hown,hbl,VO⟩:=hrel;have HOWN:=zq hown;have aL:=zq hbl;have uL:=zq VO;obtain⟨bo,ez,rfl,qK,lp,rK⟩:=Qj hown;have hz1:=hbl.size;clear hown hbl rK VO;by_cases hlt:i<n
  ·obtain⟨ga,o,rfl,mX,hcell⟩:=H3.o (by rw[<-bw.o];omega)
   obtain⟨p,hp⟩:∃p,l[i]?=F p:=⟨_,aad (by rw[<-bw.o];omega)⟩;have jD:c9 w.heap.size w wr:=aK.o.trans (aL.o.mono aK.o.size);obtain⟨hz1,hz2⟩:=hcell i p hp;obtain⟨⟨neg,k⟩,⟨LA,k2⟩⟩:=p;obtain⟨m,xs,d0,d1,bQ,hval,fD⟩:=hz1.below jD;obtain⟨m2,ys,d2,d3,cO,pG,pJ⟩:=hz2.below jD;simp only at d0 d2 hval pG;replace d3:wr.cell? ⟨ga,o+i*4+3,Z⟩=F m2:=d3;obtain⟨mo,gI,uf,-⟩:=bQ.2;subst uf;obtain⟨EW,jZ,JW,-⟩:=cO.2;subst JW;have jf:=zq (Qq wr (O #[ca neg,U mo xs.length gI,ca LA,U EW ys.length jZ] 71));have gj:=zq (bQ.below jf);have ve:=zq (cO.below jf);have gm:=zq hval;have RU:=zq pG;have HP:=zq hp;have dY:=zq jD;have adG:=zq ((ew.o.below jD hsz).below jf (aal hsz jD.size));clear bQ hval hp hcell jD cO pG hz1 hz2;go_wp2_with fail;refine(Qpy neg LA adG gj ve (by omega) (by omega)).mono ?_;rintro e w3 ⟨he,hb3⟩;rw[gm.o,RU.o]at he;have aV:Hid (c9 wr.heap.size wr w3):=jf.o.trans (hb3.mono jf.o.size);clear hb3;by_cases hk2:k2=0
   ·rw[if_pos hk2]at he
    subst he;have xP:Hid (¬Vn l):=fun h=>h _ (aai HP) hk2;clear hk2;go_wp2_with fail;go_ret2;refine⟨?_,dY.o.trans (aV.o.mono dY.o.size)⟩;rw[if_neg xP.o];rfl
   rw[if_neg hk2]at he;subst he;obtain⟨T,hT⟩:=xq (Vr neg LA k k2);rw[<-hT];have HT:=zq hT;have fu:=zq (Qy HOWN aV (aab _));have hz3:=aV.o.size
   have HD4:Hid (Vn (l.take (i+1))):=by
    intro q hq;rw[aaI,HP.o]at hq;rcases aaP.1 hq with hq|hq
    ·exact uL.o q hq
    simp at hq;subst hq;exact hk2
   clear hT hk2 d0 d1 d2 d3;go_wp2_with (at_builtin;refine abn _ rfl _ _ 105 rfl w1.heap.size 9 i0 (cl ⟨#[]⟩) 1 16 dl hi hz0 hz1' hz2' rfl (by decide) _ _ _ rfl (aaU fu.o _) ⟨w3.heap.size,0,Z⟩ 1 1 [cl ⟨T.toArray⟩] rfl rfl (ar.Qg _ _ _ _ rfl) (by simp[Value.oneCell']) (by unfold maxLen;omega) (by omega) (by simp;omega) ?_);intro v4 w4 bg aJ _ gB
   have cm:dr (iM (l.take (i+1)))=dr (iM (l.take i))++[cl ⟨T.toArray⟩]:=by rw[aaI,HP.o];simp[iM,dr,qTx,HT.o]
   have jQ:Hid (w4.ownsRow w1.heap.size 9 1 v4 (i+1) (dr (iM (l.take (i+1))))):=by show World.ownsRow _ _ _ _ _ _ _;rw[cm];exact bg
   have cC:Hid (c9 w1.heap.size w1 w4):=aaF ((aL.o.trans (aV.o.mono aL.o.size)).alloc (by have:=aL.o.size;omega) _) aJ (by simp;have:=aL.o.size;omega) (fun q hq=>(aaB fu q hq).1);clear bg aJ gB cm;go_wp2_with fail;have aq:w4.ownsRow w1.heap.size 9 1 v4 (i+1) (dr (iM (l.take (i+1))))/\c9 w1.heap.size w1 w4/\Vn (l.take (i+1)):=⟨jQ,cC,HD4⟩
   exact⟨⟨i+1,rfl,by omega,aq⟩,by simp[intOf]<;>omega⟩
  have dD:i=n:=by omega
  have bF:l.take i=l:=aam (by rw[dD];exact abT bw.o.symm);rw[bF]at HOWN uL;have bN:=(aL.o.block g bA).trans sq;have e0:wr.cell? ⟨g,0,Z⟩=F (A G r):=(aaj wr _ _ _ _ _ bN).trans rfl;have e1:wr.cell? ⟨g,1,Z⟩=F (A G c):=(aaj wr _ _ _ _ _ bN).trans rfl;have dY:Hid (c9 w.heap.size w wr):=aK.o.trans (aL.o.mono aK.o.size);have qu:=zq dD;clear bN bF dD;go_wp2_with fail
  have iq:(iM l).length=r*c:=by unfold iM;rw[aas,<-bw.o,HN.o]
  have pn:dq da 66 #[A G r,A G c,U bo i ez] wr (Sb (Yf r c (iM l)) wr):=by
   by_cases h0:iM l=[]
   ·have dR:i=0:=by
     have:=aaE List.length h0;rw[iq,aa5,<-HN.o]at this;rw[qu.o];exact this
    subst dR;rw[h0];exact Ga r c ez bo (ew.o.below dY hsz) hr hc
   refine Dn r c (SS.dh HOWN) h0 hr hc iq ?_;intro b hb;unfold iM at hb;rw[abw]at hb;obtain⟨p,hp,rfl⟩:=hb;obtain⟨j,hj⟩:=acd hp
   have hl0:0<l.length:=by have:=(aaf.1 hj).1;omega
   obtain⟨ga,o,_,_,hcell⟩:=H3.o hl0;obtain⟨⟨m,xs,-,-,bQ,hval,fD⟩,⟨m2,ys,-,-,cO,pG,pJ⟩⟩:=hcell j p hj;unfold qTx Vr;rw[<-hval,<-pG];have q1:=Rp bQ.ok fD ((p.1.1 !=p.2.1) && decide (val xs / Nat.gcd (val xs) (val ys)≠0)) (Nat.gcd (val xs) (val ys));have q2:=Rp cO.ok pJ ce (Nat.gcd (val xs) (val ys));rw[aag];split
   ·simp only[aa5];omega
   simp only[aaq];omega
  refine pn.mono ?_;rintro e w5 ⟨rfl,bG⟩;have cS:=zq bG;clear bG pn;go_wp2_with fail;go_ret2;refine⟨?_,dY.o.trans (cS.o.mono dY.o.size)⟩;rw[if_pos uL.o];rfl
theorem Qye (r c:Int){l:List ((Bool×Nat)×(Bool×Nat))}(hs:SG w)(hv:SK w v l)(hn:l.length<=1073741824):dq da 34 #[dk #[A G r,A G c,v]] w (Qca r c l w):=by
 by_cases h:Yw r c l.length
 ·obtain⟨a,b,rfl,rfl,J,K,I⟩:=h.nat
  refine(Qfv a b hs hv J K I).mono ?_;rintro e w1 ⟨H,E⟩;refine⟨?_,E⟩;rw[if_pos h];exact H
 refine(Qm0 r c hv hn h).mono ?_;rintro e w1 ⟨H,E⟩;refine⟨?_,E⟩;rw[if_neg h];exact H
end Go.Proofs.YtgfmiladfeoldaaGreatDoor
