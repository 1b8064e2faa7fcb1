/- Joined texts of this claim's proof: RnG, RnC, RfD, RnA. -/
import Derived.Test.YtgfmiladfeoldaaGreatDoorPk19
import Derived.Test.YtgfmiladfeoldaaGreatDoorPk17
import Derived.Test.YtgfmiladfeoldaaGreatDoorPk39
import Derived.Test.YtgfmiladfeoldaaGreatDoorPk42
import Derived.Test.YtgfmiladfeoldaaGreatDoorPk25
import Derived.Test.YtgfmiladfeoldaaGreatDoorPk14
import Derived.Test.YtgfmiladfeoldaaGreatDoorPk1
import Derived.Test.YtgfmiladfeoldaaGreatDoorPk16
import Derived.Test.YtgfmiladfeoldaaGreatDoorPk2
set_option linter.unusedSimpArgs false
set_option linter.unusedVariables false
set_option maxRecDepth 100000
set_option maxHeartbeats 16000000
namespace Go.Proofs.YtgfmiladfeoldaaGreatDoor
open Go.RowKit NatP LexP
def Yc (B:Nat)(w:World)(cs:List (Bool×Value))(l:List (Bool×Nat)):Prop:=
 cs.length=l.length/\ ∀(j:Nat) (c:Bool×Value) (p:Bool×Nat),cs[j]?=some c->l[j]?=some p->c.1=p.1/\NFr B w c.2 p.2
theorem Yc.nil (B:Nat)(w:World):Yc B w [] []:=⟨rfl,fun j c p h=>by simp at h⟩
theorem Yc.app {B:Nat}{w:World}{a b:List (Bool×Value)}{l m:List (Bool×Nat)}(h:Yc B w a l)(k:Yc B w b m):Yc B w (a++b) (l++m):=by
 refine⟨by rw[List.length_append,List.length_append,h.1,k.1],fun j c p hc hp=> ?_⟩;by_cases hj:j<a.length
 ·rw[List.getElem?_append_left hj]at hc
  rw[List.getElem?_append_left (by rw[<-h.1];exact hj)]at hp;exact h.2 j c p hc hp
 ·rw[List.getElem?_append_right (by omega)]at hc
  rw[List.getElem?_append_right (by rw[<-h.1];omega),<-h.1]at hp;exact k.2 _ c p hc hp
theorem NFr.blk {B B':Nat}{w w':World}{v:Value}{n:Nat}(h:NFr B w v n)(hB:B'<=B)(hz:w.heap.size<=w'.heap.size)(hb:∀q,v.ownBlock=some q->w'.heap[q]?=w.heap[q]?):NFr B' w' v n:=by
 obtain⟨⟨xs,O,K,I⟩,E,J⟩:=h;refine⟨⟨xs,?_,K,I⟩,fun q hq=>⟨Nat.le_trans hB (E q hq).1,Nat.lt_of_lt_of_le (E q hq).2 hz⟩,J⟩;obtain⟨k0,ao,H,rfl,k1,k2,k3,k4⟩:=O;refine⟨fun k hk=>Nat.lt_of_lt_of_le (k0 k hk) hz,ao,H,rfl,k1,k2,k3,fun i x hx=> ?_⟩;obtain⟨g,o,rfl,T⟩:=k4 i x hx;exact⟨g,o,rfl,(World.cell?_of_block (hb g rfl)).trans T⟩
theorem Yc.blk {B B':Nat}{w w':World}{cs:List (Bool×Value)}{l:List (Bool×Nat)}(h:Yc B w cs l)(hB:B'<=B)(hz:w.heap.size<=w'.heap.size)(hb:∀q c,c∈cs->c.2.ownBlock=some q->w'.heap[q]?=w.heap[q]?):Yc B' w' cs l:=
 ⟨h.1,fun j c p hc hp=>⟨(h.2 j c p hc hp).1,(h.2 j c p hc hp).2.blk hB hz fun q hq=>hb q c (List.mem_of_getElem? hc) hq⟩⟩
abbrev Rw26:=Value×List (Bool×Value)×List (Bool×Nat)
structure Mt (w:World) (B:Nat) (rv:Value) (rs:List Rw26):Prop where
 own:w.ownsRow B 45 1 rv rs.length (rs.map Prod.fst)
 row:∀r∈rs,w.ownsRow B 62 2 r.1 r.2.1.length (Xq r.2.1)/\Yc B w r.2.1 r.2.2
 apR:∀r∈rs,∀q,r.1.ownBlock=some q->rv.ownBlock≠some q
 apN:∀r∈rs,∀c∈r.2.1,∀q,c.2.ownBlock=some q->rv.ownBlock≠some q/\ ∀r'∈rs,r'.1.ownBlock≠some q
 ap:∀(i j:Nat) (r s:Rw26) (q:Nat),rs[i]?=some r->rs[j]?=some s->r.1.ownBlock=some q->s.1.ownBlock=some q->i=j
theorem Jx {w w':World}{B B':Nat}{e:TypeId}{z:Nat}{v:Value}{n:Nat}{xs:List Value}(h:w.ownsRow B e z v n xs)(hB:B'<=B)(hb:∀q,v.ownBlock=some q->w'.heap[q]?=w.heap[q]?):w'.ownsRow B' e z v n xs:=by
 refine⟨h.1,?_⟩;rcases h.2 with O|⟨g,J,I,rfl,H,K,E⟩
 ·exact .inl O
 ·exact .inr ⟨g,J,I,rfl,Nat.le_trans hB H,(hb g rfl).trans K,E⟩
theorem Yc.own {B:Nat}{w:World}{cs:List (Bool×Value)}{l:List (Bool×Nat)}(h:Yc B w cs l){c:Bool×Value}(hc:c∈cs){q:Nat}(hq:c.2.ownBlock=some q):B<=q/\q<w.heap.size:=by
 obtain⟨j,E⟩:=List.getElem?_of_mem hc;have I:=(List.getElem?_eq_some_iff.1 E).1;obtain⟨p,H⟩:∃p,l[j]?=some p:=⟨_,List.getElem?_eq_getElem (by rw[<-h.1];exact I)⟩;exact(h.2 j c p E H).2.2.1 q hq
theorem Mt.keep {w w':World}{B:Nat}{rv:Value}{rs:List Rw26}(h:Mt w B rv rs)(hz:w.heap.size<=w'.heap.size)(hb:∀q,B<=q->q<w.heap.size->w'.heap[q]?=w.heap[q]?):Mt w' B rv rs where
 own:=Jx h.own (Nat.le_refl _) fun q hq=>hb q (h.own.lt q hq).1 (h.own.lt q hq).2
 row:=fun r hr=>⟨Jx (h.row r hr).1 (Nat.le_refl _) fun q hq=>hb q ((h.row r hr).1.lt q hq).1 ((h.row r hr).1.lt q hq).2,
  (h.row r hr).2.blk (Nat.le_refl _) hz fun q c hc hq=>hb q ((h.row r hr).2.own hc hq).1 ((h.row r hr).2.own hc hq).2⟩
 apR:=h.apR
 apN:=h.apN
 ap:=h.ap
theorem Mt.wr {w w':World}{B R:Nat}{rv:Value}{rs:List Rw26}(h:Mt w B rv rs)(hw:Wr R none w w')(hR:R<B):Mt w' B rv rs:=
 h.keep hw.size fun q h1 h2=>hw.block q h2 (by omega) (by simp)
theorem Mt.push {w w1 w2:World}{B:Nat}{rv lv lv':Value}{rs:List Rw26}{cs:List (Bool×Value)}{l:List (Bool×Nat)}(h:Mt w B rv (rs++[(lv,cs,l)])){neg:Bool}{m:Value}{k:Nat}(hm:NFr B w m k)
  (hd:∀q,m.ownBlock=some q->rv.ownBlock≠some q/\ ∀r∈rs++[(lv,cs,l)],r.1.ownBlock≠some q)
  (hown:w1.ownsRow B 62 2 lv' (cs.length+1) (Xq cs++[.bool neg,m])) (hg:w.grownBy w1 lv.ownBlock) (hat:∀q,lv'.ownBlock=some q->lv.ownBlock=some q\/w.heap.size<=q)
  {gr:Nat} (hgr:rv.ownBlock=some gr) (hw2:w2=w1.setCell ⟨gr,rs.length,none⟩ lv')
  (hrow:w2.ownsRow B 45 1 rv (rs.length+1) (rs.map Prod.fst++[lv'])):
  Mt w2 B rv (rs++[(lv',cs++[(neg,m)],l++[(neg,k)])]):=by
 have hz:w.heap.size<=w2.heap.size:=by rw[hw2];simpa [World.setCell] using hg.size
 have I:(lv,cs,l)∈rs++[(lv,cs,l)]:=by simp
 have aa:∀q,lv.ownBlock=some q->q≠gr:=fun q E e=>by rw[e]at E;exact h.apR _ I _ E hgr
 have hb:∀q,q<w.heap.size->q≠gr->lv.ownBlock≠some q->w2.heap[q]?=w.heap[q]? :=by
  intro q E Z hl;rw[hw2];exact(heap_setCell_other w1 ⟨gr,rs.length,none⟩ q lv' Z).trans (hg.block q E (fun e=>hl e.symm))
 have ad:gr<w.heap.size:=(h.own.lt gr hgr).2
 have a7:∀q,lv'.ownBlock=some q->q≠gr:=fun q E e=>by
  rcases hat q E with O|O
  ·exact aa q O e
  ·omega
 have J:∀r∈rs,r∈rs++[(lv,cs,l)]:=fun r H=>List.mem_append_left _ H
 have Z:∀r∈rs,∀q,r.1.ownBlock=some q->lv.ownBlock≠some q:=by
  intro r H q E e;obtain⟨i,T⟩:=List.getElem?_of_mem H;have ab:=(List.getElem?_eq_some_iff.1 T).1;have:=h.ap i rs.length r (lv,cs,l) q (by rw[List.getElem?_append_left ab];exact T) (by rw[List.getElem?_append_right (Nat.le_refl _),Nat.sub_self];rfl) E e;omega
 have U:∀r,r∈rs++[(lv',cs++[(neg,m)],l++[(neg,k)])]->r∈rs\/r=(lv',cs++[(neg,m)],l++[(neg,k)]):=fun r H=>by
  rcases List.mem_append.1 H with O|O
  ·exact .inl O
  ·exact .inr (List.mem_singleton.1 O)
 have a0:∀q,q<w.heap.size->lv.ownBlock≠some q->lv'.ownBlock≠some q:=fun q E hl e=>by
  rcases hat q e with O|O
  ·exact hl O
  ·omega
 have a6:∀q,m.ownBlock=some q->q<w.heap.size:=fun q E=>(hm.2.1 q E).2;have a9:NFr B w2 m k:=hm.blk (Nat.le_refl _) hz fun q E=>hb q (a6 q E) (fun e=>(hd q E).1 (by rw[e];exact hgr)) ((hd q E).2 _ I);refine⟨?_,?_,?_,?_,?_⟩
 ·rw[List.map_append,List.length_append];exact hrow
 ·intro r H
  rcases U r H with H|rfl
  ·have O:=h.row r (J r H)
   refine⟨Jx O.1 (Nat.le_refl _) fun q E=>hb q (O.1.lt q E).2 (fun e=>by rw[e]at E;exact h.apR r (J r H) _ E hgr) (Z r H q E),O.2.blk (Nat.le_refl _) hz fun q c K E=> ?_⟩;obtain⟨a,b⟩:=h.apN r (J r H) c K q E;exact hb q (O.2.own K E).2 (fun e=>a (by rw[e];exact hgr)) (b _ I)
  ·have O:=h.row _ I
   refine⟨?_,Yc.app (O.2.blk (Nat.le_refl _) hz fun q c K E=> ?_) ⟨rfl,fun j c p K hp=> ?_⟩⟩
   ·refine Jx (B:=B) (w:=w1) ?_ (Nat.le_refl _) fun q E=>by rw[hw2];exact heap_setCell_other w1 ⟨gr,rs.length,none⟩ q lv' (a7 q E)
    show World.ownsRow _ _ _ _ _ _ _;simp only[List.length_append,List.length_singleton,Rm];exact hown
   ·obtain⟨a,b⟩:=h.apN _ I c K q E
    exact hb q (O.2.own K E).2 (fun e=>a (by rw[e];exact hgr)) (b _ I)
   ·cases j with
    |zero=>simp at K hp;subst K;subst hp;exact⟨rfl,a9⟩
    |succ j=>simp at K
 ·intro r H q E
  rcases U r H with H|rfl
  ·exact h.apR r (J r H) q E
  ·intro e
   rw[hgr]at e;exact a7 q E (Option.some.inj e).symm
 ·intro r H c K q E
  have ac:q<w.heap.size/\rv.ownBlock≠some q/\ ∀r'∈rs++[(lv,cs,l)],r'.1.ownBlock≠some q:=by
   rcases U r H with H|rfl
   ·exact⟨((h.row r (J r H)).2.own K E).2,h.apN r (J r H) c K q E⟩
   ·rcases List.mem_append.1 K with K|K
    ·exact⟨((h.row _ I).2.own K E).2,h.apN _ I c K q E⟩
    ·rw[List.mem_singleton.1 K]at E
     exact⟨a6 q E,hd q E⟩
  obtain⟨k1,k2,k3⟩:=ac;refine⟨k2,fun r' a3=> ?_⟩;rcases U r' a3 with a3|rfl
  ·exact k3 r' (J r' a3)
  ·exact a0 q k1 (k3 _ I)
 ·intro i j r s q T hj H hs
  have a1:∀(i:Nat) (r:Rw26),(rs++[(lv',cs++[(neg,m)],l++[(neg,k)])])[i]?=some r->(i<rs.length/\rs[i]?=some r)\/(i=rs.length/\r=(lv',cs++[(neg,m)],l++[(neg,k)])):=by
   intro i r T;by_cases hl:i<rs.length
   ·rw[List.getElem?_append_left hl]at T;exact .inl ⟨hl,T⟩
   ·rw[List.getElem?_append_right (by omega)]at T
    have:=(List.getElem?_eq_some_iff.1 T).1;simp at this
    have e:i=rs.length:=by omega
    rw[e,Nat.sub_self]at T;exact .inr ⟨e,(Option.some.inj T).symm⟩
  rcases a1 i r T with ⟨i1,i2⟩|⟨rfl,rfl⟩<;>rcases a1 j s hj with ⟨j1,j2⟩|⟨rfl,rfl⟩
  ·exact h.ap i j r s q (by rw[List.getElem?_append_left i1];exact i2) (by rw[List.getElem?_append_left j1];exact j2) H hs
  ·exact absurd hs (a0 q ((h.row r (J r (List.mem_of_getElem? i2))).1.lt q H).2 (Z r (List.mem_of_getElem? i2) q H))
  ·exact absurd H (a0 q ((h.row s (J s (List.mem_of_getElem? j2))).1.lt q hs).2 (Z s (List.mem_of_getElem? j2) q hs))
  ·rfl
theorem Mt.new {w w1 w2:World}{B:Nat}{rv rv':Value}{rs:List Rw26}(h:Mt w B rv rs)(hB:B<=w.heap.size)(hw1:w1=w.alloc (.cells #[] 62))(hg:w1.grownBy w2 rv.ownBlock)
  (hown:w2.ownsRow B 45 1 rv' (rs.length+1) (rs.map Prod.fst++[.slice (some ⟨w.heap.size,0,none⟩) 0 0])) (hat:∀q,rv'.ownBlock=some q->rv.ownBlock=some q\/w1.heap.size<=q):
  Mt w2 B rv' (rs++[(.slice (some ⟨w.heap.size,0,none⟩) 0 0,[],[])]):=by
 have a0:=Qq w (.cells #[] 62);rw[<-hw1]at a0
 have a7:w1.heap.size=w.heap.size+1:=by rw[hw1];simp
 have hz:w.heap.size<=w2.heap.size:=Nat.le_trans a0.size hg.size
 have hb:∀q,q<w.heap.size->rv.ownBlock≠some q->w2.heap[q]?=w.heap[q]? :=fun q H O=>
  (hg.block q (by omega) (fun e=>O e.symm)).trans (a0.block q H)
 have a1:∀q,rv.ownBlock=some q->q<w.heap.size:=fun q H=>(h.own.lt q H).2
 have O:∀q,q<w.heap.size->rv.ownBlock≠some q->rv'.ownBlock≠some q:=fun q H hn e=>by
  rcases hat q e with I|I
  ·exact hn I
  ·omega
 have J:∀r,r∈rs++[((.slice (some ⟨w.heap.size,0,none⟩) 0 0,[],[]):Rw26)]->r∈rs\/r=(.slice (some ⟨w.heap.size,0,none⟩) 0 0,[],[]):=fun r E=>by
  rcases List.mem_append.1 E with I|I
  ·exact .inl I
  ·exact .inr (List.mem_singleton.1 I)
 refine⟨?_,?_,?_,?_,?_⟩
 ·rw[List.map_append,List.length_append];exact hown
 ·intro r E
  rcases J r E with E|rfl
  ·have I:=h.row r E
   exact⟨Jx I.1 (Nat.le_refl _) fun q H=>hb q (I.1.lt q H).2 (h.apR r E q H),I.2.blk (Nat.le_refl _) hz fun q c U H=>hb q (I.2.own U H).2 (h.apN r E c U q H).1⟩
  ·refine⟨?_,Yc.nil _ _⟩
   have I:w1.ownsRow B 62 2 (.slice (some ⟨w.heap.size,0,none⟩) 0 0) 0 []:=by
    rw[hw1];exact World.ownsRow_lit w #[] 0 hB (by unfold maxLen;omega) rfl
   exact Jx I (Nat.le_refl _) fun q H=>by
    have e0:w.heap.size=q:=Option.some.inj H;subst e0;exact hg.block _ (by omega) (fun e=>by have:=a1 _ e.symm;omega)
 ·intro r E q H
  rcases J r E with E|rfl
  ·exact O q ((h.row r E).1.lt q H).2 (h.apR r E q H)
  ·have e0:w.heap.size=q:=Option.some.inj H
   subst e0;intro e;rcases hat _ e with I|I
   ·have:=a1 _ I;omega
   ·omega
 ·intro r E c U q H
  rcases J r E with E|rfl
  ·obtain⟨a,b⟩:=h.apN r E c U q H
   have a4:=((h.row r E).2.own U H).2;refine⟨O q a4 a,fun r' Z=> ?_⟩;rcases J r' Z with Z|rfl
   ·exact b r' Z
   ·intro e
    have e0:w.heap.size=q:=Option.some.inj e;omega
  ·cases U
 ·intro i j r s q K hj E hs
  have T:∀(i:Nat) (r:Rw26),(rs++[((.slice (some ⟨w.heap.size,0,none⟩) 0 0,[],[]):Rw26)])[i]?=some r->(i<rs.length/\rs[i]?=some r)\/(i=rs.length/\r=(.slice (some ⟨w.heap.size,0,none⟩) 0 0,[],[])):=by
   intro i r K;by_cases hl:i<rs.length
   ·rw[List.getElem?_append_left hl]at K;exact .inl ⟨hl,K⟩
   ·rw[List.getElem?_append_right (by omega)]at K
    have:=(List.getElem?_eq_some_iff.1 K).1;simp at this
    have e:i=rs.length:=by omega
    rw[e,Nat.sub_self]at K;exact .inr ⟨e,(Option.some.inj K).symm⟩
  rcases T i r K with ⟨i1,i2⟩|⟨rfl,rfl⟩<;>rcases T j s hj with ⟨j1,j2⟩|⟨rfl,rfl⟩
  ·exact h.ap i j r s q i2 j2 E hs
  ·have e0:w.heap.size=q:=Option.some.inj hs
   have:=((h.row r (List.mem_of_getElem? i2)).1.lt _ E).2;omega
  ·have e0:w.heap.size=q:=Option.some.inj E
   have:=((h.row s (List.mem_of_getElem? j2)).1.lt _ hs).2;omega
  ·rfl
theorem Mt.one (w:World)(B:Nat)(hB:B<=w.heap.size):Mt ((w.alloc (.cells #[] 62)).alloc (.cells #[.slice (some ⟨w.heap.size,0,none⟩) 0 0] 45)) B (.slice (some ⟨w.heap.size+1,0,none⟩) 1 1) [(.slice (some ⟨w.heap.size,0,none⟩) 0 0,[],[])]:=by
 have E:(w.alloc (.cells #[] 62)).heap.size=w.heap.size+1:=by simp
 refine⟨?_,?_,?_,?_,?_⟩
 ·have:=World.ownsRow_lit (base:=B) (e:=45) (size:=1) (w.alloc (.cells #[] 62)) #[.slice (some ⟨w.heap.size,0,none⟩) 0 0] 1 (by omega) (by unfold maxLen;omega) rfl
  rw[E]at this;exact this
 ·intro r h
  obtain rfl:=List.mem_singleton.1 h;exact⟨(World.ownsRow_lit (base:=B) (e:=62) (size:=2) w #[] 0 hB (by unfold maxLen;omega) rfl).alloc _,Yc.nil _ _⟩
 ·intro r h q J
  obtain rfl:=List.mem_singleton.1 h;have e0:w.heap.size=q:=Option.some.inj J;intro e;have:w.heap.size+1=q:=Option.some.inj e;omega
 ·intro r h c O
  obtain rfl:=List.mem_singleton.1 h
  cases O
 ·intro i j r s q T H _ _
  have I:=(List.getElem?_eq_some_iff.1 T).1;have K:=(List.getElem?_eq_some_iff.1 H).1;simp at I K;omega
theorem Yc.ird {B:Nat}{w:World}{v:Value}{cs:List (Bool×Value)}{l:List (Bool×Nat)}(h:Yc B w cs l)(ho:w.ownsRow B 62 2 v cs.length (Xq cs)):IRd w v l:=by
 obtain⟨ao,I,rfl,a1,a2,a3⟩:=Qj ho;refine⟨ao,I,by rw[h.1],by rw[<-h.1];exact a1,a2,fun h0=> ?_⟩;obtain⟨g,rfl,-,b2,b3⟩:=a3 (by rw[h.1];exact h0);refine⟨g,0,rfl,b2,fun j p hj=> ?_⟩;have H:=(List.getElem?_eq_some_iff.1 hj).1;obtain⟨c,E⟩:∃c,cs[j]?=some c:=⟨_,List.getElem?_eq_getElem (by rw[h.1];exact H)⟩;obtain⟨e1,⟨xs,x1,x2,x3⟩,-,-⟩:=h.2 j c p E hj;obtain⟨c1,c2⟩:=Ng cs j c E;have J:=(List.getElem?_eq_some_iff.1 E).1;rw[Nat.zero_add];exact⟨c.2,xs,by rw[b3 _ (by omega),c1,e1],by rw[b3 _ (by omega)];exact c2,x1,x2,x3⟩
def WkAt (w0:World)(R:Nat)(tv nv vv sv:Value)(x:RfP.RW)(j:Nat)(wr:World):Prop:=
 Wr R none w0 wr/\wr.heap[R]?=some (.cells #[tv,.int .i64 (j:Nat),nv,vv,sv,.bool x.want,.bool x.pw,.int .i64 (x.depth:Nat)] 116 (0,0))
theorem WkAt.start {w:World}{R:Nat}{tv:Value}{L:List Tok}{i:Nat}{nv vv sv:Value}{ns:List Nv}{vs:List Nat}{stk:List RfP.Op}{x:RfP.RW}(h:WM w R tv L i nv vv sv ns vs stk x.want x.pw x.depth):WkAt w R tv nv vv sv x i w:=⟨Wr.refl _ _ _,h.blk⟩
theorem WkAt.below {w0 wr wr':World}{R:Nat}{tv nv vv sv:Value}{x:RfP.RW}{j:Nat}(h:WkAt w0 R tv nv vv sv x j wr)(hb:Below wr.heap.size wr wr'):WkAt w0 R tv nv vv sv x j wr':=
 ⟨h.1.trans (Mv.refl _ _) (Wr.of_below hb),(hb.block R (Array.getElem?_eq_some_iff.1 h.2).1).trans h.2⟩
theorem WkAt.grown {w0 wr wr':World}{R:Nat}{tv nv vv sv:Value}{x:RfP.RW}{j:Nat}{row:Option Nat}(h:WkAt w0 R tv nv vv sv x j wr)(hR:R<w0.heap.size)(hg:wr.grownBy wr' row)(hr:∀q,row=some q->w0.heap.size<=q):WkAt w0 R tv nv vv sv x j wr':=
 ⟨h.1.grown0 hg hr,(hg.block R (Array.getElem?_eq_some_iff.1 h.2).1 (fun e=>by have:=hr R e.symm;omega)).trans h.2⟩
theorem WkAt.set {w0 wr:World}{R:Nat}{tv nv vv sv:Value}{x:RfP.RW}{j:Nat}(h:WkAt w0 R tv nv vv sv x j wr)(j':Nat):WkAt w0 R tv nv vv sv x j' (wr.setCell ⟨R,1,none⟩ (.int .i64 (j':Nat))):=
 ⟨h.1.trans (Mv.refl _ _) (Wr.of_set wr 1 _),(heap_setCell_same wr R 1 _ _ _ h.2).trans (by simp)⟩
theorem WkAt.cells {w0 wr:World}{R:Nat}{tv nv vv sv:Value}{x:RfP.RW}{j:Nat}(h:WkAt w0 R tv nv vv sv x j wr):wr.cell? ⟨R,0,none⟩=some tv/\wr.cell? ⟨R,1,none⟩=some (.int .i64 (j:Nat))/\ ∀o,wr.frozen? ⟨R,o,none⟩=false:=
 ⟨by rw[cell_of_row wr R _ _ _ _ h.2];rfl,by rw[cell_of_row wr R _ _ _ _ h.2];rfl,fun o=>frozen_of_row wr R o _ _ h.2⟩
theorem WkAt.lt {w0 wr:World}{R:Nat}{tv nv vv sv:Value}{x:RfP.RW}{j:Nat}(h:WkAt w0 R tv nv vv sv x j wr):R<wr.heap.size:=(Array.getElem?_eq_some_iff.1 h.2).1
theorem WkAt.tks {w0 wr:World}{R:Nat}{tv nv vv sv:Value}{x:RfP.RW}{j:Nat}{L:List Tok}(h:WkAt w0 R tv nv vv sv x j wr)(hR:R<w0.heap.size)(ht:TkR w0 R tv L):TkR wr R tv L:=
 ht.low fun k hk=>h.1.block k (by omega) (by omega) (by simp)
theorem WkAt.belowR {w0 wr:World}{R:Nat}{tv nv vv sv:Value}{x:RfP.RW}{j:Nat}(h:WkAt w0 R tv nv vv sv x j wr)(hR:R<w0.heap.size):Below R w0 wr:=
 ⟨h.1.os,h.1.tape,h.1.output,h.1.size,fun k hk=>h.1.block k (by omega) (by omega) (by simp)⟩
theorem WkAt.left {w0 wr:World}{R:Nat}{tv nv vv sv:Value}{x:RfP.RW}{j:Nat}(h:WkAt w0 R tv nv vv sv x j wr)(L:List Tok):Qc L R wr=L.length-j:=by
 unfold Qc;rw[h.cells.2.1];simp[intOf]
theorem WkAt.wri {w0 wr:World}{R:Nat}{tv:Value}{L:List Tok}{i j:Nat}{nv vv sv:Value}{ns:List Nv}{x:RfP.RW}(h:WkAt w0 R tv nv vv sv x j wr)
  (h1:WM w0 R tv L i nv vv sv ns (SynP.Xm x.vals.reverse 0) x.stack.reverse x.want x.pw x.depth) (h2:ns.map Prod.fst=SynP.Y5 x.vals.reverse 0):WRi wr R tv L j x:=
 ⟨nv,vv,sv,ns,h1.turn h.1.size (fun k hk hR=>h.1.block k hk hR (by simp)) h.2,h2⟩
theorem Tl {P:Program}{w:World}{ops:Array Oper}{o:Oper}{a:Act}{K:Act->World->Prop}{Q:Exit->Act->World->Prop}{E:Prop}(hgd:o.guard=none)(sl x:Operand)(t u:TypeId)
  (ho:o.op=.call {callee:=.builtin .append,args:= #[sl,x],argTypes:= #[t,u]})
  (base:Nat) (e:TypeId) (i:TypeInfo) (ht:P.underlying t=some (.slice e)) (hu:P.underlying u=some .string) (hi:P.info? e=some i) (hz:i.zero=some (.int .u8 0))
  (hsize:i.size=1) (hby:i.bytes=1)
  (v:Value) (n:Nat) (xs:List Value) (hs:a.eval sl=v) (hown:w.ownsRow base e 1 v n xs) (s:ByteArray) (hx:a.eval x=.string s)
  (hbytes:n+s.size<=140737488355328) (hbase:base<=w.heap.size)
  (h:∀v' w',w'.ownsRow base e 1 v' (n+s.size) (xs++Lib.strCells s)->w.grownBy w' v.ownBlock->(v'.ownBlock=v.ownBlock\/v'.ownBlock=some w.heap.size)->K (a.put o.dst v') w'):
  if Region.wanted o (yielded ops a.tmps)=true then Oper.wp P o a w K Q else E:=by
 have O:Region.wanted o (yielded ops a.tmps)=true:=by simp[Region.wanted,hgd]
 rw[if_pos O];obtain⟨v',w',T,J,H,I⟩:=T8 (P:=P) base t u o.type e i ht hu hi hz hsize hby w v n xs hown s hbytes hbase;unfold Oper.wp execOp;simp only[ho,resolve,invoke,builtin,Sem.run_bind,Sem.run_pure,Result.andThen_ok,List.map_toArray,List.map_cons,List.map_nil,hs,hx,T];exact h v' w' J H I
end Go.Proofs.YtgfmiladfeoldaaGreatDoor
namespace NumP
open NatP (val ok BB dg)
def quo (x:Nat):Nat->Nat
 |0=>x
 |k+1=>quo x k / 65536
def four (w:Nat):List Nat:=[quo w 0 % 65536,quo w 1 % 65536,quo w 2 % 65536,quo w 3 % 65536]
def Yp (l:List Nat):List Nat:=l.flatMap four
theorem R0 (l:List Nat):(Yp l).length=4*l.length:=by
 induction l with
 |nil=>rfl
 |cons a l ih=>
  show (four a++Yp l).length=_;rw[List.length_append,ih,List.length_cons];show 4+_=_;omega
theorem C6 (l:List Nat)(a:Nat):Yp (l++[a])=Yp l++four a:=by simp[Yp]
theorem Vl (l:List Nat):∀d∈Yp l,d<65536:=by
 intro d E;obtain⟨a,-,h⟩:=List.mem_flatMap.1 E;simp only[four,quo,List.mem_cons,List.not_mem_nil,or_false]at h
 rcases h with rfl|rfl|rfl|rfl<;>omega
theorem Qyh {w:Nat}(h:w<BB):valD (four w)=w:=by
 unfold BB at h;simp only[four,quo,valD];omega
theorem Ws:∀{l:List Nat},ok l->valD (Yp l)=val l
 | [],_=>rfl
 |a::l,h=>by
  show valD (four a++Yp l)=a+BB*val l
  have e:65536^(four a).length=BB:=by
   show 65536^4=BB;unfold BB;decide
  rw[Ux,Qyh (h a (by simp)),Ws (fun x hx=>h x (by simp[hx])),e]
theorem T4 (l:List Nat):Qa l=NatP.Qw l:=rfl
theorem Gh (l:List Nat):(Qa l).length<=l.length:=NatP.Qf l
theorem Js {l:List Nat}(h:∀d∈l,d<65536):∀d∈Qa l,d<65536:=by
 intro d E;rw[T4,(NatP.X9 l).1]at E;exact h d (List.mem_of_mem_take E)
theorem Qxf (l:List Nat):valD (l++[0])=valD l:=by rw[Ux];simp[valD]
theorem Jw (l:List Nat):valD (Qa l)=valD l:=by
 refine NatP.Vp (P:=fun l=>valD (Qa l)=valD l) rfl ?_ l;intro l d ih;by_cases h:d=0
 ·rw[h,Za,Qxf,ih]
 ·rw[Yt _ _ h]
theorem W0 (l:List Nat):Qa (Qa l)=Qa l:=by
 refine NatP.Vp (P:=fun l=>Qa (Qa l)=Qa l) rfl ?_ l;intro l d ih;by_cases h:d=0
 ·rw[h,Za,ih]
 ·rw[Yt _ _ h,Yt _ _ h]
theorem Kg {l:List Nat}(h:Qa l=l)(hn:l≠[]):0<valD l:=by
 have H:l.length=(l.length-1)+1:=by
  have:=List.length_pos_iff.2 hn;omega
 obtain⟨d,E,I⟩:=NatP.Vv l (l.length-1) (by rw[<-T4,h];exact H);rw[<-T4,h]at E
 have e:l=l.take (l.length-1)++[d]:=by
  have:=List.take_add_one (l:=l) (i:=l.length-1);rw[<-H,List.take_length,E]at this;exact this
 rw[e,Ux];have:0<65536^(l.take (l.length-1)).length:=Nat.pow_pos (by omega);have:0<65536^(l.take (l.length-1)).length*valD [d]:=Nat.mul_pos this (by simp[valD];omega);omega
theorem Qjm {l:List Nat}(h:Qa l=l)(h0:valD l=0):l=[]:=by
 cases l with
 |nil=>rfl
 |cons a l=>have:=Kg h (by simp);omega
theorem Pk:∀(n:Nat) (l:List Nat),l.length<=n->(∀d∈l,d<65536)->val (Jd l)=valD l/\ok (Jd l)/\4*(Jd l).length<=l.length+3
 |0,l,h,_=>by
  obtain rfl:=List.eq_nil_of_length_eq_zero (by omega:l.length=0)
  exact⟨rfl,NatP.H7,by simp[Nh]⟩
 |n+1,l,h,hs=>by
  cases l with
  |nil=>exact⟨rfl,NatP.H7,by simp[Nh]⟩
  |cons a l=>
   obtain⟨J,I,H⟩:=Pk n ((a::l).drop 4) (by simp only[List.length_drop,List.length_cons]at h ⊢;omega) (fun d hd=>hs d (List.mem_of_mem_drop hd));have K:F6 (a::l)<65536^((a::l).take 4).length:=M4 _ (fun d hd=>hs d (List.mem_of_mem_take hd))
   have E:F6 (a::l)<BB:=by
    have e:65536^((a::l).take 4).length<=65536^4:=Nat.pow_le_pow_right (by omega) (by rw[List.length_take];omega)
    have e2:65536^4=BB:=by unfold BB;decide
    omega
   rw[Rt (by simp)];refine⟨?_,NatP.Qzb E I,?_⟩
   ·show F6 (a::l)+BB*val _=_
    rw[J]
    conv=>rhs;rw[<-List.take_append_drop 4 (a::l),Ux]
    by_cases hl:4<=(a::l).length
    ·have e:((a::l).take 4).length=4:=by rw[List.length_take];omega
     rw[e]
     have e2:65536^4=BB:=by unfold BB;decide
     rw[e2];rfl
    ·have e:(a::l).drop 4=[]:=List.drop_of_length_le (by omega)
     rw[e];simp[valD];rfl
   ·simp only[List.length_cons,List.length_drop]at H ⊢
    omega
theorem Qk0 {l:List Nat}(h:∀d∈l,d<65536):val (Jd l)=valD l:=(Pk l.length l (Nat.le_refl _) h).1
theorem Qgh {l:List Nat}(h:∀d∈l,d<65536):ok (Jd l):=(Pk l.length l (Nat.le_refl _) h).2.1
theorem Qwa {l:List Nat}(h:∀d∈l,d<65536):4*(Jd l).length<=l.length+3:=(Pk l.length l (Nat.le_refl _) h).2.2
theorem Dd {l:List Nat}:Jd l=[]↔l=[]:=by
 constructor
 ·intro h
  cases l with
  |nil=>rfl
  |cons a l=>rw[Rt (by simp)]at h;cases h
 ·rintro rfl;rfl
theorem Fv:∀(l:List UInt8) (ds:List Nat),valD (l.foldl (fun d c=>Y2 d 10 (c.toNat-48)) ds)=(l.map fun c=>c.toNat-48).foldl (fun a x=>a*10+x) (valD ds)
 | [],_=>rfl
 |c::l,ds=>by
  show valD (l.foldl _ (Y2 ds 10 (c.toNat-48)))=(l.map fun c=>c.toNat-48).foldl _ (valD ds*10+(c.toNat-48));rw[Fv l,Qj1]
theorem Qvp (l:List UInt8):valD (numD l)=NatP.decV (LexP.digs l):=Fv l []
def Ye:List Nat->List Nat×Nat
 | []=>([],0)
 |d::ds=>(((Ye ds).2*65536+d) / 10::(Ye ds).1,((Ye ds).2*65536+d) % 10)
theorem Pv:∀ds:List Nat,(Ye ds).2<10
 | []=>by show 0<10;omega
 |d::ds=>by show _ % 10<10;omega
theorem Nf:∀ds:List Nat,(Ye ds).1.length=ds.length
 | []=>rfl
 |d::ds=>by show (Ye ds).1.length+1=ds.length+1;rw[Nf ds]
theorem N7:∀{ds:List Nat},(∀d∈ds,d<65536)-> ∀d∈(Ye ds).1,d<65536
 | [],_,d,hd=>by cases hd
 |x::ds,h,d,hd=>by
  rcases List.mem_cons.1 hd with rfl|hd
  ·have:=Pv ds
   have:=h x (by simp);omega
  ·exact N7 (fun y hy=>h y (by simp[hy])) d hd
theorem Fx:∀ds:List Nat,valD ds=valD (Ye ds).1*10+(Ye ds).2
 | []=>rfl
 |d::ds=>by
  have ih:=Fx ds;show d+65536*valD ds=(((Ye ds).2*65536+d) / 10+65536*valD (Ye ds).1)*10+((Ye ds).2*65536+d) % 10;omega
theorem Qpw {ds:List Nat}(h:Qa ds=ds)(hn:ds≠[]):dg (valD ds)=dg (valD (Qa (Ye ds).1))++[(Ye ds).2]:=by
 have E:=Fx ds;have H:=Pv ds;rw[NatP.Wg (Kg h hn),Jw]
 have e1:valD ds / 10=valD (Ye ds).1:=by omega
 have e2:valD ds % 10=(Ye ds).2:=by omega
 rw[e1,e2]
theorem Qm2 {ds:List Nat}(h:∀d∈ds,d<65536):(dg (valD ds)).length<=5*ds.length:=by
 refine NatP.Uc (Nat.lt_of_lt_of_le (M4 ds h) ?_);rw[Nat.pow_mul];exact Nat.pow_le_pow_left (by decide) _
theorem Qgg {n:Nat}{low:List Nat}(h:low.reverse=dg n):SynP.decT n=if low=[] then [48] else low.reverse.map fun d=>UInt8.ofNat (48+d):=by
 unfold SynP.decT;by_cases h0:n=0
 ·rw[if_pos h0]
  rw[h0,NatP.Jt]at h;rw[if_pos (List.reverse_eq_nil_iff.1 h)]
 ·rw[if_neg h0,if_neg (by
   rintro rfl;rw[NatP.Wg (by omega)]at h;have:=congrArg List.length h
   simp at this),h]
end NumP
namespace Go.Proofs.YtgfmiladfeoldaaGreatDoor
open Go.RowKit LexP NumP NatP
def Qhk (B:Nat)(ds:List Nat)(dv:Value)(w:World)(e:Ending)(w':World):Prop:=
 e=.returned (.int .i64 ((Ye ds).2:Nat))/\OwnD B w' dv (Ye ds).1/\Below B w w'/\w'.heap.size=w.heap.size/\ ∀q,dv.ownBlock≠some q->w'.heap[q]?=w.heap[q]?
def Qhu (B:Nat)(ds:List Nat)(dv:Value)(w:World)(sv si:Value)(wr:World):Prop:=
 ∃k,k<=ds.length/\si=.int .i64 ((k:Int)-1)/\sv=.int .i64 ((Ye (ds.drop k)).2:Nat)/\wr.ownsRow B 3 1 dv ds.length (Xe (ds.take k++(Ye (ds.drop k)).1))/\Below B w wr/\wr.heap.size=w.heap.size/\ ∀q,dv.ownBlock≠some q->wr.heap[q]?=w.heap[q]?
theorem Qyj (B:Nat)(ds:List Nat)(dv:Value)(w:World)(hown:OwnD B w dv ds)(hds:∀d∈ds,d<65536):
  Calls Tryz.prog 225 #[dv,.int .i64 10] w (Qhk B ds dv w):=by
 have HD:=zq hds;have HO:=zq hown;obtain⟨ao,cap,hdv,hnc,hcm,-⟩:=Qj hown;subst hdv
 have hm:ds.length<=9223372036854775807:=by unfold maxLen at hcm;omega
 clear hds hown hcm;go_enter Tryz.func225,Tryz.ntmps225;go_wp2_with fail;go_loopw [5,6] (fun sv si wr=>Qhu B ds (.slice ao ds.length cap) w sv si wr) (fun _ si _=>(intOf si+1).toNat)
 case atStart=>exact⟨ds.length,Nat.le_refl _,rfl,by rw[List.drop_length];rfl,by rw[List.drop_length,List.take_length,show (Ye []).1=[] from rfl,List.append_nil];exact HO.o,Below.refl _ _,rfl,fun _ _=>rfl⟩
 case round=>
  obtain⟨k,hk,rfl,rfl,hown,hbl,hsz,hfr⟩:=hrel;have HBL:=zq hbl;have HSZ:=zq hsz;have HFR:=zq hfr;have hr10:=Pv (ds.drop k)
  cases k with
  |zero=>
   have HO2:=zq hown;clear hown hbl hsz hfr;go_wp2_with fail;go_ret;refine⟨rfl,?_,HBL.o,HSZ.o,HFR.o⟩;show World.ownsRow _ _ _ _ _ _ _;rw[Nf];have:=HO2.o;rw[List.drop_zero,List.take_zero,List.nil_append]at this
   exact this
  |succ k=>
   have hlt:k<ds.length:=by omega
   obtain⟨d,hd⟩:∃d,ds[k]?=some d:=⟨_,List.getElem?_eq_getElem hlt⟩;have hd2:=HD.o d (List.mem_of_getElem? hd)
   have hdrop:ds.drop k=d::ds.drop (k+1):=by
    rw[List.drop_eq_getElem_cons hlt];have:=List.getElem?_eq_getElem hlt;rw[hd]at this;rw[Option.some.inj this]
   have htake:ds.take (k+1)=ds.take k++[d]:=by
    have:=List.take_add_one (l:=ds) (i:=k);rw[hd]at this;exact this
   obtain⟨ao2,cap2,hdv2,-,-,hsh⟩:=Qj hown;obtain⟨g,hao,hbg,hgs,hcell⟩:=hsh (by omega)
   cases hdv2
   subst hao
   have htl:(ds.take k).length=k:=by rw[List.length_take];omega
   have e1:wr.cell? ⟨g,k,none⟩=some (.int .i64 (d:Nat)):=by
    rw[hcell k (by omega),htake];rw[Xl,Xl,List.append_assoc,List.getElem?_append_right (by rw[Yz];omega)]
    have:k-(Xe (ds.take k)).length=0:=by rw[Yz];omega
    rw[this];rfl
   have e2:wr.frozen? ⟨g,k,none⟩=false:=hown.frozenAt k;obtain⟨r,hr⟩:=xq ((Ye (ds.drop (k+1))).2);rw[<-hr]at hr10 ⊢;have hst:=hown.stored k (.int .i64 (((r*65536+d) / 10:Nat)))
   have hset:(Xe (ds.take (k+1)++(Ye (ds.drop (k+1))).1)).set k (.int .i64 (((r*65536+d) / 10:Nat)))=Xe (ds.take k++(Ye (ds.drop k)).1):=by
    rw[htake,hdrop];show _=Xe (ds.take k++(((Ye (ds.drop (k+1))).2*65536+d) / 10::(Ye (ds.drop (k+1))).1));rw[<-hr,List.append_assoc,Xl,List.set_append_right _ _ (by rw[Yz];omega)]
    have:k-(Xe (ds.take k)).length=0:=by rw[Yz];omega
    rw[this,Xl [d],Xl (ds.take k)];rfl
   rw[hset]at hst;have HST:=zq hst
   have HR:Hid ((Ye (ds.drop k)).2=(r*65536+d) % 10):=by
    show _=_;rw[hdrop,hr];rfl
   have hgz:g<wr.heap.size:=hgs;clear hcell hsh hst hset hdrop hd htake htl hown hr hbl hsz hfr
   have ev:Hid (Value.int .i64 (((r:Int)*65536+(d:Int)) / 10)=.int .i64 (((r*65536+d) / 10:Nat):Int)):=by
    show _=_;congr 1
   have em:Hid (Value.int .i64 (((r:Int)*65536+(d:Int)) % 10)=.int .i64 (((r*65536+d) % 10:Nat):Int)):=by
    show _=_;congr 1
   have hi1:(0:Int)<=((k+1:Nat):Int)-1:=by omega
   have hi2:((((k+1:Nat):Int)-1).toNat)=k:=by omega
   go_wp2_with fail;rw[ev.o,em.o]
   refine⟨⟨k,by omega,by go_num,by rw[HR.o],HST.o.1,HBL.o.setCell hbg _,by simpa [World.setCell] using HSZ.o,fun q hq=> ?_⟩,by simp[intOf]<;>omega⟩
   exact(heap_setCell_other wr ⟨g,k,none⟩ q _ (fun e=>hq (by rw[e];rfl))).trans (HFR.o q hq)
def Qjk (xs:List Nat)(w:World)(e:Ending)(w':World):Prop:=∃v,e=.returned v/\OwnD w.heap.size w' v (Qa (Yp xs))/\Below w.heap.size w w'
theorem Qvm (x k:Nat)(hk:k<4):(four x).take (k+1)=(four x).take k++[quo x k % 65536]:=by
 have h:k=0\/k=1\/k=2\/k=3:=by omega
 rcases h with rfl|rfl|rfl|rfl<;>rfl
theorem Qko (x:Nat):∀k,quo x k<=x
 |0=>Nat.le_refl _
 |k+1=>Nat.le_trans (Nat.div_le_self _ _) (Qko x k)
def SpO (xs:List Nat)(B:Nat)(w1:World)(dv si:Value)(wr:World):Prop:=
 ∃i,i<=xs.length/\si=.int .i64 (i:Nat)/\OwnD B wr dv (Yp (xs.take i))/\Below B w1 wr
def SpI (xs:List Nat)(i x:Nat)(B:Nat)(w1:World)(dv wv sk:Value)(wr:World):Prop:=
 ∃k,k<=4/\sk=.int .i64 (k:Nat)/\wv=.int .u64 (quo x k:Nat)/\OwnD B wr dv (Yp (xs.take i)++(four x).take k)/\Below B w1 wr
theorem Sa (xs:List Nat)(v:Value)(w:World)(hv:Rd w v xs)(hl:xs.length<=67108864):
  Calls Tryz.prog 151 #[v] w (Qjk xs w):=by
 obtain⟨i0,hi,hz0,hz1,hz2⟩:=info_parts Tryz.infoInt;have HV:=zq hv;obtain⟨-,ao,cap,hve,h1,h2,h3,h4⟩:=hv;subst hve;have HOK:=zq h3;obtain⟨n,hn⟩:=xq xs.length;have HN:=zq hn;have H4:=zq h4;rw[<-hn]at HV hl h1 ⊢
 have h4n:(0:Int)<=4*(n:Int):=by omega
 clear h3 h4 hn;go_enter Tryz.func151,Tryz.ntmps151;go_wp2_with (at_make;refine wpList_make_own _ rfl _ _ 41 rfl w.heap.size 3 i0 (.int .i64 0) 1 Tryz.underlying41 hi hz0 hz1 _ _ _ (4*n) rfl rfl ?hC ?b1 ?b2 ?b3 ?_)
 case hC=>omega
 case b1=>rw[hz2];omega
 case b2=>unfold maxLen;omega
 case b3=>exact Nat.le_refl _
 intro w1 hown1 hgrow1;have hb1:Below w.heap.size w w1:=Below.grown (Below.refl _ _) hgrow1 (Nat.le_refl _) (fun k hk=>by cases hk);have HOW:=zq hown1;have HB1:=zq hb1;clear hown1 hgrow1 hb1;go_wp2_with fail;go_loopw [3,4] (fun dv si wr=>SpO xs w.heap.size w dv si wr) (fun _ si _=>n-(intOf si).toNat)
 case atStart=>exact⟨0,Nat.zero_le _,rfl,HOW.o,HB1.o⟩
 case round=>
  obtain⟨i,hil,rfl,hown,hb⟩:=hrel;have hzz:=hb.size;rw[<-HN.o]at hil;by_cases hlt:i<n
  ·obtain⟨x,hx⟩:∃x,xs[i]?=some x:=⟨_,List.getElem?_eq_getElem (by rw[<-HN.o];exact hlt)⟩
   obtain⟨g,o,hao,hc⟩:=H4.o i x hx;subst hao;have hgl:g<w.heap.size:=HV.o.1 g rfl;have hc':wr.cell? ⟨g,o+i,none⟩=some (.int .u64 (x:Nat)):=(hb.cell (p:=⟨g,o+i,none⟩) hgl).trans hc;have hxb:x<18446744073709551616:=HOK.o x (List.mem_of_getElem? hx);have HXB:=zq hxb;have HOWN:=zq hown;have HB:=zq hb
   have HTK:Hid (Yp (xs.take (i+1))=Yp (xs.take i)++four x):=by
    show _=_;rw[List.take_add_one,hx];exact C6 _ _
   have hspl:(Yp (xs.take i)).length<=268435456:=by rw[R0,List.length_take];omega
   clear hown hb hc hx;go_wp2_with fail;obtain⟨wo,hwo⟩:=xq wr;rw[<-hwo]at hzz HOWN HB ⊢;clear hwo;go_loopw [3,5,6] (fun dv wv sk wr=>SpI xs i x w.heap.size w dv wv sk wr) (fun _ _ sk _=>4-(intOf sk).toNat)
   case atStart=>exact⟨0,by omega,rfl,rfl,by simpa using HOWN.o,HB.o⟩
   case round=>
    obtain⟨k,hk,rfl,rfl,hown,hb⟩:=hrel;have hzz:=hb.size;have HB2:=zq hb;have hqb:quo x k<18446744073709551616:=Nat.lt_of_le_of_lt (Qko x k) HXB.o;by_cases hk4:k<4
    ·have HF4:=zq (Qvm x k hk4)
     have HQS:Hid (quo x (k+1)=quo x k / 65536):=rfl;obtain⟨y,hy⟩:=xq (quo x k);rw[<-hy]at HF4 HQS hqb ⊢;have hym:y % 65536<65536:=Nat.mod_lt _ (by omega)
     have hq1:Hid (((y:Nat):Int) % 65536=((y % 65536:Nat):Int)):=by show _=_;omega
     have hwq:IntKind.i64.wrap ((y:Int) % 65536)=(y:Int) % 65536:=IntWalk.i64_in _ (by omega)
     have hln:(Yp (xs.take i)++(four x).take k).length<=268435460:=by
      rw[List.length_append,List.length_take];omega
     clear hy hb;go_wp2_with (at_builtin;refine wpList_append_own _ rfl _ _ 41 rfl w.heap.size 3 i0 (.int .i64 0) 1 8 Tryz.underlying41 hi hz0 hz1 hz2 rfl (by decide) _ _ _ rfl (World.ownsRow.alloc hown _) ⟨wr.heap.size,0,none⟩ 1 1 [.int .i64 ((y:Int) % 65536)] rfl rfl (Qb _ _ _ _ rfl) (by simp[Value.oneCell']) (by unfold maxLen;omega) (by omega) (by simp;omega) ?_);intro v3 w3 hown3 hgrow3 _
     have hfin:OwnD w.heap.size w3 v3 (Yp (xs.take i)++(four x).take (k+1))/\Below w.heap.size w w3:=by
      refine⟨?_,Below.grown (HB2.o.alloc hzz _) hgrow3 (by simp;omega) (fun q hq=>(World.ownsRow.lt hown q hq).1)⟩;show World.ownsRow _ _ _ _ _ _ _;rw[HF4.o,<-List.append_assoc,Xl,List.length_append];rw[hq1.o,<-List.length_take,<-List.length_append]at hown3;exact hown3
     have HF:=zq hfin;clear hown3 hgrow3 hfin;go_wp2_with fail;have hfin:SpI xs i x w.heap.size w v3 (.int .u64 ((y:Int) / 65536)) (.int .i64 ((k:Int)+1)) w3:=⟨k+1,by omega,by go_num,by rw[HQS.o];rfl,HF.o⟩
     first|exact⟨hfin,by simp[intOf]<;>omega⟩|exact⟨by (repeat apply Exists.intro);exact⟨hfin,rfl⟩,by simp[intOf]<;>omega⟩
    ·have hk4':k=4:=by omega
     subst hk4'
     have hfin:OwnD w.heap.size wr u3 (Yp (xs.take (i+1))):=by
      rw[HTK.o];exact hown
     have HF:=zq hfin;clear hown hfin hb hqb;go_wp2_with fail;have hfin:SpO xs w.heap.size w u3 (.int .i64 ((i:Int)+1)) wr:=⟨i+1,by rw[<-HN.o];omega,by go_num,HF.o,HB2.o⟩
     first|exact⟨hfin,by simp[intOf]<;>omega⟩|exact⟨by (repeat apply Exists.intro);exact⟨hfin,rfl⟩,by simp[intOf]<;>omega⟩
  ·have hin:i=n:=by omega
   have hown2:OwnD w.heap.size wr u3 (Yp xs):=by
    rw[List.take_of_length_le (by rw[<-HN.o];omega)]at hown;exact hown
   have HO2:=zq hown2;have HB:=zq hb;clear hown hown2 hb;go_wp2_with fail;refine(Au w.heap.size _ _ _ HO2.o).mono ?_;rintro e w2 ⟨v2,rfl,ho,rfl⟩;have HF:=zq ho;clear ho;go_wp2_with fail;go_ret;exact⟨_,rfl,HF.o,HB.o⟩
end Go.Proofs.YtgfmiladfeoldaaGreatDoor
