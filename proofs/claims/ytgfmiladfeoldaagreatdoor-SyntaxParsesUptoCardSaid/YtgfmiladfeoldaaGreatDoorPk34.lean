/- Joined texts of this claim's proof: RwM, RwB. -/
import Derived.Test.YtgfmiladfeoldaaGreatDoorPk1
import Derived.Test.YtgfmiladfeoldaaGreatDoorPk17
import Derived.Test.YtgfmiladfeoldaaGreatDoorPk33
import Derived.Test.YtgfmiladfeoldaaGreatDoorPk31
import Derived.Test.YtgfmiladfeoldaaGreatDoorPk30
import Derived.Deep.RegionHeld3
import Derived.Deep.AppendLies
import Derived.Deep.DeepCutAuto
import Derived.Deep.CutBlock
set_option linter.unusedSimpArgs false
set_option linter.unusedVariables false
set_option maxRecDepth 100000
set_option maxHeartbeats 16000000
namespace Go.Proofs.YtgfmiladfeoldaaGreatDoor
open Go.RowKit NatP LexP
def Xt (l:List RfP.Op):List Value:=l.flatMap fun o=>[.int .u8 (o.kind:Nat),.string ⟨o.name.toArray⟩,.int .i64 (o.args:Nat)]
theorem W5 (a b:List RfP.Op):Xt (a++b)=Xt a++Xt b:=by simp[Xt]
theorem Sk (l:List RfP.Op):(Xt l).length=l.length*3:=by
 induction l with
 |nil=>rfl
 |cons a l ih=>simp[Xt]at ih ⊢;omega
theorem Wp:∀(a:List RfP.Op) (k:Nat) (o:RfP.Op),a[k]?=some o->
  (Xt a)[k*3]?=some (.int .u8 (o.kind:Nat))/\(Xt a)[k*3+1]?=some (.string ⟨o.name.toArray⟩)/\(Xt a)[k*3+2]?=some (.int .i64 (o.args:Nat)):=by
 intro a
 induction a with
 |nil=>intro k t h;simp at h
 |cons d cs ih=>
  intro k t h
  cases k with
  |zero=>simp at h;subst h;simp[Xt]
  |succ k=>
   simp only[List.getElem?_cons_succ]at h;obtain⟨E,I,H⟩:=ih k t h
   have e0:(k+1)*3=k*3+1+1+1:=by omega
   have e1:(k+1)*3+1=k*3+1+1+1+1:=by omega
   have e2:(k+1)*3+2=k*3+2+1+1+1:=by omega
   have ec:Xt (d::cs)=.int .u8 (d.kind:Nat)::.string ⟨d.name.toArray⟩::.int .i64 (d.args:Nat)::Xt cs:=by simp[Xt]
   rw[e1,e2,e0,ec];simp only[List.getElem?_cons_succ];exact⟨E,I,H⟩
theorem Tryz.infoOp:(Tryz.prog.info? 167).map (fun i=>(i.zero,i.size,i.bytes))=some (some (.agg #[.int .u8 0,.string ⟨#[]⟩,.int .i64 0]),3,32):=by kernel_rfl
structure WM (w:World) (R:Nat) (tv:Value) (L:List Tok) (i:Nat) (nv vv sv:Value) (ns:List Nv) (vs:List Nat) (stk:List RfP.Op) (want pw:Bool) (d:Nat):Prop where
 blk:w.heap[R]?=some (.cells #[tv,.int .i64 (i:Nat),nv,vv,sv,.bool want,.bool pw,.int .i64 (d:Nat)] 116 (0,0))
 tks:TkR w R tv L
 ndo:w.ownsRow (R+1) 43 3 nv ns.length (Xd ns)
 vlo:w.ownsRow (R+1) 3 1 vv vs.length (ints vs)
 sto:w.ownsRow (R+1) 167 3 sv stk.length (Xt stk)
 kids:∀p∈ns,KR w R none p.2 p.1.kids
 kap:∀p∈ns,∀q,p.2.ownBlock=some q->nv.ownBlock≠some q/\vv.ownBlock≠some q/\sv.ownBlock≠some q
 nap:∀q,nv.ownBlock=some q->vv.ownBlock≠some q/\sv.ownBlock≠some q
 vap:∀q,vv.ownBlock=some q->sv.ownBlock≠some q
theorem WM.lt {w:World}{R:Nat}{tv:Value}{L:List Tok}{i:Nat}{nv vv sv:Value}{ns:List Nv}{vs:List Nat}{stk:List RfP.Op}{want pw:Bool}{d:Nat}(h:WM w R tv L i nv vv sv ns vs stk want pw d):R<w.heap.size:=(Array.getElem?_eq_some_iff.1 h.blk).1
theorem WM.cells {w:World}{R:Nat}{tv:Value}{L:List Tok}{i:Nat}{nv vv sv:Value}{ns:List Nv}{vs:List Nat}{stk:List RfP.Op}{want pw:Bool}{d:Nat}(h:WM w R tv L i nv vv sv ns vs stk want pw d):
  w.cell? ⟨R,0,none⟩=some tv/\w.cell? ⟨R,1,none⟩=some (.int .i64 (i:Nat))/\w.cell? ⟨R,2,none⟩=some nv/\w.cell? ⟨R,3,none⟩=some vv/\w.cell? ⟨R,4,none⟩=some sv/\w.cell? ⟨R,5,none⟩=some (.bool want)/\w.cell? ⟨R,6,none⟩=some (.bool pw)/\w.cell? ⟨R,7,none⟩=some (.int .i64 (d:Nat)):=by
 refine⟨?_,?_,?_,?_,?_,?_,?_,?_⟩<;>rw[cell_of_row w R _ _ _ _ h.blk]<;>rfl
theorem WM.fro {w:World}{R:Nat}{tv:Value}{L:List Tok}{i:Nat}{nv vv sv:Value}{ns:List Nv}{vs:List Nat}{stk:List RfP.Op}{want pw:Bool}{d:Nat}(h:WM w R tv L i nv vv sv ns vs stk want pw d)(o:Nat):w.frozen? ⟨R,o,none⟩=false:=frozen_of_row w R o _ _ h.blk
theorem TkR.low {w w':World}{R:Nat}{v:Value}{L:List Tok}(h:TkR w R v L)(hb:∀k,k<R->w'.heap[k]?=w.heap[k]?):TkR w' R v L:=by
 obtain⟨ao,I,rfl,O,K,J⟩:=h;refine⟨ao,I,rfl,O,K,fun h0=> ?_⟩;obtain⟨g,rfl,E,H⟩:=J h0;exact⟨g,rfl,E,fun j t hj=>⟨(World.cell?_of_block (hb g E)).trans (H j t hj).1,(World.cell?_of_block (hb g E)).trans (H j t hj).2.1,(World.cell?_of_block (hb g E)).trans (H j t hj).2.2⟩⟩
theorem KR.at {w w':World}{R:Nat}{v:Value}{ks:List Nat}(h:KR w R none v ks)(hz:w.heap.size<=w'.heap.size)(hb:∀q,v.ownBlock=some q->w'.heap[q]?=w.heap[q]?):KR w' R none v ks:=by
 obtain⟨ao,H,rfl,O,K,E,I⟩:=h;refine⟨ao,H,rfl,O,K,fun q hq=>⟨(E q hq).1,Nat.lt_of_lt_of_le (E q hq).2.1 hz,(E q hq).2.2⟩,fun h0=> ?_⟩;obtain⟨g,rfl,J⟩:=I h0;exact⟨g,rfl,fun j k hj=>(World.cell?_of_block (hb g rfl)).trans (J j k hj)⟩
theorem WM.turn {w w':World}{R:Nat}{tv:Value}{L:List Tok}{i:Nat}{nv vv sv:Value}{ns:List Nv}{vs:List Nat}{stk:List RfP.Op}{want pw:Bool}{d:Nat}(h:WM w R tv L i nv vv sv ns vs stk want pw d)(hz:w.heap.size<=w'.heap.size)
  (hb:∀k,k<w.heap.size->k≠R->w'.heap[k]?=w.heap[k]?) {i':Nat} {want' pw':Bool} {d':Nat} (hR:w'.heap[R]?=some (.cells #[tv,.int .i64 (i':Nat),nv,vv,sv,.bool want',.bool pw',.int .i64 (d':Nat)] 116 (0,0))):
  WM w' R tv L i' nv vv sv ns vs stk want' pw' d' where
 blk:=hR
 tks:=h.tks.low fun k hk=>hb k (Nat.lt_trans hk h.lt) (Nat.ne_of_lt hk)
 ndo:=Q6 h.ndo fun g _ h1 h2=>hb g h2 (by omega)
 vlo:=Q6 h.vlo fun g _ h1 h2=>hb g h2 (by omega)
 sto:=Q6 h.sto fun g _ h1 h2=>hb g h2 (by omega)
 kids:=fun p hp=>(h.kids p hp).at hz fun q hq=>by
  obtain⟨_,_,-,_,_,h3,_⟩:=h.kids p hp;have:=h3 q hq;exact hb q this.2.1 (by omega)
 kap:=h.kap
 nap:=h.nap
 vap:=h.vap
theorem WM.below {w w':World}{R:Nat}{tv:Value}{L:List Tok}{i:Nat}{nv vv sv:Value}{ns:List Nv}{vs:List Nat}{stk:List RfP.Op}{want pw:Bool}{d:Nat}(h:WM w R tv L i nv vv sv ns vs stk want pw d)(hb:Below w.heap.size w w'):WM w' R tv L i nv vv sv ns vs stk want pw d:=
 h.turn hb.size (fun k hk _=>hb.block k hk) ((hb.block R h.lt).trans h.blk)
theorem WM.set {w:World}{R:Nat}{tv:Value}{L:List Tok}{i:Nat}{nv vv sv:Value}{ns:List Nv}{vs:List Nat}{stk:List RfP.Op}{want pw:Bool}{d:Nat}(h:WM w R tv L i nv vv sv ns vs stk want pw d)(o:Nat)(u:Value){i':Nat}{want' pw':Bool}{d':Nat}
  (hc:(#[tv,.int .i64 (i:Nat),nv,vv,sv,.bool want,.bool pw,.int .i64 (d:Nat)]:Array Value).setIfInBounds o u= #[tv,.int .i64 (i':Nat),nv,vv,sv,.bool want',.bool pw',.int .i64 (d':Nat)]):
  WM (w.setCell ⟨R,o,none⟩ u) R tv L i' nv vv sv ns vs stk want' pw' d':=
 h.turn (by simp[World.setCell]) (fun k _ hk=>heap_setCell_other w ⟨R,o,none⟩ k u hk) ((heap_setCell_same w R o _ _ u h.blk).trans (by rw[hc]))
theorem Xv {w:World}{R:Nat}(o:Nat)(u:Value):Below R w (w.setCell ⟨R,o,none⟩ u):=(Below.refl R w).setCell (p:=⟨R,o,none⟩) (Nat.le_refl R) u
theorem X7 {w:World}{B:Nat}{e:TypeId}{z:Nat}{v:Value}{n:Nat}{xs:List Value}{q:Nat}(h:w.ownsRow B e z v n xs)(hq:v.ownBlock=some q):B<=q/\q<w.heap.size:=h.lt q hq
theorem WM.vals {w w':World}{R:Nat}{tv:Value}{L:List Tok}{i:Nat}{nv vv sv:Value}{ns:List Nv}{vs:List Nat}{stk:List RfP.Op}{want pw:Bool}{d:Nat}(h:WM w R tv L i nv vv sv ns vs stk want pw d)(hz:w.heap.size<=w'.heap.size){vv':Value}{vs':List Nat}
  (hb:∀k,k<w.heap.size->k≠R->vv.ownBlock≠some k->w'.heap[k]?=w.heap[k]?) (hown:w'.ownsRow (R+1) 3 1 vv' vs'.length (ints vs')) (hat:∀q,vv'.ownBlock=some q->vv.ownBlock=some q\/w.heap.size<=q)
  (hR:w'.heap[R]?=some (.cells #[tv,.int .i64 (i:Nat),nv,vv',sv,.bool want,.bool pw,.int .i64 (d:Nat)] 116 (0,0))):WM w' R tv L i nv vv' sv ns vs' stk want pw d where
 blk:=hR
 tks:=h.tks.low fun k hk=>hb k (Nat.lt_trans hk h.lt) (Nat.ne_of_lt hk) (fun e=>by have:=(X7 h.vlo e).1;omega)
 ndo:=Q6 h.ndo fun g hg h1 h2=>hb g h2 (by omega) (h.nap g hg).1
 vlo:=hown
 sto:=Q6 h.sto fun g hg h1 h2=>hb g h2 (by omega) (fun e=>h.vap g e hg)
 kids:=fun p hp=>(h.kids p hp).at hz fun q hq=>by
  have hk:=h.kap p hp q hq;obtain⟨_,_,e,_,_,h3,_⟩:=h.kids p hp;have:=h3 q hq;exact hb q this.2.1 (by omega) hk.2.1
 kap:=fun p hp q hq=>by
  obtain⟨a,b,c⟩:=h.kap p hp q hq;refine⟨a,fun e=> ?_,c⟩;obtain⟨_,_,_,_,_,h3,_⟩:=h.kids p hp;have:=h3 q hq;rcases hat q e with h5|h5
  ·exact b h5
  ·omega
 nap:=fun q hq=>by
  obtain⟨a,b⟩:=h.nap q hq;refine⟨fun e=> ?_,b⟩;have:=(X7 h.ndo hq).2;rcases hat q e with h5|h5
  ·exact a h5
  ·omega
 vap:=fun q hq e=>by
  have:=(X7 h.sto e).2;rcases hat q hq with h5|h5
  ·exact h.vap q h5 e
  ·omega
theorem WM.stack {w w':World}{R:Nat}{tv:Value}{L:List Tok}{i:Nat}{nv vv sv:Value}{ns:List Nv}{vs:List Nat}{stk:List RfP.Op}{want pw:Bool}{d:Nat}(h:WM w R tv L i nv vv sv ns vs stk want pw d)(hz:w.heap.size<=w'.heap.size){sv':Value}{stk':List RfP.Op}
  (hb:∀k,k<w.heap.size->k≠R->sv.ownBlock≠some k->w'.heap[k]?=w.heap[k]?) (hown:w'.ownsRow (R+1) 167 3 sv' stk'.length (Xt stk')) (hat:∀q,sv'.ownBlock=some q->sv.ownBlock=some q\/w.heap.size<=q) {i':Nat} {want' pw':Bool} {d':Nat}
  (hR:w'.heap[R]?=some (.cells #[tv,.int .i64 (i':Nat),nv,vv,sv',.bool want',.bool pw',.int .i64 (d':Nat)] 116 (0,0))):WM w' R tv L i' nv vv sv' ns vs stk' want' pw' d' where
 blk:=hR
 tks:=h.tks.low fun k hk=>hb k (Nat.lt_trans hk h.lt) (Nat.ne_of_lt hk) (fun e=>by have:=(X7 h.sto e).1;omega)
 ndo:=Q6 h.ndo fun g hg h1 h2=>hb g h2 (by omega) (h.nap g hg).2
 vlo:=Q6 h.vlo fun g hg h1 h2=>hb g h2 (by omega) (h.vap g hg)
 sto:=hown
 kids:=fun p hp=>(h.kids p hp).at hz fun q hq=>by
  have hk:=h.kap p hp q hq;obtain⟨_,_,e,_,_,h3,_⟩:=h.kids p hp;have:=h3 q hq;exact hb q this.2.1 (by omega) hk.2.2
 kap:=fun p hp q hq=>by
  obtain⟨a,b,c⟩:=h.kap p hp q hq;refine⟨a,b,fun e=> ?_⟩;obtain⟨_,_,_,_,_,h3,_⟩:=h.kids p hp;have:=h3 q hq;rcases hat q e with h5|h5
  ·exact c h5
  ·omega
 nap:=fun q hq=>by
  obtain⟨a,b⟩:=h.nap q hq;refine⟨a,fun e=> ?_⟩;have:=(X7 h.ndo hq).2;rcases hat q e with h5|h5
  ·exact b h5
  ·omega
 vap:=fun q hq e=>by
  have:=(X7 h.vlo hq).2;rcases hat q e with h5|h5
  ·exact h.vap q hq h5
  ·omega
theorem WM.nodes {w w':World}{R:Nat}{tv:Value}{L:List Tok}{i:Nat}{nv vv sv:Value}{ns:List Nv}{vs:List Nat}{stk:List RfP.Op}{want pw:Bool}{d:Nat}(h:WM w R tv L i nv vv sv ns vs stk want pw d)(hz:w.heap.size<=w'.heap.size){nv' kv:Value}{nd:SynP.Node}
  (hb:∀k,k<w.heap.size->k≠R->nv.ownBlock≠some k->w'.heap[k]?=w.heap[k]?) (hown:w'.ownsRow (R+1) 43 3 nv' (ns++[(nd,kv)]).length (Xd (ns++[(nd,kv)]))) (hat:∀q,nv'.ownBlock=some q->nv.ownBlock=some q\/w.heap.size<=q)
  (hk:KR w R none kv nd.kids) (hka:∀q,kv.ownBlock=some q->nv.ownBlock≠some q/\vv.ownBlock≠some q/\sv.ownBlock≠some q)
  (hR:w'.heap[R]?=some (.cells #[tv,.int .i64 (i:Nat),nv',vv,sv,.bool want,.bool pw,.int .i64 (d:Nat)] 116 (0,0))):WM w' R tv L i nv' vv sv (ns++[(nd,kv)]) vs stk want pw d where
 blk:=hR
 tks:=h.tks.low fun k hk=>hb k (Nat.lt_trans hk h.lt) (Nat.ne_of_lt hk) (fun e=>by have:=(X7 h.ndo e).1;omega)
 ndo:=hown
 vlo:=Q6 h.vlo fun g hg h1 h2=>hb g h2 (by omega) (fun e=>(h.nap g e).1 hg)
 sto:=Q6 h.sto fun g hg h1 h2=>hb g h2 (by omega) (fun e=>(h.nap g e).2 hg)
 kids:=fun p hp=>by
  rcases List.mem_append.1 hp with hp|hp
  ·refine(h.kids p hp).at hz fun q hq=> ?_
   have hk:=h.kap p hp q hq;obtain⟨_,_,e,_,_,h3,_⟩:=h.kids p hp;have:=h3 q hq;exact hb q this.2.1 (by omega) hk.1
  ·simp only[List.mem_singleton]at hp
   subst hp;refine hk.at hz fun q hq=> ?_;obtain⟨_,_,e,_,_,h3,_⟩:=hk;have:=h3 q hq;exact hb q this.2.1 (by omega) (hka q hq).1
 kap:=fun p hp q hq=>by
  have key:(nv.ownBlock≠some q/\vv.ownBlock≠some q/\sv.ownBlock≠some q)/\q<w.heap.size:=by
   rcases List.mem_append.1 hp with hp|hp
   ·obtain⟨_,_,_,_,_,h3,_⟩:=h.kids p hp
    exact⟨h.kap p hp q hq,(h3 q hq).2.1⟩
   ·simp only[List.mem_singleton]at hp
    subst hp;obtain⟨_,_,_,_,_,h3,_⟩:=hk;exact⟨hka q hq,(h3 q hq).2.1⟩
  obtain⟨⟨a,b,c⟩,h6⟩:=key;refine⟨fun e=> ?_,b,c⟩;rcases hat q e with h5|h5
  ·exact a h5
  ·omega
 nap:=fun q hq=>by
  rcases hat q hq with h5|h5
  ·exact h.nap q h5
  ·exact⟨fun e=>by have:=(X7 h.vlo e).2;omega,fun e=>by have:=(X7 h.sto e).2;omega⟩
 vap:=h.vap
theorem Qgu {L:List Tok}{k:Nat}{x:Qx}:SynP.Qv x (L.drop k)=(match L[k]? with|some t=>t.1==3 && t.2.1==x|none=>false):=by
 rcases Nat.lt_or_ge k L.length with h|h
 ·rw[List.drop_eq_getElem_cons h,List.getElem?_eq_getElem h];rfl
 ·rw[List.drop_eq_nil_of_le h,List.getElem?_eq_none h];rfl
theorem Vr {L:List Tok}{k j:Nat}:SynP.Qy j (L.drop k)=(match L[k]? with|some t=>t.1==j|none=>false):=by
 rcases Nat.lt_or_ge k L.length with h|h
 ·rw[List.drop_eq_getElem_cons h,List.getElem?_eq_getElem h];rfl
 ·rw[List.drop_eq_nil_of_le h,List.getElem?_eq_none h];rfl
def tkKind (L:List Tok)(k:Nat):Nat:=match L[k]? with|some t=>t.1|none=>0
theorem Ti {L:List Tok}{k:Nat}{t:Tok}(h:L[k]?=some t):tkKind L k=t.1:=by unfold tkKind;rw[h]
theorem To {L:List Tok}{k:Nat}(h:L[k]?=none):tkKind L k=0:=by unfold tkKind;rw[h]
theorem Zy {L:List Tok}{k j:Nat}(hj:j≠0):SynP.Qy j (L.drop k)=(tkKind L k==j):=by
 rw[Vr];unfold tkKind
 cases L[k]? with
 |none=>simpa using Ne.symm hj
 |some t=>rfl
theorem Tw (k:Nat)(hk:k<256)(w:World):
  Calls Tryz.prog 136 #[.int .u8 (k:Nat)] w fun e w'=>e=.returned (.int .i64 (RfP.lev k:Nat))/\w=w':=by
 have h4:∀m:Nat,(((k:Nat):Int)==(m:Int))=(k==m):=fun m=>by rw[Bool.eq_iff_iff];simp;omega
 obtain⟨r,hr⟩:=xq (RfP.lev k);have HR:=zq hr;rw[<-hr];by_cases h1:k=43
 ·subst h1
  clear hr;go_enter Tryz.func136,Tryz.ntmps136;go_wp2_with fail;go_ret;exact⟨by rw[HR.o];rfl,rfl⟩
 by_cases h2:k=45
 ·subst h2
  clear hr;go_enter Tryz.func136,Tryz.ntmps136;go_wp2_with fail;go_ret;exact⟨by rw[HR.o];rfl,rfl⟩
 by_cases h3:k=42
 ·subst h3
  clear hr;go_enter Tryz.func136,Tryz.ntmps136;go_wp2_with fail;go_ret;exact⟨by rw[HR.o];rfl,rfl⟩
 by_cases h5:k=110
 ·subst h5
  clear hr;go_enter Tryz.func136,Tryz.ntmps136;go_wp2_with fail;go_ret;exact⟨by rw[HR.o];rfl,rfl⟩
 have e1:(((k:Nat):Int)==43)=false:=(h4 43).trans (by simpa using h1);have e2:(((k:Nat):Int)==45)=false:=(h4 45).trans (by simpa using h2);have e3:(((k:Nat):Int)==42)=false:=(h4 42).trans (by simpa using h3);have e5:(((k:Nat):Int)==110)=false:=(h4 110).trans (by simpa using h5)
 have hz:r=0:=by rw[hr];unfold RfP.lev;rw[if_neg (by omega),if_neg h3,if_neg h5]
 subst hz;clear hr h1 h2 h3 h5 h4;go_enter Tryz.func136,Tryz.ntmps136;go_wp2_with fail;go_ret;exact⟨rfl,rfl⟩
theorem Td (R:Nat)(tv:Value)(L:List Tok)(k:Nat)(w:World)(c0:w.cell? ⟨R,0,none⟩=some tv)(tks:TkR w R tv L)(hk:k<=9000000000000000):
  Calls Tryz.prog 133 #[.pointer (some ⟨R,0,none⟩),.int .i64 (k:Nat)] w fun e w'=>e=.returned (.int .i64 (tkKind L k:Nat))/\Below w.heap.size w w':=by
 obtain⟨ao,cap,rfl,t1,t2,t3⟩:=tks;obtain⟨n,hn⟩:=xq L.length;have HN:=zq hn;rw[<-hn]at t1 c0;by_cases hlt:k<n
 ·obtain⟨g,rfl,hg,hc⟩:=t3 (by omega)
  obtain⟨t,ht⟩:∃t,L[k]?=some t:=⟨_,List.getElem?_eq_getElem (by omega)⟩;obtain⟨d0,-,-⟩:=hc k t ht;have HT:=zq ht;clear hc ht hn t3;go_enter Tryz.func133,Tryz.ntmps133;go_wp2_with fail;go_ret;exact⟨by rw[Ti HT.o];rfl,Below.refl _ _⟩
 ·have HNO:Hid (L[k]?=none):=List.getElem?_eq_none (by omega)
  clear t3 hn;go_enter Tryz.func133,Tryz.ntmps133;go_wp2_with fail;go_ret;exact⟨by rw[To HNO.o];rfl,Below.refl _ _⟩
theorem Rj (R : Nat) (tv : Value) (L : List Tok) (k : Nat) (x : Qx) (w : World) (c0 : w.cell? ⟨R, 0, none⟩ = some tv) (tks : TkR w R tv L) (hk : k ≤ 9000000000000000) :
    Calls Tryz.prog 85 #[.pointer (some ⟨R, 0, none⟩), .int .i64 (k : Nat), .string ⟨x.toArray⟩] w fun e w' => e = .returned (.bool (SynP.Qv x (L.drop k))) ∧ Below w.heap.size w w' := by
  obtain ⟨ao, cap, rfl, t1, t2, t3⟩ := tks
  obtain ⟨n, hn⟩ : ∃ n, n = L.length := ⟨_, rfl⟩
  have HN := zq hn
  rw [← hn] at t1 c0
  by_cases hlt : k < n
  · obtain ⟨g, rfl, hg, hc⟩ := t3 (by omega)
    obtain ⟨t, ht⟩ : ∃ t, L[k]? = some t := ⟨_, List.getElem?_eq_getElem (by omega)⟩
    obtain ⟨d0, d1, -⟩ := hc k t ht
    have HC : Hid (SynP.Qv x (L.drop k) = (t.1 == 3 && t.2.1 == x)) := by show _ = _; rw [Qgu, ht]
    obtain ⟨tk, tt, tc⟩ := t
    clear hc ht hn t3
    go_enter Tryz.func85, Tryz.ntmps85
    go_wp2_with fail
    all_goals
      go_ret
      refine ⟨?_, Below.refl _ _⟩
      rw [HC.o]
      show Ending.returned (Value.bool _) = Ending.returned (Value.bool _)
      congr 2
      first
        | (have q1 : tk = 3 := by omega
           subst q1; simp)
        | (have q1 : tk ≠ 3 := by omega
           simp [q1])
  · have HC : Hid (SynP.Qv x (L.drop k) = false) := by show _ = _; rw [List.drop_eq_nil_of_le (by omega)]; rfl
    clear t3 hn
    go_enter Tryz.func85, Tryz.ntmps85
    go_wp2_with fail
    go_ret
    exact ⟨by rw [HC.o]; rfl, Below.refl _ _⟩
theorem Qv2 (vs:List Nat)(k:Nat):(ints vs).drop k=ints (vs.drop k):=by simp[ints]
theorem Hj (a b:List Nat):ints (a++b)=ints a++ints b:=by simp[ints]
theorem Qzx (a:List Nat):(ints a).length=a.length:=by simp[ints]
def FrW (R:Nat)(w w':World)(nv vv sv nv' vv' sv':Value):Prop:=
 ∀B,R<B->B<w.heap.size->nv.ownBlock≠some B->vv.ownBlock≠some B->sv.ownBlock≠some B->w'.heap[B]?=w.heap[B]? /\nv'.ownBlock≠some B/\vv'.ownBlock≠some B/\sv'.ownBlock≠some B
def AddP (R:Nat)(tv:Value)(L:List Tok)(i:Nat)(ns:List Nv)(vs:List Nat)(stk:List RfP.Op)(want pw:Bool)(d:Nat)(op n:Nat)(text:Qx)(w:World)(nv vv sv:Value)(e:Ending)(w':World):Prop:=
 e=.returned (.tuple #[])/\Below R w w'/\ ∃nv' vv' sv' kv,WM w' R tv L i nv' vv' sv' (ns++[(⟨op,text,vs.drop (vs.length-n)⟩,kv)]) (vs.take (vs.length-n)++[ns.length]) stk want pw d/\FrW R w w' nv vv sv nv' vv' sv'
theorem Qmc (R:Nat)(tv:Value)(L:List Tok)(i:Nat)(nv vv sv:Value)(ns:List Nv)(vs:List Nat)(stk:List RfP.Op)(want pw:Bool)(d:Nat)(w:World)(h:WM w R tv L i nv vv sv ns vs stk want pw d)
  (op n:Nat) (text:Qx) (hop:op<=255) (hn:n<=vs.length) (hn0:0<n) (hb1:vs.length<=134217728) (hb2:ns.length<=134217728):
  Calls Tryz.prog 137 #[.pointer (some ⟨R,0,none⟩),.int .i64 (op:Nat),.string ⟨text.toArray⟩,.int .i64 (n:Nat)] w (AddP R tv L i ns vs stk want pw d op n text w nv vv sv):=by
 obtain⟨i0,hi,hz0,hz1,hz2⟩:=info_parts Tryz.infoInt;obtain⟨j0,hj,hy0,hy1,hy2⟩:=info_parts Tryz.infoNd;have H:=zq h;have hRl:=h.lt;obtain⟨c0,c1,c2,c3,c4,c5,c6,c7⟩:=h.cells;have f3:=h.fro 3;have f2:=h.fro 2;obtain⟨ao,vcap,rfl,v1,v2,v3⟩:=Qj h.vlo;obtain⟨gv,rfl,hgR,hgl,hgc⟩:=v3 (by omega);obtain⟨m,hm⟩:=xq vs.length;have HM:=zq hm;rw[<-hm]at c3 hn hb1 v1;obtain⟨q,hq⟩:∃q,m=q+n:=⟨m-n,by omega⟩;have HQ:=zq hq;obtain⟨T,hT⟩:=xq (⟨text.toArray⟩:ByteArray);have HT:=zq hT;rw[<-hT]
 obtain⟨no,nn,ncap,hnv⟩:∃no nn ncap,nv=.slice no nn ncap:=by
  obtain⟨a,b,e,-⟩:=Qj h.ndo;exact⟨a,_,b,e⟩
 have hsub:((m:Nat):Int)-((n:Nat):Int)=((q:Nat):Int):=by omega
 have hw1:IntKind.i64.wrap ((q:Nat):Int)=((q:Nat):Int):=IntWalk.i64_in _ (by omega)
 have hlen:m-q=n:=by omega
 have hs0:(0:Int)<=((q:Nat):Int):=by omega
 have hs1:((q:Nat):Int)<=((m:Nat):Int):=by omega
 have hs2:((m:Nat):Int)<=((vcap:Nat):Int):=by omega
 have hne: ¬vcap=q:=by omega
 have hnews:∀j u,(ints (vs.drop q))[j]?=some u->w.cell? ⟨gv,q+j,none⟩=some u:=by
  intro j u hj;have e:=hgc (q+j) (by have:=(List.getElem?_eq_some_iff.1 hj).1;rw[Qzx,List.length_drop]at this;omega);rw[e,<-hj,<-Qv2,List.getElem?_drop]
 have hnl:(ints (vs.drop q)).length=n*1:=by rw[Qzx,List.length_drop,<-hm];omega
 have HNW:=zq hnews;have HNL:=zq hnl
 have HONE:Hid (∀u∈ints (vs.drop q),u.oneCell'=true):=fun u hu=>by
  obtain⟨z,-,rfl⟩:=List.mem_map.1 hu;rfl
 have hba:Below w.heap.size w (w.alloc (.cells #[] 3)):=Qq _ _;have HBA:=zq hba;have HOW:Hid ((w.alloc (.cells #[] 3)).drew.ownsRow (R+1) 3 1 (.slice (some ⟨w.heap.size,0,none⟩) 0 0) 0 []):=X4 ((World.ownsRow_lit w #[] 0 (by omega) (by unfold maxLen;omega) rfl).drew) (show R+1<=w.heap.size by omega);clear h hm hT hnews hnl hba v3 hgc hq;go_enter Tryz.func137,Tryz.ntmps137;go_wp2_with fail
 go_region_held3 (fun w'=>w'.cell? ⟨R,3,none⟩=some (.slice (some ⟨gv,0,none⟩) m vcap))
  (first
   |go_keep
   |(go_split_ands;(rw[hgrow.cell_far _ (by simp;omega) (by simp[Value.ownBlock];omega)];assumption)))
  ((refine step_append_lies _ (by rfl) _ _ _ (by rfl) (R+1) 3 i0 _ 1 8 Tryz.underlying41 hi hz0 hz1 hz2 rfl (by omega) (.slice (some ⟨w.heap.size,0,none⟩) 0 0) 0 [] (by rfl) (by exact HOW.o)
      ⟨gv,q,none⟩ n (vcap-q) (ints (vs.drop q)) (by rfl) HNL.o (fun j u h=>by rw[Qmh];exact(HBA.o.drew.cell (p:=⟨gv,q+j,none⟩) hgl).trans (HNW.o j u h)) HONE.o
      (by omega) (by unfold maxLen;omega) (by omega) (by simp;omega) (w.heap.size+1) (by simp) ?_;intro gg cap4 w2 hown2 hgrow hat hlt2))
 have hb2:Below w.heap.size w w2:=HBA.o.drew.grown hgrow (by simp) (fun q' hq'=>by
  have h1:(Value.slice (some ⟨w.heap.size,0,none⟩) 0 0).ownBlock=some w.heap.size:=rfl
  rw[h1]at hq';cases hq';exact Nat.le_refl _)
 have hgg:w.heap.size<=gg:=by
  rcases hat with h1|h1
  ·have h2:(Value.slice (some ⟨w.heap.size,0,none⟩) 0 0).ownBlock=some w.heap.size:=rfl
   rw[h2]at h1;cases h1;exact Nat.le_refl _
  ·omega
 have hvl:(vs.drop q).length=n:=by rw[List.length_drop,<-HM.o];omega
 have HKR:Hid (KR w2 R none (.slice (some ⟨gg,0,none⟩) n cap4) (vs.drop q)):=by
  have ho:=hown2;simp only[Nat.zero_add,List.nil_append]at ho;obtain⟨ao',cap',e,x1,x2,x3⟩:=Qj ho
  cases e
  refine⟨_,_,by rw[hvl],by rw[hvl];exact x1,x2,fun q' hq'=>⟨?_,?_,by simp⟩,fun h0=>⟨gg,rfl,fun j k hj=> ?_⟩⟩
  ·obtain rfl:gg=q':=Option.some.inj hq'
   exact Nat.lt_of_lt_of_le hRl hgg
  ·obtain rfl:gg=q':=Option.some.inj hq'
   exact hlt2
  ·obtain⟨g',e,-,-,x4⟩:=x3 (by omega)
   cases e
   rw[x4 j (by have:=(List.getElem?_eq_some_iff.1 hj).1;omega)];rw[List.getElem?_drop]at hj;simp[ints,hj]
 have HGG:=zq hgg;have HGL:=zq hlt2;have HB2:=zq hb2;have HW2:=zq (H.o.below hb2);have HVL:=zq hvl;clear c0 c1 c2 c3 c4 c5 c6 c7 f2 f3;obtain⟨c0,c1,c2,c3,c4,c5,c6,c7⟩:=HW2.o.cells;have f3:=HW2.o.fro 3;have hR2:=HW2.o.lt;rw[<-HM.o]at c3;rw[hnv]at c2
 have hnn:nn=ns.length:=by
  obtain⟨a,b,e,-⟩:=Qj HW2.o.ndo;rw[hnv]at e;cases e;rfl
 have HNN:=zq hnn;have HNV:=zq hnv;clear hnv hnn
 have hs3:((q:Nat):Int)<=((vcap:Nat):Int):=by omega
 have HOV:Hid ((w2.alloc (.cells #[.int .i64 (nn:Nat)] 3)).drew.ownsRow (R+1) 3 1 (.slice (some ⟨gv,0,none⟩) q vcap) q (ints (vs.take q))):=by
  have ho:=HW2.o.vlo;rw[<-HM.o]at ho;have h1:=Th ho (show q<=m by omega)
  have e:(ints vs).take q=ints (vs.take q):=by simp[ints]
  rw[e]at h1;exact(Qh h1 (Qq w2 _) (Nat.le_refl _)).drew
 clear hb2 hgg hvl hown2 hgrow hat hlt2;go_wp2_with fail;go_upto_region 1 with fail;go_cut [] (fun wx=>Hid (∃g5 cap5,WM wx R tv L i nv (.slice (some ⟨g5,0,none⟩) (q+1) cap5) sv ns (vs.take q++[ns.length]) stk want pw d/\KR wx R none (.slice (some ⟨gg,0,none⟩) n cap4) (vs.drop q)/\g5≠gg/\Below R w wx/\ ∀B,R<B->B<w.heap.size->(Value.slice (some ⟨gv,0,none⟩) q vcap).ownBlock≠some B->wx.heap[B]?=w.heap[B]? /\g5≠B))
 case first=>
  have HRB:Hid (some R≠(Value.slice (some ⟨gv,0,none⟩) q vcap).ownBlock):=fun e=>by
   have h1:(Value.slice (some ⟨gv,0,none⟩) q vcap).ownBlock=some gv:=rfl;rw[h1]at e;cases e;omega
  have HRL:Hid (R<(w2.alloc (.cells #[.int .i64 (nn:Nat)] 3)).drew.heap.size):=by show _<_;simp;omega
  have HC3:Hid ((w2.alloc (.cells #[.int .i64 (nn:Nat)] 3)).drew.cell? ⟨R,3,none⟩=some (.slice (some ⟨gv,0,none⟩) m vcap)):=((Qq w2 _).drew.cell (p:=⟨R,3,none⟩) hR2).trans c3;have HF3:Hid ((w2.alloc (.cells #[.int .i64 (nn:Nat)] 3)).drew.frozen? ⟨R,3,none⟩=false):=((Qq w2 _).drew.frozen (p:=⟨R,3,none⟩) hR2).trans f3
  have HASM:Hid (∀g6 cap6 w5,w5.ownsRow (R+1) 3 1 (.slice (some ⟨g6,0,none⟩) (q+1) cap6) (q+1) (ints (vs.take q)++[.int .i64 (nn:Nat)])->(w2.alloc (.cells #[.int .i64 (nn:Nat)] 3)).drew.grownBy w5 (Value.slice (some ⟨gv,0,none⟩) q vcap).ownBlock->
    ((Value.slice (some ⟨gv,0,none⟩) q vcap).ownBlock=some g6\/g6=w2.heap.size+1)->Hid (∃g5 cap5,WM (w5.setCell ⟨R,3,none⟩ (.slice (some ⟨g6,0,none⟩) (q+1) cap6)) R tv L i nv (.slice (some ⟨g5,0,none⟩) (q+1) cap5) sv ns (vs.take q++[ns.length]) stk want pw d/\KR (w5.setCell ⟨R,3,none⟩ (.slice (some ⟨g6,0,none⟩) (q+1) cap6)) R none (.slice (some ⟨gg,0,none⟩) n cap4) (vs.drop q)/\g5≠gg/\Below R w (w5.setCell ⟨R,3,none⟩ (.slice (some ⟨g6,0,none⟩) (q+1) cap6))/\ ∀B,R<B->B<w.heap.size->(Value.slice (some ⟨gv,0,none⟩) q vcap).ownBlock≠some B->(w5.setCell ⟨R,3,none⟩ (.slice (some ⟨g6,0,none⟩) (q+1) cap6)).heap[B]?=w.heap[B]? /\g5≠B)):=by
   intro g5 cap5 w5 ho hg hat;have hob:(Value.slice (some ⟨gv,0,none⟩) q vcap).ownBlock=some gv:=rfl;rw[hob]at hg hat;have hgl5:=HGL.o;have hgg5:=HGG.o
   have hsz:w2.heap.size+1<=w5.heap.size:=by have:=hg.size;simpa using this
   have hblk:∀k,k<w2.heap.size->k≠gv->w5.heap[k]?=w2.heap[k]? :=fun k hk hne=>
    (hg.block k (by simp;omega) (by simp;exact fun e=>hne e)).trans ((Qq w2 (.cells #[.int .i64 (nn:Nat)] 3)).drew.block k hk)
   have hset:∀k,k≠R->(w5.setCell ⟨R,3,none⟩ (.slice (some ⟨g5,0,none⟩) (q+1) cap5)).heap[k]?=w5.heap[k]? :=fun k hk=>heap_setCell_other w5 ⟨R,3,none⟩ k _ hk;have hR5:=(hblk R hR2 (by omega)).trans HW2.o.blk;have hR6:=(heap_setCell_same w5 R 3 _ _ (.slice (some ⟨g5,0,none⟩) (q+1) cap5) hR5)
   have hg5:g5=gv\/g5=w2.heap.size+1:=by
    rcases hat with e|e
    ·cases e;exact .inl rfl
    ·exact .inr e
   refine⟨g5,cap5,HW2.o.vals (by simp[World.setCell];omega) (fun k hk hkR hkv=> ?_) ?_ (fun q' hq'=> ?_) (hR6.trans (by simp)),?_,?_,?_,?_⟩
   ·rw[hset k hkR]
    exact hblk k hk (fun e=>hkv (by rw[e];rfl))
   ·have hl:(vs.take q++[ns.length]).length=q+1:=by rw[List.length_append,List.length_take,<-HM.o];simp<;>omega
    rw[hl,Hj]
    have e:ints [ns.length]=[Value.int .i64 (nn:Nat)]:=by rw[HNN.o];rfl
    rw[e];exact Q6 ho (fun g _ h1 _=>hset g (by omega))
   ·obtain rfl:g5=q':=Option.some.inj hq'
    rcases hg5 with e|e
    ·left;rw[e];rfl
    ·right;omega
   ·exact HKR.o.at (by simp[World.setCell];omega) (fun q' hq'=>by
     obtain rfl:gg=q':=Option.some.inj hq';rw[hset gg (by omega)]
     exact hblk gg hgl5 (by omega))
   ·rcases hg5 with e|e<;>omega
   ·refine⟨hg.os.trans HB2.o.os,hg.tape.trans HB2.o.tape,hg.output.trans HB2.o.output,by simp[World.setCell];have:=HB2.o.size;omega,fun k hk=> ?_⟩
    rw[hset k (by omega),hblk k (by omega) (by omega)];exact HB2.o.block k (by omega)
   ·refine fun B hRB hB hne=>⟨?_,?_⟩
    ·exact(hset B (by omega)).trans ((hblk B (by have:=HB2.o.size;omega) (fun e=>hne (by rw[e];rfl))).trans (HB2.o.block B hB))
    ·have:=HB2.o.size
     rcases hg5 with e|e
     ·rw[e];exact fun e=>hne (by rw[e];rfl)
     ·omega
  go_region_law
   ((refine step_append_lies _ (by rfl) _ _ _ (by rfl) (R+1) 3 i0 _ 1 8 Tryz.underlying41 hi hz0 hz1 hz2 rfl (by omega) (.slice (some ⟨gv,0,none⟩) q vcap) q (ints (vs.take q)) (by rfl) (by exact HOV.o) ⟨w2.heap.size,0,none⟩ 1 1 [.int .i64 (nn:Nat)] (by rfl) (by rfl) (World.news_of_block (cs:= #[.int .i64 (nn:Nat)]) (heap_alloc_new _ _)) (Vu _ rfl) (by omega) (by unfold maxLen;omega) (by omega) (by simp;omega) (w2.heap.size+1) (by simp) ?_;intro g5 cap5 w5 hown5 hgrow5 hat5 hlt5;have e3:w5.cell? ⟨R,3,none⟩=some (.slice (some ⟨gv,0,none⟩) m vcap):=(hgrow5.cell_far ⟨R,3,none⟩ HRL.o HRB.o).trans HC3.o;have e4:w5.frozen? ⟨R,3,none⟩=false:=(hgrow5.frozen_far ⟨R,3,none⟩ HRL.o HRB.o).trans HF3.o))
  all_goals
   have HF:=HASM.o g5 cap5 w5 hown5 hgrow5 hat5;clear hown5 hgrow5 hat5 hlt5 e3 e4;go_wp2_with fail;go_meet;exact HF
 case rest=>
  obtain⟨g5,cap5,hw,hk,hgne,hb,hfr⟩:=hcut.o;have HFR:=zq hfr;have HW:=zq hw;have HK:=zq hk;have HB:=zq hb;clear c0 c1 c2 c3 c4 c5 c6 c7 f3 hcut;obtain⟨c0,c1,c2,c3,c4,c5,c6,c7⟩:=HW.o.cells;have f2:=HW.o.fro 2;have hRc:=HW.o.lt;rw[HNV.o]at c2
  have HOWN:Hid ((wc.alloc (.cells #[.int .i64 (op:Nat),.string T,.slice (some ⟨gg,0,none⟩) n cap4] 43)).ownsRow (R+1) 43 3 (.slice no nn ncap) nn (Xd ns)):=by
   have h1:=HW.o.ndo;rw[HNV.o,<-HNN.o]at h1;exact Qh h1 (Qq _ _) (Nat.le_refl _)
  have hnn:nn<=134217728:=by rw[HNN.o];exact hb2
  clear hw hk hb hfr;go_wp2_with (at_builtin;refine wpList_append_lies _ rfl _ _ 23 rfl (R+1) 43 j0 (.agg #[.int .i64 0,.string ⟨#[]⟩,.slice none 0 0]) 3 48 Tryz.underlying23 hj hy0 hy1 hy2 rfl (by omega) (.slice no nn ncap) nn (Xd ns) rfl HOWN.o ⟨wc.heap.size,0,none⟩ 1 1 [.int .i64 (op:Nat),.string T,.slice (some ⟨gg,0,none⟩) n cap4] rfl rfl (LexP.Qb _ _ _ _ rfl) (by simp[Value.oneCell']) (by omega) (by unfold maxLen;omega) (by omega) (by simp;omega) (wc.heap.size+1) (by simp) ?_);intro g7 cap7 w7 hown7 hgrow7 hat7 hlt7
  have hnb:some R≠(Value.slice no nn ncap).ownBlock:=fun e=>by
   have:=(X7 HOWN.o e.symm).1;omega
  have hRa:R<(wc.alloc (.cells #[.int .i64 (op:Nat),.string T,.slice (some ⟨gg,0,none⟩) n cap4] 43)).heap.size:=by simp;omega
  have e2:w7.cell? ⟨R,2,none⟩=some (.slice no nn ncap):=(hgrow7.cell_far ⟨R,2,none⟩ hRa hnb).trans (((Qq wc _).cell (p:=⟨R,2,none⟩) hRc).trans c2);have e4:w7.frozen? ⟨R,2,none⟩=false:=(hgrow7.frozen_far ⟨R,2,none⟩ hRa hnb).trans (((Qq wc _).frozen (p:=⟨R,2,none⟩) hRc).trans f2)
  have hFIN:Hid (AddP R tv L i ns vs stk want pw d op n text w nv (.slice (some ⟨gv,0,none⟩) vs.length vcap) sv (.returned (.tuple #[])) (w7.setCell ⟨R,2,none⟩ (.slice (some ⟨g7,0,none⟩) (nn+1) cap7))):=by
   have hsz:wc.heap.size+1<=w7.heap.size:=by have:=hgrow7.size;simpa using this
   have hnv':=HNV.o
   have hblk:∀k,k<wc.heap.size->nv.ownBlock≠some k->w7.heap[k]?=wc.heap[k]? :=fun k hk hne=>
    (hgrow7.block k (by simp;omega) (by rw[<-hnv'];exact fun e=>hne e.symm)).trans ((Qq wc _).block k hk)
   have hset:∀k,k≠R->(w7.setCell ⟨R,2,none⟩ (.slice (some ⟨g7,0,none⟩) (nn+1) cap7)).heap[k]?=w7.heap[k]? :=fun k hk=>heap_setCell_other w7 ⟨R,2,none⟩ k _ hk;have hR7:=(hblk R hRc (by rw[hnv'];exact fun e=>hnb e.symm)).trans HW.o.blk;have hR8:=(heap_setCell_same w7 R 2 _ _ (.slice (some ⟨g7,0,none⟩) (nn+1) cap7) hR7)
   have hke:vs.drop (vs.length-n)=vs.drop q:=by rw[<-HM.o,HQ.o,Nat.add_sub_cancel]
   have hte:vs.take (vs.length-n)=vs.take q:=by rw[<-HM.o,HQ.o,Nat.add_sub_cancel]
   refine⟨rfl,?_,.slice (some ⟨g7,0,none⟩) (nn+1) cap7,.slice (some ⟨g5,0,none⟩) (q+1) cap5,sv,.slice (some ⟨gg,0,none⟩) n cap4,?_,?_⟩
   ·refine⟨hgrow7.os.trans HB.o.os,hgrow7.tape.trans HB.o.tape,hgrow7.output.trans HB.o.output,by simp[World.setCell];have:=HB.o.size;omega,fun k hk=> ?_⟩
    rw[hset k (by omega),hblk k (by omega) (fun e=>by have:=(X7 HW.o.ndo e).1;omega)];exact HB.o.block k hk
   ·rw[hke,hte]
    refine HW.o.nodes (by simp[World.setCell];omega) (fun k hk hkR hkn=> ?_) ?_ (fun q' hq'=> ?_) HK.o (fun q' hq'=> ?_) (hR8.trans (by simp))
    ·rw[hset k hkR];exact hblk k hk hkn
    ·have e1:(ns++[((⟨op,text,vs.drop q⟩:SynP.Node),Value.slice (some ⟨gg,0,none⟩) n cap4)]).length=nn+1:=by rw[List.length_append,<-HNN.o];rfl
     rw[e1,Wa]
     have e2:Xd [((⟨op,text,vs.drop q⟩:SynP.Node),Value.slice (some ⟨gg,0,none⟩) n cap4)]=[.int .i64 (op:Nat),.string T,.slice (some ⟨gg,0,none⟩) n cap4]:=by rw[HT.o];rfl
     rw[e2];exact Q6 hown7 (fun g _ h1 _=>hset g (by omega))
    ·obtain rfl:g7=q':=Option.some.inj hq'
     rw[hnv'];rcases hat7 with e|e
     ·exact .inl e
     ·right;omega
    ·obtain rfl:gg=q':=Option.some.inj hq'
     have hg1:=HGG.o;refine⟨fun e=> ?_,fun e=>hgne (Option.some.inj e),fun e=> ?_⟩
     ·have:=(X7 H.o.ndo e).2;omega
     ·have:=(X7 H.o.sto e).2;omega
   ·intro B hRB hB k1 k2 k3
    obtain⟨y1,y2⟩:=HFR.o B hRB hB k2;have hsz2:=HB.o.size;refine⟨(hset B (by omega)).trans ((hblk B (by omega) k1).trans y1),fun e=> ?_,fun e=>y2 (Option.some.inj e),k3⟩;obtain rfl:g7=B:=Option.some.inj e;rcases hat7 with e|e
    ·exact k1 (by rw[hnv'];exact e)
    ·omega
  clear hown7 hgrow7 hat7 hlt7 hnb hRa;go_wp2_with fail;go_end0;exact hFIN.o
end Go.Proofs.YtgfmiladfeoldaaGreatDoor
