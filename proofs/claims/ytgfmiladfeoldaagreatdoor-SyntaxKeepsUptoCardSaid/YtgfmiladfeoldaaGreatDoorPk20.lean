import Derived.Test.YtgfmiladfeoldaaGreatDoorPk18
import Derived.Test.YtgfmiladfeoldaaGreatDoorPk19
import Derived.Deep.Slices
set_option linter.unusedSimpArgs false
set_option linter.unusedVariables false
set_option maxRecDepth 100000
set_option maxHeartbeats 16000000
namespace Go.Proofs.YtgfmiladfeoldaaGreatDoor
open Go.RowKit NatP LexP
theorem Rn:∀(a:List Nv) (k:Nat) (t:Nv),a[k]?=some t->
  (Yw a)[k*3]?=some (.int .i64 (t.1.op:Nat))/\(Yw a)[k*3+1]?=some (.string ⟨t.1.text.toArray⟩)/\(Yw a)[k*3+2]?=some t.2:=by
 intro a
 induction a with
 |nil=>intro k t h;simp at h
 |cons d cs ih=>
  intro k t h
  cases k with
  |zero=>simp at h;subst h;simp[Yw]
  |succ k=>
   simp only[List.getElem?_cons_succ]at h;obtain⟨E,H,I⟩:=ih k t h
   have e0:(k+1)*3=k*3+1+1+1:=by omega
   have e1:(k+1)*3+1=k*3+1+1+1+1:=by omega
   have e2:(k+1)*3+2=k*3+2+1+1+1:=by omega
   have ec:Yw (d::cs)=.int .i64 (d.1.op:Nat)::.string ⟨d.1.text.toArray⟩::d.2::Yw cs:=by simp[Yw]
   rw[e1,e2,e0,ec];simp only[List.getElem?_cons_succ];exact⟨E,H,I⟩
theorem KR.kl {w:World}{R:Nat}{og:Option Nat}{v:Value}{ks:List Nat}(h:KR w R og v ks):KL w w.heap.size v (ks.map fun k:Nat=>(k:Int)):=by
 obtain⟨ao,E,rfl,H,I,J,K,-⟩:=h;refine⟨ao,E,by rw[List.length_map],by simpa using H,I,fun h0=> ?_⟩;rw[List.length_map]at h0;obtain⟨g,rfl,O⟩:=K h0;refine⟨g,rfl,(J g rfl).2.1,fun j k hj=> ?_⟩;rw[List.getElem?_map]at hj
 cases ha:ks[j]? with
 |none=>rw[ha]at hj;cases hj
 |some a=>rw[ha]at hj;cases hj;exact O j a ha
theorem Tr.ndl {w:World}{B:Nat}{nv:Value}{ns:List Nv}(h:Tr w B nv ns):NdL w w.heap.size nv (SynP.nL (ns.map Prod.fst)):=by
 obtain⟨ao,H,rfl,a1,a2,a3⟩:=Qm h.own
 have E:(SynP.nL (ns.map Prod.fst)).length=ns.length:=by simp[SynP.nL]
 refine⟨ao,H,by rw[E],by rw[E];exact a1,a2,fun h0=> ?_⟩;rw[E]at h0;obtain⟨g,rfl,-,b2,b3⟩:=a3 h0;refine⟨g,rfl,b2,fun j x hj=> ?_⟩;simp only[SynP.nL,List.map_map,List.getElem?_map]at hj
 cases hp:ns[j]? with
 |none=>rw[hp]at hj;cases hj
 |some p=>
  rw[hp]at hj
  cases hj
  have I:=(List.getElem?_eq_some_iff.1 hp).1;obtain⟨c1,c2,c3⟩:=Rn ns j p hp;exact⟨by rw[b3 _ (by omega)];exact c1,by rw[b3 _ (by omega)];exact c2,p.2,by rw[b3 _ (by omega)];exact c3,(h.kids p (List.mem_of_getElem? hp)).kl⟩
theorem KL.up {w w':World}{B:Nat}{v:Value}{ks:List Int}(h:KL w B v ks)(hb:Below B w w'){B':Nat}(hB:B<=B'):KL w' B' v ks:=by
 obtain⟨ao,E,rfl,H,I,J⟩:=h.below hb;refine⟨ao,E,rfl,H,I,fun h0=> ?_⟩;obtain⟨g,rfl,K,O⟩:=J h0;exact⟨g,rfl,Nat.lt_of_lt_of_le K hB,O⟩
theorem NdL.up {w w':World}{B:Nat}{v:Value}{l:List SynP.NI}(h:NdL w B v l)(hb:Below B w w'){B':Nat}(hB:B<=B'):NdL w' B' v l:=by
 obtain⟨ao,E,rfl,H,I,J⟩:=h.below hb;refine⟨ao,E,rfl,H,I,fun h0=> ?_⟩;obtain⟨g,rfl,K,O⟩:=J h0;refine⟨g,rfl,Nat.lt_of_lt_of_le K hB,fun j x hj=> ?_⟩;obtain⟨a,b,kv,c,d⟩:=O j x hj;exact⟨a,b,kv,c,d.up (Below.refl _ _) hB⟩
def KA (w:World)(v:Value)(ks:List Int):Prop:=∃ao cap,v=.slice ao ks.length cap/\ks.length<=cap/\cap<=maxLen/\
  ∀j k,ks[j]?=some k-> ∃g o,ao=some ⟨g,o,none⟩/\g<w.heap.size/\w.cell? ⟨g,o+j,none⟩=some (.int .i64 k)
def NdA (w:World)(v:Value)(l:List SynP.NI):Prop:=∃ao cap,v=.slice ao l.length cap/\l.length<=cap/\cap<=maxLen/\
  ∀j x,l[j]?=some x-> ∃g o,ao=some ⟨g,o,none⟩/\g<w.heap.size/\w.cell? ⟨g,o+j*3,none⟩=some (.int .i64 x.op)/\w.cell? ⟨g,o+j*3+1,none⟩=some (.string ⟨x.text.toArray⟩)/\ ∃kv,w.cell? ⟨g,o+j*3+2,none⟩=some kv/\KA w kv x.kids
theorem KL.ka {w:World}{B:Nat}{v:Value}{ks:List Int}(h:KL w B v ks)(hB:B<=w.heap.size):KA w v ks:=by
 obtain⟨ao,E,rfl,H,I,J⟩:=h;refine⟨ao,E,rfl,H,I,fun j x hj=> ?_⟩;obtain⟨g,rfl,K,O⟩:=J (by have:=(List.getElem?_eq_some_iff.1 hj).1;omega);exact⟨g,0,rfl,Nat.lt_of_lt_of_le K hB,by rw[Nat.zero_add];exact O j x hj⟩
theorem NdL.nda {w:World}{B:Nat}{v:Value}{l:List SynP.NI}(h:NdL w B v l)(hB:B<=w.heap.size):NdA w v l:=by
 obtain⟨ao,E,rfl,H,I,J⟩:=h;refine⟨ao,E,rfl,H,I,fun j x hj=> ?_⟩;obtain⟨g,rfl,K,O⟩:=J (by have:=(List.getElem?_eq_some_iff.1 hj).1;omega);obtain⟨a,b,kv,c,d⟩:=O j x hj;exact⟨g,0,rfl,Nat.lt_of_lt_of_le K hB,by rw[Nat.zero_add];exact a,by rw[Nat.zero_add];exact b,kv,by rw[Nat.zero_add];exact c,d.ka hB⟩
theorem KA.below {w w':World}{v:Value}{ks:List Int}(h:KA w v ks)(hb:Below w.heap.size w w'):KA w' v ks:=by
 obtain⟨ao,E,rfl,I,J,K⟩:=h;refine⟨ao,E,rfl,I,J,fun j x hj=> ?_⟩;obtain⟨g,o,rfl,H,O⟩:=K j x hj;exact⟨g,o,rfl,Nat.lt_of_lt_of_le H hb.size,(hb.cell (p:=⟨g,o+j,none⟩) H).trans O⟩
theorem NdA.below {w w':World}{v:Value}{l:List SynP.NI}(h:NdA w v l)(hb:Below w.heap.size w w'):NdA w' v l:=by
 obtain⟨ao,H,rfl,I,J,K⟩:=h;refine⟨ao,H,rfl,I,J,fun j x hj=> ?_⟩;obtain⟨g,o,rfl,E,a,b,kv,c,d⟩:=K j x hj;exact⟨g,o,rfl,Nat.lt_of_lt_of_le E hb.size,(hb.cell (p:=⟨g,o+j*3,none⟩) E).trans a,(hb.cell (p:=⟨g,o+j*3+1,none⟩) E).trans b,kv,(hb.cell (p:=⟨g,o+j*3+2,none⟩) E).trans c,d.below hb⟩
def Qt (w w':World):Prop:=Hid (∃n,w'=w.drewN n)
theorem Qt.refl (w:World):Qt w w:=(⟨0,rfl⟩:∃n,w=w.drewN n)
theorem Qt.is {w w':World}(h:Qt w w'):∃n,w'=w.drewN n:=h
theorem Qt.trans {a b c:World}(h:Qt a b)(k:Qt b c):Qt a c:=by
 obtain⟨n,rfl⟩:=h.is;obtain⟨m,rfl⟩:=k.is;exact(⟨n+m,by rw[World.drewN_drewN]⟩:∃x,(a.drewN n).drewN m=a.drewN x)
theorem Qt.next {w w':World}(h:Qt w w')(m:Nat):Qt w (w'.drewN m):=h.trans (⟨m,rfl⟩:∃n,w'.drewN m=w'.drewN n)
theorem Qt.below {w w':World}(h:Qt w w'):Below w.heap.size w w':=by
 obtain⟨n,rfl⟩:=h.is;exact below_drewN w n
theorem Gw (v u:Value)(l:List SynP.NI)(w:World)(hv:NdA w v l)(hu:NdA w u l):
  Calls Tryz.prog 16 #[v,u] w fun e w'=>e=.returned (.bool true)/\ ∃n,w'=w.drewN n:=by
 have HV:=zq hv;have HU:=zq hu;obtain⟨ao,cap,rfl,hnc,hcm,-⟩:=hv;obtain⟨bo,cap2,rfl,hnc2,hcm2,-⟩:=hu
 have hm:l.length<=9223372036854775807:=by unfold maxLen at hcm;omega
 have HCM:=zq hcm;clear hcm hcm2;go_enter Tryz.func16,Tryz.ntmps16;go_wp2_with fail;go_loopw [5] (fun i wr=> ∃k:Nat,k<=l.length/\i=.int .i64 (k:Nat)/\Qt w wr) (fun i _=>l.length-(intOf i).toNat)
 case atStart=>exact⟨0,Nat.zero_le _,rfl,Qt.refl _⟩
 case round=>
  obtain⟨k,hk,rfl,hqt⟩:=hrel;have hb:=hqt.below;obtain⟨wo,rfl⟩:=xq wr;by_cases hlt:k<l.length
  ·obtain⟨x,hx⟩:∃c,l[k]?=some c:=⟨_,List.getElem?_eq_getElem hlt⟩
   have HXX:=zq hx;obtain⟨a1,c1,q1,-,-,hc1⟩:=HV.o.below hb;obtain⟨a2,c2,q2,-,-,hc2⟩:=HU.o.below hb
   cases q1
   cases q2
   obtain⟨g,o,rfl,hg,e0,e1,kv,e2,hk1⟩:=hc1 k x hx;obtain⟨g',o',rfl,hg',e0',e1',kv',e2',hk2⟩:=hc2 k x hx;have HK1:=zq hk1;have HK2:=zq hk2;obtain⟨ko,kcap,rfl,k1,k2,-⟩:=hk1;obtain⟨ko',kcap',rfl,k1',k2',-⟩:=hk2;obtain⟨m,hme⟩:=xq x.kids.length;rw[<-hme]at e2 e2' k1 k1' HK1 HK2;have HME:=zq hme
   have hm63:m<=9223372036854775807:=by unfold maxLen at k2;omega
   have HB:=zq hb;have hzb:=hb.size;clear hc1 hc2 hx hme k2 k2' hb;go_wp2_with fail;go_quiet (fail);go_wp2_with fail;go_loopw [6] (fun j wr'=> ∃p:Nat,p<=m/\j=.int .i64 (p:Nat)/\Qt wo wr') (fun j _=>m-(intOf j).toNat)
   case atStart=>exact⟨0,Nat.zero_le _,rfl,(Qt.refl wo).next _⟩
   case round=>
    obtain⟨p,hp,rfl,hqp⟩:=hrel;have hbp:=hqp.below;have f2:wr.cell? ⟨g,o+k*3+2,none⟩=some (.slice ko m kcap):=(hbp.cell (p:=⟨g,o+k*3+2,none⟩) hg).trans e2;have f2':wr.cell? ⟨g',o'+k*3+2,none⟩=some (.slice ko' m kcap'):=(hbp.cell (p:=⟨g',o'+k*3+2,none⟩) hg').trans e2';have HBP:=zq hbp;by_cases hpl:p<m
    ·obtain⟨y,hy⟩:∃c,x.kids[p]?=some c:=⟨_,List.getElem?_eq_getElem (by rw[<-HME.o];exact hpl)⟩
     obtain⟨_,_,q1,-,-,hd1⟩:=HK1.o.below hbp;obtain⟨_,_,q2,-,-,hd2⟩:=HK2.o.below hbp
     cases q1
     cases q2
     obtain⟨gk,ok,rfl,-,h1⟩:=hd1 p y hy;obtain⟨gk',ok',rfl,-,h2⟩:=hd2 p y hy;clear hd1 hd2 hbp hy;go_wp2_with fail;go_quiet (fail);go_wp2_with fail;exact⟨⟨p+1,by omega,by go_num,hqp.next _⟩,by simp[intOf];omega⟩
    ·obtain rfl:p=m:=by omega
     clear hbp;go_wp2_with fail;have hfin:∃q:Nat,q<=l.length/\Value.int .i64 ((k:Int)+1)=.int .i64 (q:Nat)/\Qt w wr:=⟨k+1,by omega,by go_num,hqt.trans hqp⟩;exact⟨hfin,by simp[intOf];omega⟩
  ·have HB:=zq hb
   clear hb;go_wp2_with fail;go_ret;exact⟨rfl,hqt.is⟩
def CtO (l:List SynP.NI)(w:World)(iv:Value)(wr:World):Prop:=
 ∃(i:Nat) (cur:Array Value),i<=l.length/\iv=.int .i64 (i:Nat)/\wr.heap[w.heap.size]?=some (.cells cur 43 (0,0))/\cur.size=l.length*3/\
  (∀j x,j<i->l[j]?=some x->cur[j*3]?=some (.int .i64 x.op)/\cur[j*3+1]?=some (.string ⟨x.text.toArray⟩)/\ ∃kv,cur[j*3+2]?=some kv/\wr.ownsRow (w.heap.size+1) 3 1 kv x.kids.length (x.kids.map fun k=>Value.int .i64 k))/\Below w.heap.size w wr
theorem KL.of_row {w:World}{b:Nat}{v:Value}{ks:List Int}(h:w.ownsRow b 3 1 v ks.length (ks.map fun k=>Value.int .i64 k)):KL w w.heap.size v ks:=by
 obtain⟨ao,E,rfl,H,I,J⟩:=Qm h;refine⟨ao,E,rfl,H,I,fun h0=> ?_⟩;obtain⟨g,rfl,-,K,O⟩:=J h0;refine⟨g,rfl,K,fun j k hj=> ?_⟩;rw[O j (by have:=(List.getElem?_eq_some_iff.1 hj).1;omega),List.getElem?_map,hj];rfl
theorem CtO.done {l:List SynP.NI}{w wr:World}(h:CtO l w (.int .i64 (l.length:Nat)) wr)(hm:l.length<=maxLen):NdL wr wr.heap.size (.slice (some ⟨w.heap.size,0,none⟩) l.length l.length) l:=by
 obtain⟨i,J,K,H,E,O,I,T⟩:=h;simp only[Value.int.injEq,true_and,Int.ofNat_inj]at H;subst H;refine⟨_,_,rfl,Nat.le_refl _,hm,fun h0=>⟨_,rfl,(Array.getElem?_eq_some_iff.1 E).1,fun j x hj=> ?_⟩⟩;obtain⟨a,b,kv,c,d⟩:=I j x (List.getElem?_eq_some_iff.1 hj).1 hj;refine⟨by rw[cell_of_row _ _ _ _ _ _ E];exact a,by rw[cell_of_row _ _ _ _ _ _ E];exact b,kv,by rw[cell_of_row _ _ _ _ _ _ E];exact c,KL.of_row d⟩
theorem C4 (w:World)(ty:TypeId)(H:Nat)(ko:Option Addr)(kcap:Nat):
  (Builtin.append_ #[41,41] ty #[.slice (some ⟨H,0,none⟩) 0 0,.slice ko 0 kcap]).run Tryz.prog w=.ok (.slice (some ⟨H,0,none⟩) 0 0) w:=by
 obtain⟨i0,h,E,I,J⟩:=info_parts Tryz.infoInt
 cases ko<;>simp[Builtin.append_,run_underlying Tryz.underlying41,sizeOf,typeInfo,h,Builtin.lenOf,Builtin.firstCells,storeCells,loadCells,loadCellsFrom]
theorem Nd {w:World}{ops:Array Oper}{o:Oper}{a:Act}{K:Act->World->Prop}{Q:Exit->Act->World->Prop}{E:Prop}(hgd:o.guard=none)(s x:Operand)
  (ho:o.op=.call {callee:=.builtin .append,args:= #[s,x],argTypes:= #[41,41]}) (H:Nat) (ko:Option Addr) (kcap:Nat) (hs:a.eval s=.slice (some ⟨H,0,none⟩) 0 0) (hx:a.eval x=.slice ko 0 kcap)
  (h:∀w',Hid (w'=w)->K (a.put o.dst (.slice (some ⟨H,0,none⟩) 0 0)) w'):if Region.wanted o (yielded ops a.tmps)=true then Oper.wp Tryz.prog o a w K Q else E:=by
 have I:Region.wanted o (yielded ops a.tmps)=true:=by simp[Region.wanted,hgd]
 rw[if_pos I];unfold Oper.wp execOp;simp only[ho,resolve,invoke,builtin,Sem.run_bind,Sem.run_pure,Result.andThen_ok,List.map_toArray,List.map_cons,List.map_nil,hs,hx,C4];exact h _ rfl
theorem Xc {w:World}{p q:Addr}{x:Value}(h:(w.cell? q).isSome=true):((w.setCell p x).cell? q).isSome=true:=by
 obtain⟨v,H⟩:=Option.isSome_iff_exists.1 h;obtain⟨v',E⟩:=cell?_setCell_some (p:=p) (x:=x) H;rw[E];rfl
theorem Qk2 (g o k:Nat):(⟨g,o,none⟩:Addr).add k=⟨g,o+k,none⟩:=by simp[Addr.add]
theorem Pf {w w':World}{b:Nat}{e:TypeId}{z:Nat}{v:Value}{n:Nat}{xs:List Value}(h:w.ownsRow b e z v n xs)(hk:∀g,v.ownBlock=some g->b<=g->g<w.heap.size->w'.heap[g]?=w.heap[g]?):w'.ownsRow b e z v n xs:=by
 refine⟨h.1,?_⟩;rcases h.2 with O|⟨g,I,J,rfl,K,E,H⟩
 ·exact .inl O
 ·exact .inr ⟨g,I,J,rfl,K,(hk g rfl K (Array.getElem?_eq_some_iff.1 E).1).trans E,H⟩
theorem CtO.step {l:List SynP.NI}{w wr w2:World}{i:Nat}{cur:Array Value}{op:Int}{text:Qx}{kids:List Int}{T:ByteArray}{kv:Value}(hi:i<l.length)(hx:l[i]?=some ⟨op,text,kids⟩)(hT:T=⟨text.toArray⟩)
  (hG:wr.heap[w.heap.size]?=some (.cells cur 43 (0,0))) (hcs:cur.size=l.length*3)
  (hok:∀j x,j<i->l[j]?=some x->cur[j*3]?=some (.int .i64 x.op)/\cur[j*3+1]?=some (.string ⟨x.text.toArray⟩)/\ ∃kv,cur[j*3+2]?=some kv/\wr.ownsRow (w.heap.size+1) 3 1 kv x.kids.length (x.kids.map fun k=>Value.int .i64 k))
  (hb:Below w.heap.size w wr) (hg:Below wr.heap.size wr w2) (hown:w2.ownsRow (w.heap.size+1) 3 1 kv kids.length (kids.map fun k=>Value.int .i64 k)):
  CtO l w (.int .i64 ((i+1:Nat):Int)) (((w2.setCell ⟨w.heap.size,i*3,none⟩ (.int .i64 op)).setCell ⟨w.heap.size,i*3+1,none⟩ (.string T)).setCell ⟨w.heap.size,i*3+2,none⟩ kv):=by
 have H:=(Array.getElem?_eq_some_iff.1 hG).1;have E:w2.heap[w.heap.size]?=some (.cells cur 43 (0,0)):=(hg.block _ H).trans hG;have s0:=heap_setCell_same w2 w.heap.size (i*3) _ 43 (.int .i64 op) E;have s1:=heap_setCell_same _ w.heap.size (i*3+1) _ 43 (.string T) s0;have s2:=heap_setCell_same _ w.heap.size (i*3+2) _ 43 kv s1
 have h:∀g,g≠w.heap.size->(((w2.setCell ⟨w.heap.size,i*3,none⟩ (.int .i64 op)).setCell ⟨w.heap.size,i*3+1,none⟩ (.string T)).setCell ⟨w.heap.size,i*3+2,none⟩ kv).heap[g]?=w2.heap[g]? :=fun g hne=>
  (heap_setCell_other _ ⟨w.heap.size,i*3+2,none⟩ g _ hne).trans ((heap_setCell_other _ ⟨w.heap.size,i*3+1,none⟩ g _ hne).trans (heap_setCell_other _ ⟨w.heap.size,i*3,none⟩ g _ hne))
 refine⟨i+1,_,by omega,rfl,s2,by simp[hcs],fun j x hj hjx=> ?_,?_⟩
 ·by_cases hji:j=i
  ·subst hji
   rw[hx]at hjx
   cases hjx
   refine⟨?_,?_,kv,?_,?_⟩
   ·simp[Array.getElem?_setIfInBounds];omega
   ·simp[Array.getElem?_setIfInBounds,hT];omega
   ·simp[Array.getElem?_setIfInBounds];omega
   ·exact Pf hown (fun g _ h1 _=>h g (by omega))
  ·obtain⟨a,b,kv',c,d⟩:=hok j x (by omega) hjx
   refine⟨?_,?_,kv',?_,?_⟩
   ·rw[<-a];simp[Array.getElem?_setIfInBounds];rw[if_neg (by omega),if_neg (by omega),if_neg (by omega)]
   ·rw[<-b];simp[Array.getElem?_setIfInBounds];rw[if_neg (by omega),if_neg (by omega),if_neg (by omega)]
   ·rw[<-c];simp[Array.getElem?_setIfInBounds];rw[if_neg (by omega),if_neg (by omega),if_neg (by omega)]
   ·exact Pf d (fun g _ h1 h2=>(h g (by omega)).trans (hg.block g h2))
 ·exact(((hb.trans (hg.mono hb.size)).setCell (p:=⟨w.heap.size,i*3,none⟩) (Nat.le_refl _) _).setCell (p:=⟨w.heap.size,i*3+1,none⟩) (Nat.le_refl _) _).setCell (p:=⟨w.heap.size,i*3+2,none⟩) (Nat.le_refl _) _
theorem Fb (v : Value) (l : List SynP.NI) (w : World) (hl : l.length ≤ 4194304) (hk : ∀ x ∈ l, x.kids.length ≤ 4194304) (hv : NdA w v l) :
    Calls Tryz.prog 15 #[v] w fun e w' => e = .returned (.slice (some ⟨w.heap.size, 0, none⟩) l.length l.length) ∧ CtO l w (.int .i64 (l.length : Nat)) w' := by
  obtain ⟨i0, hi, hz0, hz1, hz2⟩ := info_parts Tryz.infoInt
  obtain ⟨j0, hj, hy0, hy1, hy2⟩ := info_parts Tryz.infoNd
  have HV := zq hv
  have HK := zq hk
  obtain ⟨ao, cap, rfl, hnc, hcm, -⟩ := hv
  have hcap63 : cap ≤ 9223372036854775807 := by unfold maxLen at hcm; omega
  obtain ⟨n, hn⟩ : ∃ n, n = l.length := ⟨_, rfl⟩
  rw [← hn] at hl hnc ⊢
  have HN := zq hn
  clear hn hk hcm
  go_enter Tryz.func15, Tryz.ntmps15
  go_wp2_with (at_make; refine wpList_make_full _ rfl _ _ 23 rfl w.heap.size 43 j0 (.agg #[.int .i64 0, .string ⟨#[]⟩, .slice none 0 0]) 3 Tryz.underlying23 hj hy0 hy1 _ _ _ _ n rfl rfl rfl rfl (by rw [hy2]; omega) (by unfold maxLen; omega) (Nat.le_refl _) ?_)
  intro w1 hown1 hgrow1
  have HB1 : Hid (Below w.heap.size w w1) := ⟨hgrow1.os, hgrow1.tape, hgrow1.output, hgrow1.size, fun k hk => hgrow1.block k hk (by simp)⟩
  have HST : Hid (CtO l w (.int .i64 0) w1) := by
    obtain ⟨o1, o2⟩ := hown1
    rcases o2 with ⟨h, -⟩ | ⟨g, cp, cur, h, -, h2, -, -, h3, -⟩
    · cases h
    · cases h
      exact ⟨0, cur, Nat.zero_le _, rfl, h2, by rw [← HN.o]; exact h3, fun j x hj _ => absurd hj (Nat.not_lt_zero _), HB1.o⟩
  clear hown1 hgrow1 HB1
  go_wp2_with fail
  go_loopw [4] (fun iv wr => CtO l w iv wr) (fun iv _ => n - (intOf iv).toNat)
  case atStart => exact HST.o
  clear HST
  case round =>
    have hrel0 := hrel
    obtain ⟨i, cur, hi', rfl, hG, hcs, hok, hb⟩ := hrel
    rw [← HN.o] at hi' hcs
    have HG := zq hG
    have HOK := zq hok
    have HB := zq hb
    have HREL := zq hrel0
    have hzb := hb.size
    have hgl := (Array.getElem?_eq_some_iff.1 hG).1
    clear hok hrel0
    by_cases hlt : i < n
    · obtain ⟨x, hx⟩ : ∃ x, l[i]? = some x := ⟨_, List.getElem?_eq_getElem (by rw [← HN.o]; exact hlt)⟩
      have HXX := zq hx
      have hkx : x.kids.length ≤ 4194304 := HK.o x (List.mem_of_getElem? hx)
      obtain ⟨ao2, cap2, he, -, -, hc⟩ := HV.o.below hb
      cases he
      obtain ⟨gt, ot, rfl, hgt, e0, e1, kv, e2, hka⟩ := hc i x hx
      obtain ⟨a2, c2, he, -, -, hc2⟩ := HV.o
      cases he
      obtain ⟨gt', ot', q, hgt', -⟩ := hc2 i x hx
      cases q
      have HKA := zq hka
      obtain ⟨ko, kcap, rfl, k1, k2, k3⟩ := hka
      have hk63 : kcap ≤ 9223372036854775807 := by unfold maxLen at k2; omega
      obtain ⟨op, text, kids⟩ := x
      simp only at e0 e1 e2 hkx k1 k3 HKA
      obtain ⟨k, hke⟩ : ∃ k, k = kids.length := ⟨_, rfl⟩
      rw [← hke] at e2 k1 hkx
      obtain ⟨T, hT⟩ : ∃ T : ByteArray, T = ⟨text.toArray⟩ := ⟨_, rfl⟩
      rw [← hT] at e1
      have HTT := zq hT
      have HKE := zq hke
      clear hc hc2 hx hT
      obtain ⟨g0, hg0⟩ : ∃ g0, g0 = w.heap.size := ⟨_, rfl⟩
      have HG0 := zq hg0
      rw [← hg0] at hG hgl HG hzb hgt' ⊢
      have z0 : wr.frozen? ⟨g0, i * 3, none⟩ = false := frozen_of_row _ _ _ _ _ hG
      have z1 : wr.frozen? ⟨g0, i * 3 + 1, none⟩ = false := frozen_of_row _ _ _ _ _ hG
      have z2 : wr.frozen? ⟨g0, i * 3 + 2, none⟩ = false := frozen_of_row _ _ _ _ _ hG
      have hGA : (wr.alloc (.cells #[] 3)).heap[g0]? = some (.cells cur 43 (0, 0)) := ((Qq wr (.cells #[] 3)).block g0 hgl).trans hG
      have za0 : (wr.alloc (.cells #[] 3)).frozen? ⟨g0, i * 3, none⟩ = false := frozen_of_row _ _ _ _ _ hGA
      have za1 : (wr.alloc (.cells #[] 3)).frozen? ⟨g0, i * 3 + 1, none⟩ = false := frozen_of_row _ _ _ _ _ hGA
      have za2 : (wr.alloc (.cells #[] 3)).frozen? ⟨g0, i * 3 + 2, none⟩ = false := frozen_of_row _ _ _ _ _ hGA
      have HGA := zq hGA
      clear hGA
      have y0 : (wr.cell? ⟨g0, i * 3, none⟩).isSome = true := by rw [cell_of_row _ _ _ _ _ _ hG, Array.getElem?_eq_getElem (by omega)]; rfl
      have y1 : (wr.cell? ⟨g0, i * 3 + 1, none⟩).isSome = true := by rw [cell_of_row _ _ _ _ _ _ hG, Array.getElem?_eq_getElem (by omega)]; rfl
      have y2 : (wr.cell? ⟨g0, i * 3 + 2, none⟩).isSome = true := by rw [cell_of_row _ _ _ _ _ _ hG, Array.getElem?_eq_getElem (by omega)]; rfl
      have ya0 : ((wr.alloc (.cells #[] 3)).cell? ⟨g0, i * 3, none⟩).isSome = true := by rw [(Qq wr (.cells #[] 3)).cell (p := ⟨g0, i * 3, none⟩) hgl]; exact y0
      have ya1 : ((wr.alloc (.cells #[] 3)).cell? ⟨g0, i * 3 + 1, none⟩).isSome = true := by rw [(Qq wr (.cells #[] 3)).cell (p := ⟨g0, i * 3 + 1, none⟩) hgl]; exact y1
      have ya2 : ((wr.alloc (.cells #[] 3)).cell? ⟨g0, i * 3 + 2, none⟩).isSome = true := by rw [(Qq wr (.cells #[] 3)).cell (p := ⟨g0, i * 3 + 2, none⟩) hgl]; exact y2
      have hne : g0 ≠ gt := by omega
      obtain ⟨U, hU⟩ : ∃ U : Nat → World → Value, ∀ j w', (w'.cell? ⟨g0, j, none⟩).isSome = true → w'.cell? ⟨g0, j, none⟩ = some (U j w') :=
        ⟨fun j w' => (w'.cell? ⟨g0, j, none⟩).getD undef, fun j w' h => by obtain ⟨v, hv⟩ := Option.isSome_iff_exists.1 h; simp [hv]⟩
      have HU := zq hU
      clear hU
      have Y0 := zq y0
      have Y1 := zq y1
      have Y2 := zq y2
      have YA0 := zq ya0
      have YA1 := zq ya1
      have YA2 := zq ya2
      clear y0 y1 y2 ya0 ya1 ya2
      have hzlt : gt < wr.heap.size := hgt
      have hstep : ∀ (w2 : World) (kv : Value), Below wr.heap.size wr w2 → w2.ownsRow (g0 + 1) 3 1 kv kids.length (kids.map fun k => Value.int .i64 k) →
          CtO l w (.int .i64 ((i : Int) + 1)) (((w2.setCell ⟨g0, i * 3, none⟩ (.int .i64 op)).setCell ⟨g0, i * 3 + 1, none⟩ (.string T)).setCell ⟨g0, i * 3 + 2, none⟩ kv) := by
        intro w2 kv hgb hown
        have e := CtO.step (l := l) (w := w) (i := i) (text := text) (T := T) (by rw [← HN.o]; exact hlt) HXX.o HTT.o (by rw [← HG0.o]; exact hG) (by rw [← HN.o]; exact hcs) HOK.o HB.o hgb (by rw [← HG0.o]; exact hown) (op := op) (kv := kv)
        rw [← HG0.o, show (((i + 1 : Nat)) : Int) = (i : Int) + 1 by omega] at e
        exact e
      have HSTEP := zq hstep
      clear hstep
      have hwi1 : IntKind.i64.wrap ((i : Int) + 1) = (i : Int) + 1 := IntWalk.i64_in _ (by omega)
      by_cases hk0 : k = 0
      · subst hk0
        have hkn : kids = [] := List.eq_nil_of_length_eq_zero HKE.o.symm
        have HFF : Hid (∀ w2, w2 = (wr.alloc (.cells #[] 3)).drew → Hid (CtO l w (.int .i64 ((i : Int) + 1)) (((w2.setCell ⟨g0, i * 3, none⟩ (.int .i64 op)).setCell ⟨g0, i * 3 + 1, none⟩ (.string T)).setCell ⟨g0, i * 3 + 2, none⟩ (.slice (some ⟨wr.heap.size, 0, none⟩) 0 0)))) := by
          intro w2 e
          subst e
          refine HSTEP.o _ _ ((Qq wr (.cells #[] 3)).drew) ?_
          subst hkn
          exact (World.ownsRow_lit wr #[] 0 (by omega) (by unfold maxLen; omega) rfl).drew
        clear k3 hke hg0 hkn
        go_wp2_with fail
        go_region_held3 (fun w' => w'.cell? ⟨gt, ot + i * 3, none⟩ = some (.int .i64 op) ∧ w'.cell? ⟨gt, ot + i * 3 + 1, none⟩ = some (.string T) ∧ w'.cell? ⟨gt, ot + i * 3 + 2, none⟩ = some (.slice ko 0 kcap) ∧ w'.frozen? ⟨g0, i * 3, none⟩ = false ∧ w'.frozen? ⟨g0, i * 3 + 1, none⟩ = false ∧ w'.frozen? ⟨g0, i * 3 + 2, none⟩ = false ∧ w'.cell? ⟨g0, i * 3, none⟩ = some (U (i * 3) w') ∧ w'.cell? ⟨g0, i * 3 + 1, none⟩ = some (U (i * 3 + 1) w') ∧ w'.cell? ⟨g0, i * 3 + 2, none⟩ = some (U (i * 3 + 2) w'))
          (first
            | (refine ⟨?_, ?_, ?_, ?_, ?_, ?_, HU.o _ _ (by exact Y0.o), HU.o _ _ (by exact Y1.o), HU.o _ _ (by exact Y2.o)⟩ <;> go_keep)
            | (refine ⟨?_, ?_, ?_, by exact za0, by exact za1, by exact za2, HU.o _ _ (by exact YA0.o), HU.o _ _ (by exact YA1.o), HU.o _ _ (by exact YA2.o)⟩ <;> go_keep)
            | (rw [hw2.o]; refine ⟨?_, ?_, ?_, by exact za0, by exact za1, by exact za2, HU.o _ _ (by exact YA0.o), HU.o _ _ (by exact YA1.o), HU.o _ _ (by exact YA2.o)⟩ <;> go_keep)
            | (go_split_ands
               refine ⟨?_, ?_, ?_, ?_, ?_, ?_, HU.o _ _ (Xc (Xc (Xc ?_))), HU.o _ _ (Xc (Xc (Xc ?_))), HU.o _ _ (Xc (Xc (Xc ?_)))⟩ <;> go_keep))
          ((refine Nd (by rfl) _ _ (by rfl) wr.heap.size ko kcap (by rfl) (by rfl) ?_; intro w2 hw2))
        have HF := HFF.o w2 hw2.o
        clear HFF hw2
        go_wp2_with fail
        exact ⟨HF.o, by simp [intOf]; omega⟩
      · obtain ⟨gk, ok, hko, hgk, -⟩ := k3 0 kids[0] (by rw [List.getElem?_eq_getElem (by omega)])
        subst hko
        have hnews : ∀ j u, (kids.map fun k => Value.int .i64 k)[j]? = some u → wr.cell? ⟨gk, ok + j, none⟩ = some u := by
          intro j u hj
          rw [List.getElem?_map] at hj
          cases hp : kids[j]? with
          | none => rw [hp] at hj; cases hj
          | some y =>
            rw [hp] at hj
            cases hj
            obtain ⟨g2, o2, q, -, h3⟩ := k3 j y hp
            cases q
            exact h3
        have HNW := zq hnews
        have hnl : (kids.map fun k => Value.int .i64 k).length = k * 1 := by rw [List.length_map, ← HKE.o]; omega
        have HNL := zq hnl
        have hones : ∀ u ∈ kids.map fun k => Value.int .i64 k, u.oneCell' = true := fun u hu => by obtain ⟨z, -, rfl⟩ := List.mem_map.1 hu; rfl
        have HONE := zq hones
        have HOW : Hid ((wr.alloc (.cells #[] 3)).drew.ownsRow (g0 + 1) 3 1 (.slice (some ⟨wr.heap.size, 0, none⟩) 0 0) 0 []) := (World.ownsRow_lit wr #[] 0 (by omega) (by unfold maxLen; omega) rfl).drew
        have hba : Below wr.heap.size wr (wr.alloc (.cells #[] 3)) := Qq _ _
        have HBA := zq hba
        clear k3 hnews hke hnl hones hba hg0
        go_wp2_with fail
        go_region_held3 (fun w' => w'.cell? ⟨gt, ot + i * 3, none⟩ = some (.int .i64 op) ∧ w'.cell? ⟨gt, ot + i * 3 + 1, none⟩ = some (.string T) ∧ w'.cell? ⟨gt, ot + i * 3 + 2, none⟩ = some (.slice (some ⟨gk, ok, none⟩) k kcap) ∧ w'.frozen? ⟨g0, i * 3, none⟩ = false ∧ w'.frozen? ⟨g0, i * 3 + 1, none⟩ = false ∧ w'.frozen? ⟨g0, i * 3 + 2, none⟩ = false ∧ w'.cell? ⟨g0, i * 3, none⟩ = some (U (i * 3) w') ∧ w'.cell? ⟨g0, i * 3 + 1, none⟩ = some (U (i * 3 + 1) w') ∧ w'.cell? ⟨g0, i * 3 + 2, none⟩ = some (U (i * 3 + 2) w'))
          (first
            | (refine ⟨?_, ?_, ?_, ?_, ?_, ?_, HU.o _ _ (by exact Y0.o), HU.o _ _ (by exact Y1.o), HU.o _ _ (by exact Y2.o)⟩ <;> go_keep)
            | (refine ⟨?_, ?_, ?_, by exact za0, by exact za1, by exact za2, HU.o _ _ (by exact YA0.o), HU.o _ _ (by exact YA1.o), HU.o _ _ (by exact YA2.o)⟩ <;> go_keep)
            | (go_split_ands
               refine ⟨?_, ?_, ?_, ?_, ?_, ?_, HU.o _ _ ?_, HU.o _ _ ?_, HU.o _ _ ?_⟩
               · (rw [hgrow.cell_far _ (by simp; omega) (by simp [Value.ownBlock]; omega)]; assumption)
               · (rw [hgrow.cell_far _ (by simp; omega) (by simp [Value.ownBlock]; omega)]; assumption)
               · (rw [hgrow.cell_far _ (by simp; omega) (by simp [Value.ownBlock]; omega)]; assumption)
               · (rw [hgrow.frozen_far _ (by simp; omega) (by simp [Value.ownBlock]; omega)]; assumption)
               · (rw [hgrow.frozen_far _ (by simp; omega) (by simp [Value.ownBlock]; omega)]; assumption)
               · (rw [hgrow.frozen_far _ (by simp; omega) (by simp [Value.ownBlock]; omega)]; assumption)
               · (rw [hgrow.cell_far _ (by simp; omega) (by simp [Value.ownBlock]; omega)]; exact YA0.o)
               · (rw [hgrow.cell_far _ (by simp; omega) (by simp [Value.ownBlock]; omega)]; exact YA1.o)
               · (rw [hgrow.cell_far _ (by simp; omega) (by simp [Value.ownBlock]; omega)]; exact YA2.o))
            | (go_split_ands
               refine ⟨?_, ?_, ?_, ?_, ?_, ?_, HU.o _ _ (Xc (Xc (Xc ?_))), HU.o _ _ (Xc (Xc (Xc ?_))), HU.o _ _ (Xc (Xc (Xc ?_)))⟩ <;> go_keep))
          ((refine step_append_lies _ (by rfl) _ _ _ (by rfl) (g0 + 1) 3 i0 _ 1 8 Tryz.underlying41 hi hz0 hz1 hz2 rfl (by omega) (.slice (some ⟨wr.heap.size, 0, none⟩) 0 0) 0 [] (by rfl) (by exact HOW.o)
              ⟨gk, ok, none⟩ k kcap (kids.map fun k => Value.int .i64 k) (by rfl) HNL.o (fun j u h => by rw [Qk2]; exact (HBA.o.drew.cell (p := ⟨gk, ok + j, none⟩) hgk).trans (HNW.o j u h)) HONE.o
              (by omega) (by unfold maxLen; omega) (by omega) (by simp; omega) (wr.heap.size + 1) (by simp) ?_; intro gg cap4 w2 hown2 hgrow hat hlt2))
        have hb2 : Below wr.heap.size wr w2 := HBA.o.drew.grown hgrow (by simp) (fun q hq => by
          have h1 : (Value.slice (some ⟨wr.heap.size, 0, none⟩) 0 0).ownBlock = some wr.heap.size := rfl
          rw [h1] at hq; cases hq; exact Nat.le_refl _)
        have hown2' : w2.ownsRow (g0 + 1) 3 1 (.slice (some ⟨gg, 0, none⟩) k cap4) kids.length (kids.map fun k => Value.int .i64 k) := by
          have := hown2
          simp only [Nat.zero_add, List.nil_append] at this
          rw [← HKE.o]; exact this
        have HF := zq (HSTEP.o w2 (.slice (some ⟨gg, 0, none⟩) k cap4) hb2 hown2')
        clear hb2 hown2' hown2 hgrow hat hlt2
        go_wp2_with fail
        exact ⟨HF.o, by simp [intOf]; omega⟩
    · obtain rfl : i = n := by omega
      clear hlt
      go_wp2_with fail
      go_ret
      exact ⟨rfl, HREL.o⟩
theorem Qk8 (v:Value)(l:List SynP.NI)(w:World)(hl:l.length<=4194304)(hk:∀x∈l,x.kids.length<=4194304)(hv:NdA w v l):
  Calls Tryz.prog 15 #[v] w fun e w'=> ∃u,e=.returned u/\NdL w' w'.heap.size u l/\Below w.heap.size w w':=
 (Fb v l w hl hk hv).mono fun e w' h=>by
  obtain⟨rfl,E⟩:=h;have H:=E.done (by unfold maxLen;omega);obtain⟨_,_,_,_,_,_,_,I⟩:=E;exact⟨_,rfl,H,I⟩
def IWw (w:World)(v:Value)(l:List (Bool×List Nat)):Prop:=∃ao cap,v=.slice ao l.length cap/\l.length<=cap/\cap<=maxLen/\(0<l.length-> ∃g o,ao=some ⟨g,o,none⟩/\g<w.heap.size/\ ∀j p,l[j]?=some p-> ∃m,w.cell? ⟨g,o+j*2,none⟩=some (.bool p.1)/\w.cell? ⟨g,o+j*2+1,none⟩=some m/\RdW w m p.2)
theorem IWw.below {w w':World}{v:Value}{l:List (Bool×List Nat)}(h:IWw w v l)(hb:Below w.heap.size w w'):IWw w' v l:=by
 obtain⟨ao,E,e,H,I,J⟩:=h;refine⟨ao,E,e,H,I,fun h0=> ?_⟩;obtain⟨g,o,rfl,a2,a3⟩:=J h0;refine⟨g,o,rfl,Nat.lt_of_lt_of_le a2 hb.size,fun j p hj=> ?_⟩;obtain⟨m,b1,b2,b3⟩:=a3 j p hj;exact⟨m,Ya hb b1,Ya hb b2,b3.below hb⟩
def FRd (w:World)(v:Value)(fs:List (List Int)):Prop:=Sl w v fs.length fun j u=> ∃ks,fs[j]?=some ks/\KA w u ks
theorem FRd.below {w w':World}{v:Value}{fs:List (List Int)}(h:FRd w v fs)(hb:Below w.heap.size w w'):FRd w' v fs:=
 Sl.mono h hb fun _ _ ⟨n,a,b⟩=>⟨n,a,b.below hb⟩
def Qwr (ks:List Int):Prop:=ks≠[]/\ ∀k∈ks,0<=k
instance (ks:List Int):Decidable (Qwr ks):=by unfold Qwr;infer_instance
def cxOk (fs:List (List Int)):Prop:=∀ks∈fs,Qwr ks
instance (fs:List (List Int)):Decidable (cxOk fs):=by unfold cxOk;infer_instance
def KF (B:Nat)(w:World)(v:Value)(ks:List Int):Prop:=KA w v ks/\ ∀k,v.ownBlock=some k->B<=k/\k<w.heap.size
theorem KF.of_row {w:World}{B n:Nat}{v:Value}{ks:List Int}(h:w.ownsRow B 3 1 v n (ks.map fun k=>Value.int .i64 k))(hn:n=ks.length):KF B w v ks:=by
 subst hn;obtain⟨ao,E,rfl,H,I,J⟩:=Qm h;refine⟨⟨ao,E,rfl,H,I,fun i x hx=> ?_⟩,fun k hk=>h.lt k hk⟩;have K:=(List.getElem?_eq_some_iff.1 hx).1;obtain⟨g,rfl,-,a2,a3⟩:=J (by omega);refine⟨g,0,rfl,a2,?_⟩;rw[Nat.zero_add,a3 i (by omega)];simp[hx]
theorem Tryz.infoLs:(Tryz.prog.info? 41).map (fun i=>(i.zero,i.size,i.bytes))=some (some (.slice none 0 0),1,24):=by kernel_rfl
theorem Ck (l:List (Bool×List Nat))(v u:Value)(w:World)(hv:IWw w v l)(hu:IWw w u l)(hn:l.length<=1073741824):
  Calls Tryz.prog 22 #[v,u] w fun e w'=>e=.returned (.bool true)/\Below w.heap.size w w':=by
 obtain⟨ao,cap,rfl,-,-,h3⟩:=hv;obtain⟨bo,cap2,rfl,-,-,g3⟩:=hu;obtain⟨n,hnn⟩:=xq l.length;rw[<-hnn]at hn ⊢;have HNN:=zq hnn;have H3:=zq h3;have G3:=zq g3;clear h3 g3 hnn;go_enter Tryz.func22,Tryz.ntmps22;go_wp2_with fail;go_loopw [5] (fun iv wr=> ∃i:Nat,iv=.int .i64 (i:Nat)/\i<=n/\Below w.heap.size w wr) (fun iv _=>n-(intOf iv).toNat)
 case atStart=>exact⟨0,rfl,Nat.zero_le _,Below.refl _ _⟩
 case round=>
  obtain⟨i,rfl,hin,hbl⟩:=hrel;have HBL:=zq hbl;have hzr:=hbl.size;by_cases hlt:i<n
  ·obtain⟨e,he⟩:∃e,l[i]?=some e:=⟨_,List.getElem?_eq_getElem (by rw[<-HNN.o];exact hlt)⟩
   obtain⟨b,xs⟩:=e;obtain⟨ga,o,rfl,hga,hc⟩:=H3.o (by rw[<-HNN.o];omega);obtain⟨gb,o2,rfl,hgb,hc2⟩:=G3.o (by rw[<-HNN.o];omega);obtain⟨m,e0,e1,hrd⟩:=hc i _ he;obtain⟨m2,d0,d1,hrd2⟩:=hc2 i _ he;replace e0:=(hbl.cell (p:=⟨ga,o+i*2,none⟩) hga).trans e0;replace e1:=(hbl.cell (p:=⟨ga,o+i*2+1,none⟩) hga).trans e1;replace d0:=(hbl.cell (p:=⟨gb,o2+i*2,none⟩) hgb).trans d0;replace d1:=(hbl.cell (p:=⟨gb,o2+i*2+1,none⟩) hgb).trans d1;replace hrd:=(hrd.below hbl).below (Below.refl wr.heap.size wr).drew;replace hrd2:=(hrd2.below hbl).below (Below.refl wr.heap.size wr).drew;obtain⟨mo,mcap,rfl,-,-,-,-⟩:=hrd.2;obtain⟨mo2,mcap2,rfl,-,-,-,-⟩:=hrd2.2;simp only at e0 e1 d0 d1 hrd hrd2;have HRD:=zq hrd;have HRD2:=zq hrd2;have hi0:(0:Int)<=(i:Int):=Int.natCast_nonneg _
   have hi1:(i:Int)<(n:Int):=by omega
   have hbb:(b !=b)=false:=by cases b<;>rfl
   clear he hc hc2 hrd hrd2 hbl;go_wp2_with fail
   go_region_held3 (fun w'=>w'.cell? ⟨ga,o+i*2,none⟩=some (.bool b)/\w'.cell? ⟨ga,o+i*2+1,none⟩=some (.slice mo xs.length mcap)/\w'.cell? ⟨gb,o2+i*2,none⟩=some (.bool b)/\w'.cell? ⟨gb,o2+i*2+1,none⟩=some (.slice mo2 xs.length mcap2))
    (first
     |go_keep
     |exact⟨Ya b2 e0,Ya b2 e1,Ya b2 d0,Ya b2 d1⟩)
    ((go_at_call 36;refine(Qkz _ _ xs _ HRD.o HRD2.o).mono ?_;rintro e w2 ⟨rfl,b2⟩))
   have HB2:=zq (HBL.o.drew.trans (b2.mono hzr));clear b2 e0 e1 d0 d1;go_wp2_with fail;have hfin:Below w.heap.size w w2:=HB2.o
   exact⟨⟨i+1,by go_num,by omega,hfin⟩,by simp[intOf]<;>omega⟩
  ·clear hbl
   go_wp2_with fail;go_ret;exact⟨rfl,HBL.o⟩
theorem G0 (fs:List (List Int))(v u:Value)(w:World)(hv:FRd w v fs)(hu:FRd w u fs)(hn:fs.length<=1073741824)(hl:∀ks∈fs,ks.length<=1073741824):
  Calls Tryz.prog 23 #[v,u] w fun e w'=>e=.returned (.bool true)/\Below w.heap.size w w':=by
 obtain⟨ao,cap,rfl,-,-,h3⟩:=hv;obtain⟨bo,cap2,rfl,-,-,g3⟩:=hu;obtain⟨n,hnn⟩:=xq fs.length;rw[<-hnn]at hn h3 g3 ⊢;have HNN:=zq hnn;have HL:=zq hl;have H3:=zq h3;have G3:=zq g3;clear h3 g3 hnn hl;go_enter Tryz.func23,Tryz.ntmps23;go_wp2_with fail;go_loopw [5] (fun iv wr=> ∃i:Nat,iv=.int .i64 (i:Nat)/\i<=n/\Below w.heap.size w wr) (fun iv _=>n-(intOf iv).toNat)
 case atStart=>exact⟨0,rfl,Nat.zero_le _,Below.refl _ _⟩
 case round=>
  obtain⟨i,rfl,hin,hbl⟩:=hrel;obtain⟨wo,rfl⟩:=xq wr;have HBL:=zq hbl;have hzr:=hbl.size;by_cases hlt:i<n
  ·obtain⟨ga,o,rfl,hga,hc⟩:=H3.o (by omega)
   obtain⟨gb,o2,rfl,hgb,hc2⟩:=G3.o (by omega);obtain⟨m,e0,ks,hk,hka⟩:=hc i hlt;obtain⟨m2,d0,ks2,hk2,hka2⟩:=hc2 i hlt;rw[hk]at hk2;cases hk2;have hkl:=HL.o ks (List.mem_of_getElem? hk);replace e0:=(hbl.cell (p:=⟨ga,o+i,none⟩) hga).trans e0;replace d0:=(hbl.cell (p:=⟨gb,o2+i,none⟩) hgb).trans d0;replace hka:=hka.below hbl;replace hka2:=hka2.below hbl;obtain⟨mo,mcap,rfl,-,-,hs3⟩:=hka;obtain⟨mo2,mcap2,rfl,-,-,hs4⟩:=hka2;obtain⟨kl,hkk⟩:=xq ks.length;rw[<-hkk]at e0 d0 hkl;have HKK:=zq hkk;have HS3:=zq hs3;have HS4:=zq hs4;have E0:=zq e0;have D0:=zq d0;have hi0:(0:Int)<=(i:Int):=Int.natCast_nonneg _
   have hi1:(i:Int)<(n:Int):=by omega
   clear hc hc2 hk hkk hs3 hs4 hbl;go_wp2_with fail;go_region;go_wp2_with fail;clear e0 d0;go_loopw [6] (fun jv wx=> ∃j:Nat,jv=.int .i64 (j:Nat)/\j<=kl/\Below wo.heap.size wo wx) (fun jv _=>kl-(intOf jv).toNat)
   case atStart=>exact⟨0,rfl,Nat.zero_le _,(Below.refl _ _).drew⟩
   case round=>
    obtain⟨j,rfl,hjn,hbl2⟩:=hrel;have HBL2:=zq hbl2;have e0:=Ya hbl2 E0.o;have d0:=Ya hbl2 D0.o;by_cases hjt:j<kl
    ·obtain⟨k,hk⟩:∃k,ks[j]?=some k:=⟨_,List.getElem?_eq_getElem (by rw[<-HKK.o];exact hjt)⟩
     obtain⟨gk,ok,rfl,hgk,c0⟩:=HS3.o j k hk;obtain⟨gk2,ok2,rfl,hgk2,c1⟩:=HS4.o j k hk;replace c0:=Ya hbl2 c0;replace c1:=Ya hbl2 c1;have hj0:(0:Int)<=(j:Int):=Int.natCast_nonneg _
     have hj1:(j:Int)<(kl:Int):=by omega
     have hkk:(k !=k)=false:=by simp
     clear hk hbl2;go_wp2_with fail;go_region;go_wp2_with fail;have hfin:Below wo.heap.size wo wr.drew:=HBL2.o.drew
     exact⟨⟨j+1,by go_num,by omega,hfin⟩,by simp[intOf]<;>omega⟩
    ·clear hbl2
     go_wp2_with fail;have hfin:Below w.heap.size w wr:=HBL.o.trans (HBL2.o.mono hzr)
     exact⟨⟨i+1,by go_num,by omega,hfin⟩,by simp[intOf]<;>omega⟩
  ·clear hbl
   go_wp2_with fail;go_ret;exact⟨rfl,HBL.o⟩
open Go.Deep
def IntB (w:World)(h:Nat)(K:List Int):Prop:=∃c:Array Value,w.heap[h]?=some (.cells c 3 (0,0))/\ ∀(i:Nat) (z:Int),K[i]?=some z->c[i]?=some (.int .i64 z)
theorem IntB.of_row {w:World}{B n g cap:Nat}{K:List Int}(h:w.ownsRow B 3 1 (.slice (some ⟨g,0,none⟩) n cap) n (K.map fun k=>Value.int .i64 k))(hn:n=K.length):IntB w g K/\B<=g/\n<=cap/\cap<=maxLen:=by
 subst hn;have J:=h.lt g rfl;obtain⟨ao,cap',e,O,T,U⟩:=Qm h
 cases e
 refine⟨?_,J.1,O,T⟩;rcases h.2 with ⟨e,-⟩|⟨g',cap',H,e,-,E,-⟩
 ·cases e
 ·cases e
  refine⟨H,E,fun i z hz=> ?_⟩;have Z:=(List.getElem?_eq_some_iff.1 hz).1;obtain⟨g2,e2,-,-,a3⟩:=U (by omega)
  cases e2
  have I:=a3 i (by omega);rw[cell_of_row _ _ _ _ _ _ E]at I;rw[I];simp[hz]
theorem T4 {w:World}{ops:Array Oper}{rest:List Oper}{o:Oper}{a:Act}{Q:Exit->Act->World->Prop}(hgd:o.guard=none)(s x:Operand)
  (ho:o.op=.call {callee:=.builtin .append,args:= #[s,x],argTypes:= #[41,41]}) (H:Nat) (hs:a.eval s=.slice (some ⟨H,0,none⟩) 0 0) (hH:w.heap[H]?=some (.cells #[] 3 (0,0)))
  (v:Value) (ks:List Int) (hx:a.eval x=v) (hr:KA w v ks) (hl:ks.length<=1073741824)
  (h:∀w' g ucap,Hid (w'.ownsRow H 3 1 (.slice (some ⟨g,0,none⟩) ks.length ucap) ks.length (ks.map fun k=>Value.int .i64 k))->Hid (Below H w w')->wpList Tryz.prog ops Q rest (a.put o.dst (.slice (some ⟨g,0,none⟩) ks.length ucap)) w'):wpList Tryz.prog ops Q (o::rest) a w:=by
 have J:=(Array.getElem?_eq_some_iff.1 hH).1;obtain⟨ao,U,rfl,a7,a8,T⟩:=hr;by_cases h0:ks=[]
 ·subst h0
  refine wpList_plain hgd fun K hK=> ?_;unfold Oper.wp execOp;simp only[ho,resolve,invoke,builtin,Sem.run_bind,Sem.run_pure,Result.andThen_ok,List.map_toArray,List.map_cons,List.map_nil,hs,hx,List.length_nil,C4];exact hK _ _ (h w H 0 ⟨rfl,.inr ⟨H,0,#[],rfl,Nat.le_refl _,hH,Nat.le_refl _,by unfold maxLen;omega,rfl,rfl⟩⟩ (Below.refl _ _))
 ·have O:0<ks.length:=List.length_pos_iff.2 h0
  obtain⟨x0,Z⟩:∃x0,ks[0]?=some x0:=⟨_,List.getElem?_eq_getElem O⟩;obtain⟨g,o',rfl,-,-⟩:=T 0 x0 Z;obtain⟨i0,hi,a0,a1,a2⟩:=info_parts Tryz.infoInt
  refine wpList_append_lies w hgd s x 41 ho H 3 i0 (.int .i64 0) 1 8 Tryz.underlying41 hi a0 a1 a2 rfl (by omega) (.slice (some ⟨H,0,none⟩) 0 0) 0 [] hs
   ⟨rfl,.inr ⟨H,0,#[],rfl,Nat.le_refl _,hH,Nat.le_refl _,by unfold maxLen;omega,rfl,rfl⟩⟩ ⟨g,o',none⟩ ks.length U (ks.map fun k=>Value.int .i64 k) hx (by simp) (fun j u hj=> ?_) (fun u hu=> ?_) O (by unfold maxLen;omega) (by omega) (Nat.le_of_lt J) w.heap.size rfl ?_
  ·simp only[List.getElem?_map,Option.map_eq_some_iff]at hj
   obtain⟨y,hy,rfl⟩:=hj;obtain⟨g',o'',e,-,hc⟩:=T j y hy
   cases e
   rw[Qk2];exact hc
  ·simp only[List.mem_map]at hu
   obtain⟨y,-,rfl⟩:=hu;rfl
  ·intro gg cap' w' E I a6 a9
   rw[Nat.zero_add,List.nil_append]at E;rw[Nat.zero_add];exact h w' _ _ E (Below.grown (Below.refl _ _) I (Nat.le_of_lt J) (fun q hq=>by cases hq;exact Nat.le_refl _))
end Go.Proofs.YtgfmiladfeoldaaGreatDoor
