/- Joined texts of this claim's proof: RwC, RwD. -/
import Derived.Test.YtgfmiladfeoldaaGreatDoorPk1
import Derived.Test.YtgfmiladfeoldaaGreatDoorPk34
set_option linter.unusedSimpArgs false
set_option linter.unusedVariables false
set_option maxRecDepth 100000
set_option maxHeartbeats 16000000
namespace Go.Proofs.YtgfmiladfeoldaaGreatDoor
open Go.RowKit NatP LexP
theorem Qw0 (R:Nat)(tv:Value)(L:List Tok)(i:Nat)(nv vv sv:Value)(ns:List Nv)(vs:List Nat)(stk:List RfP.Op)(want pw:Bool)(d:Nat)(w:World)(h:WM w R tv L i nv vv sv ns vs stk want pw d)
  (op:Nat) (text:Qx) (hop:op<=255) (hvo:vv.ownBlock≠none) (hb1:vs.length<=134217728) (hb2:ns.length<=134217728):
  Calls Tryz.prog 137 #[.pointer (some ⟨R,0,none⟩),.int .i64 (op:Nat),.string ⟨text.toArray⟩,.int .i64 0] w (AddP R tv L i ns vs stk want pw d op 0 text w nv vv sv):=by
 obtain⟨i0,hi,hz0,hz1,hz2⟩:=info_parts Tryz.infoInt;obtain⟨j0,hj,hy0,hy1,hy2⟩:=info_parts Tryz.infoNd;have H:=zq h;have hRl:=h.lt;obtain⟨c0,c1,c2,c3,c4,c5,c6,c7⟩:=h.cells;have f3:=h.fro 3;have f2:=h.fro 2
 obtain⟨gv,vcap,he,hgR,hgl,v1,v2⟩:∃gv vcap,vv=.slice (some ⟨gv,0,none⟩) vs.length vcap/\R+1<=gv/\gv<w.heap.size/\vs.length<=vcap/\vcap<=maxLen:=by
  rcases h.vlo.2 with ⟨e,-⟩|⟨g,cap,cur,e,x1,x2,x3,x4,-,-⟩
  ·rw[e]at hvo;exact absurd rfl hvo
  ·exact⟨g,cap,e,x1,(Array.getElem?_eq_some_iff.1 x2).1,x3,x4⟩
 subst he;obtain⟨m,hm⟩:=xq vs.length;have HM:=zq hm;rw[<-hm]at c3 hb1 v1;obtain⟨T,hT⟩:=xq (⟨text.toArray⟩:ByteArray);have HT:=zq hT;rw[<-hT]
 obtain⟨no,nn,ncap,hnv⟩:∃no nn ncap,nv=.slice no nn ncap:=by
  obtain⟨a,b,e,-⟩:=Qj h.ndo;exact⟨a,_,b,e⟩
 have hw1:IntKind.i64.wrap ((m:Nat):Int)=((m:Nat):Int):=IntWalk.i64_in _ (by omega)
 have hs0:(0:Int)<=((m:Nat):Int):=by omega
 have hs2:((m:Nat):Int)<=((vcap:Nat):Int):=by omega
 have hlen:m-m=0:=by omega
 obtain⟨ap,happ⟩:∃ap,(if vcap=m then some (⟨gv,0,none⟩:Addr) else some ⟨gv,m,none⟩)=ap:=⟨_,rfl⟩;have hba:Below w.heap.size w (w.alloc (.cells #[] 3)):=Qq _ _;have HBA:=zq hba;have HOW:Hid ((w.alloc (.cells #[] 3)).drew.ownsRow (R+1) 3 1 (.slice (some ⟨w.heap.size,0,none⟩) 0 0) 0 []):=X4 ((World.ownsRow_lit w #[] 0 (by omega) (by unfold maxLen;omega) rfl).drew) (show R+1<=w.heap.size by omega);clear h hm hT hba;go_enter Tryz.func137,Tryz.ntmps137;go_wp2_with fail
 go_region_held3 (fun w'=>w'.cell? ⟨R,3,none⟩=some (.slice (some ⟨gv,0,none⟩) m vcap))
  (first
   |go_keep
   |(rw[hw2.o];go_keep))
  ((refine Um (by rfl) _ _ (by rfl) w.heap.size ap (vcap-m) (by rfl) (by rfl) ?_;intro w2 hw2))
 obtain⟨gg,hgg0⟩:=xq w.heap.size
 have hown2:w2.ownsRow (R+1) 3 1 (.slice (some ⟨gg,0,none⟩) 0 0) 0 []:=by rw[hw2.o,hgg0];exact HOW.o
 have hlt2:gg<w2.heap.size:=by rw[hw2.o,hgg0];simp
 have hb2:Below w.heap.size w w2:=by rw[hw2.o];exact HBA.o.drew
 have hgg:w.heap.size<=gg:=Nat.le_of_eq hgg0.symm
 have HKR:Hid (KR w2 R none (.slice (some ⟨gg,0,none⟩) 0 0) []):=by
  refine⟨_,_,rfl,Nat.le_refl _,Nat.zero_le _,fun q' hq'=> ?_,fun h0=>absurd h0 (Nat.lt_irrefl _)⟩;obtain rfl:gg=q':=Option.some.inj hq';exact⟨Nat.lt_of_lt_of_le hRl hgg,hlt2,by simp⟩
 have HGG:=zq hgg;have HGL:=zq hlt2;have HB2:=zq hb2;have HW2:=zq (H.o.below hb2);clear c0 c1 c2 c3 c4 c5 c6 c7 f2 f3;obtain⟨c0,c1,c2,c3,c4,c5,c6,c7⟩:=HW2.o.cells;have f3:=HW2.o.fro 3;have hR2:=HW2.o.lt;rw[<-HM.o]at c3;rw[hnv]at c2
 have hnn:nn=ns.length:=by
  obtain⟨a,b,e,-⟩:=Qj HW2.o.ndo;rw[hnv]at e;cases e;rfl
 have HNN:=zq hnn;have HNV:=zq hnv;clear hnv hnn
 have HOV:Hid ((w2.alloc (.cells #[.int .i64 (nn:Nat)] 3)).drew.ownsRow (R+1) 3 1 (.slice (some ⟨gv,0,none⟩) m vcap) m (ints (vs.take m))):=by
  have ho:=HW2.o.vlo;rw[<-HM.o]at ho;have h1:=Th ho (Nat.le_refl m)
  have e:(ints vs).take m=ints (vs.take m):=by simp[ints]
  rw[e]at h1;exact(Qh h1 (Qq w2 _) (Nat.le_refl _)).drew
 rw[<-hgg0];have HGE:=zq hgg0;clear hb2 hgg hown2 hlt2 hw2 hgg0;go_wp2_with fail;go_upto_region 1 with fail;go_cut [] (fun wx=>Hid (∃g5 cap5,WM wx R tv L i nv (.slice (some ⟨g5,0,none⟩) (m+1) cap5) sv ns (vs.take m++[ns.length]) stk want pw d/\KR wx R none (.slice (some ⟨gg,0,none⟩) 0 0) []/\g5≠gg/\Below R w wx/\ ∀B,R<B->B<w.heap.size->(Value.slice (some ⟨gv,0,none⟩) m vcap).ownBlock≠some B->wx.heap[B]?=w.heap[B]? /\g5≠B))
 case first=>
  have HRB:Hid (some R≠(Value.slice (some ⟨gv,0,none⟩) m vcap).ownBlock):=fun e=>by
   have h1:(Value.slice (some ⟨gv,0,none⟩) m vcap).ownBlock=some gv:=rfl;rw[h1]at e;cases e;omega
  have HRL:Hid (R<(w2.alloc (.cells #[.int .i64 (nn:Nat)] 3)).drew.heap.size):=by show _<_;simp;omega
  have HC3:Hid ((w2.alloc (.cells #[.int .i64 (nn:Nat)] 3)).drew.cell? ⟨R,3,none⟩=some (.slice (some ⟨gv,0,none⟩) m vcap)):=((Qq w2 _).drew.cell (p:=⟨R,3,none⟩) hR2).trans c3;have HF3:Hid ((w2.alloc (.cells #[.int .i64 (nn:Nat)] 3)).drew.frozen? ⟨R,3,none⟩=false):=((Qq w2 _).drew.frozen (p:=⟨R,3,none⟩) hR2).trans f3
  have HASM:Hid (∀g6 cap6 w5,w5.ownsRow (R+1) 3 1 (.slice (some ⟨g6,0,none⟩) (m+1) cap6) (m+1) (ints (vs.take m)++[.int .i64 (nn:Nat)])->(w2.alloc (.cells #[.int .i64 (nn:Nat)] 3)).drew.grownBy w5 (Value.slice (some ⟨gv,0,none⟩) m vcap).ownBlock->
    ((Value.slice (some ⟨gv,0,none⟩) m vcap).ownBlock=some g6\/g6=w2.heap.size+1)->Hid (∃g5 cap5,WM (w5.setCell ⟨R,3,none⟩ (.slice (some ⟨g6,0,none⟩) (m+1) cap6)) R tv L i nv (.slice (some ⟨g5,0,none⟩) (m+1) cap5) sv ns (vs.take m++[ns.length]) stk want pw d/\KR (w5.setCell ⟨R,3,none⟩ (.slice (some ⟨g6,0,none⟩) (m+1) cap6)) R none (.slice (some ⟨gg,0,none⟩) 0 0) []/\g5≠gg/\Below R w (w5.setCell ⟨R,3,none⟩ (.slice (some ⟨g6,0,none⟩) (m+1) cap6))/\ ∀B,R<B->B<w.heap.size->(Value.slice (some ⟨gv,0,none⟩) m vcap).ownBlock≠some B->(w5.setCell ⟨R,3,none⟩ (.slice (some ⟨g6,0,none⟩) (m+1) cap6)).heap[B]?=w.heap[B]? /\g5≠B)):=by
   intro g5 cap5 w5 ho hg hat;have hob:(Value.slice (some ⟨gv,0,none⟩) m vcap).ownBlock=some gv:=rfl;rw[hob]at hg hat;have hgl5:=HGL.o;have hgg5:=HGG.o
   have hsz:w2.heap.size+1<=w5.heap.size:=by have:=hg.size;simpa using this
   have hblk:∀k,k<w2.heap.size->k≠gv->w5.heap[k]?=w2.heap[k]? :=fun k hk hne=>
    (hg.block k (by simp;omega) (by simp;exact fun e=>hne e)).trans ((Qq w2 (.cells #[.int .i64 (nn:Nat)] 3)).drew.block k hk)
   have hset:∀k,k≠R->(w5.setCell ⟨R,3,none⟩ (.slice (some ⟨g5,0,none⟩) (m+1) cap5)).heap[k]?=w5.heap[k]? :=fun k hk=>heap_setCell_other w5 ⟨R,3,none⟩ k _ hk;have hR5:=(hblk R hR2 (by omega)).trans HW2.o.blk;have hR6:=(heap_setCell_same w5 R 3 _ _ (.slice (some ⟨g5,0,none⟩) (m+1) cap5) hR5)
   have hg5:g5=gv\/g5=w2.heap.size+1:=by
    rcases hat with e|e
    ·cases e;exact .inl rfl
    ·exact .inr e
   refine⟨g5,cap5,HW2.o.vals (by simp[World.setCell];omega) (fun k hk hkR hkv=> ?_) ?_ (fun q' hq'=> ?_) (hR6.trans (by simp)),?_,?_,?_,?_⟩
   ·rw[hset k hkR]
    exact hblk k hk (fun e=>hkv (by rw[e];rfl))
   ·have hl:(vs.take m++[ns.length]).length=m+1:=by rw[List.length_append,List.length_take,<-HM.o];simp<;>omega
    rw[hl,Hj]
    have e:ints [ns.length]=[Value.int .i64 (nn:Nat)]:=by rw[HNN.o];rfl
    rw[e];exact Q6 ho (fun g _ h1 _=>hset g (by omega))
   ·obtain rfl:g5=q':=Option.some.inj hq'
    rcases hg5 with e|e
    ·left;rw[e];rfl
    ·right;omega
   ·exact HKR.o.at (by simp[World.setCell];omega) (fun q' hq'=>by
     obtain rfl:gg=q':=Option.some.inj hq';rw[hset gg (by omega)]
     exact hblk gg hgl5 (by omega))
   ·rcases hg5 with e|e<;>omega
   ·refine⟨hg.os.trans HB2.o.os,hg.tape.trans HB2.o.tape,hg.output.trans HB2.o.output,by simp[World.setCell];have:=HB2.o.size;omega,fun k hk=> ?_⟩
    rw[hset k (by omega),hblk k (by omega) (by omega)];exact HB2.o.block k (by omega)
   ·refine fun B hRB hB hne=>⟨?_,?_⟩
    ·exact(hset B (by omega)).trans ((hblk B (by have:=HB2.o.size;omega) (fun e=>hne (by rw[e];rfl))).trans (HB2.o.block B hB))
    ·have:=HB2.o.size
     rcases hg5 with e|e
     ·rw[e];exact fun e=>hne (by rw[e];rfl)
     ·omega
  go_region_law
   ((refine step_append_lies _ (by rfl) _ _ _ (by rfl) (R+1) 3 i0 _ 1 8 Tryz.underlying41 hi hz0 hz1 hz2 rfl (by omega) (.slice (some ⟨gv,0,none⟩) m vcap) m (ints (vs.take m)) (by rfl) (by exact HOV.o) ⟨w2.heap.size,0,none⟩ 1 1 [.int .i64 (nn:Nat)] (by rfl) (by rfl) (World.news_of_block (cs:= #[.int .i64 (nn:Nat)]) (heap_alloc_new _ _)) (Vu _ rfl) (by omega) (by unfold maxLen;omega) (by omega) (by simp;omega) (w2.heap.size+1) (by simp) ?_;intro g5 cap5 w5 hown5 hgrow5 hat5 hlt5;have e3:w5.cell? ⟨R,3,none⟩=some (.slice (some ⟨gv,0,none⟩) m vcap):=(hgrow5.cell_far ⟨R,3,none⟩ HRL.o HRB.o).trans HC3.o;have e4:w5.frozen? ⟨R,3,none⟩=false:=(hgrow5.frozen_far ⟨R,3,none⟩ HRL.o HRB.o).trans HF3.o))
  all_goals
   have HF:=HASM.o g5 cap5 w5 hown5 hgrow5 hat5;clear hown5 hgrow5 hat5 hlt5 e3 e4;go_wp2_with fail;go_meet;exact HF
 case rest=>
  obtain⟨g5,cap5,hw,hk,hgne,hb,hfr⟩:=hcut.o;have HFR:=zq hfr;have HW:=zq hw;have HK:=zq hk;have HB:=zq hb;clear c0 c1 c2 c3 c4 c5 c6 c7 f3 hcut;obtain⟨c0,c1,c2,c3,c4,c5,c6,c7⟩:=HW.o.cells;have f2:=HW.o.fro 2;have hRc:=HW.o.lt;rw[HNV.o]at c2
  have HOWN:Hid ((wc.alloc (.cells #[.int .i64 (op:Nat),.string T,.slice (some ⟨gg,0,none⟩) 0 0] 43)).ownsRow (R+1) 43 3 (.slice no nn ncap) nn (Xd ns)):=by
   have h1:=HW.o.ndo;rw[HNV.o,<-HNN.o]at h1;exact Qh h1 (Qq _ _) (Nat.le_refl _)
  have hnn:nn<=134217728:=by rw[HNN.o];exact hb2
  clear hw hk hb hfr;go_wp2_with (at_builtin;refine wpList_append_lies _ rfl _ _ 23 rfl (R+1) 43 j0 (.agg #[.int .i64 0,.string ⟨#[]⟩,.slice none 0 0]) 3 48 Tryz.underlying23 hj hy0 hy1 hy2 rfl (by omega) (.slice no nn ncap) nn (Xd ns) rfl HOWN.o ⟨wc.heap.size,0,none⟩ 1 1 [.int .i64 (op:Nat),.string T,.slice (some ⟨gg,0,none⟩) 0 0] rfl rfl (LexP.Qb _ _ _ _ rfl) (by simp[Value.oneCell']) (by omega) (by unfold maxLen;omega) (by omega) (by simp;omega) (wc.heap.size+1) (by simp) ?_);intro g7 cap7 w7 hown7 hgrow7 hat7 hlt7
  have hnb:some R≠(Value.slice no nn ncap).ownBlock:=fun e=>by
   have:=(X7 HOWN.o e.symm).1;omega
  have hRa:R<(wc.alloc (.cells #[.int .i64 (op:Nat),.string T,.slice (some ⟨gg,0,none⟩) 0 0] 43)).heap.size:=by simp;omega
  have e2:w7.cell? ⟨R,2,none⟩=some (.slice no nn ncap):=(hgrow7.cell_far ⟨R,2,none⟩ hRa hnb).trans (((Qq wc _).cell (p:=⟨R,2,none⟩) hRc).trans c2);have e4:w7.frozen? ⟨R,2,none⟩=false:=(hgrow7.frozen_far ⟨R,2,none⟩ hRa hnb).trans (((Qq wc _).frozen (p:=⟨R,2,none⟩) hRc).trans f2)
  have hFIN:Hid (AddP R tv L i ns vs stk want pw d op 0 text w nv (.slice (some ⟨gv,0,none⟩) vs.length vcap) sv (.returned (.tuple #[])) (w7.setCell ⟨R,2,none⟩ (.slice (some ⟨g7,0,none⟩) (nn+1) cap7))):=by
   have hsz:wc.heap.size+1<=w7.heap.size:=by have:=hgrow7.size;simpa using this
   have hnv':=HNV.o
   have hblk:∀k,k<wc.heap.size->nv.ownBlock≠some k->w7.heap[k]?=wc.heap[k]? :=fun k hk hne=>
    (hgrow7.block k (by simp;omega) (by rw[<-hnv'];exact fun e=>hne e.symm)).trans ((Qq wc _).block k hk)
   have hset:∀k,k≠R->(w7.setCell ⟨R,2,none⟩ (.slice (some ⟨g7,0,none⟩) (nn+1) cap7)).heap[k]?=w7.heap[k]? :=fun k hk=>heap_setCell_other w7 ⟨R,2,none⟩ k _ hk;have hR7:=(hblk R hRc (by rw[hnv'];exact fun e=>hnb e.symm)).trans HW.o.blk;have hR8:=(heap_setCell_same w7 R 2 _ _ (.slice (some ⟨g7,0,none⟩) (nn+1) cap7) hR7)
   have hke:vs.drop (vs.length-0)=[]:=by simp
   have hte:vs.take (vs.length-0)=vs.take m:=by rw[HM.o];simp
   refine⟨rfl,?_,.slice (some ⟨g7,0,none⟩) (nn+1) cap7,.slice (some ⟨g5,0,none⟩) (m+1) cap5,sv,.slice (some ⟨gg,0,none⟩) 0 0,?_,?_⟩
   ·refine⟨hgrow7.os.trans HB.o.os,hgrow7.tape.trans HB.o.tape,hgrow7.output.trans HB.o.output,by simp[World.setCell];have:=HB.o.size;omega,fun k hk=> ?_⟩
    rw[hset k (by omega),hblk k (by omega) (fun e=>by have:=(X7 HW.o.ndo e).1;omega)];exact HB.o.block k hk
   ·rw[hke,hte]
    refine HW.o.nodes (by simp[World.setCell];omega) (fun k hk hkR hkn=> ?_) ?_ (fun q' hq'=> ?_) HK.o (fun q' hq'=> ?_) (hR8.trans (by simp))
    ·rw[hset k hkR];exact hblk k hk hkn
    ·have e1:(ns++[((⟨op,text,[]⟩:SynP.Node),Value.slice (some ⟨gg,0,none⟩) 0 0)]).length=nn+1:=by rw[List.length_append,<-HNN.o];rfl
     rw[e1,Wa]
     have e2:Xd [((⟨op,text,[]⟩:SynP.Node),Value.slice (some ⟨gg,0,none⟩) 0 0)]=[.int .i64 (op:Nat),.string T,.slice (some ⟨gg,0,none⟩) 0 0]:=by rw[HT.o];rfl
     rw[e2];exact Q6 hown7 (fun g _ h1 _=>hset g (by omega))
    ·obtain rfl:g7=q':=Option.some.inj hq'
     rw[hnv'];rcases hat7 with e|e
     ·exact .inl e
     ·right;omega
    ·obtain rfl:gg=q':=Option.some.inj hq'
     have hg1:=HGG.o;refine⟨fun e=> ?_,fun e=>hgne (Option.some.inj e),fun e=> ?_⟩
     ·have:=(X7 H.o.ndo e).2;omega
     ·have:=(X7 H.o.sto e).2;omega
   ·intro B hRB hB k1 k2 k3
    obtain⟨y1,y2⟩:=HFR.o B hRB hB k2;have hsz2:=HB.o.size;refine⟨(hset B (by omega)).trans ((hblk B (by omega) k1).trans y1),fun e=> ?_,fun e=>y2 (Option.some.inj e),k3⟩;obtain rfl:g7=B:=Option.some.inj e;rcases hat7 with e|e
    ·exact k1 (by rw[hnv'];exact e)
    ·omega
  clear hown7 hgrow7 hat7 hlt7 hnb hRa;go_wp2_with fail;go_end0;exact hFIN.o
theorem Qyq (R:Nat)(tv:Value)(L:List Tok)(i:Nat)(nv vv sv:Value)(ns:List Nv)(vs:List Nat)(stk:List RfP.Op)(want pw:Bool)(d:Nat)(w:World)(h:WM w R tv L i nv vv sv ns vs stk want pw d)
  (op:Nat) (text:Qx) (hop:op<=255) (hvo:vv.ownBlock=none) (hb1:vs.length<=134217728) (hb2:ns.length<=134217728):
  Calls Tryz.prog 137 #[.pointer (some ⟨R,0,none⟩),.int .i64 (op:Nat),.string ⟨text.toArray⟩,.int .i64 0] w (AddP R tv L i ns vs stk want pw d op 0 text w nv vv sv):=by
 obtain⟨i0,hi,hz0,hz1,hz2⟩:=info_parts Tryz.infoInt;obtain⟨j0,hj,hy0,hy1,hy2⟩:=info_parts Tryz.infoNd;have H:=zq h;have hRl:=h.lt;obtain⟨c0,c1,c2,c3,c4,c5,c6,c7⟩:=h.cells;have f3:=h.fro 3;have f2:=h.fro 2
 obtain⟨he,hv0⟩:vv=.slice none 0 0/\vs=[]:=by
  rcases h.vlo.2 with ⟨e,h0⟩|⟨g,cap,cur,e,x1,x2,x3,x4,-,-⟩
  ·exact⟨e,List.eq_nil_of_length_eq_zero h0⟩
  ·rw[e]at hvo;cases hvo
 subst he;subst hv0;obtain⟨T,hT⟩:=xq (⟨text.toArray⟩:ByteArray);have HT:=zq hT;rw[<-hT]
 obtain⟨no,nn,ncap,hnv⟩:∃no nn ncap,nv=.slice no nn ncap:=by
  obtain⟨a,b,e,-⟩:=Qj h.ndo;exact⟨a,_,b,e⟩
 have hw0:IntKind.i64.wrap 0=0:=by decide
 have hba:Below w.heap.size w (w.alloc (.cells #[] 3)):=Qq _ _;have HBA:=zq hba;have HOW:Hid ((w.alloc (.cells #[] 3)).drew.ownsRow (R+1) 3 1 (.slice (some ⟨w.heap.size,0,none⟩) 0 0) 0 []):=X4 ((World.ownsRow_lit w #[] 0 (by omega) (by unfold maxLen;omega) rfl).drew) (show R+1<=w.heap.size by omega);clear h hT hba;go_enter Tryz.func137,Tryz.ntmps137;go_wp2_with fail
 go_region_held3 (fun w'=>w'.cell? ⟨R,3,none⟩=some (.slice none 0 0))
  (first
   |go_keep
   |(rw[hw2.o];go_keep))
  ((refine Um (by rfl) _ _ (by rfl) w.heap.size none 0 (by rfl) (by rfl) ?_;intro w2 hw2))
 obtain⟨gg,hgg0⟩:=xq w.heap.size
 have hown2:w2.ownsRow (R+1) 3 1 (.slice (some ⟨gg,0,none⟩) 0 0) 0 []:=by rw[hw2.o,hgg0];exact HOW.o
 have hlt2:gg<w2.heap.size:=by rw[hw2.o,hgg0];simp
 have hb2:Below w.heap.size w w2:=by rw[hw2.o];exact HBA.o.drew
 have hgg:w.heap.size<=gg:=Nat.le_of_eq hgg0.symm
 have HKR:Hid (KR w2 R none (.slice (some ⟨gg,0,none⟩) 0 0) []):=by
  refine⟨_,_,rfl,Nat.le_refl _,Nat.zero_le _,fun q' hq'=> ?_,fun h0=>absurd h0 (Nat.lt_irrefl _)⟩;obtain rfl:gg=q':=Option.some.inj hq';exact⟨Nat.lt_of_lt_of_le hRl hgg,hlt2,by simp⟩
 have HGG:=zq hgg;have HGL:=zq hlt2;have HB2:=zq hb2;have HW2:=zq (H.o.below hb2);clear c0 c1 c2 c3 c4 c5 c6 c7 f2 f3;obtain⟨c0,c1,c2,c3,c4,c5,c6,c7⟩:=HW2.o.cells;have f3:=HW2.o.fro 3;have hR2:=HW2.o.lt;rw[hnv]at c2
 have hnn:nn=ns.length:=by
  obtain⟨a,b,e,-⟩:=Qj HW2.o.ndo;rw[hnv]at e;cases e;rfl
 have HNN:=zq hnn;have HNV:=zq hnv;clear hnv hnn
 have HOV:Hid ((w2.alloc (.cells #[.int .i64 (nn:Nat)] 3)).drew.ownsRow (R+1) 3 1 (.slice none 0 0) 0 (ints ([]:List Nat))):=by
  exact(Qh HW2.o.vlo (Qq w2 _) (Nat.le_refl _)).drew
 rw[<-hgg0];have HGE:=zq hgg0;clear hb2 hgg hown2 hlt2 hw2 hgg0;go_wp2_with fail;go_upto_region 1 with fail;go_cut [] (fun wx=>Hid (∃g5 cap5,WM wx R tv L i nv (.slice (some ⟨g5,0,none⟩) 1 cap5) sv ns (([]:List Nat)++[ns.length]) stk want pw d/\KR wx R none (.slice (some ⟨gg,0,none⟩) 0 0) []/\g5≠gg/\Below R w wx/\ ∀B,R<B->B<w.heap.size->(Value.slice none 0 0).ownBlock≠some B->wx.heap[B]?=w.heap[B]? /\g5≠B))
 case first=>
  have HRB:Hid (some R≠(Value.slice none 0 0).ownBlock):=fun e=>by
   have h1:(Value.slice none 0 0).ownBlock=none:=rfl;rw[h1]at e;cases e
  have HRL:Hid (R<(w2.alloc (.cells #[.int .i64 (nn:Nat)] 3)).drew.heap.size):=by show _<_;simp;omega
  have HC3:Hid ((w2.alloc (.cells #[.int .i64 (nn:Nat)] 3)).drew.cell? ⟨R,3,none⟩=some (.slice none 0 0)):=((Qq w2 _).drew.cell (p:=⟨R,3,none⟩) hR2).trans c3;have HF3:Hid ((w2.alloc (.cells #[.int .i64 (nn:Nat)] 3)).drew.frozen? ⟨R,3,none⟩=false):=((Qq w2 _).drew.frozen (p:=⟨R,3,none⟩) hR2).trans f3
  have HASM:Hid (∀g6 cap6 w5,w5.ownsRow (R+1) 3 1 (.slice (some ⟨g6,0,none⟩) 1 cap6) 1 (ints ([]:List Nat)++[.int .i64 (nn:Nat)])->(w2.alloc (.cells #[.int .i64 (nn:Nat)] 3)).drew.grownBy w5 (Value.slice none 0 0).ownBlock->
    ((Value.slice none 0 0).ownBlock=some g6\/g6=w2.heap.size+1)->Hid (∃g5 cap5,WM (w5.setCell ⟨R,3,none⟩ (.slice (some ⟨g6,0,none⟩) 1 cap6)) R tv L i nv (.slice (some ⟨g5,0,none⟩) 1 cap5) sv ns (([]:List Nat)++[ns.length]) stk want pw d/\KR (w5.setCell ⟨R,3,none⟩ (.slice (some ⟨g6,0,none⟩) 1 cap6)) R none (.slice (some ⟨gg,0,none⟩) 0 0) []/\g5≠gg/\Below R w (w5.setCell ⟨R,3,none⟩ (.slice (some ⟨g6,0,none⟩) 1 cap6))/\ ∀B,R<B->B<w.heap.size->(Value.slice none 0 0).ownBlock≠some B->(w5.setCell ⟨R,3,none⟩ (.slice (some ⟨g6,0,none⟩) 1 cap6)).heap[B]?=w.heap[B]? /\g5≠B)):=by
   intro g5 cap5 w5 ho hg hat;have hob:(Value.slice none 0 0).ownBlock=none:=rfl;rw[hob]at hg hat;have hgl5:=HGL.o;have hgg5:=HGG.o
   have hsz:w2.heap.size+1<=w5.heap.size:=by have:=hg.size;simpa using this
   have hblk:∀k,k<w2.heap.size->w5.heap[k]?=w2.heap[k]? :=fun k hk=>
    (hg.block k (by simp;omega) (by simp)).trans ((Qq w2 (.cells #[.int .i64 (nn:Nat)] 3)).drew.block k hk)
   have hset:∀k,k≠R->(w5.setCell ⟨R,3,none⟩ (.slice (some ⟨g5,0,none⟩) 1 cap5)).heap[k]?=w5.heap[k]? :=fun k hk=>heap_setCell_other w5 ⟨R,3,none⟩ k _ hk;have hR5:=(hblk R hR2).trans HW2.o.blk;have hR6:=(heap_setCell_same w5 R 3 _ _ (.slice (some ⟨g5,0,none⟩) 1 cap5) hR5)
   have hg5:g5=w2.heap.size+1:=by
    rcases hat with e|e
    ·cases e
    ·exact e
   refine⟨g5,cap5,HW2.o.vals (by simp[World.setCell];omega) (fun k hk hkR hkv=> ?_) ?_ (fun q' hq'=> ?_) (hR6.trans (by simp)),?_,?_,?_,?_⟩
   ·rw[hset k hkR]
    exact hblk k hk
   ·have hl:(([]:List Nat)++[ns.length]).length=1:=rfl
    rw[hl,Hj]
    have e:ints [ns.length]=[Value.int .i64 (nn:Nat)]:=by rw[HNN.o];rfl
    rw[e];exact Q6 ho (fun g _ h1 _=>hset g (by omega))
   ·obtain rfl:g5=q':=Option.some.inj hq'
    right;omega
   ·exact HKR.o.at (by simp[World.setCell];omega) (fun q' hq'=>by
     obtain rfl:gg=q':=Option.some.inj hq';rw[hset gg (by omega)]
     exact hblk gg hgl5)
   ·omega
   ·refine⟨hg.os.trans HB2.o.os,hg.tape.trans HB2.o.tape,hg.output.trans HB2.o.output,by simp[World.setCell];have:=HB2.o.size;omega,fun k hk=> ?_⟩
    rw[hset k (by omega),hblk k (by omega)];exact HB2.o.block k (by omega)
   ·refine fun B hRB hB hne=>⟨?_,?_⟩
    ·exact(hset B (by omega)).trans ((hblk B (by have:=HB2.o.size;omega)).trans (HB2.o.block B hB))
    ·have:=HB2.o.size
     omega
  go_region_law
   ((refine step_append_lies _ (by rfl) _ _ _ (by rfl) (R+1) 3 i0 _ 1 8 Tryz.underlying41 hi hz0 hz1 hz2 rfl (by omega) (.slice none 0 0) 0 (ints ([]:List Nat)) (by rfl) (by exact HOV.o) ⟨w2.heap.size,0,none⟩ 1 1 [.int .i64 (nn:Nat)] (by rfl) (by rfl) (World.news_of_block (cs:= #[.int .i64 (nn:Nat)]) (heap_alloc_new _ _)) (Vu _ rfl) (by omega) (by unfold maxLen;omega) (by omega) (by simp;omega) (w2.heap.size+1) (by simp) ?_;intro g5 cap5 w5 hown5 hgrow5 hat5 hlt5;have e3:w5.cell? ⟨R,3,none⟩=some (.slice none 0 0):=(hgrow5.cell_far ⟨R,3,none⟩ HRL.o HRB.o).trans HC3.o;have e4:w5.frozen? ⟨R,3,none⟩=false:=(hgrow5.frozen_far ⟨R,3,none⟩ HRL.o HRB.o).trans HF3.o))
  all_goals
   have HF:=HASM.o g5 cap5 w5 hown5 hgrow5 hat5;clear hown5 hgrow5 hat5 hlt5 e3 e4;go_wp2_with fail;go_meet;exact HF
 case rest=>
  obtain⟨g5,cap5,hw,hk,hgne,hb,hfr⟩:=hcut.o;have HFR:=zq hfr;have HW:=zq hw;have HK:=zq hk;have HB:=zq hb;clear c0 c1 c2 c3 c4 c5 c6 c7 f3 hcut;obtain⟨c0,c1,c2,c3,c4,c5,c6,c7⟩:=HW.o.cells;have f2:=HW.o.fro 2;have hRc:=HW.o.lt;rw[HNV.o]at c2
  have HOWN:Hid ((wc.alloc (.cells #[.int .i64 (op:Nat),.string T,.slice (some ⟨gg,0,none⟩) 0 0] 43)).ownsRow (R+1) 43 3 (.slice no nn ncap) nn (Xd ns)):=by
   have h1:=HW.o.ndo;rw[HNV.o,<-HNN.o]at h1;exact Qh h1 (Qq _ _) (Nat.le_refl _)
  have hnn:nn<=134217728:=by rw[HNN.o];exact hb2
  clear hw hk hb hfr;go_wp2_with (at_builtin;refine wpList_append_lies _ rfl _ _ 23 rfl (R+1) 43 j0 (.agg #[.int .i64 0,.string ⟨#[]⟩,.slice none 0 0]) 3 48 Tryz.underlying23 hj hy0 hy1 hy2 rfl (by omega) (.slice no nn ncap) nn (Xd ns) rfl HOWN.o ⟨wc.heap.size,0,none⟩ 1 1 [.int .i64 (op:Nat),.string T,.slice (some ⟨gg,0,none⟩) 0 0] rfl rfl (LexP.Qb _ _ _ _ rfl) (by simp[Value.oneCell']) (by omega) (by unfold maxLen;omega) (by omega) (by simp;omega) (wc.heap.size+1) (by simp) ?_);intro g7 cap7 w7 hown7 hgrow7 hat7 hlt7
  have hnb:some R≠(Value.slice no nn ncap).ownBlock:=fun e=>by
   have:=(X7 HOWN.o e.symm).1;omega
  have hRa:R<(wc.alloc (.cells #[.int .i64 (op:Nat),.string T,.slice (some ⟨gg,0,none⟩) 0 0] 43)).heap.size:=by simp;omega
  have e2:w7.cell? ⟨R,2,none⟩=some (.slice no nn ncap):=(hgrow7.cell_far ⟨R,2,none⟩ hRa hnb).trans (((Qq wc _).cell (p:=⟨R,2,none⟩) hRc).trans c2);have e4:w7.frozen? ⟨R,2,none⟩=false:=(hgrow7.frozen_far ⟨R,2,none⟩ hRa hnb).trans (((Qq wc _).frozen (p:=⟨R,2,none⟩) hRc).trans f2)
  have hFIN:Hid (AddP R tv L i ns [] stk want pw d op 0 text w nv (.slice none 0 0) sv (.returned (.tuple #[])) (w7.setCell ⟨R,2,none⟩ (.slice (some ⟨g7,0,none⟩) (nn+1) cap7))):=by
   have hsz:wc.heap.size+1<=w7.heap.size:=by have:=hgrow7.size;simpa using this
   have hnv':=HNV.o
   have hblk:∀k,k<wc.heap.size->nv.ownBlock≠some k->w7.heap[k]?=wc.heap[k]? :=fun k hk hne=>
    (hgrow7.block k (by simp;omega) (by rw[<-hnv'];exact fun e=>hne e.symm)).trans ((Qq wc _).block k hk)
   have hset:∀k,k≠R->(w7.setCell ⟨R,2,none⟩ (.slice (some ⟨g7,0,none⟩) (nn+1) cap7)).heap[k]?=w7.heap[k]? :=fun k hk=>heap_setCell_other w7 ⟨R,2,none⟩ k _ hk;have hR7:=(hblk R hRc (by rw[hnv'];exact fun e=>hnb e.symm)).trans HW.o.blk;have hR8:=(heap_setCell_same w7 R 2 _ _ (.slice (some ⟨g7,0,none⟩) (nn+1) cap7) hR7)
   have hke:([]:List Nat).drop (([]:List Nat).length-0)=[]:=by simp
   have hte:([]:List Nat).take (([]:List Nat).length-0)=[]:=by simp
   refine⟨rfl,?_,.slice (some ⟨g7,0,none⟩) (nn+1) cap7,.slice (some ⟨g5,0,none⟩) 1 cap5,sv,.slice (some ⟨gg,0,none⟩) 0 0,?_,?_⟩
   ·refine⟨hgrow7.os.trans HB.o.os,hgrow7.tape.trans HB.o.tape,hgrow7.output.trans HB.o.output,by simp[World.setCell];have:=HB.o.size;omega,fun k hk=> ?_⟩
    rw[hset k (by omega),hblk k (by omega) (fun e=>by have:=(X7 HW.o.ndo e).1;omega)];exact HB.o.block k hk
   ·rw[hke,hte]
    refine HW.o.nodes (by simp[World.setCell];omega) (fun k hk hkR hkn=> ?_) ?_ (fun q' hq'=> ?_) HK.o (fun q' hq'=> ?_) (hR8.trans (by simp))
    ·rw[hset k hkR];exact hblk k hk hkn
    ·have e1:(ns++[((⟨op,text,[]⟩:SynP.Node),Value.slice (some ⟨gg,0,none⟩) 0 0)]).length=nn+1:=by rw[List.length_append,<-HNN.o];rfl
     rw[e1,Wa]
     have e2:Xd [((⟨op,text,[]⟩:SynP.Node),Value.slice (some ⟨gg,0,none⟩) 0 0)]=[.int .i64 (op:Nat),.string T,.slice (some ⟨gg,0,none⟩) 0 0]:=by rw[HT.o];rfl
     rw[e2];exact Q6 hown7 (fun g _ h1 _=>hset g (by omega))
    ·obtain rfl:g7=q':=Option.some.inj hq'
     rw[hnv'];rcases hat7 with e|e
     ·exact .inl e
     ·right;omega
    ·obtain rfl:gg=q':=Option.some.inj hq'
     have hg1:=HGG.o;refine⟨fun e=> ?_,fun e=>hgne (Option.some.inj e),fun e=> ?_⟩
     ·have:=(X7 H.o.ndo e).2;omega
     ·have:=(X7 H.o.sto e).2;omega
   ·intro B hRB hB k1 k2 k3
    obtain⟨y1,y2⟩:=HFR.o B hRB hB k2;have hsz2:=HB.o.size;refine⟨(hset B (by omega)).trans ((hblk B (by omega) k1).trans y1),fun e=> ?_,fun e=>y2 (Option.some.inj e),k3⟩;obtain rfl:g7=B:=Option.some.inj e;rcases hat7 with e|e
    ·exact k1 (by rw[hnv'];exact e)
    ·omega
  clear hown7 hgrow7 hat7 hlt7 hnb hRa;go_wp2_with fail;go_end0;exact hFIN.o
end Go.Proofs.YtgfmiladfeoldaaGreatDoor
