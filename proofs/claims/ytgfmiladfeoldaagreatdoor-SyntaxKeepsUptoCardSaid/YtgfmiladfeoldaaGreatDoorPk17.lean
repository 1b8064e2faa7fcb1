import Derived.Test.YtgfmiladfeoldaaGreatDoorPk10
set_option linter.unusedSimpArgs false
set_option linter.unusedVariables false
set_option maxRecDepth 100000
set_option maxHeartbeats 16000000
namespace Go.Proofs.YtgfmiladfeoldaaGreatDoor
open Go.RowKit NatP LexP
theorem Md {w w':World}{R k n:Nat}{e:TypeId}{v:Value}{cs:List Value}(h:w.ownsRow (R+1) e k v n cs)(hw:Wr R none w w'):w'.ownsRow (R+1) e k v n cs:=by
 refine⟨h.1,?_⟩;rcases h.2 with O|⟨g,I,J,rfl,K,E,H⟩
 ·exact .inl O
 ·exact .inr ⟨g,I,J,rfl,K,(hw.block g (Array.getElem?_eq_some_iff.1 E).1 (by omega) (by simp)).trans E,H⟩
structure WrS (w:World) (R:Nat) (tv bv:Value) (out:Qx) (o m:Nat):Prop where
 blk:∃av,(av=.pointer none\/av=.pointer (some ⟨R,1,none⟩))/\w.heap[R]?=some (.cells #[tv,av,bv,.int .i64 (o:Nat),.int .i64 (m:Nat)] 92 (0,0))
 own:w.ownsRow (R+1) 5 1 bv out.length (u8s out)
 le:o<=m
theorem WrS.lt {w:World}{R:Nat}{tv bv:Value}{out:Qx}{o m:Nat}(h:WrS w R tv bv out o m):R<w.heap.size:=by
 obtain⟨av,-,E⟩:=h.blk;exact(Array.getElem?_eq_some_iff.1 E).1
theorem WrS.gt {w:World}{R:Nat}{tv bv:Value}{out:Qx}{o m:Nat}(h:WrS w R tv bv out o m):∀q,bv.ownBlock=some q->R<q:=fun q hq=>by have:=h.own.lt q hq;omega
theorem WrS.cells {w:World}{R:Nat}{tv bv:Value}{out:Qx}{o m:Nat}(h:WrS w R tv bv out o m):w.cell? ⟨R,0,none⟩=some tv/\w.cell? ⟨R,3,none⟩=some (.int .i64 (o:Nat))/\w.cell? ⟨R,4,none⟩=some (.int .i64 (m:Nat)):=by
 obtain⟨av,-,E⟩:=h.blk
 refine⟨?_,?_,?_⟩<;>rw[cell_of_row w R _ _ _ _ E]<;>rfl
theorem WrS.fro {w:World}{R:Nat}{tv bv:Value}{out:Qx}{o m:Nat}(h:WrS w R tv bv out o m)(k:Nat):w.frozen? ⟨R,k,none⟩=false:=by
 obtain⟨av,-,E⟩:=h.blk;exact frozen_of_row w R k _ _ E
theorem WrS.below {w w':World}{R:Nat}{tv bv:Value}{out:Qx}{o m:Nat}(h:WrS w R tv bv out o m)(hb:Below w.heap.size w w'):WrS w' R tv bv out o m:=by
 obtain⟨av,H,E⟩:=h.blk
 exact⟨⟨av,H,(hb.block R h.lt).trans E⟩,h.own.kept (row:=none) ⟨hb.os,hb.tape,hb.output,hb.size,fun k hk _=>hb.block k hk⟩ (by cases bv.ownBlock<;>simp),h.le⟩
def WrP (R:Nat)(tv bv:Value)(out:Qx)(o m:Nat)(v:Value)(w:World)(e:Ending)(w':World):Prop:=
 e=.returned v/\ ∃bv',WrS w' R tv bv' out o m/\Wr R bv.ownBlock w w'/\Mv w bv.ownBlock bv'.ownBlock
theorem WrS.setO {w:World}{R:Nat}{tv bv:Value}{out:Qx}{o m o':Nat}(h:WrS w R tv bv out o m)(hl:o'<=m):WrS (w.setCell ⟨R,3,none⟩ (.int .i64 (o':Nat))) R tv bv out o' m/\Wr R none w (w.setCell ⟨R,3,none⟩ (.int .i64 (o':Nat))):=by
 obtain⟨av,I,H⟩:=h.blk;have E:=heap_setCell_same w R 3 _ 92 (.int .i64 (o':Nat)) H;exact⟨⟨⟨av,I,E.trans (by simp)⟩,ownsRow_setCell_below h.own (by simp) _,hl⟩,Wr.of_set w 3 _⟩
theorem WrS.setM {w:World}{R:Nat}{tv bv:Value}{out:Qx}{o1 m m':Nat}(hbk:∃av,(av=.pointer none\/av=.pointer (some ⟨R,1,none⟩))/\w.heap[R]?=some (.cells #[tv,av,bv,.int .i64 (o1:Nat),.int .i64 (m:Nat)] 92 (0,0)))(hown:w.ownsRow (R+1) 5 1 bv out.length (u8s out))(hl:o1<=m'):WrS (w.setCell ⟨R,4,none⟩ (.int .i64 (m':Nat))) R tv bv out o1 m'/\Wr R none w (w.setCell ⟨R,4,none⟩ (.int .i64 (m':Nat))):=by
 obtain⟨av,E,hbk⟩:=hbk;have h:=heap_setCell_same w R 4 _ 92 (.int .i64 (m':Nat)) hbk;exact⟨⟨⟨av,E,h.trans (by simp)⟩,ownsRow_setCell_below hown (by simp) _,hl⟩,Wr.of_set w 4 _⟩
theorem Tryz.sizeBld:(Tryz.prog.info? 90).map (·.size)=some 2:=by kernel_rfl
theorem Tryz.liesBld:liesAt Tryz.prog Tryz.prog.depth 92 (5 / Tryz.prog.cellsOf 92) 1 90 1=true:=by kernel_rfl
theorem Fw (R:Nat)(tv av bv ov mv:Value)(w:World)(ha:av=.pointer none\/av=.pointer (some ⟨R,1,none⟩))(hb:w.heap[R]?=some (.cells #[tv,av,bv,ov,mv] 92 (0,0))):
  Calls Tryz.prog 165 #[.pointer (some ⟨R,1,none⟩)] w fun e w'=>e=.returned (.tuple #[])/\w'.heap[R]?=some (.cells #[tv,.pointer (some ⟨R,1,none⟩),bv,ov,mv] 92 (0,0))/\Wr R none w w':=by
 obtain⟨j,hj,hjs⟩:=Option.map_eq_some_iff.1 Tryz.sizeBld
 have h0:w.cell? ⟨R,1,none⟩=some av:=by rw[cell_of_row w R _ _ _ _ hb];rfl
 rcases ha with rfl|rfl
 ·have hsh:w.shape? R=some (92,5):=by simp[World.shape?,hb]
  have hfz:w.frozen? ⟨R,1,none⟩=false:=frozen_of_row w R 1 _ _ hb;have HB:=zq hb;clear hb;go_enter Tryz.func165,Tryz.ntmps165;go_wp2_with fail;rw[Lib.run_to_unsafe w ⟨R,1,none⟩ Tryz.underlying87 Tryz.underlying210 hj (by rw[hjs];decide) hsh (by show 1<5;decide)];simp only[Result.andThen];rw[Oper.upon_value];go_wp2_with fail;rw[run_callFunc_extern Tryz.func212 (by kernel_rfl) (by kernel_rfl) (by kernel_rfl) (e:=Extern.AbiNoEscape.same) (by kernel_rfl)];rw[Lib.run_noEscape];simp only[Result.andThen];rw[Oper.upon_value];go_wp2_with fail;rw[Lib.run_from_unsafe w ⟨R,1,none⟩ Tryz.underlying210 Tryz.underlying87 hj hsh Tryz.liesBld];simp only[Result.andThen];rw[Oper.upon_value];go_wp2_with fail;go_end0;exact⟨rfl,(heap_setCell_same w R 1 _ 92 _ HB.o).trans (by simp),Wr.of_set w 1 _⟩
 ·have HB:=zq hb
  clear hb;go_enter Tryz.func165,Tryz.ntmps165;go_wp2_with fail;rw[Lib.run_neq_ptr_same w _ Tryz.underlying87 hj];go_wp2_with fail;go_end0;exact⟨rfl,HB.o,Wr.refl _ _ _⟩
theorem Uf (R:Nat)(tv bv:Value)(out:Qx)(o m:Nat)(c:UInt8)(w:World)(h:WrS w R tv bv out o m)(hl:out.length<=1099511627776):
  Calls Tryz.prog 104 #[.pointer (some ⟨R,1,none⟩),.int .u8 (c.toNat:Nat)] w (WrP R tv bv (out++[c]) o m .nilIface w):=by
 obtain⟨i0,hi,hz0,hz1,hz2⟩:=info_parts Tryz.infoU8d;have HS:=zq h;have hRl:=h.lt;clear h;obtain⟨av,ha,hb⟩:=HS.o.blk;have HB:=zq hb;clear hb;go_enter Tryz.func104,Tryz.ntmps104;go_wp2_with fail;refine(Fw R tv av bv _ _ _ ha HB.o).mono ?_;rintro e w1 ⟨rfl,k1,k2⟩
 have c2:w1.cell? ⟨R,2,none⟩=some bv:=by rw[cell_of_row w1 R _ _ _ _ k1];rfl
 have hown:=Md HS.o.own k2;have HOWN:=zq (hown.alloc (.cells #[.int .u8 ((c.toNat:Nat):Int)] 5));have hR1:=k2.size;obtain⟨nl,hnl⟩:=xq out.length;rw[<-hnl]at HOWN hl;have HNL:=zq hnl;have K1:=zq k1;have K2:=zq k2
 have hcs:(u8s out).length=nl:=by rw[Qje,hnl]
 clear k1 k2 hown hnl;go_wp2_with (at_builtin;refine wpList_append_lies _ rfl _ _ 88 rfl (R+1) 5 i0 (.int .u8 0) 1 1 Tryz.underlying88 hi hz0 hz1 hz2 rfl (by omega) bv nl (u8s out) rfl HOWN.o ⟨w1.heap.size,0,none⟩ 1 1 [.int .u8 (c.toNat:Nat)] rfl rfl (LexP.Qc _ _ _ _ rfl) (by simp[Value.oneCell']) (by omega) (by unfold maxLen;omega) (by omega) (by simp;omega) (w1.heap.size+1) (by simp) ?_);intro g cap w2 hown' hgrow hat hlt5
 have hne:some R≠bv.ownBlock:=fun e=>by have:=HS.o.gt R e.symm;omega
 have hb2:w2.heap[R]?=some (.cells #[tv,.pointer (some ⟨R,1,none⟩),bv,.int .i64 (o:Nat),.int .i64 (m:Nat)] 92 (0,0)):=by
  rw[hgrow.block R (by simp;omega) hne,Lib.alloc_old w1 _ R (by omega)];exact K1.o
 have f2:w2.frozen? ⟨R,2,none⟩=false:=frozen_of_row w2 R 2 _ _ hb2
 have d2:w2.cell? ⟨R,2,none⟩=some bv:=by rw[cell_of_row w2 R _ _ _ _ hb2];rfl
 have HB2:=zq hb2;have HO2:=zq hown';have HG:=zq hgrow;have HAT:=zq hat;clear hb2 hown' hgrow hat;go_wp2_with fail;go_ret;have hset:=heap_setCell_same w2 R 2 _ 92 (.slice (some ⟨g,0,none⟩) (nl+1) cap) HB2.o;refine⟨rfl,.slice (some ⟨g,0,none⟩) (nl+1) cap,⟨⟨.pointer (some ⟨R,1,none⟩),.inr rfl,hset.trans (by simp)⟩,?_,HS.o.le⟩,?_,?_⟩
 ·have e1:(out++[c]).length=nl+1:=by rw[List.length_append,HNL.o];rfl
  rw[e1,Cc];refine ownsRow_setCell_below ?_ (by simp) _;exact HO2.o
 ·exact(((K2.o.weak _).trans (Mv.refl _ _) (Wr.of_below (Qq w1 _))).trans (Mv.refl _ _) (Wr.of_grown HG.o)).trans (Mv.refl _ _) (Wr.of_set w2 2 _)
 ·intro k hk
  cases hk
  rcases HAT.o with h1|h1
  ·exact .inl h1
  ·right
   have h2:g=w1.heap.size+1:=h1;show w.heap.size<=g;have:=K2.o.size;omega
theorem Gk {P:Program}(base:Nat)(t u ty e:TypeId)(i:TypeInfo)(ht:P.underlying t=some (.slice e))(hu:P.underlying u=some .string)(hi:P.info? e=some i)(hz:i.zero=some (.int .u8 0))
  (hsize:i.size=1) (hby:i.bytes=1) (w:World) (v:Value) (n:Nat) (xs:List Value) (hown:w.ownsRow base e 1 v n xs) (s:ByteArray) (hbytes:n+s.size<=140737488355328) (hbase:base<=w.heap.size):
  ∃v' w',(Builtin.append_ #[t,u] ty #[v,.string s]).run P w=.ok v' w'/\w'.ownsRow base e 1 v' (n+s.size) (xs++Lib.strCells s)/\w.grownBy w' v.ownBlock/\(v'.ownBlock=v.ownBlock\/v'.ownBlock=some w.heap.size):=by
 obtain⟨v',w',E,U,Z,h3⟩:=Lib.run_append_own_string (P:=P) w base t u ty e i ht hu hi hz hsize hby v n xs hown s (by unfold maxLen;omega) hbytes hbase;refine⟨v',w',E,U,Z,?_⟩
 have O:xs.length=n:=by simpa using hown.1
 rcases hown.2 with ⟨rfl,rfl⟩|⟨g,H,J,rfl,a3,hg,a5,a4,K,T⟩
 ·by_cases hm:s.size=0
  ·left;rw[h3.2 ⟨rfl,hm⟩]
  ·have h:=run_append_nil_string (P:=P) w t u ty e i (.int .u8 0) ht hu hi hz s (by omega) (by omega) (by rw[hby];omega)
   rw[h]at E
   cases E
   right;rfl
 ·by_cases hroom:n+s.size<=H
  ·have a1:J.size=H:=by simpa using K
   have h:=Lib.run_append_room_string (P:=P) w t u ty e i ht hu hi hsize g n H J hg s hroom (by omega);rw[h]at E
   cases E
   left;rfl
  ·have I:∀j u,xs[j]?=some u->w.cell? ((⟨g,0,none⟩:Addr).add j)=some u:=hown.cells (g:=g) rfl
   have h:=Lib.run_append_grow_string (P:=P) w t u ty e i (.int .u8 0) ht hu hi hz ⟨g,0,none⟩ n H xs (by rw[hsize];simpa using O) I s (by omega) (by omega) (by rw[hby];exact growslice_fits (by omega) (by omega));rw[h]at E
   cases E
   right;rfl
theorem Po {P:Program}{w:World}{ops:Array Oper}{rest:List Oper}{o:Oper}{a:Act}{Q:Exit->Act->World->Prop}(hgd:o.guard=none)(sl x:Operand)(t u:TypeId)
  (ho:o.op=.call {callee:=.builtin .append,args:= #[sl,x],argTypes:= #[t,u]})
  (base:Nat) (e:TypeId) (i:TypeInfo) (ht:P.underlying t=some (.slice e)) (hu:P.underlying u=some .string) (hi:P.info? e=some i) (hz:i.zero=some (.int .u8 0))
  (hsize:i.size=1) (hby:i.bytes=1)
  (v:Value) (n:Nat) (xs:List Value) (hs:a.eval sl=v) (hown:w.ownsRow base e 1 v n xs) (s:ByteArray) (hx:a.eval x=.string s)
  (hbytes:n+s.size<=140737488355328) (hbase:base<=w.heap.size)
  (h:∀v' w',w'.ownsRow base e 1 v' (n+s.size) (xs++Lib.strCells s)->w.grownBy w' v.ownBlock->(v'.ownBlock=v.ownBlock\/v'.ownBlock=some w.heap.size)->wpList P ops Q rest (a.put o.dst v') w'):wpList P ops Q (o::rest) a w:=by
 refine wpList_plain hgd fun K hK=> ?_;obtain⟨v',w',J,E,H,I⟩:=Gk (P:=P) base t u o.type e i ht hu hi hz hsize hby w v n xs hown s hbytes hbase;unfold Oper.wp execOp;simp only[ho,resolve,invoke,builtin,Sem.run_bind,Sem.run_pure,Result.andThen_ok,List.map_toArray,List.map_cons,List.map_nil,hs,hx,J];exact hK _ _ (h v' w' E H I)
theorem Cy (s:Qx):Lib.strCells ⟨s.toArray⟩=u8s s:=by simp[Lib.strCells,u8s]
theorem Z3 (R:Nat)(tv bv:Value)(out:Qx)(o m:Nat)(t:Qx)(w:World)(h:WrS w R tv bv out o m)(hl:out.length<=1099511627776)(ht:t.length<=1099511627776):
  Calls Tryz.prog 105 #[.pointer (some ⟨R,1,none⟩),.string ⟨t.toArray⟩] w (WrP R tv bv (out++t) o m (.tuple #[.int .i64 (t.length:Nat),.nilIface]) w):=by
 obtain⟨i0,hi,hz0,hz1,hz2⟩:=info_parts Tryz.infoU8d;have HS:=zq h;have hRl:=h.lt;clear h;obtain⟨av,ha,hb⟩:=HS.o.blk;have HB:=zq hb;obtain⟨T,hT⟩:=xq (⟨t.toArray⟩:ByteArray)
 have hTs:T.size=t.length:=by rw[hT];rfl
 have HT:=zq hT;rw[<-hT];clear hb hT;go_enter Tryz.func105,Tryz.ntmps105;go_wp2_with fail;refine(Fw R tv av bv _ _ _ ha HB.o).mono ?_;rintro e w1 ⟨rfl,k1,k2⟩
 have c2:w1.cell? ⟨R,2,none⟩=some bv:=by rw[cell_of_row w1 R _ _ _ _ k1];rfl
 have HOWN:=zq (Md HS.o.own k2);have hR1:=k2.size;obtain⟨nl,hnl⟩:=xq out.length;rw[<-hnl]at HOWN hl;have HNL:=zq hnl;have K1:=zq k1;have K2:=zq k2;clear k1 k2 hnl;go_wp2_with (at_builtin;go_loud (refine Po rfl _ _ 88 9 rfl (R+1) 5 i0 Tryz.underlying88 Tryz.underlying9 hi hz0 hz1 hz2 bv nl (u8s out) rfl HOWN.o T rfl ?d1 ?d2 ?_))
 case d1=>omega
 case d2=>omega
 intro v' w2 hown' hgrow hat
 have hne:some R≠bv.ownBlock:=fun e=>by have:=HS.o.gt R e.symm;omega
 have hb2:w2.heap[R]?=some (.cells #[tv,.pointer (some ⟨R,1,none⟩),bv,.int .i64 (o:Nat),.int .i64 (m:Nat)] 92 (0,0)):=by
  rw[hgrow.block R (by omega) hne];exact K1.o
 have f2:w2.frozen? ⟨R,2,none⟩=false:=frozen_of_row w2 R 2 _ _ hb2
 have d2:w2.cell? ⟨R,2,none⟩=some bv:=by rw[cell_of_row w2 R _ _ _ _ hb2];rfl
 obtain⟨ao,n',cap,rfl⟩:∃ao n' cap,v'=.slice ao n' cap:=by
  rcases hown'.2 with ⟨hv,_⟩|⟨g,cap,cur,hv,_⟩
  ·exact⟨_,_,_,hv⟩
  ·exact⟨_,_,_,hv⟩
 have HB2:=zq hb2;have HO2:=zq hown';have HG:=zq hgrow;have HAT:=zq hat;clear hb2 hown' hgrow hat;go_wp2_with fail;go_ret2;have hset:=heap_setCell_same w2 R 2 _ 92 (.slice ao n' cap) HB2.o;refine⟨rfl,.slice ao n' cap,⟨⟨.pointer (some ⟨R,1,none⟩),.inr rfl,hset.trans (by simp)⟩,?_,HS.o.le⟩,?_,?_⟩
 ·have e1:(out++t).length=nl+t.length:=by rw[List.length_append,HNL.o]
  rw[e1,Cc,<-Cy t,<-HT.o];refine ownsRow_setCell_below ?_ (by simp) _;exact HO2.o
 ·exact((K2.o.weak _).trans (Mv.refl _ _) (Wr.of_grown HG.o)).trans (Mv.refl _ _) (Wr.of_set w2 2 _)
 ·intro k hk
  have hk':(Value.slice ao n' cap).ownBlock=some k:=hk
  rcases HAT.o with h1|h1<;>rw[h1]at hk'
  ·exact .inl hk'
  ·right;cases hk';exact K2.o.size
end Go.Proofs.YtgfmiladfeoldaaGreatDoor
