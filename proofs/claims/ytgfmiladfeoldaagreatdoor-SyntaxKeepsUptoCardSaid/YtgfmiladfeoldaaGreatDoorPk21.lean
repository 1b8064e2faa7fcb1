import Derived.Test.YtgfmiladfeoldaaGreatDoorPk18
set_option linter.unusedSimpArgs false
set_option linter.unusedVariables false
set_option maxRecDepth 100000
set_option maxHeartbeats 16000000
namespace Go.Proofs.YtgfmiladfeoldaaGreatDoor
open Go.RowKit NatP LexP
theorem IRs.stay {w w':World}{v:Value}{l:List (Bool×Nat)}{q:Nat}(h:IRs w v l)(hq:∀o,(∀b,w.cell? ⟨q,o,none⟩≠some (.bool b))/\ ∀x,w.cell? ⟨q,o,none⟩≠some (.int .u64 x))(hg:w.grownBy w' (some q)):IRs w' v l:=by
 obtain⟨ao,E,e,O,T,U⟩:=h;refine⟨ao,E,e,O,T,fun h0=> ?_⟩;obtain⟨g,o,rfl,a2,a3⟩:=U h0
 have I:g≠q:=by
  intro e;subst e;obtain⟨m,xs,b1,-⟩:=a3 0 l[0] (List.getElem?_eq_getElem h0);exact(hq _).1 _ b1
 refine⟨g,o,rfl,Nat.lt_of_lt_of_le a2 hg.size,fun j p hj=> ?_⟩;obtain⟨m,xs,b1,b2,b3,b4,b5,b6⟩:=a3 j p hj;have H:∀i,w'.cell? ⟨g,i,none⟩=w.cell? ⟨g,i,none⟩:=fun i=>World.cell?_of_block (hg.block g a2 (fun e=>I (by cases e;rfl)));refine⟨m,xs,(H _).trans b1,(H _).trans b2,?_,b4,b5,b6⟩;obtain⟨c0,ao,E,rfl,c1,c2,c3,c4⟩:=b3;refine⟨fun k hk=>Nat.lt_of_lt_of_le (c0 k hk) hg.size,ao,E,rfl,c1,c2,c3,fun i x hx=> ?_⟩;obtain⟨g2,o2,rfl,c5⟩:=c4 i x hx;refine⟨g2,o2,rfl,?_⟩;have J:=World.block_lt_of_cell? w _ c5
 have K:g2≠q:=by
  intro e;subst e;exact(hq _).2 _ c5
 exact(World.cell?_of_block (hg.block g2 J (fun e=>K (by cases e;rfl)))).trans c5
def MatR (fin f:Nat)(s:SynP.St):SynP.PR SynP.MatV:=(SynP.Xi fin f s).bind fun m s=>SynP.done fin m s
def RmP (r:SynP.PR SynP.MatV)(R mb:Nat)(w:World)(e:Ending)(w':World):Prop:=
 match r with
 |none=>False
 |some (.error (c,k))=>e=T7 c k/\Wr R (some mb) w w'
 |some (.ok (m,_))=>e=.returned (.tuple #[])/\Wr R (some mb) w w'/\ ∃av,w'.heap[mb]?=some (.cells #[.int .i64 (m.rows:Nat),.int .i64 (m.cols:Nat),av] 47 (0,0))/\IRs w' av m.at_/\IOw w.heap.size w' av m.at_
theorem Qhs (R:Nat)(tv:Value)(L:List Tok)(fin f:Nat)(s:SynP.St)(pb mb:Nat)(w:World)(h:RS w R tv L fin 0 s (.slice none 0 0) [])(hp:w.heap[pb]?=some (.cells #[.pointer (some ⟨R,0,none⟩)] 77 (0,0)))(hm:w.heap[mb]?=some (.cells #[.int .i64 0,.int .i64 0,.slice none 0 0] 47 (0,0)))(hpR:R<pb)(hmR:R<mb)(hpm:pb≠mb)(hne:SynP.Xi fin f s≠none):
  Calls Tryz.prog 53 #[.pointer (some ⟨pb,0,none⟩),.pointer (some ⟨mb,0,none⟩)] w (RmP (MatR fin f s) R mb w):=by
 have HS:=zq h;have HNE:=zq hne;have hpl:=(Array.getElem?_eq_some_iff.1 hp).1;have hml:=(Array.getElem?_eq_some_iff.1 hm).1;have HP:=zq hp;have HM:=zq hm;obtain⟨r,hr⟩:=xq (MatR fin f s);have HR:=zq hr;rw[<-hr]
 have c0:w.cell? ⟨pb,0,none⟩=some (.pointer (some ⟨R,0,none⟩)):=by rw[cell_of_row _ _ 0 _ _ _ hp];rfl
 clear h hne hp hm hr;go_enter Tryz.func53,Tryz.ntmps53;go_wp2_with fail;refine(Ey R tv L fin 0 s _ [] _ HS.o f HNE.o).mono ?_;rintro e w1 hn
 rcases hN:SynP.Xi fin f s with- |(⟨fc,fk⟩|⟨m,s2⟩)<;>rw[hN]at hn
 ·exact hn.elim
 ·obtain⟨rfl,n1⟩:=hn
  refine⟨rfl,?_⟩
  have hre:r=some (.error (fc,fk)):=by rw[HR.o];unfold MatR;rw[hN];rfl
  rw[hre];exact⟨rfl,n1.weak _⟩
 obtain⟨v2,a2,rfl,n1,n2,n3,av,rfl,n4,n5⟩:=hn
 have HR1:Hid (r=SynP.done fin m s2):=by show _=_;rw[HR.o];unfold MatR;rw[hN];rfl
 have hm1:w1.heap[mb]?=some (.cells #[.int .i64 0,.int .i64 0,.slice none 0 0] 47 (0,0)):=(n2.block mb hml (by omega) (by simp)).trans HM.o;have hp1:w1.heap[pb]?=some (.cells #[.pointer (some ⟨R,0,none⟩)] 77 (0,0)):=(n2.block pb hpl (by omega) (by simp)).trans HP.o;have hml1:=(Array.getElem?_eq_some_iff.1 hm1).1;have hpl1:=(Array.getElem?_eq_some_iff.1 hp1).1
 have hnb:∀o,(∀b,w1.cell? ⟨mb,o,none⟩≠some (.bool b))/\ ∀x,w1.cell? ⟨mb,o,none⟩≠some (.int .u64 x):=by
  intro o;rw[cell_of_row _ _ o _ _ _ hm1]
  match o with
  |0=>exact⟨fun b e=>by simp at e,fun x e=>by simp at e⟩
  |1=>exact⟨fun b e=>by simp at e,fun x e=>by simp at e⟩
  |2=>exact⟨fun b e=>by simp at e,fun x e=>by simp at e⟩
  |o+3=>exact⟨fun b e=>by simp at e,fun x e=>by simp at e⟩
 have N4:=zq n4;have N5:=zq n5;obtain⟨ao,cap,rfl,-,-,-⟩:=n4
 have e0:w1.cell? ⟨pb,0,none⟩=some (.pointer (some ⟨R,0,none⟩)):=by rw[cell_of_row _ _ 0 _ _ _ hp1];rfl
 have d0:w1.cell? ⟨mb,0,none⟩=some (.int .i64 0):=by rw[cell_of_row _ _ 0 _ _ _ hm1];rfl
 have d1:w1.cell? ⟨mb,1,none⟩=some (.int .i64 0):=by rw[cell_of_row _ _ 1 _ _ _ hm1];rfl
 have d2:w1.cell? ⟨mb,2,none⟩=some (.slice none 0 0):=by rw[cell_of_row _ _ 2 _ _ _ hm1];rfl
 have z0:w1.frozen? ⟨mb,0,none⟩=false:=frozen_of_row _ _ 0 _ _ hm1;have z1:w1.frozen? ⟨mb,1,none⟩=false:=frozen_of_row _ _ 1 _ _ hm1;have z2:w1.frozen? ⟨mb,2,none⟩=false:=frozen_of_row _ _ 2 _ _ hm1;obtain⟨ln,hln⟩:=xq m.at_.length;rw[<-hln]at N4 N5 ⊢;have s0:=heap_setCell_same w1 mb 0 _ 47 (.int .i64 (m.rows:Nat)) hm1;have s1:=heap_setCell_same _ mb 1 _ 47 (.int .i64 (m.cols:Nat)) s0;have s2':=heap_setCell_same _ mb 2 _ 47 (.slice ao ln cap) s1
 have hgr:w1.grownBy (((w1.setCell ⟨mb,0,none⟩ (.int .i64 (m.rows:Nat))).setCell ⟨mb,1,none⟩ (.int .i64 (m.cols:Nat))).setCell ⟨mb,2,none⟩ (.slice ao ln cap)) (some mb):=by
  refine⟨rfl,rfl,rfl,by simp[World.setCell],fun k _ hk=> ?_⟩;have hne:k≠mb:=fun e=>hk (by rw[e]);exact(heap_setCell_other _ ⟨mb,2,none⟩ k _ hne).trans ((heap_setCell_other _ ⟨mb,1,none⟩ k _ hne).trans (heap_setCell_other _ ⟨mb,0,none⟩ k _ hne))
 have HGR:=zq hgr;have HMB:Hid ((((w1.setCell ⟨mb,0,none⟩ (.int .i64 (m.rows:Nat))).setCell ⟨mb,1,none⟩ (.int .i64 (m.cols:Nat))).setCell ⟨mb,2,none⟩ (.slice ao ln cap)).heap[mb]?=some (.cells #[.int .i64 (m.rows:Nat),.int .i64 (m.cols:Nat),.slice ao ln cap] 47 (0,0))):=s2'.trans (by simp);have HIR:Hid (IRs (((w1.setCell ⟨mb,0,none⟩ (.int .i64 (m.rows:Nat))).setCell ⟨mb,1,none⟩ (.int .i64 (m.cols:Nat))).setCell ⟨mb,2,none⟩ (.slice ao ln cap)) (.slice ao ln cap) m.at_):=N4.o.stay hnb hgr;have HIO:Hid (IOw w.heap.size (((w1.setCell ⟨mb,0,none⟩ (.int .i64 (m.rows:Nat))).setCell ⟨mb,1,none⟩ (.int .i64 (m.cols:Nat))).setCell ⟨mb,2,none⟩ (.slice ao ln cap)) (.slice ao ln cap) m.at_):=N5.o.at fun q h1 h2=>hgr.block q h2 (fun e=>by cases e;omega);have HRS:=zq (n1.growK hgr (fun q hq=>by cases hq;exact⟨hmR,by simp[Value.ownBlock],fun p hp=>by cases hp⟩)).1;have HPB:Hid ((((w1.setCell ⟨mb,0,none⟩ (.int .i64 (m.rows:Nat))).setCell ⟨mb,1,none⟩ (.int .i64 (m.cols:Nat))).setCell ⟨mb,2,none⟩ (.slice ao ln cap)).heap[pb]?=some (.cells #[.pointer (some ⟨R,0,none⟩)] 77 (0,0))):=(hgr.block pb hpl1 (by simp;exact hpm)).trans hp1;have HWR:Hid (Wr R (some mb) w (((w1.setCell ⟨mb,0,none⟩ (.int .i64 (m.rows:Nat))).setCell ⟨mb,1,none⟩ (.int .i64 (m.cols:Nat))).setCell ⟨mb,2,none⟩ (.slice ao ln cap))):=(n2.weak _).trans (Mv.refl _ _) (Wr.of_grown hgr);obtain⟨a5,ha5⟩:=xq a2;clear n1 n2 n3 n5 hN hm1 hp1 hnb s0 s1 s2' hgr hln ha5;go_wp2_with fail;obtain⟨w3,hw3⟩:∃w3,w3=((w1.setCell ⟨mb,0,none⟩ (.int .i64 (m.rows:Nat))).setCell ⟨mb,1,none⟩ (.int .i64 (m.cols:Nat))).setCell ⟨mb,2,none⟩ (.slice ao ln cap):=⟨_,rfl⟩;rw[<-hw3]at HGR HMB HIR HIO HRS HPB HWR ⊢;clear hw3 d0 d1 d2 z0 z1 z2 e0 c0;refine(Jw R tv L fin a2 s2 _ _ _ HRS.o).mono ?_;rintro e w4 ⟨rfl,b1⟩;have HRS4:=zq (HRS.o.below b1);have hm4:w4.heap[mb]?=some (.cells #[.int .i64 (m.rows:Nat),.int .i64 (m.cols:Nat),.slice ao ln cap] 47 (0,0)):=(b1.block mb ((Array.getElem?_eq_some_iff.1 HMB.o).1)).trans HMB.o;have HM4:=zq hm4;have HI4:=zq (HIR.o.below b1);have HO4:=zq (HIO.o.below b1);have HW4:Hid (Wr R (some mb) w w4):=HWR.o.trans (Mv.refl _ _) (Wr.of_below b1)
 have c4:w4.cell? ⟨pb,0,none⟩=some (.pointer (some ⟨R,0,none⟩)):=by
  have:=(b1.block pb ((Array.getElem?_eq_some_iff.1 HPB.o).1)).trans HPB.o;rw[cell_of_row _ _ 0 _ _ _ this];rfl
 clear b1 hm4;by_cases hts:s2.ts=[]
 ·have HR4:Hid (r=some (.ok (m,s2))):=by show _=_;rw[HR1.o];unfold SynP.done;rw[if_pos hts];rfl
  rw[decide_eq_true hts];clear hts;go_wp2_with fail
  first|go_end0|refine bodyPost_ret (results_none rfl _ _ _) rfl ?_
  rw[HR4.o];exact⟨rfl,HW4.o,_,HM4.o,HI4.o,HO4.o⟩
 ·have HR4:Hid (r=SynP.unfit fin s2):=by show _=_;rw[HR1.o];unfold SynP.done;rw[if_neg hts]
  rw[decide_eq_false hts];clear hts;go_wp2_with fail;refine(J8 R tv L fin a2 s2 _ _ _ HRS4.o).mono ?_;rintro e w5 ⟨rfl,b1⟩;refine⟨rfl,?_⟩;rw[HR4.o];exact⟨rfl,HW4.o.trans (Mv.refl _ _) ((Wr.of_below (R:=R) (og:=none) b1).weak _)⟩
theorem Wr.grown1 {g:Nat}{w w':World}(h:Wr g none w w'):w.grownBy w' (some g):=⟨h.os,h.tape,h.output,h.size,fun k hk hne=>h.block k hk (fun e=>hne (by rw[e])) (by simp)⟩
theorem Yz {P:Program}{fn:Func}{p u:Tmp}{ty:TypeId}(h:fn.results= #[.cell p ty,.tmp u])(tmps:Array Value)(w:World)(g:Nat)(t:TypeId)(cs:Array Value)(fr:Nat×Nat)(d:TypeDesc)
  (hp:tmps.getD p undef=.pointer (some ⟨g,0,none⟩)) (hg:w.heap[g]?=some (.cells cs t fr))
  (hu:P.underlying ty=some d) (hd:(match d with| .struct _| .array _ _=>true|_=>false)=true) (hi:(P.info? ty).map (·.size)=some cs.size):
  (results fn tmps).run P w=.ok (.tuple #[.agg cs,tmps.getD u undef]) w:=by
 have E:tmps[p]?.getD undef=.pointer (some ⟨g,0,none⟩):=by simpa using hp
 simp[results,h,E,asAddr,run_loadVar_row w g t ty cs fr d hg hu hd hi]
theorem Gz {w:World}{g:Nat}{x y z:Value}(h:w.heap[g]?=some (.cells #[x,y,z] 47 (0,0)))(x' y' z':Value):
  (((w.setCell ⟨g,0,none⟩ x').setCell ⟨g,1,none⟩ y').setCell ⟨g,2,none⟩ z').heap[g]?=some (.cells #[x',y',z'] 47 (0,0))/\w.grownBy (((w.setCell ⟨g,0,none⟩ x').setCell ⟨g,1,none⟩ y').setCell ⟨g,2,none⟩ z') (some g):=by
 have s0:=heap_setCell_same w g 0 _ 47 x' h;have s1:=heap_setCell_same _ g 1 _ 47 y' s0;have s2:=heap_setCell_same _ g 2 _ 47 z' s1;refine⟨s2.trans (by simp),rfl,rfl,rfl,by simp[World.setCell],fun k _ hk=> ?_⟩;have E:k≠g:=fun e=>hk (by rw[e]);exact(heap_setCell_other _ ⟨g,2,none⟩ k _ E).trans ((heap_setCell_other _ ⟨g,1,none⟩ k _ E).trans (heap_setCell_other _ ⟨g,0,none⟩ k _ E))
theorem Tu {w:World}{g:Nat}{x y z:Value}(h:w.heap[g]?=some (.cells #[x,y,z] 47 (0,0))):
  w.cell? ⟨g,0,none⟩=some x/\w.cell? ⟨g,1,none⟩=some y/\w.cell? ⟨g,2,none⟩=some z/\w.frozen? ⟨g,0,none⟩=false/\w.frozen? ⟨g,1,none⟩=false/\w.frozen? ⟨g,2,none⟩=false:=by
 refine⟨?_,?_,?_,frozen_of_row _ _ 0 _ _ h,frozen_of_row _ _ 1 _ _ h,frozen_of_row _ _ 2 _ _ h⟩<;>rw[cell_of_row _ _ _ _ _ _ h]<;>rfl
theorem Ru {w w' w'':World}{g:Nat}(h:Below w.heap.size w w')(hg:w'.grownBy w'' (some g))(hb:w.heap.size<=g):Below w.heap.size w w'':=
 ⟨hg.os.trans h.os,hg.tape.trans h.tape,hg.output.trans h.output,Nat.le_trans h.size hg.size,fun k hk=>(hg.block k (Nat.lt_of_lt_of_le hk h.size) (fun e=>by cases e;omega)).trans (h.block k hk)⟩
theorem Qg5 {w:World}{g:Nat}{x y:Int}{z:Value}(h:w.heap[g]?=some (.cells #[.int .i64 x,.int .i64 y,z] 47 (0,0)))(hz:(∀b,z≠ .bool b)/\ ∀x,z≠ .int .u64 x):∀o,(∀b,w.cell? ⟨g,o,none⟩≠some (.bool b))/\ ∀x,w.cell? ⟨g,o,none⟩≠some (.int .u64 x):=by
 intro o;rw[cell_of_row _ _ o _ _ _ h]
 match o with
 |0=>exact⟨fun b e=>by simp at e,fun x e=>by simp at e⟩
 |1=>exact⟨fun b e=>by simp at e,fun x e=>by simp at e⟩
 |2=>exact⟨fun b e=>hz.1 b (by simpa using e),fun x e=>hz.2 x (by simpa using e)⟩
 |o+3=>exact⟨fun b e=>by simp at e,fun x e=>by simp at e⟩
theorem Qwc {w:World}{g:Nat}{x y:Int}(h:w.heap[g]?=some (.cells #[.int .i64 x,.int .i64 y] 81 (0,0))):∀o,(∀b,w.cell? ⟨g,o,none⟩≠some (.bool b))/\ ∀x,w.cell? ⟨g,o,none⟩≠some (.int .u64 x):=by
 intro o;rw[cell_of_row _ _ o _ _ _ h]
 match o with
 |0=>exact⟨fun b e=>by simp at e,fun x e=>by simp at e⟩
 |1=>exact⟨fun b e=>by simp at e,fun x e=>by simp at e⟩
 |o+2=>exact⟨fun b e=>by simp at e,fun x e=>by simp at e⟩
def Qqn (t:Qx)(w:World)(e:Ending)(w':World):Prop:=
 match SynP.Zv t with
 | .error k=>e=.returned (.tuple #[.agg #[.int .i64 0,.int .i64 0,.slice none 0 0],.int .i64 (k:Nat)])/\Below w.heap.size w w'
 | .ok m=> ∃av,e=.returned (.tuple #[.agg #[.int .i64 (m.rows:Nat),.int .i64 (m.cols:Nat),av],.int .i64 0])/\Below w.heap.size w w'/\IRs w' av m.at_
def Sz (t:Qx)(w:World)(e:Ending)(w':World):Prop:=
 match SynP.Zv t with
 | .error k=>e=.returned (.tuple #[.agg #[.int .i64 0,.int .i64 0,.slice none 0 0],.int .i64 (k:Nat)])/\Below w.heap.size w w'
 | .ok m=> ∃av,e=.returned (.tuple #[.agg #[.int .i64 (m.rows:Nat),.int .i64 (m.cols:Nat),av],.int .i64 0])/\Below w.heap.size w w'/\IRs w' av m.at_/\IOw w.heap.size w' av m.at_
theorem Mg (t:Qx)(w:World)(ht:t.length<=67108864)(hx:Lx w)(hs:SG w)(hsz:4<w.heap.size):
  Calls Tryz.prog 20 #[.string ⟨t.toArray⟩] w (Sz t w):=by
 have hmf:∀(fn:Fn) (first cap:Array Value) (w:World),(Instr.makeFunc fn first cap).run Tryz.prog w=.ok (.func fn first cap) w:=fun _ _ _ _=>rfl;obtain⟨T,hT⟩:=xq (⟨t.toArray⟩:ByteArray)
 have hTl:T.data.toList=t:=by rw[hT]
 have HF:Hid (Fits T.data.toList):=by show Fits _;rw[hTl];exact ht
 have HTL:=zq hTl;rw[<-hT];have HA0:=zq (Qq w (.cells #[.int .i64 0,.int .i64 0,.slice none 0 0] 47));have HB0:=zq (heap_alloc_new w (.cells #[.int .i64 0,.int .i64 0,.slice none 0 0] 47));have HX:=zq (hx.below HA0.o);have HSG:=zq (hs.below HA0.o hsz)
 have hsz1:4<(w.alloc (.cells #[.int .i64 0,.int .i64 0,.slice none 0 0] 47)).heap.size:=by simp;omega
 clear hx hs hT hTl ht;go_enter Tryz.func20,Tryz.ntmps20;go_wp2_with fail;refine(Rk T _ HF.o HX.o HSG.o hsz1).mono ?_;rintro e w1 hn;unfold StP at hn;rw[HTL.o]at hn
 cases hK:Toks 1 (Qz t) with
 |error p=>
  obtain⟨c,k⟩:=p;rw[hK]at hn;obtain⟨rfl,hb⟩:=hn;have hk0:=(Uh _ _ _ hK).1
  have HV:Hid (SynP.Zv t=.error 7):=by show _=_;unfold SynP.Zv;rw[hK]
  simp only at hk0
  have hkk:((k:Int) !=0)=true:=by simp;omega
  have hb1:Below w.heap.size w w1:=Qj HA0.o hb;have hg1:w1.heap[w.heap.size]?=some (.cells #[.int .i64 0,.int .i64 0,.slice none 0 0] 47 (0,0)):=(hb.block _ (by simp)).trans HB0.o;have hgl:w.heap.size<w1.heap.size:=(Array.getElem?_eq_some_iff.1 hg1).1;obtain⟨c0,c1,c2,z0,z1,z2⟩:=Tu hg1;obtain⟨k1,k2⟩:=Gz hg1 (.int .i64 0) (.int .i64 0) (.slice none 0 0);have k3:=Ru hb1 k2 (Nat.le_refl _);have K1:=zq (fun b:Obj=>((Qq (((w1.setCell ⟨w.heap.size,0,none⟩ (.int .i64 0)).setCell ⟨w.heap.size,1,none⟩ (.int .i64 0)).setCell ⟨w.heap.size,2,none⟩ (.slice none 0 0)) b).block w.heap.size (Nat.lt_of_lt_of_le hgl k2.size)).trans k1);have K2:=zq (fun b:Obj=>Qj k3 (Qq (((w1.setCell ⟨w.heap.size,0,none⟩ (.int .i64 0)).setCell ⟨w.heap.size,1,none⟩ (.int .i64 0)).setCell ⟨w.heap.size,2,none⟩ (.slice none 0 0)) b));clear hb hb1 hg1 k1 k2 k3 hK hk0;go_wp2_with fail;refine bodyPost_ret (Yz rfl _ _ w.heap.size 47 _ _ _ rfl (K1.o _) Tryz.underlying47 rfl (by kernel_rfl)) rfl ?_;unfold Sz;rw[HV.o]
  exact⟨rfl,K2.o _⟩
 |ok ts=>
  rw[hK]at hn;obtain⟨R,tv,rfl,hR,hb,h⟩:=hn;obtain⟨fin,hfin⟩:=xq ((Qz t).length+1);rw[<-hfin]at h;have hgood:=SynP.Ux fin (ts.length+3) (s:=⟨ts,0⟩) (Nat.le_refl _) (Nat.le_refl _)
  have hne:SynP.Xi fin (ts.length+3) ⟨ts,0⟩≠none:=by
   intro e;simp only[e]at hgood;exact hgood.elim
  have hgr:SynP.Good ts.length (MatR fin (ts.length+3) ⟨ts,0⟩):=SynP.Good.bind hgood (fun a s hl=>by
   unfold SynP.done;split
   ·exact SynP.Q6 a (by simp at hl;omega)
   ·exact SynP.Yi _ _ _)
  have HRE:Hid (SynP.Zv t=match MatR fin (ts.length+3) ⟨ts,0⟩ with|none=> .error 0|some (.error (_,k))=> .error (if k=2\/k=5 then k else 7)|some (.ok (m,_))=> .ok m):=by
   show _=_;unfold SynP.Zv;rw[hK,hfin];rfl
  have HGOOD:=zq hgr;have HNE:=zq hne;have hb1:Below w.heap.size w w1:=Qj HA0.o hb;have hg1:w1.heap[w.heap.size]?=some (.cells #[.int .i64 0,.int .i64 0,.slice none 0 0] 47 (0,0)):=(hb.block _ (by simp)).trans HB0.o
  have hRw:w.heap.size<R:=by simp at hR;omega
  have hRl:=h.lt;obtain⟨w2,hw2⟩:=xq ((w1.alloc (.cells #[.pointer (some ⟨R,0,none⟩)] 77)).alloc (.cells #[.int .i64 0,.int .i64 0,.slice none 0 0] 47))
  have hb2:Below w1.heap.size w1 w2:=by rw[hw2];exact Qj (Qq _ _) (Qq _ _)
  have hp2:w2.heap[w1.heap.size]?=some (.cells #[.pointer (some ⟨R,0,none⟩)] 77 (0,0)):=by
   rw[hw2];exact((Qq _ _).block _ (by simp)).trans (heap_alloc_new w1 _)
  have hm2:w2.heap[w1.heap.size+1]?=some (.cells #[.int .i64 0,.int .i64 0,.slice none 0 0] 47 (0,0)):=by
   rw[hw2];have:=heap_alloc_new (w1.alloc (.cells #[.pointer (some ⟨R,0,none⟩)] 77)) (.cells #[.int .i64 0,.int .i64 0,.slice none 0 0] 47);rw[show (w1.alloc (.cells #[.pointer (some ⟨R,0,none⟩)] 77)).heap.size=w1.heap.size+1 by simp]at this;exact this
  have hsz2:w2.heap.size=w1.heap.size+2:=by rw[hw2];simp
  obtain⟨G,hG⟩:=xq w1.heap.size;rw[<-hG]at hp2 hm2 hsz2 hRl;have hWa:=Qq w2 (.cells #[.int .i64 0,.int .i64 0] 81);have hWn:=heap_alloc_new w2 (.cells #[.int .i64 0,.int .i64 0] 81)
  have HGU:=zq (Bm (.pointer (some ⟨G,0,none⟩)) (.pointer (some ⟨G+1,0,none⟩)) w2
   (fun c k w'=>MatR fin (ts.length+3) ⟨ts,0⟩=some (.error (c,k))/\Wr R (some (G+1)) w2 w')
   (fun w'=> ∃m s',MatR fin (ts.length+3) ⟨ts,0⟩=some (.ok (m,s'))/\Wr R (some (G+1)) w2 w'/\ ∃av,w'.heap[G+1]?=some (.cells #[.int .i64 (m.rows:Nat),.int .i64 (m.cols:Nat),av] 47 (0,0))/\IRs w' av m.at_/\IOw (w2.heap.size+1) w' av m.at_)
   ((Qhs R tv ts fin (ts.length+3) ⟨ts,0⟩ G (G+1) _ ((h.below hb2).below hWa) ((hWa.block G (by omega)).trans hp2) ((hWa.block (G+1) (by omega)).trans hm2) (by omega) (by omega) (by omega) hne).mono fun e w' hq=>by
      unfold RmP at hq
      have fr:∀w',Wr R (some (G+1)) (w2.alloc (.cells #[.int .i64 0,.int .i64 0] 81)) w'->w'.heap[w2.heap.size]?=some (.cells #[.int .i64 0,.int .i64 0] 81 (0,0))/\Wr R (some (G+1)) w2 w':=fun w' hw=>
       ⟨(hw.block _ (by simp) (by omega) (by simp;omega)).trans hWn,(Wr.of_below hWa).trans (Mv.refl _ _) hw⟩
      rcases hL:MatR fin (ts.length+3) ⟨ts,0⟩ with- |(⟨c,k⟩|⟨m,s'⟩)<;>rw[hL]at hq
      ·exact hq.elim
      ·exact⟨(fr w' hq.2).1,.inl ⟨c,k,hq.1,rfl,(fr w' hq.2).2⟩⟩
      ·exact⟨(fr w' hq.2.1).1,.inr ⟨hq.1,m,s',rfl,(fr w' hq.2.1).2,by have h1:=hq.2.2;simp only[World.size_alloc]at h1;exact h1⟩⟩))
  have hb3:=Qj hb1 (hb2.mono (by omega));have HBW:=zq (Qj hb1 hb2);have hg2:w2.heap[w.heap.size]?=some (.cells #[.int .i64 0,.int .i64 0,.slice none 0 0] 47 (0,0)):=(hb2.block _ (by omega)).trans hg1;have HG2:=zq hg2;clear h hb hb1 hg1 hb2 hp2 hm2 hgood hne hgr hWa hWn hb3 hg2 hK hfin;go_wp2_with fail;rw[<-hw2,<-hG];clear hw2 hG;refine HGU.o.mono ?_;rintro e w4 ⟨w3,hg3,hw34,⟨c,k,rfl,hL,hw23⟩|⟨rfl,m,s',hL,hw23,av,hm3,hi3,ho3⟩⟩
  ·have hk0:0<k:=by
    have:=HGOOD.o;rw[hL]at this;exact this
   have HV:Hid (SynP.Zv t=.error (if k=2\/k=5 then k else 7)):=by show _=_;rw[HRE.o,hL]
   have hB4:Below (w.heap.size+1) w2 w4:=hw34.to_below (hw23.to_below (Below.refl _ _) (by omega) (by omega) (fun q hq=>by cases hq;omega)) (by have:=hw23.size;omega) (by omega) (fun q hq=>by cases hq)
   have hke0:((k:Int)==0)=false:=by simp;omega
   have hlt4:w.heap.size<w4.heap.size:=by have:=hB4.size;omega
   have hg4:=(hB4.block w.heap.size (by omega)).trans HG2.o;have hw4:Below w.heap.size w w4:=HBW.o.trans (hB4.mono (by omega));obtain⟨y0,y1,y2,x0,x1,x2⟩:=Tu hg4;obtain⟨j1,j2⟩:=Gz hg4 (.int .i64 0) (.int .i64 0) (.slice none 0 0);have j3:=Ru hw4 j2 (Nat.le_refl _);have J1:=zq (fun b:Obj=>((Qq (((w4.setCell ⟨w.heap.size,0,none⟩ (.int .i64 0)).setCell ⟨w.heap.size,1,none⟩ (.int .i64 0)).setCell ⟨w.heap.size,2,none⟩ (.slice none 0 0)) b).block w.heap.size (Nat.lt_of_lt_of_le hlt4 j2.size)).trans j1);have J2:=zq (fun b:Obj=>Qj j3 (Qq (((w4.setCell ⟨w.heap.size,0,none⟩ (.int .i64 0)).setCell ⟨w.heap.size,1,none⟩ (.int .i64 0)).setCell ⟨w.heap.size,2,none⟩ (.slice none 0 0)) b));clear hg3 hw34 hL hw23 hB4 hg4 hw4 j1 j2 j3;by_cases h2:k=2
   ·subst h2
    have HV2:Hid (SynP.Zv t=.error 2):=by show _=_;rw[HV.o,if_pos (.inl rfl)]
    go_wp2_with fail;go_region
    all_goals
     go_wp2_with fail;refine bodyPost_ret (Yz rfl _ _ w.heap.size 47 _ _ _ rfl (J1.o _) Tryz.underlying47 rfl (by kernel_rfl)) rfl ?_;unfold Sz;rw[HV2.o];exact⟨rfl,(J2.o _).drew⟩
   ·by_cases h5:k=5
    ·subst h5
     have HV2:Hid (SynP.Zv t=.error 5):=by show _=_;rw[HV.o,if_pos (.inr rfl)]
     go_wp2_with fail;go_region
     all_goals
      go_wp2_with fail;refine bodyPost_ret (Yz rfl _ _ w.heap.size 47 _ _ _ rfl (J1.o _) Tryz.underlying47 rfl (by kernel_rfl)) rfl ?_;unfold Sz;rw[HV2.o];exact⟨rfl,(J2.o _).drew⟩
    ·have e2:((k:Int)==2)=false:=by simp;omega
     have e5:((k:Int)==5)=false:=by simp;omega
     have HV2:Hid (SynP.Zv t=.error 7):=by show _=_;rw[HV.o,if_neg (by omega)]
     go_wp2_with fail;refine bodyPost_ret (Yz rfl _ _ w.heap.size 47 _ _ _ rfl (J1.o _) Tryz.underlying47 rfl (by kernel_rfl)) rfl ?_;unfold Sz;rw[HV2.o];exact⟨rfl,J2.o _⟩
  ·have HV:Hid (SynP.Zv t=.ok m):=by show _=_;rw[HRE.o,hL]
   have hB4:Below (w.heap.size+1) w2 w4:=hw34.to_below (hw23.to_below (Below.refl _ _) (by omega) (by omega) (fun q hq=>by cases hq;omega)) (by have:=hw23.size;omega) (by omega) (fun q hq=>by cases hq);have ha:=Qq w4 (.cells #[.int .i64 0,.int .i64 0] 81)
   have hlt4:w.heap.size<w4.heap.size:=by have:=hB4.size;omega
   have hg4:=(hB4.block w.heap.size (by omega)).trans HG2.o;have hw4:Below w.heap.size w w4:=HBW.o.trans (hB4.mono (by omega));have hi4:=hi3.stay (Qwc hg3) hw34.grown1;have ho4:IOw (w2.heap.size+1) w4 av m.at_:=ho3.at fun q h1 h2=>hw34.block q h2 (by omega) (by simp);have hm4:w4.heap[G+1]?=some (.cells #[.int .i64 (m.rows:Nat),.int .i64 (m.cols:Nat),av] 47 (0,0)):=(hw34.block (G+1) ((Array.getElem?_eq_some_iff.1 hm3).1) (by omega) (by simp)).trans hm3;have hG4:G+1<w4.heap.size:=(Array.getElem?_eq_some_iff.1 hm4).1;obtain⟨ao,cap,rfl,-,-,-⟩:=hi3;obtain⟨ln,hln⟩:=xq m.at_.length;rw[<-hln]at hi4 ho4 hm4;obtain⟨c0,c1,c2,z0,z1,z2⟩:=Tu hg4;obtain⟨d0,d1,d2,-,-,-⟩:=Tu hm4;obtain⟨j1,j2⟩:=Gz hg4 (.int .i64 (m.rows:Nat)) (.int .i64 (m.cols:Nat)) (.slice ao ln cap);have j3:=Ru hw4 j2 (Nat.le_refl _);have J1:=zq (fun b:Obj=>((Qq (((w4.setCell ⟨w.heap.size,0,none⟩ (.int .i64 (m.rows:Nat))).setCell ⟨w.heap.size,1,none⟩ (.int .i64 (m.cols:Nat))).setCell ⟨w.heap.size,2,none⟩ (.slice ao ln cap)) b).block w.heap.size (Nat.lt_of_lt_of_le hlt4 j2.size)).trans j1);have J2:=zq (fun b:Obj=>Qj j3 (Qq (((w4.setCell ⟨w.heap.size,0,none⟩ (.int .i64 (m.rows:Nat))).setCell ⟨w.heap.size,1,none⟩ (.int .i64 (m.cols:Nat))).setCell ⟨w.heap.size,2,none⟩ (.slice ao ln cap)) b));have J3:=zq (fun b:Obj=>(hi4.stay (Qg5 (z:=.slice none 0 0) hg4 ⟨(fun b e=>by cases e),(fun x e=>by cases e)⟩) j2).below (Qq _ b));have J4:=zq (fun b:Obj=>(((ho4.at fun q h1 h2=>j2.block q h2 (fun e=>by cases e;omega)).below (Qq _ b)).low (show w.heap.size<=_ by omega)));clear hg3 hw34 hL hw23 hB4 hg4 hw4 j1 j2 j3 hi4 ho3 ho4 hm3 hm4 hln ha;go_wp2_with fail;refine bodyPost_ret (Yz rfl _ _ w.heap.size 47 _ _ _ rfl (J1.o _) Tryz.underlying47 rfl (by kernel_rfl)) rfl ?_;unfold Sz;rw[HV.o];exact⟨.slice ao ln cap,rfl,J2.o _,J3.o _,J4.o _⟩
theorem Ai (t:Qx)(w:World)(ht:t.length<=67108864)(hx:Lx w)(hs:SG w)(hsz:4<w.heap.size):
  Calls Tryz.prog 20 #[.string ⟨t.toArray⟩] w (Qqn t w):=(Mg t w ht hx hs hsz).mono fun e w' h=>by
 unfold Sz at h;unfold Qqn;split at h
 ·exact h
 ·obtain⟨av,E,H,I,-⟩:=h
  exact⟨av,E,H,I⟩
theorem Qg1 {w:World}{g:Nat}{x:Value}(h:w.heap[g]?=some (.cells #[x] 97 (0,0)))(x':Value):
  (w.setCell ⟨g,0,none⟩ x').heap[g]?=some (.cells #[x'] 97 (0,0))/\w.grownBy (w.setCell ⟨g,0,none⟩ x') (some g):=by
 have s0:=heap_setCell_same w g 0 _ 97 x' h;refine⟨s0.trans (by simp),rfl,rfl,rfl,by simp[World.setCell],fun k _ hk=> ?_⟩;have E:k≠g:=fun e=>hk (by rw[e]);exact heap_setCell_other _ ⟨g,0,none⟩ k _ E
def CxR (fin f:Nat)(s:SynP.St):SynP.PR (List (List Nat)):=(SynP.Q5 fin f s).bind fun m s=>SynP.done fin m s
def CxP (r:SynP.PR (List (List Nat)))(R mb:Nat)(w:World)(e:Ending)(w':World):Prop:=
 match r with
 |none=>False
 |some (.error (c,k))=>e=T7 c k/\Wr R (some mb) w w'/\ ∃ao n cap,w'.heap[mb]?=some (.cells #[.slice ao n cap] 97 (0,0))
 |some (.ok (l,_))=>e=.returned (.tuple #[])/\Wr R (some mb) w w'/\ ∃lv svs,w'.heap[mb]?=some (.cells #[lv] 97 (0,0))/\Cx w' w.heap.size lv svs l
theorem Qm6 (R:Nat)(tv:Value)(L:List Tok)(fin f:Nat)(s:SynP.St)(pb mb:Nat)(w:World)(h:RS w R tv L fin 0 s (.slice none 0 0) [])(hp:w.heap[pb]?=some (.cells #[.pointer (some ⟨R,0,none⟩)] 77 (0,0)))(hm:w.heap[mb]?=some (.cells #[.slice none 0 0] 97 (0,0)))(hpR:R<pb)(hmR:R<mb)(hpm:pb≠mb)(hne:SynP.Q5 fin f s≠none):
  Calls Tryz.prog 113 #[.pointer (some ⟨pb,0,none⟩),.pointer (some ⟨mb,0,none⟩)] w (CxP (CxR fin f s) R mb w):=by
 have HS:=zq h;have HNE:=zq hne;have hpl:=(Array.getElem?_eq_some_iff.1 hp).1;have hml:=(Array.getElem?_eq_some_iff.1 hm).1;have HP:=zq hp;have HM:=zq hm;obtain⟨r,hr⟩:=xq (CxR fin f s);have HR:=zq hr;rw[<-hr]
 have c0:w.cell? ⟨pb,0,none⟩=some (.pointer (some ⟨R,0,none⟩)):=by rw[cell_of_row _ _ 0 _ _ _ hp];rfl
 clear h hne hp hm hr;go_enter Tryz.func113,Tryz.ntmps113;go_wp2_with fail;refine(H9 R tv L fin 0 s _ [] _ HS.o f HNE.o).mono ?_;rintro e w1 hn
 rcases hN:SynP.Q5 fin f s with- |(⟨fc,fk⟩|⟨m,s2⟩)<;>rw[hN]at hn
 ·exact hn.elim
 ·obtain⟨rfl,n1⟩:=hn
  refine⟨rfl,?_⟩
  have hre:r=some (.error (fc,fk)):=by rw[HR.o];unfold CxR;rw[hN];rfl
  rw[hre];exact⟨rfl,n1.weak _,_,_,_,(n1.block mb hml (by omega) (by simp)).trans HM.o⟩
 obtain⟨v2,a2,rfl,n1,n2,n3,svs,n4⟩:=hn
 have HR1:Hid (r=SynP.done fin m s2):=by show _=_;rw[HR.o];unfold CxR;rw[hN];rfl
 have hm1:w1.heap[mb]?=some (.cells #[.slice none 0 0] 97 (0,0)):=(n2.block mb hml (by omega) (by simp)).trans HM.o;have hp1:w1.heap[pb]?=some (.cells #[.pointer (some ⟨R,0,none⟩)] 77 (0,0)):=(n2.block pb hpl (by omega) (by simp)).trans HP.o;have hml1:=(Array.getElem?_eq_some_iff.1 hm1).1;have hpl1:=(Array.getElem?_eq_some_iff.1 hp1).1;obtain⟨ao,cap,hv2,-,-,-⟩:=Qm n4.own;obtain⟨ln,hln⟩:=xq svs.length;rw[<-hln]at hv2;subst hv2
 have e0:w1.cell? ⟨pb,0,none⟩=some (.pointer (some ⟨R,0,none⟩)):=by rw[cell_of_row _ _ 0 _ _ _ hp1];rfl
 have d0:w1.cell? ⟨mb,0,none⟩=some (.slice none 0 0):=by rw[cell_of_row _ _ 0 _ _ _ hm1];rfl
 have z0:w1.frozen? ⟨mb,0,none⟩=false:=frozen_of_row _ _ 0 _ _ hm1;obtain⟨s0,hgr⟩:=Qg1 hm1 (.slice ao ln cap);have HGR:=zq hgr;have HMB:=zq s0;have HCX:=zq (n4.wr (Wr.of_set w1 0 (.slice ao ln cap)) hml);have HRS:=zq (n1.growK hgr (fun q hq=>by cases hq;exact⟨hmR,by simp[Value.ownBlock],fun p hp=>by cases hp⟩)).1;have HPB:Hid ((w1.setCell ⟨mb,0,none⟩ (.slice ao ln cap)).heap[pb]?=some (.cells #[.pointer (some ⟨R,0,none⟩)] 77 (0,0))):=(hgr.block pb hpl1 (by simp;exact hpm)).trans hp1;have HWR:Hid (Wr R (some mb) w (w1.setCell ⟨mb,0,none⟩ (.slice ao ln cap))):=(n2.weak _).trans (Mv.refl _ _) (Wr.of_grown hgr);obtain⟨a5,ha5⟩:=xq a2;clear n1 n2 n3 n4 hN hm1 hp1 s0 hgr hln ha5;go_wp2_with fail;obtain⟨w3,hw3⟩:=xq (w1.setCell ⟨mb,0,none⟩ (.slice ao ln cap));rw[<-hw3]at HGR HMB HCX HRS HPB HWR ⊢;clear hw3 d0 z0 e0 c0;refine(Jw R tv L fin a2 s2 _ _ _ HRS.o).mono ?_;rintro e w4 ⟨rfl,b1⟩;have HRS4:=zq (HRS.o.below b1);have hm4:w4.heap[mb]?=some (.cells #[.slice ao ln cap] 97 (0,0)):=(b1.block mb ((Array.getElem?_eq_some_iff.1 HMB.o).1)).trans HMB.o;have HM4:=zq hm4;have HC4:=zq (HCX.o.wr (Wr.of_below (R:=R) b1) (by omega));have HW4:Hid (Wr R (some mb) w w4):=HWR.o.trans (Mv.refl _ _) (Wr.of_below b1)
 have c4:w4.cell? ⟨pb,0,none⟩=some (.pointer (some ⟨R,0,none⟩)):=by
  have:=(b1.block pb ((Array.getElem?_eq_some_iff.1 HPB.o).1)).trans HPB.o;rw[cell_of_row _ _ 0 _ _ _ this];rfl
 clear b1 hm4;by_cases hts:s2.ts=[]
 ·have HR4:Hid (r=some (.ok (m,s2))):=by show _=_;rw[HR1.o];unfold SynP.done;rw[if_pos hts];rfl
  rw[decide_eq_true hts];clear hts;go_wp2_with fail
  first|go_end0|refine bodyPost_ret (results_none rfl _ _ _) rfl ?_
  rw[HR4.o];exact⟨rfl,HW4.o,_,_,HM4.o,HC4.o⟩
 ·have HR4:Hid (r=SynP.unfit fin s2):=by show _=_;rw[HR1.o];unfold SynP.done;rw[if_neg hts]
  rw[decide_eq_false hts];clear hts;go_wp2_with fail;refine(J8 R tv L fin a2 s2 _ _ _ HRS4.o).mono ?_;rintro e w5 ⟨rfl,b1⟩;refine⟨rfl,?_⟩;rw[HR4.o];exact⟨rfl,HW4.o.trans (Mv.refl _ _) ((Wr.of_below (R:=R) (og:=none) b1).weak _),_,_,_,(b1.block mb ((Array.getElem?_eq_some_iff.1 HM4.o).1)).trans HM4.o⟩
def P3 (t:Qx)(w:World)(e:Ending)(w':World):Prop:=
 match SynP.Jr t with
 |none=> ∃ao n cap,e=.returned (.tuple #[.slice ao n cap,.bool false])/\Below w.heap.size w w'
 |some l=> ∃lv svs,e=.returned (.tuple #[lv,.bool true])/\Below w.heap.size w w'/\Cx w' w.heap.size lv svs l
theorem Cx.lower {w:World}{B B':Nat}{v:Value}{svs:List Value}{l:List (List Nat)}(h:Cx w B v svs l)(hb:B'<=B):Cx w B' v svs l:=
 ⟨J6 h.own hb,h.len,fun j sv s h1 h2=>(h.el j sv s h1 h2).mono hb⟩
theorem T0 (t:Qx)(w:World)(ht:t.length<=67108864)(hx:Lx w)(hs:SG w)(hsz:4<w.heap.size):
  Calls Tryz.prog 57 #[.string ⟨t.toArray⟩] w (P3 t w):=by
 have hmf:∀(fn:Fn) (first cap:Array Value) (w:World),(Instr.makeFunc fn first cap).run Tryz.prog w=.ok (.func fn first cap) w:=fun _ _ _ _=>rfl;obtain⟨T,hT⟩:=xq (⟨t.toArray⟩:ByteArray)
 have hTl:T.data.toList=t:=by rw[hT]
 have HF:Hid (Fits T.data.toList):=by show Fits _;rw[hTl];exact ht
 have HTL:=zq hTl;have HX:=zq hx;have HSG:=zq hs;rw[<-hT];clear hx hs hT hTl ht;go_enter Tryz.func57,Tryz.ntmps57;go_wp2_with fail;refine(Rk T _ HF.o HX.o HSG.o hsz).mono ?_;rintro e w1 hn;unfold StP at hn;rw[HTL.o]at hn
 cases hK:Toks 1 (Qz t) with
 |error p=>
  obtain⟨c,k⟩:=p;rw[hK]at hn;obtain⟨rfl,hb⟩:=hn;have hk0:=(Uh _ _ _ hK).1
  have HV:Hid (SynP.Jr t=none):=by show _=_;unfold SynP.Jr;rw[hK]
  simp only at hk0
  have hkk:((k:Int) !=0)=true:=by simp;omega
  have HB:=zq (fun b:Obj=>hb.alloc hb.size b);clear hb hK hk0;go_wp2_with fail;go_ret2;unfold P3;rw[HV.o]
  exact⟨_,_,_,rfl,HB.o _⟩
 |ok ts=>
  rw[hK]at hn;obtain⟨R,tv,rfl,hR,hb,h⟩:=hn;obtain⟨fin,hfin⟩:=xq ((Qz t).length+1);rw[<-hfin]at h;have hgood:=SynP.Tj fin (ts.length+2) (s:=⟨ts,0⟩) (Nat.le_refl _) (Nat.le_refl _)
  have hne:SynP.Q5 fin (ts.length+2) ⟨ts,0⟩≠none:=by
   intro e;simp only[e]at hgood;exact hgood.elim
  have hgr:SynP.Good ts.length (CxR fin (ts.length+2) ⟨ts,0⟩):=SynP.Good.bind hgood (fun a s hl=>by
   unfold SynP.done;split
   ·exact SynP.Q6 a (by simp at hl;omega)
   ·exact SynP.Yi _ _ _)
  have HRE:Hid (SynP.Jr t=match CxR fin (ts.length+2) ⟨ts,0⟩ with|some (.ok (m,_))=>some m|_=>none):=by
   show _=_;unfold SynP.Jr;rw[hK,hfin];rfl
  have HGOOD:=zq hgr;have hRl:=h.lt;obtain⟨w2,hw2⟩:=xq ((w1.alloc (.cells #[.pointer (some ⟨R,0,none⟩)] 77)).alloc (.cells #[.slice none 0 0] 97))
  have hb2:Below w1.heap.size w1 w2:=by rw[hw2];exact Qj (Qq _ _) (Qq _ _)
  have hp2:w2.heap[w1.heap.size]?=some (.cells #[.pointer (some ⟨R,0,none⟩)] 77 (0,0)):=by
   rw[hw2];exact((Qq _ _).block _ (by simp)).trans (heap_alloc_new w1 _)
  have hm2:w2.heap[w1.heap.size+1]?=some (.cells #[.slice none 0 0] 97 (0,0)):=by
   rw[hw2];have:=heap_alloc_new (w1.alloc (.cells #[.pointer (some ⟨R,0,none⟩)] 77)) (.cells #[.slice none 0 0] 97);rw[show (w1.alloc (.cells #[.pointer (some ⟨R,0,none⟩)] 77)).heap.size=w1.heap.size+1 by simp]at this;exact this
  have hsz2:w2.heap.size=w1.heap.size+2:=by rw[hw2];simp
  obtain⟨G,hG⟩:=xq w1.heap.size;rw[<-hG]at hp2 hm2 hsz2 hRl;have hWa:=Qq w2 (.cells #[.int .i64 0,.int .i64 0] 81);have hWn:=heap_alloc_new w2 (.cells #[.int .i64 0,.int .i64 0] 81)
  have HGU:=zq (Bg (.pointer (some ⟨G,0,none⟩)) (.pointer (some ⟨G+1,0,none⟩)) w2
   (fun c k w'=>CxR fin (ts.length+2) ⟨ts,0⟩=some (.error (c,k))/\Wr R (some (G+1)) w2 w'/\ ∃ao n cap,w'.heap[G+1]?=some (.cells #[.slice ao n cap] 97 (0,0)))
   (fun w'=> ∃m s',CxR fin (ts.length+2) ⟨ts,0⟩=some (.ok (m,s'))/\Wr R (some (G+1)) w2 w'/\ ∃lv svs,w'.heap[G+1]?=some (.cells #[lv] 97 (0,0))/\Cx w' (w2.heap.size+1) lv svs m)
   ((Qm6 R tv ts fin (ts.length+2) ⟨ts,0⟩ G (G+1) _ ((h.below hb2).below hWa) ((hWa.block G (by omega)).trans hp2) ((hWa.block (G+1) (by omega)).trans hm2) (by omega) (by omega) (by omega) hne).mono fun e w' hq=>by
      unfold CxP at hq
      have fr:∀w',Wr R (some (G+1)) (w2.alloc (.cells #[.int .i64 0,.int .i64 0] 81)) w'->w'.heap[w2.heap.size]?=some (.cells #[.int .i64 0,.int .i64 0] 81 (0,0))/\Wr R (some (G+1)) w2 w':=fun w' hw=>
       ⟨(hw.block _ (by simp) (by omega) (by simp;omega)).trans hWn,(Wr.of_below hWa).trans (Mv.refl _ _) hw⟩
      rcases hL:CxR fin (ts.length+2) ⟨ts,0⟩ with- |(⟨c,k⟩|⟨m,s'⟩)<;>rw[hL]at hq
      ·exact hq.elim
      ·exact⟨(fr w' hq.2.1).1,.inl ⟨c,k,hq.1,rfl,(fr w' hq.2.1).2,hq.2.2⟩⟩
      ·obtain⟨lv,svs,q1,q2⟩:=hq.2.2
       have e0:(w2.alloc (.cells #[.int .i64 0,.int .i64 0] 81)).heap.size=w2.heap.size+1:=by simp
       rw[e0]at q2
       exact⟨(fr w' hq.2.1).1,.inr ⟨hq.1,m,s',rfl,(fr w' hq.2.1).2,lv,svs,q1,q2⟩⟩))
  have HBW:=zq (Qj hb hb2)
  have hwG:w.heap.size<=G:=by rw[hG];exact hb.size
  clear h hb hb2 hp2 hm2 hgood hne hgr hWa hWn hK hfin;go_wp2_with fail;rw[<-hw2,<-hG];clear hw2 hG;refine HGU.o.mono ?_;rintro e w4 ⟨w3,hg3,hw34,⟨c,k,rfl,hL,hw23,lo,lnn,lcap,hm3⟩|⟨rfl,m,s',hL,hw23,lv,svs,hm3,hi3⟩⟩
  ·have hk0:0<k:=by
    have:=HGOOD.o;rw[hL]at this;exact this
   have HV:Hid (SynP.Jr t=none):=by show _=_;rw[HRE.o,hL]
   have hB4:Below w.heap.size w2 w4:=hw34.to_below (hw23.to_below (Below.refl _ _) (by omega) (by omega) (fun q hq=>by cases hq;omega)) (by have:=hw23.size;omega) (by omega) (fun q hq=>by cases hq);have hm4:w4.heap[G+1]?=some (.cells #[.slice lo lnn lcap] 97 (0,0)):=(hw34.block (G+1) ((Array.getElem?_eq_some_iff.1 hm3).1) (by omega) (by simp)).trans hm3
   have hke0:((k:Int)==0)=false:=by simp;omega
   have hG4:G+1<w4.heap.size:=(Array.getElem?_eq_some_iff.1 hm4).1
   have c4:w4.cell? ⟨G+1,0,none⟩=some (.slice lo lnn lcap):=by rw[cell_of_row _ _ 0 _ _ _ hm4];rfl
   have HB5:=zq (fun b:Obj=>(HBW.o.trans hB4).alloc (Nat.le_trans HBW.o.size hB4.size) b);clear hg3 hw34 hL hw23 hB4 hm4 hm3;go_wp2_with fail;go_region
   all_goals
    go_wp2_with fail;go_ret2;unfold P3;rw[HV.o];exact⟨_,_,_,rfl,(HB5.o _).drew⟩
  ·have HV:Hid (SynP.Jr t=some m):=by show _=_;rw[HRE.o,hL]
   have hB4:Below w.heap.size w2 w4:=hw34.to_below (hw23.to_below (Below.refl _ _) (by omega) (by omega) (fun q hq=>by cases hq;omega)) (by have:=hw23.size;omega) (by omega) (fun q hq=>by cases hq);have hm4:w4.heap[G+1]?=some (.cells #[lv] 97 (0,0)):=(hw34.block (G+1) ((Array.getElem?_eq_some_iff.1 hm3).1) (by omega) (by simp)).trans hm3;have hi4:=hi3.wr hw34 (Nat.lt_succ_self _);obtain⟨ao,cap,hv2,-,-,-⟩:=Qm hi3.own;obtain⟨ln,hln⟩:=xq svs.length;rw[<-hln]at hv2;subst hv2;have hG4:G+1<w4.heap.size:=(Array.getElem?_eq_some_iff.1 hm4).1
   have c4:w4.cell? ⟨G+1,0,none⟩=some (.slice ao ln cap):=by rw[cell_of_row _ _ 0 _ _ _ hm4];rfl
   have HB5:=zq (fun b:Obj=>(HBW.o.trans hB4).alloc (Nat.le_trans HBW.o.size hB4.size) b);have HC5:=zq (fun b:Obj=>((hi4.wr (Wr.of_below (R:=G) ((Qq w4 b).drew)) (by omega)).lower (B':=w.heap.size) (by omega)));clear hg3 hw34 hL hw23 hB4 hm4 hm3 hi4 hi3 hln;go_wp2_with fail;go_region
   all_goals
    go_wp2_with fail;go_ret2;unfold P3;rw[HV.o];exact⟨_,svs,rfl,(HB5.o _).drew,HC5.o _⟩
end Go.Proofs.YtgfmiladfeoldaaGreatDoor
