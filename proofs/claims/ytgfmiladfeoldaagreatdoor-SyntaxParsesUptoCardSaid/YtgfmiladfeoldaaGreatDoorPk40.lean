/- Joined texts of this claim's proof: RwP, RwQ, RfR, RefLex, RefLex2. -/
import Derived.Test.YtgfmiladfeoldaaGreatDoorPk1
import Derived.Test.YtgfmiladfeoldaaGreatDoorPk39
import Derived.Test.YtgfmiladfeoldaaGreatDoorPk33
import Derived.Test.YtgfmiladfeoldaaGreatDoorPk11
import Derived.Test.YtgfmiladfeoldaaGreatDoorPk27
set_option linter.unusedSimpArgs false
set_option linter.unusedVariables false
set_option maxRecDepth 100000
set_option maxHeartbeats 16000000
namespace Go.Proofs.YtgfmiladfeoldaaGreatDoor
open Go.RowKit NatP LexP
theorem WRi.newS {w:World}{R:Nat}{tv:Value}{L:List Tok}{i:Nat}{x:RfP.RW}(h:WRi w R tv L i x)(o:RfP.Op):
  WRi ((w.alloc (.cells #[.int .u8 (o.kind:Nat),.string ⟨o.name.toArray⟩,.int .i64 (o.args:Nat)] 167)).setCell ⟨R,4,none⟩ (.slice (some ⟨w.heap.size,0,none⟩) 1 1)) R tv L i {x with stack:=[o]}/\
   Below R w ((w.alloc (.cells #[.int .u8 (o.kind:Nat),.string ⟨o.name.toArray⟩,.int .i64 (o.args:Nat)] 167)).setCell ⟨R,4,none⟩ (.slice (some ⟨w.heap.size,0,none⟩) 1 1)):=by
 have T:=h.lt;obtain⟨nv,vv,sv,ns,I,Z⟩:=h;have E:=Qq w (.cells #[.int .u8 (o.kind:Nat),.string ⟨o.name.toArray⟩,.int .i64 (o.args:Nat)] 167);obtain⟨W,U⟩:∃W,W=w.alloc (.cells #[.int .u8 (o.kind:Nat),.string ⟨o.name.toArray⟩,.int .i64 (o.args:Nat)] 167):=⟨_,rfl⟩
 have J:W.ownsRow (R+1) 167 3 (.slice (some ⟨w.heap.size,0,none⟩) 1 1) 1 (Xt [o]):=by
  rw[U];exact X4 (World.ownsRow_lit w #[.int .u8 (o.kind:Nat),.string ⟨o.name.toArray⟩,.int .i64 (o.args:Nat)] 1 (Nat.le_refl _) (by unfold maxLen;omega) rfl) (show R+1<=w.heap.size by omega)
 rw[<-U]at E ⊢;have H:∀k,k≠R->(W.setCell ⟨R,4,none⟩ (.slice (some ⟨w.heap.size,0,none⟩) 1 1)).heap[k]?=W.heap[k]? :=fun k hk=>heap_setCell_other W ⟨R,4,none⟩ k _ hk;have K:=(I.below E).blk;have O:=(heap_setCell_same W R 4 _ _ (.slice (some ⟨w.heap.size,0,none⟩) 1 1) K);refine⟨⟨nv,vv,.slice (some ⟨w.heap.size,0,none⟩) 1 1,ns,I.stack (stk':=[o]) (by simp[World.setCell];exact E.size) (fun k hk hkR hks=>(H k hkR).trans (E.block k hk)) ?_ (fun q hq=> .inr (by cases hq;exact Nat.le_refl _)) (O.trans (by simp)),Z⟩,(E.mono (Nat.le_of_lt T)).trans (Xv 4 _)⟩;exact Q6 J (fun g _ I _=>H g (by omega))
theorem Si {w:World}{R g cap:Nat}{L:List Tok}(h:TkR w R (.slice (some ⟨g,0,none⟩) L.length cap) L){j:Nat}{t:Tok}(hj:L[j]?=some t):
  w.cell? ⟨g,j*3,none⟩=some (.int .i64 (t.1:Nat))/\w.cell? ⟨g,j*3+1,none⟩=some (.string ⟨t.2.1.toArray⟩)/\g<R:=by
 obtain⟨ao,c,e,K,J,H⟩:=h;obtain⟨g',e',I,E⟩:=H (by have:=(List.getElem?_eq_some_iff.1 hj).1;omega)
 cases e
 cases e'
 exact⟨(E j t hj).1,(E j t hj).2.1,I⟩
theorem Qw1 (R g cap:Nat)(L:List Tok)(fin:Nat)(w:World)(h:WRi w R (.slice (some ⟨g,0,none⟩) L.length cap) L 0 ⟨L,[],[],true,false,0⟩)(hL:L≠[]):
  Calls Tryz.prog 71 #[.pointer (some ⟨R,0,none⟩)] w (Rw R (.slice (some ⟨g,0,none⟩) L.length cap) L fin (RfP.Yh fin L) w):=by
 obtain⟨t,Lt,hLt⟩:∃t Lt,L=t::Lt:=by
  cases L with
  |nil=>exact absurd rfl hL
  |cons t l=>exact⟨t,l,rfl⟩
 have h0:L[0]?=some t:=by rw[hLt];rfl
 have hRl:=h.lt;have HK0:=zq (Td R _ L 0 w h.cells.1 h.cells.2.2.2.2.2 (by omega));have hkk:tkKind L 0=t.1:=Ti h0;rw[hkk]at HK0
 have HI0:Hid (SynP.Qy 2 L=(t.1==2)):=by show _=_;rw[hLt];rfl
 have HH:Hid (SynP.Qm L=t.2.1):=by show _=_;rw[hLt];rfl
 have hlen:1<=L.length:=by rw[hLt];simp
 by_cases hk:t.1=2
 rotate_left
 ·have e1:(((t.1:Nat):Int)==2)=false:=by simp;omega
  have HE:Hid (RfP.Yh fin L=.error (SynP.Q7 fin L,14)):=by
   show _=_;unfold RfP.Yh;rw[if_pos (by rw[HI0.o];simpa using hk)]
  clear h hL hLt h0 hkk hk;go_enter Tryz.func71,Tryz.ntmps71;go_wp2_with fail;refine HK0.o.mono ?_;rintro e w1 ⟨rfl,hb1⟩;have HB1:Hid (Below R w w1):=hb1.mono (Nat.le_of_lt hRl);clear hb1;go_wp2_with fail;go_ret2;refine⟨HB1.o,?_⟩;rw[HE.o];exact⟨0,rfl,rfl,by decide⟩
 rw[hk]at HK0;obtain⟨T,hT⟩:=xq (⟨t.2.1.toArray⟩:ByteArray);have HT:=zq hT
 have hq:∀b:Qx,(T.toList==b)=(t.2.1==b):=fun b=>by rw[hT,ByteArray.toList_mk]
 have q1:=hq SynP.letB;by_cases hl:t.2.1=SynP.letB
 ·replace q1:(T.toList==[108,101,116])=true:=q1.trans (by simp[hl])
  have HH0:=zq h;have HT0:=zq h0;have HD:Hid (L.drop 1=L.tail):=List.drop_one
  have HD2:Hid (L.drop 2=L.tail.tail):=by show _=_;rw[hLt];cases Lt<;>rfl
  have HIT:Hid (SynP.Qy 2 L.tail=(tkKind L 1==2)):=by show _=_;rw[<-HD.o];exact Zy (by decide)
  obtain⟨kk,hkq⟩:=xq (tkKind L 1);have HKQ:=zq hkq
  have HK1:Hid (∀w1,WRi w1 R (.slice (some ⟨g,0,none⟩) L.length cap) L 0 ⟨L,[],[],true,false,0⟩->Calls Tryz.prog 133 #[.pointer (some ⟨R,0,none⟩),.int .i64 1] w1 fun e w'=>e=.returned (.int .i64 (kk:Nat))/\Below w1.heap.size w1 w'):=fun w1 h1=>by
   rw[hkq];exact Td R _ L 1 w1 h1.cells.1 h1.cells.2.2.2.2.2 (by omega)
  rw[<-hkq]at HIT;obtain⟨n,hn⟩:=xq L.length;have HN:=zq hn
  have hn1:0<n:=by omega
  by_cases hk2:kk=2
  ·subst hk2
   have HIM:Hid (∀w1,WRi w1 R (.slice (some ⟨g,0,none⟩) L.length cap) L 0 ⟨L,[],[],true,false,0⟩->Calls Tryz.prog 85 #[.pointer (some ⟨R,0,none⟩),.int .i64 2,.string ⟨#[61]⟩] w1 fun e w'=>e=.returned (.bool (SynP.Qv [61] (L.drop 2)))/\Below w1.heap.size w1 w'):=fun w1 h1=>Rj R _ L 2 [61] w1 h1.cells.1 h1.cells.2.2.2.2.2 (by omega);obtain⟨bb,hbb⟩:=xq (SynP.Qv [61] (L.drop 2))
   have HBB:Hid (SynP.Qv [61] L.tail.tail=bb):=by show _=_;rw[hbb,HD2.o]
   rw[<-hbb]at HIM
   obtain⟨t1,ht1⟩:∃t1,L[1]?=some t1:=by
    cases he:L[1]? with
    |none=>rw[To he]at hkq;exact absurd hkq (by decide)
    |some t1=>exact⟨t1,rfl⟩
   have HT1:=zq ht1
   have hn2:1<n:=by rw[hn];exact(List.getElem?_eq_some_iff.1 ht1).1
   have HH1:Hid (SynP.Qm L.tail=t1.2.1):=by
    show _=_;rw[<-HD.o,List.drop_eq_getElem_cons (List.getElem?_eq_some_iff.1 ht1).1,(List.getElem?_eq_some_iff.1 ht1).2];rfl
   have HB0:Hid (RfP.Yh fin L=if bb=false then .error (SynP.Q7 fin L.tail.tail,14) else .ok ⟨L.tail.tail.tail,[],[⟨108,t1.2.1,0⟩],true,false,0⟩):=by
    show _=_;unfold RfP.Yh;rw[if_neg (by rw[HI0.o,hk];decide),if_neg (by rw[HH.o,hl];decide),if_neg (by rw[HIT.o];decide),HBB.o,HH1.o]
   have HD3:Hid (bb=true->L.drop 3=L.tail.tail.tail/\3<=L.length):=fun hb=>by
    have h9:=hbb;rw[hb]at h9
    have h8:2<L.length:=Nat.lt_of_not_le fun h7=>by rw[List.drop_eq_nil_of_le h7]at h9;cases h9
    exact⟨by rw[<-HD2.o,List.tail_drop],h8⟩
   obtain⟨T1,hT1⟩:=xq (⟨t1.2.1.toArray⟩:ByteArray);have HT1e:=zq hT1;clear h hL hLt h0 hkk hk hT hq hl hn hkq ht1 hT1 hbb;go_enter Tryz.func71,Tryz.ntmps71;go_wp2_with fail;refine HK0.o.mono ?_;rintro e w1 ⟨rfl,hb1⟩;have hw1:=HH0.o.below hb1;have HW1:=zq hw1;have HB1:Hid (Below R w w1):=hb1.mono (Nat.le_of_lt hRl);obtain⟨c0,c1,-,-,-,tks⟩:=hw1.cells;obtain⟨-,d1,hg⟩:=Si tks HT0.o;rw[<-HT.o]at d1;rw[<-HN.o]at c0;clear hb1 hw1 tks;go_wp2_with fail;refine(HK1.o _ HW1.o).mono ?_;rintro e w2 ⟨rfl,hb2⟩;have HW2:=zq (HW1.o.below hb2);have HB2:Hid (Below R w w2):=HB1.o.trans (hb2.mono (Nat.le_of_lt HW1.o.lt));clear hb2;go_wp2_with fail;refine(HIM.o _ HW2.o).mono ?_;rintro e w3 ⟨rfl,hb3⟩;have hw3:=HW2.o.below hb3;have HB3:Hid (Below R w w3):=HB2.o.trans (hb3.mono (Nat.le_of_lt HW2.o.lt));clear hb3
   cases bb
   ·clear hw3
    go_wp2_with fail;go_ret2;refine⟨HB3.o,?_⟩;rw[HB0.o,if_pos (by first|exact trivial|rfl)];exact⟨2,rfl,by rw[HD2.o],by decide⟩
   ·obtain⟨c0,c1,-,-,-,tks⟩:=hw3.cells
    obtain⟨-,d1,hg⟩:=Si tks HT1.o;rw[<-HT1e.o]at d1;rw[<-HN.o]at c0;have f4:=hw3.fro 4;have f1:=hw3.fro 1;obtain⟨k1,k2⟩:=hw3.newS ⟨108,t1.2.1,0⟩;have hR1:=hw3.lt
    have c4:∃v,w3.cell? ⟨R,4,none⟩=some v:=by
     obtain⟨nv,vv,sv,ns,h1,-⟩:=hw3;exact⟨_,h1.cells.2.2.2.2.1⟩
    obtain⟨v4,c4⟩:=c4;have k3:=k1.set (i':=3) (want':=true) (pw':=false) (d':=0) (ts':=L.tail.tail.tail) 1 (.int .i64 3) (fun nv vv sv=>by simp);have k4:=k2.trans (Xv 1 (.int .i64 3));change WRi (((w3.alloc (.cells #[.int .u8 108,.string ⟨t1.2.1.toArray⟩,.int .i64 0] 167)).setCell ⟨R,4,none⟩ (.slice (some ⟨w3.heap.size,0,none⟩) 1 1)).setCell ⟨R,1,none⟩ (.int .i64 3)) _ _ _ _ _ at k3;change Below R w3 (((w3.alloc (.cells #[.int .u8 108,.string ⟨t1.2.1.toArray⟩,.int .i64 0] 167)).setCell ⟨R,4,none⟩ (.slice (some ⟨w3.heap.size,0,none⟩) 1 1)).setCell ⟨R,1,none⟩ (.int .i64 3)) at k4;rw[World.setCell_alloc_past _ _ _ _ hR1,World.setCell_alloc_past _ _ _ _ (by simpa [World.setCell] using hR1)]at k3 k4;rw[<-HT1e.o]at k3 k4;have HF:=zq (And.intro (HB3.o.trans k4) k3);clear hw3 tks k1 k2 k3 k4;go_wp2_with fail;go_ret2;refine⟨HF.o.1,?_⟩;rw[HB0.o,if_neg (by first|decide|exact id)];exact⟨rfl,3,HF.o.2,(HD3.o (by first|rfl|exact trivial)).1,(HD3.o (by first|rfl|exact trivial)).2⟩
  ·have e1:(((kk:Nat):Int)==2)=false:=by simp;omega
   have HE:Hid (RfP.Yh fin L=.error (SynP.Q7 fin L.tail,14)):=by
    show _=_;unfold RfP.Yh;rw[if_neg (by rw[HI0.o,hk];decide),if_neg (by rw[HH.o,hl];decide),if_pos (by rw[HIT.o];simpa using hk2)]
   clear h hL hLt h0 hkk hk hT hq hl hn hkq hk2;go_enter Tryz.func71,Tryz.ntmps71;go_wp2_with fail;refine HK0.o.mono ?_;rintro e w1 ⟨rfl,hb1⟩;have hw1:=HH0.o.below hb1;have HW1:=zq hw1;have HB1:Hid (Below R w w1):=hb1.mono (Nat.le_of_lt hRl);obtain⟨c0,c1,-,-,-,tks⟩:=hw1.cells;obtain⟨-,d1,hg⟩:=Si tks HT0.o;rw[<-HT.o]at d1;rw[<-HN.o]at c0;clear hb1 hw1 tks;go_wp2_with fail;refine(HK1.o _ HW1.o).mono ?_;rintro e w2 ⟨rfl,hb2⟩;have HB2:Hid (Below R w w2):=HB1.o.trans (hb2.mono (Nat.le_of_lt HW1.o.lt));clear hb2;go_wp2_with fail;go_ret2;refine⟨HB2.o,?_⟩;rw[HE.o];exact⟨1,rfl,by rw[HD.o],by decide⟩
 ·replace q1:(T.toList==[108,101,116])=false:=q1.trans (by simpa using hl)
  have HE:Hid (RfP.Yh fin L=.ok ⟨L.tail,[],[⟨100,t.2.1,0⟩],true,false,0⟩):=by
   show _=_;unfold RfP.Yh;rw[if_neg (by rw[HI0.o,hk];decide),if_pos (by rw[HH.o];simpa using hl),HH.o]
  have HH0:=zq h;have HT0:=zq h0;have HD:Hid (L.drop 1=L.tail):=List.drop_one;obtain⟨n,hn⟩:=xq L.length;have HN:=zq hn
  have hn1:0<n:=by omega
  clear h hL hLt h0 hkk hk hT hq hl hn;go_enter Tryz.func71,Tryz.ntmps71;go_wp2_with fail;refine HK0.o.mono ?_;rintro e w1 ⟨rfl,hb1⟩;have hw1:=HH0.o.below hb1;have HB1:Hid (Below R w w1):=hb1.mono (Nat.le_of_lt hRl);obtain⟨c0,c1,-,-,-,tks⟩:=hw1.cells;obtain⟨-,d1,hg⟩:=Si tks HT0.o;rw[<-HT.o]at d1;rw[<-HN.o]at c0;have f4:=hw1.fro 4;have f1:=hw1.fro 1;obtain⟨k1,k2⟩:=hw1.newS ⟨100,t.2.1,0⟩;have hR1:=hw1.lt
  have c4:∃v,w1.cell? ⟨R,4,none⟩=some v:=by
   obtain⟨nv,vv,sv,ns,h1,-⟩:=hw1;exact⟨_,h1.cells.2.2.2.2.1⟩
  obtain⟨v4,c4⟩:=c4;have k3:=k1.set (i':=1) (want':=true) (pw':=false) (d':=0) (ts':=L.tail) 1 (.int .i64 1) (fun nv vv sv=>by simp);have k4:=k2.trans (Xv 1 (.int .i64 1));change WRi (((w1.alloc (.cells #[.int .u8 100,.string ⟨t.2.1.toArray⟩,.int .i64 0] 167)).setCell ⟨R,4,none⟩ (.slice (some ⟨w1.heap.size,0,none⟩) 1 1)).setCell ⟨R,1,none⟩ (.int .i64 1)) _ _ _ _ _ at k3;change Below R w1 (((w1.alloc (.cells #[.int .u8 100,.string ⟨t.2.1.toArray⟩,.int .i64 0] 167)).setCell ⟨R,4,none⟩ (.slice (some ⟨w1.heap.size,0,none⟩) 1 1)).setCell ⟨R,1,none⟩ (.int .i64 1)) at k4;rw[World.setCell_alloc_past _ _ _ _ hR1,World.setCell_alloc_past _ _ _ _ (by simpa [World.setCell] using hR1)]at k3 k4;rw[<-HT.o]at k3 k4;have HF:=zq (And.intro (HB1.o.trans k4) k3);clear hb1 hw1 tks k1 k2 k3 k4;go_wp2_with fail;go_ret2;refine⟨HF.o.1,?_⟩;rw[HE.o];exact⟨rfl,1,HF.o.2,HD.o,hlen⟩
def FinP (R:Nat)(tv:Value)(L:List Tok)(i:Nat)(x:RfP.RW)(op n:Nat)(text:Qx)(w:World)(e:Ending)(w':World):Prop:=
 e=.returned (.tuple #[])/\Below R w w'/\ ∃nv vv sv ns vs,WM w' R tv L i nv vv sv ns vs x.stack.reverse x.want x.pw x.depth/\ns.map Prod.fst=SynP.Y5 x.vals.reverse 0++[⟨op,text,(SynP.Xm x.vals.reverse 0).drop (x.vals.length-n)⟩]
theorem Qzo (R:Nat)(tv:Value)(L:List Tok)(i:Nat)(x:RfP.RW)(w:World)(h:WRi w R tv L i x)(op n:Nat)(text:Qx)(hop:op<=255)(hn:n<=x.vals.length)(hb:SynP.Qo x.vals.reverse<=134217728):
  Calls Tryz.prog 137 #[.pointer (some ⟨R,0,none⟩),.int .i64 (op:Nat),.string ⟨text.toArray⟩,.int .i64 (n:Nat)] w (FinP R tv L i x op n text w):=by
 obtain⟨nv,vv,sv,ns,O,I⟩:=h;have K:=Ui x.vals.reverse
 have T:ns.length=SynP.Qo x.vals.reverse:=by rw[<-Np x.vals.reverse 0,<-I,List.length_map]
 have E:(SynP.Xm x.vals.reverse 0).length=x.vals.length:=by rw[SynP.Jv,List.length_reverse]
 rw[List.length_reverse]at K;refine(Fa R tv L i nv vv sv ns _ _ _ _ _ w O op n text hop (by omega) (by omega) (by omega)).mono fun e' w' hp=> ?_;obtain⟨rfl,H,nv',vv',sv',kv,J,-⟩:=hp;exact⟨rfl,H,nv',vv',sv',_,_,J,by rw[List.map_append,I,E];rfl⟩
theorem FinP.up {R:Nat}{tv:Value}{L:List Tok}{i:Nat}{x:RfP.RW}{op n:Nat}{text:Qx}{w w1:World}{e:Ending}{w':World}(h:FinP R tv L i x op n text w1 e w')(hb:Below R w w1):FinP R tv L i x op n text w e w':=⟨h.1,hb.trans h.2.1,h.2.2⟩
theorem Gp (R:Nat)(tv:Value)(L:List Tok)(i:Nat)(x:RfP.RW)(o:RfP.Op)(S:List RfP.Op)(w:World)(h:WRi w R tv L i x)(hx:x.stack.reverse=o::S)(hk:o.kind=108)(hn:1<=x.vals.length)(hb:SynP.Qo x.vals.reverse<=134217728):
  Calls Tryz.prog 75 #[.pointer (some ⟨R,0,none⟩)] w (FinP R tv L i x 11 1 o.name w):=by
 obtain⟨gs,n,scap,n1,n2,c4,g1,d0,d1,d2⟩:=h.low hx;have hRl:=h.lt;rw[hk]at d0;obtain⟨T,hT⟩:=xq (⟨o.name.toArray⟩:ByteArray);rw[<-hT]at d1
 have i1:(0:Int)<((n:Nat):Int):=by omega
 have hba:=Qq w (.cells #[.int .u8 108,.string T,.int .i64 (o.args:Nat)] 167)
 have HA:Hid (Calls Tryz.prog 137 #[.pointer (some ⟨R,0,none⟩),.int .i64 11,.string T,.int .i64 1] (w.alloc (.cells #[.int .u8 108,.string T,.int .i64 (o.args:Nat)] 167)) (FinP R tv L i x 11 1 o.name (w.alloc (.cells #[.int .u8 108,.string T,.int .i64 (o.args:Nat)] 167)))):=by
  have h9:=Qzo R tv L i x _ (h.below hba) 11 1 o.name (by decide) hn hb;rw[<-hT]at h9;exact h9
 have HB:Hid (Below R w (w.alloc (.cells #[.int .u8 108,.string T,.int .i64 (o.args:Nat)] 167))):=hba.mono (Nat.le_of_lt hRl);have hn0:=World.new_ne w ⟨gs,0,none⟩ d0;clear h hx hk hn hb hT hba;go_enter Tryz.func75,Tryz.ntmps75;go_wp2_with fail;refine HA.o.mono ?_;rintro e w1 hf;obtain rfl:=hf.1;have HF:=zq (hf.up HB.o);clear hf;go_wp2_with fail;go_end0;exact HF.o
end Go.Proofs.YtgfmiladfeoldaaGreatDoor
namespace RfP
open SynP LexP
theorem run_cases {fin:Nat}{x:RW}{r:MR}(h:Run fin x r):(x.ts=[]/\r=fate fin x)\/(∃w',x.ts≠[]/\RfP.step fin x=.ok w'/\Run fin w' r)\/ ∃e,x.ts≠[]/\RfP.step fin x=.error e/\r=.error e:=by
 cases h with
 |fin _ h1=>exact .inl ⟨h1,rfl⟩
 |go _ w' _ h1 h2 h3=>exact .inr (.inl ⟨w',h1,h2,h3⟩)
 |stop _ e h1 h2=>exact .inr (.inr ⟨e,h1,h2,rfl⟩)
def Out (fin:Nat)(x:RW)(r:Except (Nat×Nat) Ln):Prop:=
 match r with
 | .error e=>Run fin x (.error e)
 | .ok n=> ∃w',Run fin x (.ok w')/\Bc w' n
theorem Out.step {fin:Nat}{x:RW}{r:Except (Nat×Nat) Ln}(h:Out fin x r)(ht:x.ts≠[]):(∃x',RfP.step fin x=.ok x'/\Out fin x' r)\/ ∃e,RfP.step fin x=.error e/\r=.error e:=by
 cases r with
 |error e=>
  rcases run_cases (show Run fin x (.error e) from h) with ⟨I,-⟩|⟨w',-,H,E⟩|⟨e',-,H,E⟩
  ·exact absurd I ht
  ·exact .inl ⟨w',H,E⟩
  ·injection E with E
   subst E
   exact .inr ⟨e,H,rfl⟩
 |ok n=>
  obtain⟨w1,h',J⟩:=h;rcases run_cases h' with ⟨I,-⟩|⟨w',-,H,E⟩|⟨e',-,H,E⟩
  ·exact absurd I ht
  ·exact .inl ⟨w',H,w1,E,J⟩
  ·cases E
theorem Ma {fin:Nat}{x:RW}{r:MR}(h:Run fin x r)(ht:x.ts=[]):r=fate fin x:=by
 rcases run_cases h with ⟨-,E⟩|⟨w',E,-⟩|⟨e',E,-⟩
 ·exact E
 ·exact absurd ht E
 ·exact absurd ht E
theorem Out.fin {fin:Nat}{x:RW}{r:Except (Nat×Nat) Ln}(h:Out fin x r)(ht:x.ts=[]):
  ((x.want=true\/0<x.depth)/\r=.error (fin,14))\/(x.want=false/\x.depth=0/\ ∃n,r=.ok n/\Bc x n):=by
 by_cases hc:(x.want||decide (0<x.depth))=true
 ·have E:fate fin x=.error (fin,14):=by unfold fate;rw[if_pos hc]
  refine .inl ⟨by simpa using hc,?_⟩
  cases r with
  |error e=>
   have e1:=Ma (show Run fin x (.error e) from h) ht;rw[E]at e1
   cases e1;rfl
  |ok n=>
   obtain⟨w1,h',-⟩:=h;have e1:=Ma h' ht;rw[E]at e1
   cases e1
 ·have E:fate fin x=.ok x:=by unfold fate;rw[if_neg hc]
  have H:x.want=false:=by
   cases hx:x.want with
   |false=>rfl
   |true=>exact absurd (by rw[hx];rfl) hc
  have J:x.depth=0:=by
   rw[H]at hc;simp at hc;exact hc
  refine .inr ⟨H,J,?_⟩
  cases r with
  |error e=>
   have e1:=Ma (show Run fin x (.error e) from h) ht;rw[E]at e1
   cases e1
  |ok n=>
   obtain⟨w1,h',I⟩:=h;have e1:=Ma h' ht;rw[E]at e1
   cases e1
   exact⟨n,rfl,I⟩
def outR (r:Except (Nat×Nat) (Ln×St)):Except (Nat×Nat) Ln:=
 match r with
 | .ok (n,_)=> .ok n
 | .error e=> .error e
def Uz (fin:Nat)(ts:List Tok):Except (Nat×Nat) Ln:=
 match line fin (10*ts.length+9) ⟨ts,0⟩ with
 |some (.ok (n,_))=> .ok n
 |some (.error e)=> .error e
 |none=> .error (0,0)
theorem Dv {l:Qx}{ts:List Tok}(h:Toks 1 (Qz l)=.ok ts):Y4 l=match Uz ((Qz l).length+1) ts with| .error e=> .error e| .ok n=>if 4096<n.size then .error (1,5) else .ok n:=by
 unfold Uz;have E:=Nq ((Qz l).length+1) ⟨ts,0⟩;rcases hL:line ((Qz l).length+1) (10*ts.length+9) ⟨ts,0⟩ with- |(e|⟨m,s⟩)
 ·simp only[hL]at E
  exact E.elim
 ·rw[Hd h hL]
 ·rw[F5 h hL]
def N8 (ts:List Tok):RW:=⟨[],[],[⟨100,Qm ts,0⟩],true,false,0⟩
theorem Qwc {fin:Nat}{ts:List Tok}(hts:ts≠[]):
  match Yh fin ts with
  | .error e=>Uz fin ts=.error e
  | .ok x=>(ts.length=1/\x=N8 ts/\Uz fin ts=.ok (.cmd (Qm ts) .nil))\/(ts.length≠1/\Out fin x (Uz fin ts)):=by
 have K:=Nq fin ⟨ts,0⟩;rcases hL:line fin (10*ts.length+9) ⟨ts,0⟩ with- |r
 ·simp only[hL]at K
  exact K.elim
 ·have E:=Qpq hL hts
  have J:Uz fin ts=outR r:=by
   unfold Uz;simp only[hL]
   cases r with
   |error e=>rfl
   |ok p=>rfl
  have I:ts.tail≠[]->ts.length≠1:=by
   intro h H;have:=List.length_pos_iff.2 h;rw[List.length_tail]at this;omega
  cases hb:Yh fin ts with
  |error e=>
   rw[hb]at E;simp only at E ⊢
   rw[J,E];rfl
  |ok x=>
   rw[hb]at E;simp only at E ⊢;rcases E with ⟨h,H,O,s,U⟩|⟨h,H⟩
   ·left
    refine⟨?_,?_,by rw[J,U];rfl⟩
    ·have:=Yf hts
     rw[h]at this
     simpa using this.symm
    ·unfold Yh at hb
     rw[if_neg (by rw[H];decide),if_pos O]at hb
     cases hb
     unfold N8;rw[h]
   ·right
    refine⟨?_,?_⟩
    ·rcases h with h|h
     ·exact I h
     ·refine I ?_
      intro T;unfold Yh at hb;split at hb
      ·cases hb
      rw[if_neg (by rw[h];decide),if_pos (by rw[T];rfl)]at hb
      cases hb
    ·rw[J]
     cases r with
     |error e=>exact H
     |ok p=>exact H
theorem Qxo {fin:Nat}{ts:List Tok}{x:RW}(h:Yh fin ts=.ok x):Fine x/\wt x<=ts.length+1/\x.depth=0/\ ∃o,x.stack=[o]:=by
 have E:ts≠[]:=by
  rintro rfl;unfold Yh at h;rw[if_pos (show Qy 2 []=false from rfl)]at h
  cases h
 unfold Yh at h;split at h
 ·cases h
 split at h
 ·cases h
  refine⟨⟨rfl,rfl,.inl rfl⟩,?_,rfl,_,rfl⟩;unfold wt;simp[Qo];omega
 split at h
 ·cases h
 split at h
 ·cases h
 ·cases h
  refine⟨⟨rfl,rfl,.inr rfl⟩,?_,rfl,_,rfl⟩;unfold wt;simp[Qo];omega
theorem Qxc {x:RW}{n:Ln}{o:Op}{V:List Ex}(hr:red 1 x.stack x.vals=([o],V))(h:Bc x n):
  (o.kind=108/\V.length=1/\n.flat=Y5 V.reverse 0++[⟨11,o.name,(Xm V.reverse 0).drop (V.length-1)⟩])\/(o.kind=100/\n.flat=Y5 V.reverse 0++[⟨12,o.name,(Xm V.reverse 0).drop (V.length-V.length)⟩]):=by
 obtain⟨o',V',H,I⟩:=h;rw[hr]at H
 injection H with h3 h4
 injection h3 with h3 _
 subst h3 h4;rcases I with ⟨E,e,rfl,rfl⟩|⟨E,rfl⟩
 ·refine .inl ⟨E,rfl,?_⟩
  simp[Ln.flat,Y5,Xm]
 ·refine .inr ⟨E,?_⟩
  rw[Nat.sub_self,List.drop_zero];show (ofL V.reverse).flat 0++[_]=_;rw[Kr,P0]
end RfP
namespace Go.Proofs.YtgfmiladfeoldaaGreatDoor
open Go.RowKit LexP
theorem ret3 {a b c a' b' c':Int}(h1:a=a')(h2:b=b')(h3:c=c'):Ending.returned (.tuple #[.int .i64 a,.int .i64 b,.int .i64 c])=.returned (.tuple #[.int .i64 a',.int .i64 b',.int .i64 c']):=by rw[h1,h2,h3]
theorem Qyf (b:Nat)(w:World)(hb:b<256):
  Calls Tryz.prog 176 #[.int .u8 (b:Nat)] w fun e w'=>e=.returned (.tuple #[.int .i64 ((nxt b).1:Nat),.int .i64 ((nxt b).2.1:Nat),.int .i64 ((nxt b).2.2:Nat)])/\w=w':=by
 have G:b<128\/(128<=b/\b<192)\/(192<=b/\b<224)\/(224<=b/\b<240)\/(240<=b/\b<248)\/248<=b:=by omega
 rcases G with G|G|G|G|G|G
 ·have e:nxt b=(1,b,0):=by unfold nxt;rw[if_pos (by omega)]
  rw[e];clear e;go_enter Tryz.func176,Tryz.ntmps176;go_wp2_with fail;go_ret3;exact⟨ret3 rfl (by omega) rfl,rfl⟩
 ·have e:nxt b=(0,0,0):=by unfold nxt;rw[if_neg (by omega),if_neg (by omega),if_neg (by omega),if_neg (by omega)]
  rw[e];clear e;go_enter Tryz.func176,Tryz.ntmps176;go_wp2_with fail;go_ret3;exact⟨ret3 rfl rfl rfl,rfl⟩
 ·have e:nxt b=(2,b % 32,128):=by unfold nxt;rw[if_neg (by omega),if_pos (by omega)]
  rw[e];clear e;go_enter Tryz.func176,Tryz.ntmps176;go_wp2_with fail;go_ret3;exact⟨ret3 rfl (by omega) rfl,rfl⟩
 ·have e:nxt b=(3,b % 16,2048):=by unfold nxt;rw[if_neg (by omega),if_neg (by omega),if_pos (by omega)]
  rw[e];clear e;go_enter Tryz.func176,Tryz.ntmps176;go_wp2_with fail;go_ret3;exact⟨ret3 rfl (by omega) rfl,rfl⟩
 ·have e:nxt b=(4,b % 8,65536):=by unfold nxt;rw[if_neg (by omega),if_neg (by omega),if_neg (by omega),if_pos (by omega)]
  rw[e];clear e;go_enter Tryz.func176,Tryz.ntmps176;go_wp2_with fail;go_ret3;exact⟨ret3 rfl (by omega) rfl,rfl⟩
 ·have e:nxt b=(0,0,0):=by unfold nxt;rw[if_neg (by omega),if_neg (by omega),if_neg (by omega),if_neg (by omega)]
  rw[e];clear e;go_enter Tryz.func176,Tryz.ntmps176;go_wp2_with fail;go_ret3;exact⟨ret3 rfl rfl rfl,rfl⟩
theorem Qzk (s:ByteArray)(i k:Nat)(h:i+k<s.size):(s.data.toList.drop i)[k]?=some s[i+k]:=by
 have E:i+k<s.data.toList.length:=by rw[<-Lib.size_eq];exact h
 rw[List.getElem?_drop,List.getElem?_eq_getElem E];rfl
def Ar (l:Qx)(w:World)(e:Ending)(w':World):Prop:=
 e=.returned (.tuple #[.int .i64 ((Yi l).1:Nat),.int .i64 ((Yi l).2:Nat)])/\w=w'
theorem X3 (s:ByteArray)(i:Nat)(w:World)(hs:s.size<=1048576)(hi:i<s.size):
  Calls Tryz.prog 126 #[.string s,.int .i64 (i:Nat)] w (Ar (s.data.toList.drop i) w):=by
 have hsz:s.size=s.data.toList.length:=Lib.size_eq s
 have hdl:(s.data.toList.drop i).length=s.size-i:=by rw[List.length_drop,hsz]
 have h0:=Qzk s i 0 (by omega)
 obtain⟨t,ht⟩:∃t,s.data.toList.drop i=s[i]::t:=by
  cases hl:s.data.toList.drop i with
  |nil=>rw[hl]at h0;simp at h0
  |cons b t=>rw[hl]at h0;simp at h0;exact⟨t,by rw[h0]⟩
 have HT:Hid (∀k (h:i+(k+1)<s.size),t[k]?=some s[i+(k+1)]):=by
  intro k h;have:=Qzk s i (k+1) h;rw[ht]at this;simpa using this
 have htl:t.length+1=s.size-i:=by rw[<-hdl,ht];simp
 rw[ht]
 have HP:Hid (∀a b,Yi (s[i]::t)=(a,b)->Ar (s[i]::t) w (.returned (.tuple #[.int .i64 (a:Nat),.int .i64 (b:Nat)])) w):=by
  intro a b h;exact⟨by rw[h],rfl⟩
 have HN:=zq (@Dm s[i] t);have HC:=zq (@Af s[i] t);have HE:=zq (fun v=> @Ag s[i] t v);have hnx:=Qme s[i].toNat;have hlim:=zq (fun j (h:j<=4)=>Qma h);clear hdl ht h0 hsz;go_enter Tryz.func126,Tryz.ntmps126;go_wp2_with fail;refine(Qyf s[i].toNat _ (by have:=s[i].toNat_lt;omega)).mono ?_;rintro e w' ⟨rfl,rfl⟩;generalize nxt s[i].toNat=nv at*;obtain⟨n,v0,m⟩:=nv;simp only at hnx HN HC HE ⊢;by_cases hn0:n=0
 ·have hn1:((n:Int)==0)=true:=by simp[hn0]
  have HF:=zq (HN.o (.inl hn0));go_wp2_with fail;go_ret2;exact HP.o 0 0 HF.o
 ·have hn1:((n:Int)==0)=false:=by simp[hn0]
  by_cases hlong:s.size<i+n
  ·have HF:=zq (HN.o (.inr (by omega)))
   go_wp2_with fail;go_ret2;exact HP.o 0 0 HF.o
  ·have HN2:Hid (¬(n=0\/t.length+1<n)):=by show ¬_;omega
   go_wp2_with fail;go_loopw [7,9] (fun sv sk wr=> ∃j vj:Nat,1<=j/\j<=n/\sk=.int .i64 (j:Nat)/\sv=.int .i64 (vj:Nat)/\Xf v0 (t.take (j-1))=some vj/\vj<lim j/\wr=w) (fun _ sk _=>n-(intOf sk).toNat)
   case atStart=>exact⟨1,v0,Nat.le_refl _,by omega,rfl,rfl,rfl,hnx.2.1,rfl⟩
   case round=>
    obtain⟨j,vj,hj1,hjn,rfl,rfl,hf,hvl,rfl⟩:=hrel;have hl1:=hlim.o j (by omega);have HF:=zq hf;have HVL:=zq hvl
    have hvb:vj<33554432:=by omega
    clear hf hvl hl1;by_cases hlt:j<n
    ·have hij:i+j<s.size:=by omega
     have hb:=s[i+j].toNat_lt
     have HB:Hid (t.take j=t.take (j-1)++[s[i+j]]):=by
      show _=_;obtain⟨q,rfl⟩:∃q,j=q+1:=⟨j-1,by omega⟩;rw[List.take_add_one,HT.o q (by omega)];rfl
     have HS:=zq (Gm s[i+j] _ _ _ HF.o);rw[<-HB.o]at HS;by_cases hc:128<=s[i+j].toNat/\s[i+j].toNat<192
     ·have hic:Xo s[i+j]=true:=by simp[Xo];omega
      have HS2:Hid (Xf v0 (t.take j)=some (64*vj+s[i+j].toNat % 64)):=by show _=_;rw[HS.o,if_pos hic]
      have HM:Hid (s[i+j].toNat % 64=s[i+j].toNat-128):=by show _=_;omega
      have HL2:Hid (64*vj+s[i+j].toNat % 64<lim (j+1)):=by show _<_;rw[Qyv];have:=HVL.o;omega
      obtain⟨hc1,hc2⟩:=hc;clear HS HB hic;go_wp2_with fail
      have e1:Hid (Value.int .i64 (64*(vj:Int)+(s[i+j].toNat:Int)-128)=.int .i64 ((64*vj+s[i+j].toNat % 64:Nat):Int)):=by show _=_;congr 1;have:=HM.o;omega
      refine⟨⟨j+1,64*vj+s[i+j].toNat % 64,by omega,by omega,by go_num,e1.o,HS2.o,HL2.o,trivial⟩,by simp[intOf];omega⟩
     ·have hic:Xo s[i+j]=false:=by simp[Xo];omega
      have HF0:=zq (HC.o j (by omega) (by rw[HS.o,hic];rfl))
      have G:s[i+j].toNat<128\/192<=s[i+j].toNat:=by omega
      clear HS HB hic hc;rcases G with G|G
      all_goals
       go_wp2_with fail;go_ret2;exact HP.o 0 0 HF0.o
    ·have hje:j=n:=by omega
     subst hje;have HE2:=zq (HE.o vj HN2.o HF.o)
     have G:vj<m\/(m<=vj/\1114111<vj)\/(m<=vj/\55296<=vj/\vj<=57343)\/(m<=vj/\vj<55296)\/(m<=vj/\57343<vj/\vj<=1114111):=by omega
     clear HF HVL HE HT HC HN;rcases G with G|G|G|G|G
     ·have hbv:badV vj m=true:=by simp[badV];omega
      have HE3:Hid (Yi (s[i]::t)=(0,0)):=by show _=_;rw[HE2.o,hbv];rfl
      clear hbv HE2;go_wp2_with fail;go_ret2;exact HP.o 0 0 HE3.o
     ·have hbv:badV vj m=true:=by simp[badV];omega
      have HE3:Hid (Yi (s[i]::t)=(0,0)):=by show _=_;rw[HE2.o,hbv];rfl
      clear hbv HE2;go_wp2_with fail;go_ret2;exact HP.o 0 0 HE3.o
     ·have hbv:badV vj m=true:=by simp[badV];omega
      have HE3:Hid (Yi (s[i]::t)=(0,0)):=by show _=_;rw[HE2.o,hbv];rfl
      clear hbv HE2;go_wp2_with fail;go_ret2;exact HP.o 0 0 HE3.o
     ·have hbv:badV vj m=false:=by simp[badV];omega
      have HE3:Hid (Yi (s[i]::t)=(vj,j)):=by show _=_;rw[HE2.o,hbv];rfl
      clear hbv HE2;go_wp2_with fail;go_ret2;exact HP.o vj j HE3.o
     ·have hbv:badV vj m=false:=by simp[badV];omega
      have HE3:Hid (Yi (s[i]::t)=(vj,j)):=by show _=_;rw[HE2.o,hbv];rfl
      clear hbv HE2;go_wp2_with fail;go_ret2;exact HP.o vj j HE3.o
theorem Z7 {a b:Bool}(h:a=b):Ending.returned (.bool a)=.returned (.bool b):=by rw[h]
def isK (k v:Nat):Bool:=kindOf v==k
theorem Y6 (v:Nat)(w:World)(hv:v<=0x10ffff):
  Calls Tryz.prog 130 #[.int .i64 (v:Nat)] w fun e w'=>e=.returned (.bool (isK 3 v))/\w=w':=by
 have G:v<48\/(48<=v/\v<=57)\/(48<=v/\57<v):=by omega
 have E:isK 3 v=(decide (48<=v) && decide (v<=57)):=by
  unfold isK kindOf;rw[Bool.eq_iff_iff];simp only[beq_iff_eq,Bool.and_eq_true,decide_eq_true_eq]
  repeat' split
  all_goals omega
 rw[E];clear E;rcases G with G|G|G
 ·have e:(decide (48<=v) && decide (v<=57))=false:=by simp;omega
  rw[e];clear e;go_enter Tryz.func130,Tryz.ntmps130;go_wp2_with fail;go_ret
  first|exact⟨rfl,rfl⟩|exact⟨Z7 (by simp<;>omega),rfl⟩
 ·have e:(decide (48<=v) && decide (v<=57))=true:=by simp;omega
  rw[e];clear e;go_enter Tryz.func130,Tryz.ntmps130;go_wp2_with fail;go_ret
  first|exact⟨rfl,rfl⟩|exact⟨Z7 (by simp<;>omega),rfl⟩
 ·have e:(decide (48<=v) && decide (v<=57))=false:=by simp;omega
  rw[e];clear e;go_enter Tryz.func130,Tryz.ntmps130;go_wp2_with fail;go_ret
  first|exact⟨rfl,rfl⟩|exact⟨Z7 (by simp<;>omega),rfl⟩
theorem V9 (v:Nat)(w:World)(hv:v<=0x10ffff):
  Calls Tryz.prog 128 #[.int .i64 (v:Nat)] w fun e w'=>e=.returned (.bool (isK 1 v))/\w=w':=by
 have E:isK 1 v=(decide (v=32\/v=9\/v=160)):=by
  unfold isK kindOf;rw[Bool.eq_iff_iff];simp only[beq_iff_eq,decide_eq_true_eq]
  repeat' split
  all_goals omega
 rw[E];clear E;by_cases h:v=32\/v=9\/v=160
 ·rw[decide_eq_true h]
  rcases h with rfl|rfl|rfl
  all_goals
   go_enter Tryz.func128,Tryz.ntmps128;go_wp2_with fail;go_ret
   first|exact⟨rfl,rfl⟩|exact⟨Z7 (by simp<;>omega),rfl⟩
 ·rw[decide_eq_false h]
  have n1:((v:Int)==32)=false:=by simp;omega
  have n2:((v:Int)==9)=false:=by simp;omega
  have n3:((v:Int)==160)=false:=by simp;omega
  clear h;go_enter Tryz.func128,Tryz.ntmps128;go_wp2_with fail;go_ret
  first|exact⟨rfl,rfl⟩|exact⟨Z7 (by simp<;>omega),rfl⟩
def letK (v:Nat):Bool:=decide ((97<=v/\v<=122)\/(65<=v/\v<=90)\/v=95\/(192<=v/\v<=687/\v≠215/\v≠247)\/(880<=v/\v<=1023))
theorem Qgv (v:Nat):isK 4 v=letK v:=by
 unfold isK kindOf letK;rw[Bool.eq_iff_iff];simp only[beq_iff_eq,decide_eq_true_eq]
 repeat' split
 all_goals omega
theorem Wf (v:Nat)(w:World)(hv:v<=0x10ffff):
  Calls Tryz.prog 132 #[.int .i64 (v:Nat)] w fun e w'=>e=.returned (.bool (isK 4 v))/\w=w':=by
 rw[Qgv];by_cases h95:v=95
 ·subst h95
  go_enter Tryz.func132,Tryz.ntmps132;go_wp2_with fail;go_ret
  first|exact⟨rfl,rfl⟩|exact⟨Z7 (by simp<;>omega),rfl⟩
 by_cases h215:v=215
 ·subst h215
  go_enter Tryz.func132,Tryz.ntmps132;go_wp2_with fail;go_ret
  first|exact⟨rfl,rfl⟩|exact⟨Z7 (by simp<;>omega),rfl⟩
 by_cases h247:v=247
 ·subst h247
  go_enter Tryz.func132,Tryz.ntmps132;go_wp2_with fail;go_ret
  first|exact⟨rfl,rfl⟩|exact⟨Z7 (by simp<;>omega),rfl⟩
 have n1:((v:Int)==95)=false:=by simp;omega
 have n2:((v:Int) !=215)=true:=by simp;omega
 have n3:((v:Int) !=247)=true:=by simp;omega
 have G:((97<=v/\v<=122)\/(65<=v/\v<=90)\/(192<=v/\v<=687)\/(880<=v/\v<=1023))\/(v<65\/(90<v/\v<97)\/(122<v/\v<192)\/(687<v/\v<880)\/1023<v):=by omega
 rcases G with G|G
 ·have e:letK v=true:=by unfold letK;simp only[decide_eq_true_eq];omega
  rw[e];clear e h95 h215 h247;rcases G with G|G|G|G
  all_goals
   go_enter Tryz.func132,Tryz.ntmps132;go_wp2_with fail;go_ret
   first|exact⟨rfl,rfl⟩|exact⟨Z7 (by simp<;>omega),rfl⟩
 ·have e:letK v=false:=by unfold letK;simp only[decide_eq_false_iff_not];omega
  rw[e];clear e h95 h215 h247;rcases G with G|G|G|G|G
  all_goals
   go_enter Tryz.func132,Tryz.ntmps132;go_wp2_with fail;go_ret
   first|exact⟨rfl,rfl⟩|exact⟨Z7 (by simp<;>omega),rfl⟩
theorem X2 (k:Nat)(h:k<15):wrap64 ((({data:= #[43,45,42,94,39,40,41,91,93,123,125,44,59,58,61]}:ByteArray)[k]'h).toNat:Int)=(([43,45,42,94,39,40,41,91,93,123,125,44,59,58,61]:List Int)[k]'h):=by
 have:∀k:Fin 15,wrap64 ((({data:= #[43,45,42,94,39,40,41,91,93,123,125,44,59,58,61]}:ByteArray)[k.val]'k.isLt).toNat:Int)=(([43,45,42,94,39,40,41,91,93,123,125,44,59,58,61]:List Int)[k.val]'k.isLt):=by decide+kernel
 exact this ⟨k,h⟩
def Rb (v:Nat):Qx:=if v=0x2212 then [45] else if v=0xd7 then [42] else if kindOf v=5 then [v.toUInt8] else []
theorem Wt (v:Nat)(w:World)(hv:v<=0x10ffff):
  Calls Tryz.prog 127 #[.int .i64 (v:Nat)] w fun e w'=>e=.returned (.string ⟨(Rb v).toArray⟩)/\w=w':=by
 by_cases h:v=0x2212\/v=0xd7
 ·rcases h with rfl|rfl
  all_goals
   go_enter Tryz.func127,Tryz.ntmps127;go_wp2_with fail;go_ret;exact⟨rfl,rfl⟩
 have n1:((v:Int)==8722)=false:=by simp;omega
 have n2:((v:Int)==215)=false:=by simp;omega
 have q0:=X2 0 (by decide);have q1:=X2 1 (by decide);have q2:=X2 2 (by decide);have q3:=X2 3 (by decide);have q4:=X2 4 (by decide);have q5:=X2 5 (by decide);have q6:=X2 6 (by decide);have q7:=X2 7 (by decide);have q8:=X2 8 (by decide);have q9:=X2 9 (by decide);have q10:=X2 10 (by decide);have q11:=X2 11 (by decide);have q12:=X2 12 (by decide);have q13:=X2 13 (by decide);have q14:=X2 14 (by decide);simp only[List.getElem_cons_zero,List.getElem_cons_succ]at q0 q1 q2 q3 q4 q5 q6 q7 q8 q9 q10 q11 q12 q13 q14;by_cases hm:v=43\/v=45\/v=42\/v=94\/v=39\/v=40\/v=41\/v=91\/v=93\/v=123\/v=125\/v=44\/v=59\/v=58\/v=61
 ·clear n1 n2 h
  rcases hm with rfl|rfl|rfl|rfl|rfl|rfl|rfl|rfl|rfl|rfl|rfl|rfl|rfl|rfl|rfl
  all_goals
   go_enter Tryz.func127,Tryz.ntmps127;go_wp2_with fail;refine wp_loop_rounds 16 ?_
   repeat (rw[rounds_succ];go_wp2_with fail)
   go_ret;exact⟨rfl,rfl⟩
 ·have e:Rb v=[]:=by
   have hk:kindOf v≠5:=by
    unfold kindOf
    repeat' split
    all_goals first|omega|skip
    rename_i k;exfalso;obtain⟨k1,k2⟩:=k
    have:∀r:Fin 128,r.val.toUInt8∈([43,45,42,94,39,40,41,91,93,123,125,44,59,58,61]:Qx)->(r.val=43\/r.val=45\/r.val=42\/r.val=94\/r.val=39\/r.val=40\/r.val=41\/r.val=91\/r.val=93\/r.val=123\/r.val=125\/r.val=44\/r.val=59\/r.val=58\/r.val=61):=by decide+kernel
    exact hm (this ⟨v,k1⟩ k2)
   unfold Rb;rw[if_neg (by omega),if_neg (by omega),if_neg hk]
  rw[e];clear e h
  have m1:((43:Int)==(v:Int))=false:=by simp;omega
  have m2:((45:Int)==(v:Int))=false:=by simp;omega
  have m3:((42:Int)==(v:Int))=false:=by simp;omega
  have m4:((94:Int)==(v:Int))=false:=by simp;omega
  have m5:((39:Int)==(v:Int))=false:=by simp;omega
  have m6:((40:Int)==(v:Int))=false:=by simp;omega
  have m7:((41:Int)==(v:Int))=false:=by simp;omega
  have m8:((91:Int)==(v:Int))=false:=by simp;omega
  have m9:((93:Int)==(v:Int))=false:=by simp;omega
  have m10:((123:Int)==(v:Int))=false:=by simp;omega
  have m11:((125:Int)==(v:Int))=false:=by simp;omega
  have m12:((44:Int)==(v:Int))=false:=by simp;omega
  have m13:((59:Int)==(v:Int))=false:=by simp;omega
  have m14:((58:Int)==(v:Int))=false:=by simp;omega
  have m15:((61:Int)==(v:Int))=false:=by simp;omega
  clear hm;go_enter Tryz.func127,Tryz.ntmps127;go_wp2_with fail;refine wp_loop_rounds 16 ?_
  repeat (rw[rounds_succ];go_wp2_with fail)
  go_ret;exact⟨rfl,rfl⟩
end Go.Proofs.YtgfmiladfeoldaaGreatDoor
