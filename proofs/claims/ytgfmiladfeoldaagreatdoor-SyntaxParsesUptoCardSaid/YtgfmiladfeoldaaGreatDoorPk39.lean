/- Joined texts of this claim's proof: RwK, RwL, RwN, RfM, RwO. -/
import Derived.Test.YtgfmiladfeoldaaGreatDoorPk1
import Derived.Test.YtgfmiladfeoldaaGreatDoorPk38
import Derived.Test.YtgfmiladfeoldaaGreatDoorPk33
set_option linter.unusedSimpArgs false
set_option linter.unusedVariables false
set_option maxRecDepth 100000
set_option maxHeartbeats 16000000
namespace Go.Proofs.YtgfmiladfeoldaaGreatDoor
open Go.RowKit NatP LexP
def matR (fin:Nat)(w:RfP.RW):RfP.MR:=match SynP.X6 fin (w.ts.length+3) ⟨w.ts,w.depth⟩ with
 |some (.ok (m,s))=>RfP.has w (.mat m) s.ts
 |some (.error e)=> .error e
 |none=> .error (0,0)
def cpxR (fin:Nat)(w:RfP.RW):RfP.MR:=match SynP.Xg fin (w.ts.length+2) ⟨w.ts,w.depth⟩ with
 |some (.ok (l,s))=>RfP.has w (.cpx l) s.ts
 |some (.error e)=> .error e
 |none=> .error (0,0)
def MatC:Prop:=∀(R:Nat) (tv:Value) (L:List Tok) (fin a:Nat) (x:RfP.RW) (w:World),WRi w R tv L (a+1) x->SynP.Qv [91] x.ts=true->L.drop a=x.ts->a<L.length->L.length<=67108864->(∀t∈L,TokW t)->SynP.Qo x.vals.reverse<=134217728->
 Calls Tryz.prog 153 #[.pointer (some ⟨R,0,none⟩),.int .i64 (a:Nat)] w (Rw R tv L fin (matR fin x) w)
def CpxC:Prop:=∀(R:Nat) (tv:Value) (L:List Tok) (fin a:Nat) (x:RfP.RW) (w:World),WRi w R tv L (a+1) x->SynP.Qv [123] x.ts=true->L.drop a=x.ts->a<L.length->L.length<=67108864->(∀t∈L,TokW t)->SynP.Qo x.vals.reverse<=134217728->
 Calls Tryz.prog 86 #[.pointer (some ⟨R,0,none⟩)] w (Rw R tv L fin (cpxR fin x) w)
theorem Qq3 (HDEC:DecC)(HMAT:MatC)(HCPX:CpxC)(R:Nat)(tv:Value)(L:List Tok)(fin i:Nat)(x:RfP.RW)(w:World)(h:WRi w R tv L i x)(hf:RfP.Fine x)(hw:x.want=true)(hN:RfP.wt x<=134217728)(hk:∀o∈x.stack,o.kind<256)(hka:∀o∈x.stack,o.args<=134217728)(hd:L.drop i=x.ts)(ha:i<L.length)(hdp:x.depth<=100)(hlb:L.length<=67108864)(htk:∀t∈L,TokW t)(hkd:∀t∈L,t.1=1\/t.1=2\/t.1=3):
  Calls Tryz.prog 134 #[.pointer (some ⟨R,0,none⟩)] w (Rw R tv L fin (RfP.Qn fin x) w):=by
 have hRl:=h.lt;obtain⟨c0,c1,c5,c6,c7,⟨ao,cap,htv,t1,t2,t3⟩⟩:=h.cells;obtain⟨g,hao,hg,hc⟩:=t3 (by omega);subst hao;rw[htv]at c0;obtain⟨t,ht⟩:∃t,L[i]?=some t:=⟨_,List.getElem?_eq_getElem ha⟩;obtain⟨d0,d1,d2⟩:=hc i t ht;obtain⟨tk,tt,tc⟩:=t;change w.cell? ⟨g,i*3,none⟩=some (.int .i64 (tk:Nat)) at d0;change w.cell? ⟨g,i*3+1,none⟩=some (.string ⟨tt.toArray⟩) at d1;change w.cell? ⟨g,i*3+2,none⟩=some (.int .i64 (tc:Nat)) at d2;have f1:=h.fro 1
 have hts:x.ts=(tk,tt,tc)::x.ts.tail:=by rw[<-hd,List.drop_eq_getElem_cons ha];rw[List.getElem?_eq_getElem ha]at ht;rw[<-Option.some.inj ht];simp
 obtain⟨T,hT⟩:=xq (⟨tt.toArray⟩:ByteArray);rw[<-hT]at d1;obtain⟨n,hn⟩:=xq L.length;rw[<-hn]at c0 ha t1;have hn0:=World.new_ne w ⟨g,i*3,none⟩ d0;have hn1:=World.new_ne w ⟨g,i*3+1,none⟩ d1;have hn2:=World.new_ne w ⟨g,i*3+2,none⟩ d2;obtain⟨ip,hip⟩:=xq (i+1)
 have hs1:((i:Nat):Int)+1=((ip:Nat):Int):=by omega
 have hwi:IntKind.i64.wrap ((ip:Nat):Int)=((ip:Nat):Int):=IntWalk.i64_in _ (by omega)
 have hne1:w.heap.size≠R:=by omega
 have hne2:R≠w.heap.size:=by omega
 have hgw:g<w.heap.size:=by omega
 have HT:=zq hT;subst htv
 have hq:∀b:Qx,(T.toList==b)=(tt==b):=fun b=>by rw[hT,ByteArray.toList_mk]
 have hM:∀b,SynP.Qv b x.ts=(tk==3 && tt==b):=fun b=>by rw[hts];rfl
 have hd2:L.drop ip=x.ts.tail:=by rw[hip,<-hd,List.tail_drop]
 have hfl:=hf.len;rw[hw]at hfl
 have hNN:SynP.Qo x.vals.reverse+x.stack.length<=134217728:=by unfold RfP.wt at hN;omega
 obtain⟨W2,hW2⟩:∃W2,W2=(w.setCell ⟨R,1,none⟩ (.int .i64 (ip:Nat))).alloc (.cells #[.int .i64 (tk:Nat),.string T,.int .i64 (tc:Nat)] 119):=⟨_,rfl⟩;have hw1:WRi (w.setCell ⟨R,1,none⟩ (.int .i64 (ip:Nat))) R (.slice (some ⟨g,0,none⟩) L.length cap) L ip {x with ts:=x.ts}:=h.set (i':=ip) (want':=x.want) (pw':=x.pw) (d':=x.depth) (ts':=x.ts) 1 (.int .i64 (ip:Nat)) (fun nv vv sv=>by simp)
 have hsz1:(w.setCell ⟨R,1,none⟩ (.int .i64 (ip:Nat))).heap.size=w.heap.size:=by simp[World.setCell]
 have hba:=Qq (w.setCell ⟨R,1,none⟩ (.int .i64 (ip:Nat))) (.cells #[.int .i64 (tk:Nat),.string T,.int .i64 (tc:Nat)] 119);rw[<-hW2]at hba
 have hbx:W2.heap[w.heap.size]?=some (.cells #[.int .i64 (tk:Nat),.string T,.int .i64 (tc:Nat)] 119 (0,0)):=by
  rw[hW2,<-hsz1];exact heap_alloc_new _ _
 have HWX:Hid (WRx [(w.heap.size,W2.heap[w.heap.size]?)] W2 R (.slice (some ⟨g,0,none⟩) L.length cap) L ip x):=hw1.box hba (by rw[hsz1];exact Nat.le_refl _) (by rw[hW2];simp);have HB2:Hid (Below R w W2):=(Xv 1 _).trans (hba.mono (by rw[hsz1];omega));have HW2:Hid (WRi W2 R (.slice (some ⟨g,0,none⟩) L.length cap) L ip x):=HWX.o.wri;rw[hbx]at HWX;have HD:=zq hd;have HD2:=zq hd2;have HTK:Hid (∀t∈L,TokW t):=htk;have HLN:=zq hn;have HF:=zq hf;have HK:=zq hk;have HKA:=zq hka;have HNW:=zq hN;have HWA:=zq hw;have HTT:=zq ht;have HIP:=zq hip
 have hial:i<L.length:=by omega
 have hipl:ip<=L.length:=by omega
 have q45:=hq [45];have q40:=hq [40];have q91:=hq [91];have q123:=hq [123];have HM:=zq hM
 have HKD:Hid (∀k,SynP.Qy k x.ts=(tk==k)):=fun k=>by rw[hts];rfl
 have HHT:Hid (SynP.Qm x.ts=tt):=by show _=_;rw[hts];rfl
 have hkk:=hkd _ (List.mem_of_getElem? ht);change tk=1\/tk=2\/tk=3 at hkk;have htw:=htk _ (List.mem_of_getElem? ht);change tk=1->Je tt/\0<tt.length/\tt.length<=1048576/\Xr tt=false at htw;have HTW:=zq htw
 have hSZ:SynP.Qo x.vals.reverse<=134217728:=by omega
 have hSL:x.stack.length<=134217728:=by omega
 clear h hf hw hk hka hd hts htk ht t3 hc hn c5 c7 hip hq hM hd2 hfl hw1 hsz1 hba hbx hN hT htw hkd;rcases hkk with hk1|hk1|hk1
 ·subst hk1
  have hW2:W2=(w.setCell ⟨R,1,none⟩ (.int .i64 (ip:Nat))).alloc (.cells #[.int .i64 1,.string T,.int .i64 (tc:Nat)] 119):=hW2
  have HE:Hid (RfP.Qn fin x=.ok {x with ts:=x.ts.tail,vals:=.num (SynP.Xx tt)::x.vals,want:=false,pw:=false}):=by
   show _=_;unfold RfP.Qn;rw[if_pos (by rw[HKD.o];rfl),HHT.o];rfl
  have HDC:Hid (∀w3,Calls Tryz.prog 149 #[.string T] w3 fun e w'=>e=.returned (.string ⟨(SynP.decT (SynP.Xx tt)).toArray⟩)/\Below w3.heap.size w3 w'):=fun w3=>by
   have h9:=HTW.o rfl;rw[HT.o];exact HDEC tt w3 h9.1 h9.2.1 h9.2.2.1 h9.2.2.2
  rw[hW2]at HW2 HB2;clear hW2;go_enter Tryz.func134,Tryz.ntmps134;go_wp2_with fail;refine(HDC.o _).mono ?_;rintro e w3 ⟨rfl,hb3⟩;obtain⟨U,hU⟩:=xq (⟨(SynP.decT (SynP.Xx tt)).toArray⟩:ByteArray);rw[<-hU];have HU:=zq hU;clear hU
  have HH:Hid (Calls Tryz.prog 148 #[.pointer (some ⟨R,0,none⟩),.int .i64 1,.string U] w3 fun e' w'=>e'=.returned (.tuple #[])/\Below R w3 w'/\WRi w' R (.slice (some ⟨g,0,none⟩) L.length cap) L ip {x with ts:=x.ts.tail,vals:=.num (SynP.Xx tt)::x.vals,want:=false,pw:=false}):=by
   have h9:=P6 R _ L ip x w3 (HW2.o.below hb3) (Qmr (SynP.Xx tt)) hSZ (op:=1) (by decide) x.ts.tail;rw[<-HU.o]at h9;exact h9
  have HB3:Hid (Below R w w3):=HB2.o.trans (hb3.mono (Nat.le_of_lt HW2.o.lt));clear hb3;go_wp2_with fail;refine HH.o.mono ?_;rintro e w4 ⟨rfl,hb4,hw4⟩;have HF4:Hid (Below R w w4/\_):=⟨HB3.o.trans hb4,hw4⟩;clear hb4 hw4;go_wp2_with fail;go_ret2;refine⟨HF4.o.1,?_⟩;rw[HE.o];exact⟨rfl,ip,HF4.o.2,HD2.o,hipl⟩
 ·subst hk1
  have hW2:W2=(w.setCell ⟨R,1,none⟩ (.int .i64 (ip:Nat))).alloc (.cells #[.int .i64 2,.string T,.int .i64 (tc:Nat)] 119):=hW2
  have HIS:Hid (Calls Tryz.prog 85 #[.pointer (some ⟨R,0,none⟩),.int .i64 (ip:Nat),.string ⟨#[40]⟩] W2 fun e w'=>e=.returned (.bool (SynP.Qv [40] (L.drop ip)))/\Below W2.heap.size W2 w'):=
   Rj R _ L ip [40] W2 HW2.o.cells.1 HW2.o.cells.2.2.2.2.2 (by omega)
  obtain⟨bb,hbb⟩:=xq (SynP.Qv [40] (L.drop ip))
  have HBB:Hid (SynP.Qv [40] x.ts.tail=bb):=by show _=_;rw[hbb,HD2.o]
  rw[<-hbb]at HIS;rw[hW2]at HIS HW2 HB2 HWX;clear hW2 hbb
  cases bb
  ·have HE:Hid (RfP.Qn fin x=.ok {x with ts:=x.ts.tail,vals:=.name tt::x.vals,want:=false,pw:=false}):=by
    show _=_;unfold RfP.Qn;rw[if_neg (by rw[HKD.o];decide),if_neg (by rw[HBB.o];simp),if_pos (by rw[HKD.o];rfl),HHT.o];rfl
   go_enter Tryz.func134,Tryz.ntmps134;go_wp2_with fail;refine HIS.o.mono ?_;rintro e w3 ⟨rfl,hb3⟩;obtain⟨-,-,y3⟩:=(HWX.o.below hb3).at (List.mem_singleton.2 rfl)
   have b0:w3.cell? ⟨w.heap.size,0,none⟩=some (.int .i64 2):=by rw[cell_of_row _ _ _ _ _ _ y3];rfl
   have b1:w3.cell? ⟨w.heap.size,1,none⟩=some (.string T):=by rw[cell_of_row _ _ _ _ _ _ y3];rfl
   clear y3
   have HH:Hid (Calls Tryz.prog 148 #[.pointer (some ⟨R,0,none⟩),.int .i64 2,.string T] w3 fun e' w'=>e'=.returned (.tuple #[])/\Below R w3 w'/\WRi w' R (.slice (some ⟨g,0,none⟩) L.length cap) L ip {x with ts:=x.ts.tail,vals:=.name tt::x.vals,want:=false,pw:=false}):=by
    have h9:=P6 R _ L ip x w3 (HW2.o.below hb3) (Qpo tt) hSZ (op:=2) (by decide) x.ts.tail;rw[<-HT.o]at h9;exact h9
   have HB3:Hid (Below R w w3):=HB2.o.trans (hb3.mono (Nat.le_of_lt HW2.o.lt));clear hb3;go_wp2_with fail;refine HH.o.mono ?_;rintro e w4 ⟨rfl,hb4,hw4⟩;have HF4:Hid (Below R w w4/\_):=⟨HB3.o.trans hb4,hw4⟩;clear hb4 hw4;go_wp2_with fail;go_ret2;refine⟨HF4.o.1,?_⟩;rw[HE.o];exact⟨rfl,ip,HF4.o.2,HD2.o,hipl⟩
  ·have HE:Hid (RfP.Qn fin x=if 100<x.depth+1 then .error (SynP.Q7 fin x.ts.tail,5) else .ok {x with ts:=x.ts.tail.tail,stack:=⟨102,tt,0⟩::x.stack,depth:=x.depth+1}):=by
    show _=_;unfold RfP.Qn;rw[if_neg (by rw[HKD.o];decide),if_pos (by rw[HKD.o,HBB.o];rfl),HHT.o]
   have hne:L.drop ip≠[]:=by
    intro e;have h9:=HBB.o;rw[<-HD2.o,e]at h9
    cases h9
   obtain⟨iq,hiq⟩:=xq (ip+1)
   have hiql:iq<=L.length:=by
    have:ip<L.length:=Nat.lt_of_not_le fun h9=>hne (List.drop_eq_nil_of_le h9);omega
   have hs2:((ip:Nat):Int)+1=((iq:Nat):Int):=by omega
   have hwq:IntKind.i64.wrap ((iq:Nat):Int)=((iq:Nat):Int):=IntWalk.i64_in _ (by omega)
   have HD3:Hid (L.drop iq=x.ts.tail.tail):=by show _=_;rw[hiq,<-HD2.o,List.tail_drop]
   clear hne hiq;go_enter Tryz.func134,Tryz.ntmps134;go_wp2_with fail;refine HIS.o.mono ?_;rintro e w3 ⟨rfl,hb3⟩;obtain⟨-,-,y3⟩:=(HWX.o.below hb3).at (List.mem_singleton.2 rfl)
   have b0:w3.cell? ⟨w.heap.size,0,none⟩=some (.int .i64 2):=by rw[cell_of_row _ _ _ _ _ _ y3];rfl
   have b1:w3.cell? ⟨w.heap.size,1,none⟩=some (.string T):=by rw[cell_of_row _ _ _ _ _ _ y3];rfl
   clear y3
   have HPU:Hid (Calls Tryz.prog 177 #[.pointer (some ⟨R,0,none⟩),.agg #[.int .u8 102,.string T,.int .i64 0]] w3 fun e' w'=>e'=.returned (.tuple #[])/\Below R w3 w'/\WRi w' R (.slice (some ⟨g,0,none⟩) L.length cap) L ip {x with ts:=x.ts.tail,stack:=⟨102,tt,0⟩::x.stack}):=by
    have h9:=Rq R _ L ip x ⟨102,tt,0⟩ w3 (HW2.o.below hb3) (by show 102<256;decide) hSL (Nat.zero_le _) x.ts.tail;change Calls _ _ #[_,.agg #[_,.string ⟨tt.toArray⟩,_]] _ _ at h9;rw[<-HT.o]at h9;exact h9
   have HB3:Hid (Below R w w3):=HB2.o.trans (hb3.mono (Nat.le_of_lt HW2.o.lt));clear hb3;go_wp2_with fail;refine HPU.o.mono ?_;rintro e w4 ⟨rfl,hb4,hw4⟩;have e1:=hw4.cells.2.1;have f1':=hw4.fro 1;have hw5:WRi (w4.setCell ⟨R,1,none⟩ (.int .i64 (iq:Nat))) R (.slice (some ⟨g,0,none⟩) L.length cap) L iq {x with ts:=x.ts.tail.tail,stack:=⟨102,tt,0⟩::x.stack}:=hw4.set (i':=iq) (want':=x.want) (pw':=x.pw) (d':=x.depth) (ts':=x.ts.tail.tail) 1 (.int .i64 (iq:Nat)) (fun nv vv sv=>by simp);have HB5:Hid (Below R w (w4.setCell ⟨R,1,none⟩ (.int .i64 (iq:Nat)))):=(HB3.o.trans hb4).trans (Xv 1 _);have HOP:=zq (Ff R _ L iq ip _ _ hw5 hdp x.ts.tail.tail);clear hb4 hw4 hw5;go_wp2_with fail;refine HOP.o.mono ?_;rintro e w6 ⟨hb6,h6⟩;have HB6:=zq (HB5.o.trans hb6);clear hb6;by_cases hbig:100<x.depth+1
   ·obtain rfl:e=.returned (.tuple #[.int .i64 (ip:Nat),.int .i64 5]):=by
     have h9:=h6;rw[if_pos (by exact hbig)]at h9;exact h9
    have HBG:=zq hbig;clear h6 hbig;go_wp2_with fail;go_ret2;refine⟨HB6.o,?_⟩;rw[HE.o,if_pos HBG.o];exact⟨ip,rfl,by rw[HD2.o],by decide⟩
   ·obtain⟨rfl,hw6⟩:e=.returned (.tuple #[.int .i64 0,.int .i64 0])/\WRi w6 R (.slice (some ⟨g,0,none⟩) L.length cap) L iq {x with ts:=x.ts.tail.tail,stack:=⟨102,tt,0⟩::x.stack,depth:=x.depth+1}:=by
     have h9:=h6;rw[if_neg (by exact hbig)]at h9;exact h9
    have HBG:=zq hbig;have HW6:=zq hw6;clear h6 hbig hw6;go_wp2_with fail;go_ret2;refine⟨HB6.o,?_⟩;rw[HE.o,if_neg HBG.o];exact⟨rfl,iq,HW6.o,HD3.o,hiql⟩
 ·subst hk1
  have hW2:W2=(w.setCell ⟨R,1,none⟩ (.int .i64 (ip:Nat))).alloc (.cells #[.int .i64 3,.string T,.int .i64 (tc:Nat)] 119):=hW2;by_cases h45:tt=[45]
  ·subst h45
   replace q45:(T.toList==[45])=true:=q45.trans (by decide);replace q40:(T.toList==[40])=false:=q40.trans (by decide);replace q91:(T.toList==[91])=false:=q91.trans (by decide);replace q123:(T.toList==[123])=false:=q123.trans (by decide)
   have HE:Hid (RfP.Qn fin x=.ok {x with ts:=x.ts.tail,stack:=⟨110,[],0⟩::x.stack}):=by
    show _=_;unfold RfP.Qn;simp[HKD.o,HM.o]
   have HPU:Hid (Calls Tryz.prog 177 #[.pointer (some ⟨R,0,none⟩),.agg #[.int .u8 110,.string ⟨#[]⟩,.int .i64 0]] W2 fun e' w'=>e'=.returned (.tuple #[])/\Below R W2 w'/\WRi w' R (.slice (some ⟨g,0,none⟩) L.length cap) L ip {x with ts:=x.ts.tail,stack:=⟨110,[],0⟩::x.stack}):=
    Rq R _ L ip x ⟨110,[],0⟩ W2 HW2.o (by decide) hSL (Nat.zero_le _) x.ts.tail
   rw[hW2]at HPU HB2;clear hW2;go_enter Tryz.func134,Tryz.ntmps134;go_wp2_with fail;refine HPU.o.mono ?_;rintro e w4 ⟨rfl,hb4,hw4⟩;have HB4:=zq (HB2.o.trans hb4);have HW4:=zq hw4;clear hb4 hw4;go_wp2_with fail;go_ret2;refine⟨HB4.o,?_⟩;rw[HE.o];exact⟨rfl,ip,HW4.o,HD2.o,hipl⟩
  by_cases h40:tt=[40]
  ·subst h40
   replace q45:(T.toList==[45])=false:=q45.trans (by decide);replace q40:(T.toList==[40])=true:=q40.trans (by decide);replace q91:(T.toList==[91])=false:=q91.trans (by decide);replace q123:(T.toList==[123])=false:=q123.trans (by decide)
   have HE:Hid (RfP.Qn fin x=if 100<x.depth+1 then .error (SynP.Q7 fin x.ts,5) else .ok {x with ts:=x.ts.tail,stack:=⟨40,[],0⟩::x.stack,depth:=x.depth+1}):=by
    show _=_;unfold RfP.Qn;simp[HKD.o,HM.o]
   have HPU:Hid (Calls Tryz.prog 177 #[.pointer (some ⟨R,0,none⟩),.agg #[.int .u8 40,.string ⟨#[]⟩,.int .i64 0]] W2 fun e' w'=>e'=.returned (.tuple #[])/\Below R W2 w'/\WRi w' R (.slice (some ⟨g,0,none⟩) L.length cap) L ip {x with ts:=x.ts.tail,stack:=⟨40,[],0⟩::x.stack}):=
    Rq R _ L ip x ⟨40,[],0⟩ W2 HW2.o (by decide) hSL (Nat.zero_le _) x.ts.tail
   rw[hW2]at HPU HB2;clear hW2;go_enter Tryz.func134,Tryz.ntmps134;go_wp2_with fail;refine HPU.o.mono ?_;rintro e w4 ⟨rfl,hb4,hw4⟩;have HB5:=zq (HB2.o.trans hb4);have HOP:=zq (Ff R _ L ip i _ _ hw4 hdp x.ts.tail);clear hb4 hw4;go_wp2_with fail;refine HOP.o.mono ?_;rintro e w6 ⟨hb6,h6⟩;have HB6:=zq (HB5.o.trans hb6);clear hb6;by_cases hbig:100<x.depth+1
   ·obtain rfl:e=.returned (.tuple #[.int .i64 (i:Nat),.int .i64 5]):=by
     have h9:=h6;rw[if_pos (by exact hbig)]at h9;exact h9
    have HBG:=zq hbig;clear h6 hbig;go_wp2_with fail;go_ret2;refine⟨HB6.o,?_⟩;rw[HE.o,if_pos HBG.o];exact⟨i,rfl,by rw[HD.o],by decide⟩
   ·obtain⟨rfl,hw6⟩:e=.returned (.tuple #[.int .i64 0,.int .i64 0])/\WRi w6 R (.slice (some ⟨g,0,none⟩) L.length cap) L ip {x with ts:=x.ts.tail,stack:=⟨40,[],0⟩::x.stack,depth:=x.depth+1}:=by
     have h9:=h6;rw[if_neg (by exact hbig)]at h9;exact h9
    have HBG:=zq hbig;have HW6:=zq hw6;clear h6 hbig hw6;go_wp2_with fail;go_ret2;refine⟨HB6.o,?_⟩;rw[HE.o,if_neg HBG.o];exact⟨rfl,ip,HW6.o,HD2.o,hipl⟩
  by_cases h91:tt=[91]
  ·subst h91
   replace q45:(T.toList==[45])=false:=q45.trans (by decide);replace q40:(T.toList==[40])=false:=q40.trans (by decide);replace q91:(T.toList==[91])=true:=q91.trans (by decide);replace q123:(T.toList==[123])=false:=q123.trans (by decide)
   have HE:Hid (RfP.Qn fin x=matR fin x):=by
    show _=_;unfold RfP.Qn matR;simp[HKD.o,HM.o]
    cases SynP.X6 fin (x.ts.length+3) ⟨x.ts,x.depth⟩ with
    |none=>rfl
    |some r=>cases r with
     |error e=>rfl
     |ok p=>rfl
   have HC:=zq (HMAT R _ L fin i x W2 (by have h9:=HW2.o;rw[HIP.o]at h9;exact h9) (by rw[HM.o];decide) HD.o hial hlb HTK.o hSZ);rw[hW2]at HC HB2;clear hW2;go_enter Tryz.func134,Tryz.ntmps134;go_wp2_with fail;refine HC.o.mono ?_
   cases hcl:matR fin x with
   |error p=>
    obtain⟨c,k⟩:=p;rintro e w3 ⟨hb3,a,rfl,hc,hk⟩;have HB3:=zq (HB2.o.trans hb3);have HC3:=zq hc;have HK3:=zq hk;have HCL:=zq hcl;clear hb3 hc hk hcl;go_wp2_with fail;go_ret2;refine⟨HB3.o,?_⟩;rw[HE.o,HCL.o]
    exact⟨a,rfl,HC3.o,HK3.o⟩
   |ok x'=>
    rintro e w3 ⟨hb3,rfl,i',hw3,hd3,hi3⟩;have HB3:=zq (HB2.o.trans hb3);have HW3:=zq hw3;have HD3:=zq hd3;have HI3:=zq hi3;have HCL:=zq hcl;clear hb3 hw3 hd3 hi3 hcl;go_wp2_with fail;go_ret2;refine⟨HB3.o,?_⟩;rw[HE.o,HCL.o];exact⟨rfl,i',HW3.o,HD3.o,HI3.o⟩
  by_cases h123:tt=[123]
  ·subst h123
   replace q45:(T.toList==[45])=false:=q45.trans (by decide);replace q40:(T.toList==[40])=false:=q40.trans (by decide);replace q91:(T.toList==[91])=false:=q91.trans (by decide);replace q123:(T.toList==[123])=true:=q123.trans (by decide)
   have HE:Hid (RfP.Qn fin x=cpxR fin x):=by
    show _=_;unfold RfP.Qn cpxR;simp[HKD.o,HM.o]
    cases SynP.Xg fin (x.ts.length+2) ⟨x.ts,x.depth⟩ with
    |none=>rfl
    |some r=>cases r with
     |error e=>rfl
     |ok p=>rfl
   have HC:=zq (HCPX R _ L fin i x W2 (by have h9:=HW2.o;rw[HIP.o]at h9;exact h9) (by rw[HM.o];decide) HD.o hial hlb HTK.o hSZ);rw[hW2]at HC HB2;clear hW2;go_enter Tryz.func134,Tryz.ntmps134;go_wp2_with fail;refine HC.o.mono ?_
   cases hcl:cpxR fin x with
   |error p=>
    obtain⟨c,k⟩:=p;rintro e w3 ⟨hb3,a,rfl,hc,hk⟩;have HB3:=zq (HB2.o.trans hb3);have HC3:=zq hc;have HK3:=zq hk;have HCL:=zq hcl;clear hb3 hc hk hcl;go_wp2_with fail;go_ret2;refine⟨HB3.o,?_⟩;rw[HE.o,HCL.o]
    exact⟨a,rfl,HC3.o,HK3.o⟩
   |ok x'=>
    rintro e w3 ⟨hb3,rfl,i',hw3,hd3,hi3⟩;have HB3:=zq (HB2.o.trans hb3);have HW3:=zq hw3;have HD3:=zq hd3;have HI3:=zq hi3;have HCL:=zq hcl;clear hb3 hw3 hd3 hi3 hcl;go_wp2_with fail;go_ret2;refine⟨HB3.o,?_⟩;rw[HE.o,HCL.o];exact⟨rfl,i',HW3.o,HD3.o,HI3.o⟩
  have HE:Hid (RfP.Qn fin x=.error (SynP.Q7 fin x.ts,14)):=by
   show _=_;unfold RfP.Qn;simp[HKD.o,HM.o,h45,h40,h91,h123]
  replace q45:(T.toList==[45])=false:=q45.trans (by simpa using h45);replace q40:(T.toList==[40])=false:=q40.trans (by simpa using h40);replace q91:(T.toList==[91])=false:=q91.trans (by simpa using h91);replace q123:(T.toList==[123])=false:=q123.trans (by simpa using h123);rw[hW2]at HB2;clear hW2;go_enter Tryz.func134,Tryz.ntmps134;go_wp2_with fail;go_ret2;refine⟨HB2.o,?_⟩;rw[HE.o];exact⟨i,rfl,by rw[HD.o],by decide⟩
theorem Qgc (HDEC:DecC)(HMAT:MatC)(HCPX:CpxC)(R:Nat)(tv:Value)(L:List Tok)(fin i:Nat)(x:RfP.RW)(w:World)(h:WRi w R tv L i x)(hf:RfP.Fine x)(hN:RfP.wt x<=134217728)(hk:∀o∈x.stack,o.kind<256)(hka:∀o∈x.stack,o.args<=134217728)(hd:L.drop i=x.ts)(ha:i<L.length)(hdp:x.depth<=100)(hlb:L.length<=67108864)(htk:∀t∈L,TokW t)(hkd:∀t∈L,t.1=1\/t.1=2\/t.1=3):
  Calls Tryz.prog 72 #[.pointer (some ⟨R,0,none⟩)] w (Rw R tv L fin (RfP.step fin x) w):=by
 obtain⟨-,-,c5,-,-,-⟩:=h.cells
 cases hw:x.want
 ·have HC:=zq (Qjq HDEC R tv L fin i x w h hf hw hN hk hka hd ha hdp (Nat.le_trans hlb (by decide)) htk)
  have HE:Hid (RfP.step fin x=RfP.behind fin x):=by show _=_;unfold RfP.step;rw[hw];rfl
  rw[hw]at c5;clear h hf hw hN hk hka hd hdp hlb htk hkd;go_enter Tryz.func72,Tryz.ntmps72;go_wp2_with fail;refine HC.o.mono ?_
  cases hcl:RfP.behind fin x with
  |error p=>
   obtain⟨c,k⟩:=p;rintro e w3 ⟨hb3,a,rfl,hc,hk⟩;have HB3:=zq hb3;have HC3:=zq hc;have HK3:=zq hk;have HCL:=zq hcl;clear hb3 hc hk hcl;go_wp2_with fail;go_ret2;refine⟨HB3.o,?_⟩;rw[HE.o,HCL.o]
   exact⟨a,rfl,HC3.o,HK3.o⟩
  |ok x'=>
   rintro e w3 ⟨hb3,rfl,i',hw3,hd3,hi3⟩;have HB3:=zq hb3;have HW3:=zq hw3;have HD3:=zq hd3;have HI3:=zq hi3;have HCL:=zq hcl;clear hb3 hw3 hd3 hi3 hcl;go_wp2_with fail;go_ret2;refine⟨HB3.o,?_⟩;rw[HE.o,HCL.o];exact⟨rfl,i',HW3.o,HD3.o,HI3.o⟩
 ·have HC:=zq (Qq3 HDEC HMAT HCPX R tv L fin i x w h hf hw hN hk hka hd ha hdp hlb htk hkd)
  have HE:Hid (RfP.step fin x=RfP.Qn fin x):=by show _=_;unfold RfP.step;rw[hw];rfl
  rw[hw]at c5;clear h hf hw hN hk hka hd hdp hlb htk hkd;go_enter Tryz.func72,Tryz.ntmps72;go_wp2_with fail;refine HC.o.mono ?_
  cases hcl:RfP.Qn fin x with
  |error p=>
   obtain⟨c,k⟩:=p;rintro e w3 ⟨hb3,a,rfl,hc,hk⟩;have HB3:=zq hb3;have HC3:=zq hc;have HK3:=zq hk;have HCL:=zq hcl;clear hb3 hc hk hcl;go_wp2_with fail;go_ret2;refine⟨HB3.o,?_⟩;rw[HE.o,HCL.o]
   exact⟨a,rfl,HC3.o,HK3.o⟩
  |ok x'=>
   rintro e w3 ⟨hb3,rfl,i',hw3,hd3,hi3⟩;have HB3:=zq hb3;have HW3:=zq hw3;have HD3:=zq hd3;have HI3:=zq hi3;have HCL:=zq hcl;clear hb3 hw3 hd3 hi3 hcl;go_wp2_with fail;go_ret2;refine⟨HB3.o,?_⟩;rw[HE.o,HCL.o];exact⟨rfl,i',HW3.o,HD3.o,HI3.o⟩
theorem WRi.low {wr:World}{R:Nat}{tv:Value}{L:List Tok}{i:Nat}{x:RfP.RW}{o:RfP.Op}{S:List RfP.Op}(h:WRi wr R tv L i x)(hx:x.stack.reverse=o::S):
  ∃gs n scap,0<n/\n<=scap/\wr.cell? ⟨R,4,none⟩=some (.slice (some ⟨gs,0,none⟩) n scap)/\gs<wr.heap.size/\
   wr.cell? ⟨gs,0,none⟩=some (.int .u8 (o.kind:Nat))/\wr.cell? ⟨gs,1,none⟩=some (.string ⟨o.name.toArray⟩)/\wr.cell? ⟨gs,2,none⟩=some (.int .i64 (o.args:Nat)):=by
 obtain⟨nv,vv,sv,ns,J,U⟩:=h;obtain⟨c0,c1,c2,c3,c4,c5,c6,c7⟩:=J.cells;obtain⟨so,scap,H,s1,s2,s3⟩:=Qj J.sto;rw[hx]at H s1 s3;obtain⟨gs,K,T,I,E⟩:=s3 (by simp);subst K;rw[H]at c4;obtain⟨q0,q1,q2⟩:=Wp (o::S) 0 o rfl
 have O:0*3+2<(o::S).length*3:=by simp;omega
 exact⟨gs,_,scap,by simp,s1,c4,I,(E _ (by omega)).trans q0,(E _ (by omega)).trans q1,(E _ O).trans q2⟩
theorem Qx7 (R:Nat)(tv:Value)(L:List Tok)(i:Nat)(x:RfP.RW)(o:RfP.Op)(S:List RfP.Op)(w:World)(h:WRi w R tv L i x)(hx:x.stack.reverse=o::S):
  Calls Tryz.prog 73 #[.pointer (some ⟨R,0,none⟩)] w fun e w'=>e=.returned (.bool (decide (L.length=1) && decide (o.kind=100)))/\Below w.heap.size w w':=by
 obtain⟨c0,-,-,-,-,⟨ao,cap,rfl,-,-,-⟩⟩:=h.cells;obtain⟨gs,n,scap,n1,n2,c4,g1,d0,-,-⟩:=h.low hx
 have i1:(0:Int)<((n:Nat):Int):=by omega
 obtain⟨m,hm⟩:=xq L.length;rw[<-hm]at c0 ⊢;clear h hx hm;by_cases h1:m=1
 ·have e1:(((m:Nat):Int)==1)=true:=by simp;omega
  have E1:Hid (decide (m=1)=true):=by show _=_;simpa using h1
  clear h1;by_cases h2:o.kind=100
  ·have E2:Hid (decide (o.kind=100)=true):=by show _=_;simpa using h2
   rw[h2]at d0;clear h2;go_enter Tryz.func73,Tryz.ntmps73;go_wp2_with fail;go_ret;exact⟨by rw[E1.o,E2.o];rfl,Below.refl _ _⟩
  ·have E2:Hid (decide (o.kind=100)=false):=by show _=_;simpa using h2
   have e2:(((o.kind:Nat):Int)==100)=false:=by simp;omega
   clear h2;go_enter Tryz.func73,Tryz.ntmps73;go_wp2_with fail;go_ret;exact⟨by rw[E1.o,E2.o];rfl,Below.refl _ _⟩
 ·have e1:(((m:Nat):Int)==1)=false:=by simp;omega
  have E1:Hid (decide (m=1)=false):=by show _=_;simpa using h1
  clear h1;go_enter Tryz.func73,Tryz.ntmps73;go_wp2_with fail;go_ret;exact⟨by rw[E1.o];rfl,Below.refl _ _⟩
end Go.Proofs.YtgfmiladfeoldaaGreatDoor
namespace RfP
open SynP LexP
theorem Hn:∀(S:List Op),Bot S-> ∀o∈S,o.kind<256
 | [],h,_,_=>h.elim
 | [b],h,o,ho=>by
  obtain rfl:=List.mem_singleton.1 ho
  rcases h with h|h<;>rw[h]<;>decide
 |a::p::S,h,o,ho=>by
  obtain⟨E,H⟩:=h;rcases List.mem_cons.1 ho with rfl|ho
  ·rcases E with ⟨E,-⟩|E|⟨E|E,-⟩
   ·rw[E];decide
   ·rw[E];decide
   ·rcases isBin_iff.1 E with h|h|h<;>rw[h]<;>decide
   ·rw[E];decide
  ·exact Hn (p::S) H o ho
theorem Hs:∀(S:List Op),∀o∈S,o.args<=Yk S
 |a::S,o,ho=>by
  rcases List.mem_cons.1 ho with rfl|ho
  ·simp only[Yk];omega
  ·have:=Hs S o ho
   simp only[Yk];omega
theorem Qxb {fin:Nat}{x x':RW}(hd:x.depth<=100)(hs:step fin x=.ok x'):x'.depth<=100:=by
 have E:∀(e:Ex) (ts:List Tok),has x e ts=.ok x'->x'.depth<=100:=fun e ts h=>by cases h;exact hd
 unfold step at hs;split at hs
 ·unfold Qn at hs
  split at hs
  ·exact E _ _ hs
  split at hs
  ·split at hs
   ·cases hs
   ·cases hs;show x.depth+1<=100;omega
  split at hs
  ·exact E _ _ hs
  split at hs
  ·cases hs;exact hd
  split at hs
  ·split at hs
   ·cases hs
   ·cases hs;show x.depth+1<=100;omega
  split at hs
  ·split at hs
   ·exact E _ _ hs
   ·cases hs
   ·cases hs
  split at hs
  ·split at hs
   ·exact E _ _ hs
   ·cases hs
   ·cases hs
  ·cases hs
 ·have H:∀k,Yg x k=.ok x'->x'.depth<=100:=fun k h=>by unfold Yg at h;cases h;exact hd
  unfold behind at hs;split at hs
  ·split at hs
   ·cases hs
   ·cases hs;exact hd
  split at hs
  ·split at hs
   ·cases hs
   ·split at hs
    ·cases hs;exact hd
    ·cases hs
  split at hs
  ·exact H _ hs
  split at hs
  ·exact H _ hs
  split at hs
  ·exact H _ hs
  split at hs
  ·unfold close at hs
   split at hs
   ·cases hs
   ·dsimp only at hs
    split at hs
    ·cases hs
    ·cases hs;show x.depth-1<=100;omega
  split at hs
  ·unfold Rz at hs
   dsimp only at hs;split at hs
   ·cases hs
   ·split at hs
    ·cases hs;exact hd
    ·cases hs
  ·cases hs
end RfP
namespace Go.Proofs.YtgfmiladfeoldaaGreatDoor
open Go.RowKit NatP LexP
structure LoopOk (x:RfP.RW):Prop where
 fine:RfP.Fine x
 wt:RfP.wt x<=134217728
 dep:x.depth<=100
theorem LoopOk.step {fin:Nat}{x x':RfP.RW}(h:LoopOk x)(hs:RfP.step fin x=.ok x'):LoopOk x'/\x'.ts.length<x.ts.length:=by
 have H:=RfP.Qxb h.dep hs
 cases hw:x.want with
 |true=>
  have E:RfP.Qn fin x=.ok x':=by unfold RfP.step at hs;rw[hw]at hs;exact hs
  obtain⟨a,b,c⟩:=RfP.Ep h.fine hw E
  exact⟨⟨a,Nat.le_trans c h.wt,H⟩,b⟩
 |false=>
  have E:RfP.behind fin x=.ok x':=by unfold RfP.step at hs;rw[hw]at hs;exact hs
  obtain⟨a,b,c⟩:=RfP.Bv h.fine hw E;exact⟨⟨a,Nat.le_trans c h.wt,H⟩,b⟩
theorem Qv8 (HDEC:DecC)(HMAT:MatC)(HCPX:CpxC)(R:Nat)(tv:Value)(L:List Tok)(fin i:Nat)(x:RfP.RW)(w:World)(h:WRi w R tv L i x)(hf:LoopOk x)(hd:L.drop i=x.ts)(ha:i<L.length)(hlb:L.length<=67108864)(htk:∀t∈L,TokW t)(hkd:∀t∈L,t.1=1\/t.1=2\/t.1=3):
  Calls Tryz.prog 72 #[.pointer (some ⟨R,0,none⟩)] w (Rw R tv L fin (RfP.step fin x) w):=by
 refine Qgc HDEC HMAT HCPX R tv L fin i x w h hf.fine hf.wt (RfP.Hn _ hf.fine.bot) (fun o ho=> ?_) hd ha hf.dep hlb htk hkd;have I:=RfP.Hs _ o ho;have J:=hf.fine.len;have E:=Ui x.vals.reverse;rw[List.length_reverse]at E;have H:=hf.wt;unfold RfP.wt at H;omega
end Go.Proofs.YtgfmiladfeoldaaGreatDoor
