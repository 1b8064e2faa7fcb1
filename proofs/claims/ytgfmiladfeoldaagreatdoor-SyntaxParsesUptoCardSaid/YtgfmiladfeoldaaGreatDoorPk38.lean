/- Joined texts of this claim's proof: RwJ. -/
import Derived.Test.YtgfmiladfeoldaaGreatDoorPk1
import Derived.Test.YtgfmiladfeoldaaGreatDoorPk37
set_option linter.unusedSimpArgs false
set_option linter.unusedVariables false
set_option maxRecDepth 100000
set_option maxHeartbeats 16000000
namespace Go.Proofs.YtgfmiladfeoldaaGreatDoor
open Go.RowKit NatP LexP
def DecC:Prop:=∀(b:Qx) (w:World),Je b->0<b.length->b.length<=1048576->Xr b=false->
 Calls Tryz.prog 149 #[.string ⟨b.toArray⟩] w fun e w'=>e=.returned (.string ⟨(SynP.decT (SynP.Xx b)).toArray⟩)/\Below w.heap.size w w'
def TokW (t:Tok):Prop:=t.1=1->Je t.2.1/\0<t.2.1.length/\t.2.1.length<=1048576/\Xr t.2.1=false
theorem Qjq (HDEC:DecC)(R:Nat)(tv:Value)(L:List Tok)(fin i:Nat)(x:RfP.RW)(w:World)(h:WRi w R tv L i x)(hf:RfP.Fine x)(hw:x.want=false)(hN:RfP.wt x<=134217728)(hk:∀o∈x.stack,o.kind<256)(hka:∀o∈x.stack,o.args<=134217728)(hd:L.drop i=x.ts)(ha:i<L.length)(hdp:x.depth<=100)(hlb:L.length<=134217728)(htk:∀t∈L,TokW t):
  Calls Tryz.prog 135 #[.pointer (some ⟨R,0,none⟩)] w (Rw R tv L fin (RfP.behind fin x) w):=by
 have hRl:=h.lt;obtain⟨c0,c1,c5,c6,c7,⟨ao,cap,htv,t1,t2,t3⟩⟩:=h.cells;obtain⟨g,hao,hg,hc⟩:=t3 (by omega);subst hao;rw[htv]at c0;obtain⟨t,ht⟩:∃t,L[i]?=some t:=⟨_,List.getElem?_eq_getElem ha⟩;obtain⟨d0,d1,d2⟩:=hc i t ht;obtain⟨tk,tt,tc⟩:=t;change w.cell? ⟨g,i*3,none⟩=some (.int .i64 (tk:Nat)) at d0;change w.cell? ⟨g,i*3+1,none⟩=some (.string ⟨tt.toArray⟩) at d1;change w.cell? ⟨g,i*3+2,none⟩=some (.int .i64 (tc:Nat)) at d2;have f1:=h.fro 1
 have hts:x.ts=(tk,tt,tc)::x.ts.tail:=by rw[<-hd,List.drop_eq_getElem_cons ha];rw[List.getElem?_eq_getElem ha]at ht;rw[<-Option.some.inj ht];simp
 obtain⟨T,hT⟩:=xq (⟨tt.toArray⟩:ByteArray);rw[<-hT]at d1;obtain⟨n,hn⟩:=xq L.length;rw[<-hn]at c0 ha t1;have hn0:=World.new_ne w ⟨g,i*3,none⟩ d0;have hn1:=World.new_ne w ⟨g,i*3+1,none⟩ d1;have hn2:=World.new_ne w ⟨g,i*3+2,none⟩ d2;obtain⟨ip,hip⟩:=xq (i+1)
 have hs1:((i:Nat):Int)+1=((ip:Nat):Int):=by omega
 have hwi:IntKind.i64.wrap ((ip:Nat):Int)=((ip:Nat):Int):=IntWalk.i64_in _ (by omega)
 have hne1:w.heap.size≠R:=by omega
 have hne2:R≠w.heap.size:=by omega
 have hgw:g<w.heap.size:=by omega
 have HT:=zq hT;subst htv
 have hq:∀b:Qx,(T.toList==b)=(tt==b):=fun b=>by rw[hT,ByteArray.toList_mk]
 have hM:∀b,SynP.Qv b x.ts=(tk==3 && tt==b):=fun b=>by rw[hts];rfl
 have hd2:L.drop ip=x.ts.tail:=by rw[hip,<-hd,List.tail_drop]
 have hfl:=hf.len;rw[hw]at hfl;simp only[Bool.false_eq_true,if_false]at hfl
 have hNN:SynP.Qo x.vals.reverse+x.stack.length<=134217728:=by unfold RfP.wt at hN;omega
 obtain⟨W2,hW2⟩:∃W2,W2=(w.setCell ⟨R,1,none⟩ (.int .i64 (ip:Nat))).alloc (.cells #[.int .i64 (tk:Nat),.string T,.int .i64 (tc:Nat)] 119):=⟨_,rfl⟩;have hw1:WRi (w.setCell ⟨R,1,none⟩ (.int .i64 (ip:Nat))) R (.slice (some ⟨g,0,none⟩) L.length cap) L ip {x with ts:=x.ts}:=h.set (i':=ip) (want':=x.want) (pw':=x.pw) (d':=x.depth) (ts':=x.ts) 1 (.int .i64 (ip:Nat)) (fun nv vv sv=>by simp)
 have hsz1:(w.setCell ⟨R,1,none⟩ (.int .i64 (ip:Nat))).heap.size=w.heap.size:=by simp[World.setCell]
 have hba:=Qq (w.setCell ⟨R,1,none⟩ (.int .i64 (ip:Nat))) (.cells #[.int .i64 (tk:Nat),.string T,.int .i64 (tc:Nat)] 119);rw[<-hW2]at hba
 have hbx:W2.heap[w.heap.size]?=some (.cells #[.int .i64 (tk:Nat),.string T,.int .i64 (tc:Nat)] 119 (0,0)):=by
  rw[hW2,<-hsz1];exact heap_alloc_new _ _
 have HWX:Hid (WRx [(w.heap.size,W2.heap[w.heap.size]?)] W2 R (.slice (some ⟨g,0,none⟩) L.length cap) L ip x):=hw1.box hba (by rw[hsz1];exact Nat.le_refl _) (by rw[hW2];simp);have HB2:Hid (Below R w W2):=(Xv 1 _).trans (hba.mono (by rw[hsz1];omega));have HW2:Hid (WRi W2 R (.slice (some ⟨g,0,none⟩) L.length cap) L ip x):=HWX.o.wri;rw[hbx]at HWX;have HD:=zq hd;have HD2:=zq hd2;have HTK:Hid (∀t∈L,TokW t):=htk;have HLN:=zq hn;have HF:=zq hf;have HFL:=zq hfl;have HK:=zq hk;have HKA:=zq hka;have HNW:=zq hN;have HWA:=zq hw;have HTT:=zq ht;have HIP:=zq hip
 have hial:i<L.length:=by omega
 have hipl:ip<=L.length:=by omega
 obtain⟨a0,V0,hv0⟩:∃a V,x.vals=a::V:=by
  cases hv:x.vals with
  |nil=>rw[hv]at hfl;simp at hfl
  |cons a V=>exact⟨a,V,rfl⟩
 have HV0:=zq hv0;have q39:=hq [39];have q94:=hq [94];have q43:=hq [43];have q45:=hq [45];have q42:=hq [42];have q41:=hq [41];have q44:=hq [44];have HM:=zq hM;clear h hf hw hk hka hd hts htk ht t3 hc hn c5 c7 hip hq hM hd2 hfl hw1 hsz1 hba hbx hv0 hN hT;by_cases hk3:tk=3
 rotate_left
 ·have HE:Hid (RfP.behind fin x=.error (SynP.Q7 fin x.ts,14)):=by
   show _=_
   have e3:(tk==3)=false:=by simpa using hk3
   unfold RfP.behind;simp[HM.o,e3]
  have e3:(((tk:Nat):Int)==3)=false:=by simp;omega
  clear q39 q94 q43 q45 q42 q41 q44;go_enter Tryz.func135,Tryz.ntmps135;go_wp2_with fail;go_ret2;rw[<-hW2];clear hW2;refine⟨HB2.o,?_⟩;rw[HE.o];exact⟨i,rfl,by rw[HD.o],by decide⟩
 have HK3:=zq hk3;subst hk3;have hW2:W2=(w.setCell ⟨R,1,none⟩ (.int .i64 (ip:Nat))).alloc (.cells #[.int .i64 3,.string T,.int .i64 (tc:Nat)] 119):=hW2;by_cases h39:tt=[39]
 ·subst h39
  replace q39:(T.toList==[39])=true:=q39.trans (by decide);replace q94:(T.toList==[94])=false:=q94.trans (by decide);replace q43:(T.toList==[43])=false:=q43.trans (by decide);replace q45:(T.toList==[45])=false:=q45.trans (by decide);replace q42:(T.toList==[42])=false:=q42.trans (by decide);replace q41:(T.toList==[41])=false:=q41.trans (by decide);replace q44:(T.toList==[44])=false:=q44.trans (by decide);have HTE:Hid (T=⟨#[39]⟩):=HT.o;by_cases hpw:x.pw=true
  ·have HE:Hid (RfP.behind fin x=.error (SynP.Q7 fin x.ts,14)):=by
    show _=_;unfold RfP.behind;simp[HM.o,hpw]
   rw[hpw]at c6
   have c6':W2.cell? ⟨R,6,none⟩=some (.bool true):=by have:=HW2.o.cells.2.2.2.1;rw[hpw]at this;exact this
   clear hpw;go_enter Tryz.func135,Tryz.ntmps135;go_wp2_with fail;go_ret2;rw[<-hW2];clear hW2;refine⟨HB2.o,?_⟩;rw[HE.o];exact⟨i,rfl,by rw[HD.o],by decide⟩
  ·rw[Bool.not_eq_true]at hpw
   have HE:Hid (RfP.behind fin x=.ok {x with ts:=x.ts.tail,vals:=.turn a0::V0}):=by
    show _=_;unfold RfP.behind RfP.Qzu;simp[HM.o,hpw,HV0.o]
   rw[hpw]at c6
   have HA:Hid (Calls Tryz.prog 137 #[.pointer (some ⟨R,0,none⟩),.int .i64 5,.string ⟨#[]⟩,.int .i64 1] W2 fun e' w'=>e'=.returned (.tuple #[])/\Below R W2 w'/\WRi w' R (.slice (some ⟨g,0,none⟩) L.length cap) L ip {x with vals:=.turn a0::V0}):=
    Dn R _ L ip x W2 HW2.o (V:=V0) (es:=[a0]) (e:=.turn a0) (op:=5) (text:=[]) HV0.o (Qy6 a0) (by omega) (by decide)
   clear hpw;go_enter Tryz.func135,Tryz.ntmps135;go_wp2_with fail;rw[<-hW2];clear hW2;refine HA.o.mono ?_;rintro e w4 ⟨rfl,hb4,hw4⟩;have HF4:Hid (Below R w w4/\WRi w4 R (.slice (some ⟨g,0,none⟩) L.length cap) L ip {x with ts:=x.ts.tail,vals:=.turn a0::V0}):=⟨HB2.o.trans hb4,hw4⟩;clear hb4 hw4;go_wp2_with fail;go_ret2;refine⟨HF4.o.1,?_⟩;rw[HE.o];exact⟨rfl,ip,HF4.o.2,HD2.o,hipl⟩
 by_cases h94:tt=[94]
 ·subst h94
  replace q39:(T.toList==[39])=false:=q39.trans (by decide);replace q94:(T.toList==[94])=true:=q94.trans (by decide);replace q43:(T.toList==[43])=false:=q43.trans (by decide);replace q45:(T.toList==[45])=false:=q45.trans (by decide);replace q42:(T.toList==[42])=false:=q42.trans (by decide);replace q41:(T.toList==[41])=false:=q41.trans (by decide);replace q44:(T.toList==[44])=false:=q44.trans (by decide);have HTE:Hid (T=⟨#[94]⟩):=HT.o;by_cases hpw:x.pw=true
  ·have HE:Hid (RfP.behind fin x=.error (SynP.Q7 fin x.ts,14)):=by
    show _=_;unfold RfP.behind;simp[HM.o,hpw]
   rw[hpw]at c6;clear hpw;go_enter Tryz.func135,Tryz.ntmps135;go_wp2_with fail;go_ret2;rw[<-hW2];clear hW2;refine⟨HB2.o,?_⟩;rw[HE.o];exact⟨i,rfl,by rw[HD.o],by decide⟩
  rw[Bool.not_eq_true]at hpw;rw[hpw]at c6;have HPW:=zq hpw;have HKC:=zq (Td R _ L ip W2 HW2.o.cells.1 HW2.o.cells.2.2.2.2.2 (by omega))
  have HIK:Hid (SynP.Qy 1 x.ts.tail=(tkKind L ip==1)):=by show _=_;rw[<-HD2.o];exact Zy (by decide)
  obtain⟨kk,hkk⟩:=xq (tkKind L ip);have HKK:=zq hkk;rw[<-hkk]at HKC HIK;clear hpw hkk;by_cases hk1:kk=1
  rotate_left
  ·have HE:Hid (RfP.behind fin x=.error (SynP.Q7 fin x.ts.tail,14)):=by
    show _=_
    have e1:SynP.Qy 1 x.ts.tail=false:=by rw[HIK.o];simpa using hk1
    unfold RfP.behind;simp[HM.o,HPW.o,e1]
   have e3:(((kk:Nat):Int)==1)=false:=by simp;omega
   go_enter Tryz.func135,Tryz.ntmps135;go_wp2_with fail;rw[<-hW2];clear hW2;refine HKC.o.mono ?_;rintro e w3 ⟨rfl,hb3⟩;have HB3:Hid (Below R w w3):=HB2.o.trans (hb3.mono (Nat.le_of_lt HW2.o.lt));clear hb3;go_wp2_with fail;go_ret2;refine⟨HB3.o,?_⟩;rw[HE.o];exact⟨ip,rfl,by rw[HD2.o],by decide⟩
  subst hk1
  obtain⟨t2,ht2⟩:∃t2,L[ip]?=some t2:=by
   cases he:L[ip]? with
   |none=>rw[To he]at HKK;exact absurd HKK.o (by decide)
   |some t2=>exact⟨t2,rfl⟩
  have hk2:t2.1=1:=by rw[Ti ht2]at HKK;exact HKK.o.symm
  have hm2:t2∈L:=List.mem_of_getElem? ht2;have htw:=HTK.o t2 hm2 hk2;obtain⟨kb,b2,cb⟩:=t2;change Je b2/\0<b2.length/\b2.length<=1048576/\Xr b2=false at htw;have hil:ip<L.length:=(List.getElem?_eq_some_iff.1 ht2).1
  have hiln:ip<n:=by have:=HLN.o;omega
  have hht:SynP.Qm x.ts.tail=b2:=by rw[<-HD2.o,List.drop_eq_getElem_cons hil];rw[List.getElem?_eq_getElem hil]at ht2;rw[Option.some.inj ht2];rfl
  have HE:Hid (RfP.behind fin x=.ok {x with ts:=x.ts.tail.tail,vals:=.pow a0 (SynP.Xx b2)::V0,pw:=true}):=by
   show _=_
   have e1:SynP.Qy 1 x.ts.tail=true:=by rw[HIK.o];rfl
   unfold RfP.behind RfP.pow1;simp[HM.o,HPW.o,e1,HV0.o,hht]
  obtain⟨iq,hiq⟩:=xq (ip+1)
  have hs2:((ip:Nat):Int)+1=((iq:Nat):Int):=by omega
  have hwq:IntKind.i64.wrap ((iq:Nat):Int)=((iq:Nat):Int):=IntWalk.i64_in _ (by omega)
  have HD3:Hid (L.drop iq=x.ts.tail.tail):=by show _=_;rw[hiq,<-HD2.o,List.tail_drop]
  have hiql:iq<=L.length:=by omega
  have HDC:=zq (fun w3=>HDEC b2 w3 htw.1 htw.2.1 htw.2.2.1 htw.2.2.2);obtain⟨T2,hT2⟩:=xq (⟨b2.toArray⟩:ByteArray);rw[<-hT2]at HDC;have HT2:=zq hT2;have HTT2:=zq ht2;clear hht ht2 hm2 htw hiq hk2 hT2;go_enter Tryz.func135,Tryz.ntmps135;go_wp2_with fail;rw[<-hW2];clear hW2;refine HKC.o.mono ?_;rintro e w3 ⟨rfl,hb3⟩;have hw3:=HW2.o.below hb3;have HB3:Hid (Below R w w3):=HB2.o.trans (hb3.mono (Nat.le_of_lt HW2.o.lt));have HW3:=zq hw3;obtain⟨c0,c1',-,c6',-,⟨ao,cap',htv',t1',t2',t3⟩⟩:=hw3.cells;obtain⟨g',hg',-,hc⟩:=t3 (by omega);subst hg'
  cases htv'
  obtain⟨-,dd1,-⟩:=hc ip _ HTT2.o;change w3.cell? ⟨g,ip*3+1,none⟩=some (.string ⟨b2.toArray⟩) at dd1;rw[<-HT2.o]at dd1;rw[<-HLN.o]at c0;clear hb3 hw3 t3 hc;go_wp2_with fail;refine(HDC.o _).mono ?_;rintro e w4 ⟨rfl,hb4⟩;have hw4:=HW3.o.below hb4;have HB4:Hid (Below R w w4):=HB3.o.trans (hb4.mono (Nat.le_of_lt HW3.o.lt))
  have HA:Hid (Calls Tryz.prog 137 #[.pointer (some ⟨R,0,none⟩),.int .i64 9,.string ⟨(SynP.decT (SynP.Xx b2)).toArray⟩,.int .i64 1] w4 fun e' w'=>e'=.returned (.tuple #[])/\Below R w4 w'/\WRi w' R (.slice (some ⟨g,0,none⟩) L.length cap) L ip {x with vals:=.pow a0 (SynP.Xx b2)::V0}):=
   Dn R _ L ip x w4 hw4 (V:=V0) (es:=[a0]) (e:=.pow a0 (SynP.Xx b2)) (op:=9) (text:=SynP.decT (SynP.Xx b2)) HV0.o (Qmb a0 _) (by omega) (by decide)
  obtain⟨U,hU⟩:=xq (⟨(SynP.decT (SynP.Xx b2)).toArray⟩:ByteArray);rw[<-hU]at HA ⊢;clear hb4 hw4 hU;go_wp2_with fail;refine HA.o.mono ?_;rintro e w5 ⟨rfl,hb5,hw5⟩;have HB5:=zq (HB4.o.trans hb5);have k1:=hw5.set (i':=ip) (want':=x.want) (pw':=true) (d':=x.depth) (ts':=x.ts.tail) 6 (.bool true) (fun nv vv sv=>by simp);have HF5:Hid (WRi ((w5.setCell ⟨R,6,none⟩ (.bool true)).setCell ⟨R,1,none⟩ (.int .i64 (iq:Nat))) R (.slice (some ⟨g,0,none⟩) L.length cap) L iq {x with ts:=x.ts.tail.tail,vals:=.pow a0 (SynP.Xx b2)::V0,pw:=true}):=k1.set (i':=iq) (want':=x.want) (pw':=true) (d':=x.depth) (ts':=x.ts.tail.tail) 1 (.int .i64 (iq:Nat)) (fun nv vv sv=>by simp);have HBF:Hid (Below R w ((w5.setCell ⟨R,6,none⟩ (.bool true)).setCell ⟨R,1,none⟩ (.int .i64 (iq:Nat)))):=(HB5.o.trans (Xv 6 _)).trans (Xv 1 _);have e1:=hw5.cells.2.1;have e6:=hw5.cells.2.2.2.1;have f1':=hw5.fro 1;have f6':=hw5.fro 6;clear hb5 hw5 k1;go_wp2_with fail;go_ret2;refine⟨HBF.o,?_⟩;rw[HE.o];exact⟨rfl,iq,HF5.o,HD3.o,hiql⟩
 by_cases h43:tt=[43]
 ·subst h43
  replace q39:(T.toList==[39])=false:=q39.trans (by decide);replace q94:(T.toList==[94])=false:=q94.trans (by decide);replace q43:(T.toList==[43])=true:=q43.trans (by decide);replace q45:(T.toList==[45])=false:=q45.trans (by decide);replace q42:(T.toList==[42])=false:=q42.trans (by decide);replace q41:(T.toList==[41])=false:=q41.trans (by decide);replace q44:(T.toList==[44])=false:=q44.trans (by decide);have HTE:Hid (T=⟨#[43]⟩):=HT.o;obtain⟨o,S1,V1,e1,e2,e3,e4,e5,e6⟩:=RfP.Zc (l:=RfP.lev 43) (by decide) x.stack x.vals HF.o.bot HFL.o
  have HE:Hid (RfP.behind fin x=.ok {x with ts:=x.ts.tail,vals:=V1,stack:=⟨43,[],0⟩::o::S1,want:=true}):=by
   show _=_;unfold RfP.behind;simp[HM.o];unfold RfP.Yg;simp only[e1]
  have HRD:=zq (U5 R _ L ip x (RfP.lev 43) 134217728 W2 HWX.o (by decide) (by decide) HF.o.bot HFL.o hNN (by decide) HK.o);rw[e1]at HRD
  have HPB:Hid ((o::S1).length<=134217728):=by
   show _<=_;omega
  obtain rfl:T=⟨#[43]⟩:=HTE.o;rw[hW2]at HRD HB2;clear hW2 e1 e2 e3 e4 e5 e6;go_enter Tryz.func135,Tryz.ntmps135;go_wp2_with fail;refine(Tw 43 (by decide) _).mono ?_;rintro e w2 ⟨rfl,rfl⟩;go_wp2_with fail;refine HRD.o.mono ?_;rintro e w3 ⟨rfl,hb3,hw3⟩;obtain⟨-,-,y3⟩:=hw3.at (List.mem_singleton.2 rfl)
  have b1:w3.cell? ⟨w.heap.size,1,none⟩=some (.string ⟨#[43]⟩):=by rw[cell_of_row _ _ _ _ _ _ y3];rfl
  have HPU:Hid (Calls Tryz.prog 177 #[.pointer (some ⟨R,0,none⟩),.agg #[.int .u8 43,.string ⟨#[]⟩,.int .i64 0]] w3 fun e' w'=>e'=.returned (.tuple #[])/\Below R w3 w'/\WRi w' R (.slice (some ⟨g,0,none⟩) L.length cap) L ip {x with ts:=x.ts.tail,vals:=V1,stack:=⟨43,[],0⟩::o::S1}):=
   Rq R _ L ip {x with vals:=V1,stack:=o::S1} ⟨43,[],0⟩ w3 hw3.wri (by decide) HPB.o (Nat.zero_le _) x.ts.tail
  have HB3:=zq (HB2.o.trans hb3);clear hb3 hw3 y3;go_wp2_with fail;refine HPU.o.mono ?_;rintro e w4 ⟨rfl,hb4,hw4⟩
  have HF4:Hid (Below R w (w4.setCell ⟨R,5,none⟩ (.bool true))/\WRi (w4.setCell ⟨R,5,none⟩ (.bool true)) R (.slice (some ⟨g,0,none⟩) L.length cap) L ip {x with ts:=x.ts.tail,vals:=V1,stack:=⟨43,[],0⟩::o::S1,want:=true}):=
   ⟨(HB3.o.trans hb4).trans (Xv 5 _),hw4.set (i':=ip) (want':=true) (pw':=x.pw) (d':=x.depth) (ts':=x.ts.tail) 5 (.bool true) (fun nv vv sv=>by simp)⟩
  have e5:=hw4.cells.2.2.1;have f5:=hw4.fro 5;clear hb4 hw4;go_wp2_with fail;go_ret2;refine⟨HF4.o.1,?_⟩;rw[HE.o];exact⟨rfl,ip,HF4.o.2,HD2.o,hipl⟩
 by_cases h45:tt=[45]
 ·subst h45
  replace q39:(T.toList==[39])=false:=q39.trans (by decide);replace q94:(T.toList==[94])=false:=q94.trans (by decide);replace q43:(T.toList==[43])=false:=q43.trans (by decide);replace q45:(T.toList==[45])=true:=q45.trans (by decide);replace q42:(T.toList==[42])=false:=q42.trans (by decide);replace q41:(T.toList==[41])=false:=q41.trans (by decide);replace q44:(T.toList==[44])=false:=q44.trans (by decide);have HTE:Hid (T=⟨#[45]⟩):=HT.o;obtain⟨o,S1,V1,e1,e2,e3,e4,e5,e6⟩:=RfP.Zc (l:=RfP.lev 45) (by decide) x.stack x.vals HF.o.bot HFL.o
  have HE:Hid (RfP.behind fin x=.ok {x with ts:=x.ts.tail,vals:=V1,stack:=⟨45,[],0⟩::o::S1,want:=true}):=by
   show _=_;unfold RfP.behind;simp[HM.o];unfold RfP.Yg;simp only[e1]
  have HRD:=zq (U5 R _ L ip x (RfP.lev 45) 134217728 W2 HWX.o (by decide) (by decide) HF.o.bot HFL.o hNN (by decide) HK.o);rw[e1]at HRD
  have HPB:Hid ((o::S1).length<=134217728):=by
   show _<=_;omega
  obtain rfl:T=⟨#[45]⟩:=HTE.o;rw[hW2]at HRD HB2;clear hW2 e1 e2 e3 e4 e5 e6;go_enter Tryz.func135,Tryz.ntmps135;go_wp2_with fail;refine(Tw 45 (by decide) _).mono ?_;rintro e w2 ⟨rfl,rfl⟩;go_wp2_with fail;refine HRD.o.mono ?_;rintro e w3 ⟨rfl,hb3,hw3⟩;obtain⟨-,-,y3⟩:=hw3.at (List.mem_singleton.2 rfl)
  have b1:w3.cell? ⟨w.heap.size,1,none⟩=some (.string ⟨#[45]⟩):=by rw[cell_of_row _ _ _ _ _ _ y3];rfl
  have HPU:Hid (Calls Tryz.prog 177 #[.pointer (some ⟨R,0,none⟩),.agg #[.int .u8 45,.string ⟨#[]⟩,.int .i64 0]] w3 fun e' w'=>e'=.returned (.tuple #[])/\Below R w3 w'/\WRi w' R (.slice (some ⟨g,0,none⟩) L.length cap) L ip {x with ts:=x.ts.tail,vals:=V1,stack:=⟨45,[],0⟩::o::S1}):=
   Rq R _ L ip {x with vals:=V1,stack:=o::S1} ⟨45,[],0⟩ w3 hw3.wri (by decide) HPB.o (Nat.zero_le _) x.ts.tail
  have HB3:=zq (HB2.o.trans hb3);clear hb3 hw3 y3;go_wp2_with fail;refine HPU.o.mono ?_;rintro e w4 ⟨rfl,hb4,hw4⟩
  have HF4:Hid (Below R w (w4.setCell ⟨R,5,none⟩ (.bool true))/\WRi (w4.setCell ⟨R,5,none⟩ (.bool true)) R (.slice (some ⟨g,0,none⟩) L.length cap) L ip {x with ts:=x.ts.tail,vals:=V1,stack:=⟨45,[],0⟩::o::S1,want:=true}):=
   ⟨(HB3.o.trans hb4).trans (Xv 5 _),hw4.set (i':=ip) (want':=true) (pw':=x.pw) (d':=x.depth) (ts':=x.ts.tail) 5 (.bool true) (fun nv vv sv=>by simp)⟩
  have e5:=hw4.cells.2.2.1;have f5:=hw4.fro 5;clear hb4 hw4;go_wp2_with fail;go_ret2;refine⟨HF4.o.1,?_⟩;rw[HE.o];exact⟨rfl,ip,HF4.o.2,HD2.o,hipl⟩
 by_cases h42:tt=[42]
 ·subst h42
  replace q39:(T.toList==[39])=false:=q39.trans (by decide);replace q94:(T.toList==[94])=false:=q94.trans (by decide);replace q43:(T.toList==[43])=false:=q43.trans (by decide);replace q45:(T.toList==[45])=false:=q45.trans (by decide);replace q42:(T.toList==[42])=true:=q42.trans (by decide);replace q41:(T.toList==[41])=false:=q41.trans (by decide);replace q44:(T.toList==[44])=false:=q44.trans (by decide);have HTE:Hid (T=⟨#[42]⟩):=HT.o;obtain⟨o,S1,V1,e1,e2,e3,e4,e5,e6⟩:=RfP.Zc (l:=RfP.lev 42) (by decide) x.stack x.vals HF.o.bot HFL.o
  have HE:Hid (RfP.behind fin x=.ok {x with ts:=x.ts.tail,vals:=V1,stack:=⟨42,[],0⟩::o::S1,want:=true}):=by
   show _=_;unfold RfP.behind;simp[HM.o];unfold RfP.Yg;simp only[e1]
  have HRD:=zq (U5 R _ L ip x (RfP.lev 42) 134217728 W2 HWX.o (by decide) (by decide) HF.o.bot HFL.o hNN (by decide) HK.o);rw[e1]at HRD
  have HPB:Hid ((o::S1).length<=134217728):=by
   show _<=_;omega
  obtain rfl:T=⟨#[42]⟩:=HTE.o;rw[hW2]at HRD HB2;clear hW2 e1 e2 e3 e4 e5 e6;go_enter Tryz.func135,Tryz.ntmps135;go_wp2_with fail;refine(Tw 42 (by decide) _).mono ?_;rintro e w2 ⟨rfl,rfl⟩;go_wp2_with fail;refine HRD.o.mono ?_;rintro e w3 ⟨rfl,hb3,hw3⟩;obtain⟨-,-,y3⟩:=hw3.at (List.mem_singleton.2 rfl)
  have b1:w3.cell? ⟨w.heap.size,1,none⟩=some (.string ⟨#[42]⟩):=by rw[cell_of_row _ _ _ _ _ _ y3];rfl
  have HPU:Hid (Calls Tryz.prog 177 #[.pointer (some ⟨R,0,none⟩),.agg #[.int .u8 42,.string ⟨#[]⟩,.int .i64 0]] w3 fun e' w'=>e'=.returned (.tuple #[])/\Below R w3 w'/\WRi w' R (.slice (some ⟨g,0,none⟩) L.length cap) L ip {x with ts:=x.ts.tail,vals:=V1,stack:=⟨42,[],0⟩::o::S1}):=
   Rq R _ L ip {x with vals:=V1,stack:=o::S1} ⟨42,[],0⟩ w3 hw3.wri (by decide) HPB.o (Nat.zero_le _) x.ts.tail
  have HB3:=zq (HB2.o.trans hb3);clear hb3 hw3 y3;go_wp2_with fail;refine HPU.o.mono ?_;rintro e w4 ⟨rfl,hb4,hw4⟩
  have HF4:Hid (Below R w (w4.setCell ⟨R,5,none⟩ (.bool true))/\WRi (w4.setCell ⟨R,5,none⟩ (.bool true)) R (.slice (some ⟨g,0,none⟩) L.length cap) L ip {x with ts:=x.ts.tail,vals:=V1,stack:=⟨42,[],0⟩::o::S1,want:=true}):=
   ⟨(HB3.o.trans hb4).trans (Xv 5 _),hw4.set (i':=ip) (want':=true) (pw':=x.pw) (d':=x.depth) (ts':=x.ts.tail) 5 (.bool true) (fun nv vv sv=>by simp)⟩
  have e5:=hw4.cells.2.2.1;have f5:=hw4.fro 5;clear hb4 hw4;go_wp2_with fail;go_ret2;refine⟨HF4.o.1,?_⟩;rw[HE.o];exact⟨rfl,ip,HF4.o.2,HD2.o,hipl⟩
 by_cases h41:tt=[41]
 ·subst h41
  replace q39:(T.toList==[39])=false:=q39.trans (by decide);replace q94:(T.toList==[94])=false:=q94.trans (by decide);replace q43:(T.toList==[43])=false:=q43.trans (by decide);replace q45:(T.toList==[45])=false:=q45.trans (by decide);replace q42:(T.toList==[42])=false:=q42.trans (by decide);replace q41:(T.toList==[41])=true:=q41.trans (by decide);replace q44:(T.toList==[44])=false:=q44.trans (by decide);have HTE:Hid (T=⟨#[41]⟩):=HT.o
  have HE:Hid (RfP.behind fin x=RfP.close fin x):=by
   show _=_;unfold RfP.behind;simp[HM.o]
  have HC:=zq (Qk1 R _ L fin i x W2 (by have h9:=HW2.o;rw[HIP.o]at h9;exact h9) HF.o HWA.o HNW.o HK.o HD.o hial hdp);go_enter Tryz.func135,Tryz.ntmps135;go_wp2_with fail;rw[<-hW2];clear hW2;refine HC.o.mono ?_
  cases hcl:RfP.close fin x with
  |error p=>
   obtain⟨c,k⟩:=p;rintro e w3 ⟨hb3,a,rfl,hc,hk⟩;have HB3:=zq (HB2.o.trans hb3);have HC3:=zq hc;have HK3:=zq hk;have HCL:=zq hcl;clear hb3 hc hk hcl;go_wp2_with fail;go_ret2;refine⟨HB3.o,?_⟩;rw[HE.o,HCL.o]
   exact⟨a,rfl,HC3.o,HK3.o⟩
  |ok x'=>
   rintro e w3 ⟨hb3,rfl,i',hw3,hd3,hi3⟩;have HB3:=zq (HB2.o.trans hb3);have HW3:=zq hw3;have HD3:=zq hd3;have HI3:=zq hi3;have HCL:=zq hcl;clear hb3 hw3 hd3 hi3 hcl;go_wp2_with fail;go_ret2;refine⟨HB3.o,?_⟩;rw[HE.o,HCL.o];exact⟨rfl,i',HW3.o,HD3.o,HI3.o⟩
 by_cases h44:tt=[44]
 ·subst h44
  replace q39:(T.toList==[39])=false:=q39.trans (by decide);replace q94:(T.toList==[94])=false:=q94.trans (by decide);replace q43:(T.toList==[43])=false:=q43.trans (by decide);replace q45:(T.toList==[45])=false:=q45.trans (by decide);replace q42:(T.toList==[42])=false:=q42.trans (by decide);replace q41:(T.toList==[41])=false:=q41.trans (by decide);replace q44:(T.toList==[44])=true:=q44.trans (by decide);have HTE:Hid (T=⟨#[44]⟩):=HT.o
  have HE:Hid (RfP.behind fin x=RfP.Rz fin x):=by
   show _=_;unfold RfP.behind;simp[HM.o]
  have HC:=zq (Qv9 R _ L fin i x W2 (by have h9:=HW2.o;rw[HIP.o]at h9;exact h9) HF.o HWA.o HNW.o HK.o HKA.o HD.o hial);go_enter Tryz.func135,Tryz.ntmps135;go_wp2_with fail;rw[<-hW2];clear hW2;refine HC.o.mono ?_
  cases hcl:RfP.Rz fin x with
  |error p=>
   obtain⟨c,k⟩:=p;rintro e w3 ⟨hb3,a,rfl,hc,hk⟩;have HB3:=zq (HB2.o.trans hb3);have HC3:=zq hc;have HK3:=zq hk;have HCL:=zq hcl;clear hb3 hc hk hcl;go_wp2_with fail;go_ret2;refine⟨HB3.o,?_⟩;rw[HE.o,HCL.o]
   exact⟨a,rfl,HC3.o,HK3.o⟩
  |ok x'=>
   rintro e w3 ⟨hb3,rfl,i',hw3,hd3,hi3⟩;have HB3:=zq (HB2.o.trans hb3);have HW3:=zq hw3;have HD3:=zq hd3;have HI3:=zq hi3;have HCL:=zq hcl;clear hb3 hw3 hd3 hi3 hcl;go_wp2_with fail;go_ret2;refine⟨HB3.o,?_⟩;rw[HE.o,HCL.o];exact⟨rfl,i',HW3.o,HD3.o,HI3.o⟩
 have HE:Hid (RfP.behind fin x=.error (SynP.Q7 fin x.ts,14)):=by
  show _=_;unfold RfP.behind;simp[HM.o,h39,h94,h43,h45,h42,h41,h44]
 replace q39:(T.toList==[39])=false:=q39.trans (by simpa using h39);replace q94:(T.toList==[94])=false:=q94.trans (by simpa using h94);replace q43:(T.toList==[43])=false:=q43.trans (by simpa using h43);replace q45:(T.toList==[45])=false:=q45.trans (by simpa using h45);replace q42:(T.toList==[42])=false:=q42.trans (by simpa using h42);replace q41:(T.toList==[41])=false:=q41.trans (by simpa using h41);replace q44:(T.toList==[44])=false:=q44.trans (by simpa using h44);go_enter Tryz.func135,Tryz.ntmps135;go_wp2_with fail;go_ret2;rw[<-hW2];clear hW2;refine⟨HB2.o,?_⟩;rw[HE.o];exact⟨i,rfl,by rw[HD.o],by decide⟩
end Go.Proofs.YtgfmiladfeoldaaGreatDoor
