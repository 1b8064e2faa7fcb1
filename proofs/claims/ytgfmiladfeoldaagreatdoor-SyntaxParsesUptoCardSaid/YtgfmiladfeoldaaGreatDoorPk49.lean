/- Joined texts of this claim's proof: RnP. -/
import Derived.Test.YtgfmiladfeoldaaGreatDoorPk1
import Derived.Test.YtgfmiladfeoldaaGreatDoorPk48
set_option linter.unusedSimpArgs false
set_option linter.unusedVariables false
set_option maxRecDepth 100000
set_option maxHeartbeats 16000000
namespace Go.Proofs.YtgfmiladfeoldaaGreatDoor
open Go.RowKit LexP NatP
theorem Qhh:MatC:=by
 intro R tv L fin a0 x w h hm hd ha hlb htk hsz;obtain⟨a,haa⟩:=xq (a0+1);rw[<-haa]at h;obtain⟨i0,hi,hz0,hz1,hz2⟩:=info_parts Tryz.infoI62;obtain⟨j0,hj,hy0,hy1,hy2⟩:=info_parts Tryz.infoInts;have HWR:=zq h;obtain⟨nv,vv,sv,ns,h1,h2⟩:=h;have hRl:=h1.lt;have HM1:=zq h1;have HM2:=zq h2;have htr:=h1.tks;obtain⟨ao,cap,htv,t1,t2,t3⟩:=htr;obtain⟨g,hao,hgR,-⟩:=t3 (by omega);subst hao;have htr:=h1.tks;rw[htv]at htr;have HTR:=zq htr;have HTV:=zq htv;have HTK:=zq htk;have HSZ:=zq hsz;obtain⟨n,hn⟩:=xq L.length;have HN:=zq hn;have HLB:=zq hlb;rw[<-hn]at htv hlb ha HTR
 have HM1V:Hid (WM w R (.slice (some ⟨g,0,none⟩) n cap) L a nv vv sv ns (SynP.Xm x.vals.reverse 0) x.stack.reverse x.want x.pw x.depth):=by rw[<-htv];exact h1
 have hab:a<=n:=by omega
 have ha1:0+1<=a:=by omega
 obtain⟨c0,c1,-,-,-,-,-,-⟩:=h1.cells;have f1:=h1.fro 1;rw[htv]at c0;have hst:=WkAt.start h1;rw[htv]at hst;have HST0:=zq hst;have HKI:=zq (Td R _ L a w c0 HTR.o (by omega));obtain⟨b,hb⟩:=xq (a+1)
 have hb1:((a:Nat):Int)+1=((b:Nat):Int):=by omega
 have hb2:IntKind.i64.wrap ((b:Nat):Int)=((b:Nat):Int):=IntWalk.i64_in _ (by omega)
 have hbn:b<=67108866:=by omega
 obtain⟨cnd,hcnd⟩:=xq ((SynP.Qy 1 (L.drop a) && SynP.Qv [58] (L.drop (a+1))));have HCND:=zq hcnd;have HSH:=zq (fun (hc:cnd=true) w5 (h5:WRi w5 R tv L a x)=>Qky R tv L fin a0 a x w5 h5 hm hd haa HLB.o htk hsz (by rw[hc]at hcnd;exact(Bool.and_eq_true_iff.1 hcnd.symm).1) (by rw[hc]at hcnd;exact(Bool.and_eq_true_iff.1 hcnd.symm).2));have HME:=zq (fun (hc:cnd=false)=>Qwl (fin:=fin) hm hd haa (by rw[hc]at hcnd;exact hcnd.symm));rw[<-hb]at HCND;have HBQ:=zq hb;clear h1 h2 hm hd htk hsz hn htr t1 t2 t3 haa hb hst hcnd;go_enter Tryz.func153,Tryz.ntmps153;go_upto_region 1 with fail;go_cut [30] (fun d wx=>d=.bool cnd/\Hid (Below w.heap.size w wx))
 case first=>
  have HCND2:Hid (cnd=(SynP.Qy 1 (L.drop a) && SynP.Qv [58] (L.drop b))):=HCND;by_cases hk1:SynP.Qy 1 (L.drop a)=true
  ·have hk:(((tkKind L a:Nat):Int)==1)=true:=by
    rw[Zy (by decide)]at hk1;simp at hk1;simp[hk1]
   obtain⟨v58,hv58⟩:=xq (SynP.Qv [58] (L.drop b));have HV58:=zq hv58
   have hcv:cnd=v58:=by rw[HCND2.o,hk1,hv58];rfl
   subst hcv;clear hk1 hv58;go_wp2_with fail;refine HKI.o.mono ?_;rintro e w1 ⟨rfl,hb1'⟩;have hw1:=HST0.o.below hb1';obtain⟨d0,d1,-⟩:=hw1.cells;have HIS:=zq (Rj R _ L b [58] w1 d0 (hw1.tks hRl HTR.o) (by omega));rw[<-HV58.o]at HIS;have HB1:=zq hb1';clear hb1' hw1 c0 c1 f1;go_wp2_with fail;refine HIS.o.mono ?_;rintro e w2 ⟨rfl,hb2'⟩;have HB2:=zq (Qg HB1.o hb2');clear hb2' d0 d1;go_wp2_with fail;go_meet;exact⟨rfl,HB2⟩
  ·have hk1f:SynP.Qy 1 (L.drop a)=false:=by simpa using hk1
   have hk:(((tkKind L a:Nat):Int)==1)=false:=by
    rw[Zy (by decide)]at hk1f;simp at hk1f;simp;omega
   have hcv:cnd=false:=by rw[HCND2.o,hk1f];rfl
   subst hcv;clear hk1 hk1f;go_wp2_with fail;refine HKI.o.mono ?_;rintro e w1 ⟨rfl,hb1'⟩;have HB1:=zq hb1';clear hb1' c0 c1 f1;go_wp2_with fail;go_meet;exact⟨rfl,HB1⟩
 case rest=>
  obtain⟨rfl,hwc⟩:=hcut;obtain⟨wa,rfl⟩:=xq wc;have HBA:=hwc;clear hwc c0 c1 f1 HKI;by_cases hcc:cnd=true
  ·have HS2:=zq (HSH.o hcc wa (HWR.o.below HBA.o))
   subst hcc;go_wp2_with fail;refine HS2.o.mono ?_
   cases hcl:matR fin x with
   |error p=>
    obtain⟨c,k⟩:=p;rintro e w3 ⟨hb3,a3,rfl,hc,hk⟩;have HB3:Hid (Below R w w3):=(HBA.o.mono (Nat.le_of_lt hRl)).trans hb3;have HC3:=zq hc;have HK3:=zq hk;have HCL:=zq hcl;clear hb3 hcl hc hk;go_wp2_with fail;go_ret2;refine⟨HB3.o,?_⟩;rw[HCL.o]
    exact⟨a3,rfl,HC3.o,HK3.o⟩
   |ok x'=>
    rintro e w3 ⟨hb3,rfl,hrest⟩;have HB3:Hid (Below R w w3):=(HBA.o.mono (Nat.le_of_lt hRl)).trans hb3;have HR3:=zq hrest;have HCL:=zq hcl;clear hb3 hcl hrest;go_wp2_with fail;go_ret2;refine⟨HB3.o,?_⟩;rw[HCL.o];exact⟨rfl,HR3.o⟩
  ·have hcf:cnd=false:=by simpa using hcc
   obtain⟨rr,hrr,hea⟩:=HME.o hcf;subst hcf;have HRR:=zq hrr;have HEA:=zq hea;have hzwa:w.heap.size<=wa.heap.size:=HBA.o.size
   have HST:Hid (MtL fin x L rr w R (.slice (some ⟨g,0,none⟩) n cap) nv vv sv (.slice (some ⟨wa.heap.size+1,0,none⟩) 1 1) ((wa.alloc (.cells #[] 62)).alloc (.cells #[.slice (some ⟨wa.heap.size,0,none⟩) 0 0] 45))):=by
    have hba1:=Qq wa (.cells #[] 62);have hba2:=Qq (wa.alloc (.cells #[] 62)) (.cells #[.slice (some ⟨wa.heap.size,0,none⟩) 0 0] 45);exact⟨a,[],_,[],[],Mt.one wa w.heap.size hzwa,HST0.o.below (Qg HBA.o (Qg hba1 hba2)),HEA.o,by rw[<-HN.o];exact hab,by show 0+1<=a;exact ha1,Nat.zero_le _,Nat.zero_le _,fun r hr=>(by cases hr),fun p hp=>by cases hp⟩
   clear hcc hrr hea HSH HME;go_upto_block 0 with fail;go_cut [6] (fun rv wx=>Hid (MtE x L rr w R (.slice (some ⟨g,0,none⟩) n cap) nv vv sv rv wx))
   case first=>
    go_wp2_with fail;go_loopw [6] (fun rv wr=>MtL fin x L rr w R (.slice (some ⟨g,0,none⟩) n cap) nv vv sv rv wr) (fun _ wr=>Qc L R wr)
    case atStart=>exact HST.o
    case round=>
     obtain⟨j,rs,lv,cs,cur,hmt,hwk,hea,hjl,hrl,hcl,htot,hrok⟩:=hrel;rw[<-HN.o]at hjl;obtain⟨gr,rcap,lo,lcap,rfl,hrc,hgB,hgl,hcl1,hcf,hlv,hcc⟩:=hmt.last;have hlv0:=zq hlv;have HMT:=zq hmt;have HWK:=zq hwk;have HEA2:=zq hea;have HLF:=zq (hwk.left L);have HCC:=zq hcc;have HROK:=zq hrok;obtain⟨p,hp⟩:=xq rs.length;have HP:=zq hp;obtain⟨m,hm⟩:=xq (p+1);have HMP:=zq hm;rw[<-hp,<-hm]at HMT hrc;rw[<-hp,<-hm]
     have hpm:p<m:=by omega
     have hsub:((m:Nat):Int)-1=((p:Nat):Int):=by omega
     have hrb:rs.length+1<=j:=hrl;have hcb:cs.length<=j:=hcl
     have hpb:p<=67108864:=by omega
     have hwp:IntKind.i64.wrap ((p:Nat):Int)=((p:Nat):Int):=IntWalk.i64_in _ (by omega)
     have hp0:(0:Int)<=((p:Nat):Int):=by omega
     have hp1:((p:Nat):Int)<((m:Nat):Int):=by omega
     obtain⟨c0,c1,f⟩:=hwk.cells;have f1:=f 1;have htk:=hwk.tks hRl HTR.o;have HI45:=zq (Rj R _ L j [45] wr c0 htk (by omega));have hzw:w.heap.size<=wr.heap.size:=hwk.1.size;have HTOT:=zq htot;obtain⟨ng,hng⟩:=xq (SynP.Qv [45] (L.drop j));have HNG:Hid (SynP.Qv [45] (L.drop j)=ng):=hng.symm;rw[<-hng]at HI45;have hrl1:=hwk.lt;clear hmt hwk hea hp hm f hlv hcc hcl1 hcf htk htot hrl hcl hrok hng;go_wp2_with fail;refine HI45.o.mono ?_;rintro e w1 ⟨rfl,hb1'⟩;have hw1:=HWK.o.below hb1';have HW1:=zq hw1;have HMT1:=zq (HMT.o.keep hb1'.size fun q _ hq=>hb1'.block q hq);clear hb1' hw1 c0 c1 f1;go_upto_if 44 with fail;go_cut [] (fun wx=>Hid (∃J,WkAt w R (.slice (some ⟨g,0,none⟩) n cap) nv vv sv x J wx/\Mt wx w.heap.size (.slice (some ⟨gr,0,none⟩) m rcap) (rs++[(lv,cs,cur)])/\RfP.Ya ⟨L.drop j,x.depth⟩=⟨L.drop J,x.depth⟩/\j<=J/\J<=n/\(ng=false->J=j)))
     case first=>
      obtain⟨-,c1,f⟩:=HW1.o.cells;have f1:=f 1;by_cases hb:ng=true
      ·obtain⟨bj,hbj⟩:=xq (j+1)
       have hbj1:((j:Nat):Int)+1=((bj:Nat):Int):=by omega
       have hbj2:IntKind.i64.wrap ((bj:Nat):Int)=((bj:Nat):Int):=IntWalk.i64_in _ (by omega)
       have HF:Hid (∃J,WkAt w R (.slice (some ⟨g,0,none⟩) n cap) nv vv sv x J (w1.setCell ⟨R,1,none⟩ (.int .i64 (bj:Nat)))/\Mt (w1.setCell ⟨R,1,none⟩ (.int .i64 (bj:Nat))) w.heap.size (.slice (some ⟨gr,0,none⟩) m rcap) (rs++[(lv,cs,cur)])/\RfP.Ya ⟨L.drop j,x.depth⟩=⟨L.drop J,x.depth⟩/\j<=J/\J<=n/\(ng=false->J=j)):=by
        have hm45:SynP.Qv [45] (L.drop j)=true:=by rw[HNG.o,hb]
        have hjn: ¬L.length<=j:=fun h=>RfP.Qs hm45 (List.drop_eq_nil_of_le h);have:=HN.o;refine⟨bj,HW1.o.set bj,HMT1.o.wr (Wr.of_set w1 1 _) hRl,?_,by omega,by omega,fun h=>(by rw[hb]at h;cases h)⟩;unfold RfP.Ya;rw[if_pos hm45];show (⟨(L.drop j).tail,x.depth⟩:SynP.St)=_;rw[List.tail_drop,hbj]
       subst hb;clear hbj f;go_wp2_with fail;go_meet;exact HF
      ·have hb':ng=false:=by simpa using hb
       have HF:Hid (∃J,WkAt w R (.slice (some ⟨g,0,none⟩) n cap) nv vv sv x J w1/\Mt w1 w.heap.size (.slice (some ⟨gr,0,none⟩) m rcap) (rs++[(lv,cs,cur)])/\RfP.Ya ⟨L.drop j,x.depth⟩=⟨L.drop J,x.depth⟩/\j<=J/\J<=n/\(ng=false->J=j)):=by
        refine⟨j,HW1.o,HMT1.o,?_,Nat.le_refl _,hjl,fun _=>rfl⟩;unfold RfP.Ya;rw[if_neg (by show ¬SynP.Qv [45] (L.drop j)=true;rw[HNG.o,hb'];decide)]
       subst hb';clear hb f;go_wp2_with fail;go_meet;exact HF
     case rest=>
      obtain⟨J,hW,hM,han,hjJ,hJn,hnj⟩:=hcut.o;obtain⟨wb,rfl⟩:=xq wc;have HWb:=zq hW;have HMb:=zq hM;have HAN:=zq han;have HNJ:=zq hnj;obtain⟨c0,c1,-⟩:=hW.cells;have HK:=zq (Td R _ L J wb c0 (hW.tks hRl HTR.o) (by omega));clear hcut hW hM han hnj HMT1 HW1 HMT HWK HI45;by_cases hkn:SynP.Qy 1 (L.drop J)=true
      ·have hk:(((tkKind L J:Nat):Int)==1)=true:=by
        have h9:=hkn;rw[Zy (by decide)]at h9;simp at h9;simp[h9]
       go_wp2_with fail;refine HK.o.mono ?_;rintro e wk ⟨rfl,hbk⟩;have HWKk:=zq (HWb.o.below hbk);have HMTk:=zq (HMb.o.keep hbk.size fun q _ hq=>hbk.block q hq);clear hbk c0 c1
       obtain⟨t,ht⟩:∃t,L[J]?=some t:=by
        cases h:L[J]? with
        |some t=>exact⟨t,rfl⟩
        |none=>rw[Vr,h]at hkn;cases hkn
       have hJl:J<n:=by
        have:=(List.getElem?_eq_some_iff.1 ht).1;rw[HN.o];exact this
       have ht1:t.1=1:=by
        rw[Vr,ht]at hkn
        simpa using hkn
       obtain⟨n1,n2,n3,n4⟩:=HTK.o t (List.mem_of_getElem? ht) ht1;have HNM:=zq (fun w5=>Sf t.2.1 w5 n1 n2 n3 n4)
       have hhd:SynP.Qm (L.drop J)=t.2.1:=by rw[M3 ht];rfl
       obtain⟨e2,-⟩:=R8 (HTR.o.low (w':=wk) fun q hq=>HWKk.o.1.block q (by omega) (by omega) (by simp)) ht;obtain⟨TX,hTX⟩:=xq (⟨t.2.1.toArray⟩:ByteArray);rw[<-hTX]at e2 HNM;obtain⟨v,hv⟩:=xq (SynP.Xx t.2.1);rw[<-hv]at HNM;obtain⟨J2,hJe⟩:=xq (J+1)
       have hJa:((J:Nat):Int)+1=((J2:Nat):Int):=by omega
       have hJb:IntKind.i64.wrap ((J2:Nat):Int)=((J2:Nat):Int):=IntWalk.i64_in _ (by omega);have HJe:=zq hJe
       have hJn2:J2<=n:=by omega
       have HNXT:Hid (RfP.Us fin (rs.map fun r=>r.2.2) (cur++[(ng && decide (0<v),v)]) ⟨L.drop J2,x.depth⟩ rr):=by
        have h9:=RfP.Qpy HEA2.o (by rw[HAN.o];exact hkn);rw[HAN.o,HNG.o,hhd,<-hv]at h9
        have e:(SynP.St.adv ⟨L.drop J,x.depth⟩)=⟨L.drop J2,x.depth⟩:=by
         show (⟨(L.drop J).tail,x.depth⟩:SynP.St)=_;rw[List.tail_drop,hJe]
        rw[e]at h9;exact h9
       obtain⟨c0,c1,f⟩:=HWKk.o.cells;have hRk:=HWKk.o.lt
       have hgk:g<wk.heap.size:=by omega
       clear hkn ht ht1 n1 n2 n3 n4 hhd hTX hv hJe f;go_wp2_with fail
       go_region_held3 (fun w'=>w'.cell? ⟨R,0,none⟩=some (.slice (some ⟨g,0,none⟩) n cap)/\w'.cell? ⟨R,1,none⟩=some (.int .i64 (J:Nat))/\w'.cell? ⟨g,J*3+1,none⟩=some (.string TX))
        (first
         |go_keep
         |exact⟨(hb5.cell (p:=⟨R,0,none⟩) hRk).trans c0,(hb5.cell (p:=⟨R,1,none⟩) hRk).trans c1,(hb5.cell (p:=⟨g,J*3+1,none⟩) hgk).trans e2⟩)
        ((go_at_call 87;refine(HNM.o _).mono ?_;rintro e w5 ⟨v5,rfl,hf5,hb5⟩))
       have HB5:Hid (Below wk.heap.size wk w5):=(below_drewN wk 1).trans hb5;have hwk5:=HWKk.o.below HB5.o;have HWK5:=zq hwk5;have hmt5:=HMTk.o.keep HB5.o.size (fun q _ hq=>HB5.o.block q hq);have HMT5:=zq hmt5;obtain⟨o5,L5,c5,rfl,-⟩:=hf5.val;have HF5:=zq hf5;obtain⟨gr',rcap',lo',lcap',q1,q2,q3,q4,q5,q6,q7,q8⟩:=hmt5.last;simp only[Value.slice.injEq,Option.some.injEq,Addr.mk.injEq,and_true]at q1;obtain⟨rfl,-,rfl⟩:=q1;rw[hlv0.o]at q7;simp only[Value.slice.injEq,true_and,Option.some.injEq]at q7;obtain⟨rfl,rfl⟩:=q7
       have er:w5.cell? ⟨gr,p,none⟩=some (.slice lo cs.length lcap):=by rw[HP.o];exact q5
       have fr:w5.frozen? ⟨gr,p,none⟩=false:=by rw[HP.o];exact q6
       have hrow5:w5.ownsRow w.heap.size 62 2 (.slice lo cs.length lcap) cs.length (Xq cs):=by
        have:=(hmt5.row (lv,cs,cur) (by simp)).1;rw[hlv0.o]at this;exact this
       have HLEI:Hid (∀w',Below w5.heap.size w5 w'->Calls Tryz.prog 188 #[.agg #[.bool ng,.slice o5 L5 c5]] w' fun e w6=> ∃v',e=.returned (.agg #[.bool (ng && decide (0<v)),v'])/\NFr w'.heap.size w6 v' v/\Below w'.heap.size w' w6):=
        fun w' h'=>Kd ng v _ w' (HF5.o.1.below h')
       obtain⟨nc,hnc⟩:=xq cs.length;have HNC:=zq hnc;rw[<-hnc]at er hrow5
       have hncb:nc<=67108864:=by omega
       have hgne:some gr≠(Value.slice lo nc lcap).ownBlock:=fun e=>by
        have h8:=hmt5.apR (lv,cs,cur) (by simp) gr (by rw[hlv0.o,<-hnc];exact e.symm);exact h8 rfl
       have HGNE:=zq hgne;have hg5l:=q4;have hB5:w.heap.size<=w5.heap.size:=hwk5.1.size;have HROW5n:=zq hrow5;obtain⟨nb,hnb⟩:=xq ((ng && decide (0<v)));rw[<-hnb]at HLEI HNXT
       have HNZ:Hid (nb=true->v≠0):=fun h=>by
        rw[h]at hnb;have:=(Bool.and_eq_true_iff.1 hnb.symm).2;simp at this;omega
       have HASM:Hid (∀(w6:World) (o6:Option Addr) (L6 c6 gg cap7:Nat) (w7:World),NFr w5.heap.size w6 (.slice o6 L6 c6) v->Below w5.heap.size w5 w6->
         w7.ownsRow w.heap.size 62 2 (.slice (some ⟨gg,0,none⟩) (nc+1) cap7) (nc+1) (Xq cs++[.bool nb,.slice o6 L6 c6])->(w6.alloc (.cells #[.bool nb,.slice o6 L6 c6] 62)).grownBy w7 (Value.slice lo nc lcap).ownBlock->((Value.slice lo nc lcap).ownBlock=some gg\/gg=w6.heap.size+1)->
         ∃lv' cs',cs'.length=cs.length+1/\Mt (w7.setCell ⟨gr,p,none⟩ (.slice (some ⟨gg,0,none⟩) (nc+1) cap7)) w.heap.size (.slice (some ⟨gr,0,none⟩) m rcap) (rs++[(lv',cs',cur++[(nb,v)])])/\WkAt w R (.slice (some ⟨g,0,none⟩) n cap) nv vv sv x J (w7.setCell ⟨gr,p,none⟩ (.slice (some ⟨gg,0,none⟩) (nc+1) cap7))):=by
        intro w6 o6 L6 c6 gg cap7 w7 a1 a2 a3 a4 a5;rw[HNC.o]at a3 a4 a5 ⊢;rw[<-hlv0.o]at a4 a5;rw[HP.o];have h9:=Mt.entry HMT5.o HWK5.o hRl (gr:=gr) (rcap:=rcap) (by rw[HMP.o,HP.o]) a1 a2 a3 a4 a5;exact⟨_,_,by simp,h9.1,h9.2⟩
       clear hb5 hf5 hmt5 hwk5 q2 q3 q5 q6 q8 hrow5 hnc hgne c0 c1 e2 hnb;go_upto_region 10 with fail;go_cut [] (fun wx=>Hid (∃lv' cs',cs'.length=cs.length+1/\Mt wx w.heap.size (.slice (some ⟨gr,0,none⟩) m rcap) (rs++[(lv',cs',cur++[(nb,v)])])/\WkAt w R (.slice (some ⟨g,0,none⟩) n cap) nv vv sv x J wx))
       case first=>
        go_region_law
         ((first
            |(go_simp;go_wp2_with (go_at_call 188;refine(HLEI.o _ ?_).mono ?_;exact below_drewN w5 1;rintro e w6 ⟨v6,rfl,hf6,hb6⟩);obtain⟨o6,L6,c6,rfl,-⟩:=hf6.val;have hb6n:Below w5.heap.size w5 w6:=(by first|exact hb6|exact(below_drewN w5 1).trans hb6);have hz6:=hb6n.size;have er6:w6.cell? ⟨gr,p,none⟩=some (.slice lo nc lcap):=(hb6n.cell (p:=⟨gr,p,none⟩) hg5l).trans er;have hnew6:w6.heap.size≠gr:=(by omega);have ea6:(w6.alloc (.cells #[.bool nb,.slice o6 L6 c6] 62)).cell? ⟨gr,p,none⟩=some (.slice lo nc lcap):=((Qq w6 _).cell (p:=⟨gr,p,none⟩) (by show gr<_;omega)).trans er6)
            |(refine step_append_lies _ (by rfl) _ _ 45 (by rfl) w.heap.size 62 i0 _ 2 32 Tryz.underlying45 hi hz0 hz1 hz2 rfl (by omega) (.slice lo nc lcap) nc (Xq cs) (by rfl) (by exact World.ownsRow.alloc (Qh HROW5n.o hb6n (Nat.le_refl _)) _) ⟨w6.heap.size,0,none⟩ 1 1 [.bool nb,.slice o6 L6 c6] (by rfl) (by rfl) (World.news_of_block (cs:= #[.bool nb,.slice o6 L6 c6]) (heap_alloc_new _ _)) (by simp[Value.oneCell']) (by omega) (by unfold maxLen;omega) (by omega) (by simp;omega) (w6.heap.size+1) (by simp) ?_;intro gg cap7 w7 hown7 hgrow7 hat7 hlt7;have e7:w7.cell? ⟨gr,p,none⟩=some (.slice lo nc lcap):=(hgrow7.cell_far ⟨gr,p,none⟩ (by simp;omega) HGNE.o).trans (((Qq w6 _).cell (p:=⟨gr,p,none⟩) (by show gr<_;omega)).trans ((hb6n.cell (p:=⟨gr,p,none⟩) hg5l).trans er));have f7:w7.frozen? ⟨gr,p,none⟩=false:=(hgrow7.frozen_far ⟨gr,p,none⟩ (by simp;omega) HGNE.o).trans (((Qq w6 _).frozen (p:=⟨gr,p,none⟩) (by show gr<_;omega)).trans ((hb6n.frozen (p:=⟨gr,p,none⟩) hg5l).trans fr)))))
        all_goals
         have HF:=HASM.o w6 o6 L6 c6 gg cap7 w7 hf6 hb6n hown7 hgrow7 hat7;clear hf6 hb6 hb6n hz6 er6 hnew6 ea6 hown7 hgrow7 hat7 hlt7 e7 f7;go_wp2_with fail;go_meet;exact HF
       case rest=>
        obtain⟨lv',cs',hl',hM,hW⟩:=hcut.o;obtain⟨-,c1,f⟩:=hW.cells;have f1:=f 1
        have HFIN:Hid (MtL fin x L rr w R (.slice (some ⟨g,0,none⟩) n cap) nv vv sv (.slice (some ⟨gr,0,none⟩) m rcap) (wc.setCell ⟨R,1,none⟩ (.int .i64 (J2:Nat)))/\Qc L R (wc.setCell ⟨R,1,none⟩ (.int .i64 (J2:Nat)))<Qc L R wr):=by
         have hs:=hW.set J2;have h2:=HJe.o;have h4:=HTOT.o;refine⟨⟨J2,rs,lv',cs',cur++[(nb,v)],hM.wr (Wr.of_set wc 1 _) hRl,hs,HNXT.o,by rw[<-HN.o];exact hJn2,by omega,by omega,?_,HROK.o.1,fun q hq=> ?_⟩,?_⟩
         ·rw[<-List.append_assoc,List.length_append,List.length_singleton]
          omega
         ·rcases List.mem_append.1 hq with hq|hq
          ·exact HROK.o.2 q hq
          ·rw[List.mem_singleton.1 hq];exact HNZ.o
         ·rw[hs.left L,HLF.o,<-HN.o]
          omega
        clear hcut hM hW f er fr;go_wp2_with fail;exact HFIN.o
      ·have hknf:SynP.Qy 1 (L.drop J)=false:=by simpa using hkn
       have hk:(((tkKind L J:Nat):Int)==1)=false:=by
        have h9:=hknf;rw[Zy (by decide)]at h9;simp at h9;simp;omega
       clear hkn;obtain⟨gr',rcap',lo',lcap',q1,q2,q3,q4,q5,q6,q7,q8⟩:=HMb.o.last;simp only[Value.slice.injEq,Option.some.injEq,Addr.mk.injEq,and_true]at q1;obtain⟨rfl,-,rfl⟩:=q1;rw[hlv0.o]at q7;simp only[Value.slice.injEq,true_and,Option.some.injEq]at q7;obtain⟨rfl,rfl⟩:=q7
       have er:wb.cell? ⟨gr,p,none⟩=some (.slice lo cs.length lcap):=by rw[HP.o];exact q5
       have hgb:=q4;clear q2 q3 q5 q6 q8;have HNK:=zq hknf;obtain⟨nc,hnc⟩:=xq cs.length;have HNC:=zq hnc;rw[<-hnc]at er;clear hknf hnc;by_cases hbad:ng=true\/nc=0
       ·have HMR:Hid (matR fin x=.error (SynP.Q7 fin (L.drop J),14)):=by
         have h9:=RfP.Qpd HEA2.o (by rw[HAN.o];exact HNK.o) (by
          rcases hbad with h|h
          ·left
           show SynP.Qv [45] (L.drop j)=true;rw[HNG.o,h]
          ·right
           have h1:=HNC.o;have h2:=HCC.o
           exact List.eq_nil_of_length_eq_zero (by omega))
         rw[HRR.o,h9,HAN.o];rfl
        have hR2:R<wb.heap.size:=HWb.o.lt;by_cases hb:ng=true
        ·subst hb
         go_wp2_with fail;refine HK.o.mono ?_;rintro e wk ⟨rfl,hbk⟩;have HWKk:=zq (HWb.o.below hbk);have c1k:=HWKk.o.cells.2.1;clear hbk c0 c1 er hbad;go_wp2_with fail;go_ret2;refine⟨HWKk.o.belowR hRl,?_⟩;rw[HMR.o];exact⟨J,rfl,rfl,by decide⟩
        ·have hn0:nc=0:=by
          rcases hbad with h|h
          ·exact absurd h hb
          ·exact h
         have hb':ng=false:=by simpa using hb
         subst hn0;subst hb';go_wp2_with fail;refine HK.o.mono ?_;rintro e wk ⟨rfl,hbk⟩;have HWKk:=zq (HWb.o.below hbk);have c1k:=HWKk.o.cells.2.1;have erk:=(hbk.cell (p:=⟨gr,p,none⟩) hgb).trans er;clear hbk c0 c1 er hbad hb;go_wp2_with fail;go_ret2;refine⟨HWKk.o.belowR hRl,?_⟩;rw[HMR.o];exact⟨J,rfl,rfl,by decide⟩
       ·have hb':ng=false:=by
         cases hx:ng with
         |false=>rfl
         |true=>exact absurd (Or.inl hx) hbad
        have hn0:(((nc:Nat):Int)==0)=false:=by
         have:nc≠0:=fun h=>hbad (Or.inr h)
         simpa using this
        have hJj:=HNJ.o hb';subst hJj;subst hb'
        have HCNE:Hid (cur≠[]):=fun h=>by
         have h1:=HNC.o;have h2:=HCC.o;rw[h]at h2;exact hbad (Or.inr (by rw[h1,h2];rfl))
        obtain⟨v59,hv59⟩:=xq (SynP.Qv [59] (L.drop J));have HV59:=zq hv59;have hR2:R<wb.heap.size:=HWb.o.lt;clear hbad hv59;go_wp2_with fail;refine HK.o.mono ?_;rintro e wk ⟨rfl,hbk⟩;have HWKk:=zq (HWb.o.below hbk);have HMTk:=zq (HMb.o.keep hbk.size fun q _ hq=>hbk.block q hq);obtain⟨d0,d1,-⟩:=HWKk.o.cells;have erk:=(hbk.cell (p:=⟨gr,p,none⟩) hgb).trans er;have HI59:=zq (Rj R _ L J [59] wk d0 (HWKk.o.tks hRl HTR.o) (by omega));rw[<-HV59.o]at HI59;clear hbk c0 c1 er;go_wp2_with fail;refine HI59.o.mono ?_;rintro e wl ⟨rfl,hbl⟩;have HWl:=zq (HWKk.o.below hbl);have HMl:=zq (HMTk.o.keep hbl.size fun q _ hq=>hbl.block q hq);clear hbl d0 d1 erk HI59;obtain⟨J2,hJe⟩:=xq (J+1)
        have hJa:((J:Nat):Int)+1=((J2:Nat):Int):=by omega
        have hJb:IntKind.i64.wrap ((J2:Nat):Int)=((J2:Nat):Int):=IntWalk.i64_in _ (by omega);have HJe:=zq hJe;have hRL:=HWl.o.lt;have hzl:w.heap.size<=wl.heap.size:=HWl.o.1.size
        have HADV:Hid (SynP.St.adv ⟨L.drop J,x.depth⟩=⟨L.drop J2,x.depth⟩):=by
         show (⟨(L.drop J).tail,x.depth⟩:SynP.St)=_;rw[List.tail_drop,hJe]
        clear hJe;by_cases h59:v59=true
        ·have HJ2n:Hid (J2<=n):=by
          have h9:SynP.Qv [59] (L.drop J)=true:=by rw[<-HV59.o,h59]
          have hjn: ¬L.length<=J:=fun h=>RfP.Qs h9 (List.drop_eq_nil_of_le h);have:=HN.o;have:=HJe.o;show J2<=n;omega
         have HNXT:Hid (RfP.Us fin (rs.map (fun r=>r.2.2)++[cur]) [] ⟨L.drop J2,x.depth⟩ rr):=by
          have h9:=RfP.Qwe HEA2.o HNG.o HNK.o HCNE.o (by show SynP.Qv [59] (L.drop J)=true;rw[<-HV59.o,h59]);rw[HADV.o]at h9;exact h9
         have HOWN:Hid (((wl.alloc (.cells #[] 62)).alloc (.cells #[.slice (some ⟨wl.heap.size,0,none⟩) 0 0] 45)).ownsRow w.heap.size 45 1 (.slice (some ⟨gr,0,none⟩) m rcap) m ((rs++[(lv,cs,cur)]).map Prod.fst)):=by
          have h9:=(HMl.o.own.alloc (.cells #[] 62)).alloc (.cells #[.slice (some ⟨wl.heap.size,0,none⟩) 0 0] 45)
          have hl:(rs++[(lv,cs,cur)]).length=m:=by rw[HMP.o,HP.o];simp
          rw[hl]at h9;exact h9
         subst h59;go_wp2_with (at_builtin;refine wpList_append_lies _ rfl _ _ 37 rfl w.heap.size 45 j0 _ 1 24 Tryz.underlying37 hj hy0 hy1 hy2 rfl (by omega) (.slice (some ⟨gr,0,none⟩) m rcap) m ((rs++[(lv,cs,cur)]).map Prod.fst) rfl HOWN.o ⟨wl.heap.size+1,0,none⟩ 1 1 [.slice (some ⟨wl.heap.size,0,none⟩) 0 0] rfl rfl (World.news_of_block (cs:= #[.slice (some ⟨wl.heap.size,0,none⟩) 0 0]) (by have:=heap_alloc_new (wl.alloc (.cells #[] 62)) (.cells #[.slice (some ⟨wl.heap.size,0,none⟩) 0 0] 45);simpa using this)) (by simp[Value.oneCell']) (by omega) (by unfold maxLen;omega) (by omega) (by simp;omega) (wl.heap.size+2) (by simp) ?_);intro gg cap7 w7 hown7 hgrow7 hat7 hlt7
         have hM7:Mt w7 w.heap.size (.slice (some ⟨gg,0,none⟩) (m+1) cap7) ((rs++[(lv,cs,cur)])++[(.slice (some ⟨wl.heap.size,0,none⟩) 0 0,[],[])]):=by
          have hl:(rs++[(lv,cs,cur)]).length=m:=by rw[HMP.o,HP.o];simp
          have h9:=HMl.o.more hzl (gg:=gg) (cap:=cap7) (by rw[hl];have h8:=hown7;simpa using h8) hgrow7 hat7;rw[hl]at h9;exact h9
         have hW7:=WkAt.more HMl.o HWl.o hRl hgrow7;have HM7:=zq hM7;have HW7:=zq hW7;obtain⟨-,c1,f⟩:=hW7.cells;have f1:=f 1
         have HFIN:Hid (MtL fin x L rr w R (.slice (some ⟨g,0,none⟩) n cap) nv vv sv (.slice (some ⟨gg,0,none⟩) (m+1) cap7) (w7.setCell ⟨R,1,none⟩ (.int .i64 (J2:Nat)))/\Qc L R (w7.setCell ⟨R,1,none⟩ (.int .i64 (J2:Nat)))<Qc L R wr):=by
          have hs:=HW7.o.set J2;have h2:=HJe.o;have h3:=HJ2n.o;have h4:=HTOT.o;have h5:=HMP.o;have h6:=HP.o;refine⟨⟨J2,rs++[(lv,cs,cur)],_,[],[],HM7.o.wr (Wr.of_set w7 1 _) hRl,hs,?_,by rw[<-HN.o];exact h3,by simp;omega,Nat.zero_le _,?_,?_⟩,?_⟩
          ·rw[List.map_append];exact HNXT.o
          ·rw[List.map_append,List.flatten_append,List.append_nil]
           simp only[List.map_cons,List.map_nil,List.flatten_cons,List.flatten_nil,List.append_nil];omega
          ·refine⟨fun r hr=> ?_,fun q hq=>by cases hq⟩
           rcases List.mem_append.1 hr with hr|hr
           ·exact HROK.o.1 r hr
           ·rw[List.mem_singleton.1 hr]
            exact⟨HCNE.o,HROK.o.2⟩
          ·rw[hs.left L,HLF.o,<-HN.o]
           omega
         clear hown7 hgrow7 hat7 hlt7 hM7 hW7 f;go_wp2_with fail;exact HFIN.o
        ·have h59f:v59=false:=by simpa using h59
         obtain⟨v93,hv93⟩:=xq (SynP.Qv [93] (L.drop J));have HV93:=zq hv93
         have H59:Hid (SynP.Qv [59] (L.drop J)=false):=by rw[<-HV59.o];exact h59f
         subst h59f;obtain⟨d0,d1,-⟩:=HWl.o.cells;have HI93:=zq (Rj R _ L J [93] wl d0 (HWl.o.tks hRl HTR.o) (by omega));rw[<-HV93.o]at HI93;clear h59 hv93;go_wp2_with fail;refine HI93.o.mono ?_;rintro e wm ⟨rfl,hbm⟩;have HWm:=zq (HWl.o.below hbm);have HMm:=zq (HMl.o.keep hbm.size fun q _ hq=>hbm.block q hq);obtain⟨-,c1,f⟩:=HWm.o.cells;have f1:=f 1;clear hbm d0 d1 f;by_cases h93:v93=true
         ·have HJ2n:Hid (J2<=n):=by
           have h9:SynP.Qv [93] (L.drop J)=true:=by rw[<-HV93.o,h93]
           have hjn: ¬L.length<=J:=fun h=>RfP.Qs h9 (List.drop_eq_nil_of_le h);have:=HN.o;have:=HJe.o;show J2<=n;omega
          have HE:Hid (MtE x L rr w R (.slice (some ⟨g,0,none⟩) n cap) nv vv sv (.slice (some ⟨gr,0,none⟩) m rcap) (wm.setCell ⟨R,1,none⟩ (.int .i64 (J2:Nat)))):=by
           have h9:=RfP.Qpg HEA2.o HNG.o HNK.o HCNE.o (by show SynP.Qv [93] (L.drop J)=true;rw[<-HV93.o,h93]);rw[HADV.o]at h9;have h2:=HJe.o;have h4:=HTOT.o;refine⟨J2,rs++[(lv,cs,cur)],x.depth,HMm.o.wr (Wr.of_set wm 1 _) hRl,HWm.o.set J2,?_,by rw[<-HN.o];exact HJ2n.o,by simp,by simp;omega,?_,?_⟩
           ·rw[List.map_append];exact h9
           ·rw[List.map_append,List.flatten_append]
            simp only[List.map_cons,List.map_nil,List.flatten_cons,List.flatten_nil,List.append_nil];omega
           ·refine⟨fun r hr=> ?_,fun q hq=>by cases hq⟩
            rcases List.mem_append.1 hr with hr|hr
            ·exact HROK.o.1 r hr
            ·rw[List.mem_singleton.1 hr]
             exact⟨HCNE.o,HROK.o.2⟩
          subst h93;go_wp2_with fail;go_meet;exact HE
         ·have h93f:v93=false:=by simpa using h93
          have HMR:Hid (matR fin x=.error (SynP.Q7 fin (L.drop J),14)):=by
           have h9:=RfP.Qyk HEA2.o HNG.o HNK.o HCNE.o (by show SynP.Qv [93] (L.drop J)=false;rw[<-HV93.o,h93f]) H59.o;rw[HRR.o,h9];rfl
          subst h93f;clear h93;go_wp2_with fail;go_ret2;refine⟨HWm.o.belowR hRl,?_⟩;rw[HMR.o];exact⟨J,rfl,rfl,by decide⟩
   case rest=>
    obtain⟨j1,rs,dd,hM,hW,hrr2,hj1,hne,hrl,htot,hrok⟩:=hcut.o;obtain⟨we,rfl⟩:=xq wc;obtain⟨m,hm⟩:=xq rs.length;have HMM:=zq hm;have HNL:=HN.o
    have hm1:1<=m:=by
     cases rs with
     |nil=>exact absurd rfl hne
     |cons a l=>rw[hm];simp
    obtain⟨k0,hk0⟩:∃k0,∃r0 rs',rs=r0::rs'/\r0.2.2.length=k0:=by
     cases rs with
     |nil=>exact absurd rfl hne
     |cons a l=>exact⟨_,a,l,rfl,rfl⟩
    have H0:=zq hk0
    have HRF:Hid (∃r0:Rw26,rs[0]?=some r0/\r0.2.2.length=k0):=by
     obtain⟨r0,rs',e,e2⟩:=hk0;exact⟨r0,by rw[e];rfl,e2⟩
    have HROK:=zq hrok
    have hmb:m<=67108864:=by rw[hm];omega
    have htb:(rs.map fun r=>r.2.2).flatten.length<=67108864:=by omega
    have HTB:=zq htb;obtain⟨ao,rcap,hrv,a1,a2,a3⟩:=Qj hM.own;obtain⟨gr,rfl,b1,b2,-⟩:=a3 (by rw[<-hm];omega);rw[<-hm]at hrv;subst hrv;have HM:=zq hM;have HW:=zq hW
    have HR2:Hid (matR fin x=matO (SynP.Q7 fin (L.drop a0)) x (.ok (((rs.map fun r=>r.2.2).flatten,(rs.map fun r=>r.2.2).map List.length),⟨L.drop j1,dd⟩))):=by rw[HRR.o,hrr2];exact zq rfl
    have HROW:Hid (∀wr,Below we.heap.size we wr-> ∀j r,rs[j]?=some r-> ∃g lcap,wr.cell? ⟨gr,j,none⟩=some (.slice (some ⟨g,0,none⟩) r.2.2.length lcap)/\g<wr.heap.size/\gr<wr.heap.size/\r.2.1.length=r.2.2.length/\
      (∀i u,(Xq r.2.1)[i]?=some u->wr.cell? ⟨g,i,none⟩=some u)/\ ∀u∈Xq r.2.1,u.oneCell'=true):=
     fun wr hb j r hj=>(HM.o.keep hb.size fun q _ hq=>hb.block q hq).at rfl hj (HROK.o.1 r (List.mem_of_getElem? hj)).1
    have HLEN:Hid (∀j,((rs.take j).flatMap fun r=>r.2.1).length<=67108864):=fun j=>Nat.le_trans (Bf rs (fun r hr=>(HM.o.row r hr).2.1) j) HTB.o
    have HAT:Hid (AtL we rs k0 (.slice (some ⟨we.heap.size,0,none⟩) 0 0) (.int .i64 0) (we.alloc (.cells #[] 62))):=
     ⟨0,rfl,Nat.zero_le _,Qq we _,World.ownsRow_lit (base:=we.heap.size) (e:=62) (size:=2) we #[] 0 (Nat.le_refl _) (by unfold maxLen;omega) rfl,fun r hr=>(by simp at hr)⟩
    have hzwe:w.heap.size<=we.heap.size:=hW.1.size
    have hj1n:j1<=n:=by rw[HNL];exact hj1
    clear hcut hM hW hrr2 hj1 hne hrl htot hrok a1 a2 a3 b1 hm hk0 HNL htb;go_wp2_with fail;go_loopw [11,12] (fun av jv wr=>AtL we rs k0 av jv wr) (fun _ jv _=>(m-intOf jv).toNat)
    case atStart=>exact HAT.o
    case round=>
     obtain⟨j,rfl,hjm,hbl,hown,hall⟩:=hrel;rw[<-HMM.o]at hjm;have HBL:=zq hbl;have HALL:=zq hall;have hnb:=HLEN.o j;obtain⟨pre,hpre⟩:=xq ((rs.take j).flatMap fun r=>r.2.1);have HPRE:=zq hpre;rw[<-hpre]at hown hnb;obtain⟨bo,bcap,hav,-,-,-⟩:=Qj hown;obtain⟨nA,hnA⟩:=xq pre.length;have HNA:=zq hnA;rw[<-hnA]at hown hav hnb;subst hav;have HOWN:=zq hown;have hzr:we.heap.size<=wr.heap.size:=hbl.size;clear hbl hown hall hpre hnA;by_cases hlt:j<m
     ·obtain⟨r,hr⟩:∃r,rs[j]?=some r:=⟨_,List.getElem?_eq_getElem (by rw[<-HMM.o];exact hlt)⟩
      obtain⟨r0,hr0,hr0k⟩:=HRF.o;obtain⟨g1,lc1,e1,hg1,hgr1,hl1,hcells,hone⟩:=HROW.o wr HBL.o j r hr;obtain⟨g2,lc2,e2,-,-,-,-,-⟩:=HROW.o wr HBL.o 0 r0 hr0;rw[hr0k]at e2;obtain⟨q,hq⟩:=xq r.2.2.length;have HQ:=zq hq;have HL1:=zq hl1;have HCE:=zq hcells;have HON:=zq hone;have HR:=zq hr
      have hqpos:0<q:=by
       have:=(HROK.o.1 r (List.mem_of_getElem? hr)).1;rw[hq]
       cases h:r.2.2 with
       |nil=>exact absurd h this
       |cons a l=>simp
      have hqb:Hid (nA+q<=67108864):=by
       have h9:=HLEN.o (j+1);rw[Fy rs hr,<-HPRE.o,List.length_append,<-HNA.o,hl1,<-hq]at h9;exact h9
      rw[<-hq]at e1
      have hj0:(0:Int)<=((j:Nat):Int):=by omega
      have hj1':((j:Nat):Int)<((m:Nat):Int):=by omega
      have hm0:(0:Int)<((m:Nat):Int):=by omega
      clear hr hr0 hr0k hq hl1 hcells hone;by_cases hqk:q=k0
      ·subst hqk
       go_wp2_with fail;go_quiet (fail);obtain⟨wq,hwq⟩:=xq (wr.drewN nq)
       have hbq:Below wr.heap.size wr wq:=by rw[hwq];exact below_drewN wr nq
       rw[<-hwq];have HBQ2:=zq (Qg HBL.o hbq);have e1q:=(hbq.cell (p:=⟨gr,j,none⟩) hgr1).trans e1;have HOWNq:Hid (wq.ownsRow we.heap.size 62 2 (.slice bo nA bcap) nA (Xq pre)):=Qh HOWN.o hbq (Nat.le_refl _)
       have HCEq:Hid (∀i u,(Xq r.2.1)[i]?=some u->wq.cell? ((⟨g1,0,none⟩:Addr).add i)=some u):=fun i u hu=>by
        have ea:(⟨g1,0,none⟩:Addr).add i=⟨g1,i,none⟩:=by unfold Addr.add;split<;>simp_all
        rw[ea];exact(hbq.cell (p:=⟨g1,i,none⟩) hg1).trans (HCE.o i u hu)
       have hqb2:=hqb.o;have hzq:we.heap.size<=wq.heap.size:=Nat.le_trans hzr hbq.size
       have HLR:Hid ((Xq r.2.1).length=q*2):=by
        show (Xq r.2.1).length=q*2;rw[Kt,HL1.o,HQ.o]
       clear hwq hbq e1 e2;go_wp2_with (at_builtin;refine wpList_append_lies _ rfl _ _ 45 rfl we.heap.size 62 i0 _ 2 32 Tryz.underlying45 hi hz0 hz1 hz2 rfl (by omega) (.slice bo nA bcap) nA (Xq pre) rfl HOWNq.o ⟨g1,0,none⟩ q lc1 (Xq r.2.1) rfl HLR.o HCEq.o HON.o hqpos (by unfold maxLen;omega) (by omega) hzq wq.heap.size rfl ?_);intro gg cap7 w7 hown7 hgrow7 hat7 hlt7
       have HF:Hid (AtL we rs q (.slice (some ⟨gg,0,none⟩) (nA+q) cap7) (.int .i64 ((j+1:Nat):Nat)) w7):=by
        have hlt':j<rs.length:=by rw[<-HMM.o];exact hlt
        refine⟨j+1,rfl,hlt',Below.grown HBQ2.o hgrow7 hzq (fun k hk=>(HOWNq.o.lt k hk).1),?_,fun r' hr'=> ?_⟩
        ·rw[Fy rs HR.o,<-HPRE.o,Rm,List.length_append,<-HNA.o,HL1.o,<-HQ.o]
         exact hown7
        ·rw[List.take_add_one,HR.o]at hr'
         rcases List.mem_append.1 hr' with hr'|hr'
         ·exact HALL.o r' hr'
         ·have:r'=r:=by simpa using hr'
          rw[this,<-HQ.o]
       clear hown7 hgrow7 hat7 hlt7;go_wp2_with fail
       first|exact⟨HF.o,by simp[intOf]<;>omega⟩|exact⟨by (repeat apply Exists.intro);exact⟨HF.o,rfl⟩,by simp[intOf]<;>omega⟩
      ·have hne2:(((q:Nat):Int) !=((k0:Nat):Int))=true:=by
        have h9: ¬((q:Nat):Int)=((k0:Nat):Int):=by omega
        simpa using h9
       have HMR:Hid (matR fin x=.error (SynP.Q7 fin (L.drop a0),2)):=by
        rw[HR2.o];exact Qw6 H0.o (List.mem_of_getElem? HR.o) (by rw[<-HQ.o];exact hqk)
       clear hqk;go_wp2_with fail;go_quiet (fail);obtain⟨wq,hwq⟩:=xq (wr.drewN nq)
       have hbq:Below wr.heap.size wr wq:=by rw[hwq];exact below_drewN wr nq
       rw[<-hwq];have HFB:Hid (Below R w wq):=(HW.o.belowR hRl).trans ((Qg HBL.o hbq).mono (Nat.le_trans (Nat.le_of_lt hRl) hzwe));clear hwq hbq e1 e2;go_wp2_with fail;go_ret2;refine⟨HFB.o,?_⟩;rw[HMR.o];exact⟨a0,rfl,rfl,by decide⟩
     ·have hje:j=m:=by omega
      subst hje
      have HALL2:Hid (∀r∈rs,r.2.2.length=k0):=by
       have h9:=HALL.o;rw[HMM.o,List.take_length]at h9;exact h9
      have HPRE2:Hid (pre=rs.flatMap fun r=>r.2.1):=by
       have h9:=HPRE.o;rw[HMM.o,List.take_length]at h9;exact h9
      obtain⟨r0,hr0,hr0k⟩:=HRF.o;obtain⟨g2,lc2,e2,-,-,-,-,-⟩:=HROW.o wr HBL.o 0 r0 hr0;rw[hr0k]at e2
      have hm0:(0:Int)<((j:Nat):Int):=by omega
      have HFB:Hid (Below R w wr):=(HW.o.belowR hRl).trans (HBL.o.mono (Nat.le_trans (Nat.le_of_lt hRl) hzwe));clear hr0 hr0k hlt HALL;by_cases hbig:64<j\/64<k0
      ·have HMR:Hid (matR fin x=.error (SynP.Q7 fin (L.drop a0),5)):=by
        rw[HR2.o];exact Qk2 H0.o HALL2.o (by rw[<-HMM.o];exact hbig)
       by_cases hb1:64<j
       ·clear hbig
        go_wp2_with fail;go_ret2;refine⟨HFB.o,?_⟩;rw[HMR.o];exact⟨a0,rfl,rfl,by decide⟩
       ·have hb2:64<k0:=by
         rcases hbig with h|h
         ·exact absurd h hb1
         ·exact h
        clear hbig;go_wp2_with fail;go_ret2;refine⟨HFB.o,?_⟩;rw[HMR.o];exact⟨a0,rfl,rfl,by decide⟩
      ·have hj64:j<=64:=by omega
       have hk64:k0<=64:=by omega
       have hnj: ¬64<j:=by omega
       have hnk: ¬64<k0:=by omega
       obtain⟨l,hl⟩:=xq (rs.flatMap fun r=>r.2.2)
       have HMR:Hid (matR fin x=RfP.has x (.mat ⟨j,k0,l⟩) (L.drop j1)):=by
        rw[HR2.o,hl];have h9:=Qgz (col:=SynP.Q7 fin (L.drop a0)) (x:=x) (d:=dd) (ts:=L.drop j1) H0.o HALL2.o (by rw[<-HMM.o];exact hj64) hk64;rw[<-HMM.o]at h9;exact h9
       have hpo:Yc w.heap.size wr pre l:=by
        rw[HPRE2.o,hl];exact Fj rs fun r hr=>((HM.o.keep HBL.o.size fun q _ hq=>HBL.o.block q hq).row r hr).2
       have hird:IRd wr (.slice bo nA bcap) l:=by
        refine hpo.ird (Jx ?_ hzwe fun q hq=>rfl);rw[<-HNA.o];exact HOWN.o
       have hll:l.length=j*k0:=by
        rw[hl,Ba rs k0 HALL2.o,<-HMM.o]
       have HMT:=zq (N6 j k0 l _ wr hird hj64 hk64 hll)
       have hgt:=Gf ⟨j,k0,l⟩ (fun p hp=>by
        have hp':p∈l:=hp;rw[hl]at hp';obtain⟨r,hr,hp'⟩:=List.mem_flatMap.1 hp'
        exact(HROK.o.1 r hr).2 p hp')
       simp only at hgt;rw[hgt]at HMT
       have hWRi:WRi wr R tv L j1 x:=by
        rw[HTV.o,<-HN.o];exact(HW.o.below HBL.o).wri HM1V.o HM2.o
       have HWRi:=zq hWRi
       have HHAS:Hid (∀w10,Below wr.heap.size wr w10->Calls Tryz.prog 148 #[.pointer (some ⟨R,0,none⟩),.int .i64 3,.string ⟨(SynP.matT ⟨j,k0,l⟩).toArray⟩] w10 fun e' w'=>e'=.returned (.tuple #[])/\Below R w10 w'/\WRi w' R tv L j1 {x with ts:=L.drop j1,vals:=.mat ⟨j,k0,l⟩::x.vals,want:=false,pw:=false}):=
        fun w10 h10=>P6 R tv L j1 _ _ (HWRi.o.below h10) (Qw3 ⟨j,k0,l⟩) HSZ.o (by decide) (L.drop j1)
       have hR9:=hWRi.lt;clear hbig hl hpo hird hll hgt hWRi;go_wp2_with fail;refine HMT.o.mono ?_;rintro e w10 ⟨rfl,hb10⟩;have HH:=zq (HHAS.o w10 hb10);have HB10:Hid (Below R w w10):=HFB.o.trans (hb10.mono (Nat.le_of_lt hR9));clear hb10 e2;go_wp2_with fail;refine HH.o.mono ?_;rintro e w11 ⟨rfl,hb11,hw11⟩;have HB11:=zq (HB10.o.trans hb11);have HW11:=zq hw11;clear hb11 hw11;go_wp2_with fail;go_ret2;refine⟨HB11.o,?_⟩;rw[HMR.o];exact⟨rfl,j1,HW11.o,rfl,by rw[<-HN.o];exact hj1n⟩
end Go.Proofs.YtgfmiladfeoldaaGreatDoor
