/- Joined texts of this claim's proof: PsW, RfP. -/
import Derived.Test.YtgfmiladfeoldaaGreatDoorPk1
import Derived.Test.YtgfmiladfeoldaaGreatDoorPk31
import Derived.Test.YtgfmiladfeoldaaGreatDoorPk28
import Derived.Test.YtgfmiladfeoldaaGreatDoorPk23
set_option linter.unusedSimpArgs false
set_option linter.unusedVariables false
set_option maxRecDepth 100000
set_option maxHeartbeats 16000000
namespace Go.Proofs.YtgfmiladfeoldaaGreatDoor
open Go.RowKit NatP LexP
theorem Qkp (v:Value)(l:List SynP.NI)(w:World)(B:Nat)(hl:l.length<=4096)(hv:NdL w B v l)(hB:B<=w.heap.size)
  (hgr:SynP.Zt SynP.WV l.length 0 [] l=true) (hwr:∀x∈l,∀(kv:Value) (w':World),Below w.heap.size w w'->Calls Tryz.prog 101 #[.agg #[.int .i64 x.op,.string ⟨x.text.toArray⟩,kv]] w' (Rf x.op x.text w')):
  Calls Tryz.prog 50 #[v] w fun e w'=>e=.returned (.bool true)/\Below w.heap.size w w':=by
 obtain⟨i0,hi0,hz0,hz1,hz02⟩:=info_parts Tryz.infoInt;have HV:=zq hv;have HWR:=zq hwr;obtain⟨ao,cap,rfl,hnc,hcm,-⟩:=hv;obtain⟨n,hn⟩:=xq l.length;obtain⟨r,hr⟩:=xq (SynP.Zt SynP.WV l.length 0 [] l);have HR:=zq hr
 have HRT:Hid (r=true):=by show _=_;rw[hr,hgr]
 rw[<-hn]at hl hnc ⊢;have HN:=zq hn;clear hn hr hgr hwr hcm;go_enter Tryz.func50,Tryz.ntmps50;go_wp2_with fail;go_loopw [3,9] (fun fv iv wr=>GrO l w r fv iv wr) (fun _ iv _=>n-(intOf iv).toNat)
 case atStart=>exact⟨0,[],Nat.zero_le _,rfl,Nat.zero_le _,HR.o.symm,⟨rfl,.inl ⟨rfl,rfl⟩⟩,Below.refl _ _⟩
 case round=>
  obtain⟨i,free,hi,rfl,hfi,hg,hown,hb⟩:=hrel;rw[<-HN.o]at hi hg;have HG:=zq hg;have HOW:=zq hown;have HB:=zq hb;have hzb:=hb.size;have HVR:=zq (HV.o.below (hb.mono hB));obtain⟨fo,fcap,rfl,f1,f2,f3⟩:=Qj hown;obtain⟨N,hNe⟩:=xq free.length;rw[<-hNe]at hfi f1 HOW ⊢;have HNe:=zq hNe;clear hg hown hb f3 hNe;by_cases hlt:i<n
  ·obtain⟨x,hx⟩:∃x,l[i]?=some x:=⟨_,List.getElem?_eq_getElem (by rw[<-HN.o];exact hlt)⟩
   have HG2:Hid (SynP.Zt SynP.WV n i free (x::l.drop (i+1))=r):=by
    show _=_;rw[<-HG.o];congr 1;obtain⟨h1,h2⟩:=List.getElem?_eq_some_iff.1 hx;rw[List.drop_eq_getElem_cons h1,h2]
   have hmem:=List.mem_of_getElem? hx;obtain⟨ao2,cap2,he,-,-,hc⟩:=HVR.o
   cases he
   obtain⟨gt,rfl,hgt,hcell⟩:=hc (by rw[<-HN.o];omega);obtain⟨e0,e1,kv,e2,hkl⟩:=hcell i x hx;have HKL:=zq hkl;obtain⟨ko,kcap,rfl,k1,k2,k3⟩:=hkl;obtain⟨op,text,kids⟩:=x;simp only at e0 e1 e2 HKL k1 k2 k3;obtain⟨k,hke⟩:=xq kids.length;rw[<-hke]at e2 k1 HKL;obtain⟨T,hT⟩:=xq (⟨text.toArray⟩:ByteArray);rw[<-hT]at e1;have HTT:=zq hT;have HKE:=zq hke;clear hc hcell hx hT hke k3;obtain⟨w1,hw1⟩:=xq (wr.alloc (.cells #[.int .i64 op,.string T,.slice ko k kcap] 43))
   have hb1:Below wr.heap.size wr w1:=by rw[hw1];exact Qq _ _
   have hg1:w1.heap[wr.heap.size]?=some (.cells #[.int .i64 op,.string T,.slice ko k kcap] 43 (0,0)):=by rw[hw1];exact heap_alloc_new _ _
   have hzw1:w1.heap.size=wr.heap.size+1:=by rw[hw1];simp
   have d0:w1.cell? ⟨wr.heap.size,0,none⟩=some (.int .i64 op):=by rw[cell_of_row _ _ 0 _ _ _ hg1];rfl
   have d1:w1.cell? ⟨wr.heap.size,1,none⟩=some (.string T):=by rw[cell_of_row _ _ 1 _ _ _ hg1];rfl
   have d2:w1.cell? ⟨wr.heap.size,2,none⟩=some (.slice ko k kcap):=by rw[cell_of_row _ _ 2 _ _ _ hg1];rfl
   have HB1:=zq hb1;have HGB:=zq hg1;have hbw1:Below w.heap.size w w1:=HB.o.trans (hb1.mono hzb);have HBW1:=zq hbw1;have HWC:=zq (HWR.o _ hmem (.slice ko k kcap) w1 hbw1);simp only at HWC;rw[<-HTT.o]at HWC;clear hb1 hg1 hbw1 hmem HV;have hA:∃b c:Bool,SynP.Ez op=b/\((((i:Nat):Int)==((n:Nat):Int)-1)=c)/\(i+1==n)=c:=⟨_,_,rfl,rfl,by rw[Bool.eq_iff_iff];simp;omega⟩;obtain⟨b,c,ha1,ha2,ha3⟩:=hA;have HA1:=zq ha1;have HA3:=zq ha3;clear ha1 ha3;by_cases hbc:b=c
   ·
    subst hbc
    cases hcn:SynP.cnt op k with
    |false=>
     have HCN:=zq hcn
     have hF:Hid (r=false):=by show _=_;rw[<-HG2.o];refine Pj ?_;unfold SynP.Ty;simp only;rw[<-HKE.o,HCN.o];simp
     exact absurd (HRT.o.symm.trans hF.o) (by decide)
    |true=>
     have HCN:=zq hcn;clear hcn;by_cases hkN:N<k
     ·have hF:Hid (r=false):=by show _=_;rw[<-HG2.o];refine Pj ?_;unfold SynP.Ty;simp only;rw[<-HKE.o,<-HNe.o,decide_eq_true hkN];simp
      exact absurd (HRT.o.symm.trans hF.o) (by decide)
     ·have hdk:decide (((N:Nat):Int)<((k:Nat):Int))=false:=decide_eq_false (by omega)
      cases hwv:SynP.WV op text with
      |false=>
       have HWV:=zq hwv
       have hF:Hid (r=false):=by show _=_;rw[<-HG2.o];refine Pj ?_;unfold SynP.Ty;simp only;rw[HWV.o];simp
       exact absurd (HRT.o.symm.trans hF.o) (by decide)
      |true=>
       have HWV:=zq hwv
       have hST:Hid (SynP.Ty SynP.WV n i free ⟨op,text,kids⟩=true):=by
        show _=_;unfold SynP.Ty;simp only;rw[HWV.o,<-HKE.o,HCN.o,<-HNe.o,HA1.o,HA3.o,decide_eq_false hkN];simp
       clear hwv
       cases b
       all_goals
        go_wp2_with fail;rw[<-hw1];clear hw1;refine(Qvu op _).mono ?_;rintro e w2 ⟨rfl,rfl⟩;rw[HA1.o];go_wp2_with fail;refine(Qjf op k _).mono ?_;rintro e w2 ⟨rfl,rfl⟩;rw[HCN.o];go_wp2_with fail;refine HWC.o.mono ?_;rintro e w2 ⟨rfl,hb2⟩;rw[HWV.o];have hg2:=(hb2.block wr.heap.size (by omega)).trans HGB.o
        have c2:w2.cell? ⟨wr.heap.size,2,none⟩=some (.slice ko k kcap):=by rw[cell_of_row _ _ 2 _ _ _ hg2];rfl
        have hbr2:Below wr.heap.size wr w2:=Qg HB1.o hb2;have HB2:=zq (HB.o.trans (hbr2.mono hzb));have HOW2:=zq (Qh HOW.o hbr2 (Nat.le_refl _));have HKL2:=zq (HKL.o.below (hbr2.mono (Nat.le_trans hB hzb)));have hz2:w.heap.size<=w2.heap.size:=Nat.le_trans hzb hbr2.size;obtain⟨M,hM⟩:∃M,N=M+k:=⟨N-k,by omega⟩;have HMM:=zq hM
        have hsub:((N:Nat):Int)-((k:Nat):Int)=((M:Nat):Int):=by omega
        have hlen:N-M=k:=by omega
        have hMN:M<=N:=by omega
        clear hb2 hg2 hbr2 hM d0 d1 d2;rcases HOW2.o.2 with ⟨he,hN0⟩|⟨g,fc,cur,he,hg1,-,hfc,hfm,-,-⟩
        ·cases he
         have hk0:k=0:=by omega
         have hM0:M=0:=by omega
         subst hk0;subst hM0;have hkn:kids=[]:=List.eq_nil_of_length_eq_zero HKE.o.symm
         have HG3:Hid (SynP.Zt SynP.WV n (i+1) (free.take 0++[i]) (l.drop (i+1))=r):=by
          show _=_;rw[<-HG2.o,Ck hST.o (by subst hkn;simp[SynP.Vf])];subst hkn;rw[show free.length-([]:List Int).length=0 from by have h0:free.length=0:=HNe.o.symm;rw[h0];rfl]
         have HTV:Hid (w2.ownsRow w.heap.size 3 1 (.slice none 0 0) 0 (ints (free.take 0))):=⟨rfl,.inl ⟨rfl,rfl⟩⟩
         have HOWQ:Hid (∀q,(Value.slice none 0 0).ownBlock=some q->w.heap.size<=q):=fun q hq=>by cases hq
         have HQ:Hid (∀w3,Calls Tryz.prog 102 #[.slice ko 0 kcap,.slice none 0 0] w3 fun e w'=>e=.returned (.bool true)/\w'=w3):=fun w3=>Tryz.slices_Equal_int_empty ko none kcap 0 0 w3 (by omega);go_wp2_with fail;go_quiet ((go_at_call 102;exact Calls.quiet_of_same (HQ.o _)));obtain⟨w4,hw4⟩:=xq (w2.drewN nq)
         have HB4:Hid (Below w.heap.size w w4):=by show Below _ _ _;rw[hw4];exact Qg HB2.o (Yx w2 nq)
         have HT4:Hid (w4.ownsRow w.heap.size 3 1 (.slice none 0 0) 0 (ints (free.take 0))):=by show World.ownsRow _ _ _ _ _ _ _;rw[hw4];exact Qh HTV.o (Yx w2 nq) (Nat.le_refl _)
         have hz4:w.heap.size<=w4.heap.size:=HB4.o.size;rw[<-hw4];clear hw4;go_wp2_with (at_builtin;refine wpList_append_lies _ rfl _ _ 41 rfl w.heap.size 3 i0 (.int .i64 0) 1 8 Tryz.underlying41 hi0 hz0 hz1 hz02 rfl (by omega) (.slice none 0 0) 0 (ints (free.take 0)) rfl (HT4.o.alloc _) ⟨w4.heap.size,0,none⟩ 1 1 [.int .i64 ((i:Nat):Int)] rfl rfl (LexP.Qb _ _ _ _ rfl) (by simp[Value.oneCell']) (by omega) (by unfold maxLen;omega) (by omega) (by simp;omega) (w4.heap.size+1) (by simp) ?_);intro gg cap6 w6 hown6 hgrow6 hat6 hlt6;have HB6:Hid (Below w.heap.size w w6):=Hl (HB4.o.alloc hz4 _) hgrow6 (fun q hq=>HOWQ.o q hq);have HF6:Hid (GrO l w r (.slice (some ⟨gg,0,none⟩) (0+1) cap6) (.int .i64 ((i+1:Nat):Int)) w6):=Ab (HN.o ▸ HG3.o) hown6 HB6.o (by rw[<-HN.o];omega) (by omega) (HNe.o ▸ by omega);clear hown6 hgrow6 hat6 hlt6;go_wp2_with fail
         have hm6:n-(intOf (.int .i64 (((i:Nat):Int)+1))).toNat<n-(intOf (.int .i64 ((i:Nat):Int))).toNat:=by simp[intOf];omega
         have hi1:(((i+1:Nat):Int))=((i:Nat):Int)+1:=by omega
         rw[hi1]at HF6
         first|exact⟨HF6.o,hm6⟩|exact⟨by (repeat apply Exists.intro);exact⟨HF6.o,rfl⟩,hm6⟩
        ·cases he
         obtain⟨ap,happ⟩:∃ap,(if fcap=M then some (⟨g,0,none⟩:Addr) else some ⟨g,M,none⟩)=ap:=⟨_,rfl⟩
         have HQ:Hid (∀q d,Calls Tryz.prog 102 #[.slice ko k kcap,.slice ap k d] (w2.drewN q) fun e w'=>e=.returned (.bool (decide (kids=SynP.Vf free k)))/\ ∃m,w'=(w2.drewN q).drewN m):=
          fun q d=>Qql HKE.o HNe.o HMM.o HKL2.o (Nat.le_trans hB hz2) HOW2.o (by omega) (fun h0=>by rw[<-happ];exact if_neg (by omega)) q d
         have HTV:Hid (w2.ownsRow w.heap.size 3 1 (.slice (some ⟨g,0,none⟩) M fcap) M (ints (free.take M))):=by
          show World.ownsRow _ _ _ _ _ _ _;rw[<-Qvt];exact Th HOW2.o hMN
         have hs0:(0:Int)<=((M:Nat):Int):=by omega
         have hs1:((M:Nat):Int)<=((N:Nat):Int):=by omega
         have hs2:((N:Nat):Int)<=((fcap:Nat):Int):=by omega
         have hwM:IntKind.i64.wrap ((M:Nat):Int)=((M:Nat):Int):=IntWalk.i64_in _ (by omega)
         have HOWQ:Hid (∀q,(Value.slice (some ⟨g,0,none⟩) M fcap).ownBlock=some q->w.heap.size<=q):=fun q hq=>by cases hq;exact hg1
         by_cases hkq:kids=SynP.Vf free k
         ·have HG3:Hid (SynP.Zt SynP.WV n (i+1) (free.take M++[i]) (l.drop (i+1))=r):=by
           show _=_;rw[<-HG2.o,Ck hST.o (by simp only;rw[<-HKE.o];exact hkq)];rw[show free.length-kids.length=M by rw[<-HKE.o,<-HNe.o];have:=HMM.o;omega]
          rw[decide_eq_true hkq]at HQ;clear hkq;go_wp2_with fail;go_quiet ((go_at_call 102;exact Calls.quiet_of (HQ.o _ _)));obtain⟨w4,hw4⟩:=xq (w2.drewN nq)
          have HB4:Hid (Below w.heap.size w w4):=by show Below _ _ _;rw[hw4];exact Qg HB2.o (Yx w2 nq)
          have HT4:Hid (w4.ownsRow w.heap.size 3 1 (.slice (some ⟨g,0,none⟩) M fcap) M (ints (free.take M))):=by show World.ownsRow _ _ _ _ _ _ _;rw[hw4];exact Qh HTV.o (Yx w2 nq) (Nat.le_refl _)
          have hz4:w.heap.size<=w4.heap.size:=HB4.o.size;rw[<-hw4];clear hw4;go_wp2_with (at_builtin;refine wpList_append_lies _ rfl _ _ 41 rfl w.heap.size 3 i0 (.int .i64 0) 1 8 Tryz.underlying41 hi0 hz0 hz1 hz02 rfl (by omega) (.slice (some ⟨g,0,none⟩) M fcap) M (ints (free.take M)) rfl (HT4.o.alloc _) ⟨w4.heap.size,0,none⟩ 1 1 [.int .i64 ((i:Nat):Int)] rfl rfl (LexP.Qb _ _ _ _ rfl) (by simp[Value.oneCell']) (by omega) (by unfold maxLen;omega) (by omega) (by simp;omega) (w4.heap.size+1) (by simp) ?_);intro gg cap6 w6 hown6 hgrow6 hat6 hlt6;have HB6:Hid (Below w.heap.size w w6):=Hl (HB4.o.alloc hz4 _) hgrow6 (fun q hq=>HOWQ.o q hq);have HF6:Hid (GrO l w r (.slice (some ⟨gg,0,none⟩) (M+1) cap6) (.int .i64 ((i+1:Nat):Int)) w6):=Ab (HN.o ▸ HG3.o) hown6 HB6.o (by rw[<-HN.o];omega) (by omega) (HNe.o ▸ by omega);clear hown6 hgrow6 hat6 hlt6;go_wp2_with fail
          have hm6:n-(intOf (.int .i64 (((i:Nat):Int)+1))).toNat<n-(intOf (.int .i64 ((i:Nat):Int))).toNat:=by simp[intOf];omega
          have hi1:(((i+1:Nat):Int))=((i:Nat):Int)+1:=by omega
          rw[hi1]at HF6
          first|exact⟨HF6.o,hm6⟩|exact⟨by (repeat apply Exists.intro);exact⟨HF6.o,rfl⟩,hm6⟩
         ·have hF:Hid (r=false):=by
           show _=_;rw[<-HG2.o,Qxi (by simp only;rw[<-HKE.o];exact hkq)]
          exact absurd (HRT.o.symm.trans hF.o) (by decide)
   ·have hF:Hid (r=false):=by
     show _=_;rw[<-HG2.o];refine Pj ?_;unfold SynP.Ty;simp only;rw[HA1.o,HA3.o]
     cases b<;>cases c<;>first|exact absurd rfl hbc|simp
    exact absurd (HRT.o.symm.trans hF.o) (by decide)
  ·obtain rfl:i=n:=by omega
   have HF:Hid (r=(N==1)):=by show _=_;rw[<-HG.o,HN.o,List.drop_length,HNe.o];rfl
   have hN1:(((N:Nat):Int)==1)=(N==1):=by rw[Bool.eq_iff_iff];simp;omega
   clear hlt;go_wp2_with fail;go_ret;exact⟨by rw[<-HRT.o,HF.o];rfl,HB.o⟩
theorem Qxa (n:SynP.Ln)(v:Value)(w:World)(B:Nat)(hm4:n.size<=4096)(hprl:n.pr.length<=67108864)(HLN:LnOk n)(hd: ¬100<n.dp)(hv:NdL w B v (SynP.nL n.flat))(hB:B<=w.heap.size)
  (hgr:SynP.Zt SynP.WV (SynP.nL n.flat).length 0 [] (SynP.nL n.flat)=true) (hwr:∀x∈SynP.nL n.flat,∀(kv:Value) (w':World),Below w.heap.size w w'->Calls Tryz.prog 101 #[.agg #[.int .i64 x.op,.string ⟨x.text.toArray⟩,kv]] w' (Rf x.op x.text w')):
  Calls Tryz.prog 14 #[v] w fun e w'=>e=.returned (.tuple #[.string ⟨n.pr.toArray⟩,.int .i64 0])/\Below w.heap.size w w':=by
 have hlen:(SynP.nL n.flat).length=n.size:=by rw[SynP.nL,List.length_map,Mi]
 have hm0:0<n.size:=by cases n<;>simp[SynP.Ln.size]
 have HC:=zq (Qkp v (SynP.nL n.flat) w B (by rw[hlen];exact hm4) hv hB hgr hwr);have HV:=zq hv;have HLNH:=zq HLN;have HPRL:=zq hprl;have HL:=zq hlen;obtain⟨ao,cap,rfl,-⟩:=hv;rw[hlen]at HC HV ⊢;obtain⟨m,hmm⟩:=xq n.size;rw[<-hmm]at hm4 hm0 HC HV HL ⊢;have HMM:=zq hmm
 have hm1:((m:Nat):Int)-1=((m-1:Nat):Int):=by omega
 have HM1:=zq hm1;clear hmm hgr hwr hlen hm1 HLN hprl;go_enter Tryz.func14,Tryz.ntmps14;go_wp2_with fail;refine HC.o.mono ?_;rintro e w1 ⟨rfl,hb⟩;have HB1:=zq hb;have hz1:=hb.size;clear hb;go_wp2_with fail;obtain⟨w2,hw2⟩:=xq (w1.alloc (.cells #[.slice ao m cap,.pointer none,.slice none 0 0,.int .i64 0,.int .i64 0] 92))
 have HW2:Hid (WrS w2 w1.heap.size (.slice ao m cap) (.slice none 0 0) [] 0 0):=by show WrS _ _ _ _ _ _ _;rw[hw2];exact WrS.new _ _
 have HBB:Hid (Below w1.heap.size w1 w2):=by show Below _ _ _;rw[hw2];exact Qq _ _
 rw[<-hw2,HM1.o];clear hw2;obtain⟨R,hR⟩:=xq w1.heap.size;rw[<-hR]at HW2 HBB hz1 ⊢;have HR:=zq hR;clear hR;have HND:Hid (NdL w2 R (.slice ao m cap) (SynP.nL n.flat)):=(HV.o.up (HB1.o.mono hB) (by omega)).below HBB.o;rw[HMM.o];refine(HLNH.o (SynP.nL n.flat) R (.slice ao m cap) (.slice none 0 0) [] 0 0 w2 HW2.o HND.o (SynP.SegN.all _) (by have:=HPRL.o;simp;omega) (by have:=HMM.o;omega)).mono ?_;rintro e w3 ⟨rfl,bv,a1,a2,-⟩;have HA1:=zq a1
 have HB3:Hid (Below w.heap.size w w3):=by
  refine Wr.belowR (R:=R) a2 ?_ hz1;exact HB1.o.trans (HBB.o.mono hz1)
 obtain⟨-,-,c4⟩:=a1.cells
 have hmx:max 0 (0+n.dp)=n.dp:=by omega
 rw[hmx]at c4;clear a1 a2 hmx;have hd2:decide ((100:Int)<(n.dp:Nat))=false:=decide_eq_false (by omega);clear hd;go_wp2_with fail;refine(Qxv R (.slice ao m cap) bv _ _ _ w3 HA1.o).mono ?_;rintro e w4 ⟨rfl,hb4⟩;have HB4:=zq (HB3.o.trans (hb4.mono hz1));clear hb4;go_wp2_with fail;go_ret2;exact⟨rfl,HB4.o⟩
theorem Ak:SynP.Y4 Qx3=.ok Ta:=by kernel_rfl
theorem A8:SynP.Zt SynP.WV 5 0 [] [⟨2,[65],[]⟩,⟨5,[],[0]⟩,⟨9,[50],[1]⟩,⟨4,[],[2]⟩,⟨12,[112,114,105,110,116],[3]⟩]=true:=by kernel_rfl
theorem Qgs:LnOk Ta:=by
 refine Cl _ _ _ fun e he=> ?_;rw[show SynP.exL (.cons (.neg (.pow (.turn (.name [65])) 2)) .nil)=[.neg (.pow (.turn (.name [65])) 2)] from rfl]at he;rw[List.mem_singleton.1 he];exact Qye _ (Qkc _ _ (Qz9 _ (Qjv _)))
theorem Eo (w:World)(hx:Lx w)(hs:SG w)(hsz:4<w.heap.size):∀x∈SynP.nL Ta.flat,∀(kv:Value) (w':World),Below w.heap.size w w'->Calls Tryz.prog 101 #[.agg #[.int .i64 x.op,.string ⟨x.text.toArray⟩,kv]] w' (Rf x.op x.text w'):=by
 rw[F9];intro x E kv w' H;have h:=hx.below H;have I:=hs.below H hsz;have J:4<w'.heap.size:=Nat.lt_of_lt_of_le hsz H.size;simp only[List.mem_cons,List.not_mem_nil,or_false]at E;rcases E with rfl|rfl|rfl|rfl|rfl
 ·exact Bd 2 (.inl rfl) [65] kv w' (by decide) h
 ·exact Pg 5 (by decide) (by decide) (by decide) (by decide) (by decide) (by decide) (by decide) (by decide) [] kv w'
 ·exact Bo 9 (.inr rfl) [50] kv w' (by decide) I J
 ·exact Pg 4 (by decide) (by decide) (by decide) (by decide) (by decide) (by decide) (by decide) (by decide) [] kv w'
 ·exact Qxw [112,114,105,110,116] kv w' (by decide) h
theorem Qxm (w:World)(hx:Lx w)(hs:SG w)(hsz:4<w.heap.size):
  Calls Tryz.prog 12 #[] w fun e w'=>e=.returned (.bool true)/\Below w.heap.size w w':=by
 have HX:=zq hx;have HS:=zq hs;have HP:=zq (Ga Qg2 w (by show _<=_;decide) hx hs hsz);clear hx hs;go_enter Tryz.func12,Tryz.ntmps12;go_wp2_with fail;refine HP.o.mono ?_;rintro e w1 hn;unfold PaP at hn;rw[show Qg2.data.toList=Qx3 from rfl,Ak]at hn;obtain⟨nv,ns,rfl,hb,htr,hfl⟩:=hn;have hnd:=htr.ndl;rw[hfl]at hnd;have HND:=zq hnd;have HB:=zq hb;obtain⟨ao,cap,rfl,h1,h2,hc⟩:=hnd;rw[F9]at h1 hc ⊢;obtain⟨g,rfl,hg,hc⟩:=hc (by decide);obtain⟨e0,-,-⟩:=hc 3 _ rfl;obtain⟨-,e1,-⟩:=hc 2 _ rfl;have e0:w1.cell? ⟨g,9,none⟩=some (.int .i64 4):=e0;have e1:w1.cell? ⟨g,7,none⟩=some (.string ⟨#[50]⟩):=e1;have HPR:=zq (Qxa Ta (.slice (some ⟨g,0,none⟩) 5 cap) w1 w1.heap.size (by decide) (by rw[Qzl];decide) Qgs (by decide) HND.o (Nat.le_refl _) (by rw[F9];exact A8) (Eo w1 (HX.o.below hb) (HS.o.below hb hsz) (Nat.lt_of_lt_of_le hsz hb.size)));simp only[List.length_cons,List.length_nil]at h1 ⊢;clear hb htr hfl hc;go_wp2_with fail;refine HPR.o.mono ?_;rintro e w2 ⟨h3,hb2⟩;rw[Qzl]at h3;subst h3;have HB2:=zq (Qg HB.o hb2);clear hb2;go_wp2_with fail;go_ret;exact⟨rfl,HB2.o⟩
end Go.Proofs.YtgfmiladfeoldaaGreatDoor
namespace RfP
open SynP LexP
structure Op where
 kind:Nat
 name:Qx
 args:Nat
structure RW where
 ts:List Tok
 vals:List Ex
 stack:List Op
 want:Bool
 pw:Bool
 depth:Nat
def lev (k:Nat):Nat:=if k=43\/k=45 then 1 else if k=42 then 2 else if k=110 then 3 else 0
def bin (k:Nat)(a b:Ex):Ex:=if k=43 then .add a b else if k=45 then .sub a b else .mul a b
def red (least:Nat):List Op->List Ex->List Op×List Ex
 | [],V=>([],V)
 |o::S,V=>
  if lev o.kind<least then (o::S,V)
  else if o.kind=110 then
   match V with
   | []=>(o::S,V)
   |a::V=>red least S (.neg a::V)
  else
   match V with
   |b::a::V=>red least S (bin o.kind a b::V)
   |V=>(o::S,V)
def Vo (x:Qx)(k:Nat)(V:List Ex):List Ex:=.call x (ofL (V.take k).reverse)::V.drop k
abbrev MR:=Except (Nat×Nat) RW
def has (w:RW)(e:Ex)(ts:List Tok):MR:=.ok {w with ts:=ts,vals:=e::w.vals,want:=false,pw:=false}
def Qn (fin:Nat)(w:RW):MR:=
 if Qy 1 w.ts then has w (.num (Xx (Qm w.ts))) w.ts.tail
 else if Qy 2 w.ts && Qv [40] w.ts.tail then
  if 100<w.depth+1 then .error (Q7 fin w.ts.tail,5)
  else .ok {w with ts:=w.ts.tail.tail,stack:=⟨102,Qm w.ts,0⟩::w.stack,depth:=w.depth+1}
 else if Qy 2 w.ts then has w (.name (Qm w.ts)) w.ts.tail
 else if Qv [45] w.ts then .ok {w with ts:=w.ts.tail,stack:=⟨110,[],0⟩::w.stack}
 else if Qv [40] w.ts then
  if 100<w.depth+1 then .error (Q7 fin w.ts,5)
  else .ok {w with ts:=w.ts.tail,stack:=⟨40,[],0⟩::w.stack,depth:=w.depth+1}
 else if Qv [91] w.ts then
  match X6 fin (w.ts.length+3) ⟨w.ts,w.depth⟩ with
  |some (.ok (m,s))=>has w (.mat m) s.ts
  |some (.error e)=> .error e
  |none=> .error (0,0)
 else if Qv [123] w.ts then
  match Xg fin (w.ts.length+2) ⟨w.ts,w.depth⟩ with
  |some (.ok (l,s))=>has w (.cpx l) s.ts
  |some (.error e)=> .error e
  |none=> .error (0,0)
 else .error (Q7 fin w.ts,14)
def Yg (w:RW)(k:Nat):MR:=
 let r:=red (lev k) w.stack w.vals
 .ok {w with ts:=w.ts.tail,vals:=r.2,stack:=⟨k,[],0⟩::r.1,want:=true}
def close (fin:Nat)(w:RW):MR:=
 if w.depth=0 then .error (Q7 fin w.ts,14)
 else
  let r:=red 1 w.stack w.vals
  match r.1 with
  | []=> .error (0,0)
  |o::S=> .ok {w with ts:=w.ts.tail,vals:=if o.kind=102 then Vo o.name (o.args+1) r.2 else r.2,stack:=S,depth:=w.depth-1,pw:=false}
def Rz (fin:Nat)(w:RW):MR:=
 let r:=red 1 w.stack w.vals
 match r.1 with
 | []=> .error (0,0)
 |o::S=>if o.kind=102\/o.kind=100 then .ok {w with ts:=w.ts.tail,vals:=r.2,stack:={o with args:=o.args+1}::S,want:=true} else .error (Q7 fin w.ts,14)
def Qzu (w:RW):List Ex:=match w.vals with|a::V=> .turn a::V| []=>[]
def pow1 (w:RW)(n:Nat):List Ex:=match w.vals with|a::V=> .pow a n::V| []=>[]
def behind (fin:Nat)(w:RW):MR:=
 if Qv [39] w.ts then if w.pw then .error (Q7 fin w.ts,14) else .ok {w with ts:=w.ts.tail,vals:=Qzu w}
 else if Qv [94] w.ts then
  if w.pw then .error (Q7 fin w.ts,14)
  else if Qy 1 w.ts.tail then .ok {w with ts:=w.ts.tail.tail,vals:=pow1 w (Xx (Qm w.ts.tail)),pw:=true}
  else .error (Q7 fin w.ts.tail,14)
 else if Qv [43] w.ts then Yg w 43
 else if Qv [45] w.ts then Yg w 45
 else if Qv [42] w.ts then Yg w 42
 else if Qv [41] w.ts then close fin w
 else if Qv [44] w.ts then Rz fin w
 else .error (Q7 fin w.ts,14)
def step (fin:Nat)(w:RW):MR:=if w.want then Qn fin w else behind fin w
def fate (fin:Nat)(w:RW):MR:=if w.want||decide (0<w.depth) then .error (fin,14) else .ok w
inductive Run (fin:Nat):RW->MR->Prop
 |fin (w:RW):w.ts=[]->Run fin w (fate fin w)
 |go (w w':RW) (r:MR):w.ts≠[]->step fin w=.ok w'->Run fin w' r->Run fin w r
 |stop (w:RW) (e:Nat×Nat):w.ts≠[]->step fin w=.error e->Run fin w (.error e)
theorem Z6 {l:Nat}{o:Op}{S:List Op}{V:List Ex}(h:lev o.kind<l):red l (o::S) V=(o::S,V):=by
 unfold red;rw[if_pos h]
theorem Dz {l:Nat}{o:Op}{S:List Op}{a:Ex}{V:List Ex}(h:o.kind=110)(hl:l<=3):red l (o::S) (a::V)=red l S (.neg a::V):=by
 conv=>lhs;unfold red
 rw[if_neg (by rw[h];show ¬3<l;omega),if_pos h]
theorem Tm {l:Nat}{o:Op}{S:List Op}{a b:Ex}{V:List Ex}(h:o.kind≠110)(hl:l<=lev o.kind):red l (o::S) (b::a::V)=red l S (bin o.kind a b::V):=by
 conv=>lhs;unfold red
 rw[if_neg (by omega),if_neg h]
theorem Qpr {l l':Nat}(h:l<=l'):∀(S:List Op) (V:List Ex),red l (red l' S V).1 (red l' S V).2=red l S V:=by
 intro S
 induction S with
 |nil=>intro V;rfl
 |cons o S ih=>
  intro V;by_cases h1:lev o.kind<l'
  ·rw[Z6 h1]
  ·by_cases h2:o.kind=110
   ·match V with
    | []=>
     have e:red l' (o::S) []=(o::S,[]):=by unfold red;rw[if_neg h1,if_pos h2]
     rw[e]
    |a::V=>
     have e:red l' (o::S) (a::V)=red l' S (.neg a::V):=by conv=>lhs;unfold red;rw[if_neg h1,if_pos h2]
     have e2:red l (o::S) (a::V)=red l S (.neg a::V):=by conv=>lhs;unfold red;rw[if_neg (by omega),if_pos h2]
     rw[e,e2];exact ih _
   ·match V with
    | []=>
     have e:red l' (o::S) []=(o::S,[]):=by unfold red;rw[if_neg h1,if_neg h2]
     rw[e]
    | [a]=>
     have e:red l' (o::S) [a]=(o::S,[a]):=by unfold red;rw[if_neg h1,if_neg h2]
     rw[e]
    |b::a::V=>
     have e:red l' (o::S) (b::a::V)=red l' S (bin o.kind a b::V):=by conv=>lhs;unfold red;rw[if_neg h1,if_neg h2]
     have e2:red l (o::S) (b::a::V)=red l S (bin o.kind a b::V):=by conv=>lhs;unfold red;rw[if_neg (by omega),if_neg h2]
     rw[e,e2];exact ih _
theorem Sg {l l':Nat}(h:l<=l'){S S1:List Op}{V V1:List Ex}(e:red l' S V=(S1,V1)):red l S V=red l S1 V1:=by
 rw[<-Qpr h S V,e]
theorem Qw7 {fin f:Nat}{s:St}{r:Except (Nat×Nat) (MatV×St)}(h:X6 fin f s=some r):X6 fin (s.ts.length+3) s=some r:=by
 have E:=W7 fin (s.ts.length+3) (s:=s) (Nat.le_refl _) (Nat.le_refl _);rcases hL:X6 fin (s.ts.length+3) s with- |r'
 ·rw[hL]at E;exact E.elim
 ·rw[Ev.one (fun f=>Cu fin f s) ⟨_,h⟩ ⟨_,hL⟩]
theorem Qw4 {fin f:Nat}{s:St}{r:Except (Nat×Nat) (List (List Nat)×St)}(h:Xg fin f s=some r):Xg fin (s.ts.length+2) s=some r:=by
 have E:=Vt fin (s.ts.length+2) (s:=s) (Nat.le_refl _) (Nat.le_refl _);rcases hL:Xg fin (s.ts.length+2) s with- |r'
 ·rw[hL]at E;exact E.elim
 ·rw[Ev.one (fun f=>Ec fin f s) ⟨_,h⟩ ⟨_,hL⟩]
structure Nx (l:Nat) (pw:Bool) (ts:List Tok):Prop where
 turn:Qv [39] ts=true->pw=true
 pow:Qv [94] ts=true->pw=true
 mul:l<=2->Qv [42] ts=false
 add:l<=1->Qv [43] ts=false/\Qv [45] ts=false
def Qmx (fin l:Nat)(s:St)(S0:List Op)(V0:List Ex)(pw:Bool)(S:List Op)(V:List Ex)(r:Except (Nat×Nat) (Ex×St)):Prop:=
 match r with
 | .error e=>Run fin ⟨s.ts,V0,S0,true,pw,s.opened⟩ (.error e)
 | .ok (e,s')=>s'.opened=s.opened/\ ∃S' V' pw',(∀R,Run fin ⟨s'.ts,V',S',false,pw',s'.opened⟩ R->Run fin ⟨s.ts,V0,S0,true,pw,s.opened⟩ R)/\red l S' V'=(S,e::V)/\Nx l pw' s'.ts
def Goes (fin l:Nat)(s:St)(S:List Op)(V:List Ex)(r:Except (Nat×Nat) (Ex×St)):Prop:=∀pw,Qmx fin l s S V pw S V r
def Kb (fin l:Nat)(s:St)(S0:List Op)(V0:List Ex)(pw:Bool)(S:List Op)(V:List Ex)(r:Except (Nat×Nat) (Ex×St)):Prop:=
 match r with
 | .error e=>Run fin ⟨s.ts,V0,S0,false,pw,s.opened⟩ (.error e)
 | .ok (e,s')=>s'.opened=s.opened/\ ∃S' V' pw',(∀R,Run fin ⟨s'.ts,V',S',false,pw',s'.opened⟩ R->Run fin ⟨s.ts,V0,S0,false,pw,s.opened⟩ R)/\red l S' V'=(S,e::V)/\Nx l pw' s'.ts
def Qhg (fin:Nat)(s:St)(S:List Op)(V:List Ex)(pw:Bool)(r:Except (Nat×Nat) (Ex×St)):Prop:=
 match r with
 | .error e=>Run fin ⟨s.ts,V,S,true,pw,s.opened⟩ (.error e)
 | .ok (e,s')=>s'.opened=s.opened/\(∀R,Run fin ⟨s'.ts,e::V,S,false,false,s'.opened⟩ R->Run fin ⟨s.ts,V,S,true,pw,s.opened⟩ R)
def Post (fin:Nat)(s:St)(S:List Op)(V:List Ex)(r:Except (Nat×Nat) (Ex×St)):Prop:=∀pw,Qhg fin s S V pw r
def pushL (ks:Exs)(V:List Ex):List Ex:=
 match ks with
 | .nil=>V
 | .cons a l=>pushL l (a::V)
def Qm9 (fin:Nat)(s:St)(o:Op)(S:List Op)(V:List Ex)(pw:Bool)(r:Except (Nat×Nat) (Exs×St)):Prop:=
 match r with
 | .error e=>Run fin ⟨s.ts,V,o::S,true,pw,s.opened⟩ (.error e)
 | .ok (ks,s')=>s'.opened=s.opened/\ ∃S' V' pw' n,(∀R,Run fin ⟨s'.ts,V',S',false,pw',s'.opened⟩ R->Run fin ⟨s.ts,V,o::S,true,pw,s.opened⟩ R)/\
   red 1 S' V'=({o with args:=o.args+n}::S,pushL ks V)/\Exs.len ks=n+1/\Nx 1 pw' s'.ts/\Qv [44] s'.ts=false
def Qg7 (fin:Nat)(s:St)(o:Op)(S:List Op)(V:List Ex)(r:Except (Nat×Nat) (Exs×St)):Prop:=∀pw,Qm9 fin s o S V pw r
def Qmg (fin:Nat)(s:St)(o:Op)(S:List Op)(V:List Ex)(S0:List Op)(V0:List Ex)(pw:Bool)(r:Except (Nat×Nat) (Exs×St)):Prop:=
 match r with
 | .error e=>Run fin ⟨s.ts,V0,S0,false,pw,s.opened⟩ (.error e)
 | .ok (ks',s')=>s'.opened=s.opened/\ ∃S' V' pw' n',(∀R,Run fin ⟨s'.ts,V',S',false,pw',s'.opened⟩ R->Run fin ⟨s.ts,V0,S0,false,pw,s.opened⟩ R)/\
   red 1 S' V'=({o with args:=o.args+n'}::S,pushL ks' V)/\Exs.len ks'=n'+1/\Nx 1 pw' s'.ts/\Qv [44] s'.ts=false
theorem Qzg {fin:Nat}{ts:List Tok}{V:List Ex}{S:List Op}{pw:Bool}{d:Nat}(hn:Nx 1 pw ts){o:Op}{S1:List Op}{V1:List Ex}(hr:red 1 S V=(o::S1,V1))
  (hc:Qv [41] ts=true->d=0) (hm:Qv [44] ts=true-> ¬(o.kind=102\/o.kind=100)) (h0:ts=[]->0<d):Run fin ⟨ts,V,S,false,pw,d⟩ (.error (Q7 fin ts,14)):=by
 by_cases ht:ts=[]
 ·have:=Run.fin (fin:=fin) ⟨ts,V,S,false,pw,d⟩ ht
  have e:fate fin ⟨ts,V,S,false,pw,d⟩=.error (Q7 fin ts,14):=by
   subst ht;unfold fate;rw[if_pos (by simp[h0 rfl])];rfl
  rw[e]at this;exact this
 ·refine Run.stop _ _ ht ?_
  show behind fin ⟨ts,V,S,false,pw,d⟩=_;unfold behind;simp only;split
  ·rename_i h;rw[if_pos (hn.turn h)]
  ·split
   ·rename_i h;rw[if_pos (hn.pow h)]
   ·rw[if_neg (by rw[(hn.add (Nat.le_refl _)).1];decide),if_neg (by rw[(hn.add (Nat.le_refl _)).2];decide),if_neg (by rw[hn.mul (by omega)];decide)]
    split
    ·rename_i h
     unfold close;simp only[hc h,if_true]
    ·split
     ·rename_i h
      unfold Rz;simp only[hr];rw[if_neg (hm h)]
     ·rfl
structure AllRf (fin f:Nat):Prop where
 expr:∀s r,expr fin f s=some r-> ∀(o:Op) (S:List Op) (V:List Ex),lev o.kind=0->Goes fin 1 s (o::S) V r
 exprLoop:∀k s r,exprLoop fin f k s=some r-> ∀(o:Op) (S:List Op) (V:List Ex) (S0:List Op) (V0:List Ex) (pw:Bool),lev o.kind=0->red 1 S0 V0=(o::S,k::V)->Nx 2 pw s.ts->Kb fin 1 s S0 V0 pw (o::S) V r
 term:∀s r,term fin f s=some r-> ∀(o:Op) (S:List Op) (V:List Ex),lev o.kind<=1->Goes fin 2 s (o::S) V r
 termLoop:∀k s r,termLoop fin f k s=some r-> ∀(o:Op) (S:List Op) (V:List Ex) (S0:List Op) (V0:List Ex) (pw:Bool),lev o.kind<=1->red 2 S0 V0=(o::S,k::V)->Nx 3 pw s.ts->Kb fin 2 s S0 V0 pw (o::S) V r
 factor:∀s r,factor fin f s=some r-> ∀(o:Op) (S:List Op) (V:List Ex),lev o.kind<=2->Goes fin 3 s (o::S) V r
 post:∀s r,post fin f s=some r->Qv [45] s.ts=false-> ∀S V,Post fin s S V r/\ ∀e s',r=.ok (e,s')->Qv [39] s'.ts=false
 atom:∀s r,atom fin f s=some r->Qv [45] s.ts=false-> ∀S V,Post fin s S V r
 parts:∀s r,parts fin f s=some r-> ∀(o:Op) (S:List Op) (V:List Ex),(o.kind=102\/o.kind=100)->Qg7 fin s o S V r
 partsLoop:∀ks s r,partsLoop fin f ks s=some r-> ∀(o:Op) (S:List Op) (V:List Ex) (S0:List Op) (V0:List Ex) (pw:Bool) (n:Nat),(o.kind=102\/o.kind=100)->red 1 S0 V0=({o with args:=o.args+n}::S,pushL ks V)->ks.len=n+1->Nx 1 pw s.ts->Qmg fin s o S V S0 V0 pw r
theorem bind_or {α β:Type}{x:PR α}{f:α->St->PR β}{r:Except (Nat×Nat) (β×St)}(h:x.bind f=some r):(∃e,x=some (.error e)/\r=.error e)\/ ∃a s,x=some (.ok (a,s))/\f a s=some r:=by
 rcases x with- |(e|⟨a,s⟩)
 ·cases h
 ·left;refine⟨e,rfl,?_⟩;cases h;rfl
 ·right;exact⟨a,s,rfl,h⟩
theorem Xp {x y:Qx}{ts:List Tok}(h:Qv x ts=true)(hne:x≠y):Qv y ts=false:=by
 unfold Qv at h ⊢;split at h
 ·simp only[Bool.and_eq_true,beq_iff_eq]at h ⊢
  simp only[h.2,Bool.and_eq_false_iff];right;simpa using hne
 ·cases h
theorem Nw {x:Qx}{ts:List Tok}{k:Nat}(h:Qv x ts=true)(hk:k≠3):Qy k ts=false:=by
 unfold Qv at h;unfold Qy;split at h
 ·simp only[Bool.and_eq_true,beq_iff_eq]at h
  simp only[h.1]
  simpa using fun e=>hk e.symm
 ·cases h
theorem Qs {x:Qx}{ts:List Tok}(h:Qv x ts=true):ts≠[]:=by rintro rfl;cases h
theorem Jh {k:Nat}{ts:List Tok}(h:Qy k ts=true):ts≠[]:=by rintro rfl;cases h
theorem Df {k j:Nat}{ts:List Tok}(h:Qy k ts=true)(hne:k≠j):Qy j ts=false:=by
 unfold Qy at h ⊢;split at h
 ·simp only[beq_iff_eq]at h
  rw[h];simpa using hne
 ·cases h
theorem Kh:∀(ks:Exs) (k:Ex) (V:List Ex),pushL (ks.snoc k) V=k::pushL ks V
 | .nil,k,V=>rfl
 | .cons a l,k,V=>Kh l k (a::V)
theorem Ce:∀(ks:Exs) (k:Ex),(ks.snoc k).len=ks.len+1
 | .nil,k=>rfl
 | .cons a l,k=>by show (l.snoc k).len+1=_;rw[Ce l k];rfl
theorem Ht:∀(ks:Exs) (V:List Ex),pushL ks V=(exL ks).reverse++V
 | .nil,V=>rfl
 | .cons a l,V=>by show pushL l (a::V)=_;rw[Ht l];show _=(a::exL l).reverse++V;simp
theorem Qx6:∀ks:Exs,(exL ks).length=ks.len
 | .nil=>rfl
 | .cons a l=>by show (exL l).length+1=_;rw[Qx6 l];rfl
theorem El:∀ks:Exs,ofL (exL ks)=ks
 | .nil=>rfl
 | .cons a l=>by show Exs.cons a (ofL (exL l))=_;rw[El l]
theorem Qym (x:Qx)(ks:Exs)(V:List Ex){k:Nat}(h:ks.len=k):Vo x k (pushL ks V)=.call x ks::V:=by
 have e:(exL ks).reverse.length=k:=by rw[List.length_reverse,Qx6,h]
 unfold Vo;rw[Ht,List.take_left' e,List.drop_left' e,List.reverse_reverse,El]
def negO:Op:=⟨110,[],0⟩
theorem Hx {o:Op}{S:List Op}(ho:lev o.kind<=2):∀(n:Nat) (a:Ex) (V:List Ex),red 3 (List.replicate n negO++o::S) (a::V)=(o::S,negs n a::V)
 |0,a,V=>Z6 (by omega)
 |n+1,a,V=>by
  rw[List.replicate_succ,List.cons_append,Dz rfl (Nat.le_refl _),Hx ho n];rfl
theorem T7 {fin:Nat}{V:List Ex}{pw:Bool}{d:Nat}:∀(f n:Nat) (s:St) (r:Except (Nat×Nat) (Nat×St)),J0 f n s=some r->s.opened=d-> ∀S,∃j s',r=.ok (n+j,s')/\s'.opened=d/\Qv [45] s'.ts=false/\
  (∀R,Run fin ⟨s'.ts,V,List.replicate j negO++S,true,pw,d⟩ R->Run fin ⟨s.ts,V,S,true,pw,d⟩ R)
 |0,_,_,_,h,_,_=>by cases h
 |f+1,n,s,r,h,hd,S=>by
  unfold J0 at h;split at h
  ·rename_i hm
   obtain⟨j,s',e,h1,hm45,h2⟩:=T7 (V:=V) (pw:=pw) f (n+1) s.adv r h hd (negO::S);refine⟨j+1,s',by rw[e];congr 2;omega,h1,hm45,fun R hR=> ?_⟩;refine Run.go _ ⟨s.ts.tail,V,negO::S,true,pw,d⟩ R (Qs hm) ?_ (h2 R ?_)
   ·show Qn fin _=_
    unfold Qn;simp only;rw[if_neg (by rw[Nw hm (by decide)];decide),if_neg (by rw[Nw hm (by decide)];simp),if_neg (by rw[Nw hm (by decide)];decide),if_pos hm];rfl
   ·have e2:List.replicate (j+1) negO++S=List.replicate j negO++(negO::S):=by
     rw[List.replicate_succ',List.append_assoc];rfl
    rw[<-e2];exact hR
  ·rename_i hm
   cases h
   exact⟨0,s,rfl,hd,by simpa using hm,fun R hR=>hR⟩
theorem Gt {fin:Nat}{V:List Ex}{S:List Op}{d:Nat}:∀(f:Nat) (k:Ex) (s:St) (r:Except (Nat×Nat) (Ex×St)),Su f k s=some r->s.opened=d-> ∃e s',r=.ok (e,s')/\s'.opened=d/\Qv [39] s'.ts=false/\
  (∀R,Run fin ⟨s'.ts,e::V,S,false,false,d⟩ R->Run fin ⟨s.ts,k::V,S,false,false,d⟩ R)
 |0,_,_,_,h,_=>by cases h
 |f+1,k,s,r,h,hd=>by
  unfold Su at h;split at h
  ·rename_i hm
   obtain⟨e,s',e1,h1,h2,h3⟩:=Gt (V:=V) (S:=S) f (.turn k) s.adv r h hd;refine⟨e,s',e1,h1,h2,fun R hR=> ?_⟩;refine Run.go _ ⟨s.ts.tail,.turn k::V,S,false,false,d⟩ R (Qs hm) ?_ (h3 R hR);show behind fin _=_;unfold behind;simp only;rw[if_pos hm];rfl
  ·rename_i hm
   cases h
   exact⟨k,s,rfl,hd,by simpa using hm,fun R hR=>hR⟩
theorem Qmp {fin l:Nat}{s s1:St}{S S' S0:List Op}{V V' V0:List Ex}{pw pw':Bool}{r:Except (Nat×Nat) (Ex×St)}(ho:s1.opened=s.opened)
  (hr:∀R,Run fin ⟨s1.ts,V',S',false,pw',s1.opened⟩ R->Run fin ⟨s.ts,V0,S0,true,pw,s.opened⟩ R) (h:Kb fin l s1 S' V' pw' S V r):Qmx fin l s S0 V0 pw S V r:=by
 rcases r with e|⟨e,s'⟩
 ·exact hr _ h
 ·obtain⟨K,S2,V2,E,J,H,I⟩:=h
  exact⟨K.trans ho,S2,V2,E,fun R hR=>hr R (J R hR),H,I⟩
theorem Qwm {fin l:Nat}{s s1:St}{S S' S0:List Op}{V V' V0:List Ex}{pw pw':Bool}{r:Except (Nat×Nat) (Ex×St)}(ho:s1.opened=s.opened)
  (hr:∀R,Run fin ⟨s1.ts,V',S',false,pw',s1.opened⟩ R->Run fin ⟨s.ts,V0,S0,false,pw,s.opened⟩ R) (h:Kb fin l s1 S' V' pw' S V r):Kb fin l s S0 V0 pw S V r:=by
 rcases r with e|⟨e,s'⟩
 ·exact hr _ h
 ·obtain⟨K,S2,V2,E,J,H,I⟩:=h
  exact⟨K.trans ho,S2,V2,E,fun R hR=>hr R (J R hR),H,I⟩
theorem Du {fin:Nat}{ts:List Tok}{V0 V:List Ex}{S0 S:List Op}{pw:Bool}{d k:Nat}{c:UInt8}(hk:c.toNat=k)(hc:c=43\/c=45\/c=42)(hm:Qv [c] ts=true)(hr:red (lev k) S0 V0=(S,V)){R:MR}
  (h:Run fin ⟨ts.tail,V,⟨k,[],0⟩::S,true,pw,d⟩ R):Run fin ⟨ts,V0,S0,false,pw,d⟩ R:=by
 refine Run.go _ _ _ (Qs hm) ?_ h;show behind fin _=_;unfold behind;simp only
 rcases hc with rfl|rfl|rfl<;>subst hk
 ·rw[if_neg (by rw[Xp hm (by decide)];decide),if_neg (by rw[Xp hm (by decide)];decide),if_pos hm]
  show Yg _ _=_;unfold Yg;simp only;have E:red (lev 43) S0 V0=(S,V):=hr;rw[E];rfl
 ·rw[if_neg (by rw[Xp hm (by decide)];decide),if_neg (by rw[Xp hm (by decide)];decide),if_neg (by rw[Xp hm (by decide)];decide),if_pos hm]
  show Yg _ _=_;unfold Yg;simp only;have E:red (lev 45) S0 V0=(S,V):=hr;rw[E];rfl
 ·rw[if_neg (by rw[Xp hm (by decide)];decide),if_neg (by rw[Xp hm (by decide)];decide),if_neg (by rw[Xp hm (by decide)];decide),if_neg (by rw[Xp hm (by decide)];decide),if_pos hm]
  show Yg _ _=_;unfold Yg;simp only;have E:red (lev 42) S0 V0=(S,V):=hr;rw[E];rfl
end RfP
