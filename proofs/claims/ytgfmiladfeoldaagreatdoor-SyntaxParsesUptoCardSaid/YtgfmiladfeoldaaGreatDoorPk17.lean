/- Joined texts of this claim's proof: MatTW, CpxTW, RdM, RdA. -/
import Derived.Test.YtgfmiladfeoldaaGreatDoorPk1
import Derived.Test.YtgfmiladfeoldaaGreatDoorPk16
import Derived.Test.YtgfmiladfeoldaaGreatDoorPk12
set_option linter.unusedSimpArgs false
set_option linter.unusedVariables false
set_option maxRecDepth 100000
set_option maxHeartbeats 16000000
namespace Go.Proofs.YtgfmiladfeoldaaGreatDoor
open Go.RowKit NatP LexP
def IRd (w:World)(v:Value)(l:List (Bool×Nat)):Prop:=∃ao cap,v=.slice ao l.length cap/\l.length<=cap/\cap<=maxLen/\(0<l.length-> ∃g o,ao=some ⟨g,o,none⟩/\g<w.heap.size/\ ∀j p,l[j]?=some p-> ∃m xs,w.cell? ⟨g,o+j*2,none⟩=some (.bool p.1)/\w.cell? ⟨g,o+j*2+1,none⟩=some m/\Rd w m xs/\NatP.val xs=p.2/\xs.length<=67108864)
def Yw (l:List (Bool×Nat)):List Qx:=l.map fun p=>Y8 p.1 p.2
theorem Ur (neg:Bool){xs:List Nat}(hl:xs.length<=67108864)(hok:ok xs):(Y8 neg (NatP.val xs)).length<=2147483648:=by
 have h:(Zf (NatP.val xs)).length<=1342177281:=by
  unfold Zf;split
  ·simp
  ·have:=Wq (Ym hok)
   rw[List.length_map];omega
 unfold Y8;split
 ·simp only[List.length_cons];omega
 ·omega
theorem Qwy (r c:Nat)(l:List (Bool×Nat))(v:Value)(w:World)(hs:SG w)(hv:IRd w v l)(hr:r<=64)(hc:c<=64)(hn:l.length=r*c):
  Calls Tryz.prog 30 #[.agg #[.int .i64 (r:Nat),.int .i64 (c:Nat),v]] w fun e w'=>e=.returned (.tuple #[.string ⟨(Zr r c (Yw l)).toArray⟩,.int .i64 0])/\Below w.heap.size w w':=by
 have HSG:=zq hs;have HV:=zq hv;have hsz:4<w.heap.size:=World.block_lt_of_cell? w _ (hs 0 (by omega));obtain⟨ao,cap,rfl,h1,h2,h3⟩:=hv;obtain⟨n,hnn⟩:=xq l.length;rw[<-hnn]at h1 hn ⊢
 have hn4:n<=4096:=by rw[hn];exact Nat.mul_le_mul hr hc
 have HN:=zq hn;have HNN:=zq hnn;have H3:=zq h3;have HA:=zq (Qq w (.cells #[.int .i64 (r:Nat),.int .i64 (c:Nat),.slice ao n cap] 47));have hblk:=heap_alloc_new w (.cells #[.int .i64 (r:Nat),.int .i64 (c:Nat),.slice ao n cap] 47);have HBK:=zq hblk;clear hs hn hnn h3 hblk;obtain⟨i0,hi,hz0,hz1',hz2'⟩:=info_parts Tryz.infoSt;go_enter Tryz.func30,Tryz.ntmps30;go_wp2_with fail;refine(Qm6 r c n cap ao _ hr hc HN.o).mono ?_;rintro e w1 ⟨rfl,hb1⟩;have hbk1:w1.heap[w.heap.size]?=some (.cells #[.int .i64 (r:Nat),.int .i64 (c:Nat),.slice ao n cap] 47 (0,0)):=(hb1.block w.heap.size (by simp)).trans HBK.o;have HB1:Hid (Below w.heap.size w w1):=HA.o.trans (hb1.mono (by simp))
 have hw1:w.heap.size<w1.heap.size:=by have:=hb1.size;simp at this;omega
 have HBK1:=zq hbk1;have e0:w1.cell? ⟨w.heap.size,0,none⟩=some (.int .i64 (r:Nat)):=(cell_of_row w1 _ _ _ _ _ hbk1).trans rfl;have e1:w1.cell? ⟨w.heap.size,1,none⟩=some (.int .i64 (c:Nat)):=(cell_of_row w1 _ _ _ _ _ hbk1).trans rfl;have e2:w1.cell? ⟨w.heap.size,2,none⟩=some (.slice ao n cap):=(cell_of_row w1 _ _ _ _ _ hbk1).trans rfl;clear hb1 hbk1;go_wp2_with (at_make;refine wpList_make_own _ rfl _ _ 105 rfl w1.heap.size 9 i0 (.string ⟨#[]⟩) 1 Tryz.underlying105 hi hz0 hz1' _ _ _ n rfl rfl rfl (by rw[hz2'];omega) (by unfold maxLen;omega) (Nat.le_refl _) ?_);intro w2 hown2 hgrow2;have hb2:Below w1.heap.size w1 w2:=Below.grown (Below.refl _ _) hgrow2 (Nat.le_refl _) (fun k hk=>by cases hk);have HO2:=zq hown2;have HB2:=zq hb2;have f2:w2.cell? ⟨w.heap.size,2,none⟩=some (.slice ao n cap):=(hb2.cell (p:=⟨w.heap.size,2,none⟩) hw1).trans e2;clear hown2 hgrow2 hb2;go_wp2_with fail;clear e0 e1 e2 f2;go_loopw [5,7,20] (fun lv _ iv wr=> ∃i:Nat,iv=.int .i64 (i:Nat)/\i<=n/\wr.ownsRow w1.heap.size 9 1 lv i (sts (Yw (l.take i)))/\Below w1.heap.size w1 wr) (fun _ _ iv _=>(n-intOf iv).toNat)
 case atStart=>exact⟨0,rfl,Nat.zero_le _,by simpa [Yw,sts] using HO2.o,HB2.o⟩
 case round=>
  obtain⟨i,rfl,hin,hown,hbl⟩:=hrel;have HOWN:=zq hown;have HBL:=zq hbl;obtain⟨bo,bcap,rfl,hbc,hbm,hbs⟩:=Qj hown;have hz1:=hbl.size;clear hown hbl hbs;by_cases hlt:i<n
  ·obtain⟨g,o,rfl,hg,hcell⟩:=H3.o (by rw[<-HNN.o];omega)
   obtain⟨p,hp⟩:∃p,l[i]?=some p:=⟨_,List.getElem?_eq_getElem (by rw[<-HNN.o];omega)⟩;obtain⟨m,xs,c0,c1,hrd,hval,hxl⟩:=hcell i p hp;obtain⟨neg,k⟩:=p;obtain⟨mo,mcap,hme,-⟩:=hrd.2;subst hme;have hbw:Below w.heap.size w wr:=HB1.o.trans (HBL.o.mono (Nat.le_of_lt hw1));have d0:wr.cell? ⟨g,o+i*2,none⟩=some (.bool neg):=(hbw.cell (p:=⟨g,o+i*2,none⟩) hg).trans c0;have d1:wr.cell? ⟨g,o+i*2+1,none⟩=some (.slice mo xs.length mcap):=(hbw.cell (p:=⟨g,o+i*2+1,none⟩) hg).trans c1;have HRD:=zq (hrd.below hbw);have HVAL:=zq hval;have HP:=zq hp;have HBW:=zq hbw;clear c0 c1 hrd hval hp hcell hbw;have HAL:=zq (Qq wr (.cells #[.bool neg,.slice mo xs.length mcap] 62))
   have HTL:Hid ((Y8 neg k).length<=2147483648):=by
    have:=Ur neg hxl HRD.o.ok;rw[HVAL.o]at this;exact this
   go_wp2_with fail;have hsg:=(HSG.o.below HBW.o hsz).below HAL.o (Nat.lt_of_lt_of_le hsz HBW.o.size);refine(P7 neg _ xs _ hsg (HRD.o.below HAL.o) (by omega)).mono ?_;rintro e w3 ⟨rfl,hb3⟩
   have e1:Y8 neg (NatP.val xs)=Y8 neg k:=by rw[HVAL.o]
   rw[e1];obtain⟨T,hT⟩:=xq (Y8 neg k);rw[<-hT];have HT:=zq hT;have HB3:Hid (Below wr.heap.size wr w3):=HAL.o.trans (hb3.mono (by simp));have HO3:=zq (Qh HOWN.o HB3.o (Nat.le_refl _));have hz3:=HB3.o.size;clear hb3 hsg hT e1 d0 d1;go_wp2_with (at_builtin;refine wpList_append_own_at _ rfl _ _ 105 rfl w1.heap.size 9 i0 (.string ⟨#[]⟩) 1 16 Tryz.underlying105 hi hz0 hz1' hz2' rfl (by decide) _ _ _ rfl (World.ownsRow.alloc HO3.o _) ⟨w3.heap.size,0,none⟩ 1 1 [.string ⟨T.toArray⟩] rfl rfl (LexP.Qb _ _ _ _ rfl) (by simp[Value.oneCell']) (by unfold maxLen;omega) (by omega) (by simp;omega) ?_);intro v4 w4 hown4 hgrow4 _ hbk4
   have hrows:sts (Yw (l.take (i+1)))=sts (Yw (l.take i))++[.string ⟨T.toArray⟩]:=by
    rw[List.take_add_one,HP.o];simp[Yw,sts,HT.o]
   have HO4:Hid (w4.ownsRow w1.heap.size 9 1 v4 (i+1) (sts (Yw (l.take (i+1))))):=by
    show World.ownsRow _ _ _ _ _ _ _;rw[hrows];exact hown4
   have HB4:Hid (Below w1.heap.size w1 w4):=Below.grown ((HBL.o.trans (HB3.o.mono hz1)).alloc (by omega) _) hgrow4 (by simp;omega) (fun q hq=>(World.ownsRow.lt HO3.o q hq).1);clear hown4 hgrow4 hbk4 hrows;go_wp2_with fail;have hfin:w4.ownsRow w1.heap.size 9 1 v4 (i+1) (sts (Yw (l.take (i+1))))/\Below w1.heap.size w1 w4:=⟨HO4.o,HB4.o⟩
   first|exact⟨⟨i+1,rfl,by omega,hfin⟩,by simp[intOf]<;>omega⟩|exact⟨by (repeat apply Exists.intro);exact⟨⟨i+1,rfl,by omega,hfin⟩,rfl⟩,by simp[intOf]<;>omega⟩
  ·have hie:i=n:=by omega
   have htk:l.take i=l:=List.take_of_length_le (by rw[hie];exact Nat.le_of_eq HNN.o.symm);rw[htk]at HOWN;have hbk:=(HBL.o.block w.heap.size hw1).trans HBK1.o;have e0:wr.cell? ⟨w.heap.size,0,none⟩=some (.int .i64 (r:Nat)):=(cell_of_row wr _ _ _ _ _ hbk).trans rfl;have e1:wr.cell? ⟨w.heap.size,1,none⟩=some (.int .i64 (c:Nat)):=(cell_of_row wr _ _ _ _ _ hbk).trans rfl;have HBW:Hid (Below w.heap.size w wr):=HB1.o.trans (HBL.o.mono (Nat.le_of_lt hw1));have HIE:=zq hie;clear hbk htk hie;go_wp2_with fail
   have hil:(Yw l).length=r*c:=by unfold Yw;rw[List.length_map,<-HNN.o,HN.o]
   have hgrid:Calls Tryz.prog 66 #[.int .i64 (r:Nat),.int .i64 (c:Nat),.slice bo i bcap] wr (R7 (Zr r c (Yw l)) wr):=by
    by_cases h0:Yw l=[]
    ·have hi0:i=0:=by
      have:=congrArg List.length h0;rw[hil,List.length_nil,<-HN.o]at this;rw[HIE.o];exact this
     subst hi0;rw[h0];exact Qqe r c bcap bo _ (HSG.o.below HBW.o hsz) hr hc
    ·refine Qjw r c (Yw l) _ _ (SS.of_row HOWN.o) h0 hr hc hil ?_
     intro b hb;unfold Yw at hb;rw[List.mem_map]at hb;obtain⟨p,hp,rfl⟩:=hb;obtain⟨j,hj⟩:=List.getElem?_of_mem hp
     have hl0:0<l.length:=by have:=(List.getElem?_eq_some_iff.1 hj).1;omega
     obtain⟨g,o,_,_,hcell⟩:=H3.o hl0;obtain⟨m,xs,_,_,hrd,hval,hxl⟩:=hcell j p hj;have:=Ur p.1 hxl hrd.ok;rw[hval]at this;exact this
   refine hgrid.mono ?_;rintro e w5 ⟨rfl,hb5⟩;have HB5:=zq hb5;clear hb5 hgrid;go_wp2_with fail;go_ret2;exact⟨rfl,HBW.o.trans (HB5.o.mono HBW.o.size)⟩
def Sl (w:World)(v:Value)(n:Nat)(R:Nat->Value->Prop):Prop:=∃ao cap,v=.slice ao n cap/\n<=cap/\cap<=maxLen/\(0<n-> ∃g o,ao=some ⟨g,o,none⟩/\g<w.heap.size/\ ∀j,j<n-> ∃u,w.cell? ⟨g,o+j,none⟩=some u/\R j u)
theorem Sl.mono {w w':World}{v:Value}{n:Nat}{R R':Nat->Value->Prop}(h:Sl w v n R)(hb:Below w.heap.size w w')(hr:∀j u,R j u->R' j u):Sl w' v n R':=by
 obtain⟨ao,E,e,H,J,I⟩:=h;refine⟨ao,E,e,H,J,fun h0=> ?_⟩;obtain⟨g,o,rfl,a2,a3⟩:=I h0;refine⟨g,o,rfl,Nat.lt_of_lt_of_le a2 hb.size,fun j hj=> ?_⟩;obtain⟨u,b1,b2⟩:=a3 j hj;exact⟨u,(hb.cell (p:=⟨g,o+j,none⟩) a2).trans b1,hr j u b2⟩
def NRd (w:World)(v:Value)(n:Nat):Prop:=∃xs,Rd w v xs/\NatP.val xs=n/\xs.length<=67108864
theorem NRd.below {w w':World}{v:Value}{n:Nat}(h:NRd w v n)(hb:Below w.heap.size w w'):NRd w' v n:=by
 obtain⟨xs,E,I,H⟩:=h;exact⟨xs,E.below hb,I,H⟩
def NsRd (w:World)(v:Value)(s:List Nat):Prop:=Sl w v s.length fun j u=> ∃n,s[j]?=some n/\NRd w u n
theorem NsRd.below {w w':World}{v:Value}{s:List Nat}(h:NsRd w v s)(hb:Below w.heap.size w w'):NsRd w' v s:=
 Sl.mono h hb fun _ _ ⟨n,a,b⟩=>⟨n,a,b.below hb⟩
def CRd (w:World)(v:Value)(l:List (List Nat)):Prop:=Sl w v l.length fun j u=> ∃s,l[j]?=some s/\NsRd w u s
theorem Gu (sep:Qx):∀(l:List Qx) (b:Qx),b∈l->b.length<=(SynP.Q8 sep l).length
 | [a],b,h=>by rw[List.mem_singleton.1 h];exact Nat.le_refl _
 |a::c::l,b,h=>by
  show b.length<=(a++sep++SynP.Q8 sep (c::l)).length;simp only[List.length_append];rcases List.mem_cons.1 h with rfl|h
  ·omega
  ·have:=Gu sep (c::l) b h;omega
def simT (s:List Nat):Qx:=SynP.Q8 [32] (s.map SynP.decT)
theorem Qv5 {xs:List Nat}(hl:xs.length<=67108864)(hok:ok xs):(SynP.decT (NatP.val xs)).length<=2147483648:=by
 have:=Ur false hl hok;rw[Te]at this;exact this
theorem Qke (l:List (List Nat))(v:Value)(w:World)(hs:SG w)(hv:CRd w v l)(hn:l.length<=134217728)(hm:∀s∈l,s.length<=134217728)(hT:(SynP.Q8 [44,32] (l.map simT)).length<=70368744177664):
  Calls Tryz.prog 67 #[v] w (R7 (SynP.cpxT l) w):=by
 have HSG:=zq hs;have HV:=zq hv;have hsz:4<w.heap.size:=World.block_lt_of_cell? w _ (hs 0 (by omega));obtain⟨ao,cap,rfl,h1,h2,h3⟩:=hv;obtain⟨n,hnn⟩:=xq l.length;rw[<-hnn]at h1 hn h3 ⊢;have HNN:=zq hnn;have H3:=zq h3;have HM:=zq hm;have HT:=zq hT;clear hs hnn h3 hm hT;obtain⟨i0,hi,hz0,hz1',hz2'⟩:=info_parts Tryz.infoSt;go_enter Tryz.func67,Tryz.ntmps67;go_wp2_with fail;go_loopw [3,5,6,8,11] (fun lv _ _ _ iv wr=> ∃i:Nat,iv=.int .i64 (i:Nat)/\i<=n/\wr.ownsRow w.heap.size 9 1 lv i (sts ((l.map simT).take i))/\Below w.heap.size w wr) (fun _ _ _ _ iv _=>(n-intOf iv).toNat)
 case atStart=>exact⟨0,rfl,Nat.zero_le _,World.ownsRow_nil _ _ _ _,Below.refl _ _⟩
 case round=>
  obtain⟨i,rfl,hin,hown,hbl⟩:=hrel;have HOWN:=zq hown;have HBL:=zq hbl;obtain⟨bo,bcap,rfl,hbc,hbm,hbs⟩:=Qj hown;have hz1:=hbl.size;clear hown hbl hbs;by_cases hlt:i<n
  ·obtain⟨g,o,rfl,hg,hcell⟩:=H3.o (by omega)
   obtain⟨u,c0,s,hsi,hsr⟩:=hcell i hlt;have d0:wr.cell? ⟨g,o+i,none⟩=some u:=(HBL.o.cell (p:=⟨g,o+i,none⟩) hg).trans c0;have HSI:=zq hsi;have hsr2:=hsr.below HBL.o;have HSR:=zq hsr2;obtain⟨so,scap,rfl,s1,s2,s3⟩:=hsr2;have hsl:=HM.o s (List.mem_of_getElem? hsi);have HS3:=zq s3;obtain⟨m,hmm⟩:=xq s.length;rw[<-hmm]at s1 hsl HS3 d0;have HMM:=zq hmm;clear c0 hsi hsr hcell s3 hmm;obtain⟨wo,rfl⟩:=xq wr;go_wp2_with fail;go_loopw [6,8,17] (fun nv _ jv wx=> ∃j:Nat,jv=.int .i64 (j:Nat)/\j<=m/\wx.ownsRow wo.heap.size 9 1 nv j (sts ((s.map SynP.decT).take j))/\Below wo.heap.size wo wx) (fun _ _ jv _=>(m-intOf jv).toNat)
   case atStart=>exact⟨0,rfl,Nat.zero_le _,World.ownsRow_nil _ _ _ _,Below.refl _ _⟩
   case round=>
    obtain⟨j,rfl,hjm,hown2,hbl2⟩:=hrel;have HOWN2:=zq hown2;have HBL2:=zq hbl2;obtain⟨no,ncap,rfl,hnc,hnm,hns⟩:=Qj hown2;have hz2:=hbl2.size;have HBW:Hid (Below w.heap.size w wr):=HBL.o.trans (hbl2.mono hz1);clear hown2 hbl2 hns;by_cases hjt:j<m
    ·obtain⟨g2,o2,rfl,hg2,hcell2⟩:=HS3.o (by omega)
     obtain⟨u,c0,k,hsk,xs,hrd,hval,hxl⟩:=hcell2 j hjt;have e0:wr.cell? ⟨g2,o2+j,none⟩=some u:=(HBL2.o.cell (p:=⟨g2,o2+j,none⟩) hg2).trans c0;have HRD:=zq (hrd.below HBL2.o);have HVAL:=zq hval;have HSK:=zq hsk
     have HTL:Hid ((SynP.decT k).length<=2147483648):=by
      have:=Qv5 hxl hrd.ok;rw[hval]at this;exact this
     obtain⟨uo,ucap,hue,-⟩:=hrd.2;subst hue;clear c0 hsk hrd hval hcell2;go_wp2_with fail;refine(S7 _ xs _ (HSG.o.below HBW.o hsz) HRD.o (by omega)).mono ?_;rintro e w3 ⟨rfl,hb3⟩;rw[HVAL.o,Pt];obtain⟨T,hT⟩:=xq (SynP.decT k);rw[<-hT];have HT2:=zq hT;have HB3:=zq hb3;have HO3:=zq (Qh HOWN2.o hb3 (Nat.le_refl _));have hz3:=hb3.size;clear hb3 hT e0;go_wp2_with (at_builtin;refine wpList_append_own_at _ rfl _ _ 105 rfl wo.heap.size 9 i0 (.string ⟨#[]⟩) 1 16 Tryz.underlying105 hi hz0 hz1' hz2' rfl (by decide) _ _ _ rfl (World.ownsRow.alloc HO3.o _) ⟨w3.heap.size,0,none⟩ 1 1 [.string ⟨T.toArray⟩] rfl rfl (LexP.Qb _ _ _ _ rfl) (by simp[Value.oneCell']) (by unfold maxLen;omega) (by omega) (by simp;omega) ?_);intro v4 w4 hown4 hgrow4 _ hbk4
     have hrows:sts ((s.map SynP.decT).take (j+1))=sts ((s.map SynP.decT).take j)++[.string ⟨T.toArray⟩]:=by
      rw[List.take_add_one,List.getElem?_map,HSK.o];simp[sts,HT2.o]
     have HO4:Hid (w4.ownsRow wo.heap.size 9 1 v4 (j+1) (sts ((s.map SynP.decT).take (j+1)))):=by
      show World.ownsRow _ _ _ _ _ _ _;rw[hrows];exact hown4
     have HB4:Hid (Below wo.heap.size wo w4):=Below.grown ((HBL2.o.trans (HB3.o.mono hz2)).alloc (by omega) _) hgrow4 (by simp;omega) (fun q hq=>(World.ownsRow.lt HO3.o q hq).1);clear hown4 hgrow4 hbk4 hrows;go_wp2_with fail;have hfin:w4.ownsRow wo.heap.size 9 1 v4 (j+1) (sts ((s.map SynP.decT).take (j+1)))/\Below wo.heap.size wo w4:=⟨HO4.o,HB4.o⟩
     first|exact⟨⟨j+1,rfl,by omega,hfin⟩,by simp[intOf]<;>omega⟩|exact⟨by (repeat apply Exists.intro);exact⟨⟨j+1,rfl,by omega,hfin⟩,rfl⟩,by simp[intOf]<;>omega⟩
    ·have hje:j=m:=by omega
     have htk:(s.map SynP.decT).take j=s.map SynP.decT:=List.take_of_length_le (by rw[hje,List.length_map];exact Nat.le_of_eq HMM.o.symm);rw[htk]at HOWN2;have hsT:simT s=SynP.Q8 [32] (s.map SynP.decT):=rfl;have HSL:Hid ((simT s).length<=70368744177664):=Nat.le_trans (Gu [44,32] (l.map simT) _ (List.mem_map_of_mem (List.mem_of_getElem? HSI.o))) HT.o;obtain⟨T,hT2⟩:=xq (simT s);have HT2:=zq hT2;have HSS:=zq (SS.of_row HOWN2.o);clear htk hsT hT2 hje;go_wp2_with fail
     have hJ:=Ml _ (s.map SynP.decT) ⟨#[32]⟩ _ HSS.o (by rw[List.length_map,<-HMM.o];omega) (by
      show (simT s).length<=_
      exact Nat.le_trans HSL.o (by omega))
     rw[show SynP.Q8 (⟨#[32]⟩:ByteArray).data.toList (s.map SynP.decT)=T from HT2.o.symm]at hJ;refine hJ.mono ?_;rintro e w3 ⟨rfl,hb3⟩;have HB3:=zq (HBL2.o.trans (hb3.mono hz2));have HO3:=zq (Qh HOWN.o HB3.o (Nat.le_refl _));have hz3:=HB3.o.size;clear hb3 hJ;go_wp2_with (at_builtin;refine wpList_append_own_at _ rfl _ _ 105 rfl w.heap.size 9 i0 (.string ⟨#[]⟩) 1 16 Tryz.underlying105 hi hz0 hz1' hz2' rfl (by decide) _ _ _ rfl (World.ownsRow.alloc HO3.o _) ⟨w3.heap.size,0,none⟩ 1 1 [.string ⟨T.toArray⟩] rfl rfl (LexP.Qb _ _ _ _ rfl) (by simp[Value.oneCell']) (by unfold maxLen;omega) (by omega) (by simp;omega) ?_);intro v4 w4 hown4 hgrow4 _ hbk4
     have hrows:sts ((l.map simT).take (i+1))=sts ((l.map simT).take i)++[.string ⟨T.toArray⟩]:=by
      rw[List.take_add_one,List.getElem?_map,HSI.o];simp[sts,HT2.o]
     have HO4:Hid (w4.ownsRow w.heap.size 9 1 v4 (i+1) (sts ((l.map simT).take (i+1)))):=by
      show World.ownsRow _ _ _ _ _ _ _;rw[hrows];exact hown4
     have HB4:Hid (Below w.heap.size w w4):=Below.grown ((HBL.o.trans (HB3.o.mono hz1)).alloc (by omega) _) hgrow4 (by simp;omega) (fun q hq=>(World.ownsRow.lt HO3.o q hq).1);clear hown4 hgrow4 hbk4 hrows;go_wp2_with fail;have hfin:w4.ownsRow w.heap.size 9 1 v4 (i+1) (sts ((l.map simT).take (i+1)))/\Below w.heap.size w w4:=⟨HO4.o,HB4.o⟩
     first|exact⟨⟨i+1,rfl,by omega,hfin⟩,by simp[intOf]<;>omega⟩|exact⟨by (repeat apply Exists.intro);exact⟨⟨i+1,rfl,by omega,hfin⟩,rfl⟩,by simp[intOf]<;>omega⟩
  ·have hie:i=n:=by omega
   have htk:(l.map simT).take i=l.map simT:=List.take_of_length_le (by rw[hie,List.length_map];exact Nat.le_of_eq HNN.o.symm);rw[htk]at HOWN;obtain⟨T,hT⟩:=xq (SynP.Q8 [44,32] (l.map simT))
   have hTl:T.length<=70368744177664:=by rw[hT];exact HT.o
   have HT2:=zq hT;have HSS:=zq (SS.of_row HOWN.o);clear htk hT hie;go_wp2_with fail
   have hJ:=Ml _ (l.map simT) ⟨#[44,32]⟩ _ HSS.o (by rw[List.length_map,<-HNN.o];omega) (by
    show (SynP.Q8 [44,32] (l.map simT)).length<=_
    exact Nat.le_trans HT.o (by omega))
   rw[show SynP.Q8 (⟨#[44,32]⟩:ByteArray).data.toList (l.map simT)=T from HT2.o.symm]at hJ;refine hJ.mono ?_;rintro e w3 ⟨rfl,hb3⟩;have HB3:=zq hb3;clear hb3 hJ;go_wp2_with fail;go_ret;refine⟨?_,HBL.o.trans (HB3.o.mono hz1)⟩
   have e:SynP.cpxT l=[123]++T++[125]:=by rw[HT2.o];rfl
   show Ending.returned (.string ((⟨#[123]⟩:ByteArray)++⟨T.toArray⟩++⟨#[125]⟩))=_;rw[e,Jl,Jl];simp
theorem Wr.weak {R:Nat}{w w':World}(h:Wr R none w w')(og:Option Nat):Wr R og w w':=⟨h.os,h.tape,h.output,h.size,fun k hk hR _=>h.block k hk hR (by simp)⟩
def KR (w:World)(R:Nat)(og:Option Nat)(v:Value)(ks:List Nat):Prop:=∃ao cap,v=.slice ao ks.length cap/\ks.length<=cap/\cap<=maxLen/\(∀q,v.ownBlock=some q->R<q/\q<w.heap.size/\og≠some q)/\(0<ks.length-> ∃g,ao=some ⟨g,0,none⟩/\ ∀j k,ks[j]?=some k->w.cell? ⟨g,j,none⟩=some (.int .i64 (k:Nat)))
theorem KR.wr {w w':World}{R:Nat}{og og':Option Nat}{v:Value}{ks:List Nat}(h:KR w R og v ks)(hw:Wr R og w w')(hm:Mv w og og'):KR w' R og' v ks:=by
 obtain⟨ao,I,rfl,T,O,E,J⟩:=h;refine⟨ao,I,rfl,T,O,fun q hq=>⟨(E q hq).1,Nat.lt_of_lt_of_le (E q hq).2.1 hw.size,fun e=> ?_⟩,fun h0=> ?_⟩
 ·rcases hm q e with h|h
  ·exact(E q hq).2.2 h
  ·have:=(E q hq).2.1;omega
 ·obtain⟨g,rfl,K⟩:=J h0
  have H:=E g rfl;exact⟨g,rfl,fun j k hj=>(World.cell?_of_block (hw.block g H.2.1 (by omega) (fun e=>H.2.2 e.symm))).trans (K j k hj)⟩
abbrev Nv:=SynP.Node×Value
def Xd (l:List Nv):List Value:=l.flatMap fun p=>[.int .i64 (p.1.op:Nat),.string ⟨p.1.text.toArray⟩,p.2]
theorem Wa (a b:List Nv):Xd (a++b)=Xd a++Xd b:=by simp[Xd]
def TkR (w:World)(R:Nat)(v:Value)(L:List Tok):Prop:=∃ao cap,v=.slice ao L.length cap/\L.length<=cap/\cap<=maxLen/\(0<L.length-> ∃g,ao=some ⟨g,0,none⟩/\g<R/\ ∀j t,L[j]?=some t->w.cell? ⟨g,j*3,none⟩=some (.int .i64 (t.1:Nat))/\w.cell? ⟨g,j*3+1,none⟩=some (.string ⟨t.2.1.toArray⟩)/\w.cell? ⟨g,j*3+2,none⟩=some (.int .i64 (t.2.2:Nat)))
theorem TkR.wr {w w':World}{R:Nat}{og:Option Nat}{v:Value}{L:List Tok}(h:TkR w R v L)(hw:Wr R og w w')(hR:R<w.heap.size)(ho:∀q,og=some q->R<q):TkR w' R v L:=by
 obtain⟨ao,I,rfl,T,O,J⟩:=h;refine⟨ao,I,rfl,T,O,fun h0=> ?_⟩;obtain⟨g,rfl,K,H⟩:=J h0;have E:=hw.block g (by omega) (by omega) (fun e=>by have:=ho g e.symm;omega);exact⟨g,rfl,K,fun j t hj=>⟨(World.cell?_of_block E).trans (H j t hj).1,(World.cell?_of_block E).trans (H j t hj).2.1,(World.cell?_of_block E).trans (H j t hj).2.2⟩⟩
def Qmk (t:Tok):Prop:=t.1=1->Je t.2.1/\0<t.2.1.length/\t.2.1.length<=67108864/\Xr t.2.1=false
structure RS (w:World) (R:Nat) (lv:Value) (L:List Tok) (fin:Nat) (a:Nat) (s:SynP.St) (nv:Value) (ns:List Nv):Prop where
 blk:w.heap[R]?=some (.cells #[lv,.int .i64 (a:Nat),.int .i64 (fin:Nat),.int .i64 (s.opened:Nat),nv] 85 (0,0))
 tks:TkR w R lv L
 drop:L.drop a=s.ts
 le:a<=L.length
 own:w.ownsRow (R+1) 43 3 nv ns.length (Xd ns)
 kids:∀p∈ns,KR w R nv.ownBlock p.2 p.1.kids
 apart:∀(i j:Nat) (p q:Nv) (k:Nat),ns[i]?=some p->ns[j]?=some q->p.2.ownBlock=some k->q.2.ownBlock=some k->i=j
 few:ns.length+s.ts.length<=134217728
 deep:s.opened<=100
 short:L.length<=67108864
 sum:(L.map fun t=>t.2.1.length+1).sum<=201326592
 good:∀t∈L,Qmk t
 sg:SG w
 sgl:4<R
theorem RS.lt {w:World}{R:Nat}{lv:Value}{L:List Tok}{fin a:Nat}{s:SynP.St}{nv:Value}{ns:List Nv}(h:RS w R lv L fin a s nv ns):R<w.heap.size:=(Array.getElem?_eq_some_iff.1 h.blk).1
theorem RS.gt {w:World}{R:Nat}{lv:Value}{L:List Tok}{fin a:Nat}{s:SynP.St}{nv:Value}{ns:List Nv}(h:RS w R lv L fin a s nv ns):∀q,nv.ownBlock=some q->R<q:=fun q hq=>by have:=h.own.lt q hq;omega
theorem RS.cells {w:World}{R:Nat}{lv:Value}{L:List Tok}{fin a:Nat}{s:SynP.St}{nv:Value}{ns:List Nv}(h:RS w R lv L fin a s nv ns):
  w.cell? ⟨R,0,none⟩=some lv/\w.cell? ⟨R,1,none⟩=some (.int .i64 (a:Nat))/\w.cell? ⟨R,2,none⟩=some (.int .i64 (fin:Nat))/\w.cell? ⟨R,3,none⟩=some (.int .i64 (s.opened:Nat))/\w.cell? ⟨R,4,none⟩=some nv:=by
 refine⟨?_,?_,?_,?_,?_⟩<;>rw[cell_of_row w R _ _ _ _ h.blk]<;>rfl
theorem RS.fro {w:World}{R:Nat}{lv:Value}{L:List Tok}{fin a:Nat}{s:SynP.St}{nv:Value}{ns:List Nv}(h:RS w R lv L fin a s nv ns)(o:Nat):w.frozen? ⟨R,o,none⟩=false:=frozen_of_row w R o _ _ h.blk
theorem RS.below {w w':World}{R:Nat}{lv:Value}{L:List Tok}{fin a:Nat}{s:SynP.St}{nv:Value}{ns:List Nv}(h:RS w R lv L fin a s nv ns)(hb:Below w.heap.size w w'):RS w' R lv L fin a s nv ns where
 blk:=(hb.block R h.lt).trans h.blk
 tks:=h.tks.wr (Wr.of_below (R:=R) (og:=nv.ownBlock) hb) h.lt h.gt
 drop:=h.drop
 le:=h.le
 own:=h.own.kept (row:=none) ⟨hb.os,hb.tape,hb.output,hb.size,fun k hk _=>hb.block k hk⟩ (by cases nv.ownBlock<;>simp)
 kids:=fun p hp=>(h.kids p hp).wr (Wr.of_below hb) (Mv.refl _ _)
 apart:=h.apart
 few:=h.few
 deep:=h.deep
 short:=h.short
 sum:=h.sum
 good:=h.good
 sg:=h.sg.below hb (Nat.lt_trans h.sgl h.lt)
 sgl:=h.sgl
theorem RS.setN {w:World}{R:Nat}{lv:Value}{L:List Tok}{fin a:Nat}{s:SynP.St}{nv:Value}{ns:List Nv}(h:RS w R lv L fin a s nv ns)(o:Nat)(u:Value)(a':Nat)(s':SynP.St)
  (hb:(#[lv,.int .i64 (a:Nat),.int .i64 (fin:Nat),.int .i64 (s.opened:Nat),nv]:Array Value).setIfInBounds o u= #[lv,.int .i64 (a':Nat),.int .i64 (fin:Nat),.int .i64 (s'.opened:Nat),nv])
  (hd:L.drop a'=s'.ts) (hl:a'<=L.length) (hf:ns.length+s'.ts.length<=134217728) (hp:s'.opened<=100):
  RS (w.setCell ⟨R,o,none⟩ u) R lv L fin a' s' nv ns/\Wr R none w (w.setCell ⟨R,o,none⟩ u):=by
 have E:=heap_setCell_same w R o #[lv,.int .i64 (a:Nat),.int .i64 (fin:Nat),.int .i64 (s.opened:Nat),nv] 85 u h.blk;have H:=Wr.of_set (R:=R) (og:=nv.ownBlock) w o u;refine⟨⟨E.trans (by rw[hb]),h.tks.wr H h.lt h.gt,hd,hl,ownsRow_setCell_below h.own (by simp) _,fun p hp=>(h.kids p hp).wr H (Mv.refl _ _),h.apart,hf,hp,h.short,h.sum,h.good,h.sg.wr H (Nat.ne_of_lt h.sgl) (fun e=>by have:=h.gt _ e;have:=h.sgl;omega),h.sgl⟩,Wr.of_set w o u⟩
theorem RS.reset {w w':World}{R:Nat}{lv:Value}{L:List Tok}{fin a:Nat}{s:SynP.St}{nv:Value}{ns:List Nv}(h:RS w R lv L fin a s nv ns)(hw:Wr R none w w'){a':Nat}{s':SynP.St}
  (hb:w'.heap[R]?=some (.cells #[lv,.int .i64 (a':Nat),.int .i64 (fin:Nat),.int .i64 (s'.opened:Nat),nv] 85 (0,0))) (hd:L.drop a'=s'.ts) (hl:a'<=L.length) (hf:ns.length+s'.ts.length<=134217728) (hp:s'.opened<=100):
  RS w' R lv L fin a' s' nv ns where
 blk:=hb
 tks:=h.tks.wr hw h.lt (fun q hq=>by cases hq)
 drop:=hd
 le:=hl
 own:=by
  refine⟨h.own.1,?_⟩;rcases h.own.2 with hn|⟨g,cap,cur,rfl,hb,hgg,rest⟩
  ·exact .inl hn
  ·exact .inr ⟨g,cap,cur,rfl,hb,(hw.block g (Array.getElem?_eq_some_iff.1 hgg).1 (by omega) (by simp)).trans hgg,rest⟩
 kids:=fun p hp=>(h.kids p hp).wr (hw.weak _) (Mv.refl _ _)
 apart:=h.apart
 few:=hf
 deep:=hp
 short:=h.short
 sum:=h.sum
 good:=h.good
 sg:=h.sg.wr hw (Nat.ne_of_lt h.sgl) (by simp)
 sgl:=h.sgl
theorem below_drewN (w:World)(n:Nat):Below w.heap.size w (w.drewN n):=⟨rfl,rfl,rfl,Nat.le_refl _,fun _ _=>rfl⟩
theorem Vk (R:Nat)(lv:Value)(L:List Tok)(fin a:Nat)(s:SynP.St)(nv:Value)(ns:List Nv)(w:World)(h:RS w R lv L fin a s nv ns):
  Calls Tryz.prog 55 #[.pointer (some ⟨R,0,none⟩)] w fun e w'=>e=.returned (.bool (decide (s.ts=[])))/\Below w.heap.size w w':=by
 have H:=zq h;obtain⟨c0,c1,-,-,-⟩:=h.cells;obtain⟨ao,cap,rfl,t1,t2,-⟩:=h.tks
 have hd:decide (L.length<=a)=decide (s.ts=[]):=by
  rw[<-h.drop];simp
 have HD:=zq hd;clear hd;clear h;go_enter Tryz.func55,Tryz.ntmps55;go_wp2_with fail;go_region;go_wp2_with fail;go_ret;exact⟨by rw[<-HD.o];rfl,⟨rfl,rfl,rfl,Nat.le_refl _,fun _ _=>rfl⟩⟩
theorem Qzh (R:Nat)(lv:Value)(L:List Tok)(fin a:Nat)(ts:List Tok)(w:World)(c0:w.cell? ⟨R,0,none⟩=some lv)(c1:w.cell? ⟨R,1,none⟩=some (.int .i64 (a:Nat)))(c2:w.cell? ⟨R,2,none⟩=some (.int .i64 (fin:Nat)))(tks:TkR w R lv L)(hdr:L.drop a=ts)(hle:a<=L.length):
  Calls Tryz.prog 109 #[.pointer (some ⟨R,0,none⟩)] w fun e w'=>e=.returned (.int .i64 (SynP.Q7 fin ts:Nat))/\Below w.heap.size w w':=by
 obtain⟨ao,cap,rfl,t1,t2,t3⟩:=tks;by_cases hn:a<L.length
 ·obtain⟨g,rfl,hg,hc⟩:=t3 (by omega)
  obtain⟨t,ht⟩:∃t,L[a]?=some t:=⟨_,List.getElem?_eq_getElem hn⟩;obtain⟨-,-,d2⟩:=hc a t ht
  have HCOL:Hid (SynP.Q7 fin ts=t.2.2):=by
   show _=_;rw[<-hdr,List.drop_eq_getElem?_toList_append,ht];rfl
  clear hc t3 hdr;go_enter Tryz.func109,Tryz.ntmps109;go_wp2_with fail;go_region;go_wp2_with fail;go_region;go_wp2_with fail;go_ret;exact⟨by rw[HCOL.o];rfl,⟨rfl,rfl,rfl,Nat.le_refl _,fun _ _=>rfl⟩⟩
 ·have HCOL:Hid (SynP.Q7 fin ts=fin):=by
   show _=_;rw[<-hdr,List.drop_eq_nil_of_le (by omega)];rfl
  clear t3 hdr;go_enter Tryz.func109,Tryz.ntmps109;go_wp2_with fail;go_region;go_wp2_with fail;go_ret;exact⟨by rw[HCOL.o];rfl,⟨rfl,rfl,rfl,Nat.le_refl _,fun _ _=>rfl⟩⟩
theorem Qyl (R:Nat)(lv:Value)(L:List Tok)(fin a:Nat)(s:SynP.St)(nv:Value)(ns:List Nv)(w:World)(h:RS w R lv L fin a s nv ns):
  Calls Tryz.prog 109 #[.pointer (some ⟨R,0,none⟩)] w fun e w'=>e=.returned (.int .i64 (SynP.Q7 fin s.ts:Nat))/\Below w.heap.size w w':=
 Qzh R lv L fin a s.ts w h.cells.1 h.cells.2.1 h.cells.2.2.1 h.tks h.drop h.le
def Uw (i kind:Nat)(x:Qx)(ts:List Tok):Bool:=match ts.drop i with|(k,t,_)::_=>k==kind && (kind !=3||t==x)| []=>false
theorem K9 (x:Qx)(ts:List Tok):Uw 0 3 x ts=SynP.Qv x ts:=by
 cases ts with
 |nil=>rfl
 |cons t l=>obtain⟨k,t,c⟩:=t;simp[Uw,SynP.Qv]
theorem Zi (x:Qx)(ts:List Tok):Uw 1 3 x ts=SynP.Qv x ts.tail:=by
 cases ts with
 |nil=>rfl
 |cons t l=>rw[<-K9];rfl
theorem Xj (k:Nat)(x:Qx)(ts:List Tok)(hk:k≠3):Uw 0 k x ts=SynP.Qy k ts:=by
 cases ts with
 |nil=>rfl
 |cons t l=>obtain⟨j,t,c⟩:=t;simp[Uw,SynP.Qy,hk]
theorem Below.drew2 {B:Nat}{w w':World}(h:Below B w w'):Below B w w'.drew.drew:=⟨h.os,h.tape,h.output,h.size,h.block⟩
theorem Qt (R : Nat) (lv : Value) (L : List Tok) (fin a : Nat) (s : SynP.St) (nv : Value) (ns : List Nv) (w : World) (h : RS w R lv L fin a s nv ns) (i kind : Nat) (x : Qx) (hi : i ≤ 1) (hk : kind ≤ 3) :
    Calls Tryz.prog 94 #[.pointer (some ⟨R, 0, none⟩), .int .i64 (i : Nat), .int .i64 (kind : Nat), .string ⟨x.toArray⟩] w fun e w' => e = .returned (.bool (Uw i kind x s.ts)) ∧ Below w.heap.size w w' := by
  have H := zq h
  obtain ⟨c0, c1, -, -, -⟩ := h.cells
  obtain ⟨ao, cap, rfl, t1, t2, t3⟩ := h.tks
  have hle := h.le
  have hsh := h.short
  by_cases hn : a + i < L.length
  · obtain ⟨g, rfl, hg, hc⟩ := t3 (by omega)
    obtain ⟨t, ht⟩ : ∃ t, L[a + i]? = some t := ⟨_, List.getElem?_eq_getElem hn⟩
    obtain ⟨d0, d1, d2⟩ := hc (a + i) t ht
    obtain ⟨tk, tt, tc⟩ := t
    have HC : Hid (Uw i kind x s.ts = (tk == kind && (kind != 3 || tt == x))) := by
      show _ = _
      unfold Uw
      rw [← h.drop, List.drop_drop, List.drop_eq_getElem?_toList_append, ht]; rfl
    have hRl := h.lt
    have hgl : g < w.heap.size := by omega
    obtain ⟨m, hm⟩ : ∃ m, m = a + i := ⟨_, rfl⟩
    have E1 : IntKind.i64.wrap ((a : Int) + (i : Int)) = (m : Int) := by rw [hm]; exact (IntWalk.i64_in _ (by omega)).trans (by omega)
    have E2 : (a : Int) + (i : Int) = (m : Int) := by omega
    rw [← hm] at d0 d1 d2 hn
    have HMM := zq hm
    clear h hc t3 ht hm
    go_enter Tryz.func94, Tryz.ntmps94
    go_wp2_with fail
    go_region
    go_wp2_with fail
    go_region
    go_wp2_with fail
    all_goals
      go_ret
      refine ⟨?_, Below.drew2 (Qq _ _)⟩
      rw [HC.o]
      show Ending.returned (Value.bool _) = Ending.returned (Value.bool _)
      congr 2
      first
        | (have q1 : tk = kind := by omega
           have q2 : kind = 3 := by omega
           subst q1; subst q2; simp)
        | (have q1 : tk = kind := by omega
           have q2 : kind ≠ 3 := by omega
           subst q1; simp [q2])
        | (have q1 : tk ≠ kind := by omega
           simp [q1])
  · have HC : Hid (Uw i kind x s.ts = false) := by
      show _ = _
      unfold Uw
      rw [← h.drop, List.drop_drop, List.drop_eq_nil_of_le (by omega)]
    have hRl := h.lt
    obtain ⟨m, hm⟩ : ∃ m, m = a + i := ⟨_, rfl⟩
    have E1 : IntKind.i64.wrap ((a : Int) + (i : Int)) = (m : Int) := by rw [hm]; exact (IntWalk.i64_in _ (by omega)).trans (by omega)
    have E2 : (a : Int) + (i : Int) = (m : Int) := by omega
    rw [← hm] at hn
    have HMM := zq hm
    clear h t3 hm
    go_enter Tryz.func94, Tryz.ntmps94
    go_wp2_with fail
    go_region
    go_wp2_with fail
    go_ret
    exact ⟨by rw [HC.o]; rfl, ⟨rfl, rfl, rfl, Nat.le_refl _, fun _ _ => rfl⟩⟩
theorem Zg (R:Nat)(lv:Value)(L:List Tok)(fin a:Nat)(s:SynP.St)(nv:Value)(ns:List Nv)(w:World)(h:RS w R lv L fin a s nv ns)(x:Qx):
  Calls Tryz.prog 168 #[.pointer (some ⟨R,0,none⟩),.string ⟨x.toArray⟩] w fun e w'=>e=.returned (.bool (SynP.Qv x s.ts))/\Below w.heap.size w w':=by
 have H:=zq h;clear h;go_enter Tryz.func168,Tryz.ntmps168;go_wp2_with fail;refine(Qt R lv L fin a s nv ns _ H.o 0 3 x (by omega) (by omega)).mono ?_;rintro e w1 ⟨rfl,hb⟩;rw[K9];have HB:=zq hb;clear hb;go_wp2_with fail;go_ret;exact⟨rfl,HB.o⟩
def Qhm (R:Nat)(lv:Value)(L:List Tok)(fin a:Nat)(s:SynP.St)(nv:Value)(ns:List Nv)(x:Qx)(w:World)(e:Ending)(w':World):Prop:=
 e=.returned (.bool (SynP.Qv x s.ts))/\Wr R none w w'/\(if SynP.Qv x s.ts then RS w' R lv L fin (a+1) s.adv nv ns else RS w' R lv L fin a s nv ns)
theorem Ns {L ts:List Tok}{a:Nat}(h:L.drop a=ts)(h0:ts≠[]):L.drop (a+1)=ts.tail/\a+1<=L.length/\ts.tail.length+1=ts.length:=by
 subst h;refine⟨by rw[List.tail_drop],?_,?_⟩
 ·rcases Nat.lt_or_ge a L.length with h|h
  ·exact h
  ·exact absurd (List.drop_eq_nil_of_le h) h0
 ·rw[List.length_tail]
  have:=List.length_pos_iff.2 h0;omega
theorem Ug {x:Qx}{ts:List Tok}(h:SynP.Qv x ts=true):ts≠[]:=fun e=>by subst e;cases h
theorem Vq {k:Nat}{ts:List Tok}(h:SynP.Qy k ts=true):ts≠[]:=fun e=>by subst e;cases h
theorem RS.adv {w:World}{R:Nat}{lv:Value}{L:List Tok}{fin a:Nat}{s:SynP.St}{nv:Value}{ns:List Nv}(h:RS w R lv L fin a s nv ns)(h0:s.ts≠[]):
  RS (w.setCell ⟨R,1,none⟩ (.int .i64 ((a+1:Nat):Int))) R lv L fin (a+1) s.adv nv ns/\Wr R none w (w.setCell ⟨R,1,none⟩ (.int .i64 ((a+1:Nat):Int))):=by
 obtain⟨q1,q2,q3⟩:=Ns h.drop h0;exact h.setN 1 _ (a+1) s.adv (by simp[SynP.St.adv]) q1 q2 (by have:=h.few;show ns.length+s.ts.tail.length<=_;omega) h.deep
theorem Zx (R:Nat)(lv:Value)(L:List Tok)(fin a:Nat)(s:SynP.St)(nv:Value)(ns:List Nv)(w:World)(h:RS w R lv L fin a s nv ns)(x:Qx):
  Calls Tryz.prog 159 #[.pointer (some ⟨R,0,none⟩),.string ⟨x.toArray⟩] w (Qhm R lv L fin a s nv ns x w):=by
 have H:=zq h;have hle:=h.le;have hsh:=h.short;clear h
 cases hm:SynP.Qv x s.ts with
 |false=>
  have HM:=zq hm;clear hm;go_enter Tryz.func159,Tryz.ntmps159;go_wp2_with fail;refine(Zg R lv L fin a s nv ns _ H.o x).mono ?_;rintro e w1 ⟨rfl,hb⟩;rw[HM.o];have HB:=zq hb;clear hb;go_wp2_with fail;go_ret
  exact⟨by rw[HM.o];rfl,Wr.of_below HB.o,by rw[if_neg (by rw[HM.o];decide)];exact H.o.below HB.o⟩
 |true=>
  have HM:=zq hm;clear hm;go_enter Tryz.func159,Tryz.ntmps159;go_wp2_with fail;refine(Zg R lv L fin a s nv ns _ H.o x).mono ?_;rintro e w1 ⟨rfl,hb⟩;rw[HM.o];have HB:=zq hb;have HS:=zq (H.o.below hb);have c1:=HS.o.cells.2.1;have f1:=HS.o.fro 1;clear hb;go_wp2_with fail;go_ret;obtain⟨g1,g2⟩:=HS.o.adv (Ug HM.o);exact⟨by rw[HM.o];rfl,(Wr.of_below HB.o).trans (Mv.refl _ _) g2,by rw[if_pos HM.o];exact g1⟩
end Go.Proofs.YtgfmiladfeoldaaGreatDoor
