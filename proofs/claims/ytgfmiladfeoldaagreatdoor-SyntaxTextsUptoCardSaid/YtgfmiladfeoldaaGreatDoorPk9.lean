import Derived.Test.YtgfmiladfeoldaaGreatDoorPk5
set_option linter.unusedSimpArgs false
set_option linter.unusedVariables false
set_option maxRecDepth 100000
set_option maxHeartbeats 16000000
open Go.Proofs.Tryz
open Option renaming none->Z,some->F
open Go.Value renaming slice->U,bool->ca
open Go.Obj renaming cells->O
open Bool renaming false->ce
namespace Go.Proofs.YtgfmiladfeoldaaGreatDoor
open Go.RowKit aw ar
variable {a b c d:Value} {g:Nat} {t:TypeId} {w:World}
theorem Yo (h:w.heap[g]?=F (O #[a,b,c,d] t (0,0))):w.cell? ⟨g,0,Z⟩=F a/\w.cell? ⟨g,1,Z⟩=F b/\w.cell? ⟨g,2,Z⟩=F c/\w.cell? ⟨g,3,Z⟩=F d/\w.frozen? ⟨g,0,Z⟩=ce/\w.frozen? ⟨g,1,Z⟩=ce/\w.frozen? ⟨g,2,Z⟩=ce/\w.frozen? ⟨g,3,Z⟩=ce:=by refine⟨?_,?_,?_,?_,aax _ _ 0 _ _ h,aax _ _ 1 _ _ h,aax _ _ 2 _ _ h,aax _ _ 3 _ _ h⟩<;>rw[aaj _ _ _ _ _ _ h]<;>rfl
theorem Qb (h:w.heap[g]?=F (O #[a,b] t (0,0))):w.cell? ⟨g,0,Z⟩=F a/\w.cell? ⟨g,1,Z⟩=F b/\w.frozen? ⟨g,0,Z⟩=ce/\w.frozen? ⟨g,1,Z⟩=ce:=by refine⟨?_,?_,aax _ _ 0 _ _ h,aax _ _ 1 _ _ h⟩<;>rw[aaj _ _ _ _ _ _ h]<;>rfl
theorem Sw (h:w.heap[g]?=F (O #[a,b,c,d] t (0,0))){a' b' c' d':Value}:((((w.setCell ⟨g,0,Z⟩ a').setCell ⟨g,1,Z⟩ b').setCell ⟨g,2,Z⟩ c').setCell ⟨g,3,Z⟩ d').heap[g]?=F (O #[a',b',c',d'] t (0,0)):=by have s0:=aao w g 0 _ t a' h;have s1:=aao _ g 1 _ t b' s0;have s2:=aao _ g 2 _ t c' s1;exact aao _ g 3 _ t d' s2
theorem No (w:World)(g:Nat)(a' b' c' d':Value):Wr g Z w ((((w.setCell ⟨g,0,Z⟩ a').setCell ⟨g,1,Z⟩ b').setCell ⟨g,2,Z⟩ c').setCell ⟨g,3,Z⟩ d'):=
 (((Wr.aD w 0 _).trans (Mv.refl _ _) (Wr.aD _ 1 _)).trans (Mv.refl _ _) (Wr.aD _ 2 _)).trans (Mv.refl _ _) (Wr.aD _ 3 _)
theorem Us {n:Nat}(h:n≠0):Ym ce n=1:=by unfold Ym;rw[if_neg h,if_neg (by decide)]
theorem Qzj {n:Nat}(h:n≠0):Ym true n= -1:=by unfold Ym;rw[if_neg h,if_pos rfl]
theorem Qcf {g1 g2:Nat}{t2:TypeId}(h1:w.heap[g1]?=F (O #[a,b] t (0,0)))(h2:w.heap[g2]?=F (O #[c,d] t2 (0,0)))(hne:g1≠g2)(a' b' c' d':Value):((((w.setCell ⟨g1,0,Z⟩ a').setCell ⟨g1,1,Z⟩ b').setCell ⟨g2,0,Z⟩ c').setCell ⟨g2,1,Z⟩ d').heap[g1]?=F (O #[a',b'] t (0,0))/\((((w.setCell ⟨g1,0,Z⟩ a').setCell ⟨g1,1,Z⟩ b').setCell ⟨g2,0,Z⟩ c').setCell ⟨g2,1,Z⟩ d').heap[g2]?=F (O #[c',d'] t2 (0,0))/\Wr g1 (F g2) w ((((w.setCell ⟨g1,0,Z⟩ a').setCell ⟨g1,1,Z⟩ b').setCell ⟨g2,0,Z⟩ c').setCell ⟨g2,1,Z⟩ d'):=by
 have s0:=aao w g1 0 _ t a' h1;have s1:=aao _ g1 1 _ t b' s0;have u0:=(aaN (w.setCell ⟨g1,0,Z⟩ a') ⟨g1,1,Z⟩ g2 b' hne.symm).trans ((aaN w ⟨g1,0,Z⟩ g2 a' hne.symm).trans h2);have u1:=aao _ g2 0 _ t2 c' u0;have u2:=aao _ g2 1 _ t2 d' u1;refine⟨?_,u2,rfl,rfl,rfl,by simp[World.setCell],fun k _ k1 k2=> ?_⟩
 ·exact(aaN _ ⟨g2,1,Z⟩ g1 d' hne).trans ((aaN _ ⟨g2,0,Z⟩ g1 c' hne).trans s1)
 have k3:k≠g2:=fun e=>k2 (by rw[e]);exact(aaN _ ⟨g2,1,Z⟩ k d' k3).trans ((aaN _ ⟨g2,0,Z⟩ k c' k3).trans ((aaN _ ⟨g1,1,Z⟩ k b' k1).trans (aaN _ ⟨g1,0,Z⟩ k a' k1)))
def Qwb:Value:=.agg #[ca ce,U Z 0 0,ca ce,U Z 0 0]
def Sh (na nb:Bool)(a b m:Nat)(w:World)(e:Ending)(w':World):Prop:=
 if b=0 then e=.returned (.tuple #[Qwb,.int .i64 4])/\Below w.heap.size w w'
 else ∃v u ps qs,e=.returned (.tuple #[.agg #[ca ((na !=nb) && decide (a / Nat.gcd a b≠0)),v,ca ce,u],.int .i64 0])/\Fr w.heap.size w' v ps/\val ps=a / Nat.gcd a b/\strip ps=ps/\ps.length<=m/\Fr w.heap.size w' u qs/\val qs=b / Nat.gcd a b/\strip qs=qs/\qs.length<=m/\Below w.heap.size w w'
theorem Qk3 (na nb:Bool){v u:Value}{xs ys:List Nat}(m:Nat)(hv:Rd w v xs)(hu:Rd w u ys)(hl:xs.length<=m)(hl2:ys.length<=m)(hm:m<=274877906944):Calls prog 124 #[.agg #[ca na,v],.agg #[ca nb,u]] w (Sh na nb (val xs) (val ys) m w):=by
 have HV:=zq hv;have HU:=zq hu;obtain⟨ao,cap,rfl,-,-,-,-⟩:=hv.2;obtain⟨bo,bn,rfl,-,-,-,-⟩:=hu.2;clear hv hu;obtain⟨w0,hw0,bp,b0,b1,b2,hsz⟩:=Zn w #[ca na,U ao xs.length cap] #[ca nb,U bo ys.length bn] #[ca ce,U Z 0 0,ca ce,U Z 0 0] 62 71;have fJ:=zq (HV.o.below bp);have jk:=zq (HU.o.below bp);have kz:=zq hw0;obtain⟨g,hg⟩:=xq w.heap.size;have HG:=zq hg;rw[<-hg]at b0 b1 b2 hsz;have B0:=zq b0;have B1:=zq b1;have B2:=zq b2;obtain⟨c10,c11,-,-⟩:=Qb b1;clear hw0 b0 b1 b2 hg;by_cases h0:val ys=0
 ·have hs:Ym nb (val ys)=0:=by unfold Ym;rw[if_pos h0]
  have HS:=zq hs;have H0:=zq h0;clear hs h0;go_enter func124,ntmps124;go_wp2_with fail;rw[<-kz.o,<-HG.o];go_wp2_with fail;refine(Ur nb jk (by omega)).mono ?_;rintro e w1 ⟨rfl,hb1⟩;rw[HS.o];have aK:=zq hb1;have j2:=(hb1.block (g+1+1) hsz).trans B2;have J2:=zq j2;obtain⟨r0,r1,r2,r3,f0,f1,f2,f3⟩:=Yo j2;clear hb1 j2 c10 c11;go_wp2_with fail;refine aaD (Yc rfl (g+1+1) 71 rfl (Sw J2) underlying71 rfl (by kernel_rfl)) rfl ?_;unfold Sh;rw[if_pos H0.o];exact⟨rfl,(No _ _ _ _ _ _).aO (bp.o.trans (aK.o.mono bp.o.size)) (bp.o.trans (aK.o.mono bp.o.size)).size (by have:=HG.o;omega) (fun k hk=>by cases hk)⟩
 have H0:=zq h0;obtain⟨be,hG⟩:=xq (Nat.gcd (val xs) (val ys))
 have NF:0<be:=by rw[hG];exact Nat.gcd_pos_of_pos_right _ (abr h0)
 have DX:be ∣ val xs:=by rw[hG];exact Nat.gcd_dvd_left _ _
 have hdy:be ∣ val ys:=by rw[hG];exact Nat.gcd_dvd_right _ _
 have hyg:val ys / be≠0:=Nat.pos_iff_ne_zero.1 (Nat.div_pos (Nat.le_of_dvd (abr h0) hdy) NF);have lT:=zq hG;have LU:=zq NF;have HDX:=zq DX;have HDY:=zq hdy;have HYG:=zq hyg;obtain⟨s,hs⟩:=xq (Ym nb (val ys))
 have hs0:(s==0)=ce:=by rw[hs];unfold Ym;rw[if_neg h0];cases nb<;>rfl
 have HS:=zq hs;have HL:=zq hl;have iG:=zq hl2;clear hs h0 hG NF DX hdy hyg hl hl2;go_enter func124,ntmps124;go_wp2_with fail;rw[<-kz.o,<-HG.o];go_wp2_with fail;refine(Ur nb jk (by have:=iG.o;omega)).mono ?_;rintro e w1 ⟨rfl,hb1⟩;rw[<-HS.o];have aK:=zq hb1;have hz1:=hb1.size;obtain⟨d0,d1,-,-⟩:=Qb ((hb1.block g (by omega)).trans B0);obtain⟨d10,d11,-,-⟩:=Qb ((hb1.block (g+1) (by omega)).trans B1);have p8:=zq (fJ.o.below hb1);have oz:=zq (jk.o.below hb1);clear hb1 c10 c11;go_wp2_with fail;refine(Qh4 na nb m p8 oz HL iG hm).mono ?_;rintro e w2 ⟨q,gs,rfl,q1,q2,q3,q4,hb2⟩;obtain⟨qo,bK,rfl,-,-,-,-⟩:=q1.1.2;rw[<-lT.o]at q2;have jR:=zq q1;have cQ:=zq q2;have tR:=zq q4;have aI:=zq (aK.o.trans (hb2.mono hz1));have hz2:=aI.o.size;obtain⟨e0,e1,-,-⟩:=Qb ((aI.o.block g (by omega)).trans B0);have k0:=Qx (Qq w2 (O #[ca ce,U qo gs.length bK] 62)) e0;have k1:=Qx (Qq w2 (O #[ca ce,U qo gs.length bK] 62)) e1;obtain⟨w3,hw3⟩:=xq (w2.alloc (O #[ca ce,U qo gs.length bK] 62));have ic:=zq (Qq w2 (O #[ca ce,U qo gs.length bK] 62));have ft:=zq (aap w2 (O #[ca ce,U qo gs.length bK] 62));rw[<-hw3]at ic ft;have oA:=zq hw3;have aV:=zq (aI.o.trans (ic.o.mono hz2));have vr:=zq (fJ.o.below aV);have HU3:=zq (jk.o.below aV);have fH:=zq (jR.o.below ic);have hz3:=aV.o.size;clear q1 q2 q3 q4 hb2 d0 d1 d10 d11 hw3;go_wp2_with fail;rw[<-oA.o];obtain⟨h7,qd⟩:=xq w2.heap.size;rw[<-qd]at ft hz2 ⊢;have PA:=zq qd;clear qd e0 e1 k0 k1
 have HGV:Hid (0<val gs):=by show 0<_;rw[cQ.o];exact LU.o
 have HLG:=zq (show gs.length<=274877906944 from aar tR hm);refine(Gr na ce vr fH.o.1 (by have:=HL.o;omega) HLG HGV (by rw[cQ.o];exact HDX.o)).mono ?_;rintro e w4 ⟨n1,ns,rfl,p1,p2,p3,p4,hb4⟩;obtain⟨no,bL,rfl,-,-,-,-⟩:=p1.1.2;rw[cQ.o]at p2 ⊢;have P1:=zq p1;have P2:=zq p2;have P3:=zq p3;have P4:=zq (aar p4 HL);obtain⟨fn,hfn⟩:=xq (((na !=ce) && decide (val xs / be≠0)));rw[<-hfn];have tK:=zq hfn;have cC:=zq (aV.o.trans (hb4.mono hz3));have yt:=cC.o.size
 have qd:h7<w4.heap.size:=by have:=hb4.size;have:=(aah.1 ft).1;omega
 have NM:=(hb4.block h7 (aah.1 ft).1).trans ft;have HK7:=zq NM;obtain⟨e10,e11,-,-⟩:=Qb ((cC.o.block (g+1) (by omega)).trans B1);obtain⟨e0,e1,-,-⟩:=Qb NM;have k0:=Qx (Qq w4 (O #[ca fn,U no ns.length bL] 62)) e0;have k1:=Qx (Qq w4 (O #[ca fn,U no ns.length bL] 62)) e1;have k10:=Qx (Qq w4 (O #[ca fn,U no ns.length bL] 62)) e10;have k11:=Qx (Qq w4 (O #[ca fn,U no ns.length bL] 62)) e11;obtain⟨w5,jJ⟩:=xq (w4.alloc (O #[ca fn,U no ns.length bL] 62));have ux:=zq (Qq w4 (O #[ca fn,U no ns.length bL] 62));have oK:=zq (aap w4 (O #[ca fn,U no ns.length bL] 62));rw[<-jJ]at ux oK;have oB:=zq jJ;have cS:=zq (cC.o.trans (ux.o.mono yt));have HU5:=zq (jk.o.below cS);have HQ5:=zq ((fH.o.below hb4).below ux);have CR:=zq (P1.o.below ux);have yu:=cS.o.size;obtain⟨h8,yb⟩:=xq w4.heap.size;have PB:=zq yb;clear p1 p2 p3 p4 hfn hb4 NM jJ e10 e11 e0 e1 yb;go_wp2_with fail;rw[<-oB.o,<-PB.o];rw[<-PB.o]at oK;clear k0 k1 k10 k11;refine(Gr nb ce HU5 HQ5.o.1 (by have:=iG.o;omega) HLG HGV (by rw[cQ.o];exact HDY.o)).mono ?_;rintro e w6 ⟨d1,ds,rfl,p1,p2,p3,p4,eV⟩;obtain⟨dd,gU,rfl,-,-,-,-⟩:=p1.1.2;rw[cQ.o]at p2 ⊢;have S1:=zq p1;have S2:=zq p2;have S3:=zq p3;have S4:=zq (aar p4 iG);obtain⟨fd,VZ⟩:=xq (((nb !=ce) && decide (val ys / be≠0)));rw[<-VZ];have LR:=zq VZ;have jg:=zq (cS.o.trans (eV.mono yu));have AV:=jg.o.size;have CS:=zq (CR.o.below eV)
 have yb:h8<w6.heap.size:=by have:=eV.size;have:=(aah.1 oK).1;omega
 have NN:=(eV.block h8 (aah.1 oK).1).trans oK;have mZ:=(jg.o.block (g+1+1) hsz).trans B2;obtain⟨e80,e81,-,-⟩:=Qb NN;obtain⟨er0,er1,er2,er3,ef0,ef1,ef2,ef3⟩:=Yo mZ;have kh:=Qq w6 (O #[ca fd,U dd ds.length gU] 62);have k80:=Qx kh e80;have k81:=Qx kh e81;have r0:=Qx kh er0;have r1:=Qx kh er1;have r2:=Qx kh er2;have r3:=Qx kh er3;have f0:=Qc kh er0 ef0;have f1:=Qc kh er1 ef1;have f2:=Qc kh er2 ef2;have f3:=Qc kh er3 ef3;clear e80 e81 er0 er1 er2 er3 ef0 ef1 ef2 ef3 mZ kh;have kP:=zq (Qq w6 (O #[ca fd,U dd ds.length gU] 62));have HK8:=zq ((kP.o.block h8 yb).trans NN);have uS:=zq (aap w6 (O #[ca fd,U dd ds.length gU] 62));obtain⟨w7,xr⟩:=xq (w6.alloc (O #[ca fd,U dd ds.length gU] 62));rw[<-xr]at kP HK8 uS;have oP:=zq xr;have uB:=zq (jg.o.trans (kP.o.mono AV));have xS:=zq (CS.o.below kP);have vh:=zq (S1.o.below kP);have hz7:=uB.o.size;obtain⟨h10,JJ⟩:=xq w6.heap.size;have FP:=zq JJ;rw[<-JJ]at uS
 have hne:h8≠h10:=by omega
 have su:=zq (bp.o.trans (uB.o.mono bp.o.size));have PF:=zq ((uB.o.block (g+1+1) hsz).trans B2);clear p1 p2 p3 p4 VZ eV NN xr JJ
 cases nb with
 |false=>
  have Oa:s=1:=by rw[HS.o];exact Us H0
  have hlt:decide (s<0)=ce:=by rw[Oa];rfl
  clear Oa;go_wp2_with fail;rw[<-oP.o];refine aaD (Yc rfl (g+1+1) 71 rfl (Sw PF) underlying71 rfl (by kernel_rfl)) rfl ?_;have hw:=No w7 (g+1+1) (ca fn) (U no ns.length bL) (ca fd) (U dd ds.length gU);unfold Sh;rw[if_neg H0.o,<-lT.o];refine⟨_,_,ns,ds,?_,⟨xS.o.1.wr hw (fun k hk=>⟨?_,by simp⟩),fun k hk=>⟨?_,?_⟩⟩,P2,P3,P4,⟨vh.o.1.wr hw (fun k hk=>⟨?_,by simp⟩),fun k hk=>⟨?_,?_⟩⟩,S2,S3,S4,hw.aO su su.o.size (by have:=HG.o;omega) (fun k hk=>by cases hk)⟩
  ·rw[tK.o,LR.o];rfl
  ·have:=(xS.o.2 k hk).1;omega
  ·have:=(xS.o.2 k hk).1;have:=bp.o.size;omega
  ·exact aal (xS.o.2 k hk).2 hw.size
  ·have:=(vh.o.2 k hk).1;omega
  ·have:=(vh.o.2 k hk).1;have:=bp.o.size;omega
  exact aal (vh.o.2 k hk).2 hw.size
 |true=>
  have Oa:s= -1:=by rw[HS.o];exact Qzj H0
  have hlt:decide (s<0)=true:=by rw[Oa];rfl
  clear Oa;go_wp2_with fail;rw[<-oP.o,<-FP.o];rw[<-oP.o]at r0 r1 r2 r3 f0 f1 f2 f3;clear k80 k81;obtain⟨y0,y1,z0,z1⟩:=Qb HK8;obtain⟨y2,y3,z2,z3⟩:=Qb uS;have cD:ns.length<=274877906944:=aar P4 hm;have gX:ds.length<=274877906944:=aar S4 hm;have b7:Below w7.heap.size w7 w7.drew:=(aaw _ _).drew;have ME:=zq (xS.o.1.below b7);have HSD:=zq (vh.o.1.below b7);have Y0:=zq (Qx b7 y0);have Y1:=zq (Qx b7 y1);have Y2:=zq (Qx b7 y2);have Y3:=zq (Qx b7 y3);have Z0:=zq (Qc b7 y0 z0);have Z1:=zq (Qc b7 y1 z1);have Z2:=zq (Qc b7 y2 z2);have Z3:=zq (Qc b7 y3 z3);clear z0 z1 z2 z3 b7 r0 r1 r2 r3 f0 f1 f2 f3
  go_region_with
   (first
    |(have hq8:=b8;go_at_call 175;refine(Qxx fd (HSD.o.below b8) gX).mono ?_;rintro e w9 ⟨t0,SZ,rfl,t1,t2,t3,t4,b9⟩;obtain⟨do2,vE,rfl,-,-,-,-⟩:=t1.1.2;have u0:=Qx b9 (Qx b8 Y0.o);have u1:=Qx b9 (Qx b8 Y1.o);have u2:=Qx b9 x2;have u3:=Qx b9 x3;have v0:=Qc b9 (Qx b8 Y0.o) (Qc b8 Y0.o Z0.o);have v1:=Qc b9 (Qx b8 Y1.o) (Qc b8 Y1.o Z1.o);have v2:=Qc b9 x2 (Qc b8 Y2.o Z2.o);have v3:=Qc b9 x3 (Qc b8 Y3.o Z3.o))
    |(go_at_call 175;refine(Qxx fn ME.o cD).mono ?_;rintro e w8 ⟨n0,rb,rfl,n1,n2,n3,n4,b8⟩;obtain⟨no2,xD,rfl,-,-,-,-⟩:=n1.1.2;have x2:=Qx b8 Y2.o;have x3:=Qx b8 Y3.o))
  all_goals
   have il:Below w7.heap.size w7 w9:=(aaw w7.heap.size w7).drew.trans (b8.trans (b9.mono b8.size));have l8:h8<w7.heap.size:=(aah.1 HK8).1;have l10:h10<w7.heap.size:=(aah.1 uS).1;have lj:g+1+1<w7.heap.size:=(aah.1 PF).1;obtain⟨m8,m10,hwr⟩:=Qcf ((il.block h8 l8).trans HK8) ((il.block h10 l10).trans uS) hne (ca (!fn && !decide (val ns=0))) (U no2 rb.length xD) (ca (!fd && !decide (val ds=0))) (U do2 SZ.length vE);have mj:=(il.block (g+1+1) lj).trans PF;have n9:=(n1.below b9);have L9:=zq n9;have MM:=zq t1;have qi:=zq (su.o.trans (il.mono su.o.size));have HZ8:Hid (w7.heap.size<=w8.heap.size):=b8.size;obtain⟨eU,YW⟩:∃eU,eU=(((w9.setCell ⟨h8,0,Z⟩ (ca (!fn && !decide (val ns=0)))).setCell ⟨h8,1,Z⟩ (U no2 rb.length xD)).setCell ⟨h10,0,Z⟩ (ca (!fd && !decide (val ds=0)))).setCell ⟨h10,1,Z⟩ (U do2 SZ.length vE):=⟨_,rfl⟩;rw[<-YW]at m8 m10 hwr ⊢;have Lz:=(hwr.block (g+1+1) (aah.1 mj).1 (by have:=PB.o;omega) (by simp;have:=FP.o;omega)).trans mj;obtain⟨r0,r1,r2,r3,f0,f1,f2,f3⟩:=Yo Lz;obtain⟨e0,e1,-,-⟩:=Qb m8;obtain⟨e2,e3,-,-⟩:=Qb m10;have HM:=zq Lz;have fO:=zq hwr;have sA:=zq n2;have tU:=zq t2;have HNS:=zq n3;have tT:=zq t3;have gY:=zq n4;have iO:=zq t4;clear b8 b9 x2 x3 u0 u1 u2 u3 v0 v1 v2 v3 y0 y1 y2 y3 il m8 m10 hwr mj Lz n9 n1 t1 YW n2 n3 n4 t2 t3 t4;go_wp2_with fail;refine aaD (Yc rfl (g+1+1) 71 rfl (Sw HM) underlying71 rfl (by kernel_rfl)) rfl ?_;have hw:=No eU (g+1+1) (ca (!fn && !decide (val ns=0))) (U no2 rb.length xD) (ca (!fd && !decide (val ds=0))) (U do2 SZ.length vE);unfold Sh;rw[if_neg H0.o,<-lT.o];have q2:=Qf ns;refine⟨_,_,rb,SZ,?_,⟨(L9.o.1.wr fO (fun k hk=>⟨?_,?_⟩)).wr hw (fun k hk=>⟨?_,by simp⟩),fun k hk=>⟨?_,?_⟩⟩,by rw[sA.o,P2.o],HNS,aar gY P4,⟨(MM.o.1.wr fO (fun k hk=>⟨?_,?_⟩)).wr hw (fun k hk=>⟨?_,by simp⟩),fun k hk=>⟨?_,?_⟩⟩,by rw[tU.o,S2.o],tT,aar iO S4,hw.aO (fO.o.aO qi qi.o.size (by have:=PB.o;have:=bp.o.size;have:=cC.o.size;omega) (fun k hk=>by cases hk;have:=FP.o;have:=bp.o.size;have:=jg.o.size;omega)) (aar qi.o.size fO.o.size) (by have:=HG.o;omega) (fun k hk=>by cases hk)⟩
   ·rw[P2.o,S2.o,tK.o,LR.o]
    have hy:=HYG.o
    cases na<;>by_cases hx:val xs / be=0<;>simp[hx,hy]
   ·have:=(L9.o.2 k hk).1;simp at this;omega
   ·have:=(L9.o.2 k hk).1;simp at this ⊢;omega
   ·have:=(L9.o.2 k hk).1;simp at this;omega
   ·have:=(L9.o.2 k hk).1;have:=su.o.size;simp at*;omega
   ·exact aal (L9.o.2 k hk).2 (aar fO.o.size hw.size)
   ·have:=(MM.o.2 k hk).1;have:=HZ8.o;omega
   ·have:=(MM.o.2 k hk).1;have:=HZ8.o;simp;omega
   ·have:=(MM.o.2 k hk).1;have:=HZ8.o;omega
   ·have:=(MM.o.2 k hk).1;have:=HZ8.o;have:=su.o.size;omega
   exact aal (MM.o.2 k hk).2 (aar fO.o.size hw.size)
end Go.Proofs.YtgfmiladfeoldaaGreatDoor
