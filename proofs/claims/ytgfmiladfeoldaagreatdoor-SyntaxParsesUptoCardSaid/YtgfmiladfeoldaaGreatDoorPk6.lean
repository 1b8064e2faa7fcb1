/- Joined texts of this claim's proof: Num5, Num6. -/
import Derived.Test.YtgfmiladfeoldaaGreatDoorPk5
import Derived.Test.YtgfmiladfeoldaaGreatDoorPk1
import Derived.Deep.RegionHeld3
set_option linter.unusedSimpArgs false
set_option linter.unusedVariables false
set_option maxRecDepth 100000
set_option maxHeartbeats 16000000
namespace Go.Proofs.YtgfmiladfeoldaaGreatDoor
open Go.RowKit NatP
theorem Rd.drop {w:World}{g o len cap n:Nat}{xs:List Nat}(h:Rd w (.slice (some ⟨g,o,none⟩) len cap) xs)(hn:n<=xs.length):Rd w (.slice (some ⟨g,o+n,none⟩) (xs.length-n) (cap-n)) (xs.drop n):=by
 obtain⟨J,ao',cap',e,O,K,E,H⟩:=h;simp only[Value.slice.injEq]at e;obtain⟨rfl,rfl,rfl⟩:=e;refine⟨fun k hk=>J k hk,_,_,by rw[List.length_drop],by rw[List.length_drop];omega,by omega,Vs E _,fun i x hx=>⟨g,o+n,rfl,?_⟩⟩;rw[List.getElem?_drop]at hx;obtain⟨g',o',e,I⟩:=H (n+i) x hx
 cases e
 rw[Nat.add_assoc];exact I
theorem Rd.none' {w:World}{g o c:Nat}(hg:g<w.heap.size)(hc:c<=maxLen):Rd w (.slice (some ⟨g,o,none⟩) 0 c) []:=
 ⟨fun k hk=>by cases hk;exact hg,_,c,rfl,Nat.zero_le _,hc,H7,fun i x h=>by simp at h⟩
theorem Rd.ok {w:World}{v:Value}{xs:List Nat}(h:Rd w v xs):ok xs:=by obtain⟨_,_,_,_,_,_,E,_⟩:=h;exact E
theorem Y3 {w0 w w':World}{g k:Nat}(h:w0.grownBy w (some g))(hg:w.grownBy w' (some k))(hk:k=g\/w0.heap.size<=k):w0.grownBy w' (some g):=by
 refine⟨hg.os.trans h.os,hg.tape.trans h.tape,hg.output.trans h.output,Nat.le_trans h.size hg.size,fun q hq hn=>(hg.block q (Nat.lt_of_lt_of_le hq h.size) ?_).trans (h.block q hq hn)⟩;rcases hk with rfl|hk
 ·exact hn
 ·intro e;cases e;omega
theorem T9 {w0 w w':World}{g:Nat}(h:w0.grownBy w (some g))(hb:Below w.heap.size w w'):w0.grownBy w' (some g):=
 ⟨hb.os.trans h.os,hb.tape.trans h.tape,hb.output.trans h.output,Nat.le_trans h.size hb.size,fun q hq hn=>(hb.block q (Nat.lt_of_lt_of_le hq h.size)).trans (h.block q hq hn)⟩
def Pp (xs ys:List Nat)(w:World)(e:Ending)(w':World):Prop:=∃g M,e=.returned (.slice (some ⟨g,0,none⟩) M.length M.length)/\w.heap.size<=g/\Blk w' g M/\M.length=(Qw xs).length+(Qw ys).length/\val M=val xs*val ys/\Below w.heap.size w w'
def Nu (n:Nat):Prop:=∀(xs ys:List Nat) (v u:Value) (w:World),xs.length+ys.length<n->Rd w v xs->Rd w u ys->Calls Tryz.prog 253 #[v,u] w (Pp xs ys w)
theorem Blk.whole {w:World}{g:Nat}{L:List Nat}(h:Blk w g L)(hc:L.length<=1099511627776):Rd w (.slice (some ⟨g,0,none⟩) L.length L.length) L:=by
 have:=h.rd (o:=0) (n:=L.length) (c:=L.length) (by omega) (Nat.le_refl _) (by unfold maxLen;omega);rw[List.drop_zero,List.take_length]at this;exact this
theorem Yx (w:World)(n:Nat):Below w.heap.size w (w.drewN n):=⟨rfl,rfl,rfl,Nat.le_refl _,fun _ _=>rfl⟩
theorem Tn {P:Program}{w:World}{ops:Array Oper}{rest:List Oper}{o:Oper}{a:Act}{Q:Exit->Act->World->Prop}(hgd:o.guard=none)(d s:Operand)(dT sT:TypeId)
  (ho:o.op=.call {callee:=.builtin .copy,args:= #[d,s],argTypes:= #[dT,sT]}) (hu:P.underlying dT=some (.slice 101)) (hsz:(P.info? 101).map (·.size)=some 1)
  (g n c sCap:Nat) (sp:Option Addr) (L cs:List Nat) (hd:a.eval d=.slice (some ⟨g,0,none⟩) n c) (hs:a.eval s=.slice sp cs.length sCap) (hB:Blk w g L) (hR:Rd w (.slice sp cs.length sCap) cs) (hn:cs.length<=n) (hnL:n<=L.length)
  (h:∀w',Hid (Blk w' g (cs++L.drop cs.length))->Hid (w.grownBy w' (some g))->wpList P ops Q rest (a.put o.dst (goInt cs.length)) w'):wpList P ops Q (o::rest) a w:=by
 by_cases h0:cs.length=0
 ·obtain rfl:cs=[]:=List.eq_nil_of_length_eq_zero h0
  refine wpList_copy_nothing hgd d s dT sT ho 101 hu hsz (some ⟨g,0,none⟩) sp n c 0 sCap hd hs (Nat.min_eq_left (Nat.zero_le _)) ?_;exact h w (show Blk _ _ _ by simpa using hB) (X1 w _)
 ·obtain⟨_,ao',cap',e,U,T,J,H⟩:=hR
  simp only[Value.slice.injEq]at e;obtain⟨rfl,-,rfl⟩:=e;obtain⟨gs,os,rfl,_⟩:=H 0 cs[0] (List.getElem?_eq_getElem (by omega))
  have I:Blk (w.setRow g ((ws L).toArray.toList.take 0++(ws cs++(ws L).toArray.toList.drop (0+(ws cs).length))).toArray) g (cs++L.drop cs.length):=by
   refine⟨?_,Gi J (Vs hB.2 _)⟩;rw[setRow_heap w g _ _ 101 _ hB.1];simp[ws]
  refine wpList_copy_own hgd d s dT sT ho 101 hu hsz g 0 n c ⟨gs,os,none⟩ cs.length sCap hd hs (ws L).toArray 101 hB.1 (ws cs) (by rw[Ze];exact(Nat.min_eq_left hn).symm) ?_ (by simp[ws];omega) (Qqi _) ?_
  ·intro j v E
   simp only[ws,List.getElem?_map,Option.map_eq_some_iff]at E;obtain⟨x,K,rfl⟩:=E;obtain⟨g',o',e,O⟩:=H j x K
   cases e
   have e2:(⟨gs,os,none⟩:Addr).add j=⟨gs,os+j,none⟩:=by unfold Addr.add;split<;>simp_all
   rw[e2];exact O
  ·rw[Ze]
   rw[Ze]at I;refine h _ I ?_;exact⟨rfl,rfl,rfl,by simp[World.setRow],fun k _ hk=>setRow_other w g k _ (fun e=>hk (by rw[e]))⟩
theorem Xs (ao:Option Addr)(n cap:Nat)(xs:List Nat)(w:World)(hr:Rd w (.slice ao n cap) xs):
  Calls Tryz.prog 273 #[.slice ao n cap] w fun e w'=>e=.returned (.slice ao (Qw xs).length (Qw xs).length)/\w=w':=by
 have h:=hr;obtain⟨_,ao',cap',e,-⟩:=h;simp only[Value.slice.injEq]at e;obtain⟨rfl,rfl,rfl⟩:=e;exact Uf _ _ _ _ hr
theorem Uu {ao:Option Addr}{n cap:Nat}{xs:List Nat}{w:World}(hr:Rd w (.slice ao n cap) xs):Rd w (.slice ao (Qw xs).length (Qw xs).length) (Qw xs):=by
 have h:=hr;obtain⟨_,ao',cap',e,-⟩:=h;simp only[Value.slice.injEq]at e;obtain⟨rfl,rfl,rfl⟩:=e;exact Pe hr
theorem Kx (g ga oa gb ob hf:Nat)(xs ys:List Nat)(w:World)(IH:Nu (xs.length+ys.length))(hL:Blk w g (List.replicate (xs.length+ys.length) 0))(hN:xs.length+ys.length<=274877906944)
  (ha:Rd w (.slice (some ⟨ga,oa,none⟩) xs.length xs.length) xs) (hb:Rd w (.slice (some ⟨gb,ob,none⟩) ys.length ys.length) ys) (hga:ga≠g) (hgb:gb≠g) (hh:hf=(xs.length+1) / 2) (hxy:ys.length<=xs.length) (h24:24<=ys.length) (h2:xs.length<2*ys.length):
  Calls Tryz.prog 276 #[.slice (some ⟨g,0,none⟩) (xs.length+ys.length) (xs.length+ys.length),.slice (some ⟨ga,oa,none⟩) xs.length xs.length,.slice (some ⟨gb,ob,none⟩) ys.length ys.length] w (Qzm xs ys g w):=by
 have hx1:hf<xs.length:=by omega
 have hy1:hf<=ys.length:=by omega
 have HH:=zq (Half.mk ha.ok hb.ok (by omega) hy1);have HI:=zq IH;have HZ:=zq hL;have HA0:=zq (ha.take (n:=hf) (c:=hf) (by omega) (Nat.le_refl _) (by omega));have HA1:=zq (ha.drop (n:=hf) (by omega));have HB0:=zq (hb.take (n:=hf) (c:=hf) hy1 (Nat.le_refl _) hy1);have hgbl:=hb.lt (k:=gb) rfl
 have hdiv:((xs.length:Int)+1) / 2=(hf:Int):=by omega
 have HB1a:=zq (hb.drop (n:=hf) (by omega));clear ha hb hL IH hh;by_cases hyh:hf<ys.length
 ·have HB1:=HB1a
  clear HB1a;go_enter Tryz.func276,Tryz.ntmps276;go_wp2_with fail;go_quiet (fail);go_wp2_with fail;go_quiet (fail);go_wp2_with fail;refine(HI.o _ _ _ _ _ (by rw[List.length_take,List.length_take];omega) (HA0.o.drewN _) (HB0.o.drewN _)).mono ?_;rintro e w1 ⟨g1,L1,rfl,hg1,hB1,hl1,hv1,hbel1⟩;have C1:Below w.heap.size w w1:=(Yx w _).trans hbel1;have hq1:w.heap.size<=g1:=hg1;have hs1:=hB1.lt;have hz1:=C1.size
  have hll1:L1.length<=274877906944:=by have q1:=Qf (xs.take hf);have q2:=Qf (ys.take hf);rw[List.length_take]at q1 q2;omega
  have R1:=zq (hB1.whole (by omega));have K1:=zq C1;have V1:=zq hv1;clear hbel1 hB1 hl1 hv1 C1 hg1;go_wp2_with fail;refine(Uf _ _ L1 _ R1.o).mono ?_;rintro e w' ⟨rfl,rfl⟩;have T1:=zq (Pe R1.o);go_wp2_with fail;refine(HI.o _ _ _ _ _ (by rw[List.length_drop,List.length_drop];omega) (HA1.o.below K1.o) (HB1.o.below K1.o)).mono ?_;rintro e w2 ⟨g2,L2,rfl,hg2,hB2,hl2,hv2,hbel2⟩;have hs2:=hB2.lt;have hz2:=hbel2.size
  have hll2:L2.length<=274877906944:=by have q1:=Qf (xs.drop hf);have q2:=Qf (ys.drop hf);rw[List.length_drop]at q1 q2;omega
  have R2:=zq (hB2.whole (by omega));have K2:Hid (Below w.heap.size w w2):=K1.o.trans (hbel2.mono hz1);have V2:=zq hv2;have T1b:=zq (T1.o.below hbel2);clear hbel2 hB2 hl2 hv2 R1 T1;go_wp2_with fail;refine(Uf _ _ L2 _ R2.o).mono ?_;rintro e w' ⟨rfl,rfl⟩;have T2:=zq (Pe R2.o);go_wp2_with fail;refine(M5 _ _ _ _ _ (HA0.o.below K2.o) (HA1.o.below K2.o) (by rw[List.length_take];omega) (by rw[List.length_drop];omega)).mono ?_;rintro e w3 ⟨g3,S1,rfl,hg3,hB3,hl3,hv3,hbel3⟩;rw[List.length_take,List.length_drop]at hl3;have hs3:=hB3.lt;have hz3:=hbel3.size;have R3:=zq (hB3.whole (by omega));have K3:Hid (Below w.heap.size w w3):=K2.o.trans (hbel3.mono (by omega));have V3:=zq hv3;have T1c:=zq (T1b.o.below hbel3);have T2c:=zq (T2.o.below hbel3);have HL3:=zq hl3;clear hbel3 hB3 hv3 R2 T2 T1b hl3;go_wp2_with fail;refine(M5 _ _ _ _ _ (HB0.o.below K3.o) (HB1.o.below K3.o) (by rw[List.length_take];omega) (by rw[List.length_drop];omega)).mono ?_;rintro e w4 ⟨g4,S2,rfl,hg4,hB4,hl4,hv4,hbel4⟩;rw[List.length_take,List.length_drop]at hl4;have hs4:=hB4.lt;have hz4:=hbel4.size;have R4:=zq (hB4.whole (by omega));have R3d:=zq (R3.o.below hbel4);have K4:Hid (Below w.heap.size w w4):=K3.o.trans (hbel4.mono (by omega));have V4:=zq hv4;have T1d:=zq (T1c.o.below hbel4);have T2d:=zq (T2c.o.below hbel4)
  have hS:S1.length+S2.length<xs.length+ys.length:=by have:=HL3.o;omega
  clear hbel4 hB4 hv4 R3 T1c T2c hl4;go_wp2_with fail;refine(HI.o _ _ _ _ _ hS R3d.o R4.o).mono ?_;rintro e w5 ⟨g5,L5,rfl,hg5,hB5,hl5,hv5,hbel5⟩;have hs5:=hB5.lt;have hz5:=hbel5.size
  have hll5:L5.length<=274877906944:=by have q1:=Qf S1;have q2:=Qf S2;omega
  have K5:Hid (Below w.heap.size w w5):=K4.o.trans (hbel5.mono (by omega))
  have V5:Hid (val L5=(val (xs.take hf)+val (xs.drop hf))*(val (ys.take hf)+val (ys.drop hf))):=by show _=_;rw[hv5,V3.o,V4.o]
  have T1e:=zq (T1d.o.below hbel5);have T2e:=zq (T2d.o.below hbel5);have hgl:=HZ.o.lt
  have n15:g1≠g5:=by omega
  have n25:g2≠g5:=by omega
  have n5g:g5≠g:=by omega
  have n1g:g1≠g:=by omega
  have n2g:g2≠g:=by omega
  have hq5:w.heap.size<=g5:=by omega
  have B5:=zq hB5;have HZ5:=zq (HZ.o.below K5.o HZ.o.lt);clear hbel5 hB5 hv5 hl5 R3d R4 T1d T2d V3 V4 HL3 hS;obtain⟨hle1,hlen1⟩:=Half.sub1 B5.o.2 V5.o V1.o;have HLE1:=zq hle1;clear hle1;go_wp2_with fail;refine(Uq g5 L5.length L5.length L5 (Qw L1) _ _ B5.o rfl (Nat.le_refl _) (by omega) T1e.o (by intro e;cases e;exact n15 rfl) hlen1 HLE1.o).mono ?_;rintro e w6 ⟨rfl,M1,hB6,hl6,hv6,hgr6⟩;have hz6:=hgr6.size;have hs6:=hB6.lt;have G6:Hid (w.grownBy w6 (some g)):=Y3 (T9 (X1 w (some g)) K5.o) hgr6 (.inr hq5);have T1f:=zq (T1e.o.kept hgr6 (by intro k hk e;cases hk;cases e;exact n15 rfl));have T2f:=zq (T2e.o.kept hgr6 (by intro k hk e;cases hk;cases e;exact n25 rfl));have HZ6:=zq (HZ5.o.kept hgr6 (by intro e;cases e;exact n5g rfl));have B6:=zq hB6;have V6:=zq hv6;obtain⟨hle2,hlen2⟩:=Half.sub2 hB6.2 V5.o V1.o V2.o hv6;have HLE2:=zq hle2;clear hle2 hB6 hv6 hgr6 T1e T2e HZ5 B5 K5;have HL6:=zq hl6
  have hlen2':(Qw L2).length<=L5.length:=by omega
  clear hl6 hlen2;go_wp2_with fail;refine(Uq g5 L5.length L5.length M1 (Qw L2) _ _ B6.o HL6.o.symm (Nat.le_refl _) (by omega) T2f.o (by intro e;cases e;exact n25 rfl) hlen2' HLE2.o).mono ?_;rintro e w7 ⟨rfl,M2,hB7,hl7,hv7,hgr7⟩;have hz7:=hgr7.size;have hs7:=hB7.lt;have G7:Hid (w.grownBy w7 (some g)):=Y3 G6.o hgr7 (.inr hq5);have T1g:=zq (T1f.o.kept hgr7 (by intro k hk e;cases hk;cases e;exact n15 rfl));have T2g:=zq (T2f.o.kept hgr7 (by intro k hk e;cases hk;cases e;exact n25 rfl));have HZ7:=zq (HZ6.o.kept hgr7 (by intro e;cases e;exact n5g rfl));have B7:=zq hB7;have V7:=zq (Half.mid V5.o V1.o V2.o V6.o hv7);have hlow:=HH.o.low_len V1.o;have hhigh:=HH.o.high_len V2.o;have hmid:=HH.o.mid_len V7.o;clear hB7 hv7 hgr7 T1f T2f HZ6 B6 G6 HLE1 HLE2 V5 V6;have hzl:(List.replicate (xs.length+ys.length) 0).length=xs.length+ys.length:=List.length_replicate;have HZL:=zq hzl;clear hzl;have HL7:Hid (M2.length=L5.length):=hl7.trans HL6.o;clear hl7;go_wp2_with ((with_reducible refine Tn (o:=⟨some 55,_,_,_,_,_⟩) rfl (.tmp 53) (.tmp 54) 59 59 rfl Tryz.underlying59 Tryz.infoW1 g (xs.length+ys.length) (xs.length+ys.length) _ _ (List.replicate (xs.length+ys.length) 0) (Qw L1) rfl rfl HZ7.o T1g.o (by omega) (by rw[HZL.o];exact Nat.le_refl _) ?_);intro w8 hB8 hgr8);have T2h:=zq (T2g.o.kept hgr8.o (by intro k hk e;cases hk;cases e;exact n2g rfl));have B7h:=zq (B7.o.kept hgr8.o (by intro e;cases e;exact n5g rfl));have G8:Hid (w.grownBy w8 (some g)):=Y3 G7.o hgr8.o (.inl rfl);have hz8:=hgr8.o.size
  have h2n:2*hf<xs.length+ys.length:=by omega
  clear hgr8 T2g B7 G7 HZ7 HZL T1g;go_wp2_with fail;refine(J7 g (2*hf) (xs.length+ys.length-2*hf) (xs.length+ys.length-2*hf) _ (Qw L2) _ _ hB8.o (by rw[List.length_append,List.length_drop,List.length_replicate];omega) (Nat.le_refl _) (by omega) T2h.o (by intro e;cases e;exact n2g rfl) hhigh).mono ?_;rintro e w9 ⟨rfl,Z,hB9,⟨hlz,htz,hcz⟩,hgr9⟩;obtain⟨hzl,hzv⟩:=HH.o.add1 rfl V1.o V2.o (by rw[List.drop_replicate]) hlz htz hcz;have B9:=zq hB9;have B7i:=zq (B7h.o.kept hgr9 (by intro e;cases e;exact n5g rfl));have G9:Hid (w.grownBy w9 (some g)):=Y3 G8.o hgr9 (.inl rfl);have ZL:=zq hzl;have ZV:=zq hzv;have R5:=zq (B7i.o.whole (by have:=HL7.o;omega));have hm2:M2.length=L5.length:=HL7.o;rw[hm2]at R5;clear hB9 hlz htz hcz hgr9 hzl hzv hB8 T2h B7h G8 hm2;go_wp2_with fail;have T5:Hid (Rd w9.drew _ (Qw M2)):=Uu (w:=w9.drew) (by exact R5.o);have hi0:(0:Int)<=(hf:Int):=Int.natCast_nonneg _
  have hcap: ¬(xs.length+ys.length=hf):=by omega
  have hi1:(hf:Int)<=((xs.length:Int)+(ys.length:Int)):=by omega
  go_region_held3 (fun _=>True) (trivial)
   (first
    |(go_at_call 273;refine(Xs _ _ _ M2 _ (by exact R5.o)).mono ?_;rintro e w' ⟨rfl,rfl⟩)
    |(go_at_call 275;refine(J7 g hf (xs.length+ys.length-hf) (xs.length+ys.length-hf) Z (Qw M2) _ _ (by exact B9.o) (by rw[ZL.o];omega) (Nat.le_refl _) (by omega) T5.o (by intro e;cases e;exact n5g rfl) hmid).mono ?_;rintro e w10 ⟨rfl,M,hB10,⟨hlm,htm,hcm⟩,hgr10⟩))
  have HF:=zq (HH.o.add2 ZL.o ZV.o V7.o hlm htm hcm);have B10:=zq hB10;have G10:Hid (w.grownBy w10 (some g)):=Y3 (Y3 G9.o (Zs w9 1 (some g)) (.inl rfl)) hgr10 (.inl rfl);clear hB10 hlm htm hcm hgr10;go_wp2_with fail;go_end0;exact⟨rfl,M,B10.o,HF.o.1,HF.o.2,G10.o⟩
 ·have hy2:ys.length<=hf:=by omega
  have HB1:Hid (Rd w (.slice (some ⟨gb,ob,none⟩) 0 0) (ys.drop hf)):=by
   show Rd _ _ _;rw[List.drop_eq_nil_of_le hy2];exact Rd.none' hgbl (by unfold maxLen;omega)
  clear HB1a hyh;go_enter Tryz.func276,Tryz.ntmps276;go_wp2_with fail;go_quiet (fail);go_wp2_with fail;go_quiet (fail);go_wp2_with fail;refine(HI.o _ _ _ _ _ (by rw[List.length_take,List.length_take];omega) (HA0.o.drewN _) (HB0.o.drewN _)).mono ?_;rintro e w1 ⟨g1,L1,rfl,hg1,hB1,hl1,hv1,hbel1⟩;have C1:Below w.heap.size w w1:=(Yx w _).trans hbel1;have hq1:w.heap.size<=g1:=hg1;have hs1:=hB1.lt;have hz1:=C1.size
  have hll1:L1.length<=274877906944:=by have q1:=Qf (xs.take hf);have q2:=Qf (ys.take hf);rw[List.length_take]at q1 q2;omega
  have R1:=zq (hB1.whole (by omega));have K1:=zq C1;have V1:=zq hv1;clear hbel1 hB1 hl1 hv1 C1 hg1;go_wp2_with fail;refine(Uf _ _ L1 _ R1.o).mono ?_;rintro e w' ⟨rfl,rfl⟩;have T1:=zq (Pe R1.o);go_wp2_with fail;refine(HI.o _ _ _ _ _ (by rw[List.length_drop,List.length_drop];omega) (HA1.o.below K1.o) (HB1.o.below K1.o)).mono ?_;rintro e w2 ⟨g2,L2,rfl,hg2,hB2,hl2,hv2,hbel2⟩;have hs2:=hB2.lt;have hz2:=hbel2.size
  have hll2:L2.length<=274877906944:=by have q1:=Qf (xs.drop hf);have q2:=Qf (ys.drop hf);rw[List.length_drop]at q1 q2;omega
  have R2:=zq (hB2.whole (by omega));have K2:Hid (Below w.heap.size w w2):=K1.o.trans (hbel2.mono hz1);have V2:=zq hv2;have T1b:=zq (T1.o.below hbel2);clear hbel2 hB2 hl2 hv2 R1 T1;go_wp2_with fail;refine(Uf _ _ L2 _ R2.o).mono ?_;rintro e w' ⟨rfl,rfl⟩;have T2:=zq (Pe R2.o);go_wp2_with fail;refine(M5 _ _ _ _ _ (HA0.o.below K2.o) (HA1.o.below K2.o) (by rw[List.length_take];omega) (by rw[List.length_drop];omega)).mono ?_;rintro e w3 ⟨g3,S1,rfl,hg3,hB3,hl3,hv3,hbel3⟩;rw[List.length_take,List.length_drop]at hl3;have hs3:=hB3.lt;have hz3:=hbel3.size;have R3:=zq (hB3.whole (by omega));have K3:Hid (Below w.heap.size w w3):=K2.o.trans (hbel3.mono (by omega));have V3:=zq hv3;have T1c:=zq (T1b.o.below hbel3);have T2c:=zq (T2.o.below hbel3);have HL3:=zq hl3;clear hbel3 hB3 hv3 R2 T2 T1b hl3;go_wp2_with fail;refine(M5 _ _ _ _ _ (HB0.o.below K3.o) (HB1.o.below K3.o) (by rw[List.length_take];omega) (by rw[List.length_drop];omega)).mono ?_;rintro e w4 ⟨g4,S2,rfl,hg4,hB4,hl4,hv4,hbel4⟩;rw[List.length_take,List.length_drop]at hl4;have hs4:=hB4.lt;have hz4:=hbel4.size;have R4:=zq (hB4.whole (by omega));have R3d:=zq (R3.o.below hbel4);have K4:Hid (Below w.heap.size w w4):=K3.o.trans (hbel4.mono (by omega));have V4:=zq hv4;have T1d:=zq (T1c.o.below hbel4);have T2d:=zq (T2c.o.below hbel4)
  have hS:S1.length+S2.length<xs.length+ys.length:=by have:=HL3.o;omega
  clear hbel4 hB4 hv4 R3 T1c T2c hl4;go_wp2_with fail;refine(HI.o _ _ _ _ _ hS R3d.o R4.o).mono ?_;rintro e w5 ⟨g5,L5,rfl,hg5,hB5,hl5,hv5,hbel5⟩;have hs5:=hB5.lt;have hz5:=hbel5.size
  have hll5:L5.length<=274877906944:=by have q1:=Qf S1;have q2:=Qf S2;omega
  have K5:Hid (Below w.heap.size w w5):=K4.o.trans (hbel5.mono (by omega))
  have V5:Hid (val L5=(val (xs.take hf)+val (xs.drop hf))*(val (ys.take hf)+val (ys.drop hf))):=by show _=_;rw[hv5,V3.o,V4.o]
  have T1e:=zq (T1d.o.below hbel5);have T2e:=zq (T2d.o.below hbel5);have hgl:=HZ.o.lt
  have n15:g1≠g5:=by omega
  have n25:g2≠g5:=by omega
  have n5g:g5≠g:=by omega
  have n1g:g1≠g:=by omega
  have n2g:g2≠g:=by omega
  have hq5:w.heap.size<=g5:=by omega
  have B5:=zq hB5;have HZ5:=zq (HZ.o.below K5.o HZ.o.lt);clear hbel5 hB5 hv5 hl5 R3d R4 T1d T2d V3 V4 HL3 hS;obtain⟨hle1,hlen1⟩:=Half.sub1 B5.o.2 V5.o V1.o;have HLE1:=zq hle1;clear hle1;go_wp2_with fail;refine(Uq g5 L5.length L5.length L5 (Qw L1) _ _ B5.o rfl (Nat.le_refl _) (by omega) T1e.o (by intro e;cases e;exact n15 rfl) hlen1 HLE1.o).mono ?_;rintro e w6 ⟨rfl,M1,hB6,hl6,hv6,hgr6⟩;have hz6:=hgr6.size;have hs6:=hB6.lt;have G6:Hid (w.grownBy w6 (some g)):=Y3 (T9 (X1 w (some g)) K5.o) hgr6 (.inr hq5);have T1f:=zq (T1e.o.kept hgr6 (by intro k hk e;cases hk;cases e;exact n15 rfl));have T2f:=zq (T2e.o.kept hgr6 (by intro k hk e;cases hk;cases e;exact n25 rfl));have HZ6:=zq (HZ5.o.kept hgr6 (by intro e;cases e;exact n5g rfl));have B6:=zq hB6;have V6:=zq hv6;obtain⟨hle2,hlen2⟩:=Half.sub2 hB6.2 V5.o V1.o V2.o hv6;have HLE2:=zq hle2;clear hle2 hB6 hv6 hgr6 T1e T2e HZ5 B5 K5;have HL6:=zq hl6
  have hlen2':(Qw L2).length<=L5.length:=by omega
  clear hl6 hlen2;go_wp2_with fail;refine(Uq g5 L5.length L5.length M1 (Qw L2) _ _ B6.o HL6.o.symm (Nat.le_refl _) (by omega) T2f.o (by intro e;cases e;exact n25 rfl) hlen2' HLE2.o).mono ?_;rintro e w7 ⟨rfl,M2,hB7,hl7,hv7,hgr7⟩;have hz7:=hgr7.size;have hs7:=hB7.lt;have G7:Hid (w.grownBy w7 (some g)):=Y3 G6.o hgr7 (.inr hq5);have T1g:=zq (T1f.o.kept hgr7 (by intro k hk e;cases hk;cases e;exact n15 rfl));have T2g:=zq (T2f.o.kept hgr7 (by intro k hk e;cases hk;cases e;exact n25 rfl));have HZ7:=zq (HZ6.o.kept hgr7 (by intro e;cases e;exact n5g rfl));have B7:=zq hB7;have V7:=zq (Half.mid V5.o V1.o V2.o V6.o hv7);have hlow:=HH.o.low_len V1.o;have hhigh:=HH.o.high_len V2.o;have hmid:=HH.o.mid_len V7.o;clear hB7 hv7 hgr7 T1f T2f HZ6 B6 G6 HLE1 HLE2 V5 V6;have hzl:(List.replicate (xs.length+ys.length) 0).length=xs.length+ys.length:=List.length_replicate;have HZL:=zq hzl;clear hzl;have HL7:Hid (M2.length=L5.length):=hl7.trans HL6.o;clear hl7;go_wp2_with ((with_reducible refine Tn (o:=⟨some 55,_,_,_,_,_⟩) rfl (.tmp 53) (.tmp 54) 59 59 rfl Tryz.underlying59 Tryz.infoW1 g (xs.length+ys.length) (xs.length+ys.length) _ _ (List.replicate (xs.length+ys.length) 0) (Qw L1) rfl rfl HZ7.o T1g.o (by omega) (by rw[HZL.o];exact Nat.le_refl _) ?_);intro w8 hB8 hgr8);have T2h:=zq (T2g.o.kept hgr8.o (by intro k hk e;cases hk;cases e;exact n2g rfl));have B7h:=zq (B7.o.kept hgr8.o (by intro e;cases e;exact n5g rfl));have G8:Hid (w.grownBy w8 (some g)):=Y3 G7.o hgr8.o (.inl rfl);have hz8:=hgr8.o.size
  have h2n:2*hf<xs.length+ys.length:=by omega
  clear hgr8 T2g B7 G7 HZ7 HZL T1g;go_wp2_with fail;refine(J7 g (2*hf) (xs.length+ys.length-2*hf) (xs.length+ys.length-2*hf) _ (Qw L2) _ _ hB8.o (by rw[List.length_append,List.length_drop,List.length_replicate];omega) (Nat.le_refl _) (by omega) T2h.o (by intro e;cases e;exact n2g rfl) hhigh).mono ?_;rintro e w9 ⟨rfl,Z,hB9,⟨hlz,htz,hcz⟩,hgr9⟩;obtain⟨hzl,hzv⟩:=HH.o.add1 rfl V1.o V2.o (by rw[List.drop_replicate]) hlz htz hcz;have B9:=zq hB9;have B7i:=zq (B7h.o.kept hgr9 (by intro e;cases e;exact n5g rfl));have G9:Hid (w.grownBy w9 (some g)):=Y3 G8.o hgr9 (.inl rfl);have ZL:=zq hzl;have ZV:=zq hzv;have R5:=zq (B7i.o.whole (by have:=HL7.o;omega));have hm2:M2.length=L5.length:=HL7.o;rw[hm2]at R5;clear hB9 hlz htz hcz hgr9 hzl hzv hB8 T2h B7h G8 hm2;go_wp2_with fail;have T5:Hid (Rd w9.drew _ (Qw M2)):=Uu (w:=w9.drew) (by exact R5.o);have hi0:(0:Int)<=(hf:Int):=Int.natCast_nonneg _
  have hcap: ¬(xs.length+ys.length=hf):=by omega
  have hi1:(hf:Int)<=((xs.length:Int)+(ys.length:Int)):=by omega
  go_region_held3 (fun _=>True) (trivial)
   (first
    |(go_at_call 273;refine(Xs _ _ _ M2 _ (by exact R5.o)).mono ?_;rintro e w' ⟨rfl,rfl⟩)
    |(go_at_call 275;refine(J7 g hf (xs.length+ys.length-hf) (xs.length+ys.length-hf) Z (Qw M2) _ _ (by exact B9.o) (by rw[ZL.o];omega) (Nat.le_refl _) (by omega) T5.o (by intro e;cases e;exact n5g rfl) hmid).mono ?_;rintro e w10 ⟨rfl,M,hB10,⟨hlm,htm,hcm⟩,hgr10⟩))
  have HF:=zq (HH.o.add2 ZL.o ZV.o V7.o hlm htm hcm);have B10:=zq hB10;have G10:Hid (w.grownBy w10 (some g)):=Y3 (Y3 G9.o (Zs w9 1 (some g)) (.inl rfl)) hgr10 (.inl rfl);clear hB10 hlm htm hcm hgr10;go_wp2_with fail;go_end0;exact⟨rfl,M,B10.o,HF.o.1,HF.o.2,G10.o⟩
theorem Nu.mono {n m:Nat}(h:Nu n)(hm:m<=n):Nu m:=fun xs ys v u w hl hv hu=>h xs ys v u w (by omega) hv hu
theorem Rd.some' {w:World}{ao:Option Addr}{n c:Nat}{xs:List Nat}(h:Rd w (.slice ao n c) xs)(h0:0<xs.length):∃g o,ao=some ⟨g,o,none⟩:=by
 obtain⟨_,ao',cap',e,_,_,_,H⟩:=h;simp only[Value.slice.injEq]at e;obtain⟨rfl,-,-⟩:=e;obtain⟨g,o,E,_⟩:=H 0 xs[0] (List.getElem?_eq_getElem h0);exact⟨g,o,E⟩
theorem V8 {w w1 w2:World}{e:Ending}{A B M xs ys:List Nat}{n:Nat}(h1:M.length=A.length+B.length)(h2:val M=val A*val B)(hn:n=M.length)(he:e=.returned (.slice (some ⟨w.heap.size,0,none⟩) n n))(hB:Blk w2 w.heap.size M)(hb:Below w.heap.size w w1)(hg:w1.grownBy w2 (some w.heap.size))
  (hAB:(A=Qw xs/\B=Qw ys)\/(A=Qw ys/\B=Qw xs)):Pp xs ys w e w2:=by
 subst hn;refine⟨_,M,he,Nat.le_refl _,hB,?_,?_,Below.grown hb hg hb.size (fun k hk=>by cases hk;exact Nat.le_refl _)⟩
 ·rcases hAB with ⟨rfl,rfl⟩|⟨rfl,rfl⟩
  ·exact h1
  ·rw[h1,Nat.add_comm]
 ·rcases hAB with ⟨rfl,rfl⟩|⟨rfl,rfl⟩
  ·rw[h2,Ql,Ql]
  ·rw[h2,Ql,Ql,Nat.mul_comm]
def Qz0 (A B:List Nat)(g:Nat)(w1:World)(i:Value)(wr:World):Prop:=∃(k:Nat) (M:List Nat),i=.int .i64 (k:Nat)/\k<=A.length+B.length/\Blk wr g M/\PiSt A B (min k A.length) M/\w1.grownBy wr (some g)
theorem Qj3 (n:Nat)(IH:Nu n)(hn:n<=274877906944)(xs ys:List Nat)(v u:Value)(w:World)(hl:xs.length+ys.length<=n)(hv:Rd w v xs)(hu:Rd w u ys):
  Calls Tryz.prog 253 #[v,u] w (Pp xs ys w):=by
 have HV:=zq hv;have HU:=zq hu;obtain⟨_,ao,cap,rfl,-⟩:=hv;obtain⟨_,bo,cap2,rfl,-⟩:=hu;have TA:=zq (Uu HV.o);have TB:=zq (Uu HU.o);have q1:=Qf xs;have q2:=Qf ys;have HI:=zq IH;obtain⟨X,hX⟩:=xq (Qw xs);obtain⟨Y,hY⟩:=xq (Qw ys);rw[<-hX]at TA q1;rw[<-hY]at TB q2;have HX:=zq hX;have HY:=zq hY;clear IH hX hY;by_cases hsw:X.length<Y.length
 ·have h21:X.length<=Y.length:=by omega
  have HAB:Hid ((Y=Qw xs/\X=Qw ys)\/(Y=Qw ys/\X=Qw xs)):=.inr ⟨HY.o,HX.o⟩;have HMK:∀w:World,(Instr.makeSlice 59 (.int .i64 ((Y.length:Int)+(X.length:Int))) (.int .i64 ((Y.length:Int)+(X.length:Int)))).run Tryz.prog w=.ok (.slice (some ⟨w.heap.size,0,none⟩) (Y.length+X.length) (Y.length+X.length)) (w.alloc (.cells (madeCells #[.int .u64 0] (Y.length+X.length)) 101)):=Zq (Y.length+X.length) (by omega);have HZ:=zq (Blk.made w (Y.length+X.length));have HBL:=zq (Qq w (.cells (madeCells #[.int .u64 0] (Y.length+X.length)) 101));have NA:=zq (TB.o.ne (Nat.le_refl w.heap.size));have NB:=zq (TA.o.ne (Nat.le_refl w.heap.size));have RA:=zq (TB.o.below HBL.o);have RB:=zq (TA.o.below HBL.o);by_cases h24:X.length<24
  ·go_enter Tryz.func253,Tryz.ntmps253
   go_wp2_with fail;refine(Xs _ _ _ xs _ HV.o).mono ?_;rintro e w' ⟨rfl,rfl⟩;rw[<-HX.o];go_wp2_with fail;refine(Xs _ _ _ ys _ HU.o).mono ?_;rintro e w' ⟨rfl,rfl⟩;rw[<-HY.o];go_wp2_with fail;refine(Bx w.heap.size (Y.length+X.length) Y X _ _ _ HZ.o rfl (by omega) RA.o NA.o RB.o NB.o).mono ?_;rintro e w2 ⟨rfl,M,hM,hml,hmv,hgr⟩;have HM:=zq hM;have HML:=zq hml;have HMV:=zq hmv;have HGR:=zq hgr;clear hM hml hmv hgr;go_wp2_with fail;go_ret;exact V8 HML.o HMV.o HML.o.symm rfl HM.o HBL.o HGR.o HAB.o
  obtain⟨ga,oa,hao⟩:=TB.o.some' (by omega);obtain⟨gb,ob,hbo⟩:=TA.o.some' (by omega);subst hao hbo;have hga:ga≠w.heap.size:=fun e=>NA.o (by rw[e];rfl);have hgb:gb≠w.heap.size:=fun e=>NB.o (by rw[e];rfl)
  have d1:decide ((X.length:Int)<24)=false:=by simp;omega
  by_cases hbig:2*X.length<=Y.length
  ·have d2:decide (2*(X.length:Int)<=(Y.length:Int))=true:=by simp;omega
   go_enter Tryz.func253,Tryz.ntmps253;go_wp2_with fail;refine(Xs _ _ _ xs _ HV.o).mono ?_;rintro e w' ⟨rfl,rfl⟩;rw[<-HX.o];go_wp2_with fail;refine(Xs _ _ _ ys _ HU.o).mono ?_;rintro e w' ⟨rfl,rfl⟩;rw[<-HY.o];go_wp2_with fail;generalize w.alloc (.cells (madeCells #[.int .u64 0] (Y.length+X.length)) 101)=w1 at*;go_loopw [6] (fun i wr=>Qz0 Y X w.heap.size w1 i wr) (fun i _=>Y.length-(intOf i).toNat)
   case atStart=>exact⟨0,_,rfl,Nat.zero_le _,HZ.o,by rw[Nat.zero_min];exact PiSt.start Y X,X1 w1 _⟩
   case round=>
    obtain⟨k,M,rfl,hk,hM,hst,hgr⟩:=hrel;have HM:=zq hM;have HST:=zq hst;have HGR:=zq hgr;have hwz:=hgr.size;have hwb:=HBL.o.size;have hgw:=hM.lt;clear hM hst hgr;by_cases hlt:k<Y.length
    ·obtain⟨e,he⟩:=xq (min (k+X.length) Y.length)
     have hke:k<=e:=by omega
     have hea:e<=Y.length:=by omega
     have hkl:e-k<=X.length:=by omega
     have hmin:min ((k:Int)+(X.length:Int)) (Y.length:Int)=(e:Int):=by omega
     have HMIN2:Hid (min (k+X.length) Y.length=e):=he.symm
     have hst2:PiSt Y X k M:=by have:=HST.o;rw[Nat.min_eq_left (by omega)]at this;exact this
     have HST2:=zq hst2;have HA1:=zq (((RA.o.kept HGR.o (by intro q hq e2;cases hq;exact NA.o e2)).drop (n:=k) (by omega)).take (n:=e-k) (c:=e-k) (by rw[List.length_drop];omega) (Nat.le_refl _) (by omega));have HB1:=zq (RB.o.kept HGR.o (by intro q hq e2;cases hq;exact NB.o e2));have hi0:(0:Int)<=(k:Int):=Int.natCast_nonneg _
     have hi1:(k:Int)<=((Y.length:Int)+(X.length:Int)):=by omega
     have hi2:(k:Int)<=(e:Int):=by omega
     have hi3:(e:Int)<=(Y.length:Int):=by omega
     have hc1: ¬(Y.length+X.length=k):=by omega
     have hc2: ¬(e=k):=by omega
     have hdl:((Y.drop k).take (e-k)).length=e-k:=by rw[List.length_take,List.length_drop];omega
     have HDL:=zq hdl;clear he hst2 hdl;go_wp2_with fail
     go_region_held3 (fun _=>True) (trivial)
      (first
       |(go_at_call 253;refine(HI.o ((Y.drop k).take (e-k)) X _ _ _ (by have:=List.length_take_le (e-k) (Y.drop k);omega) (by exact HA1.o) (by exact HB1.o)).mono ?_;rintro e2 w3 ⟨g3,P,rfl,hg3,hB3,hl3,hv3,hbel3⟩;have HR3:=zq (hB3.whole (by have p1:=Qf ((Y.drop k).take (e-k));have p2:=Qf X;have p3:=List.length_take_le (e-k) (Y.drop k);omega));have HV3:=zq hv3;have HB3:=zq hbel3;have n3:g3≠w.heap.size:=(Nat.ne_of_lt (Nat.lt_of_lt_of_le hgw hg3)).symm;clear hl3 hv3 hB3 hbel3)
       |(go_at_call 273;refine(Xs _ _ _ P _ (by exact HR3.o)).mono ?_;rintro e2 w' ⟨rfl,rfl⟩)
       |(go_at_call 275;refine(J7 w.heap.size k (Y.length+X.length-k) (Y.length+X.length-k) M (Qw P) _ _ (by exact Blk.below (w:=wr.drew) HM.o HB3.o hgw) (by have:=HST2.o.1;omega) (Nat.le_refl _) (by omega) (Uu HR3.o) (by intro e2;cases e2;exact n3 rfl) (Gd RA.o.ok RB.o.ok hea HV3.o hke)).mono ?_;rintro e2 w4 ⟨rfl,M',hB4,⟨hlm,htm,hcm⟩,hgr4⟩))
     have HN:=zq (PiSt.step RA.o.ok RB.o.ok HST2.o hke hea HV3.o hlm htm hcm);have HM4:=zq hB4;have HG4:Hid (w1.grownBy w4 (some w.heap.size)):=Y3 (T9 (w:=wr.drew) (Y3 HGR.o (Zs wr 1 (some w.heap.size)) (.inl rfl)) HB3.o) hgr4 (.inl rfl);clear hB4 hlm htm hcm hgr4;go_wp2_with fail;have hfin:Qz0 Y X w.heap.size w1 (.int .i64 ((k:Int)+(X.length:Int))) w4:=⟨k+X.length,M',by go_num,by omega,HM4.o,by rw[HMIN2.o];exact HN.o,HG4.o⟩
     first|exact⟨hfin,by simp[intOf];omega⟩|exact⟨by (repeat apply Exists.intro);exact⟨hfin,rfl⟩,by simp[intOf];omega⟩
    ·have HD:=zq (PiSt.done (xs:=Y) (ys:=X) (M:=M) (by have:=HST.o;rw[Nat.min_eq_right (by omega)]at this;exact this))
     go_wp2_with fail;go_ret;exact V8 HD.o.1 HD.o.2 HD.o.1.symm rfl HM.o HBL.o HGR.o HAB.o
  ·go_enter Tryz.func253,Tryz.ntmps253
   go_wp2_with fail;refine(Xs _ _ _ xs _ HV.o).mono ?_;rintro e w' ⟨rfl,rfl⟩;rw[<-HX.o];go_wp2_with fail;refine(Xs _ _ _ ys _ HU.o).mono ?_;rintro e w' ⟨rfl,rfl⟩;rw[<-HY.o];go_wp2_with fail;refine(Kx w.heap.size ga oa gb ob ((Y.length+1) / 2) Y X _ (HI.o.mono (by omega)) HZ.o (by omega) RA.o RB.o hga hgb rfl h21 (by omega) (by omega)).mono ?_;rintro e w2 ⟨rfl,M,hM,hml,hmv,hgr⟩;have HM:=zq hM;have HML:=zq hml;have HMV:=zq hmv;have HGR:=zq hgr;clear hM hml hmv hgr;go_wp2_with fail;go_ret;exact V8 HML.o HMV.o HML.o.symm rfl HM.o HBL.o HGR.o HAB.o
 ·have h21:Y.length<=X.length:=by omega
  have HAB:Hid ((X=Qw xs/\Y=Qw ys)\/(X=Qw ys/\Y=Qw xs)):=.inl ⟨HX.o,HY.o⟩;have HMK:∀w:World,(Instr.makeSlice 59 (.int .i64 ((X.length:Int)+(Y.length:Int))) (.int .i64 ((X.length:Int)+(Y.length:Int)))).run Tryz.prog w=.ok (.slice (some ⟨w.heap.size,0,none⟩) (X.length+Y.length) (X.length+Y.length)) (w.alloc (.cells (madeCells #[.int .u64 0] (X.length+Y.length)) 101)):=Zq (X.length+Y.length) (by omega);have HZ:=zq (Blk.made w (X.length+Y.length));have HBL:=zq (Qq w (.cells (madeCells #[.int .u64 0] (X.length+Y.length)) 101));have NA:=zq (TA.o.ne (Nat.le_refl w.heap.size));have NB:=zq (TB.o.ne (Nat.le_refl w.heap.size));have RA:=zq (TA.o.below HBL.o);have RB:=zq (TB.o.below HBL.o);by_cases h24:Y.length<24
  ·go_enter Tryz.func253,Tryz.ntmps253
   go_wp2_with fail;refine(Xs _ _ _ xs _ HV.o).mono ?_;rintro e w' ⟨rfl,rfl⟩;rw[<-HX.o];go_wp2_with fail;refine(Xs _ _ _ ys _ HU.o).mono ?_;rintro e w' ⟨rfl,rfl⟩;rw[<-HY.o];go_wp2_with fail;refine(Bx w.heap.size (X.length+Y.length) X Y _ _ _ HZ.o rfl (by omega) RA.o NA.o RB.o NB.o).mono ?_;rintro e w2 ⟨rfl,M,hM,hml,hmv,hgr⟩;have HM:=zq hM;have HML:=zq hml;have HMV:=zq hmv;have HGR:=zq hgr;clear hM hml hmv hgr;go_wp2_with fail;go_ret;exact V8 HML.o HMV.o HML.o.symm rfl HM.o HBL.o HGR.o HAB.o
  obtain⟨ga,oa,hao⟩:=TA.o.some' (by omega);obtain⟨gb,ob,hbo⟩:=TB.o.some' (by omega);subst hao hbo;have hga:ga≠w.heap.size:=fun e=>NA.o (by rw[e];rfl);have hgb:gb≠w.heap.size:=fun e=>NB.o (by rw[e];rfl)
  have d1:decide ((Y.length:Int)<24)=false:=by simp;omega
  by_cases hbig:2*Y.length<=X.length
  ·have d2:decide (2*(Y.length:Int)<=(X.length:Int))=true:=by simp;omega
   go_enter Tryz.func253,Tryz.ntmps253;go_wp2_with fail;refine(Xs _ _ _ xs _ HV.o).mono ?_;rintro e w' ⟨rfl,rfl⟩;rw[<-HX.o];go_wp2_with fail;refine(Xs _ _ _ ys _ HU.o).mono ?_;rintro e w' ⟨rfl,rfl⟩;rw[<-HY.o];go_wp2_with fail;generalize w.alloc (.cells (madeCells #[.int .u64 0] (X.length+Y.length)) 101)=w1 at*;go_loopw [6] (fun i wr=>Qz0 X Y w.heap.size w1 i wr) (fun i _=>X.length-(intOf i).toNat)
   case atStart=>exact⟨0,_,rfl,Nat.zero_le _,HZ.o,by rw[Nat.zero_min];exact PiSt.start X Y,X1 w1 _⟩
   case round=>
    obtain⟨k,M,rfl,hk,hM,hst,hgr⟩:=hrel;have HM:=zq hM;have HST:=zq hst;have HGR:=zq hgr;have hwz:=hgr.size;have hwb:=HBL.o.size;have hgw:=hM.lt;clear hM hst hgr;by_cases hlt:k<X.length
    ·obtain⟨e,he⟩:=xq (min (k+Y.length) X.length)
     have hke:k<=e:=by omega
     have hea:e<=X.length:=by omega
     have hkl:e-k<=Y.length:=by omega
     have hmin:min ((k:Int)+(Y.length:Int)) (X.length:Int)=(e:Int):=by omega
     have HMIN2:Hid (min (k+Y.length) X.length=e):=he.symm
     have hst2:PiSt X Y k M:=by have:=HST.o;rw[Nat.min_eq_left (by omega)]at this;exact this
     have HST2:=zq hst2;have HA1:=zq (((RA.o.kept HGR.o (by intro q hq e2;cases hq;exact NA.o e2)).drop (n:=k) (by omega)).take (n:=e-k) (c:=e-k) (by rw[List.length_drop];omega) (Nat.le_refl _) (by omega));have HB1:=zq (RB.o.kept HGR.o (by intro q hq e2;cases hq;exact NB.o e2));have hi0:(0:Int)<=(k:Int):=Int.natCast_nonneg _
     have hi1:(k:Int)<=((X.length:Int)+(Y.length:Int)):=by omega
     have hi2:(k:Int)<=(e:Int):=by omega
     have hi3:(e:Int)<=(X.length:Int):=by omega
     have hc1: ¬(X.length+Y.length=k):=by omega
     have hc2: ¬(e=k):=by omega
     have hdl:((X.drop k).take (e-k)).length=e-k:=by rw[List.length_take,List.length_drop];omega
     have HDL:=zq hdl;clear he hst2 hdl;go_wp2_with fail
     go_region_held3 (fun _=>True) (trivial)
      (first
       |(go_at_call 253;refine(HI.o ((X.drop k).take (e-k)) Y _ _ _ (by have:=List.length_take_le (e-k) (X.drop k);omega) (by exact HA1.o) (by exact HB1.o)).mono ?_;rintro e2 w3 ⟨g3,P,rfl,hg3,hB3,hl3,hv3,hbel3⟩;have HR3:=zq (hB3.whole (by have p1:=Qf ((X.drop k).take (e-k));have p2:=Qf Y;have p3:=List.length_take_le (e-k) (X.drop k);omega));have HV3:=zq hv3;have HB3:=zq hbel3;have n3:g3≠w.heap.size:=(Nat.ne_of_lt (Nat.lt_of_lt_of_le hgw hg3)).symm;clear hl3 hv3 hB3 hbel3)
       |(go_at_call 273;refine(Xs _ _ _ P _ (by exact HR3.o)).mono ?_;rintro e2 w' ⟨rfl,rfl⟩)
       |(go_at_call 275;refine(J7 w.heap.size k (X.length+Y.length-k) (X.length+Y.length-k) M (Qw P) _ _ (by exact Blk.below (w:=wr.drew) HM.o HB3.o hgw) (by have:=HST2.o.1;omega) (Nat.le_refl _) (by omega) (Uu HR3.o) (by intro e2;cases e2;exact n3 rfl) (Gd RA.o.ok RB.o.ok hea HV3.o hke)).mono ?_;rintro e2 w4 ⟨rfl,M',hB4,⟨hlm,htm,hcm⟩,hgr4⟩))
     have HN:=zq (PiSt.step RA.o.ok RB.o.ok HST2.o hke hea HV3.o hlm htm hcm);have HM4:=zq hB4;have HG4:Hid (w1.grownBy w4 (some w.heap.size)):=Y3 (T9 (w:=wr.drew) (Y3 HGR.o (Zs wr 1 (some w.heap.size)) (.inl rfl)) HB3.o) hgr4 (.inl rfl);clear hB4 hlm htm hcm hgr4;go_wp2_with fail;have hfin:Qz0 X Y w.heap.size w1 (.int .i64 ((k:Int)+(Y.length:Int))) w4:=⟨k+Y.length,M',by go_num,by omega,HM4.o,by rw[HMIN2.o];exact HN.o,HG4.o⟩
     first|exact⟨hfin,by simp[intOf];omega⟩|exact⟨by (repeat apply Exists.intro);exact⟨hfin,rfl⟩,by simp[intOf];omega⟩
    ·have HD:=zq (PiSt.done (xs:=X) (ys:=Y) (M:=M) (by have:=HST.o;rw[Nat.min_eq_right (by omega)]at this;exact this))
     go_wp2_with fail;go_ret;exact V8 HD.o.1 HD.o.2 HD.o.1.symm rfl HM.o HBL.o HGR.o HAB.o
  ·go_enter Tryz.func253,Tryz.ntmps253
   go_wp2_with fail;refine(Xs _ _ _ xs _ HV.o).mono ?_;rintro e w' ⟨rfl,rfl⟩;rw[<-HX.o];go_wp2_with fail;refine(Xs _ _ _ ys _ HU.o).mono ?_;rintro e w' ⟨rfl,rfl⟩;rw[<-HY.o];go_wp2_with fail;refine(Kx w.heap.size ga oa gb ob ((X.length+1) / 2) X Y _ (HI.o.mono (by omega)) HZ.o (by omega) RA.o RB.o hga hgb rfl h21 (by omega) (by omega)).mono ?_;rintro e w2 ⟨rfl,M,hM,hml,hmv,hgr⟩;have HM:=zq hM;have HML:=zq hml;have HMV:=zq hmv;have HGR:=zq hgr;clear hM hml hmv hgr;go_wp2_with fail;go_ret;exact V8 HML.o HMV.o HML.o.symm rfl HM.o HBL.o HGR.o HAB.o
theorem Bu:∀n,n<=274877906944->Nu n
 |0,_=>fun xs ys v u w h _ _=>absurd h (Nat.not_lt_zero _)
 |n+1,hn=>fun xs ys v u w h hv hu=>Qj3 n (Bu n (by omega)) (by omega) xs ys v u w (by omega) hv hu
theorem Mp (xs ys:List Nat)(v u:Value)(w:World)(hl:xs.length+ys.length<274877906944)(hv:Rd w v xs)(hu:Rd w u ys):
  Calls Tryz.prog 253 #[v,u] w (Pp xs ys w):=Bu _ (Nat.le_refl _) xs ys v u w hl hv hu
end Go.Proofs.YtgfmiladfeoldaaGreatDoor
