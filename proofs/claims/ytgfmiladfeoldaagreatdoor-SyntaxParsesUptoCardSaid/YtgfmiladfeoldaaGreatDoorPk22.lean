/- Joined texts of this claim's proof: RdH, RdI. -/
import Derived.Test.YtgfmiladfeoldaaGreatDoorPk1
import Derived.Test.YtgfmiladfeoldaaGreatDoorPk21
import Derived.Test.YtgfmiladfeoldaaGreatDoorPk20
set_option linter.unusedSimpArgs false
set_option linter.unusedVariables false
set_option maxRecDepth 100000
set_option maxHeartbeats 16000000
namespace Go.Proofs.YtgfmiladfeoldaaGreatDoor
open Go.RowKit NatP LexP
theorem Qv1 (R:Nat)(tv:Value)(L:List Tok)(fin a:Nat)(s:SynP.St)(nv:Value)(ns:List Nv)(w:World)(h:RS w R tv L fin a s nv ns)(f:Nat)(hf:SynP.X6 fin f s≠none):
  Calls Tryz.prog 54 #[.pointer (some ⟨R,0,none⟩)] w (RB (SynP.X6 fin f s) R tv L fin s nv ns MatQ w):=by
 have H:=zq h;have hRl:=h.lt;obtain⟨r,hr⟩:=xq (SynP.X6 fin f s);rw[<-hr]at hf ⊢;obtain⟨col,hcol⟩:=xq (SynP.Q7 fin s.ts)
 have HR0:Hid (r=(SynP.want fin [91] s).bind fun _ s=>if SynP.Qy 1 s.ts && SynP.Qv [58] s.ts.tail then SynP.Ja fin col s else (SynP.entries fin f [] [] s).bind (SynP.Yo col)):=by
  show _=_;rw[hr,hcol];rfl
 have HNE:=zq hf;have HCOL:=zq hcol;have HA:=zq (Qq w (.cells #[.int .i64 0,.int .i64 0,.slice none 0 0] 47));have HSA:=zq (h.below HA.o);have hblk:=heap_alloc_new w (.cells #[.int .i64 0,.int .i64 0,.slice none 0 0] 47);obtain⟨wA,hwA⟩:=xq (w.alloc (.cells #[.int .i64 0,.int .i64 0,.slice none 0 0] 47))
 have hlA:w.heap.size<wA.heap.size:=by rw[hwA];simp
 rw[<-hwA]at hblk;have HBLK:=zq hblk
 have HWA:Hid (Wr R none w wA):=by show Wr _ _ _ _;rw[hwA];exact Wr.of_below HA.o
 have HWA0:Hid (Wr R none wA wA):=Wr.refl _ _ _;rw[<-hwA]at HSA HA;have HAE:=zq hwA;clear h hr hf hcol hblk hwA;go_enter Tryz.func54,Tryz.ntmps54;go_wp2_with fail;rw[<-HAE.o];refine(Qyl R tv L fin a s nv ns _ HSA.o).mono ?_;rintro e w1 ⟨rfl,b1⟩;rw[<-HCOL.o];have HS1:=zq (HSA.o.below b1);have HW1:Hid (Wr R none wA w1):=Wr.of_below b1;clear b1;go_wp2_with fail;refine(Vn R tv L fin a s nv ns _ HS1.o [91]).mono ?_;rintro e w2 hn;rcases hN:SynP.want fin [91] s with- |(⟨fc,fk⟩|⟨u2',s2⟩)
 ·rw[hN]at hn;exact hn.elim
 ·rw[hN]at hn
  obtain⟨rfl,n1⟩:=hn;refine⟨rfl,?_⟩
  have hre:r=some (.error (fc,fk)):=by rw[HR0.o,hN];rfl
  rw[hre];exact⟨rfl,RS.step HWA.o (RS.step HW1.o n1)⟩
 rw[hN]at hn;obtain⟨v2,a2,rfl,n1,n2,n3,rfl⟩:=hn;have hl2:=Vy hN;have HS2:=zq n1;have HW2:=zq (RS.step HW1.o n2);have HN2:=zq hN;clear n1 n2 n3 hN
 have HR2:Hid (r=if SynP.Qy 1 s2.ts && SynP.Qv [58] s2.ts.tail then SynP.Ja fin col s2 else (SynP.entries fin f [] [] s2).bind (SynP.Yo col)):=by
  show _=_;rw[HR0.o,HN2.o];rfl
 have hck:=Xj 1 [] s2.ts (by decide);have hcm:=Zi [58] s2.ts;by_cases hsh:(SynP.Qy 1 s2.ts && SynP.Qv [58] s2.ts.tail)=true
 ·rw[if_pos hsh]at HR2
  rw[Bool.and_eq_true]at hsh;rw[hsh.1]at hck;rw[hsh.2]at hcm;have HCK:=zq hck;have HCM:=zq hcm;have HR3:Hid (r=(SynP.Qi fin s2).bind fun r s=>(SynP.want fin [58] s).bind fun _ s=>(SynP.Qi fin s).bind fun c s=>(SynP.want fin [93] s).bind fun _ s=>if 64<SynP.side r||64<SynP.side c then SynP.fault col 5 else SynP.ret ⟨r,c,List.replicate (r*c) (false,0)⟩ s):=HR2.o;clear hsh hck hcm HR2;go_wp2_with fail;refine(Qt R tv L fin a2 s2 nv ns _ HS2.o 0 1 [] (by omega) (by omega)).mono ?_;rintro e w3 ⟨rfl,b1⟩;rw[HCK.o];have HS3:=zq (HS2.o.below b1);have HW3:=zq (RS.step HW2.o (Wr.of_below b1));clear b1;go_wp2_with fail;refine(Qt R tv L fin a2 s2 nv ns _ HS3.o 1 3 [58] (by omega) (by omega)).mono ?_;rintro e w4 ⟨rfl,b1⟩;rw[HCM.o];have HS4:=zq (HS3.o.below b1);have HW4:=zq (RS.step HW3.o (Wr.of_below b1));clear b1;go_wp2_with fail;refine(Z0 R tv L fin a2 s2 nv ns _ HS4.o).mono ?_;rintro e w5 hn;rcases hN:SynP.Qi fin s2 with- |(⟨fc,fk⟩|⟨m5,s5⟩)
  ·rw[hN]at hn;exact hn.elim
  ·rw[hN]at hn
   obtain⟨rfl,n1⟩:=hn;refine⟨rfl,?_⟩
   have hre:r=some (.error (fc,fk)):=by rw[HR3.o,hN];rfl
   rw[hre];exact⟨rfl,RS.step HWA.o (RS.step HW4.o n1)⟩
  rw[hN]at hn;obtain⟨v5,a5,rfl,n1,n2,n3,n4⟩:=hn;have hl5:=Yl hN;have HS5:=zq n1;have HW5:=zq (RS.step HW4.o n2);have HN5:=zq hN;have HF5:=zq n4;clear n1 n2 n3 n4 hN
  have HR5:Hid (r=(SynP.want fin [58] s5).bind fun _ s=>(SynP.Qi fin s).bind fun c s=>(SynP.want fin [93] s).bind fun _ s=>if 64<SynP.side m5||64<SynP.side c then SynP.fault col 5 else SynP.ret ⟨m5,c,List.replicate (m5*c) (false,0)⟩ s):=by
   show _=_;rw[HR3.o,HN5.o];rfl
  go_wp2_with fail;refine(Cd _ m5 _ HF5.o.1).mono ?_;rintro e w6 ⟨rfl,b1⟩;have HS6:=zq (HS5.o.below b1);have HW6:=zq (RS.step HW5.o (Wr.of_below b1));obtain⟨d6,hd6⟩:=xq (SynP.side m5);rw[<-hd6];have HD6:=zq hd6
  have hdl6:d6<=65:=by rw[hd6];unfold SynP.side;split<;>omega
  clear b1 hd6;go_wp2_with fail;refine(Vn R tv L fin a5 s5 nv ns _ HS6.o [58]).mono ?_;rintro e w7 hn;rcases hN:SynP.want fin [58] s5 with- |(⟨fc,fk⟩|⟨u7',s7⟩)
  ·rw[hN]at hn;exact hn.elim
  ·rw[hN]at hn
   obtain⟨rfl,n1⟩:=hn;refine⟨rfl,?_⟩
   have hre:r=some (.error (fc,fk)):=by rw[HR5.o,hN];rfl
   rw[hre];exact⟨rfl,RS.step HWA.o (RS.step HW6.o n1)⟩
  rw[hN]at hn;obtain⟨v7,a7,rfl,n1,n2,n3,rfl⟩:=hn;have hl7:=Vy hN;have HS7:=zq n1;have HW7:=zq (RS.step HW6.o n2);have HN7:=zq hN;clear n1 n2 n3 hN
  have HR7:Hid (r=(SynP.Qi fin s7).bind fun c s=>(SynP.want fin [93] s).bind fun _ s=>if 64<SynP.side m5||64<SynP.side c then SynP.fault col 5 else SynP.ret ⟨m5,c,List.replicate (m5*c) (false,0)⟩ s):=by
   show _=_;rw[HR5.o,HN7.o];rfl
  go_wp2_with fail;refine(Z0 R tv L fin a7 s7 nv ns _ HS7.o).mono ?_;rintro e w8 hn;rcases hN:SynP.Qi fin s7 with- |(⟨fc,fk⟩|⟨m8,s8⟩)
  ·rw[hN]at hn;exact hn.elim
  ·rw[hN]at hn
   obtain⟨rfl,n1⟩:=hn;refine⟨rfl,?_⟩
   have hre:r=some (.error (fc,fk)):=by rw[HR7.o,hN];rfl
   rw[hre];exact⟨rfl,RS.step HWA.o (RS.step HW7.o n1)⟩
  rw[hN]at hn;obtain⟨v8,a8,rfl,n1,n2,n3,n4⟩:=hn;have hl8:=Yl hN;have HS8:=zq n1;have HW8:=zq (RS.step HW7.o n2);have HN8:=zq hN;have HF8:=zq n4;clear n1 n2 n3 n4 hN
  have HR8:Hid (r=(SynP.want fin [93] s8).bind fun _ s=>if 64<SynP.side m5||64<SynP.side m8 then SynP.fault col 5 else SynP.ret ⟨m5,m8,List.replicate (m5*m8) (false,0)⟩ s):=by
   show _=_;rw[HR7.o,HN8.o];rfl
  go_wp2_with fail;refine(Cd _ m8 _ HF8.o.1).mono ?_;rintro e w9 ⟨rfl,b1⟩;have HS9:=zq (HS8.o.below b1);have HW9:=zq (RS.step HW8.o (Wr.of_below b1));obtain⟨d9,hd9⟩:=xq (SynP.side m8);rw[<-hd9];have HD9:=zq hd9
  have hdl9:d9<=65:=by rw[hd9];unfold SynP.side;split<;>omega
  clear b1 hd9;go_wp2_with fail;refine(Vn R tv L fin a8 s8 nv ns _ HS9.o [93]).mono ?_;rintro e w10 hn;rcases hN:SynP.want fin [93] s8 with- |(⟨fc,fk⟩|⟨u10',s10⟩)
  ·rw[hN]at hn;exact hn.elim
  ·rw[hN]at hn
   obtain⟨rfl,n1⟩:=hn;refine⟨rfl,?_⟩
   have hre:r=some (.error (fc,fk)):=by rw[HR8.o,hN];rfl
   rw[hre];exact⟨rfl,RS.step HWA.o (RS.step HW9.o n1)⟩
  rw[hN]at hn;obtain⟨v10,a10,rfl,n1,n2,n3,rfl⟩:=hn;have hl10:=Vy hN;have HS10:=zq n1;have HW10:=zq (RS.step HW9.o n2);have HN10:=zq hN;clear n1 n2 n3 hN
  have HR10:Hid (r=if 64<d6||64<d9 then SynP.fault col 5 else SynP.ret ⟨m5,m8,List.replicate (m5*m8) (false,0)⟩ s10):=by
   show _=_;rw[HR8.o,HN10.o,HD6.o,HD9.o];rfl
  have hb10:=(HW10.o.block w.heap.size hlA (by omega) (by simp)).trans HBLK.o;have e0:w10.cell? ⟨w.heap.size,0,none⟩=some (.int .i64 0):=(cell_of_row w10 _ _ _ _ _ hb10).trans rfl;have e1:w10.cell? ⟨w.heap.size,1,none⟩=some (.int .i64 0):=(cell_of_row w10 _ _ _ _ _ hb10).trans rfl;have e2:w10.cell? ⟨w.heap.size,2,none⟩=some (.slice none 0 0):=(cell_of_row w10 _ _ _ _ _ hb10).trans rfl;have f0:w10.frozen? ⟨w.heap.size,0,none⟩=false:=frozen_of_row w10 _ 0 _ _ hb10;have f1:w10.frozen? ⟨w.heap.size,1,none⟩=false:=frozen_of_row w10 _ 1 _ _ hb10;have f2:w10.frozen? ⟨w.heap.size,2,none⟩=false:=frozen_of_row w10 _ 2 _ _ hb10;have HB10:=zq hb10;clear hb10;by_cases h6:64<d6
  ·have hb6:(64:Int)<(d6:Int):=by omega
   have hre:r=some (.error (col,5)):=by rw[HR10.o,if_pos (by simp[h6])];rfl
   have HRE:=zq hre;clear h6 hre;go_wp2_with fail;refine⟨rfl,?_⟩;rw[HRE.o];exact⟨rfl,RS.step HWA.o HW10.o⟩
  ·by_cases h9:64<d9
   ·have hb6: ¬(64:Int)<(d6:Int):=by omega
    have hb9:(64:Int)<(d9:Int):=by omega
    have hre:r=some (.error (col,5)):=by rw[HR10.o,if_pos (by simp[h9])];rfl
    have HRE:=zq hre;clear h6 h9 hre;go_wp2_with fail;refine⟨rfl,?_⟩;rw[HRE.o];exact⟨rfl,RS.step HWA.o HW10.o⟩
   ·have hb6: ¬(64:Int)<(d6:Int):=by omega
    have hb9: ¬(64:Int)<(d9:Int):=by omega
    have hm5:m5=d6:=by have:=HD6.o;unfold SynP.side at this;split at this<;>omega
    have hm8:m8=d9:=by have:=HD9.o;unfold SynP.side at this;split at this<;>omega
    have hre:r=some (.ok (⟨d6,d9,List.replicate (d6*d9) (false,0)⟩,s10)):=by rw[HR10.o,if_neg (by simp;omega),hm5,hm8];rfl
    obtain⟨d,hd⟩:=xq (d6*d9);rw[<-hd]at hre
    have hdl:d<=4096:=by rw[hd];exact Nat.mul_le_mul (show d6<=64 by omega) (show d9<=64 by omega)
    have hdi:(d6:Int)*(d9:Int)=(d:Int):=by rw[hd];exact(Int.natCast_mul d6 d9).symm
    have HRE:=zq hre;have hmk:=Qj4 d hdl;have hsl10:w.heap.size<w10.heap.size:=Nat.lt_of_lt_of_le hlA HW10.o.size;clear h6 h9 hre hm5 hm8 hd;go_wp2_with fail;obtain⟨wS,hwS⟩:∃wS,wS=((w10.setCell ⟨w.heap.size,0,none⟩ (.int .i64 (d6:Int))).setCell ⟨w.heap.size,1,none⟩ (.int .i64 (d9:Int))).setCell ⟨w.heap.size,2,none⟩ (.slice (some ⟨w10.heap.size,0,none⟩) d d):=⟨_,rfl⟩;rw[<-hwS];obtain⟨p1,p2,p3,-⟩:=Da HB10.o hwS;have hsz:wS.heap.size=w10.heap.size:=p3;obtain⟨q2,q3⟩:=H.o.loc HS10.o (RS.step HWA.o HW10.o) p2 (fun q hq=>by cases hq;exact Nat.le_refl _);have hz:=IRd.zeros wS d hdl;rw[hsz]at hz;have hbF:=((Qq wS (.cells (madeCells #[.bool false,.slice none 0 0] (d*2)) 62)).block w.heap.size (by rw[hsz];exact hsl10)).trans p1;refine bodyPost_ret (results_cell_row rfl _ _ w.heap.size 47 _ _ _ rfl hbF Tryz.underlying47 rfl (by kernel_rfl)) rfl ?_;rw[HRE.o];have hbl:=Qq wS (.cells (madeCells #[.bool false,.slice none 0 0] (d*2)) 62);exact⟨_,_,rfl,q2.below hbl,RS.step q3 (Wr.of_below hbl),by omega,_,rfl,hz⟩
 ·rw[if_neg hsh]at HR2
  cases hk:SynP.Qy 1 s2.ts with
  |true=>
   rw[hk]at hck
   have hm0:SynP.Qv [58] s2.ts.tail=false:=by
    rw[hk]at hsh;simpa using hsh
   rw[hm0]at hcm;have HCK:=zq hck;have HCM:=zq hcm;clear hsh hck hcm hk hm0;go_wp2_with fail;refine(Qt R tv L fin a2 s2 nv ns _ HS2.o 0 1 [] (by omega) (by omega)).mono ?_;rintro e w3 ⟨rfl,b1⟩;rw[HCK.o];have HS3:=zq (HS2.o.below b1);have HW3:=zq (RS.step HW2.o (Wr.of_below b1));clear b1;go_wp2_with fail;refine(Qt R tv L fin a2 s2 nv ns _ HS3.o 1 3 [58] (by omega) (by omega)).mono ?_;rintro e w4 ⟨rfl,b1⟩;rw[HCM.o];have HS4:=zq (HS3.o.below b1);have HW4:=zq (RS.step HW3.o (Wr.of_below b1));clear b1;go_wp2_with fail;refine(Kn R tv L fin a2 s2 nv ns _ HS4.o f (fun e=>HNE.o (by rw[HR2.o,e];rfl))).mono ?_;rintro e w20 hn;rcases hN:SynP.entries fin f [] [] s2 with- |(⟨fc,fk⟩|⟨⟨acc,lens⟩,s20⟩)
   ·rw[hN]at hn;exact hn.elim
   ·rw[hN]at hn
    obtain⟨rfl,n1⟩:=hn;refine⟨rfl,?_⟩
    have hre:r=some (.error (fc,fk)):=by rw[HR2.o,hN];rfl
    rw[hre];exact⟨rfl,RS.step HWA.o (RS.step HW4.o n1)⟩
   rw[hN]at hn;obtain⟨v20,a20,rfl,n1,n2,n3,av,lv,cs,rfl,hEn⟩:=hn;obtain⟨es1,-,es3⟩:=SynP.W9 fin f _ _ _ _ hN rfl (fun x hx=>by cases hx);simp only at es1 es3 hEn
   have HR20:Hid (r=SynP.Yo col (acc,lens) s20):=by show _=_;rw[HR2.o,hN];rfl
   have HS20:=zq n1;have HW20:=zq (RS.step HW4.o n2);obtain⟨ao,acap,rfl,-,-,-⟩:=Qj hEn.own1;obtain⟨lo,lcap,rfl,l1,l2,l3⟩:=Qj hEn.own2;obtain⟨g,rfl,l4,l5,l6⟩:=l3 es3
   have HL6:Hid (∀(j x:Nat),lens[j]?=some x->w20.cell? ⟨g,j,none⟩=some (.int .i64 (x:Nat))):=by
    intro j x hj;have hjl:=(List.getElem?_eq_some_iff.1 hj).1;rw[l6 j (by omega)];simp[ints,hj]
   obtain⟨k0,hk0⟩:∃k0,lens[0]?=some k0:=⟨_,List.getElem?_eq_getElem es3⟩
   have hhd:lens.headD 0=k0:=by
    cases lens with
    |nil=>simp at es3
    |cons x l=>simpa using hk0
   have c0:=HL6.o 0 k0 hk0;obtain⟨nl,hnl⟩:=xq lens.length;obtain⟨nc,hnc⟩:=xq cs.length;rw[<-hnl]at es3 l1 ⊢;rw[<-hnc];have HNC:=zq hnc
   have hnlb:nl<=9223372036854775807:=by unfold maxLen at l2;omega
   have HEN:=zq hEn;have hsB:w.heap.size<w4.heap.size:=Nat.lt_of_lt_of_le hlA HW4.o.size;have HNL:=zq hnl;have HK0:=zq hk0;have HHD:=zq hhd;have hb10:=(HW20.o.block w.heap.size hlA (by omega) (by simp)).trans HBLK.o;have e0:w20.cell? ⟨w.heap.size,0,none⟩=some (.int .i64 0):=(cell_of_row w20 _ _ _ _ _ hb10).trans rfl;have e1:w20.cell? ⟨w.heap.size,1,none⟩=some (.int .i64 0):=(cell_of_row w20 _ _ _ _ _ hb10).trans rfl;have e2:w20.cell? ⟨w.heap.size,2,none⟩=some (.slice none 0 0):=(cell_of_row w20 _ _ _ _ _ hb10).trans rfl;have f0:w20.frozen? ⟨w.heap.size,0,none⟩=false:=frozen_of_row w20 _ 0 _ _ hb10;have f1:w20.frozen? ⟨w.heap.size,1,none⟩=false:=frozen_of_row w20 _ 1 _ _ hb10;have f2:w20.frozen? ⟨w.heap.size,2,none⟩=false:=frozen_of_row w20 _ 2 _ _ hb10;have HB10:=zq hb10;have hsl20:w.heap.size<w20.heap.size:=Nat.lt_of_lt_of_le hlA HW20.o.size;have hl20:=n3;clear n1 n2 n3 hEn es1 l2 l3 l6 hk0 hhd hnl hnc hb10 hN HR2;go_wp2_with fail;go_loopw [9,53] (fun _ iv wr=> ∃j:Nat,iv=.int .i64 (j:Nat)/\j<=nl/\(∀i x,i<j->lens[i]?=some x->x=k0)/\wr=w20) (fun _ iv _=>(nl-intOf iv).toNat)
   case atStart=>exact⟨0,rfl,Nat.zero_le _,fun i x h=>absurd h (Nat.not_lt_zero i),rfl⟩
   case round=>
    obtain⟨j,rfl,hjl,hall,hwe⟩:=hrel;subst hwe;have HALL:=zq hall;clear hall;by_cases hj:j<nl
    ·obtain⟨x,hx⟩:∃x,lens[j]?=some x:=⟨_,List.getElem?_eq_getElem (by rw[<-HNL.o];exact hj)⟩
     have cj:=HL6.o j x hx;have HX:=zq hx;clear hx;by_cases hxk:x=k0
     ·have hxb:((x:Int)==(k0:Int))=true:=by simp[hxk]
      have HXK:=zq hxk;clear hxk;go_wp2_with fail
      have hfin:∀i y,i<j+1->lens[i]?=some y->y=k0:=by
       intro i y hi hy;by_cases hij:i<j
       ·exact HALL.o i y hij hy
       ·have:i=j:=by omega
        subst this;rw[HX.o]at hy
        cases hy
        exact HXK.o
      first|exact⟨⟨j+1,rfl,by omega,hfin,rfl⟩,by simp[intOf]<;>omega⟩|exact⟨by (repeat apply Exists.intro);exact⟨⟨j+1,rfl,by omega,hfin,trivial⟩,rfl⟩,by simp[intOf]<;>omega⟩|exact⟨⟨j+1,rfl,by omega,hfin,trivial⟩,by simp[intOf]<;>omega⟩
     ·have hxb:((x:Int)==(k0:Int))=false:=by simp;omega
      have hre:r=some (.error (col,2)):=by
       rw[HR20.o];unfold SynP.Yo
       rw[if_pos (by
        rw[List.any_eq_true]
        exact⟨x,List.mem_of_getElem? HX.o,by rw[HHD.o];simpa using hxk⟩)]
       rfl
      have HRE:=zq hre;clear hxk hre;go_wp2_with fail;refine⟨rfl,?_⟩;rw[HRE.o];exact⟨rfl,RS.step HWA.o HW20.o⟩
    ·have hany: ¬(lens.any (· !=lens.headD 0))=true:=by
      rw[HHD.o,List.any_eq_true];rintro ⟨x,hx,hne⟩;obtain⟨i,hi⟩:=List.getElem?_of_mem hx;have hil:=(List.getElem?_eq_some_iff.1 hi).1;rw[<-HNL.o]at hil;have:=HALL.o i x (by omega) hi;simp[this]at hne
     have HRD:Hid (r=if 64<nl||64<k0 then SynP.fault col 5 else SynP.ret ⟨nl,k0,acc⟩ s20):=by
      show _=_;rw[HR20.o];unfold SynP.Yo;rw[if_neg hany];simp only[HHD.o,<-HNL.o]
     clear hany;by_cases h6:64<nl
     ·have hb6:(64:Int)<(nl:Int):=by omega
      have hre:r=some (.error (col,5)):=by rw[HRD.o,if_pos (by simp[h6])];rfl
      have HRE:=zq hre;clear h6 hre;go_wp2_with fail;refine⟨rfl,?_⟩;rw[HRE.o];exact⟨rfl,RS.step HWA.o HW20.o⟩
     ·by_cases h9:64<k0
      ·have hb6: ¬(64:Int)<(nl:Int):=by omega
       have hb9:(64:Int)<(k0:Int):=by omega
       have hre:r=some (.error (col,5)):=by rw[HRD.o,if_pos (by simp[h9])];rfl
       have HRE:=zq hre;clear h6 h9 hre;go_wp2_with fail;refine⟨rfl,?_⟩;rw[HRE.o];exact⟨rfl,RS.step HWA.o HW20.o⟩
      ·have hb6: ¬(64:Int)<(nl:Int):=by omega
       have hb9: ¬(64:Int)<(k0:Int):=by omega
       have hre:r=some (.ok (⟨nl,k0,acc⟩,s20)):=by rw[HRD.o,if_neg (by simp;omega)];rfl
       have HRE:=zq hre;clear h6 h9 hre;go_wp2_with fail;obtain⟨wS,hwS⟩:∃wS,wS=((wr.setCell ⟨w.heap.size,0,none⟩ (.int .i64 (nl:Int))).setCell ⟨w.heap.size,1,none⟩ (.int .i64 (k0:Int))).setCell ⟨w.heap.size,2,none⟩ (.slice ao nc acap):=⟨_,rfl⟩;rw[<-hwS];obtain⟨p1,p2,p3,p4⟩:=Da HB10.o hwS;obtain⟨q2,q3⟩:=H.o.loc HS20.o (RS.step HWA.o HW20.o) p2 (fun q hq=>by cases hq;exact Nat.le_refl _);have hz:=(HEN.o.wr p4 hsB).ird;rw[<-HNC.o]at hz;refine bodyPost_ret (results_cell_row rfl _ _ w.heap.size 47 _ _ _ rfl p1 Tryz.underlying47 rfl (by kernel_rfl)) rfl ?_;rw[HRE.o]
       exact⟨_,_,rfl,q2,q3,by omega,_,rfl,hz⟩
  |false=>
   rw[hk]at hck;have HCK:=zq hck;clear hsh hck hcm hk;go_wp2_with fail;refine(Qt R tv L fin a2 s2 nv ns _ HS2.o 0 1 [] (by omega) (by omega)).mono ?_;rintro e w4 ⟨rfl,b1⟩;rw[HCK.o];have HS4:=zq (HS2.o.below b1);have HW4:=zq (RS.step HW2.o (Wr.of_below b1));clear b1;go_wp2_with fail;refine(Kn R tv L fin a2 s2 nv ns _ HS4.o f (fun e=>HNE.o (by rw[HR2.o,e];rfl))).mono ?_;rintro e w20 hn;rcases hN:SynP.entries fin f [] [] s2 with- |(⟨fc,fk⟩|⟨⟨acc,lens⟩,s20⟩)
   ·rw[hN]at hn;exact hn.elim
   ·rw[hN]at hn
    obtain⟨rfl,n1⟩:=hn;refine⟨rfl,?_⟩
    have hre:r=some (.error (fc,fk)):=by rw[HR2.o,hN];rfl
    rw[hre];exact⟨rfl,RS.step HWA.o (RS.step HW4.o n1)⟩
   rw[hN]at hn;obtain⟨v20,a20,rfl,n1,n2,n3,av,lv,cs,rfl,hEn⟩:=hn;obtain⟨es1,-,es3⟩:=SynP.W9 fin f _ _ _ _ hN rfl (fun x hx=>by cases hx);simp only at es1 es3 hEn
   have HR20:Hid (r=SynP.Yo col (acc,lens) s20):=by show _=_;rw[HR2.o,hN];rfl
   have HS20:=zq n1;have HW20:=zq (RS.step HW4.o n2);obtain⟨ao,acap,rfl,-,-,-⟩:=Qj hEn.own1;obtain⟨lo,lcap,rfl,l1,l2,l3⟩:=Qj hEn.own2;obtain⟨g,rfl,l4,l5,l6⟩:=l3 es3
   have HL6:Hid (∀(j x:Nat),lens[j]?=some x->w20.cell? ⟨g,j,none⟩=some (.int .i64 (x:Nat))):=by
    intro j x hj;have hjl:=(List.getElem?_eq_some_iff.1 hj).1;rw[l6 j (by omega)];simp[ints,hj]
   obtain⟨k0,hk0⟩:∃k0,lens[0]?=some k0:=⟨_,List.getElem?_eq_getElem es3⟩
   have hhd:lens.headD 0=k0:=by
    cases lens with
    |nil=>simp at es3
    |cons x l=>simpa using hk0
   have c0:=HL6.o 0 k0 hk0;obtain⟨nl,hnl⟩:=xq lens.length;obtain⟨nc,hnc⟩:=xq cs.length;rw[<-hnl]at es3 l1 ⊢;rw[<-hnc];have HNC:=zq hnc
   have hnlb:nl<=9223372036854775807:=by unfold maxLen at l2;omega
   have HEN:=zq hEn;have hsB:w.heap.size<w4.heap.size:=Nat.lt_of_lt_of_le hlA HW4.o.size;have HNL:=zq hnl;have HK0:=zq hk0;have HHD:=zq hhd;have hb10:=(HW20.o.block w.heap.size hlA (by omega) (by simp)).trans HBLK.o;have e0:w20.cell? ⟨w.heap.size,0,none⟩=some (.int .i64 0):=(cell_of_row w20 _ _ _ _ _ hb10).trans rfl;have e1:w20.cell? ⟨w.heap.size,1,none⟩=some (.int .i64 0):=(cell_of_row w20 _ _ _ _ _ hb10).trans rfl;have e2:w20.cell? ⟨w.heap.size,2,none⟩=some (.slice none 0 0):=(cell_of_row w20 _ _ _ _ _ hb10).trans rfl;have f0:w20.frozen? ⟨w.heap.size,0,none⟩=false:=frozen_of_row w20 _ 0 _ _ hb10;have f1:w20.frozen? ⟨w.heap.size,1,none⟩=false:=frozen_of_row w20 _ 1 _ _ hb10;have f2:w20.frozen? ⟨w.heap.size,2,none⟩=false:=frozen_of_row w20 _ 2 _ _ hb10;have HB10:=zq hb10;have hsl20:w.heap.size<w20.heap.size:=Nat.lt_of_lt_of_le hlA HW20.o.size;have hl20:=n3;clear n1 n2 n3 hEn es1 l2 l3 l6 hk0 hhd hnl hnc hb10 hN HR2;go_wp2_with fail;go_loopw [9,53] (fun _ iv wr=> ∃j:Nat,iv=.int .i64 (j:Nat)/\j<=nl/\(∀i x,i<j->lens[i]?=some x->x=k0)/\wr=w20) (fun _ iv _=>(nl-intOf iv).toNat)
   case atStart=>exact⟨0,rfl,Nat.zero_le _,fun i x h=>absurd h (Nat.not_lt_zero i),rfl⟩
   case round=>
    obtain⟨j,rfl,hjl,hall,hwe⟩:=hrel;subst hwe;have HALL:=zq hall;clear hall;by_cases hj:j<nl
    ·obtain⟨x,hx⟩:∃x,lens[j]?=some x:=⟨_,List.getElem?_eq_getElem (by rw[<-HNL.o];exact hj)⟩
     have cj:=HL6.o j x hx;have HX:=zq hx;clear hx;by_cases hxk:x=k0
     ·have hxb:((x:Int)==(k0:Int))=true:=by simp[hxk]
      have HXK:=zq hxk;clear hxk;go_wp2_with fail
      have hfin:∀i y,i<j+1->lens[i]?=some y->y=k0:=by
       intro i y hi hy;by_cases hij:i<j
       ·exact HALL.o i y hij hy
       ·have:i=j:=by omega
        subst this;rw[HX.o]at hy
        cases hy
        exact HXK.o
      first|exact⟨⟨j+1,rfl,by omega,hfin,rfl⟩,by simp[intOf]<;>omega⟩|exact⟨by (repeat apply Exists.intro);exact⟨⟨j+1,rfl,by omega,hfin,trivial⟩,rfl⟩,by simp[intOf]<;>omega⟩|exact⟨⟨j+1,rfl,by omega,hfin,trivial⟩,by simp[intOf]<;>omega⟩
     ·have hxb:((x:Int)==(k0:Int))=false:=by simp;omega
      have hre:r=some (.error (col,2)):=by
       rw[HR20.o];unfold SynP.Yo
       rw[if_pos (by
        rw[List.any_eq_true]
        exact⟨x,List.mem_of_getElem? HX.o,by rw[HHD.o];simpa using hxk⟩)]
       rfl
      have HRE:=zq hre;clear hxk hre;go_wp2_with fail;refine⟨rfl,?_⟩;rw[HRE.o];exact⟨rfl,RS.step HWA.o HW20.o⟩
    ·have hany: ¬(lens.any (· !=lens.headD 0))=true:=by
      rw[HHD.o,List.any_eq_true];rintro ⟨x,hx,hne⟩;obtain⟨i,hi⟩:=List.getElem?_of_mem hx;have hil:=(List.getElem?_eq_some_iff.1 hi).1;rw[<-HNL.o]at hil;have:=HALL.o i x (by omega) hi;simp[this]at hne
     have HRD:Hid (r=if 64<nl||64<k0 then SynP.fault col 5 else SynP.ret ⟨nl,k0,acc⟩ s20):=by
      show _=_;rw[HR20.o];unfold SynP.Yo;rw[if_neg hany];simp only[HHD.o,<-HNL.o]
     clear hany;by_cases h6:64<nl
     ·have hb6:(64:Int)<(nl:Int):=by omega
      have hre:r=some (.error (col,5)):=by rw[HRD.o,if_pos (by simp[h6])];rfl
      have HRE:=zq hre;clear h6 hre;go_wp2_with fail;refine⟨rfl,?_⟩;rw[HRE.o];exact⟨rfl,RS.step HWA.o HW20.o⟩
     ·by_cases h9:64<k0
      ·have hb6: ¬(64:Int)<(nl:Int):=by omega
       have hb9:(64:Int)<(k0:Int):=by omega
       have hre:r=some (.error (col,5)):=by rw[HRD.o,if_pos (by simp[h9])];rfl
       have HRE:=zq hre;clear h6 h9 hre;go_wp2_with fail;refine⟨rfl,?_⟩;rw[HRE.o];exact⟨rfl,RS.step HWA.o HW20.o⟩
      ·have hb6: ¬(64:Int)<(nl:Int):=by omega
       have hb9: ¬(64:Int)<(k0:Int):=by omega
       have hre:r=some (.ok (⟨nl,k0,acc⟩,s20)):=by rw[HRD.o,if_neg (by simp;omega)];rfl
       have HRE:=zq hre;clear h6 h9 hre;go_wp2_with fail;obtain⟨wS,hwS⟩:∃wS,wS=((wr.setCell ⟨w.heap.size,0,none⟩ (.int .i64 (nl:Int))).setCell ⟨w.heap.size,1,none⟩ (.int .i64 (k0:Int))).setCell ⟨w.heap.size,2,none⟩ (.slice ao nc acap):=⟨_,rfl⟩;rw[<-hwS];obtain⟨p1,p2,p3,p4⟩:=Da HB10.o hwS;obtain⟨q2,q3⟩:=H.o.loc HS20.o (RS.step HWA.o HW20.o) p2 (fun q hq=>by cases hq;exact Nat.le_refl _);have hz:=(HEN.o.wr p4 hsB).ird;rw[<-HNC.o]at hz;refine bodyPost_ret (results_cell_row rfl _ _ w.heap.size 47 _ _ _ rfl p1 Tryz.underlying47 rfl (by kernel_rfl)) rfl ?_;rw[HRE.o];exact⟨_,_,rfl,q2,q3,by omega,_,rfl,hz⟩
theorem Tryz.infoWss:(Tryz.prog.info? 36).map (fun i=>(i.zero,i.size,i.bytes))=some (some (.slice none 0 0),1,24):=by kernel_rfl
def Sx (w:World)(B:Nat)(og:Option Nat)(sv:Value)(s:List Nat):Prop:=∃ms:List Value,w.ownsRow B 59 1 sv ms.length ms/\ms.length=s.length/\(∀q,sv.ownBlock=some q->og≠some q)/\ ∀(i:Nat) (m:Value) (n:Nat),ms[i]?=some m->s[i]?=some n->NFr B w m n/\ ∀q,m.ownBlock=some q->sv.ownBlock≠some q/\og≠some q
theorem Sx.wr {w w':World}{B R:Nat}{og:Option Nat}{sv:Value}{s:List Nat}(h:Sx w B og sv s)(hw:Wr R none w w')(hR:R<B):Sx w' B og sv s:=by
 obtain⟨ms,H,J,I,E⟩:=h;exact⟨ms,U0 H hw hR,J,I,fun i m n hm hn=>⟨(E i m n hm hn).1.wr hw hR (fun q hq=>by cases hq),(E i m n hm hn).2⟩⟩
theorem Sx.mono {w:World}{B B':Nat}{og:Option Nat}{sv:Value}{s:List Nat}(h:Sx w B og sv s)(hb:B'<=B):Sx w B' og sv s:=by
 obtain⟨ms,H,J,I,E⟩:=h;exact⟨ms,X4 H hb,J,I,fun i m n hm hn=>⟨(E i m n hm hn).1.mono hb,(E i m n hm hn).2⟩⟩
theorem Sx.turn {w w':World}{B g:Nat}{og og':Option Nat}{sv:Value}{s:List Nat}(h:Sx w B og sv s)(hg:w.grownBy w' og)(hat:og'=some g)(hat2:og=some g\/g=w.heap.size):Sx w' B og' sv s:=by
 obtain⟨ms,K,T,I,O⟩:=h
 have H:∀q,q<w.heap.size->og≠some q->og'≠some q:=by
  intro q E J e;rw[hat]at e
  cases e
  rcases hat2 with h|h
  ·exact J h
  ·omega
 refine⟨ms,K.kept hg ?_,T,fun q E=>H q (K.lt q E).2 (I q E),fun i m n hm hn=> ?_⟩
 ·cases hv:sv.ownBlock with
  |none=>exact .inl rfl
  |some q=>exact .inr (fun e=>I q hv e.symm)
 ·obtain⟨q1,q2⟩:=O i m n hm hn
  exact⟨q1.grown hg (fun q E=>(q2 q E).2),fun q E=>⟨(q2 q E).1,H q (q1.2.1 q E).2 (q2 q E).2⟩⟩
theorem Sx.push {w w':World}{B g cap N:Nat}{og:Option Nat}{sv:Value}{ms:List Value}{s:List Nat}
  (h1:w.ownsRow B 59 1 sv ms.length ms) (h2:ms.length=s.length) (h3:∀q,sv.ownBlock=some q->og≠some q) (h4:∀(i:Nat) (m:Value) (n:Nat),ms[i]?=some m->s[i]?=some n->NFr B w m n/\ ∀q,m.ownBlock=some q->sv.ownBlock≠some q/\og≠some q)
  {m:Value} {k:Nat} (hm:NFr B w m k) (hd:∀q,m.ownBlock=some q->sv.ownBlock≠some q/\og≠some q) (hog:∀q,og=some q->q<w.heap.size)
  (hown:w'.ownsRow B 59 1 (.slice (some ⟨g,0,none⟩) N cap) N (ms++[m])) (hN:N=ms.length+1) (hg:w.grownBy w' sv.ownBlock) (hat:sv.ownBlock=some g\/g=w.heap.size):
  Sx w' B og (.slice (some ⟨g,0,none⟩) N cap) (s++[k]):=by
 subst hN
 have J:∀q,q<w.heap.size->sv.ownBlock≠some q->(Value.ownBlock (.slice (some ⟨g,0,none⟩) (ms.length+1) cap))≠some q:=by
  intro q E O e
  cases e
  rcases hat with h|h
  ·exact O h
  ·change g<_ at E;omega
 have K:(ms++[m]).length=ms.length+1:=by simp
 refine⟨ms++[m],by rw[K];exact hown,by rw[K,h2];simp,?_,?_⟩
 ·intro q E e
  cases E
  rcases hat with h|h
  ·exact h3 _ h e
  ·have:=hog _ e;change g<_ at this;omega
 ·intro i x n H I
  by_cases hlt:i<ms.length
  ·rw[List.getElem?_append_left hlt]at H
   rw[List.getElem?_append_left (by rw[<-h2];exact hlt)]at I;obtain⟨q1,q2⟩:=h4 i x n H I;exact⟨q1.grown hg (fun q E=>(q2 q E).1),fun q E=>⟨J q (q1.2.1 q E).2 (q2 q E).1,(q2 q E).2⟩⟩
  ·have T:i=ms.length:=by
    have:=(List.getElem?_eq_some_iff.1 H).1;rw[K]at this;omega
   subst T;rw[List.getElem?_append_right (Nat.le_refl _)]at H;rw[h2,List.getElem?_append_right (Nat.le_refl _)]at I;simp at H I;subst H;subst I;exact⟨hm.grown hg (fun q E=>(hd q E).1),fun q E=>⟨J q (hm.2.1 q E).2 (hd q E).1,(hd q E).2⟩⟩
structure Cx (w:World) (B:Nat) (lv:Value) (svs:List Value) (acc:List (List Nat)):Prop where
 own:w.ownsRow B 36 1 lv svs.length svs
 len:svs.length=acc.length
 el:∀(j:Nat) (sv:Value) (s:List Nat),svs[j]?=some sv->acc[j]?=some s->Sx w B lv.ownBlock sv s
theorem Cx.wr {w w':World}{B R:Nat}{lv:Value}{svs:List Value}{acc:List (List Nat)}(h:Cx w B lv svs acc)(hw:Wr R none w w')(hR:R<B):Cx w' B lv svs acc:=
 ⟨U0 h.own hw hR,h.len,fun j sv s h1 h2=>(h.el j sv s h1 h2).wr hw hR⟩
theorem Cx.push {w w':World}{B g cap N:Nat}{lv:Value}{svs:List Value}{acc:List (List Nat)}(h:Cx w B lv svs acc){sv:Value}{s:List Nat}(hs:Sx w B lv.ownBlock sv s)
  (hown:w'.ownsRow B 36 1 (.slice (some ⟨g,0,none⟩) N cap) N (svs++[sv])) (hN:N=svs.length+1) (hg:w.grownBy w' lv.ownBlock) (hat:lv.ownBlock=some g\/g=w.heap.size):
  Cx w' B (.slice (some ⟨g,0,none⟩) N cap) (svs++[sv]) (acc++[s]):=by
 subst hN
 have I:(svs++[sv]).length=svs.length+1:=by simp
 refine⟨by rw[I];exact hown,by rw[I,h.len];simp,?_⟩;intro j x t E H;by_cases hlt:j<svs.length
 ·rw[List.getElem?_append_left hlt]at E
  rw[List.getElem?_append_left (by rw[<-h.len];exact hlt)]at H;exact(h.el j x t E H).turn hg rfl hat
 ·have J:j=svs.length:=by
   have:=(List.getElem?_eq_some_iff.1 E).1;rw[I]at this;omega
  subst J;rw[List.getElem?_append_right (Nat.le_refl _)]at E;rw[h.len,List.getElem?_append_right (Nat.le_refl _)]at H;simp at E H;subst E;subst H;exact hs.turn hg rfl hat
theorem Sl.of_own {w:World}{B n:Nat}{e:TypeId}{v:Value}{xs:List Value}{P:Nat->Value->Prop}(h:w.ownsRow B e 1 v xs.length xs)(hn:xs.length=n)(hp:∀j u,xs[j]?=some u->P j u):Sl w v n P:=by
 obtain⟨ao,E,e,H,J,I⟩:=Qj h;subst hn;refine⟨ao,E,e,H,J,fun h0=> ?_⟩;obtain⟨g,rfl,a1,a2,a3⟩:=I h0;refine⟨g,0,rfl,a2,fun j hj=>⟨xs[j],?_,hp j _ (List.getElem?_eq_getElem hj)⟩⟩;rw[Nat.zero_add,a3 j (by omega),List.getElem?_eq_getElem hj]
theorem Cx.crd {w:World}{B:Nat}{lv:Value}{svs:List Value}{acc:List (List Nat)}(h:Cx w B lv svs acc):CRd w lv acc:=by
 refine Sl.of_own h.own h.len fun j sv hj=> ?_
 have E:j<acc.length:=by rw[<-h.len];exact(List.getElem?_eq_some_iff.1 hj).1
 refine⟨acc[j],List.getElem?_eq_getElem E,?_⟩;obtain⟨ms,K,I,-,J⟩:=h.el j sv acc[j] hj (List.getElem?_eq_getElem E);refine Sl.of_own K I fun i m hi=> ?_
 have H:i<acc[j].length:=by rw[<-I];exact(List.getElem?_eq_some_iff.1 hi).1
 exact⟨acc[j][i],List.getElem?_eq_getElem H,(J i m _ hi (List.getElem?_eq_getElem H)).1.1⟩
end Go.Proofs.YtgfmiladfeoldaaGreatDoor
