/- Joined texts of this claim's proof: RdJ, RdK, SynO, RdL. -/
import Derived.Test.YtgfmiladfeoldaaGreatDoorPk1
import Derived.Test.YtgfmiladfeoldaaGreatDoorPk22
import Derived.Test.YtgfmiladfeoldaaGreatDoorPk21
set_option linter.unusedSimpArgs false
set_option linter.unusedVariables false
set_option maxRecDepth 100000
set_option maxHeartbeats 16000000
namespace Go.Proofs.YtgfmiladfeoldaaGreatDoor
open Go.RowKit NatP LexP
def CxO (R:Nat)(tv:Value)(L:List Tok)(fin:Nat)(nv:Value)(ns:List Nv)(w:World)(N:Nat)(r:SynP.PR (List (List Nat)))(lv:Value)(wr:World):Prop:=
 ∃f acc svs a' s',SynP.Xa fin f acc s'=r/\RS wr R tv L fin a' s' nv ns/\Wr R none w wr/\Cx wr w.heap.size lv svs acc/\s'.ts.length<=N/\acc.length+s'.ts.length<=67108864
def CxI (R:Nat)(tv:Value)(L:List Tok)(fin:Nat)(nv:Value)(ns:List Nv)(w:World)(N:Nat)(og:Option Nat)(r:SynP.PR (List Nat))(sv:Value)(wr:World):Prop:=
 ∃f x a' s',SynP.X0 fin f x s'=r/\RS wr R tv L fin a' s' nv ns/\Wr R none w wr/\Sx wr w.heap.size og sv x/\s'.ts.length+1<=N/\x.length+s'.ts.length<=67108864
theorem Qq7 (R:Nat)(tv:Value)(L:List Tok)(fin a:Nat)(s:SynP.St)(nv:Value)(ns:List Nv)(w:World)(h:RS w R tv L fin a s nv ns)(f:Nat)(hf:SynP.Xg fin f s≠none):
  Calls Tryz.prog 114 #[.pointer (some ⟨R,0,none⟩)] w (RB (SynP.Xg fin f s) R tv L fin s nv ns (fun l v w'=> ∃svs,Cx w' w.heap.size v svs l) w):=by
 have H:=zq h;have hRl:=h.lt;obtain⟨r,hr⟩:=xq (SynP.Xg fin f s);rw[<-hr]at hf ⊢
 have HR0:Hid (r=(SynP.want fin [123] s).bind fun _ s=>if SynP.Qv [125] s.ts then SynP.ret [] s.adv else SynP.Xa fin f [] s):=by
  show _=_;rw[hr];rfl
 have HNE:=zq hf
 have hts:s.ts.length<=67108864:=by have:=h.short;rw[<-h.drop,List.length_drop];omega
 obtain⟨i0,hi,hz0,hz1,hz2⟩:=info_parts Tryz.infoWs;obtain⟨j0,hj,hk0,hk1,hk2⟩:=info_parts Tryz.infoWss;clear h hr hf;go_enter Tryz.func114,Tryz.ntmps114;go_wp2_with fail;refine(Vn R tv L fin a s nv ns _ H.o [123]).mono ?_;rintro e w2 hn;rcases hN:SynP.want fin [123] s with- |(⟨fc,fk⟩|⟨u2',s2⟩)
 ·rw[hN]at hn;exact hn.elim
 ·rw[hN]at hn
  obtain⟨rfl,n1⟩:=hn;refine⟨rfl,?_⟩
  have hre:r=some (.error (fc,fk)):=by rw[HR0.o,hN];rfl
  rw[hre];exact⟨rfl,n1⟩
 rw[hN]at hn;obtain⟨v2,a2,rfl,n1,n2,n3,rfl⟩:=hn;have hl2:=Vy hN
 have HR2:Hid (r=if SynP.Qv [125] s2.ts then SynP.ret [] s2.adv else SynP.Xa fin f [] s2):=by show _=_;rw[HR0.o,hN];rfl
 have HA:=zq (Qq w2 (.cells #[] 36));have HS2:=zq (n1.below HA.o);have HW2:=zq (RS.step n2 (Wr.of_below HA.o))
 have hC2:Cx (w2.alloc (.cells #[] 36)) w.heap.size (.slice (some ⟨w2.heap.size,0,none⟩) 0 0) [] []:=
  ⟨World.ownsRow_made w2 #[] 0 n2.size (Nat.zero_le _) rfl,rfl,fun j sv s h=>by simp at h⟩
 have HC2:=zq hC2;clear n1 n2 n3 hN hC2;go_wp2_with fail;refine(Zx R tv L fin a2 s2 nv ns _ HS2.o [125]).mono ?_;rintro e w3 ⟨rfl,t1,t2⟩;have HW3:=zq (RS.step HW2.o t1);have HC3:=zq (HC2.o.wr t1 hRl);clear t1
 cases hm:SynP.Qv [125] s2.ts with
 |true=>
  rw[if_pos hm]at t2;have HS3:=zq t2;have HM:=zq hm;clear t2 hm;go_wp2_with fail;go_ret;rw[HR2.o,if_pos HM.o]
  exact⟨_,_,rfl,HS3.o,HW3.o,Nat.le_trans (Zh s2) (by omega),_,HC3.o⟩
 |false=>
  rw[if_neg (by rw[hm];decide)]at t2 HR2;have HS3:=zq t2;have HM:=zq hm;have HST:Hid (CxO R tv L fin nv ns w s.ts.length r (.slice (some ⟨w2.heap.size,0,none⟩) 0 0) w3):=⟨f,[],[],a2,s2,HR2.o.symm,t2,HW3.o,HC3.o,by omega,by simp;omega⟩;clear t2 hm HR2;go_wp2_with fail;go_loopw [2,3,4] (fun _ lv _ wr=>CxO R tv L fin nv ns w s.ts.length r lv wr) (fun _ _ _ wr=>Qc L R wr)
  case atStart=>exact HST.o
  clear HST HS3 HW3 HC3 HS2 HW2 HC2
  case round=>
   obtain⟨f,acc,svs,a4,s4,hen,hrs,hwr,hcx,hb1,hb2⟩:=hrel;obtain⟨wo,rfl⟩:=xq wr
   cases f with
   |zero=>exact absurd hen.symm HNE.o
   |succ f=>
    have HR4:Hid (r=(SynP.Qi fin s4).bind fun n s=>(SynP.X0 fin f [n] s).bind fun x s=>if SynP.Qv [125] s.ts then SynP.ret (acc++[x]) s.adv else (SynP.want fin [44] s).bind fun _ s=>SynP.Xa fin f (acc++[x]) s):=hen.symm;have HS4:=zq hrs;have HW4:=zq hwr;have HC4:=zq hcx;have HL4:=zq hrs.left;have hRo:=hrs.lt;clear hen hrs hwr hcx;go_wp2_with fail;refine(Z0 R tv L fin a4 s4 nv ns _ HS4.o).mono ?_;rintro e w5 hn;rcases hN:SynP.Qi fin s4 with- |(⟨fc,fk⟩|⟨m,s5⟩)
    ·rw[hN]at hn;exact hn.elim
    ·rw[hN]at hn
     obtain⟨rfl,n1⟩:=hn;refine⟨rfl,?_⟩
     have hre:r=some (.error (fc,fk)):=by rw[HR4.o,hN];rfl
     rw[hre];exact⟨rfl,RS.step HW4.o n1⟩
    rw[hN]at hn;obtain⟨v5,a5,rfl,n1,n2,n3,n4⟩:=hn;have hl5:=Yl hN
    have HR5:Hid (r=(SynP.X0 fin f [m] s5).bind fun x s=>if SynP.Qv [125] s.ts then SynP.ret (acc++[x]) s.adv else (SynP.want fin [44] s).bind fun _ s=>SynP.Xa fin f (acc++[x]) s):=by show _=_;rw[HR4.o,hN];rfl
    obtain⟨vo,vcap,vl,rfl⟩:∃vo vcap vl,v5=.slice vo vl vcap:=by
     obtain⟨⟨xs,hx,-⟩,-⟩:=n4;obtain⟨vo,vcap,e,-⟩:=hx.2;exact⟨vo,vcap,_,e⟩
    have HA5:=zq (Qq w5 (.cells #[.slice vo vl vcap] 59));have HS5:=zq (n1.below HA5.o);have HW5:=zq (RS.step n2 (Wr.of_below HA5.o))
    have hSx:Sx (w5.alloc (.cells #[.slice vo vl vcap] 59)) wo.heap.size u3.ownBlock (.slice (some ⟨w5.heap.size,0,none⟩) 1 1) [m]:=by
     refine⟨[.slice vo vl vcap],⟨rfl,.inr ⟨w5.heap.size,1,_,rfl,n2.size,heap_alloc_new w5 _,Nat.le_refl _,by unfold maxLen;omega,rfl,rfl⟩⟩,rfl,?_,?_⟩
     ·intro q hq e
      cases hq
      have h7:=(HC4.o.own.lt _ e).2;change w5.heap.size<wo.heap.size at h7;have:=n2.size;omega
     ·intro i x n hx hn
      have hi:i=0:=by have:=(List.getElem?_eq_some_iff.1 hx).1;simp at this;exact this
      subst hi;simp at hx hn;subst hx;subst hn;refine⟨n4.wr (R:=R) (og:=none) (Wr.of_below HA5.o) hRo (fun q hq=>by cases hq),fun q hq=>⟨fun e=> ?_,fun e=> ?_⟩⟩
      ·cases e
       have h7:=(n4.2.1 _ hq).2;change w5.heap.size<w5.heap.size at h7;omega
      ·have:=(HC4.o.own.lt _ e).2
       have:=(n4.2.1 q hq).1;omega
    obtain⟨r2,hr2⟩:=xq (SynP.X0 fin f [m] s5);rw[<-hr2]at HR5
    have HR2N:Hid (r2≠none):=by
     intro e;have:=HR5.o;rw[e]at this;exact HNE.o this
    have HI:Hid (CxI R tv L fin nv ns wo s4.ts.length u3.ownBlock r2 (.slice (some ⟨w5.heap.size,0,none⟩) 1 1) (w5.alloc (.cells #[.slice vo vl vcap] 59))):=⟨f,[m],a5,s5,hr2.symm,HS5.o,HW5.o,hSx,by omega,by simp;omega⟩;clear n1 n2 n3 n4 hN hSx hr2 HR4 HS5 HW5;go_wp2_with fail;go_loopw [4] (fun sv wr=>CxI R tv L fin nv ns wo s4.ts.length u3.ownBlock r2 sv wr) (fun _ wr=>Qc L R wr)
    case atStart=>exact HI.o
    clear HI
    case round=>
     obtain⟨f2,x,a6,s6,hsi,hrs,hwr,hsx,hb3,hb4⟩:=hrel
     cases f2 with
     |zero=>exact absurd hsi.symm HR2N.o
     |succ f2=>
      have HS6:=zq hrs;have HW6:=zq hwr;have HX6:=zq hsx;have HL6:=zq hrs.left;have HSI:=zq hsi;have hck:=Xj 1 [] s6.ts (by decide);clear hrs hwr hsx hsi
      cases hk:SynP.Qy 1 s6.ts with
      |true=>
       rw[hk]at hck;have HCK:=zq hck
       have HSJ:Hid (r2=(SynP.Qi fin s6).bind fun n s=>SynP.X0 fin f2 (x++[n]) s):=by
        have h1:=HSI.o;unfold SynP.X0 at h1;rw[if_pos hk]at h1;exact h1.symm
       clear hck hk HSI;go_wp2_with fail;refine(Qt R tv L fin a6 s6 nv ns _ HS6.o 0 1 [] (by omega) (by omega)).mono ?_;rintro e w7 ⟨rfl,b1⟩;rw[HCK.o];have HS7:=zq (HS6.o.below b1);have HW7:=zq (RS.step HW6.o (Wr.of_below b1));have HX7:=zq (HX6.o.wr (R:=R) (Wr.of_below b1) hRo);clear b1;go_wp2_with fail;refine(Z0 R tv L fin a6 s6 nv ns _ HS7.o).mono ?_;rintro e w8 hn;rcases hN:SynP.Qi fin s6 with- |(⟨fc,fk⟩|⟨m2,s8⟩)
       ·rw[hN]at hn;exact hn.elim
       ·rw[hN]at hn
        obtain⟨rfl,n1⟩:=hn;refine⟨rfl,?_⟩
        have hre:r=some (.error (fc,fk)):=by rw[HR5.o,HSJ.o,hN];rfl
        rw[hre];exact⟨rfl,RS.step HW4.o (RS.step HW7.o n1)⟩
       rw[hN]at hn;obtain⟨v8,a8,rfl,n1,n2,n3,n4⟩:=hn;have hl8:=Yl hN
       have HSK:Hid (SynP.X0 fin f2 (x++[m2]) s8=r2):=by show _=_;rw[HSJ.o,hN];rfl
       obtain⟨yo,ycap,yl,rfl⟩:∃vo vcap vl,v8=.slice vo vl vcap:=by
        obtain⟨⟨xs,hx,-⟩,-⟩:=n4;obtain⟨vo,vcap,e,-⟩:=hx.2;exact⟨vo,vcap,_,e⟩
       have HA8:=zq (Qq w8 (.cells #[.slice yo yl ycap] 59));have HS8:=zq (n1.below HA8.o);have HW8:=zq (RS.step (RS.step HW7.o n2) (Wr.of_below HA8.o));obtain⟨ms,h1,h2,h3,h4⟩:=(HX7.o.wr n2 hRo).wr (R:=R) (Wr.of_below HA8.o) hRo;have hsz7:=HW7.o.size;have hsz8:=n2.size;have hm8:NFr wo.heap.size (w8.alloc (.cells #[.slice yo yl ycap] 59)) (.slice yo yl ycap) m2:=(n4.wr (R:=R) (og:=none) (Wr.of_below HA8.o) (by omega) (fun q hq=>by cases hq)).mono hsz7
       have hd8:∀q,(Value.ownBlock (.slice yo yl ycap))=some q->u4.ownBlock≠some q/\u3.ownBlock≠some q:=by
        intro q hq;have h7:=(n4.2.1 q hq).1;refine⟨fun e=> ?_,fun e=> ?_⟩
        ·obtain⟨ms',g1,-⟩:=HX7.o
         have:=(g1.lt q e).2;omega
        ·have:=(HC4.o.own.lt q e).2;omega
       obtain⟨nx,hnx⟩:=xq ms.length;have HNX:=zq hnx
       have hnxl:nx<=67108864:=by rw[hnx,h2];omega
       have H1:=zq h1;have H2:=zq h2;have H3:=zq h3;have H4:=zq h4;have HM8:=zq hm8;have HD8:=zq hd8
       have hOW:(w8.alloc (.cells #[.slice yo yl ycap] 59)).ownsRow wo.heap.size 59 1 u4 nx ms:=by rw[hnx];exact h1
       have HOW:=zq hOW;clear n1 n2 n3 n4 hN h1 h2 h3 h4 hm8 hd8 hnx hOW;go_wp2_with (at_builtin;refine wpList_append_lies _ rfl _ _ 36 rfl wo.heap.size 59 i0 (.slice none 0 0) 1 24 Tryz.underlying36 hi hz0 hz1 hz2 rfl (by omega) u4 nx ms rfl HOW.o ⟨w8.heap.size,0,none⟩ 1 1 [.slice yo yl ycap] rfl rfl (LexP.Qb _ _ _ _ rfl) (by simp[Value.oneCell']) (by omega) (by unfold maxLen;omega) (by omega) (by simp;omega) (w8.heap.size+1) (by simp) ?_);intro gg cap w9 hown9 hgrow hat hlt9;have q1:=Sx.push (og:=u3.ownBlock) H1.o H2.o H3.o H4.o HM8.o HD8.o (fun q hq=>by have:=(HC4.o.own.lt q hq).2;simp;omega) hown9 (by rw[HNX.o]) hgrow (by simpa using hat);obtain⟨q2,q3⟩:=HS4.o.loc HS8.o HW8.o hgrow (fun q hq=>(H1.o.lt q hq).1);have HQ1:=zq q1;have HQ2:=zq q2;have HQ3:=zq q3;have HLFT:=zq q2.left;clear hown9 hgrow hat hlt9 q1 q2 q3;go_wp2_with fail;have hfin:CxI R tv L fin nv ns wo s4.ts.length u3.ownBlock r2 (.slice (some ⟨gg,0,none⟩) (nx+1) cap) w9:=⟨f2,x++[m2],a8,s8,HSK.o,HQ2.o,HQ3.o,HQ1.o,by omega,by rw[List.length_append,List.length_singleton];omega⟩
       have hlf:Qc L R w9<Qc L R wr:=by rw[HLFT.o,HL6.o];omega
       first|exact⟨hfin,hlf⟩|exact⟨by (repeat apply Exists.intro);exact⟨hfin,rfl⟩,hlf⟩
      |false=>
       rw[hk]at hck;have HCK:=zq hck
       have HSJ:Hid (r=if SynP.Qv [125] s6.ts then SynP.ret (acc++[x]) s6.adv else (SynP.want fin [44] s6).bind fun _ s=>SynP.Xa fin f (acc++[x]) s):=by
        have h1:=HSI.o;unfold SynP.X0 at h1;rw[if_neg (by rw[hk];decide)]at h1;show _=_;rw[HR5.o,<-h1];rfl
       clear hck hk HSI;go_wp2_with fail;refine(Qt R tv L fin a6 s6 nv ns _ HS6.o 0 1 [] (by omega) (by omega)).mono ?_;rintro e w7 ⟨rfl,b1⟩;rw[HCK.o];have HS7:=zq (HS6.o.below b1);have HW7:=zq (RS.step HW4.o (RS.step HW6.o (Wr.of_below b1)));have HX7:=zq (HX6.o.wr (R:=R) (Wr.of_below b1) hRo);have HC7:=zq (HC4.o.wr (RS.step HW6.o (Wr.of_below b1)) hRl);clear b1
       obtain⟨so,scap,sl,rfl⟩:∃so scap sl,u4=.slice so sl scap:=by
        obtain⟨ms,h1,-⟩:=HX7.o;obtain⟨so,scap,e,-⟩:=Qj h1;exact⟨so,scap,_,e⟩
       have HA7:=zq (Qq w7 (.cells #[.slice so sl scap] 36));have HS8:=zq (HS7.o.below HA7.o);have HW8:=zq (RS.step HW7.o (Wr.of_below HA7.o));have HX8:=zq ((HX7.o.wr (R:=R) (Wr.of_below HA7.o) hRo).mono HW4.o.size);have HC8:=zq (HC7.o.wr (R:=R) (Wr.of_below HA7.o) hRl);obtain⟨nx,hnx⟩:=xq svs.length;have HNX:=zq hnx
       have hnxl:nx<=67108864:=by rw[hnx,HC8.o.len];omega
       have hOW:(w7.alloc (.cells #[.slice so sl scap] 36)).ownsRow w.heap.size 36 1 u3 nx svs:=by rw[hnx];exact HC8.o.own
       have HOW:=zq hOW;have hsz7:=HW7.o.size;clear hnx hOW;go_wp2_with (at_builtin;refine wpList_append_lies _ rfl _ _ 97 rfl w.heap.size 36 j0 (.slice none 0 0) 1 24 Tryz.underlying97 hj hk0 hk1 hk2 rfl (by omega) u3 nx svs rfl HOW.o ⟨w7.heap.size,0,none⟩ 1 1 [.slice so sl scap] rfl rfl (LexP.Qb _ _ _ _ rfl) (by simp[Value.oneCell']) (by omega) (by unfold maxLen;omega) (by omega) (by simp;omega) (w7.heap.size+1) (by simp) ?_);intro gg cap w9 hown9 hgrow hat hlt9;have q1:=HC8.o.push HX8.o hown9 (by rw[HNX.o]) hgrow (by simpa using hat);obtain⟨q2,q3⟩:=H.o.loc HS8.o HW8.o hgrow (fun q hq=>(HC8.o.own.lt q hq).1);have HQ1:=zq q1;have HQ2:=zq q2;have HQ3:=zq q3;clear hown9 hgrow hat hlt9 q1 q2 q3;go_wp2_with fail;refine(Zx R tv L fin a6 s6 nv ns _ HQ2.o [125]).mono ?_;rintro e w10 ⟨rfl,t1,t2⟩;have T1:=zq (RS.step HQ3.o t1);have TC:=zq (HQ1.o.wr t1 hRl);clear t1
       cases h93:SynP.Qv [125] s6.ts with
       |true=>
        rw[if_pos h93]at t2;have T2:=zq t2;have H93:=zq h93;clear t2 h93;go_wp2_with fail;go_ret;rw[HSJ.o,if_pos H93.o]
        exact⟨_,_,rfl,T2.o,T1.o,Nat.le_trans (Zh s6) (by omega),_,TC.o⟩
       |false=>
        rw[if_neg (by rw[h93];decide)]at t2;have T2:=zq t2;have H93:=zq h93;clear t2 h93;go_wp2_with fail;refine(Vn R tv L fin a6 s6 nv ns _ T2.o [44]).mono ?_;rintro e w11 hn;rcases hN:SynP.want fin [44] s6 with- |(⟨fc,fk⟩|⟨m,s11⟩)
        ·rw[hN]at hn;exact hn.elim
        ·rw[hN]at hn
         obtain⟨rfl,n1⟩:=hn;refine⟨rfl,?_⟩
         have hre:r=some (.error (fc,fk)):=by rw[HSJ.o,if_neg (by rw[H93.o];decide),hN];rfl
         rw[hre];exact⟨rfl,RS.step T1.o n1⟩
        ·rw[hN]at hn
         obtain⟨v,a11,rfl,n1,n2,n3,rfl⟩:=hn;have hwl:=Vy hN
         have hre:SynP.Xa fin f (acc++[x]) s11=r:=by rw[HSJ.o,if_neg (by rw[H93.o];decide),hN];rfl
         have HRF:=zq hre;have HL11:=zq n1.left;have HN1:=zq n1;have HN2:=zq (RS.step T1.o n2);have HC11:=zq (TC.o.wr n2 hRl);clear n1 n2 n3 hre hN;go_wp2_with fail;have hfin:CxO R tv L fin nv ns w s.ts.length r (.slice (some ⟨gg,0,none⟩) (nx+1) cap) w11:=⟨f,acc++[x],_,a11,s11,HRF.o,HN1.o,HN2.o,HC11.o,by omega,by rw[List.length_append,List.length_singleton];omega⟩
         have hlf:Qc L R w11<Qc L R wo:=by rw[HL11.o,HL4.o];omega
         first|exact⟨hfin,hlf⟩|exact⟨by (repeat apply Exists.intro);exact⟨hfin,rfl⟩,hlf⟩
structure PSt (R:Nat) (tv:Value) (L:List Tok) (fin:Nat) (s0:SynP.St) (nv:Value) (ns:List Nv) (w wr:World) (a':Nat) (s':SynP.St) (nv':Value) (ns':List Nv):Prop where
 rs:RS wr R tv L fin a' s' nv' (ns++ns')
 wr:Wr R nv.ownBlock w wr
 mv:Mv w nv.ownBlock nv'.ownBlock
 few:(ns++ns').length+s'.ts.length<=ns.length+s0.ts.length
 opn:s'.opened=s0.opened
 fresh:∀p∈ns',∀q,p.2.ownBlock=some q->w.heap.size<=q
theorem PSt.refl {R:Nat}{tv:Value}{L:List Tok}{fin a:Nat}{s:SynP.St}{nv:Value}{ns:List Nv}{w:World}(h:RS w R tv L fin a s nv ns):PSt R tv L fin s nv ns w w a s nv []:=
 ⟨by rw[List.append_nil];exact h,Wr.refl _ _ _,Mv.refl _ _,by rw[List.append_nil];exact Nat.le_refl _,rfl,fun p hp=>by cases hp⟩
theorem PSt.trans {R:Nat}{tv:Value}{L:List Tok}{fin:Nat}{s0 s1 s2:SynP.St}{nv nv1 nv2:Value}{ns ns1 ns2:List Nv}{w w1 w2:World}{a1 a2:Nat}(h:PSt R tv L fin s0 nv ns w w1 a1 s1 nv1 ns1)(k:PSt R tv L fin s1 nv1 (ns++ns1) w1 w2 a2 s2 nv2 ns2):
  PSt R tv L fin s0 nv ns w w2 a2 s2 nv2 (ns1++ns2):=
 ⟨by rw[<-List.append_assoc];exact k.rs,h.wr.trans h.mv k.wr,Mv.trans (R:=R) (w':=w1) h.mv h.wr.size k.mv,by have:=h.few;have:=k.few;rw[<-List.append_assoc];omega,k.opn.trans h.opn,fun p E q hq=>by
  rcases List.mem_append.1 E with E|E
  ·exact h.fresh p E q hq
  ·exact Nat.le_trans h.wr.size (k.fresh p E q hq)⟩
theorem PSt.step {R:Nat}{tv:Value}{L:List Tok}{fin:Nat}{s0 s1 s2:SynP.St}{nv nv1:Value}{ns ns1:List Nv}{w w1 w2:World}{a1 a2:Nat}(h:PSt R tv L fin s0 nv ns w w1 a1 s1 nv1 ns1)(k:RS w2 R tv L fin a2 s2 nv1 (ns++ns1))(hw:Wr R none w1 w2)(hl:s2.ts.length<=s1.ts.length)(ho:s2.opened=s1.opened):
  PSt R tv L fin s0 nv ns w w2 a2 s2 nv1 ns1:=
 ⟨k,h.wr.trans h.mv (hw.weak _),h.mv,by have:=h.few;omega,ho.trans h.opn,h.fresh⟩
theorem PSt.putS {R:Nat}{tv:Value}{L:List Tok}{fin:Nat}{s0 s1:SynP.St}{nv nv1 nv2:Value}{ns ns1:List Nv}{w w1 w2:World}{a1:Nat}{nd:SynP.Node}{kv:Value}(h:PSt R tv L fin s0 nv ns w w1 a1 s1 nv1 ns1)
  (k:RS w2 R tv L fin a1 s1 nv2 (ns++ns1++[(nd,kv)])) (hw:Wr R nv1.ownBlock w1 w2) (hm:Mv w1 nv1.ownBlock nv2.ownBlock) (hf:(ns++ns1).length+1+s1.ts.length<=ns.length+s0.ts.length) (hv:∀q,kv.ownBlock=some q->w.heap.size<=q):
  PSt R tv L fin s0 nv ns w w2 a1 s1 nv2 (ns1++[(nd,kv)]):=
 ⟨by rw[<-List.append_assoc];exact k,h.wr.trans h.mv hw,Mv.trans (R:=R) (w':=w1) h.mv h.wr.size hm,by rw[<-List.append_assoc,List.length_append,List.length_singleton];omega,h.opn,fun p E q hq=>by
  rcases List.mem_append.1 E with E|E
  ·exact h.fresh p E q hq
  ·rw[List.mem_singleton.1 E]at hq;exact hv q hq⟩
def RP {α:Type}(r:SynP.PR α)(R:Nat)(tv:Value)(L:List Tok)(fin:Nat)(s:SynP.St)(nv:Value)(ns:List Nv)(Q:α->Value->List Nv->Value->World->Prop)(w:World)(e:Ending)(w':World):Prop:=
 match r with
 |none=>False
 |some (.error (c,k))=>e=Eb c k/\Wr R nv.ownBlock w w'
 |some (.ok (x,s'))=> ∃v a' nv' ns',e=.returned v/\PSt R tv L fin s nv ns w w' a' s' nv' ns'/\Q x v ns' nv' w'
def ExQ (ns:List Nv)(e:SynP.Ex)(v:Value)(ns':List Nv)(_:Value)(_:World):Prop:=v=.int .i64 ((ns.length+e.size-1:Nat):Int)/\ns'.map Prod.fst=e.flat ns.length
mutual
theorem Up:∀(e:SynP.Ex) (o:Nat),(e.flat o).length=e.size
 | .num _,_| .name _,_| .mat _,_| .cpx _,_=>rfl
 | .neg a,o| .turn a,o| .pow a _,o=>by simp[SynP.Ex.flat,SynP.Ex.size,Up a]
 | .add a b,o| .sub a b,o| .mul a b,o=>by simp[SynP.Ex.flat,SynP.Ex.size,Up a,Up b];omega
 | .call _ l,o=>by simp[SynP.Ex.flat,SynP.Ex.size,Un l]
theorem Un:∀(l:SynP.Exs) (o:Nat),(l.flat o).length=l.size
 | .nil,_=>rfl
 | .cons a l,o=>by simp[SynP.Exs.flat,SynP.Exs.size,Up a,Un l]
end
theorem Z5:∀e:SynP.Ex,0<e.size:=by
 intro e;cases e<;>simp[SynP.Ex.size]
theorem ExQ.len {ns ns':List Nv}{e:SynP.Ex}{v nv:Value}{w:World}(h:ExQ ns e v ns' nv w):ns'.length=e.size:=by
 have:=congrArg List.length h.2;rw[List.length_map,Up]at this;exact this
theorem KNew.fresh {w:World}{R:Nat}{tv:Value}{L:List Tok}{fin a:Nat}{s:SynP.St}{nv:Value}{ns:List Nv}(h:RS w R tv L fin a s nv ns)(ks:List Nat):
  KNew (w.alloc (.cells (ks.map fun k=>Value.int .i64 ((k:Nat):Int)).toArray 3)) R nv ns (.slice (some ⟨w.heap.size,0,none⟩) ks.length ks.length) ks\/9223372036854775807<ks.length:=by
 by_cases hl:ks.length<=9223372036854775807
 ·left
  have J:=heap_alloc_new w (.cells (ks.map fun k=>Value.int .i64 ((k:Nat):Int)).toArray 3);refine⟨⟨_,_,rfl,Nat.le_refl _,by unfold maxLen;omega,?_,fun _=>⟨_,rfl,fun j k hj=> ?_⟩⟩,fun p hp q H e=> ?_⟩
  ·intro q H
   cases H
   refine⟨h.lt,by simp,fun e=> ?_⟩;have E:=(h.own.lt _ e).2;change w.heap.size<w.heap.size at E;omega
  ·rw[cell_of_row _ _ _ _ _ _ J];simp[hj]
  ·cases e
   obtain⟨ao,K,e1,-,-,I,-⟩:=h.kids p hp;have E:=(I _ H).2.1;change w.heap.size<w.heap.size at E;omega
 ·right;omega
theorem KNew.nil {w:World}{R:Nat}{nv:Value}{ns:List Nv}:KNew w R nv ns (.slice none 0 0) []:=
 ⟨⟨none,0,rfl,Nat.le_refl _,Nat.zero_le _,fun q hq=>by simp[Value.ownBlock]at hq,fun h=>absurd h (Nat.lt_irrefl _)⟩,fun p _ q _ e=>by simp[Value.ownBlock]at e⟩
end Go.Proofs.YtgfmiladfeoldaaGreatDoor
namespace SynP
open LexP
def Keep (s s':St):Prop:=s'.opened=s.opened/\s'.ts.length<=s.ts.length
theorem Keep.refl (s:St):Keep s s:=⟨rfl,Nat.le_refl _⟩
theorem Keep.trans {a b c:St}(h:Keep a b)(k:Keep b c):Keep a c:=⟨k.1.trans h.1,Nat.le_trans k.2 h.2⟩
theorem Keep.adv (s:St):Keep s s.adv:=⟨rfl,by show s.ts.tail.length<=_;rw[List.length_tail];omega⟩
theorem Yd {α:Type}{a:α}{s:St}{r:α×St}(h:ret a s=some (.ok r)):r=(a,s):=by unfold ret at h;cases h;rfl
theorem Z3 {α:Type}{c k:Nat}{r:α×St}(h:(fault c k:PR α)=some (.ok r)):False:=by unfold fault at h;cases h
theorem Ys {fin:Nat}{x:Qx}{s:St}{r:Unit×St}(h:want fin x s=some (.ok r)):Keep s r.2:=by
 unfold want at h;split at h
 ·rw[Yd h];exact Keep.adv s
 ·unfold unfit at h;exact(Z3 h).elim
theorem Zn {fin:Nat}{s:St}{r:Nat×St}(h:Qi fin s=some (.ok r)):Keep s r.2:=by
 unfold Qi at h;split at h
 ·rw[Yd h];exact Keep.adv s
 ·unfold unfit at h;exact(Z3 h).elim
theorem Rg (fin:Nat):∀(f n:Nat) (acc:List (Bool×Nat)) (s:St) (r:(Nat×List (Bool×Nat))×St),Q9 fin f n acc s=some (.ok r)->Keep s r.2
 |0,_,_,_,_,h=>by cases h
 |f+1,n,acc,s,r,h=>by
  unfold Q9 at h;split at h
  ·obtain⟨m,s',h1,h2⟩:=Q0 h
   have k1:=Zn h1;have k2:=Rg fin f _ _ _ _ h2;refine Keep.trans ?_ (k1.trans k2);split
   ·exact Keep.adv s
   ·exact Keep.refl s
  ·rw[Yd h];exact Keep.refl s
theorem U4 (fin:Nat):∀(f:Nat) (acc:List (Bool×Nat)) (lens:List Nat) (s:St) (r:(List (Bool×Nat)×List Nat)×St),entries fin f acc lens s=some (.ok r)->Keep s r.2
 |0,_,_,_,_,h=>by cases h
 |f+1,acc,lens,s,r,h=>by
  unfold entries at h;obtain⟨q,s1,h1,h2⟩:=Q0 h;have k1:=Rg fin f _ _ _ _ h1;split at h2
  ·rw[Yd h2];exact k1.trans (Keep.adv s1)
  ·obtain⟨u,s2,E,H⟩:=Q0 h2
   exact k1.trans ((Ys E).trans (U4 fin f _ _ _ _ H))
theorem Sw {fin f:Nat}{s:St}{r:MatV×St}(h:X6 fin f s=some (.ok r)):Keep s r.2:=by
 unfold X6 at h;obtain⟨u,s1,O,H⟩:=Q0 h;refine(Ys O).trans ?_;split at H
 ·unfold Ja at H
  obtain⟨a,s2,g1,I⟩:=Q0 H;obtain⟨_,s3,g2,E⟩:=Q0 I;obtain⟨c,s4,g3,K⟩:=Q0 E;obtain⟨_,s5,g4,J⟩:=Q0 K;refine(Zn g1).trans ((Ys g2).trans ((Zn g3).trans ((Ys g4).trans ?_)));split at J
  ·exact(Z3 J).elim
  ·rw[Yd J];exact Keep.refl _
 ·obtain⟨q,s2,I,E⟩:=Q0 H
  refine(U4 fin f _ _ _ _ I).trans ?_;unfold Yo at E;split at E
  ·exact(Z3 E).elim
  ·split at E
   ·exact(Z3 E).elim
   ·rw[Yd E];exact Keep.refl _
theorem Tc (fin:Nat):∀(f:Nat) (acc:List Nat) (s:St) (r:List Nat×St),X0 fin f acc s=some (.ok r)->Keep s r.2
 |0,_,_,_,h=>by cases h
 |f+1,acc,s,r,h=>by
  unfold X0 at h;split at h
  ·obtain⟨m,s',h1,h2⟩:=Q0 h
   exact(Zn h1).trans (Tc fin f _ _ _ h2)
  ·rw[Yd h];exact Keep.refl s
theorem Tg (fin:Nat):∀(f:Nat) (acc:List (List Nat)) (s:St) (r:List (List Nat)×St),Xa fin f acc s=some (.ok r)->Keep s r.2
 |0,_,_,_,h=>by cases h
 |f+1,acc,s,r,h=>by
  unfold Xa at h;obtain⟨n,s1,h1,h2⟩:=Q0 h;obtain⟨x,s2,H,E⟩:=Q0 h2;refine(Zn h1).trans ((Tc fin f _ _ _ H).trans ?_);split at E
  ·rw[Yd E];exact Keep.adv s2
  ·obtain⟨u,s3,J,I⟩:=Q0 E
   exact(Ys J).trans (Tg fin f _ _ _ I)
theorem Tf {fin f:Nat}{s:St}{r:List (List Nat)×St}(h:Xg fin f s=some (.ok r)):Keep s r.2:=by
 unfold Xg at h;obtain⟨u,s1,H,E⟩:=Q0 h;refine(Ys H).trans ?_;split at E
 ·rw[Yd E];exact Keep.adv s1
 ·exact Tg fin f _ _ _ E
end SynP
namespace Go.Proofs.YtgfmiladfeoldaaGreatDoor
open Go.RowKit NatP LexP
def ExOk (F:Nat)(P:SynP.St->SynP.PR SynP.Ex)(fin:Nat):Prop:=∀(R:Nat) (tv:Value) (L:List Tok) (a:Nat) (s:SynP.St) (nv:Value) (ns:List Nv) (w:World),RS w R tv L fin a s nv ns->P s≠none->
 Calls Tryz.prog F #[.pointer (some ⟨R,0,none⟩)] w (RP (P s) R tv L fin s nv ns (ExQ ns) w)
theorem Ww {x:Qx}{s:SynP.St}(h:SynP.Qv x s.ts=true):s.adv.ts.length+1=s.ts.length:=by
 have E:=List.length_pos_iff.2 (Ug h);show s.ts.tail.length+1=_;rw[List.length_tail];omega
def TuO (R:Nat)(tv:Value)(L:List Tok)(fin:Nat)(s0:SynP.St)(nv:Value)(ns:List Nv)(w:World)(r:SynP.PR SynP.Ex)(kv:Value)(wr:World):Prop:=
 ∃g k s' a' nv' ns',SynP.Su g k s'=r/\PSt R tv L fin s0 nv ns w wr a' s' nv' ns'/\ExQ ns k kv ns' nv' wr
theorem Qy2 (fin f:Nat)(IH:ExOk 251 (SynP.atom fin f) fin):ExOk 235 (SynP.post fin (f+1)) fin:=by
 intro R tv L a s nv ns w h hf;have H:=zq h;have HIH:=zq IH;obtain⟨r,hr⟩:=xq (SynP.post fin (f+1) s);rw[<-hr]at hf ⊢
 have HR0:Hid (r=(SynP.atom fin f s).bind fun k s=>SynP.Su f k s):=by show _=_;rw[hr];rfl
 have HNE:=zq hf;have hfew:=h.few;clear h hr hf IH;go_enter Tryz.func235,Tryz.ntmps235;go_wp2_with fail;refine(HIH.o R tv L a s nv ns _ H.o (fun e=>HNE.o (by rw[HR0.o,e];rfl))).mono ?_;rintro e w1 hn;rcases hN:SynP.atom fin f s with- |(⟨fc,fk⟩|⟨k,s1⟩)
 ·rw[hN]at hn;exact hn.elim
 ·rw[hN]at hn
  obtain⟨rfl,n1⟩:=hn;refine⟨rfl,?_⟩
  have hre:r=some (.error (fc,fk)):=by rw[HR0.o,hN];rfl
  rw[hre];exact⟨rfl,n1⟩
 rw[hN]at hn;obtain⟨v1,a1,nv1,ns1,rfl,n1,n2⟩:=hn;have HST:Hid (TuO R tv L fin s nv ns w r v1 w1):=⟨f,k,s1,a1,nv1,ns1,by rw[HR0.o,hN];rfl,n1,n2⟩;clear n1 n2 hN;go_wp2_with fail;go_loopw [3] (fun kv wr=>TuO R tv L fin s nv ns w r kv wr) (fun _ wr=>Qc L R wr)
 case atStart=>exact HST.o
 clear HST
 case round=>
  obtain⟨g,k,s2,a2,nv2,ns2,htu,hps,hex⟩:=hrel;obtain⟨wo,rfl⟩:=xq wr
  cases g with
  |zero=>exact absurd htu.symm HNE.o
  |succ g=>
   have hlen:=hex.len;have hsp:=Z5 k;obtain⟨rfl,hfl⟩:=hex;obtain⟨p,hp⟩:=xq (ns.length+k.size-1);rw[<-hp];have HP:=zq hp;have HPS:=zq hps;have HFL:=zq hfl;have HL2:=zq hps.rs.left;have HTU:=zq htu;have hfw:=hps.few;rw[List.length_append]at hfw;clear hp hps hfl htu;go_wp2_with fail;refine(Zx R tv L fin a2 s2 nv2 (ns++ns2) _ HPS.o.rs [39]).mono ?_;rintro e w3 ⟨rfl,t1,t2⟩
   cases hm:SynP.Qv [39] s2.ts with
   |true=>
    rw[if_pos hm]at t2;have hml:=Ww hm
    have HRR:Hid (SynP.Su g (.turn k) s2.adv=r):=by
     have h1:=HTU.o;unfold SynP.Su at h1;rw[if_pos hm]at h1;exact h1
    have HP3:=zq (HPS.o.step t2 t1 (by omega) rfl);have hkn:=(KNew.fresh t2 [p]).resolve_right (by simp);have HKN:=zq hkn;have HA:=zq (Qq w3 (.cells #[.int .i64 ((p:Nat):Int)] 3));have HP4:=zq (HP3.o.step (HP3.o.rs.below HA.o) (Wr.of_below HA.o) (Nat.le_refl _) rfl);clear t1 t2 hm hkn;go_wp2_with fail;refine(Zp R tv L fin (a2+1) s2.adv nv2 (ns++ns2) _ HP4.o.rs ⟨5,[],[p]⟩ _ HKN.o (by rw[List.length_append];omega)).mono ?_;rintro e w5 ⟨nv5,rfl,b1,b2,b3⟩;have HP5:=zq (HP4.o.putS b1 b2 b3 (by rw[List.length_append];omega) (fun q hq=>by cases hq;exact HP3.o.wr.size));have HL5:=zq b1.left;obtain⟨nn,hnn⟩:=xq ((ns++ns2).length);rw[<-hnn];have HNN:=zq hnn;clear b1 b2 b3 hnn;go_wp2_with fail
    have hfin:TuO R tv L fin s nv ns w r (.int .i64 ((nn:Nat):Int)) w5:=by
     refine⟨g,.turn k,s2.adv,a2+1,nv5,_,HRR.o,HP5.o,?_,?_⟩
     ·rw[HNN.o,List.length_append,hlen];rfl
     ·rw[List.map_append,HFL.o,HP.o];rfl
    have hlf:Qc L R w5<Qc L R wo:=by rw[HL5.o,HL2.o];omega
    first|exact⟨hfin,hlf⟩|exact⟨by (repeat apply Exists.intro);exact⟨hfin,rfl⟩,hlf⟩
   |false=>
    rw[if_neg (by rw[hm];decide)]at t2
    have HRR:Hid (r=some (.ok (k,s2))):=by
     have h1:=HTU.o;unfold SynP.Su at h1;rw[if_neg (by rw[hm];decide)]at h1;show _=_;rw[<-h1];rfl
    have HP3:=zq (HPS.o.step t2 t1 (Nat.le_refl _) rfl);clear t1 t2 hm;go_wp2_with fail;go_ret;rw[HRR.o];exact⟨_,a2,nv2,ns2,rfl,HP3.o,by rw[HP.o];rfl,HFL.o⟩
end Go.Proofs.YtgfmiladfeoldaaGreatDoor
