/- Joined texts of this claim's proof: RdF, SynM. -/
import Derived.Test.YtgfmiladfeoldaaGreatDoorPk1
import Derived.Test.YtgfmiladfeoldaaGreatDoorPk19
import Derived.Test.YtgfmiladfeoldaaGreatDoorPk16
set_option linter.unusedSimpArgs false
set_option linter.unusedVariables false
set_option maxRecDepth 100000
set_option maxHeartbeats 16000000
namespace Go.Proofs.YtgfmiladfeoldaaGreatDoor
open Go.RowKit NatP LexP
theorem Tryz.infoAI:(Tryz.prog.info? 62).map (fun i=>(i.zero,i.size,i.bytes))=some (some (.agg #[.bool false,.slice none 0 0]),2,32):=by kernel_rfl
theorem Yl {fin:Nat}{s s':SynP.St}{m:Nat}(h:SynP.Qi fin s=some (.ok (m,s'))):s'.ts.length+1=s.ts.length/\s'.opened=s.opened:=by
 unfold SynP.Qi at h;split at h
 ·rename_i E
  unfold SynP.ret at h
  cases h
  refine⟨?_,rfl⟩;have:=Vq E;have H:=List.length_pos_iff.2 this;show s.ts.tail.length+1=_;rw[List.length_tail];omega
 ·cases h
theorem Vy {fin:Nat}{x:Qx}{s s':SynP.St}{u:Unit}(h:SynP.want fin x s=some (.ok (u,s'))):s'.ts.length+1=s.ts.length/\s'.opened=s.opened:=by
 unfold SynP.want at h;split at h
 ·rename_i E
  unfold SynP.ret at h
  cases h
  refine⟨?_,rfl⟩;have H:=List.length_pos_iff.2 (Ug E);show s.ts.tail.length+1=_;rw[List.length_tail];omega
 ·cases h
def EnO (R:Nat)(tv:Value)(L:List Tok)(fin:Nat)(nv:Value)(ns:List Nv)(w:World)(N:Nat)(r:SynP.PR (List (Bool×Nat)×List Nat))(av lv:Value)(wr:World):Prop:=
 ∃f acc lens cs a' s',SynP.entries fin f acc lens s'=r/\RS wr R tv L fin a' s' nv ns/\Wr R none w wr/\En wr w.heap.size av lv cs acc lens/\acc.length+s'.ts.length<=67108864/\lens.length+s'.ts.length<=67108864/\s'.ts.length<=N
def EnI (R:Nat)(tv:Value)(L:List Tok)(fin:Nat)(nv:Value)(ns:List Nv)(w:World)(N:Nat)(lens:List Nat)(lv:Value)(r:SynP.PR (Nat×List (Bool×Nat)))(av nn:Value)(wr:World):Prop:=
 ∃f n acc cs a' s',SynP.Q9 fin f n acc s'=r/\nn=.int .i64 ((n:Nat):Int)/\RS wr R tv L fin a' s' nv ns/\Wr R none w wr/\En wr w.heap.size av lv cs acc lens/\acc.length+s'.ts.length<=67108864/\n<=acc.length/\lens.length+s'.ts.length<=67108864/\(0<n->lens.length+s'.ts.length+1<=67108864)/\s'.ts.length<=N
def EnQ (B:Nat)(x:List (Bool×Nat)×List Nat)(v:Value)(w':World):Prop:=∃av lv cs,v=.tuple #[av,lv]/\En w' B av lv cs x.1 x.2
theorem Kn (R:Nat)(tv:Value)(L:List Tok)(fin a:Nat)(s:SynP.St)(nv:Value)(ns:List Nv)(w:World)(h:RS w R tv L fin a s nv ns)(f:Nat)(hf:SynP.entries fin f [] [] s≠none):
  Calls Tryz.prog 112 #[.pointer (some ⟨R,0,none⟩)] w (RB (SynP.entries fin f [] [] s) R tv L fin s nv ns (EnQ w.heap.size) w):=by
 have H:=zq h;have hRl:=h.lt;obtain⟨r,hr⟩:=xq (SynP.entries fin f [] [] s);rw[<-hr]at hf ⊢;have HR:=zq hr;have HNE:=zq hf
 have hts:s.ts.length<=67108864:=by have:=h.short;rw[<-h.drop,List.length_drop];omega
 have HST:Hid (EnO R tv L fin nv ns w s.ts.length r (.slice none 0 0) (.slice none 0 0) w):=⟨f,[],[],[],a,s,hr.symm,h,Wr.refl _ _ _,En.nil _ _,by simpa using hts,by simpa using hts,Nat.le_refl _⟩;obtain⟨i0,hi,hz0,hz1,hz2'⟩:=info_parts Tryz.infoAI;obtain⟨j0,hj,hk0,hk1,hk2⟩:=info_parts Tryz.infoInt;clear h hr hf;go_enter Tryz.func112,Tryz.ntmps112;go_wp2_with fail;go_loopw [2,3,4,5,6] (fun av lv _ _ _ wr=>EnO R tv L fin nv ns w s.ts.length r av lv wr) (fun _ _ _ _ _ wr=>Qc L R wr)
 case atStart=>exact HST.o
 case round=>
  obtain⟨f,acc,lens,cs,a',s',hen,hrs,hwr,hEn,hb1,hb2,hbN⟩:=hrel;obtain⟨wo,rfl⟩:=xq wr
  cases f with
  |zero=>exact absurd hen.symm (by have:=HNE.o;intro e;exact this e)
  |succ f=>
   obtain⟨r2,hr2⟩:=xq (SynP.Q9 fin f 0 acc s')
   have hen2:r2.bind (fun x s=>if SynP.Qv [93] s.ts then SynP.ret (x.2,lens++[x.1]) s.adv else (SynP.want fin [59] s).bind fun _ s=>SynP.entries fin f x.2 (lens++[x.1]) s)=r:=by rw[hr2];exact hen
   have HE2:=zq hen2
   have HR2N:Hid (r2≠none):=by
    intro e;rw[e]at hen2;exact HNE.o hen2.symm
   have HRS0:=zq hrs;have HLEFT:=zq hrs.left;have HI:Hid (EnI R tv L fin nv ns w s'.ts.length lens u3 r2 u2 (.int .i64 0) wo):=⟨f,0,acc,cs,a',s',hr2.symm,rfl,hrs,hwr,hEn,hb1,Nat.zero_le _,hb2,fun h=>absurd h (Nat.lt_irrefl _),Nat.le_refl _⟩;clear hen hrs hwr hEn hen2 hr2;go_wp2_with fail;go_loopw [2,4,5,6] (fun av nn _ _ wr=>EnI R tv L fin nv ns w s'.ts.length lens u3 r2 av nn wr) (fun _ _ _ _ wr=>Qc L R wr)
   case atStart=>exact HI.o
   clear HI
   case round=>
    obtain⟨f2,n,acc2,cs2,a2,s2,her,rfl,hrs,hwr,hEn,hb1,hnl,hb2,hb3,hbM⟩:=hrel
    cases f2 with
    |zero=>exact absurd her.symm HR2N.o
    |succ f2=>
     obtain⟨wx,hwx⟩:=xq wr;have HLF0:=zq hrs.left;have HSX0:=zq hrs;have HWX0:=zq hwr;have HEX0:=zq hEn;have HER:=zq her
     have hn31:n<=67108864:=by omega
     clear hrs hwr hEn her hwx;by_cases hn0:n=0
     ·have hnb:((n:Int)==0)=true:=by simp[hn0]
      have HSTEP:Hid ((SynP.Qi fin (if SynP.Qv [45] s2.ts then s2.adv else s2)).bind (fun m s'=>SynP.Q9 fin f2 (n+1) (acc2++[(SynP.Qv [45] s2.ts && decide (0<m),m)]) s')=r2):=by
       have h1:=HER.o;unfold SynP.Q9 at h1;rw[if_pos (show (decide (n=0)||SynP.Qv [45] s2.ts||SynP.Qy 1 s2.ts)=true from by simp[hn0])]at h1;exact h1
      have HN0:=zq hn0;clear hn0;have HSX:=HSX0;have HWX:=HWX0;have HEX:=HEX0;clear HSX0 HWX0 HEX0;obtain⟨s1,hs1⟩:=xq ((if SynP.Qv [45] s2.ts then s2.adv else s2));have HS1:=zq hs1;clear hs1;go_wp2_with fail;refine(Zx R tv L fin a2 s2 nv ns _ HSX.o [45]).mono ?_;rintro e w1 ⟨rfl,t1,t2⟩
      have t3:∃b1,RS w1 R tv L fin b1 s1 nv ns:=by
       rw[HS1.o];split at t2
       ·rename_i hq;rw[if_pos hq];exact⟨_,t2⟩
       ·rename_i hq;rw[if_neg hq];exact⟨_,t2⟩
      obtain⟨b1,t3⟩:=t3;have T1:=zq (RS.step HWX.o t1);have T3:=zq t3;have TE:=zq (HEX.o.wr t1 hRl)
      have hs1l:s1.ts.length<=s2.ts.length:=by
       rw[HS1.o];split
       ·exact Zh s2
       ·exact Nat.le_refl _
      obtain⟨ng,hng⟩:=xq (SynP.Qv [45] s2.ts);rw[<-hng];have HNG:=zq hng;clear t1 t2 t3 hng;go_wp2_with fail;refine(Z0 R tv L fin b1 s1 nv ns _ T3.o).mono ?_;rintro e w2 hn;rcases hN:SynP.Qi fin s1 with- |(⟨fc,fk⟩|⟨m,s3⟩)
      ·rw[hN]at hn;exact hn.elim
      ·rw[hN]at hn
       obtain⟨rfl,n1⟩:=hn;refine⟨rfl,?_⟩
       have hr2:r2=some (.error (fc,fk)):=by rw[<-HSTEP.o,<-HS1.o,hN];rfl
       have hr:r=some (.error (fc,fk)):=by rw[<-HE2.o,hr2];rfl
       rw[hr];exact⟨rfl,RS.step T1.o n1⟩
      ·rw[hN]at hn
       obtain⟨v,a3,rfl,n1,n2,n3,n4⟩:=hn;have hnl:=Yl hN
       obtain⟨vo,vcap,vl,rfl⟩:∃vo vcap vl,v=.slice vo vl vcap:=by
        obtain⟨⟨xs,hx,-⟩,-⟩:=n4;obtain⟨vo,vcap,e,-⟩:=hx.2;exact⟨vo,vcap,_,e⟩
       have hz:decide (0<vl)=decide (0<m):=by
        have:vl=0↔m=0:=n4.2.2;simp only[decide_eq_decide];omega
       have HN2:=zq (RS.step T1.o n2);have HRS3:=zq n1;have HEN3:=zq (TE.o.wr n2 hRl);have HN4:=zq n4;obtain⟨b,hb⟩:=xq ((ng && decide (0<m)));have HB:=zq hb;have HZ:=zq hz
       have HNX:Hid (r2=SynP.Q9 fin f2 (n+1) (acc2++[(b,m)]) s3):=by
        show _=_;rw[<-HSTEP.o,<-HS1.o,hN,HB.o,HNG.o];rfl
       have hcl:cs2.length<=67108864:=by rw[HEN3.o.len];omega
       have HCL:=zq hcl;have HAL:=zq (Qq w2 (.cells #[.bool b,.slice vo vl vcap] 62));have HRS4:=zq (HRS3.o.below HAL.o);have HW4:=zq (RS.step HN2.o (Wr.of_below HAL.o));have HEN4:=zq (HEN3.o.wr (R:=R) (Wr.of_below HAL.o) hRl);have hn4':=(HN4.o.wr (R:=R) (og:=none) (Wr.of_below HAL.o) (Nat.lt_of_lt_of_le hRl T1.o.size) (fun q hq=>by cases hq));have HN4':=zq hn4';have HSZ:=zq T1.o.size;obtain⟨nc,hnc⟩:=xq cs2.length;have HNC:=zq hnc
       have hOW:(w2.alloc (.cells #[.bool b,.slice vo vl vcap] 62)).ownsRow w.heap.size 62 2 u2 nc (Xq cs2):=by rw[hnc];exact HEN4.o.own1
       have HOW:=zq hOW
       have hnc2:nc<=67108864:=by rw[hnc];exact hcl
       have hb0:b=(ng && decide (0<vl)):=by rw[HB.o,HZ.o]
       have hz2:=HN2.o.size
       have hsz4:w.heap.size<=(w2.alloc (.cells #[.bool b,.slice vo vl vcap] 62)).heap.size:=by simp;omega
       have HSZ4:=zq hsz4;have HB0:=zq hb0;clear n1 n2 n4 hn4' hb hz hnc hOW hcl hN hb0 hsz4
       cases hngc:ng with
       |true=>
        subst hngc
        have hbz:(decide (0<vl))=b:=by rw[HB0.o];rfl
        go_wp2_with (at_builtin;refine wpList_append_lies _ rfl _ _ 45 rfl w.heap.size 62 i0 (.agg #[.bool false,.slice none 0 0]) 2 32 Tryz.underlying45 hi hz0 hz1 hz2' rfl (by omega) u2 nc (Xq cs2) rfl HOW.o ⟨w2.heap.size,0,none⟩ 1 1 [.bool b,.slice vo vl vcap] rfl rfl (LexP.Qb _ _ _ _ rfl) (by simp[Value.oneCell']) (by omega) (by unfold maxLen;omega) (by omega) (by simp;omega) (w2.heap.size+1) (by simp) ?_);intro gg cap w5 hown5 hgrow hat hlt5
        have q1:=HEN4.o.push (neg:=b) (m:=.slice vo vl vcap) (k:=m) (HN4'.o.mono HSZ.o) (fun q hq=>by
         have h1:=HN4.o.2.1 q hq;refine⟨fun e=> ?_,fun e=> ?_⟩
         ·have:=(TE.o.own1.lt q e).2;omega
         ·have:=(TE.o.own2.lt q e).2;omega) (by rw[<-HNC.o];exact hown5) hgrow (by simpa using hat)
        obtain⟨q2,q3⟩:=H.o.loc HRS4.o HW4.o hgrow (fun q hq=>(HEN4.o.own1.lt q hq).1);have HQ1:=zq q1;have HQ2:=zq q2;have HQ3:=zq q3;rw[<-HNC.o]at HQ1;have HLFT:=zq q2.left;clear hown5 hgrow hat hlt5 q1 q2 q3;go_wp2_with fail;have hfin:EnI R tv L fin nv ns w s'.ts.length lens u3 r2 (.slice (some ⟨gg,0,none⟩) (nc+1) cap) (.int .i64 ((n:Int)+1)) w5:=⟨f2,n+1,acc2++[(b,m)],_,a3,s3,HNX.o.symm,by congr 1,HQ2.o,HQ3.o,HQ1.o,by rw[List.length_append,List.length_singleton];omega,by rw[List.length_append,List.length_singleton];omega,by omega,fun _=>by omega,by omega⟩
        have hlf:Qc L R w5<Qc L R wr:=by rw[HLFT.o,HLF0.o];omega
        first|exact⟨hfin,hlf⟩|exact⟨by (repeat apply Exists.intro);exact⟨hfin,rfl⟩,hlf⟩
       |false=>
        subst hngc
        have hbf:b=false:=by rw[HB0.o];rfl
        subst hbf;go_wp2_with (at_builtin;refine wpList_append_lies _ rfl _ _ 45 rfl w.heap.size 62 i0 (.agg #[.bool false,.slice none 0 0]) 2 32 Tryz.underlying45 hi hz0 hz1 hz2' rfl (by omega) u2 nc (Xq cs2) rfl HOW.o ⟨w2.heap.size,0,none⟩ 1 1 [.bool false,.slice vo vl vcap] rfl rfl (LexP.Qb _ _ _ _ rfl) (by simp[Value.oneCell']) (by omega) (by unfold maxLen;omega) (by omega) (by simp;omega) (w2.heap.size+1) (by simp) ?_);intro gg cap w5 hown5 hgrow hat hlt5
        have q1:=HEN4.o.push (neg:=false) (m:=.slice vo vl vcap) (k:=m) (HN4'.o.mono HSZ.o) (fun q hq=>by
         have h1:=HN4.o.2.1 q hq;refine⟨fun e=> ?_,fun e=> ?_⟩
         ·have:=(TE.o.own1.lt q e).2;omega
         ·have:=(TE.o.own2.lt q e).2;omega) (by rw[<-HNC.o];exact hown5) hgrow (by simpa using hat)
        obtain⟨q2,q3⟩:=H.o.loc HRS4.o HW4.o hgrow (fun q hq=>(HEN4.o.own1.lt q hq).1);have HQ1:=zq q1;have HQ2:=zq q2;have HQ3:=zq q3;rw[<-HNC.o]at HQ1;have HLFT:=zq q2.left;clear hown5 hgrow hat hlt5 q1 q2 q3;go_wp2_with fail;have hfin:EnI R tv L fin nv ns w s'.ts.length lens u3 r2 (.slice (some ⟨gg,0,none⟩) (nc+1) cap) (.int .i64 ((n:Int)+1)) w5:=⟨f2,n+1,acc2++[(false,m)],_,a3,s3,HNX.o.symm,by congr 1,HQ2.o,HQ3.o,HQ1.o,by rw[List.length_append,List.length_singleton];omega,by rw[List.length_append,List.length_singleton];omega,by omega,fun _=>by omega,by omega⟩
        have hlf:Qc L R w5<Qc L R wr:=by rw[HLFT.o,HLF0.o];omega
        first|exact⟨hfin,hlf⟩|exact⟨by (repeat apply Exists.intro);exact⟨hfin,rfl⟩,hlf⟩
     ·have hnb:((n:Int)==0)=false:=by simp[hn0]
      have hpos:0<n:=by omega
      have hb4:=hb3 hpos;have HN0:=zq hn0;clear hn0 hb3
      cases hm:SynP.Qv [45] s2.ts with
      |true=>
       have HSTEP:Hid ((SynP.Qi fin (if SynP.Qv [45] s2.ts then s2.adv else s2)).bind (fun m s'=>SynP.Q9 fin f2 (n+1) (acc2++[(SynP.Qv [45] s2.ts && decide (0<m),m)]) s')=r2):=by
        have h1:=HER.o;unfold SynP.Q9 at h1;rw[if_pos (show (decide (n=0)||SynP.Qv [45] s2.ts||SynP.Qy 1 s2.ts)=true from by simp[hm])]at h1;exact h1
       have HM:=zq hm;clear hm;go_wp2_with fail;refine(Zg R tv L fin a2 s2 nv ns _ HSX0.o [45]).mono ?_;rintro e wx ⟨rfl,bx⟩;rw[HM.o];have HSX:=zq (HSX0.o.below bx);have HWX:=zq (RS.step HWX0.o (Wr.of_below bx));have HEX:=zq (HEX0.o.wr (R:=R) (Wr.of_below bx) hRl);clear bx;obtain⟨s1,hs1⟩:=xq ((if SynP.Qv [45] s2.ts then s2.adv else s2));have HS1:=zq hs1;clear hs1;go_wp2_with fail;refine(Zx R tv L fin a2 s2 nv ns _ HSX.o [45]).mono ?_;rintro e w1 ⟨rfl,t1,t2⟩
       have t3:∃b1,RS w1 R tv L fin b1 s1 nv ns:=by
        rw[HS1.o];split at t2
        ·rename_i hq;rw[if_pos hq];exact⟨_,t2⟩
        ·rename_i hq;rw[if_neg hq];exact⟨_,t2⟩
       obtain⟨b1,t3⟩:=t3;have T1:=zq (RS.step HWX.o t1);have T3:=zq t3;have TE:=zq (HEX.o.wr t1 hRl)
       have hs1l:s1.ts.length<=s2.ts.length:=by
        rw[HS1.o];split
        ·exact Zh s2
        ·exact Nat.le_refl _
       obtain⟨ng,hng⟩:=xq (SynP.Qv [45] s2.ts);rw[<-hng];have HNG:=zq hng;clear t1 t2 t3 hng;go_wp2_with fail;refine(Z0 R tv L fin b1 s1 nv ns _ T3.o).mono ?_;rintro e w2 hn;rcases hN:SynP.Qi fin s1 with- |(⟨fc,fk⟩|⟨m,s3⟩)
       ·rw[hN]at hn;exact hn.elim
       ·rw[hN]at hn
        obtain⟨rfl,n1⟩:=hn;refine⟨rfl,?_⟩
        have hr2:r2=some (.error (fc,fk)):=by rw[<-HSTEP.o,<-HS1.o,hN];rfl
        have hr:r=some (.error (fc,fk)):=by rw[<-HE2.o,hr2];rfl
        rw[hr];exact⟨rfl,RS.step T1.o n1⟩
       ·rw[hN]at hn
        obtain⟨v,a3,rfl,n1,n2,n3,n4⟩:=hn;have hnl:=Yl hN
        obtain⟨vo,vcap,vl,rfl⟩:∃vo vcap vl,v=.slice vo vl vcap:=by
         obtain⟨⟨xs,hx,-⟩,-⟩:=n4;obtain⟨vo,vcap,e,-⟩:=hx.2;exact⟨vo,vcap,_,e⟩
        have hz:decide (0<vl)=decide (0<m):=by
         have:vl=0↔m=0:=n4.2.2;simp only[decide_eq_decide];omega
        have HN2:=zq (RS.step T1.o n2);have HRS3:=zq n1;have HEN3:=zq (TE.o.wr n2 hRl);have HN4:=zq n4;obtain⟨b,hb⟩:=xq ((ng && decide (0<m)));have HB:=zq hb;have HZ:=zq hz
        have HNX:Hid (r2=SynP.Q9 fin f2 (n+1) (acc2++[(b,m)]) s3):=by
         show _=_;rw[<-HSTEP.o,<-HS1.o,hN,HB.o,HNG.o];rfl
        have hcl:cs2.length<=67108864:=by rw[HEN3.o.len];omega
        have HCL:=zq hcl;have HAL:=zq (Qq w2 (.cells #[.bool b,.slice vo vl vcap] 62));have HRS4:=zq (HRS3.o.below HAL.o);have HW4:=zq (RS.step HN2.o (Wr.of_below HAL.o));have HEN4:=zq (HEN3.o.wr (R:=R) (Wr.of_below HAL.o) hRl);have hn4':=(HN4.o.wr (R:=R) (og:=none) (Wr.of_below HAL.o) (Nat.lt_of_lt_of_le hRl T1.o.size) (fun q hq=>by cases hq));have HN4':=zq hn4';have HSZ:=zq T1.o.size;obtain⟨nc,hnc⟩:=xq cs2.length;have HNC:=zq hnc
        have hOW:(w2.alloc (.cells #[.bool b,.slice vo vl vcap] 62)).ownsRow w.heap.size 62 2 u2 nc (Xq cs2):=by rw[hnc];exact HEN4.o.own1
        have HOW:=zq hOW
        have hnc2:nc<=67108864:=by rw[hnc];exact hcl
        have hb0:b=(ng && decide (0<vl)):=by rw[HB.o,HZ.o]
        have hz2:=HN2.o.size
        have hsz4:w.heap.size<=(w2.alloc (.cells #[.bool b,.slice vo vl vcap] 62)).heap.size:=by simp;omega
        have HSZ4:=zq hsz4;have HB0:=zq hb0;clear n1 n2 n4 hn4' hb hz hnc hOW hcl hN hb0 hsz4
        cases hngc:ng with
        |true=>
         subst hngc
         have hbz:(decide (0<vl))=b:=by rw[HB0.o];rfl
         go_wp2_with (at_builtin;refine wpList_append_lies _ rfl _ _ 45 rfl w.heap.size 62 i0 (.agg #[.bool false,.slice none 0 0]) 2 32 Tryz.underlying45 hi hz0 hz1 hz2' rfl (by omega) u2 nc (Xq cs2) rfl HOW.o ⟨w2.heap.size,0,none⟩ 1 1 [.bool b,.slice vo vl vcap] rfl rfl (LexP.Qb _ _ _ _ rfl) (by simp[Value.oneCell']) (by omega) (by unfold maxLen;omega) (by omega) (by simp;omega) (w2.heap.size+1) (by simp) ?_);intro gg cap w5 hown5 hgrow hat hlt5
         have q1:=HEN4.o.push (neg:=b) (m:=.slice vo vl vcap) (k:=m) (HN4'.o.mono HSZ.o) (fun q hq=>by
          have h1:=HN4.o.2.1 q hq;refine⟨fun e=> ?_,fun e=> ?_⟩
          ·have:=(TE.o.own1.lt q e).2;omega
          ·have:=(TE.o.own2.lt q e).2;omega) (by rw[<-HNC.o];exact hown5) hgrow (by simpa using hat)
         obtain⟨q2,q3⟩:=H.o.loc HRS4.o HW4.o hgrow (fun q hq=>(HEN4.o.own1.lt q hq).1);have HQ1:=zq q1;have HQ2:=zq q2;have HQ3:=zq q3;rw[<-HNC.o]at HQ1;have HLFT:=zq q2.left;clear hown5 hgrow hat hlt5 q1 q2 q3;go_wp2_with fail;have hfin:EnI R tv L fin nv ns w s'.ts.length lens u3 r2 (.slice (some ⟨gg,0,none⟩) (nc+1) cap) (.int .i64 ((n:Int)+1)) w5:=⟨f2,n+1,acc2++[(b,m)],_,a3,s3,HNX.o.symm,by congr 1,HQ2.o,HQ3.o,HQ1.o,by rw[List.length_append,List.length_singleton];omega,by rw[List.length_append,List.length_singleton];omega,by omega,fun _=>by omega,by omega⟩
         have hlf:Qc L R w5<Qc L R wr:=by rw[HLFT.o,HLF0.o];omega
         first|exact⟨hfin,hlf⟩|exact⟨by (repeat apply Exists.intro);exact⟨hfin,rfl⟩,hlf⟩
        |false=>
         subst hngc
         have hbf:b=false:=by rw[HB0.o];rfl
         subst hbf;go_wp2_with (at_builtin;refine wpList_append_lies _ rfl _ _ 45 rfl w.heap.size 62 i0 (.agg #[.bool false,.slice none 0 0]) 2 32 Tryz.underlying45 hi hz0 hz1 hz2' rfl (by omega) u2 nc (Xq cs2) rfl HOW.o ⟨w2.heap.size,0,none⟩ 1 1 [.bool false,.slice vo vl vcap] rfl rfl (LexP.Qb _ _ _ _ rfl) (by simp[Value.oneCell']) (by omega) (by unfold maxLen;omega) (by omega) (by simp;omega) (w2.heap.size+1) (by simp) ?_);intro gg cap w5 hown5 hgrow hat hlt5
         have q1:=HEN4.o.push (neg:=false) (m:=.slice vo vl vcap) (k:=m) (HN4'.o.mono HSZ.o) (fun q hq=>by
          have h1:=HN4.o.2.1 q hq;refine⟨fun e=> ?_,fun e=> ?_⟩
          ·have:=(TE.o.own1.lt q e).2;omega
          ·have:=(TE.o.own2.lt q e).2;omega) (by rw[<-HNC.o];exact hown5) hgrow (by simpa using hat)
         obtain⟨q2,q3⟩:=H.o.loc HRS4.o HW4.o hgrow (fun q hq=>(HEN4.o.own1.lt q hq).1);have HQ1:=zq q1;have HQ2:=zq q2;have HQ3:=zq q3;rw[<-HNC.o]at HQ1;have HLFT:=zq q2.left;clear hown5 hgrow hat hlt5 q1 q2 q3;go_wp2_with fail;have hfin:EnI R tv L fin nv ns w s'.ts.length lens u3 r2 (.slice (some ⟨gg,0,none⟩) (nc+1) cap) (.int .i64 ((n:Int)+1)) w5:=⟨f2,n+1,acc2++[(false,m)],_,a3,s3,HNX.o.symm,by congr 1,HQ2.o,HQ3.o,HQ1.o,by rw[List.length_append,List.length_singleton];omega,by rw[List.length_append,List.length_singleton];omega,by omega,fun _=>by omega,by omega⟩
         have hlf:Qc L R w5<Qc L R wr:=by rw[HLFT.o,HLF0.o];omega
         first|exact⟨hfin,hlf⟩|exact⟨by (repeat apply Exists.intro);exact⟨hfin,rfl⟩,hlf⟩
      |false=>
       cases hk:SynP.Qy 1 s2.ts with
       |true=>
        have HSTEP:Hid ((SynP.Qi fin (if SynP.Qv [45] s2.ts then s2.adv else s2)).bind (fun m s'=>SynP.Q9 fin f2 (n+1) (acc2++[(SynP.Qv [45] s2.ts && decide (0<m),m)]) s')=r2):=by
         have h1:=HER.o;unfold SynP.Q9 at h1;rw[if_pos (show (decide (n=0)||SynP.Qv [45] s2.ts||SynP.Qy 1 s2.ts)=true from by simp[hk])]at h1;exact h1
        have HM:=zq hm;have hck:=Xj 1 [] s2.ts (by decide);rw[hk]at hck;have HK:=zq hck;clear hm hk hck;go_wp2_with fail;refine(Zg R tv L fin a2 s2 nv ns _ HSX0.o [45]).mono ?_;rintro e wy ⟨rfl,bx⟩;rw[HM.o];have HSY:=zq (HSX0.o.below bx);have HWY:=zq (RS.step HWX0.o (Wr.of_below bx));have HEY:=zq (HEX0.o.wr (R:=R) (Wr.of_below bx) hRl);clear bx;go_wp2_with fail;refine(Qt R tv L fin a2 s2 nv ns _ HSY.o 0 1 [] (by omega) (by omega)).mono ?_;rintro e wx ⟨rfl,bx⟩;rw[HK.o];have HSX:=zq (HSY.o.below bx);have HWX:=zq (RS.step HWY.o (Wr.of_below bx));have HEX:=zq (HEY.o.wr (R:=R) (Wr.of_below bx) hRl);clear bx;obtain⟨s1,hs1⟩:=xq ((if SynP.Qv [45] s2.ts then s2.adv else s2));have HS1:=zq hs1;clear hs1;go_wp2_with fail;refine(Zx R tv L fin a2 s2 nv ns _ HSX.o [45]).mono ?_;rintro e w1 ⟨rfl,t1,t2⟩
        have t3:∃b1,RS w1 R tv L fin b1 s1 nv ns:=by
         rw[HS1.o];split at t2
         ·rename_i hq;rw[if_pos hq];exact⟨_,t2⟩
         ·rename_i hq;rw[if_neg hq];exact⟨_,t2⟩
        obtain⟨b1,t3⟩:=t3;have T1:=zq (RS.step HWX.o t1);have T3:=zq t3;have TE:=zq (HEX.o.wr t1 hRl)
        have hs1l:s1.ts.length<=s2.ts.length:=by
         rw[HS1.o];split
         ·exact Zh s2
         ·exact Nat.le_refl _
        obtain⟨ng,hng⟩:=xq (SynP.Qv [45] s2.ts);rw[<-hng];have HNG:=zq hng;clear t1 t2 t3 hng;go_wp2_with fail;refine(Z0 R tv L fin b1 s1 nv ns _ T3.o).mono ?_;rintro e w2 hn;rcases hN:SynP.Qi fin s1 with- |(⟨fc,fk⟩|⟨m,s3⟩)
        ·rw[hN]at hn;exact hn.elim
        ·rw[hN]at hn
         obtain⟨rfl,n1⟩:=hn;refine⟨rfl,?_⟩
         have hr2:r2=some (.error (fc,fk)):=by rw[<-HSTEP.o,<-HS1.o,hN];rfl
         have hr:r=some (.error (fc,fk)):=by rw[<-HE2.o,hr2];rfl
         rw[hr];exact⟨rfl,RS.step T1.o n1⟩
        ·rw[hN]at hn
         obtain⟨v,a3,rfl,n1,n2,n3,n4⟩:=hn;have hnl:=Yl hN
         obtain⟨vo,vcap,vl,rfl⟩:∃vo vcap vl,v=.slice vo vl vcap:=by
          obtain⟨⟨xs,hx,-⟩,-⟩:=n4;obtain⟨vo,vcap,e,-⟩:=hx.2;exact⟨vo,vcap,_,e⟩
         have hz:decide (0<vl)=decide (0<m):=by
          have:vl=0↔m=0:=n4.2.2;simp only[decide_eq_decide];omega
         have HN2:=zq (RS.step T1.o n2);have HRS3:=zq n1;have HEN3:=zq (TE.o.wr n2 hRl);have HN4:=zq n4;obtain⟨b,hb⟩:=xq ((ng && decide (0<m)));have HB:=zq hb;have HZ:=zq hz
         have HNX:Hid (r2=SynP.Q9 fin f2 (n+1) (acc2++[(b,m)]) s3):=by
          show _=_;rw[<-HSTEP.o,<-HS1.o,hN,HB.o,HNG.o];rfl
         have hcl:cs2.length<=67108864:=by rw[HEN3.o.len];omega
         have HCL:=zq hcl;have HAL:=zq (Qq w2 (.cells #[.bool b,.slice vo vl vcap] 62));have HRS4:=zq (HRS3.o.below HAL.o);have HW4:=zq (RS.step HN2.o (Wr.of_below HAL.o));have HEN4:=zq (HEN3.o.wr (R:=R) (Wr.of_below HAL.o) hRl);have hn4':=(HN4.o.wr (R:=R) (og:=none) (Wr.of_below HAL.o) (Nat.lt_of_lt_of_le hRl T1.o.size) (fun q hq=>by cases hq));have HN4':=zq hn4';have HSZ:=zq T1.o.size;obtain⟨nc,hnc⟩:=xq cs2.length;have HNC:=zq hnc
         have hOW:(w2.alloc (.cells #[.bool b,.slice vo vl vcap] 62)).ownsRow w.heap.size 62 2 u2 nc (Xq cs2):=by rw[hnc];exact HEN4.o.own1
         have HOW:=zq hOW
         have hnc2:nc<=67108864:=by rw[hnc];exact hcl
         have hb0:b=(ng && decide (0<vl)):=by rw[HB.o,HZ.o]
         have hz2:=HN2.o.size
         have hsz4:w.heap.size<=(w2.alloc (.cells #[.bool b,.slice vo vl vcap] 62)).heap.size:=by simp;omega
         have HSZ4:=zq hsz4;have HB0:=zq hb0;clear n1 n2 n4 hn4' hb hz hnc hOW hcl hN hb0 hsz4
         cases hngc:ng with
         |true=>
          subst hngc
          have hbz:(decide (0<vl))=b:=by rw[HB0.o];rfl
          go_wp2_with (at_builtin;refine wpList_append_lies _ rfl _ _ 45 rfl w.heap.size 62 i0 (.agg #[.bool false,.slice none 0 0]) 2 32 Tryz.underlying45 hi hz0 hz1 hz2' rfl (by omega) u2 nc (Xq cs2) rfl HOW.o ⟨w2.heap.size,0,none⟩ 1 1 [.bool b,.slice vo vl vcap] rfl rfl (LexP.Qb _ _ _ _ rfl) (by simp[Value.oneCell']) (by omega) (by unfold maxLen;omega) (by omega) (by simp;omega) (w2.heap.size+1) (by simp) ?_);intro gg cap w5 hown5 hgrow hat hlt5
          have q1:=HEN4.o.push (neg:=b) (m:=.slice vo vl vcap) (k:=m) (HN4'.o.mono HSZ.o) (fun q hq=>by
           have h1:=HN4.o.2.1 q hq;refine⟨fun e=> ?_,fun e=> ?_⟩
           ·have:=(TE.o.own1.lt q e).2;omega
           ·have:=(TE.o.own2.lt q e).2;omega) (by rw[<-HNC.o];exact hown5) hgrow (by simpa using hat)
          obtain⟨q2,q3⟩:=H.o.loc HRS4.o HW4.o hgrow (fun q hq=>(HEN4.o.own1.lt q hq).1);have HQ1:=zq q1;have HQ2:=zq q2;have HQ3:=zq q3;rw[<-HNC.o]at HQ1;have HLFT:=zq q2.left;clear hown5 hgrow hat hlt5 q1 q2 q3;go_wp2_with fail;have hfin:EnI R tv L fin nv ns w s'.ts.length lens u3 r2 (.slice (some ⟨gg,0,none⟩) (nc+1) cap) (.int .i64 ((n:Int)+1)) w5:=⟨f2,n+1,acc2++[(b,m)],_,a3,s3,HNX.o.symm,by congr 1,HQ2.o,HQ3.o,HQ1.o,by rw[List.length_append,List.length_singleton];omega,by rw[List.length_append,List.length_singleton];omega,by omega,fun _=>by omega,by omega⟩
          have hlf:Qc L R w5<Qc L R wr:=by rw[HLFT.o,HLF0.o];omega
          first|exact⟨hfin,hlf⟩|exact⟨by (repeat apply Exists.intro);exact⟨hfin,rfl⟩,hlf⟩
         |false=>
          subst hngc
          have hbf:b=false:=by rw[HB0.o];rfl
          subst hbf;go_wp2_with (at_builtin;refine wpList_append_lies _ rfl _ _ 45 rfl w.heap.size 62 i0 (.agg #[.bool false,.slice none 0 0]) 2 32 Tryz.underlying45 hi hz0 hz1 hz2' rfl (by omega) u2 nc (Xq cs2) rfl HOW.o ⟨w2.heap.size,0,none⟩ 1 1 [.bool false,.slice vo vl vcap] rfl rfl (LexP.Qb _ _ _ _ rfl) (by simp[Value.oneCell']) (by omega) (by unfold maxLen;omega) (by omega) (by simp;omega) (w2.heap.size+1) (by simp) ?_);intro gg cap w5 hown5 hgrow hat hlt5
          have q1:=HEN4.o.push (neg:=false) (m:=.slice vo vl vcap) (k:=m) (HN4'.o.mono HSZ.o) (fun q hq=>by
           have h1:=HN4.o.2.1 q hq;refine⟨fun e=> ?_,fun e=> ?_⟩
           ·have:=(TE.o.own1.lt q e).2;omega
           ·have:=(TE.o.own2.lt q e).2;omega) (by rw[<-HNC.o];exact hown5) hgrow (by simpa using hat)
          obtain⟨q2,q3⟩:=H.o.loc HRS4.o HW4.o hgrow (fun q hq=>(HEN4.o.own1.lt q hq).1);have HQ1:=zq q1;have HQ2:=zq q2;have HQ3:=zq q3;rw[<-HNC.o]at HQ1;have HLFT:=zq q2.left;clear hown5 hgrow hat hlt5 q1 q2 q3;go_wp2_with fail;have hfin:EnI R tv L fin nv ns w s'.ts.length lens u3 r2 (.slice (some ⟨gg,0,none⟩) (nc+1) cap) (.int .i64 ((n:Int)+1)) w5:=⟨f2,n+1,acc2++[(false,m)],_,a3,s3,HNX.o.symm,by congr 1,HQ2.o,HQ3.o,HQ1.o,by rw[List.length_append,List.length_singleton];omega,by rw[List.length_append,List.length_singleton];omega,by omega,fun _=>by omega,by omega⟩
          have hlf:Qc L R w5<Qc L R wr:=by rw[HLFT.o,HLF0.o];omega
          first|exact⟨hfin,hlf⟩|exact⟨by (repeat apply Exists.intro);exact⟨hfin,rfl⟩,hlf⟩
       |false=>
        have HRR:Hid (r=if SynP.Qv [93] s2.ts then SynP.ret (acc2,lens++[n]) s2.adv else (SynP.want fin [59] s2).bind fun _ s=>SynP.entries fin f acc2 (lens++[n]) s):=by
         have h1:=HER.o;unfold SynP.Q9 at h1;rw[if_neg (show ¬(decide (n=0)||SynP.Qv [45] s2.ts||SynP.Qy 1 s2.ts)=true from by simp[hk,hm,HN0.o])]at h1;show _=_;rw[<-HE2.o,<-h1];rfl
        have HM:=zq hm;have hck:=Xj 1 [] s2.ts (by decide);rw[hk]at hck;have HK:=zq hck;clear hm hk hck;go_wp2_with fail;refine(Zg R tv L fin a2 s2 nv ns _ HSX0.o [45]).mono ?_;rintro e wy ⟨rfl,bx⟩;rw[HM.o];have HSY:=zq (HSX0.o.below bx);have HWY:=zq (RS.step HWX0.o (Wr.of_below bx));have HEY:=zq (HEX0.o.wr (R:=R) (Wr.of_below bx) hRl);clear bx;go_wp2_with fail;refine(Qt R tv L fin a2 s2 nv ns _ HSY.o 0 1 [] (by omega) (by omega)).mono ?_;rintro e wx ⟨rfl,bx⟩;rw[HK.o];have HSX:=zq (HSY.o.below bx);have HWX:=zq (RS.step HWY.o (Wr.of_below bx));have HEX:=zq (HEY.o.wr (R:=R) (Wr.of_below bx) hRl);have hszx:=HWX.o.size;clear bx;have HAL:=zq (Qq wx (.cells #[.int .i64 (n:Nat)] 3));have HRS4:=zq (HSX.o.below HAL.o);have HW4:=zq (RS.step HWX.o (Wr.of_below HAL.o));have HEN4:=zq (HEX.o.wr (R:=R) (Wr.of_below HAL.o) hRl);obtain⟨nc,hnc⟩:=xq lens.length;have HNC:=zq hnc
        have hOW:(wx.alloc (.cells #[.int .i64 (n:Nat)] 3)).ownsRow w.heap.size 3 1 u3 nc (ints lens):=by rw[hnc];exact HEN4.o.own2
        have HOW:=zq hOW
        have hnc2:nc<=67108864:=by omega
        clear hnc hOW;go_wp2_with (at_builtin;refine wpList_append_lies _ rfl _ _ 41 rfl w.heap.size 3 j0 (.int .i64 0) 1 8 Tryz.underlying41 hj hk0 hk1 hk2 rfl (by omega) u3 nc (ints lens) rfl HOW.o ⟨wx.heap.size,0,none⟩ 1 1 [.int .i64 (n:Nat)] rfl rfl (LexP.Qb _ _ _ _ rfl) (by simp[Value.oneCell']) (by omega) (by unfold maxLen;omega) (by omega) (by simp;omega) (wx.heap.size+1) (by simp) ?_);intro gg cap w5 hown5 hgrow hat hlt5;have q1:=HEN4.o.pushL (n:=n) (by rw[<-HNC.o];exact hown5) hgrow (by simpa using hat);obtain⟨q2,q3⟩:=H.o.loc HRS4.o HW4.o hgrow (fun q hq=>(HEN4.o.own2.lt q hq).1);rw[<-HNC.o]at q1;have HQ1:=zq q1;have HQ2:=zq q2;have HQ3:=zq q3;clear hown5 hgrow hat hlt5 q1 q2 q3;go_wp2_with fail;refine(Zx R tv L fin a2 s2 nv ns _ HQ2.o [93]).mono ?_;rintro e w6 ⟨rfl,t1,t2⟩;have T1:=zq (RS.step HQ3.o t1);have TE:=zq (HQ1.o.wr t1 hRl);clear t1
        cases h93:SynP.Qv [93] s2.ts with
        |true=>
         rw[if_pos h93]at t2;have T2:=zq t2;have H93:=zq h93;clear t2 h93;go_wp2_with fail;go_ret2;rw[HRR.o,if_pos H93.o]
         exact⟨_,_,rfl,T2.o,T1.o,Nat.le_trans (Zh s2) (by omega),_,_,_,rfl,TE.o⟩
        |false=>
         rw[if_neg (by rw[h93];decide)]at t2;have T2:=zq t2;have H93:=zq h93;clear t2 h93;go_wp2_with fail;refine(Vn R tv L fin a2 s2 nv ns _ T2.o [59]).mono ?_;rintro e w7 hn;rcases hN:SynP.want fin [59] s2 with- |(⟨fc,fk⟩|⟨m,s3⟩)
         ·rw[hN]at hn;exact hn.elim
         ·rw[hN]at hn
          obtain⟨rfl,n1⟩:=hn;refine⟨rfl,?_⟩
          have hr:r=some (.error (fc,fk)):=by rw[HRR.o,if_neg (by rw[H93.o];decide),hN];rfl
          rw[hr];exact⟨rfl,RS.step T1.o n1⟩
         ·rw[hN]at hn
          obtain⟨v,a3,rfl,n1,n2,n3,rfl⟩:=hn;have hwl:=Vy hN
          have hr:SynP.entries fin f acc2 (lens++[n]) s3=r:=by rw[HRR.o,if_neg (by rw[H93.o];decide),hN];rfl
          have HRF:=zq hr;have HL7:=zq n1.left;have HN1:=zq n1;have HN2:=zq (RS.step T1.o n2);have HE7:=zq (TE.o.wr n2 hRl);clear n1 n2 n3 hr hN;go_wp2_with fail;have hfin:EnO R tv L fin nv ns w s.ts.length r u2 (.slice (some ⟨gg,0,none⟩) (nc+1) cap) w7:=⟨f,acc2,lens++[n],_,a3,s3,HRF.o,HN1.o,HN2.o,HE7.o,by omega,by rw[List.length_append,List.length_singleton];omega,by omega⟩
          have hlf:Qc L R w7<Qc L R wo:=by rw[HL7.o,HLEFT.o];omega
          first|exact⟨hfin,hlf⟩|exact⟨by (repeat apply Exists.intro);exact⟨hfin,rfl⟩,hlf⟩
end Go.Proofs.YtgfmiladfeoldaaGreatDoor
namespace SynP
open LexP
def Le {α:Type}(a b:PR α):Prop:=a=none\/a=b
theorem Le.refl {α:Type}(a:PR α):Le a a:=.inr rfl
theorem Le.none {α:Type}(b:PR α):Le (none:PR α) b:=.inl rfl
theorem Le.bind {α β:Type}{a a':PR α}{f f':α->St->PR β}(h:Le a a')(hf:∀x s,Le (f x s) (f' x s)):Le (a.bind f) (a'.bind f'):=by
 rcases h with rfl|rfl
 ·exact .inl rfl
 ·rcases a with _|(e|⟨x,s⟩)
  ·exact .inl rfl
  ·exact .inr rfl
  ·exact hf x s
theorem Le.ite {α:Type}{c:Bool}{a b a' b':PR α}(h1:Le a a')(h2:Le b b'):Le (if c then a else b) (if c then a' else b'):=by
 cases c
 ·exact h2
 ·exact h1
theorem Le.some {α:Type}{a b:PR α}{r:Except (Nat×Nat) (α×St)}(h:Le a b)(ha:a=some r):b=some r:=by
 rcases h with h|h
 ·rw[h]at ha;cases ha
 ·rw[<-h];exact ha
theorem Gk (fin:Nat):∀f n acc s,Le (Q9 fin f n acc s) (Q9 fin (f+1) n acc s):=by
 intro f
 induction f with
 |zero=>intro n acc s;exact Le.none _
 |succ f ih=>
  intro n acc s;rw[Q9,Q9];exact Le.ite (Le.bind (Le.refl _) fun m s'=>ih _ _ _) (Le.refl _)
theorem Eu (fin:Nat):∀f acc lens s,Le (entries fin f acc lens s) (entries fin (f+1) acc lens s):=by
 intro f
 induction f with
 |zero=>intro acc lens s;exact Le.none _
 |succ f ih=>
  intro acc lens s;rw[entries,entries];exact Le.bind (Gk fin f 0 acc s) fun r s=>Le.ite (Le.refl _) (Le.bind (Le.refl _) fun _ _=>ih _ _ _)
theorem Cu (fin f:Nat)(s:St):Le (X6 fin f s) (X6 fin (f+1) s):=by
 unfold X6;exact Le.bind (Le.refl _) fun _ s=>Le.ite (Le.refl _) (Le.bind (Eu _ _ _ _ _) fun _ _=>Le.refl _)
theorem Dw (fin:Nat):∀f acc s,Le (X0 fin f acc s) (X0 fin (f+1) acc s):=by
 intro f
 induction f with
 |zero=>intro acc s;exact Le.none _
 |succ f ih=>
  intro acc s;rw[X0,X0];exact Le.ite (Le.bind (Le.refl _) fun _ _=>ih _ _) (Le.refl _)
theorem D6 (fin:Nat):∀f acc s,Le (Xa fin f acc s) (Xa fin (f+1) acc s):=by
 intro f
 induction f with
 |zero=>intro acc s;exact Le.none _
 |succ f ih=>
  intro acc s;rw[Xa,Xa];exact Le.bind (Le.refl _) fun n s=>Le.bind (Dw _ _ _ _) fun x s=>Le.ite (Le.refl _) (Le.bind (Le.refl _) fun _ _=>ih _ _)
theorem Ec (fin f:Nat)(s:St):Le (Xg fin f s) (Xg fin (f+1) s):=by
 unfold Xg;exact Le.bind (Le.refl _) fun _ s=>Le.ite (Le.refl _) (D6 _ _ _ _)
def Stab {α:Type}(g:Nat->PR α):Prop:=∀f,Le (g f) (g (f+1))
def Ev {α:Type}(g:Nat->PR α)(r:Except (Nat×Nat) (α×St)):Prop:=∃f,g f=some r
theorem Stab.le {α:Type}{g:Nat->PR α}(h:Stab g){f f':Nat}(hf:f<=f'){r:Except (Nat×Nat) (α×St)}(hr:g f=some r):g f'=some r:=by
 induction hf with
 |refl=>exact hr
 |step _ ih=>exact(h _).some ih
theorem Ev.one {α:Type}{g:Nat->PR α}(h:Stab g){r r':Except (Nat×Nat) (α×St)}(h1:Ev g r)(h2:Ev g r'):r=r':=by
 obtain⟨f1,h1⟩:=h1;obtain⟨f2,h2⟩:=h2;have a:=h.le (Nat.le_max_left f1 f2) h1;rw[h.le (Nat.le_max_right f1 f2) h2]at a;exact(Option.some.inj a).symm
end SynP
