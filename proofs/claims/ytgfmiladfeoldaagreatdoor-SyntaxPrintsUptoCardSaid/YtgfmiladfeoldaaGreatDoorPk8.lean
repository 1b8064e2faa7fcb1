import Derived.Test.YtgfmiladfeoldaaGreatDoorPk7
set_option linter.unusedSimpArgs false
set_option linter.unusedVariables false
set_option maxRecDepth 100000
set_option maxHeartbeats 16000000
namespace Go.Proofs.YtgfmiladfeoldaaGreatDoor
open Go.RowKit ai ag
theorem Tryz.ux:(Tryz.prog.info? 62).map (fun i=>(i.zero,i.size,i.bytes))=some (some (.agg #[.bool false,.slice none 0 0]),2,32):=by kernel_rfl
theorem Y3 {fin:Nat}{s s':ae.St}{m:Nat}(h:ae.Qa fin s=some (.ok (m,s'))):s'.ts.length+1=s.ts.length/\s'.opened=s.opened:=by
 unfold ae.Qa at h;split at h
 ·rename_i E
  unfold ae.ret at h
  cases h
  refine⟨?_,rfl⟩;have:=Wd E;have H:=adJ.2 this;show s.ts.tail.length+1=_;rw[aeI];omega
 cases h
theorem Tv {fin:Nat}{x:Bytes}{s s':ae.St}{u:Unit}(h:ae.want fin x s=some (.ok (u,s'))):s'.ts.length+1=s.ts.length/\s'.opened=s.opened:=by
 unfold ae.want at h;split at h
 ·rename_i E
  unfold ae.ret at h
  cases h
  refine⟨?_,rfl⟩;have H:=adJ.2 (Mf E);show s.ts.tail.length+1=_;rw[aeI];omega
 cases h
def TU (R:Nat)(tv:Value)(L:List Tok)(fin:Nat)(nv:Value)(ns:List Nv)(w:World)(N:Nat)(r:ae.PR (List (Bool×Nat)×List Nat))(av lv:Value)(wr:World):Prop:=
 ∃f acc lens cs a' s',ae.entries fin f acc lens s'=r/\RS wr R tv L fin a' s' nv ns/\Wr R none w wr/\En wr w.heap.size av lv cs acc lens/\acc.length+s'.ts.length<=67108864/\lens.length+s'.ts.length<=67108864/\s'.ts.length<=N
def xX (R:Nat)(tv:Value)(L:List Tok)(fin:Nat)(nv:Value)(ns:List Nv)(w:World)(N:Nat)(lens:List Nat)(lv:Value)(r:ae.PR (Nat×List (Bool×Nat)))(av nn:Value)(wr:World):Prop:=
 ∃f n acc cs a' s',ae.Qt fin f n acc s'=r/\nn=.int .i64 ((n:Nat):Int)/\RS wr R tv L fin a' s' nv ns/\Wr R none w wr/\En wr w.heap.size av lv cs acc lens/\acc.length+s'.ts.length<=67108864/\n<=acc.length/\lens.length+s'.ts.length<=67108864/\(0<n->lens.length+s'.ts.length+1<=67108864)/\s'.ts.length<=N
def EnQ (B:Nat)(x:List (Bool×Nat)×List Nat)(v:Value)(w':World):Prop:=∃av lv cs,v=.tuple #[av,lv]/\En w' B av lv cs x.1 x.2
theorem Fg (R:Nat)(tv:Value)(L:List Tok)(fin a:Nat)(s:ae.St)(nv:Value)(ns:List Nv)(w:World)(h:RS w R tv L fin a s nv ns)(f:Nat)(hf:ae.entries fin f [] [] s≠none):Calls Tryz.prog 112 #[.pointer (some ⟨R,0,none⟩)] w (RB (ae.entries fin f [] [] s) R tv L fin s nv ns (EnQ w.heap.size) w):=by
 have H:=zq h;have aT:=h.lt;obtain⟨r,hr⟩:=xq (ae.entries fin f [] [] s);rw[<-hr]at hf ⊢;have HR:=zq hr;have bR:=zq hf
 have dm:s.ts.length<=67108864:=by have:=h.short;rw[<-h.drop,aag];omega
 have HST:Hid (TU R tv L fin nv ns w s.ts.length r (.slice none 0 0) (.slice none 0 0) w):=⟨f,[],[],[],a,s,hr.symm,h,Wr.refl _ _ _,En.nil _ _,by simpa using dm,by simpa using dm,aaa _⟩;obtain⟨i0,hi,hz0,hz1,hz2'⟩:=abO Tryz.ux;obtain⟨j0,hj,bF,cS,hk2⟩:=abO Tryz.cC;clear h hr hf;go_enter Tryz.func112,Tryz.ntmps112;go_wp2_with fail;go_loopw [2,3,4,5,6] (fun av lv _ _ _ wr=>TU R tv L fin nv ns w s.ts.length r av lv wr) (fun _ _ _ _ _ wr=>Q9 L R wr)
 case atStart=>exact HST.o
 case round=>
  obtain⟨f,acc,lens,cs,a',s',hen,kz,hwr,mD,hb1,hb2,hbN⟩:=hrel;obtain⟨wo,rfl⟩:=xq wr
  cases f with
  |zero=>exact absurd hen.symm (by have:=bR.o;intro e;exact this e)
  |succ f=>
   obtain⟨r2,hr2⟩:=xq (ae.Qt fin f 0 acc s')
   have xe:r2.bind (fun x s=>if ae.Qv [93] s.ts then ae.ret (x.2,lens++[x.1]) s.aW else (ae.want fin [59] s).bind fun _ s=>ae.entries fin f x.2 (lens++[x.1]) s)=r:=by rw[hr2];exact hen
   have jk:=zq xe
   have zV:Hid (r2≠none):=by intro e;rw[e]at xe;exact bR.o xe.symm
   have acn:=zq kz;have IL:=zq kz.left;have HI:Hid (xX R tv L fin nv ns w s'.ts.length lens u3 r2 u2 (.int .i64 0) wo):=⟨f,0,acc,cs,a',s',hr2.symm,rfl,kz,hwr,mD,hb1,aao _,hb2,fun h=>absurd h (ae1 _),aaa _⟩;clear hen kz hwr mD xe hr2;go_wp2_with fail;go_loopw [2,4,5,6] (fun av nn _ _ wr=>xX R tv L fin nv ns w s'.ts.length lens u3 r2 av nn wr) (fun _ _ _ _ wr=>Q9 L R wr)
   case atStart=>exact HI.o
   clear HI
   case round=>
    obtain⟨f2,n,fx,lq,a2,s2,her,rfl,kz,hwr,mD,hb1,eK,hb2,hb3,hbM⟩:=hrel
    cases f2 with
    |zero=>exact absurd her.symm zV.o
    |succ f2=>
     obtain⟨wx,hwx⟩:=xq wr;have pU:=zq kz.left;have mq:=zq kz;have su:=zq hwr;have rK:=zq mD;have QB:=zq her
     have acV:n<=67108864:=by omega
     clear kz hwr mD her hwx;by_cases eQ:n=0
     ·have fj:((n:Int)==0)=true:=by simp[eQ]
      have cf:Hid ((ae.Qa fin (if ae.Qv [45] s2.ts then s2.aW else s2)).bind (fun m s'=>ae.Qt fin f2 (n+1) (fx++[(ae.Qv [45] s2.ts && decide (0<m),m)]) s')=r2):=by have h1:=QB.o;unfold ae.Qt at h1;rw[if_pos (show (decide (n=0)||ae.Qv [45] s2.ts||ae.Qm 1 s2.ts)=true from by simp[eQ])]at h1;exact h1
      have o8:=zq eQ;clear eQ;have AD:=mq;have yx:=su;have zB:=rK;clear mq su rK;obtain⟨s1,hs1⟩:=xq ((if ae.Qv [45] s2.ts then s2.aW else s2));have cL:=zq hs1;clear hs1;go_wp2_with fail;refine(Zy R tv L fin a2 s2 nv ns _ AD.o [45]).mono ?_;rintro e w1 ⟨rfl,t1,t2⟩
      have t3:∃b1,RS w1 R tv L fin b1 s1 nv ns:=by
       rw[cL.o];split at t2
       ·rename_i hq;rw[if_pos hq];exact⟨_,t2⟩
       rename_i hq;rw[if_neg hq];exact⟨_,t2⟩
      obtain⟨b1,t3⟩:=t3;have T1:=zq (RS.step yx.o t1);have T3:=zq t3;have TE:=zq (zB.o.wr t1 aT)
      have Oq:s1.ts.length<=s2.ts.length:=by
       rw[cL.o];split
       ·exact Vc s2
       exact aaa _
      obtain⟨ng,lZ⟩:=xq (ae.Qv [45] s2.ts);rw[<-lZ];have nJ:=zq lZ;clear t1 t2 t3 lZ;go_wp2_with fail;refine(Ja R tv L fin b1 s1 nv ns _ T3.o).mono ?_;rintro e w2 hn;rcases hN:ae.Qa fin s1 with- |(⟨fc,fk⟩|⟨m,s3⟩)
      ·rw[hN]at hn;exact hn.elim
      ·rw[hN]at hn
       obtain⟨rfl,n1⟩:=hn;refine⟨rfl,?_⟩
       have hr2:r2=some (.error (fc,fk)):=by rw[<-cf.o,<-cL.o,hN];rfl
       have hr:r=some (.error (fc,fk)):=by rw[<-jk.o,hr2];rfl
       rw[hr];exact⟨rfl,RS.step T1.o n1⟩
      rw[hN]at hn;obtain⟨v,a3,rfl,n1,n2,n3,n4⟩:=hn;have eK:=Y3 hN
      obtain⟨vo,aA,vl,rfl⟩:∃vo aA vl,v=.slice vo vl aA:=by obtain⟨⟨xs,hx,-⟩,-⟩:=n4;obtain⟨vo,aA,e,-⟩:=hx.2;exact⟨vo,aA,_,e⟩
      have hz:decide (0<vl)=decide (0<m):=by have:vl=0↔m=0:=n4.2.2;simp only[decide_eq_decide];omega
      have jl:=zq (RS.step T1.o n2);have kZ:=zq n1;have mf:=zq (TE.o.wr n2 aT);have eX:=zq n4;obtain⟨b,hb⟩:=xq ((ng && decide (0<m)));have HB:=zq hb;have HZ:=zq hz
      have lU:Hid (r2=ae.Qt fin f2 (n+1) (fx++[(b,m)]) s3):=by show _=_;rw[<-cf.o,<-cL.o,hN,HB.o,nJ.o];rfl
      have dA:lq.length<=67108864:=by rw[mf.o.len];omega
      have iU:=zq dA;have gK:=zq (Qq w2 (.cells #[.bool b,.slice vo vl aA] 62));have fq:=zq (kZ.o.below gK.o);have cJ:=zq (RS.step jl.o (Wr.af gK.o));have dx:=zq (mf.o.wr (R:=R) (Wr.af gK.o) aT);have mS:=(eX.o.wr (R:=R) (og:=none) (Wr.af gK.o) (aaj aT T1.o.size) (fun q hq=>by cases hq));have j8:=zq mS;have dN:=zq T1.o.size;obtain⟨nc,bq⟩:=xq lq.length;have fV:=zq bq
      have mE:(w2.alloc (.cells #[.bool b,.slice vo vl aA] 62)).ownsRow w.heap.size 62 2 u2 nc (Q6 lq):=by rw[bq];exact dx.o.bV
      have HOW:=zq mE
      have qB:nc<=67108864:=by rw[bq];exact dA
      have hb0:b=(ng && decide (0<vl)):=by rw[HB.o,HZ.o]
      have hz2:=jl.o.size
      have iP:w.heap.size<=(w2.alloc (.cells #[.bool b,.slice vo vl aA] 62)).heap.size:=by simp;omega
      have JN:=zq iP;have bU:=zq hb0;clear n1 n2 n4 mS hb hz bq mE dA hN hb0 iP
      cases mU:ng with
      |true=>
       subst mU
       have xb:(decide (0<vl))=b:=by rw[bU.o];rfl
       go_wp2_with (at_builtin;refine adr _ rfl _ _ 45 rfl w.heap.size 62 i0 (.agg #[.bool false,.slice none 0 0]) 2 32 Tryz.underlying45 hi hz0 hz1 hz2' rfl (by omega) u2 nc (Q6 lq) rfl HOW.o ⟨w2.heap.size,0,none⟩ 1 1 [.bool b,.slice vo vl aA] rfl rfl (ag.Qh _ _ _ _ rfl) (by simp[Value.oneCell']) (by omega) (by unfold maxLen;omega) (by omega) (by simp;omega) (w2.heap.size+1) (by simp) ?_);intro gg cap w5 aK hgrow hat cT
       have q1:=dx.o.push (neg:=b) (m:=.slice vo vl aA) (k:=m) (j8.o.mono dN.o) (fun q hq=>by
        have h1:=eX.o.2.1 q hq;refine⟨fun e=> ?_,fun e=> ?_⟩
        ·have:=(TE.o.bV.lt q e).2;omega
        have:=(TE.o.eW.lt q e).2;omega) (by rw[<-fV.o];exact aK) hgrow (by simpa using hat)
       obtain⟨q2,q3⟩:=H.o.loc fq.o cJ.o hgrow (fun q hq=>(dx.o.bV.lt q hq).1);have ir:=zq q1;have cY:=zq q2;have eY:=zq q3;rw[<-fV.o]at ir;have gP:=zq q2.left;clear aK hgrow hat cT q1 q2 q3;go_wp2_with fail;have ah:xX R tv L fin nv ns w s'.ts.length lens u3 r2 (.slice (some ⟨gg,0,none⟩) (nc+1) cap) (.int .i64 ((n:Int)+1)) w5:=⟨f2,n+1,fx++[(b,m)],_,a3,s3,lU.o.symm,by congr 1,cY.o,eY.o,ir.o,by rw[aac,aaJ];omega,by rw[aac,aaJ];omega,by omega,fun _=>by omega,by omega⟩
       have eP:Q9 L R w5<Q9 L R wr:=by rw[gP.o,pU.o];omega
       first|exact⟨ah,eP⟩|exact⟨by (repeat apply Exists.intro);exact⟨ah,rfl⟩,eP⟩
      |false=>
       subst mU
       have L0:b=false:=by rw[bU.o];rfl
       subst L0;go_wp2_with (at_builtin;refine adr _ rfl _ _ 45 rfl w.heap.size 62 i0 (.agg #[.bool false,.slice none 0 0]) 2 32 Tryz.underlying45 hi hz0 hz1 hz2' rfl (by omega) u2 nc (Q6 lq) rfl HOW.o ⟨w2.heap.size,0,none⟩ 1 1 [.bool false,.slice vo vl aA] rfl rfl (ag.Qh _ _ _ _ rfl) (by simp[Value.oneCell']) (by omega) (by unfold maxLen;omega) (by omega) (by simp;omega) (w2.heap.size+1) (by simp) ?_);intro gg cap w5 aK hgrow hat cT
       have q1:=dx.o.push (neg:=false) (m:=.slice vo vl aA) (k:=m) (j8.o.mono dN.o) (fun q hq=>by
        have h1:=eX.o.2.1 q hq;refine⟨fun e=> ?_,fun e=> ?_⟩
        ·have:=(TE.o.bV.lt q e).2;omega
        have:=(TE.o.eW.lt q e).2;omega) (by rw[<-fV.o];exact aK) hgrow (by simpa using hat)
       obtain⟨q2,q3⟩:=H.o.loc fq.o cJ.o hgrow (fun q hq=>(dx.o.bV.lt q hq).1);have ir:=zq q1;have cY:=zq q2;have eY:=zq q3;rw[<-fV.o]at ir;have gP:=zq q2.left;clear aK hgrow hat cT q1 q2 q3;go_wp2_with fail;have ah:xX R tv L fin nv ns w s'.ts.length lens u3 r2 (.slice (some ⟨gg,0,none⟩) (nc+1) cap) (.int .i64 ((n:Int)+1)) w5:=⟨f2,n+1,fx++[(false,m)],_,a3,s3,lU.o.symm,by congr 1,cY.o,eY.o,ir.o,by rw[aac,aaJ];omega,by rw[aac,aaJ];omega,by omega,fun _=>by omega,by omega⟩
       have eP:Q9 L R w5<Q9 L R wr:=by rw[gP.o,pU.o];omega
       first|exact⟨ah,eP⟩|exact⟨by (repeat apply Exists.intro);exact⟨ah,rfl⟩,eP⟩
     have fj:((n:Int)==0)=false:=by simp[eQ]
     have dC:0<n:=by omega
     have hb4:=hb3 dC;have o8:=zq eQ;clear eQ hb3
     cases hm:ae.Qv [45] s2.ts with
     |true=>
      have cf:Hid ((ae.Qa fin (if ae.Qv [45] s2.ts then s2.aW else s2)).bind (fun m s'=>ae.Qt fin f2 (n+1) (fx++[(ae.Qv [45] s2.ts && decide (0<m),m)]) s')=r2):=by have h1:=QB.o;unfold ae.Qt at h1;rw[if_pos (show (decide (n=0)||ae.Qv [45] s2.ts||ae.Qm 1 s2.ts)=true from by simp[hm])]at h1;exact h1
      have HM:=zq hm;clear hm;go_wp2_with fail;refine(Nb R tv L fin a2 s2 nv ns _ mq.o [45]).mono ?_;rintro e wx ⟨rfl,bx⟩;rw[HM.o];have AD:=zq (mq.o.below bx);have yx:=zq (RS.step su.o (Wr.af bx));have zB:=zq (rK.o.wr (R:=R) (Wr.af bx) aT);clear bx;obtain⟨s1,hs1⟩:=xq ((if ae.Qv [45] s2.ts then s2.aW else s2));have cL:=zq hs1;clear hs1;go_wp2_with fail;refine(Zy R tv L fin a2 s2 nv ns _ AD.o [45]).mono ?_;rintro e w1 ⟨rfl,t1,t2⟩
      have t3:∃b1,RS w1 R tv L fin b1 s1 nv ns:=by
       rw[cL.o];split at t2
       ·rename_i hq;rw[if_pos hq];exact⟨_,t2⟩
       rename_i hq;rw[if_neg hq];exact⟨_,t2⟩
      obtain⟨b1,t3⟩:=t3;have T1:=zq (RS.step yx.o t1);have T3:=zq t3;have TE:=zq (zB.o.wr t1 aT)
      have Oq:s1.ts.length<=s2.ts.length:=by
       rw[cL.o];split
       ·exact Vc s2
       exact aaa _
      obtain⟨ng,lZ⟩:=xq (ae.Qv [45] s2.ts);rw[<-lZ];have nJ:=zq lZ;clear t1 t2 t3 lZ;go_wp2_with fail;refine(Ja R tv L fin b1 s1 nv ns _ T3.o).mono ?_;rintro e w2 hn;rcases hN:ae.Qa fin s1 with- |(⟨fc,fk⟩|⟨m,s3⟩)
      ·rw[hN]at hn;exact hn.elim
      ·rw[hN]at hn
       obtain⟨rfl,n1⟩:=hn;refine⟨rfl,?_⟩
       have hr2:r2=some (.error (fc,fk)):=by rw[<-cf.o,<-cL.o,hN];rfl
       have hr:r=some (.error (fc,fk)):=by rw[<-jk.o,hr2];rfl
       rw[hr];exact⟨rfl,RS.step T1.o n1⟩
      rw[hN]at hn;obtain⟨v,a3,rfl,n1,n2,n3,n4⟩:=hn;have eK:=Y3 hN
      obtain⟨vo,aA,vl,rfl⟩:∃vo aA vl,v=.slice vo vl aA:=by obtain⟨⟨xs,hx,-⟩,-⟩:=n4;obtain⟨vo,aA,e,-⟩:=hx.2;exact⟨vo,aA,_,e⟩
      have hz:decide (0<vl)=decide (0<m):=by have:vl=0↔m=0:=n4.2.2;simp only[decide_eq_decide];omega
      have jl:=zq (RS.step T1.o n2);have kZ:=zq n1;have mf:=zq (TE.o.wr n2 aT);have eX:=zq n4;obtain⟨b,hb⟩:=xq ((ng && decide (0<m)));have HB:=zq hb;have HZ:=zq hz
      have lU:Hid (r2=ae.Qt fin f2 (n+1) (fx++[(b,m)]) s3):=by show _=_;rw[<-cf.o,<-cL.o,hN,HB.o,nJ.o];rfl
      have dA:lq.length<=67108864:=by rw[mf.o.len];omega
      have iU:=zq dA;have gK:=zq (Qq w2 (.cells #[.bool b,.slice vo vl aA] 62));have fq:=zq (kZ.o.below gK.o);have cJ:=zq (RS.step jl.o (Wr.af gK.o));have dx:=zq (mf.o.wr (R:=R) (Wr.af gK.o) aT);have mS:=(eX.o.wr (R:=R) (og:=none) (Wr.af gK.o) (aaj aT T1.o.size) (fun q hq=>by cases hq));have j8:=zq mS;have dN:=zq T1.o.size;obtain⟨nc,bq⟩:=xq lq.length;have fV:=zq bq
      have mE:(w2.alloc (.cells #[.bool b,.slice vo vl aA] 62)).ownsRow w.heap.size 62 2 u2 nc (Q6 lq):=by rw[bq];exact dx.o.bV
      have HOW:=zq mE
      have qB:nc<=67108864:=by rw[bq];exact dA
      have hb0:b=(ng && decide (0<vl)):=by rw[HB.o,HZ.o]
      have hz2:=jl.o.size
      have iP:w.heap.size<=(w2.alloc (.cells #[.bool b,.slice vo vl aA] 62)).heap.size:=by simp;omega
      have JN:=zq iP;have bU:=zq hb0;clear n1 n2 n4 mS hb hz bq mE dA hN hb0 iP
      cases mU:ng with
      |true=>
       subst mU
       have xb:(decide (0<vl))=b:=by rw[bU.o];rfl
       go_wp2_with (at_builtin;refine adr _ rfl _ _ 45 rfl w.heap.size 62 i0 (.agg #[.bool false,.slice none 0 0]) 2 32 Tryz.underlying45 hi hz0 hz1 hz2' rfl (by omega) u2 nc (Q6 lq) rfl HOW.o ⟨w2.heap.size,0,none⟩ 1 1 [.bool b,.slice vo vl aA] rfl rfl (ag.Qh _ _ _ _ rfl) (by simp[Value.oneCell']) (by omega) (by unfold maxLen;omega) (by omega) (by simp;omega) (w2.heap.size+1) (by simp) ?_);intro gg cap w5 aK hgrow hat cT
       have q1:=dx.o.push (neg:=b) (m:=.slice vo vl aA) (k:=m) (j8.o.mono dN.o) (fun q hq=>by
        have h1:=eX.o.2.1 q hq;refine⟨fun e=> ?_,fun e=> ?_⟩
        ·have:=(TE.o.bV.lt q e).2;omega
        have:=(TE.o.eW.lt q e).2;omega) (by rw[<-fV.o];exact aK) hgrow (by simpa using hat)
       obtain⟨q2,q3⟩:=H.o.loc fq.o cJ.o hgrow (fun q hq=>(dx.o.bV.lt q hq).1);have ir:=zq q1;have cY:=zq q2;have eY:=zq q3;rw[<-fV.o]at ir;have gP:=zq q2.left;clear aK hgrow hat cT q1 q2 q3;go_wp2_with fail;have ah:xX R tv L fin nv ns w s'.ts.length lens u3 r2 (.slice (some ⟨gg,0,none⟩) (nc+1) cap) (.int .i64 ((n:Int)+1)) w5:=⟨f2,n+1,fx++[(b,m)],_,a3,s3,lU.o.symm,by congr 1,cY.o,eY.o,ir.o,by rw[aac,aaJ];omega,by rw[aac,aaJ];omega,by omega,fun _=>by omega,by omega⟩
       have eP:Q9 L R w5<Q9 L R wr:=by rw[gP.o,pU.o];omega
       first|exact⟨ah,eP⟩|exact⟨by (repeat apply Exists.intro);exact⟨ah,rfl⟩,eP⟩
      |false=>
       subst mU
       have L0:b=false:=by rw[bU.o];rfl
       subst L0;go_wp2_with (at_builtin;refine adr _ rfl _ _ 45 rfl w.heap.size 62 i0 (.agg #[.bool false,.slice none 0 0]) 2 32 Tryz.underlying45 hi hz0 hz1 hz2' rfl (by omega) u2 nc (Q6 lq) rfl HOW.o ⟨w2.heap.size,0,none⟩ 1 1 [.bool false,.slice vo vl aA] rfl rfl (ag.Qh _ _ _ _ rfl) (by simp[Value.oneCell']) (by omega) (by unfold maxLen;omega) (by omega) (by simp;omega) (w2.heap.size+1) (by simp) ?_);intro gg cap w5 aK hgrow hat cT
       have q1:=dx.o.push (neg:=false) (m:=.slice vo vl aA) (k:=m) (j8.o.mono dN.o) (fun q hq=>by
        have h1:=eX.o.2.1 q hq;refine⟨fun e=> ?_,fun e=> ?_⟩
        ·have:=(TE.o.bV.lt q e).2;omega
        have:=(TE.o.eW.lt q e).2;omega) (by rw[<-fV.o];exact aK) hgrow (by simpa using hat)
       obtain⟨q2,q3⟩:=H.o.loc fq.o cJ.o hgrow (fun q hq=>(dx.o.bV.lt q hq).1);have ir:=zq q1;have cY:=zq q2;have eY:=zq q3;rw[<-fV.o]at ir;have gP:=zq q2.left;clear aK hgrow hat cT q1 q2 q3;go_wp2_with fail;have ah:xX R tv L fin nv ns w s'.ts.length lens u3 r2 (.slice (some ⟨gg,0,none⟩) (nc+1) cap) (.int .i64 ((n:Int)+1)) w5:=⟨f2,n+1,fx++[(false,m)],_,a3,s3,lU.o.symm,by congr 1,cY.o,eY.o,ir.o,by rw[aac,aaJ];omega,by rw[aac,aaJ];omega,by omega,fun _=>by omega,by omega⟩
       have eP:Q9 L R w5<Q9 L R wr:=by rw[gP.o,pU.o];omega
       first|exact⟨ah,eP⟩|exact⟨by (repeat apply Exists.intro);exact⟨ah,rfl⟩,eP⟩
     |false=>
      cases hk:ae.Qm 1 s2.ts with
      |true=>
       have cf:Hid ((ae.Qa fin (if ae.Qv [45] s2.ts then s2.aW else s2)).bind (fun m s'=>ae.Qt fin f2 (n+1) (fx++[(ae.Qv [45] s2.ts && decide (0<m),m)]) s')=r2):=by have h1:=QB.o;unfold ae.Qt at h1;rw[if_pos (show (decide (n=0)||ae.Qv [45] s2.ts||ae.Qm 1 s2.ts)=true from by simp[hk])]at h1;exact h1
       have HM:=zq hm;have fM:=Zj 1 [] s2.ts (by decide);rw[hk]at fM;have HK:=zq fM;clear hm hk fM;go_wp2_with fail;refine(Nb R tv L fin a2 s2 nv ns _ mq.o [45]).mono ?_;rintro e wy ⟨rfl,bx⟩;rw[HM.o];have JM:=zq (mq.o.below bx);have XN:=zq (RS.step su.o (Wr.af bx));have UY:=zq (rK.o.wr (R:=R) (Wr.af bx) aT);clear bx;go_wp2_with fail;refine(X4 R tv L fin a2 s2 nv ns _ JM.o 0 1 [] (by omega) (by omega)).mono ?_;rintro e wx ⟨rfl,bx⟩;rw[HK.o];have AD:=zq (JM.o.below bx);have yx:=zq (RS.step XN.o (Wr.af bx));have zB:=zq (UY.o.wr (R:=R) (Wr.af bx) aT);clear bx;obtain⟨s1,hs1⟩:=xq ((if ae.Qv [45] s2.ts then s2.aW else s2));have cL:=zq hs1;clear hs1;go_wp2_with fail;refine(Zy R tv L fin a2 s2 nv ns _ AD.o [45]).mono ?_;rintro e w1 ⟨rfl,t1,t2⟩
       have t3:∃b1,RS w1 R tv L fin b1 s1 nv ns:=by
        rw[cL.o];split at t2
        ·rename_i hq;rw[if_pos hq];exact⟨_,t2⟩
        rename_i hq;rw[if_neg hq];exact⟨_,t2⟩
       obtain⟨b1,t3⟩:=t3;have T1:=zq (RS.step yx.o t1);have T3:=zq t3;have TE:=zq (zB.o.wr t1 aT)
       have Oq:s1.ts.length<=s2.ts.length:=by
        rw[cL.o];split
        ·exact Vc s2
        exact aaa _
       obtain⟨ng,lZ⟩:=xq (ae.Qv [45] s2.ts);rw[<-lZ];have nJ:=zq lZ;clear t1 t2 t3 lZ;go_wp2_with fail;refine(Ja R tv L fin b1 s1 nv ns _ T3.o).mono ?_;rintro e w2 hn;rcases hN:ae.Qa fin s1 with- |(⟨fc,fk⟩|⟨m,s3⟩)
       ·rw[hN]at hn;exact hn.elim
       ·rw[hN]at hn
        obtain⟨rfl,n1⟩:=hn;refine⟨rfl,?_⟩
        have hr2:r2=some (.error (fc,fk)):=by rw[<-cf.o,<-cL.o,hN];rfl
        have hr:r=some (.error (fc,fk)):=by rw[<-jk.o,hr2];rfl
        rw[hr];exact⟨rfl,RS.step T1.o n1⟩
       rw[hN]at hn;obtain⟨v,a3,rfl,n1,n2,n3,n4⟩:=hn;have eK:=Y3 hN
       obtain⟨vo,aA,vl,rfl⟩:∃vo aA vl,v=.slice vo vl aA:=by obtain⟨⟨xs,hx,-⟩,-⟩:=n4;obtain⟨vo,aA,e,-⟩:=hx.2;exact⟨vo,aA,_,e⟩
       have hz:decide (0<vl)=decide (0<m):=by have:vl=0↔m=0:=n4.2.2;simp only[decide_eq_decide];omega
       have jl:=zq (RS.step T1.o n2);have kZ:=zq n1;have mf:=zq (TE.o.wr n2 aT);have eX:=zq n4;obtain⟨b,hb⟩:=xq ((ng && decide (0<m)));have HB:=zq hb;have HZ:=zq hz
       have lU:Hid (r2=ae.Qt fin f2 (n+1) (fx++[(b,m)]) s3):=by show _=_;rw[<-cf.o,<-cL.o,hN,HB.o,nJ.o];rfl
       have dA:lq.length<=67108864:=by rw[mf.o.len];omega
       have iU:=zq dA;have gK:=zq (Qq w2 (.cells #[.bool b,.slice vo vl aA] 62));have fq:=zq (kZ.o.below gK.o);have cJ:=zq (RS.step jl.o (Wr.af gK.o));have dx:=zq (mf.o.wr (R:=R) (Wr.af gK.o) aT);have mS:=(eX.o.wr (R:=R) (og:=none) (Wr.af gK.o) (aaj aT T1.o.size) (fun q hq=>by cases hq));have j8:=zq mS;have dN:=zq T1.o.size;obtain⟨nc,bq⟩:=xq lq.length;have fV:=zq bq
       have mE:(w2.alloc (.cells #[.bool b,.slice vo vl aA] 62)).ownsRow w.heap.size 62 2 u2 nc (Q6 lq):=by rw[bq];exact dx.o.bV
       have HOW:=zq mE
       have qB:nc<=67108864:=by rw[bq];exact dA
       have hb0:b=(ng && decide (0<vl)):=by rw[HB.o,HZ.o]
       have hz2:=jl.o.size
       have iP:w.heap.size<=(w2.alloc (.cells #[.bool b,.slice vo vl aA] 62)).heap.size:=by simp;omega
       have JN:=zq iP;have bU:=zq hb0;clear n1 n2 n4 mS hb hz bq mE dA hN hb0 iP
       cases mU:ng with
       |true=>
        subst mU
        have xb:(decide (0<vl))=b:=by rw[bU.o];rfl
        go_wp2_with (at_builtin;refine adr _ rfl _ _ 45 rfl w.heap.size 62 i0 (.agg #[.bool false,.slice none 0 0]) 2 32 Tryz.underlying45 hi hz0 hz1 hz2' rfl (by omega) u2 nc (Q6 lq) rfl HOW.o ⟨w2.heap.size,0,none⟩ 1 1 [.bool b,.slice vo vl aA] rfl rfl (ag.Qh _ _ _ _ rfl) (by simp[Value.oneCell']) (by omega) (by unfold maxLen;omega) (by omega) (by simp;omega) (w2.heap.size+1) (by simp) ?_);intro gg cap w5 aK hgrow hat cT
        have q1:=dx.o.push (neg:=b) (m:=.slice vo vl aA) (k:=m) (j8.o.mono dN.o) (fun q hq=>by
         have h1:=eX.o.2.1 q hq;refine⟨fun e=> ?_,fun e=> ?_⟩
         ·have:=(TE.o.bV.lt q e).2;omega
         have:=(TE.o.eW.lt q e).2;omega) (by rw[<-fV.o];exact aK) hgrow (by simpa using hat)
        obtain⟨q2,q3⟩:=H.o.loc fq.o cJ.o hgrow (fun q hq=>(dx.o.bV.lt q hq).1);have ir:=zq q1;have cY:=zq q2;have eY:=zq q3;rw[<-fV.o]at ir;have gP:=zq q2.left;clear aK hgrow hat cT q1 q2 q3;go_wp2_with fail;have ah:xX R tv L fin nv ns w s'.ts.length lens u3 r2 (.slice (some ⟨gg,0,none⟩) (nc+1) cap) (.int .i64 ((n:Int)+1)) w5:=⟨f2,n+1,fx++[(b,m)],_,a3,s3,lU.o.symm,by congr 1,cY.o,eY.o,ir.o,by rw[aac,aaJ];omega,by rw[aac,aaJ];omega,by omega,fun _=>by omega,by omega⟩
        have eP:Q9 L R w5<Q9 L R wr:=by rw[gP.o,pU.o];omega
        first|exact⟨ah,eP⟩|exact⟨by (repeat apply Exists.intro);exact⟨ah,rfl⟩,eP⟩
       |false=>
        subst mU
        have L0:b=false:=by rw[bU.o];rfl
        subst L0;go_wp2_with (at_builtin;refine adr _ rfl _ _ 45 rfl w.heap.size 62 i0 (.agg #[.bool false,.slice none 0 0]) 2 32 Tryz.underlying45 hi hz0 hz1 hz2' rfl (by omega) u2 nc (Q6 lq) rfl HOW.o ⟨w2.heap.size,0,none⟩ 1 1 [.bool false,.slice vo vl aA] rfl rfl (ag.Qh _ _ _ _ rfl) (by simp[Value.oneCell']) (by omega) (by unfold maxLen;omega) (by omega) (by simp;omega) (w2.heap.size+1) (by simp) ?_);intro gg cap w5 aK hgrow hat cT
        have q1:=dx.o.push (neg:=false) (m:=.slice vo vl aA) (k:=m) (j8.o.mono dN.o) (fun q hq=>by
         have h1:=eX.o.2.1 q hq;refine⟨fun e=> ?_,fun e=> ?_⟩
         ·have:=(TE.o.bV.lt q e).2;omega
         have:=(TE.o.eW.lt q e).2;omega) (by rw[<-fV.o];exact aK) hgrow (by simpa using hat)
        obtain⟨q2,q3⟩:=H.o.loc fq.o cJ.o hgrow (fun q hq=>(dx.o.bV.lt q hq).1);have ir:=zq q1;have cY:=zq q2;have eY:=zq q3;rw[<-fV.o]at ir;have gP:=zq q2.left;clear aK hgrow hat cT q1 q2 q3;go_wp2_with fail;have ah:xX R tv L fin nv ns w s'.ts.length lens u3 r2 (.slice (some ⟨gg,0,none⟩) (nc+1) cap) (.int .i64 ((n:Int)+1)) w5:=⟨f2,n+1,fx++[(false,m)],_,a3,s3,lU.o.symm,by congr 1,cY.o,eY.o,ir.o,by rw[aac,aaJ];omega,by rw[aac,aaJ];omega,by omega,fun _=>by omega,by omega⟩
        have eP:Q9 L R w5<Q9 L R wr:=by rw[gP.o,pU.o];omega
        first|exact⟨ah,eP⟩|exact⟨by (repeat apply Exists.intro);exact⟨ah,rfl⟩,eP⟩
      |false=>
       have iW:Hid (r=if ae.Qv [93] s2.ts then ae.ret (fx,lens++[n]) s2.aW else (ae.want fin [59] s2).bind fun _ s=>ae.entries fin f fx (lens++[n]) s):=by have h1:=QB.o;unfold ae.Qt at h1;rw[if_neg (show ¬(decide (n=0)||ae.Qv [45] s2.ts||ae.Qm 1 s2.ts)=true from by simp[hk,hm,o8.o])]at h1;show _=_;rw[<-jk.o,<-h1];rfl
       have HM:=zq hm;have fM:=Zj 1 [] s2.ts (by decide);rw[hk]at fM;have HK:=zq fM;clear hm hk fM;go_wp2_with fail;refine(Nb R tv L fin a2 s2 nv ns _ mq.o [45]).mono ?_;rintro e wy ⟨rfl,bx⟩;rw[HM.o];have JM:=zq (mq.o.below bx);have XN:=zq (RS.step su.o (Wr.af bx));have UY:=zq (rK.o.wr (R:=R) (Wr.af bx) aT);clear bx;go_wp2_with fail;refine(X4 R tv L fin a2 s2 nv ns _ JM.o 0 1 [] (by omega) (by omega)).mono ?_;rintro e wx ⟨rfl,bx⟩;rw[HK.o];have AD:=zq (JM.o.below bx);have yx:=zq (RS.step XN.o (Wr.af bx));have zB:=zq (UY.o.wr (R:=R) (Wr.af bx) aT);have ada:=yx.o.size;clear bx;have gK:=zq (Qq wx (.cells #[.int .i64 (n:Nat)] 3));have fq:=zq (AD.o.below gK.o);have cJ:=zq (RS.step yx.o (Wr.af gK.o));have dx:=zq (zB.o.wr (R:=R) (Wr.af gK.o) aT);obtain⟨nc,bq⟩:=xq lens.length;have fV:=zq bq
       have mE:(wx.alloc (.cells #[.int .i64 (n:Nat)] 3)).ownsRow w.heap.size 3 1 u3 nc (ints lens):=by rw[bq];exact dx.o.eW
       have HOW:=zq mE
       have qB:nc<=67108864:=by omega
       clear bq mE;go_wp2_with (at_builtin;refine adr _ rfl _ _ 41 rfl w.heap.size 3 j0 (.int .i64 0) 1 8 Tryz.underlying41 hj bF cS hk2 rfl (by omega) u3 nc (ints lens) rfl HOW.o ⟨wx.heap.size,0,none⟩ 1 1 [.int .i64 (n:Nat)] rfl rfl (ag.Qh _ _ _ _ rfl) (by simp[Value.oneCell']) (by omega) (by unfold maxLen;omega) (by omega) (by simp;omega) (wx.heap.size+1) (by simp) ?_);intro gg cap w5 aK hgrow hat cT;have q1:=dx.o.uG (n:=n) (by rw[<-fV.o];exact aK) hgrow (by simpa using hat);obtain⟨q2,q3⟩:=H.o.loc fq.o cJ.o hgrow (fun q hq=>(dx.o.eW.lt q hq).1);rw[<-fV.o]at q1;have ir:=zq q1;have cY:=zq q2;have eY:=zq q3;clear aK hgrow hat cT q1 q2 q3;go_wp2_with fail;refine(Zy R tv L fin a2 s2 nv ns _ cY.o [93]).mono ?_;rintro e w6 ⟨rfl,t1,t2⟩;have T1:=zq (RS.step eY.o t1);have TE:=zq (ir.o.wr t1 aT);clear t1
       cases ix:ae.Qv [93] s2.ts with
       |true=>
        rw[if_pos ix]at t2;have T2:=zq t2;have vB:=zq ix;clear t2 ix;go_wp2_with fail;go_ret2;rw[iW.o,if_pos vB.o]
        exact⟨_,_,rfl,T2.o,T1.o,aan (Vc s2) (by omega),_,_,_,rfl,TE.o⟩
       |false=>
        rw[if_neg (by rw[ix];decide)]at t2;have T2:=zq t2;have vB:=zq ix;clear t2 ix;go_wp2_with fail;refine(Rb R tv L fin a2 s2 nv ns _ T2.o [59]).mono ?_;rintro e w7 hn;rcases hN:ae.want fin [59] s2 with- |(⟨fc,fk⟩|⟨m,s3⟩)
        ·rw[hN]at hn;exact hn.elim
        ·rw[hN]at hn
         obtain⟨rfl,n1⟩:=hn;refine⟨rfl,?_⟩
         have hr:r=some (.error (fc,fk)):=by rw[iW.o,if_neg (by rw[vB.o];decide),hN];rfl
         rw[hr];exact⟨rfl,RS.step T1.o n1⟩
        rw[hN]at hn;obtain⟨v,a3,rfl,n1,n2,n3,rfl⟩:=hn;have hwl:=Tv hN
        have hr:ae.entries fin f fx (lens++[n]) s3=r:=by rw[iW.o,if_neg (by rw[vB.o];decide),hN];rfl
        have FH:=zq hr;have zL:=zq n1.left;have VW:=zq n1;have jl:=zq (RS.step T1.o n2);have HE7:=zq (TE.o.wr n2 aT);clear n1 n2 n3 hr hN;go_wp2_with fail;have ah:TU R tv L fin nv ns w s.ts.length r u2 (.slice (some ⟨gg,0,none⟩) (nc+1) cap) w7:=⟨f,fx,lens++[n],_,a3,s3,FH.o,VW.o,jl.o,HE7.o,by omega,by rw[aac,aaJ];omega,by omega⟩
        have eP:Q9 L R w7<Q9 L R wo:=by rw[zL.o,IL.o];omega
        first|exact⟨ah,eP⟩|exact⟨by (repeat apply Exists.intro);exact⟨ah,rfl⟩,eP⟩
end Go.Proofs.YtgfmiladfeoldaaGreatDoor
namespace ae
open ag
def Le {α:Type}(a b:PR α):Prop:=a=none\/a=b
theorem Le.refl {α:Type}(a:PR α):Le a a:=.inr rfl
theorem Le.none {α:Type}(b:PR α):Le (none:PR α) b:=.inl rfl
theorem Le.bind {α β:Type}{a a':PR α}{f f':α->St->PR β}(h:Le a a')(hf:∀x s,Le (f x s) (f' x s)):Le (a.bind f) (a'.bind f'):=by
 rcases h with rfl|rfl
 ·exact .inl rfl
 rcases a with _|(e|⟨x,s⟩)
 ·exact .inl rfl
 ·exact .inr rfl
 exact hf x s
theorem Le.ite {α:Type}{c:Bool}{a b a' b':PR α}(h1:Le a a')(h2:Le b b'):Le (if c then a else b) (if c then a' else b'):=by
 cases c
 ·exact h2
 exact h1
theorem Le.some {α:Type}{a b:PR α}{r:Except (Nat×Nat) (α×St)}(h:Le a b)(ha:a=some r):b=some r:=by
 rcases h with h|h
 ·rw[h]at ha;cases ha
 rw[<-h];exact ha
theorem Rr (fin:Nat):∀f n acc s,Le (Qt fin f n acc s) (Qt fin (f+1) n acc s):=by
 intro f
 induction f with
 |zero=>intro n acc s;exact Le.none _
 |succ f ih=>intro n acc s;rw[Qt,Qt];exact Le.ite (Le.bind (Le.refl _) fun m s'=>ih _ _ _) (Le.refl _)
theorem P0 (fin:Nat):∀f acc lens s,Le (entries fin f acc lens s) (entries fin (f+1) acc lens s):=by
 intro f
 induction f with
 |zero=>intro acc lens s;exact Le.none _
 |succ f ih=>intro acc lens s;rw[entries,entries];exact Le.bind (Rr fin f 0 acc s) fun r s=>Le.ite (Le.refl _) (Le.bind (Le.refl _) fun _ _=>ih _ _ _)
theorem Qqn (fin f:Nat)(s:St):Le (Xl fin f s) (Xl fin (f+1) s):=by unfold Xl;exact Le.bind (Le.refl _) fun _ s=>Le.ite (Le.refl _) (Le.bind (P0 _ _ _ _ _) fun _ _=>Le.refl _)
theorem Nr (fin:Nat):∀f acc s,Le (Xj fin f acc s) (Xj fin (f+1) acc s):=by
 intro f
 induction f with
 |zero=>intro acc s;exact Le.none _
 |succ f ih=>intro acc s;rw[Xj,Xj];exact Le.ite (Le.bind (Le.refl _) fun _ _=>ih _ _) (Le.refl _)
theorem Pt (fin:Nat):∀f acc s,Le (Xw fin f acc s) (Xw fin (f+1) acc s):=by
 intro f
 induction f with
 |zero=>intro acc s;exact Le.none _
 |succ f ih=>intro acc s;rw[Xw,Xw];exact Le.bind (Le.refl _) fun n s=>Le.bind (Nr _ _ _ _) fun x s=>Le.ite (Le.refl _) (Le.bind (Le.refl _) fun _ _=>ih _ _)
theorem Co (fin f:Nat)(s:St):Le (Q8 fin f s) (Q8 fin (f+1) s):=by unfold Q8;exact Le.bind (Le.refl _) fun _ s=>Le.ite (Le.refl _) (Pt _ _ _ _)
def oC {α:Type}(g:Nat->PR α):Prop:=∀f,Le (g f) (g (f+1))
def Ev {α:Type}(g:Nat->PR α)(r:Except (Nat×Nat) (α×St)):Prop:=∃f,g f=some r
theorem oC.le {α:Type}{g:Nat->PR α}(h:oC g){f f':Nat}(hf:f<=f'){r:Except (Nat×Nat) (α×St)}(hr:g f=some r):g f'=some r:=by
 induction hf with
 |refl=>exact hr
 |step _ ih=>exact(h _).some ih
theorem Ev.one {α:Type}{g:Nat->PR α}(h:oC g){r r':Except (Nat×Nat) (α×St)}(h1:Ev g r)(h2:Ev g r'):r=r':=by obtain⟨f1,h1⟩:=h1;obtain⟨f2,h2⟩:=h2;have a:=h.le (Nat.le_max_left f1 f2) h1;rw[h.le (Nat.le_max_right f1 f2) h2]at a;exact(aax a).symm
end ae
namespace ae
open ag
def Good {α:Type}(n:Nat):PR α->Prop
 |none=>False
 |some (.error e)=>0<e.2
 |some (.ok (_,s))=>s.ts.length<=n
theorem Good.bind {α β:Type}{x:PR α}{f:α->St->PR β}{n m:Nat}(h:Good n x)(hf:∀a s,s.ts.length<=n->Good m (f a s)):Good m (x.bind f):=by
 rcases x with _|(e|⟨a,s⟩)
 ·exact h
 ·exact h
 exact hf a s h
theorem Good.mono {α:Type}{x:PR α}{n m:Nat}(h:Good n x)(hm:n<=m):Good m x:=by
 rcases x with _|(e|⟨a,s⟩)
 ·exact h
 ·exact h
 exact aan h hm
theorem Good.ite {α:Type}{c:Bool}{a b:PR α}{n:Nat}(h1:c=true->Good n a)(h2:c=false->Good n b):Good n (if c then a else b):=by
 cases c
 ·exact h2 rfl
 exact h1 rfl
theorem W8 {α:Type}(fin n:Nat)(s:St):Good n (dh fin s:PR α):=(by decide:0<14)
theorem Px {α:Type}(c:Nat){e:Nat}(he:0<e)(n:Nat):Good n (fault c e:PR α):=he
theorem Zh {α:Type}(a:α){n:Nat}{s:St}(h:s.ts.length<=n):Good n (ret a s):=h
theorem S8 {s:St}{n:Nat}(h:s.ts.length<=n):s.aW.ts.length<=n-1:=by show s.ts.tail.length<=_;rw[aeI];omega
theorem Qkr {k:Nat}{ts:List Tok}(h:Qm k ts=true):0<ts.length:=by
 cases ts with
 |nil=>cases h
 |cons=>simp
theorem Wc (fin:Nat)(x:Bytes){s:St}{n:Nat}(h:s.ts.length<=n):Good (n-1) (want fin x s):=by unfold want;exact Good.ite (fun _=>Zh _ (S8 h)) (fun _=>W8 _ _ _)
theorem Vs (fin:Nat){s:St}{n:Nat}(h:s.ts.length<=n):Good (n-1) (Qa fin s):=by unfold Qa;exact Good.ite (fun _=>Zh _ (S8 h)) (fun _=>W8 _ _ _)
theorem Eh (fin:Nat):∀f n k acc s,s.ts.length<=n->n+2<=f->Good n (Qt fin f k acc s):=by
 intro f
 induction f with
 |zero=>intro n k acc s h J;omega
 |succ f ih=>
  intro n k acc s h J;rw[Qt];refine Good.ite (fun _=> ?_) (fun _=>Zh _ h)
  have H:(if Qv [45] s.ts then s.aW else s).ts.length<=n:=by
   split
   ·exact aan (S8 h) (Nat.sub_le _ _)
   exact h
  by_cases hn:n=0
  ·subst hn
   have E:(if Qv [45] s.ts then s.aW else s).ts=[]:=aaq (by omega)
   have I:Qa fin (if Qv [45] s.ts then s.aW else s)=dh fin (if Qv [45] s.ts then s.aW else s):=by unfold Qa;rw[E];rfl
   rw[I];exact(by decide:0<14)
  exact(Vs fin H).bind fun m s' E=>(ih (n-1) _ _ _ E (by omega)).mono (by omega)
theorem C9 (fin:Nat):∀f n acc lens s,s.ts.length<=n->n+3<=f->Good n (entries fin f acc lens s):=by
 intro f
 induction f with
 |zero=>intro n acc lens s h I;omega
 |succ f ih=>
  intro n acc lens s h I;rw[entries];refine(Eh fin f n 0 acc s h (by omega)).bind fun r s h=>Good.ite (fun _=>Zh _ (aan (S8 h) (Nat.sub_le _ _))) (fun _=> ?_);by_cases hn:n=0
  ·subst hn
   have E:s.ts=[]:=aaq (by omega)
   have H:want fin [59] s=dh fin s:=by unfold want;rw[E];rfl
   rw[H];exact(by decide:0<14)
  exact(Wc fin _ h).bind fun _ s h=>(ih (n-1) _ _ _ h (by omega)).mono (by omega)
theorem Eb (fin col:Nat){s:St}{n:Nat}(h:s.ts.length<=n):Good n (Jv fin col s):=by unfold Jv;refine(Vs fin h).bind fun _ s h=>(Wc fin _ h).bind fun _ s h=>(Vs fin h).bind fun _ s h=>(Wc fin _ h).bind fun _ s h=> ?_;exact Good.ite (fun _=>Px _ (by decide) _) (fun _=>Zh _ (by omega))
theorem Bq (col:Nat)(a:List (Bool×Nat)×List Nat){s:St}{n:Nat}(h:s.ts.length<=n):Good n (Yc col a s):=by unfold Yc;exact Good.ite (fun _=>Px _ (by decide) _) (fun _=>Good.ite (fun _=>Px _ (by decide) _) (fun _=>Zh _ h))
theorem Vn (fin f:Nat){s:St}{n:Nat}(h:s.ts.length<=n)(hf:n+3<=f):Good (n-1) (Xl fin f s):=by unfold Xl;refine(Wc fin _ h).bind fun _ s h=>Good.ite (fun _=>Eb _ _ h) (fun _=> ?_);exact(C9 fin f _ _ _ _ h (by omega)).bind fun _ _ h=>Bq _ _ h
theorem Bx (fin:Nat):∀f n acc s,s.ts.length<=n->n+1<=f->Good n (Xj fin f acc s):=by
 intro f
 induction f with
 |zero=>intro n acc s h E;omega
 |succ f ih=>intro n acc s h E;rw[Xj];refine Good.ite (fun hk=> ?_) (fun _=>Zh _ h);have:=Qkr hk;exact(Vs fin h).bind fun _ s h=>(ih (n-1) _ _ h (by omega)).mono (by omega)
theorem C8 (fin:Nat):∀f n acc s,s.ts.length<=n->n+2<=f->Good n (Xw fin f acc s):=by
 intro f
 induction f with
 |zero=>intro n acc s h I;omega
 |succ f ih=>
  intro n acc s h I;rw[Xw];refine(Vs fin h).bind fun _ s h=>(Bx fin f (n-1) _ _ h (by omega)).bind fun _ s h=>Good.ite (fun _=>Zh _ (aan (S8 h) (by omega))) (fun _=> ?_);by_cases hn:n-1=0
  ·have E:s.ts=[]:=aaq (by omega)
   have H:want fin [44] s=dh fin s:=by unfold want;rw[E];rfl
   rw[H];exact(by decide:0<14)
  exact(Wc fin _ h).bind fun _ s h=>(ih (n-1-1) _ _ h (by omega)).mono (by omega)
theorem Wj (fin f:Nat){s:St}{n:Nat}(h:s.ts.length<=n)(hf:n+2<=f):Good (n-1) (Q8 fin f s):=by unfold Q8;refine(Wc fin _ h).bind fun _ s h=>Good.ite (fun _=>Zh _ (aan (S8 h) (by omega))) (fun _=> ?_);exact C8 fin f _ _ _ h (by omega)
end ae
namespace ae
open ag
abbrev KT:=Nat×Bytes
def kt (ts:List Tok):List KT:=ts.map fun t=>(t.1,t.2.1)
def Is (ts:List Tok)(l:List KT)(r:List Tok):Prop:=∃a,ts=a++r/\kt a=l
theorem Is.nil {ts r:List Tok}(h:Is ts [] r):ts=r:=by
 obtain⟨a,rfl,h⟩:=h
 cases a with
 |nil=>rfl
 |cons x a=>simp[kt]at h
theorem Is.cons {ts r:List Tok}{x:KT}{l:List KT}(h:Is ts (x::l) r):∃c ts',ts=(x.1,x.2,c)::ts'/\Is ts' l r:=by
 obtain⟨a,rfl,h⟩:=h
 cases a with
 |nil=>simp[kt]at h
 |cons y a=>simp only[kt,abK,List.cons.injEq]at h;refine⟨y.2.2,a++r,?_,a,rfl,h.2⟩;rw[<-h.1];rfl
theorem Is.app {ts r:List Tok}{l1 l2:List KT}(h:Is ts (l1++l2) r):∃m,Is ts l1 m/\Is m l2 r:=by obtain⟨a,rfl,h⟩:=h;unfold kt at h;obtain⟨b,c,rfl,E,H⟩:=List.map_eq_append_iff.1 h;exact⟨c++r,⟨b,by rw[aar],E⟩,c,rfl,H⟩
theorem Is.all (ts:List Tok):Is ts (kt ts) []:=⟨ts,by simp,rfl⟩
theorem Y9 {α β:Type}(a:α)(s:St)(f:α->St->PR β):(ret a s).bind f=f a s:=rfl
theorem Qkh {d:Nat}(h:d<10):aF.Qf (UInt8.ofNat (48+d))=true/\(UInt8.ofNat (48+d)).toNat-48=d:=by
 have e:(UInt8.ofNat (48+d)).toNat=48+d:=by rw[UInt8.toNat_ofNat'];omega
 unfold aF.Qf;rw[e];refine⟨?_,by omega⟩;simp only[aaY,aaV];omega
theorem Zi (n:Nat):∀c∈ar n,aF.Qf c=true:=by
 intro c h;unfold ar at h;split at h
 ·simp only[abu]at h;subst h;rfl
 simp only[adR]at h;obtain⟨d,E,rfl⟩:=h;exact(Qkh (ai.RH _ _ E)).1
theorem Tp (n:Nat):ar n≠[]:=by
 unfold ar;split
 ·simp
 rename_i h;rw[ai.Jc (by omega)];simp
theorem T0 (n:Nat):Xg (ar n)=n:=by
 unfold Xg;rw[List.filter_eq_self.2 (Zi n)];unfold ar;split
 ·rename_i h;subst h;rfl
 have:aO ((ai.dg n).map fun d=>UInt8.ofNat (48+d))=ai.dg n:=by
  unfold aO;rw[aeE]
  conv=>rhs;rw[<-List.map_id (ai.dg n)]
  refine List.map_congr_left fun d hd=> ?_;exact(Qkh (ai.RH _ _ hd)).2
 rw[this,ai.Qby]
abbrev mk (x:UInt8):KT:=(3,[x])
def bC (n:Nat):KT:=(1,ar n)
def dD (x:Bool×Nat):List KT:=(if x.1 then [mk 45] else [])++[bC x.2]
def Z1 (sep:List KT):List (List KT)->List KT
 | []=>[]
 | [a]=>a
 |a::l=>a++sep++Z1 sep l
def uC (m:cn):List KT:=
 if m.at_=[] then [mk 91,bC m.rows,mk 58,bC m.aB,mk 93]
 else mk 91::(Z1 [mk 59] ((Xq m.aB m.rows m.at_).map fun l=>l.flatMap dD)++[mk 93])
def sI (l:List (List Nat)):List KT:=mk 123::(Z1 [mk 44] (l.map fun s=>s.map bC)++[mk 125])
def lR (b:Bool)(t:List KT):List KT:=if b then mk 40::(t++[mk 41]) else t
mutual
def Ex.tk:Ex->List KT
 | .num n=>[bC n]
 | .name x=>[(2,x)]
 | .mat m=>uC m
 | .cpx l=>sI l
 | .neg a=>mk 45::lR (Qy 4 0 a.op) a.tk
 | .turn a=>lR (Qy 5 0 a.op) a.tk++[mk 39]
 | .add a b=>lR (Qy 6 0 a.op) a.tk++mk 43::lR (Qy 6 1 b.op) b.tk
 | .sub a b=>lR (Qy 7 0 a.op) a.tk++mk 45::lR (Qy 7 1 b.op) b.tk
 | .mul a b=>lR (Qy 8 0 a.op) a.tk++mk 42::lR (Qy 8 1 b.op) b.tk
 | .pow a n=>lR (Qy 9 0 a.op) a.tk++[mk 94,bC n]
 | .call x l=>(2,x)::mk 40::(l.tk++[mk 41])
def aV.tk:aV->List KT
 | .nil=>[]
 | .cons a l=>a.tk++l.uH
def aV.uH:aV->List KT
 | .nil=>[]
 | .cons a l=>mk 44::(a.tk++l.uH)
end
def Ln.tk:Ln->List KT
 | .nothing=>[]
 | .lets x e=>(2,lK)::(2,x)::mk 61::e.tk
 | .cmd x l=>(2,x)::l.tk
def Ue (m:cn):Prop:=m.rows<=64/\m.aB<=64/\m.at_.length=m.rows*m.aB/\ ∀x∈m.at_,x.1=true->0<x.2
def Sq (l:List (List Nat)):Prop:=∀s∈l,s≠[]
def Un (x:Bytes):Prop:=∃c,aw 1 (Qx x)=.ok [(2,x,c)]
mutual
def Ex.wf:Ex->Prop
 | .num _=>True
 | .name x=>Un x
 | .mat m=>Ue m
 | .cpx l=>Sq l
 | .neg a=>a.wf| .turn a=>a.wf
 | .add a b=>a.wf/\b.wf| .sub a b=>a.wf/\b.wf| .mul a b=>a.wf/\b.wf
 | .pow a _=>a.wf
 | .call x l=>Un x/\l≠ .nil/\l.wf
def aV.wf:aV->Prop
 | .nil=>True
 | .cons a l=>a.wf/\l.wf
end
def Ln.wf:Ln->Prop
 | .nothing=>True
 | .lets x e=>Un x/\e.wf
 | .cmd x l=>Un x/\x≠lK/\l.wf
theorem Rh (fin:Nat){n o:Nat}{ts r:List Tok}(h:Is ts [bC n] r):Qa fin ⟨ts,o⟩=ret n ⟨r,o⟩:=by obtain⟨c,ts',rfl,E⟩:=h.cons;have e:=Is.nil E;subst e;unfold Qa;rw[if_pos (by rfl)];show ret (Xg (ar n)) _=_;rw[T0];rfl
end ae
namespace ae
open ag
theorem Qjh {ts r:List Tok}{l:List KT}{x:Bytes}(h:Is ts l r)(hl:l≠[])(hm:Qv x ts=true):(3,x)∈l:=by
 cases l with
 |nil=>exact absurd rfl hl
 |cons k l=>obtain⟨c,ts',rfl,h'⟩:=h.cons;obtain⟨a,b⟩:=k;simp only[Qv,aaY,adN]at hm;rw[<-hm.1,<-hm.2];exact aek
theorem Is.tail {ts r:List Tok}{k:KT}{l:List KT}(h:Is ts (k::l) r):Is ts.tail l r:=by obtain⟨c,ts',rfl,h'⟩:=h.cons;exact h'
theorem Qwt {α:Type}(x:Bool×Nat)(l:List (Bool×Nat)):(x::l).flatMap dD=dD x++l.flatMap dD:=rfl
theorem Kf (fin:Nat):∀(l:List (Bool×Nat)) (n:Nat) (acc:List (Bool×Nat)) (ts r:List Tok) (o:Nat),(∀x∈l,x.1=true->0<x.2)->Is ts (l.flatMap dD) r->Qv [45] r=false->Qm 1 r=false->(n=0->l≠[])->Ev (fun f=>Qt fin f n acc ⟨ts,o⟩) (.ok ((n+l.length,acc++l),⟨r,o⟩)):=by
 intro l
 induction l with
 |nil=>
  intro n acc ts r o _ h K O hn;have a1:=Is.nil h;subst a1;refine⟨1,?_⟩;show Qt fin 1 n acc ⟨ts,o⟩=_;rw[Qt]
  have H:(decide (n=0)||Qv [45] ts||Qm 1 ts)=false:=by rw[K,O];have:n≠0:=fun e=>hn e rfl;simp[this]
  simp only[H]
  simp[ret]
 |cons x l ih=>
  intro n acc ts r o hx h K O hn;obtain⟨E,v⟩:=x;rw[Qwt (α:=Unit)]at h;obtain⟨m,Z,hb⟩:=h.app
  have J:∀ts',(decide (n=0)||Qv [45] ts||Qm 1 ts)=true->(if Qv [45] ts then (⟨ts,o⟩:St).aW else ⟨ts,o⟩)=⟨ts',o⟩->Is ts' [bC v] m->(Qv [45] ts && decide (0<v))=E->Ev (fun f=>Qt fin f n acc ⟨ts,o⟩) (.ok ((n+(l.length+1),acc++(E,v)::l),⟨r,o⟩)):=by
   intro ts' c1 c2 c3 c4;have U:=ih (n+1) (acc++[(E,v)]) m r o (fun y hy=>hx y (ad4 _ hy)) hb K O (by omega);obtain⟨f,T⟩:=U;refine⟨f+1,?_⟩;show Qt fin (f+1) n acc ⟨ts,o⟩=_;rw[Qt];simp only[c1,if_true];rw[c2,Rh fin c3,Y9,c4];simp only at T
   have e1:n+1+l.length=n+(l.length+1):=by omega
   have e2:acc++[(E,v)]++l=acc++(E,v)::l:=by simp
   rw[e1,e2]at T;exact T
  cases E with
  |true=>
   obtain⟨c,ts',rfl,H⟩:=Is.cons (x:=mk 45) (l:=[bC v]) Z;have hp:0<v:=hx (true,v) aek rfl;refine J ts' ?_ ?_ H ?_
   ·simp[Qv]
   ·simp[Qv,St.aW]
   simp[Qv,hp]
  |false=>
   have I:Is ts [bC v] m:=Z;obtain⟨c,ts',rfl,H⟩:=I.cons;refine J _ ?_ ?_ I ?_
   ·simp[bC,Qm]
   ·simp[bC,Qv]
   simp[bC,Qv]
theorem Qjk (fin:Nat):∀(rows:List (List (Bool×Nat))) (acc:List (Bool×Nat)) (lens:List Nat) (ts r:List Tok) (o:Nat),rows≠[]->(∀l∈rows,l≠[]/\ ∀x∈l,x.1=true->0<x.2)->Is ts (Z1 [mk 59] (rows.map fun l=>l.flatMap dD)++[mk 93]) r->Ev (fun f=>entries fin f acc lens ⟨ts,o⟩) (.ok ((acc++rows.flatten,lens++rows.map List.length),⟨r,o⟩)):=by
 intro rows
 induction rows with
 |nil=>intro acc lens ts r o h;exact absurd rfl h
 |cons l rows ih=>
  intro acc lens ts r o _ E h;obtain⟨U,Z⟩:=E l aek
  cases rows with
  |nil=>
   have h':Is ts (l.flatMap dD++[mk 93]) r:=h;obtain⟨m,I,J⟩:=h'.app;obtain⟨c,ts',rfl,H⟩:=J.cons;have:=Is.nil H;subst this;obtain⟨f,K⟩:=Kf fin l 0 acc ts _ o Z I (by simp[Qv]) (by simp[Qm]) (fun _=>U);refine⟨f+1,?_⟩;show entries fin (f+1) acc lens ⟨ts,o⟩=_;simp only at K;rw[entries,K]
   simp[PR.bind,Qv,ret,St.aW]
  |cons l2 rows=>
   have h':Is ts (l.flatMap dD++(mk 59::(Z1 [mk 59] ((l2::rows).map fun l=>l.flatMap dD)++[mk 93]))) r:=by
    have e:Z1 [mk 59] ((l::l2::rows).map fun l=>l.flatMap dD)++[mk 93]=l.flatMap dD++(mk 59::(Z1 [mk 59] ((l2::rows).map fun l=>l.flatMap dD)++[mk 93])):=by simp[Z1,aar]
    rw[<-e];exact h
   obtain⟨m,I,J⟩:=h'.app;obtain⟨c,ts',rfl,H⟩:=J.cons;obtain⟨f1,O⟩:=Kf fin l 0 acc ts _ o Z I (by simp[Qv]) (by simp[Qm]) (fun _=>U);obtain⟨f2,T⟩:=ih (acc++l) (lens++[l.length]) ts' r o (by simp) (fun y hy=>E y (ad4 _ hy)) H;refine⟨max f1 f2+1,?_⟩;show entries fin (max f1 f2+1) acc lens ⟨ts,o⟩=_;have s1:oC fun f=>Qt fin f 0 acc ⟨ts,o⟩:=fun f=>Rr _ _ _ _ _;have s2:oC fun f=>entries fin f (acc++l) (lens++[l.length]) ⟨ts',o⟩:=fun f=>P0 _ _ _ _ _;have g1:=s1.le (Nat.le_max_left f1 f2) O;have g2:=s2.le (Nat.le_max_right f1 f2) T;simp only at g1 g2;rw[entries,g1];simp only[PR.bind,abx]
   have e1:Qv [93] ((3,[59],c)::ts')=false:=by simp[Qv]
   have e2:want fin [59] ⟨(3,[59],c)::ts',o⟩=some (.ok ((),⟨ts',o⟩)):=by simp[want,Qv,ret,St.aW]
   simp only[e1,e2,PR.bind];rw[if_neg (by simp),g2];simp[aar]
theorem Jn {α:Type}(aB:Nat):∀(r:Nat) (l:List α),l.length=r*aB->(Xq aB r l).map List.length=List.replicate r aB/\(Xq aB r l).flatten=l:=by
 intro r
 induction r with
 |zero=>intro l h;rw[aeD]at h;exact⟨rfl,(aaq h).symm⟩
 |succ r ih=>
  intro l h;rw[ab5,ad0]at h;obtain⟨E,H⟩:=ih (l.drop aB) (by rw[aag];omega);refine⟨?_,?_⟩
  ·simp only[Xq,abK,List.replicate_succ,E]
   rw[aak,abd (by omega)]
  simp only[Xq,aeR,H,adA]
theorem Uz {α:Type}(aB:Nat):∀(r:Nat) (l:List α),∀y∈Xq aB r l,∀x∈y,x∈l:=by
 intro r
 induction r with
 |zero=>intro l y h;cases h
 |succ r ih=>
  intro l y h x E;simp only[Xq,abY]at h;rcases h with rfl|h
  ·exact adD E
  exact adU (ih _ _ h x E)
theorem Qmp {rows:List (List (Bool×Nat))}:∀k∈Z1 [mk 59] (rows.map fun l=>l.flatMap dD)++[mk 93],k≠mk 58:=by
 have E:∀l:List (Bool×Nat),∀k∈l.flatMap dD,k≠mk 58:=by
  intro l k h;simp only[aeY]at h;obtain⟨x,_,h⟩:=h;unfold dD at h
  split at h<;>simp[bC]at h
  ·rcases h with rfl|rfl<;>simp
  subst h;simp
 have H:∀rows:List (List (Bool×Nat)),∀k∈Z1 [mk 59] (rows.map fun l=>l.flatMap dD),k≠mk 58:=by
  intro rows
  induction rows with
  |nil=>intro k h;cases h
  |cons l rows ih=>
   intro k h
   cases rows with
   |nil=>exact E l k h
   |cons l2 rows=>
    simp only[abK,Z1,aar,abZ,abu]at h;rcases h with h|rfl|h
    ·exact E l k h
    ·simp
    exact ih k h
 intro k h;rw[abZ]at h;rcases h with h|h
 ·exact H rows k h
 simp only[abu]at h;subst h;simp
theorem Qyv (fin:Nat){m:cn}(hm:Ue m){ts r:List Tok}{o:Nat}(h:Is ts (uC m) r):Ev (fun f=>Xl fin f ⟨ts,o⟩) (.ok (m,⟨r,o⟩)):=by
 obtain⟨hr,hc,hl,hx⟩:=hm;unfold uC at h;by_cases h0:m.at_=[]
 ·rw[if_pos h0]at h
  have hz:m.rows*m.aB=0:=by rw[<-hl,h0];rfl
  obtain⟨c1,t1,rfl,k1⟩:=h.cons;obtain⟨c2,t2,rfl,k2⟩:=k1.cons;obtain⟨c3,t3,rfl,k3⟩:=k2.cons;obtain⟨c4,t4,rfl,k4⟩:=k3.cons;obtain⟨c5,t5,rfl,k5⟩:=k4.cons;have:=Is.nil k5;subst this;refine⟨0,?_⟩
  have n1: ¬(64<m.rows):=by omega
  have n2: ¬(64<m.aB):=by omega
  have e:(⟨m.rows,m.aB,List.replicate (m.rows*m.aB) (false,0)⟩:cn)=m:=by
   rw[hz]
   cases m
   simp only at h0;simp[h0]
  simp only[Xl,want,Qv,bC,St.aW,ret,PR.bind,Qm,Jv,Qa,Xx,T0,side,n1,n2,List.tail_cons,aeW,Bool.and_self,if_true,aeb,decide_false,Bool.or_self,ae0];rw[e]
 rw[if_neg h0]at h
 have J:0<m.rows*m.aB:=by rw[<-hl];exact adJ.2 h0
 have ab:0<m.rows:=Nat.pos_of_mul_pos_right J;have aa:0<m.aB:=Nat.pos_of_mul_pos_left J;obtain⟨O,h2⟩:=Jn m.aB m.rows m.at_ hl;obtain⟨c1,t1,rfl,h'⟩:=Is.cons (x:=mk 91) h;clear h;have h:=h';clear h'
 have Z:(Z1 [mk 59] ((Xq m.aB m.rows m.at_).map fun l=>l.flatMap dD)++[mk 93])≠[]:=by simp
 have K:(Qm 1 t1 && Qv [58] t1.tail)=false:=by
  cases I:Qm 1 t1 && Qv [58] t1.tail with
  |false=>rfl
  |true=>
   exfalso;simp only[aaY]at I;generalize hL:(Z1 [mk 59] ((Xq m.aB m.rows m.at_).map fun l=>l.flatMap dD)++[mk 93])=L at h Z
   have a5:∀k∈L,k≠mk 58:=by rw[<-hL];exact Qmp
   cases L with
   |nil=>exact Z rfl
   |cons k L=>
    have ht:=h.tail;by_cases lu:L=[]
    ·subst lu
     have E:mk 93∈[k]:=by rw[<-hL];simp
     simp only[abu]at E;subst E;obtain⟨c,t,rfl,_⟩:=h.cons;simp[Qm]at I
    exact a5 _ (ad4 _ (Qjh ht lu I.2)) rfl
 have T:∀l∈Xq m.aB m.rows m.at_,l≠[]/\ ∀x∈l,x.1=true->0<x.2:=by intro l U;refine⟨fun e=> ?_,fun x H=>hx x (Uz _ _ _ l U x H)⟩;have:l.length∈(Xq m.aB m.rows m.at_).map List.length:=List.mem_map_of_mem U;rw[O,aev]at this;rw[e]at this;simp at this;omega
 have a3:Xq m.aB m.rows m.at_≠[]:=by intro e;rw[e]at O;have:=aa7 List.length O;simp at this;omega
 obtain⟨f,hf⟩:=Qjk fin _ [] [] t1 r o a3 T h;refine⟨f,?_⟩;simp only at hf;show Xl fin f ⟨(3,[91],c1)::t1,o⟩=_;unfold Xl
 have e1:want fin [91] ⟨(3,[91],c1)::t1,o⟩=some (.ok ((),⟨t1,o⟩)):=by simp[want,Qv,ret,St.aW]
 rw[e1];simp only[PR.bind,K,ae0,aeb,hf,adz,O,h2];unfold Yc
 have a2:(List.replicate m.rows m.aB).headD 0=m.aB:=by obtain⟨k,I⟩:∃k,m.rows=k+1:=⟨m.rows-1,by omega⟩;rw[I,List.replicate_succ];rfl
 have a0:(List.replicate m.rows m.aB).any (· !=m.aB)=false:=by rw[List.any_eq_false];intro x H;rw[aev]at H;simp[H.2]
 simp only[a2,a0,ae0,aeb,aa9]
 have n1: ¬(64<m.rows):=by omega
 have n2: ¬(64<m.aB):=by omega
 simp[n1,n2,ret]
theorem F5 (fin:Nat):∀(s acc:List Nat) (ts r:List Tok) (o:Nat),Is ts (s.map bC) r->Qm 1 r=false->Ev (fun f=>Xj fin f acc ⟨ts,o⟩) (.ok (acc++s,⟨r,o⟩)):=by
 intro s
 induction s with
 |nil=>
  intro acc ts r o h E;have:=Is.nil h;subst this;refine⟨1,?_⟩;show Xj fin 1 acc ⟨ts,o⟩=_
  rw[Xj,E];simp[ret]
 |cons n s ih=>
  intro acc ts r o h E;obtain⟨m,H,J⟩:=Is.app (l1:=[bC n]) (l2:=s.map bC) h;obtain⟨f,I⟩:=ih (acc++[n]) m r o J E;refine⟨f+1,?_⟩;show Xj fin (f+1) acc ⟨ts,o⟩=_
  have K:Qm 1 ts=true:=by obtain⟨c,t,rfl,_⟩:=H.cons;rfl
  simp only at I;rw[Xj,K,Rh fin H,Y9,I];simp
theorem Qz2 (fin:Nat):∀(l acc:List (List Nat)) (ts r:List Tok) (o:Nat),l≠[]->Sq l->Is ts (Z1 [mk 44] (l.map fun s=>s.map bC)++[mk 125]) r->Ev (fun f=>Xw fin f acc ⟨ts,o⟩) (.ok (acc++l,⟨r,o⟩)):=by
 intro l
 induction l with
 |nil=>intro acc ts r o h;exact absurd rfl h
 |cons s l ih=>
  intro acc ts r o _ H h;have hs:=H s aek
  obtain⟨n,s,rfl⟩:∃n s',s=n::s':=by cases s with|nil=>exact absurd rfl hs|cons n s=>exact⟨n,s,rfl⟩
  cases l with
  |nil=>
   have h':Is ts ([bC n]++(s.map bC++[mk 125])) r:=h;obtain⟨m1,J,K⟩:=h'.app;obtain⟨m2,E,O⟩:=K.app;obtain⟨c,ts',rfl,I⟩:=O.cons;have:=Is.nil I;subst this;obtain⟨f,T⟩:=F5 fin s [n] m1 _ o E (by simp[Qm]);refine⟨f+1,?_⟩;show Xw fin (f+1) acc ⟨ts,o⟩=_;simp only at T;rw[Xw,Rh fin J,Y9,T]
   simp[PR.bind,Qv,ret,St.aW]
  |cons s2 l=>
   have h':Is ts ([bC n]++(s.map bC++(mk 44::(Z1 [mk 44] ((s2::l).map fun s=>s.map bC)++[mk 125])))) r:=by
    have e:Z1 [mk 44] (((n::s)::s2::l).map fun s=>s.map bC)++[mk 125]=[bC n]++(s.map bC++(mk 44::(Z1 [mk 44] ((s2::l).map fun s=>s.map bC)++[mk 125]))):=by simp[Z1,aar]
    rw[<-e];exact h
   obtain⟨m1,J,K⟩:=h'.app;obtain⟨m2,E,O⟩:=K.app;obtain⟨c,ts',rfl,I⟩:=O.cons;obtain⟨f1,U⟩:=F5 fin s [n] m1 _ o E (by simp[Qm]);obtain⟨f2,Z⟩:=ih (acc++[n::s]) ts' r o (by simp) (fun y hy=>H y (ad4 _ hy)) I;have g1:=oC.le (g:=fun f=>Xj fin f [n] ⟨m1,o⟩) (fun f=>Nr _ _ _ _) (Nat.le_max_left f1 f2) U;have g2:=oC.le (g:=fun f=>Xw fin f (acc++[n::s]) ⟨ts',o⟩) (fun f=>Pt _ _ _ _) (Nat.le_max_right f1 f2) Z;simp only at g1 g2;refine⟨max f1 f2+1,?_⟩;show Xw fin (max f1 f2+1) acc ⟨ts,o⟩=_;rw[Xw,Rh fin J,Y9,g1]
   have e1:Qv [125] ((3,[44],c)::ts')=false:=by simp[Qv]
   have e2:want fin [44] ⟨(3,[44],c)::ts',o⟩=some (.ok ((),⟨ts',o⟩)):=by simp[want,Qv,ret,St.aW]
   have e3:([n]++s)=n::s:=rfl;simp only[PR.bind,e1,e2,e3,ae0,aeb,g2];simp[aar]
theorem Qze (fin:Nat){l:List (List Nat)}(aZ:Sq l){ts r:List Tok}{o:Nat}(h:Is ts (sI l) r):Ev (fun f=>Q8 fin f ⟨ts,o⟩) (.ok (l,⟨r,o⟩)):=by
 unfold sI at h;obtain⟨c1,t1,rfl,h'⟩:=Is.cons (x:=mk 123) h;clear h;have h:=h';clear h'
 have e1:want fin [123] ⟨(3,[123],c1)::t1,o⟩=some (.ok ((),⟨t1,o⟩)):=by simp[want,Qv,ret,St.aW]
 cases l with
 |nil=>
  obtain⟨c2,t2,rfl,h'⟩:=Is.cons (x:=mk 125) (l:=[]) h;have:=Is.nil h';subst this;refine⟨0,?_⟩;show Q8 fin 0 ⟨(3,[123],c1)::(3,[125],c2)::t2,o⟩=_;unfold Q8;rw[e1]
  simp[PR.bind,Qv,ret,St.aW]
 |cons s l=>
  obtain⟨f,E⟩:=Qz2 fin (s::l) [] t1 r o (by simp) aZ h;refine⟨f,?_⟩;show Q8 fin f ⟨(3,[123],c1)::t1,o⟩=_;unfold Q8;simp only at E;rw[e1];have J:=aZ s aek
  have I:Qv [125] t1=false:=by
   cases s with
   |nil=>exact absurd rfl J
   |cons n s=>
    have:∃L,Z1 [mk 44] (((n::s)::l).map fun s=>s.map bC)++[mk 125]=bC n::L:=by
     cases l with
     |nil=>exact⟨_,rfl⟩
     |cons s2 l=>exact⟨_,rfl⟩
    obtain⟨L,H⟩:=this;rw[H]at h;obtain⟨c,t,rfl,_⟩:=h.cons;simp[Qv,bC]
  simp only[PR.bind,I,ae0,aeb,E];simp
end ae
namespace ae
open ag
def nm (x:UInt8)(r:List Tok):Prop:=Qv [x] r=false
structure S2 (r:List Tok):Prop where
 a:nm 40 r
 b:nm 39 r
 c:nm 94 r
structure S3 (r:List Tok):Prop where
 s2:S2 r
 d:nm 42 r
structure S4 (r:List Tok):Prop where
 s3:S3 r
 e:nm 43 r
 f:nm 45 r
end ae
namespace ae
open ag
theorem Q7 {α β:Type}{x:PR α}{f:α->St->PR β}{r:β×St}(h:x.bind f=some (.ok r)):∃a s,x=some (.ok (a,s))/\f a s=some (.ok r):=by
 rcases x with- |(e|⟨a,s⟩)
 ·cases h
 ·cases h
 exact⟨a,s,rfl,h⟩
def Eo (x:Bool×Nat):Prop:=x.1=true->0<x.2
theorem P4 (fin:Nat):∀(f n:Nat) (acc:List (Bool×Nat)) (s:St) (r:(Nat×List (Bool×Nat))×St),Qt fin f n acc s=some (.ok r)-> ∃l,r.1.2=acc++l/\r.1.1=n+l.length/\(∀x∈l,Eo x)
 |0,_,_,_,_,h=>by cases h
 |f+1,n,acc,s,r,h=>by
  unfold Qt at h;split at h
  ·obtain⟨m,s',h1,h2⟩:=Q7 h
   obtain⟨l,a1,a2,a3⟩:=P4 fin f _ _ _ _ h2;refine⟨(Qv [45] s.ts && decide (0<m),m)::l,by rw[a1,aar];rfl,by rw[a2,aaf];omega,fun x E=> ?_⟩;rcases abY.1 E with rfl|E
   ·intro H;simp at H;exact H.2
   exact a3 x E
  unfold ret at h
  cases h
  exact⟨[],by simp,by simp,fun x E=>by cases E⟩
theorem Um (fin:Nat):∀(f:Nat) (acc:List (Bool×Nat)) (lens:List Nat) (s:St) (r:(List (Bool×Nat)×List Nat)×St),entries fin f acc lens s=some (.ok r)->acc.length=lens.sum->(∀x∈acc,Eo x)->r.1.1.length=r.1.2.sum/\(∀x∈r.1.1,Eo x)/\0<r.1.2.length
 |0,_,_,_,_,h=>by cases h
 |f+1,acc,lens,s,r,h=>by
  intro hs ho;unfold entries at h;obtain⟨q,s1,h1,h2⟩:=Q7 h;obtain⟨l,a1,a2,a3⟩:=P4 fin f _ _ _ _ h1;simp only at a1 a2
  have H:q.2.length=(lens++[q.1]).sum:=by rw[a1,a2,aac,List.sum_append,hs];simp
  have E:∀x∈q.2,Eo x:=by
   intro x I;rw[a1]at I;rcases abZ.1 I with h|h
   ·exact ho x h
   exact a3 x h
  split at h2
  ·unfold ret at h2
   cases h2
   exact⟨H,E,by simp⟩
  obtain⟨u,s2,K,J⟩:=Q7 h2;exact Um fin f _ _ _ _ J H E
theorem Qx6:∀(l:List Nat) (k:Nat),(∀x∈l,x=k)->l.sum=l.length*k
 | [],_,_=>by simp
 |a::l,k,h=>by rw[adY,aaf,Qx6 l k (fun x hx=>h x (ad4 _ hx)),h a (by simp),aeF];omega
theorem Rp {fin f:Nat}{s:St}{r:cn×St}(h:Xl fin f s=some (.ok r)):Ue r.1:=by
 unfold Xl at h;obtain⟨u,s1,Z,J⟩:=Q7 h;split at J
 ·unfold Jv at J
  obtain⟨a,s2,-,T⟩:=Q7 J;obtain⟨-,s3,-,E⟩:=Q7 T;obtain⟨c,s4,-,U⟩:=Q7 E;obtain⟨-,s5,-,K⟩:=Q7 U;split at K
  ·cases K
  rename_i H;unfold ret at K
  cases K
  have O:∀n,¬64<side n->n<=64:=by
   intro n H;unfold side at H
   split at H<;>omega
  simp at H;refine⟨O a (by omega),O c (by omega),by simp,fun x hx=> ?_⟩;have:=List.eq_of_mem_replicate hx;subst this;intro h;cases h
 obtain⟨q,s2,T,E⟩:=Q7 J;obtain⟨e1,e2,e3⟩:=Um fin f _ _ _ _ T rfl (fun x hx=>by cases hx);unfold Yc at E;split at E
 ·cases E
 rename_i I;split at E
 ·cases E
 rename_i H;unfold ret at E
 cases E
 simp at H I
 refine⟨H.1,by show q.2.headD 0<=64;have:=H.2;cases O:q.2<;>simp[O]at this ⊢ <;>exact this,?_,e2⟩
 show q.1.length=q.2.length*q.2.headD 0;rw[e1];refine Qx6 _ _ (fun x hx=> ?_);have:=I x hx
 simpa using this
end ae
namespace Go.Proofs.YtgfmiladfeoldaaGreatDoor
open Go.RowKit ai ag
theorem Qg5 (a b:Value)(n j:Nat)(hj:j<n):(madeCells #[a,b] (n*2))[j*2]?=some a/\(madeCells #[a,b] (n*2))[j*2+1]?=some b:=by
 unfold madeCells;constructor
 ·rw[Array.getElem?_map,Array.getElem?_range,if_pos (by omega)]
  show some (#[a,b][(j*2) % 2]!)=_;rw[show (j*2) % 2=0 from by omega];rfl
 rw[Array.getElem?_map,Array.getElem?_range,if_pos (by omega)];show some (#[a,b][(j*2+1) % 2]!)=_;rw[show (j*2+1) % 2=1 from by omega];rfl
theorem Qw9 (n:Nat)(hn:n<=4096):∀w:World,(Instr.makeSlice 45 (.int .i64 (n:Int)) (.int .i64 (n:Int))).run Tryz.prog w=.ok (.slice (some ⟨w.heap.size,0,none⟩) n n) (w.alloc (.cells (madeCells #[.bool false,.slice none 0 0] (n*2)) 62)):=by
 obtain⟨i0,K,E,H,I⟩:=abO Tryz.ux;intro w
 have J:(i0.bytes:Int)*(n:Int)<=281474976710656:=by rw[I];omega
 have h:=run_make (P:=Tryz.prog) w 45 62 i0 (.agg #[.bool false,.slice none 0 0]) Tryz.underlying45 K E .i64 .i64 n n (by omega) (Int.le_refl _) J (by omega);simp only[ae2]at h;rw[h,H];rfl
theorem iY.zeros (w:World)(n:Nat)(hn:n<=4096):iY (w.alloc (.cells (madeCells #[.bool false,.slice none 0 0] (n*2)) 62)) (.slice (some ⟨w.heap.size,0,none⟩) n n) (List.replicate n (false,0)):=by
 have E:=aaz w (.cells (madeCells #[.bool false,.slice none 0 0] (n*2)) 62);refine⟨_,n,by rw[aa9],by rw[aa9];omega,by unfold maxLen;omega,fun _=>⟨w.heap.size,0,rfl,by simp,fun j p hj=> ?_⟩⟩
 have h:j<n:=by have:=(aae.1 hj).1;rwa [aa9]at this
 have H:p=(false,0):=by rw[List.getElem?_replicate,if_pos h]at hj;simpa using hj.symm
 subst H;obtain⟨m1,m2⟩:=Qg5 (.bool false) (.slice none 0 0) n j h;refine⟨.slice none 0 0,[],?_,?_,Rd.nil _,rfl,by simp⟩
 ·rw[abx];exact(aam _ _ _ _ _ _ E).trans m1
 rw[abx];exact(aam _ _ _ _ _ _ E).trans m2
theorem En.zj {w:World}{B:Nat}{av lv:Value}{cs:List (Bool×Value)}{acc:List (Bool×Nat)}{lens:List Nat}(h:En w B av lv cs acc lens):iY w av acc:=by
 obtain⟨ao,H,e,I,J,K⟩:=Qj h.bV;refine⟨ao,H,by rw[<-h.len];exact e,by rw[<-h.len];exact I,J,fun h0=> ?_⟩;obtain⟨g,rfl,a1,a2,a3⟩:=K (by rw[h.len];exact h0);refine⟨g,0,rfl,a2,fun j p hj=> ?_⟩
 have E:j<cs.length:=by rw[h.len];exact(aae.1 hj).1
 obtain⟨q1,⟨⟨xs,x1,x2,x3⟩,-⟩,-⟩:=h.el j cs[j] p (aad E) hj;obtain⟨i1,i2⟩:=Mb cs j cs[j] (aad E);refine⟨_,xs,?_,?_,x1,x2,x3⟩
 ·rw[abx,a3 _ (by omega),i1,q1]
 rw[abx,a3 _ (by omega),i2]
theorem Bm {w w':World}{g:Nat}{x y z u v t:Value}(h:w.heap[g]?=some (.cells #[u,v,t] 47 (0,0)))(hw:w'=((w.setCell ⟨g,0,none⟩ x).setCell ⟨g,1,none⟩ y).setCell ⟨g,2,none⟩ z):w'.heap[g]?=some (.cells #[x,y,z] 47 (0,0))/\w.grownBy w' (some g)/\w'.heap.size=w.heap.size/\Wr g none w w':=by
 have s1:=aas w g 0 #[u,v,t] 47 x h;have s2:=aas (w.setCell ⟨g,0,none⟩ x) g 1 _ 47 y s1;have s3:=aas ((w.setCell ⟨g,0,none⟩ x).setCell ⟨g,1,none⟩ y) g 2 _ 47 z s2
 have r1:Wr g none w w':=by rw[hw];exact RS.step (RS.step (Wr.aI w 0 x) (Wr.aI _ 1 y)) (Wr.aI _ 2 z)
 refine⟨by rw[hw];exact s3.trans (by simp),⟨r1.os,r1.tape,r1.output,r1.size,fun k hk hne=>r1.block k hk (fun e=>hne (by rw[e])) (by simp)⟩,by rw[hw];simp[World.setCell],r1⟩
def YG (m:ae.cn)(v:Value)(w':World):Prop:=∃av,v=.agg #[.int .i64 (m.rows:Nat),.int .i64 (m.aB:Nat),av]/\iY w' av m.at_
theorem Qyi (R:Nat)(tv:Value)(L:List Tok)(fin a:Nat)(s:ae.St)(nv:Value)(ns:List Nv)(w:World)(h:RS w R tv L fin a s nv ns)(f:Nat)(hf:ae.Xl fin f s≠none):Calls Tryz.prog 54 #[.pointer (some ⟨R,0,none⟩)] w (RB (ae.Xl fin f s) R tv L fin s nv ns YG w):=by
 have H:=zq h;have aT:=h.lt;obtain⟨r,hr⟩:=xq (ae.Xl fin f s);rw[<-hr]at hf ⊢;obtain⟨col,CB⟩:=xq (ae.X5 fin s.ts)
 have nM:Hid (r=(ae.want fin [91] s).bind fun _ s=>if ae.Qm 1 s.ts && ae.Qv [58] s.ts.tail then ae.Jv fin col s else (ae.entries fin f [] [] s).bind (ae.Yc col)):=by show _=_;rw[hr,CB];rfl
 have bR:=zq hf;have rI:=zq CB;have HA:=zq (Qq w (.cells #[.int .i64 0,.int .i64 0,.slice none 0 0] 47));have fW:=zq (h.below HA.o);have hblk:=aaz w (.cells #[.int .i64 0,.int .i64 0,.slice none 0 0] 47);obtain⟨wA,Ib⟩:=xq (w.alloc (.cells #[.int .i64 0,.int .i64 0,.slice none 0 0] 47))
 have yT:w.heap.size<wA.heap.size:=by rw[Ib];simp
 rw[<-Ib]at hblk;have rD:=zq hblk
 have gT:Hid (Wr R none w wA):=by show Wr _ _ _ _;rw[Ib];exact Wr.af HA.o
 have aco:Hid (Wr R none wA wA):=Wr.refl _ _ _;rw[<-Ib]at fW HA;have TY:=zq Ib;clear h hr hf CB hblk Ib;go_enter Tryz.func54,Tryz.ntmps54;go_wp2_with fail;rw[<-TY.o];refine(Qm4 R tv L fin a s nv ns _ fW.o).mono ?_;rintro e w1 ⟨rfl,b1⟩;rw[<-rI.o];have cL:=zq (fW.o.below b1);have iX:Hid (Wr R none wA w1):=Wr.af b1;clear b1;go_wp2_with fail;refine(Rb R tv L fin a s nv ns _ cL.o [91]).mono ?_;rintro e w2 hn;rcases hN:ae.want fin [91] s with- |(⟨fc,fk⟩|⟨u2',s2⟩)
 ·rw[hN]at hn;exact hn.elim
 ·rw[hN]at hn
  obtain⟨rfl,n1⟩:=hn;refine⟨rfl,?_⟩
  have bu:r=some (.error (fc,fk)):=by rw[nM.o,hN];rfl
  rw[bu];exact⟨rfl,RS.step gT.o (RS.step iX.o n1)⟩
 rw[hN]at hn;obtain⟨v2,a2,rfl,n1,n2,n3,rfl⟩:=hn;have hl2:=Tv hN;have cr:=zq n1;have dz:=zq (RS.step iX.o n2);have jl:=zq hN;clear n1 n2 n3 hN
 have cZ:Hid (r=if ae.Qm 1 s2.ts && ae.Qv [58] s2.ts.tail then ae.Jv fin col s2 else (ae.entries fin f [] [] s2).bind (ae.Yc col)):=by show _=_;rw[nM.o,jl.o];rfl
 have fM:=Zj 1 [] s2.ts (by decide);have hcm:=Ky [58] s2.ts;by_cases aU:(ae.Qm 1 s2.ts && ae.Qv [58] s2.ts.tail)=true
 ·rw[if_pos aU]at cZ
  rw[aaY]at aU;rw[aU.1]at fM;rw[aU.2]at hcm;have qQ:=zq fM;have UL:=zq hcm;have o9:Hid (r=(ae.Qa fin s2).bind fun r s=>(ae.want fin [58] s).bind fun _ s=>(ae.Qa fin s).bind fun c s=>(ae.want fin [93] s).bind fun _ s=>if 64<ae.side r||64<ae.side c then ae.fault col 5 else ae.ret ⟨r,c,List.replicate (r*c) (false,0)⟩ s):=cZ.o;clear aU fM hcm cZ;go_wp2_with fail;refine(X4 R tv L fin a2 s2 nv ns _ cr.o 0 1 [] (by omega) (by omega)).mono ?_;rintro e w3 ⟨rfl,b1⟩;rw[qQ.o];have gR:=zq (cr.o.below b1);have pc:=zq (RS.step dz.o (Wr.af b1));clear b1;go_wp2_with fail;refine(X4 R tv L fin a2 s2 nv ns _ gR.o 1 3 [58] (by omega) (by omega)).mono ?_;rintro e w4 ⟨rfl,b1⟩;rw[UL.o];have lW:=zq (gR.o.below b1);have cJ:=zq (RS.step pc.o (Wr.af b1));clear b1;go_wp2_with fail;refine(Ja R tv L fin a2 s2 nv ns _ lW.o).mono ?_;rintro e w5 hn;rcases hN:ae.Qa fin s2 with- |(⟨fc,fk⟩|⟨m5,s5⟩)
  ·rw[hN]at hn;exact hn.elim
  ·rw[hN]at hn
   obtain⟨rfl,n1⟩:=hn;refine⟨rfl,?_⟩
   have bu:r=some (.error (fc,fk)):=by rw[o9.o,hN];rfl
   rw[bu];exact⟨rfl,RS.step gT.o (RS.step cJ.o n1)⟩
  rw[hN]at hn;obtain⟨v5,a5,rfl,n1,n2,n3,n4⟩:=hn;have NF:=Y3 hN;have FI:=zq n1;have nN:=zq (RS.step cJ.o n2);have eI:=zq hN;have UZ:=zq n4;clear n1 n2 n3 n4 hN
  have uP:Hid (r=(ae.want fin [58] s5).bind fun _ s=>(ae.Qa fin s).bind fun c s=>(ae.want fin [93] s).bind fun _ s=>if 64<ae.side m5||64<ae.side c then ae.fault col 5 else ae.ret ⟨m5,c,List.replicate (m5*c) (false,0)⟩ s):=by show _=_;rw[o9.o,eI.o];rfl
  go_wp2_with fail;refine(Qx1 _ m5 _ UZ.o.1).mono ?_;rintro e w6 ⟨rfl,b1⟩;have yr:=zq (FI.o.below b1);have yu:=zq (RS.step nN.o (Wr.af b1));obtain⟨d6,SK⟩:=xq (ae.side m5);rw[<-SK];have HD6:=zq SK
  have acA:d6<=65:=by rw[SK];unfold ae.side;split<;>omega
  clear b1 SK;go_wp2_with fail;refine(Rb R tv L fin a5 s5 nv ns _ yr.o [58]).mono ?_;rintro e w7 hn;rcases hN:ae.want fin [58] s5 with- |(⟨fc,fk⟩|⟨u7',s7⟩)
  ·rw[hN]at hn;exact hn.elim
  ·rw[hN]at hn
   obtain⟨rfl,n1⟩:=hn;refine⟨rfl,?_⟩
   have bu:r=some (.error (fc,fk)):=by rw[uP.o,hN];rfl
   rw[bu];exact⟨rfl,RS.step gT.o (RS.step yu.o n1)⟩
  rw[hN]at hn;obtain⟨v7,a7,rfl,n1,n2,n3,rfl⟩:=hn;have GM:=Tv hN;have JH:=zq n1;have qf:=zq (RS.step yu.o n2);have kX:=zq hN;clear n1 n2 n3 hN
  have HR7:Hid (r=(ae.Qa fin s7).bind fun c s=>(ae.want fin [93] s).bind fun _ s=>if 64<ae.side m5||64<ae.side c then ae.fault col 5 else ae.ret ⟨m5,c,List.replicate (m5*c) (false,0)⟩ s):=by show _=_;rw[uP.o,kX.o];rfl
  go_wp2_with fail;refine(Ja R tv L fin a7 s7 nv ns _ JH.o).mono ?_;rintro e w8 hn;rcases hN:ae.Qa fin s7 with- |(⟨fc,fk⟩|⟨m8,s8⟩)
  ·rw[hN]at hn;exact hn.elim
  ·rw[hN]at hn
   obtain⟨rfl,n1⟩:=hn;refine⟨rfl,?_⟩
   have bu:r=some (.error (fc,fk)):=by rw[HR7.o,hN];rfl
   rw[bu];exact⟨rfl,RS.step gT.o (RS.step qf.o n1)⟩
  rw[hN]at hn;obtain⟨v8,a8,rfl,n1,n2,n3,n4⟩:=hn;have hl8:=Y3 hN;have JI:=zq n1;have JV:=zq (RS.step qf.o n2);have uN:=zq hN;have HF8:=zq n4;clear n1 n2 n3 n4 hN
  have HR8:Hid (r=(ae.want fin [93] s8).bind fun _ s=>if 64<ae.side m5||64<ae.side m8 then ae.fault col 5 else ae.ret ⟨m5,m8,List.replicate (m5*m8) (false,0)⟩ s):=by show _=_;rw[HR7.o,uN.o];rfl
  go_wp2_with fail;refine(Qx1 _ m8 _ HF8.o.1).mono ?_;rintro e w9 ⟨rfl,b1⟩;have HS9:=zq (JI.o.below b1);have QS:=zq (RS.step JV.o (Wr.af b1));obtain⟨d9,SL⟩:=xq (ae.side m8);rw[<-SL];have HD9:=zq SL
  have acB:d9<=65:=by rw[SL];unfold ae.side;split<;>omega
  clear b1 SL;go_wp2_with fail;refine(Rb R tv L fin a8 s8 nv ns _ HS9.o [93]).mono ?_;rintro e eH hn;rcases hN:ae.want fin [93] s8 with- |(⟨fc,fk⟩|⟨adl,s10⟩)
  ·rw[hN]at hn;exact hn.elim
  ·rw[hN]at hn
   obtain⟨rfl,n1⟩:=hn;refine⟨rfl,?_⟩
   have bu:r=some (.error (fc,fk)):=by rw[HR8.o,hN];rfl
   rw[bu];exact⟨rfl,RS.step gT.o (RS.step QS.o n1)⟩
  rw[hN]at hn;obtain⟨v10,RY,rfl,n1,n2,n3,rfl⟩:=hn;have acL:=Tv hN;have WT:=zq n1;have sr:=zq (RS.step QS.o n2);have VX:=zq hN;clear n1 n2 n3 hN
  have zU:Hid (r=if 64<d6||64<d9 then ae.fault col 5 else ae.ret ⟨m5,m8,List.replicate (m5*m8) (false,0)⟩ s10):=by show _=_;rw[HR8.o,VX.o,HD6.o,HD9.o];rfl
  have bP:=(sr.o.block w.heap.size yT (by omega) (by simp)).trans rD.o;have e0:eH.cell? ⟨w.heap.size,0,none⟩=some (.int .i64 0):=(aam eH _ _ _ _ _ bP).trans rfl;have e1:eH.cell? ⟨w.heap.size,1,none⟩=some (.int .i64 0):=(aam eH _ _ _ _ _ bP).trans rfl;have e2:eH.cell? ⟨w.heap.size,2,none⟩=some (.slice none 0 0):=(aam eH _ _ _ _ _ bP).trans rfl;have f0:eH.frozen? ⟨w.heap.size,0,none⟩=false:=aaH eH _ 0 _ _ bP;have f1:eH.frozen? ⟨w.heap.size,1,none⟩=false:=aaH eH _ 1 _ _ bP;have f2:eH.frozen? ⟨w.heap.size,2,none⟩=false:=aaH eH _ 2 _ _ bP;have kW:=zq bP;clear bP;by_cases h6:64<d6
  ·have fT:(64:Int)<(d6:Int):=by omega
   have bu:r=some (.error (col,5)):=by rw[zU.o,if_pos (by simp[h6])];rfl
   have fB:=zq bu;clear h6 bu;go_wp2_with fail;refine⟨rfl,?_⟩;rw[fB.o];exact⟨rfl,RS.step gT.o sr.o⟩
  by_cases h9:64<d9
  ·have fT: ¬(64:Int)<(d6:Int):=by omega
   have wV:(64:Int)<(d9:Int):=by omega
   have bu:r=some (.error (col,5)):=by rw[zU.o,if_pos (by simp[h9])];rfl
   have fB:=zq bu;clear h6 h9 bu;go_wp2_with fail;refine⟨rfl,?_⟩;rw[fB.o];exact⟨rfl,RS.step gT.o sr.o⟩
  have fT: ¬(64:Int)<(d6:Int):=by omega
  have wV: ¬(64:Int)<(d9:Int):=by omega
  have pE:m5=d6:=by have:=HD6.o;unfold ae.side at this;split at this<;>omega
  have NN:m8=d9:=by have:=HD9.o;unfold ae.side at this;split at this<;>omega
  have bu:r=some (.ok (⟨d6,d9,List.replicate (d6*d9) (false,0)⟩,s10)):=by rw[zU.o,if_neg (by simp;omega),pE,NN];rfl
  obtain⟨d,hd⟩:=xq (d6*d9);rw[<-hd]at bu
  have cD:d<=4096:=by rw[hd];exact ab7 (show d6<=64 by omega) (show d9<=64 by omega)
  have yO:(d6:Int)*(d9:Int)=(d:Int):=by rw[hd];exact(ad1 d6 d9).symm
  have fB:=zq bu;have vd:=Qw9 d cD;have Ot:w.heap.size<eH.heap.size:=aaj yT sr.o.size;clear h6 h9 bu pE NN hd;go_wp2_with fail;obtain⟨wS,zb⟩:∃wS,wS=((eH.setCell ⟨w.heap.size,0,none⟩ (.int .i64 (d6:Int))).setCell ⟨w.heap.size,1,none⟩ (.int .i64 (d9:Int))).setCell ⟨w.heap.size,2,none⟩ (.slice (some ⟨eH.heap.size,0,none⟩) d d):=⟨_,rfl⟩;rw[<-zb];obtain⟨p1,p2,p3,-⟩:=Bm kW.o zb;have hsz:wS.heap.size=eH.heap.size:=p3;obtain⟨q2,q3⟩:=H.o.loc WT.o (RS.step gT.o sr.o) p2 (fun q hq=>by cases hq;exact aaa _);have hz:=iY.zeros wS d cD;rw[hsz]at hz;have hbF:=((Qq wS (.cells (madeCells #[.bool false,.slice none 0 0] (d*2)) 62)).block w.heap.size (by rw[hsz];exact Ot)).trans p1;refine aaI (adM rfl _ _ w.heap.size 47 _ _ _ rfl hbF Tryz.underlying47 rfl (by kernel_rfl)) rfl ?_;rw[fB.o];have hbl:=Qq wS (.cells (madeCells #[.bool false,.slice none 0 0] (d*2)) 62);exact⟨_,_,rfl,q2.below hbl,RS.step q3 (Wr.af hbl),by omega,_,rfl,hz⟩
 rw[if_neg aU]at cZ
 cases hk:ae.Qm 1 s2.ts with
 |true=>
  rw[hk]at fM
  have pD:ae.Qv [58] s2.ts.tail=false:=by rw[hk]at aU;simpa using aU
  rw[pD]at hcm;have qQ:=zq fM;have UL:=zq hcm;clear aU fM hcm hk pD;go_wp2_with fail;refine(X4 R tv L fin a2 s2 nv ns _ cr.o 0 1 [] (by omega) (by omega)).mono ?_;rintro e w3 ⟨rfl,b1⟩;rw[qQ.o];have gR:=zq (cr.o.below b1);have pc:=zq (RS.step dz.o (Wr.af b1));clear b1;go_wp2_with fail;refine(X4 R tv L fin a2 s2 nv ns _ gR.o 1 3 [58] (by omega) (by omega)).mono ?_;rintro e w4 ⟨rfl,b1⟩;rw[UL.o];have lW:=zq (gR.o.below b1);have cJ:=zq (RS.step pc.o (Wr.af b1));clear b1;go_wp2_with fail;refine(Fg R tv L fin a2 s2 nv ns _ lW.o f (fun e=>bR.o (by rw[cZ.o,e];rfl))).mono ?_;rintro e fR hn;rcases hN:ae.entries fin f [] [] s2 with- |(⟨fc,fk⟩|⟨⟨acc,lens⟩,EH⟩)
  ·rw[hN]at hn;exact hn.elim
  ·rw[hN]at hn
   obtain⟨rfl,n1⟩:=hn;refine⟨rfl,?_⟩
   have bu:r=some (.error (fc,fk)):=by rw[cZ.o,hN];rfl
   rw[bu];exact⟨rfl,RS.step gT.o (RS.step cJ.o n1)⟩
  rw[hN]at hn;obtain⟨v20,a20,rfl,n1,n2,n3,av,lv,cs,rfl,mD⟩:=hn;obtain⟨Lq,-,sL⟩:=ae.Um fin f _ _ _ _ hN rfl (fun x hx=>by cases hx);simp only at Lq sL mD
  have r7:Hid (r=ae.Yc col (acc,lens) EH):=by show _=_;rw[cZ.o,hN];rfl
  have z6:=zq n1;have gS:=zq (RS.step cJ.o n2);obtain⟨ao,BC,rfl,-,-,-⟩:=Qj mD.bV;obtain⟨lo,bE,rfl,l1,l2,l3⟩:=Qj mD.eW;obtain⟨g,rfl,l4,l5,l6⟩:=l3 sL
  have pT:Hid (∀(j x:Nat),lens[j]?=some x->fR.cell? ⟨g,j,none⟩=some (.int .i64 (x:Nat))):=by intro j x hj;have jA:=(aae.1 hj).1;rw[l6 j (by omega)];simp[ints,hj]
  obtain⟨k0,bF⟩:∃k0,lens[0]?=some k0:=⟨_,aad sL⟩
  have tE:lens.headD 0=k0:=by
   cases lens with
   |nil=>simp at sL
   |cons x l=>simpa using bF
  have c0:=pT.o 0 k0 bF;obtain⟨nl,eK⟩:=xq lens.length;obtain⟨nc,bq⟩:=xq cs.length;rw[<-eK]at sL l1 ⊢;rw[<-bq];have fV:=zq bq
  have abk:nl<=9223372036854775807:=by unfold maxLen at l2;omega
  have UX:=zq mD;have hsB:w.heap.size<w4.heap.size:=aaj yT cJ.o.size;have dH:=zq eK;have zI:=zq bF;have zD:=zq tE;have bP:=(gS.o.block w.heap.size yT (by omega) (by simp)).trans rD.o;have e0:fR.cell? ⟨w.heap.size,0,none⟩=some (.int .i64 0):=(aam fR _ _ _ _ _ bP).trans rfl;have e1:fR.cell? ⟨w.heap.size,1,none⟩=some (.int .i64 0):=(aam fR _ _ _ _ _ bP).trans rfl;have e2:fR.cell? ⟨w.heap.size,2,none⟩=some (.slice none 0 0):=(aam fR _ _ _ _ _ bP).trans rfl;have f0:fR.frozen? ⟨w.heap.size,0,none⟩=false:=aaH fR _ 0 _ _ bP;have f1:fR.frozen? ⟨w.heap.size,1,none⟩=false:=aaH fR _ 1 _ _ bP;have f2:fR.frozen? ⟨w.heap.size,2,none⟩=false:=aaH fR _ 2 _ _ bP;have kW:=zq bP;have Ou:w.heap.size<fR.heap.size:=aaj yT gS.o.size;have aa1:=n3;clear n1 n2 n3 mD Lq l2 l3 l6 bF tE eK bq bP hN cZ;go_wp2_with fail;go_loopw [9,53] (fun _ iv wr=> ∃j:Nat,iv=.int .i64 (j:Nat)/\j<=nl/\(∀i x,i<j->lens[i]?=some x->x=k0)/\wr=fR) (fun _ iv _=>(nl-intOf iv).toNat)
  case atStart=>exact⟨0,rfl,aao _,fun i x h=>absurd h (aeP i),rfl⟩
  case round=>
   obtain⟨j,rfl,jA,hall,hwe⟩:=hrel;subst hwe;have bw:=zq hall;clear hall;by_cases hj:j<nl
   ·obtain⟨x,hx⟩:∃x,lens[j]?=some x:=⟨_,aad (by rw[<-dH.o];exact hj)⟩
    have cj:=pT.o j x hx;have HX:=zq hx;clear hx;by_cases uv:x=k0
    ·have gO:((x:Int)==(k0:Int))=true:=by simp[uv]
     have XR:=zq uv;clear uv;go_wp2_with fail
     have ah:∀i y,i<j+1->lens[i]?=some y->y=k0:=by
      intro i y hi hy;by_cases MV:i<j
      ·exact bw.o i y MV hy
      have:i=j:=by omega
      subst this;rw[HX.o]at hy
      cases hy
      exact XR.o
     first|exact⟨⟨j+1,rfl,by omega,ah,rfl⟩,by simp[intOf]<;>omega⟩|exact⟨by (repeat apply Exists.intro);exact⟨⟨j+1,rfl,by omega,ah,trivial⟩,rfl⟩,by simp[intOf]<;>omega⟩|exact⟨⟨j+1,rfl,by omega,ah,trivial⟩,by simp[intOf]<;>omega⟩
    have gO:((x:Int)==(k0:Int))=false:=by simp;omega
    have bu:r=some (.error (col,2)):=by
     rw[r7.o];unfold ae.Yc
     rw[if_pos (by
      rw[aew]
      exact⟨x,aah HX.o,by rw[zD.o];simpa using uv⟩)]
     rfl
    have fB:=zq bu;clear uv bu;go_wp2_with fail;refine⟨rfl,?_⟩;rw[fB.o];exact⟨rfl,RS.step gT.o gS.o⟩
   have sY: ¬(lens.any (· !=lens.headD 0))=true:=by rw[zD.o,aew];rintro ⟨x,hx,hne⟩;obtain⟨i,hi⟩:=aez hx;have kr:=(aae.1 hi).1;rw[<-dH.o]at kr;have:=bw.o i x (by omega) hi;simp[this]at hne
   have iu:Hid (r=if 64<nl||64<k0 then ae.fault col 5 else ae.ret ⟨nl,k0,acc⟩ EH):=by show _=_;rw[r7.o];unfold ae.Yc;rw[if_neg sY];simp only[zD.o,<-dH.o]
   clear sY;by_cases h6:64<nl
   ·have fT:(64:Int)<(nl:Int):=by omega
    have bu:r=some (.error (col,5)):=by rw[iu.o,if_pos (by simp[h6])];rfl
    have fB:=zq bu;clear h6 bu;go_wp2_with fail;refine⟨rfl,?_⟩;rw[fB.o];exact⟨rfl,RS.step gT.o gS.o⟩
   by_cases h9:64<k0
   ·have fT: ¬(64:Int)<(nl:Int):=by omega
    have wV:(64:Int)<(k0:Int):=by omega
    have bu:r=some (.error (col,5)):=by rw[iu.o,if_pos (by simp[h9])];rfl
    have fB:=zq bu;clear h6 h9 bu;go_wp2_with fail;refine⟨rfl,?_⟩;rw[fB.o];exact⟨rfl,RS.step gT.o gS.o⟩
   have fT: ¬(64:Int)<(nl:Int):=by omega
   have wV: ¬(64:Int)<(k0:Int):=by omega
   have bu:r=some (.ok (⟨nl,k0,acc⟩,EH)):=by rw[iu.o,if_neg (by simp;omega)];rfl
   have fB:=zq bu;clear h6 h9 bu;go_wp2_with fail;obtain⟨wS,zb⟩:∃wS,wS=((wr.setCell ⟨w.heap.size,0,none⟩ (.int .i64 (nl:Int))).setCell ⟨w.heap.size,1,none⟩ (.int .i64 (k0:Int))).setCell ⟨w.heap.size,2,none⟩ (.slice ao nc BC):=⟨_,rfl⟩;rw[<-zb];obtain⟨p1,p2,p3,p4⟩:=Bm kW.o zb;obtain⟨q2,q3⟩:=H.o.loc z6.o (RS.step gT.o gS.o) p2 (fun q hq=>by cases hq;exact aaa _);have hz:=(UX.o.wr p4 hsB).zj;rw[<-fV.o]at hz;refine aaI (adM rfl _ _ w.heap.size 47 _ _ _ rfl p1 Tryz.underlying47 rfl (by kernel_rfl)) rfl ?_;rw[fB.o]
   exact⟨_,_,rfl,q2,q3,by omega,_,rfl,hz⟩
 |false=>
  rw[hk]at fM;have qQ:=zq fM;clear aU fM hcm hk;go_wp2_with fail;refine(X4 R tv L fin a2 s2 nv ns _ cr.o 0 1 [] (by omega) (by omega)).mono ?_;rintro e w4 ⟨rfl,b1⟩;rw[qQ.o];have lW:=zq (cr.o.below b1);have cJ:=zq (RS.step dz.o (Wr.af b1));clear b1;go_wp2_with fail;refine(Fg R tv L fin a2 s2 nv ns _ lW.o f (fun e=>bR.o (by rw[cZ.o,e];rfl))).mono ?_;rintro e fR hn;rcases hN:ae.entries fin f [] [] s2 with- |(⟨fc,fk⟩|⟨⟨acc,lens⟩,EH⟩)
  ·rw[hN]at hn;exact hn.elim
  ·rw[hN]at hn
   obtain⟨rfl,n1⟩:=hn;refine⟨rfl,?_⟩
   have bu:r=some (.error (fc,fk)):=by rw[cZ.o,hN];rfl
   rw[bu];exact⟨rfl,RS.step gT.o (RS.step cJ.o n1)⟩
  rw[hN]at hn;obtain⟨v20,a20,rfl,n1,n2,n3,av,lv,cs,rfl,mD⟩:=hn;obtain⟨Lq,-,sL⟩:=ae.Um fin f _ _ _ _ hN rfl (fun x hx=>by cases hx);simp only at Lq sL mD
  have r7:Hid (r=ae.Yc col (acc,lens) EH):=by show _=_;rw[cZ.o,hN];rfl
  have z6:=zq n1;have gS:=zq (RS.step cJ.o n2);obtain⟨ao,BC,rfl,-,-,-⟩:=Qj mD.bV;obtain⟨lo,bE,rfl,l1,l2,l3⟩:=Qj mD.eW;obtain⟨g,rfl,l4,l5,l6⟩:=l3 sL
  have pT:Hid (∀(j x:Nat),lens[j]?=some x->fR.cell? ⟨g,j,none⟩=some (.int .i64 (x:Nat))):=by intro j x hj;have jA:=(aae.1 hj).1;rw[l6 j (by omega)];simp[ints,hj]
  obtain⟨k0,bF⟩:∃k0,lens[0]?=some k0:=⟨_,aad sL⟩
  have tE:lens.headD 0=k0:=by
   cases lens with
   |nil=>simp at sL
   |cons x l=>simpa using bF
  have c0:=pT.o 0 k0 bF;obtain⟨nl,eK⟩:=xq lens.length;obtain⟨nc,bq⟩:=xq cs.length;rw[<-eK]at sL l1 ⊢;rw[<-bq];have fV:=zq bq
  have abk:nl<=9223372036854775807:=by unfold maxLen at l2;omega
  have UX:=zq mD;have hsB:w.heap.size<w4.heap.size:=aaj yT cJ.o.size;have dH:=zq eK;have zI:=zq bF;have zD:=zq tE;have bP:=(gS.o.block w.heap.size yT (by omega) (by simp)).trans rD.o;have e0:fR.cell? ⟨w.heap.size,0,none⟩=some (.int .i64 0):=(aam fR _ _ _ _ _ bP).trans rfl;have e1:fR.cell? ⟨w.heap.size,1,none⟩=some (.int .i64 0):=(aam fR _ _ _ _ _ bP).trans rfl;have e2:fR.cell? ⟨w.heap.size,2,none⟩=some (.slice none 0 0):=(aam fR _ _ _ _ _ bP).trans rfl;have f0:fR.frozen? ⟨w.heap.size,0,none⟩=false:=aaH fR _ 0 _ _ bP;have f1:fR.frozen? ⟨w.heap.size,1,none⟩=false:=aaH fR _ 1 _ _ bP;have f2:fR.frozen? ⟨w.heap.size,2,none⟩=false:=aaH fR _ 2 _ _ bP;have kW:=zq bP;have Ou:w.heap.size<fR.heap.size:=aaj yT gS.o.size;have aa1:=n3;clear n1 n2 n3 mD Lq l2 l3 l6 bF tE eK bq bP hN cZ;go_wp2_with fail;go_loopw [9,53] (fun _ iv wr=> ∃j:Nat,iv=.int .i64 (j:Nat)/\j<=nl/\(∀i x,i<j->lens[i]?=some x->x=k0)/\wr=fR) (fun _ iv _=>(nl-intOf iv).toNat)
  case atStart=>exact⟨0,rfl,aao _,fun i x h=>absurd h (aeP i),rfl⟩
  case round=>
   obtain⟨j,rfl,jA,hall,hwe⟩:=hrel;subst hwe;have bw:=zq hall;clear hall;by_cases hj:j<nl
   ·obtain⟨x,hx⟩:∃x,lens[j]?=some x:=⟨_,aad (by rw[<-dH.o];exact hj)⟩
    have cj:=pT.o j x hx;have HX:=zq hx;clear hx;by_cases uv:x=k0
    ·have gO:((x:Int)==(k0:Int))=true:=by simp[uv]
     have XR:=zq uv;clear uv;go_wp2_with fail
     have ah:∀i y,i<j+1->lens[i]?=some y->y=k0:=by
      intro i y hi hy;by_cases MV:i<j
      ·exact bw.o i y MV hy
      have:i=j:=by omega
      subst this;rw[HX.o]at hy
      cases hy
      exact XR.o
     first|exact⟨⟨j+1,rfl,by omega,ah,rfl⟩,by simp[intOf]<;>omega⟩|exact⟨by (repeat apply Exists.intro);exact⟨⟨j+1,rfl,by omega,ah,trivial⟩,rfl⟩,by simp[intOf]<;>omega⟩|exact⟨⟨j+1,rfl,by omega,ah,trivial⟩,by simp[intOf]<;>omega⟩
    have gO:((x:Int)==(k0:Int))=false:=by simp;omega
    have bu:r=some (.error (col,2)):=by
     rw[r7.o];unfold ae.Yc
     rw[if_pos (by
      rw[aew]
      exact⟨x,aah HX.o,by rw[zD.o];simpa using uv⟩)]
     rfl
    have fB:=zq bu;clear uv bu;go_wp2_with fail;refine⟨rfl,?_⟩;rw[fB.o];exact⟨rfl,RS.step gT.o gS.o⟩
   have sY: ¬(lens.any (· !=lens.headD 0))=true:=by rw[zD.o,aew];rintro ⟨x,hx,hne⟩;obtain⟨i,hi⟩:=aez hx;have kr:=(aae.1 hi).1;rw[<-dH.o]at kr;have:=bw.o i x (by omega) hi;simp[this]at hne
   have iu:Hid (r=if 64<nl||64<k0 then ae.fault col 5 else ae.ret ⟨nl,k0,acc⟩ EH):=by show _=_;rw[r7.o];unfold ae.Yc;rw[if_neg sY];simp only[zD.o,<-dH.o]
   clear sY;by_cases h6:64<nl
   ·have fT:(64:Int)<(nl:Int):=by omega
    have bu:r=some (.error (col,5)):=by rw[iu.o,if_pos (by simp[h6])];rfl
    have fB:=zq bu;clear h6 bu;go_wp2_with fail;refine⟨rfl,?_⟩;rw[fB.o];exact⟨rfl,RS.step gT.o gS.o⟩
   by_cases h9:64<k0
   ·have fT: ¬(64:Int)<(nl:Int):=by omega
    have wV:(64:Int)<(k0:Int):=by omega
    have bu:r=some (.error (col,5)):=by rw[iu.o,if_pos (by simp[h9])];rfl
    have fB:=zq bu;clear h6 h9 bu;go_wp2_with fail;refine⟨rfl,?_⟩;rw[fB.o];exact⟨rfl,RS.step gT.o gS.o⟩
   have fT: ¬(64:Int)<(nl:Int):=by omega
   have wV: ¬(64:Int)<(k0:Int):=by omega
   have bu:r=some (.ok (⟨nl,k0,acc⟩,EH)):=by rw[iu.o,if_neg (by simp;omega)];rfl
   have fB:=zq bu;clear h6 h9 bu;go_wp2_with fail;obtain⟨wS,zb⟩:∃wS,wS=((wr.setCell ⟨w.heap.size,0,none⟩ (.int .i64 (nl:Int))).setCell ⟨w.heap.size,1,none⟩ (.int .i64 (k0:Int))).setCell ⟨w.heap.size,2,none⟩ (.slice ao nc BC):=⟨_,rfl⟩;rw[<-zb];obtain⟨p1,p2,p3,p4⟩:=Bm kW.o zb;obtain⟨q2,q3⟩:=H.o.loc z6.o (RS.step gT.o gS.o) p2 (fun q hq=>by cases hq;exact aaa _);have hz:=(UX.o.wr p4 hsB).zj;rw[<-fV.o]at hz;refine aaI (adM rfl _ _ w.heap.size 47 _ _ _ rfl p1 Tryz.underlying47 rfl (by kernel_rfl)) rfl ?_;rw[fB.o];exact⟨_,_,rfl,q2,q3,by omega,_,rfl,hz⟩
end Go.Proofs.YtgfmiladfeoldaaGreatDoor
