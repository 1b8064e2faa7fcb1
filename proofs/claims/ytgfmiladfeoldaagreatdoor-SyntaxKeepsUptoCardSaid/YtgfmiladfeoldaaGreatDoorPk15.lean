import Derived.Test.YtgfmiladfeoldaaGreatDoorPk10
set_option linter.unusedSimpArgs false
set_option linter.unusedVariables false
set_option maxRecDepth 100000
set_option maxHeartbeats 16000000
namespace Go.Proofs.YtgfmiladfeoldaaGreatDoor
open Go.RowKit NatP LexP
def ExOk (F:Nat)(P:SynP.St->SynP.PR SynP.Ex)(fin:Nat):Prop:=∀(R:Nat) (tv:Value) (L:List Tok) (a:Nat) (s:SynP.St) (nv:Value) (ns:List Nv) (w:World),RS w R tv L fin a s nv ns->P s≠none->
 Calls Tryz.prog F #[.pointer (some ⟨R,0,none⟩)] w (RP (P s) R tv L fin s nv ns (ExQ ns) w)
theorem Z9 {x:Qx}{s:SynP.St}(h:SynP.Qk x s.ts=true):s.adv.ts.length+1=s.ts.length:=by
 have E:=List.length_pos_iff.2 (Ur h);show s.ts.tail.length+1=_;rw[List.length_tail];omega
def TuO (R:Nat)(tv:Value)(L:List Tok)(fin:Nat)(s0:SynP.St)(nv:Value)(ns:List Nv)(w:World)(r:SynP.PR SynP.Ex)(kv:Value)(wr:World):Prop:=
 ∃g k s' a' nv' ns',SynP.X9 g k s'=r/\PSt R tv L fin s0 nv ns w wr a' s' nv' ns'/\ExQ ns k kv ns' nv' wr
theorem Qgo (fin f:Nat)(IH:ExOk 251 (SynP.atom fin f) fin):ExOk 235 (SynP.post fin (f+1)) fin:=by
 intro R tv L a s nv ns w h hf;have H:=zq h;have HIH:=zq IH;obtain⟨r,hr⟩:=xq (SynP.post fin (f+1) s);rw[<-hr]at hf ⊢
 have HR0:Hid (r=(SynP.atom fin f s).bind fun k s=>SynP.X9 f k s):=by show _=_;rw[hr];rfl
 have HNE:=zq hf;have hfew:=h.few;clear h hr hf IH;go_enter Tryz.func235,Tryz.ntmps235;go_wp2_with fail;refine(HIH.o R tv L a s nv ns _ H.o (fun e=>HNE.o (by rw[HR0.o,e];rfl))).mono ?_;rintro e w1 hn;rcases hN:SynP.atom fin f s with- |(⟨fc,fk⟩|⟨k,s1⟩)
 ·rw[hN]at hn;exact hn.elim
 ·rw[hN]at hn
  obtain⟨rfl,n1⟩:=hn;refine⟨rfl,?_⟩
  have hre:r=some (.error (fc,fk)):=by rw[HR0.o,hN];rfl
  rw[hre];exact⟨rfl,n1⟩
 rw[hN]at hn;obtain⟨v1,a1,nv1,ns1,rfl,n1,n2⟩:=hn;have HST:Hid (TuO R tv L fin s nv ns w r v1 w1):=⟨f,k,s1,a1,nv1,ns1,by rw[HR0.o,hN];rfl,n1,n2⟩;clear n1 n2 hN;go_wp2_with fail;go_loopw [3] (fun kv wr=>TuO R tv L fin s nv ns w r kv wr) (fun _ wr=>Xd L R wr)
 case atStart=>exact HST.o
 clear HST
 case round=>
  obtain⟨g,k,s2,a2,nv2,ns2,htu,hps,hex⟩:=hrel;obtain⟨wo,rfl⟩:=xq wr
  cases g with
  |zero=>exact absurd htu.symm HNE.o
  |succ g=>
   have hlen:=hex.len;have hsp:=Y6 k;obtain⟨rfl,hfl⟩:=hex;obtain⟨p,hp⟩:=xq (ns.length+k.size-1);rw[<-hp];have HP:=zq hp;have HPS:=zq hps;have HFL:=zq hfl;have HL2:=zq hps.rs.left;have HTU:=zq htu;have hfw:=hps.few;rw[List.length_append]at hfw;clear hp hps hfl htu;go_wp2_with fail;refine(Yv R tv L fin a2 s2 nv2 (ns++ns2) _ HPS.o.rs [39]).mono ?_;rintro e w3 ⟨rfl,t1,t2⟩
   cases hm:SynP.Qk [39] s2.ts with
   |true=>
    rw[if_pos hm]at t2;have hml:=Z9 hm
    have HRR:Hid (SynP.X9 g (.turn k) s2.adv=r):=by
     have h1:=HTU.o;unfold SynP.X9 at h1;rw[if_pos hm]at h1;exact h1
    have HP3:=zq (HPS.o.step t2 t1 (by omega) rfl);have hkn:=(KNew.fresh t2 [p]).resolve_right (by simp);have HKN:=zq hkn;have HA:=zq (Qq w3 (.cells #[.int .i64 ((p:Nat):Int)] 3));have HP4:=zq (HP3.o.step (HP3.o.rs.below HA.o) (Wr.of_below HA.o) (Nat.le_refl _) rfl);clear t1 t2 hm hkn;go_wp2_with fail;refine(Y5 R tv L fin (a2+1) s2.adv nv2 (ns++ns2) _ HP4.o.rs ⟨5,[],[p]⟩ _ HKN.o (by rw[List.length_append];omega)).mono ?_;rintro e w5 ⟨nv5,rfl,b1,b2,b3⟩;have HP5:=zq (HP4.o.putS b1 b2 b3 (by rw[List.length_append];omega) (fun q hq=>by cases hq;exact HP3.o.wr.size));have HL5:=zq b1.left;obtain⟨nn,hnn⟩:=xq ((ns++ns2).length);rw[<-hnn];have HNN:=zq hnn;clear b1 b2 b3 hnn;go_wp2_with fail
    have hfin:TuO R tv L fin s nv ns w r (.int .i64 ((nn:Nat):Int)) w5:=by
     refine⟨g,.turn k,s2.adv,a2+1,nv5,_,HRR.o,HP5.o,?_,?_⟩
     ·rw[HNN.o,List.length_append,hlen];rfl
     ·rw[List.map_append,HFL.o,HP.o];rfl
    have hlf:Xd L R w5<Xd L R wo:=by rw[HL5.o,HL2.o];omega
    exact⟨hfin,hlf⟩
   |false=>
    rw[if_neg (by rw[hm];decide)]at t2
    have HRR:Hid (r=some (.ok (k,s2))):=by
     have h1:=HTU.o;unfold SynP.X9 at h1;rw[if_neg (by rw[hm];decide)]at h1;show _=_;rw[<-h1];rfl
    have HP3:=zq (HPS.o.step t2 t1 (Nat.le_refl _) rfl);clear t1 t2 hm;go_wp2_with fail;go_ret;rw[HRR.o];exact⟨_,a2,nv2,ns2,rfl,HP3.o,by rw[HP.o];rfl,HFL.o⟩
def MiO (R:Nat)(tv:Value)(L:List Tok)(fin:Nat)(s0:SynP.St)(nv:Value)(ns:List Nv)(w:World)(r:SynP.PR Nat)(nn:Value)(wr:World):Prop:=
 ∃g n s' a',SynP.Xg g n s'=r/\nn=.int .i64 ((n:Nat):Int)/\RS wr R tv L fin a' s' nv ns/\Wr R none w wr/\n+s'.ts.length<=s0.ts.length/\s'.opened=s0.opened
def NgO (R:Nat)(tv:Value)(L:List Tok)(fin:Nat)(s0:SynP.St)(nv:Value)(ns:List Nv)(w:World)(n:Nat)(s2:SynP.St)(e0:SynP.Ex)(kv iv:Value)(wr:World):Prop:=
 ∃i k a' nv' ns',iv=.int .i64 ((i:Nat):Int)/\i<=n/\SynP.negs (n-i) k=e0/\PSt R tv L fin s0 nv ns w wr a' s2 nv' ns'/\ExQ ns k kv ns' nv' wr/\(ns++ns').length+s2.ts.length+(n-i)<=ns.length+s0.ts.length
theorem Qvg (fin f:Nat)(IH:ExOk 235 (SynP.post fin f) fin):ExOk 208 (SynP.Xr fin (f+1)) fin:=by
 intro R tv L a s nv ns w h hf;have H:=zq h;have HIH:=zq IH;obtain⟨r,hr⟩:=xq (SynP.Xr fin (f+1) s);rw[<-hr]at hf ⊢;obtain⟨r1,hr1⟩:=xq (SynP.Xg f 0 s)
 have HR0:Hid (r=r1.bind fun n s=>(SynP.post fin f s).bind fun k s=>if SynP.Qk [94] s.ts then (SynP.Qd fin s.adv).bind fun m s=>SynP.ret (SynP.negs n (.pow k m)) s else SynP.ret (SynP.negs n k) s):=by show _=_;rw[hr,hr1];rfl
 have HNE:=zq hf;have HR1N:Hid (r1≠none):=fun e=>HNE.o (by rw[HR0.o,e];rfl);have hfew:=h.few;have hfewS:=h.short
 have hts:s.ts.length<=67108864:=by rw[<-h.drop,List.length_drop];omega
 have HST:Hid (MiO R tv L fin s nv ns w r1 (.int .i64 0) w):=⟨f,0,s,a,hr1.symm,rfl,h,Wr.refl _ _ _,by omega,rfl⟩;clear h hr hf IH hr1;go_enter Tryz.func208,Tryz.ntmps208;go_wp2_with fail;go_loopw [3] (fun nn wr=>MiO R tv L fin s nv ns w r1 nn wr) (fun _ wr=>Xd L R wr)
 case atStart=>exact HST.o
 clear HST
 case round=>
  obtain⟨g,n,s1,a1,hmi,rfl,hrs,hwr,hns,hop⟩:=hrel;obtain⟨wo,rfl⟩:=xq wr
  cases g with
  |zero=>exact absurd hmi.symm HR1N.o
  |succ g=>
   have HS1:=zq hrs;have HW1:=zq hwr;have HMI:=zq hmi;have HOP:=zq hop;have HL1:=zq hrs.left;clear hmi hrs hwr hop;go_wp2_with fail;refine(Yv R tv L fin a1 s1 nv ns _ HS1.o [45]).mono ?_;rintro e w3 ⟨rfl,t1,t2⟩
   cases hm:SynP.Qk [45] s1.ts with
   |true=>
    rw[if_pos hm]at t2;have hml:=Z9 hm
    have HRR:Hid (SynP.Xg g (n+1) s1.adv=r1):=by
     have h1:=HMI.o;unfold SynP.Xg at h1;rw[if_pos hm]at h1;exact h1
    have HT1:=zq (RS.step HW1.o t1);have HT2:=zq t2;have HL3:=zq t2.left;clear t1 t2 hm;go_wp2_with fail;have hfin:MiO R tv L fin s nv ns w r1 (.int .i64 ((n:Int)+1)) w3:=⟨g,n+1,s1.adv,a1+1,HRR.o,by congr 1,HT2.o,HT1.o,by omega,HOP.o⟩
    have hlf:Xd L R w3<Xd L R wo:=by rw[HL3.o,HL1.o];omega
    exact⟨hfin,hlf⟩
   |false=>
    rw[if_neg (by rw[hm];decide)]at t2
    have HR2:Hid (r=(SynP.post fin f s1).bind fun k s=>if SynP.Qk [94] s.ts then (SynP.Qd fin s.adv).bind fun m s=>SynP.ret (SynP.negs n (.pow k m)) s else SynP.ret (SynP.negs n k) s):=by
     have h1:=HMI.o;unfold SynP.Xg at h1;rw[if_neg (by rw[hm];decide)]at h1;show _=_;rw[HR0.o,<-h1];rfl
    have HP2:=zq ((PSt.refl H.o).step (s2:=s1) (w2:=w3) (a2:=a1) (by rw[List.append_nil];exact t2) (RS.step HW1.o t1) (by omega) HOP.o);have HT2:=zq t2;clear t1 t2 hm;go_wp2_with fail;refine(HIH.o R tv L a1 s1 nv ns _ HT2.o (fun e=>HNE.o (by rw[HR2.o,e];rfl))).mono ?_;rintro e w4 hn;rcases hN:SynP.post fin f s1 with- |(⟨fc,fk⟩|⟨k,s4⟩)
    ·rw[hN]at hn;exact hn.elim
    ·rw[hN]at hn
     obtain⟨rfl,n1⟩:=hn;refine⟨rfl,?_⟩
     have hre:r=some (.error (fc,fk)):=by rw[HR2.o,hN];rfl
     rw[hre];exact⟨rfl,HP2.o.wr.trans (Mv.refl _ _) n1⟩
    rw[hN]at hn;obtain⟨v4,a4,nv4,ns4,rfl,n1,n2⟩:=hn
    have HR4:Hid (r=if SynP.Qk [94] s4.ts then (SynP.Qd fin s4.adv).bind fun m s=>SynP.ret (SynP.negs n (.pow k m)) s else SynP.ret (SynP.negs n k) s4):=by show _=_;rw[HR2.o,hN];rfl
    have hfw4:=n1.few;rw[List.length_append]at hfw4
    have HP4:Hid (PSt R tv L fin s nv ns w w4 a4 s4 nv4 ns4):=by
     have:=HP2.o.trans (by rw[List.append_nil];exact n1);rw[List.nil_append]at this;exact this
    have hlen:=n2.len;have hsp:=Y6 k;obtain⟨rfl,hfl⟩:=n2;obtain⟨p,hp⟩:=xq (ns.length+k.size-1);rw[<-hp];have HP:=zq hp;have HFL:=zq hfl;clear n1 hp hfl hN;go_wp2_with fail;refine(Yv R tv L fin a4 s4 nv4 (ns++ns4) _ HP4.o.rs [94]).mono ?_;rintro e w5 ⟨rfl,t1,t2⟩
    cases hm:SynP.Qk [94] s4.ts with
    |true=>
     rw[if_pos hm]at t2;have hml:=Z9 hm
     have HR5:Hid (r=(SynP.Qd fin s4.adv).bind fun m s=>SynP.ret (SynP.negs n (.pow k m)) s):=by show _=_;rw[HR4.o,if_pos hm]
     have HP5:=zq (HP4.o.step t2 t1 (by omega) rfl);clear t1 t2 hm;go_wp2_with fail;refine(Vh R tv L fin (a4+1) s4.adv nv4 (ns++ns4) _ HP5.o.rs).mono ?_;rintro e w6 hn;rcases hN:SynP.Qd fin s4.adv with- |(⟨fc,fk⟩|⟨m,s6⟩)
     ·rw[hN]at hn;exact hn.elim
     ·rw[hN]at hn
      obtain⟨rfl,n1⟩:=hn;refine⟨rfl,?_⟩
      have hre:r=some (.error (fc,fk)):=by rw[HR5.o,hN];rfl
      rw[hre];exact⟨rfl,HP5.o.wr.trans HP5.o.mv (n1.weak _)⟩
     rw[hN]at hn;obtain⟨v6,a6,rfl,n1,n2,n3,n4⟩:=hn;have hl6:=Yo hN
     have HR6:Hid (r=some (.ok (SynP.negs n (.pow k m),s6))):=by show _=_;rw[HR5.o,hN];rfl
     have HP6:=zq (HP5.o.step n1 n2 (by omega) hl6.2);have HN6:=zq n4;obtain⟨⟨xs,x1,x2,x3⟩,-⟩:=n4;have HX1:=zq x1;have HX2:=zq x2;clear n1 n2 n3 hN x1 x2;go_wp2_with fail;refine(U9 _ xs _ HP6.o.rs.sg HX1.o (by omega)).mono ?_;rintro e w7 ⟨rfl,b1⟩;rw[HX2.o,R6];have HP7:=zq (HP6.o.step (HP6.o.rs.below b1) (Wr.of_below b1) (Nat.le_refl _) rfl);have HKN:=zq ((KNew.fresh HP7.o.rs [p]).resolve_right (by simp));have HA:=zq (Qq w7 (.cells #[.int .i64 ((p:Nat):Int)] 3));have HP8:=zq (HP7.o.step (HP7.o.rs.below HA.o) (Wr.of_below HA.o) (Nat.le_refl _) rfl);clear b1;go_wp2_with fail;refine(Y5 R tv L fin a6 s6 nv4 (ns++ns4) _ HP8.o.rs ⟨9,SynP.decT m,[p]⟩ _ HKN.o (by rw[List.length_append];omega)).mono ?_;rintro e w9 ⟨nv9,rfl,b1,b2,b3⟩;have HP9:=zq (HP8.o.putS b1 b2 b3 (by rw[List.length_append];omega) (fun q hq=>by cases hq;exact HP7.o.wr.size));obtain⟨nn,hnn⟩:=xq ((ns++ns4).length);rw[<-hnn];have HNN:=zq hnn
     have HST2:Hid (NgO R tv L fin s nv ns w n s6 (SynP.negs n (.pow k m)) (.int .i64 ((nn:Nat):Int)) (.int .i64 0) w9):=by
      refine⟨0,.pow k m,a6,nv9,_,rfl,Nat.zero_le _,rfl,HP9.o,⟨?_,?_⟩,?_⟩
      ·rw[HNN.o,List.length_append,hlen];rfl
      ·rw[List.map_append,HFL.o,HP.o];rfl
      ·simp only[List.length_append,List.length_singleton];omega
     clear b1 b2 b3 hnn;go_wp2_with fail;go_loopw [4,21] (fun kv iv wr=>NgO R tv L fin s nv ns w n s6 (SynP.negs n (.pow k m)) kv iv wr) (fun _ iv _=>(n-intOf iv).toNat)
     case atStart=>exact HST2.o
     clear HST2
     case round=>
      obtain⟨i,q,a10,nv10,ns10,rfl,hin,hng,hps,hex,hfw⟩:=hrel;have hql:=hex.len;have hqp:=Y6 q;obtain⟨rfl,hqf⟩:=hex;obtain⟨pq,hpq⟩:=xq (ns.length+q.size-1);rw[<-hpq];have HPQ:=zq hpq;have HQF:=zq hqf;have HP10:=zq hps;have HNG:=zq hng;rw[List.length_append]at hfw;clear hpq hqf hps hng;by_cases hlt:i<n
      ·have HKN2:=zq ((KNew.fresh HP10.o.rs [pq]).resolve_right (by simp))
       have HA2:=zq (Qq wr (.cells #[.int .i64 ((pq:Nat):Int)] 3));have HP11:=zq (HP10.o.step (HP10.o.rs.below HA2.o) (Wr.of_below HA2.o) (Nat.le_refl _) rfl);go_wp2_with fail;refine(Y5 R tv L fin a10 s6 nv10 (ns++ns10) _ HP11.o.rs ⟨4,[],[pq]⟩ _ HKN2.o (by rw[List.length_append];omega)).mono ?_;rintro e w12 ⟨nv12,rfl,b1,b2,b3⟩;have HP12:=zq (HP11.o.putS b1 b2 b3 (by rw[List.length_append];omega) (fun q hq=>by cases hq;exact HP10.o.wr.size));obtain⟨n2,hn2⟩:=xq ((ns++ns10).length);rw[<-hn2];have HN2:=zq hn2;clear b1 b2 b3 hn2;go_wp2_with fail
       have hfin:NgO R tv L fin s nv ns w n s6 (SynP.negs n (.pow k m)) (.int .i64 ((n2:Nat):Int)) (.int .i64 ((i:Int)+1)) w12:=by
        refine⟨i+1,.neg q,a10,nv12,_,by congr 1,by omega,?_,HP12.o,⟨?_,?_⟩,?_⟩
        ·rw[<-HNG.o,show n-i=(n-(i+1))+1 from by omega];rfl
        ·rw[HN2.o,List.length_append,hql];rfl
        ·rw[List.map_append,HQF.o,HPQ.o];rfl
        ·simp only[List.length_append,List.length_singleton];omega
       exact⟨hfin,by simp[intOf]<;>omega⟩
      ·have hie:n-i=0:=by omega
       have HQE:Hid (q=(SynP.negs n (.pow k m))):=by
        have:=HNG.o;rw[hie]at this;exact this
       clear hie;go_wp2_with fail;go_ret;rw[HR6.o]
       exact⟨_,a10,nv10,ns10,rfl,HP10.o,by rw[<-HQE.o,HPQ.o];rfl,by rw[<-HQE.o];exact HQF.o⟩
    |false=>
     rw[if_neg (by rw[hm];decide)]at t2
     have HR6:Hid (r=some (.ok (SynP.negs n k,s4))):=by show _=_;rw[HR4.o,if_neg (by rw[hm];decide)];rfl
     have HP5:=zq (HP4.o.step t2 t1 (Nat.le_refl _) rfl)
     have HST2:Hid (NgO R tv L fin s nv ns w n s4 (SynP.negs n k) (.int .i64 ((p:Nat):Int)) (.int .i64 0) w5):=by
      refine⟨0,k,a4,nv4,ns4,rfl,Nat.zero_le _,rfl,HP5.o,⟨by rw[HP.o],HFL.o⟩,?_⟩;rw[List.length_append];omega
     clear t1 t2 hm;go_wp2_with fail;go_loopw [4,21] (fun kv iv wr=>NgO R tv L fin s nv ns w n s4 (SynP.negs n k) kv iv wr) (fun _ iv _=>(n-intOf iv).toNat)
     case atStart=>exact HST2.o
     clear HST2
     case round=>
      obtain⟨i,q,a10,nv10,ns10,rfl,hin,hng,hps,hex,hfw⟩:=hrel;have hql:=hex.len;have hqp:=Y6 q;obtain⟨rfl,hqf⟩:=hex;obtain⟨pq,hpq⟩:=xq (ns.length+q.size-1);rw[<-hpq];have HPQ:=zq hpq;have HQF:=zq hqf;have HP10:=zq hps;have HNG:=zq hng;rw[List.length_append]at hfw;clear hpq hqf hps hng;by_cases hlt:i<n
      ·have HKN2:=zq ((KNew.fresh HP10.o.rs [pq]).resolve_right (by simp))
       have HA2:=zq (Qq wr (.cells #[.int .i64 ((pq:Nat):Int)] 3));have HP11:=zq (HP10.o.step (HP10.o.rs.below HA2.o) (Wr.of_below HA2.o) (Nat.le_refl _) rfl);go_wp2_with fail;refine(Y5 R tv L fin a10 s4 nv10 (ns++ns10) _ HP11.o.rs ⟨4,[],[pq]⟩ _ HKN2.o (by rw[List.length_append];omega)).mono ?_;rintro e w12 ⟨nv12,rfl,b1,b2,b3⟩;have HP12:=zq (HP11.o.putS b1 b2 b3 (by rw[List.length_append];omega) (fun q hq=>by cases hq;exact HP10.o.wr.size));obtain⟨n2,hn2⟩:=xq ((ns++ns10).length);rw[<-hn2];have HN2:=zq hn2;clear b1 b2 b3 hn2;go_wp2_with fail
       have hfin:NgO R tv L fin s nv ns w n s4 (SynP.negs n k) (.int .i64 ((n2:Nat):Int)) (.int .i64 ((i:Int)+1)) w12:=by
        refine⟨i+1,.neg q,a10,nv12,_,by congr 1,by omega,?_,HP12.o,⟨?_,?_⟩,?_⟩
        ·rw[<-HNG.o,show n-i=(n-(i+1))+1 from by omega];rfl
        ·rw[HN2.o,List.length_append,hql];rfl
        ·rw[List.map_append,HQF.o,HPQ.o];rfl
        ·simp only[List.length_append,List.length_singleton];omega
       exact⟨hfin,by simp[intOf]<;>omega⟩
      ·have hie:n-i=0:=by omega
       have HQE:Hid (q=(SynP.negs n k)):=by
        have:=HNG.o;rw[hie]at this;exact this
       clear hie;go_wp2_with fail;go_ret;rw[HR6.o];exact⟨_,a10,nv10,ns10,rfl,HP10.o,by rw[<-HQE.o,HPQ.o];rfl,by rw[<-HQE.o];exact HQF.o⟩
def TeO (R:Nat)(tv:Value)(L:List Tok)(fin:Nat)(s0:SynP.St)(nv:Value)(ns:List Nv)(w:World)(f:Nat)(r:SynP.PR SynP.Ex)(kv:Value)(wr:World):Prop:=
 ∃g k s' a' nv' ns',g<=f/\SynP.Qi fin g k s'=r/\PSt R tv L fin s0 nv ns w wr a' s' nv' ns'/\ExQ ns k kv ns' nv' wr
theorem Qmw (fin f:Nat)(IH:∀g,g<=f->ExOk 208 (SynP.Xr fin g) fin):ExOk 160 (SynP.term fin (f+1)) fin:=by
 intro R tv L a s nv ns w h hf;have H:=zq h;have HIH:=zq IH;obtain⟨r,hr⟩:=xq (SynP.term fin (f+1) s);rw[<-hr]at hf ⊢
 have HR0:Hid (r=(SynP.Xr fin f s).bind fun k s=>SynP.Qi fin f k s):=by show _=_;rw[hr];rfl
 have HNE:=zq hf;have hfew:=h.few;clear h hr hf IH;go_enter Tryz.func160,Tryz.ntmps160;go_wp2_with fail;refine(HIH.o f (Nat.le_refl _) R tv L a s nv ns _ H.o (fun e=>HNE.o (by rw[HR0.o,e];rfl))).mono ?_;rintro e w1 hn;rcases hN:SynP.Xr fin f s with- |(⟨fc,fk⟩|⟨k,s1⟩)
 ·rw[hN]at hn;exact hn.elim
 ·rw[hN]at hn
  obtain⟨rfl,n1⟩:=hn;refine⟨rfl,?_⟩
  have hre:r=some (.error (fc,fk)):=by rw[HR0.o,hN];rfl
  rw[hre];exact⟨rfl,n1⟩
 rw[hN]at hn;obtain⟨v1,a1,nv1,ns1,rfl,n1,n2⟩:=hn;have HST:Hid (TeO R tv L fin s nv ns w f r v1 w1):=⟨f,k,s1,a1,nv1,ns1,Nat.le_refl _,by rw[HR0.o,hN];rfl,n1,n2⟩;clear n1 n2 hN;go_wp2_with fail;go_loopw [3] (fun kv wr=>TeO R tv L fin s nv ns w f r kv wr) (fun _ wr=>Xd L R wr)
 case atStart=>exact HST.o
 clear HST
 case round=>
  obtain⟨g,k,s2,a2,nv2,ns2,hgf,htu,hps,hex⟩:=hrel;obtain⟨wo,rfl⟩:=xq wr
  cases g with
  |zero=>exact absurd htu.symm HNE.o
  |succ g=>
   have hlen:=hex.len;have hsp:=Y6 k;obtain⟨rfl,hfl⟩:=hex;obtain⟨p,hp⟩:=xq (ns.length+k.size-1);rw[<-hp];have HP:=zq hp;have HPS:=zq hps;have HFL:=zq hfl;have HL2:=zq hps.rs.left;have HTU:=zq htu;have hfw:=hps.few;rw[List.length_append]at hfw;clear hp hps hfl htu;go_wp2_with fail;refine(Yv R tv L fin a2 s2 nv2 (ns++ns2) _ HPS.o.rs [42]).mono ?_;rintro e w3 ⟨rfl,t1,t2⟩
   cases hm:SynP.Qk [42] s2.ts with
   |true=>
    rw[if_pos hm]at t2;have hml:=Z9 hm
    have HRR:Hid (r=(SynP.Xr fin g s2.adv).bind fun t s=>SynP.Qi fin g (.mul k t) s):=by
     have h1:=HTU.o;unfold SynP.Qi at h1;rw[if_pos hm]at h1;exact h1.symm
    have HP3:=zq (HPS.o.step t2 t1 (by omega) rfl);clear t1 t2 hm;go_wp2_with fail;refine(HIH.o g (by omega) R tv L (a2+1) s2.adv nv2 (ns++ns2) _ HP3.o.rs (fun e=>HNE.o (by rw[HRR.o,e];rfl))).mono ?_;rintro e w4 hn;rcases hN:SynP.Xr fin g s2.adv with- |(⟨fc,fk⟩|⟨t,s4⟩)
    ·rw[hN]at hn;exact hn.elim
    ·rw[hN]at hn
     obtain⟨rfl,n1⟩:=hn;refine⟨rfl,?_⟩
     have hre:r=some (.error (fc,fk)):=by rw[HRR.o,hN];rfl
     rw[hre];exact⟨rfl,HP3.o.wr.trans HP3.o.mv n1⟩
    rw[hN]at hn;obtain⟨v4,a4,nv4,ns4,rfl,n1,n2⟩:=hn
    have HRT:Hid (SynP.Qi fin g (.mul k t) s4=r):=by show _=_;rw[HRR.o,hN];rfl
    have hfw4:=n1.few;simp only[List.length_append]at hfw4;have HL4:=zq n1.rs.left;have HP4:=zq (HP3.o.trans n1);have hlen4:=n2.len;have hsp4:=Y6 t;obtain⟨rfl,hfl4⟩:=n2;obtain⟨q,hq⟩:=xq ((ns++ns2).length+t.size-1);rw[<-hq];have HQ:=zq hq;have HFL4:=zq hfl4;have HKN:=zq ((KNew.fresh HP4.o.rs [p,q]).resolve_right (by simp));have HA:=zq (Qq w4 (.cells #[.int .i64 ((p:Nat):Int),.int .i64 ((q:Nat):Int)] 3));have HP5:=zq (HP4.o.step (HP4.o.rs.below HA.o) (Wr.of_below HA.o) (Nat.le_refl _) rfl);clear n1 hq hfl4 hN;go_wp2_with fail;refine(Y5 R tv L fin a4 s4 nv4 (ns++(ns2++ns4)) _ HP5.o.rs ⟨8,[],[p,q]⟩ _ HKN.o (by simp only[List.length_append];omega)).mono ?_;rintro e w6 ⟨nv6,rfl,b1,b2,b3⟩;have HP6:=zq (HP5.o.putS b1 b2 b3 (by simp only[List.length_append];omega) (fun q hq=>by cases hq;exact HP4.o.wr.size));have HL6:=zq b1.left;obtain⟨nn,hnn⟩:=xq ((ns++(ns2++ns4)).length);rw[<-hnn];have HNN:=zq hnn;clear b1 b2 b3 hnn;go_wp2_with fail
    have hfin:TeO R tv L fin s nv ns w f r (.int .i64 ((nn:Nat):Int)) w6:=by
     refine⟨g,.mul k t,s4,a4,nv6,_,by omega,HRT.o,HP6.o,?_,?_⟩
     ·rw[HNN.o];simp only[List.length_append];rw[hlen,hlen4]
      have e:(SynP.Ex.mul k t).size=k.size+t.size+1:=rfl
      rw[e];congr 2<;>omega
     ·rw[List.map_append,List.map_append,HFL.o,HFL4.o,HP.o,HQ.o,List.length_append,hlen]
      show _=k.flat ns.length++t.flat (ns.length+k.size)++[⟨8,[],[ns.length+k.size-1,ns.length+k.size+t.size-1]⟩];rfl
    have hlf:Xd L R w6<Xd L R wo:=by
     rw[HL6.o,HL2.o];omega
    exact⟨hfin,hlf⟩
   |false=>
    rw[if_neg (by rw[hm];decide)]at t2
    have HRR:Hid (r=some (.ok (k,s2))):=by
     have h1:=HTU.o;unfold SynP.Qi at h1;rw[if_neg (by rw[hm];decide)]at h1;show _=_;rw[<-h1];rfl
    have HP3:=zq (HPS.o.step t2 t1 (Nat.le_refl _) rfl);clear t1 t2 hm;go_wp2_with fail;go_ret;rw[HRR.o];exact⟨_,a2,nv2,ns2,rfl,HP3.o,by rw[HP.o];rfl,HFL.o⟩
def EpO (R:Nat)(tv:Value)(L:List Tok)(fin:Nat)(s0:SynP.St)(nv:Value)(ns:List Nv)(w:World)(f:Nat)(r:SynP.PR SynP.Ex)(kv:Value)(wr:World):Prop:=
 ∃g k s' a' nv' ns',g<=f/\SynP.Qf fin g k s'=r/\PSt R tv L fin s0 nv ns w wr a' s' nv' ns'/\ExQ ns k kv ns' nv' wr
theorem Qpo (fin f:Nat)(IH:∀g,g<=f->ExOk 160 (SynP.term fin g) fin):ExOk 97 (SynP.expr fin (f+1)) fin:=by
 intro R tv L a s nv ns w h hf;have H:=zq h;have HIH:=zq IH;obtain⟨r,hr⟩:=xq (SynP.expr fin (f+1) s);rw[<-hr]at hf ⊢
 have HR0:Hid (r=(SynP.term fin f s).bind fun k s=>SynP.Qf fin f k s):=by show _=_;rw[hr];rfl
 have HNE:=zq hf;have hfew:=h.few;clear h hr hf IH;go_enter Tryz.func97,Tryz.ntmps97;go_wp2_with fail;refine(HIH.o f (Nat.le_refl _) R tv L a s nv ns _ H.o (fun e=>HNE.o (by rw[HR0.o,e];rfl))).mono ?_;rintro e w1 hn;rcases hN:SynP.term fin f s with- |(⟨fc,fk⟩|⟨k,s1⟩)
 ·rw[hN]at hn;exact hn.elim
 ·rw[hN]at hn
  obtain⟨rfl,n1⟩:=hn;refine⟨rfl,?_⟩
  have hre:r=some (.error (fc,fk)):=by rw[HR0.o,hN];rfl
  rw[hre];exact⟨rfl,n1⟩
 rw[hN]at hn;obtain⟨v1,a1,nv1,ns1,rfl,n1,n2⟩:=hn;have HST:Hid (EpO R tv L fin s nv ns w f r v1 w1):=⟨f,k,s1,a1,nv1,ns1,Nat.le_refl _,by rw[HR0.o,hN];rfl,n1,n2⟩;clear n1 n2 hN;go_wp2_with fail;go_loopw [3,4] (fun kv _ wr=>EpO R tv L fin s nv ns w f r kv wr) (fun _ _ wr=>Xd L R wr)
 case atStart=>exact HST.o
 clear HST
 case round=>
  obtain⟨g,k,s2,a2,nv2,ns2,hgf,htu,hps,hex⟩:=hrel;obtain⟨wo,rfl⟩:=xq wr
  cases g with
  |zero=>exact absurd htu.symm HNE.o
  |succ g=>
   have hlen:=hex.len;have hsp:=Y6 k;obtain⟨rfl,hfl⟩:=hex;obtain⟨p,hp⟩:=xq (ns.length+k.size-1);rw[<-hp];have HP:=zq hp;have HPS:=zq hps;have HFL:=zq hfl;have HL2:=zq hps.rs.left;have HTU:=zq htu;have hfw:=hps.few;rw[List.length_append]at hfw;clear hp hps hfl htu;go_wp2_with fail;refine(Yv R tv L fin a2 s2 nv2 (ns++ns2) _ HPS.o.rs [43]).mono ?_;rintro e w3 ⟨rfl,t1,t2⟩
   cases hm:SynP.Qk [43] s2.ts with
   |true=>
    rw[if_pos hm]at t2;have hml:=Z9 hm
    have HRR:Hid (r=(SynP.term fin g s2.adv).bind fun t s=>SynP.Qf fin g (.add k t) s):=by
     have h1:=HTU.o;unfold SynP.Qf at h1;rw[if_pos hm]at h1;exact h1.symm
    have HP3:=zq (HPS.o.step t2 t1 (by omega) rfl);clear t1 t2 hm;go_wp2_with fail;refine(HIH.o g (by omega) R tv L (a2+1) s2.adv nv2 (ns++ns2) _ HP3.o.rs (fun e=>HNE.o (by rw[HRR.o,e];rfl))).mono ?_;rintro e w4 hn;rcases hN:SynP.term fin g s2.adv with- |(⟨fc,fk⟩|⟨t,s4⟩)
    ·rw[hN]at hn;exact hn.elim
    ·rw[hN]at hn
     obtain⟨rfl,n1⟩:=hn;refine⟨rfl,?_⟩
     have hre:r=some (.error (fc,fk)):=by rw[HRR.o,hN];rfl
     rw[hre];exact⟨rfl,HP3.o.wr.trans HP3.o.mv n1⟩
    rw[hN]at hn;obtain⟨v4,a4,nv4,ns4,rfl,n1,n2⟩:=hn
    have HRT:Hid (SynP.Qf fin g (.add k t) s4=r):=by show _=_;rw[HRR.o,hN];rfl
    have hfw4:=n1.few;simp only[List.length_append]at hfw4;have HL4:=zq n1.rs.left;have HP4:=zq (HP3.o.trans n1);have hlen4:=n2.len;have hsp4:=Y6 t;obtain⟨rfl,hfl4⟩:=n2;obtain⟨q,hq⟩:=xq ((ns++ns2).length+t.size-1);rw[<-hq];have HQ:=zq hq;have HFL4:=zq hfl4;have HKN:=zq ((KNew.fresh HP4.o.rs [p,q]).resolve_right (by simp));have HA:=zq (Qq w4 (.cells #[.int .i64 ((p:Nat):Int),.int .i64 ((q:Nat):Int)] 3));have HP5:=zq (HP4.o.step (HP4.o.rs.below HA.o) (Wr.of_below HA.o) (Nat.le_refl _) rfl);clear n1 hq hfl4 hN;go_wp2_with fail;refine(Y5 R tv L fin a4 s4 nv4 (ns++(ns2++ns4)) _ HP5.o.rs ⟨6,[],[p,q]⟩ _ HKN.o (by simp only[List.length_append];omega)).mono ?_;rintro e w6 ⟨nv6,rfl,b1,b2,b3⟩;have HP6:=zq (HP5.o.putS b1 b2 b3 (by simp only[List.length_append];omega) (fun q hq=>by cases hq;exact HP4.o.wr.size));have HL6:=zq b1.left;obtain⟨nn,hnn⟩:=xq ((ns++(ns2++ns4)).length);rw[<-hnn];have HNN:=zq hnn;clear b1 b2 b3 hnn;go_wp2_with fail
    have hfin:EpO R tv L fin s nv ns w f r (.int .i64 ((nn:Nat):Int)) w6:=by
     refine⟨g,.add k t,s4,a4,nv6,_,by omega,HRT.o,HP6.o,?_,?_⟩
     ·rw[HNN.o];simp only[List.length_append];rw[hlen,hlen4]
      have e:(SynP.Ex.add k t).size=k.size+t.size+1:=rfl
      rw[e];congr 2<;>omega
     ·rw[List.map_append,List.map_append,HFL.o,HFL4.o,HP.o,HQ.o,List.length_append,hlen]
      show _=k.flat ns.length++t.flat (ns.length+k.size)++[⟨6,[],[ns.length+k.size-1,ns.length+k.size+t.size-1]⟩];rfl
    have hlf:Xd L R w6<Xd L R wo:=by
     rw[HL6.o,HL2.o];omega
    exact⟨hfin,hlf⟩
   |false=>
    rw[if_neg (by rw[hm];decide)]at t2;have HPM:=zq (HPS.o.step t2 t1 (Nat.le_refl _) rfl);have HMF:=zq hm;clear t1 t2 hm;go_wp2_with fail;refine(Yv R tv L fin a2 s2 nv2 (ns++ns2) _ HPM.o.rs [45]).mono ?_;rintro e w3 ⟨rfl,t1,t2⟩;have hm:=HMF.o
    cases hm2:SynP.Qk [45] s2.ts with
    |true=>
     rw[if_pos hm2]at t2;have hml:=Z9 hm2
     have HRR:Hid (r=(SynP.term fin g s2.adv).bind fun t s=>SynP.Qf fin g (.sub k t) s):=by
      have h1:=HTU.o;unfold SynP.Qf at h1;rw[if_neg (by rw[hm];decide),if_pos hm2]at h1;exact h1.symm
     have HP3:=zq (HPM.o.step t2 t1 (by omega) rfl);clear t1 t2 hm2 hm;go_wp2_with fail;refine(HIH.o g (by omega) R tv L (a2+1) s2.adv nv2 (ns++ns2) _ HP3.o.rs (fun e=>HNE.o (by rw[HRR.o,e];rfl))).mono ?_;rintro e w4 hn;rcases hN:SynP.term fin g s2.adv with- |(⟨fc,fk⟩|⟨t,s4⟩)
     ·rw[hN]at hn;exact hn.elim
     ·rw[hN]at hn
      obtain⟨rfl,n1⟩:=hn;refine⟨rfl,?_⟩
      have hre:r=some (.error (fc,fk)):=by rw[HRR.o,hN];rfl
      rw[hre];exact⟨rfl,HP3.o.wr.trans HP3.o.mv n1⟩
     rw[hN]at hn;obtain⟨v4,a4,nv4,ns4,rfl,n1,n2⟩:=hn
     have HRT:Hid (SynP.Qf fin g (.sub k t) s4=r):=by show _=_;rw[HRR.o,hN];rfl
     have hfw4:=n1.few;simp only[List.length_append]at hfw4;have HL4:=zq n1.rs.left;have HP4:=zq (HP3.o.trans n1);have hlen4:=n2.len;have hsp4:=Y6 t;obtain⟨rfl,hfl4⟩:=n2;obtain⟨q,hq⟩:=xq ((ns++ns2).length+t.size-1);rw[<-hq];have HQ:=zq hq;have HFL4:=zq hfl4;have HKN:=zq ((KNew.fresh HP4.o.rs [p,q]).resolve_right (by simp));have HA:=zq (Qq w4 (.cells #[.int .i64 ((p:Nat):Int),.int .i64 ((q:Nat):Int)] 3));have HP5:=zq (HP4.o.step (HP4.o.rs.below HA.o) (Wr.of_below HA.o) (Nat.le_refl _) rfl);clear n1 hq hfl4 hN;go_wp2_with fail;refine(Y5 R tv L fin a4 s4 nv4 (ns++(ns2++ns4)) _ HP5.o.rs ⟨7,[],[p,q]⟩ _ HKN.o (by simp only[List.length_append];omega)).mono ?_;rintro e w6 ⟨nv6,rfl,b1,b2,b3⟩;have HP6:=zq (HP5.o.putS b1 b2 b3 (by simp only[List.length_append];omega) (fun q hq=>by cases hq;exact HP4.o.wr.size));have HL6:=zq b1.left;obtain⟨nn,hnn⟩:=xq ((ns++(ns2++ns4)).length);rw[<-hnn];have HNN:=zq hnn;clear b1 b2 b3 hnn;go_wp2_with fail
     have hfin:EpO R tv L fin s nv ns w f r (.int .i64 ((nn:Nat):Int)) w6:=by
      refine⟨g,.sub k t,s4,a4,nv6,_,by omega,HRT.o,HP6.o,?_,?_⟩
      ·rw[HNN.o];simp only[List.length_append];rw[hlen,hlen4]
       have e:(SynP.Ex.sub k t).size=k.size+t.size+1:=rfl
       rw[e];congr 2<;>omega
      ·rw[List.map_append,List.map_append,HFL.o,HFL4.o,HP.o,HQ.o,List.length_append,hlen]
       show _=k.flat ns.length++t.flat (ns.length+k.size)++[⟨7,[],[ns.length+k.size-1,ns.length+k.size+t.size-1]⟩];rfl
     have hlf:Xd L R w6<Xd L R wo:=by
      rw[HL6.o,HL2.o];omega
     exact⟨hfin,hlf⟩
    |false=>
     rw[if_neg (by rw[hm2];decide)]at t2
     have HRR:Hid (r=some (.ok (k,s2))):=by
      have h1:=HTU.o;unfold SynP.Qf at h1;rw[if_neg (by rw[hm];decide),if_neg (by rw[hm2];decide)]at h1;show _=_;rw[<-h1];rfl
     have HP3:=zq (HPM.o.step t2 t1 (Nat.le_refl _) rfl);clear t1 t2 hm2 hm;go_wp2_with fail;go_ret;rw[HRR.o];exact⟨_,a2,nv2,ns2,rfl,HP3.o,by rw[HP.o];rfl,HFL.o⟩
def PaQ (R:Nat)(ns:List Nv)(w:World)(l:SynP.Exs)(v:Value)(ns':List Nv)(nv':Value)(w':World):Prop:=KNew w' R nv' (ns++ns') v (l.roots ns.length)/\ns'.map Prod.fst=l.flat ns.length/\ ∀q,v.ownBlock=some q->w.heap.size<=q
def PaOk (P:SynP.St->SynP.PR SynP.Exs)(fin:Nat):Prop:=∀(R:Nat) (tv:Value) (L:List Tok) (a:Nat) (s:SynP.St) (nv:Value) (ns:List Nv) (w:World),RS w R tv L fin a s nv ns->P s≠none->
 Calls Tryz.prog 98 #[.pointer (some ⟨R,0,none⟩)] w (RP (P s) R tv L fin s nv ns (PaQ R ns w) w)
theorem Gj:∀(l:SynP.Exs) (e:SynP.Ex) (o:Nat),(l.snoc e).roots o=l.roots o++[o+l.size+e.size-1]
 | .nil,e,o=>by simp[SynP.Exs.snoc,SynP.Exs.roots,SynP.Exs.size]
 | .cons a l,e,o=>by
  show (o+a.size-1)::(l.snoc e).roots (o+a.size)=(o+a.size-1)::l.roots (o+a.size)++_;rw[Gj l e];simp[SynP.Exs.size,Nat.add_assoc]
theorem Hv:∀(l:SynP.Exs) (e:SynP.Ex) (o:Nat),(l.snoc e).flat o=l.flat o++e.flat (o+l.size)
 | .nil,e,o=>by simp[SynP.Exs.snoc,SynP.Exs.flat,SynP.Exs.size]
 | .cons a l,e,o=>by
  show a.flat o++(l.snoc e).flat (o+a.size)=a.flat o++l.flat (o+a.size)++_;rw[Hv l e];simp[SynP.Exs.size,Nat.add_assoc]
theorem RS.growK {w w':World}{R:Nat}{tv:Value}{L:List Tok}{fin a:Nat}{s:SynP.St}{nv:Value}{ns:List Nv}{row:Option Nat}(h:RS w R tv L fin a s nv ns)(hg:w.grownBy w' row)(hr:∀q,row=some q->R<q/\nv.ownBlock≠some q/\ ∀p∈ns,p.2.ownBlock≠some q):
  RS w' R tv L fin a s nv ns/\(∀B,B<=w.heap.size->(∀q,row=some q->B<=q)->Below B w w'):=by
 refine⟨⟨?_,?_,h.drop,h.le,?_,?_,h.apart,h.few,h.deep,h.short,h.sum,h.good,?_,h.sgl⟩,fun B hB hq=>⟨hg.os,hg.tape,hg.output,hg.size,fun k hk=>hg.block k (by omega) (fun e=>by have:=hq k e.symm;omega)⟩⟩
 ·exact(hg.block R h.lt (fun e=>by have:=(hr R e.symm).1;omega)).trans h.blk
 ·obtain⟨ao,H,e,K,O,E⟩:=h.tks
  refine⟨ao,H,e,K,O,fun h0=> ?_⟩;obtain⟨g,rfl,T,I⟩:=E h0;have U:=hg.block g (by have:=h.lt;omega) (fun e=>by have:=(hr g e.symm).1;omega);exact⟨g,rfl,T,fun j t hj=>⟨(World.cell?_of_block U).trans (I j t hj).1,(World.cell?_of_block U).trans (I j t hj).2.1,(World.cell?_of_block U).trans (I j t hj).2.2⟩⟩
 ·refine h.own.kept hg ?_
  cases ho:nv.ownBlock with
  |none=>exact .inl rfl
  |some q=>exact .inr (fun e=>(hr q e.symm).2.1 ho)
 ·intro p Z
  obtain⟨ao,H,e,K,O,E,h4,h9⟩:=h.kids p Z;refine⟨ao,H,e,K,O,fun q hq=>⟨(E q hq).1,Nat.lt_of_lt_of_le (E q hq).2.1 hg.size,(E q hq).2.2⟩,fun h0=> ?_,Zf h9 fun q hq hl=>hg.block q hl (fun e=>(hr q e.symm).2.2 p Z hq)⟩;obtain⟨g,rfl,T⟩:=h4 h0
  have J:p.2.ownBlock=some g:=by rw[e];rfl
  have I:=E g J;exact⟨g,rfl,fun j k hj=>(World.cell?_of_block (hg.block g I.2.1 (fun e=>(hr g e.symm).2.2 p Z J))).trans (T j k hj)⟩
 ·intro d hd
  exact(World.cell?_of_block (hg.block _ (Nat.lt_trans h.sgl h.lt) (fun e=>Nat.lt_asymm (hr _ e.symm).1 h.sgl))).trans (h.sg d hd)
structure Ka (w:World) (R:Nat) (nv:Value) (ns:List Nv) (kv:Value) (ks:List Nat):Prop where
 own:w.ownsRow (R+1) 3 1 kv ks.length (ints ks)
 ap:∀q,kv.ownBlock=some q->nv.ownBlock≠some q/\ ∀p∈ns,p.2.ownBlock≠some q
theorem Ka.knew {w:World}{R:Nat}{nv:Value}{ns:List Nv}{kv:Value}{ks:List Nat}(h:Ka w R nv ns kv ks):KNew w R nv ns kv ks:=by
 obtain⟨ao,E,e,H,I,J⟩:=Qm h.own;refine⟨⟨ao,E,e,H,I,fun q hq=>⟨by have:=(h.own.lt q hq).1;omega,(h.own.lt q hq).2,(h.ap q hq).1⟩,fun h0=> ?_,⟨h.own.1,h.own.2.imp id fun ⟨g,c,cur,a,b,r⟩=>⟨g,c,cur,a,Nat.zero_le _,r⟩⟩⟩,fun p hp q hq e=>(h.ap q e).2 p hp hq⟩;obtain⟨g,rfl,-,-,a3⟩:=J h0;refine⟨g,rfl,fun j k hj=> ?_⟩;have K:=(List.getElem?_eq_some_iff.1 hj).1;rw[a3 j (by omega)];simp[ints,hj]
theorem Ka.expr {w w':World}{R:Nat}{nv nv':Value}{ns ns':List Nv}{kv:Value}{ks:List Nat}(h:Ka w R nv ns kv ks)(hw:Wr R nv.ownBlock w w')(hm:Mv w nv.ownBlock nv'.ownBlock)(hf:∀p∈ns',∀q,p.2.ownBlock=some q->w.heap.size<=q):
  Ka w' R nv' (ns++ns') kv ks:=by
 refine⟨⟨h.own.1,?_⟩,fun q hq=>⟨fun e=> ?_,fun p E e=> ?_⟩⟩
 ·rcases h.own.2 with U|⟨g,J,K,rfl,T,H,I⟩
  ·exact .inl U
  ·exact .inr ⟨g,J,K,rfl,T,(hw.block g (Array.getElem?_eq_some_iff.1 H).1 (by omega) (fun e=>(h.ap g rfl).1 e.symm)).trans H,I⟩
 ·rcases hm q e with O|O
  ·exact(h.ap q hq).1 O
  ·have:=(h.own.lt q hq).2;omega
 ·rcases List.mem_append.1 E with E|E
  ·exact(h.ap q hq).2 p E e
  ·have:=hf p E q e
   have:=(h.own.lt q hq).2;omega
theorem Ka.push {w w':World}{R g cap N:Nat}{nv:Value}{ns:List Nv}{kv:Value}{ks:List Nat}(h:Ka w R nv ns kv ks){k:Nat}
  (hown:w'.ownsRow (R+1) 3 1 (.slice (some ⟨g,0,none⟩) N cap) N (ints ks++[.int .i64 (k:Nat)])) (hN:N=ks.length+1) (hat:kv.ownBlock=some g\/g=w.heap.size) (hnv:∀q,nv.ownBlock=some q->q<w.heap.size) (hns:∀p∈ns,∀q,p.2.ownBlock=some q->q<w.heap.size):
  Ka w' R nv ns (.slice (some ⟨g,0,none⟩) N cap) (ks++[k]):=by
 subst hN;refine⟨?_,fun q hq=> ?_⟩
 ·rw[show (ks++[k]).length=ks.length+1 from by simp,show ints (ks++[k])=ints ks++[.int .i64 (k:Nat)] from by simp[ints]]
  exact hown
 ·have H:g=q:=by cases hq;rfl
  rcases hat with E|E
  ·rw[H]at E;exact h.ap q E
  ·refine⟨fun e=> ?_,fun p hp e=> ?_⟩
   ·have:=hnv q e;omega
   ·have:=hns p hp q e;omega
def PaO (R:Nat)(tv:Value)(L:List Tok)(fin:Nat)(s0:SynP.St)(nv:Value)(ns:List Nv)(w:World)(f:Nat)(r:SynP.PR SynP.Exs)(kv:Value)(wr:World):Prop:=
 ∃g ks s' a' nv' ns',g<=f/\SynP.Qs fin g ks s'=r/\PSt R tv L fin s0 nv ns w wr a' s' nv' ns'/\Ka wr R nv' (ns++ns') kv (ks.roots ns.length)/\ns'.map Prod.fst=ks.flat ns.length/\ ∀q,kv.ownBlock=some q->w.heap.size<=q
theorem Ep:∀(l:SynP.Exs) (o:Nat),(l.roots o).length=l.len
 | .nil,_=>rfl
 | .cons a l,o=>by show (l.roots _).length+1=l.len+1;rw[Ep l]
theorem Bn:∀l:SynP.Exs,l.len<=l.size
 | .nil=>Nat.le_refl _
 | .cons a l=>by
  have h1:=Bn l;have h:=Y6 a;show l.len+1<=a.size+l.size;omega
theorem Qyc (fin f:Nat)(IH:∀g,g<=f->ExOk 97 (SynP.expr fin g) fin):PaOk (SynP.X7 fin (f+1)) fin:=by
 intro R tv L a s nv ns w h hf;have H:=zq h;have HIH:=zq IH;obtain⟨r,hr⟩:=xq (SynP.X7 fin (f+1) s);rw[<-hr]at hf ⊢
 have HR0:Hid (r=(SynP.expr fin f s).bind fun k s=>SynP.Qs fin f (.cons k .nil) s):=by show _=_;rw[hr];rfl
 have HNE:=zq hf;have hfew:=h.few;clear h hr hf IH;go_enter Tryz.func98,Tryz.ntmps98;go_wp2_with fail;refine(HIH.o f (Nat.le_refl _) R tv L a s nv ns _ H.o (fun e=>HNE.o (by rw[HR0.o,e];rfl))).mono ?_;rintro e w1 hn;rcases hN:SynP.expr fin f s with- |(⟨fc,fk⟩|⟨k,s1⟩)
 ·rw[hN]at hn;exact hn.elim
 ·rw[hN]at hn
  obtain⟨rfl,n1⟩:=hn;refine⟨rfl,?_⟩
  have hre:r=some (.error (fc,fk)):=by rw[HR0.o,hN];rfl
  rw[hre];exact⟨rfl,n1⟩
 rw[hN]at hn;obtain⟨v1,a1,nv1,ns1,rfl,n1,n2⟩:=hn;obtain⟨rfl,hfl⟩:=n2;obtain⟨p,hp⟩:=xq (ns.length+k.size-1);rw[<-hp];have HA:=zq (Qq w1 (.cells #[.int .i64 ((p:Nat):Int)] 3))
 have HST:Hid (PaO R tv L fin s nv ns w f r (.slice (some ⟨w1.heap.size,0,none⟩) 1 1) (w1.alloc (.cells #[.int .i64 ((p:Nat):Int)] 3))):=by
  refine⟨f,.cons k .nil,s1,a1,nv1,ns1,Nat.le_refl _,by rw[HR0.o,hN];rfl,n1.step (n1.rs.below HA.o) (Wr.of_below HA.o) (Nat.le_refl _) rfl,⟨⟨rfl,.inr ⟨w1.heap.size,1,_,rfl,n1.rs.lt,heap_alloc_new w1 _,Nat.le_refl _,by unfold maxLen;omega,rfl,by rw[hp];rfl⟩⟩,fun q hq=> ?_⟩,by rw[hfl];simp[SynP.Exs.flat],fun q hq=>by cases hq;exact n1.wr.size⟩
  have hqe:w1.heap.size=q:=by cases hq;rfl
  refine⟨fun e=> ?_,fun x hx e=> ?_⟩
  ·have:=(n1.rs.own.lt q e).2;omega
  ·obtain⟨ao,cap,e1,-,-,h3,-⟩:=n1.rs.kids x hx
   have:=(h3 q e).2.1;omega
 clear n1 hN hp hfl;go_wp2_with fail;go_loopw [3] (fun kv wr=>PaO R tv L fin s nv ns w f r kv wr) (fun _ wr=>Xd L R wr)
 case atStart=>exact HST.o
 clear HST
 case round=>
  obtain⟨g,ks,s2,a2,nv2,ns2,hgf,htu,hps,hka,hfl,hge⟩:=hrel;obtain⟨wo,rfl⟩:=xq wr
  cases g with
  |zero=>exact absurd htu.symm HNE.o
  |succ g=>
   have HPS:=zq hps;have HFL:=zq hfl;have HKA:=zq hka;have HGE:=zq hge;have HL2:=zq hps.rs.left;have HTU:=zq htu;have hfw:=hps.few;rw[List.length_append]at hfw
   have hl2:ns2.length=ks.size:=by have:=congrArg List.length hfl;rw[List.length_map,Un]at this;exact this
   clear hps hfl htu hka hge;go_wp2_with fail;refine(Yv R tv L fin a2 s2 nv2 (ns++ns2) _ HPS.o.rs [44]).mono ?_;rintro e w3 ⟨rfl,t1,t2⟩
   cases hm:SynP.Qk [44] s2.ts with
   |true=>
    rw[if_pos hm]at t2;have hml:=Z9 hm
    have HRR:Hid (r=(SynP.expr fin g s2.adv).bind fun k s=>SynP.Qs fin g (ks.snoc k) s):=by
     have h1:=HTU.o;unfold SynP.Qs at h1;rw[if_pos hm]at h1;exact h1.symm
    have HP3:=zq (HPS.o.step t2 t1 (by omega) rfl);have hk3:=HKA.o.expr (ns':=[]) (nv':=nv2) (t1.weak _) (Mv.refl _ _) (fun p hp=>by cases hp);rw[List.append_nil]at hk3;have HK3:=zq hk3;clear t1 t2 hm hk3;go_wp2_with fail;refine(HIH.o g (by omega) R tv L (a2+1) s2.adv nv2 (ns++ns2) _ HP3.o.rs (fun e=>HNE.o (by rw[HRR.o,e];rfl))).mono ?_;rintro e w4 hn;rcases hN:SynP.expr fin g s2.adv with- |(⟨fc,fk⟩|⟨t,s4⟩)
    ·rw[hN]at hn;exact hn.elim
    ·rw[hN]at hn
     obtain⟨rfl,n1⟩:=hn;refine⟨rfl,?_⟩
     have hre:r=some (.error (fc,fk)):=by rw[HRR.o,hN];rfl
     rw[hre];exact⟨rfl,HP3.o.wr.trans HP3.o.mv n1⟩
    rw[hN]at hn;obtain⟨v4,a4,nv4,ns4,rfl,n1,n2⟩:=hn
    have HRT:Hid (SynP.Qs fin g (ks.snoc t) s4=r):=by show _=_;rw[HRR.o,hN];rfl
    have hfw4:=n1.few;simp only[List.length_append]at hfw4;obtain⟨rfl,hfl4⟩:=n2;obtain⟨q,hq⟩:=xq ((ns++ns2).length+t.size-1);rw[<-hq];have HQ:=zq hq;have HFL4:=zq hfl4;have HP4:=zq (HP3.o.trans n1);have HA:=zq (Qq w4 (.cells #[.int .i64 ((q:Nat):Int)] 3));have HP5:=zq (HP4.o.step (HP4.o.rs.below HA.o) (Wr.of_below HA.o) (Nat.le_refl _) rfl);have hk5:=(HK3.o.expr n1.wr n1.mv n1.fresh).expr (ns':=[]) (nv':=nv4) ((Wr.of_below (R:=R) (og:=none) HA.o).weak _) (Mv.refl _ _) (fun p hp=>by cases hp);rw[List.append_nil,List.append_assoc]at hk5;have HK5:=zq hk5;obtain⟨i0,hi,hz0,hz1,hz2⟩:=info_parts Tryz.infoInt;obtain⟨N,hN2⟩:=xq ((ks.roots ns.length).length);have HNN:=zq hN2
    have hNl:N<=134217728:=by rw[hN2,Ep];have:=Bn ks;omega
    have hOW:(w4.alloc (.cells #[.int .i64 ((q:Nat):Int)] 3)).ownsRow (R+1) 3 1 u3 N (ints (ks.roots ns.length)):=by rw[hN2];exact hk5.own
    have HOW:=zq hOW;have hRl:=HP4.o.rs.lt;clear n1 hq hfl4 hN hk5 hN2 hOW;go_wp2_with (at_builtin;refine wpList_append_lies _ rfl _ _ 41 rfl (R+1) 3 i0 (.int .i64 0) 1 8 Tryz.underlying41 hi hz0 hz1 hz2 rfl (by omega) u3 N (ints (ks.roots ns.length)) rfl HOW.o ⟨w4.heap.size,0,none⟩ 1 1 [.int .i64 ((q:Nat):Int)] rfl rfl (LexP.Qc _ _ _ _ rfl) (by simp[Value.oneCell']) (by omega) (by unfold maxLen;omega) (by omega) (by simp;omega) (w4.heap.size+1) (by simp) ?_);intro gg cap w6 hown6 hgrow hat hlt6
    have hat':u3.ownBlock=some gg\/gg=(w4.alloc (.cells #[.int .i64 ((q:Nat):Int)] 3)).heap.size:=by simpa using hat
    have q1:=HK5.o.push (k:=q) hown6 (by rw[HNN.o]) hat' (fun x hx=>(HP5.o.rs.own.lt x hx).2) (fun p hp x hx=>by
     obtain⟨ao,cp,e1,-,-,h3,-⟩:=HP5.o.rs.kids p hp
     exact(h3 x hx).2.1)
    have q2:=(HP5.o.rs.growK hgrow (fun x hx=>⟨by have:=(HK5.o.own.lt x hx).1;omega,(HK5.o.ap x hx).1,(HK5.o.ap x hx).2⟩)).1;have HL6:=zq q2.left;have HQ1:=zq q1;have HP6:Hid (PSt R tv L fin s nv ns w w6 a4 s4 nv4 (ns2++ns4)):=⟨q2,⟨hgrow.os.trans HP5.o.wr.os,hgrow.tape.trans HP5.o.wr.tape,hgrow.output.trans HP5.o.wr.output,Nat.le_trans HP5.o.wr.size hgrow.size,fun x hx h1 h2=>(hgrow.block x (Nat.lt_of_lt_of_le hx HP5.o.wr.size) (fun e=>by have:=HGE.o x e.symm;omega)).trans (HP5.o.wr.block x hx h1 h2)⟩,HP5.o.mv,HP5.o.few,HP5.o.opn,HP5.o.fresh⟩
    have hge6:w.heap.size<=gg:=by
     rcases hat' with h1|h1
     ·exact HGE.o gg h1
     ·rw[h1];exact HP5.o.wr.size
    clear hown6 hgrow hat hat' hlt6 q1 q2;go_wp2_with fail
    have hfin:PaO R tv L fin s nv ns w f r (.slice (some ⟨gg,0,none⟩) (N+1) cap) w6:=by
     refine⟨g,ks.snoc t,s4,a4,nv4,_,by omega,HRT.o,HP6.o,?_,?_,fun x hx=>by cases hx;exact hge6⟩
     ·rw[Gj]
      have e:ns.length+ks.size+t.size-1=q:=by rw[HQ.o,List.length_append,hl2]
      rw[e];exact HQ1.o
     ·rw[List.map_append,HFL.o,HFL4.o,Hv,List.length_append,hl2]
    have hlf:Xd L R w6<Xd L R wo:=by rw[HL6.o,HL2.o];omega
    exact⟨hfin,hlf⟩
   |false=>
    rw[if_neg (by rw[hm];decide)]at t2
    have HRR:Hid (r=some (.ok (ks,s2))):=by
     have h1:=HTU.o;unfold SynP.Qs at h1;rw[if_neg (by rw[hm];decide)]at h1;show _=_;rw[<-h1];rfl
    have HP3:=zq (HPS.o.step t2 t1 (Nat.le_refl _) rfl);have hk3:=HKA.o.expr (ns':=[]) (nv':=nv2) (t1.weak _) (Mv.refl _ _) (fun p hp=>by cases hp);rw[List.append_nil]at hk3;have HK3:=zq hk3;clear t1 t2 hm hk3;go_wp2_with fail;go_ret;rw[HRR.o];exact⟨_,a2,nv2,ns2,rfl,HP3.o,HK3.o.knew,HFL.o,HGE.o⟩
theorem Qk7 (fin f:Nat)(R:Nat)(tv:Value)(L:List Tok)(a:Nat)(s:SynP.St)(nv:Value)(ns:List Nv)(w:World)(h:RS w R tv L fin a s nv ns)(hk:SynP.Qb 1 s.ts=true):
  Calls Tryz.prog 251 #[.pointer (some ⟨R,0,none⟩)] w (RP (SynP.atom fin (f+1) s) R tv L fin s nv ns (ExQ ns) w):=by
 have H:=zq h;obtain⟨r,hr⟩:=xq (SynP.atom fin (f+1) s);rw[<-hr]
 have HR0:Hid (r=(SynP.Qd fin s).bind fun n s=>SynP.ret (.num n) s):=by show _=_;rw[hr];unfold SynP.atom;rw[if_pos hk]
 have hfew:=h.few;have hc:=Xv 1 [] s.ts (by decide);rw[hk]at hc;have HC:=zq hc;clear h hr hk hc;go_enter Tryz.func251,Tryz.ntmps251;go_wp2_with fail;refine(Qa R tv L fin a s nv ns _ H.o 0 1 [] (by omega) (by omega)).mono ?_;rintro e w1 ⟨rfl,b1⟩;rw[HC.o];have HP1:=zq ((PSt.refl H.o).step (s2:=s) (a2:=a) (w2:=w1) (by rw[List.append_nil];exact H.o.below b1) (Wr.of_below b1) (Nat.le_refl _) rfl);have HS1:=zq (H.o.below b1);clear b1;go_wp2_with fail;refine(Vh R tv L fin a s nv ns _ HS1.o).mono ?_;rintro e w2 hn;rcases hN:SynP.Qd fin s with- |(⟨fc,fk⟩|⟨m,s2⟩)
 ·rw[hN]at hn;exact hn.elim
 ·rw[hN]at hn
  obtain⟨rfl,n1⟩:=hn;refine⟨rfl,?_⟩
  have hre:r=some (.error (fc,fk)):=by rw[HR0.o,hN];rfl
  rw[hre];exact⟨rfl,HP1.o.wr.trans HP1.o.mv (n1.weak _)⟩
 rw[hN]at hn;obtain⟨v2,a2,rfl,n1,n2,n3,n4⟩:=hn;have hl2:=Yo hN
 have HRR:Hid (r=some (.ok (.num m,s2))):=by show _=_;rw[HR0.o,hN];rfl
 have HP2:=zq (HP1.o.step (by rw[List.append_nil];exact n1) n2 (by omega) hl2.2);obtain⟨⟨xs,x1,x2,x3⟩,-⟩:=n4;have HX1:=zq x1;have HX2:=zq x2;clear n1 n2 n3 hN x1 x2;go_wp2_with fail;refine(U9 _ xs _ HP2.o.rs.sg HX1.o (by omega)).mono ?_;rintro e w3 ⟨rfl,b1⟩;rw[HX2.o,R6];have HP3:=zq (HP2.o.step (HP2.o.rs.below b1) (Wr.of_below b1) (Nat.le_refl _) rfl);clear b1;go_wp2_with fail;refine(Y5 R tv L fin a2 s2 nv (ns++[]) _ HP3.o.rs ⟨1,SynP.decT m,[]⟩ _ KNew.nil (by rw[List.append_nil];omega)).mono ?_;rintro e w4 ⟨nv4,rfl,b1,b2,b3⟩;have HP4:=zq (HP3.o.putS b1 b2 b3 (by rw[List.append_nil];omega) (fun q hq=>by simp[Value.ownBlock]at hq));clear b1 b2 b3;go_wp2_with fail;go_ret;rw[HRR.o];exact⟨_,a2,nv4,_,rfl,HP4.o,by simp[SynP.Ex.size],by simp[SynP.Ex.flat]⟩
end Go.Proofs.YtgfmiladfeoldaaGreatDoor
