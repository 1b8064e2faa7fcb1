import Derived.Test.YtgfmiladfeoldaaGreatDoorPk18
set_option linter.unusedSimpArgs false
set_option linter.unusedVariables false
set_option maxRecDepth 100000
set_option maxHeartbeats 16000000
namespace Go.Proofs.YtgfmiladfeoldaaGreatDoor
open NatP LexP
theorem Ng {l:Qx}{n:SynP.Ln}(h:SynP.Yf l=.ok n):n.wf/\n.dp<=100/\n.size<=4096:=by
 cases hT:Toks 1 (Qz l) with
 |error e=>rw[SynP.Tc hT]at h;cases h
 |ok ts=>
  rcases hL:SynP.line ((Qz l).length+1) (10*ts.length+9) ⟨ts,0⟩ with- |(e|⟨m,s⟩)
  ·unfold SynP.Yf at h;rw[hT]at h;simp only[hL]at h;cases h
  ·rw[SynP.Tf hT hL]at h;cases h
  ·rw[SynP.Uo hT hL]at h
   split at h
   ·cases h
   ·cases h
    have:=SynP.Qgw hL (SynP.Qzw _ _ _ _ (Nat.le_refl _) hT);exact⟨this.1,this.2,by omega⟩
theorem Qv3 {l:Qx}{n:SynP.Ln}(h:SynP.Yf l=.ok n)(hl:l.length<=1048576):lnWt n+10*n.size<=67000000:=by
 have O:=Ng h
 cases hT:Toks 1 (Qz l) with
 |error e=>rw[SynP.Tc hT]at h;cases h
 |ok ts=>
  rcases hL:SynP.line ((Qz l).length+1) (10*ts.length+9) ⟨ts,0⟩ with- |(e|⟨m,s⟩)
  ·unfold SynP.Yf at h;rw[hT]at h;simp only[hL]at h;cases h
  ·rw[SynP.Tf hT hL]at h;cases h
  ·rw[SynP.Uo hT hL]at h
   split at h
   ·cases h
   ·cases h
    have E:=Qw3 hL;have I:=(W7 _ _ _ hT).1;have J:=Zp l;have H:=Qja _ _ _ _ (Nat.le_refl _) hT;rw[Yx]at H;simp only at E;have K:Lb ⟨ts,0⟩=(ts.map fun t=>t.2.1.length+1).sum:=rfl;omega
theorem Qy8 {n:SynP.Ln}{x:SynP.NI}(h:x∈SynP.nL n.flat):x.text.length<=lnWt n:=by
 rw[<-Qh7];unfold txWt;obtain⟨y,E,rfl⟩:=List.mem_map.1 h
 have:∀(l:List SynP.Node) (y:SynP.Node),y∈l->y.text.length<=(l.map fun n=>n.text.length).sum:=by
  intro l y E
  induction l with
  |nil=>cases E
  |cons a l ih=>
   rcases List.mem_cons.1 E with rfl|E
   ·simp
   ·have:=ih E
    simp only[List.map_cons,List.sum_cons];omega
 exact this _ _ E
structure LnFit (n:SynP.Ln):Prop where
 wf:n.wf
 size:n.size<=4096
 txt:∀x∈SynP.nL n.flat,x.text.length<=67108864
 prl:n.pr.length<=67108864
theorem He {l:Qx}{n:SynP.Ln}(h:SynP.Yf l=.ok n)(hl:l.length<=1048576):LnFit n:=by
 have E:=Ng h;have H:=Qv3 h hl;have I:=Qhk n;exact⟨E.1,E.2.2,fun x hx=>by have:=Qy8 hx;omega,by omega⟩
theorem Qv2 {n:SynP.Ln}(h:LnFit n)(hd:n.dp<=100):SynP.Yf n.pr=.ok n:=by
 rw[SynP.Qyb h.wf hd,if_neg (by have:=h.size;omega)]
theorem Ft {n:SynP.Ln}(h:n.wf):SynP.Xk SynP.WV (SynP.nL n.flat).length 0 [] (SynP.nL n.flat)=true:=by
 have:=SynP.Qxm SynP.Qbz n h;rw[show (SynP.nL n.flat).length=n.size by rw[SynP.nL,List.length_map,Rq]];exact this
def Qpx:Qx:=[112,114,105,110,116,32,45,65,39,94,50]
def Vx:SynP.Ln:=.cmd [112,114,105,110,116] (.cons (.neg (.pow (.turn (.name [65])) 2)) .nil)
theorem Qj1:Vx.pr=Qpx:=by
 have e:SynP.decT 2=[50]:=by kernel_rfl
 simp[Vx,SynP.Ln.pr,SynP.Exs.pr,SynP.Ex.pr,e,Qpx,SynP.par,SynP.Qp,SynP.Ex.op,SynP.Y3,SynP.Vv,SynP.Exs.prTail]
theorem Kj:SynP.nL Vx.flat=[⟨2,[65],[]⟩,⟨5,[],[0]⟩,⟨9,[50],[1]⟩,⟨4,[],[2]⟩,⟨12,[112,114,105,110,116],[3]⟩]:=by
 have e:SynP.decT 2=[50]:=by kernel_rfl
 simp[Vx,SynP.Ln.flat,SynP.Exs.flat,SynP.Ex.flat,SynP.Ex.size,SynP.Exs.roots,SynP.nL,SynP.Node.toI,e]
open Go.RowKit
def oneW (P:SynP.St->SynP.PR SynP.Ex)(ms:List UInt8)(s:SynP.St):SynP.PR SynP.Ex:=(P s).bind fun k s=>if ms.any (fun m=>SynP.Qk [m] s.ts) then none else SynP.ret k s
theorem Qjv {P:SynP.St->SynP.PR SynP.Ex}(HE:∀s e,P s≠some (.error e)){ms:List UInt8}{s:SynP.St}(h:oneW P ms s≠none):∃k s1,P s=some (.ok (k,s1))/\oneW P ms s=some (.ok (k,s1))/\ ∀m∈ms,SynP.Qk [m] s1.ts=false:=by
 unfold oneW at h ⊢;rcases hN:P s with- |(e|⟨k,s1⟩)
 ·rw[hN]at h;exact absurd rfl h
 ·exact absurd hN (HE _ _)
 ·rw[hN]at h
  simp only[SynP.PR.bind]at h ⊢;split at h
  ·exact absurd rfl h
  ·rename_i E
   refine⟨k,s1,rfl,by rw[if_neg E];rfl,fun m hm=> ?_⟩;simp only[List.any_eq_true,not_exists,not_and,Bool.not_eq_true]at E;exact E m hm
def facW (fin f:Nat)(P:SynP.St->SynP.PR SynP.Ex)(s:SynP.St):SynP.PR SynP.Ex:=(SynP.Xg f 0 s).bind fun n s=>(P s).bind fun k s=>if SynP.Qk [94] s.ts then (SynP.Qd fin s.adv).bind fun m s=>SynP.ret (SynP.negs n (.pow k m)) s else none
theorem Qhl (fin f:Nat)(P:SynP.St->SynP.PR SynP.Ex)(HE:∀s e,P s≠some (.error e))(IH:ExOk 251 P fin):ExOk 235 (fun s=>(P s).bind fun k s=>SynP.X9 f k s) fin:=by
 intro R tv L a s nv ns w h hf;have H:=zq h;have HIH:=zq IH;obtain⟨r,hr⟩:=xq ((P s).bind fun k s=>SynP.X9 f k s);simp only[<-hr]at hf ⊢;have HR0:Hid (r=(P s).bind fun k s=>SynP.X9 f k s):=hr;have HNE:=zq hf;have hfew:=h.few;clear h hr hf IH;go_enter Tryz.func235,Tryz.ntmps235;go_wp2_with fail;refine(HIH.o R tv L a s nv ns _ H.o (fun e=>HNE.o (by rw[HR0.o,e];rfl))).mono ?_;rintro e w1 hn;rcases hN:P s with- |(⟨fc,fk⟩|⟨k,s1⟩)
 ·rw[hN]at hn;exact hn.elim
 ·exact absurd hN (HE _ _)
 rw[hN]at hn;obtain⟨v1,a1,nv1,ns1,rfl,n1,n2⟩:=hn;have HST:Hid (TuO R tv L fin s nv ns w r v1 w1):=⟨f,k,s1,a1,nv1,ns1,by rw[HR0.o,hN];rfl,n1,n2⟩;clear n1 n2 hN;go_wp2_with fail;go_loopw [3] (fun kv wr=>TuO R tv L fin s nv ns w r kv wr) (fun _ wr=>Xd L R wr)
 case atStart=>exact HST.o
 clear HST
 case round=>
  obtain⟨g,k,s2,a2,nv2,ns2,htu,hps,hex⟩:=hrel;obtain⟨wo,rfl⟩:=xq wr
  cases g with
  |zero=>exact absurd htu.symm HNE.o
  |succ g=>
   have hlen:=hex.len;have hsp:=Y6 k;obtain⟨rfl,hfl⟩:=hex;obtain⟨p,hp⟩:=xq (ns.length+k.size-1);rw[<-hp];have HP:=zq hp;have HPS:=zq hps;have HFL:=zq hfl;have HL2:=zq hps.rs.left;have HTU:=zq htu;have hfw:=hps.few;rw[List.length_append]at hfw;clear hp hps hfl htu;go_wp2_with fail;refine(Yv R tv L fin a2 s2 nv2 (ns++ns2) _ HPS.o.rs [39]).mono ?_;rintro e w3 ⟨rfl,t1,t2⟩
   cases hm:SynP.Qk [39] s2.ts with
   |true=>
    rw[if_pos hm]at t2;have hml:=Z9 hm
    have HRR:Hid (SynP.X9 g (.turn k) s2.adv=r):=by
     have h1:=HTU.o;unfold SynP.X9 at h1;rw[if_pos hm]at h1;exact h1
    have HP3:=zq (HPS.o.step t2 t1 (by omega) rfl);have hkn:=(KNew.fresh t2 [p]).resolve_right (by simp);have HKN:=zq hkn;have HA:=zq (Qq w3 (.cells #[.int .i64 ((p:Nat):Int)] 3));have HP4:=zq (HP3.o.step (HP3.o.rs.below HA.o) (Wr.of_below HA.o) (Nat.le_refl _) rfl);clear t1 t2 hm hkn;go_wp2_with fail;refine(Y5 R tv L fin (a2+1) s2.adv nv2 (ns++ns2) _ HP4.o.rs ⟨5,[],[p]⟩ _ HKN.o (by rw[List.length_append];omega)).mono ?_;rintro e w5 ⟨nv5,rfl,b1,b2,b3⟩;have HP5:=zq (HP4.o.putS b1 b2 b3 (by rw[List.length_append];omega) (fun q hq=>by cases hq;exact HP3.o.wr.size));have HL5:=zq b1.left;obtain⟨nn,hnn⟩:=xq ((ns++ns2).length);rw[<-hnn];have HNN:=zq hnn;clear b1 b2 b3 hnn;go_wp2_with fail
    have hfin:TuO R tv L fin s nv ns w r (.int .i64 ((nn:Nat):Int)) w5:=by
     refine⟨g,.turn k,s2.adv,a2+1,nv5,_,HRR.o,HP5.o,?_,?_⟩
     ·rw[HNN.o,List.length_append,hlen];rfl
     ·rw[List.map_append,HFL.o,HP.o];rfl
    have hlf:Xd L R w5<Xd L R wo:=by rw[HL5.o,HL2.o];omega
    exact⟨hfin,hlf⟩
   |false=>
    rw[if_neg (by rw[hm];decide)]at t2
    have HRR:Hid (r=some (.ok (k,s2))):=by
     have h1:=HTU.o;unfold SynP.X9 at h1;rw[if_neg (by rw[hm];decide)]at h1;show _=_;rw[<-h1];rfl
    have HP3:=zq (HPS.o.step t2 t1 (Nat.le_refl _) rfl);clear t1 t2 hm;go_wp2_with fail;go_ret;rw[HRR.o];exact⟨_,a2,nv2,ns2,rfl,HP3.o,by rw[HP.o];rfl,HFL.o⟩
theorem Qwf (fin f:Nat)(P:SynP.St->SynP.PR SynP.Ex)(HE:∀s e,P s≠some (.error e))(IH:ExOk 235 P fin):ExOk 208 (facW fin f P) fin:=by
 intro R tv L a s nv ns w h hf;have H:=zq h;have HIH:=zq IH;obtain⟨r,hr⟩:=xq (facW fin f P s);rw[<-hr]at hf ⊢;obtain⟨r1,hr1⟩:=xq (SynP.Xg f 0 s)
 have HR0:Hid (r=r1.bind fun n s=>(P s).bind fun k s=>if SynP.Qk [94] s.ts then (SynP.Qd fin s.adv).bind fun m s=>SynP.ret (SynP.negs n (.pow k m)) s else none):=by show _=_;rw[hr,hr1];rfl
 have HNE:=zq hf;have HR1N:Hid (r1≠none):=fun e=>HNE.o (by rw[HR0.o,e];rfl);have hfew:=h.few;have hfewS:=h.short
 have hts:s.ts.length<=67108864:=by rw[<-h.drop,List.length_drop];omega
 have HST:Hid (MiO R tv L fin s nv ns w r1 (.int .i64 0) w):=⟨f,0,s,a,hr1.symm,rfl,h,Wr.refl _ _ _,by omega,rfl⟩;clear h hr hf IH hr1;go_enter Tryz.func208,Tryz.ntmps208;go_wp2_with fail;go_loopw [3] (fun nn wr=>MiO R tv L fin s nv ns w r1 nn wr) (fun _ wr=>Xd L R wr)
 case atStart=>exact HST.o
 clear HST
 case round=>
  obtain⟨g,n,s1,a1,hmi,rfl,hrs,hwr,hns,hop⟩:=hrel;obtain⟨wo,rfl⟩:=xq wr
  cases g with
  |zero=>exact absurd hmi.symm HR1N.o
  |succ g=>
   have HS1:=zq hrs;have HW1:=zq hwr;have HMI:=zq hmi;have HOP:=zq hop;have HL1:=zq hrs.left;clear hmi hrs hwr hop;go_wp2_with fail;refine(Yv R tv L fin a1 s1 nv ns _ HS1.o [45]).mono ?_;rintro e w3 ⟨rfl,t1,t2⟩
   cases hm:SynP.Qk [45] s1.ts with
   |true=>
    rw[if_pos hm]at t2;have hml:=Z9 hm
    have HRR:Hid (SynP.Xg g (n+1) s1.adv=r1):=by
     have h1:=HMI.o;unfold SynP.Xg at h1;rw[if_pos hm]at h1;exact h1
    have HT1:=zq (RS.step HW1.o t1);have HT2:=zq t2;have HL3:=zq t2.left;clear t1 t2 hm;go_wp2_with fail;have hfin:MiO R tv L fin s nv ns w r1 (.int .i64 ((n:Int)+1)) w3:=⟨g,n+1,s1.adv,a1+1,HRR.o,by congr 1,HT2.o,HT1.o,by omega,HOP.o⟩
    have hlf:Xd L R w3<Xd L R wo:=by rw[HL3.o,HL1.o];omega
    exact⟨hfin,hlf⟩
   |false=>
    rw[if_neg (by rw[hm];decide)]at t2
    have HR2:Hid (r=(P s1).bind fun k s=>if SynP.Qk [94] s.ts then (SynP.Qd fin s.adv).bind fun m s=>SynP.ret (SynP.negs n (.pow k m)) s else none):=by
     have h1:=HMI.o;unfold SynP.Xg at h1;rw[if_neg (by rw[hm];decide)]at h1;show _=_;rw[HR0.o,<-h1];rfl
    have HP2:=zq ((PSt.refl H.o).step (s2:=s1) (w2:=w3) (a2:=a1) (by rw[List.append_nil];exact t2) (RS.step HW1.o t1) (by omega) HOP.o);have HT2:=zq t2;clear t1 t2 hm;go_wp2_with fail;refine(HIH.o R tv L a1 s1 nv ns _ HT2.o (fun e=>HNE.o (by rw[HR2.o,e];rfl))).mono ?_;rintro e w4 hn;rcases hN:P s1 with- |(⟨fc,fk⟩|⟨k,s4⟩)
    ·rw[hN]at hn;exact hn.elim
    ·exact absurd hN (HE _ _)
    rw[hN]at hn;obtain⟨v4,a4,nv4,ns4,rfl,n1,n2⟩:=hn
    have HR4:Hid (r=if SynP.Qk [94] s4.ts then (SynP.Qd fin s4.adv).bind fun m s=>SynP.ret (SynP.negs n (.pow k m)) s else none):=by show _=_;rw[HR2.o,hN];rfl
    have hfw4:=n1.few;rw[List.length_append]at hfw4
    have HP4:Hid (PSt R tv L fin s nv ns w w4 a4 s4 nv4 ns4):=by
     have:=HP2.o.trans (by rw[List.append_nil];exact n1);rw[List.nil_append]at this;exact this
    have hlen:=n2.len;have hsp:=Y6 k;obtain⟨rfl,hfl⟩:=n2;obtain⟨p,hp⟩:=xq (ns.length+k.size-1);rw[<-hp];have HP:=zq hp;have HFL:=zq hfl;clear n1 hp hfl hN;go_wp2_with fail;refine(Yv R tv L fin a4 s4 nv4 (ns++ns4) _ HP4.o.rs [94]).mono ?_;rintro e w5 ⟨rfl,t1,t2⟩
    cases hm:SynP.Qk [94] s4.ts with
    |true=>
     rw[if_pos hm]at t2;have hml:=Z9 hm
     have HR5:Hid (r=(SynP.Qd fin s4.adv).bind fun m s=>SynP.ret (SynP.negs n (.pow k m)) s):=by show _=_;rw[HR4.o,if_pos hm]
     have HP5:=zq (HP4.o.step t2 t1 (by omega) rfl);clear t1 t2 hm;go_wp2_with fail;refine(Vh R tv L fin (a4+1) s4.adv nv4 (ns++ns4) _ HP5.o.rs).mono ?_;rintro e w6 hn;rcases hN:SynP.Qd fin s4.adv with- |(⟨fc,fk⟩|⟨m,s6⟩)
     ·rw[hN]at hn;exact hn.elim
     ·rw[hN]at hn
      obtain⟨rfl,n1⟩:=hn;refine⟨rfl,?_⟩
      have hre:r=some (.error (fc,fk)):=by rw[HR5.o,hN];rfl
      rw[hre];exact⟨rfl,HP5.o.wr.trans HP5.o.mv (n1.weak _)⟩
     rw[hN]at hn;obtain⟨v6,a6,rfl,n1,n2,n3,n4⟩:=hn;have hl6:=Yo hN
     have HR6:Hid (r=some (.ok (SynP.negs n (.pow k m),s6))):=by show _=_;rw[HR5.o,hN];rfl
     have HP6:=zq (HP5.o.step n1 n2 (by omega) hl6.2);have HN6:=zq n4;obtain⟨⟨xs,x1,x2,x3⟩,-⟩:=n4;have HX1:=zq x1;have HX2:=zq x2;clear n1 n2 n3 hN x1 x2;go_wp2_with fail;refine(U9 _ xs _ HP6.o.rs.sg HX1.o (by omega)).mono ?_;rintro e w7 ⟨rfl,b1⟩;rw[HX2.o,R6];have HP7:=zq (HP6.o.step (HP6.o.rs.below b1) (Wr.of_below b1) (Nat.le_refl _) rfl);have HKN:=zq ((KNew.fresh HP7.o.rs [p]).resolve_right (by simp));have HA:=zq (Qq w7 (.cells #[.int .i64 ((p:Nat):Int)] 3));have HP8:=zq (HP7.o.step (HP7.o.rs.below HA.o) (Wr.of_below HA.o) (Nat.le_refl _) rfl);clear b1;go_wp2_with fail;refine(Y5 R tv L fin a6 s6 nv4 (ns++ns4) _ HP8.o.rs ⟨9,SynP.decT m,[p]⟩ _ HKN.o (by rw[List.length_append];omega)).mono ?_;rintro e w9 ⟨nv9,rfl,b1,b2,b3⟩;have HP9:=zq (HP8.o.putS b1 b2 b3 (by rw[List.length_append];omega) (fun q hq=>by cases hq;exact HP7.o.wr.size));obtain⟨nn,hnn⟩:=xq ((ns++ns4).length);rw[<-hnn];have HNN:=zq hnn
     have HST2:Hid (NgO R tv L fin s nv ns w n s6 (SynP.negs n (.pow k m)) (.int .i64 ((nn:Nat):Int)) (.int .i64 0) w9):=by
      refine⟨0,.pow k m,a6,nv9,_,rfl,Nat.zero_le _,rfl,HP9.o,⟨?_,?_⟩,?_⟩
      ·rw[HNN.o,List.length_append,hlen];rfl
      ·rw[List.map_append,HFL.o,HP.o];rfl
      ·simp only[List.length_append,List.length_singleton];omega
     clear b1 b2 b3 hnn;go_wp2_with fail;go_loopw [4,21] (fun kv iv wr=>NgO R tv L fin s nv ns w n s6 (SynP.negs n (.pow k m)) kv iv wr) (fun _ iv _=>(n-intOf iv).toNat)
     case atStart=>exact HST2.o
     clear HST2
     case round=>
      obtain⟨i,q,a10,nv10,ns10,rfl,hin,hng,hps,hex,hfw⟩:=hrel;have hql:=hex.len;have hqp:=Y6 q;obtain⟨rfl,hqf⟩:=hex;obtain⟨pq,hpq⟩:=xq (ns.length+q.size-1);rw[<-hpq];have HPQ:=zq hpq;have HQF:=zq hqf;have HP10:=zq hps;have HNG:=zq hng;rw[List.length_append]at hfw;clear hpq hqf hps hng;by_cases hlt:i<n
      ·have HKN2:=zq ((KNew.fresh HP10.o.rs [pq]).resolve_right (by simp))
       have HA2:=zq (Qq wr (.cells #[.int .i64 ((pq:Nat):Int)] 3));have HP11:=zq (HP10.o.step (HP10.o.rs.below HA2.o) (Wr.of_below HA2.o) (Nat.le_refl _) rfl);go_wp2_with fail;refine(Y5 R tv L fin a10 s6 nv10 (ns++ns10) _ HP11.o.rs ⟨4,[],[pq]⟩ _ HKN2.o (by rw[List.length_append];omega)).mono ?_;rintro e w12 ⟨nv12,rfl,b1,b2,b3⟩;have HP12:=zq (HP11.o.putS b1 b2 b3 (by rw[List.length_append];omega) (fun q hq=>by cases hq;exact HP10.o.wr.size));obtain⟨n2,hn2⟩:=xq ((ns++ns10).length);rw[<-hn2];have HN2:=zq hn2;clear b1 b2 b3 hn2;go_wp2_with fail
       have hfin:NgO R tv L fin s nv ns w n s6 (SynP.negs n (.pow k m)) (.int .i64 ((n2:Nat):Int)) (.int .i64 ((i:Int)+1)) w12:=by
        refine⟨i+1,.neg q,a10,nv12,_,by congr 1,by omega,?_,HP12.o,⟨?_,?_⟩,?_⟩
        ·rw[<-HNG.o,show n-i=(n-(i+1))+1 from by omega];rfl
        ·rw[HN2.o,List.length_append,hql];rfl
        ·rw[List.map_append,HQF.o,HPQ.o];rfl
        ·simp only[List.length_append,List.length_singleton];omega
       exact⟨hfin,by simp[intOf]<;>omega⟩
      ·have hie:n-i=0:=by omega
       have HQE:Hid (q=(SynP.negs n (.pow k m))):=by
        have:=HNG.o;rw[hie]at this;exact this
       clear hie;go_wp2_with fail;go_ret;rw[HR6.o]
       exact⟨_,a10,nv10,ns10,rfl,HP10.o,by rw[<-HQE.o,HPQ.o];rfl,by rw[<-HQE.o];exact HQF.o⟩
    |false=>exact absurd (by rw[HR4.o,if_neg (by rw[hm];decide)]) HNE.o
theorem Qho (fin:Nat)(P:SynP.St->SynP.PR SynP.Ex)(HE:∀s e,P s≠some (.error e))(IH:ExOk 208 P fin):ExOk 160 (oneW P [42]) fin:=by
 intro R tv L a s nv ns w h hf;obtain⟨k,s1,hN,hr,hm⟩:=Qjv HE hf;rw[hr];have HC:=IH R tv L a s nv ns w h (by rw[hN];simp);rw[hN]at HC;replace HC:=zq HC;have HM:=zq hm;clear h hf IH HE hN hr hm;go_enter Tryz.func160,Tryz.ntmps160;go_wp2_with fail;refine HC.o.mono ?_;rintro e w1 ⟨v1,a1,nv1,ns1,rfl,n1,rfl,hfl⟩;obtain⟨p,hp⟩:=xq (ns.length+k.size-1);rw[<-hp];have HP:=zq hp;have HPS:=zq n1;have HFL:=zq hfl;clear hp n1 hfl HC;go_wp2_with fail;go_loopw [3] (fun kv wr=>kv=.int .i64 ((p:Nat):Int)/\wr=w1) (fun _ _=>0)
 case atStart=>exact⟨rfl,rfl⟩
 case round=>
  obtain⟨rfl,hw⟩:=hrel;subst hw;go_wp2_with fail;refine(Yv R tv L fin a1 s1 nv1 (ns++ns1) _ HPS.o.rs [42]).mono ?_;rintro e w3 ⟨he,t1,t2⟩;rw[HM.o 42 (by simp)]at he t2;subst he;rw[if_neg (by decide)]at t2;replace HPS:=zq (HPS.o.step t2 t1 (Nat.le_refl _) rfl);clear t1 t2;go_wp2_with fail;go_ret;exact⟨_,a1,nv1,ns1,rfl,HPS.o,by rw[HP.o];rfl,HFL.o⟩
theorem Qm8 (fin:Nat)(P:SynP.St->SynP.PR SynP.Ex)(HE:∀s e,P s≠some (.error e))(IH:ExOk 160 P fin):ExOk 97 (oneW P [43,45]) fin:=by
 intro R tv L a s nv ns w h hf;obtain⟨k,s1,hN,hr,hm⟩:=Qjv HE hf;rw[hr];have HC:=IH R tv L a s nv ns w h (by rw[hN];simp);rw[hN]at HC;replace HC:=zq HC;have HM:=zq hm;clear h hf IH HE hN hr hm;go_enter Tryz.func97,Tryz.ntmps97;go_wp2_with fail;refine HC.o.mono ?_;rintro e w1 ⟨v1,a1,nv1,ns1,rfl,n1,rfl,hfl⟩;obtain⟨p,hp⟩:=xq (ns.length+k.size-1);rw[<-hp];have HP:=zq hp;have HPS:=zq n1;have HFL:=zq hfl;clear hp n1 hfl HC;go_wp2_with fail;go_loopw [3,4] (fun kv _ wr=>kv=.int .i64 ((p:Nat):Int)/\wr=w1) (fun _ _ _=>0)
 case atStart=>exact⟨rfl,rfl⟩
 case round=>
  obtain⟨rfl,hw⟩:=hrel;subst hw;go_wp2_with fail;refine(Yv R tv L fin a1 s1 nv1 (ns++ns1) _ HPS.o.rs [43]).mono ?_;rintro e w3 ⟨he,t1,t2⟩;rw[HM.o 43 (by simp)]at he t2;subst he;rw[if_neg (by decide)]at t2;replace HPS:=zq (HPS.o.step t2 t1 (Nat.le_refl _) rfl);clear t1 t2;go_wp2_with fail;refine(Yv R tv L fin a1 s1 nv1 (ns++ns1) _ HPS.o.rs [45]).mono ?_;rintro e w4 ⟨he,t1,t2⟩;rw[HM.o 45 (by simp)]at he t2;subst he;rw[if_neg (by decide)]at t2;replace HPS:=zq (HPS.o.step t2 t1 (Nat.le_refl _) rfl);clear t1 t2;go_wp2_with fail;go_ret;exact⟨_,a1,nv1,ns1,rfl,HPS.o,by rw[HP.o];rfl,HFL.o⟩
end Go.Proofs.YtgfmiladfeoldaaGreatDoor
