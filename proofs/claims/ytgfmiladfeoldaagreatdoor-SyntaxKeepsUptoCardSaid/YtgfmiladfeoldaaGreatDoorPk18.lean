import Derived.Test.YtgfmiladfeoldaaGreatDoorPk15
import Derived.Test.YtgfmiladfeoldaaGreatDoorPk16
import Derived.Test.YtgfmiladfeoldaaGreatDoorPk12
import Derived.Test.YtgfmiladfeoldaaGreatDoorPk13
import Derived.Test.YtgfmiladfeoldaaGreatDoorPk17
set_option linter.unusedSimpArgs false
set_option linter.unusedVariables false
set_option maxRecDepth 100000
set_option maxHeartbeats 16000000
namespace Go.Proofs.YtgfmiladfeoldaaGreatDoor
open Go.RowKit NatP LexP
theorem PSt.of0 {R:Nat}{tv:Value}{L:List Tok}{fin a a2:Nat}{s s2:SynP.St}{nv:Value}{ns:List Nv}{w w2:World}(h:RS w R tv L fin a s nv ns)(k:RS w2 R tv L fin a2 s2 nv ns)(hw:Wr R none w w2)(hl:s2.ts.length<=s.ts.length)(ho:s2.opened=s.opened):PSt R tv L fin s nv ns w w2 a2 s2 nv []:=
 (PSt.refl h).step (by rw[List.append_nil];exact k) hw hl ho
theorem PSt.wrap {R:Nat}{tv:Value}{L:List Tok}{fin a a3 a4:Nat}{s s2 s3 s4:SynP.St}{nv nv3:Value}{ns ns3:List Nv}{w w2 w3 w4:World}(h:RS w R tv L fin a s nv ns)(hw:Wr R none w w2)(hl2:s2.ts.length<=s.ts.length)(ho2:s2.opened=s.opened+1)
  (m:PSt R tv L fin s2 nv ns w2 w3 a3 s3 nv3 ns3) (k4:RS w4 R tv L fin a4 s4 nv3 (ns++ns3)) (hw4:Wr R none w3 w4) (hl4:s4.ts.length<=s3.ts.length) (ho4:s4.opened=s3.opened-1):PSt R tv L fin s nv ns w w4 a4 s4 nv3 ns3:=
 ⟨k4,((hw.weak _).trans (Mv.refl _ _) m.wr).trans (Mv.trans (R:=R) (w':=w2) (Mv.refl _ _) hw.size m.mv) (hw4.weak _),Mv.trans (R:=R) (w':=w2) (Mv.refl _ _) hw.size m.mv,by have:=m.few;omega,by rw[ho4,m.opn,ho2];omega,fun p hp q hq=>Nat.le_trans hw.size (m.fresh p hp q hq)⟩
theorem Ha {fin:Nat}{s s':SynP.St}{u:Unit}(h:SynP.Zu fin s=some (.ok (u,s'))):s'.opened=s.opened+1/\s'.ts.length<=s.ts.length:=by
 unfold SynP.Zu at h;split at h
 ·exact(SynP.Xu h).elim
 ·have e:=SynP.Qh h
  cases e
  exact⟨rfl,Jy s⟩
theorem Nn {fin:Nat}{s s':SynP.St}{u:Unit}(h:SynP.X6 fin s=some (.ok (u,s'))):s'.opened=s.opened-1/\s'.ts.length<=s.ts.length:=by
 unfold SynP.X6 at h;obtain⟨u,s1,E,H⟩:=SynP.Qv h;have e:=SynP.Qh H
 cases e
 exact⟨by show s1.opened-1=_;rw[(SynP.Yu E).1],(SynP.Yu E).2⟩
theorem Jn {fin:Nat}{s s':SynP.St}{x:Qx}(h:SynP.name fin s=some (.ok (x,s'))):s'=s.adv/\SynP.Qb 2 s.ts=true:=by
 unfold SynP.name at h;split at h
 ·have e:=SynP.Qh h
  cases e
  rename_i E;exact⟨rfl,E⟩
 ·exact(SynP.Xu h).elim
theorem Fk (fin f:Nat)(R:Nat)(tv:Value)(L:List Tok)(a:Nat)(s:SynP.St)(nv:Value)(ns:List Nv)(w:World)(h:RS w R tv L fin a s nv ns)(hk1:SynP.Qb 1 s.ts=false)(hk2:SynP.Qb 2 s.ts=true)(hm:SynP.Qk [40] s.ts.tail=false)(hne:SynP.atom fin (f+1) s≠none):
  Calls Tryz.prog 251 #[.pointer (some ⟨R,0,none⟩)] w (RP (SynP.atom fin (f+1) s) R tv L fin s nv ns (ExQ ns) w):=by
 have HS0:=zq h;have HW0:Hid (Wr R none w w):=Wr.refl _ _ _;obtain⟨r,hr⟩:=xq (SynP.atom fin (f+1) s);rw[<-hr]at hne ⊢;have HNE:=zq hne
 have HR0:Hid (r=(SynP.name fin s).bind fun x s=>SynP.ret (.name x) s):=by show _=_;rw[hr];unfold SynP.atom;simp only[hk1,hk2,hm,Bool.and_false,Bool.false_eq_true,if_false,if_true];try rfl
 have hfew:=h.few;have hsh:=h.short
 have hLn:s.ts.length<=L.length:=by rw[<-h.drop,List.length_drop];omega
 have C1:=zq (Xv 1 [] s.ts (by decide));have C2:=zq (Xv 2 [] s.ts (by decide));have C3:=zq (Zt [40] s.ts);rw[hk1]at C1;rw[hk2]at C2;rw[hm]at C3;clear h hr hne hk1 hk2 hm;go_enter Tryz.func251,Tryz.ntmps251;go_wp2_with fail;refine(Qa R tv L fin a s nv ns _ HS0.o 0 1 [] (by omega) (by omega)).mono ?_;rintro e w1 ⟨rfl,b1⟩;rw[C1.o];have HS1:=zq (HS0.o.below b1);have HW1:=zq (RS.step HW0.o (Wr.of_below b1));clear b1;go_wp2_with fail;refine(Qa R tv L fin a s nv ns _ HS1.o 0 2 [] (by omega) (by omega)).mono ?_;rintro e w2 ⟨rfl,b1⟩;rw[C2.o];have HS2:=zq (HS1.o.below b1);have HW2:=zq (RS.step HW1.o (Wr.of_below b1));clear b1;go_wp2_with fail;refine(Qa R tv L fin a s nv ns _ HS2.o 1 3 [40] (by omega) (by omega)).mono ?_;rintro e w3 ⟨rfl,b1⟩;rw[C3.o];have HS3:=zq (HS2.o.below b1);have HW3:=zq (RS.step HW2.o (Wr.of_below b1));clear b1;go_wp2_with fail;refine(Qa R tv L fin a s nv ns _ HS3.o 0 2 [] (by omega) (by omega)).mono ?_;rintro e w4 ⟨rfl,b1⟩;rw[C2.o];have HS4:=zq (HS3.o.below b1);have HW4:=zq (RS.step HW3.o (Wr.of_below b1));clear b1;go_wp2_with fail;refine(Pc R tv L fin a s nv ns _ HS4.o).mono ?_;rintro e w5 hn
 rcases hN:SynP.name fin s with- |(⟨fc,fk⟩|⟨x,s2⟩)<;>rw[hN]at hn
 ·exact hn.elim
 ·obtain⟨rfl,n1⟩:=hn
  refine⟨rfl,?_⟩
  have hre:r=some (.error (fc,fk)):=by rw[HR0.o];simp only[hN,SynP.PR.bind];try rfl
  rw[hre];exact⟨rfl,(HW4.o.weak _).trans (Mv.refl _ _) (n1.weak _)⟩
 obtain⟨v2,a2,rfl,n1,n2,n3,rfl⟩:=hn;obtain⟨rfl,-⟩:=Jn hN;have HN:=zq hN;have HS5:=zq n1;have HW5:=zq (RS.step HW4.o n2);clear n1 n2 hN;have hadv:s.adv.ts.length+1=s.ts.length:=Sh (Jn HN.o).2;have HP:=zq (PSt.of0 HS0.o HS5.o HW5.o (Jy s) rfl);go_wp2_with fail;refine(Y5 R tv L fin a2 s.adv nv (ns++[]) _ HP.o.rs ⟨2,x,[]⟩ _ KNew.nil (by have:=HP.o.rs.few;rw[List.append_nil];omega)).mono ?_;rintro e wq ⟨nvq,rfl,b1,b2,b3⟩;have HQ:=zq (HP.o.putS b1 b2 b3 (by rw[List.append_nil];omega) (fun q hq=>by simp[Value.ownBlock]at hq));clear b1 b2 b3
 have HRR:Hid (r=some (.ok (.name x,s.adv))):=by show _=_;rw[HR0.o,HN.o];rfl
 go_wp2_with fail;go_ret;rw[HRR.o];exact⟨_,a2,nvq,_,rfl,HQ.o,by simp[SynP.Ex.size],by simp[SynP.Ex.flat]⟩
theorem Qj6 (fin f:Nat)(IH:PaOk (SynP.X7 fin f) fin)(R:Nat)(tv:Value)(L:List Tok)(a:Nat)(s:SynP.St)(nv:Value)(ns:List Nv)(w:World)(h:RS w R tv L fin a s nv ns)(hk1:SynP.Qb 1 s.ts=false)(hk2:SynP.Qb 2 s.ts=true)(hm:SynP.Qk [40] s.ts.tail=true)(hne:SynP.atom fin (f+1) s≠none):
  Calls Tryz.prog 251 #[.pointer (some ⟨R,0,none⟩)] w (RP (SynP.atom fin (f+1) s) R tv L fin s nv ns (ExQ ns) w):=by
 have HS0:=zq h;have HW0:Hid (Wr R none w w):=Wr.refl _ _ _;obtain⟨r,hr⟩:=xq (SynP.atom fin (f+1) s);rw[<-hr]at hne ⊢;have HNE:=zq hne
 have HR0:Hid (r=(SynP.name fin s).bind fun x s=>(SynP.Zu fin s).bind fun _ s=>(SynP.X7 fin f s).bind fun ks s=>(SynP.X6 fin s).bind fun _ s=>SynP.ret (.call x ks) s):=by show _=_;rw[hr];unfold SynP.atom;simp only[hk1,hk2,hm,Bool.and_true,Bool.false_eq_true,if_false,if_true];try rfl
 have hfew:=h.few;have hsh:=h.short
 have hLn:s.ts.length<=L.length:=by rw[<-h.drop,List.length_drop];omega
 have C1:=zq (Xv 1 [] s.ts (by decide));have C2:=zq (Xv 2 [] s.ts (by decide));have C3:=zq (Zt [40] s.ts);have HM:=zq hm;have HIH:=zq IH;rw[hk1]at C1;rw[hk2]at C2;rw[hm]at C3;clear h hr hne hk1 hk2 hm IH;go_enter Tryz.func251,Tryz.ntmps251;go_wp2_with fail;refine(Qa R tv L fin a s nv ns _ HS0.o 0 1 [] (by omega) (by omega)).mono ?_;rintro e w1 ⟨rfl,b1⟩;rw[C1.o];have HS1:=zq (HS0.o.below b1);have HW1:=zq (RS.step HW0.o (Wr.of_below b1));clear b1;go_wp2_with fail;refine(Qa R tv L fin a s nv ns _ HS1.o 0 2 [] (by omega) (by omega)).mono ?_;rintro e w2 ⟨rfl,b1⟩;rw[C2.o];have HS2:=zq (HS1.o.below b1);have HW2:=zq (RS.step HW1.o (Wr.of_below b1));clear b1;go_wp2_with fail;refine(Qa R tv L fin a s nv ns _ HS2.o 1 3 [40] (by omega) (by omega)).mono ?_;rintro e w3 ⟨rfl,b1⟩;rw[C3.o];have HS3:=zq (HS2.o.below b1);have HW3:=zq (RS.step HW2.o (Wr.of_below b1));clear b1;go_wp2_with fail;refine(Pc R tv L fin a s nv ns _ HS3.o).mono ?_;rintro e w4 hn
 rcases hN:SynP.name fin s with- |(⟨fc,fk⟩|⟨x,s2⟩)<;>rw[hN]at hn
 ·exact hn.elim
 ·obtain⟨rfl,n1⟩:=hn
  refine⟨rfl,?_⟩
  have hre:r=some (.error (fc,fk)):=by rw[HR0.o];simp only[hN,SynP.PR.bind];try rfl
  rw[hre];exact⟨rfl,(HW3.o.weak _).trans (Mv.refl _ _) (n1.weak _)⟩
 obtain⟨v2,a2,rfl,n1,n2,n3,rfl⟩:=hn;obtain⟨rfl,-⟩:=Jn hN;have HN:=zq hN;have HS4:=zq n1;have HW4:=zq (RS.step HW3.o n2);clear n1 n2 hN;go_wp2_with fail;refine(H7 R tv L fin a2 s.adv nv ns _ HS4.o (Ur HM.o)).mono ?_;rintro e w5 hn
 rcases hO:SynP.Zu fin s.adv with- |(⟨fc,fk⟩|⟨u,s3⟩)<;>rw[hO]at hn
 ·exact hn.elim
 ·obtain⟨rfl,n1⟩:=hn
  refine⟨rfl,?_⟩
  have hre:r=some (.error (fc,fk)):=by rw[HR0.o];simp only[HN.o,hO,SynP.PR.bind];try rfl
  rw[hre];exact⟨rfl,(HW4.o.weak _).trans (Mv.refl _ _) (n1.weak _)⟩
 obtain⟨v3,a3,rfl,n1,n2,n3,rfl⟩:=hn;have hok:=Ha hO;have HO:=zq hO;have HS5:=zq n1;have HW5:=zq (RS.step HW4.o n2);clear n1 n2 n3 hO
 have HR1:Hid (r=(SynP.X7 fin f s3).bind fun ks s=>(SynP.X6 fin s).bind fun _ s=>SynP.ret (.call x ks) s):=by show _=_;rw[HR0.o];simp only[HN.o,HO.o,SynP.PR.bind]
 go_wp2_with fail;refine(HIH.o R tv L a3 s3 nv ns _ HS5.o (fun e=>HNE.o (by rw[HR1.o,e];rfl))).mono ?_;rintro e w6 hn
 rcases hP:SynP.X7 fin f s3 with- |(⟨fc,fk⟩|⟨ks,s4⟩)<;>rw[hP]at hn
 ·exact hn.elim
 ·obtain⟨rfl,n1⟩:=hn
  refine⟨rfl,?_⟩
  have hre:r=some (.error (fc,fk)):=by rw[HR1.o,hP];rfl
  rw[hre];exact⟨rfl,(HW5.o.weak _).trans (Mv.refl _ _) n1⟩
 obtain⟨v4,a4,nv4,ns4,rfl,n1,n2,n3⟩:=hn;have HM6:=zq n1;have HK6:=zq n2;have HF6:=zq n3
 have HR2:Hid (r=(SynP.X6 fin s4).bind fun _ s=>SynP.ret (.call x ks) s):=by show _=_;rw[HR1.o,hP];rfl
 have hop:0<s4.opened:=by rw[n1.opn,hok.1];omega
 have hfw:=n1.few;clear n1 n2 n3 hP;go_wp2_with fail;refine(H8 R tv L fin a4 s4 nv4 (ns++ns4) _ HM6.o.rs hop).mono ?_;rintro e w7 hn
 rcases hC:SynP.X6 fin s4 with- |(⟨fc,fk⟩|⟨u,s5⟩)<;>rw[hC]at hn
 ·exact hn.elim
 ·obtain⟨rfl,n1⟩:=hn
  refine⟨rfl,?_⟩
  have hre:r=some (.error (fc,fk)):=by rw[HR2.o,hC];rfl
  rw[hre];exact⟨rfl,((HW5.o.weak _).trans (Mv.refl _ _) HM6.o.wr).trans (Mv.trans (R:=R) (w':=w5) (Mv.refl _ _) HW5.o.size HM6.o.mv) (n1.weak _)⟩
 obtain⟨v5,a5,rfl,n1,n2,n3,rfl⟩:=hn;have hck:=Nn hC
 have HRR:Hid (r=some (.ok (.call x ks,s5))):=by show _=_;rw[HR2.o,hC];rfl
 have hadv:s.adv.ts.length+1=s.ts.length:=Sh (Jn HN.o).2;have HP:=zq (PSt.wrap HS0.o HW5.o (by omega) hok.1 HM6.o n1 n2 hck.2 hck.1);have HK7:Hid (KNew w7 R nv4 (ns++ns4) v4 (ks.roots ns.length)):=⟨HK6.o.1.wr (n2.weak _) (Mv.refl _ _),HK6.o.2⟩;rw[List.length_append]at hfw;clear n1 n2 n3 hC;go_wp2_with fail;have HKF:Hid (∀q,v4.ownBlock=some q->w.heap.size<=q):=fun q hq=>Nat.le_trans HW5.o.size (HF6.o.2 q hq);have HFL:=HF6.o.1;refine(Y5 R tv L fin a5 s5 nv4 (ns++ns4) _ HP.o.rs ⟨10,x,ks.roots ns.length⟩ _ HK7.o (by have:=HP.o.rs.few;rw[List.length_append];omega)).mono ?_;rintro e wq ⟨nvq,rfl,b1,b2,b3⟩;have HQ:=zq (HP.o.putS b1 b2 b3 (by rw[List.length_append];omega) (HKF.o));clear b1 b2 b3
 have HL4:Hid (ns4.length=ks.size):=by show _=_;have:=congrArg List.length HF6.o.1;rw[List.length_map,Un]at this;exact this
 go_wp2_with fail;go_ret;rw[HRR.o]
 exact⟨_,a5,nvq,_,rfl,HQ.o,by
  have h4:=HL4.o
  have h5:((ns.length:Int)+(ns4.length:Int))=((ns.length+(SynP.Ex.call x ks).size-1:Nat):Int):=by
   have:(SynP.Ex.call x ks).size=ks.size+1:=rfl;omega
  exact congrArg (Value.int .i64) h5,by rw[List.map_append,HF6.o.1];rfl⟩
theorem Qpf (fin f:Nat)(IH:ExOk 97 (SynP.expr fin f) fin)(R:Nat)(tv:Value)(L:List Tok)(a:Nat)(s:SynP.St)(nv:Value)(ns:List Nv)(w:World)(h:RS w R tv L fin a s nv ns)(hk1:SynP.Qb 1 s.ts=false)(hk2:SynP.Qb 2 s.ts=false)(hm:SynP.Qk [40] s.ts=true)(hne:SynP.atom fin (f+1) s≠none):
  Calls Tryz.prog 251 #[.pointer (some ⟨R,0,none⟩)] w (RP (SynP.atom fin (f+1) s) R tv L fin s nv ns (ExQ ns) w):=by
 have HS0:=zq h;have HW0:Hid (Wr R none w w):=Wr.refl _ _ _;obtain⟨r,hr⟩:=xq (SynP.atom fin (f+1) s);rw[<-hr]at hne ⊢;have HNE:=zq hne
 have HR0:Hid (r=(SynP.Zu fin s).bind fun _ s=>(SynP.expr fin f s).bind fun k s=>(SynP.X6 fin s).bind fun _ s=>SynP.ret k s):=by show _=_;rw[hr];unfold SynP.atom;simp only[hk1,hk2,hm,Bool.false_and,Bool.false_eq_true,if_false,if_true];try rfl
 have hfew:=h.few;have hsh:=h.short
 have hLn:s.ts.length<=L.length:=by rw[<-h.drop,List.length_drop];omega
 have C1:=zq (Xv 1 [] s.ts (by decide));have C2:=zq (Xv 2 [] s.ts (by decide));have C3:=zq (Zt [40] s.ts);have HM:=zq hm;have HIH:=zq IH;rw[hk1]at C1;rw[hk2]at C2;clear h hr hne hk1 hk2 hm IH;go_enter Tryz.func251,Tryz.ntmps251;go_wp2_with fail;refine(Qa R tv L fin a s nv ns _ HS0.o 0 1 [] (by omega) (by omega)).mono ?_;rintro e w1 ⟨rfl,b1⟩;rw[C1.o];have HS1:=zq (HS0.o.below b1);have HW1:=zq (RS.step HW0.o (Wr.of_below b1));clear b1;go_wp2_with fail;refine(Qa R tv L fin a s nv ns _ HS1.o 0 2 [] (by omega) (by omega)).mono ?_;rintro e w2 ⟨rfl,b1⟩;rw[C2.o];have HS2:=zq (HS1.o.below b1);have HW2:=zq (RS.step HW1.o (Wr.of_below b1));clear b1;go_wp2_with fail;refine(Qa R tv L fin a s nv ns _ HS2.o 0 2 [] (by omega) (by omega)).mono ?_;rintro e w3 ⟨rfl,b1⟩;rw[C2.o];have HS3:=zq (HS2.o.below b1);have HW3:=zq (RS.step HW2.o (Wr.of_below b1));clear b1;go_wp2_with fail;refine(Zl R tv L fin a s nv ns _ HS3.o [40]).mono ?_;rintro e w4 ⟨rfl,b1⟩;rw[HM.o];have HS4:=zq (HS3.o.below b1);have HW4:=zq (RS.step HW3.o (Wr.of_below b1));clear b1;go_wp2_with fail;refine(H7 R tv L fin a s nv ns _ HS4.o (Ur HM.o)).mono ?_;rintro e w5 hn
 rcases hO:SynP.Zu fin s with- |(⟨fc,fk⟩|⟨u,s3⟩)<;>rw[hO]at hn
 ·exact hn.elim
 ·obtain⟨rfl,n1⟩:=hn
  refine⟨rfl,?_⟩
  have hre:r=some (.error (fc,fk)):=by rw[HR0.o];simp only[hO,SynP.PR.bind];try rfl
  rw[hre];exact⟨rfl,(HW4.o.weak _).trans (Mv.refl _ _) (n1.weak _)⟩
 obtain⟨v3,a3,rfl,n1,n2,n3,rfl⟩:=hn;have hok:=Ha hO;have HO:=zq hO;have HS5:=zq n1;have HW5:=zq (RS.step HW4.o n2);clear n1 n2 n3 hO
 have HR1:Hid (r=(SynP.expr fin f s3).bind fun k s=>(SynP.X6 fin s).bind fun _ s=>SynP.ret k s):=by show _=_;rw[HR0.o];simp only[HO.o,SynP.PR.bind]
 go_wp2_with fail;refine(HIH.o R tv L a3 s3 nv ns _ HS5.o (fun e=>HNE.o (by rw[HR1.o,e];rfl))).mono ?_;rintro e w6 hn
 rcases hP:SynP.expr fin f s3 with- |(⟨fc,fk⟩|⟨k,s4⟩)<;>rw[hP]at hn
 ·exact hn.elim
 ·obtain⟨rfl,n1⟩:=hn
  refine⟨rfl,?_⟩
  have hre:r=some (.error (fc,fk)):=by rw[HR1.o,hP];rfl
  rw[hre];exact⟨rfl,(HW5.o.weak _).trans (Mv.refl _ _) n1⟩
 obtain⟨v4,a4,nv4,ns4,rfl,n1,rfl,n3⟩:=hn;have HM6:=zq n1;have HF6:=zq n3
 have HR2:Hid (r=(SynP.X6 fin s4).bind fun _ s=>SynP.ret k s):=by show _=_;rw[HR1.o,hP];rfl
 have hop:0<s4.opened:=by rw[n1.opn,hok.1];omega
 obtain⟨p,hp⟩:=xq (ns.length+k.size-1);rw[<-hp];have HPP:=zq hp;clear n1 n3 hP hp;go_wp2_with fail;refine(H8 R tv L fin a4 s4 nv4 (ns++ns4) _ HM6.o.rs hop).mono ?_;rintro e w7 hn
 rcases hC:SynP.X6 fin s4 with- |(⟨fc,fk⟩|⟨u,s5⟩)<;>rw[hC]at hn
 ·exact hn.elim
 ·obtain⟨rfl,n1⟩:=hn
  refine⟨rfl,?_⟩
  have hre:r=some (.error (fc,fk)):=by rw[HR2.o,hC];rfl
  rw[hre];exact⟨rfl,((HW5.o.weak _).trans (Mv.refl _ _) HM6.o.wr).trans (Mv.trans (R:=R) (w':=w5) (Mv.refl _ _) HW5.o.size HM6.o.mv) (n1.weak _)⟩
 obtain⟨v5,a5,rfl,n1,n2,n3,rfl⟩:=hn;have hck:=Nn hC
 have HRR:Hid (r=some (.ok (k,s5))):=by show _=_;rw[HR2.o,hC];rfl
 have HP:=zq (PSt.wrap HS0.o HW5.o hok.2 hok.1 HM6.o n1 n2 hck.2 hck.1);clear n1 n2 n3 hC;go_wp2_with fail;go_ret;rw[HRR.o];exact⟨_,a5,nv4,_,rfl,HP.o,by rw[HPP.o];rfl,HF6.o⟩
theorem Qk6 (fin f:Nat)(R:Nat)(tv:Value)(L:List Tok)(a:Nat)(s:SynP.St)(nv:Value)(ns:List Nv)(w:World)(h:RS w R tv L fin a s nv ns)(hk1:SynP.Qb 1 s.ts=false)(hk2:SynP.Qb 2 s.ts=false)(hm:SynP.Qk [40] s.ts=false)(hm2:SynP.Qk [91] s.ts=true)(hne:SynP.atom fin (f+1) s≠none):
  Calls Tryz.prog 251 #[.pointer (some ⟨R,0,none⟩)] w (RP (SynP.atom fin (f+1) s) R tv L fin s nv ns (ExQ ns) w):=by
 have HS0:=zq h;have HW0:Hid (Wr R none w w):=Wr.refl _ _ _;obtain⟨r,hr⟩:=xq (SynP.atom fin (f+1) s);rw[<-hr]at hne ⊢;have HNE:=zq hne
 have HR0:Hid (r=(SynP.Xi fin f s).bind fun m s=>SynP.ret (.mat m) s):=by show _=_;rw[hr];unfold SynP.atom;simp only[hk1,hk2,hm,hm2,Bool.false_and,Bool.false_eq_true,if_false,if_true];try rfl
 have hfew:=h.few;have hsh:=h.short
 have hLn:s.ts.length<=L.length:=by rw[<-h.drop,List.length_drop];omega
 have C1:=zq (Xv 1 [] s.ts (by decide));have C2:=zq (Xv 2 [] s.ts (by decide));have C3:=zq (Zt [40] s.ts);have HM:=zq hm;have HM2:=zq hm2;rw[hk1]at C1;rw[hk2]at C2;clear h hr hne hk1 hk2 hm hm2;go_enter Tryz.func251,Tryz.ntmps251;go_wp2_with fail;refine(Qa R tv L fin a s nv ns _ HS0.o 0 1 [] (by omega) (by omega)).mono ?_;rintro e w1 ⟨rfl,b1⟩;rw[C1.o];have HS1:=zq (HS0.o.below b1);have HW1:=zq (RS.step HW0.o (Wr.of_below b1));clear b1;go_wp2_with fail;refine(Qa R tv L fin a s nv ns _ HS1.o 0 2 [] (by omega) (by omega)).mono ?_;rintro e w2 ⟨rfl,b1⟩;rw[C2.o];have HS2:=zq (HS1.o.below b1);have HW2:=zq (RS.step HW1.o (Wr.of_below b1));clear b1;go_wp2_with fail;refine(Qa R tv L fin a s nv ns _ HS2.o 0 2 [] (by omega) (by omega)).mono ?_;rintro e w3 ⟨rfl,b1⟩;rw[C2.o];have HS3:=zq (HS2.o.below b1);have HW3:=zq (RS.step HW2.o (Wr.of_below b1));clear b1;go_wp2_with fail;refine(Zl R tv L fin a s nv ns _ HS3.o [40]).mono ?_;rintro e w4 ⟨rfl,b1⟩;rw[HM.o];have HS4:=zq (HS3.o.below b1);have HW4:=zq (RS.step HW3.o (Wr.of_below b1));clear b1;go_wp2_with fail;refine(Zl R tv L fin a s nv ns _ HS4.o [91]).mono ?_;rintro e w5 ⟨rfl,b1⟩;rw[HM2.o];have HS5:=zq (HS4.o.below b1);have HW5:=zq (RS.step HW4.o (Wr.of_below b1));clear b1;go_wp2_with fail;refine(Ey R tv L fin a s nv ns _ HS5.o f (fun e=>HNE.o (by rw[HR0.o,e];rfl))).mono ?_;rintro e w6 hn
 rcases hN:SynP.Xi fin f s with- |(⟨fc,fk⟩|⟨m,s2⟩)<;>rw[hN]at hn
 ·exact hn.elim
 ·obtain⟨rfl,n1⟩:=hn
  refine⟨rfl,?_⟩
  have hre:r=some (.error (fc,fk)):=by rw[HR0.o];simp only[hN,SynP.PR.bind];try rfl
  rw[hre];exact⟨rfl,(HW5.o.weak _).trans (Mv.refl _ _) (n1.weak _)⟩
 obtain⟨v2,a2,rfl,n1,n2,n3,av,rfl,n4,-⟩:=hn;have hmo:=SynP.Ut hN;have hml:=Qxf hN
 have HRR:Hid (r=some (.ok (.mat m,s2))):=by show _=_;rw[HR0.o,hN];rfl
 have HP:=zq (PSt.of0 HS0.o n1 (RS.step HW5.o n2) n3 (SynP.Bi hN).1);have HV:=zq n4;have HT:=zq (Fa m hmo.2.2.2);obtain⟨hm1,hm2,hm3,-⟩:=hmo;have HM3:=zq hm3;clear n1 n2 n3 n4 hN hm3;go_wp2_with fail;refine(Bt m.rows m.cols m.at_ av _ HP.o.rs.sg HV.o.ird hm1 hm2 HM3.o).mono ?_;rintro e w7 ⟨rfl,b1⟩;rw[HT.o];have HP7:=zq (HP.o.step (HP.o.rs.below b1) (Wr.of_below b1) (Nat.le_refl _) rfl);clear b1;go_wp2_with fail;refine(Y5 R tv L fin a2 s2 nv (ns++[]) _ HP7.o.rs ⟨3,SynP.matT m,[]⟩ _ KNew.nil (by have:=HP7.o.rs.few;rw[List.append_nil];omega)).mono ?_;rintro e wq ⟨nvq,rfl,b1,b2,b3⟩;have HQ:=zq (HP7.o.putS b1 b2 b3 (by rw[List.append_nil];omega) (fun q hq=>by simp[Value.ownBlock]at hq));clear b1 b2 b3;go_wp2_with fail;go_ret;rw[HRR.o];exact⟨_,a2,nvq,_,rfl,HQ.o,by simp[SynP.Ex.size],by simp[SynP.Ex.flat]⟩
theorem Qk5 (fin f:Nat)(R:Nat)(tv:Value)(L:List Tok)(a:Nat)(s:SynP.St)(nv:Value)(ns:List Nv)(w:World)(h:RS w R tv L fin a s nv ns)(hk1:SynP.Qb 1 s.ts=false)(hk2:SynP.Qb 2 s.ts=false)(hm:SynP.Qk [40] s.ts=false)(hm2:SynP.Qk [91] s.ts=false)(hm3:SynP.Qk [123] s.ts=true)(hne:SynP.atom fin (f+1) s≠none):
  Calls Tryz.prog 251 #[.pointer (some ⟨R,0,none⟩)] w (RP (SynP.atom fin (f+1) s) R tv L fin s nv ns (ExQ ns) w):=by
 have HS0:=zq h;have HW0:Hid (Wr R none w w):=Wr.refl _ _ _;obtain⟨r,hr⟩:=xq (SynP.atom fin (f+1) s);rw[<-hr]at hne ⊢;have HNE:=zq hne
 have HR0:Hid (r=(SynP.Q5 fin f s).bind fun l s=>SynP.ret (.cpx l) s):=by show _=_;rw[hr];unfold SynP.atom;simp only[hk1,hk2,hm,hm2,hm3,Bool.false_and,Bool.false_eq_true,if_false,if_true];try rfl
 have hfew:=h.few;have hsh:=h.short
 have hLn:s.ts.length<=L.length:=by rw[<-h.drop,List.length_drop];omega
 have C1:=zq (Xv 1 [] s.ts (by decide));have C2:=zq (Xv 2 [] s.ts (by decide));have C3:=zq (Zt [40] s.ts);have HM:=zq hm;have HM2:=zq hm2;have HM3:=zq hm3;rw[hk1]at C1;rw[hk2]at C2;clear h hr hne hk1 hk2 hm hm2 hm3;go_enter Tryz.func251,Tryz.ntmps251;go_wp2_with fail;refine(Qa R tv L fin a s nv ns _ HS0.o 0 1 [] (by omega) (by omega)).mono ?_;rintro e w1 ⟨rfl,b1⟩;rw[C1.o];have HS1:=zq (HS0.o.below b1);have HW1:=zq (RS.step HW0.o (Wr.of_below b1));clear b1;go_wp2_with fail;refine(Qa R tv L fin a s nv ns _ HS1.o 0 2 [] (by omega) (by omega)).mono ?_;rintro e w2 ⟨rfl,b1⟩;rw[C2.o];have HS2:=zq (HS1.o.below b1);have HW2:=zq (RS.step HW1.o (Wr.of_below b1));clear b1;go_wp2_with fail;refine(Qa R tv L fin a s nv ns _ HS2.o 0 2 [] (by omega) (by omega)).mono ?_;rintro e w3 ⟨rfl,b1⟩;rw[C2.o];have HS3:=zq (HS2.o.below b1);have HW3:=zq (RS.step HW2.o (Wr.of_below b1));clear b1;go_wp2_with fail;refine(Zl R tv L fin a s nv ns _ HS3.o [40]).mono ?_;rintro e w4 ⟨rfl,b1⟩;rw[HM.o];have HS4:=zq (HS3.o.below b1);have HW4:=zq (RS.step HW3.o (Wr.of_below b1));clear b1;go_wp2_with fail;refine(Zl R tv L fin a s nv ns _ HS4.o [91]).mono ?_;rintro e w5 ⟨rfl,b1⟩;rw[HM2.o];have HS5:=zq (HS4.o.below b1);have HW5:=zq (RS.step HW4.o (Wr.of_below b1));clear b1;go_wp2_with fail;refine(Zl R tv L fin a s nv ns _ HS5.o [123]).mono ?_;rintro e w6 ⟨rfl,b1⟩;rw[HM3.o];have HS6:=zq (HS5.o.below b1);have HW6:=zq (RS.step HW5.o (Wr.of_below b1));clear b1;go_wp2_with fail;refine(H9 R tv L fin a s nv ns _ HS6.o f (fun e=>HNE.o (by rw[HR0.o,e];rfl))).mono ?_;rintro e w7 hn
 rcases hN:SynP.Q5 fin f s with- |(⟨fc,fk⟩|⟨l,s2⟩)<;>rw[hN]at hn
 ·exact hn.elim
 ·obtain⟨rfl,n1⟩:=hn
  refine⟨rfl,?_⟩
  have hre:r=some (.error (fc,fk)):=by rw[HR0.o];simp only[hN,SynP.PR.bind];try rfl
  rw[hre];exact⟨rfl,(HW6.o.weak _).trans (Mv.refl _ _) (n1.weak _)⟩
 obtain⟨v2,a2,rfl,n1,n2,n3,svs,n4⟩:=hn;have hml:=Bx hN;obtain⟨hc1,hc2⟩:=Ug hN;change tot l<=s.ts.length at hc1;change l.length<=s.ts.length at hc2
 have HRR:Hid (r=some (.ok (.cpx l,s2))):=by show _=_;rw[HR0.o,hN];rfl
 have HP:=zq (PSt.of0 HS0.o n1 (RS.step HW6.o n2) n3 (SynP.Et hN).1);have HV:=zq n4.crd
 have HC1:Hid (∀s∈l,s.length<=134217728):=fun s hs=>by have:=Cb hs;omega
 have HC2:=zq (Qz0 (l:=l) (Nat.le_trans (Ks hN) (Nat.le_trans (Qp9 HS0.o.drop) HS0.o.sum)) (by omega) (by omega))
 have hln:l.length<=134217728:=by omega
 clear n1 n2 n3 n4 hN hc1 hc2;go_wp2_with fail;refine(Bj l _ _ HP.o.rs.sg HV.o hln HC1.o HC2.o).mono ?_;rintro e w8 ⟨rfl,b1⟩;have HP7:=zq (HP.o.step (HP.o.rs.below b1) (Wr.of_below b1) (Nat.le_refl _) rfl);clear b1;go_wp2_with fail;refine(Y5 R tv L fin a2 s2 nv (ns++[]) _ HP7.o.rs ⟨13,SynP.cpxT l,[]⟩ _ KNew.nil (by have:=HP7.o.rs.few;rw[List.append_nil];omega)).mono ?_;rintro e wq ⟨nvq,rfl,b1,b2,b3⟩;have HQ:=zq (HP7.o.putS b1 b2 b3 (by rw[List.append_nil];omega) (fun q hq=>by simp[Value.ownBlock]at hq));clear b1 b2 b3;go_wp2_with fail;go_ret;rw[HRR.o];exact⟨_,a2,nvq,_,rfl,HQ.o,by simp[SynP.Ex.size],by simp[SynP.Ex.flat]⟩
theorem Qpc (fin f:Nat)(R:Nat)(tv:Value)(L:List Tok)(a:Nat)(s:SynP.St)(nv:Value)(ns:List Nv)(w:World)(h:RS w R tv L fin a s nv ns)(hk1:SynP.Qb 1 s.ts=false)(hk2:SynP.Qb 2 s.ts=false)(hm:SynP.Qk [40] s.ts=false)(hm2:SynP.Qk [91] s.ts=false)(hm3:SynP.Qk [123] s.ts=false)(hne:SynP.atom fin (f+1) s≠none):
  Calls Tryz.prog 251 #[.pointer (some ⟨R,0,none⟩)] w (RP (SynP.atom fin (f+1) s) R tv L fin s nv ns (ExQ ns) w):=by
 have HS0:=zq h;have HW0:Hid (Wr R none w w):=Wr.refl _ _ _;obtain⟨r,hr⟩:=xq (SynP.atom fin (f+1) s);rw[<-hr]at hne ⊢;have HNE:=zq hne
 have HR0:Hid (r=SynP.unfit fin s):=by show _=_;rw[hr];unfold SynP.atom;simp only[hk1,hk2,hm,hm2,hm3,Bool.false_and,Bool.false_eq_true,if_false,if_true];try rfl
 have hfew:=h.few;have hsh:=h.short
 have hLn:s.ts.length<=L.length:=by rw[<-h.drop,List.length_drop];omega
 have C1:=zq (Xv 1 [] s.ts (by decide));have C2:=zq (Xv 2 [] s.ts (by decide));have C3:=zq (Zt [40] s.ts);have HM:=zq hm;have HM2:=zq hm2;have HM3:=zq hm3;rw[hk1]at C1;rw[hk2]at C2;clear h hr hne hk1 hk2 hm hm2 hm3;go_enter Tryz.func251,Tryz.ntmps251;go_wp2_with fail;refine(Qa R tv L fin a s nv ns _ HS0.o 0 1 [] (by omega) (by omega)).mono ?_;rintro e w1 ⟨rfl,b1⟩;rw[C1.o];have HS1:=zq (HS0.o.below b1);have HW1:=zq (RS.step HW0.o (Wr.of_below b1));clear b1;go_wp2_with fail;refine(Qa R tv L fin a s nv ns _ HS1.o 0 2 [] (by omega) (by omega)).mono ?_;rintro e w2 ⟨rfl,b1⟩;rw[C2.o];have HS2:=zq (HS1.o.below b1);have HW2:=zq (RS.step HW1.o (Wr.of_below b1));clear b1;go_wp2_with fail;refine(Qa R tv L fin a s nv ns _ HS2.o 0 2 [] (by omega) (by omega)).mono ?_;rintro e w3 ⟨rfl,b1⟩;rw[C2.o];have HS3:=zq (HS2.o.below b1);have HW3:=zq (RS.step HW2.o (Wr.of_below b1));clear b1;go_wp2_with fail;refine(Zl R tv L fin a s nv ns _ HS3.o [40]).mono ?_;rintro e w4 ⟨rfl,b1⟩;rw[HM.o];have HS4:=zq (HS3.o.below b1);have HW4:=zq (RS.step HW3.o (Wr.of_below b1));clear b1;go_wp2_with fail;refine(Zl R tv L fin a s nv ns _ HS4.o [91]).mono ?_;rintro e w5 ⟨rfl,b1⟩;rw[HM2.o];have HS5:=zq (HS4.o.below b1);have HW5:=zq (RS.step HW4.o (Wr.of_below b1));clear b1;go_wp2_with fail;refine(Zl R tv L fin a s nv ns _ HS5.o [123]).mono ?_;rintro e w6 ⟨rfl,b1⟩;rw[HM3.o];have HS6:=zq (HS5.o.below b1);have HW6:=zq (RS.step HW5.o (Wr.of_below b1));clear b1;go_wp2_with fail;refine(J8 R tv L fin a s nv ns _ HS6.o).mono ?_;rintro e w7 ⟨rfl,b1⟩;refine⟨rfl,?_⟩;rw[HR0.o];exact⟨rfl,(HW6.o.weak _).trans (Mv.refl _ _) (Wr.of_below b1)⟩
theorem Qpd (fin f:Nat)(IE:ExOk 97 (SynP.expr fin f) fin)(IP:PaOk (SynP.X7 fin f) fin):ExOk 251 (SynP.atom fin (f+1)) fin:=by
 intro R tv L a s nv ns w h E
 cases hk1:SynP.Qb 1 s.ts with
 |true=>exact Qk7 fin f R tv L a s nv ns w h hk1
 |false=>
  cases hk2:SynP.Qb 2 s.ts with
  |true=>
   cases hm:SynP.Qk [40] s.ts.tail with
   |true=>exact Qj6 fin f IP R tv L a s nv ns w h hk1 hk2 hm E
   |false=>exact Fk fin f R tv L a s nv ns w h hk1 hk2 hm E
  |false=>
   cases hm:SynP.Qk [40] s.ts with
   |true=>exact Qpf fin f IE R tv L a s nv ns w h hk1 hk2 hm E
   |false=>
    cases hm2:SynP.Qk [91] s.ts with
    |true=>exact Qk6 fin f R tv L a s nv ns w h hk1 hk2 hm hm2 E
    |false=>
     cases hm3:SynP.Qk [123] s.ts with
     |true=>exact Qk5 fin f R tv L a s nv ns w h hk1 hk2 hm hm2 hm3 E
     |false=>exact Qpc fin f R tv L a s nv ns w h hk1 hk2 hm hm2 hm3 E
structure AllOk (fin f:Nat):Prop where
 ex:ExOk 97 (SynP.expr fin f) fin
 te:ExOk 160 (SynP.term fin f) fin
 fa:ExOk 208 (SynP.Xr fin f) fin
 po:ExOk 235 (SynP.post fin f) fin
 at_:ExOk 251 (SynP.atom fin f) fin
 pa:PaOk (SynP.X7 fin f) fin
theorem Qk4 (fin f:Nat):AllOk fin f:=by
 induction f using Nat.strongRecOn with
 |ind f ih=>
  cases f with
  |zero=>
   refine⟨?_,?_,?_,?_,?_,?_⟩<;>intro R tv L a s nv ns w h E
   ·exact absurd (by rw[SynP.expr]) E
   ·exact absurd (by rw[SynP.term]) E
   ·exact absurd (by rw[SynP.Xr]) E
   ·exact absurd (by rw[SynP.post]) E
   ·exact absurd (by rw[SynP.atom]) E
   ·exact absurd (by rw[SynP.X7]) E
  |succ f=>
   have H:∀g,g<=f->AllOk fin g:=fun g hg=>ih g (by omega);have I:=H f (Nat.le_refl _);exact⟨Qpo fin f (fun g hg=>(H g hg).te),Qmw fin f (fun g hg=>(H g hg).fa),Qvg fin f I.po,Qgo fin f I.at_,Qpd fin f I.ex I.pa,Qyc fin f (fun g hg=>(H g hg).ex)⟩
def LnP (r:SynP.PR SynP.Ln)(R:Nat)(tv:Value)(L:List Tok)(fin:Nat)(nv:Value)(w:World)(e:Ending)(w':World):Prop:=
 match r with
 |none=>False
 |some (.error (c,k))=>e=T7 c k/\Wr R nv.ownBlock w w'
 |some (.ok (n,s'))=>e=.returned (.tuple #[])/\ ∃a' nv' ns',RS w' R tv L fin a' s' nv' ns'/\Wr R nv.ownBlock w w'/\ns'.map Prod.fst=n.flat/\Mv w nv.ownBlock nv'.ownBlock/\ ∀p∈ns',∀q,p.2.ownBlock=some q->w.heap.size<=q
structure Ln0 (R:Nat) (tv:Value) (L:List Tok) (fin:Nat) (nv:Value) (w wr:World) (a':Nat) (s':SynP.St) (nv':Value) (ns':List Nv):Prop where
 rs:RS wr R tv L fin a' s' nv' ns'
 wr:Wr R nv.ownBlock w wr
 mv:Mv w nv.ownBlock nv'.ownBlock
 fresh:∀p∈ns',∀q,p.2.ownBlock=some q->w.heap.size<=q
theorem Ln0.step {R:Nat}{tv:Value}{L:List Tok}{fin:Nat}{s1 s2:SynP.St}{nv nv1:Value}{ns1:List Nv}{w w1 w2:World}{a1 a2:Nat}(h:Ln0 R tv L fin nv w w1 a1 s1 nv1 ns1)(k:RS w2 R tv L fin a2 s2 nv1 ns1)(hw:Wr R none w1 w2):Ln0 R tv L fin nv w w2 a2 s2 nv1 ns1:=
 ⟨k,h.wr.trans h.mv (hw.weak _),h.mv,h.fresh⟩
theorem Ln0.trans {R:Nat}{tv:Value}{L:List Tok}{fin:Nat}{s1 s2:SynP.St}{nv nv1 nv2:Value}{ns1 ns2:List Nv}{w w1 w2:World}{a1 a2:Nat}(h:Ln0 R tv L fin nv w w1 a1 s1 nv1 ns1)(k:PSt R tv L fin s1 nv1 ns1 w1 w2 a2 s2 nv2 ns2):Ln0 R tv L fin nv w w2 a2 s2 nv2 (ns1++ns2):=
 ⟨k.rs,h.wr.trans h.mv k.wr,Mv.trans (R:=R) (w':=w1) h.mv h.wr.size k.mv,fun p E q hq=>by
  rcases List.mem_append.1 E with E|E
  ·exact h.fresh p E q hq
  ·exact Nat.le_trans h.wr.size (k.fresh p E q hq)⟩
theorem Ln0.put {R:Nat}{tv:Value}{L:List Tok}{fin:Nat}{s1:SynP.St}{nv nv1 nv2:Value}{ns1:List Nv}{w w1 w2:World}{a1:Nat}{nd:SynP.Node}{kv:Value}(h:Ln0 R tv L fin nv w w1 a1 s1 nv1 ns1)(k:RS w2 R tv L fin a1 s1 nv2 (ns1++[(nd,kv)]))(hw:Wr R nv1.ownBlock w1 w2)(hm:Mv w1 nv1.ownBlock nv2.ownBlock)(hv:∀q,kv.ownBlock=some q->w.heap.size<=q):Ln0 R tv L fin nv w w2 a1 s1 nv2 (ns1++[(nd,kv)]):=
 ⟨k,h.wr.trans h.mv hw,Mv.trans (R:=R) (w':=w1) h.mv h.wr.size hm,fun p E q hq=>by
  rcases List.mem_append.1 E with E|E
  ·exact h.fresh p E q hq
  ·rw[List.mem_singleton.1 E]at hq;exact hv q hq⟩
theorem Qvn (fin f:Nat)(R:Nat)(tv:Value)(L:List Tok)(s:SynP.St)(nv:Value)(w:World)(h:RS w R tv L fin 0 s nv [])(h0:s.ts=[]):
  Calls Tryz.prog 49 #[.pointer (some ⟨R,0,none⟩)] w (LnP (SynP.line fin f s) R tv L fin nv w):=by
 have H:=zq h
 have HR0:Hid (SynP.line fin f s=some (.ok (.nothing,s))):=by show _=_;unfold SynP.line;rw[if_pos h0];rfl
 have hts:s.ts.length=0:=by rw[h0];rfl
 have HD:Hid (decide (s.ts=[])=true):=decide_eq_true h0;clear h h0;go_enter Tryz.func49,Tryz.ntmps49;go_wp2_with fail;refine(Jw R tv L fin 0 s nv [] _ H.o).mono ?_;rintro e w1 ⟨rfl,b1⟩;rw[HD.o];have HP:Hid (Ln0 R tv L fin nv w w1 0 s nv []):=⟨H.o.below b1,Wr.of_below b1,Mv.refl _ _,fun p hp=>by cases hp⟩;clear b1;go_wp2_with fail;refine(Y5 R tv L fin 0 s nv [] _ HP.o.rs ⟨14,[],[]⟩ _ KNew.nil (by simp;omega)).mono ?_;rintro e w2 ⟨nv2,rfl,b1,b2,b3⟩;have HQ:=zq (HP.o.put b1 b2 b3 (fun q hq=>by simp[Value.ownBlock]at hq));clear b1 b2 b3;go_wp2_with fail;refine bodyPost_ret (results_none rfl _ _ _) rfl ?_;rw[HR0.o];exact⟨rfl,0,nv2,_,HQ.o.rs,HQ.o.wr,rfl,HQ.o.mv,HQ.o.fresh⟩
theorem Qw2 (fin f:Nat)(R:Nat)(tv:Value)(L:List Tok)(s:SynP.St)(nv:Value)(w:World)(h:RS w R tv L fin 0 s nv [])(hk:SynP.Qb 2 s.ts=true)(hl:SynP.Xl s.ts=SynP.letB)(hne:SynP.line fin f s≠none):
  Calls Tryz.prog 49 #[.pointer (some ⟨R,0,none⟩)] w (LnP (SynP.line fin f s) R tv L fin nv w):=by
 have HS0:=zq h;obtain⟨r,hr⟩:=xq (SynP.line fin f s);rw[<-hr]at hne ⊢;have HNE:=zq hne;have h0:s.ts≠[]:=Vw hk
 have HR0:Hid (r=(SynP.name fin s.adv).bind fun x s=>(SynP.want fin [61] s).bind fun _ s=>(SynP.expr fin f s).bind fun e s=>SynP.done fin (.lets x e) s):=by
  show _=_;rw[hr];unfold SynP.line;rw[if_neg h0,if_pos (by rw[hk,hl];simp)]
 have HD:Hid (decide (s.ts=[])=false):=decide_eq_false h0;have hfew:=h.few;have C2:=zq (Xv 2 [] s.ts (by decide));rw[hk]at C2;have HNN:=zq h0;obtain⟨ao,cap,rfl,t1,t2,t3⟩:=h.tks;have hdr:=h.drop;rw[List.drop_zero]at hdr;obtain⟨t,l,hts⟩:=List.exists_cons_of_ne_nil h0
 have hL0:0<L.length:=by rw[hdr,hts];simp
 obtain⟨g,rfl,hg,hcl⟩:=t3 hL0;obtain⟨-,d1,-⟩:=hcl 0 t (by rw[hdr,hts];rfl)
 have ht1:t.2.1=SynP.letB:=by rw[<-hl,hts];rfl
 rw[ht1,show SynP.letB.toArray= #[108,101,116] from rfl]at d1;have D1:=zq d1;have hRl:=h.lt;have hadv:s.adv.ts.length+1=s.ts.length:=Sh hk;have HRL:=zq hRl;clear h hr hne hk hl h0 t3 hcl hdr hts d1 ht1;go_enter Tryz.func49,Tryz.ntmps49;go_wp2_with fail;refine(Jw R _ L fin 0 s nv [] _ HS0.o).mono ?_;rintro e w1 ⟨rfl,b1⟩;rw[HD.o];have HP1:Hid (Ln0 R (.slice (some ⟨g,0,none⟩) L.length cap) L fin nv w w1 0 s nv []):=⟨HS0.o.below b1,Wr.of_below b1,Mv.refl _ _,fun p hp=>by cases hp⟩;have D2:Hid (w1.cell? ⟨g,1,none⟩=some (.string ⟨#[108,101,116]⟩)):=(b1.cell (p:=⟨g,1,none⟩) (by show g<_;have:=HRL.o;omega)).trans D1.o
 have hgl1:g<w1.heap.size:=by have:=b1.size;have:=HRL.o;omega
 clear b1;go_wp2_with fail;refine(Qa R _ L fin 0 s nv [] _ HP1.o.rs 0 2 [] (by omega) (by omega)).mono ?_;rintro e w2 ⟨rfl,b1⟩;rw[C2.o];have HP2:=zq (HP1.o.step (HP1.o.rs.below b1) (Wr.of_below b1));have e0:=HP2.o.rs.cells.1;have e1:=HP2.o.rs.cells.2.1;have e2:w2.cell? ⟨g,1,none⟩=some (.string ⟨#[108,101,116]⟩):=(b1.cell (p:=⟨g,1,none⟩) hgl1).trans D2.o;have f1:=HP2.o.rs.fro 1;have hpp:=HP2.o.rs.adv HNN.o;have HP3:=zq (HP2.o.step hpp.1 hpp.2);clear b1 hpp;go_wp2_with fail;refine(Pc R _ L fin (0+1) s.adv nv [] _ HP3.o.rs).mono ?_;rintro e w3 hn
 rcases hN:SynP.name fin s.adv with- |(⟨fc,fk⟩|⟨x,s3⟩)<;>rw[hN]at hn
 ·exact hn.elim
 ·obtain⟨rfl,n1⟩:=hn
  refine⟨rfl,?_⟩
  have hre:r=some (.error (fc,fk)):=by rw[HR0.o];simp only[hN,SynP.PR.bind];try rfl
  rw[hre];exact⟨rfl,HP3.o.wr.trans HP3.o.mv (n1.weak _)⟩
 obtain⟨v3,a3,rfl,n1,n2,n3,rfl⟩:=hn
 have HR1:Hid (r=(SynP.want fin [61] s3).bind fun _ s=>(SynP.expr fin f s).bind fun e s=>SynP.done fin (.lets x e) s):=by show _=_;rw[HR0.o,hN];rfl
 have HP4:=zq (HP3.o.step n1 n2);have hs3:s3.ts.length<=s.adv.ts.length:=n3;clear n1 n2 n3 hN;go_wp2_with fail;refine(Wv R _ L fin a3 s3 nv [] _ HP4.o.rs [61]).mono ?_;rintro e w4 hn
 rcases hN:SynP.want fin [61] s3 with- |(⟨fc,fk⟩|⟨u,s4⟩)<;>rw[hN]at hn
 ·exact hn.elim
 ·obtain⟨rfl,n1⟩:=hn
  refine⟨rfl,?_⟩
  have hre:r=some (.error (fc,fk)):=by rw[HR1.o];simp only[hN,SynP.PR.bind];try rfl
  rw[hre];exact⟨rfl,HP4.o.wr.trans HP4.o.mv (n1.weak _)⟩
 obtain⟨v4,a4,rfl,n1,n2,n3,rfl⟩:=hn
 have HR2:Hid (r=(SynP.expr fin f s4).bind fun e s=>SynP.done fin (.lets x e) s):=by show _=_;rw[HR1.o,hN];rfl
 have HP5:=zq (HP4.o.step n1 n2);have hs4:s4.ts.length<=s3.ts.length:=n3;clear n1 n2 n3 hN;go_wp2_with fail;refine((Qk4 fin f).ex R _ L a4 s4 nv [] _ HP5.o.rs (fun e=>HNE.o (by rw[HR2.o,e];rfl))).mono ?_;rintro e w5 hn
 rcases hN:SynP.expr fin f s4 with- |(⟨fc,fk⟩|⟨k,s5⟩)<;>rw[hN]at hn
 ·exact hn.elim
 ·obtain⟨rfl,n1⟩:=hn
  refine⟨rfl,?_⟩
  have hre:r=some (.error (fc,fk)):=by rw[HR2.o];simp only[hN,SynP.PR.bind];try rfl
  rw[hre];exact⟨rfl,HP5.o.wr.trans HP5.o.mv (n1)⟩
 obtain⟨v5,a5,nv5,ns5,rfl,n1,rfl,n3⟩:=hn
 have HR3:Hid (r=SynP.done fin (.lets x k) s5):=by show _=_;rw[HR2.o,hN];rfl
 have HP6:=zq (HP5.o.trans n1);have HF:=zq n3;have hfw:=n1.few;rw[List.nil_append]at hfw;simp only[List.length_nil]at hfw;obtain⟨p,hp⟩:=xq (k.size-1)
 have hp0:([]:List Nv).length+k.size-1=p:=by rw[hp,List.length_nil,Nat.zero_add]
 rw[hp0];have HPP:=zq hp;have hkn:=(KNew.fresh HP6.o.rs [p]).resolve_right (by simp);have HKN:=zq hkn;have HA:=zq (Qq w5 (.cells #[.int .i64 ((p:Nat):Int)] 3));have HP7:=zq (HP6.o.step (HP6.o.rs.below HA.o) (Wr.of_below HA.o));clear n1 n3 hN hp hp0 hkn;go_wp2_with fail;refine(Y5 R _ L fin a5 s5 nv5 ([]++ns5) _ HP7.o.rs ⟨11,x,[p]⟩ _ HKN.o (by rw[List.nil_append];omega)).mono ?_;rintro e w6 ⟨nv6,rfl,b1,b2,b3⟩;have HP8:=zq (HP7.o.put b1 b2 b3 (fun q hq=>by cases hq;exact HP6.o.wr.size));clear b1 b2 b3
 have hmap:(([]++ns5)++[((⟨11,x,[p]⟩:SynP.Node),(Value.slice (some ⟨w5.heap.size,0,none⟩) 1 1))]).map Prod.fst=(SynP.Ln.lets x k).flat:=by
  rw[List.nil_append,List.map_append,HF.o,HPP.o];rfl
 have HMAP:=zq hmap;clear hmap;go_wp2_with fail;refine(Jw R _ L fin a5 s5 nv6 _ _ HP8.o.rs).mono ?_;rintro e w7 ⟨rfl,b1⟩;have HP9:=zq (HP8.o.step (HP8.o.rs.below b1) (Wr.of_below b1));clear b1;by_cases hts:s5.ts=[]
 ·have HR4:Hid (r=some (.ok (.lets x k,s5))):=by show _=_;rw[HR3.o];unfold SynP.done;rw[if_pos hts];rfl
  rw[decide_eq_true hts];clear hts;go_wp2_with fail
  first|go_end0|refine bodyPost_ret (results_none rfl _ _ _) rfl ?_
  rw[HR4.o];exact⟨rfl,a5,nv6,_,HP9.o.rs,HP9.o.wr,HMAP.o,HP9.o.mv,HP9.o.fresh⟩
 ·have HR4:Hid (r=SynP.unfit fin s5):=by show _=_;rw[HR3.o];unfold SynP.done;rw[if_neg hts]
  rw[decide_eq_false hts];clear hts;go_wp2_with fail;refine(J8 R _ L fin a5 s5 nv6 _ _ HP9.o.rs).mono ?_;rintro e w8 ⟨rfl,b1⟩;refine⟨rfl,?_⟩;rw[HR4.o];exact⟨rfl,HP9.o.wr.trans HP9.o.mv ((Wr.of_below (R:=R) (og:=none) b1).weak _)⟩
theorem Qgj (fin f:Nat)(R:Nat)(tv:Value)(L:List Tok)(s:SynP.St)(nv:Value)(w:World)(h:RS w R tv L fin 0 s nv [])(h0:s.ts≠[])(hl:(SynP.Qb 2 s.ts && SynP.Xl s.ts==SynP.letB)=false)(hne:SynP.line fin f s≠none):
  Calls Tryz.prog 49 #[.pointer (some ⟨R,0,none⟩)] w (LnP (SynP.line fin f s) R tv L fin nv w):=by
 have HS0:=zq h;obtain⟨r,hr⟩:=xq (SynP.line fin f s);rw[<-hr]at hne ⊢;have HNE:=zq hne
 have HR0:Hid (r=(SynP.name fin s).bind fun x s=>if s.ts=[] then SynP.done fin (.cmd x .nil) s else (SynP.X7 fin f s).bind fun ks s=>SynP.done fin (.cmd x ks) s):=by
  show _=_;rw[hr];unfold SynP.line;rw[if_neg h0,if_neg (by rw[hl];decide)]
 have HD:Hid (decide (s.ts=[])=false):=decide_eq_false h0;have hfew:=h.few;rw[List.length_nil,Nat.zero_add]at hfew;have C2:=zq (Xv 2 [] s.ts (by decide));obtain⟨ao,cap,rfl,t1,t2,t3⟩:=h.tks;have hdr:=h.drop;rw[List.drop_zero]at hdr;obtain⟨t,l,hts⟩:=List.exists_cons_of_ne_nil h0
 have hL0:0<L.length:=by rw[hdr,hts];simp
 obtain⟨g,rfl,hg,hcl⟩:=t3 hL0;obtain⟨-,d1,-⟩:=hcl 0 t (by rw[hdr,hts];rfl)
 have ht1:t.2.1=SynP.Xl s.ts:=by rw[hts];rfl
 rw[ht1]at d1;have D1:=zq d1;have hRl:=h.lt;have HRL:=zq hRl;have HL:=zq hl;obtain⟨tt,htt⟩:=xq (SynP.Xl s.ts);rw[<-htt]at D1 HL;obtain⟨bk,hbk⟩:=xq (SynP.Qb 2 s.ts);rw[<-hbk]at C2 HL;have HTT:Hid (tt=SynP.Xl s.ts):=htt;clear h hr hne hl h0 t3 hcl hdr hts d1 ht1 htt hbk;go_enter Tryz.func49,Tryz.ntmps49;go_wp2_with fail;refine(Jw R _ L fin 0 s nv [] _ HS0.o).mono ?_;rintro e w1 ⟨rfl,b1⟩;rw[HD.o];have HP1:Hid (Ln0 R (.slice (some ⟨g,0,none⟩) L.length cap) L fin nv w w1 0 s nv []):=⟨HS0.o.below b1,Wr.of_below b1,Mv.refl _ _,fun p hp=>by cases hp⟩;have D2:Hid (w1.cell? ⟨g,1,none⟩=some (.string ⟨tt.toArray⟩)):=(b1.cell (p:=⟨g,1,none⟩) (by show g<_;have:=HRL.o;omega)).trans D1.o
 have hgl1:g<w1.heap.size:=by have:=b1.size;have:=HRL.o;omega
 clear b1;go_wp2_with fail;refine(Qa R _ L fin 0 s nv [] _ HP1.o.rs 0 2 [] (by omega) (by omega)).mono ?_;rintro e w2 ⟨rfl,b1⟩;rw[C2.o];have HP2:=zq (HP1.o.step (HP1.o.rs.below b1) (Wr.of_below b1));have e0:=HP2.o.rs.cells.1;have e2:w2.cell? ⟨g,1,none⟩=some (.string ⟨tt.toArray⟩):=(b1.cell (p:=⟨g,1,none⟩) hgl1).trans D2.o
 have hbl:bk=true->(tt==[108,101,116])=false:=fun e=>by
  have h1:=HL.o;rw[e,Bool.true_and]at h1;exact h1
 clear b1
 cases bk
 case' true=>
  have hc:=hbl rfl
 all_goals
  clear hbl;go_wp2_with fail;refine(Pc R _ L fin 0 s nv [] _ HP2.o.rs).mono ?_;rintro e w3 hn
  rcases hN:SynP.name fin s with- |(⟨fc,fk⟩|⟨x,s3⟩)<;>rw[hN]at hn
  ·exact hn.elim
  ·obtain⟨rfl,n1⟩:=hn
   refine⟨rfl,?_⟩
   have hre:r=some (.error (fc,fk)):=by rw[HR0.o];simp only[hN,SynP.PR.bind];try rfl
   rw[hre];exact⟨rfl,HP2.o.wr.trans HP2.o.mv (n1.weak _)⟩
  obtain⟨v3,a3,rfl,n1,n2,n3,rfl⟩:=hn
  have HR1:Hid (r=if s3.ts=[] then SynP.done fin (.cmd x .nil) s3 else (SynP.X7 fin f s3).bind fun ks s=>SynP.done fin (.cmd x ks) s):=by show _=_;rw[HR0.o,hN];rfl
  have HP3:=zq (HP2.o.step n1 n2);have hn1:=(Jn hN).1;have hn2:=Sh (Jn hN).2;rw[<-hn1]at hn2;clear n1 n2 n3 hN hn1;go_wp2_with fail;refine(Jw R _ L fin a3 s3 nv [] _ HP3.o.rs).mono ?_;rintro e w4 ⟨rfl,b1⟩;have HP4:=zq (HP3.o.step (HP3.o.rs.below b1) (Wr.of_below b1));clear b1;by_cases hts:s3.ts=[]
  ·have HR2:Hid (r=SynP.done fin (.cmd x .nil) s3):=by show _=_;rw[HR1.o,if_pos hts]
   rw[decide_eq_true hts];clear hts;go_wp2_with fail;refine(Y5 R _ L fin a3 s3 nv [] _ HP4.o.rs ⟨12,x,[]⟩ _ KNew.nil (by rw[List.length_nil];omega)).mono ?_;rintro e w6 ⟨nv6,rfl,b1,b2,b3⟩;have HP8:=zq (HP4.o.put b1 b2 b3 (fun q hq=>by simp[Value.ownBlock]at hq));clear b1 b2 b3;have HMAP:Hid (([]++[((⟨12,x,[]⟩:SynP.Node),(Value.slice none 0 0))]).map Prod.fst=(SynP.Ln.cmd x .nil).flat):=rfl;go_wp2_with fail;refine(Jw R _ L fin a3 s3 nv6 _ _ HP8.o.rs).mono ?_;rintro e w7 ⟨rfl,b1⟩;have HP9:=zq (HP8.o.step (HP8.o.rs.below b1) (Wr.of_below b1));clear b1;by_cases hts:s3.ts=[]
   ·have HR4:Hid (r=some (.ok (.cmd x .nil,s3))):=by show _=_;rw[HR2.o];unfold SynP.done;rw[if_pos hts];rfl
    rw[decide_eq_true hts];clear hts;go_wp2_with fail
    first|go_end0|refine bodyPost_ret (results_none rfl _ _ _) rfl ?_
    rw[HR4.o];exact⟨rfl,a3,nv6,_,HP9.o.rs,HP9.o.wr,HMAP.o,HP9.o.mv,HP9.o.fresh⟩
   ·have HR4:Hid (r=SynP.unfit fin s3):=by show _=_;rw[HR2.o];unfold SynP.done;rw[if_neg hts]
    rw[decide_eq_false hts];clear hts;go_wp2_with fail;refine(J8 R _ L fin a3 s3 nv6 _ _ HP9.o.rs).mono ?_;rintro e w8 ⟨rfl,b1⟩;refine⟨rfl,?_⟩;rw[HR4.o];exact⟨rfl,HP9.o.wr.trans HP9.o.mv ((Wr.of_below (R:=R) (og:=none) b1).weak _)⟩
  ·have HR2:Hid (r=(SynP.X7 fin f s3).bind fun ks s=>SynP.done fin (.cmd x ks) s):=by show _=_;rw[HR1.o,if_neg hts]
   rw[decide_eq_false hts];clear hts;go_wp2_with fail;refine((Qk4 fin f).pa R _ L a3 s3 nv [] _ HP4.o.rs (fun e=>HNE.o (by rw[HR2.o,e];rfl))).mono ?_;rintro e w5 hn
   rcases hN:SynP.X7 fin f s3 with- |(⟨fc,fk⟩|⟨k,s5⟩)<;>rw[hN]at hn
   ·exact hn.elim
   ·obtain⟨rfl,n1⟩:=hn
    refine⟨rfl,?_⟩
    have hre:r=some (.error (fc,fk)):=by rw[HR2.o];simp only[hN,SynP.PR.bind];try rfl
    rw[hre];exact⟨rfl,HP4.o.wr.trans HP4.o.mv (n1)⟩
   obtain⟨v5,a5,nv5,ns5,rfl,n1,n2,n3,n4⟩:=hn
   have HR3:Hid (r=SynP.done fin (.cmd x k) s5):=by show _=_;rw[HR2.o,hN];rfl
   have HP6:=zq (HP4.o.trans n1);have HF:=zq n3;have HKN:=zq n2;have HKF:Hid (∀q,v5.ownBlock=some q->w.heap.size<=q):=fun q hq=>Nat.le_trans HP4.o.wr.size (n4 q hq);have hfw:=n1.few;rw[List.nil_append,List.length_nil,Nat.zero_add]at hfw;clear n1 n2 n3 n4 hN;go_wp2_with fail;refine(Y5 R _ L fin a5 s5 nv5 ([]++ns5) _ HP6.o.rs ⟨12,x,k.roots 0⟩ _ HKN.o (by rw[List.nil_append];omega)).mono ?_;rintro e w6 ⟨nv6,rfl,b1,b2,b3⟩;have HP8:=zq (HP6.o.put b1 b2 b3 HKF.o);clear b1 b2 b3
   have hmap:(([]++ns5)++[((⟨12,x,k.roots 0⟩:SynP.Node),v5)]).map Prod.fst=(SynP.Ln.cmd x k).flat:=by
    rw[List.nil_append,List.map_append,HF.o];rfl
   have HMAP:=zq hmap;clear hmap;go_wp2_with fail;refine(Jw R _ L fin a5 s5 nv6 _ _ HP8.o.rs).mono ?_;rintro e w7 ⟨rfl,b1⟩;have HP9:=zq (HP8.o.step (HP8.o.rs.below b1) (Wr.of_below b1));clear b1;by_cases hts:s5.ts=[]
   ·have HR4:Hid (r=some (.ok (.cmd x k,s5))):=by show _=_;rw[HR3.o];unfold SynP.done;rw[if_pos hts];rfl
    rw[decide_eq_true hts];clear hts;go_wp2_with fail
    first|go_end0|refine bodyPost_ret (results_none rfl _ _ _) rfl ?_
    rw[HR4.o];exact⟨rfl,a5,nv6,_,HP9.o.rs,HP9.o.wr,HMAP.o,HP9.o.mv,HP9.o.fresh⟩
   ·have HR4:Hid (r=SynP.unfit fin s5):=by show _=_;rw[HR3.o];unfold SynP.done;rw[if_neg hts]
    rw[decide_eq_false hts];clear hts;go_wp2_with fail;refine(J8 R _ L fin a5 s5 nv6 _ _ HP9.o.rs).mono ?_;rintro e w8 ⟨rfl,b1⟩;refine⟨rfl,?_⟩;rw[HR4.o];exact⟨rfl,HP9.o.wr.trans HP9.o.mv ((Wr.of_below (R:=R) (og:=none) b1).weak _)⟩
theorem Qw1 (fin f:Nat)(R:Nat)(tv:Value)(L:List Tok)(s:SynP.St)(nv:Value)(w:World)(h:RS w R tv L fin 0 s nv [])(hne:SynP.line fin f s≠none):
  Calls Tryz.prog 49 #[.pointer (some ⟨R,0,none⟩)] w (LnP (SynP.line fin f s) R tv L fin nv w):=by
 by_cases h0:s.ts=[]
 ·exact Qvn fin f R tv L s nv w h h0
 ·cases hl:(SynP.Qb 2 s.ts && SynP.Xl s.ts==SynP.letB) with
  |false=>exact Qgj fin f R tv L s nv w h h0 hl hne
  |true=>
   rw[Bool.and_eq_true]at hl;exact Qw2 fin f R tv L s nv w h hl.1 (by simpa using hl.2) hne
theorem Qqb {P:Program}{fn:Func}{c₀:Frame}{cs:List Frame}{R:Ending->FrameMode->World->Prop}{c:Code}{a:Act}{w:World}(u':FrameMode)(h:c.wp P (bodyPost P fn (fun e w'=>R e u' w')) a w):
  c.wpS P (bodyPostS P fn c₀ cs R) a ({c₀ with mode:=u'}::cs) w:=fun b k _ _=>by
 obtain⟨e,a',w',q,r⟩:=h b k ({c₀ with mode:=u'}::cs);refine⟨e,a',_,w',?_,r⟩
 cases e with
 |normal=>exact⟨q.1,u',rfl,q.2⟩
 |ret=>exact⟨q.1,u',rfl,q.2⟩
 |panic ch=>exact⟨q.1,u',rfl,q.2⟩
 |outgrown=>exact⟨u',q⟩
 |exit i=>exact q.elim
 |goto i=>exact q.elim
theorem Nc (c k:Int)(w:World):(Instr.typeAssert (.iface 81 (.agg #[.int .i64 c,.int .i64 k])) 20 81 true).run Tryz.prog w=.ok (.tuple #[.agg #[.int .i64 c,.int .i64 k],.bool true]) w:=by
 unfold Instr.typeAssert;simp[go_sem,Tryz.underlying20]
theorem Sv (g c k:Nat)(x y:Value)(w:World)(hb:w.heap[g]?=some (.cells #[x,y] 81 (0,0))):
  CallsD Tryz.prog 92 #[.pointer (some ⟨g,0,none⟩)] (.panicking [{v:=.iface 81 (.agg #[.int .i64 (c:Nat),.int .i64 (k:Nat)]),recovered:=false}]) w fun e u' w'=>
   e=.returned (.tuple #[])/\u'=.panicking [{v:=.iface 81 (.agg #[.int .i64 (c:Nat),.int .i64 (k:Nat)]),recovered:=true}]/\w'=((w.setCell ⟨g,0,none⟩ (.int .i64 (c:Nat))).setCell ⟨g,1,none⟩ (.int .i64 (k:Nat))).alloc (.cells #[.int .i64 (c:Nat),.int .i64 (k:Nat)] 81):=by
 refine callsD_of_wpS Tryz.func92 rfl fun c₀ cs hu=> ?_;have hg:g<w.heap.size:=(Array.getElem?_eq_some_iff.1 hb).1;have hz0:w.frozen? ⟨g,0,none⟩=false:=frozen_of_row w g 0 _ _ hb;have hz1:w.frozen? ⟨g,1,none⟩=false:=frozen_of_row w g 1 _ _ hb
 have hc0:w.cell? ⟨g,0,none⟩=some x:=by rw[cell_of_row w g 0 _ _ _ hb];rfl
 have hc1:w.cell? ⟨g,1,none⟩=some y:=by rw[cell_of_row w g 1 _ _ _ hb];rfl
 apply wpS_seq;apply wpS_region;simp[wpOpsS,go_sem,recoverD,hu,Tryz.ntmps92,Exit.thenS];refine Qqb (.panicking [{v:=.iface 81 (.agg #[.int .i64 (c:Nat),.int .i64 (k:Nat)]),recovered:=true}]) ?_;clear hb;simp only[Array.replicate_succ,Array.replicate_zero,List.push_toArray,List.append_toArray,List.nil_append,List.cons_append,List.setIfInBounds_toArray,List.set];have hta:∀(c k:Int) (w:World),(Instr.typeAssert (.iface 81 (.agg #[.int .i64 c,.int .i64 k])) 20 81 true).run Tryz.prog w=.ok (.tuple #[.agg #[.int .i64 c,.int .i64 k],.bool true]) w:=Nc;go_wp2_with fail;go_end0;exact⟨rfl,trivial,rfl⟩
theorem U5 (g:Nat)(w:World):
  CallsD Tryz.prog 92 #[.pointer (some ⟨g,0,none⟩)] .returning w fun e u' w'=>e=.returned (.tuple #[])/\u'=.returning/\w'=w:=by
 refine callsD_of_wpS Tryz.func92 rfl fun c₀ cs hu=> ?_;apply wpS_seq;apply wpS_region;simp[wpOpsS,go_sem,recoverD,hu,Tryz.ntmps92,Exit.thenS];refine Qqb c₀.mode ?_;rw[hu];simp only[Array.replicate_succ,Array.replicate_zero,List.push_toArray,List.append_toArray,List.nil_append,List.cons_append,List.setIfInBounds_toArray,List.set];go_wp2_with fail;go_end0;exact⟨rfl,trivial,rfl⟩
def GuP (r:SynP.PR SynP.Ln)(R:Nat)(tv:Value)(L:List Tok)(fin:Nat)(nv:Value)(w:World)(e:Ending)(w':World):Prop:=
 match r with
 |none=>False
 |some (.error (c,k))=>e=.returned (.agg #[.int .i64 (c:Nat),.int .i64 (k:Nat)])/\Wr R nv.ownBlock w w'
 |some (.ok (n,s'))=>e=.returned (.agg #[.int .i64 0,.int .i64 0])/\ ∃a' nv' ns',RS w' R tv L fin a' s' nv' ns'/\Wr R nv.ownBlock w w'/\ns'.map Prod.fst=n.flat
theorem Wr.sets {R g o:Nat}{og:Option Nat}{w w2:World}(h:Wr R og w w2)(hg:w.heap.size<=g)(u:Value):Wr R og w (w2.setCell ⟨g,o,none⟩ u):=
 ⟨h.os,h.tape,h.output,by simpa [World.setCell] using h.size,fun k hk hR ho=>(heap_setCell_other w2 ⟨g,o,none⟩ k u (by show k≠g;omega)).trans (h.block k hk hR ho)⟩
theorem Wr.allocs {R:Nat}{og:Option Nat}{w w2:World}(h:Wr R og w w2)(x:Obj):Wr R og w (w2.alloc x):=
 ⟨h.os,h.tape,h.output,Nat.le_trans h.size (Qq w2 x).size,fun k hk hR ho=>((Qq w2 x).block k (Nat.lt_of_lt_of_le hk h.size)).trans (h.block k hk hR ho)⟩
theorem Tw {g o:Nat}(w:World)(u:Value):w.grownBy (w.setCell ⟨g,o,none⟩ u) (some g):=
 ⟨rfl,rfl,rfl,by simp[World.setCell],fun k _ hk=>heap_setCell_other w ⟨g,o,none⟩ k u (fun e=>hk (by rw[e]))⟩
theorem Dp (fin f:Nat)(R:Nat)(tv:Value)(L:List Tok)(s:SynP.St)(nv:Value)(w:World)(h:RS w R tv L fin 0 s nv [])(hne:SynP.line fin f s≠none):
  Calls Tryz.prog 48 #[.func (.func 49) #[.pointer (some ⟨R,0,none⟩)] #[]] w (GuP (SynP.line fin f s) R tv L fin nv w):=by
 have hmf:∀(fn:Fn) (first cap:Array Value) (w:World),(Instr.makeFunc fn first cap).run Tryz.prog w=.ok (.func fn first cap) w:=fun _ _ _ _=>rfl;have HA:=zq (Qq w (.cells #[.int .i64 0,.int .i64 0] 81));have HS:=zq (h.below HA.o);have hRl:=h.lt;have HB:=zq (heap_alloc_new w (.cells #[.int .i64 0,.int .i64 0] 81));have HNE:=zq hne;have HLT:Hid (∀q,nv.ownBlock=some q->q<w.heap.size):=fun q hq=>(h.own.lt q hq).2;clear h hne;go_enter_defers Tryz.func48,Tryz.ntmps48;go_wp2_with fail;refine(Qw1 fin f R tv L s nv _ HS.o HNE.o).mono ?_;rintro e w2 hn
 rcases hN:SynP.line fin f s with- |(⟨c,k⟩|⟨n,s'⟩)<;>rw[hN]at hn
 ·exact hn.elim
 ·obtain⟨rfl,n1⟩:=hn
  have hb:w2.heap[w.heap.size]?=some (.cells #[.int .i64 0,.int .i64 0] 81 (0,0)):=(n1.block w.heap.size (by simp) (by omega) (fun e=>by have:=HLT.o _ e.symm;omega)).trans HB.o;have hwr:=(Wr.of_below (R:=R) (og:=nv.ownBlock) HA.o).trans (Mv.refl _ _) n1;have HWR:=zq hwr;clear n1 hwr;refine leaves_cons (f:=92) (args:= #[.pointer (some ⟨w.heap.size,0,none⟩)]) (by simp) (by simp[go_sem]) ?_;refine(Sv w.heap.size c k _ _ _ hb).mono ?_;rintro e u' w3 ⟨rfl,rfl,hw3⟩
  have hfin:Wr R nv.ownBlock w w3:=by rw[hw3];exact((HWR.o.sets (Nat.le_refl _) _).sets (Nat.le_refl _) _).allocs _
  have hlt:=(Array.getElem?_eq_some_iff.1 hb).1;have s1:=heap_setCell_same w2 w.heap.size 0 _ 81 (.int .i64 (c:Nat)) hb;have s2:=heap_setCell_same (w2.setCell ⟨w.heap.size,0,none⟩ (.int .i64 (c:Nat))) w.heap.size 1 _ 81 (.int .i64 (k:Nat)) s1
  have s3:w3.heap[w.heap.size]?=some (.cells #[.int .i64 (c:Nat),.int .i64 (k:Nat)] 81 (0,0)):=by
   rw[hw3];exact((Qq _ _).block w.heap.size (by simpa [World.setCell] using hlt)).trans (s2.trans (by simp))
  have q0:w3.cell? ⟨w.heap.size,0,none⟩=some (.int .i64 (c:Nat)):=by rw[cell_of_row _ _ 0 _ _ _ s3];rfl
  have q1:w3.cell? ⟨w.heap.size,1,none⟩=some (.int .i64 (k:Nat)):=by rw[cell_of_row _ _ 1 _ _ _ s3];rfl
  have HF:=zq hfin;clear s1 s2 s3 hw3 hfin hb;simp[Leaves,settle,results,Tryz.results48,go_sem,q0,q1];exact⟨rfl,HF.o⟩
 ·obtain⟨rfl,a',nv',ns',n1,n2,n3,n4,n5⟩:=hn
  have hb:w2.heap[w.heap.size]?=some (.cells #[.int .i64 0,.int .i64 0] 81 (0,0)):=(n2.block w.heap.size (by simp) (by omega) (fun e=>by have:=HLT.o _ e.symm;omega)).trans HB.o;have hz0:w2.frozen? ⟨w.heap.size,0,none⟩=false:=frozen_of_row _ _ 0 _ _ hb;have hz1:w2.frozen? ⟨w.heap.size,1,none⟩=false:=frozen_of_row _ _ 1 _ _ hb
  have hc0:w2.cell? ⟨w.heap.size,0,none⟩=some (.int .i64 0):=by rw[cell_of_row _ _ 0 _ _ _ hb];rfl
  have hc1:w2.cell? ⟨w.heap.size,1,none⟩=some (.int .i64 0):=by rw[cell_of_row _ _ 1 _ _ _ hb];rfl
  have hne1:nv'.ownBlock≠some w.heap.size:=fun e=>by
   rcases n4 _ e with h1|h1
   ·have:=HLT.o _ h1;omega
   ·simp at h1;omega
  have hne2:∀p∈ns',p.2.ownBlock≠some w.heap.size:=fun p hp e=>by
   have h1:=n5 p hp _ e;simp at h1;omega
  have g1:=(n1.growK (Tw (g:=w.heap.size) (o:=0) w2 (.int .i64 0)) (fun q hq=>by cases hq;exact⟨hRl,hne1,hne2⟩)).1;have g2:=(g1.growK (Tw (g:=w.heap.size) (o:=1) _ (.int .i64 0)) (fun q hq=>by cases hq;exact⟨hRl,hne1,hne2⟩)).1;have G2:=zq g2;have HWR:=zq (((((Wr.of_below (R:=R) (og:=nv.ownBlock) HA.o).trans (Mv.refl _ _) n2).sets (g:=w.heap.size) (o:=0) (Nat.le_refl _) (.int .i64 0)).sets (g:=w.heap.size) (o:=1) (Nat.le_refl _) (.int .i64 0)));have N3:=zq n3;have s1:=heap_setCell_same w2 w.heap.size 0 _ 81 (.int .i64 0) hb;have S2:=zq (heap_setCell_same (w2.setCell ⟨w.heap.size,0,none⟩ (.int .i64 0)) w.heap.size 1 _ 81 (.int .i64 0) s1);clear n1 n2 n3 n4 n5 hb hne1 hne2 g1 g2 s1;go_wp2_with fail;refine leaves_cons (f:=92) (args:= #[.pointer (some ⟨w.heap.size,0,none⟩)]) (by simp) (by simp[go_sem]) ?_;refine(U5 w.heap.size _).mono ?_;rintro e u' w3 ⟨rfl,rfl,hw3⟩;rw[<-hw3]at G2 HWR
  have q0:w3.cell? ⟨w.heap.size,0,none⟩=some (.int .i64 0):=by rw[hw3,cell_of_row _ _ 0 _ _ _ S2.o];rfl
  have q1:w3.cell? ⟨w.heap.size,1,none⟩=some (.int .i64 0):=by rw[hw3,cell_of_row _ _ 1 _ _ _ S2.o];rfl
  clear hw3;simp[Leaves,settle,results,Tryz.results48,go_sem,q0,q1];rw[hN];exact⟨rfl,a',nv',ns',G2.o,HWR.o,N3.o⟩
theorem Qj {a b c:World}(h:Below a.heap.size a b)(k:Below b.heap.size b c):Below a.heap.size a c:=h.trans (k.mono h.size)
def Fits (l:Qx):Prop:=l.length<=67108864
theorem Qja:∀(n:Nat) (cs:List C) (col:Nat) (ts:List Tok),cs.length<=n->Toks col cs=.ok ts->(ts.map fun t=>t.2.1.length+1).sum<=(Qw cs).length+2*cs.length:=by
 intro n
 induction n with
 |zero=>
  intro cs col ts I h;rw[List.eq_nil_of_length_eq_zero (Nat.le_zero.1 I),Yy]at h
  cases h
  exact Nat.zero_le _
 |succ n ih=>
  intro cs col ts I h
  cases cs with
  |nil=>
   rw[Yy]at h
   cases h
   exact Nat.zero_le _
  |cons c cs=>
   have E:∀(k col:Nat) (m:List Tok),1<=k->Toks col ((c::cs).drop k)=.ok m->(m.map fun t=>t.2.1.length+1).sum+(Qw ((c::cs).take k)).length+2<=(Qw (c::cs)).length+2*(c::cs).length:=by
    intro k col m J H;have e:=congrArg List.length (SynP.W8 k (c::cs));rw[List.length_append]at e
    have K:((c::cs).drop k).length+1<=(c::cs).length:=by rw[List.length_drop,List.length_cons];omega
    have:=ih _ _ _ (by omega) H;omega
   have J:=Pk c;by_cases k0:kd c=0
   ·rw[Vl _ k0]at h;cases h
   by_cases k1:kd c=1
   ·rw[Y8 _ k1]at h
    have:=E 1 _ _ (Nat.le_refl _) h;omega
   by_cases k2:kd c=2
   ·rw[Jf _ k2]at h
    split at h
    ·cases h
    ·cases h
     exact Nat.zero_le _
   by_cases k3:kd c=3
   ·rw[Ji _ k3]at h
    split at h
    ·cases h
    ·obtain⟨m,H,rfl⟩:=SynP.Xa h
     have:=E _ _ _ (Xy (p:=Q7) (c:=c) (cs:=cs) (by simp[Q7,k3])) H;rw[List.map_append,List.sum_append];simp only[List.map_cons,List.map_nil,List.sum_cons,List.sum_nil];omega
   by_cases k4:kd c=4
   ·rw[Zw _ k4]at h
    split at h
    ·cases h
    ·obtain⟨m,H,rfl⟩:=SynP.Xa h
     have:=E _ _ _ (Xy (p:=isAl) (c:=c) (cs:=cs) (by simp[isAl,k4])) H;rw[List.map_append,List.sum_append];simp only[List.map_cons,List.map_nil,List.sum_cons,List.sum_nil];omega
   by_cases k5:kd c=5
   ·rw[Z2 _ k5]at h
    obtain⟨m,H,rfl⟩:=SynP.Xa h;have:=E 1 _ _ (Nat.le_refl _) H
    have e1:Qw ((c::cs).take 1)=c.2:=by simp[Qw]
    rw[e1]at this
    have O:(Z7 c).length<=c.2.length+1:=by
     unfold Z7
     repeat' split
     all_goals simp
    rw[List.map_append,List.sum_append];simp only[List.map_cons,List.map_nil,List.sum_cons,List.sum_nil];omega
   ·rw[Zs _ (by omega)]at h;cases h
theorem Fits.toks {l:Qx}(h:Fits l){ts:List Tok}(ht:Toks 1 (Qz l)=.ok ts):ts.length<=67108864/\(ts.map fun t=>t.2.1.length+1).sum<=201326592:=by
 unfold Fits at h;have H:=(W7 _ _ _ ht).1;have I:=Zp l;have E:=Qja _ _ _ _ (Nat.le_refl _) ht;rw[Yx]at E;omega
theorem Fits.good {l:Qx}(h:Fits l){ts:List Tok}(ht:Toks 1 (Qz l)=.ok ts):∀t∈ts,Qmc t:=fun t hm h1=>by
 obtain⟨a,b,c⟩:=Ch ht t hm h1;refine⟨a,b,?_,c⟩;have E:=SynP.Qkh _ _ _ _ (Nat.le_refl _) ht t hm h1;rw[Yx]at E;exact Nat.le_trans E h
def StP (l:Qx)(w:World)(e:Ending)(w':World):Prop:=
 match Toks 1 (Qz l) with
 | .error (c,k)=>e=.returned (.tuple #[.pointer none,.int .i64 (c:Nat),.int .i64 (k:Nat)])/\Below w.heap.size w w'
 | .ok ts=> ∃R tv,e=.returned (.tuple #[.pointer (some ⟨R,0,none⟩),.int .i64 0,.int .i64 0])/\w.heap.size<=R/\Below w.heap.size w w'/\RS w' R tv ts ((Qz l).length+1) 0 ⟨ts,0⟩ (.slice none 0 0) []
theorem Rk (s:ByteArray)(w:World)(hf:Fits s.data.toList)(hx:Lx w)(hs:SG w)(hsz:4<w.heap.size):
  Calls Tryz.prog 47 #[.string s] w (StP s.data.toList w):=by
 have HF:=zq hf;have HX:=zq hx;have HSG:=zq hs
 have hs4:s.size<=67108864:=by rw[Lib.size_eq];exact hf
 clear hf hx hs;go_enter Tryz.func47,Tryz.ntmps47;go_wp2_with fail;refine(Gf s _ hs4 HX.o).mono ?_;rintro e w1 ⟨v,rfl,h1,h2⟩
 cases hT:Toks 1 (Qz s.data.toList) with
 |error p=>
  obtain⟨c,k⟩:=p;have HT:=zq hT;have hk0:=(Uh _ _ _ hT).1;have H2:=zq h2;clear h1 h2 hT;have ec:(resCol (.error (c,k)):Nat)=c:=rfl;have ek:(resErr (.error (c,k)):Nat)=k:=rfl;rw[ec,ek];simp only at hk0
  have hkk:((k:Int) !=0)=true:=by simp;omega
  go_wp2_with fail;go_ret3;unfold StP;rw[HT.o]
  exact⟨rfl,H2.o⟩
 |ok ts=>
  have HT:=zq hT
  have h1':w1.ownsRow w.heap.size 119 3 v ts.length (Yh ts):=by rw[hT]at h1;exact h1
  have H1:=zq h1';obtain⟨ao,cap,rfl,-,-,-⟩:=Qm h1';have H2:=zq h2;have hcl:=SynP.Qqs _ _ _ hT
  have HCL:Hid (P5 s.data.toList=((Qz s.data.toList).length,0)):=by show _=_;unfold P5;rw[if_pos hcl]
  have hlen:=Zp s.data.toList;rw[<-Lib.size_eq]at hlen;clear h1 h1' h2 hT hcl;have ec:(resCol (.ok ts):Nat)=0:=rfl;have ek:(resErr (.ok ts):Nat)=0:=rfl;rw[ec,ek];go_wp2_with fail;refine(Bq s _ hs4).mono ?_;rintro e w2 ⟨rfl,h3⟩;rw[HCL.o];have H3:=zq h3;clear h3;obtain⟨n,hn⟩:=xq ((Qz s.data.toList).length);rw[<-hn]at hlen;simp only;rw[<-hn];have HN:=zq hn;clear hn;go_wp2_with fail;go_ret3;have hb:=Qj H2.o H3.o;obtain⟨hts,hsm⟩:=HF.o.toks HT.o;unfold StP;rw[HT.o];refine⟨w2.heap.size,.slice ao ts.length cap,rfl,hb.size,Qj hb (Qq _ _),?_⟩;have hal:=Qq w2 (.cells #[.slice ao ts.length cap,.int .i64 0,.int .i64 ((n:Int)+1),.int .i64 0,.slice none 0 0] 85);refine {blk:= ?_,tks:= ?_,drop:=rfl,le:=Nat.zero_le _,own:=World.ownsRow_nil _ _ _ _,kids:=(fun p hp=>by cases hp),apart:=(fun i j p q k h=>by simp at h),few:=(by show 0+ts.length<=_;omega),deep:=Nat.zero_le _,short:=hts,sum:=hsm,good:=HF.o.good HT.o,sg:= ?_,sgl:= ?_}
  ·rw[<-HN.o];exact heap_alloc_new w2 _
  ·obtain⟨ao',cap',e,a1,a2,a3⟩:=Qm H1.o
   cases e
   refine⟨ao,cap,rfl,a1,a2,fun h0=> ?_⟩;obtain⟨g,rfl,b1,b2,b3⟩:=a3 h0;refine⟨g,rfl,Nat.lt_of_lt_of_le b2 H3.o.size,fun j t hj=> ?_⟩;have hjl:=(List.getElem?_eq_some_iff.1 hj).1;obtain⟨c1,c2,c3⟩:=Gb ts j t hj
   have hc:∀o,(w2.alloc (.cells #[.slice (some ⟨g,0,none⟩) ts.length cap,.int .i64 0,.int .i64 ((n:Int)+1),.int .i64 0,.slice none 0 0] 85)).cell? ⟨g,o,none⟩=w1.cell? ⟨g,o,none⟩:=fun o=>
    (hal.cell (p:=⟨g,o,none⟩) (Nat.lt_of_lt_of_le b2 H3.o.size)).trans (H3.o.cell (p:=⟨g,o,none⟩) b2)
   exact⟨by rw[hc,b3 _ (by omega)];exact c1,by rw[hc,b3 _ (by omega)];exact c2,by rw[hc,b3 _ (by omega),c3]⟩
  ·exact HSG.o.below (Qj hb hal) hsz
  ·exact Nat.lt_of_lt_of_le hsz hb.size
structure Tr (w:World) (B:Nat) (nv:Value) (ns:List Nv):Prop where
 own:w.ownsRow B 43 3 nv ns.length (Yw ns)
 kids:∀p∈ns,KR w B nv.ownBlock p.2 p.1.kids
 apart:∀(i j:Nat) (p q:Nv) (k:Nat),ns[i]?=some p->ns[j]?=some q->p.2.ownBlock=some k->q.2.ownBlock=some k->i=j
theorem Vn {w:World}{B B' k n:Nat}{e:TypeId}{v:Value}{cs:List Value}(h:w.ownsRow B e k v n cs)(hB:B'<=B):w.ownsRow B' e k v n cs:=by
 refine⟨h.1,?_⟩;rcases h.2 with O|⟨g,H,I,rfl,K,J,E⟩
 ·exact .inl O
 ·exact .inr ⟨g,H,I,rfl,Nat.le_trans hB K,J,E⟩
theorem KR.low {w:World}{R R':Nat}{og:Option Nat}{v:Value}{ks:List Nat}(h:KR w R og v ks)(hr:R'<=R):KR w R' og v ks:=by
 obtain⟨ao,E,rfl,I,J,H,K,O⟩:=h;exact⟨ao,E,rfl,I,J,fun q hq=>⟨Nat.lt_of_le_of_lt hr (H q hq).1,(H q hq).2⟩,K,O⟩
theorem RS.tr {w:World}{R:Nat}{tv:Value}{L:List Tok}{fin a:Nat}{s:SynP.St}{nv:Value}{ns:List Nv}(h:RS w R tv L fin a s nv ns){B:Nat}(hB:B<=R):Tr w B nv ns:=
 ⟨Vn h.own (by omega),fun p hp=>(h.kids p hp).low hB,h.apart⟩
def PaP (l:Qx)(w:World)(e:Ending)(w':World):Prop:=
 match SynP.Yf l with
 | .error (c,k)=>e=.returned (.tuple #[.slice none 0 0,.int .i64 (c:Nat),.int .i64 (k:Nat)])/\Below w.heap.size w w'
 | .ok n=> ∃nv ns,e=.returned (.tuple #[nv,.int .i64 0,.int .i64 0])/\Below w.heap.size w w'/\Tr w' w.heap.size nv ns/\ns.map Prod.fst=n.flat
theorem Wr.belowR {R:Nat}{w0 w w':World}(h:Wr R none w w')(hb:Below w0.heap.size w0 w)(hB:w0.heap.size<=R):Below w0.heap.size w0 w':=
 ⟨h.os.trans hb.os,h.tape.trans hb.tape,h.output.trans hb.output,Nat.le_trans hb.size h.size,fun k hk=>(h.block k (Nat.lt_of_lt_of_le hk hb.size) (by omega) (by simp)).trans (hb.block k hk)⟩
theorem U3 (op:Int)(w:World):
  Calls Tryz.prog 99 #[.int .i64 op] w fun e w'=>e=.returned (.bool (SynP.Gn op))/\w=w':=by
 unfold SynP.Gn;by_cases h1:op=11
 ·subst h1
  go_enter Tryz.func99,Tryz.ntmps99;go_wp2_with fail;go_ret;exact⟨rfl,rfl⟩
 ·by_cases h2:op=12
  ·subst h2
   go_enter Tryz.func99,Tryz.ntmps99;go_wp2_with fail;go_ret;exact⟨rfl,rfl⟩
  ·have e1:(op==11)=false:=by simp[h1]
   have e2:(op==12)=false:=by simp[h2]
   go_enter Tryz.func99,Tryz.ntmps99;go_wp2_with fail;go_ret;exact⟨by rw[e1,e2];rfl,rfl⟩
theorem Si (op:Int)(n:Nat)(w:World):
  Calls Tryz.prog 100 #[.int .i64 op,.int .i64 (n:Nat)] w fun e w'=>e=.returned (.bool (SynP.cnt op n))/\w=w':=by
 have k0:(((n:Nat):Int)==0)=(n==0):=by rw[Bool.eq_iff_iff];simp
 have k1:(((n:Nat):Int)==1)=(n==1):=by rw[Bool.eq_iff_iff];simp;omega
 have k2:(((n:Nat):Int)==2)=(n==2):=by rw[Bool.eq_iff_iff];simp;omega
 have k3:decide ((1:Int)<=(n:Nat))=decide (1<=n):=by rw[decide_eq_decide];omega
 by_cases h:op∈([1,2,3,13,14,4,5,9,11,6,7,8,10,12]:List Int)
 ·simp only[List.mem_cons,List.not_mem_nil,or_false]at h
  rcases h with rfl|rfl|rfl|rfl|rfl|rfl|rfl|rfl|rfl|rfl|rfl|rfl|rfl|rfl
  all_goals
   go_enter Tryz.func100,Tryz.ntmps100;go_wp2_with fail;go_ret;exact⟨by simp only[k0,k1,k2,k3];rfl,rfl⟩
 ·simp only[List.mem_cons,List.not_mem_nil,or_false,not_or]at h
  obtain⟨h1,h2,h3,h4,h5,h6,h7,h8,h9,h10,h11,h12,h13,h14⟩:=h
  have e:SynP.cnt op n=false:=by unfold SynP.cnt;simp[h1,h2,h3,h4,h5,h6,h7,h8,h9,h10,h11,h12,h13,h14]
  have HE:=zq e
  have d1:(op==1)=false:=by simp[h1]
  have d2:(op==2)=false:=by simp[h2]
  have d3:(op==3)=false:=by simp[h3]
  have d4:(op==13)=false:=by simp[h4]
  have d5:(op==14)=false:=by simp[h5]
  have d6:(op==4)=false:=by simp[h6]
  have d7:(op==5)=false:=by simp[h7]
  have d8:(op==9)=false:=by simp[h8]
  have d9:(op==11)=false:=by simp[h9]
  have d10:(op==6)=false:=by simp[h10]
  have d11:(op==7)=false:=by simp[h11]
  have d12:(op==8)=false:=by simp[h12]
  have d13:(op==10)=false:=by simp[h13]
  have d14:(op==12)=false:=by simp[h14]
  clear e;go_enter Tryz.func100,Tryz.ntmps100;go_wp2_with fail;go_ret;exact⟨by rw[HE.o];rfl,rfl⟩
theorem Su (op:Nat)(w:World):
  Calls Tryz.prog 210 #[.int .i64 (op:Nat)] w fun e w'=>e=.returned (.bool (SynP.Vv op))/\w=w':=by
 unfold SynP.Vv
 have k6:(((op:Nat):Int)==6)=(op==6):=by rw[Bool.eq_iff_iff];simp;omega
 have k7:(((op:Nat):Int)==7)=(op==7):=by rw[Bool.eq_iff_iff];simp;omega
 cases h6:(op==6)<;>rw[h6]at k6<;>
 ·go_enter Tryz.func210,Tryz.ntmps210
  go_wp2_with fail;go_ret;exact⟨by simp[k7],rfl⟩
theorem Td (op:Nat)(w:World):
  Calls Tryz.prog 211 #[.int .i64 (op:Nat)] w fun e w'=>e=.returned (.bool (SynP.Y3 op))/\w=w':=by
 unfold SynP.Y3
 have k8:(((op:Nat):Int)==8)=(op==8):=by rw[Bool.eq_iff_iff];simp;omega
 have K8:=zq k8;clear k8
 cases h6:SynP.Vv op
 ·have H6:=zq h6
  clear h6;go_enter Tryz.func211,Tryz.ntmps211;go_wp2_with fail;refine(Su op _).mono ?_;rintro e w1 ⟨rfl,rfl⟩;rw[H6.o];go_wp2_with fail;go_ret;exact⟨by rw[K8.o];rfl,rfl⟩
 ·have H6:=zq h6
  clear h6;go_enter Tryz.func211,Tryz.ntmps211;go_wp2_with fail;refine(Su op _).mono ?_;rintro e w1 ⟨rfl,rfl⟩;rw[H6.o];go_wp2_with fail;go_ret;exact⟨rfl,rfl⟩
theorem F6 (t:Qx)(w:World)(ht:t.length<=67108864)(hx:Lx w):
  Calls Tryz.prog 162 #[.string ⟨t.toArray⟩] w fun e w'=>e=.returned (.bool (SynP.namV t))/\Below w.heap.size w w':=by
 obtain⟨T,hT⟩:=xq (⟨t.toArray⟩:ByteArray)
 have hTl:T.data.toList=t:=by rw[hT]
 have hs4:T.size<=67108864:=by rw[Lib.size_eq,hTl];exact ht
 have HX:=zq hx;have HTL:=zq hTl;rw[<-hT];clear hx hT hTl ht;go_enter Tryz.func162,Tryz.ntmps162;go_wp2_with fail;refine(Gf T _ hs4 HX.o).mono ?_;rintro e w1 ⟨v,rfl,h1,h2⟩;rw[HTL.o]at h1 ⊢;have H2:=zq h2;clear h2
 cases hK:Toks 1 (Qz t) with
 |error p=>
  obtain⟨c,k⟩:=p;have hk0:=(Uh _ _ _ hK).1
  have HV:Hid (SynP.namV t=false):=by show _=_;unfold SynP.namV;rw[hK]
  have ec:(resCol (.error (c,k)):Nat)=c:=rfl;have ek:(resErr (.error (c,k)):Nat)=k:=rfl;rw[ec,ek];simp only at hk0
  have hkk:((k:Int)==0)=false:=by simp;omega
  clear h1 hK hk0;go_wp2_with fail;go_ret
  exact⟨by rw[HV.o];rfl,H2.o⟩
 |ok ts=>
  have h1':w1.ownsRow w.heap.size 119 3 v ts.length (Yh ts):=by rw[hK]at h1;exact h1
  obtain⟨ao,cap,rfl,a1,a2,a3⟩:=Qm h1';have ec:(resCol (.ok ts):Nat)=0:=rfl;have ek:(resErr (.ok ts):Nat)=0:=rfl;rw[ec,ek];clear h1 h1';by_cases hn:ts.length=1
  ·obtain⟨x,rfl⟩:=List.length_eq_one_iff.1 hn
   obtain⟨g,rfl,-,b2,b3⟩:=a3 (by simp);obtain⟨c1,c2,-⟩:=Gb [x] 0 x rfl
   have d1:w1.cell? ⟨g,0,none⟩=some (.int .i64 (x.1:Nat)):=by rw[b3 _ (by simp)];exact c1
   have d2:w1.cell? ⟨g,1,none⟩=some (.string ⟨x.2.1.toArray⟩):=by rw[b3 _ (by simp)];exact c2
   have hk2:(((x.1:Nat):Int)==2)=(x.1==2):=by rw[Bool.eq_iff_iff];simp;omega
   have HV:Hid (SynP.namV t=(x.1==2 && x.2.1==t)):=by show _=_;unfold SynP.namV;rw[hK]
   obtain⟨k,y,c⟩:=x;clear hK a3 b3 c1 c2;have e1:([(k,y,c)]:List Tok).length=1:=rfl;rw[e1]
   cases h2:(k==2) with
   |false=>
    rw[h2]at hk2;simp only at hk2
    have HV2:Hid (SynP.namV t=false):=by show _=_;rw[HV.o];simp[h2]
    clear h2;go_wp2_with fail;go_ret
    exact⟨by rw[HV2.o];rfl,H2.o⟩
   |true=>
    rw[h2]at hk2;simp only at hk2
    have HV2:Hid (SynP.namV t=(y==t)):=by show _=_;rw[HV.o];simp[h2]
    clear h2;go_wp2_with fail;go_ret;exact⟨by rw[HV2.o,<-HTL.o,<-ByteArray.toList_eq];rfl,H2.o⟩
  ·have HV:Hid (SynP.namV t=false):=by
    show _=_;unfold SynP.namV;rw[hK]
    match ts,hn with
    | [],_=>rfl
    |_::_::_,_=>rfl
    | [_],hn=>exact absurd rfl hn
   have hnn:(((ts.length:Nat):Int)==1)=false:=by simp;omega
   clear hK a3;go_wp2_with fail;go_ret;exact⟨by rw[HV.o];rfl,H2.o⟩
theorem Qvs (op side part:Nat)(w:World):
  Calls Tryz.prog 163 #[.int .i64 (op:Nat),.int .i64 (side:Nat),.int .i64 (part:Nat)] w fun e w'=>e=.returned (.bool (SynP.Qp op side part))/\w=w':=by
 have s1:(((side:Nat):Int)==1)=(side==1):=by rw[Bool.eq_iff_iff];simp;omega
 have p4:(((part:Nat):Int)==4)=(part==4):=by rw[Bool.eq_iff_iff];simp;omega
 have p9:(((part:Nat):Int)==9)=(part==9):=by rw[Bool.eq_iff_iff];simp;omega
 obtain⟨S,hS⟩:=xq (SynP.Vv part);obtain⟨Q,hQ⟩:=xq (SynP.Y3 part);have HS:=zq hS;have HQ:=zq hQ;clear hS hQ;by_cases h67:op=6\/op=7
 ·have HV:Hid (SynP.Qp op side part=(side==1 && S)):=by
   show _=_;unfold SynP.Qp;rw[HS.o]
   rcases h67 with rfl|rfl<;>rfl
  cases hs:(side==1)<;>rw[hs]at s1<;>rcases h67 with rfl|rfl
  all_goals
   have HV2:=HV;rw[hs]at HV2;clear HV hs;go_enter Tryz.func163,Tryz.ntmps163;go_wp2_with fail
   try (refine(Su part _).mono ?_;rintro e w1 ⟨rfl,rfl⟩;rw[<-HS.o];go_wp2_with fail)
   go_ret;exact⟨by rw[HV2.o];rfl,rfl⟩
 ·obtain⟨h6,h7⟩:=not_or.1 h67
  have d6:(((op:Nat):Int)==6)=false:=by simp;omega
  have d7:(((op:Nat):Int)==7)=false:=by simp;omega
  by_cases h8:op=8
  ·subst h8
   have HV:Hid (SynP.Qp 8 side part=(S||(side==1 && Q))):=by
    show _=_;unfold SynP.Qp;rw[HS.o,HQ.o];rfl
   cases S
   ·cases hs:(side==1)<;>rw[hs]at s1
    all_goals
     have HV2:=HV;rw[hs]at HV2;clear HV hs;go_enter Tryz.func163,Tryz.ntmps163;go_wp2_with fail;refine(Su part _).mono ?_;rintro e w1 ⟨rfl,rfl⟩;rw[<-HS.o];go_wp2_with fail
     try (refine(Td part _).mono ?_;rintro e w1 ⟨rfl,rfl⟩;rw[<-HQ.o];go_wp2_with fail)
     go_ret;exact⟨by rw[HV2.o];rfl,rfl⟩
   ·go_enter Tryz.func163,Tryz.ntmps163
    go_wp2_with fail;refine(Su part _).mono ?_;rintro e w1 ⟨rfl,rfl⟩;rw[<-HS.o];go_wp2_with fail;go_ret;exact⟨by rw[HV.o];rfl,rfl⟩
  ·have d8:(((op:Nat):Int)==8)=false:=by simp;omega
   by_cases h4:op=4
   ·subst h4
    have HV:Hid (SynP.Qp 4 side part=Q):=by
     show _=_;unfold SynP.Qp;rw[HQ.o];rfl
    go_enter Tryz.func163,Tryz.ntmps163;go_wp2_with fail;refine(Td part _).mono ?_;rintro e w1 ⟨rfl,rfl⟩;rw[<-HQ.o];go_wp2_with fail;go_ret;exact⟨by rw[HV.o];rfl,rfl⟩
   ·have d4:(((op:Nat):Int)==4)=false:=by simp;omega
    by_cases h95:op=9\/op=5
    ·have HV:Hid (SynP.Qp op side part=(Q||part==4||part==9)):=by
      show _=_;unfold SynP.Qp;rw[HQ.o]
      rcases h95 with rfl|rfl<;>rfl
     cases Q<;>cases hp:(part==4)<;>rw[hp]at p4<;>rcases h95 with rfl|rfl
     all_goals
      have HV2:=HV;rw[hp]at HV2;clear HV hp;go_enter Tryz.func163,Tryz.ntmps163;go_wp2_with fail;refine(Td part _).mono ?_;rintro e w1 ⟨rfl,rfl⟩;rw[<-HQ.o];go_wp2_with fail;go_ret;exact⟨by rw[HV2.o];first|rfl|(rw[p9];rfl),rfl⟩
    ·obtain⟨h9,h5⟩:=not_or.1 h95
     have d9:(((op:Nat):Int)==9)=false:=by simp;omega
     have d5:(((op:Nat):Int)==5)=false:=by simp;omega
     have HV:Hid (SynP.Qp op side part=false):=by
      show _=_;unfold SynP.Qp;simp[h6,h7,h8,h4,h9,h5]
     clear h67 h95;go_enter Tryz.func163,Tryz.ntmps163;go_wp2_with fail;go_ret;exact⟨by rw[HV.o];rfl,rfl⟩
theorem Sr (F:FuncId)(hf:∀args w,(callFunc F args).run Tryz.prog w=.ok (.enter F args) w)(R:Nat)(tv bv:Value)(out:Qx)(o m:Nat)(w:World)(h:WrS w R tv bv out o m)(hl:out.length<=549755813888)(ho:o<=100000)(a b:Value)(X:Qx)(hX:X.length<=274877906944)(d:Nat)(hd:d<=100000)
  (HF:∀bv2 w2,WrS w2 R tv bv2 (out++[40]) (o+1) (max m (o+1))->Wr R bv.ownBlock w w2->Mv w bv.ownBlock bv2.ownBlock->Calls Tryz.prog F #[a,b] w2 (WrP R tv bv2 (out++[40]++X) (o+1) (max (max m (o+1)) (o+1+d)) (.tuple #[]) w2)):
  Calls Tryz.prog 106 #[.pointer (some ⟨R,0,none⟩),.func (.func F) #[] #[a,b]] w (WrP R tv bv (out++([40]++X++[41])) o (max m (o+(d+1))) (.tuple #[]) w):=by
 have HS:=zq h;have HFF:=zq HF;obtain⟨OUT,hOUT⟩:=xq (out++([40]++X++[41]));obtain⟨M,hM⟩:=xq (max m (o+(d+1)));rw[<-hOUT,<-hM];have HOUT:=zq hOUT;have HM:=zq hM;clear hOUT hM;obtain⟨-,c3,c4⟩:=h.cells;have f3:=h.fro 3;obtain⟨o1,ho1⟩:=xq (o+1)
 have hw:((o:Nat):Int)+1=((o1:Nat):Int):=by omega
 have hb1:∃av,(av=.pointer none\/av=.pointer (some ⟨R,1,none⟩))/\(w.setCell ⟨R,3,none⟩ (.int .i64 (o1:Nat))).heap[R]?=some (.cells #[tv,av,bv,.int .i64 (o1:Nat),.int .i64 (m:Nat)] 92 (0,0)):=by
  obtain⟨av,ha,hb⟩:=h.blk;exact⟨av,ha,(heap_setCell_same w R 3 _ 92 (.int .i64 (o1:Nat)) hb).trans (by simp)⟩
 have HB1:=zq hb1;obtain⟨w1,hw1⟩:∃w1,w1=w.setCell ⟨R,3,none⟩ (.int .i64 (o1:Nat)):=⟨_,rfl⟩;rw[<-hw1]at HB1
 have HW1:Hid (Wr R none w w1):=by show Wr R none w w1;rw[hw1];exact Wr.of_set w 3 _
 have HO1:Hid (w1.ownsRow (R+1) 5 1 bv out.length (u8s out)):=by show _;rw[hw1];exact ownsRow_setCell_below h.own (by simp) _
 have d3:w1.cell? ⟨R,3,none⟩=some (.int .i64 (o1:Nat)):=by
  obtain⟨av,-,hb⟩:=HB1.o;rw[cell_of_row w1 R _ _ _ _ hb];rfl
 have d4:w1.cell? ⟨R,4,none⟩=some (.int .i64 (m:Nat)):=by
  obtain⟨av,-,hb⟩:=HB1.o;rw[cell_of_row w1 R _ _ _ _ hb];rfl
 have e4:w1.frozen? ⟨R,4,none⟩=false:=by
  obtain⟨av,-,hb⟩:=HB1.o;exact frozen_of_row w1 R 4 _ _ hb
 obtain⟨m1,hm1⟩:=xq (max m o1)
 have hmx:max ((m:Nat):Int) ((o1:Nat):Int)=((m1:Nat):Int):=by omega
 have HW1E:=zq hw1;have HLE:=zq h.le;have HSM:=zq (WrS.setM (m':=m1) HB1.o HO1.o (by omega));have HOE:=zq ho1;have HME:=zq hm1;clear h HF hb1 ho1 hm1;go_enter Tryz.func106,Tryz.ntmps106;go_wp2_with fail;rw[<-hw1];clear hw1;go_region;go_wp2_with fail;obtain⟨w2,hw2⟩:∃w2,w2=(w1.setCell ⟨R,4,none⟩ (.int .i64 (m1:Nat))).drew:=⟨_,rfl⟩;rw[<-hw2]
 have hd2:Below (w1.setCell ⟨R,4,none⟩ (.int .i64 (m1:Nat))).heap.size (w1.setCell ⟨R,4,none⟩ (.int .i64 (m1:Nat))) w2:=by rw[hw2];exact Below.drew (Below.refl _ _)
 have HB2:=zq (HSM.o.1.below hd2);have HW2:Hid (Wr R none w w2):=(HW1.o.trans (Mv.refl _ _) HSM.o.2).trans (Mv.refl _ _) (Wr.of_below hd2);clear hw2 hd2 d3 d4 e4 c3 c4 f3;refine(Uf R tv bv out o1 m1 40 _ HB2.o (by omega)).mono ?_;rintro e w3 ⟨rfl,bv3,k1,k2,k3⟩;rw[HME.o,HOE.o]at k1;have K1:=zq k1;have K2:Hid (Wr R bv.ownBlock w w3):=(HW2.o.weak _).trans (Mv.refl _ _) k2;have K3:Hid (Mv w bv.ownBlock bv3.ownBlock):=Mv.trans (R:=R) (w':=w2) (Mv.refl _ _) HW2.o.size k3;clear k1 k2 k3;go_wp2_with fail;refine(HFF.o bv3 w3 K1.o K2.o K3.o).mono ?_;rintro e w4 ⟨rfl,bv4,l1,l2,l3⟩;have L1:=zq l1;have L2:Hid (Wr R bv.ownBlock w w4):=K2.o.trans K3.o l2;have L3:Hid (Mv w bv.ownBlock bv4.ownBlock):=Mv.trans (R:=R) (w':=w3) K3.o K2.o.size l3;clear l1 l2 l3;go_wp2_with fail;refine(Uf R tv bv4 _ _ _ 41 _ L1.o (by simp only[List.length_append,List.length_singleton];omega)).mono ?_;rintro e w5 ⟨rfl,bv5,q1,q2,q3⟩;rw[<-HOE.o]at q1;have g3:=q1.cells.2.1;have gf:=q1.fro 3
 have hw5:((o1:Nat):Int)-1=((o:Nat):Int):=by have:=HOE.o;omega
 have Q2:Hid (Wr R bv.ownBlock w w5):=L2.o.trans L3.o q2;have Q3:Hid (Mv w bv.ownBlock bv5.ownBlock):=Mv.trans (R:=R) (w':=w4) L3.o L2.o.size q3;have Q1:=zq (q1.setO (o':=o) (by have:=HOE.o;omega))
 have ho1b:o1<=100001:=by have:=HOE.o;omega
 clear q1 q2 q3;go_wp2_with fail
 first|go_end0|refine bodyPost_ret (results_none rfl _ _ _) rfl ?_
 have e1:out++[40]++X++[41]=OUT:=by rw[HOUT.o];simp
 have e2:max (max m o1) (o1+d)=M:=by rw[HM.o,HOE.o];omega
 have q5:=Q1.o.1;rw[e1,e2]at q5;exact⟨rfl,bv5,q5,Q2.o.trans Q3.o (Q1.o.2.weak _),Mv.trans (R:=R) (w':=w5) Q3.o Q2.o.size (Mv.refl _ _)⟩
theorem Qq0:type_of% (Sr 164 (enters_of Tryz.func164 (by kernel_rfl) rfl)):=Sr 164 (enters_of Tryz.func164 (by kernel_rfl) rfl)
theorem Qqe:type_of% (Sr 107 (enters_of Tryz.func107 (by kernel_rfl) rfl)):=Sr 107 (enters_of Tryz.func107 (by kernel_rfl) rfl)
def KL (w:World)(B:Nat)(v:Value)(ks:List Int):Prop:=∃ao cap,v=.slice ao ks.length cap/\ks.length<=cap/\cap<=maxLen/\(0<ks.length-> ∃g,ao=some ⟨g,0,none⟩/\g<B/\ ∀j k,ks[j]?=some k->w.cell? ⟨g,j,none⟩=some (.int .i64 k))
def NdL (w:World)(B:Nat)(v:Value)(l:List SynP.NI):Prop:=∃ao cap,v=.slice ao l.length cap/\l.length<=cap/\cap<=maxLen/\(0<l.length-> ∃g,ao=some ⟨g,0,none⟩/\g<B/\ ∀j x,l[j]?=some x->w.cell? ⟨g,j*3,none⟩=some (.int .i64 x.op)/\w.cell? ⟨g,j*3+1,none⟩=some (.string ⟨x.text.toArray⟩)/\ ∃kv,w.cell? ⟨g,j*3+2,none⟩=some kv/\KL w B kv x.kids)
theorem KL.below {w w':World}{B:Nat}{v:Value}{ks:List Int}(h:KL w B v ks)(hb:Below B w w'):KL w' B v ks:=by
 obtain⟨ao,E,rfl,I,J,K⟩:=h;refine⟨ao,E,rfl,I,J,fun h0=> ?_⟩;obtain⟨g,rfl,H,O⟩:=K h0;exact⟨g,rfl,H,fun j k hj=>(hb.cell (p:=⟨g,j,none⟩) H).trans (O j k hj)⟩
theorem NdL.below {w w':World}{B:Nat}{v:Value}{l:List SynP.NI}(h:NdL w B v l)(hb:Below B w w'):NdL w' B v l:=by
 obtain⟨ao,H,rfl,I,J,K⟩:=h;refine⟨ao,H,rfl,I,J,fun h0=> ?_⟩;obtain⟨g,rfl,E,O⟩:=K h0;refine⟨g,rfl,E,fun j x hj=> ?_⟩;obtain⟨a,b,kv,c,d⟩:=O j x hj;exact⟨(hb.cell (p:=⟨g,j*3,none⟩) E).trans a,(hb.cell (p:=⟨g,j*3+1,none⟩) E).trans b,kv,(hb.cell (p:=⟨g,j*3+2,none⟩) E).trans c,d.below hb⟩
theorem Wr.belowB {R:Nat}{og:Option Nat}{w w':World}(h:Wr R og w w')(hR:R<=w.heap.size)(ho:∀q,og=some q->R<q):Below R w w':=
 ⟨h.os,h.tape,h.output,h.size,fun k hk=>h.block k (by omega) (by omega) (fun e=>by have:=ho k e.symm;omega)⟩
def Xe (e:SynP.Ex):Prop:=∀(l:List SynP.NI) (R p:Nat) (tv bv:Value) (out:Qx) (o m:Nat) (w:World),WrS w R tv bv out o m->NdL w R tv l->SynP.SegN l p (e.flat p)->out.length+e.pr.length<=274877906944->o+2*e.size<=100000->p+e.size<=100000->
 Calls Tryz.prog 51 #[.pointer (some ⟨R,0,none⟩),.int .i64 ((p+e.size-1:Nat):Int)] w (WrP R tv bv (out++e.pr) o (max m (o+e.dp)) (.tuple #[]) w)
theorem Qha:∀(e:SynP.Ex) (p:Nat) (l:List SynP.NI),SynP.SegN l p (e.flat p)-> ∃x,l[p+e.size-1]?=some x/\x.op=(e.op:Nat):=by
 intro e p l h;have J:=SynP.Yj e p;have I:=SynP.Xp e
 obtain⟨n,H,E⟩:∃n,(e.flat p)[e.size-1]?=some n/\n.op=e.op:=by
  cases e<;>simp[SynP.Ex.flat,SynP.Ex.size,SynP.Yj,SynP.Ul,SynP.Ex.op,<-Nat.add_assoc,List.getElem?_append_right,List.getElem?_append_left]
 have:=h _ _ H;refine⟨_,by rw[<-Nat.add_sub_assoc I]at this;exact this,?_⟩;show ((n.op:Nat):Int)=_;rw[E]
theorem Qyf (e:SynP.Ex)(IH:Xe e)(l:List SynP.NI)(R p:Nat)(tv bv:Value)(out:Qx)(o m:Nat)(w:World)(h:WrS w R tv bv out o m)(ht:NdL w R tv l)(hs:SynP.SegN l p (e.flat p))(hl:out.length+e.pr.length<=274877906944)(ho:o+2*e.size<=100000)(hp:p+e.size<=100000)
  (a b:Addr) (K:Nat) (hK:K=p+e.size-1) (c0:w.cell? a=some (.pointer (some ⟨R,0,none⟩))) (c1:w.cell? b=some (.int .i64 (K:Nat))):
  Calls Tryz.prog 164 #[.pointer (some a),.pointer (some b)] w (WrP R tv bv (out++e.pr) o (max m (o+e.dp)) (.tuple #[]) w):=by
 have HC:=zq (IH l R p tv bv out o m w h ht hs hl ho hp);rw[<-hK]at HC;obtain⟨OUT,hOUT⟩:=xq (out++e.pr);obtain⟨M,hM⟩:=xq (max m (o+e.dp));rw[<-hOUT,<-hM]at HC ⊢;clear h ht hs hl ho hp hK hOUT hM;go_enter Tryz.func164,Tryz.ntmps164;go_wp2_with fail;refine HC.o.mono ?_;rintro e w1 ⟨rfl,H⟩;have HH:=zq H;clear H;go_wp2_with fail
 first|go_end0|refine bodyPost_ret (results_none rfl _ _ _) rfl ?_
 exact⟨rfl,HH.o⟩
theorem Jk (op side:Nat)(e:SynP.Ex)(IH:Xe e)(l:List SynP.NI)(R p:Nat)(tv bv:Value)(out:Qx)(o m:Nat)(w:World)(h:WrS w R tv bv out o m)(ht:NdL w R tv l)(hs:SynP.SegN l p (e.flat p))(hl:out.length+(SynP.par (SynP.Qp op side e.op) e.pr).length<=274877906944)(ho:o+2*e.size+1<=100000)(hp:p+e.size<=100000)
  (text:ByteArray) (kv:Value) (ks:List Int) (hk:KL w R kv ks) (hsd:ks[side]?=some ((p+e.size-1:Nat):Int)):
  Calls Tryz.prog 103 #[.pointer (some ⟨R,0,none⟩),.agg #[.int .i64 (op:Nat),.string text,kv],.int .i64 (side:Nat)] w (WrP R tv bv (out++SynP.par (SynP.Qp op side e.op) e.pr) o (max m (o+SynP.parD (SynP.Qp op side e.op) e.dp)) (.tuple #[]) w):=by
 obtain⟨K,hK⟩:=xq (p+e.size-1);rw[<-hK]at hsd;have hRl:=h.lt;have hsl:=(List.getElem?_eq_some_iff.1 hsd).1;obtain⟨ko,kcap,rfl,k1,k2,k3⟩:=hk;obtain⟨kg,rfl,k4,k5⟩:=k3 (by omega);obtain⟨n,hn⟩:=xq ks.length;rw[<-hn]at hsl k1 ⊢;obtain⟨x,hx,hxo⟩:=Qha e p l hs;rw[<-hK]at hx;obtain⟨ta,tcap,rfl,t1,t2,t3⟩:=ht;have hKl:=(List.getElem?_eq_some_iff.1 hx).1;obtain⟨tg,rfl,t4,t5⟩:=t3 (by omega);obtain⟨t6,-,-⟩:=t5 K x hx;rw[hxo]at t6;obtain⟨ln,hln⟩:=xq l.length;rw[<-hln]at hKl t1 h ⊢;have hb2:Below w.heap.size w ((w.alloc (.cells #[.pointer (some ⟨R,0,none⟩)] 86)).alloc (.cells #[.int .i64 (op:Nat),.string text,.slice (some ⟨kg,0,none⟩) n kcap] 43)):=Qj (Qq _ _) (Qq _ _);have ck:((w.alloc (.cells #[.pointer (some ⟨R,0,none⟩)] 86)).alloc (.cells #[.int .i64 (op:Nat),.string text,.slice (some ⟨kg,0,none⟩) n kcap] 43)).cell? ⟨kg,side,none⟩=some (.int .i64 (K:Nat)):=(hb2.cell (p:=⟨kg,side,none⟩) (by show kg<_;omega)).trans (k5 side _ hsd);have HN:=zq hn;have HLN:=zq hln;have HKE:=zq hK;clear hn hln hK hb2;go_enter Tryz.func103,Tryz.ntmps103;go_wp2_with fail;obtain⟨w3,hw3⟩:∃w3,w3=((w.alloc (.cells #[.pointer (some ⟨R,0,none⟩)] 86)).alloc (.cells #[.int .i64 (op:Nat),.string text,.slice (some ⟨kg,0,none⟩) n kcap] 43)).alloc (.cells #[.int .i64 (K:Nat)] 3):=⟨_,rfl⟩;rw[<-hw3]
 have hb3:Below w.heap.size w w3:=by rw[hw3];exact Qj (Qj (Qq _ _) (Qq _ _)) (Qq _ _)
 have hsz3:w3.heap.size=w.heap.size+3:=by rw[hw3];simp
 have h0:w3.heap[w.heap.size]?=some (.cells #[.pointer (some ⟨R,0,none⟩)] 86 (0,0)):=by
  rw[hw3];exact((Qq _ _).block _ (by simp;omega)).trans (((Qq _ _).block _ (by simp)).trans (heap_alloc_new w _))
 have h1:w3.heap[w.heap.size+1]?=some (.cells #[.int .i64 (op:Nat),.string text,.slice (some ⟨kg,0,none⟩) n kcap] 43 (0,0)):=by
  rw[hw3];have:=heap_alloc_new (w.alloc (.cells #[.pointer (some ⟨R,0,none⟩)] 86)) (.cells #[.int .i64 (op:Nat),.string text,.slice (some ⟨kg,0,none⟩) n kcap] 43);rw[show (w.alloc (.cells #[.pointer (some ⟨R,0,none⟩)] 86)).heap.size=w.heap.size+1 by simp]at this;exact((Qq _ _).block _ (by simp)).trans this
 have h2:w3.heap[w.heap.size+2]?=some (.cells #[.int .i64 (K:Nat)] 3 (0,0)):=by
  rw[hw3];have:=heap_alloc_new ((w.alloc (.cells #[.pointer (some ⟨R,0,none⟩)] 86)).alloc (.cells #[.int .i64 (op:Nat),.string text,.slice (some ⟨kg,0,none⟩) n kcap] 43)) (.cells #[.int .i64 (K:Nat)] 3);rw[show ((w.alloc (.cells #[.pointer (some ⟨R,0,none⟩)] 86)).alloc (.cells #[.int .i64 (op:Nat),.string text,.slice (some ⟨kg,0,none⟩) n kcap] 43)).heap.size=w.heap.size+2 by simp]at this;exact this
 have HS3:=zq (h.below hb3)
 have HNL:Hid (NdL w3 R (.slice (some ⟨tg,0,none⟩) ln tcap) l):=by
  rw[HLN.o]at t1 ⊢;exact NdL.below ⟨_,tcap,rfl,t1,t2,t3⟩ (hb3.mono (by omega))
 have q0:w3.cell? ⟨w.heap.size,0,none⟩=some (.pointer (some ⟨R,0,none⟩)):=by rw[cell_of_row _ _ 0 _ _ _ h0];rfl
 have q1:w3.cell? ⟨w.heap.size+1,0,none⟩=some (.int .i64 (op:Nat)):=by rw[cell_of_row _ _ 0 _ _ _ h1];rfl
 have q2:w3.cell? ⟨w.heap.size+2,0,none⟩=some (.int .i64 (K:Nat)):=by rw[cell_of_row _ _ 0 _ _ _ h2];rfl
 have q3:=HS3.o.cells.1;have q4:w3.cell? ⟨tg,K*3,none⟩=some (.int .i64 (e.op:Nat)):=(hb3.cell (p:=⟨tg,K*3,none⟩) (by show tg<_;omega)).trans t6;have HB3:=zq hb3;have HGT:Hid (∀q,bv.ownBlock=some q->q<w.heap.size):=fun q hq=>(h.own.lt q hq).2;obtain⟨G,hG⟩:=xq w.heap.size;rw[<-hG]at q0 q1 q2 HGT hsz3 hRl ⊢;have HGE:=zq hG;have HSG:=zq hs;clear hw3 h0 h1 h2 hb3 h hG hs ck hsd t3 t5 t6 hx;have hmf:∀(fn:Fn) (first cap:Array Value) (w:World),(Instr.makeFunc fn first cap).run Tryz.prog w=.ok (.func fn first cap) w:=fun _ _ _ _=>rfl;have HLO:∀v,Calls Tryz.prog 163 #[.int .i64 (op:Nat),.int .i64 (side:Nat),.int .i64 (e.op:Nat)] v fun y v'=>y=.returned (.bool (SynP.Qp op side e.op))/\v'=v:=fun v=>(Qvs op side e.op v).mono fun _ _ h=>⟨h.1,h.2.symm⟩;go_quiet ((go_at_call 163;exact Calls.quiet_of_same (HLO _)));obtain⟨w4,hw4⟩:=xq (w3.drewN nq);rw[<-hw4]
 have hb4:Below w3.heap.size w3 w4:=by rw[hw4];exact below_drewN _ _
 have HS4:=zq (HS3.o.below hb4);have hRw:R<w3.heap.size:=HS3.o.lt;have HNL4:=zq (HNL.o.below (hb4.mono (Nat.le_of_lt hRw)));have r0:w4.cell? ⟨G,0,none⟩=some (.pointer (some ⟨R,0,none⟩)):=(hb4.cell (p:=⟨G,0,none⟩) (by show G<_;omega)).trans q0;have r2:w4.cell? ⟨G+1+1,0,none⟩=some (.int .i64 (K:Nat)):=(hb4.cell (p:=⟨G+1+1,0,none⟩) (by show G+1+1<_;omega)).trans q2;have hG4:G+3<=w4.heap.size:=Nat.le_trans (by omega) hb4.size;have HB4:Hid (Below w.heap.size w w4):=Qj HB3.o hb4;have HR0:=zq r0;have HR2:=zq r2;obtain⟨OUT,hOUT⟩:=xq (out++SynP.par (SynP.Qp op side e.op) e.pr);obtain⟨M,hM⟩:=xq (max m (o+SynP.parD (SynP.Qp op side e.op) e.dp));have HOUT:=zq hOUT;have HMM:=zq hM;rw[<-hOUT,<-hM];clear q0 q1 q2 q3 q4 hw4 hb4 HLO
 cases hB:SynP.Qp op side e.op
 case' false=>
  rw[hB]at hOUT hM hl;have hl1:out.length+e.pr.length<=274877906944:=hl;have e1:OUT=out++e.pr:=hOUT;have e2:M=max m (o+e.dp):=hM;have HC:=zq (IH l R p _ bv out o m w4 HS4.o HNL4.o HSG.o hl1 (by omega) hp);rw[<-HKE.o,<-e1,<-e2]at HC
 case' true=>
  rw[hB]at hOUT hM hl;have hl1:out.length+(([40]:Qx)++e.pr++[41]).length<=274877906944:=hl;simp only[List.length_append,List.length_cons,List.length_nil]at hl1;have e1:OUT=out++([40]++e.pr++[41]):=hOUT;have e2:M=max m (o+(e.dp+1)):=hM;have hdp:=SynP.Sp e
  have HC:=zq (Qq0 R _ bv out o m w4 HS4.o (by omega) (by omega) (.pointer (some ⟨G,0,none⟩)) (.pointer (some ⟨G+1+1,0,none⟩)) e.pr (by omega) e.dp (by omega) (fun bv2 w5 b1 b2 b3=>by
   have hG0:w5.cell? ⟨G,0,none⟩=some (.pointer (some ⟨R,0,none⟩)):=(World.cell?_of_block (b2.block G (by omega) (by omega) (fun e=>by have:=HGT.o G e.symm;omega))).trans HR0.o;have hG2:w5.cell? ⟨G+1+1,0,none⟩=some (.int .i64 (K:Nat)):=(World.cell?_of_block (b2.block (G+1+1) (by omega) (by omega) (fun e=>by have:=HGT.o _ e.symm;omega))).trans HR2.o
   exact Qyf e IH l R p _ bv2 (out++[40]) (o+1) (max m (o+1)) w5 b1 (HNL4.o.below (b2.belowB (by omega) (fun q hq=>HS4.o.gt q hq))) HSG.o (by rw[List.length_append,List.length_singleton];omega) (by omega) hp _ _ K HKE.o hG0 hG2))
  rw[<-e1,<-e2]at HC
 all_goals
  clear hOUT hM e1 e2 hB;go_wp2_with fail;refine HC.o.mono ?_;rintro y w5 ⟨rfl,bv5,a1,a2,a3⟩;have A1:=zq a1;have A2:Hid (Wr R bv.ownBlock w w5):=(Wr.of_below HB4.o).trans (Mv.refl _ _) a2;have A3:Hid (Mv w bv.ownBlock bv5.ownBlock):=Mv.trans (R:=R) (w':=w4) (Mv.refl _ _) HB4.o.size a3;clear a1 a2 a3;go_wp2_with fail
  first|go_end0|refine bodyPost_ret (results_none rfl _ _ _) rfl ?_
  have A5:=A1.o;rw[HOUT.o,HMM.o]at A5;exact⟨rfl,bv5,A5,A2.o,A3.o⟩
def Z6 (l:List Nat):List Int:=l.map fun k:Nat=>(k:Int)
def Qqu (R:Nat)(tv bv:Value)(out:Qx)(o m:Nat)(es:List SynP.Ex)(w:World)(i:Value)(wr:World):Prop:=
 ∃k bv',i=.int .i64 ((k:Nat):Int)/\k<=es.length/\WrS wr R tv bv' (out++SynP.V8 es k) o (max m (o+SynP.dpU es k))/\Wr R bv.ownBlock w wr/\Mv w bv.ownBlock bv'.ownBlock
theorem Qmp:∀(ks:SynP.Exs) (i:Nat),i<=(SynP.exL ks).length->(SynP.V8 (SynP.exL ks) i).length<=ks.pr.length:=by
 intro ks i h;rw[<-SynP.Ec ks]
 have:∀d,i+d<=(SynP.exL ks).length->(SynP.V8 (SynP.exL ks) i).length<=(SynP.V8 (SynP.exL ks) (i+d)).length:=by
  intro d
  induction d with
  |zero=>intro _;exact Nat.le_refl _
  |succ d ih=>
   intro I;have H:=ih (by omega);have E:(SynP.exL ks)[i+d]?=some (SynP.exL ks)[i+d]:=List.getElem?_eq_getElem (by omega);rw[show i+(d+1)=(i+d)+1 by omega,SynP.Ti E,List.length_append];omega
 have:=this ((SynP.exL ks).length-i) (by omega)
 rwa [show i+((SynP.exL ks).length-i)=(SynP.exL ks).length by omega]at this
theorem Qqt (ks:SynP.Exs)(IH:∀e∈SynP.exL ks,Xe e)(l:List SynP.NI)(R p:Nat)(tv bv:Value)(out:Qx)(o m:Nat)(w:World)(h:WrS w R tv bv out o m)(ht:NdL w R tv l)(hs:SynP.SegN l p (ks.flat p))(hl:out.length+ks.pr.length<=274877906944)(ho:o+2*ks.size+1<=100000)(hp:p+ks.size<=100000)
  (op:Nat) (hop:op=10\/op=12) (text:ByteArray) (kv:Value) (hk:KL w R kv (Z6 (ks.roots p))):
  Calls Tryz.prog 108 #[.pointer (some ⟨R,0,none⟩),.agg #[.int .i64 (op:Nat),.string text,kv]] w (WrP R tv bv (out++ks.pr) o (max m (o+ks.dp)) (.tuple #[]) w):=by
 have hloose:∀s q,SynP.Qp op s q=false:=by intro s q;rcases hop with rfl|rfl<;>rfl
 have hKL:=hk;obtain⟨ko,kcap,rfl,k1,k2,-⟩:=hk
 have hn:(Z6 (ks.roots p)).length=(SynP.exL ks).length:=by rw[Z6,List.length_map,SynP.Sa]
 obtain⟨n,hnn⟩:=xq ((Z6 (ks.roots p)).length);rw[<-hnn]at k1 hn hKL ⊢;have HKL:=zq hKL;have HN:=zq hnn;have hRl:=h.lt;obtain⟨w1,hw1⟩:∃w1,w1=w.alloc (.cells #[.int .i64 (op:Nat),.string text,.slice ko n kcap] 43):=⟨_,rfl⟩
 have hb1:Below w.heap.size w w1:=by rw[hw1];exact Qq _ _
 have HS1:=zq (h.below hb1);have HT1:=zq (ht.below (hb1.mono (Nat.le_of_lt hRl)));have HK1:=zq (hKL.below (hb1.mono (Nat.le_of_lt hRl)))
 have hG:w1.heap[w.heap.size]?=some (.cells #[.int .i64 (op:Nat),.string text,.slice ko n kcap] 43 (0,0)):=by rw[hw1];exact heap_alloc_new _ _
 have HG:=zq hG;have HB1:=zq hb1;have HGT:Hid (∀q,bv.ownBlock=some q->q<w.heap.size):=fun q hq=>(h.own.lt q hq).2;have HSG:=zq hs;have HNE:=zq hn;have HLO:=zq hloose;have hsz1:w.heap.size<w1.heap.size:=(Array.getElem?_eq_some_iff.1 hG).1
 have hn63:n<=100000:=by
  have:∀ks:SynP.Exs,(SynP.exL ks).length<=ks.size:=by
   intro ks
   induction ks using SynP.Exs.rec (motive_1:=fun _=>True) with
   |nil=>exact Nat.zero_le _
   |cons a l _ ih=>have:=SynP.Xp a;show (SynP.exL l).length+1<=a.size+l.size;omega
   |_=>trivial
  have:=this ks;omega
 clear h ht hs hb1 hloose hnn hn hop hKL;go_enter Tryz.func108,Tryz.ntmps108;go_wp2_with fail;rw[<-hw1];obtain⟨G,hGe⟩:=xq w.heap.size;have hRl0:=hRl;rw[<-hGe]at HG HGT hsz1 hRl ⊢;have HGE:=zq hGe;have HBB:=zq HB1.o;clear hw1 hGe hG;go_loopw [8] (fun i wr=>Qqu R tv bv out o m (SynP.exL ks) w1 i wr) (fun i _=>n-(intOf i).toNat)
 case atStart=>exact⟨0,bv,rfl,Nat.zero_le _,by rw[SynP.Qzp,SynP.Qwh,List.append_nil];rw[show max m (o+0)=m by have:=HS1.o.le;omega];exact HS1.o,Wr.refl _ _ _,Mv.refl _ _⟩
 case round=>
  obtain⟨k,bv',rfl,hk,hS,hW,hM⟩:=hrel;have hGr:wr.heap[G]?=some (.cells #[.int .i64 (op:Nat),.string text,.slice ko n kcap] 43 (0,0)):=(hW.block G (by omega) (by omega) (fun e=>by have:=HGT.o G e.symm;omega)).trans HG.o
  have c0:wr.cell? ⟨G,0,none⟩=some (.int .i64 (op:Nat)):=by rw[cell_of_row _ _ 0 _ _ _ hGr];rfl
  have c1:wr.cell? ⟨G,1,none⟩=some (.string text):=by rw[cell_of_row _ _ 1 _ _ _ hGr];rfl
  have c2:wr.cell? ⟨G,2,none⟩=some (.slice ko n kcap):=by rw[cell_of_row _ _ 2 _ _ _ hGr];rfl
  have HS:=zq hS;have HW:=zq hW;have HM:=zq hM;have HGR:=zq hGr;rw[<-HNE.o]at hk;clear hS hW hM hGr;by_cases hlt:k<n
  ·obtain⟨e,hke⟩:∃e,(SynP.exL ks)[k]?=some e:=⟨_,List.getElem?_eq_getElem (by rw[<-HNE.o];exact hlt)⟩
   obtain⟨p',hr1,hr2,hr3,hr4⟩:=SynP.Qwa (l:=l) ks p k e hke;have hie:Xe e:=IH e (List.mem_of_getElem? hke);have HIE:=zq hie
   have hsd:(Z6 (ks.roots p))[k]?=some ((p'+e.size-1:Nat):Int):=by rw[Z6,List.getElem?_map,hr1];rfl
   have HSD:=zq hsd;have HSE:=zq (hr2 HSG.o);have hep:=SynP.Xp e;have HUP:Hid (SynP.V8 (SynP.exL ks) (k+1)=SynP.V8 (SynP.exL ks) k++SynP.Mj k e):=SynP.Ti hke;have HDP:Hid (SynP.dpU (SynP.exL ks) (k+1)=max (SynP.dpU (SynP.exL ks) k) e.dp):=SynP.Qwm hke;have hup1:=Qmp ks (k+1) (by rw[<-HNE.o];omega);rw[HUP.o,List.length_append]at hup1
   have hes:e.size<=ks.size:=by omega
   have hmeas:Hid (n-(k+1)<n-k):=by show _<_;omega
   have hlt2:decide (((k:Nat):Int)<((n:Nat):Int))=true:=decide_eq_true (by omega);have hWR:Hid (Below R w wr):=((HBB.o).mono (Nat.le_of_lt hRl0)).trans (HW.o.belowB (by omega) (fun q hq=>HS1.o.gt q hq));have HTR:Hid (NdL wr R tv l):=HT1.o.below (HW.o.belowB (by omega) (fun q hq=>HS1.o.gt q hq));have HKR:Hid (KL wr R (.slice ko n kcap) (Z6 (ks.roots p))):=HK1.o.below (HW.o.belowB (by omega) (fun q hq=>HS1.o.gt q hq));have hwz:=HW.o.size;clear hke hr1 hr2 hie hsd;by_cases h0:k=0
   ·have hpc:SynP.Mj k e=e.pr:=by unfold SynP.Mj;rw[if_neg (by omega)];rfl
    rw[hpc]at hup1;have HPC:=zq hpc;have HC:=zq (Jk op k e HIE.o l R p' tv bv' _ o _ wr HS.o HTR.o HSE.o (by rw[HLO.o k e.op,List.length_append];show _+e.pr.length<=_;omega) (by omega) (by omega) text _ _ HKR.o HSD.o);rw[HLO.o k e.op]at HC;clear hpc;subst h0;go_wp2_with fail;refine HC.o.mono ?_;rintro y w5 ⟨rfl,bv5,a1,a2,a3⟩
    have hfin:Hid (Qqu R tv bv out o m (SynP.exL ks) w1 (.int .i64 1) w5):=by
     refine⟨0+1,bv5,rfl,by rw[<-HNE.o];omega,?_,HW.o.trans HM.o a2,Mv.trans (R:=R) (w':=wr) HM.o HW.o.size a3⟩;rw[HUP.o,HDP.o,HPC.o,<-List.append_assoc]
     have e2:max m (o+max (SynP.dpU (SynP.exL ks) 0) e.dp)=max (max m (o+SynP.dpU (SynP.exL ks) 0)) (o+e.dp):=by omega
     rw[e2];exact a1
    clear a1 a2 a3;go_wp2_with fail;exact⟨hfin.o,hmeas.o⟩
   ·have hpos:0<k:=by omega
    have hpc:SynP.Mj k e=[44,32]++e.pr:=by unfold SynP.Mj;rw[if_pos (by omega)]
    rw[hpc,List.length_append]at hup1;have h2l:([44,32]:Qx).length=2:=rfl;have HPC:=zq hpc;have hol:(out++SynP.V8 (SynP.exL ks) k).length=out.length+(SynP.V8 (SynP.exL ks) k).length:=List.length_append;have HSTR:=zq (Z3 R tv bv' _ o _ [44,32] wr HS.o (by omega) (by omega));clear hpc h0;go_wp2_with fail;refine HSTR.o.mono ?_;rintro y w4 ⟨rfl,bv4,a1,a2,a3⟩
    have hGr4:w4.heap[G]?=some (.cells #[.int .i64 (op:Nat),.string text,.slice ko n kcap] 43 (0,0)):=(a2.block G (by omega) (by omega) (fun e=>by
     rcases HM.o G e.symm with h1|h1
     ·have:=HGT.o G h1;omega
     ·omega)).trans HGR.o
    have d0:w4.cell? ⟨G,0,none⟩=some (.int .i64 (op:Nat)):=by rw[cell_of_row _ _ 0 _ _ _ hGr4];rfl
    have d1:w4.cell? ⟨G,1,none⟩=some (.string text):=by rw[cell_of_row _ _ 1 _ _ _ hGr4];rfl
    have d2:w4.cell? ⟨G,2,none⟩=some (.slice ko n kcap):=by rw[cell_of_row _ _ 2 _ _ _ hGr4];rfl
    have hbl:=a2.belowB (by omega) (fun q hq=>HS.o.gt q hq);have HA2:Hid (Wr R bv.ownBlock w1 w4):=HW.o.trans HM.o a2;have HA3:Hid (Mv w1 bv.ownBlock bv4.ownBlock):=Mv.trans (R:=R) (w':=wr) HM.o HW.o.size a3;have HC:=zq (Jk op k e HIE.o l R p' tv bv4 _ o _ w4 a1 (HTR.o.below hbl) HSE.o (by rw[HLO.o k e.op,List.length_append,hol];show _+e.pr.length<=_;omega) (by omega) (by omega) text _ _ (HKR.o.below hbl) HSD.o);rw[HLO.o k e.op]at HC;clear a1 a2 a3 hGr4 hbl c0 c1 c2 hol;go_wp2_with fail;refine HC.o.mono ?_;rintro y w5 ⟨rfl,bv5,a1,a2,a3⟩
    have hfin:Hid (Qqu R tv bv out o m (SynP.exL ks) w1 (.int .i64 ((k+1:Nat):Int)) w5):=by
     refine⟨k+1,bv5,rfl,by rw[<-HNE.o];omega,?_,HA2.o.trans HA3.o a2,Mv.trans (R:=R) (w':=w4) HA3.o HA2.o.size a3⟩;rw[HUP.o,HDP.o,HPC.o,<-List.append_assoc,<-List.append_assoc]
     have e2:max m (o+max (SynP.dpU (SynP.exL ks) k) e.dp)=max (max m (o+SynP.dpU (SynP.exL ks) k)) (o+e.dp):=by omega
     rw[e2];exact a1
    clear a1 a2 a3;go_wp2_with fail;exact⟨hfin.o,hmeas.o⟩
  ·have hlt2:decide (((k:Nat):Int)<((n:Nat):Int))=false:=decide_eq_false (by omega)
   have hkn:k=n:=by omega
   have hS:=HS.o;rw[hkn,HNE.o,SynP.Ec,SynP.Qz5]at hS;have HSS:=zq hS;have HWW:Hid (Wr R bv.ownBlock w wr):=(Wr.of_below HBB.o).trans (Mv.refl _ _) HW.o;have HMM:Hid (Mv w bv.ownBlock bv'.ownBlock):=Mv.trans (R:=R) (w':=w1) (Mv.refl _ _) HBB.o.size HM.o;clear hS hkn;go_wp2_with fail
   first|go_end0|refine bodyPost_ret (results_none rfl _ _ _) rfl ?_
   exact⟨rfl,bv',HSS.o,HWW.o,HMM.o⟩
structure NSt (w0:World) (og:Option Nat) (w:World) (R G:Nat) (tv bv:Value) (out:Qx) (o m:Nat) (l:List SynP.NI) (op:Nat) (text:Qx) (kv:Value) (ks:List Int):Prop where
 ws:WrS w R tv bv out o m
 wr:Wr R og w0 w
 mv:Mv w0 og bv.ownBlock
 nl:NdL w R tv l
 kl:KL w R kv ks
 h0:w.heap[G]?=some (.cells #[.pointer (some ⟨R,0,none⟩)] 86 (0,0))
 h1:w.heap[G+1]?=some (.cells #[.int .i64 (op:Nat),.string ⟨text.toArray⟩,kv] 43 (0,0))
 hR:R<G
 hG:G+2<=w0.heap.size
 ho:∀q,og=some q->q<G
theorem NSt.step {w0 w w':World}{og:Option Nat}{R G:Nat}{tv bv bv':Value}{out out':Qx}{o o' m m':Nat}{l:List SynP.NI}{op:Nat}{text:Qx}{kv:Value}{ks:List Int}(h:NSt w0 og w R G tv bv out o m l op text kv ks)
  (k1:WrS w' R tv bv' out' o' m') (k2:Wr R bv.ownBlock w w') (k3:Mv w bv.ownBlock bv'.ownBlock):NSt w0 og w' R G tv bv' out' o' m' l op text kv ks:=by
 have I:=k2.belowB (Nat.le_of_lt h.ws.lt) (fun q hq=>h.ws.gt q hq)
 have E:∀i,G<=i->i<G+2->some i≠bv.ownBlock:=fun i h1 h2 e=>by
  have hG:=h.hG;rcases h.mv i e.symm with H|H
  ·have:=h.ho i H;omega
  ·omega
 have hR:=h.hR;have hG:=h.hG;have J:=h.wr.size;exact⟨k1,h.wr.trans h.mv k2,Mv.trans (R:=R) (w':=w) h.mv h.wr.size k3,h.nl.below I,h.kl.below I,(k2.block G (by omega) (by omega) (E G (by omega) (by omega))).trans h.h0,(k2.block (G+1) (by omega) (by omega) (E (G+1) (by omega) (by omega))).trans h.h1,h.hR,h.hG,h.ho⟩
theorem NSt.below {w0 w w':World}{og:Option Nat}{R G:Nat}{tv bv:Value}{out:Qx}{o m:Nat}{l:List SynP.NI}{op:Nat}{text:Qx}{kv:Value}{ks:List Int}(h:NSt w0 og w R G tv bv out o m l op text kv ks)(hb:Below w.heap.size w w'):NSt w0 og w' R G tv bv out o m l op text kv ks:=
 h.step (h.ws.below hb) (Wr.of_below hb) (Mv.refl _ _)
theorem NSt.cells {w0 w:World}{og:Option Nat}{R G:Nat}{tv bv:Value}{out:Qx}{o m:Nat}{l:List SynP.NI}{op:Nat}{text:Qx}{kv:Value}{ks:List Int}(h:NSt w0 og w R G tv bv out o m l op text kv ks):
  w.cell? ⟨G,0,none⟩=some (.pointer (some ⟨R,0,none⟩))/\w.cell? ⟨G+1,0,none⟩=some (.int .i64 (op:Nat))/\w.cell? ⟨G+1,1,none⟩=some (.string ⟨text.toArray⟩)/\w.cell? ⟨G+1,2,none⟩=some kv:=by
 refine⟨?_,?_,?_,?_⟩
 ·rw[cell_of_row _ _ 0 _ _ _ h.h0];rfl
 ·rw[cell_of_row _ _ 0 _ _ _ h.h1];rfl
 ·rw[cell_of_row _ _ 1 _ _ _ h.h1];rfl
 ·rw[cell_of_row _ _ 2 _ _ _ h.h1];rfl
theorem NSt.fin {w w0 w':World}{R G:Nat}{tv bv bv0:Value}{out:Qx}{o m:Nat}{l:List SynP.NI}{op:Nat}{text:Qx}{kv:Value}{ks:List Int}(h:NSt w0 bv0.ownBlock w' R G tv bv out o m l op text kv ks)(hb:Below w.heap.size w w0):WrP R tv bv0 out o m (.tuple #[]) w (.returned (.tuple #[])) w':=
 ⟨rfl,bv,h.ws,(Wr.of_below hb).trans (Mv.refl _ _) h.wr,Mv.trans (R:=R) (w':=w0) (Mv.refl _ _) hb.size h.mv⟩
theorem Yq {w:World}{R K:Nat}{tv bv:Value}{out:Qx}{o m:Nat}{l:List SynP.NI}{op:Nat}{text:Qx}{ks:List Int}(h:WrS w R tv bv out o m)(ht:NdL w R tv l)(hx:l[K]?=some ⟨(op:Nat),text,ks⟩):
  ∃tg ln tcap ko kn kcap,tv=.slice (some ⟨tg,0,none⟩) ln tcap/\K<ln/\kn=ks.length/\kn<=kcap/\
   (w.alloc (.cells #[.pointer (some ⟨R,0,none⟩)] 86)).cell? ⟨R,0,none⟩=some tv/\
   (w.alloc (.cells #[.pointer (some ⟨R,0,none⟩)] 86)).cell? ⟨tg,K*3,none⟩=some (.int .i64 (op:Nat))/\
   (w.alloc (.cells #[.pointer (some ⟨R,0,none⟩)] 86)).cell? ⟨tg,K*3+1,none⟩=some (.string ⟨text.toArray⟩)/\
   (w.alloc (.cells #[.pointer (some ⟨R,0,none⟩)] 86)).cell? ⟨tg,K*3+2,none⟩=some (.slice ko kn kcap)/\
   Below w.heap.size w ((w.alloc (.cells #[.pointer (some ⟨R,0,none⟩)] 86)).alloc (.cells #[.int .i64 (op:Nat),.string ⟨text.toArray⟩,.slice ko kn kcap] 43))/\
   NSt ((w.alloc (.cells #[.pointer (some ⟨R,0,none⟩)] 86)).alloc (.cells #[.int .i64 (op:Nat),.string ⟨text.toArray⟩,.slice ko kn kcap] 43)) bv.ownBlock ((w.alloc (.cells #[.pointer (some ⟨R,0,none⟩)] 86)).alloc (.cells #[.int .i64 (op:Nat),.string ⟨text.toArray⟩,.slice ko kn kcap] 43)) R w.heap.size tv bv out o m l op text (.slice ko kn kcap) ks:=by
 have O:=(List.getElem?_eq_some_iff.1 hx).1;have U:=ht;obtain⟨ta,tcap,rfl,t1,t2,t3⟩:=ht;obtain⟨tg,rfl,t4,t5⟩:=t3 (by omega);obtain⟨a,b,kv,c,d⟩:=t5 K _ hx;have T:=d;obtain⟨ko,kcap,rfl,k1,-,-⟩:=T;obtain⟨kn,J⟩:=xq ks.length;rw[show (⟨(op:Nat),text,ks⟩:SynP.NI).kids.length=kn from J.symm]at k1 c d;have H:=h.lt;have E:=Qq w (.cells #[.pointer (some ⟨R,0,none⟩)] 86);have I:=Qj E (Qq _ (.cells #[.int .i64 (op:Nat),.string ⟨text.toArray⟩,.slice ko kn kcap] 43));refine⟨tg,l.length,tcap,ko,kn,kcap,rfl,O,J,k1,(E.cell (p:=⟨R,0,none⟩) H).trans h.cells.1,(E.cell (p:=⟨tg,K*3,none⟩) (by show tg<_;omega)).trans a,(E.cell (p:=⟨tg,K*3+1,none⟩) (by show tg<_;omega)).trans b,(E.cell (p:=⟨tg,K*3+2,none⟩) (by show tg<_;omega)).trans c,I,?_⟩;refine⟨h.below I,Wr.refl _ _ _,Mv.refl _ _,U.below (I.mono (Nat.le_of_lt H)),d.below (I.mono (Nat.le_of_lt H)),?_,?_,H,by simp,fun q hq=>(h.own.lt q hq).2⟩
 ·exact((Qq _ _).block _ (by simp)).trans (heap_alloc_new w _)
 ·have:=heap_alloc_new (w.alloc (.cells #[.pointer (some ⟨R,0,none⟩)] 86)) (.cells #[.int .i64 (op:Nat),.string ⟨text.toArray⟩,.slice ko kn kcap] 43)
  rw[show (w.alloc (.cells #[.pointer (some ⟨R,0,none⟩)] 86)).heap.size=w.heap.size+1 by simp]at this;exact this
theorem Qxi (l:List SynP.NI)(R K:Nat)(tv bv:Value)(out:Qx)(o m:Nat)(w:World)(h:WrS w R tv bv out o m)(ht:NdL w R tv l)(text:Qx)(ks:List Int)(hx:l[K]?=some ⟨((1:Nat):Int),text,ks⟩)(hl:out.length+text.length<=1099511627776):
  Calls Tryz.prog 51 #[.pointer (some ⟨R,0,none⟩),.int .i64 (K:Nat)] w (WrP R tv bv (out++text) o m (.tuple #[]) w):=by
 obtain⟨tg,ln,tcap,ko,kn,kcap,rfl,hKl,hkn,hkc,c0,c1,c2,c3,hb,hN⟩:=Yq h ht hx;have HKN:=zq hkn;have HB:=zq hb;have HN:=zq hN;obtain⟨OUT,hOUT⟩:=xq (out++text);have HOUT:=zq hOUT;obtain⟨M,hM⟩:=xq m;have HM:=zq hM;have hle:=h.le;have hmf:∀(fn:Fn) (first cap:Array Value) (w:World),(Instr.makeFunc fn first cap).run Tryz.prog w=.ok (.func fn first cap) w:=fun _ _ _ _=>rfl;rw[<-hOUT];clear hb hN h ht hx hOUT hM hkn;go_enter Tryz.func51,Tryz.ntmps51;go_wp2_with fail;obtain⟨w2,hw2⟩:=xq ((w.alloc (.cells #[.pointer (some ⟨R,0,none⟩)] 86)).alloc (.cells #[.int .i64 1,.string ⟨text.toArray⟩,.slice ko kn kcap] 43));have hw2':w2=(w.alloc (.cells #[.pointer (some ⟨R,0,none⟩)] 86)).alloc (.cells #[.int .i64 ((1:Nat):Int),.string ⟨(text:Qx).toArray⟩,.slice ko kn kcap] 43):=hw2;rw[<-hw2']at HB HN;rw[<-hw2];clear hw2 hw2' c0 c1 c2 c3;obtain⟨G,hG⟩:=xq w.heap.size;rw[<-hG]at HN ⊢;obtain⟨g0,g1,g2,g3⟩:=HN.o.cells;have HGE:=zq hG;clear hG
 go_region_held3 (fun w'=>w'.cell? ⟨G,0,none⟩=some (.pointer (some ⟨R,0,none⟩))/\w'.cell? ⟨G+1,1,none⟩=some (.string ⟨(text:Qx).toArray⟩))
  (first
   |go_keep
   |exact⟨((HN.o.below (below_drewN _ _)).step a1 a2 a3).cells.1,((HN.o.below (below_drewN _ _)).step a1 a2 a3).cells.2.2.1⟩)
  ((go_at_call 105;refine(Z3 R _ _ _ _ _ (text) _ (HN.o.ws.below (below_drewN _ _)) (by omega) (by omega)).mono ?_;rintro y w5 ⟨rfl,bv5,a1,a2,a3⟩))
 have HN5:=zq ((HN.o.below (below_drewN _ _)).step a1 a2 a3);clear a1 a2 a3 g0 g1 g2 g3;obtain⟨g0,g1,g2,g3⟩:=HN5.o.cells;go_wp2_with fail
 first|go_end0|refine bodyPost_ret (results_none rfl _ _ _) rfl ?_
 have hf:=HN5.o.fin HB.o;rw[show out++text=OUT by exact HOUT.o.symm]at hf;exact hf
theorem Qxo (l:List SynP.NI)(R K:Nat)(tv bv:Value)(out:Qx)(o m:Nat)(w:World)(h:WrS w R tv bv out o m)(ht:NdL w R tv l)(text:Qx)(ks:List Int)(hx:l[K]?=some ⟨((2:Nat):Int),text,ks⟩)(hl:out.length+text.length<=1099511627776):
  Calls Tryz.prog 51 #[.pointer (some ⟨R,0,none⟩),.int .i64 (K:Nat)] w (WrP R tv bv (out++text) o m (.tuple #[]) w):=by
 obtain⟨tg,ln,tcap,ko,kn,kcap,rfl,hKl,hkn,hkc,c0,c1,c2,c3,hb,hN⟩:=Yq h ht hx;have HKN:=zq hkn;have HB:=zq hb;have HN:=zq hN;obtain⟨OUT,hOUT⟩:=xq (out++text);have HOUT:=zq hOUT;obtain⟨M,hM⟩:=xq m;have HM:=zq hM;have hle:=h.le;have hmf:∀(fn:Fn) (first cap:Array Value) (w:World),(Instr.makeFunc fn first cap).run Tryz.prog w=.ok (.func fn first cap) w:=fun _ _ _ _=>rfl;rw[<-hOUT];clear hb hN h ht hx hOUT hM hkn;go_enter Tryz.func51,Tryz.ntmps51;go_wp2_with fail;obtain⟨w2,hw2⟩:=xq ((w.alloc (.cells #[.pointer (some ⟨R,0,none⟩)] 86)).alloc (.cells #[.int .i64 2,.string ⟨text.toArray⟩,.slice ko kn kcap] 43));have hw2':w2=(w.alloc (.cells #[.pointer (some ⟨R,0,none⟩)] 86)).alloc (.cells #[.int .i64 ((2:Nat):Int),.string ⟨(text:Qx).toArray⟩,.slice ko kn kcap] 43):=hw2;rw[<-hw2']at HB HN;rw[<-hw2];clear hw2 hw2' c0 c1 c2 c3;obtain⟨G,hG⟩:=xq w.heap.size;rw[<-hG]at HN ⊢;obtain⟨g0,g1,g2,g3⟩:=HN.o.cells;have HGE:=zq hG;clear hG
 go_region_held3 (fun w'=>w'.cell? ⟨G,0,none⟩=some (.pointer (some ⟨R,0,none⟩))/\w'.cell? ⟨G+1,1,none⟩=some (.string ⟨(text:Qx).toArray⟩))
  (first
   |go_keep
   |exact⟨((HN.o.below (below_drewN _ _)).step a1 a2 a3).cells.1,((HN.o.below (below_drewN _ _)).step a1 a2 a3).cells.2.2.1⟩)
  ((go_at_call 105;refine(Z3 R _ _ _ _ _ (text) _ (HN.o.ws.below (below_drewN _ _)) (by omega) (by omega)).mono ?_;rintro y w5 ⟨rfl,bv5,a1,a2,a3⟩))
 have HN5:=zq ((HN.o.below (below_drewN _ _)).step a1 a2 a3);clear a1 a2 a3 g0 g1 g2 g3;obtain⟨g0,g1,g2,g3⟩:=HN5.o.cells;go_wp2_with fail
 first|go_end0|refine bodyPost_ret (results_none rfl _ _ _) rfl ?_
 have hf:=HN5.o.fin HB.o;rw[show out++text=OUT by exact HOUT.o.symm]at hf;exact hf
theorem Qxa (l:List SynP.NI)(R K:Nat)(tv bv:Value)(out:Qx)(o m:Nat)(w:World)(h:WrS w R tv bv out o m)(ht:NdL w R tv l)(text:Qx)(ks:List Int)(hx:l[K]?=some ⟨((3:Nat):Int),text,ks⟩)(hl:out.length+text.length<=1099511627776):
  Calls Tryz.prog 51 #[.pointer (some ⟨R,0,none⟩),.int .i64 (K:Nat)] w (WrP R tv bv (out++text) o m (.tuple #[]) w):=by
 obtain⟨tg,ln,tcap,ko,kn,kcap,rfl,hKl,hkn,hkc,c0,c1,c2,c3,hb,hN⟩:=Yq h ht hx;have HKN:=zq hkn;have HB:=zq hb;have HN:=zq hN;obtain⟨OUT,hOUT⟩:=xq (out++text);have HOUT:=zq hOUT;obtain⟨M,hM⟩:=xq m;have HM:=zq hM;have hle:=h.le;have hmf:∀(fn:Fn) (first cap:Array Value) (w:World),(Instr.makeFunc fn first cap).run Tryz.prog w=.ok (.func fn first cap) w:=fun _ _ _ _=>rfl;rw[<-hOUT];clear hb hN h ht hx hOUT hM hkn;go_enter Tryz.func51,Tryz.ntmps51;go_wp2_with fail;obtain⟨w2,hw2⟩:=xq ((w.alloc (.cells #[.pointer (some ⟨R,0,none⟩)] 86)).alloc (.cells #[.int .i64 3,.string ⟨text.toArray⟩,.slice ko kn kcap] 43));have hw2':w2=(w.alloc (.cells #[.pointer (some ⟨R,0,none⟩)] 86)).alloc (.cells #[.int .i64 ((3:Nat):Int),.string ⟨(text:Qx).toArray⟩,.slice ko kn kcap] 43):=hw2;rw[<-hw2']at HB HN;rw[<-hw2];clear hw2 hw2' c0 c1 c2 c3;obtain⟨G,hG⟩:=xq w.heap.size;rw[<-hG]at HN ⊢;obtain⟨g0,g1,g2,g3⟩:=HN.o.cells;have HGE:=zq hG;clear hG
 go_region_held3 (fun w'=>w'.cell? ⟨G,0,none⟩=some (.pointer (some ⟨R,0,none⟩))/\w'.cell? ⟨G+1,1,none⟩=some (.string ⟨(text:Qx).toArray⟩))
  (first
   |go_keep
   |exact⟨((HN.o.below (below_drewN _ _)).step a1 a2 a3).cells.1,((HN.o.below (below_drewN _ _)).step a1 a2 a3).cells.2.2.1⟩)
  ((go_at_call 105;refine(Z3 R _ _ _ _ _ (text) _ (HN.o.ws.below (below_drewN _ _)) (by omega) (by omega)).mono ?_;rintro y w5 ⟨rfl,bv5,a1,a2,a3⟩))
 have HN5:=zq ((HN.o.below (below_drewN _ _)).step a1 a2 a3);clear a1 a2 a3 g0 g1 g2 g3;obtain⟨g0,g1,g2,g3⟩:=HN5.o.cells;go_wp2_with fail
 first|go_end0|refine bodyPost_ret (results_none rfl _ _ _) rfl ?_
 have hf:=HN5.o.fin HB.o;rw[show out++text=OUT by exact HOUT.o.symm]at hf;exact hf
theorem Ak (l:List SynP.NI)(R K:Nat)(tv bv:Value)(out:Qx)(o m:Nat)(w:World)(h:WrS w R tv bv out o m)(ht:NdL w R tv l)(text:Qx)(ks:List Int)(hx:l[K]?=some ⟨((13:Nat):Int),text,ks⟩)(hl:out.length+text.length<=1099511627776):
  Calls Tryz.prog 51 #[.pointer (some ⟨R,0,none⟩),.int .i64 (K:Nat)] w (WrP R tv bv (out++text) o m (.tuple #[]) w):=by
 obtain⟨tg,ln,tcap,ko,kn,kcap,rfl,hKl,hkn,hkc,c0,c1,c2,c3,hb,hN⟩:=Yq h ht hx;have HKN:=zq hkn;have HB:=zq hb;have HN:=zq hN;obtain⟨OUT,hOUT⟩:=xq (out++text);have HOUT:=zq hOUT;obtain⟨M,hM⟩:=xq m;have HM:=zq hM;have hle:=h.le;have hmf:∀(fn:Fn) (first cap:Array Value) (w:World),(Instr.makeFunc fn first cap).run Tryz.prog w=.ok (.func fn first cap) w:=fun _ _ _ _=>rfl;rw[<-hOUT];clear hb hN h ht hx hOUT hM hkn;go_enter Tryz.func51,Tryz.ntmps51;go_wp2_with fail;obtain⟨w2,hw2⟩:=xq ((w.alloc (.cells #[.pointer (some ⟨R,0,none⟩)] 86)).alloc (.cells #[.int .i64 13,.string ⟨text.toArray⟩,.slice ko kn kcap] 43));have hw2':w2=(w.alloc (.cells #[.pointer (some ⟨R,0,none⟩)] 86)).alloc (.cells #[.int .i64 ((13:Nat):Int),.string ⟨(text:Qx).toArray⟩,.slice ko kn kcap] 43):=hw2;rw[<-hw2']at HB HN;rw[<-hw2];clear hw2 hw2' c0 c1 c2 c3;obtain⟨G,hG⟩:=xq w.heap.size;rw[<-hG]at HN ⊢;obtain⟨g0,g1,g2,g3⟩:=HN.o.cells;have HGE:=zq hG;clear hG
 go_region_held3 (fun w'=>w'.cell? ⟨G,0,none⟩=some (.pointer (some ⟨R,0,none⟩))/\w'.cell? ⟨G+1,1,none⟩=some (.string ⟨(text:Qx).toArray⟩))
  (first
   |go_keep
   |exact⟨((HN.o.below (below_drewN _ _)).step a1 a2 a3).cells.1,((HN.o.below (below_drewN _ _)).step a1 a2 a3).cells.2.2.1⟩)
  ((go_at_call 105;refine(Z3 R _ _ _ _ _ (text) _ (HN.o.ws.below (below_drewN _ _)) (by omega) (by omega)).mono ?_;rintro y w5 ⟨rfl,bv5,a1,a2,a3⟩))
 have HN5:=zq ((HN.o.below (below_drewN _ _)).step a1 a2 a3);clear a1 a2 a3 g0 g1 g2 g3;obtain⟨g0,g1,g2,g3⟩:=HN5.o.cells;go_wp2_with fail
 first|go_end0|refine bodyPost_ret (results_none rfl _ _ _) rfl ?_
 have hf:=HN5.o.fin HB.o;rw[show out++text=OUT by exact HOUT.o.symm]at hf;exact hf
theorem Aw (l:List SynP.NI)(R K:Nat)(tv bv:Value)(out:Qx)(o m:Nat)(w:World)(h:WrS w R tv bv out o m)(ht:NdL w R tv l)(text:Qx)(ks:List Int)(hx:l[K]?=some ⟨((14:Nat):Int),text,ks⟩)(hl:out.length+text.length<=1099511627776):
  Calls Tryz.prog 51 #[.pointer (some ⟨R,0,none⟩),.int .i64 (K:Nat)] w (WrP R tv bv (out++text) o m (.tuple #[]) w):=by
 obtain⟨tg,ln,tcap,ko,kn,kcap,rfl,hKl,hkn,hkc,c0,c1,c2,c3,hb,hN⟩:=Yq h ht hx;have HKN:=zq hkn;have HB:=zq hb;have HN:=zq hN;obtain⟨OUT,hOUT⟩:=xq (out++text);have HOUT:=zq hOUT;obtain⟨M,hM⟩:=xq m;have HM:=zq hM;have hle:=h.le;have hmf:∀(fn:Fn) (first cap:Array Value) (w:World),(Instr.makeFunc fn first cap).run Tryz.prog w=.ok (.func fn first cap) w:=fun _ _ _ _=>rfl;rw[<-hOUT];clear hb hN h ht hx hOUT hM hkn;go_enter Tryz.func51,Tryz.ntmps51;go_wp2_with fail;obtain⟨w2,hw2⟩:=xq ((w.alloc (.cells #[.pointer (some ⟨R,0,none⟩)] 86)).alloc (.cells #[.int .i64 14,.string ⟨text.toArray⟩,.slice ko kn kcap] 43));have hw2':w2=(w.alloc (.cells #[.pointer (some ⟨R,0,none⟩)] 86)).alloc (.cells #[.int .i64 ((14:Nat):Int),.string ⟨(text:Qx).toArray⟩,.slice ko kn kcap] 43):=hw2;rw[<-hw2']at HB HN;rw[<-hw2];clear hw2 hw2' c0 c1 c2 c3;obtain⟨G,hG⟩:=xq w.heap.size;rw[<-hG]at HN ⊢;obtain⟨g0,g1,g2,g3⟩:=HN.o.cells;have HGE:=zq hG;clear hG
 go_region_held3 (fun w'=>w'.cell? ⟨G,0,none⟩=some (.pointer (some ⟨R,0,none⟩))/\w'.cell? ⟨G+1,1,none⟩=some (.string ⟨(text:Qx).toArray⟩))
  (first
   |go_keep
   |exact⟨((HN.o.below (below_drewN _ _)).step a1 a2 a3).cells.1,((HN.o.below (below_drewN _ _)).step a1 a2 a3).cells.2.2.1⟩)
  ((go_at_call 105;refine(Z3 R _ _ _ _ _ (text) _ (HN.o.ws.below (below_drewN _ _)) (by omega) (by omega)).mono ?_;rintro y w5 ⟨rfl,bv5,a1,a2,a3⟩))
 have HN5:=zq ((HN.o.below (below_drewN _ _)).step a1 a2 a3);clear a1 a2 a3 g0 g1 g2 g3;obtain⟨g0,g1,g2,g3⟩:=HN5.o.cells;go_wp2_with fail
 first|go_end0|refine bodyPost_ret (results_none rfl _ _ _) rfl ?_
 have hf:=HN5.o.fin HB.o;rw[show out++text=OUT by exact HOUT.o.symm]at hf;exact hf
theorem M4 {e:SynP.Ex}{op:Nat}{t:Qx}(hf:∀p,e.flat p=[⟨op,t,[]⟩])(hp:e.pr=t)(hs:e.size=1)(hd:e.dp=0)
  (H:∀(l:List SynP.NI) (R K:Nat) (tv bv:Value) (out:Qx) (o m:Nat) (w:World),WrS w R tv bv out o m->NdL w R tv l-> ∀(text:Qx) (ks:List Int),l[K]?=some ⟨((op:Nat):Int),text,ks⟩->out.length+text.length<=1099511627776->
   Calls Tryz.prog 51 #[.pointer (some ⟨R,0,none⟩),.int .i64 (K:Nat)] w (WrP R tv bv (out++text) o m (.tuple #[]) w)):Xe e:=by
 intro l R p tv bv out o m w h O E J Z U;rw[hf]at E;have T:=E.one;have I:=H l R p tv bv out o m w h O t [] T (by rw[hp]at J;omega);rw[hs,hp,hd];rw[show max m (o+0)=m by have:=h.le;omega];exact I
theorem Qyw (n:Nat):Xe (.num n):=M4 (op:=1) (t:=SynP.decT n) (fun _=>rfl) rfl rfl rfl Qxi
theorem F7 (x:Qx):Xe (.name x):=M4 (op:=2) (t:=x) (fun _=>rfl) rfl rfl rfl Qxo
theorem Qyv (m:SynP.MatV):Xe (.mat m):=M4 (op:=3) (t:=SynP.matT m) (fun _=>rfl) rfl rfl rfl Qxa
theorem Qyj (l:List (List Nat)):Xe (.cpx l):=M4 (op:=13) (t:=SynP.cpxT l) (fun _=>rfl) rfl rfl rfl Ak
theorem Aj (a:SynP.Ex)(IH:Xe a):Xe (.neg a):=by
 intro l R p tv bv out o m w h ht hs hl ho hp;have hsz:(SynP.Ex.neg a).size=a.size+1:=rfl;obtain⟨hsa,hst⟩:=SynP.SegN.app (a:=a.flat p) (b:=[⟨4,[],[p+a.size-1]⟩]) hs
 have hx:l[p+a.size]?=some ⟨((4:Nat):Int),[],[((p+a.size-1:Nat):Int)]⟩:=by
  have:=hst.one;rw[SynP.Yj]at this;exact this
 have hap:=SynP.Xp a;have HSA:=zq hsa;have hpl:(SynP.Ex.neg a).pr=[45]++SynP.par (SynP.Qp 4 0 a.op) a.pr:=rfl;rw[hpl]at hl;simp only[List.length_append,List.length_cons,List.length_nil]at hl;have hdl:(SynP.Ex.neg a).dp=SynP.parD (SynP.Qp 4 0 a.op) a.dp:=rfl;rw[show p+(SynP.Ex.neg a).size-1=p+a.size by rw[hsz];omega,hpl,hdl];rw[hsz]at ho hp;obtain⟨K,hK⟩:=xq (p+a.size);rw[<-hK]at hx ⊢;have HK:=zq hK;clear hK hs hst hsa hpl hdl hsz;obtain⟨tg,ln,tcap,ko,kn,kcap,rfl,hKl,hkn,hkc,c0,c1,c2,c3,hb,hN⟩:=Yq h ht hx;have HKN:=zq hkn;have HB:=zq hb;have HN:=zq hN;obtain⟨OUT,hOUT⟩:=xq (out++([45]++SynP.par (SynP.Qp 4 0 a.op) a.pr));have HOUT:=zq hOUT;obtain⟨M,hM⟩:=xq (max m (o+SynP.parD (SynP.Qp 4 0 a.op) a.dp));have HM:=zq hM;have hle:=h.le;have hmf:∀(fn:Fn) (first cap:Array Value) (w:World),(Instr.makeFunc fn first cap).run Tryz.prog w=.ok (.func fn first cap) w:=fun _ _ _ _=>rfl;rw[<-hOUT,<-hM];clear hb hN h ht hx hOUT hM hkn;go_enter Tryz.func51,Tryz.ntmps51;go_wp2_with fail;obtain⟨w2,hw2⟩:=xq ((w.alloc (.cells #[.pointer (some ⟨R,0,none⟩)] 86)).alloc (.cells #[.int .i64 4,.string ⟨#[]⟩,.slice ko kn kcap] 43));have hw2':w2=(w.alloc (.cells #[.pointer (some ⟨R,0,none⟩)] 86)).alloc (.cells #[.int .i64 ((4:Nat):Int),.string ⟨([]:Qx).toArray⟩,.slice ko kn kcap] 43):=hw2;rw[<-hw2']at HB HN;rw[<-hw2];clear hw2 hw2' c0 c1 c2 c3;obtain⟨G,hG⟩:=xq w.heap.size;rw[<-hG]at HN ⊢;obtain⟨g0,g1,g2,g3⟩:=HN.o.cells;have HGE:=zq hG;clear hG;refine(Uf R _ bv out o m 45 _ HN.o.ws (by omega)).mono ?_;rintro y w3 ⟨rfl,bv3,a1,a2,a3⟩;have HN3:=zq (HN.o.step a1 a2 a3);clear a1 a2 a3 g0 g1 g2 g3;obtain⟨g0,g1,g2,g3⟩:=HN3.o.cells;go_wp2_with fail;refine(Jk 4 0 a IH l R p _ _ _ _ _ _ HN3.o.ws HN3.o.nl HSA.o (by simp only[List.length_append,List.length_cons,List.length_nil];omega) (by omega) (by omega) _ _ _ HN3.o.kl (by rw[HK.o];rfl)).mono ?_;rintro y w4 ⟨rfl,bv4,a1,a2,a3⟩;have HN4:=zq (HN3.o.step a1 a2 a3);clear a1 a2 a3 g0 g1 g2 g3;obtain⟨g0,g1,g2,g3⟩:=HN4.o.cells;go_wp2_with fail
 first|go_end0|refine bodyPost_ret (results_none rfl _ _ _) rfl ?_
 have hf:=HN4.o.fin HB.o;rw[show out++[45]++SynP.par (SynP.Qp 4 0 a.op) a.pr=OUT by rw[HOUT.o,List.append_assoc],show max m (o+SynP.parD (SynP.Qp 4 0 a.op) a.dp)=M by exact HM.o.symm]at hf;exact hf
theorem F8 (a:SynP.Ex)(IH:Xe a):Xe (.turn a):=by
 intro l R p tv bv out o m w h ht hs hl ho hp;have hsz:(SynP.Ex.turn a).size=a.size+1:=rfl;obtain⟨hsa,hst⟩:=SynP.SegN.app (a:=a.flat p) (b:=[⟨5,[],[p+a.size-1]⟩]) hs
 have hx:l[p+a.size]?=some ⟨((5:Nat):Int),[],[((p+a.size-1:Nat):Int)]⟩:=by
  have:=hst.one;rw[SynP.Yj]at this;exact this
 have hap:=SynP.Xp a;have HSA:=zq hsa;have hpl:(SynP.Ex.turn a).pr=SynP.par (SynP.Qp 5 0 a.op) a.pr++[39]:=rfl;rw[hpl]at hl;simp only[List.length_append,List.length_cons,List.length_nil]at hl;have hdl:(SynP.Ex.turn a).dp=SynP.parD (SynP.Qp 5 0 a.op) a.dp:=rfl;rw[show p+(SynP.Ex.turn a).size-1=p+a.size by rw[hsz];omega,hpl,hdl];rw[hsz]at ho hp;obtain⟨K,hK⟩:=xq (p+a.size);rw[<-hK]at hx ⊢;have HK:=zq hK;clear hK hs hst hsa hpl hdl hsz;obtain⟨tg,ln,tcap,ko,kn,kcap,rfl,hKl,hkn,hkc,c0,c1,c2,c3,hb,hN⟩:=Yq h ht hx;have HKN:=zq hkn;have HB:=zq hb;have HN:=zq hN;obtain⟨OUT,hOUT⟩:=xq (out++(SynP.par (SynP.Qp 5 0 a.op) a.pr++[39]));have HOUT:=zq hOUT;obtain⟨M,hM⟩:=xq (max m (o+SynP.parD (SynP.Qp 5 0 a.op) a.dp));have HM:=zq hM;have hle:=h.le;have hmf:∀(fn:Fn) (first cap:Array Value) (w:World),(Instr.makeFunc fn first cap).run Tryz.prog w=.ok (.func fn first cap) w:=fun _ _ _ _=>rfl;rw[<-hOUT,<-hM];clear hb hN h ht hx hOUT hM hkn;go_enter Tryz.func51,Tryz.ntmps51;go_wp2_with fail;obtain⟨w2,hw2⟩:=xq ((w.alloc (.cells #[.pointer (some ⟨R,0,none⟩)] 86)).alloc (.cells #[.int .i64 5,.string ⟨#[]⟩,.slice ko kn kcap] 43));have hw2':w2=(w.alloc (.cells #[.pointer (some ⟨R,0,none⟩)] 86)).alloc (.cells #[.int .i64 ((5:Nat):Int),.string ⟨([]:Qx).toArray⟩,.slice ko kn kcap] 43):=hw2;rw[<-hw2']at HB HN;rw[<-hw2];clear hw2 hw2' c0 c1 c2 c3;obtain⟨G,hG⟩:=xq w.heap.size;rw[<-hG]at HN ⊢;obtain⟨g0,g1,g2,g3⟩:=HN.o.cells;have HGE:=zq hG;clear hG;refine(Jk 5 0 a IH l R p _ _ _ _ _ _ HN.o.ws HN.o.nl HSA.o (by omega) (by omega) (by omega) _ _ _ HN.o.kl (by rw[HK.o];rfl)).mono ?_;rintro y w3 ⟨rfl,bv3,a1,a2,a3⟩;have HN3:=zq (HN.o.step a1 a2 a3);clear a1 a2 a3 g0 g1 g2 g3;obtain⟨g0,g1,g2,g3⟩:=HN3.o.cells;go_wp2_with fail;refine(Uf R _ _ _ _ _ 39 _ HN3.o.ws (by simp only[List.length_append,List.length_cons,List.length_nil];omega)).mono ?_;rintro y w4 ⟨rfl,bv4,a1,a2,a3⟩;have HN4:=zq (HN3.o.step a1 a2 a3);clear a1 a2 a3 g0 g1 g2 g3;obtain⟨g0,g1,g2,g3⟩:=HN4.o.cells;go_wp2_with fail
 first|go_end0|refine bodyPost_ret (results_none rfl _ _ _) rfl ?_
 have hf:=HN4.o.fin HB.o;rw[show out++SynP.par (SynP.Qp 5 0 a.op) a.pr++[39]=OUT by rw[HOUT.o,List.append_assoc],show max m (o+SynP.parD (SynP.Qp 5 0 a.op) a.dp)=M by exact HM.o.symm]at hf;exact hf
theorem Av (a:SynP.Ex)(n:Nat)(IH:Xe a):Xe (.pow a n):=by
 intro l R p tv bv out o m w h ht hs hl ho hp;have hsz:(SynP.Ex.pow a n).size=a.size+1:=rfl;obtain⟨hsa,hst⟩:=SynP.SegN.app (a:=a.flat p) (b:=[⟨9,SynP.decT n,[p+a.size-1]⟩]) hs
 have hx:l[p+a.size]?=some ⟨((9:Nat):Int),SynP.decT n,[((p+a.size-1:Nat):Int)]⟩:=by
  have:=hst.one;rw[SynP.Yj]at this;exact this
 have hap:=SynP.Xp a;have HSA:=zq hsa;have hpl:(SynP.Ex.pow a n).pr=SynP.par (SynP.Qp 9 0 a.op) a.pr++([94]++SynP.decT n):=rfl;rw[hpl]at hl;simp only[List.length_append,List.length_cons,List.length_nil]at hl;have hdl:(SynP.Ex.pow a n).dp=SynP.parD (SynP.Qp 9 0 a.op) a.dp:=rfl;rw[show p+(SynP.Ex.pow a n).size-1=p+a.size by rw[hsz];omega,hpl,hdl];rw[hsz]at ho hp;obtain⟨K,hK⟩:=xq (p+a.size);rw[<-hK]at hx ⊢;have HK:=zq hK;clear hK hs hst hsa hpl hdl hsz;obtain⟨tg,ln,tcap,ko,kn,kcap,rfl,hKl,hkn,hkc,c0,c1,c2,c3,hb,hN⟩:=Yq h ht hx;have HKN:=zq hkn;have HB:=zq hb;have HN:=zq hN;obtain⟨OUT,hOUT⟩:=xq (out++(SynP.par (SynP.Qp 9 0 a.op) a.pr++([94]++SynP.decT n)));have HOUT:=zq hOUT;obtain⟨M,hM⟩:=xq (max m (o+SynP.parD (SynP.Qp 9 0 a.op) a.dp));have HM:=zq hM;have hle:=h.le;have hmf:∀(fn:Fn) (first cap:Array Value) (w:World),(Instr.makeFunc fn first cap).run Tryz.prog w=.ok (.func fn first cap) w:=fun _ _ _ _=>rfl;rw[<-hOUT,<-hM];clear hb hN h ht hx hOUT hM hkn;go_enter Tryz.func51,Tryz.ntmps51;go_wp2_with fail;obtain⟨w2,hw2⟩:=xq ((w.alloc (.cells #[.pointer (some ⟨R,0,none⟩)] 86)).alloc (.cells #[.int .i64 9,.string ⟨(SynP.decT n).toArray⟩,.slice ko kn kcap] 43));have hw2':w2=(w.alloc (.cells #[.pointer (some ⟨R,0,none⟩)] 86)).alloc (.cells #[.int .i64 ((9:Nat):Int),.string ⟨(SynP.decT n:Qx).toArray⟩,.slice ko kn kcap] 43):=hw2;rw[<-hw2']at HB HN;rw[<-hw2];clear hw2 hw2' c0 c1 c2 c3;obtain⟨G,hG⟩:=xq w.heap.size;rw[<-hG]at HN ⊢;obtain⟨g0,g1,g2,g3⟩:=HN.o.cells;have HGE:=zq hG;clear hG
 have hdt: ¬9223372036854775807<1+(SynP.decT n).length:=by omega
 refine(Jk 9 0 a IH l R p _ _ _ _ _ _ HN.o.ws HN.o.nl HSA.o (by omega) (by omega) (by omega) _ _ _ HN.o.kl (by rw[HK.o];rfl)).mono ?_;rintro y w3 ⟨rfl,bv3,a1,a2,a3⟩;have HN3:=zq (HN.o.step a1 a2 a3);clear a1 a2 a3 g0 g1 g2 g3;obtain⟨g0,g1,g2,g3⟩:=HN3.o.cells;go_wp2_with fail
 go_region_held3 (fun w'=>w'.cell? ⟨G,0,none⟩=some (.pointer (some ⟨R,0,none⟩))/\w'.cell? ⟨G+1,1,none⟩=some (.string ⟨(SynP.decT n:Qx).toArray⟩))
  (first
   |go_keep
   |exact⟨((HN3.o.below (below_drewN _ _)).step a1 a2 a3).cells.1,((HN3.o.below (below_drewN _ _)).step a1 a2 a3).cells.2.2.1⟩)
  ((go_at_call 105;refine(Z3 R _ _ _ _ _ ([94]++SynP.decT n) _ (HN3.o.ws.below (below_drewN _ _)) (by simp only[List.length_append,List.length_cons,List.length_nil];omega) (by simp only[List.length_append,List.length_cons,List.length_nil];omega)).mono ?_;rintro y w4 ⟨rfl,bv4,a1,a2,a3⟩))
 have HN4:=zq ((HN3.o.below (below_drewN _ _)).step a1 a2 a3);clear a1 a2 a3 g0 g1 g2 g3;obtain⟨g0,g1,g2,g3⟩:=HN4.o.cells;go_wp2_with fail
 first|go_end0|refine bodyPost_ret (results_none rfl _ _ _) rfl ?_
 have hf:=HN4.o.fin HB.o;rw[show out++SynP.par (SynP.Qp 9 0 a.op) a.pr++([94]++SynP.decT n)=OUT by rw[HOUT.o,List.append_assoc],show max m (o+SynP.parD (SynP.Qp 9 0 a.op) a.dp)=M by exact HM.o.symm]at hf;exact hf
theorem Qyx (ks:SynP.Exs)(IH:∀e∈SynP.exL ks,Xe e)(l:List SynP.NI)(R p G:Nat)(tv bv:Value)(out:Qx)(o m:Nat)(w w0:World)(og:Option Nat)(text:Qx)(kv:Value)(h:NSt w0 og w R G tv bv out o m l 10 text kv (Z6 (ks.roots p)))(hs:SynP.SegN l p (ks.flat p))(hl:out.length+ks.pr.length<=274877906944)(ho:o+2*ks.size+1<=100000)(hp:p+ks.size<=100000):
  Calls Tryz.prog 107 #[.pointer (some ⟨G,0,none⟩),.pointer (some ⟨G+1,0,none⟩)] w (WrP R tv bv (out++ks.pr) o (max m (o+ks.dp)) (.tuple #[]) w):=by
 have HC:=zq (Qqt ks IH l R p tv bv out o m w h.ws h.nl hs hl ho hp 10 (.inl rfl) ⟨text.toArray⟩ kv h.kl);obtain⟨OUT,hOUT⟩:=xq (out++ks.pr);obtain⟨M,hM⟩:=xq (max m (o+ks.dp));rw[<-hOUT,<-hM]at HC ⊢;obtain⟨g0,g1,g2,g3⟩:=h.cells;obtain⟨ko,kcap,rfl,-,-,-⟩:=h.kl;obtain⟨kn,hkn⟩:=xq ((Z6 (ks.roots p)).length);rw[<-hkn]at HC g3;clear h hs hl ho hp hOUT hM hkn;go_enter Tryz.func107,Tryz.ntmps107;go_wp2_with fail;refine HC.o.mono ?_;rintro e w1 ⟨rfl,H⟩;have HH:=zq H;clear H;go_wp2_with fail
 first|go_end0|refine bodyPost_ret (results_none rfl _ _ _) rfl ?_
 exact⟨rfl,HH.o⟩
theorem Qv0 (x:Qx)(ks:SynP.Exs)(IH:∀e∈SynP.exL ks,Xe e):Xe (.call x ks):=by
 intro l R p tv bv out o m w h ht hs hl ho hp;have hsz:(SynP.Ex.call x ks).size=ks.size+1:=rfl;obtain⟨hsa,hst⟩:=SynP.SegN.app (a:=ks.flat p) (b:=[⟨10,x,ks.roots p⟩]) hs
 have hx:l[p+ks.size]?=some ⟨((10:Nat):Int),x,Z6 (ks.roots p)⟩:=by
  have:=hst.one;rw[SynP.Ul]at this;exact this
 have HSA:=zq hsa;have hpl:(SynP.Ex.call x ks).pr=x++([40]++ks.pr++[41]):=rfl;rw[hpl]at hl;simp only[List.length_append,List.length_cons,List.length_nil]at hl;have hdl:(SynP.Ex.call x ks).dp=ks.dp+1:=rfl;have hdp:=SynP.Qxx ks;rw[show p+(SynP.Ex.call x ks).size-1=p+ks.size by rw[hsz];omega,hpl,hdl];rw[hsz]at ho hp;obtain⟨K,hK⟩:=xq (p+ks.size);rw[<-hK]at hx ⊢;have HK:=zq hK;clear hK hs hst hsa hpl hdl hsz;obtain⟨tg,ln,tcap,ko,kn,kcap,rfl,hKl,hkn,hkc,c0,c1,c2,c3,hb,hN⟩:=Yq h ht hx;have HKN:=zq hkn;have HB:=zq hb;have HN:=zq hN;obtain⟨OUT,hOUT⟩:=xq (out++(x++([40]++ks.pr++[41])));have HOUT:=zq hOUT;obtain⟨M,hM⟩:=xq (max m (o+(ks.dp+1)));have HM:=zq hM;have hle:=h.le;have hmf:∀(fn:Fn) (first cap:Array Value) (w:World),(Instr.makeFunc fn first cap).run Tryz.prog w=.ok (.func fn first cap) w:=fun _ _ _ _=>rfl;rw[<-hOUT,<-hM];clear hb hN h ht hx hOUT hM hkn;go_enter Tryz.func51,Tryz.ntmps51;go_wp2_with fail;obtain⟨w2,hw2⟩:=xq ((w.alloc (.cells #[.pointer (some ⟨R,0,none⟩)] 86)).alloc (.cells #[.int .i64 10,.string ⟨x.toArray⟩,.slice ko kn kcap] 43));have hw2':w2=(w.alloc (.cells #[.pointer (some ⟨R,0,none⟩)] 86)).alloc (.cells #[.int .i64 ((10:Nat):Int),.string ⟨(x:Qx).toArray⟩,.slice ko kn kcap] 43):=hw2;rw[<-hw2']at HB HN;rw[<-hw2];clear hw2 hw2' c0 c1 c2 c3;obtain⟨G,hG⟩:=xq w.heap.size;rw[<-hG]at HN ⊢;obtain⟨g0,g1,g2,g3⟩:=HN.o.cells;have HGE:=zq hG;clear hG
 go_region_held3 (fun w'=>w'.cell? ⟨G,0,none⟩=some (.pointer (some ⟨R,0,none⟩))/\w'.cell? ⟨G+1,1,none⟩=some (.string ⟨(x:Qx).toArray⟩))
  (first
   |go_keep
   |exact⟨((HN.o.below (below_drewN _ _)).step a1 a2 a3).cells.1,((HN.o.below (below_drewN _ _)).step a1 a2 a3).cells.2.2.1⟩)
  ((go_at_call 105;refine(Z3 R _ _ _ _ _ (x) _ (HN.o.ws.below (below_drewN _ _)) (by omega) (by omega)).mono ?_;rintro y w3 ⟨rfl,bv3,a1,a2,a3⟩))
 have HN3:=zq ((HN.o.below (below_drewN _ _)).step a1 a2 a3);clear a1 a2 a3 g0 g1 g2 g3;obtain⟨g0,g1,g2,g3⟩:=HN3.o.cells
 have HC:=zq (Qqe R _ bv3 (out++x) o m w3 HN3.o.ws (by rw[List.length_append];omega) (by omega) (.pointer (some ⟨G,0,none⟩)) (.pointer (some ⟨G+1,0,none⟩)) ks.pr (by omega) ks.dp (by omega) (fun bv2 w5 b1 b2 b3=>by
  have HN5:=HN3.o.step b1 b2 b3
  exact Qyx ks IH l R p G _ bv2 (out++x++[40]) (o+1) (max m (o+1)) w5 _ _ x _ HN5 HSA.o (by rw[List.length_append,List.length_append,List.length_singleton];omega) (by omega) (by omega)))
 go_wp2_with fail;refine(HC.o).mono ?_;rintro y w4 ⟨rfl,bv4,a1,a2,a3⟩;have HN4:=zq (HN3.o.step a1 a2 a3);clear a1 a2 a3 g0 g1 g2 g3;obtain⟨g0,g1,g2,g3⟩:=HN4.o.cells;go_wp2_with fail
 first|go_end0|refine bodyPost_ret (results_none rfl _ _ _) rfl ?_
 have hf:=HN4.o.fin HB.o;rw[show out++x++([40]++ks.pr++[41])=OUT by rw[HOUT.o,List.append_assoc],show max m (o+(ks.dp+1))=M by exact HM.o.symm]at hf;exact hf
def LnOk (n:SynP.Ln):Prop:=∀(l:List SynP.NI) (R:Nat) (tv bv:Value) (out:Qx) (o m:Nat) (w:World),WrS w R tv bv out o m->NdL w R tv l->SynP.SegN l 0 n.flat->out.length+n.pr.length<=274877906944->o+2*n.size<=100000->
 Calls Tryz.prog 51 #[.pointer (some ⟨R,0,none⟩),.int .i64 ((n.size-1:Nat):Int)] w (WrP R tv bv (out++n.pr) o (max m (o+n.dp)) (.tuple #[]) w)
theorem Qxb:LnOk .nothing:=by
 intro l R tv bv E o m w h J I O T;have K:=SynP.SegN.one (n:=⟨14,[],[]⟩) I;have H:=Aw l R 0 tv bv E o m w h J [] [] K (by simp only[List.length_nil];omega)
 have e1:max m (o+0)=m:=by have:=h.le;omega
 show Calls _ _ _ _ (WrP R tv bv (E++[]) o (max m (o+0)) _ w);rw[e1];exact H
theorem Qgy (x:Qx)(e:SynP.Ex)(IH:Xe e):LnOk (.lets x e):=by
 intro l R tv bv out o m w h ht hs hl ho;have hsz:(SynP.Ln.lets x e).size=e.size+1:=rfl;obtain⟨hsa,hst⟩:=SynP.SegN.app (a:=e.flat 0) (b:=[⟨11,x,[e.size-1]⟩]) hs
 have hx:l[0+e.size]?=some ⟨((11:Nat):Int),x,[((e.size-1:Nat):Int)]⟩:=by
  have:=hst.one;rw[SynP.Yj]at this;exact this
 have hap:=SynP.Xp e;have HSA:=zq hsa;have hpl:(SynP.Ln.lets x e).pr=([108,101,116,32]++x++[32,61,32])++e.pr:=rfl;rw[hpl]at hl;simp only[List.length_append,List.length_cons,List.length_nil]at hl;have hdl:(SynP.Ln.lets x e).dp=e.dp:=rfl;rw[show (SynP.Ln.lets x e).size-1=0+e.size by rw[hsz];omega,hpl,hdl];rw[hsz]at ho;obtain⟨K,hK⟩:=xq (0+e.size);rw[<-hK]at hx ⊢;have HK:=zq hK;clear hK hs hst hsa hpl hdl hsz;obtain⟨tg,ln,tcap,ko,kn,kcap,rfl,hKl,hkn,hkc,c0,c1,c2,c3,hb,hN⟩:=Yq h ht hx;have HKN:=zq hkn;have HB:=zq hb;have HN:=zq hN;obtain⟨OUT,hOUT⟩:=xq (out++(([108,101,116,32]++x++[32,61,32])++e.pr));have HOUT:=zq hOUT;obtain⟨M,hM⟩:=xq (max m (o+e.dp));have HM:=zq hM;have hle:=h.le;have hmf:∀(fn:Fn) (first cap:Array Value) (w:World),(Instr.makeFunc fn first cap).run Tryz.prog w=.ok (.func fn first cap) w:=fun _ _ _ _=>rfl;rw[<-hOUT,<-hM];clear hb hN h ht hx hOUT hM hkn;go_enter Tryz.func51,Tryz.ntmps51;go_wp2_with fail;obtain⟨w2,hw2⟩:=xq ((w.alloc (.cells #[.pointer (some ⟨R,0,none⟩)] 86)).alloc (.cells #[.int .i64 11,.string ⟨x.toArray⟩,.slice ko kn kcap] 43));have hw2':w2=(w.alloc (.cells #[.pointer (some ⟨R,0,none⟩)] 86)).alloc (.cells #[.int .i64 ((11:Nat):Int),.string ⟨(x:Qx).toArray⟩,.slice ko kn kcap] 43):=hw2;rw[<-hw2']at HB HN;rw[<-hw2];clear hw2 hw2' c0 c1 c2 c3;obtain⟨G,hG⟩:=xq w.heap.size;rw[<-hG]at HN ⊢;obtain⟨g0,g1,g2,g3⟩:=HN.o.cells;have HGE:=zq hG;clear hG
 have hxl: ¬9223372036854775807<4+x.length:=by omega
 have hxl2: ¬9223372036854775807<4+x.length+3:=by omega
 go_region_held3 (fun w'=>w'.cell? ⟨G,0,none⟩=some (.pointer (some ⟨R,0,none⟩))/\w'.cell? ⟨G+1,1,none⟩=some (.string ⟨(x:Qx).toArray⟩))
  (first
   |go_keep
   |exact⟨((HN.o.below (below_drewN _ _)).step a1 a2 a3).cells.1,((HN.o.below (below_drewN _ _)).step a1 a2 a3).cells.2.2.1⟩)
  ((go_at_call 105;refine(Z3 R _ _ _ _ _ ([108,101,116,32]++x++[32,61,32]) _ (HN.o.ws.below (below_drewN _ _)) (by omega) (by simp only[List.length_append,List.length_cons,List.length_nil];omega)).mono ?_;rintro y w3 ⟨rfl,bv3,a1,a2,a3⟩))
 have HN3:=zq ((HN.o.below (below_drewN _ _)).step a1 a2 a3);clear a1 a2 a3 g0 g1 g2 g3;obtain⟨g0,g1,g2,g3⟩:=HN3.o.cells;have HC:=zq (Jk 11 0 e IH l R 0 _ _ _ _ _ _ HN3.o.ws HN3.o.nl HSA.o (by show _+e.pr.length<=_;simp only[List.length_append,List.length_cons,List.length_nil];omega) (by omega) (by omega) ⟨x.toArray⟩ _ _ HN3.o.kl (by rw[Nat.zero_add];rfl));go_wp2_with fail;refine(HC.o).mono ?_;rintro y w4 ⟨rfl,bv4,a1,a2,a3⟩;have HN4:=zq (HN3.o.step a1 a2 a3);clear a1 a2 a3 g0 g1 g2 g3;obtain⟨g0,g1,g2,g3⟩:=HN4.o.cells;go_wp2_with fail
 first|go_end0|refine bodyPost_ret (results_none rfl _ _ _) rfl ?_
 have hf:=HN4.o.fin HB.o;rw[show out++([108,101,116,32]++x++[32,61,32])++SynP.par (SynP.Qp 11 0 e.op) e.pr=OUT by rw[HOUT.o,List.append_assoc];rfl,show max m (o+SynP.parD (SynP.Qp 11 0 e.op) e.dp)=M by rw[HM.o];rfl]at hf;exact hf
theorem Qxh (x:Qx)(IH:∀e∈SynP.exL .nil,Xe e):LnOk (.cmd x .nil):=by
 intro l R tv bv out o m w h ht hs hl ho;obtain⟨ks,hks⟩:=xq SynP.Exs.nil
 have hsz:(SynP.Ln.cmd x .nil).size=ks.size+1:=by rw[hks];rfl
 obtain⟨hsa,hst⟩:=SynP.SegN.app (a:=(SynP.Exs.nil).flat 0) (b:=[⟨12,x,(SynP.Exs.nil).roots 0⟩]) hs;rw[<-hks]at hsa hst IH
 have hx:l[0+ks.size]?=some ⟨((12:Nat):Int),x,Z6 (ks.roots 0)⟩:=by
  have:=hst.one;rw[SynP.Ul]at this;exact this
 have HSA:=zq hsa
 have hpl:(SynP.Ln.cmd x .nil).pr=x++[]:=by rw[];exact(List.append_nil _).symm
 rw[hpl]at hl;simp only[List.length_append,List.length_cons,List.length_nil]at hl
 have hdl:(SynP.Ln.cmd x .nil).dp=ks.dp:=by rw[hks];rfl
 rw[show (SynP.Ln.cmd x .nil).size-1=0+ks.size by rw[hsz];omega,hpl,hdl];rw[hsz]at ho
 have hrl:(Z6 (ks.roots 0)).length=(SynP.exL ks).length:=by rw[Z6,List.length_map,SynP.Sa]
 have hkl:(SynP.exL ks).length=0:=by rw[hks];rfl
 have hprl:ks.pr.length=0:=by rw[hks];rfl
 obtain⟨K,hK⟩:=xq (0+ks.size);rw[<-hK]at hx ⊢;have HK:=zq hK;have HKS:=zq hks;clear hK hs hst hsa hpl hdl hsz hks;obtain⟨tg,ln,tcap,ko,kn,kcap,rfl,hKl,hkn,hkc,c0,c1,c2,c3,hb,hN⟩:=Yq h ht hx;have HKN:=zq hkn;have HB:=zq hb;have HN:=zq hN;obtain⟨OUT,hOUT⟩:=xq (out++(x++[]));have HOUT:=zq hOUT;obtain⟨M,hM⟩:=xq (max m (o+ks.dp));have HM:=zq hM;have hle:=h.le;have hmf:∀(fn:Fn) (first cap:Array Value) (w:World),(Instr.makeFunc fn first cap).run Tryz.prog w=.ok (.func fn first cap) w:=fun _ _ _ _=>rfl;rw[<-hOUT,<-hM];clear hb hN h ht hx hOUT hM hkn;go_enter Tryz.func51,Tryz.ntmps51;go_wp2_with fail;obtain⟨w2,hw2⟩:=xq ((w.alloc (.cells #[.pointer (some ⟨R,0,none⟩)] 86)).alloc (.cells #[.int .i64 12,.string ⟨x.toArray⟩,.slice ko kn kcap] 43));have hw2':w2=(w.alloc (.cells #[.pointer (some ⟨R,0,none⟩)] 86)).alloc (.cells #[.int .i64 ((12:Nat):Int),.string ⟨(x:Qx).toArray⟩,.slice ko kn kcap] 43):=hw2;rw[<-hw2']at HB HN;rw[<-hw2];clear hw2 hw2' c0 c1 c2 c3;obtain⟨G,hG⟩:=xq w.heap.size;rw[<-hG]at HN ⊢;obtain⟨g0,g1,g2,g3⟩:=HN.o.cells;have HGE:=zq hG;clear hG
 have hkn2:kn=(SynP.exL ks).length:=by rw[HKN.o,hrl]
 have hk0:kn=0:=by omega
 clear hkn2 hrl hkl;subst hk0
 go_region_held3 (fun w'=>w'.cell? ⟨G,0,none⟩=some (.pointer (some ⟨R,0,none⟩))/\w'.cell? ⟨G+1,1,none⟩=some (.string ⟨(x:Qx).toArray⟩))
  (first
   |go_keep
   |exact⟨((HN.o.below (below_drewN _ _)).step a1 a2 a3).cells.1,((HN.o.below (below_drewN _ _)).step a1 a2 a3).cells.2.2.1⟩)
  ((go_at_call 105;refine(Z3 R _ _ _ _ _ (x) _ (HN.o.ws.below (below_drewN _ _)) (by omega) (by omega)).mono ?_;rintro y w3 ⟨rfl,bv3,a1,a2,a3⟩))
 have HN3:=zq ((HN.o.below (below_drewN _ _)).step a1 a2 a3);clear a1 a2 a3 g0 g1 g2 g3;obtain⟨g0,g1,g2,g3⟩:=HN3.o.cells;go_wp2_with fail;have HC:=zq (Qqt ks IH l R 0 _ _ _ _ _ _ HN3.o.ws HN3.o.nl HSA.o (by simp only[List.length_append,List.length_cons,List.length_nil];omega) (by omega) (by omega) 12 (.inr rfl) ⟨x.toArray⟩ _ HN3.o.kl);refine(HC.o).mono ?_;rintro y w4 ⟨rfl,bv4,a1,a2,a3⟩;have HN4:=zq (HN3.o.step a1 a2 a3);clear a1 a2 a3 g0 g1 g2 g3;obtain⟨g0,g1,g2,g3⟩:=HN4.o.cells;go_wp2_with fail
 first|go_end0|refine bodyPost_ret (results_none rfl _ _ _) rfl ?_
 have hf:=HN4.o.fin HB.o;rw[show out++x++ks.pr=OUT by rw[HOUT.o,HKS.o];show out++x++[]=_;rw[List.append_assoc],show max m (o+ks.dp)=M by exact HM.o.symm]at hf;exact hf
theorem N7 (x:Qx)(a:SynP.Ex)(kt:SynP.Exs)(IH:∀e∈SynP.exL (.cons a kt),Xe e):LnOk (.cmd x (.cons a kt)):=by
 intro l R tv bv out o m w h ht hs hl ho;obtain⟨ks,hks⟩:=xq (SynP.Exs.cons a kt)
 have hsz:(SynP.Ln.cmd x (.cons a kt)).size=ks.size+1:=by rw[hks];rfl
 obtain⟨hsa,hst⟩:=SynP.SegN.app (a:=(SynP.Exs.cons a kt).flat 0) (b:=[⟨12,x,(SynP.Exs.cons a kt).roots 0⟩]) hs;rw[<-hks]at hsa hst IH
 have hx:l[0+ks.size]?=some ⟨((12:Nat):Int),x,Z6 (ks.roots 0)⟩:=by
  have:=hst.one;rw[SynP.Ul]at this;exact this
 have HSA:=zq hsa
 have hpl:(SynP.Ln.cmd x (.cons a kt)).pr=(x++[32])++ks.pr:=by rw[hks];show x++[32]++_=_;rfl
 rw[hpl]at hl;simp only[List.length_append,List.length_cons,List.length_nil]at hl
 have hdl:(SynP.Ln.cmd x (.cons a kt)).dp=ks.dp:=by rw[hks];rfl
 rw[show (SynP.Ln.cmd x (.cons a kt)).size-1=0+ks.size by rw[hsz];omega,hpl,hdl];rw[hsz]at ho
 have hrl:(Z6 (ks.roots 0)).length=(SynP.exL ks).length:=by rw[Z6,List.length_map,SynP.Sa]
 have hkl:0<(SynP.exL ks).length:=by rw[hks];exact Nat.succ_pos _
 have hprl:ks.pr.length<=ks.pr.length:=by exact Nat.le_refl _
 obtain⟨K,hK⟩:=xq (0+ks.size);rw[<-hK]at hx ⊢;have HK:=zq hK;have HKS:=zq hks;clear hK hs hst hsa hpl hdl hsz hks;obtain⟨tg,ln,tcap,ko,kn,kcap,rfl,hKl,hkn,hkc,c0,c1,c2,c3,hb,hN⟩:=Yq h ht hx;have HKN:=zq hkn;have HB:=zq hb;have HN:=zq hN;obtain⟨OUT,hOUT⟩:=xq (out++((x++[32])++ks.pr));have HOUT:=zq hOUT;obtain⟨M,hM⟩:=xq (max m (o+ks.dp));have HM:=zq hM;have hle:=h.le;have hmf:∀(fn:Fn) (first cap:Array Value) (w:World),(Instr.makeFunc fn first cap).run Tryz.prog w=.ok (.func fn first cap) w:=fun _ _ _ _=>rfl;rw[<-hOUT,<-hM];clear hb hN h ht hx hOUT hM hkn;go_enter Tryz.func51,Tryz.ntmps51;go_wp2_with fail;obtain⟨w2,hw2⟩:=xq ((w.alloc (.cells #[.pointer (some ⟨R,0,none⟩)] 86)).alloc (.cells #[.int .i64 12,.string ⟨x.toArray⟩,.slice ko kn kcap] 43));have hw2':w2=(w.alloc (.cells #[.pointer (some ⟨R,0,none⟩)] 86)).alloc (.cells #[.int .i64 ((12:Nat):Int),.string ⟨(x:Qx).toArray⟩,.slice ko kn kcap] 43):=hw2;rw[<-hw2']at HB HN;rw[<-hw2];clear hw2 hw2' c0 c1 c2 c3;obtain⟨G,hG⟩:=xq w.heap.size;rw[<-hG]at HN ⊢;obtain⟨g0,g1,g2,g3⟩:=HN.o.cells;have HGE:=zq hG;clear hG
 have hkn2:kn=(SynP.exL ks).length:=by rw[HKN.o,hrl]
 have hk0:0<kn:=by omega
 clear hkn2 hrl hkl
 go_region_held3 (fun w'=>w'.cell? ⟨G,0,none⟩=some (.pointer (some ⟨R,0,none⟩))/\w'.cell? ⟨G+1,1,none⟩=some (.string ⟨(x:Qx).toArray⟩))
  (first
   |go_keep
   |exact⟨((HN.o.below (below_drewN _ _)).step a1 a2 a3).cells.1,((HN.o.below (below_drewN _ _)).step a1 a2 a3).cells.2.2.1⟩)
  ((go_at_call 105;refine(Z3 R _ _ _ _ _ (x) _ (HN.o.ws.below (below_drewN _ _)) (by omega) (by omega)).mono ?_;rintro y w3 ⟨rfl,bv3,a1,a2,a3⟩))
 have HN3:=zq ((HN.o.below (below_drewN _ _)).step a1 a2 a3);clear a1 a2 a3 g0 g1 g2 g3;obtain⟨g0,g1,g2,g3⟩:=HN3.o.cells;go_wp2_with fail;refine(Uf R _ _ _ _ _ 32 _ HN3.o.ws (by simp only[List.length_append,List.length_cons,List.length_nil];omega)).mono ?_;rintro y w6 ⟨rfl,bv6,a1,a2,a3⟩;have HN6:=zq (HN3.o.step a1 a2 a3);clear a1 a2 a3 g0 g1 g2 g3;obtain⟨g0,g1,g2,g3⟩:=HN6.o.cells;have HC:=zq (Qqt ks IH l R 0 _ _ _ _ _ _ HN6.o.ws HN6.o.nl HSA.o (by simp only[List.length_append,List.length_cons,List.length_nil];omega) (by omega) (by omega) 12 (.inr rfl) ⟨x.toArray⟩ _ HN6.o.kl);go_wp2_with fail;refine(HC.o).mono ?_;rintro y w4 ⟨rfl,bv4,a1,a2,a3⟩;have HN4:=zq (HN6.o.step a1 a2 a3);clear a1 a2 a3 g0 g1 g2 g3;obtain⟨g0,g1,g2,g3⟩:=HN4.o.cells;go_wp2_with fail
 first|go_end0|refine bodyPost_ret (results_none rfl _ _ _) rfl ?_
 have hf:=HN4.o.fin HB.o;rw[show out++x++[32]++ks.pr=OUT by rw[HOUT.o];simp only[List.append_assoc],show max m (o+ks.dp)=M by exact HM.o.symm]at hf;exact hf
open Go.Maps
theorem Vt:Keyed Tryz.prog 3:=int_keyed Tryz.underlying3
theorem Xs {H:Type}{P:Program}(w:World){ops:Array Oper}{rest:List Oper}{o:Oper}{a:Act}{Q:Exit->Act->World->Prop}
  (hg:o.guard=none) (m x v:Operand) (t:TypeId) (hop:o.op=Op.insert t m x v)
  (k e:TypeId) (K:Keyed P k) (ht:P.underlying t=some (.map k e)) (R:Value->Option (DataW H×List MemPlace)) (b n:Nat) (D:DataW H)
  (hm:a.eval m=.map (some b)) (hown:w.ownsMap P k R b n D) (hn:n<maxLen) (key val:Value) (kl:Lit) (hx:a.eval x=key) (hv:a.eval v=val) (hkey:keyOf P k key=some kl)
  (d:DataW H) (ps:List MemPlace) (hval:R val=some (d,ps))
  (hK:∀w',w'.ownsMap P k R b (n+1) (D.put kl d)->w.grownBy w' (some b)->wpList P ops Q rest (a.put o.dst undef) w'):
  wpList P ops Q (o::rest) a w:=by
 refine wpList_plain hg fun K' hK'=> ?_;obtain⟨w',h,r1,r2⟩:=hown.update K ht hn hkey hval;unfold Oper.wp;simp[execOp,hop,hm,hx,hv,h,Result.andThen];exact hK' _ _ (hK w' r1 r2)
theorem Cl (w:World):(zeroValue 5).run Tryz.prog w=.ok (.int .u8 0) w:=by kernel_rfl
theorem Yn {w0 w w':World}{b:Nat}(h:Below w0.heap.size w0 w)(g:w.grownBy w' (some b))(hb:w0.heap.size<=b):Below w0.heap.size w0 w':=
 ⟨g.os.trans h.os,g.tape.trans h.tape,g.output.trans h.output,Nat.le_trans h.size g.size,fun k hk=>(g.block k (Nat.lt_of_lt_of_le hk h.size) (fun e=>by cases e;omega)).trans (h.block k hk)⟩
theorem Qyz (a b:SynP.Ex)(IA:Xe a)(IB:Xe b):Xe (.add a b):=by
 intro l R p tv bv out o m w h ht hs hl ho hp;have hsz:(SynP.Ex.add a b).size=a.size+b.size+1:=rfl;obtain⟨hs2,hst⟩:=SynP.SegN.app (a:=a.flat p++b.flat (p+a.size)) (b:=[⟨6,[],[p+a.size-1,p+a.size+b.size-1]⟩]) hs;obtain⟨hsa,hsb⟩:=SynP.SegN.app hs2;rw[SynP.Yj]at hsb
 have hx:l[p+a.size+b.size]?=some ⟨((6:Nat):Int),[],[((p+a.size-1:Nat):Int),((p+a.size+b.size-1:Nat):Int)]⟩:=by
  have:=hst.one;rw[List.length_append,SynP.Yj,SynP.Yj,<-Nat.add_assoc]at this;exact this
 have hap:=SynP.Xp a;have hbp:=SynP.Xp b;have HSA:=zq hsa;have HSB:=zq hsb;have hpl:(SynP.Ex.add a b).pr=SynP.par (SynP.Qp 6 0 a.op) a.pr++[32,43,32]++SynP.par (SynP.Qp 6 1 b.op) b.pr:=rfl;rw[hpl]at hl;simp only[List.length_append,List.length_cons,List.length_nil]at hl;have hdl:(SynP.Ex.add a b).dp=max (SynP.parD (SynP.Qp 6 0 a.op) a.dp) (SynP.parD (SynP.Qp 6 1 b.op) b.dp):=rfl;rw[show p+(SynP.Ex.add a b).size-1=p+a.size+b.size by rw[hsz];omega,hpl,hdl];rw[hsz]at ho hp;obtain⟨k0,hk0⟩:=xq (p+a.size-1);rw[<-hk0]at hx;obtain⟨k1,hk1⟩:=xq (p+a.size+b.size-1);rw[<-hk1]at hx;obtain⟨K,hK⟩:=xq (p+a.size+b.size);rw[<-hK]at hx ⊢;have HK0:=zq hk0;have HK1:=zq hk1;have hmm:= @run_makeMap Tryz.prog
 have HSZ:Hid (∀A B:Obj,((w.alloc A).alloc B).heap.size=w.heap.size+2):=fun A B=>by simp
 clear hK hs hs2 hst hsa hsb hpl hdl hsz hk0 hk1;obtain⟨tg,ln,tcap,ko,kn,kcap,rfl,hKl,hkn,hkc,c0,c1,c2,c3,hb,hN⟩:=Yq h ht hx;have HKN:=zq hkn;have HB:=zq hb;have HN:=zq hN;obtain⟨OUT,hOUT⟩:=xq (out++(SynP.par (SynP.Qp 6 0 a.op) a.pr++[32,43,32]++SynP.par (SynP.Qp 6 1 b.op) b.pr));have HOUT:=zq hOUT;obtain⟨M,hM⟩:=xq (max m (o+(max (SynP.parD (SynP.Qp 6 0 a.op) a.dp) (SynP.parD (SynP.Qp 6 1 b.op) b.dp))));have HM:=zq hM;have hle:=h.le;have hmf:∀(fn:Fn) (first cap:Array Value) (w:World),(Instr.makeFunc fn first cap).run Tryz.prog w=.ok (.func fn first cap) w:=fun _ _ _ _=>rfl;rw[<-hOUT,<-hM];clear hb hN h ht hx hOUT hM hkn
 have hown0:(((w.alloc (.cells #[.pointer (some ⟨R,0,none⟩)] 86)).alloc (.cells #[.int .i64 6,.string ⟨#[]⟩,.slice ko kn kcap] 43)).alloc (.map #[] 0)).ownsMap Tryz.prog 3 (plainElem (H:=Unit) Tryz.prog 5) (w.heap.size+1+1) 0 (.map []):=by
  have:=World.ownsMap_made ((w.alloc (.cells #[.pointer (some ⟨R,0,none⟩)] 86)).alloc (.cells #[.int .i64 6,.string ⟨#[]⟩,.slice ko kn kcap] 43)) Tryz.prog 3 (plainElem (H:=Unit) Tryz.prog 5);rw[show ((w.alloc (.cells #[.pointer (some ⟨R,0,none⟩)] 86)).alloc (.cells #[.int .i64 6,.string ⟨#[]⟩,.slice ko kn kcap] 43)).heap.size=w.heap.size+1+1 by simp]at this;exact this
 go_enter Tryz.func51,Tryz.ntmps51;go_wp2_with (refine Xs (H:=Unit) _ rfl _ _ _ 136 rfl 3 5 Vt Tryz.underlying136 _ (w.heap.size+1+1) 0 _ rfl hown0 (by unfold maxLen;omega) _ _ _ rfl rfl (keyOf_int_mk Tryz.underlying3 rfl) _ [] (plainElem_int Tryz.underlying5 rfl) ?_);intro w3 hown3 hgrow3;obtain⟨w2,hw2⟩:=xq ((w.alloc (.cells #[.pointer (some ⟨R,0,none⟩)] 86)).alloc (.cells #[.int .i64 6,.string ⟨#[]⟩,.slice ko kn kcap] 43));have hw2':w2=(w.alloc (.cells #[.pointer (some ⟨R,0,none⟩)] 86)).alloc (.cells #[.int .i64 ((6:Nat):Int),.string ⟨([]:Qx).toArray⟩,.slice ko kn kcap] 43):=hw2
 have HWS:Hid (w2.heap.size=w.heap.size+2):=by show _=_;rw[hw2];exact HSZ.o _ _
 rw[<-hw2']at HB HN;rw[<-hw2]at hgrow3;clear hw2 hw2' c0 c1 c2 c3 hown0;obtain⟨G,hG⟩:=xq w.heap.size;rw[<-hG]at HN hown3 hgrow3 ⊢;obtain⟨g0,g1,g2,g3⟩:=HN.o.cells;have HGE:=zq hG;clear hG
 have HG2:Hid (G+2=w2.heap.size):=by show _=_;have h1:=HWS.o;have h2:=HGE.o;omega
 have hb3:Below w2.heap.size w2 w3:=Yn (Qq w2 _) hgrow3 (by have:=HG2.o;omega);have HB3:=zq hb3;clear hb3 hgrow3;go_wp2_with (refine Xs (H:=Unit) _ rfl _ _ _ 136 rfl 3 5 Vt Tryz.underlying136 _ (G+1+1) 1 _ rfl hown3 (by unfold maxLen;omega) _ _ _ rfl rfl (keyOf_int_mk Tryz.underlying3 rfl) _ [] (plainElem_int Tryz.underlying5 rfl) ?_);intro w4 hown4 hgrow4;have HB4:=zq (Yn HB3.o hgrow4 (by have:=HG2.o;omega));clear hgrow4 hown3;go_wp2_with (refine Xs (H:=Unit) _ rfl _ _ _ 136 rfl 3 5 Vt Tryz.underlying136 _ (G+1+1) 2 _ rfl hown4 (by unfold maxLen;omega) _ _ _ rfl rfl (keyOf_int_mk Tryz.underlying3 rfl) _ [] (plainElem_int Tryz.underlying5 rfl) ?_);intro w5 hown5 hgrow5;have HB5:=zq (Yn HB4.o hgrow5 (by have:=HG2.o;omega));clear hgrow5 hown4 g0 g1 g2 g3;have HN5:=zq (HN.o.below HB5.o);obtain⟨g0,g1,g2,g3⟩:=HN5.o.cells;go_wp2_with (at_lookup;refine wpList_lookup_own_int (H:=Unit) _ rfl _ _ 136 rfl 3 5 .u8 Vt Tryz.underlying136 Tryz.underlying5 (Cl _) (G+1+1) 3 _ rfl hown5 _ _ rfl (keyOf_int_mk Tryz.underlying3 rfl) ?_);intro c hat _
 have hc:c=43:=by
  have e1:DataW.atKey ((((DataW.map (H:=Unit) []).put (.int .i64 6) (.lit (.int .u8 43))).put (.int .i64 7) (.lit (.int .u8 45))).put (.int .i64 8) (.lit (.int .u8 42))) (.int .i64 6) (.lit (.int .u8 0))=.lit (.int .u8 43):=rfl;have e2:=e1.symm.trans hat
  injection e2 with e3
  injection e3 with _ e4
  exact e4.symm
 subst hc;clear hat hown5;go_wp2_with fail;refine(Jk 6 0 a IA l R p _ _ _ _ _ _ HN5.o.ws HN5.o.nl HSA.o (by omega) (by omega) (by omega) _ _ _ HN5.o.kl (by rw[HK0.o];rfl)).mono ?_;rintro y w6 ⟨rfl,bv6,a1,a2,a3⟩;have HN6:=zq (HN5.o.step a1 a2 a3);clear a1 a2 a3 g0 g1 g2 g3;obtain⟨g0,g1,g2,g3⟩:=HN6.o.cells;go_wp2_with fail;refine(Z3 R _ _ _ _ _ [32,43,32] _ HN6.o.ws (by rw[List.length_append];omega) (by decide)).mono ?_;rintro y w7 ⟨rfl,bv7,a1,a2,a3⟩;have HN7:=zq (HN6.o.step a1 a2 a3);clear a1 a2 a3 g0 g1 g2 g3;obtain⟨g0,g1,g2,g3⟩:=HN7.o.cells;go_wp2_with fail;refine(Jk 6 1 b IB l R (p+a.size) _ _ _ _ _ _ HN7.o.ws HN7.o.nl HSB.o (by simp only[List.length_append,List.length_cons,List.length_nil];omega) (by omega) (by omega) _ _ _ HN7.o.kl (by rw[HK1.o];rfl)).mono ?_;rintro y w8 ⟨rfl,bv8,a1,a2,a3⟩;have HN8:=zq (HN7.o.step a1 a2 a3);clear a1 a2 a3 g0 g1 g2 g3;obtain⟨g0,g1,g2,g3⟩:=HN8.o.cells;go_wp2_with fail
 first|go_end0|refine bodyPost_ret (results_none rfl _ _ _) rfl ?_
 have hf:=HN8.o.fin HB.o;rw[show out++SynP.par (SynP.Qp 6 0 a.op) a.pr++[32,43,32]++SynP.par (SynP.Qp 6 1 b.op) b.pr=OUT by rw[HOUT.o];simp only[List.append_assoc],show max (max m (o+SynP.parD (SynP.Qp 6 0 a.op) a.dp)) (o+SynP.parD (SynP.Qp 6 1 b.op) b.dp)=M by rw[HM.o];omega]at hf;exact hf
theorem Qyy (a b:SynP.Ex)(IA:Xe a)(IB:Xe b):Xe (.sub a b):=by
 intro l R p tv bv out o m w h ht hs hl ho hp;have hsz:(SynP.Ex.sub a b).size=a.size+b.size+1:=rfl;obtain⟨hs2,hst⟩:=SynP.SegN.app (a:=a.flat p++b.flat (p+a.size)) (b:=[⟨7,[],[p+a.size-1,p+a.size+b.size-1]⟩]) hs;obtain⟨hsa,hsb⟩:=SynP.SegN.app hs2;rw[SynP.Yj]at hsb
 have hx:l[p+a.size+b.size]?=some ⟨((7:Nat):Int),[],[((p+a.size-1:Nat):Int),((p+a.size+b.size-1:Nat):Int)]⟩:=by
  have:=hst.one;rw[List.length_append,SynP.Yj,SynP.Yj,<-Nat.add_assoc]at this;exact this
 have hap:=SynP.Xp a;have hbp:=SynP.Xp b;have HSA:=zq hsa;have HSB:=zq hsb;have hpl:(SynP.Ex.sub a b).pr=SynP.par (SynP.Qp 7 0 a.op) a.pr++[32,45,32]++SynP.par (SynP.Qp 7 1 b.op) b.pr:=rfl;rw[hpl]at hl;simp only[List.length_append,List.length_cons,List.length_nil]at hl;have hdl:(SynP.Ex.sub a b).dp=max (SynP.parD (SynP.Qp 7 0 a.op) a.dp) (SynP.parD (SynP.Qp 7 1 b.op) b.dp):=rfl;rw[show p+(SynP.Ex.sub a b).size-1=p+a.size+b.size by rw[hsz];omega,hpl,hdl];rw[hsz]at ho hp;obtain⟨k0,hk0⟩:=xq (p+a.size-1);rw[<-hk0]at hx;obtain⟨k1,hk1⟩:=xq (p+a.size+b.size-1);rw[<-hk1]at hx;obtain⟨K,hK⟩:=xq (p+a.size+b.size);rw[<-hK]at hx ⊢;have HK0:=zq hk0;have HK1:=zq hk1;have hmm:= @run_makeMap Tryz.prog
 have HSZ:Hid (∀A B:Obj,((w.alloc A).alloc B).heap.size=w.heap.size+2):=fun A B=>by simp
 clear hK hs hs2 hst hsa hsb hpl hdl hsz hk0 hk1;obtain⟨tg,ln,tcap,ko,kn,kcap,rfl,hKl,hkn,hkc,c0,c1,c2,c3,hb,hN⟩:=Yq h ht hx;have HKN:=zq hkn;have HB:=zq hb;have HN:=zq hN;obtain⟨OUT,hOUT⟩:=xq (out++(SynP.par (SynP.Qp 7 0 a.op) a.pr++[32,45,32]++SynP.par (SynP.Qp 7 1 b.op) b.pr));have HOUT:=zq hOUT;obtain⟨M,hM⟩:=xq (max m (o+(max (SynP.parD (SynP.Qp 7 0 a.op) a.dp) (SynP.parD (SynP.Qp 7 1 b.op) b.dp))));have HM:=zq hM;have hle:=h.le;have hmf:∀(fn:Fn) (first cap:Array Value) (w:World),(Instr.makeFunc fn first cap).run Tryz.prog w=.ok (.func fn first cap) w:=fun _ _ _ _=>rfl;rw[<-hOUT,<-hM];clear hb hN h ht hx hOUT hM hkn
 have hown0:(((w.alloc (.cells #[.pointer (some ⟨R,0,none⟩)] 86)).alloc (.cells #[.int .i64 7,.string ⟨#[]⟩,.slice ko kn kcap] 43)).alloc (.map #[] 0)).ownsMap Tryz.prog 3 (plainElem (H:=Unit) Tryz.prog 5) (w.heap.size+1+1) 0 (.map []):=by
  have:=World.ownsMap_made ((w.alloc (.cells #[.pointer (some ⟨R,0,none⟩)] 86)).alloc (.cells #[.int .i64 7,.string ⟨#[]⟩,.slice ko kn kcap] 43)) Tryz.prog 3 (plainElem (H:=Unit) Tryz.prog 5);rw[show ((w.alloc (.cells #[.pointer (some ⟨R,0,none⟩)] 86)).alloc (.cells #[.int .i64 7,.string ⟨#[]⟩,.slice ko kn kcap] 43)).heap.size=w.heap.size+1+1 by simp]at this;exact this
 go_enter Tryz.func51,Tryz.ntmps51;go_wp2_with (refine Xs (H:=Unit) _ rfl _ _ _ 136 rfl 3 5 Vt Tryz.underlying136 _ (w.heap.size+1+1) 0 _ rfl hown0 (by unfold maxLen;omega) _ _ _ rfl rfl (keyOf_int_mk Tryz.underlying3 rfl) _ [] (plainElem_int Tryz.underlying5 rfl) ?_);intro w3 hown3 hgrow3;obtain⟨w2,hw2⟩:=xq ((w.alloc (.cells #[.pointer (some ⟨R,0,none⟩)] 86)).alloc (.cells #[.int .i64 7,.string ⟨#[]⟩,.slice ko kn kcap] 43));have hw2':w2=(w.alloc (.cells #[.pointer (some ⟨R,0,none⟩)] 86)).alloc (.cells #[.int .i64 ((7:Nat):Int),.string ⟨([]:Qx).toArray⟩,.slice ko kn kcap] 43):=hw2
 have HWS:Hid (w2.heap.size=w.heap.size+2):=by show _=_;rw[hw2];exact HSZ.o _ _
 rw[<-hw2']at HB HN;rw[<-hw2]at hgrow3;clear hw2 hw2' c0 c1 c2 c3 hown0;obtain⟨G,hG⟩:=xq w.heap.size;rw[<-hG]at HN hown3 hgrow3 ⊢;obtain⟨g0,g1,g2,g3⟩:=HN.o.cells;have HGE:=zq hG;clear hG
 have HG2:Hid (G+2=w2.heap.size):=by show _=_;have h1:=HWS.o;have h2:=HGE.o;omega
 have hb3:Below w2.heap.size w2 w3:=Yn (Qq w2 _) hgrow3 (by have:=HG2.o;omega);have HB3:=zq hb3;clear hb3 hgrow3;go_wp2_with (refine Xs (H:=Unit) _ rfl _ _ _ 136 rfl 3 5 Vt Tryz.underlying136 _ (G+1+1) 1 _ rfl hown3 (by unfold maxLen;omega) _ _ _ rfl rfl (keyOf_int_mk Tryz.underlying3 rfl) _ [] (plainElem_int Tryz.underlying5 rfl) ?_);intro w4 hown4 hgrow4;have HB4:=zq (Yn HB3.o hgrow4 (by have:=HG2.o;omega));clear hgrow4 hown3;go_wp2_with (refine Xs (H:=Unit) _ rfl _ _ _ 136 rfl 3 5 Vt Tryz.underlying136 _ (G+1+1) 2 _ rfl hown4 (by unfold maxLen;omega) _ _ _ rfl rfl (keyOf_int_mk Tryz.underlying3 rfl) _ [] (plainElem_int Tryz.underlying5 rfl) ?_);intro w5 hown5 hgrow5;have HB5:=zq (Yn HB4.o hgrow5 (by have:=HG2.o;omega));clear hgrow5 hown4 g0 g1 g2 g3;have HN5:=zq (HN.o.below HB5.o);obtain⟨g0,g1,g2,g3⟩:=HN5.o.cells;go_wp2_with (at_lookup;refine wpList_lookup_own_int (H:=Unit) _ rfl _ _ 136 rfl 3 5 .u8 Vt Tryz.underlying136 Tryz.underlying5 (Cl _) (G+1+1) 3 _ rfl hown5 _ _ rfl (keyOf_int_mk Tryz.underlying3 rfl) ?_);intro c hat _
 have hc:c=45:=by
  have e1:DataW.atKey ((((DataW.map (H:=Unit) []).put (.int .i64 6) (.lit (.int .u8 43))).put (.int .i64 7) (.lit (.int .u8 45))).put (.int .i64 8) (.lit (.int .u8 42))) (.int .i64 7) (.lit (.int .u8 0))=.lit (.int .u8 45):=rfl;have e2:=e1.symm.trans hat
  injection e2 with e3
  injection e3 with _ e4
  exact e4.symm
 subst hc;clear hat hown5;go_wp2_with fail;refine(Jk 7 0 a IA l R p _ _ _ _ _ _ HN5.o.ws HN5.o.nl HSA.o (by omega) (by omega) (by omega) _ _ _ HN5.o.kl (by rw[HK0.o];rfl)).mono ?_;rintro y w6 ⟨rfl,bv6,a1,a2,a3⟩;have HN6:=zq (HN5.o.step a1 a2 a3);clear a1 a2 a3 g0 g1 g2 g3;obtain⟨g0,g1,g2,g3⟩:=HN6.o.cells;go_wp2_with fail;refine(Z3 R _ _ _ _ _ [32,45,32] _ HN6.o.ws (by rw[List.length_append];omega) (by decide)).mono ?_;rintro y w7 ⟨rfl,bv7,a1,a2,a3⟩;have HN7:=zq (HN6.o.step a1 a2 a3);clear a1 a2 a3 g0 g1 g2 g3;obtain⟨g0,g1,g2,g3⟩:=HN7.o.cells;go_wp2_with fail;refine(Jk 7 1 b IB l R (p+a.size) _ _ _ _ _ _ HN7.o.ws HN7.o.nl HSB.o (by simp only[List.length_append,List.length_cons,List.length_nil];omega) (by omega) (by omega) _ _ _ HN7.o.kl (by rw[HK1.o];rfl)).mono ?_;rintro y w8 ⟨rfl,bv8,a1,a2,a3⟩;have HN8:=zq (HN7.o.step a1 a2 a3);clear a1 a2 a3 g0 g1 g2 g3;obtain⟨g0,g1,g2,g3⟩:=HN8.o.cells;go_wp2_with fail
 first|go_end0|refine bodyPost_ret (results_none rfl _ _ _) rfl ?_
 have hf:=HN8.o.fin HB.o;rw[show out++SynP.par (SynP.Qp 7 0 a.op) a.pr++[32,45,32]++SynP.par (SynP.Qp 7 1 b.op) b.pr=OUT by rw[HOUT.o];simp only[List.append_assoc],show max (max m (o+SynP.parD (SynP.Qp 7 0 a.op) a.dp)) (o+SynP.parD (SynP.Qp 7 1 b.op) b.dp)=M by rw[HM.o];omega]at hf;exact hf
theorem Qyk (a b:SynP.Ex)(IA:Xe a)(IB:Xe b):Xe (.mul a b):=by
 intro l R p tv bv out o m w h ht hs hl ho hp;have hsz:(SynP.Ex.mul a b).size=a.size+b.size+1:=rfl;obtain⟨hs2,hst⟩:=SynP.SegN.app (a:=a.flat p++b.flat (p+a.size)) (b:=[⟨8,[],[p+a.size-1,p+a.size+b.size-1]⟩]) hs;obtain⟨hsa,hsb⟩:=SynP.SegN.app hs2;rw[SynP.Yj]at hsb
 have hx:l[p+a.size+b.size]?=some ⟨((8:Nat):Int),[],[((p+a.size-1:Nat):Int),((p+a.size+b.size-1:Nat):Int)]⟩:=by
  have:=hst.one;rw[List.length_append,SynP.Yj,SynP.Yj,<-Nat.add_assoc]at this;exact this
 have hap:=SynP.Xp a;have hbp:=SynP.Xp b;have HSA:=zq hsa;have HSB:=zq hsb;have hpl:(SynP.Ex.mul a b).pr=SynP.par (SynP.Qp 8 0 a.op) a.pr++[42]++SynP.par (SynP.Qp 8 1 b.op) b.pr:=rfl;rw[hpl]at hl;simp only[List.length_append,List.length_cons,List.length_nil]at hl;have hdl:(SynP.Ex.mul a b).dp=max (SynP.parD (SynP.Qp 8 0 a.op) a.dp) (SynP.parD (SynP.Qp 8 1 b.op) b.dp):=rfl;rw[show p+(SynP.Ex.mul a b).size-1=p+a.size+b.size by rw[hsz];omega,hpl,hdl];rw[hsz]at ho hp;obtain⟨k0,hk0⟩:=xq (p+a.size-1);rw[<-hk0]at hx;obtain⟨k1,hk1⟩:=xq (p+a.size+b.size-1);rw[<-hk1]at hx;obtain⟨K,hK⟩:=xq (p+a.size+b.size);rw[<-hK]at hx ⊢;have HK0:=zq hk0;have HK1:=zq hk1;have hmm:= @run_makeMap Tryz.prog
 have HSZ:Hid (∀A B:Obj,((w.alloc A).alloc B).heap.size=w.heap.size+2):=fun A B=>by simp
 clear hK hs hs2 hst hsa hsb hpl hdl hsz hk0 hk1;obtain⟨tg,ln,tcap,ko,kn,kcap,rfl,hKl,hkn,hkc,c0,c1,c2,c3,hb,hN⟩:=Yq h ht hx;have HKN:=zq hkn;have HB:=zq hb;have HN:=zq hN;obtain⟨OUT,hOUT⟩:=xq (out++(SynP.par (SynP.Qp 8 0 a.op) a.pr++[42]++SynP.par (SynP.Qp 8 1 b.op) b.pr));have HOUT:=zq hOUT;obtain⟨M,hM⟩:=xq (max m (o+(max (SynP.parD (SynP.Qp 8 0 a.op) a.dp) (SynP.parD (SynP.Qp 8 1 b.op) b.dp))));have HM:=zq hM;have hle:=h.le;have hmf:∀(fn:Fn) (first cap:Array Value) (w:World),(Instr.makeFunc fn first cap).run Tryz.prog w=.ok (.func fn first cap) w:=fun _ _ _ _=>rfl;rw[<-hOUT,<-hM];clear hb hN h ht hx hOUT hM hkn
 have hown0:(((w.alloc (.cells #[.pointer (some ⟨R,0,none⟩)] 86)).alloc (.cells #[.int .i64 8,.string ⟨#[]⟩,.slice ko kn kcap] 43)).alloc (.map #[] 0)).ownsMap Tryz.prog 3 (plainElem (H:=Unit) Tryz.prog 5) (w.heap.size+1+1) 0 (.map []):=by
  have:=World.ownsMap_made ((w.alloc (.cells #[.pointer (some ⟨R,0,none⟩)] 86)).alloc (.cells #[.int .i64 8,.string ⟨#[]⟩,.slice ko kn kcap] 43)) Tryz.prog 3 (plainElem (H:=Unit) Tryz.prog 5);rw[show ((w.alloc (.cells #[.pointer (some ⟨R,0,none⟩)] 86)).alloc (.cells #[.int .i64 8,.string ⟨#[]⟩,.slice ko kn kcap] 43)).heap.size=w.heap.size+1+1 by simp]at this;exact this
 go_enter Tryz.func51,Tryz.ntmps51;go_wp2_with (refine Xs (H:=Unit) _ rfl _ _ _ 136 rfl 3 5 Vt Tryz.underlying136 _ (w.heap.size+1+1) 0 _ rfl hown0 (by unfold maxLen;omega) _ _ _ rfl rfl (keyOf_int_mk Tryz.underlying3 rfl) _ [] (plainElem_int Tryz.underlying5 rfl) ?_);intro w3 hown3 hgrow3;obtain⟨w2,hw2⟩:=xq ((w.alloc (.cells #[.pointer (some ⟨R,0,none⟩)] 86)).alloc (.cells #[.int .i64 8,.string ⟨#[]⟩,.slice ko kn kcap] 43));have hw2':w2=(w.alloc (.cells #[.pointer (some ⟨R,0,none⟩)] 86)).alloc (.cells #[.int .i64 ((8:Nat):Int),.string ⟨([]:Qx).toArray⟩,.slice ko kn kcap] 43):=hw2
 have HWS:Hid (w2.heap.size=w.heap.size+2):=by show _=_;rw[hw2];exact HSZ.o _ _
 rw[<-hw2']at HB HN;rw[<-hw2]at hgrow3;clear hw2 hw2' c0 c1 c2 c3 hown0;obtain⟨G,hG⟩:=xq w.heap.size;rw[<-hG]at HN hown3 hgrow3 ⊢;obtain⟨g0,g1,g2,g3⟩:=HN.o.cells;have HGE:=zq hG;clear hG
 have HG2:Hid (G+2=w2.heap.size):=by show _=_;have h1:=HWS.o;have h2:=HGE.o;omega
 have hb3:Below w2.heap.size w2 w3:=Yn (Qq w2 _) hgrow3 (by have:=HG2.o;omega);have HB3:=zq hb3;clear hb3 hgrow3;go_wp2_with (refine Xs (H:=Unit) _ rfl _ _ _ 136 rfl 3 5 Vt Tryz.underlying136 _ (G+1+1) 1 _ rfl hown3 (by unfold maxLen;omega) _ _ _ rfl rfl (keyOf_int_mk Tryz.underlying3 rfl) _ [] (plainElem_int Tryz.underlying5 rfl) ?_);intro w4 hown4 hgrow4;have HB4:=zq (Yn HB3.o hgrow4 (by have:=HG2.o;omega));clear hgrow4 hown3;go_wp2_with (refine Xs (H:=Unit) _ rfl _ _ _ 136 rfl 3 5 Vt Tryz.underlying136 _ (G+1+1) 2 _ rfl hown4 (by unfold maxLen;omega) _ _ _ rfl rfl (keyOf_int_mk Tryz.underlying3 rfl) _ [] (plainElem_int Tryz.underlying5 rfl) ?_);intro w5 hown5 hgrow5;have HB5:=zq (Yn HB4.o hgrow5 (by have:=HG2.o;omega));clear hgrow5 hown4 g0 g1 g2 g3;have HN5:=zq (HN.o.below HB5.o);obtain⟨g0,g1,g2,g3⟩:=HN5.o.cells;go_wp2_with (at_lookup;refine wpList_lookup_own_int (H:=Unit) _ rfl _ _ 136 rfl 3 5 .u8 Vt Tryz.underlying136 Tryz.underlying5 (Cl _) (G+1+1) 3 _ rfl hown5 _ _ rfl (keyOf_int_mk Tryz.underlying3 rfl) ?_);intro c hat _
 have hc:c=42:=by
  have e1:DataW.atKey ((((DataW.map (H:=Unit) []).put (.int .i64 6) (.lit (.int .u8 43))).put (.int .i64 7) (.lit (.int .u8 45))).put (.int .i64 8) (.lit (.int .u8 42))) (.int .i64 8) (.lit (.int .u8 0))=.lit (.int .u8 42):=rfl;have e2:=e1.symm.trans hat
  injection e2 with e3
  injection e3 with _ e4
  exact e4.symm
 subst hc;clear hat hown5;go_wp2_with fail;refine(Jk 8 0 a IA l R p _ _ _ _ _ _ HN5.o.ws HN5.o.nl HSA.o (by omega) (by omega) (by omega) _ _ _ HN5.o.kl (by rw[HK0.o];rfl)).mono ?_;rintro y w6 ⟨rfl,bv6,a1,a2,a3⟩;have HN6:=zq (HN5.o.step a1 a2 a3);clear a1 a2 a3 g0 g1 g2 g3;obtain⟨g0,g1,g2,g3⟩:=HN6.o.cells;go_wp2_with fail;refine(Uf R _ _ _ _ _ 42 _ HN6.o.ws (by rw[List.length_append];omega)).mono ?_;rintro y w7 ⟨rfl,bv7,a1,a2,a3⟩;have HN7:=zq (HN6.o.step a1 a2 a3);clear a1 a2 a3 g0 g1 g2 g3;obtain⟨g0,g1,g2,g3⟩:=HN7.o.cells;go_wp2_with fail;refine(Jk 8 1 b IB l R (p+a.size) _ _ _ _ _ _ HN7.o.ws HN7.o.nl HSB.o (by simp only[List.length_append,List.length_cons,List.length_nil];omega) (by omega) (by omega) _ _ _ HN7.o.kl (by rw[HK1.o];rfl)).mono ?_;rintro y w8 ⟨rfl,bv8,a1,a2,a3⟩;have HN8:=zq (HN7.o.step a1 a2 a3);clear a1 a2 a3 g0 g1 g2 g3;obtain⟨g0,g1,g2,g3⟩:=HN8.o.cells;go_wp2_with fail
 first|go_end0|refine bodyPost_ret (results_none rfl _ _ _) rfl ?_
 have hf:=HN8.o.fin HB.o;rw[show out++SynP.par (SynP.Qp 8 0 a.op) a.pr++[42]++SynP.par (SynP.Qp 8 1 b.op) b.pr=OUT by rw[HOUT.o];simp only[List.append_assoc],show max (max m (o+SynP.parD (SynP.Qp 8 0 a.op) a.dp)) (o+SynP.parD (SynP.Qp 8 1 b.op) b.dp)=M by rw[HM.o];omega]at hf;exact hf
mutual
theorem Ze:(e:SynP.Ex)->Xe e
 | .num n=>Qyw n
 | .name x=>F7 x
 | .mat m=>Qyv m
 | .cpx l=>Qyj l
 | .neg a=>Aj a (Ze a)
 | .turn a=>F8 a (Ze a)
 | .add a b=>Qyz a b (Ze a) (Ze b)
 | .sub a b=>Qyy a b (Ze a) (Ze b)
 | .mul a b=>Qyk a b (Ze a) (Ze b)
 | .pow a n=>Av a n (Ze a)
 | .call x l=>Qv0 x l (Rj l)
theorem Rj:(l:SynP.Exs)-> ∀e∈SynP.exL l,Xe e
 | .nil=>fun e h=>by cases h
 | .cons a l=>fun e h=>by
  rcases List.mem_cons.1 h with h|h
  ·rw[h];exact Ze a
  ·exact Rj l e h
end
theorem Qhv:(n:SynP.Ln)->LnOk n
 | .nothing=>Qxb
 | .lets x e=>Qgy x e (Ze e)
 | .cmd x .nil=>Qxh x (Rj _)
 | .cmd x (.cons a l)=>N7 x a l (Rj _)
theorem Tryz.cellsByte:Tryz.prog.cellsOf 5=1:=by kernel_rfl
theorem Qqo (R:Nat)(tv bv:Value)(out:Qx)(o m:Nat)(w:World)(h:WrS w R tv bv out o m):
  Calls Tryz.prog 52 #[.pointer (some ⟨R,1,none⟩)] w fun e w'=>e=.returned (.string ⟨out.toArray⟩)/\Below R w w':=by
 obtain⟨av,-,hbk⟩:=h.blk;have hown:=h.own;have hRl:=h.lt;by_cases h0:out=[]
 ·subst h0
  have hUS:∀(W:World) (q:Option Addr),(Builtin.unsafeString_ #[145,3] 9 #[.pointer q,.int .i64 0]).run Tryz.prog W=.ok (.string .empty) W:=fun W q=>Lib.run_unsafeString_none W _ _ _ q;rcases hown.2 with ⟨rfl,-⟩|⟨g,cap,cur,rfl,hbg,hg,hnc,hcm,hcs,htake⟩
  ·have c1:w.drew.cell? ⟨R,2,none⟩=some (.slice none 0 0):=by
    have:w.drew.heap[R]?=some (.cells #[tv,av,.slice none 0 0,.int .i64 (o:Nat),.int .i64 (m:Nat)] 92 (0,0)):=hbk;rw[cell_of_row _ _ _ _ _ _ this];rfl
   have hSD:(Builtin.unsafeSliceData_ #[88] 145 #[.slice none 0 0]).run Tryz.prog w.drew=.ok (.pointer none) w.drew:=rfl;clear h hbk hown;go_enter Tryz.func52,Tryz.ntmps52;go_wp2_with fail;go_region
   all_goals (go_wp2_with fail;go_ret;exact⟨rfl,Below.drew (Below.refl _ _)⟩)
  ·have e0:([]:Qx).length=0:=rfl
   rw[e0]at hbk hnc;by_cases hc0:cap=0
   ·subst hc0
    have c1:w.drew.cell? ⟨R,2,none⟩=some (.slice (some ⟨g,0,none⟩) 0 0):=by
     have:w.drew.heap[R]?=some (.cells #[tv,av,.slice (some ⟨g,0,none⟩) 0 0,.int .i64 (o:Nat),.int .i64 (m:Nat)] 92 (0,0)):=hbk;rw[cell_of_row _ _ _ _ _ _ this];rfl
    have hSD:(Builtin.unsafeSliceData_ #[88] 145 #[.slice (some ⟨g,0,none⟩) 0 0]).run Tryz.prog w.drew=.ok (.pointer (some ⟨w.drew.heap.size,0,none⟩)) (w.drew.alloc (.view ⟨g,0,none⟩ 5)):=
     Lib.run_unsafeSliceData_zero w.drew _ _ 5 Tryz.underlying145 ⟨g,0,none⟩ 0 (5,cur.size) (by have hg':w.drew.heap[g]?=some (.cells cur 5 (0,0)):=hg;simp[World.shape?,hg'])
    have c2:(w.drew.alloc (.view ⟨g,0,none⟩ 5)).cell? ⟨R,2,none⟩=some (.slice (some ⟨g,0,none⟩) 0 0):=by
     have:(w.drew.alloc (.view ⟨g,0,none⟩ 5)).heap[R]?=_:=(Lib.alloc_old w.drew _ R hRl).trans hbk;rw[cell_of_row _ _ _ _ _ _ this];rfl
    have c3:(w.alloc (.view ⟨g,0,none⟩ 5)).drew.cell? ⟨R,2,none⟩=some (.slice (some ⟨g,0,none⟩) 0 0):=c2;have c0:w.cell? ⟨R,2,none⟩=some (.slice (some ⟨g,0,none⟩) 0 0):=c1;clear h hbk hown hg;go_enter Tryz.func52,Tryz.ntmps52;go_wp2_with fail;go_region
    all_goals (go_wp2_with fail;go_ret;exact⟨rfl,(Below.drew (Below.refl _ w)).alloc (Nat.le_of_lt hRl) _⟩)
   ·have c1:w.drew.cell? ⟨R,2,none⟩=some (.slice (some ⟨g,0,none⟩) 0 cap):=by
     have:w.drew.heap[R]?=some (.cells #[tv,av,.slice (some ⟨g,0,none⟩) 0 cap,.int .i64 (o:Nat),.int .i64 (m:Nat)] 92 (0,0)):=hbk;rw[cell_of_row _ _ _ _ _ _ this];rfl
    have hSD:(Builtin.unsafeSliceData_ #[88] 145 #[.slice (some ⟨g,0,none⟩) 0 cap]).run Tryz.prog w.drew=.ok (.pointer (some ⟨g,0,none⟩)) w.drew:=
     Lib.run_unsafeSliceData_row _ _ _ _ _ _ hc0
    clear h hbk hown hc0;go_enter Tryz.func52,Tryz.ntmps52;go_wp2_with fail;go_region
    all_goals (go_wp2_with fail;go_ret;exact⟨rfl,Below.drew (Below.refl _ _)⟩)
 ·have hl0:out.length≠0:=by simpa using h0
  obtain⟨g,cap,cur,rfl,hbg,hg,hnc,hcm,hcs,htake⟩:∃g cap cur,bv=.slice (some ⟨g,0,none⟩) out.length cap/\R+1<=g/\w.heap[g]?=some (.cells cur 5 (0,0))/\out.length<=cap/\cap<=maxLen/\cur.size=cap*1/\cur.toList.take (out.length*1)=u8s out:=by
   rcases hown.2 with ⟨_,hz⟩|⟨g,cap,cur,hv,r⟩
   ·exact absurd hz hl0
   ·exact⟨g,cap,cur,hv,r⟩
  have c1:w.drew.cell? ⟨R,2,none⟩=some (.slice (some ⟨g,0,none⟩) out.length cap):=by
   have:w.drew.heap[R]?=some (.cells #[tv,av,.slice (some ⟨g,0,none⟩) out.length cap,.int .i64 (o:Nat),.int .i64 (m:Nat)] 92 (0,0)):=hbk;rw[cell_of_row _ _ _ _ _ _ this];rfl
  have hSD:(Builtin.unsafeSliceData_ #[88] 145 #[.slice (some ⟨g,0,none⟩) out.length cap]).run Tryz.prog w.drew=.ok (.pointer (some ⟨g,0,none⟩)) w.drew:=
   Lib.run_unsafeSliceData_row _ _ _ _ _ _ (by omega)
  have hUS:(Builtin.unsafeString_ #[145,3] 9 #[.pointer (some ⟨g,0,none⟩),.int .i64 out.length]).run Tryz.prog w.drew=.ok (.string ⟨out.toArray⟩) (w.drew.freeze ⟨g,0,none⟩ out.length):=by
   refine Lib.run_unsafeString_row w.drew 145 3 9 5 Tryz.underlying145 Tryz.cellsByte g cur.size (by have hg':w.drew.heap[g]?=some (.cells cur 5 (0,0)):=hg;simp[World.shape?,hg']) out h0 (by omega) (by unfold maxLen at hcm;omega) ?_;intro j x hx;have:=hown.cells (g:=g) rfl j (.int .u8 x.toNat) (by simp[u8s,hx]);exact this
  obtain⟨n,hn⟩:=xq out.length;rw[<-hn]at c1 hSD hUS hnc;clear h hbk hown hn hl0 htake;go_enter Tryz.func52,Tryz.ntmps52;go_wp2_with fail;go_region
  all_goals (go_wp2_with fail;go_ret;exact⟨rfl,Lib.below_freeze (Below.drew (Below.refl _ w)) (p:=⟨g,0,none⟩) (by show R<=g;omega) _⟩)
theorem Rq (n:SynP.Ln):n.flat.length=n.size:=by
 cases n with
 |nothing=>rfl
 |lets x e=>simp[SynP.Ln.flat,SynP.Ln.size,Uu]
 |cmd x l=>simp[SynP.Ln.flat,SynP.Ln.size,Un]
theorem Ej (s:ByteArray)(w:World)(hf:Fits s.data.toList)(hx:Lx w)(hs:SG w)(hsz:4<w.heap.size):
  Calls Tryz.prog 13 #[.string s] w (PaP s.data.toList w):=by
 have hmf:∀(fn:Fn) (first cap:Array Value) (w:World),(Instr.makeFunc fn first cap).run Tryz.prog w=.ok (.func fn first cap) w:=fun _ _ _ _=>rfl;have HF:=zq hf;have HX:=zq hx;have HSG:=zq hs
 have hs4:s.size<=67108864:=by rw[Lib.size_eq];exact hf
 clear hf hx hs;go_enter Tryz.func13,Tryz.ntmps13;go_wp2_with fail;refine(Rk s _ HF.o HX.o HSG.o hsz).mono ?_;rintro e w1 hn;unfold StP at hn
 cases hT:Toks 1 (Qz s.data.toList) with
 |error p=>
  obtain⟨c,k⟩:=p;rw[hT]at hn;obtain⟨rfl,hb⟩:=hn;have hk0:=(Uh _ _ _ hT).1;have HB:=zq hb;have HV:=zq (SynP.Tc hT);simp only at hk0
  have hkk:((k:Int) !=0)=true:=by simp;omega
  clear hb hT hk0;go_wp2_with fail;go_ret3;unfold PaP;rw[HV.o]
  exact⟨rfl,HB.o⟩
 |ok ts=>
  rw[hT]at hn;obtain⟨R,tv,rfl,hR,hb,h⟩:=hn;have HS:=zq h;have HB:=zq hb;have HT:=zq hT;have hg:=SynP.Nx ((Qz s.data.toList).length+1) ⟨ts,0⟩
  have hne:SynP.line ((Qz s.data.toList).length+1) (10*ts.length+9) ⟨ts,0⟩≠none:=by
   intro e;simp only[e]at hg;exact hg.elim
  have HNE:=zq hne;have HG:=zq hg;clear hb hT h hg hne;go_wp2_with fail;refine(Dp ((Qz s.data.toList).length+1) (10*ts.length+9) R tv ts ⟨ts,0⟩ _ _ HS.o HNE.o).mono ?_;rintro e w2 hn;unfold GuP at hn
  rcases hL:SynP.line ((Qz s.data.toList).length+1) (10*ts.length+9) ⟨ts,0⟩ with- |(⟨c,k⟩|⟨n,s'⟩)<;>rw[hL]at hn
  ·exact hn.elim
  ·obtain⟨rfl,hw⟩:=hn
   have hk0:=HG.o;simp only[hL]at hk0;have hk1:0<k:=hk0;have HV:=zq (SynP.Tf HT.o hL);have HW:=zq (Qj (Wr.belowR hw HB.o hR) (Qq w2 (.cells #[.int .i64 (c:Nat),.int .i64 (k:Nat)] 81)))
   have hkk:((k:Int) !=0)=true:=by simp;omega
   clear hk0 hL hw;go_wp2_with fail;go_region;go_wp2_with fail;go_ret3;unfold PaP;rw[HV.o];exact⟨rfl,Below.drew HW.o⟩
  ·obtain⟨rfl,a',nv',ns',n1,n2,n3⟩:=hn
   have HV:=zq (SynP.Uo HT.o hL);have HA:=zq (Qq w2 (.cells #[.int .i64 0,.int .i64 0] 81));have HW:=zq (Qj (Wr.belowR n2 HB.o hR) HA.o);have n1':=n1.below HA.o;have HTR:=zq (n1'.tr hR);have e4:=n1'.cells.2.2.2.2
   have hlen:ns'.length=n.size:=by
    have:=congrArg List.length n3;rw[List.length_map,Rq]at this;exact this
   have HN3:=zq n3;have HLEN:=zq hlen;obtain⟨ao,cap,rfl,-,-,-⟩:=Qm n1.own;obtain⟨m,hm⟩:=xq ns'.length;rw[<-hm]at e4;have HM:=zq hm;clear hL n1 n1' n2 n3 hlen hm;by_cases hbig:4096<n.size
   ·have hmb:(4096:Int)<(m:Int):=by have h1:=HM.o;have h2:=HLEN.o;omega
    have hdd:decide ((4096:Int)<(m:Int))=true:=decide_eq_true hmb;have HBG:=zq hbig;clear hbig hmb;go_wp2_with fail;go_ret3;unfold PaP;rw[HV.o,if_pos HBG.o];exact⟨rfl,HW.o⟩
   ·have hmb: ¬(4096:Int)<(m:Int):=by have h1:=HM.o;have h2:=HLEN.o;omega
    have hdd:decide ((4096:Int)<(m:Int))=false:=decide_eq_false hmb;have HBG:=zq hbig;clear hbig hmb;go_wp2_with fail;go_ret3;unfold PaP;rw[HV.o,if_neg HBG.o];refine⟨.slice ao m cap,ns',rfl,HW.o,?_,HN3.o⟩;rw[HM.o];exact HTR.o
theorem Pa {g:Nat}{w2:World}(x y:Value):Wr g none w2 ((w2.setCell ⟨g,0,none⟩ x).setCell ⟨g,1,none⟩ y):=
 (Wr.of_set w2 0 x).trans (Mv.refl _ _) (Wr.of_set _ 1 y)
theorem Bm (pp mp:Value)(w:World)(E:Nat->Nat->World->Prop)(Q:World->Prop)
  (hc:Calls Tryz.prog 53 #[pp,mp] (w.alloc (.cells #[.int .i64 0,.int .i64 0] 81)) fun e w'=>w'.heap[w.heap.size]?=some (.cells #[.int .i64 0,.int .i64 0] 81 (0,0))/\((∃c k,e=T7 c k/\E c k w')\/(e=.returned (.tuple #[])/\Q w'))):
  Calls Tryz.prog 48 #[.func (.func 53) #[] #[pp,mp]] w fun e w'=> ∃w2,w2.heap[w.heap.size]?=some (.cells #[.int .i64 0,.int .i64 0] 81 (0,0))/\Wr w.heap.size none w2 w'/\((∃c k,e=.returned (.agg #[.int .i64 (c:Nat),.int .i64 (k:Nat)])/\E c k w2)\/(e=.returned (.agg #[.int .i64 0,.int .i64 0])/\Q w2)):=by
 have hmf:∀(fn:Fn) (first cap:Array Value) (w:World),(Instr.makeFunc fn first cap).run Tryz.prog w=.ok (.func fn first cap) w:=fun _ _ _ _=>rfl;have HC:=zq hc;clear hc;go_enter_defers Tryz.func48,Tryz.ntmps48;go_wp2_with fail;refine HC.o.mono ?_;rintro e w2 ⟨hb,⟨c,k,rfl,n1⟩|⟨rfl,n1⟩⟩
 ·have HE:=zq n1
  clear n1;refine leaves_cons (f:=92) (args:= #[.pointer (some ⟨w.heap.size,0,none⟩)]) (by simp) (by simp[go_sem]) ?_;refine(Sv w.heap.size c k _ _ _ hb).mono ?_;rintro e u' w3 ⟨rfl,rfl,hw3⟩
  have hfin:Wr w.heap.size none w2 w3:=by rw[hw3];exact(Pa _ _).trans (Mv.refl _ _) (Wr.of_below (Qq _ _))
  have HBB:=zq hb;have hlt:=(Array.getElem?_eq_some_iff.1 hb).1;have s1:=heap_setCell_same w2 w.heap.size 0 _ 81 (.int .i64 (c:Nat)) hb;have s2:=heap_setCell_same (w2.setCell ⟨w.heap.size,0,none⟩ (.int .i64 (c:Nat))) w.heap.size 1 _ 81 (.int .i64 (k:Nat)) s1
  have s3:w3.heap[w.heap.size]?=some (.cells #[.int .i64 (c:Nat),.int .i64 (k:Nat)] 81 (0,0)):=by
   rw[hw3];exact((Qq _ _).block w.heap.size (by simpa [World.setCell] using hlt)).trans (s2.trans (by simp))
  have q0:w3.cell? ⟨w.heap.size,0,none⟩=some (.int .i64 (c:Nat)):=by rw[cell_of_row _ _ 0 _ _ _ s3];rfl
  have q1:w3.cell? ⟨w.heap.size,1,none⟩=some (.int .i64 (k:Nat)):=by rw[cell_of_row _ _ 1 _ _ _ s3];rfl
  have HF:=zq hfin;clear s1 s2 s3 hw3 hfin hb;simp[Leaves,settle,results,Tryz.results48,go_sem,q0,q1];exact⟨w2,HBB.o,HF.o,.inl ⟨c,k,⟨rfl,rfl⟩,HE.o⟩⟩
 ·have HBB:=zq hb
  have hz0:w2.frozen? ⟨w.heap.size,0,none⟩=false:=frozen_of_row _ _ 0 _ _ hb;have hz1:w2.frozen? ⟨w.heap.size,1,none⟩=false:=frozen_of_row _ _ 1 _ _ hb
  have hc0:w2.cell? ⟨w.heap.size,0,none⟩=some (.int .i64 0):=by rw[cell_of_row _ _ 0 _ _ _ hb];rfl
  have hc1:w2.cell? ⟨w.heap.size,1,none⟩=some (.int .i64 0):=by rw[cell_of_row _ _ 1 _ _ _ hb];rfl
  have s1:=heap_setCell_same w2 w.heap.size 0 _ 81 (.int .i64 0) hb;have S2:=zq (heap_setCell_same (w2.setCell ⟨w.heap.size,0,none⟩ (.int .i64 0)) w.heap.size 1 _ 81 (.int .i64 0) s1);have HE:=zq n1;clear n1 hb s1;go_wp2_with fail;refine leaves_cons (f:=92) (args:= #[.pointer (some ⟨w.heap.size,0,none⟩)]) (by simp) (by simp[go_sem]) ?_;refine(U5 w.heap.size _).mono ?_;rintro e u' w3 ⟨rfl,rfl,hw3⟩
  have HF:Hid (Wr w.heap.size none w2 w3):=by show Wr _ _ _ _;rw[hw3];exact Pa _ _
  have q0:w3.cell? ⟨w.heap.size,0,none⟩=some (.int .i64 0):=by rw[hw3,cell_of_row _ _ 0 _ _ _ S2.o];rfl
  have q1:w3.cell? ⟨w.heap.size,1,none⟩=some (.int .i64 0):=by rw[hw3,cell_of_row _ _ 1 _ _ _ S2.o];rfl
  clear hw3;simp[Leaves,settle,results,Tryz.results48,go_sem,q0,q1];exact⟨w2,HBB.o,HF.o,.inr HE.o⟩
theorem Bg (pp mp:Value)(w:World)(E:Nat->Nat->World->Prop)(Q:World->Prop)
  (hc:Calls Tryz.prog 113 #[pp,mp] (w.alloc (.cells #[.int .i64 0,.int .i64 0] 81)) fun e w'=>w'.heap[w.heap.size]?=some (.cells #[.int .i64 0,.int .i64 0] 81 (0,0))/\((∃c k,e=T7 c k/\E c k w')\/(e=.returned (.tuple #[])/\Q w'))):
  Calls Tryz.prog 48 #[.func (.func 113) #[] #[pp,mp]] w fun e w'=> ∃w2,w2.heap[w.heap.size]?=some (.cells #[.int .i64 0,.int .i64 0] 81 (0,0))/\Wr w.heap.size none w2 w'/\((∃c k,e=.returned (.agg #[.int .i64 (c:Nat),.int .i64 (k:Nat)])/\E c k w2)\/(e=.returned (.agg #[.int .i64 0,.int .i64 0])/\Q w2)):=by
 have hmf:∀(fn:Fn) (first cap:Array Value) (w:World),(Instr.makeFunc fn first cap).run Tryz.prog w=.ok (.func fn first cap) w:=fun _ _ _ _=>rfl;have HC:=zq hc;clear hc;go_enter_defers Tryz.func48,Tryz.ntmps48;go_wp2_with fail;refine HC.o.mono ?_;rintro e w2 ⟨hb,⟨c,k,rfl,n1⟩|⟨rfl,n1⟩⟩
 ·have HE:=zq n1
  clear n1;refine leaves_cons (f:=92) (args:= #[.pointer (some ⟨w.heap.size,0,none⟩)]) (by simp) (by simp[go_sem]) ?_;refine(Sv w.heap.size c k _ _ _ hb).mono ?_;rintro e u' w3 ⟨rfl,rfl,hw3⟩
  have hfin:Wr w.heap.size none w2 w3:=by rw[hw3];exact(Pa _ _).trans (Mv.refl _ _) (Wr.of_below (Qq _ _))
  have HBB:=zq hb;have hlt:=(Array.getElem?_eq_some_iff.1 hb).1;have s1:=heap_setCell_same w2 w.heap.size 0 _ 81 (.int .i64 (c:Nat)) hb;have s2:=heap_setCell_same (w2.setCell ⟨w.heap.size,0,none⟩ (.int .i64 (c:Nat))) w.heap.size 1 _ 81 (.int .i64 (k:Nat)) s1
  have s3:w3.heap[w.heap.size]?=some (.cells #[.int .i64 (c:Nat),.int .i64 (k:Nat)] 81 (0,0)):=by
   rw[hw3];exact((Qq _ _).block w.heap.size (by simpa [World.setCell] using hlt)).trans (s2.trans (by simp))
  have q0:w3.cell? ⟨w.heap.size,0,none⟩=some (.int .i64 (c:Nat)):=by rw[cell_of_row _ _ 0 _ _ _ s3];rfl
  have q1:w3.cell? ⟨w.heap.size,1,none⟩=some (.int .i64 (k:Nat)):=by rw[cell_of_row _ _ 1 _ _ _ s3];rfl
  have HF:=zq hfin;clear s1 s2 s3 hw3 hfin hb;simp[Leaves,settle,results,Tryz.results48,go_sem,q0,q1];exact⟨w2,HBB.o,HF.o,.inl ⟨c,k,⟨rfl,rfl⟩,HE.o⟩⟩
 ·have HBB:=zq hb
  have hz0:w2.frozen? ⟨w.heap.size,0,none⟩=false:=frozen_of_row _ _ 0 _ _ hb;have hz1:w2.frozen? ⟨w.heap.size,1,none⟩=false:=frozen_of_row _ _ 1 _ _ hb
  have hc0:w2.cell? ⟨w.heap.size,0,none⟩=some (.int .i64 0):=by rw[cell_of_row _ _ 0 _ _ _ hb];rfl
  have hc1:w2.cell? ⟨w.heap.size,1,none⟩=some (.int .i64 0):=by rw[cell_of_row _ _ 1 _ _ _ hb];rfl
  have s1:=heap_setCell_same w2 w.heap.size 0 _ 81 (.int .i64 0) hb;have S2:=zq (heap_setCell_same (w2.setCell ⟨w.heap.size,0,none⟩ (.int .i64 0)) w.heap.size 1 _ 81 (.int .i64 0) s1);have HE:=zq n1;clear n1 hb s1;go_wp2_with fail;refine leaves_cons (f:=92) (args:= #[.pointer (some ⟨w.heap.size,0,none⟩)]) (by simp) (by simp[go_sem]) ?_;refine(U5 w.heap.size _).mono ?_;rintro e u' w3 ⟨rfl,rfl,hw3⟩
  have HF:Hid (Wr w.heap.size none w2 w3):=by show Wr _ _ _ _;rw[hw3];exact Pa _ _
  have q0:w3.cell? ⟨w.heap.size,0,none⟩=some (.int .i64 0):=by rw[hw3,cell_of_row _ _ 0 _ _ _ S2.o];rfl
  have q1:w3.cell? ⟨w.heap.size,1,none⟩=some (.int .i64 0):=by rw[hw3,cell_of_row _ _ 1 _ _ _ S2.o];rfl
  clear hw3;simp[Leaves,settle,results,Tryz.results48,go_sem,q0,q1];exact⟨w2,HBB.o,HF.o,.inr HE.o⟩
end Go.Proofs.YtgfmiladfeoldaaGreatDoor
