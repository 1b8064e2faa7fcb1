/- Joined texts of this claim's proof: RdV, RdW. -/
import Derived.Test.YtgfmiladfeoldaaGreatDoorPk1
import Derived.Test.YtgfmiladfeoldaaGreatDoorPk25
set_option linter.unusedSimpArgs false
set_option linter.unusedVariables false
set_option maxRecDepth 100000
set_option maxHeartbeats 16000000
namespace Go.Proofs.YtgfmiladfeoldaaGreatDoor
open Go.RowKit NatP LexP
theorem PSt.of0 {R:Nat}{tv:Value}{L:List Tok}{fin a a2:Nat}{s s2:SynP.St}{nv:Value}{ns:List Nv}{w w2:World}(h:RS w R tv L fin a s nv ns)(k:RS w2 R tv L fin a2 s2 nv ns)(hw:Wr R none w w2)(hl:s2.ts.length<=s.ts.length)(ho:s2.opened=s.opened):PSt R tv L fin s nv ns w w2 a2 s2 nv []:=
 (PSt.refl h).step (by rw[List.append_nil];exact k) hw hl ho
theorem PSt.wrap {R:Nat}{tv:Value}{L:List Tok}{fin a a3 a4:Nat}{s s2 s3 s4:SynP.St}{nv nv3:Value}{ns ns3:List Nv}{w w2 w3 w4:World}(h:RS w R tv L fin a s nv ns)(hw:Wr R none w w2)(hl2:s2.ts.length<=s.ts.length)(ho2:s2.opened=s.opened+1)
  (m:PSt R tv L fin s2 nv ns w2 w3 a3 s3 nv3 ns3) (k4:RS w4 R tv L fin a4 s4 nv3 (ns++ns3)) (hw4:Wr R none w3 w4) (hl4:s4.ts.length<=s3.ts.length) (ho4:s4.opened=s3.opened-1):PSt R tv L fin s nv ns w w4 a4 s4 nv3 ns3:=
 ⟨k4,((hw.weak _).trans (Mv.refl _ _) m.wr).trans (Mv.trans (R:=R) (w':=w2) (Mv.refl _ _) hw.size m.mv) (hw4.weak _),Mv.trans (R:=R) (w':=w2) (Mv.refl _ _) hw.size m.mv,by have:=m.few;omega,by rw[ho4,m.opn,ho2];omega,fun p hp q hq=>Nat.le_trans hw.size (m.fresh p hp q hq)⟩
theorem Hz {fin:Nat}{s s':SynP.St}{u:Unit}(h:SynP.Wd fin s=some (.ok (u,s'))):s'.opened=s.opened+1/\s'.ts.length<=s.ts.length:=by
 unfold SynP.Wd at h;split at h
 ·exact(SynP.Z3 h).elim
 ·have e:=SynP.Yd h
  cases e
  exact⟨rfl,Zh s⟩
theorem Mx {fin:Nat}{s s':SynP.St}{u:Unit}(h:SynP.Y9 fin s=some (.ok (u,s'))):s'.opened=s.opened-1/\s'.ts.length<=s.ts.length:=by
 unfold SynP.Y9 at h;obtain⟨u,s1,E,H⟩:=SynP.Q0 h;have e:=SynP.Yd H
 cases e
 exact⟨by show s1.opened-1=_;rw[(SynP.Ys E).1],(SynP.Ys E).2⟩
theorem Jb {fin:Nat}{s s':SynP.St}{x:Qx}(h:SynP.name fin s=some (.ok (x,s'))):s'=s.adv/\SynP.Qy 2 s.ts=true:=by
 unfold SynP.name at h;split at h
 ·have e:=SynP.Yd h
  cases e
  rename_i E;exact⟨rfl,E⟩
 ·exact(SynP.Z3 h).elim
theorem Qjj (fin f:Nat)(R:Nat)(tv:Value)(L:List Tok)(a:Nat)(s:SynP.St)(nv:Value)(ns:List Nv)(w:World)(h:RS w R tv L fin a s nv ns)(hk1:SynP.Qy 1 s.ts=false)(hk2:SynP.Qy 2 s.ts=true)(hm:SynP.Qv [40] s.ts.tail=false)(hne:SynP.atom fin (f+1) s≠none):
  Calls Tryz.prog 251 #[.pointer (some ⟨R,0,none⟩)] w (RP (SynP.atom fin (f+1) s) R tv L fin s nv ns (ExQ ns) w):=by
 have HS0:=zq h;have HW0:Hid (Wr R none w w):=Wr.refl _ _ _;obtain⟨r,hr⟩:=xq (SynP.atom fin (f+1) s);rw[<-hr]at hne ⊢;have HNE:=zq hne
 have HR0:Hid (r=(SynP.name fin s).bind fun x s=>SynP.ret (.name x) s):=by show _=_;rw[hr];unfold SynP.atom;simp only[hk1,hk2,hm,Bool.and_false,Bool.false_eq_true,if_false,if_true];try rfl
 have hfew:=h.few;have hsh:=h.short
 have hLn:s.ts.length<=L.length:=by rw[<-h.drop,List.length_drop];omega
 have C1:=zq (Xj 1 [] s.ts (by decide));have C2:=zq (Xj 2 [] s.ts (by decide));have C3:=zq (Zi [40] s.ts);rw[hk1]at C1;rw[hk2]at C2;rw[hm]at C3;clear h hr hne hk1 hk2 hm;go_enter Tryz.func251,Tryz.ntmps251;go_wp2_with fail;refine(Qt R tv L fin a s nv ns _ HS0.o 0 1 [] (by omega) (by omega)).mono ?_;rintro e w1 ⟨rfl,b1⟩;rw[C1.o];have HS1:=zq (HS0.o.below b1);have HW1:=zq (RS.step HW0.o (Wr.of_below b1));clear b1;go_wp2_with fail;refine(Qt R tv L fin a s nv ns _ HS1.o 0 2 [] (by omega) (by omega)).mono ?_;rintro e w2 ⟨rfl,b1⟩;rw[C2.o];have HS2:=zq (HS1.o.below b1);have HW2:=zq (RS.step HW1.o (Wr.of_below b1));clear b1;go_wp2_with fail;refine(Qt R tv L fin a s nv ns _ HS2.o 1 3 [40] (by omega) (by omega)).mono ?_;rintro e w3 ⟨rfl,b1⟩;rw[C3.o];have HS3:=zq (HS2.o.below b1);have HW3:=zq (RS.step HW2.o (Wr.of_below b1));clear b1;go_wp2_with fail;refine(Qt R tv L fin a s nv ns _ HS3.o 0 2 [] (by omega) (by omega)).mono ?_;rintro e w4 ⟨rfl,b1⟩;rw[C2.o];have HS4:=zq (HS3.o.below b1);have HW4:=zq (RS.step HW3.o (Wr.of_below b1));clear b1;go_wp2_with fail;refine(Ph R tv L fin a s nv ns _ HS4.o).mono ?_;rintro e w5 hn
 rcases hN:SynP.name fin s with- |(⟨fc,fk⟩|⟨x,s2⟩)<;>rw[hN]at hn
 ·exact hn.elim
 ·obtain⟨rfl,n1⟩:=hn
  refine⟨rfl,?_⟩
  have hre:r=some (.error (fc,fk)):=by rw[HR0.o];simp only[hN,SynP.PR.bind];try rfl
  rw[hre];exact⟨rfl,(HW4.o.weak _).trans (Mv.refl _ _) (n1.weak _)⟩
 obtain⟨v2,a2,rfl,n1,n2,n3,rfl⟩:=hn;obtain⟨rfl,-⟩:=Jb hN;have HN:=zq hN;have HS5:=zq n1;have HW5:=zq (RS.step HW4.o n2);clear n1 n2 hN;have hadv:s.adv.ts.length+1=s.ts.length:=Sj (Jb HN.o).2;have HP:=zq (PSt.of0 HS0.o HS5.o HW5.o (Zh s) rfl);go_wp2_with fail;refine(Zp R tv L fin a2 s.adv nv (ns++[]) _ HP.o.rs ⟨2,x,[]⟩ _ KNew.nil (by have:=HP.o.rs.few;rw[List.append_nil];omega)).mono ?_;rintro e wq ⟨nvq,rfl,b1,b2,b3⟩;have HQ:=zq (HP.o.putS b1 b2 b3 (by rw[List.append_nil];omega) (fun q hq=>by simp[Value.ownBlock]at hq));clear b1 b2 b3
 have HRR:Hid (r=some (.ok (.name x,s.adv))):=by show _=_;rw[HR0.o,HN.o];rfl
 go_wp2_with fail;go_ret;rw[HRR.o];exact⟨_,a2,nvq,_,rfl,HQ.o,by simp[SynP.Ex.size],by simp[SynP.Ex.flat]⟩
theorem Qj5 (fin f:Nat)(IH:PaOk (SynP.parts fin f) fin)(R:Nat)(tv:Value)(L:List Tok)(a:Nat)(s:SynP.St)(nv:Value)(ns:List Nv)(w:World)(h:RS w R tv L fin a s nv ns)(hk1:SynP.Qy 1 s.ts=false)(hk2:SynP.Qy 2 s.ts=true)(hm:SynP.Qv [40] s.ts.tail=true)(hne:SynP.atom fin (f+1) s≠none):
  Calls Tryz.prog 251 #[.pointer (some ⟨R,0,none⟩)] w (RP (SynP.atom fin (f+1) s) R tv L fin s nv ns (ExQ ns) w):=by
 have HS0:=zq h;have HW0:Hid (Wr R none w w):=Wr.refl _ _ _;obtain⟨r,hr⟩:=xq (SynP.atom fin (f+1) s);rw[<-hr]at hne ⊢;have HNE:=zq hne
 have HR0:Hid (r=(SynP.name fin s).bind fun x s=>(SynP.Wd fin s).bind fun _ s=>(SynP.parts fin f s).bind fun ks s=>(SynP.Y9 fin s).bind fun _ s=>SynP.ret (.call x ks) s):=by show _=_;rw[hr];unfold SynP.atom;simp only[hk1,hk2,hm,Bool.and_true,Bool.false_eq_true,if_false,if_true];try rfl
 have hfew:=h.few;have hsh:=h.short
 have hLn:s.ts.length<=L.length:=by rw[<-h.drop,List.length_drop];omega
 have C1:=zq (Xj 1 [] s.ts (by decide));have C2:=zq (Xj 2 [] s.ts (by decide));have C3:=zq (Zi [40] s.ts);have HM:=zq hm;have HIH:=zq IH;rw[hk1]at C1;rw[hk2]at C2;rw[hm]at C3;clear h hr hne hk1 hk2 hm IH;go_enter Tryz.func251,Tryz.ntmps251;go_wp2_with fail;refine(Qt R tv L fin a s nv ns _ HS0.o 0 1 [] (by omega) (by omega)).mono ?_;rintro e w1 ⟨rfl,b1⟩;rw[C1.o];have HS1:=zq (HS0.o.below b1);have HW1:=zq (RS.step HW0.o (Wr.of_below b1));clear b1;go_wp2_with fail;refine(Qt R tv L fin a s nv ns _ HS1.o 0 2 [] (by omega) (by omega)).mono ?_;rintro e w2 ⟨rfl,b1⟩;rw[C2.o];have HS2:=zq (HS1.o.below b1);have HW2:=zq (RS.step HW1.o (Wr.of_below b1));clear b1;go_wp2_with fail;refine(Qt R tv L fin a s nv ns _ HS2.o 1 3 [40] (by omega) (by omega)).mono ?_;rintro e w3 ⟨rfl,b1⟩;rw[C3.o];have HS3:=zq (HS2.o.below b1);have HW3:=zq (RS.step HW2.o (Wr.of_below b1));clear b1;go_wp2_with fail;refine(Ph R tv L fin a s nv ns _ HS3.o).mono ?_;rintro e w4 hn
 rcases hN:SynP.name fin s with- |(⟨fc,fk⟩|⟨x,s2⟩)<;>rw[hN]at hn
 ·exact hn.elim
 ·obtain⟨rfl,n1⟩:=hn
  refine⟨rfl,?_⟩
  have hre:r=some (.error (fc,fk)):=by rw[HR0.o];simp only[hN,SynP.PR.bind];try rfl
  rw[hre];exact⟨rfl,(HW3.o.weak _).trans (Mv.refl _ _) (n1.weak _)⟩
 obtain⟨v2,a2,rfl,n1,n2,n3,rfl⟩:=hn;obtain⟨rfl,-⟩:=Jb hN;have HN:=zq hN;have HS4:=zq n1;have HW4:=zq (RS.step HW3.o n2);clear n1 n2 hN;go_wp2_with fail;refine(Ko R tv L fin a2 s.adv nv ns _ HS4.o (Ug HM.o)).mono ?_;rintro e w5 hn
 rcases hO:SynP.Wd fin s.adv with- |(⟨fc,fk⟩|⟨u,s3⟩)<;>rw[hO]at hn
 ·exact hn.elim
 ·obtain⟨rfl,n1⟩:=hn
  refine⟨rfl,?_⟩
  have hre:r=some (.error (fc,fk)):=by rw[HR0.o];simp only[HN.o,hO,SynP.PR.bind];try rfl
  rw[hre];exact⟨rfl,(HW4.o.weak _).trans (Mv.refl _ _) (n1.weak _)⟩
 obtain⟨v3,a3,rfl,n1,n2,n3,rfl⟩:=hn;have hok:=Hz hO;have HO:=zq hO;have HS5:=zq n1;have HW5:=zq (RS.step HW4.o n2);clear n1 n2 n3 hO
 have HR1:Hid (r=(SynP.parts fin f s3).bind fun ks s=>(SynP.Y9 fin s).bind fun _ s=>SynP.ret (.call x ks) s):=by show _=_;rw[HR0.o];simp only[HN.o,HO.o,SynP.PR.bind]
 go_wp2_with fail;refine(HIH.o R tv L a3 s3 nv ns _ HS5.o (fun e=>HNE.o (by rw[HR1.o,e];rfl))).mono ?_;rintro e w6 hn
 rcases hP:SynP.parts fin f s3 with- |(⟨fc,fk⟩|⟨ks,s4⟩)<;>rw[hP]at hn
 ·exact hn.elim
 ·obtain⟨rfl,n1⟩:=hn
  refine⟨rfl,?_⟩
  have hre:r=some (.error (fc,fk)):=by rw[HR1.o,hP];rfl
  rw[hre];exact⟨rfl,(HW5.o.weak _).trans (Mv.refl _ _) n1⟩
 obtain⟨v4,a4,nv4,ns4,rfl,n1,n2,n3⟩:=hn;have HM6:=zq n1;have HK6:=zq n2;have HF6:=zq n3
 have HR2:Hid (r=(SynP.Y9 fin s4).bind fun _ s=>SynP.ret (.call x ks) s):=by show _=_;rw[HR1.o,hP];rfl
 have hop:0<s4.opened:=by rw[n1.opn,hok.1];omega
 have hfw:=n1.few;clear n1 n2 n3 hP;go_wp2_with fail;refine(Hm R tv L fin a4 s4 nv4 (ns++ns4) _ HM6.o.rs hop).mono ?_;rintro e w7 hn
 rcases hC:SynP.Y9 fin s4 with- |(⟨fc,fk⟩|⟨u,s5⟩)<;>rw[hC]at hn
 ·exact hn.elim
 ·obtain⟨rfl,n1⟩:=hn
  refine⟨rfl,?_⟩
  have hre:r=some (.error (fc,fk)):=by rw[HR2.o,hC];rfl
  rw[hre];exact⟨rfl,((HW5.o.weak _).trans (Mv.refl _ _) HM6.o.wr).trans (Mv.trans (R:=R) (w':=w5) (Mv.refl _ _) HW5.o.size HM6.o.mv) (n1.weak _)⟩
 obtain⟨v5,a5,rfl,n1,n2,n3,rfl⟩:=hn;have hck:=Mx hC
 have HRR:Hid (r=some (.ok (.call x ks,s5))):=by show _=_;rw[HR2.o,hC];rfl
 have hadv:s.adv.ts.length+1=s.ts.length:=Sj (Jb HN.o).2;have HP:=zq (PSt.wrap HS0.o HW5.o (by omega) hok.1 HM6.o n1 n2 hck.2 hck.1);have HK7:Hid (KNew w7 R nv4 (ns++ns4) v4 (ks.roots ns.length)):=⟨HK6.o.1.wr (n2.weak _) (Mv.refl _ _),HK6.o.2⟩;rw[List.length_append]at hfw;clear n1 n2 n3 hC;go_wp2_with fail;have HKF:Hid (∀q,v4.ownBlock=some q->w.heap.size<=q):=fun q hq=>Nat.le_trans HW5.o.size (HF6.o.2 q hq);have HFL:=HF6.o.1;refine(Zp R tv L fin a5 s5 nv4 (ns++ns4) _ HP.o.rs ⟨10,x,ks.roots ns.length⟩ _ HK7.o (by have:=HP.o.rs.few;rw[List.length_append];omega)).mono ?_;rintro e wq ⟨nvq,rfl,b1,b2,b3⟩;have HQ:=zq (HP.o.putS b1 b2 b3 (by rw[List.length_append];omega) (HKF.o));clear b1 b2 b3
 have HL4:Hid (ns4.length=ks.size):=by show _=_;have:=congrArg List.length HF6.o.1;rw[List.length_map,Un]at this;exact this
 go_wp2_with fail;go_ret;rw[HRR.o]
 exact⟨_,a5,nvq,_,rfl,HQ.o,by
  have h4:=HL4.o
  have h5:((ns.length:Int)+(ns4.length:Int))=((ns.length+(SynP.Ex.call x ks).size-1:Nat):Int):=by
   have:(SynP.Ex.call x ks).size=ks.size+1:=rfl;omega
  exact congrArg (Value.int .i64) h5,by rw[List.map_append,HF6.o.1];rfl⟩
theorem Qgo (fin f:Nat)(IH:ExOk 97 (SynP.expr fin f) fin)(R:Nat)(tv:Value)(L:List Tok)(a:Nat)(s:SynP.St)(nv:Value)(ns:List Nv)(w:World)(h:RS w R tv L fin a s nv ns)(hk1:SynP.Qy 1 s.ts=false)(hk2:SynP.Qy 2 s.ts=false)(hm:SynP.Qv [40] s.ts=true)(hne:SynP.atom fin (f+1) s≠none):
  Calls Tryz.prog 251 #[.pointer (some ⟨R,0,none⟩)] w (RP (SynP.atom fin (f+1) s) R tv L fin s nv ns (ExQ ns) w):=by
 have HS0:=zq h;have HW0:Hid (Wr R none w w):=Wr.refl _ _ _;obtain⟨r,hr⟩:=xq (SynP.atom fin (f+1) s);rw[<-hr]at hne ⊢;have HNE:=zq hne
 have HR0:Hid (r=(SynP.Wd fin s).bind fun _ s=>(SynP.expr fin f s).bind fun k s=>(SynP.Y9 fin s).bind fun _ s=>SynP.ret k s):=by show _=_;rw[hr];unfold SynP.atom;simp only[hk1,hk2,hm,Bool.false_and,Bool.false_eq_true,if_false,if_true];try rfl
 have hfew:=h.few;have hsh:=h.short
 have hLn:s.ts.length<=L.length:=by rw[<-h.drop,List.length_drop];omega
 have C1:=zq (Xj 1 [] s.ts (by decide));have C2:=zq (Xj 2 [] s.ts (by decide));have C3:=zq (Zi [40] s.ts);have HM:=zq hm;have HIH:=zq IH;rw[hk1]at C1;rw[hk2]at C2;clear h hr hne hk1 hk2 hm IH;go_enter Tryz.func251,Tryz.ntmps251;go_wp2_with fail;refine(Qt R tv L fin a s nv ns _ HS0.o 0 1 [] (by omega) (by omega)).mono ?_;rintro e w1 ⟨rfl,b1⟩;rw[C1.o];have HS1:=zq (HS0.o.below b1);have HW1:=zq (RS.step HW0.o (Wr.of_below b1));clear b1;go_wp2_with fail;refine(Qt R tv L fin a s nv ns _ HS1.o 0 2 [] (by omega) (by omega)).mono ?_;rintro e w2 ⟨rfl,b1⟩;rw[C2.o];have HS2:=zq (HS1.o.below b1);have HW2:=zq (RS.step HW1.o (Wr.of_below b1));clear b1;go_wp2_with fail;refine(Qt R tv L fin a s nv ns _ HS2.o 0 2 [] (by omega) (by omega)).mono ?_;rintro e w3 ⟨rfl,b1⟩;rw[C2.o];have HS3:=zq (HS2.o.below b1);have HW3:=zq (RS.step HW2.o (Wr.of_below b1));clear b1;go_wp2_with fail;refine(Zg R tv L fin a s nv ns _ HS3.o [40]).mono ?_;rintro e w4 ⟨rfl,b1⟩;rw[HM.o];have HS4:=zq (HS3.o.below b1);have HW4:=zq (RS.step HW3.o (Wr.of_below b1));clear b1;go_wp2_with fail;refine(Ko R tv L fin a s nv ns _ HS4.o (Ug HM.o)).mono ?_;rintro e w5 hn
 rcases hO:SynP.Wd fin s with- |(⟨fc,fk⟩|⟨u,s3⟩)<;>rw[hO]at hn
 ·exact hn.elim
 ·obtain⟨rfl,n1⟩:=hn
  refine⟨rfl,?_⟩
  have hre:r=some (.error (fc,fk)):=by rw[HR0.o];simp only[hO,SynP.PR.bind];try rfl
  rw[hre];exact⟨rfl,(HW4.o.weak _).trans (Mv.refl _ _) (n1.weak _)⟩
 obtain⟨v3,a3,rfl,n1,n2,n3,rfl⟩:=hn;have hok:=Hz hO;have HO:=zq hO;have HS5:=zq n1;have HW5:=zq (RS.step HW4.o n2);clear n1 n2 n3 hO
 have HR1:Hid (r=(SynP.expr fin f s3).bind fun k s=>(SynP.Y9 fin s).bind fun _ s=>SynP.ret k s):=by show _=_;rw[HR0.o];simp only[HO.o,SynP.PR.bind]
 go_wp2_with fail;refine(HIH.o R tv L a3 s3 nv ns _ HS5.o (fun e=>HNE.o (by rw[HR1.o,e];rfl))).mono ?_;rintro e w6 hn
 rcases hP:SynP.expr fin f s3 with- |(⟨fc,fk⟩|⟨k,s4⟩)<;>rw[hP]at hn
 ·exact hn.elim
 ·obtain⟨rfl,n1⟩:=hn
  refine⟨rfl,?_⟩
  have hre:r=some (.error (fc,fk)):=by rw[HR1.o,hP];rfl
  rw[hre];exact⟨rfl,(HW5.o.weak _).trans (Mv.refl _ _) n1⟩
 obtain⟨v4,a4,nv4,ns4,rfl,n1,rfl,n3⟩:=hn;have HM6:=zq n1;have HF6:=zq n3
 have HR2:Hid (r=(SynP.Y9 fin s4).bind fun _ s=>SynP.ret k s):=by show _=_;rw[HR1.o,hP];rfl
 have hop:0<s4.opened:=by rw[n1.opn,hok.1];omega
 obtain⟨p,hp⟩:=xq (ns.length+k.size-1);rw[<-hp];have HPP:=zq hp;clear n1 n3 hP hp;go_wp2_with fail;refine(Hm R tv L fin a4 s4 nv4 (ns++ns4) _ HM6.o.rs hop).mono ?_;rintro e w7 hn
 rcases hC:SynP.Y9 fin s4 with- |(⟨fc,fk⟩|⟨u,s5⟩)<;>rw[hC]at hn
 ·exact hn.elim
 ·obtain⟨rfl,n1⟩:=hn
  refine⟨rfl,?_⟩
  have hre:r=some (.error (fc,fk)):=by rw[HR2.o,hC];rfl
  rw[hre];exact⟨rfl,((HW5.o.weak _).trans (Mv.refl _ _) HM6.o.wr).trans (Mv.trans (R:=R) (w':=w5) (Mv.refl _ _) HW5.o.size HM6.o.mv) (n1.weak _)⟩
 obtain⟨v5,a5,rfl,n1,n2,n3,rfl⟩:=hn;have hck:=Mx hC
 have HRR:Hid (r=some (.ok (k,s5))):=by show _=_;rw[HR2.o,hC];rfl
 have HP:=zq (PSt.wrap HS0.o HW5.o hok.2 hok.1 HM6.o n1 n2 hck.2 hck.1);clear n1 n2 n3 hC;go_wp2_with fail;go_ret;rw[HRR.o];exact⟨_,a5,nv4,_,rfl,HP.o,by rw[HPP.o];rfl,HF6.o⟩
theorem Qkn (fin f:Nat)(R:Nat)(tv:Value)(L:List Tok)(a:Nat)(s:SynP.St)(nv:Value)(ns:List Nv)(w:World)(h:RS w R tv L fin a s nv ns)(hk1:SynP.Qy 1 s.ts=false)(hk2:SynP.Qy 2 s.ts=false)(hm:SynP.Qv [40] s.ts=false)(hm2:SynP.Qv [91] s.ts=true)(hne:SynP.atom fin (f+1) s≠none):
  Calls Tryz.prog 251 #[.pointer (some ⟨R,0,none⟩)] w (RP (SynP.atom fin (f+1) s) R tv L fin s nv ns (ExQ ns) w):=by
 have HS0:=zq h;have HW0:Hid (Wr R none w w):=Wr.refl _ _ _;obtain⟨r,hr⟩:=xq (SynP.atom fin (f+1) s);rw[<-hr]at hne ⊢;have HNE:=zq hne
 have HR0:Hid (r=(SynP.X6 fin f s).bind fun m s=>SynP.ret (.mat m) s):=by show _=_;rw[hr];unfold SynP.atom;simp only[hk1,hk2,hm,hm2,Bool.false_and,Bool.false_eq_true,if_false,if_true];try rfl
 have hfew:=h.few;have hsh:=h.short
 have hLn:s.ts.length<=L.length:=by rw[<-h.drop,List.length_drop];omega
 have C1:=zq (Xj 1 [] s.ts (by decide));have C2:=zq (Xj 2 [] s.ts (by decide));have C3:=zq (Zi [40] s.ts);have HM:=zq hm;have HM2:=zq hm2;rw[hk1]at C1;rw[hk2]at C2;clear h hr hne hk1 hk2 hm hm2;go_enter Tryz.func251,Tryz.ntmps251;go_wp2_with fail;refine(Qt R tv L fin a s nv ns _ HS0.o 0 1 [] (by omega) (by omega)).mono ?_;rintro e w1 ⟨rfl,b1⟩;rw[C1.o];have HS1:=zq (HS0.o.below b1);have HW1:=zq (RS.step HW0.o (Wr.of_below b1));clear b1;go_wp2_with fail;refine(Qt R tv L fin a s nv ns _ HS1.o 0 2 [] (by omega) (by omega)).mono ?_;rintro e w2 ⟨rfl,b1⟩;rw[C2.o];have HS2:=zq (HS1.o.below b1);have HW2:=zq (RS.step HW1.o (Wr.of_below b1));clear b1;go_wp2_with fail;refine(Qt R tv L fin a s nv ns _ HS2.o 0 2 [] (by omega) (by omega)).mono ?_;rintro e w3 ⟨rfl,b1⟩;rw[C2.o];have HS3:=zq (HS2.o.below b1);have HW3:=zq (RS.step HW2.o (Wr.of_below b1));clear b1;go_wp2_with fail;refine(Zg R tv L fin a s nv ns _ HS3.o [40]).mono ?_;rintro e w4 ⟨rfl,b1⟩;rw[HM.o];have HS4:=zq (HS3.o.below b1);have HW4:=zq (RS.step HW3.o (Wr.of_below b1));clear b1;go_wp2_with fail;refine(Zg R tv L fin a s nv ns _ HS4.o [91]).mono ?_;rintro e w5 ⟨rfl,b1⟩;rw[HM2.o];have HS5:=zq (HS4.o.below b1);have HW5:=zq (RS.step HW4.o (Wr.of_below b1));clear b1;go_wp2_with fail;refine(Qv1 R tv L fin a s nv ns _ HS5.o f (fun e=>HNE.o (by rw[HR0.o,e];rfl))).mono ?_;rintro e w6 hn
 rcases hN:SynP.X6 fin f s with- |(⟨fc,fk⟩|⟨m,s2⟩)<;>rw[hN]at hn
 ·exact hn.elim
 ·obtain⟨rfl,n1⟩:=hn
  refine⟨rfl,?_⟩
  have hre:r=some (.error (fc,fk)):=by rw[HR0.o];simp only[hN,SynP.PR.bind];try rfl
  rw[hre];exact⟨rfl,(HW5.o.weak _).trans (Mv.refl _ _) (n1.weak _)⟩
 obtain⟨v2,a2,rfl,n1,n2,n3,av,rfl,n4⟩:=hn;have hmo:=SynP.Qjh hN;have hml:=Aa hN
 have HRR:Hid (r=some (.ok (.mat m,s2))):=by show _=_;rw[HR0.o,hN];rfl
 have HP:=zq (PSt.of0 HS0.o n1 (RS.step HW5.o n2) n3 (SynP.Sw hN).1);have HV:=zq n4;have HT:=zq (Qjr m hmo.2.2.2);obtain⟨hm1,hm2,hm3,-⟩:=hmo;have HM3:=zq hm3;clear n1 n2 n3 n4 hN hm3;go_wp2_with fail;refine(Qwy m.rows m.cols m.at_ av _ HP.o.rs.sg HV.o hm1 hm2 HM3.o).mono ?_;rintro e w7 ⟨rfl,b1⟩;rw[HT.o];have HP7:=zq (HP.o.step (HP.o.rs.below b1) (Wr.of_below b1) (Nat.le_refl _) rfl);clear b1;go_wp2_with fail;refine(Zp R tv L fin a2 s2 nv (ns++[]) _ HP7.o.rs ⟨3,SynP.matT m,[]⟩ _ KNew.nil (by have:=HP7.o.rs.few;rw[List.append_nil];omega)).mono ?_;rintro e wq ⟨nvq,rfl,b1,b2,b3⟩;have HQ:=zq (HP7.o.putS b1 b2 b3 (by rw[List.append_nil];omega) (fun q hq=>by simp[Value.ownBlock]at hq));clear b1 b2 b3;go_wp2_with fail;go_ret;rw[HRR.o];exact⟨_,a2,nvq,_,rfl,HQ.o,by simp[SynP.Ex.size],by simp[SynP.Ex.flat]⟩
theorem Qwk (fin f:Nat)(R:Nat)(tv:Value)(L:List Tok)(a:Nat)(s:SynP.St)(nv:Value)(ns:List Nv)(w:World)(h:RS w R tv L fin a s nv ns)(hk1:SynP.Qy 1 s.ts=false)(hk2:SynP.Qy 2 s.ts=false)(hm:SynP.Qv [40] s.ts=false)(hm2:SynP.Qv [91] s.ts=false)(hm3:SynP.Qv [123] s.ts=true)(hne:SynP.atom fin (f+1) s≠none):
  Calls Tryz.prog 251 #[.pointer (some ⟨R,0,none⟩)] w (RP (SynP.atom fin (f+1) s) R tv L fin s nv ns (ExQ ns) w):=by
 have HS0:=zq h;have HW0:Hid (Wr R none w w):=Wr.refl _ _ _;obtain⟨r,hr⟩:=xq (SynP.atom fin (f+1) s);rw[<-hr]at hne ⊢;have HNE:=zq hne
 have HR0:Hid (r=(SynP.Xg fin f s).bind fun l s=>SynP.ret (.cpx l) s):=by show _=_;rw[hr];unfold SynP.atom;simp only[hk1,hk2,hm,hm2,hm3,Bool.false_and,Bool.false_eq_true,if_false,if_true];try rfl
 have hfew:=h.few;have hsh:=h.short
 have hLn:s.ts.length<=L.length:=by rw[<-h.drop,List.length_drop];omega
 have C1:=zq (Xj 1 [] s.ts (by decide));have C2:=zq (Xj 2 [] s.ts (by decide));have C3:=zq (Zi [40] s.ts);have HM:=zq hm;have HM2:=zq hm2;have HM3:=zq hm3;rw[hk1]at C1;rw[hk2]at C2;clear h hr hne hk1 hk2 hm hm2 hm3;go_enter Tryz.func251,Tryz.ntmps251;go_wp2_with fail;refine(Qt R tv L fin a s nv ns _ HS0.o 0 1 [] (by omega) (by omega)).mono ?_;rintro e w1 ⟨rfl,b1⟩;rw[C1.o];have HS1:=zq (HS0.o.below b1);have HW1:=zq (RS.step HW0.o (Wr.of_below b1));clear b1;go_wp2_with fail;refine(Qt R tv L fin a s nv ns _ HS1.o 0 2 [] (by omega) (by omega)).mono ?_;rintro e w2 ⟨rfl,b1⟩;rw[C2.o];have HS2:=zq (HS1.o.below b1);have HW2:=zq (RS.step HW1.o (Wr.of_below b1));clear b1;go_wp2_with fail;refine(Qt R tv L fin a s nv ns _ HS2.o 0 2 [] (by omega) (by omega)).mono ?_;rintro e w3 ⟨rfl,b1⟩;rw[C2.o];have HS3:=zq (HS2.o.below b1);have HW3:=zq (RS.step HW2.o (Wr.of_below b1));clear b1;go_wp2_with fail;refine(Zg R tv L fin a s nv ns _ HS3.o [40]).mono ?_;rintro e w4 ⟨rfl,b1⟩;rw[HM.o];have HS4:=zq (HS3.o.below b1);have HW4:=zq (RS.step HW3.o (Wr.of_below b1));clear b1;go_wp2_with fail;refine(Zg R tv L fin a s nv ns _ HS4.o [91]).mono ?_;rintro e w5 ⟨rfl,b1⟩;rw[HM2.o];have HS5:=zq (HS4.o.below b1);have HW5:=zq (RS.step HW4.o (Wr.of_below b1));clear b1;go_wp2_with fail;refine(Zg R tv L fin a s nv ns _ HS5.o [123]).mono ?_;rintro e w6 ⟨rfl,b1⟩;rw[HM3.o];have HS6:=zq (HS5.o.below b1);have HW6:=zq (RS.step HW5.o (Wr.of_below b1));clear b1;go_wp2_with fail;refine(Qq7 R tv L fin a s nv ns _ HS6.o f (fun e=>HNE.o (by rw[HR0.o,e];rfl))).mono ?_;rintro e w7 hn
 rcases hN:SynP.Xg fin f s with- |(⟨fc,fk⟩|⟨l,s2⟩)<;>rw[hN]at hn
 ·exact hn.elim
 ·obtain⟨rfl,n1⟩:=hn
  refine⟨rfl,?_⟩
  have hre:r=some (.error (fc,fk)):=by rw[HR0.o];simp only[hN,SynP.PR.bind];try rfl
  rw[hre];exact⟨rfl,(HW6.o.weak _).trans (Mv.refl _ _) (n1.weak _)⟩
 obtain⟨v2,a2,rfl,n1,n2,n3,svs,n4⟩:=hn;have hml:=Ac hN;obtain⟨hc1,hc2⟩:=Gv hN;change tot l<=s.ts.length at hc1;change l.length<=s.ts.length at hc2
 have HRR:Hid (r=some (.ok (.cpx l,s2))):=by show _=_;rw[HR0.o,hN];rfl
 have HP:=zq (PSt.of0 HS0.o n1 (RS.step HW6.o n2) n3 (SynP.Tf hN).1);have HV:=zq n4.crd
 have HC1:Hid (∀s∈l,s.length<=134217728):=fun s hs=>by have:=Qz2 hs;omega
 have HC2:=zq (Qpk (l:=l) (Nat.le_trans (Ae hN) (Nat.le_trans (Qy0 HS0.o.drop) HS0.o.sum)) (by omega) (by omega))
 have hln:l.length<=134217728:=by omega
 clear n1 n2 n3 n4 hN hc1 hc2;go_wp2_with fail;refine(Qke l _ _ HP.o.rs.sg HV.o hln HC1.o HC2.o).mono ?_;rintro e w8 ⟨rfl,b1⟩;have HP7:=zq (HP.o.step (HP.o.rs.below b1) (Wr.of_below b1) (Nat.le_refl _) rfl);clear b1;go_wp2_with fail;refine(Zp R tv L fin a2 s2 nv (ns++[]) _ HP7.o.rs ⟨13,SynP.cpxT l,[]⟩ _ KNew.nil (by have:=HP7.o.rs.few;rw[List.append_nil];omega)).mono ?_;rintro e wq ⟨nvq,rfl,b1,b2,b3⟩;have HQ:=zq (HP7.o.putS b1 b2 b3 (by rw[List.append_nil];omega) (fun q hq=>by simp[Value.ownBlock]at hq));clear b1 b2 b3;go_wp2_with fail;go_ret;rw[HRR.o];exact⟨_,a2,nvq,_,rfl,HQ.o,by simp[SynP.Ex.size],by simp[SynP.Ex.flat]⟩
theorem Qpf (fin f:Nat)(R:Nat)(tv:Value)(L:List Tok)(a:Nat)(s:SynP.St)(nv:Value)(ns:List Nv)(w:World)(h:RS w R tv L fin a s nv ns)(hk1:SynP.Qy 1 s.ts=false)(hk2:SynP.Qy 2 s.ts=false)(hm:SynP.Qv [40] s.ts=false)(hm2:SynP.Qv [91] s.ts=false)(hm3:SynP.Qv [123] s.ts=false)(hne:SynP.atom fin (f+1) s≠none):
  Calls Tryz.prog 251 #[.pointer (some ⟨R,0,none⟩)] w (RP (SynP.atom fin (f+1) s) R tv L fin s nv ns (ExQ ns) w):=by
 have HS0:=zq h;have HW0:Hid (Wr R none w w):=Wr.refl _ _ _;obtain⟨r,hr⟩:=xq (SynP.atom fin (f+1) s);rw[<-hr]at hne ⊢;have HNE:=zq hne
 have HR0:Hid (r=SynP.unfit fin s):=by show _=_;rw[hr];unfold SynP.atom;simp only[hk1,hk2,hm,hm2,hm3,Bool.false_and,Bool.false_eq_true,if_false,if_true];try rfl
 have hfew:=h.few;have hsh:=h.short
 have hLn:s.ts.length<=L.length:=by rw[<-h.drop,List.length_drop];omega
 have C1:=zq (Xj 1 [] s.ts (by decide));have C2:=zq (Xj 2 [] s.ts (by decide));have C3:=zq (Zi [40] s.ts);have HM:=zq hm;have HM2:=zq hm2;have HM3:=zq hm3;rw[hk1]at C1;rw[hk2]at C2;clear h hr hne hk1 hk2 hm hm2 hm3;go_enter Tryz.func251,Tryz.ntmps251;go_wp2_with fail;refine(Qt R tv L fin a s nv ns _ HS0.o 0 1 [] (by omega) (by omega)).mono ?_;rintro e w1 ⟨rfl,b1⟩;rw[C1.o];have HS1:=zq (HS0.o.below b1);have HW1:=zq (RS.step HW0.o (Wr.of_below b1));clear b1;go_wp2_with fail;refine(Qt R tv L fin a s nv ns _ HS1.o 0 2 [] (by omega) (by omega)).mono ?_;rintro e w2 ⟨rfl,b1⟩;rw[C2.o];have HS2:=zq (HS1.o.below b1);have HW2:=zq (RS.step HW1.o (Wr.of_below b1));clear b1;go_wp2_with fail;refine(Qt R tv L fin a s nv ns _ HS2.o 0 2 [] (by omega) (by omega)).mono ?_;rintro e w3 ⟨rfl,b1⟩;rw[C2.o];have HS3:=zq (HS2.o.below b1);have HW3:=zq (RS.step HW2.o (Wr.of_below b1));clear b1;go_wp2_with fail;refine(Zg R tv L fin a s nv ns _ HS3.o [40]).mono ?_;rintro e w4 ⟨rfl,b1⟩;rw[HM.o];have HS4:=zq (HS3.o.below b1);have HW4:=zq (RS.step HW3.o (Wr.of_below b1));clear b1;go_wp2_with fail;refine(Zg R tv L fin a s nv ns _ HS4.o [91]).mono ?_;rintro e w5 ⟨rfl,b1⟩;rw[HM2.o];have HS5:=zq (HS4.o.below b1);have HW5:=zq (RS.step HW4.o (Wr.of_below b1));clear b1;go_wp2_with fail;refine(Zg R tv L fin a s nv ns _ HS5.o [123]).mono ?_;rintro e w6 ⟨rfl,b1⟩;rw[HM3.o];have HS6:=zq (HS5.o.below b1);have HW6:=zq (RS.step HW5.o (Wr.of_below b1));clear b1;go_wp2_with fail;refine(Jo R tv L fin a s nv ns _ HS6.o).mono ?_;rintro e w7 ⟨rfl,b1⟩;refine⟨rfl,?_⟩;rw[HR0.o];exact⟨rfl,(HW6.o.weak _).trans (Mv.refl _ _) (Wr.of_below b1)⟩
theorem Qph (fin f:Nat)(IE:ExOk 97 (SynP.expr fin f) fin)(IP:PaOk (SynP.parts fin f) fin):ExOk 251 (SynP.atom fin (f+1)) fin:=by
 intro R tv L a s nv ns w h E
 cases hk1:SynP.Qy 1 s.ts with
 |true=>exact Qws fin f R tv L a s nv ns w h hk1
 |false=>
  cases hk2:SynP.Qy 2 s.ts with
  |true=>
   cases hm:SynP.Qv [40] s.ts.tail with
   |true=>exact Qj5 fin f IP R tv L a s nv ns w h hk1 hk2 hm E
   |false=>exact Qjj fin f R tv L a s nv ns w h hk1 hk2 hm E
  |false=>
   cases hm:SynP.Qv [40] s.ts with
   |true=>exact Qgo fin f IE R tv L a s nv ns w h hk1 hk2 hm E
   |false=>
    cases hm2:SynP.Qv [91] s.ts with
    |true=>exact Qkn fin f R tv L a s nv ns w h hk1 hk2 hm hm2 E
    |false=>
     cases hm3:SynP.Qv [123] s.ts with
     |true=>exact Qwk fin f R tv L a s nv ns w h hk1 hk2 hm hm2 hm3 E
     |false=>exact Qpf fin f R tv L a s nv ns w h hk1 hk2 hm hm2 hm3 E
structure AllOk (fin f:Nat):Prop where
 ex:ExOk 97 (SynP.expr fin f) fin
 te:ExOk 160 (SynP.term fin f) fin
 fa:ExOk 208 (SynP.factor fin f) fin
 po:ExOk 235 (SynP.post fin f) fin
 at_:ExOk 251 (SynP.atom fin f) fin
 pa:PaOk (SynP.parts fin f) fin
theorem Qxh (fin f:Nat):AllOk fin f:=by
 induction f using Nat.strongRecOn with
 |ind f ih=>
  cases f with
  |zero=>
   refine⟨?_,?_,?_,?_,?_,?_⟩<;>intro R tv L a s nv ns w h E
   ·exact absurd (by rw[SynP.expr]) E
   ·exact absurd (by rw[SynP.term]) E
   ·exact absurd (by rw[SynP.factor]) E
   ·exact absurd (by rw[SynP.post]) E
   ·exact absurd (by rw[SynP.atom]) E
   ·exact absurd (by rw[SynP.parts]) E
  |succ f=>
   have H:∀g,g<=f->AllOk fin g:=fun g hg=>ih g (by omega);have I:=H f (Nat.le_refl _);exact⟨Qgl fin f (fun g hg=>(H g hg).te),Qpu fin f (fun g hg=>(H g hg).fa),Qvf fin f I.po,Qy2 fin f I.at_,Qph fin f I.ex I.pa,Qwh fin f (fun g hg=>(H g hg).ex)⟩
end Go.Proofs.YtgfmiladfeoldaaGreatDoor
