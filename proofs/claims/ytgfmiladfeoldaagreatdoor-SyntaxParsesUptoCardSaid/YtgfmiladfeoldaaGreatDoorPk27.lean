/- Joined texts of this claim's proof: RdX, RdY, RdZ, RunsP, SynL, LexPure5. -/
import Derived.Test.YtgfmiladfeoldaaGreatDoorPk1
import Derived.Test.YtgfmiladfeoldaaGreatDoorPk26
import Derived.Recover
import Derived.Test.YtgfmiladfeoldaaGreatDoorPk12
import Derived.Test.YtgfmiladfeoldaaGreatDoorPk14
import Derived.Test.YtgfmiladfeoldaaGreatDoorPk21
set_option linter.unusedSimpArgs false
set_option linter.unusedVariables false
set_option maxRecDepth 100000
set_option maxHeartbeats 16000000
namespace Go.Proofs.YtgfmiladfeoldaaGreatDoor
open Go.RowKit NatP LexP
def LnP (r:SynP.PR SynP.Ln)(R:Nat)(tv:Value)(L:List Tok)(fin:Nat)(nv:Value)(w:World)(e:Ending)(w':World):Prop:=
 match r with
 |none=>False
 |some (.error (c,k))=>e=Eb c k/\Wr R nv.ownBlock w w'
 |some (.ok (n,s'))=>e=.returned (.tuple #[])/\ ∃a' nv' ns',RS w' R tv L fin a' s' nv' ns'/\Wr R nv.ownBlock w w'/\ns'.map Prod.fst=n.flat/\Mv w nv.ownBlock nv'.ownBlock/\ ∀p∈ns',∀q,p.2.ownBlock=some q->w.heap.size<=q
structure Ln0 (R:Nat) (tv:Value) (L:List Tok) (fin:Nat) (nv:Value) (w wr:World) (a':Nat) (s':SynP.St) (nv':Value) (ns':List Nv):Prop where
 rs:RS wr R tv L fin a' s' nv' ns'
 wr:Wr R nv.ownBlock w wr
 mv:Mv w nv.ownBlock nv'.ownBlock
 fresh:∀p∈ns',∀q,p.2.ownBlock=some q->w.heap.size<=q
theorem Ln0.step {R:Nat}{tv:Value}{L:List Tok}{fin:Nat}{s1 s2:SynP.St}{nv nv1:Value}{ns1:List Nv}{w w1 w2:World}{a1 a2:Nat}(h:Ln0 R tv L fin nv w w1 a1 s1 nv1 ns1)(k:RS w2 R tv L fin a2 s2 nv1 ns1)(hw:Wr R none w1 w2):Ln0 R tv L fin nv w w2 a2 s2 nv1 ns1:=
 ⟨k,h.wr.trans h.mv (hw.weak _),h.mv,h.fresh⟩
theorem Ln0.trans {R:Nat}{tv:Value}{L:List Tok}{fin:Nat}{s1 s2:SynP.St}{nv nv1 nv2:Value}{ns1 ns2:List Nv}{w w1 w2:World}{a1 a2:Nat}(h:Ln0 R tv L fin nv w w1 a1 s1 nv1 ns1)(k:PSt R tv L fin s1 nv1 ns1 w1 w2 a2 s2 nv2 ns2):Ln0 R tv L fin nv w w2 a2 s2 nv2 (ns1++ns2):=
 ⟨k.rs,h.wr.trans h.mv k.wr,Mv.trans (R:=R) (w':=w1) h.mv h.wr.size k.mv,fun p E q hq=>by
  rcases List.mem_append.1 E with E|E
  ·exact h.fresh p E q hq
  ·exact Nat.le_trans h.wr.size (k.fresh p E q hq)⟩
theorem Ln0.put {R:Nat}{tv:Value}{L:List Tok}{fin:Nat}{s1:SynP.St}{nv nv1 nv2:Value}{ns1:List Nv}{w w1 w2:World}{a1:Nat}{nd:SynP.Node}{kv:Value}(h:Ln0 R tv L fin nv w w1 a1 s1 nv1 ns1)(k:RS w2 R tv L fin a1 s1 nv2 (ns1++[(nd,kv)]))(hw:Wr R nv1.ownBlock w1 w2)(hm:Mv w1 nv1.ownBlock nv2.ownBlock)(hv:∀q,kv.ownBlock=some q->w.heap.size<=q):Ln0 R tv L fin nv w w2 a1 s1 nv2 (ns1++[(nd,kv)]):=
 ⟨k,h.wr.trans h.mv hw,Mv.trans (R:=R) (w':=w1) h.mv h.wr.size hm,fun p E q hq=>by
  rcases List.mem_append.1 E with E|E
  ·exact h.fresh p E q hq
  ·rw[List.mem_singleton.1 E]at hq;exact hv q hq⟩
theorem Qvi (fin f:Nat)(R:Nat)(tv:Value)(L:List Tok)(s:SynP.St)(nv:Value)(w:World)(h:RS w R tv L fin 0 s nv [])(h0:s.ts=[]):
  Calls Tryz.prog 49 #[.pointer (some ⟨R,0,none⟩)] w (LnP (SynP.line fin f s) R tv L fin nv w):=by
 have H:=zq h
 have HR0:Hid (SynP.line fin f s=some (.ok (.nothing,s))):=by show _=_;unfold SynP.line;rw[if_pos h0];rfl
 have hts:s.ts.length=0:=by rw[h0];rfl
 have HD:Hid (decide (s.ts=[])=true):=decide_eq_true h0;clear h h0;go_enter Tryz.func49,Tryz.ntmps49;go_wp2_with fail;refine(Vk R tv L fin 0 s nv [] _ H.o).mono ?_;rintro e w1 ⟨rfl,b1⟩;rw[HD.o];have HP:Hid (Ln0 R tv L fin nv w w1 0 s nv []):=⟨H.o.below b1,Wr.of_below b1,Mv.refl _ _,fun p hp=>by cases hp⟩;clear b1;go_wp2_with fail;refine(Zp R tv L fin 0 s nv [] _ HP.o.rs ⟨14,[],[]⟩ _ KNew.nil (by simp;omega)).mono ?_;rintro e w2 ⟨nv2,rfl,b1,b2,b3⟩;have HQ:=zq (HP.o.put b1 b2 b3 (fun q hq=>by simp[Value.ownBlock]at hq));clear b1 b2 b3;go_wp2_with fail;refine bodyPost_ret (results_none rfl _ _ _) rfl ?_;rw[HR0.o];exact⟨rfl,0,nv2,_,HQ.o.rs,HQ.o.wr,rfl,HQ.o.mv,HQ.o.fresh⟩
theorem Qkj (fin f:Nat)(R:Nat)(tv:Value)(L:List Tok)(s:SynP.St)(nv:Value)(w:World)(h:RS w R tv L fin 0 s nv [])(hk:SynP.Qy 2 s.ts=true)(hl:SynP.Qm s.ts=SynP.letB)(hne:SynP.line fin f s≠none):
  Calls Tryz.prog 49 #[.pointer (some ⟨R,0,none⟩)] w (LnP (SynP.line fin f s) R tv L fin nv w):=by
 have HS0:=zq h;obtain⟨r,hr⟩:=xq (SynP.line fin f s);rw[<-hr]at hne ⊢;have HNE:=zq hne;have h0:s.ts≠[]:=Vq hk
 have HR0:Hid (r=(SynP.name fin s.adv).bind fun x s=>(SynP.want fin [61] s).bind fun _ s=>(SynP.expr fin f s).bind fun e s=>SynP.done fin (.lets x e) s):=by
  show _=_;rw[hr];unfold SynP.line;rw[if_neg h0,if_pos (by rw[hk,hl];simp)]
 have HD:Hid (decide (s.ts=[])=false):=decide_eq_false h0;have hfew:=h.few;have C2:=zq (Xj 2 [] s.ts (by decide));rw[hk]at C2;have HNN:=zq h0;obtain⟨ao,cap,rfl,t1,t2,t3⟩:=h.tks;have hdr:=h.drop;rw[List.drop_zero]at hdr;obtain⟨t,l,hts⟩:=List.exists_cons_of_ne_nil h0
 have hL0:0<L.length:=by rw[hdr,hts];simp
 obtain⟨g,rfl,hg,hcl⟩:=t3 hL0;obtain⟨-,d1,-⟩:=hcl 0 t (by rw[hdr,hts];rfl)
 have ht1:t.2.1=SynP.letB:=by rw[<-hl,hts];rfl
 rw[ht1,show SynP.letB.toArray= #[108,101,116] from rfl]at d1;have D1:=zq d1;have hRl:=h.lt;have hadv:s.adv.ts.length+1=s.ts.length:=Sj hk;have HRL:=zq hRl;clear h hr hne hk hl h0 t3 hcl hdr hts d1 ht1;go_enter Tryz.func49,Tryz.ntmps49;go_wp2_with fail;refine(Vk R _ L fin 0 s nv [] _ HS0.o).mono ?_;rintro e w1 ⟨rfl,b1⟩;rw[HD.o];have HP1:Hid (Ln0 R (.slice (some ⟨g,0,none⟩) L.length cap) L fin nv w w1 0 s nv []):=⟨HS0.o.below b1,Wr.of_below b1,Mv.refl _ _,fun p hp=>by cases hp⟩;have D2:Hid (w1.cell? ⟨g,1,none⟩=some (.string ⟨#[108,101,116]⟩)):=(b1.cell (p:=⟨g,1,none⟩) (by show g<_;have:=HRL.o;omega)).trans D1.o
 have hgl1:g<w1.heap.size:=by have:=b1.size;have:=HRL.o;omega
 clear b1;go_wp2_with fail;refine(Qt R _ L fin 0 s nv [] _ HP1.o.rs 0 2 [] (by omega) (by omega)).mono ?_;rintro e w2 ⟨rfl,b1⟩;rw[C2.o];have HP2:=zq (HP1.o.step (HP1.o.rs.below b1) (Wr.of_below b1));have e0:=HP2.o.rs.cells.1;have e1:=HP2.o.rs.cells.2.1;have e2:w2.cell? ⟨g,1,none⟩=some (.string ⟨#[108,101,116]⟩):=(b1.cell (p:=⟨g,1,none⟩) hgl1).trans D2.o;have f1:=HP2.o.rs.fro 1;have hpp:=HP2.o.rs.adv HNN.o;have HP3:=zq (HP2.o.step hpp.1 hpp.2);clear b1 hpp;go_wp2_with fail;refine(Ph R _ L fin (0+1) s.adv nv [] _ HP3.o.rs).mono ?_;rintro e w3 hn
 rcases hN:SynP.name fin s.adv with- |(⟨fc,fk⟩|⟨x,s3⟩)<;>rw[hN]at hn
 ·exact hn.elim
 ·obtain⟨rfl,n1⟩:=hn
  refine⟨rfl,?_⟩
  have hre:r=some (.error (fc,fk)):=by rw[HR0.o];simp only[hN,SynP.PR.bind];try rfl
  rw[hre];exact⟨rfl,HP3.o.wr.trans HP3.o.mv (n1.weak _)⟩
 obtain⟨v3,a3,rfl,n1,n2,n3,rfl⟩:=hn
 have HR1:Hid (r=(SynP.want fin [61] s3).bind fun _ s=>(SynP.expr fin f s).bind fun e s=>SynP.done fin (.lets x e) s):=by show _=_;rw[HR0.o,hN];rfl
 have HP4:=zq (HP3.o.step n1 n2);have hs3:s3.ts.length<=s.adv.ts.length:=n3;clear n1 n2 n3 hN;go_wp2_with fail;refine(Vn R _ L fin a3 s3 nv [] _ HP4.o.rs [61]).mono ?_;rintro e w4 hn
 rcases hN:SynP.want fin [61] s3 with- |(⟨fc,fk⟩|⟨u,s4⟩)<;>rw[hN]at hn
 ·exact hn.elim
 ·obtain⟨rfl,n1⟩:=hn
  refine⟨rfl,?_⟩
  have hre:r=some (.error (fc,fk)):=by rw[HR1.o];simp only[hN,SynP.PR.bind];try rfl
  rw[hre];exact⟨rfl,HP4.o.wr.trans HP4.o.mv (n1.weak _)⟩
 obtain⟨v4,a4,rfl,n1,n2,n3,rfl⟩:=hn
 have HR2:Hid (r=(SynP.expr fin f s4).bind fun e s=>SynP.done fin (.lets x e) s):=by show _=_;rw[HR1.o,hN];rfl
 have HP5:=zq (HP4.o.step n1 n2);have hs4:s4.ts.length<=s3.ts.length:=n3;clear n1 n2 n3 hN;go_wp2_with fail;refine((Qxh fin f).ex R _ L a4 s4 nv [] _ HP5.o.rs (fun e=>HNE.o (by rw[HR2.o,e];rfl))).mono ?_;rintro e w5 hn
 rcases hN:SynP.expr fin f s4 with- |(⟨fc,fk⟩|⟨k,s5⟩)<;>rw[hN]at hn
 ·exact hn.elim
 ·obtain⟨rfl,n1⟩:=hn
  refine⟨rfl,?_⟩
  have hre:r=some (.error (fc,fk)):=by rw[HR2.o];simp only[hN,SynP.PR.bind];try rfl
  rw[hre];exact⟨rfl,HP5.o.wr.trans HP5.o.mv (n1)⟩
 obtain⟨v5,a5,nv5,ns5,rfl,n1,rfl,n3⟩:=hn
 have HR3:Hid (r=SynP.done fin (.lets x k) s5):=by show _=_;rw[HR2.o,hN];rfl
 have HP6:=zq (HP5.o.trans n1);have HF:=zq n3;have hfw:=n1.few;rw[List.nil_append]at hfw;simp only[List.length_nil]at hfw;obtain⟨p,hp⟩:=xq (k.size-1)
 have hp0:([]:List Nv).length+k.size-1=p:=by rw[hp,List.length_nil,Nat.zero_add]
 rw[hp0];have HPP:=zq hp;have hkn:=(KNew.fresh HP6.o.rs [p]).resolve_right (by simp);have HKN:=zq hkn;have HA:=zq (Qq w5 (.cells #[.int .i64 ((p:Nat):Int)] 3));have HP7:=zq (HP6.o.step (HP6.o.rs.below HA.o) (Wr.of_below HA.o));clear n1 n3 hN hp hp0 hkn;go_wp2_with fail;refine(Zp R _ L fin a5 s5 nv5 ([]++ns5) _ HP7.o.rs ⟨11,x,[p]⟩ _ HKN.o (by rw[List.nil_append];omega)).mono ?_;rintro e w6 ⟨nv6,rfl,b1,b2,b3⟩;have HP8:=zq (HP7.o.put b1 b2 b3 (fun q hq=>by cases hq;exact HP6.o.wr.size));clear b1 b2 b3
 have hmap:(([]++ns5)++[((⟨11,x,[p]⟩:SynP.Node),(Value.slice (some ⟨w5.heap.size,0,none⟩) 1 1))]).map Prod.fst=(SynP.Ln.lets x k).flat:=by
  rw[List.nil_append,List.map_append,HF.o,HPP.o];rfl
 have HMAP:=zq hmap;clear hmap;go_wp2_with fail;refine(Vk R _ L fin a5 s5 nv6 _ _ HP8.o.rs).mono ?_;rintro e w7 ⟨rfl,b1⟩;have HP9:=zq (HP8.o.step (HP8.o.rs.below b1) (Wr.of_below b1));clear b1;by_cases hts:s5.ts=[]
 ·have HR4:Hid (r=some (.ok (.lets x k,s5))):=by show _=_;rw[HR3.o];unfold SynP.done;rw[if_pos hts];rfl
  rw[decide_eq_true hts];clear hts;go_wp2_with fail
  first|go_end0|refine bodyPost_ret (results_none rfl _ _ _) rfl ?_
  rw[HR4.o];exact⟨rfl,a5,nv6,_,HP9.o.rs,HP9.o.wr,HMAP.o,HP9.o.mv,HP9.o.fresh⟩
 ·have HR4:Hid (r=SynP.unfit fin s5):=by show _=_;rw[HR3.o];unfold SynP.done;rw[if_neg hts]
  rw[decide_eq_false hts];clear hts;go_wp2_with fail;refine(Jo R _ L fin a5 s5 nv6 _ _ HP9.o.rs).mono ?_;rintro e w8 ⟨rfl,b1⟩;refine⟨rfl,?_⟩;rw[HR4.o];exact⟨rfl,HP9.o.wr.trans HP9.o.mv ((Wr.of_below (R:=R) (og:=none) b1).weak _)⟩
theorem Qgt (fin f:Nat)(R:Nat)(tv:Value)(L:List Tok)(s:SynP.St)(nv:Value)(w:World)(h:RS w R tv L fin 0 s nv [])(h0:s.ts≠[])(hl:(SynP.Qy 2 s.ts && SynP.Qm s.ts==SynP.letB)=false)(hne:SynP.line fin f s≠none):
  Calls Tryz.prog 49 #[.pointer (some ⟨R,0,none⟩)] w (LnP (SynP.line fin f s) R tv L fin nv w):=by
 have HS0:=zq h;obtain⟨r,hr⟩:=xq (SynP.line fin f s);rw[<-hr]at hne ⊢;have HNE:=zq hne
 have HR0:Hid (r=(SynP.name fin s).bind fun x s=>if s.ts=[] then SynP.done fin (.cmd x .nil) s else (SynP.parts fin f s).bind fun ks s=>SynP.done fin (.cmd x ks) s):=by
  show _=_;rw[hr];unfold SynP.line;rw[if_neg h0,if_neg (by rw[hl];decide)]
 have HD:Hid (decide (s.ts=[])=false):=decide_eq_false h0;have hfew:=h.few;rw[List.length_nil,Nat.zero_add]at hfew;have C2:=zq (Xj 2 [] s.ts (by decide));obtain⟨ao,cap,rfl,t1,t2,t3⟩:=h.tks;have hdr:=h.drop;rw[List.drop_zero]at hdr;obtain⟨t,l,hts⟩:=List.exists_cons_of_ne_nil h0
 have hL0:0<L.length:=by rw[hdr,hts];simp
 obtain⟨g,rfl,hg,hcl⟩:=t3 hL0;obtain⟨-,d1,-⟩:=hcl 0 t (by rw[hdr,hts];rfl)
 have ht1:t.2.1=SynP.Qm s.ts:=by rw[hts];rfl
 rw[ht1]at d1;have D1:=zq d1;have hRl:=h.lt;have HRL:=zq hRl;have HL:=zq hl;obtain⟨tt,htt⟩:=xq (SynP.Qm s.ts);rw[<-htt]at D1 HL;obtain⟨bk,hbk⟩:=xq (SynP.Qy 2 s.ts);rw[<-hbk]at C2 HL;have HTT:Hid (tt=SynP.Qm s.ts):=htt;clear h hr hne hl h0 t3 hcl hdr hts d1 ht1 htt hbk;go_enter Tryz.func49,Tryz.ntmps49;go_wp2_with fail;refine(Vk R _ L fin 0 s nv [] _ HS0.o).mono ?_;rintro e w1 ⟨rfl,b1⟩;rw[HD.o];have HP1:Hid (Ln0 R (.slice (some ⟨g,0,none⟩) L.length cap) L fin nv w w1 0 s nv []):=⟨HS0.o.below b1,Wr.of_below b1,Mv.refl _ _,fun p hp=>by cases hp⟩;have D2:Hid (w1.cell? ⟨g,1,none⟩=some (.string ⟨tt.toArray⟩)):=(b1.cell (p:=⟨g,1,none⟩) (by show g<_;have:=HRL.o;omega)).trans D1.o
 have hgl1:g<w1.heap.size:=by have:=b1.size;have:=HRL.o;omega
 clear b1;go_wp2_with fail;refine(Qt R _ L fin 0 s nv [] _ HP1.o.rs 0 2 [] (by omega) (by omega)).mono ?_;rintro e w2 ⟨rfl,b1⟩;rw[C2.o];have HP2:=zq (HP1.o.step (HP1.o.rs.below b1) (Wr.of_below b1));have e0:=HP2.o.rs.cells.1;have e2:w2.cell? ⟨g,1,none⟩=some (.string ⟨tt.toArray⟩):=(b1.cell (p:=⟨g,1,none⟩) hgl1).trans D2.o
 have hbl:bk=true->(tt==[108,101,116])=false:=fun e=>by
  have h1:=HL.o;rw[e,Bool.true_and]at h1;exact h1
 clear b1
 cases bk with
 |true=>
  have hc:=hbl rfl;clear hbl;go_wp2_with fail;refine(Ph R _ L fin 0 s nv [] _ HP2.o.rs).mono ?_;rintro e w3 hn
  rcases hN:SynP.name fin s with- |(⟨fc,fk⟩|⟨x,s3⟩)<;>rw[hN]at hn
  ·exact hn.elim
  ·obtain⟨rfl,n1⟩:=hn
   refine⟨rfl,?_⟩
   have hre:r=some (.error (fc,fk)):=by rw[HR0.o];simp only[hN,SynP.PR.bind];try rfl
   rw[hre];exact⟨rfl,HP2.o.wr.trans HP2.o.mv (n1.weak _)⟩
  obtain⟨v3,a3,rfl,n1,n2,n3,rfl⟩:=hn
  have HR1:Hid (r=if s3.ts=[] then SynP.done fin (.cmd x .nil) s3 else (SynP.parts fin f s3).bind fun ks s=>SynP.done fin (.cmd x ks) s):=by show _=_;rw[HR0.o,hN];rfl
  have HP3:=zq (HP2.o.step n1 n2);have hn1:=(Jb hN).1;have hn2:=Sj (Jb hN).2;rw[<-hn1]at hn2;clear n1 n2 n3 hN hn1;go_wp2_with fail;refine(Vk R _ L fin a3 s3 nv [] _ HP3.o.rs).mono ?_;rintro e w4 ⟨rfl,b1⟩;have HP4:=zq (HP3.o.step (HP3.o.rs.below b1) (Wr.of_below b1));clear b1;by_cases hts:s3.ts=[]
  ·have HR2:Hid (r=SynP.done fin (.cmd x .nil) s3):=by show _=_;rw[HR1.o,if_pos hts]
   rw[decide_eq_true hts];clear hts;go_wp2_with fail;refine(Zp R _ L fin a3 s3 nv [] _ HP4.o.rs ⟨12,x,[]⟩ _ KNew.nil (by rw[List.length_nil];omega)).mono ?_;rintro e w6 ⟨nv6,rfl,b1,b2,b3⟩;have HP8:=zq (HP4.o.put b1 b2 b3 (fun q hq=>by simp[Value.ownBlock]at hq));clear b1 b2 b3;have HMAP:Hid (([]++[((⟨12,x,[]⟩:SynP.Node),(Value.slice none 0 0))]).map Prod.fst=(SynP.Ln.cmd x .nil).flat):=rfl;go_wp2_with fail;refine(Vk R _ L fin a3 s3 nv6 _ _ HP8.o.rs).mono ?_;rintro e w7 ⟨rfl,b1⟩;have HP9:=zq (HP8.o.step (HP8.o.rs.below b1) (Wr.of_below b1));clear b1;by_cases hts:s3.ts=[]
   ·have HR4:Hid (r=some (.ok (.cmd x .nil,s3))):=by show _=_;rw[HR2.o];unfold SynP.done;rw[if_pos hts];rfl
    rw[decide_eq_true hts];clear hts;go_wp2_with fail
    first|go_end0|refine bodyPost_ret (results_none rfl _ _ _) rfl ?_
    rw[HR4.o];exact⟨rfl,a3,nv6,_,HP9.o.rs,HP9.o.wr,HMAP.o,HP9.o.mv,HP9.o.fresh⟩
   ·have HR4:Hid (r=SynP.unfit fin s3):=by show _=_;rw[HR2.o];unfold SynP.done;rw[if_neg hts]
    rw[decide_eq_false hts];clear hts;go_wp2_with fail;refine(Jo R _ L fin a3 s3 nv6 _ _ HP9.o.rs).mono ?_;rintro e w8 ⟨rfl,b1⟩;refine⟨rfl,?_⟩;rw[HR4.o];exact⟨rfl,HP9.o.wr.trans HP9.o.mv ((Wr.of_below (R:=R) (og:=none) b1).weak _)⟩
  ·have HR2:Hid (r=(SynP.parts fin f s3).bind fun ks s=>SynP.done fin (.cmd x ks) s):=by show _=_;rw[HR1.o,if_neg hts]
   rw[decide_eq_false hts];clear hts;go_wp2_with fail;refine((Qxh fin f).pa R _ L a3 s3 nv [] _ HP4.o.rs (fun e=>HNE.o (by rw[HR2.o,e];rfl))).mono ?_;rintro e w5 hn
   rcases hN:SynP.parts fin f s3 with- |(⟨fc,fk⟩|⟨k,s5⟩)<;>rw[hN]at hn
   ·exact hn.elim
   ·obtain⟨rfl,n1⟩:=hn
    refine⟨rfl,?_⟩
    have hre:r=some (.error (fc,fk)):=by rw[HR2.o];simp only[hN,SynP.PR.bind];try rfl
    rw[hre];exact⟨rfl,HP4.o.wr.trans HP4.o.mv (n1)⟩
   obtain⟨v5,a5,nv5,ns5,rfl,n1,n2,n3,n4⟩:=hn
   have HR3:Hid (r=SynP.done fin (.cmd x k) s5):=by show _=_;rw[HR2.o,hN];rfl
   have HP6:=zq (HP4.o.trans n1);have HF:=zq n3;have HKN:=zq n2;have HKF:Hid (∀q,v5.ownBlock=some q->w.heap.size<=q):=fun q hq=>Nat.le_trans HP4.o.wr.size (n4 q hq);have hfw:=n1.few;rw[List.nil_append,List.length_nil,Nat.zero_add]at hfw;clear n1 n2 n3 n4 hN;go_wp2_with fail;refine(Zp R _ L fin a5 s5 nv5 ([]++ns5) _ HP6.o.rs ⟨12,x,k.roots 0⟩ _ HKN.o (by rw[List.nil_append];omega)).mono ?_;rintro e w6 ⟨nv6,rfl,b1,b2,b3⟩;have HP8:=zq (HP6.o.put b1 b2 b3 HKF.o);clear b1 b2 b3
   have hmap:(([]++ns5)++[((⟨12,x,k.roots 0⟩:SynP.Node),v5)]).map Prod.fst=(SynP.Ln.cmd x k).flat:=by
    rw[List.nil_append,List.map_append,HF.o];rfl
   have HMAP:=zq hmap;clear hmap;go_wp2_with fail;refine(Vk R _ L fin a5 s5 nv6 _ _ HP8.o.rs).mono ?_;rintro e w7 ⟨rfl,b1⟩;have HP9:=zq (HP8.o.step (HP8.o.rs.below b1) (Wr.of_below b1));clear b1;by_cases hts:s5.ts=[]
   ·have HR4:Hid (r=some (.ok (.cmd x k,s5))):=by show _=_;rw[HR3.o];unfold SynP.done;rw[if_pos hts];rfl
    rw[decide_eq_true hts];clear hts;go_wp2_with fail
    first|go_end0|refine bodyPost_ret (results_none rfl _ _ _) rfl ?_
    rw[HR4.o];exact⟨rfl,a5,nv6,_,HP9.o.rs,HP9.o.wr,HMAP.o,HP9.o.mv,HP9.o.fresh⟩
   ·have HR4:Hid (r=SynP.unfit fin s5):=by show _=_;rw[HR3.o];unfold SynP.done;rw[if_neg hts]
    rw[decide_eq_false hts];clear hts;go_wp2_with fail;refine(Jo R _ L fin a5 s5 nv6 _ _ HP9.o.rs).mono ?_;rintro e w8 ⟨rfl,b1⟩;refine⟨rfl,?_⟩;rw[HR4.o]
    exact⟨rfl,HP9.o.wr.trans HP9.o.mv ((Wr.of_below (R:=R) (og:=none) b1).weak _)⟩
 |false=>
  clear hbl;go_wp2_with fail;refine(Ph R _ L fin 0 s nv [] _ HP2.o.rs).mono ?_;rintro e w3 hn
  rcases hN:SynP.name fin s with- |(⟨fc,fk⟩|⟨x,s3⟩)<;>rw[hN]at hn
  ·exact hn.elim
  ·obtain⟨rfl,n1⟩:=hn
   refine⟨rfl,?_⟩
   have hre:r=some (.error (fc,fk)):=by rw[HR0.o];simp only[hN,SynP.PR.bind];try rfl
   rw[hre];exact⟨rfl,HP2.o.wr.trans HP2.o.mv (n1.weak _)⟩
  obtain⟨v3,a3,rfl,n1,n2,n3,rfl⟩:=hn
  have HR1:Hid (r=if s3.ts=[] then SynP.done fin (.cmd x .nil) s3 else (SynP.parts fin f s3).bind fun ks s=>SynP.done fin (.cmd x ks) s):=by show _=_;rw[HR0.o,hN];rfl
  have HP3:=zq (HP2.o.step n1 n2);have hn1:=(Jb hN).1;have hn2:=Sj (Jb hN).2;rw[<-hn1]at hn2;clear n1 n2 n3 hN hn1;go_wp2_with fail;refine(Vk R _ L fin a3 s3 nv [] _ HP3.o.rs).mono ?_;rintro e w4 ⟨rfl,b1⟩;have HP4:=zq (HP3.o.step (HP3.o.rs.below b1) (Wr.of_below b1));clear b1;by_cases hts:s3.ts=[]
  ·have HR2:Hid (r=SynP.done fin (.cmd x .nil) s3):=by show _=_;rw[HR1.o,if_pos hts]
   rw[decide_eq_true hts];clear hts;go_wp2_with fail;refine(Zp R _ L fin a3 s3 nv [] _ HP4.o.rs ⟨12,x,[]⟩ _ KNew.nil (by rw[List.length_nil];omega)).mono ?_;rintro e w6 ⟨nv6,rfl,b1,b2,b3⟩;have HP8:=zq (HP4.o.put b1 b2 b3 (fun q hq=>by simp[Value.ownBlock]at hq));clear b1 b2 b3;have HMAP:Hid (([]++[((⟨12,x,[]⟩:SynP.Node),(Value.slice none 0 0))]).map Prod.fst=(SynP.Ln.cmd x .nil).flat):=rfl;go_wp2_with fail;refine(Vk R _ L fin a3 s3 nv6 _ _ HP8.o.rs).mono ?_;rintro e w7 ⟨rfl,b1⟩;have HP9:=zq (HP8.o.step (HP8.o.rs.below b1) (Wr.of_below b1));clear b1;by_cases hts:s3.ts=[]
   ·have HR4:Hid (r=some (.ok (.cmd x .nil,s3))):=by show _=_;rw[HR2.o];unfold SynP.done;rw[if_pos hts];rfl
    rw[decide_eq_true hts];clear hts;go_wp2_with fail
    first|go_end0|refine bodyPost_ret (results_none rfl _ _ _) rfl ?_
    rw[HR4.o];exact⟨rfl,a3,nv6,_,HP9.o.rs,HP9.o.wr,HMAP.o,HP9.o.mv,HP9.o.fresh⟩
   ·have HR4:Hid (r=SynP.unfit fin s3):=by show _=_;rw[HR2.o];unfold SynP.done;rw[if_neg hts]
    rw[decide_eq_false hts];clear hts;go_wp2_with fail;refine(Jo R _ L fin a3 s3 nv6 _ _ HP9.o.rs).mono ?_;rintro e w8 ⟨rfl,b1⟩;refine⟨rfl,?_⟩;rw[HR4.o];exact⟨rfl,HP9.o.wr.trans HP9.o.mv ((Wr.of_below (R:=R) (og:=none) b1).weak _)⟩
  ·have HR2:Hid (r=(SynP.parts fin f s3).bind fun ks s=>SynP.done fin (.cmd x ks) s):=by show _=_;rw[HR1.o,if_neg hts]
   rw[decide_eq_false hts];clear hts;go_wp2_with fail;refine((Qxh fin f).pa R _ L a3 s3 nv [] _ HP4.o.rs (fun e=>HNE.o (by rw[HR2.o,e];rfl))).mono ?_;rintro e w5 hn
   rcases hN:SynP.parts fin f s3 with- |(⟨fc,fk⟩|⟨k,s5⟩)<;>rw[hN]at hn
   ·exact hn.elim
   ·obtain⟨rfl,n1⟩:=hn
    refine⟨rfl,?_⟩
    have hre:r=some (.error (fc,fk)):=by rw[HR2.o];simp only[hN,SynP.PR.bind];try rfl
    rw[hre];exact⟨rfl,HP4.o.wr.trans HP4.o.mv (n1)⟩
   obtain⟨v5,a5,nv5,ns5,rfl,n1,n2,n3,n4⟩:=hn
   have HR3:Hid (r=SynP.done fin (.cmd x k) s5):=by show _=_;rw[HR2.o,hN];rfl
   have HP6:=zq (HP4.o.trans n1);have HF:=zq n3;have HKN:=zq n2;have HKF:Hid (∀q,v5.ownBlock=some q->w.heap.size<=q):=fun q hq=>Nat.le_trans HP4.o.wr.size (n4 q hq);have hfw:=n1.few;rw[List.nil_append,List.length_nil,Nat.zero_add]at hfw;clear n1 n2 n3 n4 hN;go_wp2_with fail;refine(Zp R _ L fin a5 s5 nv5 ([]++ns5) _ HP6.o.rs ⟨12,x,k.roots 0⟩ _ HKN.o (by rw[List.nil_append];omega)).mono ?_;rintro e w6 ⟨nv6,rfl,b1,b2,b3⟩;have HP8:=zq (HP6.o.put b1 b2 b3 HKF.o);clear b1 b2 b3
   have hmap:(([]++ns5)++[((⟨12,x,k.roots 0⟩:SynP.Node),v5)]).map Prod.fst=(SynP.Ln.cmd x k).flat:=by
    rw[List.nil_append,List.map_append,HF.o];rfl
   have HMAP:=zq hmap;clear hmap;go_wp2_with fail;refine(Vk R _ L fin a5 s5 nv6 _ _ HP8.o.rs).mono ?_;rintro e w7 ⟨rfl,b1⟩;have HP9:=zq (HP8.o.step (HP8.o.rs.below b1) (Wr.of_below b1));clear b1;by_cases hts:s5.ts=[]
   ·have HR4:Hid (r=some (.ok (.cmd x k,s5))):=by show _=_;rw[HR3.o];unfold SynP.done;rw[if_pos hts];rfl
    rw[decide_eq_true hts];clear hts;go_wp2_with fail
    first|go_end0|refine bodyPost_ret (results_none rfl _ _ _) rfl ?_
    rw[HR4.o];exact⟨rfl,a5,nv6,_,HP9.o.rs,HP9.o.wr,HMAP.o,HP9.o.mv,HP9.o.fresh⟩
   ·have HR4:Hid (r=SynP.unfit fin s5):=by show _=_;rw[HR3.o];unfold SynP.done;rw[if_neg hts]
    rw[decide_eq_false hts];clear hts;go_wp2_with fail;refine(Jo R _ L fin a5 s5 nv6 _ _ HP9.o.rs).mono ?_;rintro e w8 ⟨rfl,b1⟩;refine⟨rfl,?_⟩;rw[HR4.o];exact⟨rfl,HP9.o.wr.trans HP9.o.mv ((Wr.of_below (R:=R) (og:=none) b1).weak _)⟩
theorem Qkh (fin f:Nat)(R:Nat)(tv:Value)(L:List Tok)(s:SynP.St)(nv:Value)(w:World)(h:RS w R tv L fin 0 s nv [])(hne:SynP.line fin f s≠none):
  Calls Tryz.prog 49 #[.pointer (some ⟨R,0,none⟩)] w (LnP (SynP.line fin f s) R tv L fin nv w):=by
 by_cases h0:s.ts=[]
 ·exact Qvi fin f R tv L s nv w h h0
 ·cases hl:(SynP.Qy 2 s.ts && SynP.Qm s.ts==SynP.letB) with
  |false=>exact Qgt fin f R tv L s nv w h h0 hl hne
  |true=>
   rw[Bool.and_eq_true]at hl;exact Qkj fin f R tv L s nv w h hl.1 (by simpa using hl.2) hne
theorem Ap {P:Program}{fn:Func}{c₀:Frame}{cs:List Frame}{R:Ending->FrameMode->World->Prop}{c:Code}{a:Act}{w:World}(u':FrameMode)(h:c.wp P (bodyPost P fn (fun e w'=>R e u' w')) a w):
  c.wpS P (bodyPostS P fn c₀ cs R) a ({c₀ with mode:=u'}::cs) w:=fun b k _ _=>by
 obtain⟨e,a',w',q,r⟩:=h b k ({c₀ with mode:=u'}::cs);refine⟨e,a',_,w',?_,r⟩
 cases e with
 |normal=>exact⟨q.1,u',rfl,q.2⟩
 |ret=>exact⟨q.1,u',rfl,q.2⟩
 |panic ch=>exact⟨q.1,u',rfl,q.2⟩
 |outgrown=>exact⟨u',q⟩
 |exit i=>exact q.elim
 |goto i=>exact q.elim
theorem Nk (c k:Int)(w:World):(Instr.typeAssert (.iface 81 (.agg #[.int .i64 c,.int .i64 k])) 20 81 true).run Tryz.prog w=.ok (.tuple #[.agg #[.int .i64 c,.int .i64 k],.bool true]) w:=by
 unfold Instr.typeAssert;simp[go_sem,Tryz.underlying20]
theorem D8 (g c k:Nat)(x y:Value)(w:World)(hb:w.heap[g]?=some (.cells #[x,y] 81 (0,0))):
  CallsD Tryz.prog 92 #[.pointer (some ⟨g,0,none⟩)] (.panicking [{v:=.iface 81 (.agg #[.int .i64 (c:Nat),.int .i64 (k:Nat)]),recovered:=false}]) w fun e u' w'=>
   e=.returned (.tuple #[])/\u'=.panicking [{v:=.iface 81 (.agg #[.int .i64 (c:Nat),.int .i64 (k:Nat)]),recovered:=true}]/\w'=((w.setCell ⟨g,0,none⟩ (.int .i64 (c:Nat))).setCell ⟨g,1,none⟩ (.int .i64 (k:Nat))).alloc (.cells #[.int .i64 (c:Nat),.int .i64 (k:Nat)] 81):=by
 refine callsD_of_wpS Tryz.func92 rfl fun c₀ cs hu=> ?_;have hg:g<w.heap.size:=(Array.getElem?_eq_some_iff.1 hb).1;have hz0:w.frozen? ⟨g,0,none⟩=false:=frozen_of_row w g 0 _ _ hb;have hz1:w.frozen? ⟨g,1,none⟩=false:=frozen_of_row w g 1 _ _ hb
 have hc0:w.cell? ⟨g,0,none⟩=some x:=by rw[cell_of_row w g 0 _ _ _ hb];rfl
 have hc1:w.cell? ⟨g,1,none⟩=some y:=by rw[cell_of_row w g 1 _ _ _ hb];rfl
 apply wpS_seq;apply wpS_region;simp[wpOpsS,go_sem,recoverD,hu,Tryz.ntmps92,Exit.thenS];refine Ap (.panicking [{v:=.iface 81 (.agg #[.int .i64 (c:Nat),.int .i64 (k:Nat)]),recovered:=true}]) ?_;clear hb;simp only[Array.replicate_succ,Array.replicate_zero,List.push_toArray,List.append_toArray,List.nil_append,List.cons_append,List.setIfInBounds_toArray,List.set];have hta:∀(c k:Int) (w:World),(Instr.typeAssert (.iface 81 (.agg #[.int .i64 c,.int .i64 k])) 20 81 true).run Tryz.prog w=.ok (.tuple #[.agg #[.int .i64 c,.int .i64 k],.bool true]) w:=Nk;go_wp2_with fail;go_end0;exact⟨rfl,trivial,rfl⟩
theorem Qqa (g:Nat)(w:World):
  CallsD Tryz.prog 92 #[.pointer (some ⟨g,0,none⟩)] .returning w fun e u' w'=>e=.returned (.tuple #[])/\u'=.returning/\w'=w:=by
 refine callsD_of_wpS Tryz.func92 rfl fun c₀ cs hu=> ?_;apply wpS_seq;apply wpS_region;simp[wpOpsS,go_sem,recoverD,hu,Tryz.ntmps92,Exit.thenS];refine Ap c₀.mode ?_;rw[hu];simp only[Array.replicate_succ,Array.replicate_zero,List.push_toArray,List.append_toArray,List.nil_append,List.cons_append,List.setIfInBounds_toArray,List.set];go_wp2_with fail;go_end0;exact⟨rfl,trivial,rfl⟩
def GuP (r:SynP.PR SynP.Ln)(R:Nat)(tv:Value)(L:List Tok)(fin:Nat)(nv:Value)(w:World)(e:Ending)(w':World):Prop:=
 match r with
 |none=>False
 |some (.error (c,k))=>e=.returned (.agg #[.int .i64 (c:Nat),.int .i64 (k:Nat)])/\Wr R nv.ownBlock w w'
 |some (.ok (n,s'))=>e=.returned (.agg #[.int .i64 0,.int .i64 0])/\ ∃a' nv' ns',RS w' R tv L fin a' s' nv' ns'/\Wr R nv.ownBlock w w'/\ns'.map Prod.fst=n.flat
theorem Wr.sets {R g o:Nat}{og:Option Nat}{w w2:World}(h:Wr R og w w2)(hg:w.heap.size<=g)(u:Value):Wr R og w (w2.setCell ⟨g,o,none⟩ u):=
 ⟨h.os,h.tape,h.output,by simpa [World.setCell] using h.size,fun k hk hR ho=>(heap_setCell_other w2 ⟨g,o,none⟩ k u (by show k≠g;omega)).trans (h.block k hk hR ho)⟩
theorem Wr.allocs {R:Nat}{og:Option Nat}{w w2:World}(h:Wr R og w w2)(x:Obj):Wr R og w (w2.alloc x):=
 ⟨h.os,h.tape,h.output,Nat.le_trans h.size (Qq w2 x).size,fun k hk hR ho=>((Qq w2 x).block k (Nat.lt_of_lt_of_le hk h.size)).trans (h.block k hk hR ho)⟩
theorem Ha {g o:Nat}(w:World)(u:Value):w.grownBy (w.setCell ⟨g,o,none⟩ u) (some g):=
 ⟨rfl,rfl,rfl,by simp[World.setCell],fun k _ hk=>heap_setCell_other w ⟨g,o,none⟩ k u (fun e=>hk (by rw[e]))⟩
theorem Dy (fin f:Nat)(R:Nat)(tv:Value)(L:List Tok)(s:SynP.St)(nv:Value)(w:World)(h:RS w R tv L fin 0 s nv [])(hne:SynP.line fin f s≠none):
  Calls Tryz.prog 48 #[.func (.func 49) #[.pointer (some ⟨R,0,none⟩)] #[]] w (GuP (SynP.line fin f s) R tv L fin nv w):=by
 have hmf:∀(fn:Fn) (first cap:Array Value) (w:World),(Instr.makeFunc fn first cap).run Tryz.prog w=.ok (.func fn first cap) w:=fun _ _ _ _=>rfl;have HA:=zq (Qq w (.cells #[.int .i64 0,.int .i64 0] 81));have HS:=zq (h.below HA.o);have hRl:=h.lt;have HB:=zq (heap_alloc_new w (.cells #[.int .i64 0,.int .i64 0] 81));have HNE:=zq hne;have HLT:Hid (∀q,nv.ownBlock=some q->q<w.heap.size):=fun q hq=>(h.own.lt q hq).2;clear h hne;go_enter_defers Tryz.func48,Tryz.ntmps48;go_wp2_with fail;refine(Qkh fin f R tv L s nv _ HS.o HNE.o).mono ?_;rintro e w2 hn
 rcases hN:SynP.line fin f s with- |(⟨c,k⟩|⟨n,s'⟩)<;>rw[hN]at hn
 ·exact hn.elim
 ·obtain⟨rfl,n1⟩:=hn
  have hb:w2.heap[w.heap.size]?=some (.cells #[.int .i64 0,.int .i64 0] 81 (0,0)):=(n1.block w.heap.size (by simp) (by omega) (fun e=>by have:=HLT.o _ e.symm;omega)).trans HB.o;have hwr:=(Wr.of_below (R:=R) (og:=nv.ownBlock) HA.o).trans (Mv.refl _ _) n1;have HWR:=zq hwr;clear n1 hwr;refine leaves_cons (f:=92) (args:= #[.pointer (some ⟨w.heap.size,0,none⟩)]) (by simp) (by simp[go_sem]) ?_;refine(D8 w.heap.size c k _ _ _ hb).mono ?_;rintro e u' w3 ⟨rfl,rfl,hw3⟩
  have hfin:Wr R nv.ownBlock w w3:=by rw[hw3];exact((HWR.o.sets (Nat.le_refl _) _).sets (Nat.le_refl _) _).allocs _
  have hlt:=(Array.getElem?_eq_some_iff.1 hb).1;have s1:=heap_setCell_same w2 w.heap.size 0 _ 81 (.int .i64 (c:Nat)) hb;have s2:=heap_setCell_same (w2.setCell ⟨w.heap.size,0,none⟩ (.int .i64 (c:Nat))) w.heap.size 1 _ 81 (.int .i64 (k:Nat)) s1
  have s3:w3.heap[w.heap.size]?=some (.cells #[.int .i64 (c:Nat),.int .i64 (k:Nat)] 81 (0,0)):=by
   rw[hw3];exact((Qq _ _).block w.heap.size (by simpa [World.setCell] using hlt)).trans (s2.trans (by simp))
  have q0:w3.cell? ⟨w.heap.size,0,none⟩=some (.int .i64 (c:Nat)):=by rw[cell_of_row _ _ 0 _ _ _ s3];rfl
  have q1:w3.cell? ⟨w.heap.size,1,none⟩=some (.int .i64 (k:Nat)):=by rw[cell_of_row _ _ 1 _ _ _ s3];rfl
  have HF:=zq hfin;clear s1 s2 s3 hw3 hfin hb;simp[Leaves,settle,results,Tryz.results48,go_sem,q0,q1];exact⟨rfl,HF.o⟩
 ·obtain⟨rfl,a',nv',ns',n1,n2,n3,n4,n5⟩:=hn
  have hb:w2.heap[w.heap.size]?=some (.cells #[.int .i64 0,.int .i64 0] 81 (0,0)):=(n2.block w.heap.size (by simp) (by omega) (fun e=>by have:=HLT.o _ e.symm;omega)).trans HB.o;have hz0:w2.frozen? ⟨w.heap.size,0,none⟩=false:=frozen_of_row _ _ 0 _ _ hb;have hz1:w2.frozen? ⟨w.heap.size,1,none⟩=false:=frozen_of_row _ _ 1 _ _ hb
  have hc0:w2.cell? ⟨w.heap.size,0,none⟩=some (.int .i64 0):=by rw[cell_of_row _ _ 0 _ _ _ hb];rfl
  have hc1:w2.cell? ⟨w.heap.size,1,none⟩=some (.int .i64 0):=by rw[cell_of_row _ _ 1 _ _ _ hb];rfl
  have hne1:nv'.ownBlock≠some w.heap.size:=fun e=>by
   rcases n4 _ e with h1|h1
   ·have:=HLT.o _ h1;omega
   ·simp at h1;omega
  have hne2:∀p∈ns',p.2.ownBlock≠some w.heap.size:=fun p hp e=>by
   have h1:=n5 p hp _ e;simp at h1;omega
  have g1:=(n1.growK (Ha (g:=w.heap.size) (o:=0) w2 (.int .i64 0)) (fun q hq=>by cases hq;exact⟨hRl,hne1,hne2⟩)).1;have g2:=(g1.growK (Ha (g:=w.heap.size) (o:=1) _ (.int .i64 0)) (fun q hq=>by cases hq;exact⟨hRl,hne1,hne2⟩)).1;have G2:=zq g2;have HWR:=zq (((((Wr.of_below (R:=R) (og:=nv.ownBlock) HA.o).trans (Mv.refl _ _) n2).sets (g:=w.heap.size) (o:=0) (Nat.le_refl _) (.int .i64 0)).sets (g:=w.heap.size) (o:=1) (Nat.le_refl _) (.int .i64 0)));have N3:=zq n3;have s1:=heap_setCell_same w2 w.heap.size 0 _ 81 (.int .i64 0) hb;have S2:=zq (heap_setCell_same (w2.setCell ⟨w.heap.size,0,none⟩ (.int .i64 0)) w.heap.size 1 _ 81 (.int .i64 0) s1);clear n1 n2 n3 n4 n5 hb hne1 hne2 g1 g2 s1;go_wp2_with fail;refine leaves_cons (f:=92) (args:= #[.pointer (some ⟨w.heap.size,0,none⟩)]) (by simp) (by simp[go_sem]) ?_;refine(Qqa w.heap.size _).mono ?_;rintro e u' w3 ⟨rfl,rfl,hw3⟩;rw[<-hw3]at G2 HWR
  have q0:w3.cell? ⟨w.heap.size,0,none⟩=some (.int .i64 0):=by rw[hw3,cell_of_row _ _ 0 _ _ _ S2.o];rfl
  have q1:w3.cell? ⟨w.heap.size,1,none⟩=some (.int .i64 0):=by rw[hw3,cell_of_row _ _ 1 _ _ _ S2.o];rfl
  clear hw3;simp[Leaves,settle,results,Tryz.results48,go_sem,q0,q1];rw[hN];exact⟨rfl,a',nv',ns',G2.o,HWR.o,N3.o⟩
end Go.Proofs.YtgfmiladfeoldaaGreatDoor
namespace LexP
def letter:Nat->Qx
 |0=>[97]|1=>[90]|2=>[95]|3=>[48]|4=>[57]|5=>[195,169]|6=>[202,175]|7=>[205,191]|8=>[207,191]|_=>[55]
def Qhs:Nat->Bool
 |2=>true|3=>true|4=>true|9=>true|_=>false
end LexP
namespace SynP
open LexP
theorem Yn {r:Res}{a l:List Tok}(h:r.after a=.ok l):∃m,r=.ok m/\l=a++m:=by
 cases r with
 |error e=>cases h
 |ok m=>exact⟨m,rfl,by simpa [Res.after] using h.symm⟩
theorem N9 (k:Nat)(L:List C):Qk L=Qk (L.take k)++Qk (L.drop k):=by
 unfold Qk;rw[<-List.flatMap_append,List.take_append_drop]
end SynP
namespace LexP
def Xf:Nat->Qx->Option Nat
 |v,[]=>some v
 |v,c::t=>if Xo c then Xf (64*v+c.toNat % 64) t else none
def nxt (b:Nat):Nat×Nat×Nat:=
 if b<0x80 then (1,b,0) else if b / 32=6 then (2,b % 32,0x80) else if b / 16=14 then (3,b % 16,0x800) else if b / 8=30 then (4,b % 8,0x10000) else (0,0,0)
def badV (v m:Nat):Bool:=v<m||0x10ffff<v||(0xd800<=v && v<=0xdfff)
def fin (v m n:Nat):Option (Nat×Nat):=if badV v m then none else some (v,n)
theorem Gm (c:UInt8):∀(l:Qx) (v v':Nat),Xf v l=some v'->Xf v (l++[c])=if Xo c then some (64*v'+c.toNat % 64) else none:=by
 intro l
 induction l with
 |nil=>intro v v' h;simp[Xf]at h;subst h;rfl
 |cons d l ih=>
  intro v v' h;simp only[List.cons_append,Xf]at h ⊢;by_cases hd:Xo d
  ·rw[if_pos hd]at h ⊢;exact ih _ _ h
  ·rw[if_neg hd]at h;cases h
theorem Gy:∀(k:Nat) (l:Qx) (v:Nat),Xf v (l.take k)=none->Xf v l=none:=by
 intro k l
 induction l generalizing k with
 |nil=>intro v h;simpa using h
 |cons d l ih=>
  intro v h
  cases k with
  |zero=>simp[Xf]at h
  |succ k=>
   simp only[List.take_succ_cons,Xf]at h ⊢;by_cases hd:Xo d
   ·rw[if_pos hd]at h ⊢;exact ih _ _ h
   ·rw[if_neg hd]
theorem An {α:Type}{p q:Bool}{a b:α}(h:p= !q):(if p=true then a else b)=if q=true then b else a:=by subst h;cases q<;>rfl
theorem Hr (b:UInt8)(t:Qx):
  dec (b::t)=if (nxt b.toNat).1=0\/t.length+1<(nxt b.toNat).1 then none else (Xf (nxt b.toNat).2.1 (t.take ((nxt b.toNat).1-1))).bind fun v=>fin v (nxt b.toNat).2.2 (nxt b.toNat).1:=by
 have h:=b.toNat_lt;by_cases h0:b.toNat<0x80
 ·simp[dec,nxt,h0,Xf,fin,badV];omega
 by_cases h1:b.toNat / 32=6
 ·match t with
  | []=>simp[dec,nxt,h0,h1]
  |c::t=>
   by_cases hc:Xo c
   ·simp only[dec,nxt,h0,h1,Xf,fin,badV,hc,if_true,if_false,List.take_succ_cons,List.length_cons,Nat.add_one_sub_one,List.take_zero,Option.bind_some,Bool.true_and]
    rw[if_neg (show ¬(2=0\/t.length+1+1<2) by omega)]
    have e:b.toNat % 32*64=64*(b.toNat % 32):=by omega
    rw[e];generalize hv:64*(b.toNat % 32)+c.toNat % 64=v;by_cases k:128<=v
    ·have:(decide (v<128)||decide (1114111<v)||decide (55296<=v) && decide (v<=57343))=false:=by
      simp;omega
     rw[this];simp[k]
    ·have:(decide (v<128)||decide (1114111<v)||decide (55296<=v) && decide (v<=57343))=true:=by
      simp;omega
     rw[this];simp[k]
   ·simp[dec,nxt,h0,h1,Xf,hc]
 by_cases h2:b.toNat / 16=14
 ·match t with
  | []=>simp[dec,nxt,h0,h1,h2]
  | [c]=>simp[dec,nxt,h0,h1,h2]
  |c::d::t=>
   by_cases hc:Xo c
   ·by_cases hd:Xo d
    ·simp only[dec,nxt,h0,h1,h2,Xf,fin,badV,hc,hd,if_true,if_false,List.take_succ_cons,List.length_cons,Nat.add_one_sub_one,List.take_zero,Option.bind_some,Bool.true_and,show (3-1:Nat)=1+1 from rfl]
     rw[if_neg (show ¬(3=0\/t.length+1+1+1<3) by omega)]
     have e:b.toNat % 16*4096+c.toNat % 64*64+d.toNat % 64=64*(64*(b.toNat % 16)+c.toNat % 64)+d.toNat % 64:=by omega
     rw[e];generalize hv:64*(64*(b.toNat % 16)+c.toNat % 64)+d.toNat % 64=v;simp only[Vh];exact An (by rw[Bool.eq_iff_iff];simp;omega)
    ·simp[dec,nxt,h0,h1,h2,Xf,hc,hd]
   ·simp[dec,nxt,h0,h1,h2,Xf,hc]
 by_cases h3:b.toNat / 8=30
 ·match t with
  | []=>simp[dec,nxt,h0,h1,h2,h3]
  | [c]=>simp[dec,nxt,h0,h1,h2,h3]
  | [c,d]=>simp[dec,nxt,h0,h1,h2,h3]
  |c::d::f::t=>
   by_cases hc:Xo c
   ·by_cases hd:Xo d
    ·by_cases hf:Xo f
     ·simp only[dec,nxt,h0,h1,h2,h3,Xf,fin,badV,hc,hd,hf,if_true,if_false,List.take_succ_cons,List.length_cons,Nat.add_one_sub_one,List.take_zero,Option.bind_some,Bool.true_and,show (4-1:Nat)=1+1+1 from rfl]
      rw[if_neg (show ¬(4=0\/t.length+1+1+1+1<4) by omega)]
      have e:b.toNat % 8*262144+c.toNat % 64*4096+d.toNat % 64*64+f.toNat % 64=64*(64*(64*(b.toNat % 8)+c.toNat % 64)+d.toNat % 64)+f.toNat % 64:=by omega
      rw[e];generalize hv:64*(64*(64*(b.toNat % 8)+c.toNat % 64)+d.toNat % 64)+f.toNat % 64=v;simp only[Vh];exact An (by rw[Bool.eq_iff_iff];simp;omega)
     ·simp[dec,nxt,h0,h1,h2,h3,Xf,hc,hd,hf]
    ·simp[dec,nxt,h0,h1,h2,h3,Xf,hc,hd]
   ·simp[dec,nxt,h0,h1,h2,h3,Xf,hc]
 ·simp[dec,nxt,h0,h1,h2,h3]
def Yi (l:Qx):Nat×Nat:=(dec l).getD (0,0)
theorem Dm {b:UInt8}{t:Qx}(h:(nxt b.toNat).1=0\/t.length+1<(nxt b.toNat).1):Yi (b::t)=(0,0):=by
 unfold Yi;rw[Hr,if_pos h];rfl
theorem Af {b:UInt8}{t:Qx}(k:Nat)(hk:k<=(nxt b.toNat).1-1)(h:Xf (nxt b.toNat).2.1 (t.take k)=none):Yi (b::t)=(0,0):=by
 unfold Yi;rw[Hr];split
 ·rfl
 ·rw[Gy k (t.take ((nxt b.toNat).1-1)) _ (by rw[List.take_take,Nat.min_eq_left hk];exact h)];rfl
theorem Ag {b:UInt8}{t:Qx}{v:Nat}(h: ¬((nxt b.toNat).1=0\/t.length+1<(nxt b.toNat).1))(hv:Xf (nxt b.toNat).2.1 (t.take ((nxt b.toNat).1-1))=some v):
  Yi (b::t)=if badV v (nxt b.toNat).2.2 then (0,0) else (v,(nxt b.toNat).1):=by
 unfold Yi;rw[Hr,if_neg h,hv];simp only[Option.bind_some,fin]
 split<;>rfl
def lim (j:Nat):Nat:=2*64^j
theorem Qyv (j:Nat):lim (j+1)=64*lim j:=by unfold lim;rw[Nat.pow_succ];omega
theorem Qma {j:Nat}(h:j<=4):lim j<=33554432:=by
 unfold lim;have:=Nat.pow_le_pow_right (n:=64) (by omega) h;omega
theorem Qme (b:Nat):(nxt b).1<=4/\(nxt b).2.1<lim 1/\(nxt b).2.2<=65536:=by
 unfold nxt lim;repeat' split
 all_goals simp<;>omega
end LexP
