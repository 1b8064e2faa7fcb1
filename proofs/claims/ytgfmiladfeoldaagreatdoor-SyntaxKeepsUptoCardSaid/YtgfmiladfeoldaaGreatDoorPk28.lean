import Derived.Test.YtgfmiladfeoldaaGreatDoorPk24
import Derived.Test.YtgfmiladfeoldaaGreatDoorPk25
import Derived.Test.YtgfmiladfeoldaaGreatDoorPk27
import Derived.Test.YtgfmiladfeoldaaGreatDoorPk26
set_option linter.unusedSimpArgs false
set_option linter.unusedVariables false
set_option maxRecDepth 100000
set_option maxHeartbeats 16000000
namespace Go.Proofs.YtgfmiladfeoldaaGreatDoor
open Go.RowKit NatP LexP
def Qqm:ByteArray:=⟨#[112,114,105,110,116,32,45,65,39,94,50]⟩
theorem Dy {W:Int->Qx->Bool}{n:Nat}:∀(l:List SynP.NI) (i:Nat) (free:List Nat),free.length<=i->SynP.Xk W n i free l=true-> ∀x∈l,x.kids.length<=i+l.length:=by
 intro l
 induction l with
 |nil=>intro _ _ _ _ x E;cases E
 |cons a l ih=>
  intro i free J h x E;unfold SynP.Xk at h;split at h
  ·rename_i H
   split at h
   ·have I:a.kids.length<=free.length:=by
     unfold SynP.Wo at H;simp only[Bool.not_eq_true',Bool.or_eq_false_iff,decide_eq_false_iff_not]at H;omega
    rcases List.mem_cons.1 E with rfl|E
    ·omega
    ·have:=ih (i+1) _ (by rw[List.length_append,List.length_take];simp;omega) h x E
     simp only[List.length_cons];omega
   ·cases h
  ·cases h
theorem Qwd {n:SynP.Ln}(h:LnFit n):∀x∈SynP.nL n.flat,x.kids.length<=4194304:=fun x hx=>by
 have E:=Dy _ 0 [] (Nat.le_refl _) (Ft h.wf) x hx;have H:=h.size;rw[show (SynP.nL n.flat).length=n.size by rw[SynP.nL,List.length_map,Rq]]at E;omega
theorem Qgs (fin:Nat)(P:SynP.St->SynP.PR SynP.Ex)(IH:ExOk 97 P fin)(R:Nat)(tv:Value)(L:List Tok)(a:Nat)(s:SynP.St)(nv:Value)(ns:List Nv)(w:World)(h:RS w R tv L fin a s nv ns)(k:SynP.Ex)(s1:SynP.St)(hN:P s=some (.ok (k,s1)))(hm:SynP.Qk [44] s1.ts=false):
  Calls Tryz.prog 98 #[.pointer (some ⟨R,0,none⟩)] w (RP (some (.ok (.cons k .nil,s1))) R tv L fin s nv ns (PaQ R ns w) w):=by
 have HC:=IH R tv L a s nv ns w h (by rw[hN];simp);rw[hN]at HC;replace HC:=zq HC;have HM:=zq hm;clear h IH hN hm;go_enter Tryz.func98,Tryz.ntmps98;go_wp2_with fail;refine HC.o.mono ?_;rintro e w1 ⟨v1,a1,nv1,ns1,rfl,n1,rfl,hfl⟩;obtain⟨p,hp⟩:=xq (ns.length+k.size-1);rw[<-hp];have HA:=zq (Qq w1 (.cells #[.int .i64 ((p:Nat):Int)] 3));have HKN:Hid (KNew (w1.alloc (.cells #[.int .i64 ((p:Nat):Int)] 3)) R nv1 (ns++ns1) (.slice (some ⟨w1.heap.size,0,none⟩) 1 1) [p]):=(KNew.fresh n1.rs [p]).resolve_right (by simp);have HP:=zq hp;have HPS:=zq (n1.step (n1.rs.below HA.o) (Wr.of_below HA.o) (Nat.le_refl _) rfl);have HFL:=zq hfl;have HZ:Hid (w.heap.size<=w1.heap.size):=n1.wr.size;obtain⟨w2,hw2⟩:∃w2,w2=w1.alloc (.cells #[.int .i64 ((p:Nat):Int)] 3):=⟨_,rfl⟩;rw[<-hw2]at HKN HPS;have HW2:=zq hw2;clear hp n1 hfl HC HA hw2;go_wp2_with fail;rw[<-HW2.o];go_loopw [3] (fun kv wr=>kv=.slice (some ⟨w1.heap.size,0,none⟩) 1 1/\wr=w2) (fun _ _=>0)
 case atStart=>exact⟨rfl,rfl⟩
 case round=>
  obtain⟨rfl,hw⟩:=hrel;subst hw;go_wp2_with fail;refine(Yv R tv L fin a1 s1 nv1 (ns++ns1) _ HPS.o.rs [44]).mono ?_;rintro e w3 ⟨he,t1,t2⟩;rw[HM.o]at he t2;subst he;rw[if_neg (by decide)]at t2;have HP3:=zq (HPS.o.step t2 t1 (Nat.le_refl _) rfl);have HK3:Hid (KNew w3 R nv1 (ns++ns1) (.slice (some ⟨w1.heap.size,0,none⟩) 1 1) [p]):=⟨HKN.o.1.wr (t1.weak _) (Mv.refl _ _),HKN.o.2⟩;clear t1 t2;go_wp2_with fail;go_ret;refine⟨_,a1,nv1,ns1,rfl,HP3.o,?_,?_,fun q hq=> ?_⟩
  ·show KNew _ _ _ _ _ [ns.length+k.size-1]
   rw[<-HP.o];exact HK3.o
  ·rw[HFL.o];simp[SynP.Exs.flat]
  ·cases hq;exact HZ.o
def Qh6 (x:Qx)(l:SynP.Exs)(s':SynP.St):SynP.PR SynP.Ln:=some (.ok (.cmd x l,s'))
theorem Qhj (fin:Nat)(P:SynP.St->SynP.PR SynP.Ex)(IH:ExOk 97 P fin)(R:Nat)(tv:Value)(L:List Tok)(s:SynP.St)(nv:Value)(w:World)(h:RS w R tv L fin 0 s nv [])(x:Qx)(s3 s5:SynP.St)(k:SynP.Ex)
  (h0:s.ts≠[]) (hk:SynP.Qb 2 s.ts=true) (hl:(SynP.Xl s.ts==SynP.letB)=false) (hx:SynP.name fin s=some (.ok (x,s3))) (h3:s3.ts≠[]) (hN:P s3=some (.ok (k,s5))) (hm:SynP.Qk [44] s5.ts=false) (h5:s5.ts=[]):
  Calls Tryz.prog 49 #[.pointer (some ⟨R,0,none⟩)] w (LnP (Qh6 x (.cons k .nil) s5) R tv L fin nv w):=by
 have HS0:=zq h;have HD:Hid (decide (s.ts=[])=false):=decide_eq_false h0;have HD3:Hid (decide (s3.ts=[])=false):=decide_eq_false h3;have HD5:Hid (decide (s5.ts=[])=true):=decide_eq_true h5;have HPA:Hid (∀(a:Nat) (w:World),RS w R tv L fin a s3 nv []->Calls Tryz.prog 98 #[.pointer (some ⟨R,0,none⟩)] w (RP (some (.ok (.cons k .nil,s5))) R tv L fin s3 nv [] (PaQ R [] w) w)):=fun a w h=>Qgs fin P IH R tv L a s3 nv [] w h k s5 hN hm;have HX:=zq hx;have hfew:=h.few;rw[List.length_nil,Nat.zero_add]at hfew;have C2:=zq (Xv 2 [] s.ts (by decide));rw[hk]at C2;obtain⟨ao,cap,rfl,t1,t2,t3⟩:=h.tks;have hdr:=h.drop;rw[List.drop_zero]at hdr;obtain⟨t,l,hts⟩:=List.exists_cons_of_ne_nil h0
 have hL0:0<L.length:=by rw[hdr,hts];simp
 obtain⟨g,rfl,hg,hcl⟩:=t3 hL0;obtain⟨-,d1,-⟩:=hcl 0 t (by rw[hdr,hts];rfl)
 have ht1:t.2.1=SynP.Xl s.ts:=by rw[hts];rfl
 rw[ht1]at d1;have D1:=zq d1;have hRl:=h.lt;have HRL:=zq hRl;obtain⟨tt,htt⟩:=xq (SynP.Xl s.ts);rw[<-htt]at D1 hl;have HL:=zq hl
 have HSL:=zq (show s3.ts.length<s.ts.length from by
  have e1:=(Jn hx).1;have e2:=Sh (Jn hx).2
  rw[<-e1]at e2;omega)
 clear h h0 t3 hcl hdr hts d1 ht1 htt hk hl hx h3 h5 IH hN hm;go_enter Tryz.func49,Tryz.ntmps49;go_wp2_with fail;refine(Jw R _ L fin 0 s nv [] _ HS0.o).mono ?_;rintro e w1 ⟨rfl,b1⟩;rw[HD.o];have HP1:Hid (Ln0 R (.slice (some ⟨g,0,none⟩) L.length cap) L fin nv w w1 0 s nv []):=⟨HS0.o.below b1,Wr.of_below b1,Mv.refl _ _,fun p hp=>by cases hp⟩;have D2:Hid (w1.cell? ⟨g,1,none⟩=some (.string ⟨tt.toArray⟩)):=(b1.cell (p:=⟨g,1,none⟩) (by show g<_;have:=HRL.o;omega)).trans D1.o
 have hgl1:g<w1.heap.size:=by have:=b1.size;have:=HRL.o;omega
 clear b1;go_wp2_with fail;refine(Qa R _ L fin 0 s nv [] _ HP1.o.rs 0 2 [] (by omega) (by omega)).mono ?_;rintro e w2 ⟨rfl,b1⟩;rw[C2.o];have HP2:=zq (HP1.o.step (HP1.o.rs.below b1) (Wr.of_below b1));have e0:=HP2.o.rs.cells.1;have e2:w2.cell? ⟨g,1,none⟩=some (.string ⟨tt.toArray⟩):=(b1.cell (p:=⟨g,1,none⟩) hgl1).trans D2.o;have hc:(tt==[108,101,116])=false:=HL.o;clear b1;go_wp2_with fail;refine(Pc R _ L fin 0 s nv [] _ HP2.o.rs).mono ?_;rintro e w3 hn;rw[HX.o]at hn;obtain⟨v3,a3,rfl,n1,n2,n3,rfl⟩:=hn;have HP3:=zq (HP2.o.step n1 n2);clear n1 n2 n3;go_wp2_with fail;refine(Jw R _ L fin a3 s3 nv [] _ HP3.o.rs).mono ?_;rintro e w4 ⟨rfl,b1⟩;rw[HD3.o];have HP4:=zq (HP3.o.step (HP3.o.rs.below b1) (Wr.of_below b1));clear b1;go_wp2_with fail;refine(HPA.o a3 _ HP4.o.rs).mono ?_;rintro e w5 ⟨v5,a5,nv5,ns5,rfl,n1,n2,n3,n4⟩;have HP6:=zq (HP4.o.trans n1);have HF:=zq n3;have HKN:=zq n2;have HKF:Hid (∀q,v5.ownBlock=some q->w.heap.size<=q):=fun q hq=>Nat.le_trans HP4.o.wr.size (n4 q hq);have hfw:=n1.few;rw[List.nil_append,List.length_nil,Nat.zero_add]at hfw;have hsl:=HSL.o;clear n1 n2 n3 n4;go_wp2_with fail;refine(Y5 R _ L fin a5 s5 nv5 ([]++ns5) _ HP6.o.rs ⟨12,x,(SynP.Exs.cons k .nil).roots 0⟩ _ HKN.o (by rw[List.nil_append];omega)).mono ?_;rintro e w6 ⟨nv6,rfl,b1,b2,b3⟩;have HP8:=zq (HP6.o.put b1 b2 b3 HKF.o);clear b1 b2 b3
 have hmap:(([]++ns5)++[((⟨12,x,(SynP.Exs.cons k .nil).roots 0⟩:SynP.Node),v5)]).map Prod.fst=(SynP.Ln.cmd x (.cons k .nil)).flat:=by
  rw[List.nil_append,List.map_append,HF.o];rfl
 have HMAP:=zq hmap;clear hmap;go_wp2_with fail;refine(Jw R _ L fin a5 s5 nv6 _ _ HP8.o.rs).mono ?_;rintro e w7 ⟨rfl,b1⟩;rw[HD5.o];have HP9:=zq (HP8.o.step (HP8.o.rs.below b1) (Wr.of_below b1));clear b1;go_wp2_with fail
 first|go_end0|refine bodyPost_ret (results_none rfl _ _ _) rfl ?_
 exact⟨rfl,a5,nv6,_,HP9.o.rs,HP9.o.wr,HMAP.o,HP9.o.mv,HP9.o.fresh⟩
theorem Qvf (fin:Nat)(R:Nat)(tv:Value)(L:List Tok)(s:SynP.St)(nv:Value)(w:World)(n:SynP.Ln)(s':SynP.St)(h:RS w R tv L fin 0 s nv [])(hl:∀w,RS w R tv L fin 0 s nv []->Calls Tryz.prog 49 #[.pointer (some ⟨R,0,none⟩)] w (LnP (some (.ok (n,s'))) R tv L fin nv w)):
  Calls Tryz.prog 48 #[.func (.func 49) #[.pointer (some ⟨R,0,none⟩)] #[]] w (GuP (some (.ok (n,s'))) R tv L fin nv w):=by
 have hmf:∀(fn:Fn) (first cap:Array Value) (w:World),(Instr.makeFunc fn first cap).run Tryz.prog w=.ok (.func fn first cap) w:=fun _ _ _ _=>rfl;have HA:=zq (Qq w (.cells #[.int .i64 0,.int .i64 0] 81));have HS:=zq (h.below HA.o);have hRl:=h.lt;have HB:=zq (heap_alloc_new w (.cells #[.int .i64 0,.int .i64 0] 81));have HL:=zq hl;have HLT:Hid (∀q,nv.ownBlock=some q->q<w.heap.size):=fun q hq=>(h.own.lt q hq).2;clear h hl;go_enter_defers Tryz.func48,Tryz.ntmps48;go_wp2_with fail;refine(HL.o _ HS.o).mono ?_;rintro e w2 hn;obtain⟨rfl,a',nv',ns',n1,n2,n3,n4,n5⟩:=hn;have hb:w2.heap[w.heap.size]?=some (.cells #[.int .i64 0,.int .i64 0] 81 (0,0)):=(n2.block w.heap.size (by simp) (by omega) (fun e=>by have:=HLT.o _ e.symm;omega)).trans HB.o;have hz0:w2.frozen? ⟨w.heap.size,0,none⟩=false:=frozen_of_row _ _ 0 _ _ hb;have hz1:w2.frozen? ⟨w.heap.size,1,none⟩=false:=frozen_of_row _ _ 1 _ _ hb
 have hc0:w2.cell? ⟨w.heap.size,0,none⟩=some (.int .i64 0):=by rw[cell_of_row _ _ 0 _ _ _ hb];rfl
 have hc1:w2.cell? ⟨w.heap.size,1,none⟩=some (.int .i64 0):=by rw[cell_of_row _ _ 1 _ _ _ hb];rfl
 have hne1:nv'.ownBlock≠some w.heap.size:=fun e=>by
  rcases n4 _ e with h1|h1
  ·have:=HLT.o _ h1;omega
  ·simp at h1;omega
 have hne2:∀p∈ns',p.2.ownBlock≠some w.heap.size:=fun p hp e=>by
  have h1:=n5 p hp _ e;simp at h1;omega
 have g1:=(n1.growK (Tw (g:=w.heap.size) (o:=0) w2 (.int .i64 0)) (fun q hq=>by cases hq;exact⟨hRl,hne1,hne2⟩)).1;have g2:=(g1.growK (Tw (g:=w.heap.size) (o:=1) _ (.int .i64 0)) (fun q hq=>by cases hq;exact⟨hRl,hne1,hne2⟩)).1;have G2:=zq g2;have HWR:=zq (((((Wr.of_below (R:=R) (og:=nv.ownBlock) HA.o).trans (Mv.refl _ _) n2).sets (g:=w.heap.size) (o:=0) (Nat.le_refl _) (.int .i64 0)).sets (g:=w.heap.size) (o:=1) (Nat.le_refl _) (.int .i64 0)));have N3:=zq n3;have s1:=heap_setCell_same w2 w.heap.size 0 _ 81 (.int .i64 0) hb;have S2:=zq (heap_setCell_same (w2.setCell ⟨w.heap.size,0,none⟩ (.int .i64 0)) w.heap.size 1 _ 81 (.int .i64 0) s1);clear n1 n2 n3 n4 n5 hb hne1 hne2 g1 g2 s1;go_wp2_with fail;refine leaves_cons (f:=92) (args:= #[.pointer (some ⟨w.heap.size,0,none⟩)]) (by simp) (by simp[go_sem]) ?_;refine(U5 w.heap.size _).mono ?_;rintro e u' w3 ⟨rfl,rfl,hw3⟩;rw[<-hw3]at G2 HWR
 have q0:w3.cell? ⟨w.heap.size,0,none⟩=some (.int .i64 0):=by rw[hw3,cell_of_row _ _ 0 _ _ _ S2.o];rfl
 have q1:w3.cell? ⟨w.heap.size,1,none⟩=some (.int .i64 0):=by rw[hw3,cell_of_row _ _ 1 _ _ _ S2.o];rfl
 clear hw3;simp[Leaves,settle,results,Tryz.results48,go_sem,q0,q1];exact⟨rfl,a',nv',ns',G2.o,HWR.o,N3.o⟩
def atW (s0:SynP.St)(k:SynP.Ex)(s1 s:SynP.St):SynP.PR SynP.Ex:=if s=s0 then some (.ok (k,s1)) else none
theorem Qzr {s0:SynP.St}{k:SynP.Ex}{s1:SynP.St}:∀s e,atW s0 k s1 s≠some (.error e):=by
 intro s e;unfold atW;split<;>simp
theorem ExOk.at {F:Nat}{P:SynP.St->SynP.PR SynP.Ex}{fin:Nat}(h:ExOk F P fin){s0:SynP.St}{k:SynP.Ex}{s1:SynP.St}(e:P s0=some (.ok (k,s1))):ExOk F (atW s0 k s1) fin:=by
 intro R tv L a s nv ns w I H;by_cases hs:s=s0
 ·subst hs
  have E:=h R tv L a s nv ns w I (by rw[e];simp);rw[e]at E;unfold atW;rw[if_pos rfl];exact E
 ·exact absurd (by unfold atW;rw[if_neg hs]) H
def Z1:List Tok:=match Toks 1 (Qz Qpx) with| .ok ts=>ts| .error _=>[]
theorem Qm3:ExOk 251 (atW ⟨Z1.drop 2,0⟩ (.name [65]) ⟨Z1.drop 3,0⟩) 12:=by
 intro R tv L a s nv ns w H E;by_cases hs:s=⟨Z1.drop 2,0⟩
 ·subst hs
  have e:SynP.atom 12 1 ⟨Z1.drop 2,0⟩=some (.ok (.name [65],⟨Z1.drop 3,0⟩)):=by kernel_rfl
  have h:=Fk 12 0 R tv L a ⟨Z1.drop 2,0⟩ nv ns w H (by kernel_rfl) (by kernel_rfl) (by kernel_rfl) (by rw[e];simp);rw[e]at h;unfold atW;rw[if_pos rfl];exact h
 ·exact absurd (by unfold atW;rw[if_neg hs]) E
theorem Qp3:ExOk 97 (atW ⟨Z1.drop 1,0⟩ (.neg (.pow (.turn (.name [65])) 2)) ⟨[],0⟩) 12:=by
 have a1:ExOk 235 (atW ⟨Z1.drop 2,0⟩ (.turn (.name [65])) ⟨Z1.drop 4,0⟩) 12:=(Qhl 12 3 _ Qzr Qm3).at (by kernel_rfl);have a2:ExOk 208 (atW ⟨Z1.drop 1,0⟩ (.neg (.pow (.turn (.name [65])) 2)) ⟨[],0⟩) 12:=(Qwf 12 3 _ Qzr a1).at (by kernel_rfl);have a3:ExOk 160 (atW ⟨Z1.drop 1,0⟩ (.neg (.pow (.turn (.name [65])) 2)) ⟨[],0⟩) 12:=(Qho 12 _ Qzr a2).at (by kernel_rfl);exact(Qm8 12 _ Qzr a3).at (by kernel_rfl)
theorem Qgn (w:World)(hx:Lx w)(hs:SG w)(hsz:4<w.heap.size):
  Calls Tryz.prog 13 #[.string Qqm] w fun e w'=> ∃nv ns,e=.returned (.tuple #[nv,.int .i64 0,.int .i64 0])/\Below w.heap.size w w'/\Tr w' w.heap.size nv ns/\ns.map Prod.fst=Vx.flat:=by
 have hmf:∀(fn:Fn) (first cap:Array Value) (w:World),(Instr.makeFunc fn first cap).run Tryz.prog w=.ok (.func fn first cap) w:=fun _ _ _ _=>rfl;have HST:=zq (Rk Qqm w (by show _<=_;decide) hx hs hsz);have hsl:Qqm.size=11:=rfl
 have hT:Toks 1 (Qz Qqm.data.toList)=.ok Z1:=by kernel_rfl
 obtain⟨T,hTT⟩:=xq Qqm;rw[<-hTT]at HST hsl hT ⊢;have HT:=zq hT
 have HFN:Hid ((Qz T.data.toList).length+1=12):=by show _=_;rw[hTT];kernel_rfl
 clear hx hs hT hTT;go_enter Tryz.func13,Tryz.ntmps13;go_wp2_with fail;refine HST.o.mono ?_;rintro e w1 hn;unfold StP at hn;rw[HT.o,HFN.o]at hn;obtain⟨R,tv,rfl,hR,hb,h⟩:=hn;have HS:=zq h;have HB:=zq hb;clear hb h;go_wp2_with fail;refine(Qvf 12 R tv Z1 ⟨Z1,0⟩ _ _ Vx ⟨[],0⟩ HS.o (fun w h=>Qhj 12 _ Qp3 R tv Z1 ⟨Z1,0⟩ _ w h [112,114,105,110,116] ⟨Z1.drop 1,0⟩ ⟨[],0⟩ _ (by decide+kernel) (by kernel_rfl) (by kernel_rfl) (by kernel_rfl) (by decide+kernel) (by kernel_rfl) (by kernel_rfl) rfl)).mono ?_;rintro e w2 ⟨rfl,a',nv',ns',n1,n2,n3⟩;have HA:=zq (Qq w2 (.cells #[.int .i64 0,.int .i64 0] 81));have HW:=zq (Qj (Wr.belowR n2 HB.o hR) HA.o);have n1':=n1.below HA.o;have HTR:=zq (n1'.tr hR);have e4:=n1'.cells.2.2.2.2
 have hlen:ns'.length=5:=by
  have:=congrArg List.length n3;rw[List.length_map]at this;exact this
 have HN3:=zq n3;obtain⟨ao,cap,rfl,-,-,-⟩:=Qm n1.own;rw[hlen]at e4;have HLN:=zq hlen;clear n1 n1' n2 n3 hlen;go_wp2_with fail;go_ret3;refine⟨.slice ao 5 cap,ns',rfl,HW.o,?_,HN3.o⟩;rw[<-HLN.o];exact HTR.o
def Apv (x y:Value):Prop:=∀q,x.ownBlock=some q->y.ownBlock≠some q
theorem OL.of {w:World}{B z:Nat}{t:TypeId}{vs:List Value}{M:Nat}(h:∀x∈vs,∃n xs,n<=M/\w.ownsRow B t z x n xs)(hp:vs.Pairwise Apv):∃(L:Nat->Nat) (F:Nat->List Value),OL w B t z vs L F/\ ∀j,L j<=M:=by
 have E:∀j:Nat,∃p:Nat×List Value,p.1<=M/\ ∀x,vs[j]?=some x->w.ownsRow B t z x p.1 p.2:=fun j=>by
  cases I:vs[j]? with
  |none=>exact⟨(0,[]),Nat.zero_le _,fun x hx=>by cases hx⟩
  |some y=>
   obtain⟨n,xs,H,K⟩:=h y (List.mem_of_getElem? I);exact⟨(n,xs),H,fun x hx=>by cases hx;exact K⟩
 refine⟨fun j=>(Classical.choose (E j)).1,fun j=>(Classical.choose (E j)).2,⟨fun j x hx=>(Classical.choose_spec (E j)).2 x hx,fun i j x y q hx hy hij hq e=> ?_⟩,fun j=>(Classical.choose_spec (E j)).1⟩;rw[List.pairwise_iff_getElem]at hp;obtain⟨J,rfl⟩:=List.getElem?_eq_some_iff.1 hx;obtain⟨I,rfl⟩:=List.getElem?_eq_some_iff.1 hy;rcases Nat.lt_or_gt_of_ne hij with H|H
 ·exact hp i j J I H q hq e
 ·exact hp j i I J H q e hq
def kl2 (a b:List Value)(i:Nat):List Value:=(List.range i).flatMap fun j=>[a.getD j undef,b.getD j undef]
theorem Pw (a b:List Value)(i:Nat):kl2 a b (i+1)=kl2 a b i++[a.getD i undef,b.getD i undef]:=by
 unfold kl2;rw[List.range_succ,List.flatMap_append];simp
theorem S8 (a b:List Value)(i:Nat):(kl2 a b i).length=2*i:=by
 induction i with
 |zero=>rfl
 |succ i ih=>rw[Pw,List.length_append,ih];simp;omega
theorem kl2_mem {a b:List Value}{i:Nat}{x:Value}(h:x∈kl2 a b i)(ha:i<=a.length)(hb:i<=b.length):(∃j,j<i/\a[j]?=some x)\/ ∃j,j<i/\b[j]?=some x:=by
 unfold kl2 at h;rw[List.mem_flatMap]at h;obtain⟨j,I,J⟩:=h;have E:=List.mem_range.1 I;rcases List.mem_cons.1 J with H|H
 ·left;exact⟨j,E,by rw[H,List.getD_eq_getElem?_getD,List.getElem?_eq_getElem (by omega)];rfl⟩
 ·right;exact⟨j,E,by rw[List.mem_singleton.1 H,List.getD_eq_getElem?_getD,List.getElem?_eq_getElem (by omega)];rfl⟩
theorem Qz6 {a:List Value}{j:Nat}(h:j<a.length):a[j]?=some (a.getD j undef):=by
 rw[List.getD_eq_getElem?_getD,List.getElem?_eq_getElem h];rfl
theorem Bu {a b:List Value}(haa:∀(i j:Nat) (x y:Value),a[i]?=some x->a[j]?=some y->i≠j->Apv x y)(hbb:∀(i j:Nat) (x y:Value),b[i]?=some x->b[j]?=some y->i≠j->Apv x y)(hab:∀x∈a,∀y∈b,Apv x y):
  ∀i,i<=a.length->i<=b.length->(kl2 a b i).Pairwise Apv:=by
 intro i
 induction i with
 |zero=>intro _ _;exact List.Pairwise.nil
 |succ i ih=>
  intro I J;have ga:=Qz6 (a:=a) (j:=i) (by omega);have gb:=Qz6 (a:=b) (j:=i) (by omega);rw[Pw,List.pairwise_append];refine⟨ih (by omega) (by omega),?_,fun x hx y hy=> ?_⟩
  ·rw[List.pairwise_cons]
   exact⟨fun y hy=>by rw[List.mem_singleton.1 hy];exact hab _ (List.mem_of_getElem? ga) _ (List.mem_of_getElem? gb),List.pairwise_singleton _ _⟩
  ·rcases kl2_mem hx (by omega) (by omega) with ⟨j,H,E⟩|⟨j,H,E⟩<;>rcases List.mem_cons.1 hy with h|h
   ·subst h;exact haa j i _ _ E ga (by omega)
   ·rw[List.mem_singleton.1 h];exact hab _ (List.mem_of_getElem? E) _ (List.mem_of_getElem? gb)
   ·subst h;exact fun q hq e=>hab _ (List.mem_of_getElem? ga) _ (List.mem_of_getElem? E) q e hq
   ·rw[List.mem_singleton.1 h];exact hbb j i _ _ E gb (by omega)
theorem Tr.below {w w':World}{B:Nat}{nv:Value}{ns:List Nv}(h:Tr w B nv ns)(hb:Below w.heap.size w w'):Tr w' B nv ns:=
 ⟨Ql h.own hb (Nat.le_refl _),fun p hp=>(h.kids p hp).wr (Wr.of_below hb) (Mv.refl _ _),h.apart⟩
structure RH (w:World) (G gg gh rcap n:Nat) (l:List SynP.NI) (i:Nat) (qs:List (Nat×Nat)):Prop where
 room:∃rc:Array Value,w.heap[gg]?=some (.cells rc 43 (0,0))/\n*3+3<=rc.size/\rc[n*3]?=some (.int .i64 77)/\rc[n*3+1]?=some (.string ⟨#[109,97,114,107]⟩)/\
  (∀(j:Nat) (x:SynP.NI),l[j]?=some x->rc[j*3]?=some (.int .i64 x.op)/\rc[j*3+1]?=some (.string ⟨x.text.toArray⟩))/\
  ∀(j:Nat) (x:SynP.NI) (p:Nat×Nat),l[j]?=some x->qs[j]?=some p->rc[j*3+2]?=some (.slice (some ⟨p.1,0,none⟩) x.kids.length p.2)
 hold:∃hc:Array Value,w.heap[gh]?=some (.cells hc 41 (0,0))/\hc.size=n/\
  ∀(j:Nat) (x:SynP.NI) (p:Nat×Nat),l[j]?=some x->qs[j]?=some p->hc[j]?=some (.slice (some ⟨p.1,0,none⟩) (x.kids.length+1) p.2)
 lists:∀(j:Nat) (x:SynP.NI) (p:Nat×Nat),l[j]?=some x->qs[j]?=some p->IntB w p.1 (x.kids++[-5])/\x.kids.length+1<=p.2/\p.2<=maxLen
 qn:qs.length=i
 qg:∀p∈qs,G<p.1/\p.1≠gg/\p.1≠gh
 ll:l.length=n
 gs:G<gg/\G<gh/\gg≠gh
theorem IntB.stay {w w':World}{h:Nat}{K:List Int}(hb:IntB w h K)(hk:h<w.heap.size->w'.heap[h]?=w.heap[h]?):IntB w' h K:=by
 obtain⟨c,E,H⟩:=hb;exact⟨c,(hk (Array.getElem?_eq_some_iff.1 E).1).trans E,H⟩
theorem RH.keep {w w':World}{G gg gh rcap n:Nat}{l:List SynP.NI}{i:Nat}{qs:List (Nat×Nat)}(h:RH w G gg gh rcap n l i qs)(hk:∀k,G<k->k<w.heap.size->w'.heap[k]?=w.heap[k]?):RH w' G gg gh rcap n l i qs:=by
 obtain⟨⟨rc,r1,r2⟩,⟨U,H,K⟩,I,O,J,T,E⟩:=h;refine⟨⟨rc,(hk gg E.1 (Array.getElem?_eq_some_iff.1 r1).1).trans r1,r2⟩,⟨U,(hk gh E.2.1 (Array.getElem?_eq_some_iff.1 H).1).trans H,K⟩,fun j x p hx hp=>⟨(I j x p hx hp).1.stay fun hl=>hk _ (J p (List.mem_of_getElem? hp)).1 hl,(I j x p hx hp).2⟩,O,J,T,E⟩
theorem RH.next {w w2:World}{G gg gh rcap n:Nat}{l:List SynP.NI}{i:Nat}{qs:List (Nat×Nat)}(h:RH w G gg gh rcap n l i qs)(hb:Below w.heap.size w w2){x:SynP.NI}(hx:l[i]?=some x){g cap:Nat}(hg:w.heap.size<=g)(hib:IntB w2 g (x.kids++[-5]))(hc1:x.kids.length+1<=cap)(hc2:cap<=maxLen)(hGw:G<w.heap.size):
  RH ((w2.setCell ⟨gh,i,none⟩ (.slice (some ⟨g,0,none⟩) (x.kids.length+1) cap)).setCell ⟨gg,i*3+2,none⟩ (.slice (some ⟨g,0,none⟩) x.kids.length cap)) G gg gh rcap n l (i+1) (qs++[(g,cap)]):=by
 obtain⟨⟨rc,r1,r2,r3,r4,r5,r6⟩,⟨hc,h1,h2,a1⟩,h3,h4,h5,h6,Z⟩:=h
 have aa:i<n:=by rw[<-h6];exact(List.getElem?_eq_some_iff.1 hx).1
 have a5:=(Array.getElem?_eq_some_iff.1 r1).1;have a6:=(Array.getElem?_eq_some_iff.1 h1).1
 have O:∀k,k≠gg->k≠gh->((w2.setCell ⟨gh,i,none⟩ (.slice (some ⟨g,0,none⟩) (x.kids.length+1) cap)).setCell ⟨gg,i*3+2,none⟩ (.slice (some ⟨g,0,none⟩) x.kids.length cap)).heap[k]?=w2.heap[k]? :=fun k e1 e2=>
  (heap_setCell_other _ ⟨gg,i*3+2,none⟩ k _ e1).trans (heap_setCell_other _ ⟨gh,i,none⟩ k _ e2)
 have U:=heap_setCell_same (w2.setCell ⟨gh,i,none⟩ (.slice (some ⟨g,0,none⟩) (x.kids.length+1) cap)) gg (i*3+2) rc 43 (.slice (some ⟨g,0,none⟩) x.kids.length cap) ((heap_setCell_other w2 ⟨gh,i,none⟩ gg _ Z.2.2).trans ((hb.block gg a5).trans r1));have T:=(heap_setCell_other (w2.setCell ⟨gh,i,none⟩ (.slice (some ⟨g,0,none⟩) (x.kids.length+1) cap)) ⟨gg,i*3+2,none⟩ gh (.slice (some ⟨g,0,none⟩) x.kids.length cap) (fun e=>Z.2.2 e.symm)).trans (heap_setCell_same w2 gh i hc 41 (.slice (some ⟨g,0,none⟩) (x.kids.length+1) cap) ((hb.block gh a6).trans h1))
 have H:∀(j:Nat) (p:Nat×Nat),(qs++[(g,cap)])[j]?=some p->(j<i/\qs[j]?=some p)\/(j=i/\p=(g,cap)):=by
  intro j p K;by_cases hlt:j<qs.length
  ·rw[List.getElem?_append_left hlt]at K;exact .inl ⟨by omega,K⟩
  ·have:=(List.getElem?_eq_some_iff.1 K).1
   rw[List.length_append,List.length_singleton]at this
   have e:j=qs.length:=by omega
   subst e;rw[List.getElem?_append_right (Nat.le_refl _),Nat.sub_self]at K
   cases K;exact .inr ⟨h4,rfl⟩
 refine⟨⟨_,U,by simpa using r2,?_,?_,fun j y hy=> ?_,fun j y p hy E=> ?_⟩,⟨_,T,by simpa using h2,fun j y p hy E=> ?_⟩,fun j y p hy E=> ?_,by rw[List.length_append,h4];rfl,fun p E=> ?_,h6,Z⟩
 ·rw[Array.getElem?_setIfInBounds_ne (by omega)];exact r3
 ·rw[Array.getElem?_setIfInBounds_ne (by omega)];exact r4
 ·rw[Array.getElem?_setIfInBounds_ne (by omega),Array.getElem?_setIfInBounds_ne (by omega)];exact r5 j y hy
 ·rcases H j p E with ⟨I,J⟩|⟨I,rfl⟩
  ·rw[Array.getElem?_setIfInBounds_ne (by omega)];exact r6 j y p hy J
  ·subst I
   rw[hx]at hy;cases hy;rw[Array.getElem?_setIfInBounds_self_of_lt (by omega)]
 ·rcases H j p E with ⟨I,J⟩|⟨I,rfl⟩
  ·rw[Array.getElem?_setIfInBounds_ne (by omega)];exact a1 j y p hy J
  ·subst I
   rw[hx]at hy;cases hy;rw[Array.getElem?_setIfInBounds_self_of_lt (by omega)]
 ·rcases H j p E with ⟨I,J⟩|⟨I,rfl⟩
  ·obtain⟨q1,q2,q3⟩:=h3 j y p hy J
   obtain⟨-,n1,n2⟩:=h5 p (List.mem_of_getElem? J);exact⟨q1.stay fun hl=>(O p.1 n1 n2).trans (hb.block p.1 hl),q2,q3⟩
  ·subst I
   rw[hx]at hy;cases hy;exact⟨hib.stay fun _=>O g (by omega) (by omega),hc1,hc2⟩
 ·rcases List.mem_append.1 E with E|E
  ·exact h5 p E
  ·rw[List.mem_singleton.1 E];exact⟨by show G<g;omega,by show g≠gg;omega,by show g≠gh;omega⟩
theorem RH.ndl {w:World}{G gg gh rcap n:Nat}{l:List SynP.NI}{qs:List (Nat×Nat)}(h:RH w G gg gh rcap n l n qs)(hr:n<=rcap)(hm:rcap<=maxLen):NdL w w.heap.size (.slice (some ⟨gg,0,none⟩) n rcap) l:=by
 obtain⟨⟨rc,r1,r2,r3,r4,r5,r6⟩,-,I,K,-,E,-⟩:=h;refine⟨_,rcap,by rw[E],by rw[E];exact hr,hm,fun _=>⟨gg,rfl,(Array.getElem?_eq_some_iff.1 r1).1,fun j x hx=> ?_⟩⟩
 have J:j<n:=by rw[<-E];exact(List.getElem?_eq_some_iff.1 hx).1
 obtain⟨p,H⟩:∃p,qs[j]?=some p:=⟨_,List.getElem?_eq_getElem (by omega)⟩;obtain⟨⟨c,c1,c2⟩,q2,q3⟩:=I j x p hx H;refine⟨by rw[cell_of_row _ _ _ _ _ _ r1];exact(r5 j x hx).1,by rw[cell_of_row _ _ _ _ _ _ r1];exact(r5 j x hx).2,_,by rw[cell_of_row _ _ _ _ _ _ r1];exact r6 j x p hx H,_,p.2,rfl,by omega,q3,fun _=>⟨p.1,rfl,(Array.getElem?_eq_some_iff.1 c1).1,fun a k hk=> ?_⟩⟩;rw[cell_of_row _ _ _ _ _ _ c1];exact c2 a k (by rw[List.getElem?_append_left (List.getElem?_eq_some_iff.1 hk).1];exact hk)
theorem NdA.one {w:World}{g o n cap:Nat}{l:List SynP.NI}{j:Nat}{x:SynP.NI}(h:NdA w (.slice (some ⟨g,o,none⟩) n cap) l)(hx:l[j]?=some x):NdA w (.slice (some ⟨g,o+j*3,none⟩) 1 (cap-j)) [x]:=by
 obtain⟨ao,cap',e,T,U,E⟩:=h
 cases e
 have Z:=(List.getElem?_eq_some_iff.1 hx).1;refine⟨_,_,rfl,by simp;omega,by omega,fun a y hy=> ?_⟩;obtain⟨g',o',e',H,I,J,kv,K,O⟩:=E j x hx
 cases e'
 match a,hy with
 |0,hy=>
  cases hy
  exact⟨_,_,rfl,H,by simpa using I,by simpa using J,kv,by simpa using K,O⟩
def Lies (lo hi:Nat)(x:Value):Prop:=∀q,x.ownBlock=some q->lo<=q/\q<hi
theorem Lies.ap {a b c d:Nat}{x y:Value}(h:Lies a b x)(k:Lies c d y)(hbc:b<=c):Apv x y:=fun q hq e=>by
 have E:=(h q hq).2;have H:=(k q e).1;omega
theorem Apv.symm {x y:Value}(h:Apv x y):Apv y x:=fun q hq e=>h q e hq
structure MatO (lo hi:Nat) (w:World) (v:Value) (cs:List (Bool×Value)):Prop where
 own:w.ownsRow 0 62 2 v cs.length (Zh cs)
 lv:Lies lo hi v
 lc:∀c∈cs,Lies lo hi c.2
 oc:∀c∈cs,∃xs:List Nat,xs.length<=67108864/\w.ownsRow 0 101 1 c.2 xs.length (ws xs)
 vc:∀c∈cs,Apv c.2 v
 pw:∀(i j:Nat) (c d:Bool×Value),cs[i]?=some c->cs[j]?=some d->i≠j->Apv c.2 d.2
theorem MatO.of {B:Nat}{w:World}{v:Value}{l:List (Bool×Nat)}(h:IOw B w v l):∃cs,MatO B w.heap.size w v cs/\cs.length=l.length:=by
 obtain⟨cs,I,J,E,K⟩:=h;refine⟨cs,⟨Tm I fun q _=>Nat.zero_le _,fun q hq=>I.lt q hq,fun c hc q hq=> ?_,fun c hc=> ?_,fun c hc q hq=>(E c hc).2 q hq,fun i j c d hi hj hij q hq=>K i j c d q hi hj hij hq⟩,J⟩
 ·obtain⟨⟨xs,-,H⟩,-⟩:=E c hc
  exact H.lt q hq
 ·obtain⟨⟨xs,O,H⟩,-⟩:=E c hc
  exact⟨xs,O,Tm H fun q _=>Nat.zero_le _⟩
theorem MatO.keep {lo hi:Nat}{w w':World}{v:Value}{cs:List (Bool×Value)}(h:MatO lo hi w v cs)(hk:∀q,lo<=q->q<hi->q<w.heap.size->w'.heap[q]?=w.heap[q]?):MatO lo hi w' v cs:=
 ⟨Zf h.own fun q hq E=>hk q (h.lv q hq).1 (h.lv q hq).2 E,h.lv,h.lc,fun c hc=>by
  obtain⟨xs,E,H⟩:=h.oc c hc
  exact⟨xs,E,Zf H fun q hq E=>hk q (h.lc c hc q hq).1 (h.lc c hc q hq).2 E⟩,h.vc,h.pw⟩
structure CpxO (lo hi:Nat) (w:World) (v:Value) (svs:List Value):Prop where
 own:w.ownsRow 0 41 1 v svs.length svs
 lv:Lies lo hi v
 le:∀s∈svs,Lies lo hi s
 oe:∀s∈svs,∃n xs,n<=549755813888/\w.ownsRow 0 3 1 s n xs
 ve:∀s∈svs,Apv s v
 pw:∀(i j:Nat) (c d:Value),svs[i]?=some c->svs[j]?=some d->i≠j->Apv c d
theorem CpxO.of {B:Nat}{w:World}{v:Value}{fs:List (List Int)}(h:ROw B w v fs)(hb:∀s∈fs,s.length<=549755813888):∃svs,CpxO B w.heap.size w v svs/\svs.length=fs.length:=by
 obtain⟨svs,K,O,T,U,Z⟩:=h
 have H:∀s∈svs,∃t∈fs,w.ownsRow B 3 1 s t.length (t.map fun k=> .int .i64 k):=fun s hs=>by
  obtain⟨j,E⟩:=List.mem_iff_getElem?.1 hs
  have I:j<fs.length:=by rw[<-O];exact(List.getElem?_eq_some_iff.1 E).1
  exact⟨fs[j],List.getElem_mem I,T j s _ E (List.getElem?_eq_getElem I)⟩
 refine⟨svs,⟨Tm K fun q _=>Nat.zero_le _,fun q hq=>K.lt q hq,fun s hs q hq=> ?_,fun s hs=> ?_,fun s hs q hq e=>U s hs q hq e,fun i j c d hi E hij q hq=>Z i j c d q hi E hij hq⟩,O⟩
 ·obtain⟨t,-,J⟩:=H s hs
  exact J.lt q hq
 ·obtain⟨t,hm,J⟩:=H s hs
  exact⟨t.length,_,hb t hm,Tm J fun q _=>Nat.zero_le _⟩
theorem CpxO.keep {lo hi:Nat}{w w':World}{v:Value}{svs:List Value}(h:CpxO lo hi w v svs)(hk:∀q,lo<=q->q<hi->q<w.heap.size->w'.heap[q]?=w.heap[q]?):CpxO lo hi w' v svs:=
 ⟨Zf h.own fun q hq E=>hk q (h.lv q hq).1 (h.lv q hq).2 E,h.lv,h.le,fun c hc=>by
  obtain⟨n,xs,E,H⟩:=h.oe c hc
  exact⟨n,xs,E,Zf H fun q hq E=>hk q (h.le c hc q hq).1 (h.le c hc q hq).2 E⟩,h.ve,h.pw⟩
def KidO (lo hi:Nat)(w:World)(K:List Value):Prop:=(∀x∈K,(∃n xs,n<=549755813888/\w.ownsRow 0 3 1 x n xs)/\Lies lo hi x)/\K.Pairwise Apv
theorem KidO.keep {lo hi:Nat}{w w':World}{K:List Value}(h:KidO lo hi w K)(hk:∀q,lo<=q->q<hi->q<w.heap.size->w'.heap[q]?=w.heap[q]?):KidO lo hi w' K:=
 ⟨fun x hx=>by
  obtain⟨⟨n,xs,H,I⟩,E⟩:=h.1 x hx
  exact⟨⟨n,xs,H,Zf I fun q hq H=>hk q (E q hq).1 (E q hq).2 H⟩,E⟩,h.2⟩
theorem Qqa (P:Nat->Prop)(G:Nat)(row:Nat->Value)(ls:Nat->List Value)(w:World)(h:BkS P w G row ls){va vb cv dv:Value}{csA csB:List (Bool×Value)}{svC svD K:List Value}{m k0 k1 a0 a1 b0 b1 c0 c1 d0 d1:Nat}
  (e0:ls 0=csA.map Prod.snd++csB.map Prod.snd) (e1:ls 1=[va,vb]) (e2:ls 2=K++kl2 svC svD m) (hA:MatO a0 a1 w va csA) (hB:MatO b0 b1 w vb csB) (hC:CpxO c0 c1 w cv svC) (hD:CpxO d0 d1 w dv svD) (hK:KidO k0 k1 w K)
  (o1:k1<=a0) (o2:a1<=b0) (o3:b1<=c0) (o4:c1<=d0) (oa:a0<=a1) (ob:b0<=b1) (oc:c0<=c1) (od:d0<=d1) (hm1:m<=svC.length) (hm2:m<=svD.length) (nA:csA.length<=4096) (nB:csB.length<=4096) (nK:K.length<=300000) (nm:m<=134217728):
  Calls Tryz.prog 25 #[.pointer (some ⟨G,0,none⟩)] w (fun e w'=>e=.returned (.bool true)/\BFr (ls 0++ls 1++ls 2) w w'):=by
 have m0:∀x∈ls 0,Lies a0 b1 x/\Apv x va/\Apv x vb/\ ∃n xs,n<=549755813888/\w.ownsRow 0 101 1 x n xs:=fun x E=>by
  rw[e0]at E;rcases List.mem_append.1 E with E|E
  ·obtain⟨c,I,rfl⟩:=List.mem_map.1 E
   obtain⟨xs,hl,Z⟩:=hA.oc c I;exact⟨fun q hq=>by have:=hA.lc c I q hq;omega,hA.vc c I,(hA.lc c I).ap hB.lv o2,xs.length,_,by omega,Z⟩
  ·obtain⟨c,I,rfl⟩:=List.mem_map.1 E
   obtain⟨xs,hl,Z⟩:=hB.oc c I;exact⟨fun q hq=>by have:=hB.lc c I q hq;omega,(hA.lv.ap (hB.lc c I) o2).symm,hB.vc c I,xs.length,_,by omega,Z⟩
 have m1:∀x∈ls 1,Lies a0 b1 x/\ ∃n xs,n<=549755813888/\w.ownsRow 0 62 2 x n xs:=fun x E=>by
  rw[e1]at E;rcases List.mem_cons.1 E with rfl|E
  ·exact⟨fun q hq=>by have:=hA.lv q hq;omega,_,_,by omega,hA.own⟩
  ·rw[List.mem_singleton.1 E]
   exact⟨fun q hq=>by have:=hB.lv q hq;omega,_,_,by omega,hB.own⟩
 have mk:∀x∈kl2 svC svD m,Lies c0 d1 x/\ ∃n xs,n<=549755813888/\w.ownsRow 0 3 1 x n xs:=fun x E=>by
  rcases kl2_mem E hm1 hm2 with ⟨j,-,J⟩|⟨j,-,J⟩
  ·have O:=List.mem_of_getElem? J
   exact⟨fun q hq=>by have:=hC.le x O q hq;omega,hC.oe x O⟩
  ·have O:=List.mem_of_getElem? J
   exact⟨fun q hq=>by have:=hD.le x O q hq;omega,hD.oe x O⟩
 have p0:(ls 0).Pairwise Apv:=by
  rw[e0,List.pairwise_append]
  have T:∀{cs:List (Bool×Value)},(∀(i j:Nat) (c d:Bool×Value),cs[i]?=some c->cs[j]?=some d->i≠j->Apv c.2 d.2)->(cs.map Prod.snd).Pairwise Apv:=fun {cs} h=>by
   rw[List.pairwise_iff_getElem];intro i j hi J a8;rw[List.getElem_map,List.getElem_map];exact h i j _ _ (List.getElem?_eq_getElem (by simpa using hi)) (List.getElem?_eq_getElem (by simpa using J)) (by omega)
  refine⟨T hA.pw,T hB.pw,fun x E y H=> ?_⟩;obtain⟨c,I,rfl⟩:=List.mem_map.1 E;obtain⟨d,hd,rfl⟩:=List.mem_map.1 H;exact(hA.lc c I).ap (hB.lc d hd) o2
 have p1:(ls 1).Pairwise Apv:=by
  rw[e1,List.pairwise_cons];exact⟨fun y H=>by rw[List.mem_singleton.1 H];exact hA.lv.ap hB.lv o2,List.pairwise_singleton _ _⟩
 have p2:(ls 2).Pairwise Apv:=by
  rw[e2,List.pairwise_append];refine⟨hK.2,Bu hC.pw hD.pw (fun x E y H=>(hC.le x E).ap (hD.le y H) o4) m hm1 hm2,fun x E y H=> ?_⟩;exact(hK.1 x E).2.ap (mk y H).1 (by omega)
 have m2:∀x∈ls 2,(Lies k0 k1 x\/Lies c0 d1 x)/\ ∃n xs,n<=549755813888/\w.ownsRow 0 3 1 x n xs:=fun x E=>by
  rw[e2]at E;rcases List.mem_append.1 E with E|E
  ·exact⟨.inl (hK.1 x E).2,(hK.1 x E).1⟩
  ·exact⟨.inr (mk x E).1,(mk x E).2⟩
 have x2:∀x:Value,Lies a0 b1 x-> ∀y∈ls 2,Apv x y:=fun x E y H=>by
  rcases (m2 y H).1 with U|U
  ·exact(U.ap E o1).symm
  ·exact E.ap U o3
 obtain⟨L0,F0,a2,b0'⟩:=OL.of (fun x E=>(m0 x E).2.2.2) p0;obtain⟨L1,F1,a3,b1'⟩:=OL.of (fun x E=>(m1 x E).2) p1;obtain⟨L2,F2,a4,b2'⟩:=OL.of (fun x E=>(m2 x E).2) p2;refine Qj5 P G 0 row ls L0 L1 L2 F0 F1 F2 w h a2 a3 a4 (fun x E y H=> ?_) (fun x E y H=>x2 x (m0 x E).1 y H) (fun x E y H=>x2 x (m1 x E).1 y H) ?_ ?_ ?_ b0' b1' b2' (Nat.zero_le _)
 ·rw[e1]at H
  rcases List.mem_cons.1 H with rfl|H
  ·exact(m0 x E).2.1
  ·rw[List.mem_singleton.1 H];exact(m0 x E).2.2.1
 ·rw[e0,List.length_append,List.length_map,List.length_map];omega
 ·rw[e1];show 2<=_;omega
 ·rw[e2,List.length_append,S8];omega
theorem Sz.both {t:Qx}{w w':World}{e:Ending}(h:Sz t w e w'):∃v cs,e=.returned (.tuple #[.agg #[.int .i64 (rmR t:Nat),.int .i64 (rmC' t:Nat),v],.int .i64 (rmE t:Nat)])/\IWw w' v (cws (rmL t))/\MatO w.heap.size w'.heap.size w' v cs/\cs.length=(rmL t).length/\Below w.heap.size w w':=by
 unfold Sz at h;unfold rmR rmC' rmE rmL
 cases hm:SynP.Zv t with
 |error k=>
  rw[hm]at h;obtain⟨H,E⟩:=h
  exact⟨_,[],H,Qp8 _,⟨World.ownsRow_nil _ _ _ _,fun q hq=>(by cases hq),fun c hc=>(by cases hc),fun c hc=>(by cases hc),fun c hc=>(by cases hc),fun i j c d I=>(by simp at I)⟩,rfl,E⟩
 |ok m=>
  rw[hm]at h;obtain⟨av,H,E,I,O⟩:=h;obtain⟨cs,J,K⟩:=MatO.of O;exact⟨av,cs,H,I.iww,J,K,E⟩
theorem Qm9 (w:World):FRd w (.slice none 0 0) []:=⟨none,0,rfl,Nat.le_refl _,Nat.zero_le _,fun h=>by simp at h⟩
def rxl (t:Qx):List (List Int):=match rcxV t with|some fs=>fs|none=>[]
def rxe (t:Qx):Nat:=match rcxV t with|some _=>0|none=>7
theorem Kz (t:Qx):(rxl t).length<=t.length/\ ∀s∈rxl t,s.length<=t.length:=by
 unfold rxl
 cases hm:rcxV t with
 |none=>exact⟨Nat.zero_le _,fun s hs=>by cases hs⟩
 |some fs=>
  unfold rcxV at hm
  cases hc:SynP.Jr t with
  |none=>rw[hc]at hm;cases hm
  |some l=>
   rw[hc]at hm;simp only at hm;split at hm
   ·cases hm
    obtain⟨E,H⟩:=My hc;refine⟨by rw[List.length_map];exact E,fun s hs=> ?_⟩;obtain⟨s0,h,rfl⟩:=List.mem_map.1 hs;unfold Y4;rw[List.length_map];exact H s0 h
   ·cases hm
theorem Sj.both {t:Qx}{w w':World}{e:Ending}(ht:t.length<=67108864)(h:Sj t w e w'):∃v svs,e=.returned (.tuple #[v,.int .i64 (rxe t:Nat)])/\FRd w' v (rxl t)/\CpxO w.heap.size w'.heap.size w' v svs/\svs.length=(rxl t).length/\Below w.heap.size w w':=by
 have E:=Kz t;obtain⟨H,h⟩:=h;unfold rxe rxl at*
 cases hm:rcxV t with
 |none=>
  rw[hm]at h
  exact⟨_,[],h,Qm9 _,⟨World.ownsRow_nil _ _ _ _,fun q hq=>(by cases hq),fun c hc=>(by cases hc),fun c hc=>(by cases hc),fun c hc=>(by cases hc),fun i j c d hi=>(by simp at hi)⟩,rfl,H⟩
 |some fs=>
  rw[hm]at h E;obtain⟨v,K,O,T⟩:=h;obtain⟨svs,I,J⟩:=CpxO.of T (fun s hs=>by have:=E.2 s hs;omega);exact⟨v,svs,K,O,I,J,H⟩
theorem KidO.of {w2 w3 wx:World}{B:Nat}{tv uv:Value}{ns ns2:List Nv}{n:Nat}(ht:Tr w2 B tv ns)(hu:Tr w3 w2.heap.size uv ns2)(hx:Tr wx B tv ns)(hy:Tr wx w2.heap.size uv ns2)(hn:ns.length=n)(hn2:ns2.length=n)(hB:B<=w2.heap.size)(h23:w2.heap.size<=w3.heap.size)(hk:∀p∈ns,p.1.kids.length<=4194304)(hk2:∀p∈ns2,p.1.kids.length<=4194304):
  KidO B w3.heap.size wx (kl2 (ns.map Prod.snd) (ns2.map Prod.snd) n):=by
 have at':∀{ms:List Nv} {j:Nat} {x:Value},(ms.map Prod.snd)[j]?=some x-> ∃p,ms[j]?=some p/\p.2=x:=fun {ms j x} h=>by
  rw[List.getElem?_map,Option.map_eq_some_iff]at h;exact h
 have tl:∀p∈ns,Lies B w2.heap.size p.2:=fun p E q hq=>by
  obtain⟨_,_,-,-,-,J,-⟩:=ht.kids p E;have:=J q hq;omega
 have ul:∀p∈ns2,Lies w2.heap.size w3.heap.size p.2:=fun p E q hq=>by
  obtain⟨_,_,-,-,-,J,-⟩:=hu.kids p E;have:=J q hq;omega
 refine⟨fun x hx'=> ?_,Bu (fun i j x y hi hj hij q hq e=> ?_) (fun i j x y hi hj hij q hq e=> ?_) (fun x hx' y hy'=> ?_) n (by rw[List.length_map,hn];exact Nat.le_refl _) (by rw[List.length_map,hn2];exact Nat.le_refl _)⟩
 ·rcases kl2_mem hx' (by rw[List.length_map,hn];exact Nat.le_refl _) (by rw[List.length_map,hn2];exact Nat.le_refl _) with ⟨j,-,hj⟩|⟨j,-,hj⟩
  ·obtain⟨p,E,rfl⟩:=at' hj
   have I:=List.mem_of_getElem? E;obtain⟨_,_,-,-,-,-,-,K⟩:=hx.kids p I;exact⟨⟨_,_,by have:=hk p I;omega,K⟩,fun q hq=>by have:=tl p I q hq;omega⟩
  ·obtain⟨p,E,rfl⟩:=at' hj
   have I:=List.mem_of_getElem? E;obtain⟨_,_,-,-,-,-,-,K⟩:=hy.kids p I;exact⟨⟨_,_,by have:=hk2 p I;omega,K⟩,fun q hq=>by have:=ul p I q hq;omega⟩
 ·obtain⟨p,E,rfl⟩:=at' hi
  obtain⟨p2,H,rfl⟩:=at' hj;exact hij (ht.apart i j p p2 q E H hq e)
 ·obtain⟨p,E,rfl⟩:=at' hi
  obtain⟨p2,H,rfl⟩:=at' hj;exact hij (hu.apart i j p p2 q E H hq e)
 ·obtain⟨p,E,rfl⟩:=List.mem_map.1 hx'
  obtain⟨p2,H,rfl⟩:=List.mem_map.1 hy';exact(tl p E).ap (ul p2 H) (Nat.le_refl _)
theorem Qm7 {ls:Nat->List Value}{w:World}{va vb cv dv tv uv:Value}{csA csB:List (Bool×Value)}{svC svD K:List Value}{H0 m k1 a0 a1 b0 b1 c0 c1 d0 d1:Nat}
  (e0:ls 0=csA.map Prod.snd++csB.map Prod.snd) (e1:ls 1=[va,vb]) (e2:ls 2=K++kl2 svC svD m) (hA:MatO a0 a1 w va csA) (hB:MatO b0 b1 w vb csB) (hC:CpxO c0 c1 w cv svC) (hD:CpxO d0 d1 w dv svD)
  (hK:∀x∈K,Lies H0 k1 x/\Apv x tv/\Apv x uv) (ht:Lies H0 k1 tv) (hu:Lies H0 k1 uv) (o1:k1<=a0) (o2:a1<=b0) (o3:b1<=c0) (o4:c1<=d0) (oa:a0<=a1) (ob:b0<=b1) (oc:c0<=c1) (o0:H0<=k1) (hm1:m<=svC.length) (hm2:m<=svD.length):
  ∀x∈ls 0++ls 1++ls 2,Apv x tv/\Apv x uv/\Apv x cv/\Apv x dv/\ ∀q,x.ownBlock=some q->H0<=q:=fun x E=>by
 have I:Lies a0 b1 x->Apv x tv/\Apv x uv/\Apv x cv/\Apv x dv/\ ∀q,x.ownBlock=some q->H0<=q:=fun h=>
  ⟨(ht.ap h (by omega)).symm,(hu.ap h (by omega)).symm,h.ap hC.lv o3,h.ap hD.lv (by omega),fun q hq=>by have:=h q hq;omega⟩
 rw[e0,e1,e2]at E;rcases List.mem_append.1 E with E|E
 ·rcases List.mem_append.1 E with E|E
  ·rcases List.mem_append.1 E with E|E
   ·obtain⟨c,O,rfl⟩:=List.mem_map.1 E
    exact I fun q hq=>by have:=hA.lc c O q hq;omega
   ·obtain⟨c,O,rfl⟩:=List.mem_map.1 E
    exact I fun q hq=>by have:=hB.lc c O q hq;omega
  ·rcases List.mem_cons.1 E with rfl|E
   ·exact I fun q hq=>by have:=hA.lv q hq;omega
   ·have E:=List.mem_singleton.1 E
    exact I fun q hq=>by rw[E]at hq;have:=hB.lv q hq;omega
 ·rcases List.mem_append.1 E with E|E
  ·obtain⟨H,U,Z⟩:=hK x E
   exact⟨U,Z,H.ap hC.lv (by omega),H.ap hD.lv (by omega),fun q hq=>(H q hq).1⟩
  ·rcases kl2_mem E hm1 hm2 with ⟨j,-,T⟩|⟨j,-,T⟩
   ·have J:=List.mem_of_getElem? T
    have H:=hC.le x J;exact⟨(ht.ap H (by omega)).symm,(hu.ap H (by omega)).symm,hC.ve x J,H.ap hD.lv o4,fun q hq=>by have:=H q hq;omega⟩
   ·have J:=List.mem_of_getElem? T
    have H:=hD.le x J;exact⟨(ht.ap H (by omega)).symm,(hu.ap H (by omega)).symm,(hC.lv.ap H o4).symm,hD.ve x J,fun q hq=>by have:=H q hq;omega⟩
theorem BFr.toBelow {vs:List Value}{B:Nat}{w a b:World}(h:BFr vs a b)(hv:∀x∈vs,∀q,x.ownBlock=some q->B<=q)(hb:Below B w a)(hB:B<=a.heap.size):Below B w b:=
 ⟨h.os.trans hb.os,h.tape.trans hb.tape,h.output.trans hb.output,Nat.le_trans hb.size h.size,fun k hk=>(h.block k (Nat.lt_of_lt_of_le hk hB) fun x hx e=>by have:=hv x hx k e;omega).trans (hb.block k hk)⟩
theorem PF.toBelow {P:Nat->Prop}{B:Nat}{w a b:World}(h:PF P a b)(hP:∀k,P k->B<=k)(hb:Below B w a)(hB:B<=a.heap.size):Below B w b:=
 ⟨h.os.trans hb.os,h.tape.trans hb.tape,h.output.trans hb.output,Nat.le_trans hb.size h.size,fun k hk=>(h.block k (Nat.lt_of_lt_of_le hk hB) fun e=>by have:=hP k e;omega).trans (hb.block k hk)⟩
theorem BFr.own {vs:List Value}{a b:World}{B z n:Nat}{t:TypeId}{v:Value}{xs:List Value}(h:BFr vs a b)(ho:a.ownsRow B t z v n xs)(hv:∀x∈vs,Apv x v):b.ownsRow B t z v n xs:=
 Zf ho fun q hq hl=>h.block q hl fun x hx e=>hv x hx q e hq
theorem BkS.re {P P':Nat->Prop}{w:World}{G:Nat}{row:Nat->Value}{ls:Nat->List Value}(h:BkS P w G row ls)(hp:∀k,P k->k<w.heap.size->P' k)(hn:∀o,o<3-> ∀x∈ls o,∀q,x.ownBlock=some q-> ¬P' q):BkS P' w G row ls:=
 ⟨h.blk,h.own,hp G h.pg h.lt,fun o ho q hq=>⟨hp q (h.pr o ho q hq).1 (World.ownsRow.lt (h.own o ho) q hq).2,(h.pr o ho q hq).2⟩,h.pd,hn⟩
def PA (G H:Nat)(k:Nat):Prop:=k=G\/H<=k
def PB (G H1 H2 H3:Nat)(k:Nat):Prop:=k=G\/(H1<=k/\k<H2)\/H3<=k
theorem Bd {t':List SynP.Node}{ns:List Nv}(h:ns.map Prod.fst=t')(hk:∀x∈SynP.nL t',x.kids.length<=4194304):∀p∈ns,p.1.kids.length<=4194304:=fun p hp=>by
 have E:p.1∈t':=by rw[<-h];exact List.mem_map_of_mem hp
 have H:=hk _ (List.mem_map_of_mem E)
 simpa [SynP.Node.toI] using H
structure SHF (w w3 wr wa1 wa wb1 wb wc wd wf:World) (G H1 n B1:Nat) (tv uv va vb cv dv rb cb:Value) (ct cu:List Value) (csA csB:List (Bool×Value)) (svC svD K:List Value):Prop where
 key:∀wx,PF (PB G H1 wr.heap.size wf.heap.size) wf wx->MatO wr.heap.size wa1.heap.size wx va csA/\MatO wa.heap.size wb1.heap.size wx vb csB/\CpxO wb.heap.size wc.heap.size wx cv svC/\CpxO wc.heap.size wd.heap.size wx dv svD/\KidO w.heap.size w3.heap.size wx K/\
  (wx.cell? ⟨B1,0,none⟩=some rb/\wx.cell? ⟨B1,1,none⟩=some cb/\wx.cell? ⟨B1,2,none⟩=some vb)/\
  wx.ownsRow 0 43 3 tv n ct/\wx.ownsRow 0 43 3 uv n cu/\(∀k,wx.heap.size<=k->PB G H1 wr.heap.size wf.heap.size k)
 kp:∀x∈K,Lies w.heap.size w3.heap.size x/\Apv x tv/\Apv x uv
 lt:Lies w.heap.size w3.heap.size tv/\Lies w.heap.size w3.heap.size uv/\Apv tv uv
 pb:∀k,PB G H1 wr.heap.size wf.heap.size k->w.heap.size<=k
 ord:w3.heap.size<=wr.heap.size/\wa1.heap.size<=wa.heap.size/\wb1.heap.size<=wb.heap.size/\wr.heap.size<=wa1.heap.size/\wa.heap.size<=wb1.heap.size/\wb.heap.size<=wc.heap.size/\wc.heap.size<=wd.heap.size/\w.heap.size<=w3.heap.size
 sA:∀c∈csA,(∃xo xl xcap,c.2=.slice xo xl xcap)/\ ∀q,c.2.ownBlock=some q-> ¬PB G H1 wr.heap.size wf.heap.size q
 sB:∀c∈csB,(∃xo xl xcap,c.2=.slice xo xl xcap)/\ ∀q,c.2.ownBlock=some q-> ¬PB G H1 wr.heap.size wf.heap.size q
 vA:∀q,va.ownBlock=some q-> ¬PB G H1 wr.heap.size wf.heap.size q
 vB:∀q,vb.ownBlock=some q-> ¬PB G H1 wr.heap.size wf.heap.size q
 eC:∀s∈svC,(∃xo xl xcap,s=.slice xo xl xcap)/\ ∀q,s.ownBlock=some q-> ¬PB G H1 wr.heap.size wf.heap.size q
 eD:∀s∈svD,(∃xo xl xcap,s=.slice xo xl xcap)/\ ∀q,s.ownBlock=some q-> ¬PB G H1 wr.heap.size wf.heap.size q
 book:∀(row:Nat->Value) (ls:Nat->List Value),BkS (PA G H1) wr G row ls->ls 0=[]->ls 1=[]->ls 2=K->BkS (PB G H1 wr.heap.size wf.heap.size) wf G row ls
theorem Qy2 {w w2 w3 wr wa1 wa wb1 wb wc wd wf:World}{G H1 n B1:Nat}{tv uv va vb cv dv rb cb:Value}{ns ns2:List Nv}{csA csB:List (Bool×Value)}{svC svD K:List Value}
  (s02:w.heap.size<=w2.heap.size) (s23:w2.heap.size<=w3.heap.size) (s3G:w3.heap.size<=G) (sGH:G<H1) (sHr:H1<=wr.heap.size)
  (bA:Below wr.heap.size wr wa1) (aA:Below wa1.heap.size wa1 wa) (bB:Below wa.heap.size wa wb1) (aB:Below wb1.heap.size wb1 wb) (bC:Below wb.heap.size wb wc) (bD:Below wc.heap.size wc wd) (bF:Below wd.heap.size wd wf)
  (mA:MatO wr.heap.size wa1.heap.size wa1 va csA) (mB:MatO wa.heap.size wb1.heap.size wb1 vb csB) (mC:CpxO wb.heap.size wc.heap.size wc cv svC) (mD:CpxO wc.heap.size wd.heap.size wd dv svD)
  (ht2:Tr w2 w.heap.size tv ns) (hu3:Tr w3 w2.heap.size uv ns2) (htw:Tr wr w.heap.size tv ns) (huw:Tr wr w2.heap.size uv ns2) (hKe:K=kl2 (ns.map Prod.snd) (ns2.map Prod.snd) n) (hn:ns.length=n) (hn2:ns2.length=n)
  (hkk:∀p∈ns,p.1.kids.length<=4194304) (hkk2:∀p∈ns2,p.1.kids.length<=4194304) (hbx:wb.heap[B1]?=some (.cells #[rb,cb,vb] 47 (0,0))) (hB1:B1=wb1.heap.size):
  SHF w w3 wr wa1 wa wb1 wb wc wd wf G H1 n B1 tv uv va vb cv dv rb cb (Yw ns) (Yw ns2) csA csB svC svD K:=by
 have z1:=bA.size;have z2:=aA.size;have z3:=bB.size;have z4:=aB.size;have z5:=bC.size;have z6:=bD.size;have z7:=bF.size;have a2:Below wr.heap.size wr wf:=Qj bA (Qj aA (Qj bB (Qj aB (Qj bC (Qj bD bF)))))
 have a0:KidO w.heap.size w3.heap.size wr K:=by
  rw[hKe];exact KidO.of ht2 hu3 htw huw hn hn2 s02 s23 hkk hkk2
 have U:∀wx,PF (PB G H1 wr.heap.size wf.heap.size) wf wx-> ∀q,wr.heap.size<=q->q<wf.heap.size->wx.heap[q]?=wf.heap[q]? :=fun wx hf q h4 Z=>
  hf.block q Z (by rintro (h|h|h)<;>omega)
 have a5:∀wx,PF (PB G H1 wr.heap.size wf.heap.size) wf wx-> ∀q,q<G->wx.heap[q]?=wf.heap[q]? :=fun wx hf q h4=>
  hf.block q (by omega) (by rintro (h|h|h)<;>omega)
 have fA:Below wa1.heap.size wa1 wf:=Qj aA (Qj bB (Qj aB (Qj bC (Qj bD bF))));have fB:Below wb1.heap.size wb1 wf:=Qj aB (Qj bC (Qj bD bF));have a7:Below wb.heap.size wb wf:=Qj bC (Qj bD bF);have fC:Below wc.heap.size wc wf:=Qj bD bF;have O:=mA.keep (w':=wf) fun q _ H _=>fA.block q H;have T:=mB.keep (w':=wf) fun q _ H _=>fB.block q H;have a3:=mC.keep (w':=wf) fun q _ H _=>fC.block q H;have a4:=mD.keep (w':=wf) fun q _ H _=>bF.block q H;have a8:=a0.keep (w':=wf) fun q _ _ hl=>a2.block q hl
 have I:∀q,wr.heap.size<=q->q<wf.heap.size-> ¬PB G H1 wr.heap.size wf.heap.size q:=fun q E H=>by rintro (h|h|h)<;>omega
 refine⟨fun wx hf=> ?_,fun x hx=> ?_,?_,fun k hk=> ?_,by omega,fun c hc=> ?_,fun c hc=> ?_,fun q hq=>I q (by have:=O.lv q hq;omega) (by have:=O.lv q hq;omega),fun q hq=>I q (by have:=T.lv q hq;omega) (by have:=T.lv q hq;omega),fun s hs=> ?_,fun s hs=> ?_,fun row ls hb h0 E H=> ?_⟩
 ·refine⟨O.keep fun q E H _=>U wx hf q E (by omega),T.keep fun q E H _=>U wx hf q (by omega) (by omega),a3.keep fun q E H _=>U wx hf q (by omega) (by omega),a4.keep fun q E H _=>U wx hf q (by omega) (by omega),a8.keep fun q _ H _=>a5 wx hf q (by omega),?_,?_,?_,fun k hk=> .inr (.inr (by have:=hf.size;omega))⟩
  ·have hl:B1<wb.heap.size:=(Array.getElem?_eq_some_iff.1 hbx).1
   have E:=(U wx hf B1 (by omega) (by omega)).trans ((a7.block B1 hl).trans hbx);exact⟨(cell_of_row _ _ _ _ _ _ E).trans rfl,(cell_of_row _ _ _ _ _ _ E).trans rfl,(cell_of_row _ _ _ _ _ _ E).trans rfl⟩
  ·have E:=htw.own
   rw[hn]at E;refine Zf (Tm E fun q _=>Nat.zero_le _) fun q hq hl=> ?_;have H:=(World.ownsRow.lt ht2.own q hq).2;exact(a5 wx hf q (by omega)).trans (a2.block q hl)
  ·have E:=huw.own
   rw[hn2]at E;refine Zf (Tm E fun q _=>Nat.zero_le _) fun q hq hl=> ?_;have H:=(World.ownsRow.lt hu3.own q hq).2;exact(a5 wx hf q (by omega)).trans (a2.block q hl)
 ·refine⟨(a0.1 x hx).2,?_⟩
  rw[hKe]at hx;rcases kl2_mem hx (by rw[List.length_map,hn];exact Nat.le_refl _) (by rw[List.length_map,hn2];exact Nat.le_refl _) with ⟨j,-,hj⟩|⟨j,-,hj⟩
  ·rw[List.getElem?_map,Option.map_eq_some_iff]at hj
   obtain⟨p,hp,rfl⟩:=hj;obtain⟨_,_,-,-,-,Z,-⟩:=ht2.kids p (List.mem_of_getElem? hp);refine⟨fun q hq e=>(Z q hq).2.2 e,fun q hq e=> ?_⟩;have h6:=(World.ownsRow.lt hu3.own q e).1;have h7:=(Z q hq).2.1;omega
  ·rw[List.getElem?_map,Option.map_eq_some_iff]at hj
   obtain⟨p,hp,rfl⟩:=hj;obtain⟨_,_,-,-,-,Z,-⟩:=hu3.kids p (List.mem_of_getElem? hp);refine⟨fun q hq e=> ?_,fun q hq e=>(Z q hq).2.2 e⟩;have h6:=(World.ownsRow.lt ht2.own q e).2;have h7:=(Z q hq).1;omega
 ·refine⟨fun q hq=> ?_,fun q hq=> ?_,fun q hq e=> ?_⟩
  ·have:=World.ownsRow.lt ht2.own q hq;omega
  ·have:=World.ownsRow.lt hu3.own q hq;omega
  ·have E:=(World.ownsRow.lt ht2.own q hq).2
   have H:=(World.ownsRow.lt hu3.own q e).1;omega
 ·rcases hk with h|h|h<;>omega
 ·obtain⟨xs,-,J⟩:=O.oc c hc
  obtain⟨o1,o2,o3,-⟩:=Qn J;exact⟨⟨_,_,_,o3⟩,fun q hq=>by have:=O.lc c hc q hq;exact I q (by omega) (by omega)⟩
 ·obtain⟨xs,-,J⟩:=T.oc c hc
  obtain⟨o1,o2,o3,-⟩:=Qn J;exact⟨⟨_,_,_,o3⟩,fun q hq=>by have:=T.lc c hc q hq;exact I q (by omega) (by omega)⟩
 ·obtain⟨_,_,-,J⟩:=a3.oe s hs
  obtain⟨o1,o2,o3,-⟩:=Qn J;exact⟨⟨_,_,_,o3⟩,fun q hq=>by have:=a3.le s hs q hq;exact I q (by omega) (by omega)⟩
 ·obtain⟨_,_,-,J⟩:=a4.oe s hs
  obtain⟨o1,o2,o3,-⟩:=Qn J;exact⟨⟨_,_,_,o3⟩,fun q hq=>by have:=a4.le s hs q hq;exact I q (by omega) (by omega)⟩
 ·refine(hb.re (fun k hk hlt=> ?_) (fun o J x hx q hq hp=> ?_)).below a2
  ·rcases hk with h|h
   ·exact .inl h
   ·exact .inr (.inl ⟨h,hlt⟩)
  ·match o,J with
   |0,_=>rw[h0]at hx;cases hx
   |1,_=>rw[E]at hx;cases hx
   |2,_=>
    rw[H]at hx;have h3:=(a0.1 x hx).2 q hq
    rcases hp with h|h|h<;>omega
theorem ln_w:LnOk Vx:=N7 _ _ _ fun e h=>by
 rcases List.mem_cons.1 h with h|h
 ·rw[h]
  exact Aj _ (Av _ _ (F8 _ (F7 _)))
 ·cases h
theorem Qxp:SynP.Xk SynP.WV (SynP.nL Vx.flat).length 0 [] (SynP.nL Vx.flat)=true:=by
 rw[Kj]
 kernel_rfl
theorem Qku (w:World)(hx:Lx w)(hs:SG w)(hsz:4<w.heap.size):∀x∈SynP.nL Vx.flat,∀kv w',Below w.heap.size w w'->Calls Tryz.prog 101 #[.agg #[.int .i64 x.op,.string ⟨x.text.toArray⟩,kv]] w' (Uw x.op x.text w'):=by
 intro x h kv w' E;rw[Kj]at h;simp only[List.mem_cons,List.not_mem_nil,or_false]at h;rcases h with rfl|rfl|rfl|rfl|rfl
 ·exact Uk 2 (.inl rfl) [65] kv w' (by decide) (hx.below E)
 ·exact To 5 (by decide) (by decide) (by decide) (by decide) (by decide) (by decide) (by decide) (by decide) [] kv w'
 ·exact Pe 9 (.inr rfl) [50] kv w' fun w2 hb2=>Ph [50] w2 (by decide) (hs.below (Qj E hb2) hsz) (Nat.lt_of_lt_of_le hsz (Qj E hb2).size) (by decide) (by decide)
 ·exact To 4 (by decide) (by decide) (by decide) (by decide) (by decide) (by decide) (by decide) (by decide) [] kv w'
 ·exact Gr [112,114,105,110,116] kv w' (by decide) (hx.below E)
theorem Qga (v:Value)(w:World)(hv:NdL w w.heap.size v (SynP.nL Vx.flat))(hx:Lx w)(hs:SG w)(hsz:4<w.heap.size):
  Calls Tryz.prog 14 #[v] w (Ky Vx w):=
 Au Vx v w w.heap.size (by decide) (by rw[Qj1];decide) ln_w Qxp (By v _ w w.heap.size (by rw[Kj];decide) (Qku w hx hs hsz) hv (Nat.le_refl _)) hv (Nat.le_refl _)
theorem Qmg (w:World)(hx:Lx w)(hs:SG w)(hsz:4<w.heap.size):
  Calls Tryz.prog 12 #[] w fun e w'=>e=.returned (.bool true)/\Below w.heap.size w w':=by
 have HX:=zq hx;have HS:=zq hs;have HP:=zq (Qgn w hx hs hsz);clear hx hs;go_enter Tryz.func12,Tryz.ntmps12;go_wp2_with fail;refine HP.o.mono ?_;rintro e w1 hn;obtain⟨nv,ns,rfl,hb,htr,hfl⟩:=hn;have hnd:=htr.ndl;rw[hfl]at hnd;have HND:=zq hnd;have HB:=zq hb;obtain⟨ao,cap,rfl,h1,h2,hc⟩:=hnd;rw[Kj]at h1 hc ⊢;obtain⟨g,rfl,hg,hc⟩:=hc (by decide);obtain⟨e0,-,-⟩:=hc 3 _ rfl;obtain⟨-,e1,-⟩:=hc 2 _ rfl;have e0:w1.cell? ⟨g,9,none⟩=some (.int .i64 4):=e0;have e1:w1.cell? ⟨g,7,none⟩=some (.string ⟨#[50]⟩):=e1;have HPR:=zq (Qga (.slice (some ⟨g,0,none⟩) 5 cap) w1 HND.o (HX.o.below hb) (HS.o.below hb hsz) (Nat.lt_of_lt_of_le hsz hb.size));simp only[List.length_cons,List.length_nil]at h1 ⊢;clear hb htr hfl hc;go_wp2_with fail;refine HPR.o.mono ?_;rintro e w2 ⟨h3,hb2⟩
 have hdp:Vx.dp=0:=by decide
 rw[if_neg (by omega),Qj1]at h3;subst h3;have HB2:=zq (Qj HB.o hb2);clear hb2;go_wp2_with fail;go_ret;exact⟨rfl,HB2.o⟩
theorem BkS.new {P:Nat->Prop}{w':World}{G:Nat}(hP:P G)(hw:w'.heap[G]?=some (.cells #[.slice none 0 0,.slice none 0 0,.slice none 0 0] 40 (0,0))):BkS P w' G (fun _=> .slice none 0 0) (fun _=>[]):=
 ⟨hw,fun o _=>World.ownsRow_nil _ _ _ _,hP,fun o _ q hq=>by simp[Value.ownBlock]at hq,fun o p _ _ _ q hq=>by simp[Value.ownBlock]at hq,fun o _ x hx=>by simp at hx⟩
def paN (t:Qx):List SynP.Node:=match SynP.Yf t with| .error _=>[]| .ok n=>n.flat
def paC (t:Qx):Nat:=match SynP.Yf t with| .error (c,_)=>c| .ok _=>0
def paE (t:Qx):Nat:=match SynP.Yf t with| .error (_,k)=>k| .ok _=>0
theorem PaP.both {t:Qx}{w w':World}{e:Ending}(h:PaP t w e w'):∃nv ns,e=.returned (.tuple #[nv,.int .i64 (paC t:Nat),.int .i64 (paE t:Nat)])/\Below w.heap.size w w'/\Tr w' w.heap.size nv ns/\ns.map Prod.fst=paN t:=by
 unfold PaP at h;unfold paN paC paE;rcases hV:SynP.Yf t with ⟨c,k⟩|n
 ·rw[hV]at h
  obtain⟨rfl,E⟩:=h;exact⟨_,[],rfl,E,⟨World.ownsRow_nil _ _ _ _,fun p hp=>(by cases hp),fun i j p q k hi=>(by simp at hi)⟩,rfl⟩
 ·rw[hV]at h
  obtain⟨nv,ns,rfl,E,I,H⟩:=h;exact⟨nv,ns,rfl,E,I,H⟩
theorem Qgd {t:Qx}(ht:t.length<=1048576):(paN t).length<=4096/\ ∀x∈SynP.nL (paN t),x.kids.length<=4194304:=by
 unfold paN;rcases hV:SynP.Yf t with ⟨c,k⟩|n
 ·exact⟨Nat.zero_le _,fun x hx=>by simp[SynP.nL]at hx⟩
 ·have h:=He hV ht
  exact⟨by show n.flat.length<=4096;rw[Rq];exact h.size,Qwd h⟩
theorem Qv6 (t:Qx)(ht:t.length<=1048576)(v:Value)(w:World)(hv:NdL w w.heap.size v (SynP.nL (paN t)))(hx:Lx w)(hs:SG w)(hsz:4<w.heap.size):
  Calls Tryz.prog 14 #[v] w fun e w'=> ∃(s:ByteArray) (f:Nat),e=.returned (.tuple #[.string s,.int .i64 (f:Nat)])/\Below w.heap.size w w'/\(paE t=0->f=0/\(s.data.toList=[]-> ∃x y,(SynP.nL (paN t))=x::y/\x.op=14)):=by
 rcases hV:SynP.Yf t with ⟨c,k⟩|n
 ·have e1:paN t=[]:=by unfold paN;rw[hV]
  have e2:paE t=k:=by unfold paE;rw[hV]
  rw[e1]at hv;refine(Qv5 [] v w w.heap.size (Nat.zero_le _) rfl (fun x hx=>by cases hx) hv (Nat.le_refl _) hx hs hsz).mono ?_;rintro e w' ⟨rfl,H⟩;refine⟨_,10,rfl,H,fun h=> ?_⟩;have:=SynP.D9 hV;omega
 ·have e1:paN t=n.flat:=by unfold paN;rw[hV]
  have K:=He hV ht;have I:=(Ng hV).2.1;rw[e1]at hv;refine(Qx2 n v w w.heap.size K hv (Nat.le_refl _) hx hs hsz).mono ?_;rintro e w' ⟨J,H⟩;rw[if_neg (by omega)]at J;refine⟨_,0,J,H,fun _=>⟨rfl,fun h0=> ?_⟩⟩;have E:=Qv2 K I
  have O:n.pr=[]:=by simpa using h0
  rw[O]at E
  have T:SynP.Yf []=.ok .nothing:=by rfl
  rw[T]at E
  cases E
  rw[e1];exact⟨_,[],rfl,rfl⟩
theorem CtO.own {l:List SynP.NI}{w wr:World}(h:CtO l w (.int .i64 (l.length:Nat)) wr)(hm:l.length<=maxLen):∃cs:List Value,wr.ownsRow 0 43 3 (.slice (some ⟨w.heap.size,0,none⟩) l.length l.length) l.length cs/\(∀(j:Nat) (x:SynP.NI),l[j]?=some x->cs[j*3]?=some (.int .i64 x.op)/\cs[j*3+1]?=some (.string ⟨x.text.toArray⟩))/\Below w.heap.size w wr:=by
 obtain⟨i,E,T,I,J,H,K,O⟩:=h;simp only[Value.int.injEq,true_and,Int.ofNat_inj]at I;subst I;refine⟨E.toList,⟨by rw[Array.length_toList,H],.inr ⟨w.heap.size,l.length,E,rfl,Nat.zero_le _,J,Nat.le_refl _,hm,H,List.take_of_length_le (by rw[Array.length_toList,H];exact Nat.le_refl _)⟩⟩,fun j x hj=> ?_,O⟩;obtain⟨a,b,-⟩:=K j x (List.getElem?_eq_some_iff.1 hj).1 hj;exact⟨by rw[Array.getElem?_toList];exact a,by rw[Array.getElem?_toList];exact b⟩
theorem RH.start {w w':World}{G gg rcap n:Nat}{l:List SynP.NI}{cs:List Value}{z:Value}(ho:w.ownsRow 0 43 3 (.slice (some ⟨gg,0,none⟩) (n+1) rcap) (n+1) (cs++[.int .i64 77,.string ⟨#[109,97,114,107]⟩,z]))(hc:cs.length=n*3)(hcs:∀(j:Nat) (x:SynP.NI),l[j]?=some x->cs[j*3]?=some (.int .i64 x.op)/\cs[j*3+1]?=some (.string ⟨x.text.toArray⟩))(hl:l.length=n)(hG:G<gg)
  (hb:Below w.heap.size w w') {hcur:Array Value} (hh:w'.heap[w.heap.size]?=some (.cells hcur 41 (0,0))) (hhn:hcur.size=n):RH w' G gg w.heap.size rcap n l 0 []/\n+1<=rcap/\rcap<=maxLen:=by
 have J:=(World.ownsRow.lt ho gg rfl).2;rcases ho.2 with ⟨e,-⟩|⟨g,K,E,e,-,I,r1,r2,r3,r4⟩
 ·cases e
 ·cases e
  have h:∀j u,(cs++[.int .i64 77,.string ⟨#[109,97,114,107]⟩,z])[j]?=some u->E[j]?=some u:=fun j u hj=>by
   have H:=(List.getElem?_eq_some_iff.1 hj).1;rw[<-r4,List.length_take]at H;rw[<-r4,List.getElem?_take,if_pos (by omega),Array.getElem?_toList]at hj;exact hj
  refine⟨⟨⟨E,(hb.block gg J).trans I,by omega,h _ _ (by rw[List.getElem?_append_right (by omega),hc,Nat.sub_self];rfl),h _ _ (by rw[List.getElem?_append_right (by omega),hc,Nat.add_sub_cancel_left];rfl),fun j x hj=> ?_,fun j x p _ hp=>by simp at hp⟩,⟨hcur,hh,hhn,fun j x p _ hp=>by simp at hp⟩,fun j x p _ hp=>by simp at hp,rfl,fun p hp=>by simp at hp,hl,hG,by omega,by omega⟩,r1,r2⟩;obtain⟨a,b⟩:=hcs j x hj;have H:=(List.getElem?_eq_some_iff.1 hj).1;exact⟨h _ _ (by rw[List.getElem?_append_left (by omega)];exact a),h _ _ (by rw[List.getElem?_append_left (by omega)];exact b)⟩
def KpL (w5:World)(G gg gh rcap n:Nat)(l:List SynP.NI)(iv:Value)(wr:World):Prop:=∃(i:Nat) (qs:List (Nat×Nat)),iv=.int .i64 (i:Nat)/\i<=n/\RH wr G gg gh rcap n l i qs/\Below w5.heap.size w5 wr
theorem Cp (T1 T2 T3:ByteArray)(w:World)(h1:T1.size<=1048576)(h2:T2.size<=1048576)(h3:T3.size<=1048576)(hx:Lx w)(hs:SG w)(hsz:4<w.heap.size):
  Calls Tryz.prog 6 #[.string T1,.string T2,.string T3] w fun e w'=>e=.returned (.bool true)/\Below w.heap.size w w':=by
 obtain⟨i0,hi,hz0,hz1,hz2⟩:=info_parts Tryz.infoNd;obtain⟨j0,hj,hk0,hk1,hk2⟩:=info_parts Tryz.infoInt;have HW:=zq (Qmg w hx hs hsz);have HXW:Hid (∀wx,Below w.heap.size w wx->Lx wx/\SG wx/\4<wx.heap.size):=fun wx hb=>⟨hx.below hb,hs.below hb hsz,Nat.lt_of_lt_of_le hsz hb.size⟩
 have hsl2:T1.data.toList.length<=1048576:=by rw[<-Lib.size_eq];exact h1
 have HSL:=zq hsl2;obtain⟨hfn,hfk⟩:=Qgd hsl2;obtain⟨l,hl⟩:=xq (SynP.nL (paN T1.data.toList))
 have hll:l.length=(paN T1.data.toList).length:=by rw[hl];simp[SynP.nL]
 rw[<-hl]at hfk;obtain⟨n,hn⟩:=xq l.length
 have hn4:n<=4096:=by omega
 obtain⟨ek,hek⟩:=xq (paE T1.data.toList);obtain⟨ec,hec⟩:=xq (paC T1.data.toList);have HL:=zq hl;have HLL:=zq hll;have HN:=zq hn;have HFK:=zq hfk;have HEK:=zq hek;have HEC:=zq hec;clear hx hs hsz hsl2 hfn hfk hl hll hn hek hec;go_enter Tryz.func6,Tryz.ntmps6;go_wp2_with fail;refine HW.o.mono ?_;rintro e w1 ⟨rfl,hb1⟩;obtain⟨x1,s1,z1⟩:=HXW.o w1 hb1;have HP:=zq (Ej T1 w1 (by show _<=_;have:=HSL.o;omega) x1 s1 z1);have HB1:=zq hb1;clear x1 s1 z1 hb1 HW;go_wp2_with fail;refine HP.o.mono ?_;intro e w2 hq;obtain⟨tv,ns,rfl,hb2,htr,hns⟩:=hq.both;rw[<-HEK.o,<-HEC.o];have HB2:=zq (Qj HB1.o hb2);obtain⟨x2,s2,z2⟩:=HXW.o w2 HB2.o;have HP2:=zq (Ej T1 w2 (by show _<=_;have:=HSL.o;omega) x2 s2 z2);have HNS:=zq hns
 have hnn:ns.length=n:=by rw[HN.o,HLL.o,<-hns,List.length_map]
 have HNN:=zq hnn;have HT2:=zq (show Tr w2 w.heap.size tv ns from ⟨Vn htr.own HB1.o.size,fun p hp=>(htr.kids p hp).low HB1.o.size,htr.apart⟩);obtain⟨tO,tcap,etv,-⟩:=Qn htr.own;rw[hnn]at etv;subst etv;clear hq hb2 x2 s2 z2 htr hns hnn HP;go_wp2_with fail;refine HP2.o.mono ?_;intro e w3 hq;obtain⟨uv,ns2,rfl,hb3,htr,hns⟩:=hq.both;rw[<-HEK.o,<-HEC.o];have HB3:=zq (Qj HB2.o hb3);have HB23:=zq hb3;have HT3:=zq (HT2.o.below hb3);have HNS2:=zq hns
 have hnn:ns2.length=n:=by rw[HN.o,HLL.o,<-hns,List.length_map]
 have HNN2:=zq hnn;have HU3:=zq htr;obtain⟨uo,ucap,euv,-⟩:=Qn htr.own;rw[hnn]at euv;subst euv;have hnd:=HT3.o.ndl;rw[HNS.o,<-HL.o]at hnd;have HNT:=zq (hnd.nda (Nat.le_refl _));have hnd:=htr.ndl;rw[hns,<-HL.o]at hnd;have HNU:=zq (hnd.nda (Nat.le_refl _));clear hq hb3 htr hns hnn hnd HP2;go_wp2_with fail;refine(Qk8 (.slice tO n tcap) l w3 (by rw[<-HN.o];omega) HFK.o HNT.o).mono ?_;rintro e w4 ⟨u4,rfl,hn4',hb4⟩;have HB4:=zq (Qj HB3.o hb4);have HK4:=zq hn4';obtain⟨ko,kcap,ek4,-⟩:=id hn4';rw[<-HN.o]at ek4;subst ek4;have HNT4:=zq (HNT.o.below hb4);have HNU4:=zq (HNU.o.below hb4);have HB34:=zq hb4;clear hn4' hb4;go_wp2_with fail;refine(Gw (.slice tO n tcap) (.slice uo n ucap) l w4 HNT4.o HNU4.o).mono ?_;rintro e w5 ⟨rfl,hq5⟩
 have hb45:Below w4.heap.size w4 w5:=by obtain⟨m,rfl⟩:=hq5;exact below_drewN w4 m
 have HB45:=zq hb45;have HB5:=zq (Qj HB4.o hb45);have HB35:=zq (Qj HB34.o hb45);obtain⟨G,hG⟩:=xq w5.heap.size;obtain⟨w6,hw6⟩:=xq (w5.alloc (.cells #[.slice none 0 0,.slice none 0 0,.slice none 0 0] 40))
 have HBK6:Hid (w6.heap[G]?=some (.cells #[.slice none 0 0,.slice none 0 0,.slice none 0 0] 40 (0,0))):=by show _=_;rw[hw6,hG];exact heap_alloc_new w5 _
 have hb56:Below w5.heap.size w5 w6:=by rw[hw6];exact Qq _ _
 have hG6:G+1=w6.heap.size:=by rw[hw6,hG];simp
 have HB56:=zq hb56;have HB6:=zq (Qj HB5.o hb56);have HB36:=zq (Qj HB35.o hb56);have HG6:=zq hG6;have HGG:=zq hG;clear hq5 hb45 hb56;go_wp2_with fail;rw[<-hw6,<-hG];clear hw6 hG hG6;refine(Fb (.slice tO n tcap) l w6 (by rw[<-HN.o];omega) HFK.o (HNT.o.below HB36.o)).mono ?_;rintro e w7 ⟨rfl,hct⟩;obtain⟨cs,c1,c2,hb7⟩:=hct.own (by rw[<-HN.o];unfold maxLen;omega);rw[<-HN.o]at c1 ⊢;have HC1:=zq (c1.alloc (.cells #[.int .i64 77,.string ⟨#[109,97,114,107]⟩,.slice none 0 0] 43));have HCL:=zq c1.1;have HC2:=zq c2;have HB67:=zq hb7;clear hct c1 c2 hb7;go_wp2_with (at_builtin;refine wpList_append_lies _ rfl _ _ 23 rfl 0 43 i0 (.agg #[.int .i64 0,.string ⟨#[]⟩,.slice none 0 0]) 3 48 Tryz.underlying23 hi hz0 hz1 hz2 rfl (by omega) _ n cs rfl HC1.o ⟨w7.heap.size,0,none⟩ 1 1 [.int .i64 77,.string ⟨#[109,97,114,107]⟩,.slice none 0 0] rfl rfl (LexP.Qc _ _ _ _ rfl) (by simp[Value.oneCell']) (by omega) (by unfold maxLen;omega) (by omega) (by simp) (w7.heap.size+1) (by simp) ?_);intro gg rcap w8 hown8 hgrow8 hat8 hlt8;have hb68:Below w6.heap.size w6 w8:=Below.grown (HB67.o.alloc HB67.o.size _) hgrow8 (by have:=HB67.o.size;simp;omega) (fun q hq=>by cases hq;exact Nat.le_refl _)
 have hgg6:w6.heap.size<=gg:=by
  rcases hat8 with h|h
  ·cases h;exact Nat.le_refl _
  ·have:=HB67.o.size;omega
 obtain⟨gh,hgh⟩:=xq w8.heap.size;obtain⟨w9,hw9⟩:=xq (w8.alloc (.cells (madeCells #[.slice none 0 0] n) 41))
 have hb89:Below w8.heap.size w8 w9:=by rw[hw9];exact Qq _ _
 obtain⟨hrh,hrc1,hrc2⟩:=RH.start (w':=w9) (G:=G) (l:=l) hown8 HCL.o HC2.o HN.o.symm (by have:=HG6.o;omega) hb89 (by rw[hw9];exact heap_alloc_new w8 _) (by simp[madeCells]);rw[<-hgh]at hrh;have HB69:=zq (Qj hb68 hb89);have HST:Hid (KpL w6 G gg gh rcap n l (.int .i64 0) w9):=⟨0,[],rfl,Nat.zero_le _,hrh,HB69.o⟩;have HMAKE:=run_make_row' (P:=Tryz.prog) 38 41 (.slice none 0 0) 24 Tryz.underlying38 Tryz.infoBk rfl .i64 .i64 n (by omega) (by omega);have HRC1:=zq hrc1;have HRC2:=zq hrc2
 have HGH6:Hid (w6.heap.size<=gh):=by show _<=_;rw[hgh];exact hb68.size
 have HGG6:=zq hgg6;clear hown8 hgrow8 hat8 hlt8 hb68 hgg6 hb89 hrh hrc1 hrc2 HC1 HCL HC2;go_wp2_with fail;rw[<-hw9,<-hgh];clear hw9 hgh HMAKE;go_loopw [17] (fun iv wr=>KpL w6 G gg gh rcap n l iv wr) (fun iv _=>n-(intOf iv).toNat)
 case atStart=>exact HST.o
 clear HST
 case round=>
  obtain⟨i,qs,rfl,hin,hrh,hbl⟩:=hrel;have HRH:=zq hrh;have HBL:=zq hbl;by_cases hlt:i<n
  ·obtain⟨x,hx⟩:∃x,l[i]?=some x:=⟨_,List.getElem?_eq_getElem (by rw[<-HN.o];exact hlt)⟩
   have hkl:=HFK.o x (List.mem_of_getElem? hx);obtain⟨ko',kcap',e,k1,k2,k3⟩:=HK4.o;rw[<-HN.o]at e k1 k3
   cases e
   obtain⟨gk,rfl,hgk,k4⟩:=k3 (by omega);obtain⟨-,-,kv,d2,hkv⟩:=k4 i x hx;have hb4r:Below w4.heap.size w4 wr:=Qj (Qj HB45.o HB56.o) hbl;have hkv2:=(hkv.ka (Nat.le_refl _)).below hb4r;have d3:wr.cell? ⟨gk,i*3+2,none⟩=some kv:=(hb4r.cell (p:=⟨gk,i*3+2,none⟩) hgk).trans d2;obtain⟨so,scap,rfl,-,-,-⟩:=id hkv2;obtain⟨⟨rc,r1,r2,-,-,-,-⟩,⟨hc,hh1,hh2,-⟩,-,-,-,-,-,-,hgne⟩:=id hrh;have HXX:=zq hx;have hgkr:gk<wr.heap.size:=Nat.lt_of_lt_of_le hgk hb4r.size;have HKA:=zq (hkv2.below (Qq wr (.cells #[] 3)));have HNA:=zq (heap_alloc_new wr (.cells #[] 3));have HBA:=zq (Qq wr (.cells #[] 3));have k0:=Ya (Qq wr (.cells #[] 3)) d3;have hi0:(0:Int)<=(i:Int):=Int.natCast_nonneg _
   have hi1:(i:Int)<(n:Int):=by omega
   have hGw:G<w6.heap.size:=by have:=HG6.o;omega
   have hzr:=hbl.size;clear hrh hbl k2 k3 k4 d2 hkv hkv2 r1 r2 hh1 hh2 hx hb4r;go_wp2_with (at_builtin;refine T4 rfl _ _ rfl wr.heap.size rfl HNA.o (.slice so x.kids.length scap) x.kids rfl HKA.o (by omega) ?_);intro w3' g1 cap1 q1 b3;have hb3:Below wr.heap.size wr w3':=HBA.o.trans b3.o;have hz3:=hb3.size;have HA4:=zq (Qq w3' (.cells #[.int .i64 (-5)] 3));have HOW:=zq (q1.o.alloc (.cells #[.int .i64 (-5)] 3));have HB3':=zq hb3;clear hb3 q1 b3 k0 d3;go_wp2_with (at_builtin;refine wpList_append_lies _ rfl _ _ 41 rfl wr.heap.size 3 j0 (.int .i64 0) 1 8 Tryz.underlying41 hj hk0 hk1 hk2 rfl (by omega) (.slice (some ⟨g1,0,none⟩) x.kids.length cap1) x.kids.length _ rfl HOW.o ⟨w3'.heap.size,0,none⟩ 1 1 [.int .i64 (-5)] rfl rfl (LexP.Qc _ _ _ _ rfl) (by simp[Value.oneCell']) (by omega) (by unfold maxLen;omega) (by omega) (by simp;omega) (w3'.heap.size+1) (by simp) ?_);intro g2 cap2 w4' hown4 hgrow4 hat4 hlt4;obtain⟨ib,ib1,ib2,ib3⟩:=IntB.of_row (K:=x.kids++[-5]) (by rw[List.map_append];exact hown4) (by simp);have hb4:Below wr.heap.size wr w4':=Below.grown (HB3'.o.trans (HA4.o.mono hz3)) hgrow4 (HB3'.o.trans (HA4.o.mono hz3)).size (fun q hq=>(HOW.o.lt q hq).1);have hz4:=hb4.size;obtain⟨⟨rc,r1,r2,-,-,-,-⟩,⟨hc,hh1,hh2,-⟩,-,-,-,-,-,-,hgne⟩:=id HRH.o;have hgl:=(Array.getElem?_eq_some_iff.1 r1).1;have hhl:=(Array.getElem?_eq_some_iff.1 hh1).1;have hh1':=(hb4.block gh hhl).trans hh1;have r1':=(hb4.block gg hgl).trans r1;have f0:w4'.frozen? ⟨gh,i,none⟩=false:=frozen_of_row _ _ _ _ _ hh1';obtain⟨v0,z0⟩:∃v0,w4'.cell? ⟨gh,i,none⟩=some v0:=⟨_,by rw[cell_of_row _ _ _ _ _ _ hh1',Array.getElem?_eq_getElem (by omega)]⟩;obtain⟨K,hK⟩:=xq x.kids.length;obtain⟨wS,hwS⟩:=xq (w4'.setCell ⟨gh,i,none⟩ (.slice (some ⟨g2,0,none⟩) (K+1) cap2))
   have e1:wS.cell? ⟨gh,i,none⟩=some (.slice (some ⟨g2,0,none⟩) (K+1) cap2):=by
    rw[hwS,cell_of_row _ _ _ _ _ _ (heap_setCell_same w4' gh i hc 41 _ hh1'),Array.getElem?_setIfInBounds_self_of_lt (by omega)]
   have r2':wS.heap[gg]?=some (.cells rc 43 (0,0)):=by rw[hwS];exact(heap_setCell_other w4' ⟨gh,i,none⟩ gg _ hgne).trans r1'
   obtain⟨v1,e2⟩:∃v1,wS.cell? ⟨gg,i*3+2,none⟩=some v1:=⟨_,by rw[cell_of_row _ _ _ _ _ _ r2',Array.getElem?_eq_getElem (by omega)]⟩;have e3:wS.frozen? ⟨gg,i*3+2,none⟩=false:=frozen_of_row _ _ _ _ _ r2'
   have HFIN:Hid (KpL w6 G gg gh rcap n l (.int .i64 ((i:Int)+1)) (wS.drew.setCell ⟨gg,i*3+2,none⟩ (.slice (some ⟨g2,0,none⟩) K cap2))):=by
    have h:=(HRH.o.next hb4 HXX.o ib1 ib (by omega) ib3 (by omega)).keep (w':=wS.drew.setCell ⟨gg,i*3+2,none⟩ (.slice (some ⟨g2,0,none⟩) K cap2)) (fun k _ _=>by rw[hwS,hK];rfl);refine⟨i+1,_,by go_num,by omega,h,?_⟩;rw[hwS];exact(((HBL.o.trans (hb4.mono hzr)).setCell (p:=⟨gh,i,none⟩) HGH6.o _).drew).setCell (p:=⟨gg,i*3+2,none⟩) HGG6.o _
   have hk1':K+1<=cap2:=by omega
   have hK0:(0:Int)<=(K:Int):=Int.natCast_nonneg _
   have hK1:(K:Int)<=(cap2:Int):=by omega
   have hr3:(i:Int)<(n:Int)+1:=by omega
   have hKm:K<=4194304:=by rw[hK];exact hkl
   have WK:IntKind.i64.wrap ((K:Int)+1-1)=(K:Int):=by rw[IntKind.wrap_i64];omega
   have WK2:IntKind.i64.wrap (K:Int)=(K:Int):=by rw[IntKind.wrap_i64];omega
   rw[<-hK];clear hK;clear hown4 hgrow4 hat4 hlt4 ib ib1 ib2 ib3 hb4 r1 hh1 hh1' r1' r2' HOW HRH HBL;go_wp2_with fail;rw[<-hwS];clear hwS z0 f0;go_still_tail 15,(by kernel_rfl);change wpList _ _ _ _ _ wS.drew;go_wp2_with fail;have hfin:=HFIN.o
   exact⟨hfin,by simp[intOf]<;>omega⟩
  ·have hie:i=n:=by omega
   rw[hie]at HRH
   have hi1: ¬(i:Int)<(n:Int):=by omega
   clear hrh hbl hie;have hbw:=Qj HB6.o HBL.o;obtain⟨x9,s9,z9⟩:=HXW.o wr hbw;have HBW:=zq hbw;have HPR:=zq (Qv6 T1.data.toList HSL.o (.slice (some ⟨gg,0,none⟩) n rcap) wr (by rw[<-HL.o];exact HRH.o.ndl (by have:=HRC1.o;omega) HRC2.o) x9 s9 z9)
   have hrc:(n:Int)<=(rcap:Int):=by have:=HRC1.o;omega
   have hrc0:(0:Int)<=(n:Int):=Int.natCast_nonneg _;clear x9 s9 z9 hbw;go_wp2_with fail;refine HPR.o.mono ?_;rintro e wp ⟨s,f,rfl,hbp,hpe⟩;rw[<-HEK.o,<-HL.o]at hpe;have HPE:=zq hpe;have HBP:=zq hbp;have HRH7:=zq (HRH.o.keep fun k _ hk=>hbp.block k hk);have HB67':=zq (Qj HBL.o hbp);clear hpe hbp HPR;go_upto_region 17 with fail;have HTP:=zq ((HT3.o.below HB36.o).below HB67'.o);go_cut [116] (fun b wx=>b=.bool false/\Hid (wx=wp))
   case first=>
    by_cases he0:ek=0
    ·obtain⟨hf0,hs0⟩:=HPE.o he0
     have b1:((ek:Int)==0)=true:=by simp[he0]
     by_cases hse:s.data.toList=[]
     ·obtain⟨x,y,hly,hop⟩:=hs0 hse
      obtain⟨gt,rfl⟩:∃g,tO=some ⟨g,0,none⟩:=by
       obtain⟨_,_,e,_,_,hf⟩:=Qn HTP.o.own;rw[HNN.o]at e hf
       cases e
       exact hf (by rw[HN.o,hly];simp)
      have hsE:s=⟨#[]⟩:=by
       cases s with|mk d=>cases d with|mk ll=>simp at hse;rw[hse]
      have hn0:(0:Int)<(n:Int):=by rw[HN.o,hly];simp
      have c0:wp.cell? ⟨gt,0,none⟩=some (.int .i64 14):=by
       have hnd:=HTP.o.ndl;rw[HNS.o,<-HL.o]at hnd;obtain⟨_,_,e,_,_,hc⟩:=hnd;rw[<-HN.o]at e
       cases e
       obtain⟨g,e2,-,hc2⟩:=hc (by rw[hly];simp)
       cases e2
       have:=(hc2 0 x (by rw[hly];rfl)).1;rw[hop]at this
       simpa using this
      subst hsE;subst hf0;clear hse hs0 he0 hly;go_wp2_with fail;go_meet;exact⟨rfl,rfl⟩
     ·subst hf0
      have b2: ¬s.toList=[]:=by rw[Lib.toList_data];exact hse
      clear hs0 he0;go_wp2_with fail;go_meet;exact⟨rfl,rfl⟩
    ·have b1:((ek:Int)==0)=false:=by simp;omega
     go_wp2_with fail;go_meet;exact⟨rfl,rfl⟩
   case rest=>
    obtain⟨rfl,hwc⟩:=hcut;have hwc':wp=wc:=(show wc=wp from hwc).symm;subst hwc';clear hwc;obtain⟨H1,hH1⟩:=xq wp.heap.size
    have hGH:G<H1:=by have h1:=HG6.o;have h2:=HB67'.o.size;omega
    have HBX:Hid (∀wx,PF (PA G H1) wp wx->Below w5.heap.size w5 wx):=fun wx hf=>by
     have hb:=Qj HB56.o HB67'.o;refine⟨hf.os.trans hb.os,hf.tape.trans hb.tape,hf.output.trans hb.output,Nat.le_trans hb.size hf.size,fun k hk=>(hf.block k (Nat.lt_of_lt_of_le hk hb.size) ?_).trans (hb.block k hk)⟩;have:=HGG.o
     rintro (h|h)<;>omega
    have HT5:=zq (HT3.o.below HB35.o);have HU5:=zq (HU3.o.below HB35.o);have HK5:=zq ((HK4.o.nda (Nat.le_refl _)).below HB45.o)
    have HRX:Hid (∀wx,PF (PA G H1) wp wx->RH wx G gg gh rcap n l n qs):=fun wx hf=>HRH7.o.keep fun k h1 h2=>hf.block k h2 (by rintro (h|h)<;>omega)
    have HBKp:Hid (BkS (PA G H1) wp G (fun _=> .slice none 0 0) (fun _=>[])):=BkS.new (.inl rfl) ((HB67'.o.block G (by have:=HG6.o;omega)).trans HBK6.o);obtain⟨kt,hkt⟩:=xq (ns.map Prod.snd);obtain⟨ku,hku⟩:=xq (ns2.map Prod.snd);have HKT:=zq hkt;have HKU:=zq hku;have HGH:=zq hGH;have HH1:=zq hH1;clear hkt hku hH1 HT3 HNT HNU HNT4 HNU4 HRH7 HTP HBP HPE HBW;go_wp2_with fail;go_loopw [20] (fun iv wr=> ∃(i:Nat) (row:Nat->Value) (ls:Nat->List Value),iv=.int .i64 (i:Nat)/\i<=n/\BkS (PA G H1) wr G row ls/\ls 0=[]/\ls 1=[]/\ls 2=kl2 kt ku i/\PF (PA G H1) wp wr) (fun iv _=>n-(intOf iv).toNat)
    case atStart=>exact⟨0,_,_,rfl,Nat.zero_le _,HBKp.o,rfl,rfl,rfl,PF.refl _ _⟩
    clear HBKp
    case round=>
     obtain⟨j,row,ls,rfl,hjn,hbk,hl0,hl1,hl2,hpf⟩:=hrel;have HBK:=zq hbk;have HL0:=zq hl0;have HL1:=zq hl1;have HL2:=zq hl2;have HPF:=zq hpf;have hbx:=HBX.o wr hpf;by_cases hjt:j<n
     ·obtain⟨x,hx⟩:∃x,l[j]?=some x:=⟨_,List.getElem?_eq_getElem (by rw[<-HN.o];exact hjt)⟩
      have hrh:=HRX.o wr hpf;obtain⟨p,hp⟩:∃p,qs[j]?=some p:=⟨_,List.getElem?_eq_getElem (by rw[hrh.qn];exact hjt)⟩;have hna:=hrh.ndl (by have:=HRC1.o;omega) HRC2.o;have hka:=HK5.o.below hbx
      obtain⟨gk,rfl⟩:∃g,ko=some ⟨g,0,none⟩:=by
       obtain⟨_,_,e,_,_,hc⟩:=HK4.o;rw[<-HN.o]at e hc
       cases e
       obtain⟨g,e2,-⟩:=hc (by omega);exact⟨g,e2⟩
      have hA:=(hna.nda (Nat.le_refl _)).one hx;have hB:=hka.one hx;rw[Nat.zero_add]at hA hB
      have HSM:Hid (∀m,Calls Tryz.prog 16 #[.slice (some ⟨gg,j*3,none⟩) 1 (rcap-j),.slice (some ⟨gk,j*3,none⟩) 1 (kcap-j)] (wr.drewN m) (fun e w'=>e=.returned (.bool true)/\ ∃k,w'=(wr.drewN m).drewN k)):=fun m=>
       Gw _ _ [x] _ (hA.below (below_drewN wr m)) (hB.below (below_drewN wr m))
      obtain⟨hc,hh1,hh2,hh3⟩:=hrh.hold
      have d0:wr.cell? ⟨gh,j,none⟩=some (.slice (some ⟨p.1,0,none⟩) (x.kids.length+1) p.2):=by rw[cell_of_row _ _ _ _ _ _ hh1];exact hh3 j x p hx hp
      obtain⟨⟨c,q1,q2⟩,q3,q4⟩:=hrh.lists j x p hx hp
      have d1:wr.cell? ⟨p.1,x.kids.length,none⟩=some (.int .i64 (-5)):=by rw[cell_of_row _ _ _ _ _ _ q1];exact q2 _ _ (by rw[List.getElem?_append_right (Nat.le_refl _),Nat.sub_self];rfl)
      have hkl:=HFK.o x (List.mem_of_getElem? hx);obtain⟨K,hK⟩:=xq x.kids.length;rw[<-hK]at d0 d1 hkl;have hi0:(0:Int)<=(j:Int):=Int.natCast_nonneg _
      have hi1:(j:Int)<(n:Int):=by omega
      have WK:IntKind.i64.wrap ((K:Int)+1-1)=(K:Int):=by rw[IntKind.wrap_i64];omega
      have WK2:IntKind.i64.wrap (K:Int)=(K:Int):=by rw[IntKind.wrap_i64];omega
      have WJ:IntKind.i64.wrap ((j:Int)+1)=(j:Int)+1:=by rw[IntKind.wrap_i64];omega
      have hrc1:(j:Int)+1<=(rcap:Int):=by have:=HRC1.o;omega
      have hkc1:(j:Int)+1<=(kcap:Int):=by
       obtain⟨_,_,e,h1,_⟩:=HK5.o;rw[<-HN.o]at e h1
       cases e
       omega
      clear hbk hl0 hl1 hl2 hpf hrh hna hka hA hB hh1 hh2 hh3 q1 q2 q3 q4 hK hp;go_wp2_with fail;obtain⟨pt,hpt⟩:∃p,ns[j]?=some p:=⟨_,List.getElem?_eq_getElem (by rw[HNN.o];exact hjt)⟩;obtain⟨pu,hpu⟩:∃p,ns2[j]?=some p:=⟨_,List.getElem?_eq_getElem (by rw[HNN2.o];exact hjt)⟩
      have HBT:Hid (∀wx,PF (PA G H1) wp wx-> ∃g,tO=some ⟨g,0,none⟩/\wx.cell? ⟨g,j*3+2,none⟩=some pt.2):=fun wx hf=>by
       have ht:=HT5.o.below (HBX.o wx hf);obtain⟨_,_,e,_,_,hc⟩:=Qn ht.own;rw[HNN.o]at e hc
       cases e
       obtain⟨g,rfl⟩:=hc (by omega);exact⟨g,rfl,X0 ht.own (Rn ns j pt hpt).2.2⟩
      have HBU:Hid (∀wx,PF (PA G H1) wp wx-> ∃g,uo=some ⟨g,0,none⟩/\wx.cell? ⟨g,j*3+2,none⟩=some pu.2):=fun wx hf=>by
       have ht:=HU5.o.below (HBX.o wx hf);obtain⟨_,_,e,_,_,hc⟩:=Qn ht.own;rw[HNN2.o]at e hc
       cases e
       obtain⟨g,rfl⟩:=hc (by omega);exact⟨g,rfl,X0 ht.own (Rn ns2 j pu hpu).2.2⟩
      obtain⟨yo,ycap,hy,-,-,hyq,-⟩:=HT5.o.kids pt (List.mem_of_getElem? hpt);obtain⟨zo,zcap,hz,-,-,hzq,-⟩:=HU5.o.kids pu (List.mem_of_getElem? hpu)
      have HYP:Hid (∀q,pt.2.ownBlock=some q-> ¬PA G H1 q):=fun q hq=>by
       have h1:=(hyq q hq).2.1;have h2:=HGG.o;have h3:=HGH.o
       rintro (h|h)<;>omega
      have HZP:Hid (∀q,pu.2.ownBlock=some q-> ¬PA G H1 q):=fun q hq=>by
       have h1:=(hzq q hq).2.1;have h2:=HGG.o;have h3:=HGH.o
       rintro (h|h)<;>omega
      have HPL:Hid (∀wx,PF (PA G H1) wp wx-> ∀k,wx.heap.size<=k->PA G H1 k):=fun wx hf k hk=>by
       have h1:=hf.size;have h2:=HH1.o;exact .inr (by omega)
      have HKE:Hid (kl2 kt ku (j+1)=kl2 kt ku j++[pt.2,pu.2]):=by
       show _=_;rw[Pw,HKT.o,HKU.o,List.getD_eq_getElem?_getD,List.getD_eq_getElem?_getD,List.getElem?_map,List.getElem?_map,hpt,hpu];rfl
      obtain⟨ya,hya⟩:=xq pt.1.kids.length;obtain⟨za,hza⟩:=xq pu.1.kids.length;rw[<-hya]at hy;rw[<-hza]at hz;rw[hy]at HBT HYP HKE;rw[hz]at HBU HZP HKE;clear hpt hpu hy hz hyq hzq hya hza;go_quiet ((go_at_call 16;exact Calls.quiet_of (HSM.o _)));obtain⟨wq,hwq⟩:=xq (wr.drewN nq)
      have HPQ:Hid (PF (PA G H1) wp wq):=by rw[hwq];exact HPF.o.trans (PF.of_below (below_drewN wr nq))
      have HBQ:Hid (BkS (PA G H1) wq G row ls):=by rw[hwq];exact HBK.o.below (below_drewN wr nq)
      rw[<-hwq];obtain⟨gt,rfl,t2⟩:=HBT.o wq HPQ.o;clear hwq d0 d1 HSM;go_wp2_with fail;refine(M9 (PA G H1) G ya ycap yo row ls wq HBQ.o (by rw[HL2.o,S8];omega) HYP.o (HPL.o wq HPQ.o)).mono ?_;rintro e wa ⟨rfl,hpa,row2,hba⟩;have HPA:Hid (PF (PA G H1) wp wa):=HPQ.o.trans hpa;have HBA2:=zq hba;obtain⟨gu,rfl,u2⟩:=HBU.o wa HPA.o;clear hpa hba t2;go_wp2_with fail;refine(M9 (PA G H1) G za zcap zo row2 _ wa HBA2.o (by simp only[if_pos];rw[HL2.o,List.length_append,S8,List.length_singleton];omega) HZP.o (HPL.o wa HPA.o)).mono ?_;rintro e wb ⟨rfl,hpb,row3,hbb⟩
      have hfin:∃(i:Nat) (row:Nat->Value) (ls:Nat->List Value),Value.int .i64 ((j:Int)+1)=.int .i64 (i:Nat)/\i<=n/\BkS (PA G H1) wb G row ls/\ls 0=[]/\ls 1=[]/\ls 2=kl2 kt ku i/\PF (PA G H1) wp wb:=by
       refine⟨j+1,row3,_,by go_num,by omega,hbb,?_,?_,?_,HPA.o.trans hpb⟩
       ·simp only[if_neg (show ¬(0=2) by decide)];exact HL0.o
       ·simp only[if_neg (show ¬(1=2) by decide)];exact HL1.o
       ·simp only[if_pos];rw[HL2.o,HKE.o,List.append_assoc];rfl
      have HFIN:=zq hfin;clear hpb hbb u2 hfin;go_wp2_with fail;have hfin:=HFIN.o
      exact⟨hfin,by simp[intOf]<;>omega⟩
     ·have hje:j=n:=by omega
      have hj1: ¬(j:Int)<(n:Int):=by omega
      have hrh:=HRX.o wr hpf;obtain⟨rc,r1,r2,r3,r4,-,-⟩:=hrh.room
      have d0:wr.cell? ⟨gg,n*3,none⟩=some (.int .i64 77):=by rw[cell_of_row _ _ _ _ _ _ r1];exact r3
      have d1:wr.cell? ⟨gg,n*3+1,none⟩=some (.string ⟨#[109,97,114,107]⟩):=by rw[cell_of_row _ _ _ _ _ _ r1];exact r4
      have hn9:(n:Int)<(n:Int)+1:=by omega
      have hn0:(0:Int)<=(n:Int):=Int.natCast_nonneg _;rw[hje]at HL2;clear hbk hl0 hl1 hl2 hpf hrh r1 r2 r3 r4 hje hbx;have hbx:=HBX.o wr HPF.o;have hbw:=Qj HB5.o hbx;have HBW:=zq hbw;have HTW:=zq (HT5.o.below hbx);have HUW:=zq (HU5.o.below hbx);have hT2:T2=⟨T2.data.toList.toArray⟩:=rfl;have hT3:T3=⟨T3.data.toList.toArray⟩:=rfl
      have hl2:T2.data.toList.length<=67108864:=by rw[<-Lib.size_eq];omega
      have hl3:T3.data.toList.length<=67108864:=by rw[<-Lib.size_eq];omega
      have HRM:Hid (∀wx,Below w.heap.size w wx->Calls Tryz.prog 20 #[.string T2] wx (Sz T2.data.toList wx)):=fun wx hb=>by
       obtain⟨xx,sx,zx⟩:=HXW.o wx hb;exact Mg T2.data.toList wx hl2 xx sx zx
      have HRX2:Hid (∀wx,Below w.heap.size w wx->Calls Tryz.prog 21 #[.string T3] wx (Sj T3.data.toList wx)):=fun wx hb=>by
       obtain⟨xx,sx,zx⟩:=HXW.o wx hb;exact Ms T3.data.toList wx hl3 xx sx zx
      have HL3:=zq hl3
      have HL32:Hid (T3.data.toList.length<=1048576):=by show _<=_;rw[<-Lib.size_eq];exact h3
      have HLI:Hid ((rmL T2.data.toList).length<=4096):=Qg4 _;clear hbx hbw hT2 hT3 hl2 hl3;go_wp2_with fail;refine(HRM.o wr HBW.o).mono ?_;intro e wa1 hq;obtain⟨va,csA,rfl,iA,mA,lA,bA⟩:=hq.both;obtain⟨ra,hra⟩:=xq (rmR T2.data.toList);obtain⟨ca,hca⟩:=xq (rmC' T2.data.toList);obtain⟨ea,hea⟩:=xq (rmE T2.data.toList);rw[<-hra,<-hca,<-hea];obtain⟨ao,acap,rfl,-⟩:=Qn mA.own;obtain⟨nA,hnA⟩:=xq csA.length;rw[<-hnA]at iA mA ⊢;obtain⟨A1,hA1⟩:=xq wa1.heap.size;obtain⟨wa,hwa⟩:∃wa,wa=wa1.alloc (.cells #[.int .i64 (ra:Nat),.int .i64 (ca:Nat),.slice ao nA acap] 47):=⟨_,rfl⟩
      have hba:Below wa1.heap.size wa1 wa:=by rw[hwa];exact Qq _ _
      have HBXA:Hid (wa.heap[A1]?=some (.cells #[.int .i64 (ra:Nat),.int .i64 (ca:Nat),.slice ao nA acap] 47 (0,0))):=by show _=_;rw[hwa,hA1];exact heap_alloc_new wa1 _
      have HIA:=zq (iA.below hba);have HMA:=zq mA;have HBRA:=zq (Qj bA hba);have HBA1:=zq bA;have HAA:=zq hba;have HBWA:=zq (Qj HBW.o (Qj bA hba));have HNA:=zq hnA;have HLA:=zq lA;have HA1:=zq hA1;clear hq iA mA lA bA hra hca hea hnA hba;go_wp2_with fail;rw[<-hwa,<-hA1];clear hwa hA1;refine(HRM.o wa HBWA.o).mono ?_;intro e wb1 hq;obtain⟨vb,csB,rfl,iB,mB,lB,bB⟩:=hq.both;obtain⟨rb,hrb⟩:=xq (rmR T2.data.toList);obtain⟨cb,hcb⟩:=xq (rmC' T2.data.toList);obtain⟨eb,heb⟩:=xq (rmE T2.data.toList);rw[<-hrb,<-hcb,<-heb];obtain⟨bo,bcap,rfl,-⟩:=Qn mB.own;obtain⟨nB,hnB⟩:=xq csB.length;rw[<-hnB]at iB mB ⊢;obtain⟨B1,hB1⟩:=xq wb1.heap.size;obtain⟨wb,hwb⟩:∃wb,wb=wb1.alloc (.cells #[.int .i64 (rb:Nat),.int .i64 (cb:Nat),.slice bo nB bcap] 47):=⟨_,rfl⟩
      have hbb:Below wb1.heap.size wb1 wb:=by rw[hwb];exact Qq _ _
      have HBXB:Hid (wb.heap[B1]?=some (.cells #[.int .i64 (rb:Nat),.int .i64 (cb:Nat),.slice bo nB bcap] 47 (0,0))):=by show _=_;rw[hwb,hB1];exact heap_alloc_new wb1 _
      have HIB:=zq (iB.below hbb);have HMB:=zq mB;have HBRB:=zq (Qj bB hbb);have HBB1:=zq bB;have HBB:=zq hbb;have HBWB:=zq (Qj HBWA.o (Qj bB hbb));have HNB:=zq hnB;have HLB:=zq lB;have HB1':=zq hB1;clear hq iB mB lB bB hrb hcb heb hnB hbb;go_wp2_with fail;rw[<-hwb,<-hB1];clear hwb hB1;refine(HRX2.o wb HBWB.o).mono ?_;intro e wc hq;obtain⟨cv,svC,rfl,fC,mC,lC,bC⟩:=hq.both HL3.o;obtain⟨xc,hxc⟩:=xq (rxe T3.data.toList);rw[<-hxc];obtain⟨co,ccap,rfl,-⟩:=Qn mC.own;obtain⟨nC,hnC⟩:=xq svC.length;rw[<-hnC]at fC mC ⊢;have HFC:=zq fC;have HMC:=zq mC;have HBRC:=zq bC;have HBWC:=zq (Qj HBWB.o bC);have HNC:=zq hnC;have HLC:=zq lC;clear hq fC mC lC bC hxc hnC;go_wp2_with fail;refine(HRX2.o wc HBWC.o).mono ?_;intro e wd hq;obtain⟨dv,svD,rfl,fD,mD,lD,bD⟩:=hq.both HL3.o;obtain⟨xd,hxd⟩:=xq (rxe T3.data.toList);rw[<-hxd];obtain⟨dO,dcap,rfl,-⟩:=Qn mD.own;obtain⟨nD,hnD⟩:=xq svD.length;rw[<-hnD]at fD mD ⊢;have HFD:=zq fD;have HMD:=zq mD;have HBRD:=zq bD;have HBWD:=zq (Qj HBWC.o bD);have HND:=zq hnD;have HLD:=zq lD;have hbAD:Below wa.heap.size wa wd:=Qj HBRB.o (Qj HBRC.o bD);have hbBD:Below wb.heap.size wb wd:=Qj HBRC.o bD;have hxA:=(hbAD.block A1 (Array.getElem?_eq_some_iff.1 HBXA.o).1).trans HBXA.o;have hxB:=(hbBD.block B1 (Array.getElem?_eq_some_iff.1 HBXB.o).1).trans HBXB.o;have k2:wd.cell? ⟨A1,2,none⟩=some (.slice ao nA acap):=(cell_of_row _ _ _ _ _ _ hxA).trans rfl;have k3:wd.cell? ⟨B1,2,none⟩=some (.slice bo nB bcap):=(cell_of_row _ _ _ _ _ _ hxB).trans rfl;have HSI:=zq (Ck (cws (rmL T2.data.toList)) (.slice ao nA acap) (.slice bo nB bcap) wd (HIA.o.below hbAD) (HIB.o.below hbBD) (by unfold cws;rw[List.length_map];have:=HLI.o;omega));have HXA:=zq hxA;have HXB:=zq hxB;clear hq fD mD lD bD hxd hnD hbAD hbBD hxA hxB;go_wp2_with fail;refine HSI.o.mono ?_;rintro e we ⟨rfl,hbe⟩;have HSL2:=zq (G0 (rxl T3.data.toList) (.slice co nC ccap) (.slice dO nD dcap) we ((HFC.o.below HBRD.o).below hbe) (HFD.o.below hbe) (by have:=(Kz T3.data.toList).1;have:=HL32.o;omega) (fun s hs=>by have:=(Kz T3.data.toList).2 s hs;have:=HL32.o;omega));have HBDE:=zq hbe;clear hbe k2 k3 HSI;go_wp2_with fail;refine HSL2.o.mono ?_;rintro e wf ⟨rfl,hbf⟩;have HBDF:=zq (Qj HBDE.o hbf);clear hbf HSL2;have hxA:=(HBDF.o.block A1 (Array.getElem?_eq_some_iff.1 HXA.o).1).trans HXA.o;have hxB:=(HBDF.o.block B1 (Array.getElem?_eq_some_iff.1 HXB.o).1).trans HXB.o;have k0:wf.cell? ⟨A1,0,none⟩=some (.int .i64 (ra:Nat)):=(cell_of_row _ _ _ _ _ _ hxA).trans rfl;have k1:wf.cell? ⟨A1,1,none⟩=some (.int .i64 (ca:Nat)):=(cell_of_row _ _ _ _ _ _ hxA).trans rfl;have k2:wf.cell? ⟨A1,2,none⟩=some (.slice ao nA acap):=(cell_of_row _ _ _ _ _ _ hxA).trans rfl;have HXAf:=zq hxA;have HXBf:=zq hxB;clear hxA hxB HXA HXB;obtain⟨K,hK⟩:=xq (kl2 kt ku n)
      have HSH:=zq (Qy2 (w:=w) (w2:=w2) (w3:=w3) (wr:=wr) (wa1:=wa1) (wa:=wa) (wb1:=wb1) (wb:=wb) (wc:=wc) (wd:=wd) (wf:=wf) (G:=G) (H1:=H1) (K:=K) HB2.o.size HB23.o.size (by rw[HGG.o];exact HB35.o.size) HGH.o (by rw[HH1.o];exact HPF.o.size)
       HBA1.o HAA.o HBB1.o HBB.o HBRC.o HBRD.o HBDF.o HMA.o HMB.o HMC.o HMD.o HT2.o HU3.o HTW.o HUW.o (by rw[hK,HKT.o,HKU.o]) HNN.o HNN2.o (Bd HNS.o (by rw[<-HL.o];exact HFK.o)) (Bd HNS2.o (by rw[<-HL.o];exact HFK.o)) HBXB.o HB1'.o)
      have HBWF:Hid (Below w.heap.size w wf):=Qj HBW.o (Qj HBRA.o (Qj HBRB.o (Qj HBRC.o (Qj HBRD.o HBDF.o))));have HBK2:=zq (HSH.o.book row ls HBK.o HL0.o HL1.o (by rw[HL2.o,hK]))
      have HLS2:Hid (ls 2=K):=by show _=_;rw[HL2.o,hK]
      have HKN:Hid (K.length<=300000):=by show _<=_;rw[hK,S8];omega
      obtain⟨P2,hP2⟩:=xq (PB G H1 wr.heap.size wf.heap.size);have HKEY:=zq HSH.o.key;have HSA:=zq HSH.o.sA;have HSB:=zq HSH.o.sB;have HVA:=zq HSH.o.vA;have HVB:=zq HSH.o.vB;have HEC:=zq HSH.o.eC;have HED:=zq HSH.o.eD;have HPBL:=zq HSH.o.pb;have HKP:=zq HSH.o.kp;have HLT:=zq HSH.o.lt;have HORD:=zq HSH.o.ord;rw[<-hP2]at HKEY HSA HSB HVA HVB HEC HED HPBL HBK2;clear hK hP2 HSH;clear HT2 HU3 HTW HUW HIA HIB HMA HMB HMC HMD HFC HFD HBRA HBRB HBRC HBRD HBDE HBDF HAA HBB HBXA HBXB HXAf HXBf HBWA HBWB HBWC HBWD HBA1 HBB1 HRM HRX2 HBK HL2 HA1 HB1' HPF HBX HRX HB67' HB69 HRH HBL HB56 HB36 HB35 HB34 HB45 HB23 HB3 HB4 HB5 HB6 HBK6
      have hlA:csA.length<=4096:=by rw[HLA.o];exact HLI.o
      have hlB:csB.length<=4096:=by rw[HLB.o];exact HLI.o
      have HMATA:Hid (Calls Tryz.prog 24 #[.pointer (some ⟨G,0,none⟩),.agg #[.int .i64 (ra:Nat),.int .i64 (ca:Nat),.slice ao nA acap]] wf (PuP (P2) wf G (LsR ls (.slice ao nA acap) (csA.map Prod.snd)))):=by
       obtain⟨q1,-,-,-,-,-,-,-,q9⟩:=HKEY.o wf (PF.refl _ _);exact Qjx _ G 0 _ _ row ls _ csA wf HBK2.o (by rw[HL1.o];exact Nat.zero_le _) (by rw[HL0.o];simp;omega) q1.own HVA.o HSA.o q9
      go_wp2_with fail;refine HMATA.o.mono ?_;rintro e wg ⟨rfl,hpg,rowg,hbg⟩;have HPG:=zq hpg;have HBG:=zq hbg;obtain⟨lg,hlg⟩:=xq (LsR ls (.slice ao nA acap) (csA.map Prod.snd));rw[<-hlg]at HBG
      have HG0:Hid (lg 0=csA.map Prod.snd/\lg 1=[.slice ao nA acap]/\lg 2=K):=by
       rw[hlg];refine⟨?_,?_,HLS2.o⟩
       ·show ls 0++_=_;rw[HL0.o];rfl
       ·show ls 1++_=_;rw[HL1.o];rfl
      obtain⟨-,-,-,-,-,⟨k0',k1',k2'⟩,-,-,-⟩:=HKEY.o wg hpg
      have HMATB:Hid (Calls Tryz.prog 24 #[.pointer (some ⟨G,0,none⟩),.agg #[.int .i64 (rb:Nat),.int .i64 (cb:Nat),.slice bo nB bcap]] wg (PuP (P2) wg G (LsR lg (.slice bo nB bcap) (csB.map Prod.snd)))):=by
       obtain⟨-,q2,-,-,-,-,-,-,q9⟩:=HKEY.o wg hpg;exact Qjx _ G 0 _ _ rowg lg _ csB wg HBG.o (by rw[HG0.o.2.1];simp) (by rw[HG0.o.1,List.length_map];omega) q2.own HVB.o HSB.o q9
      clear k0 k1 k2 hpg hbg HMATA HBK2 hlg;go_wp2_with fail;refine HMATB.o.mono ?_;rintro e wh ⟨rfl,hph,rowh,hbh⟩;obtain⟨lh,hlh⟩:=xq (LsR lg (.slice bo nB bcap) (csB.map Prod.snd));rw[<-hlh]at hbh
      have HST3:Hid (∃(i:Nat) (row:Nat->Value) (ls:Nat->List Value),Value.int .i64 0=.int .i64 (i:Nat)/\i<=nC/\BkS (P2) wh G row ls/\ls 0=csA.map Prod.snd++csB.map Prod.snd/\ls 1=[.slice ao nA acap,.slice bo nB bcap]/\ls 2=K++kl2 svC svD i/\PF (P2) wf wh):=by
       refine⟨0,rowh,lh,rfl,Nat.zero_le _,hbh,?_,?_,?_,HPG.o.trans hph⟩
       ·rw[hlh];show lg 0++_=_;rw[HG0.o.1]
       ·rw[hlh];show lg 1++_=_;rw[HG0.o.2.1];rfl
       ·rw[hlh];show lg 2=_;rw[HG0.o.2.2];simp[kl2]
      clear hph hbh hlh k0' k1' k2' HMATB HBG
      have hDC:nD=nC:=by rw[HND.o,HNC.o,HLD.o,HLC.o]
      subst hDC
      have hnC:nD<=1048576:=by have:=(Kz T3.data.toList).1;have:=HL32.o;rw[HND.o,HLD.o];omega
      have HND':Hid (svD.length=nD):=HND.o.symm;have HNC':Hid (svC.length=nD):=HNC.o.symm;have HNA':Hid (csA.length<=4096):=hlA;have HNB':Hid (csB.length<=4096):=hlB;clear hlA hlB HNC HND HLC HLD HLA HLB HNA HNB HLI HLS2 HL0 HL1 HKT HKU HNS HNS2 HNN HNN2 HFK HL HLL HEK HG6 HGH6 HGG6 HRC1 HRC2 HK4 HK5 HT5 HU5;go_wp2_with fail;go_loopw [29] (fun iv wr=> ∃(i:Nat) (row:Nat->Value) (ls:Nat->List Value),iv=.int .i64 (i:Nat)/\i<=nD/\BkS P2 wr G row ls/\ls 0=csA.map Prod.snd++csB.map Prod.snd/\ls 1=[.slice ao nA acap,.slice bo nB bcap]/\ls 2=K++kl2 svC svD i/\PF P2 wf wr) (fun iv _=>nD-(intOf iv).toNat)
      case atStart=>exact HST3.o
      clear HST3
      case round=>
       obtain⟨i3,row3,ls3,rfl,hi3,hb3,hz0',hz1',hz2',hpf3⟩:=hrel;have HB3':=zq hb3;have HZ0:=zq hz0';have HZ1:=zq hz1';have HZ2:=zq hz2';have HPF3:=zq hpf3;obtain⟨qA,qB,qC,qD,qK,-,qT,qU,qP⟩:=HKEY.o _ hpf3;by_cases hlt3:i3<nD
       ·obtain⟨sc,hsc⟩:∃s,svC[i3]?=some s:=⟨_,List.getElem?_eq_getElem (by rw[HNC'.o];exact hlt3)⟩
        obtain⟨sd,hsd⟩:∃s,svD[i3]?=some s:=⟨_,List.getElem?_eq_getElem (by rw[HND'.o];exact hlt3)⟩;obtain⟨⟨xo,xl,xcap,rfl⟩,hxp⟩:=HEC.o _ (List.mem_of_getElem? hsc);obtain⟨⟨yo,yl,ycap,rfl⟩,hyp⟩:=HED.o _ (List.mem_of_getElem? hsd)
        have HCC:Hid (∀wx,PF P2 wf wx-> ∃g,co=some ⟨g,0,none⟩/\wx.cell? ⟨g,i3,none⟩=some (.slice xo xl xcap)):=fun wx hf=>by
         obtain⟨-,-,kC,-⟩:=HKEY.o wx hf;obtain⟨_,_,e,_,_,hc⟩:=Qn kC.own;rw[HNC'.o]at e hc
         cases e
         obtain⟨g,rfl⟩:=hc (by omega);exact⟨g,rfl,X0 kC.own hsc⟩
        have HCD:Hid (∀wx,PF P2 wf wx-> ∃g,dO=some ⟨g,0,none⟩/\wx.cell? ⟨g,i3,none⟩=some (.slice yo yl ycap)):=fun wx hf=>by
         obtain⟨-,-,-,kD,-⟩:=HKEY.o wx hf;obtain⟨_,_,e,_,_,hc⟩:=Qn kD.own;rw[HND'.o]at e hc
         cases e
         obtain⟨g,rfl⟩:=hc (by omega);exact⟨g,rfl,X0 kD.own hsd⟩
        have HKE:Hid (kl2 svC svD (i3+1)=kl2 svC svD i3++[.slice xo xl xcap,.slice yo yl ycap]):=by
         show _=_;rw[Pw,List.getD_eq_getElem?_getD,List.getD_eq_getElem?_getD,hsc,hsd];rfl
        have HXP:=zq hxp;have HYP:=zq hyp;have HQP:=zq qP;obtain⟨gc,rfl,t2⟩:=HCC.o _ hpf3;have hi30:(0:Int)<=(i3:Int):=Int.natCast_nonneg _
        have hi31:(i3:Int)<(nD:Int):=by omega
        clear hsc hsd hxp hyp qA qB qC qD qK qT qU qP hb3 hz0' hz1' hz2' hpf3;go_wp2_with fail;refine(M9 P2 G xl xcap xo row3 ls3 _ HB3'.o (by rw[HZ2.o,List.length_append,S8];have:=HKN.o;omega) HXP.o HQP.o).mono ?_;rintro e wk ⟨rfl,hpk,row4,hbk4⟩;have HPK:Hid (PF P2 wf wk):=HPF3.o.trans hpk;have HBK4:=zq hbk4;obtain⟨gd,rfl,u2⟩:=HCD.o wk HPK.o;obtain⟨-,-,-,-,-,-,-,-,qP⟩:=HKEY.o wk HPK.o;have HQP2:=zq qP;clear hpk hbk4 t2 qP;go_wp2_with fail;refine(M9 P2 G yl ycap yo row4 _ wk HBK4.o (by simp only[if_pos];rw[HZ2.o,List.length_append,List.length_append,S8,List.length_singleton];have:=HKN.o;omega) HYP.o HQP2.o).mono ?_;rintro e wl ⟨rfl,hpl,row5,hbl5⟩
        have hfin:∃(i:Nat) (row:Nat->Value) (ls:Nat->List Value),Value.int .i64 ((i3:Int)+1)=.int .i64 (i:Nat)/\i<=nD/\BkS P2 wl G row ls/\ls 0=csA.map Prod.snd++csB.map Prod.snd/\ls 1=[.slice ao nA acap,.slice bo nB bcap]/\ls 2=K++kl2 svC svD i/\PF P2 wf wl:=by
         refine⟨i3+1,row5,_,by go_num,by omega,hbl5,?_,?_,?_,HPK.o.trans hpl⟩
         ·simp only[if_neg (show ¬(0=2) by decide)];exact HZ0.o
         ·simp only[if_neg (show ¬(1=2) by decide)];exact HZ1.o
         ·simp only[if_pos];rw[HZ2.o,HKE.o,List.append_assoc,List.append_assoc];rfl
        have HFIN:=zq hfin;clear hpl hbl5 u2 hfin;go_wp2_with fail;have hfin:=HFIN.o
        exact⟨hfin,by simp[intOf]<;>omega⟩
       ·have hie3:i3=nD:=by omega
        obtain⟨o1,o2,o3,o4,o5,o6,o7,o8⟩:=HORD.o;obtain⟨l1,l2,l3⟩:=HLT.o;rw[hie3]at hz2'
        have hm1:nD<=svC.length:=by rw[HNC'.o];exact Nat.le_refl _
        have hm2:nD<=svD.length:=by rw[HND'.o];exact Nat.le_refl _
        have HAP:=zq (Qqa P2 G row3 ls3 _ hb3 hz0' hz1' hz2' qA qB qC qD qK o1 o2 o3 (Nat.le_refl _) o4 o5 o6 o7 hm1 hm2 HNA'.o HNB'.o HKN.o (by omega));have hels:=Qm7 hz0' hz1' hz2' qA qB qC qD HKP.o l1 l2 o1 o2 o3 (Nat.le_refl _) o4 o5 o6 o8 hm1 hm2;have hbw3:=hpf3.toBelow HPBL.o HBWF.o HBWF.o.size;have HELS:=zq hels;have HBW3:=zq hbw3;have HQT:=zq qT;have HQU:=zq qU;have HQC:=zq qC;have HQD:=zq qD;have HL1':=zq l1;have HL2':=zq l2;have HL3':=zq l3
        have hi31: ¬(i3:Int)<(nD:Int):=by omega
        clear qA qB qC qD qK qT qU qP hb3 hz0' hz1' hz2' hpf3 hels hbw3 l1 l2 l3 hm1 hm2 hie3 o1 o2 o3 o4 o5 o6 o7 o8;go_wp2_with fail;refine HAP.o.mono ?_;rintro e wz ⟨rfl,bz⟩;have HNO:=zq (Ht 0 n (.slice tO n tcap) (.slice uo n ucap) _ _ wz (bz.own HQT.o fun x hx=>(HELS.o x hx).1) (bz.own HQU.o fun x hx=>(HELS.o x hx).2.1) HL3'.o (by omega) (Nat.zero_le _))
        have HCZ:Hid (wz.ownsRow 0 41 1 (.slice co nD ccap) nD svC):=by
         have:=bz.own HQC.o.own fun x hx=>(HELS.o x hx).2.2.1;rw[HNC'.o]at this;exact this
        have HDZ:Hid (wz.ownsRow 0 41 1 (.slice dO nD dcap) nD svD):=by
         have:=bz.own HQD.o.own fun x hx=>(HELS.o x hx).2.2.2.1;rw[HND'.o]at this;exact this
        have HBZ:=zq (bz.toBelow (fun x hx=>(HELS.o x hx).2.2.2.2) HBW3.o HBW3.o.size);clear bz HAP;go_wp2_with fail;refine HNO.o.mono ?_;rintro e wy ⟨rfl,byy⟩;have hord:=HORD.o
        have hTC:∀v:Value,Lies wb.heap.size wd.heap.size v-> ∀x∈[Value.slice tO n tcap,.slice uo n ucap],Apv x v:=fun v hv x hx=>by
         have hlie:Lies w.heap.size w3.heap.size x:=by
          rcases List.mem_cons.1 hx with h|h
          ·rw[h];exact HL1'.o
          ·rw[List.mem_singleton.1 h];exact HL2'.o
         exact hlie.ap hv (by omega)
        have hlc:Lies wb.heap.size wd.heap.size (.slice co nD ccap):=fun q hq=>by have:=HQC.o.lv q hq;omega
        have hld:Lies wb.heap.size wd.heap.size (.slice dO nD dcap):=fun q hq=>by have:=HQD.o.lv q hq;omega
        have HLI2:=zq (Hf 0 nD (.slice co nD ccap) (.slice dO nD dcap) _ _ wy (byy.own HCZ.o (hTC _ hlc)) (byy.own HDZ.o (hTC _ hld)) (HQC.o.lv.ap HQD.o.lv (Nat.le_refl _)) (by omega) (Nat.zero_le _))
        have HBY:=zq (byy.toBelow (fun x hx q hq=>by
         rcases List.mem_cons.1 hx with h|h
         ·rw[h]at hq;exact(HL1'.o q hq).1
         ·rw[List.mem_singleton.1 h]at hq;exact(HL2'.o q hq).1) HBZ.o HBZ.o.size)
        have HLIE:Hid (∀x∈[Value.slice co nD ccap,.slice dO nD dcap],∀q,x.ownBlock=some q->w.heap.size<=q):=fun x hx q hq=>by
         rcases List.mem_cons.1 hx with h|h
         ·rw[h]at hq;have:=(hlc q hq).1;omega
         ·rw[List.mem_singleton.1 h]at hq;have:=(hld q hq).1;omega
        clear byy hTC hlc hld hord HNO;go_wp2_with fail;refine HLI2.o.mono ?_;rintro e wx ⟨rfl,bx⟩;have HBX':=zq (bx.toBelow HLIE.o HBY.o HBY.o.size);clear bx HLI2;go_wp2_with fail;go_ret;exact⟨rfl,HBX'.o⟩
end Go.Proofs.YtgfmiladfeoldaaGreatDoor
