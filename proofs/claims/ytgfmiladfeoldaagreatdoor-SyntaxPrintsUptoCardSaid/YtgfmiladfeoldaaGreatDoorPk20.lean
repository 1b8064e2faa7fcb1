/- SyntaxPrints, where what it reads is of bulk at most 1048576: the answer is true, for every list of nodes; the argument reads as it did. No other condition. -/
import Derived.Test.YtgfmiladfeoldaaGreatDoorPk19
import Derived.Test.YtgfmiladfeoldaaGreatDoorTie
import Derived.Test.YtgfmiladfeoldaaGreatDoorCards
set_option linter.unusedSimpArgs false
set_option linter.unusedVariables false
set_option maxRecDepth 100000
set_option maxHeartbeats 16000000
namespace Go.Proofs.YtgfmiladfeoldaaGreatDoor
open Go.RowKit ai ag
theorem Qfw (fin:Nat)(P:ae.St->ae.PR ae.Ex)(IH:eA 97 P fin)(R:Nat)(tv:Value)(L:List ag.Tok)(a:Nat)(s:ae.St)(nv:Value)(ns:List Nv)(w:World)(h:RS w R tv L fin a s nv ns)(k:ae.Ex)(s1:ae.St)(hN:P s=some (.ok (k,s1)))(hm:ae.Qv [44] s1.ts=false):Calls Tryz.prog 98 #[.pointer (some ⟨R,0,none⟩)] w (RP (some (.ok (.cons k .nil,s1))) R tv L fin s nv ns (PaQ R ns w) w):=by
 have HC:=IH R tv L a s nv ns w h (by rw[hN];simp);rw[hN]at HC;replace HC:=zq HC;have HM:=zq hm;clear h IH hN hm;go_enter Tryz.func98,Tryz.ntmps98;go_wp2_with fail;refine HC.o.mono ?_;rintro e w1 ⟨v1,a1,eU,ez,rfl,n1,rfl,iz⟩;obtain⟨p,hp⟩:=xq (ns.length+k.size-1);rw[<-hp];have HA:=zq (Qq w1 (.cells #[.int .i64 ((p:Nat):Int)] 3));have gL:Hid (ft (w1.alloc (.cells #[.int .i64 ((p:Nat):Int)] 3)) R eU (ns++ez) (.slice (some ⟨w1.heap.size,0,none⟩) 1 1) [p]):=(ft.fresh n1.rs [p]).resolve_right (by simp);have HP:=zq hp;have gQ:=zq (n1.step (n1.rs.below HA.o) (Wr.af HA.o) (aaa _) rfl);have oY:=zq iz;have HZ:Hid (w.heap.size<=w1.heap.size):=n1.wr.size;obtain⟨w2,hw2⟩:∃w2,w2=w1.alloc (.cells #[.int .i64 ((p:Nat):Int)] 3):=⟨_,rfl⟩;rw[<-hw2]at gL gQ;have dz:=zq hw2;clear hp n1 iz HC HA hw2;go_wp2_with fail;rw[<-dz.o];go_loopw [3] (fun kv wr=>kv=.slice (some ⟨w1.heap.size,0,none⟩) 1 1/\wr=w2) (fun _ _=>0)
 case atStart=>exact⟨rfl,rfl⟩
 case round=>
  obtain⟨rfl,hw⟩:=hrel;subst hw;go_wp2_with fail;refine(Zy R tv L fin a1 s1 eU (ns++ez) _ gQ.o.rs [44]).mono ?_;rintro e w3 ⟨he,t1,t2⟩;rw[HM.o]at he t2;subst he;rw[if_neg (by decide)]at t2;have mn:=zq (gQ.o.step t2 t1 (aaa _) rfl);have rN:Hid (ft w3 R eU (ns++ez) (.slice (some ⟨w1.heap.size,0,none⟩) 1 1) [p]):=⟨gL.o.1.wr (t1.weak _) (Mv.refl _ _),gL.o.2⟩;clear t1 t2;go_wp2_with fail;go_ret;refine⟨_,a1,eU,ez,rfl,mn.o,?_,?_,fun q hq=> ?_⟩
  ·show ft _ _ _ _ _ [ns.length+k.size-1]
   rw[<-HP.o];exact rN.o
  ·rw[oY.o];simp[ae.aV.flat]
  cases hq;exact HZ.o
def Qd3 (x:Bytes)(l:ae.aV)(s':ae.St):ae.PR ae.Ln:=some (.ok (.cmd x l,s'))
theorem Qc3 (fin:Nat)(P:ae.St->ae.PR ae.Ex)(IH:eA 97 P fin)(R:Nat)(tv:Value)(L:List ag.Tok)(s:ae.St)(nv:Value)(w:World)(h:RS w R tv L fin 0 s nv [])(x:Bytes)(s3 s5:ae.St)(k:ae.Ex)
  (h0:s.ts≠[]) (hk:ae.Qm 2 s.ts=true) (hl:(ae.Xx s.ts==ae.lK)=false) (hx:ae.name fin s=some (.ok (x,s3))) (h3:s3.ts≠[]) (hN:P s3=some (.ok (k,s5))) (hm:ae.Qv [44] s5.ts=false) (h5:s5.ts=[]):
  Calls Tryz.prog 49 #[.pointer (some ⟨R,0,none⟩)] w (LnP (Qd3 x (.cons k .nil) s5) R tv L fin nv w):=by
 have pZ:=zq h;have HD:Hid (decide (s.ts=[])=false):=abC h0;have x6:Hid (decide (s3.ts=[])=false):=abC h3;have HD5:Hid (decide (s5.ts=[])=true):=abH h5;have WI:Hid (∀(a:Nat) (w:World),RS w R tv L fin a s3 nv []->Calls Tryz.prog 98 #[.pointer (some ⟨R,0,none⟩)] w (RP (some (.ok (.cons k .nil,s5))) R tv L fin s3 nv [] (PaQ R [] w) w)):=fun a w h=>Qfw fin P IH R tv L a s3 nv [] w h k s5 hN hm;have HX:=zq hx;have xh:=h.few;rw[aaG,abx]at xh;have C2:=zq (Zj 2 [] s.ts (by decide));rw[hk]at C2;obtain⟨ao,cap,rfl,t1,t2,t3⟩:=h.tks;have hdr:=h.drop;rw[adq]at hdr;obtain⟨t,l,dm⟩:=List.exists_cons_of_ne_nil h0
 have lu:0<L.length:=by rw[hdr,dm];simp
 obtain⟨g,rfl,hg,dA⟩:=t3 lu;obtain⟨-,d1,-⟩:=dA 0 t (by rw[hdr,dm];rfl)
 have pH:t.2.1=ae.Xx s.ts:=by rw[dm];rfl
 rw[pH]at d1;have D1:=zq d1;have aT:=h.lt;have r9:=zq aT;obtain⟨tt,vp⟩:=xq (ae.Xx s.ts);rw[<-vp]at D1 hl;have HL:=zq hl
 have JJ:=zq (show s3.ts.length<s.ts.length from by
  have e1:=(Rg hx).1;have e2:=Qqm (Rg hx).2
  rw[<-e1]at e2;omega)
 clear h h0 t3 dA hdr dm d1 pH vp hk hl hx h3 h5 IH hN hm;go_enter Tryz.func49,Tryz.ntmps49;go_wp2_with fail;refine(Nh R _ L fin 0 s nv [] _ pZ.o).mono ?_;rintro e w1 ⟨rfl,b1⟩;rw[HD.o];have I6:Hid (uS R (.slice (some ⟨g,0,none⟩) L.length cap) L fin nv w w1 0 s nv []):=⟨pZ.o.below b1,Wr.af b1,Mv.refl _ _,fun p hp=>by cases hp⟩;have D2:Hid (w1.cell? ⟨g,1,none⟩=some (.string ⟨tt.toArray⟩)):=(b1.cell (p:=⟨g,1,none⟩) (by show g<_;have:=r9.o;omega)).trans D1.o
 have lC:g<w1.heap.size:=by have:=b1.size;have:=r9.o;omega
 clear b1;go_wp2_with fail;refine(X4 R _ L fin 0 s nv [] _ I6.o.rs 0 2 [] (by omega) (by omega)).mono ?_;rintro e w2 ⟨rfl,b1⟩;rw[C2.o];have rZ:=zq (I6.o.step (I6.o.rs.below b1) (Wr.af b1));have e0:=rZ.o.rs.cells.1;have e2:w2.cell? ⟨g,1,none⟩=some (.string ⟨tt.toArray⟩):=(b1.cell (p:=⟨g,1,none⟩) lC).trans D2.o;have hc:(tt==[108,101,116])=false:=HL.o;clear b1;go_wp2_with fail;refine(Qk4 R _ L fin 0 s nv [] _ rZ.o.rs).mono ?_;rintro e w3 hn;rw[HX.o]at hn;obtain⟨v3,a3,rfl,n1,n2,n3,rfl⟩:=hn;have mn:=zq (rZ.o.step n1 n2);clear n1 n2 n3;go_wp2_with fail;refine(Nh R _ L fin a3 s3 nv [] _ mn.o.rs).mono ?_;rintro e w4 ⟨rfl,b1⟩;rw[x6.o];have vU:=zq (mn.o.step (mn.o.rs.below b1) (Wr.af b1));clear b1;go_wp2_with fail;refine(WI.o a3 _ vU.o.rs).mono ?_;rintro e w5 ⟨v5,a5,nv5,ns5,rfl,n1,n2,n3,n4⟩;have FC:=zq (vU.o.trans n1);have HF:=zq n3;have gL:=zq n2;have HKF:Hid (∀q,v5.ownBlock=some q->w.heap.size<=q):=fun q hq=>aan vU.o.wr.size (n4 q hq);have hfw:=n1.few;rw[adz,aaG,abx]at hfw;have iE:=JJ.o;clear n1 n2 n3 n4;go_wp2_with fail;refine(Fm R _ L fin a5 s5 nv5 ([]++ns5) _ FC.o.rs ⟨12,x,(ae.aV.cons k .nil).roots 0⟩ _ gL.o (by rw[adz];omega)).mono ?_;rintro e w6 ⟨nv6,rfl,b1,b2,b3⟩;have FD:=zq (FC.o.put b1 b2 b3 HKF.o);clear b1 b2 b3
 have hmap:(([]++ns5)++[((⟨12,x,(ae.aV.cons k .nil).roots 0⟩:ae.Node),v5)]).map Prod.fst=(ae.Ln.cmd x (.cons k .nil)).flat:=by rw[adz,ado,HF.o];rfl
 have VQ:=zq hmap;clear hmap;go_wp2_with fail;refine(Nh R _ L fin a5 s5 nv6 _ _ FD.o.rs).mono ?_;rintro e w7 ⟨rfl,b1⟩;rw[HD5.o];have FE:=zq (FD.o.step (FD.o.rs.below b1) (Wr.af b1));clear b1;go_wp2_with fail
 first|go_end0|refine aaI (adF rfl _ _ _) rfl ?_
 exact⟨rfl,a5,nv6,_,FE.o.rs,FE.o.wr,VQ.o,FE.o.mv,FE.o.fresh⟩
theorem Qwe (fin:Nat)(R:Nat)(tv:Value)(L:List ag.Tok)(s:ae.St)(nv:Value)(w:World)(n:ae.Ln)(s':ae.St)(h:RS w R tv L fin 0 s nv [])(hl:∀w,RS w R tv L fin 0 s nv []->Calls Tryz.prog 49 #[.pointer (some ⟨R,0,none⟩)] w (LnP (some (.ok (n,s'))) R tv L fin nv w)):Calls Tryz.prog 48 #[.func (.func 49) #[.pointer (some ⟨R,0,none⟩)] #[]] w (GuP (some (.ok (n,s'))) R tv L fin nv w):=by
 have ky:∀(fn:Fn) (first cap:Array Value) (w:World),(Instr.makeFunc fn first cap).run Tryz.prog w=.ok (.func fn first cap) w:=fun _ _ _ _=>rfl;have HA:=zq (Qq w (.cells #[.int .i64 0,.int .i64 0] 81));have HS:=zq (h.below HA.o);have aT:=h.lt;have HB:=zq (aaz w (.cells #[.int .i64 0,.int .i64 0] 81));have HL:=zq hl;have kH:Hid (∀q,nv.ownBlock=some q->q<w.heap.size):=fun q hq=>(h.own.lt q hq).2;clear h hl;go_enter_defers Tryz.func48,Tryz.ntmps48;go_wp2_with fail;refine(HL.o _ HS.o).mono ?_;rintro e w2 hn;obtain⟨rfl,a',dR,ns',n1,n2,n3,n4,n5⟩:=hn;have hb:w2.heap[w.heap.size]?=some (.cells #[.int .i64 0,.int .i64 0] 81 (0,0)):=(n2.block w.heap.size (by simp) (by omega) (fun e=>by have:=kH.o _ e.symm;omega)).trans HB.o;have hz0:w2.frozen? ⟨w.heap.size,0,none⟩=false:=aaH _ _ 0 _ _ hb;have hz1:w2.frozen? ⟨w.heap.size,1,none⟩=false:=aaH _ _ 1 _ _ hb
 have hc0:w2.cell? ⟨w.heap.size,0,none⟩=some (.int .i64 0):=by rw[aam _ _ 0 _ _ _ hb];rfl
 have hc1:w2.cell? ⟨w.heap.size,1,none⟩=some (.int .i64 0):=by rw[aam _ _ 1 _ _ _ hb];rfl
 have CY:dR.ownBlock≠some w.heap.size:=fun e=>by
  rcases n4 _ e with h1|h1
  ·have:=kH.o _ h1;omega
  simp at h1;omega
 have tS:∀p∈ns',p.2.ownBlock≠some w.heap.size:=fun p hp e=>by have h1:=n5 p hp _ e;simp at h1;omega
 have g1:=(n1.pj (Gh (g:=w.heap.size) (o:=0) w2 (.int .i64 0)) (fun q hq=>by cases hq;exact⟨aT,CY,tS⟩)).1;have g2:=(g1.pj (Gh (g:=w.heap.size) (o:=1) _ (.int .i64 0)) (fun q hq=>by cases hq;exact⟨aT,CY,tS⟩)).1;have G2:=zq g2;have gM:=zq (((((Wr.af (R:=R) (og:=nv.ownBlock) HA.o).trans (Mv.refl _ _) n2).PB (g:=w.heap.size) (o:=0) (aaa _) (.int .i64 0)).PB (g:=w.heap.size) (o:=1) (aaa _) (.int .i64 0)));have N3:=zq n3;have s1:=aas w2 w.heap.size 0 _ 81 (.int .i64 0) hb;have S2:=zq (aas (w2.setCell ⟨w.heap.size,0,none⟩ (.int .i64 0)) w.heap.size 1 _ 81 (.int .i64 0) s1);clear n1 n2 n3 n4 n5 hb CY tS g1 g2 s1;go_wp2_with fail;refine leaves_cons (f:=92) (args:= #[.pointer (some ⟨w.heap.size,0,none⟩)]) (by simp) (by simp[go_sem]) ?_;refine(R8 w.heap.size _).mono ?_;rintro e u' w3 ⟨rfl,rfl,hw3⟩;rw[<-hw3]at G2 gM
 have q0:w3.cell? ⟨w.heap.size,0,none⟩=some (.int .i64 0):=by rw[hw3,aam _ _ 0 _ _ _ S2.o];rfl
 have q1:w3.cell? ⟨w.heap.size,1,none⟩=some (.int .i64 0):=by rw[hw3,aam _ _ 1 _ _ _ S2.o];rfl
 clear hw3;simp[Leaves,settle,results,Tryz.results48,go_sem,q0,q1];exact⟨rfl,a',dR,ns',G2.o,gM.o,N3.o⟩
def qX (s0:ae.St)(k:ae.Ex)(s1 s:ae.St):ae.PR ae.Ex:=if s=s0 then some (.ok (k,s1)) else none
theorem RG {s0:ae.St}{k:ae.Ex}{s1:ae.St}:∀s e,qX s0 k s1 s≠some (.error e):=by intro s e;unfold qX;split<;>simp
theorem eA.at {F:Nat}{P:ae.St->ae.PR ae.Ex}{fin:Nat}(h:eA F P fin){s0:ae.St}{k:ae.Ex}{s1:ae.St}(e:P s0=some (.ok (k,s1))):eA F (qX s0 k s1) fin:=by
 intro R tv L a s nv ns w I H;by_cases hs:s=s0
 ·subst hs
  have E:=h R tv L a s nv ns w I (by rw[e];simp);rw[e]at E;unfold qX;rw[if_pos rfl];exact E
 exact absurd (by unfold qX;rw[if_neg hs]) H
def Z6:List ag.Tok:=match aw 1 (Qx YM) with| .ok ts=>ts| .error _=>[]
theorem Qcn:eA 251 (qX ⟨Z6.drop 2,0⟩ (.name [65]) ⟨Z6.drop 3,0⟩) 12:=by
 intro R tv L a s nv ns w H E;by_cases hs:s=⟨Z6.drop 2,0⟩
 ·subst hs
  have e:ae.atom 12 1 ⟨Z6.drop 2,0⟩=some (.ok (.name [65],⟨Z6.drop 3,0⟩)):=by kernel_rfl
  have h:=Qwp 12 0 R tv L a ⟨Z6.drop 2,0⟩ nv ns w H (by kernel_rfl) (by kernel_rfl) (by kernel_rfl) (by rw[e];simp);rw[e]at h;unfold qX;rw[if_pos rfl];exact h
 exact absurd (by unfold qX;rw[if_neg hs]) E
theorem Qbn:eA 97 (qX ⟨Z6.drop 1,0⟩ (.neg (.pow (.turn (.name [65])) 2)) ⟨[],0⟩) 12:=by have a1:eA 235 (qX ⟨Z6.drop 2,0⟩ (.turn (.name [65])) ⟨Z6.drop 4,0⟩) 12:=(Qdj 12 3 _ RG Qcn).at (by kernel_rfl);have a2:eA 208 (qX ⟨Z6.drop 1,0⟩ (.neg (.pow (.turn (.name [65])) 2)) ⟨[],0⟩) 12:=(Qgd 12 3 _ RG a1).at (by kernel_rfl);have a3:eA 160 (qX ⟨Z6.drop 1,0⟩ (.neg (.pow (.turn (.name [65])) 2)) ⟨[],0⟩) 12:=(Qdm 12 _ RG a2).at (by kernel_rfl);exact(Qca 12 _ RG a3).at (by kernel_rfl)
theorem Qfk (w:World)(hx:Lx w)(hs:SG w)(hsz:4<w.heap.size):Calls Tryz.prog 13 #[.string KN] w fun e w'=> ∃nv ns,e=.returned (.tuple #[nv,.int .i64 0,.int .i64 0])/\Below w.heap.size w w'/\Tr w' w.heap.size nv ns/\ns.map Prod.fst=Uo.flat:=by
 have ky:∀(fn:Fn) (first cap:Array Value) (w:World),(Instr.makeFunc fn first cap).run Tryz.prog w=.ok (.func fn first cap) w:=fun _ _ _ _=>rfl;have HST:=zq (M7 KN w (by show _<=_;decide) hx hs hsz);have iE:KN.size=11:=rfl
 have hT:aw 1 (Qx KN.data.toList)=.ok Z6:=by kernel_rfl
 obtain⟨T,GF⟩:=xq KN;rw[<-GF]at HST iE hT ⊢;have HT:=zq hT
 have HFN:Hid ((Qx T.data.toList).length+1=12):=by show _=_;rw[GF];kernel_rfl
 clear hx hs hT GF;go_enter Tryz.func13,Tryz.ntmps13;go_wp2_with fail;refine HST.o.mono ?_;rintro e w1 hn;unfold FU at hn;rw[HT.o,HFN.o]at hn;obtain⟨R,tv,rfl,hR,hb,h⟩:=hn;have HS:=zq h;have HB:=zq hb;clear hb h;go_wp2_with fail;refine(Qwe 12 R tv Z6 ⟨Z6,0⟩ _ _ Uo ⟨[],0⟩ HS.o (fun w h=>Qc3 12 _ Qbn R tv Z6 ⟨Z6,0⟩ _ w h [112,114,105,110,116] ⟨Z6.drop 1,0⟩ ⟨[],0⟩ _ (by decide+kernel) (by kernel_rfl) (by kernel_rfl) (by kernel_rfl) (by decide+kernel) (by kernel_rfl) (by kernel_rfl) rfl)).mono ?_;rintro e w2 ⟨rfl,a',dR,ns',n1,n2,n3⟩;have HA:=zq (Qq w2 (.cells #[.int .i64 0,.int .i64 0] 81));have HW:=zq (Qz (Wr.cA n2 HB.o hR) HA.o);have n1':=n1.below HA.o;have jT:=zq (n1'.tr hR);have e4:=n1'.cells.2.2.2.2
 have hlen:ns'.length=5:=by have:=aa7 List.length n3;rw[aay]at this;exact this
 have ew:=zq n3;obtain⟨ao,cap,rfl,-,-,-⟩:=Qj n1.own;rw[hlen]at e4;have VM:=zq hlen;clear n1 n1' n2 n3 hlen;go_wp2_with fail;go_ret3;refine⟨.slice ao 5 cap,ns',rfl,HW.o,?_,ew.o⟩;rw[<-VM.o];exact jT.o
theorem Qvi (w:World)(hx:Lx w)(hs:SG w)(hsz:4<w.heap.size):Calls Tryz.prog 12 #[] w fun e w'=>e=.returned (.bool true)/\Below w.heap.size w w':=by
 have HX:=zq hx;have HS:=zq hs;have HP:=zq (Qfk w hx hs hsz);clear hx hs;go_enter Tryz.func12,Tryz.ntmps12;go_wp2_with fail;refine HP.o.mono ?_;rintro e w1 hn;obtain⟨nv,ns,rfl,hb,jJ,iz⟩:=hn;have SR:=jJ.ndl;rw[iz]at SR;have EY:=zq SR;have HB:=zq hb;obtain⟨ao,cap,rfl,h1,h2,hc⟩:=SR;rw[Qwx]at h1 hc ⊢;obtain⟨g,rfl,hg,hc⟩:=hc (by decide);obtain⟨e0,-,-⟩:=hc 3 _ rfl;obtain⟨-,e1,-⟩:=hc 2 _ rfl;have e0:w1.cell? ⟨g,9,none⟩=some (.int .i64 4):=e0;have e1:w1.cell? ⟨g,7,none⟩=some (.string ⟨#[50]⟩):=e1;have FF:=zq (Fw Uo (.slice (some ⟨g,0,none⟩) 5 cap) w1 w1.heap.size Qhn EY.o (aaa _) (HX.o.below hb) (HS.o.below hb hsz) (aaj hsz hb.size));simp only[aaf,aaG]at h1 ⊢;clear hb jJ iz hc;go_wp2_with fail;refine FF.o.mono ?_;rintro e w2 ⟨h3,hb2⟩
 have SM:Uo.dp=0:=by decide
 rw[if_neg (by omega),Qwz]at h3;subst h3;have aD:=zq (Qz HB.o hb2);clear hb2;go_wp2_with fail;go_ret;exact⟨rfl,aD.o⟩
theorem El (l:List ae.NI)(ao:Option Addr)(cap:Nat)(w:World)(h:4096<l.length)(hc:l.length<=9223372036854775807):Calls Tryz.prog 39 #[.slice ao l.length cap] w fun e w'=>e=.returned (.tuple #[.string .empty,.int .i64 5])/\w=w':=by obtain⟨m,hm⟩:=xq l.length;rw[<-hm]at h hc ⊢;clear hm;go_enter Tryz.func39,Tryz.ntmps39;go_wp2_with fail;go_ret2;exact⟨rfl,rfl⟩
theorem Eu (l:List ae.NI)(v:Value)(w:World)(B:Nat)(h:l.length<=4096)(hg:ae.Qi ae.WV l.length 0 [] l=false)(ht:∀x∈l,x.text.length<=1048576)(hv:eB w B v l)(hB:B<=w.heap.size):Calls Tryz.prog 39 #[v] w fun e w'=>e=.returned (.tuple #[.string .empty,.int .i64 10])/\Below w.heap.size w w':=by have HC:=zq (Fc PG v l w B h ht hv hB);have HG:=zq hg;obtain⟨ao,cap,rfl,-⟩:=hv;obtain⟨m,hm⟩:=xq l.length;rw[<-hm]at h HC HG ⊢;clear hm hg ht;go_enter Tryz.func39,Tryz.ntmps39;go_wp2_with fail;refine HC.o.mono ?_;rintro e w1 ⟨rfl,hb⟩;rw[HG.o];have aC:=zq hb;clear hb;go_wp2_with fail;go_ret2;exact⟨rfl,aC.o⟩
theorem Qbx (N:List ae.Node):(N.map aq.cost).sum<=7*((ae.nL N).map fun n=>n.text.length+n.kids.length+1).sum:=by
 induction N with
 |nil=>simp[ae.nL]
 |cons a l ih=>
  simp only[ae.nL,abK,adY]at ih ⊢;have h:aq.cost a=a.text.length+4*a.kids.length+7:=rfl;have E:(ae.Node.gH a).text.length=a.text.length:=rfl
  have H:(ae.Node.gH a).kids.length=a.kids.length:=by show (a.kids.map _).length=_;rw[aay]
  rw[h,E,H];omega
theorem Qq9 (v:Value)(l:List ae.NI)(w:World)(hv:wF w v l)(hl:l.length<=4194304)(hk:∀x∈l,x.kids.length<=4194304)(ht:(l.map fun x=>x.text.length).sum<=1048576)(mZ:(l.map fun n=>n.text.length+n.kids.length+1).sum<=1048576)(hx:Lx w)(hs:SG w)(hsz:4<w.heap.size):Calls Tryz.prog 9 #[v] w fun e w'=>e=.returned (.bool true)/\Below w.heap.size w w':=by
 have HX:=zq hx;have HS:=zq hs;have HW:=zq (Qvi w hx hs hsz);have HV:=zq hv;have HL:=zq hl;have HK:=zq hk
 have DO:∀x∈l,x.text.length<=1048576:=fun x hx=>by have:x.text.length<=(l.map fun x=>x.text.length).sum:=Qzz hx;omega
 have JQ:=zq DO
 have FL:Hid (∀x∈l,x.text.length<=67108864):=fun x hx=>by have:=DO x hx;omega
 have JP:=zq ht;have WZ:=zq mZ;obtain⟨ao,cap,rfl,-,-,-⟩:=hv;obtain⟨m,hm⟩:=xq l.length;rw[<-hm]at HV ⊢;have HM:=zq hm;clear hx hs DO ht hm hk hl mZ;go_enter Tryz.func9,Tryz.ntmps9;go_wp2_with fail;refine HW.o.mono ?_;rintro e w1 ⟨rfl,hb1⟩;have aC:=zq hb1;have eE:4<w1.heap.size:=aaj hsz hb1.size;have yy:=zq (HX.o.below hb1);have cL:=zq (HS.o.below hb1 hsz);have qc:=zq (HV.o.below hb1);clear hb1;go_wp2_with fail;refine(Ps _ l _ HL.o HK.o qc.o).mono ?_;rintro e w2 ⟨u2,rfl,jX,hb2⟩;have jl:=zq jX;have aD:=zq (Qz aC.o hb2);have eF:4<w2.heap.size:=aaj eE hb2.size;have QU:=zq (yy.o.below hb2);have cr:=zq (cL.o.below hb2 eE);have iH:=zq (qc.o.below hb2);clear hb2 jX;by_cases cR:4096<l.length
 ·obtain⟨uo,uc,hu,-⟩:=jl.o
  subst hu;have TZ:=zq cR
  have CO:l.length<=9223372036854775807:=by have:=HL.o;omega
  have VL:=zq CO;have nK:=zq (El l uo uc w2 cR CO);obtain⟨q,hq⟩:=xq l.length;rw[<-hq]at nK ⊢;clear cR CO hq jl;go_wp2_with fail;refine nK.o.mono ?_;rintro e w3 ⟨rfl,rfl⟩;go_wp2_with fail;refine(Ps _ l _ HL.o HK.o iH.o).mono ?_;rintro e w4 ⟨u4,rfl,oQ,hb4⟩;have bG:=zq (Qz aD.o hb4);obtain⟨uo4,uc4,hu,-⟩:=oQ;subst hu;have pX:=zq (Qys l uo4 uc4 w4 TZ.o VL.o);obtain⟨q4,GV⟩:=xq l.length;rw[<-GV]at pX ⊢;clear hb4 GV;go_wp2_with fail;refine pX.o.mono ?_;rintro e w5 ⟨rfl,rfl⟩;go_wp2_with fail;go_ret;exact⟨rfl,bG.o⟩
 have IV:Hid (l.length<=4096):=by show _<=_;omega
 clear cR
 cases hg:ae.Qi ae.WV l.length 0 [] l with
 |false=>
  have HG:=zq hg;have nK:=zq (Eu l u2 w2 _ IV.o hg JQ.o jl.o (aaa _));clear hg;go_wp2_with fail;refine nK.o.mono ?_;rintro e w3 ⟨rfl,hb3⟩;have aS:=zq (Qz aD.o hb3);have kA:4<w3.heap.size:=aaj eF hb3.size;have XQ:=zq (QU.o.below hb3);have gR:=zq (cr.o.below hb3 eF);have qd:=zq (iH.o.below hb3);clear hb3;go_wp2_with fail;refine(Ps _ l _ HL.o HK.o qd.o).mono ?_;rintro e w4 ⟨u4,rfl,oQ,hb4⟩;have eX:=zq oQ;have bG:=zq (Qz aS.o hb4);have iP:4<w4.heap.size:=aaj kA hb4.size;have JW:=zq (XQ.o.below hb4);have lW:=zq (gR.o.below hb4 kA);have pX:=zq (Qyn l u4 w4 _ IV.o HG.o FL.o eX.o (aaa _) JW.o lW.o iP);clear hb4 oQ;go_wp2_with fail;refine pX.o.mono ?_;rintro e w5 ⟨rfl,bL⟩;have dU:=zq (Qz bG.o bL);clear bL;go_wp2_with fail;go_ret
  exact⟨rfl,dU.o⟩
 |true=>
  have hl0:l≠[]:=by rintro rfl;simp[ae.Qi]at hg
  obtain⟨n,SN,eK⟩:=Qwa hg hl0 IV.o JP.o;have HFT:=zq SN;have dH:=zq eK
  have VY:Hid (eB w2 w2.heap.size u2 (ae.nL n.flat)):=by show eB _ _ _ _;rw[eK];exact jl.o
  have nK:=zq (Fu PG n u2 w2 _ SN.wf SN.size (by rw[eK];exact JQ.o) (by have h1:=Qbx n.flat;rw[eK]at h1;have:=WZ.o;omega) VY.o (aaa _));clear hg hl0 SN eK
  obtain⟨r,hr⟩:∃r:ByteArray×Int,r=if 100<n.dp then (.empty,5) else (⟨n.pr.toArray⟩,0):=⟨_,rfl⟩
  have HR:Hid (∀(w:World) (e:Ending) (w':World),Ra n w e w'->e=.returned (.tuple #[.string r.1,.int .i64 r.2])/\Below w.heap.size w w'):=by
   intro w e w' h;refine⟨?_,h.2⟩;have h1:=h.1;rw[hr];split at h1
   ·rename_i h2;rw[if_pos h2];exact h1
   rename_i h2;rw[if_neg h2];exact h1
  clear hr;obtain⟨r1,r2⟩:=r;go_wp2_with fail;refine nK.o.mono ?_;intro e w3 hp;obtain⟨rfl,hb3⟩:=HR.o _ _ _ hp;have aS:=zq (Qz aD.o hb3);have kA:4<w3.heap.size:=aaj eF hb3.size;have XQ:=zq (QU.o.below hb3);have gR:=zq (cr.o.below hb3 eF);have qd:=zq (iH.o.below hb3);clear hb3 hp;go_wp2_with fail;refine(Ps _ l _ HL.o HK.o qd.o).mono ?_;rintro e w4 ⟨u4,rfl,oQ,hb4⟩;have bG:=zq (Qz aS.o hb4);have iP:4<w4.heap.size:=aaj kA hb4.size;have JW:=zq (XQ.o.below hb4);have lW:=zq (gR.o.below hb4 kA)
  have j8:Hid (eB w4 w4.heap.size u4 (ae.nL n.flat)):=by show eB _ _ _ _;rw[dH.o];exact oQ
  have pX:=zq (Fw n u4 w4 _ HFT.o j8.o (aaa _) JW.o lW.o iP);clear hb4 oQ;go_wp2_with fail;refine pX.o.mono ?_;intro e w5 hp;obtain⟨rfl,bL⟩:=HR.o _ _ _ hp;have dU:=zq (Qz bG.o bL);clear bL hp;go_wp2_with fail;go_ret;exact⟨by simp,dU.o⟩
open Go.ChangeShapes Go.WideShapes Go.ChangeAt
open Go.ChangeMaps (open_string shut_string)
theorem prints_witness (os:Os){H:Type}(enc:TypeId×Value->H):(Rows.OpenSpec.upto Rows.syntaxPrintsSpec).preRow enc Tryz.prog Tryz.f9 Rows.syntaxPrintsUptoRow.domain false KM ((Td os).forCall (fun _ _=>0) ⟨#[],#[.slice none 0 0],[]⟩).memory #[.slice none 0 0]:=by
 have E:(DataW.whole enc Tryz.prog ((Td os).forCall (fun _ _=>0) ⟨#[],#[.slice none 0 0],[]⟩).memory Tryz.f9.params.toList Rows.syntaxPrintsSpec.vars false #[Value.slice none 0 0].toList 8).map (fun x=>(x.1,x.2.1))=
   some ([.nil],[]):=by kernel_rfl
 obtain⟨⟨x1,x2,x3⟩,I,h⟩:=aee.1 E;simp only[Prod.mk.injEq]at h;obtain⟨rfl,rfl⟩:=h;exact OpenSpec.preRow_of_cond 8 I (by kernel_rfl) (fun k hk=>by cases hk;rfl) (by kernel_rfl) (Qw5 os _)
theorem prints_row {H:Type}{enc:TypeId×Value->H}(v:Value)(x:DataW H×List MemPlace)(fuel:Nat)(w:World)(ht:DataW.trod enc Tryz.prog w 0 (fun _=>true) true fuel 23 [v]=some x)(hk:Rows.uptoSmall H [x.1]=true)(h:Lx w)(hl:laidMetH Tryz.prog KM w):Calls Tryz.prog 9 #[v] w fun e w'=>e=.returned (.bool true)/\Below w.heap.size w w':=by have I:=bulk hk;simp only[Rows.uptoBulkAll]at I;obtain⟨l,O,E⟩:=Qyu ht;obtain⟨a,b,c⟩:=Qpv (M:=1048576) (aan E (by omega));obtain⟨J,K⟩:=Qxe hl;exact Qq9 v l w O (by omega) (fun x hx=>aan (c x hx) (by omega)) b (aan E (by omega)) h J K
theorem syntaxPrints_lifted (os:Os)(started:os.Started)(H:Type)(enc:TypeId×Value->H)(F:Stop.Interp):ReturnsInHanded {} Tryz.checked os 9 .any ((Rows.OpenSpec.upto Rows.syntaxPrintsSpec).preRow enc Tryz.prog Tryz.f9 Rows.syntaxPrintsUptoRow.domain false KM) (((Rows.OpenSpec.upto Rows.syntaxPrintsSpec).at F).post enc Tryz.prog Tryz.f9 false true false false):=by
 refine returnsInHanded_of_row (C:=Tryz.checked) (s:=Rows.OpenSpec.upto Rows.syntaxPrintsSpec) own started (by kernel_rfl) Tryz.func9
  (witness_row_at (enc:=enc) (C:=Tryz.checked) false (Td os) #[.slice none 0 0] rfl (by kernel_rfl) (by kernel_rfl) (by kernel_rfl) (prints_witness os enc)) ?_
 intro W base args ds gs before OI hW _ CC _ hL aU _;have hk:Rows.uptoSmall H (ds++gs)=true:=CC _ rfl;have hval:∀(j:Nat) t v,Tryz.f9.params[j]?=some t->args[j]?=some v->Value.okWide Tryz.prog W .any base t v:=OI;have hW':=hW;obtain⟨p,q,fJ,hV,rfl,hfz,SR⟩:=hW;have hA:DataW.TrodAll enc Tryz.prog W 0 (fun _=>true) true Tryz.f9.params.toList args.toList ds p:=fJ;rw[Tryz.params9]at hA hval;obtain⟨v0,vs0,d0,pg,p0,q0,ab9,rfl,rfl,h0,r0⟩:=trodAll_cons hA;obtain⟨rfl,rfl,rfl⟩:=trodAll_nil r0
 obtain rfl:args= #[v0]:=by cases args;simp_all
 obtain⟨rfl,rfl⟩:=trodVars_none hV;have hAA:=fJ;have hlt:=hW'.lt;clear fJ;simp only[ab4]at hW' hk hlt hAA;obtain⟨sa,sl,sc,rfl⟩:=okWide_slice Tryz.underlying23 (hval 0 23 v0 rfl rfl);obtain⟨f0,hf0⟩:=h0;refine(prints_row _ (d0,p0) f0 W hf0 hk (Bg aU) hL).mono fun e W' ⟨he,kJ⟩=> ?_;subst he;exact⟨_,rfl,_,_,_,[],_,[],hW',trodAll_mk1 (shut_bool Tryz.underlying4 _),Ro kJ (DataW.TrodAll.respare Qd2 Qd0 (by rw[Tryz.params9];decide+kernel) hAA (fun x hx=>abH (hlt x hx))) hlt,rfl,kJ.frame _,fun h=>by cases h⟩
theorem syntaxPrints_facts:joinedFacts Tryz.prog 9 Tryz.f9 (Rows.OpenSpec.upto Rows.syntaxPrintsSpec).bare Rows.syntaxPrintsUptoRow=true:=by kernel_rfl
theorem syntaxPrints_row:Rows.SyntaxPrintsUptoSaid:=
 OpenClaim.holds_of_cond 9 Tryz.f9 rfl rfl rfl rfl rfl rfl rfl ⟨rfl,rfl,rfl,rfl,rfl⟩ rfl rfl rfl rfl rfl (by kernel_rfl) Tryz.func9 syntaxPrints_facts
  (of_decide_eq_true (by kernel_rfl)) (by unfold Func.isWrapper;first|(rw[if_pos (by decide+kernel)];kernel_rfl)|(rw[if_neg (by decide+kernel)];exact⟨rfl,rfl⟩))
  (fun os started H enc _ F=>by rw[OpenClaim.pre_eq_preRow];exact syntaxPrints_lifted os started H enc F)
theorem syntaxPrints_proved:Rows.SyntaxPrintsUptoCardSaid:=
 Claim7.holds_tied_plain_at .later [] [.data, .data, .data, .data] true (true, "1f45b84775363bf8e2222e170eabc7910a866ce765de4deb505d72284f205f1a") true
  syntaxPrints_row (fun _ h=>by cases h) (by kernel_rfl) (fun _ h=>by cases h) syntaxPrintsUpto_row_tie rfl ⟨rfl,rfl⟩ (by kernel_rfl) rfl
  (fun f fn hf hfn=>by
   obtain rfl : f = 9 := aax ((show Tryz.prog.funcNamed "trellis/trellislaw26.SyntaxPrints" = some 9 by kernel_rfl).symm.trans hf) |>.symm
   obtain rfl:fn=Tryz.f9:=(aax (Tryz.func9.symm.trans hfn)).symm
   exact⟨by kernel_rfl,fun j t ht=>by
    rw[Tryz.params9]at ht
    have E:t=23:=by
     rcases j with _|j
     ·simpa using ht.symm
     ·simp at ht
    subst E
    exact(show Tryz.prog.wantsStandIn 23=false by kernel_rfl)⟩)
  (by kernel_rfl)
#print axioms syntaxPrints_proved
end Go.Proofs.YtgfmiladfeoldaaGreatDoor
