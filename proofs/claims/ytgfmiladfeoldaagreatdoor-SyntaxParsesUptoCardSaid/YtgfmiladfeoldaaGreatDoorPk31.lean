/- Joined texts of this claim's proof: WrF, WrG, WrH, LwA, WtI, LwB, LwC, LwD. -/
import Derived.Test.YtgfmiladfeoldaaGreatDoorPk1
import Derived.Test.YtgfmiladfeoldaaGreatDoorPk30
import Derived.Maps.OwnOps
import Derived.Test.YtgfmiladfeoldaaGreatDoorPk28
import Derived.Test.YtgfmiladfeoldaaGreatDoorPk18
set_option linter.unusedSimpArgs false
set_option linter.unusedVariables false
set_option maxRecDepth 100000
set_option maxHeartbeats 16000000
namespace Go.Proofs.YtgfmiladfeoldaaGreatDoor
open Go.RowKit NatP LexP
theorem Qmf (l:List SynP.NI)(R K:Nat)(tv bv:Value)(out:Qx)(o m:Nat)(w:World)(h:WrS w R tv bv out o m)(ht:NdL w R tv l)(text:Qx)(ks:List Int)(hx:l[K]?=some ⟨((1:Nat):Int),text,ks⟩)(hl:out.length+text.length<=1099511627776):
  Calls Tryz.prog 51 #[.pointer (some ⟨R,0,none⟩),.int .i64 (K:Nat)] w (WrP R tv bv (out++text) o m (.tuple #[]) w):=by
 obtain⟨tg,ln,tcap,ko,kn,kcap,rfl,hKl,hkn,hkc,c0,c1,c2,c3,hb,hN⟩:=Wz h ht hx;have HKN:=zq hkn;have HB:=zq hb;have HN:=zq hN;obtain⟨OUT,hOUT⟩:=xq (out++text);have HOUT:=zq hOUT;obtain⟨M,hM⟩:=xq m;have HM:=zq hM;have hle:=h.le;have hmf:∀(fn:Fn) (first cap:Array Value) (w:World),(Instr.makeFunc fn first cap).run Tryz.prog w=.ok (.func fn first cap) w:=fun _ _ _ _=>rfl;rw[<-hOUT];clear hb hN h ht hx hOUT hM hkn;go_enter Tryz.func51,Tryz.ntmps51;go_wp2_with fail;obtain⟨w2,hw2⟩:=xq ((w.alloc (.cells #[.pointer (some ⟨R,0,none⟩)] 86)).alloc (.cells #[.int .i64 1,.string ⟨text.toArray⟩,.slice ko kn kcap] 43));have hw2':w2=(w.alloc (.cells #[.pointer (some ⟨R,0,none⟩)] 86)).alloc (.cells #[.int .i64 ((1:Nat):Int),.string ⟨(text:Qx).toArray⟩,.slice ko kn kcap] 43):=hw2;rw[<-hw2']at HB HN;rw[<-hw2];clear hw2 hw2' c0 c1 c2 c3;obtain⟨G,hG⟩:=xq w.heap.size;rw[<-hG]at HN ⊢;obtain⟨g0,g1,g2,g3⟩:=HN.o.cells;have HGE:=zq hG;clear hG
 go_region_held3 (fun w'=>w'.cell? ⟨G,0,none⟩=some (.pointer (some ⟨R,0,none⟩))/\w'.cell? ⟨G+1,1,none⟩=some (.string ⟨(text:Qx).toArray⟩))
  (first
   |go_keep
   |exact⟨((HN.o.below (below_drewN _ _)).step a1 a2 a3).cells.1,((HN.o.below (below_drewN _ _)).step a1 a2 a3).cells.2.2.1⟩)
  ((go_at_call 105;refine(Pc R _ _ _ _ _ (text) _ (HN.o.ws.below (below_drewN _ _)) (by omega) (by omega)).mono ?_;rintro y w5 ⟨rfl,bv5,a1,a2,a3⟩))
 have HN5:=zq ((HN.o.below (below_drewN _ _)).step a1 a2 a3);clear a1 a2 a3 g0 g1 g2 g3;obtain⟨g0,g1,g2,g3⟩:=HN5.o.cells;go_wp2_with fail
 first|go_end0|refine bodyPost_ret (results_none rfl _ _ _) rfl ?_
 have hf:=HN5.o.fin HB.o;rw[show out++text=OUT by exact HOUT.o.symm]at hf;exact hf
theorem A7 (l:List SynP.NI)(R K:Nat)(tv bv:Value)(out:Qx)(o m:Nat)(w:World)(h:WrS w R tv bv out o m)(ht:NdL w R tv l)(text:Qx)(ks:List Int)(hx:l[K]?=some ⟨((2:Nat):Int),text,ks⟩)(hl:out.length+text.length<=1099511627776):
  Calls Tryz.prog 51 #[.pointer (some ⟨R,0,none⟩),.int .i64 (K:Nat)] w (WrP R tv bv (out++text) o m (.tuple #[]) w):=by
 obtain⟨tg,ln,tcap,ko,kn,kcap,rfl,hKl,hkn,hkc,c0,c1,c2,c3,hb,hN⟩:=Wz h ht hx;have HKN:=zq hkn;have HB:=zq hb;have HN:=zq hN;obtain⟨OUT,hOUT⟩:=xq (out++text);have HOUT:=zq hOUT;obtain⟨M,hM⟩:=xq m;have HM:=zq hM;have hle:=h.le;have hmf:∀(fn:Fn) (first cap:Array Value) (w:World),(Instr.makeFunc fn first cap).run Tryz.prog w=.ok (.func fn first cap) w:=fun _ _ _ _=>rfl;rw[<-hOUT];clear hb hN h ht hx hOUT hM hkn;go_enter Tryz.func51,Tryz.ntmps51;go_wp2_with fail;obtain⟨w2,hw2⟩:=xq ((w.alloc (.cells #[.pointer (some ⟨R,0,none⟩)] 86)).alloc (.cells #[.int .i64 2,.string ⟨text.toArray⟩,.slice ko kn kcap] 43));have hw2':w2=(w.alloc (.cells #[.pointer (some ⟨R,0,none⟩)] 86)).alloc (.cells #[.int .i64 ((2:Nat):Int),.string ⟨(text:Qx).toArray⟩,.slice ko kn kcap] 43):=hw2;rw[<-hw2']at HB HN;rw[<-hw2];clear hw2 hw2' c0 c1 c2 c3;obtain⟨G,hG⟩:=xq w.heap.size;rw[<-hG]at HN ⊢;obtain⟨g0,g1,g2,g3⟩:=HN.o.cells;have HGE:=zq hG;clear hG
 go_region_held3 (fun w'=>w'.cell? ⟨G,0,none⟩=some (.pointer (some ⟨R,0,none⟩))/\w'.cell? ⟨G+1,1,none⟩=some (.string ⟨(text:Qx).toArray⟩))
  (first
   |go_keep
   |exact⟨((HN.o.below (below_drewN _ _)).step a1 a2 a3).cells.1,((HN.o.below (below_drewN _ _)).step a1 a2 a3).cells.2.2.1⟩)
  ((go_at_call 105;refine(Pc R _ _ _ _ _ (text) _ (HN.o.ws.below (below_drewN _ _)) (by omega) (by omega)).mono ?_;rintro y w5 ⟨rfl,bv5,a1,a2,a3⟩))
 have HN5:=zq ((HN.o.below (below_drewN _ _)).step a1 a2 a3);clear a1 a2 a3 g0 g1 g2 g3;obtain⟨g0,g1,g2,g3⟩:=HN5.o.cells;go_wp2_with fail
 first|go_end0|refine bodyPost_ret (results_none rfl _ _ _) rfl ?_
 have hf:=HN5.o.fin HB.o;rw[show out++text=OUT by exact HOUT.o.symm]at hf;exact hf
theorem Qp5 {e:SynP.Ex}{op:Nat}{t:Qx}(hf:∀p,e.flat p=[⟨op,t,[]⟩])(hp:e.pr=t)(hs:e.size=1)(hd:e.dp=0)
  (H:∀(l:List SynP.NI) (R K:Nat) (tv bv:Value) (out:Qx) (o m:Nat) (w:World),WrS w R tv bv out o m->NdL w R tv l-> ∀(text:Qx) (ks:List Int),l[K]?=some ⟨((op:Nat):Int),text,ks⟩->out.length+text.length<=1099511627776->
   Calls Tryz.prog 51 #[.pointer (some ⟨R,0,none⟩),.int .i64 (K:Nat)] w (WrP R tv bv (out++text) o m (.tuple #[]) w)):Vx e:=by
 intro l R p tv bv out o m w h J E O Z U;rw[hf]at E;have I:=E.one;have T:=H l R p tv bv out o m w h J t [] I (by rw[hp]at O;omega);rw[hs,hp,hd];rw[show max m (o+0)=m by have:=h.le;omega];exact T
theorem Qjv (x:Qx):Vx (.name x):=Qp5 (op:=2) (t:=x) (fun _=>rfl) rfl rfl rfl A7
theorem Qye (a:SynP.Ex)(IH:Vx a):Vx (.neg a):=by
 intro l R p tv bv out o m w h ht hs hl ho hp;have hsz:(SynP.Ex.neg a).size=a.size+1:=rfl;obtain⟨hsa,hst⟩:=SynP.SegN.app (a:=a.flat p) (b:=[⟨4,[],[p+a.size-1]⟩]) hs
 have hx:l[p+a.size]?=some ⟨((4:Nat):Int),[],[((p+a.size-1:Nat):Int)]⟩:=by
  have:=hst.one;rw[SynP.Jr]at this;exact this
 have hap:=SynP.Vj a;have HSA:=zq hsa;have hpl:(SynP.Ex.neg a).pr=[45]++SynP.par (SynP.Xw 4 0 a.op) a.pr:=rfl;rw[hpl]at hl;simp only[List.length_append,List.length_cons,List.length_nil]at hl;have hdl:(SynP.Ex.neg a).dp=SynP.parD (SynP.Xw 4 0 a.op) a.dp:=rfl;rw[show p+(SynP.Ex.neg a).size-1=p+a.size by rw[hsz];omega,hpl,hdl];rw[hsz]at ho hp;obtain⟨K,hK⟩:=xq (p+a.size);rw[<-hK]at hx ⊢;have HK:=zq hK;clear hK hs hst hsa hpl hdl hsz;obtain⟨tg,ln,tcap,ko,kn,kcap,rfl,hKl,hkn,hkc,c0,c1,c2,c3,hb,hN⟩:=Wz h ht hx;have HKN:=zq hkn;have HB:=zq hb;have HN:=zq hN;obtain⟨OUT,hOUT⟩:=xq (out++([45]++SynP.par (SynP.Xw 4 0 a.op) a.pr));have HOUT:=zq hOUT;obtain⟨M,hM⟩:=xq (max m (o+SynP.parD (SynP.Xw 4 0 a.op) a.dp));have HM:=zq hM;have hle:=h.le;have hmf:∀(fn:Fn) (first cap:Array Value) (w:World),(Instr.makeFunc fn first cap).run Tryz.prog w=.ok (.func fn first cap) w:=fun _ _ _ _=>rfl;rw[<-hOUT,<-hM];clear hb hN h ht hx hOUT hM hkn;go_enter Tryz.func51,Tryz.ntmps51;go_wp2_with fail;obtain⟨w2,hw2⟩:=xq ((w.alloc (.cells #[.pointer (some ⟨R,0,none⟩)] 86)).alloc (.cells #[.int .i64 4,.string ⟨#[]⟩,.slice ko kn kcap] 43));have hw2':w2=(w.alloc (.cells #[.pointer (some ⟨R,0,none⟩)] 86)).alloc (.cells #[.int .i64 ((4:Nat):Int),.string ⟨([]:Qx).toArray⟩,.slice ko kn kcap] 43):=hw2;rw[<-hw2']at HB HN;rw[<-hw2];clear hw2 hw2' c0 c1 c2 c3;obtain⟨G,hG⟩:=xq w.heap.size;rw[<-hG]at HN ⊢;obtain⟨g0,g1,g2,g3⟩:=HN.o.cells;have HGE:=zq hG;clear hG;refine(Sp R _ bv out o m 45 _ HN.o.ws (by omega)).mono ?_;rintro y w3 ⟨rfl,bv3,a1,a2,a3⟩;have HN3:=zq (HN.o.step a1 a2 a3);clear a1 a2 a3 g0 g1 g2 g3;obtain⟨g0,g1,g2,g3⟩:=HN3.o.cells;go_wp2_with fail;refine(Pz 4 0 a IH l R p _ _ _ _ _ _ HN3.o.ws HN3.o.nl HSA.o (by simp only[List.length_append,List.length_cons,List.length_nil];omega) (by omega) (by omega) _ _ _ HN3.o.kl (by rw[HK.o];rfl)).mono ?_;rintro y w4 ⟨rfl,bv4,a1,a2,a3⟩;have HN4:=zq (HN3.o.step a1 a2 a3);clear a1 a2 a3 g0 g1 g2 g3;obtain⟨g0,g1,g2,g3⟩:=HN4.o.cells;go_wp2_with fail
 first|go_end0|refine bodyPost_ret (results_none rfl _ _ _) rfl ?_
 have hf:=HN4.o.fin HB.o;rw[show out++[45]++SynP.par (SynP.Xw 4 0 a.op) a.pr=OUT by rw[HOUT.o,List.append_assoc],show max m (o+SynP.parD (SynP.Xw 4 0 a.op) a.dp)=M by exact HM.o.symm]at hf;exact hf
theorem Qz9 (a:SynP.Ex)(IH:Vx a):Vx (.turn a):=by
 intro l R p tv bv out o m w h ht hs hl ho hp;have hsz:(SynP.Ex.turn a).size=a.size+1:=rfl;obtain⟨hsa,hst⟩:=SynP.SegN.app (a:=a.flat p) (b:=[⟨5,[],[p+a.size-1]⟩]) hs
 have hx:l[p+a.size]?=some ⟨((5:Nat):Int),[],[((p+a.size-1:Nat):Int)]⟩:=by
  have:=hst.one;rw[SynP.Jr]at this;exact this
 have hap:=SynP.Vj a;have HSA:=zq hsa;have hpl:(SynP.Ex.turn a).pr=SynP.par (SynP.Xw 5 0 a.op) a.pr++[39]:=rfl;rw[hpl]at hl;simp only[List.length_append,List.length_cons,List.length_nil]at hl;have hdl:(SynP.Ex.turn a).dp=SynP.parD (SynP.Xw 5 0 a.op) a.dp:=rfl;rw[show p+(SynP.Ex.turn a).size-1=p+a.size by rw[hsz];omega,hpl,hdl];rw[hsz]at ho hp;obtain⟨K,hK⟩:=xq (p+a.size);rw[<-hK]at hx ⊢;have HK:=zq hK;clear hK hs hst hsa hpl hdl hsz;obtain⟨tg,ln,tcap,ko,kn,kcap,rfl,hKl,hkn,hkc,c0,c1,c2,c3,hb,hN⟩:=Wz h ht hx;have HKN:=zq hkn;have HB:=zq hb;have HN:=zq hN;obtain⟨OUT,hOUT⟩:=xq (out++(SynP.par (SynP.Xw 5 0 a.op) a.pr++[39]));have HOUT:=zq hOUT;obtain⟨M,hM⟩:=xq (max m (o+SynP.parD (SynP.Xw 5 0 a.op) a.dp));have HM:=zq hM;have hle:=h.le;have hmf:∀(fn:Fn) (first cap:Array Value) (w:World),(Instr.makeFunc fn first cap).run Tryz.prog w=.ok (.func fn first cap) w:=fun _ _ _ _=>rfl;rw[<-hOUT,<-hM];clear hb hN h ht hx hOUT hM hkn;go_enter Tryz.func51,Tryz.ntmps51;go_wp2_with fail;obtain⟨w2,hw2⟩:=xq ((w.alloc (.cells #[.pointer (some ⟨R,0,none⟩)] 86)).alloc (.cells #[.int .i64 5,.string ⟨#[]⟩,.slice ko kn kcap] 43));have hw2':w2=(w.alloc (.cells #[.pointer (some ⟨R,0,none⟩)] 86)).alloc (.cells #[.int .i64 ((5:Nat):Int),.string ⟨([]:Qx).toArray⟩,.slice ko kn kcap] 43):=hw2;rw[<-hw2']at HB HN;rw[<-hw2];clear hw2 hw2' c0 c1 c2 c3;obtain⟨G,hG⟩:=xq w.heap.size;rw[<-hG]at HN ⊢;obtain⟨g0,g1,g2,g3⟩:=HN.o.cells;have HGE:=zq hG;clear hG;refine(Pz 5 0 a IH l R p _ _ _ _ _ _ HN.o.ws HN.o.nl HSA.o (by omega) (by omega) (by omega) _ _ _ HN.o.kl (by rw[HK.o];rfl)).mono ?_;rintro y w3 ⟨rfl,bv3,a1,a2,a3⟩;have HN3:=zq (HN.o.step a1 a2 a3);clear a1 a2 a3 g0 g1 g2 g3;obtain⟨g0,g1,g2,g3⟩:=HN3.o.cells;go_wp2_with fail;refine(Sp R _ _ _ _ _ 39 _ HN3.o.ws (by simp only[List.length_append,List.length_cons,List.length_nil];omega)).mono ?_;rintro y w4 ⟨rfl,bv4,a1,a2,a3⟩;have HN4:=zq (HN3.o.step a1 a2 a3);clear a1 a2 a3 g0 g1 g2 g3;obtain⟨g0,g1,g2,g3⟩:=HN4.o.cells;go_wp2_with fail
 first|go_end0|refine bodyPost_ret (results_none rfl _ _ _) rfl ?_
 have hf:=HN4.o.fin HB.o;rw[show out++SynP.par (SynP.Xw 5 0 a.op) a.pr++[39]=OUT by rw[HOUT.o,List.append_assoc],show max m (o+SynP.parD (SynP.Xw 5 0 a.op) a.dp)=M by exact HM.o.symm]at hf;exact hf
theorem Qkc (a:SynP.Ex)(n:Nat)(IH:Vx a):Vx (.pow a n):=by
 intro l R p tv bv out o m w h ht hs hl ho hp;have hsz:(SynP.Ex.pow a n).size=a.size+1:=rfl;obtain⟨hsa,hst⟩:=SynP.SegN.app (a:=a.flat p) (b:=[⟨9,SynP.decT n,[p+a.size-1]⟩]) hs
 have hx:l[p+a.size]?=some ⟨((9:Nat):Int),SynP.decT n,[((p+a.size-1:Nat):Int)]⟩:=by
  have:=hst.one;rw[SynP.Jr]at this;exact this
 have hap:=SynP.Vj a;have HSA:=zq hsa;have hpl:(SynP.Ex.pow a n).pr=SynP.par (SynP.Xw 9 0 a.op) a.pr++([94]++SynP.decT n):=rfl;rw[hpl]at hl;simp only[List.length_append,List.length_cons,List.length_nil]at hl;have hdl:(SynP.Ex.pow a n).dp=SynP.parD (SynP.Xw 9 0 a.op) a.dp:=rfl;rw[show p+(SynP.Ex.pow a n).size-1=p+a.size by rw[hsz];omega,hpl,hdl];rw[hsz]at ho hp;obtain⟨K,hK⟩:=xq (p+a.size);rw[<-hK]at hx ⊢;have HK:=zq hK;clear hK hs hst hsa hpl hdl hsz;obtain⟨tg,ln,tcap,ko,kn,kcap,rfl,hKl,hkn,hkc,c0,c1,c2,c3,hb,hN⟩:=Wz h ht hx;have HKN:=zq hkn;have HB:=zq hb;have HN:=zq hN;obtain⟨OUT,hOUT⟩:=xq (out++(SynP.par (SynP.Xw 9 0 a.op) a.pr++([94]++SynP.decT n)));have HOUT:=zq hOUT;obtain⟨M,hM⟩:=xq (max m (o+SynP.parD (SynP.Xw 9 0 a.op) a.dp));have HM:=zq hM;have hle:=h.le;have hmf:∀(fn:Fn) (first cap:Array Value) (w:World),(Instr.makeFunc fn first cap).run Tryz.prog w=.ok (.func fn first cap) w:=fun _ _ _ _=>rfl;rw[<-hOUT,<-hM];clear hb hN h ht hx hOUT hM hkn;go_enter Tryz.func51,Tryz.ntmps51;go_wp2_with fail;obtain⟨w2,hw2⟩:=xq ((w.alloc (.cells #[.pointer (some ⟨R,0,none⟩)] 86)).alloc (.cells #[.int .i64 9,.string ⟨(SynP.decT n).toArray⟩,.slice ko kn kcap] 43));have hw2':w2=(w.alloc (.cells #[.pointer (some ⟨R,0,none⟩)] 86)).alloc (.cells #[.int .i64 ((9:Nat):Int),.string ⟨(SynP.decT n:Qx).toArray⟩,.slice ko kn kcap] 43):=hw2;rw[<-hw2']at HB HN;rw[<-hw2];clear hw2 hw2' c0 c1 c2 c3;obtain⟨G,hG⟩:=xq w.heap.size;rw[<-hG]at HN ⊢;obtain⟨g0,g1,g2,g3⟩:=HN.o.cells;have HGE:=zq hG;clear hG
 have hdt: ¬9223372036854775807<1+(SynP.decT n).length:=by omega
 refine(Pz 9 0 a IH l R p _ _ _ _ _ _ HN.o.ws HN.o.nl HSA.o (by omega) (by omega) (by omega) _ _ _ HN.o.kl (by rw[HK.o];rfl)).mono ?_;rintro y w3 ⟨rfl,bv3,a1,a2,a3⟩;have HN3:=zq (HN.o.step a1 a2 a3);clear a1 a2 a3 g0 g1 g2 g3;obtain⟨g0,g1,g2,g3⟩:=HN3.o.cells;go_wp2_with fail
 go_region_held3 (fun w'=>w'.cell? ⟨G,0,none⟩=some (.pointer (some ⟨R,0,none⟩))/\w'.cell? ⟨G+1,1,none⟩=some (.string ⟨(SynP.decT n:Qx).toArray⟩))
  (first
   |go_keep
   |exact⟨((HN3.o.below (below_drewN _ _)).step a1 a2 a3).cells.1,((HN3.o.below (below_drewN _ _)).step a1 a2 a3).cells.2.2.1⟩)
  ((go_at_call 105;refine(Pc R _ _ _ _ _ ([94]++SynP.decT n) _ (HN3.o.ws.below (below_drewN _ _)) (by simp only[List.length_append,List.length_cons,List.length_nil];omega) (by simp only[List.length_append,List.length_cons,List.length_nil];omega)).mono ?_;rintro y w4 ⟨rfl,bv4,a1,a2,a3⟩))
 have HN4:=zq ((HN3.o.below (below_drewN _ _)).step a1 a2 a3);clear a1 a2 a3 g0 g1 g2 g3;obtain⟨g0,g1,g2,g3⟩:=HN4.o.cells;go_wp2_with fail
 first|go_end0|refine bodyPost_ret (results_none rfl _ _ _) rfl ?_
 have hf:=HN4.o.fin HB.o;rw[show out++SynP.par (SynP.Xw 9 0 a.op) a.pr++([94]++SynP.decT n)=OUT by rw[HOUT.o,List.append_assoc],show max m (o+SynP.parD (SynP.Xw 9 0 a.op) a.dp)=M by exact HM.o.symm]at hf;exact hf
def LnOk (n:SynP.Ln):Prop:=∀(l:List SynP.NI) (R:Nat) (tv bv:Value) (out:Qx) (o m:Nat) (w:World),WrS w R tv bv out o m->NdL w R tv l->SynP.SegN l 0 n.flat->out.length+n.pr.length<=274877906944->o+2*n.size<=100000->
 Calls Tryz.prog 51 #[.pointer (some ⟨R,0,none⟩),.int .i64 ((n.size-1:Nat):Int)] w (WrP R tv bv (out++n.pr) o (max m (o+n.dp)) (.tuple #[]) w)
theorem Cl (x:Qx)(a:SynP.Ex)(kt:SynP.Exs)(IH:∀e∈SynP.exL (.cons a kt),Vx e):LnOk (.cmd x (.cons a kt)):=by
 intro l R tv bv out o m w h ht hs hl ho;obtain⟨ks,hks⟩:=xq (SynP.Exs.cons a kt)
 have hsz:(SynP.Ln.cmd x (.cons a kt)).size=ks.size+1:=by rw[hks];rfl
 obtain⟨hsa,hst⟩:=SynP.SegN.app (a:=(SynP.Exs.cons a kt).flat 0) (b:=[⟨12,x,(SynP.Exs.cons a kt).roots 0⟩]) hs;rw[<-hks]at hsa hst IH
 have hx:l[0+ks.size]?=some ⟨((12:Nat):Int),x,Uk (ks.roots 0)⟩:=by
  have:=hst.one;rw[SynP.Pu]at this;exact this
 have HSA:=zq hsa
 have hpl:(SynP.Ln.cmd x (.cons a kt)).pr=(x++[32])++ks.pr:=by rw[hks];show x++[32]++_=_;rfl
 rw[hpl]at hl;simp only[List.length_append,List.length_cons,List.length_nil]at hl
 have hdl:(SynP.Ln.cmd x (.cons a kt)).dp=ks.dp:=by rw[hks];rfl
 rw[show (SynP.Ln.cmd x (.cons a kt)).size-1=0+ks.size by rw[hsz];omega,hpl,hdl];rw[hsz]at ho
 have hrl:(Uk (ks.roots 0)).length=(SynP.exL ks).length:=by rw[Uk,List.length_map,SynP.Ny]
 have hkl:0<(SynP.exL ks).length:=by rw[hks];exact Nat.succ_pos _
 have hprl:ks.pr.length<=ks.pr.length:=by exact Nat.le_refl _
 obtain⟨K,hK⟩:=xq (0+ks.size);rw[<-hK]at hx ⊢;have HK:=zq hK;have HKS:=zq hks;clear hK hs hst hsa hpl hdl hsz hks;obtain⟨tg,ln,tcap,ko,kn,kcap,rfl,hKl,hkn,hkc,c0,c1,c2,c3,hb,hN⟩:=Wz h ht hx;have HKN:=zq hkn;have HB:=zq hb;have HN:=zq hN;obtain⟨OUT,hOUT⟩:=xq (out++((x++[32])++ks.pr));have HOUT:=zq hOUT;obtain⟨M,hM⟩:=xq (max m (o+ks.dp));have HM:=zq hM;have hle:=h.le;have hmf:∀(fn:Fn) (first cap:Array Value) (w:World),(Instr.makeFunc fn first cap).run Tryz.prog w=.ok (.func fn first cap) w:=fun _ _ _ _=>rfl;rw[<-hOUT,<-hM];clear hb hN h ht hx hOUT hM hkn;go_enter Tryz.func51,Tryz.ntmps51;go_wp2_with fail;obtain⟨w2,hw2⟩:=xq ((w.alloc (.cells #[.pointer (some ⟨R,0,none⟩)] 86)).alloc (.cells #[.int .i64 12,.string ⟨x.toArray⟩,.slice ko kn kcap] 43));have hw2':w2=(w.alloc (.cells #[.pointer (some ⟨R,0,none⟩)] 86)).alloc (.cells #[.int .i64 ((12:Nat):Int),.string ⟨(x:Qx).toArray⟩,.slice ko kn kcap] 43):=hw2;rw[<-hw2']at HB HN;rw[<-hw2];clear hw2 hw2' c0 c1 c2 c3;obtain⟨G,hG⟩:=xq w.heap.size;rw[<-hG]at HN ⊢;obtain⟨g0,g1,g2,g3⟩:=HN.o.cells;have HGE:=zq hG;clear hG
 have hkn2:kn=(SynP.exL ks).length:=by rw[HKN.o,hrl]
 have hk0:0<kn:=by omega
 clear hkn2 hrl hkl
 go_region_held3 (fun w'=>w'.cell? ⟨G,0,none⟩=some (.pointer (some ⟨R,0,none⟩))/\w'.cell? ⟨G+1,1,none⟩=some (.string ⟨(x:Qx).toArray⟩))
  (first
   |go_keep
   |exact⟨((HN.o.below (below_drewN _ _)).step a1 a2 a3).cells.1,((HN.o.below (below_drewN _ _)).step a1 a2 a3).cells.2.2.1⟩)
  ((go_at_call 105;refine(Pc R _ _ _ _ _ (x) _ (HN.o.ws.below (below_drewN _ _)) (by omega) (by omega)).mono ?_;rintro y w3 ⟨rfl,bv3,a1,a2,a3⟩))
 have HN3:=zq ((HN.o.below (below_drewN _ _)).step a1 a2 a3);clear a1 a2 a3 g0 g1 g2 g3;obtain⟨g0,g1,g2,g3⟩:=HN3.o.cells;go_wp2_with fail;refine(Sp R _ _ _ _ _ 32 _ HN3.o.ws (by simp only[List.length_append,List.length_cons,List.length_nil];omega)).mono ?_;rintro y w6 ⟨rfl,bv6,a1,a2,a3⟩;have HN6:=zq (HN3.o.step a1 a2 a3);clear a1 a2 a3 g0 g1 g2 g3;obtain⟨g0,g1,g2,g3⟩:=HN6.o.cells;have HC:=zq (Qmd ks IH l R 0 _ _ _ _ _ _ HN6.o.ws HN6.o.nl HSA.o (by simp only[List.length_append,List.length_cons,List.length_nil];omega) (by omega) (by omega) 12 (.inr rfl) ⟨x.toArray⟩ _ HN6.o.kl);go_wp2_with fail;refine(HC.o).mono ?_;rintro y w4 ⟨rfl,bv4,a1,a2,a3⟩;have HN4:=zq (HN6.o.step a1 a2 a3);clear a1 a2 a3 g0 g1 g2 g3;obtain⟨g0,g1,g2,g3⟩:=HN4.o.cells;go_wp2_with fail
 first|go_end0|refine bodyPost_ret (results_none rfl _ _ _) rfl ?_
 have hf:=HN4.o.fin HB.o;rw[show out++x++[32]++ks.pr=OUT by rw[HOUT.o];simp only[List.append_assoc],show max m (o+ks.dp)=M by exact HM.o.symm]at hf;exact hf
open Go.Maps
theorem Tryz.cellsByte:Tryz.prog.cellsOf 5=1:=by kernel_rfl
theorem Qxv (R:Nat)(tv bv:Value)(out:Qx)(o m:Nat)(w:World)(h:WrS w R tv bv out o m):
  Calls Tryz.prog 52 #[.pointer (some ⟨R,1,none⟩)] w fun e w'=>e=.returned (.string ⟨out.toArray⟩)/\Below R w w':=by
 obtain⟨av,-,hbk⟩:=h.blk;have hown:=h.own;have hRl:=h.lt;by_cases h0:out=[]
 ·subst h0
  have hUS:∀(W:World) (q:Option Addr),(Builtin.unsafeString_ #[145,3] 9 #[.pointer q,.int .i64 0]).run Tryz.prog W=.ok (.string .empty) W:=fun W q=>Lib.run_unsafeString_none W _ _ _ q;rcases hown.2 with ⟨rfl,-⟩|⟨g,cap,cur,rfl,hbg,hg,hnc,hcm,hcs,htake⟩
  ·have c1:w.drew.cell? ⟨R,2,none⟩=some (.slice none 0 0):=by
    have:w.drew.heap[R]?=some (.cells #[tv,av,.slice none 0 0,.int .i64 (o:Nat),.int .i64 (m:Nat)] 92 (0,0)):=hbk;rw[cell_of_row _ _ _ _ _ _ this];rfl
   have hSD:(Builtin.unsafeSliceData_ #[88] 145 #[.slice none 0 0]).run Tryz.prog w.drew=.ok (.pointer none) w.drew:=rfl;clear h hbk hown;go_enter Tryz.func52,Tryz.ntmps52;go_wp2_with fail;go_region
   all_goals (go_wp2_with fail;go_ret;exact⟨rfl,Below.drew (Below.refl _ _)⟩)
  ·have e0:([]:Qx).length=0:=rfl
   rw[e0]at hbk hnc;by_cases hc0:cap=0
   ·subst hc0
    have c1:w.drew.cell? ⟨R,2,none⟩=some (.slice (some ⟨g,0,none⟩) 0 0):=by
     have:w.drew.heap[R]?=some (.cells #[tv,av,.slice (some ⟨g,0,none⟩) 0 0,.int .i64 (o:Nat),.int .i64 (m:Nat)] 92 (0,0)):=hbk;rw[cell_of_row _ _ _ _ _ _ this];rfl
    have hSD:(Builtin.unsafeSliceData_ #[88] 145 #[.slice (some ⟨g,0,none⟩) 0 0]).run Tryz.prog w.drew=.ok (.pointer (some ⟨w.drew.heap.size,0,none⟩)) (w.drew.alloc (.view ⟨g,0,none⟩ 5)):=
     Lib.run_unsafeSliceData_zero w.drew _ _ 5 Tryz.underlying145 ⟨g,0,none⟩ 0 (5,cur.size) (by have hg':w.drew.heap[g]?=some (.cells cur 5 (0,0)):=hg;simp[World.shape?,hg'])
    have c2:(w.drew.alloc (.view ⟨g,0,none⟩ 5)).cell? ⟨R,2,none⟩=some (.slice (some ⟨g,0,none⟩) 0 0):=by
     have:(w.drew.alloc (.view ⟨g,0,none⟩ 5)).heap[R]?=_:=(Lib.alloc_old w.drew _ R hRl).trans hbk;rw[cell_of_row _ _ _ _ _ _ this];rfl
    have c3:(w.alloc (.view ⟨g,0,none⟩ 5)).drew.cell? ⟨R,2,none⟩=some (.slice (some ⟨g,0,none⟩) 0 0):=c2;have c0:w.cell? ⟨R,2,none⟩=some (.slice (some ⟨g,0,none⟩) 0 0):=c1;clear h hbk hown hg;go_enter Tryz.func52,Tryz.ntmps52;go_wp2_with fail;go_region
    all_goals (go_wp2_with fail;go_ret;exact⟨rfl,(Below.drew (Below.refl _ w)).alloc (Nat.le_of_lt hRl) _⟩)
   ·have c1:w.drew.cell? ⟨R,2,none⟩=some (.slice (some ⟨g,0,none⟩) 0 cap):=by
     have:w.drew.heap[R]?=some (.cells #[tv,av,.slice (some ⟨g,0,none⟩) 0 cap,.int .i64 (o:Nat),.int .i64 (m:Nat)] 92 (0,0)):=hbk;rw[cell_of_row _ _ _ _ _ _ this];rfl
    have hSD:(Builtin.unsafeSliceData_ #[88] 145 #[.slice (some ⟨g,0,none⟩) 0 cap]).run Tryz.prog w.drew=.ok (.pointer (some ⟨g,0,none⟩)) w.drew:=
     Lib.run_unsafeSliceData_row _ _ _ _ _ _ hc0
    clear h hbk hown hc0;go_enter Tryz.func52,Tryz.ntmps52;go_wp2_with fail;go_region
    all_goals (go_wp2_with fail;go_ret;exact⟨rfl,Below.drew (Below.refl _ _)⟩)
 ·have hl0:out.length≠0:=by simpa using h0
  obtain⟨g,cap,cur,rfl,hbg,hg,hnc,hcm,hcs,htake⟩:∃g cap cur,bv=.slice (some ⟨g,0,none⟩) out.length cap/\R+1<=g/\w.heap[g]?=some (.cells cur 5 (0,0))/\out.length<=cap/\cap<=maxLen/\cur.size=cap*1/\cur.toList.take (out.length*1)=u8s out:=by
   rcases hown.2 with ⟨_,hz⟩|⟨g,cap,cur,hv,r⟩
   ·exact absurd hz hl0
   ·exact⟨g,cap,cur,hv,r⟩
  have c1:w.drew.cell? ⟨R,2,none⟩=some (.slice (some ⟨g,0,none⟩) out.length cap):=by
   have:w.drew.heap[R]?=some (.cells #[tv,av,.slice (some ⟨g,0,none⟩) out.length cap,.int .i64 (o:Nat),.int .i64 (m:Nat)] 92 (0,0)):=hbk;rw[cell_of_row _ _ _ _ _ _ this];rfl
  have hSD:(Builtin.unsafeSliceData_ #[88] 145 #[.slice (some ⟨g,0,none⟩) out.length cap]).run Tryz.prog w.drew=.ok (.pointer (some ⟨g,0,none⟩)) w.drew:=
   Lib.run_unsafeSliceData_row _ _ _ _ _ _ (by omega)
  have hUS:(Builtin.unsafeString_ #[145,3] 9 #[.pointer (some ⟨g,0,none⟩),.int .i64 out.length]).run Tryz.prog w.drew=.ok (.string ⟨out.toArray⟩) (w.drew.freeze ⟨g,0,none⟩ out.length):=by
   refine Lib.run_unsafeString_row w.drew 145 3 9 5 Tryz.underlying145 Tryz.cellsByte g cur.size (by have hg':w.drew.heap[g]?=some (.cells cur 5 (0,0)):=hg;simp[World.shape?,hg']) out h0 (by omega) (by unfold maxLen at hcm;omega) ?_;intro j x hx;have:=hown.cells (g:=g) rfl j (.int .u8 x.toNat) (by simp[u8s,hx]);exact this
  obtain⟨n,hn⟩:=xq out.length;rw[<-hn]at c1 hSD hUS hnc;clear h hbk hown hn hl0 htake;go_enter Tryz.func52,Tryz.ntmps52;go_wp2_with fail;go_region
  all_goals (go_wp2_with fail;go_ret;exact⟨rfl,Lib.below_freeze (Below.drew (Below.refl _ w)) (p:=⟨g,0,none⟩) (by show R<=g;omega) _⟩)
theorem Kc:∀(a:List Nv) (k:Nat) (t:Nv),a[k]?=some t->
  (Xd a)[k*3]?=some (.int .i64 (t.1.op:Nat))/\(Xd a)[k*3+1]?=some (.string ⟨t.1.text.toArray⟩)/\(Xd a)[k*3+2]?=some t.2:=by
 intro a
 induction a with
 |nil=>intro k t h;simp at h
 |cons d cs ih=>
  intro k t h
  cases k with
  |zero=>simp at h;subst h;simp[Xd]
  |succ k=>
   simp only[List.getElem?_cons_succ]at h;obtain⟨E,I,H⟩:=ih k t h
   have e0:(k+1)*3=k*3+1+1+1:=by omega
   have e1:(k+1)*3+1=k*3+1+1+1+1:=by omega
   have e2:(k+1)*3+2=k*3+2+1+1+1:=by omega
   have ec:Xd (d::cs)=.int .i64 (d.1.op:Nat)::.string ⟨d.1.text.toArray⟩::d.2::Xd cs:=by simp[Xd]
   rw[e1,e2,e0,ec];simp only[List.getElem?_cons_succ];exact⟨E,I,H⟩
theorem KR.kl {w:World}{R:Nat}{og:Option Nat}{v:Value}{ks:List Nat}(h:KR w R og v ks):KL w w.heap.size v (ks.map fun k:Nat=>(k:Int)):=by
 obtain⟨ao,E,rfl,O,K,H,I⟩:=h;refine⟨ao,E,by rw[List.length_map],by simpa using O,K,fun h0=> ?_⟩;rw[List.length_map]at h0;obtain⟨g,rfl,J⟩:=I h0;refine⟨g,rfl,(H g rfl).2.1,fun j k hj=> ?_⟩;rw[List.getElem?_map]at hj
 cases ha:ks[j]? with
 |none=>rw[ha]at hj;cases hj
 |some a=>rw[ha]at hj;cases hj;exact J j a ha
theorem Tr.ndl {w:World}{B:Nat}{nv:Value}{ns:List Nv}(h:Tr w B nv ns):NdL w w.heap.size nv (SynP.nL (ns.map Prod.fst)):=by
 obtain⟨ao,H,rfl,a1,a2,a3⟩:=Qj h.own
 have E:(SynP.nL (ns.map Prod.fst)).length=ns.length:=by simp[SynP.nL]
 refine⟨ao,H,by rw[E],by rw[E];exact a1,a2,fun h0=> ?_⟩;rw[E]at h0;obtain⟨g,rfl,-,b2,b3⟩:=a3 h0;refine⟨g,rfl,b2,fun j x hj=> ?_⟩;simp only[SynP.nL,List.map_map,List.getElem?_map]at hj
 cases hp:ns[j]? with
 |none=>rw[hp]at hj;cases hj
 |some p=>
  rw[hp]at hj
  cases hj
  have I:=(List.getElem?_eq_some_iff.1 hp).1;obtain⟨c1,c2,c3⟩:=Kc ns j p hp;exact⟨by rw[b3 _ (by omega)];exact c1,by rw[b3 _ (by omega)];exact c2,p.2,by rw[b3 _ (by omega)];exact c3,(h.kids p (List.mem_of_getElem? hp)).kl⟩
theorem KL.up {w w':World}{B:Nat}{v:Value}{ks:List Int}(h:KL w B v ks)(hb:Below B w w'){B':Nat}(hB:B<=B'):KL w' B' v ks:=by
 obtain⟨ao,E,rfl,O,K,H⟩:=h.below hb;refine⟨ao,E,rfl,O,K,fun h0=> ?_⟩;obtain⟨g,rfl,J,I⟩:=H h0;exact⟨g,rfl,Nat.lt_of_lt_of_le J hB,I⟩
theorem NdL.up {w w':World}{B:Nat}{v:Value}{l:List SynP.NI}(h:NdL w B v l)(hb:Below B w w'){B':Nat}(hB:B<=B'):NdL w' B' v l:=by
 obtain⟨ao,E,rfl,O,K,H⟩:=h.below hb;refine⟨ao,E,rfl,O,K,fun h0=> ?_⟩;obtain⟨g,rfl,J,I⟩:=H h0;refine⟨g,rfl,Nat.lt_of_lt_of_le J hB,fun j x hj=> ?_⟩;obtain⟨a,b,kv,c,d⟩:=I j x hj;exact⟨a,b,kv,c,d.up (Below.refl _ _) hB⟩
theorem WrS.new (w:World)(tv:Value):WrS (w.alloc (.cells #[tv,.pointer none,.slice none 0 0,.int .i64 0,.int .i64 0] 92)) w.heap.size tv (.slice none 0 0) [] 0 0:=
 ⟨⟨.pointer none,.inl rfl,heap_alloc_new _ _⟩,⟨rfl,.inl ⟨rfl,rfl⟩⟩,Nat.le_refl _⟩
def KA (w:World)(v:Value)(ks:List Int):Prop:=∃ao cap,v=.slice ao ks.length cap/\ks.length<=cap/\cap<=maxLen/\
  ∀j k,ks[j]?=some k-> ∃g o,ao=some ⟨g,o,none⟩/\g<w.heap.size/\w.cell? ⟨g,o+j,none⟩=some (.int .i64 k)
def NdA (w:World)(v:Value)(l:List SynP.NI):Prop:=∃ao cap,v=.slice ao l.length cap/\l.length<=cap/\cap<=maxLen/\
  ∀j x,l[j]?=some x-> ∃g o,ao=some ⟨g,o,none⟩/\g<w.heap.size/\w.cell? ⟨g,o+j*3,none⟩=some (.int .i64 x.op)/\w.cell? ⟨g,o+j*3+1,none⟩=some (.string ⟨x.text.toArray⟩)/\ ∃kv,w.cell? ⟨g,o+j*3+2,none⟩=some kv/\KA w kv x.kids
theorem KL.ka {w:World}{B:Nat}{v:Value}{ks:List Int}(h:KL w B v ks)(hB:B<=w.heap.size):KA w v ks:=by
 obtain⟨ao,E,rfl,O,K,H⟩:=h;refine⟨ao,E,rfl,O,K,fun j x hj=> ?_⟩;obtain⟨g,rfl,J,I⟩:=H (by have:=(List.getElem?_eq_some_iff.1 hj).1;omega);exact⟨g,0,rfl,Nat.lt_of_lt_of_le J hB,by rw[Nat.zero_add];exact I j x hj⟩
theorem NdL.nda {w:World}{B:Nat}{v:Value}{l:List SynP.NI}(h:NdL w B v l)(hB:B<=w.heap.size):NdA w v l:=by
 obtain⟨ao,E,rfl,O,K,H⟩:=h;refine⟨ao,E,rfl,O,K,fun j x hj=> ?_⟩;obtain⟨g,rfl,J,I⟩:=H (by have:=(List.getElem?_eq_some_iff.1 hj).1;omega);obtain⟨a,b,kv,c,d⟩:=I j x hj;exact⟨g,0,rfl,Nat.lt_of_lt_of_le J hB,by rw[Nat.zero_add];exact a,by rw[Nat.zero_add];exact b,kv,by rw[Nat.zero_add];exact c,d.ka hB⟩
theorem KA.below {w w':World}{v:Value}{ks:List Int}(h:KA w v ks)(hb:Below w.heap.size w w'):KA w' v ks:=by
 obtain⟨ao,H,rfl,O,K,I⟩:=h;refine⟨ao,H,rfl,O,K,fun j x hj=> ?_⟩;obtain⟨g,o,rfl,E,J⟩:=I j x hj;exact⟨g,o,rfl,Nat.lt_of_lt_of_le E hb.size,(hb.cell (p:=⟨g,o+j,none⟩) E).trans J⟩
theorem NdA.below {w w':World}{v:Value}{l:List SynP.NI}(h:NdA w v l)(hb:Below w.heap.size w w'):NdA w' v l:=by
 obtain⟨ao,H,rfl,K,J,I⟩:=h;refine⟨ao,H,rfl,K,J,fun j x hj=> ?_⟩;obtain⟨g,o,rfl,E,a,b,kv,c,d⟩:=I j x hj;exact⟨g,o,rfl,Nat.lt_of_lt_of_le E hb.size,(hb.cell (p:=⟨g,o+j*3,none⟩) E).trans a,(hb.cell (p:=⟨g,o+j*3+1,none⟩) E).trans b,kv,(hb.cell (p:=⟨g,o+j*3+2,none⟩) E).trans c,d.below hb⟩
theorem NdA.nil (w:World):NdA w (.slice none 0 0) []:=⟨none,0,rfl,Nat.le_refl _,Nat.zero_le _,fun j x h=>by cases h⟩
theorem Ge (v u:Value)(l:List SynP.NI)(w:World)(hv:NdA w v l)(hu:NdA w u l):
  Calls Tryz.prog 16 #[v,u] w fun e w'=>e=.returned (.bool true)/\Below w.heap.size w w':=by
 have HV:=zq hv;have HU:=zq hu;obtain⟨ao,cap,rfl,hnc,hcm,-⟩:=hv;obtain⟨bo,cap2,rfl,hnc2,hcm2,-⟩:=hu
 have hm:l.length<=9223372036854775807:=by unfold maxLen at hcm;omega
 have HCM:=zq hcm;clear hcm hcm2;go_enter Tryz.func16,Tryz.ntmps16;go_wp2_with fail;go_loopw [5] (fun i wr=> ∃k:Nat,k<=l.length/\i=.int .i64 (k:Nat)/\Below w.heap.size w wr) (fun i _=>l.length-(intOf i).toNat)
 case atStart=>exact⟨0,Nat.zero_le _,rfl,Below.refl _ _⟩
 case round=>
  obtain⟨k,hk,rfl,hb⟩:=hrel;obtain⟨wo,rfl⟩:=xq wr;by_cases hlt:k<l.length
  ·obtain⟨x,hx⟩:∃c,l[k]?=some c:=⟨_,List.getElem?_eq_getElem hlt⟩
   have HXX:=zq hx;obtain⟨a1,c1,q1,-,-,hc1⟩:=HV.o.below hb;obtain⟨a2,c2,q2,-,-,hc2⟩:=HU.o.below hb
   cases q1
   cases q2
   obtain⟨g,o,rfl,hg,e0,e1,kv,e2,hk1⟩:=hc1 k x hx;obtain⟨g',o',rfl,hg',e0',e1',kv',e2',hk2⟩:=hc2 k x hx;have HK1:=zq hk1;have HK2:=zq hk2;obtain⟨ko,kcap,rfl,k1,k2,-⟩:=hk1;obtain⟨ko',kcap',rfl,k1',k2',-⟩:=hk2;obtain⟨m,hme⟩:=xq x.kids.length;rw[<-hme]at e2 e2' k1 k1' HK1 HK2;have HME:=zq hme
   have hm63:m<=9223372036854775807:=by unfold maxLen at k2;omega
   have HB:=zq hb;have hzb:=hb.size;clear hc1 hc2 hx hme k2 k2' hb;go_wp2_with fail;go_quiet (fail);go_wp2_with fail;go_loopw [6] (fun j wr'=> ∃p:Nat,p<=m/\j=.int .i64 (p:Nat)/\Below wo.heap.size wo wr') (fun j _=>m-(intOf j).toNat)
   case atStart=>exact⟨0,Nat.zero_le _,rfl,below_drewN _ _⟩
   case round=>
    obtain⟨p,hp,rfl,hbp⟩:=hrel;have f2:wr.cell? ⟨g,o+k*3+2,none⟩=some (.slice ko m kcap):=(hbp.cell (p:=⟨g,o+k*3+2,none⟩) hg).trans e2;have f2':wr.cell? ⟨g',o'+k*3+2,none⟩=some (.slice ko' m kcap'):=(hbp.cell (p:=⟨g',o'+k*3+2,none⟩) hg').trans e2';have HBP:=zq hbp;by_cases hpl:p<m
    ·obtain⟨y,hy⟩:∃c,x.kids[p]?=some c:=⟨_,List.getElem?_eq_getElem (by rw[<-HME.o];exact hpl)⟩
     obtain⟨_,_,q1,-,-,hd1⟩:=HK1.o.below hbp;obtain⟨_,_,q2,-,-,hd2⟩:=HK2.o.below hbp
     cases q1
     cases q2
     obtain⟨gk,ok,rfl,-,h1⟩:=hd1 p y hy;obtain⟨gk',ok',rfl,-,h2⟩:=hd2 p y hy;clear hd1 hd2 hbp hy;go_wp2_with fail;go_quiet (fail);go_wp2_with fail;exact⟨⟨p+1,by omega,by go_num,Qg HBP.o (below_drewN _ _)⟩,by simp[intOf];omega⟩
    ·obtain rfl:p=m:=by omega
     clear hbp;go_wp2_with fail;have hfin:∃q:Nat,q<=l.length/\Value.int .i64 ((k:Int)+1)=.int .i64 (q:Nat)/\Below w.heap.size w wr:=⟨k+1,by omega,by go_num,HB.o.trans (HBP.o.mono hzb)⟩
     first|exact⟨hfin,by simp[intOf];omega⟩|exact⟨by (repeat apply Exists.intro);exact⟨hfin,rfl⟩,by simp[intOf];omega⟩
  ·have HB:=zq hb
   clear hb;go_wp2_with fail;go_ret;exact⟨rfl,HB.o⟩
theorem Qyy (w:World)(ty:TypeId)(H:Nat)(ko:Option Addr)(kcap:Nat):
  (Builtin.append_ #[41,41] ty #[.slice (some ⟨H,0,none⟩) 0 0,.slice ko 0 kcap]).run Tryz.prog w=.ok (.slice (some ⟨H,0,none⟩) 0 0) w:=by
 obtain⟨i0,h,I,E,J⟩:=info_parts Tryz.infoInt
 cases ko<;>simp[Builtin.append_,run_underlying Tryz.underlying41,sizeOf,typeInfo,h,Builtin.lenOf,Builtin.firstCells,storeCells,loadCells,loadCellsFrom]
theorem Um {w:World}{ops:Array Oper}{o:Oper}{a:Act}{K:Act->World->Prop}{Q:Exit->Act->World->Prop}{E:Prop}(hgd:o.guard=none)(s x:Operand)
  (ho:o.op=.call {callee:=.builtin .append,args:= #[s,x],argTypes:= #[41,41]}) (H:Nat) (ko:Option Addr) (kcap:Nat) (hs:a.eval s=.slice (some ⟨H,0,none⟩) 0 0) (hx:a.eval x=.slice ko 0 kcap)
  (h:∀w',Hid (w'=w)->K (a.put o.dst (.slice (some ⟨H,0,none⟩) 0 0)) w'):if Region.wanted o (yielded ops a.tmps)=true then Oper.wp Tryz.prog o a w K Q else E:=by
 have I:Region.wanted o (yielded ops a.tmps)=true:=by simp[Region.wanted,hgd]
 rw[if_pos I];unfold Oper.wp execOp;simp only[ho,resolve,invoke,builtin,Sem.run_bind,Sem.run_pure,Result.andThen_ok,List.map_toArray,List.map_cons,List.map_nil,hs,hx,Qyy];exact h _ rfl
theorem Qmh (g o k:Nat):(⟨g,o,none⟩:Addr).add k=⟨g,o+k,none⟩:=by simp[Addr.add]
theorem Q6 {w w':World}{b:Nat}{e:TypeId}{z:Nat}{v:Value}{n:Nat}{xs:List Value}(h:w.ownsRow b e z v n xs)(hk:∀g,v.ownBlock=some g->b<=g->g<w.heap.size->w'.heap[g]?=w.heap[g]?):w'.ownsRow b e z v n xs:=by
 refine⟨h.1,?_⟩;rcases h.2 with O|⟨g,K,J,rfl,I,E,H⟩
 ·exact .inl O
 ·exact .inr ⟨g,K,J,rfl,I,(hk g rfl I (Array.getElem?_eq_some_iff.1 E).1).trans E,H⟩
def Qg2:ByteArray:=⟨#[112,114,105,110,116,32,45,65,39,94,50]⟩
end Go.Proofs.YtgfmiladfeoldaaGreatDoor
