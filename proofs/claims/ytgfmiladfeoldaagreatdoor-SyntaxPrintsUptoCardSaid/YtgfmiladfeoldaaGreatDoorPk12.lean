import Derived.Test.YtgfmiladfeoldaaGreatDoorPk11
set_option linter.unusedSimpArgs false
set_option linter.unusedVariables false
set_option maxRecDepth 100000
set_option maxHeartbeats 16000000
namespace Go.Proofs.YtgfmiladfeoldaaGreatDoor
open Go.RowKit ai ag
structure qW (w0:World) (og:Option Nat) (w:World) (R G:Nat) (tv bv:Value) (out:Bytes) (o m:Nat) (l:List ae.NI) (op:Nat) (text:Bytes) (kv:Value) (ks:List Int):Prop where
 ws:dI w R tv bv out o m
 wr:Wr R og w0 w
 mv:Mv w0 og bv.ownBlock
 nl:eB w R tv l
 kl:KL w R kv ks
 h0:w.heap[G]?=some (.cells #[.pointer (some ⟨R,0,none⟩)] 86 (0,0))
 h1:w.heap[G+1]?=some (.cells #[.int .i64 (op:Nat),.string ⟨text.toArray⟩,kv] 43 (0,0))
 hR:R<G
 hG:G+2<=w0.heap.size
 ho:∀q,og=some q->q<G
theorem qW.step {w0 w w':World}{og:Option Nat}{R G:Nat}{tv bv bv':Value}{out out':Bytes}{o o' m m':Nat}{l:List ae.NI}{op:Nat}{text:Bytes}{kv:Value}{ks:List Int}(h:qW w0 og w R G tv bv out o m l op text kv ks)
  (k1:dI w' R tv bv' out' o' m') (k2:Wr R bv.ownBlock w w') (k3:Mv w bv.ownBlock bv'.ownBlock):qW w0 og w' R G tv bv' out' o' m' l op text kv ks:=by
 have I:=k2.gX (abD h.ws.lt) (fun q hq=>h.ws.gt q hq)
 have E:∀i,G<=i->i<G+2->some i≠bv.ownBlock:=fun i h1 h2 e=>by
  have hG:=h.hG;rcases h.mv i e.symm with H|H
  ·have:=h.ho i H;omega
  omega
 have hR:=h.hR;have hG:=h.hG;have J:=h.wr.size;exact⟨k1,h.wr.trans h.mv k2,Mv.trans (R:=R) (w':=w) h.mv h.wr.size k3,h.nl.below I,h.kl.below I,(k2.block G (by omega) (by omega) (E G (by omega) (by omega))).trans h.h0,(k2.block (G+1) (by omega) (by omega) (E (G+1) (by omega) (by omega))).trans h.h1,h.hR,h.hG,h.ho⟩
theorem qW.below {w0 w w':World}{og:Option Nat}{R G:Nat}{tv bv:Value}{out:Bytes}{o m:Nat}{l:List ae.NI}{op:Nat}{text:Bytes}{kv:Value}{ks:List Int}(h:qW w0 og w R G tv bv out o m l op text kv ks)(hb:Below w.heap.size w w'):qW w0 og w' R G tv bv out o m l op text kv ks:=
 h.step (h.ws.below hb) (Wr.af hb) (Mv.refl _ _)
theorem qW.cells {w0 w:World}{og:Option Nat}{R G:Nat}{tv bv:Value}{out:Bytes}{o m:Nat}{l:List ae.NI}{op:Nat}{text:Bytes}{kv:Value}{ks:List Int}(h:qW w0 og w R G tv bv out o m l op text kv ks):w.cell? ⟨G,0,none⟩=some (.pointer (some ⟨R,0,none⟩))/\w.cell? ⟨G+1,0,none⟩=some (.int .i64 (op:Nat))/\w.cell? ⟨G+1,1,none⟩=some (.string ⟨text.toArray⟩)/\w.cell? ⟨G+1,2,none⟩=some kv:=by
 refine⟨?_,?_,?_,?_⟩
 ·rw[aam _ _ 0 _ _ _ h.h0];rfl
 ·rw[aam _ _ 0 _ _ _ h.h1];rfl
 ·rw[aam _ _ 1 _ _ _ h.h1];rfl
 rw[aam _ _ 2 _ _ _ h.h1];rfl
theorem qW.fin {w w0 w':World}{R G:Nat}{tv bv bv0:Value}{out:Bytes}{o m:Nat}{l:List ae.NI}{op:Nat}{text:Bytes}{kv:Value}{ks:List Int}(h:qW w0 bv0.ownBlock w' R G tv bv out o m l op text kv ks)(hb:Below w.heap.size w w0):kI R tv bv0 out o m (.tuple #[]) w (.returned (.tuple #[])) w':=
 ⟨rfl,bv,h.ws,(Wr.af hb).trans (Mv.refl _ _) h.wr,Mv.trans (R:=R) (w':=w0) (Mv.refl _ _) hb.size h.mv⟩
theorem Yq {w:World}{R K:Nat}{tv bv:Value}{out:Bytes}{o m:Nat}{l:List ae.NI}{op:Nat}{text:Bytes}{ks:List Int}(h:dI w R tv bv out o m)(ht:eB w R tv l)(hx:l[K]?=some ⟨(op:Nat),text,ks⟩):∃tg ln dZ ko kn aj,tv=.slice (some ⟨tg,0,none⟩) ln dZ/\K<ln/\kn=ks.length/\kn<=aj/\(w.alloc (.cells #[.pointer (some ⟨R,0,none⟩)] 86)).cell? ⟨R,0,none⟩=some tv/\(w.alloc (.cells #[.pointer (some ⟨R,0,none⟩)] 86)).cell? ⟨tg,K*3,none⟩=some (.int .i64 (op:Nat))/\(w.alloc (.cells #[.pointer (some ⟨R,0,none⟩)] 86)).cell? ⟨tg,K*3+1,none⟩=some (.string ⟨text.toArray⟩)/\(w.alloc (.cells #[.pointer (some ⟨R,0,none⟩)] 86)).cell? ⟨tg,K*3+2,none⟩=some (.slice ko kn aj)/\Below w.heap.size w ((w.alloc (.cells #[.pointer (some ⟨R,0,none⟩)] 86)).alloc (.cells #[.int .i64 (op:Nat),.string ⟨text.toArray⟩,.slice ko kn aj] 43))/\qW ((w.alloc (.cells #[.pointer (some ⟨R,0,none⟩)] 86)).alloc (.cells #[.int .i64 (op:Nat),.string ⟨text.toArray⟩,.slice ko kn aj] 43)) bv.ownBlock ((w.alloc (.cells #[.pointer (some ⟨R,0,none⟩)] 86)).alloc (.cells #[.int .i64 (op:Nat),.string ⟨text.toArray⟩,.slice ko kn aj] 43)) R w.heap.size tv bv out o m l op text (.slice ko kn aj) ks:=by
 have O:=(aae.1 hx).1;have U:=ht;obtain⟨ta,dZ,rfl,t1,t2,t3⟩:=ht;obtain⟨tg,rfl,t4,t5⟩:=t3 (by omega);obtain⟨a,b,kv,c,d⟩:=t5 K _ hx;have T:=d;obtain⟨ko,aj,rfl,k1,-,-⟩:=T;obtain⟨kn,J⟩:=xq ks.length;rw[show (⟨(op:Nat),text,ks⟩:ae.NI).kids.length=kn from J.symm]at k1 c d;have H:=h.lt;have E:=Qq w (.cells #[.pointer (some ⟨R,0,none⟩)] 86);have I:=Qz E (Qq _ (.cells #[.int .i64 (op:Nat),.string ⟨text.toArray⟩,.slice ko kn aj] 43));refine⟨tg,l.length,dZ,ko,kn,aj,rfl,O,J,k1,(E.cell (p:=⟨R,0,none⟩) H).trans h.cells.1,(E.cell (p:=⟨tg,K*3,none⟩) (by show tg<_;omega)).trans a,(E.cell (p:=⟨tg,K*3+1,none⟩) (by show tg<_;omega)).trans b,(E.cell (p:=⟨tg,K*3+2,none⟩) (by show tg<_;omega)).trans c,I,?_⟩;refine⟨h.below I,Wr.refl _ _ _,Mv.refl _ _,U.below (I.mono (abD H)),d.below (I.mono (abD H)),?_,?_,H,by simp,fun q hq=>(h.own.lt q hq).2⟩
 ·exact((Qq _ _).block _ (by simp)).trans (aaz w _)
 have:=aaz (w.alloc (.cells #[.pointer (some ⟨R,0,none⟩)] 86)) (.cells #[.int .i64 (op:Nat),.string ⟨text.toArray⟩,.slice ko kn aj] 43);rw[show (w.alloc (.cells #[.pointer (some ⟨R,0,none⟩)] 86)).heap.size=w.heap.size+1 by simp]at this;exact this
theorem Qj1 (l:List ae.NI)(R K:Nat)(tv bv:Value)(out:Bytes)(o m:Nat)(w:World)(h:dI w R tv bv out o m)(ht:eB w R tv l)(text:Bytes)(ks:List Int)(hx:l[K]?=some ⟨((1:Nat):Int),text,ks⟩)(hl:out.length+text.length<=1099511627776):Calls Tryz.prog 51 #[.pointer (some ⟨R,0,none⟩),.int .i64 (K:Nat)] w (kI R tv bv (out++text) o m (.tuple #[]) w):=by
 obtain⟨tg,ln,dZ,ko,kn,aj,rfl,nP,bh,pC,c0,c1,c2,c3,hb,hN⟩:=Yq h ht hx;have gL:=zq bh;have HB:=zq hb;have HN:=zq hN;obtain⟨OUT,aG⟩:=xq (out++text);have bD:=zq aG;obtain⟨M,hM⟩:=xq m;have HM:=zq hM;have hle:=h.le;have ky:∀(fn:Fn) (first cap:Array Value) (w:World),(Instr.makeFunc fn first cap).run Tryz.prog w=.ok (.func fn first cap) w:=fun _ _ _ _=>rfl;rw[<-aG];clear hb hN h ht hx aG hM bh;go_enter Tryz.func51,Tryz.ntmps51;go_wp2_with fail;obtain⟨w2,hw2⟩:=xq ((w.alloc (.cells #[.pointer (some ⟨R,0,none⟩)] 86)).alloc (.cells #[.int .i64 1,.string ⟨text.toArray⟩,.slice ko kn aj] 43));have hw2':w2=(w.alloc (.cells #[.pointer (some ⟨R,0,none⟩)] 86)).alloc (.cells #[.int .i64 ((1:Nat):Int),.string ⟨(text:Bytes).toArray⟩,.slice ko kn aj] 43):=hw2;rw[<-hw2']at HB HN;rw[<-hw2];clear hw2 hw2' c0 c1 c2 c3;obtain⟨G,hG⟩:=xq w.heap.size;rw[<-hG]at HN ⊢;obtain⟨g0,g1,g2,g3⟩:=HN.o.cells;have j7:=zq hG;clear hG
 go_region_held3 (fun w'=>w'.cell? ⟨G,0,none⟩=some (.pointer (some ⟨R,0,none⟩))/\w'.cell? ⟨G+1,1,none⟩=some (.string ⟨(text:Bytes).toArray⟩))
  (first
   |go_keep
   |exact⟨((HN.o.below (below_drewN _ _)).step a1 a2 a3).cells.1,((HN.o.below (below_drewN _ _)).step a1 a2 a3).cells.2.2.1⟩)
  ((go_at_call 105;refine(Z7 R _ _ _ _ _ (text) _ (HN.o.ws.below (below_drewN _ _)) (by omega) (by omega)).mono ?_;rintro y w5 ⟨rfl,kK,a1,a2,a3⟩))
 have eI:=zq ((HN.o.below (below_drewN _ _)).step a1 a2 a3);clear a1 a2 a3 g0 g1 g2 g3;obtain⟨g0,g1,g2,g3⟩:=eI.o.cells;go_wp2_with fail
 first|go_end0|refine aaI (adF rfl _ _ _) rfl ?_
 have hf:=eI.o.fin HB.o;rw[show out++text=OUT by exact bD.o.symm]at hf;exact hf
theorem Qj2 (l:List ae.NI)(R K:Nat)(tv bv:Value)(out:Bytes)(o m:Nat)(w:World)(h:dI w R tv bv out o m)(ht:eB w R tv l)(text:Bytes)(ks:List Int)(hx:l[K]?=some ⟨((2:Nat):Int),text,ks⟩)(hl:out.length+text.length<=1099511627776):Calls Tryz.prog 51 #[.pointer (some ⟨R,0,none⟩),.int .i64 (K:Nat)] w (kI R tv bv (out++text) o m (.tuple #[]) w):=by
 obtain⟨tg,ln,dZ,ko,kn,aj,rfl,nP,bh,pC,c0,c1,c2,c3,hb,hN⟩:=Yq h ht hx;have gL:=zq bh;have HB:=zq hb;have HN:=zq hN;obtain⟨OUT,aG⟩:=xq (out++text);have bD:=zq aG;obtain⟨M,hM⟩:=xq m;have HM:=zq hM;have hle:=h.le;have ky:∀(fn:Fn) (first cap:Array Value) (w:World),(Instr.makeFunc fn first cap).run Tryz.prog w=.ok (.func fn first cap) w:=fun _ _ _ _=>rfl;rw[<-aG];clear hb hN h ht hx aG hM bh;go_enter Tryz.func51,Tryz.ntmps51;go_wp2_with fail;obtain⟨w2,hw2⟩:=xq ((w.alloc (.cells #[.pointer (some ⟨R,0,none⟩)] 86)).alloc (.cells #[.int .i64 2,.string ⟨text.toArray⟩,.slice ko kn aj] 43));have hw2':w2=(w.alloc (.cells #[.pointer (some ⟨R,0,none⟩)] 86)).alloc (.cells #[.int .i64 ((2:Nat):Int),.string ⟨(text:Bytes).toArray⟩,.slice ko kn aj] 43):=hw2;rw[<-hw2']at HB HN;rw[<-hw2];clear hw2 hw2' c0 c1 c2 c3;obtain⟨G,hG⟩:=xq w.heap.size;rw[<-hG]at HN ⊢;obtain⟨g0,g1,g2,g3⟩:=HN.o.cells;have j7:=zq hG;clear hG
 go_region_held3 (fun w'=>w'.cell? ⟨G,0,none⟩=some (.pointer (some ⟨R,0,none⟩))/\w'.cell? ⟨G+1,1,none⟩=some (.string ⟨(text:Bytes).toArray⟩))
  (first
   |go_keep
   |exact⟨((HN.o.below (below_drewN _ _)).step a1 a2 a3).cells.1,((HN.o.below (below_drewN _ _)).step a1 a2 a3).cells.2.2.1⟩)
  ((go_at_call 105;refine(Z7 R _ _ _ _ _ (text) _ (HN.o.ws.below (below_drewN _ _)) (by omega) (by omega)).mono ?_;rintro y w5 ⟨rfl,kK,a1,a2,a3⟩))
 have eI:=zq ((HN.o.below (below_drewN _ _)).step a1 a2 a3);clear a1 a2 a3 g0 g1 g2 g3;obtain⟨g0,g1,g2,g3⟩:=eI.o.cells;go_wp2_with fail
 first|go_end0|refine aaI (adF rfl _ _ _) rfl ?_
 have hf:=eI.o.fin HB.o;rw[show out++text=OUT by exact bD.o.symm]at hf;exact hf
theorem Qj3 (l:List ae.NI)(R K:Nat)(tv bv:Value)(out:Bytes)(o m:Nat)(w:World)(h:dI w R tv bv out o m)(ht:eB w R tv l)(text:Bytes)(ks:List Int)(hx:l[K]?=some ⟨((3:Nat):Int),text,ks⟩)(hl:out.length+text.length<=1099511627776):Calls Tryz.prog 51 #[.pointer (some ⟨R,0,none⟩),.int .i64 (K:Nat)] w (kI R tv bv (out++text) o m (.tuple #[]) w):=by
 obtain⟨tg,ln,dZ,ko,kn,aj,rfl,nP,bh,pC,c0,c1,c2,c3,hb,hN⟩:=Yq h ht hx;have gL:=zq bh;have HB:=zq hb;have HN:=zq hN;obtain⟨OUT,aG⟩:=xq (out++text);have bD:=zq aG;obtain⟨M,hM⟩:=xq m;have HM:=zq hM;have hle:=h.le;have ky:∀(fn:Fn) (first cap:Array Value) (w:World),(Instr.makeFunc fn first cap).run Tryz.prog w=.ok (.func fn first cap) w:=fun _ _ _ _=>rfl;rw[<-aG];clear hb hN h ht hx aG hM bh;go_enter Tryz.func51,Tryz.ntmps51;go_wp2_with fail;obtain⟨w2,hw2⟩:=xq ((w.alloc (.cells #[.pointer (some ⟨R,0,none⟩)] 86)).alloc (.cells #[.int .i64 3,.string ⟨text.toArray⟩,.slice ko kn aj] 43));have hw2':w2=(w.alloc (.cells #[.pointer (some ⟨R,0,none⟩)] 86)).alloc (.cells #[.int .i64 ((3:Nat):Int),.string ⟨(text:Bytes).toArray⟩,.slice ko kn aj] 43):=hw2;rw[<-hw2']at HB HN;rw[<-hw2];clear hw2 hw2' c0 c1 c2 c3;obtain⟨G,hG⟩:=xq w.heap.size;rw[<-hG]at HN ⊢;obtain⟨g0,g1,g2,g3⟩:=HN.o.cells;have j7:=zq hG;clear hG
 go_region_held3 (fun w'=>w'.cell? ⟨G,0,none⟩=some (.pointer (some ⟨R,0,none⟩))/\w'.cell? ⟨G+1,1,none⟩=some (.string ⟨(text:Bytes).toArray⟩))
  (first
   |go_keep
   |exact⟨((HN.o.below (below_drewN _ _)).step a1 a2 a3).cells.1,((HN.o.below (below_drewN _ _)).step a1 a2 a3).cells.2.2.1⟩)
  ((go_at_call 105;refine(Z7 R _ _ _ _ _ (text) _ (HN.o.ws.below (below_drewN _ _)) (by omega) (by omega)).mono ?_;rintro y w5 ⟨rfl,kK,a1,a2,a3⟩))
 have eI:=zq ((HN.o.below (below_drewN _ _)).step a1 a2 a3);clear a1 a2 a3 g0 g1 g2 g3;obtain⟨g0,g1,g2,g3⟩:=eI.o.cells;go_wp2_with fail
 first|go_end0|refine aaI (adF rfl _ _ _) rfl ?_
 have hf:=eI.o.fin HB.o;rw[show out++text=OUT by exact bD.o.symm]at hf;exact hf
theorem Qqt (l:List ae.NI)(R K:Nat)(tv bv:Value)(out:Bytes)(o m:Nat)(w:World)(h:dI w R tv bv out o m)(ht:eB w R tv l)(text:Bytes)(ks:List Int)(hx:l[K]?=some ⟨((13:Nat):Int),text,ks⟩)(hl:out.length+text.length<=1099511627776):Calls Tryz.prog 51 #[.pointer (some ⟨R,0,none⟩),.int .i64 (K:Nat)] w (kI R tv bv (out++text) o m (.tuple #[]) w):=by
 obtain⟨tg,ln,dZ,ko,kn,aj,rfl,nP,bh,pC,c0,c1,c2,c3,hb,hN⟩:=Yq h ht hx;have gL:=zq bh;have HB:=zq hb;have HN:=zq hN;obtain⟨OUT,aG⟩:=xq (out++text);have bD:=zq aG;obtain⟨M,hM⟩:=xq m;have HM:=zq hM;have hle:=h.le;have ky:∀(fn:Fn) (first cap:Array Value) (w:World),(Instr.makeFunc fn first cap).run Tryz.prog w=.ok (.func fn first cap) w:=fun _ _ _ _=>rfl;rw[<-aG];clear hb hN h ht hx aG hM bh;go_enter Tryz.func51,Tryz.ntmps51;go_wp2_with fail;obtain⟨w2,hw2⟩:=xq ((w.alloc (.cells #[.pointer (some ⟨R,0,none⟩)] 86)).alloc (.cells #[.int .i64 13,.string ⟨text.toArray⟩,.slice ko kn aj] 43));have hw2':w2=(w.alloc (.cells #[.pointer (some ⟨R,0,none⟩)] 86)).alloc (.cells #[.int .i64 ((13:Nat):Int),.string ⟨(text:Bytes).toArray⟩,.slice ko kn aj] 43):=hw2;rw[<-hw2']at HB HN;rw[<-hw2];clear hw2 hw2' c0 c1 c2 c3;obtain⟨G,hG⟩:=xq w.heap.size;rw[<-hG]at HN ⊢;obtain⟨g0,g1,g2,g3⟩:=HN.o.cells;have j7:=zq hG;clear hG
 go_region_held3 (fun w'=>w'.cell? ⟨G,0,none⟩=some (.pointer (some ⟨R,0,none⟩))/\w'.cell? ⟨G+1,1,none⟩=some (.string ⟨(text:Bytes).toArray⟩))
  (first
   |go_keep
   |exact⟨((HN.o.below (below_drewN _ _)).step a1 a2 a3).cells.1,((HN.o.below (below_drewN _ _)).step a1 a2 a3).cells.2.2.1⟩)
  ((go_at_call 105;refine(Z7 R _ _ _ _ _ (text) _ (HN.o.ws.below (below_drewN _ _)) (by omega) (by omega)).mono ?_;rintro y w5 ⟨rfl,kK,a1,a2,a3⟩))
 have eI:=zq ((HN.o.below (below_drewN _ _)).step a1 a2 a3);clear a1 a2 a3 g0 g1 g2 g3;obtain⟨g0,g1,g2,g3⟩:=eI.o.cells;go_wp2_with fail
 first|go_end0|refine aaI (adF rfl _ _ _) rfl ?_
 have hf:=eI.o.fin HB.o;rw[show out++text=OUT by exact bD.o.symm]at hf;exact hf
theorem Qqi (l:List ae.NI)(R K:Nat)(tv bv:Value)(out:Bytes)(o m:Nat)(w:World)(h:dI w R tv bv out o m)(ht:eB w R tv l)(text:Bytes)(ks:List Int)(hx:l[K]?=some ⟨((14:Nat):Int),text,ks⟩)(hl:out.length+text.length<=1099511627776):Calls Tryz.prog 51 #[.pointer (some ⟨R,0,none⟩),.int .i64 (K:Nat)] w (kI R tv bv (out++text) o m (.tuple #[]) w):=by
 obtain⟨tg,ln,dZ,ko,kn,aj,rfl,nP,bh,pC,c0,c1,c2,c3,hb,hN⟩:=Yq h ht hx;have gL:=zq bh;have HB:=zq hb;have HN:=zq hN;obtain⟨OUT,aG⟩:=xq (out++text);have bD:=zq aG;obtain⟨M,hM⟩:=xq m;have HM:=zq hM;have hle:=h.le;have ky:∀(fn:Fn) (first cap:Array Value) (w:World),(Instr.makeFunc fn first cap).run Tryz.prog w=.ok (.func fn first cap) w:=fun _ _ _ _=>rfl;rw[<-aG];clear hb hN h ht hx aG hM bh;go_enter Tryz.func51,Tryz.ntmps51;go_wp2_with fail;obtain⟨w2,hw2⟩:=xq ((w.alloc (.cells #[.pointer (some ⟨R,0,none⟩)] 86)).alloc (.cells #[.int .i64 14,.string ⟨text.toArray⟩,.slice ko kn aj] 43));have hw2':w2=(w.alloc (.cells #[.pointer (some ⟨R,0,none⟩)] 86)).alloc (.cells #[.int .i64 ((14:Nat):Int),.string ⟨(text:Bytes).toArray⟩,.slice ko kn aj] 43):=hw2;rw[<-hw2']at HB HN;rw[<-hw2];clear hw2 hw2' c0 c1 c2 c3;obtain⟨G,hG⟩:=xq w.heap.size;rw[<-hG]at HN ⊢;obtain⟨g0,g1,g2,g3⟩:=HN.o.cells;have j7:=zq hG;clear hG
 go_region_held3 (fun w'=>w'.cell? ⟨G,0,none⟩=some (.pointer (some ⟨R,0,none⟩))/\w'.cell? ⟨G+1,1,none⟩=some (.string ⟨(text:Bytes).toArray⟩))
  (first
   |go_keep
   |exact⟨((HN.o.below (below_drewN _ _)).step a1 a2 a3).cells.1,((HN.o.below (below_drewN _ _)).step a1 a2 a3).cells.2.2.1⟩)
  ((go_at_call 105;refine(Z7 R _ _ _ _ _ (text) _ (HN.o.ws.below (below_drewN _ _)) (by omega) (by omega)).mono ?_;rintro y w5 ⟨rfl,kK,a1,a2,a3⟩))
 have eI:=zq ((HN.o.below (below_drewN _ _)).step a1 a2 a3);clear a1 a2 a3 g0 g1 g2 g3;obtain⟨g0,g1,g2,g3⟩:=eI.o.cells;go_wp2_with fail
 first|go_end0|refine aaI (adF rfl _ _ _) rfl ?_
 have hf:=eI.o.fin HB.o;rw[show out++text=OUT by exact bD.o.symm]at hf;exact hf
theorem Hp {e:ae.Ex}{op:Nat}{t:Bytes}(hf:∀p,e.flat p=[⟨op,t,[]⟩])(hp:e.pr=t)(hs:e.size=1)(hd:e.dp=0)
  (H:∀(l:List ae.NI) (R K:Nat) (tv bv:Value) (out:Bytes) (o m:Nat) (w:World),dI w R tv bv out o m->eB w R tv l-> ∀(text:Bytes) (ks:List Int),l[K]?=some ⟨((op:Nat):Int),text,ks⟩->out.length+text.length<=1099511627776->Calls Tryz.prog 51 #[.pointer (some ⟨R,0,none⟩),.int .i64 (K:Nat)] w (kI R tv bv (out++text) o m (.tuple #[]) w)):Xt e:=by
 intro l R p tv bv out o m w h O E J Z U;rw[hf]at E;have T:=E.one;have I:=H l R p tv bv out o m w h O t [] T (by rw[hp]at J;omega);rw[hs,hp,hd];rw[show max m (o+0)=m by have:=h.le;omega];exact I
theorem Qmd (n:Nat):Xt (.num n):=Hp (op:=1) (t:=ae.ar n) (fun _=>rfl) rfl rfl rfl Qj1
theorem Qyp (x:Bytes):Xt (.name x):=Hp (op:=2) (t:=x) (fun _=>rfl) rfl rfl rfl Qj2
theorem Qmb (m:ae.cn):Xt (.mat m):=Hp (op:=3) (t:=ae.bB m) (fun _=>rfl) rfl rfl rfl Qj3
theorem Qmh (l:List (List Nat)):Xt (.cpx l):=Hp (op:=13) (t:=ae.cP l) (fun _=>rfl) rfl rfl rfl Qqt
theorem Qmc (a:ae.Ex)(IH:Xt a):Xt (.neg a):=by
 intro l R p tv bv out o m w h ht hs hl ho hp;have hsz:(ae.Ex.neg a).size=a.size+1:=rfl;obtain⟨eR,hst⟩:=ae.bN.app (a:=a.flat p) (b:=[⟨4,[],[p+a.size-1]⟩]) hs
 have hx:l[p+a.size]?=some ⟨((4:Nat):Int),[],[((p+a.size-1:Nat):Int)]⟩:=by have:=hst.one;rw[ae.X7]at this;exact this
 have hap:=ae.Q5 a;have fW:=zq eR;have hpl:(ae.Ex.neg a).pr=[45]++ae.par (ae.Qy 4 0 a.op) a.pr:=rfl;rw[hpl]at hl;simp only[aac,aaf,aaG]at hl;have cD:(ae.Ex.neg a).dp=ae.ay (ae.Qy 4 0 a.op) a.dp:=rfl;rw[show p+(ae.Ex.neg a).size-1=p+a.size by rw[hsz];omega,hpl,cD];rw[hsz]at ho hp;obtain⟨K,hK⟩:=xq (p+a.size);rw[<-hK]at hx ⊢;have HK:=zq hK;clear hK hs hst eR hpl cD hsz;obtain⟨tg,ln,dZ,ko,kn,aj,rfl,nP,bh,pC,c0,c1,c2,c3,hb,hN⟩:=Yq h ht hx;have gL:=zq bh;have HB:=zq hb;have HN:=zq hN;obtain⟨OUT,aG⟩:=xq (out++([45]++ae.par (ae.Qy 4 0 a.op) a.pr));have bD:=zq aG;obtain⟨M,hM⟩:=xq (max m (o+ae.ay (ae.Qy 4 0 a.op) a.dp));have HM:=zq hM;have hle:=h.le;have ky:∀(fn:Fn) (first cap:Array Value) (w:World),(Instr.makeFunc fn first cap).run Tryz.prog w=.ok (.func fn first cap) w:=fun _ _ _ _=>rfl;rw[<-aG,<-hM];clear hb hN h ht hx aG hM bh;go_enter Tryz.func51,Tryz.ntmps51;go_wp2_with fail;obtain⟨w2,hw2⟩:=xq ((w.alloc (.cells #[.pointer (some ⟨R,0,none⟩)] 86)).alloc (.cells #[.int .i64 4,.string ⟨#[]⟩,.slice ko kn aj] 43));have hw2':w2=(w.alloc (.cells #[.pointer (some ⟨R,0,none⟩)] 86)).alloc (.cells #[.int .i64 ((4:Nat):Int),.string ⟨([]:Bytes).toArray⟩,.slice ko kn aj] 43):=hw2;rw[<-hw2']at HB HN;rw[<-hw2];clear hw2 hw2' c0 c1 c2 c3;obtain⟨G,hG⟩:=xq w.heap.size;rw[<-hG]at HN ⊢;obtain⟨g0,g1,g2,g3⟩:=HN.o.cells;have j7:=zq hG;clear hG;refine(Vu R _ bv out o m 45 _ HN.o.ws (by omega)).mono ?_;rintro y w3 ⟨rfl,mA,a1,a2,a3⟩;have ew:=zq (HN.o.step a1 a2 a3);clear a1 a2 a3 g0 g1 g2 g3;obtain⟨g0,g1,g2,g3⟩:=ew.o.cells;go_wp2_with fail;refine(Jm 4 0 a IH l R p _ _ _ _ _ _ ew.o.ws ew.o.nl fW.o (by simp only[aac,aaf,aaG];omega) (by omega) (by omega) _ _ _ ew.o.kl (by rw[HK.o];rfl)).mono ?_;rintro y w4 ⟨rfl,oF,a1,a2,a3⟩;have eX:=zq (ew.o.step a1 a2 a3);clear a1 a2 a3 g0 g1 g2 g3;obtain⟨g0,g1,g2,g3⟩:=eX.o.cells;go_wp2_with fail
 first|go_end0|refine aaI (adF rfl _ _ _) rfl ?_
 have hf:=eX.o.fin HB.o;rw[show out++[45]++ae.par (ae.Qy 4 0 a.op) a.pr=OUT by rw[bD.o,aar],show max m (o+ae.ay (ae.Qy 4 0 a.op) a.dp)=M by exact HM.o.symm]at hf;exact hf
theorem Qyg (a:ae.Ex)(IH:Xt a):Xt (.turn a):=by
 intro l R p tv bv out o m w h ht hs hl ho hp;have hsz:(ae.Ex.turn a).size=a.size+1:=rfl;obtain⟨eR,hst⟩:=ae.bN.app (a:=a.flat p) (b:=[⟨5,[],[p+a.size-1]⟩]) hs
 have hx:l[p+a.size]?=some ⟨((5:Nat):Int),[],[((p+a.size-1:Nat):Int)]⟩:=by have:=hst.one;rw[ae.X7]at this;exact this
 have hap:=ae.Q5 a;have fW:=zq eR;have hpl:(ae.Ex.turn a).pr=ae.par (ae.Qy 5 0 a.op) a.pr++[39]:=rfl;rw[hpl]at hl;simp only[aac,aaf,aaG]at hl;have cD:(ae.Ex.turn a).dp=ae.ay (ae.Qy 5 0 a.op) a.dp:=rfl;rw[show p+(ae.Ex.turn a).size-1=p+a.size by rw[hsz];omega,hpl,cD];rw[hsz]at ho hp;obtain⟨K,hK⟩:=xq (p+a.size);rw[<-hK]at hx ⊢;have HK:=zq hK;clear hK hs hst eR hpl cD hsz;obtain⟨tg,ln,dZ,ko,kn,aj,rfl,nP,bh,pC,c0,c1,c2,c3,hb,hN⟩:=Yq h ht hx;have gL:=zq bh;have HB:=zq hb;have HN:=zq hN;obtain⟨OUT,aG⟩:=xq (out++(ae.par (ae.Qy 5 0 a.op) a.pr++[39]));have bD:=zq aG;obtain⟨M,hM⟩:=xq (max m (o+ae.ay (ae.Qy 5 0 a.op) a.dp));have HM:=zq hM;have hle:=h.le;have ky:∀(fn:Fn) (first cap:Array Value) (w:World),(Instr.makeFunc fn first cap).run Tryz.prog w=.ok (.func fn first cap) w:=fun _ _ _ _=>rfl;rw[<-aG,<-hM];clear hb hN h ht hx aG hM bh;go_enter Tryz.func51,Tryz.ntmps51;go_wp2_with fail;obtain⟨w2,hw2⟩:=xq ((w.alloc (.cells #[.pointer (some ⟨R,0,none⟩)] 86)).alloc (.cells #[.int .i64 5,.string ⟨#[]⟩,.slice ko kn aj] 43));have hw2':w2=(w.alloc (.cells #[.pointer (some ⟨R,0,none⟩)] 86)).alloc (.cells #[.int .i64 ((5:Nat):Int),.string ⟨([]:Bytes).toArray⟩,.slice ko kn aj] 43):=hw2;rw[<-hw2']at HB HN;rw[<-hw2];clear hw2 hw2' c0 c1 c2 c3;obtain⟨G,hG⟩:=xq w.heap.size;rw[<-hG]at HN ⊢;obtain⟨g0,g1,g2,g3⟩:=HN.o.cells;have j7:=zq hG;clear hG;refine(Jm 5 0 a IH l R p _ _ _ _ _ _ HN.o.ws HN.o.nl fW.o (by omega) (by omega) (by omega) _ _ _ HN.o.kl (by rw[HK.o];rfl)).mono ?_;rintro y w3 ⟨rfl,mA,a1,a2,a3⟩;have ew:=zq (HN.o.step a1 a2 a3);clear a1 a2 a3 g0 g1 g2 g3;obtain⟨g0,g1,g2,g3⟩:=ew.o.cells;go_wp2_with fail;refine(Vu R _ _ _ _ _ 39 _ ew.o.ws (by simp only[aac,aaf,aaG];omega)).mono ?_;rintro y w4 ⟨rfl,oF,a1,a2,a3⟩;have eX:=zq (ew.o.step a1 a2 a3);clear a1 a2 a3 g0 g1 g2 g3;obtain⟨g0,g1,g2,g3⟩:=eX.o.cells;go_wp2_with fail
 first|go_end0|refine aaI (adF rfl _ _ _) rfl ?_
 have hf:=eX.o.fin HB.o;rw[show out++ae.par (ae.Qy 5 0 a.op) a.pr++[39]=OUT by rw[bD.o,aar],show max m (o+ae.ay (ae.Qy 5 0 a.op) a.dp)=M by exact HM.o.symm]at hf;exact hf
theorem Qmu (a:ae.Ex)(n:Nat)(IH:Xt a):Xt (.pow a n):=by
 intro l R p tv bv out o m w h ht hs hl ho hp;have hsz:(ae.Ex.pow a n).size=a.size+1:=rfl;obtain⟨eR,hst⟩:=ae.bN.app (a:=a.flat p) (b:=[⟨9,ae.ar n,[p+a.size-1]⟩]) hs
 have hx:l[p+a.size]?=some ⟨((9:Nat):Int),ae.ar n,[((p+a.size-1:Nat):Int)]⟩:=by have:=hst.one;rw[ae.X7]at this;exact this
 have hap:=ae.Q5 a;have fW:=zq eR;have hpl:(ae.Ex.pow a n).pr=ae.par (ae.Qy 9 0 a.op) a.pr++([94]++ae.ar n):=rfl;rw[hpl]at hl;simp only[aac,aaf,aaG]at hl;have cD:(ae.Ex.pow a n).dp=ae.ay (ae.Qy 9 0 a.op) a.dp:=rfl;rw[show p+(ae.Ex.pow a n).size-1=p+a.size by rw[hsz];omega,hpl,cD];rw[hsz]at ho hp;obtain⟨K,hK⟩:=xq (p+a.size);rw[<-hK]at hx ⊢;have HK:=zq hK;clear hK hs hst eR hpl cD hsz;obtain⟨tg,ln,dZ,ko,kn,aj,rfl,nP,bh,pC,c0,c1,c2,c3,hb,hN⟩:=Yq h ht hx;have gL:=zq bh;have HB:=zq hb;have HN:=zq hN;obtain⟨OUT,aG⟩:=xq (out++(ae.par (ae.Qy 9 0 a.op) a.pr++([94]++ae.ar n)));have bD:=zq aG;obtain⟨M,hM⟩:=xq (max m (o+ae.ay (ae.Qy 9 0 a.op) a.dp));have HM:=zq hM;have hle:=h.le;have ky:∀(fn:Fn) (first cap:Array Value) (w:World),(Instr.makeFunc fn first cap).run Tryz.prog w=.ok (.func fn first cap) w:=fun _ _ _ _=>rfl;rw[<-aG,<-hM];clear hb hN h ht hx aG hM bh;go_enter Tryz.func51,Tryz.ntmps51;go_wp2_with fail;obtain⟨w2,hw2⟩:=xq ((w.alloc (.cells #[.pointer (some ⟨R,0,none⟩)] 86)).alloc (.cells #[.int .i64 9,.string ⟨(ae.ar n).toArray⟩,.slice ko kn aj] 43));have hw2':w2=(w.alloc (.cells #[.pointer (some ⟨R,0,none⟩)] 86)).alloc (.cells #[.int .i64 ((9:Nat):Int),.string ⟨(ae.ar n:Bytes).toArray⟩,.slice ko kn aj] 43):=hw2;rw[<-hw2']at HB HN;rw[<-hw2];clear hw2 hw2' c0 c1 c2 c3;obtain⟨G,hG⟩:=xq w.heap.size;rw[<-hG]at HN ⊢;obtain⟨g0,g1,g2,g3⟩:=HN.o.cells;have j7:=zq hG;clear hG
 have hdt: ¬9223372036854775807<1+(ae.ar n).length:=by omega
 refine(Jm 9 0 a IH l R p _ _ _ _ _ _ HN.o.ws HN.o.nl fW.o (by omega) (by omega) (by omega) _ _ _ HN.o.kl (by rw[HK.o];rfl)).mono ?_;rintro y w3 ⟨rfl,mA,a1,a2,a3⟩;have ew:=zq (HN.o.step a1 a2 a3);clear a1 a2 a3 g0 g1 g2 g3;obtain⟨g0,g1,g2,g3⟩:=ew.o.cells;go_wp2_with fail
 go_region_held3 (fun w'=>w'.cell? ⟨G,0,none⟩=some (.pointer (some ⟨R,0,none⟩))/\w'.cell? ⟨G+1,1,none⟩=some (.string ⟨(ae.ar n:Bytes).toArray⟩))
  (first
   |go_keep
   |exact⟨((ew.o.below (below_drewN _ _)).step a1 a2 a3).cells.1,((ew.o.below (below_drewN _ _)).step a1 a2 a3).cells.2.2.1⟩)
  ((go_at_call 105;refine(Z7 R _ _ _ _ _ ([94]++ae.ar n) _ (ew.o.ws.below (below_drewN _ _)) (by simp only[aac,aaf,aaG];omega) (by simp only[aac,aaf,aaG];omega)).mono ?_;rintro y w4 ⟨rfl,oF,a1,a2,a3⟩))
 have eX:=zq ((ew.o.below (below_drewN _ _)).step a1 a2 a3);clear a1 a2 a3 g0 g1 g2 g3;obtain⟨g0,g1,g2,g3⟩:=eX.o.cells;go_wp2_with fail
 first|go_end0|refine aaI (adF rfl _ _ _) rfl ?_
 have hf:=eX.o.fin HB.o;rw[show out++ae.par (ae.Qy 9 0 a.op) a.pr++([94]++ae.ar n)=OUT by rw[bD.o,aar],show max m (o+ae.ay (ae.Qy 9 0 a.op) a.dp)=M by exact HM.o.symm]at hf;exact hf
theorem Qmg (ks:ae.aV)(IH:∀e∈ae.bO ks,Xt e)(l:List ae.NI)(R p G:Nat)(tv bv:Value)(out:Bytes)(o m:Nat)(w w0:World)(og:Option Nat)(text:Bytes)(kv:Value)(h:qW w0 og w R G tv bv out o m l 10 text kv (Jz (ks.roots p)))(hs:ae.bN l p (ks.flat p))(hl:out.length+ks.pr.length<=274877906944)(ho:o+2*ks.size+1<=100000)(hp:p+ks.size<=100000):Calls Tryz.prog 107 #[.pointer (some ⟨G,0,none⟩),.pointer (some ⟨G+1,0,none⟩)] w (kI R tv bv (out++ks.pr) o (max m (o+ks.dp)) (.tuple #[]) w):=by
 have HC:=zq (ZF ks IH l R p tv bv out o m w h.ws h.nl hs hl ho hp 10 (.inl rfl) ⟨text.toArray⟩ kv h.kl);obtain⟨OUT,aG⟩:=xq (out++ks.pr);obtain⟨M,hM⟩:=xq (max m (o+ks.dp));rw[<-aG,<-hM]at HC ⊢;obtain⟨g0,g1,g2,g3⟩:=h.cells;obtain⟨ko,aj,rfl,-,-,-⟩:=h.kl;obtain⟨kn,bh⟩:=xq ((Jz (ks.roots p)).length);rw[<-bh]at HC g3;clear h hs hl ho hp aG hM bh;go_enter Tryz.func107,Tryz.ntmps107;go_wp2_with fail;refine HC.o.mono ?_;rintro e w1 ⟨rfl,H⟩;have HH:=zq H;clear H;go_wp2_with fail
 first|go_end0|refine aaI (adF rfl _ _ _) rfl ?_
 exact⟨rfl,HH.o⟩
theorem Qyy (x:Bytes)(ks:ae.aV)(IH:∀e∈ae.bO ks,Xt e):Xt (.call x ks):=by
 intro l R p tv bv out o m w h ht hs hl ho hp;have hsz:(ae.Ex.call x ks).size=ks.size+1:=rfl;obtain⟨eR,hst⟩:=ae.bN.app (a:=ks.flat p) (b:=[⟨10,x,ks.roots p⟩]) hs
 have hx:l[p+ks.size]?=some ⟨((10:Nat):Int),x,Jz (ks.roots p)⟩:=by have:=hst.one;rw[ae.W7]at this;exact this
 have fW:=zq eR;have hpl:(ae.Ex.call x ks).pr=x++([40]++ks.pr++[41]):=rfl;rw[hpl]at hl;simp only[aac,aaf,aaG]at hl;have cD:(ae.Ex.call x ks).dp=ks.dp+1:=rfl;have SM:=ae.YR ks;rw[show p+(ae.Ex.call x ks).size-1=p+ks.size by rw[hsz];omega,hpl,cD];rw[hsz]at ho hp;obtain⟨K,hK⟩:=xq (p+ks.size);rw[<-hK]at hx ⊢;have HK:=zq hK;clear hK hs hst eR hpl cD hsz;obtain⟨tg,ln,dZ,ko,kn,aj,rfl,nP,bh,pC,c0,c1,c2,c3,hb,hN⟩:=Yq h ht hx;have gL:=zq bh;have HB:=zq hb;have HN:=zq hN;obtain⟨OUT,aG⟩:=xq (out++(x++([40]++ks.pr++[41])));have bD:=zq aG;obtain⟨M,hM⟩:=xq (max m (o+(ks.dp+1)));have HM:=zq hM;have hle:=h.le;have ky:∀(fn:Fn) (first cap:Array Value) (w:World),(Instr.makeFunc fn first cap).run Tryz.prog w=.ok (.func fn first cap) w:=fun _ _ _ _=>rfl;rw[<-aG,<-hM];clear hb hN h ht hx aG hM bh;go_enter Tryz.func51,Tryz.ntmps51;go_wp2_with fail;obtain⟨w2,hw2⟩:=xq ((w.alloc (.cells #[.pointer (some ⟨R,0,none⟩)] 86)).alloc (.cells #[.int .i64 10,.string ⟨x.toArray⟩,.slice ko kn aj] 43));have hw2':w2=(w.alloc (.cells #[.pointer (some ⟨R,0,none⟩)] 86)).alloc (.cells #[.int .i64 ((10:Nat):Int),.string ⟨(x:Bytes).toArray⟩,.slice ko kn aj] 43):=hw2;rw[<-hw2']at HB HN;rw[<-hw2];clear hw2 hw2' c0 c1 c2 c3;obtain⟨G,hG⟩:=xq w.heap.size;rw[<-hG]at HN ⊢;obtain⟨g0,g1,g2,g3⟩:=HN.o.cells;have j7:=zq hG;clear hG
 go_region_held3 (fun w'=>w'.cell? ⟨G,0,none⟩=some (.pointer (some ⟨R,0,none⟩))/\w'.cell? ⟨G+1,1,none⟩=some (.string ⟨(x:Bytes).toArray⟩))
  (first
   |go_keep
   |exact⟨((HN.o.below (below_drewN _ _)).step a1 a2 a3).cells.1,((HN.o.below (below_drewN _ _)).step a1 a2 a3).cells.2.2.1⟩)
  ((go_at_call 105;refine(Z7 R _ _ _ _ _ (x) _ (HN.o.ws.below (below_drewN _ _)) (by omega) (by omega)).mono ?_;rintro y w3 ⟨rfl,mA,a1,a2,a3⟩))
 have ew:=zq ((HN.o.below (below_drewN _ _)).step a1 a2 a3);clear a1 a2 a3 g0 g1 g2 g3;obtain⟨g0,g1,g2,g3⟩:=ew.o.cells
 have HC:=zq (Qzi R _ mA (out++x) o m w3 ew.o.ws (by rw[aac];omega) (by omega) (.pointer (some ⟨G,0,none⟩)) (.pointer (some ⟨G+1,0,none⟩)) ks.pr (by omega) ks.dp (by omega) (fun sH w5 b1 b2 b3=>by
  have eI:=ew.o.step b1 b2 b3
  exact Qmg ks IH l R p G _ sH (out++x++[40]) (o+1) (max m (o+1)) w5 _ _ x _ eI fW.o (by rw[aac,aac,aaJ];omega) (by omega) (by omega)))
 go_wp2_with fail;refine(HC.o).mono ?_;rintro y w4 ⟨rfl,oF,a1,a2,a3⟩;have eX:=zq (ew.o.step a1 a2 a3);clear a1 a2 a3 g0 g1 g2 g3;obtain⟨g0,g1,g2,g3⟩:=eX.o.cells;go_wp2_with fail
 first|go_end0|refine aaI (adF rfl _ _ _) rfl ?_
 have hf:=eX.o.fin HB.o;rw[show out++x++([40]++ks.pr++[41])=OUT by rw[bD.o,aar],show max m (o+(ks.dp+1))=M by exact HM.o.symm]at hf;exact hf
def sy (n:ae.Ln):Prop:=∀(l:List ae.NI) (R:Nat) (tv bv:Value) (out:Bytes) (o m:Nat) (w:World),dI w R tv bv out o m->eB w R tv l->ae.bN l 0 n.flat->out.length+n.pr.length<=274877906944->o+2*n.size<=100000->Calls Tryz.prog 51 #[.pointer (some ⟨R,0,none⟩),.int .i64 ((n.size-1:Nat):Int)] w (kI R tv bv (out++n.pr) o (max m (o+n.dp)) (.tuple #[]) w)
theorem Qjl:sy .nothing:=by
 intro l R tv bv E o m w h J I O T;have K:=ae.bN.one (n:=⟨14,[],[]⟩) I;have H:=Qqi l R 0 tv bv E o m w h J [] [] K (by simp only[aaG];omega)
 have e1:max m (o+0)=m:=by have:=h.le;omega
 show Calls _ _ _ _ (kI R tv bv (E++[]) o (max m (o+0)) _ w);rw[e1];exact H
theorem Qb2 (x:Bytes)(e:ae.Ex)(IH:Xt e):sy (.lets x e):=by
 intro l R tv bv out o m w h ht hs hl ho;have hsz:(ae.Ln.lets x e).size=e.size+1:=rfl;obtain⟨eR,hst⟩:=ae.bN.app (a:=e.flat 0) (b:=[⟨11,x,[e.size-1]⟩]) hs
 have hx:l[0+e.size]?=some ⟨((11:Nat):Int),x,[((e.size-1:Nat):Int)]⟩:=by have:=hst.one;rw[ae.X7]at this;exact this
 have hap:=ae.Q5 e;have fW:=zq eR;have hpl:(ae.Ln.lets x e).pr=([108,101,116,32]++x++[32,61,32])++e.pr:=rfl;rw[hpl]at hl;simp only[aac,aaf,aaG]at hl;have cD:(ae.Ln.lets x e).dp=e.dp:=rfl;rw[show (ae.Ln.lets x e).size-1=0+e.size by rw[hsz];omega,hpl,cD];rw[hsz]at ho;obtain⟨K,hK⟩:=xq (0+e.size);rw[<-hK]at hx ⊢;have HK:=zq hK;clear hK hs hst eR hpl cD hsz;obtain⟨tg,ln,dZ,ko,kn,aj,rfl,nP,bh,pC,c0,c1,c2,c3,hb,hN⟩:=Yq h ht hx;have gL:=zq bh;have HB:=zq hb;have HN:=zq hN;obtain⟨OUT,aG⟩:=xq (out++(([108,101,116,32]++x++[32,61,32])++e.pr));have bD:=zq aG;obtain⟨M,hM⟩:=xq (max m (o+e.dp));have HM:=zq hM;have hle:=h.le;have ky:∀(fn:Fn) (first cap:Array Value) (w:World),(Instr.makeFunc fn first cap).run Tryz.prog w=.ok (.func fn first cap) w:=fun _ _ _ _=>rfl;rw[<-aG,<-hM];clear hb hN h ht hx aG hM bh;go_enter Tryz.func51,Tryz.ntmps51;go_wp2_with fail;obtain⟨w2,hw2⟩:=xq ((w.alloc (.cells #[.pointer (some ⟨R,0,none⟩)] 86)).alloc (.cells #[.int .i64 11,.string ⟨x.toArray⟩,.slice ko kn aj] 43));have hw2':w2=(w.alloc (.cells #[.pointer (some ⟨R,0,none⟩)] 86)).alloc (.cells #[.int .i64 ((11:Nat):Int),.string ⟨(x:Bytes).toArray⟩,.slice ko kn aj] 43):=hw2;rw[<-hw2']at HB HN;rw[<-hw2];clear hw2 hw2' c0 c1 c2 c3;obtain⟨G,hG⟩:=xq w.heap.size;rw[<-hG]at HN ⊢;obtain⟨g0,g1,g2,g3⟩:=HN.o.cells;have j7:=zq hG;clear hG
 have pI: ¬9223372036854775807<4+x.length:=by omega
 have adh: ¬9223372036854775807<4+x.length+3:=by omega
 go_region_held3 (fun w'=>w'.cell? ⟨G,0,none⟩=some (.pointer (some ⟨R,0,none⟩))/\w'.cell? ⟨G+1,1,none⟩=some (.string ⟨(x:Bytes).toArray⟩))
  (first
   |go_keep
   |exact⟨((HN.o.below (below_drewN _ _)).step a1 a2 a3).cells.1,((HN.o.below (below_drewN _ _)).step a1 a2 a3).cells.2.2.1⟩)
  ((go_at_call 105;refine(Z7 R _ _ _ _ _ ([108,101,116,32]++x++[32,61,32]) _ (HN.o.ws.below (below_drewN _ _)) (by omega) (by simp only[aac,aaf,aaG];omega)).mono ?_;rintro y w3 ⟨rfl,mA,a1,a2,a3⟩))
 have ew:=zq ((HN.o.below (below_drewN _ _)).step a1 a2 a3);clear a1 a2 a3 g0 g1 g2 g3;obtain⟨g0,g1,g2,g3⟩:=ew.o.cells;have HC:=zq (Jm 11 0 e IH l R 0 _ _ _ _ _ _ ew.o.ws ew.o.nl fW.o (by show _+e.pr.length<=_;simp only[aac,aaf,aaG];omega) (by omega) (by omega) ⟨x.toArray⟩ _ _ ew.o.kl (by rw[abx];rfl));go_wp2_with fail;refine(HC.o).mono ?_;rintro y w4 ⟨rfl,oF,a1,a2,a3⟩;have eX:=zq (ew.o.step a1 a2 a3);clear a1 a2 a3 g0 g1 g2 g3;obtain⟨g0,g1,g2,g3⟩:=eX.o.cells;go_wp2_with fail
 first|go_end0|refine aaI (adF rfl _ _ _) rfl ?_
 have hf:=eX.o.fin HB.o;rw[show out++([108,101,116,32]++x++[32,61,32])++ae.par (ae.Qy 11 0 e.op) e.pr=OUT by rw[bD.o,aar];rfl,show max m (o+ae.ay (ae.Qy 11 0 e.op) e.dp)=M by rw[HM.o];rfl]at hf;exact hf
theorem Qju (x:Bytes)(IH:∀e∈ae.bO .nil,Xt e):sy (.cmd x .nil):=by
 intro l R tv bv out o m w h ht hs hl ho;obtain⟨ks,oN⟩:=xq ae.aV.nil
 have hsz:(ae.Ln.cmd x .nil).size=ks.size+1:=by rw[oN];rfl
 obtain⟨eR,hst⟩:=ae.bN.app (a:=(ae.aV.nil).flat 0) (b:=[⟨12,x,(ae.aV.nil).roots 0⟩]) hs;rw[<-oN]at eR hst IH
 have hx:l[0+ks.size]?=some ⟨((12:Nat):Int),x,Jz (ks.roots 0)⟩:=by have:=hst.one;rw[ae.W7]at this;exact this
 have fW:=zq eR
 have hpl:(ae.Ln.cmd x .nil).pr=x++[]:=by rw[];exact(ab4 _).symm
 rw[hpl]at hl;simp only[aac,aaf,aaG]at hl
 have cD:(ae.Ln.cmd x .nil).dp=ks.dp:=by rw[oN];rfl
 rw[show (ae.Ln.cmd x .nil).size-1=0+ks.size by rw[hsz];omega,hpl,cD];rw[hsz]at ho
 have mX:(Jz (ks.roots 0)).length=(ae.bO ks).length:=by rw[Jz,aay,ae.Rk]
 have lF:(ae.bO ks).length=0:=by rw[oN];rfl
 have abr:ks.pr.length=0:=by rw[oN];rfl
 obtain⟨K,hK⟩:=xq (0+ks.size);rw[<-hK]at hx ⊢;have HK:=zq hK;have HKS:=zq oN;clear hK hs hst eR hpl cD hsz oN;obtain⟨tg,ln,dZ,ko,kn,aj,rfl,nP,bh,pC,c0,c1,c2,c3,hb,hN⟩:=Yq h ht hx;have gL:=zq bh;have HB:=zq hb;have HN:=zq hN;obtain⟨OUT,aG⟩:=xq (out++(x++[]));have bD:=zq aG;obtain⟨M,hM⟩:=xq (max m (o+ks.dp));have HM:=zq hM;have hle:=h.le;have ky:∀(fn:Fn) (first cap:Array Value) (w:World),(Instr.makeFunc fn first cap).run Tryz.prog w=.ok (.func fn first cap) w:=fun _ _ _ _=>rfl;rw[<-aG,<-hM];clear hb hN h ht hx aG hM bh;go_enter Tryz.func51,Tryz.ntmps51;go_wp2_with fail;obtain⟨w2,hw2⟩:=xq ((w.alloc (.cells #[.pointer (some ⟨R,0,none⟩)] 86)).alloc (.cells #[.int .i64 12,.string ⟨x.toArray⟩,.slice ko kn aj] 43));have hw2':w2=(w.alloc (.cells #[.pointer (some ⟨R,0,none⟩)] 86)).alloc (.cells #[.int .i64 ((12:Nat):Int),.string ⟨(x:Bytes).toArray⟩,.slice ko kn aj] 43):=hw2;rw[<-hw2']at HB HN;rw[<-hw2];clear hw2 hw2' c0 c1 c2 c3;obtain⟨G,hG⟩:=xq w.heap.size;rw[<-hG]at HN ⊢;obtain⟨g0,g1,g2,g3⟩:=HN.o.cells;have j7:=zq hG;clear hG
 have xk:kn=(ae.bO ks).length:=by rw[gL.o,mX]
 have bF:kn=0:=by omega
 clear xk mX lF;subst bF
 go_region_held3 (fun w'=>w'.cell? ⟨G,0,none⟩=some (.pointer (some ⟨R,0,none⟩))/\w'.cell? ⟨G+1,1,none⟩=some (.string ⟨(x:Bytes).toArray⟩))
  (first
   |go_keep
   |exact⟨((HN.o.below (below_drewN _ _)).step a1 a2 a3).cells.1,((HN.o.below (below_drewN _ _)).step a1 a2 a3).cells.2.2.1⟩)
  ((go_at_call 105;refine(Z7 R _ _ _ _ _ (x) _ (HN.o.ws.below (below_drewN _ _)) (by omega) (by omega)).mono ?_;rintro y w3 ⟨rfl,mA,a1,a2,a3⟩))
 have ew:=zq ((HN.o.below (below_drewN _ _)).step a1 a2 a3);clear a1 a2 a3 g0 g1 g2 g3;obtain⟨g0,g1,g2,g3⟩:=ew.o.cells;go_wp2_with fail;have HC:=zq (ZF ks IH l R 0 _ _ _ _ _ _ ew.o.ws ew.o.nl fW.o (by simp only[aac,aaf,aaG];omega) (by omega) (by omega) 12 (.inr rfl) ⟨x.toArray⟩ _ ew.o.kl);refine(HC.o).mono ?_;rintro y w4 ⟨rfl,oF,a1,a2,a3⟩;have eX:=zq (ew.o.step a1 a2 a3);clear a1 a2 a3 g0 g1 g2 g3;obtain⟨g0,g1,g2,g3⟩:=eX.o.cells;go_wp2_with fail
 first|go_end0|refine aaI (adF rfl _ _ _) rfl ?_
 have hf:=eX.o.fin HB.o;rw[show out++x++ks.pr=OUT by rw[bD.o,HKS.o];show out++x++[]=_;rw[aar],show max m (o+ks.dp)=M by exact HM.o.symm]at hf;exact hf
theorem Qqc (x:Bytes)(a:ae.Ex)(kt:ae.aV)(IH:∀e∈ae.bO (.cons a kt),Xt e):sy (.cmd x (.cons a kt)):=by
 intro l R tv bv out o m w h ht hs hl ho;obtain⟨ks,oN⟩:=xq (ae.aV.cons a kt)
 have hsz:(ae.Ln.cmd x (.cons a kt)).size=ks.size+1:=by rw[oN];rfl
 obtain⟨eR,hst⟩:=ae.bN.app (a:=(ae.aV.cons a kt).flat 0) (b:=[⟨12,x,(ae.aV.cons a kt).roots 0⟩]) hs;rw[<-oN]at eR hst IH
 have hx:l[0+ks.size]?=some ⟨((12:Nat):Int),x,Jz (ks.roots 0)⟩:=by have:=hst.one;rw[ae.W7]at this;exact this
 have fW:=zq eR
 have hpl:(ae.Ln.cmd x (.cons a kt)).pr=(x++[32])++ks.pr:=by rw[oN];show x++[32]++_=_;rfl
 rw[hpl]at hl;simp only[aac,aaf,aaG]at hl
 have cD:(ae.Ln.cmd x (.cons a kt)).dp=ks.dp:=by rw[oN];rfl
 rw[show (ae.Ln.cmd x (.cons a kt)).size-1=0+ks.size by rw[hsz];omega,hpl,cD];rw[hsz]at ho
 have mX:(Jz (ks.roots 0)).length=(ae.bO ks).length:=by rw[Jz,aay,ae.Rk]
 have lF:0<(ae.bO ks).length:=by rw[oN];exact Nat.succ_pos _
 have abr:ks.pr.length<=ks.pr.length:=by exact aaa _
 obtain⟨K,hK⟩:=xq (0+ks.size);rw[<-hK]at hx ⊢;have HK:=zq hK;have HKS:=zq oN;clear hK hs hst eR hpl cD hsz oN;obtain⟨tg,ln,dZ,ko,kn,aj,rfl,nP,bh,pC,c0,c1,c2,c3,hb,hN⟩:=Yq h ht hx;have gL:=zq bh;have HB:=zq hb;have HN:=zq hN;obtain⟨OUT,aG⟩:=xq (out++((x++[32])++ks.pr));have bD:=zq aG;obtain⟨M,hM⟩:=xq (max m (o+ks.dp));have HM:=zq hM;have hle:=h.le;have ky:∀(fn:Fn) (first cap:Array Value) (w:World),(Instr.makeFunc fn first cap).run Tryz.prog w=.ok (.func fn first cap) w:=fun _ _ _ _=>rfl;rw[<-aG,<-hM];clear hb hN h ht hx aG hM bh;go_enter Tryz.func51,Tryz.ntmps51;go_wp2_with fail;obtain⟨w2,hw2⟩:=xq ((w.alloc (.cells #[.pointer (some ⟨R,0,none⟩)] 86)).alloc (.cells #[.int .i64 12,.string ⟨x.toArray⟩,.slice ko kn aj] 43));have hw2':w2=(w.alloc (.cells #[.pointer (some ⟨R,0,none⟩)] 86)).alloc (.cells #[.int .i64 ((12:Nat):Int),.string ⟨(x:Bytes).toArray⟩,.slice ko kn aj] 43):=hw2;rw[<-hw2']at HB HN;rw[<-hw2];clear hw2 hw2' c0 c1 c2 c3;obtain⟨G,hG⟩:=xq w.heap.size;rw[<-hG]at HN ⊢;obtain⟨g0,g1,g2,g3⟩:=HN.o.cells;have j7:=zq hG;clear hG
 have xk:kn=(ae.bO ks).length:=by rw[gL.o,mX]
 have bF:0<kn:=by omega
 clear xk mX lF
 go_region_held3 (fun w'=>w'.cell? ⟨G,0,none⟩=some (.pointer (some ⟨R,0,none⟩))/\w'.cell? ⟨G+1,1,none⟩=some (.string ⟨(x:Bytes).toArray⟩))
  (first
   |go_keep
   |exact⟨((HN.o.below (below_drewN _ _)).step a1 a2 a3).cells.1,((HN.o.below (below_drewN _ _)).step a1 a2 a3).cells.2.2.1⟩)
  ((go_at_call 105;refine(Z7 R _ _ _ _ _ (x) _ (HN.o.ws.below (below_drewN _ _)) (by omega) (by omega)).mono ?_;rintro y w3 ⟨rfl,mA,a1,a2,a3⟩))
 have ew:=zq ((HN.o.below (below_drewN _ _)).step a1 a2 a3);clear a1 a2 a3 g0 g1 g2 g3;obtain⟨g0,g1,g2,g3⟩:=ew.o.cells;go_wp2_with fail;refine(Vu R _ _ _ _ _ 32 _ ew.o.ws (by simp only[aac,aaf,aaG];omega)).mono ?_;rintro y w6 ⟨rfl,ZN,a1,a2,a3⟩;have lT:=zq (ew.o.step a1 a2 a3);clear a1 a2 a3 g0 g1 g2 g3;obtain⟨g0,g1,g2,g3⟩:=lT.o.cells;have HC:=zq (ZF ks IH l R 0 _ _ _ _ _ _ lT.o.ws lT.o.nl fW.o (by simp only[aac,aaf,aaG];omega) (by omega) (by omega) 12 (.inr rfl) ⟨x.toArray⟩ _ lT.o.kl);go_wp2_with fail;refine(HC.o).mono ?_;rintro y w4 ⟨rfl,oF,a1,a2,a3⟩;have eX:=zq (lT.o.step a1 a2 a3);clear a1 a2 a3 g0 g1 g2 g3;obtain⟨g0,g1,g2,g3⟩:=eX.o.cells;go_wp2_with fail
 first|go_end0|refine aaI (adF rfl _ _ _) rfl ?_
 have hf:=eX.o.fin HB.o;rw[show out++x++[32]++ks.pr=OUT by rw[bD.o];simp only[aar],show max m (o+ks.dp)=M by exact HM.o.symm]at hf;exact hf
open Go.Maps
theorem V0:Keyed Tryz.prog 3:=int_keyed Tryz.underlying3
theorem Xc {H:Type}{P:Program}(w:World){ops:Array Oper}{rest:List Oper}{o:Oper}{a:Act}{Q:Exit->Act->World->Prop}
  (hg:o.guard=none) (m x v:Operand) (t:TypeId) (hop:o.op=Op.insert t m x v)
  (k e:TypeId) (K:Keyed P k) (ht:P.underlying t=some (.map k e)) (R:Value->Option (DataW H×List MemPlace)) (b n:Nat) (D:DataW H)
  (hm:a.eval m=.map (some b)) (hown:w.ownsMap P k R b n D) (hn:n<maxLen) (key val:Value) (kl:Lit) (hx:a.eval x=key) (hv:a.eval v=val) (hkey:keyOf P k key=some kl)
  (d:DataW H) (ps:List MemPlace) (hval:R val=some (d,ps))
  (hK:∀w',w'.ownsMap P k R b (n+1) (D.put kl d)->w.grownBy w' (some b)->wpList P ops Q rest (a.put o.dst undef) w'):
  wpList P ops Q (o::rest) a w:=by
 refine wpList_plain hg fun K' hK'=> ?_;obtain⟨w',h,r1,r2⟩:=hown.update K ht hn hkey hval;unfold Oper.wp;simp[execOp,hop,hm,hx,hv,h,Result.andThen];exact hK' _ _ (hK w' r1 r2)
theorem Ag (w:World):(zeroValue 5).run Tryz.prog w=.ok (.int .u8 0) w:=by kernel_rfl
theorem Ys {w0 w w':World}{b:Nat}(h:Below w0.heap.size w0 w)(g:w.grownBy w' (some b))(hb:w0.heap.size<=b):Below w0.heap.size w0 w':=
 ⟨g.os.trans h.os,g.tape.trans h.tape,g.output.trans h.output,aan h.size g.size,fun k hk=>(g.block k (aaj hk h.size) (fun e=>by cases e;omega)).trans (h.block k hk)⟩
theorem Qmm (a b:ae.Ex)(IA:Xt a)(IB:Xt b):Xt (.add a b):=by
 intro l R p tv bv out o m w h ht hs hl ho hp;have hsz:(ae.Ex.add a b).size=a.size+b.size+1:=rfl;obtain⟨hs2,hst⟩:=ae.bN.app (a:=a.flat p++b.flat (p+a.size)) (b:=[⟨6,[],[p+a.size-1,p+a.size+b.size-1]⟩]) hs;obtain⟨eR,jI⟩:=ae.bN.app hs2;rw[ae.X7]at jI
 have hx:l[p+a.size+b.size]?=some ⟨((6:Nat):Int),[],[((p+a.size-1:Nat):Int),((p+a.size+b.size-1:Nat):Int)]⟩:=by have:=hst.one;rw[aac,ae.X7,ae.X7,<-abJ]at this;exact this
 have hap:=ae.Q5 a;have hbp:=ae.Q5 b;have fW:=zq eR;have uQ:=zq jI;have hpl:(ae.Ex.add a b).pr=ae.par (ae.Qy 6 0 a.op) a.pr++[32,43,32]++ae.par (ae.Qy 6 1 b.op) b.pr:=rfl;rw[hpl]at hl;simp only[aac,aaf,aaG]at hl;have cD:(ae.Ex.add a b).dp=max (ae.ay (ae.Qy 6 0 a.op) a.dp) (ae.ay (ae.Qy 6 1 b.op) b.dp):=rfl;rw[show p+(ae.Ex.add a b).size-1=p+a.size+b.size by rw[hsz];omega,hpl,cD];rw[hsz]at ho hp;obtain⟨k0,bF⟩:=xq (p+a.size-1);rw[<-bF]at hx;obtain⟨k1,cS⟩:=xq (p+a.size+b.size-1);rw[<-cS]at hx;obtain⟨K,hK⟩:=xq (p+a.size+b.size);rw[<-hK]at hx ⊢;have zI:=zq bF;have zJ:=zq cS;have eJ:= @run_makeMap Tryz.prog
 have dN:Hid (∀A B:Obj,((w.alloc A).alloc B).heap.size=w.heap.size+2):=fun A B=>by simp
 clear hK hs hs2 hst eR jI hpl cD hsz bF cS;obtain⟨tg,ln,dZ,ko,kn,aj,rfl,nP,bh,pC,c0,c1,c2,c3,hb,hN⟩:=Yq h ht hx;have gL:=zq bh;have HB:=zq hb;have HN:=zq hN;obtain⟨OUT,aG⟩:=xq (out++(ae.par (ae.Qy 6 0 a.op) a.pr++[32,43,32]++ae.par (ae.Qy 6 1 b.op) b.pr));have bD:=zq aG;obtain⟨M,hM⟩:=xq (max m (o+(max (ae.ay (ae.Qy 6 0 a.op) a.dp) (ae.ay (ae.Qy 6 1 b.op) b.dp))));have HM:=zq hM;have hle:=h.le;have ky:∀(fn:Fn) (first cap:Array Value) (w:World),(Instr.makeFunc fn first cap).run Tryz.prog w=.ok (.func fn first cap) w:=fun _ _ _ _=>rfl;rw[<-aG,<-hM];clear hb hN h ht hx aG hM bh
 have iC:(((w.alloc (.cells #[.pointer (some ⟨R,0,none⟩)] 86)).alloc (.cells #[.int .i64 6,.string ⟨#[]⟩,.slice ko kn aj] 43)).alloc (.map #[] 0)).ownsMap Tryz.prog 3 (plainElem (H:=Unit) Tryz.prog 5) (w.heap.size+1+1) 0 (.map []):=by have:=World.ownsMap_made ((w.alloc (.cells #[.pointer (some ⟨R,0,none⟩)] 86)).alloc (.cells #[.int .i64 6,.string ⟨#[]⟩,.slice ko kn aj] 43)) Tryz.prog 3 (plainElem (H:=Unit) Tryz.prog 5);rw[show ((w.alloc (.cells #[.pointer (some ⟨R,0,none⟩)] 86)).alloc (.cells #[.int .i64 6,.string ⟨#[]⟩,.slice ko kn aj] 43)).heap.size=w.heap.size+1+1 by simp]at this;exact this
 go_enter Tryz.func51,Tryz.ntmps51;go_wp2_with (refine Xc (H:=Unit) _ rfl _ _ _ 136 rfl 3 5 V0 Tryz.underlying136 _ (w.heap.size+1+1) 0 _ rfl iC (by unfold maxLen;omega) _ _ _ rfl rfl (keyOf_int_mk Tryz.underlying3 rfl) _ [] (aeS Tryz.underlying5 rfl) ?_);intro w3 au ak;obtain⟨w2,hw2⟩:=xq ((w.alloc (.cells #[.pointer (some ⟨R,0,none⟩)] 86)).alloc (.cells #[.int .i64 6,.string ⟨#[]⟩,.slice ko kn aj] 43));have hw2':w2=(w.alloc (.cells #[.pointer (some ⟨R,0,none⟩)] 86)).alloc (.cells #[.int .i64 ((6:Nat):Int),.string ⟨([]:Bytes).toArray⟩,.slice ko kn aj] 43):=hw2
 have lX:Hid (w2.heap.size=w.heap.size+2):=by show _=_;rw[hw2];exact dN.o _ _
 rw[<-hw2']at HB HN;rw[<-hw2]at ak;clear hw2 hw2' c0 c1 c2 c3 iC;obtain⟨G,hG⟩:=xq w.heap.size;rw[<-hG]at HN au ak ⊢;obtain⟨g0,g1,g2,g3⟩:=HN.o.cells;have j7:=zq hG;clear hG
 have fE:Hid (G+2=w2.heap.size):=by show _=_;have h1:=lX.o;have h2:=j7.o;omega
 have hb3:Below w2.heap.size w2 w3:=Ys (Qq w2 _) ak (by have:=fE.o;omega);have aS:=zq hb3;clear hb3 ak;go_wp2_with (refine Xc (H:=Unit) _ rfl _ _ _ 136 rfl 3 5 V0 Tryz.underlying136 _ (G+1+1) 1 _ rfl au (by unfold maxLen;omega) _ _ _ rfl rfl (keyOf_int_mk Tryz.underlying3 rfl) _ [] (aeS Tryz.underlying5 rfl) ?_);intro w4 aM az;have bG:=zq (Ys aS.o az (by have:=fE.o;omega));clear az au;go_wp2_with (refine Xc (H:=Unit) _ rfl _ _ _ 136 rfl 3 5 V0 Tryz.underlying136 _ (G+1+1) 2 _ rfl aM (by unfold maxLen;omega) _ _ _ rfl rfl (keyOf_int_mk Tryz.underlying3 rfl) _ [] (aeS Tryz.underlying5 rfl) ?_);intro w5 aK bc;have dU:=zq (Ys bG.o bc (by have:=fE.o;omega));clear bc aM g0 g1 g2 g3;have eI:=zq (HN.o.below dU.o);obtain⟨g0,g1,g2,g3⟩:=eI.o.cells;go_wp2_with (at_lookup;refine wpList_lookup_own_int (H:=Unit) _ rfl _ _ 136 rfl 3 5 .u8 V0 Tryz.underlying136 Tryz.underlying5 (Ag _) (G+1+1) 3 _ rfl aK _ _ rfl (keyOf_int_mk Tryz.underlying3 rfl) ?_);intro c hat _
 have hc:c=43:=by
  have e1:DataW.atKey ((((DataW.map (H:=Unit) []).put (.int .i64 6) (.lit (.int .u8 43))).put (.int .i64 7) (.lit (.int .u8 45))).put (.int .i64 8) (.lit (.int .u8 42))) (.int .i64 6) (.lit (.int .u8 0))=.lit (.int .u8 43):=rfl;have e2:=e1.symm.trans hat
  injection e2 with e3
  injection e3 with _ e4
  exact e4.symm
 subst hc;clear hat aK;go_wp2_with fail;refine(Jm 6 0 a IA l R p _ _ _ _ _ _ eI.o.ws eI.o.nl fW.o (by omega) (by omega) (by omega) _ _ _ eI.o.kl (by rw[zI.o];rfl)).mono ?_;rintro y w6 ⟨rfl,ZN,a1,a2,a3⟩;have lT:=zq (eI.o.step a1 a2 a3);clear a1 a2 a3 g0 g1 g2 g3;obtain⟨g0,g1,g2,g3⟩:=lT.o.cells;go_wp2_with fail;refine(Z7 R _ _ _ _ _ [32,43,32] _ lT.o.ws (by rw[aac];omega) (by decide)).mono ?_;rintro y w7 ⟨rfl,bv7,a1,a2,a3⟩;have kX:=zq (lT.o.step a1 a2 a3);clear a1 a2 a3 g0 g1 g2 g3;obtain⟨g0,g1,g2,g3⟩:=kX.o.cells;go_wp2_with fail;refine(Jm 6 1 b IB l R (p+a.size) _ _ _ _ _ _ kX.o.ws kX.o.nl uQ.o (by simp only[aac,aaf,aaG];omega) (by omega) (by omega) _ _ _ kX.o.kl (by rw[zJ.o];rfl)).mono ?_;rintro y w8 ⟨rfl,bv8,a1,a2,a3⟩;have uN:=zq (kX.o.step a1 a2 a3);clear a1 a2 a3 g0 g1 g2 g3;obtain⟨g0,g1,g2,g3⟩:=uN.o.cells;go_wp2_with fail
 first|go_end0|refine aaI (adF rfl _ _ _) rfl ?_
 have hf:=uN.o.fin HB.o;rw[show out++ae.par (ae.Qy 6 0 a.op) a.pr++[32,43,32]++ae.par (ae.Qy 6 1 b.op) b.pr=OUT by rw[bD.o];simp only[aar],show max (max m (o+ae.ay (ae.Qy 6 0 a.op) a.dp)) (o+ae.ay (ae.Qy 6 1 b.op) b.dp)=M by rw[HM.o];omega]at hf;exact hf
theorem Qml (a b:ae.Ex)(IA:Xt a)(IB:Xt b):Xt (.sub a b):=by
 intro l R p tv bv out o m w h ht hs hl ho hp;have hsz:(ae.Ex.sub a b).size=a.size+b.size+1:=rfl;obtain⟨hs2,hst⟩:=ae.bN.app (a:=a.flat p++b.flat (p+a.size)) (b:=[⟨7,[],[p+a.size-1,p+a.size+b.size-1]⟩]) hs;obtain⟨eR,jI⟩:=ae.bN.app hs2;rw[ae.X7]at jI
 have hx:l[p+a.size+b.size]?=some ⟨((7:Nat):Int),[],[((p+a.size-1:Nat):Int),((p+a.size+b.size-1:Nat):Int)]⟩:=by have:=hst.one;rw[aac,ae.X7,ae.X7,<-abJ]at this;exact this
 have hap:=ae.Q5 a;have hbp:=ae.Q5 b;have fW:=zq eR;have uQ:=zq jI;have hpl:(ae.Ex.sub a b).pr=ae.par (ae.Qy 7 0 a.op) a.pr++[32,45,32]++ae.par (ae.Qy 7 1 b.op) b.pr:=rfl;rw[hpl]at hl;simp only[aac,aaf,aaG]at hl;have cD:(ae.Ex.sub a b).dp=max (ae.ay (ae.Qy 7 0 a.op) a.dp) (ae.ay (ae.Qy 7 1 b.op) b.dp):=rfl;rw[show p+(ae.Ex.sub a b).size-1=p+a.size+b.size by rw[hsz];omega,hpl,cD];rw[hsz]at ho hp;obtain⟨k0,bF⟩:=xq (p+a.size-1);rw[<-bF]at hx;obtain⟨k1,cS⟩:=xq (p+a.size+b.size-1);rw[<-cS]at hx;obtain⟨K,hK⟩:=xq (p+a.size+b.size);rw[<-hK]at hx ⊢;have zI:=zq bF;have zJ:=zq cS;have eJ:= @run_makeMap Tryz.prog
 have dN:Hid (∀A B:Obj,((w.alloc A).alloc B).heap.size=w.heap.size+2):=fun A B=>by simp
 clear hK hs hs2 hst eR jI hpl cD hsz bF cS;obtain⟨tg,ln,dZ,ko,kn,aj,rfl,nP,bh,pC,c0,c1,c2,c3,hb,hN⟩:=Yq h ht hx;have gL:=zq bh;have HB:=zq hb;have HN:=zq hN;obtain⟨OUT,aG⟩:=xq (out++(ae.par (ae.Qy 7 0 a.op) a.pr++[32,45,32]++ae.par (ae.Qy 7 1 b.op) b.pr));have bD:=zq aG;obtain⟨M,hM⟩:=xq (max m (o+(max (ae.ay (ae.Qy 7 0 a.op) a.dp) (ae.ay (ae.Qy 7 1 b.op) b.dp))));have HM:=zq hM;have hle:=h.le;have ky:∀(fn:Fn) (first cap:Array Value) (w:World),(Instr.makeFunc fn first cap).run Tryz.prog w=.ok (.func fn first cap) w:=fun _ _ _ _=>rfl;rw[<-aG,<-hM];clear hb hN h ht hx aG hM bh
 have iC:(((w.alloc (.cells #[.pointer (some ⟨R,0,none⟩)] 86)).alloc (.cells #[.int .i64 7,.string ⟨#[]⟩,.slice ko kn aj] 43)).alloc (.map #[] 0)).ownsMap Tryz.prog 3 (plainElem (H:=Unit) Tryz.prog 5) (w.heap.size+1+1) 0 (.map []):=by have:=World.ownsMap_made ((w.alloc (.cells #[.pointer (some ⟨R,0,none⟩)] 86)).alloc (.cells #[.int .i64 7,.string ⟨#[]⟩,.slice ko kn aj] 43)) Tryz.prog 3 (plainElem (H:=Unit) Tryz.prog 5);rw[show ((w.alloc (.cells #[.pointer (some ⟨R,0,none⟩)] 86)).alloc (.cells #[.int .i64 7,.string ⟨#[]⟩,.slice ko kn aj] 43)).heap.size=w.heap.size+1+1 by simp]at this;exact this
 go_enter Tryz.func51,Tryz.ntmps51;go_wp2_with (refine Xc (H:=Unit) _ rfl _ _ _ 136 rfl 3 5 V0 Tryz.underlying136 _ (w.heap.size+1+1) 0 _ rfl iC (by unfold maxLen;omega) _ _ _ rfl rfl (keyOf_int_mk Tryz.underlying3 rfl) _ [] (aeS Tryz.underlying5 rfl) ?_);intro w3 au ak;obtain⟨w2,hw2⟩:=xq ((w.alloc (.cells #[.pointer (some ⟨R,0,none⟩)] 86)).alloc (.cells #[.int .i64 7,.string ⟨#[]⟩,.slice ko kn aj] 43));have hw2':w2=(w.alloc (.cells #[.pointer (some ⟨R,0,none⟩)] 86)).alloc (.cells #[.int .i64 ((7:Nat):Int),.string ⟨([]:Bytes).toArray⟩,.slice ko kn aj] 43):=hw2
 have lX:Hid (w2.heap.size=w.heap.size+2):=by show _=_;rw[hw2];exact dN.o _ _
 rw[<-hw2']at HB HN;rw[<-hw2]at ak;clear hw2 hw2' c0 c1 c2 c3 iC;obtain⟨G,hG⟩:=xq w.heap.size;rw[<-hG]at HN au ak ⊢;obtain⟨g0,g1,g2,g3⟩:=HN.o.cells;have j7:=zq hG;clear hG
 have fE:Hid (G+2=w2.heap.size):=by show _=_;have h1:=lX.o;have h2:=j7.o;omega
 have hb3:Below w2.heap.size w2 w3:=Ys (Qq w2 _) ak (by have:=fE.o;omega);have aS:=zq hb3;clear hb3 ak;go_wp2_with (refine Xc (H:=Unit) _ rfl _ _ _ 136 rfl 3 5 V0 Tryz.underlying136 _ (G+1+1) 1 _ rfl au (by unfold maxLen;omega) _ _ _ rfl rfl (keyOf_int_mk Tryz.underlying3 rfl) _ [] (aeS Tryz.underlying5 rfl) ?_);intro w4 aM az;have bG:=zq (Ys aS.o az (by have:=fE.o;omega));clear az au;go_wp2_with (refine Xc (H:=Unit) _ rfl _ _ _ 136 rfl 3 5 V0 Tryz.underlying136 _ (G+1+1) 2 _ rfl aM (by unfold maxLen;omega) _ _ _ rfl rfl (keyOf_int_mk Tryz.underlying3 rfl) _ [] (aeS Tryz.underlying5 rfl) ?_);intro w5 aK bc;have dU:=zq (Ys bG.o bc (by have:=fE.o;omega));clear bc aM g0 g1 g2 g3;have eI:=zq (HN.o.below dU.o);obtain⟨g0,g1,g2,g3⟩:=eI.o.cells;go_wp2_with (at_lookup;refine wpList_lookup_own_int (H:=Unit) _ rfl _ _ 136 rfl 3 5 .u8 V0 Tryz.underlying136 Tryz.underlying5 (Ag _) (G+1+1) 3 _ rfl aK _ _ rfl (keyOf_int_mk Tryz.underlying3 rfl) ?_);intro c hat _
 have hc:c=45:=by
  have e1:DataW.atKey ((((DataW.map (H:=Unit) []).put (.int .i64 6) (.lit (.int .u8 43))).put (.int .i64 7) (.lit (.int .u8 45))).put (.int .i64 8) (.lit (.int .u8 42))) (.int .i64 7) (.lit (.int .u8 0))=.lit (.int .u8 45):=rfl;have e2:=e1.symm.trans hat
  injection e2 with e3
  injection e3 with _ e4
  exact e4.symm
 subst hc;clear hat aK;go_wp2_with fail;refine(Jm 7 0 a IA l R p _ _ _ _ _ _ eI.o.ws eI.o.nl fW.o (by omega) (by omega) (by omega) _ _ _ eI.o.kl (by rw[zI.o];rfl)).mono ?_;rintro y w6 ⟨rfl,ZN,a1,a2,a3⟩;have lT:=zq (eI.o.step a1 a2 a3);clear a1 a2 a3 g0 g1 g2 g3;obtain⟨g0,g1,g2,g3⟩:=lT.o.cells;go_wp2_with fail;refine(Z7 R _ _ _ _ _ [32,45,32] _ lT.o.ws (by rw[aac];omega) (by decide)).mono ?_;rintro y w7 ⟨rfl,bv7,a1,a2,a3⟩;have kX:=zq (lT.o.step a1 a2 a3);clear a1 a2 a3 g0 g1 g2 g3;obtain⟨g0,g1,g2,g3⟩:=kX.o.cells;go_wp2_with fail;refine(Jm 7 1 b IB l R (p+a.size) _ _ _ _ _ _ kX.o.ws kX.o.nl uQ.o (by simp only[aac,aaf,aaG];omega) (by omega) (by omega) _ _ _ kX.o.kl (by rw[zJ.o];rfl)).mono ?_;rintro y w8 ⟨rfl,bv8,a1,a2,a3⟩;have uN:=zq (kX.o.step a1 a2 a3);clear a1 a2 a3 g0 g1 g2 g3;obtain⟨g0,g1,g2,g3⟩:=uN.o.cells;go_wp2_with fail
 first|go_end0|refine aaI (adF rfl _ _ _) rfl ?_
 have hf:=uN.o.fin HB.o;rw[show out++ae.par (ae.Qy 7 0 a.op) a.pr++[32,45,32]++ae.par (ae.Qy 7 1 b.op) b.pr=OUT by rw[bD.o];simp only[aar],show max (max m (o+ae.ay (ae.Qy 7 0 a.op) a.dp)) (o+ae.ay (ae.Qy 7 1 b.op) b.dp)=M by rw[HM.o];omega]at hf;exact hf
theorem Qmf (a b:ae.Ex)(IA:Xt a)(IB:Xt b):Xt (.mul a b):=by
 intro l R p tv bv out o m w h ht hs hl ho hp;have hsz:(ae.Ex.mul a b).size=a.size+b.size+1:=rfl;obtain⟨hs2,hst⟩:=ae.bN.app (a:=a.flat p++b.flat (p+a.size)) (b:=[⟨8,[],[p+a.size-1,p+a.size+b.size-1]⟩]) hs;obtain⟨eR,jI⟩:=ae.bN.app hs2;rw[ae.X7]at jI
 have hx:l[p+a.size+b.size]?=some ⟨((8:Nat):Int),[],[((p+a.size-1:Nat):Int),((p+a.size+b.size-1:Nat):Int)]⟩:=by have:=hst.one;rw[aac,ae.X7,ae.X7,<-abJ]at this;exact this
 have hap:=ae.Q5 a;have hbp:=ae.Q5 b;have fW:=zq eR;have uQ:=zq jI;have hpl:(ae.Ex.mul a b).pr=ae.par (ae.Qy 8 0 a.op) a.pr++[42]++ae.par (ae.Qy 8 1 b.op) b.pr:=rfl;rw[hpl]at hl;simp only[aac,aaf,aaG]at hl;have cD:(ae.Ex.mul a b).dp=max (ae.ay (ae.Qy 8 0 a.op) a.dp) (ae.ay (ae.Qy 8 1 b.op) b.dp):=rfl;rw[show p+(ae.Ex.mul a b).size-1=p+a.size+b.size by rw[hsz];omega,hpl,cD];rw[hsz]at ho hp;obtain⟨k0,bF⟩:=xq (p+a.size-1);rw[<-bF]at hx;obtain⟨k1,cS⟩:=xq (p+a.size+b.size-1);rw[<-cS]at hx;obtain⟨K,hK⟩:=xq (p+a.size+b.size);rw[<-hK]at hx ⊢;have zI:=zq bF;have zJ:=zq cS;have eJ:= @run_makeMap Tryz.prog
 have dN:Hid (∀A B:Obj,((w.alloc A).alloc B).heap.size=w.heap.size+2):=fun A B=>by simp
 clear hK hs hs2 hst eR jI hpl cD hsz bF cS;obtain⟨tg,ln,dZ,ko,kn,aj,rfl,nP,bh,pC,c0,c1,c2,c3,hb,hN⟩:=Yq h ht hx;have gL:=zq bh;have HB:=zq hb;have HN:=zq hN;obtain⟨OUT,aG⟩:=xq (out++(ae.par (ae.Qy 8 0 a.op) a.pr++[42]++ae.par (ae.Qy 8 1 b.op) b.pr));have bD:=zq aG;obtain⟨M,hM⟩:=xq (max m (o+(max (ae.ay (ae.Qy 8 0 a.op) a.dp) (ae.ay (ae.Qy 8 1 b.op) b.dp))));have HM:=zq hM;have hle:=h.le;have ky:∀(fn:Fn) (first cap:Array Value) (w:World),(Instr.makeFunc fn first cap).run Tryz.prog w=.ok (.func fn first cap) w:=fun _ _ _ _=>rfl;rw[<-aG,<-hM];clear hb hN h ht hx aG hM bh
 have iC:(((w.alloc (.cells #[.pointer (some ⟨R,0,none⟩)] 86)).alloc (.cells #[.int .i64 8,.string ⟨#[]⟩,.slice ko kn aj] 43)).alloc (.map #[] 0)).ownsMap Tryz.prog 3 (plainElem (H:=Unit) Tryz.prog 5) (w.heap.size+1+1) 0 (.map []):=by have:=World.ownsMap_made ((w.alloc (.cells #[.pointer (some ⟨R,0,none⟩)] 86)).alloc (.cells #[.int .i64 8,.string ⟨#[]⟩,.slice ko kn aj] 43)) Tryz.prog 3 (plainElem (H:=Unit) Tryz.prog 5);rw[show ((w.alloc (.cells #[.pointer (some ⟨R,0,none⟩)] 86)).alloc (.cells #[.int .i64 8,.string ⟨#[]⟩,.slice ko kn aj] 43)).heap.size=w.heap.size+1+1 by simp]at this;exact this
 go_enter Tryz.func51,Tryz.ntmps51;go_wp2_with (refine Xc (H:=Unit) _ rfl _ _ _ 136 rfl 3 5 V0 Tryz.underlying136 _ (w.heap.size+1+1) 0 _ rfl iC (by unfold maxLen;omega) _ _ _ rfl rfl (keyOf_int_mk Tryz.underlying3 rfl) _ [] (aeS Tryz.underlying5 rfl) ?_);intro w3 au ak;obtain⟨w2,hw2⟩:=xq ((w.alloc (.cells #[.pointer (some ⟨R,0,none⟩)] 86)).alloc (.cells #[.int .i64 8,.string ⟨#[]⟩,.slice ko kn aj] 43));have hw2':w2=(w.alloc (.cells #[.pointer (some ⟨R,0,none⟩)] 86)).alloc (.cells #[.int .i64 ((8:Nat):Int),.string ⟨([]:Bytes).toArray⟩,.slice ko kn aj] 43):=hw2
 have lX:Hid (w2.heap.size=w.heap.size+2):=by show _=_;rw[hw2];exact dN.o _ _
 rw[<-hw2']at HB HN;rw[<-hw2]at ak;clear hw2 hw2' c0 c1 c2 c3 iC;obtain⟨G,hG⟩:=xq w.heap.size;rw[<-hG]at HN au ak ⊢;obtain⟨g0,g1,g2,g3⟩:=HN.o.cells;have j7:=zq hG;clear hG
 have fE:Hid (G+2=w2.heap.size):=by show _=_;have h1:=lX.o;have h2:=j7.o;omega
 have hb3:Below w2.heap.size w2 w3:=Ys (Qq w2 _) ak (by have:=fE.o;omega);have aS:=zq hb3;clear hb3 ak;go_wp2_with (refine Xc (H:=Unit) _ rfl _ _ _ 136 rfl 3 5 V0 Tryz.underlying136 _ (G+1+1) 1 _ rfl au (by unfold maxLen;omega) _ _ _ rfl rfl (keyOf_int_mk Tryz.underlying3 rfl) _ [] (aeS Tryz.underlying5 rfl) ?_);intro w4 aM az;have bG:=zq (Ys aS.o az (by have:=fE.o;omega));clear az au;go_wp2_with (refine Xc (H:=Unit) _ rfl _ _ _ 136 rfl 3 5 V0 Tryz.underlying136 _ (G+1+1) 2 _ rfl aM (by unfold maxLen;omega) _ _ _ rfl rfl (keyOf_int_mk Tryz.underlying3 rfl) _ [] (aeS Tryz.underlying5 rfl) ?_);intro w5 aK bc;have dU:=zq (Ys bG.o bc (by have:=fE.o;omega));clear bc aM g0 g1 g2 g3;have eI:=zq (HN.o.below dU.o);obtain⟨g0,g1,g2,g3⟩:=eI.o.cells;go_wp2_with (at_lookup;refine wpList_lookup_own_int (H:=Unit) _ rfl _ _ 136 rfl 3 5 .u8 V0 Tryz.underlying136 Tryz.underlying5 (Ag _) (G+1+1) 3 _ rfl aK _ _ rfl (keyOf_int_mk Tryz.underlying3 rfl) ?_);intro c hat _
 have hc:c=42:=by
  have e1:DataW.atKey ((((DataW.map (H:=Unit) []).put (.int .i64 6) (.lit (.int .u8 43))).put (.int .i64 7) (.lit (.int .u8 45))).put (.int .i64 8) (.lit (.int .u8 42))) (.int .i64 8) (.lit (.int .u8 0))=.lit (.int .u8 42):=rfl;have e2:=e1.symm.trans hat
  injection e2 with e3
  injection e3 with _ e4
  exact e4.symm
 subst hc;clear hat aK;go_wp2_with fail;refine(Jm 8 0 a IA l R p _ _ _ _ _ _ eI.o.ws eI.o.nl fW.o (by omega) (by omega) (by omega) _ _ _ eI.o.kl (by rw[zI.o];rfl)).mono ?_;rintro y w6 ⟨rfl,ZN,a1,a2,a3⟩;have lT:=zq (eI.o.step a1 a2 a3);clear a1 a2 a3 g0 g1 g2 g3;obtain⟨g0,g1,g2,g3⟩:=lT.o.cells;go_wp2_with fail;refine(Vu R _ _ _ _ _ 42 _ lT.o.ws (by rw[aac];omega)).mono ?_;rintro y w7 ⟨rfl,bv7,a1,a2,a3⟩;have kX:=zq (lT.o.step a1 a2 a3);clear a1 a2 a3 g0 g1 g2 g3;obtain⟨g0,g1,g2,g3⟩:=kX.o.cells;go_wp2_with fail;refine(Jm 8 1 b IB l R (p+a.size) _ _ _ _ _ _ kX.o.ws kX.o.nl uQ.o (by simp only[aac,aaf,aaG];omega) (by omega) (by omega) _ _ _ kX.o.kl (by rw[zJ.o];rfl)).mono ?_;rintro y w8 ⟨rfl,bv8,a1,a2,a3⟩;have uN:=zq (kX.o.step a1 a2 a3);clear a1 a2 a3 g0 g1 g2 g3;obtain⟨g0,g1,g2,g3⟩:=uN.o.cells;go_wp2_with fail
 first|go_end0|refine aaI (adF rfl _ _ _) rfl ?_
 have hf:=uN.o.fin HB.o;rw[show out++ae.par (ae.Qy 8 0 a.op) a.pr++[42]++ae.par (ae.Qy 8 1 b.op) b.pr=OUT by rw[bD.o];simp only[aar],show max (max m (o+ae.ay (ae.Qy 8 0 a.op) a.dp)) (o+ae.ay (ae.Qy 8 1 b.op) b.dp)=M by rw[HM.o];omega]at hf;exact hf
mutual
theorem Z3:(e:ae.Ex)->Xt e
 | .num n=>Qmd n
 | .name x=>Qyp x
 | .mat m=>Qmb m
 | .cpx l=>Qmh l
 | .neg a=>Qmc a (Z3 a)
 | .turn a=>Qyg a (Z3 a)
 | .add a b=>Qmm a b (Z3 a) (Z3 b)
 | .sub a b=>Qml a b (Z3 a) (Z3 b)
 | .mul a b=>Qmf a b (Z3 a) (Z3 b)
 | .pow a n=>Qmu a n (Z3 a)
 | .call x l=>Qyy x l (Rm l)
theorem Rm:(l:ae.aV)-> ∀e∈ae.bO l,Xt e
 | .nil=>fun e h=>by cases h
 | .cons a l=>fun e h=>by
  rcases abY.1 h with h|h
  ·rw[h];exact Z3 a
  exact Rm l e h
end
theorem Qc5:(n:ae.Ln)->sy n
 | .nothing=>Qjl
 | .lets x e=>Qb2 x e (Z3 e)
 | .cmd x .nil=>Qju x (Rm _)
 | .cmd x (.cons a l)=>Qqc x a l (Rm _)
theorem Tryz.cellsByte:Tryz.prog.cellsOf 5=1:=by kernel_rfl
theorem Qzt (R:Nat)(tv bv:Value)(out:Bytes)(o m:Nat)(w:World)(h:dI w R tv bv out o m):Calls Tryz.prog 52 #[.pointer (some ⟨R,1,none⟩)] w fun e w'=>e=.returned (.string ⟨out.toArray⟩)/\Below R w w':=by
 obtain⟨av,-,bA⟩:=h.blk;have hown:=h.own;have aT:=h.lt;by_cases h0:out=[]
 ·subst h0
  have hUS:∀(W:World) (q:Option Addr),(Builtin.unsafeString_ #[145,3] 9 #[.pointer q,.int .i64 0]).run Tryz.prog W=.ok (.string .empty) W:=fun W q=>Lib.run_unsafeString_none W _ _ _ q;rcases hown.2 with ⟨rfl,-⟩|⟨g,cap,cur,rfl,hbg,hg,bq,hcm,hcs,kQ⟩
  ·have c1:w.drew.cell? ⟨R,2,none⟩=some (.slice none 0 0):=by
    have:w.drew.heap[R]?=some (.cells #[tv,av,.slice none 0 0,.int .i64 (o:Nat),.int .i64 (m:Nat)] 92 (0,0)):=bA;rw[aam _ _ _ _ _ _ this];rfl
   have SF:(Builtin.unsafeSliceData_ #[88] 145 #[.slice none 0 0]).run Tryz.prog w.drew=.ok (.pointer none) w.drew:=rfl;clear h bA hown;go_enter Tryz.func52,Tryz.ntmps52;go_wp2_with fail;go_region
   all_goals (go_wp2_with fail;go_ret;exact⟨rfl,Below.drew (aa8 _ _)⟩)
  have e0:([]:Bytes).length=0:=rfl;rw[e0]at bA bq;by_cases hc0:cap=0
  ·subst hc0
   have c1:w.drew.cell? ⟨R,2,none⟩=some (.slice (some ⟨g,0,none⟩) 0 0):=by have:w.drew.heap[R]?=some (.cells #[tv,av,.slice (some ⟨g,0,none⟩) 0 0,.int .i64 (o:Nat),.int .i64 (m:Nat)] 92 (0,0)):=bA;rw[aam _ _ _ _ _ _ this];rfl
   have SF:(Builtin.unsafeSliceData_ #[88] 145 #[.slice (some ⟨g,0,none⟩) 0 0]).run Tryz.prog w.drew=.ok (.pointer (some ⟨w.drew.heap.size,0,none⟩)) (w.drew.alloc (.view ⟨g,0,none⟩ 5)):=
    Lib.run_unsafeSliceData_zero w.drew _ _ 5 Tryz.underlying145 ⟨g,0,none⟩ 0 (5,cur.size) (by have hg':w.drew.heap[g]?=some (.cells cur 5 (0,0)):=hg;simp[World.shape?,hg'])
   have c2:(w.drew.alloc (.view ⟨g,0,none⟩ 5)).cell? ⟨R,2,none⟩=some (.slice (some ⟨g,0,none⟩) 0 0):=by have:(w.drew.alloc (.view ⟨g,0,none⟩ 5)).heap[R]?=_:=(Lib.alloc_old w.drew _ R aT).trans bA;rw[aam _ _ _ _ _ _ this];rfl
   have c3:(w.alloc (.view ⟨g,0,none⟩ 5)).drew.cell? ⟨R,2,none⟩=some (.slice (some ⟨g,0,none⟩) 0 0):=c2;have c0:w.cell? ⟨R,2,none⟩=some (.slice (some ⟨g,0,none⟩) 0 0):=c1;clear h bA hown hg;go_enter Tryz.func52,Tryz.ntmps52;go_wp2_with fail;go_region
   all_goals (go_wp2_with fail;go_ret;exact⟨rfl,(Below.drew (aa8 _ w)).alloc (abD aT) _⟩)
  have c1:w.drew.cell? ⟨R,2,none⟩=some (.slice (some ⟨g,0,none⟩) 0 cap):=by have:w.drew.heap[R]?=some (.cells #[tv,av,.slice (some ⟨g,0,none⟩) 0 cap,.int .i64 (o:Nat),.int .i64 (m:Nat)] 92 (0,0)):=bA;rw[aam _ _ _ _ _ _ this];rfl
  have SF:(Builtin.unsafeSliceData_ #[88] 145 #[.slice (some ⟨g,0,none⟩) 0 cap]).run Tryz.prog w.drew=.ok (.pointer (some ⟨g,0,none⟩)) w.drew:=
   Lib.run_unsafeSliceData_row _ _ _ _ _ _ hc0
  clear h bA hown hc0;go_enter Tryz.func52,Tryz.ntmps52;go_wp2_with fail;go_region
  all_goals (go_wp2_with fail;go_ret;exact⟨rfl,Below.drew (aa8 _ _)⟩)
 have hl0:out.length≠0:=by simpa using h0
 obtain⟨g,cap,cur,rfl,hbg,hg,bq,hcm,hcs,kQ⟩:∃g cap cur,bv=.slice (some ⟨g,0,none⟩) out.length cap/\R+1<=g/\w.heap[g]?=some (.cells cur 5 (0,0))/\out.length<=cap/\cap<=maxLen/\cur.size=cap*1/\cur.toList.take (out.length*1)=gJ out:=by
  rcases hown.2 with ⟨_,hz⟩|⟨g,cap,cur,hv,r⟩
  ·exact absurd hz hl0
  exact⟨g,cap,cur,hv,r⟩
 have c1:w.drew.cell? ⟨R,2,none⟩=some (.slice (some ⟨g,0,none⟩) out.length cap):=by have:w.drew.heap[R]?=some (.cells #[tv,av,.slice (some ⟨g,0,none⟩) out.length cap,.int .i64 (o:Nat),.int .i64 (m:Nat)] 92 (0,0)):=bA;rw[aam _ _ _ _ _ _ this];rfl
 have SF:(Builtin.unsafeSliceData_ #[88] 145 #[.slice (some ⟨g,0,none⟩) out.length cap]).run Tryz.prog w.drew=.ok (.pointer (some ⟨g,0,none⟩)) w.drew:=
  Lib.run_unsafeSliceData_row _ _ _ _ _ _ (by omega)
 have hUS:(Builtin.unsafeString_ #[145,3] 9 #[.pointer (some ⟨g,0,none⟩),.int .i64 out.length]).run Tryz.prog w.drew=.ok (.string ⟨out.toArray⟩) (w.drew.freeze ⟨g,0,none⟩ out.length):=by refine Lib.run_unsafeString_row w.drew 145 3 9 5 Tryz.underlying145 Tryz.cellsByte g cur.size (by have hg':w.drew.heap[g]?=some (.cells cur 5 (0,0)):=hg;simp[World.shape?,hg']) out h0 (by omega) (by unfold maxLen at hcm;omega) ?_;intro j x hx;have:=hown.cells (g:=g) rfl j (.int .u8 x.toNat) (by simp[gJ,hx]);exact this
 obtain⟨n,hn⟩:=xq out.length;rw[<-hn]at c1 SF hUS bq;clear h bA hown hn hl0 kQ;go_enter Tryz.func52,Tryz.ntmps52;go_wp2_with fail;go_region
 all_goals (go_wp2_with fail;go_ret;exact⟨rfl,Lib.below_freeze (Below.drew (aa8 _ w)) (p:=⟨g,0,none⟩) (by show R<=g;omega) _⟩)
theorem Qja:∀(a:List Nv) (k:Nat) (t:Nv),a[k]?=some t->(Xb a)[k*3]?=some (.int .i64 (t.1.op:Nat))/\(Xb a)[k*3+1]?=some (.string ⟨t.1.text.toArray⟩)/\(Xb a)[k*3+2]?=some t.2:=by
 intro a
 induction a with
 |nil=>intro k t h;simp at h
 |cons d cs ih=>
  intro k t h
  cases k with
  |zero=>simp at h;subst h;simp[Xb]
  |succ k=>
   simp only[adP]at h;obtain⟨E,H,I⟩:=ih k t h
   have e0:(k+1)*3=k*3+1+1+1:=by omega
   have e1:(k+1)*3+1=k*3+1+1+1+1:=by omega
   have e2:(k+1)*3+2=k*3+2+1+1+1:=by omega
   have ec:Xb (d::cs)=.int .i64 (d.1.op:Nat)::.string ⟨d.1.text.toArray⟩::d.2::Xb cs:=by simp[Xb]
   rw[e1,e2,e0,ec];simp only[adP];exact⟨E,H,I⟩
theorem KR.kl {w:World}{R:Nat}{og:Option Nat}{v:Value}{ks:List Nat}(h:KR w R og v ks):KL w w.heap.size v (ks.map fun k:Nat=>(k:Int)):=by
 obtain⟨ao,E,rfl,H,I,J,K⟩:=h;refine⟨ao,E,by rw[aay],by simpa using H,I,fun h0=> ?_⟩;rw[aay]at h0;obtain⟨g,rfl,O⟩:=K h0;refine⟨g,rfl,(J g rfl).2.1,fun j k hj=> ?_⟩;rw[ads]at hj
 cases ha:ks[j]? with
 |none=>rw[ha]at hj;cases hj
 |some a=>rw[ha]at hj;cases hj;exact O j a ha
theorem Tr.ndl {w:World}{B:Nat}{nv:Value}{ns:List Nv}(h:Tr w B nv ns):eB w w.heap.size nv (ae.nL (ns.map Prod.fst)):=by
 obtain⟨ao,H,rfl,a1,a2,a3⟩:=Qj h.own
 have E:(ae.nL (ns.map Prod.fst)).length=ns.length:=by simp[ae.nL]
 refine⟨ao,H,by rw[E],by rw[E];exact a1,a2,fun h0=> ?_⟩;rw[E]at h0;obtain⟨g,rfl,-,b2,b3⟩:=a3 h0;refine⟨g,rfl,b2,fun j x hj=> ?_⟩;simp only[ae.nL,aeE,ads]at hj
 cases hp:ns[j]? with
 |none=>rw[hp]at hj;cases hj
 |some p=>
  rw[hp]at hj
  cases hj
  have I:=(aae.1 hp).1;obtain⟨c1,c2,c3⟩:=Qja ns j p hp;exact⟨by rw[b3 _ (by omega)];exact c1,by rw[b3 _ (by omega)];exact c2,p.2,by rw[b3 _ (by omega)];exact c3,(h.kids p (aah hp)).kl⟩
theorem KL.up {w w':World}{B:Nat}{v:Value}{ks:List Int}(h:KL w B v ks)(hb:Below B w w'){B':Nat}(hB:B<=B'):KL w' B' v ks:=by obtain⟨ao,E,rfl,H,I,J⟩:=h.below hb;refine⟨ao,E,rfl,H,I,fun h0=> ?_⟩;obtain⟨g,rfl,K,O⟩:=J h0;exact⟨g,rfl,aaj K hB,O⟩
theorem eB.up {w w':World}{B:Nat}{v:Value}{l:List ae.NI}(h:eB w B v l)(hb:Below B w w'){B':Nat}(hB:B<=B'):eB w' B' v l:=by obtain⟨ao,E,rfl,H,I,J⟩:=h.below hb;refine⟨ao,E,rfl,H,I,fun h0=> ?_⟩;obtain⟨g,rfl,K,O⟩:=J h0;refine⟨g,rfl,aaj K hB,fun j x hj=> ?_⟩;obtain⟨a,b,kv,c,d⟩:=O j x hj;exact⟨a,b,kv,c,d.up (aa8 _ _) hB⟩
def Ra (n:ae.Ln)(w:World)(e:Ending)(w':World):Prop:=
 (if 100<n.dp then e=.returned (.tuple #[.string .empty,.int .i64 5]) else e=.returned (.tuple #[.string ⟨n.pr.toArray⟩,.int .i64 0]))/\Below w.heap.size w w'
theorem dI.new (w:World)(tv:Value):dI (w.alloc (.cells #[tv,.pointer none,.slice none 0 0,.int .i64 0,.int .i64 0] 92)) w.heap.size tv (.slice none 0 0) [] 0 0:=
 ⟨⟨.pointer none,.inl rfl,aaz _ _⟩,⟨rfl,.inl ⟨rfl,rfl⟩⟩,aaa _⟩
theorem Fw (n:ae.Ln)(v:Value)(w:World)(B:Nat)(hf:sx n)(hv:eB w B v (ae.nL n.flat))(hB:B<=w.heap.size)(hx:Lx w)(hs:SG w)(hsz:4<w.heap.size):Calls Tryz.prog 14 #[v] w (Ra n w):=by
 have hlen:(ae.nL n.flat).length=n.size:=by rw[ae.nL,aay,Nx]
 have kx:=hf.size
 have pD:0<n.size:=by cases n<;>simp[ae.Ln.size]
 have HC:=zq (Du v (ae.nL n.flat) w B (by rw[hlen];exact kx) hf.txt hv hB hx hs hsz);have HG:=zq (Qwr hf.wf);have HV:=zq hv;have HF:=zq hf;have HL:=zq hlen;obtain⟨ao,cap,rfl,-⟩:=hv;rw[hlen]at HC HV ⊢;rw[hlen]at HG;obtain⟨m,eJ⟩:=xq n.size;rw[<-eJ]at kx pD HC HV HG HL ⊢;have cI:=zq eJ
 have cW:((m:Nat):Int)-1=((m-1:Nat):Int):=by omega
 have VP:=zq cW;clear eJ hf hx hs hlen cW;go_enter Tryz.func14,Tryz.ntmps14;go_wp2_with fail;refine HC.o.mono ?_;rintro e w1 ⟨rfl,hb⟩;rw[HG.o];have aC:=zq hb;have hz1:=hb.size;clear hb;go_wp2_with fail
 obtain⟨w2,hw2⟩:=xq (w1.alloc (.cells #[.slice ao m cap,.pointer none,.slice none 0 0,.int .i64 0,.int .i64 0] 92))
 have dz:Hid (dI w2 w1.heap.size (.slice ao m cap) (.slice none 0 0) [] 0 0):=by show dI _ _ _ _ _ _ _;rw[hw2];exact dI.new _ _
 have jP:Hid (Below w1.heap.size w1 w2):=by show Below _ _ _;rw[hw2];exact Qq _ _
 rw[<-hw2,VP.o];clear hw2;obtain⟨R,hR⟩:=xq w1.heap.size;rw[<-hR]at dz jP hz1 ⊢;have HR:=zq hR;clear hR;have EY:Hid (eB w2 R (.slice ao m cap) (ae.nL n.flat)):=(HV.o.up (aC.o.mono hB) (by omega)).below jP.o;rw[cI.o];refine(Qc5 n (ae.nL n.flat) R (.slice ao m cap) (.slice none 0 0) [] 0 0 w2 dz.o EY.o (ae.bN.all _) (by have:=HF.o.prl;simp;omega) (by have:=cI.o;omega)).mono ?_;rintro e w3 ⟨rfl,bv,a1,a2,-⟩;have iT:=zq a1
 have aS:Hid (Below w.heap.size w w3):=by refine Wr.cA (R:=R) a2 ?_ hz1;exact aC.o.trans (jP.o.mono hz1)
 obtain⟨-,-,c4⟩:=a1.cells
 have hmx:max 0 (0+n.dp)=n.dp:=by omega
 rw[hmx]at c4;clear a1 a2 hmx;by_cases hd:100<n.dp
 ·have ja:decide ((100:Int)<(n.dp:Nat))=true:=abH (by omega)
  have HD:=zq hd;clear hd;go_wp2_with fail;go_ret2;unfold Ra;rw[if_pos HD.o];exact⟨rfl,aS.o⟩
 have ja:decide ((100:Int)<(n.dp:Nat))=false:=abC (by omega);have HD:=zq hd;clear hd;go_wp2_with fail;refine(Qzt R (.slice ao m cap) bv _ _ _ w3 iT.o).mono ?_;rintro e w4 ⟨rfl,hb4⟩;have bG:=zq (aS.o.trans (hb4.mono hz1));clear hb4;go_wp2_with fail;go_ret2;unfold Ra;rw[if_neg HD.o];exact⟨rfl,bG.o⟩
theorem Qys (l:List ae.NI)(ao:Option Addr)(cap:Nat)(w:World)(h:4096<l.length)(hc:l.length<=9223372036854775807):Calls Tryz.prog 14 #[.slice ao l.length cap] w fun e w'=>e=.returned (.tuple #[.string .empty,.int .i64 5])/\w=w':=by obtain⟨m,hm⟩:=xq l.length;rw[<-hm]at h hc ⊢;clear hm;go_enter Tryz.func14,Tryz.ntmps14;go_wp2_with fail;go_ret2;exact⟨rfl,rfl⟩
theorem Qyn (l:List ae.NI)(v:Value)(w:World)(B:Nat)(h:l.length<=4096)(hg:ae.Qi ae.WV l.length 0 [] l=false)(ht:∀x∈l,x.text.length<=67108864)(hv:eB w B v l)(hB:B<=w.heap.size)(hx:Lx w)(hs:SG w)(hsz:4<w.heap.size):Calls Tryz.prog 14 #[v] w fun e w'=>e=.returned (.tuple #[.string .empty,.int .i64 10])/\Below w.heap.size w w':=by have HC:=zq (Du v l w B h ht hv hB hx hs hsz);have HG:=zq hg;obtain⟨ao,cap,rfl,-⟩:=hv;obtain⟨m,hm⟩:=xq l.length;rw[<-hm]at h HC HG ⊢;clear hm hg ht hx hs;go_enter Tryz.func14,Tryz.ntmps14;go_wp2_with fail;refine HC.o.mono ?_;rintro e w1 ⟨rfl,hb⟩;rw[HG.o];have aC:=zq hb;clear hb;go_wp2_with fail;go_ret2;exact⟨rfl,aC.o⟩
end Go.Proofs.YtgfmiladfeoldaaGreatDoor
