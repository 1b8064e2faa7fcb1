/- Joined texts of this claim's proof: WrC, WtH, Pa2, LwP, WrD, WrE. -/
import Derived.Test.YtgfmiladfeoldaaGreatDoorPk1
import Derived.Test.YtgfmiladfeoldaaGreatDoorPk29
import Derived.Deep.RegionHeld3
import Derived.Test.YtgfmiladfeoldaaGreatDoorPk3
import Derived.Deep.QuietTactic
import Derived.Test.YtgfmiladfeoldaaGreatDoorPk28
set_option linter.unusedSimpArgs false
set_option linter.unusedVariables false
set_option maxRecDepth 100000
set_option maxHeartbeats 16000000
namespace Go.Proofs.YtgfmiladfeoldaaGreatDoor
open Go.RowKit NatP LexP
def KL (w:World)(B:Nat)(v:Value)(ks:List Int):Prop:=∃ao cap,v=.slice ao ks.length cap/\ks.length<=cap/\cap<=maxLen/\(0<ks.length-> ∃g,ao=some ⟨g,0,none⟩/\g<B/\ ∀j k,ks[j]?=some k->w.cell? ⟨g,j,none⟩=some (.int .i64 k))
def NdL (w:World)(B:Nat)(v:Value)(l:List SynP.NI):Prop:=∃ao cap,v=.slice ao l.length cap/\l.length<=cap/\cap<=maxLen/\(0<l.length-> ∃g,ao=some ⟨g,0,none⟩/\g<B/\ ∀j x,l[j]?=some x->w.cell? ⟨g,j*3,none⟩=some (.int .i64 x.op)/\w.cell? ⟨g,j*3+1,none⟩=some (.string ⟨x.text.toArray⟩)/\ ∃kv,w.cell? ⟨g,j*3+2,none⟩=some kv/\KL w B kv x.kids)
theorem KL.below {w w':World}{B:Nat}{v:Value}{ks:List Int}(h:KL w B v ks)(hb:Below B w w'):KL w' B v ks:=by
 obtain⟨ao,H,rfl,O,K,I⟩:=h;refine⟨ao,H,rfl,O,K,fun h0=> ?_⟩;obtain⟨g,rfl,E,J⟩:=I h0;exact⟨g,rfl,E,fun j k hj=>(hb.cell (p:=⟨g,j,none⟩) E).trans (J j k hj)⟩
theorem NdL.below {w w':World}{B:Nat}{v:Value}{l:List SynP.NI}(h:NdL w B v l)(hb:Below B w w'):NdL w' B v l:=by
 obtain⟨ao,H,rfl,O,K,I⟩:=h;refine⟨ao,H,rfl,O,K,fun h0=> ?_⟩;obtain⟨g,rfl,E,J⟩:=I h0;refine⟨g,rfl,E,fun j x hj=> ?_⟩;obtain⟨a,b,kv,c,d⟩:=J j x hj;exact⟨(hb.cell (p:=⟨g,j*3,none⟩) E).trans a,(hb.cell (p:=⟨g,j*3+1,none⟩) E).trans b,kv,(hb.cell (p:=⟨g,j*3+2,none⟩) E).trans c,d.below hb⟩
theorem Wr.belowB {R:Nat}{og:Option Nat}{w w':World}(h:Wr R og w w')(hR:R<=w.heap.size)(ho:∀q,og=some q->R<q):Below R w w':=
 ⟨h.os,h.tape,h.output,h.size,fun k hk=>h.block k (by omega) (by omega) (fun e=>by have:=ho k e.symm;omega)⟩
def Vx (e:SynP.Ex):Prop:=∀(l:List SynP.NI) (R p:Nat) (tv bv:Value) (out:Qx) (o m:Nat) (w:World),WrS w R tv bv out o m->NdL w R tv l->SynP.SegN l p (e.flat p)->out.length+e.pr.length<=274877906944->o+2*e.size<=100000->p+e.size<=100000->
 Calls Tryz.prog 51 #[.pointer (some ⟨R,0,none⟩),.int .i64 ((p+e.size-1:Nat):Int)] w (WrP R tv bv (out++e.pr) o (max m (o+e.dp)) (.tuple #[]) w)
theorem Qm5:∀(e:SynP.Ex) (p:Nat) (l:List SynP.NI),SynP.SegN l p (e.flat p)-> ∃x,l[p+e.size-1]?=some x/\x.op=(e.op:Nat):=by
 intro e p l h;have J:=SynP.Jr e p;have H:=SynP.Vj e
 obtain⟨n,I,E⟩:∃n,(e.flat p)[e.size-1]?=some n/\n.op=e.op:=by
  cases e<;>simp[SynP.Ex.flat,SynP.Ex.size,SynP.Jr,SynP.Pu,SynP.Ex.op,<-Nat.add_assoc,List.getElem?_append_right,List.getElem?_append_left]
 have:=h _ _ I;refine⟨_,by rw[<-Nat.add_sub_assoc H]at this;exact this,?_⟩;show ((n.op:Nat):Int)=_;rw[E]
theorem Qkw (e:SynP.Ex)(IH:Vx e)(l:List SynP.NI)(R p:Nat)(tv bv:Value)(out:Qx)(o m:Nat)(w:World)(h:WrS w R tv bv out o m)(ht:NdL w R tv l)(hs:SynP.SegN l p (e.flat p))(hl:out.length+e.pr.length<=274877906944)(ho:o+2*e.size<=100000)(hp:p+e.size<=100000)
  (a b:Addr) (K:Nat) (hK:K=p+e.size-1) (c0:w.cell? a=some (.pointer (some ⟨R,0,none⟩))) (c1:w.cell? b=some (.int .i64 (K:Nat))):
  Calls Tryz.prog 164 #[.pointer (some a),.pointer (some b)] w (WrP R tv bv (out++e.pr) o (max m (o+e.dp)) (.tuple #[]) w):=by
 have HC:=zq (IH l R p tv bv out o m w h ht hs hl ho hp);rw[<-hK]at HC;obtain⟨OUT,hOUT⟩:=xq (out++e.pr);obtain⟨M,hM⟩:=xq (max m (o+e.dp));rw[<-hOUT,<-hM]at HC ⊢;clear h ht hs hl ho hp hK hOUT hM;go_enter Tryz.func164,Tryz.ntmps164;go_wp2_with fail;refine HC.o.mono ?_;rintro e w1 ⟨rfl,H⟩;have HH:=zq H;clear H;go_wp2_with fail
 first|go_end0|refine bodyPost_ret (results_none rfl _ _ _) rfl ?_
 exact⟨rfl,HH.o⟩
theorem Pz (op side:Nat)(e:SynP.Ex)(IH:Vx e)(l:List SynP.NI)(R p:Nat)(tv bv:Value)(out:Qx)(o m:Nat)(w:World)(h:WrS w R tv bv out o m)(ht:NdL w R tv l)(hs:SynP.SegN l p (e.flat p))(hl:out.length+(SynP.par (SynP.Xw op side e.op) e.pr).length<=274877906944)(ho:o+2*e.size+1<=100000)(hp:p+e.size<=100000)
  (text:ByteArray) (kv:Value) (ks:List Int) (hk:KL w R kv ks) (hsd:ks[side]?=some ((p+e.size-1:Nat):Int)):
  Calls Tryz.prog 103 #[.pointer (some ⟨R,0,none⟩),.agg #[.int .i64 (op:Nat),.string text,kv],.int .i64 (side:Nat)] w (WrP R tv bv (out++SynP.par (SynP.Xw op side e.op) e.pr) o (max m (o+SynP.parD (SynP.Xw op side e.op) e.dp)) (.tuple #[]) w):=by
 obtain⟨K,hK⟩:=xq (p+e.size-1);rw[<-hK]at hsd;have hRl:=h.lt;have hsl:=(List.getElem?_eq_some_iff.1 hsd).1;obtain⟨ko,kcap,rfl,k1,k2,k3⟩:=hk;obtain⟨kg,rfl,k4,k5⟩:=k3 (by omega);obtain⟨n,hn⟩:=xq ks.length;rw[<-hn]at hsl k1 ⊢;obtain⟨x,hx,hxo⟩:=Qm5 e p l hs;rw[<-hK]at hx;obtain⟨ta,tcap,rfl,t1,t2,t3⟩:=ht;have hKl:=(List.getElem?_eq_some_iff.1 hx).1;obtain⟨tg,rfl,t4,t5⟩:=t3 (by omega);obtain⟨t6,-,-⟩:=t5 K x hx;rw[hxo]at t6;obtain⟨ln,hln⟩:=xq l.length;rw[<-hln]at hKl t1 h ⊢;have hb2:Below w.heap.size w ((w.alloc (.cells #[.pointer (some ⟨R,0,none⟩)] 86)).alloc (.cells #[.int .i64 (op:Nat),.string text,.slice (some ⟨kg,0,none⟩) n kcap] 43)):=Qg (Qq _ _) (Qq _ _);have ck:((w.alloc (.cells #[.pointer (some ⟨R,0,none⟩)] 86)).alloc (.cells #[.int .i64 (op:Nat),.string text,.slice (some ⟨kg,0,none⟩) n kcap] 43)).cell? ⟨kg,side,none⟩=some (.int .i64 (K:Nat)):=(hb2.cell (p:=⟨kg,side,none⟩) (by show kg<_;omega)).trans (k5 side _ hsd);have HN:=zq hn;have HLN:=zq hln;have HKE:=zq hK;clear hn hln hK hb2;go_enter Tryz.func103,Tryz.ntmps103;go_wp2_with fail;obtain⟨w3,hw3⟩:∃w3,w3=((w.alloc (.cells #[.pointer (some ⟨R,0,none⟩)] 86)).alloc (.cells #[.int .i64 (op:Nat),.string text,.slice (some ⟨kg,0,none⟩) n kcap] 43)).alloc (.cells #[.int .i64 (K:Nat)] 3):=⟨_,rfl⟩;rw[<-hw3]
 have hb3:Below w.heap.size w w3:=by rw[hw3];exact Qg (Qg (Qq _ _) (Qq _ _)) (Qq _ _)
 have hsz3:w3.heap.size=w.heap.size+3:=by rw[hw3];simp
 have h0:w3.heap[w.heap.size]?=some (.cells #[.pointer (some ⟨R,0,none⟩)] 86 (0,0)):=by
  rw[hw3];exact((Qq _ _).block _ (by simp;omega)).trans (((Qq _ _).block _ (by simp)).trans (heap_alloc_new w _))
 have h1:w3.heap[w.heap.size+1]?=some (.cells #[.int .i64 (op:Nat),.string text,.slice (some ⟨kg,0,none⟩) n kcap] 43 (0,0)):=by
  rw[hw3];have:=heap_alloc_new (w.alloc (.cells #[.pointer (some ⟨R,0,none⟩)] 86)) (.cells #[.int .i64 (op:Nat),.string text,.slice (some ⟨kg,0,none⟩) n kcap] 43);rw[show (w.alloc (.cells #[.pointer (some ⟨R,0,none⟩)] 86)).heap.size=w.heap.size+1 by simp]at this;exact((Qq _ _).block _ (by simp)).trans this
 have h2:w3.heap[w.heap.size+2]?=some (.cells #[.int .i64 (K:Nat)] 3 (0,0)):=by
  rw[hw3];have:=heap_alloc_new ((w.alloc (.cells #[.pointer (some ⟨R,0,none⟩)] 86)).alloc (.cells #[.int .i64 (op:Nat),.string text,.slice (some ⟨kg,0,none⟩) n kcap] 43)) (.cells #[.int .i64 (K:Nat)] 3);rw[show ((w.alloc (.cells #[.pointer (some ⟨R,0,none⟩)] 86)).alloc (.cells #[.int .i64 (op:Nat),.string text,.slice (some ⟨kg,0,none⟩) n kcap] 43)).heap.size=w.heap.size+2 by simp]at this;exact this
 have HS3:=zq (h.below hb3)
 have HNL:Hid (NdL w3 R (.slice (some ⟨tg,0,none⟩) ln tcap) l):=by
  rw[HLN.o]at t1 ⊢;exact NdL.below ⟨_,tcap,rfl,t1,t2,t3⟩ (hb3.mono (by omega))
 have q0:w3.cell? ⟨w.heap.size,0,none⟩=some (.pointer (some ⟨R,0,none⟩)):=by rw[cell_of_row _ _ 0 _ _ _ h0];rfl
 have q1:w3.cell? ⟨w.heap.size+1,0,none⟩=some (.int .i64 (op:Nat)):=by rw[cell_of_row _ _ 0 _ _ _ h1];rfl
 have q2:w3.cell? ⟨w.heap.size+2,0,none⟩=some (.int .i64 (K:Nat)):=by rw[cell_of_row _ _ 0 _ _ _ h2];rfl
 have q3:=HS3.o.cells.1;have q4:w3.cell? ⟨tg,K*3,none⟩=some (.int .i64 (e.op:Nat)):=(hb3.cell (p:=⟨tg,K*3,none⟩) (by show tg<_;omega)).trans t6;have HB3:=zq hb3;have HGT:Hid (∀q,bv.ownBlock=some q->q<w.heap.size):=fun q hq=>(h.own.lt q hq).2;obtain⟨G,hG⟩:=xq w.heap.size;rw[<-hG]at q0 q1 q2 HGT hsz3 hRl ⊢;have HGE:=zq hG;have HSG:=zq hs;clear hw3 h0 h1 h2 hb3 h hG hs ck hsd t3 t5 t6 hx;have hmf:∀(fn:Fn) (first cap:Array Value) (w:World),(Instr.makeFunc fn first cap).run Tryz.prog w=.ok (.func fn first cap) w:=fun _ _ _ _=>rfl;have HLO:∀v,Calls Tryz.prog 163 #[.int .i64 (op:Nat),.int .i64 (side:Nat),.int .i64 (e.op:Nat)] v fun y v'=>y=.returned (.bool (SynP.Xw op side e.op))/\v'=v:=fun v=>(Qvj op side e.op v).mono fun _ _ h=>⟨h.1,h.2.symm⟩;go_quiet ((go_at_call 163;exact Calls.quiet_of_same (HLO _)));obtain⟨w4,hw4⟩:=xq (w3.drewN nq);rw[<-hw4]
 have hb4:Below w3.heap.size w3 w4:=by rw[hw4];exact below_drewN _ _
 have HS4:=zq (HS3.o.below hb4);have hRw:R<w3.heap.size:=HS3.o.lt;have HNL4:=zq (HNL.o.below (hb4.mono (Nat.le_of_lt hRw)));have r0:w4.cell? ⟨G,0,none⟩=some (.pointer (some ⟨R,0,none⟩)):=(hb4.cell (p:=⟨G,0,none⟩) (by show G<_;omega)).trans q0;have r2:w4.cell? ⟨G+1+1,0,none⟩=some (.int .i64 (K:Nat)):=(hb4.cell (p:=⟨G+1+1,0,none⟩) (by show G+1+1<_;omega)).trans q2;have hG4:G+3<=w4.heap.size:=Nat.le_trans (by omega) hb4.size;have HB4:Hid (Below w.heap.size w w4):=Qg HB3.o hb4;have HR0:=zq r0;have HR2:=zq r2;obtain⟨OUT,hOUT⟩:=xq (out++SynP.par (SynP.Xw op side e.op) e.pr);obtain⟨M,hM⟩:=xq (max m (o+SynP.parD (SynP.Xw op side e.op) e.dp));have HOUT:=zq hOUT;have HMM:=zq hM;rw[<-hOUT,<-hM];clear q0 q1 q2 q3 q4 hw4 hb4 HLO
 cases hB:SynP.Xw op side e.op with
 |false=>
  rw[hB]at hOUT hM hl;have hl1:out.length+e.pr.length<=274877906944:=hl;have e1:OUT=out++e.pr:=hOUT;have e2:M=max m (o+e.dp):=hM;have HC:=zq (IH l R p _ bv out o m w4 HS4.o HNL4.o HSG.o hl1 (by omega) hp);rw[<-HKE.o,<-e1,<-e2]at HC;clear hOUT hM e1 e2 hB;go_wp2_with fail;refine HC.o.mono ?_;rintro y w5 ⟨rfl,bv5,a1,a2,a3⟩;have A1:=zq a1;have A2:Hid (Wr R bv.ownBlock w w5):=(Wr.of_below HB4.o).trans (Mv.refl _ _) a2;have A3:Hid (Mv w bv.ownBlock bv5.ownBlock):=Mv.trans (R:=R) (w':=w4) (Mv.refl _ _) HB4.o.size a3;clear a1 a2 a3;go_wp2_with fail
  first|go_end0|refine bodyPost_ret (results_none rfl _ _ _) rfl ?_
  have A5:=A1.o;rw[HOUT.o,HMM.o]at A5
  exact⟨rfl,bv5,A5,A2.o,A3.o⟩
 |true=>
  rw[hB]at hOUT hM hl;have hl1:out.length+(([40]:Qx)++e.pr++[41]).length<=274877906944:=hl;simp only[List.length_append,List.length_cons,List.length_nil]at hl1;have e1:OUT=out++([40]++e.pr++[41]):=hOUT;have e2:M=max m (o+(e.dp+1)):=hM;have hdp:=SynP.T0 e
  have HC:=zq (Qqp R _ bv out o m w4 HS4.o (by omega) (by omega) (.pointer (some ⟨G,0,none⟩)) (.pointer (some ⟨G+1+1,0,none⟩)) e.pr (by omega) e.dp (by omega) (fun bv2 w5 b1 b2 b3=>by
   have hG0:w5.cell? ⟨G,0,none⟩=some (.pointer (some ⟨R,0,none⟩)):=(World.cell?_of_block (b2.block G (by omega) (by omega) (fun e=>by have:=HGT.o G e.symm;omega))).trans HR0.o;have hG2:w5.cell? ⟨G+1+1,0,none⟩=some (.int .i64 (K:Nat)):=(World.cell?_of_block (b2.block (G+1+1) (by omega) (by omega) (fun e=>by have:=HGT.o _ e.symm;omega))).trans HR2.o
   exact Qkw e IH l R p _ bv2 (out++[40]) (o+1) (max m (o+1)) w5 b1 (HNL4.o.below (b2.belowB (by omega) (fun q hq=>HS4.o.gt q hq))) HSG.o (by rw[List.length_append,List.length_singleton];omega) (by omega) hp _ _ K HKE.o hG0 hG2))
  rw[<-e1,<-e2]at HC;clear hOUT hM e1 e2 hB;go_wp2_with fail;refine HC.o.mono ?_;rintro y w5 ⟨rfl,bv5,a1,a2,a3⟩;have A1:=zq a1;have A2:Hid (Wr R bv.ownBlock w w5):=(Wr.of_below HB4.o).trans (Mv.refl _ _) a2;have A3:Hid (Mv w bv.ownBlock bv5.ownBlock):=Mv.trans (R:=R) (w':=w4) (Mv.refl _ _) HB4.o.size a3;clear a1 a2 a3;go_wp2_with fail
  first|go_end0|refine bodyPost_ret (results_none rfl _ _ _) rfl ?_
  have A5:=A1.o;rw[HOUT.o,HMM.o]at A5;exact⟨rfl,bv5,A5,A2.o,A3.o⟩
theorem Th {w:World}{B g cap n m:Nat}{e:TypeId}{xs:List Value}(h:w.ownsRow B e 1 (.slice (some ⟨g,0,none⟩) n cap) n xs)(hm:m<=n):w.ownsRow B e 1 (.slice (some ⟨g,0,none⟩) m cap) m (xs.take m):=by
 obtain⟨h1,T⟩:=h;rcases T with ⟨E,-⟩|⟨g',cap',H,E,I,O,Z,U,J,K⟩
 ·cases E
 ·cases E
  refine⟨by rw[List.length_take];omega,.inr ⟨g,cap,H,rfl,I,O,by omega,U,J,?_⟩⟩;rw[<-K,List.take_take];congr 1;omega
theorem Qvt (l:List Nat)(m:Nat):(ints l).take m=ints (l.take m):=by simp[ints]
theorem Hl {w w' w'':World}{row:Option Nat}(h:Below w.heap.size w w')(hg:w'.grownBy w'' row)(hb:∀q,row=some q->w.heap.size<=q):Below w.heap.size w w'':=
 ⟨hg.os.trans h.os,hg.tape.trans h.tape,hg.output.trans h.output,Nat.le_trans h.size hg.size,fun k hk=>(hg.block k (Nat.lt_of_lt_of_le hk h.size) (fun e=>by have:=hb k e.symm;omega)).trans (h.block k hk)⟩
def GrO (l:List SynP.NI)(w:World)(r:Bool)(fv iv:Value)(wr:World):Prop:=
 ∃(i:Nat) (free:List Nat),i<=l.length/\iv=.int .i64 (i:Nat)/\free.length<=i/\SynP.Zt SynP.WV l.length i free (l.drop i)=r/\wr.ownsRow w.heap.size 3 1 fv free.length (ints free)/\Below w.heap.size w wr
theorem Pj {W:Int->Qx->Bool}{n i:Nat}{free:List Nat}{x:SynP.NI}{l:List SynP.NI}(h:SynP.Ty W n i free x=false):SynP.Zt W n i free (x::l)=false:=by
 unfold SynP.Zt;rw[h];rfl
theorem Qxi {W:Int->Qx->Bool}{n i:Nat}{free:List Nat}{x:SynP.NI}{l:List SynP.NI}(h:x.kids≠SynP.Vf free x.kids.length):SynP.Zt W n i free (x::l)=false:=by
 unfold SynP.Zt;rw[if_neg h];split<;>rfl
theorem Ck {W:Int->Qx->Bool}{n i:Nat}{free:List Nat}{x:SynP.NI}{l:List SynP.NI}(h:SynP.Ty W n i free x=true)(hk:x.kids=SynP.Vf free x.kids.length):SynP.Zt W n i free (x::l)=SynP.Zt W n (i+1) (free.take (free.length-x.kids.length)++[i]) l:=by
 conv=>lhs;unfold SynP.Zt
 rw[if_pos h,if_pos hk]
theorem Qql {w2:World}{ap:Option Addr}{B0 B g M k N fcap:Nat}{ko:Option Addr}{kcap:Nat}{kids:List Int}{free:List Nat}(hk:k=kids.length)(hN:N=free.length)(hM:N=M+k)(hkl:KL w2 B (.slice ko k kcap) kids)(hB:B<=w2.heap.size)
  (how:w2.ownsRow B0 3 1 (.slice (some ⟨g,0,none⟩) N fcap) N (ints free)) (hb:N<=4096) (hap:k≠0->ap=some ⟨g,M,none⟩) (q d:Nat):
  Calls Tryz.prog 102 #[.slice ko k kcap,.slice ap k d] (w2.drewN q) fun e w'=>e=.returned (.bool (decide (kids=SynP.Vf free k)))/\ ∃m,w'=(w2.drewN q).drewN m:=by
 have E:SynP.Vf free k=(free.drop M).map fun k:Nat=>(k:Int):=by
  unfold SynP.Vf;rw[show free.length-k=M by omega]
 have K:g<w2.heap.size:=(how.lt g rfl).2
 have U:(SynP.Vf free k).length=k:=by rw[E,List.length_map,List.length_drop];omega
 by_cases h0:k=0
 ·have H:kids=[]:=List.eq_nil_of_length_eq_zero (by omega)
  have T:SynP.Vf free k=[]:=List.eq_nil_of_length_eq_zero (by omega);rw[T,H];subst h0;exact(Tryz.slices_Equal_int_empty ko ap kcap 0 d (w2.drewN q) (by omega)).mono fun e w' ⟨h1,h2⟩=>⟨h1,0,h2⟩
 ·obtain rfl:=hap h0
  obtain⟨ao,a0,I,-,-,Z⟩:=hkl;simp only[Value.slice.injEq]at I;obtain⟨rfl,-,rfl⟩:=I;obtain⟨gk,rfl,O,h⟩:=Z (by omega);refine(Tryz.slices_Equal_int gk 0 k kcap g M k d kids (SynP.Vf free k) (w2.drewN q) (by omega) (by omega) (by omega) (by omega) (fun j hj=> ?_) (fun j hj=> ?_)).mono fun e w' ⟨h1,h2⟩=>⟨h1.trans ?_,h2⟩
  ·rw[(Yx w2 q).cell (p:=⟨gk,0+j,none⟩) (Nat.lt_of_lt_of_le O hB),Nat.zero_add,h j kids[j] (List.getElem?_eq_getElem hj)]
   simp[List.getD_eq_getElem?_getD,List.getElem?_eq_getElem hj]
  ·have J:M+j<free.length:=by omega
   rw[(Yx w2 q).cell (p:=⟨g,M+j,none⟩) K,how.cellAt (M+j) (by omega),E];simp[ints,List.getD_eq_getElem?_getD,List.getElem?_eq_getElem J]
  ·rw[List.take_of_length_le (by omega),List.take_of_length_le (by omega)]
   congr 2;rw[Bool.eq_iff_iff,beq_iff_eq,decide_eq_true_eq]
theorem Ab {l:List SynP.NI}{w w6:World}{r:Bool}{i M gg cap6:Nat}{free:List Nat}(hg:SynP.Zt SynP.WV l.length (i+1) (free.take M++[i]) (l.drop (i+1))=r)
  (hown:w6.ownsRow w.heap.size 3 1 (.slice (some ⟨gg,0,none⟩) (M+1) cap6) (M+1) (ints (free.take M)++[.int .i64 ((i:Nat):Int)])) (hb:Below w.heap.size w w6) (hi:i+1<=l.length) (hM:M<=i) (hMf:M<=free.length):
  GrO l w r (.slice (some ⟨gg,0,none⟩) (M+1) cap6) (.int .i64 ((i+1:Nat):Int)) w6:=by
 have e:(free.take M++[i]).length=M+1:=by rw[List.length_append,List.length_take];simp;omega
 refine⟨i+1,free.take M++[i],hi,rfl,by rw[e];omega,hg,?_,hb⟩;rw[e]
 have e2:ints (free.take M++[i])=ints (free.take M)++[.int .i64 ((i:Nat):Int)]:=by simp[ints]
 rw[e2];exact hown
theorem Mi (n:SynP.Ln):n.flat.length=n.size:=by
 cases n with
 |nothing=>rfl
 |lets x e=>simp[SynP.Ln.flat,SynP.Ln.size,Up]
 |cmd x l=>simp[SynP.Ln.flat,SynP.Ln.size,Un]
theorem Ga (s:ByteArray)(w:World)(hf:Fits s.data.toList)(hx:Lx w)(hs:SG w)(hsz:4<w.heap.size):
  Calls Tryz.prog 13 #[.string s] w (PaP s.data.toList w):=by
 have hmf:∀(fn:Fn) (first cap:Array Value) (w:World),(Instr.makeFunc fn first cap).run Tryz.prog w=.ok (.func fn first cap) w:=fun _ _ _ _=>rfl;have HF:=zq hf;have HX:=zq hx;have HSG:=zq hs
 have hs4:s.size<=67108864:=by rw[Lib.size_eq];exact hf
 clear hf hx hs;go_enter Tryz.func13,Tryz.ntmps13;go_wp2_with fail;refine(Qjn s _ HF.o HX.o HSG.o hsz).mono ?_;rintro e w1 hn;unfold StP at hn
 cases hT:Toks 1 (Qz s.data.toList) with
 |error p=>
  obtain⟨c,k⟩:=p;rw[hT]at hn;obtain⟨rfl,hb⟩:=hn;have hk0:=(Pm _ _ _ hT).1;have HB:=zq hb;have HV:=zq (SynP.H9 hT);simp only at hk0
  have hkk:((k:Int) !=0)=true:=by simp;omega
  clear hb hT hk0;go_wp2_with fail;go_ret3;unfold PaP;rw[HV.o]
  exact⟨rfl,HB.o⟩
 |ok ts=>
  rw[hT]at hn;obtain⟨R,tv,rfl,hR,hb,h⟩:=hn;have HS:=zq h;have HB:=zq hb;have HT:=zq hT;have hg:=SynP.Nq ((Qz s.data.toList).length+1) ⟨ts,0⟩
  have hne:SynP.line ((Qz s.data.toList).length+1) (10*ts.length+9) ⟨ts,0⟩≠none:=by
   intro e;simp only[e]at hg;exact hg.elim
  have HNE:=zq hne;have HG:=zq hg;clear hb hT h hg hne;go_wp2_with fail;refine(Dy ((Qz s.data.toList).length+1) (10*ts.length+9) R tv ts ⟨ts,0⟩ _ _ HS.o HNE.o).mono ?_;rintro e w2 hn;unfold GuP at hn
  rcases hL:SynP.line ((Qz s.data.toList).length+1) (10*ts.length+9) ⟨ts,0⟩ with- |(⟨c,k⟩|⟨n,s'⟩)<;>rw[hL]at hn
  ·exact hn.elim
  ·obtain⟨rfl,hw⟩:=hn
   have hk0:=HG.o;simp only[hL]at hk0;have hk1:0<k:=hk0;have HV:=zq (SynP.Hd HT.o hL);have HW:=zq (Qg (Wr.belowR hw HB.o hR) (Qq w2 (.cells #[.int .i64 (c:Nat),.int .i64 (k:Nat)] 81)))
   have hkk:((k:Int) !=0)=true:=by simp;omega
   clear hk0 hL hw;go_wp2_with fail;go_region;go_wp2_with fail;go_ret3;unfold PaP;rw[HV.o];exact⟨rfl,Below.drew HW.o⟩
  ·obtain⟨rfl,a',nv',ns',n1,n2,n3⟩:=hn
   have HV:=zq (SynP.F5 HT.o hL);have HA:=zq (Qq w2 (.cells #[.int .i64 0,.int .i64 0] 81));have HW:=zq (Qg (Wr.belowR n2 HB.o hR) HA.o);have n1':=n1.below HA.o;have HTR:=zq (n1'.tr hR);have e4:=n1'.cells.2.2.2.2
   have hlen:ns'.length=n.size:=by
    have:=congrArg List.length n3;rw[List.length_map,Mi]at this;exact this
   have HN3:=zq n3;have HLEN:=zq hlen;obtain⟨ao,cap,rfl,-,-,-⟩:=Qj n1.own;obtain⟨m,hm⟩:=xq ns'.length;rw[<-hm]at e4;have HM:=zq hm;clear hL n1 n1' n2 n3 hlen hm;by_cases hbig:4096<n.size
   ·have hmb:(4096:Int)<(m:Int):=by have h1:=HM.o;have h2:=HLEN.o;omega
    have hdd:decide ((4096:Int)<(m:Int))=true:=decide_eq_true hmb;have HBG:=zq hbig;clear hbig hmb;go_wp2_with fail;go_ret3;unfold PaP;rw[HV.o,if_pos HBG.o];exact⟨rfl,HW.o⟩
   ·have hmb: ¬(4096:Int)<(m:Int):=by have h1:=HM.o;have h2:=HLEN.o;omega
    have hdd:decide ((4096:Int)<(m:Int))=false:=decide_eq_false hmb;have HBG:=zq hbig;clear hbig hmb;go_wp2_with fail;go_ret3;unfold PaP;rw[HV.o,if_neg HBG.o];refine⟨.slice ao m cap,ns',rfl,HW.o,?_,HN3.o⟩;rw[HM.o];exact HTR.o
def Qx3:Qx:=[112,114,105,110,116,32,45,65,39,94,50]
def Ta:SynP.Ln:=.cmd [112,114,105,110,116] (.cons (.neg (.pow (.turn (.name [65])) 2)) .nil)
theorem Qzl:Ta.pr=Qx3:=by
 have e:SynP.decT 2=[50]:=by kernel_rfl
 simp[Ta,SynP.Ln.pr,SynP.Exs.pr,SynP.Ex.pr,e,Qx3,SynP.par,SynP.Xw,SynP.Ex.op,SynP.Re,SynP.My,SynP.Exs.prTail]
theorem F9:SynP.nL Ta.flat=[⟨2,[65],[]⟩,⟨5,[],[0]⟩,⟨9,[50],[1]⟩,⟨4,[],[2]⟩,⟨12,[112,114,105,110,116],[3]⟩]:=by
 have e:SynP.decT 2=[50]:=by kernel_rfl
 simp[Ta,SynP.Ln.flat,SynP.Exs.flat,SynP.Ex.flat,SynP.Ex.size,SynP.Exs.roots,SynP.nL,SynP.Node.toI,e]
def Uk (l:List Nat):List Int:=l.map fun k:Nat=>(k:Int)
def Qqw (R:Nat)(tv bv:Value)(out:Qx)(o m:Nat)(es:List SynP.Ex)(w:World)(i:Value)(wr:World):Prop:=
 ∃k bv',i=.int .i64 ((k:Nat):Int)/\k<=es.length/\WrS wr R tv bv' (out++SynP.Vd es k) o (max m (o+SynP.dpU es k))/\Wr R bv.ownBlock w wr/\Mv w bv.ownBlock bv'.ownBlock
theorem Qy7:∀(ks:SynP.Exs) (i:Nat),i<=(SynP.exL ks).length->(SynP.Vd (SynP.exL ks) i).length<=ks.pr.length:=by
 intro ks i h;rw[<-SynP.Fe ks]
 have:∀d,i+d<=(SynP.exL ks).length->(SynP.Vd (SynP.exL ks) i).length<=(SynP.Vd (SynP.exL ks) (i+d)).length:=by
  intro d
  induction d with
  |zero=>intro _;exact Nat.le_refl _
  |succ d ih=>
   intro I;have H:=ih (by omega);have E:(SynP.exL ks)[i+d]?=some (SynP.exL ks)[i+d]:=List.getElem?_eq_getElem (by omega);rw[show i+(d+1)=(i+d)+1 by omega,SynP.U9 E,List.length_append];omega
 have:=this ((SynP.exL ks).length-i) (by omega)
 rwa [show i+((SynP.exL ks).length-i)=(SynP.exL ks).length by omega]at this
theorem Qmd (ks:SynP.Exs)(IH:∀e∈SynP.exL ks,Vx e)(l:List SynP.NI)(R p:Nat)(tv bv:Value)(out:Qx)(o m:Nat)(w:World)(h:WrS w R tv bv out o m)(ht:NdL w R tv l)(hs:SynP.SegN l p (ks.flat p))(hl:out.length+ks.pr.length<=274877906944)(ho:o+2*ks.size+1<=100000)(hp:p+ks.size<=100000)
  (op:Nat) (hop:op=10\/op=12) (text:ByteArray) (kv:Value) (hk:KL w R kv (Uk (ks.roots p))):
  Calls Tryz.prog 108 #[.pointer (some ⟨R,0,none⟩),.agg #[.int .i64 (op:Nat),.string text,kv]] w (WrP R tv bv (out++ks.pr) o (max m (o+ks.dp)) (.tuple #[]) w):=by
 have hloose:∀s q,SynP.Xw op s q=false:=by intro s q;rcases hop with rfl|rfl<;>rfl
 have hKL:=hk;obtain⟨ko,kcap,rfl,k1,k2,-⟩:=hk
 have hn:(Uk (ks.roots p)).length=(SynP.exL ks).length:=by rw[Uk,List.length_map,SynP.Ny]
 obtain⟨n,hnn⟩:=xq ((Uk (ks.roots p)).length);rw[<-hnn]at k1 hn hKL ⊢;have HKL:=zq hKL;have HN:=zq hnn;have hRl:=h.lt;obtain⟨w1,hw1⟩:∃w1,w1=w.alloc (.cells #[.int .i64 (op:Nat),.string text,.slice ko n kcap] 43):=⟨_,rfl⟩
 have hb1:Below w.heap.size w w1:=by rw[hw1];exact Qq _ _
 have HS1:=zq (h.below hb1);have HT1:=zq (ht.below (hb1.mono (Nat.le_of_lt hRl)));have HK1:=zq (hKL.below (hb1.mono (Nat.le_of_lt hRl)))
 have hG:w1.heap[w.heap.size]?=some (.cells #[.int .i64 (op:Nat),.string text,.slice ko n kcap] 43 (0,0)):=by rw[hw1];exact heap_alloc_new _ _
 have HG:=zq hG;have HB1:=zq hb1;have HGT:Hid (∀q,bv.ownBlock=some q->q<w.heap.size):=fun q hq=>(h.own.lt q hq).2;have HSG:=zq hs;have HNE:=zq hn;have HLO:=zq hloose;have hsz1:w.heap.size<w1.heap.size:=(Array.getElem?_eq_some_iff.1 hG).1
 have hn63:n<=100000:=by
  have:∀ks:SynP.Exs,(SynP.exL ks).length<=ks.size:=by
   intro ks
   induction ks using SynP.Exs.rec (motive_1:=fun _=>True) with
   |nil=>exact Nat.zero_le _
   |cons a l _ ih=>have:=SynP.Vj a;show (SynP.exL l).length+1<=a.size+l.size;omega
   |_=>trivial
  have:=this ks;omega
 clear h ht hs hb1 hloose hnn hn hop hKL;go_enter Tryz.func108,Tryz.ntmps108;go_wp2_with fail;rw[<-hw1];obtain⟨G,hGe⟩:=xq w.heap.size;have hRl0:=hRl;rw[<-hGe]at HG HGT hsz1 hRl ⊢;have HGE:=zq hGe;have HBB:=zq HB1.o;clear hw1 hGe hG;go_loopw [8] (fun i wr=>Qqw R tv bv out o m (SynP.exL ks) w1 i wr) (fun i _=>n-(intOf i).toNat)
 case atStart=>exact⟨0,bv,rfl,Nat.zero_le _,by rw[SynP.Qqx,SynP.Qw9,List.append_nil];rw[show max m (o+0)=m by have:=HS1.o.le;omega];exact HS1.o,Wr.refl _ _ _,Mv.refl _ _⟩
 case round=>
  obtain⟨k,bv',rfl,hk,hS,hW,hM⟩:=hrel;have hGr:wr.heap[G]?=some (.cells #[.int .i64 (op:Nat),.string text,.slice ko n kcap] 43 (0,0)):=(hW.block G (by omega) (by omega) (fun e=>by have:=HGT.o G e.symm;omega)).trans HG.o
  have c0:wr.cell? ⟨G,0,none⟩=some (.int .i64 (op:Nat)):=by rw[cell_of_row _ _ 0 _ _ _ hGr];rfl
  have c1:wr.cell? ⟨G,1,none⟩=some (.string text):=by rw[cell_of_row _ _ 1 _ _ _ hGr];rfl
  have c2:wr.cell? ⟨G,2,none⟩=some (.slice ko n kcap):=by rw[cell_of_row _ _ 2 _ _ _ hGr];rfl
  have HS:=zq hS;have HW:=zq hW;have HM:=zq hM;have HGR:=zq hGr;rw[<-HNE.o]at hk;clear hS hW hM hGr;by_cases hlt:k<n
  ·obtain⟨e,hke⟩:∃e,(SynP.exL ks)[k]?=some e:=⟨_,List.getElem?_eq_getElem (by rw[<-HNE.o];exact hlt)⟩
   obtain⟨p',hr1,hr2,hr3,hr4⟩:=SynP.Qwv (l:=l) ks p k e hke;have hie:Vx e:=IH e (List.mem_of_getElem? hke);have HIE:=zq hie
   have hsd:(Uk (ks.roots p))[k]?=some ((p'+e.size-1:Nat):Int):=by rw[Uk,List.getElem?_map,hr1];rfl
   have HSD:=zq hsd;have HSE:=zq (hr2 HSG.o);have hep:=SynP.Vj e;have HUP:Hid (SynP.Vd (SynP.exL ks) (k+1)=SynP.Vd (SynP.exL ks) k++SynP.Mk k e):=SynP.U9 hke;have HDP:Hid (SynP.dpU (SynP.exL ks) (k+1)=max (SynP.dpU (SynP.exL ks) k) e.dp):=SynP.Qwt hke;have hup1:=Qy7 ks (k+1) (by rw[<-HNE.o];omega);rw[HUP.o,List.length_append]at hup1
   have hes:e.size<=ks.size:=by omega
   have hmeas:Hid (n-(k+1)<n-k):=by show _<_;omega
   have hlt2:decide (((k:Nat):Int)<((n:Nat):Int))=true:=decide_eq_true (by omega);have hWR:Hid (Below R w wr):=((HBB.o).mono (Nat.le_of_lt hRl0)).trans (HW.o.belowB (by omega) (fun q hq=>HS1.o.gt q hq));have HTR:Hid (NdL wr R tv l):=HT1.o.below (HW.o.belowB (by omega) (fun q hq=>HS1.o.gt q hq));have HKR:Hid (KL wr R (.slice ko n kcap) (Uk (ks.roots p))):=HK1.o.below (HW.o.belowB (by omega) (fun q hq=>HS1.o.gt q hq));have hwz:=HW.o.size;clear hke hr1 hr2 hie hsd;by_cases h0:k=0
   ·have hpc:SynP.Mk k e=e.pr:=by unfold SynP.Mk;rw[if_neg (by omega)];rfl
    rw[hpc]at hup1;have HPC:=zq hpc;have HC:=zq (Pz op k e HIE.o l R p' tv bv' _ o _ wr HS.o HTR.o HSE.o (by rw[HLO.o k e.op,List.length_append];show _+e.pr.length<=_;omega) (by omega) (by omega) text _ _ HKR.o HSD.o);rw[HLO.o k e.op]at HC;clear hpc;subst h0;go_wp2_with fail;refine HC.o.mono ?_;rintro y w5 ⟨rfl,bv5,a1,a2,a3⟩
    have hfin:Hid (Qqw R tv bv out o m (SynP.exL ks) w1 (.int .i64 1) w5):=by
     refine⟨0+1,bv5,rfl,by rw[<-HNE.o];omega,?_,HW.o.trans HM.o a2,Mv.trans (R:=R) (w':=wr) HM.o HW.o.size a3⟩;rw[HUP.o,HDP.o,HPC.o,<-List.append_assoc]
     have e2:max m (o+max (SynP.dpU (SynP.exL ks) 0) e.dp)=max (max m (o+SynP.dpU (SynP.exL ks) 0)) (o+e.dp):=by omega
     rw[e2];exact a1
    clear a1 a2 a3;go_wp2_with fail
    first|exact⟨hfin.o,hmeas.o⟩|exact⟨by (repeat apply Exists.intro);exact⟨hfin.o,rfl⟩,hmeas.o⟩
   ·have hpos:0<k:=by omega
    have hpc:SynP.Mk k e=[44,32]++e.pr:=by unfold SynP.Mk;rw[if_pos (by omega)]
    rw[hpc,List.length_append]at hup1;have h2l:([44,32]:Qx).length=2:=rfl;have HPC:=zq hpc;have hol:(out++SynP.Vd (SynP.exL ks) k).length=out.length+(SynP.Vd (SynP.exL ks) k).length:=List.length_append;have HSTR:=zq (Pc R tv bv' _ o _ [44,32] wr HS.o (by omega) (by omega));clear hpc h0;go_wp2_with fail;refine HSTR.o.mono ?_;rintro y w4 ⟨rfl,bv4,a1,a2,a3⟩
    have hGr4:w4.heap[G]?=some (.cells #[.int .i64 (op:Nat),.string text,.slice ko n kcap] 43 (0,0)):=(a2.block G (by omega) (by omega) (fun e=>by
     rcases HM.o G e.symm with h1|h1
     ·have:=HGT.o G h1;omega
     ·omega)).trans HGR.o
    have d0:w4.cell? ⟨G,0,none⟩=some (.int .i64 (op:Nat)):=by rw[cell_of_row _ _ 0 _ _ _ hGr4];rfl
    have d1:w4.cell? ⟨G,1,none⟩=some (.string text):=by rw[cell_of_row _ _ 1 _ _ _ hGr4];rfl
    have d2:w4.cell? ⟨G,2,none⟩=some (.slice ko n kcap):=by rw[cell_of_row _ _ 2 _ _ _ hGr4];rfl
    have hbl:=a2.belowB (by omega) (fun q hq=>HS.o.gt q hq);have HA2:Hid (Wr R bv.ownBlock w1 w4):=HW.o.trans HM.o a2;have HA3:Hid (Mv w1 bv.ownBlock bv4.ownBlock):=Mv.trans (R:=R) (w':=wr) HM.o HW.o.size a3;have HC:=zq (Pz op k e HIE.o l R p' tv bv4 _ o _ w4 a1 (HTR.o.below hbl) HSE.o (by rw[HLO.o k e.op,List.length_append,hol];show _+e.pr.length<=_;omega) (by omega) (by omega) text _ _ (HKR.o.below hbl) HSD.o);rw[HLO.o k e.op]at HC;clear a1 a2 a3 hGr4 hbl c0 c1 c2 hol;go_wp2_with fail;refine HC.o.mono ?_;rintro y w5 ⟨rfl,bv5,a1,a2,a3⟩
    have hfin:Hid (Qqw R tv bv out o m (SynP.exL ks) w1 (.int .i64 ((k+1:Nat):Int)) w5):=by
     refine⟨k+1,bv5,rfl,by rw[<-HNE.o];omega,?_,HA2.o.trans HA3.o a2,Mv.trans (R:=R) (w':=w4) HA3.o HA2.o.size a3⟩;rw[HUP.o,HDP.o,HPC.o,<-List.append_assoc,<-List.append_assoc]
     have e2:max m (o+max (SynP.dpU (SynP.exL ks) k) e.dp)=max (max m (o+SynP.dpU (SynP.exL ks) k)) (o+e.dp):=by omega
     rw[e2];exact a1
    clear a1 a2 a3;go_wp2_with fail
    first|exact⟨hfin.o,hmeas.o⟩|exact⟨by (repeat apply Exists.intro);exact⟨hfin.o,rfl⟩,hmeas.o⟩
  ·have hlt2:decide (((k:Nat):Int)<((n:Nat):Int))=false:=decide_eq_false (by omega)
   have hkn:k=n:=by omega
   have hS:=HS.o;rw[hkn,HNE.o,SynP.Fe,SynP.Qz3]at hS;have HSS:=zq hS;have HWW:Hid (Wr R bv.ownBlock w wr):=(Wr.of_below HBB.o).trans (Mv.refl _ _) HW.o;have HMM:Hid (Mv w bv.ownBlock bv'.ownBlock):=Mv.trans (R:=R) (w':=w1) (Mv.refl _ _) HBB.o.size HM.o;clear hS hkn;go_wp2_with fail
   first|go_end0|refine bodyPost_ret (results_none rfl _ _ _) rfl ?_
   exact⟨rfl,bv',HSS.o,HWW.o,HMM.o⟩
structure NSt (w0:World) (og:Option Nat) (w:World) (R G:Nat) (tv bv:Value) (out:Qx) (o m:Nat) (l:List SynP.NI) (op:Nat) (text:Qx) (kv:Value) (ks:List Int):Prop where
 ws:WrS w R tv bv out o m
 wr:Wr R og w0 w
 mv:Mv w0 og bv.ownBlock
 nl:NdL w R tv l
 kl:KL w R kv ks
 h0:w.heap[G]?=some (.cells #[.pointer (some ⟨R,0,none⟩)] 86 (0,0))
 h1:w.heap[G+1]?=some (.cells #[.int .i64 (op:Nat),.string ⟨text.toArray⟩,kv] 43 (0,0))
 hR:R<G
 hG:G+2<=w0.heap.size
 ho:∀q,og=some q->q<G
theorem NSt.step {w0 w w':World}{og:Option Nat}{R G:Nat}{tv bv bv':Value}{out out':Qx}{o o' m m':Nat}{l:List SynP.NI}{op:Nat}{text:Qx}{kv:Value}{ks:List Int}(h:NSt w0 og w R G tv bv out o m l op text kv ks)
  (k1:WrS w' R tv bv' out' o' m') (k2:Wr R bv.ownBlock w w') (k3:Mv w bv.ownBlock bv'.ownBlock):NSt w0 og w' R G tv bv' out' o' m' l op text kv ks:=by
 have I:=k2.belowB (Nat.le_of_lt h.ws.lt) (fun q hq=>h.ws.gt q hq)
 have E:∀i,G<=i->i<G+2->some i≠bv.ownBlock:=fun i h1 h2 e=>by
  have hG:=h.hG;rcases h.mv i e.symm with H|H
  ·have:=h.ho i H;omega
  ·omega
 have hR:=h.hR;have hG:=h.hG;have J:=h.wr.size;exact⟨k1,h.wr.trans h.mv k2,Mv.trans (R:=R) (w':=w) h.mv h.wr.size k3,h.nl.below I,h.kl.below I,(k2.block G (by omega) (by omega) (E G (by omega) (by omega))).trans h.h0,(k2.block (G+1) (by omega) (by omega) (E (G+1) (by omega) (by omega))).trans h.h1,h.hR,h.hG,h.ho⟩
theorem NSt.below {w0 w w':World}{og:Option Nat}{R G:Nat}{tv bv:Value}{out:Qx}{o m:Nat}{l:List SynP.NI}{op:Nat}{text:Qx}{kv:Value}{ks:List Int}(h:NSt w0 og w R G tv bv out o m l op text kv ks)(hb:Below w.heap.size w w'):NSt w0 og w' R G tv bv out o m l op text kv ks:=
 h.step (h.ws.below hb) (Wr.of_below hb) (Mv.refl _ _)
theorem NSt.cells {w0 w:World}{og:Option Nat}{R G:Nat}{tv bv:Value}{out:Qx}{o m:Nat}{l:List SynP.NI}{op:Nat}{text:Qx}{kv:Value}{ks:List Int}(h:NSt w0 og w R G tv bv out o m l op text kv ks):
  w.cell? ⟨G,0,none⟩=some (.pointer (some ⟨R,0,none⟩))/\w.cell? ⟨G+1,0,none⟩=some (.int .i64 (op:Nat))/\w.cell? ⟨G+1,1,none⟩=some (.string ⟨text.toArray⟩)/\w.cell? ⟨G+1,2,none⟩=some kv:=by
 refine⟨?_,?_,?_,?_⟩
 ·rw[cell_of_row _ _ 0 _ _ _ h.h0];rfl
 ·rw[cell_of_row _ _ 0 _ _ _ h.h1];rfl
 ·rw[cell_of_row _ _ 1 _ _ _ h.h1];rfl
 ·rw[cell_of_row _ _ 2 _ _ _ h.h1];rfl
theorem NSt.fin {w w0 w':World}{R G:Nat}{tv bv bv0:Value}{out:Qx}{o m:Nat}{l:List SynP.NI}{op:Nat}{text:Qx}{kv:Value}{ks:List Int}(h:NSt w0 bv0.ownBlock w' R G tv bv out o m l op text kv ks)(hb:Below w.heap.size w w0):WrP R tv bv0 out o m (.tuple #[]) w (.returned (.tuple #[])) w':=
 ⟨rfl,bv,h.ws,(Wr.of_below hb).trans (Mv.refl _ _) h.wr,Mv.trans (R:=R) (w':=w0) (Mv.refl _ _) hb.size h.mv⟩
theorem Wz {w:World}{R K:Nat}{tv bv:Value}{out:Qx}{o m:Nat}{l:List SynP.NI}{op:Nat}{text:Qx}{ks:List Int}(h:WrS w R tv bv out o m)(ht:NdL w R tv l)(hx:l[K]?=some ⟨(op:Nat),text,ks⟩):
  ∃tg ln tcap ko kn kcap,tv=.slice (some ⟨tg,0,none⟩) ln tcap/\K<ln/\kn=ks.length/\kn<=kcap/\
   (w.alloc (.cells #[.pointer (some ⟨R,0,none⟩)] 86)).cell? ⟨R,0,none⟩=some tv/\
   (w.alloc (.cells #[.pointer (some ⟨R,0,none⟩)] 86)).cell? ⟨tg,K*3,none⟩=some (.int .i64 (op:Nat))/\
   (w.alloc (.cells #[.pointer (some ⟨R,0,none⟩)] 86)).cell? ⟨tg,K*3+1,none⟩=some (.string ⟨text.toArray⟩)/\
   (w.alloc (.cells #[.pointer (some ⟨R,0,none⟩)] 86)).cell? ⟨tg,K*3+2,none⟩=some (.slice ko kn kcap)/\
   Below w.heap.size w ((w.alloc (.cells #[.pointer (some ⟨R,0,none⟩)] 86)).alloc (.cells #[.int .i64 (op:Nat),.string ⟨text.toArray⟩,.slice ko kn kcap] 43))/\
   NSt ((w.alloc (.cells #[.pointer (some ⟨R,0,none⟩)] 86)).alloc (.cells #[.int .i64 (op:Nat),.string ⟨text.toArray⟩,.slice ko kn kcap] 43)) bv.ownBlock ((w.alloc (.cells #[.pointer (some ⟨R,0,none⟩)] 86)).alloc (.cells #[.int .i64 (op:Nat),.string ⟨text.toArray⟩,.slice ko kn kcap] 43)) R w.heap.size tv bv out o m l op text (.slice ko kn kcap) ks:=by
 have O:=(List.getElem?_eq_some_iff.1 hx).1;have U:=ht;obtain⟨ta,tcap,rfl,t1,t2,t3⟩:=ht;obtain⟨tg,rfl,t4,t5⟩:=t3 (by omega);obtain⟨a,b,kv,c,d⟩:=t5 K _ hx;have T:=d;obtain⟨ko,kcap,rfl,k1,-,-⟩:=T;obtain⟨kn,J⟩:=xq ks.length;rw[show (⟨(op:Nat),text,ks⟩:SynP.NI).kids.length=kn from J.symm]at k1 c d;have I:=h.lt;have E:=Qq w (.cells #[.pointer (some ⟨R,0,none⟩)] 86);have H:=Qg E (Qq _ (.cells #[.int .i64 (op:Nat),.string ⟨text.toArray⟩,.slice ko kn kcap] 43));refine⟨tg,l.length,tcap,ko,kn,kcap,rfl,O,J,k1,(E.cell (p:=⟨R,0,none⟩) I).trans h.cells.1,(E.cell (p:=⟨tg,K*3,none⟩) (by show tg<_;omega)).trans a,(E.cell (p:=⟨tg,K*3+1,none⟩) (by show tg<_;omega)).trans b,(E.cell (p:=⟨tg,K*3+2,none⟩) (by show tg<_;omega)).trans c,H,?_⟩;refine⟨h.below H,Wr.refl _ _ _,Mv.refl _ _,U.below (H.mono (Nat.le_of_lt I)),d.below (H.mono (Nat.le_of_lt I)),?_,?_,I,by simp,fun q hq=>(h.own.lt q hq).2⟩
 ·exact((Qq _ _).block _ (by simp)).trans (heap_alloc_new w _)
 ·have:=heap_alloc_new (w.alloc (.cells #[.pointer (some ⟨R,0,none⟩)] 86)) (.cells #[.int .i64 (op:Nat),.string ⟨text.toArray⟩,.slice ko kn kcap] 43)
  rw[show (w.alloc (.cells #[.pointer (some ⟨R,0,none⟩)] 86)).heap.size=w.heap.size+1 by simp]at this;exact this
end Go.Proofs.YtgfmiladfeoldaaGreatDoor
