import Derived.Test.YtgfmiladfeoldaaGreatDoorPk21
import Derived.Test.YtgfmiladfeoldaaGreatDoorPk22
import Derived.Test.YtgfmiladfeoldaaGreatDoorPk23
import Derived.Test.YtgfmiladfeoldaaGreatDoorPk20
set_option linter.unusedSimpArgs false
set_option linter.unusedVariables false
set_option maxRecDepth 100000
set_option maxHeartbeats 16000000
namespace Go.Proofs.YtgfmiladfeoldaaGreatDoor
open Go.RowKit NatP LexP
def Uw (op:Int)(t:Qx)(w:World)(e:Ending)(w':World):Prop:=e=.returned (.bool (SynP.WV op t))/\Below w.heap.size w w'
theorem Qx5 {t:Qx}{k:Nat}(h:SynP.Zv t=.error k):0<k:=by
 unfold SynP.Zv at h
 cases hK:Toks 1 (Qz t) with
 |error p=>rw[hK]at h;cases h;decide
 |ok ts=>
  rw[hK]at h;have E:=SynP.Ux ((Qz t).length+1) (ts.length+3) (s:=⟨ts,0⟩) (Nat.le_refl _) (Nat.le_refl _)
  have H:SynP.Good ts.length (MatR ((Qz t).length+1) (ts.length+3) ⟨ts,0⟩):=SynP.Good.bind E (fun a s hl=>by
   unfold SynP.done;split
   ·exact SynP.Q6 a (by simp at hl;omega)
   ·exact SynP.Yi _ _ _)
  change (match MatR ((Qz t).length+1) (ts.length+3) ⟨ts,0⟩ with|none=>(.error 0:Except Nat SynP.MatV)|some (.error (_,k))=> .error (if k=2\/k=5 then k else 7)|some (.ok (m,_))=> .ok m)=_ at h
  rcases hL:MatR ((Qz t).length+1) (ts.length+3) ⟨ts,0⟩ with- |(⟨c,j⟩|⟨m,s'⟩)<;>rw[hL]at h H
  ·exact H.elim
  ·have I:(if j=2\/j=5 then j else 7)=k:=by
    have:=h;simp only[Except.error.injEq]at this;exact this
   split at I<;>omega
  ·cases h
theorem Qgp {l:List (List Nat)}:∀s∈l,s.length<=tot l:=by
 induction l with
 |nil=>intro s h;cases h
 |cons a l ih=>
  intro s h;rcases List.mem_cons.1 h with rfl|h
  ·simp[tot]
  ·have:=ih s h
   simp[tot]at this ⊢;omega
theorem Qv9 {t:Qx}{l:List (List Nat)}(h:SynP.Jr t=some l)(ht:t.length<=67108864):l.length<=134217728/\(∀s∈l,s.length<=134217728)/\(SynP.Xn [44,32] (l.map simT)).length<=70368744177664:=by
 unfold SynP.Jr at h
 cases hK:Toks 1 (Qz t) with
 |error p=>rw[hK]at h;cases h
 |ok ts=>
  rw[hK]at h;have J:=Fits.toks (l:=t) ht hK;simp only at h;split at h
  ·rename_i l' s' I
   cases h
   obtain⟨a,s,E,H⟩:=SynP.Qv I;have:=SynP.Vc H
   cases this
   have k1:=Ug E;have k2:=Ks E;have k3:Lb ⟨ts,0⟩<=201326592:=J.2;simp only at k1 k2;refine⟨by omega,fun s hs=> ?_,Qz0 (by omega) (by omega) (by omega)⟩;have:=Qgp s hs;omega
  ·cases h
theorem Qpi (t:Qx):(t.isEmpty)=(t==[]):=by cases t<;>rfl
theorem Pe (op:Int)(hop:op=1\/op=9)(t:Qx)(kv:Value)(w:World)(hc:∀w',Below w.heap.size w w'->Calls Tryz.prog 161 #[.string ⟨t.toArray⟩] w' fun e w''=>e=.returned (.bool (SynP.numV t))/\Below w'.heap.size w' w''):
  Calls Tryz.prog 101 #[.agg #[.int .i64 op,.string ⟨t.toArray⟩,kv]] w (Uw op t w):=by
 have HV:Hid (SynP.WV op t=SynP.numV t):=by show _=_;unfold SynP.WV;rw[if_pos hop]
 obtain⟨T,hT⟩:=xq (⟨t.toArray⟩:ByteArray)
 have HTL:Hid (T.data.toList=t):=by show _=_;rw[hT]
 have HB0:=zq (Qq w (.cells #[.int .i64 op,.string T,kv] 43));have HN0:=zq (heap_alloc_new w (.cells #[.int .i64 op,.string T,kv] 43));have HC:=zq (hc _ HB0.o);rw[<-hT]at HC ⊢;clear hc hT;rcases hop with rfl|rfl
 all_goals
  go_enter Tryz.func101,Tryz.ntmps101;go_wp2_with fail;refine HC.o.mono ?_;rintro e w1 ⟨rfl,hb⟩;have HB:=zq (Qj HB0.o hb);clear hb;go_wp2_with fail;go_ret;exact⟨by rw[HV.o];rfl,HB.o⟩
theorem Mu (op:Int)(hop:op=1\/op=9)(t:Qx)(kv:Value)(w:World)(ht:t.length<=67108864)(hs:SG w)(hsz:4<w.heap.size):
  Calls Tryz.prog 101 #[.agg #[.int .i64 op,.string ⟨t.toArray⟩,kv]] w (Uw op t w):=
 Pe op hop t kv w fun w' hb=>Ag t w' ht (hs.below hb hsz) (Nat.lt_of_lt_of_le hsz hb.size)
theorem Uk (op:Int)(hop:op=2\/op=10\/op=11)(t:Qx)(kv:Value)(w:World)(ht:t.length<=67108864)(hx:Lx w):
  Calls Tryz.prog 101 #[.agg #[.int .i64 op,.string ⟨t.toArray⟩,kv]] w (Uw op t w):=by
 have HV:Hid (SynP.WV op t=SynP.namV t):=by show _=_;unfold SynP.WV;rw[if_neg (by omega),if_pos hop]
 obtain⟨T,hT⟩:=xq (⟨t.toArray⟩:ByteArray)
 have HTL:Hid (T.data.toList=t):=by show _=_;rw[hT]
 have HB0:=zq (Qq w (.cells #[.int .i64 op,.string T,kv] 43));have HN0:=zq (heap_alloc_new w (.cells #[.int .i64 op,.string T,kv] 43));have HC:=zq (F6 t (w.alloc (.cells #[.int .i64 op,.string T,kv] 43)) ht (hx.below HB0.o));rw[<-hT]at HC ⊢;clear hx hT ht;rcases hop with rfl|rfl|rfl
 all_goals
  go_enter Tryz.func101,Tryz.ntmps101;go_wp2_with fail;refine HC.o.mono ?_;rintro e w1 ⟨rfl,hb⟩;have HB:=zq (Qj HB0.o hb);clear hb;go_wp2_with fail;go_ret;exact⟨by rw[HV.o];rfl,HB.o⟩
theorem Gr (t:Qx)(kv:Value)(w:World)(ht:t.length<=67108864)(hx:Lx w):
  Calls Tryz.prog 101 #[.agg #[.int .i64 12,.string ⟨t.toArray⟩,kv]] w (Uw 12 t w):=by
 have HV:Hid (SynP.WV 12 t=(SynP.namV t && t !=SynP.letB)):=rfl;obtain⟨T,hT⟩:=xq (⟨t.toArray⟩:ByteArray)
 have HTL:Hid (T.data.toList=t):=by show _=_;rw[hT]
 have HB0:=zq (Qq w (.cells #[.int .i64 12,.string T,kv] 43));have HN0:=zq (heap_alloc_new w (.cells #[.int .i64 12,.string T,kv] 43));have HC:=zq (F6 t (w.alloc (.cells #[.int .i64 12,.string T,kv] 43)) ht (hx.below HB0.o));rw[<-hT]at HC ⊢;clear hx hT ht;go_enter Tryz.func101,Tryz.ntmps101;go_wp2_with fail;refine HC.o.mono ?_;rintro e w1 ⟨rfl,hb⟩;have HB:=zq (Qj HB0.o hb)
 have d1:w1.cell? ⟨w.heap.size,1,none⟩=some (.string T):=by rw[cell_of_row _ _ 1 _ _ _ ((hb.block w.heap.size (by simp)).trans HN0.o)];rfl
 clear hb;rcases hn:SynP.namV t
 ·have HN:=zq hn
  clear hn;go_wp2_with fail;go_ret;exact⟨by rw[HV.o,HN.o];rfl,HB.o⟩
 ·have HN:=zq hn
  clear hn;go_wp2_with fail;go_ret;exact⟨by rw[HV.o,HN.o,<-HTL.o,<-ByteArray.toList_eq];rfl,HB.o⟩
theorem Qqd (t:Qx)(kv:Value)(w:World)(ht:t.length<=67108864)(hx:Lx w)(hs:SG w)(hsz:4<w.heap.size):
  Calls Tryz.prog 101 #[.agg #[.int .i64 3,.string ⟨t.toArray⟩,kv]] w (Uw 3 t w):=by
 have HV:Hid (SynP.WV 3 t=SynP.matV t):=rfl;obtain⟨T,hT⟩:=xq (⟨t.toArray⟩:ByteArray)
 have HTL:Hid (T.data.toList=t):=by show _=_;rw[hT]
 have HB0:=zq (Qq w (.cells #[.int .i64 3,.string T,kv] 43));have HN0:=zq (heap_alloc_new w (.cells #[.int .i64 3,.string T,kv] 43));have HSG0:=zq (hs.below HB0.o hsz)
 have hsz0:4<(w.alloc (.cells #[.int .i64 3,.string T,kv] 43)).heap.size:=by simp;omega
 have HC:=zq (Ai t (w.alloc (.cells #[.int .i64 3,.string T,kv] 43)) ht (hx.below HB0.o) HSG0.o hsz0);rw[<-hT]at HC ⊢;clear hs hx hT ht;go_enter Tryz.func101,Tryz.ntmps101;go_wp2_with fail;refine HC.o.mono ?_;rintro e w1 hn;unfold Qqn at hn
 cases hK:SynP.Zv t with
 |error k=>
  rw[hK]at hn;obtain⟨rfl,hb⟩:=hn
  have HW:Hid (SynP.matV t=false):=by show _=_;unfold SynP.matV;rw[hK]
  have hk0:0<k:=Qx5 hK
  have hkk:((k:Int) !=0)=true:=by simp;omega
  have HB:=zq (fun b=>(Qj HB0.o hb).alloc (Nat.le_trans HB0.o.size hb.size) b);clear hb hK hk0;go_wp2_with fail;go_ret
  exact⟨by rw[HV.o,HW.o];rfl,HB.o _⟩
 |ok m=>
  rw[hK]at hn;obtain⟨av,rfl,hb,hi⟩:=hn;replace hi:=hi.ird
  have HW:Hid (SynP.matV t=(SynP.matT m==t)):=by show _=_;unfold SynP.matV;rw[hK]
  have hm:=SynP.Gq hK;have HT:=zq (Fa m hm.2.2.2);have hbw:=Qj HB0.o hb;have hlt:=Nat.le_trans HB0.o.size hb.size;have hg1:=(hb.block w.heap.size (by simp)).trans HN0.o;have hl1:w.heap.size<w1.heap.size:=(Array.getElem?_eq_some_iff.1 hg1).1;have HSG1:=zq (HSG0.o.below hb hsz0);have HI:=zq hi;have HM:=zq hm;obtain⟨ao,cap,rfl,-⟩:=hi;obtain⟨ln,hln⟩:=xq m.at_.length;rw[<-hln]at HI ⊢;obtain⟨w2,hw2⟩:∃w2,w2=w1.alloc (.cells #[.int .i64 (m.rows:Nat),.int .i64 (m.cols:Nat),.slice ao ln cap] 47):=⟨_,rfl⟩
  have hb2:Below w1.heap.size w1 w2:=by rw[hw2];exact Qq _ _
  have HBW:Hid (Below w.heap.size w w2):=by show Below _ _ _;rw[hw2];exact hbw.alloc hlt _
  have hg2:=(hb2.block w.heap.size hl1).trans hg1;have hsz1:4<w1.heap.size:=Nat.lt_of_lt_of_le hsz0 hb.size;have hl2:w.heap.size<w2.heap.size:=Nat.lt_of_lt_of_le hl1 hb2.size;have HMT:=zq (Bt m.rows m.cols m.at_ (.slice ao ln cap) w2 (HSG1.o.below hb2 hsz1) (HI.o.below hb2) HM.o.1 HM.o.2.1 HM.o.2.2.1);have HG2:=zq hg2;clear hb hK hm hbw hg1 hln hb2 hg2;go_wp2_with fail;rw[<-hw2];clear hw2;refine HMT.o.mono ?_;rintro e w3 ⟨rfl,hb3⟩;have HB3:=zq (Qj HBW.o hb3)
  have d1:w3.cell? ⟨w.heap.size,1,none⟩=some (.string T):=by rw[cell_of_row _ _ 1 _ _ _ ((hb3.block w.heap.size hl2).trans HG2.o)];rfl
  clear hb3;go_wp2_with fail;go_ret;exact⟨by rw[HV.o,HW.o,<-HT.o,<-HTL.o,<-ByteArray.toList_eq];rfl,HB3.o⟩
theorem Qqc (t:Qx)(kv:Value)(w:World)(ht:t.length<=67108864)(hx:Lx w)(hs:SG w)(hsz:4<w.heap.size):
  Calls Tryz.prog 101 #[.agg #[.int .i64 13,.string ⟨t.toArray⟩,kv]] w (Uw 13 t w):=by
 have HV:Hid (SynP.WV 13 t=SynP.cpxV t):=rfl;obtain⟨T,hT⟩:=xq (⟨t.toArray⟩:ByteArray)
 have HTL:Hid (T.data.toList=t):=by show _=_;rw[hT]
 have HB0:=zq (Qq w (.cells #[.int .i64 13,.string T,kv] 43));have HN0:=zq (heap_alloc_new w (.cells #[.int .i64 13,.string T,kv] 43));have HSG0:=zq (hs.below HB0.o hsz)
 have hsz0:4<(w.alloc (.cells #[.int .i64 13,.string T,kv] 43)).heap.size:=by simp;omega
 have HC:=zq (T0 t (w.alloc (.cells #[.int .i64 13,.string T,kv] 43)) ht (hx.below HB0.o) HSG0.o hsz0);have HLE:=zq ht;rw[<-hT]at HC ⊢;clear hs hx hT ht;go_enter Tryz.func101,Tryz.ntmps101;go_wp2_with fail;refine HC.o.mono ?_;rintro e w1 hn;unfold P3 at hn
 cases hK:SynP.Jr t with
 |none=>
  rw[hK]at hn;obtain⟨ao,n,cap,rfl,hb⟩:=hn
  have HW:Hid (SynP.cpxV t=false):=by show _=_;unfold SynP.cpxV;rw[hK]
  have HB:=zq (Qj HB0.o hb);clear hb hK;go_wp2_with fail;go_quiet (fail);go_wp2_with fail;go_ret
  exact⟨by rw[HV.o,HW.o];rfl,Qj HB.o (Xt w1 _)⟩
 |some l=>
  rw[hK]at hn;obtain⟨lv,svs,rfl,hb,hi⟩:=hn
  have HW:Hid (SynP.cpxV t=(SynP.cpxT l==t)):=by show _=_;unfold SynP.cpxV;rw[hK]
  obtain⟨q1,q2,q3⟩:=Qv9 hK HLE.o;have HMT:=zq (fun w2 (hb2:Below w1.heap.size w1 w2)=>Bj l lv w2 ((HSG0.o.below hb hsz0).below hb2 (Nat.lt_of_lt_of_le hsz0 hb.size)) (hi.crd.below hb2) q1 q2 q3);obtain⟨ao,cap,hv2,-,-,-⟩:=Qm hi.own;obtain⟨ln,hln⟩:=xq svs.length;rw[<-hln]at hv2;have HB:=zq (Qj HB0.o hb);have hg1:=(hb.block w.heap.size (by simp)).trans HN0.o;have hl1:w.heap.size<w1.heap.size:=(Array.getElem?_eq_some_iff.1 hg1).1
  have hc1:w1.cell? ⟨w.heap.size,1,none⟩=some (.string T):=by rw[cell_of_row _ _ 1 _ _ _ hg1];rfl
  subst hv2;clear hb hK hi q1 q2 q3 hln hg1;go_wp2_with fail
  go_region_held3 (fun w'=>w'.cell? ⟨w.heap.size,1,none⟩=some (.string T))
   (first
    |go_keep
    |exact(hb2.cell (p:=⟨w.heap.size,1,none⟩) hl1).trans hc1)
   (first
    |(go_at_call 67;refine(HMT.o _ (Xt w1 _)).mono ?_;rintro e w2 ⟨rfl,hb2⟩))
  have HB2:Hid (Below w.heap.size w w2):=by
   refine Qj HB.o ?_
   first|exact hb2|exact(Xt w1 1).trans hb2
  clear hb2;go_wp2_with fail;go_ret;exact⟨by rw[HV.o,HW.o,<-HTL.o,<-ByteArray.toList_eq];rfl,HB2.o⟩
theorem To (op:Int)(h1:op≠1)(h2:op≠2)(h3:op≠3)(h9:op≠9)(h10:op≠10)(h11:op≠11)(h12:op≠12)(h13:op≠13)(t:Qx)(kv:Value)(w:World):
  Calls Tryz.prog 101 #[.agg #[.int .i64 op,.string ⟨t.toArray⟩,kv]] w (Uw op t w):=by
 have HV:Hid (SynP.WV op t=(t==[])):=by
  show _=_;unfold SynP.WV;rw[if_neg (by omega),if_neg (by omega),if_neg h12,if_neg h3,if_neg h13]
 obtain⟨T,hT⟩:=xq (⟨t.toArray⟩:ByteArray)
 have HTL:Hid (T.data.toList=t):=by show _=_;rw[hT]
 have HB0:=zq (Qq w (.cells #[.int .i64 op,.string T,kv] 43));have HN0:=zq (heap_alloc_new w (.cells #[.int .i64 op,.string T,kv] 43));rw[<-hT];clear hT
 have e1:(op==1)=false:=by simp[h1]
 have e2:(op==2)=false:=by simp[h2]
 have e3:(op==3)=false:=by simp[h3]
 have e9:(op==9)=false:=by simp[h9]
 have e10:(op==10)=false:=by simp[h10]
 have e11:(op==11)=false:=by simp[h11]
 have e12:(op==12)=false:=by simp[h12]
 have e13:(op==13)=false:=by simp[h13]
 clear h1 h2 h3 h9 h10 h11 h12 h13;go_enter Tryz.func101,Tryz.ntmps101;go_wp2_with fail;go_ret;exact⟨by rw[HV.o,<-HTL.o,<-Qpi,<-ByteArray.toList_eq];rfl,HB0.o⟩
theorem Qqf (op:Int)(t:Qx)(kv:Value)(w:World)(ht:t.length<=67108864)(hx:Lx w)(hs:SG w)(hsz:4<w.heap.size):
  Calls Tryz.prog 101 #[.agg #[.int .i64 op,.string ⟨t.toArray⟩,kv]] w (Uw op t w):=by
 by_cases h1:op=1
 ·exact Mu op (.inl h1) t kv w ht hs hsz
 by_cases h9:op=9
 ·exact Mu op (.inr h9) t kv w ht hs hsz
 by_cases h2:op=2
 ·exact Uk op (.inl h2) t kv w ht hx
 by_cases h10:op=10
 ·exact Uk op (.inr (.inl h10)) t kv w ht hx
 by_cases h11:op=11
 ·exact Uk op (.inr (.inr h11)) t kv w ht hx
 by_cases h12:op=12
 ·subst h12;exact Gr t kv w ht hx
 by_cases h3:op=3
 ·subst h3;exact Qqd t kv w ht hx hs hsz
 by_cases h13:op=13
 ·subst h13;exact Qqc t kv w ht hx hs hsz
 exact To op h1 h2 h3 h9 h10 h11 h12 h13 t kv w
theorem D6 {w:World}{B g cap n m:Nat}{e:TypeId}{xs:List Value}(h:w.ownsRow B e 1 (.slice (some ⟨g,0,none⟩) n cap) n xs)(hm:m<=n):w.ownsRow B e 1 (.slice (some ⟨g,0,none⟩) m cap) m (xs.take m):=by
 obtain⟨Z,I⟩:=h;rcases I with ⟨E,-⟩|⟨g',cap',H,E,J,K,h6,O,T,U⟩
 ·cases E
 ·cases E
  refine⟨by rw[List.length_take];omega,.inr ⟨g,cap,H,rfl,J,K,by omega,O,T,?_⟩⟩;rw[<-U,List.take_take];congr 1;omega
theorem Qvu (l:List Nat)(m:Nat):(ints l).take m=ints (l.take m):=by simp[ints]
theorem Kb {w w' w'':World}{row:Option Nat}(h:Below w.heap.size w w')(hg:w'.grownBy w'' row)(hb:∀q,row=some q->w.heap.size<=q):Below w.heap.size w w'':=
 ⟨hg.os.trans h.os,hg.tape.trans h.tape,hg.output.trans h.output,Nat.le_trans h.size hg.size,fun k hk=>(hg.block k (Nat.lt_of_lt_of_le hk h.size) (fun e=>by have:=hb k e.symm;omega)).trans (h.block k hk)⟩
def GrO (l:List SynP.NI)(w:World)(r:Bool)(fv iv:Value)(wr:World):Prop:=
 ∃(i:Nat) (free:List Nat),i<=l.length/\iv=.int .i64 (i:Nat)/\free.length<=i/\SynP.Xk SynP.WV l.length i free (l.drop i)=r/\wr.ownsRow w.heap.size 3 1 fv free.length (ints free)/\Below w.heap.size w wr
theorem Pj {W:Int->Qx->Bool}{n i:Nat}{free:List Nat}{x:SynP.NI}{l:List SynP.NI}(h:SynP.Wo W n i free x=false):SynP.Xk W n i free (x::l)=false:=by
 unfold SynP.Xk;rw[h];rfl
theorem Qxy {W:Int->Qx->Bool}{n i:Nat}{free:List Nat}{x:SynP.NI}{l:List SynP.NI}(h:x.kids≠SynP.Vy free x.kids.length):SynP.Xk W n i free (x::l)=false:=by
 unfold SynP.Xk;rw[if_neg h];split<;>rfl
theorem Bw {W:Int->Qx->Bool}{n i:Nat}{free:List Nat}{x:SynP.NI}{l:List SynP.NI}(h:SynP.Wo W n i free x=true)(hk:x.kids=SynP.Vy free x.kids.length):SynP.Xk W n i free (x::l)=SynP.Xk W n (i+1) (free.take (free.length-x.kids.length)++[i]) l:=by
 conv=>lhs;unfold SynP.Xk
 rw[if_pos h,if_pos hk]
theorem Qxj {w2:World}{ap:Option Addr}{B0 B g M k N fcap:Nat}{ko:Option Addr}{kcap:Nat}{kids:List Int}{free:List Nat}(hk:k=kids.length)(hN:N=free.length)(hM:N=M+k)(hkl:KL w2 B (.slice ko k kcap) kids)(hB:B<=w2.heap.size)
  (how:w2.ownsRow B0 3 1 (.slice (some ⟨g,0,none⟩) N fcap) N (ints free)) (hb:N<=4096) (hap:k≠0->ap=some ⟨g,M,none⟩) (q d:Nat):
  Calls Tryz.prog 102 #[.slice ko k kcap,.slice ap k d] (w2.drewN q) fun e w'=>e=.returned (.bool (decide (kids=SynP.Vy free k)))/\ ∃m,w'=(w2.drewN q).drewN m:=by
 have E:SynP.Vy free k=(free.drop M).map fun k:Nat=>(k:Int):=by
  unfold SynP.Vy;rw[show free.length-k=M by omega]
 have J:g<w2.heap.size:=(how.lt g rfl).2
 have Z:(SynP.Vy free k).length=k:=by rw[E,List.length_map,List.length_drop];omega
 by_cases h0:k=0
 ·have T:kids=[]:=List.eq_nil_of_length_eq_zero (by omega)
  have O:SynP.Vy free k=[]:=List.eq_nil_of_length_eq_zero (by omega);rw[O,T];subst h0;exact(Tryz.slices_Equal_int_empty ko ap kcap 0 d (w2.drewN q) (by omega)).mono fun e w' ⟨h1,h2⟩=>⟨h1,0,h2⟩
 ·obtain rfl:=hap h0
  obtain⟨ao,a0,H,-,-,U⟩:=hkl;simp only[Value.slice.injEq]at H;obtain⟨rfl,-,rfl⟩:=H;obtain⟨gk,rfl,I,h⟩:=U (by omega);refine(Tryz.slices_Equal_int gk 0 k kcap g M k d kids (SynP.Vy free k) (w2.drewN q) (by omega) (by omega) (by omega) (by omega) (fun j hj=> ?_) (fun j hj=> ?_)).mono fun e w' ⟨h1,h2⟩=>⟨h1.trans ?_,h2⟩
  ·rw[(Xt w2 q).cell (p:=⟨gk,0+j,none⟩) (Nat.lt_of_lt_of_le I hB),Nat.zero_add,h j kids[j] (List.getElem?_eq_getElem hj)]
   simp[List.getD_eq_getElem?_getD,List.getElem?_eq_getElem hj]
  ·have K:M+j<free.length:=by omega
   rw[(Xt w2 q).cell (p:=⟨g,M+j,none⟩) J,how.cellAt (M+j) (by omega),E];simp[ints,List.getD_eq_getElem?_getD,List.getElem?_eq_getElem K]
  ·rw[List.take_of_length_le (by omega),List.take_of_length_le (by omega)]
   congr 2;rw[Bool.eq_iff_iff,beq_iff_eq,decide_eq_true_eq]
theorem Bk {l:List SynP.NI}{w w6:World}{r:Bool}{i M gg cap6:Nat}{free:List Nat}(hg:SynP.Xk SynP.WV l.length (i+1) (free.take M++[i]) (l.drop (i+1))=r)
  (hown:w6.ownsRow w.heap.size 3 1 (.slice (some ⟨gg,0,none⟩) (M+1) cap6) (M+1) (ints (free.take M)++[.int .i64 ((i:Nat):Int)])) (hb:Below w.heap.size w w6) (hi:i+1<=l.length) (hM:M<=i) (hMf:M<=free.length):
  GrO l w r (.slice (some ⟨gg,0,none⟩) (M+1) cap6) (.int .i64 ((i+1:Nat):Int)) w6:=by
 have e:(free.take M++[i]).length=M+1:=by rw[List.length_append,List.length_take];simp;omega
 refine⟨i+1,free.take M++[i],hi,rfl,by rw[e];omega,hg,?_,hb⟩;rw[e]
 have e2:ints (free.take M++[i])=ints (free.take M)++[.int .i64 ((i:Nat):Int)]:=by simp[ints]
 rw[e2];exact hown
theorem By (v:Value)(l:List SynP.NI)(w:World)(B:Nat)(hl:l.length<=4096)(hwt:∀x∈l,∀kv w',Below w.heap.size w w'->Calls Tryz.prog 101 #[.agg #[.int .i64 x.op,.string ⟨x.text.toArray⟩,kv]] w' (Uw x.op x.text w'))(hv:NdL w B v l)(hB:B<=w.heap.size):
  Calls Tryz.prog 50 #[v] w fun e w'=>e=.returned (.bool (SynP.Xk SynP.WV l.length 0 [] l))/\Below w.heap.size w w':=by
 obtain⟨i0,hi0,hz0,hz1,hz02⟩:=info_parts Tryz.infoInt;have HV:=zq hv;have HWT:=zq hwt;obtain⟨ao,cap,rfl,hnc,hcm,-⟩:=hv;obtain⟨n,hn⟩:=xq l.length;obtain⟨r,hr⟩:=xq (SynP.Xk SynP.WV l.length 0 [] l);have HR:=zq hr;rw[<-hr];rw[<-hn]at hl hnc ⊢;have HN:=zq hn;clear hn hr hwt hcm;go_enter Tryz.func50,Tryz.ntmps50;go_wp2_with fail;go_loopw [3,9] (fun fv iv wr=>GrO l w r fv iv wr) (fun _ iv _=>n-(intOf iv).toNat)
 case atStart=>exact⟨0,[],Nat.zero_le _,rfl,Nat.zero_le _,HR.o.symm,⟨rfl,.inl ⟨rfl,rfl⟩⟩,Below.refl _ _⟩
 case round=>
  obtain⟨i,free,hi,rfl,hfi,hg,hown,hb⟩:=hrel;rw[<-HN.o]at hi hg;have HG:=zq hg;have HOW:=zq hown;have HB:=zq hb;have hzb:=hb.size;have HVR:=zq (HV.o.below (hb.mono hB));obtain⟨fo,fcap,rfl,f1,f2,f3⟩:=Qm hown;obtain⟨N,hNe⟩:=xq free.length;rw[<-hNe]at hfi f1 HOW ⊢;have HNe:=zq hNe;clear hg hown hb f3 hNe;by_cases hlt:i<n
  ·obtain⟨x,hx⟩:∃x,l[i]?=some x:=⟨_,List.getElem?_eq_getElem (by rw[<-HN.o];exact hlt)⟩
   have HG2:Hid (SynP.Xk SynP.WV n i free (x::l.drop (i+1))=r):=by
    show _=_;rw[<-HG.o];congr 1;obtain⟨h1,h2⟩:=List.getElem?_eq_some_iff.1 hx;rw[List.drop_eq_getElem_cons h1,h2]
   have HWX:=zq (HWT.o x (List.mem_of_getElem? hx));obtain⟨ao2,cap2,he,-,-,hc⟩:=HVR.o
   cases he
   obtain⟨gt,rfl,hgt,hcell⟩:=hc (by rw[<-HN.o];omega);obtain⟨e0,e1,kv,e2,hkl⟩:=hcell i x hx;have HKL:=zq hkl;obtain⟨ko,kcap,rfl,k1,k2,k3⟩:=hkl;obtain⟨op,text,kids⟩:=x;simp only at e0 e1 e2 HWX HKL k1 k2 k3;obtain⟨k,hke⟩:=xq kids.length;rw[<-hke]at e2 k1 HKL;obtain⟨T,hT⟩:=xq (⟨text.toArray⟩:ByteArray);rw[<-hT]at e1;have HTT:=zq hT;have HKE:=zq hke;clear hc hcell hx hT hke k3;obtain⟨w1,hw1⟩:=xq (wr.alloc (.cells #[.int .i64 op,.string T,.slice ko k kcap] 43))
   have hb1:Below wr.heap.size wr w1:=by rw[hw1];exact Qq _ _
   have hg1:w1.heap[wr.heap.size]?=some (.cells #[.int .i64 op,.string T,.slice ko k kcap] 43 (0,0)):=by rw[hw1];exact heap_alloc_new _ _
   have hzw1:w1.heap.size=wr.heap.size+1:=by rw[hw1];simp
   have d0:w1.cell? ⟨wr.heap.size,0,none⟩=some (.int .i64 op):=by rw[cell_of_row _ _ 0 _ _ _ hg1];rfl
   have d1:w1.cell? ⟨wr.heap.size,1,none⟩=some (.string T):=by rw[cell_of_row _ _ 1 _ _ _ hg1];rfl
   have d2:w1.cell? ⟨wr.heap.size,2,none⟩=some (.slice ko k kcap):=by rw[cell_of_row _ _ 2 _ _ _ hg1];rfl
   have HB1:=zq hb1;have HGB:=zq hg1;have hbw1:Below w.heap.size w w1:=HB.o.trans (hb1.mono hzb);have HBW1:=zq hbw1;have HWC:=zq (HWX.o (.slice ko k kcap) w1 hbw1);rw[<-HTT.o]at HWC;clear hb1 hg1 hbw1 HV;have hA:∃b c:Bool,SynP.Gn op=b/\((((i:Nat):Int)==((n:Nat):Int)-1)=c)/\(i+1==n)=c:=⟨_,_,rfl,rfl,by rw[Bool.eq_iff_iff];simp;omega⟩;obtain⟨b,c,ha1,ha2,ha3⟩:=hA;have HA1:=zq ha1;have HA3:=zq ha3;clear ha1 ha3;by_cases hbc:b=c
   ·
    subst hbc
    cases hcn:SynP.cnt op k with
    |false=>
     have HCN:=zq hcn
     have hF:Hid (r=false):=by show _=_;rw[<-HG2.o];refine Pj ?_;unfold SynP.Wo;simp only;rw[<-HKE.o,HCN.o];simp
     clear hcn
     cases b
     all_goals
      go_wp2_with fail;rw[<-hw1];clear hw1;refine(U3 op _).mono ?_;rintro e w2 ⟨rfl,rfl⟩;rw[HA1.o];go_wp2_with fail;refine(Si op k _).mono ?_;rintro e w2 ⟨rfl,rfl⟩;rw[HCN.o];go_wp2_with fail;go_ret
      exact⟨by rw[hF.o];rfl,HBW1.o⟩
    |true=>
     have HCN:=zq hcn;clear hcn;by_cases hkN:N<k
     ·have hF:Hid (r=false):=by show _=_;rw[<-HG2.o];refine Pj ?_;unfold SynP.Wo;simp only;rw[<-HKE.o,<-HNe.o,decide_eq_true hkN];simp
      have hdk:decide (((N:Nat):Int)<((k:Nat):Int))=true:=decide_eq_true (by omega)
      cases b
      all_goals
       go_wp2_with fail;rw[<-hw1];clear hw1;refine(U3 op _).mono ?_;rintro e w2 ⟨rfl,rfl⟩;rw[HA1.o];go_wp2_with fail;refine(Si op k _).mono ?_;rintro e w2 ⟨rfl,rfl⟩;rw[HCN.o];go_wp2_with fail;go_ret;exact⟨by rw[hF.o];rfl,HBW1.o⟩
     ·have hdk:decide (((N:Nat):Int)<((k:Nat):Int))=false:=decide_eq_false (by omega)
      cases hwv:SynP.WV op text with
      |false=>
       have HWV:=zq hwv
       have hF:Hid (r=false):=by show _=_;rw[<-HG2.o];refine Pj ?_;unfold SynP.Wo;simp only;rw[HWV.o];simp
       clear hwv
       cases b
       all_goals
        go_wp2_with fail;rw[<-hw1];clear hw1;refine(U3 op _).mono ?_;rintro e w2 ⟨rfl,rfl⟩;rw[HA1.o];go_wp2_with fail;refine(Si op k _).mono ?_;rintro e w2 ⟨rfl,rfl⟩;rw[HCN.o];go_wp2_with fail;refine HWC.o.mono ?_;rintro e w2 ⟨rfl,hb2⟩;rw[HWV.o];have HB2:=zq (Qj HBW1.o hb2);clear hb2;go_wp2_with fail;go_ret
        exact⟨by rw[hF.o];rfl,HB2.o⟩
      |true=>
       have HWV:=zq hwv
       have hST:Hid (SynP.Wo SynP.WV n i free ⟨op,text,kids⟩=true):=by
        show _=_;unfold SynP.Wo;simp only;rw[HWV.o,<-HKE.o,HCN.o,<-HNe.o,HA1.o,HA3.o,decide_eq_false hkN];simp
       clear hwv
       cases b
       all_goals
        go_wp2_with fail;rw[<-hw1];clear hw1;refine(U3 op _).mono ?_;rintro e w2 ⟨rfl,rfl⟩;rw[HA1.o];go_wp2_with fail;refine(Si op k _).mono ?_;rintro e w2 ⟨rfl,rfl⟩;rw[HCN.o];go_wp2_with fail;refine HWC.o.mono ?_;rintro e w2 ⟨rfl,hb2⟩;rw[HWV.o];have hg2:=(hb2.block wr.heap.size (by omega)).trans HGB.o
        have c2:w2.cell? ⟨wr.heap.size,2,none⟩=some (.slice ko k kcap):=by rw[cell_of_row _ _ 2 _ _ _ hg2];rfl
        have hbr2:Below wr.heap.size wr w2:=Qj HB1.o hb2;have HB2:=zq (HB.o.trans (hbr2.mono hzb));have HOW2:=zq (Ql HOW.o hbr2 (Nat.le_refl _));have HKL2:=zq (HKL.o.below (hbr2.mono (Nat.le_trans hB hzb)));have hz2:w.heap.size<=w2.heap.size:=Nat.le_trans hzb hbr2.size;obtain⟨M,hM⟩:∃M,N=M+k:=⟨N-k,by omega⟩;have HMM:=zq hM
        have hsub:((N:Nat):Int)-((k:Nat):Int)=((M:Nat):Int):=by omega
        have hlen:N-M=k:=by omega
        have hMN:M<=N:=by omega
        clear hb2 hg2 hbr2 hM d0 d1 d2;rcases HOW2.o.2 with ⟨he,hN0⟩|⟨g,fc,cur,he,hg1,-,hfc,hfm,-,-⟩
        ·cases he
         have hk0:k=0:=by omega
         have hM0:M=0:=by omega
         subst hk0;subst hM0;have hkn:kids=[]:=List.eq_nil_of_length_eq_zero HKE.o.symm
         have HG3:Hid (SynP.Xk SynP.WV n (i+1) (free.take 0++[i]) (l.drop (i+1))=r):=by
          show _=_;rw[<-HG2.o,Bw hST.o (by subst hkn;simp[SynP.Vy])];subst hkn;rw[show free.length-([]:List Int).length=0 from by have h0:free.length=0:=HNe.o.symm;rw[h0];rfl]
         have HTV:Hid (w2.ownsRow w.heap.size 3 1 (.slice none 0 0) 0 (ints (free.take 0))):=⟨rfl,.inl ⟨rfl,rfl⟩⟩
         have HOWQ:Hid (∀q,(Value.slice none 0 0).ownBlock=some q->w.heap.size<=q):=fun q hq=>by cases hq
         have HQ:Hid (∀w3,Calls Tryz.prog 102 #[.slice ko 0 kcap,.slice none 0 0] w3 fun e w'=>e=.returned (.bool true)/\w'=w3):=fun w3=>Tryz.slices_Equal_int_empty ko none kcap 0 0 w3 (by omega);go_wp2_with fail;go_quiet ((go_at_call 102;exact Calls.quiet_of_same (HQ.o _)));obtain⟨w4,hw4⟩:=xq (w2.drewN nq)
         have HB4:Hid (Below w.heap.size w w4):=by show Below _ _ _;rw[hw4];exact Qj HB2.o (Xt w2 nq)
         have HT4:Hid (w4.ownsRow w.heap.size 3 1 (.slice none 0 0) 0 (ints (free.take 0))):=by show World.ownsRow _ _ _ _ _ _ _;rw[hw4];exact Ql HTV.o (Xt w2 nq) (Nat.le_refl _)
         have hz4:w.heap.size<=w4.heap.size:=HB4.o.size;rw[<-hw4];clear hw4;go_wp2_with (at_builtin;refine wpList_append_lies _ rfl _ _ 41 rfl w.heap.size 3 i0 (.int .i64 0) 1 8 Tryz.underlying41 hi0 hz0 hz1 hz02 rfl (by omega) (.slice none 0 0) 0 (ints (free.take 0)) rfl (HT4.o.alloc _) ⟨w4.heap.size,0,none⟩ 1 1 [.int .i64 ((i:Nat):Int)] rfl rfl (LexP.Qc _ _ _ _ rfl) (by simp[Value.oneCell']) (by omega) (by unfold maxLen;omega) (by omega) (by simp;omega) (w4.heap.size+1) (by simp) ?_);intro gg cap6 w6 hown6 hgrow6 hat6 hlt6;have HB6:Hid (Below w.heap.size w w6):=Kb (HB4.o.alloc hz4 _) hgrow6 (fun q hq=>HOWQ.o q hq);have HF6:Hid (GrO l w r (.slice (some ⟨gg,0,none⟩) (0+1) cap6) (.int .i64 ((i+1:Nat):Int)) w6):=Bk (HN.o ▸ HG3.o) hown6 HB6.o (by rw[<-HN.o];omega) (by omega) (HNe.o ▸ by omega);clear hown6 hgrow6 hat6 hlt6;go_wp2_with fail
         have hm6:n-(intOf (.int .i64 (((i:Nat):Int)+1))).toNat<n-(intOf (.int .i64 ((i:Nat):Int))).toNat:=by simp[intOf];omega
         have hi1:(((i+1:Nat):Int))=((i:Nat):Int)+1:=by omega
         rw[hi1]at HF6;exact⟨HF6.o,hm6⟩
        ·cases he
         obtain⟨ap,happ⟩:∃ap,(if fcap=M then some (⟨g,0,none⟩:Addr) else some ⟨g,M,none⟩)=ap:=⟨_,rfl⟩
         have HQ:Hid (∀q d,Calls Tryz.prog 102 #[.slice ko k kcap,.slice ap k d] (w2.drewN q) fun e w'=>e=.returned (.bool (decide (kids=SynP.Vy free k)))/\ ∃m,w'=(w2.drewN q).drewN m):=
          fun q d=>Qxj HKE.o HNe.o HMM.o HKL2.o (Nat.le_trans hB hz2) HOW2.o (by omega) (fun h0=>by rw[<-happ];exact if_neg (by omega)) q d
         have HTV:Hid (w2.ownsRow w.heap.size 3 1 (.slice (some ⟨g,0,none⟩) M fcap) M (ints (free.take M))):=by
          show World.ownsRow _ _ _ _ _ _ _;rw[<-Qvu];exact D6 HOW2.o hMN
         have hs0:(0:Int)<=((M:Nat):Int):=by omega
         have hs1:((M:Nat):Int)<=((N:Nat):Int):=by omega
         have hs2:((N:Nat):Int)<=((fcap:Nat):Int):=by omega
         have hwM:IntKind.i64.wrap ((M:Nat):Int)=((M:Nat):Int):=IntWalk.i64_in _ (by omega)
         have HOWQ:Hid (∀q,(Value.slice (some ⟨g,0,none⟩) M fcap).ownBlock=some q->w.heap.size<=q):=fun q hq=>by cases hq;exact hg1
         by_cases hkq:kids=SynP.Vy free k
         ·have HG3:Hid (SynP.Xk SynP.WV n (i+1) (free.take M++[i]) (l.drop (i+1))=r):=by
           show _=_;rw[<-HG2.o,Bw hST.o (by simp only;rw[<-HKE.o];exact hkq)];rw[show free.length-kids.length=M by rw[<-HKE.o,<-HNe.o];have:=HMM.o;omega]
          rw[decide_eq_true hkq]at HQ;clear hkq;go_wp2_with fail;go_quiet ((go_at_call 102;exact Calls.quiet_of (HQ.o _ _)));obtain⟨w4,hw4⟩:=xq (w2.drewN nq)
          have HB4:Hid (Below w.heap.size w w4):=by show Below _ _ _;rw[hw4];exact Qj HB2.o (Xt w2 nq)
          have HT4:Hid (w4.ownsRow w.heap.size 3 1 (.slice (some ⟨g,0,none⟩) M fcap) M (ints (free.take M))):=by show World.ownsRow _ _ _ _ _ _ _;rw[hw4];exact Ql HTV.o (Xt w2 nq) (Nat.le_refl _)
          have hz4:w.heap.size<=w4.heap.size:=HB4.o.size;rw[<-hw4];clear hw4;go_wp2_with (at_builtin;refine wpList_append_lies _ rfl _ _ 41 rfl w.heap.size 3 i0 (.int .i64 0) 1 8 Tryz.underlying41 hi0 hz0 hz1 hz02 rfl (by omega) (.slice (some ⟨g,0,none⟩) M fcap) M (ints (free.take M)) rfl (HT4.o.alloc _) ⟨w4.heap.size,0,none⟩ 1 1 [.int .i64 ((i:Nat):Int)] rfl rfl (LexP.Qc _ _ _ _ rfl) (by simp[Value.oneCell']) (by omega) (by unfold maxLen;omega) (by omega) (by simp;omega) (w4.heap.size+1) (by simp) ?_);intro gg cap6 w6 hown6 hgrow6 hat6 hlt6;have HB6:Hid (Below w.heap.size w w6):=Kb (HB4.o.alloc hz4 _) hgrow6 (fun q hq=>HOWQ.o q hq);have HF6:Hid (GrO l w r (.slice (some ⟨gg,0,none⟩) (M+1) cap6) (.int .i64 ((i+1:Nat):Int)) w6):=Bk (HN.o ▸ HG3.o) hown6 HB6.o (by rw[<-HN.o];omega) (by omega) (HNe.o ▸ by omega);clear hown6 hgrow6 hat6 hlt6;go_wp2_with fail
          have hm6:n-(intOf (.int .i64 (((i:Nat):Int)+1))).toNat<n-(intOf (.int .i64 ((i:Nat):Int))).toNat:=by simp[intOf];omega
          have hi1:(((i+1:Nat):Int))=((i:Nat):Int)+1:=by omega
          rw[hi1]at HF6;exact⟨HF6.o,hm6⟩
         ·have hF:Hid (r=false):=by
           show _=_;rw[<-HG2.o,Qxy (by simp only;rw[<-HKE.o];exact hkq)]
          rw[decide_eq_false hkq]at HQ;clear hkq;go_wp2_with fail;go_quiet ((go_at_call 102;exact Calls.quiet_of (HQ.o _ _)));go_wp2_with fail;go_ret;exact⟨by rw[hF.o];rfl,Qj HB2.o (Xt w2 nq)⟩
   ·have hF:Hid (r=false):=by
     show _=_;rw[<-HG2.o];refine Pj ?_;unfold SynP.Wo;simp only;rw[HA1.o,HA3.o]
     cases b<;>cases c<;>first|exact absurd rfl hbc|simp
    cases b<;>cases c<;>first|exact absurd rfl hbc|skip
    all_goals
     go_wp2_with fail;rw[<-hw1];clear hw1;refine(U3 op _).mono ?_;rintro e w2 ⟨rfl,rfl⟩;rw[HA1.o];go_wp2_with fail;go_ret;exact⟨by rw[hF.o];rfl,HBW1.o⟩
  ·obtain rfl:i=n:=by omega
   have HF:Hid (r=(N==1)):=by show _=_;rw[<-HG.o,HN.o,List.drop_length,HNe.o];rfl
   have hN1:(((N:Nat):Int)==1)=(N==1):=by rw[Bool.eq_iff_iff];simp;omega
   clear hlt;go_wp2_with fail;go_ret;exact⟨by rw[HF.o];rfl,HB.o⟩
theorem Fi (v:Value)(l:List SynP.NI)(w:World)(B:Nat)(hl:l.length<=4096)(ht:∀x∈l,x.text.length<=67108864)(hv:NdL w B v l)(hB:B<=w.heap.size)(hx:Lx w)(hs:SG w)(hsz:4<w.heap.size):
  Calls Tryz.prog 50 #[v] w fun e w'=>e=.returned (.bool (SynP.Xk SynP.WV l.length 0 [] l))/\Below w.heap.size w w':=
 By v l w B hl (fun x hx' kv w' hb=>Qqf x.op x.text kv w' (ht x hx') (hx.below hb) (hs.below hb hsz) (Nat.lt_of_lt_of_le hsz hb.size)) hv hB
def Ky (n:SynP.Ln)(w:World)(e:Ending)(w':World):Prop:=
 (if 100<n.dp then e=.returned (.tuple #[.string .empty,.int .i64 5]) else e=.returned (.tuple #[.string ⟨n.pr.toArray⟩,.int .i64 0]))/\Below w.heap.size w w'
theorem WrS.new (w:World)(tv:Value):WrS (w.alloc (.cells #[tv,.pointer none,.slice none 0 0,.int .i64 0,.int .i64 0] 92)) w.heap.size tv (.slice none 0 0) [] 0 0:=
 ⟨⟨.pointer none,.inl rfl,heap_alloc_new _ _⟩,⟨rfl,.inl ⟨rfl,rfl⟩⟩,Nat.le_refl _⟩
theorem Au (n:SynP.Ln)(v:Value)(w:World)(B:Nat)(hm4:n.size<=4096)(hprl:n.pr.length<=67108864)(hln:LnOk n)(hgr:SynP.Xk SynP.WV (SynP.nL n.flat).length 0 [] (SynP.nL n.flat)=true)
  (hc:Calls Tryz.prog 50 #[v] w fun e w'=>e=.returned (.bool (SynP.Xk SynP.WV (SynP.nL n.flat).length 0 [] (SynP.nL n.flat)))/\Below w.heap.size w w') (hv:NdL w B v (SynP.nL n.flat)) (hB:B<=w.heap.size):
  Calls Tryz.prog 14 #[v] w (Ky n w):=by
 have hlen:(SynP.nL n.flat).length=n.size:=by rw[SynP.nL,List.length_map,Rq]
 have hm0:0<n.size:=by cases n<;>simp[SynP.Ln.size]
 have HC:=zq hc;have HG:=zq hgr;have HV:=zq hv;have HF:=zq hprl;have HLN:=zq hln;have HL:=zq hlen;obtain⟨ao,cap,rfl,-⟩:=hv;rw[hlen]at HC HV ⊢;rw[hlen]at HG;obtain⟨m,hmm⟩:=xq n.size;rw[<-hmm]at hm4 hm0 HC HV HG HL ⊢;have HMM:=zq hmm
 have hm1:((m:Nat):Int)-1=((m-1:Nat):Int):=by omega
 have HM1:=zq hm1;clear hmm hprl hln hgr hc hlen hm1;go_enter Tryz.func14,Tryz.ntmps14;go_wp2_with fail;refine HC.o.mono ?_;rintro e w1 ⟨rfl,hb⟩;rw[HG.o];have HB1:=zq hb;have hz1:=hb.size;clear hb;go_wp2_with fail;obtain⟨w2,hw2⟩:=xq (w1.alloc (.cells #[.slice ao m cap,.pointer none,.slice none 0 0,.int .i64 0,.int .i64 0] 92))
 have HW2:Hid (WrS w2 w1.heap.size (.slice ao m cap) (.slice none 0 0) [] 0 0):=by show WrS _ _ _ _ _ _ _;rw[hw2];exact WrS.new _ _
 have HBB:Hid (Below w1.heap.size w1 w2):=by show Below _ _ _;rw[hw2];exact Qq _ _
 rw[<-hw2,HM1.o];clear hw2;obtain⟨R,hR⟩:=xq w1.heap.size;rw[<-hR]at HW2 HBB hz1 ⊢;have HR:=zq hR;clear hR;have HND:Hid (NdL w2 R (.slice ao m cap) (SynP.nL n.flat)):=(HV.o.up (HB1.o.mono hB) (by omega)).below HBB.o;rw[HMM.o];refine(HLN.o (SynP.nL n.flat) R (.slice ao m cap) (.slice none 0 0) [] 0 0 w2 HW2.o HND.o (SynP.SegN.all _) (by have:=HF.o;simp;omega) (by have:=HMM.o;omega)).mono ?_;rintro e w3 ⟨rfl,bv,a1,a2,-⟩;have HA1:=zq a1
 have HB3:Hid (Below w.heap.size w w3):=by
  refine Wr.belowR (R:=R) a2 ?_ hz1;exact HB1.o.trans (HBB.o.mono hz1)
 obtain⟨-,-,c4⟩:=a1.cells
 have hmx:max 0 (0+n.dp)=n.dp:=by omega
 rw[hmx]at c4;clear a1 a2 hmx;by_cases hd:100<n.dp
 ·have hd2:decide ((100:Int)<(n.dp:Nat))=true:=decide_eq_true (by omega)
  have HD:=zq hd;clear hd;go_wp2_with fail;go_ret2;unfold Ky;rw[if_pos HD.o];exact⟨rfl,HB3.o⟩
 ·have hd2:decide ((100:Int)<(n.dp:Nat))=false:=decide_eq_false (by omega)
  have HD:=zq hd;clear hd;go_wp2_with fail;refine(Qqo R (.slice ao m cap) bv _ _ _ w3 HA1.o).mono ?_;rintro e w4 ⟨rfl,hb4⟩;have HB4:=zq (HB3.o.trans (hb4.mono hz1));clear hb4;go_wp2_with fail;go_ret2;unfold Ky;rw[if_neg HD.o];exact⟨rfl,HB4.o⟩
theorem Qx2 (n:SynP.Ln)(v:Value)(w:World)(B:Nat)(hf:LnFit n)(hv:NdL w B v (SynP.nL n.flat))(hB:B<=w.heap.size)(hx:Lx w)(hs:SG w)(hsz:4<w.heap.size):
  Calls Tryz.prog 14 #[v] w (Ky n w):=
 Au n v w B hf.size hf.prl (Qhv n) (Ft hf.wf) (Fi v (SynP.nL n.flat) w B (by rw[SynP.nL,List.length_map,Rq];exact hf.size) hf.txt hv hB hx hs hsz) hv hB
theorem Qv5 (l:List SynP.NI)(v:Value)(w:World)(B:Nat)(h:l.length<=4096)(hg:SynP.Xk SynP.WV l.length 0 [] l=false)(ht:∀x∈l,x.text.length<=67108864)(hv:NdL w B v l)(hB:B<=w.heap.size)(hx:Lx w)(hs:SG w)(hsz:4<w.heap.size):
  Calls Tryz.prog 14 #[v] w fun e w'=>e=.returned (.tuple #[.string .empty,.int .i64 10])/\Below w.heap.size w w':=by
 have HC:=zq (Fi v l w B h ht hv hB hx hs hsz);have HG:=zq hg;obtain⟨ao,cap,rfl,-⟩:=hv;obtain⟨m,hm⟩:=xq l.length;rw[<-hm]at h HC HG ⊢;clear hm hg ht hx hs;go_enter Tryz.func14,Tryz.ntmps14;go_wp2_with fail;refine HC.o.mono ?_;rintro e w1 ⟨rfl,hb⟩;rw[HG.o];have HB1:=zq hb;clear hb;go_wp2_with fail;go_ret2;exact⟨rfl,HB1.o⟩
end Go.Proofs.YtgfmiladfeoldaaGreatDoor
