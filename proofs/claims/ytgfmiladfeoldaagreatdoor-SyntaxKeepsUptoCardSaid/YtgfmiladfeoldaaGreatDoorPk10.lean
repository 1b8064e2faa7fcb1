import Derived.Test.YtgfmiladfeoldaaGreatDoorPk6
import Derived.Test.YtgfmiladfeoldaaGreatDoorPk7
import Derived.Test.YtgfmiladfeoldaaGreatDoorPk8
set_option linter.unusedSimpArgs false
set_option linter.unusedVariables false
set_option maxRecDepth 100000
set_option maxHeartbeats 16000000
namespace Go.Proofs.YtgfmiladfeoldaaGreatDoor
open Go.RowKit NatP LexP
theorem Wr.weak {R:Nat}{w w':World}(h:Wr R none w w')(og:Option Nat):Wr R og w w':=⟨h.os,h.tape,h.output,h.size,fun k hk hR _=>h.block k hk hR (by simp)⟩
def KR (w:World)(R:Nat)(og:Option Nat)(v:Value)(ks:List Nat):Prop:=∃ao cap,v=.slice ao ks.length cap/\ks.length<=cap/\cap<=maxLen/\(∀q,v.ownBlock=some q->R<q/\q<w.heap.size/\og≠some q)/\(0<ks.length-> ∃g,ao=some ⟨g,0,none⟩/\ ∀j k,ks[j]?=some k->w.cell? ⟨g,j,none⟩=some (.int .i64 (k:Nat)))/\w.ownsRow 0 3 1 v ks.length (ks.map fun n=> .int .i64 (n:Nat))
theorem Zf {w w':World}{b:Nat}{e:TypeId}{z:Nat}{v:Value}{n:Nat}{xs:List Value}(h:w.ownsRow b e z v n xs)(hk:∀g,v.ownBlock=some g->g<w.heap.size->w'.heap[g]?=w.heap[g]?):w'.ownsRow b e z v n xs:=by
 refine⟨h.1,?_⟩;rcases h.2 with O|⟨g,I,J,rfl,K,E,H⟩
 ·exact .inl O
 ·exact .inr ⟨g,I,J,rfl,K,(hk g rfl (Array.getElem?_eq_some_iff.1 E).1).trans E,H⟩
theorem Tm {w:World}{b b':Nat}{e:TypeId}{z:Nat}{v:Value}{n:Nat}{xs:List Value}(h:w.ownsRow b e z v n xs)(hk:∀g,v.ownBlock=some g->b'<=g):w.ownsRow b' e z v n xs:=by
 refine⟨h.1,?_⟩;rcases h.2 with J|⟨g,H,I,rfl,K,E⟩
 ·exact .inl J
 ·exact .inr ⟨g,H,I,rfl,hk g rfl,E⟩
theorem KR.wr {w w':World}{R:Nat}{og og':Option Nat}{v:Value}{ks:List Nat}(h:KR w R og v ks)(hw:Wr R og w w')(hm:Mv w og og'):KR w' R og' v ks:=by
 obtain⟨ao,H,rfl,J,K,E,O,U⟩:=h;refine⟨ao,H,rfl,J,K,fun q hq=>⟨(E q hq).1,Nat.lt_of_lt_of_le (E q hq).2.1 hw.size,fun e=> ?_⟩,fun h0=> ?_,Zf U fun q hq hl=>hw.block q hl (by have:=(E q hq).1;omega) fun e=>(E q hq).2.2 e.symm⟩
 ·rcases hm q e with h|h
  ·exact(E q hq).2.2 h
  ·have:=(E q hq).2.1;omega
 ·obtain⟨g,rfl,T⟩:=O h0
  have I:=E g rfl;exact⟨g,rfl,fun j k hj=>(World.cell?_of_block (hw.block g I.2.1 (by omega) (fun e=>I.2.2 e.symm))).trans (T j k hj)⟩
abbrev Nv:=SynP.Node×Value
def Yw (l:List Nv):List Value:=l.flatMap fun p=>[.int .i64 (p.1.op:Nat),.string ⟨p.1.text.toArray⟩,p.2]
theorem Az (a b:List Nv):Yw (a++b)=Yw a++Yw b:=by simp[Yw]
def TkR (w:World)(R:Nat)(v:Value)(L:List Tok):Prop:=∃ao cap,v=.slice ao L.length cap/\L.length<=cap/\cap<=maxLen/\(0<L.length-> ∃g,ao=some ⟨g,0,none⟩/\g<R/\ ∀j t,L[j]?=some t->w.cell? ⟨g,j*3,none⟩=some (.int .i64 (t.1:Nat))/\w.cell? ⟨g,j*3+1,none⟩=some (.string ⟨t.2.1.toArray⟩)/\w.cell? ⟨g,j*3+2,none⟩=some (.int .i64 (t.2.2:Nat)))
theorem TkR.wr {w w':World}{R:Nat}{og:Option Nat}{v:Value}{L:List Tok}(h:TkR w R v L)(hw:Wr R og w w')(hR:R<w.heap.size)(ho:∀q,og=some q->R<q):TkR w' R v L:=by
 obtain⟨ao,I,rfl,J,K,O⟩:=h;refine⟨ao,I,rfl,J,K,fun h0=> ?_⟩;obtain⟨g,rfl,T,E⟩:=O h0;have H:=hw.block g (by omega) (by omega) (fun e=>by have:=ho g e.symm;omega);exact⟨g,rfl,T,fun j t hj=>⟨(World.cell?_of_block H).trans (E j t hj).1,(World.cell?_of_block H).trans (E j t hj).2.1,(World.cell?_of_block H).trans (E j t hj).2.2⟩⟩
def Qmc (t:Tok):Prop:=t.1=1->Tg t.2.1/\0<t.2.1.length/\t.2.1.length<=67108864/\Zr t.2.1=false
structure RS (w:World) (R:Nat) (lv:Value) (L:List Tok) (fin:Nat) (a:Nat) (s:SynP.St) (nv:Value) (ns:List Nv):Prop where
 blk:w.heap[R]?=some (.cells #[lv,.int .i64 (a:Nat),.int .i64 (fin:Nat),.int .i64 (s.opened:Nat),nv] 85 (0,0))
 tks:TkR w R lv L
 drop:L.drop a=s.ts
 le:a<=L.length
 own:w.ownsRow (R+1) 43 3 nv ns.length (Yw ns)
 kids:∀p∈ns,KR w R nv.ownBlock p.2 p.1.kids
 apart:∀(i j:Nat) (p q:Nv) (k:Nat),ns[i]?=some p->ns[j]?=some q->p.2.ownBlock=some k->q.2.ownBlock=some k->i=j
 few:ns.length+s.ts.length<=134217728
 deep:s.opened<=100
 short:L.length<=67108864
 sum:(L.map fun t=>t.2.1.length+1).sum<=201326592
 good:∀t∈L,Qmc t
 sg:SG w
 sgl:4<R
theorem RS.lt {w:World}{R:Nat}{lv:Value}{L:List Tok}{fin a:Nat}{s:SynP.St}{nv:Value}{ns:List Nv}(h:RS w R lv L fin a s nv ns):R<w.heap.size:=(Array.getElem?_eq_some_iff.1 h.blk).1
theorem RS.gt {w:World}{R:Nat}{lv:Value}{L:List Tok}{fin a:Nat}{s:SynP.St}{nv:Value}{ns:List Nv}(h:RS w R lv L fin a s nv ns):∀q,nv.ownBlock=some q->R<q:=fun q hq=>by have:=h.own.lt q hq;omega
theorem RS.cells {w:World}{R:Nat}{lv:Value}{L:List Tok}{fin a:Nat}{s:SynP.St}{nv:Value}{ns:List Nv}(h:RS w R lv L fin a s nv ns):
  w.cell? ⟨R,0,none⟩=some lv/\w.cell? ⟨R,1,none⟩=some (.int .i64 (a:Nat))/\w.cell? ⟨R,2,none⟩=some (.int .i64 (fin:Nat))/\w.cell? ⟨R,3,none⟩=some (.int .i64 (s.opened:Nat))/\w.cell? ⟨R,4,none⟩=some nv:=by
 refine⟨?_,?_,?_,?_,?_⟩<;>rw[cell_of_row w R _ _ _ _ h.blk]<;>rfl
theorem RS.fro {w:World}{R:Nat}{lv:Value}{L:List Tok}{fin a:Nat}{s:SynP.St}{nv:Value}{ns:List Nv}(h:RS w R lv L fin a s nv ns)(o:Nat):w.frozen? ⟨R,o,none⟩=false:=frozen_of_row w R o _ _ h.blk
theorem RS.below {w w':World}{R:Nat}{lv:Value}{L:List Tok}{fin a:Nat}{s:SynP.St}{nv:Value}{ns:List Nv}(h:RS w R lv L fin a s nv ns)(hb:Below w.heap.size w w'):RS w' R lv L fin a s nv ns where
 blk:=(hb.block R h.lt).trans h.blk
 tks:=h.tks.wr (Wr.of_below (R:=R) (og:=nv.ownBlock) hb) h.lt h.gt
 drop:=h.drop
 le:=h.le
 own:=h.own.kept (row:=none) ⟨hb.os,hb.tape,hb.output,hb.size,fun k hk _=>hb.block k hk⟩ (by cases nv.ownBlock<;>simp)
 kids:=fun p hp=>(h.kids p hp).wr (Wr.of_below hb) (Mv.refl _ _)
 apart:=h.apart
 few:=h.few
 deep:=h.deep
 short:=h.short
 sum:=h.sum
 good:=h.good
 sg:=h.sg.below hb (Nat.lt_trans h.sgl h.lt)
 sgl:=h.sgl
theorem RS.setN {w:World}{R:Nat}{lv:Value}{L:List Tok}{fin a:Nat}{s:SynP.St}{nv:Value}{ns:List Nv}(h:RS w R lv L fin a s nv ns)(o:Nat)(u:Value)(a':Nat)(s':SynP.St)
  (hb:(#[lv,.int .i64 (a:Nat),.int .i64 (fin:Nat),.int .i64 (s.opened:Nat),nv]:Array Value).setIfInBounds o u= #[lv,.int .i64 (a':Nat),.int .i64 (fin:Nat),.int .i64 (s'.opened:Nat),nv])
  (hd:L.drop a'=s'.ts) (hl:a'<=L.length) (hf:ns.length+s'.ts.length<=134217728) (hp:s'.opened<=100):
  RS (w.setCell ⟨R,o,none⟩ u) R lv L fin a' s' nv ns/\Wr R none w (w.setCell ⟨R,o,none⟩ u):=by
 have E:=heap_setCell_same w R o #[lv,.int .i64 (a:Nat),.int .i64 (fin:Nat),.int .i64 (s.opened:Nat),nv] 85 u h.blk;have H:=Wr.of_set (R:=R) (og:=nv.ownBlock) w o u;refine⟨⟨E.trans (by rw[hb]),h.tks.wr H h.lt h.gt,hd,hl,ownsRow_setCell_below h.own (by simp) _,fun p hp=>(h.kids p hp).wr H (Mv.refl _ _),h.apart,hf,hp,h.short,h.sum,h.good,h.sg.wr H (Nat.ne_of_lt h.sgl) (fun e=>by have:=h.gt _ e;have:=h.sgl;omega),h.sgl⟩,Wr.of_set w o u⟩
theorem RS.reset {w w':World}{R:Nat}{lv:Value}{L:List Tok}{fin a:Nat}{s:SynP.St}{nv:Value}{ns:List Nv}(h:RS w R lv L fin a s nv ns)(hw:Wr R none w w'){a':Nat}{s':SynP.St}
  (hb:w'.heap[R]?=some (.cells #[lv,.int .i64 (a':Nat),.int .i64 (fin:Nat),.int .i64 (s'.opened:Nat),nv] 85 (0,0))) (hd:L.drop a'=s'.ts) (hl:a'<=L.length) (hf:ns.length+s'.ts.length<=134217728) (hp:s'.opened<=100):
  RS w' R lv L fin a' s' nv ns where
 blk:=hb
 tks:=h.tks.wr hw h.lt (fun q hq=>by cases hq)
 drop:=hd
 le:=hl
 own:=by
  refine⟨h.own.1,?_⟩;rcases h.own.2 with hn|⟨g,cap,cur,rfl,hb,hgg,rest⟩
  ·exact .inl hn
  ·exact .inr ⟨g,cap,cur,rfl,hb,(hw.block g (Array.getElem?_eq_some_iff.1 hgg).1 (by omega) (by simp)).trans hgg,rest⟩
 kids:=fun p hp=>(h.kids p hp).wr (hw.weak _) (Mv.refl _ _)
 apart:=h.apart
 few:=hf
 deep:=hp
 short:=h.short
 sum:=h.sum
 good:=h.good
 sg:=h.sg.wr hw (Nat.ne_of_lt h.sgl) (by simp)
 sgl:=h.sgl
theorem below_drewN (w:World)(n:Nat):Below w.heap.size w (w.drewN n):=⟨rfl,rfl,rfl,Nat.le_refl _,fun _ _=>rfl⟩
theorem Jw (R:Nat)(lv:Value)(L:List Tok)(fin a:Nat)(s:SynP.St)(nv:Value)(ns:List Nv)(w:World)(h:RS w R lv L fin a s nv ns):
  Calls Tryz.prog 55 #[.pointer (some ⟨R,0,none⟩)] w fun e w'=>e=.returned (.bool (decide (s.ts=[])))/\Below w.heap.size w w':=by
 have H:=zq h;obtain⟨c0,c1,-,-,-⟩:=h.cells;obtain⟨ao,cap,rfl,t1,t2,-⟩:=h.tks
 have hd:decide (L.length<=a)=decide (s.ts=[]):=by
  rw[<-h.drop];simp
 have HD:=zq hd;clear hd;clear h;go_enter Tryz.func55,Tryz.ntmps55;go_wp2_with fail;go_region;go_wp2_with fail;go_ret;exact⟨by rw[<-HD.o];rfl,⟨rfl,rfl,rfl,Nat.le_refl _,fun _ _=>rfl⟩⟩
theorem Qze (R:Nat)(lv:Value)(L:List Tok)(fin a:Nat)(ts:List Tok)(w:World)(c0:w.cell? ⟨R,0,none⟩=some lv)(c1:w.cell? ⟨R,1,none⟩=some (.int .i64 (a:Nat)))(c2:w.cell? ⟨R,2,none⟩=some (.int .i64 (fin:Nat)))(tks:TkR w R lv L)(hdr:L.drop a=ts)(hle:a<=L.length):
  Calls Tryz.prog 109 #[.pointer (some ⟨R,0,none⟩)] w fun e w'=>e=.returned (.int .i64 (SynP.Te fin ts:Nat))/\Below w.heap.size w w':=by
 obtain⟨ao,cap,rfl,t1,t2,t3⟩:=tks;by_cases hn:a<L.length
 ·obtain⟨g,rfl,hg,hc⟩:=t3 (by omega)
  obtain⟨t,ht⟩:∃t,L[a]?=some t:=⟨_,List.getElem?_eq_getElem hn⟩;obtain⟨-,-,d2⟩:=hc a t ht
  have HCOL:Hid (SynP.Te fin ts=t.2.2):=by
   show _=_;rw[<-hdr,List.drop_eq_getElem?_toList_append,ht];rfl
  clear hc t3 hdr;go_enter Tryz.func109,Tryz.ntmps109;go_wp2_with fail;go_region;go_wp2_with fail;go_region;go_wp2_with fail;go_ret;exact⟨by rw[HCOL.o];rfl,⟨rfl,rfl,rfl,Nat.le_refl _,fun _ _=>rfl⟩⟩
 ·have HCOL:Hid (SynP.Te fin ts=fin):=by
   show _=_;rw[<-hdr,List.drop_eq_nil_of_le (by omega)];rfl
  clear t3 hdr;go_enter Tryz.func109,Tryz.ntmps109;go_wp2_with fail;go_region;go_wp2_with fail;go_ret;exact⟨by rw[HCOL.o];rfl,⟨rfl,rfl,rfl,Nat.le_refl _,fun _ _=>rfl⟩⟩
theorem Qyr (R:Nat)(lv:Value)(L:List Tok)(fin a:Nat)(s:SynP.St)(nv:Value)(ns:List Nv)(w:World)(h:RS w R lv L fin a s nv ns):
  Calls Tryz.prog 109 #[.pointer (some ⟨R,0,none⟩)] w fun e w'=>e=.returned (.int .i64 (SynP.Te fin s.ts:Nat))/\Below w.heap.size w w':=
 Qze R lv L fin a s.ts w h.cells.1 h.cells.2.1 h.cells.2.2.1 h.tks h.drop h.le
def Up (i kind:Nat)(x:Qx)(ts:List Tok):Bool:=match ts.drop i with|(k,t,_)::_=>k==kind && (kind !=3||t==x)| []=>false
theorem Kl (x:Qx)(ts:List Tok):Up 0 3 x ts=SynP.Qk x ts:=by
 cases ts with
 |nil=>rfl
 |cons t l=>obtain⟨k,t,c⟩:=t;simp[Up,SynP.Qk]
theorem Zt (x:Qx)(ts:List Tok):Up 1 3 x ts=SynP.Qk x ts.tail:=by
 cases ts with
 |nil=>rfl
 |cons t l=>rw[<-Kl];rfl
theorem Xv (k:Nat)(x:Qx)(ts:List Tok)(hk:k≠3):Up 0 k x ts=SynP.Qb k ts:=by
 cases ts with
 |nil=>rfl
 |cons t l=>obtain⟨j,t,c⟩:=t;simp[Up,SynP.Qb,hk]
theorem Below.drew2 {B:Nat}{w w':World}(h:Below B w w'):Below B w w'.drew.drew:=⟨h.os,h.tape,h.output,h.size,h.block⟩
theorem Qa (R : Nat) (lv : Value) (L : List Tok) (fin a : Nat) (s : SynP.St) (nv : Value) (ns : List Nv) (w : World) (h : RS w R lv L fin a s nv ns) (i kind : Nat) (x : Qx) (hi : i ≤ 1) (hk : kind ≤ 3) :
    Calls Tryz.prog 94 #[.pointer (some ⟨R, 0, none⟩), .int .i64 (i : Nat), .int .i64 (kind : Nat), .string ⟨x.toArray⟩] w fun e w' => e = .returned (.bool (Up i kind x s.ts)) ∧ Below w.heap.size w w' := by
  have H := zq h
  obtain ⟨c0, c1, -, -, -⟩ := h.cells
  obtain ⟨ao, cap, rfl, t1, t2, t3⟩ := h.tks
  have hle := h.le
  have hsh := h.short
  by_cases hn : a + i < L.length
  · obtain ⟨g, rfl, hg, hc⟩ := t3 (by omega)
    obtain ⟨t, ht⟩ : ∃ t, L[a + i]? = some t := ⟨_, List.getElem?_eq_getElem hn⟩
    obtain ⟨d0, d1, d2⟩ := hc (a + i) t ht
    obtain ⟨tk, tt, tc⟩ := t
    have HC : Hid (Up i kind x s.ts = (tk == kind && (kind != 3 || tt == x))) := by
      show _ = _
      unfold Up
      rw [← h.drop, List.drop_drop, List.drop_eq_getElem?_toList_append, ht]; rfl
    have hRl := h.lt
    have hgl : g < w.heap.size := by omega
    obtain ⟨m, hm⟩ : ∃ m, m = a + i := ⟨_, rfl⟩
    have E1 : IntKind.i64.wrap ((a : Int) + (i : Int)) = (m : Int) := by rw [hm]; exact (IntWalk.i64_in _ (by omega)).trans (by omega)
    have E2 : (a : Int) + (i : Int) = (m : Int) := by omega
    rw [← hm] at d0 d1 d2 hn
    have HMM := zq hm
    clear h hc t3 ht hm
    go_enter Tryz.func94, Tryz.ntmps94
    go_wp2_with fail
    go_region
    go_wp2_with fail
    go_region
    go_wp2_with fail
    all_goals
      go_ret
      refine ⟨?_, Below.drew2 (Qq _ _)⟩
      rw [HC.o]
      show Ending.returned (Value.bool _) = Ending.returned (Value.bool _)
      congr 2
      first
        | (have q1 : tk = kind := by omega
           have q2 : kind = 3 := by omega
           subst q1; subst q2; simp)
        | (have q1 : tk = kind := by omega
           have q2 : kind ≠ 3 := by omega
           subst q1; simp [q2])
        | (have q1 : tk ≠ kind := by omega
           simp [q1])
  · have HC : Hid (Up i kind x s.ts = false) := by
      show _ = _
      unfold Up
      rw [← h.drop, List.drop_drop, List.drop_eq_nil_of_le (by omega)]
    have hRl := h.lt
    obtain ⟨m, hm⟩ : ∃ m, m = a + i := ⟨_, rfl⟩
    have E1 : IntKind.i64.wrap ((a : Int) + (i : Int)) = (m : Int) := by rw [hm]; exact (IntWalk.i64_in _ (by omega)).trans (by omega)
    have E2 : (a : Int) + (i : Int) = (m : Int) := by omega
    rw [← hm] at hn
    have HMM := zq hm
    clear h t3 hm
    go_enter Tryz.func94, Tryz.ntmps94
    go_wp2_with fail
    go_region
    go_wp2_with fail
    go_ret
    exact ⟨by rw [HC.o]; rfl, ⟨rfl, rfl, rfl, Nat.le_refl _, fun _ _ => rfl⟩⟩
theorem Zl (R:Nat)(lv:Value)(L:List Tok)(fin a:Nat)(s:SynP.St)(nv:Value)(ns:List Nv)(w:World)(h:RS w R lv L fin a s nv ns)(x:Qx):
  Calls Tryz.prog 168 #[.pointer (some ⟨R,0,none⟩),.string ⟨x.toArray⟩] w fun e w'=>e=.returned (.bool (SynP.Qk x s.ts))/\Below w.heap.size w w':=by
 have H:=zq h;clear h;go_enter Tryz.func168,Tryz.ntmps168;go_wp2_with fail;refine(Qa R lv L fin a s nv ns _ H.o 0 3 x (by omega) (by omega)).mono ?_;rintro e w1 ⟨rfl,hb⟩;rw[Kl];have HB:=zq hb;clear hb;go_wp2_with fail;go_ret;exact⟨rfl,HB.o⟩
def Qh2 (R:Nat)(lv:Value)(L:List Tok)(fin a:Nat)(s:SynP.St)(nv:Value)(ns:List Nv)(x:Qx)(w:World)(e:Ending)(w':World):Prop:=
 e=.returned (.bool (SynP.Qk x s.ts))/\Wr R none w w'/\(if SynP.Qk x s.ts then RS w' R lv L fin (a+1) s.adv nv ns else RS w' R lv L fin a s nv ns)
theorem P7 {L ts:List Tok}{a:Nat}(h:L.drop a=ts)(h0:ts≠[]):L.drop (a+1)=ts.tail/\a+1<=L.length/\ts.tail.length+1=ts.length:=by
 subst h;refine⟨by rw[List.tail_drop],?_,?_⟩
 ·rcases Nat.lt_or_ge a L.length with h|h
  ·exact h
  ·exact absurd (List.drop_eq_nil_of_le h) h0
 ·rw[List.length_tail]
  have:=List.length_pos_iff.2 h0;omega
theorem Ur {x:Qx}{ts:List Tok}(h:SynP.Qk x ts=true):ts≠[]:=fun e=>by subst e;cases h
theorem Vw {k:Nat}{ts:List Tok}(h:SynP.Qb k ts=true):ts≠[]:=fun e=>by subst e;cases h
theorem RS.adv {w:World}{R:Nat}{lv:Value}{L:List Tok}{fin a:Nat}{s:SynP.St}{nv:Value}{ns:List Nv}(h:RS w R lv L fin a s nv ns)(h0:s.ts≠[]):
  RS (w.setCell ⟨R,1,none⟩ (.int .i64 ((a+1:Nat):Int))) R lv L fin (a+1) s.adv nv ns/\Wr R none w (w.setCell ⟨R,1,none⟩ (.int .i64 ((a+1:Nat):Int))):=by
 obtain⟨q1,q2,q3⟩:=P7 h.drop h0;exact h.setN 1 _ (a+1) s.adv (by simp[SynP.St.adv]) q1 q2 (by have:=h.few;show ns.length+s.ts.tail.length<=_;omega) h.deep
theorem Yv (R:Nat)(lv:Value)(L:List Tok)(fin a:Nat)(s:SynP.St)(nv:Value)(ns:List Nv)(w:World)(h:RS w R lv L fin a s nv ns)(x:Qx):
  Calls Tryz.prog 159 #[.pointer (some ⟨R,0,none⟩),.string ⟨x.toArray⟩] w (Qh2 R lv L fin a s nv ns x w):=by
 have H:=zq h;have hle:=h.le;have hsh:=h.short;clear h
 cases hm:SynP.Qk x s.ts with
 |false=>
  have HM:=zq hm;clear hm;go_enter Tryz.func159,Tryz.ntmps159;go_wp2_with fail;refine(Zl R lv L fin a s nv ns _ H.o x).mono ?_;rintro e w1 ⟨rfl,hb⟩;rw[HM.o];have HB:=zq hb;clear hb;go_wp2_with fail;go_ret
  exact⟨by rw[HM.o];rfl,Wr.of_below HB.o,by rw[if_neg (by rw[HM.o];decide)];exact H.o.below HB.o⟩
 |true=>
  have HM:=zq hm;clear hm;go_enter Tryz.func159,Tryz.ntmps159;go_wp2_with fail;refine(Zl R lv L fin a s nv ns _ H.o x).mono ?_;rintro e w1 ⟨rfl,hb⟩;rw[HM.o];have HB:=zq hb;have HS:=zq (H.o.below hb);have c1:=HS.o.cells.2.1;have f1:=HS.o.fro 1;clear hb;go_wp2_with fail;go_ret;obtain⟨g1,g2⟩:=HS.o.adv (Ur HM.o);exact⟨by rw[HM.o];rfl,(Wr.of_below HB.o).trans (Mv.refl _ _) g2,by rw[if_pos HM.o];exact g1⟩
def T7 (c k:Nat):Ending:=.panicked [{v:=.iface 81 (.agg #[.int .i64 (c:Nat),.int .i64 (k:Nat)]),recovered:=false}]
theorem J8 (R:Nat)(lv:Value)(L:List Tok)(fin a:Nat)(s:SynP.St)(nv:Value)(ns:List Nv)(w:World)(h:RS w R lv L fin a s nv ns):
  Calls Tryz.prog 56 #[.pointer (some ⟨R,0,none⟩)] w fun e w'=>e=T7 (SynP.Te fin s.ts) 14/\Below w.heap.size w w':=by
 have H:=zq h;clear h;go_enter Tryz.func56,Tryz.ntmps56;go_wp2_with fail;refine(Qyr R lv L fin a s nv ns _ H.o).mono ?_;rintro e w1 ⟨rfl,hb⟩;have HB:=zq hb;clear hb;go_wp2_with fail;exact⟨rfl,rfl,HB.o⟩
def RB {α:Type}(r:SynP.PR α)(R:Nat)(lv:Value)(L:List Tok)(fin:Nat)(s:SynP.St)(nv:Value)(ns:List Nv)(Q:α->Value->World->Prop)(w:World)(e:Ending)(w':World):Prop:=
 match r with
 |none=>False
 |some (.error (c,k))=>e=T7 c k/\Wr R none w w'
 |some (.ok (x,s'))=> ∃v a',e=.returned v/\RS w' R lv L fin a' s' nv ns/\Wr R none w w'/\s'.ts.length<=s.ts.length/\Q x v w'
theorem Jy (s:SynP.St):s.adv.ts.length<=s.ts.length:=by
 show s.ts.tail.length<=_;rw[List.length_tail];omega
theorem Wv (R:Nat)(lv:Value)(L:List Tok)(fin a:Nat)(s:SynP.St)(nv:Value)(ns:List Nv)(w:World)(h:RS w R lv L fin a s nv ns)(x:Qx):
  Calls Tryz.prog 96 #[.pointer (some ⟨R,0,none⟩),.string ⟨x.toArray⟩] w (RB (SynP.want fin x s) R lv L fin s nv ns (fun _ v _=>v=.tuple #[]) w):=by
 have H:=zq h;clear h
 cases hm:SynP.Qk x s.ts with
 |false=>
  have HM:=zq hm;clear hm;go_enter Tryz.func96,Tryz.ntmps96;go_wp2_with fail;refine(Yv R lv L fin a s nv ns _ H.o x).mono ?_;rintro e w1 ⟨rfl,b1,b2⟩;rw[if_neg (by rw[HM.o];decide)]at b2;rw[HM.o];have HB1:=zq b1;have HB2:=zq b2;clear b1 b2;go_wp2_with fail;refine(J8 R lv L fin a s nv ns _ HB2.o).mono ?_;rintro e w2 ⟨rfl,b3⟩;have HB3:=zq b3;clear b3;refine⟨rfl,?_⟩;unfold SynP.want;rw[if_neg (by rw[HM.o];decide)]
  exact⟨rfl,HB1.o.trans (Mv.refl _ _) (Wr.of_below HB3.o)⟩
 |true=>
  have HM:=zq hm;clear hm;go_enter Tryz.func96,Tryz.ntmps96;go_wp2_with fail;refine(Yv R lv L fin a s nv ns _ H.o x).mono ?_;rintro e w1 ⟨rfl,b1,b2⟩;rw[if_pos HM.o]at b2;rw[HM.o];have HB1:=zq b1;have HB2:=zq b2;clear b1 b2;go_wp2_with fail;go_end0;show RB (SynP.want fin x s) _ _ _ _ _ _ _ _ _ _ _;unfold SynP.want;rw[if_pos HM.o];exact⟨_,_,rfl,HB2.o,HB1.o,Jy s,rfl⟩
theorem Pc (R:Nat)(lv:Value)(L:List Tok)(fin a:Nat)(s:SynP.St)(nv:Value)(ns:List Nv)(w:World)(h:RS w R lv L fin a s nv ns):
  Calls Tryz.prog 95 #[.pointer (some ⟨R,0,none⟩)] w (RB (SynP.name fin s) R lv L fin s nv ns (fun x v _=>v=.string ⟨x.toArray⟩) w):=by
 have H:=zq h;have hc:=Xv 2 [] s.ts (by decide)
 cases hm:SynP.Qb 2 s.ts with
 |false=>
  rw[hm]at hc;have HM:=zq hm;have HC:=zq hc;clear hm hc h;go_enter Tryz.func95,Tryz.ntmps95;go_wp2_with fail;refine(Qa R lv L fin a s nv ns _ H.o 0 2 [] (by omega) (by omega)).mono ?_;rintro e w1 ⟨rfl,b1⟩;rw[HC.o];have HB1:=zq b1;clear b1;go_wp2_with fail;refine(J8 R lv L fin a s nv ns _ (H.o.below HB1.o)).mono ?_;rintro e w2 ⟨rfl,b3⟩;refine⟨rfl,?_⟩;unfold SynP.name;rw[if_neg (by rw[HM.o];decide)]
  exact⟨rfl,(Wr.of_below HB1.o).trans (Mv.refl _ _) (Wr.of_below b3)⟩
 |true=>
  rw[hm]at hc;obtain⟨c0,c1,-,-,-⟩:=h.cells;obtain⟨ao,cap,rfl,t1,t2,t3⟩:=h.tks;have hsh:=h.short;obtain⟨p1,p2,p3⟩:=P7 h.drop (Vw hm)
  have hn:a<L.length:=by omega
  obtain⟨g,rfl,hg,hcl⟩:=t3 (by omega);obtain⟨t,ht⟩:∃t,L[a]?=some t:=⟨_,List.getElem?_eq_getElem hn⟩;obtain⟨d0,d1,d2⟩:=hcl a t ht
  have hx:SynP.Xl s.ts=t.2.1:=by rw[<-h.drop,List.drop_eq_getElem?_toList_append,ht];rfl
  have hRl:=h.lt;have HM:=zq hm;have HC:=zq hc;have HX:=zq hx;have C0:=zq c0;have C1:=zq c1;have D1:=zq d1;obtain⟨tk,tt,tc⟩:=t;clear hm hc h t3 hcl ht hx c0 c1 d0 d1 d2 p1 p2 p3;go_enter Tryz.func95,Tryz.ntmps95;go_wp2_with fail;refine(Qa R _ L fin a s nv ns _ H.o 0 2 [] (by omega) (by omega)).mono ?_;rintro e w1 ⟨rfl,b1⟩;rw[HC.o];have HB1:=zq b1;have HS1:=zq (H.o.below b1);have e0:=HS1.o.cells.1;have e1:=HS1.o.cells.2.1;have e2:w1.cell? ⟨g,a*3+1,none⟩=some (.string ⟨tt.toArray⟩):=(b1.cell (p:=⟨g,a*3+1,none⟩) (by show g<_;omega)).trans D1.o;have f1:=HS1.o.fro 1;have HS2:=zq (H.o.below (b1.trans ((below_drewN w1 1).mono b1.size)));clear b1;go_wp2_with fail;go_region;go_wp2_with fail;go_ret;obtain⟨g1,g2⟩:=HS2.o.adv (Vw HM.o);unfold SynP.name;rw[if_pos HM.o,HX.o];exact⟨_,_,rfl,g1,(Wr.of_below HB1.o).trans (Mv.refl _ _) (((Wr.of_below (below_drewN w1 1))).trans (Mv.refl _ _) g2),Jy s,rfl⟩
def CanL (L n:Nat):Prop:=n<BB^L/\(0<L->BB^(L-1)<=n)
theorem CanL.zero {L n:Nat}(h:CanL L n):L=0↔n=0:=by
 obtain⟨E,H⟩:=h;constructor
 ·intro e
  subst e;rw[Nat.pow_zero]at E;omega
 ·intro e
  subst e;apply Nat.eq_zero_of_not_pos;intro I;have J:=H I;have K:0<BB^(L-1):=Nat.pow_pos Xf;omega
theorem CanL.uniq {L M n:Nat}(h:CanL L n)(k:CanL M n):L=M:=by
 have E:∀{L M:Nat},CanL L n->CanL M n-> ¬L<M:=by
  intro L M h k H;have I:=k.2 (by omega);have J:BB^L<=BB^(M-1):=Nat.pow_le_pow_right Xf (by omega);have K:=h.1;omega
 have a:=E h k;have b:=E k h;omega
theorem CanL.of {xs:List Nat}(hok:ok xs)(hs:Qy xs=xs):CanL xs.length (val xs):=by
 refine⟨Yk hok,fun h=> ?_⟩;obtain⟨m,J⟩:∃m,xs.length=m+1:=⟨xs.length-1,by omega⟩;obtain⟨d,E,K⟩:=Vf xs m (by rw[hs];exact J);rw[hs]at E;obtain⟨I,H⟩:=List.getElem?_eq_some_iff.1 E;rw[show xs.length-1=m by omega,Xm xs m (by omega),List.drop_eq_getElem_cons I,H];show BB^m<=val (xs.take m)+BB^m*(d+BB*val (xs.drop (m+1)));have O:BB^m*1<=BB^m*(d+BB*val (xs.drop (m+1))):=Nat.mul_le_mul_left _ (by omega);omega
def NFr (B:Nat)(w:World)(v:Value)(n:Nat):Prop:=NRd w v n/\(∀q,v.ownBlock=some q->B<=q/\q<w.heap.size)/\CanL (lenOf v) n
theorem NFr.wr {B R:Nat}{og:Option Nat}{w w':World}{v:Value}{n:Nat}(h:NFr B w v n)(hw:Wr R og w w')(hR:R<B)(ho:∀q,og=some q->q<B):NFr B w' v n:=by
 obtain⟨⟨xs,H,I,J⟩,E,K⟩:=h;exact⟨⟨xs,H.wr hw (fun q hq=>⟨by have:=E q hq;omega,fun e=>by have:=E q hq;have:=ho q e;omega⟩),I,J⟩,fun q hq=>⟨(E q hq).1,Nat.lt_of_lt_of_le (E q hq).2 hw.size⟩,K⟩
theorem NFr.mono {B B':Nat}{w:World}{v:Value}{n:Nat}(h:NFr B w v n)(hb:B'<=B):NFr B' w v n:=⟨h.1,fun q hq=>⟨Nat.le_trans hb (h.2.1 q hq).1,(h.2.1 q hq).2⟩,h.2.2⟩
theorem Qqy (t:Qx):SynP.U1 t<10^t.length:=by
 have H:(digs (t.filter NumP.Xz)).length<=t.length:=by
  rw[digs,List.length_map];exact List.length_filter_le _ _
 have I:∀x∈digs (t.filter NumP.Xz),x<10:=by
  intro x E;simp only[digs,List.mem_map]at E;obtain⟨c,J,rfl⟩:=E;have h:=(List.mem_filter.1 J).2;unfold NumP.Xz at h;simp at h;omega
 exact Nat.lt_of_lt_of_le (U8 I) (Nat.pow_le_pow_right (by omega) H)
def NFo (B:Nat)(w:World)(v:Value)(n:Nat):Prop:=NFr B w v n/\ ∃xs:List Nat,xs.length<=67108864/\w.ownsRow 0 101 1 v xs.length (ws xs)
theorem NFo.wr {B R:Nat}{og:Option Nat}{w w':World}{v:Value}{n:Nat}(h:NFo B w v n)(hw:Wr R og w w')(hR:R<B)(ho:∀q,og=some q->q<B):NFo B w' v n:=by
 obtain⟨E,xs,I,H⟩:=h;exact⟨E.wr hw hR ho,xs,I,Zf H fun q hq hlt=>hw.block q hlt (by have:=(E.2.1 q hq).1;omega) fun e=>by have:=(E.2.1 q hq).1;have:=ho q e.symm;omega⟩
theorem NFo.set {B R:Nat}{w:World}{v:Value}{n:Nat}(h:NFo B w v n)(hR:R<B)(o:Nat)(u:Value):NFo B (w.setCell ⟨R,o,none⟩ u) v n:=
 h.wr (og:=none) (Wr.of_set w o u) hR (fun q hq=>by cases hq)
theorem NFo.mono {B B':Nat}{w:World}{v:Value}{n:Nat}(h:NFo B w v n)(hb:B'<=B):NFo B' w v n:=⟨h.1.mono hb,h.2⟩
theorem RB.imp {α:Type}{r:SynP.PR α}{R:Nat}{lv:Value}{L:List Tok}{fin:Nat}{s:SynP.St}{nv:Value}{ns:List Nv}{Q Q':α->Value->World->Prop}{w w':World}{e:Ending}(h:RB r R lv L fin s nv ns Q w e w')(hq:∀x v w',Q x v w'->Q' x v w'):RB r R lv L fin s nv ns Q' w e w':=by
 unfold RB at h ⊢;split at h
 ·exact h.elim
 ·exact h
 ·obtain⟨v,a,E,H,I,J,K⟩:=h
  exact⟨v,a,E,H,I,J,hq _ _ _ K⟩
theorem Ao (t:Qx)(w:World)(h1:Tg t)(h2:0<t.length)(h3:t.length<=67108864)(h4:Zr t=false):
  Calls Tryz.prog 167 #[.string ⟨t.toArray⟩] w fun e w'=> ∃v,e=.returned (.tuple #[v,.int .i64 0])/\NFo w.heap.size w' v (SynP.U1 t)/\Below w.heap.size w w':=by
 refine(Mn ⟨t.toArray⟩ w h3 h2 h1).mono ?_;rintro e w' (⟨h,-,-⟩|⟨-,v,xs,rfl,a1,a2,a3,a4,a5⟩)
 ·exact absurd h (by show ¬Zr t=true;rw[h4];decide)
 ·have a2':NatP.val xs=SynP.U1 t:=a2
  have E:=Nat.le_trans (So a3 (by rw[a2'];exact Qqy t)) h3;refine⟨v,rfl,⟨⟨⟨xs,a1.1,a2',E⟩,a1.2,?_⟩,xs,E,a5⟩,a4⟩;obtain⟨ao,H,rfl,-⟩:=a1.1.2;show CanL xs.length _;rw[<-a2'];exact CanL.of a1.1.ok a3
theorem Mw (R:Nat)(lv:Value)(L:List Tok)(fin a:Nat)(s:SynP.St)(nv:Value)(ns:List Nv)(w:World)(h:RS w R lv L fin a s nv ns):
  Calls Tryz.prog 111 #[.pointer (some ⟨R,0,none⟩)] w (RB (SynP.Qd fin s) R lv L fin s nv ns (fun x v w'=>NFo w.heap.size w' v x) w):=by
 have H:=zq h;have hc:=Xv 1 [] s.ts (by decide)
 cases hm:SynP.Qb 1 s.ts with
 |false=>
  rw[hm]at hc;have HM:=zq hm;have HC:=zq hc;clear hm hc h;go_enter Tryz.func111,Tryz.ntmps111;go_wp2_with fail;refine(Qa R lv L fin a s nv ns _ H.o 0 1 [] (by omega) (by omega)).mono ?_;rintro e w1 ⟨rfl,b1⟩;rw[HC.o];have HB1:=zq b1;clear b1;go_wp2_with fail;refine(J8 R lv L fin a s nv ns _ (H.o.below HB1.o)).mono ?_;rintro e w2 ⟨rfl,b3⟩;refine⟨rfl,?_⟩;unfold SynP.Qd;rw[if_neg (by rw[HM.o];decide)]
  exact⟨rfl,(Wr.of_below HB1.o).trans (Mv.refl _ _) (Wr.of_below b3)⟩
 |true=>
  rw[hm]at hc;obtain⟨c0,c1,-,-,-⟩:=h.cells;obtain⟨ao,cap,rfl,t1,t2,t3⟩:=h.tks;have hsh:=h.short;obtain⟨p1,p2,p3⟩:=P7 h.drop (Vw hm)
  have hn:a<L.length:=by omega
  obtain⟨g,rfl,hg,hcl⟩:=t3 (by omega);obtain⟨t,ht⟩:∃t,L[a]?=some t:=⟨_,List.getElem?_eq_getElem hn⟩;obtain⟨d0,d1,d2⟩:=hcl a t ht
  have hts:s.ts=t::L.drop (a+1):=by rw[<-h.drop,List.drop_eq_getElem?_toList_append,ht];rfl
  have hx:SynP.Xl s.ts=t.2.1:=by rw[hts];rfl
  have ht1:t.1=1:=by
   rw[hts]at hm;obtain⟨tk,tt,tc⟩:=t
   simpa [SynP.Qb] using hm
  have hok:=h.good t (List.mem_of_getElem? ht) ht1;have hRl:=h.lt;have HM:=zq hm;have HC:=zq hc;have HX:=zq hx;have D1:=zq d1;obtain⟨tk,tt,tc⟩:=t;have HOK:=zq hok;clear hm hc h t3 hcl ht hx c0 c1 d0 d1 d2 p1 p2 p3 hok ht1 hts;go_enter Tryz.func111,Tryz.ntmps111;go_wp2_with fail;refine(Qa R _ L fin a s nv ns _ H.o 0 1 [] (by omega) (by omega)).mono ?_;rintro e w1 ⟨rfl,b1⟩;rw[HC.o];have HB1:=zq b1;have HS1:=zq (H.o.below b1);have e0:=HS1.o.cells.1;have e1:=HS1.o.cells.2.1;have e2:w1.cell? ⟨g,a*3+1,none⟩=some (.string ⟨tt.toArray⟩):=(b1.cell (p:=⟨g,a*3+1,none⟩) (by show g<_;omega)).trans D1.o;have hRl1:R<w1.heap.size:=Nat.lt_of_lt_of_le hRl b1.size
  have hgl1:g<w1.heap.size:=by omega
  clear b1;go_wp2_with fail
  go_region_held3 (fun w'=>w'.cell? ⟨R,0,none⟩=some (.slice (some ⟨g,0,none⟩) L.length cap)/\w'.cell? ⟨R,1,none⟩=some (.int .i64 (a:Nat))/\w'.cell? ⟨g,a*3+1,none⟩=some (.string ⟨tt.toArray⟩))
   (first
    |go_keep
    |exact⟨(a2.cell (p:=⟨R,0,none⟩) hRl1).trans e0,(a2.cell (p:=⟨R,1,none⟩) hRl1).trans e1,(a2.cell (p:=⟨g,a*3+1,none⟩) hgl1).trans e2⟩)
   ((go_at_call 167;refine(Ao tt _ HOK.o.1 HOK.o.2.1 HOK.o.2.2.1 HOK.o.2.2.2).mono ?_;rintro e w3 ⟨v3,rfl,a1,a2⟩))
  have A1:=zq a1;have A2:Hid (Below w1.heap.size w1 w3):=(below_drewN w1 1).trans a2;have HS3:=zq (HS1.o.below A2.o);have c1:=HS3.o.cells.2.1;have f1:=HS3.o.fro 1;clear a1 a2 e0 e1 e2;go_wp2_with fail;go_ret;obtain⟨g1,g2⟩:=HS3.o.adv (Vw HM.o);unfold SynP.Qd;rw[if_pos HM.o,HX.o];refine⟨_,_,rfl,g1,(Wr.of_below HB1.o).trans (Mv.refl _ _) (((Wr.of_below A2.o)).trans (Mv.refl _ _) g2),Jy s,?_⟩;exact(NFo.mono (NFo.set (R:=R) A1.o hRl1 1 _) HB1.o.size)
theorem Vh (R:Nat)(lv:Value)(L:List Tok)(fin a:Nat)(s:SynP.St)(nv:Value)(ns:List Nv)(w:World)(h:RS w R lv L fin a s nv ns):
  Calls Tryz.prog 111 #[.pointer (some ⟨R,0,none⟩)] w (RB (SynP.Qd fin s) R lv L fin s nv ns (fun x v w'=>NFr w.heap.size w' v x) w):=
 (Mw R lv L fin a s nv ns w h).mono fun _ _ h=>h.imp fun _ _ _ h=>h.1
theorem Tryz.infoNd:(Tryz.prog.info? 43).map (fun i=>(i.zero,i.size,i.bytes))=some (some (.agg #[.int .i64 0,.string ⟨#[]⟩,.slice none 0 0]),3,48):=by kernel_rfl
def KNew (w:World)(R:Nat)(nv:Value)(ns:List Nv)(v:Value)(ks:List Nat):Prop:=KR w R nv.ownBlock v ks/\ ∀p∈ns,∀q,p.2.ownBlock=some q->v.ownBlock≠some q
theorem RS.put {w w2:World}{R:Nat}{lv:Value}{L:List Tok}{fin a:Nat}{s:SynP.St}{nv:Value}{ns:List Nv}(h:RS w R lv L fin a s nv ns){kv:Value}{nd:SynP.Node}(hk:KNew w R nv ns kv nd.kids)(hf:ns.length+1+s.ts.length<=134217728){gg cap:Nat}
  (hown:w2.ownsRow (R+1) 43 3 (.slice (some ⟨gg,0,none⟩) (ns.length+1) cap) (ns.length+1) (Yw ns++Yw [(nd,kv)])) (hg:w.grownBy w2 nv.ownBlock) (hat:nv.ownBlock=some gg\/gg=w.heap.size):
  RS (w2.setCell ⟨R,4,none⟩ (.slice (some ⟨gg,0,none⟩) (ns.length+1) cap)) R lv L fin a s (.slice (some ⟨gg,0,none⟩) (ns.length+1) cap) (ns++[(nd,kv)])/\Wr R nv.ownBlock w (w2.setCell ⟨R,4,none⟩ (.slice (some ⟨gg,0,none⟩) (ns.length+1) cap))/\Mv w nv.ownBlock (Value.ownBlock (.slice (some ⟨gg,0,none⟩) (ns.length+1) cap)):=by
 have a2:some R≠nv.ownBlock:=fun e=>by have:=h.gt R e.symm;omega
 have hb:=(hg.block R h.lt a2).trans h.blk;have a1:=heap_setCell_same w2 R 4 #[lv,.int .i64 (a:Nat),.int .i64 (fin:Nat),.int .i64 (s.opened:Nat),nv] 85 (.slice (some ⟨gg,0,none⟩) (ns.length+1) cap) hb;have H:Wr R nv.ownBlock w (w2.setCell ⟨R,4,none⟩ (.slice (some ⟨gg,0,none⟩) (ns.length+1) cap)):=(Wr.of_grown hg).trans (Mv.refl _ _) (Wr.of_set w2 4 _)
 have J:Mv w nv.ownBlock (Value.ownBlock (.slice (some ⟨gg,0,none⟩) (ns.length+1) cap)):=by
  intro k hk
  cases hk
  rcases hat with h|h
  ·exact .inl h
  ·exact .inr (Nat.le_of_eq h.symm)
 have I:(ns++[(nd,kv)]).length=ns.length+1:=by simp
 refine⟨⟨a1.trans (by simp),h.tks.wr H h.lt h.gt,h.drop,h.le,?_,?_,?_,by rw[I];exact hf,h.deep,h.short,h.sum,h.good,h.sg.wr H (Nat.ne_of_lt h.sgl) (fun e=>by have:=h.gt _ e;have:=h.sgl;omega),h.sgl⟩,H,J⟩
 ·rw[I,Az]
  exact ownsRow_setCell_below hown (by simp) _
 ·intro p K
  rcases List.mem_append.1 K with K|K
  ·exact(h.kids p K).wr H J
  ·rw[List.mem_singleton.1 K]
   exact hk.1.wr H J
 ·intro i j p q k E hj O T
  have U:∀(i:Nat) (p:Nv),(ns++[(nd,kv)])[i]?=some p->(ns[i]?=some p/\i<ns.length)\/(i=ns.length/\p=(nd,kv)):=by
   intro i p E;by_cases hlt:i<ns.length
   ·rw[List.getElem?_append_left hlt]at E;exact .inl ⟨E,hlt⟩
   ·have:=(List.getElem?_eq_some_iff.1 E).1
    rw[I]at this
    have e:i=ns.length:=by omega
    subst e;rw[List.getElem?_append_right (Nat.le_refl _)]at E;simp at E;exact .inr ⟨rfl,E.symm⟩
  rcases U i p E with ⟨Z,a5⟩|⟨Z,rfl⟩<;>rcases U j q hj with ⟨h2,a6⟩|⟨h2,rfl⟩
  ·exact h.apart i j p q k Z h2 O T
  ·exact absurd T (hk.2 p (List.mem_of_getElem? Z) k O)
  ·exact absurd O (hk.2 q (List.mem_of_getElem? h2) k T)
  ·omega
def PutP (R:Nat)(lv:Value)(L:List Tok)(fin a:Nat)(s:SynP.St)(nv:Value)(ns:List Nv)(nd:SynP.Node)(kv:Value)(w:World)(e:Ending)(w':World):Prop:=
 ∃nv',e=.returned (.int .i64 (ns.length:Nat))/\RS w' R lv L fin a s nv' (ns++[(nd,kv)])/\Wr R nv.ownBlock w w'/\Mv w nv.ownBlock nv'.ownBlock
theorem Y5 (R:Nat)(lv:Value)(L:List Tok)(fin a:Nat)(s:SynP.St)(nv:Value)(ns:List Nv)(w:World)(h:RS w R lv L fin a s nv ns)(nd:SynP.Node)(kv:Value)(hk:KNew w R nv ns kv nd.kids)(hf:ns.length+1+s.ts.length<=134217728):
  Calls Tryz.prog 93 #[.pointer (some ⟨R,0,none⟩),.int .i64 (nd.op:Nat),.string ⟨nd.text.toArray⟩,kv] w (PutP R lv L fin a s nv ns nd kv w):=by
 obtain⟨i0,hi,hz0,hz1,hz2⟩:=info_parts Tryz.infoNd;obtain⟨ko,kcap,hkv,-⟩:=hk.1
 have hnl:ns.length<=134217728:=by omega
 have HK:=zq hk;have HH:=zq h;obtain⟨op,text,kids⟩:=nd;subst hkv;have HA:=zq (Qq w (.cells #[.int .i64 (op:Nat),.string ⟨text.toArray⟩,.slice ko kids.length kcap] 43));have HS:=zq (h.below HA.o);have HKN:Hid (KNew (w.alloc (.cells #[.int .i64 (op:Nat),.string ⟨text.toArray⟩,.slice ko kids.length kcap] 43)) R nv ns (.slice ko kids.length kcap) kids):=⟨hk.1.wr (Wr.of_below HA.o) (Mv.refl _ _),hk.2⟩;have HLT:Hid (R<(w.alloc (.cells #[.int .i64 (op:Nat),.string ⟨text.toArray⟩,.slice ko kids.length kcap] 43)).heap.size):=HS.o.lt
 have HNE:Hid (some R≠nv.ownBlock):=fun e=>by have:=HS.o.gt R e.symm;omega
 have c4:=h.cells.2.2.2.2;have HC4:=zq HS.o.cells.2.2.2.2;have HF4:=zq (HS.o.fro 4);obtain⟨nl,hnle⟩:=xq ns.length;have HNL:=zq hnle;have hsz:=h.lt;rw[<-hnle]at hnl
 have hOWN:(w.alloc (.cells #[.int .i64 (op:Nat),.string ⟨text.toArray⟩,.slice ko kids.length kcap] 43)).ownsRow (R+1) 43 3 nv nl (Yw ns):=by rw[hnle];exact HS.o.own
 have HOWN:=zq hOWN;clear h hk hnle hOWN;go_enter Tryz.func93,Tryz.ntmps93;go_wp2_with (at_builtin;refine wpList_append_lies _ rfl _ _ 23 rfl (R+1) 43 i0 (.agg #[.int .i64 0,.string ⟨#[]⟩,.slice none 0 0]) 3 48 Tryz.underlying23 hi hz0 hz1 hz2 rfl (by omega) nv nl (Yw ns) rfl HOWN.o ⟨w.heap.size,0,none⟩ 1 1 [.int .i64 (op:Nat),.string ⟨text.toArray⟩,.slice ko kids.length kcap] rfl rfl (LexP.Qc _ _ _ _ rfl) (by simp[Value.oneCell']) (by omega) (by unfold maxLen;omega) (by omega) (by have:=HLT.o;simp at this;simp;omega) (w.heap.size+1) (by simp) ?_);intro gg cap w5 hown5 hgrow hat hlt5;have d4:w5.cell? ⟨R,4,none⟩=some nv:=(hgrow.cell_far ⟨R,4,none⟩ HLT.o HNE.o).trans HC4.o;have d5:w5.frozen? ⟨R,4,none⟩=false:=(hgrow.frozen_far ⟨R,4,none⟩ HLT.o HNE.o).trans HF4.o;have HG:=zq (HS.o.put (kv:=.slice ko kids.length kcap) (nd:=⟨op,text,kids⟩) HKN.o hf (gg:=gg) (cap:=cap) (by rw[<-HNL.o];exact hown5) hgrow (by simpa using hat));rw[<-HNL.o]at HG;clear hown5 hgrow hat hlt5;go_wp2_with fail;go_ret;exact⟨_,by rw[<-HNL.o];rfl,HG.o.1,(Wr.of_below HA.o).trans (Mv.refl _ _) HG.o.2.1,fun k hk=>(HG.o.2.2 k hk).imp id (fun h=>Nat.le_trans HA.o.size h)⟩
theorem H7 (R:Nat)(lv:Value)(L:List Tok)(fin a:Nat)(s:SynP.St)(nv:Value)(ns:List Nv)(w:World)(h:RS w R lv L fin a s nv ns)(h0:s.ts≠[]):
  Calls Tryz.prog 267 #[.pointer (some ⟨R,0,none⟩)] w (RB (SynP.Zu fin s) R lv L fin s nv ns (fun _ v _=>v=.tuple #[]) w):=by
 have H:=zq h;have c3:=h.cells.2.2.2.1;have f3:=h.fro 3;have hsh:=h.short;have hle:=h.le;have hdp:=h.deep;obtain⟨op,hop⟩:=xq s.opened;rw[<-hop]at c3 hdp
 have e1:(((op+1:Nat)):Int)=(op:Int)+1:=by omega
 have HOP:=zq hop;by_cases hlt:100<op+1
 ·have hset:=heap_setCell_same w R 3 #[lv,.int .i64 (a:Nat),.int .i64 (fin:Nat),.int .i64 (s.opened:Nat),nv] 85 (.int .i64 ((op:Int)+1)) h.blk
  have hw:Wr R none w (w.setCell ⟨R,3,none⟩ (.int .i64 ((op:Int)+1))):=Wr.of_set w 3 _
  have hcl:∀(o:Nat) (u:Value),(#[lv,.int .i64 (a:Nat),.int .i64 (fin:Nat),.int .i64 ((op:Int)+1),nv]:Array Value)[o]?=some u->(w.setCell ⟨R,3,none⟩ (.int .i64 ((op:Int)+1))).cell? ⟨R,o,none⟩=some u:=by
   intro o u hu;rw[cell_of_row _ _ _ _ _ _ hset]
   simpa using hu
  have HC0:=zq (hcl 0 _ rfl);have HC1:=zq (hcl 1 _ rfl);have HC2:=zq (hcl 2 _ rfl);have hc3:=hcl 3 _ rfl;have HT:=zq (h.tks.wr hw h.lt (fun q hq=>by cases hq));have HD:=zq h.drop;have HW:=zq hw
  have hb:(100:Int)<(op:Int)+1:=by omega
  clear h hset hw hcl hop e1;go_enter Tryz.func267,Tryz.ntmps267;go_wp2_with fail;refine(Qze R lv L fin a _ _ HC0.o HC1.o HC2.o HT.o HD.o hle).mono ?_;rintro e w1 ⟨rfl,b1⟩;have HB1:=zq b1;clear b1;go_wp2_with fail;refine⟨rfl,?_⟩;unfold SynP.Zu;rw[if_pos (by rw[<-HOP.o];exact hlt)];exact⟨rfl,HW.o.trans (Mv.refl _ _) (Wr.of_below HB1.o)⟩
 ·have hb: ¬((100:Int)<(op:Int)+1):=by omega
  obtain⟨g1,g2⟩:=h.setN 3 (.int .i64 ((s.opened+1:Nat):Int)) a {s with opened:=s.opened+1} (by simp) h.drop h.le h.few (by show s.opened+1<=_;omega);obtain⟨g3,g4⟩:=g1.adv (s:={s with opened:=s.opened+1}) h0;have hc1:=g1.cells.2.1;have hf1:=g1.fro 1;rw[<-hop,e1]at g1 g2 g3 g4 hc1 hf1;have G1:=zq g1;have G2:=zq g2;have G3:=zq g3;have G4:=zq g4;clear h h0 g1 g2 g3 g4 hop e1;go_enter Tryz.func267,Tryz.ntmps267;go_wp2_with fail;go_end0;unfold SynP.Zu;rw[if_neg (by rw[<-HOP.o];exact hlt),<-HOP.o];exact⟨_,_,rfl,G3.o,G2.o.trans (Mv.refl _ _) G4.o,Jy s,rfl⟩
theorem H8 (R:Nat)(lv:Value)(L:List Tok)(fin a:Nat)(s:SynP.St)(nv:Value)(ns:List Nv)(w:World)(h:RS w R lv L fin a s nv ns)(ho:0<s.opened):
  Calls Tryz.prog 268 #[.pointer (some ⟨R,0,none⟩)] w (RB (SynP.X6 fin s) R lv L fin s nv ns (fun _ v _=>v=.tuple #[]) w):=by
 have H:=zq h;clear h
 cases hm:SynP.Qk [41] s.ts with
 |false=>
  have hw:SynP.want fin [41] s=SynP.unfit fin s:=by unfold SynP.want;rw[if_neg (by rw[hm];decide)]
  have HW:=zq hw;clear hm hw;go_enter Tryz.func268,Tryz.ntmps268;go_wp2_with fail;refine(Wv R lv L fin a s nv ns _ H.o [41]).mono ?_;rintro e w1 hw1;rw[HW.o]at hw1;obtain⟨rfl,b1⟩:=hw1;refine⟨rfl,?_⟩;unfold SynP.X6;rw[HW.o]
  exact⟨rfl,b1⟩
 |true=>
  have hw:SynP.want fin [41] s=SynP.ret () s.adv:=by unfold SynP.want;rw[if_pos hm]
  have HW:=zq hw;clear hm hw;go_enter Tryz.func268,Tryz.ntmps268;go_wp2_with fail;refine(Wv R lv L fin a s nv ns _ H.o [41]).mono ?_;rintro e w1 hw1;rw[HW.o]at hw1;obtain⟨v,a',rfl,b1,b2,b3,rfl⟩:=hw1;have c3:=b1.cells.2.2.2.1;have f3:=b1.fro 3;obtain⟨op,hop⟩:∃op,s.opened=op+1:=⟨s.opened-1,by omega⟩;have e1:s.adv.opened=op+1:=hop;obtain⟨g1,g2⟩:=b1.setN 3 (.int .i64 (op:Int)) a' {s.adv with opened:=op} (by simp) b1.drop b1.le b1.few (by have:=b1.deep;show op<=_;omega);rw[e1]at c3
  have e2:((op+1:Nat):Int)=(op:Int)+1:=by omega
  rw[e2]at c3
  have hd:op<=100:=by have:=b1.deep;omega
  have G1:=zq g1;have G2:=zq g2;have B2:=zq b2;have HOP:=zq hop;clear b1 b2 b3 hop e1 g1 g2 e2 ho;go_wp2_with fail;go_end0;unfold SynP.X6;rw[HW.o];refine⟨_,a',rfl,?_,B2.o.trans (Mv.refl _ _) G2.o,Jy s,rfl⟩
  have e3:s.adv.opened-1=op:=by show s.opened-1=op;rw[HOP.o];omega
  rw[e3];exact G1.o
theorem A9 (v:Value)(n:Nat)(w:World)(h:NRd w v n):
  Calls Tryz.prog 110 #[v] w fun e w'=>e=.returned (.int .i64 (SynP.side n:Nat))/\Below w.heap.size w w':=by
 obtain⟨xs,hr,hv,hl⟩:=h;have HR:=zq hr;obtain⟨ao,cap,rfl,hnc,hcm,hok,hsh⟩:=hr.2;have HB0:=zq (Qq w (.cells #[.int .u64 64] 101));have hblk:Blk (w.alloc (.cells #[.int .u64 64] 101)) w.heap.size [64]:=⟨heap_alloc_new w _,by intro x hx;simp at hx;subst hx;unfold BB;omega⟩;have HR64:=zq (hblk.whole (by simp));have HV:=zq hv
 have h64:NatP.val [64]=64:=by simp[NatP.val]
 obtain⟨ci,hci⟩:=xq (cmpI (NatP.val xs) (NatP.val [64]));have HCI:=zq hci;by_cases hlt:64<n
 ·have hcb:(0:Int)<ci:=by
   rw[hci,h64,hv];unfold cmpI;rw[if_neg (by omega),if_pos (by omega)];decide
  have HS:Hid (SynP.side n=65):=by show _=_;unfold SynP.side;rw[if_pos hlt]
  clear hr hv hok hsh hblk h64 hci hlt;go_enter Tryz.func110,Tryz.ntmps110;go_wp2_with fail;refine(V9 _ _ xs [64] _ (HR.o.below HB0.o) HR64.o).mono ?_;rintro e w1 ⟨rfl,b1⟩;rw[<-HCI.o];have HB1:=zq (HB0.o.trans (b1.mono (by simp)));clear b1;go_wp2_with fail;go_ret;exact⟨by rw[HS.o];rfl,HB1.o⟩
 ·have hcb: ¬((0:Int)<ci):=by
   rw[hci,h64,hv];unfold cmpI;split
   ·decide
   ·first|decide|(rw[if_neg (by omega)];decide)
  have HS:Hid (SynP.side n=n):=by show _=_;unfold SynP.side;rw[if_neg hlt]
  by_cases hx0:xs.length=0
  ·have hx:xs=[]:=List.eq_nil_of_length_eq_zero hx0
   subst hx
   have hn0:n=0:=by rw[<-hv];rfl
   subst hn0;clear hr hv hok hsh hblk h64 hci hlt;go_enter Tryz.func110,Tryz.ntmps110;go_wp2_with fail;refine(V9 _ _ [] [64] _ (HR.o.below HB0.o) HR64.o).mono ?_;rintro e w1 ⟨rfl,b1⟩;rw[<-HCI.o];have HB1:=zq (HB0.o.trans (b1.mono (by simp)));clear b1;go_wp2_with fail;go_ret;exact⟨by rw[HS.o];rfl,HB1.o⟩
  ·obtain⟨x,ys,rfl⟩:∃x ys,xs=x::ys:=by
    cases xs with
    |nil=>exact absurd rfl hx0
    |cons x ys=>exact⟨x,ys,rfl⟩
   have hxn:x=n:=by
    have e:NatP.val (x::ys)=x+BB*NatP.val ys:=rfl;rw[hv]at e;by_cases hy:NatP.val ys=0
    ·rw[hy]at e;omega
    ·have:BB*1<=BB*NatP.val ys:=Nat.mul_le_mul (Nat.le_refl _) (by omega)
     have hbb:64<BB:=by unfold BB;omega
     omega
   subst hxn;obtain⟨g,o,rfl,c0⟩:=hsh 0 x rfl;rw[Nat.add_zero]at c0;have hgl:g<w.heap.size:=hr.lt rfl;have HC0:=zq c0
   have hb0:((((x::ys).length:Nat):Int)==0)=false:=by simp;omega
   have hpos:(0:Int)<(((x::ys).length:Nat):Int):=by simp
   obtain⟨ll,hll⟩:∃ll,ll=(x::ys).length:=⟨_,rfl⟩;rw[<-hll]at hb0 hpos HR ⊢;have HLL:=zq hll;clear hr hv hok hsh hblk h64 hci c0 hll hx0;go_enter Tryz.func110,Tryz.ntmps110;go_wp2_with fail;have hrd:=HR.o.below HB0.o;refine(V9 _ _ (x::ys) [64] _ hrd HR64.o).mono ?_;rintro e w1 ⟨rfl,b1⟩;rw[<-HCI.o];have HB1:=zq (HB0.o.trans (b1.mono (by simp)));have d0:w1.cell? ⟨g,o,none⟩=some (.int .u64 (x:Nat)):=(HB1.o.cell (p:=⟨g,o,none⟩) hgl).trans HC0.o;have hw:IntKind.i64.wrap (x:Int)=(x:Int):=IntWalk.i64_in _ (by omega);clear b1 hrd;go_wp2_with fail;go_ret;exact⟨by rw[HS.o];rfl,HB1.o⟩
def Xd (L:List Tok)(R:Nat)(w:World):Nat:=L.length-(intOf ((w.cell? ⟨R,1,none⟩).getD (.bool false))).toNat
theorem RS.left {w:World}{R:Nat}{lv:Value}{L:List Tok}{fin a:Nat}{s:SynP.St}{nv:Value}{ns:List Nv}(h:RS w R lv L fin a s nv ns):Xd L R w=s.ts.length:=by
 unfold Xd;rw[h.cells.2.1,<-h.drop,List.length_drop];simp[intOf]
theorem Wr.grown0 {R:Nat}{w0 w w':World}{row:Option Nat}(h:Wr R none w0 w)(hg:w.grownBy w' row)(hr:∀q,row=some q->w0.heap.size<=q):Wr R none w0 w':=
 ⟨hg.os.trans h.os,hg.tape.trans h.tape,hg.output.trans h.output,Nat.le_trans h.size hg.size,fun k hk hR ho=>(hg.block k (Nat.lt_of_lt_of_le hk h.size) (fun e=>by have:=hr k e.symm;omega)).trans (h.block k hk hR ho)⟩
theorem RS.loc {w0 w w':World}{R:Nat}{lv:Value}{L:List Tok}{fin a0 a:Nat}{s0 s:SynP.St}{nv:Value}{ns:List Nv}{row:Option Nat}(h0:RS w0 R lv L fin a0 s0 nv ns)(h:RS w R lv L fin a s nv ns)(hw:Wr R none w0 w)(hg:w.grownBy w' row)(hr:∀q,row=some q->w0.heap.size<=q):
  RS w' R lv L fin a s nv ns/\Wr R none w0 w':=by
 have E:=hw.grown0 hg hr;refine⟨h0.reset E ((hg.block R h.lt (fun e=>by have:=hr R e.symm;have:=h0.lt;omega)).trans h.blk) h.drop h.le h.few h.deep,E⟩
theorem RS.step {w0 w w':World}{R:Nat}(h:Wr R none w0 w)(k:Wr R none w w'):Wr R none w0 w':=h.trans (og':=none) (Mv.refl _ _) k
def Zh (l:List (Bool×Value)):List Value:=l.flatMap fun p=>[.bool p.1,p.2]
theorem Hp (a b:List (Bool×Value)):Zh (a++b)=Zh a++Zh b:=by simp[Zh]
theorem Hg (l:List (Bool×Value)):(Zh l).length=l.length*2:=by
 induction l with
 |nil=>rfl
 |cons a l ih=>simp[Zh]at ih ⊢;omega
theorem Us:∀(l:List (Bool×Value)) (j:Nat) (p:Bool×Value),l[j]?=some p->(Zh l)[j*2]?=some (.bool p.1)/\(Zh l)[j*2+1]?=some p.2
 |a::l,0,p,h=>by
  simp at h;subst h;exact⟨rfl,rfl⟩
 |a::l,j+1,p,h=>by
  have:=Us l j p (by simpa using h)
  have e1:(j+1)*2=j*2+2:=by omega
  rw[e1];exact this
def ints (l:List Nat):List Value:=l.map fun n=> .int .i64 (n:Nat)
structure En (w:World) (B:Nat) (av lv:Value) (cs:List (Bool×Value)) (acc:List (Bool×Nat)) (lens:List Nat):Prop where
 own1:w.ownsRow B 62 2 av cs.length (Zh cs)
 own2:w.ownsRow B 3 1 lv lens.length (ints lens)
 ne:∀q,av.ownBlock=some q->lv.ownBlock≠some q
 len:cs.length=acc.length
 el:∀(j:Nat) (c:Bool×Value) (p:Bool×Nat),cs[j]?=some c->acc[j]?=some p->c.1=p.1/\NFr B w c.2 p.2/\ ∀q,c.2.ownBlock=some q->av.ownBlock≠some q/\lv.ownBlock≠some q
 ow:∀c∈cs,∃xs:List Nat,xs.length<=67108864/\w.ownsRow B 101 1 c.2 xs.length (ws xs)
 pw:∀(i j:Nat) (c d:Bool×Value) (q:Nat),cs[i]?=some c->cs[j]?=some d->i≠j->c.2.ownBlock=some q->d.2.ownBlock≠some q
theorem En.nil (w:World)(B:Nat):En w B (.slice none 0 0) (.slice none 0 0) [] [] []:=⟨World.ownsRow_nil _ _ _ _,World.ownsRow_nil _ _ _ _,fun q h=>by simp[Value.ownBlock]at h,rfl,fun j c p h=>by simp at h,fun c h=>by simp at h,fun i j c d q h=>by simp at h⟩
theorem Ws {w w':World}{R B:Nat}{e:TypeId}{z:Nat}{v:Value}{n:Nat}{xs:List Value}(h:w.ownsRow B e z v n xs)(hw:Wr R none w w')(hR:R<B):w'.ownsRow B e z v n xs:=by
 refine⟨h.1,?_⟩;rcases h.2 with O|⟨g,I,J,rfl,K,E,H⟩
 ·exact .inl O
 ·exact .inr ⟨g,I,J,rfl,K,(hw.block g (Array.getElem?_eq_some_iff.1 E).1 (by omega) (by simp)).trans E,H⟩
theorem En.wr {w w':World}{B R:Nat}{av lv:Value}{cs:List (Bool×Value)}{acc:List (Bool×Nat)}{lens:List Nat}(h:En w B av lv cs acc lens)(hw:Wr R none w w')(hR:R<B):En w' B av lv cs acc lens:=
 ⟨Ws h.own1 hw hR,Ws h.own2 hw hR,h.ne,h.len,fun j c p hc hp=>⟨(h.el j c p hc hp).1,(h.el j c p hc hp).2.1.wr hw hR (fun q hq=>by cases hq),(h.el j c p hc hp).2.2⟩,fun c hc=>(h.ow c hc).imp fun xs hx=>⟨hx.1,Ws hx.2 hw hR⟩,h.pw⟩
theorem NFr.grown {B:Nat}{w w':World}{v:Value}{n:Nat}{row:Option Nat}(h:NFr B w v n)(hg:w.grownBy w' row)(hr:∀q,v.ownBlock=some q->row≠some q):NFr B w' v n:=by
 obtain⟨⟨xs,H,I,J⟩,E,K⟩:=h;exact⟨⟨xs,H.kept hg (fun k hk e=>hr k e hk),I,J⟩,fun q hq=>⟨(E q hq).1,Nat.lt_of_lt_of_le (E q hq).2 hg.size⟩,K⟩
theorem En.clt {w:World}{B:Nat}{av lv:Value}{cs:List (Bool×Value)}{acc:List (Bool×Nat)}{lens:List Nat}(h:En w B av lv cs acc lens):∀c∈cs,∀q,c.2.ownBlock=some q->q<w.heap.size:=fun c hc q hq=>by
 obtain⟨xs,-,E⟩:=h.ow c hc;exact(E.lt q hq).2
theorem Ui {B k n:Nat}{t:TypeId}{w w':World}{v:Value}{xs:List Value}{row:Option Nat}(h:w.ownsRow B t k v n xs)(hg:w.grownBy w' row)(hr:∀q,v.ownBlock=some q->row≠some q):w'.ownsRow B t k v n xs:=
 Zf h fun q hq hl=>hg.block q hl fun e=>hr q hq e.symm
theorem En.push {w w':World}{B g cap:Nat}{av lv:Value}{cs:List (Bool×Value)}{acc:List (Bool×Nat)}{lens:List Nat}(h:En w B av lv cs acc lens){neg:Bool}{m:Value}{k:Nat}(hm:NFr B w m k)(hd:∀q,m.ownBlock=some q->av.ownBlock≠some q/\lv.ownBlock≠some q)(hmo:∃xs:List Nat,xs.length<=67108864/\w.ownsRow B 101 1 m xs.length (ws xs))(hmc:∀c∈cs,∀q,c.2.ownBlock=some q->m.ownBlock≠some q)
  (hown:w'.ownsRow B 62 2 (.slice (some ⟨g,0,none⟩) (cs.length+1) cap) (cs.length+1) (Zh cs++[.bool neg,m])) (hg:w.grownBy w' av.ownBlock) (hat:av.ownBlock=some g\/g=w.heap.size):
  En w' B (.slice (some ⟨g,0,none⟩) (cs.length+1) cap) lv (cs++[(neg,m)]) (acc++[(neg,k)]) lens:=by
 have O:∀q,q<w.heap.size->av.ownBlock≠some q->(Value.ownBlock (.slice (some ⟨g,0,none⟩) (cs.length+1) cap))≠some q:=by
  intro q E a2 e
  cases e
  rcases hat with h|h
  ·exact a2 h
  ·change g<_ at E;omega
 have hl:(cs++[(neg,m)]).length=cs.length+1:=by simp
 refine⟨?_,h.own2.kept hg ?_,?_,by simp[h.len],?_,fun c H=> ?_,fun i j c d q K T hij E=> ?_⟩
 ·rw[hl,Hp];exact hown
 ·cases ho:lv.ownBlock with
  |none=>exact .inl rfl
  |some q=>exact .inr (fun e=>h.ne q e.symm ho)
 ·intro q E e
  have I:=(h.own2.lt q e).2;exact O q I (fun J=>h.ne q J e) E
 ·intro j c p H U
  by_cases hlt:j<cs.length
  ·rw[List.getElem?_append_left hlt]at H
   rw[List.getElem?_append_left (by rw[<-h.len];exact hlt)]at U;obtain⟨q1,q2,q3⟩:=h.el j c p H U;exact⟨q1,q2.grown hg (fun q E=>(q3 q E).1),fun q E=>⟨O q (q2.2.1 q E).2 (q3 q E).1,(q3 q E).2⟩⟩
  ·have T:j=cs.length:=by
    have:=(List.getElem?_eq_some_iff.1 H).1;rw[hl]at this;omega
   subst T;rw[List.getElem?_append_right (Nat.le_refl _)]at H;rw[h.len,List.getElem?_append_right (Nat.le_refl _)]at U;simp at H U;subst H;subst U;exact⟨rfl,hm.grown hg (fun q E=>(hd q E).1),fun q E=>⟨O q (hm.2.1 q E).2 (hd q E).1,(hd q E).2⟩⟩
 ·rcases List.mem_append.1 H with H|H
  ·obtain⟨xs,I,J⟩:=h.ow c H
   obtain⟨j,T⟩:=List.mem_iff_getElem?.1 H
   have a1:j<acc.length:=by rw[<-h.len];exact(List.getElem?_eq_some_iff.1 T).1
   exact⟨xs,I,Ui J hg fun q E=>((h.el j c _ T (List.getElem?_eq_getElem a1)).2.2 q E).1⟩
  ·rw[List.mem_singleton.1 H]
   obtain⟨xs,I,J⟩:=hmo;exact⟨xs,I,Ui J hg fun q E=>(hd q E).1⟩
 ·have Z:∀(i:Nat) (c:Bool×Value),(cs++[(neg,m)])[i]?=some c->(cs[i]?=some c/\i<cs.length)\/(i=cs.length/\c=(neg,m)):=by
   intro i c K;by_cases hlt:i<cs.length
   ·rw[List.getElem?_append_left hlt]at K;exact .inl ⟨K,hlt⟩
   ·have:=(List.getElem?_eq_some_iff.1 K).1
    rw[hl]at this
    have e:i=cs.length:=by omega
    subst e;rw[List.getElem?_append_right (Nat.le_refl _)]at K;simp at K;exact .inr ⟨rfl,K.symm⟩
  rcases Z i c K with ⟨I,-⟩|⟨I,rfl⟩<;>rcases Z j d T with ⟨J,-⟩|⟨J,rfl⟩
  ·exact h.pw i j c d q I J hij E
  ·exact hmc c (List.mem_of_getElem? I) q E
  ·exact fun e=>hmc d (List.mem_of_getElem? J) q e E
  ·omega
theorem En.pushL {w w':World}{B g cap:Nat}{av lv:Value}{cs:List (Bool×Value)}{acc:List (Bool×Nat)}{lens:List Nat}(h:En w B av lv cs acc lens){n:Nat}
  (hown:w'.ownsRow B 3 1 (.slice (some ⟨g,0,none⟩) (lens.length+1) cap) (lens.length+1) (ints lens++[.int .i64 (n:Nat)])) (hg:w.grownBy w' lv.ownBlock) (hat:lv.ownBlock=some g\/g=w.heap.size):
  En w' B av (.slice (some ⟨g,0,none⟩) (lens.length+1) cap) cs acc (lens++[n]):=by
 have H:∀q,q<w.heap.size->lv.ownBlock≠some q->(Value.ownBlock (.slice (some ⟨g,0,none⟩) (lens.length+1) cap))≠some q:=by
  intro q E O e
  cases e
  rcases hat with h|h
  ·exact O h
  ·change g<_ at E;omega
 refine⟨h.own1.kept hg ?_,?_,?_,h.len,?_,fun c I=> ?_,h.pw⟩
 ·cases ho:av.ownBlock with
  |none=>exact .inl rfl
  |some q=>exact .inr (fun e=>h.ne q ho e.symm)
 ·rw[show (lens++[n]).length=lens.length+1 from by simp,show ints (lens++[n])=ints lens++[.int .i64 (n:Nat)] from by simp[ints]]
  exact hown
 ·intro q E
  exact H q (h.own1.lt q E).2 (h.ne q E)
 ·intro j c p I Z
  obtain⟨q1,q2,q3⟩:=h.el j c p I Z;exact⟨q1,q2.grown hg (fun q E=>(q3 q E).2),fun q E=>⟨(q3 q E).1,H q (q2.2.1 q E).2 (q3 q E).2⟩⟩
 ·obtain⟨xs,T,U⟩:=h.ow c I
  obtain⟨j,J⟩:=List.mem_iff_getElem?.1 I
  have K:j<acc.length:=by rw[<-h.len];exact(List.getElem?_eq_some_iff.1 J).1
  exact⟨xs,T,Ui U hg fun q E=>((h.el j c _ J (List.getElem?_eq_getElem K)).2.2 q E).2⟩
theorem Tryz.infoAI:(Tryz.prog.info? 62).map (fun i=>(i.zero,i.size,i.bytes))=some (some (.agg #[.bool false,.slice none 0 0]),2,32):=by kernel_rfl
theorem Yo {fin:Nat}{s s':SynP.St}{m:Nat}(h:SynP.Qd fin s=some (.ok (m,s'))):s'.ts.length+1=s.ts.length/\s'.opened=s.opened:=by
 unfold SynP.Qd at h;split at h
 ·rename_i E
  unfold SynP.ret at h
  cases h
  refine⟨?_,rfl⟩;have:=Vw E;have H:=List.length_pos_iff.2 this;show s.ts.tail.length+1=_;rw[List.length_tail];omega
 ·cases h
theorem Vs {fin:Nat}{x:Qx}{s s':SynP.St}{u:Unit}(h:SynP.want fin x s=some (.ok (u,s'))):s'.ts.length+1=s.ts.length/\s'.opened=s.opened:=by
 unfold SynP.want at h;split at h
 ·rename_i E
  unfold SynP.ret at h
  cases h
  refine⟨?_,rfl⟩;have H:=List.length_pos_iff.2 (Ur E);show s.ts.tail.length+1=_;rw[List.length_tail];omega
 ·cases h
def EnO (R:Nat)(tv:Value)(L:List Tok)(fin:Nat)(nv:Value)(ns:List Nv)(w:World)(N:Nat)(r:SynP.PR (List (Bool×Nat)×List Nat))(av lv:Value)(wr:World):Prop:=
 ∃f acc lens cs a' s',SynP.Xj fin f acc lens s'=r/\RS wr R tv L fin a' s' nv ns/\Wr R none w wr/\En wr w.heap.size av lv cs acc lens/\acc.length+s'.ts.length<=67108864/\lens.length+s'.ts.length<=67108864/\s'.ts.length<=N
def EnI (R:Nat)(tv:Value)(L:List Tok)(fin:Nat)(nv:Value)(ns:List Nv)(w:World)(N:Nat)(lens:List Nat)(lv:Value)(r:SynP.PR (Nat×List (Bool×Nat)))(av nn:Value)(wr:World):Prop:=
 ∃f n acc cs a' s',SynP.Qo fin f n acc s'=r/\nn=.int .i64 ((n:Nat):Int)/\RS wr R tv L fin a' s' nv ns/\Wr R none w wr/\En wr w.heap.size av lv cs acc lens/\acc.length+s'.ts.length<=67108864/\n<=acc.length/\lens.length+s'.ts.length<=67108864/\(0<n->lens.length+s'.ts.length+1<=67108864)/\s'.ts.length<=N
def EnQ (B:Nat)(x:List (Bool×Nat)×List Nat)(v:Value)(w':World):Prop:=∃av lv cs,v=.tuple #[av,lv]/\En w' B av lv cs x.1 x.2
theorem Qx4 (R:Nat)(tv:Value)(L:List Tok)(fin a:Nat)(s:SynP.St)(nv:Value)(ns:List Nv)(w:World)(h:RS w R tv L fin a s nv ns)(f:Nat)(hf:SynP.Xj fin f [] [] s≠none):
  Calls Tryz.prog 112 #[.pointer (some ⟨R,0,none⟩)] w (RB (SynP.Xj fin f [] [] s) R tv L fin s nv ns (EnQ w.heap.size) w):=by
 have H:=zq h;have hRl:=h.lt;obtain⟨r,hr⟩:=xq (SynP.Xj fin f [] [] s);rw[<-hr]at hf ⊢;have HR:=zq hr;have HNE:=zq hf
 have hts:s.ts.length<=67108864:=by have:=h.short;rw[<-h.drop,List.length_drop];omega
 have HST:Hid (EnO R tv L fin nv ns w s.ts.length r (.slice none 0 0) (.slice none 0 0) w):=⟨f,[],[],[],a,s,hr.symm,h,Wr.refl _ _ _,En.nil _ _,by simpa using hts,by simpa using hts,Nat.le_refl _⟩;obtain⟨i0,hi,hz0,hz1,hz2'⟩:=info_parts Tryz.infoAI;obtain⟨j0,hj,hk0,hk1,hk2⟩:=info_parts Tryz.infoInt;clear h hr hf;go_enter Tryz.func112,Tryz.ntmps112;go_wp2_with fail;go_loopw [2,3,4,5,6] (fun av lv _ _ _ wr=>EnO R tv L fin nv ns w s.ts.length r av lv wr) (fun _ _ _ _ _ wr=>Xd L R wr)
 case atStart=>exact HST.o
 case round=>
  obtain⟨f,acc,lens,cs,a',s',hen,hrs,hwr,hEn,hb1,hb2,hbN⟩:=hrel;obtain⟨wo,rfl⟩:=xq wr
  cases f with
  |zero=>exact absurd hen.symm (by have:=HNE.o;intro e;exact this e)
  |succ f=>
   obtain⟨r2,hr2⟩:=xq (SynP.Qo fin f 0 acc s')
   have hen2:r2.bind (fun x s=>if SynP.Qk [93] s.ts then SynP.ret (x.2,lens++[x.1]) s.adv else (SynP.want fin [59] s).bind fun _ s=>SynP.Xj fin f x.2 (lens++[x.1]) s)=r:=by rw[hr2];exact hen
   have HE2:=zq hen2
   have HR2N:Hid (r2≠none):=by
    intro e;rw[e]at hen2;exact HNE.o hen2.symm
   have HRS0:=zq hrs;have HLEFT:=zq hrs.left;have HI:Hid (EnI R tv L fin nv ns w s'.ts.length lens u3 r2 u2 (.int .i64 0) wo):=⟨f,0,acc,cs,a',s',hr2.symm,rfl,hrs,hwr,hEn,hb1,Nat.zero_le _,hb2,fun h=>absurd h (Nat.lt_irrefl _),Nat.le_refl _⟩;clear hen hrs hwr hEn hen2 hr2;go_wp2_with fail;go_loopw [2,4,5,6] (fun av nn _ _ wr=>EnI R tv L fin nv ns w s'.ts.length lens u3 r2 av nn wr) (fun _ _ _ _ wr=>Xd L R wr)
   case atStart=>exact HI.o
   clear HI
   case round=>
    obtain⟨f2,n,acc2,cs2,a2,s2,her,rfl,hrs,hwr,hEn,hb1,hnl,hb2,hb3,hbM⟩:=hrel
    cases f2 with
    |zero=>exact absurd her.symm HR2N.o
    |succ f2=>
     obtain⟨wx,hwx⟩:=xq wr;have HLF0:=zq hrs.left;have HSX0:=zq hrs;have HWX0:=zq hwr;have HEX0:=zq hEn;have HER:=zq her
     have hn31:n<=67108864:=by omega
     clear hrs hwr hEn her hwx;by_cases hn0:n=0
     case' pos=>
      have hnb:((n:Int)==0)=true:=by simp[hn0]
      have HSTEP:Hid ((SynP.Qd fin (if SynP.Qk [45] s2.ts then s2.adv else s2)).bind (fun m s'=>SynP.Qo fin f2 (n+1) (acc2++[(SynP.Qk [45] s2.ts && decide (0<m),m)]) s')=r2):=by
       have h1:=HER.o;unfold SynP.Qo at h1;rw[if_pos (show (decide (n=0)||SynP.Qk [45] s2.ts||SynP.Qb 1 s2.ts)=true from by simp[hn0])]at h1;exact h1
      have HN0:=zq hn0;clear hn0;have HSX:=HSX0;have HWX:=HWX0;have HEX:=HEX0;clear HSX0 HWX0 HEX0
     case' neg=>
      have hnb:((n:Int)==0)=false:=by simp[hn0]
      have hpos:0<n:=by omega
      have hb4:=hb3 hpos;have HN0:=zq hn0;clear hn0 hb3
      cases hm:SynP.Qk [45] s2.ts
      case' true=>
       have HSTEP:Hid ((SynP.Qd fin (if SynP.Qk [45] s2.ts then s2.adv else s2)).bind (fun m s'=>SynP.Qo fin f2 (n+1) (acc2++[(SynP.Qk [45] s2.ts && decide (0<m),m)]) s')=r2):=by
        have h1:=HER.o;unfold SynP.Qo at h1;rw[if_pos (show (decide (n=0)||SynP.Qk [45] s2.ts||SynP.Qb 1 s2.ts)=true from by simp[hm])]at h1;exact h1
       have HM:=zq hm;clear hm;go_wp2_with fail;refine(Zl R tv L fin a2 s2 nv ns _ HSX0.o [45]).mono ?_;rintro e wx ⟨rfl,bx⟩;rw[HM.o];have HSX:=zq (HSX0.o.below bx);have HWX:=zq (RS.step HWX0.o (Wr.of_below bx));have HEX:=zq (HEX0.o.wr (R:=R) (Wr.of_below bx) hRl);clear bx
      case' false=>
       cases hk:SynP.Qb 1 s2.ts
       case' true=>
        have HSTEP:Hid ((SynP.Qd fin (if SynP.Qk [45] s2.ts then s2.adv else s2)).bind (fun m s'=>SynP.Qo fin f2 (n+1) (acc2++[(SynP.Qk [45] s2.ts && decide (0<m),m)]) s')=r2):=by
         have h1:=HER.o;unfold SynP.Qo at h1;rw[if_pos (show (decide (n=0)||SynP.Qk [45] s2.ts||SynP.Qb 1 s2.ts)=true from by simp[hk])]at h1;exact h1
        have HM:=zq hm;have hck:=Xv 1 [] s2.ts (by decide);rw[hk]at hck;have HK:=zq hck;clear hm hk hck;go_wp2_with fail;refine(Zl R tv L fin a2 s2 nv ns _ HSX0.o [45]).mono ?_;rintro e wy ⟨rfl,bx⟩;rw[HM.o];have HSY:=zq (HSX0.o.below bx);have HWY:=zq (RS.step HWX0.o (Wr.of_below bx));have HEY:=zq (HEX0.o.wr (R:=R) (Wr.of_below bx) hRl);clear bx;go_wp2_with fail;refine(Qa R tv L fin a2 s2 nv ns _ HSY.o 0 1 [] (by omega) (by omega)).mono ?_;rintro e wx ⟨rfl,bx⟩;rw[HK.o];have HSX:=zq (HSY.o.below bx);have HWX:=zq (RS.step HWY.o (Wr.of_below bx));have HEX:=zq (HEY.o.wr (R:=R) (Wr.of_below bx) hRl);clear bx
       case false=>
        have HRR:Hid (r=if SynP.Qk [93] s2.ts then SynP.ret (acc2,lens++[n]) s2.adv else (SynP.want fin [59] s2).bind fun _ s=>SynP.Xj fin f acc2 (lens++[n]) s):=by
         have h1:=HER.o;unfold SynP.Qo at h1;rw[if_neg (show ¬(decide (n=0)||SynP.Qk [45] s2.ts||SynP.Qb 1 s2.ts)=true from by simp[hk,hm,HN0.o])]at h1;show _=_;rw[<-HE2.o,<-h1];rfl
        have HM:=zq hm;have hck:=Xv 1 [] s2.ts (by decide);rw[hk]at hck;have HK:=zq hck;clear hm hk hck;go_wp2_with fail;refine(Zl R tv L fin a2 s2 nv ns _ HSX0.o [45]).mono ?_;rintro e wy ⟨rfl,bx⟩;rw[HM.o];have HSY:=zq (HSX0.o.below bx);have HWY:=zq (RS.step HWX0.o (Wr.of_below bx));have HEY:=zq (HEX0.o.wr (R:=R) (Wr.of_below bx) hRl);clear bx;go_wp2_with fail;refine(Qa R tv L fin a2 s2 nv ns _ HSY.o 0 1 [] (by omega) (by omega)).mono ?_;rintro e wx ⟨rfl,bx⟩;rw[HK.o];have HSX:=zq (HSY.o.below bx);have HWX:=zq (RS.step HWY.o (Wr.of_below bx));have HEX:=zq (HEY.o.wr (R:=R) (Wr.of_below bx) hRl);have hszx:=HWX.o.size;clear bx;have HAL:=zq (Qq wx (.cells #[.int .i64 (n:Nat)] 3));have HRS4:=zq (HSX.o.below HAL.o);have HW4:=zq (RS.step HWX.o (Wr.of_below HAL.o));have HEN4:=zq (HEX.o.wr (R:=R) (Wr.of_below HAL.o) hRl);obtain⟨nc,hnc⟩:=xq lens.length;have HNC:=zq hnc
        have hOW:(wx.alloc (.cells #[.int .i64 (n:Nat)] 3)).ownsRow w.heap.size 3 1 u3 nc (ints lens):=by rw[hnc];exact HEN4.o.own2
        have HOW:=zq hOW
        have hnc2:nc<=67108864:=by omega
        clear hnc hOW;go_wp2_with (at_builtin;refine wpList_append_lies _ rfl _ _ 41 rfl w.heap.size 3 j0 (.int .i64 0) 1 8 Tryz.underlying41 hj hk0 hk1 hk2 rfl (by omega) u3 nc (ints lens) rfl HOW.o ⟨wx.heap.size,0,none⟩ 1 1 [.int .i64 (n:Nat)] rfl rfl (LexP.Qc _ _ _ _ rfl) (by simp[Value.oneCell']) (by omega) (by unfold maxLen;omega) (by omega) (by simp;omega) (wx.heap.size+1) (by simp) ?_);intro gg cap w5 hown5 hgrow hat hlt5;have q1:=HEN4.o.pushL (n:=n) (by rw[<-HNC.o];exact hown5) hgrow (by simpa using hat);obtain⟨q2,q3⟩:=H.o.loc HRS4.o HW4.o hgrow (fun q hq=>(HEN4.o.own2.lt q hq).1);rw[<-HNC.o]at q1;have HQ1:=zq q1;have HQ2:=zq q2;have HQ3:=zq q3;clear hown5 hgrow hat hlt5 q1 q2 q3;go_wp2_with fail;refine(Yv R tv L fin a2 s2 nv ns _ HQ2.o [93]).mono ?_;rintro e w6 ⟨rfl,t1,t2⟩;have T1:=zq (RS.step HQ3.o t1);have TE:=zq (HQ1.o.wr t1 hRl);clear t1
        cases h93:SynP.Qk [93] s2.ts with
        |true=>
         rw[if_pos h93]at t2;have T2:=zq t2;have H93:=zq h93;clear t2 h93;go_wp2_with fail;go_ret2;rw[HRR.o,if_pos H93.o]
         exact⟨_,_,rfl,T2.o,T1.o,Nat.le_trans (Jy s2) (by omega),_,_,_,rfl,TE.o⟩
        |false=>
         rw[if_neg (by rw[h93];decide)]at t2;have T2:=zq t2;have H93:=zq h93;clear t2 h93;go_wp2_with fail;refine(Wv R tv L fin a2 s2 nv ns _ T2.o [59]).mono ?_;rintro e w7 hn;rcases hN:SynP.want fin [59] s2 with- |(⟨fc,fk⟩|⟨m,s3⟩)
         ·rw[hN]at hn;exact hn.elim
         ·rw[hN]at hn
          obtain⟨rfl,n1⟩:=hn;refine⟨rfl,?_⟩
          have hr:r=some (.error (fc,fk)):=by rw[HRR.o,if_neg (by rw[H93.o];decide),hN];rfl
          rw[hr];exact⟨rfl,RS.step T1.o n1⟩
         ·rw[hN]at hn
          obtain⟨v,a3,rfl,n1,n2,n3,rfl⟩:=hn;have hwl:=Vs hN
          have hr:SynP.Xj fin f acc2 (lens++[n]) s3=r:=by rw[HRR.o,if_neg (by rw[H93.o];decide),hN];rfl
          have HRF:=zq hr;have HL7:=zq n1.left;have HN1:=zq n1;have HN2:=zq (RS.step T1.o n2);have HE7:=zq (TE.o.wr n2 hRl);clear n1 n2 n3 hr hN;go_wp2_with fail;have hfin:EnO R tv L fin nv ns w s.ts.length r u2 (.slice (some ⟨gg,0,none⟩) (nc+1) cap) w7:=⟨f,acc2,lens++[n],_,a3,s3,HRF.o,HN1.o,HN2.o,HE7.o,by omega,by rw[List.length_append,List.length_singleton];omega,by omega⟩
          have hlf:Xd L R w7<Xd L R wo:=by rw[HL7.o,HLEFT.o];omega
          exact⟨hfin,hlf⟩
     all_goals
      obtain⟨s1,hs1⟩:=xq ((if SynP.Qk [45] s2.ts then s2.adv else s2));have HS1:=zq hs1;clear hs1;go_wp2_with fail;refine(Yv R tv L fin a2 s2 nv ns _ HSX.o [45]).mono ?_;rintro e w1 ⟨rfl,t1,t2⟩
      have t3:∃b1,RS w1 R tv L fin b1 s1 nv ns:=by
       rw[HS1.o];split at t2
       ·rename_i hq;rw[if_pos hq];exact⟨_,t2⟩
       ·rename_i hq;rw[if_neg hq];exact⟨_,t2⟩
      obtain⟨b1,t3⟩:=t3;have T1:=zq (RS.step HWX.o t1);have T3:=zq t3;have TE:=zq (HEX.o.wr t1 hRl)
      have hs1l:s1.ts.length<=s2.ts.length:=by
       rw[HS1.o];split
       ·exact Jy s2
       ·exact Nat.le_refl _
      obtain⟨ng,hng⟩:=xq (SynP.Qk [45] s2.ts);rw[<-hng];have HNG:=zq hng;clear t1 t2 t3 hng;go_wp2_with fail;refine(Mw R tv L fin b1 s1 nv ns _ T3.o).mono ?_;rintro e w2 hn;rcases hN:SynP.Qd fin s1 with- |(⟨fc,fk⟩|⟨m,s3⟩)
      ·rw[hN]at hn;exact hn.elim
      ·rw[hN]at hn
       obtain⟨rfl,n1⟩:=hn;refine⟨rfl,?_⟩
       have hr2:r2=some (.error (fc,fk)):=by rw[<-HSTEP.o,<-HS1.o,hN];rfl
       have hr:r=some (.error (fc,fk)):=by rw[<-HE2.o,hr2];rfl
       rw[hr];exact⟨rfl,RS.step T1.o n1⟩
      ·rw[hN]at hn
       obtain⟨v,a3,rfl,n1,n2,n3,n4,xo,hxo,n5⟩:=hn;have hnl:=Yo hN
       obtain⟨vo,vcap,vl,rfl⟩:∃vo vcap vl,v=.slice vo vl vcap:=by
        obtain⟨⟨xs,hx,-⟩,-⟩:=n4;obtain⟨vo,vcap,e,-⟩:=hx.2;exact⟨vo,vcap,_,e⟩
       have hz:decide (0<vl)=decide (0<m):=by
        have:vl=0↔m=0:=n4.2.2.zero;simp only[decide_eq_decide];omega
       have HN2:=zq (RS.step T1.o n2);have HRS3:=zq n1;have HEN3:=zq (TE.o.wr n2 hRl);have HN4:=zq n4;have HN5:=zq n5;obtain⟨b,hb⟩:=xq ((ng && decide (0<m)));have HB:=zq hb;have HZ:=zq hz
       have HNX:Hid (r2=SynP.Qo fin f2 (n+1) (acc2++[(b,m)]) s3):=by
        show _=_;rw[<-HSTEP.o,<-HS1.o,hN,HB.o,HNG.o];rfl
       have hcl:cs2.length<=67108864:=by rw[HEN3.o.len];omega
       have HCL:=zq hcl;have HAL:=zq (Qq w2 (.cells #[.bool b,.slice vo vl vcap] 62));have HRS4:=zq (HRS3.o.below HAL.o);have HW4:=zq (RS.step HN2.o (Wr.of_below HAL.o));have HEN4:=zq (HEN3.o.wr (R:=R) (Wr.of_below HAL.o) hRl);have hn4':=(HN4.o.wr (R:=R) (og:=none) (Wr.of_below HAL.o) (Nat.lt_of_lt_of_le hRl T1.o.size) (fun q hq=>by cases hq));have HN4':=zq hn4';have HSZ:=zq T1.o.size;obtain⟨nc,hnc⟩:=xq cs2.length;have HNC:=zq hnc
       have hOW:(w2.alloc (.cells #[.bool b,.slice vo vl vcap] 62)).ownsRow w.heap.size 62 2 u2 nc (Zh cs2):=by rw[hnc];exact HEN4.o.own1
       have HOW:=zq hOW
       have hnc2:nc<=67108864:=by rw[hnc];exact hcl
       have hb0:b=(ng && decide (0<vl)):=by rw[HB.o,HZ.o]
       have hz2:=HN2.o.size
       have hsz4:w.heap.size<=(w2.alloc (.cells #[.bool b,.slice vo vl vcap] 62)).heap.size:=by simp;omega
       have HSZ4:=zq hsz4;have HB0:=zq hb0;clear n1 n2 n4 n5 hn4' hb hz hnc hOW hcl hN hb0 hsz4
       cases hngc:ng
       case' true=>
        subst hngc
        have hbz:(decide (0<vl))=b:=by rw[HB0.o];rfl
       case' false=>
        subst hngc
        have hbf:b=false:=by rw[HB0.o];rfl
        subst hbf
       all_goals
        go_wp2_with (at_builtin;refine wpList_append_lies _ rfl _ _ 45 rfl w.heap.size 62 i0 (.agg #[.bool false,.slice none 0 0]) 2 32 Tryz.underlying45 hi hz0 hz1 hz2' rfl (by omega) u2 nc (Zh cs2) rfl HOW.o ⟨w2.heap.size,0,none⟩ 1 1 [.bool _,.slice vo vl vcap] rfl rfl (LexP.Qc _ _ _ _ rfl) (by simp[Value.oneCell']) (by omega) (by unfold maxLen;omega) (by omega) (by simp;omega) (w2.heap.size+1) (by simp) ?_);intro gg cap w5 hown5 hgrow hat hlt5
        have q1:=HEN4.o.push (m:=.slice vo vl vcap) (k:=m) (HN4'.o.mono HSZ.o) (fun q hq=>by
         have h1:=HN4.o.2.1 q hq;refine⟨fun e=> ?_,fun e=> ?_⟩
         ·have:=(TE.o.own1.lt q e).2;omega
         ·have:=(TE.o.own2.lt q e).2;omega) ⟨xo,hxo,Tm (HN5.o.alloc _) fun q hq=>Nat.le_trans HSZ.o (HN4.o.2.1 q hq).1⟩ (fun c hc q hq e=>by have:=(HN4.o.2.1 q e).1;have:=TE.o.clt c hc q hq;omega) (by rw[<-HNC.o];exact hown5) hgrow (by simpa using hat)
        obtain⟨q2,q3⟩:=H.o.loc HRS4.o HW4.o hgrow (fun q hq=>(HEN4.o.own1.lt q hq).1);have HQ1:=zq q1;have HQ2:=zq q2;have HQ3:=zq q3;rw[<-HNC.o]at HQ1;have HLFT:=zq q2.left;clear hown5 hgrow hat hlt5 q1 q2 q3;go_wp2_with fail;have hfin:EnI R tv L fin nv ns w s'.ts.length lens u3 r2 (.slice (some ⟨gg,0,none⟩) (nc+1) cap) (.int .i64 ((n:Int)+1)) w5:=⟨f2,n+1,acc2++[(_,m)],_,a3,s3,HNX.o.symm,by congr 1,HQ2.o,HQ3.o,HQ1.o,by rw[List.length_append,List.length_singleton];omega,by rw[List.length_append,List.length_singleton];omega,by omega,fun _=>by omega,by omega⟩
        have hlf:Xd L R w5<Xd L R wr:=by rw[HLFT.o,HLF0.o];omega
        exact⟨hfin,hlf⟩
theorem Br (a b:Value)(n j:Nat)(hj:j<n):(madeCells #[a,b] (n*2))[j*2]?=some a/\(madeCells #[a,b] (n*2))[j*2+1]?=some b:=by
 unfold madeCells;constructor
 ·rw[Array.getElem?_map,Array.getElem?_range,if_pos (by omega)]
  show some (#[a,b][(j*2) % 2]!)=_;rw[show (j*2) % 2=0 from by omega];rfl
 ·rw[Array.getElem?_map,Array.getElem?_range,if_pos (by omega)]
  show some (#[a,b][(j*2+1) % 2]!)=_;rw[show (j*2+1) % 2=1 from by omega];rfl
theorem Qvr (n:Nat)(hn:n<=4096):∀w:World,(Instr.makeSlice 45 (.int .i64 (n:Int)) (.int .i64 (n:Int))).run Tryz.prog w=.ok (.slice (some ⟨w.heap.size,0,none⟩) n n) (w.alloc (.cells (madeCells #[.bool false,.slice none 0 0] (n*2)) 62)):=by
 obtain⟨i0,K,E,H,I⟩:=info_parts Tryz.infoAI;intro w
 have J:(i0.bytes:Int)*(n:Int)<=281474976710656:=by rw[I];omega
 have h:=run_make (P:=Tryz.prog) w 45 62 i0 (.agg #[.bool false,.slice none 0 0]) Tryz.underlying45 K E .i64 .i64 n n (by omega) (Int.le_refl _) J (by omega);simp only[Int.toNat_natCast]at h;rw[h,H];rfl
def IRs (w:World)(v:Value)(l:List (Bool×Nat)):Prop:=∃ao cap,v=.slice ao l.length cap/\l.length<=cap/\cap<=maxLen/\(0<l.length-> ∃g o,ao=some ⟨g,o,none⟩/\g<w.heap.size/\ ∀j p,l[j]?=some p-> ∃m xs,w.cell? ⟨g,o+j*2,none⟩=some (.bool p.1)/\w.cell? ⟨g,o+j*2+1,none⟩=some m/\Rd w m xs/\NatP.val xs=p.2/\xs.length<=67108864/\CanL xs.length p.2)
theorem IRs.ird {w:World}{v:Value}{l:List (Bool×Nat)}(h:IRs w v l):IRd w v l:=by
 obtain⟨ao,E,e,H,I,J⟩:=h;refine⟨ao,E,e,H,I,fun h0=> ?_⟩;obtain⟨g,o,rfl,a2,a3⟩:=J h0;refine⟨g,o,rfl,a2,fun j p hj=> ?_⟩;obtain⟨m,xs,b1,b2,b3,b4,b5,-⟩:=a3 j p hj;exact⟨m,xs,b1,b2,b3,b4,b5⟩
theorem IRs.below {w w':World}{v:Value}{l:List (Bool×Nat)}(h:IRs w v l)(hb:Below w.heap.size w w'):IRs w' v l:=by
 obtain⟨ao,E,e,H,I,J⟩:=h;refine⟨ao,E,e,H,I,fun h0=> ?_⟩;obtain⟨g,o,rfl,a2,a3⟩:=J h0;refine⟨g,o,rfl,Nat.lt_of_lt_of_le a2 hb.size,fun j p hj=> ?_⟩;obtain⟨m,xs,b1,b2,b3,b4,b5,b6⟩:=a3 j p hj;exact⟨m,xs,(hb.cell (p:=⟨g,o+j*2,none⟩) a2).trans b1,(hb.cell (p:=⟨g,o+j*2+1,none⟩) a2).trans b2,b3.below hb,b4,b5,b6⟩
theorem IRs.zeros (w:World)(n:Nat)(hn:n<=4096):IRs (w.alloc (.cells (madeCells #[.bool false,.slice none 0 0] (n*2)) 62)) (.slice (some ⟨w.heap.size,0,none⟩) n n) (List.replicate n (false,0)):=by
 have E:=heap_alloc_new w (.cells (madeCells #[.bool false,.slice none 0 0] (n*2)) 62);refine⟨_,n,by rw[List.length_replicate],by rw[List.length_replicate];omega,by unfold maxLen;omega,fun _=>⟨w.heap.size,0,rfl,by simp,fun j p hj=> ?_⟩⟩
 have h:j<n:=by have:=(List.getElem?_eq_some_iff.1 hj).1;rwa [List.length_replicate]at this
 have H:p=(false,0):=by rw[List.getElem?_replicate,if_pos h]at hj;simpa using hj.symm
 subst H;obtain⟨m1,m2⟩:=Br (.bool false) (.slice none 0 0) n j h;refine⟨.slice none 0 0,[],?_,?_,Rd.nil _,rfl,by simp,by simp,by simp⟩
 ·rw[Nat.zero_add];exact(cell_of_row _ _ _ _ _ _ E).trans m1
 ·rw[Nat.zero_add];exact(cell_of_row _ _ _ _ _ _ E).trans m2
theorem En.irs {w:World}{B:Nat}{av lv:Value}{cs:List (Bool×Value)}{acc:List (Bool×Nat)}{lens:List Nat}(h:En w B av lv cs acc lens):IRs w av acc:=by
 obtain⟨ao,H,e,I,J,K⟩:=Qm h.own1;refine⟨ao,H,by rw[<-h.len];exact e,by rw[<-h.len];exact I,J,fun h0=> ?_⟩;obtain⟨g,rfl,a1,a2,a3⟩:=K (by rw[h.len];exact h0);refine⟨g,0,rfl,a2,fun j p hj=> ?_⟩
 have E:j<cs.length:=by rw[h.len];exact(List.getElem?_eq_some_iff.1 hj).1
 obtain⟨q1,⟨⟨xs,x1,x2,x3⟩,-,x4⟩,-⟩:=h.el j cs[j] p (List.getElem?_eq_getElem E) hj
 have x5:CanL xs.length p.2:=by
  obtain⟨ao',cap',e,-⟩:=x1.2;rw[e]at x4;exact x4
 obtain⟨i1,i2⟩:=Us cs j cs[j] (List.getElem?_eq_getElem E);refine⟨_,xs,?_,?_,x1,x2,x3,x5⟩
 ·rw[Nat.zero_add,a3 _ (by omega),i1,q1]
 ·rw[Nat.zero_add,a3 _ (by omega),i2]
def IOw (B:Nat)(w:World)(v:Value)(l:List (Bool×Nat)):Prop:=
 ∃cs:List (Bool×Value),w.ownsRow B 62 2 v cs.length (Zh cs)/\cs.length=l.length/\
  (∀c∈cs,(∃xs:List Nat,xs.length<=67108864/\w.ownsRow B 101 1 c.2 xs.length (ws xs))/\ ∀q,c.2.ownBlock=some q->v.ownBlock≠some q)/\
  ∀(i j:Nat) (c d:Bool×Value) (q:Nat),cs[i]?=some c->cs[j]?=some d->i≠j->c.2.ownBlock=some q->d.2.ownBlock≠some q
theorem IOw.at {B:Nat}{w w':World}{v:Value}{l:List (Bool×Nat)}(h:IOw B w v l)(hb:∀q,B<=q->q<w.heap.size->w'.heap[q]?=w.heap[q]?):IOw B w' v l:=by
 obtain⟨cs,E,J,H,K⟩:=h;refine⟨cs,Zf E fun q hq hl=>hb q (E.lt q hq).1 hl,J,fun c hc=>⟨?_,(H c hc).2⟩,K⟩;obtain⟨⟨xs,O,I⟩,-⟩:=H c hc;exact⟨xs,O,Zf I fun q hq hl=>hb q (I.lt q hq).1 hl⟩
theorem IOw.below {B:Nat}{w w':World}{v:Value}{l:List (Bool×Nat)}(h:IOw B w v l)(hb:Below w.heap.size w w'):IOw B w' v l:=h.at fun q _ hl=>hb.block q hl
theorem IOw.low {B B':Nat}{w:World}{v:Value}{l:List (Bool×Nat)}(h:IOw B w v l)(hb:B'<=B):IOw B' w v l:=by
 obtain⟨cs,E,J,H,K⟩:=h;refine⟨cs,Tm E fun q hq=>Nat.le_trans hb (E.lt q hq).1,J,fun c hc=>⟨?_,(H c hc).2⟩,K⟩;obtain⟨⟨xs,O,I⟩,-⟩:=H c hc;exact⟨xs,O,Tm I fun q hq=>Nat.le_trans hb (I.lt q hq).1⟩
theorem IOw.zeros (w:World)(n:Nat)(hn:n<=4096)(B:Nat)(hB:B<=w.heap.size):IOw B (w.alloc (.cells (madeCells #[.bool false,.slice none 0 0] (n*2)) 62)) (.slice (some ⟨w.heap.size,0,none⟩) n n) (List.replicate n (false,0)):=by
 have H:(madeCells #[Value.bool false,.slice none 0 0] (n*2)).size=n*2:=by simp[madeCells]
 have I:(madeCells #[Value.bool false,.slice none 0 0] (n*2)).toList=Zh (List.replicate n (false,.slice none 0 0)):=by
  apply List.ext_getElem?;intro i;rw[Array.getElem?_toList];by_cases hi:i<n*2
  ·obtain⟨a1,a2⟩:=Br (.bool false) (.slice none 0 0) n (i / 2) (by omega)
   obtain⟨b1,b2⟩:=Us (List.replicate n (false,Value.slice none 0 0)) (i / 2) (false,.slice none 0 0) (by rw[List.getElem?_replicate,if_pos (by omega)]);rcases (by omega:i=i / 2*2\/i=i / 2*2+1) with h|h
   ·rw[h,a1,b1]
   ·rw[h,a2,b2]
  ·rw[Array.getElem?_eq_none (by omega),List.getElem?_eq_none (by rw[Hg,List.length_replicate];omega)]
 have E:=World.ownsRow_lit (base:=B) (e:=62) (size:=2) w (madeCells #[.bool false,.slice none 0 0] (n*2)) n hB (by unfold maxLen;omega) H;rw[I]at E;refine⟨List.replicate n (false,.slice none 0 0),by rw[List.length_replicate];exact E,by simp,fun c hc=> ?_,fun i j c d q hi hj hij hq=> ?_⟩
 ·rw[List.eq_of_mem_replicate hc]
  exact⟨⟨[],by simp,World.ownsRow_nil _ _ _ _⟩,fun q hq=>by cases hq⟩
 ·rw[List.eq_of_mem_replicate (List.mem_of_getElem? hi)]at hq;cases hq
theorem En.iow {w:World}{B:Nat}{av lv:Value}{cs:List (Bool×Value)}{acc:List (Bool×Nat)}{lens:List Nat}(h:En w B av lv cs acc lens):IOw B w av acc:=by
 refine⟨cs,h.own1,h.len,fun c hc=>⟨h.ow c hc,fun q hq=> ?_⟩,h.pw⟩;obtain⟨j,E⟩:=List.mem_iff_getElem?.1 hc
 have H:j<acc.length:=by rw[<-h.len];exact(List.getElem?_eq_some_iff.1 E).1
 exact((h.el j c _ E (List.getElem?_eq_getElem H)).2.2 q hq).1
theorem Qjz {w w':World}{g:Nat}{x y z u v t:Value}(h:w.heap[g]?=some (.cells #[u,v,t] 47 (0,0)))(hw:w'=((w.setCell ⟨g,0,none⟩ x).setCell ⟨g,1,none⟩ y).setCell ⟨g,2,none⟩ z):
  w'.heap[g]?=some (.cells #[x,y,z] 47 (0,0))/\w.grownBy w' (some g)/\w'.heap.size=w.heap.size/\Wr g none w w':=by
 have s1:=heap_setCell_same w g 0 #[u,v,t] 47 x h;have s2:=heap_setCell_same (w.setCell ⟨g,0,none⟩ x) g 1 _ 47 y s1;have s3:=heap_setCell_same ((w.setCell ⟨g,0,none⟩ x).setCell ⟨g,1,none⟩ y) g 2 _ 47 z s2
 have r1:Wr g none w w':=by
  rw[hw];exact RS.step (RS.step (Wr.of_set w 0 x) (Wr.of_set _ 1 y)) (Wr.of_set _ 2 z)
 refine⟨by rw[hw];exact s3.trans (by simp),⟨r1.os,r1.tape,r1.output,r1.size,fun k hk hne=>r1.block k hk (fun e=>hne (by rw[e])) (by simp)⟩,by rw[hw];simp[World.setCell],r1⟩
def MatQ (B:Nat)(m:SynP.MatV)(v:Value)(w':World):Prop:=∃av,v=.agg #[.int .i64 (m.rows:Nat),.int .i64 (m.cols:Nat),av]/\IRs w' av m.at_/\IOw B w' av m.at_
theorem Ey (R:Nat)(tv:Value)(L:List Tok)(fin a:Nat)(s:SynP.St)(nv:Value)(ns:List Nv)(w:World)(h:RS w R tv L fin a s nv ns)(f:Nat)(hf:SynP.Xi fin f s≠none):
  Calls Tryz.prog 54 #[.pointer (some ⟨R,0,none⟩)] w (RB (SynP.Xi fin f s) R tv L fin s nv ns (MatQ w.heap.size) w):=by
 have H:=zq h;have hRl:=h.lt;obtain⟨r,hr⟩:=xq (SynP.Xi fin f s);rw[<-hr]at hf ⊢;obtain⟨col,hcol⟩:=xq (SynP.Te fin s.ts)
 have HR0:Hid (r=(SynP.want fin [91] s).bind fun _ s=>if SynP.Qb 1 s.ts && SynP.Qk [58] s.ts.tail then SynP.Yr fin col s else (SynP.Xj fin f [] [] s).bind (SynP.Ys col)):=by
  show _=_;rw[hr,hcol];rfl
 have HNE:=zq hf;have HCOL:=zq hcol;have HA:=zq (Qq w (.cells #[.int .i64 0,.int .i64 0,.slice none 0 0] 47));have HSA:=zq (h.below HA.o);have hblk:=heap_alloc_new w (.cells #[.int .i64 0,.int .i64 0,.slice none 0 0] 47);obtain⟨wA,hwA⟩:=xq (w.alloc (.cells #[.int .i64 0,.int .i64 0,.slice none 0 0] 47))
 have hlA:w.heap.size<wA.heap.size:=by rw[hwA];simp
 rw[<-hwA]at hblk;have HBLK:=zq hblk
 have HWA:Hid (Wr R none w wA):=by show Wr _ _ _ _;rw[hwA];exact Wr.of_below HA.o
 have HWA0:Hid (Wr R none wA wA):=Wr.refl _ _ _;rw[<-hwA]at HSA HA;have HAE:=zq hwA;clear h hr hf hcol hblk hwA;go_enter Tryz.func54,Tryz.ntmps54;go_wp2_with fail;rw[<-HAE.o];refine(Qyr R tv L fin a s nv ns _ HSA.o).mono ?_;rintro e w1 ⟨rfl,b1⟩;rw[<-HCOL.o];have HS1:=zq (HSA.o.below b1);have HW1:Hid (Wr R none wA w1):=Wr.of_below b1;clear b1;go_wp2_with fail;refine(Wv R tv L fin a s nv ns _ HS1.o [91]).mono ?_;rintro e w2 hn;rcases hN:SynP.want fin [91] s with- |(⟨fc,fk⟩|⟨u2',s2⟩)
 ·rw[hN]at hn;exact hn.elim
 ·rw[hN]at hn
  obtain⟨rfl,n1⟩:=hn;refine⟨rfl,?_⟩
  have hre:r=some (.error (fc,fk)):=by rw[HR0.o,hN];rfl
  rw[hre];exact⟨rfl,RS.step HWA.o (RS.step HW1.o n1)⟩
 rw[hN]at hn;obtain⟨v2,a2,rfl,n1,n2,n3,rfl⟩:=hn;have hl2:=Vs hN;have HS2:=zq n1;have HW2:=zq (RS.step HW1.o n2);have HN2:=zq hN;clear n1 n2 n3 hN
 have HR2:Hid (r=if SynP.Qb 1 s2.ts && SynP.Qk [58] s2.ts.tail then SynP.Yr fin col s2 else (SynP.Xj fin f [] [] s2).bind (SynP.Ys col)):=by
  show _=_;rw[HR0.o,HN2.o];rfl
 have hck:=Xv 1 [] s2.ts (by decide);have hcm:=Zt [58] s2.ts;by_cases hsh:(SynP.Qb 1 s2.ts && SynP.Qk [58] s2.ts.tail)=true
 ·rw[if_pos hsh]at HR2
  rw[Bool.and_eq_true]at hsh;rw[hsh.1]at hck;rw[hsh.2]at hcm;have HCK:=zq hck;have HCM:=zq hcm;have HR3:Hid (r=(SynP.Qd fin s2).bind fun r s=>(SynP.want fin [58] s).bind fun _ s=>(SynP.Qd fin s).bind fun c s=>(SynP.want fin [93] s).bind fun _ s=>if 64<SynP.side r||64<SynP.side c then SynP.fault col 5 else SynP.ret ⟨r,c,List.replicate (r*c) (false,0)⟩ s):=HR2.o;clear hsh hck hcm HR2;go_wp2_with fail;refine(Qa R tv L fin a2 s2 nv ns _ HS2.o 0 1 [] (by omega) (by omega)).mono ?_;rintro e w3 ⟨rfl,b1⟩;rw[HCK.o];have HS3:=zq (HS2.o.below b1);have HW3:=zq (RS.step HW2.o (Wr.of_below b1));clear b1;go_wp2_with fail;refine(Qa R tv L fin a2 s2 nv ns _ HS3.o 1 3 [58] (by omega) (by omega)).mono ?_;rintro e w4 ⟨rfl,b1⟩;rw[HCM.o];have HS4:=zq (HS3.o.below b1);have HW4:=zq (RS.step HW3.o (Wr.of_below b1));clear b1;go_wp2_with fail;refine(Vh R tv L fin a2 s2 nv ns _ HS4.o).mono ?_;rintro e w5 hn;rcases hN:SynP.Qd fin s2 with- |(⟨fc,fk⟩|⟨m5,s5⟩)
  ·rw[hN]at hn;exact hn.elim
  ·rw[hN]at hn
   obtain⟨rfl,n1⟩:=hn;refine⟨rfl,?_⟩
   have hre:r=some (.error (fc,fk)):=by rw[HR3.o,hN];rfl
   rw[hre];exact⟨rfl,RS.step HWA.o (RS.step HW4.o n1)⟩
  rw[hN]at hn;obtain⟨v5,a5,rfl,n1,n2,n3,n4⟩:=hn;have hl5:=Yo hN;have HS5:=zq n1;have HW5:=zq (RS.step HW4.o n2);have HN5:=zq hN;have HF5:=zq n4;clear n1 n2 n3 n4 hN
  have HR5:Hid (r=(SynP.want fin [58] s5).bind fun _ s=>(SynP.Qd fin s).bind fun c s=>(SynP.want fin [93] s).bind fun _ s=>if 64<SynP.side m5||64<SynP.side c then SynP.fault col 5 else SynP.ret ⟨m5,c,List.replicate (m5*c) (false,0)⟩ s):=by
   show _=_;rw[HR3.o,HN5.o];rfl
  go_wp2_with fail;refine(A9 _ m5 _ HF5.o.1).mono ?_;rintro e w6 ⟨rfl,b1⟩;have HS6:=zq (HS5.o.below b1);have HW6:=zq (RS.step HW5.o (Wr.of_below b1));obtain⟨d6,hd6⟩:=xq (SynP.side m5);rw[<-hd6];have HD6:=zq hd6
  have hdl6:d6<=65:=by rw[hd6];unfold SynP.side;split<;>omega
  clear b1 hd6;go_wp2_with fail;refine(Wv R tv L fin a5 s5 nv ns _ HS6.o [58]).mono ?_;rintro e w7 hn;rcases hN:SynP.want fin [58] s5 with- |(⟨fc,fk⟩|⟨u7',s7⟩)
  ·rw[hN]at hn;exact hn.elim
  ·rw[hN]at hn
   obtain⟨rfl,n1⟩:=hn;refine⟨rfl,?_⟩
   have hre:r=some (.error (fc,fk)):=by rw[HR5.o,hN];rfl
   rw[hre];exact⟨rfl,RS.step HWA.o (RS.step HW6.o n1)⟩
  rw[hN]at hn;obtain⟨v7,a7,rfl,n1,n2,n3,rfl⟩:=hn;have hl7:=Vs hN;have HS7:=zq n1;have HW7:=zq (RS.step HW6.o n2);have HN7:=zq hN;clear n1 n2 n3 hN
  have HR7:Hid (r=(SynP.Qd fin s7).bind fun c s=>(SynP.want fin [93] s).bind fun _ s=>if 64<SynP.side m5||64<SynP.side c then SynP.fault col 5 else SynP.ret ⟨m5,c,List.replicate (m5*c) (false,0)⟩ s):=by
   show _=_;rw[HR5.o,HN7.o];rfl
  go_wp2_with fail;refine(Vh R tv L fin a7 s7 nv ns _ HS7.o).mono ?_;rintro e w8 hn;rcases hN:SynP.Qd fin s7 with- |(⟨fc,fk⟩|⟨m8,s8⟩)
  ·rw[hN]at hn;exact hn.elim
  ·rw[hN]at hn
   obtain⟨rfl,n1⟩:=hn;refine⟨rfl,?_⟩
   have hre:r=some (.error (fc,fk)):=by rw[HR7.o,hN];rfl
   rw[hre];exact⟨rfl,RS.step HWA.o (RS.step HW7.o n1)⟩
  rw[hN]at hn;obtain⟨v8,a8,rfl,n1,n2,n3,n4⟩:=hn;have hl8:=Yo hN;have HS8:=zq n1;have HW8:=zq (RS.step HW7.o n2);have HN8:=zq hN;have HF8:=zq n4;clear n1 n2 n3 n4 hN
  have HR8:Hid (r=(SynP.want fin [93] s8).bind fun _ s=>if 64<SynP.side m5||64<SynP.side m8 then SynP.fault col 5 else SynP.ret ⟨m5,m8,List.replicate (m5*m8) (false,0)⟩ s):=by
   show _=_;rw[HR7.o,HN8.o];rfl
  go_wp2_with fail;refine(A9 _ m8 _ HF8.o.1).mono ?_;rintro e w9 ⟨rfl,b1⟩;have HS9:=zq (HS8.o.below b1);have HW9:=zq (RS.step HW8.o (Wr.of_below b1));obtain⟨d9,hd9⟩:=xq (SynP.side m8);rw[<-hd9];have HD9:=zq hd9
  have hdl9:d9<=65:=by rw[hd9];unfold SynP.side;split<;>omega
  clear b1 hd9;go_wp2_with fail;refine(Wv R tv L fin a8 s8 nv ns _ HS9.o [93]).mono ?_;rintro e w10 hn;rcases hN:SynP.want fin [93] s8 with- |(⟨fc,fk⟩|⟨u10',s10⟩)
  ·rw[hN]at hn;exact hn.elim
  ·rw[hN]at hn
   obtain⟨rfl,n1⟩:=hn;refine⟨rfl,?_⟩
   have hre:r=some (.error (fc,fk)):=by rw[HR8.o,hN];rfl
   rw[hre];exact⟨rfl,RS.step HWA.o (RS.step HW9.o n1)⟩
  rw[hN]at hn;obtain⟨v10,a10,rfl,n1,n2,n3,rfl⟩:=hn;have hl10:=Vs hN;have HS10:=zq n1;have HW10:=zq (RS.step HW9.o n2);have HN10:=zq hN;clear n1 n2 n3 hN
  have HR10:Hid (r=if 64<d6||64<d9 then SynP.fault col 5 else SynP.ret ⟨m5,m8,List.replicate (m5*m8) (false,0)⟩ s10):=by
   show _=_;rw[HR8.o,HN10.o,HD6.o,HD9.o];rfl
  have hb10:=(HW10.o.block w.heap.size hlA (by omega) (by simp)).trans HBLK.o;have e0:w10.cell? ⟨w.heap.size,0,none⟩=some (.int .i64 0):=(cell_of_row w10 _ _ _ _ _ hb10).trans rfl;have e1:w10.cell? ⟨w.heap.size,1,none⟩=some (.int .i64 0):=(cell_of_row w10 _ _ _ _ _ hb10).trans rfl;have e2:w10.cell? ⟨w.heap.size,2,none⟩=some (.slice none 0 0):=(cell_of_row w10 _ _ _ _ _ hb10).trans rfl;have f0:w10.frozen? ⟨w.heap.size,0,none⟩=false:=frozen_of_row w10 _ 0 _ _ hb10;have f1:w10.frozen? ⟨w.heap.size,1,none⟩=false:=frozen_of_row w10 _ 1 _ _ hb10;have f2:w10.frozen? ⟨w.heap.size,2,none⟩=false:=frozen_of_row w10 _ 2 _ _ hb10;have HB10:=zq hb10;clear hb10;by_cases h6:64<d6
  ·have hb6:(64:Int)<(d6:Int):=by omega
   have hre:r=some (.error (col,5)):=by rw[HR10.o,if_pos (by simp[h6])];rfl
   have HRE:=zq hre;clear h6 hre;go_wp2_with fail;refine⟨rfl,?_⟩;rw[HRE.o];exact⟨rfl,RS.step HWA.o HW10.o⟩
  ·by_cases h9:64<d9
   ·have hb6: ¬(64:Int)<(d6:Int):=by omega
    have hb9:(64:Int)<(d9:Int):=by omega
    have hre:r=some (.error (col,5)):=by rw[HR10.o,if_pos (by simp[h9])];rfl
    have HRE:=zq hre;clear h6 h9 hre;go_wp2_with fail;refine⟨rfl,?_⟩;rw[HRE.o];exact⟨rfl,RS.step HWA.o HW10.o⟩
   ·have hb6: ¬(64:Int)<(d6:Int):=by omega
    have hb9: ¬(64:Int)<(d9:Int):=by omega
    have hm5:m5=d6:=by have:=HD6.o;unfold SynP.side at this;split at this<;>omega
    have hm8:m8=d9:=by have:=HD9.o;unfold SynP.side at this;split at this<;>omega
    have hre:r=some (.ok (⟨d6,d9,List.replicate (d6*d9) (false,0)⟩,s10)):=by rw[HR10.o,if_neg (by simp;omega),hm5,hm8];rfl
    obtain⟨d,hd⟩:=xq (d6*d9);rw[<-hd]at hre
    have hdl:d<=4096:=by rw[hd];exact Nat.mul_le_mul (show d6<=64 by omega) (show d9<=64 by omega)
    have hdi:(d6:Int)*(d9:Int)=(d:Int):=by rw[hd];exact(Int.natCast_mul d6 d9).symm
    have HRE:=zq hre;have hmk:=Qvr d hdl;have hsl10:w.heap.size<w10.heap.size:=Nat.lt_of_lt_of_le hlA HW10.o.size;clear h6 h9 hre hm5 hm8 hd;go_wp2_with fail;obtain⟨wS,hwS⟩:∃wS,wS=((w10.setCell ⟨w.heap.size,0,none⟩ (.int .i64 (d6:Int))).setCell ⟨w.heap.size,1,none⟩ (.int .i64 (d9:Int))).setCell ⟨w.heap.size,2,none⟩ (.slice (some ⟨w10.heap.size,0,none⟩) d d):=⟨_,rfl⟩;rw[<-hwS];obtain⟨p1,p2,p3,-⟩:=Qjz HB10.o hwS;have hsz:wS.heap.size=w10.heap.size:=p3;obtain⟨q2,q3⟩:=H.o.loc HS10.o (RS.step HWA.o HW10.o) p2 (fun q hq=>by cases hq;exact Nat.le_refl _);have hz:=IRs.zeros wS d hdl;have hzo:=IOw.zeros wS d hdl w.heap.size (by rw[hsz];exact Nat.le_of_lt hsl10);rw[hsz]at hz hzo;have hbF:=((Qq wS (.cells (madeCells #[.bool false,.slice none 0 0] (d*2)) 62)).block w.heap.size (by rw[hsz];exact hsl10)).trans p1;refine bodyPost_ret (results_cell_row rfl _ _ w.heap.size 47 _ _ _ rfl hbF Tryz.underlying47 rfl (by kernel_rfl)) rfl ?_;rw[HRE.o];have hbl:=Qq wS (.cells (madeCells #[.bool false,.slice none 0 0] (d*2)) 62);exact⟨_,_,rfl,q2.below hbl,RS.step q3 (Wr.of_below hbl),by omega,_,rfl,hz,hzo⟩
 ·rw[if_neg hsh]at HR2
  cases hk:SynP.Qb 1 s2.ts
  case' true=>
   rw[hk]at hck
   have hm0:SynP.Qk [58] s2.ts.tail=false:=by
    rw[hk]at hsh;simpa using hsh
   rw[hm0]at hcm;have HCK:=zq hck;have HCM:=zq hcm;clear hsh hck hcm hk hm0;go_wp2_with fail;refine(Qa R tv L fin a2 s2 nv ns _ HS2.o 0 1 [] (by omega) (by omega)).mono ?_;rintro e w3 ⟨rfl,b1⟩;rw[HCK.o];have HS3:=zq (HS2.o.below b1);have HW3:=zq (RS.step HW2.o (Wr.of_below b1));clear b1;go_wp2_with fail;refine(Qa R tv L fin a2 s2 nv ns _ HS3.o 1 3 [58] (by omega) (by omega)).mono ?_;rintro e w4 ⟨rfl,b1⟩;rw[HCM.o];have HS4:=zq (HS3.o.below b1);have HW4:=zq (RS.step HW3.o (Wr.of_below b1))
  case' false=>
   rw[hk]at hck;have HCK:=zq hck;clear hsh hck hcm hk;go_wp2_with fail;refine(Qa R tv L fin a2 s2 nv ns _ HS2.o 0 1 [] (by omega) (by omega)).mono ?_;rintro e w4 ⟨rfl,b1⟩;rw[HCK.o];have HS4:=zq (HS2.o.below b1);have HW4:=zq (RS.step HW2.o (Wr.of_below b1))
  all_goals
   clear b1;go_wp2_with fail;refine(Qx4 R tv L fin a2 s2 nv ns _ HS4.o f (fun e=>HNE.o (by rw[HR2.o,e];rfl))).mono ?_;rintro e w20 hn;rcases hN:SynP.Xj fin f [] [] s2 with- |(⟨fc,fk⟩|⟨⟨acc,lens⟩,s20⟩)
   ·rw[hN]at hn;exact hn.elim
   ·rw[hN]at hn
    obtain⟨rfl,n1⟩:=hn;refine⟨rfl,?_⟩
    have hre:r=some (.error (fc,fk)):=by rw[HR2.o,hN];rfl
    rw[hre];exact⟨rfl,RS.step HWA.o (RS.step HW4.o n1)⟩
   rw[hN]at hn;obtain⟨v20,a20,rfl,n1,n2,n3,av,lv,cs,rfl,hEn⟩:=hn;obtain⟨es1,-,es3⟩:=SynP.Sg fin f _ _ _ _ hN rfl (fun x hx=>by cases hx);simp only at es1 es3 hEn
   have HR20:Hid (r=SynP.Ys col (acc,lens) s20):=by show _=_;rw[HR2.o,hN];rfl
   have HS20:=zq n1;have HW20:=zq (RS.step HW4.o n2);obtain⟨ao,acap,rfl,-,-,-⟩:=Qm hEn.own1;obtain⟨lo,lcap,rfl,l1,l2,l3⟩:=Qm hEn.own2;obtain⟨g,rfl,l4,l5,l6⟩:=l3 es3
   have HL6:Hid (∀(j x:Nat),lens[j]?=some x->w20.cell? ⟨g,j,none⟩=some (.int .i64 (x:Nat))):=by
    intro j x hj;have hjl:=(List.getElem?_eq_some_iff.1 hj).1;rw[l6 j (by omega)];simp[ints,hj]
   obtain⟨k0,hk0⟩:∃k0,lens[0]?=some k0:=⟨_,List.getElem?_eq_getElem es3⟩
   have hhd:lens.headD 0=k0:=by
    cases lens with
    |nil=>simp at es3
    |cons x l=>simpa using hk0
   have c0:=HL6.o 0 k0 hk0;obtain⟨nl,hnl⟩:=xq lens.length;obtain⟨nc,hnc⟩:=xq cs.length;rw[<-hnl]at es3 l1 ⊢;rw[<-hnc];have HNC:=zq hnc
   have hnlb:nl<=9223372036854775807:=by unfold maxLen at l2;omega
   have HEN:=zq hEn;have hsB:w.heap.size<w4.heap.size:=Nat.lt_of_lt_of_le hlA HW4.o.size;have HNL:=zq hnl;have HK0:=zq hk0;have HHD:=zq hhd;have hb10:=(HW20.o.block w.heap.size hlA (by omega) (by simp)).trans HBLK.o;have e0:w20.cell? ⟨w.heap.size,0,none⟩=some (.int .i64 0):=(cell_of_row w20 _ _ _ _ _ hb10).trans rfl;have e1:w20.cell? ⟨w.heap.size,1,none⟩=some (.int .i64 0):=(cell_of_row w20 _ _ _ _ _ hb10).trans rfl;have e2:w20.cell? ⟨w.heap.size,2,none⟩=some (.slice none 0 0):=(cell_of_row w20 _ _ _ _ _ hb10).trans rfl;have f0:w20.frozen? ⟨w.heap.size,0,none⟩=false:=frozen_of_row w20 _ 0 _ _ hb10;have f1:w20.frozen? ⟨w.heap.size,1,none⟩=false:=frozen_of_row w20 _ 1 _ _ hb10;have f2:w20.frozen? ⟨w.heap.size,2,none⟩=false:=frozen_of_row w20 _ 2 _ _ hb10;have HB10:=zq hb10;have hsl20:w.heap.size<w20.heap.size:=Nat.lt_of_lt_of_le hlA HW20.o.size;have hl20:=n3;clear n1 n2 n3 hEn es1 l2 l3 l6 hk0 hhd hnl hnc hb10 hN HR2;go_wp2_with fail;go_loopw [9,53] (fun _ iv wr=> ∃j:Nat,iv=.int .i64 (j:Nat)/\j<=nl/\(∀i x,i<j->lens[i]?=some x->x=k0)/\wr=w20) (fun _ iv _=>(nl-intOf iv).toNat)
   case atStart=>exact⟨0,rfl,Nat.zero_le _,fun i x h=>absurd h (Nat.not_lt_zero i),rfl⟩
   case round=>
    obtain⟨j,rfl,hjl,hall,hwe⟩:=hrel;subst hwe;have HALL:=zq hall;clear hall;by_cases hj:j<nl
    ·obtain⟨x,hx⟩:∃x,lens[j]?=some x:=⟨_,List.getElem?_eq_getElem (by rw[<-HNL.o];exact hj)⟩
     have cj:=HL6.o j x hx;have HX:=zq hx;clear hx;by_cases hxk:x=k0
     ·have hxb:((x:Int)==(k0:Int))=true:=by simp[hxk]
      have HXK:=zq hxk;clear hxk;go_wp2_with fail
      have hfin:∀i y,i<j+1->lens[i]?=some y->y=k0:=by
       intro i y hi hy;by_cases hij:i<j
       ·exact HALL.o i y hij hy
       ·have:i=j:=by omega
        subst this;rw[HX.o]at hy
        cases hy
        exact HXK.o
      first|exact⟨⟨j+1,rfl,by omega,hfin,rfl⟩,by simp[intOf]<;>omega⟩|exact⟨by (repeat apply Exists.intro);exact⟨⟨j+1,rfl,by omega,hfin,trivial⟩,rfl⟩,by simp[intOf]<;>omega⟩|exact⟨⟨j+1,rfl,by omega,hfin,trivial⟩,by simp[intOf]<;>omega⟩
     ·have hxb:((x:Int)==(k0:Int))=false:=by simp;omega
      have hre:r=some (.error (col,2)):=by
       rw[HR20.o];unfold SynP.Ys
       rw[if_pos (by
        rw[List.any_eq_true]
        exact⟨x,List.mem_of_getElem? HX.o,by rw[HHD.o];simpa using hxk⟩)]
       rfl
      have HRE:=zq hre;clear hxk hre;go_wp2_with fail;refine⟨rfl,?_⟩;rw[HRE.o];exact⟨rfl,RS.step HWA.o HW20.o⟩
    ·have hany: ¬(lens.any (· !=lens.headD 0))=true:=by
      rw[HHD.o,List.any_eq_true];rintro ⟨x,hx,hne⟩;obtain⟨i,hi⟩:=List.getElem?_of_mem hx;have hil:=(List.getElem?_eq_some_iff.1 hi).1;rw[<-HNL.o]at hil;have:=HALL.o i x (by omega) hi;simp[this]at hne
     have HRD:Hid (r=if 64<nl||64<k0 then SynP.fault col 5 else SynP.ret ⟨nl,k0,acc⟩ s20):=by
      show _=_;rw[HR20.o];unfold SynP.Ys;rw[if_neg hany];simp only[HHD.o,<-HNL.o]
     clear hany;by_cases h6:64<nl
     ·have hb6:(64:Int)<(nl:Int):=by omega
      have hre:r=some (.error (col,5)):=by rw[HRD.o,if_pos (by simp[h6])];rfl
      have HRE:=zq hre;clear h6 hre;go_wp2_with fail;refine⟨rfl,?_⟩;rw[HRE.o];exact⟨rfl,RS.step HWA.o HW20.o⟩
     ·by_cases h9:64<k0
      ·have hb6: ¬(64:Int)<(nl:Int):=by omega
       have hb9:(64:Int)<(k0:Int):=by omega
       have hre:r=some (.error (col,5)):=by rw[HRD.o,if_pos (by simp[h9])];rfl
       have HRE:=zq hre;clear h6 h9 hre;go_wp2_with fail;refine⟨rfl,?_⟩;rw[HRE.o];exact⟨rfl,RS.step HWA.o HW20.o⟩
      ·have hb6: ¬(64:Int)<(nl:Int):=by omega
       have hb9: ¬(64:Int)<(k0:Int):=by omega
       have hre:r=some (.ok (⟨nl,k0,acc⟩,s20)):=by rw[HRD.o,if_neg (by simp;omega)];rfl
       have HRE:=zq hre;clear h6 h9 hre;go_wp2_with fail;obtain⟨wS,hwS⟩:∃wS,wS=((wr.setCell ⟨w.heap.size,0,none⟩ (.int .i64 (nl:Int))).setCell ⟨w.heap.size,1,none⟩ (.int .i64 (k0:Int))).setCell ⟨w.heap.size,2,none⟩ (.slice ao nc acap):=⟨_,rfl⟩;rw[<-hwS];obtain⟨p1,p2,p3,p4⟩:=Qjz HB10.o hwS;obtain⟨q2,q3⟩:=H.o.loc HS20.o (RS.step HWA.o HW20.o) p2 (fun q hq=>by cases hq;exact Nat.le_refl _);have hz:=(HEN.o.wr p4 hsB).irs;have hzo:=(HEN.o.wr p4 hsB).iow.low (Nat.le_of_lt hsB);rw[<-HNC.o]at hz hzo;refine bodyPost_ret (results_cell_row rfl _ _ w.heap.size 47 _ _ _ rfl p1 Tryz.underlying47 rfl (by kernel_rfl)) rfl ?_;rw[HRE.o];exact⟨_,_,rfl,q2,q3,by omega,_,rfl,hz,hzo⟩
theorem Tryz.infoWss:(Tryz.prog.info? 36).map (fun i=>(i.zero,i.size,i.bytes))=some (some (.slice none 0 0),1,24):=by kernel_rfl
def Sx (w:World)(B:Nat)(og:Option Nat)(sv:Value)(s:List Nat):Prop:=∃ms:List Value,w.ownsRow B 59 1 sv ms.length ms/\ms.length=s.length/\(∀q,sv.ownBlock=some q->og≠some q)/\ ∀(i:Nat) (m:Value) (n:Nat),ms[i]?=some m->s[i]?=some n->NFr B w m n/\ ∀q,m.ownBlock=some q->sv.ownBlock≠some q/\og≠some q
theorem Sx.wr {w w':World}{B R:Nat}{og:Option Nat}{sv:Value}{s:List Nat}(h:Sx w B og sv s)(hw:Wr R none w w')(hR:R<B):Sx w' B og sv s:=by
 obtain⟨ms,H,I,J,E⟩:=h;exact⟨ms,Ws H hw hR,I,J,fun i m n hm hn=>⟨(E i m n hm hn).1.wr hw hR (fun q hq=>by cases hq),(E i m n hm hn).2⟩⟩
theorem Sx.mono {w:World}{B B':Nat}{og:Option Nat}{sv:Value}{s:List Nat}(h:Sx w B og sv s)(hb:B'<=B):Sx w B' og sv s:=by
 obtain⟨ms,H,I,J,E⟩:=h;exact⟨ms,J6 H hb,I,J,fun i m n hm hn=>⟨(E i m n hm hn).1.mono hb,(E i m n hm hn).2⟩⟩
theorem Sx.turn {w w':World}{B g:Nat}{og og':Option Nat}{sv:Value}{s:List Nat}(h:Sx w B og sv s)(hg:w.grownBy w' og)(hat:og'=some g)(hat2:og=some g\/g=w.heap.size):Sx w' B og' sv s:=by
 obtain⟨ms,I,O,J,T⟩:=h
 have H:∀q,q<w.heap.size->og≠some q->og'≠some q:=by
  intro q E K e;rw[hat]at e
  cases e
  rcases hat2 with h|h
  ·exact K h
  ·omega
 refine⟨ms,I.kept hg ?_,O,fun q E=>H q (I.lt q E).2 (J q E),fun i m n hm hn=> ?_⟩
 ·cases hv:sv.ownBlock with
  |none=>exact .inl rfl
  |some q=>exact .inr (fun e=>J q hv e.symm)
 ·obtain⟨q1,q2⟩:=T i m n hm hn
  exact⟨q1.grown hg (fun q E=>(q2 q E).2),fun q E=>⟨(q2 q E).1,H q (q1.2.1 q E).2 (q2 q E).2⟩⟩
theorem Sx.push {w w':World}{B g cap N:Nat}{og:Option Nat}{sv:Value}{ms:List Value}{s:List Nat}
  (h1:w.ownsRow B 59 1 sv ms.length ms) (h2:ms.length=s.length) (h3:∀q,sv.ownBlock=some q->og≠some q) (h4:∀(i:Nat) (m:Value) (n:Nat),ms[i]?=some m->s[i]?=some n->NFr B w m n/\ ∀q,m.ownBlock=some q->sv.ownBlock≠some q/\og≠some q)
  {m:Value} {k:Nat} (hm:NFr B w m k) (hd:∀q,m.ownBlock=some q->sv.ownBlock≠some q/\og≠some q) (hog:∀q,og=some q->q<w.heap.size)
  (hown:w'.ownsRow B 59 1 (.slice (some ⟨g,0,none⟩) N cap) N (ms++[m])) (hN:N=ms.length+1) (hg:w.grownBy w' sv.ownBlock) (hat:sv.ownBlock=some g\/g=w.heap.size):
  Sx w' B og (.slice (some ⟨g,0,none⟩) N cap) (s++[k]):=by
 subst hN
 have J:∀q,q<w.heap.size->sv.ownBlock≠some q->(Value.ownBlock (.slice (some ⟨g,0,none⟩) (ms.length+1) cap))≠some q:=by
  intro q E O e
  cases e
  rcases hat with h|h
  ·exact O h
  ·change g<_ at E;omega
 have K:(ms++[m]).length=ms.length+1:=by simp
 refine⟨ms++[m],by rw[K];exact hown,by rw[K,h2];simp,?_,?_⟩
 ·intro q E e
  cases E
  rcases hat with h|h
  ·exact h3 _ h e
  ·have:=hog _ e;change g<_ at this;omega
 ·intro i x n H I
  by_cases hlt:i<ms.length
  ·rw[List.getElem?_append_left hlt]at H
   rw[List.getElem?_append_left (by rw[<-h2];exact hlt)]at I;obtain⟨q1,q2⟩:=h4 i x n H I;exact⟨q1.grown hg (fun q E=>(q2 q E).1),fun q E=>⟨J q (q1.2.1 q E).2 (q2 q E).1,(q2 q E).2⟩⟩
  ·have T:i=ms.length:=by
    have:=(List.getElem?_eq_some_iff.1 H).1;rw[K]at this;omega
   subst T;rw[List.getElem?_append_right (Nat.le_refl _)]at H;rw[h2,List.getElem?_append_right (Nat.le_refl _)]at I;simp at H I;subst H;subst I;exact⟨hm.grown hg (fun q E=>(hd q E).1),fun q E=>⟨J q (hm.2.1 q E).2 (hd q E).1,(hd q E).2⟩⟩
structure Cx (w:World) (B:Nat) (lv:Value) (svs:List Value) (acc:List (List Nat)):Prop where
 own:w.ownsRow B 36 1 lv svs.length svs
 len:svs.length=acc.length
 el:∀(j:Nat) (sv:Value) (s:List Nat),svs[j]?=some sv->acc[j]?=some s->Sx w B lv.ownBlock sv s
theorem Cx.wr {w w':World}{B R:Nat}{lv:Value}{svs:List Value}{acc:List (List Nat)}(h:Cx w B lv svs acc)(hw:Wr R none w w')(hR:R<B):Cx w' B lv svs acc:=
 ⟨Ws h.own hw hR,h.len,fun j sv s h1 h2=>(h.el j sv s h1 h2).wr hw hR⟩
theorem Cx.push {w w':World}{B g cap N:Nat}{lv:Value}{svs:List Value}{acc:List (List Nat)}(h:Cx w B lv svs acc){sv:Value}{s:List Nat}(hs:Sx w B lv.ownBlock sv s)
  (hown:w'.ownsRow B 36 1 (.slice (some ⟨g,0,none⟩) N cap) N (svs++[sv])) (hN:N=svs.length+1) (hg:w.grownBy w' lv.ownBlock) (hat:lv.ownBlock=some g\/g=w.heap.size):
  Cx w' B (.slice (some ⟨g,0,none⟩) N cap) (svs++[sv]) (acc++[s]):=by
 subst hN
 have I:(svs++[sv]).length=svs.length+1:=by simp
 refine⟨by rw[I];exact hown,by rw[I,h.len];simp,?_⟩;intro j x t E H;by_cases hlt:j<svs.length
 ·rw[List.getElem?_append_left hlt]at E
  rw[List.getElem?_append_left (by rw[<-h.len];exact hlt)]at H;exact(h.el j x t E H).turn hg rfl hat
 ·have J:j=svs.length:=by
   have:=(List.getElem?_eq_some_iff.1 E).1;rw[I]at this;omega
  subst J;rw[List.getElem?_append_right (Nat.le_refl _)]at E;rw[h.len,List.getElem?_append_right (Nat.le_refl _)]at H;simp at E H;subst E;subst H;exact hs.turn hg rfl hat
theorem Sl.of_own {w:World}{B n:Nat}{e:TypeId}{v:Value}{xs:List Value}{P:Nat->Value->Prop}(h:w.ownsRow B e 1 v xs.length xs)(hn:xs.length=n)(hp:∀j u,xs[j]?=some u->P j u):Sl w v n P:=by
 obtain⟨ao,E,e,H,I,J⟩:=Qm h;subst hn;refine⟨ao,E,e,H,I,fun h0=> ?_⟩;obtain⟨g,rfl,a1,a2,a3⟩:=J h0;refine⟨g,0,rfl,a2,fun j hj=>⟨xs[j],?_,hp j _ (List.getElem?_eq_getElem hj)⟩⟩;rw[Nat.zero_add,a3 j (by omega),List.getElem?_eq_getElem hj]
theorem Cx.crd {w:World}{B:Nat}{lv:Value}{svs:List Value}{acc:List (List Nat)}(h:Cx w B lv svs acc):CRd w lv acc:=by
 refine Sl.of_own h.own h.len fun j sv hj=> ?_
 have H:j<acc.length:=by rw[<-h.len];exact(List.getElem?_eq_some_iff.1 hj).1
 refine⟨acc[j],List.getElem?_eq_getElem H,?_⟩;obtain⟨ms,J,I,-,K⟩:=h.el j sv acc[j] hj (List.getElem?_eq_getElem H);refine Sl.of_own J I fun i m hi=> ?_
 have E:i<acc[j].length:=by rw[<-I];exact(List.getElem?_eq_some_iff.1 hi).1
 exact⟨acc[j][i],List.getElem?_eq_getElem E,(K i m _ hi (List.getElem?_eq_getElem E)).1.1⟩
def CxO (R:Nat)(tv:Value)(L:List Tok)(fin:Nat)(nv:Value)(ns:List Nv)(w:World)(N:Nat)(r:SynP.PR (List (List Nat)))(lv:Value)(wr:World):Prop:=
 ∃f acc svs a' s',SynP.Xq fin f acc s'=r/\RS wr R tv L fin a' s' nv ns/\Wr R none w wr/\Cx wr w.heap.size lv svs acc/\s'.ts.length<=N/\acc.length+s'.ts.length<=67108864
def CxI (R:Nat)(tv:Value)(L:List Tok)(fin:Nat)(nv:Value)(ns:List Nv)(w:World)(N:Nat)(og:Option Nat)(r:SynP.PR (List Nat))(sv:Value)(wr:World):Prop:=
 ∃f x a' s',SynP.Q9 fin f x s'=r/\RS wr R tv L fin a' s' nv ns/\Wr R none w wr/\Sx wr w.heap.size og sv x/\s'.ts.length+1<=N/\x.length+s'.ts.length<=67108864
theorem H9 (R:Nat)(tv:Value)(L:List Tok)(fin a:Nat)(s:SynP.St)(nv:Value)(ns:List Nv)(w:World)(h:RS w R tv L fin a s nv ns)(f:Nat)(hf:SynP.Q5 fin f s≠none):
  Calls Tryz.prog 114 #[.pointer (some ⟨R,0,none⟩)] w (RB (SynP.Q5 fin f s) R tv L fin s nv ns (fun l v w'=> ∃svs,Cx w' w.heap.size v svs l) w):=by
 have H:=zq h;have hRl:=h.lt;obtain⟨r,hr⟩:=xq (SynP.Q5 fin f s);rw[<-hr]at hf ⊢
 have HR0:Hid (r=(SynP.want fin [123] s).bind fun _ s=>if SynP.Qk [125] s.ts then SynP.ret [] s.adv else SynP.Xq fin f [] s):=by
  show _=_;rw[hr];rfl
 have HNE:=zq hf
 have hts:s.ts.length<=67108864:=by have:=h.short;rw[<-h.drop,List.length_drop];omega
 obtain⟨i0,hi,hz0,hz1,hz2⟩:=info_parts Tryz.infoWs;obtain⟨j0,hj,hk0,hk1,hk2⟩:=info_parts Tryz.infoWss;clear h hr hf;go_enter Tryz.func114,Tryz.ntmps114;go_wp2_with fail;refine(Wv R tv L fin a s nv ns _ H.o [123]).mono ?_;rintro e w2 hn;rcases hN:SynP.want fin [123] s with- |(⟨fc,fk⟩|⟨u2',s2⟩)
 ·rw[hN]at hn;exact hn.elim
 ·rw[hN]at hn
  obtain⟨rfl,n1⟩:=hn;refine⟨rfl,?_⟩
  have hre:r=some (.error (fc,fk)):=by rw[HR0.o,hN];rfl
  rw[hre];exact⟨rfl,n1⟩
 rw[hN]at hn;obtain⟨v2,a2,rfl,n1,n2,n3,rfl⟩:=hn;have hl2:=Vs hN
 have HR2:Hid (r=if SynP.Qk [125] s2.ts then SynP.ret [] s2.adv else SynP.Xq fin f [] s2):=by show _=_;rw[HR0.o,hN];rfl
 have HA:=zq (Qq w2 (.cells #[] 36));have HS2:=zq (n1.below HA.o);have HW2:=zq (RS.step n2 (Wr.of_below HA.o))
 have hC2:Cx (w2.alloc (.cells #[] 36)) w.heap.size (.slice (some ⟨w2.heap.size,0,none⟩) 0 0) [] []:=
  ⟨World.ownsRow_made w2 #[] 0 n2.size (Nat.zero_le _) rfl,rfl,fun j sv s h=>by simp at h⟩
 have HC2:=zq hC2;clear n1 n2 n3 hN hC2;go_wp2_with fail;refine(Yv R tv L fin a2 s2 nv ns _ HS2.o [125]).mono ?_;rintro e w3 ⟨rfl,t1,t2⟩;have HW3:=zq (RS.step HW2.o t1);have HC3:=zq (HC2.o.wr t1 hRl);clear t1
 cases hm:SynP.Qk [125] s2.ts with
 |true=>
  rw[if_pos hm]at t2;have HS3:=zq t2;have HM:=zq hm;clear t2 hm;go_wp2_with fail;go_ret;rw[HR2.o,if_pos HM.o]
  exact⟨_,_,rfl,HS3.o,HW3.o,Nat.le_trans (Jy s2) (by omega),_,HC3.o⟩
 |false=>
  rw[if_neg (by rw[hm];decide)]at t2 HR2;have HS3:=zq t2;have HM:=zq hm;have HST:Hid (CxO R tv L fin nv ns w s.ts.length r (.slice (some ⟨w2.heap.size,0,none⟩) 0 0) w3):=⟨f,[],[],a2,s2,HR2.o.symm,t2,HW3.o,HC3.o,by omega,by simp;omega⟩;clear t2 hm HR2;go_wp2_with fail;go_loopw [2,3,4] (fun _ lv _ wr=>CxO R tv L fin nv ns w s.ts.length r lv wr) (fun _ _ _ wr=>Xd L R wr)
  case atStart=>exact HST.o
  clear HST HS3 HW3 HC3 HS2 HW2 HC2
  case round=>
   obtain⟨f,acc,svs,a4,s4,hen,hrs,hwr,hcx,hb1,hb2⟩:=hrel;obtain⟨wo,rfl⟩:=xq wr
   cases f with
   |zero=>exact absurd hen.symm HNE.o
   |succ f=>
    have HR4:Hid (r=(SynP.Qd fin s4).bind fun n s=>(SynP.Q9 fin f [n] s).bind fun x s=>if SynP.Qk [125] s.ts then SynP.ret (acc++[x]) s.adv else (SynP.want fin [44] s).bind fun _ s=>SynP.Xq fin f (acc++[x]) s):=hen.symm;have HS4:=zq hrs;have HW4:=zq hwr;have HC4:=zq hcx;have HL4:=zq hrs.left;have hRo:=hrs.lt;clear hen hrs hwr hcx;go_wp2_with fail;refine(Vh R tv L fin a4 s4 nv ns _ HS4.o).mono ?_;rintro e w5 hn;rcases hN:SynP.Qd fin s4 with- |(⟨fc,fk⟩|⟨m,s5⟩)
    ·rw[hN]at hn;exact hn.elim
    ·rw[hN]at hn
     obtain⟨rfl,n1⟩:=hn;refine⟨rfl,?_⟩
     have hre:r=some (.error (fc,fk)):=by rw[HR4.o,hN];rfl
     rw[hre];exact⟨rfl,RS.step HW4.o n1⟩
    rw[hN]at hn;obtain⟨v5,a5,rfl,n1,n2,n3,n4⟩:=hn;have hl5:=Yo hN
    have HR5:Hid (r=(SynP.Q9 fin f [m] s5).bind fun x s=>if SynP.Qk [125] s.ts then SynP.ret (acc++[x]) s.adv else (SynP.want fin [44] s).bind fun _ s=>SynP.Xq fin f (acc++[x]) s):=by show _=_;rw[HR4.o,hN];rfl
    obtain⟨vo,vcap,vl,rfl⟩:∃vo vcap vl,v5=.slice vo vl vcap:=by
     obtain⟨⟨xs,hx,-⟩,-⟩:=n4;obtain⟨vo,vcap,e,-⟩:=hx.2;exact⟨vo,vcap,_,e⟩
    have HA5:=zq (Qq w5 (.cells #[.slice vo vl vcap] 59));have HS5:=zq (n1.below HA5.o);have HW5:=zq (RS.step n2 (Wr.of_below HA5.o))
    have hSx:Sx (w5.alloc (.cells #[.slice vo vl vcap] 59)) wo.heap.size u3.ownBlock (.slice (some ⟨w5.heap.size,0,none⟩) 1 1) [m]:=by
     refine⟨[.slice vo vl vcap],⟨rfl,.inr ⟨w5.heap.size,1,_,rfl,n2.size,heap_alloc_new w5 _,Nat.le_refl _,by unfold maxLen;omega,rfl,rfl⟩⟩,rfl,?_,?_⟩
     ·intro q hq e
      cases hq
      have h7:=(HC4.o.own.lt _ e).2;change w5.heap.size<wo.heap.size at h7;have:=n2.size;omega
     ·intro i x n hx hn
      have hi:i=0:=by have:=(List.getElem?_eq_some_iff.1 hx).1;simp at this;exact this
      subst hi;simp at hx hn;subst hx;subst hn;refine⟨n4.wr (R:=R) (og:=none) (Wr.of_below HA5.o) hRo (fun q hq=>by cases hq),fun q hq=>⟨fun e=> ?_,fun e=> ?_⟩⟩
      ·cases e
       have h7:=(n4.2.1 _ hq).2;change w5.heap.size<w5.heap.size at h7;omega
      ·have:=(HC4.o.own.lt _ e).2
       have:=(n4.2.1 q hq).1;omega
    obtain⟨r2,hr2⟩:=xq (SynP.Q9 fin f [m] s5);rw[<-hr2]at HR5
    have HR2N:Hid (r2≠none):=by
     intro e;have:=HR5.o;rw[e]at this;exact HNE.o this
    have HI:Hid (CxI R tv L fin nv ns wo s4.ts.length u3.ownBlock r2 (.slice (some ⟨w5.heap.size,0,none⟩) 1 1) (w5.alloc (.cells #[.slice vo vl vcap] 59))):=⟨f,[m],a5,s5,hr2.symm,HS5.o,HW5.o,hSx,by omega,by simp;omega⟩;clear n1 n2 n3 n4 hN hSx hr2 HR4 HS5 HW5;go_wp2_with fail;go_loopw [4] (fun sv wr=>CxI R tv L fin nv ns wo s4.ts.length u3.ownBlock r2 sv wr) (fun _ wr=>Xd L R wr)
    case atStart=>exact HI.o
    clear HI
    case round=>
     obtain⟨f2,x,a6,s6,hsi,hrs,hwr,hsx,hb3,hb4⟩:=hrel
     cases f2 with
     |zero=>exact absurd hsi.symm HR2N.o
     |succ f2=>
      have HS6:=zq hrs;have HW6:=zq hwr;have HX6:=zq hsx;have HL6:=zq hrs.left;have HSI:=zq hsi;have hck:=Xv 1 [] s6.ts (by decide);clear hrs hwr hsx hsi
      cases hk:SynP.Qb 1 s6.ts with
      |true=>
       rw[hk]at hck;have HCK:=zq hck
       have HSJ:Hid (r2=(SynP.Qd fin s6).bind fun n s=>SynP.Q9 fin f2 (x++[n]) s):=by
        have h1:=HSI.o;unfold SynP.Q9 at h1;rw[if_pos hk]at h1;exact h1.symm
       clear hck hk HSI;go_wp2_with fail;refine(Qa R tv L fin a6 s6 nv ns _ HS6.o 0 1 [] (by omega) (by omega)).mono ?_;rintro e w7 ⟨rfl,b1⟩;rw[HCK.o];have HS7:=zq (HS6.o.below b1);have HW7:=zq (RS.step HW6.o (Wr.of_below b1));have HX7:=zq (HX6.o.wr (R:=R) (Wr.of_below b1) hRo);clear b1;go_wp2_with fail;refine(Vh R tv L fin a6 s6 nv ns _ HS7.o).mono ?_;rintro e w8 hn;rcases hN:SynP.Qd fin s6 with- |(⟨fc,fk⟩|⟨m2,s8⟩)
       ·rw[hN]at hn;exact hn.elim
       ·rw[hN]at hn
        obtain⟨rfl,n1⟩:=hn;refine⟨rfl,?_⟩
        have hre:r=some (.error (fc,fk)):=by rw[HR5.o,HSJ.o,hN];rfl
        rw[hre];exact⟨rfl,RS.step HW4.o (RS.step HW7.o n1)⟩
       rw[hN]at hn;obtain⟨v8,a8,rfl,n1,n2,n3,n4⟩:=hn;have hl8:=Yo hN
       have HSK:Hid (SynP.Q9 fin f2 (x++[m2]) s8=r2):=by show _=_;rw[HSJ.o,hN];rfl
       obtain⟨yo,ycap,yl,rfl⟩:∃vo vcap vl,v8=.slice vo vl vcap:=by
        obtain⟨⟨xs,hx,-⟩,-⟩:=n4;obtain⟨vo,vcap,e,-⟩:=hx.2;exact⟨vo,vcap,_,e⟩
       have HA8:=zq (Qq w8 (.cells #[.slice yo yl ycap] 59));have HS8:=zq (n1.below HA8.o);have HW8:=zq (RS.step (RS.step HW7.o n2) (Wr.of_below HA8.o));obtain⟨ms,h1,h2,h3,h4⟩:=(HX7.o.wr n2 hRo).wr (R:=R) (Wr.of_below HA8.o) hRo;have hsz7:=HW7.o.size;have hsz8:=n2.size;have hm8:NFr wo.heap.size (w8.alloc (.cells #[.slice yo yl ycap] 59)) (.slice yo yl ycap) m2:=(n4.wr (R:=R) (og:=none) (Wr.of_below HA8.o) (by omega) (fun q hq=>by cases hq)).mono hsz7
       have hd8:∀q,(Value.ownBlock (.slice yo yl ycap))=some q->u4.ownBlock≠some q/\u3.ownBlock≠some q:=by
        intro q hq;have h7:=(n4.2.1 q hq).1;refine⟨fun e=> ?_,fun e=> ?_⟩
        ·obtain⟨ms',g1,-⟩:=HX7.o
         have:=(g1.lt q e).2;omega
        ·have:=(HC4.o.own.lt q e).2;omega
       obtain⟨nx,hnx⟩:=xq ms.length;have HNX:=zq hnx
       have hnxl:nx<=67108864:=by rw[hnx,h2];omega
       have H1:=zq h1;have H2:=zq h2;have H3:=zq h3;have H4:=zq h4;have HM8:=zq hm8;have HD8:=zq hd8
       have hOW:(w8.alloc (.cells #[.slice yo yl ycap] 59)).ownsRow wo.heap.size 59 1 u4 nx ms:=by rw[hnx];exact h1
       have HOW:=zq hOW;clear n1 n2 n3 n4 hN h1 h2 h3 h4 hm8 hd8 hnx hOW;go_wp2_with (at_builtin;refine wpList_append_lies _ rfl _ _ 36 rfl wo.heap.size 59 i0 (.slice none 0 0) 1 24 Tryz.underlying36 hi hz0 hz1 hz2 rfl (by omega) u4 nx ms rfl HOW.o ⟨w8.heap.size,0,none⟩ 1 1 [.slice yo yl ycap] rfl rfl (LexP.Qc _ _ _ _ rfl) (by simp[Value.oneCell']) (by omega) (by unfold maxLen;omega) (by omega) (by simp;omega) (w8.heap.size+1) (by simp) ?_);intro gg cap w9 hown9 hgrow hat hlt9;have q1:=Sx.push (og:=u3.ownBlock) H1.o H2.o H3.o H4.o HM8.o HD8.o (fun q hq=>by have:=(HC4.o.own.lt q hq).2;simp;omega) hown9 (by rw[HNX.o]) hgrow (by simpa using hat);obtain⟨q2,q3⟩:=HS4.o.loc HS8.o HW8.o hgrow (fun q hq=>(H1.o.lt q hq).1);have HQ1:=zq q1;have HQ2:=zq q2;have HQ3:=zq q3;have HLFT:=zq q2.left;clear hown9 hgrow hat hlt9 q1 q2 q3;go_wp2_with fail;have hfin:CxI R tv L fin nv ns wo s4.ts.length u3.ownBlock r2 (.slice (some ⟨gg,0,none⟩) (nx+1) cap) w9:=⟨f2,x++[m2],a8,s8,HSK.o,HQ2.o,HQ3.o,HQ1.o,by omega,by rw[List.length_append,List.length_singleton];omega⟩
       have hlf:Xd L R w9<Xd L R wr:=by rw[HLFT.o,HL6.o];omega
       exact⟨hfin,hlf⟩
      |false=>
       rw[hk]at hck;have HCK:=zq hck
       have HSJ:Hid (r=if SynP.Qk [125] s6.ts then SynP.ret (acc++[x]) s6.adv else (SynP.want fin [44] s6).bind fun _ s=>SynP.Xq fin f (acc++[x]) s):=by
        have h1:=HSI.o;unfold SynP.Q9 at h1;rw[if_neg (by rw[hk];decide)]at h1;show _=_;rw[HR5.o,<-h1];rfl
       clear hck hk HSI;go_wp2_with fail;refine(Qa R tv L fin a6 s6 nv ns _ HS6.o 0 1 [] (by omega) (by omega)).mono ?_;rintro e w7 ⟨rfl,b1⟩;rw[HCK.o];have HS7:=zq (HS6.o.below b1);have HW7:=zq (RS.step HW4.o (RS.step HW6.o (Wr.of_below b1)));have HX7:=zq (HX6.o.wr (R:=R) (Wr.of_below b1) hRo);have HC7:=zq (HC4.o.wr (RS.step HW6.o (Wr.of_below b1)) hRl);clear b1
       obtain⟨so,scap,sl,rfl⟩:∃so scap sl,u4=.slice so sl scap:=by
        obtain⟨ms,h1,-⟩:=HX7.o;obtain⟨so,scap,e,-⟩:=Qm h1;exact⟨so,scap,_,e⟩
       have HA7:=zq (Qq w7 (.cells #[.slice so sl scap] 36));have HS8:=zq (HS7.o.below HA7.o);have HW8:=zq (RS.step HW7.o (Wr.of_below HA7.o));have HX8:=zq ((HX7.o.wr (R:=R) (Wr.of_below HA7.o) hRo).mono HW4.o.size);have HC8:=zq (HC7.o.wr (R:=R) (Wr.of_below HA7.o) hRl);obtain⟨nx,hnx⟩:=xq svs.length;have HNX:=zq hnx
       have hnxl:nx<=67108864:=by rw[hnx,HC8.o.len];omega
       have hOW:(w7.alloc (.cells #[.slice so sl scap] 36)).ownsRow w.heap.size 36 1 u3 nx svs:=by rw[hnx];exact HC8.o.own
       have HOW:=zq hOW;have hsz7:=HW7.o.size;clear hnx hOW;go_wp2_with (at_builtin;refine wpList_append_lies _ rfl _ _ 97 rfl w.heap.size 36 j0 (.slice none 0 0) 1 24 Tryz.underlying97 hj hk0 hk1 hk2 rfl (by omega) u3 nx svs rfl HOW.o ⟨w7.heap.size,0,none⟩ 1 1 [.slice so sl scap] rfl rfl (LexP.Qc _ _ _ _ rfl) (by simp[Value.oneCell']) (by omega) (by unfold maxLen;omega) (by omega) (by simp;omega) (w7.heap.size+1) (by simp) ?_);intro gg cap w9 hown9 hgrow hat hlt9;have q1:=HC8.o.push HX8.o hown9 (by rw[HNX.o]) hgrow (by simpa using hat);obtain⟨q2,q3⟩:=H.o.loc HS8.o HW8.o hgrow (fun q hq=>(HC8.o.own.lt q hq).1);have HQ1:=zq q1;have HQ2:=zq q2;have HQ3:=zq q3;clear hown9 hgrow hat hlt9 q1 q2 q3;go_wp2_with fail;refine(Yv R tv L fin a6 s6 nv ns _ HQ2.o [125]).mono ?_;rintro e w10 ⟨rfl,t1,t2⟩;have T1:=zq (RS.step HQ3.o t1);have TC:=zq (HQ1.o.wr t1 hRl);clear t1
       cases h93:SynP.Qk [125] s6.ts with
       |true=>
        rw[if_pos h93]at t2;have T2:=zq t2;have H93:=zq h93;clear t2 h93;go_wp2_with fail;go_ret;rw[HSJ.o,if_pos H93.o]
        exact⟨_,_,rfl,T2.o,T1.o,Nat.le_trans (Jy s6) (by omega),_,TC.o⟩
       |false=>
        rw[if_neg (by rw[h93];decide)]at t2;have T2:=zq t2;have H93:=zq h93;clear t2 h93;go_wp2_with fail;refine(Wv R tv L fin a6 s6 nv ns _ T2.o [44]).mono ?_;rintro e w11 hn;rcases hN:SynP.want fin [44] s6 with- |(⟨fc,fk⟩|⟨m,s11⟩)
        ·rw[hN]at hn;exact hn.elim
        ·rw[hN]at hn
         obtain⟨rfl,n1⟩:=hn;refine⟨rfl,?_⟩
         have hre:r=some (.error (fc,fk)):=by rw[HSJ.o,if_neg (by rw[H93.o];decide),hN];rfl
         rw[hre];exact⟨rfl,RS.step T1.o n1⟩
        ·rw[hN]at hn
         obtain⟨v,a11,rfl,n1,n2,n3,rfl⟩:=hn;have hwl:=Vs hN
         have hre:SynP.Xq fin f (acc++[x]) s11=r:=by rw[HSJ.o,if_neg (by rw[H93.o];decide),hN];rfl
         have HRF:=zq hre;have HL11:=zq n1.left;have HN1:=zq n1;have HN2:=zq (RS.step T1.o n2);have HC11:=zq (TC.o.wr n2 hRl);clear n1 n2 n3 hre hN;go_wp2_with fail;have hfin:CxO R tv L fin nv ns w s.ts.length r (.slice (some ⟨gg,0,none⟩) (nx+1) cap) w11:=⟨f,acc++[x],_,a11,s11,HRF.o,HN1.o,HN2.o,HC11.o,by omega,by rw[List.length_append,List.length_singleton];omega⟩
         have hlf:Xd L R w11<Xd L R wo:=by rw[HL11.o,HL4.o];omega
         exact⟨hfin,hlf⟩
structure PSt (R:Nat) (tv:Value) (L:List Tok) (fin:Nat) (s0:SynP.St) (nv:Value) (ns:List Nv) (w wr:World) (a':Nat) (s':SynP.St) (nv':Value) (ns':List Nv):Prop where
 rs:RS wr R tv L fin a' s' nv' (ns++ns')
 wr:Wr R nv.ownBlock w wr
 mv:Mv w nv.ownBlock nv'.ownBlock
 few:(ns++ns').length+s'.ts.length<=ns.length+s0.ts.length
 opn:s'.opened=s0.opened
 fresh:∀p∈ns',∀q,p.2.ownBlock=some q->w.heap.size<=q
theorem PSt.refl {R:Nat}{tv:Value}{L:List Tok}{fin a:Nat}{s:SynP.St}{nv:Value}{ns:List Nv}{w:World}(h:RS w R tv L fin a s nv ns):PSt R tv L fin s nv ns w w a s nv []:=
 ⟨by rw[List.append_nil];exact h,Wr.refl _ _ _,Mv.refl _ _,by rw[List.append_nil];exact Nat.le_refl _,rfl,fun p hp=>by cases hp⟩
theorem PSt.trans {R:Nat}{tv:Value}{L:List Tok}{fin:Nat}{s0 s1 s2:SynP.St}{nv nv1 nv2:Value}{ns ns1 ns2:List Nv}{w w1 w2:World}{a1 a2:Nat}(h:PSt R tv L fin s0 nv ns w w1 a1 s1 nv1 ns1)(k:PSt R tv L fin s1 nv1 (ns++ns1) w1 w2 a2 s2 nv2 ns2):
  PSt R tv L fin s0 nv ns w w2 a2 s2 nv2 (ns1++ns2):=
 ⟨by rw[<-List.append_assoc];exact k.rs,h.wr.trans h.mv k.wr,Mv.trans (R:=R) (w':=w1) h.mv h.wr.size k.mv,by have:=h.few;have:=k.few;rw[<-List.append_assoc];omega,k.opn.trans h.opn,fun p E q hq=>by
  rcases List.mem_append.1 E with E|E
  ·exact h.fresh p E q hq
  ·exact Nat.le_trans h.wr.size (k.fresh p E q hq)⟩
theorem PSt.step {R:Nat}{tv:Value}{L:List Tok}{fin:Nat}{s0 s1 s2:SynP.St}{nv nv1:Value}{ns ns1:List Nv}{w w1 w2:World}{a1 a2:Nat}(h:PSt R tv L fin s0 nv ns w w1 a1 s1 nv1 ns1)(k:RS w2 R tv L fin a2 s2 nv1 (ns++ns1))(hw:Wr R none w1 w2)(hl:s2.ts.length<=s1.ts.length)(ho:s2.opened=s1.opened):
  PSt R tv L fin s0 nv ns w w2 a2 s2 nv1 ns1:=
 ⟨k,h.wr.trans h.mv (hw.weak _),h.mv,by have:=h.few;omega,ho.trans h.opn,h.fresh⟩
theorem PSt.putS {R:Nat}{tv:Value}{L:List Tok}{fin:Nat}{s0 s1:SynP.St}{nv nv1 nv2:Value}{ns ns1:List Nv}{w w1 w2:World}{a1:Nat}{nd:SynP.Node}{kv:Value}(h:PSt R tv L fin s0 nv ns w w1 a1 s1 nv1 ns1)
  (k:RS w2 R tv L fin a1 s1 nv2 (ns++ns1++[(nd,kv)])) (hw:Wr R nv1.ownBlock w1 w2) (hm:Mv w1 nv1.ownBlock nv2.ownBlock) (hf:(ns++ns1).length+1+s1.ts.length<=ns.length+s0.ts.length) (hv:∀q,kv.ownBlock=some q->w.heap.size<=q):
  PSt R tv L fin s0 nv ns w w2 a1 s1 nv2 (ns1++[(nd,kv)]):=
 ⟨by rw[<-List.append_assoc];exact k,h.wr.trans h.mv hw,Mv.trans (R:=R) (w':=w1) h.mv h.wr.size hm,by rw[<-List.append_assoc,List.length_append,List.length_singleton];omega,h.opn,fun p E q hq=>by
  rcases List.mem_append.1 E with E|E
  ·exact h.fresh p E q hq
  ·rw[List.mem_singleton.1 E]at hq;exact hv q hq⟩
def RP {α:Type}(r:SynP.PR α)(R:Nat)(tv:Value)(L:List Tok)(fin:Nat)(s:SynP.St)(nv:Value)(ns:List Nv)(Q:α->Value->List Nv->Value->World->Prop)(w:World)(e:Ending)(w':World):Prop:=
 match r with
 |none=>False
 |some (.error (c,k))=>e=T7 c k/\Wr R nv.ownBlock w w'
 |some (.ok (x,s'))=> ∃v a' nv' ns',e=.returned v/\PSt R tv L fin s nv ns w w' a' s' nv' ns'/\Q x v ns' nv' w'
def ExQ (ns:List Nv)(e:SynP.Ex)(v:Value)(ns':List Nv)(_:Value)(_:World):Prop:=v=.int .i64 ((ns.length+e.size-1:Nat):Int)/\ns'.map Prod.fst=e.flat ns.length
mutual
theorem Uu:∀(e:SynP.Ex) (o:Nat),(e.flat o).length=e.size
 | .num _,_| .name _,_| .mat _,_| .cpx _,_=>rfl
 | .neg a,o| .turn a,o| .pow a _,o=>by simp[SynP.Ex.flat,SynP.Ex.size,Uu a]
 | .add a b,o| .sub a b,o| .mul a b,o=>by simp[SynP.Ex.flat,SynP.Ex.size,Uu a,Uu b];omega
 | .call _ l,o=>by simp[SynP.Ex.flat,SynP.Ex.size,Un l]
theorem Un:∀(l:SynP.Exs) (o:Nat),(l.flat o).length=l.size
 | .nil,_=>rfl
 | .cons a l,o=>by simp[SynP.Exs.flat,SynP.Exs.size,Uu a,Un l]
end
theorem Y6:∀e:SynP.Ex,0<e.size:=by
 intro e;cases e<;>simp[SynP.Ex.size]
theorem ExQ.len {ns ns':List Nv}{e:SynP.Ex}{v nv:Value}{w:World}(h:ExQ ns e v ns' nv w):ns'.length=e.size:=by
 have:=congrArg List.length h.2;rw[List.length_map,Uu]at this;exact this
theorem KNew.fresh {w:World}{R:Nat}{tv:Value}{L:List Tok}{fin a:Nat}{s:SynP.St}{nv:Value}{ns:List Nv}(h:RS w R tv L fin a s nv ns)(ks:List Nat):
  KNew (w.alloc (.cells (ks.map fun k=>Value.int .i64 ((k:Nat):Int)).toArray 3)) R nv ns (.slice (some ⟨w.heap.size,0,none⟩) ks.length ks.length) ks\/9223372036854775807<ks.length:=by
 by_cases hl:ks.length<=9223372036854775807
 ·left
  have J:=heap_alloc_new w (.cells (ks.map fun k=>Value.int .i64 ((k:Nat):Int)).toArray 3);refine⟨⟨_,_,rfl,Nat.le_refl _,by unfold maxLen;omega,?_,fun _=>⟨_,rfl,fun j k hj=> ?_⟩,World.ownsRow_lit w _ _ (Nat.zero_le _) (by unfold maxLen;omega) (by simp)⟩,fun p hp q H e=> ?_⟩
  ·intro q H
   cases H
   refine⟨h.lt,by simp,fun e=> ?_⟩;have E:=(h.own.lt _ e).2;change w.heap.size<w.heap.size at E;omega
  ·rw[cell_of_row _ _ _ _ _ _ J];simp[hj]
  ·cases e
   obtain⟨ao,K,e1,-,-,I,-⟩:=h.kids p hp;have E:=(I _ H).2.1;change w.heap.size<w.heap.size at E;omega
 ·right;omega
theorem KNew.nil {w:World}{R:Nat}{nv:Value}{ns:List Nv}:KNew w R nv ns (.slice none 0 0) []:=
 ⟨⟨none,0,rfl,Nat.le_refl _,Nat.zero_le _,fun q hq=>by simp[Value.ownBlock]at hq,fun h=>absurd h (Nat.lt_irrefl _),World.ownsRow_nil _ _ _ _⟩,fun p _ q _ e=>by simp[Value.ownBlock]at e⟩
end Go.Proofs.YtgfmiladfeoldaaGreatDoor
