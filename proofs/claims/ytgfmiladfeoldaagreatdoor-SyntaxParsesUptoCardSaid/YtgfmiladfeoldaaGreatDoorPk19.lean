/- Joined texts of this claim's proof: RdC, RdD, RdE. -/
import Derived.Test.YtgfmiladfeoldaaGreatDoorPk1
import Derived.Test.YtgfmiladfeoldaaGreatDoorPk18
set_option linter.unusedSimpArgs false
set_option linter.unusedVariables false
set_option maxRecDepth 100000
set_option maxHeartbeats 16000000
namespace Go.Proofs.YtgfmiladfeoldaaGreatDoor
open Go.RowKit NatP LexP
theorem Ko (R:Nat)(lv:Value)(L:List Tok)(fin a:Nat)(s:SynP.St)(nv:Value)(ns:List Nv)(w:World)(h:RS w R lv L fin a s nv ns)(h0:s.ts≠[]):
  Calls Tryz.prog 267 #[.pointer (some ⟨R,0,none⟩)] w (RB (SynP.Wd fin s) R lv L fin s nv ns (fun _ v _=>v=.tuple #[]) w):=by
 have H:=zq h;have c3:=h.cells.2.2.2.1;have f3:=h.fro 3;have hsh:=h.short;have hle:=h.le;have hdp:=h.deep;obtain⟨op,hop⟩:=xq s.opened;rw[<-hop]at c3 hdp
 have e1:(((op+1:Nat)):Int)=(op:Int)+1:=by omega
 have HOP:=zq hop;by_cases hlt:100<op+1
 ·have hset:=heap_setCell_same w R 3 #[lv,.int .i64 (a:Nat),.int .i64 (fin:Nat),.int .i64 (s.opened:Nat),nv] 85 (.int .i64 ((op:Int)+1)) h.blk
  have hw:Wr R none w (w.setCell ⟨R,3,none⟩ (.int .i64 ((op:Int)+1))):=Wr.of_set w 3 _
  have hcl:∀(o:Nat) (u:Value),(#[lv,.int .i64 (a:Nat),.int .i64 (fin:Nat),.int .i64 ((op:Int)+1),nv]:Array Value)[o]?=some u->(w.setCell ⟨R,3,none⟩ (.int .i64 ((op:Int)+1))).cell? ⟨R,o,none⟩=some u:=by
   intro o u hu;rw[cell_of_row _ _ _ _ _ _ hset]
   simpa using hu
  have HC0:=zq (hcl 0 _ rfl);have HC1:=zq (hcl 1 _ rfl);have HC2:=zq (hcl 2 _ rfl);have hc3:=hcl 3 _ rfl;have HT:=zq (h.tks.wr hw h.lt (fun q hq=>by cases hq));have HD:=zq h.drop;have HW:=zq hw
  have hb:(100:Int)<(op:Int)+1:=by omega
  clear h hset hw hcl hop e1;go_enter Tryz.func267,Tryz.ntmps267;go_wp2_with fail;refine(Qzh R lv L fin a _ _ HC0.o HC1.o HC2.o HT.o HD.o hle).mono ?_;rintro e w1 ⟨rfl,b1⟩;have HB1:=zq b1;clear b1;go_wp2_with fail;refine⟨rfl,?_⟩;unfold SynP.Wd;rw[if_pos (by rw[<-HOP.o];exact hlt)];exact⟨rfl,HW.o.trans (Mv.refl _ _) (Wr.of_below HB1.o)⟩
 ·have hb: ¬((100:Int)<(op:Int)+1):=by omega
  obtain⟨g1,g2⟩:=h.setN 3 (.int .i64 ((s.opened+1:Nat):Int)) a {s with opened:=s.opened+1} (by simp) h.drop h.le h.few (by show s.opened+1<=_;omega);obtain⟨g3,g4⟩:=g1.adv (s:={s with opened:=s.opened+1}) h0;have hc1:=g1.cells.2.1;have hf1:=g1.fro 1;rw[<-hop,e1]at g1 g2 g3 g4 hc1 hf1;have G1:=zq g1;have G2:=zq g2;have G3:=zq g3;have G4:=zq g4;clear h h0 g1 g2 g3 g4 hop e1;go_enter Tryz.func267,Tryz.ntmps267;go_wp2_with fail;go_end0;unfold SynP.Wd;rw[if_neg (by rw[<-HOP.o];exact hlt),<-HOP.o];exact⟨_,_,rfl,G3.o,G2.o.trans (Mv.refl _ _) G4.o,Zh s,rfl⟩
theorem Hm (R:Nat)(lv:Value)(L:List Tok)(fin a:Nat)(s:SynP.St)(nv:Value)(ns:List Nv)(w:World)(h:RS w R lv L fin a s nv ns)(ho:0<s.opened):
  Calls Tryz.prog 268 #[.pointer (some ⟨R,0,none⟩)] w (RB (SynP.Y9 fin s) R lv L fin s nv ns (fun _ v _=>v=.tuple #[]) w):=by
 have H:=zq h;clear h
 cases hm:SynP.Qv [41] s.ts with
 |false=>
  have hw:SynP.want fin [41] s=SynP.unfit fin s:=by unfold SynP.want;rw[if_neg (by rw[hm];decide)]
  have HW:=zq hw;clear hm hw;go_enter Tryz.func268,Tryz.ntmps268;go_wp2_with fail;refine(Vn R lv L fin a s nv ns _ H.o [41]).mono ?_;rintro e w1 hw1;rw[HW.o]at hw1;obtain⟨rfl,b1⟩:=hw1;refine⟨rfl,?_⟩;unfold SynP.Y9;rw[HW.o]
  exact⟨rfl,b1⟩
 |true=>
  have hw:SynP.want fin [41] s=SynP.ret () s.adv:=by unfold SynP.want;rw[if_pos hm]
  have HW:=zq hw;clear hm hw;go_enter Tryz.func268,Tryz.ntmps268;go_wp2_with fail;refine(Vn R lv L fin a s nv ns _ H.o [41]).mono ?_;rintro e w1 hw1;rw[HW.o]at hw1;obtain⟨v,a',rfl,b1,b2,b3,rfl⟩:=hw1;have c3:=b1.cells.2.2.2.1;have f3:=b1.fro 3;obtain⟨op,hop⟩:∃op,s.opened=op+1:=⟨s.opened-1,by omega⟩;have e1:s.adv.opened=op+1:=hop;obtain⟨g1,g2⟩:=b1.setN 3 (.int .i64 (op:Int)) a' {s.adv with opened:=op} (by simp) b1.drop b1.le b1.few (by have:=b1.deep;show op<=_;omega);rw[e1]at c3
  have e2:((op+1:Nat):Int)=(op:Int)+1:=by omega
  rw[e2]at c3
  have hd:op<=100:=by have:=b1.deep;omega
  have G1:=zq g1;have G2:=zq g2;have B2:=zq b2;have HOP:=zq hop;clear b1 b2 b3 hop e1 g1 g2 e2 ho;go_wp2_with fail;go_end0;unfold SynP.Y9;rw[HW.o];refine⟨_,a',rfl,?_,B2.o.trans (Mv.refl _ _) G2.o,Zh s,rfl⟩
  have e3:s.adv.opened-1=op:=by show s.opened-1=op;rw[HOP.o];omega
  rw[e3];exact G1.o
theorem Cd (v:Value)(n:Nat)(w:World)(h:NRd w v n):
  Calls Tryz.prog 110 #[v] w fun e w'=>e=.returned (.int .i64 (SynP.side n:Nat))/\Below w.heap.size w w':=by
 obtain⟨xs,hr,hv,hl⟩:=h;have HR:=zq hr;obtain⟨ao,cap,rfl,hnc,hcm,hok,hsh⟩:=hr.2;have HB0:=zq (Qq w (.cells #[.int .u64 64] 101));have hblk:Blk (w.alloc (.cells #[.int .u64 64] 101)) w.heap.size [64]:=⟨heap_alloc_new w _,by intro x hx;simp at hx;subst hx;unfold BB;omega⟩;have HR64:=zq (hblk.whole (by simp));have HV:=zq hv
 have h64:NatP.val [64]=64:=by simp[NatP.val]
 obtain⟨ci,hci⟩:=xq (cmpI (NatP.val xs) (NatP.val [64]));have HCI:=zq hci;by_cases hlt:64<n
 ·have hcb:(0:Int)<ci:=by
   rw[hci,h64,hv];unfold cmpI;rw[if_neg (by omega),if_pos (by omega)];decide
  have HS:Hid (SynP.side n=65):=by show _=_;unfold SynP.side;rw[if_pos hlt]
  clear hr hv hok hsh hblk h64 hci hlt;go_enter Tryz.func110,Tryz.ntmps110;go_wp2_with fail;refine(Va _ _ xs [64] _ (HR.o.below HB0.o) HR64.o).mono ?_;rintro e w1 ⟨rfl,b1⟩;rw[<-HCI.o];have HB1:=zq (HB0.o.trans (b1.mono (by simp)));clear b1;go_wp2_with fail;go_ret;exact⟨by rw[HS.o];rfl,HB1.o⟩
 ·have hcb: ¬((0:Int)<ci):=by
   rw[hci,h64,hv];unfold cmpI;split
   ·decide
   ·first|decide|(rw[if_neg (by omega)];decide)
  have HS:Hid (SynP.side n=n):=by show _=_;unfold SynP.side;rw[if_neg hlt]
  by_cases hx0:xs.length=0
  ·have hx:xs=[]:=List.eq_nil_of_length_eq_zero hx0
   subst hx
   have hn0:n=0:=by rw[<-hv];rfl
   subst hn0;clear hr hv hok hsh hblk h64 hci hlt;go_enter Tryz.func110,Tryz.ntmps110;go_wp2_with fail;refine(Va _ _ [] [64] _ (HR.o.below HB0.o) HR64.o).mono ?_;rintro e w1 ⟨rfl,b1⟩;rw[<-HCI.o];have HB1:=zq (HB0.o.trans (b1.mono (by simp)));clear b1;go_wp2_with fail;go_ret;exact⟨by rw[HS.o];rfl,HB1.o⟩
  ·obtain⟨x,ys,rfl⟩:∃x ys,xs=x::ys:=by
    cases xs with
    |nil=>exact absurd rfl hx0
    |cons x ys=>exact⟨x,ys,rfl⟩
   have hxn:x=n:=by
    have e:NatP.val (x::ys)=x+BB*NatP.val ys:=rfl;rw[hv]at e;by_cases hy:NatP.val ys=0
    ·rw[hy]at e;omega
    ·have:BB*1<=BB*NatP.val ys:=Nat.mul_le_mul (Nat.le_refl _) (by omega)
     have hbb:64<BB:=by unfold BB;omega
     omega
   subst hxn;obtain⟨g,o,rfl,c0⟩:=hsh 0 x rfl;rw[Nat.add_zero]at c0;have hgl:g<w.heap.size:=hr.lt rfl;have HC0:=zq c0
   have hb0:((((x::ys).length:Nat):Int)==0)=false:=by simp;omega
   have hpos:(0:Int)<(((x::ys).length:Nat):Int):=by simp
   obtain⟨ll,hll⟩:∃ll,ll=(x::ys).length:=⟨_,rfl⟩;rw[<-hll]at hb0 hpos HR ⊢;have HLL:=zq hll;clear hr hv hok hsh hblk h64 hci c0 hll hx0;go_enter Tryz.func110,Tryz.ntmps110;go_wp2_with fail;have hrd:=HR.o.below HB0.o;refine(Va _ _ (x::ys) [64] _ hrd HR64.o).mono ?_;rintro e w1 ⟨rfl,b1⟩;rw[<-HCI.o];have HB1:=zq (HB0.o.trans (b1.mono (by simp)));have d0:w1.cell? ⟨g,o,none⟩=some (.int .u64 (x:Nat)):=(HB1.o.cell (p:=⟨g,o,none⟩) hgl).trans HC0.o;have hw:IntKind.i64.wrap (x:Int)=(x:Int):=IntWalk.i64_in _ (by omega);clear b1 hrd;go_wp2_with fail;go_ret;exact⟨by rw[HS.o];rfl,HB1.o⟩
def Qc (L:List Tok)(R:Nat)(w:World):Nat:=L.length-(intOf ((w.cell? ⟨R,1,none⟩).getD (.bool false))).toNat
theorem RS.left {w:World}{R:Nat}{lv:Value}{L:List Tok}{fin a:Nat}{s:SynP.St}{nv:Value}{ns:List Nv}(h:RS w R lv L fin a s nv ns):Qc L R w=s.ts.length:=by
 unfold Qc;rw[h.cells.2.1,<-h.drop,List.length_drop];simp[intOf]
theorem Wr.grown0 {R:Nat}{w0 w w':World}{row:Option Nat}(h:Wr R none w0 w)(hg:w.grownBy w' row)(hr:∀q,row=some q->w0.heap.size<=q):Wr R none w0 w':=
 ⟨hg.os.trans h.os,hg.tape.trans h.tape,hg.output.trans h.output,Nat.le_trans h.size hg.size,fun k hk hR ho=>(hg.block k (Nat.lt_of_lt_of_le hk h.size) (fun e=>by have:=hr k e.symm;omega)).trans (h.block k hk hR ho)⟩
theorem RS.loc {w0 w w':World}{R:Nat}{lv:Value}{L:List Tok}{fin a0 a:Nat}{s0 s:SynP.St}{nv:Value}{ns:List Nv}{row:Option Nat}(h0:RS w0 R lv L fin a0 s0 nv ns)(h:RS w R lv L fin a s nv ns)(hw:Wr R none w0 w)(hg:w.grownBy w' row)(hr:∀q,row=some q->w0.heap.size<=q):
  RS w' R lv L fin a s nv ns/\Wr R none w0 w':=by
 have E:=hw.grown0 hg hr;refine⟨h0.reset E ((hg.block R h.lt (fun e=>by have:=hr R e.symm;have:=h0.lt;omega)).trans h.blk) h.drop h.le h.few h.deep,E⟩
theorem RS.step {w0 w w':World}{R:Nat}(h:Wr R none w0 w)(k:Wr R none w w'):Wr R none w0 w':=h.trans (og':=none) (Mv.refl _ _) k
def Xq (l:List (Bool×Value)):List Value:=l.flatMap fun p=>[.bool p.1,p.2]
theorem Rm (a b:List (Bool×Value)):Xq (a++b)=Xq a++Xq b:=by simp[Xq]
theorem Kt (l:List (Bool×Value)):(Xq l).length=l.length*2:=by
 induction l with
 |nil=>rfl
 |cons a l ih=>simp[Xq]at ih ⊢;omega
theorem Ng:∀(l:List (Bool×Value)) (j:Nat) (p:Bool×Value),l[j]?=some p->(Xq l)[j*2]?=some (.bool p.1)/\(Xq l)[j*2+1]?=some p.2
 |a::l,0,p,h=>by
  simp at h;subst h;exact⟨rfl,rfl⟩
 |a::l,j+1,p,h=>by
  have:=Ng l j p (by simpa using h)
  have e1:(j+1)*2=j*2+2:=by omega
  rw[e1];exact this
def ints (l:List Nat):List Value:=l.map fun n=> .int .i64 (n:Nat)
structure En (w:World) (B:Nat) (av lv:Value) (cs:List (Bool×Value)) (acc:List (Bool×Nat)) (lens:List Nat):Prop where
 own1:w.ownsRow B 62 2 av cs.length (Xq cs)
 own2:w.ownsRow B 3 1 lv lens.length (ints lens)
 ne:∀q,av.ownBlock=some q->lv.ownBlock≠some q
 len:cs.length=acc.length
 el:∀(j:Nat) (c:Bool×Value) (p:Bool×Nat),cs[j]?=some c->acc[j]?=some p->c.1=p.1/\NFr B w c.2 p.2/\ ∀q,c.2.ownBlock=some q->av.ownBlock≠some q/\lv.ownBlock≠some q
theorem En.nil (w:World)(B:Nat):En w B (.slice none 0 0) (.slice none 0 0) [] [] []:=⟨World.ownsRow_nil _ _ _ _,World.ownsRow_nil _ _ _ _,fun q h=>by simp[Value.ownBlock]at h,rfl,fun j c p h=>by simp at h⟩
theorem U0 {w w':World}{R B:Nat}{e:TypeId}{z:Nat}{v:Value}{n:Nat}{xs:List Value}(h:w.ownsRow B e z v n xs)(hw:Wr R none w w')(hR:R<B):w'.ownsRow B e z v n xs:=by
 refine⟨h.1,?_⟩;rcases h.2 with K|⟨g,J,I,rfl,O,E,H⟩
 ·exact .inl K
 ·exact .inr ⟨g,J,I,rfl,O,(hw.block g (Array.getElem?_eq_some_iff.1 E).1 (by omega) (by simp)).trans E,H⟩
theorem En.wr {w w':World}{B R:Nat}{av lv:Value}{cs:List (Bool×Value)}{acc:List (Bool×Nat)}{lens:List Nat}(h:En w B av lv cs acc lens)(hw:Wr R none w w')(hR:R<B):En w' B av lv cs acc lens:=
 ⟨U0 h.own1 hw hR,U0 h.own2 hw hR,h.ne,h.len,fun j c p hc hp=>⟨(h.el j c p hc hp).1,(h.el j c p hc hp).2.1.wr hw hR (fun q hq=>by cases hq),(h.el j c p hc hp).2.2⟩⟩
theorem NFr.grown {B:Nat}{w w':World}{v:Value}{n:Nat}{row:Option Nat}(h:NFr B w v n)(hg:w.grownBy w' row)(hr:∀q,v.ownBlock=some q->row≠some q):NFr B w' v n:=by
 obtain⟨⟨xs,K,J,H⟩,E,I⟩:=h;exact⟨⟨xs,K.kept hg (fun k hk e=>hr k e hk),J,H⟩,fun q hq=>⟨(E q hq).1,Nat.lt_of_lt_of_le (E q hq).2 hg.size⟩,I⟩
theorem En.push {w w':World}{B g cap:Nat}{av lv:Value}{cs:List (Bool×Value)}{acc:List (Bool×Nat)}{lens:List Nat}(h:En w B av lv cs acc lens){neg:Bool}{m:Value}{k:Nat}(hm:NFr B w m k)(hd:∀q,m.ownBlock=some q->av.ownBlock≠some q/\lv.ownBlock≠some q)
  (hown:w'.ownsRow B 62 2 (.slice (some ⟨g,0,none⟩) (cs.length+1) cap) (cs.length+1) (Xq cs++[.bool neg,m])) (hg:w.grownBy w' av.ownBlock) (hat:av.ownBlock=some g\/g=w.heap.size):
  En w' B (.slice (some ⟨g,0,none⟩) (cs.length+1) cap) lv (cs++[(neg,m)]) (acc++[(neg,k)]) lens:=by
 have H:∀q,q<w.heap.size->av.ownBlock≠some q->(Value.ownBlock (.slice (some ⟨g,0,none⟩) (cs.length+1) cap))≠some q:=by
  intro q E K e
  cases e
  rcases hat with h|h
  ·exact K h
  ·change g<_ at E;omega
 have O:(cs++[(neg,m)]).length=cs.length+1:=by simp
 refine⟨?_,h.own2.kept hg ?_,?_,by simp[h.len],?_⟩
 ·rw[O,Rm];exact hown
 ·cases ho:lv.ownBlock with
  |none=>exact .inl rfl
  |some q=>exact .inr (fun e=>h.ne q e.symm ho)
 ·intro q E e
  have U:=(h.own2.lt q e).2;exact H q U (fun h2=>h.ne q h2 e) E
 ·intro j c p I J
  by_cases hlt:j<cs.length
  ·rw[List.getElem?_append_left hlt]at I
   rw[List.getElem?_append_left (by rw[<-h.len];exact hlt)]at J;obtain⟨q1,q2,q3⟩:=h.el j c p I J;exact⟨q1,q2.grown hg (fun q E=>(q3 q E).1),fun q E=>⟨H q (q2.2.1 q E).2 (q3 q E).1,(q3 q E).2⟩⟩
  ·have T:j=cs.length:=by
    have:=(List.getElem?_eq_some_iff.1 I).1;rw[O]at this;omega
   subst T;rw[List.getElem?_append_right (Nat.le_refl _)]at I;rw[h.len,List.getElem?_append_right (Nat.le_refl _)]at J;simp at I J;subst I;subst J;exact⟨rfl,hm.grown hg (fun q E=>(hd q E).1),fun q E=>⟨H q (hm.2.1 q E).2 (hd q E).1,(hd q E).2⟩⟩
theorem En.pushL {w w':World}{B g cap:Nat}{av lv:Value}{cs:List (Bool×Value)}{acc:List (Bool×Nat)}{lens:List Nat}(h:En w B av lv cs acc lens){n:Nat}
  (hown:w'.ownsRow B 3 1 (.slice (some ⟨g,0,none⟩) (lens.length+1) cap) (lens.length+1) (ints lens++[.int .i64 (n:Nat)])) (hg:w.grownBy w' lv.ownBlock) (hat:lv.ownBlock=some g\/g=w.heap.size):
  En w' B av (.slice (some ⟨g,0,none⟩) (lens.length+1) cap) cs acc (lens++[n]):=by
 have H:∀q,q<w.heap.size->lv.ownBlock≠some q->(Value.ownBlock (.slice (some ⟨g,0,none⟩) (lens.length+1) cap))≠some q:=by
  intro q E I e
  cases e
  rcases hat with h|h
  ·exact I h
  ·change g<_ at E;omega
 refine⟨h.own1.kept hg ?_,?_,?_,h.len,?_⟩
 ·cases ho:av.ownBlock with
  |none=>exact .inl rfl
  |some q=>exact .inr (fun e=>h.ne q ho e.symm)
 ·rw[show (lens++[n]).length=lens.length+1 from by simp,show ints (lens++[n])=ints lens++[.int .i64 (n:Nat)] from by simp[ints]]
  exact hown
 ·intro q E
  exact H q (h.own1.lt q E).2 (h.ne q E)
 ·intro j c p K J
  obtain⟨q1,q2,q3⟩:=h.el j c p K J;exact⟨q1,q2.grown hg (fun q E=>(q3 q E).2),fun q E=>⟨(q3 q E).1,H q (q2.2.1 q E).2 (q3 q E).2⟩⟩
end Go.Proofs.YtgfmiladfeoldaaGreatDoor
