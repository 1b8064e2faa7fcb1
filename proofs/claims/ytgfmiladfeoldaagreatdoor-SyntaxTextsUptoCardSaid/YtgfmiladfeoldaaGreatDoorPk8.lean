import Derived.Test.YtgfmiladfeoldaaGreatDoorPk5
import Derived.Test.YtgfmiladfeoldaaGreatDoorPk6
import Derived.Test.YtgfmiladfeoldaaGreatDoorPk7
set_option linter.unusedSimpArgs false
set_option linter.unusedVariables false
set_option maxRecDepth 100000
set_option maxHeartbeats 16000000
open Go.Proofs.Tryz
open Option renaming some->F,none->Z
open Go.Value renaming slice->U,int->A,string->c9,pointer->db,bool->de
open Go renaming Value->ca,World->ce,Calls->dk,Ending->ef
open Go.IntKind renaming i64->G
open Go.Obj renaming cells->O
open Bool renaming false->cl,true->dq
open Go.Proofs.Tryz renaming prog->co,ntmps110->du,func110->eg,underlying45->ex,underlying47->eS,ntmps109->fa,ntmps159->fb,ntmps111->ff,func109->fi,ntmps94->fm,func159->gc,ntmps96->gd,ntmps95->ge,func111->gE
open Go.RowKit renaming Hid->da,Below->dl
open Go.Ending renaming returned->dj
namespace Go.Proofs.YtgfmiladfeoldaaGreatDoor
open Go.RowKit aw ar
variable {B R a a1 a2 cap f g k n:Nat} {acc:List (Bool×Nat)} {av gJ kv lv nv pS sv tv v:ca} {bc:List ca} {cs:List (Bool×ca)} {lens s:List Nat} {og:Option Nat} {w w' w0 w1 w2:ce}
theorem Wr.weak (h:Wr R Z w w')(og:Option Nat):Wr R og w w':=⟨h.os,h.tape,h.output,h.size,fun k hk hR _=>h.block k hk hR (by simp)⟩
def KR (w:ce)(R:Nat)(og:Option Nat)(v:ca)(ks:List Nat):Prop:=∃ao cap,v=U ao ks.length cap/\ks.length<=cap/\cap<=maxLen/\(∀q,v.ownBlock=F q->R<q/\q<w.heap.size/\og≠F q)/\(0<ks.length-> ∃g,ao=F ⟨g,0,Z⟩/\ ∀j k,ks[j]?=F k->w.cell? ⟨g,j,Z⟩=F (A G (k:Nat)))
theorem KR.wr {og':Option Nat}{ks:List Nat}(h:KR w R og v ks)(hw:Wr R og w w')(hm:Mv w og og'):KR w' R og' v ks:=by
 obtain⟨ao,H,rfl,J,K,E,bi⟩:=h;refine⟨ao,H,rfl,J,K,fun q hq=>⟨(E q hq).1,aal (E q hq).2.1 hw.size,fun e=> ?_⟩,fun h0=> ?_⟩
 ·rcases hm q e with h|h
  ·exact(E q hq).2.2 h
  have:=(E q hq).2.1;omega
 obtain⟨g,rfl,T⟩:=bi h0;have I:=E g rfl;exact⟨g,rfl,fun j k hj=>(abe (hw.block g I.2.1 (by omega) (fun e=>I.2.2 e.symm))).trans (T j k hj)⟩
abbrev Nv:=aj.Node×ca
def Xm (l:List Nv):List ca:=l.flatMap fun p=>[A G (p.1.op:Nat),c9 ⟨p.1.text.toArray⟩,p.2]
theorem W7 (a b:List Nv):Xm (a++b)=Xm a++Xm b:=by simp[Xm]
def oT (w:ce)(R:Nat)(v:ca)(L:List Tok):Prop:=∃ao cap,v=U ao L.length cap/\L.length<=cap/\cap<=maxLen/\(0<L.length-> ∃g,ao=F ⟨g,0,Z⟩/\g<R/\ ∀j t,L[j]?=F t->w.cell? ⟨g,j*3,Z⟩=F (A G (t.1:Nat))/\w.cell? ⟨g,j*3+1,Z⟩=F (c9 ⟨t.2.1.toArray⟩)/\w.cell? ⟨g,j*3+2,Z⟩=F (A G (t.2.2:Nat)))
theorem oT.wr {L:List Tok}(h:oT w R v L)(hw:Wr R og w w')(hR:R<w.heap.size)(ho:∀q,og=F q->R<q):oT w' R v L:=by obtain⟨ao,I,rfl,J,K,bi⟩:=h;refine⟨ao,I,rfl,J,K,fun h0=> ?_⟩;obtain⟨g,rfl,T,E⟩:=bi h0;have H:=hw.block g (by omega) (by omega) (fun e=>by have:=ho g e.symm;omega);exact⟨g,rfl,T,fun j t hj=>⟨(abe H).trans (E j t hj).1,(abe H).trans (E j t hj).2.1,(abe H).trans (E j t hj).2.2⟩⟩
def Qcj (t:Tok):Prop:=t.1=1->Vd t.2.1/\0<t.2.1.length/\t.2.1.length<=67108864/\Xe t.2.1=cl
structure RS (w:ce) (R:Nat) (lv:ca) (L:List Tok) (fin:Nat) (a:Nat) (s:aj.St) (nv:ca) (ns:List Nv):Prop where
 blk:w.heap[R]?=F (O #[lv,A G a,A G fin,A G (s.opened:Nat),nv] 85 (0,0))
 tks:oT w R lv L
 drop:L.drop a=s.ts
 le:a<=L.length
 own:w.ownsRow (R+1) 43 3 nv ns.length (Xm ns)
 kids:∀p∈ns,KR w R nv.ownBlock p.2 p.1.kids
 apart:∀(i j:Nat) (p q:Nv) (k:Nat),ns[i]?=F p->ns[j]?=F q->p.2.ownBlock=F k->q.2.ownBlock=F k->i=j
 few:ns.length+s.ts.length<=134217728
 deep:s.opened<=100
 short:L.length<=67108864
 sum:(L.map fun t=>t.2.1.length+1).sum<=201326592
 good:∀t∈L,Qcj t
 sg:SG w
 sgl:4<R
theorem RS.lt {L:List Tok}{fin:Nat}{s:aj.St}{ns:List Nv}(h:RS w R lv L fin a s nv ns):R<w.heap.size:=(aah.1 h.blk).1
theorem RS.gt {L:List Tok}{fin:Nat}{s:aj.St}{ns:List Nv}(h:RS w R lv L fin a s nv ns):∀q,nv.ownBlock=F q->R<q:=fun q hq=>by have:=h.own.lt q hq;omega
theorem RS.cells {L:List Tok}{fin:Nat}{s:aj.St}{ns:List Nv}(h:RS w R lv L fin a s nv ns):w.cell? ⟨R,0,Z⟩=F lv/\w.cell? ⟨R,1,Z⟩=F (A G a)/\w.cell? ⟨R,2,Z⟩=F (A G fin)/\w.cell? ⟨R,3,Z⟩=F (A G (s.opened:Nat))/\w.cell? ⟨R,4,Z⟩=F nv:=by refine⟨?_,?_,?_,?_,?_⟩<;>rw[aaj w R _ _ _ _ h.blk]<;>rfl
theorem RS.iH {L:List Tok}{fin:Nat}{s:aj.St}{ns:List Nv}(h:RS w R lv L fin a s nv ns)(o:Nat):w.frozen? ⟨R,o,Z⟩=cl:=aax w R o _ _ h.blk
theorem RS.below {L:List Tok}{fin:Nat}{s:aj.St}{ns:List Nv}(h:RS w R lv L fin a s nv ns)(hb:dl w.heap.size w w'):RS w' R lv L fin a s nv ns where
 blk:=(hb.block R h.lt).trans h.blk
 tks:=h.tks.wr (Wr.au (R:=R) (og:=nv.ownBlock) hb) h.lt h.gt
 drop:=h.drop
 le:=h.le
 own:=h.own.kept (row:=Z) ⟨hb.os,hb.tape,hb.output,hb.size,fun k hk _=>hb.block k hk⟩ (by cases nv.ownBlock<;>simp)
 kids:=fun p hp=>(h.kids p hp).wr (Wr.au hb) (Mv.refl _ _)
 apart:=h.apart
 few:=h.few
 deep:=h.deep
 short:=h.short
 sum:=h.sum
 good:=h.good
 sg:=h.sg.below hb (ab1 h.sgl h.lt)
 sgl:=h.sgl
theorem RS.ahp {L:List Tok}{fin:Nat}{s:aj.St}{ns:List Nv}(h:RS w R lv L fin a s nv ns)(o:Nat)(u:ca)(a':Nat)(s':aj.St)
  (hb:(#[lv,A G a,A G fin,A G (s.opened:Nat),nv]:Array ca).setIfInBounds o u= #[lv,A G a',A G fin,A G (s'.opened:Nat),nv])
  (hd:L.drop a'=s'.ts) (hl:a'<=L.length) (hf:ns.length+s'.ts.length<=134217728) (hp:s'.opened<=100):
  RS (w.setCell ⟨R,o,Z⟩ u) R lv L fin a' s' nv ns/\Wr R Z w (w.setCell ⟨R,o,Z⟩ u):=by
 have E:=aao w R o #[lv,A G a,A G fin,A G (s.opened:Nat),nv] 85 u h.blk;have H:=Wr.aD (R:=R) (og:=nv.ownBlock) w o u;refine⟨⟨E.trans (by rw[hb]),h.tks.wr H h.lt h.gt,hd,hl,ab8 h.own (by simp) _,fun p hp=>(h.kids p hp).wr H (Mv.refl _ _),h.apart,hf,hp,h.short,h.sum,h.good,h.sg.wr H (ad9 h.sgl) (fun e=>by have:=h.gt _ e;have:=h.sgl;omega),h.sgl⟩,Wr.aD w o u⟩
theorem RS.reset {L:List Tok}{fin:Nat}{s:aj.St}{ns:List Nv}(h:RS w R lv L fin a s nv ns)(hw:Wr R Z w w'){a':Nat}{s':aj.St}
  (hb:w'.heap[R]?=F (O #[lv,A G a',A G fin,A G (s'.opened:Nat),nv] 85 (0,0))) (hd:L.drop a'=s'.ts) (hl:a'<=L.length) (hf:ns.length+s'.ts.length<=134217728) (hp:s'.opened<=100):
  RS w' R lv L fin a' s' nv ns where
 blk:=hb
 tks:=h.tks.wr hw h.lt (fun q hq=>by cases hq)
 drop:=hd
 le:=hl
 own:=by
  refine⟨h.own.1,?_⟩;rcases h.own.2 with hn|⟨g,cap,cur,rfl,hb,rN,rest⟩
  ·exact .inl hn
  exact .inr ⟨g,cap,cur,rfl,hb,(hw.block g (aah.1 rN).1 (by omega) (by simp)).trans rN,rest⟩
 kids:=fun p hp=>(h.kids p hp).wr (hw.weak _) (Mv.refl _ _)
 apart:=h.apart
 few:=hf
 deep:=hp
 short:=h.short
 sum:=h.sum
 good:=h.good
 sg:=h.sg.wr hw (ad9 h.sgl) (by simp)
 sgl:=h.sgl
theorem below_drewN (w:ce)(n:Nat):dl w.heap.size w (w.drewN n):=⟨rfl,rfl,rfl,aab _,fun _ _=>rfl⟩
theorem Nb {L:List Tok}{fin:Nat}{s:aj.St}{ns:List Nv}(h:RS w R lv L fin a s nv ns):dk co 55 #[db (F ⟨R,0,Z⟩)] w fun e w'=>e=dj (de (decide (s.ts=[])))/\dl w.heap.size w w':=by
 have H:=zq h;obtain⟨c0,c1,-,-,-⟩:=h.cells;obtain⟨ao,cap,rfl,t1,t2,-⟩:=h.tks
 have hd:decide (L.length<=a)=decide (s.ts=[]):=by rw[<-h.drop];simp
 have HD:=zq hd;clear hd;clear h;go_enter func55,ntmps55;go_wp2_with fail;go_region;go_wp2_with fail;go_ret;exact⟨by rw[<-HD.o];rfl,⟨rfl,rfl,rfl,aab _,fun _ _=>rfl⟩⟩
theorem Qh6 {L:List Tok}(fin a:Nat)(ts:List Tok)(c0:w.cell? ⟨R,0,Z⟩=F lv)(c1:w.cell? ⟨R,1,Z⟩=F (A G a))(c2:w.cell? ⟨R,2,Z⟩=F (A G fin))(tks:oT w R lv L)(hdr:L.drop a=ts)(hle:a<=L.length):dk co 109 #[db (F ⟨R,0,Z⟩)] w fun e w'=>e=dj (A G (aj.X6 fin ts:Nat))/\dl w.heap.size w w':=by
 obtain⟨ao,cap,rfl,t1,t2,t3⟩:=tks;by_cases hn:a<L.length
 ·obtain⟨g,rfl,hg,hc⟩:=t3 (by omega)
  obtain⟨t,ht⟩:∃t,L[a]?=F t:=⟨_,aad hn⟩;obtain⟨-,-,d2⟩:=hc a t ht
  have uK:da (aj.X6 fin ts=t.2.2):=by show _=_;rw[<-hdr,acO,ht];rfl
  clear hc t3 hdr;go_enter fi,fa;go_wp2_with fail;go_region;go_wp2_with fail;go_region;go_wp2_with fail;go_ret;exact⟨by rw[uK.o];rfl,⟨rfl,rfl,rfl,aab _,fun _ _=>rfl⟩⟩
 have uK:da (aj.X6 fin ts=fin):=by show _=_;rw[<-hdr,aaC (by omega)];rfl
 clear t3 hdr;go_enter fi,fa;go_wp2_with fail;go_region;go_wp2_with fail;go_ret;exact⟨by rw[uK.o];rfl,⟨rfl,rfl,rfl,aab _,fun _ _=>rfl⟩⟩
theorem Qm4 {L:List Tok}{fin:Nat}{s:aj.St}{ns:List Nv}(h:RS w R lv L fin a s nv ns):dk co 109 #[db (F ⟨R,0,Z⟩)] w fun e w'=>e=dj (A G (aj.X6 fin s.ts:Nat))/\dl w.heap.size w w':=
 Qh6 fin a s.ts h.cells.1 h.cells.2.1 h.cells.2.2.1 h.tks h.drop h.le
def Uj (i kind:Nat)(x:Bytes)(ts:List Tok):Bool:=match ts.drop i with|(k,t,_)::_=>k==kind && (kind !=3||t==x)| []=>cl
theorem Gg (x:Bytes)(ts:List Tok):Uj 0 3 x ts=aj.Qk x ts:=by
 cases ts with
 |nil=>rfl
 |cons t l=>obtain⟨k,t,c⟩:=t;simp[Uj,aj.Qk]
theorem Kh (x:Bytes)(ts:List Tok):Uj 1 3 x ts=aj.Qk x ts.tail:=by
 cases ts with
 |nil=>rfl
 |cons t l=>rw[<-Gg];rfl
theorem Zj (k:Nat)(x:Bytes)(ts:List Tok)(hk:k≠3):Uj 0 k x ts=aj.Qh k ts:=by
 cases ts with
 |nil=>rfl
 |cons t l=>obtain⟨j,t,c⟩:=t;simp[Uj,aj.Qh,hk]
theorem Below.SY (h:dl B w w'):dl B w w'.drew.drew:=⟨h.os,h.tape,h.output,h.size,h.block⟩
theorem X5  {L: List Tok} {fin:Nat} {s: aj.St} {ns: List Nv} (h : RS w R lv L fin a s nv ns) (i kind : Nat) (x : Bytes) (hi : i ≤ 1) (hk : kind ≤ 3) :dk co 94 #[db (F ⟨R, 0, Z⟩), A G (i : Nat), A G (kind : Nat), c9 ⟨x.toArray⟩] w fun e w' => e = dj (de (Uj i kind x s.ts)) ∧ dl w.heap.size w w' := by
  have H := zq h
  obtain ⟨c0, c1, -, -, -⟩ := h.cells
  obtain ⟨ao, cap, rfl, t1, t2, t3⟩ := h.tks
  have hle := h.le
  have aS := h.short
  by_cases hn : a + i < L.length
  · obtain ⟨g, rfl, hg, hc⟩ := t3 (by omega)
    obtain ⟨t, ht⟩ : ∃ t, L[a + i]? = F t := ⟨_, aad hn⟩
    obtain ⟨d0, d1, d2⟩ := hc (a + i) t ht
    obtain ⟨tk, tt, tc⟩ := t
    have HC : da (Uj i kind x s.ts = (tk == kind && (kind != 3 || tt == x))) := by
      show _ = _
      unfold Uj
      rw [← h.drop, abB, acO, ht]; rfl
    have br := h.lt
    have iJ : g < w.heap.size := by omega
    obtain ⟨m, hm⟩ : ∃ m, m = a + i := ⟨_, rfl⟩
    have E1 : IntKind.i64.wrap ((a : Int) + (i : Int)) = (m : Int) := by rw [hm]; exact (abh _ (by omega)).trans (by omega)
    have E2 : (a : Int) + (i : Int) = (m : Int) := by omega
    rw [← hm] at d0 d1 d2 hn
    have ct := zq hm
    clear h hc t3 ht hm
    go_enter func94, fm
    go_wp2_with fail
    go_region
    go_wp2_with fail
    go_region
    go_wp2_with fail
    all_goals
      go_ret
      refine ⟨?_, Below.SY (Qq _ _)⟩
      rw [HC.o]
      show Ending.returned (Value.bool _) = Ending.returned (Value.bool _)
      congr 2
      first
        | (have q1 : tk = kind := by omega
           have q2 : kind = 3 := by omega
           subst q1; subst q2; simp)
        | (have q1 : tk = kind := by omega
           have q2 : kind ≠ 3 := by omega
           subst q1; simp [q2])
        | (have q1 : tk ≠ kind := by omega
           simp [q1])
  have HC : da (Uj i kind x s.ts = cl) := by
    show _ = _
    unfold Uj
    rw [← h.drop, abB, aaC (by omega)]
  have br := h.lt
  obtain ⟨m, hm⟩ : ∃ m, m = a + i := ⟨_, rfl⟩
  have E1 : IntKind.i64.wrap ((a : Int) + (i : Int)) = (m : Int) := by rw [hm]; exact (abh _ (by omega)).trans (by omega)
  have E2 : (a : Int) + (i : Int) = (m : Int) := by omega
  rw [← hm] at hn
  have ct := zq hm
  clear h t3 hm
  go_enter func94, fm
  go_wp2_with fail
  go_region
  go_wp2_with fail
  go_ret
  exact ⟨by rw [HC.o]; rfl, ⟨rfl, rfl, rfl, aab _, fun _ _ => rfl⟩⟩
theorem Nf {L:List Tok}{fin:Nat}{s:aj.St}{ns:List Nv}(h:RS w R lv L fin a s nv ns)(x:Bytes):dk co 168 #[db (F ⟨R,0,Z⟩),c9 ⟨x.toArray⟩] w fun e w'=>e=dj (de (aj.Qk x s.ts))/\dl w.heap.size w w':=by have H:=zq h;clear h;go_enter func168,ntmps168;go_wp2_with fail;refine(X5 H 0 3 x (by omega) (by omega)).mono ?_;rintro e w1 ⟨rfl,hb⟩;rw[Gg];have HB:=zq hb;clear hb;go_wp2_with fail;go_ret;exact⟨rfl,HB⟩
def Qd4 (R:Nat)(lv:ca)(L:List Tok)(fin a:Nat)(s:aj.St)(nv:ca)(ns:List Nv)(x:Bytes)(w:ce)(e:ef)(w':ce):Prop:=
 e=dj (de (aj.Qk x s.ts))/\Wr R Z w w'/\(if aj.Qk x s.ts then RS w' R lv L fin (a+1) s.bB nv ns else RS w' R lv L fin a s nv ns)
theorem Mk {L ts:List Tok}(h:L.drop a=ts)(h0:ts≠[]):L.drop (a+1)=ts.tail/\a+1<=L.length/\ts.tail.length+1=ts.length:=by
 subst h;refine⟨by rw[abU],?_,?_⟩
 ·rcases adQ a L.length with h|h
  ·exact h
  exact absurd (aaC h) h0
 rw[adv];have:=abm.2 h0;omega
theorem Mb {x:Bytes}{ts:List Tok}(h:aj.Qk x ts=dq):ts≠[]:=fun e=>by subst e;cases h
theorem Wx {ts:List Tok}(h:aj.Qh k ts=dq):ts≠[]:=fun e=>by subst e;cases h
theorem RS.bB {L:List Tok}{fin:Nat}{s:aj.St}{ns:List Nv}(h:RS w R lv L fin a s nv ns)(h0:s.ts≠[]):RS (w.setCell ⟨R,1,Z⟩ (A G ((a+1:Nat):Int))) R lv L fin (a+1) s.bB nv ns/\Wr R Z w (w.setCell ⟨R,1,Z⟩ (A G ((a+1:Nat):Int))):=by obtain⟨q1,q2,q3⟩:=Mk h.drop h0;exact h.ahp 1 _ (a+1) s.bB (by simp[aj.St.bB]) q1 q2 (by have:=h.few;show ns.length+s.ts.tail.length<=_;omega) h.deep
theorem Zi {L:List Tok}{fin:Nat}{s:aj.St}{ns:List Nv}(h:RS w R lv L fin a s nv ns)(x:Bytes):dk co 159 #[db (F ⟨R,0,Z⟩),c9 ⟨x.toArray⟩] w (Qd4 R lv L fin a s nv ns x w):=by
 have H:=zq h;have hle:=h.le;have aS:=h.short;clear h
 cases hm:aj.Qk x s.ts with
 |false=>
  have HM:=zq hm;clear hm;go_enter gc,fb;go_wp2_with fail;refine(Nf H x).mono ?_;rintro e w1 ⟨rfl,hb⟩;rw[HM.o];have HB:=zq hb;clear hb;go_wp2_with fail;go_ret
  exact⟨by rw[HM.o];rfl,Wr.au HB,by rw[if_neg (by rw[HM.o];decide)];exact H.o.below HB⟩
 |true=>have HM:=zq hm;clear hm;go_enter gc,fb;go_wp2_with fail;refine(Nf H x).mono ?_;rintro e w1 ⟨rfl,hb⟩;rw[HM.o];have HB:=zq hb;have HS:=zq (H.o.below hb);have c1:=HS.o.cells.2.1;have f1:=HS.o.iH 1;clear hb;go_wp2_with fail;go_ret;obtain⟨g1,g2⟩:=HS.o.bB (Mb HM);exact⟨by rw[HM.o];rfl,(Wr.au HB).trans (Mv.refl _ _) g2,by rw[if_pos HM.o];exact g1⟩
def Tu (c k:Nat):ef:=.panicked [{v:=.iface 81 (.agg #[A G c,A G k]),recovered:=cl}]
theorem Sv {L:List Tok}{fin:Nat}{s:aj.St}{ns:List Nv}(h:RS w R lv L fin a s nv ns):dk co 56 #[db (F ⟨R,0,Z⟩)] w fun e w'=>e=Tu (aj.X6 fin s.ts) 14/\dl w.heap.size w w':=by have H:=zq h;clear h;go_enter func56,ntmps56;go_wp2_with fail;refine(Qm4 H).mono ?_;rintro e w1 ⟨rfl,hb⟩;have HB:=zq hb;clear hb;go_wp2_with fail;exact⟨rfl,rfl,HB⟩
def RB {α:Type}(r:aj.PR α)(R:Nat)(lv:ca)(L:List Tok)(fin:Nat)(s:aj.St)(nv:ca)(ns:List Nv)(Q:α->ca->ce->Prop)(w:ce)(e:ef)(w':ce):Prop:=
 match r with
 |none=>False
 |some (.error (c,k))=>e=Tu c k/\Wr R Z w w'
 |some (.ok (x,s'))=> ∃v a',e=dj v/\RS w' R lv L fin a' s' nv ns/\Wr R Z w w'/\s'.ts.length<=s.ts.length/\Q x v w'
theorem Uq (s:aj.St):s.bB.ts.length<=s.ts.length:=by show s.ts.tail.length<=_;rw[adv];omega
theorem S9 {L:List Tok}{fin:Nat}{s:aj.St}{ns:List Nv}(h:RS w R lv L fin a s nv ns)(x:Bytes):dk co 96 #[db (F ⟨R,0,Z⟩),c9 ⟨x.toArray⟩] w (RB (aj.want fin x s) R lv L fin s nv ns (fun _ v _=>v=.tuple #[]) w):=by
 have H:=zq h;clear h
 cases hm:aj.Qk x s.ts with
 |false=>
  have HM:=zq hm;clear hm;go_enter func96,gd;go_wp2_with fail;refine(Zi H x).mono ?_;rintro e w1 ⟨rfl,b1,b2⟩;rw[if_neg (by rw[HM.o];decide)]at b2;rw[HM.o];have aK:=zq b1;have aI:=zq b2;clear b1 b2;go_wp2_with fail;refine(Sv aI).mono ?_;rintro e w2 ⟨rfl,b3⟩;have aV:=zq b3;clear b3;refine⟨rfl,?_⟩;unfold aj.want;rw[if_neg (by rw[HM.o];decide)]
  exact⟨rfl,aK.o.trans (Mv.refl _ _) (Wr.au aV)⟩
 |true=>have HM:=zq hm;clear hm;go_enter func96,gd;go_wp2_with fail;refine(Zi H x).mono ?_;rintro e w1 ⟨rfl,b1,b2⟩;rw[if_pos HM.o]at b2;rw[HM.o];have aK:=zq b1;have aI:=zq b2;clear b1 b2;go_wp2_with fail;go_end0;show RB (aj.want fin x s) _ _ _ _ _ _ _ _ _ _ _;unfold aj.want;rw[if_pos HM.o];exact⟨_,_,rfl,aI,aK,Uq s,rfl⟩
theorem Qk9 {L:List Tok}{fin:Nat}{s:aj.St}{ns:List Nv}(h:RS w R lv L fin a s nv ns):dk co 95 #[db (F ⟨R,0,Z⟩)] w (RB (aj.name fin s) R lv L fin s nv ns (fun x v _=>v=c9 ⟨x.toArray⟩) w):=by
 have H:=zq h;have hc:=Zj 2 [] s.ts (by decide)
 cases hm:aj.Qh 2 s.ts with
 |false=>
  rw[hm]at hc;have HM:=zq hm;have HC:=zq hc;clear hm hc h;go_enter func95,ge;go_wp2_with fail;refine(X5 H 0 2 [] (by omega) (by omega)).mono ?_;rintro e w1 ⟨rfl,b1⟩;rw[HC.o];have aK:=zq b1;clear b1;go_wp2_with fail;refine(Sv (H.o.below aK)).mono ?_;rintro e w2 ⟨rfl,b3⟩;refine⟨rfl,?_⟩;unfold aj.name;rw[if_neg (by rw[HM.o];decide)]
  exact⟨rfl,(Wr.au aK).trans (Mv.refl _ _) (Wr.au b3)⟩
 |true=>
  rw[hm]at hc;obtain⟨c0,c1,-,-,-⟩:=h.cells;obtain⟨ao,cap,rfl,t1,t2,t3⟩:=h.tks;have aS:=h.short;obtain⟨p1,p2,p3⟩:=Mk h.drop (Wx hm)
  have hn:a<L.length:=by omega
  obtain⟨g,rfl,hg,fT⟩:=t3 (by omega);obtain⟨t,ht⟩:∃t,L[a]?=F t:=⟨_,aad hn⟩;obtain⟨d0,d1,d2⟩:=fT a t ht
  have hx:aj.Qe s.ts=t.2.1:=by rw[<-h.drop,acO,ht];rfl
  have br:=h.lt;have HM:=zq hm;have HC:=zq hc;have HX:=zq hx;have C0:=zq c0;have C1:=zq c1;have D1:=zq d1;obtain⟨tk,tt,tc⟩:=t;clear hm hc h t3 fT ht hx c0 c1 d0 d1 d2 p1 p2 p3;go_enter func95,ge;go_wp2_with fail;refine(X5 H.o 0 2 [] (by omega) (by omega)).mono ?_;rintro e w1 ⟨rfl,b1⟩;rw[HC.o];have aK:=zq b1;have et:=zq (H.o.below b1);have e0:=et.o.cells.1;have e1:=et.o.cells.2.1;have e2:w1.cell? ⟨g,a*3+1,Z⟩=F (c9 ⟨tt.toArray⟩):=(b1.cell (p:=⟨g,a*3+1,Z⟩) (by show g<_;omega)).trans D1.o;have f1:=et.o.iH 1;have cU:=zq (H.o.below (b1.trans ((below_drewN w1 1).mono b1.size)));clear b1;go_wp2_with fail;go_region;go_wp2_with fail;go_ret;obtain⟨g1,g2⟩:=cU.o.bB (Wx HM.o);unfold aj.name;rw[if_pos HM.o,HX.o];exact⟨_,_,rfl,g1,(Wr.au aK.o).trans (Mv.refl _ _) (((Wr.au (below_drewN w1 1))).trans (Mv.refl _ _) g2),Uq s,rfl⟩
def dX (L n:Nat):Prop:=n<BB^L/\(0<L->BB^(L-1)<=n)
theorem dX.zero {L:Nat}(h:dX L n):L=0↔n=0:=by
 obtain⟨E,H⟩:=h;constructor
 ·intro e
  subst e;rw[aen]at E;omega
 intro e;subst e;apply Nat.eq_zero_of_not_pos;intro I;have J:=H I;have K:0<BB^(L-1):=abC aC;omega
theorem dX.uniq {L M:Nat}(h:dX L n)(k:dX M n):L=M:=by
 have E:∀{L M:Nat},dX L n->dX M n-> ¬L<M:=by intro L M h k H;have I:=k.2 (by omega);have J:BB^L<=BB^(M-1):=aa6 aC (by omega);have K:=h.1;omega
 have a:=E h k;have b:=E k h;omega
theorem dX.of {xs:List Nat}(bm:ok xs)(hs:strip xs=xs):dX xs.length (val xs):=by refine⟨aN bm,fun h=> ?_⟩;obtain⟨m,J⟩:∃m,xs.length=m+1:=⟨xs.length-1,by omega⟩;obtain⟨d,E,K⟩:=bt xs m (by rw[hs];exact J);rw[hs]at E;obtain⟨I,H⟩:=aaf.1 E;rw[show xs.length-1=m by omega,aH xs m (by omega),aaL I,H];show BB^m<=val (xs.take m)+BB^m*(d+BB*val (xs.drop (m+1)));have bi:BB^m*1<=BB^m*(d+BB*val (xs.drop (m+1))):=aaT _ (by omega);omega
def bI (B:Nat)(w:ce)(v:ca)(n:Nat):Prop:=oC w v n/\(∀q,v.ownBlock=F q->B<=q/\q<w.heap.size)/\dX (lenOf v) n
theorem bI.wr (h:bI B w v n)(hw:Wr R og w w')(hR:R<B)(ho:∀q,og=F q->q<B):bI B w' v n:=by obtain⟨⟨xs,H,I,J⟩,E,K⟩:=h;exact⟨⟨xs,H.wr hw (fun q hq=>⟨by have:=E q hq;omega,fun e=>by have:=E q hq;have:=ho q e;omega⟩),I,J⟩,fun q hq=>⟨(E q hq).1,aal (E q hq).2 hw.size⟩,K⟩
theorem bI.set (h:bI B w v n)(hR:R<B)(o:Nat)(u:ca):bI B (w.setCell ⟨R,o,Z⟩ u) v n:=
 h.wr (og:=Z) (Wr.aD w o u) hR (fun q hq=>by cases hq)
theorem bI.mono {B':Nat}(h:bI B w v n)(hb:B'<=B):bI B' w v n:=⟨h.1,fun q hq=>⟨aar hb (h.2.1 q hq).1,(h.2.1 q hq).2⟩,h.2.2⟩
theorem Qzu (t:Bytes):aj.Q7 t<10^t.length:=by
 have H:(bZ (t.filter aZ.Qr)).length<=t.length:=by rw[bZ,aas];exact acE _ _
 have I:∀x∈bZ (t.filter aZ.Qr),x<10:=by intro x E;simp only[bZ,abw]at E;obtain⟨c,J,rfl⟩:=E;have h:=(List.mem_filter.1 J).2;unfold aZ.Qr at h;simp at h;omega
 exact aal (U2 I) (aa6 (by omega) H)
theorem Qxs {t:Bytes}(h1:Vd t)(h2:0<t.length)(h3:t.length<=67108864)(h4:Xe t=cl):dk co 167 #[c9 ⟨t.toArray⟩] w fun e w'=> ∃v,e=dj (.tuple #[v,A G 0])/\bI w.heap.size w' v (aj.Q7 t)/\dl w.heap.size w w':=by
 refine(Hp ⟨t.toArray⟩ w h3 h2 h1).mono ?_;rintro e w' (⟨h,-,-⟩|⟨-,v,xs,rfl,a1,a2,a3,a4⟩)
 ·exact absurd h (by show ¬Xe t=dq;rw[h4];decide)
 have a2':aw.val xs=aj.Q7 t:=a2;refine⟨v,rfl,⟨⟨xs,a1.1,a2',aar (Sr a3 (by rw[a2'];exact Qzu t)) h3⟩,a1.2,?_⟩,a4⟩;obtain⟨ao,E,rfl,-⟩:=a1.1.2;show dX xs.length _;rw[<-a2'];exact dX.of a1.1.ok a3
theorem Wk {L:List Tok}{fin:Nat}{s:aj.St}{ns:List Nv}(h:RS w R lv L fin a s nv ns):dk co 111 #[db (F ⟨R,0,Z⟩)] w (RB (aj.Qo fin s) R lv L fin s nv ns (fun x v w'=>bI w.heap.size w' v x) w):=by
 have H:=zq h;have hc:=Zj 1 [] s.ts (by decide)
 cases hm:aj.Qh 1 s.ts with
 |false=>
  rw[hm]at hc;have HM:=zq hm;have HC:=zq hc;clear hm hc h;go_enter gE,ff;go_wp2_with fail;refine(X5 H 0 1 [] (by omega) (by omega)).mono ?_;rintro e w1 ⟨rfl,b1⟩;rw[HC.o];have aK:=zq b1;clear b1;go_wp2_with fail;refine(Sv (H.o.below aK)).mono ?_;rintro e w2 ⟨rfl,b3⟩;refine⟨rfl,?_⟩;unfold aj.Qo;rw[if_neg (by rw[HM.o];decide)]
  exact⟨rfl,(Wr.au aK).trans (Mv.refl _ _) (Wr.au b3)⟩
 |true=>
  rw[hm]at hc;obtain⟨c0,c1,-,-,-⟩:=h.cells;obtain⟨ao,cap,rfl,t1,t2,t3⟩:=h.tks;have aS:=h.short;obtain⟨p1,p2,p3⟩:=Mk h.drop (Wx hm)
  have hn:a<L.length:=by omega
  obtain⟨g,rfl,hg,fT⟩:=t3 (by omega);obtain⟨t,ht⟩:∃t,L[a]?=F t:=⟨_,aad hn⟩;obtain⟨d0,d1,d2⟩:=fT a t ht
  have ej:s.ts=t::L.drop (a+1):=by rw[<-h.drop,acO,ht];rfl
  have hx:aj.Qe s.ts=t.2.1:=by rw[ej];rfl
  have rS:t.1=1:=by
   rw[ej]at hm;obtain⟨tk,tt,tc⟩:=t
   simpa [aj.Qh] using hm
  have bm:=h.good t (aai ht) rS;have br:=h.lt;have HM:=zq hm;have HC:=zq hc;have HX:=zq hx;have D1:=zq d1;obtain⟨tk,tt,tc⟩:=t;have bS:=zq bm;clear hm hc h t3 fT ht hx c0 c1 d0 d1 d2 p1 p2 p3 bm rS ej;go_enter gE,ff;go_wp2_with fail;refine(X5 H 0 1 [] (by omega) (by omega)).mono ?_;rintro e w1 ⟨rfl,b1⟩;rw[HC.o];have aK:=zq b1;have et:=zq (H.o.below b1);have e0:=et.o.cells.1;have e1:=et.o.cells.2.1;have e2:w1.cell? ⟨g,a*3+1,Z⟩=F (c9 ⟨tt.toArray⟩):=(b1.cell (p:=⟨g,a*3+1,Z⟩) (by show g<_;omega)).trans D1;have kf:R<w1.heap.size:=aal br b1.size
  have iV:g<w1.heap.size:=by omega
  clear b1;go_wp2_with fail
  go_region_held3 (fun w'=>w'.cell? ⟨R,0,Z⟩=F (U (F ⟨g,0,Z⟩) L.length cap)/\w'.cell? ⟨R,1,Z⟩=F (A G a)/\w'.cell? ⟨g,a*3+1,Z⟩=F (c9 ⟨tt.toArray⟩))
   (first
    |go_keep
    |exact⟨(a2.cell (p:=⟨R,0,Z⟩) kf).trans e0,(a2.cell (p:=⟨R,1,Z⟩) kf).trans e1,(a2.cell (p:=⟨g,a*3+1,Z⟩) iV).trans e2⟩)
   ((go_at_call 167;refine(Qxs bS.o.1 bS.o.2.1 bS.o.2.2.1 bS.o.2.2.2).mono ?_;rintro e w3 ⟨v3,rfl,a1,a2⟩))
  have A1:=zq a1;have A2:da (dl w1.heap.size w1 w3):=(below_drewN w1 1).trans a2;have ie:=zq (et.o.below A2);have c1:=ie.o.cells.2.1;have f1:=ie.o.iH 1;clear a1 a2 e0 e1 e2;go_wp2_with fail;go_ret;obtain⟨g1,g2⟩:=ie.o.bB (Wx HM);unfold aj.Qo;rw[if_pos HM.o,HX.o];refine⟨_,_,rfl,g1,(Wr.au aK).trans (Mv.refl _ _) (((Wr.au A2)).trans (Mv.refl _ _) g2),Uq s,?_⟩;exact(bI.mono (bI.set (R:=R) A1 kf 1 _) aK.o.size)
theorem Tryz.oc:(Tryz.prog.info? 43).map (fun i=>(i.zero,i.size,i.bytes))=F (F (.agg #[A G 0,c9 ⟨#[]⟩,U Z 0 0]),3,48):=by kernel_rfl
def gP (w:ce)(R:Nat)(nv:ca)(ns:List Nv)(v:ca)(ks:List Nat):Prop:=KR w R nv.ownBlock v ks/\ ∀p∈ns,∀q,p.2.ownBlock=F q->v.ownBlock≠F q
theorem RS.put {L:List Tok}{fin:Nat}{s:aj.St}{ns:List Nv}(h:RS w R lv L fin a s nv ns){nd:aj.Node}(hk:gP w R nv ns kv nd.kids)(hf:ns.length+1+s.ts.length<=134217728){gg:Nat}
  (hown:w2.ownsRow (R+1) 43 3 (U (F ⟨gg,0,Z⟩) (ns.length+1) cap) (ns.length+1) (Xm ns++Xm [(nd,kv)])) (hg:w.grownBy w2 nv.ownBlock) (hat:nv.ownBlock=F gg\/gg=w.heap.size):
  RS (w2.setCell ⟨R,4,Z⟩ (U (F ⟨gg,0,Z⟩) (ns.length+1) cap)) R lv L fin a s (U (F ⟨gg,0,Z⟩) (ns.length+1) cap) (ns++[(nd,kv)])/\Wr R nv.ownBlock w (w2.setCell ⟨R,4,Z⟩ (U (F ⟨gg,0,Z⟩) (ns.length+1) cap))/\Mv w nv.ownBlock (Value.ownBlock (U (F ⟨gg,0,Z⟩) (ns.length+1) cap)):=by
 have a2:F R≠nv.ownBlock:=fun e=>by have:=h.gt R e.symm;omega
 have hb:=(hg.block R h.lt a2).trans h.blk;have a1:=aao w2 R 4 #[lv,A G a,A G fin,A G (s.opened:Nat),nv] 85 (U (F ⟨gg,0,Z⟩) (ns.length+1) cap) hb;have H:Wr R nv.ownBlock w (w2.setCell ⟨R,4,Z⟩ (U (F ⟨gg,0,Z⟩) (ns.length+1) cap)):=(Wr.dL hg).trans (Mv.refl _ _) (Wr.aD w2 4 _)
 have J:Mv w nv.ownBlock (Value.ownBlock (U (F ⟨gg,0,Z⟩) (ns.length+1) cap)):=by
  intro k hk
  cases hk
  rcases hat with h|h
  ·exact .inl h
  exact .inr (abT h.symm)
 have I:(ns++[(nd,kv)]).length=ns.length+1:=by simp
 refine⟨⟨a1.trans (by simp),h.tks.wr H h.lt h.gt,h.drop,h.le,?_,?_,?_,by rw[I];exact hf,h.deep,h.short,h.sum,h.good,h.sg.wr H (ad9 h.sgl) (fun e=>by have:=h.gt _ e;have:=h.sgl;omega),h.sgl⟩,H,J⟩
 ·rw[I,W7]
  exact ab8 hown (by simp) _
 ·intro p K
  rcases aaP.1 K with K|K
  ·exact(h.kids p K).wr H J
  rw[aaO.1 K];exact hk.1.wr H J
 intro i j p q k E hj bi T
 have aE:∀(i:Nat) (p:Nv),(ns++[(nd,kv)])[i]?=F p->(ns[i]?=F p/\i<ns.length)\/(i=ns.length/\p=(nd,kv)):=by
  intro i p E;by_cases hlt:i<ns.length
  ·rw[aaH hlt]at E;exact .inl ⟨E,hlt⟩
  have:=(aaf.1 E).1;rw[I]at this
  have e:i=ns.length:=by omega
  subst e;rw[aaK (aab _)]at E;simp at E;exact .inr ⟨rfl,E.symm⟩
 rcases aE i p E with ⟨am,a5⟩|⟨am,rfl⟩<;>rcases aE j q hj with ⟨h2,a6⟩|⟨h2,rfl⟩
 ·exact h.apart i j p q k am h2 bi T
 ·exact absurd T (hk.2 p (aai am) k bi)
 ·exact absurd bi (hk.2 q (aai h2) k T)
 omega
def aer (R:Nat)(lv:ca)(L:List Tok)(fin a:Nat)(s:aj.St)(nv:ca)(ns:List Nv)(nd:aj.Node)(kv:ca)(w:ce)(e:ef)(w':ce):Prop:=
 ∃eJ,e=dj (A G (ns.length:Nat))/\RS w' R lv L fin a s eJ (ns++[(nd,kv)])/\Wr R nv.ownBlock w w'/\Mv w nv.ownBlock eJ.ownBlock
theorem Fl {L:List Tok}{fin:Nat}{s:aj.St}{ns:List Nv}(h:RS w R lv L fin a s nv ns)(nd:aj.Node)(hk:gP w R nv ns kv nd.kids)(hf:ns.length+1+s.ts.length<=134217728):dk co 93 #[db (F ⟨R,0,Z⟩),A G (nd.op:Nat),c9 ⟨nd.text.toArray⟩,kv] w (aer R lv L fin a s nv ns nd kv w):=by
 obtain⟨i0,hi,hz0,hz1,hz2⟩:=aa0 Tryz.oc;obtain⟨ko,aT,hkv,-⟩:=hk.1
 have kH:ns.length<=134217728:=by omega
 have HK:=zq hk;have HH:=zq h;obtain⟨op,text,kids⟩:=nd;subst hkv;have HA:=zq (Qq w (O #[A G op,c9 ⟨text.toArray⟩,U ko kids.length aT] 43));have HS:=zq (h.below HA);have ot:da (gP (w.alloc (O #[A G op,c9 ⟨text.toArray⟩,U ko kids.length aT] 43)) R nv ns (U ko kids.length aT) kids):=⟨hk.1.wr (Wr.au HA) (Mv.refl _ _),hk.2⟩;have kU:da (R<(w.alloc (O #[A G op,c9 ⟨text.toArray⟩,U ko kids.length aT] 43)).heap.size):=HS.o.lt
 have bV:da (F R≠nv.ownBlock):=fun e=>by have:=HS.o.gt R e.symm;omega
 have c4:=h.cells.2.2.2.2;have yJ:=zq HS.o.cells.2.2.2.2;have HF4:=zq (HS.o.iH 4);obtain⟨nl,z8⟩:=xq ns.length;have gY:=zq z8;have hsz:=h.lt;rw[<-z8]at kH
 have UF:(w.alloc (O #[A G op,c9 ⟨text.toArray⟩,U ko kids.length aT] 43)).ownsRow (R+1) 43 3 nv nl (Xm ns):=by rw[z8];exact HS.o.own
 have HOWN:=zq UF;clear h hk z8 UF;go_enter func93,ntmps93;go_wp2_with (at_builtin;refine abk _ rfl _ _ 23 rfl (R+1) 43 i0 (.agg #[A G 0,c9 ⟨#[]⟩,U Z 0 0]) 3 48 underlying23 hi hz0 hz1 hz2 rfl (by omega) nv nl (Xm ns) rfl HOWN.o ⟨w.heap.size,0,Z⟩ 1 1 [A G op,c9 ⟨text.toArray⟩,U ko kids.length aT] rfl rfl (ar.Qg _ _ _ _ rfl) (by simp[Value.oneCell']) (by omega) (by unfold maxLen;omega) (by omega) (by have:=kU.o;simp at this;simp;omega) (w.heap.size+1) (by simp) ?_);intro gg cap w5 cf hgrow hat gW;have d4:w5.cell? ⟨R,4,Z⟩=F nv:=(hgrow.cell_far ⟨R,4,Z⟩ kU.o bV.o).trans yJ.o;have d5:w5.frozen? ⟨R,4,Z⟩=cl:=(hgrow.frozen_far ⟨R,4,Z⟩ kU.o bV.o).trans HF4.o;have HG:=zq (HS.o.put (kv:=U ko kids.length aT) (nd:=⟨op,text,kids⟩) ot.o hf (gg:=gg) (cap:=cap) (by rw[<-gY.o];exact cf) hgrow (by simpa using hat));rw[<-gY.o]at HG;clear cf hgrow hat gW;go_wp2_with fail;go_ret;exact⟨_,by rw[<-gY.o];rfl,HG.o.1,(Wr.au HA.o).trans (Mv.refl _ _) HG.o.2.1,fun k hk=>(HG.o.2.2 k hk).imp id (fun h=>aar HA.o.size h)⟩
theorem Qzz (h:oC w v n):dk co 110 #[v] w fun e w'=>e=dj (A G (aj.side n:Nat))/\dl w.heap.size w w':=by
 obtain⟨xs,hr,hv,hl⟩:=h;have HR:=zq hr;obtain⟨ao,cap,rfl,bU,hcm,bm,aS⟩:=hr.2;have bp:=zq (Qq w (O #[A .u64 64] 101));have hblk:bh (w.alloc (O #[A .u64 64] 101)) w.heap.size [64]:=⟨aap w _,by intro x hx;simp at hx;subst hx;unfold BB;omega⟩;have vd:=zq (hblk.whole (by simp));have HV:=zq hv
 have tY:aw.val [64]=64:=by simp[aw.val]
 obtain⟨ci,rL⟩:=xq (bY (aw.val xs) (aw.val [64]));have FI:=zq rL;by_cases hlt:64<n
 ·have hcb:(0:Int)<ci:=by
   rw[rL,tY,hv];unfold bY;rw[if_neg (by omega),if_pos (by omega)];decide
  have HS:da (aj.side n=65):=by show _=_;unfold aj.side;rw[if_pos hlt]
  clear hr hv bm aS hblk tY rL hlt;go_enter eg,du;go_wp2_with fail;refine(Vy (HR.o.below bp) vd).mono ?_;rintro e w1 ⟨rfl,b1⟩;rw[<-FI.o];have aK:=zq (bp.o.trans (b1.mono (by simp)));clear b1;go_wp2_with fail;go_ret;exact⟨by rw[HS.o];rfl,aK⟩
 have hcb: ¬((0:Int)<ci):=by
  rw[rL,tY,hv];unfold bY;split
  ·decide
  first|decide|(rw[if_neg (by omega)];decide)
 have HS:da (aj.side n=n):=by show _=_;unfold aj.side;rw[if_neg hlt]
 by_cases hx0:xs.length=0
 ·have hx:xs=[]:=aau hx0
  subst hx
  have fL:n=0:=by rw[<-hv];rfl
  subst fL;clear hr hv bm aS hblk tY rL hlt;go_enter eg,du;go_wp2_with fail;refine(Vy (HR.o.below bp) vd).mono ?_;rintro e w1 ⟨rfl,b1⟩;rw[<-FI.o];have aK:=zq (bp.o.trans (b1.mono (by simp)));clear b1;go_wp2_with fail;go_ret;exact⟨by rw[HS.o];rfl,aK⟩
 obtain⟨x,ys,rfl⟩:∃x ys,xs=x::ys:=by
  cases xs with
  |nil=>exact absurd rfl hx0
  |cons x ys=>exact⟨x,ys,rfl⟩
 have hxn:x=n:=by
  have e:aw.val (x::ys)=x+BB*aw.val ys:=rfl;rw[hv]at e;by_cases hy:aw.val ys=0
  ·rw[hy]at e;omega
  have:BB*1<=BB*aw.val ys:=aa3 (aab _) (by omega)
  have lh:64<BB:=by unfold BB;omega
  omega
 subst hxn;obtain⟨g,o,rfl,c0⟩:=aS 0 x rfl;rw[aba]at c0;have iJ:g<w.heap.size:=hr.lt rfl;have tH:=zq c0
 have hb0:((((x::ys).length:Nat):Int)==0)=cl:=by simp;omega
 have dO:(0:Int)<(((x::ys).length:Nat):Int):=by simp
 obtain⟨ll,fV⟩:∃ll,ll=(x::ys).length:=⟨_,rfl⟩;rw[<-fV]at hb0 dO HR ⊢;have fp:=zq fV;clear hr hv bm aS hblk tY rL c0 fV hx0;go_enter eg,du;go_wp2_with fail;have bQ:=HR.o.below bp;refine(Vy bQ vd).mono ?_;rintro e w1 ⟨rfl,b1⟩;rw[<-FI.o];have aK:=zq (bp.o.trans (b1.mono (by simp)));have d0:w1.cell? ⟨g,o,Z⟩=F (A .u64 x):=(aK.o.cell (p:=⟨g,o,Z⟩) iJ).trans tH;have hw:IntKind.i64.wrap (x:Int)=(x:Int):=abh _ (by omega);clear b1 bQ;go_wp2_with fail;go_ret;exact⟨by rw[HS.o];rfl,aK⟩
def Xf (L:List Tok)(R:Nat)(w:ce):Nat:=L.length-(intOf ((w.cell? ⟨R,1,Z⟩).getD (de cl))).toNat
theorem RS.left {L:List Tok}{fin:Nat}{s:aj.St}{ns:List Nv}(h:RS w R lv L fin a s nv ns):Xf L R w=s.ts.length:=by unfold Xf;rw[h.cells.2.1,<-h.drop,aan];simp[intOf]
theorem Wr.vF {row:Option Nat}(h:Wr R Z w0 w)(hg:w.grownBy w' row)(hr:∀q,row=F q->w0.heap.size<=q):Wr R Z w0 w':=
 ⟨hg.os.trans h.os,hg.tape.trans h.tape,hg.output.trans h.output,aar h.size hg.size,fun k hk hR ho=>(hg.block k (aal hk h.size) (fun e=>by have:=hr k e.symm;omega)).trans (h.block k hk hR ho)⟩
theorem RS.loc {L:List Tok}{fin a0:Nat}{s0 s:aj.St}{ns:List Nv}{row:Option Nat}(h0:RS w0 R lv L fin a0 s0 nv ns)(h:RS w R lv L fin a s nv ns)(hw:Wr R Z w0 w)(hg:w.grownBy w' row)(hr:∀q,row=F q->w0.heap.size<=q):RS w' R lv L fin a s nv ns/\Wr R Z w0 w':=by have E:=hw.vF hg hr;refine⟨h0.reset E ((hg.block R h.lt (fun e=>by have:=hr R e.symm;have:=h0.lt;omega)).trans h.blk) h.drop h.le h.few h.deep,E⟩
theorem RS.step (h:Wr R Z w0 w)(k:Wr R Z w w'):Wr R Z w0 w':=h.trans (og':=Z) (Mv.refl _ _) k
def Q9 (l:List (Bool×ca)):List ca:=l.flatMap fun p=>[de p.1,p.2]
theorem Rt (a b:List (Bool×ca)):Q9 (a++b)=Q9 a++Q9 b:=by simp[Q9]
theorem Fx (l:List (Bool×ca)):(Q9 l).length=l.length*2:=by
 induction l with
 |nil=>rfl
 |cons a l ih=>simp[Q9]at ih ⊢;omega
theorem Mh:∀(l:List (Bool×ca)) (j:Nat) (p:Bool×ca),l[j]?=F p->(Q9 l)[j*2]?=F (de p.1)/\(Q9 l)[j*2+1]?=F p.2
 |a::l,0,p,h=>by simp at h;subst h;exact⟨rfl,rfl⟩
 |a::l,j+1,p,h=>by
  have:=Mh l j p (by simpa using h)
  have e1:(j+1)*2=j*2+2:=by omega
  rw[e1];exact this
def ints (l:List Nat):List ca:=l.map fun n=> A G (n:Nat)
structure En (w:ce) (B:Nat) (av lv:ca) (cs:List (Bool×ca)) (acc:List (Bool×Nat)) (lens:List Nat):Prop where
 fF:w.ownsRow B 62 2 av cs.length (Q9 cs)
 lL:w.ownsRow B 3 1 lv lens.length (ints lens)
 ne:∀q,av.ownBlock=F q->lv.ownBlock≠F q
 len:cs.length=acc.length
 el:∀(j:Nat) (c:Bool×ca) (p:Bool×Nat),cs[j]?=F c->acc[j]?=F p->c.1=p.1/\bI B w c.2 p.2/\ ∀q,c.2.ownBlock=F q->av.ownBlock≠F q/\lv.ownBlock≠F q
theorem En.nil (w:ce)(B:Nat):En w B (U Z 0 0) (U Z 0 0) [] [] []:=⟨abx _ _ _ _,abx _ _ _ _,fun q h=>by simp[Value.ownBlock]at h,rfl,fun j c p h=>by simp at h⟩
theorem Vx {e:TypeId}{z:Nat}{xs:List ca}(h:w.ownsRow B e z v n xs)(hw:Wr R Z w w')(hR:R<B):w'.ownsRow B e z v n xs:=by
 refine⟨h.1,?_⟩;rcases h.2 with bi|⟨g,I,J,rfl,K,E,H⟩
 ·exact .inl bi
 exact .inr ⟨g,I,J,rfl,K,(hw.block g (aah.1 E).1 (by omega) (by simp)).trans E,H⟩
theorem En.wr (h:En w B av lv cs acc lens)(hw:Wr R Z w w')(hR:R<B):En w' B av lv cs acc lens:=
 ⟨Vx h.fF hw hR,Vx h.lL hw hR,h.ne,h.len,fun j c p hc hp=>⟨(h.el j c p hc hp).1,(h.el j c p hc hp).2.1.wr hw hR (fun q hq=>by cases hq),(h.el j c p hc hp).2.2⟩⟩
theorem bI.grown {row:Option Nat}(h:bI B w v n)(hg:w.grownBy w' row)(hr:∀q,v.ownBlock=F q->row≠F q):bI B w' v n:=by obtain⟨⟨xs,H,I,J⟩,E,K⟩:=h;exact⟨⟨xs,H.kept hg (fun k hk e=>hr k e hk),I,J⟩,fun q hq=>⟨(E q hq).1,aal (E q hq).2 hg.size⟩,K⟩
theorem En.push (h:En w B av lv cs acc lens){neg:Bool}{m:ca}(hm:bI B w m k)(hd:∀q,m.ownBlock=F q->av.ownBlock≠F q/\lv.ownBlock≠F q)
  (hown:w'.ownsRow B 62 2 (U (F ⟨g,0,Z⟩) (cs.length+1) cap) (cs.length+1) (Q9 cs++[de neg,m])) (hg:w.grownBy w' av.ownBlock) (hat:av.ownBlock=F g\/g=w.heap.size):
  En w' B (U (F ⟨g,0,Z⟩) (cs.length+1) cap) lv (cs++[(neg,m)]) (acc++[(neg,k)]) lens:=by
 have H:∀q,q<w.heap.size->av.ownBlock≠F q->(Value.ownBlock (U (F ⟨g,0,Z⟩) (cs.length+1) cap))≠F q:=by
  intro q E bi e
  cases e
  rcases hat with h|h
  ·exact bi h
  change g<_ at E;omega
 have K:(cs++[(neg,m)]).length=cs.length+1:=by simp
 refine⟨?_,h.lL.kept hg ?_,?_,by simp[h.len],?_⟩
 ·rw[K,Rt];exact hown
 ·cases ho:lv.ownBlock with
  |none=>exact .inl rfl
  |some q=>exact .inr (fun e=>h.ne q e.symm ho)
 ·intro q E e
  have T:=(h.lL.lt q e).2;exact H q T (fun h2=>h.ne q h2 e) E
 intro j c p I J;by_cases hlt:j<cs.length
 ·rw[aaH hlt]at I
  rw[aaH (by rw[<-h.len];exact hlt)]at J;obtain⟨q1,q2,q3⟩:=h.el j c p I J;exact⟨q1,q2.grown hg (fun q E=>(q3 q E).1),fun q E=>⟨H q (q2.2.1 q E).2 (q3 q E).1,(q3 q E).2⟩⟩
 have aE:j=cs.length:=by have:=(aaf.1 I).1;rw[K]at this;omega
 subst aE;rw[aaK (aab _)]at I;rw[h.len,aaK (aab _)]at J;simp at I J;subst I;subst J;exact⟨rfl,hm.grown hg (fun q E=>(hd q E).1),fun q E=>⟨H q (hm.2.1 q E).2 (hd q E).1,(hd q E).2⟩⟩
theorem En.xF (h:En w B av lv cs acc lens)
  (hown:w'.ownsRow B 3 1 (U (F ⟨g,0,Z⟩) (lens.length+1) cap) (lens.length+1) (ints lens++[A G n])) (hg:w.grownBy w' lv.ownBlock) (hat:lv.ownBlock=F g\/g=w.heap.size):
  En w' B av (U (F ⟨g,0,Z⟩) (lens.length+1) cap) cs acc (lens++[n]):=by
 have H:∀q,q<w.heap.size->lv.ownBlock≠F q->(Value.ownBlock (U (F ⟨g,0,Z⟩) (lens.length+1) cap))≠F q:=by
  intro q E I e
  cases e
  rcases hat with h|h
  ·exact I h
  change g<_ at E;omega
 refine⟨h.fF.kept hg ?_,?_,?_,h.len,?_⟩
 ·cases ho:av.ownBlock with
  |none=>exact .inl rfl
  |some q=>exact .inr (fun e=>h.ne q ho e.symm)
 ·rw[show (lens++[n]).length=lens.length+1 from by simp,show ints (lens++[n])=ints lens++[A G n] from by simp[ints]]
  exact hown
 ·intro q E
  exact H q (h.fF.lt q E).2 (h.ne q E)
 intro j c p J K;obtain⟨q1,q2,q3⟩:=h.el j c p J K;exact⟨q1,q2.grown hg (fun q E=>(q3 q E).2),fun q E=>⟨(q3 q E).1,H q (q2.2.1 q E).2 (q3 q E).2⟩⟩
theorem Tryz.xy:(Tryz.prog.info? 62).map (fun i=>(i.zero,i.size,i.bytes))=F (F (.agg #[de cl,U Z 0 0]),2,32):=by kernel_rfl
theorem Zl {fin:Nat}{s s':aj.St}{m:Nat}(h:aj.Qo fin s=F (.ok (m,s'))):s'.ts.length+1=s.ts.length/\s'.opened=s.opened:=by
 unfold aj.Qo at h;split at h
 ·rename_i E
  unfold aj.ret at h
  cases h
  refine⟨?_,rfl⟩;have:=Wx E;have H:=abm.2 this;show s.ts.tail.length+1=_;rw[adv];omega
 cases h
theorem Ui {fin:Nat}{x:Bytes}{s s':aj.St}{u:Unit}(h:aj.want fin x s=F (.ok (u,s'))):s'.ts.length+1=s.ts.length/\s'.opened=s.opened:=by
 unfold aj.want at h;split at h
 ·rename_i E
  unfold aj.ret at h
  cases h
  refine⟨?_,rfl⟩;have H:=abm.2 (Mb E);show s.ts.tail.length+1=_;rw[adv];omega
 cases h
def EnO (R:Nat)(tv:ca)(L:List Tok)(fin:Nat)(nv:ca)(ns:List Nv)(w:ce)(N:Nat)(r:aj.PR (List (Bool×Nat)×List Nat))(av lv:ca)(wr:ce):Prop:=
 ∃f acc lens cs a' s',aj.Xo fin f acc lens s'=r/\RS wr R tv L fin a' s' nv ns/\Wr R Z w wr/\En wr w.heap.size av lv cs acc lens/\acc.length+s'.ts.length<=67108864/\lens.length+s'.ts.length<=67108864/\s'.ts.length<=N
def EnI (R:Nat)(tv:ca)(L:List Tok)(fin:Nat)(nv:ca)(ns:List Nv)(w:ce)(N:Nat)(lens:List Nat)(lv:ca)(r:aj.PR (Nat×List (Bool×Nat)))(av nn:ca)(wr:ce):Prop:=
 ∃f n acc cs a' s',aj.Xq fin f n acc s'=r/\nn=A G ((n:Nat):Int)/\RS wr R tv L fin a' s' nv ns/\Wr R Z w wr/\En wr w.heap.size av lv cs acc lens/\acc.length+s'.ts.length<=67108864/\n<=acc.length/\lens.length+s'.ts.length<=67108864/\(0<n->lens.length+s'.ts.length+1<=67108864)/\s'.ts.length<=N
def EnQ (B:Nat)(x:List (Bool×Nat)×List Nat)(v:ca)(w':ce):Prop:=∃av lv cs,v=.tuple #[av,lv]/\En w' B av lv cs x.1 x.2
theorem Qvj {L:List Tok}{fin:Nat}{s:aj.St}{ns:List Nv}(h:RS w R tv L fin a s nv ns)(f:Nat)(hf:aj.Xo fin f [] [] s≠Z):dk co 112 #[db (F ⟨R,0,Z⟩)] w (RB (aj.Xo fin f [] [] s) R tv L fin s nv ns (EnQ w.heap.size) w):=by
 have H:=zq h;have br:=h.lt;obtain⟨r,hr⟩:=xq (aj.Xo fin f [] [] s);rw[<-hr]at hf ⊢;have HR:=zq hr;have bV:=zq hf
 have ej:s.ts.length<=67108864:=by have:=h.short;rw[<-h.drop,aan];omega
 have HST:da (EnO R tv L fin nv ns w s.ts.length r (U Z 0 0) (U Z 0 0) w):=⟨f,[],[],[],a,s,hr.symm,h,Wr.refl _ _ _,En.nil _ _,by simpa using ej,by simpa using ej,aab _⟩;obtain⟨i0,hi,hz0,hz1,hz2'⟩:=aa0 Tryz.xy;obtain⟨j0,hj,cZ,eu,hk2⟩:=aa0 Tryz.df;clear h hr hf;go_enter func112,ntmps112;go_wp2_with fail;go_loopw [2,3,4,5,6] (fun av lv _ _ _ wr=>EnO R tv L fin nv ns w s.ts.length r av lv wr) (fun _ _ _ _ _ wr=>Xf L R wr)
 case atStart=>exact HST.o
 case round=>
  obtain⟨f,acc,lens,cs,a',s',hen,mH,hwr,vI,hb1,hb2,hbN⟩:=hrel;obtain⟨wo,rfl⟩:=xq wr
  cases f with
  |zero=>exact absurd hen.symm (by have:=bV.o;intro e;exact this e)
  |succ f=>
   obtain⟨r2,hr2⟩:=xq (aj.Xq fin f 0 acc s')
   have zL:r2.bind (fun x s=>if aj.Qk [93] s.ts then aj.ret (x.2,lens++[x.1]) s.bB else (aj.want fin [59] s).bind fun _ s=>aj.Xo fin f x.2 (lens++[x.1]) s)=r:=by rw[hr2];exact hen
   have kR:=zq zL
   have GQ:da (r2≠Z):=by intro e;rw[e]at zL;exact bV.o zL.symm
   have ahO:=zq mH;have PK:=zq mH.left;have HI:da (EnI R tv L fin nv ns w s'.ts.length lens u3 r2 u2 (A G 0) wo):=⟨f,0,acc,cs,a',s',hr2.symm,rfl,mH,hwr,vI,hb1,aat _,hb2,fun h=>absurd h (ado _),aab _⟩;clear hen mH hwr vI zL hr2;go_wp2_with fail;go_loopw [2,4,5,6] (fun av nn _ _ wr=>EnI R tv L fin nv ns w s'.ts.length lens u3 r2 av nn wr) (fun _ _ _ _ wr=>Xf L R wr)
   case atStart=>exact HI.o
   clear HI
   case round=>
    obtain⟨f2,n,nN,sM,a2,s2,her,rfl,mH,hwr,vI,hb1,kH,hb2,hb3,hbM⟩:=hrel
    cases f2 with
    |zero=>exact absurd her.symm GQ
    |succ f2=>
     obtain⟨wx,hwx⟩:=xq wr;have acY:=zq mH.left;have oN:=zq mH;have vw:=zq hwr;have uO:=zq vI;have HER:=zq her
     have aiv:n<=67108864:=by omega
     clear mH hwr vI her hwx;by_cases fL:n=0
     case' pos=>
      have fX:((n:Int)==0)=dq:=by simp[fL]
      have eD:da ((aj.Qo fin (if aj.Qk [45] s2.ts then s2.bB else s2)).bind (fun m s'=>aj.Xq fin f2 (n+1) (nN++[(aj.Qk [45] s2.ts && decide (0<m),m)]) s')=r2):=by have h1:=HER.o;unfold aj.Xq at h1;rw[if_pos (show (decide (n=0)||aj.Qk [45] s2.ts||aj.Qh 1 s2.ts)=dq from by simp[fL])]at h1;exact h1
      have tO:=zq fL;clear fL;have rB:=oN;have y9:=vw;have OY:=uO;clear oN vw uO
     case' neg=>
      have fX:((n:Int)==0)=cl:=by simp[fL]
      have dO:0<n:=by omega
      have hb4:=hb3 dO;have tO:=zq fL;clear fL hb3
      cases hm:aj.Qk [45] s2.ts
      case' true=>
       have eD:da ((aj.Qo fin (if aj.Qk [45] s2.ts then s2.bB else s2)).bind (fun m s'=>aj.Xq fin f2 (n+1) (nN++[(aj.Qk [45] s2.ts && decide (0<m),m)]) s')=r2):=by have h1:=HER.o;unfold aj.Xq at h1;rw[if_pos (show (decide (n=0)||aj.Qk [45] s2.ts||aj.Qh 1 s2.ts)=dq from by simp[hm])]at h1;exact h1
       have HM:=zq hm;clear hm;go_wp2_with fail;refine(Nf oN [45]).mono ?_;rintro e wx ⟨rfl,bx⟩;rw[HM.o];have rB:=zq (oN.o.below bx);have y9:=zq (RS.step vw (Wr.au bx));have OY:=zq (uO.o.wr (R:=R) (Wr.au bx) br);clear bx
      case' false=>
       cases hk:aj.Qh 1 s2.ts
       case' true=>
        have eD:da ((aj.Qo fin (if aj.Qk [45] s2.ts then s2.bB else s2)).bind (fun m s'=>aj.Xq fin f2 (n+1) (nN++[(aj.Qk [45] s2.ts && decide (0<m),m)]) s')=r2):=by have h1:=HER.o;unfold aj.Xq at h1;rw[if_pos (show (decide (n=0)||aj.Qk [45] s2.ts||aj.Qh 1 s2.ts)=dq from by simp[hk])]at h1;exact h1
        have HM:=zq hm;have iU:=Zj 1 [] s2.ts (by decide);rw[hk]at iU;have HK:=zq iU;clear hm hk iU;go_wp2_with fail;refine(Nf oN [45]).mono ?_;rintro e wy ⟨rfl,bx⟩;rw[HM.o];have xV:=zq (oN.o.below bx);have HWY:=zq (RS.step vw (Wr.au bx));have HEY:=zq (uO.o.wr (R:=R) (Wr.au bx) br);clear bx;go_wp2_with fail;refine(X5 xV 0 1 [] (by omega) (by omega)).mono ?_;rintro e wx ⟨rfl,bx⟩;rw[HK.o];have rB:=zq (xV.o.below bx);have y9:=zq (RS.step HWY (Wr.au bx));have OY:=zq (HEY.o.wr (R:=R) (Wr.au bx) br);clear bx
       case false=>
        have ji:da (r=if aj.Qk [93] s2.ts then aj.ret (nN,lens++[n]) s2.bB else (aj.want fin [59] s2).bind fun _ s=>aj.Xo fin f nN (lens++[n]) s):=by have h1:=HER.o;unfold aj.Xq at h1;rw[if_neg (show ¬(decide (n=0)||aj.Qk [45] s2.ts||aj.Qh 1 s2.ts)=dq from by simp[hk,hm,tO.o])]at h1;show _=_;rw[<-kR.o,<-h1];rfl
        have HM:=zq hm;have iU:=Zj 1 [] s2.ts (by decide);rw[hk]at iU;have HK:=zq iU;clear hm hk iU;go_wp2_with fail;refine(Nf oN [45]).mono ?_;rintro e wy ⟨rfl,bx⟩;rw[HM.o];have xV:=zq (oN.o.below bx);have HWY:=zq (RS.step vw (Wr.au bx));have HEY:=zq (uO.o.wr (R:=R) (Wr.au bx) br);clear bx;go_wp2_with fail;refine(X5 xV 0 1 [] (by omega) (by omega)).mono ?_;rintro e wx ⟨rfl,bx⟩;rw[HK.o];have rB:=zq (xV.o.below bx);have y9:=zq (RS.step HWY (Wr.au bx));have OY:=zq (HEY.o.wr (R:=R) (Wr.au bx) br);have aiR:=y9.o.size;clear bx;have jf:=zq (Qq wx (O #[A G n] 3));have nI:=zq (rB.o.below jf);have eQ:=zq (RS.step y9 (Wr.au jf));have nD:=zq (OY.o.wr (R:=R) (Wr.au jf) br);obtain⟨nc,bU⟩:=xq lens.length;have qz:=zq bU
        have lg:(wx.alloc (O #[A G n] 3)).ownsRow w.heap.size 3 1 u3 nc (ints lens):=by rw[bU];exact nD.o.lL
        have HOW:=zq lg
        have mF:nc<=67108864:=by omega
        clear bU lg;go_wp2_with (at_builtin;refine abk _ rfl _ _ 41 rfl w.heap.size 3 j0 (A G 0) 1 8 underlying41 hj cZ eu hk2 rfl (by omega) u3 nc (ints lens) rfl HOW.o ⟨wx.heap.size,0,Z⟩ 1 1 [A G n] rfl rfl (ar.Qg _ _ _ _ rfl) (by simp[Value.oneCell']) (by omega) (by unfold maxLen;omega) (by omega) (by simp;omega) (wx.heap.size+1) (by simp) ?_);intro gg cap w5 cf hgrow hat gW;have q1:=nD.o.xF (n:=n) (by rw[<-qz.o];exact cf) hgrow (by simpa using hat);obtain⟨q2,q3⟩:=H.o.loc nI.o eQ.o hgrow (fun q hq=>(nD.o.lL.lt q hq).1);rw[<-qz.o]at q1;have jR:=zq q1;have cQ:=zq q2;have fH:=zq q3;clear cf hgrow hat gW q1 q2 q3;go_wp2_with fail;refine(Zi cQ.o [93]).mono ?_;rintro e w6 ⟨rfl,t1,t2⟩;have T1:=zq (RS.step fH.o t1);have TE:=zq (jR.o.wr t1 br);clear t1
        cases jT:aj.Qk [93] s2.ts with
        |true=>
         rw[if_pos jT]at t2;have T2:=zq t2;have yB:=zq jT;clear t2 jT;go_wp2_with fail;go_ret2;rw[ji.o,if_pos yB.o]
         exact⟨_,_,rfl,T2,T1,aar (Uq s2) (by omega),_,_,_,rfl,TE⟩
        |false=>
         rw[if_neg (by rw[jT];decide)]at t2;have T2:=zq t2;have yB:=zq jT;clear t2 jT;go_wp2_with fail;refine(S9 T2 [59]).mono ?_;rintro e w7 hn;rcases hN:aj.want fin [59] s2 with- |(⟨fc,fk⟩|⟨m,s3⟩)
         ·rw[hN]at hn;exact hn.elim
         ·rw[hN]at hn
          obtain⟨rfl,n1⟩:=hn;refine⟨rfl,?_⟩
          have hr:r=F (.error (fc,fk)):=by rw[ji.o,if_neg (by rw[yB.o];decide),hN];rfl
          rw[hr];exact⟨rfl,RS.step T1 n1⟩
         rw[hN]at hn;obtain⟨v,a3,rfl,n1,n2,n3,rfl⟩:=hn;have hwl:=Ui hN
         have hr:aj.Xo fin f nN (lens++[n]) s3=r:=by rw[ji.o,if_neg (by rw[yB.o];decide),hN];rfl
         have MI:=zq hr;have HL7:=zq n1.left;have xO:=zq n1;have ou:=zq (RS.step T1 n2);have HE7:=zq (TE.o.wr n2 br);clear n1 n2 n3 hr hN;go_wp2_with fail;have aq:EnO R tv L fin nv ns w s.ts.length r u2 (U (F ⟨gg,0,Z⟩) (nc+1) cap) w7:=⟨f,nN,lens++[n],_,a3,s3,MI,xO,ou,HE7,by omega,by rw[aag,aaR];omega,by omega⟩
         have rO:Xf L R w7<Xf L R wo:=by rw[HL7.o,PK.o];omega
         exact⟨aq,rO⟩
     all_goals
      obtain⟨s1,hs1⟩:=xq ((if aj.Qk [45] s2.ts then s2.bB else s2));have et:=zq hs1;clear hs1;go_wp2_with fail;refine(Zi rB [45]).mono ?_;rintro e w1 ⟨rfl,t1,t2⟩
      have t3:∃b1,RS w1 R tv L fin b1 s1 nv ns:=by
       rw[et.o];split at t2
       ·rename_i hq;rw[if_pos hq];exact⟨_,t2⟩
       rename_i hq;rw[if_neg hq];exact⟨_,t2⟩
      obtain⟨b1,t3⟩:=t3;have T1:=zq (RS.step y9 t1);have T3:=zq t3;have TE:=zq (OY.o.wr t1 br)
      have aiO:s1.ts.length<=s2.ts.length:=by
       rw[et.o];split
       ·exact Uq s2
       exact aab _
      obtain⟨ng,yh⟩:=xq (aj.Qk [45] s2.ts);rw[<-yh];have tP:=zq yh;clear t1 t2 t3 yh;go_wp2_with fail;refine(Wk T3).mono ?_;rintro e w2 hn;rcases hN:aj.Qo fin s1 with- |(⟨fc,fk⟩|⟨m,s3⟩)
      ·rw[hN]at hn;exact hn.elim
      ·rw[hN]at hn
       obtain⟨rfl,n1⟩:=hn;refine⟨rfl,?_⟩
       have hr2:r2=F (.error (fc,fk)):=by rw[<-eD.o,<-et.o,hN];rfl
       have hr:r=F (.error (fc,fk)):=by rw[<-kR.o,hr2];rfl
       rw[hr];exact⟨rfl,RS.step T1 n1⟩
      rw[hN]at hn;obtain⟨v,a3,rfl,n1,n2,n3,n4⟩:=hn;have kH:=Zl hN
      obtain⟨vo,aU,vl,rfl⟩:∃vo aU vl,v=U vo vl aU:=by obtain⟨⟨xs,hx,-⟩,-⟩:=n4;obtain⟨vo,aU,e,-⟩:=hx.2;exact⟨vo,aU,_,e⟩
      have hz:decide (0<vl)=decide (0<m):=by have:vl=0↔m=0:=n4.2.2.zero;simp only[decide_eq_decide];omega
      have ou:=zq (RS.step T1 n2);have vg:=zq n1;have OV:=zq (TE.o.wr n2 br);have rz:=zq n4;obtain⟨b,hb⟩:=xq ((ng && decide (0<m)));have HB:=zq hb;have HZ:=zq hz
      have kV:da (r2=aj.Xq fin f2 (n+1) (nN++[(b,m)]) s3):=by show _=_;rw[<-eD.o,<-et.o,hN,HB.o,tP.o];rfl
      have fT:sM.length<=67108864:=by rw[OV.o.len];omega
      have lQ:=zq fT;have jf:=zq (Qq w2 (O #[de b,U vo vl aU] 62));have nI:=zq (vg.o.below jf);have eQ:=zq (RS.step ou (Wr.au jf));have nD:=zq (OV.o.wr (R:=R) (Wr.au jf) br);have XJ:=(rz.o.wr (R:=R) (og:=Z) (Wr.au jf) (aal br T1.o.size) (fun q hq=>by cases hq));have ade:=zq XJ;have dy:=zq T1.o.size;obtain⟨nc,bU⟩:=xq sM.length;have qz:=zq bU
      have lg:(w2.alloc (O #[de b,U vo vl aU] 62)).ownsRow w.heap.size 62 2 u2 nc (Q9 sM):=by rw[bU];exact nD.o.fF
      have HOW:=zq lg
      have mF:nc<=67108864:=by rw[bU];exact fT
      have hb0:b=(ng && decide (0<vl)):=by rw[HB.o,HZ.o]
      have hz2:=ou.o.size
      have xh:w.heap.size<=(w2.alloc (O #[de b,U vo vl aU] 62)).heap.size:=by simp;omega
      have ahP:=zq xh;have bp:=zq hb0;clear n1 n2 n4 XJ hb hz bU lg fT hN hb0 xh
      cases XM:ng
      case' true=>
       subst XM
       have I3:(decide (0<vl))=b:=by rw[bp.o];rfl
      case' false=>
       subst XM
       have hbf:b=cl:=by rw[bp.o];rfl
       subst hbf
      all_goals
       go_wp2_with (at_builtin;refine abk _ rfl _ _ 45 rfl w.heap.size 62 i0 (.agg #[de cl,U Z 0 0]) 2 32 ex hi hz0 hz1 hz2' rfl (by omega) u2 nc (Q9 sM) rfl HOW.o ⟨w2.heap.size,0,Z⟩ 1 1 [de _,U vo vl aU] rfl rfl (ar.Qg _ _ _ _ rfl) (by simp[Value.oneCell']) (by omega) (by unfold maxLen;omega) (by omega) (by simp;omega) (w2.heap.size+1) (by simp) ?_);intro gg cap w5 cf hgrow hat gW
       have q1:=nD.o.push (m:=U vo vl aU) (k:=m) (ade.o.mono dy) (fun q hq=>by
        have h1:=rz.o.2.1 q hq;refine⟨fun e=> ?_,fun e=> ?_⟩
        ·have:=(TE.o.fF.lt q e).2;omega
        have:=(TE.o.lL.lt q e).2;omega) (by rw[<-qz.o];exact cf) hgrow (by simpa using hat)
       obtain⟨q2,q3⟩:=H.o.loc nI eQ hgrow (fun q hq=>(nD.o.fF.lt q hq).1);have jR:=zq q1;have cQ:=zq q2;have fH:=zq q3;rw[<-qz.o]at jR;have GA:=zq q2.left;clear cf hgrow hat gW q1 q2 q3;go_wp2_with fail;have aq:EnI R tv L fin nv ns w s'.ts.length lens u3 r2 (U (F ⟨gg,0,Z⟩) (nc+1) cap) (A G ((n:Int)+1)) w5:=⟨f2,n+1,nN++[(_,m)],_,a3,s3,kV.o.symm,by congr 1,cQ,fH,jR,by rw[aag,aaR];omega,by rw[aag,aaR];omega,by omega,fun _=>by omega,by omega⟩
       have rO:Xf L R w5<Xf L R wr:=by rw[GA.o,acY.o];omega
       exact⟨aq,rO⟩
theorem Qmq (a b:ca)(n j:Nat)(hj:j<n):(madeCells #[a,b] (n*2))[j*2]?=F a/\(madeCells #[a,b] (n*2))[j*2+1]?=F b:=by
 unfold madeCells;constructor
 ·rw[Array.getElem?_map,Array.getElem?_range,if_pos (by omega)]
  show F (#[a,b][(j*2) % 2]!)=_;rw[show (j*2) % 2=0 from by omega];rfl
 rw[Array.getElem?_map,Array.getElem?_range,if_pos (by omega)];show F (#[a,b][(j*2+1) % 2]!)=_;rw[show (j*2+1) % 2=1 from by omega];rfl
theorem Qyw (n:Nat)(hn:n<=4096):∀w:ce,(Instr.makeSlice 45 (A G (n:Int)) (A G (n:Int))).run co w=.ok (U (F ⟨w.heap.size,0,Z⟩) n n) (w.alloc (O (madeCells #[de cl,U Z 0 0] (n*2)) 62)):=by
 obtain⟨i0,K,E,H,I⟩:=aa0 Tryz.xy;intro w
 have J:(i0.bytes:Int)*(n:Int)<=281474976710656:=by rw[I];omega
 have h:=run_make (P:=co) w 45 62 i0 (.agg #[de cl,U Z 0 0]) ex K E G G n n (by omega) (Int.le_refl _) J (by omega);simp only[acT]at h;rw[h,H];rfl
def mr (w:ce)(v:ca)(l:List (Bool×Nat)):Prop:=∃ao cap,v=U ao l.length cap/\l.length<=cap/\cap<=maxLen/\(0<l.length-> ∃g o,ao=F ⟨g,o,Z⟩/\g<w.heap.size/\ ∀j p,l[j]?=F p-> ∃m xs,w.cell? ⟨g,o+j*2,Z⟩=F (de p.1)/\w.cell? ⟨g,o+j*2+1,Z⟩=F m/\Rd w m xs/\aw.val xs=p.2/\xs.length<=67108864/\dX xs.length p.2)
theorem mr.below {l:List (Bool×Nat)}(h:mr w v l)(hb:dl w.heap.size w w'):mr w' v l:=by obtain⟨ao,E,e,H,I,J⟩:=h;refine⟨ao,E,e,H,I,fun h0=> ?_⟩;obtain⟨g,o,rfl,a2,a3⟩:=J h0;refine⟨g,o,rfl,aal a2 hb.size,fun j p hj=> ?_⟩;obtain⟨m,xs,b1,b2,b3,b4,b5,b6⟩:=a3 j p hj;exact⟨m,xs,(hb.cell (p:=⟨g,o+j*2,Z⟩) a2).trans b1,(hb.cell (p:=⟨g,o+j*2+1,Z⟩) a2).trans b2,b3.below hb,b4,b5,b6⟩
theorem mr.zeros (w:ce)(n:Nat)(hn:n<=4096):mr (w.alloc (O (madeCells #[de cl,U Z 0 0] (n*2)) 62)) (U (F ⟨w.heap.size,0,Z⟩) n n) (List.replicate n (cl,0)):=by
 have E:=aap w (O (madeCells #[de cl,U Z 0 0] (n*2)) 62);refine⟨_,n,by rw[aaZ],by rw[aaZ];omega,by unfold maxLen;omega,fun _=>⟨w.heap.size,0,rfl,by simp,fun j p hj=> ?_⟩⟩
 have h:j<n:=by have:=(aaf.1 hj).1;rwa [aaZ]at this
 have H:p=(cl,0):=by rw[List.getElem?_replicate,if_pos h]at hj;simpa using hj.symm
 subst H;obtain⟨m1,m2⟩:=Qmq (de cl) (U Z 0 0) n j h;refine⟨U Z 0 0,[],?_,?_,Rd.nil _,rfl,by simp,by simp,by simp⟩
 ·rw[aaX];exact(aaj _ _ _ _ _ _ E).trans m1
 rw[aaX];exact(aaj _ _ _ _ _ _ E).trans m2
theorem En.irs (h:En w B av lv cs acc lens):mr w av acc:=by
 obtain⟨ao,H,e,I,J,K⟩:=Qj h.fF;refine⟨ao,H,by rw[<-h.len];exact e,by rw[<-h.len];exact I,J,fun h0=> ?_⟩;obtain⟨g,rfl,a1,a2,a3⟩:=K (by rw[h.len];exact h0);refine⟨g,0,rfl,a2,fun j p hj=> ?_⟩
 have E:j<cs.length:=by rw[h.len];exact(aaf.1 hj).1
 obtain⟨q1,⟨⟨xs,x1,x2,x3⟩,-,x4⟩,-⟩:=h.el j cs[j] p (aad E) hj
 have x5:dX xs.length p.2:=by obtain⟨ao',cap',e,-⟩:=x1.2;rw[e]at x4;exact x4
 obtain⟨i1,i2⟩:=Mh cs j cs[j] (aad E);refine⟨_,xs,?_,?_,x1,x2,x3,x5⟩
 ·rw[aaX,a3 _ (by omega),i1,q1]
 rw[aaX,a3 _ (by omega),i2]
theorem Qk1 {x y z u t:ca}(h:w.heap[g]?=F (O #[u,v,t] 47 (0,0)))(hw:w'=((w.setCell ⟨g,0,Z⟩ x).setCell ⟨g,1,Z⟩ y).setCell ⟨g,2,Z⟩ z):w'.heap[g]?=F (O #[x,y,z] 47 (0,0))/\w.grownBy w' (F g)/\w'.heap.size=w.heap.size/\Wr g Z w w':=by
 have s1:=aao w g 0 #[u,v,t] 47 x h;have s2:=aao (w.setCell ⟨g,0,Z⟩ x) g 1 _ 47 y s1;have s3:=aao ((w.setCell ⟨g,0,Z⟩ x).setCell ⟨g,1,Z⟩ y) g 2 _ 47 z s2
 have r1:Wr g Z w w':=by rw[hw];exact RS.step (RS.step (Wr.aD w 0 x) (Wr.aD _ 1 y)) (Wr.aD _ 2 z)
 refine⟨by rw[hw];exact s3.trans (by simp),⟨r1.os,r1.tape,r1.output,r1.size,fun k hk hne=>r1.block k hk (fun e=>hne (by rw[e])) (by simp)⟩,by rw[hw];simp[World.setCell],r1⟩
def aem (m:aj.ey)(v:ca)(w':ce):Prop:=∃av,v=.agg #[A G (m.rows:Nat),A G (m.aW:Nat),av]/\mr w' av m.at_
theorem Qy0 {L:List Tok}{fin:Nat}{s:aj.St}{ns:List Nv}(h:RS w R tv L fin a s nv ns)(hf:aj.Yq fin f s≠Z):dk co 54 #[db (F ⟨R,0,Z⟩)] w (RB (aj.Yq fin f s) R tv L fin s nv ns aem w):=by
 have H:=zq h;have br:=h.lt;obtain⟨r,hr⟩:=xq (aj.Yq fin f s);rw[<-hr]at hf ⊢;obtain⟨col,I6⟩:=xq (aj.X6 fin s.ts)
 have p6:da (r=(aj.want fin [91] s).bind fun _ s=>if aj.Qh 1 s.ts && aj.Qk [58] s.ts.tail then aj.Jn fin col s else (aj.Xo fin f [] [] s).bind (aj.Zh col)):=by show _=_;rw[hr,I6];rfl
 have bV:=zq hf;have uK:=zq I6;have HA:=zq (Qq w (O #[A G 0,A G 0,U Z 0 0] 47));have ow:=zq (h.below HA);have hblk:=aap w (O #[A G 0,A G 0,U Z 0 0] 47);obtain⟨wA,xt⟩:=xq (w.alloc (O #[A G 0,A G 0,U Z 0 0] 47))
 have WY:w.heap.size<wA.heap.size:=by rw[xt];simp
 rw[<-xt]at hblk;have yG:=zq hblk
 have j6:da (Wr R Z w wA):=by show Wr _ _ _ _;rw[xt];exact Wr.au HA
 have ahR:da (Wr R Z wA wA):=Wr.refl _ _ _;rw[<-xt]at ow HA;have HAE:=zq xt;clear h hr hf I6 hblk xt;go_enter func54,ntmps54;go_wp2_with fail;rw[<-HAE.o];refine(Qm4 ow).mono ?_;rintro e w1 ⟨rfl,b1⟩;rw[<-uK.o];have et:=zq (ow.o.below b1);have jl:da (Wr R Z wA w1):=Wr.au b1;clear b1;go_wp2_with fail;refine(S9 et [91]).mono ?_;rintro e w2 hn;rcases hN:aj.want fin [91] s with- |(⟨fc,fk⟩|⟨u2',s2⟩)
 ·rw[hN]at hn;exact hn.elim
 ·rw[hN]at hn
  obtain⟨rfl,n1⟩:=hn;refine⟨rfl,?_⟩
  have cF:r=F (.error (fc,fk)):=by rw[p6.o,hN];rfl
  rw[cF];exact⟨rfl,RS.step j6 (RS.step jl n1)⟩
 rw[hN]at hn;obtain⟨v2,a2,rfl,n1,n2,n3,rfl⟩:=hn;have hl2:=Ui hN;have cU:=zq n1;have eE:=zq (RS.step jl n2);have ou:=zq hN;clear n1 n2 n3 hN
 have dW:da (r=if aj.Qh 1 s2.ts && aj.Qk [58] s2.ts.tail then aj.Jn fin col s2 else (aj.Xo fin f [] [] s2).bind (aj.Zh col)):=by show _=_;rw[p6.o,ou.o];rfl
 have iU:=Zj 1 [] s2.ts (by decide);have hcm:=Kh [58] s2.ts;by_cases aS:(aj.Qh 1 s2.ts && aj.Qk [58] s2.ts.tail)=dq
 ·rw[if_pos aS]at dW
  rw[abK]at aS;rw[aS.1]at iU;rw[aS.2]at hcm;have tI:=zq iU;have HCM:=zq hcm;have rA:da (r=(aj.Qo fin s2).bind fun r s=>(aj.want fin [58] s).bind fun _ s=>(aj.Qo fin s).bind fun c s=>(aj.want fin [93] s).bind fun _ s=>if 64<aj.side r||64<aj.side c then aj.fault col 5 else aj.ret ⟨r,c,List.replicate (r*c) (cl,0)⟩ s):=dW.o;clear aS iU hcm dW;go_wp2_with fail;refine(X5 cU 0 1 [] (by omega) (by omega)).mono ?_;rintro e w3 ⟨rfl,b1⟩;rw[tI.o];have ie:=zq (cU.o.below b1);have oA:=zq (RS.step eE (Wr.au b1));clear b1;go_wp2_with fail;refine(X5 ie 1 3 [58] (by omega) (by omega)).mono ?_;rintro e w4 ⟨rfl,b1⟩;rw[HCM.o];have qA:=zq (ie.o.below b1);have eQ:=zq (RS.step oA (Wr.au b1));clear b1;go_wp2_with fail;refine(Wk qA).mono ?_;rintro e w5 hn;rcases hN:aj.Qo fin s2 with- |(⟨fc,fk⟩|⟨m5,s5⟩)
  ·rw[hN]at hn;exact hn.elim
  ·rw[hN]at hn
   obtain⟨rfl,n1⟩:=hn;refine⟨rfl,?_⟩
   have cF:r=F (.error (fc,fk)):=by rw[rA.o,hN];rfl
   rw[cF];exact⟨rfl,RS.step j6 (RS.step eQ n1)⟩
  rw[hN]at hn;obtain⟨v5,a5,rfl,n1,n2,n3,n4⟩:=hn;have NS:=Zl hN;have MJ:=zq n1;have oB:=zq (RS.step eQ n2);have oK:=zq hN;have HF5:=zq n4;clear n1 n2 n3 n4 hN
  have xT:da (r=(aj.want fin [58] s5).bind fun _ s=>(aj.Qo fin s).bind fun c s=>(aj.want fin [93] s).bind fun _ s=>if 64<aj.side m5||64<aj.side c then aj.fault col 5 else aj.ret ⟨m5,c,List.replicate (m5*c) (cl,0)⟩ s):=by show _=_;rw[rA.o,oK.o];rfl
  go_wp2_with fail;refine(Qzz HF5.o.1).mono ?_;rintro e w6 ⟨rfl,b1⟩;have MK:=zq (MJ.o.below b1);have CY:=zq (RS.step oB (Wr.au b1));obtain⟨d6,hd6⟩:=xq (aj.side m5);rw[<-hd6];have HD6:=zq hd6
  have ah3:d6<=65:=by rw[hd6];unfold aj.side;split<;>omega
  clear b1 hd6;go_wp2_with fail;refine(S9 MK [58]).mono ?_;rintro e w7 hn;rcases hN:aj.want fin [58] s5 with- |(⟨fc,fk⟩|⟨u7',s7⟩)
  ·rw[hN]at hn;exact hn.elim
  ·rw[hN]at hn
   obtain⟨rfl,n1⟩:=hn;refine⟨rfl,?_⟩
   have cF:r=F (.error (fc,fk)):=by rw[xT.o,hN];rfl
   rw[cF];exact⟨rfl,RS.step j6 (RS.step CY n1)⟩
  rw[hN]at hn;obtain⟨v7,a7,rfl,n1,n2,n3,rfl⟩:=hn;have NT:=Ui hN;have vh:=zq n1;have oP:=zq (RS.step CY n2);have HN7:=zq hN;clear n1 n2 n3 hN
  have HR7:da (r=(aj.Qo fin s7).bind fun c s=>(aj.want fin [93] s).bind fun _ s=>if 64<aj.side m5||64<aj.side c then aj.fault col 5 else aj.ret ⟨m5,c,List.replicate (m5*c) (cl,0)⟩ s):=by show _=_;rw[xT.o,HN7.o];rfl
  go_wp2_with fail;refine(Wk vh).mono ?_;rintro e w8 hn;rcases hN:aj.Qo fin s7 with- |(⟨fc,fk⟩|⟨m8,s8⟩)
  ·rw[hN]at hn;exact hn.elim
  ·rw[hN]at hn
   obtain⟨rfl,n1⟩:=hn;refine⟨rfl,?_⟩
   have cF:r=F (.error (fc,fk)):=by rw[HR7.o,hN];rfl
   rw[cF];exact⟨rfl,RS.step j6 (RS.step oP n1)⟩
  rw[hN]at hn;obtain⟨v8,a8,rfl,n1,n2,n3,n4⟩:=hn;have hl8:=Zl hN;have QZ:=zq n1;have RX:=zq (RS.step oP n2);have HN8:=zq hN;have HF8:=zq n4;clear n1 n2 n3 n4 hN
  have HR8:da (r=(aj.want fin [93] s8).bind fun _ s=>if 64<aj.side m5||64<aj.side m8 then aj.fault col 5 else aj.ret ⟨m5,m8,List.replicate (m5*m8) (cl,0)⟩ s):=by show _=_;rw[HR7.o,HN8.o];rfl
  go_wp2_with fail;refine(Qzz HF8.o.1).mono ?_;rintro e w9 ⟨rfl,b1⟩;have HS9:=zq (QZ.o.below b1);have HW9:=zq (RS.step RX (Wr.au b1));obtain⟨d9,hd9⟩:=xq (aj.side m8);rw[<-hd9];have HD9:=zq hd9
  have ah4:d9<=65:=by rw[hd9];unfold aj.side;split<;>omega
  clear b1 hd9;go_wp2_with fail;refine(S9 HS9 [93]).mono ?_;rintro e eU hn;rcases hN:aj.want fin [93] s8 with- |(⟨fc,fk⟩|⟨ai2,s10⟩)
  ·rw[hN]at hn;exact hn.elim
  ·rw[hN]at hn
   obtain⟨rfl,n1⟩:=hn;refine⟨rfl,?_⟩
   have cF:r=F (.error (fc,fk)):=by rw[HR8.o,hN];rfl
   rw[cF];exact⟨rfl,RS.step j6 (RS.step HW9 n1)⟩
  rw[hN]at hn;obtain⟨v10,a10,rfl,n1,n2,n3,rfl⟩:=hn;have aii:=Ui hN;have adE:=zq n1;have vu:=zq (RS.step HW9 n2);have adb:=zq hN;clear n1 n2 n3 hN
  have GN:da (r=if 64<d6||64<d9 then aj.fault col 5 else aj.ret ⟨m5,m8,List.replicate (m5*m8) (cl,0)⟩ s10):=by show _=_;rw[HR8.o,adb.o,HD6.o,HD9.o];rfl
  have dw:=(vu.o.block w.heap.size WY (by omega) (by simp)).trans yG;have e0:eU.cell? ⟨w.heap.size,0,Z⟩=F (A G 0):=(aaj eU _ _ _ _ _ dw).trans rfl;have e1:eU.cell? ⟨w.heap.size,1,Z⟩=F (A G 0):=(aaj eU _ _ _ _ _ dw).trans rfl;have e2:eU.cell? ⟨w.heap.size,2,Z⟩=F (U Z 0 0):=(aaj eU _ _ _ _ _ dw).trans rfl;have f0:eU.frozen? ⟨w.heap.size,0,Z⟩=cl:=aax eU _ 0 _ _ dw;have f1:eU.frozen? ⟨w.heap.size,1,Z⟩=cl:=aax eU _ 1 _ _ dw;have f2:eU.frozen? ⟨w.heap.size,2,Z⟩=cl:=aax eU _ 2 _ _ dw;have mn:=zq dw;clear dw;by_cases h6:64<d6
  ·have eV:(64:Int)<(d6:Int):=by omega
   have cF:r=F (.error (col,5)):=by rw[GN.o,if_pos (by simp[h6])];rfl
   have ky:=zq cF;clear h6 cF;go_wp2_with fail;refine⟨rfl,?_⟩;rw[ky.o];exact⟨rfl,RS.step j6 vu⟩
  by_cases h9:64<d9
  ·have eV: ¬(64:Int)<(d6:Int):=by omega
   have il:(64:Int)<(d9:Int):=by omega
   have cF:r=F (.error (col,5)):=by rw[GN.o,if_pos (by simp[h9])];rfl
   have ky:=zq cF;clear h6 h9 cF;go_wp2_with fail;refine⟨rfl,?_⟩;rw[ky.o];exact⟨rfl,RS.step j6 vu⟩
  have eV: ¬(64:Int)<(d6:Int):=by omega
  have il: ¬(64:Int)<(d9:Int):=by omega
  have rP:m5=d6:=by have:=HD6.o;unfold aj.side at this;split at this<;>omega
  have EI:m8=d9:=by have:=HD9.o;unfold aj.side at this;split at this<;>omega
  have cF:r=F (.ok (⟨d6,d9,List.replicate (d6*d9) (cl,0)⟩,s10)):=by rw[GN.o,if_neg (by simp;omega),rP,EI];rfl
  obtain⟨d,hd⟩:=xq (d6*d9);rw[<-hd]at cF
  have fg:d<=4096:=by rw[hd];exact aa3 (show d6<=64 by omega) (show d9<=64 by omega)
  have VT:(d6:Int)*(d9:Int)=(d:Int):=by rw[hd];exact(abH d6 d9).symm
  have ky:=zq cF;have nW:=Qyw d fg;have YF:w.heap.size<eU.heap.size:=aal WY vu.o.size;clear h6 h9 cF rP EI hd;go_wp2_with fail;obtain⟨wS,YZ⟩:∃wS,wS=((eU.setCell ⟨w.heap.size,0,Z⟩ (A G (d6:Int))).setCell ⟨w.heap.size,1,Z⟩ (A G (d9:Int))).setCell ⟨w.heap.size,2,Z⟩ (U (F ⟨eU.heap.size,0,Z⟩) d d):=⟨_,rfl⟩;rw[<-YZ];obtain⟨p1,p2,p3,-⟩:=Qk1 mn YZ;have hsz:wS.heap.size=eU.heap.size:=p3;obtain⟨q2,q3⟩:=H.o.loc adE (RS.step j6 vu) p2 (fun q hq=>by cases hq;exact aab _);have hz:=mr.zeros wS d fg;rw[hsz]at hz;have hbF:=((Qq wS (O (madeCells #[de cl,U Z 0 0] (d*2)) 62)).block w.heap.size (by rw[hsz];exact YF)).trans p1;refine aaD (abF rfl _ _ w.heap.size 47 _ _ _ rfl hbF eS rfl (by kernel_rfl)) rfl ?_;rw[ky.o];have hbl:=Qq wS (O (madeCells #[de cl,U Z 0 0] (d*2)) 62);exact⟨_,_,rfl,q2.below hbl,RS.step q3 (Wr.au hbl),by omega,_,rfl,hz⟩
 rw[if_neg aS]at dW
 cases hk:aj.Qh 1 s2.ts
 case' true=>
  rw[hk]at iU
  have nk:aj.Qk [58] s2.ts.tail=cl:=by rw[hk]at aS;simpa using aS
  rw[nk]at hcm;have tI:=zq iU;have HCM:=zq hcm;clear aS iU hcm hk nk;go_wp2_with fail;refine(X5 cU 0 1 [] (by omega) (by omega)).mono ?_;rintro e w3 ⟨rfl,b1⟩;rw[tI.o];have ie:=zq (cU.o.below b1);have oA:=zq (RS.step eE (Wr.au b1));clear b1;go_wp2_with fail;refine(X5 ie 1 3 [58] (by omega) (by omega)).mono ?_;rintro e w4 ⟨rfl,b1⟩;rw[HCM.o];have qA:=zq (ie.o.below b1);have eQ:=zq (RS.step oA (Wr.au b1))
 case' false=>rw[hk]at iU;have tI:=zq iU;clear aS iU hcm hk;go_wp2_with fail;refine(X5 cU 0 1 [] (by omega) (by omega)).mono ?_;rintro e w4 ⟨rfl,b1⟩;rw[tI.o];have qA:=zq (cU.o.below b1);have eQ:=zq (RS.step eE (Wr.au b1))
 all_goals
  clear b1;go_wp2_with fail;refine(Qvj qA f (fun e=>bV.o (by rw[dW.o,e];rfl))).mono ?_;rintro e rk hn;rcases hN:aj.Xo fin f [] [] s2 with- |(⟨fc,fk⟩|⟨⟨acc,lens⟩,s20⟩)
  ·rw[hN]at hn;exact hn.elim
  ·rw[hN]at hn
   obtain⟨rfl,n1⟩:=hn;refine⟨rfl,?_⟩
   have cF:r=F (.error (fc,fk)):=by rw[dW.o,hN];rfl
   rw[cF];exact⟨rfl,RS.step j6 (RS.step eQ n1)⟩
  rw[hN]at hn;obtain⟨v20,a20,rfl,n1,n2,n3,av,lv,cs,rfl,vI⟩:=hn;obtain⟨es1,-,TF⟩:=aj.T7 fin f _ _ _ _ hN rfl (fun x hx=>by cases hx);simp only at es1 TF vI
  have QQ:da (r=aj.Zh col (acc,lens) s20):=by show _=_;rw[dW.o,hN];rfl
  have adF:=zq n1;have sI:=zq (RS.step eQ n2);obtain⟨ao,aeU,rfl,-,-,-⟩:=Qj vI.fF;obtain⟨lo,cq,rfl,l1,l2,l3⟩:=Qj vI.lL;obtain⟨g,rfl,l4,l5,l6⟩:=l3 TF
  have FY:da (∀(j x:Nat),lens[j]?=F x->rk.cell? ⟨g,j,Z⟩=F (A G x)):=by intro j x hj;have nh:=(aaf.1 hj).1;rw[l6 j (by omega)];simp[ints,hj]
  obtain⟨k0,cZ⟩:∃k0,lens[0]?=F k0:=⟨_,aad TF⟩
  have ED:lens.headD 0=k0:=by
   cases lens with
   |nil=>simp at TF
   |cons x l=>simpa using cZ
  have c0:=FY.o 0 k0 cZ;obtain⟨nl,kH⟩:=xq lens.length;obtain⟨nc,bU⟩:=xq cs.length;rw[<-kH]at TF l1 ⊢;rw[<-bU];have qz:=zq bU
  have aiB:nl<=9223372036854775807:=by unfold maxLen at l2;omega
  have HEN:=zq vI;have hsB:w.heap.size<w4.heap.size:=aal WY eQ.o.size;have gY:=zq kH;have HK0:=zq cZ;have CF:=zq ED;have dw:=(sI.o.block w.heap.size WY (by omega) (by simp)).trans yG;have e0:rk.cell? ⟨w.heap.size,0,Z⟩=F (A G 0):=(aaj rk _ _ _ _ _ dw).trans rfl;have e1:rk.cell? ⟨w.heap.size,1,Z⟩=F (A G 0):=(aaj rk _ _ _ _ _ dw).trans rfl;have e2:rk.cell? ⟨w.heap.size,2,Z⟩=F (U Z 0 0):=(aaj rk _ _ _ _ _ dw).trans rfl;have f0:rk.frozen? ⟨w.heap.size,0,Z⟩=cl:=aax rk _ 0 _ _ dw;have f1:rk.frozen? ⟨w.heap.size,1,Z⟩=cl:=aax rk _ 1 _ _ dw;have f2:rk.frozen? ⟨w.heap.size,2,Z⟩=cl:=aax rk _ 2 _ _ dw;have mn:=zq dw;have ahI:w.heap.size<rk.heap.size:=aal WY sI.o.size;have aij:=n3;clear n1 n2 n3 vI es1 l2 l3 l6 cZ ED kH bU dw hN dW;go_wp2_with fail;go_loopw [9,53] (fun _ iv wr=> ∃j:Nat,iv=A G j/\j<=nl/\(∀i x,i<j->lens[i]?=F x->x=k0)/\wr=rk) (fun _ iv _=>(nl-intOf iv).toNat)
  case atStart=>exact⟨0,rfl,aat _,fun i x h=>absurd h (adM i),rfl⟩
  case round=>
   obtain⟨j,rfl,nh,hall,hwe⟩:=hrel;subst hwe;have cM:=zq hall;clear hall;by_cases hj:j<nl
   ·obtain⟨x,hx⟩:∃x,lens[j]?=F x:=⟨_,aad (by rw[<-gY.o];exact hj)⟩
    have cj:=FY.o j x hx;have HX:=zq hx;clear hx;by_cases ZK:x=k0
    ·have fY:((x:Int)==(k0:Int))=dq:=by simp[ZK]
     have HXK:=zq ZK;clear ZK;go_wp2_with fail
     have aq:∀i y,i<j+1->lens[i]?=F y->y=k0:=by
      intro i y hi hy;by_cases hij:i<j
      ·exact cM.o i y hij hy
      have:i=j:=by omega
      subst this;rw[HX.o]at hy
      cases hy
      exact HXK
     first|exact⟨⟨j+1,rfl,by omega,aq,rfl⟩,by simp[intOf]<;>omega⟩|exact⟨by (repeat apply Exists.intro);exact⟨⟨j+1,rfl,by omega,aq,trivial⟩,rfl⟩,by simp[intOf]<;>omega⟩|exact⟨⟨j+1,rfl,by omega,aq,trivial⟩,by simp[intOf]<;>omega⟩
    have fY:((x:Int)==(k0:Int))=cl:=by simp;omega
    have cF:r=F (.error (col,2)):=by
     rw[QQ.o];unfold aj.Zh
     rw[if_pos (by
      rw[ad7]
      exact⟨x,aai HX,by rw[CF.o];simpa using ZK⟩)]
     rfl
    have ky:=zq cF;clear ZK cF;go_wp2_with fail;refine⟨rfl,?_⟩;rw[ky.o];exact⟨rfl,RS.step j6 sI⟩
   have UW: ¬(lens.any (· !=lens.headD 0))=dq:=by rw[CF.o,ad7];rintro ⟨x,hx,hne⟩;obtain⟨i,hi⟩:=acd hx;have iq:=(aaf.1 hi).1;rw[<-gY.o]at iq;have:=cM.o i x (by omega) hi;simp[this]at hne
   have gj:da (r=if 64<nl||64<k0 then aj.fault col 5 else aj.ret ⟨nl,k0,acc⟩ s20):=by show _=_;rw[QQ.o];unfold aj.Zh;rw[if_neg UW];simp only[CF.o,<-gY.o]
   clear UW;by_cases h6:64<nl
   ·have eV:(64:Int)<(nl:Int):=by omega
    have cF:r=F (.error (col,5)):=by rw[gj.o,if_pos (by simp[h6])];rfl
    have ky:=zq cF;clear h6 cF;go_wp2_with fail;refine⟨rfl,?_⟩;rw[ky.o];exact⟨rfl,RS.step j6 sI⟩
   by_cases h9:64<k0
   ·have eV: ¬(64:Int)<(nl:Int):=by omega
    have il:(64:Int)<(k0:Int):=by omega
    have cF:r=F (.error (col,5)):=by rw[gj.o,if_pos (by simp[h9])];rfl
    have ky:=zq cF;clear h6 h9 cF;go_wp2_with fail;refine⟨rfl,?_⟩;rw[ky.o];exact⟨rfl,RS.step j6 sI⟩
   have eV: ¬(64:Int)<(nl:Int):=by omega
   have il: ¬(64:Int)<(k0:Int):=by omega
   have cF:r=F (.ok (⟨nl,k0,acc⟩,s20)):=by rw[gj.o,if_neg (by simp;omega)];rfl
   have ky:=zq cF;clear h6 h9 cF;go_wp2_with fail;obtain⟨wS,YZ⟩:∃wS,wS=((wr.setCell ⟨w.heap.size,0,Z⟩ (A G (nl:Int))).setCell ⟨w.heap.size,1,Z⟩ (A G (k0:Int))).setCell ⟨w.heap.size,2,Z⟩ (U ao nc aeU):=⟨_,rfl⟩;rw[<-YZ];obtain⟨p1,p2,p3,p4⟩:=Qk1 mn YZ;obtain⟨q2,q3⟩:=H.o.loc adF (RS.step j6 sI) p2 (fun q hq=>by cases hq;exact aab _);have hz:=(HEN.o.wr p4 hsB).irs;rw[<-qz.o]at hz;refine aaD (abF rfl _ _ w.heap.size 47 _ _ _ rfl p1 eS rfl (by kernel_rfl)) rfl ?_;rw[ky.o];exact⟨_,_,rfl,q2,q3,by omega,_,rfl,hz⟩
theorem Tryz.r6:(Tryz.prog.info? 36).map (fun i=>(i.zero,i.size,i.bytes))=F (F (U Z 0 0),1,24):=by kernel_rfl
def Sx (w:ce)(B:Nat)(og:Option Nat)(sv:ca)(s:List Nat):Prop:=∃ms:List ca,w.ownsRow B 59 1 sv ms.length ms/\ms.length=s.length/\(∀q,sv.ownBlock=F q->og≠F q)/\ ∀(i:Nat) (m:ca) (n:Nat),ms[i]?=F m->s[i]?=F n->bI B w m n/\ ∀q,m.ownBlock=F q->sv.ownBlock≠F q/\og≠F q
theorem Sx.wr (h:Sx w B og sv s)(hw:Wr R Z w w')(hR:R<B):Sx w' B og sv s:=by obtain⟨ms,H,I,J,E⟩:=h;exact⟨ms,Vx H hw hR,I,J,fun i m n hm hn=>⟨(E i m n hm hn).1.wr hw hR (fun q hq=>by cases hq),(E i m n hm hn).2⟩⟩
theorem Sx.mono {B':Nat}(h:Sx w B og sv s)(hb:B'<=B):Sx w B' og sv s:=by obtain⟨ms,H,I,J,E⟩:=h;exact⟨ms,Xh H hb,I,J,fun i m n hm hn=>⟨(E i m n hm hn).1.mono hb,(E i m n hm hn).2⟩⟩
theorem Sx.turn {og':Option Nat}(h:Sx w B og sv s)(hg:w.grownBy w' og)(hat:og'=F g)(IW:og=F g\/g=w.heap.size):Sx w' B og' sv s:=by
 obtain⟨ms,I,bi,J,T⟩:=h
 have H:∀q,q<w.heap.size->og≠F q->og'≠F q:=by
  intro q E K e;rw[hat]at e
  cases e
  rcases IW with h|h
  ·exact K h
  omega
 refine⟨ms,I.kept hg ?_,bi,fun q E=>H q (I.lt q E).2 (J q E),fun i m n hm hn=> ?_⟩
 ·cases hv:sv.ownBlock with
  |none=>exact .inl rfl
  |some q=>exact .inr (fun e=>J q hv e.symm)
 obtain⟨q1,q2⟩:=T i m n hm hn;exact⟨q1.grown hg (fun q E=>(q2 q E).2),fun q E=>⟨(q2 q E).1,H q (q1.2.1 q E).2 (q2 q E).2⟩⟩
theorem Sx.push {N:Nat}{ms:List ca}
  (h1:w.ownsRow B 59 1 sv ms.length ms) (h2:ms.length=s.length) (h3:∀q,sv.ownBlock=F q->og≠F q) (h4:∀(i:Nat) (m:ca) (n:Nat),ms[i]?=F m->s[i]?=F n->bI B w m n/\ ∀q,m.ownBlock=F q->sv.ownBlock≠F q/\og≠F q)
  {m:ca} (hm:bI B w m k) (hd:∀q,m.ownBlock=F q->sv.ownBlock≠F q/\og≠F q) (hog:∀q,og=F q->q<w.heap.size)
  (hown:w'.ownsRow B 59 1 (U (F ⟨g,0,Z⟩) N cap) N (ms++[m])) (hN:N=ms.length+1) (hg:w.grownBy w' sv.ownBlock) (hat:sv.ownBlock=F g\/g=w.heap.size):
  Sx w' B og (U (F ⟨g,0,Z⟩) N cap) (s++[k]):=by
 subst hN
 have J:∀q,q<w.heap.size->sv.ownBlock≠F q->(Value.ownBlock (U (F ⟨g,0,Z⟩) (ms.length+1) cap))≠F q:=by
  intro q E bi e
  cases e
  rcases hat with h|h
  ·exact bi h
  change g<_ at E;omega
 have K:(ms++[m]).length=ms.length+1:=by simp
 refine⟨ms++[m],by rw[K];exact hown,by rw[K,h2];simp,?_,?_⟩
 ·intro q E e
  cases E
  rcases hat with h|h
  ·exact h3 _ h e
  have:=hog _ e;change g<_ at this;omega
 intro i x n H I;by_cases hlt:i<ms.length
 ·rw[aaH hlt]at H
  rw[aaH (by rw[<-h2];exact hlt)]at I;obtain⟨q1,q2⟩:=h4 i x n H I;exact⟨q1.grown hg (fun q E=>(q2 q E).1),fun q E=>⟨J q (q1.2.1 q E).2 (q2 q E).1,(q2 q E).2⟩⟩
 have T:i=ms.length:=by have:=(aaf.1 H).1;rw[K]at this;omega
 subst T;rw[aaK (aab _)]at H;rw[h2,aaK (aab _)]at I;simp at H I;subst H;subst I;exact⟨hm.grown hg (fun q E=>(hd q E).1),fun q E=>⟨J q (hm.2.1 q E).2 (hd q E).1,(hd q E).2⟩⟩
structure Cx (w:ce) (B:Nat) (lv:ca) (bc:List ca) (acc:List (List Nat)):Prop where
 own:w.ownsRow B 36 1 lv bc.length bc
 len:bc.length=acc.length
 el:∀(j:Nat) (sv:ca) (s:List Nat),bc[j]?=F sv->acc[j]?=F s->Sx w B lv.ownBlock sv s
theorem Cx.wr {acc:List (List Nat)}(h:Cx w B lv bc acc)(hw:Wr R Z w w')(hR:R<B):Cx w' B lv bc acc:=
 ⟨Vx h.own hw hR,h.len,fun j sv s h1 h2=>(h.el j sv s h1 h2).wr hw hR⟩
theorem Cx.push {N:Nat}{acc:List (List Nat)}(h:Cx w B lv bc acc)(hs:Sx w B lv.ownBlock sv s)
  (hown:w'.ownsRow B 36 1 (U (F ⟨g,0,Z⟩) N cap) N (bc++[sv])) (hN:N=bc.length+1) (hg:w.grownBy w' lv.ownBlock) (hat:lv.ownBlock=F g\/g=w.heap.size):
  Cx w' B (U (F ⟨g,0,Z⟩) N cap) (bc++[sv]) (acc++[s]):=by
 subst hN
 have I:(bc++[sv]).length=bc.length+1:=by simp
 refine⟨by rw[I];exact hown,by rw[I,h.len];simp,?_⟩;intro j x t E H;by_cases hlt:j<bc.length
 ·rw[aaH hlt]at E
  rw[aaH (by rw[<-h.len];exact hlt)]at H;exact(h.el j x t E H).turn hg rfl hat
 have J:j=bc.length:=by have:=(aaf.1 E).1;rw[I]at this;omega
 subst J;rw[aaK (aab _)]at E;rw[h.len,aaK (aab _)]at H;simp at E H;subst E;subst H;exact hs.turn hg rfl hat
theorem Sl.jL {e:TypeId}{xs:List ca}{P:Nat->ca->Prop}(h:w.ownsRow B e 1 v xs.length xs)(hn:xs.length=n)(hp:∀j u,xs[j]?=F u->P j u):Sl w v n P:=by obtain⟨ao,E,e,H,I,J⟩:=Qj h;subst hn;refine⟨ao,E,e,H,I,fun h0=> ?_⟩;obtain⟨g,rfl,a1,a2,a3⟩:=J h0;refine⟨g,0,rfl,a2,fun j hj=>⟨xs[j],?_,hp j _ (aad hj)⟩⟩;rw[aaX,a3 j (by omega),aad hj]
theorem Cx.crd {acc:List (List Nat)}(h:Cx w B lv bc acc):CRd w lv acc:=by
 refine Sl.jL h.own h.len fun j sv hj=> ?_
 have H:j<acc.length:=by rw[<-h.len];exact(aaf.1 hj).1
 refine⟨acc[j],aad H,?_⟩;obtain⟨ms,J,I,-,K⟩:=h.el j sv acc[j] hj (aad H);refine Sl.jL J I fun i m hi=> ?_
 have E:i<acc[j].length:=by rw[<-I];exact(aaf.1 hi).1
 exact⟨acc[j][i],aad E,(K i m _ hi (aad E)).1.1⟩
def CxO (R:Nat)(tv:ca)(L:List Tok)(fin:Nat)(nv:ca)(ns:List Nv)(w:ce)(N:Nat)(r:aj.PR (List (List Nat)))(lv:ca)(wr:ce):Prop:=
 ∃f acc bc a' s',aj.Yp fin f acc s'=r/\RS wr R tv L fin a' s' nv ns/\Wr R Z w wr/\Cx wr w.heap.size lv bc acc/\s'.ts.length<=N/\acc.length+s'.ts.length<=67108864
def CxI (R:Nat)(tv:ca)(L:List Tok)(fin:Nat)(nv:ca)(ns:List Nv)(w:ce)(N:Nat)(og:Option Nat)(r:aj.PR (List Nat))(sv:ca)(wr:ce):Prop:=
 ∃f x a' s',aj.Yj fin f x s'=r/\RS wr R tv L fin a' s' nv ns/\Wr R Z w wr/\Sx wr w.heap.size og sv x/\s'.ts.length+1<=N/\x.length+s'.ts.length<=67108864
theorem Qvz {L:List Tok}{fin:Nat}{s:aj.St}{ns:List Nv}(h:RS w R tv L fin a s nv ns)(hf:aj.Xs fin f s≠Z):dk co 114 #[db (F ⟨R,0,Z⟩)] w (RB (aj.Xs fin f s) R tv L fin s nv ns (fun l v w'=> ∃bc,Cx w' w.heap.size v bc l) w):=by
 have H:=zq h;have br:=h.lt;obtain⟨r,hr⟩:=xq (aj.Xs fin f s);rw[<-hr]at hf ⊢
 have p6:da (r=(aj.want fin [123] s).bind fun _ s=>if aj.Qk [125] s.ts then aj.ret [] s.bB else aj.Yp fin f [] s):=by show _=_;rw[hr];rfl
 have bV:=zq hf
 have ej:s.ts.length<=67108864:=by have:=h.short;rw[<-h.drop,aan];omega
 obtain⟨i0,hi,hz0,hz1,hz2⟩:=aa0 Tryz.qX;obtain⟨j0,hj,cZ,eu,hk2⟩:=aa0 Tryz.r6;clear h hr hf;go_enter func114,ntmps114;go_wp2_with fail;refine(S9 H [123]).mono ?_;rintro e w2 hn;rcases hN:aj.want fin [123] s with- |(⟨fc,fk⟩|⟨u2',s2⟩)
 ·rw[hN]at hn;exact hn.elim
 ·rw[hN]at hn
  obtain⟨rfl,n1⟩:=hn;refine⟨rfl,?_⟩
  have cF:r=F (.error (fc,fk)):=by rw[p6.o,hN];rfl
  rw[cF];exact⟨rfl,n1⟩
 rw[hN]at hn;obtain⟨v2,a2,rfl,n1,n2,n3,rfl⟩:=hn;have hl2:=Ui hN
 have dW:da (r=if aj.Qk [125] s2.ts then aj.ret [] s2.bB else aj.Yp fin f [] s2):=by show _=_;rw[p6.o,hN];rfl
 have HA:=zq (Qq w2 (O #[] 36));have cU:=zq (n1.below HA);have eE:=zq (RS.step n2 (Wr.au HA))
 have hC2:Cx (w2.alloc (O #[] 36)) w.heap.size (U (F ⟨w2.heap.size,0,Z⟩) 0 0) [] []:=
  ⟨World.ownsRow_made w2 #[] 0 n2.size (aat _) rfl,rfl,fun j sv s h=>by simp at h⟩
 have HC2:=zq hC2;clear n1 n2 n3 hN hC2;go_wp2_with fail;refine(Zi cU [125]).mono ?_;rintro e w3 ⟨rfl,t1,t2⟩;have oA:=zq (RS.step eE t1);have uF:=zq (HC2.o.wr t1 br);clear t1
 cases hm:aj.Qk [125] s2.ts with
 |true=>
  rw[if_pos hm]at t2;have ie:=zq t2;have HM:=zq hm;clear t2 hm;go_wp2_with fail;go_ret;rw[dW.o,if_pos HM.o]
  exact⟨_,_,rfl,ie,oA,aar (Uq s2) (by omega),_,uF⟩
 |false=>
  rw[if_neg (by rw[hm];decide)]at t2 dW;have ie:=zq t2;have HM:=zq hm;have HST:da (CxO R tv L fin nv ns w s.ts.length r (U (F ⟨w2.heap.size,0,Z⟩) 0 0) w3):=⟨f,[],[],a2,s2,dW.o.symm,t2,oA,uF,by omega,by simp;omega⟩;clear t2 hm dW;go_wp2_with fail;go_loopw [2,3,4] (fun _ lv _ wr=>CxO R tv L fin nv ns w s.ts.length r lv wr) (fun _ _ _ wr=>Xf L R wr)
  case atStart=>exact HST.o
  clear HST ie oA uF cU eE HC2
  case round=>
   obtain⟨f,acc,bc,a4,s4,hen,mH,hwr,vW,hb1,hb2⟩:=hrel;obtain⟨wo,rfl⟩:=xq wr
   cases f with
   |zero=>exact absurd hen.symm bV
   |succ f=>
    have lV:da (r=(aj.Qo fin s4).bind fun n s=>(aj.Yj fin f [n] s).bind fun x s=>if aj.Qk [125] s.ts then aj.ret (acc++[x]) s.bB else (aj.want fin [44] s).bind fun _ s=>aj.Yp fin f (acc++[x]) s):=hen.symm;have qA:=zq mH;have eQ:=zq hwr;have yJ:=zq vW;have HL4:=zq mH.left;have NJ:=mH.lt;clear hen mH hwr vW;go_wp2_with fail;refine(Wk qA).mono ?_;rintro e w5 hn;rcases hN:aj.Qo fin s4 with- |(⟨fc,fk⟩|⟨m,s5⟩)
    ·rw[hN]at hn;exact hn.elim
    ·rw[hN]at hn
     obtain⟨rfl,n1⟩:=hn;refine⟨rfl,?_⟩
     have cF:r=F (.error (fc,fk)):=by rw[lV.o,hN];rfl
     rw[cF];exact⟨rfl,RS.step eQ n1⟩
    rw[hN]at hn;obtain⟨v5,a5,rfl,n1,n2,n3,n4⟩:=hn;have NS:=Zl hN
    have xT:da (r=(aj.Yj fin f [m] s5).bind fun x s=>if aj.Qk [125] s.ts then aj.ret (acc++[x]) s.bB else (aj.want fin [44] s).bind fun _ s=>aj.Yp fin f (acc++[x]) s):=by show _=_;rw[lV.o,hN];rfl
    obtain⟨vo,aU,vl,rfl⟩:∃vo aU vl,v5=U vo vl aU:=by obtain⟨⟨xs,hx,-⟩,-⟩:=n4;obtain⟨vo,aU,e,-⟩:=hx.2;exact⟨vo,aU,_,e⟩
    have ux:=zq (Qq w5 (O #[U vo vl aU] 59));have MJ:=zq (n1.below ux);have oB:=zq (RS.step n2 (Wr.au ux))
    have hSx:Sx (w5.alloc (O #[U vo vl aU] 59)) wo.heap.size u3.ownBlock (U (F ⟨w5.heap.size,0,Z⟩) 1 1) [m]:=by
     refine⟨[U vo vl aU],⟨rfl,.inr ⟨w5.heap.size,1,_,rfl,n2.size,aap w5 _,aab _,by unfold maxLen;omega,rfl,rfl⟩⟩,rfl,?_,?_⟩
     ·intro q hq e
      cases hq
      have h7:=(yJ.o.own.lt _ e).2;change w5.heap.size<wo.heap.size at h7;have:=n2.size;omega
     intro i x n hx hn
     have hi:i=0:=by have:=(aaf.1 hx).1;simp at this;exact this
     subst hi;simp at hx hn;subst hx;subst hn;refine⟨n4.wr (R:=R) (og:=Z) (Wr.au ux) NJ (fun q hq=>by cases hq),fun q hq=>⟨fun e=> ?_,fun e=> ?_⟩⟩
     ·cases e
      have h7:=(n4.2.1 _ hq).2;change w5.heap.size<w5.heap.size at h7;omega
     have:=(yJ.o.own.lt _ e).2;have:=(n4.2.1 q hq).1;omega
    obtain⟨r2,hr2⟩:=xq (aj.Yj fin f [m] s5);rw[<-hr2]at xT
    have GQ:da (r2≠Z):=by intro e;have:=xT.o;rw[e]at this;exact bV.o this
    have HI:da (CxI R tv L fin nv ns wo s4.ts.length u3.ownBlock r2 (U (F ⟨w5.heap.size,0,Z⟩) 1 1) (w5.alloc (O #[U vo vl aU] 59))):=⟨f,[m],a5,s5,hr2.symm,MJ,oB,hSx,by omega,by simp;omega⟩;clear n1 n2 n3 n4 hN hSx hr2 lV MJ oB;go_wp2_with fail;go_loopw [4] (fun sv wr=>CxI R tv L fin nv ns wo s4.ts.length u3.ownBlock r2 sv wr) (fun _ wr=>Xf L R wr)
    case atStart=>exact HI.o
    clear HI
    case round=>
     obtain⟨f2,x,a6,s6,qT,mH,hwr,YI,hb3,hb4⟩:=hrel
     cases f2 with
     |zero=>exact absurd qT.symm GQ
     |succ f2=>
      have MK:=zq mH;have CY:=zq hwr;have HX6:=zq YI;have FY:=zq mH.left;have p7:=zq qT;have iU:=Zj 1 [] s6.ts (by decide);clear mH hwr YI qT
      cases hk:aj.Qh 1 s6.ts with
      |true=>
       rw[hk]at iU;have tI:=zq iU
       have ML:da (r2=(aj.Qo fin s6).bind fun n s=>aj.Yj fin f2 (x++[n]) s):=by have h1:=p7.o;unfold aj.Yj at h1;rw[if_pos hk]at h1;exact h1.symm
       clear iU hk p7;go_wp2_with fail;refine(X5 MK 0 1 [] (by omega) (by omega)).mono ?_;rintro e w7 ⟨rfl,b1⟩;rw[tI.o];have vh:=zq (MK.o.below b1);have oP:=zq (RS.step CY (Wr.au b1));have SA:=zq (HX6.o.wr (R:=R) (Wr.au b1) NJ);clear b1;go_wp2_with fail;refine(Wk vh).mono ?_;rintro e w8 hn;rcases hN:aj.Qo fin s6 with- |(⟨fc,fk⟩|⟨m2,s8⟩)
       ·rw[hN]at hn;exact hn.elim
       ·rw[hN]at hn
        obtain⟨rfl,n1⟩:=hn;refine⟨rfl,?_⟩
        have cF:r=F (.error (fc,fk)):=by rw[xT.o,ML.o,hN];rfl
        rw[cF];exact⟨rfl,RS.step eQ (RS.step oP n1)⟩
       rw[hN]at hn;obtain⟨v8,a8,rfl,n1,n2,n3,n4⟩:=hn;have hl8:=Zl hN
       have HSK:da (aj.Yj fin f2 (x++[m2]) s8=r2):=by show _=_;rw[ML.o,hN];rfl
       obtain⟨yo,mK,yl,rfl⟩:∃vo aU vl,v8=U vo vl aU:=by obtain⟨⟨xs,hx,-⟩,-⟩:=n4;obtain⟨vo,aU,e,-⟩:=hx.2;exact⟨vo,aU,_,e⟩
       have HA8:=zq (Qq w8 (O #[U yo yl mK] 59));have QZ:=zq (n1.below HA8);have RX:=zq (RS.step (RS.step oP n2) (Wr.au HA8));obtain⟨ms,h1,h2,h3,h4⟩:=(SA.o.wr n2 NJ).wr (R:=R) (Wr.au HA8) NJ;have YJ:=oP.o.size;have aiQ:=n2.size;have EI:bI wo.heap.size (w8.alloc (O #[U yo yl mK] 59)) (U yo yl mK) m2:=(n4.wr (R:=R) (og:=Z) (Wr.au HA8) (by omega) (fun q hq=>by cases hq)).mono YJ
       have VL:∀q,(Value.ownBlock (U yo yl mK))=F q->u4.ownBlock≠F q/\u3.ownBlock≠F q:=by
        intro q hq;have h7:=(n4.2.1 q hq).1;refine⟨fun e=> ?_,fun e=> ?_⟩
        ·obtain⟨ms',g1,-⟩:=SA.o
         have:=(g1.lt q e).2;omega
        have:=(yJ.o.own.lt q e).2;omega
       obtain⟨nx,gZ⟩:=xq ms.length;have kV:=zq gZ
       have AA:nx<=67108864:=by rw[gZ,h2];omega
       have H1:=zq h1;have H2:=zq h2;have H3:=zq h3;have H4:=zq h4;have HM8:=zq EI;have HD8:=zq VL
       have lg:(w8.alloc (O #[U yo yl mK] 59)).ownsRow wo.heap.size 59 1 u4 nx ms:=by rw[gZ];exact h1
       have HOW:=zq lg;clear n1 n2 n3 n4 hN h1 h2 h3 h4 EI VL gZ lg;go_wp2_with (at_builtin;refine abk _ rfl _ _ 36 rfl wo.heap.size 59 i0 (U Z 0 0) 1 24 underlying36 hi hz0 hz1 hz2 rfl (by omega) u4 nx ms rfl HOW.o ⟨w8.heap.size,0,Z⟩ 1 1 [U yo yl mK] rfl rfl (ar.Qg _ _ _ _ rfl) (by simp[Value.oneCell']) (by omega) (by unfold maxLen;omega) (by omega) (by simp;omega) (w8.heap.size+1) (by simp) ?_);intro gg cap w9 bT hgrow hat jH;have q1:=Sx.push (og:=u3.ownBlock) H1.o H2.o H3.o H4.o HM8.o HD8.o (fun q hq=>by have:=(yJ.o.own.lt q hq).2;simp;omega) bT (by rw[kV.o]) hgrow (by simpa using hat);obtain⟨q2,q3⟩:=qA.o.loc QZ.o RX.o hgrow (fun q hq=>(H1.o.lt q hq).1);have jR:=zq q1;have cQ:=zq q2;have fH:=zq q3;have GA:=zq q2.left;clear bT hgrow hat jH q1 q2 q3;go_wp2_with fail;have aq:CxI R tv L fin nv ns wo s4.ts.length u3.ownBlock r2 (U (F ⟨gg,0,Z⟩) (nx+1) cap) w9:=⟨f2,x++[m2],a8,s8,HSK.o,cQ.o,fH.o,jR.o,by omega,by rw[aag,aaR];omega⟩
       have rO:Xf L R w9<Xf L R wr:=by rw[GA.o,FY.o];omega
       exact⟨aq,rO⟩
      |false=>
       rw[hk]at iU;have tI:=zq iU
       have ML:da (r=if aj.Qk [125] s6.ts then aj.ret (acc++[x]) s6.bB else (aj.want fin [44] s6).bind fun _ s=>aj.Yp fin f (acc++[x]) s):=by have h1:=p7.o;unfold aj.Yj at h1;rw[if_neg (by rw[hk];decide)]at h1;show _=_;rw[xT.o,<-h1];rfl
       clear iU hk p7;go_wp2_with fail;refine(X5 MK 0 1 [] (by omega) (by omega)).mono ?_;rintro e w7 ⟨rfl,b1⟩;rw[tI.o];have vh:=zq (MK.o.below b1);have oP:=zq (RS.step eQ (RS.step CY (Wr.au b1)));have SA:=zq (HX6.o.wr (R:=R) (Wr.au b1) NJ);have HC7:=zq (yJ.o.wr (RS.step CY (Wr.au b1)) br);clear b1
       obtain⟨so,cG,sl,rfl⟩:∃so cG sl,u4=U so sl cG:=by obtain⟨ms,h1,-⟩:=SA.o;obtain⟨so,cG,e,-⟩:=Qj h1;exact⟨so,cG,_,e⟩
       have kP:=zq (Qq w7 (O #[U so sl cG] 36));have QZ:=zq (vh.o.below kP);have RX:=zq (RS.step oP (Wr.au kP));have HX8:=zq ((SA.o.wr (R:=R) (Wr.au kP) NJ).mono eQ.o.size);have yK:=zq (HC7.o.wr (R:=R) (Wr.au kP) br);obtain⟨nx,gZ⟩:=xq bc.length;have kV:=zq gZ
       have AA:nx<=67108864:=by rw[gZ,yK.o.len];omega
       have lg:(w7.alloc (O #[U so sl cG] 36)).ownsRow w.heap.size 36 1 u3 nx bc:=by rw[gZ];exact yK.o.own
       have HOW:=zq lg;have YJ:=oP.o.size;clear gZ lg;go_wp2_with (at_builtin;refine abk _ rfl _ _ 97 rfl w.heap.size 36 j0 (U Z 0 0) 1 24 underlying97 hj cZ eu hk2 rfl (by omega) u3 nx bc rfl HOW.o ⟨w7.heap.size,0,Z⟩ 1 1 [U so sl cG] rfl rfl (ar.Qg _ _ _ _ rfl) (by simp[Value.oneCell']) (by omega) (by unfold maxLen;omega) (by omega) (by simp;omega) (w7.heap.size+1) (by simp) ?_);intro gg cap w9 bT hgrow hat jH;have q1:=yK.o.push HX8.o bT (by rw[kV.o]) hgrow (by simpa using hat);obtain⟨q2,q3⟩:=H.o.loc QZ.o RX.o hgrow (fun q hq=>(yK.o.own.lt q hq).1);have jR:=zq q1;have cQ:=zq q2;have fH:=zq q3;clear bT hgrow hat jH q1 q2 q3;go_wp2_with fail;refine(Zi cQ.o [125]).mono ?_;rintro e eU ⟨rfl,t1,t2⟩;have T1:=zq (RS.step fH.o t1);have TC:=zq (jR.o.wr t1 br);clear t1
       cases jT:aj.Qk [125] s6.ts with
       |true=>
        rw[if_pos jT]at t2;have T2:=zq t2;have yB:=zq jT;clear t2 jT;go_wp2_with fail;go_ret;rw[ML.o,if_pos yB.o]
        exact⟨_,_,rfl,T2,T1,aar (Uq s6) (by omega),_,TC⟩
       |false=>
        rw[if_neg (by rw[jT];decide)]at t2;have T2:=zq t2;have yB:=zq jT;clear t2 jT;go_wp2_with fail;refine(S9 T2 [44]).mono ?_;rintro e rj hn;rcases hN:aj.want fin [44] s6 with- |(⟨fc,fk⟩|⟨m,s11⟩)
        ·rw[hN]at hn;exact hn.elim
        ·rw[hN]at hn
         obtain⟨rfl,n1⟩:=hn;refine⟨rfl,?_⟩
         have cF:r=F (.error (fc,fk)):=by rw[ML.o,if_neg (by rw[yB.o];decide),hN];rfl
         rw[cF];exact⟨rfl,RS.step T1 n1⟩
        rw[hN]at hn;obtain⟨v,a11,rfl,n1,n2,n3,rfl⟩:=hn;have hwl:=Ui hN
        have cF:aj.Yp fin f (acc++[x]) s11=r:=by rw[ML.o,if_neg (by rw[yB.o];decide),hN];rfl
        have MI:=zq cF;have acW:=zq n1.left;have xO:=zq n1;have ou:=zq (RS.step T1 n2);have acw:=zq (TC.o.wr n2 br);clear n1 n2 n3 cF hN;go_wp2_with fail;have aq:CxO R tv L fin nv ns w s.ts.length r (U (F ⟨gg,0,Z⟩) (nx+1) cap) rj:=⟨f,acc++[x],_,a11,s11,MI,xO,ou,acw,by omega,by rw[aag,aaR];omega⟩
        have rO:Xf L R rj<Xf L R wo:=by rw[acW.o,HL4.o];omega
        exact⟨aq,rO⟩
structure k9 (R:Nat) (tv:ca) (L:List Tok) (fin:Nat) (s0:aj.St) (nv:ca) (ns:List Nv) (w wr:ce) (a':Nat) (s':aj.St) (eJ:ca) (ns':List Nv):Prop where
 rs:RS wr R tv L fin a' s' eJ (ns++ns')
 wr:Wr R nv.ownBlock w wr
 mv:Mv w nv.ownBlock eJ.ownBlock
 few:(ns++ns').length+s'.ts.length<=ns.length+s0.ts.length
 opn:s'.opened=s0.opened
 fresh:∀p∈ns',∀q,p.2.ownBlock=F q->w.heap.size<=q
theorem k9.refl {L:List Tok}{fin:Nat}{s:aj.St}{ns:List Nv}(h:RS w R tv L fin a s nv ns):k9 R tv L fin s nv ns w w a s nv []:=
 ⟨by rw[abt];exact h,Wr.refl _ _ _,Mv.refl _ _,by rw[abt];exact aab _,rfl,fun p hp=>by cases hp⟩
theorem k9.trans {L:List Tok}{fin:Nat}{s0 s1 s2:aj.St}{ns fM rb:List Nv}(h:k9 R tv L fin s0 nv ns w w1 a1 s1 gJ fM)(k:k9 R tv L fin s1 gJ (ns++fM) w1 w2 a2 s2 pS rb):k9 R tv L fin s0 nv ns w w2 a2 s2 pS (fM++rb):=
 ⟨by rw[<-aaW];exact k.rs,h.wr.trans h.mv k.wr,Mv.trans (w':=w1) h.mv h.wr.size k.mv,by have:=h.few;have:=k.few;rw[<-aaW];omega,k.opn.trans h.opn,fun p E q hq=>by
  rcases aaP.1 E with E|E
  ·exact h.fresh p E q hq
  exact aar h.wr.size (k.fresh p E q hq)⟩
theorem k9.step {L:List Tok}{fin:Nat}{s0 s1 s2:aj.St}{ns fM:List Nv}(h:k9 R tv L fin s0 nv ns w w1 a1 s1 gJ fM)(k:RS w2 R tv L fin a2 s2 gJ (ns++fM))(hw:Wr R Z w1 w2)(hl:s2.ts.length<=s1.ts.length)(ho:s2.opened=s1.opened):k9 R tv L fin s0 nv ns w w2 a2 s2 gJ fM:=
 ⟨k,h.wr.trans h.mv (hw.weak _),h.mv,by have:=h.few;omega,ho.trans h.opn,h.fresh⟩
theorem k9.BO {L:List Tok}{fin:Nat}{s0 s1:aj.St}{ns fM:List Nv}{nd:aj.Node}(h:k9 R tv L fin s0 nv ns w w1 a1 s1 gJ fM)
  (k:RS w2 R tv L fin a1 s1 pS (ns++fM++[(nd,kv)])) (hw:Wr R gJ.ownBlock w1 w2) (hm:Mv w1 gJ.ownBlock pS.ownBlock) (hf:(ns++fM).length+1+s1.ts.length<=ns.length+s0.ts.length) (hv:∀q,kv.ownBlock=F q->w.heap.size<=q):
  k9 R tv L fin s0 nv ns w w2 a1 s1 pS (fM++[(nd,kv)]):=
 ⟨by rw[<-aaW];exact k,h.wr.trans h.mv hw,Mv.trans (w':=w1) h.mv h.wr.size hm,by rw[<-aaW,aag,aaR];omega,h.opn,fun p E q hq=>by
  rcases aaP.1 E with E|E
  ·exact h.fresh p E q hq
  rw[aaO.1 E]at hq;exact hv q hq⟩
def RP {α:Type}(r:aj.PR α)(R:Nat)(tv:ca)(L:List Tok)(fin:Nat)(s:aj.St)(nv:ca)(ns:List Nv)(Q:α->ca->List Nv->ca->ce->Prop)(w:ce)(e:ef)(w':ce):Prop:=
 match r with
 |none=>False
 |some (.error (c,k))=>e=Tu c k/\Wr R nv.ownBlock w w'
 |some (.ok (x,s'))=> ∃v a' eJ ns',e=dj v/\k9 R tv L fin s nv ns w w' a' s' eJ ns'/\Q x v ns' eJ w'
def LO (ns:List Nv)(e:aj.Ex)(v:ca)(ns':List Nv)(_:ca)(_:ce):Prop:=v=A G ((ns.length+e.size-1:Nat):Int)/\ns'.map Prod.fst=e.flat ns.length
mutual
theorem Uf:∀(e:aj.Ex) (o:Nat),(e.flat o).length=e.size
 | .num _,_| .name _,_| .mat _,_| .cpx _,_=>rfl
 | .neg a,o| .turn a,o| .pow a _,o=>by simp[aj.Ex.flat,aj.Ex.size,Uf a]
 | .add a b,o| .sub a b,o| .mul a b,o=>by simp[aj.Ex.flat,aj.Ex.size,Uf a,Uf b];omega
 | .call _ l,o=>by simp[aj.Ex.flat,aj.Ex.size,Mp l]
theorem Mp:∀(l:aj.cP) (o:Nat),(l.flat o).length=l.size
 | .nil,_=>rfl
 | .cons a l,o=>by simp[aj.cP.flat,aj.cP.size,Uf a,Mp l]
end
theorem Ez:∀e:aj.Ex,0<e.size:=by intro e;cases e<;>simp[aj.Ex.size]
theorem LO.len {ns ns':List Nv}{e:aj.Ex}(h:LO ns e v ns' nv w):ns'.length=e.size:=by have:=aaE List.length h.2;rw[aas,Uf]at this;exact this
theorem gP.fresh {L:List Tok}{fin:Nat}{s:aj.St}{ns:List Nv}(h:RS w R tv L fin a s nv ns)(ks:List Nat):gP (w.alloc (O (ks.map fun k=>Value.int G ((k:Nat):Int)).toArray 3)) R nv ns (U (F ⟨w.heap.size,0,Z⟩) ks.length ks.length) ks\/9223372036854775807<ks.length:=by
 by_cases hl:ks.length<=9223372036854775807
 ·left
  have J:=aap w (O (ks.map fun k=>Value.int G ((k:Nat):Int)).toArray 3);refine⟨⟨_,_,rfl,aab _,by unfold maxLen;omega,?_,fun _=>⟨_,rfl,fun j k hj=> ?_⟩⟩,fun p hp q H e=> ?_⟩
  ·intro q H
   cases H
   refine⟨h.lt,by simp,fun e=> ?_⟩;have E:=(h.own.lt _ e).2;change w.heap.size<w.heap.size at E;omega
  ·rw[aaj _ _ _ _ _ _ J];simp[hj]
  cases e
  obtain⟨ao,K,e1,-,-,I,-⟩:=h.kids p hp;have E:=(I _ H).2.1;change w.heap.size<w.heap.size at E;omega
 right;omega
theorem gP.nil {ns:List Nv}:gP w R nv ns (U Z 0 0) []:=
 ⟨⟨Z,0,rfl,aab _,aat _,fun q hq=>by simp[Value.ownBlock]at hq,fun h=>absurd h (ado _)⟩,fun p _ q _ e=>by simp[Value.ownBlock]at e⟩
def fN (al:Nat)(P:aj.St->aj.PR aj.Ex)(fin:Nat):Prop:=∀(R:Nat) (tv:ca) (L:List Tok) (a:Nat) (s:aj.St) (nv:ca) (ns:List Nv) (w:ce),RS w R tv L fin a s nv ns->P s≠Z->dk co al #[db (F ⟨R,0,Z⟩)] w (RP (P s) R tv L fin s nv ns (LO ns) w)
theorem Fg {x:Bytes}{s:aj.St}(h:aj.Qk x s.ts=dq):s.bB.ts.length+1=s.ts.length:=by have E:=abm.2 (Mb h);show s.ts.tail.length+1=_;rw[adv];omega
def TuO (R:Nat)(tv:ca)(L:List Tok)(fin:Nat)(s0:aj.St)(nv:ca)(ns:List Nv)(w:ce)(r:aj.PR aj.Ex)(kv:ca)(wr:ce):Prop:=
 ∃g k s' a' eJ ns',aj.Nr g k s'=r/\k9 R tv L fin s0 nv ns w wr a' s' eJ ns'/\LO ns k kv ns' eJ wr
def MiO (R:Nat)(tv:ca)(L:List Tok)(fin:Nat)(s0:aj.St)(nv:ca)(ns:List Nv)(w:ce)(r:aj.PR Nat)(nn:ca)(wr:ce):Prop:=
 ∃g n s' a',aj.W6 g n s'=r/\nn=A G ((n:Nat):Int)/\RS wr R tv L fin a' s' nv ns/\Wr R Z w wr/\n+s'.ts.length<=s0.ts.length/\s'.opened=s0.opened
def NgO (R:Nat)(tv:ca)(L:List Tok)(fin:Nat)(s0:aj.St)(nv:ca)(ns:List Nv)(w:ce)(n:Nat)(s2:aj.St)(e0:aj.Ex)(kv iv:ca)(wr:ce):Prop:=
 ∃i k a' eJ ns',iv=A G ((i:Nat):Int)/\i<=n/\aj.jd (n-i) k=e0/\k9 R tv L fin s0 nv ns w wr a' s2 eJ ns'/\LO ns k kv ns' eJ wr/\(ns++ns').length+s2.ts.length+(n-i)<=ns.length+s0.ts.length
def PaQ (R:Nat)(ns:List Nv)(w:ce)(l:aj.cP)(v:ca)(ns':List Nv)(eJ:ca)(w':ce):Prop:=gP w' R eJ (ns++ns') v (l.roots ns.length)/\ns'.map Prod.fst=l.flat ns.length/\ ∀q,v.ownBlock=F q->w.heap.size<=q
theorem RS.rG {L:List Tok}{fin:Nat}{s:aj.St}{ns:List Nv}{row:Option Nat}(h:RS w R tv L fin a s nv ns)(hg:w.grownBy w' row)(hr:∀q,row=F q->R<q/\nv.ownBlock≠F q/\ ∀p∈ns,p.2.ownBlock≠F q):RS w' R tv L fin a s nv ns/\(∀B,B<=w.heap.size->(∀q,row=F q->B<=q)->dl B w w'):=by
 refine⟨⟨?_,?_,h.drop,h.le,?_,?_,h.apart,h.few,h.deep,h.short,h.sum,h.good,?_,h.sgl⟩,fun B hB hq=>⟨hg.os,hg.tape,hg.output,hg.size,fun k hk=>hg.block k (by omega) (fun e=>by have:=hq k e.symm;omega)⟩⟩
 ·exact(hg.block R h.lt (fun e=>by have:=(hr R e.symm).1;omega)).trans h.blk
 ·obtain⟨ao,H,e,K,bi,E⟩:=h.tks
  refine⟨ao,H,e,K,bi,fun h0=> ?_⟩;obtain⟨g,rfl,T,I⟩:=E h0;have aE:=hg.block g (by have:=h.lt;omega) (fun e=>by have:=(hr g e.symm).1;omega);exact⟨g,rfl,T,fun j t hj=>⟨(abe aE).trans (I j t hj).1,(abe aE).trans (I j t hj).2.1,(abe aE).trans (I j t hj).2.2⟩⟩
 ·refine h.own.kept hg ?_
  cases ho:nv.ownBlock with
  |none=>exact .inl rfl
  |some q=>exact .inr (fun e=>(hr q e.symm).2.1 ho)
 ·intro p am
  obtain⟨ao,H,e,K,bi,E,h4⟩:=h.kids p am;refine⟨ao,H,e,K,bi,fun q hq=>⟨(E q hq).1,aal (E q hq).2.1 hg.size,(E q hq).2.2⟩,fun h0=> ?_⟩;obtain⟨g,rfl,T⟩:=h4 h0
  have J:p.2.ownBlock=F g:=by rw[e];rfl
  have I:=E g J;exact⟨g,rfl,fun j k hj=>(abe (hg.block g I.2.1 (fun e=>(hr g e.symm).2.2 p am J))).trans (T j k hj)⟩
 intro d hd;exact(abe (hg.block _ (ab1 h.sgl h.lt) (fun e=>Nat.lt_asymm (hr _ e.symm).1 h.sgl))).trans (h.sg d hd)
theorem Qq3 {s:aj.St}(h:aj.Qh k s.ts=dq):s.bB.ts.length+1=s.ts.length:=by have E:=abm.2 (Wx h);show s.ts.tail.length+1=_;rw[adv];omega
def xJ (l:List (List Nat)):Nat:=(l.map List.length).sum
theorem Rm (fin:Nat):∀(f:Nat) (acc:List Nat) (s:aj.St) (r:List Nat×aj.St),aj.Yj fin f acc s=F (.ok r)->r.1.length+r.2.ts.length<=acc.length+s.ts.length
 |0,_,_,_,h=>by cases h
 |f+1,acc,s,r,h=>by
  unfold aj.Yj at h;split at h
  ·obtain⟨m,s',h1,h2⟩:=aj.Xx h
   have E:=Rm fin f _ _ _ h2;have H:=Zl h1;rw[aag,aaR]at E;omega
  rw[aj.Vj h];exact aab _
theorem Rw (fin:Nat):∀(f:Nat) (acc:List (List Nat)) (s:aj.St) (r:List (List Nat)×aj.St),aj.Yp fin f acc s=F (.ok r)->xJ r.1+r.2.ts.length<=xJ acc+s.ts.length/\r.1.length+r.2.ts.length<=acc.length+s.ts.length
 |0,_,_,_,h=>by cases h
 |f+1,acc,s,r,h=>by
  unfold aj.Yp at h;obtain⟨n,s1,h1,h2⟩:=aj.Xx h;obtain⟨x,s2,H,E⟩:=aj.Xx h2;have k1:=Zl h1;have k3:=Rm fin f _ _ _ H;have k4:=(aj.Nd fin f _ _ _ H).2
  have kt:xJ (acc++[x])=xJ acc+x.length:=by simp[xJ]
  simp only[aaR]at k3;split at E
  ·rw[aj.Vj E]
   have k5:=(aj.ig.bB s2).2;simp only[kt,aag,aaR]at*;omega
  obtain⟨u,s3,I,J⟩:=aj.Xx E;have k5:=(aj.Cn I).2;have k6:=Rw fin f _ _ _ J;rw[kt,aag,aaR]at k6
  try simp only at*
  omega
theorem Ep {fin:Nat}{s:aj.St}{r:List (List Nat)×aj.St}(h:aj.Xs fin f s=F (.ok r)):xJ r.1<=s.ts.length/\r.1.length<=s.ts.length:=by
 unfold aj.Xs at h;obtain⟨u,s1,H,E⟩:=aj.Xx h;have k1:=(aj.Cn H).2;split at E
 ·rw[aj.Vj E];simp[xJ]
 have:=Rw fin f _ _ _ E;simp[xJ]at this k1 ⊢;omega
theorem Qwy:∀{l:List (List Nat)} {s:List Nat},s∈l->s.length<=xJ l
 |a::l,s,h=>by
  show _<=a.length+xJ l;rcases abu.1 h with rfl|h
  ·omega
  have:=Qwy h;omega
theorem Mf (sep:Bytes):∀l:List Bytes,(aj.Ql sep l).length<=(l.map List.length).sum+l.length*sep.length
 | []=>aat _
 | [a]=>by show a.length<=(a.length+0)+1*_;omega
 |a::b::l=>by have h1:=Mf sep (b::l);show (a++sep++aj.Ql sep (b::l)).length<=(a.length+((b::l).map List.length).sum)+((b::l).length+1)*sep.length;simp only[aag];rw[adk];omega
theorem Cl (t:Bytes):(aj.aA (aj.Q7 t)).length<=max 1 t.length:=by
 unfold aj.aA;split
 ·show 1<=_;omega
 rw[aas];refine aar (aw.V9 (w:=(bZ (t.filter aZ.Qr)).length) (aw.U2 fun x hx=> ?_)) ?_
 ·obtain⟨c,h,rfl⟩:=abw.1 hx
  have:=(List.mem_filter.1 h).2;unfold aZ.Qr at this;simp at this;omega
 rw[show (bZ (t.filter aZ.Qr)).length=(t.filter aZ.Qr).length from aas _];exact aar (acE _ _) (Nat.le_max_right _ _)
theorem k9.of0 {L:List Tok}{fin:Nat}{s s2:aj.St}{ns:List Nv}(h:RS w R tv L fin a s nv ns)(k:RS w2 R tv L fin a2 s2 nv ns)(hw:Wr R Z w w2)(hl:s2.ts.length<=s.ts.length)(ho:s2.opened=s.opened):k9 R tv L fin s nv ns w w2 a2 s2 nv []:=
 (k9.refl h).step (by rw[abt];exact k) hw hl ho
theorem Sa {fin:Nat}{s s':aj.St}{x:Bytes}(h:aj.name fin s=F (.ok (x,s'))):s'=s.bB/\aj.Qh 2 s.ts=dq:=by
 unfold aj.name at h;split at h
 ·have e:=aj.Vj h
  cases e
  rename_i E;exact⟨rfl,E⟩
 exact(aj.Ub h).elim
theorem Qwl {fin:Nat}(f:Nat){L:List Tok}{s:aj.St}{ns:List Nv}(h:RS w R tv L fin a s nv ns)(eu:aj.Qh 1 s.ts=cl)(hk2:aj.Qh 2 s.ts=dq)(hm:aj.Qk [40] s.ts.tail=cl)(hne:aj.atom fin (f+1) s≠Z):dk co 251 #[db (F ⟨R,0,Z⟩)] w (RP (aj.atom fin (f+1) s) R tv L fin s nv ns (LO ns) w):=by
 have oM:=zq h;have kz:da (Wr R Z w w):=Wr.refl _ _ _;obtain⟨r,hr⟩:=xq (aj.atom fin (f+1) s);rw[<-hr]at hne ⊢;have bV:=zq hne
 have p6:da (r=(aj.name fin s).bind fun x s=>aj.ret (.name x) s):=by show _=_;rw[hr];unfold aj.atom;simp only[eu,hk2,hm,Bool.and_false,Bool.false_eq_true,adq,if_true];try rfl
 have zP:=h.few;have aS:=h.short
 have hLn:s.ts.length<=L.length:=by rw[<-h.drop,aan];omega
 have C1:=zq (Zj 1 [] s.ts (by decide));have C2:=zq (Zj 2 [] s.ts (by decide));have C3:=zq (Kh [40] s.ts);rw[eu]at C1;rw[hk2]at C2;rw[hm]at C3;clear h hr hne eu hk2 hm;go_enter func251,ntmps251;go_wp2_with fail;refine(X5 oM 0 1 [] (by omega) (by omega)).mono ?_;rintro e w1 ⟨rfl,b1⟩;rw[C1.o];have et:=zq (oM.o.below b1);have jl:=zq (RS.step kz (Wr.au b1));clear b1;go_wp2_with fail;refine(X5 et 0 2 [] (by omega) (by omega)).mono ?_;rintro e w2 ⟨rfl,b1⟩;rw[C2.o];have cU:=zq (et.o.below b1);have eE:=zq (RS.step jl (Wr.au b1));clear b1;go_wp2_with fail;refine(X5 cU 1 3 [40] (by omega) (by omega)).mono ?_;rintro e w3 ⟨rfl,b1⟩;rw[C3.o];have ie:=zq (cU.o.below b1);have oA:=zq (RS.step eE (Wr.au b1));clear b1;go_wp2_with fail;refine(X5 ie 0 2 [] (by omega) (by omega)).mono ?_;rintro e w4 ⟨rfl,b1⟩;rw[C2.o];have qA:=zq (ie.o.below b1);have eQ:=zq (RS.step oA (Wr.au b1));clear b1;go_wp2_with fail;refine(Qk9 qA).mono ?_;rintro e w5 hn
 rcases hN:aj.name fin s with- |(⟨fc,fk⟩|⟨x,s2⟩)<;>rw[hN]at hn
 ·exact hn.elim
 ·obtain⟨rfl,n1⟩:=hn
  refine⟨rfl,?_⟩
  have cF:r=F (.error (fc,fk)):=by rw[p6.o];simp only[hN,aj.PR.bind];try rfl
  rw[cF];exact⟨rfl,(eQ.o.weak _).trans (Mv.refl _ _) (n1.weak _)⟩
 obtain⟨v2,a2,rfl,n1,n2,n3,rfl⟩:=hn;obtain⟨rfl,-⟩:=Sa hN;have HN:=zq hN;have MJ:=zq n1;have oB:=zq (RS.step eQ n2);clear n1 n2 hN;have IU:s.bB.ts.length+1=s.ts.length:=Qq3 (Sa HN).2;have HP:=zq (k9.of0 oM MJ oB (Uq s) rfl);go_wp2_with fail;refine(Fl HP.o.rs ⟨2,x,[]⟩ gP.nil (by have:=HP.o.rs.few;rw[abt];omega)).mono ?_;rintro e wq ⟨nvq,rfl,b1,b2,b3⟩;have HQ:=zq (HP.o.BO b1 b2 b3 (by rw[abt];omega) (fun q hq=>by simp[Value.ownBlock]at hq));clear b1 b2 b3
 have ji:da (r=F (.ok (.name x,s.bB))):=by show _=_;rw[p6.o,HN.o];rfl
 go_wp2_with fail;go_ret;rw[ji.o];exact⟨_,a2,nvq,_,rfl,HQ,by simp[aj.Ex.size],by simp[aj.Ex.flat]⟩
def LnP (r:aj.PR aj.Ln)(R:Nat)(tv:ca)(L:List Tok)(fin:Nat)(nv:ca)(w:ce)(e:ef)(w':ce):Prop:=
 match r with
 |none=>False
 |some (.error (c,k))=>e=Tu c k/\Wr R nv.ownBlock w w'
 |some (.ok (n,s'))=>e=dj (.tuple #[])/\ ∃a' eJ ns',RS w' R tv L fin a' s' eJ ns'/\Wr R nv.ownBlock w w'/\ns'.map Prod.fst=n.flat/\Mv w nv.ownBlock eJ.ownBlock/\ ∀p∈ns',∀q,p.2.ownBlock=F q->w.heap.size<=q
structure xX (R:Nat) (tv:ca) (L:List Tok) (fin:Nat) (nv:ca) (w wr:ce) (a':Nat) (s':aj.St) (eJ:ca) (ns':List Nv):Prop where
 rs:RS wr R tv L fin a' s' eJ ns'
 wr:Wr R nv.ownBlock w wr
 mv:Mv w nv.ownBlock eJ.ownBlock
 fresh:∀p∈ns',∀q,p.2.ownBlock=F q->w.heap.size<=q
theorem xX.step {L:List Tok}{fin:Nat}{s1 s2:aj.St}{fM:List Nv}(h:xX R tv L fin nv w w1 a1 s1 gJ fM)(k:RS w2 R tv L fin a2 s2 gJ fM)(hw:Wr R Z w1 w2):xX R tv L fin nv w w2 a2 s2 gJ fM:=
 ⟨k,h.wr.trans h.mv (hw.weak _),h.mv,h.fresh⟩
theorem xX.trans {L:List Tok}{fin:Nat}{s1 s2:aj.St}{fM rb:List Nv}(h:xX R tv L fin nv w w1 a1 s1 gJ fM)(k:k9 R tv L fin s1 gJ fM w1 w2 a2 s2 pS rb):xX R tv L fin nv w w2 a2 s2 pS (fM++rb):=
 ⟨k.rs,h.wr.trans h.mv k.wr,Mv.trans (w':=w1) h.mv h.wr.size k.mv,fun p E q hq=>by
  rcases aaP.1 E with E|E
  ·exact h.fresh p E q hq
  exact aar h.wr.size (k.fresh p E q hq)⟩
theorem xX.put {L:List Tok}{fin:Nat}{s1:aj.St}{fM:List Nv}{nd:aj.Node}(h:xX R tv L fin nv w w1 a1 s1 gJ fM)(k:RS w2 R tv L fin a1 s1 pS (fM++[(nd,kv)]))(hw:Wr R gJ.ownBlock w1 w2)(hm:Mv w1 gJ.ownBlock pS.ownBlock)(hv:∀q,kv.ownBlock=F q->w.heap.size<=q):xX R tv L fin nv w w2 a1 s1 pS (fM++[(nd,kv)]):=
 ⟨k,h.wr.trans h.mv hw,Mv.trans (w':=w1) h.mv h.wr.size hm,fun p E q hq=>by
  rcases aaP.1 E with E|E
  ·exact h.fresh p E q hq
  rw[aaO.1 E]at hq;exact hv q hq⟩
end Go.Proofs.YtgfmiladfeoldaaGreatDoor
