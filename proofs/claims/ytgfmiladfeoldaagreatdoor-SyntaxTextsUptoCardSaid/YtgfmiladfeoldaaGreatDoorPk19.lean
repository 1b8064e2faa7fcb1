import Derived.Test.YtgfmiladfeoldaaGreatDoorPk14
import Derived.Test.YtgfmiladfeoldaaGreatDoorPk13
set_option linter.unusedSimpArgs false
set_option linter.unusedVariables false
set_option maxRecDepth 100000
set_option maxHeartbeats 16000000
open Go.Proofs.Tryz
open Option renaming none->Z,some->F
open Go.Value renaming slice->U,int->A,bool->ca,agg->dj
open Go.IntKind renaming i64->G
open Go.Obj renaming cells->O
open Bool renaming false->ce,true->db
open Go renaming World->cl,Value->c9
open Go.RowKit renaming Below->co
open Go.Proofs.Tryz renaming prog->da,underlying59->de
namespace Go.Proofs.YtgfmiladfeoldaaGreatDoor
open Go.RowKit aw ar
variable {B cap g i n p q:Nat} {a d m v:c9} {ao:Option Addr} {b:Bool} {c r:Int} {w w' wx:cl} {x:Addr} {xs:List Nat}
theorem Qt {p:Addr}(h:co B w w')(hp:p.block<B)(hf:w.frozen? p=ce):w'.frozen? p=ce:=by unfold World.frozen? at hf ⊢;rw[h.block p.block hp];exact hf
theorem Qqz (w:cl)(ty:TypeId)(H:Nat)(ko:Option Addr)(aT:Nat):(Builtin.append_ #[59,59] ty #[U (F ⟨H,0,Z⟩) 0 0,U ko 0 aT]).run da w=.ok (U (F ⟨H,0,Z⟩) 0 0) w:=by
 obtain⟨i0,h,E,I,J⟩:=aa0 Tryz.r5
 cases ko<;>simp[Builtin.append_,run_underlying de,sizeOf,typeInfo,h,Builtin.lenOf,Builtin.firstCells,storeCells,loadCells,loadCellsFrom]
theorem Fr.dh (h:w.ownsRow B 101 1 v n (ws xs))(hn:n=xs.length)(bm:ok xs):Fr B w v xs:=by subst hn;obtain⟨ao,E,rfl,H,I,J⟩:=Qj h;refine⟨⟨fun k hk=>(h.lt k hk).2,ao,E,rfl,H,I,bm,fun i x hx=> ?_⟩,fun k hk=>h.lt k hk⟩;have K:=(aaf.1 hx).1;obtain⟨g,rfl,-,-,a3⟩:=J (by omega);refine⟨g,0,rfl,?_⟩;rw[aaX,a3 i (by omega)];simp[ws,hx]
theorem Am {ops:Array Oper}{o:Oper}{a:Act}{K:Act->cl->Prop}{Q:Exit->Act->cl->Prop}{E:Prop}(hgd:o.guard=Z)(s x:Operand)
  (ho:o.op=.call {callee:=.builtin .append,args:= #[s,x],argTypes:= #[59,59]}) (H:Nat) (hs:a.eval s=U (F ⟨H,0,Z⟩) 0 0) (hH:w.heap[H]?=F (O #[] 101 (0,0)))
  (v:c9) (xs:List Nat) (hx:a.eval x=v) (hr:ee w v xs) (hl:xs.length<=1073741824)
  (h:∀w' uo ep,Hid (Fr H w' (U uo xs.length ep) xs)->Hid (co H w w')->K (a.put o.dst (U uo xs.length ep)) w'):if Region.wanted o (yielded ops a.tmps)=db then Oper.wp da o a w K Q else E:=by
 have I:=(aah.1 hH).1;obtain⟨ao,am,rfl,aa,ab,a0,aE⟩:=hr.2;by_cases h0:xs=[]
 ·subst h0
  have hw:Region.wanted o (yielded ops a.tmps)=db:=by simp[Region.wanted,hgd]
  rw[if_pos hw];unfold Oper.wp execOp;simp only[ho,resolve,invoke,builtin,aes,aet,acX,adw,abq,abX,hs,hx,aa5,Qqz];exact h w (F ⟨H,0,Z⟩) 0 ⟨Rd.none' I (by unfold maxLen;omega),fun k hk=>by cases hk;exact⟨aab _,I⟩⟩ (aaw _ _)
 have T:0<xs.length:=abm.2 h0;obtain⟨x0,a1⟩:∃x0,xs[0]?=F x0:=⟨_,aad T⟩;obtain⟨g,o',rfl,-⟩:=aE 0 x0 a1;obtain⟨i0,hi,a2,a3,a4⟩:=aa0 Tryz.r5
 refine ad6 w hgd s x 59 ho H 101 i0 (A .u64 0) 1 8 de hi a2 a3 a4 rfl (by omega) (U (F ⟨H,0,Z⟩) 0 0) 0 [] hs
  ⟨rfl,.inr ⟨H,0,#[],rfl,aab _,hH,aab _,by unfold maxLen;omega,rfl,rfl⟩⟩ ⟨g,o',Z⟩ xs.length am (ws xs) hx (by simp[ws]) (fun j u hj=> ?_) (fun u hu=> ?_) T (by unfold maxLen;omega) (by omega) (aa1 I) w.heap.size rfl ?_
 ·simp only[ws,aa9,abD]at hj
  obtain⟨y,hy,rfl⟩:=hj;obtain⟨g',o'',e,hc⟩:=aE j y hy
  cases e
  rw[Jk];exact hc
 ·simp only[ws,abw]at hu
  obtain⟨y,-,rfl⟩:=hu;rfl
 intro gg cap' w' J bi a9 ac;rw[aaX,abv]at J;rw[aaX];exact h w' _ _ (Fr.dh J rfl a0) (aaF (aaw _ _) bi (aa1 I) (fun q hq=>by cases hq;exact aab _))
def Qpl (b:Bool)(xs:List Nat)(w:cl)(e:Ending)(w':cl):Prop:=∃uo ep,e=.returned (dj #[ca b,U uo xs.length ep])/\Fr w.heap.size w' (U uo xs.length ep) xs/\co w.heap.size w w'
theorem Ta (b:Bool)(xs:List Nat)(hv:ee w v xs)(hl:xs.length<=1073741824):Calls da 63 #[dj #[ca b,v]] w (Qpl b xs w):=by
 have HV:=zq hv;obtain⟨ao,cap,rfl,-,-,-,-⟩:=hv.2;have HL:=zq hl;clear hv hl;go_enter func63,ntmps63;go_wp2_with fail;obtain⟨g,hg⟩:=xq w.heap.size;obtain⟨w0,hw0⟩:=xq ((w.alloc (O #[ca b,U ao xs.length cap] 62)).alloc (O #[ca ce,U Z 0 0] 62))
 have bp:Hid (co w.heap.size w w0):=by rw[hw0];exact(Qq w (O #[ca b,U ao xs.length cap] 62)).trans ((Qq _ _).mono (Qq w (O #[ca b,U ao xs.length cap] 62)).size)
 have hb0:w0.heap[g]?=F (O #[ca b,U ao xs.length cap] 62 (0,0)):=by rw[hw0,hg];exact(Qq (w.alloc (O #[ca b,U ao xs.length cap] 62)) _).block w.heap.size (by simp)|>.trans (aap w _)
 have hb1:w0.heap[g+1]?=F (O #[ca ce,U Z 0 0] 62 (0,0)):=by rw[hw0,hg];have:=aap (w.alloc (O #[ca b,U ao xs.length cap] 62)) (O #[ca ce,U Z 0 0] 62);rw[aaV]at this;exact this
 obtain⟨g1,hg1⟩:=xq (g+1);rw[<-hw0,<-hg,<-hg1];rw[<-hg1]at hb1;have hsz:g1<w0.heap.size:=(aah.1 hb1).1;obtain⟨H,hH⟩:=xq w0.heap.size
 have hgH:g<H:=by omega
 have mC:g1<H:=by omega
 have c0:w0.cell? ⟨g,0,Z⟩=F (ca b):=(aaj w0 _ _ _ _ _ hb0).trans rfl;have c1:w0.cell? ⟨g,1,Z⟩=F (U ao xs.length cap):=(aaj w0 _ _ _ _ _ hb0).trans rfl;have r0:w0.cell? ⟨g1,0,Z⟩=F (ca ce):=(aaj w0 _ _ _ _ _ hb1).trans rfl;have r1:w0.cell? ⟨g1,1,Z⟩=F (U Z 0 0):=(aaj w0 _ _ _ _ _ hb1).trans rfl;have f0:w0.frozen? ⟨g1,0,Z⟩=ce:=aax w0 _ 0 _ _ hb1;have f1:w0.frozen? ⟨g1,1,Z⟩=ce:=aax w0 _ 1 _ _ hb1;obtain⟨wA,xt⟩:=xq ((w0.alloc (O #[] 101)).drew)
 have ba:co w0.heap.size w0 wA:=by rw[xt];exact(Qq w0 (O #[] 101)).drew
 have fJ:=zq ((HV.o.below bp.o).below ba)
 have HHC:Hid (wA.heap[H]?=F (O #[] 101 (0,0))):=by show _=_;rw[xt,hH];exact aap w0 _
 have A0:=zq (Qx ba c0);have A1:=zq (Qx ba c1);have AR0:=zq (Qx ba r0);have AR1:=zq (Qx ba r1);have AF0:=zq (Qc ba r0 f0);have AF1:=zq (Qc ba r1 f1)
 have Y0:Hid ((w0.cell? ⟨g1,0,Z⟩).isSome=db):=by show _=_;rw[r0];rfl
 have Y1:Hid ((w0.cell? ⟨g1,1,Z⟩).isSome=db):=by show _=_;rw[r1];rfl
 have cT:=zq (bp.o.trans (ba.mono bp.o.size));have aK:=zq hb1;have j6:=zq xt;have HHH:=zq hH
 have hne:g≠g1:=by omega
 have LS:Hid (w.heap.size<=g1):=by show _<=_;omega
 have acn:=zq ba;obtain⟨aE,hU⟩:=Qwj;have HU:=zq hU;clear r0 r1 hU hw0 hg hg1 hb0 hb1 hH xt ba
 go_region_held3 (fun w'=>w'.cell? ⟨g,0,Z⟩=F (ca b)/\w'.cell? ⟨g,1,Z⟩=F (U ao xs.length cap)/\w'.frozen? ⟨g1,0,Z⟩=ce/\w'.frozen? ⟨g1,1,Z⟩=ce/\w'.cell? ⟨g1,0,Z⟩=F (aE g1 0 w')/\w'.cell? ⟨g1,1,Z⟩=F (aE g1 1 w'))
  (first
   |(refine⟨?_,?_,?_,?_,HU.o _ _ _ (by exact Y0.o),HU.o _ _ _ (by exact Y1.o)⟩<;>go_keep)
   |exact⟨(Vg hne hne).trans ((b2.o.cell (p:=⟨g,0,Z⟩) hgH).trans A0.o),(Vg hne hne).trans ((b2.o.cell (p:=⟨g,1,Z⟩) hgH).trans A1.o),Uu.trans (Qt b2.o mC AF0.o),Uu.trans (Qt b2.o mC AF1.o),HU.o _ _ _ (Xw (Xw (by rw[b2.o.cell (p:=⟨g1,0,Z⟩) mC,AR0.o];rfl))),HU.o _ _ _ (Xw (Xw (by rw[b2.o.cell (p:=⟨g1,1,Z⟩) mC,AR1.o];rfl)))⟩
   |exact⟨(b2.o.cell (p:=⟨g,0,Z⟩) hgH).trans A0.o,(b2.o.cell (p:=⟨g,1,Z⟩) hgH).trans A1.o,Qt b2.o mC AF0.o,Qt b2.o mC AF1.o,HU.o _ _ _ (by rw[b2.o.cell (p:=⟨g1,0,Z⟩) mC,AR0.o];rfl),HU.o _ _ _ (by rw[b2.o.cell (p:=⟨g1,1,Z⟩) mC,AR1.o];rfl)⟩
   |(rw[<-j6.o];exact⟨A0.o,A1.o,AF0.o,AF1.o,HU.o _ _ _ (by rw[AR0.o];rfl),HU.o _ _ _ (by rw[AR1.o];rfl)⟩))
  ((rw[<-j6.o];refine Am (by rfl) _ _ (by rfl) H (by rw[HHH.o];rfl) (by exact HHC.o) (U ao xs.length cap) xs (by rfl) (by exact fJ.o) HL.o ?_;intro w2 uo ep q1 b2))
 have iL:=(b2.o.block g1 mC).trans ((acn.o.block g1 hsz).trans aK.o);have ji:=zq iL
 have hle:w.heap.size<=H:=by rw[HHH.o];exact bp.o.size
 have aI:=zq (b2.o.mono hle);clear iL;go_wp2_with fail;have s1:=aao w2 g1 0 _ 62 (ca b) ji.o;have s2:=aao _ g1 1 _ 62 (U uo xs.length ep) s1;refine aaD (abF rfl _ _ g1 62 _ _ _ rfl s2 underlying62 rfl (by kernel_rfl)) rfl ?_;exact⟨uo,ep,rfl,(Hs q1.o mC).mono (by have:=LS.o;omega),Zd (cT.o.trans aI.o) LS.o⟩
def IWd (w:cl)(v:c9)(l:List (Bool×List Nat)):Prop:=∃ao cap,v=U ao l.length cap/\l.length<=cap/\cap<=maxLen/\(0<l.length-> ∃g o,ao=F ⟨g,o,Z⟩/\g<w.heap.size/\ ∀j p,l[j]?=F p-> ∃m,w.cell? ⟨g,o+j*2,Z⟩=F (ca p.1)/\w.cell? ⟨g,o+j*2+1,Z⟩=F m/\Rd w m p.2)
def qa (w:cl)(v:c9)(l:List (Bool×List Nat)):Prop:=∃ao cap,v=U ao l.length cap/\l.length<=cap/\cap<=maxLen/\(0<l.length-> ∃g o,ao=F ⟨g,o,Z⟩/\g<w.heap.size/\ ∀j p,l[j]?=F p-> ∃m,w.cell? ⟨g,o+j*2,Z⟩=F (ca p.1)/\w.cell? ⟨g,o+j*2+1,Z⟩=F m/\ee w m p.2)
theorem qa.below {l:List (Bool×List Nat)}(h:qa w v l)(hb:co w.heap.size w w'):qa w' v l:=by obtain⟨ao,E,e,H,I,J⟩:=h;refine⟨ao,E,e,H,I,fun h0=> ?_⟩;obtain⟨g,o,rfl,a2,a3⟩:=J h0;refine⟨g,o,rfl,aal a2 hb.size,fun j p hj=> ?_⟩;obtain⟨m,b1,b2,b3⟩:=a3 j p hj;exact⟨m,Qx hb b1,Qx hb b2,b3.below hb⟩
def jr (l:List (Bool×List Nat)):List (Bool×Nat):=l.map fun p=>(p.1,val p.2)
theorem IWd.ird {l:List (Bool×List Nat)}(h:IWd w v l)(hl:∀p∈l,p.2.length<=67108864):DD w v (jr l):=by
 obtain⟨ao,H,e,J,K,bi⟩:=h
 have E:(jr l).length=l.length:=by simp[jr]
 refine⟨ao,H,by rw[E];exact e,by rw[E];exact J,K,fun h0=> ?_⟩;obtain⟨g,o,rfl,a2,a3⟩:=bi (by rw[<-E];exact h0);refine⟨g,o,rfl,a2,fun j p hj=> ?_⟩;simp only[jr,aa9,abD]at hj;obtain⟨q,I,rfl⟩:=hj;obtain⟨m,b1,b2,b3⟩:=a3 j q I;exact⟨m,q.2,b1,b2,b3,rfl,hl q (aai I)⟩
def ny (w:cl)(q n B:Nat)(l:List (Bool×List Nat))(i:Nat):Prop:=∃cur:Array c9,w.heap[q]?=F (O cur 62 (0,0))/\cur.size=n*2/\ ∀j p,j<i->l[j]?=F p-> ∃m,cur[j*2]?=F (ca p.1)/\cur[j*2+1]?=F m/\Rd w m p.2/\m.ownBlock≠F q/\ ∀k,m.ownBlock=F k->B<=k
theorem ny.lt {l:List (Bool×List Nat)}(h:ny w q n B l i):q<w.heap.size:=by obtain⟨H,E,-⟩:=h;exact(aah.1 E).1
theorem ny.below {l:List (Bool×List Nat)}(h:ny w q n B l i)(hb:co w.heap.size w w'):ny w' q n B l i:=by obtain⟨E,H,I,J⟩:=h;refine⟨E,(hb.block q (aah.1 H).1).trans H,I,fun j p hj hp=> ?_⟩;obtain⟨m,a1,a2,a3,a4⟩:=J j p hj hp;exact⟨m,a1,a2,a3.below hb,a4⟩
theorem ny.made (w:cl)(n B:Nat)(l:List (Bool×List Nat)):ny (w.alloc (O (madeCells #[ca ce,U Z 0 0] (n*2)) 62)) w.heap.size n B l 0:=
 ⟨_,aap w _,by simp[madeCells],fun j p hj _=>absurd hj (adM _)⟩
theorem ny.wr {R:Nat}{l:List (Bool×List Nat)}(h:ny w q n B l i)(hw:Wr R Z w w')(hq:q≠R)(hR:R<B):ny w' q n B l i:=by obtain⟨E,H,I,J⟩:=h;refine⟨E,(hw.block q (aah.1 H).1 hq (by simp)).trans H,I,fun j p hj hp=> ?_⟩;obtain⟨m,a1,a2,a3,a4,a5⟩:=J j p hj hp;exact⟨m,a1,a2,a3.wr hw (fun k hk=>⟨by have:=a5 k hk;omega,by simp⟩),a4,a5⟩
theorem ny.set {l:List (Bool×List Nat)}(h:ny w q n B l i)(hi:i<n)(hx:l[i]?=F (b,xs))(hm:Rd w m xs)(hq:m.ownBlock≠F q)(hB:∀k,m.ownBlock=F k->B<=k):ny ((w.setCell ⟨q,i*2,Z⟩ (ca b)).setCell ⟨q,i*2+1,Z⟩ m) q n B l (i+1):=by
 obtain⟨K,H,I,J⟩:=h;have s0:=aao w q (i*2) _ 62 (ca b) H;have s1:=aao _ q (i*2+1) _ 62 m s0;have E:Wr q Z w ((w.setCell ⟨q,i*2,Z⟩ (ca b)).setCell ⟨q,i*2+1,Z⟩ m):=(Wr.aD w _ _).trans (Mv.refl _ _) (Wr.aD _ _ _);refine⟨_,s1,by simp[I],fun j p hj hp=> ?_⟩;by_cases hji:j=i
 ·subst hji
  rw[hx]at hp;cases hp;refine⟨m,?_,?_,hm.wr E (fun k hk=>⟨fun e=>hq (by rw[hk,e]),by simp⟩),hq,hB⟩
  ·simp[abJ];omega
  simp[abJ];omega
 obtain⟨m',a1,a2,a3,a4,a5⟩:=J j p (by omega) hp;refine⟨m',?_,?_,a3.wr E (fun k hk=>⟨fun e=>a4 (by rw[hk,e]),by simp⟩),a4,a5⟩
 ·rw[<-a1];simp[abJ];rw[if_neg (by omega),if_neg (by omega)]
 rw[<-a2];simp[abJ];rw[if_neg (by omega),if_neg (by omega)]
theorem ny.iwd {l:List (Bool×List Nat)}(h:ny w q n B l l.length)(m:Nat)(hm:l.length<=m)(hmx:m<=maxLen):IWd w (U (F ⟨q,0,Z⟩) l.length m) l:=by have I:=h.lt;obtain⟨J,E,K,H⟩:=h;refine⟨_,_,rfl,hm,hmx,fun h0=>⟨q,0,rfl,I,fun j p hp=> ?_⟩⟩;obtain⟨m,a1,a2,a3,-⟩:=H j p (aaf.1 hp).1 hp;exact⟨m,by rw[aaX,aaj _ _ _ _ _ _ E];exact a1,by rw[aaX,aaj _ _ _ _ _ _ E];exact a2,a3⟩
structure sj (l:List (Bool×List Nat)) (r c:Int) (n cap g:Nat) (ao:Option Addr) (w:cl) (p q i:Nat) (wr:cl):Prop where
 box:wr.heap[g]?=F (O #[A G r,A G c,U ao n cap] 47 (0,0))
 res:wr.heap[g+1]?=F (O #[A G 0,A G 0,U Z 0 0] 47 (0,0))
 o:wr.heap[p]?=F (O #[A G r,A G c,U (F ⟨q,0,Z⟩) n n] 47 (0,0))
 blk:ny wr q n (g+2) l i
 fK:co w.heap.size w wr
 ap:q≠p/\q≠g/\q≠g+1
 le:w.heap.size<=q/\w.heap.size<=g/\p≠g+1/\w.heap.size<=p
theorem sj.start {l:List (Bool×List Nat)}{w0:cl}(hb0:co w.heap.size w w0)(hb:co w0.heap.size w0 wx)
  (h0:w0.heap[g]?=F (O #[A G r,A G c,U ao n cap] 47 (0,0))) (h1:w0.heap[g+1]?=F (O #[A G 0,A G 0,U Z 0 0] 47 (0,0)))
  (out:wx.heap[p]?=F (O #[A G r,A G c,U (F ⟨q,0,Z⟩) n n] 47 (0,0))) (blk:ny wx q n (g+2) l 0) (rR:q≠p) (hp:w0.heap.size<=p) (hq:w0.heap.size<=q) (hg:w.heap.size<=g):sj l r c n cap g ao w p q 0 wx:=by
 have l0:=(aah.1 h0).1;have l1:=(aah.1 h1).1;have:=hb0.size;exact⟨(hb.block g l0).trans h0,(hb.block (g+1) l1).trans h1,out,blk,hb0.trans (hb.mono hb0.size),⟨rR,by omega,by omega⟩,⟨by omega,hg,by omega,by omega⟩⟩
theorem sj.below {l:List (Bool×List Nat)}{wr:cl}(h:sj l r c n cap g ao w p q i wr)(hb:co wr.heap.size wr wx):sj l r c n cap g ao w p q i wx:=
 ⟨(hb.block g (aah.1 h.box).1).trans h.box,(hb.block (g+1) (aah.1 h.res).1).trans h.res,(hb.block p (aah.1 h.o).1).trans h.o,h.blk.below hb,h.fK.trans (hb.mono h.fK.size),h.ap,h.le⟩
theorem sj.set {l:List (Bool×List Nat)}{wr:cl}(h:sj l r c n cap g ao w p q i wr)(hi:i<n)(hx:l[i]?=F (b,xs))(hm:Rd wr m xs)(hq:m.ownBlock≠F q)(hB:∀k,m.ownBlock=F k->g+2<=k):sj l r c n cap g ao w p q (i+1) ((wr.setCell ⟨q,i*2,Z⟩ (ca b)).setCell ⟨q,i*2+1,Z⟩ m):=by have E:Wr q Z wr ((wr.setCell ⟨q,i*2,Z⟩ (ca b)).setCell ⟨q,i*2+1,Z⟩ m):=(Wr.aD wr _ _).trans (Mv.refl _ _) (Wr.aD _ _ _);have k:=fun k (hk:k<wr.heap.size) (hne:k≠q)=>E.block k hk hne (by simp);exact⟨(k g (aah.1 h.box).1 h.ap.2.1.symm).trans h.box,(k (g+1) (aah.1 h.res).1 h.ap.2.2.symm).trans h.res,(k p (aah.1 h.o).1 h.ap.1.symm).trans h.o,h.blk.set hi hx hm hq hB,E.aO h.fK h.fK.size h.le.1 (fun k hk=>by cases hk),h.ap,h.le⟩
theorem Qqm (r c:Int)(l:List (Bool×List Nat))(hv:qa w v l)(hn:l.length<=1073741824)(hl:∀p∈l,p.2.length<=1073741824):Calls da 31 #[dj #[A G r,A G c,v]] w fun e w'=> ∃u,e=.returned (dj #[A G r,A G c,u])/\IWd w' u l/\co w.heap.size w w':=by
 have HV:=zq hv;obtain⟨ao,cap,rfl,h1,h2,-⟩:=hv;obtain⟨n,bu⟩:=xq l.length;rw[<-bu]at h1 hn ⊢;have bw:=zq bu;have HL:=zq hl;have fA:=Md n (by omega);clear hl bu h2;go_enter func31,ntmps31;go_upto_region 1 with fail;obtain⟨g,hg⟩:=xq w.heap.size;obtain⟨w0,hw0⟩:=xq ((w.alloc (O #[A G r,A G c,U ao n cap] 47)).alloc (O #[A G 0,A G 0,U Z 0 0] 47))
 have bp:Hid (co w.heap.size w w0):=by rw[hw0];exact(Qq w (O #[A G r,A G c,U ao n cap] 47)).trans ((Qq _ _).mono (Qq w (O #[A G r,A G c,U ao n cap] 47)).size)
 have hb0:w0.heap[g]?=F (O #[A G r,A G c,U ao n cap] 47 (0,0)):=by rw[hw0,hg];exact(Qq (w.alloc (O #[A G r,A G c,U ao n cap] 47)) _).block w.heap.size (by simp)|>.trans (aap w _)
 have hb1:w0.heap[g+1]?=F (O #[A G 0,A G 0,U Z 0 0] 47 (0,0)):=by rw[hw0,hg];have:=aap (w.alloc (O #[A G r,A G c,U ao n cap] 47)) (O #[A G 0,A G 0,U Z 0 0] 47);rw[aaV]at this;exact this
 rw[<-hw0,<-hg];have c0:w0.cell? ⟨g,0,Z⟩=F (A G r):=(aaj w0 _ _ _ _ _ hb0).trans rfl;have c1:w0.cell? ⟨g,1,Z⟩=F (A G c):=(aaj w0 _ _ _ _ _ hb0).trans rfl;have c2:w0.cell? ⟨g,2,Z⟩=F (U ao n cap):=(aaj w0 _ _ _ _ _ hb0).trans rfl;have HG:=zq hg;have uQ:=zq hb0;have yM:=zq hb1;clear hw0 hb0 hb1 hg;have iJ:g+1<w0.heap.size:=(aah.1 yM.o).1;go_cut [3] (fun pv wx=> ∃p q:Nat,pv=.pointer (F ⟨p,0,Z⟩)/\Hid (sj l r c n cap g ao w p q 0 wx))
 case first=>
  go_region_held3 (fun w'=>w'.cell? ⟨g,0,Z⟩=F (A G r)/\w'.cell? ⟨g,1,Z⟩=F (A G c)/\w'.cell? ⟨g,2,Z⟩=F (U ao n cap))
   (go_keep)
   (fail)
  ·go_wp2_with fail
   go_meet;refine⟨w0.heap.size+1,w0.heap.size,rfl,sj.start bp.o ((Qq w0 _).trans ((Qq _ _).mono (Qq w0 _).size)).drew uQ.o yM.o ?_ ((ny.made w0 n (g+2) l).below (Qq _ _).drew) (by omega) (by omega) (aab _) (by rw[HG.o];exact aab _)⟩;have:=aap (w0.alloc (O (madeCells #[ca ce,U Z 0 0] (n*2)) 62)) (O #[A G r,A G c,U (F ⟨w0.heap.size,0,Z⟩) n n] 47);rw[aaV]at this;exact this
  go_wp2_with fail;go_meet;refine⟨w0.heap.size,w0.heap.size+1,rfl,sj.start bp.o ((Qq w0 _).trans ((Qq _ _).mono (Qq w0 _).size)).drew uQ.o yM.o ((Qq _ _).drew.block _ (by simp)|>.trans (aap w0 _)) ?_ (by omega) (aab _) (by omega) (by rw[HG.o];exact aab _)⟩;have:=(ny.made (w0.alloc (O #[A G r,A G c,U (F ⟨w0.heap.size+1,0,Z⟩) n n] 47)) n (g+2) l).below (aaw _ _).drew;rw[aaV]at this;exact this
 case rest=>
  obtain⟨p,q,rfl,HST⟩:=hcut;clear uQ yM iJ c0 c1 c2 bp fA;go_wp2_with fail;go_loopw [4] (fun iv wr=> ∃i:Nat,iv=A G i/\i<=n/\sj l r c n cap g ao w p q i wr) (fun iv _=>n-(intOf iv).toNat)
  case atStart=>exact⟨0,rfl,aat _,HST.o⟩
  clear HST
  case round=>
   obtain⟨i,rfl,ir,hst⟩:=hrel;have HST:=zq hst;have k2:wr.cell? ⟨g,2,Z⟩=F (U ao n cap):=(aaj wr _ _ _ _ _ hst.box).trans rfl;by_cases hlt:i<n
   ·have kp:wr.cell? ⟨p,2,Z⟩=F (U (F ⟨q,0,Z⟩) n n):=(aaj wr _ _ _ _ _ hst.o).trans rfl
    obtain⟨e,he⟩:∃e,l[i]?=F e:=⟨_,aad (by rw[<-bw.o];exact hlt)⟩;obtain⟨b,xs⟩:=e;obtain⟨ao',cap',e',-,-,hc⟩:=HV.o
    cases e'
    obtain⟨ga,o,rfl,mX,hc2⟩:=hc (by rw[<-bw.o];omega);obtain⟨m,e0,e1,bQ⟩:=hc2 i _ he;replace e0:=(hst.fK.cell (p:=⟨ga,o+i*2,Z⟩) mX).trans e0;replace e1:=(hst.fK.cell (p:=⟨ga,o+i*2+1,Z⟩) mX).trans e1;replace bQ:=bQ.below hst.fK;obtain⟨mo,gI,rfl,-,-,-,-⟩:=bQ.2;simp only at e0 e1 bQ;have gj:=zq (bQ.below (aaw wr.heap.size wr).drew);have HE:=zq he;have fD:=HL.o _ (aai he);simp only at fD;obtain⟨cur,ix,l7,-⟩:=hst.blk
    have y0:(wr.cell? ⟨q,i*2,Z⟩).isSome=db:=by rw[aaj _ _ _ _ _ _ ix,ach (by omega)];rfl
    have y1:(wr.cell? ⟨q,i*2+1,Z⟩).isSome=db:=by rw[aaj _ _ _ _ _ _ ix,ach (by omega)];rfl
    have f0:wr.frozen? ⟨q,i*2,Z⟩=ce:=aax _ _ _ _ _ ix;have f1:wr.frozen? ⟨q,i*2+1,Z⟩=ce:=aax _ _ _ _ _ ix;have Y0:=zq y0;have Y1:=zq y1;have jX:=hst.blk.lt;have rR:=hst.ap.1;have EA:=hst.ap.2.1;have dR:(0:Int)<=(i:Int):=aaJ _
    have cB:(i:Int)<(n:Int):=by omega
    have AD:ga≠q:=by have:=hst.le.1;omega
    have AB:p≠q:=rR.symm;have zS:g≠q:=EA.symm;obtain⟨aE,hU⟩:=Qwj;have HU:=zq hU;clear hU he bQ ix y0 y1 hst hc hc2 l7;go_wp2_with fail
    go_region_held3 (fun w'=>w'.cell? ⟨p,2,Z⟩=F (U (F ⟨q,0,Z⟩) n n)/\w'.cell? ⟨g,2,Z⟩=F (U (F ⟨ga,o,Z⟩) n cap)/\w'.cell? ⟨ga,o+i*2,Z⟩=F (ca b)/\w'.cell? ⟨ga,o+i*2+1,Z⟩=F (U mo xs.length gI)/\w'.frozen? ⟨q,i*2,Z⟩=ce/\w'.frozen? ⟨q,i*2+1,Z⟩=ce/\w'.cell? ⟨q,i*2,Z⟩=F (aE q (i*2) w')/\w'.cell? ⟨q,i*2+1,Z⟩=F (aE q (i*2+1) w'))
     (first
      |(refine⟨?_,?_,?_,?_,?_,?_,HU.o _ _ _ (by exact Y0.o),HU.o _ _ _ (by exact Y1.o)⟩<;>go_keep)
      |exact⟨(Vg AB AB).trans (Qx b2 kp),(Vg zS zS).trans (Qx b2 k2),(Vg AD AD).trans (Qx b2 e0),(Vg AD AD).trans (Qx b2 e1),Uu.trans (Qt b2 jX f0),Uu.trans (Qt b2 jX f1),HU.o _ _ _ (Xw (Xw (Qm b2 Y0.o))),HU.o _ _ _ (Xw (Xw (Qm b2 Y1.o)))⟩
      |exact⟨Qx b2 kp,Qx b2 k2,Qx b2 e0,Qx b2 e1,Qt b2 jX f0,Qt b2 jX f1,HU.o _ _ _ (Qm b2 Y0.o),HU.o _ _ _ (Qm b2 Y1.o)⟩)
     ((go_at_call 63;refine(Ta b xs (by exact gj.o) fD).mono ?_;rintro e w2 ⟨uo,ep,rfl,q1,b2⟩))
    have h9:sj l r c n cap g (F ⟨ga,o,Z⟩) w p q (i+1) ((w2.setCell ⟨q,i*2,Z⟩ (ca b)).setCell ⟨q,i*2+1,Z⟩ (U uo xs.length ep)):=
     (HST.o.below ((aaw wr.heap.size wr).drew.trans b2)).set hlt HE.o q1.1 (fun e=>by have:=(q1.2 q e).1;change wr.heap.size<=q at this;omega) (fun k hk=>by have:=(q1.2 k hk).1;change wr.heap.size<=k at this;have:=(aah.1 HST.o.res).1;omega)
    have H9:=zq h9;clear h9 q1 b2 kp k2 e0 e1 f0 f1;go_wp2_with fail;have aq:=H9.o
    exact⟨⟨i+1,by go_num,by omega,aq⟩,by simp[intOf]<;>omega⟩
   have dD:i=n:=by omega
   have kp0:wr.cell? ⟨p,0,Z⟩=F (A G r):=(aaj wr _ _ _ _ _ hst.o).trans rfl;have kp1:wr.cell? ⟨p,1,Z⟩=F (A G c):=(aaj wr _ _ _ _ _ hst.o).trans rfl;have kp2:wr.cell? ⟨p,2,Z⟩=F (U (F ⟨q,0,Z⟩) n n):=(aaj wr _ _ _ _ _ hst.o).trans rfl;have r0:wr.cell? ⟨g+1,0,Z⟩=F (A G 0):=(aaj wr _ _ _ _ _ hst.res).trans rfl;have r1:wr.cell? ⟨g+1,1,Z⟩=F (A G 0):=(aaj wr _ _ _ _ _ hst.res).trans rfl;have r2:wr.cell? ⟨g+1,2,Z⟩=F (U Z 0 0):=(aaj wr _ _ _ _ _ hst.res).trans rfl;have f0:wr.frozen? ⟨g+1,0,Z⟩=ce:=aax _ _ _ _ _ hst.res;have f1:wr.frozen? ⟨g+1,1,Z⟩=ce:=aax _ _ _ _ _ hst.res;have f2:wr.frozen? ⟨g+1,2,Z⟩=ce:=aax _ _ _ _ _ hst.res;rw[dD]at HST;clear hst;go_wp2_with fail;have hwr:Wr (g+1) Z wr (((wr.setCell ⟨g+1,0,Z⟩ (A G r)).setCell ⟨g+1,1,Z⟩ (A G c)).setCell ⟨g+1,2,Z⟩ (U (F ⟨q,0,Z⟩) n n)):=((Wr.aD wr _ _).trans (Mv.refl _ _) (Wr.aD _ _ _)).trans (Mv.refl _ _) (Wr.aD _ _ _);have hab:=HST.o.blk.wr hwr HST.o.ap.2.2 (by omega);rw[bw.o]at hab;have hiw:=hab.iwd n (by rw[bw.o];exact aab _) (by unfold maxLen;omega);rw[<-bw.o]at hiw;refine aaD (abF rfl _ _ (g+1) 47 _ _ _ rfl (aao _ (g+1) 2 _ 47 _ (aao _ (g+1) 1 _ 47 _ (aao wr (g+1) 0 _ 47 _ HST.o.res))) underlying47 rfl (by kernel_rfl)) rfl ?_;exact⟨_,rfl,hiw,hwr.aO HST.o.fK HST.o.fK.size (by have:=HG.o;omega) (fun k hk=>by cases hk)⟩
abbrev FW:=(Bool×List Nat)×(Bool×List Nat)
def QWd (w:cl)(v:c9)(l:List FW):Prop:=∃ao cap,v=U ao l.length cap/\l.length<=cap/\cap<=maxLen/\(0<l.length-> ∃g o,ao=F ⟨g,o,Z⟩/\g<w.heap.size/\ ∀j p,l[j]?=F p-> ∃m m2,w.cell? ⟨g,o+j*4,Z⟩=F (ca p.1.1)/\w.cell? ⟨g,o+j*4+1,Z⟩=F m/\Rd w m p.1.2/\w.cell? ⟨g,o+j*4+2,Z⟩=F (ca p.2.1)/\w.cell? ⟨g,o+j*4+3,Z⟩=F m2/\Rd w m2 p.2.2)
def xY (w:cl)(v:c9)(l:List FW):Prop:=∃ao cap,v=U ao l.length cap/\l.length<=cap/\cap<=maxLen/\(0<l.length-> ∃g o,ao=F ⟨g,o,Z⟩/\g<w.heap.size/\ ∀j p,l[j]?=F p-> ∃m m2,w.cell? ⟨g,o+j*4,Z⟩=F (ca p.1.1)/\w.cell? ⟨g,o+j*4+1,Z⟩=F m/\ee w m p.1.2/\w.cell? ⟨g,o+j*4+2,Z⟩=F (ca p.2.1)/\w.cell? ⟨g,o+j*4+3,Z⟩=F m2/\ee w m2 p.2.2)
theorem xY.below {l:List FW}(h:xY w v l)(hb:co w.heap.size w w'):xY w' v l:=by obtain⟨ao,E,e,H,I,J⟩:=h;refine⟨ao,E,e,H,I,fun h0=> ?_⟩;obtain⟨g,o,rfl,a2,a3⟩:=J h0;refine⟨g,o,rfl,aal a2 hb.size,fun j p hj=> ?_⟩;obtain⟨m,m2,b1,b2,b3,b4,b5,b6⟩:=a3 j p hj;exact⟨m,m2,Qx hb b1,Qx hb b2,b3.below hb,Qx hb b4,Qx hb b5,b6.below hb⟩
def gO (l:List FW):List ((Bool×Nat)×(Bool×Nat)):=l.map fun p=>((p.1.1,val p.1.2),(p.2.1,val p.2.2))
theorem QWd.qrd {l:List FW}(h:QWd w v l)(hl:∀p∈l,p.1.2.length<=1048576/\p.2.2.length<=1048576):SK w v (gO l):=by
 obtain⟨ao,I,e,J,K,bi⟩:=h
 have E:(gO l).length=l.length:=by simp[gO]
 refine⟨ao,I,by rw[E];exact e,by rw[E];exact J,K,fun h0=> ?_⟩;obtain⟨g,o,rfl,a2,a3⟩:=bi (by rw[<-E];exact h0);refine⟨g,o,rfl,a2,fun j p hj=> ?_⟩;simp only[gO,aa9,abD]at hj;obtain⟨q,H,rfl⟩:=hj;obtain⟨m,m2,b1,b2,b3,b4,b5,b6⟩:=a3 j q H;exact⟨⟨m,q.1.2,b1,b2,b3,rfl,(hl q (aai H)).1⟩,⟨m2,q.2.2,b4,b5,b6,rfl,(hl q (aai H)).2⟩⟩
theorem Tryz.Lr:(Tryz.prog.info? 71).map (fun i=>(i.zero,i.size,i.bytes))=F (F (dj #[ca ce,U Z 0 0,ca ce,U Z 0 0]),4,64):=by kernel_rfl
theorem Qjs (n:Nat)(hn:n<=1099511627776):∀w:cl,(Instr.makeSlice 56 (A G (n:Int)) (A G (n:Int))).run da w=.ok (U (F ⟨w.heap.size,0,Z⟩) n n) (w.alloc (O (madeCells #[ca ce,U Z 0 0,ca ce,U Z 0 0] (n*4)) 71)):=by
 obtain⟨i0,K,E,H,I⟩:=aa0 Tryz.Lr;intro w
 have J:(i0.bytes:Int)*(n:Int)<=281474976710656:=by rw[I];omega
 have h:=run_make (P:=da) w 56 71 i0 (dj #[ca ce,U Z 0 0,ca ce,U Z 0 0]) underlying56 K E G G n n (by omega) (Int.le_refl _) J (by omega);simp only[acT]at h;rw[h,H];rfl
theorem Se {o:Nat}{b c:c9}{y:Option c9}(h:x.block≠q)(hy:w.cell? x=y):((((w.setCell ⟨q,o,Z⟩ a).setCell ⟨q,o+1,Z⟩ b).setCell ⟨q,o+2,Z⟩ c).setCell ⟨q,o+3,Z⟩ d).cell? x=y:=
 ((ab4 _ _ _ _ (fun e=>h (by rw[<-e]))).trans ((ab4 _ _ _ _ (fun e=>h (by rw[<-e]))).trans ((ab4 _ _ _ _ (fun e=>h (by rw[<-e]))).trans (ab4 _ _ _ _ (fun e=>h (by rw[<-e])))))).trans hy
theorem Nm {o:Nat}{b c:c9}(hy:w.frozen? x=ce):((((w.setCell ⟨q,o,Z⟩ a).setCell ⟨q,o+1,Z⟩ b).setCell ⟨q,o+2,Z⟩ c).setCell ⟨q,o+3,Z⟩ d).frozen? x=ce:=
 ((adH _ _ _ _).trans ((adH _ _ _ _).trans ((adH _ _ _ _).trans (adH _ _ _ _)))).trans hy
theorem S8 {o:Nat}{b c:c9}(h:(w.cell? x).isSome=db):(((((w.setCell ⟨q,o,Z⟩ a).setCell ⟨q,o+1,Z⟩ b).setCell ⟨q,o+2,Z⟩ c).setCell ⟨q,o+3,Z⟩ d).cell? x).isSome=db:=
 Xw (Xw (Xw (Xw h)))
def xI (w:cl)(q o:Nat)(a b c d:c9):cl:=(((w.setCell ⟨q,o,Z⟩ a).setCell ⟨q,o+1,Z⟩ b).setCell ⟨q,o+2,Z⟩ c).setCell ⟨q,o+3,Z⟩ d
theorem Qwz (w:cl)(q o:Nat)(a b c d:c9):Wr q Z w (xI w q o a b c d):=
 (((Wr.aD w _ _).trans (Mv.refl _ _) (Wr.aD _ _ _)).trans (Mv.refl _ _) (Wr.aD _ _ _)).trans (Mv.refl _ _) (Wr.aD _ _ _)
def nC (w:cl)(q n B:Nat)(l:List FW)(i:Nat):Prop:=∃cur:Array c9,w.heap[q]?=F (O cur 71 (0,0))/\cur.size=n*4/\ ∀j p,j<i->l[j]?=F p-> ∃m m2,cur[j*4]?=F (ca p.1.1)/\cur[j*4+1]?=F m/\cur[j*4+2]?=F (ca p.2.1)/\cur[j*4+3]?=F m2/\Rd w m p.1.2/\Rd w m2 p.2.2/\(∀k,m.ownBlock=F k->B<=k/\k≠q)/\ ∀k,m2.ownBlock=F k->B<=k/\k≠q
theorem nC.lt {l:List FW}(h:nC w q n B l i):q<w.heap.size:=by obtain⟨H,E,-⟩:=h;exact(aah.1 E).1
theorem nC.below {l:List FW}(h:nC w q n B l i)(hb:co w.heap.size w w'):nC w' q n B l i:=by obtain⟨E,H,I,J⟩:=h;refine⟨E,(hb.block q (aah.1 H).1).trans H,I,fun j p hj hp=> ?_⟩;obtain⟨m,m2,a1,a2,a3,a4,a5,a6,a7⟩:=J j p hj hp;exact⟨m,m2,a1,a2,a3,a4,a5.below hb,a6.below hb,a7⟩
theorem nC.wr {R:Nat}{l:List FW}(h:nC w q n B l i)(hw:Wr R Z w w')(hq:q≠R)(hR:R<B):nC w' q n B l i:=by obtain⟨E,H,I,J⟩:=h;refine⟨E,(hw.block q (aah.1 H).1 hq (by simp)).trans H,I,fun j p hj hp=> ?_⟩;obtain⟨m,m2,a1,a2,a3,a4,a5,a6,a7,a8⟩:=J j p hj hp;exact⟨m,m2,a1,a2,a3,a4,a5.wr hw (fun k hk=>⟨by have:=(a7 k hk).1;omega,by simp⟩),a6.wr hw (fun k hk=>⟨by have:=(a8 k hk).1;omega,by simp⟩),a7,a8⟩
theorem nC.made (w:cl)(n B:Nat)(l:List FW):nC (w.alloc (O (madeCells #[ca ce,U Z 0 0,ca ce,U Z 0 0] (n*4)) 71)) w.heap.size n B l 0:=
 ⟨_,aap w _,by simp[madeCells],fun j p hj _=>absurd hj (adM _)⟩
theorem nC.set {l:List FW}(h:nC w q n B l i)(hi:i<n){b2:Bool}{ys:List Nat}(hx:l[i]?=F ((b,xs),(b2,ys))){m2:c9}(hm:Rd w m xs)(gX:Rd w m2 ys)(hB:∀k,m.ownBlock=F k->B<=k/\k≠q)(lX:∀k,m2.ownBlock=F k->B<=k/\k≠q):nC (xI w q (i*4) (ca b) m (ca b2) m2) q n B l (i+1):=by
 obtain⟨K,H,I,J⟩:=h;have s0:=aao w q (i*4) _ 71 (ca b) H;have s1:=aao _ q (i*4+1) _ 71 m s0;have s2:=aao _ q (i*4+2) _ 71 (ca b2) s1;have s3:=aao _ q (i*4+3) _ 71 m2 s2;have E:=Qwz w q (i*4) (ca b) m (ca b2) m2;refine⟨_,s3,by simp[I],fun j p hj hp=> ?_⟩;by_cases hji:j=i
 ·subst hji
  rw[hx]at hp;cases hp;refine⟨m,m2,?_,?_,?_,?_,hm.wr E (fun k hk=>⟨(hB k hk).2,by simp⟩),gX.wr E (fun k hk=>⟨(lX k hk).2,by simp⟩),hB,lX⟩
  all_goals simp[abJ];omega
 obtain⟨m',m2',a1,a2,a3,a4,a5,a6,a7,a8⟩:=J j p (by omega) hp;refine⟨m',m2',?_,?_,?_,?_,a5.wr E (fun k hk=>⟨(a7 k hk).2,by simp⟩),a6.wr E (fun k hk=>⟨(a8 k hk).2,by simp⟩),a7,a8⟩
 ·rw[<-a1];simp[abJ];rw[if_neg (by omega),if_neg (by omega),if_neg (by omega),if_neg (by omega)]
 ·rw[<-a2];simp[abJ];rw[if_neg (by omega),if_neg (by omega),if_neg (by omega),if_neg (by omega)]
 ·rw[<-a3];simp[abJ];rw[if_neg (by omega),if_neg (by omega),if_neg (by omega),if_neg (by omega)]
 rw[<-a4];simp[abJ];rw[if_neg (by omega),if_neg (by omega),if_neg (by omega),if_neg (by omega)]
theorem nC.qwd {l:List FW}(h:nC w q n B l l.length)(m:Nat)(hm:l.length<=m)(hmx:m<=maxLen):QWd w (U (F ⟨q,0,Z⟩) l.length m) l:=by
 have I:=h.lt;obtain⟨J,E,K,H⟩:=h;refine⟨_,_,rfl,hm,hmx,fun h0=>⟨q,0,rfl,I,fun j p hp=> ?_⟩⟩;obtain⟨m,m2,a1,a2,a3,a4,a5,a6,-⟩:=H j p (aaf.1 hp).1 hp
 refine⟨m,m2,?_,?_,a5,?_,?_,a6⟩<;>rw[aaX,aaj _ _ _ _ _ _ E]<;>assumption
structure sK (l:List FW) (r c:Int) (n cap g:Nat) (ao:Option Addr) (w:cl) (p q i:Nat) (wr:cl):Prop where
 box:wr.heap[g]?=F (O #[A G r,A G c,U ao n cap] 58 (0,0))
 res:wr.heap[g+1]?=F (O #[A G 0,A G 0,U Z 0 0] 58 (0,0))
 o:wr.heap[p]?=F (O #[A G r,A G c,U (F ⟨q,0,Z⟩) n n] 58 (0,0))
 blk:nC wr q n (g+2) l i
 fK:co w.heap.size w wr
 ap:q≠p/\q≠g/\q≠g+1
 le:w.heap.size<=q/\w.heap.size<=g/\p≠g+1/\w.heap.size<=p
theorem sK.start {l:List FW}{w0:cl}(hb0:co w.heap.size w w0)(hb:co w0.heap.size w0 wx)
  (h0:w0.heap[g]?=F (O #[A G r,A G c,U ao n cap] 58 (0,0))) (h1:w0.heap[g+1]?=F (O #[A G 0,A G 0,U Z 0 0] 58 (0,0)))
  (out:wx.heap[p]?=F (O #[A G r,A G c,U (F ⟨q,0,Z⟩) n n] 58 (0,0))) (blk:nC wx q n (g+2) l 0) (rR:q≠p) (hp:w0.heap.size<=p) (hq:w0.heap.size<=q) (hg:w.heap.size<=g):sK l r c n cap g ao w p q 0 wx:=by
 have l0:=(aah.1 h0).1;have l1:=(aah.1 h1).1;have:=hb0.size;exact⟨(hb.block g l0).trans h0,(hb.block (g+1) l1).trans h1,out,blk,hb0.trans (hb.mono hb0.size),⟨rR,by omega,by omega⟩,⟨by omega,hg,by omega,by omega⟩⟩
theorem sK.below {l:List FW}{wr:cl}(h:sK l r c n cap g ao w p q i wr)(hb:co wr.heap.size wr wx):sK l r c n cap g ao w p q i wx:=
 ⟨(hb.block g (aah.1 h.box).1).trans h.box,(hb.block (g+1) (aah.1 h.res).1).trans h.res,(hb.block p (aah.1 h.o).1).trans h.o,h.blk.below hb,h.fK.trans (hb.mono h.fK.size),h.ap,h.le⟩
theorem sK.set {l:List FW}{wr:cl}(h:sK l r c n cap g ao w p q i wr)(hi:i<n){b2:Bool}{ys:List Nat}(hx:l[i]?=F ((b,xs),(b2,ys))){m2:c9}(hm:Rd wr m xs)(gX:Rd wr m2 ys)(hB:∀k,m.ownBlock=F k->g+2<=k/\k≠q)(lX:∀k,m2.ownBlock=F k->g+2<=k/\k≠q):sK l r c n cap g ao w p q (i+1) (xI wr q (i*4) (ca b) m (ca b2) m2):=by have E:=Qwz wr q (i*4) (ca b) m (ca b2) m2;have k:=fun k (hk:k<wr.heap.size) (hne:k≠q)=>E.block k hk hne (by simp);exact⟨(k g (aah.1 h.box).1 h.ap.2.1.symm).trans h.box,(k (g+1) (aah.1 h.res).1 h.ap.2.2.symm).trans h.res,(k p (aah.1 h.o).1 h.ap.1.symm).trans h.o,h.blk.set hi hx hm gX hB lX,E.aO h.fK h.fK.size h.le.1 (fun k hk=>by cases hk),h.ap,h.le⟩
theorem Bz (r c:Int)(l:List FW)(hv:xY w v l)(hn:l.length<=1073741824)(hl:∀p∈l,p.1.2.length<=1073741824/\p.2.2.length<=1073741824):Calls da 29 #[dj #[A G r,A G c,v]] w fun e w'=> ∃u,e=.returned (dj #[A G r,A G c,u])/\QWd w' u l/\co w.heap.size w w':=by
 have HV:=zq hv;obtain⟨ao,cap,rfl,h1,h2,-⟩:=hv;obtain⟨n,bu⟩:=xq l.length;rw[<-bu]at h1 hn ⊢;have bw:=zq bu;have HL:=zq hl;have fA:=Qjs n (by omega);clear hl bu h2;go_enter func29,ntmps29;go_upto_region 1 with fail;obtain⟨g,hg⟩:=xq w.heap.size;obtain⟨w0,hw0⟩:=xq ((w.alloc (O #[A G r,A G c,U ao n cap] 58)).alloc (O #[A G 0,A G 0,U Z 0 0] 58))
 have bp:Hid (co w.heap.size w w0):=by rw[hw0];exact(Qq w (O #[A G r,A G c,U ao n cap] 58)).trans ((Qq _ _).mono (Qq w (O #[A G r,A G c,U ao n cap] 58)).size)
 have hb0:w0.heap[g]?=F (O #[A G r,A G c,U ao n cap] 58 (0,0)):=by rw[hw0,hg];exact(Qq (w.alloc (O #[A G r,A G c,U ao n cap] 58)) _).block w.heap.size (by simp)|>.trans (aap w _)
 have hb1:w0.heap[g+1]?=F (O #[A G 0,A G 0,U Z 0 0] 58 (0,0)):=by rw[hw0,hg];have:=aap (w.alloc (O #[A G r,A G c,U ao n cap] 58)) (O #[A G 0,A G 0,U Z 0 0] 58);rw[aaV]at this;exact this
 rw[<-hw0,<-hg];have c0:w0.cell? ⟨g,0,Z⟩=F (A G r):=(aaj w0 _ _ _ _ _ hb0).trans rfl;have c1:w0.cell? ⟨g,1,Z⟩=F (A G c):=(aaj w0 _ _ _ _ _ hb0).trans rfl;have c2:w0.cell? ⟨g,2,Z⟩=F (U ao n cap):=(aaj w0 _ _ _ _ _ hb0).trans rfl;have HG:=zq hg;have uQ:=zq hb0;have yM:=zq hb1;clear hw0 hb0 hb1 hg;have iJ:g+1<w0.heap.size:=(aah.1 yM.o).1;go_cut [3] (fun pv wx=> ∃p q:Nat,pv=.pointer (F ⟨p,0,Z⟩)/\Hid (sK l r c n cap g ao w p q 0 wx))
 case first=>
  go_region_held3 (fun w'=>w'.cell? ⟨g,0,Z⟩=F (A G r)/\w'.cell? ⟨g,1,Z⟩=F (A G c)/\w'.cell? ⟨g,2,Z⟩=F (U ao n cap))
   (go_keep)
   (fail)
  ·go_wp2_with fail
   go_meet;refine⟨w0.heap.size+1,w0.heap.size,rfl,sK.start bp.o ((Qq w0 _).trans ((Qq _ _).mono (Qq w0 _).size)).drew uQ.o yM.o ?_ ((nC.made w0 n (g+2) l).below (Qq _ _).drew) (by omega) (by omega) (aab _) (by rw[HG.o];exact aab _)⟩;have:=aap (w0.alloc (O (madeCells #[ca ce,U Z 0 0,ca ce,U Z 0 0] (n*4)) 71)) (O #[A G r,A G c,U (F ⟨w0.heap.size,0,Z⟩) n n] 58);rw[aaV]at this;exact this
  go_wp2_with fail;go_meet;refine⟨w0.heap.size,w0.heap.size+1,rfl,sK.start bp.o ((Qq w0 _).trans ((Qq _ _).mono (Qq w0 _).size)).drew uQ.o yM.o ((Qq _ _).drew.block _ (by simp)|>.trans (aap w0 _)) ?_ (by omega) (aab _) (by omega) (by rw[HG.o];exact aab _)⟩;have:=(nC.made (w0.alloc (O #[A G r,A G c,U (F ⟨w0.heap.size+1,0,Z⟩) n n] 58)) n (g+2) l).below (aaw _ _).drew;rw[aaV]at this;exact this
 case rest=>
  obtain⟨p,q,rfl,HST⟩:=hcut;clear uQ yM iJ c0 c1 c2 bp fA;go_wp2_with fail;go_loopw [4] (fun iv wr=> ∃i:Nat,iv=A G i/\i<=n/\sK l r c n cap g ao w p q i wr) (fun iv _=>n-(intOf iv).toNat)
  case atStart=>exact⟨0,rfl,aat _,HST.o⟩
  clear HST
  case round=>
   obtain⟨i,rfl,ir,hst⟩:=hrel;have HST:=zq hst;have k2:wr.cell? ⟨g,2,Z⟩=F (U ao n cap):=(aaj wr _ _ _ _ _ hst.box).trans rfl;by_cases hlt:i<n
   ·have kp:wr.cell? ⟨p,2,Z⟩=F (U (F ⟨q,0,Z⟩) n n):=(aaj wr _ _ _ _ _ hst.o).trans rfl
    obtain⟨e,he⟩:∃e,l[i]?=F e:=⟨_,aad (by rw[<-bw.o];exact hlt)⟩;obtain⟨⟨b,xs⟩,⟨b2',ys⟩⟩:=e;obtain⟨ao',cap',e',-,-,hc⟩:=HV.o
    cases e'
    obtain⟨ga,o,rfl,mX,hc2⟩:=hc (by rw[<-bw.o];omega);obtain⟨m,m2,e0,e1,bQ,e2,e3,cO⟩:=hc2 i _ he;replace e0:=(hst.fK.cell (p:=⟨ga,o+i*4,Z⟩) mX).trans e0;replace e1:=(hst.fK.cell (p:=⟨ga,o+i*4+1,Z⟩) mX).trans e1;replace e2:=(hst.fK.cell (p:=⟨ga,o+i*4+2,Z⟩) mX).trans e2;replace e3:=(hst.fK.cell (p:=⟨ga,o+i*4+3,Z⟩) mX).trans e3;replace bQ:=bQ.below hst.fK;replace cO:=cO.below hst.fK;obtain⟨mo,gI,rfl,-,-,-,-⟩:=bQ.2;obtain⟨EW,jZ,rfl,-,-,-,-⟩:=cO.2;simp only at e0 e1 e2 e3 bQ cO;have gj:=zq (bQ.below (aaw wr.heap.size wr).drew);have ve:=zq (cO.below (aaw wr.heap.size wr).drew);have HE:=zq he;obtain⟨fD,pJ⟩:=HL.o _ (aai he);simp only at fD pJ;obtain⟨cur,ix,l7,-⟩:=hst.blk
    have Y0:Hid ((wr.cell? ⟨q,i*4,Z⟩).isSome=db):=by show _=_;rw[aaj _ _ _ _ _ _ ix,ach (by omega)];rfl
    have Y1:Hid ((wr.cell? ⟨q,i*4+1,Z⟩).isSome=db):=by show _=_;rw[aaj _ _ _ _ _ _ ix,ach (by omega)];rfl
    have Y2:Hid ((wr.cell? ⟨q,i*4+2,Z⟩).isSome=db):=by show _=_;rw[aaj _ _ _ _ _ _ ix,ach (by omega)];rfl
    have Y3:Hid ((wr.cell? ⟨q,i*4+3,Z⟩).isSome=db):=by show _=_;rw[aaj _ _ _ _ _ _ ix,ach (by omega)];rfl
    have f0:wr.frozen? ⟨q,i*4,Z⟩=ce:=aax _ _ _ _ _ ix;have f1:wr.frozen? ⟨q,i*4+1,Z⟩=ce:=aax _ _ _ _ _ ix;have f2:wr.frozen? ⟨q,i*4+2,Z⟩=ce:=aax _ _ _ _ _ ix;have f3:wr.frozen? ⟨q,i*4+3,Z⟩=ce:=aax _ _ _ _ _ ix;have jX:=hst.blk.lt;have rR:=hst.ap.1;have EA:=hst.ap.2.1;have dR:(0:Int)<=(i:Int):=aaJ _
    have cB:(i:Int)<(n:Int):=by omega
    have AD:ga≠q:=by have:=hst.le.1;omega
    have AB:p≠q:=rR.symm;have zS:g≠q:=EA.symm;have aiJ:g+2<=wr.heap.size:=(aah.1 hst.res).1;obtain⟨aE,hU⟩:=Qwj;have HU:=zq hU;have bd:co wr.heap.size wr wr.drew:=(aaw wr.heap.size wr).drew;have KP:=zq (Qx bd kp);have K2:=zq (Qx bd k2);have E0:=zq (Qx bd e0);have E1:=zq (Qx bd e1);have E2:=zq (Qx bd e2);have E3:=zq (Qx bd e3);have F0:=zq (Qt bd jX f0);have F1:=zq (Qt bd jX f1);have F2:=zq (Qt bd jX f2);have F3:=zq (Qt bd jX f3);replace Y0:=zq (Qm bd Y0.o);replace Y1:=zq (Qm bd Y1.o);replace Y2:=zq (Qm bd Y2.o);replace Y3:=zq (Qm bd Y3.o);have fh:q<wr.drew.heap.size:=jX;clear hU he bQ cO ix hst hc hc2 l7 bd;go_wp2_with fail
    go_region_held3 (fun w'=>w'.cell? ⟨p,2,Z⟩=F (U (F ⟨q,0,Z⟩) n n)/\w'.cell? ⟨g,2,Z⟩=F (U (F ⟨ga,o,Z⟩) n cap)/\w'.cell? ⟨ga,o+i*4,Z⟩=F (ca b)/\w'.cell? ⟨ga,o+i*4+1,Z⟩=F (U mo xs.length gI)/\w'.cell? ⟨ga,o+i*4+2,Z⟩=F (ca b2')/\w'.cell? ⟨ga,o+i*4+3,Z⟩=F (U EW ys.length jZ)/\w'.frozen? ⟨q,i*4,Z⟩=ce/\w'.frozen? ⟨q,i*4+1,Z⟩=ce/\w'.frozen? ⟨q,i*4+2,Z⟩=ce/\w'.frozen? ⟨q,i*4+3,Z⟩=ce/\w'.cell? ⟨q,i*4,Z⟩=F (aE q (i*4) w')/\w'.cell? ⟨q,i*4+1,Z⟩=F (aE q (i*4+1) w')/\w'.cell? ⟨q,i*4+2,Z⟩=F (aE q (i*4+2) w')/\w'.cell? ⟨q,i*4+3,Z⟩=F (aE q (i*4+3) w'))
     (first
      |(have hb3:=b3;with_reducible exact⟨Qx b3 (Qx b2 KP.o),Qx b3 (Qx b2 K2.o),Qx b3 (Qx b2 E0.o),Qx b3 (Qx b2 E1.o),Qx b3 (Qx b2 E2.o),Qx b3 (Qx b2 E3.o),Qt b3 (aal fh b2.size) (Qt b2 fh F0.o),Qt b3 (aal fh b2.size) (Qt b2 fh F1.o),Qt b3 (aal fh b2.size) (Qt b2 fh F2.o),Qt b3 (aal fh b2.size) (Qt b2 fh F3.o),HU.o _ _ _ (Qm b3 (Qm b2 Y0.o)),HU.o _ _ _ (Qm b3 (Qm b2 Y1.o)),HU.o _ _ _ (Qm b3 (Qm b2 Y2.o)),HU.o _ _ _ (Qm b3 (Qm b2 Y3.o))⟩)
      |(have hb3:=b3;with_reducible exact⟨Se AB (Qx b3 (Qx b2 KP.o)),Se zS (Qx b3 (Qx b2 K2.o)),Se AD (Qx b3 (Qx b2 E0.o)),Se AD (Qx b3 (Qx b2 E1.o)),Se AD (Qx b3 (Qx b2 E2.o)),Se AD (Qx b3 (Qx b2 E3.o)),Nm (Qt b3 (aal fh b2.size) (Qt b2 fh F0.o)),Nm (Qt b3 (aal fh b2.size) (Qt b2 fh F1.o)),Nm (Qt b3 (aal fh b2.size) (Qt b2 fh F2.o)),Nm (Qt b3 (aal fh b2.size) (Qt b2 fh F3.o)),HU.o _ _ _ (S8 (Qm b3 (Qm b2 Y0.o))),HU.o _ _ _ (S8 (Qm b3 (Qm b2 Y1.o))),HU.o _ _ _ (S8 (Qm b3 (Qm b2 Y2.o))),HU.o _ _ _ (S8 (Qm b3 (Qm b2 Y3.o)))⟩)
      |(have hb2:=b2;with_reducible exact⟨Qx b2 KP.o,Qx b2 K2.o,Qx b2 E0.o,Qx b2 E1.o,Qx b2 E2.o,Qx b2 E3.o,Qt b2 fh F0.o,Qt b2 fh F1.o,Qt b2 fh F2.o,Qt b2 fh F3.o,HU.o _ _ _ (Qm b2 Y0.o),HU.o _ _ _ (Qm b2 Y1.o),HU.o _ _ _ (Qm b2 Y2.o),HU.o _ _ _ (Qm b2 Y3.o)⟩)
      |exact⟨KP.o,K2.o,E0.o,E1.o,E2.o,E3.o,F0.o,F1.o,F2.o,F3.o,HU.o _ _ _ Y0.o,HU.o _ _ _ Y1.o,HU.o _ _ _ Y2.o,HU.o _ _ _ Y3.o⟩)
     (first
      |(have l7:=b2;go_at_call 63;refine(Ta b2' ys (ve.o.below b2) pJ).mono ?_;rintro e w3 ⟨uo2,aac,rfl,q2,b3⟩)
      |(go_at_call 63;refine(Ta b xs gj.o fD).mono ?_;rintro e w2 ⟨uo,ep,rfl,q1,b2⟩))
    have h9:sK l r c n cap g (F ⟨ga,o,Z⟩) w p q (i+1) (xI w3 q (i*4) (ca b) (U uo xs.length ep) (ca b2') (U uo2 ys.length aac)):=
     (HST.o.below ((aaw wr.heap.size wr).drew.trans (b2.trans (b3.mono b2.size)))).set hlt HE.o (q1.1.below b3) q2.1 (fun k hk=>by have:=(q1.2 k hk).1;change wr.heap.size<=k at this;omega) (fun k hk=>by have:=(q2.2 k hk).1;have:=b2.size;change wr.heap.size<=_ at this;omega)
    have H9:=zq h9;unfold xI at H9;clear h9 q1 q2 b2 b3 kp k2 e0 e1 e2 e3 f0 f1 f2 f3;go_wp2_with fail;have aq:=H9.o
    exact⟨⟨i+1,by go_num,by omega,aq⟩,by simp[intOf]<;>omega⟩
   have dD:i=n:=by omega
   have kp0:wr.cell? ⟨p,0,Z⟩=F (A G r):=(aaj wr _ _ _ _ _ hst.o).trans rfl;have kp1:wr.cell? ⟨p,1,Z⟩=F (A G c):=(aaj wr _ _ _ _ _ hst.o).trans rfl;have kp2:wr.cell? ⟨p,2,Z⟩=F (U (F ⟨q,0,Z⟩) n n):=(aaj wr _ _ _ _ _ hst.o).trans rfl;have r0:wr.cell? ⟨g+1,0,Z⟩=F (A G 0):=(aaj wr _ _ _ _ _ hst.res).trans rfl;have r1:wr.cell? ⟨g+1,1,Z⟩=F (A G 0):=(aaj wr _ _ _ _ _ hst.res).trans rfl;have r2:wr.cell? ⟨g+1,2,Z⟩=F (U Z 0 0):=(aaj wr _ _ _ _ _ hst.res).trans rfl;have f0:wr.frozen? ⟨g+1,0,Z⟩=ce:=aax _ _ _ _ _ hst.res;have f1:wr.frozen? ⟨g+1,1,Z⟩=ce:=aax _ _ _ _ _ hst.res;have f2:wr.frozen? ⟨g+1,2,Z⟩=ce:=aax _ _ _ _ _ hst.res;rw[dD]at HST;clear hst;go_wp2_with fail;have hwr:Wr (g+1) Z wr (((wr.setCell ⟨g+1,0,Z⟩ (A G r)).setCell ⟨g+1,1,Z⟩ (A G c)).setCell ⟨g+1,2,Z⟩ (U (F ⟨q,0,Z⟩) n n)):=((Wr.aD wr _ _).trans (Mv.refl _ _) (Wr.aD _ _ _)).trans (Mv.refl _ _) (Wr.aD _ _ _);have hab:=HST.o.blk.wr hwr HST.o.ap.2.2 (by omega);rw[bw.o]at hab;have hqw:=hab.qwd n (by rw[bw.o];exact aab _) (by unfold maxLen;omega);rw[<-bw.o]at hqw;refine aaD (abF rfl _ _ (g+1) 58 _ _ _ rfl (aao _ (g+1) 2 _ 58 _ (aao _ (g+1) 1 _ 58 _ (aao wr (g+1) 0 _ 58 _ HST.o.res))) underlying58 rfl (by kernel_rfl)) rfl ?_;exact⟨_,rfl,hqw,hwr.aO HST.o.fK HST.o.fK.size (by have:=HG.o;omega) (fun k hk=>by cases hk)⟩
end Go.Proofs.YtgfmiladfeoldaaGreatDoor
