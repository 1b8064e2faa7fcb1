import Derived.Test.YtgfmiladfeoldaaGreatDoorPk20
import Derived.Test.YtgfmiladfeoldaaGreatDoorPk21
set_option linter.unusedSimpArgs false
set_option linter.unusedVariables false
set_option maxRecDepth 100000
set_option maxHeartbeats 16000000
open Go.Proofs.Tryz
open Option renaming none->Z,some->F
open Go.Value renaming slice->U,int->A,bool->da,string->de,pointer->dl,tuple->eg
open Bool renaming false->ca,true->ce
open Go.IntKind renaming i64->G,u8->du
open Go renaming World->cl,Value->c9,Calls->ef
open Go.RowKit renaming Below->co,Hid->db
open Go.Proofs.Tryz renaming underlying88->dj,prog->dk,underlying9->ex,ntmps86->eS
open Go.Obj renaming cells->O
open Go.Ending renaming returned->dq
namespace aj
theorem dN {α β:Type}(a:α)(s:St)(f:α->St->PR β):(ret a s).bind f=f a s:=rfl
end aj
namespace Go.Proofs.YtgfmiladfeoldaaGreatDoor
open Go.RowKit aw ar
variable {B R c0 col d i j q:Nat} {nv rv sv tv vv:c9} {w w0 w5:cl}
theorem Qpx {L:List Tok}{ns:List Nv}{vs:List Nat}{dx:List aF.Op}{want pw:Bool}(h:WM w R tv L i nv vv sv ns vs dx want pw d)
  (op n:Nat) (text:Bytes) (hop:op<=255) (hn:n<=vs.length) (hb1:vs.length<=134217728) (hb2:ns.length<=134217728):
  ef dk 137 #[dl (F ⟨R,0,Z⟩),A G op,de ⟨text.toArray⟩,A G n] w (qg R tv L i ns vs dx want pw d op n text w nv vv sv):=by
 cases n with
 |zero=>
  by_cases hv:vv.ownBlock=Z
  ·exact Qhx h op text hop hv hb1 hb2
  exact Qhz h op text hop hv hb1 hb2
 |succ n=>exact Qdn h op (n+1) text hop hn (Nat.succ_pos n) hb1 hb2
def fP (w:cl)(R:Nat)(tv:c9)(L:List Tok)(i:Nat)(x:aF.RW):Prop:=
 ∃nv vv sv ns,WM w R tv L i nv vv sv ns (aj.Yx x.vals.reverse 0) x.stack.reverse x.want x.pw x.depth/\ns.map Prod.fst=aj.Vs x.vals.reverse 0
theorem fP.below {w':cl}{L:List Tok}{x:aF.RW}(h:fP w R tv L i x)(hb:co w.heap.size w w'):fP w' R tv L i x:=by obtain⟨nv,vv,sv,ns,E,H⟩:=h;exact⟨nv,vv,sv,ns,E.below hb,H⟩
theorem fP.lt {L:List Tok}{x:aF.RW}(h:fP w R tv L i x):R<w.heap.size:=by obtain⟨_,_,_,_,E,_⟩:=h;exact E.lt
theorem Dd:∀(l:List aj.Ex) (o:Nat),(aj.Vs l o).length=aj.Zq l
 | [],_=>rfl
 |a::l,o=>by show (a.flat o++aj.Vs l (o+a.size)).length=a.size+aj.Zq l;rw[aag,aj.Jl,Dd l]
theorem Di:∀l:List aj.Ex,l.length<=aj.Zq l
 | []=>aab _
 |a::l=>by have:=aj.Vk a;have:=Di l;show l.length+1<=a.size+aj.Zq l;omega
structure IsNode (e:aj.Ex) (op:Nat) (text:Bytes) (es:List aj.Ex):Prop where
 flat:∀o,e.flat o=aj.Vs es o++[⟨op,text,aj.Yx es o⟩]
 size:e.size=aj.Zq es+1
theorem Qhh (m:aj.ey):IsNode (.mat m) 3 (aj.fj m) []:=⟨fun _=>rfl,rfl⟩
theorem Qhm (l:List (List Nat)):IsNode (.cpx l) 13 (aj.iT l) []:=⟨fun _=>rfl,rfl⟩
def yz (Bs:List (Nat×Option Obj))(w:cl)(R:Nat)(nv vv sv:c9):Prop:=
 ∀p∈Bs,R<p.1/\p.1<w.heap.size/\nv.ownBlock≠F p.1/\vv.ownBlock≠F p.1/\sv.ownBlock≠F p.1/\w.heap[p.1]?=p.2
theorem yz.turn {Bs:List (Nat×Option Obj)}{w':cl}{eJ ri sv':c9}(h:yz Bs w R nv vv sv)(hz:w.heap.size<=w'.heap.size)(hf:FrW R w w' nv vv sv eJ ri sv'):yz Bs w' R eJ ri sv':=fun p hp=>by obtain⟨a,b,c,d,e,f⟩:=h p hp;obtain⟨y1,y2,y3,y4⟩:=hf p.1 a b c d e;exact⟨a,aal b hz,y2,y3,y4,y1.trans f⟩
def SP (Bs:List (Nat×Option Obj))(w:cl)(R:Nat)(tv:c9)(L:List Tok)(i:Nat)(x:aF.RW):Prop:=
 ∃nv vv sv ns,WM w R tv L i nv vv sv ns (aj.Yx x.vals.reverse 0) x.stack.reverse x.want x.pw x.depth/\ns.map Prod.fst=aj.Vs x.vals.reverse 0/\yz Bs w R nv vv sv
theorem SP.wri {Bs:List (Nat×Option Obj)}{L:List Tok}{x:aF.RW}(h:SP Bs w R tv L i x):fP w R tv L i x:=by obtain⟨nv,vv,sv,ns,E,H,-⟩:=h;exact⟨nv,vv,sv,ns,E,H⟩
theorem fP.wrx {L:List Tok}{x:aF.RW}(h:fP w R tv L i x):SP [] w R tv L i x:=by obtain⟨nv,vv,sv,ns,E,H⟩:=h;exact⟨nv,vv,sv,ns,E,H,fun _ h=>nomatch h⟩
theorem Qf4 {Bs:List (Nat×Option Obj)}{L:List Tok}{x:aF.RW}(h:SP Bs w R tv L i x){V es:List aj.Ex}{e:aj.Ex}{op:Nat}{text:Bytes}(hv:x.vals=es.reverse++V)(hn:IsNode e op text es)
  (hb:aj.Zq x.vals.reverse<=134217728) (hop:op<=255):
  ef dk 137 #[dl (F ⟨R,0,Z⟩),A G op,de ⟨text.toArray⟩,A G (es.length:Nat)] w fun e' w'=>e'=dq (eg #[])/\co R w w'/\SP Bs w' R tv L i {x with vals:=e::V}:=by
 obtain⟨nv,vv,sv,ns,am,J,T⟩:=h
 have E:x.vals.reverse=V.reverse++es:=by rw[hv,List.reverse_append,List.reverse_reverse]
 have hl:=Di x.vals.reverse
 have bi:ns.length=aj.Zq x.vals.reverse:=by rw[<-Dd x.vals.reverse 0,<-J,aas]
 have aE:(aj.Yx x.vals.reverse 0).length=x.vals.reverse.length:=aj.Wn _ _
 have I:(aj.Yx x.vals.reverse 0).length=V.length+es.length:=by rw[aE,E,aag,acA]
 refine(Qpx am op es.length text hop (by omega) (by omega) (by omega)).mono fun e' w' hp=> ?_;obtain⟨rfl,H,eJ,ri,sv',kv,h3,K⟩:=hp;refine⟨rfl,H,eJ,ri,sv',ns++[(⟨op,text,(aj.Yx x.vals.reverse 0).drop ((aj.Yx x.vals.reverse 0).length-es.length)⟩,kv)],?_,?_,T.turn H.size K⟩
 rotate_left
 ·show (ns++[_]).map Prod.fst=aj.Vs (e::V).reverse 0
  rw[abl,J,List.reverse_cons,aj.My,E,aj.My,aaW];congr 1
  have e1:aj.Vs [e] (0+aj.Zq V.reverse)=e.flat (0+aj.Zq V.reverse):=by simp[aj.Vs]
  rw[e1,hn.flat];congr 1;rw[aj.Ty]
  have e2:(aj.Yx V.reverse 0).length=V.length:=by rw[aj.Wn,acA]
  have e3:(aj.Yx V.reverse 0++aj.Yx es (0+aj.Zq V.reverse)).length-es.length=V.length:=by rw[aag,e2,aj.Wn];omega
  rw[e3,List.drop_left' e2];rfl
 show WM w' R tv L i eJ ri sv' _ (aj.Yx (e::V).reverse 0) x.stack.reverse x.want x.pw x.depth
 have e4:aj.Yx (e::V).reverse 0=(aj.Yx x.vals.reverse 0).take ((aj.Yx x.vals.reverse 0).length-es.length)++[ns.length]:=by
  rw[List.reverse_cons,aj.Ty,I,abW,E,aj.Ty,List.take_left' (by rw[aj.Wn,acA])];congr 1
  have e5:aj.Yx [e] (0+aj.Zq V.reverse)=[0+aj.Zq V.reverse+e.size-1]:=by simp[aj.Yx]
  rw[e5,hn.size,bi,E,aj.Cp];congr 1;omega
 rw[e4];exact h3
theorem Qd1 (R:Nat)(tv:c9)(L:List Tok)(i:Nat)(x:aF.RW)(w:cl)(h:fP w R tv L i x){V es:List aj.Ex}{e:aj.Ex}{op:Nat}{text:Bytes}(hv:x.vals=es.reverse++V)(hn:IsNode e op text es)
  (hb:aj.Zq x.vals.reverse<=134217728) (hop:op<=255):
  ef dk 137 #[dl (F ⟨R,0,Z⟩),A G op,de ⟨text.toArray⟩,A G (es.length:Nat)] w fun e' w'=>e'=dq (eg #[])/\co R w w'/\fP w' R tv L i {x with vals:=e::V}:=
 (Qf4 h.wrx hv hn hb hop).mono fun e' w' hp=>⟨hp.1,hp.2.1,hp.2.2.wri⟩
theorem fP.set {L:List Tok}{x:aF.RW}(h:fP w R tv L i x)(o:Nat)(u:c9){i':Nat}{want' pw':Bool}{d':Nat}
  (hc:∀nv vv sv,(#[tv,A G i,nv,vv,sv,da x.want,da x.pw,A G (x.depth:Nat)]:Array c9).setIfInBounds o u= #[tv,A G i',nv,vv,sv,da want',da pw',A G d']) {ts':List Tok}:
  fP (w.setCell ⟨R,o,Z⟩ u) R tv L i' {x with ts:=ts',want:=want',pw:=pw',depth:=d'}:=by
 obtain⟨nv,vv,sv,ns,E,H⟩:=h;exact⟨nv,vv,sv,ns,E.set o u (hc nv vv sv),H⟩
theorem fP.cells {L:List Tok}{x:aF.RW}(h:fP w R tv L i x):w.cell? ⟨R,0,Z⟩=F tv/\w.cell? ⟨R,1,Z⟩=F (A G i)/\w.cell? ⟨R,5,Z⟩=F (da x.want)/\w.cell? ⟨R,6,Z⟩=F (da x.pw)/\w.cell? ⟨R,7,Z⟩=F (A G (x.depth:Nat))/\oT w R tv L:=by obtain⟨nv,vv,sv,ns,E,H⟩:=h;obtain⟨c0,c1,c2,c3,c4,c5,c6,c7⟩:=E.cells;exact⟨c0,c1,c5,c6,c7,E.tks⟩
theorem fP.iH {L:List Tok}{x:aF.RW}(h:fP w R tv L i x)(o:Nat):w.frozen? ⟨R,o,Z⟩=ca:=by obtain⟨nv,vv,sv,ns,E,H⟩:=h;exact E.iH o
theorem As {L:List Tok}{x:aF.RW}(h:fP w R tv L i x){e:aj.Ex}{op:Nat}{text:Bytes}(hn:IsNode e op text [])(hb:aj.Zq x.vals.reverse<=134217728)(hop:op<=255)(ts:List Tok):ef dk 148 #[dl (F ⟨R,0,Z⟩),A G op,de ⟨text.toArray⟩] w fun e' w'=>e'=dq (eg #[])/\co R w w'/\fP w' R tv L i {x with ts:=ts,vals:=e::x.vals,want:=ca,pw:=ca}:=by
 have HA:db (ef dk 137 #[dl (F ⟨R,0,Z⟩),A G op,de ⟨text.toArray⟩,A G 0] w fun e' w'=>e'=dq (eg #[])/\co R w w'/\fP w' R tv L i {x with vals:=e::x.vals}):=
  Qd1 R tv L i x w h (V:=x.vals) (es:=[]) rfl hn hb hop
 obtain⟨T,hT⟩:=xq (⟨text.toArray⟩:ByteArray);rw[<-hT]at HA ⊢;clear hT;go_enter func148,ntmps148;go_wp2_with fail;refine HA.o.mono ?_;rintro e' w1 ⟨rfl,hb1,bA⟩;obtain⟨c0,c1,c5,c6,c7,-⟩:=bA.cells;have f5:=bA.iH 5;have f6:=bA.iH 6
 have HF:db (co R w ((w1.setCell ⟨R,5,Z⟩ (da ca)).setCell ⟨R,6,Z⟩ (da ca))/\fP ((w1.setCell ⟨R,5,Z⟩ (da ca)).setCell ⟨R,6,Z⟩ (da ca)) R tv L i {x with ts:=ts,vals:=e::x.vals,want:=ca,pw:=ca}):=by refine⟨(hb1.trans (U0 5)).trans (U0 6),?_⟩;have h2:=bA.set (i':=i) (want':=ca) (pw':=x.pw) (d':=x.depth) (ts':=ts) 5 (da ca) (fun nv vv sv=>by simp);exact h2.set (i':=i) (want':=ca) (pw':=ca) (d':=x.depth) (ts':=ts) 6 (da ca) (fun nv vv sv=>by simp)
 clear hb1 bA;go_wp2_with fail;go_end0;exact⟨rfl,HF⟩
def Qp1 (R:Nat)(tv:c9)(L:List Tok)(fin:Nat)(r:aF.MR)(w:cl)(e:Ending)(w':cl):Prop:=
 co R w w'/\match r with
 | .error (c,k)=> ∃a:Nat,e=dq (eg #[A G a,A G k])/\c=aj.X6 fin (L.drop a)/\k≠0
 | .ok x'=>e=dq (eg #[A G 0,A G 0])/\ ∃i',fP w' R tv L i' x'/\L.drop i'=x'.ts/\i'<=L.length
def jb (fin:Nat)(w:aF.RW):aF.MR:=match aj.Yq fin (w.ts.length+3) ⟨w.ts,w.depth⟩ with
 |some (.ok (m,s))=>aF.has w (.mat m) s.ts
 |some (.error e)=> .error e
 |none=> .error (0,0)
def nP (fin:Nat)(w:aF.RW):aF.MR:=match aj.Xs fin (w.ts.length+2) ⟨w.ts,w.depth⟩ with
 |some (.ok (l,s))=>aF.has w (.cpx l) s.ts
 |some (.error e)=> .error e
 |none=> .error (0,0)
def ael:Prop:=∀(R:Nat) (tv:c9) (L:List Tok) (fin a:Nat) (x:aF.RW) (w:cl),fP w R tv L (a+1) x->aj.Qk [91] x.ts=ce->L.drop a=x.ts->a<L.length->L.length<=67108864->(∀t∈L,vC t)->aj.Zq x.vals.reverse<=134217728->ef dk 153 #[dl (F ⟨R,0,Z⟩),A G a] w (Qp1 R tv L fin (jb fin x) w)
def acb:Prop:=∀(R:Nat) (tv:c9) (L:List Tok) (fin a:Nat) (x:aF.RW) (w:cl),fP w R tv L (a+1) x->aj.Qk [123] x.ts=ce->L.drop a=x.ts->a<L.length->L.length<=67108864->(∀t∈L,vC t)->aj.Zq x.vals.reverse<=134217728->ef dk 86 #[dl (F ⟨R,0,Z⟩)] w (Qp1 R tv L fin (nP fin x) w)
def bO (w0:cl)(R:Nat)(tv nv vv sv:c9)(x:aF.RW)(j:Nat)(wr:cl):Prop:=
 Wr R Z w0 wr/\wr.heap[R]?=F (O #[tv,A G j,nv,vv,sv,da x.want,da x.pw,A G (x.depth:Nat)] 116 (0,0))
theorem bO.start {L:List Tok}{ns:List Nv}{vs:List Nat}{dx:List aF.Op}{x:aF.RW}(h:WM w R tv L i nv vv sv ns vs dx x.want x.pw x.depth):bO w R tv nv vv sv x i w:=⟨Wr.refl _ _ _,h.blk⟩
theorem bO.below {wr wr':cl}{x:aF.RW}(h:bO w0 R tv nv vv sv x j wr)(hb:co wr.heap.size wr wr'):bO w0 R tv nv vv sv x j wr':=
 ⟨h.1.trans (Mv.refl _ _) (Wr.au hb),(hb.block R (aah.1 h.2).1).trans h.2⟩
theorem bO.grown {wr wr':cl}{x:aF.RW}{row:Option Nat}(h:bO w0 R tv nv vv sv x j wr)(hR:R<w0.heap.size)(hg:wr.grownBy wr' row)(hr:∀q,row=F q->w0.heap.size<=q):bO w0 R tv nv vv sv x j wr':=
 ⟨h.1.vF hg hr,(hg.block R (aah.1 h.2).1 (fun e=>by have:=hr R e.symm;omega)).trans h.2⟩
theorem bO.set {wr:cl}{x:aF.RW}(h:bO w0 R tv nv vv sv x j wr)(j':Nat):bO w0 R tv nv vv sv x j' (wr.setCell ⟨R,1,Z⟩ (A G j')):=
 ⟨h.1.trans (Mv.refl _ _) (Wr.aD wr 1 _),(aao wr R 1 _ _ _ h.2).trans (by simp)⟩
theorem bO.cells {wr:cl}{x:aF.RW}(h:bO w0 R tv nv vv sv x j wr):wr.cell? ⟨R,0,Z⟩=F tv/\wr.cell? ⟨R,1,Z⟩=F (A G j)/\ ∀o,wr.frozen? ⟨R,o,Z⟩=ca:=
 ⟨by rw[aaj wr R _ _ _ _ h.2];rfl,by rw[aaj wr R _ _ _ _ h.2];rfl,fun o=>aax wr R o _ _ h.2⟩
theorem bO.lt {wr:cl}{x:aF.RW}(h:bO w0 R tv nv vv sv x j wr):R<wr.heap.size:=(aah.1 h.2).1
theorem bO.tks {wr:cl}{x:aF.RW}{L:List Tok}(h:bO w0 R tv nv vv sv x j wr)(hR:R<w0.heap.size)(ht:oT w0 R tv L):oT wr R tv L:=
 ht.low fun k hk=>h.1.block k (by omega) (by omega) (by simp)
theorem bO.cV {wr:cl}{x:aF.RW}(h:bO w0 R tv nv vv sv x j wr)(hR:R<w0.heap.size):co R w0 wr:=
 ⟨h.1.os,h.1.tape,h.1.output,h.1.size,fun k hk=>h.1.block k (by omega) (by omega) (by simp)⟩
theorem bO.left {wr:cl}{x:aF.RW}(h:bO w0 R tv nv vv sv x j wr)(L:List Tok):Xf L R wr=L.length-j:=by unfold Xf;rw[h.cells.2.1];simp[intOf]
theorem bO.wri {wr:cl}{L:List Tok}{ns:List Nv}{x:aF.RW}(h:bO w0 R tv nv vv sv x j wr)
  (h1:WM w0 R tv L i nv vv sv ns (aj.Yx x.vals.reverse 0) x.stack.reverse x.want x.pw x.depth) (h2:ns.map Prod.fst=aj.Vs x.vals.reverse 0):fP wr R tv L j x:=
 ⟨nv,vv,sv,ns,h1.turn h.1.size (fun k hk hR=>h.1.block k hk hR (by simp)) h.2,h2⟩
theorem Td {P:Program}{ops:Array Oper}{o:Oper}{a:Act}{K:Act->cl->Prop}{Q:Exit->Act->cl->Prop}{E:Prop}(hgd:o.guard=Z)(sl x:Operand)(t u:TypeId)
  (ho:o.op=.call {callee:=.builtin .append,args:= #[sl,x],argTypes:= #[t,u]})
  (base:Nat) (e:TypeId) (i:TypeInfo) (ht:P.underlying t=F (.slice e)) (hu:P.underlying u=F .string) (hi:P.info? e=F i) (hz:i.zero=F (A du 0))
  (hsize:i.size=1) (hby:i.bytes=1)
  (v:c9) (n:Nat) (xs:List c9) (hs:a.eval sl=v) (hown:w.ownsRow base e 1 v n xs) (s:ByteArray) (hx:a.eval x=de s)
  (hbytes:n+s.size<=140737488355328) (hbase:base<=w.heap.size)
  (h:∀v' w',w'.ownsRow base e 1 v' (n+s.size) (xs++Lib.strCells s)->w.grownBy w' v.ownBlock->(v'.ownBlock=v.ownBlock\/v'.ownBlock=F w.heap.size)->K (a.put o.dst v') w'):
  if Region.wanted o (yielded ops a.tmps)=ce then Oper.wp P o a w K Q else E:=by
 have T:Region.wanted o (yielded ops a.tmps)=ce:=by simp[Region.wanted,hgd]
 rw[if_pos T];obtain⟨v',w',bi,H,I,J⟩:=Sk (P:=P) base t u o.type e i ht hu hi hz hsize hby w v n xs hown s hbytes hbase;unfold Oper.wp execOp;simp only[ho,resolve,invoke,builtin,aes,aet,acX,adw,abq,abX,hs,hx,bi];exact h v' w' H I J
theorem Kj {P:Program}{ops:Array Oper}{o:Oper}{a:Act}{K:Act->cl->Prop}{Q:Exit->Act->cl->Prop}{E:Prop}(hgd:o.guard=Z)(sl x:Operand)(t u:TypeId)
  (ho:o.op=.call {callee:=.builtin .append,args:= #[sl,x],argTypes:= #[t,u]})
  (base:Nat) (e:TypeId) (i:TypeInfo) (ht:P.underlying t=F (.slice e)) (hu:P.underlying u=F .string) (hi:P.info? e=F i) (hz:i.zero=F (A du 0))
  (hsize:i.size=1) (hby:i.bytes=1) (g:Nat) (hs:a.eval sl=U (F ⟨g,0,Z⟩) 1 1) (y:c9) (hg:w.cell? ⟨g,0,Z⟩=F y) (s:ByteArray) (hx:a.eval x=de s) (hs0:0<s.size)
  (hbytes:1+s.size<=140737488355328) (hbase:base<=w.heap.size)
  (h:∀v' w',w'.ownsRow base e 1 v' (1+s.size) (y::Lib.strCells s)->w.grownBy w' Z->K (a.put o.dst v') w'):
  if Region.wanted o (yielded ops a.tmps)=ce then Oper.wp P o a w K Q else E:=by
 have bi:Region.wanted o (yielded ops a.tmps)=ce:=by simp[Region.wanted,hgd]
 rw[if_pos bi];obtain⟨v',w',J,H,I⟩:=Tc (P:=P) base t u o.type e i ht hu hi hz hsize hby w g y hg s hs0 hbytes hbase;unfold Oper.wp execOp;simp only[ho,resolve,invoke,builtin,aes,aet,acX,adw,abq,abX,hs,hx,J];exact h v' w' H I
def LN (fin:Nat)(x:aF.RW)(L:List Tok)(rr:aF.nB)(w0:cl)(R:Nat)(tv nv vv sv sl fv:c9)(wr:cl):Prop:=
 ∃j acc cur,fv=da (decide (cur=[]))/\bO w0 R tv nv vv sv x j wr/\aF.Jc fin acc cur ⟨L.drop j,x.depth⟩ rr/\j<=L.length/\(aF.Xb acc cur).length<=1+j*1048580/\((acc=[]/\cur=[]/\sl=U (F ⟨w0.heap.size,0,Z⟩) 1 1/\wr.cell? ⟨w0.heap.size,0,Z⟩=F (A du 123)/\w0.heap.size<wr.heap.size)\/(¬(acc=[]/\cur=[])/\cE w0.heap.size wr sl (aF.Xb acc cur)))
theorem cE.BV {o:Nat}{v:c9}{l:Bytes}(h:cE B w v l)(hR:R<B)(u:c9):cE B (w.setCell ⟨R,o,Z⟩ u) v l:=
 Sj h (aab _) fun q hq=>aaN w ⟨R,o,Z⟩ q u (by have:=(aaB h q hq).1;show q≠R;omega)
def tG:List Nat->Bytes
 | []=>[]
 |_::_=>[32]
theorem Qfc (cur:List Nat):(if cur=[] then ([]:Bytes) else [32])=tG cur:=by
 cases cur with
 |nil=>rfl
 |cons a l=>rfl
theorem Qfd {cur:List Nat}(h:cur≠[]):tG cur=[32]:=by
 cases cur with
 |nil=>exact absurd rfl h
 |cons a l=>rfl
theorem F8 (cur:List Nat):(tG cur).length<=1:=by
 cases cur with
 |nil=>exact aat _
 |cons a l=>exact aab _
def ae1 (x:aF.RW)(rr:aF.nB):aF.MR:=match rr with
 | .ok (l,s)=>aF.has x (.cpx l) s.ts
 | .error e=> .error e
theorem Hr {L:List Tok}{t:Tok}(h:L[j]?=F t):L.drop j=t::L.drop (j+1):=by have E:=(aaf.1 h).1;rw[aaL E];congr 1;have:=aad E;rw[h]at this;exact(aav this).symm
theorem Gb {b:Bytes}(h:b.length<=1048576):0<(aj.aA (aj.Q7 b)).length/\(aj.aA (aj.Q7 b)).length<=1048576:=
 ⟨abm.2 (aj.Ss _),by have:=Cl b;omega⟩
theorem Nn {g cap n:Nat}{L:List Tok}(h:oT w R (U (F ⟨g,0,Z⟩) n cap) L){t:Tok}(ht:L[j]?=F t):w.cell? ⟨g,j*3+1,Z⟩=F (de ⟨t.2.1.toArray⟩)/\g<R:=by
 obtain⟨ao',cap',e,-,-,a3⟩:=h;obtain⟨g',e2,E,b3⟩:=a3 (by have:=(aaf.1 ht).1;omega);simp only[Value.slice.injEq]at e;rw[<-e.1]at e2
 cases e2
 exact⟨(b3 j t ht).2.1,E⟩
theorem Qd8 (acG : Oz) : acb := by
  intro R tv L fin a0 x w h hm hd ha gV bF hsz
  obtain ⟨a, DR⟩ : ∃ a, a = a0 + 1 := ⟨_, rfl⟩
  rw [← DR] at h
  obtain ⟨i0, hi, hz0, hz1, hz2⟩ := aa0 Tryz.lK
  obtain ⟨nv, vv, sv, ns, h1, h2⟩ := h
  have br := h1.lt
  have tN := zq h1
  have HM2 := zq h2
  have lI := h1.tks
  obtain ⟨ao, cap, pE, t1, t2, t3⟩ := lI
  obtain ⟨g, hao, DZ, -⟩ := t3 (by omega)
  subst hao
  have lI := h1.tks
  rw [pE] at lI
  have lW := zq lI
  have tU := zq pE
  have fI := zq bF
  have dy := zq hsz
  obtain ⟨n, hn⟩ : ∃ n, n = L.length := ⟨_, rfl⟩
  have HN := zq hn
  rw [← hn] at pE gV ha lW
  have yR : db (WM w R (U (F ⟨g, 0, Z⟩) n cap) L a nv vv sv ns (aj.Yx x.vals.reverse 0) x.stack.reverse x.want x.pw x.depth) := by rw [← pE]; exact h1
  have AR : x.ts.tail = L.drop a := by rw [← hd, abU, DR]
  have hab : a ≤ n := by omega
  clear DR
  obtain ⟨c0, c1, -, -, -, -, -, -⟩ := h1.cells
  have f1 := h1.iH 1
  rw [pE] at c0
  have hst := bO.start h1
  rw [pE] at hst
  have eG := Qq w (O #[A du 123] 5 (1, 2))
  have xg := hst.below eG
  have RJ := zq xg
  have HIS := zq (Rg a [125] xg.cells.1 (xg.tks br lW) (by omega))
  have kc := fun (w : cl) (C : Array c9) (n c : Nat) => Lib.run_convert_bytes_const (P := dk) w 88 5 C n c dj underlying5
  have fA : db ((w.alloc (O #[A du 123] 5 (1, 2))).cell? ⟨w.heap.size, 0, Z⟩ = F (A du 123)) := (World.cell?_alloc_mark w #[A du 123] 5 (1, 2) 0).trans rfl
  by_cases he : aj.Qk [125] (L.drop a) = ce
  · have HE : db (nP fin x = .ok { x with ts := L.drop ((a + 1)), vals := .cpx [] :: x.vals, want := ca, pw := ca }) := by
      show _ = _
      unfold nP aj.Xs aj.want
      rw [if_pos (show aj.Qk [123] (⟨x.ts, x.depth⟩ : aj.St).ts = ce from hm)]
      simp only [aj.dN]
      rw [if_pos (show aj.Qk [125] (aj.St.bB ⟨x.ts, x.depth⟩).ts = ce by
        show aj.Qk [125] x.ts.tail = ce
        rw [AR]; exact he)]
      show aF.has x (.cpx []) x.ts.tail.tail = _
      rw [AR, abU]; rfl
    have iq : (a + 1) ≤ n := by
      have := aF.Jm he
      have h3 : ¬ L.length ≤ a := fun h => this (aaC h)
      omega
    rw [he] at HIS
    obtain ⟨b, hb⟩ : ∃ b, b = a + 1 := ⟨_, rfl⟩
    have hb1 : ((a : Nat) : Int) + 1 = ((b : Nat) : Int) := by omega
    have hb2 : IntKind.i64.wrap ((b : Nat) : Int) = ((b : Nat) : Int) := abh _ (by omega)
    have j5 := zq hb
    rw [← hb] at HE iq
    clear hst xg eG h1 h2 hm hd ha bF hsz hn AR he hb lI t1 t2 t3
    go_enter func86, eS
    go_wp2_with fail
    refine HIS.o.mono ?_
    rintro e w1 ⟨rfl, hb1⟩
    have eA := RJ.o.below hb1
    have Im := zq eA
    obtain ⟨c0', c1', f'⟩ := eA.cells
    have f1' := f' 1
    have bz := eA.set b
    have qq : db (ef dk 148 #[dl (F ⟨R, 0, Z⟩), A G 13, de ⟨#[123, 125]⟩] (w1.setCell ⟨R, 1, Z⟩ (A G (b : Nat))) fun e' w' => e' = dq (eg #[]) ∧ co R (w1.setCell ⟨R, 1, Z⟩ (A G (b : Nat))) w' ∧ fP w' R (U (F ⟨g, 0, Z⟩) n cap) L b { x with ts := L.drop b, vals := .cpx [] :: x.vals, want := ca, pw := ca }) :=
      As (bz.wri yR HM2) (Qhm []) dy (by decide) (L.drop b)
    have HBS : db (co R w (w1.setCell ⟨R, 1, Z⟩ (A G (b : Nat)))) := bz.cV br
    clear hb1 eA bz f' c0 c1 f1
    go_wp2_with fail
    refine qq.o.mono ?_
    rintro e w2 ⟨rfl, hb2, hw2⟩
    have aI := zq (HBS.o.trans hb2)
    have eE := zq hw2
    clear hb2 hw2
    go_wp2_with fail
    go_ret2
    refine ⟨aI, ?_⟩
    rw [HE.o]
    exact ⟨rfl, b, by rw [tU.o, ← HN.o]; exact eE.o, rfl, by rw [← HN.o]; exact iq⟩
  have hef : aj.Qk [125] (L.drop a) = ca := by simpa using he
  obtain ⟨rr, iL⟩ : ∃ rr, aj.Xs fin (x.ts.length + 2) ⟨x.ts, x.depth⟩ = F rr := by
    have hg := aj.U4 fin (x.ts.length + 2) (s := ⟨x.ts, x.depth⟩) (aab _) (aab _)
    cases hL : aj.Xs fin (x.ts.length + 2) ⟨x.ts, x.depth⟩ with
    | none => rw [hL] at hg; exact hg.elim
    | some r => exact ⟨r, rfl⟩
  have ji : db (nP fin x = ae1 x rr) := by
    show _ = _
    unfold nP
    simp only [iL]
    cases rr with
    | error e => rfl
    | ok p => rfl
  have hCA : aF.Jc fin [] [] ⟨L.drop a, x.depth⟩ rr := by
    unfold aj.Xs aj.want at iL
    rw [if_pos (show aj.Qk [123] (⟨x.ts, x.depth⟩ : aj.St).ts = ce from hm)] at iL
    simp only [aj.dN] at iL
    rw [if_neg (show ¬ aj.Qk [125] (aj.St.bB ⟨x.ts, x.depth⟩).ts = ce by
      show ¬ aj.Qk [125] x.ts.tail = ce
      rw [AR, hef]; decide)] at iL
    unfold aF.Jc
    rw [if_pos rfl]
    refine ⟨x.ts.length + 2, ?_⟩
    rw [← AR]
    exact iL
  have HCA := zq hCA
  rw [hef] at HIS
  clear hst xg eG h1 h2 hm hd bF hsz hn AR he hef lI t1 t2 t3 iL hCA
  go_enter func86, eS
  go_wp2_with fail
  refine HIS.o.mono ?_
  rintro e w1 ⟨rfl, hb1⟩
  have eA := RJ.o.below hb1
  have HST : db (LN fin x L rr w R (U (F ⟨g, 0, Z⟩) n cap) nv vv sv (U (F ⟨w.heap.size, 0, Z⟩) 1 1) (da ce) w1) := by
    refine ⟨a, [], [], by simp, eA, HCA.o, by rw [← HN.o]; omega, by simp [aF.Xb, aj.Ql], .inl ⟨rfl, rfl, rfl, ?_, ?_⟩⟩
    · exact (hb1.cell (p := ⟨w.heap.size, 0, Z⟩) (by simp)).trans fA
    have := hb1.size
    simp at this
    omega
  clear hb1 eA c0 c1 f1
  go_wp2_with fail
  go_loopw [4, 5] (fun sl fv wr => LN fin x L rr w R (U (F ⟨g, 0, Z⟩) n cap) nv vv sv sl fv wr) (fun _ _ wr => Xf L R wr)
  case atStart => exact HST
  case round =>
    obtain ⟨j, acc, cur, rfl, eA, hca, nh, hlen, gC⟩ := hrel
    rw [← HN.o] at nh
    have Im := zq eA
    have uG := zq hca
    have jP := zq gC
    have HLEN := zq hlen
    have rO := eA.left L
    have FZ := zq rO
    have hRw := eA.lt
    obtain ⟨c0, c1, f⟩ := eA.cells
    have f1 := f 1
    have bF := eA.tks br lW
    have FV := zq (Ha j c0 bF (by omega))
    have Oi : w.heap.size ≤ wr.heap.size := eA.1.size
    obtain ⟨b, hb⟩ : ∃ b, b = j + 1 := ⟨_, rfl⟩
    have hb1 : ((j : Nat) : Int) + 1 = ((b : Nat) : Int) := by omega
    have hb2 : IntKind.i64.wrap ((b : Nat) : Int) = ((b : Nat) : Int) := abh _ (by omega)
    have j5 := zq hb
    clear eA hca gC hlen f rO
    by_cases eu : aj.Qh 1 (L.drop j) = ce
    · have hk : (((cK L j : Nat) : Int) == 1) = ce := by
        rw [Jf (by decide)] at eu
        simp at eu
        simp [eu]
      obtain ⟨t, ht⟩ : ∃ t, L[j]? = F t := by
        cases h : L[j]? with
        | some t => exact ⟨t, rfl⟩
        | none => rw [Vo, h] at eu; cases eu
      have zT : j < n := by
        have := (aaf.1 ht).1
        rw [HN.o]; exact this
      have rS : t.1 = 1 := by
        rw [Vo, ht] at eu
        simpa using eu
      obtain ⟨w1a, w2a, w3a, w4a⟩ := fI.o t (aai ht) rS
      have LQ := zq (fun w5 => acG t.2.1 w5 w1a w2a w3a w4a)
      obtain ⟨hdp, rM⟩ := Gb w3a
      have ED : aj.Qe (L.drop j) = t.2.1 := by rw [Hr ht]; rfl
      obtain ⟨e2, iJ⟩ := Nn bF ht
      obtain ⟨TX, DO⟩ : ∃ TX : ByteArray, TX = ⟨t.2.1.toArray⟩ := ⟨_, rfl⟩
      rw [← DO] at e2 LQ
      obtain ⟨D, hD⟩ : ∃ D, D = aj.aA (aj.Q7 t.2.1) := ⟨_, rfl⟩
      rw [← hD] at LQ hdp rM
      obtain ⟨DB, hDB⟩ : ∃ DB : ByteArray, DB = ⟨D.toArray⟩ := ⟨_, rfl⟩
      rw [← hDB] at LQ
      have TZ : DB.size = D.length := by rw [hDB]; show D.toArray.size = _; simp
      have ND := zq TZ
      have hDp : 0 < DB.size := by omega
      have hDb : DB.size ≤ 1048576 := by omega
      have CD : db (Lib.strCells DB = Qu D) := by show _ = _; rw [hDB, Jt, We]
      have kV : db (aF.Jc fin acc (cur ++ [aj.Q7 t.2.1]) ⟨L.drop b, x.depth⟩ rr) := by
        have := aF.Qbq uG eu
        rw [ED] at this
        have e : (aj.St.bB ⟨L.drop j, x.depth⟩) = ⟨L.drop b, x.depth⟩ := by
          show (⟨(L.drop j).tail, x.depth⟩ : aj.St) = _
          rw [abU, j5.o]
        rw [e] at this
        exact this
      have MF : db (aF.Xb acc (cur ++ [aj.Q7 t.2.1]) = aF.Xb acc cur ++ (tG cur ++ D)) := by
        show _ = _
        rw [aF.Qjz, hD, Qfc]
      have qL : b ≤ n := by omega
      clear eu ht rS w1a w2a w3a w4a ED DO hD hDB TZ hb
      go_wp2_with fail
      refine FV.o.mono ?_
      rintro e wk ⟨rfl, bN⟩
      have eA := Im.o.below bN
      have qD := zq eA
      have e0 := eA.cells.1
      have e1 := eA.cells.2.1
      have kf := eA.lt
      have hzk : w.heap.size ≤ wk.heap.size := eA.1.size
      have zn : wk.cell? ⟨g, j * 3 + 1, Z⟩ = F (de TX) := (bN.cell (p := ⟨g, j * 3 + 1, Z⟩) (by show g < _; omega)).trans e2
      have iV : g < wk.heap.size := by omega
      have jh := zq bN
      clear eA bN c0 c1 f1 e2 bF
      rcases jP.o with ⟨hac, sV, eW, nW, hmz⟩ | ⟨bu, hown⟩
      ·
        subst hac
        subst sV
        subst eW
        have XF : wk.cell? ⟨w.heap.size, 0, Z⟩ = F (A du 123) := (jh.o.cell (p := ⟨w.heap.size, 0, Z⟩) hmz).trans nW
        have ac7 := zq XF
        have agB : w.heap.size < wk.heap.size := aal hmz jh.o.size
        clear nW XF
        go_wp2_with fail
        go_region_held3 (fun w' => w'.cell? ⟨R, 0, Z⟩ = F (U (F ⟨g, 0, Z⟩) n cap) ∧ w'.cell? ⟨R, 1, Z⟩ = F (A G (j : Nat)) ∧ w'.cell? ⟨g, j * 3 + 1, Z⟩ = F (de TX))
          (first
            | go_keep
            | exact ⟨(bG.cell (p := ⟨R, 0, Z⟩) kf).trans e0, (bG.cell (p := ⟨R, 1, Z⟩) kf).trans e1, (bG.cell (p := ⟨g, j * 3 + 1, Z⟩) iV).trans zn⟩
            | (go_split_ands
               refine ⟨?_, ?_, ?_⟩
               · (rw [hgrow.cell_far _ (by have := bG.size; simp at this ⊢; omega) (by simp)]; assumption)
               · (rw [hgrow.cell_far _ (by have := bG.size; simp at this ⊢; omega) (by simp)]; assumption)
               (rw [hgrow.cell_far _ (by have := bG.size; simp at this ⊢; omega) (by simp)]; assumption)))
          ((first
            | (go_at_call 149; refine (LQ.o _).mono ?_; rintro e w5 ⟨rfl, bG⟩)
            | (refine Kj (by rfl) _ _ 88 9 (by rfl) w.heap.size 5 i0 dj ex hi hz0 hz1 hz2 w.heap.size (by rfl) _ (by exact (bG.cell (p := ⟨w.heap.size, 0, Z⟩) agB).trans ac7) DB (by rfl) (by omega) (by omega) (by have := bG.size; simp at this ⊢; omega) ?_; intro v6 w6 eH hgrow)))
        have pd : co wk.heap.size wk w5 := (below_drewN wk 1).trans bG
        have lJ := (qD.o.below pd).grown br hgrow (fun q hq => by cases hq)
        have QE : db (cE w.heap.size w6 v6 (aF.Xb [] ([] ++ [aj.Q7 t.2.1]))) := by
          show World.ownsRow _ _ _ _ _ _ _
          rw [MF.o]
          have e : tG [] ++ D = D := rfl
          rw [e]
          have e2 : (aF.Xb [] [] ++ D).length = 1 + DB.size := by rw [aag, ND.o]; rfl
          rw [e2]
          have e3 : Qu (aF.Xb [] [] ++ D) = A du 123 :: Qu D := rfl
          rw [e3, ← CD.o]
          exact eH
        have jV : (aF.Xb [] ([] ++ [aj.Q7 t.2.1])).length ≤ 1 + b * 1048580 := by
          rw [MF.o, aag, aag]
          have h1 := HLEN.o
          have h2 := ND.o
          have h3 := j5.o
          have h4 := F8 []
          omega
        obtain ⟨-, c1, f⟩ := lJ.cells
        have f1 := f 1
        have aQ : db (LN fin x L rr w R (U (F ⟨g, 0, Z⟩) n cap) nv vv sv v6 (da ca) (w6.setCell ⟨R, 1, Z⟩ (A G (b : Nat))) ∧ Xf L R (w6.setCell ⟨R, 1, Z⟩ (A G (b : Nat))) < Xf L R wr) := by
          have hs := lJ.set b
          refine ⟨⟨b, [], [] ++ [aj.Q7 t.2.1], by simp, hs, kV.o, by rw [← HN.o]; exact qL, jV, .inr ⟨by simp, QE.o.BV br _⟩⟩, ?_⟩
          rw [hs.left L, FZ.o, ← HN.o]
          have := j5.o
          omega
        clear bG pd lJ jV f eH hgrow e0 e1 zn
        go_wp2_with fail
        exact aQ
      obtain ⟨m, hm⟩ : ∃ m, m = (aF.Xb acc cur).length := ⟨_, rfl⟩
      have zY : m ≤ 1 + j * 1048580 := by rw [hm]; exact HLEN
      have HM := zq hm
      have lF : wk.ownsRow w.heap.size 5 1 u4 m (Qu (aF.Xb acc cur)) := by
        rw [hm]
        exact Qy hown jh (aab _)
      clear hm
      by_cases sV : cur = []
      · have qy : db (F R ≠ u4.ownBlock) := fun e => by
          have := (aaB lF R e.symm).1
          omega
        have qx : db (F g ≠ u4.ownBlock) := fun e => by
          have := (aaB lF g e.symm).1
          omega
        have HOWN := zq lF
        obtain ⟨bo, ez, YP, -⟩ := Qj lF
        subst YP
        subst sV
        clear hown lF
        go_wp2_with fail
        go_region_held3 (fun w' => w'.cell? ⟨R, 0, Z⟩ = F (U (F ⟨g, 0, Z⟩) n cap) ∧ w'.cell? ⟨R, 1, Z⟩ = F (A G (j : Nat)) ∧ w'.cell? ⟨g, j * 3 + 1, Z⟩ = F (de TX))
          (first
            | go_keep
            | exact ⟨(bG.cell (p := ⟨R, 0, Z⟩) kf).trans e0, (bG.cell (p := ⟨R, 1, Z⟩) kf).trans e1, (bG.cell (p := ⟨g, j * 3 + 1, Z⟩) iV).trans zn⟩
            | (go_split_ands
               refine ⟨?_, ?_, ?_⟩
               · (rw [hgrow.cell_far _ (by have := bG.size; simp at this ⊢; omega) (by first | exact qy.o | exact qx)]; assumption)
               · (rw [hgrow.cell_far _ (by have := bG.size; simp at this ⊢; omega) (by first | exact qy.o | exact qx)]; assumption)
               (rw [hgrow.cell_far _ (by have := bG.size; simp at this ⊢; omega) (by first | exact qy.o | exact qx)]; assumption)))
          ((first
            | (go_at_call 149; refine (LQ.o _).mono ?_; rintro e w5 ⟨rfl, bG⟩)
            | (refine Td (by rfl) _ _ 88 9 (by rfl) w.heap.size 5 i0 dj ex hi hz0 hz1 hz2 _ _ _ (by rfl) (by exact Qy HOWN ((below_drewN wk 1).trans bG) (aab _)) DB (by rfl) (by omega) (by have := bG.size; simp at this ⊢; omega) ?_; intro v6 w6 eH hgrow vQ)))
        have pd : co wk.heap.size wk w5 := (below_drewN wk 1).trans bG
        have lJ := (qD.o.below pd).grown br hgrow (fun q hq => (aaB HOWN q hq).1)
        have QE : db (cE w.heap.size w6 v6 (aF.Xb acc ([] ++ [aj.Q7 t.2.1]))) := by
          show World.ownsRow _ _ _ _ _ _ _
          rw [MF.o]
          have e : tG [] ++ D = D := rfl
          rw [e]
          have e2 : (aF.Xb acc [] ++ D).length = m + DB.size := by rw [aag, ND.o, ← HM.o]
          rw [e2, Qs, ← CD.o]
          exact eH
        have jV : (aF.Xb acc ([] ++ [aj.Q7 t.2.1])).length ≤ 1 + b * 1048580 := by
          rw [MF.o, aag, aag]
          have h1 := HLEN.o
          have h2 := ND.o
          have h3 := j5.o
          have h4 := F8 []
          omega
        obtain ⟨-, c1, f⟩ := lJ.cells
        have f1 := f 1
        have aQ : db (LN fin x L rr w R (U (F ⟨g, 0, Z⟩) n cap) nv vv sv v6 (da ca) (w6.setCell ⟨R, 1, Z⟩ (A G (b : Nat))) ∧ Xf L R (w6.setCell ⟨R, 1, Z⟩ (A G (b : Nat))) < Xf L R wr) := by
          have hs := lJ.set b
          refine ⟨⟨b, acc, [] ++ [aj.Q7 t.2.1], by simp, hs, kV.o, by rw [← HN.o]; exact qL, jV, .inr ⟨by simp, QE.o.BV br _⟩⟩, ?_⟩
          rw [hs.left L, FZ.o, ← HN.o]
          have := j5.o
          omega
        clear bG pd lJ jV f eH hgrow e0 e1 zn
        go_wp2_with fail
        exact aQ
      have VY : decide (cur = []) = ca := aaQ sV
      rw [VY]
      have CO := zq lF
      clear hown lF
      go_wp2_with (at_builtin; refine abn _ rfl _ _ 88 rfl w.heap.size 5 i0 (A du 0) 1 1 dj hi hz0 hz1 hz2 rfl (by decide) _ _ _ rfl (aaU CO.o _) ⟨wk.heap.size, 0, Z⟩ 1 1 [A du 32] rfl rfl (ar.Qg _ _ _ _ rfl) (by simp [Value.oneCell']) (by unfold maxLen; omega) (by omega) (by simp; omega) ?_)
      intro v3 w3 aB ax _ eZ
      have pg := Qq wk (O #[A du 32] 5)
      have iz := (qD.o.below pg).grown br ax (fun q hq => (aaB CO q hq).1)
      have adX := zq iz
      have e0' := iz.cells.1
      have e1' := iz.cells.2.1
      have UI := iz.lt
      have hz3 : w.heap.size ≤ w3.heap.size := iz.1.size
      have TD : w3.cell? ⟨g, j * 3 + 1, Z⟩ = F (de TX) := by
        have h9 := (iz.cV br).cell (p := ⟨g, j * 3 + 1, Z⟩) (by show g < R; exact DZ)
        have h8 := (qD.o.cV br).cell (p := ⟨g, j * 3 + 1, Z⟩) (by show g < R; exact DZ)
        exact h9.trans (h8.symm.trans zn)
      have HOWN : db (w3.ownsRow w.heap.size 5 1 v3 (m + 1) (Qu (aF.Xb acc cur ++ [32]))) := by
        show World.ownsRow _ _ _ _ _ _ _
        rw [Qs]
        exact aB
      have qy : db (F R ≠ v3.ownBlock) := fun e => by
        have := (aaB HOWN R e.symm).1
        omega
      have qx : db (F g ≠ v3.ownBlock) := fun e => by
        have := (aaB HOWN g e.symm).1
        omega
      obtain ⟨bo, ez, YP, -⟩ := Qj HOWN
      subst YP
      clear e0 e1 zn kf iV hzk aB ax eZ pg iz
      have e0 := e0'
      have e1 := e1'
      have zn := TD
      have kf := UI
      have iV : g < w3.heap.size := by omega
      clear e0' e1' TD UI
      go_wp2_with fail
      go_region_held3 (fun w' => w'.cell? ⟨R, 0, Z⟩ = F (U (F ⟨g, 0, Z⟩) n cap) ∧ w'.cell? ⟨R, 1, Z⟩ = F (A G (j : Nat)) ∧ w'.cell? ⟨g, j * 3 + 1, Z⟩ = F (de TX))
        (first
          | go_keep
          | exact ⟨(bG.cell (p := ⟨R, 0, Z⟩) kf).trans e0, (bG.cell (p := ⟨R, 1, Z⟩) kf).trans e1, (bG.cell (p := ⟨g, j * 3 + 1, Z⟩) iV).trans zn⟩
          | (go_split_ands
             refine ⟨?_, ?_, ?_⟩
             · (rw [hgrow.cell_far _ (by have := bG.size; simp at this ⊢; omega) (by first | exact qy.o | exact qx)]; assumption)
             · (rw [hgrow.cell_far _ (by have := bG.size; simp at this ⊢; omega) (by first | exact qy.o | exact qx)]; assumption)
             (rw [hgrow.cell_far _ (by have := bG.size; simp at this ⊢; omega) (by first | exact qy.o | exact qx)]; assumption)))
        ((first
          | (go_at_call 149; refine (LQ.o _).mono ?_; rintro e w5 ⟨rfl, bG⟩)
          | (refine Td (by rfl) _ _ 88 9 (by rfl) w.heap.size 5 i0 dj ex hi hz0 hz1 hz2 _ _ _ (by rfl) (by exact Qy HOWN ((below_drewN w3 1).trans bG) (aab _)) DB (by rfl) (by omega) (by have := bG.size; simp at this ⊢; omega) ?_; intro v6 w6 eH hgrow vQ)))
      have pd : co w3.heap.size w3 w5 := (below_drewN w3 1).trans bG
      have lJ := (adX.o.below pd).grown br hgrow (fun q hq => (aaB HOWN q hq).1)
      have QE : db (cE w.heap.size w6 v6 (aF.Xb acc (cur ++ [aj.Q7 t.2.1]))) := by
        show World.ownsRow _ _ _ _ _ _ _
        rw [MF.o]
        rw [Qfd sV, ← aaW]
        have e2 : (aF.Xb acc cur ++ [32] ++ D).length = m + 1 + DB.size := by rw [aag, aag, ND.o, ← HM.o]; rfl
        rw [e2, Qs _ D, ← CD.o]
        exact eH
      have jV : (aF.Xb acc (cur ++ [aj.Q7 t.2.1])).length ≤ 1 + b * 1048580 := by
        rw [MF.o, aag, aag]
        have h1 := HLEN.o
        have h2 := ND.o
        have h3 := j5.o
        have h4 := F8 cur
        omega
      obtain ⟨-, c1, f⟩ := lJ.cells
      have f1 := f 1
      have aQ : db (LN fin x L rr w R (U (F ⟨g, 0, Z⟩) n cap) nv vv sv v6 (da ca) (w6.setCell ⟨R, 1, Z⟩ (A G (b : Nat))) ∧ Xf L R (w6.setCell ⟨R, 1, Z⟩ (A G (b : Nat))) < Xf L R wr) := by
        have hs := lJ.set b
        refine ⟨⟨b, acc, cur ++ [aj.Q7 t.2.1], by simp, hs, kV.o, by rw [← HN.o]; exact qL, jV, .inr ⟨by simp, QE.o.BV br _⟩⟩, ?_⟩
        rw [hs.left L, FZ.o, ← HN.o]
        have := j5.o
        omega
      clear bG pd lJ jV f eH hgrow e0 e1 zn
      go_wp2_with fail
      exact aQ
    have lB : aj.Qh 1 (L.drop j) = ca := by simpa using eu
    have hk : (((cK L j : Nat) : Int) == 1) = ca := by
      rw [Jf (by decide)] at lB
      simp at lB
      simp
      omega
    have IU : (aj.St.bB ⟨L.drop j, x.depth⟩) = ⟨L.drop b, x.depth⟩ := by
      show (⟨(L.drop j).tail, x.depth⟩ : aj.St) = _
      rw [abU, j5.o]
    have uy := zq IU
    have hmj : ∀ y, aj.Qk y (L.drop j) = ce → b ≤ n := by
      intro y hy
      have := aF.Jm hy
      have h3 : ¬ L.length ≤ j := fun h => this (aaC h)
      rw [← HN.o] at h3
      have := j5.o
      omega
    have HMJ := zq hmj
    clear eu IU hmj hb
    by_cases sV : cur = []
    · subst sV
      have cF := aF.Qh7 uG lB
      have HE : db (nP fin x = .error (aj.X6 fin (L.drop j), 14)) := by show _ = _; rw [ji.o, cF]; rfl
      clear cF lB bF
      go_wp2_with fail
      refine FV.o.mono ?_
      rintro e wk ⟨rfl, bN⟩
      have eA := Im.o.below bN
      have e1 := eA.cells.2.1
      have FF : db (co R w wk) := eA.cV br
      clear eA bN c0 c1 f1
      go_wp2_with fail
      go_ret2
      refine ⟨FF, ?_⟩
      rw [HE.o]
      exact ⟨j, rfl, rfl, by decide⟩
    have hown : cE w.heap.size wr u4 (aF.Xb acc cur) := by
      rcases jP.o with ⟨-, afM, -⟩ | ⟨-, ho⟩
      · exact absurd afM sV
      exact ho
    have VY : decide (cur = []) = ca := aaQ sV
    rw [VY]
    obtain ⟨m, hm⟩ : ∃ m, m = (aF.Xb acc cur).length := ⟨_, rfl⟩
    have zY : m ≤ 1 + j * 1048580 := by rw [hm]; exact HLEN
    have HM := zq hm
    have HCU := zq sV
    have FU := zq lB
    have HOWN := zq hown
    clear hm hown sV lB bF VY
    go_wp2_with fail
    refine FV.o.mono ?_
    rintro e wk ⟨rfl, bN⟩
    have eA := Im.o.below bN
    have qD := zq eA
    have e1 := eA.cells.2.1
    have uR := zq (Rg j [44] eA.cells.1 (eA.tks br lW) (by omega))
    have CP : db (wk.ownsRow w.heap.size 5 1 u4 m (Qu (aF.Xb acc cur))) := by
      show World.ownsRow _ _ _ _ _ _ _
      rw [HM.o]
      exact Qy HOWN bN (aab _)
    clear eA bN c0 c1 f1
    by_cases NC : aj.Qk [44] (L.drop j) = ce
    · have qL := HMJ.o _ NC
      have kV : db (aF.Jc fin (acc ++ [cur]) [] ⟨L.drop b, x.depth⟩ rr) := by
        have := aF.Qgv uG FU HCU NC
        rw [uy.o] at this
        exact this
      rw [NC] at uR
      clear NC
      go_wp2_with fail
      refine uR.o.mono ?_
      rintro e wm ⟨rfl, lp⟩
      have yq := qD.o.below lp
      have HWM := zq yq
      have hzm : w.heap.size ≤ wm.heap.size := yq.1.size
      have QI : db (wm.ownsRow w.heap.size 5 1 u4 m (Qu (aF.Xb acc cur))) := Qy CP lp (aab _)
      clear yq lp e1
      go_wp2_with (at_builtin; refine abn _ rfl _ _ 88 rfl w.heap.size 5 i0 (A du 0) 1 1 dj hi hz0 hz1 hz2 rfl (by decide) _ _ _ rfl (aaU QI.o _) ⟨wm.heap.size, 0, Z⟩ 2 2 [A du 44, A du 32] rfl rfl (ar.Qg _ _ _ _ rfl) (by simp [Value.oneCell']) (by unfold maxLen; omega) (by omega) (by simp; omega) ?_)
      intro v3 w3 aB ax _ eZ
      have pg := Qq wm (O #[A du 44, A du 32] 5)
      have iz := (HWM.o.below pg).grown br ax (fun q hq => (aaB QI q hq).1)
      have fu : db (cE w.heap.size w3 v3 (aF.Xb (acc ++ [cur]) [])) := by
        show World.ownsRow _ _ _ _ _ _ _
        rw [aF.Kc]
        have e2 : (aF.Xb acc cur ++ [44, 32]).length = m + 2 := by rw [aag, ← HM.o]; rfl
        rw [e2, Qs]
        exact aB
      have EG : (aF.Xb (acc ++ [cur]) []).length ≤ 1 + b * 1048580 := by
        rw [aF.Kc, aag, ← HM.o]
        have := j5.o
        simp only [aaq, aa5]
        omega
      obtain ⟨-, c1, f⟩ := iz.cells
      have f1 := f 1
      have aQ : db (LN fin x L rr w R (U (F ⟨g, 0, Z⟩) n cap) nv vv sv v3 (da ce) (w3.setCell ⟨R, 1, Z⟩ (A G (b : Nat))) ∧ Xf L R (w3.setCell ⟨R, 1, Z⟩ (A G (b : Nat))) < Xf L R wr) := by
        have hs := iz.set b
        refine ⟨⟨b, acc ++ [cur], [], by simp, hs, kV.o, by rw [← HN.o]; exact qL, EG, .inr ⟨by simp, fu.o.BV br _⟩⟩, ?_⟩
        rw [hs.left L, FZ.o, ← HN.o]
        have := j5.o
        omega
      clear iz EG f aB ax eZ pg
      go_wp2_with fail
      exact aQ
    have zu : aj.Qk [44] (L.drop j) = ca := by simpa using NC
    rw [zu] at uR
    go_wp2_with fail
    refine uR.o.mono ?_
    rintro e wm ⟨rfl, lp⟩
    have yq := qD.o.below lp
    have HWM := zq yq
    have e1m := yq.cells.2.1
    have xM := zq (Rg j [125] yq.cells.1 (yq.tks br lW) (by omega))
    have QI : db (wm.ownsRow w.heap.size 5 1 u4 m (Qu (aF.Xb acc cur))) := Qy CP lp (aab _)
    clear yq lp e1 NC
    by_cases sQ : aj.Qk [125] (L.drop j) = ce
    · have qL := HMJ.o _ sQ
      have cF := aF.Qh8 uG FU HCU sQ
      have HE : db (nP fin x = .ok { x with ts := L.drop b, vals := .cpx (acc ++ [cur]) :: x.vals, want := ca, pw := ca }) := by
        show _ = _
        rw [ji.o, cF, uy.o]; rfl
      rw [sQ] at xM
      clear sQ zu cF
      go_wp2_with fail
      refine xM.o.mono ?_
      rintro e wq ⟨rfl, qb⟩
      have ma := HWM.o.below qb
      obtain ⟨-, c1, f⟩ := ma.cells
      have f1 := f 1
      have uk := ma.set b
      have tV := zq uk
      have hzq : w.heap.size ≤ wq.heap.size := ma.1.size
      have HOq : db ((wq.setCell ⟨R, 1, Z⟩ (A G (b : Nat))).ownsRow w.heap.size 5 1 u4 m (Qu (aF.Xb acc cur))) := by
        refine Sj (Qy QI qb (aab _)) (aab _) fun q hq => ?_
        exact aaN wq ⟨R, 1, Z⟩ q _ (by have := (aaB QI q hq).1; show q ≠ R; omega)
      have hzW : w.heap.size ≤ (wq.setCell ⟨R, 1, Z⟩ (A G (b : Nat))).heap.size := uk.1.size
      have eO : db (((wq.setCell ⟨R, 1, Z⟩ (A G (b : Nat))).alloc (O #[A du 125] 5)).heap[wq.heap.size]? = F (O #[A du 125] 5 (0, 0))) := by
        have h9 := aap (wq.setCell ⟨R, 1, Z⟩ (A G (b : Nat))) (O #[A du 125] 5)
        have h8 : (wq.setCell ⟨R, 1, Z⟩ (A G (b : Nat))).heap.size = wq.heap.size := by simp [World.setCell]
        rw [h8] at h9
        exact h9
      clear ma qb f uk e1m
      go_wp2_with (at_builtin; refine abn _ rfl _ _ 88 rfl w.heap.size 5 i0 (A du 0) 1 1 dj hi hz0 hz1 hz2 rfl (by decide) _ _ _ rfl (aaU HOq.o _) ⟨wq.heap.size, 0, Z⟩ 1 1 [A du 125] rfl rfl (ad3 (cs := #[A du 125]) (t := 5) (fr := (0, 0)) eO.o) (by simp [Value.oneCell']) (by unfold maxLen; omega) (by omega) (by simp [World.setCell]; omega) ?_)
      intro v3 w3 aB ax _ eZ
      have pg := Qq (wq.setCell ⟨R, 1, Z⟩ (A G (b : Nat))) (O #[A du 125] 5)
      have iz := (tV.o.below pg).grown br ax (fun q hq => (aaB HOq q hq).1)
      have wQ : cE w.heap.size w3 v3 (aj.iT (acc ++ [cur])) := by
        show World.ownsRow _ _ _ _ _ _ _
        rw [aF.Qjx]
        have e2 : (aF.Xb acc cur ++ [125]).length = m + 1 := by rw [aag, ← HM.o]; rfl
        rw [e2, Qs]
        exact aB
      have hcv := Z9 wQ
      have qq : db (ef dk 148 #[dl (F ⟨R, 0, Z⟩), A G 13, de ⟨(aj.iT (acc ++ [cur])).toArray⟩] w3 fun e' w' => e' = dq (eg #[]) ∧ co R w3 w' ∧ fP w' R (U (F ⟨g, 0, Z⟩) n cap) L b { x with ts := L.drop b, vals := .cpx (acc ++ [cur]) :: x.vals, want := ca, pw := ca }) :=
        As (iz.wri yR HM2) (Qhm (acc ++ [cur])) dy (by decide) (L.drop b)
      have aV : db (co R w w3) := iz.cV br
      clear aB ax eZ pg iz wQ
      go_wp2_with fail
      refine qq.o.mono ?_
      rintro e w4 ⟨rfl, hb4, hw4⟩
      have cC := zq (aV.o.trans hb4)
      have eQ := zq hw4
      clear hb4 hw4
      go_wp2_with fail
      go_ret2
      refine ⟨cC, ?_⟩
      rw [HE.o]
      exact ⟨rfl, b, by rw [tU.o, ← HN.o]; exact eQ.o, rfl, by rw [← HN.o]; exact qL⟩
    have vG : aj.Qk [125] (L.drop j) = ca := by simpa using sQ
    have cF := aF.Qgk uG FU HCU vG zu
    have HE : db (nP fin x = .error (aj.X6 fin (L.drop j), 14)) := by show _ = _; rw [ji.o, cF]; rfl
    rw [vG] at xM
    clear cF sQ vG zu
    go_wp2_with fail
    refine xM.o.mono ?_
    rintro e wq ⟨rfl, qb⟩
    have ma := HWM.o.below qb
    have e1q := ma.cells.2.1
    have FF : db (co R w wq) := ma.cV br
    clear ma qb e1m
    go_wp2_with fail
    go_ret2
    refine ⟨FF, ?_⟩
    rw [HE.o]
    exact ⟨j, rfl, rfl, by decide⟩
theorem Tryz.rY:(Tryz.prog.info? 62).map (fun i=>(i.zero,i.size,i.bytes))=F (F (.agg #[da ca,U Z 0 0]),2,32):=by kernel_rfl
def Wi (k:Nat):List (Bool×c9):=List.replicate k (ca,U Z 0 0)
theorem Qyk (k:Nat):(madeCells #[Value.bool ca,U Z 0 0] (k*2)).toList=Q9 (Wi k):=by
 have h:∀k,Q9 (Wi (k+1))=[Value.bool ca,U Z 0 0]++Q9 (Wi k):=fun k=>by simp[Wi,Q9,List.replicate_succ]
 apply List.ext_getElem?;intro i
 have H:∀k i,(Q9 (Wi k))[i]?=if i<k*2 then F (if i % 2=0 then Value.bool ca else U Z 0 0) else Z:=by
  intro k
  induction k with
  |zero=>intro i;simp[Wi,Q9]
  |succ k ih=>
   intro i;rw[h]
   match i with
   |0=>simp
   |1=>rw[if_pos (by omega)];rfl
   |i+2=>
    show (Q9 (Wi k))[i]?=_;have e1:(i+2<(k+1)*2)=(i<k*2):=propext ⟨fun h=>by omega,fun h=>by omega⟩
    have e2:(i+2) % 2=i % 2:=by omega
    rw[ih,e2];simp only[e1]
 rw[H];by_cases hlt:i<k*2
 ·rw[if_pos hlt]
  have E:i % 2=0\/i % 2=1:=by omega
  simp only[madeCells,Array.toList_map,aa9,Array.toList_range];rw[List.getElem?_range hlt]
  rcases E with E|E<;>simp[E]
 rw[if_neg hlt];simp only[madeCells,Array.toList_map,aa9,Array.toList_range];rw[abo (by simpa using hlt)];rfl
theorem Qv4 (B:Nat)(w:cl)(k:Nat):Yh B w (Wi k) (List.replicate k (ca,0)):=by
 refine⟨by simp[Wi],fun j c p hc hp=> ?_⟩
 have h:c=(ca,U Z 0 0):=by have:=aai hc;exact(aea.1 this).2
 have E:p=(ca,0):=by have:=aai hp;exact(aea.1 this).2
 subst h;subst E;exact⟨rfl,⟨[],Rd.nil w,rfl,aat _⟩,(fun q hq=>by cases hq),⟨by simp[lenOf],by simp[lenOf]⟩⟩
theorem Qw7 (l:List (Bool×Nat))(h:∀p∈l,p.1=ce->p.2≠0):Xg l=l.map aj.bR:=by
 unfold Xg;apply List.map_congr_left;intro p E;unfold Xu aj.bR
 cases hb:p.1 with
 |true=>rw[if_pos ⟨rfl,h p E hb⟩];rfl
 |false=>rw[if_neg (by simp)];rfl
theorem Dl (m:aj.ey)(h:∀p∈m.at_,p.1=ce->p.2≠0):Yf m.rows m.aW (Xg m.at_)=aj.fj m:=by
 rw[Qw7 m.at_ h];unfold Yf aj.fj;by_cases h0:m.at_=[]
 ·rw[if_pos (by rw[h0];rfl),if_pos h0]
 rw[if_neg (by simpa using h0),if_neg h0]
theorem Qjr {fin a0:Nat}{L:List Tok}{x:aF.RW}(hm:aj.Qk [91] x.ts=ce)(hd:L.drop a0=x.ts)(hq:q=a0+1)(hk:aj.Qh 1 (L.drop q)=ce)(hc:aj.Qk [58] (L.drop (q+1))=ce):jb fin x=if aj.Qh 1 (L.drop (q+2))=ca then .error (aj.X6 fin (L.drop (q+2)),14)
   else if aj.Qk [93] (L.drop (q+3))=ca then .error (aj.X6 fin (L.drop (q+3)),14)
   else if 64<aj.Q7 (aj.Qe (L.drop q))\/64<aj.Q7 (aj.Qe (L.drop (q+2))) then .error (aj.X6 fin (L.drop a0),5)
   else .ok {x with ts:=L.drop (q+4),vals:=.mat ⟨aj.Q7 (aj.Qe (L.drop q)),aj.Q7 (aj.Qe (L.drop (q+2))),List.replicate (aj.Q7 (aj.Qe (L.drop q))*aj.Q7 (aj.Qe (L.drop (q+2)))) (ca,0)⟩::x.vals,want:=ca,pw:=ca}:=by
 have h:x.ts.tail=L.drop q:=by rw[<-hd,abU,hq]
 have e1:x.ts.tail.tail=L.drop (q+1):=by rw[h,abU]
 have e2:x.ts.tail.tail.tail=L.drop (q+2):=by rw[e1,abU]
 have e3:x.ts.tail.tail.tail.tail=L.drop (q+3):=by rw[e2,abU]
 have e4:x.ts.tail.tail.tail.tail.tail=L.drop (q+4):=by rw[e3,abU]
 have I:∀n,(64<aj.side n)↔64<n:=fun n=>by unfold aj.side;split<;>omega
 unfold jb aj.Yq aj.want;rw[if_pos (show aj.Qk [91] (⟨x.ts,x.depth⟩:aj.St).ts=ce from hm)];simp only[aj.dN]
 rw[if_pos (show (aj.Qh 1 (aj.St.bB ⟨x.ts,x.depth⟩).ts && aj.Qk [58] (aj.St.bB ⟨x.ts,x.depth⟩).ts.tail)=ce by
  show (aj.Qh 1 x.ts.tail && aj.Qk [58] x.ts.tail.tail)=ce
  rw[h,abU,hk,hc];rfl)]
 unfold aj.Jn aj.Qo aj.want;rw[if_pos (show aj.Qh 1 (aj.St.bB ⟨x.ts,x.depth⟩).ts=ce by show aj.Qh 1 x.ts.tail=ce;rw[h];exact hk)];simp only[aj.dN];rw[if_pos (show aj.Qk [58] (aj.St.bB (aj.St.bB ⟨x.ts,x.depth⟩)).ts=ce by show aj.Qk [58] x.ts.tail.tail=ce;rw[e1];exact hc)];simp only[aj.dN];show (match (if aj.Qh 1 x.ts.tail.tail.tail=ce then aj.ret (aj.Q7 (aj.Qe x.ts.tail.tail.tail)) (⟨x.ts.tail.tail.tail.tail,x.depth⟩:aj.St) else aj.dB fin ⟨x.ts.tail.tail.tail,x.depth⟩:aj.PR Nat).bind _ with|some (.ok (m,s))=>aF.has x (.mat m) s.ts|some (.error e)=> .error e|none=> .error (0,0))=_;have e0:(aj.St.bB ⟨x.ts,x.depth⟩).ts=L.drop q:=h
 have e3':(L.drop (q+2)).tail=L.drop (q+3):=by rw[abU]
 have e4':(L.drop (q+3)).tail=L.drop (q+4):=by rw[abU]
 rw[e2,e3',e0];by_cases h1:aj.Qh 1 (L.drop (q+2))=ce
 ·rw[if_pos h1,if_neg (by rw[h1];decide)]
  simp only[aj.dN];by_cases h2:aj.Qk [93] (L.drop (q+3))=ce
  ·rw[if_pos h2,if_neg (by rw[h2];decide)]
   simp only[aj.dN];by_cases h3:64<aj.Q7 (aj.Qe (L.drop q))\/64<aj.Q7 (aj.Qe (L.drop (q+2)))
   ·rw[if_pos (by simpa [I] using h3),if_pos h3]
    show Except.error (aj.X6 fin x.ts,5)=_;rw[hd]
   rw[if_neg (by simpa [I] using h3),if_neg h3];show aF.has x _ (L.drop (q+3)).tail=_;rw[e4'];rfl
  have H:aj.Qk [93] (L.drop (q+3))=ca:=by simpa using h2
  rw[if_neg h2,if_pos H];rfl
 have E:aj.Qh 1 (L.drop (q+2))=ca:=by simpa using h1
 rw[if_neg h1,if_pos E];rfl
theorem Qhn {L:List Tok}(fin a0:Nat){x:aF.RW}(h:fP w R tv L q x)(hm:aj.Qk [91] x.ts=ce)(hd:L.drop a0=x.ts)(hq:q=a0+1)(gV:L.length<=67108864)(bF:∀t∈L,vC t)(hsz:aj.Zq x.vals.reverse<=134217728)(hk:aj.Qh 1 (L.drop q)=ce)(hc:aj.Qk [58] (L.drop (q+1))=ce):ef dk 197 #[dl (F ⟨R,0,Z⟩),A G a0] w (Qp1 R tv L fin (jb fin x) w):=by
 obtain⟨i0,hi,hz0,hz1,hz2⟩:=aa0 Tryz.rY;have nG:=zq (Qjr (fin:=fin) hm hd hq hk hc);have br:=h.lt;have HW:=zq h;obtain⟨c0,c1,-,-,-,lI⟩:=h.cells;have f1:=h.iH 1
 obtain⟨t,ht⟩:∃t,L[q]?=F t:=by
  cases h:L[q]? with
  |some t=>exact⟨t,rfl⟩
  |none=>rw[Vo,h]at hk;cases hk
 have rS:t.1=1:=by
  rw[Vo,ht]at hk
  simpa using hk
 have jX:q<L.length:=(aaf.1 ht).1;obtain⟨n1,n2,n3,n4⟩:=bF t (aai ht) rS
 have hh1:aj.Qe (L.drop q)=t.2.1:=by rw[Hr ht];rfl
 obtain⟨ao,cap,pE,-,-,t3⟩:=lI;obtain⟨g,hao,DZ,-⟩:=t3 (by omega);subst hao;have lI:=HW.o.cells.2.2.2.2.2;rw[pE]at lI c0;obtain⟨n,hn⟩:=xq L.length;have HN:=zq hn;rw[<-hn]at lI c0 jX gV;have tU:=zq pE;obtain⟨e2,-⟩:=Nn lI ht;have et:=zq (fun w5=>Qx5 w5 n1 n2 n3 n4);obtain⟨TX,DO⟩:=xq (⟨t.2.1.toArray⟩:ByteArray);rw[<-DO]at e2 et;obtain⟨r,hr⟩:=xq (aj.Q7 t.2.1);rw[hh1,<-hr]at nG;rw[<-hr]at et;have lW:=zq lI;have adN:=zq bF;have dy:=zq hsz;obtain⟨q2,l7⟩:=xq (q+2);obtain⟨q3,ym⟩:=xq (q+3);obtain⟨q4,hq4⟩:=xq (q+4)
 have s2:((q:Nat):Int)+2=((q2:Nat):Int):=by omega
 have s3:((q:Nat):Int)+3=((q3:Nat):Int):=by omega
 have s4:((q:Nat):Int)+4=((q4:Nat):Int):=by omega
 have v2:IntKind.i64.wrap ((q2:Nat):Int)=((q2:Nat):Int):=abh _ (by omega);have v3:IntKind.i64.wrap ((q3:Nat):Int)=((q3:Nat):Int):=abh _ (by omega);have v4:IntKind.i64.wrap ((q4:Nat):Int)=((q4:Nat):Int):=abh _ (by omega)
 have qQ:q4<=67108870:=by omega
 have aiF:q2<=q4:=by omega
 have aiH:q3<=q4:=by omega
 rw[<-l7,<-ym,<-hq4]at nG;have cQ:=zq l7;have fH:=zq ym;have tR:=zq hq4;obtain⟨mi,zZ⟩:=xq (Un r);rw[<-zZ]at et;have L0:=zq zZ
 have iJ:g<w.heap.size:=by omega
 clear h hm hd hq bF hsz hk hc ht rS n1 n2 n3 n4 hh1 hn pE lI DO hr l7 ym hq4 t3 zZ;go_enter func197,ntmps197;go_wp2_with fail
 go_region_held3 (fun w'=>w'.cell? ⟨R,0,Z⟩=F (U (F ⟨g,0,Z⟩) n cap)/\w'.cell? ⟨R,1,Z⟩=F (A G q)/\w'.cell? ⟨g,q*3+1,Z⟩=F (de TX))
  (first
   |go_keep
   |exact⟨(bG.cell (p:=⟨R,0,Z⟩) br).trans c0,(bG.cell (p:=⟨R,1,Z⟩) br).trans c1,(bG.cell (p:=⟨g,q*3+1,Z⟩) iJ).trans e2⟩)
  ((go_at_call 229;refine(et.o _).mono ?_;rintro e w5 ⟨rfl,bG⟩))
 have cS:db (co w.heap.size w w5):=(below_drewN w 1).trans bG;have jJ:=HW.o.below cS;have oB:=zq jJ;obtain⟨d0,d1,-,-,-,-⟩:=jJ.cells;have Le:oT w5 R (U (F ⟨g,0,Z⟩) n cap) L:=lW.o.low fun k hk=>cS.o.block k (by omega);rw[tU.o,<-HN.o]at d0;have adP:=zq Le;have LX:=zq (Ha q2 d0 Le (by omega));have ua:=jJ.lt;clear bG c0 c1 e2 f1 jJ Le;by_cases hk2:aj.Qh 1 (L.drop q2)=ce
 ·have fU:(((cK L q2:Nat):Int) !=1)=ca:=by
   rw[Jf (by decide)]at hk2;simp at hk2;simp[hk2]
  obtain⟨t2,Ob⟩:∃t,L[q2]?=F t:=by
   cases h:L[q2]? with
   |some t=>exact⟨t,rfl⟩
   |none=>rw[Vo,h]at hk2;cases hk2
  have YK:t2.1=1:=by
   rw[Vo,Ob]at hk2
   simpa using hk2
  have aiG:q2<n:=by rw[HN.o];exact(aaf.1 Ob).1
  obtain⟨n1,n2,n3,n4⟩:=adN.o t2 (aai Ob) YK
  have WI:aj.Qe (L.drop q2)=t2.2.1:=by rw[Hr Ob];rfl
  have cU:=zq (fun w5=>Qx5 w5 n1 n2 n3 n4);obtain⟨e3,-⟩:=Nn adP Ob;obtain⟨TX2,UK⟩:=xq (⟨t2.2.1.toArray⟩:ByteArray);rw[<-UK]at e3 cU;obtain⟨c,hc⟩:=xq (aj.Q7 t2.2.1);rw[WI,<-hc,if_neg (by rw[hk2];decide)]at nG;rw[<-hc]at cU;obtain⟨ni,hni⟩:=xq (Un c);rw[<-hni]at cU;have HNI:=zq hni;clear hk2 Ob YK n1 n2 n3 n4 WI UK hc hni;go_wp2_with fail;refine LX.o.mono ?_;rintro e w6 ⟨rfl,eV⟩;have jg:=zq (Qv cS eV);have Oe:=oB.o.below eV;have CY:=zq Oe;have x6:=Oe.lt;have d0':=(eV.cell (p:=⟨R,0,Z⟩) ua).trans d0;have d1':=(eV.cell (p:=⟨R,1,Z⟩) ua).trans d1;have e3':=(eV.cell (p:=⟨g,q2*3+1,Z⟩) (by show g<_;omega)).trans e3
  have hg6:g<w6.heap.size:=by omega
  clear eV d0 d1 e3 Oe;go_wp2_with fail
  go_region_held3 (fun w'=>w'.cell? ⟨R,0,Z⟩=F (U (F ⟨g,0,Z⟩) n cap)/\w'.cell? ⟨R,1,Z⟩=F (A G q)/\w'.cell? ⟨g,q2*3+1,Z⟩=F (de TX2))
   (first
    |go_keep
    |exact⟨(UZ.cell (p:=⟨R,0,Z⟩) x6).trans d0',(UZ.cell (p:=⟨R,1,Z⟩) x6).trans d1',(UZ.cell (p:=⟨g,q2*3+1,Z⟩) hg6).trans e3'⟩)
   ((go_at_call 229;refine(cU.o _).mono ?_;rintro e w7 ⟨rfl,UZ⟩))
  have yE:db (co w6.heap.size w6 w7):=(below_drewN w6 1).trans UZ;have uB:=zq (Qv jg yE);have xr:=CY.o.below yE;have oP:=zq xr;have vK:=xr.lt;have f7:=xr.iH 1;have g0:=(yE.o.cell (p:=⟨R,0,Z⟩) x6).trans d0';have g1:=(yE.o.cell (p:=⟨R,1,Z⟩) x6).trans d1';have HI:=zq (Rg q3 [93] g0 (lW.o.low fun k hk=>uB.o.block k (by omega)) (by omega));clear UZ d0' d1' e3' xr;by_cases jT:aj.Qk [93] (L.drop q3)=ce
  ·rw[jT]at HI
   rw[if_neg (by rw[jT];decide)]at nG
   have agM:q4<=n:=by have:=aF.Jm jT;have h3: ¬L.length<=q3:=fun h=>this (aaC h);rw[<-HN.o]at h3;have:=fH.o;have:=tR.o;omega
   clear jT;by_cases cN:64<r\/64<c
   ·rw[if_pos cN]at nG
    have IZ:∀w8,co w7.heap.size w7 w8->co R w (w8.setCell ⟨R,1,Z⟩ (A G q4)):=fun w8 h8=>((Qv uB h8).mono (aa1 br)).trans (U0 1);have acm:=zq IZ;by_cases pB:64<r
    case' pos=>
     have cD:mi= -1:=by rw[L0.o];unfold Un;rw[if_pos pB]
     subst cD;clear cN pB IZ
    case' neg=>
     have cD:mi=(r:Int):=by rw[L0.o];unfold Un;rw[if_neg pB]
     have jq:ni= -1:=by
      rw[HNI.o];unfold Un;rcases cN with h|h
      ·exact absurd h pB
      rw[if_pos h]
     subst jq;rw[cD];have XG:decide ((r:Int)<0)=ca:=aaQ (by omega)
     have wM: ¬((r:Int)<0):=by omega
     clear cN pB IZ cD
    all_goals
     go_wp2_with fail;refine HI.o.mono ?_;rintro e w8 ⟨rfl,rH⟩;have g1':=(rH.cell (p:=⟨R,1,Z⟩) vK).trans g1;have f8:w8.frozen? ⟨R,1,Z⟩=ca:=(rH.frozen (p:=⟨R,1,Z⟩) vK).trans f7;have HF:=zq (acm.o w8 rH);clear rH g0 g1;go_wp2_with fail;go_ret2;refine⟨HF,?_⟩;rw[nG.o];exact⟨a0,rfl,rfl,by decide⟩
   rw[if_neg cN]at nG
   have pB:r<=64:=by omega
   have VD:c<=64:=by omega
   have cD:mi=(r:Int):=by rw[L0.o];unfold Un;rw[if_neg (by omega)]
   have jq:ni=(c:Int):=by rw[HNI.o];unfold Un;rw[if_neg (by omega)]
   rw[cD,jq]
   have wM: ¬((r:Int)<0):=by omega
   have KD: ¬((c:Int)<0):=by omega
   have XG:decide ((r:Int)<0)=ca:=aaQ wM;have ahG:decide ((c:Int)<0)=ca:=aaQ KD;obtain⟨k,hk⟩:=xq (r*c)
   have hkb:k<=4096:=by rw[hk];exact aa3 pB VD
   have hmul:(r:Int)*(c:Int)=((k:Nat):Int):=by rw[hk];rfl
   have yq:IntKind.i64.wrap ((k:Nat):Int)=((k:Nat):Int):=abh _ (by omega);rw[<-hk]at nG;have HK:=zq hk;clear cN cD jq hk;go_wp2_with fail;refine HI.o.mono ?_;rintro e w8 ⟨rfl,rH⟩;have g1':=(rH.cell (p:=⟨R,1,Z⟩) vK).trans g1;have f8:w8.frozen? ⟨R,1,Z⟩=ca:=(rH.frozen (p:=⟨R,1,Z⟩) vK).trans f7;have hw8:=oP.o.below rH;have bz:=hw8.set (i':=q4) (want':=x.want) (pw':=x.pw) (d':=x.depth) (ts':=L.drop q4) 1 (A G q4) (fun nv vv sv=>by simp);have sH:=zq bz;have HBS:db (co R w (w8.setCell ⟨R,1,Z⟩ (A G q4))):=((Qv uB.o rH).mono (aa1 br)).trans (U0 1);clear rH g0 g1 hw8 bz;go_wp2_with (at_make;refine wpList_make_full _ rfl _ _ 45 rfl (w8.setCell ⟨R,1,Z⟩ (A G q4)).heap.size 62 i0 (.agg #[da ca,U Z 0 0]) 2 underlying45 hi hz0 hz1 _ _ _ _ k rfl rfl rfl rfl (by rw[hz2];omega) (by unfold maxLen;omega) (by exact aab _) ?_);intro w9 bT gD
   have hs8:(w8.setCell ⟨R,1,Z⟩ (A G q4)).heap.size=w8.heap.size:=by simp[World.setCell]
   have il:co (w8.setCell ⟨R,1,Z⟩ (A G q4)).heap.size (w8.setCell ⟨R,1,Z⟩ (A G q4)) w9:=aaF (aaw _ _) gD (aab _) (fun q hq=>by cases hq);have AO:=sH.o.below il;have HW9:=zq AO;have qi:db (co R w w9):=HBS.o.trans (il.mono (aa1 sH.o.lt))
   have wF:DD w9 (U (F ⟨w8.heap.size,0,Z⟩) k k) (List.replicate k (ca,0)):=by
    refine(Qv4 w8.heap.size w9 k).ird ?_
    have e1:(Wi k).length=k:=by simp[Wi]
    rw[e1,<-Qyk];exact bT
   have yT:=zq (Hq r c wF pB VD (by rw[aaZ];exact HK.o));have lA:=Dl ⟨r,c,List.replicate k (ca,0)⟩ (fun p hp=>by rw[(aea.1 hp).2];intro h;cases h);simp only at lA;rw[lA]at yT
   have qq:db (∀eU,co w9.heap.size w9 eU->ef dk 148 #[dl (F ⟨R,0,Z⟩),A G 3,de ⟨(aj.fj ⟨r,c,List.replicate k (ca,0)⟩).toArray⟩] eU fun e' w'=>e'=dq (eg #[])/\co R eU w'/\fP w' R tv L q4 {x with ts:=L.drop q4,vals:=.mat ⟨r,c,List.replicate k (ca,0)⟩::x.vals,want:=ca,pw:=ca}):=
    fun eU h10=>As (HW9.o.below h10) (Qhh ⟨r,c,List.replicate k (ca,0)⟩) dy (by decide) (L.drop q4)
   have hR9:=AO.lt;clear bT gD il AO wF lA hs8 f8 g1';go_wp2_with fail;refine yT.o.mono ?_;rintro e eU ⟨rfl,dw⟩;have HH:=zq (qq.o eU dw);have mn:db (co R w eU):=qi.o.trans (dw.mono (aa1 hR9));clear dw;go_wp2_with fail;refine HH.o.mono ?_;rintro e rj ⟨rfl,pc,xp⟩;have j4:=zq (mn.o.trans pc);have Il:=zq xp;clear pc xp;go_wp2_with fail;go_ret2;refine⟨j4,?_⟩;rw[nG.o];exact⟨rfl,q4,Il,rfl,by rw[<-HN.o];exact agM⟩
  have II:aj.Qk [93] (L.drop q3)=ca:=by simpa using jT
  rw[II]at HI;rw[if_pos II]at nG;clear jT II;go_wp2_with fail;refine HI.o.mono ?_;rintro e w8 ⟨rfl,rH⟩;have g1':=(rH.cell (p:=⟨R,1,Z⟩) vK).trans g1;have HF:db (co R w w8):=(Qv uB rH).mono (aa1 br);clear rH g0 g1;go_wp2_with fail;go_ret2;refine⟨HF,?_⟩;rw[nG.o];exact⟨q3,rfl,rfl,by decide⟩
 have hk2':aj.Qh 1 (L.drop q2)=ca:=by simpa using hk2
 have fU:(((cK L q2:Nat):Int) !=1)=ce:=by rw[Jf (by decide)]at hk2';simp at hk2';simp;omega
 rw[if_pos hk2']at nG;clear hk2 hk2';go_wp2_with fail;refine LX.o.mono ?_;rintro e w6 ⟨rfl,eV⟩;have jg:db (co R w w6):=(Qv cS eV).mono (aa1 br);have d1':=(eV.cell (p:=⟨R,1,Z⟩) ua).trans d1;clear eV d0 d1;go_wp2_with fail;go_ret2;refine⟨jg,?_⟩;rw[nG.o];exact⟨q2,rfl,rfl,by decide⟩
theorem Tryz.xA:(Tryz.prog.info? 45).map (fun i=>(i.zero,i.size,i.bytes))=F (F (U Z 0 0),1,24):=by kernel_rfl
def mI (col:Nat)(x:aF.RW)(rr:aF.kO):aF.MR:=match rr with
 | .error e=> .error e
 | .ok (a,s)=>if a.2.any (· !=a.2.headD 0) then .error (col,2) else if 64<a.2.length||64<a.2.headD 0 then .error (col,5) else aF.has x (.mat ⟨a.2.length,a.2.headD 0,a.1⟩) s.ts
theorem Qmj {fin a0:Nat}{L:List Tok}{x:aF.RW}(hm:aj.Qk [91] x.ts=ce)(hd:L.drop a0=x.ts)(hq:q=a0+1)(hk:(aj.Qh 1 (L.drop q) && aj.Qk [58] (L.drop (q+1)))=ca):∃rr,jb fin x=mI (aj.X6 fin (L.drop a0)) x rr/\aF.Uw fin [] [] ⟨L.drop q,x.depth⟩ rr:=by
 have H:x.ts.tail=L.drop q:=by rw[<-hd,abU,hq]
 have E:=aj.T8 fin (x.ts.length+3) (s:=⟨x.ts,x.depth⟩) (aab _) (aab _)
 have h:aj.Yq fin (x.ts.length+3) ⟨x.ts,x.depth⟩=(aj.Xo fin (x.ts.length+3) [] [] ⟨L.drop q,x.depth⟩).bind (aj.Zh (aj.X6 fin (L.drop a0))):=by
  unfold aj.Yq aj.want;rw[if_pos (show aj.Qk [91] (⟨x.ts,x.depth⟩:aj.St).ts=ce from hm)];simp only[aj.dN]
  have e0:(aj.St.bB ⟨x.ts,x.depth⟩)=⟨L.drop q,x.depth⟩:=by show (⟨x.ts.tail,x.depth⟩:aj.St)=_;rw[H]
  rw[e0];rw[if_neg (show ¬(aj.Qh 1 (L.drop q) && aj.Qk [58] (L.drop q).tail)=ce by rw[abU,hk];decide),hd]
 cases hE:aj.Xo fin (x.ts.length+3) [] [] ⟨L.drop q,x.depth⟩ with
 |none=>
  rw[h,hE]at E
  exact E.elim
 |some rr=>
  refine⟨rr,?_,aF.Qwa hE⟩;unfold jb;rw[h,hE]
  cases rr with
  |error e=>rfl
  |ok p=>
   obtain⟨a,s⟩:=p;show (match aj.Zh _ a s with|some (.ok (m,s))=>aF.has x (.mat m) s.ts|some (.error e)=> .error e|none=> .error (0,0))=mI _ x (.ok (a,s));unfold aj.Zh mI;simp only;by_cases c1:(a.2.any (· !=a.2.headD 0))=ce
   ·rw[if_pos c1,if_pos c1];rfl
   rw[if_neg c1,if_neg c1];by_cases c2:(decide (64<a.2.length)||decide (64<a.2.headD 0))=ce
   ·rw[if_pos c2,if_pos c2];rfl
   rw[if_neg c2,if_neg c2];rfl
def Qpa (rs:List cH)(cur:List (Bool×Nat)):Prop:=(∀r∈rs,r.2.2≠[]/\ ∀p∈r.2.2,p.1=ce->p.2≠0)/\ ∀p∈cur,p.1=ce->p.2≠0
def MtL (fin:Nat)(x:aF.RW)(L:List Tok)(rr:aF.kO)(w0:cl)(R:Nat)(tv nv vv sv rv:c9)(wr:cl):Prop:=
 ∃(j:Nat) (rs:List cH) (lv:c9) (cs:List (Bool×c9)) (cur:List (Bool×Nat)),Mt wr w0.heap.size rv (rs++[(lv,cs,cur)])/\bO w0 R tv nv vv sv x j wr/\aF.Uw fin (rs.map fun r=>r.2.2) cur ⟨L.drop j,x.depth⟩ rr/\j<=L.length/\rs.length+1<=j/\cs.length<=j/\((rs.map fun r=>r.2.2).flatten++cur).length<=j/\Qpa rs cur
def MtE (x:aF.RW)(L:List Tok)(rr:aF.kO)(w0:cl)(R:Nat)(tv nv vv sv rv:c9)(wr:cl):Prop:=
 ∃(j:Nat) (rs:List cH) (d:Nat),Mt wr w0.heap.size rv rs/\bO w0 R tv nv vv sv x j wr/\rr=.ok (((rs.map fun r=>r.2.2).flatten,(rs.map fun r=>r.2.2).map List.length),⟨L.drop j,d⟩)/\j<=L.length/\rs≠[]/\rs.length<=j/\(rs.map fun r=>r.2.2).flatten.length<=j/\Qpa rs []
theorem Mt.last {lv:c9}{rs:List cH}{cs:List (Bool×c9)}{cur:List (Bool×Nat)}(h:Mt w B rv (rs++[(lv,cs,cur)])):∃gr rcap lo cq,rv=U (F ⟨gr,0,Z⟩) (rs.length+1) rcap/\rs.length+1<=rcap/\B<=gr/\gr<w.heap.size/\w.cell? ⟨gr,rs.length,Z⟩=F (U lo cs.length cq)/\w.frozen? ⟨gr,rs.length,Z⟩=ca/\lv=U lo cs.length cq/\cs.length=cur.length:=by
 have I:=h.own;obtain⟨ao,rcap,H,a1,a2,a3⟩:=Qj I
 have J:(rs++[(lv,cs,cur)]).length=rs.length+1:=by simp
 rw[J]at H a1 a3;obtain⟨gr,rfl,b1,b2,b3⟩:=a3 (by omega);obtain⟨r1,r2⟩:=h.row (lv,cs,cur) (by simp);obtain⟨lo,cq,K,-,-,-⟩:=Qj r1;have E:lv=U lo cs.length cq:=K;refine⟨gr,rcap,lo,cq,H,a1,b1,b2,?_,?_,E,r2.1⟩
 ·rw[b3 rs.length (by omega)]
  rw[abl,aaK (by simp)];simp[E]
 rw[J,H]at I;exact I.frozenAt rs.length
theorem Mt.entry {w6 w7:cl}{J:Nat}{lv:c9}{x:aF.RW}{rs:List cH}{cs:List (Bool×c9)}{cur:List (Bool×Nat)}(h:Mt w5 w0.heap.size rv (rs++[(lv,cs,cur)]))(eA:bO w0 R tv nv vv sv x J w5)(hR:R<w0.heap.size)
  {gr rcap:Nat} (EN:rv=U (F ⟨gr,0,Z⟩) (rs.length+1) rcap) {nb:Bool} {k L6 c6:Nat} {o6:Option Addr} (hf:bI w5.heap.size w6 (U o6 L6 c6) k) (eV:co w5.heap.size w5 w6) {gg bX:Nat}
  (hown:w7.ownsRow w0.heap.size 62 2 (U (F ⟨gg,0,Z⟩) (cs.length+1) bX) (cs.length+1) (Q9 cs++[da nb,U o6 L6 c6])) (hg:(w6.alloc (O #[da nb,U o6 L6 c6] 62)).grownBy w7 lv.ownBlock) (hat:lv.ownBlock=F gg\/gg=w6.heap.size+1):
  Mt (w7.setCell ⟨gr,rs.length,Z⟩ (U (F ⟨gg,0,Z⟩) (cs.length+1) bX)) w0.heap.size rv (rs++[(U (F ⟨gg,0,Z⟩) (cs.length+1) bX,cs++[(nb,U o6 L6 c6)],cur++[(nb,k)])])/\bO w0 R tv nv vv sv x J (w7.setCell ⟨gr,rs.length,Z⟩ (U (F ⟨gg,0,Z⟩) (cs.length+1) bX)):=by
 have E:=Qq w6 (O #[da nb,U o6 L6 c6] 62);have bi:co w5.heap.size w5 (w6.alloc (O #[da nb,U o6 L6 c6] 62)):=Qv eV E;have a6:w5.heap.size<=(w6.alloc (O #[da nb,U o6 L6 c6] 62)).heap.size:=bi.size;have a1:w0.heap.size<=w5.heap.size:=eA.1.size;have aE:=h.keep a6 fun q _ hq=>bi.block q hq
 have I:(lv,cs,cur)∈rs++[(lv,cs,cur)]:=by simp
 have am:∀q,lv.ownBlock=F q->w0.heap.size<=q/\q<w5.heap.size:=fun q hq=>(h.row _ I).1.lt q hq
 have H:rv.ownBlock=F gr:=by rw[EN];rfl
 have a7:=h.own.lt gr H
 have hl:(rs++[(lv,cs,cur)]).length=rs.length+1:=by simp
 have a4:bI w0.heap.size (w6.alloc (O #[da nb,U o6 L6 c6] 62)) (U o6 L6 c6) k:=by refine(hf.mono a1).blk (aab _) E.size fun q hq=>E.block q (hf.2.1 q hq).2
 have K:=World.ownsRow.kept aE.own hg (.inr fun e=>by
  rw[H]at e
  exact h.zg _ I gr e.symm H)
 rw[hl,EN]at K;have T:=K.stored rs.length (U (F ⟨gg,0,Z⟩) (cs.length+1) bX)
 have a0:((rs++[(lv,cs,cur)]).map Prod.fst).set rs.length (U (F ⟨gg,0,Z⟩) (cs.length+1) bX)=rs.map Prod.fst++[U (F ⟨gg,0,Z⟩) (cs.length+1) bX]:=by rw[abl,List.set_append_right _ _ (by simp)];simp
 rw[a0]at T;refine⟨aE.push a4 (fun q hq=> ?_) hown hg (fun q hq=> ?_) H rfl (by rw[EN];exact T.1),?_⟩
 ·have a9:=(hf.2.1 q hq).1
  refine⟨fun e=> ?_,fun r hr e=> ?_⟩
  ·have:=(h.own.lt q e).2
   omega
  have:=((h.row r hr).1.lt q e).2;omega
 ·have a5:gg=q:=aav hq
  rcases hat with h1|h1
  ·left;rw[h1,a5]
  right;simp;omega
 have a3:=((eA.below eV).below E).grown hR hg (fun q hq=>(am q hq).1)
 exact a3.grown hR T.2 (fun q hq=>by
  have:gr=q:=aav hq
  omega)
theorem Mt.more {w8:cl}{rs:List cH}(h:Mt w5 B rv rs)(hB:B<=w5.heap.size){gg cap:Nat}
  (hown:w8.ownsRow B 45 1 (U (F ⟨gg,0,Z⟩) (rs.length+1) cap) (rs.length+1) (rs.map Prod.fst++[U (F ⟨w5.heap.size,0,Z⟩) 0 0]))
  (hg:((w5.alloc (O #[] 62)).alloc (O #[U (F ⟨w5.heap.size,0,Z⟩) 0 0] 45)).grownBy w8 rv.ownBlock) (hat:rv.ownBlock=F gg\/gg=w5.heap.size+2):
  Mt w8 B (U (F ⟨gg,0,Z⟩) (rs.length+1) cap) (rs++[(U (F ⟨w5.heap.size,0,Z⟩) 0 0,[],[])]):=by
 refine h.new hB rfl ((World.grownBy_alloc _ _ _).trans hg) hown fun q hq=> ?_;have H:gg=q:=aav hq;rcases hat with E|E
 ·left;rw[E,H]
 right;simp;omega
theorem bO.more {w8:cl}{J:Nat}{x:aF.RW}{rs:List cH}(h:Mt w5 w0.heap.size rv rs)(eA:bO w0 R tv nv vv sv x J w5)(hR:R<w0.heap.size){o1 o2:Obj}
  (hg:((w5.alloc o1).alloc o2).grownBy w8 rv.ownBlock):bO w0 R tv nv vv sv x J w8:=
 ((eA.below (Qq w5 o1)).below (Qq _ o2)).grown hR hg fun q hq=>(h.own.lt q hq).1
theorem Mt.at {gr m rcap:Nat}{rs:List cH}(h:Mt w B rv rs)(EN:rv=U (F ⟨gr,0,Z⟩) m rcap){r:cH}(hj:rs[j]?=F r)(hn:r.2.2≠[]):∃g cq,w.cell? ⟨gr,j,Z⟩=F (U (F ⟨g,0,Z⟩) r.2.2.length cq)/\g<w.heap.size/\gr<w.heap.size/\r.2.1.length=r.2.2.length/\(∀i u,(Q9 r.2.1)[i]?=F u->w.cell? ⟨g,i,Z⟩=F u)/\ ∀u∈Q9 r.2.1,u.oneCell'=ce:=by
 have a6:=(aaf.1 hj).1;have ho:=h.own;obtain⟨ao,a5,H,a1,a2,a3⟩:=Qj ho;obtain⟨gr',rfl,b1,b2,b3⟩:=a3 (by omega);rw[EN]at H;simp only[Value.slice.injEq,Option.some.injEq,Addr.mk.injEq,and_true]at H;obtain⟨rfl,-,rfl⟩:=H;obtain⟨r1,r2⟩:=h.row r (aai hj);obtain⟨lo,cq,T,c1,c2,c3⟩:=Qj r1;have E:=r2.1
 have bi:0<r.2.1.length:=by
  rw[E]
  cases hr:r.2.2 with
  |nil=>exact absurd hr hn
  |cons a l=>simp
 obtain⟨g,rfl,d1,d2,d3⟩:=c3 bi;refine⟨g,cq,?_,d2,b2,E,fun i u I=> ?_,fun u K=> ?_⟩
 ·rw[b3 j (by omega),aa9,hj,<-E]
  simp[T]
 ·have J:=(aaf.1 I).1
  rw[Fx]at J;rw[d3 i (by omega)];exact I
 unfold Q9 at K;obtain⟨c,aE,K⟩:=aep.1 K;simp only[abu,aeq,or_false]at K;rcases K with rfl|rfl
 ·rfl
 obtain⟨i,I⟩:=acd aE;have J:=(aaf.1 I).1;obtain⟨p,hp⟩:∃p,r.2.2[i]?=F p:=⟨_,aad (by rw[<-E];exact J)⟩;obtain⟨-,am⟩:=r2.2 i c p I hp;obtain⟨o,l,cp,e,-⟩:=am.val;rw[e];rfl
theorem D9:∀(rs:List cH),(∀r∈rs,Yh B w r.2.1 r.2.2)->Yh B w (rs.flatMap fun r=>r.2.1) (rs.flatMap fun r=>r.2.2)
 | [],_=>Yh.nil B w
 |r::rs,h=>by rw[acz,acz];exact Yh.app (h r (by simp)) (D9 rs fun r' hr'=>h r' (by simp[hr']))
theorem Du (rs:List cH){r:cH}(hj:rs[j]?=F r):(rs.take (j+1)).flatMap (fun r=>r.2.1)=(rs.take j).flatMap (fun r=>r.2.1)++r.2.1:=by rw[aaI,hj,ab0];simp
def Oy (w2:cl)(rs:List cH)(c0:Nat)(av:c9)(jv:c9)(wr:cl):Prop:=
 ∃j:Nat,jv=A G (j:Nat)/\j<=rs.length/\co w2.heap.size w2 wr/\wr.ownsRow w2.heap.size 62 2 av ((rs.take j).flatMap fun r=>r.2.1).length (Q9 ((rs.take j).flatMap fun r=>r.2.1))/\ ∀r∈rs.take j,r.2.2.length=c0
theorem Qzw:∀(rs:List cH) (c0:Nat),(∀r∈rs,r.2.2.length=c0)->(rs.flatMap fun r=>r.2.2).length=rs.length*c0
 | [],c0,_=>by simp
 |r::rs,c0,h=>by rw[acz,aag,Qzw rs c0 fun r' hr'=>h r' (by simp[hr']),h r (by simp),aaq,adk];omega
theorem Qzp (rs:List cH)(hp:∀r∈rs,r.2.1.length=r.2.2.length)(j:Nat):((rs.take j).flatMap fun r=>r.2.1).length<=(rs.map fun r=>r.2.2).flatten.length:=by
 have e:∀l:List cH,(∀r∈l,r.2.1.length=r.2.2.length)->(l.flatMap fun r=>r.2.1).length=(l.map fun r=>r.2.2).flatten.length:=by
  intro l
  induction l with
  |nil=>intro _;rfl
  |cons a l ih=>intro h;rw[acz,abq,adS,aag,aag,ih fun r hr=>h r (by simp[hr]),h a (by simp)]
 rw[e _ fun r hr=>hp r (abA hr)]
 conv=>rhs;rw[<-abG j rs,abl,List.flatten_append,aag]
 omega
theorem Qmz {x:aF.RW}{rs:List cH}{ts:List Tok}(h0:∃r0 rs',rs=r0::rs'/\r0.2.2.length=c0){r:cH}(hr:r∈rs)(hne:r.2.2.length≠c0):mI col x (.ok (((rs.map fun r=>r.2.2).flatten,(rs.map fun r=>r.2.2).map List.length),⟨ts,d⟩))=.error (col,2):=by
 obtain⟨r0,rs',rfl,h0⟩:=h0;unfold mI;simp only;rw[if_pos];rw[ad7];refine⟨r.2.2.length,?_,?_⟩
 ·rw[ab2]
  exact abw.2 ⟨r,hr,rfl⟩
 simp only[abq,List.headD_cons,h0]
 simpa using hne
theorem Qmx {x:aF.RW}{rs:List cH}{ts:List Tok}(h0:∃r0 rs',rs=r0::rs'/\r0.2.2.length=c0)(hall:∀r∈rs,r.2.2.length=c0)(hb:64<rs.length\/64<c0):mI col x (.ok (((rs.map fun r=>r.2.2).flatten,(rs.map fun r=>r.2.2).map List.length),⟨ts,d⟩))=.error (col,5):=by
 obtain⟨r0,rs',rfl,h0⟩:=h0;unfold mI;simp only
 have E:(((r0::rs').map fun r=>r.2.2).map List.length).headD 0=c0:=by simp[h0]
 rw[if_neg,if_pos]
 ·rw[E,aas,aas]
  simpa using hb
 rw[E,ab2,List.any_map,ad7];rintro ⟨r,H,h⟩;have:=hall r H;simp[this]at h
theorem Qbe {x:aF.RW}{rs:List cH}{ts:List Tok}(h0:∃r0 rs',rs=r0::rs'/\r0.2.2.length=c0)(hall:∀r∈rs,r.2.2.length=c0)(hb:rs.length<=64)(hc:c0<=64):mI col x (.ok (((rs.map fun r=>r.2.2).flatten,(rs.map fun r=>r.2.2).map List.length),⟨ts,d⟩))=aF.has x (.mat ⟨rs.length,c0,rs.flatMap fun r=>r.2.2⟩) ts:=by
 obtain⟨r0,rs',rfl,h0⟩:=h0;unfold mI;simp only
 have E:(((r0::rs').map fun r=>r.2.2).map List.length).headD 0=c0:=by simp[h0]
 rw[if_neg,if_neg,E,aas,aas,List.flatMap_def]
 ·rw[E,aas,aas]
  simp only[ac2,abi];omega
 rw[E,ab2,List.any_map,ad7];rintro ⟨r,H,h⟩;have:=hall r H;simp[this]at h
end Go.Proofs.YtgfmiladfeoldaaGreatDoor
