import Derived.Test.YtgfmiladfeoldaaGreatDoorPk17
set_option linter.unusedSimpArgs false
set_option linter.unusedVariables false
set_option maxRecDepth 100000
set_option maxHeartbeats 16000000
namespace Go.Proofs.YtgfmiladfeoldaaGreatDoor
open Go.RowKit ai ag
theorem Qpq (R:Nat)(tv:Value)(L:List Tok)(i:Nat)(nv vv sv:Value)(ns:List Nv)(vs:List Nat)(cH:List aq.Op)(want pw:Bool)(d:Nat)(w:World)(h:WM w R tv L i nv vv sv ns vs cH want pw d)
  (op n:Nat) (text:Bytes) (hop:op<=255) (hn:n<=vs.length) (hb1:vs.length<=134217728) (hb2:ns.length<=134217728):
  Calls Tryz.prog 137 #[.pointer (some ⟨R,0,none⟩),.int .i64 (op:Nat),.string ⟨text.toArray⟩,.int .i64 (n:Nat)] w (nU R tv L i ns vs cH want pw d op n text w nv vv sv):=by
 cases n with
 |zero=>
  by_cases hv:vv.ownBlock=none
  ·exact Qhq R tv L i nv vv sv ns vs cH want pw d w h op text hop hv hb1 hb2
  exact Qhx R tv L i nv vv sv ns vs cH want pw d w h op text hop hv hb1 hb2
 |succ n=>exact Qdy R tv L i nv vv sv ns vs cH want pw d w h op (n+1) text hop hn (Nat.succ_pos n) hb1 hb2
def eC (w:World)(R:Nat)(tv:Value)(L:List Tok)(i:Nat)(x:aq.RW):Prop:=
 ∃nv vv sv ns,WM w R tv L i nv vv sv ns (ae.Q0 x.vals.reverse 0) x.stack.reverse x.want x.pw x.depth/\ns.map Prod.fst=ae.Zx x.vals.reverse 0
theorem eC.below {w w':World}{R:Nat}{tv:Value}{L:List Tok}{i:Nat}{x:aq.RW}(h:eC w R tv L i x)(hb:Below w.heap.size w w'):eC w' R tv L i x:=by obtain⟨nv,vv,sv,ns,E,H⟩:=h;exact⟨nv,vv,sv,ns,E.below hb,H⟩
theorem eC.lt {w:World}{R:Nat}{tv:Value}{L:List Tok}{i:Nat}{x:aq.RW}(h:eC w R tv L i x):R<w.heap.size:=by obtain⟨_,_,_,_,E,_⟩:=h;exact E.lt
theorem Dc:∀(l:List ae.Ex) (o:Nat),(ae.Zx l o).length=ae.Xn l
 | [],_=>rfl
 |a::l,o=>by show (a.flat o++ae.Zx l (o+a.size)).length=a.size+ae.Xn l;rw[aac,ae.X7,Dc l]
theorem Di:∀l:List ae.Ex,l.length<=ae.Xn l
 | []=>aaa _
 |a::l=>by have:=ae.Q5 a;have:=Di l;show l.length+1<=a.size+ae.Xn l;omega
structure IsNode (e:ae.Ex) (op:Nat) (text:Bytes) (es:List ae.Ex):Prop where
 flat:∀o,e.flat o=ae.Zx es o++[⟨op,text,ae.Q0 es o⟩]
 size:e.size=ae.Xn es+1
theorem Qhf (m:ae.cn):IsNode (.mat m) 3 (ae.bB m) []:=⟨fun _=>rfl,rfl⟩
theorem Qhb (l:List (List Nat)):IsNode (.cpx l) 13 (ae.cP l) []:=⟨fun _=>rfl,rfl⟩
def vz (Bs:List (Nat×Option Obj))(w:World)(R:Nat)(nv vv sv:Value):Prop:=
 ∀p∈Bs,R<p.1/\p.1<w.heap.size/\nv.ownBlock≠some p.1/\vv.ownBlock≠some p.1/\sv.ownBlock≠some p.1/\w.heap[p.1]?=p.2
theorem vz.turn {Bs:List (Nat×Option Obj)}{w w':World}{R:Nat}{nv vv sv dR oX sv':Value}(h:vz Bs w R nv vv sv)(hz:w.heap.size<=w'.heap.size)(hf:FrW R w w' nv vv sv dR oX sv'):vz Bs w' R dR oX sv':=fun p hp=>by obtain⟨a,b,c,d,e,f⟩:=h p hp;obtain⟨y1,y2,y3,y4⟩:=hf p.1 a b c d e;exact⟨a,aaj b hz,y2,y3,y4,y1.trans f⟩
def Lc (Bs:List (Nat×Option Obj))(w:World)(R:Nat)(tv:Value)(L:List Tok)(i:Nat)(x:aq.RW):Prop:=
 ∃nv vv sv ns,WM w R tv L i nv vv sv ns (ae.Q0 x.vals.reverse 0) x.stack.reverse x.want x.pw x.depth/\ns.map Prod.fst=ae.Zx x.vals.reverse 0/\vz Bs w R nv vv sv
theorem Lc.PJ {Bs:List (Nat×Option Obj)}{w:World}{R:Nat}{tv:Value}{L:List Tok}{i:Nat}{x:aq.RW}(h:Lc Bs w R tv L i x):eC w R tv L i x:=by obtain⟨nv,vv,sv,ns,E,H,-⟩:=h;exact⟨nv,vv,sv,ns,E,H⟩
theorem eC.wrx {w:World}{R:Nat}{tv:Value}{L:List Tok}{i:Nat}{x:aq.RW}(h:eC w R tv L i x):Lc [] w R tv L i x:=by obtain⟨nv,vv,sv,ns,E,H⟩:=h;exact⟨nv,vv,sv,ns,E,H,fun _ h=>nomatch h⟩
theorem Qf3 {Bs:List (Nat×Option Obj)}(R:Nat)(tv:Value)(L:List Tok)(i:Nat)(x:aq.RW)(w:World)(h:Lc Bs w R tv L i x){V es:List ae.Ex}{e:ae.Ex}{op:Nat}{text:Bytes}(hv:x.vals=es.reverse++V)(hn:IsNode e op text es)
  (hb:ae.Xn x.vals.reverse<=134217728) (hop:op<=255):
  Calls Tryz.prog 137 #[.pointer (some ⟨R,0,none⟩),.int .i64 (op:Nat),.string ⟨text.toArray⟩,.int .i64 (es.length:Nat)] w fun e' w'=>e'=.returned (.tuple #[])/\Below R w w'/\Lc Bs w' R tv L i {x with vals:=e::V}:=by
 obtain⟨nv,vv,sv,ns,Z,J,T⟩:=h
 have E:x.vals.reverse=V.reverse++es:=by rw[hv,List.reverse_append,List.reverse_reverse]
 have hl:=Di x.vals.reverse
 have O:ns.length=ae.Xn x.vals.reverse:=by rw[<-Dc x.vals.reverse 0,<-J,aay]
 have U:(ae.Q0 x.vals.reverse 0).length=x.vals.reverse.length:=ae.Zp _ _
 have I:(ae.Q0 x.vals.reverse 0).length=V.length+es.length:=by rw[U,E,aac,aeo]
 refine(Qpq R tv L i nv vv sv ns _ _ _ _ _ w Z op es.length text hop (by omega) (by omega) (by omega)).mono fun e' w' hp=> ?_;obtain⟨rfl,H,dR,oX,sv',kv,h3,K⟩:=hp;refine⟨rfl,H,dR,oX,sv',ns++[(⟨op,text,(ae.Q0 x.vals.reverse 0).drop ((ae.Q0 x.vals.reverse 0).length-es.length)⟩,kv)],?_,?_,T.turn H.size K⟩
 rotate_left
 ·show (ns++[_]).map Prod.fst=ae.Zx (e::V).reverse 0
  rw[ado,J,List.reverse_cons,ae.U2,E,ae.U2,aar];congr 1
  have e1:ae.Zx [e] (0+ae.Xn V.reverse)=e.flat (0+ae.Xn V.reverse):=by simp[ae.Zx]
  rw[e1,hn.flat];congr 1;rw[ae.Vm]
  have e2:(ae.Q0 V.reverse 0).length=V.length:=by rw[ae.Zp,aeo]
  have e3:(ae.Q0 V.reverse 0++ae.Q0 es (0+ae.Xn V.reverse)).length-es.length=V.length:=by rw[aac,e2,ae.Zp];omega
  rw[e3,List.drop_left' e2];rfl
 show WM w' R tv L i dR oX sv' _ (ae.Q0 (e::V).reverse 0) x.stack.reverse x.want x.pw x.depth
 have e4:ae.Q0 (e::V).reverse 0=(ae.Q0 x.vals.reverse 0).take ((ae.Q0 x.vals.reverse 0).length-es.length)++[ns.length]:=by
  rw[List.reverse_cons,ae.Vm,I,adQ,E,ae.Vm,List.take_left' (by rw[ae.Zp,aeo])];congr 1
  have e5:ae.Q0 [e] (0+ae.Xn V.reverse)=[0+ae.Xn V.reverse+e.size-1]:=by simp[ae.Q0]
  rw[e5,hn.size,O,E,ae.Tq];congr 1;omega
 rw[e4];exact h3
theorem Qdd (R:Nat)(tv:Value)(L:List Tok)(i:Nat)(x:aq.RW)(w:World)(h:eC w R tv L i x){V es:List ae.Ex}{e:ae.Ex}{op:Nat}{text:Bytes}(hv:x.vals=es.reverse++V)(hn:IsNode e op text es)
  (hb:ae.Xn x.vals.reverse<=134217728) (hop:op<=255):
  Calls Tryz.prog 137 #[.pointer (some ⟨R,0,none⟩),.int .i64 (op:Nat),.string ⟨text.toArray⟩,.int .i64 (es.length:Nat)] w fun e' w'=>e'=.returned (.tuple #[])/\Below R w w'/\eC w' R tv L i {x with vals:=e::V}:=
 (Qf3 R tv L i x w h.wrx hv hn hb hop).mono fun e' w' hp=>⟨hp.1,hp.2.1,hp.2.2.PJ⟩
theorem eC.set {w:World}{R:Nat}{tv:Value}{L:List Tok}{i:Nat}{x:aq.RW}(h:eC w R tv L i x)(o:Nat)(u:Value){i':Nat}{want' pw':Bool}{d':Nat}
  (hc:∀nv vv sv,(#[tv,.int .i64 (i:Nat),nv,vv,sv,.bool x.want,.bool x.pw,.int .i64 (x.depth:Nat)]:Array Value).setIfInBounds o u= #[tv,.int .i64 (i':Nat),nv,vv,sv,.bool want',.bool pw',.int .i64 (d':Nat)]) {ts':List Tok}:
  eC (w.setCell ⟨R,o,none⟩ u) R tv L i' {x with ts:=ts',want:=want',pw:=pw',depth:=d'}:=by
 obtain⟨nv,vv,sv,ns,E,H⟩:=h;exact⟨nv,vv,sv,ns,E.set o u (hc nv vv sv),H⟩
theorem eC.cells {w:World}{R:Nat}{tv:Value}{L:List Tok}{i:Nat}{x:aq.RW}(h:eC w R tv L i x):w.cell? ⟨R,0,none⟩=some tv/\w.cell? ⟨R,1,none⟩=some (.int .i64 (i:Nat))/\w.cell? ⟨R,5,none⟩=some (.bool x.want)/\w.cell? ⟨R,6,none⟩=some (.bool x.pw)/\w.cell? ⟨R,7,none⟩=some (.int .i64 (x.depth:Nat))/\my w R tv L:=by obtain⟨nv,vv,sv,ns,E,H⟩:=h;obtain⟨c0,c1,c2,c3,c4,c5,c6,c7⟩:=E.cells;exact⟨c0,c1,c5,c6,c7,E.tks⟩
theorem eC.eD {w:World}{R:Nat}{tv:Value}{L:List Tok}{i:Nat}{x:aq.RW}(h:eC w R tv L i x)(o:Nat):w.frozen? ⟨R,o,none⟩=false:=by obtain⟨nv,vv,sv,ns,E,H⟩:=h;exact E.eD o
theorem Ay (R:Nat)(tv:Value)(L:List Tok)(i:Nat)(x:aq.RW)(w:World)(h:eC w R tv L i x){e:ae.Ex}{op:Nat}{text:Bytes}(hn:IsNode e op text [])(hb:ae.Xn x.vals.reverse<=134217728)(hop:op<=255)(ts:List Tok):Calls Tryz.prog 148 #[.pointer (some ⟨R,0,none⟩),.int .i64 (op:Nat),.string ⟨text.toArray⟩] w fun e' w'=>e'=.returned (.tuple #[])/\Below R w w'/\eC w' R tv L i {x with ts:=ts,vals:=e::x.vals,want:=false,pw:=false}:=by
 have HA:Hid (Calls Tryz.prog 137 #[.pointer (some ⟨R,0,none⟩),.int .i64 (op:Nat),.string ⟨text.toArray⟩,.int .i64 0] w fun e' w'=>e'=.returned (.tuple #[])/\Below R w w'/\eC w' R tv L i {x with vals:=e::x.vals}):=
  Qdd R tv L i x w h (V:=x.vals) (es:=[]) rfl hn hb hop
 obtain⟨T,hT⟩:=xq (⟨text.toArray⟩:ByteArray);rw[<-hT]at HA ⊢;clear hT;go_enter Tryz.func148,Tryz.ntmps148;go_wp2_with fail;refine HA.o.mono ?_;rintro e' w1 ⟨rfl,hb1,aQ⟩;obtain⟨c0,c1,c5,c6,c7,-⟩:=aQ.cells;have f5:=aQ.eD 5;have f6:=aQ.eD 6
 have HF:Hid (Below R w ((w1.setCell ⟨R,5,none⟩ (.bool false)).setCell ⟨R,6,none⟩ (.bool false))/\eC ((w1.setCell ⟨R,5,none⟩ (.bool false)).setCell ⟨R,6,none⟩ (.bool false)) R tv L i {x with ts:=ts,vals:=e::x.vals,want:=false,pw:=false}):=by refine⟨(hb1.trans (Ty 5 _)).trans (Ty 6 _),?_⟩;have h2:=aQ.set (i':=i) (want':=false) (pw':=x.pw) (d':=x.depth) (ts':=ts) 5 (.bool false) (fun nv vv sv=>by simp);exact h2.set (i':=i) (want':=false) (pw':=false) (d':=x.depth) (ts':=ts) 6 (.bool false) (fun nv vv sv=>by simp)
 clear hb1 aQ;go_wp2_with fail;go_end0;exact⟨rfl,HF.o⟩
def YX (R:Nat)(tv:Value)(L:List Tok)(fin:Nat)(r:aq.MR)(w:World)(e:Ending)(w':World):Prop:=
 Below R w w'/\match r with
 | .error (c,k)=> ∃a:Nat,e=.returned (.tuple #[.int .i64 (a:Nat),.int .i64 (k:Nat)])/\c=ae.X5 fin (L.drop a)/\k≠0
 | .ok x'=>e=.returned (.tuple #[.int .i64 0,.int .i64 0])/\ ∃i',eC w' R tv L i' x'/\L.drop i'=x'.ts/\i'<=L.length
def gD (fin:Nat)(w:aq.RW):aq.MR:=match ae.Xl fin (w.ts.length+3) ⟨w.ts,w.depth⟩ with
 |some (.ok (m,s))=>aq.has w (.mat m) s.ts
 |some (.error e)=> .error e
 |none=> .error (0,0)
def lp (fin:Nat)(w:aq.RW):aq.MR:=match ae.Q8 fin (w.ts.length+2) ⟨w.ts,w.depth⟩ with
 |some (.ok (l,s))=>aq.has w (.cpx l) s.ts
 |some (.error e)=> .error e
 |none=> .error (0,0)
def YF:Prop:=∀(R:Nat) (tv:Value) (L:List Tok) (fin a:Nat) (x:aq.RW) (w:World),eC w R tv L (a+1) x->ae.Qv [91] x.ts=true->L.drop a=x.ts->a<L.length->L.length<=67108864->(∀t∈L,sF t)->ae.Xn x.vals.reverse<=134217728->Calls Tryz.prog 153 #[.pointer (some ⟨R,0,none⟩),.int .i64 (a:Nat)] w (YX R tv L fin (gD fin x) w)
def TR:Prop:=∀(R:Nat) (tv:Value) (L:List Tok) (fin a:Nat) (x:aq.RW) (w:World),eC w R tv L (a+1) x->ae.Qv [123] x.ts=true->L.drop a=x.ts->a<L.length->L.length<=67108864->(∀t∈L,sF t)->ae.Xn x.vals.reverse<=134217728->Calls Tryz.prog 86 #[.pointer (some ⟨R,0,none⟩)] w (YX R tv L fin (lp fin x) w)
def br (w0:World)(R:Nat)(tv nv vv sv:Value)(x:aq.RW)(j:Nat)(wr:World):Prop:=
 Wr R none w0 wr/\wr.heap[R]?=some (.cells #[tv,.int .i64 (j:Nat),nv,vv,sv,.bool x.want,.bool x.pw,.int .i64 (x.depth:Nat)] 116 (0,0))
theorem br.start {w:World}{R:Nat}{tv:Value}{L:List Tok}{i:Nat}{nv vv sv:Value}{ns:List Nv}{vs:List Nat}{cH:List aq.Op}{x:aq.RW}(h:WM w R tv L i nv vv sv ns vs cH x.want x.pw x.depth):br w R tv nv vv sv x i w:=⟨Wr.refl _ _ _,h.blk⟩
theorem br.below {w0 wr wr':World}{R:Nat}{tv nv vv sv:Value}{x:aq.RW}{j:Nat}(h:br w0 R tv nv vv sv x j wr)(hb:Below wr.heap.size wr wr'):br w0 R tv nv vv sv x j wr':=
 ⟨h.1.trans (Mv.refl _ _) (Wr.af hb),(hb.block R (aal.1 h.2).1).trans h.2⟩
theorem br.grown {w0 wr wr':World}{R:Nat}{tv nv vv sv:Value}{x:aq.RW}{j:Nat}{row:Option Nat}(h:br w0 R tv nv vv sv x j wr)(hR:R<w0.heap.size)(hg:wr.grownBy wr' row)(hr:∀q,row=some q->w0.heap.size<=q):br w0 R tv nv vv sv x j wr':=
 ⟨h.1.sM hg hr,(hg.block R (aal.1 h.2).1 (fun e=>by have:=hr R e.symm;omega)).trans h.2⟩
theorem br.set {w0 wr:World}{R:Nat}{tv nv vv sv:Value}{x:aq.RW}{j:Nat}(h:br w0 R tv nv vv sv x j wr)(j':Nat):br w0 R tv nv vv sv x j' (wr.setCell ⟨R,1,none⟩ (.int .i64 (j':Nat))):=
 ⟨h.1.trans (Mv.refl _ _) (Wr.aI wr 1 _),(aas wr R 1 _ _ _ h.2).trans (by simp)⟩
theorem br.cells {w0 wr:World}{R:Nat}{tv nv vv sv:Value}{x:aq.RW}{j:Nat}(h:br w0 R tv nv vv sv x j wr):wr.cell? ⟨R,0,none⟩=some tv/\wr.cell? ⟨R,1,none⟩=some (.int .i64 (j:Nat))/\ ∀o,wr.frozen? ⟨R,o,none⟩=false:=
 ⟨by rw[aam wr R _ _ _ _ h.2];rfl,by rw[aam wr R _ _ _ _ h.2];rfl,fun o=>aaH wr R o _ _ h.2⟩
theorem br.lt {w0 wr:World}{R:Nat}{tv nv vv sv:Value}{x:aq.RW}{j:Nat}(h:br w0 R tv nv vv sv x j wr):R<wr.heap.size:=(aal.1 h.2).1
theorem br.tks {w0 wr:World}{R:Nat}{tv nv vv sv:Value}{x:aq.RW}{j:Nat}{L:List Tok}(h:br w0 R tv nv vv sv x j wr)(hR:R<w0.heap.size)(ht:my w0 R tv L):my wr R tv L:=
 ht.low fun k hk=>h.1.block k (by omega) (by omega) (by simp)
theorem br.cA {w0 wr:World}{R:Nat}{tv nv vv sv:Value}{x:aq.RW}{j:Nat}(h:br w0 R tv nv vv sv x j wr)(hR:R<w0.heap.size):Below R w0 wr:=
 ⟨h.1.os,h.1.tape,h.1.output,h.1.size,fun k hk=>h.1.block k (by omega) (by omega) (by simp)⟩
theorem br.left {w0 wr:World}{R:Nat}{tv nv vv sv:Value}{x:aq.RW}{j:Nat}(h:br w0 R tv nv vv sv x j wr)(L:List Tok):Q9 L R wr=L.length-j:=by unfold Q9;rw[h.cells.2.1];simp[intOf]
theorem br.PJ {w0 wr:World}{R:Nat}{tv:Value}{L:List Tok}{i j:Nat}{nv vv sv:Value}{ns:List Nv}{x:aq.RW}(h:br w0 R tv nv vv sv x j wr)
  (h1:WM w0 R tv L i nv vv sv ns (ae.Q0 x.vals.reverse 0) x.stack.reverse x.want x.pw x.depth) (h2:ns.map Prod.fst=ae.Zx x.vals.reverse 0):eC wr R tv L j x:=
 ⟨nv,vv,sv,ns,h1.turn h.1.size (fun k hk hR=>h.1.block k hk hR (by simp)) h.2,h2⟩
theorem T8 {P:Program}{w:World}{ops:Array Oper}{o:Oper}{a:Act}{K:Act->World->Prop}{Q:Exit->Act->World->Prop}{E:Prop}(hgd:o.guard=none)(sl x:Operand)(t u:TypeId)
  (ho:o.op=.call {callee:=.builtin .append,args:= #[sl,x],argTypes:= #[t,u]})
  (base:Nat) (e:TypeId) (i:TypeInfo) (ht:P.underlying t=some (.slice e)) (hu:P.underlying u=some .string) (hi:P.info? e=some i) (hz:i.zero=some (.int .u8 0))
  (hsize:i.size=1) (hby:i.bytes=1)
  (v:Value) (n:Nat) (xs:List Value) (hs:a.eval sl=v) (hown:w.ownsRow base e 1 v n xs) (s:ByteArray) (hx:a.eval x=.string s)
  (hbytes:n+s.size<=140737488355328) (hbase:base<=w.heap.size)
  (h:∀v' w',w'.ownsRow base e 1 v' (n+s.size) (xs++Lib.strCells s)->w.grownBy w' v.ownBlock->(v'.ownBlock=v.ownBlock\/v'.ownBlock=some w.heap.size)->K (a.put o.dst v') w'):
  if Region.wanted o (yielded ops a.tmps)=true then Oper.wp P o a w K Q else E:=by
 have T:Region.wanted o (yielded ops a.tmps)=true:=by simp[Region.wanted,hgd]
 rw[if_pos T];obtain⟨v',w',O,H,I,J⟩:=Sr (P:=P) base t u o.type e i ht hu hi hz hsize hby w v n xs hown s hbytes hbase;unfold Oper.wp execOp;simp only[ho,resolve,invoke,builtin,Sem.run_bind,Sem.run_pure,Result.andThen_ok,List.map_toArray,abK,aex,hs,hx,O];exact h v' w' H I J
theorem M8 {P:Program}{w:World}{ops:Array Oper}{o:Oper}{a:Act}{K:Act->World->Prop}{Q:Exit->Act->World->Prop}{E:Prop}(hgd:o.guard=none)(sl x:Operand)(t u:TypeId)
  (ho:o.op=.call {callee:=.builtin .append,args:= #[sl,x],argTypes:= #[t,u]})
  (base:Nat) (e:TypeId) (i:TypeInfo) (ht:P.underlying t=some (.slice e)) (hu:P.underlying u=some .string) (hi:P.info? e=some i) (hz:i.zero=some (.int .u8 0))
  (hsize:i.size=1) (hby:i.bytes=1) (g:Nat) (hs:a.eval sl=.slice (some ⟨g,0,none⟩) 1 1) (y:Value) (hg:w.cell? ⟨g,0,none⟩=some y) (s:ByteArray) (hx:a.eval x=.string s) (hs0:0<s.size)
  (hbytes:1+s.size<=140737488355328) (hbase:base<=w.heap.size)
  (h:∀v' w',w'.ownsRow base e 1 v' (1+s.size) (y::Lib.strCells s)->w.grownBy w' none->K (a.put o.dst v') w'):
  if Region.wanted o (yielded ops a.tmps)=true then Oper.wp P o a w K Q else E:=by
 have O:Region.wanted o (yielded ops a.tmps)=true:=by simp[Region.wanted,hgd]
 rw[if_pos O];obtain⟨v',w',J,H,I⟩:=T7 (P:=P) base t u o.type e i ht hu hi hz hsize hby w g y hg s hs0 hbytes hbase;unfold Oper.wp execOp;simp only[ho,resolve,invoke,builtin,Sem.run_bind,Sem.run_pure,Result.andThen_ok,List.map_toArray,abK,aex,hs,hx,J];exact h v' w' H I
def EL (fin:Nat)(x:aq.RW)(L:List Tok)(rr:aq.kU)(w0:World)(R:Nat)(tv nv vv sv sl fv:Value)(wr:World):Prop:=
 ∃j acc cur,fv=.bool (decide (cur=[]))/\br w0 R tv nv vv sv x j wr/\aq.J4 fin acc cur ⟨L.drop j,x.depth⟩ rr/\j<=L.length/\(aq.Xd acc cur).length<=1+j*1048580/\((acc=[]/\cur=[]/\sl=.slice (some ⟨w0.heap.size,0,none⟩) 1 1/\wr.cell? ⟨w0.heap.size,0,none⟩=some (.int .u8 123)/\w0.heap.size<wr.heap.size)\/(¬(acc=[]/\cur=[])/\cz w0.heap.size wr sl (aq.Xd acc cur)))
theorem cz.xV {B R o:Nat}{w:World}{v:Value}{l:Bytes}(h:cz B w v l)(hR:R<B)(u:Value):cz B (w.setCell ⟨R,o,none⟩ u) v l:=
 Su h (aaa _) fun q hq=>aaX w ⟨R,o,none⟩ q u (by have:=(aaZ h q hq).1;show q≠R;omega)
def qO:List Nat->Bytes
 | []=>[]
 |_::_=>[32]
theorem Qff (cur:List Nat):(if cur=[] then ([]:Bytes) else [32])=qO cur:=by
 cases cur with
 |nil=>rfl
 |cons a l=>rfl
theorem Qfc {cur:List Nat}(h:cur≠[]):qO cur=[32]:=by
 cases cur with
 |nil=>exact absurd rfl h
 |cons a l=>rfl
theorem Fa (cur:List Nat):(qO cur).length<=1:=by
 cases cur with
 |nil=>exact aao _
 |cons a l=>exact aaa _
def ZQ (x:aq.RW)(rr:aq.kU):aq.MR:=match rr with
 | .ok (l,s)=>aq.has x (.cpx l) s.ts
 | .error e=> .error e
theorem Hw {L:List Tok}{j:Nat}{t:Tok}(h:L[j]?=some t):L.drop j=t::L.drop (j+1):=by have E:=(aae.1 h).1;rw[aaS E];congr 1;have:=aad E;rw[h]at this;exact(aax this).symm
theorem H9 {b:Bytes}(h:b.length<=1048576):0<(ae.ar (ae.Xg b)).length/\(ae.ar (ae.Xg b)).length<=1048576:=
 ⟨adJ.2 (ae.Tp _),by have:=Kz b;omega⟩
theorem Na {w:World}{R g cap n:Nat}{L:List Tok}(h:my w R (.slice (some ⟨g,0,none⟩) n cap) L){j:Nat}{t:Tok}(ht:L[j]?=some t):w.cell? ⟨g,j*3+1,none⟩=some (.string ⟨t.2.1.toArray⟩)/\g<R:=by
 obtain⟨ao',cap',e,-,-,a3⟩:=h;obtain⟨g',e2,E,b3⟩:=a3 (by have:=(aae.1 ht).1;omega);simp only[Value.slice.injEq]at e;rw[<-e.1]at e2
 cases e2
 exact⟨(b3 j t ht).2.1,E⟩
theorem Qda (UW : Ij) : TR := by
  intro R tv L fin a0 x w h hm hd ha iA bT hsz
  obtain ⟨a, yI⟩ : ∃ a, a = a0 + 1 := ⟨_, rfl⟩
  rw [← yI] at h
  obtain ⟨i0, hi, hz0, hz1, hz2⟩ := abO Tryz.jM
  obtain ⟨nv, vv, sv, ns, h1, h2⟩ := h
  have aT := h1.lt
  have VP := zq h1
  have QH := zq h2
  have jJ := h1.tks
  obtain ⟨ao, cap, nh, t1, t2, t3⟩ := jJ
  obtain ⟨g, hao, yQ, -⟩ := t3 (by omega)
  subst hao
  have jJ := h1.tks
  rw [nh] at jJ
  have jT := zq jJ
  have qU := zq nh
  have ey := zq bT
  have dN := zq hsz
  obtain ⟨n, hn⟩ : ∃ n, n = L.length := ⟨_, rfl⟩
  have HN := zq hn
  rw [← hn] at nh iA ha jT
  have vR : Hid (WM w R (.slice (some ⟨g, 0, none⟩) n cap) L a nv vv sv ns (ae.Q0 x.vals.reverse 0) x.stack.reverse x.want x.pw x.depth) := by rw [← nh]; exact h1
  have xC : x.ts.tail = L.drop a := by rw [← hd, adS, yI]
  have hab : a ≤ n := by omega
  clear yI
  obtain ⟨c0, c1, -, -, -, -, -, -⟩ := h1.cells
  have f1 := h1.eD 1
  rw [nh] at c0
  have hst := br.start h1
  rw [nh] at hst
  have bt := Qq w (.cells #[.int .u8 123] 5 (1, 2))
  have uh := hst.below bt
  have JL := zq uh
  have HIS := zq (Rt R _ L a [125] _ uh.cells.1 (uh.tks aT jT.o) (by omega))
  have kc := fun (w : World) (C : Array Value) (n c : Nat) => Lib.run_convert_bytes_const (P := Tryz.prog) w 88 5 C n c Tryz.underlying88 Tryz.underlying5
  have oh : Hid ((w.alloc (.cells #[.int .u8 123] 5 (1, 2))).cell? ⟨w.heap.size, 0, none⟩ = some (.int .u8 123)) := (World.cell?_alloc_mark w #[.int .u8 123] 5 (1, 2) 0).trans rfl
  by_cases he : ae.Qv [125] (L.drop a) = true
  · have HE : Hid (lp fin x = .ok { x with ts := L.drop ((a + 1)), vals := .cpx [] :: x.vals, want := false, pw := false }) := by
      show _ = _
      unfold lp ae.Q8 ae.want
      rw [if_pos (show ae.Qv [123] (⟨x.ts, x.depth⟩ : ae.St).ts = true from hm)]
      simp only [ae.Y9]
      rw [if_pos (show ae.Qv [125] (ae.St.aW ⟨x.ts, x.depth⟩).ts = true by
        show ae.Qv [125] x.ts.tail = true
        rw [xC]; exact he)]
      show aq.has x (.cpx []) x.ts.tail.tail = _
      rw [xC, adS]; rfl
    have kr : (a + 1) ≤ n := by
      have := aq.Ji he
      have h3 : ¬ L.length ≤ a := fun h => this (aaR h)
      omega
    rw [he] at HIS
    obtain ⟨b, hb⟩ : ∃ b, b = a + 1 := ⟨_, rfl⟩
    have hb1 : ((a : Nat) : Int) + 1 = ((b : Nat) : Int) := by omega
    have hb2 : IntKind.i64.wrap ((b : Nat) : Int) = ((b : Nat) : Int) := abL _ (by omega)
    have j6 := zq hb
    rw [← hb] at HE kr
    clear hst uh bt h1 h2 hm hd ha bT hsz hn xC he hb jJ t1 t2 t3
    go_enter Tryz.func86, Tryz.ntmps86
    go_wp2_with fail
    refine HIS.o.mono ?_
    rintro e w1 ⟨rfl, hb1⟩
    have dK := JL.o.below hb1
    have AU := zq dK
    obtain ⟨c0', c1', f'⟩ := dK.cells
    have f1' := f' 1
    have aY := dK.set b
    have oc : Hid (Calls Tryz.prog 148 #[.pointer (some ⟨R, 0, none⟩), .int .i64 13, .string ⟨#[123, 125]⟩] (w1.setCell ⟨R, 1, none⟩ (.int .i64 (b : Nat))) fun e' w' => e' = .returned (.tuple #[]) ∧ Below R (w1.setCell ⟨R, 1, none⟩ (.int .i64 (b : Nat))) w' ∧ eC w' R (.slice (some ⟨g, 0, none⟩) n cap) L b { x with ts := L.drop b, vals := .cpx [] :: x.vals, want := false, pw := false }) :=
      Ay R _ L b x _ (aY.PJ vR.o QH.o) (Qhb []) dN.o (by decide) (L.drop b)
    have PU : Hid (Below R w (w1.setCell ⟨R, 1, none⟩ (.int .i64 (b : Nat)))) := aY.cA aT
    clear hb1 dK aY f' c0 c1 f1
    go_wp2_with fail
    refine oc.o.mono ?_
    rintro e w2 ⟨rfl, hb2, hw2⟩
    have aD := zq (PU.o.trans hb2)
    have dz := zq hw2
    clear hb2 hw2
    go_wp2_with fail
    go_ret2
    refine ⟨aD.o, ?_⟩
    rw [HE.o]
    exact ⟨rfl, b, by rw [qU.o, ← HN.o]; exact dz.o, rfl, by rw [← HN.o]; exact kr⟩
  have hef : ae.Qv [125] (L.drop a) = false := by simpa using he
  obtain ⟨rr, jH⟩ : ∃ rr, ae.Q8 fin (x.ts.length + 2) ⟨x.ts, x.depth⟩ = some rr := by
    have hg := ae.Wj fin (x.ts.length + 2) (s := ⟨x.ts, x.depth⟩) (aaa _) (aaa _)
    cases hL : ae.Q8 fin (x.ts.length + 2) ⟨x.ts, x.depth⟩ with
    | none => rw [hL] at hg; exact hg.elim
    | some r => exact ⟨r, rfl⟩
  have iW : Hid (lp fin x = ZQ x rr) := by
    show _ = _
    unfold lp
    simp only [jH]
    cases rr with
    | error e => rfl
    | ok p => rfl
  have hCA : aq.J4 fin [] [] ⟨L.drop a, x.depth⟩ rr := by
    unfold ae.Q8 ae.want at jH
    rw [if_pos (show ae.Qv [123] (⟨x.ts, x.depth⟩ : ae.St).ts = true from hm)] at jH
    simp only [ae.Y9] at jH
    rw [if_neg (show ¬ ae.Qv [125] (ae.St.aW ⟨x.ts, x.depth⟩).ts = true by
      show ¬ ae.Qv [125] x.ts.tail = true
      rw [xC, hef]; decide)] at jH
    unfold aq.J4
    rw [if_pos rfl]
    refine ⟨x.ts.length + 2, ?_⟩
    rw [← xC]
    exact jH
  have HCA := zq hCA
  rw [hef] at HIS
  clear hst uh bt h1 h2 hm hd bT hsz hn xC he hef jJ t1 t2 t3 jH hCA
  go_enter Tryz.func86, Tryz.ntmps86
  go_wp2_with fail
  refine HIS.o.mono ?_
  rintro e w1 ⟨rfl, hb1⟩
  have dK := JL.o.below hb1
  have HST : Hid (EL fin x L rr w R (.slice (some ⟨g, 0, none⟩) n cap) nv vv sv (.slice (some ⟨w.heap.size, 0, none⟩) 1 1) (.bool true) w1) := by
    refine ⟨a, [], [], by simp, dK, HCA.o, by rw [← HN.o]; omega, by simp [aq.Xd, ae.Qb], .inl ⟨rfl, rfl, rfl, ?_, ?_⟩⟩
    · exact (hb1.cell (p := ⟨w.heap.size, 0, none⟩) (by simp)).trans oh.o
    have := hb1.size
    simp at this
    omega
  clear hb1 dK c0 c1 f1
  go_wp2_with fail
  go_loopw [4, 5] (fun sl fv wr => EL fin x L rr w R (.slice (some ⟨g, 0, none⟩) n cap) nv vv sv sl fv wr) (fun _ _ wr => Q9 L R wr)
  case atStart => exact HST.o
  case round =>
    obtain ⟨j, acc, cur, rfl, dK, hca, jA, hlen, mM⟩ := hrel
    rw [← HN.o] at jA
    have AU := zq dK
    have rF := zq hca
    have l9 := zq mM
    have HLEN := zq hlen
    have eP := dK.left L
    have zM := zq eP
    have hRw := dK.lt
    obtain ⟨c0, c1, f⟩ := dK.cells
    have f1 := f 1
    have bT := dK.tks aT jT.o
    have vP := zq (Hh R _ L j wr c0 bT (by omega))
    have zh : w.heap.size ≤ wr.heap.size := dK.1.size
    obtain ⟨b, hb⟩ : ∃ b, b = j + 1 := ⟨_, rfl⟩
    have hb1 : ((j : Nat) : Int) + 1 = ((b : Nat) : Int) := by omega
    have hb2 : IntKind.i64.wrap ((b : Nat) : Int) = ((b : Nat) : Int) := abL _ (by omega)
    have j6 := zq hb
    clear dK hca mM hlen f eP
    by_cases cS : ae.Qm 1 (L.drop j) = true
    · have hk : (((cd L j : Nat) : Int) == 1) = true := by
        rw [J0 (by decide)] at cS
        simp at cS
        simp [cS]
      obtain ⟨t, ht⟩ : ∃ t, L[j]? = some t := by
        cases h : L[j]? with
        | some t => exact ⟨t, rfl⟩
        | none => rw [Wv, h] at cS; cases cS
      have xj : j < n := by
        have := (aae.1 ht).1
        rw [HN.o]; exact this
      have pH : t.1 = 1 := by
        rw [Wv, ht] at cS
        simpa using cS
      obtain ⟨w1a, w2a, w3a, w4a⟩ := ey.o t (aah ht) pH
      have EO := zq (fun w5 => UW t.2.1 w5 w1a w2a w3a w4a)
      obtain ⟨SM, oK⟩ := H9 w3a
      have tE : ae.Xx (L.drop j) = t.2.1 := by rw [Hw ht]; rfl
      obtain ⟨e2, fe⟩ := Na bT ht
      obtain ⟨TX, yG⟩ : ∃ TX : ByteArray, TX = ⟨t.2.1.toArray⟩ := ⟨_, rfl⟩
      rw [← yG] at e2 EO
      obtain ⟨D, hD⟩ : ∃ D, D = ae.ar (ae.Xg t.2.1) := ⟨_, rfl⟩
      rw [← hD] at EO SM oK
      obtain ⟨DB, hDB⟩ : ∃ DB : ByteArray, DB = ⟨D.toArray⟩ := ⟨_, rfl⟩
      rw [← hDB] at EO
      have LD : DB.size = D.length := by rw [hDB]; show D.toArray.size = _; simp
      have FY := zq LD
      have hDp : 0 < DB.size := by omega
      have hDb : DB.size ≤ 1048576 := by omega
      have x7 : Hid (Lib.strCells DB = Qr D) := by show _ = _; rw [hDB, Wp, Sw]
      have lU : Hid (aq.J4 fin acc (cur ++ [ae.Xg t.2.1]) ⟨L.drop b, x.depth⟩ rr) := by
        have := aq.Qbv rF.o cS
        rw [tE] at this
        have e : (ae.St.aW ⟨L.drop j, x.depth⟩) = ⟨L.drop b, x.depth⟩ := by
          show (⟨(L.drop j).tail, x.depth⟩ : ae.St) = _
          rw [adS, j6.o]
        rw [e] at this
        exact this
      have yq : Hid (aq.Xd acc (cur ++ [ae.Xg t.2.1]) = aq.Xd acc cur ++ (qO cur ++ D)) := by
        show _ = _
        rw [aq.Qz4, hD, Qff]
      have oJ : b ≤ n := by omega
      clear cS ht pH w1a w2a w3a w4a tE yG hD hDB LD hb
      go_wp2_with fail
      refine vP.o.mono ?_
      rintro e wk ⟨rfl, bA⟩
      have dK := AU.o.below bA
      have oy := zq dK
      have e0 := dK.cells.1
      have e1 := dK.cells.2.1
      have iL := dK.lt
      have hzk : w.heap.size ≤ wk.heap.size := dK.1.size
      have wL : wk.cell? ⟨g, j * 3 + 1, none⟩ = some (.string TX) := (bA.cell (p := ⟨g, j * 3 + 1, none⟩) (by show g < _; omega)).trans e2
      have lC : g < wk.heap.size := by omega
      have j5 := zq bA
      clear dK bA c0 c1 f1 e2 bT
      rcases l9.o with ⟨hac, qq, iE, vd, hmz⟩ | ⟨bf, hown⟩
      ·
        subst hac
        subst qq
        subst iE
        have NQ : wk.cell? ⟨w.heap.size, 0, none⟩ = some (.int .u8 123) := (j5.o.cell (p := ⟨w.heap.size, 0, none⟩) hmz).trans vd
        have VS := zq NQ
        have abe : w.heap.size < wk.heap.size := aaj hmz j5.o.size
        clear vd NQ
        go_wp2_with fail
        go_region_held3 (fun w' => w'.cell? ⟨R, 0, none⟩ = some (.slice (some ⟨g, 0, none⟩) n cap) ∧ w'.cell? ⟨R, 1, none⟩ = some (.int .i64 (j : Nat)) ∧ w'.cell? ⟨g, j * 3 + 1, none⟩ = some (.string TX))
          (first
            | go_keep
            | exact ⟨(bL.cell (p := ⟨R, 0, none⟩) iL).trans e0, (bL.cell (p := ⟨R, 1, none⟩) iL).trans e1, (bL.cell (p := ⟨g, j * 3 + 1, none⟩) lC).trans wL⟩
            | (go_split_ands
               refine ⟨?_, ?_, ?_⟩
               · (rw [hgrow.cell_far _ (by have := bL.size; simp at this ⊢; omega) (by simp)]; assumption)
               · (rw [hgrow.cell_far _ (by have := bL.size; simp at this ⊢; omega) (by simp)]; assumption)
               (rw [hgrow.cell_far _ (by have := bL.size; simp at this ⊢; omega) (by simp)]; assumption)))
          ((first
            | (go_at_call 149; refine (EO.o _).mono ?_; rintro e w5 ⟨rfl, bL⟩)
            | (refine M8 (by rfl) _ _ 88 9 (by rfl) w.heap.size 5 i0 Tryz.underlying88 Tryz.underlying9 hi hz0 hz1 hz2 w.heap.size (by rfl) _ (by exact (bL.cell (p := ⟨w.heap.size, 0, none⟩) abe).trans VS.o) DB (by rfl) (by omega) (by omega) (by have := bL.size; simp at this ⊢; omega) ?_; intro v6 w6 cm hgrow)))
        have mG : Below wk.heap.size wk w5 := (below_drewN wk 1).trans bL
        have jK := (oy.o.below mG).grown aT hgrow (fun q hq => by cases hq)
        have I3 : Hid (cz w.heap.size w6 v6 (aq.Xd [] ([] ++ [ae.Xg t.2.1]))) := by
          show World.ownsRow _ _ _ _ _ _ _
          rw [yq.o]
          have e : qO [] ++ D = D := rfl
          rw [e]
          have e2 : (aq.Xd [] [] ++ D).length = 1 + DB.size := by rw [aac, FY.o]; rfl
          rw [e2]
          have e3 : Qr (aq.Xd [] [] ++ D) = .int .u8 123 :: Qr D := rfl
          rw [e3, ← x7.o]
          exact cm
        have iB : (aq.Xd [] ([] ++ [ae.Xg t.2.1])).length ≤ 1 + b * 1048580 := by
          rw [yq.o, aac, aac]
          have h1 := HLEN.o
          have h2 := FY.o
          have h3 := j6.o
          have h4 := Fa []
          omega
        obtain ⟨-, c1, f⟩ := jK.cells
        have f1 := f 1
        have aR : Hid (EL fin x L rr w R (.slice (some ⟨g, 0, none⟩) n cap) nv vv sv v6 (.bool false) (w6.setCell ⟨R, 1, none⟩ (.int .i64 (b : Nat))) ∧ Q9 L R (w6.setCell ⟨R, 1, none⟩ (.int .i64 (b : Nat))) < Q9 L R wr) := by
          have hs := jK.set b
          refine ⟨⟨b, [], [] ++ [ae.Xg t.2.1], by simp, hs, lU.o, by rw [← HN.o]; exact oJ, iB, .inr ⟨by simp, I3.o.xV aT _⟩⟩, ?_⟩
          rw [hs.left L, zM.o, ← HN.o]
          have := j6.o
          omega
        clear bL mG jK iB f cm hgrow e0 e1 wL
        go_wp2_with fail
        exact aR.o
      obtain ⟨m, hm⟩ : ∃ m, m = (aq.Xd acc cur).length := ⟨_, rfl⟩
      have NP : m ≤ 1 + j * 1048580 := by rw [hm]; exact HLEN.o
      have HM := zq hm
      have jF : wk.ownsRow w.heap.size 5 1 u4 m (Qr (aq.Xd acc cur)) := by
        rw [hm]
        exact Qg hown j5.o (aaa _)
      clear hm
      by_cases qq : cur = []
      · have oq : Hid (some R ≠ u4.ownBlock) := fun e => by
          have := (aaZ jF R e.symm).1
          omega
        have oo : Hid (some g ≠ u4.ownBlock) := fun e => by
          have := (aaZ jF g e.symm).1
          omega
        have HOWN := zq jF
        obtain ⟨bo, gW, OC, -⟩ := Qj jF
        subst OC
        subst qq
        clear hown jF
        go_wp2_with fail
        go_region_held3 (fun w' => w'.cell? ⟨R, 0, none⟩ = some (.slice (some ⟨g, 0, none⟩) n cap) ∧ w'.cell? ⟨R, 1, none⟩ = some (.int .i64 (j : Nat)) ∧ w'.cell? ⟨g, j * 3 + 1, none⟩ = some (.string TX))
          (first
            | go_keep
            | exact ⟨(bL.cell (p := ⟨R, 0, none⟩) iL).trans e0, (bL.cell (p := ⟨R, 1, none⟩) iL).trans e1, (bL.cell (p := ⟨g, j * 3 + 1, none⟩) lC).trans wL⟩
            | (go_split_ands
               refine ⟨?_, ?_, ?_⟩
               · (rw [hgrow.cell_far _ (by have := bL.size; simp at this ⊢; omega) (by first | exact oq.o | exact oo.o)]; assumption)
               · (rw [hgrow.cell_far _ (by have := bL.size; simp at this ⊢; omega) (by first | exact oq.o | exact oo.o)]; assumption)
               (rw [hgrow.cell_far _ (by have := bL.size; simp at this ⊢; omega) (by first | exact oq.o | exact oo.o)]; assumption)))
          ((first
            | (go_at_call 149; refine (EO.o _).mono ?_; rintro e w5 ⟨rfl, bL⟩)
            | (refine T8 (by rfl) _ _ 88 9 (by rfl) w.heap.size 5 i0 Tryz.underlying88 Tryz.underlying9 hi hz0 hz1 hz2 _ _ _ (by rfl) (by exact Qg HOWN.o ((below_drewN wk 1).trans bL) (aaa _)) DB (by rfl) (by omega) (by have := bL.size; simp at this ⊢; omega) ?_; intro v6 w6 cm hgrow lz)))
        have mG : Below wk.heap.size wk w5 := (below_drewN wk 1).trans bL
        have jK := (oy.o.below mG).grown aT hgrow (fun q hq => (aaZ HOWN.o q hq).1)
        have I3 : Hid (cz w.heap.size w6 v6 (aq.Xd acc ([] ++ [ae.Xg t.2.1]))) := by
          show World.ownsRow _ _ _ _ _ _ _
          rw [yq.o]
          have e : qO [] ++ D = D := rfl
          rw [e]
          have e2 : (aq.Xd acc [] ++ D).length = m + DB.size := by rw [aac, FY.o, ← HM.o]
          rw [e2, Qo, ← x7.o]
          exact cm
        have iB : (aq.Xd acc ([] ++ [ae.Xg t.2.1])).length ≤ 1 + b * 1048580 := by
          rw [yq.o, aac, aac]
          have h1 := HLEN.o
          have h2 := FY.o
          have h3 := j6.o
          have h4 := Fa []
          omega
        obtain ⟨-, c1, f⟩ := jK.cells
        have f1 := f 1
        have aR : Hid (EL fin x L rr w R (.slice (some ⟨g, 0, none⟩) n cap) nv vv sv v6 (.bool false) (w6.setCell ⟨R, 1, none⟩ (.int .i64 (b : Nat))) ∧ Q9 L R (w6.setCell ⟨R, 1, none⟩ (.int .i64 (b : Nat))) < Q9 L R wr) := by
          have hs := jK.set b
          refine ⟨⟨b, acc, [] ++ [ae.Xg t.2.1], by simp, hs, lU.o, by rw [← HN.o]; exact oJ, iB, .inr ⟨by simp, I3.o.xV aT _⟩⟩, ?_⟩
          rw [hs.left L, zM.o, ← HN.o]
          have := j6.o
          omega
        clear bL mG jK iB f cm hgrow e0 e1 wL
        go_wp2_with fail
        exact aR.o
      have GH : decide (cur = []) = false := abC qq
      rw [GH]
      have yj := zq jF
      clear hown jF
      go_wp2_with (at_builtin; refine adv _ rfl _ _ 88 rfl w.heap.size 5 i0 (.int .u8 0) 1 1 Tryz.underlying88 hi hz0 hz1 hz2 rfl (by decide) _ _ _ rfl (abj yj.o _) ⟨wk.heap.size, 0, none⟩ 1 1 [.int .u8 32] rfl rfl (ag.Qh _ _ _ _ rfl) (by simp [Value.oneCell']) (by unfold maxLen; omega) (by omega) (by simp; omega) ?_)
      intro v3 w3 au ak _ fA
      have mH := Qq wk (.cells #[.int .u8 32] 5)
      have fP := (oy.o.below mH).grown aT ak (fun q hq => (aaZ yj.o q hq).1)
      have XJ := zq fP
      have e0' := fP.cells.1
      have e1' := fP.cells.2.1
      have LL := fP.lt
      have hz3 : w.heap.size ≤ w3.heap.size := fP.1.size
      have Lp : w3.cell? ⟨g, j * 3 + 1, none⟩ = some (.string TX) := by
        have h9 := (fP.cA aT).cell (p := ⟨g, j * 3 + 1, none⟩) (by show g < R; exact yQ)
        have h8 := (oy.o.cA aT).cell (p := ⟨g, j * 3 + 1, none⟩) (by show g < R; exact yQ)
        exact h9.trans (h8.symm.trans wL)
      have HOWN : Hid (w3.ownsRow w.heap.size 5 1 v3 (m + 1) (Qr (aq.Xd acc cur ++ [32]))) := by
        show World.ownsRow _ _ _ _ _ _ _
        rw [Qo]
        exact au
      have oq : Hid (some R ≠ v3.ownBlock) := fun e => by
        have := (aaZ HOWN.o R e.symm).1
        omega
      have oo : Hid (some g ≠ v3.ownBlock) := fun e => by
        have := (aaZ HOWN.o g e.symm).1
        omega
      obtain ⟨bo, gW, OC, -⟩ := Qj HOWN.o
      subst OC
      clear e0 e1 wL iL lC hzk au ak fA mH fP
      have e0 := e0'
      have e1 := e1'
      have wL := Lp
      have iL := LL
      have lC : g < w3.heap.size := by omega
      clear e0' e1' Lp LL
      go_wp2_with fail
      go_region_held3 (fun w' => w'.cell? ⟨R, 0, none⟩ = some (.slice (some ⟨g, 0, none⟩) n cap) ∧ w'.cell? ⟨R, 1, none⟩ = some (.int .i64 (j : Nat)) ∧ w'.cell? ⟨g, j * 3 + 1, none⟩ = some (.string TX))
        (first
          | go_keep
          | exact ⟨(bL.cell (p := ⟨R, 0, none⟩) iL).trans e0, (bL.cell (p := ⟨R, 1, none⟩) iL).trans e1, (bL.cell (p := ⟨g, j * 3 + 1, none⟩) lC).trans wL⟩
          | (go_split_ands
             refine ⟨?_, ?_, ?_⟩
             · (rw [hgrow.cell_far _ (by have := bL.size; simp at this ⊢; omega) (by first | exact oq.o | exact oo.o)]; assumption)
             · (rw [hgrow.cell_far _ (by have := bL.size; simp at this ⊢; omega) (by first | exact oq.o | exact oo.o)]; assumption)
             (rw [hgrow.cell_far _ (by have := bL.size; simp at this ⊢; omega) (by first | exact oq.o | exact oo.o)]; assumption)))
        ((first
          | (go_at_call 149; refine (EO.o _).mono ?_; rintro e w5 ⟨rfl, bL⟩)
          | (refine T8 (by rfl) _ _ 88 9 (by rfl) w.heap.size 5 i0 Tryz.underlying88 Tryz.underlying9 hi hz0 hz1 hz2 _ _ _ (by rfl) (by exact Qg HOWN.o ((below_drewN w3 1).trans bL) (aaa _)) DB (by rfl) (by omega) (by have := bL.size; simp at this ⊢; omega) ?_; intro v6 w6 cm hgrow lz)))
      have mG : Below w3.heap.size w3 w5 := (below_drewN w3 1).trans bL
      have jK := (XJ.o.below mG).grown aT hgrow (fun q hq => (aaZ HOWN.o q hq).1)
      have I3 : Hid (cz w.heap.size w6 v6 (aq.Xd acc (cur ++ [ae.Xg t.2.1]))) := by
        show World.ownsRow _ _ _ _ _ _ _
        rw [yq.o]
        rw [Qfc qq, ← aar]
        have e2 : (aq.Xd acc cur ++ [32] ++ D).length = m + 1 + DB.size := by rw [aac, aac, FY.o, ← HM.o]; rfl
        rw [e2, Qo _ D, ← x7.o]
        exact cm
      have iB : (aq.Xd acc (cur ++ [ae.Xg t.2.1])).length ≤ 1 + b * 1048580 := by
        rw [yq.o, aac, aac]
        have h1 := HLEN.o
        have h2 := FY.o
        have h3 := j6.o
        have h4 := Fa cur
        omega
      obtain ⟨-, c1, f⟩ := jK.cells
      have f1 := f 1
      have aR : Hid (EL fin x L rr w R (.slice (some ⟨g, 0, none⟩) n cap) nv vv sv v6 (.bool false) (w6.setCell ⟨R, 1, none⟩ (.int .i64 (b : Nat))) ∧ Q9 L R (w6.setCell ⟨R, 1, none⟩ (.int .i64 (b : Nat))) < Q9 L R wr) := by
        have hs := jK.set b
        refine ⟨⟨b, acc, cur ++ [ae.Xg t.2.1], by simp, hs, lU.o, by rw [← HN.o]; exact oJ, iB, .inr ⟨by simp, I3.o.xV aT _⟩⟩, ?_⟩
        rw [hs.left L, zM.o, ← HN.o]
        have := j6.o
        omega
      clear bL mG jK iB f cm hgrow e0 e1 wL
      go_wp2_with fail
      exact aR.o
    have jB : ae.Qm 1 (L.drop j) = false := by simpa using cS
    have hk : (((cd L j : Nat) : Int) == 1) = false := by
      rw [J0 (by decide)] at jB
      simp at jB
      simp
      omega
    have BS : (ae.St.aW ⟨L.drop j, x.depth⟩) = ⟨L.drop b, x.depth⟩ := by
      show (⟨(L.drop j).tail, x.depth⟩ : ae.St) = _
      rw [adS, j6.o]
    have rz := zq BS
    have hmj : ∀ y, ae.Qv y (L.drop j) = true → b ≤ n := by
      intro y hy
      have := aq.Ji hy
      have h3 : ¬ L.length ≤ j := fun h => this (aaR h)
      rw [← HN.o] at h3
      have := j6.o
      omega
    have HMJ := zq hmj
    clear cS BS hmj hb
    by_cases qq : cur = []
    · subst qq
      have bu := aq.Qbz rF.o jB
      have HE : Hid (lp fin x = .error (ae.X5 fin (L.drop j), 14)) := by show _ = _; rw [iW.o, bu]; rfl
      clear bu jB bT
      go_wp2_with fail
      refine vP.o.mono ?_
      rintro e wk ⟨rfl, bA⟩
      have dK := AU.o.below bA
      have e1 := dK.cells.2.1
      have uJ : Hid (Below R w wk) := dK.cA aT
      clear dK bA c0 c1 f1
      go_wp2_with fail
      go_ret2
      refine ⟨uJ.o, ?_⟩
      rw [HE.o]
      exact ⟨j, rfl, rfl, by decide⟩
    have hown : cz w.heap.size wr u4 (aq.Xd acc cur) := by
      rcases l9.o with ⟨-, aaD, -⟩ | ⟨-, ho⟩
      · exact absurd aaD qq
      exact ho
    have GH : decide (cur = []) = false := abC qq
    rw [GH]
    obtain ⟨m, hm⟩ : ∃ m, m = (aq.Xd acc cur).length := ⟨_, rfl⟩
    have NP : m ≤ 1 + j * 1048580 := by rw [hm]; exact HLEN.o
    have HM := zq hm
    have UM := zq qq
    have zK := zq jB
    have HOWN := zq hown
    clear hm hown qq jB bT GH
    go_wp2_with fail
    refine vP.o.mono ?_
    rintro e wk ⟨rfl, bA⟩
    have dK := AU.o.below bA
    have oy := zq dK
    have e1 := dK.cells.2.1
    have ye := zq (Rt R _ L j [44] wk dK.cells.1 (dK.tks aT jT.o) (by omega))
    have ym : Hid (wk.ownsRow w.heap.size 5 1 u4 m (Qr (aq.Xd acc cur))) := by
      show World.ownsRow _ _ _ _ _ _ _
      rw [HM.o]
      exact Qg HOWN.o bA (aaa _)
    clear dK bA c0 c1 f1
    by_cases FX : ae.Qv [44] (L.drop j) = true
    · have oJ := HMJ.o _ FX
      have lU : Hid (aq.J4 fin (acc ++ [cur]) [] ⟨L.drop b, x.depth⟩ rr) := by
        have := aq.Qgx rF.o zK.o UM.o FX
        rw [rz.o] at this
        exact this
      rw [FX] at ye
      clear FX
      go_wp2_with fail
      refine ye.o.mono ?_
      rintro e wm ⟨rfl, kN⟩
      have vq := oy.o.below kN
      have QT := zq vq
      have hzm : w.heap.size ≤ wm.heap.size := vq.1.size
      have I5 : Hid (wm.ownsRow w.heap.size 5 1 u4 m (Qr (aq.Xd acc cur))) := Qg ym.o kN (aaa _)
      clear vq kN e1
      go_wp2_with (at_builtin; refine adv _ rfl _ _ 88 rfl w.heap.size 5 i0 (.int .u8 0) 1 1 Tryz.underlying88 hi hz0 hz1 hz2 rfl (by decide) _ _ _ rfl (abj I5.o _) ⟨wm.heap.size, 0, none⟩ 2 2 [.int .u8 44, .int .u8 32] rfl rfl (ag.Qh _ _ _ _ rfl) (by simp [Value.oneCell']) (by unfold maxLen; omega) (by omega) (by simp; omega) ?_)
      intro v3 w3 au ak _ fA
      have mH := Qq wm (.cells #[.int .u8 44, .int .u8 32] 5)
      have fP := (QT.o.below mH).grown aT ak (fun q hq => (aaZ I5.o q hq).1)
      have eM : Hid (cz w.heap.size w3 v3 (aq.Xd (acc ++ [cur]) [])) := by
        show World.ownsRow _ _ _ _ _ _ _
        rw [aq.Kg]
        have e2 : (aq.Xd acc cur ++ [44, 32]).length = m + 2 := by rw [aac, ← HM.o]; rfl
        rw [e2, Qo]
        exact au
      have yU : (aq.Xd (acc ++ [cur]) []).length ≤ 1 + b * 1048580 := by
        rw [aq.Kg, aac, ← HM.o]
        have := j6.o
        simp only [aaf, aaG]
        omega
      obtain ⟨-, c1, f⟩ := fP.cells
      have f1 := f 1
      have aR : Hid (EL fin x L rr w R (.slice (some ⟨g, 0, none⟩) n cap) nv vv sv v3 (.bool true) (w3.setCell ⟨R, 1, none⟩ (.int .i64 (b : Nat))) ∧ Q9 L R (w3.setCell ⟨R, 1, none⟩ (.int .i64 (b : Nat))) < Q9 L R wr) := by
        have hs := fP.set b
        refine ⟨⟨b, acc ++ [cur], [], by simp, hs, lU.o, by rw [← HN.o]; exact oJ, yU, .inr ⟨by simp, eM.o.xV aT _⟩⟩, ?_⟩
        rw [hs.left L, zM.o, ← HN.o]
        have := j6.o
        omega
      clear fP yU f au ak fA mH
      go_wp2_with fail
      exact aR.o
    have wN : ae.Qv [44] (L.drop j) = false := by simpa using FX
    rw [wN] at ye
    go_wp2_with fail
    refine ye.o.mono ?_
    rintro e wm ⟨rfl, kN⟩
    have vq := oy.o.below kN
    have QT := zq vq
    have e1m := vq.cells.2.1
    have yf := zq (Rt R _ L j [125] wm vq.cells.1 (vq.tks aT jT.o) (by omega))
    have I5 : Hid (wm.ownsRow w.heap.size 5 1 u4 m (Qr (aq.Xd acc cur))) := Qg ym.o kN (aaa _)
    clear vq kN e1 FX
    by_cases ql : ae.Qv [125] (L.drop j) = true
    · have oJ := HMJ.o _ ql
      have bu := aq.Qbj rF.o zK.o UM.o ql
      have HE : Hid (lp fin x = .ok { x with ts := L.drop b, vals := .cpx (acc ++ [cur]) :: x.vals, want := false, pw := false }) := by
        show _ = _
        rw [iW.o, bu, rz.o]; rfl
      rw [ql] at yf
      clear ql wN bu
      go_wp2_with fail
      refine yf.o.mono ?_
      rintro e wq ⟨rfl, nQ⟩
      have kS := QT.o.below nQ
      obtain ⟨-, c1, f⟩ := kS.cells
      have f1 := f 1
      have rp := kS.set b
      have lX := zq rp
      have hzq : w.heap.size ≤ wq.heap.size := kS.1.size
      have HOq : Hid ((wq.setCell ⟨R, 1, none⟩ (.int .i64 (b : Nat))).ownsRow w.heap.size 5 1 u4 m (Qr (aq.Xd acc cur))) := by
        refine Su (Qg I5.o nQ (aaa _)) (aaa _) fun q hq => ?_
        exact aaX wq ⟨R, 1, none⟩ q _ (by have := (aaZ I5.o q hq).1; show q ≠ R; omega)
      have hzW : w.heap.size ≤ (wq.setCell ⟨R, 1, none⟩ (.int .i64 (b : Nat))).heap.size := rp.1.size
      have dJ : Hid (((wq.setCell ⟨R, 1, none⟩ (.int .i64 (b : Nat))).alloc (.cells #[.int .u8 125] 5)).heap[wq.heap.size]? = some (.cells #[.int .u8 125] 5 (0, 0))) := by
        have h9 := aaz (wq.setCell ⟨R, 1, none⟩ (.int .i64 (b : Nat))) (.cells #[.int .u8 125] 5)
        have h8 : (wq.setCell ⟨R, 1, none⟩ (.int .i64 (b : Nat))).heap.size = wq.heap.size := by simp [World.setCell]
        rw [h8] at h9
        exact h9
      clear kS nQ f rp e1m
      go_wp2_with (at_builtin; refine adv _ rfl _ _ 88 rfl w.heap.size 5 i0 (.int .u8 0) 1 1 Tryz.underlying88 hi hz0 hz1 hz2 rfl (by decide) _ _ _ rfl (abj HOq.o _) ⟨wq.heap.size, 0, none⟩ 1 1 [.int .u8 125] rfl rfl (aeU (cs := #[.int .u8 125]) (t := 5) (fr := (0, 0)) dJ.o) (by simp [Value.oneCell']) (by unfold maxLen; omega) (by omega) (by simp [World.setCell]; omega) ?_)
      intro v3 w3 au ak _ fA
      have mH := Qq (wq.setCell ⟨R, 1, none⟩ (.int .i64 (b : Nat))) (.cells #[.int .u8 125] 5)
      have fP := (lX.o.below mH).grown aT ak (fun q hq => (aaZ HOq.o q hq).1)
      have yZ : cz w.heap.size w3 v3 (ae.cP (acc ++ [cur])) := by
        show World.ownsRow _ _ _ _ _ _ _
        rw [aq.Qz3]
        have e2 : (aq.Xd acc cur ++ [125]).length = m + 1 := by rw [aac, ← HM.o]; rfl
        rw [e2, Qo]
        exact au
      have hcv := J8 yZ
      have oc : Hid (Calls Tryz.prog 148 #[.pointer (some ⟨R, 0, none⟩), .int .i64 13, .string ⟨(ae.cP (acc ++ [cur])).toArray⟩] w3 fun e' w' => e' = .returned (.tuple #[]) ∧ Below R w3 w' ∧ eC w' R (.slice (some ⟨g, 0, none⟩) n cap) L b { x with ts := L.drop b, vals := .cpx (acc ++ [cur]) :: x.vals, want := false, pw := false }) :=
        Ay R _ L b x _ (fP.PJ vR.o QH.o) (Qhb (acc ++ [cur])) dN.o (by decide) (L.drop b)
      have aS : Hid (Below R w w3) := fP.cA aT
      clear au ak fA mH fP yZ
      go_wp2_with fail
      refine oc.o.mono ?_
      rintro e w4 ⟨rfl, hb4, hw4⟩
      have bG := zq (aS.o.trans hb4)
      have cJ := zq hw4
      clear hb4 hw4
      go_wp2_with fail
      go_ret2
      refine ⟨bG.o, ?_⟩
      rw [HE.o]
      exact ⟨rfl, b, by rw [qU.o, ← HN.o]; exact cJ.o, rfl, by rw [← HN.o]; exact oJ⟩
    have sN : ae.Qv [125] (L.drop j) = false := by simpa using ql
    have bu := aq.Qgz rF.o zK.o UM.o sN wN
    have HE : Hid (lp fin x = .error (ae.X5 fin (L.drop j), 14)) := by show _ = _; rw [iW.o, bu]; rfl
    rw [sN] at yf
    clear bu ql sN wN
    go_wp2_with fail
    refine yf.o.mono ?_
    rintro e wq ⟨rfl, nQ⟩
    have kS := QT.o.below nQ
    have e1q := kS.cells.2.1
    have uJ : Hid (Below R w wq) := kS.cA aT
    clear kS nQ e1m
    go_wp2_with fail
    go_ret2
    refine ⟨uJ.o, ?_⟩
    rw [HE.o]
    exact ⟨j, rfl, rfl, by decide⟩
theorem Qy4 (r c n:Nat)(w:World)(hr:r<=64)(hc:c<=64)(hn:n=r*c):Calls Tryz.prog 80 #[.int .i64 (r:Nat),.int .i64 (c:Nat),.int .i64 (n:Nat)] w fun e w'=>e=.returned (.bool true)/\w=w':=by
 have h1:(0:Int)<=(r:Int):=by omega
 have h2:(r:Int)<=64:=by omega
 have h3:(0:Int)<=(c:Int):=by omega
 have h4:(c:Int)<=64:=by omega
 have hm:r*c<=64*64:=ab7 hr hc;obtain⟨m,eJ⟩:=xq (r*c)
 have hmul:(r:Int)*(c:Int)=((m:Nat):Int):=by rw[eJ];rfl
 have hw:IntKind.i64.wrap ((m:Nat):Int)=((m:Nat):Int):=abL _ (by omega)
 have heq:(((n:Nat):Int)==((m:Nat):Int))=true:=by rw[hn,eJ];simp
 clear hn eJ;go_enter Tryz.func80,Tryz.ntmps80;go_wp2_with fail;go_ret;exact⟨rfl,rfl⟩
theorem Qgo (neg:Bool)(n:Nat):Zz neg n≠[]:=by
 unfold Zz;split
 ·simp
 exact ae.Tp n
theorem Uc (r c:Nat)(l:List (Bool×Nat))(v:Value)(w:World)(hv:iY w v l)(hr:r<=64)(hc:c<=64)(hn:l.length=r*c):Calls Tryz.prog 42 #[.agg #[.int .i64 (r:Nat),.int .i64 (c:Nat),v]] w fun e w'=>e=.returned (.tuple #[.string ⟨(Ze r c (Yk l)).toArray⟩,.int .i64 0])/\Below w.heap.size w w':=by
 obtain⟨i0,hi,hz0,abS,hz2'⟩:=abO Tryz.il;have HV:=zq hv;obtain⟨ao,cap,rfl,h1,h2,h3⟩:=hv;obtain⟨n,bf⟩:=xq l.length;rw[<-bf]at h1 hn ⊢
 have oQ:n<=4096:=by rw[hn];exact ab7 hr hc
 have HN:=zq hn;have cw:=zq bf;have H3:=zq h3;have HA:=zq (Qq w (.cells #[.int .i64 (r:Nat),.int .i64 (c:Nat),.slice ao n cap] 47));have j5:=zq (aaz w (.cells #[.int .i64 (r:Nat),.int .i64 (c:Nat),.slice ao n cap] 47));have HSO:=zq (Qy4 r c n (w.alloc (.cells #[.int .i64 (r:Nat),.int .i64 (c:Nat),.slice ao n cap] 47)) hr hc hn)
 have HST:Hid (((w.alloc (.cells #[.int .i64 (r:Nat),.int .i64 (c:Nat),.slice ao n cap] 47)).alloc (.cells #[] 9)).ownsRow (w.heap.size+1) 9 1 (.slice (some ⟨w.heap.size+1,0,none⟩) 0 0) 0 []):=by have:=ad2 (base:=w.heap.size+1) (e:=9) (size:=1) (w.alloc (.cells #[.int .i64 (r:Nat),.int .i64 (c:Nat),.slice ao n cap] 47)) #[] 0 (by simp) (by unfold maxLen;omega) rfl;rw[adB]at this;exact this
 have aD:=zq (Qq (w.alloc (.cells #[.int .i64 (r:Nat),.int .i64 (c:Nat),.slice ao n cap] 47)) (.cells #[] 9));clear hn bf h3;go_enter Tryz.func42,Tryz.ntmps42;go_wp2_with fail;refine HSO.o.mono ?_;rintro e w1 ⟨rfl,aQ⟩;subst aQ;obtain⟨w1,aQ⟩:∃w1,w1=w.alloc (.cells #[.int .i64 (r:Nat),.int .i64 (c:Nat),.slice ao n cap] 47):=⟨_,rfl⟩;rw[<-aQ]at HA j5 HST aD ⊢
 have hz1:w1.heap.size=w.heap.size+1:=by rw[aQ];simp
 rw[<-hz1]at HST;have HZ1:=zq hz1
 have OT:w.heap.size<w1.heap.size:=by omega
 clear aQ hz1;go_wp2_with fail;go_loopw [4,5] (fun lv iv wr=> ∃i:Nat,iv=.int .i64 (i:Nat)/\i<=n/\wr.ownsRow w1.heap.size 9 1 lv i (df (Yk (l.take i)))/\Below w1.heap.size w1 wr) (fun _ iv _=>(n-intOf iv).toNat)
 case atStart=>exact⟨0,rfl,aao _,by simpa [Yk,df] using HST.o,aD.o⟩
 case round=>
  obtain⟨i,rfl,jb,hown,hbl⟩:=hrel;have HOWN:=zq hown;have aP:=zq hbl;obtain⟨bo,gW,rfl,rf,kN,yL⟩:=Qj hown;have hz1':=hbl.size;have bA:=(aP.o.block w.heap.size (by omega)).trans j5.o;have e0:wr.cell? ⟨w.heap.size,0,none⟩=some (.int .i64 (r:Nat)):=(aam wr _ _ _ _ _ bA).trans rfl;have e1:wr.cell? ⟨w.heap.size,1,none⟩=some (.int .i64 (c:Nat)):=(aam wr _ _ _ _ _ bA).trans rfl;have e2:wr.cell? ⟨w.heap.size,2,none⟩=some (.slice ao n cap):=(aam wr _ _ _ _ _ bA).trans rfl;have ji:Hid (Below w.heap.size w wr):=HA.o.trans (aP.o.mono (by omega));clear hown hbl yL bA;by_cases hlt:i<n
  ·obtain⟨g,o,rfl,hg,hcell⟩:=H3.o (by rw[<-cw.o];omega)
   obtain⟨p,hp⟩:∃p,l[i]?=some p:=⟨_,aad (by rw[<-cw.o];omega)⟩;obtain⟨m,xs,c0,c1,jc,hval,pI⟩:=hcell i p hp;obtain⟨neg,k⟩:=p;obtain⟨mo,xR,hme,-⟩:=jc.2;subst hme;have d0:wr.cell? ⟨g,o+i*2,none⟩=some (.bool neg):=(ji.o.cell (p:=⟨g,o+i*2,none⟩) hg).trans c0;have d1:wr.cell? ⟨g,o+i*2+1,none⟩=some (.slice mo xs.length xR):=(ji.o.cell (p:=⟨g,o+i*2+1,none⟩) hg).trans c1;have iu:=zq (jc.below ji.o);have HP:=zq hp
   have fF:Hid ((Zz neg k).length<=2147483648):=by have:=U5 neg pI jc.ok;rw[hval]at this;exact this
   have HTI:=zq (Qy5 neg k _ wr ⟨xs,iu.o,hval,pI⟩);clear c0 c1 jc hval hp hcell;go_wp2_with fail;refine HTI.o.mono ?_;rintro e w3 ⟨rfl,hb3⟩;obtain⟨T,hT⟩:=xq (Zz neg k);rw[<-hT];have HT:=zq hT;have aS:=zq hb3;have eM:=zq (Qg HOWN.o hb3 (aaa _));have hz3:=hb3.size;clear hb3 hT d0 d1 e0 e1 e2;go_wp2_with (at_builtin;refine adv _ rfl _ _ 105 rfl w1.heap.size 9 i0 (.string ⟨#[]⟩) 1 16 Tryz.underlying105 hi hz0 abS hz2' rfl (by decide) _ _ _ rfl (abj eM.o _) ⟨w3.heap.size,0,none⟩ 1 1 [.string ⟨T.toArray⟩] rfl rfl (ag.Qh _ _ _ _ rfl) (by simp[Value.oneCell']) (by unfold maxLen;omega) (by omega) (by simp;omega) ?_);intro v4 w4 aM az _ jr
   have dP:df (Yk (l.take (i+1)))=df (Yk (l.take i))++[.string ⟨T.toArray⟩]:=by rw[ab2,HP.o];simp[Yk,df,HT.o]
   have jR:Hid (w4.ownsRow w1.heap.size 9 1 v4 (i+1) (df (Yk (l.take (i+1))))):=by show World.ownsRow _ _ _ _ _ _ _;rw[dP];exact aM
   have bG:Hid (Below w1.heap.size w1 w4):=abq ((aP.o.trans (aS.o.mono hz1')).alloc (by omega) _) az (by simp;omega) (fun q hq=>(aaZ eM.o q hq).1);clear aM az jr dP;go_wp2_with fail;have ah:w4.ownsRow w1.heap.size 9 1 v4 (i+1) (df (Yk (l.take (i+1))))/\Below w1.heap.size w1 w4:=⟨jR.o,bG.o⟩
   first|exact⟨⟨i+1,rfl,by omega,ah⟩,by simp[intOf]<;>omega⟩|exact⟨by (repeat apply Exists.intro);exact⟨⟨i+1,rfl,by omega,ah⟩,rfl⟩,by simp[intOf]<;>omega⟩
  have iN:i=n:=by omega
  have bT:l.take i=l:=aat (by rw[iN];exact adK cw.o.symm);rw[bT]at HOWN;have zG:=zq iN
  have kr:(Yk l).length=r*c:=by unfold Yk;rw[aay,<-cw.o,HN.o]
  have HLA:Hid (Calls Tryz.prog 82 #[.int .i64 (r:Nat),.int .i64 (c:Nat),.slice bo i gW] wr fun e w'=>e=.returned (.string ⟨(Ze r c (Yk l)).toArray⟩)/\Below wr.heap.size wr w'):=by
   by_cases h0:r=0\/c=0
   ·have eu:i=0:=by
     rw[zG.o,HN.o]
     rcases h0 with h|h<;>rw[h]<;>simp
    have hl0:Yk l=[]:=aaq (by rw[kr,<-HN.o,<-zG.o,eu]);rw[eu,hl0];exact(Qy1 r c bo gW wr hr hc h0).mono fun e w' hp=>⟨hp.1,by rw[hp.2];exact aa8 _ _⟩
   obtain⟨r',rfl⟩:∃r',r=r'+1:=⟨r-1,by omega⟩;refine Qy2 r' c (Yk l) _ wr (SS.eV HOWN.o) hr hc (by omega) kr ?_ ?_
   ·intro b hb
    unfold Yk at hb;rw[adR]at hb;obtain⟨p,hp,rfl⟩:=hb;obtain⟨j,hj⟩:=aez hp
    have hl0:0<l.length:=by have:=(aae.1 hj).1;omega
    obtain⟨g,o,_,_,hcell⟩:=H3.o hl0;obtain⟨m,xs,_,_,jc,hval,pI⟩:=hcell j p hj;have:=U5 p.1 pI jc.ok;rw[hval]at this;exact this
   intro b hb;unfold Yk at hb;rw[adR]at hb;obtain⟨p,hp,rfl⟩:=hb;exact Qgo _ _
  clear bT iN kr;go_wp2_with fail;refine HLA.o.mono ?_;rintro e w3 ⟨rfl,hb3⟩;have aS:=zq (Qz ji.o hb3);clear hb3 e0 e1 e2;go_wp2_with fail;go_ret2;exact⟨rfl,aS.o⟩
theorem Tryz.pK:(Tryz.prog.info? 62).map (fun i=>(i.zero,i.size,i.bytes))=some (some (.agg #[.bool false,.slice none 0 0]),2,32):=by kernel_rfl
def Uw (k:Nat):List (Bool×Value):=List.replicate k (false,.slice none 0 0)
theorem Qw8 (k:Nat):(madeCells #[Value.bool false,.slice none 0 0] (k*2)).toList=Q6 (Uw k):=by
 have h:∀k,Q6 (Uw (k+1))=[Value.bool false,.slice none 0 0]++Q6 (Uw k):=fun k=>by simp[Uw,Q6,List.replicate_succ]
 apply List.ext_getElem?;intro i
 have H:∀k i,(Q6 (Uw k))[i]?=if i<k*2 then some (if i % 2=0 then Value.bool false else .slice none 0 0) else none:=by
  intro k
  induction k with
  |zero=>intro i;simp[Uw,Q6]
  |succ k ih=>
   intro i;rw[h]
   match i with
   |0=>simp
   |1=>rw[if_pos (by omega)];rfl
   |i+2=>
    show (Q6 (Uw k))[i]?=_;have e1:(i+2<(k+1)*2)=(i<k*2):=propext ⟨fun h=>by omega,fun h=>by omega⟩
    have e2:(i+2) % 2=i % 2:=by omega
    rw[ih,e2];simp only[e1]
 rw[H];by_cases hlt:i<k*2
 ·rw[if_pos hlt]
  have E:i % 2=0\/i % 2=1:=by omega
  simp only[madeCells,Array.toList_map,ads,Array.toList_range];rw[List.getElem?_range hlt]
  rcases E with E|E<;>simp[E]
 rw[if_neg hlt];simp only[madeCells,Array.toList_map,ads,Array.toList_range];rw[aea (by simpa using hlt)];rfl
theorem Qv0 (B:Nat)(w:World)(k:Nat):Yh B w (Uw k) (List.replicate k (false,0)):=by
 refine⟨by simp[Uw],fun j c p hc hp=> ?_⟩
 have h:c=(false,.slice none 0 0):=by have:=aah hc;exact(aev.1 this).2
 have E:p=(false,0):=by have:=aah hp;exact(aev.1 this).2
 subst h;subst E;exact⟨rfl,⟨[],Rd.nil w,rfl,aao _⟩,(fun q hq=>by cases hq),(by simp[lenOf])⟩
theorem Qw2 (l:List (Bool×Nat))(h:∀p∈l,p.1=true->p.2≠0):Yk l=l.map ae.bg:=by
 unfold Yk;apply List.map_congr_left;intro p E;unfold Zz ae.bg
 cases hb:p.1 with
 |true=>rw[if_pos ⟨rfl,h p E hb⟩];rfl
 |false=>rw[if_neg (by simp)];rfl
theorem Mh (m:ae.cn)(h:∀p∈m.at_,p.1=true->p.2≠0):Ze m.rows m.aB (Yk m.at_)=ae.bB m:=by
 rw[Qw2 m.at_ h];unfold Ze ae.bB;by_cases h0:m.at_=[]
 ·rw[if_pos (by rw[h0];rfl),if_pos h0]
 rw[if_neg (by simpa using h0),if_neg h0]
theorem Qjr {fin a0 q:Nat}{L:List Tok}{x:aq.RW}(hm:ae.Qv [91] x.ts=true)(hd:L.drop a0=x.ts)(hq:q=a0+1)(hk:ae.Qm 1 (L.drop q)=true)(hc:ae.Qv [58] (L.drop (q+1))=true):gD fin x=if ae.Qm 1 (L.drop (q+2))=false then .error (ae.X5 fin (L.drop (q+2)),14)
   else if ae.Qv [93] (L.drop (q+3))=false then .error (ae.X5 fin (L.drop (q+3)),14)
   else if 64<ae.Xg (ae.Xx (L.drop q))\/64<ae.Xg (ae.Xx (L.drop (q+2))) then .error (ae.X5 fin (L.drop a0),5)
   else .ok {x with ts:=L.drop (q+4),vals:=.mat ⟨ae.Xg (ae.Xx (L.drop q)),ae.Xg (ae.Xx (L.drop (q+2))),List.replicate (ae.Xg (ae.Xx (L.drop q))*ae.Xg (ae.Xx (L.drop (q+2)))) (false,0)⟩::x.vals,want:=false,pw:=false}:=by
 have h:x.ts.tail=L.drop q:=by rw[<-hd,adS,hq]
 have e1:x.ts.tail.tail=L.drop (q+1):=by rw[h,adS]
 have e2:x.ts.tail.tail.tail=L.drop (q+2):=by rw[e1,adS]
 have e3:x.ts.tail.tail.tail.tail=L.drop (q+3):=by rw[e2,adS]
 have e4:x.ts.tail.tail.tail.tail.tail=L.drop (q+4):=by rw[e3,adS]
 have I:∀n,(64<ae.side n)↔64<n:=fun n=>by unfold ae.side;split<;>omega
 unfold gD ae.Xl ae.want;rw[if_pos (show ae.Qv [91] (⟨x.ts,x.depth⟩:ae.St).ts=true from hm)];simp only[ae.Y9]
 rw[if_pos (show (ae.Qm 1 (ae.St.aW ⟨x.ts,x.depth⟩).ts && ae.Qv [58] (ae.St.aW ⟨x.ts,x.depth⟩).ts.tail)=true by
  show (ae.Qm 1 x.ts.tail && ae.Qv [58] x.ts.tail.tail)=true
  rw[h,adS,hk,hc];rfl)]
 unfold ae.Jv ae.Qa ae.want;rw[if_pos (show ae.Qm 1 (ae.St.aW ⟨x.ts,x.depth⟩).ts=true by show ae.Qm 1 x.ts.tail=true;rw[h];exact hk)];simp only[ae.Y9];rw[if_pos (show ae.Qv [58] (ae.St.aW (ae.St.aW ⟨x.ts,x.depth⟩)).ts=true by show ae.Qv [58] x.ts.tail.tail=true;rw[e1];exact hc)];simp only[ae.Y9];show (match (if ae.Qm 1 x.ts.tail.tail.tail=true then ae.ret (ae.Xg (ae.Xx x.ts.tail.tail.tail)) (⟨x.ts.tail.tail.tail.tail,x.depth⟩:ae.St) else ae.dh fin ⟨x.ts.tail.tail.tail,x.depth⟩:ae.PR Nat).bind _ with|some (.ok (m,s))=>aq.has x (.mat m) s.ts|some (.error e)=> .error e|none=> .error (0,0))=_;have e0:(ae.St.aW ⟨x.ts,x.depth⟩).ts=L.drop q:=h
 have e3':(L.drop (q+2)).tail=L.drop (q+3):=by rw[adS]
 have e4':(L.drop (q+3)).tail=L.drop (q+4):=by rw[adS]
 rw[e2,e3',e0];by_cases h1:ae.Qm 1 (L.drop (q+2))=true
 ·rw[if_pos h1,if_neg (by rw[h1];decide)]
  simp only[ae.Y9];by_cases h2:ae.Qv [93] (L.drop (q+3))=true
  ·rw[if_pos h2,if_neg (by rw[h2];decide)]
   simp only[ae.Y9];by_cases h3:64<ae.Xg (ae.Xx (L.drop q))\/64<ae.Xg (ae.Xx (L.drop (q+2)))
   ·rw[if_pos (by simpa [I] using h3),if_pos h3]
    show Except.error (ae.X5 fin x.ts,5)=_;rw[hd]
   rw[if_neg (by simpa [I] using h3),if_neg h3];show aq.has x _ (L.drop (q+3)).tail=_;rw[e4'];rfl
  have H:ae.Qv [93] (L.drop (q+3))=false:=by simpa using h2
  rw[if_neg h2,if_pos H];rfl
 have E:ae.Qm 1 (L.drop (q+2))=false:=by simpa using h1
 rw[if_neg h1,if_pos E];rfl
theorem Qht (R:Nat)(tv:Value)(L:List Tok)(fin a0 q:Nat)(x:aq.RW)(w:World)(h:eC w R tv L q x)(hm:ae.Qv [91] x.ts=true)(hd:L.drop a0=x.ts)(hq:q=a0+1)(iA:L.length<=67108864)(bT:∀t∈L,sF t)(hsz:ae.Xn x.vals.reverse<=134217728)(hk:ae.Qm 1 (L.drop q)=true)(hc:ae.Qv [58] (L.drop (q+1))=true):Calls Tryz.prog 197 #[.pointer (some ⟨R,0,none⟩),.int .i64 (a0:Nat)] w (YX R tv L fin (gD fin x) w):=by
 obtain⟨i0,hi,hz0,hz1,hz2⟩:=abO Tryz.pK;have o7:=zq (Qjr (fin:=fin) hm hd hq hk hc);have aT:=h.lt;have HW:=zq h;obtain⟨c0,c1,-,-,-,jJ⟩:=h.cells;have f1:=h.eD 1
 obtain⟨t,ht⟩:∃t,L[q]?=some t:=by
  cases h:L[q]? with
  |some t=>exact⟨t,rfl⟩
  |none=>rw[Wv,h]at hk;cases hk
 have pH:t.1=1:=by
  rw[Wv,ht]at hk
  simpa using hk
 have xr:q<L.length:=(aae.1 ht).1;obtain⟨n1,n2,n3,n4⟩:=bT t (aah ht) pH
 have hh1:ae.Xx (L.drop q)=t.2.1:=by rw[Hw ht];rfl
 obtain⟨ao,cap,nh,-,-,t3⟩:=jJ;obtain⟨g,hao,yQ,-⟩:=t3 (by omega);subst hao;have jJ:=HW.o.cells.2.2.2.2.2;rw[nh]at jJ c0;obtain⟨n,hn⟩:=xq L.length;have HN:=zq hn;rw[<-hn]at jJ c0 xr iA;have qU:=zq nh;obtain⟨e2,-⟩:=Na jJ ht;have cL:=zq (fun w5=>Qxn t.2.1 w5 n1 n2 n3 n4);obtain⟨TX,yG⟩:=xq (⟨t.2.1.toArray⟩:ByteArray);rw[<-yG]at e2 cL;obtain⟨r,hr⟩:=xq (ae.Xg t.2.1);rw[hh1,<-hr]at o7;rw[<-hr]at cL;have jT:=zq jJ;have XC:=zq bT;have dN:=zq hsz;obtain⟨q2,vh⟩:=xq (q+2);obtain⟨q3,hq3⟩:=xq (q+3);obtain⟨q4,GV⟩:=xq (q+4)
 have s2:((q:Nat):Int)+2=((q2:Nat):Int):=by omega
 have s3:((q:Nat):Int)+3=((q3:Nat):Int):=by omega
 have s4:((q:Nat):Int)+4=((q4:Nat):Int):=by omega
 have v2:IntKind.i64.wrap ((q2:Nat):Int)=((q2:Nat):Int):=abL _ (by omega);have v3:IntKind.i64.wrap ((q3:Nat):Int)=((q3:Nat):Int):=abL _ (by omega);have v4:IntKind.i64.wrap ((q4:Nat):Int)=((q4:Nat):Int):=abL _ (by omega)
 have qE:q4<=67108870:=by omega
 have ac1:q2<=q4:=by omega
 have ac3:q3<=q4:=by omega
 rw[<-vh,<-hq3,<-GV]at o7;have cY:=zq vh;have eY:=zq hq3;have QN:=zq GV;obtain⟨mi,u9⟩:=xq (U9 r);rw[<-u9]at cL;have EX:=zq u9
 have fe:g<w.heap.size:=by omega
 clear h hm hd hq bT hsz hk hc ht pH n1 n2 n3 n4 hh1 hn nh jJ yG hr vh hq3 GV t3 u9;go_enter Tryz.func197,Tryz.ntmps197;go_wp2_with fail
 go_region_held3 (fun w'=>w'.cell? ⟨R,0,none⟩=some (.slice (some ⟨g,0,none⟩) n cap)/\w'.cell? ⟨R,1,none⟩=some (.int .i64 (q:Nat))/\w'.cell? ⟨g,q*3+1,none⟩=some (.string TX))
  (first
   |go_keep
   |exact⟨(bL.cell (p:=⟨R,0,none⟩) aT).trans c0,(bL.cell (p:=⟨R,1,none⟩) aT).trans c1,(bL.cell (p:=⟨g,q*3+1,none⟩) fe).trans e2⟩)
  ((go_at_call 229;refine(cL.o _).mono ?_;rintro e w5 ⟨rfl,bL⟩))
 have dU:Hid (Below w.heap.size w w5):=(below_drewN w 1).trans bL;have jd:=HW.o.below dU.o;have nN:=zq jd;obtain⟨d0,d1,-,-,-,-⟩:=jd.cells;have DN:my w5 R (.slice (some ⟨g,0,none⟩) n cap) L:=jT.o.low fun k hk=>dU.o.block k (by omega);rw[qU.o,<-HN.o]at d0;have XD:=zq DN;have ET:=zq (Hh R _ L q2 w5 d0 DN (by omega));have uT:=jd.lt;clear bL c0 c1 e2 f1 jd DN;by_cases hk2:ae.Qm 1 (L.drop q2)=true
 ·have fg:(((cd L q2:Nat):Int) !=1)=false:=by
   rw[J0 (by decide)]at hk2;simp at hk2;simp[hk2]
  obtain⟨t2,GZ⟩:∃t,L[q2]?=some t:=by
   cases h:L[q2]? with
   |some t=>exact⟨t,rfl⟩
   |none=>rw[Wv,h]at hk2;cases hk2
  have Ox:t2.1=1:=by
   rw[Wv,GZ]at hk2
   simpa using hk2
  have ac2:q2<n:=by rw[HN.o];exact(aae.1 GZ).1
  obtain⟨n1,n2,n3,n4⟩:=XC.o t2 (aah GZ) Ox
  have MQ:ae.Xx (L.drop q2)=t2.2.1:=by rw[Hw GZ];rfl
  have cr:=zq (fun w5=>Qxn t2.2.1 w5 n1 n2 n3 n4);obtain⟨e3,-⟩:=Na XD.o GZ;obtain⟨TX2,LP⟩:=xq (⟨t2.2.1.toArray⟩:ByteArray);rw[<-LP]at e3 cr;obtain⟨c,hc⟩:=xq (ae.Xg t2.2.1);rw[MQ,<-hc,if_neg (by rw[hk2];decide)]at o7;rw[<-hc]at cr;obtain⟨ni,SU⟩:=xq (U9 c);rw[<-SU]at cr;have HNI:=zq SU;clear hk2 GZ Ox n1 n2 n3 n4 MQ LP hc SU;go_wp2_with fail;refine ET.o.mono ?_;rintro e w6 ⟨rfl,fT⟩;have l8:=zq (Qz dU.o fT);have Ia:=nN.o.below fT;have yu:=zq Ia;have uU:=Ia.lt;have d0':=(fT.cell (p:=⟨R,0,none⟩) uT).trans d0;have d1':=(fT.cell (p:=⟨R,1,none⟩) uT).trans d1;have e3':=(fT.cell (p:=⟨g,q2*3+1,none⟩) (by show g<_;omega)).trans e3
  have hg6:g<w6.heap.size:=by omega
  clear fT d0 d1 e3 Ia;go_wp2_with fail
  go_region_held3 (fun w'=>w'.cell? ⟨R,0,none⟩=some (.slice (some ⟨g,0,none⟩) n cap)/\w'.cell? ⟨R,1,none⟩=some (.int .i64 (q:Nat))/\w'.cell? ⟨g,q2*3+1,none⟩=some (.string TX2))
   (first
    |go_keep
    |exact⟨(wU.cell (p:=⟨R,0,none⟩) uU).trans d0',(wU.cell (p:=⟨R,1,none⟩) uU).trans d1',(wU.cell (p:=⟨g,q2*3+1,none⟩) hg6).trans e3'⟩)
   ((go_at_call 229;refine(cr.o _).mono ?_;rintro e w7 ⟨rfl,wU⟩))
  have vE:Hid (Below w6.heap.size w6 w7):=(below_drewN w6 1).trans wU;have PT:=zq (Qz l8.o vE.o);have TG:=yu.o.below vE.o;have qf:=zq TG;have qo:=TG.lt;have f7:=TG.eD 1;have g0:=(vE.o.cell (p:=⟨R,0,none⟩) uU).trans d0';have g1:=(vE.o.cell (p:=⟨R,1,none⟩) uU).trans d1';have HI:=zq (Rt R _ L q3 [93] w7 g0 (jT.o.low fun k hk=>PT.o.block k (by omega)) (by omega));clear wU d0' d1' e3' TG;by_cases ix:ae.Qv [93] (L.drop q3)=true
  ·rw[ix]at HI
   rw[if_neg (by rw[ix];decide)]at o7
   have abv:q4<=n:=by have:=aq.Ji ix;have h3: ¬L.length<=q3:=fun h=>this (aaR h);rw[<-HN.o]at h3;have:=eY.o;have:=QN.o;omega
   clear ix;by_cases cR:64<r\/64<c
   ·rw[if_pos cR]at o7
    have BV:∀w8,Below w7.heap.size w7 w8->Below R w (w8.setCell ⟨R,1,none⟩ (.int .i64 (q4:Nat))):=fun w8 h8=>((Qz PT.o h8).mono (abD aT)).trans (Ty 1 _);have Il:=zq BV;by_cases mV:64<r
    ·have cW:mi= -1:=by rw[EX.o];unfold U9;rw[if_pos mV]
     subst cW;clear cR mV BV;go_wp2_with fail;refine HI.o.mono ?_;rintro e w8 ⟨rfl,lA⟩;have g1':=(lA.cell (p:=⟨R,1,none⟩) qo).trans g1;have f8:w8.frozen? ⟨R,1,none⟩=false:=(lA.frozen (p:=⟨R,1,none⟩) qo).trans f7;have HF:=zq (Il.o w8 lA);clear lA g0 g1;go_wp2_with fail;go_ret2;refine⟨HF.o,?_⟩;rw[o7.o];exact⟨a0,rfl,rfl,by decide⟩
    have cW:mi=(r:Int):=by rw[EX.o];unfold U9;rw[if_neg mV]
    have jE:ni= -1:=by
     rw[HNI.o];unfold U9;rcases cR with h|h
     ·exact absurd h mV
     rw[if_pos h]
    subst jE;rw[cW];have NS:decide ((r:Int)<0)=false:=abC (by omega)
    have tP: ¬((r:Int)<0):=by omega
    clear cR mV BV cW;go_wp2_with fail;refine HI.o.mono ?_;rintro e w8 ⟨rfl,lA⟩;have g1':=(lA.cell (p:=⟨R,1,none⟩) qo).trans g1;have f8:w8.frozen? ⟨R,1,none⟩=false:=(lA.frozen (p:=⟨R,1,none⟩) qo).trans f7;have HF:=zq (Il.o w8 lA);clear lA g0 g1;go_wp2_with fail;go_ret2;refine⟨HF.o,?_⟩;rw[o7.o];exact⟨a0,rfl,rfl,by decide⟩
   rw[if_neg cR]at o7
   have mV:r<=64:=by omega
   have L8:c<=64:=by omega
   have cW:mi=(r:Int):=by rw[EX.o];unfold U9;rw[if_neg (by omega)]
   have jE:ni=(c:Int):=by rw[HNI.o];unfold U9;rw[if_neg (by omega)]
   rw[cW,jE]
   have tP: ¬((r:Int)<0):=by omega
   have CZ: ¬((c:Int)<0):=by omega
   have NS:decide ((r:Int)<0)=false:=abC tP;have acf:decide ((c:Int)<0)=false:=abC CZ;obtain⟨k,hk⟩:=xq (r*c)
   have hkb:k<=4096:=by rw[hk];exact ab7 mV L8
   have hmul:(r:Int)*(c:Int)=((k:Nat):Int):=by rw[hk];rfl
   have vq:IntKind.i64.wrap ((k:Nat):Int)=((k:Nat):Int):=abL _ (by omega);rw[<-hk]at o7;have HK:=zq hk;clear cR cW jE hk;go_wp2_with fail;refine HI.o.mono ?_;rintro e w8 ⟨rfl,lA⟩;have g1':=(lA.cell (p:=⟨R,1,none⟩) qo).trans g1;have f8:w8.frozen? ⟨R,1,none⟩=false:=(lA.frozen (p:=⟨R,1,none⟩) qo).trans f7;have hw8:=qf.o.below lA;have aY:=hw8.set (i':=q4) (want':=x.want) (pw':=x.pw) (d':=x.depth) (ts':=L.drop q4) 1 (.int .i64 (q4:Nat)) (fun nv vv sv=>by simp);have qa:=zq aY;have PU:Hid (Below R w (w8.setCell ⟨R,1,none⟩ (.int .i64 (q4:Nat)))):=((Qz PT.o lA).mono (abD aT)).trans (Ty 1 _);clear lA g0 g1 hw8 aY;go_wp2_with (at_make;refine wpList_make_full _ rfl _ _ 45 rfl (w8.setCell ⟨R,1,none⟩ (.int .i64 (q4:Nat))).heap.size 62 i0 (.agg #[.bool false,.slice none 0 0]) 2 Tryz.underlying45 hi hz0 hz1 _ _ _ _ k rfl rfl rfl rfl (by rw[hz2];omega) (by unfold maxLen;omega) (by exact aaa _) ?_);intro w9 iD tD
   have hs8:(w8.setCell ⟨R,1,none⟩ (.int .i64 (q4:Nat))).heap.size=w8.heap.size:=by simp[World.setCell]
   have wV:Below (w8.setCell ⟨R,1,none⟩ (.int .i64 (q4:Nat))).heap.size (w8.setCell ⟨R,1,none⟩ (.int .i64 (q4:Nat))) w9:=abq (aa8 _ _) tD (aaa _) (fun q hq=>by cases hq);have hw9:=qa.o.below wV;have QS:=zq hw9;have HB9:Hid (Below R w w9):=PU.o.trans (wV.mono (abD qa.o.lt))
   have tG:iY w9 (.slice (some ⟨w8.heap.size,0,none⟩) k k) (List.replicate k (false,0)):=by
    refine(Qv0 w8.heap.size w9 k).zj ?_
    have e1:(Uw k).length=k:=by simp[Uw]
    rw[e1,<-Qw8];exact iD
   have ml:=zq (Uc r c (List.replicate k (false,0)) _ w9 tG mV L8 (by rw[aa9];exact HK.o));have gN:=Mh ⟨r,c,List.replicate k (false,0)⟩ (fun p hp=>by rw[(aev.1 hp).2];intro h;cases h);simp only at gN;rw[gN]at ml
   have oc:Hid (∀eH,Below w9.heap.size w9 eH->Calls Tryz.prog 148 #[.pointer (some ⟨R,0,none⟩),.int .i64 3,.string ⟨(ae.bB ⟨r,c,List.replicate k (false,0)⟩).toArray⟩] eH fun e' w'=>e'=.returned (.tuple #[])/\Below R eH w'/\eC w' R tv L q4 {x with ts:=L.drop q4,vals:=.mat ⟨r,c,List.replicate k (false,0)⟩::x.vals,want:=false,pw:=false}):=
    fun eH h10=>Ay R tv L q4 _ _ (QS.o.below h10) (Qhf ⟨r,c,List.replicate k (false,0)⟩) dN.o (by decide) (L.drop q4)
   have hR9:=hw9.lt;clear iD tD wV hw9 tG gN hs8 f8 g1';go_wp2_with fail;refine ml.o.mono ?_;rintro e eH ⟨rfl,bP⟩;have HH:=zq (oc.o eH bP);have kW:Hid (Below R w eH):=HB9.o.trans (bP.mono (abD hR9));clear bP;go_wp2_with fail;refine HH.o.mono ?_;rintro e TN ⟨rfl,sZ,ur⟩;have zr:=zq (kW.o.trans sZ);have AR:=zq ur;clear sZ ur;go_wp2_with fail;go_ret2;refine⟨zr.o,?_⟩;rw[o7.o];exact⟨rfl,q4,AR.o,rfl,by rw[<-HN.o];exact abv⟩
  have BL:ae.Qv [93] (L.drop q3)=false:=by simpa using ix
  rw[BL]at HI;rw[if_pos BL]at o7;clear ix BL;go_wp2_with fail;refine HI.o.mono ?_;rintro e w8 ⟨rfl,lA⟩;have g1':=(lA.cell (p:=⟨R,1,none⟩) qo).trans g1;have HF:Hid (Below R w w8):=(Qz PT.o lA).mono (abD aT);clear lA g0 g1;go_wp2_with fail;go_ret2;refine⟨HF.o,?_⟩;rw[o7.o];exact⟨q3,rfl,rfl,by decide⟩
 have hk2':ae.Qm 1 (L.drop q2)=false:=by simpa using hk2
 have fg:(((cd L q2:Nat):Int) !=1)=true:=by rw[J0 (by decide)]at hk2';simp at hk2';simp;omega
 rw[if_pos hk2']at o7;clear hk2 hk2';go_wp2_with fail;refine ET.o.mono ?_;rintro e w6 ⟨rfl,fT⟩;have l8:Hid (Below R w w6):=(Qz dU.o fT).mono (abD aT);have d1':=(fT.cell (p:=⟨R,1,none⟩) uT).trans d1;clear fT d0 d1;go_wp2_with fail;go_ret2;refine⟨l8.o,?_⟩;rw[o7.o];exact⟨q2,rfl,rfl,by decide⟩
theorem Tryz.uA:(Tryz.prog.info? 45).map (fun i=>(i.zero,i.size,i.bytes))=some (some (.slice none 0 0),1,24):=by kernel_rfl
def kC (col:Nat)(x:aq.RW)(rr:aq.jh):aq.MR:=match rr with
 | .error e=> .error e
 | .ok (a,s)=>if a.2.any (· !=a.2.headD 0) then .error (col,2) else if 64<a.2.length||64<a.2.headD 0 then .error (col,5) else aq.has x (.mat ⟨a.2.length,a.2.headD 0,a.1⟩) s.ts
theorem Qg8 {fin a0 q:Nat}{L:List Tok}{x:aq.RW}(hm:ae.Qv [91] x.ts=true)(hd:L.drop a0=x.ts)(hq:q=a0+1)(hk:(ae.Qm 1 (L.drop q) && ae.Qv [58] (L.drop (q+1)))=false):∃rr,gD fin x=kC (ae.X5 fin (L.drop a0)) x rr/\aq.Ua fin [] [] ⟨L.drop q,x.depth⟩ rr:=by
 have H:x.ts.tail=L.drop q:=by rw[<-hd,adS,hq]
 have E:=ae.Vn fin (x.ts.length+3) (s:=⟨x.ts,x.depth⟩) (aaa _) (aaa _)
 have h:ae.Xl fin (x.ts.length+3) ⟨x.ts,x.depth⟩=(ae.entries fin (x.ts.length+3) [] [] ⟨L.drop q,x.depth⟩).bind (ae.Yc (ae.X5 fin (L.drop a0))):=by
  unfold ae.Xl ae.want;rw[if_pos (show ae.Qv [91] (⟨x.ts,x.depth⟩:ae.St).ts=true from hm)];simp only[ae.Y9]
  have e0:(ae.St.aW ⟨x.ts,x.depth⟩)=⟨L.drop q,x.depth⟩:=by show (⟨x.ts.tail,x.depth⟩:ae.St)=_;rw[H]
  rw[e0];rw[if_neg (show ¬(ae.Qm 1 (L.drop q) && ae.Qv [58] (L.drop q).tail)=true by rw[adS,hk];decide),hd]
 cases hE:ae.entries fin (x.ts.length+3) [] [] ⟨L.drop q,x.depth⟩ with
 |none=>
  rw[h,hE]at E
  exact E.elim
 |some rr=>
  refine⟨rr,?_,aq.Qwn hE⟩;unfold gD;rw[h,hE]
  cases rr with
  |error e=>rfl
  |ok p=>
   obtain⟨a,s⟩:=p;show (match ae.Yc _ a s with|some (.ok (m,s))=>aq.has x (.mat m) s.ts|some (.error e)=> .error e|none=> .error (0,0))=kC _ x (.ok (a,s));unfold ae.Yc kC;simp only;by_cases c1:(a.2.any (· !=a.2.headD 0))=true
   ·rw[if_pos c1,if_pos c1];rfl
   rw[if_neg c1,if_neg c1];by_cases c2:(decide (64<a.2.length)||decide (64<a.2.headD 0))=true
   ·rw[if_pos c2,if_pos c2];rfl
   rw[if_neg c2,if_neg c2];rfl
def Qpo (rs:List bY)(cur:List (Bool×Nat)):Prop:=(∀r∈rs,r.2.2≠[]/\ ∀p∈r.2.2,p.1=true->p.2≠0)/\ ∀p∈cur,p.1=true->p.2≠0
def QZ (fin:Nat)(x:aq.RW)(L:List Tok)(rr:aq.jh)(w0:World)(R:Nat)(tv nv vv sv rv:Value)(wr:World):Prop:=
 ∃(j:Nat) (rs:List bY) (lv:Value) (cs:List (Bool×Value)) (cur:List (Bool×Nat)),Mt wr w0.heap.size rv (rs++[(lv,cs,cur)])/\br w0 R tv nv vv sv x j wr/\aq.Ua fin (rs.map fun r=>r.2.2) cur ⟨L.drop j,x.depth⟩ rr/\j<=L.length/\rs.length+1<=j/\cs.length<=j/\((rs.map fun r=>r.2.2).flatten++cur).length<=j/\Qpo rs cur
def MtE (x:aq.RW)(L:List Tok)(rr:aq.jh)(w0:World)(R:Nat)(tv nv vv sv rv:Value)(wr:World):Prop:=
 ∃(j:Nat) (rs:List bY) (d:Nat),Mt wr w0.heap.size rv rs/\br w0 R tv nv vv sv x j wr/\rr=.ok (((rs.map fun r=>r.2.2).flatten,(rs.map fun r=>r.2.2).map List.length),⟨L.drop j,d⟩)/\j<=L.length/\rs≠[]/\rs.length<=j/\(rs.map fun r=>r.2.2).flatten.length<=j/\Qpo rs []
theorem Mt.last {w:World}{B:Nat}{rv lv:Value}{rs:List bY}{cs:List (Bool×Value)}{cur:List (Bool×Nat)}(h:Mt w B rv (rs++[(lv,cs,cur)])):∃gr rcap lo bE,rv=.slice (some ⟨gr,0,none⟩) (rs.length+1) rcap/\rs.length+1<=rcap/\B<=gr/\gr<w.heap.size/\w.cell? ⟨gr,rs.length,none⟩=some (.slice lo cs.length bE)/\w.frozen? ⟨gr,rs.length,none⟩=false/\lv=.slice lo cs.length bE/\cs.length=cur.length:=by
 have I:=h.own;obtain⟨ao,rcap,H,a1,a2,a3⟩:=Qj I
 have J:(rs++[(lv,cs,cur)]).length=rs.length+1:=by simp
 rw[J]at H a1 a3;obtain⟨gr,rfl,b1,b2,b3⟩:=a3 (by omega);obtain⟨r1,r2⟩:=h.row (lv,cs,cur) (by simp);obtain⟨lo,bE,K,-,-,-⟩:=Qj r1;have E:lv=.slice lo cs.length bE:=K;refine⟨gr,rcap,lo,bE,H,a1,b1,b2,?_,?_,E,r2.1⟩
 ·rw[b3 rs.length (by omega)]
  rw[ado,abw (by simp)];simp[E]
 rw[J,H]at I;exact I.frozenAt rs.length
theorem Mt.entry {w0 w5 w6 w7:World}{R J:Nat}{tv nv vv sv rv lv:Value}{x:aq.RW}{rs:List bY}{cs:List (Bool×Value)}{cur:List (Bool×Nat)}(h:Mt w5 w0.heap.size rv (rs++[(lv,cs,cur)]))(dK:br w0 R tv nv vv sv x J w5)(hR:R<w0.heap.size)
  {gr rcap:Nat} (uf:rv=.slice (some ⟨gr,0,none⟩) (rs.length+1) rcap) {nb:Bool} {k L6 c6:Nat} {o6:Option Addr} (hf:bM w5.heap.size w6 (.slice o6 L6 c6) k) (fT:Below w5.heap.size w5 w6) {gg bJ:Nat}
  (hown:w7.ownsRow w0.heap.size 62 2 (.slice (some ⟨gg,0,none⟩) (cs.length+1) bJ) (cs.length+1) (Q6 cs++[.bool nb,.slice o6 L6 c6])) (hg:(w6.alloc (.cells #[.bool nb,.slice o6 L6 c6] 62)).grownBy w7 lv.ownBlock) (hat:lv.ownBlock=some gg\/gg=w6.heap.size+1):
  Mt (w7.setCell ⟨gr,rs.length,none⟩ (.slice (some ⟨gg,0,none⟩) (cs.length+1) bJ)) w0.heap.size rv (rs++[(.slice (some ⟨gg,0,none⟩) (cs.length+1) bJ,cs++[(nb,.slice o6 L6 c6)],cur++[(nb,k)])])/\br w0 R tv nv vv sv x J (w7.setCell ⟨gr,rs.length,none⟩ (.slice (some ⟨gg,0,none⟩) (cs.length+1) bJ)):=by
 have E:=Qq w6 (.cells #[.bool nb,.slice o6 L6 c6] 62);have O:Below w5.heap.size w5 (w6.alloc (.cells #[.bool nb,.slice o6 L6 c6] 62)):=Qz fT E;have a6:w5.heap.size<=(w6.alloc (.cells #[.bool nb,.slice o6 L6 c6] 62)).heap.size:=O.size;have a1:w0.heap.size<=w5.heap.size:=dK.1.size;have U:=h.keep a6 fun q _ hq=>O.block q hq
 have I:(lv,cs,cur)∈rs++[(lv,cs,cur)]:=by simp
 have Z:∀q,lv.ownBlock=some q->w0.heap.size<=q/\q<w5.heap.size:=fun q hq=>(h.row _ I).1.lt q hq
 have H:rv.ownBlock=some gr:=by rw[uf];rfl
 have a7:=h.own.lt gr H
 have hl:(rs++[(lv,cs,cur)]).length=rs.length+1:=by simp
 have a4:bM w0.heap.size (w6.alloc (.cells #[.bool nb,.slice o6 L6 c6] 62)) (.slice o6 L6 c6) k:=by refine(hf.mono a1).blk (aaa _) E.size fun q hq=>E.block q (hf.2.1 q hq).2
 have K:=World.ownsRow.kept U.own hg (.inr fun e=>by
  rw[H]at e
  exact h.wJ _ I gr e.symm H)
 rw[hl,uf]at K;have T:=K.stored rs.length (.slice (some ⟨gg,0,none⟩) (cs.length+1) bJ)
 have a0:((rs++[(lv,cs,cur)]).map Prod.fst).set rs.length (.slice (some ⟨gg,0,none⟩) (cs.length+1) bJ)=rs.map Prod.fst++[.slice (some ⟨gg,0,none⟩) (cs.length+1) bJ]:=by rw[ado,List.set_append_right _ _ (by simp)];simp
 rw[a0]at T;refine⟨U.push a4 (fun q hq=> ?_) hown hg (fun q hq=> ?_) H rfl (by rw[uf];exact T.1),?_⟩
 ·have a9:=(hf.2.1 q hq).1
  refine⟨fun e=> ?_,fun r hr e=> ?_⟩
  ·have:=(h.own.lt q e).2
   omega
  have:=((h.row r hr).1.lt q e).2;omega
 ·have a5:gg=q:=aax hq
  rcases hat with h1|h1
  ·left;rw[h1,a5]
  right;simp;omega
 have a3:=((dK.below fT).below E).grown hR hg (fun q hq=>(Z q hq).1)
 exact a3.grown hR T.2 (fun q hq=>by
  have:gr=q:=aax hq
  omega)
theorem Mt.more {w5 w8:World}{B:Nat}{rv:Value}{rs:List bY}(h:Mt w5 B rv rs)(hB:B<=w5.heap.size){gg cap:Nat}
  (hown:w8.ownsRow B 45 1 (.slice (some ⟨gg,0,none⟩) (rs.length+1) cap) (rs.length+1) (rs.map Prod.fst++[.slice (some ⟨w5.heap.size,0,none⟩) 0 0]))
  (hg:((w5.alloc (.cells #[] 62)).alloc (.cells #[.slice (some ⟨w5.heap.size,0,none⟩) 0 0] 45)).grownBy w8 rv.ownBlock) (hat:rv.ownBlock=some gg\/gg=w5.heap.size+2):
  Mt w8 B (.slice (some ⟨gg,0,none⟩) (rs.length+1) cap) (rs++[(.slice (some ⟨w5.heap.size,0,none⟩) 0 0,[],[])]):=by
 refine h.new hB rfl ((World.grownBy_alloc _ _ _).trans hg) hown fun q hq=> ?_;have H:gg=q:=aax hq;rcases hat with E|E
 ·left;rw[E,H]
 right;simp;omega
theorem br.more {w0 w5 w8:World}{R J:Nat}{tv nv vv sv rv:Value}{x:aq.RW}{rs:List bY}(h:Mt w5 w0.heap.size rv rs)(dK:br w0 R tv nv vv sv x J w5)(hR:R<w0.heap.size){o1 o2:Obj}
  (hg:((w5.alloc o1).alloc o2).grownBy w8 rv.ownBlock):br w0 R tv nv vv sv x J w8:=
 ((dK.below (Qq w5 o1)).below (Qq _ o2)).grown hR hg fun q hq=>(h.own.lt q hq).1
theorem Mt.at {w:World}{B gr m rcap:Nat}{rv:Value}{rs:List bY}(h:Mt w B rv rs)(uf:rv=.slice (some ⟨gr,0,none⟩) m rcap){j:Nat}{r:bY}(hj:rs[j]?=some r)(hn:r.2.2≠[]):∃g bE,w.cell? ⟨gr,j,none⟩=some (.slice (some ⟨g,0,none⟩) r.2.2.length bE)/\g<w.heap.size/\gr<w.heap.size/\r.2.1.length=r.2.2.length/\(∀i u,(Q6 r.2.1)[i]?=some u->w.cell? ⟨g,i,none⟩=some u)/\ ∀u∈Q6 r.2.1,u.oneCell'=true:=by
 have a6:=(aae.1 hj).1;have ho:=h.own;obtain⟨ao,a5,H,a1,a2,a3⟩:=Qj ho;obtain⟨gr',rfl,b1,b2,b3⟩:=a3 (by omega);rw[uf]at H;simp only[Value.slice.injEq,Option.some.injEq,Addr.mk.injEq,and_true]at H;obtain⟨rfl,-,rfl⟩:=H;obtain⟨r1,r2⟩:=h.row r (aah hj);obtain⟨lo,bE,T,c1,c2,c3⟩:=Qj r1;have E:=r2.1
 have O:0<r.2.1.length:=by
  rw[E]
  cases hr:r.2.2 with
  |nil=>exact absurd hr hn
  |cons a l=>simp
 obtain⟨g,rfl,d1,d2,d3⟩:=c3 O;refine⟨g,bE,?_,d2,b2,E,fun i u I=> ?_,fun u K=> ?_⟩
 ·rw[b3 j (by omega),ads,hj,<-E]
  simp[T]
 ·have J:=(aae.1 I).1
  rw[Gf]at J;rw[d3 i (by omega)];exact I
 unfold Q6 at K;obtain⟨c,U,K⟩:=aeY.1 K;simp only[abY,aeg,ae5]at K;rcases K with rfl|rfl
 ·rfl
 obtain⟨i,I⟩:=aez U;have J:=(aae.1 I).1;obtain⟨p,hp⟩:∃p,r.2.2[i]?=some p:=⟨_,aad (by rw[<-E];exact J)⟩;obtain⟨-,Z⟩:=r2.2 i c p I hp;obtain⟨o,l,cp,e,-⟩:=Z.val;rw[e];rfl
theorem Cq {w:World}{B:Nat}:∀(rs:List bY),(∀r∈rs,Yh B w r.2.1 r.2.2)->Yh B w (rs.flatMap fun r=>r.2.1) (rs.flatMap fun r=>r.2.2)
 | [],_=>Yh.nil B w
 |r::rs,h=>by rw[aen,aen];exact Yh.app (h r (by simp)) (Cq rs fun r' hr'=>h r' (by simp[hr']))
theorem Dd (rs:List bY){j:Nat}{r:bY}(hj:rs[j]?=some r):(rs.take (j+1)).flatMap (fun r=>r.2.1)=(rs.take j).flatMap (fun r=>r.2.1)++r.2.1:=by rw[ab2,hj,ad7];simp
def pQ (w2:World)(rs:List bY)(c0:Nat)(av:Value)(jv:Value)(wr:World):Prop:=
 ∃j:Nat,jv=.int .i64 (j:Nat)/\j<=rs.length/\Below w2.heap.size w2 wr/\wr.ownsRow w2.heap.size 62 2 av ((rs.take j).flatMap fun r=>r.2.1).length (Q6 ((rs.take j).flatMap fun r=>r.2.1))/\ ∀r∈rs.take j,r.2.2.length=c0
theorem Qx5:∀(rs:List bY) (c0:Nat),(∀r∈rs,r.2.2.length=c0)->(rs.flatMap fun r=>r.2.2).length=rs.length*c0
 | [],c0,_=>by simp
 |r::rs,c0,h=>by rw[aen,aac,Qx5 rs c0 fun r' hr'=>h r' (by simp[hr']),h r (by simp),aaf,aeF];omega
theorem Qx8 (rs:List bY)(hp:∀r∈rs,r.2.1.length=r.2.2.length)(j:Nat):((rs.take j).flatMap fun r=>r.2.1).length<=(rs.map fun r=>r.2.2).flatten.length:=by
 have e:∀l:List bY,(∀r∈l,r.2.1.length=r.2.2.length)->(l.flatMap fun r=>r.2.1).length=(l.map fun r=>r.2.2).flatten.length:=by
  intro l
  induction l with
  |nil=>intro _;rfl
  |cons a l ih=>intro h;rw[aen,abK,aeR,aac,aac,ih fun r hr=>h r (by simp[hr]),h a (by simp)]
 rw[e _ fun r hr=>hp r (adD hr)]
 conv=>rhs;rw[<-adA j rs,ado,List.flatten_append,aac]
 omega
theorem Qg7 {col:Nat}{x:aq.RW}{rs:List bY}{c0 d:Nat}{ts:List Tok}(h0:∃r0 rs',rs=r0::rs'/\r0.2.2.length=c0){r:bY}(hr:r∈rs)(hne:r.2.2.length≠c0):kC col x (.ok (((rs.map fun r=>r.2.2).flatten,(rs.map fun r=>r.2.2).map List.length),⟨ts,d⟩))=.error (col,2):=by
 obtain⟨r0,rs',rfl,h0⟩:=h0;unfold kC;simp only;rw[if_pos];rw[aew];refine⟨r.2.2.length,?_,?_⟩
 ·rw[aeE]
  exact adR.2 ⟨r,hr,rfl⟩
 simp only[abK,List.headD_cons,h0]
 simpa using hne
theorem Qg6 {col:Nat}{x:aq.RW}{rs:List bY}{c0 d:Nat}{ts:List Tok}(h0:∃r0 rs',rs=r0::rs'/\r0.2.2.length=c0)(hall:∀r∈rs,r.2.2.length=c0)(hb:64<rs.length\/64<c0):kC col x (.ok (((rs.map fun r=>r.2.2).flatten,(rs.map fun r=>r.2.2).map List.length),⟨ts,d⟩))=.error (col,5):=by
 obtain⟨r0,rs',rfl,h0⟩:=h0;unfold kC;simp only
 have E:(((r0::rs').map fun r=>r.2.2).map List.length).headD 0=c0:=by simp[h0]
 rw[if_neg,if_pos]
 ·rw[E,aay,aay]
  simpa using hb
 rw[E,aeE,List.any_map,aew];rintro ⟨r,H,h⟩;have:=hall r H;simp[this]at h
theorem Qb4 {col:Nat}{x:aq.RW}{rs:List bY}{c0 d:Nat}{ts:List Tok}(h0:∃r0 rs',rs=r0::rs'/\r0.2.2.length=c0)(hall:∀r∈rs,r.2.2.length=c0)(hb:rs.length<=64)(hc:c0<=64):kC col x (.ok (((rs.map fun r=>r.2.2).flatten,(rs.map fun r=>r.2.2).map List.length),⟨ts,d⟩))=aq.has x (.mat ⟨rs.length,c0,rs.flatMap fun r=>r.2.2⟩) ts:=by
 obtain⟨r0,rs',rfl,h0⟩:=h0;unfold kC;simp only
 have E:(((r0::rs').map fun r=>r.2.2).map List.length).headD 0=c0:=by simp[h0]
 rw[if_neg,if_neg,E,aay,aay,List.flatMap_def]
 ·rw[E,aay,aay]
  simp only[aep,aaV];omega
 rw[E,aeE,List.any_map,aew];rintro ⟨r,H,h⟩;have:=hall r H;simp[this]at h
end Go.Proofs.YtgfmiladfeoldaaGreatDoor
