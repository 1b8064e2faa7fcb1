/- Joined texts of this claim's proof: RwE, RwF, RwG. -/
import Derived.Test.YtgfmiladfeoldaaGreatDoorPk1
import Derived.Test.YtgfmiladfeoldaaGreatDoorPk35
set_option linter.unusedSimpArgs false
set_option linter.unusedVariables false
set_option maxRecDepth 100000
set_option maxHeartbeats 16000000
namespace Go.Proofs.YtgfmiladfeoldaaGreatDoor
open Go.RowKit NatP LexP
theorem Fa (R:Nat)(tv:Value)(L:List Tok)(i:Nat)(nv vv sv:Value)(ns:List Nv)(vs:List Nat)(stk:List RfP.Op)(want pw:Bool)(d:Nat)(w:World)(h:WM w R tv L i nv vv sv ns vs stk want pw d)
  (op n:Nat) (text:Qx) (hop:op<=255) (hn:n<=vs.length) (hb1:vs.length<=134217728) (hb2:ns.length<=134217728):
  Calls Tryz.prog 137 #[.pointer (some ⟨R,0,none⟩),.int .i64 (op:Nat),.string ⟨text.toArray⟩,.int .i64 (n:Nat)] w (AddP R tv L i ns vs stk want pw d op n text w nv vv sv):=by
 cases n with
 |zero=>
  by_cases hv:vv.ownBlock=none
  ·exact Qyq R tv L i nv vv sv ns vs stk want pw d w h op text hop hv hb1 hb2
  ·exact Qw0 R tv L i nv vv sv ns vs stk want pw d w h op text hop hv hb1 hb2
 |succ n=>exact Qmc R tv L i nv vv sv ns vs stk want pw d w h op (n+1) text hop hn (Nat.succ_pos n) hb1 hb2
def WRi (w:World)(R:Nat)(tv:Value)(L:List Tok)(i:Nat)(x:RfP.RW):Prop:=
 ∃nv vv sv ns,WM w R tv L i nv vv sv ns (SynP.Xm x.vals.reverse 0) x.stack.reverse x.want x.pw x.depth/\ns.map Prod.fst=SynP.Y5 x.vals.reverse 0
theorem WRi.below {w w':World}{R:Nat}{tv:Value}{L:List Tok}{i:Nat}{x:RfP.RW}(h:WRi w R tv L i x)(hb:Below w.heap.size w w'):WRi w' R tv L i x:=by
 obtain⟨nv,vv,sv,ns,E,H⟩:=h;exact⟨nv,vv,sv,ns,E.below hb,H⟩
theorem WRi.lt {w:World}{R:Nat}{tv:Value}{L:List Tok}{i:Nat}{x:RfP.RW}(h:WRi w R tv L i x):R<w.heap.size:=by
 obtain⟨_,_,_,_,E,_⟩:=h;exact E.lt
theorem Np:∀(l:List SynP.Ex) (o:Nat),(SynP.Y5 l o).length=SynP.Qo l
 | [],_=>rfl
 |a::l,o=>by
  show (a.flat o++SynP.Y5 l (o+a.size)).length=a.size+SynP.Qo l;rw[List.length_append,SynP.Jr,Np l]
theorem Ui:∀l:List SynP.Ex,l.length<=SynP.Qo l
 | []=>Nat.le_refl _
 |a::l=>by
  have:=SynP.Vj a;have:=Ui l;show l.length+1<=a.size+SynP.Qo l;omega
structure IsNode (e:SynP.Ex) (op:Nat) (text:Qx) (es:List SynP.Ex):Prop where
 flat:∀o,e.flat o=SynP.Y5 es o++[⟨op,text,SynP.Xm es o⟩]
 size:e.size=SynP.Qo es+1
theorem Qm0 (a:SynP.Ex):IsNode (.neg a) 4 [] [a]:=⟨fun o=>by simp[SynP.Ex.flat,SynP.Y5,SynP.Xm],by simp[SynP.Ex.size,SynP.Qo]⟩
theorem Qy6 (a:SynP.Ex):IsNode (.turn a) 5 [] [a]:=⟨fun o=>by simp[SynP.Ex.flat,SynP.Y5,SynP.Xm],by simp[SynP.Ex.size,SynP.Qo]⟩
theorem Qmb (a:SynP.Ex)(n:Nat):IsNode (.pow a n) 9 (SynP.decT n) [a]:=⟨fun o=>by simp[SynP.Ex.flat,SynP.Y5,SynP.Xm],by simp[SynP.Ex.size,SynP.Qo]⟩
theorem Qqn {k:Nat}(hk:RfP.Jp k=true)(a b:SynP.Ex):IsNode (RfP.bin k a b) (if k=43 then 6 else if k=45 then 7 else 8) [] [a,b]:=by
 unfold RfP.bin;split
 ·exact⟨fun o=>by simp[SynP.Ex.flat,SynP.Y5,SynP.Xm],by simp[SynP.Ex.size,SynP.Qo]<;>omega⟩
 ·split
  ·exact⟨fun o=>by simp[SynP.Ex.flat,SynP.Y5,SynP.Xm],by simp[SynP.Ex.size,SynP.Qo]<;>omega⟩
  ·exact⟨fun o=>by simp[SynP.Ex.flat,SynP.Y5,SynP.Xm],by simp[SynP.Ex.size,SynP.Qo]<;>omega⟩
theorem Qpn (x:Qx)(es:List SynP.Ex):IsNode (.call x (SynP.ofL es)) 10 x es:=
 ⟨fun o=>by show (SynP.ofL es).flat o++[_]=_;rw[SynP.Kr,SynP.P0],by show (SynP.ofL es).size+1=_;rw[SynP.Hf]⟩
theorem Qmr (n:Nat):IsNode (.num n) 1 (SynP.decT n) []:=⟨fun _=>rfl,rfl⟩
theorem Qpo (x:Qx):IsNode (.name x) 2 x []:=⟨fun _=>rfl,rfl⟩
theorem Qw3 (m:SynP.MatV):IsNode (.mat m) 3 (SynP.matT m) []:=⟨fun _=>rfl,rfl⟩
theorem Qyn (l:List (List Nat)):IsNode (.cpx l) 13 (SynP.cpxT l) []:=⟨fun _=>rfl,rfl⟩
def BsOk (Bs:List (Nat×Option Obj))(w:World)(R:Nat)(nv vv sv:Value):Prop:=
 ∀p∈Bs,R<p.1/\p.1<w.heap.size/\nv.ownBlock≠some p.1/\vv.ownBlock≠some p.1/\sv.ownBlock≠some p.1/\w.heap[p.1]?=p.2
theorem BsOk.turn {Bs:List (Nat×Option Obj)}{w w':World}{R:Nat}{nv vv sv nv' vv' sv':Value}(h:BsOk Bs w R nv vv sv)(hz:w.heap.size<=w'.heap.size)(hf:FrW R w w' nv vv sv nv' vv' sv'):BsOk Bs w' R nv' vv' sv':=fun p hp=>by
 obtain⟨a,b,c,d,e,f⟩:=h p hp;obtain⟨y1,y2,y3,y4⟩:=hf p.1 a b c d e;exact⟨a,Nat.lt_of_lt_of_le b hz,y2,y3,y4,y1.trans f⟩
theorem BsOk.below {Bs:List (Nat×Option Obj)}{w w':World}{R:Nat}{nv vv sv:Value}(h:BsOk Bs w R nv vv sv)(hb:Below w.heap.size w w'):BsOk Bs w' R nv vv sv:=fun p hp=>by
 obtain⟨a,b,c,d,e,f⟩:=h p hp;exact⟨a,Nat.lt_of_lt_of_le b hb.size,c,d,e,(hb.block p.1 b).trans f⟩
theorem BsOk.cut {Bs:List (Nat×Option Obj)}{w w5:World}{R:Nat}{nv vv sv sv':Value}(h:BsOk Bs w R nv vv sv)(hb:Below w.heap.size w w5)(o:Nat)(u:Value)(ho:sv'.ownBlock=sv.ownBlock):BsOk Bs (w5.setCell ⟨R,o,none⟩ u) R nv vv sv':=fun p hp=>by
 obtain⟨a,b,c,d,e,f⟩:=(h.below hb) p hp;exact⟨a,by simpa [World.setCell] using b,c,d,by rw[ho];exact e,(heap_setCell_other w5 ⟨R,o,none⟩ p.1 u (by show p.1≠R;omega)).trans f⟩
def WRx (Bs:List (Nat×Option Obj))(w:World)(R:Nat)(tv:Value)(L:List Tok)(i:Nat)(x:RfP.RW):Prop:=
 ∃nv vv sv ns,WM w R tv L i nv vv sv ns (SynP.Xm x.vals.reverse 0) x.stack.reverse x.want x.pw x.depth/\ns.map Prod.fst=SynP.Y5 x.vals.reverse 0/\BsOk Bs w R nv vv sv
theorem WRx.wri {Bs:List (Nat×Option Obj)}{w:World}{R:Nat}{tv:Value}{L:List Tok}{i:Nat}{x:RfP.RW}(h:WRx Bs w R tv L i x):WRi w R tv L i x:=by
 obtain⟨nv,vv,sv,ns,E,H,-⟩:=h;exact⟨nv,vv,sv,ns,E,H⟩
theorem WRi.wrx {w:World}{R:Nat}{tv:Value}{L:List Tok}{i:Nat}{x:RfP.RW}(h:WRi w R tv L i x):WRx [] w R tv L i x:=by
 obtain⟨nv,vv,sv,ns,E,H⟩:=h;exact⟨nv,vv,sv,ns,E,H,fun _ h=>nomatch h⟩
theorem WRx.below {Bs:List (Nat×Option Obj)}{w w':World}{R:Nat}{tv:Value}{L:List Tok}{i:Nat}{x:RfP.RW}(h:WRx Bs w R tv L i x)(hb:Below w.heap.size w w'):WRx Bs w' R tv L i x:=by
 obtain⟨nv,vv,sv,ns,E,I,H⟩:=h;exact⟨nv,vv,sv,ns,E.below hb,I,H.below hb⟩
theorem WRi.box {w w1:World}{R:Nat}{tv:Value}{L:List Tok}{i:Nat}{x:RfP.RW}(h:WRi w R tv L i x)(hb:Below w.heap.size w w1){B:Nat}(hB:w.heap.size<=B)(hB1:B<w1.heap.size):WRx [(B,w1.heap[B]?)] w1 R tv L i x:=by
 obtain⟨nv,vv,sv,ns,E,H⟩:=h;refine⟨nv,vv,sv,ns,E.below hb,H,fun p hp=> ?_⟩;obtain rfl:=List.mem_singleton.1 hp;have I:=E.lt;exact⟨by show R<B;omega,hB1,fun e=>by have:=(X7 E.ndo e).2;omega,fun e=>by have:=(X7 E.vlo e).2;omega,fun e=>by have:=(X7 E.sto e).2;omega,rfl⟩
theorem WRx.at {Bs:List (Nat×Option Obj)}{w:World}{R:Nat}{tv:Value}{L:List Tok}{i:Nat}{x:RfP.RW}(h:WRx Bs w R tv L i x){p:Nat×Option Obj}(hp:p∈Bs):R<p.1/\p.1<w.heap.size/\w.heap[p.1]?=p.2:=by
 obtain⟨nv,vv,sv,ns,H,I,E⟩:=h;obtain⟨a,b,c,d,e,f⟩:=E p hp;exact⟨a,b,f⟩
theorem Pi {Bs:List (Nat×Option Obj)}(R:Nat)(tv:Value)(L:List Tok)(i:Nat)(x:RfP.RW)(w:World)(h:WRx Bs w R tv L i x){V es:List SynP.Ex}{e:SynP.Ex}{op:Nat}{text:Qx}(hv:x.vals=es.reverse++V)(hn:IsNode e op text es)
  (hb:SynP.Qo x.vals.reverse<=134217728) (hop:op<=255):
  Calls Tryz.prog 137 #[.pointer (some ⟨R,0,none⟩),.int .i64 (op:Nat),.string ⟨text.toArray⟩,.int .i64 (es.length:Nat)] w fun e' w'=>e'=.returned (.tuple #[])/\Below R w w'/\WRx Bs w' R tv L i {x with vals:=e::V}:=by
 obtain⟨nv,vv,sv,ns,h1,K,U⟩:=h
 have E:x.vals.reverse=V.reverse++es:=by rw[hv,List.reverse_append,List.reverse_reverse]
 have hl:=Ui x.vals.reverse
 have O:ns.length=SynP.Qo x.vals.reverse:=by rw[<-Np x.vals.reverse 0,<-K,List.length_map]
 have J:(SynP.Xm x.vals.reverse 0).length=x.vals.reverse.length:=SynP.Jv _ _
 have I:(SynP.Xm x.vals.reverse 0).length=V.length+es.length:=by rw[J,E,List.length_append,List.length_reverse]
 refine(Fa R tv L i nv vv sv ns _ _ _ _ _ w h1 op es.length text hop (by omega) (by omega) (by omega)).mono fun e' w' hp=> ?_;obtain⟨rfl,H,nv',vv',sv',kv,Z,T⟩:=hp;refine⟨rfl,H,nv',vv',sv',ns++[(⟨op,text,(SynP.Xm x.vals.reverse 0).drop ((SynP.Xm x.vals.reverse 0).length-es.length)⟩,kv)],?_,?_,U.turn H.size T⟩
 rotate_left
 ·show (ns++[_]).map Prod.fst=SynP.Y5 (e::V).reverse 0
  rw[List.map_append,K,List.reverse_cons,SynP.Nd,E,SynP.Nd,List.append_assoc];congr 1
  have e1:SynP.Y5 [e] (0+SynP.Qo V.reverse)=e.flat (0+SynP.Qo V.reverse):=by simp[SynP.Y5]
  rw[e1,hn.flat];congr 1;rw[SynP.U3]
  have e2:(SynP.Xm V.reverse 0).length=V.length:=by rw[SynP.Jv,List.length_reverse]
  have e3:(SynP.Xm V.reverse 0++SynP.Xm es (0+SynP.Qo V.reverse)).length-es.length=V.length:=by
   rw[List.length_append,e2,SynP.Jv];omega
  rw[e3,List.drop_left' e2];rfl
 ·show WM w' R tv L i nv' vv' sv' _ (SynP.Xm (e::V).reverse 0) x.stack.reverse x.want x.pw x.depth
  have e4:SynP.Xm (e::V).reverse 0=(SynP.Xm x.vals.reverse 0).take ((SynP.Xm x.vals.reverse 0).length-es.length)++[ns.length]:=by
   rw[List.reverse_cons,SynP.U3,I,Nat.add_sub_cancel,E,SynP.U3,List.take_left' (by rw[SynP.Jv,List.length_reverse])];congr 1
   have e5:SynP.Xm [e] (0+SynP.Qo V.reverse)=[0+SynP.Qo V.reverse+e.size-1]:=by simp[SynP.Xm]
   rw[e5,hn.size,O,E,SynP.Zw];congr 1;omega
  rw[e4];exact Z
theorem Dn (R:Nat)(tv:Value)(L:List Tok)(i:Nat)(x:RfP.RW)(w:World)(h:WRi w R tv L i x){V es:List SynP.Ex}{e:SynP.Ex}{op:Nat}{text:Qx}(hv:x.vals=es.reverse++V)(hn:IsNode e op text es)
  (hb:SynP.Qo x.vals.reverse<=134217728) (hop:op<=255):
  Calls Tryz.prog 137 #[.pointer (some ⟨R,0,none⟩),.int .i64 (op:Nat),.string ⟨text.toArray⟩,.int .i64 (es.length:Nat)] w fun e' w'=>e'=.returned (.tuple #[])/\Below R w w'/\WRi w' R tv L i {x with vals:=e::V}:=
 (Pi R tv L i x w h.wrx hv hn hb hop).mono fun e' w' hp=>⟨hp.1,hp.2.1,hp.2.2.wri⟩
theorem WRi.set {w:World}{R:Nat}{tv:Value}{L:List Tok}{i:Nat}{x:RfP.RW}(h:WRi w R tv L i x)(o:Nat)(u:Value){i':Nat}{want' pw':Bool}{d':Nat}
  (hc:∀nv vv sv,(#[tv,.int .i64 (i:Nat),nv,vv,sv,.bool x.want,.bool x.pw,.int .i64 (x.depth:Nat)]:Array Value).setIfInBounds o u= #[tv,.int .i64 (i':Nat),nv,vv,sv,.bool want',.bool pw',.int .i64 (d':Nat)]) {ts':List Tok}:
  WRi (w.setCell ⟨R,o,none⟩ u) R tv L i' {x with ts:=ts',want:=want',pw:=pw',depth:=d'}:=by
 obtain⟨nv,vv,sv,ns,E,H⟩:=h;exact⟨nv,vv,sv,ns,E.set o u (hc nv vv sv),H⟩
theorem WRi.cells {w:World}{R:Nat}{tv:Value}{L:List Tok}{i:Nat}{x:RfP.RW}(h:WRi w R tv L i x):
  w.cell? ⟨R,0,none⟩=some tv/\w.cell? ⟨R,1,none⟩=some (.int .i64 (i:Nat))/\w.cell? ⟨R,5,none⟩=some (.bool x.want)/\w.cell? ⟨R,6,none⟩=some (.bool x.pw)/\w.cell? ⟨R,7,none⟩=some (.int .i64 (x.depth:Nat))/\TkR w R tv L:=by
 obtain⟨nv,vv,sv,ns,E,H⟩:=h;obtain⟨c0,c1,c2,c3,c4,c5,c6,c7⟩:=E.cells;exact⟨c0,c1,c5,c6,c7,E.tks⟩
theorem WRi.fro {w:World}{R:Nat}{tv:Value}{L:List Tok}{i:Nat}{x:RfP.RW}(h:WRi w R tv L i x)(o:Nat):w.frozen? ⟨R,o,none⟩=false:=by
 obtain⟨nv,vv,sv,ns,E,H⟩:=h;exact E.fro o
theorem P6 (R:Nat)(tv:Value)(L:List Tok)(i:Nat)(x:RfP.RW)(w:World)(h:WRi w R tv L i x){e:SynP.Ex}{op:Nat}{text:Qx}(hn:IsNode e op text [])(hb:SynP.Qo x.vals.reverse<=134217728)(hop:op<=255)(ts:List Tok):
  Calls Tryz.prog 148 #[.pointer (some ⟨R,0,none⟩),.int .i64 (op:Nat),.string ⟨text.toArray⟩] w fun e' w'=>e'=.returned (.tuple #[])/\Below R w w'/\WRi w' R tv L i {x with ts:=ts,vals:=e::x.vals,want:=false,pw:=false}:=by
 have HA:Hid (Calls Tryz.prog 137 #[.pointer (some ⟨R,0,none⟩),.int .i64 (op:Nat),.string ⟨text.toArray⟩,.int .i64 0] w fun e' w'=>e'=.returned (.tuple #[])/\Below R w w'/\WRi w' R tv L i {x with vals:=e::x.vals}):=
  Dn R tv L i x w h (V:=x.vals) (es:=[]) rfl hn hb hop
 obtain⟨T,hT⟩:=xq (⟨text.toArray⟩:ByteArray);rw[<-hT]at HA ⊢;clear hT;go_enter Tryz.func148,Tryz.ntmps148;go_wp2_with fail;refine HA.o.mono ?_;rintro e' w1 ⟨rfl,hb1,hw1⟩;obtain⟨c0,c1,c5,c6,c7,-⟩:=hw1.cells;have f5:=hw1.fro 5;have f6:=hw1.fro 6
 have HF:Hid (Below R w ((w1.setCell ⟨R,5,none⟩ (.bool false)).setCell ⟨R,6,none⟩ (.bool false))/\WRi ((w1.setCell ⟨R,5,none⟩ (.bool false)).setCell ⟨R,6,none⟩ (.bool false)) R tv L i {x with ts:=ts,vals:=e::x.vals,want:=false,pw:=false}):=by
  refine⟨(hb1.trans (Xv 5 _)).trans (Xv 6 _),?_⟩;have h2:=hw1.set (i':=i) (want':=false) (pw':=x.pw) (d':=x.depth) (ts':=ts) 5 (.bool false) (fun nv vv sv=>by simp);exact h2.set (i':=i) (want':=false) (pw':=false) (d':=x.depth) (ts':=ts) 6 (.bool false) (fun nv vv sv=>by simp)
 clear hb1 hw1;go_wp2_with fail;go_end0;exact⟨rfl,HF.o⟩
theorem WM.regrowS {w w0 w5:World}{R:Nat}{tv:Value}{L:List Tok}{i:Nat}{nv vv sv:Value}{ns:List Nv}{vs:List Nat}{stk stk':List RfP.Op}{want pw:Bool}{d:Nat}(h:WM w R tv L i nv vv sv ns vs stk want pw d)
  (hb0:Below w.heap.size w w0) {g5 n5 cap5:Nat} {row:Option Nat} (ho:w5.ownsRow (R+1) 167 3 (.slice (some ⟨g5,0,none⟩) n5 cap5) n5 (Xt stk')) (hn5:n5=stk'.length) (hrow:row=sv.ownBlock) (hg:w0.grownBy w5 row) (hat:sv.ownBlock=some g5\/w.heap.size<=g5):
  WM (w5.setCell ⟨R,4,none⟩ (.slice (some ⟨g5,0,none⟩) n5 cap5)) R tv L i nv vv (.slice (some ⟨g5,0,none⟩) n5 cap5) ns vs stk' want pw d/\Below R w (w5.setCell ⟨R,4,none⟩ (.slice (some ⟨g5,0,none⟩) n5 cap5)):=by
 subst hrow;have K:=h.lt;have T:w.heap.size<=w5.heap.size:=Nat.le_trans hb0.size hg.size
 have E:∀k,k<w.heap.size->sv.ownBlock≠some k->w5.heap[k]?=w.heap[k]? :=fun k hk hne=>
  (hg.block k (Nat.lt_of_lt_of_le hk hb0.size) (Ne.symm hne)).trans (hb0.block k hk)
 have H:∀k,k≠R->(w5.setCell ⟨R,4,none⟩ (.slice (some ⟨g5,0,none⟩) n5 cap5)).heap[k]?=w5.heap[k]? :=fun k hk=>heap_setCell_other w5 ⟨R,4,none⟩ k _ hk
 have J:sv.ownBlock≠some R:=fun e=>by have:=(X7 h.sto e).1;omega
 have I:=(E R K J).trans h.blk;have O:=(heap_setCell_same w5 R 4 _ _ (.slice (some ⟨g5,0,none⟩) n5 cap5) I);refine⟨h.stack (by simp[World.setCell];omega) (fun k hk hkR hks=> ?_) ?_ (fun q hq=> ?_) (O.trans (by simp)),?_⟩
 ·rw[H k hkR];exact E k hk hks
 ·rw[<-hn5]
  exact Q6 ho (fun g _ h1 _=>H g (by omega))
 ·obtain rfl:g5=q:=Option.some.inj hq
  exact hat
 ·refine⟨hg.os.trans hb0.os,hg.tape.trans hb0.tape,hg.output.trans hb0.output,by simp[World.setCell];omega,fun k hk=> ?_⟩
  rw[H k (by omega)];exact E k (by omega) (fun e=>by have:=(X7 h.sto e).1;omega)
theorem WM.cutS {w w5:World}{R:Nat}{tv:Value}{L:List Tok}{i:Nat}{nv vv:Value}{ns:List Nv}{vs:List Nat}{stk:List RfP.Op}{want pw:Bool}{d:Nat}{g n cap m:Nat}(h:WM w R tv L i nv vv (.slice (some ⟨g,0,none⟩) n cap) ns vs stk want pw d)
  (hb:Below w.heap.size w w5) (hm:m<=n):WM (w5.setCell ⟨R,4,none⟩ (.slice (some ⟨g,0,none⟩) m cap)) R tv L i nv vv (.slice (some ⟨g,0,none⟩) m cap) ns vs (stk.take m) want pw d/\Below R w (w5.setCell ⟨R,4,none⟩ (.slice (some ⟨g,0,none⟩) m cap)):=by
 have H:=h.below hb;have T:=H.lt;have J:=(heap_setCell_same w5 R 4 _ _ (.slice (some ⟨g,0,none⟩) m cap) H.blk);have E:∀k,k≠R->(w5.setCell ⟨R,4,none⟩ (.slice (some ⟨g,0,none⟩) m cap)).heap[k]?=w5.heap[k]? :=fun k hk=>heap_setCell_other w5 ⟨R,4,none⟩ k _ hk
 have I:n=stk.length:=by
  obtain⟨a,b,e,-⟩:=Qj h.sto
  cases e;rfl
 have O:=Sq (by rw[I]at H;exact H.sto) (show m<=stk.length by omega)
 have e1:(Xt stk).take (m*3)=Xt (stk.take m):=by
  have:=W5 (stk.take m) (stk.drop m);rw[List.take_append_drop]at this;rw[this,List.take_left' (by rw[Sk,List.length_take];omega)]
 have K:(w5.setCell ⟨R,4,none⟩ (.slice (some ⟨g,0,none⟩) m cap)).heap[R]?=some (.cells #[tv,.int .i64 (i:Nat),nv,vv,.slice (some ⟨g,0,none⟩) m cap,.bool want,.bool pw,.int .i64 (d:Nat)] 116 (0,0)):=J.trans (by simp);refine⟨H.stack (sv':=.slice (some ⟨g,0,none⟩) m cap) (stk':=stk.take m) (by simp[World.setCell]) (fun k hk hkR hks=>E k hkR) ?_ (fun q hq=> .inl hq) K,(hb.mono (Nat.le_of_lt h.lt)).trans (Xv 4 _)⟩
 have e2:(stk.take m).length=m:=by rw[List.length_take];omega
 rw[e2,<-e1];exact Q6 O (fun g _ h1 _=>E g (by omega))
theorem Rq (R:Nat)(tv:Value)(L:List Tok)(i:Nat)(x:RfP.RW)(o:RfP.Op)(w:World)(h:WRi w R tv L i x)(hk:o.kind<256)(hb:x.stack.length<=134217728)(ha:o.args<=134217728)(ts:List Tok):
  Calls Tryz.prog 177 #[.pointer (some ⟨R,0,none⟩),.agg #[.int .u8 (o.kind:Nat),.string ⟨o.name.toArray⟩,.int .i64 (o.args:Nat)]] w fun e' w'=>e'=.returned (.tuple #[])/\Below R w w'/\WRi w' R tv L i {x with ts:=ts,stack:=o::x.stack}:=by
 obtain⟨j0,hj,hy0,hy1,hy2⟩:=info_parts Tryz.infoOp;obtain⟨nv,vv,sv,ns,h1,h2⟩:=h;have H:=zq h1;have H2:=zq h2;have hRl:=h1.lt;obtain⟨c0,c1,c2,c3,c4,c5,c6,c7⟩:=h1.cells;have f4:=h1.fro 4;obtain⟨so,scap,hse,-⟩:=Qj h1.sto;have hse':=hse;rw[hse']at c4;obtain⟨sn,hsn⟩:=xq x.stack.reverse.length
 have hsl:sn<=134217728:=by rw[hsn,List.length_reverse];exact hb
 rw[<-hsn]at c4 hse';have HSE:=zq hse';have HSN:=zq hsn;obtain⟨T,hT⟩:=xq (⟨o.name.toArray⟩:ByteArray);obtain⟨kd,hkd⟩:∃kd:Int,kd=(o.kind:Nat):=⟨_,rfl⟩;obtain⟨ar,har⟩:∃ar:Int,ar=(o.args:Nat):=⟨_,rfl⟩
 have HOC:Hid (Xt [o]=[.int .u8 kd,.string T,.int .i64 ar]):=by show _=_;rw[hT,hkd,har];rfl
 rw[<-hT,<-hkd,<-har];have hbb:Below w.heap.size w (((w.alloc (.cells #[.int .u8 kd,.string T,.int .i64 ar] 167)).alloc (.cells #[.int .u8 kd,.string T,.int .i64 ar] 167)).drew):=(((Qq w _).alloc (by simp) _)).drew;have HBB:=zq hbb
 have HOWN:Hid ((((w.alloc (.cells #[.int .u8 kd,.string T,.int .i64 ar] 167)).alloc (.cells #[.int .u8 kd,.string T,.int .i64 ar] 167)).drew).ownsRow (R+1) 167 3 (.slice so sn scap) sn (Xt x.stack.reverse)):=by
  have h3:=h1.sto;rw[hse']at h3;rw[<-hsn]at h3;exact Qh h3 hbb (Nat.le_refl _)
 have HRB:Hid (some R≠(Value.slice so sn scap).ownBlock):=fun e=>by
  have:=(X7 HOWN.o e.symm).1;omega
 have HRL:Hid (R<(((w.alloc (.cells #[.int .u8 kd,.string T,.int .i64 ar] 167)).alloc (.cells #[.int .u8 kd,.string T,.int .i64 ar] 167)).drew).heap.size):=by show _<_;simp;omega
 have HC4:Hid ((((w.alloc (.cells #[.int .u8 kd,.string T,.int .i64 ar] 167)).alloc (.cells #[.int .u8 kd,.string T,.int .i64 ar] 167)).drew).cell? ⟨R,4,none⟩=some (.slice so sn scap)):=(hbb.cell (p:=⟨R,4,none⟩) hRl).trans c4;have HF4:Hid ((((w.alloc (.cells #[.int .u8 kd,.string T,.int .i64 ar] 167)).alloc (.cells #[.int .u8 kd,.string T,.int .i64 ar] 167)).drew).frozen? ⟨R,4,none⟩=false):=(hbb.frozen (p:=⟨R,4,none⟩) hRl).trans f4
 have HNEW:Hid ((((w.alloc (.cells #[.int .u8 kd,.string T,.int .i64 ar] 167)).alloc (.cells #[.int .u8 kd,.string T,.int .i64 ar] 167)).drew).heap[w.heap.size+1]?=some (.cells #[.int .u8 kd,.string T,.int .i64 ar] 167 (0,0))):=by
  have e:=heap_alloc_new (w.alloc (.cells #[.int .u8 kd,.string T,.int .i64 ar] 167)) (.cells #[.int .u8 kd,.string T,.int .i64 ar] 167)
  have e2:(w.alloc (.cells #[.int .u8 kd,.string T,.int .i64 ar] 167)).heap.size=w.heap.size+1:=by simp
  rw[e2]at e;exact e
 clear h1 h2 hse hse' hsn hT hkd har hbb;go_enter Tryz.func177,Tryz.ntmps177;go_wp2_with fail
 go_region_law
  ((refine step_append_lies _ (by rfl) _ _ _ (by rfl) (R+1) 167 j0 _ 3 32 Tryz.underlying114 hj hy0 hy1 hy2 rfl (by omega) (.slice so sn scap) sn (Xt x.stack.reverse) (by rfl) (by exact HOWN.o) ⟨w.heap.size+1,0,none⟩ 1 1 [.int .u8 kd,.string T,.int .i64 ar] (by rfl) (by rfl) (World.news_of_block HNEW.o) (by simp[Value.oneCell']) (by omega) (by unfold maxLen;omega) (by omega) (by simp;omega) (w.heap.size+2) (by simp) ?_;intro g5 cap5 w5 hown5 hgrow5 hat5 hlt5;have e3:w5.cell? ⟨R,4,none⟩=some (.slice so sn scap):=(hgrow5.cell_far ⟨R,4,none⟩ HRL.o HRB.o).trans HC4.o;have e4:w5.frozen? ⟨R,4,none⟩=false:=(hgrow5.frozen_far ⟨R,4,none⟩ HRL.o HRB.o).trans HF4.o))
 all_goals
  have HF:Hid (Below R w (w5.setCell ⟨R,4,none⟩ (.slice (some ⟨g5,0,none⟩) (sn+1) cap5))/\WRi (w5.setCell ⟨R,4,none⟩ (.slice (some ⟨g5,0,none⟩) (sn+1) cap5)) R tv L i {x with ts:=ts,stack:=o::x.stack}):=by
   have hs:=HSE.o;obtain⟨q1,q2⟩:=H.o.regrowS (stk':=(o::x.stack).reverse) HBB.o (by rw[List.reverse_cons,W5,HOC.o];exact hown5) (by rw[List.length_reverse,HSN.o,List.length_reverse];rfl) (by rw[hs]) hgrow5 (by rw[hs];rcases hat5 with e|e;exact .inl e;right;omega);exact⟨q2,nv,vv,_,ns,q1,H2.o⟩
  clear hown5 hgrow5 hat5 hlt5 e3 e4;go_wp2_with fail;go_end0;exact⟨rfl,HF.o⟩
def stkLen (R:Nat)(w:World):Nat:=match w.cell? ⟨R,4,none⟩ with|some (.slice _ n _)=>n|_=>0
theorem WRi.stkLen {w:World}{R:Nat}{tv:Value}{L:List Tok}{i:Nat}{x:RfP.RW}(h:WRi w R tv L i x):stkLen R w=x.stack.length:=by
 obtain⟨nv,vv,sv,ns,E,J⟩:=h;obtain⟨c0,c1,c2,c3,c4,c5,c6,c7⟩:=E.cells;obtain⟨so,I,H,-⟩:=Qj E.sto;unfold Go.Proofs.YtgfmiladfeoldaaGreatDoor.stkLen;rw[c4,H,List.length_reverse]
theorem WRx.stkLen {Bs:List (Nat×Option Obj)}{w:World}{R:Nat}{tv:Value}{L:List Tok}{i:Nat}{x:RfP.RW}(h:WRx Bs w R tv L i x):stkLen R w=x.stack.length:=h.wri.stkLen
def RedO (Bs:List (Nat×Option Obj))(R:Nat)(tv:Value)(L:List Tok)(i:Nat)(x:RfP.RW)(l N:Nat)(w wr:World):Prop:=
 ∃S V,RfP.Bot S/\V.length=RfP.Yk S+1/\RfP.red l S V=RfP.red l x.stack x.vals/\SynP.Qo V.reverse+S.length<=N/\(∀o∈S,o.kind<256)/\WRx Bs wr R tv L i {x with stack:=S,vals:=V}/\Below R w wr
theorem Qgb {o:RfP.Op}{S:List RfP.Op}(h:RfP.Bot (o::S)){l:Nat}(hl:1<=l)(hlo:l<=RfP.lev o.kind):RfP.Bot S/\o.args=0/\(RfP.Jp o.kind=true\/o.kind=110):=by
 cases S with
 |nil=>rcases h with h|h<;>rw[h]at hlo<;>exact absurd (Nat.le_trans hl hlo) (by decide)
 |cons p S=>
  obtain⟨E,I⟩:=h;rcases E with ⟨E,-⟩|E|⟨E,H⟩
  ·rw[E]at hlo;exact absurd (Nat.le_trans hl hlo) (by decide)
  ·rw[E]at hlo;exact absurd (Nat.le_trans hl hlo) (by decide)
  ·exact⟨I,H,E⟩
theorem U5 {Bs:List (Nat×Option Obj)}(R:Nat)(tv:Value)(L:List Tok)(i:Nat)(x:RfP.RW)(l N:Nat)(w:World)(h:WRx Bs w R tv L i x)(hl:1<=l)(hl3:l<=3)(hbot:RfP.Bot x.stack)(hlen:x.vals.length=RfP.Yk x.stack+1)(hN:SynP.Qo x.vals.reverse+x.stack.length<=N)(hNb:N<=134217728)(hk:∀o∈x.stack,o.kind<256):
  Calls Tryz.prog 74 #[.pointer (some ⟨R,0,none⟩),.int .i64 (l:Nat)] w fun e' w'=>e'=.returned (.tuple #[])/\Below R w w'/\WRx Bs w' R tv L i {x with stack:=(RfP.red l x.stack x.vals).1,vals:=(RfP.red l x.stack x.vals).2}:=by
 have HST:Hid (RedO Bs R tv L i x l N w w):=⟨x.stack,x.vals,hbot,hlen,rfl,hN,hk,h,Below.refl _ _⟩;clear h hbot hlen hN hk;go_enter Tryz.func74,Tryz.ntmps74;go_wp2_with fail;go_loopw [] (fun wr=>RedO Bs R tv L i x l N w wr) (fun wr=>stkLen R wr)
 case atStart=>exact HST.o
 case round=>
  obtain⟨S,V,hbot,hlen,hred,hN,hk,hw,hb⟩:=hrel;have hsl:=hw.stkLen
  cases S with
  |nil=>exact hbot.elim
  |cons o S=>
   have HW:=zq hw;have HB:=zq hb;have HRED:=zq hred;have HBOT:=zq hbot;have HLEN:=zq hlen;have HNN:=zq hN;have HKK:=zq hk;have hok:=hk o (List.mem_cons_self ..);obtain⟨nv,vv,sv,ns,h1,h2,hok⟩:=hw;have HOK:=zq hok;have H1:=zq h1;have H2:=zq h2;have hRl:=h1.lt;obtain⟨c0,c1,c2,c3,c4,c5,c6,c7⟩:=h1.cells;have f4:=h1.fro 4;obtain⟨so,scap,hse,s1,s2,s3⟩:=Qj h1.sto;obtain⟨p,hp⟩:=xq S.length
   have hpl:(o::S).reverse.length=p+1:=by rw[List.length_reverse,List.length_cons,hp]
   have hse0:=hse;change sv=.slice so (o::S).reverse.length scap at hse0;change (o::S).reverse.length<=scap at s1;rw[hpl]at hse0 s1;obtain⟨gs,hso,hgR,hgl,hgc⟩:=s3 (by show 0<(o::S).reverse.length;omega);subst hso;rw[hse0]at c4
   have hat:(o::S).reverse[p]?=some o:=by
    rw[List.reverse_cons,List.getElem?_append_right (by rw[List.length_reverse];omega),List.length_reverse,hp,Nat.sub_self];rfl
   obtain⟨q0,q1,q2⟩:=Wp _ p o hat;have hgc':∀j,j<(p+1)*3->wr.cell? ⟨gs,j,none⟩=(Xt (o::S).reverse)[j]? :=fun j hj=>hgc j (by show j<(o::S).reverse.length*3;rw[hpl];exact hj);have d0:wr.cell? ⟨gs,p*3,none⟩=some (.int .u8 (o.kind:Nat)):=(hgc' _ (by omega)).trans q0;have d1:wr.cell? ⟨gs,p*3+1,none⟩=some (.string ⟨o.name.toArray⟩):=(hgc' _ (by omega)).trans q1;have d2:wr.cell? ⟨gs,p*3+2,none⟩=some (.int .i64 (o.args:Nat)):=(hgc' _ (by omega)).trans q2;have HSE:=zq hse0;have HP:=zq hp;have hn4:=World.new_ne wr ⟨R,4,none⟩ c4;have hn0:=World.new_ne wr ⟨gs,p*3,none⟩ d0;have hn1:=World.new_ne wr ⟨gs,p*3+1,none⟩ d1;have hn2:=World.new_ne wr ⟨gs,p*3+2,none⟩ d2;obtain⟨n,hn⟩:=xq (p+1);rw[<-hn]at c4 s1;have HNP:=zq hn
   have hlt:p<n:=by omega
   have hsub:((n:Nat):Int)-1=((p:Nat):Int):=by omega
   have hp0:(0:Int)<=((p:Nat):Int):=by omega
   have hp1:((p:Nat):Int)<((n:Nat):Int):=by omega
   have hp2:((p:Nat):Int)<=((scap:Nat):Int):=by omega
   have hpb:p<=134217728:=by simp only[List.length_cons]at hN;omega
   have hwp:IntKind.i64.wrap ((p:Nat):Int)=((p:Nat):Int):=IntWalk.i64_in _ (by omega);obtain⟨T,hT⟩:=xq (⟨o.name.toArray⟩:ByteArray);rw[<-hT]at d1;clear hb hred hbot hlen hN hk hok h1 h2 hse hse0 s3 hgc hgc' q0 q1 q2 hat hpl hp hT hn;go_wp2_with fail;go_region_held3 (fun w'=>w'.cell? ⟨R,4,none⟩=some (.slice (some ⟨gs,0,none⟩) n scap)/\w'.cell? ⟨gs,p*3,none⟩=some (.int .u8 (o.kind:Nat))/\w'.cell? ⟨gs,p*3+1,none⟩=some (.string T)/\w'.cell? ⟨gs,p*3+2,none⟩=some (.int .i64 (o.args:Nat))) (go_keep) (fail);go_wp2_with fail;refine(Tw o.kind hok _).mono ?_;rintro e w2 ⟨rfl,hw2⟩
   have hb2:Below wr.heap.size wr w2:=by rw[<-hw2];exact(Qq wr _).drew
   have hg2:w2.heap[wr.heap.size]?=some (.cells #[.int .u8 (o.kind:Nat),.string T,.int .i64 (o.args:Nat)] 167 (0,0)):=by rw[<-hw2];exact heap_alloc_new _ _
   have HB2:=zq hb2;have HG2:=zq hg2;have HSL:=zq hsl;have hR2:R<w2.heap.size:=Nat.lt_of_lt_of_le hRl hb2.size;have c4':w2.cell? ⟨R,4,none⟩=some (.slice (some ⟨gs,0,none⟩) n scap):=(hb2.cell (p:=⟨R,4,none⟩) hRl).trans c4;have f4':w2.frozen? ⟨R,4,none⟩=false:=(hb2.frozen (p:=⟨R,4,none⟩) hRl).trans f4;clear hn4 hn0 hn1 hn2 d0 d1 d2 c0 c1 c2 c3 c4 c5 c6 c7 f4 hw2 hb2 hg2 hsl;by_cases hlv:RfP.lev o.kind<l
   ·have hd:decide (((RfP.lev o.kind:Nat):Int)<((l:Nat):Int))=true:=decide_eq_true (by omega)
    have HF:Hid (Below R w w2/\WRx Bs w2 R tv L i {x with stack:=(RfP.red l x.stack x.vals).1,vals:=(RfP.red l x.stack x.vals).2}):=by
     refine⟨HB.o.trans (HB2.o.mono (Nat.le_of_lt hRl)),?_⟩;rw[<-HRED.o,RfP.Z6 hlv];exact HW.o.below HB2.o
    go_wp2_with fail;refine bodyPost_ret (results_none rfl _ _ _) rfl ?_;exact⟨rfl,HF.o⟩
   ·have hd:decide (((RfP.lev o.kind:Nat):Int)<((l:Nat):Int))=false:=decide_eq_false (by omega)
    have bt:=Qgb HBOT.o hl (by omega);have HLV:=zq hlv;go_upto_region 2 with fail;go_cut [] (fun wx=>Hid (wx=w2.drew.setCell ⟨R,4,none⟩ (.slice (some ⟨gs,0,none⟩) p scap)))
    case first=>
     go_region_law (fail)
     all_goals
      go_wp2_with fail;go_meet;exact rfl
    obtain⟨w3,hw3⟩:=xq wc;rw[<-hw3]at hcut ⊢;have HC3:Hid (w3=w2.drew.setCell ⟨R,4,none⟩ (.slice (some ⟨gs,0,none⟩) p scap)):=hcut;clear hw3 hcut
    have htk:(o::S).reverse.take p=S.reverse:=by rw[List.reverse_cons,List.take_left' (by rw[List.length_reverse];exact HP.o.symm)]
    have h3:=(show WM wr R tv L i nv vv (.slice (some ⟨gs,0,none⟩) (p+1) scap) ns _ (o::S).reverse x.want x.pw x.depth by have:=H1.o;rw[HSE.o]at this;exact this).cutS (HB2.o.drew) (show p<=p+1 by omega);rw[htk,<-HC3.o]at h3;have HW3:Hid (WRx Bs w3 R tv L i {x with stack:=S,vals:=V}):=⟨_,_,_,_,h3.1,H2.o,by rw[HC3.o];exact HOK.o.cut HB2.o.drew 4 _ (by rw[HSE.o];rfl)⟩;have HB3:Hid (Below R w w3):=HB.o.trans h3.2
    have b3:w3.cell? ⟨wr.heap.size,0,none⟩=some (.int .u8 (o.kind:Nat)):=by
     have e:w3.heap[wr.heap.size]?=w2.heap[wr.heap.size]? :=by rw[HC3.o];exact heap_setCell_other w2.drew ⟨R,4,none⟩ wr.heap.size _ (by show wr.heap.size≠R;omega)
     rw[cell_of_row _ _ _ _ _ _ (e.trans HG2.o)];rfl
    have hkk:o.kind=110\/o.kind=43\/o.kind=45\/o.kind=42:=by
     rcases bt.2.2 with h|h
     ·rcases RfP.isBin_iff.1 h with h|h|h
      ·exact .inr (.inl h)
      ·exact .inr (.inr (.inl h))
      ·exact .inr (.inr (.inr h))
     ·exact .inl h
    clear h3 htk c4' f4';rcases hkk with hkd|hkd|hkd|hkd
    ·have HKD:=zq hkd
     rw[hkd]at b3
     have hnb:RfP.Jp o.kind=false:=by rw[hkd];rfl
     match V,HLEN.o,HRED,HNN with
     | [],hv,_,_=>exact absurd hv (by simp)
     |a::V1,hv,HRED,HNN=>
      have HA:Hid (Calls Tryz.prog 137 #[.pointer (some ⟨R,0,none⟩),.int .i64 4,.string ⟨#[]⟩,.int .i64 1] w3 fun e' w'=>e'=.returned (.tuple #[])/\Below R w3 w'/\WRx Bs w' R tv L i {x with stack:=S,vals:=.neg a::V1}):=
       Pi R tv L i {x with stack:=S,vals:=a::V1} w3 HW3.o (V:=V1) (es:=[a]) (e:=.neg a) (op:=4) (text:=[]) rfl (Qm0 a) (by have:=HNN.o;show SynP.Qo (a::V1).reverse<=_;omega) (by decide)
      have HFIN:Hid (∀w4,Below R w3 w4->WRx Bs w4 R tv L i {x with stack:=S,vals:=.neg a::V1}->RedO Bs R tv L i x l N w w4/\stkLen R w4<stkLen R wr):=by
       intro w4 hb4 hw4;refine⟨⟨S,_,bt.1,?_,?_,?_,fun u hu=>HKK.o u (List.mem_cons_of_mem _ hu),hw4,HB3.o.trans hb4⟩,?_⟩
       ·simp only[RfP.Yk,hnb,bt.2.1,List.length_cons]at hv ⊢;simpa using hv
       ·rw[<-HRED.o,RfP.Dz HKD.o hl3]
       ·have h6:=HNN.o
        simp only[List.reverse_cons,SynP.Zw,SynP.Qo,List.length_cons,SynP.Ex.size]at h6 ⊢;omega
       ·rw[hw4.stkLen,HSL.o];exact Nat.lt_succ_self _
      clear hv;go_wp2_with fail;refine HA.o.mono ?_;rintro e w4 ⟨rfl,hb4,hw4⟩;obtain⟨z1,z2⟩:=HFIN.o w4 hb4 hw4;clear hb4 hw4;go_wp2_with fail;exact⟨z1,z2⟩
    ·have HKD:=zq hkd
     rw[hkd]at b3
     have hbn:RfP.Jp o.kind=true:=by rw[hkd];rfl
     match V,HLEN.o,HRED,HNN with
     | [],hv,_,_=>exact absurd hv (by simp[RfP.Yk,hbn])
     | [a],hv,_,_=>exact absurd hv (by simp[RfP.Yk,hbn])
     |b::a::V1,hv,HRED,HNN=>
      have HA:Hid (Calls Tryz.prog 137 #[.pointer (some ⟨R,0,none⟩),.int .i64 6,.string ⟨#[]⟩,.int .i64 2] w3 fun e' w'=>e'=.returned (.tuple #[])/\Below R w3 w'/\WRx Bs w' R tv L i {x with stack:=S,vals:=RfP.bin 43 a b::V1}):=
       Pi R tv L i {x with stack:=S,vals:=b::a::V1} w3 HW3.o (V:=V1) (es:=[a,b]) (e:=RfP.bin 43 a b) (op:=6) (text:=[]) rfl (Qqn (k:=43) rfl a b) (by have:=HNN.o;show SynP.Qo (b::a::V1).reverse<=_;omega) (by decide)
      have HFIN:Hid (∀w4,Below R w3 w4->WRx Bs w4 R tv L i {x with stack:=S,vals:=RfP.bin 43 a b::V1}->RedO Bs R tv L i x l N w w4/\stkLen R w4<stkLen R wr):=by
       intro w4 hb4 hw4;refine⟨⟨S,_,bt.1,?_,?_,?_,fun u hu=>HKK.o u (List.mem_cons_of_mem _ hu),hw4,HB3.o.trans hb4⟩,?_⟩
       ·simp only[RfP.Yk,hbn,bt.2.1,if_true,List.length_cons]at hv ⊢;omega
       ·rw[<-HRED.o,RfP.Tm (by rw[HKD.o];decide) (by omega),HKD.o]
       ·have h6:=HNN.o
        have hbs:(RfP.bin 43 a b).size=a.size+b.size+1:=rfl;simp only[List.reverse_cons,SynP.Zw,SynP.Qo,List.length_cons,hbs]at h6 ⊢;omega
       ·rw[hw4.stkLen,HSL.o];exact Nat.lt_succ_self _
      clear hv;go_wp2_with fail;refine HA.o.mono ?_;rintro e w4 ⟨rfl,hb4,hw4⟩;obtain⟨z1,z2⟩:=HFIN.o w4 hb4 hw4;clear hb4 hw4;go_wp2_with fail;exact⟨z1,z2⟩
    ·have HKD:=zq hkd
     rw[hkd]at b3
     have hbn:RfP.Jp o.kind=true:=by rw[hkd];rfl
     match V,HLEN.o,HRED,HNN with
     | [],hv,_,_=>exact absurd hv (by simp[RfP.Yk,hbn])
     | [a],hv,_,_=>exact absurd hv (by simp[RfP.Yk,hbn])
     |b::a::V1,hv,HRED,HNN=>
      have HA:Hid (Calls Tryz.prog 137 #[.pointer (some ⟨R,0,none⟩),.int .i64 7,.string ⟨#[]⟩,.int .i64 2] w3 fun e' w'=>e'=.returned (.tuple #[])/\Below R w3 w'/\WRx Bs w' R tv L i {x with stack:=S,vals:=RfP.bin 45 a b::V1}):=
       Pi R tv L i {x with stack:=S,vals:=b::a::V1} w3 HW3.o (V:=V1) (es:=[a,b]) (e:=RfP.bin 45 a b) (op:=7) (text:=[]) rfl (Qqn (k:=45) rfl a b) (by have:=HNN.o;show SynP.Qo (b::a::V1).reverse<=_;omega) (by decide)
      have HFIN:Hid (∀w4,Below R w3 w4->WRx Bs w4 R tv L i {x with stack:=S,vals:=RfP.bin 45 a b::V1}->RedO Bs R tv L i x l N w w4/\stkLen R w4<stkLen R wr):=by
       intro w4 hb4 hw4;refine⟨⟨S,_,bt.1,?_,?_,?_,fun u hu=>HKK.o u (List.mem_cons_of_mem _ hu),hw4,HB3.o.trans hb4⟩,?_⟩
       ·simp only[RfP.Yk,hbn,bt.2.1,if_true,List.length_cons]at hv ⊢;omega
       ·rw[<-HRED.o,RfP.Tm (by rw[HKD.o];decide) (by omega),HKD.o]
       ·have h6:=HNN.o
        have hbs:(RfP.bin 45 a b).size=a.size+b.size+1:=rfl;simp only[List.reverse_cons,SynP.Zw,SynP.Qo,List.length_cons,hbs]at h6 ⊢;omega
       ·rw[hw4.stkLen,HSL.o];exact Nat.lt_succ_self _
      clear hv;go_wp2_with fail;refine HA.o.mono ?_;rintro e w4 ⟨rfl,hb4,hw4⟩;obtain⟨z1,z2⟩:=HFIN.o w4 hb4 hw4;clear hb4 hw4;go_wp2_with fail;exact⟨z1,z2⟩
    ·have HKD:=zq hkd
     rw[hkd]at b3
     have hbn:RfP.Jp o.kind=true:=by rw[hkd];rfl
     match V,HLEN.o,HRED,HNN with
     | [],hv,_,_=>exact absurd hv (by simp[RfP.Yk,hbn])
     | [a],hv,_,_=>exact absurd hv (by simp[RfP.Yk,hbn])
     |b::a::V1,hv,HRED,HNN=>
      have HA:Hid (Calls Tryz.prog 137 #[.pointer (some ⟨R,0,none⟩),.int .i64 8,.string ⟨#[]⟩,.int .i64 2] w3 fun e' w'=>e'=.returned (.tuple #[])/\Below R w3 w'/\WRx Bs w' R tv L i {x with stack:=S,vals:=RfP.bin 42 a b::V1}):=
       Pi R tv L i {x with stack:=S,vals:=b::a::V1} w3 HW3.o (V:=V1) (es:=[a,b]) (e:=RfP.bin 42 a b) (op:=8) (text:=[]) rfl (Qqn (k:=42) rfl a b) (by have:=HNN.o;show SynP.Qo (b::a::V1).reverse<=_;omega) (by decide)
      have HFIN:Hid (∀w4,Below R w3 w4->WRx Bs w4 R tv L i {x with stack:=S,vals:=RfP.bin 42 a b::V1}->RedO Bs R tv L i x l N w w4/\stkLen R w4<stkLen R wr):=by
       intro w4 hb4 hw4;refine⟨⟨S,_,bt.1,?_,?_,?_,fun u hu=>HKK.o u (List.mem_cons_of_mem _ hu),hw4,HB3.o.trans hb4⟩,?_⟩
       ·simp only[RfP.Yk,hbn,bt.2.1,if_true,List.length_cons]at hv ⊢;omega
       ·rw[<-HRED.o,RfP.Tm (by rw[HKD.o];decide) (by omega),HKD.o]
       ·have h6:=HNN.o
        have hbs:(RfP.bin 42 a b).size=a.size+b.size+1:=rfl;simp only[List.reverse_cons,SynP.Zw,SynP.Qo,List.length_cons,hbs]at h6 ⊢;omega
       ·rw[hw4.stkLen,HSL.o];exact Nat.lt_succ_self _
      clear hv;go_wp2_with fail;refine HA.o.mono ?_;rintro e w4 ⟨rfl,hb4,hw4⟩;obtain⟨z1,z2⟩:=HFIN.o w4 hb4 hw4;clear hb4 hw4;go_wp2_with fail;exact⟨z1,z2⟩
theorem Nj (R:Nat)(tv:Value)(L:List Tok)(i:Nat)(x:RfP.RW)(l N:Nat)(w:World)(h:WRi w R tv L i x)(hl:1<=l)(hl3:l<=3)(hbot:RfP.Bot x.stack)(hlen:x.vals.length=RfP.Yk x.stack+1)(hN:SynP.Qo x.vals.reverse+x.stack.length<=N)(hNb:N<=134217728)(hk:∀o∈x.stack,o.kind<256):
  Calls Tryz.prog 74 #[.pointer (some ⟨R,0,none⟩),.int .i64 (l:Nat)] w fun e' w'=>e'=.returned (.tuple #[])/\Below R w w'/\WRi w' R tv L i {x with stack:=(RfP.red l x.stack x.vals).1,vals:=(RfP.red l x.stack x.vals).2}:=
 (U5 R tv L i x l N w h.wrx hl hl3 hbot hlen hN hNb hk).mono fun e' w' hp=>⟨hp.1,hp.2.1,hp.2.2.wri⟩
end Go.Proofs.YtgfmiladfeoldaaGreatDoor
