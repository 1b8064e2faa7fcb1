/- Joined texts of this claim's proof: RwH, RwI. -/
import Derived.Test.YtgfmiladfeoldaaGreatDoorPk1
import Derived.Test.YtgfmiladfeoldaaGreatDoorPk36
set_option linter.unusedSimpArgs false
set_option linter.unusedVariables false
set_option maxRecDepth 100000
set_option maxHeartbeats 16000000
namespace Go.Proofs.YtgfmiladfeoldaaGreatDoor
open Go.RowKit NatP LexP
theorem WRi.top {wr:World}{R:Nat}{tv:Value}{L:List Tok}{i:Nat}{x:RfP.RW}{o:RfP.Op}{S:List RfP.Op}(h:WRi wr R tv L i x)(hx:x.stack=o::S):
  ∃gs scap n p,p=S.length/\n=p+1/\n<=scap/\R+1<=gs/\gs<wr.heap.size/\wr.cell? ⟨R,4,none⟩=some (.slice (some ⟨gs,0,none⟩) n scap)/\
   wr.cell? ⟨gs,p*3,none⟩=some (.int .u8 (o.kind:Nat))/\wr.cell? ⟨gs,p*3+1,none⟩=some (.string ⟨o.name.toArray⟩)/\wr.cell? ⟨gs,p*3+2,none⟩=some (.int .i64 (o.args:Nat))/\
   Hid (∀w5,Below wr.heap.size wr w5->WRi (w5.setCell ⟨R,4,none⟩ (.slice (some ⟨gs,0,none⟩) p scap)) R tv L i {x with stack:=S}/\Below R wr (w5.setCell ⟨R,4,none⟩ (.slice (some ⟨gs,0,none⟩) p scap))):=by
 obtain⟨nv,vv,sv,ns,J,h2⟩:=h;obtain⟨c0,c1,c2,c3,c4,c5,c6,c7⟩:=J.cells;obtain⟨so,scap,H,s1,s2,s3⟩:=Qj J.sto;rw[hx]at H s1 s3 J
 have I:(o::S).reverse.length=S.length+1:=by rw[List.length_reverse,List.length_cons]
 rw[I]at H s1;obtain⟨gs,U,O,T,a0⟩:=s3 (by rw[I];omega);subst U;rw[H]at c4
 have Z:(o::S).reverse[S.length]?=some o:=by
  rw[List.reverse_cons,List.getElem?_append_right (by rw[List.length_reverse];omega),List.length_reverse,Nat.sub_self];rfl
 obtain⟨q0,q1,q2⟩:=Wp _ S.length o Z;have E:∀j,j<(S.length+1)*3->wr.cell? ⟨gs,j,none⟩=(Xt (o::S).reverse)[j]? :=fun j hj=>a0 j (by rw[I];exact hj);refine⟨gs,scap,S.length+1,S.length,rfl,rfl,s1,O,T,c4,(E _ (by omega)).trans q0,(E _ (by omega)).trans q1,(E _ (by omega)).trans q2,fun w5 hb5=> ?_⟩;rw[H]at J;obtain⟨z1,z2⟩:=J.cutS hb5 (show S.length<=S.length+1 by omega)
 have K:(o::S).reverse.take S.length=S.reverse:=by rw[List.reverse_cons,List.take_left' (by rw[List.length_reverse])]
 rw[K]at z1;exact⟨⟨_,_,_,_,z1,h2⟩,z2⟩
def Rw (R:Nat)(tv:Value)(L:List Tok)(fin:Nat)(r:RfP.MR)(w:World)(e:Ending)(w':World):Prop:=
 Below R w w'/\match r with
 | .error (c,k)=> ∃a:Nat,e=.returned (.tuple #[.int .i64 (a:Nat),.int .i64 (k:Nat)])/\c=SynP.Q7 fin (L.drop a)/\k≠0
 | .ok x'=>e=.returned (.tuple #[.int .i64 0,.int .i64 0])/\ ∃i',WRi w' R tv L i' x'/\L.drop i'=x'.ts/\i'<=L.length
theorem Ff (R:Nat)(tv:Value)(L:List Tok)(i a:Nat)(x:RfP.RW)(w:World)(h:WRi w R tv L i x)(hd:x.depth<=100)(ts:List Tok):
  Calls Tryz.prog 178 #[.pointer (some ⟨R,0,none⟩),.int .i64 (a:Nat)] w fun e' w'=>Below R w w'/\
   (if 100<x.depth+1 then e'=.returned (.tuple #[.int .i64 (a:Nat),.int .i64 5]) else e'=.returned (.tuple #[.int .i64 0,.int .i64 0])/\WRi w' R tv L i {x with ts:=ts,depth:=x.depth+1}):=by
 have hRl:=h.lt;obtain⟨c0,c1,c5,c6,c7,-⟩:=h.cells;have f7:=h.fro 7;obtain⟨dn,hdn⟩:=xq (x.depth+1)
 have hs:((x.depth:Nat):Int)+1=((dn:Nat):Int):=by omega
 have hw:IntKind.i64.wrap ((dn:Nat):Int)=((dn:Nat):Int):=IntWalk.i64_in _ (by omega)
 have HF:Hid (Below R w (w.setCell ⟨R,7,none⟩ (.int .i64 (dn:Nat)))/\WRi (w.setCell ⟨R,7,none⟩ (.int .i64 (dn:Nat))) R tv L i {x with ts:=ts,depth:=dn}):=
  ⟨Xv 7 _,h.set (i':=i) (want':=x.want) (pw':=x.pw) (d':=dn) (ts':=ts) 7 _ (fun nv vv sv=>by simp)⟩
 rw[<-hdn];clear h hdn;by_cases hb:100<dn
 ·go_enter Tryz.func178,Tryz.ntmps178
  go_wp2_with fail;go_ret2;exact⟨HF.o.1,rfl⟩
 ·go_enter Tryz.func178,Tryz.ntmps178
  go_wp2_with fail;go_ret2;exact⟨HF.o.1,rfl,HF.o.2⟩
theorem Qk1 (R:Nat)(tv:Value)(L:List Tok)(fin a:Nat)(x:RfP.RW)(w:World)(h:WRi w R tv L (a+1) x)(hf:RfP.Fine x)(hw:x.want=false)(hN:RfP.wt x<=134217728)(hk:∀o∈x.stack,o.kind<256)(hd:L.drop a=x.ts)(ha:a<L.length)(hdp:x.depth<=100):
  Calls Tryz.prog 179 #[.pointer (some ⟨R,0,none⟩),.int .i64 (a:Nat)] w (Rw R tv L fin (RfP.close fin x) w):=by
 have hl:=hf.len;rw[hw]at hl;simp only[Bool.false_eq_true,if_false]at hl
 have hNN:SynP.Qo x.vals.reverse+x.stack.length<=134217728:=by unfold RfP.wt at hN;omega
 obtain⟨c0,c1,c5,c6,c7,-⟩:=h.cells;by_cases hd0:x.depth=0
 ·have HE:Hid (RfP.close fin x=.error (SynP.Q7 fin x.ts,14)):=by show _=_;unfold RfP.close;rw[if_pos hd0]
  have HD:=zq hd;rw[hd0]at c7;clear h hf hl hd hk;go_enter Tryz.func179,Tryz.ntmps179;go_wp2_with fail;go_ret2;refine⟨Below.refl _ _,?_⟩;rw[HE.o];exact⟨a,rfl,by rw[HD.o],by decide⟩
 ·obtain⟨o,S1,V1,e1,e2,e3,e4,e5,e6⟩:=RfP.Zc (l:=1) (Nat.le_refl _) x.stack x.vals hf.bot hl
  have HRD:=zq (Nj R tv L (a+1) x 1 134217728 w h (Nat.le_refl _) (by decide) hf.bot hl hNN (by decide) hk);rw[e1]at HRD
  have hnd:((x.depth:Nat):Int)-1=((x.depth-1:Nat):Int):=by omega
  obtain⟨dn,hdn⟩:=xq (x.depth-1);rw[<-hdn]at hnd;have hwd:IntKind.i64.wrap ((dn:Nat):Int)=((dn:Nat):Int):=IntWalk.i64_in _ (by omega)
  have hdne:(((x.depth:Nat):Int)==0)=false:=by simp;omega
  have hko:o.kind=40\/o.kind=102:=by
   rcases RfP.red1_kind e2 e4 with ⟨⟨h1,-⟩|h1,-⟩|⟨rfl,h1⟩
   ·exact .inl h1
   ·exact .inr h1
   ·have:RfP.Uy o.kind=false:=by rcases h1 with h|h<;>rw[h]<;>rfl
    have h3:=hf.dep;simp only[RfP.Vc,this]at e5;simp at e5;omega
  have HE:Hid (RfP.close fin x=.ok {x with ts:=x.ts.tail,vals:=if o.kind=102 then RfP.Vo o.name (o.args+1) V1 else V1,stack:=S1,depth:=dn,pw:=false}):=by
   show _=_;unfold RfP.close;simp only[e1];rw[if_neg hd0,hdn]
  have HD2:Hid (L.drop (a+1)=x.ts.tail):=by show _=_;rw[<-hd,List.tail_drop]
  have HV:Hid (o.kind=102->o.args+1<=V1.length):=fun hc=>by
   have hnb:RfP.Jp o.kind=false:=by rw[hc];rfl
   simp only[RfP.Yk,hnb]at e3;simp at e3;omega
  have HZ:Hid (SynP.Qo V1.reverse<=134217728):=by
   have:=e6;simp only[List.length_cons]at this;show _<=_;omega
  have HPB:Hid (S1.length<=134217728):=by
   have:=e6;simp only[List.length_cons]at this;show _<=_;omega
  have hargs:o.args<=134217728:=by
   have h1:=Ui V1.reverse;rw[List.length_reverse]at h1;have h2:=HZ.o;simp only[RfP.Yk]at e3;omega
  clear h hf hl hd hk e1 e2 e3 e4 e5 e6 hd0 hdn hN hNN;go_enter Tryz.func179,Tryz.ntmps179;go_wp2_with fail;refine HRD.o.mono ?_;rintro e w1 ⟨rfl,hb1,hw1⟩;obtain⟨gs,scap,n,p,hp,hn,hns,hgR,hgl,c4,d0,d1,d2,HCUT⟩:=hw1.top rfl;obtain⟨-,-,-,-,c7',-⟩:=hw1.cells;have f4:=hw1.fro 4;have hRl:=hw1.lt;have HW1:=zq hw1;have HB1:=zq hb1;have hn4:=World.new_ne w1 ⟨R,4,none⟩ c4;have hn0:=World.new_ne w1 ⟨gs,p*3,none⟩ d0;have hn1:=World.new_ne w1 ⟨gs,p*3+1,none⟩ d1;have hn2:=World.new_ne w1 ⟨gs,p*3+2,none⟩ d2
  have hlt:p<n:=by omega
  have hsub:((n:Nat):Int)-1=((p:Nat):Int):=by omega
  have hp0:(0:Int)<=((p:Nat):Int):=by omega
  have hp1:((p:Nat):Int)<((n:Nat):Int):=by omega
  have hp2:((p:Nat):Int)<=((scap:Nat):Int):=by omega
  have hpb:p<=134217728:=by have:=HPB.o;omega
  have hwp:IntKind.i64.wrap ((p:Nat):Int)=((p:Nat):Int):=IntWalk.i64_in _ (by omega);obtain⟨T,hT⟩:=xq (⟨o.name.toArray⟩:ByteArray);rw[<-hT]at d1;have HT:=zq hT;clear hw1 hb1 hT hp hn c0 c1 c5 c6 c7;go_wp2_with fail;go_region_held3 (fun w'=>w'.cell? ⟨R,4,none⟩=some (.slice (some ⟨gs,0,none⟩) n scap)/\w'.cell? ⟨gs,p*3,none⟩=some (.int .u8 (o.kind:Nat))/\w'.cell? ⟨gs,p*3+1,none⟩=some (.string T)/\w'.cell? ⟨gs,p*3+2,none⟩=some (.int .i64 (o.args:Nat))) (go_keep) (fail);go_wp2_with fail;obtain⟨w2,hw2⟩:∃w2,w2=(w1.alloc (.cells #[.int .u8 (o.kind:Nat),.string T,.int .i64 (o.args:Nat)] 167)).drew:=⟨_,rfl⟩
  have hb2:Below w1.heap.size w1 w2:=by rw[hw2];exact(Qq w1 _).drew
  have hg2:w2.heap[w1.heap.size]?=some (.cells #[.int .u8 (o.kind:Nat),.string T,.int .i64 (o.args:Nat)] 167 (0,0)):=by rw[hw2];exact heap_alloc_new _ _
  rw[<-hw2];have HB2:=zq hb2;have HG2:=zq hg2;have hR2:R<w2.heap.size:=Nat.lt_of_lt_of_le hRl hb2.size;have c4':w2.cell? ⟨R,4,none⟩=some (.slice (some ⟨gs,0,none⟩) n scap):=(hb2.cell (p:=⟨R,4,none⟩) hRl).trans c4;have f4':w2.frozen? ⟨R,4,none⟩=false:=(hb2.frozen (p:=⟨R,4,none⟩) hRl).trans f4;clear hn4 hn0 hn1 hn2 d0 d1 d2 c4 c7' f4 hw2 hb2 hg2;go_upto_region 5 with fail;go_cut [] (fun wx=>Hid (wx=w2.drew.setCell ⟨R,4,none⟩ (.slice (some ⟨gs,0,none⟩) p scap)))
  case first=>
   go_region_law (fail)
   all_goals
    go_wp2_with fail;go_meet;exact rfl
  obtain⟨w3,hw3⟩:=xq wc;rw[<-hw3]at hcut ⊢;have HC3:Hid (w3=w2.drew.setCell ⟨R,4,none⟩ (.slice (some ⟨gs,0,none⟩) p scap)):=hcut;clear hw3 hcut c4' f4';obtain⟨hw3,hb3⟩:=HCUT.o w2.drew HB2.o.drew;rw[<-HC3.o]at hw3 hb3
  have hg3:w3.heap[w1.heap.size]?=some (.cells #[.int .u8 (o.kind:Nat),.string T,.int .i64 (o.args:Nat)] 167 (0,0)):=by
   have e:w3.heap[w1.heap.size]?=w2.heap[w1.heap.size]? :=by rw[HC3.o];exact heap_setCell_other w2.drew ⟨R,4,none⟩ w1.heap.size _ (by show w1.heap.size≠R;omega)
   exact e.trans HG2.o
  obtain⟨w5,hw5⟩:∃w5,w5=(w3.setCell ⟨R,7,none⟩ (.int .i64 (dn:Nat))).setCell ⟨R,6,none⟩ (.bool false):=⟨_,rfl⟩
  have HW5:Hid (WRi w5 R tv L (a+1) {x with ts:=x.ts.tail,vals:=V1,stack:=S1,depth:=dn,pw:=false}):=by
   have k1:=hw3.set (i':=a+1) (want':=x.want) (pw':=x.pw) (d':=dn) (ts':=x.ts.tail) 7 (.int .i64 (dn:Nat)) (fun nv vv sv=>by simp);have k2:=k1.set (i':=a+1) (want':=x.want) (pw':=false) (d':=dn) (ts':=x.ts.tail) 6 (.bool false) (fun nv vv sv=>by simp);show WRi _ _ _ _ _ _;rw[hw5];exact k2
  have HB5:Hid (Below R w w5):=by
   show Below _ _ _;rw[hw5];exact(((HB1.o.trans hb3).trans (Xv 7 _)).trans (Xv 6 _))
  have b0:w3.cell? ⟨w1.heap.size,0,none⟩=some (.int .u8 (o.kind:Nat)):=by rw[cell_of_row _ _ _ _ _ _ hg3];rfl
  have b1:w3.cell? ⟨w1.heap.size,1,none⟩=some (.string T):=by rw[cell_of_row _ _ _ _ _ _ hg3];rfl
  have b2:w3.cell? ⟨w1.heap.size,2,none⟩=some (.int .i64 (o.args:Nat)):=by rw[cell_of_row _ _ _ _ _ _ hg3];rfl
  have hne1:w1.heap.size≠R:=by omega
  have hne2:R≠w1.heap.size:=by omega
  obtain⟨-,-,-,e6,e7,-⟩:=hw3.cells;have f6:=hw3.fro 6;have f7:=hw3.fro 7;have e7:w3.cell? ⟨R,7,none⟩=some (.int .i64 (x.depth:Nat)):=e7;have e6:w3.cell? ⟨R,6,none⟩=some (.bool x.pw):=e6;clear hw3 hb3 hg3;rcases hko with hkd|hkd
  ·have HKD:=zq hkd
   rw[hkd]at b0;have HB5':=zq HB5.o;rw[hw5]at HB5' HW5;clear HB5;go_wp2_with fail;go_ret2;refine⟨HB5'.o,?_⟩;rw[HE.o,if_neg (by rw[HKD.o];decide)];exact⟨rfl,a+1,HW5.o,HD2.o,ha⟩
  ·have HKD:=zq hkd
   rw[hkd]at b0
   have hes:(V1.take (o.args+1)).reverse.length=o.args+1:=by rw[List.length_reverse,List.length_take];have:=HV.o HKD.o;omega
   have HA:Hid (Calls Tryz.prog 137 #[.pointer (some ⟨R,0,none⟩),.int .i64 10,.string T,.int .i64 ((o.args:Int)+1)] w5 fun e' w'=>e'=.returned (.tuple #[])/\Below R w5 w'/\WRi w' R tv L (a+1) {x with ts:=x.ts.tail,vals:=RfP.Vo o.name (o.args+1) V1,stack:=S1,depth:=dn,pw:=false}):=by
    have k:=Dn R tv L (a+1) _ w5 HW5.o (V:=V1.drop (o.args+1)) (es:=(V1.take (o.args+1)).reverse) (e:=.call o.name (SynP.ofL (V1.take (o.args+1)).reverse)) (op:=10) (text:=o.name) (by rw[List.reverse_reverse];exact(List.take_append_drop _ _).symm) (Qpn o.name _) HZ.o (by decide);rw[hes,<-HT.o]at k;exact k
   clear hes;have HB5':=zq HB5.o;rw[hw5]at HA HB5';clear HB5;go_wp2_with fail;refine HA.o.mono ?_;rintro e w6 ⟨rfl,hb6,hw6⟩;have HB6:=zq (HB5'.o.trans hb6);have HW6:=zq hw6;clear hb6 hw6;go_wp2_with fail;go_ret2;refine⟨HB6.o,?_⟩;rw[HE.o,if_pos HKD.o];exact⟨rfl,a+1,HW6.o,HD2.o,ha⟩
theorem Di (A:List RfP.Op)(o:RfP.Op)(a:Nat):(Xt (A++[o])).set (A.length*3+2) (.int .i64 (a:Nat))=Xt (A++[{o with args:=a}]):=by
 rw[W5,W5,List.set_append_right _ _ (by rw[Sk];omega),Sk,Nat.add_sub_cancel_left];rfl
theorem WM.markS {w:World}{R:Nat}{tv:Value}{L:List Tok}{i:Nat}{nv vv:Value}{ns:List Nv}{vs:List Nat}{A:List RfP.Op}{o:RfP.Op}{want pw:Bool}{d:Nat}{g n cap:Nat}(h:WM w R tv L i nv vv (.slice (some ⟨g,0,none⟩) n cap) ns vs (A++[o]) want pw d)(a:Nat):
  WM (w.setCell ⟨g,A.length*3+2,none⟩ (.int .i64 (a:Nat))) R tv L i nv vv (.slice (some ⟨g,0,none⟩) n cap) ns vs (A++[{o with args:=a}]) want pw d/\Below R w (w.setCell ⟨g,A.length*3+2,none⟩ (.int .i64 (a:Nat))):=by
 have H:n=(A++[o]).length:=by
  obtain⟨a,b,e,-⟩:=Qj h.sto
  cases e;rfl
 have I:=h.sto;rw[<-H]at I;obtain⟨s1,s2⟩:=I.stored (A.length*3+2) (.int .i64 (a:Nat));rw[Di]at s1;have J:R+1<=g/\g<w.heap.size:=X7 h.sto rfl;have E:∀k,k≠g->(w.setCell ⟨g,A.length*3+2,none⟩ (.int .i64 (a:Nat))).heap[k]?=w.heap[k]? :=fun k hk=>heap_setCell_other w ⟨g,A.length*3+2,none⟩ k _ hk;refine⟨h.stack (by simp[World.setCell]) (fun k hk hkR hks=>E k (fun e=>hks (by rw[e];rfl))) ?_ (fun q hq=> .inl hq) ((E R (by omega)).trans h.blk),(Below.refl R w).setCell (p:=⟨g,A.length*3+2,none⟩) (by show R<=g;omega) _⟩
 have e2:(A++[{o with args:=a}]).length=n:=by rw[H];simp
 rw[e2];exact s1
theorem WRi.mark {wr:World}{R:Nat}{tv:Value}{L:List Tok}{i:Nat}{x:RfP.RW}{o:RfP.Op}{S:List RfP.Op}(h:WRi wr R tv L i x)(hx:x.stack=o::S):
  ∃gs scap n p,p=S.length/\n=p+1/\n<=scap/\R+1<=gs/\gs<wr.heap.size/\wr.cell? ⟨R,4,none⟩=some (.slice (some ⟨gs,0,none⟩) n scap)/\
   wr.cell? ⟨gs,p*3+2,none⟩=some (.int .i64 (o.args:Nat))/\wr.frozen? ⟨gs,p*3+2,none⟩=false/\
   Hid (∀a:Nat,WRi (wr.setCell ⟨gs,p*3+2,none⟩ (.int .i64 (a:Nat))) R tv L i {x with stack:={o with args:=a}::S}/\Below R wr (wr.setCell ⟨gs,p*3+2,none⟩ (.int .i64 (a:Nat)))):=by
 obtain⟨gs,scap,n,p,J,Z,K,O,T,c4,d0,d1,d2,-⟩:=h.top hx;obtain⟨nv,vv,sv,ns,E,h2⟩:=h;rw[hx,List.reverse_cons]at E;obtain⟨-,-,-,-,c4',-,-,-⟩:=E.cells;obtain rfl:sv=.slice (some ⟨gs,0,none⟩) n scap:=Option.some.inj (c4'.symm.trans c4);have I:=E.sto
 have hl:(S.reverse++[o]).length=n:=by simp;omega
 rw[hl]at I;refine⟨gs,scap,n,p,J,Z,K,O,T,c4,d2,I.frozenAt _,fun a=> ?_⟩;have H:=E.markS a
 have U:S.reverse.length=p:=by rw[List.length_reverse,J]
 rw[U]at H;exact⟨⟨nv,vv,_,ns,by show WM _ R tv L i nv vv _ ns _ ({o with args:=a}::S).reverse _ _ _;rw[List.reverse_cons];exact H.1,h2⟩,H.2⟩
theorem Av {l:Nat}:∀(S:List RfP.Op) (V:List SynP.Ex),∃P,S=P++(RfP.red l S V).1/\ ∀o∈P,l<=RfP.lev o.kind
 | [],V=>⟨[],rfl,fun _ h=>nomatch h⟩
 |o::S,V=>by
  unfold RfP.red;split
  ·exact⟨[],rfl,fun _ h=>nomatch h⟩
  ·rename_i hl
   have hc:∀V',∃P,o::S=P++(RfP.red l S V').1/\ ∀o∈P,l<=RfP.lev o.kind:=fun V'=>by
    obtain⟨P,I,H⟩:=Av S V';refine⟨o::P,by rw[List.cons_append,<-I],fun u E=> ?_⟩;rcases List.mem_cons.1 E with rfl|E
    ·omega
    ·exact H u E
   split
   ·split
    ·exact⟨[],rfl,fun _ h=>nomatch h⟩
    ·exact hc _
   ·split
    ·exact hc _
    ·exact⟨[],rfl,fun _ h=>nomatch h⟩
theorem Qv9 (R : Nat) (tv : Value) (L : List Tok) (fin a : Nat) (x : RfP.RW) (w : World) (h : WRi w R tv L (a + 1) x) (hf : RfP.Fine x) (hw : x.want = false) (hN : RfP.wt x ≤ 134217728) (hk : ∀ o ∈ x.stack, o.kind < 256) (hka : ∀ o ∈ x.stack, o.args ≤ 134217728) (hd : L.drop a = x.ts) (ha : a < L.length) :
    Calls Tryz.prog 180 #[.pointer (some ⟨R, 0, none⟩), .int .i64 (a : Nat)] w (Rw R tv L fin (RfP.Rz fin x) w) := by
  have hl := hf.len
  rw [hw] at hl
  simp only [Bool.false_eq_true, if_false] at hl
  have hNN : SynP.Qo x.vals.reverse + x.stack.length ≤ 134217728 := by unfold RfP.wt at hN; omega
  obtain ⟨o, S1, V1, e1, e2, e3, e4, e5, e6⟩ := RfP.Zc (l := 1) (Nat.le_refl _) x.stack x.vals hf.bot hl
  obtain ⟨P, hP, hPl⟩ := Av (l := 1) x.stack x.vals
  have HRD := zq (Nj R tv L (a + 1) x 1 134217728 w h (Nat.le_refl _) (by decide) hf.bot hl hNN (by decide) hk)
  rw [e1] at HRD hP
  have hko : o.kind = 40 ∨ o.kind = 102 ∨ o.kind = 100 ∨ o.kind = 108 := by
    rcases RfP.red1_kind e2 e4 with ⟨⟨h1, -⟩ | h1, -⟩ | ⟨-, h1 | h1⟩
    · exact .inl h1
    · exact .inr (.inl h1)
    · exact .inr (.inr (.inl h1))
    · exact .inr (.inr (.inr h1))
  have HE : Hid (RfP.Rz fin x = if o.kind = 102 ∨ o.kind = 100 then .ok { x with ts := x.ts.tail, vals := V1, stack := { o with args := o.args + 1 } :: S1, want := true } else .error (SynP.Q7 fin x.ts, 14)) := by
    show _ = _
    unfold RfP.Rz
    simp only [e1]
  have HD := zq hd
  have HD2 : Hid (L.drop (a + 1) = x.ts.tail) := by show _ = _; rw [← hd, List.tail_drop]
  have hargs : o.args ≤ 134217728 := hka o (by rw [hP]; simp)
  obtain ⟨c0, c1, c5, c6, c7, -⟩ := h.cells
  have HW := zq h
  obtain ⟨nv, vv, sv, ns, h1, h2⟩ := h
  have hRl := h1.lt
  obtain ⟨-, -, -, -, c4, -, -, -⟩ := h1.cells
  obtain ⟨so, scap, hse, s1, s2, s3⟩ := Qj h1.sto
  rw [hP] at hse s1 s3 h1 hk
  obtain ⟨n, hn⟩ : ∃ n, n = (P ++ o :: S1).reverse.length := ⟨_, rfl⟩
  obtain ⟨p, hp⟩ : ∃ p, p = S1.length := ⟨_, rfl⟩
  obtain ⟨q, hq⟩ : ∃ q, q = P.length := ⟨_, rfl⟩
  have hnpq : n = p + 1 + q := by rw [hn, hp, hq]; simp; omega
  have hnb : n ≤ 134217728 := by have : x.stack.length = n := by rw [hP, hn, List.length_reverse]
                                 omega
  rw [← hn] at hse s1 s3
  obtain ⟨gs, hso, hgR, hgl, hgc⟩ := s3 (by omega)
  subst hso
  rw [hse] at c4
  have hrv : (P ++ o :: S1).reverse = (S1.reverse ++ [o]) ++ P.reverse := by simp
  have HC : Hid (∀ j, p ≤ j → j < n → ∃ u : RfP.Op, u.kind < 256 ∧ w.cell? ⟨gs, j * 3, none⟩ = some (.int .u8 (u.kind : Nat)) ∧ (if j = p then u = o else 1 ≤ RfP.lev u.kind)) := by
    intro j hj1 hj2
    by_cases hjp : j = p
    · have hat : (P ++ o :: S1).reverse[j]? = some o := by
        rw [hrv, List.getElem?_append_left (by simp; omega), List.getElem?_append_right (by simp; omega)]
        have : j - S1.reverse.length = 0 := by simp; omega
        rw [this]; rfl
      exact ⟨o, hk o (by simp), (hgc _ (by omega)).trans (Wp _ j o hat).1, by rw [if_pos hjp]⟩
    · obtain ⟨u, hu⟩ : ∃ u, (P ++ o :: S1).reverse[j]? = some u := ⟨_, List.getElem?_eq_getElem (by omega)⟩
      have hu2 := hu
      rw [hrv, List.getElem?_append_right (by simp; omega)] at hu2
      have hm : u ∈ P := by have := List.mem_of_getElem? hu2; simpa using this
      exact ⟨u, hk u (by simp [hm]), (hgc _ (by omega)).trans (Wp _ j u hu).1, by rw [if_neg hjp]; exact hPl u hm⟩
  have hsub : ((n : Nat) : Int) - 1 = ((n - 1 : Nat) : Int) := by omega
  have HST : Hid (∃ j : Nat, (Value.int .i64 ((n - 1 : Nat) : Int)) = .int .i64 (j : Nat) ∧ p ≤ j ∧ j < n) := ⟨_, rfl, by omega, by omega⟩
  have HPP := zq hp
  have HNQ := zq hnpq
  clear hnpq hf hl hN hNN hk hka hd e1 e3 e4 e5 e6 hP hPl h1 h2 hse s3 hgc hrv hn hq hp
  obtain ⟨n1, hn1⟩ : ∃ n1, n1 = n - 1 := ⟨_, rfl⟩
  rw [← hn1] at hsub HST
  clear hn1
  go_enter Tryz.func180, Tryz.ntmps180
  go_wp2_with fail
  go_loopw [6] (fun kv wr => ∃ j : Nat, kv = .int .i64 (j : Nat) ∧ p ≤ j ∧ j < n ∧ Hid (wr = w)) (fun kv _ => (intOf kv).toNat)
  case atStart =>
    obtain ⟨j, z1, z2, z3⟩ := HST.o
    exact ⟨j, z1, z2, z3, rfl⟩
  case round =>
    obtain ⟨j, rfl, hj1, hj2, hwr⟩ := hrel
    obtain rfl : wr = w := hwr
    obtain ⟨u, hu1, hu2, hu3⟩ := HC.o j hj1 hj2
    have i1 : (0 : Int) ≤ ((j : Nat) : Int) := by omega
    have i2 : ((j : Nat) : Int) < ((n : Nat) : Int) := by omega
    by_cases hjp : j = p
    · subst hjp
      rw [if_pos rfl] at hu3
      subst hu3
      have hz : RfP.lev u.kind = 0 := by omega
      have hd : decide (((RfP.lev u.kind : Nat) : Int) > ((0 : Nat) : Int)) = false := decide_eq_false (by omega)
      clear HC hz
      go_wp2_with fail
      refine (Tw u.kind hu1 _).mono ?_
      rintro e w2 ⟨rfl, rfl⟩
      rcases hko with hkd | hkd | hkd | hkd
      · have HKD := zq hkd
        rw [hkd] at hu2
        clear e2
        go_wp2_with fail
        go_ret2
        refine ⟨Below.refl _ _, ?_⟩
        rw [HE.o, if_neg (by rw [HKD.o]; decide)]
        exact ⟨a, rfl, by rw [HD.o], by decide⟩
      · have HKD := zq hkd
        rw [hkd] at hu2
        clear e2
        go_wp2_with fail
        refine HRD.o.mono ?_
        rintro e w1 ⟨rfl, hb1, hw1⟩
        have HB1 := zq hb1
        obtain ⟨gs2, scap2, n2, p2, hp2, hn2, hns2, hgR2, hgl2, c42, d2, f2, HMK⟩ := hw1.mark rfl
        have hRl1 := hw1.lt
        have HW1 := zq hw1
        have hlt2 : p2 < n2 := by omega
        have e5' := hw1.cells.2.2.1
        have f5 := hw1.fro 5
        obtain rfl : p2 = j := hp2.trans HPP.o.symm
        have i3 : ((p2 : Nat) : Int) < ((n2 : Nat) : Int) := by omega
        obtain ⟨an, han⟩ : ∃ an, an = u.args + 1 := ⟨_, rfl⟩
        have hs : ((u.args : Nat) : Int) + 1 = ((an : Nat) : Int) := by omega
        have hwa : IntKind.i64.wrap ((an : Nat) : Int) = ((an : Nat) : Int) := IntWalk.i64_in _ (by omega)
        have HAN := zq han
        clear hw1 hb1 hp2 hn2 c0 c1 c5 c6 c7 c4 hu2 han
        obtain ⟨k1, k2⟩ := HMK.o an
        have HF : Hid (Below R wr ((w1.setCell ⟨gs2, p2 * 3 + 2, none⟩ (.int .i64 (an : Nat))).setCell ⟨R, 5, none⟩ (.bool true)) ∧ WRi ((w1.setCell ⟨gs2, p2 * 3 + 2, none⟩ (.int .i64 (an : Nat))).setCell ⟨R, 5, none⟩ (.bool true)) R tv L (a + 1) { x with ts := x.ts.tail, vals := V1, stack := { u with args := u.args + 1 } :: S1, want := true }) := by
          refine ⟨(HB1.o.trans k2).trans (Xv 5 _), ?_⟩
          rw [← HAN.o]
          exact k1.set (i' := a + 1) (want' := true) (pw' := x.pw) (d' := x.depth) (ts' := x.ts.tail) 5 (.bool true) (fun nv vv sv => by simp)
        have hgR3 : gs2 ≠ R := by omega
        have hgR4 : R ≠ gs2 := by omega
        clear k1 k2 HMK
        go_wp2_with fail
        go_ret2
        refine ⟨HF.o.1, ?_⟩
        rw [HE.o, if_pos (by rw [HKD.o]; decide)]
        exact ⟨rfl, a + 1, HF.o.2, HD2.o, ha⟩
      · have HKD := zq hkd
        rw [hkd] at hu2
        clear e2
        go_wp2_with fail
        refine HRD.o.mono ?_
        rintro e w1 ⟨rfl, hb1, hw1⟩
        have HB1 := zq hb1
        obtain ⟨gs2, scap2, n2, p2, hp2, hn2, hns2, hgR2, hgl2, c42, d2, f2, HMK⟩ := hw1.mark rfl
        have hRl1 := hw1.lt
        have HW1 := zq hw1
        have hlt2 : p2 < n2 := by omega
        have e5' := hw1.cells.2.2.1
        have f5 := hw1.fro 5
        obtain rfl : p2 = j := hp2.trans HPP.o.symm
        have i3 : ((p2 : Nat) : Int) < ((n2 : Nat) : Int) := by omega
        obtain ⟨an, han⟩ : ∃ an, an = u.args + 1 := ⟨_, rfl⟩
        have hs : ((u.args : Nat) : Int) + 1 = ((an : Nat) : Int) := by omega
        have hwa : IntKind.i64.wrap ((an : Nat) : Int) = ((an : Nat) : Int) := IntWalk.i64_in _ (by omega)
        have HAN := zq han
        clear hw1 hb1 hp2 hn2 c0 c1 c5 c6 c7 c4 hu2 han
        obtain ⟨k1, k2⟩ := HMK.o an
        have HF : Hid (Below R wr ((w1.setCell ⟨gs2, p2 * 3 + 2, none⟩ (.int .i64 (an : Nat))).setCell ⟨R, 5, none⟩ (.bool true)) ∧ WRi ((w1.setCell ⟨gs2, p2 * 3 + 2, none⟩ (.int .i64 (an : Nat))).setCell ⟨R, 5, none⟩ (.bool true)) R tv L (a + 1) { x with ts := x.ts.tail, vals := V1, stack := { u with args := u.args + 1 } :: S1, want := true }) := by
          refine ⟨(HB1.o.trans k2).trans (Xv 5 _), ?_⟩
          rw [← HAN.o]
          exact k1.set (i' := a + 1) (want' := true) (pw' := x.pw) (d' := x.depth) (ts' := x.ts.tail) 5 (.bool true) (fun nv vv sv => by simp)
        have hgR3 : gs2 ≠ R := by omega
        have hgR4 : R ≠ gs2 := by omega
        clear k1 k2 HMK
        go_wp2_with fail
        go_ret2
        refine ⟨HF.o.1, ?_⟩
        rw [HE.o, if_pos (by rw [HKD.o]; decide)]
        exact ⟨rfl, a + 1, HF.o.2, HD2.o, ha⟩
      · have HKD := zq hkd
        rw [hkd] at hu2
        clear e2
        go_wp2_with fail
        go_ret2
        refine ⟨Below.refl _ _, ?_⟩
        rw [HE.o, if_neg (by rw [HKD.o]; decide)]
        exact ⟨a, rfl, by rw [HD.o], by decide⟩
    · rw [if_neg hjp] at hu3
      have hd : decide (((RfP.lev u.kind : Nat) : Int) > ((0 : Nat) : Int)) = true := decide_eq_true (by omega)
      have hjs : ((j : Nat) : Int) - 1 = ((j - 1 : Nat) : Int) := by omega
      have HNX : Hid (∃ j' : Nat, (Value.int .i64 ((j - 1 : Nat) : Int)) = .int .i64 (j' : Nat) ∧ p ≤ j' ∧ j' < n) := ⟨j - 1, rfl, by omega, by omega⟩
      have HLT : Hid ((intOf (.int .i64 ((j - 1 : Nat) : Int))).toNat < (intOf (.int .i64 ((j : Nat) : Int))).toNat) := by
        show ((j - 1 : Nat) : Int).toNat < ((j : Nat) : Int).toNat
        omega
      go_wp2_with fail
      refine (Tw u.kind hu1 _).mono ?_
      rintro e w2 ⟨rfl, rfl⟩
      go_wp2_with fail
      obtain ⟨j', z1, z2, z3⟩ := HNX.o
      exact ⟨⟨j', z1, z2, z3, zq trivial⟩, HLT.o⟩
end Go.Proofs.YtgfmiladfeoldaaGreatDoor
