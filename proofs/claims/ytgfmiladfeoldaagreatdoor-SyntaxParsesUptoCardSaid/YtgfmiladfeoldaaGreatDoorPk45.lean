/- Joined texts of this claim's proof: RnI, RnJ. -/
import Derived.Test.YtgfmiladfeoldaaGreatDoorPk1
import Derived.Test.YtgfmiladfeoldaaGreatDoorPk44
import Derived.Test.YtgfmiladfeoldaaGreatDoorPk15
import Derived.Test.YtgfmiladfeoldaaGreatDoorPk38
import Derived.Test.YtgfmiladfeoldaaGreatDoorPk42
import Derived.Test.YtgfmiladfeoldaaGreatDoorPk17
import Derived.Test.YtgfmiladfeoldaaGreatDoorPk29
import Derived.Lib.SlBytesConst
set_option linter.unusedSimpArgs false
set_option linter.unusedVariables false
set_option maxRecDepth 100000
set_option maxHeartbeats 16000000
namespace Go.Proofs.YtgfmiladfeoldaaGreatDoor
open Go.RowKit LexP NumP NatP
theorem Qgj:Qa (Yp [64])=[64]:=by decide
theorem Qq0 {ds:List Nat}(hst:Qa ds=ds)(hs:∀d∈ds,d<65536):0<J4 ds 64↔64<valD ds:=by
 unfold J4
 match ds,hst,hs with
 | [],_,_=>simp[valD]
 | [d],_,_=>
  simp only[List.length_singleton,Nat.lt_irrefl,if_false,valD,Nat.mul_zero,Nat.add_zero];split
  ·constructor<;>intro h<;>omega
  ·split
   ·constructor<;>intro h<;>omega
   ·constructor<;>intro h<;>omega
 |a::b::l,hst,hs=>
  rw[if_pos (by simp)]
  have O:Qa (b::l)=b::l:=by
   have K:=(NatP.X9 (a::b::l)).1;have E:=NatP.Vv (a::b::l) (b::l).length (by rw[<-T4,hst];rfl);obtain⟨d,H,J⟩:=E;rw[<-T4,hst]at H
   have I:(b::l).getLast? =some d:=by
    rw[List.getLast?_eq_getElem?]
    simpa using H
   exact Qqr I J
  have K:=Kg O (by simp);have E:valD (a::b::l)=a+65536*valD (b::l):=rfl;constructor
  ·intro _;omega
  ·intro _;decide
theorem Qvr (n:Nat)(v u:Value)(w:World)(hv:NRd w v n)(hu:Rd w u [64]):
  Calls Tryz.prog 228 #[v,u] w fun e w'=> ∃c:Int,e=.returned (.int .i64 c)/\(0<c↔64<n)/\Below w.heap.size w w':=by
 obtain⟨xs,h1,hn,hl⟩:=hv;have H1:=zq h1;have HU:=zq hu;have HN:=zq hn;have HOK:=zq h1.ok;clear h1 hn hu;go_enter Tryz.func228,Tryz.ntmps228;go_wp2_with fail;refine(Sa xs v _ H1.o hl).mono ?_;rintro e w1 ⟨d1,rfl,ho1,hb1⟩;have HO1:=zq ho1;have HB1:=zq hb1;clear ho1 hb1;go_wp2_with fail;refine(Sa [64] u _ (HU.o.below HB1.o) (by decide)).mono ?_;rintro e w2 ⟨d2,rfl,ho2,hb2⟩;rw[Qgj]at ho2;have HO2:Hid (OwnD w.heap.size w2 d2 [64]):=X4 ho2 HB1.o.size;have HO1':Hid (OwnD w.heap.size w2 d1 (Qa (Yp xs))):=Qh HO1.o hb2 (Nat.le_refl _);have HB2:=zq (Qg HB1.o hb2);clear ho2 hb2;go_wp2_with fail;refine(Qxy w.heap.size _ 64 d1 d2 _ HO1'.o HO2.o).mono ?_;rintro e w3 ⟨rfl,hb3⟩
 have HC:Hid (0<J4 (Qa (Yp xs)) 64↔64<n):=by
  show _↔_;rw[Qq0 (W0 _) (Js (Vl _)),Jw,Ws HOK.o,HN.o]
 have HB3:=zq (Qg HB2.o hb3);obtain⟨c,hc⟩:=xq (J4 (Qa (Yp xs)) 64);rw[<-hc]at HC ⊢;clear hb3 hc;go_wp2_with fail;go_ret;exact⟨_,rfl,HC.o,HB3.o⟩
theorem Sf (b:Qx)(w:World)(h1:Je b)(h2:0<b.length)(h3:b.length<=1048576)(h4:Xr b=false):
  Calls Tryz.prog 87 #[.string ⟨b.toArray⟩] w fun e w'=> ∃v,e=.returned (.tuple #[v,.int .i64 0])/\NFr w.heap.size w' v (SynP.Xx b)/\Below w.heap.size w w':=by
 have O:(⟨b.toArray⟩:ByteArray).data.toList=b:=rfl
 have K:∃c,b[0]?=some c/\Qu c=true:=by
  cases b with
  |nil=>simp at h2
  |cons c b=>
   refine⟨c,rfl,?_⟩;rcases h1 c (by simp) with h|h
   ·exact h
   ·exfalso
    have:Xr (c::b)=true:=(Jj _).2 ⟨0,by simp,by unfold We;rw[h];simp⟩;rw[h4]at this;cases this
 refine(Md ⟨b.toArray⟩ w (by show b.toArray.size<=_;simpa using h3) h1 K).mono ?_;rintro e w' h;rw[O]at h;rcases h with ⟨H,-,-⟩|⟨-,v,rfl,J,I⟩
 ·rw[h4]at H;cases H
 ·refine⟨v,rfl,?_,I⟩
  have E:=J.nfr (Nat.le_refl _) (Rc _) (by
   have:=Hb (b.filter Qu);have:=List.length_filter_le Qu b
   omega)
  rw[Qvp]at E;exact E
theorem Qg8:DecC:=by
 intro b w h1 h2 h3 h4;have HG:=zq (Sf b w h1 h2 h3 h4);clear h1 h2 h3 h4;go_enter Tryz.func149,Tryz.ntmps149;go_wp2_with fail;refine HG.o.mono ?_;rintro e w1 ⟨v,rfl,hf,hb⟩;have HB:=zq hb;obtain⟨⟨xs,x1,x2,x3⟩,-,-⟩:=hf;have HX:=zq x1;have HV:=zq x2;clear x1 x2 hb;go_wp2_with fail;refine(Qzz xs v _ HX.o x3).mono ?_;rintro e w2 ⟨rfl,hb2⟩;rw[HV.o];have HB2:=zq (Qg HB.o hb2);clear hb2;go_wp2_with fail;go_ret;exact⟨rfl,HB2.o⟩
def Ue (n:Nat):Int:=if 64<n then -1 else (n:Int)
theorem D9 (b:Qx)(w:World)(h1:Je b)(h2:0<b.length)(h3:b.length<=1048576)(h4:Xr b=false):
  Calls Tryz.prog 229 #[.string ⟨b.toArray⟩] w fun e w'=>e=.returned (.int .i64 (Ue (SynP.Xx b)))/\Below w.heap.size w w':=by
 have HG:=zq (Sf b w h1 h2 h3 h4);clear h1 h2 h3 h4;obtain⟨n,hn⟩:=xq (SynP.Xx b);rw[<-hn]at HG ⊢;clear hn;go_enter Tryz.func229,Tryz.ntmps229;go_wp2_with fail;refine HG.o.mono ?_;rintro e w1 ⟨v,rfl,hf,hb⟩;have HB:=zq hb;have HF:=zq hf;have HA:=zq (Qq w1 (.cells #[.int .u64 64] 101));have hblk:Blk (w1.alloc (.cells #[.int .u64 64] 101)) w1.heap.size [64]:=⟨heap_alloc_new w1 _,by intro x hx;simp at hx;subst hx;unfold BB;omega⟩;have HR64:=zq (hblk.whole (by simp));clear hf hb hblk;go_wp2_with fail;refine(Qvr n v _ _ (HF.o.1.below HA.o) HR64.o).mono ?_;rintro e w2 ⟨c,rfl,hc,hb2⟩;have HB2':=zq (Qg HA.o hb2);have HB2:=zq (Qg HB.o HB2'.o);clear hb2;by_cases h64:64<n
 ·have hcp:decide ((0:Int)<c)=true:=decide_eq_true (hc.2 h64)
  have HS:Hid (Ue n= -1):=by show _=_;unfold Ue;rw[if_pos h64]
  clear hc h64;go_wp2_with fail;go_ret;exact⟨by rw[HS.o];rfl,HB2.o⟩
 ·have hcp:decide ((0:Int)<c)=false:=decide_eq_false (fun h=>h64 (hc.1 h))
  have HS:Hid (Ue n=(n:Int)):=by show _=_;unfold Ue;rw[if_neg h64]
  clear hc;go_wp2_with fail;refine(Fc n v _ (HF.o.1.below HB2'.o)).mono ?_;rintro e w3 ⟨v3,rfl,hf3,hb3⟩;obtain⟨⟨xs,x1,x2,x3⟩,-,x5⟩:=hf3;have HB3:=zq (Qg HB2.o hb3);clear hb3;obtain⟨ao,cap,rfl,-,-,hok,hsh⟩:=x1.2;by_cases h0:n=0
  ·have hl0:xs.length=0:=x5.2 h0
   rw[hl0]
   have HS0:Hid (Ue n=0):=by show _=_;rw[HS.o,h0];rfl
   clear x1 x2 x3 x5 hok hsh h0 hl0 h64;go_wp2_with fail;go_ret;exact⟨by rw[HS0.o];rfl,HB3.o⟩
  ·obtain⟨x,ys,rfl⟩:∃x ys,xs=x::ys:=by
    cases xs with
    |nil=>exact absurd (x5.1 rfl) h0
    |cons x ys=>exact⟨x,ys,rfl⟩
   have hxn:x=n:=by
    have e:NatP.val (x::ys)=x+BB*NatP.val ys:=rfl;rw[x2]at e;by_cases hy:NatP.val ys=0
    ·rw[hy]at e;omega
    ·have:BB*1<=BB*NatP.val ys:=Nat.mul_le_mul (Nat.le_refl _) (by omega)
     have hbb:64<BB:=by unfold BB;omega
     omega
   subst hxn;obtain⟨g,o,rfl,c0⟩:=hsh 0 x rfl;rw[Nat.add_zero]at c0
   have hb0:((((x::ys).length:Nat):Int)==0)=false:=by simp;omega
   have hpos:(0:Int)<(((x::ys).length:Nat):Int):=by simp
   obtain⟨ll,hll⟩:∃ll,ll=(x::ys).length:=⟨_,rfl⟩;rw[<-hll]at hb0 hpos ⊢;have hw:IntKind.i64.wrap (x:Int)=(x:Int):=IntWalk.i64_in _ (by omega);clear x1 x2 x3 x5 hok hsh h0 hll;go_wp2_with fail;go_ret;exact⟨by rw[HS.o];rfl,HB3.o⟩
theorem Wm:∀(k u:Nat),u<=k->Lib.decDigits u=SynP.decT u
 |k,u,h=>by
  by_cases h0:u=0
  ·subst h0
   rw[Lib.decDigits_one (by omega)];rfl
  ·have hd:SynP.decT u=(dg u).map fun d=>UInt8.ofNat (48+d):=by unfold SynP.decT;rw[if_neg h0]
   by_cases h1:u<10
   ·rw[Lib.decDigits_one h1,hd,Wg (by omega),show u / 10=0 by omega,Jt,show u % 10=u by omega];rfl
   ·cases k with
    |zero=>omega
    |succ k=>
     have ih:=Wm k (u / 10) (by omega)
     have E:SynP.decT (u / 10)=(dg (u / 10)).map fun d=>UInt8.ofNat (48+d):=by unfold SynP.decT;rw[if_neg (by omega)]
     rw[Lib.decDigits,dif_neg h1,ih,hd,E,Wg (show 0<u by omega),List.map_append];rfl
theorem Qvx (r c:Nat)(ao:Option Addr)(cap:Nat)(w:World)(hr:r<=64)(hc:c<=64)(h0:r=0\/c=0):
  Calls Tryz.prog 82 #[.int .i64 (r:Nat),.int .i64 (c:Nat),.slice ao 0 cap] w fun e w'=>e=.returned (.string ⟨(Zr r c []).toArray⟩)/\w=w':=by
 have q1:=U8 hr;have q2:=U8 hc
 have HI1:Hid (∀w,Calls Tryz.prog 41 #[.int .i64 (r:Nat)] w fun e w'=>e=.returned (.string ⟨(SynP.decT r).toArray⟩)/\w'=w):=fun w=>by
  have:=Tryz.strconv_Itoa_small r (by omega) w;rw[Wm r r (Nat.le_refl _)]at this;exact this
 have HI2:Hid (∀w,Calls Tryz.prog 41 #[.int .i64 (c:Nat)] w fun e w'=>e=.returned (.string ⟨(SynP.decT c).toArray⟩)/\w'=w):=fun w=>by
  have:=Tryz.strconv_Itoa_small c (by omega) w;rw[Wm c c (Nat.le_refl _)]at this;exact this
 obtain⟨A,hA⟩:=xq (SynP.decT r);obtain⟨B,hB⟩:=xq (SynP.decT c);rw[<-hA]at q1 HI1;rw[<-hB]at q2 HI2;have HA:=zq hA;have HB:=zq hB;clear hA hB
 have HE:Hid (Ending.returned (.string ((⟨#[91]⟩:ByteArray)++⟨A.toArray⟩++⟨#[58]⟩++⟨B.toArray⟩++⟨#[93]⟩))=Ending.returned (.string ⟨(Zr r c []).toArray⟩)):=by
  show _=_
  have e:Zr r c []=[91]++A++[58]++B++[93]:=by rw[HA.o,HB.o];unfold Zr;rw[if_pos rfl]
  rw[e,Jl,Jl,Jl,Jl];simp
 by_cases hr0:r=0
 ·have hz:(((r:Nat):Int)==0)=true:=by simp[hr0]
  clear hr0 h0;go_enter Tryz.func82,Tryz.ntmps82;go_wp2_with fail;refine(HI1.o _).mono ?_;rintro e w1 ⟨rfl,rfl⟩;go_wp2_with fail;refine(HI2.o _).mono ?_;rintro e w2 ⟨rfl,rfl⟩;go_wp2_with fail;go_ret;exact⟨HE.o,rfl⟩
 ·have hz:(((r:Nat):Int)==0)=false:=by simp[hr0]
  have hz2:(((c:Nat):Int)==0)=true:=by
   rcases h0 with h|h
   ·exact absurd h hr0
   ·simp[h]
  clear hr0 h0;go_enter Tryz.func82,Tryz.ntmps82;go_wp2_with fail;refine(HI1.o _).mono ?_;rintro e w1 ⟨rfl,rfl⟩;go_wp2_with fail;refine(HI2.o _).mono ?_;rintro e w2 ⟨rfl,rfl⟩;go_wp2_with fail;go_ret;exact⟨HE.o,rfl⟩
theorem Tt {P:Program}(base:Nat)(t u ty e:TypeId)(i:TypeInfo)(ht:P.underlying t=some (.slice e))(hu:P.underlying u=some .string)(hi:P.info? e=some i)(hz:i.zero=some (.int .u8 0))
  (hsize:i.size=1) (hby:i.bytes=1) (w:World) (g:Nat) (x:Value) (hg:w.cell? ⟨g,0,none⟩=some x) (s:ByteArray) (hs:0<s.size) (hbytes:1+s.size<=140737488355328) (hbase:base<=w.heap.size):
  ∃v' w',(Builtin.append_ #[t,u] ty #[.slice (some ⟨g,0,none⟩) 1 1,.string s]).run P w=.ok v' w'/\w'.ownsRow base e 1 v' (1+s.size) (x::Lib.strCells s)/\w.grownBy w' none:=by
 have E:∀j y,[x][j]?=some y->w.cell? ((⟨g,0,none⟩:Addr).add j)=some y:=by
  intro j y H
  have O:j=0:=by
   have:=(List.getElem?_eq_some_iff.1 H).1;simp at this;omega
  subst O;simp at H;subst H;exact hg
 have T:=Lib.run_append_grow_string (P:=P) w t u ty e i (.int .u8 0) ht hu hi hz ⟨g,0,none⟩ 1 1 [x] (by rw[hsize];rfl) E s (by omega) (by omega) (by rw[hby];exact growslice_fits (by omega) (by omega));have J:=grownCap_ge w (1+s.size) 1 e;have I:grownCap w (1+s.size) 1 e<=maxLen:=grownCap_le_maxLen w (1+s.size) 1 e (by unfold maxLen;omega)
 have h:([x]++Lib.strCells s).length=(1+s.size)*1:=by rw[List.length_append,Lib.strCells_length,List.length_singleton];omega
 refine⟨_,_,T,⟨h,.inr ⟨w.heap.size,_,_,rfl,hbase,heap_alloc_new w.drew _,J,I,?_,?_⟩⟩,⟨rfl,rfl,rfl,by simp,fun k hk _=>Go.heap_alloc_old w.drew _ hk⟩⟩
 ·have K:(Value.int IntKind.u8 0).cells.size=1:=rfl
  simp only[Array.size_append,List.size_toArray,size_zeroCells,K,List.length_singleton,Lib.strCells_length];omega
 ·simp only[Array.toList_append,List.append_assoc]
  rw[<-List.append_assoc,<-h];exact List.take_left
theorem R6 {P:Program}{w:World}{ops:Array Oper}{rest:List Oper}{o:Oper}{a:Act}{Q:Exit->Act->World->Prop}(hgd:o.guard=none)(sl x:Operand)(t u:TypeId)
  (ho:o.op=.call {callee:=.builtin .append,args:= #[sl,x],argTypes:= #[t,u]})
  (base:Nat) (e:TypeId) (i:TypeInfo) (ht:P.underlying t=some (.slice e)) (hu:P.underlying u=some .string) (hi:P.info? e=some i) (hz:i.zero=some (.int .u8 0))
  (hsize:i.size=1) (hby:i.bytes=1) (g:Nat) (hs:a.eval sl=.slice (some ⟨g,0,none⟩) 1 1) (y:Value) (hg:w.cell? ⟨g,0,none⟩=some y) (s:ByteArray) (hx:a.eval x=.string s) (hs0:0<s.size)
  (hbytes:1+s.size<=140737488355328) (hbase:base<=w.heap.size)
  (h:∀v' w',w'.ownsRow base e 1 v' (1+s.size) (y::Lib.strCells s)->w.grownBy w' none->wpList P ops Q rest (a.put o.dst v') w'):wpList P ops Q (o::rest) a w:=by
 refine wpList_plain hgd fun K hK=> ?_;obtain⟨v',w',E,H,I⟩:=Tt (P:=P) base t u o.type e i ht hu hi hz hsize hby w g y hg s hs0 hbytes hbase;unfold Oper.wp execOp;simp only[ho,resolve,invoke,builtin,Sem.run_bind,Sem.run_pure,Result.andThen_ok,List.map_toArray,List.map_cons,List.map_nil,hs,hx,E];exact hK _ _ (h v' w' H I)
theorem Mj (l:Qx):Qr l=u8s l:=by simp[Qr,u8s]
def Bm (c:Nat)(l:List Qx)(w1:World)(sv iv:Value)(wr:World):Prop:=
 ∃i:Nat,iv=.int .i64 (i:Nat)/\i<=l.length/\Below w1.heap.size w1 wr/\w1.heap.size<wr.heap.size/\([91]++RfP.layL c 0 (l.take i)).length<=1+i*2147483650/\
  ((i=0/\sv=.slice (some ⟨w1.heap.size,0,none⟩) 1 1/\wr.cell? ⟨w1.heap.size,0,none⟩=some (.int .u8 91))\/(0<i/\OwnB w1.heap.size wr sv ([91]++RfP.layL c 0 (l.take i))))
theorem Qwp {c i:Nat}{l:List Qx}{b:Qx}(h:l[i]?=some b):RfP.layL c 0 (l.take (i+1))=RfP.layL c 0 (l.take i)++(RfP.Uj c i++b):=by
 have E:=(List.getElem?_eq_some_iff.1 h).1;rw[List.take_add_one,h];show RfP.layL c 0 (l.take i++[b])=_;rw[RfP.Po,List.length_take,Nat.min_eq_left (by omega),Nat.zero_add];simp[RfP.layL]
theorem Qj2 (r c:Nat)(l:List Qx)(v:Value)(w:World)(hv:SS w v l)(hr:r+1<=64)(hc:c<=64)(hc0:0<c)(hn:l.length=(r+1)*c)(hb:∀b∈l,b.length<=2147483648)(hne:∀b∈l,b≠[]):
  Calls Tryz.prog 82 #[.int .i64 ((r+1:Nat):Int),.int .i64 (c:Nat),v] w fun e w'=>e=.returned (.string ⟨(Zr (r+1) c l).toArray⟩)/\Below w.heap.size w w':=by
 obtain⟨i0,hi,hz0,hz1,hz2⟩:=info_parts Tryz.infoU8;obtain⟨ao,cap,rfl,h1,h2,h3⟩:=hv
 have hlp:0<l.length:=by rw[hn];exact Nat.mul_pos (by omega) hc0
 have hln:l≠[]:=by rintro rfl;simp at hlp
 obtain⟨g,o,rfl,hg,hcell⟩:=h3 hlp;obtain⟨n,hnn⟩:=xq l.length;rw[<-hnn]at h1 hlp hn ⊢
 have hn4:n<=4096:=by rw[hn];exact Nat.mul_le_mul hr hc
 have HC:=zq hcell;have HN:=zq hn;have HNN:=zq hnn;have HBD:=zq hb;have HNE:=zq hne
 have HGT:Hid (Zr (r+1) c l=[91]++RfP.layL c 0 l++[93]):=by
  show _=_;unfold Zr;rw[if_neg hln,RfP.Qvw hc0 (by rw[<-hnn];exact hn)]
 have hr1:(((r+1:Nat):Int)==0)=false:=by simp;omega
 have hc1:(((c:Nat):Int)==0)=false:=by simp;omega
 have hc2:((c:Nat):Int)≠0:=by omega
 have HST:Hid (Bm c l w (.slice (some ⟨w.heap.size,0,none⟩) 1 1) (.int .i64 0) (w.alloc (.cells #[.int .u8 91] 5 (1,2)))):=
  ⟨0,rfl,Nat.zero_le _,Qq w _,by simp,by simp[RfP.layL],.inl ⟨rfl,rfl,(World.cell?_alloc_mark w #[.int .u8 91] 5 (1,2) 0).trans rfl⟩⟩
 have kc:=fun (w:World) (C:Array Value) (n c:Nat)=>Lib.run_convert_bytes_const (P:=Tryz.prog) w 88 5 C n c Tryz.underlying88 Tryz.underlying5;clear hcell hn hnn hb hln h3 hne;go_enter Tryz.func82,Tryz.ntmps82;go_wp2_with fail;go_loopw [7,8] (fun sv iv wr=>Bm c l w sv iv wr) (fun _ iv _=>n-(intOf iv).toNat)
 case atStart=>exact HST.o
 case round=>
  obtain⟨i,rfl,hil,hbl,hwz,hlen,hcase⟩:=hrel;rw[<-HNN.o]at hil;have HBL:=zq hbl;have HCASE:=zq hcase;have HLEN:=zq hlen;clear hcase hbl hlen;by_cases hlt:i<n
  ·obtain⟨b,hb⟩:∃b,l[i]?=some b:=⟨_,List.getElem?_eq_getElem (by rw[<-HNN.o];exact hlt)⟩
   have hbm:=List.mem_of_getElem? hb;have hbl:=HBD.o b hbm;have hbn:=HNE.o b hbm;have hc0':wr.cell? ⟨g,o+i,none⟩=some (.string ⟨b.toArray⟩):=(HBL.o.cell (p:=⟨g,o+i,none⟩) hg).trans (HC.o i b hb);have HSTEP:=zq (Qwp (c:=c) hb);obtain⟨T,hT⟩:=xq (⟨b.toArray⟩:ByteArray);rw[<-hT]at hc0'
   have hTs0:T.size=b.length:=by rw[hT];show b.toArray.size=_;simp
   have hTs:=zq hTs0
   have HCW:Hid (w.cell? ⟨g,o+i,none⟩=some (.string T)):=by rw[hT];exact HC.o i b hb
   have HTC:Hid (Lib.strCells T=Qr b):=by show _=_;rw[hT,U6,Mj]
   have hbp:0<b.length:=List.length_pos_iff.2 hbn
   have hTp:0<T.size:=by omega
   have hTb:T.size<=2147483648:=by omega
   clear hb hbm hbn hT hTs0;rcases HCASE.o with ⟨hi0,hsv,hmk⟩|⟨hip,hown⟩
   ·subst hi0
    subst hsv;rw[Nat.add_zero]at hc0';have HM:=zq hmk;clear hmk;go_wp2_with (at_builtin;refine R6 rfl _ _ 88 9 rfl w.heap.size 5 i0 Tryz.underlying88 Tryz.underlying9 hi hz0 hz1 hz2 w.heap.size rfl _ HM.o T rfl (by omega) (by omega) (by omega) ?_);intro v4 w4 hown4 hgrow4;have HB4:Hid (Below w.heap.size w w4):=Below.grown HBL.o hgrow4 (by omega) (fun q hq=>by cases hq)
    have HO4:Hid (OwnB w.heap.size w4 v4 ([91]++RfP.layL c 0 (l.take (0+1)))):=by
     show World.ownsRow _ _ _ _ _ _ _
     have e1:[91]++RfP.layL c 0 (l.take (0+1))=[91]++b:=by rw[HSTEP.o];simp[RfP.layL,RfP.Uj]
     have e2:(([91]:Qx)++b).length=1+T.size:=by rw[List.length_append,hTs.o];rfl
     rw[e1,e2,Q5 _ b,<-HTC.o];exact hown4
    have HW4:Hid (w.heap.size<w4.heap.size):=by
     show _<_;have:=hgrow4.size;omega
    clear hown4 hgrow4;go_wp2_with fail
    have hfin:Bm c l w v4 (.int .i64 1) w4:=⟨0+1,rfl,by rw[<-HNN.o];omega,HB4.o,HW4.o,by
     rw[HSTEP.o];simp[RfP.layL,RfP.Uj]
     omega,.inr ⟨by omega,HO4.o⟩⟩
    first|exact⟨hfin,by simp[intOf]<;>omega⟩|exact⟨by (repeat apply Exists.intro);exact⟨hfin,rfl⟩,by simp[intOf]<;>omega⟩
   ·have hi1:decide ((0:Int)<(i:Int))=true:=decide_eq_true (by omega)
    have HC0:=zq hc0';obtain⟨m,hm⟩:=xq (([91]++RfP.layL c 0 (l.take i)).length);have HM:=zq hm
    have hmb:m<=1+i*2147483650:=by rw[hm];exact HLEN.o
    have hown:wr.ownsRow w.heap.size 5 1 u7 m (Qr ([91]++RfP.layL c 0 (l.take i))):=by rw[hm];exact hown
    have hzz:w.heap.size<=wr.heap.size:=by omega
    clear hm;by_cases hmod:i % c=0
    ·have hmi:(((i:Nat):Int) % ((c:Nat):Int)==0)=true:=by
      rw[beq_iff_eq,show ((i:Int) % (c:Int))=((i % c:Nat):Int) from rfl,hmod];rfl
     have HSEP:Hid (RfP.Uj c i=[59,32]):=by show _=_;unfold RfP.Uj;rw[if_neg (by omega),if_pos hmod]
     clear hmod;have hown2:=hown;go_wp2_with (at_builtin;refine wpList_append_own_at _ rfl _ _ 88 rfl w.heap.size 5 i0 (.int .u8 0) 1 1 Tryz.underlying88 hi hz0 hz1 hz2 rfl (by decide) _ _ _ rfl (World.ownsRow.alloc hown2 _) ⟨wr.heap.size,0,none⟩ 2 2 [.int .u8 59,.int .u8 32] rfl rfl (LexP.Qb _ _ _ _ rfl) (by simp[Value.oneCell']) (by unfold maxLen;omega) (by omega) (by simp;omega) ?_);intro v3 w3 hown3 hgrow3 _ hat3;have hb3:Below w.heap.size w w3:=Below.grown (HBL.o.alloc hzz _) hgrow3 (by simp;omega) (fun q hq=>(World.ownsRow.lt hown2 q hq).1)
     have HO3:Hid (w3.ownsRow w.heap.size 5 1 v3 (m+2) (Qr ([91]++RfP.layL c 0 (l.take i)++[59,32]))):=by
      show World.ownsRow _ _ _ _ _ _ _;rw[Q5];exact hown3
     have HB3:=zq hb3;have hzz3:=hb3.size
     have hsz3:w.heap.size<w3.heap.size:=by
      have:=hgrow3.size;simp at this;omega
     have hc3:w3.cell? ⟨g,o+i,none⟩=some (.string T):=(hb3.cell (p:=⟨g,o+i,none⟩) hg).trans HCW.o;clear hown hown2 hown3 hgrow3 hat3 hb3;go_wp2_with (at_builtin;refine Jn rfl _ _ 88 9 rfl w.heap.size 5 i0 Tryz.underlying88 Tryz.underlying9 hi hz0 hz1 hz2 _ _ _ rfl HO3.o T rfl (by omega) (by omega) ?_);intro v4 w4 hown4 hgrow4 hat4;have HB4:Hid (Below w.heap.size w w4):=Below.grown HB3.o hgrow4 hzz3 (fun q hq=>(World.ownsRow.lt HO3.o q hq).1)
     have e1:[91]++RfP.layL c 0 (l.take (i+1))=[91]++RfP.layL c 0 (l.take i)++[59,32]++b:=by rw[HSTEP.o,HSEP.o];simp
     have e2:([91]++RfP.layL c 0 (l.take i)++[59,32]++b).length=m+2+T.size:=by rw[List.length_append,List.length_append,<-HM.o,hTs.o];rfl
     have HLEN4:Hid (([91]++RfP.layL c 0 (l.take (i+1))).length=m+2+T.size):=by show _=_;rw[e1,e2]
     have HO4:Hid (OwnB w.heap.size w4 v4 ([91]++RfP.layL c 0 (l.take (i+1)))):=by
      show World.ownsRow _ _ _ _ _ _ _;rw[e1,e2,Q5 _ b,<-HTC.o];exact hown4
     clear e1 e2
     have HW4:Hid (w.heap.size<w4.heap.size):=by
      show _<_;have:=hgrow4.size;omega
     clear hown4 hgrow4 hat4;go_wp2_with fail;have hfin:Bm c l w v4 (.int .i64 ((i:Int)+1)) w4:=⟨i+1,by go_num,by rw[<-HNN.o];omega,HB4.o,HW4.o,by rw[HLEN4.o];omega,.inr ⟨by omega,HO4.o⟩⟩
     first|exact⟨hfin,by simp[intOf]<;>omega⟩|exact⟨by (repeat apply Exists.intro);exact⟨hfin,rfl⟩,by simp[intOf]<;>omega⟩
    ·have hmi:(((i:Nat):Int) % ((c:Nat):Int)==0)=false:=by
      rw[beq_eq_false_iff_ne,show ((i:Int) % (c:Int))=((i % c:Nat):Int) from rfl];omega
     have HSEP:Hid (RfP.Uj c i=[32]):=by show _=_;unfold RfP.Uj;rw[if_neg (by omega),if_neg hmod]
     clear hmod;have hown2:=hown;go_wp2_with (at_builtin;refine wpList_append_own_at _ rfl _ _ 88 rfl w.heap.size 5 i0 (.int .u8 0) 1 1 Tryz.underlying88 hi hz0 hz1 hz2 rfl (by decide) _ _ _ rfl (World.ownsRow.alloc hown2 _) ⟨wr.heap.size,0,none⟩ 1 1 [.int .u8 32] rfl rfl (LexP.Qb _ _ _ _ rfl) (by simp[Value.oneCell']) (by unfold maxLen;omega) (by omega) (by simp;omega) ?_);intro v3 w3 hown3 hgrow3 _ hat3;have hb3:Below w.heap.size w w3:=Below.grown (HBL.o.alloc hzz _) hgrow3 (by simp;omega) (fun q hq=>(World.ownsRow.lt hown2 q hq).1)
     have HO3:Hid (w3.ownsRow w.heap.size 5 1 v3 (m+1) (Qr ([91]++RfP.layL c 0 (l.take i)++[32]))):=by
      show World.ownsRow _ _ _ _ _ _ _;rw[Q5];exact hown3
     have HB3:=zq hb3;have hzz3:=hb3.size
     have hsz3:w.heap.size<w3.heap.size:=by
      have:=hgrow3.size;simp at this;omega
     have hc3:w3.cell? ⟨g,o+i,none⟩=some (.string T):=(hb3.cell (p:=⟨g,o+i,none⟩) hg).trans HCW.o;clear hown hown2 hown3 hgrow3 hat3 hb3;go_wp2_with (at_builtin;refine Jn rfl _ _ 88 9 rfl w.heap.size 5 i0 Tryz.underlying88 Tryz.underlying9 hi hz0 hz1 hz2 _ _ _ rfl HO3.o T rfl (by omega) (by omega) ?_);intro v4 w4 hown4 hgrow4 hat4;have HB4:Hid (Below w.heap.size w w4):=Below.grown HB3.o hgrow4 hzz3 (fun q hq=>(World.ownsRow.lt HO3.o q hq).1)
     have e1:[91]++RfP.layL c 0 (l.take (i+1))=[91]++RfP.layL c 0 (l.take i)++[32]++b:=by rw[HSTEP.o,HSEP.o];simp
     have e2:([91]++RfP.layL c 0 (l.take i)++[32]++b).length=m+1+T.size:=by rw[List.length_append,List.length_append,<-HM.o,hTs.o];rfl
     have HLEN4:Hid (([91]++RfP.layL c 0 (l.take (i+1))).length=m+1+T.size):=by show _=_;rw[e1,e2]
     have HO4:Hid (OwnB w.heap.size w4 v4 ([91]++RfP.layL c 0 (l.take (i+1)))):=by
      show World.ownsRow _ _ _ _ _ _ _;rw[e1,e2,Q5 _ b,<-HTC.o];exact hown4
     clear e1 e2
     have HW4:Hid (w.heap.size<w4.heap.size):=by
      show _<_;have:=hgrow4.size;omega
     clear hown4 hgrow4 hat4;go_wp2_with fail;have hfin:Bm c l w v4 (.int .i64 ((i:Int)+1)) w4:=⟨i+1,by go_num,by rw[<-HNN.o];omega,HB4.o,HW4.o,by rw[HLEN4.o];omega,.inr ⟨by omega,HO4.o⟩⟩
     first|exact⟨hfin,by simp[intOf]<;>omega⟩|exact⟨by (repeat apply Exists.intro);exact⟨hfin,rfl⟩,by simp[intOf]<;>omega⟩
  ·have hin:i=n:=by omega
   subst hin;rcases HCASE.o with ⟨hi0,-,-⟩|⟨-,hown⟩
   ·omega
   ·obtain⟨m,hm⟩:=xq (([91]++RfP.layL c 0 l).length)
    have htk:l.take i=l:=List.take_of_length_le (by rw[<-HNN.o];exact Nat.le_refl _)
    have hmb:m<=1+i*2147483650:=by
     have:=HLEN.o;rw[htk]at this;omega
    have hown:wr.ownsRow w.heap.size 5 1 u7 m (Qr ([91]++RfP.layL c 0 l)):=by
     rw[htk]at hown;rw[hm];exact hown
    have HM:=zq hm
    have hzz:w.heap.size<=wr.heap.size:=by omega
    clear hm htk;go_wp2_with (at_builtin;refine wpList_append_own_at _ rfl _ _ 88 rfl w.heap.size 5 i0 (.int .u8 0) 1 1 Tryz.underlying88 hi hz0 hz1 hz2 rfl (by decide) _ _ _ rfl (World.ownsRow.alloc hown _) ⟨wr.heap.size,0,none⟩ 1 1 [.int .u8 93] rfl rfl (LexP.Qb _ _ _ _ rfl) (by simp[Value.oneCell']) (by unfold maxLen;omega) (by omega) (by simp;omega) ?_);intro v3 w3 hown3 hgrow3 _ hat3;have HB3:Hid (Below w.heap.size w w3):=Below.grown (HBL.o.alloc hzz _) hgrow3 (by simp;omega) (fun q hq=>(World.ownsRow.lt hown q hq).1)
    have ho3:OwnB w.heap.size w3 v3 (Zr (r+1) c l):=by
     show World.ownsRow _ _ _ _ _ _ _
     have e2:(Zr (r+1) c l).length=m+1:=by rw[HGT.o,List.length_append,<-HM.o];rfl
     rw[e2,HGT.o,Q5];exact hown3
    have hcv:=Vw ho3;clear hown hown3 hgrow3 hat3 ho3;go_wp2_with fail;go_ret;exact⟨rfl,HB3.o⟩
end Go.Proofs.YtgfmiladfeoldaaGreatDoor
