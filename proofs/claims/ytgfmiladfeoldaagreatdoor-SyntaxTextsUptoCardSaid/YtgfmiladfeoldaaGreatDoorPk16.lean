import Derived.Test.YtgfmiladfeoldaaGreatDoorPk11
import Derived.Test.YtgfmiladfeoldaaGreatDoorPk12
import Derived.Lib.SlBytesConst
import Derived.Test.YtgfmiladfeoldaaGreatDoorPk13
set_option linter.unusedSimpArgs false
set_option linter.unusedVariables false
set_option maxRecDepth 100000
set_option maxHeartbeats 16000000
open Go.Proofs.Tryz
open Go.Value renaming slice->U,int->A,bool->ce,string->cl
open Go.Obj renaming cells->O
open Option renaming none->Z,some->F
open Bool renaming false->ca
open Go.IntKind renaming i64->G
open Go.Proofs.Tryz renaming underlying88->co,prog->c9,underlying9->de,strconv_Itoa_small->dj,ntmps82->dk,func82->dl
open Go.Ending renaming returned->da
open Go.RowKit renaming Below->db
namespace Go.Proofs.YtgfmiladfeoldaaGreatDoor
open Go.RowKit ar aw
variable {n:Nat} {u v:Value} {w:World}
theorem Ju:∀(k u:Nat),u<=k->Lib.decDigits u=aj.aA u
 |k,u,h=>by
  by_cases h0:u=0
  ·subst h0
   rw[Lib.decDigits_one (by omega)];rfl
  have hd:aj.aA u=(dg u).map fun d=>UInt8.ofNat (48+d):=by unfold aj.aA;rw[if_neg h0]
  by_cases h1:u<10
  ·rw[Lib.decDigits_one h1,hd,Vf (by omega),show u / 10=0 by omega,Jz,show u % 10=u by omega];rfl
  cases k with
  |zero=>omega
  |succ k=>
   have ih:=Ju k (u / 10) (by omega)
   have E:aj.aA (u / 10)=(dg (u / 10)).map fun d=>UInt8.ofNat (48+d):=by unfold aj.aA;rw[if_neg (by omega)]
   rw[Lib.decDigits,dif_neg h1,ih,hd,E,Vf (show 0<u by omega),abl];rfl
theorem M7 (r c:Nat)(ao:Option Addr)(cap:Nat)(w:World)(hr:r<=64)(hc:c<=64)(h0:r=0\/c=0):Calls c9 82 #[A G r,A G c,U ao 0 cap] w fun e w'=>e=da (cl ⟨(Yf r c []).toArray⟩)/\w=w':=by
 have q1:=U1 hr;have q2:=U1 hc
 have uR:Hid (∀w,Calls c9 41 #[A G r] w fun e w'=>e=da (cl ⟨(aj.aA r).toArray⟩)/\w'=w):=fun w=>by have:=dj r (by omega) w;rw[Ju r r (aab _)]at this;exact this
 have xM:Hid (∀w,Calls c9 41 #[A G c] w fun e w'=>e=da (cl ⟨(aj.aA c).toArray⟩)/\w'=w):=fun w=>by have:=dj c (by omega) w;rw[Ju c c (aab _)]at this;exact this
 obtain⟨an,hA⟩:=xq (aj.aA r);obtain⟨B,hB⟩:=xq (aj.aA c);rw[<-hA]at q1 uR;rw[<-hB]at q2 xM;have HA:=zq hA;have HB:=zq hB;clear hA hB
 have HE:Hid (Ending.returned (cl ((⟨#[91]⟩:ByteArray)++⟨an.toArray⟩++⟨#[58]⟩++⟨B.toArray⟩++⟨#[93]⟩))=Ending.returned (cl ⟨(Yf r c []).toArray⟩)):=by
  show _=_
  have e:Yf r c []=[91]++an++[58]++B++[93]:=by rw[HA.o,HB.o];unfold Yf;rw[if_pos rfl]
  rw[e,Zp,Zp,Zp,Zp];simp
 by_cases nY:r=0
 ·have hz:(((r:Nat):Int)==0)=true:=by simp[nY]
  clear nY h0;go_enter dl,dk;go_wp2_with fail;refine(uR.o _).mono ?_;rintro e w1 ⟨rfl,rfl⟩;go_wp2_with fail;refine(xM.o _).mono ?_;rintro e w2 ⟨rfl,rfl⟩;go_wp2_with fail;go_ret;exact⟨HE,rfl⟩
 have hz:(((r:Nat):Int)==0)=ca:=by simp[nY]
 have hz2:(((c:Nat):Int)==0)=true:=by
  rcases h0 with h|h
  ·exact absurd h nY
  simp[h]
 clear nY h0;go_enter dl,dk;go_wp2_with fail;refine(uR.o _).mono ?_;rintro e w1 ⟨rfl,rfl⟩;go_wp2_with fail;refine(xM.o _).mono ?_;rintro e w2 ⟨rfl,rfl⟩;go_wp2_with fail;go_ret;exact⟨HE,rfl⟩
theorem Tc {P:Program}(base:Nat)(t u ty e:TypeId)(i:TypeInfo)(ht:P.underlying t=F (.slice e))(hu:P.underlying u=F .string)(hi:P.info? e=F i)(hz:i.zero=F (A .u8 0))
  (hsize:i.size=1) (hby:i.bytes=1) (w:World) (g:Nat) (x:Value) (hg:w.cell? ⟨g,0,Z⟩=F x) (s:ByteArray) (hs:0<s.size) (hbytes:1+s.size<=140737488355328) (hbase:base<=w.heap.size):
  ∃v' w',(Builtin.append_ #[t,u] ty #[U (F ⟨g,0,Z⟩) 1 1,cl s]).run P w=.ok v' w'/\w'.ownsRow base e 1 v' (1+s.size) (x::Lib.strCells s)/\w.grownBy w' Z:=by
 have E:∀j y,[x][j]?=F y->w.cell? ((⟨g,0,Z⟩:Addr).add j)=F y:=by
  intro j y I
  have K:j=0:=by have:=(aaf.1 I).1;simp at this;omega
  subst K;simp at I;subst I;exact hg
 have T:=Lib.run_append_grow_string (P:=P) w t u ty e i (A .u8 0) ht hu hi hz ⟨g,0,Z⟩ 1 1 [x] (by rw[hsize];rfl) E s (by omega) (by omega) (by rw[hby];exact growslice_fits (by omega) (by omega));have J:=grownCap_ge w (1+s.size) 1 e;have H:grownCap w (1+s.size) 1 e<=maxLen:=grownCap_le_maxLen w (1+s.size) 1 e (by unfold maxLen;omega)
 have h:([x]++Lib.strCells s).length=(1+s.size)*1:=by rw[aag,Lib.strCells_length,aaR];omega
 refine⟨_,_,T,⟨h,.inr ⟨w.heap.size,_,_,rfl,hbase,aap w.drew _,J,H,?_,?_⟩⟩,⟨rfl,rfl,rfl,by simp,fun k hk _=>Go.heap_alloc_old w.drew _ hk⟩⟩
 ·have bi:(Value.int IntKind.u8 0).cells.size=1:=rfl
  simp only[Array.size_append,List.size_toArray,size_zeroCells,bi,aaR,Lib.strCells_length];omega
 simp only[Array.toList_append,aaW];rw[<-aaW,<-h];exact List.take_left
theorem Wt {P:Program}{ops:Array Oper}{rest:List Oper}{o:Oper}{a:Act}{Q:Exit->Act->World->Prop}(hgd:o.guard=Z)(sl x:Operand)(t u:TypeId)
  (ho:o.op=.call {callee:=.builtin .append,args:= #[sl,x],argTypes:= #[t,u]})
  (base:Nat) (e:TypeId) (i:TypeInfo) (ht:P.underlying t=F (.slice e)) (hu:P.underlying u=F .string) (hi:P.info? e=F i) (hz:i.zero=F (A .u8 0))
  (hsize:i.size=1) (hby:i.bytes=1) (g:Nat) (hs:a.eval sl=U (F ⟨g,0,Z⟩) 1 1) (y:Value) (hg:w.cell? ⟨g,0,Z⟩=F y) (s:ByteArray) (hx:a.eval x=cl s) (hs0:0<s.size)
  (hbytes:1+s.size<=140737488355328) (hbase:base<=w.heap.size)
  (h:∀v' w',w'.ownsRow base e 1 v' (1+s.size) (y::Lib.strCells s)->w.grownBy w' Z->wpList P ops Q rest (a.put o.dst v') w'):wpList P ops Q (o::rest) a w:=by
 refine wpList_plain hgd fun K hK=> ?_;obtain⟨v',w',I,E,H⟩:=Tc (P:=P) base t u o.type e i ht hu hi hz hsize hby w g y hg s hs0 hbytes hbase;unfold Oper.wp execOp;simp only[ho,resolve,invoke,builtin,aes,aet,acX,adw,abq,abX,hs,hx,I];exact hK _ _ (h v' w' E H)
theorem We (l:Bytes):Qu l=js l:=by simp[Qu,js]
def Qv8 (c:Nat)(l:List Bytes)(w1:World)(sv iv:Value)(wr:World):Prop:=
 ∃i:Nat,iv=A G i/\i<=l.length/\db w1.heap.size w1 wr/\w1.heap.size<wr.heap.size/\([91]++aF.bM c 0 (l.take i)).length<=1+i*2147483650/\((i=0/\sv=U (F ⟨w1.heap.size,0,Z⟩) 1 1/\wr.cell? ⟨w1.heap.size,0,Z⟩=F (A .u8 91))\/(0<i/\cE w1.heap.size wr sv ([91]++aF.bM c 0 (l.take i))))
theorem Qg5 {c i:Nat}{l:List Bytes}{b:Bytes}(h:l[i]?=F b):aF.bM c 0 (l.take (i+1))=aF.bM c 0 (l.take i)++(aF.W9 c i++b):=by have E:=(aaf.1 h).1;rw[aaI,h];show aF.bM c 0 (l.take i++[b])=_;rw[aF.P9,aak,aaG (by omega),aaX];simp[aF.bM]
theorem M8 (r c:Nat){l:List Bytes}(hv:SS w v l)(hr:r+1<=64)(hc:c<=64)(hc0:0<c)(hn:l.length=(r+1)*c)(hb:∀b∈l,b.length<=2147483648)(hne:∀b∈l,b≠[]):Calls c9 82 #[A G ((r+1:Nat):Int),A G c,v] w fun e w'=>e=da (cl ⟨(Yf (r+1) c l).toArray⟩)/\db w.heap.size w w':=by
 obtain⟨i0,hi,hz0,hz1,hz2⟩:=aa0 Tryz.lK;obtain⟨ao,cap,rfl,h1,h2,h3⟩:=hv
 have JQ:0<l.length:=by rw[hn];exact ack (by omega) hc0
 have iW:l≠[]:=by rintro rfl;simp at JQ
 obtain⟨g,o,rfl,hg,hcell⟩:=h3 JQ;obtain⟨n,bu⟩:=xq l.length;rw[<-bu]at h1 JQ hn ⊢
 have yg:n<=4096:=by rw[hn];exact aa3 hr hc
 have HC:=zq hcell;have HN:=zq hn;have bw:=zq bu;have pY:=zq hb;have bV:=zq hne
 have sw:Hid (Yf (r+1) c l=[91]++aF.bM c 0 l++[93]):=by show _=_;unfold Yf;rw[if_neg iW,aF.Qyz hc0 (by rw[<-bu];exact hn)]
 have hr1:(((r+1:Nat):Int)==0)=ca:=by simp;omega
 have hc1:(((c:Nat):Int)==0)=ca:=by simp;omega
 have hc2:((c:Nat):Int)≠0:=by omega
 have HST:Hid (Qv8 c l w (U (F ⟨w.heap.size,0,Z⟩) 1 1) (A G 0) (w.alloc (O #[A .u8 91] 5 (1,2)))):=
  ⟨0,rfl,aat _,Qq w _,by simp,by simp[aF.bM],.inl ⟨rfl,rfl,(World.cell?_alloc_mark w #[A .u8 91] 5 (1,2) 0).trans rfl⟩⟩
 have kc:=fun (w:World) (C:Array Value) (n c:Nat)=>Lib.run_convert_bytes_const (P:=c9) w 88 5 C n c co underlying5;clear hcell hn bu hb iW h3 hne;go_enter dl,dk;go_wp2_with fail;go_loopw [7,8] (fun sv iv wr=>Qv8 c l w sv iv wr) (fun _ iv _=>n-(intOf iv).toNat)
 case atStart=>exact HST.o
 case round=>
  obtain⟨i,rfl,iq,hbl,pI,hlen,gC⟩:=hrel;rw[<-bw.o]at iq;have aL:=zq hbl;have jP:=zq gC;have HLEN:=zq hlen;clear gC hbl hlen;by_cases hlt:i<n
  ·obtain⟨b,hb⟩:∃b,l[i]?=F b:=⟨_,aad (by rw[<-bw.o];exact hlt)⟩
   have lp:=aai hb;have hbl:=pY.o b lp;have qL:=bV.o b lp;have hc0':wr.cell? ⟨g,o+i,Z⟩=F (cl ⟨b.toArray⟩):=(aL.o.cell (p:=⟨g,o+i,Z⟩) hg).trans (HC.o i b hb);have eD:=zq (Qg5 (c:=c) hb);obtain⟨T,hT⟩:=xq (⟨b.toArray⟩:ByteArray);rw[<-hT]at hc0'
   have UL:T.size=b.length:=by rw[hT];show b.toArray.size=_;simp
   have jC:=zq UL
   have HCW:Hid (w.cell? ⟨g,o+i,Z⟩=F (cl T)):=by rw[hT];exact HC.o i b hb
   have CW:Hid (Lib.strCells T=Qu b):=by show _=_;rw[hT,Jt,We]
   have hbp:0<b.length:=abm.2 qL
   have hTp:0<T.size:=by omega
   have hTb:T.size<=2147483648:=by omega
   clear hb lp qL hT UL;rcases jP.o with ⟨dR,kq,nW⟩|⟨hip,hown⟩
   ·subst dR
    subst kq;rw[aba]at hc0';have HM:=zq nW;clear nW;go_wp2_with (at_builtin;refine Wt rfl _ _ 88 9 rfl w.heap.size 5 i0 co de hi hz0 hz1 hz2 w.heap.size rfl _ HM.o T rfl (by omega) (by omega) (by omega) ?_);intro v4 w4 bg aJ;have cC:Hid (db w.heap.size w w4):=aaF aL.o aJ (by omega) (fun q hq=>by cases hq)
    have jQ:Hid (cE w.heap.size w4 v4 ([91]++aF.bM c 0 (l.take (0+1)))):=by
     show World.ownsRow _ _ _ _ _ _ _
     have e1:[91]++aF.bM c 0 (l.take (0+1))=[91]++b:=by rw[eD.o];simp[aF.bM,aF.W9]
     have e2:(([91]:Bytes)++b).length=1+T.size:=by rw[aag,jC.o];rfl
     rw[e1,e2,Qs _ b,<-CW.o];exact bg
    have eQ:Hid (w.heap.size<w4.heap.size):=by show _<_;have:=aJ.size;omega
    clear bg aJ;go_wp2_with fail
    have aq:Qv8 c l w v4 (A G 1) w4:=⟨0+1,rfl,by rw[<-bw.o];omega,cC,eQ,by
     rw[eD.o];simp[aF.bM,aF.W9]
     omega,.inr ⟨by omega,jQ⟩⟩
    exact⟨by (repeat apply Exists.intro);exact⟨aq,rfl⟩,by simp[intOf]<;>omega⟩
   have cB:decide ((0:Int)<(i:Int))=true:=aa7 (by omega);have tH:=zq hc0';obtain⟨m,hm⟩:=xq (([91]++aF.bM c 0 (l.take i)).length);have HM:=zq hm
   have zY:m<=1+i*2147483650:=by rw[hm];exact HLEN.o
   have hown:wr.ownsRow w.heap.size 5 1 u7 m (Qu ([91]++aF.bM c 0 (l.take i))):=by rw[hm];exact hown
   have hzz:w.heap.size<=wr.heap.size:=by omega
   clear hm;by_cases nX:i % c=0
   case' pos=>
    have zZ:(((i:Nat):Int) % ((c:Nat):Int)==0)=true:=by rw[ab9,show ((i:Int) % (c:Int))=((i % c:Nat):Int) from rfl,nX];rfl
    have GZ:Hid (aF.W9 c i=[59,32]):=by show _=_;unfold aF.W9;rw[if_neg (by omega),if_pos nX]
    clear nX;have hown2:=hown;go_wp2_with (at_builtin;refine abn _ rfl _ _ 88 rfl w.heap.size 5 i0 (A .u8 0) 1 1 co hi hz0 hz1 hz2 rfl (by decide) _ _ _ rfl (aaU hown2 _) ⟨wr.heap.size,0,Z⟩ 2 2 [A .u8 59,A .u8 32] rfl rfl (ar.Qg _ _ _ _ rfl) (by simp[Value.oneCell']) (by unfold maxLen;omega) (by omega) (by simp;omega) ?_);intro v3 w3 aB ax _ eZ;have hb3:db w.heap.size w w3:=aaF (aL.o.alloc hzz _) ax (by simp;omega) (fun q hq=>(aaB hown2 q hq).1)
    have fu:Hid (w3.ownsRow w.heap.size 5 1 v3 (m+2) (Qu ([91]++aF.bM c 0 (l.take i)++[59,32]))):=by show World.ownsRow _ _ _ _ _ _ _;rw[Qs];exact aB
    have aV:=zq hb3;have Lq:=hb3.size
    have La:w.heap.size<w3.heap.size:=by have:=ax.size;simp at this;omega
    have hc3:w3.cell? ⟨g,o+i,Z⟩=F (cl T):=(hb3.cell (p:=⟨g,o+i,Z⟩) hg).trans HCW.o;clear hown hown2 aB ax eZ hb3;go_wp2_with (at_builtin;refine Zf rfl _ _ 88 9 rfl w.heap.size 5 i0 co de hi hz0 hz1 hz2 _ _ _ rfl fu.o T rfl (by omega) (by omega) ?_);intro v4 w4 bg aJ zA;have cC:Hid (db w.heap.size w w4):=aaF aV.o aJ Lq (fun q hq=>(aaB fu.o q hq).1)
    have e1:[91]++aF.bM c 0 (l.take (i+1))=[91]++aF.bM c 0 (l.take i)++[59,32]++b:=by rw[eD.o,GZ.o];simp
    have e2:([91]++aF.bM c 0 (l.take i)++[59,32]++b).length=m+2+T.size:=by rw[aag,aag,<-HM.o,jC.o];rfl
    have CJ:Hid (([91]++aF.bM c 0 (l.take (i+1))).length=m+2+T.size):=by show _=_;rw[e1,e2]
   case' neg=>
    have zZ:(((i:Nat):Int) % ((c:Nat):Int)==0)=ca:=by rw[ad2,show ((i:Int) % (c:Int))=((i % c:Nat):Int) from rfl];omega
    have GZ:Hid (aF.W9 c i=[32]):=by show _=_;unfold aF.W9;rw[if_neg (by omega),if_neg nX]
    clear nX;have hown2:=hown;go_wp2_with (at_builtin;refine abn _ rfl _ _ 88 rfl w.heap.size 5 i0 (A .u8 0) 1 1 co hi hz0 hz1 hz2 rfl (by decide) _ _ _ rfl (aaU hown2 _) ⟨wr.heap.size,0,Z⟩ 1 1 [A .u8 32] rfl rfl (ar.Qg _ _ _ _ rfl) (by simp[Value.oneCell']) (by unfold maxLen;omega) (by omega) (by simp;omega) ?_);intro v3 w3 aB ax _ eZ;have hb3:db w.heap.size w w3:=aaF (aL.o.alloc hzz _) ax (by simp;omega) (fun q hq=>(aaB hown2 q hq).1)
    have fu:Hid (w3.ownsRow w.heap.size 5 1 v3 (m+1) (Qu ([91]++aF.bM c 0 (l.take i)++[32]))):=by show World.ownsRow _ _ _ _ _ _ _;rw[Qs];exact aB
    have aV:=zq hb3;have Lq:=hb3.size
    have La:w.heap.size<w3.heap.size:=by have:=ax.size;simp at this;omega
    have hc3:w3.cell? ⟨g,o+i,Z⟩=F (cl T):=(hb3.cell (p:=⟨g,o+i,Z⟩) hg).trans HCW.o;clear hown hown2 aB ax eZ hb3;go_wp2_with (at_builtin;refine Zf rfl _ _ 88 9 rfl w.heap.size 5 i0 co de hi hz0 hz1 hz2 _ _ _ rfl fu.o T rfl (by omega) (by omega) ?_);intro v4 w4 bg aJ zA;have cC:Hid (db w.heap.size w w4):=aaF aV.o aJ Lq (fun q hq=>(aaB fu.o q hq).1)
    have e1:[91]++aF.bM c 0 (l.take (i+1))=[91]++aF.bM c 0 (l.take i)++[32]++b:=by rw[eD.o,GZ.o];simp
    have e2:([91]++aF.bM c 0 (l.take i)++[32]++b).length=m+1+T.size:=by rw[aag,aag,<-HM.o,jC.o];rfl
    have CJ:Hid (([91]++aF.bM c 0 (l.take (i+1))).length=m+1+T.size):=by show _=_;rw[e1,e2]
   all_goals
    have jQ:Hid (cE w.heap.size w4 v4 ([91]++aF.bM c 0 (l.take (i+1)))):=by show World.ownsRow _ _ _ _ _ _ _;rw[e1,e2,Qs _ b,<-CW.o];exact bg
    clear e1 e2
    have eQ:Hid (w.heap.size<w4.heap.size):=by show _<_;have:=aJ.size;omega
    clear bg aJ zA;go_wp2_with fail;have aq:Qv8 c l w v4 (A G ((i:Int)+1)) w4:=⟨i+1,by go_num,by rw[<-bw.o];omega,cC,eQ,by rw[CJ.o];omega,.inr ⟨by omega,jQ⟩⟩
    exact⟨by (repeat apply Exists.intro);exact⟨aq,rfl⟩,by simp[intOf]<;>omega⟩
  have ir:i=n:=by omega
  subst ir;rcases jP.o with ⟨dR,-,-⟩|⟨-,hown⟩
  ·omega
  obtain⟨m,hm⟩:=xq (([91]++aF.bM c 0 l).length);have bF:l.take i=l:=aam (by rw[<-bw.o];exact aab _)
  have zY:m<=1+i*2147483650:=by have:=HLEN.o;rw[bF]at this;omega
  have hown:wr.ownsRow w.heap.size 5 1 u7 m (Qu ([91]++aF.bM c 0 l)):=by rw[bF]at hown;rw[hm];exact hown
  have HM:=zq hm
  have hzz:w.heap.size<=wr.heap.size:=by omega
  clear hm bF;go_wp2_with (at_builtin;refine abn _ rfl _ _ 88 rfl w.heap.size 5 i0 (A .u8 0) 1 1 co hi hz0 hz1 hz2 rfl (by decide) _ _ _ rfl (aaU hown _) ⟨wr.heap.size,0,Z⟩ 1 1 [A .u8 93] rfl rfl (ar.Qg _ _ _ _ rfl) (by simp[Value.oneCell']) (by unfold maxLen;omega) (by omega) (by simp;omega) ?_);intro v3 w3 aB ax _ eZ;have aV:Hid (db w.heap.size w w3):=aaF (aL.o.alloc hzz _) ax (by simp;omega) (fun q hq=>(aaB hown q hq).1)
  have wQ:cE w.heap.size w3 v3 (Yf (r+1) c l):=by
   show World.ownsRow _ _ _ _ _ _ _
   have e2:(Yf (r+1) c l).length=m+1:=by rw[sw.o,aag,<-HM.o];rfl
   rw[e2,sw.o,Qs];exact aB
  have hcv:=Z9 wQ;clear hown aB ax eZ wQ;go_wp2_with fail;go_ret;exact⟨rfl,aV⟩
theorem M9 (r c n:Nat)(w:World)(hr:r<=64)(hc:c<=64)(hn:n=r*c):Calls c9 80 #[A G r,A G c,A G n] w fun e w'=>e=da (ce true)/\w=w':=by
 have h1:(0:Int)<=(r:Int):=by omega
 have h2:(r:Int)<=64:=by omega
 have h3:(0:Int)<=(c:Int):=by omega
 have h4:(c:Int)<=64:=by omega
 have hm:r*c<=64*64:=aa3 hr hc;obtain⟨m,ei⟩:=xq (r*c)
 have hmul:(r:Int)*(c:Int)=((m:Nat):Int):=by rw[ei];rfl
 have hw:IntKind.i64.wrap ((m:Nat):Int)=((m:Nat):Int):=abh _ (by omega)
 have heq:(((n:Nat):Int)==((m:Nat):Int))=true:=by rw[hn,ei];simp
 clear hn ei;go_enter func80,ntmps80;go_wp2_with fail;go_ret;exact⟨rfl,rfl⟩
theorem Fz (neg:Bool)(n:Nat):Xu neg n≠[]:=by
 unfold Xu;split
 ·simp
 exact aj.Ss n
theorem Hq (r c:Nat){l:List (Bool×Nat)}(hv:DD w v l)(hr:r<=64)(hc:c<=64)(hn:l.length=r*c):Calls c9 42 #[.agg #[A G r,A G c,v]] w fun e w'=>e=da (.tuple #[cl ⟨(Yf r c (Xg l)).toArray⟩,A G 0])/\db w.heap.size w w':=by
 obtain⟨i0,hi,hz0,xx,hz2'⟩:=aa0 Tryz.iA;have HV:=zq hv;obtain⟨ao,cap,rfl,h1,h2,h3⟩:=hv;obtain⟨n,bu⟩:=xq l.length;rw[<-bu]at h1 hn ⊢
 have yg:n<=4096:=by rw[hn];exact aa3 hr hc
 have HN:=zq hn;have bw:=zq bu;have H3:=zq h3;have HA:=zq (Qq w (O #[A G r,A G c,U ao n cap] 47));have jh:=zq (aap w (O #[A G r,A G c,U ao n cap] 47));have RH:=zq (M9 r c n (w.alloc (O #[A G r,A G c,U ao n cap] 47)) hr hc hn)
 have HST:Hid (((w.alloc (O #[A G r,A G c,U ao n cap] 47)).alloc (O #[] 9)).ownsRow (w.heap.size+1) 9 1 (U (F ⟨w.heap.size+1,0,Z⟩) 0 0) 0 []):=by have:=ab3 (base:=w.heap.size+1) (e:=9) (size:=1) (w.alloc (O #[A G r,A G c,U ao n cap] 47)) #[] 0 (by simp) (by unfold maxLen;omega) rfl;rw[aaV]at this;exact this
 have aI:=zq (Qq (w.alloc (O #[A G r,A G c,U ao n cap] 47)) (O #[] 9));clear hn bu h3;go_enter func42,ntmps42;go_wp2_with fail;refine RH.o.mono ?_;rintro e w1 ⟨rfl,bA⟩;subst bA;obtain⟨w1,bA⟩:∃w1,w1=w.alloc (O #[A G r,A G c,U ao n cap] 47):=⟨_,rfl⟩;rw[<-bA]at HA jh HST aI ⊢
 have hz1:w1.heap.size=w.heap.size+1:=by rw[bA];simp
 rw[<-hz1]at HST;have HZ1:=zq hz1
 have AP:w.heap.size<w1.heap.size:=by omega
 clear bA hz1;go_wp2_with fail;go_loopw [4,5] (fun lv iv wr=> ∃i:Nat,iv=A G i/\i<=n/\wr.ownsRow w1.heap.size 9 1 lv i (dr (Xg (l.take i)))/\db w1.heap.size w1 wr) (fun _ iv _=>(n-intOf iv).toNat)
 case atStart=>exact⟨0,rfl,aat _,by simpa [Xg,dr] using HST.o,aI⟩
 case round=>
  obtain⟨i,rfl,ir,hown,hbl⟩:=hrel;have HOWN:=zq hown;have aL:=zq hbl;obtain⟨bo,ez,rfl,qK,lp,rK⟩:=Qj hown;have hz1':=hbl.size;have bN:=(aL.o.block w.heap.size (by omega)).trans jh;have e0:wr.cell? ⟨w.heap.size,0,Z⟩=F (A G r):=(aaj wr _ _ _ _ _ bN).trans rfl;have e1:wr.cell? ⟨w.heap.size,1,Z⟩=F (A G c):=(aaj wr _ _ _ _ _ bN).trans rfl;have e2:wr.cell? ⟨w.heap.size,2,Z⟩=F (U ao n cap):=(aaj wr _ _ _ _ _ bN).trans rfl;have dY:Hid (db w.heap.size w wr):=HA.o.trans (aL.o.mono (by omega));clear hown hbl rK bN;by_cases hlt:i<n
  ·obtain⟨g,o,rfl,hg,hcell⟩:=H3.o (by rw[<-bw.o];omega)
   obtain⟨p,hp⟩:∃p,l[i]?=F p:=⟨_,aad (by rw[<-bw.o];omega)⟩;obtain⟨m,xs,c0,c1,bQ,hval,fD⟩:=hcell i p hp;obtain⟨neg,k⟩:=p;obtain⟨mo,gI,uf,-⟩:=bQ.2;subst uf;have d0:wr.cell? ⟨g,o+i*2,Z⟩=F (ce neg):=(dY.o.cell (p:=⟨g,o+i*2,Z⟩) hg).trans c0;have d1:wr.cell? ⟨g,o+i*2+1,Z⟩=F (U mo xs.length gI):=(dY.o.cell (p:=⟨g,o+i*2+1,Z⟩) hg).trans c1;have gj:=zq (bQ.below dY);have HP:=zq hp
   have iO:Hid ((Xu neg k).length<=2147483648):=by have:=Zy neg fD bQ.ok;rw[hval]at this;exact this
   have MN:=zq (Qy6 neg k wr ⟨xs,gj.o,hval,fD⟩);clear c0 c1 bQ hval hp hcell;go_wp2_with fail;refine MN.o.mono ?_;rintro e w3 ⟨rfl,hb3⟩;obtain⟨T,hT⟩:=xq (Xu neg k);rw[<-hT];have HT:=zq hT;have aV:=zq hb3;have fu:=zq (Qy HOWN.o hb3 (aab _));have hz3:=hb3.size;clear hb3 hT d0 d1 e0 e1 e2;go_wp2_with (at_builtin;refine abn _ rfl _ _ 105 rfl w1.heap.size 9 i0 (cl ⟨#[]⟩) 1 16 underlying105 hi hz0 xx hz2' rfl (by decide) _ _ _ rfl (aaU fu.o _) ⟨w3.heap.size,0,Z⟩ 1 1 [cl ⟨T.toArray⟩] rfl rfl (ar.Qg _ _ _ _ rfl) (by simp[Value.oneCell']) (by unfold maxLen;omega) (by omega) (by simp;omega) ?_);intro v4 w4 bg aJ _ gB
   have cm:dr (Xg (l.take (i+1)))=dr (Xg (l.take i))++[cl ⟨T.toArray⟩]:=by rw[aaI,HP.o];simp[Xg,dr,HT.o]
   have jQ:Hid (w4.ownsRow w1.heap.size 9 1 v4 (i+1) (dr (Xg (l.take (i+1))))):=by show World.ownsRow _ _ _ _ _ _ _;rw[cm];exact bg
   have cC:Hid (db w1.heap.size w1 w4):=aaF ((aL.o.trans (aV.o.mono hz1')).alloc (by omega) _) aJ (by simp;omega) (fun q hq=>(aaB fu q hq).1);clear bg aJ gB cm;go_wp2_with fail;have aq:w4.ownsRow w1.heap.size 9 1 v4 (i+1) (dr (Xg (l.take (i+1))))/\db w1.heap.size w1 w4:=⟨jQ,cC⟩
   exact⟨⟨i+1,rfl,by omega,aq⟩,by simp[intOf]<;>omega⟩
  have dD:i=n:=by omega
  have bF:l.take i=l:=aam (by rw[dD];exact abT bw.o.symm);rw[bF]at HOWN;have qu:=zq dD
  have iq:(Xg l).length=r*c:=by unfold Xg;rw[aas,<-bw.o,HN.o]
  have PG:Hid (Calls c9 82 #[A G r,A G c,U bo i ez] wr fun e w'=>e=da (cl ⟨(Yf r c (Xg l)).toArray⟩)/\db wr.heap.size wr w'):=by
   by_cases h0:r=0\/c=0
   ·have dR:i=0:=by
     rw[qu.o,HN.o]
     rcases h0 with h|h<;>rw[h]<;>simp
    have hl0:Xg l=[]:=aau (by rw[iq,<-HN.o,<-qu.o,dR]);rw[dR,hl0];exact(M7 r c bo ez wr hr hc h0).mono fun e w' hp=>⟨hp.1,by rw[hp.2];exact aaw _ _⟩
   obtain⟨r',rfl⟩:∃r',r=r'+1:=⟨r-1,by omega⟩;refine M8 r' c (SS.dh HOWN) hr hc (by omega) iq ?_ ?_
   ·intro b hb
    unfold Xg at hb;rw[abw]at hb;obtain⟨p,hp,rfl⟩:=hb;obtain⟨j,hj⟩:=acd hp
    have hl0:0<l.length:=by have:=(aaf.1 hj).1;omega
    obtain⟨g,o,_,_,hcell⟩:=H3.o hl0;obtain⟨m,xs,_,_,bQ,hval,fD⟩:=hcell j p hj;have:=Zy p.1 fD bQ.ok;rw[hval]at this;exact this
   intro b hb;unfold Xg at hb;rw[abw]at hb;obtain⟨p,hp,rfl⟩:=hb;exact Fz _ _
  clear bF dD iq;go_wp2_with fail;refine PG.o.mono ?_;rintro e w3 ⟨rfl,hb3⟩;have aV:=zq (Qv dY hb3);clear hb3 e0 e1 e2;go_wp2_with fail;go_ret2;exact⟨rfl,aV⟩
def Qhd:Bytes:=[112,114,105,110,116,32,45,65,39,94,50]
def Ja:aj.Ln:=.cmd [112,114,105,110,116] (.cons (.neg (.pow (.turn (.name [65])) 2)) .nil)
theorem Qwm:Ja.pr=Qhd:=by
 have e:aj.aA 2=[50]:=by kernel_rfl
 simp[Ja,aj.Ln.pr,aj.cP.pr,aj.Ex.pr,e,Qhd,aj.par,aj.Q6,aj.Ex.op,aj.Ri,aj.Kn,aj.cP.jM]
theorem H7:aj.nL Ja.flat=[⟨2,[65],[]⟩,⟨5,[],[0]⟩,⟨9,[50],[1]⟩,⟨4,[],[2]⟩,⟨12,[112,114,105,110,116],[3]⟩]:=by
 have e:aj.aA 2=[50]:=by kernel_rfl
 simp[Ja,aj.Ln.flat,aj.cP.flat,aj.Ex.flat,aj.Ex.size,aj.cP.roots,aj.nL,aj.Node.toI,e]
open aZ
theorem Qvq {ds:List Nat}(hst:az ds=ds)(h0:aP ds≠0):Yd ds 1=0↔aP ds=1:=by
 unfold Yd
 match ds,hst,h0 with
 | [],_,h0=>exact absurd rfl h0
 | [d],_,h0=>
  have E:aP [d]=d:=by simp[aP]
  rw[E]at h0 ⊢;simp only[aaR,ado,adq];split
  ·constructor<;>intro h<;>omega
  split
  ·constructor<;>intro h<;>omega
  constructor<;>intro h<;>omega
 |a::b::l,hst,_=>
  rw[if_pos (by simp)]
  have E:az (b::l)=b::l:=by
   have H:=aw.bt (a::b::l) (b::l).length (by rw[<-Ji,hst];rfl);obtain⟨d,I,J⟩:=H;rw[<-Ji,hst]at I
   have K:(b::l).getLast? =F d:=by
    rw[List.getLast?_eq_getElem?]
    simpa using I
   exact Pj K J
  have bi:=Nt E (by simp);have H:aP (a::b::l)=a+65536*aP (b::l):=rfl;constructor
  ·intro h;exact absurd h (by decide)
  intro h;omega
theorem B8 {x:List Nat}{y:Nat}: -1<=Yd x y/\Yd x y<=1:=by
 unfold Yd;split
 ·omega
 split
 ·omega
 split
 ·omega
 split<;>omega
theorem Qj3 {xs:List Nat}(ok:aw.ok xs)(h:val xs=1):az (Xn xs)=[1]:=by
 have E:aP (az (Xn xs))=1:=by rw[Ye,Zr ok,h]
 have I:=Vh (Xn xs);have J:=Zo (Jr xs);obtain⟨ds,bi⟩:=xq (az (Xn xs));rw[<-bi]at E I J ⊢
 match ds,E,I with
 | [],E,_=>simp[aP]at E
 | [d],E,_=>simp[aP]at E;rw[E]
 |a::b::l,E,hst=>
  have H:az (b::l)=b::l:=by
   have J:=aw.bt (a::b::l) (b::l).length (by rw[<-Ji,hst];rfl);obtain⟨d,H,K⟩:=J;rw[<-Ji,hst]at H
   have T:(b::l).getLast? =F d:=by
    rw[List.getLast?_eq_getElem?]
    simpa using H
   exact Pj T K
  have I:=Nt H (by simp);have K:aP (a::b::l)=a+65536*aP (b::l):=rfl;omega
theorem Qvw (hv:eR w v n)(hu:eR w u 1)(h0:n≠0):Calls c9 228 #[v,u] w fun e w'=> ∃c:Int,e=da (A G c)/\((c=0↔n=1)/\ -1<=c/\c<=1)/\db w.heap.size w w':=by
 obtain⟨xs,h1,hn,hl⟩:=hv;obtain⟨ys,u1,un,ul⟩:=hu;have H1:=zq h1;have HU:=zq u1;have HN:=zq hn;have bS:=zq h1.ok;have et:=zq (Qj3 u1.ok un);have HZ:=zq h0;clear h1 hn u1 un h0;go_enter func228,ntmps228;go_wp2_with fail;refine(Ws H1 hl).mono ?_;rintro e w1 ⟨d1,rfl,qP,hb1⟩;have uW:=zq qP;have aK:=zq hb1;clear qP hb1;go_wp2_with fail;refine(Ws (HU.o.below aK) ul).mono ?_;rintro e w2 ⟨d2,rfl,yi,hb2⟩;rw[et.o]at yi;have mN:Hid (cA w.heap.size w2 d2 [1]):=Xh yi aK.o.size;have GH:Hid (cA w.heap.size w2 d1 (az (Xn xs))):=Qy uW hb2 (aab _);have aI:=zq (Qv aK hb2);clear yi hb2;go_wp2_with fail;refine(Fa 1 GH mN).mono ?_;rintro e w3 ⟨rfl,hb3⟩
 have HC:Hid ((Yd (az (Xn xs)) 1=0↔n=1)/\ -1<=Yd (az (Xn xs)) 1/\Yd (az (Xn xs)) 1<=1):=by refine⟨?_,B8⟩;rw[Qvq (Vh _) (by rw[Ye,Zr bS.o,HN.o];exact HZ.o),Ye,Zr bS.o,HN.o]
 have aV:=zq (Qv aI hb3);obtain⟨c,hc⟩:=xq (Yd (az (Xn xs)) 1);rw[<-hc]at HC ⊢;clear hb3 hc;go_wp2_with fail;go_ret;exact⟨_,rfl,HC,aV⟩
theorem Eu (na nb:Bool)(hv:eR w v n)(hu:eR w u 1)(h0:n≠0):Calls c9 192 #[.agg #[ce na,v],.agg #[ce nb,u]] w fun e w'=> ∃c:Int,e=da (A G c)/\((c=0↔n=1)/\ -1<=c/\c<=1)/\db w.heap.size w w':=by have HV:=zq hv;have HU:=zq hu;have HZ:=zq h0;obtain⟨ao,L,cap,rfl⟩:=hv.shape;obtain⟨bo,L2,bn,rfl⟩:=hu.shape;have a1:=Qq w (O #[ce na,U ao L cap] 62);have a2:=Qq (w.alloc (O #[ce na,U ao L cap] 62)) (O #[ce nb,U bo L2 bn] 62);have bp:=zq (a1.trans (a2.mono (by simp)));clear hv hu h0 a1 a2;go_enter func192,ntmps192;go_wp2_with fail;refine(Qvw (HV.o.below bp) (HU.o.below bp) HZ).mono ?_;rintro e w1 ⟨c,rfl,hc,hb⟩;have HC:=zq hc;have HB:=zq (bp.o.trans (hb.mono bp.o.size));clear hc hb;go_wp2_with fail;go_ret;exact⟨_,rfl,HC,HB⟩
theorem Qxr (hv:eR w v n)(hu:eR w u 1)(h0:n≠0):Calls c9 146 #[.agg #[ce ca,v],.agg #[ce ca,u]] w fun e w'=> ∃c:Int,e=da (A G c)/\((c=0↔n=1)/\ -1<=c/\c<=1)/\db w.heap.size w w':=by
 have HV:=zq hv;have HU:=zq hu;have HZ:=zq h0;have hs1:=Us h0;have hs2:=Us (n:=1) (by omega);obtain⟨ao,L,cap,rfl⟩:=hv.shape;obtain⟨bo,L2,bn,rfl⟩:=hu.shape;have a1:=Qq w (O #[ce ca,U ao L cap] 62);have a2:=Qq (w.alloc (O #[ce ca,U ao L cap] 62)) (O #[ce ca,U bo L2 bn] 62);have bp:=zq (a1.trans (a2.mono (by simp)));have n1:=(a2.block w.heap.size (by simp)).trans (aap w (O #[ce ca,U ao L cap] 62));have n2:=aap (w.alloc (O #[ce ca,U ao L cap] 62)) (O #[ce ca,U bo L2 bn] 62);rw[aaV]at n2;obtain⟨w0,hw0⟩:=xq ((w.alloc (O #[ce ca,U ao L cap] 62)).alloc (O #[ce ca,U bo L2 bn] 62));obtain⟨g,hg⟩:=xq w.heap.size;obtain⟨c0,c1,-,-⟩:=Qb n1;rw[<-hw0]at bp;rw[<-hw0,<-hg]at n1 n2;have N1:=zq n1;have N2:=zq n2;have kz:=zq hw0;have HG:=zq hg;have l1:=(aah.1 n1).1;have l2:=(aah.1 n2).1;clear hv hu h0 a1 a2 n1 n2 hw0 hg;go_enter func146,ntmps146;go_wp2_with fail;rw[<-kz.o,<-HG.o];refine(Vz ca (HV.o.below bp)).mono ?_;rintro e w1 ⟨rfl,hb1⟩;rw[hs1];have aK:=zq (bp.o.trans (hb1.mono bp.o.size));obtain⟨d0,d1,-,-⟩:=Qb ((hb1.block (g+1) l2).trans N2);have M1:=zq ((hb1.block g l1).trans N1);have M2:=zq ((hb1.block (g+1) l2).trans N2);clear hb1 c0 c1;go_wp2_with fail;refine(Vz ca (HU.o.below aK)).mono ?_;rintro e w2 ⟨rfl,hb2⟩;rw[hs2];have aI:=zq (aK.o.trans (hb2.mono aK.o.size));obtain⟨e0,e1,-,-⟩:=Qb ((hb2.block g (aah.1 M1).1).trans M1);obtain⟨e2,e3,-,-⟩:=Qb ((hb2.block (g+1) (aah.1 M2).1).trans M2);clear hb2 d0 d1 hs1 hs2;go_wp2_with fail;refine(Eu ca ca (HV.o.below aI) (HU.o.below aI) HZ).mono ?_;rintro e w3 ⟨c,rfl,hc,hb3⟩;have HC:=zq hc;have aV:=zq (aI.o.trans (hb3.mono aI.o.size));have W0:IntKind.i64.wrap c=c:=abh _ (by omega)
 have W1:IntKind.i64.wrap (1*c)=c:=by rw[Int.one_mul];exact W0
 clear hc hb3;go_wp2_with fail;go_ret;exact⟨c,rfl,HC,aV⟩
theorem Qy5:Calls c9 147 #[A G 1] w (ZP ca 1 w):=by
 have a1:=Qq w (O #[ce ca,U Z 0 0] 62);have a2:=Qq (w.alloc (O #[ce ca,U Z 0 0] 62)) (O #[A .u64 1] 101);have eG:=a1.trans (a2.mono (by simp));have cT:=zq eG;have eO:=zq ((a2.block w.heap.size (by simp)).trans (aap w (O #[ce ca,U Z 0 0] 62)));have n2:=aap (w.alloc (O #[ce ca,U Z 0 0] 62)) (O #[A .u64 1] 101);rw[aaV]at n2;have hblk:bh ((w.alloc (O #[ce ca,U Z 0 0] 62)).alloc (O #[A .u64 1] 101)) (w.heap.size+1) [1]:=⟨n2,fun x hx=>by rw[aaO.1 hx];unfold BB;omega⟩;have bQ:=hblk.rd (o:=0) (n:=1) (c:=1) (by simp) (aab _) (by unfold maxLen;omega);have XP:eR ((w.alloc (O #[ce ca,U Z 0 0] 62)).alloc (O #[A .u64 1] 101)) (U (F ⟨w.heap.size+1,0,Z⟩) 1 1) 1:=⟨[1],bQ.weak,rfl,by simp⟩;have HL:=zq (Wy ca XP);clear a1 a2 eG n2 hblk bQ XP;go_enter func147,ntmps147;go_wp2_with fail;refine HL.o.mono ?_;rintro e w1 ⟨v1,rfl,hf,hb⟩;have hz1:=hb.size;rw[aaV,aaV]at hz1;have hblk:w1.heap[w.heap.size]?=F (O #[ce ca,U Z 0 0] 62 (0,0)):=(hb.block w.heap.size (by simp;omega)).trans eO;obtain⟨kC,L1,dI,rfl,-⟩:=hf.val;have HF:=zq hf;have HB:=zq hb;have jh:=zq hblk;obtain⟨e0,e1,f0,f1⟩:=Qb hblk;rw[show (ca && decide (0<1))=ca from rfl];clear hf hblk hb;go_wp2_with fail;have s1:=aao w1 w.heap.size 0 _ _ (ce ca) jh;have s2:=aao (w1.setCell ⟨w.heap.size,0,Z⟩ (ce ca)) w.heap.size 1 _ _ (U kC L1 dI) s1;have s3:((w1.setCell ⟨w.heap.size,0,Z⟩ (ce ca)).setCell ⟨w.heap.size,1,Z⟩ (U kC L1 dI)).heap[w.heap.size]?=F (O #[ce ca,U kC L1 dI] 62 (0,0)):=s2.trans (by simp)
 have hlt:w.heap.size<((w.alloc (O #[ce ca,U Z 0 0] 62)).alloc (O #[A .u64 1] 101)).heap.size:=by simp;omega
 refine aaD (abF rfl _ _ w.heap.size 62 _ _ _ rfl s3 underlying62 rfl (by kernel_rfl)) rfl ?_;exact⟨_,rfl,(Va HF hlt _ _).mono (aa1 hlt),Zd (cT.o.trans (HB.o.mono cT.o.size)) (aab _)⟩
end Go.Proofs.YtgfmiladfeoldaaGreatDoor
