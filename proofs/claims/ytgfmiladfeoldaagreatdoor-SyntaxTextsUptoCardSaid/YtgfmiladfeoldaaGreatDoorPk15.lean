import Derived.Test.YtgfmiladfeoldaaGreatDoorPk11
import Derived.Test.YtgfmiladfeoldaaGreatDoorPk13
set_option linter.unusedSimpArgs false
set_option linter.unusedVariables false
set_option maxRecDepth 100000
set_option maxHeartbeats 16000000
open Go.Value renaming slice->U,bool->ca,string->cl,int->A,agg->de
open Go.Obj renaming cells->O
open Bool renaming false->ce,true->dq
open Option renaming none->Z,some->F
open Go.IntKind renaming i64->G
open Go renaming World->co,Value->db,Calls->dl
open Go.Proofs.Tryz renaming prog->c9,ntmps101->dj,func101->dk,underlying71->du,ntmps145->ef,func145->eg
open Go.RowKit renaming Below->da
namespace Go.Proofs.YtgfmiladfeoldaaGreatDoor
open Go.RowKit aw ar
def N8 (op:Int)(t:Bytes)(w:co)(e:Ending)(w':co):Prop:=e=.returned (ca (aj.WV op t))/\da w.heap.size w w'
variable {B fr i k r ra x y:Nat} {P:List (Bool×Nat)} {av u v:db} {c:UInt8} {cs:List (Bool×db)} {sh:Bool} {w:co}
theorem Qbw (t:Bytes):(t.isEmpty)=(t==[]):=by cases t<;>rfl
theorem Ar (op:Int)(hop:op=1\/op=9)(t:Bytes)(kv:db)(w:co)(hc:∀w',da w.heap.size w w'->dl c9 161 #[cl ⟨t.toArray⟩] w' fun e w''=>e=.returned (ca (aj.tB t))/\da w'.heap.size w' w''):dl c9 101 #[de #[A G op,cl ⟨t.toArray⟩,kv]] w (N8 op t w):=by
 have HV:Hid (aj.WV op t=aj.tB t):=by show _=_;unfold aj.WV;rw[if_pos hop]
 obtain⟨T,hT⟩:=xq (⟨t.toArray⟩:ByteArray)
 have iO:Hid (T.data.toList=t):=by show _=_;rw[hT]
 have bp:=zq (Qq w (O #[A G op,cl T,kv] 43));have tO:=zq (aap w (O #[A G op,cl T,kv] 43));have HC:=zq (hc _ bp);rw[<-hT]at HC ⊢;clear hc hT;rcases hop with rfl|rfl
 all_goals
  go_enter dk,dj;go_wp2_with fail;refine HC.o.mono ?_;rintro e w1 ⟨rfl,hb⟩;have HB:=zq (Qv bp hb);clear hb;go_wp2_with fail;go_ret;exact⟨by rw[HV.o];rfl,HB⟩
theorem Qza (op:Int)(hop:op=2\/op=10\/op=11)(t:Bytes)(kv:db)(ht:t.length<=67108864)(hx:Lx w):dl c9 101 #[de #[A G op,cl ⟨t.toArray⟩,kv]] w (N8 op t w):=by
 have HV:Hid (aj.WV op t=aj.jc t):=by show _=_;unfold aj.WV;rw[if_neg (by omega),if_pos hop]
 obtain⟨T,hT⟩:=xq (⟨t.toArray⟩:ByteArray)
 have iO:Hid (T.data.toList=t):=by show _=_;rw[hT]
 have bp:=zq (Qq w (O #[A G op,cl T,kv] 43));have tO:=zq (aap w (O #[A G op,cl T,kv] 43));have HC:=zq (Do t ht (hx.below bp));rw[<-hT]at HC ⊢;clear hx hT ht;rcases hop with rfl|rfl|rfl
 all_goals
  go_enter dk,dj;go_wp2_with fail;refine HC.o.mono ?_;rintro e w1 ⟨rfl,hb⟩;have HB:=zq (Qv bp hb);clear hb;go_wp2_with fail;go_ret;exact⟨by rw[HV.o];rfl,HB⟩
theorem Qv2 (t:Bytes)(kv:db)(ht:t.length<=67108864)(hx:Lx w):dl c9 101 #[de #[A G 12,cl ⟨t.toArray⟩,kv]] w (N8 12 t w):=by
 have HV:Hid (aj.WV 12 t=(aj.jc t && t !=aj.BJ)):=rfl;obtain⟨T,hT⟩:=xq (⟨t.toArray⟩:ByteArray)
 have iO:Hid (T.data.toList=t):=by show _=_;rw[hT]
 have bp:=zq (Qq w (O #[A G 12,cl T,kv] 43));have tO:=zq (aap w (O #[A G 12,cl T,kv] 43));have HC:=zq (Do t ht (hx.below bp));rw[<-hT]at HC ⊢;clear hx hT ht;go_enter dk,dj;go_wp2_with fail;refine HC.o.mono ?_;rintro e w1 ⟨rfl,hb⟩;have HB:=zq (Qv bp hb)
 have d1:w1.cell? ⟨w.heap.size,1,Z⟩=F (cl T):=by rw[aaj _ _ 1 _ _ _ ((hb.block w.heap.size (by simp)).trans tO)];rfl
 clear hb;rcases hn:aj.jc t
 ·have HN:=zq hn
  clear hn;go_wp2_with fail;go_ret;exact⟨by rw[HV.o,HN.o];rfl,HB⟩
 have HN:=zq hn;clear hn;go_wp2_with fail;go_ret;exact⟨by rw[HV.o,HN.o,<-iO.o,<-ByteArray.toList_eq];rfl,HB⟩
theorem N0 (op:Int)(h1:op≠1)(h2:op≠2)(h3:op≠3)(h9:op≠9)(h10:op≠10)(h11:op≠11)(zt:op≠12)(vH:op≠13)(t:Bytes)(kv:db)(w:co):dl c9 101 #[de #[A G op,cl ⟨t.toArray⟩,kv]] w (N8 op t w):=by
 have HV:Hid (aj.WV op t=(t==[])):=by show _=_;unfold aj.WV;rw[if_neg (by omega),if_neg (by omega),if_neg zt,if_neg h3,if_neg vH]
 obtain⟨T,hT⟩:=xq (⟨t.toArray⟩:ByteArray)
 have iO:Hid (T.data.toList=t):=by show _=_;rw[hT]
 have bp:=zq (Qq w (O #[A G op,cl T,kv] 43));have tO:=zq (aap w (O #[A G op,cl T,kv] 43));rw[<-hT];clear hT
 have e1:(op==1)=ce:=by simp[h1]
 have e2:(op==2)=ce:=by simp[h2]
 have e3:(op==3)=ce:=by simp[h3]
 have e9:(op==9)=ce:=by simp[h9]
 have e10:(op==10)=ce:=by simp[h10]
 have e11:(op==11)=ce:=by simp[h11]
 have e12:(op==12)=ce:=by simp[zt]
 have e13:(op==13)=ce:=by simp[vH]
 clear h1 h2 h3 h9 h10 h11 zt vH;go_enter dk,dj;go_wp2_with fail;go_ret;exact⟨by rw[HV.o,<-iO.o,<-Qbw,<-ByteArray.toList_eq];rfl,bp⟩
open aZ
def Th (m:aj.ey):List (Bool×Nat):=if m.at_=[] then [(ce,m.rows),(ce,m.aW)] else m.at_
theorem Qvi {m:aj.ey}(hm:aj.Ky m):aF.ku (aj.fj m).tail [] [] 1 ce=((Th m).map aj.bR,if m.at_=[] then 1 else m.rows,decide (m.at_=[])):=by
 rw[aF.Qdh hm];unfold Th;by_cases h:m.at_=[]
 ·rw[if_pos h,if_pos h,if_pos h,aa7 h];rfl
 rw[if_neg h,if_neg h,if_neg h,aaQ h]
theorem En.low {w':co}{lv:db}{acc:List (Bool×Nat)}{lens:List Nat}(h:En w B av lv cs acc lens)(hb:da w.heap.size w w'):En w' B av lv cs acc lens:=by refine⟨Qy h.fF hb (aab _),Qy h.lL hb (aab _),h.ne,h.len,fun j c p hc hp=> ?_⟩;obtain⟨e1,e2,e3⟩:=h.el j c p hc hp;exact⟨e1,⟨e2.1.below hb,fun q hq=>⟨(e2.2.1 q hq).1,aal (e2.2.1 q hq).2 hb.size⟩,e2.2.2⟩,e3⟩
def SI (B:Nat)(w:co)(v:db)(l:List (Bool×Nat)):Prop:=∀w':co,w.heap.size<=w'.heap.size->(∀q,B<=q->q<w.heap.size->w'.heap[q]?=w.heap[q]?)->mr w' v l
theorem SI.irs {l:List (Bool×Nat)}(h:SI B w v l):mr w v l:=h w (aab _) fun _ _ _=>rfl
theorem En.hi {B':Nat}{lv:db}{acc:List (Bool×Nat)}{lens:List Nat}(h:En w B av lv cs acc lens)(hB:B'<=B):SI B' w av acc:=by
 intro w' I E;have H:∀q,B<=q->q<w.heap.size->w'.heap[q]?=w.heap[q]? :=fun q h1 h2=>E q (aar hB h1) h2
 have h':En w' B av lv cs acc lens:=by refine⟨Zv h.fF (aab _) fun q E=>H q (h.fF.lt q E).1 (h.fF.lt q E).2,Zv h.lL (aab _) fun q E=>H q (h.lL.lt q E).1 (h.lL.lt q E).2,h.ne,h.len,fun j c p hc hp=> ?_⟩;obtain⟨e1,e2,e3⟩:=h.el j c p hc hp;exact⟨e1,e2.blk (aab _) I fun q E=>H q (e2.2.1 q E).1 (e2.2.1 q E).2,e3⟩
 exact h'.irs
structure ze (t:Bytes) (P:List (Bool×Nat)) (w:co) (ra:Nat) (fin:List Bytes×Nat×Bool) (i fr k r:Nat) (sh:Bool) (cs:List (Bool×db)) (av:db) (wr:co):Prop where
 le:i<=t.length
 fl:1<=fr/\fr<=i
 run:aF.ku (t.drop i) ((t.take i).drop fr) ((P.take k).map aj.bR) r sh=fin
 kl:k<=P.length
 kb:P.length<=67108864
 rl:r<=i
 ent:∀c∈(t.take i).drop fr,aF.jA c=dq
 en:En wr (ra+1) av (U Z 0 0) cs (P.take k) []
 blk:wr.heap[ra]?=F (O #[A G ((r:Nat):Int),A G 0,av] 47 (0,0))
 res:wr.heap[w.heap.size]?=F (O #[A G 0,A G 0,U Z 0 0] 47 (0,0))
 fK:da w.heap.size w wr
theorem Qmy {t cur:Bytes}{acc Q:List Bytes}{fin:List Bytes×Nat×Bool}(h:aF.ku t cur acc r sh=fin)(hf:fin.1=Q):acc<+:Q:=by have:=aF.Mu t cur acc r sh;rw[h,hf]at this;exact this
theorem ze.ae8 {t:Bytes}{fin:List Bytes×Nat×Bool}{wr:co}(h:ze t P w ra fin i fr k r sh cs av wr)(hc:t[i]?=F c)(he:aF.jA c=dq):ze t P w ra fin (i+1) fr k r sh cs av wr:=by
 have bi:=(aaf.1 hc).1
 have I:t.drop i=c::t.drop (i+1):=by obtain⟨J,K⟩:=aaf.1 hc;rw[aaL J,K]
 have H:(t.take (i+1)).drop fr=(t.take i).drop fr++[c]:=by rw[aaI,hc];show (t.take i++[c]).drop fr=_;rw[List.drop_append_of_le_length (by rw[aak];have:=h.fl;omega)]
 refine⟨by omega,⟨h.fl.1,by have:=h.fl;omega⟩,?_,h.kl,h.kb,by have:=h.rl;omega,?_,h.en,h.blk,h.res,h.fK⟩
 ·rw[H,<-h.run,I]
  conv=>rhs;unfold aF.ku
  rw[if_pos he]
 intro d E;rw[H]at E;rcases aaP.1 E with E|E
 ·exact h.ent d E
 rw[aaO.1 E];exact he
theorem ze.sep {t:Bytes}{fin:List Bytes×Nat×Bool}{wr:co}(h:ze t P w ra fin i fr k r sh cs av wr)(aq:fin.1=P.map aj.bR)(hc:t[i]?=F c)(he:aF.jA c=ce)
  {cs':List (Bool×db)} {qH:db} {w':co} (hen:En w' (ra+1) qH (U Z 0 0) cs' (P.take (if fr=i then k else k+1)) []) (hb:w'.heap[ra]?=F (O #[A G (((if c=59 then r+1 else r:Nat)):Int),A G 0,qH] 47 (0,0)))
  (hr:w'.heap[w.heap.size]?=F (O #[A G 0,A G 0,U Z 0 0] 47 (0,0))) (hbl:da w.heap.size w w'):
  ze t P w ra fin (i+1) (i+1) (if fr=i then k else k+1) (if c=59 then r+1 else r) (sh||c==58) cs' qH w':=by
 have a5:=(aaf.1 hc).1
 have aE:t.drop i=c::t.drop (i+1):=by obtain⟨h1,h2⟩:=aaf.1 hc;rw[aaL h1,h2]
 have K:(t.take (i+1)).drop (i+1)=[]:=by rw[aaC];rw[aak];omega
 have E:=h.run;rw[aE,aF.R8 he]at E
 have H:((t.take i).drop fr).length=i-fr:=by rw[aan,aak];omega
 have a4:=h.fl
 have I:(if (t.take i).drop fr=[] then (P.take k).map aj.bR else (P.take k).map aj.bR++[(t.take i).drop fr])=(P.take (if fr=i then k else k+1)).map aj.bR/\(if fr=i then k else k+1)<=P.length:=by
  by_cases vZ:fr=i
  ·rw[if_pos vZ,if_pos (aau (by omega))]
   exact⟨rfl,h.kl⟩
  have a0:(t.take i).drop fr≠[]:=fun e=>by rw[e]at H;simp at H;omega
  rw[if_neg a0]at E ⊢;rw[if_neg vZ];have hp:=Qmy E aq;obtain⟨Q,bi⟩:=hp;have J:=aaE List.length bi;simp only[aag,aas,aak,aaR]at J;have a6:=h.kl
  have am:k+1<=P.length:=by omega
  refine⟨?_,am⟩
  have e1:((P.take (k+1)).map aj.bR)=(P.map aj.bR).take (k+1):=by rw[List.map_take]
  rw[e1,<-bi]
  have e2:((P.take k).map aj.bR++[(t.take i).drop fr]).length=k+1:=by simp only[aag,aas,aak,aaR];omega
  rw[<-e2,List.take_left'];rfl
 refine⟨by omega,⟨by omega,aab _⟩,?_,I.2,h.kb,by have:=h.rl;split<;>omega,?_,hen,hb,hr,hbl⟩
 ·rw[K,<-I.1];exact E
 intro d T;rw[K]at T
 cases T
theorem ze.cur {t:Bytes}{fin:List Bytes×Nat×Bool}{wr:co}(h:ze t P w ra fin i fr k r sh cs av wr)(aq:fin.1=P.map aj.bR)(hc:t[i]?=F c)(he:aF.jA c=ce)(vZ:fr≠i):∃p,P[k]?=F p/\(t.take i).drop fr=aj.bR p:=by
 have a0:=(aaf.1 hc).1
 have J:t.drop i=c::t.drop (i+1):=by obtain⟨E,bi⟩:=aaf.1 hc;rw[aaL E,bi]
 have H:=h.run;rw[J,aF.R8 he]at H
 have I:((t.take i).drop fr).length=i-fr:=by rw[aan,aak];omega
 have am:=h.fl
 have K:(t.take i).drop fr≠[]:=fun e=>by rw[e]at I;simp at I;omega
 rw[if_neg K]at H;obtain⟨Q,T⟩:=Qmy H aq
 have aE:((P.take k).map aj.bR).length=k:=by rw[aas,aak];have:=h.kl;omega
 have E:=aaE (fun l:List Bytes=>l[k]?) T;simp only[aaW,List.singleton_append]at E;rw[aaK (by omega),aE,Nat.sub_self,ad1,aa9]at E
 cases hp:P[k]? with
 |none=>rw[hp]at E;cases E
 |some p=>rw[hp]at E;exact⟨p,rfl,aav E⟩
def XcP (na nb:Bool)(x y:Nat)(w:co)(e:Ending)(w':co):Prop:=∃qv,e=.returned (.tuple #[de #[ca ((na !=nb) && decide (0<x / y)),qv],A G 0])/\bI w.heap.size w' qv (x / y)/\da w.heap.size w w'
theorem M6 (na:Bool){nb:Bool}(hv:eR w v x)(hu:eR w u y)(h0:y≠0)(hd:y ∣ x):dl c9 191 #[de #[ca na,v],de #[ca nb,u]] w (XcP na nb x y w):=by
 have HV:=zq hv;have HU:=zq hu;have H0:=zq h0;have HMZ:=zq (Nat.mod_eq_zero_of_dvd hd);obtain⟨ao,L,cap,rfl⟩:=hv.shape;obtain⟨bo,L2,bn,rfl⟩:=hu.shape;clear hv hu h0 hd;obtain⟨w0,hw0,bp,b0,b1,b2,hsz⟩:=Zn w #[ca na,U ao L cap] #[ca nb,U bo L2 bn] #[ca ce,U Z 0 0] 62 62;have fJ:=zq (HV.o.below bp);have jk:=zq (HU.o.below bp);have kz:=zq hw0;obtain⟨g,hg⟩:=xq w.heap.size;rw[<-hg]at b0 b1 b2 hsz;obtain⟨c0,c1,-,-⟩:=Qb b0;obtain⟨c2,c3,-,-⟩:=Qb b1;have LM:=zq b2;have HG:=zq hg;rw[hw0]at c0 c1 c2 c3;rw[hg]at c0 c1 c2 c3;clear hw0 b0 b1 b2 hg;go_enter Tryz.func191,Tryz.ntmps191;go_wp2_with fail;rw[<-kz.o,<-HG.o];refine(Qy7 na nb fJ jk H0).mono ?_;rintro e w1 ⟨qv,rv,rfl,q1,r1,hb1⟩;rw[HMZ.o]at r1 ⊢;obtain⟨fq,JF⟩:=xq (((na !=nb) && decide (0<x / y)));obtain⟨fr,kE⟩:=xq ((na && decide (0<0)));rw[<-JF,<-kE];obtain⟨qo,QL,bK,rfl⟩:=q1.weak.shape;obtain⟨ro,RL,rcap,rfl⟩:=r1.weak.shape;have HFQ:=zq JF;have aK:=zq (bp.o.trans (hb1.mono bp.o.size));have hz1:=hb1.size;have J2:=zq ((hb1.block (g+1+1) hsz).trans LM);have Q1:=zq q1;have R1:=zq r1;have a1:=Qq w1 (O #[ca fq,U qo QL bK] 62);have a2:=Qq (w1.alloc (O #[ca fq,U qo QL bK] 62)) (O #[ca fr,U ro RL rcap] 62);have n1:=(a2.block w1.heap.size (by simp)).trans (aap w1 (O #[ca fq,U qo QL bK] 62));have n2:=aap (w1.alloc (O #[ca fq,U qo QL bK] 62)) (O #[ca fr,U ro RL rcap] 62);rw[aaV]at n2;obtain⟨d2,d3,-,-⟩:=Qb n2;have eG:=a1.trans (a2.mono (by simp));have cT:=zq eG;have xO:=zq n1;clear q1 r1 hb1 JF kE a1 a2 n1 n2 eG c0 c1 c2 c3;go_wp2_with fail;obtain⟨w2,hw2⟩:=xq ((w1.alloc (O #[ca fq,U qo QL bK] 62)).alloc (O #[ca fr,U ro RL rcap] 62));obtain⟨h6,EC⟩:=xq w1.heap.size;rw[<-hw2,<-EC]at cT xO;rw[<-hw2,<-EC];have HH6:=zq EC;have aI:=zq (aK.o.trans ((show da w1.heap.size w1 w2 by rw[<-EC];exact cT.o).mono aK.o.size))
 have hlg:g+1+1<w1.heap.size:=by omega
 have J22:=zq (((show da w1.heap.size w1 w2 by rw[<-EC];exact cT.o).block (g+1+1) hlg).trans J2);have Q2:=zq (Q1.o.keep (show da w1.heap.size w1 w2 by rw[<-EC];exact cT.o));have R2:=zq (R1.o.weak.below (show da w1.heap.size w1 w2 by rw[<-EC];exact cT.o));have EF:h6<w2.heap.size:=(aah.1 xO).1;clear hw2 EC d2 d3;refine(Vz fr R2).mono ?_;rintro e w3 ⟨rfl,hb3⟩
 have hs0:Ym fr 0=0:=by unfold Ym;rw[if_pos rfl]
 rw[hs0];obtain⟨k0,k1,-,-⟩:=Qb ((hb3.block h6 EF).trans xO);have j3:=(hb3.block (g+1+1) (aah.1 J22).1).trans J22;obtain⟨r0,r1,f0,f1⟩:=Qb j3;have J3:=zq j3;have Q3:=zq (Q2.o.keep hb3);have aV:=zq (aI.o.trans (hb3.mono aI.o.size));clear hb3 hs0 j3;go_wp2_with fail;have s1:=aao w3 (g+1+1) 0 _ 62 (ca fq) J3;have s2:=aao _ (g+1+1) 1 _ 62 (U qo QL bK) s1;have s3:((w3.setCell ⟨g+1+1,0,Z⟩ (ca fq)).setCell ⟨g+1+1,1,Z⟩ (U qo QL bK)).heap[g+1+1]?=F (O #[ca fq,U qo QL bK] 62 (0,0)):=s2.trans (by simp);refine aaD (Yc rfl (g+1+1) 62 rfl s3 Tryz.underlying62 rfl (by kernel_rfl)) rfl ?_;exact⟨_,by rw[HFQ.o];rfl,(Va (Q3.o.mono (show g+1+1+1<=_ by omega)) (by omega) _ _).mono (by have:=HG.o;omega),Zd aV (by have:=HG.o;omega)⟩
def Iq (na nb:Bool)(x y:Nat)(w:co)(e:Ending)(w':co):Prop:=
 if y=0 then e=.returned (.tuple #[Qwb,A G 4])/\da w.heap.size w w'
 else ∃v u,e=.returned (.tuple #[de #[ca ((na !=nb) && decide (0<x / Nat.gcd x y)),v,ca ce,u],A G 0])/\bI w.heap.size w' v (x / Nat.gcd x y)/\bI w.heap.size w' u (y / Nat.gcd x y)/\da w.heap.size w w'
theorem Qxz {R:Nat}{n:Nat}(h:bI B w v n)(hR:R<B){a b c d:db}:bI B ((((w.setCell ⟨R,0,Z⟩ a).setCell ⟨R,1,Z⟩ b).setCell ⟨R,2,Z⟩ c).setCell ⟨R,3,Z⟩ d) v n:=bI.set (bI.set (bI.set (bI.set h hR 0 _) hR 1 _) hR 2 _) hR 3 _
theorem Qxe (na nb : Bool)  (hv : eR w v x) (hu : eR w u y) (h0 : y ≠ 0) :dl c9 145 #[de #[ca na, v], de #[ca nb, u]] w (Iq na nb x y w) := by
  have HV := zq hv
  have HU := zq hu
  have H0 := zq h0
  obtain ⟨be, hG⟩ : ∃ be, be = Nat.gcd x y := ⟨_, rfl⟩
  have NF : be ≠ 0 := by rw [hG]; exact Nat.pos_iff_ne_zero.1 (Nat.gcd_pos_of_pos_right _ (abr h0))
  have lT := zq hG
  have LU := zq NF
  have HDX : Hid (be ∣ x) := by show be ∣ x; rw [hG]; exact Nat.gcd_dvd_left _ _
  have HDY : Hid (be ∣ y) := by show be ∣ y; rw [hG]; exact Nat.gcd_dvd_right _ _
  obtain ⟨ao, L, cap, rfl⟩ := hv.shape
  obtain ⟨bo, L2, bn, rfl⟩ := hu.shape
  clear hv hu h0 hG NF
  obtain ⟨w0, hw0, bp, b0, b1, b2, hsz⟩ := Zn w #[ca na, U ao L cap] #[ca nb, U bo L2 bn] #[ca ce, U Z 0 0, ca ce, U Z 0 0] 62 71
  have fJ := zq (HV.o.below bp)
  have jk := zq (HU.o.below bp)
  have kz := zq hw0
  obtain ⟨g, hg⟩ : ∃ g, g = w.heap.size := ⟨_, rfl⟩
  have HG := zq hg
  rw [← hg] at b0 b1 b2 hsz
  have B0 := zq b0
  have B1 := zq b1
  have B2 := zq b2
  obtain ⟨c10, c11, -, -⟩ := Qb b1
  rw [hw0, hg] at c10 c11
  have hz0 := bp.o.size
  clear hw0 b0 b1 b2 hg
  cases nb
  case' false => have HS := zq (Us H0 : Ym ce y = 1)
  case' true => have HS := zq (Qzj H0 : Ym dq y = -1)
  all_goals
    go_enter eg, ef
    go_wp2_with fail
    rw [← kz.o, ← HG.o]
    refine (Vz _ jk).mono ?_
    rintro e w1 ⟨rfl, hb1⟩
    rw [HS.o]
    have aK := zq hb1
    have hz1 := hb1.size
    obtain ⟨d0, d1, -, -⟩ := Qb ((hb1.block g (by omega)).trans B0)
    obtain ⟨d2, d3, -, -⟩ := Qb ((hb1.block (g + 1) (by omega)).trans B1)
    have p8 := zq (fJ.o.below hb1)
    have oz := zq (jk.o.below hb1)
    clear hb1 c10 c11
    go_wp2_with fail
    refine (Qm8 na p8 oz).mono ?_
    rintro e w2 ⟨gv, rfl, q1, hb2⟩
    obtain ⟨qo, QL, bK, rfl⟩ := q1.weak.shape
    rw [← lT.o] at q1
    have Q1 := zq q1
    have aI := zq (aK.o.trans (hb2.mono hz1))
    have hz2 := aI.o.size
    have ub := Qq w2 (O #[ca ce, U qo QL bK] 62)
    have XI := aap w2 (O #[ca ce, U qo QL bK] 62)
    obtain ⟨e0, e1, -, -⟩ := Qb ((aI.o.block g (by omega)).trans B0)
    obtain ⟨e2, e3, -, -⟩ := Qb ((aI.o.block (g + 1) (by omega)).trans B1)
    have k0 := Qx ub e0
    have k1 := Qx ub e1
    have k2 := Qx ub e2
    have k3 := Qx ub e3
    obtain ⟨m0, m1, mf0, mf1⟩ := Qb XI
    clear q1 hb2 d0 d1 d2 d3 e0 e1 e2 e3
    have ic := zq ub
    have ft := zq XI
    clear ub XI
    go_wp2_with fail
    first
      | (obtain ⟨w2b, Lj⟩ : ∃ w2b, w2b = w2.alloc (O #[ca ce, U qo QL bK] 62) := ⟨_, rfl⟩
         obtain ⟨h7, qd⟩ : ∃ h7, h7 = w2.heap.size := ⟨_, rfl⟩
         have PA := zq qd
         rw [← Lj, ← qd] at ic ft
         rw [← Lj]
         try rw [← qd]
         have DJ : da w2.heap.size w2 w2b := by rw [← qd]; exact ic
         have OD := zq (aI.o.trans (DJ.mono hz2))
         have Q2B := zq (Q1.o.keep DJ)
         have agh : h7 < w2b.heap.size := (aah.1 ft).1
         have ag5 := OD.o.size
         clear DJ Lj qd k0 k1 k2 k3 m0 m1 mf0 mf1
         refine (Qfg ce Q2B.o.weak).mono ?_
         rintro e EY ⟨nv, rfl, t1, zC⟩
         rw [show (!false && decide (0 < be)) = dq by rw [aa7 (abr LU)]; rfl]
         obtain ⟨no, NL, bL, rfl⟩ := t1.weak.shape
         have T1 := zq t1
         have N2C := zq ((zC.block h7 agh).trans ft)
         have uA := zq (OD.o.trans (zC.mono ag5))
         obtain ⟨n0, n1, nf0, nf1⟩ := Qb N2C
         have aik : h7 < EY.heap.size := (aah.1 N2C).1
         have aiX := uA.o.size
         have ZB := zq zC.size
         obtain ⟨e0, e1, -, -⟩ := Qb ((uA.o.block g (by omega)).trans B0)
         obtain ⟨e2, e3, -, -⟩ := Qb ((uA.o.block (g + 1) (by omega)).trans B1)
         have hg7 : g ≠ h7 := by have := PA.o; omega
         have hg8 : g + 1 ≠ h7 := by have := PA.o; omega
         have k0 : ((EY.setCell ⟨h7, 0, Z⟩ (ca dq)).setCell ⟨h7, 1, Z⟩ (U no NL bL)).cell? ⟨g, 0, Z⟩ = F (ca na) := (Vg hg7 hg7).trans e0
         have k1 : ((EY.setCell ⟨h7, 0, Z⟩ (ca dq)).setCell ⟨h7, 1, Z⟩ (U no NL bL)).cell? ⟨g, 1, Z⟩ = F (U ao L cap) := (Vg hg7 hg7).trans e1
         clear t1 zC e0 e1 e2 e3
         go_wp2_with fail
         obtain ⟨w3, hw3⟩ : ∃ w3, w3 = (EY.setCell ⟨h7, 0, Z⟩ (ca dq)).setCell ⟨h7, 1, Z⟩ (U no NL bL) := ⟨_, rfl⟩
         have s1 := aao EY h7 0 _ _ (ca dq) N2C
         have s2 := aao (EY.setCell ⟨h7, 0, Z⟩ (ca dq)) h7 1 _ _ (U no NL bL) s1
         have s3 : w3.heap[h7]? = F (O #[ca dq, U no NL bL] 62 (0, 0)) := by rw [hw3]; exact s2.trans (by simp)
         have hwr : Wr h7 Z EY w3 := by rw [hw3]; exact (Wr.aD EY _ _).trans (Mv.refl _ _) (Wr.aD _ _ _)
         have PU := zq s3
         have aV := zq (hwr.aO uA uA.o.size (by have := PA.o; omega) (fun k hk => by cases hk))
         have Q3 : Hid (bI (h7 + 1) w3 (U no NL bL) be) := by
           show bI _ _ _ _
           rw [hw3]
           exact Va (T1.o.mono (by omega)) (by omega) _ _
         have NT : h7 < w3.heap.size := (aah.1 s3).1
         have hz3 := aV.o.size
         rw [← hw3]
         clear ft hw3 s1 s2 s3 hwr k0 k1 n0 n1 nf0 nf1
         have ft := PU
         clear PU
         refine (M6 na (fJ.o.below aV) Q3.o.weak LU HDX).mono ?_)
      | (obtain ⟨w3, hw3⟩ : ∃ w3, w3 = w2.alloc (O #[ca ce, U qo QL bK] 62) := ⟨_, rfl⟩
         obtain ⟨h7, qd⟩ : ∃ h7, h7 = w2.heap.size := ⟨_, rfl⟩
         have PA := zq qd
         rw [← hw3, ← qd] at ic ft
         rw [← hw3]
         try rw [← qd]
         have DJ : da w2.heap.size w2 w3 := by rw [← qd]; exact ic
         have aV := zq (aI.o.trans (DJ.mono hz2))
         have Q3 := zq (Q1.o.keep DJ)
         have NT : h7 < w3.heap.size := (aah.1 ft).1
         have hz3 := aV.o.size
         clear DJ hw3 qd k0 k1 k2 k3 m0 m1 mf0 mf1
         refine (M6 na (fJ.o.below aV) Q3.o.weak LU HDX).mono ?_)
    rintro e w4 ⟨pv, rfl, p1, hb4⟩
    obtain ⟨po, PL, gK, rfl⟩ := p1.weak.shape
    generalize hfn : ((na != _) && decide (0 < x / be)) = fn
    have tK := zq hfn
    have P1 := zq p1
    have cC := zq (aV.o.trans (hb4.mono hz3))
    have yt := cC.o.size
    have x8 := Qq w4 (O #[ca fn, U po PL gK] 62)
    have hn5 := aap w4 (O #[ca fn, U po PL gK] 62)
    have NM := (hb4.block h7 NT).trans ft
    obtain ⟨e0, e1, -, -⟩ := Qb ((cC.o.block (g + 1) (by omega)).trans B1)
    obtain ⟨e2, e3, -, -⟩ := Qb NM
    have k0 := Qx x8 e0
    have k1 := Qx x8 e1
    have k2 := Qx x8 e2
    have k3 := Qx x8 e3
    have ux := zq x8
    have oK := zq hn5
    have Q4 := zq (Q3.o.weak.below hb4)
    have Z4 := zq hb4.size
    clear p1 hfn hb4 x8 hn5 NM e0 e1 e2 e3
    go_wp2_with fail
    obtain ⟨w5, jJ⟩ : ∃ w5, w5 = w4.alloc (O #[ca fn, U po PL gK] 62) := ⟨_, rfl⟩
    obtain ⟨h8, yb⟩ : ∃ h8, h8 = w4.heap.size := ⟨_, rfl⟩
    have PB := zq yb
    rw [← jJ, ← yb] at ux oK
    rw [← jJ]
    try rw [← yb]
    have hA5 : da w4.heap.size w4 w5 := by rw [← yb]; exact ux
    have cS := zq (cC.o.trans (hA5.mono yt))
    have Q5 := zq (Q4.o.below hA5)
    have P5 := zq (P1.o.keep hA5)
    have hl8 : h8 < w5.heap.size := (aah.1 oK).1
    have yu := cS.o.size
    clear hA5 jJ yb k0 k1 k2 k3
    refine (M6 _ (jk.o.below cS) Q5 LU HDY).mono ?_
    rintro e w6 ⟨dv, rfl, s1, eV⟩
    rw [show (∀ c : Bool, ((c != c) && decide (0 < y / be)) = ce) from fun c => by cases c <;> rfl]
    obtain ⟨dd, DL, gU, rfl⟩ := s1.weak.shape
    have S1 := zq s1
    have jg := zq (cS.o.trans (eV.mono yu))
    have AV := jg.o.size
    have P6 := zq (P5.o.keep eV)
    have kh := Qq w6 (O #[ca ce, U dd DL gU] 62)
    have hn7 := aap w6 (O #[ca ce, U dd DL gU] 62)
    have NN := (eV.block h8 hl8).trans oK
    have mZ := (jg.o.block (g + 1 + 1) hsz).trans B2
    obtain ⟨e0, e1, -, -⟩ := Qb NN
    obtain ⟨x0, x1, x2, x3, xf0, xf1, xf2, xf3⟩ := Yo mZ
    have k0 := Qx kh e0
    have k1 := Qx kh e1
    have r0 := Qx kh x0
    have r1 := Qx kh x1
    have r2 := Qx kh x2
    have r3 := Qx kh x3
    have f0 := Qc kh x0 xf0
    have f1 := Qc kh x1 xf1
    have f2 := Qc kh x2 xf2
    have f3 := Qc kh x3 xf3
    have kP := zq kh
    have HJ := zq ((kh.block (g + 1 + 1) (by omega)).trans mZ)
    have Z6 := zq eV.size
    clear s1 eV kh hn7 NN mZ e0 e1 x0 x1 x2 x3 xf0 xf1 xf2 xf3
    go_wp2_with fail
    obtain ⟨w7, xr⟩ : ∃ w7, w7 = w6.alloc (O #[ca ce, U dd DL gU] 62) := ⟨_, rfl⟩
    rw [← xr] at kP HJ
    rw [← xr]
    have uB := zq (jg.o.trans (kP.o.mono AV))
    have P7 := zq (P6.o.keep kP)
    have S7 := zq (S1.o.keep kP)
    refine aaD (Yc rfl (g + 1 + 1) 71 rfl (Sw HJ) du rfl (by kernel_rfl)) rfl ?_
    have hw := No w7 (g + 1 + 1) (ca fn) (U po PL gK) (ca ce) (U dd DL gU)
    have nU := HG.o
    unfold Iq
    rw [if_neg H0.o, ← lT.o]
    exact ⟨_, _, by rw [← tK.o]; rfl, (Qxz (P7.o.mono (show g + 1 + 1 + 1 ≤ _ by omega)) (by omega)).mono (by omega), (Qxz (S7.o.mono (show g + 1 + 1 + 1 ≤ _ by omega)) (by omega)).mono (by omega), hw.aO (bp.o.trans (uB.o.mono hz0)) (bp.o.trans (uB.o.mono hz0)).size (by omega) (fun k hk => by cases hk)⟩
theorem Qx0 (na nb:Bool)(hv:eR w v x)(hu:eR w u y)(h0:y=0):dl c9 145 #[de #[ca na,v],de #[ca nb,u]] w (Iq na nb x y w):=by
 have HU:=zq hu;have H0:=zq h0
 have hs:Ym nb y=0:=by unfold Ym;rw[if_pos h0]
 have HS:=zq hs;obtain⟨ao,L,cap,rfl⟩:=hv.shape;obtain⟨bo,L2,bn,rfl⟩:=hu.shape;clear hv hu h0 hs;obtain⟨w0,hw0,bp,b0,b1,b2,hsz⟩:=Zn w #[ca na,U ao L cap] #[ca nb,U bo L2 bn] #[ca ce,U Z 0 0,ca ce,U Z 0 0] 62 71;have jk:=zq (HU.o.below bp);have kz:=zq hw0;obtain⟨g,hg⟩:=xq w.heap.size;have HG:=zq hg;rw[<-hg]at b0 b1 b2 hsz;have B2:=zq b2;obtain⟨c10,c11,-,-⟩:=Qb b1;rw[hw0,hg]at c10 c11;clear hw0 b0 b1 b2 hg;go_enter eg,ef;go_wp2_with fail;rw[<-kz.o,<-HG.o];refine(Vz nb jk).mono ?_;rintro e w1 ⟨rfl,hb1⟩;rw[HS.o];have aK:=zq (bp.o.trans (hb1.mono bp.o.size));have j2:=(hb1.block (g+1+1) hsz).trans B2;have J2:=zq j2;obtain⟨r0,r1,r2,r3,f0,f1,f2,f3⟩:=Yo j2;clear hb1 j2 c10 c11;go_wp2_with fail;refine aaD (Yc rfl (g+1+1) 71 rfl (Sw J2) du rfl (by kernel_rfl)) rfl ?_;unfold Iq;rw[if_pos H0.o];exact⟨rfl,(No _ _ _ _ _ _).aO aK aK.o.size (by have:=HG.o;omega) (fun k hk=>by cases hk)⟩
theorem Qxa (na nb:Bool)(hv:eR w v x)(hu:eR w u y):dl c9 145 #[de #[ca na,v],de #[ca nb,u]] w (Iq na nb x y w):=by
 by_cases h0:y=0
 ·exact Qx0 na nb hv hu h0
 exact Qxe na nb hv hu h0
end Go.Proofs.YtgfmiladfeoldaaGreatDoor
