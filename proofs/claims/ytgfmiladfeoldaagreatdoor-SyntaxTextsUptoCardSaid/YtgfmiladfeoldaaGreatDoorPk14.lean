import Derived.Test.YtgfmiladfeoldaaGreatDoorPk12
import Derived.Test.YtgfmiladfeoldaaGreatDoorPk11
set_option linter.unusedSimpArgs false
set_option linter.unusedVariables false
set_option maxRecDepth 100000
set_option maxHeartbeats 16000000
open Go.Proofs.Tryz
open Option renaming some->F,none->Z
open Go.Value renaming pointer->ca,int->A,slice->U,string->ce,bool->db,tuple->dk
open Go.Obj renaming cells->O
open Go.IntKind renaming i64->G
open Go.Proofs.Tryz renaming prog->cl,ntmps163->de,func163->dl,ntmps51->dq,func51->ef,ntmps52->eg,func52->ex,func164->eS,underlying145->fa,ntmps133->fb,func133->ff,ntmps85->fi
open Go renaming Value->co,World->c9,Calls->dj
open Go.RowKit renaming Below->da
open Bool renaming false->du
namespace Go.Proofs.YtgfmiladfeoldaaGreatDoor
open Go.RowKit aw ar
variable {B be R d i k m n p:Nat} {bv kv nv sv tv v vv:co} {ks:List Int} {og:Option Nat} {vs:List Nat} {w w' w0:c9}
theorem Qyv (op side part:Nat)(w:c9):dj cl 163 #[A G op,A G side,A G part] w fun e w'=>e=.returned (db (aj.Q6 op side part))/\w=w':=by
 have s1:(((side:Nat):Int)==1)=(side==1):=by rw[abj];simp;omega
 have p4:(((part:Nat):Int)==4)=(part==4):=by rw[abj];simp;omega
 have p9:(((part:Nat):Int)==9)=(part==9):=by rw[abj];simp;omega
 obtain⟨S,hS⟩:=xq (aj.Kn part);obtain⟨Q,hQ⟩:=xq (aj.Ri part);have HS:=zq hS;have HQ:=zq hQ;clear hS hQ;by_cases h67:op=6\/op=7
 ·have HV:Hid (aj.Q6 op side part=(side==1 && S)):=by
   show _=_;unfold aj.Q6;rw[HS.o]
   rcases h67 with rfl|rfl<;>rfl
  cases hs:(side==1)<;>rw[hs]at s1<;>rcases h67 with rfl|rfl
  all_goals
   have kY:=HV;rw[hs]at kY;clear HV hs;go_enter dl,de;go_wp2_with fail
   try (refine(Sp part).mono ?_;rintro e w1 ⟨rfl,rfl⟩;rw[<-HS.o];go_wp2_with fail)
   go_ret;exact⟨by rw[kY.o];rfl,rfl⟩
 obtain⟨h6,h7⟩:=not_or.1 h67
 have d6:(((op:Nat):Int)==6)=du:=by simp;omega
 have d7:(((op:Nat):Int)==7)=du:=by simp;omega
 by_cases h8:op=8
 ·subst h8
  have HV:Hid (aj.Q6 8 side part=(S||(side==1 && Q))):=by show _=_;unfold aj.Q6;rw[HS.o,HQ.o];rfl
  cases S
  ·cases hs:(side==1)<;>rw[hs]at s1
   all_goals
    have kY:=HV;rw[hs]at kY;clear HV hs;go_enter dl,de;go_wp2_with fail;refine(Sp part).mono ?_;rintro e w1 ⟨rfl,rfl⟩;rw[<-HS.o];go_wp2_with fail
    try (refine(Tv part).mono ?_;rintro e w1 ⟨rfl,rfl⟩;rw[<-HQ.o];go_wp2_with fail)
    go_ret;exact⟨by rw[kY.o];rfl,rfl⟩
  go_enter dl,de;go_wp2_with fail;refine(Sp part).mono ?_;rintro e w1 ⟨rfl,rfl⟩;rw[<-HS.o];go_wp2_with fail;go_ret;exact⟨by rw[HV.o];rfl,rfl⟩
 have d8:(((op:Nat):Int)==8)=du:=by simp;omega
 by_cases h4:op=4
 ·subst h4
  have HV:Hid (aj.Q6 4 side part=Q):=by show _=_;unfold aj.Q6;rw[HQ.o];rfl
  go_enter dl,de;go_wp2_with fail;refine(Tv part).mono ?_;rintro e w1 ⟨rfl,rfl⟩;rw[<-HQ.o];go_wp2_with fail;go_ret;exact⟨by rw[HV.o];rfl,rfl⟩
 have d4:(((op:Nat):Int)==4)=du:=by simp;omega
 by_cases mS:op=9\/op=5
 ·have HV:Hid (aj.Q6 op side part=(Q||part==4||part==9)):=by
   show _=_;unfold aj.Q6;rw[HQ.o]
   rcases mS with rfl|rfl<;>rfl
  cases Q<;>cases hp:(part==4)<;>rw[hp]at p4<;>rcases mS with rfl|rfl
  all_goals
   have kY:=HV;rw[hp]at kY;clear HV hp;go_enter dl,de;go_wp2_with fail;refine(Tv part).mono ?_;rintro e w1 ⟨rfl,rfl⟩;rw[<-HQ.o];go_wp2_with fail;go_ret;exact⟨by rw[kY.o];first|rfl|(rw[p9];rfl),rfl⟩
 obtain⟨h9,h5⟩:=not_or.1 mS
 have d9:(((op:Nat):Int)==9)=du:=by simp;omega
 have d5:(((op:Nat):Int)==5)=du:=by simp;omega
 have HV:Hid (aj.Q6 op side part=du):=by show _=_;unfold aj.Q6;simp[h6,h7,h8,h4,h9,h5]
 clear h67 mS;go_enter dl,de;go_wp2_with fail;go_ret;exact⟨by rw[HV.o];rfl,rfl⟩
theorem Dk (al:FuncId)(hf:∀args w,(callFunc al args).run cl w=.ok (.enter al args) w)(R:Nat)(tv bv:co)(out:Bytes)(o m:Nat)(w:c9)(h:fx w R tv bv out o m)(hl:out.length<=549755813888)(ho:o<=100000)(a b:co)(X:Bytes)(hX:X.length<=274877906944)(d:Nat)(hd:d<=100000)
  (HF:∀SU w2,fx w2 R tv SU (out++[40]) (o+1) (max m (o+1))->Wr R bv.ownBlock w w2->Mv w bv.ownBlock SU.ownBlock->dj cl al #[a,b] w2 (sL R tv SU (out++[40]++X) (o+1) (max (max m (o+1)) (o+1+d)) (dk #[]) w2)):
  dj cl 106 #[ca (F ⟨R,0,Z⟩),.func (.func al) #[] #[a,b]] w (sL R tv bv (out++([40]++X++[41])) o (max m (o+(d+1))) (dk #[]) w):=by
 have HS:=zq h;have HFF:=zq HF;obtain⟨OUT,bP⟩:=xq (out++([40]++X++[41]));obtain⟨M,hM⟩:=xq (max m (o+(d+1)));rw[<-bP,<-hM];have gi:=zq bP;have HM:=zq hM;clear bP hM;obtain⟨-,c3,c4⟩:=h.cells;have f3:=h.iH 3;obtain⟨o1,qP⟩:=xq (o+1)
 have hw:((o:Nat):Int)+1=((o1:Nat):Int):=by omega
 have hb1:∃av,(av=ca Z\/av=ca (F ⟨R,1,Z⟩))/\(w.setCell ⟨R,3,Z⟩ (A G o1)).heap[R]?=F (O #[tv,av,bv,A G o1,A G m] 92 (0,0)):=by obtain⟨av,ha,hb⟩:=h.blk;exact⟨av,ha,(aao w R 3 _ 92 (A G o1) hb).trans (by simp)⟩
 have aK:=zq hb1;obtain⟨w1,bA⟩:∃w1,w1=w.setCell ⟨R,3,Z⟩ (A G o1):=⟨_,rfl⟩;rw[<-bA]at aK
 have jl:Hid (Wr R Z w w1):=by show Wr R Z w w1;rw[bA];exact Wr.aD w 3 _
 have uW:Hid (w1.ownsRow (R+1) 5 1 bv out.length (js out)):=by show _;rw[bA];exact ab8 h.own (by simp) _
 have d3:w1.cell? ⟨R,3,Z⟩=F (A G o1):=by obtain⟨av,-,hb⟩:=aK.o;rw[aaj w1 R _ _ _ _ hb];rfl
 have d4:w1.cell? ⟨R,4,Z⟩=F (A G m):=by obtain⟨av,-,hb⟩:=aK.o;rw[aaj w1 R _ _ _ _ hb];rfl
 have e4:w1.frozen? ⟨R,4,Z⟩=du:=by obtain⟨av,-,hb⟩:=aK.o;exact aax w1 R 4 _ _ hb
 obtain⟨m1,cD⟩:=xq (max m o1)
 have hmx:max ((m:Nat):Int) ((o1:Nat):Int)=((m1:Nat):Int):=by omega
 have ahQ:=zq bA;have PH:=zq h.le;have CV:=zq (fx.aho (m':=m1) aK.o uW.o (by omega));have MA:=zq qP;have HME:=zq cD;clear h HF hb1 qP cD;go_enter func106,ntmps106;go_wp2_with fail;rw[<-bA];clear bA;go_region;go_wp2_with fail;obtain⟨w2,hw2⟩:∃w2,w2=(w1.setCell ⟨R,4,Z⟩ (A G m1)).drew:=⟨_,rfl⟩;rw[<-hw2]
 have kj:da (w1.setCell ⟨R,4,Z⟩ (A G m1)).heap.size (w1.setCell ⟨R,4,Z⟩ (A G m1)) w2:=by rw[hw2];exact Below.drew (aaw _ _)
 have aI:=zq (CV.o.1.below kj);have eE:Hid (Wr R Z w w2):=(jl.o.trans (Mv.refl _ _) CV.o.2).trans (Mv.refl _ _) (Wr.au kj);clear hw2 kj d3 d4 e4 c3 c4 f3;refine(Tt 40 aI (by omega)).mono ?_;rintro e w3 ⟨rfl,xZ,k1,k2,k3⟩;rw[HME.o,MA.o]at k1;have K1:=zq k1;have K2:Hid (Wr R bv.ownBlock w w3):=(eE.o.weak _).trans (Mv.refl _ _) k2;have K3:Hid (Mv w bv.ownBlock xZ.ownBlock):=Mv.trans (w':=w2) (Mv.refl _ _) eE.o.size k3;clear k1 k2 k3;go_wp2_with fail;refine(HFF.o xZ w3 K1 K2 K3).mono ?_;rintro e w4 ⟨rfl,zh,l1,l2,l3⟩;have L1:=zq l1;have L2:Hid (Wr R bv.ownBlock w w4):=K2.o.trans K3 l2;have L3:Hid (Mv w bv.ownBlock zh.ownBlock):=Mv.trans (w':=w3) K3 K2.o.size l3;clear l1 l2 l3;go_wp2_with fail;refine(Tt 41 L1 (by simp only[aag,aaR];omega)).mono ?_;rintro e w5 ⟨rfl,vD,q1,q2,q3⟩;rw[<-MA.o]at q1;have g3:=q1.cells.2.1;have gf:=q1.iH 3
 have jJ:((o1:Nat):Int)-1=((o:Nat):Int):=by have:=MA.o;omega
 have Q2:Hid (Wr R bv.ownBlock w w5):=L2.o.trans L3 q2;have Q3:Hid (Mv w bv.ownBlock vD.ownBlock):=Mv.trans (w':=w4) L3 L2.o.size q3;have Q1:=zq (q1.ahq (o':=o) (by have:=MA.o;omega))
 have aiD:o1<=100001:=by have:=MA.o;omega
 clear q1 q2 q3;go_wp2_with fail
 first|go_end0|refine aaD (ab5 rfl _ _ _) rfl ?_
 have e1:out++[40]++X++[41]=OUT:=by rw[gi.o];simp
 have e2:max (max m o1) (o1+d)=M:=by rw[HM.o,MA.o];omega
 have q5:=Q1.o.1;rw[e1,e2]at q5;exact⟨rfl,vD,q5,Q2.o.trans Q3 (Q1.o.2.weak _),Mv.trans (w':=w5) Q3 Q2.o.size (Mv.refl _ _)⟩
theorem Qz8:type_of% (Dk 164 (enters_of eS (by kernel_rfl) rfl)):=Dk 164 (enters_of eS (by kernel_rfl) rfl)
def KL (w:c9)(B:Nat)(v:co)(ks:List Int):Prop:=∃ao cap,v=U ao ks.length cap/\ks.length<=cap/\cap<=maxLen/\(0<ks.length-> ∃g,ao=F ⟨g,0,Z⟩/\g<B/\ ∀j k,ks[j]?=F k->w.cell? ⟨g,j,Z⟩=F (A G k))
def kB (w:c9)(B:Nat)(v:co)(l:List aj.NI):Prop:=∃ao cap,v=U ao l.length cap/\l.length<=cap/\cap<=maxLen/\(0<l.length-> ∃g,ao=F ⟨g,0,Z⟩/\g<B/\ ∀j x,l[j]?=F x->w.cell? ⟨g,j*3,Z⟩=F (A G x.op)/\w.cell? ⟨g,j*3+1,Z⟩=F (ce ⟨x.text.toArray⟩)/\ ∃kv,w.cell? ⟨g,j*3+2,Z⟩=F kv/\KL w B kv x.kids)
theorem KL.below (h:KL w B v ks)(hb:da B w w'):KL w' B v ks:=by obtain⟨ao,E,rfl,I,J,K⟩:=h;refine⟨ao,E,rfl,I,J,fun h0=> ?_⟩;obtain⟨g,rfl,H,bi⟩:=K h0;exact⟨g,rfl,H,fun j k hj=>(hb.cell (p:=⟨g,j,Z⟩) H).trans (bi j k hj)⟩
theorem kB.below {l:List aj.NI}(h:kB w B v l)(hb:da B w w'):kB w' B v l:=by obtain⟨ao,H,rfl,I,J,K⟩:=h;refine⟨ao,H,rfl,I,J,fun h0=> ?_⟩;obtain⟨g,rfl,E,bi⟩:=K h0;refine⟨g,rfl,E,fun j x hj=> ?_⟩;obtain⟨a,b,kv,c,d⟩:=bi j x hj;exact⟨(hb.cell (p:=⟨g,j*3,Z⟩) E).trans a,(hb.cell (p:=⟨g,j*3+1,Z⟩) E).trans b,kv,(hb.cell (p:=⟨g,j*3+2,Z⟩) E).trans c,d.below hb⟩
theorem Wr.jy (h:Wr R og w w')(hR:R<=w.heap.size)(ho:∀q,og=F q->R<q):da R w w':=
 ⟨h.os,h.tape,h.output,h.size,fun k hk=>h.block k (by omega) (by omega) (fun e=>by have:=ho k e.symm;omega)⟩
def J0 (e:aj.Ex):Prop:=∀(l:List aj.NI) (R p:Nat) (tv bv:co) (out:Bytes) (o m:Nat) (w:c9),fx w R tv bv out o m->kB w R tv l->aj.eh l p (e.flat p)->out.length+e.pr.length<=274877906944->o+2*e.size<=100000->p+e.size<=100000->dj cl 51 #[ca (F ⟨R,0,Z⟩),A G ((p+e.size-1:Nat):Int)] w (sL R tv bv (out++e.pr) o (max m (o+e.dp)) (dk #[]) w)
theorem Qdo:∀(e:aj.Ex) (p:Nat) (l:List aj.NI),aj.eh l p (e.flat p)-> ∃x,l[p+e.size-1]?=F x/\x.op=(e.op:Nat):=by
 intro e p l h;have J:=aj.Jl e p;have I:=aj.Vk e
 obtain⟨n,H,E⟩:∃n,(e.flat p)[e.size-1]?=F n/\n.op=e.op:=by
  cases e<;>simp[aj.Ex.flat,aj.Ex.size,aj.Jl,aj.Pt,aj.Ex.op,<-abz,aaK,aaH]
 have:=h _ _ H;refine⟨_,by rw[<-Nat.add_sub_assoc I]at this;exact this,?_⟩;show ((n.op:Nat):Int)=_;rw[E]
theorem Qmr {e:aj.Ex}(IH:J0 e){l:List aj.NI}{out:Bytes}{o:Nat}(h:fx w R tv bv out o m)(ht:kB w R tv l)(hs:aj.eh l p (e.flat p))(hl:out.length+e.pr.length<=274877906944)(ho:o+2*e.size<=100000)(hp:p+e.size<=100000)
  {a b:Addr} (K:Nat) (hK:K=p+e.size-1) (c0:w.cell? a=F (ca (F ⟨R,0,Z⟩))) (c1:w.cell? b=F (A G K)):
  dj cl 164 #[ca (F a),ca (F b)] w (sL R tv bv (out++e.pr) o (max m (o+e.dp)) (dk #[]) w):=by
 have HC:=zq (IH l R p tv bv out o m w h ht hs hl ho hp);rw[<-hK]at HC;obtain⟨OUT,bP⟩:=xq (out++e.pr);obtain⟨M,hM⟩:=xq (max m (o+e.dp));rw[<-bP,<-hM]at HC ⊢;clear h ht hs hl ho hp hK bP hM;go_enter eS,ntmps164;go_wp2_with fail;refine HC.o.mono ?_;rintro e w1 ⟨rfl,H⟩;have HH:=zq H;clear H;go_wp2_with fail
 first|go_end0|refine aaD (ab5 rfl _ _ _) rfl ?_
 exact⟨rfl,HH⟩
theorem Ng (op side:Nat){e:aj.Ex}(IH:J0 e){l:List aj.NI}{out:Bytes}{o:Nat}(h:fx w R tv bv out o m)(ht:kB w R tv l)(hs:aj.eh l p (e.flat p))(hl:out.length+(aj.par (aj.Q6 op side e.op) e.pr).length<=274877906944)(ho:o+2*e.size+1<=100000)(hp:p+e.size<=100000)
  (text:ByteArray)  (hk:KL w R kv ks) (KW:ks[side]?=F ((p+e.size-1:Nat):Int)):
  dj cl 103 #[ca (F ⟨R,0,Z⟩),.agg #[A G op,ce text,kv],A G side] w (sL R tv bv (out++aj.par (aj.Q6 op side e.op) e.pr) o (max m (o+aj.dM (aj.Q6 op side e.op) e.dp)) (dk #[]) w):=by
 obtain⟨K,hK⟩:=xq (p+e.size-1);rw[<-hK]at KW;have br:=h.lt;have eW:=(aaf.1 KW).1;obtain⟨ko,aT,rfl,k1,k2,k3⟩:=hk;obtain⟨kg,rfl,k4,k5⟩:=k3 (by omega);obtain⟨n,hn⟩:=xq ks.length;rw[<-hn]at eW k1 ⊢;obtain⟨x,hx,hxo⟩:=Qdo e p l hs;rw[<-hK]at hx;obtain⟨ta,gN,rfl,t1,t2,t3⟩:=ht;have IL:=(aaf.1 hx).1;obtain⟨tg,rfl,t4,t5⟩:=t3 (by omega);obtain⟨t6,-,-⟩:=t5 K x hx;rw[hxo]at t6;obtain⟨ln,iW⟩:=xq l.length;rw[<-iW]at IL t1 h ⊢;have hb2:da w.heap.size w ((w.alloc (O #[ca (F ⟨R,0,Z⟩)] 86)).alloc (O #[A G op,ce text,U (F ⟨kg,0,Z⟩) n aT] 43)):=Qv (Qq _ _) (Qq _ _);have ck:((w.alloc (O #[ca (F ⟨R,0,Z⟩)] 86)).alloc (O #[A G op,ce text,U (F ⟨kg,0,Z⟩) n aT] 43)).cell? ⟨kg,side,Z⟩=F (A G K):=(hb2.cell (p:=⟨kg,side,Z⟩) (by show kg<_;omega)).trans (k5 side _ KW);have HN:=zq hn;have PN:=zq iW;have uT:=zq hK;clear hn iW hK hb2;go_enter func103,ntmps103;go_wp2_with fail;obtain⟨w3,hw3⟩:∃w3,w3=((w.alloc (O #[ca (F ⟨R,0,Z⟩)] 86)).alloc (O #[A G op,ce text,U (F ⟨kg,0,Z⟩) n aT] 43)).alloc (O #[A G K] 3):=⟨_,rfl⟩;rw[<-hw3]
 have hb3:da w.heap.size w w3:=by rw[hw3];exact Qv (Qv (Qq _ _) (Qq _ _)) (Qq _ _)
 have La:w3.heap.size=w.heap.size+3:=by rw[hw3];simp
 have h0:w3.heap[w.heap.size]?=F (O #[ca (F ⟨R,0,Z⟩)] 86 (0,0)):=by rw[hw3];exact((Qq _ _).block _ (by simp;omega)).trans (((Qq _ _).block _ (by simp)).trans (aap w _))
 have h1:w3.heap[w.heap.size+1]?=F (O #[A G op,ce text,U (F ⟨kg,0,Z⟩) n aT] 43 (0,0)):=by rw[hw3];have:=aap (w.alloc (O #[ca (F ⟨R,0,Z⟩)] 86)) (O #[A G op,ce text,U (F ⟨kg,0,Z⟩) n aT] 43);rw[show (w.alloc (O #[ca (F ⟨R,0,Z⟩)] 86)).heap.size=w.heap.size+1 by simp]at this;exact((Qq _ _).block _ (by simp)).trans this
 have h2:w3.heap[w.heap.size+2]?=F (O #[A G K] 3 (0,0)):=by rw[hw3];have:=aap ((w.alloc (O #[ca (F ⟨R,0,Z⟩)] 86)).alloc (O #[A G op,ce text,U (F ⟨kg,0,Z⟩) n aT] 43)) (O #[A G K] 3);rw[show ((w.alloc (O #[ca (F ⟨R,0,Z⟩)] 86)).alloc (O #[A G op,ce text,U (F ⟨kg,0,Z⟩) n aT] 43)).heap.size=w.heap.size+2 by simp]at this;exact this
 have ie:=zq (h.below hb3)
 have gY:Hid (kB w3 R (U (F ⟨tg,0,Z⟩) ln gN) l):=by rw[PN.o]at t1 ⊢;exact kB.below ⟨_,gN,rfl,t1,t2,t3⟩ (hb3.mono (by omega))
 have q0:w3.cell? ⟨w.heap.size,0,Z⟩=F (ca (F ⟨R,0,Z⟩)):=by rw[aaj _ _ 0 _ _ _ h0];rfl
 have q1:w3.cell? ⟨w.heap.size+1,0,Z⟩=F (A G op):=by rw[aaj _ _ 0 _ _ _ h1];rfl
 have q2:w3.cell? ⟨w.heap.size+2,0,Z⟩=F (A G K):=by rw[aaj _ _ 0 _ _ _ h2];rfl
 have q3:=ie.o.cells.1;have q4:w3.cell? ⟨tg,K*3,Z⟩=F (A G (e.op:Nat)):=(hb3.cell (p:=⟨tg,K*3,Z⟩) (by show tg<_;omega)).trans t6;have aV:=zq hb3;have sw:Hid (∀q,bv.ownBlock=F q->q<w.heap.size):=fun q hq=>(h.own.lt q hq).2;obtain⟨be,hG⟩:=xq w.heap.size;rw[<-hG]at q0 q1 q2 sw La br ⊢;have yL:=zq hG;have ew:=zq hs;clear hw3 h0 h1 h2 hb3 h hG hs ck KW t3 t5 t6 hx;have ug:∀(fn:Fn) (first cap:Array co) (w:c9),(Instr.makeFunc fn first cap).run cl w=.ok (.func fn first cap) w:=fun _ _ _ _=>rfl;have ry:∀v,dj cl 163 #[A G op,A G side,A G (e.op:Nat)] v fun y v'=>y=.returned (db (aj.Q6 op side e.op))/\v'=v:=fun v=>(Qyv op side e.op v).mono fun _ _ h=>⟨h.1,h.2.symm⟩;go_quiet ((go_at_call 163;exact Calls.quiet_of_same (ry _)));obtain⟨w4,hw4⟩:=xq (w3.drewN nq);rw[<-hw4]
 have hb4:da w3.heap.size w3 w4:=by rw[hw4];exact below_drewN _ _
 have qA:=zq (ie.o.below hb4);have hRw:R<w3.heap.size:=ie.o.lt;have PZ:=zq (gY.o.below (hb4.mono (aa1 hRw)));have r0:w4.cell? ⟨be,0,Z⟩=F (ca (F ⟨R,0,Z⟩)):=(hb4.cell (p:=⟨be,0,Z⟩) (by show be<_;omega)).trans q0;have r2:w4.cell? ⟨be+1+1,0,Z⟩=F (A G K):=(hb4.cell (p:=⟨be+1+1,0,Z⟩) (by show be+1+1<_;omega)).trans q2;have hG4:be+3<=w4.heap.size:=aar (by omega) hb4.size;have cC:Hid (da w.heap.size w w4):=Qv aV hb4;have p6:=zq r0;have dW:=zq r2;obtain⟨OUT,bP⟩:=xq (out++aj.par (aj.Q6 op side e.op) e.pr);obtain⟨M,hM⟩:=xq (max m (o+aj.dM (aj.Q6 op side e.op) e.dp));have gi:=zq bP;have ct:=zq hM;rw[<-bP,<-hM];clear q0 q1 q2 q3 q4 hw4 hb4 ry
 cases hB:aj.Q6 op side e.op
 case' false=>rw[hB]at bP hM hl;have nj:out.length+e.pr.length<=274877906944:=hl;have e1:OUT=out++e.pr:=bP;have e2:M=max m (o+e.dp):=hM;have HC:=zq (IH l R p _ bv out o m w4 qA PZ ew nj (by omega) hp);rw[<-uT.o,<-e1,<-e2]at HC
 case' true=>
  rw[hB]at bP hM hl;have nj:out.length+(([40]:Bytes)++e.pr++[41]).length<=274877906944:=hl;simp only[aag,aaq,aa5]at nj;have e1:OUT=out++([40]++e.pr++[41]):=bP;have e2:M=max m (o+(e.dp+1)):=hM;have hdp:=aj.T6 e
  have HC:=zq (Qz8 R _ bv out o m w4 qA (by omega) (by omega) (ca (F ⟨be,0,Z⟩)) (ca (F ⟨be+1+1,0,Z⟩)) e.pr (by omega) e.dp (by omega) (fun SU w5 b1 b2 b3=>by
   have hG0:w5.cell? ⟨be,0,Z⟩=F (ca (F ⟨R,0,Z⟩)):=(abe (b2.block be (by omega) (by omega) (fun e=>by have:=sw.o be e.symm;omega))).trans p6;have hG2:w5.cell? ⟨be+1+1,0,Z⟩=F (A G K):=(abe (b2.block (be+1+1) (by omega) (by omega) (fun e=>by have:=sw.o _ e.symm;omega))).trans dW
   exact Qmr IH b1 (PZ.o.below (b2.jy (by omega) (fun q hq=>qA.o.gt q hq))) ew (by rw[aag,aaR];omega) (by omega) hp K uT hG0 hG2))
  rw[<-e1,<-e2]at HC
 all_goals
  clear bP hM e1 e2 hB;go_wp2_with fail;refine HC.o.mono ?_;rintro y w5 ⟨rfl,vD,a1,a2,a3⟩;have A1:=zq a1;have A2:Hid (Wr R bv.ownBlock w w5):=(Wr.au cC).trans (Mv.refl _ _) a2;have A3:Hid (Mv w bv.ownBlock vD.ownBlock):=Mv.trans (w':=w4) (Mv.refl _ _) cC.o.size a3;clear a1 a2 a3;go_wp2_with fail
  first|go_end0|refine aaD (ab5 rfl _ _ _) rfl ?_
  have A5:=A1.o;rw[gi.o,ct.o]at A5;exact⟨rfl,vD,A5,A2,A3⟩
def Uv (l:List Nat):List Int:=l.map fun k:Nat=>(k:Int)
def Qz0 (R:Nat)(tv bv:co)(out:Bytes)(o m:Nat)(es:List aj.Ex)(w:c9)(i:co)(wr:c9):Prop:=
 ∃k bv',i=A G ((k:Nat):Int)/\k<=es.length/\fx wr R tv bv' (out++aj.Vt es k) o (max m (o+aj.rE es k))/\Wr R bv.ownBlock w wr/\Mv w bv.ownBlock bv'.ownBlock
theorem Qf2:∀(ks:aj.cP) (i:Nat),i<=(aj.cL ks).length->(aj.Vt (aj.cL ks) i).length<=ks.pr.length:=by
 intro ks i h;rw[<-aj.Cc ks]
 have:∀d,i+d<=(aj.cL ks).length->(aj.Vt (aj.cL ks) i).length<=(aj.Vt (aj.cL ks) (i+d)).length:=by
  intro d
  induction d with
  |zero=>intro _;exact aab _
  |succ d ih=>intro I;have H:=ih (by omega);have E:(aj.cL ks)[i+d]?=F (aj.cL ks)[i+d]:=aad (by omega);rw[show i+(d+1)=(i+d)+1 by omega,aj.Tb E,aag];omega
 have:=this ((aj.cL ks).length-i) (by omega)
 rwa [show i+((aj.cL ks).length-i)=(aj.cL ks).length by omega]at this
theorem Qc1 (ks:aj.cP)(IH:∀e∈aj.cL ks,J0 e){l:List aj.NI}{out:Bytes}{o:Nat}(h:fx w R tv bv out o m)(ht:kB w R tv l)(hs:aj.eh l p (ks.flat p))(hl:out.length+ks.pr.length<=274877906944)(ho:o+2*ks.size+1<=100000)(hp:p+ks.size<=100000)
  (op:Nat) (hop:op=10\/op=12) (text:ByteArray) (hk:KL w R kv (Uv (ks.roots p))):
  dj cl 108 #[ca (F ⟨R,0,Z⟩),.agg #[A G op,ce text,kv]] w (sL R tv bv (out++ks.pr) o (max m (o+ks.dp)) (dk #[]) w):=by
 have wI:∀s q,aj.Q6 op s q=du:=by intro s q;rcases hop with rfl|rfl<;>rfl
 have hKL:=hk;obtain⟨ko,aT,rfl,k1,k2,-⟩:=hk
 have hn:(Uv (ks.roots p)).length=(aj.cL ks).length:=by rw[Uv,aas,aj.Mw]
 obtain⟨n,bu⟩:=xq ((Uv (ks.roots p)).length);rw[<-bu]at k1 hn hKL ⊢;have kT:=zq hKL;have HN:=zq bu;have br:=h.lt;obtain⟨w1,bA⟩:∃w1,w1=w.alloc (O #[A G op,ce text,U ko n aT] 43):=⟨_,rfl⟩
 have hb1:da w.heap.size w w1:=by rw[bA];exact Qq _ _
 have et:=zq (h.below hb1);have qC:=zq (ht.below (hb1.mono (aa1 br)));have HK1:=zq (hKL.below (hb1.mono (aa1 br)))
 have hG:w1.heap[w.heap.size]?=F (O #[A G op,ce text,U ko n aT] 43 (0,0)):=by rw[bA];exact aap _ _
 have HG:=zq hG;have aK:=zq hb1;have sw:Hid (∀q,bv.ownBlock=F q->q<w.heap.size):=fun q hq=>(h.own.lt q hq).2;have ew:=zq hs;have bV:=zq hn;have ry:=zq wI;have jI:w.heap.size<w1.heap.size:=(aah.1 hG).1
 have aiw:n<=100000:=by
  have:∀ks:aj.cP,(aj.cL ks).length<=ks.size:=by
   intro ks
   induction ks using aj.cP.rec (motive_1:=fun _=>True) with
   |nil=>exact aat _
   |cons a l _ ih=>have:=aj.Vk a;show (aj.cL l).length+1<=a.size+l.size;omega
   |_=>trivial
  have:=this ks;omega
 clear h ht hs hb1 wI bu hn hop hKL;go_enter func108,ntmps108;go_wp2_with fail;rw[<-bA];obtain⟨be,hGe⟩:=xq w.heap.size;have afu:=br;rw[<-hGe]at HG sw jI br ⊢;have yL:=zq hGe;have eL:=zq aK.o;clear bA hGe hG;go_loopw [8] (fun i wr=>Qz0 R tv bv out o m (aj.cL ks) w1 i wr) (fun i _=>n-(intOf i).toNat)
 case atStart=>exact⟨0,bv,rfl,aat _,by rw[aj.Qvo,aj.Qgb,abt];rw[show max m (o+0)=m by have:=et.o.le;omega];exact et.o,Wr.refl _ _ _,Mv.refl _ _⟩
 case round=>
  obtain⟨k,bv',rfl,hk,hS,hW,hM⟩:=hrel;have UB:wr.heap[be]?=F (O #[A G op,ce text,U ko n aT] 43 (0,0)):=(hW.block be (by omega) (by omega) (fun e=>by have:=sw.o be e.symm;omega)).trans HG
  have c0:wr.cell? ⟨be,0,Z⟩=F (A G op):=by rw[aaj _ _ 0 _ _ _ UB];rfl
  have c1:wr.cell? ⟨be,1,Z⟩=F (ce text):=by rw[aaj _ _ 1 _ _ _ UB];rfl
  have c2:wr.cell? ⟨be,2,Z⟩=F (U ko n aT):=by rw[aaj _ _ 2 _ _ _ UB];rfl
  have HS:=zq hS;have HW:=zq hW;have HM:=zq hM;have bD:=zq UB;rw[<-bV.o]at hk;clear hS hW hM UB;by_cases hlt:k<n
  ·obtain⟨e,iK⟩:∃e,(aj.cL ks)[k]?=F e:=⟨_,aad (by rw[<-bV.o];exact hlt)⟩
   obtain⟨p',hr1,hr2,hr3,hr4⟩:=aj.Qg4 (l:=l) ks p k e iK;have dD:J0 e:=IH e (aai iK);have qu:=zq dD
   have KW:(Uv (ks.roots p))[k]?=F ((p'+e.size-1:Nat):Int):=by rw[Uv,aa9,hr1];rfl
   have HSD:=zq KW;have HSE:=zq (hr2 ew);have hep:=aj.Vk e;have HUP:Hid (aj.Vt (aj.cL ks) (k+1)=aj.Vt (aj.cL ks) k++aj.Ki k e):=aj.Tb iK;have HDP:Hid (aj.rE (aj.cL ks) (k+1)=max (aj.rE (aj.cL ks) k) e.dp):=aj.Qgh iK;have Lf:=Qf2 ks (k+1) (by rw[<-bV.o];omega);rw[HUP.o,aag]at Lf
   have hes:e.size<=ks.size:=by omega
   have EJ:Hid (n-(k+1)<n-k):=by show _<_;omega
   have dJ:decide (((k:Nat):Int)<((n:Nat):Int))=true:=aa7 (by omega);have hWR:Hid (da R w wr):=((eL.o).mono (aa1 afu)).trans (HW.o.jy (by omega) (fun q hq=>et.o.gt q hq));have lW:Hid (kB wr R tv l):=qC.o.below (HW.o.jy (by omega) (fun q hq=>et.o.gt q hq));have tM:Hid (KL wr R (U ko n aT) (Uv (ks.roots p))):=HK1.o.below (HW.o.jy (by omega) (fun q hq=>et.o.gt q hq));have pI:=HW.o.size;clear iK hr1 hr2 dD KW;by_cases h0:k=0
   ·have wV:aj.Ki k e=e.pr:=by unfold aj.Ki;rw[if_neg (by omega)];rfl
    rw[wV]at Lf;have HPC:=zq wV;have HC:=zq (Ng op k qu HS lW HSE (by rw[ry.o k e.op,aag];show _+e.pr.length<=_;omega) (by omega) (by omega) text tM HSD);rw[ry.o k e.op]at HC;clear wV;subst h0;go_wp2_with fail;refine HC.o.mono ?_;rintro y w5 ⟨rfl,vD,a1,a2,a3⟩
    have aq:Hid (Qz0 R tv bv out o m (aj.cL ks) w1 (A G 1) w5):=by
     refine⟨0+1,vD,rfl,by rw[<-bV.o];omega,?_,HW.o.trans HM a2,Mv.trans (w':=wr) HM HW.o.size a3⟩;rw[HUP.o,HDP.o,HPC.o,<-aaW]
     have e2:max m (o+max (aj.rE (aj.cL ks) 0) e.dp)=max (max m (o+aj.rE (aj.cL ks) 0)) (o+e.dp):=by omega
     rw[e2];exact a1
    clear a1 a2 a3;go_wp2_with fail;exact⟨aq,EJ⟩
   have dO:0<k:=by omega
   have wV:aj.Ki k e=[44,32]++e.pr:=by unfold aj.Ki;rw[if_pos (by omega)]
   rw[wV,aag]at Lf;have h2l:([44,32]:Bytes).length=2:=rfl;have HPC:=zq wV;have tj:(out++aj.Vt (aj.cL ks) k).length=out.length+(aj.Vt (aj.cL ks) k).length:=aag;have adJ:=zq (Pm [44,32] HS (by omega) (by omega));clear wV h0;go_wp2_with fail;refine adJ.o.mono ?_;rintro y w4 ⟨rfl,zh,a1,a2,a3⟩
   have zx:w4.heap[be]?=F (O #[A G op,ce text,U ko n aT] 43 (0,0)):=(a2.block be (by omega) (by omega) (fun e=>by
    rcases HM.o be e.symm with h1|h1
    ·have:=sw.o be h1;omega
    omega)).trans bD
   have d0:w4.cell? ⟨be,0,Z⟩=F (A G op):=by rw[aaj _ _ 0 _ _ _ zx];rfl
   have d1:w4.cell? ⟨be,1,Z⟩=F (ce text):=by rw[aaj _ _ 1 _ _ _ zx];rfl
   have d2:w4.cell? ⟨be,2,Z⟩=F (U ko n aT):=by rw[aaj _ _ 2 _ _ _ zx];rfl
   have hbl:=a2.jy (by omega) (fun q hq=>HS.o.gt q hq);have fy:Hid (Wr R bv.ownBlock w1 w4):=HW.o.trans HM a2;have ic:Hid (Mv w1 bv.ownBlock zh.ownBlock):=Mv.trans (w':=wr) HM HW.o.size a3;have HC:=zq (Ng op k qu a1 (lW.o.below hbl) HSE (by rw[ry.o k e.op,aag,tj];show _+e.pr.length<=_;omega) (by omega) (by omega) text (tM.o.below hbl) HSD);rw[ry.o k e.op]at HC;clear a1 a2 a3 zx hbl c0 c1 c2 tj;go_wp2_with fail;refine HC.o.mono ?_;rintro y w5 ⟨rfl,vD,a1,a2,a3⟩
   have aq:Hid (Qz0 R tv bv out o m (aj.cL ks) w1 (A G ((k+1:Nat):Int)) w5):=by
    refine⟨k+1,vD,rfl,by rw[<-bV.o];omega,?_,fy.o.trans ic a2,Mv.trans (w':=w4) ic fy.o.size a3⟩;rw[HUP.o,HDP.o,HPC.o,<-aaW,<-aaW]
    have e2:max m (o+max (aj.rE (aj.cL ks) k) e.dp)=max (max m (o+aj.rE (aj.cL ks) k)) (o+e.dp):=by omega
    rw[e2];exact a1
   clear a1 a2 a3;go_wp2_with fail;exact⟨aq,EJ⟩
  have dJ:decide (((k:Nat):Int)<((n:Nat):Int))=du:=aaQ (by omega)
  have dA:k=n:=by omega
  have hS:=HS.o;rw[dA,bV.o,aj.Cc,aj.Qkl]at hS;have xU:=zq hS;have HWW:Hid (Wr R bv.ownBlock w wr):=(Wr.au eL).trans (Mv.refl _ _) HW;have ct:Hid (Mv w bv.ownBlock bv'.ownBlock):=Mv.trans (w':=w1) (Mv.refl _ _) eL.o.size HM;clear hS dA;go_wp2_with fail
  first|go_end0|refine aaD (ab5 rfl _ _ _) rfl ?_
  exact⟨rfl,bv',xU,HWW,ct⟩
structure vB (w0:c9) (og:Option Nat) (w:c9) (R be:Nat) (tv bv:co) (out:Bytes) (o m:Nat) (l:List aj.NI) (op:Nat) (text:Bytes) (kv:co) (ks:List Int):Prop where
 ws:fx w R tv bv out o m
 wr:Wr R og w0 w
 mv:Mv w0 og bv.ownBlock
 nl:kB w R tv l
 kl:KL w R kv ks
 h0:w.heap[be]?=F (O #[ca (F ⟨R,0,Z⟩)] 86 (0,0))
 h1:w.heap[be+1]?=F (O #[A G op,ce ⟨text.toArray⟩,kv] 43 (0,0))
 hR:R<be
 hG:be+2<=w0.heap.size
 ho:∀q,og=F q->q<be
theorem vB.step {bv':co}{out out':Bytes}{o o' m':Nat}{l:List aj.NI}{op:Nat}{text:Bytes}(h:vB w0 og w R be tv bv out o m l op text kv ks)
  (k1:fx w' R tv bv' out' o' m') (k2:Wr R bv.ownBlock w w') (k3:Mv w bv.ownBlock bv'.ownBlock):vB w0 og w' R be tv bv' out' o' m' l op text kv ks:=by
 have I:=k2.jy (aa1 h.ws.lt) (fun q hq=>h.ws.gt q hq)
 have E:∀i,be<=i->i<be+2->F i≠bv.ownBlock:=fun i h1 h2 e=>by
  have hG:=h.hG;rcases h.mv i e.symm with H|H
  ·have:=h.ho i H;omega
  omega
 have hR:=h.hR;have hG:=h.hG;have J:=h.wr.size;exact⟨k1,h.wr.trans h.mv k2,Mv.trans (w':=w) h.mv h.wr.size k3,h.nl.below I,h.kl.below I,(k2.block be (by omega) (by omega) (E be (by omega) (by omega))).trans h.h0,(k2.block (be+1) (by omega) (by omega) (E (be+1) (by omega) (by omega))).trans h.h1,h.hR,h.hG,h.ho⟩
theorem vB.below {out:Bytes}{o:Nat}{l:List aj.NI}{op:Nat}{text:Bytes}(h:vB w0 og w R be tv bv out o m l op text kv ks)(hb:da w.heap.size w w'):vB w0 og w' R be tv bv out o m l op text kv ks:=
 h.step (h.ws.below hb) (Wr.au hb) (Mv.refl _ _)
theorem vB.cells {out:Bytes}{o:Nat}{l:List aj.NI}{op:Nat}{text:Bytes}(h:vB w0 og w R be tv bv out o m l op text kv ks):w.cell? ⟨be,0,Z⟩=F (ca (F ⟨R,0,Z⟩))/\w.cell? ⟨be+1,0,Z⟩=F (A G op)/\w.cell? ⟨be+1,1,Z⟩=F (ce ⟨text.toArray⟩)/\w.cell? ⟨be+1,2,Z⟩=F kv:=by
 refine⟨?_,?_,?_,?_⟩
 ·rw[aaj _ _ 0 _ _ _ h.h0];rfl
 ·rw[aaj _ _ 0 _ _ _ h.h1];rfl
 ·rw[aaj _ _ 1 _ _ _ h.h1];rfl
 rw[aaj _ _ 2 _ _ _ h.h1];rfl
theorem vB.fin {bv0:co}{out:Bytes}{o:Nat}{l:List aj.NI}{op:Nat}{text:Bytes}(h:vB w0 bv0.ownBlock w' R be tv bv out o m l op text kv ks)(hb:da w.heap.size w w0):sL R tv bv0 out o m (dk #[]) w (.returned (dk #[])) w':=
 ⟨rfl,bv,h.ws,(Wr.au hb).trans (Mv.refl _ _) h.wr,Mv.trans (w':=w0) (Mv.refl _ _) hb.size h.mv⟩
theorem Wj {K:Nat}{out:Bytes}{o:Nat}{l:List aj.NI}{op:Nat}{text:Bytes}(h:fx w R tv bv out o m)(ht:kB w R tv l)(hx:l[K]?=F ⟨(op:Nat),text,ks⟩):∃tg ln gN ko kn aT,tv=U (F ⟨tg,0,Z⟩) ln gN/\K<ln/\kn=ks.length/\kn<=aT/\(w.alloc (O #[ca (F ⟨R,0,Z⟩)] 86)).cell? ⟨R,0,Z⟩=F tv/\(w.alloc (O #[ca (F ⟨R,0,Z⟩)] 86)).cell? ⟨tg,K*3,Z⟩=F (A G op)/\(w.alloc (O #[ca (F ⟨R,0,Z⟩)] 86)).cell? ⟨tg,K*3+1,Z⟩=F (ce ⟨text.toArray⟩)/\(w.alloc (O #[ca (F ⟨R,0,Z⟩)] 86)).cell? ⟨tg,K*3+2,Z⟩=F (U ko kn aT)/\da w.heap.size w ((w.alloc (O #[ca (F ⟨R,0,Z⟩)] 86)).alloc (O #[A G op,ce ⟨text.toArray⟩,U ko kn aT] 43))/\vB ((w.alloc (O #[ca (F ⟨R,0,Z⟩)] 86)).alloc (O #[A G op,ce ⟨text.toArray⟩,U ko kn aT] 43)) bv.ownBlock ((w.alloc (O #[ca (F ⟨R,0,Z⟩)] 86)).alloc (O #[A G op,ce ⟨text.toArray⟩,U ko kn aT] 43)) R w.heap.size tv bv out o m l op text (U ko kn aT) ks:=by
 have bi:=(aaf.1 hx).1;have aE:=ht;obtain⟨ta,gN,rfl,t1,t2,t3⟩:=ht;obtain⟨tg,rfl,t4,t5⟩:=t3 (by omega);obtain⟨a,b,kv,c,d⟩:=t5 K _ hx;have T:=d;obtain⟨ko,aT,rfl,k1,-,-⟩:=T;obtain⟨kn,J⟩:=xq ks.length;rw[show (⟨(op:Nat),text,ks⟩:aj.NI).kids.length=kn from J.symm]at k1 c d;have H:=h.lt;have E:=Qq w (O #[ca (F ⟨R,0,Z⟩)] 86);have I:=Qv E (Qq _ (O #[A G op,ce ⟨text.toArray⟩,U ko kn aT] 43));refine⟨tg,l.length,gN,ko,kn,aT,rfl,bi,J,k1,(E.cell (p:=⟨R,0,Z⟩) H).trans h.cells.1,(E.cell (p:=⟨tg,K*3,Z⟩) (by show tg<_;omega)).trans a,(E.cell (p:=⟨tg,K*3+1,Z⟩) (by show tg<_;omega)).trans b,(E.cell (p:=⟨tg,K*3+2,Z⟩) (by show tg<_;omega)).trans c,I,?_⟩;refine⟨h.below I,Wr.refl _ _ _,Mv.refl _ _,aE.below (I.mono (aa1 H)),d.below (I.mono (aa1 H)),?_,?_,H,by simp,fun q hq=>(h.own.lt q hq).2⟩
 ·exact((Qq _ _).block _ (by simp)).trans (aap w _)
 have:=aap (w.alloc (O #[ca (F ⟨R,0,Z⟩)] 86)) (O #[A G op,ce ⟨text.toArray⟩,U ko kn aT] 43);rw[show (w.alloc (O #[ca (F ⟨R,0,Z⟩)] 86)).heap.size=w.heap.size+1 by simp]at this;exact this
theorem Qdf (l:List aj.NI)(R K:Nat)(tv bv:co)(out:Bytes)(o m:Nat)(w:c9)(h:fx w R tv bv out o m)(ht:kB w R tv l)(text:Bytes)(ks:List Int)(hx:l[K]?=F ⟨((1:Nat):Int),text,ks⟩)(hl:out.length+text.length<=1099511627776):dj cl 51 #[ca (F ⟨R,0,Z⟩),A G K] w (sL R tv bv (out++text) o m (dk #[]) w):=by
 obtain⟨tg,ln,gN,ko,kn,aT,rfl,IL,dA,WR,c0,c1,c2,c3,hb,hN⟩:=Wj h ht hx;have ot:=zq dA;have HB:=zq hb;have HN:=zq hN;obtain⟨OUT,bP⟩:=xq (out++text);have gi:=zq bP;obtain⟨M,hM⟩:=xq m;have HM:=zq hM;have hle:=h.le;have ug:∀(fn:Fn) (first cap:Array co) (w:c9),(Instr.makeFunc fn first cap).run cl w=.ok (.func fn first cap) w:=fun _ _ _ _=>rfl;rw[<-bP];clear hb hN h ht hx bP hM dA;go_enter ef,dq;go_wp2_with fail;obtain⟨w2,hw2⟩:=xq ((w.alloc (O #[ca (F ⟨R,0,Z⟩)] 86)).alloc (O #[A G 1,ce ⟨text.toArray⟩,U ko kn aT] 43));have hw2':w2=(w.alloc (O #[ca (F ⟨R,0,Z⟩)] 86)).alloc (O #[A G ((1:Nat):Int),ce ⟨(text:Bytes).toArray⟩,U ko kn aT] 43):=hw2;rw[<-hw2']at HB HN;rw[<-hw2];clear hw2 hw2' c0 c1 c2 c3;obtain⟨be,hG⟩:=xq w.heap.size;rw[<-hG]at HN ⊢;obtain⟨g0,g1,g2,g3⟩:=HN.o.cells;have yL:=zq hG;clear hG
 go_region_held3 (fun w'=>w'.cell? ⟨be,0,Z⟩=F (ca (F ⟨R,0,Z⟩))/\w'.cell? ⟨be+1,1,Z⟩=F (ce ⟨(text:Bytes).toArray⟩))
  (first
   |go_keep
   |exact⟨((HN.o.below (below_drewN _ _)).step a1 a2 a3).cells.1,((HN.o.below (below_drewN _ _)).step a1 a2 a3).cells.2.2.1⟩)
  ((go_at_call 105;refine(Pm (text) (HN.o.ws.below (below_drewN _ _)) (by omega) (by omega)).mono ?_;rintro y w5 ⟨rfl,vD,a1,a2,a3⟩))
 have oK:=zq ((HN.o.below (below_drewN _ _)).step a1 a2 a3);clear a1 a2 a3 g0 g1 g2 g3;obtain⟨g0,g1,g2,g3⟩:=oK.o.cells;go_wp2_with fail
 first|go_end0|refine aaD (ab5 rfl _ _ _) rfl ?_
 have hf:=oK.o.fin HB;rw[show out++text=OUT by exact gi.o.symm]at hf;exact hf
theorem Qj1 (l:List aj.NI)(R K:Nat)(tv bv:co)(out:Bytes)(o m:Nat)(w:c9)(h:fx w R tv bv out o m)(ht:kB w R tv l)(text:Bytes)(ks:List Int)(hx:l[K]?=F ⟨((2:Nat):Int),text,ks⟩)(hl:out.length+text.length<=1099511627776):dj cl 51 #[ca (F ⟨R,0,Z⟩),A G K] w (sL R tv bv (out++text) o m (dk #[]) w):=by
 obtain⟨tg,ln,gN,ko,kn,aT,rfl,IL,dA,WR,c0,c1,c2,c3,hb,hN⟩:=Wj h ht hx;have ot:=zq dA;have HB:=zq hb;have HN:=zq hN;obtain⟨OUT,bP⟩:=xq (out++text);have gi:=zq bP;obtain⟨M,hM⟩:=xq m;have HM:=zq hM;have hle:=h.le;have ug:∀(fn:Fn) (first cap:Array co) (w:c9),(Instr.makeFunc fn first cap).run cl w=.ok (.func fn first cap) w:=fun _ _ _ _=>rfl;rw[<-bP];clear hb hN h ht hx bP hM dA;go_enter ef,dq;go_wp2_with fail;obtain⟨w2,hw2⟩:=xq ((w.alloc (O #[ca (F ⟨R,0,Z⟩)] 86)).alloc (O #[A G 2,ce ⟨text.toArray⟩,U ko kn aT] 43));have hw2':w2=(w.alloc (O #[ca (F ⟨R,0,Z⟩)] 86)).alloc (O #[A G ((2:Nat):Int),ce ⟨(text:Bytes).toArray⟩,U ko kn aT] 43):=hw2;rw[<-hw2']at HB HN;rw[<-hw2];clear hw2 hw2' c0 c1 c2 c3;obtain⟨be,hG⟩:=xq w.heap.size;rw[<-hG]at HN ⊢;obtain⟨g0,g1,g2,g3⟩:=HN.o.cells;have yL:=zq hG;clear hG
 go_region_held3 (fun w'=>w'.cell? ⟨be,0,Z⟩=F (ca (F ⟨R,0,Z⟩))/\w'.cell? ⟨be+1,1,Z⟩=F (ce ⟨(text:Bytes).toArray⟩))
  (first
   |go_keep
   |exact⟨((HN.o.below (below_drewN _ _)).step a1 a2 a3).cells.1,((HN.o.below (below_drewN _ _)).step a1 a2 a3).cells.2.2.1⟩)
  ((go_at_call 105;refine(Pm (text) (HN.o.ws.below (below_drewN _ _)) (by omega) (by omega)).mono ?_;rintro y w5 ⟨rfl,vD,a1,a2,a3⟩))
 have oK:=zq ((HN.o.below (below_drewN _ _)).step a1 a2 a3);clear a1 a2 a3 g0 g1 g2 g3;obtain⟨g0,g1,g2,g3⟩:=oK.o.cells;go_wp2_with fail
 first|go_end0|refine aaD (ab5 rfl _ _ _) rfl ?_
 have hf:=oK.o.fin HB;rw[show out++text=OUT by exact gi.o.symm]at hf;exact hf
theorem Qbt {e:aj.Ex}{op:Nat}{t:Bytes}(hf:∀p,e.flat p=[⟨op,t,[]⟩])(hp:e.pr=t)(hs:e.size=1)(hd:e.dp=0)
  (H:∀(l:List aj.NI) (R K:Nat) (tv bv:co) (out:Bytes) (o m:Nat) (w:c9),fx w R tv bv out o m->kB w R tv l-> ∀(text:Bytes) (ks:List Int),l[K]?=F ⟨((op:Nat):Int),text,ks⟩->out.length+text.length<=1099511627776->dj cl 51 #[ca (F ⟨R,0,Z⟩),A G K] w (sL R tv bv (out++text) o m (dk #[]) w)):J0 e:=by
 intro l R p tv bv out o m w h bi E J am aE;rw[hf]at E;have T:=E.one;have I:=H l R p tv bv out o m w h bi t [] T (by rw[hp]at J;omega);rw[hs,hp,hd];rw[show max m (o+0)=m by have:=h.le;omega];exact I
theorem Qyc {x:Bytes}:J0 (.name x):=Qbt (op:=2) (t:=x) (fun _=>rfl) rfl rfl rfl Qj1
theorem Qmm {a:aj.Ex}(IH:J0 a):J0 (.neg a):=by
 intro l R p tv bv out o m w h ht hs hl ho hp;have hsz:(aj.Ex.neg a).size=a.size+1:=rfl;obtain⟨qf,hst⟩:=aj.eh.app (a:=a.flat p) (b:=[⟨4,[],[p+a.size-1]⟩]) hs
 have hx:l[p+a.size]?=F ⟨((4:Nat):Int),[],[((p+a.size-1:Nat):Int)]⟩:=by have:=hst.one;rw[aj.Jl]at this;exact this
 have hap:=aj.Vk a;have ow:=zq qf;have hpl:(aj.Ex.neg a).pr=[45]++aj.par (aj.Q6 4 0 a.op) a.pr:=rfl;rw[hpl]at hl;simp only[aag,aaq,aa5]at hl;have fg:(aj.Ex.neg a).dp=aj.dM (aj.Q6 4 0 a.op) a.dp:=rfl;rw[show p+(aj.Ex.neg a).size-1=p+a.size by rw[hsz];omega,hpl,fg];rw[hsz]at ho hp;obtain⟨K,hK⟩:=xq (p+a.size);rw[<-hK]at hx ⊢;have HK:=zq hK;clear hK hs hst qf hpl fg hsz;obtain⟨tg,ln,gN,ko,kn,aT,rfl,IL,dA,WR,c0,c1,c2,c3,hb,hN⟩:=Wj h ht hx;have ot:=zq dA;have HB:=zq hb;have HN:=zq hN;obtain⟨OUT,bP⟩:=xq (out++([45]++aj.par (aj.Q6 4 0 a.op) a.pr));have gi:=zq bP;obtain⟨M,hM⟩:=xq (max m (o+aj.dM (aj.Q6 4 0 a.op) a.dp));have HM:=zq hM;have hle:=h.le;have ug:∀(fn:Fn) (first cap:Array co) (w:c9),(Instr.makeFunc fn first cap).run cl w=.ok (.func fn first cap) w:=fun _ _ _ _=>rfl;rw[<-bP,<-hM];clear hb hN h ht hx bP hM dA;go_enter ef,dq;go_wp2_with fail;obtain⟨w2,hw2⟩:=xq ((w.alloc (O #[ca (F ⟨R,0,Z⟩)] 86)).alloc (O #[A G 4,ce ⟨#[]⟩,U ko kn aT] 43));have hw2':w2=(w.alloc (O #[ca (F ⟨R,0,Z⟩)] 86)).alloc (O #[A G ((4:Nat):Int),ce ⟨([]:Bytes).toArray⟩,U ko kn aT] 43):=hw2;rw[<-hw2']at HB HN;rw[<-hw2];clear hw2 hw2' c0 c1 c2 c3;obtain⟨be,hG⟩:=xq w.heap.size;rw[<-hG]at HN ⊢;obtain⟨g0,g1,g2,g3⟩:=HN.o.cells;have yL:=zq hG;clear hG;refine(Tt 45 HN.o.ws (by omega)).mono ?_;rintro y w3 ⟨rfl,xZ,a1,a2,a3⟩;have ft:=zq (HN.o.step a1 a2 a3);clear a1 a2 a3 g0 g1 g2 g3;obtain⟨g0,g1,g2,g3⟩:=ft.o.cells;go_wp2_with fail;refine(Ng 4 0 IH ft.o.ws ft.o.nl ow (by simp only[aag,aaq,aa5];omega) (by omega) (by omega) _ ft.o.kl (by rw[HK.o];rfl)).mono ?_;rintro y w4 ⟨rfl,zh,a1,a2,a3⟩;have rz:=zq (ft.o.step a1 a2 a3);clear a1 a2 a3 g0 g1 g2 g3;obtain⟨g0,g1,g2,g3⟩:=rz.o.cells;go_wp2_with fail
 first|go_end0|refine aaD (ab5 rfl _ _ _) rfl ?_
 have hf:=rz.o.fin HB;rw[show out++[45]++aj.par (aj.Q6 4 0 a.op) a.pr=OUT by rw[gi.o,aaW],show max m (o+aj.dM (aj.Q6 4 0 a.op) a.dp)=M by exact HM.o.symm]at hf;exact hf
theorem Qyd {a:aj.Ex}(IH:J0 a):J0 (.turn a):=by
 intro l R p tv bv out o m w h ht hs hl ho hp;have hsz:(aj.Ex.turn a).size=a.size+1:=rfl;obtain⟨qf,hst⟩:=aj.eh.app (a:=a.flat p) (b:=[⟨5,[],[p+a.size-1]⟩]) hs
 have hx:l[p+a.size]?=F ⟨((5:Nat):Int),[],[((p+a.size-1:Nat):Int)]⟩:=by have:=hst.one;rw[aj.Jl]at this;exact this
 have hap:=aj.Vk a;have ow:=zq qf;have hpl:(aj.Ex.turn a).pr=aj.par (aj.Q6 5 0 a.op) a.pr++[39]:=rfl;rw[hpl]at hl;simp only[aag,aaq,aa5]at hl;have fg:(aj.Ex.turn a).dp=aj.dM (aj.Q6 5 0 a.op) a.dp:=rfl;rw[show p+(aj.Ex.turn a).size-1=p+a.size by rw[hsz];omega,hpl,fg];rw[hsz]at ho hp;obtain⟨K,hK⟩:=xq (p+a.size);rw[<-hK]at hx ⊢;have HK:=zq hK;clear hK hs hst qf hpl fg hsz;obtain⟨tg,ln,gN,ko,kn,aT,rfl,IL,dA,WR,c0,c1,c2,c3,hb,hN⟩:=Wj h ht hx;have ot:=zq dA;have HB:=zq hb;have HN:=zq hN;obtain⟨OUT,bP⟩:=xq (out++(aj.par (aj.Q6 5 0 a.op) a.pr++[39]));have gi:=zq bP;obtain⟨M,hM⟩:=xq (max m (o+aj.dM (aj.Q6 5 0 a.op) a.dp));have HM:=zq hM;have hle:=h.le;have ug:∀(fn:Fn) (first cap:Array co) (w:c9),(Instr.makeFunc fn first cap).run cl w=.ok (.func fn first cap) w:=fun _ _ _ _=>rfl;rw[<-bP,<-hM];clear hb hN h ht hx bP hM dA;go_enter ef,dq;go_wp2_with fail;obtain⟨w2,hw2⟩:=xq ((w.alloc (O #[ca (F ⟨R,0,Z⟩)] 86)).alloc (O #[A G 5,ce ⟨#[]⟩,U ko kn aT] 43));have hw2':w2=(w.alloc (O #[ca (F ⟨R,0,Z⟩)] 86)).alloc (O #[A G ((5:Nat):Int),ce ⟨([]:Bytes).toArray⟩,U ko kn aT] 43):=hw2;rw[<-hw2']at HB HN;rw[<-hw2];clear hw2 hw2' c0 c1 c2 c3;obtain⟨be,hG⟩:=xq w.heap.size;rw[<-hG]at HN ⊢;obtain⟨g0,g1,g2,g3⟩:=HN.o.cells;have yL:=zq hG;clear hG;refine(Ng 5 0 IH HN.o.ws HN.o.nl ow (by omega) (by omega) (by omega) _ HN.o.kl (by rw[HK.o];rfl)).mono ?_;rintro y w3 ⟨rfl,xZ,a1,a2,a3⟩;have ft:=zq (HN.o.step a1 a2 a3);clear a1 a2 a3 g0 g1 g2 g3;obtain⟨g0,g1,g2,g3⟩:=ft.o.cells;go_wp2_with fail;refine(Tt 39 ft.o.ws (by simp only[aag,aaq,aa5];omega)).mono ?_;rintro y w4 ⟨rfl,zh,a1,a2,a3⟩;have rz:=zq (ft.o.step a1 a2 a3);clear a1 a2 a3 g0 g1 g2 g3;obtain⟨g0,g1,g2,g3⟩:=rz.o.cells;go_wp2_with fail
 first|go_end0|refine aaD (ab5 rfl _ _ _) rfl ?_
 have hf:=rz.o.fin HB;rw[show out++aj.par (aj.Q6 5 0 a.op) a.pr++[39]=OUT by rw[gi.o,aaW],show max m (o+aj.dM (aj.Q6 5 0 a.op) a.dp)=M by exact HM.o.symm]at hf;exact hf
theorem Qmh {a:aj.Ex}(IH:J0 a):J0 (.pow a n):=by
 intro l R p tv bv out o m w h ht hs hl ho hp;have hsz:(aj.Ex.pow a n).size=a.size+1:=rfl;obtain⟨qf,hst⟩:=aj.eh.app (a:=a.flat p) (b:=[⟨9,aj.aA n,[p+a.size-1]⟩]) hs
 have hx:l[p+a.size]?=F ⟨((9:Nat):Int),aj.aA n,[((p+a.size-1:Nat):Int)]⟩:=by have:=hst.one;rw[aj.Jl]at this;exact this
 have hap:=aj.Vk a;have ow:=zq qf;have hpl:(aj.Ex.pow a n).pr=aj.par (aj.Q6 9 0 a.op) a.pr++([94]++aj.aA n):=rfl;rw[hpl]at hl;simp only[aag,aaq,aa5]at hl;have fg:(aj.Ex.pow a n).dp=aj.dM (aj.Q6 9 0 a.op) a.dp:=rfl;rw[show p+(aj.Ex.pow a n).size-1=p+a.size by rw[hsz];omega,hpl,fg];rw[hsz]at ho hp;obtain⟨K,hK⟩:=xq (p+a.size);rw[<-hK]at hx ⊢;have HK:=zq hK;clear hK hs hst qf hpl fg hsz;obtain⟨tg,ln,gN,ko,kn,aT,rfl,IL,dA,WR,c0,c1,c2,c3,hb,hN⟩:=Wj h ht hx;have ot:=zq dA;have HB:=zq hb;have HN:=zq hN;obtain⟨OUT,bP⟩:=xq (out++(aj.par (aj.Q6 9 0 a.op) a.pr++([94]++aj.aA n)));have gi:=zq bP;obtain⟨M,hM⟩:=xq (max m (o+aj.dM (aj.Q6 9 0 a.op) a.dp));have HM:=zq hM;have hle:=h.le;have ug:∀(fn:Fn) (first cap:Array co) (w:c9),(Instr.makeFunc fn first cap).run cl w=.ok (.func fn first cap) w:=fun _ _ _ _=>rfl;rw[<-bP,<-hM];clear hb hN h ht hx bP hM dA;go_enter ef,dq;go_wp2_with fail;obtain⟨w2,hw2⟩:=xq ((w.alloc (O #[ca (F ⟨R,0,Z⟩)] 86)).alloc (O #[A G 9,ce ⟨(aj.aA n).toArray⟩,U ko kn aT] 43));have hw2':w2=(w.alloc (O #[ca (F ⟨R,0,Z⟩)] 86)).alloc (O #[A G ((9:Nat):Int),ce ⟨(aj.aA n:Bytes).toArray⟩,U ko kn aT] 43):=hw2;rw[<-hw2']at HB HN;rw[<-hw2];clear hw2 hw2' c0 c1 c2 c3;obtain⟨be,hG⟩:=xq w.heap.size;rw[<-hG]at HN ⊢;obtain⟨g0,g1,g2,g3⟩:=HN.o.cells;have yL:=zq hG;clear hG
 have VW: ¬9223372036854775807<1+(aj.aA n).length:=by omega
 refine(Ng 9 0 IH HN.o.ws HN.o.nl ow (by omega) (by omega) (by omega) _ HN.o.kl (by rw[HK.o];rfl)).mono ?_;rintro y w3 ⟨rfl,xZ,a1,a2,a3⟩;have ft:=zq (HN.o.step a1 a2 a3);clear a1 a2 a3 g0 g1 g2 g3;obtain⟨g0,g1,g2,g3⟩:=ft.o.cells;go_wp2_with fail
 go_region_held3 (fun w'=>w'.cell? ⟨be,0,Z⟩=F (ca (F ⟨R,0,Z⟩))/\w'.cell? ⟨be+1,1,Z⟩=F (ce ⟨(aj.aA n:Bytes).toArray⟩))
  (first
   |go_keep
   |exact⟨((ft.o.below (below_drewN _ _)).step a1 a2 a3).cells.1,((ft.o.below (below_drewN _ _)).step a1 a2 a3).cells.2.2.1⟩)
  ((go_at_call 105;refine(Pm ([94]++aj.aA n) (ft.o.ws.below (below_drewN _ _)) (by simp only[aag,aaq,aa5];omega) (by simp only[aag,aaq,aa5];omega)).mono ?_;rintro y w4 ⟨rfl,zh,a1,a2,a3⟩))
 have rz:=zq ((ft.o.below (below_drewN _ _)).step a1 a2 a3);clear a1 a2 a3 g0 g1 g2 g3;obtain⟨g0,g1,g2,g3⟩:=rz.o.cells;go_wp2_with fail
 first|go_end0|refine aaD (ab5 rfl _ _ _) rfl ?_
 have hf:=rz.o.fin HB;rw[show out++aj.par (aj.Q6 9 0 a.op) a.pr++([94]++aj.aA n)=OUT by rw[gi.o,aaW],show max m (o+aj.dM (aj.Q6 9 0 a.op) a.dp)=M by exact HM.o.symm]at hf;exact hf
def Ip (n:aj.Ln):Prop:=∀(l:List aj.NI) (R:Nat) (tv bv:co) (out:Bytes) (o m:Nat) (w:c9),fx w R tv bv out o m->kB w R tv l->aj.eh l 0 n.flat->out.length+n.pr.length<=274877906944->o+2*n.size<=100000->dj cl 51 #[ca (F ⟨R,0,Z⟩),A G ((n.size-1:Nat):Int)] w (sL R tv bv (out++n.pr) o (max m (o+n.dp)) (dk #[]) w)
theorem Qq6 {x:Bytes}{a:aj.Ex}{kt:aj.cP}(IH:∀e∈aj.cL (.cons a kt),J0 e):Ip (.cmd x (.cons a kt)):=by
 intro l R tv bv out o m w h ht hs hl ho;obtain⟨ks,mE⟩:=xq (aj.cP.cons a kt)
 have hsz:(aj.Ln.cmd x (.cons a kt)).size=ks.size+1:=by rw[mE];rfl
 obtain⟨qf,hst⟩:=aj.eh.app (a:=(aj.cP.cons a kt).flat 0) (b:=[⟨12,x,(aj.cP.cons a kt).roots 0⟩]) hs;rw[<-mE]at qf hst IH
 have hx:l[0+ks.size]?=F ⟨((12:Nat):Int),x,Uv (ks.roots 0)⟩:=by have:=hst.one;rw[aj.Pt]at this;exact this
 have ow:=zq qf
 have hpl:(aj.Ln.cmd x (.cons a kt)).pr=(x++[32])++ks.pr:=by rw[mE];show x++[32]++_=_;rfl
 rw[hpl]at hl;simp only[aag,aaq,aa5]at hl
 have fg:(aj.Ln.cmd x (.cons a kt)).dp=ks.dp:=by rw[mE];rfl
 rw[show (aj.Ln.cmd x (.cons a kt)).size-1=0+ks.size by rw[hsz];omega,hpl,fg];rw[hsz]at ho
 have lG:(Uv (ks.roots 0)).length=(aj.cL ks).length:=by rw[Uv,aas,aj.Mw]
 have px:0<(aj.cL ks).length:=by rw[mE];exact Nat.succ_pos _
 have KN:ks.pr.length<=ks.pr.length:=by exact aab _
 obtain⟨K,hK⟩:=xq (0+ks.size);rw[<-hK]at hx ⊢;have HK:=zq hK;have FX:=zq mE;clear hK hs hst qf hpl fg hsz mE;obtain⟨tg,ln,gN,ko,kn,aT,rfl,IL,dA,WR,c0,c1,c2,c3,hb,hN⟩:=Wj h ht hx;have ot:=zq dA;have HB:=zq hb;have HN:=zq hN;obtain⟨OUT,bP⟩:=xq (out++((x++[32])++ks.pr));have gi:=zq bP;obtain⟨M,hM⟩:=xq (max m (o+ks.dp));have HM:=zq hM;have hle:=h.le;have ug:∀(fn:Fn) (first cap:Array co) (w:c9),(Instr.makeFunc fn first cap).run cl w=.ok (.func fn first cap) w:=fun _ _ _ _=>rfl;rw[<-bP,<-hM];clear hb hN h ht hx bP hM dA;go_enter ef,dq;go_wp2_with fail;obtain⟨w2,hw2⟩:=xq ((w.alloc (O #[ca (F ⟨R,0,Z⟩)] 86)).alloc (O #[A G 12,ce ⟨x.toArray⟩,U ko kn aT] 43));have hw2':w2=(w.alloc (O #[ca (F ⟨R,0,Z⟩)] 86)).alloc (O #[A G ((12:Nat):Int),ce ⟨(x:Bytes).toArray⟩,U ko kn aT] 43):=hw2;rw[<-hw2']at HB HN;rw[<-hw2];clear hw2 hw2' c0 c1 c2 c3;obtain⟨be,hG⟩:=xq w.heap.size;rw[<-hG]at HN ⊢;obtain⟨g0,g1,g2,g3⟩:=HN.o.cells;have yL:=zq hG;clear hG
 have agc:kn=(aj.cL ks).length:=by rw[ot.o,lG]
 have cZ:0<kn:=by omega
 clear agc lG px
 go_region_held3 (fun w'=>w'.cell? ⟨be,0,Z⟩=F (ca (F ⟨R,0,Z⟩))/\w'.cell? ⟨be+1,1,Z⟩=F (ce ⟨(x:Bytes).toArray⟩))
  (first
   |go_keep
   |exact⟨((HN.o.below (below_drewN _ _)).step a1 a2 a3).cells.1,((HN.o.below (below_drewN _ _)).step a1 a2 a3).cells.2.2.1⟩)
  ((go_at_call 105;refine(Pm (x) (HN.o.ws.below (below_drewN _ _)) (by omega) (by omega)).mono ?_;rintro y w3 ⟨rfl,xZ,a1,a2,a3⟩))
 have ft:=zq ((HN.o.below (below_drewN _ _)).step a1 a2 a3);clear a1 a2 a3 g0 g1 g2 g3;obtain⟨g0,g1,g2,g3⟩:=ft.o.cells;go_wp2_with fail;refine(Tt 32 ft.o.ws (by simp only[aag,aaq,aa5];omega)).mono ?_;rintro y w6 ⟨rfl,bv6,a1,a2,a3⟩;have L8:=zq (ft.o.step a1 a2 a3);clear a1 a2 a3 g0 g1 g2 g3;obtain⟨g0,g1,g2,g3⟩:=L8.o.cells;have HC:=zq (Qc1 ks IH L8.o.ws L8.o.nl ow (by simp only[aag,aaq,aa5];omega) (by omega) (by omega) 12 (.inr rfl) ⟨x.toArray⟩ L8.o.kl);go_wp2_with fail;refine(HC.o).mono ?_;rintro y w4 ⟨rfl,zh,a1,a2,a3⟩;have rz:=zq (L8.o.step a1 a2 a3);clear a1 a2 a3 g0 g1 g2 g3;obtain⟨g0,g1,g2,g3⟩:=rz.o.cells;go_wp2_with fail
 first|go_end0|refine aaD (ab5 rfl _ _ _) rfl ?_
 have hf:=rz.o.fin HB;rw[show out++x++[32]++ks.pr=OUT by rw[gi.o];simp only[aaW],show max m (o+ks.dp)=M by exact HM.o.symm]at hf;exact hf
open Go.Maps
theorem Tryz.cellsByte:Tryz.prog.cellsOf 5=1:=by kernel_rfl
theorem Qz7 {out:Bytes}{o:Nat}(h:fx w R tv bv out o m):dj cl 52 #[ca (F ⟨R,1,Z⟩)] w fun e w'=>e=.returned (ce ⟨out.toArray⟩)/\da R w w':=by
 obtain⟨av,-,bN⟩:=h.blk;have hown:=h.own;have br:=h.lt;by_cases h0:out=[]
 ·subst h0
  have hUS:∀(W:c9) (q:Option Addr),(Builtin.unsafeString_ #[145,3] 9 #[ca q,A G 0]).run cl W=.ok (ce .empty) W:=fun W q=>Lib.run_unsafeString_none W _ _ _ q;rcases hown.2 with ⟨rfl,-⟩|⟨g,cap,cur,rfl,hbg,hg,bU,hcm,hcs,nu⟩
  ·have c1:w.drew.cell? ⟨R,2,Z⟩=F (U Z 0 0):=by
    have:w.drew.heap[R]?=F (O #[tv,av,U Z 0 0,A G o,A G m] 92 (0,0)):=bN;rw[aaj _ _ _ _ _ _ this];rfl
   have hSD:(Builtin.unsafeSliceData_ #[88] 145 #[U Z 0 0]).run cl w.drew=.ok (ca Z) w.drew:=rfl;clear h bN hown;go_enter ex,eg;go_wp2_with fail;go_region
   all_goals (go_wp2_with fail;go_ret;exact⟨rfl,Below.drew (aaw _ _)⟩)
  have e0:([]:Bytes).length=0:=rfl;rw[e0]at bN bU;by_cases hc0:cap=0
  ·subst hc0
   have c1:w.drew.cell? ⟨R,2,Z⟩=F (U (F ⟨g,0,Z⟩) 0 0):=by have:w.drew.heap[R]?=F (O #[tv,av,U (F ⟨g,0,Z⟩) 0 0,A G o,A G m] 92 (0,0)):=bN;rw[aaj _ _ _ _ _ _ this];rfl
   have hSD:(Builtin.unsafeSliceData_ #[88] 145 #[U (F ⟨g,0,Z⟩) 0 0]).run cl w.drew=.ok (ca (F ⟨w.drew.heap.size,0,Z⟩)) (w.drew.alloc (.view ⟨g,0,Z⟩ 5)):=
    Lib.run_unsafeSliceData_zero w.drew _ _ 5 fa ⟨g,0,Z⟩ 0 (5,cur.size) (by have hg':w.drew.heap[g]?=F (O cur 5 (0,0)):=hg;simp[World.shape?,hg'])
   have c2:(w.drew.alloc (.view ⟨g,0,Z⟩ 5)).cell? ⟨R,2,Z⟩=F (U (F ⟨g,0,Z⟩) 0 0):=by have:(w.drew.alloc (.view ⟨g,0,Z⟩ 5)).heap[R]?=_:=(Lib.alloc_old w.drew _ R br).trans bN;rw[aaj _ _ _ _ _ _ this];rfl
   have c3:(w.alloc (.view ⟨g,0,Z⟩ 5)).drew.cell? ⟨R,2,Z⟩=F (U (F ⟨g,0,Z⟩) 0 0):=c2;have c0:w.cell? ⟨R,2,Z⟩=F (U (F ⟨g,0,Z⟩) 0 0):=c1;clear h bN hown hg;go_enter ex,eg;go_wp2_with fail;go_region
   all_goals (go_wp2_with fail;go_ret;exact⟨rfl,(Below.drew (aaw _ w)).alloc (aa1 br) _⟩)
  have c1:w.drew.cell? ⟨R,2,Z⟩=F (U (F ⟨g,0,Z⟩) 0 cap):=by have:w.drew.heap[R]?=F (O #[tv,av,U (F ⟨g,0,Z⟩) 0 cap,A G o,A G m] 92 (0,0)):=bN;rw[aaj _ _ _ _ _ _ this];rfl
  have hSD:(Builtin.unsafeSliceData_ #[88] 145 #[U (F ⟨g,0,Z⟩) 0 cap]).run cl w.drew=.ok (ca (F ⟨g,0,Z⟩)) w.drew:=
   Lib.run_unsafeSliceData_row _ _ _ _ _ _ hc0
  clear h bN hown hc0;go_enter ex,eg;go_wp2_with fail;go_region
  all_goals (go_wp2_with fail;go_ret;exact⟨rfl,Below.drew (aaw _ _)⟩)
 have hl0:out.length≠0:=by simpa using h0
 obtain⟨g,cap,cur,rfl,hbg,hg,bU,hcm,hcs,nu⟩:∃g cap cur,bv=U (F ⟨g,0,Z⟩) out.length cap/\R+1<=g/\w.heap[g]?=F (O cur 5 (0,0))/\out.length<=cap/\cap<=maxLen/\cur.size=cap*1/\cur.toList.take (out.length*1)=js out:=by
  rcases hown.2 with ⟨_,hz⟩|⟨g,cap,cur,hv,r⟩
  ·exact absurd hz hl0
  exact⟨g,cap,cur,hv,r⟩
 have c1:w.drew.cell? ⟨R,2,Z⟩=F (U (F ⟨g,0,Z⟩) out.length cap):=by have:w.drew.heap[R]?=F (O #[tv,av,U (F ⟨g,0,Z⟩) out.length cap,A G o,A G m] 92 (0,0)):=bN;rw[aaj _ _ _ _ _ _ this];rfl
 have hSD:(Builtin.unsafeSliceData_ #[88] 145 #[U (F ⟨g,0,Z⟩) out.length cap]).run cl w.drew=.ok (ca (F ⟨g,0,Z⟩)) w.drew:=
  Lib.run_unsafeSliceData_row _ _ _ _ _ _ (by omega)
 have hUS:(Builtin.unsafeString_ #[145,3] 9 #[ca (F ⟨g,0,Z⟩),A G out.length]).run cl w.drew=.ok (ce ⟨out.toArray⟩) (w.drew.freeze ⟨g,0,Z⟩ out.length):=by refine Lib.run_unsafeString_row w.drew 145 3 9 5 fa Tryz.cellsByte g cur.size (by have hg':w.drew.heap[g]?=F (O cur 5 (0,0)):=hg;simp[World.shape?,hg']) out h0 (by omega) (by unfold maxLen at hcm;omega) ?_;intro j x hx;have:=hown.cells (g:=g) rfl j (A .u8 x.toNat) (by simp[js,hx]);exact this
 obtain⟨n,hn⟩:=xq out.length;rw[<-hn]at c1 hSD hUS bU;clear h bN hown hn hl0 nu;go_enter ex,eg;go_wp2_with fail;go_region
 all_goals (go_wp2_with fail;go_ret;exact⟨rfl,Lib.below_freeze (Below.drew (aaw _ w)) (p:=⟨g,0,Z⟩) (by show R<=g;omega) _⟩)
theorem Qja:∀(a:List Nv) (k:Nat) (t:Nv),a[k]?=F t->(Xm a)[k*3]?=F (A G (t.1.op:Nat))/\(Xm a)[k*3+1]?=F (ce ⟨t.1.text.toArray⟩)/\(Xm a)[k*3+2]?=F t.2:=by
 intro a
 induction a with
 |nil=>intro k t h;simp at h
 |cons d cs ih=>
  intro k t h
  cases k with
  |zero=>simp at h;subst h;simp[Xm]
  |succ k=>
   simp only[abS]at h;obtain⟨E,H,I⟩:=ih k t h
   have e0:(k+1)*3=k*3+1+1+1:=by omega
   have e1:(k+1)*3+1=k*3+1+1+1+1:=by omega
   have e2:(k+1)*3+2=k*3+2+1+1+1:=by omega
   have ec:Xm (d::cs)=A G (d.1.op:Nat)::ce ⟨d.1.text.toArray⟩::d.2::Xm cs:=by simp[Xm]
   rw[e1,e2,e0,ec];simp only[abS];exact⟨E,H,I⟩
theorem KR.kl {ks:List Nat}(h:KR w R og v ks):KL w w.heap.size v (ks.map fun k:Nat=>(k:Int)):=by
 obtain⟨ao,E,rfl,H,I,J,K⟩:=h;refine⟨ao,E,by rw[aas],by simpa using H,I,fun h0=> ?_⟩;rw[aas]at h0;obtain⟨g,rfl,bi⟩:=K h0;refine⟨g,rfl,(J g rfl).2.1,fun j k hj=> ?_⟩;rw[aa9]at hj
 cases ha:ks[j]? with
 |none=>rw[ha]at hj;cases hj
 |some a=>rw[ha]at hj;cases hj;exact bi j a ha
theorem Tr.ndl {ns:List Nv}(h:Tr w B nv ns):kB w w.heap.size nv (aj.nL (ns.map Prod.fst)):=by
 obtain⟨ao,H,rfl,a1,a2,a3⟩:=Qj h.own
 have E:(aj.nL (ns.map Prod.fst)).length=ns.length:=by simp[aj.nL]
 refine⟨ao,H,by rw[E],by rw[E];exact a1,a2,fun h0=> ?_⟩;rw[E]at h0;obtain⟨g,rfl,-,b2,b3⟩:=a3 h0;refine⟨g,rfl,b2,fun j x hj=> ?_⟩;simp only[aj.nL,ab2,aa9]at hj
 cases hp:ns[j]? with
 |none=>rw[hp]at hj;cases hj
 |some p=>
  rw[hp]at hj
  cases hj
  have I:=(aaf.1 hp).1;obtain⟨c1,c2,c3⟩:=Qja ns j p hp;exact⟨by rw[b3 _ (by omega)];exact c1,by rw[b3 _ (by omega)];exact c2,p.2,by rw[b3 _ (by omega)];exact c3,(h.kids p (aai hp)).kl⟩
theorem KL.up (h:KL w B v ks)(hb:da B w w'){B':Nat}(hB:B<=B'):KL w' B' v ks:=by obtain⟨ao,E,rfl,H,I,J⟩:=h.below hb;refine⟨ao,E,rfl,H,I,fun h0=> ?_⟩;obtain⟨g,rfl,K,bi⟩:=J h0;exact⟨g,rfl,aal K hB,bi⟩
theorem kB.up {l:List aj.NI}(h:kB w B v l)(hb:da B w w'){B':Nat}(hB:B<=B'):kB w' B' v l:=by obtain⟨ao,E,rfl,H,I,J⟩:=h.below hb;refine⟨ao,E,rfl,H,I,fun h0=> ?_⟩;obtain⟨g,rfl,K,bi⟩:=J h0;refine⟨g,rfl,aal K hB,fun j x hj=> ?_⟩;obtain⟨a,b,kv,c,d⟩:=bi j x hj;exact⟨a,b,kv,c,d.up (aaw _ _) hB⟩
def KA (w:c9)(v:co)(ks:List Int):Prop:=∃ao cap,v=U ao ks.length cap/\ks.length<=cap/\cap<=maxLen/\∀j k,ks[j]?=F k-> ∃g o,ao=F ⟨g,o,Z⟩/\g<w.heap.size/\w.cell? ⟨g,o+j,Z⟩=F (A G k)
theorem KA.below (h:KA w v ks)(hb:da w.heap.size w w'):KA w' v ks:=by obtain⟨ao,E,rfl,I,J,K⟩:=h;refine⟨ao,E,rfl,I,J,fun j x hj=> ?_⟩;obtain⟨g,o,rfl,H,bi⟩:=K j x hj;exact⟨g,o,rfl,aal H hb.size,(hb.cell (p:=⟨g,o+j,Z⟩) H).trans bi⟩
theorem Qqx (w:c9)(ty:TypeId)(H:Nat)(ko:Option Addr)(aT:Nat):(Builtin.append_ #[41,41] ty #[U (F ⟨H,0,Z⟩) 0 0,U ko 0 aT]).run cl w=.ok (U (F ⟨H,0,Z⟩) 0 0) w:=by
 obtain⟨i0,h,E,I,J⟩:=aa0 Tryz.df
 cases ko<;>simp[Builtin.append_,run_underlying underlying41,sizeOf,typeInfo,h,Builtin.lenOf,Builtin.firstCells,storeCells,loadCells,loadCellsFrom]
theorem Ut {ops:Array Oper}{o:Oper}{a:Act}{K:Act->c9->Prop}{Q:Exit->Act->c9->Prop}{E:Prop}(hgd:o.guard=Z)(s x:Operand)
  (ho:o.op=.call {callee:=.builtin .append,args:= #[s,x],argTypes:= #[41,41]}) (H:Nat) (ko:Option Addr) (aT:Nat) (hs:a.eval s=U (F ⟨H,0,Z⟩) 0 0) (hx:a.eval x=U ko 0 aT)
  (h:∀w',Hid (w'=w)->K (a.put o.dst (U (F ⟨H,0,Z⟩) 0 0)) w'):if Region.wanted o (yielded ops a.tmps)=true then Oper.wp cl o a w K Q else E:=by
 have I:Region.wanted o (yielded ops a.tmps)=true:=by simp[Region.wanted,hgd]
 rw[if_pos I];unfold Oper.wp execOp;simp only[ho,resolve,invoke,builtin,aes,aet,acX,adw,abq,abX,hs,hx,Qqx];exact h _ rfl
theorem Jk (g o k:Nat):(⟨g,o,Z⟩:Addr).add k=⟨g,o+k,Z⟩:=by simp[Addr.add]
theorem Xa {b:Nat}{e:TypeId}{z:Nat}{xs:List co}(h:w.ownsRow b e z v n xs)(hk:∀g,v.ownBlock=F g->b<=g->g<w.heap.size->w'.heap[g]?=w.heap[g]?):w'.ownsRow b e z v n xs:=by
 refine⟨h.1,?_⟩;rcases h.2 with bi|⟨g,I,J,rfl,K,E,H⟩
 ·exact .inl bi
 exact .inr ⟨g,I,J,rfl,K,(hk g rfl K (aah.1 E).1).trans E,H⟩
def Qb2 (l:List aF.Op):List co:=l.flatMap fun o=>[A .u8 (o.kind:Nat),ce ⟨o.name.toArray⟩,A G (o.args:Nat)]
def StO (w:c9)(R:Nat)(sv:co)(dx:List aF.Op):Prop:=
 (∀q,sv.ownBlock=F q->q≠R/\q<w.heap.size)/\(dx≠[]->w.ownsRow (R+1) 167 3 sv dx.length (Qb2 dx))
theorem StO.keep {dx:List aF.Op}(h:StO w R sv dx)(hz:w.heap.size<=w'.heap.size)(hb:∀g,sv.ownBlock=F g->g≠R->g<w.heap.size->w'.heap[g]?=w.heap[g]?):StO w' R sv dx:=
 ⟨fun q hq=>⟨(h.1 q hq).1,aal (h.1 q hq).2 hz⟩,fun hne=>Xa (h.2 hne) fun g hg h1 h2=>hb g hg (by omega) h2⟩
structure WM (w:c9) (R:Nat) (tv:co) (L:List Tok) (i:Nat) (nv vv sv:co) (ns:List Nv) (vs:List Nat) (dx:List aF.Op) (want pw:Bool) (d:Nat):Prop where
 blk:w.heap[R]?=F (O #[tv,A G i,nv,vv,sv,db want,db pw,A G d] 116 (0,0))
 tks:oT w R tv L
 kM:w.ownsRow (R+1) 43 3 nv ns.length (Xm ns)
 sf:w.ownsRow (R+1) 3 1 vv vs.length (ints vs)
 uq:StO w R sv dx
 kids:∀p∈ns,KR w R Z p.2 p.1.kids
 AX:∀p∈ns,∀q,p.2.ownBlock=F q->nv.ownBlock≠F q/\vv.ownBlock≠F q/\sv.ownBlock≠F q
 yx:∀q,nv.ownBlock=F q->vv.ownBlock≠F q/\sv.ownBlock≠F q
 EX:∀q,vv.ownBlock=F q->sv.ownBlock≠F q
theorem WM.lt {L:List Tok}{ns:List Nv}{dx:List aF.Op}{want pw:Bool}(h:WM w R tv L i nv vv sv ns vs dx want pw d):R<w.heap.size:=(aah.1 h.blk).1
theorem WM.cells {L:List Tok}{ns:List Nv}{dx:List aF.Op}{want pw:Bool}(h:WM w R tv L i nv vv sv ns vs dx want pw d):w.cell? ⟨R,0,Z⟩=F tv/\w.cell? ⟨R,1,Z⟩=F (A G i)/\w.cell? ⟨R,2,Z⟩=F nv/\w.cell? ⟨R,3,Z⟩=F vv/\w.cell? ⟨R,4,Z⟩=F sv/\w.cell? ⟨R,5,Z⟩=F (db want)/\w.cell? ⟨R,6,Z⟩=F (db pw)/\w.cell? ⟨R,7,Z⟩=F (A G d):=by refine⟨?_,?_,?_,?_,?_,?_,?_,?_⟩<;>rw[aaj w R _ _ _ _ h.blk]<;>rfl
theorem WM.iH {L:List Tok}{ns:List Nv}{dx:List aF.Op}{want pw:Bool}(h:WM w R tv L i nv vv sv ns vs dx want pw d)(o:Nat):w.frozen? ⟨R,o,Z⟩=du:=aax w R o _ _ h.blk
theorem oT.low {L:List Tok}(h:oT w R v L)(hb:∀k,k<R->w'.heap[k]?=w.heap[k]?):oT w' R v L:=by obtain⟨ao,I,rfl,J,K,bi⟩:=h;refine⟨ao,I,rfl,J,K,fun h0=> ?_⟩;obtain⟨g,rfl,E,H⟩:=bi h0;exact⟨g,rfl,E,fun j t hj=>⟨(abe (hb g E)).trans (H j t hj).1,(abe (hb g E)).trans (H j t hj).2.1,(abe (hb g E)).trans (H j t hj).2.2⟩⟩
theorem KR.at {ks:List Nat}(h:KR w R Z v ks)(hz:w.heap.size<=w'.heap.size)(hb:∀q,v.ownBlock=F q->w'.heap[q]?=w.heap[q]?):KR w' R Z v ks:=by obtain⟨ao,H,rfl,I,J,E,K⟩:=h;refine⟨ao,H,rfl,I,J,fun q hq=>⟨(E q hq).1,aal (E q hq).2.1 hz,(E q hq).2.2⟩,fun h0=> ?_⟩;obtain⟨g,rfl,bi⟩:=K h0;exact⟨g,rfl,fun j k hj=>(abe (hb g rfl)).trans (bi j k hj)⟩
theorem WM.turn {L:List Tok}{ns:List Nv}{dx:List aF.Op}{want pw:Bool}(h:WM w R tv L i nv vv sv ns vs dx want pw d)(hz:w.heap.size<=w'.heap.size)
  (hb:∀k,k<w.heap.size->k≠R->w'.heap[k]?=w.heap[k]?) {i':Nat} {want' pw':Bool} {d':Nat} (hR:w'.heap[R]?=F (O #[tv,A G i',nv,vv,sv,db want',db pw',A G d'] 116 (0,0))):
  WM w' R tv L i' nv vv sv ns vs dx want' pw' d' where
 blk:=hR
 tks:=h.tks.low fun k hk=>hb k (ab1 hk h.lt) (ad9 hk)
 kM:=Xa h.kM fun g _ h1 h2=>hb g h2 (by omega)
 sf:=Xa h.sf fun g _ h1 h2=>hb g h2 (by omega)
 uq:=h.uq.keep hz fun g _ h1 h2=>hb g h2 h1
 kids:=fun p hp=>(h.kids p hp).at hz fun q hq=>by obtain⟨_,_,-,_,_,h3,_⟩:=h.kids p hp;have:=h3 q hq;exact hb q this.2.1 (by omega)
 AX:=h.AX
 yx:=h.yx
 EX:=h.EX
theorem WM.below {L:List Tok}{ns:List Nv}{dx:List aF.Op}{want pw:Bool}(h:WM w R tv L i nv vv sv ns vs dx want pw d)(hb:da w.heap.size w w'):WM w' R tv L i nv vv sv ns vs dx want pw d:=
 h.turn hb.size (fun k hk _=>hb.block k hk) ((hb.block R h.lt).trans h.blk)
theorem WM.set {L:List Tok}{ns:List Nv}{dx:List aF.Op}{want pw:Bool}(h:WM w R tv L i nv vv sv ns vs dx want pw d)(o:Nat)(u:co){i':Nat}{want' pw':Bool}{d':Nat}
  (hc:(#[tv,A G i,nv,vv,sv,db want,db pw,A G d]:Array co).setIfInBounds o u= #[tv,A G i',nv,vv,sv,db want',db pw',A G d']):
  WM (w.setCell ⟨R,o,Z⟩ u) R tv L i' nv vv sv ns vs dx want' pw' d':=
 h.turn (by simp[World.setCell]) (fun k _ hk=>aaN w ⟨R,o,Z⟩ k u hk) ((aao w R o _ _ u h.blk).trans (by rw[hc]))
theorem U0 (o:Nat){u:co}:da R w (w.setCell ⟨R,o,Z⟩ u):=(aaw R w).setCell (p:=⟨R,o,Z⟩) (aab R) u
theorem Vq {e:TypeId}{z:Nat}{xs:List co}{q:Nat}(h:w.ownsRow B e z v n xs)(hq:v.ownBlock=F q):B<=q/\q<w.heap.size:=h.lt q hq
theorem WM.vals {L:List Tok}{ns:List Nv}{dx:List aF.Op}{want pw:Bool}(h:WM w R tv L i nv vv sv ns vs dx want pw d)(hz:w.heap.size<=w'.heap.size){ri:co}{vs':List Nat}
  (hb:∀k,k<w.heap.size->k≠R->vv.ownBlock≠F k->w'.heap[k]?=w.heap[k]?) (hown:w'.ownsRow (R+1) 3 1 ri vs'.length (ints vs')) (hat:∀q,ri.ownBlock=F q->vv.ownBlock=F q\/w.heap.size<=q)
  (hR:w'.heap[R]?=F (O #[tv,A G i,nv,ri,sv,db want,db pw,A G d] 116 (0,0))):WM w' R tv L i nv ri sv ns vs' dx want pw d where
 blk:=hR
 tks:=h.tks.low fun k hk=>hb k (ab1 hk h.lt) (ad9 hk) (fun e=>by have:=(Vq h.sf e).1;omega)
 kM:=Xa h.kM fun g hg h1 h2=>hb g h2 (by omega) (h.yx g hg).1
 sf:=hown
 uq:=h.uq.keep hz fun g hg h1 h2=>hb g h2 h1 (fun e=>h.EX g e hg)
 kids:=fun p hp=>(h.kids p hp).at hz fun q hq=>by have hk:=h.AX p hp q hq;obtain⟨_,_,e,_,_,h3,_⟩:=h.kids p hp;have:=h3 q hq;exact hb q this.2.1 (by omega) hk.2.1
 AX:=fun p hp q hq=>by
  obtain⟨a,b,c⟩:=h.AX p hp q hq;refine⟨a,fun e=> ?_,c⟩;obtain⟨_,_,_,_,_,h3,_⟩:=h.kids p hp;have:=h3 q hq;rcases hat q e with h5|h5
  ·exact b h5
  omega
 yx:=fun q hq=>by
  obtain⟨a,b⟩:=h.yx q hq;refine⟨fun e=> ?_,b⟩;have:=(Vq h.kM hq).2;rcases hat q e with h5|h5
  ·exact a h5
  omega
 EX:=fun q hq e=>by
  have:=(h.uq.1 _ e).2;rcases hat q hq with h5|h5
  ·exact h.EX q h5 e
  omega
theorem WM.nodes {L:List Tok}{ns:List Nv}{dx:List aF.Op}{want pw:Bool}(h:WM w R tv L i nv vv sv ns vs dx want pw d)(hz:w.heap.size<=w'.heap.size){eJ:co}{nd:aj.Node}
  (hb:∀k,k<w.heap.size->k≠R->nv.ownBlock≠F k->w'.heap[k]?=w.heap[k]?) (hown:w'.ownsRow (R+1) 43 3 eJ (ns++[(nd,kv)]).length (Xm (ns++[(nd,kv)]))) (hat:∀q,eJ.ownBlock=F q->nv.ownBlock=F q\/w.heap.size<=q)
  (hk:KR w R Z kv nd.kids) (hka:∀q,kv.ownBlock=F q->nv.ownBlock≠F q/\vv.ownBlock≠F q/\sv.ownBlock≠F q)
  (hR:w'.heap[R]?=F (O #[tv,A G i,eJ,vv,sv,db want,db pw,A G d] 116 (0,0))):WM w' R tv L i eJ vv sv (ns++[(nd,kv)]) vs dx want pw d where
 blk:=hR
 tks:=h.tks.low fun k hk=>hb k (ab1 hk h.lt) (ad9 hk) (fun e=>by have:=(Vq h.kM e).1;omega)
 kM:=hown
 sf:=Xa h.sf fun g hg h1 h2=>hb g h2 (by omega) (fun e=>(h.yx g e).1 hg)
 uq:=h.uq.keep hz fun g hg h1 h2=>hb g h2 h1 (fun e=>(h.yx g e).2 hg)
 kids:=fun p hp=>by
  rcases aaP.1 hp with hp|hp
  ·refine(h.kids p hp).at hz fun q hq=> ?_
   have hk:=h.AX p hp q hq;obtain⟨_,_,e,_,_,h3,_⟩:=h.kids p hp;have:=h3 q hq;exact hb q this.2.1 (by omega) hk.1
  simp only[aaO]at hp;subst hp;refine hk.at hz fun q hq=> ?_;obtain⟨_,_,e,_,_,h3,_⟩:=hk;have:=h3 q hq;exact hb q this.2.1 (by omega) (hka q hq).1
 AX:=fun p hp q hq=>by
  have key:(nv.ownBlock≠F q/\vv.ownBlock≠F q/\sv.ownBlock≠F q)/\q<w.heap.size:=by
   rcases aaP.1 hp with hp|hp
   ·obtain⟨_,_,_,_,_,h3,_⟩:=h.kids p hp
    exact⟨h.AX p hp q hq,(h3 q hq).2.1⟩
   simp only[aaO]at hp;subst hp;obtain⟨_,_,_,_,_,h3,_⟩:=hk;exact⟨hka q hq,(h3 q hq).2.1⟩
  obtain⟨⟨a,b,c⟩,h6⟩:=key;refine⟨fun e=> ?_,b,c⟩;rcases hat q e with h5|h5
  ·exact a h5
  omega
 yx:=fun q hq=>by
  rcases hat q hq with h5|h5
  ·exact h.yx q h5
  exact⟨fun e=>by have:=(Vq h.sf e).2;omega,fun e=>by have:=(h.uq.1 _ e).2;omega⟩
 EX:=h.EX
theorem Qba {L:List Tok}{x:Bytes}:aj.Qk x (L.drop k)=(match L[k]? with|some t=>t.1==3 && t.2.1==x|none=>du):=by
 rcases adQ k L.length with h|h
 ·rw[aaL h,aad h];rfl
 rw[aaC h,abo h];rfl
theorem Vo {L:List Tok}{j:Nat}:aj.Qh j (L.drop k)=(match L[k]? with|some t=>t.1==j|none=>du):=by
 rcases adQ k L.length with h|h
 ·rw[aaL h,aad h];rfl
 rw[aaC h,abo h];rfl
def cK (L:List Tok)(k:Nat):Nat:=match L[k]? with|some t=>t.1|none=>0
theorem Qzc {L:List Tok}{t:Tok}(h:L[k]?=F t):cK L k=t.1:=by unfold cK;rw[h]
theorem Qzf {L:List Tok}(h:L[k]?=Z):cK L k=0:=by unfold cK;rw[h]
theorem Jf {L:List Tok}{j:Nat}(hj:j≠0):aj.Qh j (L.drop k)=(cK L k==j):=by
 rw[Vo];unfold cK
 cases L[k]? with
 |none=>simpa using Ne.symm hj
 |some t=>rfl
theorem Ha {L:List Tok}(k:Nat)(c0:w.cell? ⟨R,0,Z⟩=F tv)(tks:oT w R tv L)(hk:k<=9000000000000000):dj cl 133 #[ca (F ⟨R,0,Z⟩),A G k] w fun e w'=>e=.returned (A G (cK L k:Nat))/\da w.heap.size w w':=by
 obtain⟨ao,cap,rfl,t1,t2,t3⟩:=tks;obtain⟨n,hn⟩:=xq L.length;have HN:=zq hn;rw[<-hn]at t1 c0;by_cases hlt:k<n
 ·obtain⟨g,rfl,hg,hc⟩:=t3 (by omega)
  obtain⟨t,ht⟩:∃t,L[k]?=F t:=⟨_,aad (by omega)⟩;obtain⟨d0,-,-⟩:=hc k t ht;have HT:=zq ht;clear hc ht hn t3;go_enter ff,fb;go_wp2_with fail;go_ret;exact⟨by rw[Qzc HT.o];rfl,aaw _ _⟩
 have QA:Hid (L[k]?=Z):=abo (by omega);clear t3 hn;go_enter ff,fb;go_wp2_with fail;go_ret;exact⟨by rw[Qzf QA.o];rfl,aaw _ _⟩
theorem Rg  {L: List Tok} (k : Nat) (x : Bytes) (c0 : w.cell? ⟨R, 0, Z⟩ = F tv) (tks : oT w R tv L) (hk : k ≤ 9000000000000000) :dj cl 85 #[ca (F ⟨R, 0, Z⟩), A G (k : Nat), ce ⟨x.toArray⟩] w fun e w' => e = .returned (db (aj.Qk x (L.drop k))) ∧ da w.heap.size w w' := by
  obtain ⟨ao, cap, rfl, t1, t2, t3⟩ := tks
  obtain ⟨n, hn⟩ : ∃ n, n = L.length := ⟨_, rfl⟩
  have HN := zq hn
  rw [← hn] at t1 c0
  by_cases hlt : k < n
  · obtain ⟨g, rfl, hg, hc⟩ := t3 (by omega)
    obtain ⟨t, ht⟩ : ∃ t, L[k]? = F t := ⟨_, aad (by omega)⟩
    obtain ⟨d0, d1, -⟩ := hc k t ht
    have HC : Hid (aj.Qk x (L.drop k) = (t.1 == 3 && t.2.1 == x)) := by show _ = _; rw [Qba, ht]
    obtain ⟨tk, tt, tc⟩ := t
    clear hc ht hn t3
    go_enter func85, fi
    go_wp2_with fail
    all_goals
      go_ret
      refine ⟨?_, aaw _ _⟩
      rw [HC.o]
      show Ending.returned (Value.bool _) = Ending.returned (Value.bool _)
      congr 2
      first
        | (have q1 : tk = 3 := by omega
           subst q1; simp)
        | (have q1 : tk ≠ 3 := by omega
           simp [q1])
  have HC : Hid (aj.Qk x (L.drop k) = du) := by show _ = _; rw [aaC (by omega)]; rfl
  clear t3 hn
  go_enter func85, fi
  go_wp2_with fail
  go_ret
  exact ⟨by rw [HC.o]; rfl, aaw _ _⟩
end Go.Proofs.YtgfmiladfeoldaaGreatDoor
