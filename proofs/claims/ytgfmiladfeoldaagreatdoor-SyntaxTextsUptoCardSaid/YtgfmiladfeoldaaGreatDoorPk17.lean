import Derived.Test.YtgfmiladfeoldaaGreatDoorPk15
import Derived.Test.YtgfmiladfeoldaaGreatDoorPk14
set_option linter.unusedSimpArgs false
set_option linter.unusedVariables false
set_option maxRecDepth 100000
set_option maxHeartbeats 16000000
open Option renaming none->Z,some->F
open Go.Value renaming slice->U,int->A,string->ce
open Go.IntKind renaming i64->G
open Go.RowKit renaming Below->ca
open Go.Obj renaming cells->O
open Go.Proofs.Tryz renaming underlying41->cl,prog->co,slices_Equal_int_empty->c9
namespace Go.Proofs.YtgfmiladfeoldaaGreatDoor
open Go.RowKit aw ar
variable {B i n:Nat} {free:List Nat} {w:World}
theorem Tj {g cap m:Nat}{e:TypeId}{xs:List Value}(h:w.ownsRow B e 1 (U (F ⟨g,0,Z⟩) n cap) n xs)(hm:m<=n):w.ownsRow B e 1 (U (F ⟨g,0,Z⟩) m cap) m (xs.take m):=by
 obtain⟨am,I⟩:=h;rcases I with ⟨E,-⟩|⟨g',cap',H,E,J,K,h6,bi,T,aE⟩
 ·cases E
 cases E
 refine⟨by rw[aak];omega,.inr ⟨g,cap,H,rfl,J,K,by omega,bi,T,?_⟩⟩;rw[<-aE,acx];congr 1;omega
theorem Qw9 (l:List Nat)(m:Nat):(ints l).take m=ints (l.take m):=by simp[ints]
theorem below_grow {w' w'':World}{row:Option Nat}(h:ca w.heap.size w w')(hg:w'.grownBy w'' row)(hb:∀q,row=F q->w.heap.size<=q):ca w.heap.size w w'':=
 ⟨hg.os.trans h.os,hg.tape.trans h.tape,hg.output.trans h.output,aar h.size hg.size,fun k hk=>(hg.block k (aal hk h.size) (fun e=>by have:=hb k e.symm;omega)).trans (h.block k hk)⟩
def GrO (l:List aj.NI)(w:World)(r:Bool)(fv iv:Value)(wr:World):Prop:=
 ∃(i:Nat) (free:List Nat),i<=l.length/\iv=A G i/\free.length<=i/\aj.Zg aj.WV l.length i free (l.drop i)=r/\wr.ownsRow w.heap.size 3 1 fv free.length (ints free)/\ca w.heap.size w wr
theorem Pa {W:Int->Bytes->Bool}{x:aj.NI}{l:List aj.NI}(h:aj.Tg W n i free x=false):aj.Zg W n i free (x::l)=false:=by unfold aj.Zg;rw[h];rfl
theorem Qjf {W:Int->Bytes->Bool}{x:aj.NI}{l:List aj.NI}(h:x.kids≠aj.Vc free x.kids.length):aj.Zg W n i free (x::l)=false:=by unfold aj.Zg;rw[if_neg h];split<;>rfl
theorem Qqs {W:Int->Bytes->Bool}{x:aj.NI}{l:List aj.NI}(h:aj.Tg W n i free x=true)(hk:x.kids=aj.Vc free x.kids.length):aj.Zg W n i free (x::l)=aj.Zg W n (i+1) (free.take (free.length-x.kids.length)++[i]) l:=by
 conv=>lhs;unfold aj.Zg
 rw[if_pos h,if_pos hk]
theorem Qjg {w2:World}{ap:Option Addr}{B0 g M k N lf:Nat}{ko:Option Addr}{aT:Nat}{kids:List Int}(hk:k=kids.length)(hN:N=free.length)(hM:N=M+k)(px:KL w2 B (U ko k aT) kids)(hB:B<=w2.heap.size)
  (how:w2.ownsRow B0 3 1 (U (F ⟨g,0,Z⟩) N lf) N (ints free)) (hb:N<=4096) (hap:k≠0->ap=F ⟨g,M,Z⟩) (q d:Nat):
  Calls co 102 #[U ko k aT,U ap k d] (w2.drewN q) fun e w'=>e=.returned (.bool (decide (kids=aj.Vc free k)))/\ ∃m,w'=(w2.drewN q).drewN m:=by
 have E:aj.Vc free k=(free.drop M).map fun k:Nat=>(k:Int):=by unfold aj.Vc;rw[show free.length-k=M by omega]
 have J:g<w2.heap.size:=(how.lt g rfl).2
 have am:(aj.Vc free k).length=k:=by rw[E,aas,aan];omega
 by_cases h0:k=0
 ·have T:kids=[]:=aau (by omega)
  have bi:aj.Vc free k=[]:=aau (by omega);rw[bi,T];subst h0;exact(c9 ko ap aT 0 d (w2.drewN q) (by omega)).mono fun e w' ⟨h1,h2⟩=>⟨h1,0,h2⟩
 obtain rfl:=hap h0;obtain⟨ao,a0,H,-,-,aE⟩:=px;simp only[Value.slice.injEq]at H;obtain⟨rfl,-,rfl⟩:=H;obtain⟨gk,rfl,I,h⟩:=aE (by omega);refine(Tryz.slices_Equal_int gk 0 k aT g M k d kids (aj.Vc free k) (w2.drewN q) (by omega) (by omega) (by omega) (by omega) (fun j hj=> ?_) (fun j hj=> ?_)).mono fun e w' ⟨h1,h2⟩=>⟨h1.trans ?_,h2⟩
 ·rw[(Yz w2 q).cell (p:=⟨gk,0+j,Z⟩) (aal I hB),aaX,h j kids[j] (aad hj)]
  simp[abc,aad hj]
 ·have K:M+j<free.length:=by omega
  rw[(Yz w2 q).cell (p:=⟨g,M+j,Z⟩) J,how.cellAt (M+j) (by omega),E];simp[ints,abc,aad K]
 rw[aam (by omega),aam (by omega)];congr 2;rw[abj,ab9,abi]
theorem Qqn {l:List aj.NI}{w6:World}{r:Bool}{M gg dU:Nat}(hg:aj.Zg aj.WV l.length (i+1) (free.take M++[i]) (l.drop (i+1))=r)
  (hown:w6.ownsRow w.heap.size 3 1 (U (F ⟨gg,0,Z⟩) (M+1) dU) (M+1) (ints (free.take M)++[A G ((i:Nat):Int)])) (hb:ca w.heap.size w w6) (hi:i+1<=l.length) (hM:M<=i) (hMf:M<=free.length):
  GrO l w r (U (F ⟨gg,0,Z⟩) (M+1) dU) (A G ((i+1:Nat):Int)) w6:=by
 have e:(free.take M++[i]).length=M+1:=by rw[aag,aak];simp;omega
 refine⟨i+1,free.take M++[i],hi,rfl,by rw[e];omega,hg,?_,hb⟩;rw[e]
 have e2:ints (free.take M++[i])=ints (free.take M)++[A G ((i:Nat):Int)]:=by simp[ints]
 rw[e2];exact hown
theorem Qg0 {v:Value}{l:List aj.NI}(hl:l.length<=4096)(hwt:∀x∈l,∀kv w',ca w.heap.size w w'->Calls co 101 #[.agg #[A G x.op,ce ⟨x.text.toArray⟩,kv]] w' (N8 x.op x.text w'))(hv:kB w B v l)(hB:B<=w.heap.size):Calls co 50 #[v] w fun e w'=>e=.returned (.bool (aj.Zg aj.WV l.length 0 [] l))/\ca w.heap.size w w':=by
 obtain⟨i0,dR,hz0,hz1,AU⟩:=aa0 Tryz.df;have HV:=zq hv;have HWT:=zq hwt;obtain⟨ao,cap,rfl,bU,hcm,-⟩:=hv;obtain⟨n,hn⟩:=xq l.length;obtain⟨r,hr⟩:=xq (aj.Zg aj.WV l.length 0 [] l);have HR:=zq hr;rw[<-hr];rw[<-hn]at hl bU ⊢;have HN:=zq hn;clear hn hr hwt hcm;go_enter Tryz.func50,Tryz.ntmps50;go_wp2_with fail;go_loopw [3,9] (fun fv iv wr=>GrO l w r fv iv wr) (fun _ iv _=>n-(intOf iv).toNat)
 case atStart=>exact⟨0,[],aat _,rfl,aat _,HR.o.symm,⟨rfl,.inl ⟨rfl,rfl⟩⟩,aaw _ _⟩
 case round=>
  obtain⟨i,free,hi,rfl,vZ,hg,hown,hb⟩:=hrel;rw[<-HN.o]at hi hg;have HG:=zq hg;have HOW:=zq hown;have HB:=zq hb;have hzb:=hb.size;have HVR:=zq (HV.o.below (hb.mono hB));obtain⟨fo,lf,rfl,f1,f2,f3⟩:=Qj hown;obtain⟨N,hNe⟩:=xq free.length;rw[<-hNe]at vZ f1 HOW ⊢;have CM:=zq hNe;clear hg hown hb f3 hNe;by_cases hlt:i<n
  ·obtain⟨x,hx⟩:∃x,l[i]?=F x:=⟨_,aad (by rw[<-HN.o];exact hlt)⟩
   have rq:Hid (aj.Zg aj.WV n i free (x::l.drop (i+1))=r):=by show _=_;rw[<-HG.o];congr 1;obtain⟨h1,h2⟩:=aaf.1 hx;rw[aaL h1,h2]
   have y9:=zq (HWT.o x (aai hx));obtain⟨DF,bn,he,-,-,hc⟩:=HVR.o
   cases he
   obtain⟨gt,rfl,lA,hcell⟩:=hc (by rw[<-HN.o];omega);obtain⟨e0,e1,kv,e2,px⟩:=hcell i x hx;have kT:=zq px;obtain⟨ko,aT,rfl,k1,k2,k3⟩:=px;obtain⟨op,text,kids⟩:=x;simp only at e0 e1 e2 y9 kT k1 k2 k3;obtain⟨k,iK⟩:=xq kids.length;rw[<-iK]at e2 k1 kT;obtain⟨T,hT⟩:=xq (⟨text.toArray⟩:ByteArray);rw[<-hT]at e1;have Ic:=zq hT;have uT:=zq iK;clear hc hcell hx hT iK k3;obtain⟨w1,bA⟩:=xq (wr.alloc (O #[A G op,ce T,U ko k aT] 43))
   have hb1:ca wr.heap.size wr w1:=by rw[bA];exact Qq _ _
   have hg1:w1.heap[wr.heap.size]?=F (O #[A G op,ce T,U ko k aT] 43 (0,0)):=by rw[bA];exact aap _ _
   have aiZ:w1.heap.size=wr.heap.size+1:=by rw[bA];simp
   have d0:w1.cell? ⟨wr.heap.size,0,Z⟩=F (A G op):=by rw[aaj _ _ 0 _ _ _ hg1];rfl
   have d1:w1.cell? ⟨wr.heap.size,1,Z⟩=F (ce T):=by rw[aaj _ _ 1 _ _ _ hg1];rfl
   have d2:w1.cell? ⟨wr.heap.size,2,Z⟩=F (U ko k aT):=by rw[aaj _ _ 2 _ _ _ hg1];rfl
   have aK:=zq hb1;have HGB:=zq hg1;have I2:ca w.heap.size w w1:=HB.o.trans (hb1.mono hzb);have yI:=zq I2;have RY:=zq (y9.o (U ko k aT) w1 I2);rw[<-Ic.o]at RY;clear hb1 hg1 I2 HV;have hA:∃b c:Bool,aj.Al op=b/\((((i:Nat):Int)==((n:Nat):Int)-1)=c)/\(i+1==n)=c:=⟨_,_,rfl,rfl,by rw[abj];simp;omega⟩;obtain⟨b,c,ha1,ha2,ub⟩:=hA;have mm:=zq ha1;have ic:=zq ub;clear ha1 ub;by_cases qK:b=c
   ·
    subst qK
    cases VI:aj.cnt op k with
    |false=>
     have FJ:=zq VI
     have hF:Hid (r=false):=by show _=_;rw[<-rq.o];refine Pa ?_;unfold aj.Tg;simp only;rw[<-uT.o,FJ.o];simp
     clear VI
     cases b
     all_goals
      go_wp2_with fail;rw[<-bA];clear bA;refine(Uo op).mono ?_;rintro e w2 ⟨rfl,rfl⟩;rw[mm.o];go_wp2_with fail;refine(Sn op k).mono ?_;rintro e w2 ⟨rfl,rfl⟩;rw[FJ.o];go_wp2_with fail;go_ret
      exact⟨by rw[hF.o];rfl,yI⟩
    |true=>
     have FJ:=zq VI;clear VI;by_cases hkN:N<k
     ·have hF:Hid (r=false):=by show _=_;rw[<-rq.o];refine Pa ?_;unfold aj.Tg;simp only;rw[<-uT.o,<-CM.o,aa7 hkN];simp
      have zI:decide (((N:Nat):Int)<((k:Nat):Int))=true:=aa7 (by omega)
      cases b
      all_goals
       go_wp2_with fail;rw[<-bA];clear bA;refine(Uo op).mono ?_;rintro e w2 ⟨rfl,rfl⟩;rw[mm.o];go_wp2_with fail;refine(Sn op k).mono ?_;rintro e w2 ⟨rfl,rfl⟩;rw[FJ.o];go_wp2_with fail;go_ret;exact⟨by rw[hF.o];rfl,yI⟩
     have zI:decide (((N:Nat):Int)<((k:Nat):Int))=false:=aaQ (by omega)
     cases ZH:aj.WV op text with
     |false=>
      have RZ:=zq ZH
      have hF:Hid (r=false):=by show _=_;rw[<-rq.o];refine Pa ?_;unfold aj.Tg;simp only;rw[RZ.o];simp
      clear ZH
      cases b
      all_goals
       go_wp2_with fail;rw[<-bA];clear bA;refine(Uo op).mono ?_;rintro e w2 ⟨rfl,rfl⟩;rw[mm.o];go_wp2_with fail;refine(Sn op k).mono ?_;rintro e w2 ⟨rfl,rfl⟩;rw[FJ.o];go_wp2_with fail;refine RY.o.mono ?_;rintro e w2 ⟨rfl,hb2⟩;rw[RZ.o];have aI:=zq (Qv yI hb2);clear hb2;go_wp2_with fail;go_ret
       exact⟨by rw[hF.o];rfl,aI⟩
     |true=>
      have RZ:=zq ZH
      have UJ:Hid (aj.Tg aj.WV n i free ⟨op,text,kids⟩=true):=by show _=_;unfold aj.Tg;simp only;rw[RZ.o,<-uT.o,FJ.o,<-CM.o,mm.o,ic.o,aaQ hkN];simp
      clear ZH
      cases b
      all_goals
       go_wp2_with fail;rw[<-bA];clear bA;refine(Uo op).mono ?_;rintro e w2 ⟨rfl,rfl⟩;rw[mm.o];go_wp2_with fail;refine(Sn op k).mono ?_;rintro e w2 ⟨rfl,rfl⟩;rw[FJ.o];go_wp2_with fail;refine RY.o.mono ?_;rintro e w2 ⟨rfl,hb2⟩;rw[RZ.o];have hg2:=(hb2.block wr.heap.size (by omega)).trans HGB
       have c2:w2.cell? ⟨wr.heap.size,2,Z⟩=F (U ko k aT):=by rw[aaj _ _ 2 _ _ _ hg2];rfl
       have vV:ca wr.heap.size wr w2:=Qv aK hb2;have aI:=zq (HB.o.trans (vV.mono hzb));have uX:=zq (Qy HOW vV (aab _));have acU:=zq (kT.o.below (vV.mono (aar hB hzb)));have hz2:w.heap.size<=w2.heap.size:=aar hzb vV.size;obtain⟨M,hM⟩:∃M,N=M+k:=⟨N-k,by omega⟩;have ct:=zq hM
       have KZ:((N:Nat):Int)-((k:Nat):Int)=((M:Nat):Int):=by omega
       have hlen:N-M=k:=by omega
       have hMN:M<=N:=by omega
       clear hb2 hg2 vV hM d0 d1 d2;rcases uX.o.2 with ⟨he,hN0⟩|⟨g,fc,cur,he,hg1,-,VY,hfm,-,-⟩
       ·cases he
        have cZ:k=0:=by omega
        have hM0:M=0:=by omega
        subst cZ;subst hM0;have dA:kids=[]:=aau uT.o.symm
        have CE:Hid (aj.Zg aj.WV n (i+1) (free.take 0++[i]) (l.drop (i+1))=r):=by show _=_;rw[<-rq.o,Qqs UJ.o (by subst dA;simp[aj.Vc])];subst dA;rw[show free.length-([]:List Int).length=0 from by have h0:free.length=0:=CM.o.symm;rw[h0];rfl]
        have tU:Hid (w2.ownsRow w.heap.size 3 1 (U Z 0 0) 0 (ints (free.take 0))):=⟨rfl,.inl ⟨rfl,rfl⟩⟩
        have GI:Hid (∀q,(Value.slice Z 0 0).ownBlock=F q->w.heap.size<=q):=fun q hq=>by cases hq
        have HQ:Hid (∀w3,Calls co 102 #[U ko 0 aT,U Z 0 0] w3 fun e w'=>e=.returned (.bool true)/\w'=w3):=fun w3=>c9 ko Z aT 0 0 w3 (by omega);go_wp2_with fail;go_quiet ((go_at_call 102;exact Calls.quiet_of_same (HQ.o _)));obtain⟨w4,hw4⟩:=xq (w2.drewN nq)
        have cC:Hid (ca w.heap.size w w4):=by show ca _ _ _;rw[hw4];exact Qv aI (Yz w2 nq)
        have HT4:Hid (w4.ownsRow w.heap.size 3 1 (U Z 0 0) 0 (ints (free.take 0))):=by show World.ownsRow _ _ _ _ _ _ _;rw[hw4];exact Qy tU (Yz w2 nq) (aab _)
        have yt:w.heap.size<=w4.heap.size:=cC.o.size;rw[<-hw4];clear hw4;go_wp2_with (at_builtin;refine abk _ rfl _ _ 41 rfl w.heap.size 3 i0 (A G 0) 1 8 cl dR hz0 hz1 AU rfl (by omega) (U Z 0 0) 0 (ints (free.take 0)) rfl (HT4.o.alloc _) ⟨w4.heap.size,0,Z⟩ 1 1 [A G ((i:Nat):Int)] rfl rfl (ar.Qg _ _ _ _ rfl) (by simp[Value.oneCell']) (by omega) (by unfold maxLen;omega) (by omega) (by simp;omega) (w4.heap.size+1) (by simp) ?_);intro gg dU w6 eH lz vQ JU;have jg:Hid (ca w.heap.size w w6):=below_grow (cC.o.alloc yt _) lz (fun q hq=>GI.o q hq);have OZ:Hid (GrO l w r (U (F ⟨gg,0,Z⟩) (0+1) dU) (A G ((i+1:Nat):Int)) w6):=Qqn (HN.o ▸ CE.o) eH jg.o (by rw[<-HN.o];omega) (by omega) (CM.o ▸ by omega);clear eH lz vQ JU;go_wp2_with fail
        have hm6:n-(intOf (A G (((i:Nat):Int)+1))).toNat<n-(intOf (A G ((i:Nat):Int))).toNat:=by simp[intOf];omega
        have cB:(((i+1:Nat):Int))=((i:Nat):Int)+1:=by omega
        rw[cB]at OZ;exact⟨OZ,hm6⟩
       cases he
       obtain⟨ap,UX⟩:∃ap,(if lf=M then F (⟨g,0,Z⟩:Addr) else F ⟨g,M,Z⟩)=ap:=⟨_,rfl⟩
       have HQ:Hid (∀q d,Calls co 102 #[U ko k aT,U ap k d] (w2.drewN q) fun e w'=>e=.returned (.bool (decide (kids=aj.Vc free k)))/\ ∃m,w'=(w2.drewN q).drewN m):=
        fun q d=>Qjg uT CM ct acU (aar hB hz2) uX (by omega) (fun h0=>by rw[<-UX];exact if_neg (by omega)) q d
       have tU:Hid (w2.ownsRow w.heap.size 3 1 (U (F ⟨g,0,Z⟩) M lf) M (ints (free.take M))):=by show World.ownsRow _ _ _ _ _ _ _;rw[<-Qw9];exact Tj uX hMN
       have hs0:(0:Int)<=((M:Nat):Int):=by omega
       have hs1:((M:Nat):Int)<=((N:Nat):Int):=by omega
       have hs2:((N:Nat):Int)<=((lf:Nat):Int):=by omega
       have hwM:IntKind.i64.wrap ((M:Nat):Int)=((M:Nat):Int):=abh _ (by omega)
       have GI:Hid (∀q,(Value.slice (F ⟨g,0,Z⟩) M lf).ownBlock=F q->w.heap.size<=q):=fun q hq=>by cases hq;exact hg1
       by_cases NR:kids=aj.Vc free k
       ·have CE:Hid (aj.Zg aj.WV n (i+1) (free.take M++[i]) (l.drop (i+1))=r):=by
         show _=_;rw[<-rq.o,Qqs UJ.o (by simp only;rw[<-uT.o];exact NR)];rw[show free.length-kids.length=M by rw[<-uT.o,<-CM.o];have:=ct.o;omega]
        rw[aa7 NR]at HQ;clear NR;go_wp2_with fail;go_quiet ((go_at_call 102;exact Calls.quiet_of (HQ.o _ _)));obtain⟨w4,hw4⟩:=xq (w2.drewN nq)
        have cC:Hid (ca w.heap.size w w4):=by show ca _ _ _;rw[hw4];exact Qv aI (Yz w2 nq)
        have HT4:Hid (w4.ownsRow w.heap.size 3 1 (U (F ⟨g,0,Z⟩) M lf) M (ints (free.take M))):=by show World.ownsRow _ _ _ _ _ _ _;rw[hw4];exact Qy tU (Yz w2 nq) (aab _)
        have yt:w.heap.size<=w4.heap.size:=cC.o.size;rw[<-hw4];clear hw4;go_wp2_with (at_builtin;refine abk _ rfl _ _ 41 rfl w.heap.size 3 i0 (A G 0) 1 8 cl dR hz0 hz1 AU rfl (by omega) (U (F ⟨g,0,Z⟩) M lf) M (ints (free.take M)) rfl (HT4.o.alloc _) ⟨w4.heap.size,0,Z⟩ 1 1 [A G ((i:Nat):Int)] rfl rfl (ar.Qg _ _ _ _ rfl) (by simp[Value.oneCell']) (by omega) (by unfold maxLen;omega) (by omega) (by simp;omega) (w4.heap.size+1) (by simp) ?_);intro gg dU w6 eH lz vQ JU;have jg:Hid (ca w.heap.size w w6):=below_grow (cC.o.alloc yt _) lz (fun q hq=>GI.o q hq);have OZ:Hid (GrO l w r (U (F ⟨gg,0,Z⟩) (M+1) dU) (A G ((i+1:Nat):Int)) w6):=Qqn (HN.o ▸ CE.o) eH jg.o (by rw[<-HN.o];omega) (by omega) (CM.o ▸ by omega);clear eH lz vQ JU;go_wp2_with fail
        have hm6:n-(intOf (A G (((i:Nat):Int)+1))).toNat<n-(intOf (A G ((i:Nat):Int))).toNat:=by simp[intOf];omega
        have cB:(((i+1:Nat):Int))=((i:Nat):Int)+1:=by omega
        rw[cB]at OZ;exact⟨OZ,hm6⟩
       have hF:Hid (r=false):=by show _=_;rw[<-rq.o,Qjf (by simp only;rw[<-uT.o];exact NR)]
       rw[aaQ NR]at HQ;clear NR;go_wp2_with fail;go_quiet ((go_at_call 102;exact Calls.quiet_of (HQ.o _ _)));go_wp2_with fail;go_ret;exact⟨by rw[hF.o];rfl,Qv aI.o (Yz w2 nq)⟩
   have hF:Hid (r=false):=by
    show _=_;rw[<-rq.o];refine Pa ?_;unfold aj.Tg;simp only;rw[mm.o,ic.o]
    cases b<;>cases c<;>first|exact absurd rfl qK|simp
   cases b<;>cases c<;>first|exact absurd rfl qK|skip
   all_goals
    go_wp2_with fail;rw[<-bA];clear bA;refine(Uo op).mono ?_;rintro e w2 ⟨rfl,rfl⟩;rw[mm.o];go_wp2_with fail;go_ret;exact⟨by rw[hF.o];rfl,yI⟩
  obtain rfl:i=n:=by omega
  have HF:Hid (r=(N==1)):=by show _=_;rw[<-HG.o,HN.o,List.drop_length,CM.o];rfl
  have hN1:(((N:Nat):Int)==1)=(N==1):=by rw[abj];simp;omega
  clear hlt;go_wp2_with fail;go_ret;exact⟨by rw[HF.o];rfl,HB⟩
theorem Qw8 (vs:List Nat)(k:Nat):(ints vs).drop k=ints (vs.drop k):=by simp[ints]
theorem Fj (a b:List Nat):ints (a++b)=ints a++ints b:=by simp[ints]
theorem Qko (a:List Nat):(ints a).length=a.length:=by simp[ints]
def FrW (R:Nat)(w w':World)(nv vv sv eJ ri sv':Value):Prop:=
 ∀B,R<B->B<w.heap.size->nv.ownBlock≠F B->vv.ownBlock≠F B->sv.ownBlock≠F B->w'.heap[B]?=w.heap[B]? /\eJ.ownBlock≠F B/\ri.ownBlock≠F B/\sv'.ownBlock≠F B
def qg (R:Nat)(tv:Value)(L:List Tok)(i:Nat)(ns:List Nv)(vs:List Nat)(dx:List aF.Op)(want pw:Bool)(d:Nat)(op n:Nat)(text:Bytes)(w:World)(nv vv sv:Value)(e:Ending)(w':World):Prop:=
 e=.returned (.tuple #[])/\ca R w w'/\ ∃eJ ri sv' kv,WM w' R tv L i eJ ri sv' (ns++[(⟨op,text,vs.drop (vs.length-n)⟩,kv)]) (vs.take (vs.length-n)++[ns.length]) dx want pw d/\FrW R w w' nv vv sv eJ ri sv'
theorem Qdn {R:Nat}{tv:Value}{L:List Tok}{nv vv sv:Value}{ns:List Nv}{vs:List Nat}{dx:List aF.Op}{want pw:Bool}{d:Nat}(h:WM w R tv L i nv vv sv ns vs dx want pw d)
  (op n:Nat) (text:Bytes) (hop:op<=255) (hn:n<=vs.length) (fL:0<n) (hb1:vs.length<=134217728) (hb2:ns.length<=134217728):
  Calls co 137 #[.pointer (F ⟨R,0,Z⟩),A G op,ce ⟨text.toArray⟩,A G n] w (qg R tv L i ns vs dx want pw d op n text w nv vv sv):=by
 obtain⟨i0,hi,hz0,hz1,hz2⟩:=aa0 Tryz.df;obtain⟨j0,hj,ja,tz,mf⟩:=aa0 Tryz.oc;have H:=zq h;have br:=h.lt;obtain⟨c0,c1,c2,c3,c4,c5,c6,c7⟩:=h.cells;have f3:=h.iH 3;have f2:=h.iH 2;obtain⟨ao,aU,rfl,v1,v2,v3⟩:=Qj h.sf;obtain⟨gv,rfl,DZ,iJ,ud⟩:=v3 (by omega);obtain⟨m,hm⟩:=xq vs.length;have HM:=zq hm;rw[<-hm]at c3 hn hb1 v1;obtain⟨q,hq⟩:∃q,m=q+n:=⟨m-n,by omega⟩;have HQ:=zq hq;obtain⟨T,hT⟩:=xq (⟨text.toArray⟩:ByteArray);have HT:=zq hT;rw[<-hT]
 obtain⟨no,nn,bL,rQ⟩:∃no nn bL,nv=U no nn bL:=by obtain⟨a,b,e,-⟩:=Qj h.kM;exact⟨a,_,b,e⟩
 have KZ:((m:Nat):Int)-((n:Nat):Int)=((q:Nat):Int):=by omega
 have bA:IntKind.i64.wrap ((q:Nat):Int)=((q:Nat):Int):=abh _ (by omega)
 have hlen:m-q=n:=by omega
 have hs0:(0:Int)<=((q:Nat):Int):=by omega
 have hs1:((q:Nat):Int)<=((m:Nat):Int):=by omega
 have hs2:((m:Nat):Int)<=((aU:Nat):Int):=by omega
 have hne: ¬aU=q:=by omega
 have hnews:∀j u,(ints (vs.drop q))[j]?=F u->w.cell? ⟨gv,q+j,Z⟩=F u:=by intro j u hj;have e:=ud (q+j) (by have:=(aaf.1 hj).1;rw[Qko,aan]at this;omega);rw[e,<-hj,<-Qw8,abg]
 have kH:(ints (vs.drop q)).length=n*1:=by rw[Qko,aan,<-hm];omega
 have HNW:=zq hnews;have gY:=zq kH
 have sB:Hid (∀u∈ints (vs.drop q),u.oneCell'=true):=fun u hu=>by obtain⟨z,-,rfl⟩:=abw.1 hu;rfl
 have eG:ca w.heap.size w (w.alloc (O #[] 3)):=Qq _ _;have cT:=zq eG;have HOW:Hid ((w.alloc (O #[] 3)).drew.ownsRow (R+1) 3 1 (U (F ⟨w.heap.size,0,Z⟩) 0 0) 0 []):=Xh ((ab3 w #[] 0 (by omega) (by unfold maxLen;omega) rfl).drew) (show R+1<=w.heap.size by omega);clear h hm hT hnews kH eG v3 ud hq;go_enter Tryz.func137,Tryz.ntmps137;go_wp2_with fail
 go_region_held3 (fun w'=>w'.cell? ⟨R,3,Z⟩=F (U (F ⟨gv,0,Z⟩) m aU))
  (first
   |go_keep
   |(go_split_ands;(rw[hgrow.cell_far _ (by simp;omega) (by simp[Value.ownBlock];omega)];assumption)))
  ((refine ad6 _ (by rfl) _ _ _ (by rfl) (R+1) 3 i0 _ 1 8 cl hi hz0 hz1 hz2 rfl (by omega) (U (F ⟨w.heap.size,0,Z⟩) 0 0) 0 [] (by rfl) (by exact HOW)
      ⟨gv,q,Z⟩ n (aU-q) (ints (vs.drop q)) (by rfl) gY (fun j u h=>by rw[Jk];exact(cT.o.drew.cell (p:=⟨gv,q+j,Z⟩) iJ).trans (HNW.o j u h)) sB
      (by omega) (by unfold maxLen;omega) (by omega) (by simp;omega) (w.heap.size+1) (by simp) ?_;intro gg mB w2 hown2 hgrow hat dJ))
 have hb2:ca w.heap.size w w2:=cT.o.drew.grown hgrow (by simp) (fun q' hq'=>by
  have h1:(Value.slice (F ⟨w.heap.size,0,Z⟩) 0 0).ownBlock=F w.heap.size:=rfl
  rw[h1]at hq';cases hq';exact aab _)
 have rN:w.heap.size<=gg:=by
  rcases hat with h1|h1
  ·have h2:(Value.slice (F ⟨w.heap.size,0,Z⟩) 0 0).ownBlock=F w.heap.size:=rfl
   rw[h2]at h1;cases h1;exact aab _
  omega
 have kK:(vs.drop q).length=n:=by rw[aan,<-HM.o];omega
 have tM:Hid (KR w2 R Z (U (F ⟨gg,0,Z⟩) n mB) (vs.drop q)):=by
  have ho:=hown2;simp only[aaX,abv]at ho;obtain⟨ao',cap',e,x1,x2,x3⟩:=Qj ho
  cases e
  refine⟨_,_,by rw[kK],by rw[kK];exact x1,x2,fun q' hq'=>⟨?_,?_,by simp⟩,fun h0=>⟨gg,rfl,fun j k hj=> ?_⟩⟩
  ·obtain rfl:gg=q':=aav hq'
   exact aal br rN
  ·obtain rfl:gg=q':=aav hq'
   exact dJ
  obtain⟨g',e,-,-,x4⟩:=x3 (by omega)
  cases e
  rw[x4 j (by have:=(aaf.1 hj).1;omega)];rw[abg]at hj;simp[ints,hj]
 have lT:=zq rN;have O7:=zq dJ;have aI:=zq hb2;have eE:=zq (H.o.below hb2);have jS:=zq kK;clear c0 c1 c2 c3 c4 c5 c6 c7 f2 f3;obtain⟨c0,c1,c2,c3,c4,c5,c6,c7⟩:=eE.o.cells;have f3:=eE.o.iH 3;have sS:=eE.o.lt;rw[<-HM.o]at c3;rw[rQ]at c2
 have bu:nn=ns.length:=by obtain⟨a,b,e,-⟩:=Qj eE.o.kM;rw[rQ]at e;cases e;rfl
 have bw:=zq bu;have sA:=zq rQ;clear rQ bu
 have hs3:((q:Nat):Int)<=((aU:Nat):Int):=by omega
 have xQ:Hid ((w2.alloc (O #[A G nn] 3)).drew.ownsRow (R+1) 3 1 (U (F ⟨gv,0,Z⟩) q aU) q (ints (vs.take q))):=by
  have ho:=eE.o.sf;rw[<-HM.o]at ho;have h1:=Tj ho (show q<=m by omega)
  have e:(ints vs).take q=ints (vs.take q):=by simp[ints]
  rw[e]at h1;exact(Qy h1 (Qq w2 _) (aab _)).drew
 clear hb2 rN kK hown2 hgrow hat dJ;go_wp2_with fail;go_upto_region 1 with fail;go_cut [] (fun wx=>Hid (∃g5 bW,WM wx R tv L i nv (U (F ⟨g5,0,Z⟩) (q+1) bW) sv ns (vs.take q++[ns.length]) dx want pw d/\KR wx R Z (U (F ⟨gg,0,Z⟩) n mB) (vs.drop q)/\g5≠gg/\ca R w wx/\ ∀B,R<B->B<w.heap.size->(Value.slice (F ⟨gv,0,Z⟩) q aU).ownBlock≠F B->wx.heap[B]?=w.heap[B]? /\g5≠B))
 case first=>
  have yX:Hid (F R≠(Value.slice (F ⟨gv,0,Z⟩) q aU).ownBlock):=fun e=>by have h1:(Value.slice (F ⟨gv,0,Z⟩) q aU).ownBlock=F gv:=rfl;rw[h1]at e;cases e;omega
  have sF:Hid (R<(w2.alloc (O #[A G nn] 3)).drew.heap.size):=by show _<_;simp;omega
  have uF:Hid ((w2.alloc (O #[A G nn] 3)).drew.cell? ⟨R,3,Z⟩=F (U (F ⟨gv,0,Z⟩) m aU)):=((Qq w2 _).drew.cell (p:=⟨R,3,Z⟩) sS).trans c3;have rp:Hid ((w2.alloc (O #[A G nn] 3)).drew.frozen? ⟨R,3,Z⟩=false):=((Qq w2 _).drew.frozen (p:=⟨R,3,Z⟩) sS).trans f3
  have qh:Hid (∀g6 dU w5,w5.ownsRow (R+1) 3 1 (U (F ⟨g6,0,Z⟩) (q+1) dU) (q+1) (ints (vs.take q)++[A G nn])->(w2.alloc (O #[A G nn] 3)).drew.grownBy w5 (Value.slice (F ⟨gv,0,Z⟩) q aU).ownBlock->((Value.slice (F ⟨gv,0,Z⟩) q aU).ownBlock=F g6\/g6=w2.heap.size+1)->Hid (∃g5 bW,WM (w5.setCell ⟨R,3,Z⟩ (U (F ⟨g6,0,Z⟩) (q+1) dU)) R tv L i nv (U (F ⟨g5,0,Z⟩) (q+1) bW) sv ns (vs.take q++[ns.length]) dx want pw d/\KR (w5.setCell ⟨R,3,Z⟩ (U (F ⟨g6,0,Z⟩) (q+1) dU)) R Z (U (F ⟨gg,0,Z⟩) n mB) (vs.drop q)/\g5≠gg/\ca R w (w5.setCell ⟨R,3,Z⟩ (U (F ⟨g6,0,Z⟩) (q+1) dU))/\ ∀B,R<B->B<w.heap.size->(Value.slice (F ⟨gv,0,Z⟩) q aU).ownBlock≠F B->(w5.setCell ⟨R,3,Z⟩ (U (F ⟨g6,0,Z⟩) (q+1) dU)).heap[B]?=w.heap[B]? /\g5≠B)):=by
   intro g5 bW w5 ho hg hat;have XR:(Value.slice (F ⟨gv,0,Z⟩) q aU).ownBlock=F gv:=rfl;rw[XR]at hg hat;have wu:=O7.o;have WD:=lT.o
   have hsz:w2.heap.size+1<=w5.heap.size:=by have:=hg.size;simpa using this
   have hblk:∀k,k<w2.heap.size->k≠gv->w5.heap[k]?=w2.heap[k]? :=fun k hk hne=>(hg.block k (by simp;omega) (by simp;exact fun e=>hne e)).trans ((Qq w2 (O #[A G nn] 3)).drew.block k hk)
   have bz:∀k,k≠R->(w5.setCell ⟨R,3,Z⟩ (U (F ⟨g5,0,Z⟩) (q+1) bW)).heap[k]?=w5.heap[k]? :=fun k hk=>aaN w5 ⟨R,3,Z⟩ k _ hk;have ua:=(hblk R sS (by omega)).trans eE.o.blk;have x6:=(aao w5 R 3 _ _ (U (F ⟨g5,0,Z⟩) (q+1) bW) ua)
   have zR:g5=gv\/g5=w2.heap.size+1:=by
    rcases hat with e|e
    ·cases e;exact .inl rfl
    exact .inr e
   refine⟨g5,bW,eE.o.vals (by simp[World.setCell];omega) (fun k hk wH hkv=> ?_) ?_ (fun q' hq'=> ?_) (x6.trans (by simp)),?_,?_,?_,?_⟩
   ·rw[bz k wH]
    exact hblk k hk (fun e=>hkv (by rw[e];rfl))
   ·have hl:(vs.take q++[ns.length]).length=q+1:=by rw[aag,aak,<-HM.o];simp<;>omega
    rw[hl,Fj]
    have e:ints [ns.length]=[Value.int G nn]:=by rw[bw.o];rfl
    rw[e];exact Xa ho (fun g _ h1 _=>bz g (by omega))
   ·obtain rfl:g5=q':=aav hq'
    rcases zR with e|e
    ·left;rw[e];rfl
    right;omega
   ·exact tM.o.at (by simp[World.setCell];omega) (fun q' hq'=>by
     obtain rfl:gg=q':=aav hq';rw[bz gg (by omega)]
     exact hblk gg wu (by omega))
   ·rcases zR with e|e<;>omega
   ·refine⟨hg.os.trans aI.o.os,hg.tape.trans aI.o.tape,hg.output.trans aI.o.output,by simp[World.setCell];have:=aI.o.size;omega,fun k hk=> ?_⟩
    rw[bz k (by omega),hblk k (by omega) (by omega)];exact aI.o.block k (by omega)
   refine fun B DM hB hne=>⟨?_,?_⟩
   ·exact(bz B (by omega)).trans ((hblk B (by have:=aI.o.size;omega) (fun e=>hne (by rw[e];rfl))).trans (aI.o.block B hB))
   have:=aI.o.size;rcases zR with e|e
   ·rw[e];exact fun e=>hne (by rw[e];rfl)
   omega
  go_region_law
   ((refine ad6 _ (by rfl) _ _ _ (by rfl) (R+1) 3 i0 _ 1 8 cl hi hz0 hz1 hz2 rfl (by omega) (U (F ⟨gv,0,Z⟩) q aU) q (ints (vs.take q)) (by rfl) (by exact xQ) ⟨w2.heap.size,0,Z⟩ 1 1 [A G nn] (by rfl) (by rfl) (ad3 (cs:= #[A G nn]) (aap _ _)) (Ve rfl) (by omega) (by unfold maxLen;omega) (by omega) (by simp;omega) (w2.heap.size+1) (by simp) ?_;intro g5 bW w5 cf cY o9 gW;have e3:w5.cell? ⟨R,3,Z⟩=F (U (F ⟨gv,0,Z⟩) m aU):=(cY.cell_far ⟨R,3,Z⟩ sF yX).trans uF;have e4:w5.frozen? ⟨R,3,Z⟩=false:=(cY.frozen_far ⟨R,3,Z⟩ sF yX).trans rp))
  all_goals
   have HF:=qh.o g5 bW w5 cf cY o9;clear cf cY o9 gW e3 e4;go_wp2_with fail;go_meet;exact HF
 case rest=>
  obtain⟨g5,bW,hw,hk,mD,hb,kE⟩:=hcut.o;have tL:=zq kE;have HW:=zq hw;have HK:=zq hk;have HB:=zq hb;clear c0 c1 c2 c3 c4 c5 c6 c7 f3 hcut;obtain⟨c0,c1,c2,c3,c4,c5,c6,c7⟩:=HW.o.cells;have f2:=HW.o.iH 2;have vM:=HW.o.lt;rw[sA.o]at c2
  have HOWN:Hid ((wc.alloc (O #[A G op,ce T,U (F ⟨gg,0,Z⟩) n mB] 43)).ownsRow (R+1) 43 3 (U no nn bL) nn (Xm ns)):=by have h1:=HW.o.kM;rw[sA.o,<-bw.o]at h1;exact Qy h1 (Qq _ _) (aab _)
  have bu:nn<=134217728:=by rw[bw.o];exact hb2
  clear hw hk hb kE;go_wp2_with (at_builtin;refine abk _ rfl _ _ 23 rfl (R+1) 43 j0 (.agg #[A G 0,ce ⟨#[]⟩,U Z 0 0]) 3 48 Tryz.underlying23 hj ja tz mf rfl (by omega) (U no nn bL) nn (Xm ns) rfl HOWN.o ⟨wc.heap.size,0,Z⟩ 1 1 [A G op,ce T,U (F ⟨gg,0,Z⟩) n mB] rfl rfl (ar.Qg _ _ _ _ rfl) (by simp[Value.oneCell']) (by omega) (by unfold maxLen;omega) (by omega) (by simp;omega) (wc.heap.size+1) (by simp) ?_);intro g7 bX w7 dK aR fB lC
  have fX:F R≠(Value.slice no nn bL).ownBlock:=fun e=>by have:=(Vq HOWN e.symm).1;omega
  have vL:R<(wc.alloc (O #[A G op,ce T,U (F ⟨gg,0,Z⟩) n mB] 43)).heap.size:=by simp;omega
  have e2:w7.cell? ⟨R,2,Z⟩=F (U no nn bL):=(aR.cell_far ⟨R,2,Z⟩ vL fX).trans (((Qq wc _).cell (p:=⟨R,2,Z⟩) vM).trans c2);have e4:w7.frozen? ⟨R,2,Z⟩=false:=(aR.frozen_far ⟨R,2,Z⟩ vL fX).trans (((Qq wc _).frozen (p:=⟨R,2,Z⟩) vM).trans f2)
  have vJ:Hid (qg R tv L i ns vs dx want pw d op n text w nv (U (F ⟨gv,0,Z⟩) vs.length aU) sv (.returned (.tuple #[])) (w7.setCell ⟨R,2,Z⟩ (U (F ⟨g7,0,Z⟩) (nn+1) bX))):=by
   have hsz:wc.heap.size+1<=w7.heap.size:=by have:=aR.size;simpa using this
   have iX:=sA.o
   have hblk:∀k,k<wc.heap.size->nv.ownBlock≠F k->w7.heap[k]?=wc.heap[k]? :=fun k hk hne=>(aR.block k (by simp;omega) (by rw[<-iX];exact fun e=>hne e.symm)).trans ((Qq wc _).block k hk)
   have bz:∀k,k≠R->(w7.setCell ⟨R,2,Z⟩ (U (F ⟨g7,0,Z⟩) (nn+1) bX)).heap[k]?=w7.heap[k]? :=fun k hk=>aaN w7 ⟨R,2,Z⟩ k _ hk;have vK:=(hblk R vM (by rw[iX];exact fun e=>fX e.symm)).trans HW.o.blk;have UH:=(aao w7 R 2 _ _ (U (F ⟨g7,0,Z⟩) (nn+1) bX) vK)
   have iK:vs.drop (vs.length-n)=vs.drop q:=by rw[<-HM.o,HQ.o,abW]
   have YM:vs.take (vs.length-n)=vs.take q:=by rw[<-HM.o,HQ.o,abW]
   refine⟨rfl,?_,U (F ⟨g7,0,Z⟩) (nn+1) bX,U (F ⟨g5,0,Z⟩) (q+1) bW,sv,U (F ⟨gg,0,Z⟩) n mB,?_,?_⟩
   ·refine⟨aR.os.trans HB.o.os,aR.tape.trans HB.o.tape,aR.output.trans HB.o.output,by simp[World.setCell];have:=HB.o.size;omega,fun k hk=> ?_⟩
    rw[bz k (by omega),hblk k (by omega) (fun e=>by have:=(Vq HW.o.kM e).1;omega)];exact HB.o.block k hk
   ·rw[iK,YM]
    refine HW.o.nodes (by simp[World.setCell];omega) (fun k hk wH dA=> ?_) ?_ (fun q' hq'=> ?_) HK (fun q' hq'=> ?_) (UH.trans (by simp))
    ·rw[bz k wH];exact hblk k hk dA
    ·have e1:(ns++[((⟨op,text,vs.drop q⟩:aj.Node),Value.slice (F ⟨gg,0,Z⟩) n mB)]).length=nn+1:=by rw[aag,<-bw.o];rfl
     rw[e1,W7]
     have e2:Xm [((⟨op,text,vs.drop q⟩:aj.Node),Value.slice (F ⟨gg,0,Z⟩) n mB)]=[A G op,ce T,U (F ⟨gg,0,Z⟩) n mB]:=by rw[HT.o];rfl
     rw[e2];exact Xa dK (fun g _ h1 _=>bz g (by omega))
    ·obtain rfl:g7=q':=aav hq'
     rw[iX];rcases fB with e|e
     ·exact .inl e
     right;omega
    obtain rfl:gg=q':=aav hq';have hg1:=lT.o;refine⟨fun e=> ?_,fun e=>mD (aav e),fun e=> ?_⟩
    ·have:=(Vq H.o.kM e).2;omega
    have:=(H.o.uq.1 _ e).2;omega
   intro B DM hB k1 k2 k3;obtain⟨y1,y2⟩:=tL.o B DM hB k2;have kr:=HB.o.size;refine⟨(bz B (by omega)).trans ((hblk B (by omega) k1).trans y1),fun e=> ?_,fun e=>y2 (aav e),k3⟩;obtain rfl:g7=B:=aav e;rcases fB with e|e
   ·exact k1 (by rw[iX];exact e)
   omega
  clear dK aR fB lC fX vL;go_wp2_with fail;go_end0;exact vJ.o
end Go.Proofs.YtgfmiladfeoldaaGreatDoor
