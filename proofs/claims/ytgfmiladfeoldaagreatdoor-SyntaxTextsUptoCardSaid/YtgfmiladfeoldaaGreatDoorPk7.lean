import Derived.Test.YtgfmiladfeoldaaGreatDoorPk2
import Derived.Test.YtgfmiladfeoldaaGreatDoorPk3
import Derived.Test.YtgfmiladfeoldaaGreatDoorPk4
set_option linter.unusedSimpArgs false
set_option linter.unusedVariables false
set_option maxRecDepth 100000
set_option maxHeartbeats 16000000
open Go.Proofs.Tryz
open Go.Value renaming int->A,slice->U,string->dk
open Option renaming some->F,none->Z
open Go renaming World->ca,Value->da,Calls->de
open Go.RowKit renaming Hid->ce,Below->cl
open Go.IntKind renaming i64->G,u8->db
open Go.Proofs.Tryz renaming underlying88->co,prog->c9,underlying41->dj
namespace Go.Proofs.YtgfmiladfeoldaaGreatDoor
open Go.RowKit aw
variable {B:Nat} {v:da} {w:ca} {xs:List Nat}
theorem Tryz.ES:(Tryz.prog.info? 5).map (fun i=>(i.zero,i.size,i.bytes))=F (F (A db 0),1,1):=by kernel_rfl
def zm (l:List Nat):List da:=l.map fun d=> A db (d:Nat)
theorem Qjp (a b:List Nat):zm (a++b)=zm a++zm b:=by simp[zm]
theorem Po (w:ca)(k:Nat)(s:ByteArray)(pos:Nat):w.grownBy (w.iterAt k s pos) (F k):=
 ⟨rfl,rfl,rfl,by rw[Lib.iterAt_size];exact aab _,fun j _ hj=>Lib.iterAt_other w k j s pos (fun e=>hj (by rw[e]))⟩
theorem Qfy {ds:List Nat}(h:w.ownsRow B 5 1 v ds.length (zm ds))(hd:∀x∈ds,x<10):iQ w v ds:=by obtain⟨ao,H,rfl,K,J,bi⟩:=ar.Qj h;refine⟨fun k hk=>(h.lt k hk).2,ao,H,rfl,K,J,hd,fun i x hx=> ?_⟩;have T:i<ds.length:=(aaf.1 hx).1;obtain⟨g,I,_,_,E⟩:=bi (by omega);refine⟨g,0,I,?_⟩;rw[aaX,E i (by omega)];simp[zm,hx]
def Qf8 (s:ByteArray)(w:ca)(k:Nat)(f:Nat->List Nat)(dv:da)(wr:ca):Prop:=
 ∃pos,pos<=s.size/\wr.heap[k]?=F (.stringIter s pos)/\cl w.heap.size w wr/\wr.ownsRow w.heap.size 5 1 dv (f pos).length (zm (f pos))/\dv.ownBlock≠F k
theorem Wc {k:Nat}{s:ByteArray}{p:Nat}(h:w.heap[k]?=F (.stringIter s p)):w.iterPos k=p:=by simp[World.iterPos,h]
def Rb (n:Nat)(w:ca)(e:Ending)(w':ca):Prop:=∃v xs,e=.returned (.tuple #[v,A G 0])/\Fr w.heap.size w' v xs/\val xs=n/\strip xs=xs/\cl w.heap.size w w'
theorem Qm6 (s:ByteArray)(hs:s.size<=67108864)(h0:0<s.size)(hd:∀c∈s.data.toList,aZ.Qr c=true):de c9 236 #[dk s,A G 10] w (Rb (bC (ar.bZ s.data.toList)) w):=by
 obtain⟨i0,hi,hz0,hz1,hz2⟩:=aa0 Tryz.ES;have hsz:s.data.toList.length=s.size:=(aa2 s).symm;have dy:=zq hsz;have HD:=zq hd;clear hsz hd;go_enter func236,ntmps236;go_wp2_with (at_make;refine adO _ rfl _ _ 88 rfl w.heap.size 5 i0 (A db 0) 1 co hi hz0 hz1 _ _ _ s.size rfl rfl rfl ?b1 ?b2 ?b3 ?_)
 case b1=>rw[hz2];omega
 case b2=>unfold maxLen;omega
 case b3=>exact aab _
 intro w1 hown1 hgrow1;have hb1:cl w.heap.size w w1:=aaF (aaw _ _) hgrow1 (aab _) (fun k hk=>by cases hk);have Oi:=hb1.size;have HO:=zq hown1;have aK:=zq hb1;clear hown1 hgrow1 hb1;have hkw:w.heap.size<w1.heap.size:=(HO.o.lt w.heap.size rfl).2;go_wp2_with fail;go_loopw [6] (fun v wr=>Qf8 s w w1.heap.size (fun pos=>ar.bZ (s.data.toList.take pos)) v wr) (fun _ wr=>s.size-wr.iterPos w1.heap.size)
 case atStart=>exact⟨0,aat _,World.iter_heap w1 s 0,aK.o.alloc Oi _,HO.o.alloc _,by simp[Value.ownBlock];omega⟩
 case round=>
  obtain⟨pos,dO,hit,cI,hown,hne⟩:=hrel;have kr:w1.heap.size<wr.heap.size:=(aah.1 hit).1;by_cases hlt:pos<s.size
  ·have hn:=fun ty=>Lib.run_next_any_at (P:=c9) wr w1.heap.size s pos ty hit hlt
   have hpl:pos<s.data.toList.length:=by rw[dy.o];exact hlt
   have iI:=HD.o s.data.toList[pos] (List.getElem_mem hpl);have sW:=aaL hpl;have bF:s.data.toList.take (pos+1)=s.data.toList.take pos++[s.data.toList[pos]]:=aa8 hpl;generalize s.data.toList[pos]=b at*
   have zE:48<=b.toNat/\b.toNat<=57:=by simpa [aZ.Qr] using iI
   obtain⟨hv,hwd⟩:=ar.Qkb (b:=b) (r:=s.data.toList.drop (pos+1)) (by omega);rw[ar.Rn s pos hlt,ar.Rs s pos hlt,sW,hv,hwd]at hn;simp only[ab6]at hn
   have fI:ce (ar.bZ (s.data.toList.take (pos+1))=ar.bZ (s.data.toList.take pos)++[b.toNat-48]):=by show _=_;rw[bF,ar.Qqu];rfl
   have x9:cX b.toNat=b.toNat-48:=by unfold cX;rw[if_pos zE]
   have mL:=zq x9
   have jn:(ar.bZ (s.data.toList.take pos)).length=pos:=by rw[ar.bZ,aas,aak];omega
   have pZ:=zq jn;obtain⟨wi,pH⟩:=xq (wr.iterAt w1.heap.size s (pos+1):ca)
   have q1:wi.ownsRow w.heap.size 5 1 u6 (ar.bZ (s.data.toList.take pos)).length (zm (ar.bZ (s.data.toList.take pos))):=by rw[pH];exact hown.kept (Po wr w1.heap.size s (pos+1)) (.inr hne)
   have q2:cl w.heap.size w wi:=by rw[pH];exact Lib.below_iterAt cI (aa1 hkw) _ _
   have q3:wi.heap[w1.heap.size]?=F (.stringIter s (pos+1)):=by rw[pH];exact Lib.iterAt_heap _ _ _ _ _ hit
   have q4:w1.heap.size<wi.heap.size:=(aah.1 q3).1;rw[<-pH]at hn
   have HM:ce (s.size-(pos+1)<s.size-wr.iterPos w1.heap.size):=by show _<_;rw[Wc hit];omega
   clear pH hown cI hit sW bF hv hwd iI x9 jn;have Q3:=zq q3;have Q2:=zq q2;have bV:=zq hne;clear q3 q2 hne;obtain⟨TM,TN⟩:=zE;obtain⟨dg,iI⟩:=xq (b.toNat-48)
   have VP:dg<10:=by omega
   have tJ:=zq iI;generalize ar.bZ (s.data.toList.take pos)=al at*
   have hF:al.length<=67108864:=by have:=pZ.o;omega
   clear iI;go_wp2_with fail;refine(Kv b.toNat (by omega)).mono ?_;rintro e w' ⟨rfl,rfl⟩;rw[mL.o,<-tJ.o];go_wp2_with (at_builtin;refine abn _ rfl _ _ 88 rfl w.heap.size 5 i0 (A db 0) 1 1 co hi hz0 hz1 hz2 rfl (by decide) _ _ _ rfl (aaU q1 _) ⟨wi.heap.size,0,Z⟩ 1 1 [A db dg] rfl rfl (ar.Qg _ _ _ _ rfl) (by simp[Value.oneCell']) (by unfold maxLen;omega) (by omega) (by simp;omega) ?_);intro v3 w3 aB ax _ vU
   have hF2:w3.ownsRow w.heap.size 5 1 v3 (ar.bZ (s.data.toList.take (pos+1))).length (zm (ar.bZ (s.data.toList.take (pos+1)))):=by rw[fI.o,Qjp,aag,<-tJ.o];exact aB
   have qM:w3.heap[w1.heap.size]?=F (.stringIter s (pos+1)):=
    (ax.block w1.heap.size (by simp;omega) (fun e=>bV.o e.symm)).trans ((ads _ _ _ q4).trans Q3)
   have rp:ce (Qf8 s w w1.heap.size (fun pos=>ar.bZ (s.data.toList.take pos)) v3 w3):=⟨pos+1,by omega,qM,aaF (Q2.o.alloc (by omega) _) ax (by simp;omega) (fun q hq=>(aaB q1 q hq).1),hF2,by
    rcases vU with h|h
    ·rw[h];exact bV.o
    rw[h];simp;omega⟩
   have uU:ce (s.size-w3.iterPos w1.heap.size<s.size-wr.iterPos w1.heap.size):=by show _<_;rw[Wc qM];exact HM.o
   clear aB ax vU hF2 qM q1;go_wp2_with fail;exact⟨rp,uU⟩
  have hn:=fun ty=>Lib.run_next_end_at (P:=c9) wr w1.heap.size s pos ty hit hlt;have NW:s.data.toList.take pos=s.data.toList:=aam (by rw[dy.o];omega);simp only[NW]at hown
  have fg:(ar.bZ s.data.toList).length=s.size:=by rw[ar.bZ,aas,dy.o]
  have gj:=zq (Qfy hown (fun x hx=>by
   simp only[ar.bZ,abw]at hx;obtain⟨c,hc,rfl⟩:=hx;have:=HD.o c hc
   have h2:48<=c.toNat/\c.toNat<=57:=by simpa [aZ.Qr] using this
   omega))
  obtain⟨ao,cp,Oc,-,-⟩:=gj.o.shape;rw[fg]at Oc;subst Oc;have lS:=zq fg;have eM:=zq cI;have I3:=cI.size;clear hown cI NW fg hit hne;go_wp2_with fail;refine(Qj2 (by rw[lS.o];omega) gj).mono ?_;rintro e w2 ⟨v2,x2,rfl,a1,a2,a3,a4,a5⟩;have A1:=zq a1.1;have A2:=zq a2;have A4:=zq a4;have A5:ce (cl w.heap.size w w2):=eM.o.trans (a5.mono I3)
  have hx2:x2.length<=67108864:=by have:=lS.o;omega
  clear a1 a2 a3 a4 a5;go_wp2_with fail;refine(Y6 x2 A1 (by omega)).mono ?_;rintro e w3 ⟨v3,rfl,hf,hb3⟩;rw[A4.o]at hf;have B1:=zq (hf.mono A5.o.size);have B5:ce (cl w.heap.size w w3):=A5.o.trans (hb3.mono A5.o.size);clear hf hb3;go_wp2_with fail;go_ret2;exact⟨_,x2,rfl,B1,A2,A4,B5⟩
theorem K0 (s:ByteArray)(w:ca)(hs:s.size<=67108864)(h0:0<s.size)(hd:∀c∈s.data.toList,aZ.Qr c=true):de c9 209 #[dk s] w (Rb (bC (ar.bZ s.data.toList)) w):=by have HD:=zq hd;clear hd;go_enter func209,ntmps209;go_wp2_with fail;refine(Qm6 s hs h0 HD).mono ?_;rintro e w2 ⟨v2,x2,rfl,a1,a2,a4,a5⟩;have A1:=zq a1;have A2:=zq a2;have A4:=zq a4;have A5:=zq a5;clear a1 a2 a4 a5;go_wp2_with fail;go_ret2;exact⟨_,x2,rfl,A1,A2,A4,A5⟩
def Qps (s:ByteArray)(w:ca)(k:Nat)(dv bv:da)(wr:ca):Prop:=
 ∃(pos:Nat) (bb:Bool),pos<=s.size/\wr.heap[k]?=F (.stringIter s pos)/\cl w.heap.size w wr/\cE w.heap.size wr dv ((s.data.toList.take pos).filter aZ.Qr)/\dv.ownBlock≠F k/\bv=.bool bb/\ce (bb=ar.oU s.data.toList pos)/\ar.Ms s.data.toList pos
def Qct (t:ar.Bytes)(w:ca)(e:Ending)(w':ca):Prop:=
 (ar.Xe t=true/\e=.returned (.tuple #[U Z 0 0,A G 7])/\cl w.heap.size w w')\/(ar.Xe t=false/\Rb (bC (ar.bZ (t.filter aZ.Qr))) w e w')
theorem Qwe {t:ar.Bytes}(hr:ar.Vd t)(h0:t≠[])(hb:ar.Xe t=false):0<(t.filter aZ.Qr).length:=by
 have E:=ar.Qws h0 hb;have J:0<t.length:=abm.2 h0;simp only[ar.oU,abK,bne_iff_ne]at E;have H:t[t.length-1]∈t:=List.getElem_mem (by omega)
 have I:aZ.Qr t[t.length-1]=true:=by
  rcases hr _ H with h|h
  ·exact h
  exact absurd (by rw[aad (by omega),h]) E.2
 exact abm.2 (List.ne_nil_of_mem (List.mem_filter.2 ⟨H,I⟩))
theorem Hp (s:ByteArray)(w:ca)(hs:s.size<=67108864)(h0:0<s.size)(hr:ar.Vd s.data.toList):de c9 167 #[dk s] w (Qct s.data.toList w):=by
 obtain⟨i0,hi,hz0,hz1,hz2⟩:=aa0 Tryz.ES;have hsz:s.data.toList.length=s.size:=(aa2 s).symm;have dy:=zq hsz;have HD:=zq hr
 have PX:ce (s.data.toList≠[]):=by intro h;rw[h]at hsz;simp at hsz;omega
 clear hsz hr;go_enter func167,ntmps167;go_wp2_with (at_make;refine adO _ rfl _ _ 88 rfl w.heap.size 5 i0 (A db 0) 1 co hi hz0 hz1 _ _ _ s.size rfl rfl rfl ?b1 ?b2 ?b3 ?_)
 case b1=>rw[hz2];omega
 case b2=>unfold maxLen;omega
 case b3=>exact aab _
 intro w1 hown1 hgrow1;have hb1:cl w.heap.size w w1:=aaF (aaw _ _) hgrow1 (aab _) (fun k hk=>by cases hk);have Oi:=hb1.size;have HO:=zq hown1;have aK:=zq hb1;clear hown1 hgrow1 hb1;have hkw:w.heap.size<w1.heap.size:=(HO.o.lt w.heap.size rfl).2;go_wp2_with fail;go_loopw [4,5] (fun v b wr=>Qps s w w1.heap.size v b wr) (fun _ _ wr=>s.size-wr.iterPos w1.heap.size)
 case atStart=>exact⟨0,false,aat _,World.iter_heap w1 s 0,aK.o.alloc Oi _,HO.o.alloc _,by simp[Value.ownBlock];omega,rfl,rfl,ar.Qxm _⟩
 case round=>
  obtain⟨pos,bb,dO,hit,cI,hown,hne,rfl,lh,bm⟩:=hrel;have kr:w1.heap.size<wr.heap.size:=(aah.1 hit).1;have bS:=zq bm;clear bm;by_cases hlt:pos<s.size
  ·have hn:=fun ty=>Lib.run_next_any_at (P:=c9) wr w1.heap.size s pos ty hit hlt
   have hpl:pos<s.data.toList.length:=by rw[dy.o];exact hlt
   have iI:=HD.o s.data.toList[pos] (List.getElem_mem hpl);have sW:=aaL hpl;have bF:s.data.toList.take (pos+1)=s.data.toList.take pos++[s.data.toList[pos]]:=aa8 hpl;have hat:s.data.toList[pos]?=F s.data.toList[pos]:=aad hpl;generalize s.data.toList[pos]=b at*
   have DU:b.toNat<128:=by
    rcases iI with h|h
    ·have:48<=b.toNat/\b.toNat<=57:=by simpa [aZ.Qr] using h
     omega
    rw[h];decide
   obtain⟨hv,hwd⟩:=ar.Qkb (b:=b) (r:=s.data.toList.drop (pos+1)) DU;rw[ar.Rn s pos hlt,ar.Rs s pos hlt,sW,hv,hwd]at hn;simp only[ab6]at hn;have fI:=zq bF;have iF:=zq hat;obtain⟨al,hF⟩:=xq ((s.data.toList.take pos).filter aZ.Qr);rw[<-hF]at hown
   have hFl:al.length<=67108864:=by have h1:=acE aZ.Qr (s.data.toList.take pos);have h2:=adh pos s.data.toList;rw[hF];omega
   have HF:=zq hF;obtain⟨wi,pH⟩:=xq (wr.iterAt w1.heap.size s (pos+1):ca)
   have q1:wi.ownsRow w.heap.size 5 1 u4 al.length (Qu al):=by rw[pH];exact World.ownsRow.kept hown (Po wr w1.heap.size s (pos+1)) (.inr hne)
   have q2:cl w.heap.size w wi:=by rw[pH];exact Lib.below_iterAt cI (aa1 hkw) _ _
   have q3:wi.heap[w1.heap.size]?=F (.stringIter s (pos+1)):=by rw[pH];exact Lib.iterAt_heap _ _ _ _ _ hit
   have q4:w1.heap.size<wi.heap.size:=(aah.1 q3).1;rw[<-pH]at hn
   have HM:ce (s.size-(pos+1)<s.size-wr.iterPos w1.heap.size):=by show _<_;rw[Wc hit];omega
   clear pH hown cI hit sW bF hv hwd hF hat;have Q3:=zq q3;have Q2:=zq q2;have bV:=zq hne;clear q3 q2 hne;by_cases im:aZ.Qr b=true
   ·have zE:48<=b.toNat/\b.toNat<=57:=by simpa [aZ.Qr] using im
    obtain⟨TM,TN⟩:=zE
    have aix:((b.toNat:Int)==95)=false:=by simp;omega
    have vR:b≠95:=by rintro rfl;exact absurd im (by decide)
    have mL:ce (cX b.toNat=b.toNat-48):=by show _=_;unfold cX;rw[if_pos ⟨TM,TN⟩]
    have HTF:ce ((s.data.toList.take (pos+1)).filter aZ.Qr=al++[b]):=by show _=_;rw[fI.o,List.filter_append,HF.o];simp[im]
    have HBT:ce (true=ar.oU s.data.toList (pos+1)):=by show _=_;rw[ar.Qqj,iF.o];simp[vR]
    have eY:=zq (ar.Kr bS (fun h=>by rw[iF.o]at h;exact absurd (aav h) vR));obtain⟨dg,VS⟩:=xq (b.toNat-48)
    have VP:dg<10:=by omega
    have tJ:=zq VS;clear iI im vR VS lh;go_wp2_with fail;refine(Kv b.toNat (by omega)).mono ?_;rintro e w' ⟨rfl,rfl⟩;rw[mL.o,<-tJ.o];go_wp2_with (at_builtin;refine abn _ rfl _ _ 88 rfl w.heap.size 5 i0 (A db 0) 1 1 co hi hz0 hz1 hz2 rfl (by decide) _ _ _ rfl (aaU q1 _) ⟨wi.heap.size,0,Z⟩ 1 1 [A db b.toNat] rfl rfl (ar.Qg _ _ _ _ rfl) (by simp[Value.oneCell']) (by unfold maxLen;omega) (by omega) (by simp;omega) ?_);intro v3 w3 aB ax _ vU
    have hF2:cE w.heap.size w3 v3 ((s.data.toList.take (pos+1)).filter aZ.Qr):=by show World.ownsRow _ _ _ _ _ _ _;rw[HTF.o,Qs,aag];exact aB
    have qM:w3.heap[w1.heap.size]?=F (.stringIter s (pos+1)):=
     (ax.block w1.heap.size (by simp;omega) (fun e=>bV.o e.symm)).trans ((ads _ _ _ q4).trans Q3)
    have rp:ce (Qps s w w1.heap.size v3 (.bool true) w3):=⟨pos+1,true,by omega,qM,aaF (Q2.o.alloc (by omega) _) ax (by simp;omega) (fun q hq=>(aaB q1 q hq).1),hF2,by
     rcases vU with h|h
     ·rw[h];exact bV.o
     rw[h];simp;omega,rfl,HBT.o,eY.o⟩
    have uU:ce (s.size-w3.iterPos w1.heap.size<s.size-wr.iterPos w1.heap.size):=by show _<_;rw[Wc qM];exact HM.o
    clear aB ax vU hF2 qM q1;go_wp2_with fail;exact⟨rp,uU⟩
   have vR:b=95:=iI.resolve_left im;subst vR
   have HTF:ce ((s.data.toList.take (pos+1)).filter aZ.Qr=al):=by show _=_;rw[fI.o,List.filter_append,HF.o];simp[im]
   have zr:(95:UInt8).toNat=95:=rfl;rw[zr]at hn;clear iI im zr DU
   cases bb with
   |true=>
    have HBT:ce (false=ar.oU s.data.toList (pos+1)):=by show _=_;rw[ar.Qqj,iF.o];rfl
    have eY:=zq (ar.Kr bS (fun _=>lh.o.symm));have rp:ce (Qps s w w1.heap.size u4 (.bool false) wi):=⟨pos+1,false,by omega,Q3,Q2,by rw[HTF.o];exact q1,bV,rfl,HBT,eY⟩
    have uU:ce (s.size-wi.iterPos w1.heap.size<s.size-wr.iterPos w1.heap.size):=by show _<_;rw[Wc Q3.o];exact HM.o
    clear lh q1;go_wp2_with fail
    exact⟨rp,uU⟩
   |false=>have eK:=zq (ar.Qfm iF lh.o.symm);clear lh q1;go_wp2_with fail;refine(Kv 95 (by omega)).mono ?_;rintro e w' ⟨rfl,rfl⟩;rw[show cX 95=36 from by decide];go_wp2_with fail;go_ret2;exact .inl ⟨eK,rfl,Q2⟩
  have hn:=fun ty=>Lib.run_next_end_at (P:=c9) wr w1.heap.size s pos ty hit hlt;have NW:s.data.toList.take pos=s.data.toList:=aam (by rw[dy.o];omega)
  have KJ:pos=s.data.toList.length:=by rw[dy.o];omega
  rw[NW]at hown;have eM:=zq cI;have I3:=cI.size
  have eY:ce (ar.Ms s.data.toList s.data.toList.length):=by rw[<-KJ];exact bS.o
  have zF:ce (bb=ar.oU s.data.toList s.data.toList.length):=by rw[<-KJ];exact lh
  clear cI NW hit hne lh bS KJ
  cases bb with
  |false=>
   have eK:=zq (ar.F5 PX zF.o.symm);clear zF hown;go_wp2_with fail;go_ret2
   exact .inl ⟨eK,rfl,eM⟩
  |true=>
   have eX:=zq (ar.Qy9 eY zF.o.symm);have hcv:=Z9 (B:=w.heap.size) (w:=wr) (v:=u4) hown;have jn:=Qwe HD PX eX;have WB:=acE aZ.Qr s.data.toList;rw[dy.o]at WB
   have WC:(⟨(s.data.toList.filter aZ.Qr).toArray⟩:ByteArray).size=(s.data.toList.filter aZ.Qr).length:=by rw[aa2]
   have et:ce ((⟨(s.data.toList.filter aZ.Qr).toArray⟩:ByteArray).size<=67108864):=by show _<=_;rw[WC];omega
   have oM:ce (0<(⟨(s.data.toList.filter aZ.Qr).toArray⟩:ByteArray).size):=by show _<_;rw[WC];omega
   have LR:ce (∀c∈(⟨(s.data.toList.filter aZ.Qr).toArray⟩:ByteArray).data.toList,aZ.Qr c=true):=by intro c hc;simp only[List.toList_toArray]at hc;exact(List.mem_filter.1 hc).2
   clear zF hown jn WB WC;go_wp2_with fail;refine(K0 _ wr et oM LR).mono ?_;rintro e w2 ⟨v2,x2,rfl,a1,a2,a4,a5⟩;have A1:=zq (a1.mono I3);have A2:=zq a2;have A4:=zq a4;have A5:ce (cl w.heap.size w w2):=eM.o.trans (a5.mono I3);clear a1 a2 a4 a5;go_wp2_with fail;go_ret2;exact .inr ⟨eX,_,x2,rfl,A1,A2,A4,A5⟩
open ar aZ
def Qco (B:Nat)(ds:List Nat)(dv:da)(w:ca)(e:Ending)(w':ca):Prop:=
 e=.returned (A G ((Yt ds).2:Nat))/\cA B w' dv (Yt ds).1/\cl B w w'/\w'.heap.size=w.heap.size/\ ∀q,dv.ownBlock≠F q->w'.heap[q]?=w.heap[q]?
def Qd3 (B:Nat)(ds:List Nat)(dv:da)(w:ca)(sv si:da)(wr:ca):Prop:=
 ∃k,k<=ds.length/\si=A G ((k:Int)-1)/\sv=A G ((Yt (ds.drop k)).2:Nat)/\wr.ownsRow B 3 1 dv ds.length (Xi (ds.take k++(Yt (ds.drop k)).1))/\cl B w wr/\wr.heap.size=w.heap.size/\ ∀q,dv.ownBlock≠F q->wr.heap[q]?=w.heap[q]?
theorem Qmn {ds:List Nat}{dv:da}(hown:cA B w dv ds)(hds:∀d∈ds,d<65536):de c9 225 #[dv,A G 10] w (Qco B ds dv w):=by
 have HD:=zq hds;have HO:=zq hown;obtain⟨ao,cap,x9,bU,hcm,-⟩:=Qj hown;subst x9
 have hm:ds.length<=9223372036854775807:=by unfold maxLen at hcm;omega
 clear hds hown hcm;go_enter func225,ntmps225;go_wp2_with fail;go_loopw [5,6] (fun sv si wr=>Qd3 B ds (U ao ds.length cap) w sv si wr) (fun _ si _=>(intOf si+1).toNat)
 case atStart=>exact⟨ds.length,aab _,rfl,by rw[List.drop_length];rfl,by rw[List.drop_length,aby,show (Yt []).1=[] from rfl,abt];exact HO.o,aaw _ _,rfl,fun _ _=>rfl⟩
 case round=>
  obtain⟨k,hk,rfl,rfl,hown,hbl,hsz,kE⟩:=hrel;have aL:=zq hbl;have dy:=zq hsz;have tL:=zq kE;have tq:=Ny (ds.drop k)
  cases k with
  |zero=>
   have mN:=zq hown;clear hown hbl hsz kE;go_wp2_with fail;go_ret;refine⟨rfl,?_,aL,dy,tL⟩;show World.ownsRow _ _ _ _ _ _ _;rw[Mi];have:=mN.o;rw[aa4,aek,abv]at this
   exact this
  |succ k=>
   have hlt:k<ds.length:=by omega
   obtain⟨d,hd⟩:∃d,ds[k]?=F d:=⟨_,aad hlt⟩;have kj:=HD.o d (aai hd)
   have jU:ds.drop k=d::ds.drop (k+1):=by rw[aaL hlt];have:=aad hlt;rw[hd]at this;rw[aav this]
   have nu:ds.take (k+1)=ds.take k++[d]:=by have:=aaI (l:=ds) (i:=k);rw[hd]at this;exact this
   obtain⟨DF,bn,vX,-,-,aS⟩:=Qj hown;obtain⟨g,hao,hbg,nT,hcell⟩:=aS (by omega)
   cases vX
   subst hao
   have rU:(ds.take k).length=k:=by rw[aak];omega
   have e1:wr.cell? ⟨g,k,Z⟩=F (A G d):=by
    rw[hcell k (by omega),nu];rw[Xc,Xc,aaW,aaK (by rw[Yv];omega)]
    have:k-(Xi (ds.take k)).length=0:=by rw[Yv];omega
    rw[this];rfl
   have e2:wr.frozen? ⟨g,k,Z⟩=false:=hown.frozenAt k;obtain⟨r,hr⟩:=xq ((Yt (ds.drop (k+1))).2);rw[<-hr]at tq ⊢;have hst:=hown.stored k (A G (((r*65536+d) / 10:Nat)))
   have bz:(Xi (ds.take (k+1)++(Yt (ds.drop (k+1))).1)).set k (A G (((r*65536+d) / 10:Nat)))=Xi (ds.take k++(Yt (ds.drop k)).1):=by
    rw[nu,jU];show _=Xi (ds.take k++(((Yt (ds.drop (k+1))).2*65536+d) / 10::(Yt (ds.drop (k+1))).1));rw[<-hr,aaW,Xc,List.set_append_right _ _ (by rw[Yv];omega)]
    have:k-(Xi (ds.take k)).length=0:=by rw[Yv];omega
    rw[this,Xc [d],Xc (ds.take k)];rfl
   rw[bz]at hst;have HST:=zq hst
   have HR:ce ((Yt (ds.drop k)).2=(r*65536+d) % 10):=by show _=_;rw[jU,hr];rfl
   have hgz:g<wr.heap.size:=nT;clear hcell aS hst bz jU hd nu rU hown hr hbl hsz kE
   have ev:ce (Value.int G (((r:Int)*65536+(d:Int)) / 10)=A G (((r*65536+d) / 10:Nat):Int)):=by show _=_;congr 1
   have em:ce (Value.int G (((r:Int)*65536+(d:Int)) % 10)=A G (((r*65536+d) % 10:Nat):Int)):=by show _=_;congr 1
   have cB:(0:Int)<=((k+1:Nat):Int)-1:=by omega
   have gF:((((k+1:Nat):Int)-1).toNat)=k:=by omega
   go_wp2_with fail;rw[ev.o,em.o]
   refine⟨⟨k,by omega,by go_num,by rw[HR.o],HST.o.1,aL.o.setCell hbg _,by simpa [World.setCell] using dy.o,fun q hq=> ?_⟩,by simp[intOf]<;>omega⟩
   exact(aaN wr ⟨g,k,Z⟩ q _ (fun e=>hq (by rw[e];rfl))).trans (tL.o q hq)
def Ea (xs:List Nat)(w:ca)(e:Ending)(w':ca):Prop:=∃v,e=.returned v/\cA w.heap.size w' v (az (Xn xs))/\cl w.heap.size w w'
theorem Qw0 (x k:Nat)(hk:k<4):(four x).take (k+1)=(four x).take k++[quo x k % 65536]:=by
 have h:k=0\/k=1\/k=2\/k=3:=by omega
 rcases h with rfl|rfl|rfl|rfl<;>rfl
theorem Qm1 (x:Nat):∀k,quo x k<=x
 |0=>aab _
 |k+1=>aar (acB _ _) (Qm1 x k)
def SpO (xs:List Nat)(B:Nat)(w1:ca)(dv si:da)(wr:ca):Prop:=
 ∃i,i<=xs.length/\si=A G (i:Nat)/\cA B wr dv (Xn (xs.take i))/\cl B w1 wr
def SpI (xs:List Nat)(i x:Nat)(B:Nat)(w1:ca)(dv wv sk:da)(wr:ca):Prop:=
 ∃k,k<=4/\sk=A G (k:Nat)/\wv=A .u64 (quo x k:Nat)/\cA B wr dv (Xn (xs.take i)++(four x).take k)/\cl B w1 wr
theorem Ws (hv:ee w v xs)(hl:xs.length<=67108864):de c9 151 #[v] w (Ea xs w):=by
 obtain⟨i0,hi,hz0,hz1,hz2⟩:=aa0 Tryz.df;have HV:=zq hv;obtain⟨-,ao,cap,hve,h1,h2,h3,h4⟩:=hv;subst hve;have bS:=zq h3;obtain⟨n,hn⟩:=xq xs.length;have HN:=zq hn;have H4:=zq h4;rw[<-hn]at HV hl h1 ⊢
 have h4n:(0:Int)<=4*(n:Int):=by omega
 clear h3 h4 hn;go_enter func151,ntmps151;go_wp2_with (at_make;refine adO _ rfl _ _ 41 rfl w.heap.size 3 i0 (A G 0) 1 dj hi hz0 hz1 _ _ _ (4*n) rfl rfl ?hC ?b1 ?b2 ?b3 ?_)
 case hC=>omega
 case b1=>rw[hz2];omega
 case b2=>unfold maxLen;omega
 case b3=>exact aab _
 intro w1 hown1 hgrow1;have hb1:cl w.heap.size w w1:=aaF (aaw _ _) hgrow1 (aab _) (fun k hk=>by cases hk);have HOW:=zq hown1;have aK:=zq hb1;clear hown1 hgrow1 hb1;go_wp2_with fail;go_loopw [3,4] (fun dv si wr=>SpO xs w.heap.size w dv si wr) (fun _ si _=>n-(intOf si).toNat)
 case atStart=>exact⟨0,aat _,rfl,HOW,aK⟩
 case round=>
  obtain⟨i,iq,rfl,hown,hb⟩:=hrel;have hzz:=hb.size;rw[<-HN.o]at iq;by_cases hlt:i<n
  ·obtain⟨x,hx⟩:∃x,xs[i]?=F x:=⟨_,aad (by rw[<-HN.o];exact hlt)⟩
   obtain⟨g,o,hao,hc⟩:=H4.o i x hx;subst hao;have iJ:g<w.heap.size:=aaY w _ hc;have hc':wr.cell? ⟨g,o+i,Z⟩=F (A .u64 x):=(hb.cell (p:=⟨g,o+i,Z⟩) iJ).trans hc;have fY:x<18446744073709551616:=bS.o x (aai hx);have vz:=zq fY;have HOWN:=zq hown;have HB:=zq hb
   have fI:ce (Xn (xs.take (i+1))=Xn (xs.take i)++four x):=by show _=_;rw[aaI,hx];exact Qzk
   have aiP:(Xn (xs.take i)).length<=268435456:=by rw[Px,aak];omega
   clear hown hb hc hx;go_wp2_with fail;obtain⟨wo,Og⟩:=xq wr;rw[<-Og]at hzz HOWN HB ⊢;clear Og;go_loopw [3,5,6] (fun dv wv sk wr=>SpI xs i x w.heap.size w dv wv sk wr) (fun _ _ sk _=>4-(intOf sk).toNat)
   case atStart=>exact⟨0,by omega,rfl,rfl,by simpa using HOWN.o,HB⟩
   case round=>
    obtain⟨k,hk,rfl,rfl,hown,hb⟩:=hrel;have hzz:=hb.size;have aI:=zq hb;have qQ:quo x k<18446744073709551616:=abp (Qm1 x k) vz;by_cases hk4:k<4
    ·have HF4:=zq (Qw0 x k hk4)
     have QP:ce (quo x (k+1)=quo x k / 65536):=rfl;obtain⟨y,hy⟩:=xq (quo x k);rw[<-hy]at HF4 QP qQ ⊢;have hym:y % 65536<65536:=abL _ (by omega)
     have ix:ce (((y:Nat):Int) % 65536=((y % 65536:Nat):Int)):=by show _=_;omega
     have ma:IntKind.i64.wrap ((y:Int) % 65536)=(y:Int) % 65536:=abh _ (by omega)
     have iW:(Xn (xs.take i)++(four x).take k).length<=268435460:=by rw[aag,aak];omega
     clear hy hb;go_wp2_with (at_builtin;refine abQ _ rfl _ _ 41 rfl w.heap.size 3 i0 (A G 0) 1 8 dj hi hz0 hz1 hz2 rfl (by decide) _ _ _ rfl (aaU hown _) ⟨wr.heap.size,0,Z⟩ 1 1 [A G ((y:Int) % 65536)] rfl rfl (Qg _ _ _ _ rfl) (by simp[Value.oneCell']) (by unfold maxLen;omega) (by omega) (by simp;omega) ?_);intro v3 w3 aB ax _
     have aq:cA w.heap.size w3 v3 (Xn (xs.take i)++(four x).take (k+1))/\cl w.heap.size w w3:=by refine⟨?_,aaF (aI.o.alloc hzz _) ax (by simp;omega) (fun q hq=>(aaB hown q hq).1)⟩;show World.ownsRow _ _ _ _ _ _ _;rw[HF4.o,<-aaW,Xc,aag];rw[ix.o,<-aak,<-aag]at aB;exact aB
     have HF:=zq aq;clear aB ax aq;go_wp2_with fail;have aq:SpI xs i x w.heap.size w v3 (A .u64 ((y:Int) / 65536)) (A G ((k:Int)+1)) w3:=⟨k+1,by omega,by go_num,by rw[QP.o];rfl,HF⟩
     exact⟨aq,by simp[intOf]<;>omega⟩
    have hk4':k=4:=by omega
    subst hk4'
    have aq:cA w.heap.size wr u3 (Xn (xs.take (i+1))):=by rw[fI.o];exact hown
    have HF:=zq aq;clear hown aq hb qQ;go_wp2_with fail;have aq:SpO xs w.heap.size w u3 (A G ((i:Int)+1)) wr:=⟨i+1,by rw[<-HN.o];omega,by go_num,HF,aI⟩
    exact⟨aq,by simp[intOf]<;>omega⟩
  have ir:i=n:=by omega
  have hown2:cA w.heap.size wr u3 (Xn xs):=by rw[aam (by rw[<-HN.o];omega)]at hown;exact hown
  have mN:=zq hown2;have HB:=zq hb;clear hown hown2 hb;go_wp2_with fail;refine(Qzd mN).mono ?_;rintro e w2 ⟨v2,rfl,ho,rfl⟩;have HF:=zq ho;clear ho;go_wp2_with fail;go_ret;exact⟨_,rfl,HF,HB⟩
theorem Cg (hv:Rd w v xs)(hl:xs.length<=67108864):de c9 151 #[v] w (Ea xs w):=Ws hv.weak hl
def cJ (l:List Nat):Bytes:=l.map fun d=>UInt8.ofNat (48+d)
def Qp3 (N:Nat)(w1:ca)(dv lv:da)(wr:ca):Prop:=
 ∃ds low,az ds=ds/\(∀d∈ds,d<65536)/\dg N=dg (aP ds)++low.reverse/\(∀d∈low,d<10)/\cA w1.heap.size wr dv ds/\cE w1.heap.size wr lv (cJ low)/\(∀q,dv.ownBlock=F q->lv.ownBlock≠F q)/\cl w1.heap.size w1 wr
theorem Sj {w':ca}{B':Nat}{e:TypeId}{z:Nat}{n:Nat}{xs:List da}(h:w.ownsRow B e z v n xs)(hB:B'<=B)(hb:∀q,v.ownBlock=F q->w'.heap[q]?=w.heap[q]?):w'.ownsRow B' e z v n xs:=by
 refine⟨h.1,?_⟩;rcases h.2 with bi|⟨g,H,I,rfl,J,K,E⟩
 ·exact .inl bi
 exact .inr ⟨g,H,I,rfl,aar hB J,(hb g rfl).trans K,E⟩
def R6 (v:da):Nat:=match v with| U _ n _=>n|_=>0
def Qpr (m:Nat)(low:List Nat)(gl cq gh:Nat)(w1:ca)(si:da)(wr:ca):Prop:=
 ∃i,i<=m/\si=A G (i:Nat)/\wr.ownsRow w1.heap.size 5 1 (U (F ⟨gh,0,Z⟩) m m) m (Qu (List.replicate (m-i) 0++((cJ low).take i).reverse))/\wr.ownsRow w1.heap.size 5 1 (U (F ⟨gl,0,Z⟩) m cq) m (Qu (cJ low))/\cl w1.heap.size w1 wr
theorem Qjn (m:Nat):(madeCells #[Value.int db 0] m).toList=List.replicate m (Value.int db 0):=by
 apply List.ext_getElem
 ·simp[madeCells]
 intro i h E;simp[madeCells,Nat.mod_one]
theorem Qze (m:Nat):Qu (List.replicate m 0)=List.replicate m (Value.int db 0):=by simp[Qu]
theorem Qx6  (hv : ee w v xs) (hl : xs.length ≤ 67108864) :de c9 187 #[v, A G 10] w fun e w' => e = .returned (.tuple #[dk ⟨(aj.aA (val xs)).toArray⟩, A G 0]) ∧ cl w.heap.size w w' := by
  obtain ⟨i0, hi, hz0, hz1, hz2⟩ := aa0 Tryz.lK
  have HV := zq hv
  have bS := zq hv.ok
  obtain ⟨N, hN⟩ : ∃ N, N = val xs := ⟨_, rfl⟩
  rw [← hN]
  have HN := zq hN
  have fg : (dg N).length ≤ 1342177280 := by
    have h1 := Qdx (Jr xs)
    rw [Zr hv.ok, ← hN, Px] at h1
    omega
  clear hv hN
  go_enter func187, ntmps187
  go_wp2_with fail
  refine (Ws HV hl).mono ?_
  rintro e w1 ⟨d1, rfl, qP, hb1⟩
  have uW := zq qP
  have aK := zq hb1
  have UJ : Qp3 N w d1 (U Z 0 0) w1 := by
    refine ⟨az (Xn xs), [], Vh _, Zo (Jr _), ?_, fun d h => by simp at h, qP, abx _ _ _ _, fun q _ h => by simp [Value.ownBlock] at h, hb1⟩
    rw [Ye, Zr bS.o, HN.o]; simp
  have HST := zq UJ
  clear qP hb1 UJ
  go_wp2_with fail
  go_loopw [6, 7] (fun dv lv wr => Qp3 N w dv lv wr) (fun _ lv _ => (dg N).length - R6 lv)
  case atStart => exact HST
  case round =>
    obtain ⟨ds, low, hst, hsm, iI, fW, NV, tj, hne, hb⟩ := hrel
    have hzz := hb.size
    have tJ := zq iI
    have ry := zq fW
    have HB := zq hb
    have CV := zq hsm
    have bV := zq hne
    have fV : low.length ≤ 1342177280 := by
      have := aaE List.length iI
      rw [aag, acA] at this
      omega
    have HLEN : ce ((dg N).length = (dg (aP ds)).length + low.length) := by
      show _ = _
      rw [iI, aag, acA]
    have HD := zq NV
    have HL := zq tj
    obtain ⟨dso, gU, hde, -, dcm, -⟩ := Qj NV
    obtain ⟨lo, cq, hle, -, lcm, -⟩ := Qj tj
    subst hde
    subst hle
    have gV : (cJ low).length = low.length := by unfold cJ; rw [aas]
    by_cases h0 : ds = []
    · have fL : ds.length = 0 := by rw [h0]; rfl
      have JB : low.reverse = dg N := by rw [iI, h0, show aP [] = 0 from rfl, Jz]; rfl
      have HT := zq (Qbx JB)
      rw [fL]
      obtain ⟨m, hm⟩ : ∃ m, m = (cJ low).length := ⟨_, rfl⟩
      rw [gV] at hm
      rw [gV, ← hm] at HL ⊢
      have HM := zq hm
      by_cases nk : m = 0
      · have hl0 : low = [] := aau (by omega)
        have HT0 : ce (aj.aA N = [48]) := by show _ = _; rw [HT.o, if_pos hl0]
        subst nk
        clear hst hsm iI fW NV tj hne hb JB hm gV h0 fL dcm lcm hl0
        go_wp2_with fail
        go_ret2
        refine ⟨?_, HB.o⟩
        rw [HT0.o]; rfl
      have zY : m ≤ 1342177280 := by omega
      have hmz : (((m : Nat) : Int) == 0) = false := by simp; omega
      have qC : ce (aj.aA N = (cJ low).reverse) := by
        show _ = _
        rw [HT.o, if_neg (by rintro rfl; exact nk (by rw [hm]; rfl))]
        unfold cJ
        rw [List.map_reverse]
      clear hst hsm iI fW NV tj hne hb JB gV h0 fL dcm lcm
      obtain ⟨gl, iJ⟩ : ∃ gl, lo = F ⟨gl, 0, Z⟩ := by
        obtain ⟨ao', cap', e, _, _, a3⟩ := Qj HL
        cases e
        obtain ⟨g, hg, -⟩ := a3 (by have := HM.o; have : (cJ low).length = low.length := by unfold cJ; rw [aas]
                                    omega)
        exact ⟨g, hg⟩
      subst iJ
      have fp : ce ((cJ low).length = m) := by show _ = _; unfold cJ; rw [aas]; exact HM.o.symm
      have iG : ce (wr.ownsRow w.heap.size 5 1 (U (F ⟨gl, 0, Z⟩) m cq) m (Qu (cJ low))) := by
        have := HL.o
        unfold cE at this
        rw [fp.o] at this
        exact this
      clear hm
      go_wp2_with (at_make; refine wpList_make_full _ rfl _ _ 88 rfl w.heap.size 5 i0 (A db 0) 1 co hi hz0 hz1 _ _ _ _ m rfl rfl rfl rfl (by rw [hz2]; omega) (by unfold maxLen; omega) (by exact hzz) ?_)
      intro w4 bg aJ
      have ah8 := (HL.o.lt gl rfl)
      have y5 : ce (Qpr m low gl cq wr.heap.size w (A G 0) w4) := by
        refine ⟨0, aat _, rfl, ?_, ?_, aaF HB aJ hzz (fun k hk => by cases hk)⟩
        · have e : (madeCells (Value.int db 0).cells (m * 1)).toList = Qu (List.replicate (m - 0) 0 ++ ((cJ low).take 0).reverse) := by
            rw [show (Value.int db 0).cells = #[Value.int db 0] from rfl, abZ, Qjn, Nat.sub_zero, aek, List.reverse_nil, abt, Qze]
          rw [← e]
          show World.ownsRow _ _ _ _ _ _ (madeCells #[Value.int db 0] (m * 1)).toList
          rw [abZ]; exact bg
        exact World.ownsRow.kept iG aJ (.inr (by simp [Value.ownBlock]))
      have mD : gl ≠ wr.heap.size := by omega
      have adf := zq mD
      clear bg aJ
      go_wp2_with fail
      obtain ⟨wo, Og⟩ : ∃ wo, wo = wr := ⟨_, rfl⟩
      subst Og
      go_loopw [10] (fun si wr => Qpr m low gl cq wo.heap.size w si wr) (fun si _ => m - (intOf si).toNat)
      case atStart => exact y5
      case round =>
        obtain ⟨i, dR, rfl, EK, tj, hb⟩ := hrel
        have hzz := hb.size
        have HB := zq hb
        have HOL := zq tj
        by_cases hlt : i < m
        · have EP : ((cJ low).take i).length = i := by rw [aak, fp.o]; omega
          obtain ⟨c, hc⟩ : ∃ c, (cJ low)[i]? = F c := ⟨_, aad (by rw [fp.o]; exact hlt)⟩
          obtain ⟨ao', cap', e, _, _, a3⟩ := Qj tj
          cases e
          obtain ⟨g', e, b1, b2, b3⟩ := a3 (by omega)
          cases e
          have c1 : wr.cell? ⟨gl, i, Z⟩ = F (A db ((c.toNat : Nat) : Int)) := by rw [b3 i (by omega)]; simp [Qu, hc]
          obtain ⟨k, hk⟩ : ∃ k, m = i + 1 + k := ⟨m - i - 1, by omega⟩
          have eu : ((m : Nat) : Int) - 1 - (i : Int) = ((k : Nat) : Int) := by omega
          have hk2 : (0 : Int) ≤ ((k : Nat) : Int) := by omega
          have hk3 : ((k : Nat) : Int) < ((m : Nat) : Int) := by omega
          have hst := EK.stored k (A db ((c.toNat : Nat) : Int))
          have bz : (Qu (List.replicate (m - i) 0 ++ ((cJ low).take i).reverse)).set k (A db ((c.toNat : Nat) : Int)) = Qu (List.replicate (m - (i + 1)) 0 ++ ((cJ low).take (i + 1)).reverse) := by
            have e1 : m - i = k + 1 := by omega
            have e2 : m - (i + 1) = k := by omega
            rw [e1, e2, aaI, hc, List.reverse_append, List.replicate_succ', aaW, Qs, List.set_append_right _ _ (by simp [Qu])]
            rw [Qs (List.replicate k 0)]
            simp [Qu]
          rw [bz] at hst
          have f1 : wr.frozen? ⟨wo.heap.size, k, Z⟩ = false := EK.frozenAt k
          have ah6 : wo.heap.size < wr.heap.size := (EK.lt _ rfl).2
          obtain ⟨q1, ix⟩ : ∃ q1, wr.cell? ⟨wo.heap.size, k, Z⟩ = F q1 := by
            obtain ⟨ao', cap', e, _, _, a3⟩ := Qj EK
            cases e
            obtain ⟨g', e, b1, b2, b3⟩ := a3 (by omega)
            cases e
            refine ⟨_, (b3 k (by omega)).trans (aad ?_)⟩
            simp [Qu, EP]; omega
          have aQ : ce (Qpr m low gl cq wo.heap.size w (A G ((i : Int) + 1)) (wr.setCell ⟨wo.heap.size, k, Z⟩ (A db ((c.toNat : Nat) : Int)))) := by
            refine ⟨i + 1, by omega, by go_num, hst.1, ?_, HB.o.setCell (by assumption) _⟩
            exact World.ownsRow.kept HOL hst.2 (.inr (by simp [Value.ownBlock]; exact adf))
          clear hst bz EK tj hb hk hc b3 EP
          go_wp2_with fail
          exact ⟨aQ, by simp [intOf] <;> omega⟩
        have him : i = m := by omega
        have hown : cE w.heap.size wr (U (F ⟨wo.heap.size, 0, Z⟩) m m) (cJ low).reverse := by
          have e : List.replicate (m - i) (0 : UInt8) ++ ((cJ low).take i).reverse = (cJ low).reverse := by rw [him, Nat.sub_self, aam (by rw [fp.o]; exact aab _)]; rfl
          rw [e] at EK
          show World.ownsRow _ _ _ _ _ _ _
          rw [acA, fp.o]
          exact EK
        have hcv := Z9 hown
        rw [← qC.o] at hcv
        clear EK tj hb hown
        go_wp2_with fail
        go_ret2
        exact ⟨rfl, HB.o⟩
    have JQ : 0 < ds.length := by
      rcases abY ds.length with h | h
      · exact absurd (aau h) h0
      exact h
    have wU := Qb4 hst h0
    have sB := zq wU
    have tq := Ny ds
    have hqs := Kt hsm
    have QP := zq hqs
    have jX := Mi ds
    obtain ⟨g, rfl⟩ : ∃ g, dso = F ⟨g, 0, Z⟩ := by
      obtain ⟨ao', cap', e, _, _, a3⟩ := Qj NV
      cases e
      obtain ⟨g, hg, -⟩ := a3 JQ
      exact ⟨g, hg⟩
    have HLP := zq JQ
    clear hst hsm iI fW hne hb wU hqs dcm lcm NV tj
    go_wp2_with fail
    refine (Qmn HD CV).mono ?_
    rintro e w2 ⟨rfl, XS, hb2, hz2', hf2⟩
    obtain ⟨r, hr⟩ : ∃ r, r = (Yt ds).2 := ⟨_, rfl⟩
    rw [← hr] at tq sB ⊢
    have XV : cE w.heap.size w2 (U lo (cJ low).length cq) (cJ low) := by refine Sj HL (aab _) fun q hq => hf2 q (fun e => bV.o q e hq)
    have OQ := zq XS
    have iG := zq XV
    have aI : ce (cl w.heap.size w w2) := HB.o.trans hb2
    have aha : w.heap.size ≤ w2.heap.size := aI.o.size
    obtain ⟨qs, hqq⟩ : ∃ qs, qs = (Yt ds).1 := ⟨_, rfl⟩
    rw [← hqq] at jX QP OQ sB
    clear XS XV hb2 hz2' hf2 hr hqq
    have CH : ce (w2.ownsRow w.heap.size 5 1 (U lo low.length cq) low.length (Qu (cJ low))) := by
      have := iG.o
      unfold cE at this
      rw [gV] at this
      exact this
    have VC : ((⟨#[48, 49, 50, 51, 52, 53, 54, 55, 56, 57, 97, 98, 99, 100, 101, 102, 103, 104, 105, 106, 107, 108, 109, 110, 111, 112, 113, 114, 115, 116, 117, 118, 119, 120, 121, 122]⟩ : ByteArray)[r]'(ab1 tq (by decide))) = UInt8.ofNat (48 + r) := by
      have h : r = 0 ∨ r = 1 ∨ r = 2 ∨ r = 3 ∨ r = 4 ∨ r = 5 ∨ r = 6 ∨ r = 7 ∨ r = 8 ∨ r = 9 := by omega
      rcases h with rfl | rfl | rfl | rfl | rfl | rfl | rfl | rfl | rfl | rfl <;> rfl
    have yF := zq VC
    clear VC
    obtain ⟨bb, lh⟩ : ∃ bb : Nat, bb = ((⟨#[48, 49, 50, 51, 52, 53, 54, 55, 56, 57, 97, 98, 99, 100, 101, 102, 103, 104, 105, 106, 107, 108, 109, 110, 111, 112, 113, 114, 115, 116, 117, 118, 119, 120, 121, 122]⟩ : ByteArray)[r]'(ab1 tq (by decide))).toNat := ⟨_, rfl⟩
    have eL := zq lh
    clear lh
    go_wp2_with (at_builtin; refine abn _ rfl _ _ 88 rfl w.heap.size 5 i0 (A db 0) 1 1 co hi hz0 hz1 hz2 rfl (by decide) _ _ _ rfl (aaU CH.o _) ⟨w2.heap.size, 0, Z⟩ 1 1 _ rfl rfl (Qg _ _ _ _ rfl) (Ve rfl) (by unfold maxLen; omega) (by omega) (by simp; omega) ?_)
    intro v3 w3 aB ax _ eZ
    have hb3 : cl w.heap.size w w3 := aaF (aI.o.alloc aha _) ax (by simp; omega) (fun q hq => (aaB CH q hq).1)
    have XT : cA w.heap.size w3 (U (F ⟨g, 0, Z⟩) ds.length gU) qs := by
      refine World.ownsRow.kept (aaU OQ _) ax (.inr fun e => ?_)
      exact bV.o g rfl (by cases lo with
        | none => cases e
        | some a => exact e.symm)
    have KG : cE w.heap.size w3 v3 (cJ (low ++ [r])) := by
      show World.ownsRow _ _ _ _ _ _ _
      have e : Qu (cJ (low ++ [r])) = Qu (cJ low) ++ [A db ((UInt8.ofNat (48 + r)).toNat : Nat)] := by simp [cJ, Qu]
      have e2 : (cJ (low ++ [r])).length = low.length + 1 := by simp [cJ]
      rw [e, e2, ← yF.o]
      exact aB
    have XK : v3.ownBlock ≠ F g := by
      rcases eZ with h | h
      · rw [h]
        exact fun e => bV.o g rfl (by cases lo with
          | none => cases e
          | some a => exact e)
      rw [h]
      have := (aaB OQ g rfl).2
      simp
      omega
    have aV := zq hb3
    have CC := zq XT
    have HL4 := zq KG
    have adg := zq XK
    have XB : R6 v3 = low.length + 1 := by
      obtain ⟨ao', cap', e, _⟩ := Qj KG
      rw [e]
      simp [R6, cJ]
    have PO := zq XB
    have ah2 : ds.length ≤ 9223372036854775807 := by
      obtain ⟨ao', cap', e, a1, a2, _⟩ := Qj HD
      unfold maxLen at a2
      omega
    clear aB ax eZ hb3 XT KG XK XB
    go_wp2_with fail
    obtain ⟨wo, Og⟩ : ∃ wo, wo = wr := ⟨_, rfl⟩
    subst Og
    go_loop [6] (fun dv => ∃ k : Nat, k ≤ ds.length ∧ dv = U (F ⟨g, 0, Z⟩) k gU ∧ az (qs.take k) = az qs) (fun dv => R6 dv)
    case atStart => exact ⟨ds.length, aab _, rfl, by rw [← jX, aby]⟩
    case round =>
      obtain ⟨k, hk, rfl, hst⟩ := hrel
      have eP := zq hst
      have OW : ce (az qs = qs.take k → Qp3 N w (U (F ⟨g, 0, Z⟩) k gU) v3 w3 ∧ low.length < (dg N).length) := by
        intro he
        have hdq : cA w.heap.size w3 (U (F ⟨g, 0, Z⟩) qs.length gU) qs := by rw [jX]; exact CC
        have zI := cA.head hdq (show k ≤ qs.length by omega)
        rw [← he] at zI
        refine ⟨⟨az qs, low ++ [r], Vh _, Zo QP, ?_, ?_, zI, HL4.o, ?_, aV.o⟩, ?_⟩
        · rw [tJ.o, sB.o]; simp
        · intro d hd
          rcases aaP.1 hd with hd | hd
          · exact ry.o d hd
          rw [aaO.1 hd]; exact tq
        · intro q hq
          cases hq
          exact adg
        have h1 := HLEN.o
        have h2 := aaE List.length sB
        rw [aag, aaR] at h2
        omega
      clear hst
      by_cases cZ : 0 < k
      · obtain ⟨d, hd⟩ : ∃ d, qs[k - 1]? = F d := ⟨_, aad (by omega)⟩
        have e1 : w3.cell? ⟨g, k - 1, Z⟩ = F (A G (d : Nat)) := by
          obtain ⟨ao', cap', e, _, _, a3⟩ := Qj CC
          obtain ⟨g', e2, _, _, b3⟩ := a3 (by omega)
          simp only [Value.slice.injEq] at e
          rw [← e.1] at e2
          cases e2
          rw [b3 (k - 1) (by omega)]
          simp [Xi, hd]
        have cB : (0 : Int) ≤ (k : Int) - 1 := by omega
        have gF : (((k : Int) - 1).toNat) = k - 1 := by omega
        have oF : (k : Int) - 1 ≤ (gU : Int) := by
          obtain ⟨ao', cap', e, a1, _⟩ := Qj CC
          simp only [Value.slice.injEq] at e
          omega
        have bF : ce (qs.take k = qs.take (k - 1) ++ [d]) := by
          show _ = _
          have := aaI (l := qs) (i := k - 1)
          rw [show k - 1 + 1 = k from by omega, hd] at this
          exact this
        clear hd
        by_cases qc : d = 0
        · have hz1 : ((d : Int) == 0) = true := by simp [qc]
          have FK := zq qc
          clear qc
          go_wp2_with fail
          exact ⟨⟨k - 1, by omega, rfl, by rw [← eP.o, bF.o, FK.o, Za]⟩, by simp [R6]; omega⟩
        have hz1 : ((d : Int) == 0) = false := by simp [qc]
        have FK := zq qc
        clear qc
        have HE := zq (OW.o (by rw [← eP.o, bF.o, Yl _ _ FK.o]))
        go_wp2_with fail
        exact ⟨HE.o.1, by rw [PO.o]; have := HE.o.2; simp only [R6, gV]; omega⟩
      obtain rfl : k = 0 := by omega
      have HE := zq (OW.o (by rw [← eP.o]; rfl))
      go_wp2_with fail
      exact ⟨HE.o.1, by rw [PO.o]; have := HE.o.2; simp only [R6, gV]; omega⟩
end Go.Proofs.YtgfmiladfeoldaaGreatDoor
