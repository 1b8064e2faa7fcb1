import Derived.Test.YtgfmiladfeoldaaGreatDoorPk2
import Derived.Test.YtgfmiladfeoldaaGreatDoorPk5
import Derived.Test.YtgfmiladfeoldaaGreatDoorPk3
set_option linter.unusedSimpArgs false
set_option linter.unusedVariables false
set_option maxRecDepth 100000
set_option maxHeartbeats 16000000
namespace Go.Proofs.YtgfmiladfeoldaaGreatDoor
open Go.RowKit NatP
theorem Tryz.infoB:(Tryz.prog.info? 5).map (fun i=>(i.zero,i.size,i.bytes))=some (some (.int .u8 0),1,1):=by kernel_rfl
def ds8 (l:List Nat):List Value:=l.map fun d=> .int .u8 (d:Nat)
theorem Hx (a b:List Nat):ds8 (a++b)=ds8 a++ds8 b:=by simp[ds8]
theorem Tk (w:World)(k:Nat)(s:ByteArray)(pos:Nat):w.grownBy (w.iterAt k s pos) (some k):=
 ⟨rfl,rfl,rfl,by rw[Lib.iterAt_size];exact Nat.le_refl _,fun j _ hj=>Lib.iterAt_other w k j s pos (fun e=>hj (by rw[e]))⟩
theorem Qg2 {B:Nat}{w:World}{v:Value}{ds:List Nat}(h:w.ownsRow B 5 1 v ds.length (ds8 ds))(hd:∀x∈ds,x<10):RdD w v ds:=by
 obtain⟨ao,H,rfl,K,J,O⟩:=LexP.Qm h;refine⟨fun k hk=>(h.lt k hk).2,ao,H,rfl,K,J,hd,fun i x hx=> ?_⟩;have T:i<ds.length:=(List.getElem?_eq_some_iff.1 hx).1;obtain⟨g,I,_,_,E⟩:=O (by omega);refine⟨g,0,I,?_⟩;rw[Nat.zero_add,E i (by omega)];simp[ds8,hx]
def Qmb (s:ByteArray)(w:World)(k:Nat)(f:Nat->List Nat)(dv:Value)(wr:World):Prop:=
 ∃pos,pos<=s.size/\wr.heap[k]?=some (.stringIter s pos)/\Below w.heap.size w wr/\wr.ownsRow w.heap.size 5 1 dv (f pos).length (ds8 (f pos))/\dv.ownBlock≠some k
theorem Jg {w:World}{k:Nat}{s:ByteArray}{p:Nat}(h:w.heap[k]?=some (.stringIter s p)):w.iterPos k=p:=by simp[World.iterPos,h]
def Rc (n:Nat)(w:World)(e:Ending)(w':World):Prop:=∃v xs,e=.returned (.tuple #[v,.int .i64 0])/\Fr w.heap.size w' v xs/\val xs=n/\Qy xs=xs/\Below w.heap.size w w'/\w'.ownsRow 0 101 1 v xs.length (ws xs)
theorem Qyi (s:ByteArray)(w:World)(hs:s.size<=67108864)(h0:0<s.size)(hd:∀c∈s.data.toList,NumP.Xz c=true):
  Calls Tryz.prog 236 #[.string s,.int .i64 10] w (Rc (decV (LexP.digs s.data.toList)) w):=by
 obtain⟨i0,hi,hz0,hz1,hz2⟩:=info_parts Tryz.infoB;have hsz:s.data.toList.length=s.size:=(Lib.size_eq s).symm;have HSZ:=zq hsz;have HD:=zq hd;clear hsz hd;go_enter Tryz.func236,Tryz.ntmps236;go_wp2_with (at_make;refine wpList_make_own _ rfl _ _ 88 rfl w.heap.size 5 i0 (.int .u8 0) 1 Tryz.underlying88 hi hz0 hz1 _ _ _ s.size rfl rfl rfl ?b1 ?b2 ?b3 ?_)
 case b1=>rw[hz2];omega
 case b2=>unfold maxLen;omega
 case b3=>exact Nat.le_refl _
 intro w1 hown1 hgrow1;have hb1:Below w.heap.size w w1:=Below.grown (Below.refl _ _) hgrow1 (Nat.le_refl _) (fun k hk=>by cases hk);have hzw:=hb1.size;have HO:=zq hown1;have HB1:=zq hb1;clear hown1 hgrow1 hb1;have hkw:w.heap.size<w1.heap.size:=(HO.o.lt w.heap.size rfl).2;go_wp2_with fail;go_loopw [6] (fun v wr=>Qmb s w w1.heap.size (fun pos=>LexP.digs (s.data.toList.take pos)) v wr) (fun _ wr=>s.size-wr.iterPos w1.heap.size)
 case atStart=>exact⟨0,Nat.zero_le _,World.iter_heap w1 s 0,HB1.o.alloc hzw _,HO.o.alloc _,by simp[Value.ownBlock];omega⟩
 case round=>
  obtain⟨pos,hpos,hit,hbel,hown,hne⟩:=hrel;have hsz2:w1.heap.size<wr.heap.size:=(Array.getElem?_eq_some_iff.1 hit).1;by_cases hlt:pos<s.size
  ·have hn:=fun ty=>Lib.run_next_any_at (P:=Tryz.prog) wr w1.heap.size s pos ty hit hlt
   have hpl:pos<s.data.toList.length:=by rw[HSZ.o];exact hlt
   have hdg:=HD.o s.data.toList[pos] (List.getElem_mem hpl);have hdc:=List.drop_eq_getElem_cons hpl;have htk:s.data.toList.take (pos+1)=s.data.toList.take pos++[s.data.toList[pos]]:=List.take_succ_eq_append_getElem hpl;generalize s.data.toList[pos]=b at*
   have hb48:48<=b.toNat/\b.toNat<=57:=by simpa [NumP.Xz] using hdg
   obtain⟨hv,hwd⟩:=LexP.Eo (b:=b) (r:=s.data.toList.drop (pos+1)) (by omega);rw[LexP.Wd s pos hlt,LexP.Wu s pos hlt,hdc,hv,hwd]at hn;simp only[Option.getD_some]at hn
   have HTK:Hid (LexP.digs (s.data.toList.take (pos+1))=LexP.digs (s.data.toList.take pos)++[b.toNat-48]):=by
    show _=_;rw[htk,LexP.Nt];rfl
   have hdv:digVal b.toNat=b.toNat-48:=by unfold digVal;rw[if_pos hb48]
   have HDV:=zq hdv
   have hfl:(LexP.digs (s.data.toList.take pos)).length=pos:=by rw[LexP.digs,List.length_map,List.length_take];omega
   have HFL:=zq hfl;obtain⟨wi,hwi⟩:=xq (wr.iterAt w1.heap.size s (pos+1):World)
   have q1:wi.ownsRow w.heap.size 5 1 u6 (LexP.digs (s.data.toList.take pos)).length (ds8 (LexP.digs (s.data.toList.take pos))):=by
    rw[hwi];exact hown.kept (Tk wr w1.heap.size s (pos+1)) (.inr hne)
   have q2:Below w.heap.size w wi:=by rw[hwi];exact Lib.below_iterAt hbel (Nat.le_of_lt hkw) _ _
   have q3:wi.heap[w1.heap.size]?=some (.stringIter s (pos+1)):=by rw[hwi];exact Lib.iterAt_heap _ _ _ _ _ hit
   have q4:w1.heap.size<wi.heap.size:=(Array.getElem?_eq_some_iff.1 q3).1;rw[<-hwi]at hn
   have HM:Hid (s.size-(pos+1)<s.size-wr.iterPos w1.heap.size):=by show _<_;rw[Jg hit];omega
   clear hwi hown hbel hit hdc htk hv hwd hdg hdv hfl;have Q3:=zq q3;have Q2:=zq q2;have HNE:=zq hne;clear q3 q2 hne;obtain⟨h481,h482⟩:=hb48;obtain⟨dg,hdg⟩:=xq (b.toNat-48)
   have hdg10:dg<10:=by omega
   have HDG:=zq hdg;generalize LexP.digs (s.data.toList.take pos)=F at*
   have hF:F.length<=67108864:=by have:=HFL.o;omega
   clear hdg;go_wp2_with fail;refine(U2 b.toNat _ (by omega)).mono ?_;rintro e w' ⟨rfl,rfl⟩;rw[HDV.o,<-HDG.o];go_wp2_with (at_builtin;refine wpList_append_own_at _ rfl _ _ 88 rfl w.heap.size 5 i0 (.int .u8 0) 1 1 Tryz.underlying88 hi hz0 hz1 hz2 rfl (by decide) _ _ _ rfl (World.ownsRow.alloc q1 _) ⟨wi.heap.size,0,none⟩ 1 1 [.int .u8 (dg:Nat)] rfl rfl (LexP.Qc _ _ _ _ rfl) (by simp[Value.oneCell']) (by unfold maxLen;omega) (by omega) (by simp;omega) ?_);intro v3 w3 hown3 hgrow3 _ hbk3
   have hF2:w3.ownsRow w.heap.size 5 1 v3 (LexP.digs (s.data.toList.take (pos+1))).length (ds8 (LexP.digs (s.data.toList.take (pos+1)))):=by
    rw[HTK.o,Hx,List.length_append,<-HDG.o];exact hown3
   have hit3:w3.heap[w1.heap.size]?=some (.stringIter s (pos+1)):=
    (hgrow3.block w1.heap.size (by simp;omega) (fun e=>HNE.o e.symm)).trans ((Below.heap_alloc _ _ _ q4).trans Q3.o)
   have HF3:Hid (Qmb s w w1.heap.size (fun pos=>LexP.digs (s.data.toList.take pos)) v3 w3):=⟨pos+1,by omega,hit3,Below.grown (Q2.o.alloc (by omega) _) hgrow3 (by simp;omega) (fun q hq=>(World.ownsRow.lt q1 q hq).1),hF2,by
    rcases hbk3 with h|h
    ·rw[h];exact HNE.o
    ·rw[h];simp;omega⟩
   have HM3:Hid (s.size-w3.iterPos w1.heap.size<s.size-wr.iterPos w1.heap.size):=by show _<_;rw[Jg hit3];exact HM.o
   clear hown3 hgrow3 hbk3 hF2 hit3 q1;go_wp2_with fail;exact⟨HF3.o,HM3.o⟩
  ·have hn:=fun ty=>Lib.run_next_end_at (P:=Tryz.prog) wr w1.heap.size s pos ty hit hlt
   have hpe:s.data.toList.take pos=s.data.toList:=List.take_of_length_le (by rw[HSZ.o];omega);simp only[hpe]at hown
   have hdl:(LexP.digs s.data.toList).length=s.size:=by rw[LexP.digs,List.length_map,HSZ.o]
   have HRD:=zq (Qg2 hown (fun x hx=>by
    simp only[LexP.digs,List.mem_map]at hx;obtain⟨c,hc,rfl⟩:=hx;have:=HD.o c hc
    have h2:48<=c.toNat/\c.toNat<=57:=by simpa [NumP.Xz] using this
    omega))
   obtain⟨ao,cp,hv6,-,-⟩:=HRD.o.shape;rw[hdl]at hv6;subst hv6;have HDL:=zq hdl;have HBEL:=zq hbel;have hbz:=hbel.size;clear hown hbel hpe hdl hit hne;go_wp2_with fail;refine(Qxe (LexP.digs s.data.toList) _ _ (by rw[HDL.o];omega) HRD.o).mono ?_;rintro e w2 ⟨v2,x2,rfl,a1,a2,a3,a4,a5⟩;have A1:=zq a1.1;have A2:=zq a2;have A4:=zq a4;have A5:Hid (Below w.heap.size w w2):=HBEL.o.trans (a5.mono hbz)
   have hx2:x2.length<=67108864:=by have:=HDL.o;omega
   clear a1 a2 a3 a4 a5;go_wp2_with fail;refine(Ju _ x2 _ A1.o (by omega)).mono ?_;intro e w3 ho;rw[A4.o]at ho;obtain⟨v3,rfl,hf,hb3,hw3⟩:=Qgm (by omega) ho;have B1:=zq (hf.mono A5.o.size);have B5:Hid (Below w.heap.size w w3):=A5.o.trans (hb3.mono A5.o.size);have B6:=zq hw3;clear hf hb3 hw3 ho;go_wp2_with fail;go_ret2;exact⟨_,x2,rfl,B1.o,A2.o,A4.o,B5.o,B6.o⟩
theorem Mp (s:ByteArray)(w:World)(hs:s.size<=67108864)(h0:0<s.size)(hd:∀c∈s.data.toList,NumP.Xz c=true):
  Calls Tryz.prog 209 #[.string s] w (Rc (decV (LexP.digs s.data.toList)) w):=by
 have HD:=zq hd;clear hd;go_enter Tryz.func209,Tryz.ntmps209;go_wp2_with fail;refine(Qyi s _ hs h0 HD.o).mono ?_;rintro e w2 ⟨v2,x2,rfl,a1,a2,a4,a5,a6⟩;have A1:=zq a1;have A2:=zq a2;have A4:=zq a4;have A5:=zq a5;have A6:=zq a6;clear a1 a2 a4 a5 a6;go_wp2_with fail;go_ret2;exact⟨_,x2,rfl,A1.o,A2.o,A4.o,A5.o,A6.o⟩
def Qkr (s:ByteArray)(w:World)(k:Nat)(dv bv:Value)(wr:World):Prop:=
 ∃(pos:Nat) (bb:Bool),pos<=s.size/\wr.heap[k]?=some (.stringIter s pos)/\Below w.heap.size w wr/\OwnB w.heap.size wr dv ((s.data.toList.take pos).filter NumP.Xz)/\dv.ownBlock≠some k/\bv=.bool bb/\Hid (bb=LexP.btw s.data.toList pos)/\LexP.Nw s.data.toList pos
def Qm1 (t:LexP.Qx)(w:World)(e:Ending)(w':World):Prop:=
 (LexP.Zr t=true/\e=.returned (.tuple #[.slice none 0 0,.int .i64 7])/\Below w.heap.size w w')\/(LexP.Zr t=false/\Rc (decV (LexP.digs (t.filter NumP.Xz))) w e w')
theorem Qvm {t:LexP.Qx}(hr:LexP.Tg t)(h0:t≠[])(hb:LexP.Zr t=false):0<(t.filter NumP.Xz).length:=by
 have E:=LexP.Qj8 h0 hb;have J:0<t.length:=List.length_pos_iff.2 h0;simp only[LexP.btw,Bool.and_eq_true,bne_iff_ne]at E;have H:t[t.length-1]∈t:=List.getElem_mem (by omega)
 have I:NumP.Xz t[t.length-1]=true:=by
  rcases hr _ H with h|h
  ·exact h
  ·exact absurd (by rw[List.getElem?_eq_getElem (by omega),h]) E.2
 exact List.length_pos_iff.2 (List.ne_nil_of_mem (List.mem_filter.2 ⟨H,I⟩))
theorem Mn (s:ByteArray)(w:World)(hs:s.size<=67108864)(h0:0<s.size)(hr:LexP.Tg s.data.toList):
  Calls Tryz.prog 167 #[.string s] w (Qm1 s.data.toList w):=by
 obtain⟨i0,hi,hz0,hz1,hz2⟩:=info_parts Tryz.infoB;have hsz:s.data.toList.length=s.size:=(Lib.size_eq s).symm;have HSZ:=zq hsz;have HD:=zq hr
 have HNE0:Hid (s.data.toList≠[]):=by intro h;rw[h]at hsz;simp at hsz;omega
 clear hsz hr;go_enter Tryz.func167,Tryz.ntmps167;go_wp2_with (at_make;refine wpList_make_own _ rfl _ _ 88 rfl w.heap.size 5 i0 (.int .u8 0) 1 Tryz.underlying88 hi hz0 hz1 _ _ _ s.size rfl rfl rfl ?b1 ?b2 ?b3 ?_)
 case b1=>rw[hz2];omega
 case b2=>unfold maxLen;omega
 case b3=>exact Nat.le_refl _
 intro w1 hown1 hgrow1;have hb1:Below w.heap.size w w1:=Below.grown (Below.refl _ _) hgrow1 (Nat.le_refl _) (fun k hk=>by cases hk);have hzw:=hb1.size;have HO:=zq hown1;have HB1:=zq hb1;clear hown1 hgrow1 hb1;have hkw:w.heap.size<w1.heap.size:=(HO.o.lt w.heap.size rfl).2;go_wp2_with fail;go_loopw [4,5] (fun v b wr=>Qkr s w w1.heap.size v b wr) (fun _ _ wr=>s.size-wr.iterPos w1.heap.size)
 case atStart=>exact⟨0,false,Nat.zero_le _,World.iter_heap w1 s 0,HB1.o.alloc hzw _,HO.o.alloc _,by simp[Value.ownBlock];omega,rfl,rfl,LexP.Ah _⟩
 case round=>
  obtain⟨pos,bb,hpos,hit,hbel,hown,hne,rfl,hbb,hok⟩:=hrel;have hsz2:w1.heap.size<wr.heap.size:=(Array.getElem?_eq_some_iff.1 hit).1;have HOK:=zq hok;clear hok;by_cases hlt:pos<s.size
  ·have hn:=fun ty=>Lib.run_next_any_at (P:=Tryz.prog) wr w1.heap.size s pos ty hit hlt
   have hpl:pos<s.data.toList.length:=by rw[HSZ.o];exact hlt
   have hdg:=HD.o s.data.toList[pos] (List.getElem_mem hpl);have hdc:=List.drop_eq_getElem_cons hpl;have htk:s.data.toList.take (pos+1)=s.data.toList.take pos++[s.data.toList[pos]]:=List.take_succ_eq_append_getElem hpl;have hat:s.data.toList[pos]?=some s.data.toList[pos]:=List.getElem?_eq_getElem hpl;generalize s.data.toList[pos]=b at*
   have hb128:b.toNat<128:=by
    rcases hdg with h|h
    ·have:48<=b.toNat/\b.toNat<=57:=by simpa [NumP.Xz] using h
     omega
    ·rw[h];decide
   obtain⟨hv,hwd⟩:=LexP.Eo (b:=b) (r:=s.data.toList.drop (pos+1)) hb128;rw[LexP.Wd s pos hlt,LexP.Wu s pos hlt,hdc,hv,hwd]at hn;simp only[Option.getD_some]at hn;have HTK:=zq htk;have HAT:=zq hat;obtain⟨F,hF⟩:=xq ((s.data.toList.take pos).filter NumP.Xz);rw[<-hF]at hown
   have hFl:F.length<=67108864:=by
    have h1:=List.length_filter_le NumP.Xz (s.data.toList.take pos);have h2:=List.length_take_le pos s.data.toList;rw[hF];omega
   have HF:=zq hF;obtain⟨wi,hwi⟩:=xq (wr.iterAt w1.heap.size s (pos+1):World)
   have q1:wi.ownsRow w.heap.size 5 1 u4 F.length (Ja F):=by
    rw[hwi];exact World.ownsRow.kept hown (Tk wr w1.heap.size s (pos+1)) (.inr hne)
   have q2:Below w.heap.size w wi:=by rw[hwi];exact Lib.below_iterAt hbel (Nat.le_of_lt hkw) _ _
   have q3:wi.heap[w1.heap.size]?=some (.stringIter s (pos+1)):=by rw[hwi];exact Lib.iterAt_heap _ _ _ _ _ hit
   have q4:w1.heap.size<wi.heap.size:=(Array.getElem?_eq_some_iff.1 q3).1;rw[<-hwi]at hn
   have HM:Hid (s.size-(pos+1)<s.size-wr.iterPos w1.heap.size):=by show _<_;rw[Jg hit];omega
   clear hwi hown hbel hit hdc htk hv hwd hF hat;have Q3:=zq q3;have Q2:=zq q2;have HNE:=zq hne;clear q3 q2 hne;by_cases hdig:NumP.Xz b=true
   ·have hb48:48<=b.toNat/\b.toNat<=57:=by simpa [NumP.Xz] using hdig
    obtain⟨h481,h482⟩:=hb48
    have hn95:((b.toNat:Int)==95)=false:=by simp;omega
    have hb95:b≠95:=by rintro rfl;exact absurd hdig (by decide)
    have HDV:Hid (digVal b.toNat=b.toNat-48):=by show _=_;unfold digVal;rw[if_pos ⟨h481,h482⟩]
    have HTF:Hid ((s.data.toList.take (pos+1)).filter NumP.Xz=F++[b]):=by show _=_;rw[HTK.o,List.filter_append,HF.o];simp[hdig]
    have HBT:Hid (true=LexP.btw s.data.toList (pos+1)):=by show _=_;rw[LexP.C7,HAT.o];simp[hb95]
    have HOK2:=zq (LexP.Mz HOK.o (fun h=>by rw[HAT.o]at h;exact absurd (Option.some.inj h) hb95));obtain⟨dg,hdgd⟩:=xq (b.toNat-48)
    have hdg10:dg<10:=by omega
    have HDG:=zq hdgd;clear hdg hdig hb95 hdgd hbb;go_wp2_with fail;refine(U2 b.toNat _ (by omega)).mono ?_;rintro e w' ⟨rfl,rfl⟩;rw[HDV.o,<-HDG.o];go_wp2_with (at_builtin;refine wpList_append_own_at _ rfl _ _ 88 rfl w.heap.size 5 i0 (.int .u8 0) 1 1 Tryz.underlying88 hi hz0 hz1 hz2 rfl (by decide) _ _ _ rfl (World.ownsRow.alloc q1 _) ⟨wi.heap.size,0,none⟩ 1 1 [.int .u8 b.toNat] rfl rfl (LexP.Qc _ _ _ _ rfl) (by simp[Value.oneCell']) (by unfold maxLen;omega) (by omega) (by simp;omega) ?_);intro v3 w3 hown3 hgrow3 _ hbk3
    have hF2:OwnB w.heap.size w3 v3 ((s.data.toList.take (pos+1)).filter NumP.Xz):=by
     show World.ownsRow _ _ _ _ _ _ _;rw[HTF.o,Kc,List.length_append];exact hown3
    have hit3:w3.heap[w1.heap.size]?=some (.stringIter s (pos+1)):=
     (hgrow3.block w1.heap.size (by simp;omega) (fun e=>HNE.o e.symm)).trans ((Below.heap_alloc _ _ _ q4).trans Q3.o)
    have HF3:Hid (Qkr s w w1.heap.size v3 (.bool true) w3):=⟨pos+1,true,by omega,hit3,Below.grown (Q2.o.alloc (by omega) _) hgrow3 (by simp;omega) (fun q hq=>(World.ownsRow.lt q1 q hq).1),hF2,by
     rcases hbk3 with h|h
     ·rw[h];exact HNE.o
     ·rw[h];simp;omega,rfl,HBT.o,HOK2.o⟩
    have HM3:Hid (s.size-w3.iterPos w1.heap.size<s.size-wr.iterPos w1.heap.size):=by show _<_;rw[Jg hit3];exact HM.o
    clear hown3 hgrow3 hbk3 hF2 hit3 q1;go_wp2_with fail;exact⟨HF3.o,HM3.o⟩
   ·have hb95:b=95:=hdg.resolve_left hdig
    subst hb95
    have HTF:Hid ((s.data.toList.take (pos+1)).filter NumP.Xz=F):=by show _=_;rw[HTK.o,List.filter_append,HF.o];simp[hdig]
    have e95:(95:UInt8).toNat=95:=rfl;rw[e95]at hn;clear hdg hdig e95 hb128
    cases bb with
    |true=>
     have HBT:Hid (false=LexP.btw s.data.toList (pos+1)):=by show _=_;rw[LexP.C7,HAT.o];rfl
     have HOK2:=zq (LexP.Mz HOK.o (fun _=>hbb.o.symm));have HF3:Hid (Qkr s w w1.heap.size u4 (.bool false) wi):=⟨pos+1,false,by omega,Q3.o,Q2.o,by rw[HTF.o];exact q1,HNE.o,rfl,HBT.o,HOK2.o⟩
     have HM3:Hid (s.size-wi.iterPos w1.heap.size<s.size-wr.iterPos w1.heap.size):=by show _<_;rw[Jg Q3.o];exact HM.o
     clear hbb q1;go_wp2_with fail
     exact⟨HF3.o,HM3.o⟩
    |false=>
     have HBAD:=zq (LexP.Qg3 HAT.o hbb.o.symm);clear hbb q1;go_wp2_with fail;refine(U2 95 _ (by omega)).mono ?_;rintro e w' ⟨rfl,rfl⟩;rw[show digVal 95=36 from by decide];go_wp2_with fail;go_ret2;exact .inl ⟨HBAD.o,rfl,Q2.o⟩
  ·have hn:=fun ty=>Lib.run_next_end_at (P:=Tryz.prog) wr w1.heap.size s pos ty hit hlt
   have hpe:s.data.toList.take pos=s.data.toList:=List.take_of_length_le (by rw[HSZ.o];omega)
   have hpp:pos=s.data.toList.length:=by rw[HSZ.o];omega
   rw[hpe]at hown;have HBEL:=zq hbel;have hbz:=hbel.size
   have HOK2:Hid (LexP.Nw s.data.toList s.data.toList.length):=by rw[<-hpp];exact HOK.o
   have hbb2:Hid (bb=LexP.btw s.data.toList s.data.toList.length):=by rw[<-hpp];exact hbb
   clear hbel hpe hit hne hbb HOK hpp
   cases bb with
   |false=>
    have HBAD:=zq (LexP.Gx HNE0.o hbb2.o.symm);clear hbb2 hown;go_wp2_with fail;go_ret2
    exact .inl ⟨HBAD.o,rfl,HBEL.o⟩
   |true=>
    have HGOOD:=zq (LexP.Qkq HOK2.o hbb2.o.symm);have hcv:=Pu (B:=w.heap.size) (w:=wr) (v:=u4) hown;have hfl:=Qvm HD.o HNE0.o HGOOD.o;have hfl2:=List.length_filter_le NumP.Xz s.data.toList;rw[HSZ.o]at hfl2
    have hfs:(⟨(s.data.toList.filter NumP.Xz).toArray⟩:ByteArray).size=(s.data.toList.filter NumP.Xz).length:=by rw[Lib.size_eq]
    have HS1:Hid ((⟨(s.data.toList.filter NumP.Xz).toArray⟩:ByteArray).size<=67108864):=by show _<=_;rw[hfs];omega
    have HS0:Hid (0<(⟨(s.data.toList.filter NumP.Xz).toArray⟩:ByteArray).size):=by show _<_;rw[hfs];omega
    have HFD:Hid (∀c∈(⟨(s.data.toList.filter NumP.Xz).toArray⟩:ByteArray).data.toList,NumP.Xz c=true):=by
     intro c hc;simp only[List.toList_toArray]at hc;exact(List.mem_filter.1 hc).2
    clear hbb2 hown hfl hfl2 hfs;go_wp2_with fail;refine(Mp _ wr HS1.o HS0.o HFD.o).mono ?_;rintro e w2 ⟨v2,x2,rfl,a1,a2,a4,a5,a6⟩;have A1:=zq (a1.mono hbz);have A2:=zq a2;have A4:=zq a4;have A5:Hid (Below w.heap.size w w2):=HBEL.o.trans (a5.mono hbz);have A6:=zq a6;clear a1 a2 a4 a5 a6;go_wp2_with fail;go_ret2;exact .inr ⟨HGOOD.o,_,x2,rfl,A1.o,A2.o,A4.o,A5.o,A6.o⟩
end Go.Proofs.YtgfmiladfeoldaaGreatDoor
namespace SynP
open LexP
def mapT (φ:Nat->Nat)(l:List Tok):List Tok:=l.map fun t=>(t.1,t.2.1,φ t.2.2)
def mpS (φ:Nat->Nat)(s:St):St:=⟨mapT φ s.ts,s.opened⟩
def mpR {α:Type}(φ:Nat->Nat):PR α->PR α
 |none=>none
 |some (.error (c,k))=>some (.error (φ c,k))
 |some (.ok (a,s))=>some (.ok (a,mpS φ s))
section
variable {φ:Nat->Nat} {α β:Type}
theorem Qe {x x':PR α}{f f':α->St->PR β}(hx:x'=mpR φ x)(hf:∀a s,f' a (mpS φ s)=mpR φ (f a s)):x'.bind f'=mpR φ (x.bind f):=by
 subst hx;rcases x with- |(⟨c,k⟩|⟨a,s⟩)
 ·rfl
 ·rfl
 ·exact hf a s
theorem Yb {c:Prop}[Decidable c]{A A' B B':PR α}(h1:c->A'=mpR φ A)(h2: ¬c->B'=mpR φ B):(if c then A' else B')=mpR φ (if c then A else B):=by
 by_cases h:c
 ·rw[if_pos h,if_pos h];exact h1 h
 ·rw[if_neg h,if_neg h];exact h2 h
theorem Jv (x:Qx)(s:St):Qk x (mpS φ s).ts=Qk x s.ts:=by
 obtain⟨ts,o⟩:=s
 cases ts<;>rfl
theorem Tp (k:Nat)(s:St):Qb k (mpS φ s).ts=Qb k s.ts:=by
 obtain⟨ts,o⟩:=s
 cases ts<;>rfl
theorem Du (s:St):Xl (mpS φ s).ts=Xl s.ts:=by
 obtain⟨ts,o⟩:=s
 cases ts<;>rfl
theorem Jm (s:St):(mpS φ s).adv=mpS φ s.adv:=by
 obtain⟨ts,o⟩:=s
 cases ts<;>rfl
theorem Be (x:Qx)(s:St):Qk x (mpS φ s).ts.tail=Qk x s.ts.tail:=by
 obtain⟨ts,o⟩:=s
 rcases ts with- |⟨a,- |⟨b,l⟩⟩<;>rfl
theorem Qxs (s:St):((mpS φ s).ts=[])=(s.ts=[]):=by
 obtain⟨ts,o⟩:=s
 cases ts<;>simp[mpS,mapT]
theorem Qxu (fin:Nat)(s:St):Te (φ fin) (mpS φ s).ts=φ (Te fin s.ts):=by
 obtain⟨ts,o⟩:=s
 cases ts<;>rfl
theorem Sb (fin:Nat)(s:St):(unfit (φ fin) (mpS φ s):PR α)=mpR φ (unfit fin s):=by
 unfold unfit;rw[Qxu];rfl
theorem Uz (fin:Nat)(x:Qx)(s:St):want (φ fin) x (mpS φ s)=mpR φ (want fin x s):=by
 unfold want;simp only[Jv,Jm];exact Yb (fun _=>rfl) (fun _=>Sb _ _)
theorem Jl (fin:Nat)(s:St):Qd (φ fin) (mpS φ s)=mpR φ (Qd fin s):=by
 unfold Qd;simp only[Tp,Jm,Du];exact Yb (fun _=>rfl) (fun _=>Sb _ _)
theorem M6 (fin:Nat)(s:St):name (φ fin) (mpS φ s)=mpR φ (name fin s):=by
 unfold name;simp only[Tp,Jm,Du];exact Yb (fun _=>rfl) (fun _=>Sb _ _)
theorem Mq (fin:Nat):∀(f n:Nat) (acc:List (Bool×Nat)) (s:St),Qo (φ fin) f n acc (mpS φ s)=mpR φ (Qo fin f n acc s)
 |0,_,_,_=>rfl
 |f+1,n,acc,s=>by
  rw[Qo,Qo];simp only[Jv,Tp,Jm];refine Yb (fun _=> ?_) (fun _=>rfl);refine Qe ?_ (fun m s'=>Mq fin f _ _ s')
  cases Qk [45] s.ts
  ·exact Jl fin s
  ·exact Jl fin s.adv
theorem Hu (fin:Nat):∀(f:Nat) (acc:List (Bool×Nat)) (lens:List Nat) (s:St),Xj (φ fin) f acc lens (mpS φ s)=mpR φ (Xj fin f acc lens s)
 |0,_,_,_=>rfl
 |f+1,acc,lens,s=>by
  rw[Xj,Xj];refine Qe (Mq fin f _ _ _) (fun r s=> ?_);simp only[Jv,Jm];refine Yb (fun _=>rfl) (fun _=> ?_);exact Qe (Uz fin _ s) (fun _ s=>Hu fin f _ _ s)
theorem B8 (fin col:Nat)(s:St):Yr (φ fin) (φ col) (mpS φ s)=mpR φ (Yr fin col s):=by
 unfold Yr;refine Qe (Jl fin s) (fun r s=>Qe (Uz fin _ s) (fun _ s=>Qe (Jl fin s) (fun c s=>Qe (Uz fin _ s) (fun _ s=> ?_))));exact Yb (fun _=>rfl) (fun _=>rfl)
theorem Qxn (col:Nat)(a:List (Bool×Nat)×List Nat)(s:St):Ys (φ col) a (mpS φ s)=mpR φ (Ys col a s):=by
 unfold Ys;exact Yb (fun _=>rfl) (fun _=>Yb (fun _=>rfl) (fun _=>rfl))
theorem Qva (fin f:Nat)(s:St):Xi (φ fin) f (mpS φ s)=mpR φ (Xi fin f s):=by
 unfold Xi;rw[Qxu];refine Qe (Uz fin _ s) (fun _ s'=> ?_);simp only[Tp,Be];refine Yb (fun _=>B8 fin _ s') (fun _=> ?_);exact Qe (Hu fin f _ _ s') (fun a s=>Qxn _ a s)
theorem Hn (fin:Nat):∀(f:Nat) (acc:List Nat) (s:St),Q9 (φ fin) f acc (mpS φ s)=mpR φ (Q9 fin f acc s)
 |0,_,_=>rfl
 |f+1,acc,s=>by
  rw[Q9,Q9];simp only[Tp];refine Yb (fun _=> ?_) (fun _=>rfl);exact Qe (Jl fin s) (fun n s=>Hn fin f _ s)
theorem Hd (fin:Nat):∀(f:Nat) (acc:List (List Nat)) (s:St),Xq (φ fin) f acc (mpS φ s)=mpR φ (Xq fin f acc s)
 |0,_,_=>rfl
 |f+1,acc,s=>by
  rw[Xq,Xq];refine Qe (Jl fin s) (fun n s=>Qe (Hn fin f _ s) (fun x s=> ?_));simp only[Jv,Jm];refine Yb (fun _=>rfl) (fun _=> ?_);exact Qe (Uz fin _ s) (fun _ s=>Hd fin f _ s)
theorem Qxl (fin f:Nat)(s:St):Q5 (φ fin) f (mpS φ s)=mpR φ (Q5 fin f s):=by
 unfold Q5;refine Qe (Uz fin _ s) (fun _ s=> ?_);simp only[Jv,Jm];exact Yb (fun _=>rfl) (fun _=>Hd fin f _ s)
theorem Hl:∀(f n:Nat) (s:St),Xg f n (mpS φ s)=mpR φ (Xg f n s)
 |0,_,_=>rfl
 |f+1,n,s=>by
  rw[Xg,Xg];simp only[Jv,Jm];exact Yb (fun _=>Hl f _ _) (fun _=>rfl)
theorem Ax:∀(f:Nat) (k:Ex) (s:St),X9 f k (mpS φ s)=mpR φ (X9 f k s)
 |0,_,_=>rfl
 |f+1,k,s=>by
  rw[X9,X9];simp only[Jv,Jm];exact Yb (fun _=>Ax f _ _) (fun _=>rfl)
theorem Aq (fin:Nat)(s:St):Zu (φ fin) (mpS φ s)=mpR φ (Zu fin s):=by
 unfold Zu;rw[Qxu];refine Yb (fun _=>rfl) (fun _=> ?_);rw[Jm];rfl
theorem F5 (fin:Nat)(s:St):X6 (φ fin) (mpS φ s)=mpR φ (X6 fin s):=by
 unfold X6;exact Qe (Uz fin _ s) (fun _ s=>rfl)
structure AllMp (φ:Nat->Nat) (fin f:Nat):Prop where
 ex:∀s,expr (φ fin) f (mpS φ s)=mpR φ (expr fin f s)
 exl:∀k s,Qf (φ fin) f k (mpS φ s)=mpR φ (Qf fin f k s)
 te:∀s,term (φ fin) f (mpS φ s)=mpR φ (term fin f s)
 tel:∀k s,Qi (φ fin) f k (mpS φ s)=mpR φ (Qi fin f k s)
 fa:∀s,Xr (φ fin) f (mpS φ s)=mpR φ (Xr fin f s)
 po:∀s,post (φ fin) f (mpS φ s)=mpR φ (post fin f s)
 at_:∀s,atom (φ fin) f (mpS φ s)=mpR φ (atom fin f s)
 pa:∀s,X7 (φ fin) f (mpS φ s)=mpR φ (X7 fin f s)
 pal:∀k s,Qs (φ fin) f k (mpS φ s)=mpR φ (Qs fin f k s)
theorem Qk3 (φ:Nat->Nat)(fin:Nat):∀f,AllMp φ fin f
 |0=>by
  constructor<;>intros
  ·rw[expr,expr];rfl
  ·rw[Qf,Qf];rfl
  ·rw[term,term];rfl
  ·rw[Qi,Qi];rfl
  ·rw[Xr,Xr];rfl
  ·rw[post,post];rfl
  ·rw[atom,atom];rfl
  ·rw[X7,X7];rfl
  ·rw[Qs,Qs];rfl
 |f+1=>by
  have ih:=Qk3 φ fin f;constructor
  ·intro s
   rw[expr,expr];exact Qe (ih.te s) (fun k s=>ih.exl k s)
  ·intro k s
   rw[Qf,Qf];simp only[Jv,Jm];refine Yb (fun _=> ?_) (fun _=>Yb (fun _=> ?_) (fun _=>rfl))
   ·exact Qe (ih.te _) (fun t s=>ih.exl _ s)
   ·exact Qe (ih.te _) (fun t s=>ih.exl _ s)
  ·intro s
   rw[term,term];exact Qe (ih.fa s) (fun k s=>ih.tel k s)
  ·intro k s
   rw[Qi,Qi];simp only[Jv,Jm];refine Yb (fun _=> ?_) (fun _=>rfl);exact Qe (ih.fa _) (fun t s=>ih.tel _ s)
  ·intro s
   rw[Xr,Xr];refine Qe (Hl f 0 s) (fun n s=>Qe (ih.po s) (fun k s=> ?_));simp only[Jv,Jm];refine Yb (fun _=> ?_) (fun _=>rfl);exact Qe (Jl fin s.adv) (fun m s=>rfl)
  ·intro s
   rw[post,post];exact Qe (ih.at_ s) (fun k s=>Ax f k s)
  ·intro s
   rw[atom,atom];simp only[Tp,Jv,Be];refine Yb (fun _=>Qe (Jl fin s) (fun _ _=>rfl)) (fun _=>Yb (fun _=> ?_) (fun _=>Yb (fun _=>Qe (M6 fin s) (fun _ _=>rfl)) (fun _=>Yb (fun _=> ?_) (fun _=>Yb (fun _=> ?_) (fun _=>Yb (fun _=> ?_) (fun _=>Sb fin s))))))
   ·exact Qe (M6 fin s) (fun x s=>Qe (Aq fin s) (fun _ s=>Qe (ih.pa s) (fun ks s=>Qe (F5 fin s) (fun _ _=>rfl))))
   ·exact Qe (Aq fin s) (fun _ s=>Qe (ih.ex s) (fun ks s=>Qe (F5 fin s) (fun _ _=>rfl)))
   ·exact Qe (Qva fin f s) (fun _ _=>rfl)
   ·exact Qe (Qxl fin f s) (fun _ _=>rfl)
  ·intro s
   rw[X7,X7];exact Qe (ih.ex s) (fun k s=>ih.pal _ s)
  ·intro k s
   rw[Qs,Qs];simp only[Jv,Jm];refine Yb (fun _=> ?_) (fun _=>rfl);exact Qe (ih.ex _) (fun t s=>ih.pal _ s)
theorem Dd (fin:Nat)(a:α)(s:St):done (φ fin) a (mpS φ s)=mpR φ (done fin a s):=by
 unfold done;simp only[Qxs];exact Yb (fun _=>rfl) (fun _=>Sb fin s)
theorem Qgg (fin f:Nat)(s:St):line (φ fin) f (mpS φ s)=mpR φ (line fin f s):=by
 have ih:=Qk3 φ fin f;unfold line;simp only[Qxs,Tp,Du,Jm];refine Yb (fun _=>rfl) (fun _=>Yb (fun _=> ?_) (fun _=> ?_))
 ·exact Qe (M6 fin _) (fun x s=>Qe (Uz fin _ s) (fun _ s=>Qe (ih.ex s) (fun e s=>Dd fin _ s)))
 ·refine Qe (M6 fin s) (fun x s=> ?_)
  simp only[Qxs];exact Yb (fun _=>Dd fin _ s) (fun _=>Qe (ih.pa s) (fun ks s=>Dd fin _ s))
end
theorem Qjq {φ:Nat->Nat}:∀{l:List Tok},(∀t∈l,φ t.2.2=t.2.2)->mapT φ l=l
 | [],_=>rfl
 |t::l,h=>by
  show (t.1,t.2.1,φ t.2.2)::mapT φ l=t::l;rw[Qjq (fun u hu=>h u (List.mem_cons_of_mem _ hu)),h t (by simp)]
theorem Qhy {φ:Nat->Nat}{ts:List Tok}{o:Nat}(h:∀t∈ts,φ t.2.2=t.2.2):mpS φ ⟨ts,o⟩=⟨ts,o⟩:=by
 show St.mk (mapT φ ts) o=_;rw[Qjq h]
end SynP
