/- Joined texts of this claim's proof: Num12, Num13, RdB, RdP. -/
import Derived.Test.YtgfmiladfeoldaaGreatDoorPk1
import Derived.Test.YtgfmiladfeoldaaGreatDoorPk10
import Derived.Test.YtgfmiladfeoldaaGreatDoorPk15
import Derived.Test.YtgfmiladfeoldaaGreatDoorPk11
import Derived.Maps.AppendAt
import Derived.Lib.OthersKept
import Derived.Test.YtgfmiladfeoldaaGreatDoorPk17
set_option linter.unusedSimpArgs false
set_option linter.unusedVariables false
set_option maxRecDepth 100000
set_option maxHeartbeats 16000000
namespace Go.Proofs.YtgfmiladfeoldaaGreatDoor
open Go.RowKit NatP
theorem Tryz.infoB:(Tryz.prog.info? 5).map (fun i=>(i.zero,i.size,i.bytes))=some (some (.int .u8 0),1,1):=by kernel_rfl
def ds8 (l:List Nat):List Value:=l.map fun d=> .int .u8 (d:Nat)
theorem Kp (a b:List Nat):ds8 (a++b)=ds8 a++ds8 b:=by simp[ds8]
theorem Tb (w:World)(k:Nat)(s:ByteArray)(pos:Nat):w.grownBy (w.iterAt k s pos) (some k):=
 ⟨rfl,rfl,rfl,by rw[Lib.iterAt_size];exact Nat.le_refl _,fun j _ hj=>Lib.iterAt_other w k j s pos (fun e=>hj (by rw[e]))⟩
theorem Qp8 {B:Nat}{w:World}{v:Value}{ds:List Nat}(h:w.ownsRow B 5 1 v ds.length (ds8 ds))(hd:∀x∈ds,x<10):RdD w v ds:=by
 obtain⟨ao,K,rfl,J,I,H⟩:=LexP.Qj h;refine⟨fun k hk=>(h.lt k hk).2,ao,K,rfl,J,I,hd,fun i x hx=> ?_⟩;have T:i<ds.length:=(List.getElem?_eq_some_iff.1 hx).1;obtain⟨g,O,_,_,E⟩:=H (by omega);refine⟨g,0,O,?_⟩;rw[Nat.zero_add,E i (by omega)];simp[ds8,hx]
def Qmy (s:ByteArray)(w:World)(k:Nat)(f:Nat->List Nat)(dv:Value)(wr:World):Prop:=
 ∃pos,pos<=s.size/\wr.heap[k]?=some (.stringIter s pos)/\Below w.heap.size w wr/\wr.ownsRow w.heap.size 5 1 dv (f pos).length (ds8 (f pos))/\dv.ownBlock≠some k
theorem Jz {w:World}{k:Nat}{s:ByteArray}{p:Nat}(h:w.heap[k]?=some (.stringIter s p)):w.iterPos k=p:=by simp[World.iterPos,h]
def Rr (n:Nat)(w:World)(e:Ending)(w':World):Prop:=∃v xs,e=.returned (.tuple #[v,.int .i64 0])/\Fr w.heap.size w' v xs/\val xs=n/\Qw xs=xs/\Below w.heap.size w w'
theorem Qyz (s:ByteArray)(w:World)(hs:s.size<=67108864)(h0:0<s.size)(hd:∀c∈s.data.toList,NumP.Qu c=true):
  Calls Tryz.prog 236 #[.string s,.int .i64 10] w (Rr (decV (LexP.digs s.data.toList)) w):=by
 obtain⟨i0,hi,hz0,hz1,hz2⟩:=info_parts Tryz.infoB;have hsz:s.data.toList.length=s.size:=(Lib.size_eq s).symm;have HSZ:=zq hsz;have HD:=zq hd;clear hsz hd;go_enter Tryz.func236,Tryz.ntmps236;go_wp2_with (at_make;refine wpList_make_own _ rfl _ _ 88 rfl w.heap.size 5 i0 (.int .u8 0) 1 Tryz.underlying88 hi hz0 hz1 _ _ _ s.size rfl rfl rfl ?b1 ?b2 ?b3 ?_)
 case b1=>rw[hz2];omega
 case b2=>unfold maxLen;omega
 case b3=>exact Nat.le_refl _
 intro w1 hown1 hgrow1;have hb1:Below w.heap.size w w1:=Below.grown (Below.refl _ _) hgrow1 (Nat.le_refl _) (fun k hk=>by cases hk);have hzw:=hb1.size;have HO:=zq hown1;have HB1:=zq hb1;clear hown1 hgrow1 hb1;have hkw:w.heap.size<w1.heap.size:=(HO.o.lt w.heap.size rfl).2;go_wp2_with fail;go_loopw [6] (fun v wr=>Qmy s w w1.heap.size (fun pos=>LexP.digs (s.data.toList.take pos)) v wr) (fun _ wr=>s.size-wr.iterPos w1.heap.size)
 case atStart=>exact⟨0,Nat.zero_le _,World.iter_heap w1 s 0,HB1.o.alloc hzw _,HO.o.alloc _,by simp[Value.ownBlock];omega⟩
 case round=>
  obtain⟨pos,hpos,hit,hbel,hown,hne⟩:=hrel;have hsz2:w1.heap.size<wr.heap.size:=(Array.getElem?_eq_some_iff.1 hit).1;by_cases hlt:pos<s.size
  ·have hn:=fun ty=>Lib.run_next_any_at (P:=Tryz.prog) wr w1.heap.size s pos ty hit hlt
   have hpl:pos<s.data.toList.length:=by rw[HSZ.o];exact hlt
   have hdg:=HD.o s.data.toList[pos] (List.getElem_mem hpl);have hdc:=List.drop_eq_getElem_cons hpl;have htk:s.data.toList.take (pos+1)=s.data.toList.take pos++[s.data.toList[pos]]:=List.take_succ_eq_append_getElem hpl;generalize s.data.toList[pos]=b at*
   have hb48:48<=b.toNat/\b.toNat<=57:=by simpa [NumP.Qu] using hdg
   obtain⟨hv,hwd⟩:=LexP.Ee (b:=b) (r:=s.data.toList.drop (pos+1)) (by omega);rw[LexP.Wy s pos hlt,LexP.Wj s pos hlt,hdc,hv,hwd]at hn;simp only[Option.getD_some]at hn
   have HTK:Hid (LexP.digs (s.data.toList.take (pos+1))=LexP.digs (s.data.toList.take pos)++[b.toNat-48]):=by
    show _=_;rw[htk,LexP.Mf];rfl
   have hdv:digVal b.toNat=b.toNat-48:=by unfold digVal;rw[if_pos hb48]
   have HDV:=zq hdv
   have hfl:(LexP.digs (s.data.toList.take pos)).length=pos:=by rw[LexP.digs,List.length_map,List.length_take];omega
   have HFL:=zq hfl;obtain⟨wi,hwi⟩:=xq (wr.iterAt w1.heap.size s (pos+1):World)
   have q1:wi.ownsRow w.heap.size 5 1 u6 (LexP.digs (s.data.toList.take pos)).length (ds8 (LexP.digs (s.data.toList.take pos))):=by
    rw[hwi];exact hown.kept (Tb wr w1.heap.size s (pos+1)) (.inr hne)
   have q2:Below w.heap.size w wi:=by rw[hwi];exact Lib.below_iterAt hbel (Nat.le_of_lt hkw) _ _
   have q3:wi.heap[w1.heap.size]?=some (.stringIter s (pos+1)):=by rw[hwi];exact Lib.iterAt_heap _ _ _ _ _ hit
   have q4:w1.heap.size<wi.heap.size:=(Array.getElem?_eq_some_iff.1 q3).1;rw[<-hwi]at hn
   have HM:Hid (s.size-(pos+1)<s.size-wr.iterPos w1.heap.size):=by show _<_;rw[Jz hit];omega
   clear hwi hown hbel hit hdc htk hv hwd hdg hdv hfl;have Q3:=zq q3;have Q2:=zq q2;have HNE:=zq hne;clear q3 q2 hne;obtain⟨h481,h482⟩:=hb48;obtain⟨dg,hdg⟩:=xq (b.toNat-48)
   have hdg10:dg<10:=by omega
   have HDG:=zq hdg;generalize LexP.digs (s.data.toList.take pos)=F at*
   have hF:F.length<=67108864:=by have:=HFL.o;omega
   clear hdg;go_wp2_with fail;refine(Ut b.toNat _ (by omega)).mono ?_;rintro e w' ⟨rfl,rfl⟩;rw[HDV.o,<-HDG.o];go_wp2_with (at_builtin;refine wpList_append_own_at _ rfl _ _ 88 rfl w.heap.size 5 i0 (.int .u8 0) 1 1 Tryz.underlying88 hi hz0 hz1 hz2 rfl (by decide) _ _ _ rfl (World.ownsRow.alloc q1 _) ⟨wi.heap.size,0,none⟩ 1 1 [.int .u8 (dg:Nat)] rfl rfl (LexP.Qb _ _ _ _ rfl) (by simp[Value.oneCell']) (by unfold maxLen;omega) (by omega) (by simp;omega) ?_);intro v3 w3 hown3 hgrow3 _ hbk3
   have hF2:w3.ownsRow w.heap.size 5 1 v3 (LexP.digs (s.data.toList.take (pos+1))).length (ds8 (LexP.digs (s.data.toList.take (pos+1)))):=by
    rw[HTK.o,Kp,List.length_append,<-HDG.o];exact hown3
   have hit3:w3.heap[w1.heap.size]?=some (.stringIter s (pos+1)):=
    (hgrow3.block w1.heap.size (by simp;omega) (fun e=>HNE.o e.symm)).trans ((Below.heap_alloc _ _ _ q4).trans Q3.o)
   have HF3:Hid (Qmy s w w1.heap.size (fun pos=>LexP.digs (s.data.toList.take pos)) v3 w3):=⟨pos+1,by omega,hit3,Below.grown (Q2.o.alloc (by omega) _) hgrow3 (by simp;omega) (fun q hq=>(World.ownsRow.lt q1 q hq).1),hF2,by
    rcases hbk3 with h|h
    ·rw[h];exact HNE.o
    ·rw[h];simp;omega⟩
   have HM3:Hid (s.size-w3.iterPos w1.heap.size<s.size-wr.iterPos w1.heap.size):=by show _<_;rw[Jz hit3];exact HM.o
   clear hown3 hgrow3 hbk3 hF2 hit3 q1;go_wp2_with fail
   first|exact⟨HF3.o,HM3.o⟩|exact⟨by (repeat apply Exists.intro);exact⟨HF3.o,rfl⟩,HM3.o⟩
  ·have hn:=fun ty=>Lib.run_next_end_at (P:=Tryz.prog) wr w1.heap.size s pos ty hit hlt
   have hpe:s.data.toList.take pos=s.data.toList:=List.take_of_length_le (by rw[HSZ.o];omega);simp only[hpe]at hown
   have hdl:(LexP.digs s.data.toList).length=s.size:=by rw[LexP.digs,List.length_map,HSZ.o]
   have HRD:=zq (Qp8 hown (fun x hx=>by
    simp only[LexP.digs,List.mem_map]at hx;obtain⟨c,hc,rfl⟩:=hx;have:=HD.o c hc
    have h2:48<=c.toNat/\c.toNat<=57:=by simpa [NumP.Qu] using this
    omega))
   obtain⟨ao,cp,hv6,-,-⟩:=HRD.o.shape;rw[hdl]at hv6;subst hv6;have HDL:=zq hdl;have HBEL:=zq hbel;have hbz:=hbel.size;clear hown hbel hpe hdl hit hne;go_wp2_with fail;refine(Qx0 (LexP.digs s.data.toList) _ _ (by rw[HDL.o];omega) HRD.o).mono ?_;rintro e w2 ⟨v2,x2,rfl,a1,a2,a3,a4,a5⟩;have A1:=zq a1.1;have A2:=zq a2;have A4:=zq a4;have A5:Hid (Below w.heap.size w w2):=HBEL.o.trans (a5.mono hbz)
   have hx2:x2.length<=67108864:=by have:=HDL.o;omega
   clear a1 a2 a3 a4 a5;go_wp2_with fail;refine(Jy _ x2 _ A1.o (by omega)).mono ?_;rintro e w3 ⟨v3,rfl,hf,hb3⟩;rw[A4.o]at hf;have B1:=zq (hf.mono A5.o.size);have B5:Hid (Below w.heap.size w w3):=A5.o.trans (hb3.mono A5.o.size);clear hf hb3;go_wp2_with fail;go_ret2;exact⟨_,x2,rfl,B1.o,A2.o,A4.o,B5.o⟩
theorem Mw (s:ByteArray)(w:World)(hs:s.size<=67108864)(h0:0<s.size)(hd:∀c∈s.data.toList,NumP.Qu c=true):
  Calls Tryz.prog 209 #[.string s] w (Rr (decV (LexP.digs s.data.toList)) w):=by
 have HD:=zq hd;clear hd;go_enter Tryz.func209,Tryz.ntmps209;go_wp2_with fail;refine(Qyz s _ hs h0 HD.o).mono ?_;rintro e w2 ⟨v2,x2,rfl,a1,a2,a4,a5⟩;have A1:=zq a1;have A2:=zq a2;have A4:=zq a4;have A5:=zq a5;clear a1 a2 a4 a5;go_wp2_with fail;go_ret2;exact⟨_,x2,rfl,A1.o,A2.o,A4.o,A5.o⟩
def Qka (s:ByteArray)(w:World)(k:Nat)(dv bv:Value)(wr:World):Prop:=
 ∃(pos:Nat) (bb:Bool),pos<=s.size/\wr.heap[k]?=some (.stringIter s pos)/\Below w.heap.size w wr/\OwnB w.heap.size wr dv ((s.data.toList.take pos).filter NumP.Qu)/\dv.ownBlock≠some k/\bv=.bool bb/\Hid (bb=LexP.btw s.data.toList pos)/\LexP.P3 s.data.toList pos
def Qms (t:LexP.Qx)(w:World)(e:Ending)(w':World):Prop:=
 (LexP.Xr t=true/\e=.returned (.tuple #[.slice none 0 0,.int .i64 7])/\Below w.heap.size w w')\/(LexP.Xr t=false/\Rr (decV (LexP.digs (t.filter NumP.Qu))) w e w')
theorem Qvq {t:LexP.Qx}(hr:LexP.Je t)(h0:t≠[])(hb:LexP.Xr t=false):0<(t.filter NumP.Qu).length:=by
 have E:=LexP.Qjd h0 hb;have J:0<t.length:=List.length_pos_iff.2 h0;simp only[LexP.btw,Bool.and_eq_true,bne_iff_ne]at E;have H:t[t.length-1]∈t:=List.getElem_mem (by omega)
 have I:NumP.Qu t[t.length-1]=true:=by
  rcases hr _ H with h|h
  ·exact h
  ·exact absurd (by rw[List.getElem?_eq_getElem (by omega),h]) E.2
 exact List.length_pos_iff.2 (List.ne_nil_of_mem (List.mem_filter.2 ⟨H,I⟩))
theorem Mu (s:ByteArray)(w:World)(hs:s.size<=67108864)(h0:0<s.size)(hr:LexP.Je s.data.toList):
  Calls Tryz.prog 167 #[.string s] w (Qms s.data.toList w):=by
 obtain⟨i0,hi,hz0,hz1,hz2⟩:=info_parts Tryz.infoB;have hsz:s.data.toList.length=s.size:=(Lib.size_eq s).symm;have HSZ:=zq hsz;have HD:=zq hr
 have HNE0:Hid (s.data.toList≠[]):=by intro h;rw[h]at hsz;simp at hsz;omega
 clear hsz hr;go_enter Tryz.func167,Tryz.ntmps167;go_wp2_with (at_make;refine wpList_make_own _ rfl _ _ 88 rfl w.heap.size 5 i0 (.int .u8 0) 1 Tryz.underlying88 hi hz0 hz1 _ _ _ s.size rfl rfl rfl ?b1 ?b2 ?b3 ?_)
 case b1=>rw[hz2];omega
 case b2=>unfold maxLen;omega
 case b3=>exact Nat.le_refl _
 intro w1 hown1 hgrow1;have hb1:Below w.heap.size w w1:=Below.grown (Below.refl _ _) hgrow1 (Nat.le_refl _) (fun k hk=>by cases hk);have hzw:=hb1.size;have HO:=zq hown1;have HB1:=zq hb1;clear hown1 hgrow1 hb1;have hkw:w.heap.size<w1.heap.size:=(HO.o.lt w.heap.size rfl).2;go_wp2_with fail;go_loopw [4,5] (fun v b wr=>Qka s w w1.heap.size v b wr) (fun _ _ wr=>s.size-wr.iterPos w1.heap.size)
 case atStart=>exact⟨0,false,Nat.zero_le _,World.iter_heap w1 s 0,HB1.o.alloc hzw _,HO.o.alloc _,by simp[Value.ownBlock];omega,rfl,rfl,LexP.Cz _⟩
 case round=>
  obtain⟨pos,bb,hpos,hit,hbel,hown,hne,rfl,hbb,hok⟩:=hrel;have hsz2:w1.heap.size<wr.heap.size:=(Array.getElem?_eq_some_iff.1 hit).1;have HOK:=zq hok;clear hok;by_cases hlt:pos<s.size
  ·have hn:=fun ty=>Lib.run_next_any_at (P:=Tryz.prog) wr w1.heap.size s pos ty hit hlt
   have hpl:pos<s.data.toList.length:=by rw[HSZ.o];exact hlt
   have hdg:=HD.o s.data.toList[pos] (List.getElem_mem hpl);have hdc:=List.drop_eq_getElem_cons hpl;have htk:s.data.toList.take (pos+1)=s.data.toList.take pos++[s.data.toList[pos]]:=List.take_succ_eq_append_getElem hpl;have hat:s.data.toList[pos]?=some s.data.toList[pos]:=List.getElem?_eq_getElem hpl;generalize s.data.toList[pos]=b at*
   have hb128:b.toNat<128:=by
    rcases hdg with h|h
    ·have:48<=b.toNat/\b.toNat<=57:=by simpa [NumP.Qu] using h
     omega
    ·rw[h];decide
   obtain⟨hv,hwd⟩:=LexP.Ee (b:=b) (r:=s.data.toList.drop (pos+1)) hb128;rw[LexP.Wy s pos hlt,LexP.Wj s pos hlt,hdc,hv,hwd]at hn;simp only[Option.getD_some]at hn;have HTK:=zq htk;have HAT:=zq hat;obtain⟨F,hF⟩:=xq ((s.data.toList.take pos).filter NumP.Qu);rw[<-hF]at hown
   have hFl:F.length<=67108864:=by
    have h1:=List.length_filter_le NumP.Qu (s.data.toList.take pos);have h2:=List.length_take_le pos s.data.toList;rw[hF];omega
   have HF:=zq hF;obtain⟨wi,hwi⟩:=xq (wr.iterAt w1.heap.size s (pos+1):World)
   have q1:wi.ownsRow w.heap.size 5 1 u4 F.length (Qr F):=by
    rw[hwi];exact World.ownsRow.kept hown (Tb wr w1.heap.size s (pos+1)) (.inr hne)
   have q2:Below w.heap.size w wi:=by rw[hwi];exact Lib.below_iterAt hbel (Nat.le_of_lt hkw) _ _
   have q3:wi.heap[w1.heap.size]?=some (.stringIter s (pos+1)):=by rw[hwi];exact Lib.iterAt_heap _ _ _ _ _ hit
   have q4:w1.heap.size<wi.heap.size:=(Array.getElem?_eq_some_iff.1 q3).1;rw[<-hwi]at hn
   have HM:Hid (s.size-(pos+1)<s.size-wr.iterPos w1.heap.size):=by show _<_;rw[Jz hit];omega
   clear hwi hown hbel hit hdc htk hv hwd hF hat;have Q3:=zq q3;have Q2:=zq q2;have HNE:=zq hne;clear q3 q2 hne;by_cases hdig:NumP.Qu b=true
   ·have hb48:48<=b.toNat/\b.toNat<=57:=by simpa [NumP.Qu] using hdig
    obtain⟨h481,h482⟩:=hb48
    have hn95:((b.toNat:Int)==95)=false:=by simp;omega
    have hb95:b≠95:=by rintro rfl;exact absurd hdig (by decide)
    have HDV:Hid (digVal b.toNat=b.toNat-48):=by show _=_;unfold digVal;rw[if_pos ⟨h481,h482⟩]
    have HTF:Hid ((s.data.toList.take (pos+1)).filter NumP.Qu=F++[b]):=by show _=_;rw[HTK.o,List.filter_append,HF.o];simp[hdig]
    have HBT:Hid (true=LexP.btw s.data.toList (pos+1)):=by show _=_;rw[LexP.At,HAT.o];simp[hb95]
    have HOK2:=zq (LexP.N0 HOK.o (fun h=>by rw[HAT.o]at h;exact absurd (Option.some.inj h) hb95));obtain⟨dg,hdgd⟩:=xq (b.toNat-48)
    have hdg10:dg<10:=by omega
    have HDG:=zq hdgd;clear hdg hdig hb95 hdgd hbb;go_wp2_with fail;refine(Ut b.toNat _ (by omega)).mono ?_;rintro e w' ⟨rfl,rfl⟩;rw[HDV.o,<-HDG.o];go_wp2_with (at_builtin;refine wpList_append_own_at _ rfl _ _ 88 rfl w.heap.size 5 i0 (.int .u8 0) 1 1 Tryz.underlying88 hi hz0 hz1 hz2 rfl (by decide) _ _ _ rfl (World.ownsRow.alloc q1 _) ⟨wi.heap.size,0,none⟩ 1 1 [.int .u8 b.toNat] rfl rfl (LexP.Qb _ _ _ _ rfl) (by simp[Value.oneCell']) (by unfold maxLen;omega) (by omega) (by simp;omega) ?_);intro v3 w3 hown3 hgrow3 _ hbk3
    have hF2:OwnB w.heap.size w3 v3 ((s.data.toList.take (pos+1)).filter NumP.Qu):=by
     show World.ownsRow _ _ _ _ _ _ _;rw[HTF.o,Q5,List.length_append];exact hown3
    have hit3:w3.heap[w1.heap.size]?=some (.stringIter s (pos+1)):=
     (hgrow3.block w1.heap.size (by simp;omega) (fun e=>HNE.o e.symm)).trans ((Below.heap_alloc _ _ _ q4).trans Q3.o)
    have HF3:Hid (Qka s w w1.heap.size v3 (.bool true) w3):=⟨pos+1,true,by omega,hit3,Below.grown (Q2.o.alloc (by omega) _) hgrow3 (by simp;omega) (fun q hq=>(World.ownsRow.lt q1 q hq).1),hF2,by
     rcases hbk3 with h|h
     ·rw[h];exact HNE.o
     ·rw[h];simp;omega,rfl,HBT.o,HOK2.o⟩
    have HM3:Hid (s.size-w3.iterPos w1.heap.size<s.size-wr.iterPos w1.heap.size):=by show _<_;rw[Jz hit3];exact HM.o
    clear hown3 hgrow3 hbk3 hF2 hit3 q1;go_wp2_with fail
    first|exact⟨HF3.o,HM3.o⟩|exact⟨by (repeat apply Exists.intro);exact⟨HF3.o,rfl⟩,HM3.o⟩
   ·have hb95:b=95:=hdg.resolve_left hdig
    subst hb95
    have HTF:Hid ((s.data.toList.take (pos+1)).filter NumP.Qu=F):=by show _=_;rw[HTK.o,List.filter_append,HF.o];simp[hdig]
    have e95:(95:UInt8).toNat=95:=rfl;rw[e95]at hn;clear hdg hdig e95 hb128
    cases bb with
    |true=>
     have HBT:Hid (false=LexP.btw s.data.toList (pos+1)):=by show _=_;rw[LexP.At,HAT.o];rfl
     have HOK2:=zq (LexP.N0 HOK.o (fun _=>hbb.o.symm));have HF3:Hid (Qka s w w1.heap.size u4 (.bool false) wi):=⟨pos+1,false,by omega,Q3.o,Q2.o,by rw[HTF.o];exact q1,HNE.o,rfl,HBT.o,HOK2.o⟩
     have HM3:Hid (s.size-wi.iterPos w1.heap.size<s.size-wr.iterPos w1.heap.size):=by show _<_;rw[Jz Q3.o];exact HM.o
     clear hbb q1;go_wp2_with fail
     first|exact⟨HF3.o,HM3.o⟩|exact⟨by (repeat apply Exists.intro);exact⟨HF3.o,rfl⟩,HM3.o⟩
    |false=>
     have HBAD:=zq (LexP.Qg1 HAT.o hbb.o.symm);clear hbb q1;go_wp2_with fail;refine(Ut 95 _ (by omega)).mono ?_;rintro e w' ⟨rfl,rfl⟩;rw[show digVal 95=36 from by decide];go_wp2_with fail;go_ret2;exact .inl ⟨HBAD.o,rfl,Q2.o⟩
  ·have hn:=fun ty=>Lib.run_next_end_at (P:=Tryz.prog) wr w1.heap.size s pos ty hit hlt
   have hpe:s.data.toList.take pos=s.data.toList:=List.take_of_length_le (by rw[HSZ.o];omega)
   have hpp:pos=s.data.toList.length:=by rw[HSZ.o];omega
   rw[hpe]at hown;have HBEL:=zq hbel;have hbz:=hbel.size
   have HOK2:Hid (LexP.P3 s.data.toList s.data.toList.length):=by rw[<-hpp];exact HOK.o
   have hbb2:Hid (bb=LexP.btw s.data.toList s.data.toList.length):=by rw[<-hpp];exact hbb
   clear hbel hpe hit hne hbb HOK hpp
   cases bb with
   |false=>
    have HBAD:=zq (LexP.Ke HNE0.o hbb2.o.symm);clear hbb2 hown;go_wp2_with fail;go_ret2
    exact .inl ⟨HBAD.o,rfl,HBEL.o⟩
   |true=>
    have HGOOD:=zq (LexP.Qjy HOK2.o hbb2.o.symm);have hcv:=Vw (B:=w.heap.size) (w:=wr) (v:=u4) hown;have hfl:=Qvq HD.o HNE0.o HGOOD.o;have hfl2:=List.length_filter_le NumP.Qu s.data.toList;rw[HSZ.o]at hfl2
    have hfs:(⟨(s.data.toList.filter NumP.Qu).toArray⟩:ByteArray).size=(s.data.toList.filter NumP.Qu).length:=by rw[Lib.size_eq]
    have HS1:Hid ((⟨(s.data.toList.filter NumP.Qu).toArray⟩:ByteArray).size<=67108864):=by show _<=_;rw[hfs];omega
    have HS0:Hid (0<(⟨(s.data.toList.filter NumP.Qu).toArray⟩:ByteArray).size):=by show _<_;rw[hfs];omega
    have HFD:Hid (∀c∈(⟨(s.data.toList.filter NumP.Qu).toArray⟩:ByteArray).data.toList,NumP.Qu c=true):=by
     intro c hc;simp only[List.toList_toArray]at hc;exact(List.mem_filter.1 hc).2
    clear hbb2 hown hfl hfl2 hfs;go_wp2_with fail;refine(Mw _ wr HS1.o HS0.o HFD.o).mono ?_;rintro e w2 ⟨v2,x2,rfl,a1,a2,a4,a5⟩;have A1:=zq (a1.mono hbz);have A2:=zq a2;have A4:=zq a4;have A5:Hid (Below w.heap.size w w2):=HBEL.o.trans (a5.mono hbz);clear a1 a2 a4 a5;go_wp2_with fail;go_ret2;exact .inr ⟨HGOOD.o,_,x2,rfl,A1.o,A2.o,A4.o,A5.o⟩
open LexP
def Eb (c k:Nat):Ending:=.panicked [{v:=.iface 81 (.agg #[.int .i64 (c:Nat),.int .i64 (k:Nat)]),recovered:=false}]
theorem Jo (R:Nat)(lv:Value)(L:List Tok)(fin a:Nat)(s:SynP.St)(nv:Value)(ns:List Nv)(w:World)(h:RS w R lv L fin a s nv ns):
  Calls Tryz.prog 56 #[.pointer (some ⟨R,0,none⟩)] w fun e w'=>e=Eb (SynP.Q7 fin s.ts) 14/\Below w.heap.size w w':=by
 have H:=zq h;clear h;go_enter Tryz.func56,Tryz.ntmps56;go_wp2_with fail;refine(Qyl R lv L fin a s nv ns _ H.o).mono ?_;rintro e w1 ⟨rfl,hb⟩;have HB:=zq hb;clear hb;go_wp2_with fail;exact⟨rfl,rfl,HB.o⟩
def RB {α:Type}(r:SynP.PR α)(R:Nat)(lv:Value)(L:List Tok)(fin:Nat)(s:SynP.St)(nv:Value)(ns:List Nv)(Q:α->Value->World->Prop)(w:World)(e:Ending)(w':World):Prop:=
 match r with
 |none=>False
 |some (.error (c,k))=>e=Eb c k/\Wr R none w w'
 |some (.ok (x,s'))=> ∃v a',e=.returned v/\RS w' R lv L fin a' s' nv ns/\Wr R none w w'/\s'.ts.length<=s.ts.length/\Q x v w'
theorem Zh (s:SynP.St):s.adv.ts.length<=s.ts.length:=by
 show s.ts.tail.length<=_;rw[List.length_tail];omega
theorem Vn (R:Nat)(lv:Value)(L:List Tok)(fin a:Nat)(s:SynP.St)(nv:Value)(ns:List Nv)(w:World)(h:RS w R lv L fin a s nv ns)(x:Qx):
  Calls Tryz.prog 96 #[.pointer (some ⟨R,0,none⟩),.string ⟨x.toArray⟩] w (RB (SynP.want fin x s) R lv L fin s nv ns (fun _ v _=>v=.tuple #[]) w):=by
 have H:=zq h;clear h
 cases hm:SynP.Qv x s.ts with
 |false=>
  have HM:=zq hm;clear hm;go_enter Tryz.func96,Tryz.ntmps96;go_wp2_with fail;refine(Zx R lv L fin a s nv ns _ H.o x).mono ?_;rintro e w1 ⟨rfl,b1,b2⟩;rw[if_neg (by rw[HM.o];decide)]at b2;rw[HM.o];have HB1:=zq b1;have HB2:=zq b2;clear b1 b2;go_wp2_with fail;refine(Jo R lv L fin a s nv ns _ HB2.o).mono ?_;rintro e w2 ⟨rfl,b3⟩;have HB3:=zq b3;clear b3;refine⟨rfl,?_⟩;unfold SynP.want;rw[if_neg (by rw[HM.o];decide)]
  exact⟨rfl,HB1.o.trans (Mv.refl _ _) (Wr.of_below HB3.o)⟩
 |true=>
  have HM:=zq hm;clear hm;go_enter Tryz.func96,Tryz.ntmps96;go_wp2_with fail;refine(Zx R lv L fin a s nv ns _ H.o x).mono ?_;rintro e w1 ⟨rfl,b1,b2⟩;rw[if_pos HM.o]at b2;rw[HM.o];have HB1:=zq b1;have HB2:=zq b2;clear b1 b2;go_wp2_with fail;go_end0;show RB (SynP.want fin x s) _ _ _ _ _ _ _ _ _ _ _;unfold SynP.want;rw[if_pos HM.o];exact⟨_,_,rfl,HB2.o,HB1.o,Zh s,rfl⟩
theorem Ph (R:Nat)(lv:Value)(L:List Tok)(fin a:Nat)(s:SynP.St)(nv:Value)(ns:List Nv)(w:World)(h:RS w R lv L fin a s nv ns):
  Calls Tryz.prog 95 #[.pointer (some ⟨R,0,none⟩)] w (RB (SynP.name fin s) R lv L fin s nv ns (fun x v _=>v=.string ⟨x.toArray⟩) w):=by
 have H:=zq h;have hc:=Xj 2 [] s.ts (by decide)
 cases hm:SynP.Qy 2 s.ts with
 |false=>
  rw[hm]at hc;have HM:=zq hm;have HC:=zq hc;clear hm hc h;go_enter Tryz.func95,Tryz.ntmps95;go_wp2_with fail;refine(Qt R lv L fin a s nv ns _ H.o 0 2 [] (by omega) (by omega)).mono ?_;rintro e w1 ⟨rfl,b1⟩;rw[HC.o];have HB1:=zq b1;clear b1;go_wp2_with fail;refine(Jo R lv L fin a s nv ns _ (H.o.below HB1.o)).mono ?_;rintro e w2 ⟨rfl,b3⟩;refine⟨rfl,?_⟩;unfold SynP.name;rw[if_neg (by rw[HM.o];decide)]
  exact⟨rfl,(Wr.of_below HB1.o).trans (Mv.refl _ _) (Wr.of_below b3)⟩
 |true=>
  rw[hm]at hc;obtain⟨c0,c1,-,-,-⟩:=h.cells;obtain⟨ao,cap,rfl,t1,t2,t3⟩:=h.tks;have hsh:=h.short;obtain⟨p1,p2,p3⟩:=Ns h.drop (Vq hm)
  have hn:a<L.length:=by omega
  obtain⟨g,rfl,hg,hcl⟩:=t3 (by omega);obtain⟨t,ht⟩:∃t,L[a]?=some t:=⟨_,List.getElem?_eq_getElem hn⟩;obtain⟨d0,d1,d2⟩:=hcl a t ht
  have hx:SynP.Qm s.ts=t.2.1:=by rw[<-h.drop,List.drop_eq_getElem?_toList_append,ht];rfl
  have hRl:=h.lt;have HM:=zq hm;have HC:=zq hc;have HX:=zq hx;have C0:=zq c0;have C1:=zq c1;have D1:=zq d1;obtain⟨tk,tt,tc⟩:=t;clear hm hc h t3 hcl ht hx c0 c1 d0 d1 d2 p1 p2 p3;go_enter Tryz.func95,Tryz.ntmps95;go_wp2_with fail;refine(Qt R _ L fin a s nv ns _ H.o 0 2 [] (by omega) (by omega)).mono ?_;rintro e w1 ⟨rfl,b1⟩;rw[HC.o];have HB1:=zq b1;have HS1:=zq (H.o.below b1);have e0:=HS1.o.cells.1;have e1:=HS1.o.cells.2.1;have e2:w1.cell? ⟨g,a*3+1,none⟩=some (.string ⟨tt.toArray⟩):=(b1.cell (p:=⟨g,a*3+1,none⟩) (by show g<_;omega)).trans D1.o;have f1:=HS1.o.fro 1;have HS2:=zq (H.o.below (b1.trans ((below_drewN w1 1).mono b1.size)));clear b1;go_wp2_with fail;go_region;go_wp2_with fail;go_ret;obtain⟨g1,g2⟩:=HS2.o.adv (Vq HM.o);unfold SynP.name;rw[if_pos HM.o,HX.o];exact⟨_,_,rfl,g1,(Wr.of_below HB1.o).trans (Mv.refl _ _) (((Wr.of_below (below_drewN w1 1))).trans (Mv.refl _ _) g2),Zh s,rfl⟩
def NFr (B:Nat)(w:World)(v:Value)(n:Nat):Prop:=NRd w v n/\(∀q,v.ownBlock=some q->B<=q/\q<w.heap.size)/\(lenOf v=0↔n=0)
theorem NFr.wr {B R:Nat}{og:Option Nat}{w w':World}{v:Value}{n:Nat}(h:NFr B w v n)(hw:Wr R og w w')(hR:R<B)(ho:∀q,og=some q->q<B):NFr B w' v n:=by
 obtain⟨⟨xs,K,J,H⟩,E,I⟩:=h;exact⟨⟨xs,K.wr hw (fun q hq=>⟨by have:=E q hq;omega,fun e=>by have:=E q hq;have:=ho q e;omega⟩),J,H⟩,fun q hq=>⟨(E q hq).1,Nat.lt_of_lt_of_le (E q hq).2 hw.size⟩,I⟩
theorem NFr.set {B R:Nat}{w:World}{v:Value}{n:Nat}(h:NFr B w v n)(hR:R<B)(o:Nat)(u:Value):NFr B (w.setCell ⟨R,o,none⟩ u) v n:=
 h.wr (og:=none) (Wr.of_set w o u) hR (fun q hq=>by cases hq)
theorem NFr.mono {B B':Nat}{w:World}{v:Value}{n:Nat}(h:NFr B w v n)(hb:B'<=B):NFr B' w v n:=⟨h.1,fun q hq=>⟨Nat.le_trans hb (h.2.1 q hq).1,(h.2.1 q hq).2⟩,h.2.2⟩
theorem Ad (t:Qx):SynP.Xx t<10^t.length:=by
 have I:(digs (t.filter NumP.Qu)).length<=t.length:=by
  rw[digs,List.length_map];exact List.length_filter_le _ _
 have H:∀x∈digs (t.filter NumP.Qu),x<10:=by
  intro x E;simp only[digs,List.mem_map]at E;obtain⟨c,J,rfl⟩:=E;have h:=(List.mem_filter.1 J).2;unfold NumP.Qu at h;simp at h;omega
 exact Nat.lt_of_lt_of_le (Tu H) (Nat.pow_le_pow_right (by omega) I)
theorem Cf (t:Qx)(w:World)(h1:Je t)(h2:0<t.length)(h3:t.length<=67108864)(h4:Xr t=false):
  Calls Tryz.prog 167 #[.string ⟨t.toArray⟩] w fun e w'=> ∃v,e=.returned (.tuple #[v,.int .i64 0])/\NFr w.heap.size w' v (SynP.Xx t)/\Below w.heap.size w w':=by
 refine(Mu ⟨t.toArray⟩ w h3 h2 h1).mono ?_;rintro e w' (⟨h,-,-⟩|⟨-,v,xs,rfl,a1,a2,a3,a4⟩)
 ·exact absurd h (by show ¬Xr t=true;rw[h4];decide)
 ·have a2':NatP.val xs=SynP.Xx t:=a2
  refine⟨v,rfl,⟨⟨xs,a1.1,a2',Nat.le_trans (Se a3 (by rw[a2'];exact Ad t)) h3⟩,a1.2,?_⟩,a4⟩;obtain⟨ao,E,rfl,-⟩:=a1.1.2;show xs.length=0↔_;rw[<-a2'];constructor
  ·intro e;rw[List.eq_nil_of_length_eq_zero e];rfl
  ·intro e
   have:=Yy xs 0 (by rw[e];simp);rw[a3]at this;omega
theorem Z0 (R:Nat)(lv:Value)(L:List Tok)(fin a:Nat)(s:SynP.St)(nv:Value)(ns:List Nv)(w:World)(h:RS w R lv L fin a s nv ns):
  Calls Tryz.prog 111 #[.pointer (some ⟨R,0,none⟩)] w (RB (SynP.Qi fin s) R lv L fin s nv ns (fun x v w'=>NFr w.heap.size w' v x) w):=by
 have H:=zq h;have hc:=Xj 1 [] s.ts (by decide)
 cases hm:SynP.Qy 1 s.ts with
 |false=>
  rw[hm]at hc;have HM:=zq hm;have HC:=zq hc;clear hm hc h;go_enter Tryz.func111,Tryz.ntmps111;go_wp2_with fail;refine(Qt R lv L fin a s nv ns _ H.o 0 1 [] (by omega) (by omega)).mono ?_;rintro e w1 ⟨rfl,b1⟩;rw[HC.o];have HB1:=zq b1;clear b1;go_wp2_with fail;refine(Jo R lv L fin a s nv ns _ (H.o.below HB1.o)).mono ?_;rintro e w2 ⟨rfl,b3⟩;refine⟨rfl,?_⟩;unfold SynP.Qi;rw[if_neg (by rw[HM.o];decide)]
  exact⟨rfl,(Wr.of_below HB1.o).trans (Mv.refl _ _) (Wr.of_below b3)⟩
 |true=>
  rw[hm]at hc;obtain⟨c0,c1,-,-,-⟩:=h.cells;obtain⟨ao,cap,rfl,t1,t2,t3⟩:=h.tks;have hsh:=h.short;obtain⟨p1,p2,p3⟩:=Ns h.drop (Vq hm)
  have hn:a<L.length:=by omega
  obtain⟨g,rfl,hg,hcl⟩:=t3 (by omega);obtain⟨t,ht⟩:∃t,L[a]?=some t:=⟨_,List.getElem?_eq_getElem hn⟩;obtain⟨d0,d1,d2⟩:=hcl a t ht
  have hts:s.ts=t::L.drop (a+1):=by rw[<-h.drop,List.drop_eq_getElem?_toList_append,ht];rfl
  have hx:SynP.Qm s.ts=t.2.1:=by rw[hts];rfl
  have ht1:t.1=1:=by
   rw[hts]at hm;obtain⟨tk,tt,tc⟩:=t
   simpa [SynP.Qy] using hm
  have hok:=h.good t (List.mem_of_getElem? ht) ht1;have hRl:=h.lt;have HM:=zq hm;have HC:=zq hc;have HX:=zq hx;have D1:=zq d1;obtain⟨tk,tt,tc⟩:=t;have HOK:=zq hok;clear hm hc h t3 hcl ht hx c0 c1 d0 d1 d2 p1 p2 p3 hok ht1 hts;go_enter Tryz.func111,Tryz.ntmps111;go_wp2_with fail;refine(Qt R _ L fin a s nv ns _ H.o 0 1 [] (by omega) (by omega)).mono ?_;rintro e w1 ⟨rfl,b1⟩;rw[HC.o];have HB1:=zq b1;have HS1:=zq (H.o.below b1);have e0:=HS1.o.cells.1;have e1:=HS1.o.cells.2.1;have e2:w1.cell? ⟨g,a*3+1,none⟩=some (.string ⟨tt.toArray⟩):=(b1.cell (p:=⟨g,a*3+1,none⟩) (by show g<_;omega)).trans D1.o;have hRl1:R<w1.heap.size:=Nat.lt_of_lt_of_le hRl b1.size
  have hgl1:g<w1.heap.size:=by omega
  clear b1;go_wp2_with fail
  go_region_held3 (fun w'=>w'.cell? ⟨R,0,none⟩=some (.slice (some ⟨g,0,none⟩) L.length cap)/\w'.cell? ⟨R,1,none⟩=some (.int .i64 (a:Nat))/\w'.cell? ⟨g,a*3+1,none⟩=some (.string ⟨tt.toArray⟩))
   (first
    |go_keep
    |exact⟨(a2.cell (p:=⟨R,0,none⟩) hRl1).trans e0,(a2.cell (p:=⟨R,1,none⟩) hRl1).trans e1,(a2.cell (p:=⟨g,a*3+1,none⟩) hgl1).trans e2⟩)
   ((go_at_call 167;refine(Cf tt _ HOK.o.1 HOK.o.2.1 HOK.o.2.2.1 HOK.o.2.2.2).mono ?_;rintro e w3 ⟨v3,rfl,a1,a2⟩))
  have A1:=zq a1;have A2:Hid (Below w1.heap.size w1 w3):=(below_drewN w1 1).trans a2;have HS3:=zq (HS1.o.below A2.o);have c1:=HS3.o.cells.2.1;have f1:=HS3.o.fro 1;clear a1 a2 e0 e1 e2;go_wp2_with fail;go_ret;obtain⟨g1,g2⟩:=HS3.o.adv (Vq HM.o);unfold SynP.Qi;rw[if_pos HM.o,HX.o];refine⟨_,_,rfl,g1,(Wr.of_below HB1.o).trans (Mv.refl _ _) (((Wr.of_below A2.o)).trans (Mv.refl _ _) g2),Zh s,?_⟩;exact(NFr.mono (NFr.set (R:=R) A1.o hRl1 1 _) HB1.o.size)
theorem Tryz.infoNd:(Tryz.prog.info? 43).map (fun i=>(i.zero,i.size,i.bytes))=some (some (.agg #[.int .i64 0,.string ⟨#[]⟩,.slice none 0 0]),3,48):=by kernel_rfl
def KNew (w:World)(R:Nat)(nv:Value)(ns:List Nv)(v:Value)(ks:List Nat):Prop:=KR w R nv.ownBlock v ks/\ ∀p∈ns,∀q,p.2.ownBlock=some q->v.ownBlock≠some q
theorem RS.put {w w2:World}{R:Nat}{lv:Value}{L:List Tok}{fin a:Nat}{s:SynP.St}{nv:Value}{ns:List Nv}(h:RS w R lv L fin a s nv ns){kv:Value}{nd:SynP.Node}(hk:KNew w R nv ns kv nd.kids)(hf:ns.length+1+s.ts.length<=134217728){gg cap:Nat}
  (hown:w2.ownsRow (R+1) 43 3 (.slice (some ⟨gg,0,none⟩) (ns.length+1) cap) (ns.length+1) (Xd ns++Xd [(nd,kv)])) (hg:w.grownBy w2 nv.ownBlock) (hat:nv.ownBlock=some gg\/gg=w.heap.size):
  RS (w2.setCell ⟨R,4,none⟩ (.slice (some ⟨gg,0,none⟩) (ns.length+1) cap)) R lv L fin a s (.slice (some ⟨gg,0,none⟩) (ns.length+1) cap) (ns++[(nd,kv)])/\Wr R nv.ownBlock w (w2.setCell ⟨R,4,none⟩ (.slice (some ⟨gg,0,none⟩) (ns.length+1) cap))/\Mv w nv.ownBlock (Value.ownBlock (.slice (some ⟨gg,0,none⟩) (ns.length+1) cap)):=by
 have a2:some R≠nv.ownBlock:=fun e=>by have:=h.gt R e.symm;omega
 have hb:=(hg.block R h.lt a2).trans h.blk;have Z:=heap_setCell_same w2 R 4 #[lv,.int .i64 (a:Nat),.int .i64 (fin:Nat),.int .i64 (s.opened:Nat),nv] 85 (.slice (some ⟨gg,0,none⟩) (ns.length+1) cap) hb;have E:Wr R nv.ownBlock w (w2.setCell ⟨R,4,none⟩ (.slice (some ⟨gg,0,none⟩) (ns.length+1) cap)):=(Wr.of_grown hg).trans (Mv.refl _ _) (Wr.of_set w2 4 _)
 have T:Mv w nv.ownBlock (Value.ownBlock (.slice (some ⟨gg,0,none⟩) (ns.length+1) cap)):=by
  intro k hk
  cases hk
  rcases hat with h|h
  ·exact .inl h
  ·exact .inr (Nat.le_of_eq h.symm)
 have I:(ns++[(nd,kv)]).length=ns.length+1:=by simp
 refine⟨⟨Z.trans (by simp),h.tks.wr E h.lt h.gt,h.drop,h.le,?_,?_,?_,by rw[I];exact hf,h.deep,h.short,h.sum,h.good,h.sg.wr E (Nat.ne_of_lt h.sgl) (fun e=>by have:=h.gt _ e;have:=h.sgl;omega),h.sgl⟩,E,T⟩
 ·rw[I,Wa]
  exact ownsRow_setCell_below hown (by simp) _
 ·intro p K
  rcases List.mem_append.1 K with K|K
  ·exact(h.kids p K).wr E T
  ·rw[List.mem_singleton.1 K]
   exact hk.1.wr E T
 ·intro i j p q k H hj O J
  have U:∀(i:Nat) (p:Nv),(ns++[(nd,kv)])[i]?=some p->(ns[i]?=some p/\i<ns.length)\/(i=ns.length/\p=(nd,kv)):=by
   intro i p H;by_cases hlt:i<ns.length
   ·rw[List.getElem?_append_left hlt]at H;exact .inl ⟨H,hlt⟩
   ·have:=(List.getElem?_eq_some_iff.1 H).1
    rw[I]at this
    have e:i=ns.length:=by omega
    subst e;rw[List.getElem?_append_right (Nat.le_refl _)]at H;simp at H;exact .inr ⟨rfl,H.symm⟩
  rcases U i p H with ⟨h1,a6⟩|⟨h1,rfl⟩<;>rcases U j q hj with ⟨h2,a5⟩|⟨h2,rfl⟩
  ·exact h.apart i j p q k h1 h2 O J
  ·exact absurd J (hk.2 p (List.mem_of_getElem? h1) k O)
  ·exact absurd O (hk.2 q (List.mem_of_getElem? h2) k J)
  ·omega
def PutP (R:Nat)(lv:Value)(L:List Tok)(fin a:Nat)(s:SynP.St)(nv:Value)(ns:List Nv)(nd:SynP.Node)(kv:Value)(w:World)(e:Ending)(w':World):Prop:=
 ∃nv',e=.returned (.int .i64 (ns.length:Nat))/\RS w' R lv L fin a s nv' (ns++[(nd,kv)])/\Wr R nv.ownBlock w w'/\Mv w nv.ownBlock nv'.ownBlock
theorem Zp (R:Nat)(lv:Value)(L:List Tok)(fin a:Nat)(s:SynP.St)(nv:Value)(ns:List Nv)(w:World)(h:RS w R lv L fin a s nv ns)(nd:SynP.Node)(kv:Value)(hk:KNew w R nv ns kv nd.kids)(hf:ns.length+1+s.ts.length<=134217728):
  Calls Tryz.prog 93 #[.pointer (some ⟨R,0,none⟩),.int .i64 (nd.op:Nat),.string ⟨nd.text.toArray⟩,kv] w (PutP R lv L fin a s nv ns nd kv w):=by
 obtain⟨i0,hi,hz0,hz1,hz2⟩:=info_parts Tryz.infoNd;obtain⟨ko,kcap,hkv,-⟩:=hk.1
 have hnl:ns.length<=134217728:=by omega
 have HK:=zq hk;have HH:=zq h;obtain⟨op,text,kids⟩:=nd;subst hkv;have HA:=zq (Qq w (.cells #[.int .i64 (op:Nat),.string ⟨text.toArray⟩,.slice ko kids.length kcap] 43));have HS:=zq (h.below HA.o);have HKN:Hid (KNew (w.alloc (.cells #[.int .i64 (op:Nat),.string ⟨text.toArray⟩,.slice ko kids.length kcap] 43)) R nv ns (.slice ko kids.length kcap) kids):=⟨hk.1.wr (Wr.of_below HA.o) (Mv.refl _ _),hk.2⟩;have HLT:Hid (R<(w.alloc (.cells #[.int .i64 (op:Nat),.string ⟨text.toArray⟩,.slice ko kids.length kcap] 43)).heap.size):=HS.o.lt
 have HNE:Hid (some R≠nv.ownBlock):=fun e=>by have:=HS.o.gt R e.symm;omega
 have c4:=h.cells.2.2.2.2;have HC4:=zq HS.o.cells.2.2.2.2;have HF4:=zq (HS.o.fro 4);obtain⟨nl,hnle⟩:=xq ns.length;have HNL:=zq hnle;have hsz:=h.lt;rw[<-hnle]at hnl
 have hOWN:(w.alloc (.cells #[.int .i64 (op:Nat),.string ⟨text.toArray⟩,.slice ko kids.length kcap] 43)).ownsRow (R+1) 43 3 nv nl (Xd ns):=by rw[hnle];exact HS.o.own
 have HOWN:=zq hOWN;clear h hk hnle hOWN;go_enter Tryz.func93,Tryz.ntmps93;go_wp2_with (at_builtin;refine wpList_append_lies _ rfl _ _ 23 rfl (R+1) 43 i0 (.agg #[.int .i64 0,.string ⟨#[]⟩,.slice none 0 0]) 3 48 Tryz.underlying23 hi hz0 hz1 hz2 rfl (by omega) nv nl (Xd ns) rfl HOWN.o ⟨w.heap.size,0,none⟩ 1 1 [.int .i64 (op:Nat),.string ⟨text.toArray⟩,.slice ko kids.length kcap] rfl rfl (LexP.Qb _ _ _ _ rfl) (by simp[Value.oneCell']) (by omega) (by unfold maxLen;omega) (by omega) (by have:=HLT.o;simp at this;simp;omega) (w.heap.size+1) (by simp) ?_);intro gg cap w5 hown5 hgrow hat hlt5;have d4:w5.cell? ⟨R,4,none⟩=some nv:=(hgrow.cell_far ⟨R,4,none⟩ HLT.o HNE.o).trans HC4.o;have d5:w5.frozen? ⟨R,4,none⟩=false:=(hgrow.frozen_far ⟨R,4,none⟩ HLT.o HNE.o).trans HF4.o;have HG:=zq (HS.o.put (kv:=.slice ko kids.length kcap) (nd:=⟨op,text,kids⟩) HKN.o hf (gg:=gg) (cap:=cap) (by rw[<-HNL.o];exact hown5) hgrow (by simpa using hat));rw[<-HNL.o]at HG;clear hown5 hgrow hat hlt5;go_wp2_with fail;go_ret;exact⟨_,by rw[<-HNL.o];rfl,HG.o.1,(Wr.of_below HA.o).trans (Mv.refl _ _) HG.o.2.1,fun k hk=>(HG.o.2.2 k hk).imp id (fun h=>Nat.le_trans HA.o.size h)⟩
end Go.Proofs.YtgfmiladfeoldaaGreatDoor
