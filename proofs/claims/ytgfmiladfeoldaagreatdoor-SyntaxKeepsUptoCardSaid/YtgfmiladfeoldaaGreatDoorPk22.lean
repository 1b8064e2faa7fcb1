import Derived.Test.YtgfmiladfeoldaaGreatDoorPk18
set_option linter.unusedSimpArgs false
set_option linter.unusedVariables false
set_option maxRecDepth 100000
set_option maxHeartbeats 16000000
namespace LexP
theorem Qwv {b:UInt8}{t:Qx}{v n:Nat}(h:dec (b::t)=some (v,n))(hb:128<=b.toNat):128<=v:=by
 unfold dec at h;simp only[show ¬b.toNat<128 from by omega,if_false]at h;split at h
 ·split at h
  ·split at h
   ·rename_i E
    simp only[Bool.and_eq_true,decide_eq_true_eq]at E;simp at h;omega
   ·cases h
  ·cases h
 split at h
 ·split at h
  ·split at h
   ·rename_i E
    simp only[Bool.and_eq_true,decide_eq_true_eq]at E;simp at h;omega
   ·cases h
  ·cases h
 split at h
 ·split at h
  ·split at h
   ·rename_i E
    simp only[Bool.and_eq_true,decide_eq_true_eq]at E;simp at h;omega
   ·cases h
  ·cases h
 ·cases h
theorem Qy1 {b:UInt8}{t:Qx}(h:NumP.Xz b=false):(val (b::t)).getD 65533<=0x10ffff/\10<=NatP.digVal ((val (b::t)).getD 65533):=by
 have I: ¬(48<=b.toNat/\b.toNat<=57):=by
  intro J;unfold NumP.Xz at h;simp at h;omega
 unfold val
 cases hdc:dec (b::t) with
 |none=>exact⟨by decide,by decide⟩
 |some p=>
  obtain⟨v,n⟩:=p;have E:=Qwk hdc;show v<=0x10ffff/\10<=NatP.digVal v;refine⟨E,?_⟩
  have H: ¬(48<=v/\v<=57):=by
   by_cases hb:b.toNat<128
   ·rw[Qww hdc hb];exact I
   ·have:=Qwv hdc (by omega);omega
  unfold NatP.digVal;rw[if_neg H];split
  ·omega
  ·split<;>omega
end LexP
namespace Go.Proofs.YtgfmiladfeoldaaGreatDoor
open Go.RowKit NatP LexP
def Qkl (s:ByteArray)(w:World)(k:Nat)(dv:Value)(wr:World):Prop:=
 ∃pos,pos<=s.size/\wr.heap[k]?=some (.stringIter s pos)/\Below w.heap.size w wr/\wr.ownsRow w.heap.size 5 1 dv (LexP.digs (s.data.toList.take pos)).length (ds8 (LexP.digs (s.data.toList.take pos)))/\dv.ownBlock≠some k/\ ∀c∈s.data.toList.take pos,NumP.Xz c=true
theorem Qyo (s:ByteArray)(w:World)(hs:s.size<=67108864)(hd:s.size=0\/ ∃c∈s.data.toList,NumP.Xz c=false):
  Calls Tryz.prog 236 #[.string s,.int .i64 10] w fun e w'=>e=.returned (.tuple #[.slice none 0 0,.int .i64 7])/\Below w.heap.size w w':=by
 obtain⟨i0,hi,hz0,hz1,hz2⟩:=info_parts Tryz.infoB;have hsz:s.data.toList.length=s.size:=(Lib.size_eq s).symm;have HSZ:=zq hsz;have HD:=zq hd;clear hsz hd;go_enter Tryz.func236,Tryz.ntmps236;go_wp2_with (at_make;refine wpList_make_own _ rfl _ _ 88 rfl w.heap.size 5 i0 (.int .u8 0) 1 Tryz.underlying88 hi hz0 hz1 _ _ _ s.size rfl rfl rfl ?b1 ?b2 ?b3 ?_)
 case b1=>rw[hz2];omega
 case b2=>unfold maxLen;omega
 case b3=>exact Nat.le_refl _
 intro w1 hown1 hgrow1;have hb1:Below w.heap.size w w1:=Below.grown (Below.refl _ _) hgrow1 (Nat.le_refl _) (fun k hk=>by cases hk);have hzw:=hb1.size;have HO:=zq hown1;have HB1:=zq hb1;clear hown1 hgrow1 hb1;have hkw:w.heap.size<w1.heap.size:=(HO.o.lt w.heap.size rfl).2;go_wp2_with fail;go_loopw [6] (fun v wr=>Qkl s w w1.heap.size v wr) (fun _ wr=>s.size-wr.iterPos w1.heap.size)
 case atStart=>exact⟨0,Nat.zero_le _,World.iter_heap w1 s 0,HB1.o.alloc hzw _,HO.o.alloc _,by simp[Value.ownBlock];omega,by simp⟩
 case round=>
  obtain⟨pos,hpos,hit,hbel,hown,hne,hall⟩:=hrel;have hsz2:w1.heap.size<wr.heap.size:=(Array.getElem?_eq_some_iff.1 hit).1;by_cases hlt:pos<s.size
  ·have hn:=fun ty=>Lib.run_next_any_at (P:=Tryz.prog) wr w1.heap.size s pos ty hit hlt
   have hpl:pos<s.data.toList.length:=by rw[HSZ.o];exact hlt
   by_cases hdg: ¬NumP.Xz s.data.toList[pos]=true
   ·have hdc:=List.drop_eq_getElem_cons hpl
    have hval:=LexP.Qy1 (b:=s.data.toList[pos]) (t:=s.data.toList.drop (pos+1)) (by simpa using hdg);rw[<-hdc]at hval;rw[LexP.Wd s pos hlt,LexP.Wu s pos hlt]at hn;obtain⟨rv,hrv⟩:=xq ((LexP.val (s.data.toList.drop pos)).getD 65533);rw[<-hrv]at hn hval;obtain⟨rw_,hrw⟩:=xq (LexP.wid (s.data.toList.drop pos));rw[<-hrw]at hn;obtain⟨wi,hwi⟩:=xq (wr.iterAt w1.heap.size s (pos+rw_):World)
    have q2:Below w.heap.size w wi:=by rw[hwi];exact Lib.below_iterAt hbel (Nat.le_of_lt hkw) _ _
    rw[<-hwi]at hn;obtain⟨dv,hdv⟩:=xq (digVal rv);obtain⟨hv1,hv2⟩:=hval;rw[<-hdv]at hv2;have HDV:=zq hdv;have Q2:=zq q2;clear hwi hown hbel hit hdc hrv hrw hdv q2 hall hdg;go_wp2_with fail;refine(U2 rv _ hv1).mono ?_;rintro e w' ⟨rfl,rfl⟩;rw[<-HDV.o];go_wp2_with fail;go_ret2;exact⟨rfl,Q2.o⟩
   have hdg:NumP.Xz s.data.toList[pos]=true:=by simpa using hdg
   have hdc:=List.drop_eq_getElem_cons hpl;have htk:s.data.toList.take (pos+1)=s.data.toList.take pos++[s.data.toList[pos]]:=List.take_succ_eq_append_getElem hpl;generalize s.data.toList[pos]=b at*
   have hb48:48<=b.toNat/\b.toNat<=57:=by simpa [NumP.Xz] using hdg
   obtain⟨hv,hwd⟩:=LexP.Eo (b:=b) (r:=s.data.toList.drop (pos+1)) (by omega);rw[LexP.Wd s pos hlt,LexP.Wu s pos hlt,hdc,hv,hwd]at hn;simp only[Option.getD_some]at hn
   have hall':∀c∈s.data.toList.take (pos+1),NumP.Xz c=true:=by
    intro c hc;rw[htk]at hc;rcases List.mem_append.1 hc with hc|hc
    ·exact hall c hc
    ·rw[List.mem_singleton.1 hc];exact hdg
   have HALL:=zq hall'
   have HTK:Hid (LexP.digs (s.data.toList.take (pos+1))=LexP.digs (s.data.toList.take pos)++[b.toNat-48]):=by
    show _=_;rw[htk,LexP.Nt];rfl
   have hdv:digVal b.toNat=b.toNat-48:=by unfold digVal;rw[if_pos hb48]
   have HDV:=zq hdv
   have hfl:(LexP.digs (s.data.toList.take pos)).length=pos:=by rw[LexP.digs,List.length_map,List.length_take];omega
   have HFL:=zq hfl;obtain⟨wi,hwi⟩:=xq (wr.iterAt w1.heap.size s (pos+1):World)
   have q1:wi.ownsRow w.heap.size 5 1 u6 (LexP.digs (s.data.toList.take pos)).length (ds8 (LexP.digs (s.data.toList.take pos))):=by
    rw[hwi];exact hown.kept (Tk wr w1.heap.size s (pos+1)) (.inr hne)
   have q2:Below w.heap.size w wi:=by rw[hwi];exact Lib.below_iterAt hbel (Nat.le_of_lt hkw) _ _
   have q3:wi.heap[w1.heap.size]?=some (.stringIter s (pos+1)):=by rw[hwi];exact Lib.iterAt_heap _ _ _ _ _ hit
   have q4:w1.heap.size<wi.heap.size:=(Array.getElem?_eq_some_iff.1 q3).1;rw[<-hwi]at hn
   have HM:Hid (s.size-(pos+1)<s.size-wr.iterPos w1.heap.size):=by show _<_;rw[Jg hit];omega
   clear hwi hown hbel hit hdc htk hv hwd hdg hdv hfl hall hall';have Q3:=zq q3;have Q2:=zq q2;have HNE:=zq hne;clear q3 q2 hne;obtain⟨h481,h482⟩:=hb48;obtain⟨dg,hdg⟩:=xq (b.toNat-48)
   have hdg10:dg<10:=by omega
   have HDG:=zq hdg;generalize LexP.digs (s.data.toList.take pos)=F at*
   have hF:F.length<=67108864:=by have:=HFL.o;omega
   clear hdg;go_wp2_with fail;refine(U2 b.toNat _ (by omega)).mono ?_;rintro e w' ⟨rfl,rfl⟩;rw[HDV.o,<-HDG.o];go_wp2_with (at_builtin;refine wpList_append_own_at _ rfl _ _ 88 rfl w.heap.size 5 i0 (.int .u8 0) 1 1 Tryz.underlying88 hi hz0 hz1 hz2 rfl (by decide) _ _ _ rfl (World.ownsRow.alloc q1 _) ⟨wi.heap.size,0,none⟩ 1 1 [.int .u8 (dg:Nat)] rfl rfl (LexP.Qc _ _ _ _ rfl) (by simp[Value.oneCell']) (by unfold maxLen;omega) (by omega) (by simp;omega) ?_);intro v3 w3 hown3 hgrow3 _ hbk3
   have hF2:w3.ownsRow w.heap.size 5 1 v3 (LexP.digs (s.data.toList.take (pos+1))).length (ds8 (LexP.digs (s.data.toList.take (pos+1)))):=by
    rw[HTK.o,Hx,List.length_append,<-HDG.o];exact hown3
   have hit3:w3.heap[w1.heap.size]?=some (.stringIter s (pos+1)):=
    (hgrow3.block w1.heap.size (by simp;omega) (fun e=>HNE.o e.symm)).trans ((Below.heap_alloc _ _ _ q4).trans Q3.o)
   have HF3:Hid (Qkl s w w1.heap.size v3 w3):=⟨pos+1,by omega,hit3,Below.grown (Q2.o.alloc (by omega) _) hgrow3 (by simp;omega) (fun q hq=>(World.ownsRow.lt q1 q hq).1),hF2,by
    rcases hbk3 with h|h
    ·rw[h];exact HNE.o
    ·rw[h];simp;omega,HALL.o⟩
   have HM3:Hid (s.size-w3.iterPos w1.heap.size<s.size-wr.iterPos w1.heap.size):=by show _<_;rw[Jg hit3];exact HM.o
   clear hown3 hgrow3 hbk3 hF2 hit3 q1;go_wp2_with fail;exact⟨HF3.o,HM3.o⟩
  ·have hn:=fun ty=>Lib.run_next_end_at (P:=Tryz.prog) wr w1.heap.size s pos ty hit hlt
   have hpe:s.data.toList.take pos=s.data.toList:=List.take_of_length_le (by rw[HSZ.o];omega);rw[hpe]at hall
   have hz:s.size=0:=by
    rcases HD.o with h|⟨c,hc,hcd⟩
    ·exact h
    ·rw[hall c hc]at hcd;cases hcd
   have hnil:s.data.toList=[]:=List.eq_nil_of_length_eq_zero (by rw[HSZ.o,hz]);obtain⟨ao,cp,hv6,-,-,-⟩:=LexP.Qm hown
   have e0:(LexP.digs (s.data.toList.take pos)).length=0:=by rw[hnil];simp[LexP.digs]
   rw[e0]at hv6;subst hv6;have HBEL:=zq hbel;clear hown hbel hpe hit hne hall hnil e0;go_wp2_with fail;go_ret2;exact⟨rfl,HBEL.o⟩
theorem Ar (s:ByteArray)(w:World)(hs:s.size<=67108864)(hd:s.size=0\/ ∃c∈s.data.toList,NumP.Xz c=false):
  Calls Tryz.prog 209 #[.string s] w fun e w'=>e=.returned (.tuple #[.slice none 0 0,.int .i64 7])/\Below w.heap.size w w':=by
 have HD:=zq hd;clear hd;go_enter Tryz.func209,Tryz.ntmps209;go_wp2_with fail;refine(Qyo s _ hs HD.o).mono ?_;rintro e w2 ⟨rfl,h⟩;have H:=zq h;clear h;go_wp2_with fail;go_ret2;exact⟨rfl,H.o⟩
theorem Ph (t:Qx)(w:World)(ht:t.length<=67108864)(hs:SG w)(hsz:4<w.heap.size)(hd0:0<t.length)(hd1:∀c∈t,NumP.Xz c=true):
  Calls Tryz.prog 161 #[.string ⟨t.toArray⟩] w fun e w'=>e=.returned (.bool (SynP.numV t))/\Below w.heap.size w w':=by
 obtain⟨T,hT⟩:=xq (⟨t.toArray⟩:ByteArray)
 have hTl:T.data.toList=t:=by rw[hT]
 have hs4:T.size<=67108864:=by rw[Lib.size_eq,hTl];exact ht
 have hd:0<T.size/\ ∀c∈T.data.toList,NumP.Xz c=true:=by rw[Lib.size_eq,hTl];exact⟨hd0,hd1⟩
 have HTL:=zq hTl;have HSG:=zq hs;rw[<-hT];clear hs hT ht hd0 hd1
 have HV:Hid (SynP.numV t=(SynP.decT (decV (LexP.digs t))==t)):=by
  show _=_;obtain⟨h1,h2⟩:=hd;rw[Lib.size_eq,hTl]at h1;rw[hTl]at h2;unfold SynP.numV SynP.U1;rw[List.filter_eq_self.2 h2,List.all_eq_true.2 h2,decide_eq_true (List.length_pos_iff.1 h1)];rfl
 have hlt:decV (LexP.digs T.data.toList)<10^T.size:=by
  have:=Qqy T.data.toList;unfold SynP.U1 at this;rw[List.filter_eq_self.2 hd.2,<-Lib.size_eq]at this;exact this
 have HLT:=zq hlt;have HD:=zq hd;clear hd hTl hlt;go_enter Tryz.func161,Tryz.ntmps161;go_wp2_with fail;refine(Mp T _ hs4 HD.o.1 HD.o.2).mono ?_;rintro e w2 ⟨v2,x2,rfl,a1,a2,a4,a5,-⟩;have hx2:x2.length<=8589934592:=Nat.le_trans (Nat.le_trans (So a4 (by rw[a2];exact HLT.o)) hs4) (by decide);obtain⟨ao,cap,hv2,-⟩:=a1.1.2;subst hv2;have HB5:=zq (a5.mono (Nat.le_refl _));have A1:=zq a1.1;have A5:=zq a5;have HSG2:=zq (HSG.o.below a5 hsz);have A2:=zq a2;clear a1 a2 a4 a5;go_wp2_with fail;refine(U9 _ x2 _ HSG2.o A1.o hx2).mono ?_;rintro e w3 ⟨rfl,b1⟩;have B1:=zq b1;clear b1;rw[A2.o];go_wp2_with fail;go_ret;exact⟨by rw[HV.o,<-HTL.o,<-ByteArray.toList_eq];rfl,Qj A5.o B1.o⟩
theorem Ag (t:Qx)(w:World)(ht:t.length<=67108864)(hs:SG w)(hsz:4<w.heap.size):
  Calls Tryz.prog 161 #[.string ⟨t.toArray⟩] w fun e w'=>e=.returned (.bool (SynP.numV t))/\Below w.heap.size w w':=by
 by_cases hgd:0<t.length/\ ∀c∈t,NumP.Xz c=true
 ·exact Ph t w ht hs hsz hgd.1 hgd.2
 obtain⟨T,hT⟩:=xq (⟨t.toArray⟩:ByteArray)
 have hTl:T.data.toList=t:=by rw[hT]
 have hs4:T.size<=67108864:=by rw[Lib.size_eq,hTl];exact ht
 have HTL:=zq hTl;have HSG:=zq hs;rw[<-hT]
 have hd: ¬(0<T.size/\ ∀c∈T.data.toList,NumP.Xz c=true):=by rw[Lib.size_eq,hTl];exact hgd
 clear hs hT ht hgd
 ·have hb:T.size=0\/ ∃c∈T.data.toList,NumP.Xz c=false:=by
   by_cases h0:T.size=0
   ·exact .inl h0
   ·right
    have h1: ¬ ∀c∈T.data.toList,NumP.Xz c=true:=fun h=>hd ⟨by omega,h⟩;simp only[Classical.not_forall]at h1;obtain⟨c,hc,h2⟩:=h1;exact⟨c,hc,by simpa using h2⟩
  have HV:Hid (SynP.numV t=false):=by
   show _=_;unfold SynP.numV;rcases hb with h|⟨c,hc,hcd⟩
   ·rw[Lib.size_eq,hTl]at h
    rw[List.eq_nil_of_length_eq_zero h];rfl
   ·rw[hTl]at hc
    rw[show t.all NumP.Xz=false from by
     rw[List.all_eq_false]
     exact⟨c,hc,by simp[hcd]⟩]
    simp
  have HB:=zq hb;clear hb hd hTl;go_enter Tryz.func161,Tryz.ntmps161;go_wp2_with fail;refine(Ar T _ hs4 HB.o).mono ?_;rintro e w2 ⟨rfl,h⟩;have H:=zq h;clear h;go_wp2_with fail;go_ret;exact⟨by rw[HV.o];rfl,H.o⟩
end Go.Proofs.YtgfmiladfeoldaaGreatDoor
