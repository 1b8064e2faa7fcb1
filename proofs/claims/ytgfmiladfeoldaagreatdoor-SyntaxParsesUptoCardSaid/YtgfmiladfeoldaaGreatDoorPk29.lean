/- Joined texts of this claim's proof: WtB, SynX, WtG, WrM, WrA, WrB. -/
import Derived.Test.YtgfmiladfeoldaaGreatDoorPk1
import Derived.Test.YtgfmiladfeoldaaGreatDoorPk28
import Derived.Test.YtgfmiladfeoldaaGreatDoorPk25
import Derived.Test.YtgfmiladfeoldaaGreatDoorPk17
import Derived.Shelf.Strings.Builder1
import Derived.Deep.AppendLies
import Derived.Lib.MinMax
set_option linter.unusedSimpArgs false
set_option linter.unusedVariables false
set_option maxRecDepth 100000
set_option maxHeartbeats 16000000
namespace LexP
theorem Qwz {b:UInt8}{t:Qx}{v n:Nat}(h:dec (b::t)=some (v,n))(hb:128<=b.toNat):128<=v:=by
 unfold dec at h;simp only[show ¬b.toNat<128 from by omega,if_false]at h;split at h
 ·split at h
  ·split at h
   ·rename_i E
    simp only[Bool.and_eq_true,decide_eq_true_eq]at E;simp at h;omega
   ·cases h
  ·cases h
 split at h
 ·split at h
  ·split at h
   ·rename_i E
    simp only[Bool.and_eq_true,decide_eq_true_eq]at E;simp at h;omega
   ·cases h
  ·cases h
 split at h
 ·split at h
  ·split at h
   ·rename_i E
    simp only[Bool.and_eq_true,decide_eq_true_eq]at E;simp at h;omega
   ·cases h
  ·cases h
 ·cases h
theorem Qyo {b:UInt8}{t:Qx}(h:NumP.Qu b=false):(val (b::t)).getD 65533<=0x10ffff/\10<=NatP.digVal ((val (b::t)).getD 65533):=by
 have I: ¬(48<=b.toNat/\b.toNat<=57):=by
  intro J;unfold NumP.Qu at h;simp at h;omega
 unfold val
 cases hdc:dec (b::t) with
 |none=>exact⟨by decide,by decide⟩
 |some p=>
  obtain⟨v,n⟩:=p;have E:=Qxt hdc;show v<=0x10ffff/\10<=NatP.digVal v;refine⟨E,?_⟩
  have H: ¬(48<=v/\v<=57):=by
   by_cases hb:b.toNat<128
   ·rw[Qkv hdc hb];exact I
   ·have:=Qwz hdc (by omega);omega
  unfold NatP.digVal;rw[if_neg H];split
  ·omega
  ·split<;>omega
end LexP
namespace Go.Proofs.YtgfmiladfeoldaaGreatDoor
open Go.RowKit NatP LexP
def Qkz (s:ByteArray)(w:World)(k:Nat)(dv:Value)(wr:World):Prop:=
 ∃pos,pos<=s.size/\wr.heap[k]?=some (.stringIter s pos)/\Below w.heap.size w wr/\wr.ownsRow w.heap.size 5 1 dv (LexP.digs (s.data.toList.take pos)).length (ds8 (LexP.digs (s.data.toList.take pos)))/\dv.ownBlock≠some k/\ ∀c∈s.data.toList.take pos,NumP.Qu c=true
theorem Qks (s:ByteArray)(w:World)(hs:s.size<=67108864)(hd:s.size=0\/ ∃c∈s.data.toList,NumP.Qu c=false):
  Calls Tryz.prog 236 #[.string s,.int .i64 10] w fun e w'=>e=.returned (.tuple #[.slice none 0 0,.int .i64 7])/\Below w.heap.size w w':=by
 obtain⟨i0,hi,hz0,hz1,hz2⟩:=info_parts Tryz.infoB;have hsz:s.data.toList.length=s.size:=(Lib.size_eq s).symm;have HSZ:=zq hsz;have HD:=zq hd;clear hsz hd;go_enter Tryz.func236,Tryz.ntmps236;go_wp2_with (at_make;refine wpList_make_own _ rfl _ _ 88 rfl w.heap.size 5 i0 (.int .u8 0) 1 Tryz.underlying88 hi hz0 hz1 _ _ _ s.size rfl rfl rfl ?b1 ?b2 ?b3 ?_)
 case b1=>rw[hz2];omega
 case b2=>unfold maxLen;omega
 case b3=>exact Nat.le_refl _
 intro w1 hown1 hgrow1;have hb1:Below w.heap.size w w1:=Below.grown (Below.refl _ _) hgrow1 (Nat.le_refl _) (fun k hk=>by cases hk);have hzw:=hb1.size;have HO:=zq hown1;have HB1:=zq hb1;clear hown1 hgrow1 hb1;have hkw:w.heap.size<w1.heap.size:=(HO.o.lt w.heap.size rfl).2;go_wp2_with fail;go_loopw [6] (fun v wr=>Qkz s w w1.heap.size v wr) (fun _ wr=>s.size-wr.iterPos w1.heap.size)
 case atStart=>exact⟨0,Nat.zero_le _,World.iter_heap w1 s 0,HB1.o.alloc hzw _,HO.o.alloc _,by simp[Value.ownBlock];omega,by simp⟩
 case round=>
  obtain⟨pos,hpos,hit,hbel,hown,hne,hall⟩:=hrel;have hsz2:w1.heap.size<wr.heap.size:=(Array.getElem?_eq_some_iff.1 hit).1;by_cases hlt:pos<s.size
  ·have hn:=fun ty=>Lib.run_next_any_at (P:=Tryz.prog) wr w1.heap.size s pos ty hit hlt
   have hpl:pos<s.data.toList.length:=by rw[HSZ.o];exact hlt
   by_cases hdg: ¬NumP.Qu s.data.toList[pos]=true
   ·have hdc:=List.drop_eq_getElem_cons hpl
    have hval:=LexP.Qyo (b:=s.data.toList[pos]) (t:=s.data.toList.drop (pos+1)) (by simpa using hdg);rw[<-hdc]at hval;rw[LexP.Wy s pos hlt,LexP.Wj s pos hlt]at hn;obtain⟨rv,hrv⟩:=xq ((LexP.val (s.data.toList.drop pos)).getD 65533);rw[<-hrv]at hn hval;obtain⟨rw_,hrw⟩:=xq (LexP.wid (s.data.toList.drop pos));rw[<-hrw]at hn;obtain⟨wi,hwi⟩:=xq (wr.iterAt w1.heap.size s (pos+rw_):World)
    have q2:Below w.heap.size w wi:=by rw[hwi];exact Lib.below_iterAt hbel (Nat.le_of_lt hkw) _ _
    rw[<-hwi]at hn;obtain⟨dv,hdv⟩:=xq (digVal rv);obtain⟨hv1,hv2⟩:=hval;rw[<-hdv]at hv2;have HDV:=zq hdv;have Q2:=zq q2;clear hwi hown hbel hit hdc hrv hrw hdv q2 hall hdg;go_wp2_with fail;refine(Ut rv _ hv1).mono ?_;rintro e w' ⟨rfl,rfl⟩;rw[<-HDV.o];go_wp2_with fail;go_ret2;exact⟨rfl,Q2.o⟩
   have hdg:NumP.Qu s.data.toList[pos]=true:=by simpa using hdg
   have hdc:=List.drop_eq_getElem_cons hpl;have htk:s.data.toList.take (pos+1)=s.data.toList.take pos++[s.data.toList[pos]]:=List.take_succ_eq_append_getElem hpl;generalize s.data.toList[pos]=b at*
   have hb48:48<=b.toNat/\b.toNat<=57:=by simpa [NumP.Qu] using hdg
   obtain⟨hv,hwd⟩:=LexP.Ee (b:=b) (r:=s.data.toList.drop (pos+1)) (by omega);rw[LexP.Wy s pos hlt,LexP.Wj s pos hlt,hdc,hv,hwd]at hn;simp only[Option.getD_some]at hn
   have hall':∀c∈s.data.toList.take (pos+1),NumP.Qu c=true:=by
    intro c hc;rw[htk]at hc;rcases List.mem_append.1 hc with hc|hc
    ·exact hall c hc
    ·rw[List.mem_singleton.1 hc];exact hdg
   have HALL:=zq hall'
   have HTK:Hid (LexP.digs (s.data.toList.take (pos+1))=LexP.digs (s.data.toList.take pos)++[b.toNat-48]):=by
    show _=_;rw[htk,LexP.Mf];rfl
   have hdv:digVal b.toNat=b.toNat-48:=by unfold digVal;rw[if_pos hb48]
   have HDV:=zq hdv
   have hfl:(LexP.digs (s.data.toList.take pos)).length=pos:=by rw[LexP.digs,List.length_map,List.length_take];omega
   have HFL:=zq hfl;obtain⟨wi,hwi⟩:=xq (wr.iterAt w1.heap.size s (pos+1):World)
   have q1:wi.ownsRow w.heap.size 5 1 u6 (LexP.digs (s.data.toList.take pos)).length (ds8 (LexP.digs (s.data.toList.take pos))):=by
    rw[hwi];exact hown.kept (Tb wr w1.heap.size s (pos+1)) (.inr hne)
   have q2:Below w.heap.size w wi:=by rw[hwi];exact Lib.below_iterAt hbel (Nat.le_of_lt hkw) _ _
   have q3:wi.heap[w1.heap.size]?=some (.stringIter s (pos+1)):=by rw[hwi];exact Lib.iterAt_heap _ _ _ _ _ hit
   have q4:w1.heap.size<wi.heap.size:=(Array.getElem?_eq_some_iff.1 q3).1;rw[<-hwi]at hn
   have HM:Hid (s.size-(pos+1)<s.size-wr.iterPos w1.heap.size):=by show _<_;rw[Jz hit];omega
   clear hwi hown hbel hit hdc htk hv hwd hdg hdv hfl hall hall';have Q3:=zq q3;have Q2:=zq q2;have HNE:=zq hne;clear q3 q2 hne;obtain⟨h481,h482⟩:=hb48;obtain⟨dg,hdg⟩:=xq (b.toNat-48)
   have hdg10:dg<10:=by omega
   have HDG:=zq hdg;generalize LexP.digs (s.data.toList.take pos)=F at*
   have hF:F.length<=67108864:=by have:=HFL.o;omega
   clear hdg;go_wp2_with fail;refine(Ut b.toNat _ (by omega)).mono ?_;rintro e w' ⟨rfl,rfl⟩;rw[HDV.o,<-HDG.o];go_wp2_with (at_builtin;refine wpList_append_own_at _ rfl _ _ 88 rfl w.heap.size 5 i0 (.int .u8 0) 1 1 Tryz.underlying88 hi hz0 hz1 hz2 rfl (by decide) _ _ _ rfl (World.ownsRow.alloc q1 _) ⟨wi.heap.size,0,none⟩ 1 1 [.int .u8 (dg:Nat)] rfl rfl (LexP.Qb _ _ _ _ rfl) (by simp[Value.oneCell']) (by unfold maxLen;omega) (by omega) (by simp;omega) ?_);intro v3 w3 hown3 hgrow3 _ hbk3
   have hF2:w3.ownsRow w.heap.size 5 1 v3 (LexP.digs (s.data.toList.take (pos+1))).length (ds8 (LexP.digs (s.data.toList.take (pos+1)))):=by
    rw[HTK.o,Kp,List.length_append,<-HDG.o];exact hown3
   have hit3:w3.heap[w1.heap.size]?=some (.stringIter s (pos+1)):=
    (hgrow3.block w1.heap.size (by simp;omega) (fun e=>HNE.o e.symm)).trans ((Below.heap_alloc _ _ _ q4).trans Q3.o)
   have HF3:Hid (Qkz s w w1.heap.size v3 w3):=⟨pos+1,by omega,hit3,Below.grown (Q2.o.alloc (by omega) _) hgrow3 (by simp;omega) (fun q hq=>(World.ownsRow.lt q1 q hq).1),hF2,by
    rcases hbk3 with h|h
    ·rw[h];exact HNE.o
    ·rw[h];simp;omega,HALL.o⟩
   have HM3:Hid (s.size-w3.iterPos w1.heap.size<s.size-wr.iterPos w1.heap.size):=by show _<_;rw[Jz hit3];exact HM.o
   clear hown3 hgrow3 hbk3 hF2 hit3 q1;go_wp2_with fail
   first|exact⟨HF3.o,HM3.o⟩|exact⟨by (repeat apply Exists.intro);exact⟨HF3.o,rfl⟩,HM3.o⟩
  ·have hn:=fun ty=>Lib.run_next_end_at (P:=Tryz.prog) wr w1.heap.size s pos ty hit hlt
   have hpe:s.data.toList.take pos=s.data.toList:=List.take_of_length_le (by rw[HSZ.o];omega);rw[hpe]at hall
   have hz:s.size=0:=by
    rcases HD.o with h|⟨c,hc,hcd⟩
    ·exact h
    ·rw[hall c hc]at hcd;cases hcd
   have hnil:s.data.toList=[]:=List.eq_nil_of_length_eq_zero (by rw[HSZ.o,hz]);obtain⟨ao,cp,hv6,-,-,-⟩:=LexP.Qj hown
   have e0:(LexP.digs (s.data.toList.take pos)).length=0:=by rw[hnil];simp[LexP.digs]
   rw[e0]at hv6;subst hv6;have HBEL:=zq hbel;clear hown hbel hpe hit hne hall hnil e0;go_wp2_with fail;go_ret2;exact⟨rfl,HBEL.o⟩
theorem Am (s:ByteArray)(w:World)(hs:s.size<=67108864)(hd:s.size=0\/ ∃c∈s.data.toList,NumP.Qu c=false):
  Calls Tryz.prog 209 #[.string s] w fun e w'=>e=.returned (.tuple #[.slice none 0 0,.int .i64 7])/\Below w.heap.size w w':=by
 have HD:=zq hd;clear hd;go_enter Tryz.func209,Tryz.ntmps209;go_wp2_with fail;refine(Qks s _ hs HD.o).mono ?_;rintro e w2 ⟨rfl,h⟩;have H:=zq h;clear h;go_wp2_with fail;go_ret2;exact⟨rfl,H.o⟩
theorem Ch (t:Qx)(w:World)(ht:t.length<=67108864)(hs:SG w)(hsz:4<w.heap.size):
  Calls Tryz.prog 161 #[.string ⟨t.toArray⟩] w fun e w'=>e=.returned (.bool (SynP.numV t))/\Below w.heap.size w w':=by
 obtain⟨T,hT⟩:=xq (⟨t.toArray⟩:ByteArray)
 have hTl:T.data.toList=t:=by rw[hT]
 have hs4:T.size<=67108864:=by rw[Lib.size_eq,hTl];exact ht
 have HTL:=zq hTl;have HSG:=zq hs;rw[<-hT];clear hs hT ht;by_cases hd:0<T.size/\ ∀c∈T.data.toList,NumP.Qu c=true
 ·have HV:Hid (SynP.numV t=(SynP.decT (decV (LexP.digs t))==t)):=by
   show _=_;obtain⟨h1,h2⟩:=hd;rw[Lib.size_eq,hTl]at h1;rw[hTl]at h2;unfold SynP.numV SynP.Xx;rw[List.filter_eq_self.2 h2,List.all_eq_true.2 h2,decide_eq_true (List.length_pos_iff.1 h1)];rfl
  have hlt:decV (LexP.digs T.data.toList)<10^T.size:=by
   have:=Ad T.data.toList;unfold SynP.Xx at this;rw[List.filter_eq_self.2 hd.2,<-Lib.size_eq]at this;exact this
  have HLT:=zq hlt;have HD:=zq hd;clear hd hTl hlt;go_enter Tryz.func161,Tryz.ntmps161;go_wp2_with fail;refine(Mw T _ hs4 HD.o.1 HD.o.2).mono ?_;rintro e w2 ⟨v2,x2,rfl,a1,a2,a4,a5⟩;have hx2:x2.length<=8589934592:=Nat.le_trans (Nat.le_trans (Se a4 (by rw[a2];exact HLT.o)) hs4) (by decide);obtain⟨ao,cap,hv2,-⟩:=a1.1.2;subst hv2;have HB5:=zq (a5.mono (Nat.le_refl _));have A1:=zq a1.1;have A5:=zq a5;have HSG2:=zq (HSG.o.below a5 hsz);have A2:=zq a2;clear a1 a2 a4 a5;go_wp2_with fail;refine(S7 _ x2 _ HSG2.o A1.o hx2).mono ?_;rintro e w3 ⟨rfl,b1⟩;have B1:=zq b1;clear b1;rw[A2.o];go_wp2_with fail;go_ret;exact⟨by rw[HV.o,<-HTL.o,<-ByteArray.toList_eq];rfl,Qg A5.o B1.o⟩
 ·have hb:T.size=0\/ ∃c∈T.data.toList,NumP.Qu c=false:=by
   by_cases h0:T.size=0
   ·exact .inl h0
   ·right
    have h1: ¬ ∀c∈T.data.toList,NumP.Qu c=true:=fun h=>hd ⟨by omega,h⟩;simp only[Classical.not_forall]at h1;obtain⟨c,hc,h2⟩:=h1;exact⟨c,hc,by simpa using h2⟩
  have HV:Hid (SynP.numV t=false):=by
   show _=_;unfold SynP.numV;rcases hb with h|⟨c,hc,hcd⟩
   ·rw[Lib.size_eq,hTl]at h
    rw[List.eq_nil_of_length_eq_zero h];rfl
   ·rw[hTl]at hc
    rw[show t.all NumP.Qu=false from by
     rw[List.all_eq_false]
     exact⟨c,hc,by simp[hcd]⟩]
    simp
  have HB:=zq hb;clear hb hd hTl;go_enter Tryz.func161,Tryz.ntmps161;go_wp2_with fail;refine(Am T _ hs4 HB.o).mono ?_;rintro e w2 ⟨rfl,h⟩;have H:=zq h;clear h;go_wp2_with fail;go_ret;exact⟨by rw[HV.o];rfl,H.o⟩
def Rf (op:Int)(t:Qx)(w:World)(e:Ending)(w':World):Prop:=e=.returned (.bool (SynP.WV op t))/\Below w.heap.size w w'
theorem Qy8 (t:Qx):(t.isEmpty)=(t==[]):=by cases t<;>rfl
theorem Bo (op:Int)(hop:op=1\/op=9)(t:Qx)(kv:Value)(w:World)(ht:t.length<=67108864)(hs:SG w)(hsz:4<w.heap.size):
  Calls Tryz.prog 101 #[.agg #[.int .i64 op,.string ⟨t.toArray⟩,kv]] w (Rf op t w):=by
 have HV:Hid (SynP.WV op t=SynP.numV t):=by show _=_;unfold SynP.WV;rw[if_pos hop]
 obtain⟨T,hT⟩:=xq (⟨t.toArray⟩:ByteArray)
 have HTL:Hid (T.data.toList=t):=by show _=_;rw[hT]
 have HB0:=zq (Qq w (.cells #[.int .i64 op,.string T,kv] 43));have HN0:=zq (heap_alloc_new w (.cells #[.int .i64 op,.string T,kv] 43));have HC:=zq (Ch t (w.alloc (.cells #[.int .i64 op,.string T,kv] 43)) ht (hs.below HB0.o hsz) (by simp;omega));rw[<-hT]at HC ⊢;clear hs hT ht;rcases hop with rfl|rfl
 all_goals
  go_enter Tryz.func101,Tryz.ntmps101;go_wp2_with fail;refine HC.o.mono ?_;rintro e w1 ⟨rfl,hb⟩;have HB:=zq (Qg HB0.o hb);clear hb;go_wp2_with fail;go_ret;exact⟨by rw[HV.o];rfl,HB.o⟩
theorem Bd (op:Int)(hop:op=2\/op=10\/op=11)(t:Qx)(kv:Value)(w:World)(ht:t.length<=67108864)(hx:Lx w):
  Calls Tryz.prog 101 #[.agg #[.int .i64 op,.string ⟨t.toArray⟩,kv]] w (Rf op t w):=by
 have HV:Hid (SynP.WV op t=SynP.namV t):=by show _=_;unfold SynP.WV;rw[if_neg (by omega),if_pos hop]
 obtain⟨T,hT⟩:=xq (⟨t.toArray⟩:ByteArray)
 have HTL:Hid (T.data.toList=t):=by show _=_;rw[hT]
 have HB0:=zq (Qq w (.cells #[.int .i64 op,.string T,kv] 43));have HN0:=zq (heap_alloc_new w (.cells #[.int .i64 op,.string T,kv] 43));have HC:=zq (G5 t (w.alloc (.cells #[.int .i64 op,.string T,kv] 43)) ht (hx.below HB0.o));rw[<-hT]at HC ⊢;clear hx hT ht;rcases hop with rfl|rfl|rfl
 all_goals
  go_enter Tryz.func101,Tryz.ntmps101;go_wp2_with fail;refine HC.o.mono ?_;rintro e w1 ⟨rfl,hb⟩;have HB:=zq (Qg HB0.o hb);clear hb;go_wp2_with fail;go_ret;exact⟨by rw[HV.o];rfl,HB.o⟩
theorem Qxw (t:Qx)(kv:Value)(w:World)(ht:t.length<=67108864)(hx:Lx w):
  Calls Tryz.prog 101 #[.agg #[.int .i64 12,.string ⟨t.toArray⟩,kv]] w (Rf 12 t w):=by
 have HV:Hid (SynP.WV 12 t=(SynP.namV t && t !=SynP.letB)):=rfl;obtain⟨T,hT⟩:=xq (⟨t.toArray⟩:ByteArray)
 have HTL:Hid (T.data.toList=t):=by show _=_;rw[hT]
 have HB0:=zq (Qq w (.cells #[.int .i64 12,.string T,kv] 43));have HN0:=zq (heap_alloc_new w (.cells #[.int .i64 12,.string T,kv] 43));have HC:=zq (G5 t (w.alloc (.cells #[.int .i64 12,.string T,kv] 43)) ht (hx.below HB0.o));rw[<-hT]at HC ⊢;clear hx hT ht;go_enter Tryz.func101,Tryz.ntmps101;go_wp2_with fail;refine HC.o.mono ?_;rintro e w1 ⟨rfl,hb⟩;have HB:=zq (Qg HB0.o hb)
 have d1:w1.cell? ⟨w.heap.size,1,none⟩=some (.string T):=by rw[cell_of_row _ _ 1 _ _ _ ((hb.block w.heap.size (by simp)).trans HN0.o)];rfl
 clear hb;rcases hn:SynP.namV t
 ·have HN:=zq hn
  clear hn;go_wp2_with fail;go_ret;exact⟨by rw[HV.o,HN.o];rfl,HB.o⟩
 ·have HN:=zq hn
  clear hn;go_wp2_with fail;go_ret;exact⟨by rw[HV.o,HN.o,<-HTL.o,<-ByteArray.toList_eq];rfl,HB.o⟩
theorem Pg (op:Int)(h1:op≠1)(h2:op≠2)(h3:op≠3)(h9:op≠9)(h10:op≠10)(h11:op≠11)(h12:op≠12)(h13:op≠13)(t:Qx)(kv:Value)(w:World):
  Calls Tryz.prog 101 #[.agg #[.int .i64 op,.string ⟨t.toArray⟩,kv]] w (Rf op t w):=by
 have HV:Hid (SynP.WV op t=(t==[])):=by
  show _=_;unfold SynP.WV;rw[if_neg (by omega),if_neg (by omega),if_neg h12,if_neg h3,if_neg h13]
 obtain⟨T,hT⟩:=xq (⟨t.toArray⟩:ByteArray)
 have HTL:Hid (T.data.toList=t):=by show _=_;rw[hT]
 have HB0:=zq (Qq w (.cells #[.int .i64 op,.string T,kv] 43));have HN0:=zq (heap_alloc_new w (.cells #[.int .i64 op,.string T,kv] 43));rw[<-hT];clear hT
 have e1:(op==1)=false:=by simp[h1]
 have e2:(op==2)=false:=by simp[h2]
 have e3:(op==3)=false:=by simp[h3]
 have e9:(op==9)=false:=by simp[h9]
 have e10:(op==10)=false:=by simp[h10]
 have e11:(op==11)=false:=by simp[h11]
 have e12:(op==12)=false:=by simp[h12]
 have e13:(op==13)=false:=by simp[h13]
 clear h1 h2 h3 h9 h10 h11 h12 h13;go_enter Tryz.func101,Tryz.ntmps101;go_wp2_with fail;go_ret;exact⟨by rw[HV.o,<-HTL.o,<-Qy8,<-ByteArray.toList_eq];rfl,HB0.o⟩
theorem Mg {w w':World}{R k n:Nat}{e:TypeId}{v:Value}{cs:List Value}(h:w.ownsRow (R+1) e k v n cs)(hw:Wr R none w w'):w'.ownsRow (R+1) e k v n cs:=by
 refine⟨h.1,?_⟩;rcases h.2 with K|⟨g,J,I,rfl,O,E,H⟩
 ·exact .inl K
 ·exact .inr ⟨g,J,I,rfl,O,(hw.block g (Array.getElem?_eq_some_iff.1 E).1 (by omega) (by simp)).trans E,H⟩
structure WrS (w:World) (R:Nat) (tv bv:Value) (out:Qx) (o m:Nat):Prop where
 blk:∃av,(av=.pointer none\/av=.pointer (some ⟨R,1,none⟩))/\w.heap[R]?=some (.cells #[tv,av,bv,.int .i64 (o:Nat),.int .i64 (m:Nat)] 92 (0,0))
 own:w.ownsRow (R+1) 5 1 bv out.length (u8s out)
 le:o<=m
theorem WrS.lt {w:World}{R:Nat}{tv bv:Value}{out:Qx}{o m:Nat}(h:WrS w R tv bv out o m):R<w.heap.size:=by
 obtain⟨av,-,E⟩:=h.blk;exact(Array.getElem?_eq_some_iff.1 E).1
theorem WrS.gt {w:World}{R:Nat}{tv bv:Value}{out:Qx}{o m:Nat}(h:WrS w R tv bv out o m):∀q,bv.ownBlock=some q->R<q:=fun q hq=>by have:=h.own.lt q hq;omega
theorem WrS.cells {w:World}{R:Nat}{tv bv:Value}{out:Qx}{o m:Nat}(h:WrS w R tv bv out o m):w.cell? ⟨R,0,none⟩=some tv/\w.cell? ⟨R,3,none⟩=some (.int .i64 (o:Nat))/\w.cell? ⟨R,4,none⟩=some (.int .i64 (m:Nat)):=by
 obtain⟨av,-,E⟩:=h.blk
 refine⟨?_,?_,?_⟩<;>rw[cell_of_row w R _ _ _ _ E]<;>rfl
theorem WrS.fro {w:World}{R:Nat}{tv bv:Value}{out:Qx}{o m:Nat}(h:WrS w R tv bv out o m)(k:Nat):w.frozen? ⟨R,k,none⟩=false:=by
 obtain⟨av,-,E⟩:=h.blk;exact frozen_of_row w R k _ _ E
theorem WrS.below {w w':World}{R:Nat}{tv bv:Value}{out:Qx}{o m:Nat}(h:WrS w R tv bv out o m)(hb:Below w.heap.size w w'):WrS w' R tv bv out o m:=by
 obtain⟨av,H,E⟩:=h.blk
 exact⟨⟨av,H,(hb.block R h.lt).trans E⟩,h.own.kept (row:=none) ⟨hb.os,hb.tape,hb.output,hb.size,fun k hk _=>hb.block k hk⟩ (by cases bv.ownBlock<;>simp),h.le⟩
def WrP (R:Nat)(tv bv:Value)(out:Qx)(o m:Nat)(v:Value)(w:World)(e:Ending)(w':World):Prop:=
 e=.returned v/\ ∃bv',WrS w' R tv bv' out o m/\Wr R bv.ownBlock w w'/\Mv w bv.ownBlock bv'.ownBlock
theorem WrS.setO {w:World}{R:Nat}{tv bv:Value}{out:Qx}{o m o':Nat}(h:WrS w R tv bv out o m)(hl:o'<=m):WrS (w.setCell ⟨R,3,none⟩ (.int .i64 (o':Nat))) R tv bv out o' m/\Wr R none w (w.setCell ⟨R,3,none⟩ (.int .i64 (o':Nat))):=by
 obtain⟨av,I,H⟩:=h.blk;have E:=heap_setCell_same w R 3 _ 92 (.int .i64 (o':Nat)) H;exact⟨⟨⟨av,I,E.trans (by simp)⟩,ownsRow_setCell_below h.own (by simp) _,hl⟩,Wr.of_set w 3 _⟩
theorem WrS.setM {w:World}{R:Nat}{tv bv:Value}{out:Qx}{o1 m m':Nat}(hbk:∃av,(av=.pointer none\/av=.pointer (some ⟨R,1,none⟩))/\w.heap[R]?=some (.cells #[tv,av,bv,.int .i64 (o1:Nat),.int .i64 (m:Nat)] 92 (0,0)))(hown:w.ownsRow (R+1) 5 1 bv out.length (u8s out))(hl:o1<=m'):WrS (w.setCell ⟨R,4,none⟩ (.int .i64 (m':Nat))) R tv bv out o1 m'/\Wr R none w (w.setCell ⟨R,4,none⟩ (.int .i64 (m':Nat))):=by
 obtain⟨av,E,hbk⟩:=hbk;have h:=heap_setCell_same w R 4 _ 92 (.int .i64 (m':Nat)) hbk;exact⟨⟨⟨av,E,h.trans (by simp)⟩,ownsRow_setCell_below hown (by simp) _,hl⟩,Wr.of_set w 4 _⟩
theorem Tryz.sizeBld:(Tryz.prog.info? 90).map (·.size)=some 2:=by kernel_rfl
theorem Tryz.liesBld:liesAt Tryz.prog Tryz.prog.depth 92 (5 / Tryz.prog.cellsOf 92) 1 90 1=true:=by kernel_rfl
theorem Gl (R:Nat)(tv av bv ov mv:Value)(w:World)(ha:av=.pointer none\/av=.pointer (some ⟨R,1,none⟩))(hb:w.heap[R]?=some (.cells #[tv,av,bv,ov,mv] 92 (0,0))):
  Calls Tryz.prog 165 #[.pointer (some ⟨R,1,none⟩)] w fun e w'=>e=.returned (.tuple #[])/\w'.heap[R]?=some (.cells #[tv,.pointer (some ⟨R,1,none⟩),bv,ov,mv] 92 (0,0))/\Wr R none w w':=by
 obtain⟨j,hj,hjs⟩:=Option.map_eq_some_iff.1 Tryz.sizeBld
 have h0:w.cell? ⟨R,1,none⟩=some av:=by rw[cell_of_row w R _ _ _ _ hb];rfl
 rcases ha with rfl|rfl
 ·have hsh:w.shape? R=some (92,5):=by simp[World.shape?,hb]
  have hfz:w.frozen? ⟨R,1,none⟩=false:=frozen_of_row w R 1 _ _ hb;have HB:=zq hb;clear hb;go_enter Tryz.func165,Tryz.ntmps165;go_wp2_with fail;rw[Lib.run_to_unsafe w ⟨R,1,none⟩ Tryz.underlying87 Tryz.underlying210 hj (by rw[hjs];decide) hsh (by show 1<5;decide)];simp only[Result.andThen];rw[Oper.upon_value];go_wp2_with fail;rw[run_callFunc_extern Tryz.func212 (by kernel_rfl) (by kernel_rfl) (by kernel_rfl) (e:=Extern.AbiNoEscape.same) (by kernel_rfl)];rw[Lib.run_noEscape];simp only[Result.andThen];rw[Oper.upon_value];go_wp2_with fail;rw[Lib.run_from_unsafe w ⟨R,1,none⟩ Tryz.underlying210 Tryz.underlying87 hj hsh Tryz.liesBld];simp only[Result.andThen];rw[Oper.upon_value];go_wp2_with fail;go_end0;exact⟨rfl,(heap_setCell_same w R 1 _ 92 _ HB.o).trans (by simp),Wr.of_set w 1 _⟩
 ·have HB:=zq hb
  clear hb;go_enter Tryz.func165,Tryz.ntmps165;go_wp2_with fail;rw[Lib.run_neq_ptr_same w _ Tryz.underlying87 hj];go_wp2_with fail;go_end0;exact⟨rfl,HB.o,Wr.refl _ _ _⟩
theorem Sp (R:Nat)(tv bv:Value)(out:Qx)(o m:Nat)(c:UInt8)(w:World)(h:WrS w R tv bv out o m)(hl:out.length<=1099511627776):
  Calls Tryz.prog 104 #[.pointer (some ⟨R,1,none⟩),.int .u8 (c.toNat:Nat)] w (WrP R tv bv (out++[c]) o m .nilIface w):=by
 obtain⟨i0,hi,hz0,hz1,hz2⟩:=info_parts Tryz.infoU8d;have HS:=zq h;have hRl:=h.lt;clear h;obtain⟨av,ha,hb⟩:=HS.o.blk;have HB:=zq hb;clear hb;go_enter Tryz.func104,Tryz.ntmps104;go_wp2_with fail;refine(Gl R tv av bv _ _ _ ha HB.o).mono ?_;rintro e w1 ⟨rfl,k1,k2⟩
 have c2:w1.cell? ⟨R,2,none⟩=some bv:=by rw[cell_of_row w1 R _ _ _ _ k1];rfl
 have hown:=Mg HS.o.own k2;have HOWN:=zq (hown.alloc (.cells #[.int .u8 ((c.toNat:Nat):Int)] 5));have hR1:=k2.size;obtain⟨nl,hnl⟩:=xq out.length;rw[<-hnl]at HOWN hl;have HNL:=zq hnl;have K1:=zq k1;have K2:=zq k2
 have hcs:(u8s out).length=nl:=by rw[Qze,hnl]
 clear k1 k2 hown hnl;go_wp2_with (at_builtin;refine wpList_append_lies _ rfl _ _ 88 rfl (R+1) 5 i0 (.int .u8 0) 1 1 Tryz.underlying88 hi hz0 hz1 hz2 rfl (by omega) bv nl (u8s out) rfl HOWN.o ⟨w1.heap.size,0,none⟩ 1 1 [.int .u8 (c.toNat:Nat)] rfl rfl (LexP.Qb _ _ _ _ rfl) (by simp[Value.oneCell']) (by omega) (by unfold maxLen;omega) (by omega) (by simp;omega) (w1.heap.size+1) (by simp) ?_);intro g cap w2 hown' hgrow hat hlt5
 have hne:some R≠bv.ownBlock:=fun e=>by have:=HS.o.gt R e.symm;omega
 have hb2:w2.heap[R]?=some (.cells #[tv,.pointer (some ⟨R,1,none⟩),bv,.int .i64 (o:Nat),.int .i64 (m:Nat)] 92 (0,0)):=by
  rw[hgrow.block R (by simp;omega) hne,Lib.alloc_old w1 _ R (by omega)];exact K1.o
 have f2:w2.frozen? ⟨R,2,none⟩=false:=frozen_of_row w2 R 2 _ _ hb2
 have d2:w2.cell? ⟨R,2,none⟩=some bv:=by rw[cell_of_row w2 R _ _ _ _ hb2];rfl
 have HB2:=zq hb2;have HO2:=zq hown';have HG:=zq hgrow;have HAT:=zq hat;clear hb2 hown' hgrow hat;go_wp2_with fail;go_ret;have hset:=heap_setCell_same w2 R 2 _ 92 (.slice (some ⟨g,0,none⟩) (nl+1) cap) HB2.o;refine⟨rfl,.slice (some ⟨g,0,none⟩) (nl+1) cap,⟨⟨.pointer (some ⟨R,1,none⟩),.inr rfl,hset.trans (by simp)⟩,?_,HS.o.le⟩,?_,?_⟩
 ·have e1:(out++[c]).length=nl+1:=by rw[List.length_append,HNL.o];rfl
  rw[e1,Dx];refine ownsRow_setCell_below ?_ (by simp) _;exact HO2.o
 ·exact(((K2.o.weak _).trans (Mv.refl _ _) (Wr.of_below (Qq w1 _))).trans (Mv.refl _ _) (Wr.of_grown HG.o)).trans (Mv.refl _ _) (Wr.of_set w2 2 _)
 ·intro k hk
  cases hk
  rcases HAT.o with h1|h1
  ·exact .inl h1
  ·right
   have h2:g=w1.heap.size+1:=h1;show w.heap.size<=g;have:=K2.o.size;omega
theorem T8 {P:Program}(base:Nat)(t u ty e:TypeId)(i:TypeInfo)(ht:P.underlying t=some (.slice e))(hu:P.underlying u=some .string)(hi:P.info? e=some i)(hz:i.zero=some (.int .u8 0))
  (hsize:i.size=1) (hby:i.bytes=1) (w:World) (v:Value) (n:Nat) (xs:List Value) (hown:w.ownsRow base e 1 v n xs) (s:ByteArray) (hbytes:n+s.size<=140737488355328) (hbase:base<=w.heap.size):
  ∃v' w',(Builtin.append_ #[t,u] ty #[v,.string s]).run P w=.ok v' w'/\w'.ownsRow base e 1 v' (n+s.size) (xs++Lib.strCells s)/\w.grownBy w' v.ownBlock/\(v'.ownBlock=v.ownBlock\/v'.ownBlock=some w.heap.size):=by
 obtain⟨v',w',E,h1,h2,U⟩:=Lib.run_append_own_string (P:=P) w base t u ty e i ht hu hi hz hsize hby v n xs hown s (by unfold maxLen;omega) hbytes hbase;refine⟨v',w',E,h1,h2,?_⟩
 have K:xs.length=n:=by simpa using hown.1
 rcases hown.2 with ⟨rfl,rfl⟩|⟨g,H,J,rfl,a5,Z,a4,a3,O,T⟩
 ·by_cases hm:s.size=0
  ·left;rw[U.2 ⟨rfl,hm⟩]
  ·have h:=run_append_nil_string (P:=P) w t u ty e i (.int .u8 0) ht hu hi hz s (by omega) (by omega) (by rw[hby];omega)
   rw[h]at E
   cases E
   right;rfl
 ·by_cases hroom:n+s.size<=H
  ·have a0:J.size=H:=by simpa using O
   have h:=Lib.run_append_room_string (P:=P) w t u ty e i ht hu hi hsize g n H J Z s hroom (by omega);rw[h]at E
   cases E
   left;rfl
  ·have I:∀j u,xs[j]?=some u->w.cell? ((⟨g,0,none⟩:Addr).add j)=some u:=hown.cells (g:=g) rfl
   have h:=Lib.run_append_grow_string (P:=P) w t u ty e i (.int .u8 0) ht hu hi hz ⟨g,0,none⟩ n H xs (by rw[hsize];simpa using K) I s (by omega) (by omega) (by rw[hby];exact growslice_fits (by omega) (by omega));rw[h]at E
   cases E
   right;rfl
theorem Jn {P:Program}{w:World}{ops:Array Oper}{rest:List Oper}{o:Oper}{a:Act}{Q:Exit->Act->World->Prop}(hgd:o.guard=none)(sl x:Operand)(t u:TypeId)
  (ho:o.op=.call {callee:=.builtin .append,args:= #[sl,x],argTypes:= #[t,u]})
  (base:Nat) (e:TypeId) (i:TypeInfo) (ht:P.underlying t=some (.slice e)) (hu:P.underlying u=some .string) (hi:P.info? e=some i) (hz:i.zero=some (.int .u8 0))
  (hsize:i.size=1) (hby:i.bytes=1)
  (v:Value) (n:Nat) (xs:List Value) (hs:a.eval sl=v) (hown:w.ownsRow base e 1 v n xs) (s:ByteArray) (hx:a.eval x=.string s)
  (hbytes:n+s.size<=140737488355328) (hbase:base<=w.heap.size)
  (h:∀v' w',w'.ownsRow base e 1 v' (n+s.size) (xs++Lib.strCells s)->w.grownBy w' v.ownBlock->(v'.ownBlock=v.ownBlock\/v'.ownBlock=some w.heap.size)->wpList P ops Q rest (a.put o.dst v') w'):wpList P ops Q (o::rest) a w:=by
 refine wpList_plain hgd fun K hK=> ?_;obtain⟨v',w',E,H,J,I⟩:=T8 (P:=P) base t u o.type e i ht hu hi hz hsize hby w v n xs hown s hbytes hbase;unfold Oper.wp execOp;simp only[ho,resolve,invoke,builtin,Sem.run_bind,Sem.run_pure,Result.andThen_ok,List.map_toArray,List.map_cons,List.map_nil,hs,hx,E];exact hK _ _ (h v' w' H J I)
theorem U6 (s:Qx):Lib.strCells ⟨s.toArray⟩=u8s s:=by simp[Lib.strCells,u8s]
theorem Pc (R:Nat)(tv bv:Value)(out:Qx)(o m:Nat)(t:Qx)(w:World)(h:WrS w R tv bv out o m)(hl:out.length<=1099511627776)(ht:t.length<=1099511627776):
  Calls Tryz.prog 105 #[.pointer (some ⟨R,1,none⟩),.string ⟨t.toArray⟩] w (WrP R tv bv (out++t) o m (.tuple #[.int .i64 (t.length:Nat),.nilIface]) w):=by
 obtain⟨i0,hi,hz0,hz1,hz2⟩:=info_parts Tryz.infoU8d;have HS:=zq h;have hRl:=h.lt;clear h;obtain⟨av,ha,hb⟩:=HS.o.blk;have HB:=zq hb;obtain⟨T,hT⟩:=xq (⟨t.toArray⟩:ByteArray)
 have hTs:T.size=t.length:=by rw[hT];rfl
 have HT:=zq hT;rw[<-hT];clear hb hT;go_enter Tryz.func105,Tryz.ntmps105;go_wp2_with fail;refine(Gl R tv av bv _ _ _ ha HB.o).mono ?_;rintro e w1 ⟨rfl,k1,k2⟩
 have c2:w1.cell? ⟨R,2,none⟩=some bv:=by rw[cell_of_row w1 R _ _ _ _ k1];rfl
 have HOWN:=zq (Mg HS.o.own k2);have hR1:=k2.size;obtain⟨nl,hnl⟩:=xq out.length;rw[<-hnl]at HOWN hl;have HNL:=zq hnl;have K1:=zq k1;have K2:=zq k2;clear k1 k2 hnl;go_wp2_with (at_builtin;go_loud (refine Jn rfl _ _ 88 9 rfl (R+1) 5 i0 Tryz.underlying88 Tryz.underlying9 hi hz0 hz1 hz2 bv nl (u8s out) rfl HOWN.o T rfl ?d1 ?d2 ?_))
 case d1=>omega
 case d2=>omega
 intro v' w2 hown' hgrow hat
 have hne:some R≠bv.ownBlock:=fun e=>by have:=HS.o.gt R e.symm;omega
 have hb2:w2.heap[R]?=some (.cells #[tv,.pointer (some ⟨R,1,none⟩),bv,.int .i64 (o:Nat),.int .i64 (m:Nat)] 92 (0,0)):=by
  rw[hgrow.block R (by omega) hne];exact K1.o
 have f2:w2.frozen? ⟨R,2,none⟩=false:=frozen_of_row w2 R 2 _ _ hb2
 have d2:w2.cell? ⟨R,2,none⟩=some bv:=by rw[cell_of_row w2 R _ _ _ _ hb2];rfl
 obtain⟨ao,n',cap,rfl⟩:∃ao n' cap,v'=.slice ao n' cap:=by
  rcases hown'.2 with ⟨hv,_⟩|⟨g,cap,cur,hv,_⟩
  ·exact⟨_,_,_,hv⟩
  ·exact⟨_,_,_,hv⟩
 have HB2:=zq hb2;have HO2:=zq hown';have HG:=zq hgrow;have HAT:=zq hat;clear hb2 hown' hgrow hat;go_wp2_with fail;go_ret2;have hset:=heap_setCell_same w2 R 2 _ 92 (.slice ao n' cap) HB2.o;refine⟨rfl,.slice ao n' cap,⟨⟨.pointer (some ⟨R,1,none⟩),.inr rfl,hset.trans (by simp)⟩,?_,HS.o.le⟩,?_,?_⟩
 ·have e1:(out++t).length=nl+t.length:=by rw[List.length_append,HNL.o]
  rw[e1,Dx,<-U6 t,<-HT.o];refine ownsRow_setCell_below ?_ (by simp) _;exact HO2.o
 ·exact((K2.o.weak _).trans (Mv.refl _ _) (Wr.of_grown HG.o)).trans (Mv.refl _ _) (Wr.of_set w2 2 _)
 ·intro k hk
  have hk':(Value.slice ao n' cap).ownBlock=some k:=hk
  rcases HAT.o with h1|h1<;>rw[h1]at hk'
  ·exact .inl hk'
  ·right;cases hk';exact K2.o.size
theorem Qvj (op side part:Nat)(w:World):
  Calls Tryz.prog 163 #[.int .i64 (op:Nat),.int .i64 (side:Nat),.int .i64 (part:Nat)] w fun e w'=>e=.returned (.bool (SynP.Xw op side part))/\w=w':=by
 have s1:(((side:Nat):Int)==1)=(side==1):=by rw[Bool.eq_iff_iff];simp;omega
 have p4:(((part:Nat):Int)==4)=(part==4):=by rw[Bool.eq_iff_iff];simp;omega
 have p9:(((part:Nat):Int)==9)=(part==9):=by rw[Bool.eq_iff_iff];simp;omega
 obtain⟨S,hS⟩:=xq (SynP.My part);obtain⟨Q,hQ⟩:=xq (SynP.Re part);have HS:=zq hS;have HQ:=zq hQ;clear hS hQ;by_cases h67:op=6\/op=7
 ·have HV:Hid (SynP.Xw op side part=(side==1 && S)):=by
   show _=_;unfold SynP.Xw;rw[HS.o]
   rcases h67 with rfl|rfl<;>rfl
  cases hs:(side==1)<;>rw[hs]at s1<;>rcases h67 with rfl|rfl
  all_goals
   have HV2:=HV;rw[hs]at HV2;clear HV hs;go_enter Tryz.func163,Tryz.ntmps163;go_wp2_with fail
   try (refine(Sb part _).mono ?_;rintro e w1 ⟨rfl,rfl⟩;rw[<-HS.o];go_wp2_with fail)
   go_ret;exact⟨by rw[HV2.o];rfl,rfl⟩
 ·obtain⟨h6,h7⟩:=not_or.1 h67
  have d6:(((op:Nat):Int)==6)=false:=by simp;omega
  have d7:(((op:Nat):Int)==7)=false:=by simp;omega
  by_cases h8:op=8
  ·subst h8
   have HV:Hid (SynP.Xw 8 side part=(S||(side==1 && Q))):=by
    show _=_;unfold SynP.Xw;rw[HS.o,HQ.o];rfl
   cases S
   ·cases hs:(side==1)<;>rw[hs]at s1
    all_goals
     have HV2:=HV;rw[hs]at HV2;clear HV hs;go_enter Tryz.func163,Tryz.ntmps163;go_wp2_with fail;refine(Sb part _).mono ?_;rintro e w1 ⟨rfl,rfl⟩;rw[<-HS.o];go_wp2_with fail
     try (refine(U7 part _).mono ?_;rintro e w1 ⟨rfl,rfl⟩;rw[<-HQ.o];go_wp2_with fail)
     go_ret;exact⟨by rw[HV2.o];rfl,rfl⟩
   ·go_enter Tryz.func163,Tryz.ntmps163
    go_wp2_with fail;refine(Sb part _).mono ?_;rintro e w1 ⟨rfl,rfl⟩;rw[<-HS.o];go_wp2_with fail;go_ret;exact⟨by rw[HV.o];rfl,rfl⟩
  ·have d8:(((op:Nat):Int)==8)=false:=by simp;omega
   by_cases h4:op=4
   ·subst h4
    have HV:Hid (SynP.Xw 4 side part=Q):=by
     show _=_;unfold SynP.Xw;rw[HQ.o];rfl
    go_enter Tryz.func163,Tryz.ntmps163;go_wp2_with fail;refine(U7 part _).mono ?_;rintro e w1 ⟨rfl,rfl⟩;rw[<-HQ.o];go_wp2_with fail;go_ret;exact⟨by rw[HV.o];rfl,rfl⟩
   ·have d4:(((op:Nat):Int)==4)=false:=by simp;omega
    by_cases h95:op=9\/op=5
    ·have HV:Hid (SynP.Xw op side part=(Q||part==4||part==9)):=by
      show _=_;unfold SynP.Xw;rw[HQ.o]
      rcases h95 with rfl|rfl<;>rfl
     cases Q<;>cases hp:(part==4)<;>rw[hp]at p4<;>rcases h95 with rfl|rfl
     all_goals
      have HV2:=HV;rw[hp]at HV2;clear HV hp;go_enter Tryz.func163,Tryz.ntmps163;go_wp2_with fail;refine(U7 part _).mono ?_;rintro e w1 ⟨rfl,rfl⟩;rw[<-HQ.o];go_wp2_with fail;go_ret;exact⟨by rw[HV2.o];first|rfl|(rw[p9];rfl),rfl⟩
    ·obtain⟨h9,h5⟩:=not_or.1 h95
     have d9:(((op:Nat):Int)==9)=false:=by simp;omega
     have d5:(((op:Nat):Int)==5)=false:=by simp;omega
     have HV:Hid (SynP.Xw op side part=false):=by
      show _=_;unfold SynP.Xw;simp[h6,h7,h8,h4,h9,h5]
     clear h67 h95;go_enter Tryz.func163,Tryz.ntmps163;go_wp2_with fail;go_ret;exact⟨by rw[HV.o];rfl,rfl⟩
theorem Qqp (R:Nat)(tv bv:Value)(out:Qx)(o m:Nat)(w:World)(h:WrS w R tv bv out o m)(hl:out.length<=549755813888)(ho:o<=100000)(a b:Value)(X:Qx)(hX:X.length<=274877906944)(d:Nat)(hd:d<=100000)
  (HF:∀bv2 w2,WrS w2 R tv bv2 (out++[40]) (o+1) (max m (o+1))->Wr R bv.ownBlock w w2->Mv w bv.ownBlock bv2.ownBlock->Calls Tryz.prog 164 #[a,b] w2 (WrP R tv bv2 (out++[40]++X) (o+1) (max (max m (o+1)) (o+1+d)) (.tuple #[]) w2)):
  Calls Tryz.prog 106 #[.pointer (some ⟨R,0,none⟩),.func (.func 164) #[] #[a,b]] w (WrP R tv bv (out++([40]++X++[41])) o (max m (o+(d+1))) (.tuple #[]) w):=by
 have HS:=zq h;have HFF:=zq HF;obtain⟨OUT,hOUT⟩:=xq (out++([40]++X++[41]));obtain⟨M,hM⟩:=xq (max m (o+(d+1)));rw[<-hOUT,<-hM];have HOUT:=zq hOUT;have HM:=zq hM;clear hOUT hM;obtain⟨-,c3,c4⟩:=h.cells;have f3:=h.fro 3;obtain⟨o1,ho1⟩:=xq (o+1)
 have hw:((o:Nat):Int)+1=((o1:Nat):Int):=by omega
 have hb1:∃av,(av=.pointer none\/av=.pointer (some ⟨R,1,none⟩))/\(w.setCell ⟨R,3,none⟩ (.int .i64 (o1:Nat))).heap[R]?=some (.cells #[tv,av,bv,.int .i64 (o1:Nat),.int .i64 (m:Nat)] 92 (0,0)):=by
  obtain⟨av,ha,hb⟩:=h.blk;exact⟨av,ha,(heap_setCell_same w R 3 _ 92 (.int .i64 (o1:Nat)) hb).trans (by simp)⟩
 have HB1:=zq hb1;obtain⟨w1,hw1⟩:∃w1,w1=w.setCell ⟨R,3,none⟩ (.int .i64 (o1:Nat)):=⟨_,rfl⟩;rw[<-hw1]at HB1
 have HW1:Hid (Wr R none w w1):=by show Wr R none w w1;rw[hw1];exact Wr.of_set w 3 _
 have HO1:Hid (w1.ownsRow (R+1) 5 1 bv out.length (u8s out)):=by show _;rw[hw1];exact ownsRow_setCell_below h.own (by simp) _
 have d3:w1.cell? ⟨R,3,none⟩=some (.int .i64 (o1:Nat)):=by
  obtain⟨av,-,hb⟩:=HB1.o;rw[cell_of_row w1 R _ _ _ _ hb];rfl
 have d4:w1.cell? ⟨R,4,none⟩=some (.int .i64 (m:Nat)):=by
  obtain⟨av,-,hb⟩:=HB1.o;rw[cell_of_row w1 R _ _ _ _ hb];rfl
 have e4:w1.frozen? ⟨R,4,none⟩=false:=by
  obtain⟨av,-,hb⟩:=HB1.o;exact frozen_of_row w1 R 4 _ _ hb
 obtain⟨m1,hm1⟩:=xq (max m o1)
 have hmx:max ((m:Nat):Int) ((o1:Nat):Int)=((m1:Nat):Int):=by omega
 have HW1E:=zq hw1;have HLE:=zq h.le;have HSM:=zq (WrS.setM (m':=m1) HB1.o HO1.o (by omega));have HOE:=zq ho1;have HME:=zq hm1;have hf:∀args w,(callFunc 164 args).run Tryz.prog w=.ok (.enter 164 args) w:=enters_of Tryz.func164 (by kernel_rfl) rfl;clear h HF hb1 ho1 hm1;go_enter Tryz.func106,Tryz.ntmps106;go_wp2_with fail;rw[<-hw1];clear hw1;go_region;go_wp2_with fail;obtain⟨w2,hw2⟩:∃w2,w2=(w1.setCell ⟨R,4,none⟩ (.int .i64 (m1:Nat))).drew:=⟨_,rfl⟩;rw[<-hw2]
 have hd2:Below (w1.setCell ⟨R,4,none⟩ (.int .i64 (m1:Nat))).heap.size (w1.setCell ⟨R,4,none⟩ (.int .i64 (m1:Nat))) w2:=by rw[hw2];exact Below.drew (Below.refl _ _)
 have HB2:=zq (HSM.o.1.below hd2);have HW2:Hid (Wr R none w w2):=(HW1.o.trans (Mv.refl _ _) HSM.o.2).trans (Mv.refl _ _) (Wr.of_below hd2);clear hw2 hd2 d3 d4 e4 c3 c4 f3;refine(Sp R tv bv out o1 m1 40 _ HB2.o (by omega)).mono ?_;rintro e w3 ⟨rfl,bv3,k1,k2,k3⟩;rw[HME.o,HOE.o]at k1;have K1:=zq k1;have K2:Hid (Wr R bv.ownBlock w w3):=(HW2.o.weak _).trans (Mv.refl _ _) k2;have K3:Hid (Mv w bv.ownBlock bv3.ownBlock):=Mv.trans (R:=R) (w':=w2) (Mv.refl _ _) HW2.o.size k3;clear k1 k2 k3;go_wp2_with fail;refine(HFF.o bv3 w3 K1.o K2.o K3.o).mono ?_;rintro e w4 ⟨rfl,bv4,l1,l2,l3⟩;have L1:=zq l1;have L2:Hid (Wr R bv.ownBlock w w4):=K2.o.trans K3.o l2;have L3:Hid (Mv w bv.ownBlock bv4.ownBlock):=Mv.trans (R:=R) (w':=w3) K3.o K2.o.size l3;clear l1 l2 l3;go_wp2_with fail;refine(Sp R tv bv4 _ _ _ 41 _ L1.o (by simp only[List.length_append,List.length_singleton];omega)).mono ?_;rintro e w5 ⟨rfl,bv5,q1,q2,q3⟩;rw[<-HOE.o]at q1;have g3:=q1.cells.2.1;have gf:=q1.fro 3
 have hw5:((o1:Nat):Int)-1=((o:Nat):Int):=by have:=HOE.o;omega
 have Q2:Hid (Wr R bv.ownBlock w w5):=L2.o.trans L3.o q2;have Q3:Hid (Mv w bv.ownBlock bv5.ownBlock):=Mv.trans (R:=R) (w':=w4) L3.o L2.o.size q3;have Q1:=zq (q1.setO (o':=o) (by have:=HOE.o;omega))
 have ho1b:o1<=100001:=by have:=HOE.o;omega
 clear q1 q2 q3;go_wp2_with fail
 first|go_end0|refine bodyPost_ret (results_none rfl _ _ _) rfl ?_
 have e1:out++[40]++X++[41]=OUT:=by rw[HOUT.o];simp
 have e2:max (max m o1) (o1+d)=M:=by rw[HM.o,HOE.o];omega
 have q5:=Q1.o.1;rw[e1,e2]at q5;exact⟨rfl,bv5,q5,Q2.o.trans Q3.o (Q1.o.2.weak _),Mv.trans (R:=R) (w':=w5) Q3.o Q2.o.size (Mv.refl _ _)⟩
end Go.Proofs.YtgfmiladfeoldaaGreatDoor
