/- Joined texts of this claim's proof: LexW1, LexDec, LexW2, LexW3, LexW4, LexW5. -/
import Derived.Test.YtgfmiladfeoldaaGreatDoorPk1
import Derived.Test.YtgfmiladfeoldaaGreatDoorPk3
import Derived.Test.YtgfmiladfeoldaaGreatDoorPk2
import Derived.WalkKit
import Derived.WalkSpells
import Derived.WalkLawsBesides
import Derived.Lib.Hide
import Derived.BigQuiet
import Derived.Deep.QuietTactic
import Derived.Handy
set_option linter.unusedSimpArgs false
set_option linter.unusedVariables false
set_option maxRecDepth 100000
set_option maxHeartbeats 16000000
namespace Go.Proofs.YtgfmiladfeoldaaGreatDoor
open Go.RowKit LexP
theorem Qx4 {a b:Int}(h:a=b):Ending.returned (.int .i64 a)=.returned (.int .i64 b):=by rw[h]
theorem Qvl (r:Nat)(h:r<128):
  decide (0<=Lib.indexByte [43,45,42,94,39,40,41,91,93,123,125,44,59,58,61] (r:Int).toNat.toUInt8)=decide (r.toUInt8∈([43,45,42,94,39,40,41,91,93,123,125,44,59,58,61]:Qx)):=by
 have:∀r:Fin 128,decide (0<=Lib.indexByte [43,45,42,94,39,40,41,91,93,123,125,44,59,58,61] ((r.val:Nat):Int).toNat.toUInt8)=decide (r.val.toUInt8∈([43,45,42,94,39,40,41,91,93,123,125,44,59,58,61]:Qx)):=by decide+kernel
 exact this ⟨r,h⟩
theorem He (r:Nat)(w:World)(hr:r<=0x10FFFF):
  Calls Tryz.prog 200 #[.int .i32 (r:Int)] w fun e w'=>e=.returned (.int .i64 (kindOf r:Nat))/\w=w':=by
 by_cases h1:r=32\/r=9\/r=0xa0
 ·have hk:kindOf r=1:=by unfold kindOf;rw[if_pos h1]
  rw[hk];clear hk;rcases h1 with rfl|rfl|rfl
  all_goals
   go_enter Tryz.func200,Tryz.ntmps200;go_wp2;go_ret;exact⟨rfl,rfl⟩
 by_cases h2:r=35
 ·subst h2
  go_enter Tryz.func200,Tryz.ntmps200;go_wp2;go_ret;exact⟨rfl,rfl⟩
 have n1:((r:Int)==32)=false:=by simp;omega
 have n2:((r:Int)==9)=false:=by simp;omega
 have n3:((r:Int)==160)=false:=by simp;omega
 have n4:((r:Int)==35)=false:=by simp;omega
 by_cases h3:48<=r/\r<=57
 ·have hk:kindOf r=3:=by unfold kindOf;rw[if_neg h1,if_neg h2,if_pos h3]
  rw[hk];clear hk;go_enter Tryz.func200,Tryz.ntmps200;go_wp2;go_ret;exact⟨rfl,rfl⟩
 by_cases e95:r=95
 ·subst e95
  go_enter Tryz.func200,Tryz.ntmps200;go_wp2;go_ret;exact⟨rfl,rfl⟩
 by_cases e8722:r=0x2212
 ·subst e8722
  go_enter Tryz.func200,Tryz.ntmps200;go_wp2;go_ret;exact⟨rfl,rfl⟩
 by_cases e215:r=0xd7
 ·subst e215
  go_enter Tryz.func200,Tryz.ntmps200;go_wp2;go_ret;exact⟨rfl,rfl⟩
 by_cases e247:r=0xf7
 ·subst e247
  go_enter Tryz.func200,Tryz.ntmps200;go_wp2;go_ret;exact⟨rfl,rfl⟩
 have n6:((r:Int)==95)=false:=by simp;omega
 have n7:((r:Int)==8722)=false:=by simp;omega
 have n8:((r:Int)==215)=false:=by simp;omega
 have n9:((r:Int) !=247)=true:=by simp;omega
 have K:kindOf r=if (97<=r/\r<=122)\/(65<=r/\r<=90) then 4 else if (0xc0<=r/\r<=0x2af)\/(0x370<=r/\r<=0x3ff) then 4
   else if r<0x80/\(r.toUInt8∈([43,45,42,94,39,40,41,91,93,123,125,44,59,58,61]:Qx)) then 5 else 6:=by
  unfold kindOf;rw[if_neg h1,if_neg h2,if_neg h3];simp only[e95,e8722,e215,e247,or_false,if_false,ne_eq,not_false_eq_true,and_true]
 have G:(r<48\/58<=r/\r<65\/91<=r/\r<97\/123<=r/\r<128)\/(65<=r/\r<=90\/97<=r/\r<=122)\/(128<=r/\r<0xc0\/0x2af<r/\r<0x370\/0x3ff<r)\/(0xc0<=r/\r<=0x2af\/0x370<=r/\r<=0x3ff):=by omega
 rcases G with G|G|G|G
 ·have h6:r<128:=by omega
  have K5:(decide (r.toUInt8∈([43,45,42,94,39,40,41,91,93,123,125,44,59,58,61]:Qx)))=(decide (kindOf r=5)):=by
   rw[K,if_neg (by omega),if_neg (by omega)];by_cases hm:r.toUInt8∈([43,45,42,94,39,40,41,91,93,123,125,44,59,58,61]:Qx)
   ·rw[if_pos ⟨by omega,hm⟩];simp[hm]
   ·rw[if_neg (by simp[hm])];simp[hm]
  have K6:kindOf r=5\/kindOf r=6:=by
   rw[K,if_neg (by omega),if_neg (by omega)];split<;>simp
  have M:=zq (Qvl r h6);rw[K5]at M;clear K K5;generalize kindOf r=k at*;rcases K6 with rfl|rfl
  all_goals
   rcases G with G|G|G|G
   all_goals
    clear h1 h2 h3 e95 e8722 e215 e247;go_enter Tryz.func200,Tryz.ntmps200;go_wp2_with (go_at_call 231;refine(Tryz.strings_ContainsRune_ascii _ _ _ (by omega) (by omega)).mono ?_;rintro e w' ⟨rfl,rfl⟩;rw[M.o]);go_ret;exact⟨rfl,rfl⟩
 ·rw[K,if_pos (by omega)]
  clear K;rcases G with G|G
  all_goals
   clear h1 h2 h3 e95 e8722 e215 e247;go_enter Tryz.func200,Tryz.ntmps200;go_wp2;go_ret;exact⟨rfl,rfl⟩
 ·rw[K,if_neg (by omega),if_neg (by omega),if_neg (by omega)]
  clear K;rcases G with G|G|G
  all_goals
   clear h1 h2 h3 e95 e8722 e215 e247;go_enter Tryz.func200,Tryz.ntmps200;go_wp2;go_ret;exact⟨rfl,rfl⟩
 ·rw[K,if_neg (by omega),if_pos (by omega)]
  clear K;rcases G with G|G
  all_goals
   clear h1 h2 h3 e95 e8722 e215 e247;go_enter Tryz.func200,Tryz.ntmps200;go_wp2;go_ret;exact⟨rfl,rfl⟩
end Go.Proofs.YtgfmiladfeoldaaGreatDoor
namespace LexP
open Go
theorem Qyp (s:ByteArray)(i:Nat):s.get! i=(s.data.toList[i]?).getD default:=by
 obtain⟨⟨l⟩⟩:=s;simp[ByteArray.get!]
theorem Fw (s:ByteArray)(i:Nat)(hi:i<s.size):
  Utf8.decode s i=match dec (s.data.toList.drop i) with|some (v,n)=>(v,n)|none=>(0xFFFD,1):=by
 have I:s.size=s.data.toList.length:=Lib.size_eq s
 have K:∀k,s.get! (i+k)=((s.data.toList.drop i)[k]?).getD default:=by
  intro k;rw[Qyp,List.getElem?_drop]
 have O:∀k,i+k<s.size↔k<(s.data.toList.drop i).length:=by intro k;rw[I,List.length_drop];omega
 have J:0<(s.data.toList.drop i).length:=by rw[List.length_drop];omega
 generalize s.data.toList.drop i=l at*;simp only[Utf8.decode,K,O]
 match l,J with
 |b::t,_=>
  simp only[List.getElem?_cons_zero,Option.getD_some,List.getElem?_cons_succ,List.length_cons];by_cases h0:b.toNat<0x80
  ·simp[dec,h0]
  simp only[h0,if_false];by_cases h1:b.toNat / 32=6
  ·have h: ¬b.toNat / 16=14:=by omega
   have E: ¬b.toNat / 8=30:=by omega
   match t with
   | []=>simp[dec,h0,h1,Utf8.runeError]
   |c::t=>
    by_cases k1:c.toNat / 64=2
    ·by_cases k2:128<=b.toNat % 32*64+c.toNat % 64
     ·simp[dec,h0,h1,k1,Xo,k2]
     ·simp[dec,h0,h1,k1,Xo,k2,Utf8.runeError]
    ·simp[dec,h0,h1,k1,Xo,h,E,Utf8.runeError]
  by_cases h:b.toNat / 16=14
  ·have E: ¬b.toNat / 8=30:=by omega
   match t with
   | []=>simp[dec,h0,h1,h,Utf8.runeError]
   | [c]=>simp[dec,h0,h1,h,Utf8.runeError]
   |c::d::t=>
    have H:∀v:Nat,Utf8.valid (v:Int)=Vh v:=by
     intro v;simp only[Utf8.valid,Vh];rw[Bool.eq_iff_iff];simp;omega
    by_cases k1:c.toNat / 64=2
    ·by_cases k2:d.toNat / 64=2
     ·simp only[dec,h0,h1,h,k1,k2,Xo,if_true,if_false,beq_self_eq_true,Bool.true_and,Bool.and_true,H,List.length_cons,List.getElem?_cons_zero,Option.getD_some]
      by_cases k3:2048<=b.toNat % 16*4096+c.toNat % 64*64+d.toNat % 64/\Vh (b.toNat % 16*4096+c.toNat % 64*64+d.toNat % 64)=true
      ·simp[k2,h1,k3]
      ·simp[Utf8.runeError,k2,h1,k3]
     ·simp[dec,h0,h1,h,k1,k2,Xo,E,Utf8.runeError]
    ·simp[dec,h0,h1,h,k1,Xo,E,Utf8.runeError]
  by_cases E:b.toNat / 8=30
  ·match t with
   | []=>simp[dec,h0,h1,h,E,Utf8.runeError]
   | [c]=>simp[dec,h0,h1,h,E,Utf8.runeError]
   | [c,d]=>simp[dec,h0,h1,h,E,Utf8.runeError]
   |c::d::f::t=>
    have H:∀v:Nat,Utf8.valid (v:Int)=Vh v:=by
     intro v;simp only[Utf8.valid,Vh];rw[Bool.eq_iff_iff];simp;omega
    by_cases k1:c.toNat / 64=2
    ·by_cases k2:d.toNat / 64=2
     ·by_cases k4:f.toNat / 64=2
      ·simp only[dec,h0,h1,h,E,k1,k2,k4,Xo,if_true,if_false,beq_self_eq_true,Bool.true_and,Bool.and_true,H,List.length_cons,List.getElem?_cons_zero,Option.getD_some]
       by_cases k3:65536<=b.toNat % 8*262144+c.toNat % 64*4096+d.toNat % 64*64+f.toNat % 64/\Vh (b.toNat % 8*262144+c.toNat % 64*4096+d.toNat % 64*64+f.toNat % 64)=true
       ·simp[k2,k4,h1,h,k3]
       ·simp[Utf8.runeError,k2,k4,h1,h,k3]
      ·simp[dec,h0,h1,h,E,k1,k2,k4,Xo,Utf8.runeError]
     ·simp[dec,h0,h1,h,E,k1,k2,Xo,Utf8.runeError]
    ·simp[dec,h0,h1,h,E,k1,Xo,Utf8.runeError]
  ·simp[dec,h0,h1,h,E,Utf8.runeError]
theorem Wy (s:ByteArray)(i:Nat)(hi:i<s.size):(Utf8.decode s i).1=(val (s.data.toList.drop i)).getD 0xFFFD:=by
 rw[Fw s i hi];unfold val
 cases dec (s.data.toList.drop i)<;>rfl
theorem Wj (s:ByteArray)(i:Nat)(hi:i<s.size):(Utf8.decode s i).2=wid (s.data.toList.drop i):=by
 rw[Fw s i hi];unfold wid
 cases dec (s.data.toList.drop i)<;>rfl
theorem Qmu {l:Qx}{v:Nat}(h:val l=some v):v<=0x10FFFF:=by
 unfold val at h
 cases hd:dec l with
 |none=>simp[hd]at h
 |some p=>obtain⟨a,b⟩:=p;simp[hd]at h;subst h;exact Qxt hd
theorem Qwo (l:Qx):(val l).getD 0xFFFD=0xFFFD->(Lib.hasPrefix l [239,191,189]=(val l).isSome):=by
 intro h
 cases hv:val l with
 |none=>
  cases hp:Lib.hasPrefix l [239,191,189] with
  |false=>rfl
  |true=>
   exfalso;obtain⟨t,rfl⟩:=List.isPrefixOf_iff_prefix.1 hp
   simp[val,dec,Xo,Vh]at hv
 |some v=>
  have h':v=0xFFFD:=by simpa [hv] using h
  subst h';simp only[Option.isSome_some];unfold val at hv;unfold dec at hv;split at hv
  ·simp at hv
  ·rename_i b t
   split at hv
   ·simp at hv;omega
   split at hv
   ·split at hv
    ·split at hv
     ·simp at hv;omega
     ·simp at hv
    ·simp at hv
   split at hv
   ·split at hv
    ·rename_i c d r
     split at hv
     ·rename_i k
      simp only[Bool.and_eq_true,Xo,beq_iff_eq]at k;simp at hv
      have E:b.toNat=239:=by have:=b.toNat_lt;omega
      have H:c.toNat=191:=by have:=c.toNat_lt;omega
      have I:d.toNat=189:=by have:=d.toNat_lt;omega
      have eb:b=239:=UInt8.toNat_inj.1 E;have ec:c=191:=UInt8.toNat_inj.1 H;have ed:d=189:=UInt8.toNat_inj.1 I;subst eb ec ed;simp[Lib.hasPrefix]
     ·simp at hv
    ·simp at hv
   split at hv
   ·split at hv
    ·split at hv
     ·rename_i k
      simp only[Bool.and_eq_true,decide_eq_true_eq]at k;simp at hv;omega
     ·simp at hv
    ·simp at hv
   ·simp at hv
end LexP
namespace Go.Proofs.YtgfmiladfeoldaaGreatDoor
open Go.RowKit LexP
theorem Tryz.infoChar:(Tryz.prog.info? 182).map (fun i=>(i.zero,i.size,i.bytes))=some (some (.agg #[.int .i64 0,.int .i32 0,.int .i64 0]),3,24):=by kernel_rfl
def Qva (l:Qx)(w:World)(e:Ending)(w':World):Prop:=
 ∃v,e=.returned v/\w'.ownsRow w.heap.size 182 3 v (Qz l).length (X5 0 (Qz l))/\Below w.heap.size w w'
def Qg9 (s:ByteArray)(w:World)(v:Value)(wr:World):Prop:=
 ∃pos dn,pos<=s.size/\wr.heap[w.heap.size]?=some (.stringIter s pos)/\Below w.heap.size w wr/\
  Qz s.data.toList=dn++Qz (s.data.toList.drop pos)/\(Qk dn).length=pos/\wr.ownsRow (w.heap.size+1) 182 3 v dn.length (X5 0 dn)
theorem Dh (w:World)(s:ByteArray):(w.iter s 0).heap[w.heap.size]?=some (.stringIter s 0):=World.iter_heap w s 0
theorem Fi (s:ByteArray)(w:World)(hs:s.size<=67108864):
  Calls Tryz.prog 155 #[.string s] w (Qva s.data.toList w):=by
 obtain⟨i0,hi,hz0,hz1,hz2⟩:=info_parts Tryz.infoChar;go_enter Tryz.func155,Tryz.ntmps155;go_wp2;go_loopw [3] (fun v wr=>Qg9 s w v wr) (fun _ wr=>s.size-wr.iterPos w.heap.size)
 case atStart=>
  exact⟨0,[],Nat.zero_le _,Dh w s,(Below.refl _ _).alloc (Nat.le_refl _) _,by simp,rfl,World.ownsRow_nil _ _ _ _⟩
 case round=>
  obtain⟨pos,dn,hpos,hit,hbel,hch,hlen,hown⟩:=hrel;have hsz:w.heap.size<wr.heap.size:=(Array.getElem?_eq_some_iff.1 hit).1;by_cases hlt:pos<s.size
  ·have hn:=fun ty=>Lib.run_next_any_at (P:=Tryz.prog) wr w.heap.size s pos ty hit hlt
   have hLe:s.data.toList.drop pos≠[]:=by rw[Ne,List.drop_eq_nil_iff,<-Lib.size_eq];omega
   have hcons:=zq (Zj hLe);have hk1:=Db (s.data.toList.drop pos)
   have hk2:pos+wid (s.data.toList.drop pos)<=s.size:=by have:=P4 hLe;rw[List.length_drop,<-Lib.size_eq]at this;omega
   have hdd:Hid (List.drop (wid (s.data.toList.drop pos)) (s.data.toList.drop pos)=s.data.toList.drop (pos+wid (s.data.toList.drop pos))):=by show _=_;rw[List.drop_drop]
   have hbl:Hid ((Qk (dn++[(val (s.data.toList.drop pos),List.take (wid (s.data.toList.drop pos)) (s.data.toList.drop pos))])).length=pos+wid (s.data.toList.drop pos)):=by
    show _=_;simp only[Qk,List.flatMap_append,List.length_append]at hlen ⊢;rw[hlen];have:=P4 hLe;simp;simp at this;omega
   have hfp:=zq (Qwo (s.data.toList.drop pos));have hvl:∀v,val (s.data.toList.drop pos)=some v->v<=0x10FFFF:=fun v h=>Qmu h;rw[Wy s pos hlt,Wj s pos hlt]at hn;have HCH:=zq hch;have HLEN:=zq hlen
   have hxd:Hid ((s.extract pos s.size).data.toList=s.data.toList.drop pos):=by
    show _=_;rw[Lib.extract_data,List.take_of_length_le (by rw[List.length_drop,<-Lib.size_eq];exact Nat.le_refl _)]
   have hdn:dn.length<=67108864:=by
    have h1:=Yq s.data.toList;rw[hch,List.length_append,<-Lib.size_eq]at h1;omega
   clear hch hlen hLe
   have fin:∀(c:C) (v':Value) (w2:World),c=(val (s.data.toList.drop pos),List.take (wid (s.data.toList.drop pos)) (s.data.toList.drop pos))->
     w2.ownsRow (w.heap.size+1) 182 3 v' (dn.length+1) (X5 0 dn++X5 pos [c])->Below w.heap.size w w2->w2.heap[w.heap.size]?=some (.stringIter s (pos+wid (s.data.toList.drop pos)))->
     Qg9 s w v' w2/\s.size-w2.iterPos w.heap.size<s.size-wr.iterPos w.heap.size:=by
    intro c v' w2 hc ho hb hi2;refine⟨⟨pos+wid (s.data.toList.drop pos),dn++[c],hk2,hi2,hb,?_,?_,?_⟩,?_⟩
    ·rw[HCH.o,hcons.o,hc,hdd.o];simp
    ·rw[hc];exact hbl.o
    ·rw[Hw,HLEN.o,Nat.zero_add];simpa using ho
    ·rw[iterPos_of hi2,iterPos_of hit];omega
   have FIN:=zq fin;clear fin hdd hbl HCH HLEN hcons hk2;generalize wid (s.data.toList.drop pos)=k at*;have hW:∃wi:World,wi=wr.iterAt w.heap.size s (pos+k):=⟨_,rfl⟩;obtain⟨wi,hwi⟩:=hW
   have q1:wi.ownsRow (w.heap.size+1) 182 3 u3 dn.length (X5 0 dn):=by rw[hwi];exact ownsRow_iterAt hown (Nat.lt_succ_self _) _ _
   have q2:Below w.heap.size w wi:=by rw[hwi];exact Lib.below_iterAt hbel (Nat.le_refl _) _ _
   have q3:wi.heap[w.heap.size]?=some (.stringIter s (pos+k)):=by rw[hwi];exact Lib.iterAt_heap _ _ _ _ _ hit
   have q4:w.heap.size<wi.heap.size:=(Array.getElem?_eq_some_iff.1 q3).1;rw[<-hwi]at hn;clear hwi;have Q3:=zq q3;clear q3
   cases hv:val (s.data.toList.drop pos) with
   |some r=>
    have hrle:=hvl r hv;rw[hv]at hn hfp FIN;clear hvl hv;simp only[Option.getD_some]at hn hfp;by_cases hr:r=0xFFFD
    ·subst hr
     have HP:Hid (Lib.hasPrefix (s.data.toList.drop pos) [239,191,189]=true):=hfp.o (by first|trivial|rfl);clear hfp;go_wp2_with (first|(go_at_call 200;refine(He 0xFFFD _ (by omega)).mono ?_;rintro e w' ⟨rfl,rfl⟩)|(go_at_call 201;refine(Tryz.strings_HasPrefix _ _ _).mono ?_;rintro e w' ⟨rfl,rfl⟩;simp only[hxd.o,HP.o])|(at_builtin;refine wpList_append_own _ rfl _ _ 179 rfl (w.heap.size+1) 182 i0 (.agg #[.int .i64 0,.int .i32 0,.int .i64 0]) 3 24 Tryz.underlying179 hi hz0 hz1 hz2 rfl (by decide) _ _ _ rfl ((q1.alloc _).alloc _) ⟨wi.heap.size+1,0,none⟩ 1 1 (X5 pos [(some 0xFFFD,List.take k (s.data.toList.drop pos))]) rfl rfl ?c1 ?c2 ?c3 ?c4 ?c5 ?_))
     case c1=>exact Qb _ _ _ _ (by simp)
     case c2=>intro u hu;simp[Sv]at hu;rcases hu with rfl|rfl|rfl<;>rfl
     case c3=>unfold maxLen;omega
     case c4=>omega
     case c5=>simp;omega
     intro v' w2 hown2 hgrow2 _
     have hfin:=FIN.o (some 0xFFFD,List.take k (s.data.toList.drop pos)) v' w2 rfl hown2
      (Below.grown (((q2.alloc (Nat.le_of_lt q4) _).alloc (by simp;omega) _)) hgrow2 (by simp;omega) (fun k hk=>Nat.le_of_succ_le (q1.lt k hk).1))
      ((hgrow2.block w.heap.size (by simp;omega) (fun e=>by have:=(q1.lt _ e.symm).1;omega)).trans
       ((Below.heap_alloc _ _ _ (by simp;omega)).trans ((Below.heap_alloc _ _ _ q4).trans Q3.o)))
     clear hown2 hgrow2;have HF:=zq hfin;clear hfin;go_wp2
     first|exact HF.o|exact⟨by (repeat apply Exists.intro);exact⟨HF.o.1,rfl⟩,HF.o.2⟩
    ·have hr1:((r:Int)==65533)=false:=by simp;omega
     clear hfp hxd;go_wp2_with (first|(go_at_call 200;refine(He r _ hrle).mono ?_;rintro e w' ⟨rfl,rfl⟩)|(at_builtin;refine wpList_append_own _ rfl _ _ 179 rfl (w.heap.size+1) 182 i0 (.agg #[.int .i64 0,.int .i32 0,.int .i64 0]) 3 24 Tryz.underlying179 hi hz0 hz1 hz2 rfl (by decide) _ _ _ rfl ((q1.alloc _).alloc _) ⟨wi.heap.size+1,0,none⟩ 1 1 (X5 pos [(some r,List.take k (s.data.toList.drop pos))]) rfl rfl ?c1 ?c2 ?c3 ?c4 ?c5 ?_))
     case c1=>exact Qb _ _ _ _ (by simp)
     case c2=>intro u hu;simp[Sv]at hu;rcases hu with rfl|rfl|rfl<;>rfl
     case c3=>unfold maxLen;omega
     case c4=>omega
     case c5=>simp;omega
     intro v' w2 hown2 hgrow2 _
     have hfin:=FIN.o (some r,List.take k (s.data.toList.drop pos)) v' w2 rfl hown2
      (Below.grown (((q2.alloc (Nat.le_of_lt q4) _).alloc (by simp;omega) _)) hgrow2 (by simp;omega) (fun k hk=>Nat.le_of_succ_le (q1.lt k hk).1))
      ((hgrow2.block w.heap.size (by simp;omega) (fun e=>by have:=(q1.lt _ e.symm).1;omega)).trans
       ((Below.heap_alloc _ _ _ (by simp;omega)).trans ((Below.heap_alloc _ _ _ q4).trans Q3.o)))
     clear hown2 hgrow2;have HF:=zq hfin;clear hfin;go_wp2
     first|exact HF.o|exact⟨by (repeat apply Exists.intro);exact⟨HF.o.1,rfl⟩,HF.o.2⟩
   |none=>
    rw[hv]at hn hfp FIN;clear hvl hv;simp only[Option.getD_none]at hn hfp;have HP:Hid (Lib.hasPrefix (s.data.toList.drop pos) [239,191,189]=false):=hfp.o (by first|trivial|rfl);clear hfp;go_wp2_with (first|(go_at_call 200;refine(He 0xFFFD _ (by omega)).mono ?_;rintro e w' ⟨rfl,rfl⟩)|(go_at_call 201;refine(Tryz.strings_HasPrefix _ _ _).mono ?_;rintro e w' ⟨rfl,rfl⟩;simp only[hxd.o,HP.o])|(at_builtin;refine wpList_append_own _ rfl _ _ 179 rfl (w.heap.size+1) 182 i0 (.agg #[.int .i64 0,.int .i32 0,.int .i64 0]) 3 24 Tryz.underlying179 hi hz0 hz1 hz2 rfl (by decide) _ _ _ rfl ((q1.alloc _).alloc _) ⟨wi.heap.size+1,0,none⟩ 1 1 (X5 pos [(none,List.take k (s.data.toList.drop pos))]) rfl rfl ?c1 ?c2 ?c3 ?c4 ?c5 ?_))
    case c1=>exact Qb _ _ _ _ (by simp)
    case c2=>intro u hu;simp[Sv]at hu;rcases hu with rfl|rfl|rfl<;>rfl
    case c3=>unfold maxLen;omega
    case c4=>omega
    case c5=>simp;omega
    intro v' w2 hown2 hgrow2 _
    have hfin:=FIN.o (none,List.take k (s.data.toList.drop pos)) v' w2 rfl hown2
     (Below.grown (((q2.alloc (Nat.le_of_lt q4) _).alloc (by simp;omega) _)) hgrow2 (by simp;omega) (fun k hk=>Nat.le_of_succ_le (q1.lt k hk).1))
     ((hgrow2.block w.heap.size (by simp;omega) (fun e=>by have:=(q1.lt _ e.symm).1;omega)).trans
      ((Below.heap_alloc _ _ _ (by simp;omega)).trans ((Below.heap_alloc _ _ _ q4).trans Q3.o)))
    clear hown2 hgrow2;have HF:=zq hfin;clear hfin;go_wp2
    first|exact HF.o|exact⟨by (repeat apply Exists.intro);exact⟨HF.o.1,rfl⟩,HF.o.2⟩
  ·have hn:=fun ty=>Lib.run_next_end_at (P:=Tryz.prog) wr w.heap.size s pos ty hit hlt
   go_wp2;go_ret
   have:pos=s.size:=by omega
   rw[List.drop_of_length_le (by rw[<-Lib.size_eq];omega),Wx,List.append_nil]at hch;rw[<-hch]at hown;exact⟨_,rfl,X4 hown (by omega),hbel⟩
def Vz (l:Qx):Nat×Nat:=if (Qz l).all Qe then ((Qz l).length,0) else (0,12)
def Qx5 (l:Qx)(w:World)(e:Ending)(w':World):Prop:=
 e=.returned (.tuple #[.int .i64 (Vz l).1,.int .i64 (Vz l).2])/\Below w.heap.size w w'
theorem Al (s:ByteArray)(w:World)(hs:s.size<=67108864):
  Calls Tryz.prog 91 #[.string s] w (Qx5 s.data.toList w):=by
 go_enter Tryz.func91,Tryz.ntmps91;go_wp2_with fail;refine(Fi s _ hs).mono ?_;rintro e w1 ⟨v,rfl,hown,hbel⟩
 have hN:(Qz s.data.toList).length<=67108864:=by have:=Yq s.data.toList;rw[<-Lib.size_eq]at this;omega
 have HR:∀(a:Nat×Nat),a=Vz s.data.toList->Qx5 s.data.toList w (.returned (.tuple #[.int .i64 (a.1:Nat),.int .i64 (a.2:Nat)])) w1:=fun a ha=>⟨by rw[ha],hbel⟩
 have HC:Vz s.data.toList=if (Qz s.data.toList).all Qe then ((Qz s.data.toList).length,0) else (0,12):=rfl
 generalize Qz s.data.toList=cs at*;have HR:=zq HR;have HC:=zq HC;obtain⟨ao,cap,rfl,hnc,hcm,hsh⟩:=Qj hown;go_wp2_with fail;have HSH:=zq hsh;have HB:=zq hbel;clear hown hsh hbel;go_loopw [4,10] (fun n i wr=> ∃k:Nat,k<=cs.length/\n=.int .i64 k/\i=.int .i64 k/\Below w1.heap.size w1 wr/\(cs.take k).all Qe=true) (fun _ i _=>cs.length-(intOf i).toNat)
 case atStart=>exact⟨0,Nat.zero_le _,rfl,rfl,Below.refl _ _,rfl⟩
 case round=>
  obtain⟨k,hk,rfl,rfl,hbk,hall⟩:=hrel;have HALL:=zq hall;clear hall;by_cases hlt:k<cs.length
  ·obtain⟨c,hc⟩:∃c,cs[k]?=some c:=⟨cs[k],List.getElem?_eq_getElem hlt⟩
   obtain⟨g,rfl,hbg,hgs,hcell⟩:=HSH.o (by omega);obtain⟨c1,c2,c3⟩:=Hg cs 0 k c hc
   have e1:wr.cell? ⟨g,k*3,none⟩=some (.int .i64 (kd c:Nat)):=by rw[hbk.cell (p:=⟨g,_,none⟩) hgs,hcell _ (by omega)];exact c1
   have e2:wr.cell? ⟨g,k*3+1,none⟩=some (.int .i32 (rn c:Nat)):=by rw[hbk.cell (p:=⟨g,_,none⟩) hgs,hcell _ (by omega)];exact c2
   have e3:wr.cell? ⟨g,k*3+2,none⟩=some (.int .i64 (0+(Qk (cs.take k)).length:Nat)):=by rw[hbk.cell (p:=⟨g,_,none⟩) hgs,hcell _ (by omega)];exact c3
   have hz:=hbk.size;clear c1 c2 c3 hcell HSH;have HCK:=zq hc;clear hc;by_cases hb:kd c=0
   ·have hb1:((kd c:Int)==0)=true:=by simp[hb]
    have HBD:=zq hb;clear hb;go_wp2;go_ret2
    have:cs.all Qe=false:=by
     rw[List.all_eq_false];exact⟨c,List.mem_of_getElem? HCK.o,by simp[Qe,HBD.o]⟩
    obtain⟨h1,h2⟩:=HR.o (0,12) (by rw[HC.o,this];rfl);exact⟨h1,h2.trans ((hbk.mono HB.o.size).alloc (by have:=HB.o.size;omega) _)⟩
   ·have hb1:((kd c:Int)==0)=false:=by simp[hb]
    go_wp2;exact⟨⟨k+1,by omega,by go_num,by go_num,hbk.alloc hz _,by rw[List.take_add_one,HCK.o];simp[HALL.o,Qe,hb]⟩,by simp[intOf];omega⟩
  ·go_wp2
   go_ret2
   have hk':k=cs.length:=by omega
   have h1:=HALL.o;rw[hk',List.take_length]at h1;obtain⟨h1,h2⟩:=HR.o (cs.length,0) (by rw[HC.o,h1];rfl);rw[hk'];exact⟨h1,h2.trans (hbk.mono HB.o.size)⟩
def Qz1 (F:Nat)(p:C->Bool):Prop:=
 (∀(args:Array Value) (w:World),(callFunc F args).run Tryz.prog w=.ok (.enter F args) w)/\ ∀(c:C) (q:Nat) (w:World),Calls Tryz.prog F #[.agg #[.int .i64 (kd c:Nat),.int .i32 (rn c:Nat),.int .i64 (q:Nat)]] w fun e w'=>e=.returned (.bool (p c))/\Below w.heap.size w w'
theorem Em:Qz1 157 Qe:=by
 refine⟨fun args w=>by kernel_rfl,?_⟩;intro c q w
 have h:Qe c= !((kd c:Int)==0):=by unfold Qe;rw[Bool.eq_iff_iff];simp
 rw[h];go_enter Tryz.func157,Tryz.ntmps157;go_wp2;go_ret;exact⟨by simp[bne],(Below.refl _ _).alloc (Nat.le_refl _) _⟩
theorem C9:Qz1 202 Qd:=by
 refine⟨fun args w=>by kernel_rfl,?_⟩;intro c q w
 cases h:((kd c:Int)==3) with
 |true=>
  have E:Qd c=true:=by unfold Qd;simp at h;simp;left;omega
  rw[E];go_enter Tryz.func202,Tryz.ntmps202;go_wp2;go_ret
  exact⟨rfl,(Below.refl _ _).alloc (Nat.le_refl _) _⟩
 |false=>
  have E:Qd c=((rn c:Int)==95):=by unfold Qd;rw[Bool.eq_iff_iff];simp at h ⊢;omega
  rw[E];go_enter Tryz.func202,Tryz.ntmps202;go_wp2;go_ret;exact⟨rfl,(Below.refl _ _).alloc (Nat.le_refl _) _⟩
theorem Qxj:Qz1 206 isAl:=by
 refine⟨fun args w=>by kernel_rfl,?_⟩;intro c q w
 cases h:((kd c:Int)==3) with
 |true=>
  have E:isAl c=true:=by unfold isAl;simp at h;simp;left;omega
  rw[E];go_enter Tryz.func206,Tryz.ntmps206;go_wp2;go_ret
  exact⟨rfl,(Below.refl _ _).alloc (Nat.le_refl _) _⟩
 |false=>
  have E:isAl c=((kd c:Int)==4):=by unfold isAl;rw[Bool.eq_iff_iff];simp at h ⊢;omega
  rw[E];go_enter Tryz.func206,Tryz.ntmps206;go_wp2;go_ret;exact⟨rfl,(Below.refl _ _).alloc (Nat.le_refl _) _⟩
def RdCh (w:World)(v:Value)(cs:List C):Prop:=w.ownsRow 0 182 3 v cs.length (X5 0 cs)
theorem RdCh.below {w w':World}{v:Value}{cs:List C}(h:RdCh w v cs)(hb:Below w.heap.size w w'):RdCh w' v cs:=Qh h hb (Nat.le_refl _)
theorem RdCh.shape {w:World}{v:Value}{cs:List C}(h:RdCh w v cs):∃ao cap,v=.slice ao cs.length cap/\cs.length<=cap/\cap<=maxLen/\
  ∀k c,cs[k]?=some c-> ∃g,ao=some ⟨g,0,none⟩/\g<w.heap.size/\w.cell? ⟨g,k*3,none⟩=some (.int .i64 (kd c:Nat))/\w.cell? ⟨g,k*3+1,none⟩=some (.int .i32 (rn c:Nat))/\
   w.cell? ⟨g,k*3+2,none⟩=some (.int .i64 ((Qk (cs.take k)).length:Nat)):=by
 obtain⟨ao,cap,rfl,J,I,H⟩:=Qj h;refine⟨ao,cap,rfl,J,I,fun k c hc=> ?_⟩;have O:k<cs.length:=(List.getElem?_eq_some_iff.1 hc).1;obtain⟨g,rfl,T,K,E⟩:=H (by omega);obtain⟨c1,c2,c3⟩:=Hg cs 0 k c hc;exact⟨g,rfl,K,by rw[E _ (by omega)];exact c1,by rw[E _ (by omega)];exact c2,by rw[E _ (by omega),c3,Nat.zero_add]⟩
theorem Ei (F:Nat)(p:C->Bool)(hF:Qz1 F p)(v:Value)(cs:List C)(i:Nat)(w:World)(hr:RdCh w v cs)(hi:i<=cs.length):
  Calls Tryz.prog 156 #[v,.int .i64 (i:Nat),.func (.func F) #[] #[]] w fun e w'=>e=.returned (.int .i64 (i+Qp p (cs.drop i):Nat))/\Below w.heap.size w w':=by
 obtain⟨ao,cap,rfl,hnc,hcm,hsh⟩:=hr.shape;have HSH:=zq hsh;have HF:=zq hF.2;have hcf:=hF.1
 have hm:cs.length<=9223372036854775807:=by unfold maxLen at hcm;omega
 clear hsh hF hr hcm;go_enter Tryz.func156,Tryz.ntmps156;go_wp2_with fail;go_loopw [1] (fun v wr=> ∃m:Nat,i+m<=cs.length/\v=.int .i64 (i+m:Nat)/\Below w.heap.size w wr/\ ∀c∈(cs.drop i).take m,p c=true) (fun v _=>cs.length-(intOf v).toNat)
 case atStart=>exact⟨0,by omega,rfl,Below.refl _ _,by simp⟩
 case round=>
  obtain⟨m,hm2,rfl,hb,hall⟩:=hrel;have HALL:=zq hall;clear hall;by_cases hlt:i+m<cs.length
  ·obtain⟨c,hc⟩:∃c,cs[i+m]?=some c:=⟨cs[i+m],List.getElem?_eq_getElem hlt⟩
   obtain⟨g,rfl,hgs,e1,e2,e3⟩:=HSH.o _ c hc;rw[<-hb.cell (p:=⟨g,_,none⟩) hgs]at e1 e2 e3;have HC:=zq hc;have hz:=hb.size;clear hc HSH
   cases hp:p c with
   |true=>
    have HP:=zq hp;clear hp;go_wp2_with (refine(HF.o c _ _).mono ?_;rintro e w' ⟨rfl,hb2⟩;rw[HP.o]);refine⟨⟨m+1,by omega,by go_num,hb.trans (hb2.mono hz),?_⟩,by simp[intOf];omega⟩;intro d hd;rw[List.take_add_one,List.getElem?_drop,HC.o]at hd;simp at hd;rcases hd with hd|rfl
    ·exact HALL.o d hd
    ·exact HP.o
   |false=>
    have HP:=zq hp;clear hp;go_wp2_with (refine(HF.o c _ _).mono ?_;rintro e w' ⟨rfl,hb2⟩;rw[HP.o]);go_ret;have hrl:=S9 p (cs.drop i) m (by simp;omega) HALL.o (fun d hd=>by rw[List.getElem?_drop,HC.o]at hd;cases hd;exact HP.o)
    exact⟨Qx4 (by rw[hrl]<;>omega),hb.trans (hb2.mono hz)⟩
  ·go_wp2
   go_ret;have hrl:=S9 p (cs.drop i) m (by simp;omega) HALL.o (fun d hd=>by rw[List.getElem?_drop,List.getElem?_eq_none (by omega)]at hd;cases hd)
   exact⟨Qx4 (by rw[hrl]<;>omega),hb⟩
theorem Qx8 {a b:ByteArray}(h:a=b):Ending.returned (.string a)=.returned (.string b):=by rw[h]
theorem Cy (s:ByteArray)(v:Value)(i j:Nat)(w:World)(hr:RdCh w v (Qz s.data.toList))(hij:i<j)(hj:j<=(Qz s.data.toList).length)(_hs:s.size<=67108864):
  Calls Tryz.prog 203 #[.string s,v,.int .i64 (i:Nat),.int .i64 (j:Nat)] w fun e w'=>e=.returned (.string ⟨(Qk (((Qz s.data.toList).drop i).take (j-i))).toArray⟩)/\ ∃n,w'=w.drewN n:=by
 obtain⟨ao,cap,rfl,hnc,hcm,hsh⟩:=hr.shape
 have hm:(Qz s.data.toList).length<=9223372036854775807:=by unfold maxLen at hcm;omega
 obtain⟨c,hc⟩:∃c,(Qz s.data.toList)[i]?=some c:=⟨_,List.getElem?_eq_getElem (by omega)⟩;obtain⟨g,rfl,hgs,e1,e2,e3⟩:=hsh _ c hc;have M:=zq (Fk s.data.toList i j (by omega));have T:=zq (Y1 s.data.toList);have b1:=Ve (Qz s.data.toList) i;have b2:=Ve (Qz s.data.toList) j;rw[T.o,<-Lib.size_eq]at b1 b2
 have b3:(Qk ((Qz s.data.toList).take i)).length<=(Qk ((Qz s.data.toList).take j)).length:=by
  have:=Ve ((Qz s.data.toList).take j) i;rw[List.take_take,Nat.min_eq_left (by omega)]at this;exact this
 clear hcm hr hc;by_cases hlt:j<(Qz s.data.toList).length
 ·obtain⟨d,hd⟩:∃d,(Qz s.data.toList)[j]?=some d:=⟨_,List.getElem?_eq_getElem hlt⟩
  obtain⟨g',hg',_,d1,d2,d3⟩:=hsh _ d hd
  cases hg'
  clear hsh hd T;generalize (Qk ((Qz s.data.toList).take i)).length=A at*;generalize (Qk ((Qz s.data.toList).take j)).length=B at*;generalize Qk (((Qz s.data.toList).drop i).take (j-i))=Z at*;generalize (Qz s.data.toList).length=N at*;go_enter Tryz.func203,Tryz.ntmps203;go_wp2;go_quiet (fail);go_wp2;go_ret;exact⟨Qx8 (by rw[Lib.extract_eq,M.o]),_,rfl⟩
 ·have hjn:j=(Qz s.data.toList).length:=by omega
  have M2:Hid (s.extract (Qk ((Qz s.data.toList).take i)).length s.size=⟨(Qk (((Qz s.data.toList).drop i).take (j-i))).toArray⟩):=by
   show _=_;have h1:=M.o;rw[hjn,List.take_length,T.o,<-Lib.size_eq]at h1;rw[Lib.extract_eq,hjn,<-h1]
  clear hsh M T hjn;generalize (Qk ((Qz s.data.toList).take i)).length=A at*;generalize (Qk ((Qz s.data.toList).take j)).length=B at*;generalize Qk (((Qz s.data.toList).drop i).take (j-i))=Z at*;generalize (Qz s.data.toList).length=N at*;go_enter Tryz.func203,Tryz.ntmps203;go_wp2;go_ret;exact⟨Qx8 M2.o,0,rfl⟩
def Nr (c:C):Prop:=kd c=5->rn c<128->c.2=[(rn c).toUInt8]
theorem Ds:∀r:Fin 128,Utf8.encode (r.val:Int)=⟨#[r.val.toUInt8]⟩:=by decide+kernel
theorem Qwn (c:C)(w:World)(hk:kd c=5)(hc:Nr c):
  Calls Tryz.prog 207 #[.int .i32 (rn c:Nat)] w fun e w'=>e=.returned (.string ⟨(Z1 c).toArray⟩)/\w=w':=by
 have h5:rn c=0x2212\/rn c=0xd7\/rn c<128:=by
  unfold kd at hk;unfold rn
  cases hv:c.1 with
  |none=>rw[hv]at hk;simp at hk
  |some v=>
   rw[hv]at hk;simp only at hk ⊢;unfold kindOf at hk
   repeat' split at hk
   all_goals omega
 by_cases h1:rn c=0x2212
 ·have hs:Z1 c=[45]:=by unfold Z1;rw[if_pos h1]
  rw[hs,h1];clear hs h1 h5 hc hk;go_enter Tryz.func207,Tryz.ntmps207;go_wp2;go_ret;exact⟨rfl,rfl⟩
 by_cases h2:rn c=0xd7
 ·have hs:Z1 c=[42]:=by unfold Z1;rw[if_neg h1,if_pos h2]
  rw[hs,h2];clear hs h1 h2 h5 hc hk;go_enter Tryz.func207,Tryz.ntmps207;go_wp2;go_ret;exact⟨rfl,rfl⟩
 have h3:rn c<128:=by omega
 have hs:Z1 c=[(rn c).toUInt8]:=by unfold Z1;rw[if_neg h1,if_neg h2,hc hk h3]
 have he:=Ds ⟨rn c,h3⟩;simp only at he;rw[hs]
 have n1:((rn c:Int)==8722)=false:=by simp;omega
 have n2:((rn c:Int)==215)=false:=by simp;omega
 have HE:=zq he;clear hs h1 h2 h5 hc hk he;go_enter Tryz.func207,Tryz.ntmps207;go_wp2;go_ret;exact⟨by rw[HE.o];rfl,rfl⟩
def Xh (cs:List C)(i:Nat)(c:C):Nat×Qx×Nat×Nat:=
 if kd c=0 then (0,[],i,12)
 else if kd c=3 then (1,Qk ((cs.drop i).take (Qp Qd (cs.drop i))),if Ju (Qk ((cs.drop i).take (Qp Qd (cs.drop i)))) then (i,7) else (i+Qp Qd (cs.drop i),0))
 else if kd c=4 then (2,Qk ((cs.drop i).take (Qp isAl (cs.drop i))),if 32<(Qk ((cs.drop i).take (Qp isAl (cs.drop i)))).length then (i,17) else (i+Qp isAl (cs.drop i),0))
 else if kd c=5 then (3,Z1 c,i+1,0)
 else (0,[],i,13)
def Sz (r:Nat×Qx×Nat×Nat)(i:Nat)(w:World)(e:Ending)(w':World):Prop:=
 e=.returned (.tuple #[.agg #[.int .i64 (r.1:Nat),.string ⟨r.2.1.toArray⟩,.int .i64 (i+1:Nat)],.int .i64 (r.2.2.1:Nat),.int .i64 (r.2.2.2:Nat)])/\Below w.heap.size w w'
theorem Jm {r:Nat×Qx×Nat×Nat}{i:Nat}{w w':World}(a b c d e:Value)(ha:a=.int .i64 (r.1:Nat))(hb:b=.string ⟨r.2.1.toArray⟩)(hc:c=.int .i64 (i+1:Nat))(hd:d=.int .i64 (r.2.2.1:Nat))
  (he:e=.int .i64 (r.2.2.2:Nat)) (hw:Below w.heap.size w w'):Sz r i w (.returned (.tuple #[.agg #[a,b,c],d,e])) w':=by
 subst ha hb hc hd he;exact⟨rfl,hw⟩
theorem A6 (s:ByteArray)(v:Value)(cs:List C)(i:Nat)(c:C)(w:World)(hr:RdCh w v cs)(hc:cs[i]?=some c)(hn:cs.length<=67108864)(hk:kd c=0\/kd c=6\/kd c=5)(hmk:Nr c):
  Calls Tryz.prog 158 #[.string s,v,.int .i64 (i:Nat)] w (Sz (Xh cs i c) i w):=by
 obtain⟨ao,cap,rfl,hnc,hcm,hsh⟩:=hr.shape;obtain⟨g,rfl,hgs,e1,e2,e3⟩:=hsh _ c hc;have hlt:i<cs.length:=(List.getElem?_eq_some_iff.1 hc).1;clear hsh hr hc hcm;rcases hk with hk|hk|hk
 ·have hres:Xh cs i c=(0,[],i,12):=by unfold Xh;rw[if_pos hk]
  rw[hres];rw[hk]at e1;clear hres hk;go_enter Tryz.func158,Tryz.ntmps158;go_wp2;refine bodyPost_ret (by simp[results,Tryz.results158,go_sem];first|rfl|exact⟨rfl,rfl⟩|exact⟨rfl,rfl,rfl⟩) rfl (Jm _ _ _ _ _ rfl rfl (by first|rfl|simp) rfl rfl ?_);go_grown
 ·have hres:Xh cs i c=(0,[],i,13):=by unfold Xh;simp[hk]
  rw[hres];rw[hk]at e1;clear hres hk;go_enter Tryz.func158,Tryz.ntmps158;go_wp2;refine bodyPost_ret (by simp[results,Tryz.results158,go_sem];first|rfl|exact⟨rfl,rfl⟩|exact⟨rfl,rfl,rfl⟩) rfl (Jm _ _ _ _ _ rfl rfl (by first|rfl|simp) rfl rfl ?_);go_grown
 ·have hres:Xh cs i c=(3,Z1 c,i+1,0):=by unfold Xh;simp[hk]
  have HK:=zq hk;rw[hres];rw[hk]at e1;clear hres hk;go_enter Tryz.func158,Tryz.ntmps158;go_wp2_with (go_at_call 207;refine(Qwn c _ HK.o hmk).mono ?_;rintro e w' ⟨rfl,rfl⟩);refine bodyPost_ret (by simp[results,Tryz.results158,go_sem];first|rfl|exact⟨rfl,rfl⟩|exact⟨rfl,rfl,rfl⟩) rfl (Jm _ _ _ _ _ rfl rfl (by first|rfl|simp) (by first|rfl|simp) rfl ?_);go_grown
end Go.Proofs.YtgfmiladfeoldaaGreatDoor
