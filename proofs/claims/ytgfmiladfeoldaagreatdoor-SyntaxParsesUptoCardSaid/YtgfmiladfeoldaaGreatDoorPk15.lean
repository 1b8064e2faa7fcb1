/- Joined texts of this claim's proof: RefNum4, DecT, DecL, GrpP. -/
import Derived.Test.YtgfmiladfeoldaaGreatDoorPk1
import Derived.Test.YtgfmiladfeoldaaGreatDoorPk14
import Derived.Laws.BytesString
import Derived.Test.YtgfmiladfeoldaaGreatDoorPk13
set_option linter.unusedSimpArgs false
set_option linter.unusedVariables false
set_option maxRecDepth 100000
set_option maxHeartbeats 16000000
namespace Go.Proofs.YtgfmiladfeoldaaGreatDoor
open Go.RowKit LexP NumP
def Qr (l:Qx):List Value:=l.map fun c=> .int .u8 (c.toNat:Nat)
theorem Q5 (a b:Qx):Qr (a++b)=Qr a++Qr b:=by simp[Qr]
theorem Tryz.infoU8:(Tryz.prog.info? 5).map (fun i=>(i.zero,i.size,i.bytes))=some (some (.int .u8 0),1,1):=by kernel_rfl
def OwnB (B:Nat)(w:World)(v:Value)(ds:Qx):Prop:=w.ownsRow B 5 1 v ds.length (Qr ds)
theorem Qk5:∀(l:Qx) (s:ByteArray),(l.map fun c=>((c.toNat:Nat):Int)).foldl (fun r n=>r.push (UInt8.ofNat n.toNat)) s=⟨s.data++l.toArray⟩:=by
 intro l
 induction l with
 |nil=>intro s;simp
 |cons c l ih=>
  intro s;simp only[List.map_cons,List.foldl_cons,Int.toNat_natCast,UInt8.ofNat_toNat];rw[ih];show (⟨s.data.push c++l.toArray⟩:ByteArray)=_;congr 1;simp
theorem Vw {B:Nat}{w:World}{v:Value}{l:Qx}(h:OwnB B w v l):(convert 88 9 v).run Tryz.prog w=.ok (.string ⟨l.toArray⟩) w:=by
 rcases ownsRow_open h with ⟨rfl,E,K⟩|⟨g,I,rfl,-,-,-,-,-⟩
 ·rw[run_convert_bytes_string w _ _ 5 none 0 0 Tryz.underlying88 Tryz.underlying5 Tryz.underlying9]
  obtain rfl:l=[]:=List.eq_nil_of_length_eq_zero E;rfl
 ·rw[run_convert_bytes_string w _ _ 5 _ _ _ Tryz.underlying88 Tryz.underlying5 Tryz.underlying9]
  have J:=h.cells (g:=g) rfl;have H:=run_loadCells_list (P:=Tryz.prog) (w:=w) ⟨g,0,none⟩ (Qr l) J
  have e:Qr l=(l.map fun c=>((c.toNat:Nat):Int)).map (Value.int .u8):=by simp[Qr]
  have E:(Qr l).length=l.length:=by simp[Qr]
  rw[E,e]at H;rw[run_bytesToString w ⟨g,0,none⟩ l.length I _ H,Qk5];congr 2;simp
theorem Vu (v:Value)(h:v.oneCell'=true):∀u∈[v],u.oneCell'=true:=by
 intro u E;simp only[List.mem_singleton]at E;subst E;exact h
def Qml (t:Qx)(w:World)(e:Ending)(w':World):Prop:=
 (Xr t=true/\e=.returned (.tuple #[.slice none 0 0,.int .i64 7])/\Below w.heap.size w w')\/(Xr t=false/\C7 (numD (t.filter Qu)) w e w')
def Qzd (t:Qx)(w:World)(lv i:Value)(wr:World):Prop:=
 ∃k,k<=t.length/\i=.int .i64 (k:Nat)/\OwnB w.heap.size wr lv ((t.take k).filter Qu)/\Below w.heap.size w wr/\ ∀j,j<k->We t j=false
theorem Md (s:ByteArray)(w:World)(hs:s.size<=1048576)(hr:Je s.data.toList)(h0:∃c,s.data.toList[0]?=some c/\Qu c=true):
  Calls Tryz.prog 87 #[.string s] w (Qml s.data.toList w):=by
 obtain⟨i0,hi,hz0,hz1,hz2⟩:=info_parts Tryz.infoU8;have HR:=zq hr;have H0:=zq h0;have hsz:=zq (Lib.size_eq s);clear hr h0;go_enter Tryz.func87,Tryz.ntmps87;go_wp2_with fail;go_loopw [4,5] (fun lv i wr=>Qzd s.data.toList w lv i wr) (fun _ i _=>s.size-(intOf i).toNat)
 case atStart=>exact⟨0,Nat.zero_le _,rfl,World.ownsRow_nil _ _ _ _,Below.refl _ _,fun j h=>absurd h (Nat.not_lt_zero _)⟩
 case round=>
  obtain⟨k,hk,rfl,hown,hb,hgood⟩:=hrel;have hzz:=hb.size
  have hfl:((s.data.toList.take k).filter Qu).length<=k:=by
   have h1:=List.length_filter_le Qu (s.data.toList.take k);have h2:=List.length_take_le k s.data.toList;omega
  rw[<-hsz.o]at hk;have HG:=zq hgood;clear hgood;by_cases hlt:k<s.size
  ·have hlt':k<s.data.toList.length:=by have:=hsz.o;omega
   have hlen:s.data.toList.length=s.size:=hsz.o.symm;have e2:s.data.toList[k]=s[k]:=rfl;have hck:=HR.o s.data.toList[k] (List.getElem_mem hlt');rw[e2]at hck
   have hi1:(0:Int)<=(k:Int):=by omega
   have hp1:((k:Int)+1).toNat=k+1:=by omega
   by_cases hdg:Qu s[k]=true
   ·have FIN:Hid (∀(v3:Value) (w3:World),w3.ownsRow w.heap.size 5 1 v3 (((s.data.toList.take k).filter Qu).length+1) (Qr ((s.data.toList.take k).filter Qu)++[.int .u8 s[k].toNat])->Below w.heap.size w w3->Qzd s.data.toList w v3 (.int .i64 (k+1)) w3):=by
     intro v3 w3 ho hb3
     have e:(s.data.toList.take (k+1)).filter Qu=(s.data.toList.take k).filter Qu++[s[k]]:=by
      rw[List.take_succ_eq_append_getElem hlt',List.filter_append,e2];simp[hdg]
     refine⟨k+1,by omega,by go_num,?_,hb3,fun j hj=> ?_⟩
     ·show World.ownsRow _ _ _ _ _ _ _
      rw[e,Q5,List.length_append];exact ho
     ·rcases Nat.lt_succ_iff_lt_or_eq.1 hj with h|rfl
      ·exact HG.o j h
      ·simp only[We,Bool.and_eq_false_iff]
       left;rw[List.getElem?_eq_getElem hlt',e2];simp only[beq_eq_false_iff_ne,ne_eq,Option.some.injEq];intro h;rw[h]at hdg;exact absurd hdg (by decide)
    have hd48:48<=s[k].toNat/\s[k].toNat<=57:=by simpa [Qu] using hdg
    obtain⟨hd1,hd2⟩:=hd48;clear e2 hck hdg hlen;by_cases hA:k=0
    ·have hC:=trivial;have hD:=trivial
     have f1: ¬(0:Int)<(k:Int):=by omega
     have f1b:decide ((0:Int)<(k:Int))=false:=decide_eq_false f1
     have f1c: ¬0<k:=by omega
     have f1d:decide (0<k)=false:=decide_eq_false f1c;have HA:=zq hA;clear hA;clear hC hD;go_wp2_with (at_builtin;refine wpList_append_own _ rfl _ _ 88 rfl w.heap.size 5 i0 (.int .u8 0) 1 1 Tryz.underlying88 hi hz0 hz1 hz2 rfl (by decide) _ _ _ rfl (World.ownsRow.alloc hown _) ⟨wr.heap.size,0,none⟩ 1 1 [.int .u8 s[k].toNat] rfl rfl (Qb _ _ _ _ rfl) (Vu _ rfl) (by unfold maxLen;omega) (by omega) (by simp;omega) ?_);intro v3 w3 hown3 hgrow3 _;have HF:=zq (FIN.o v3 w3 hown3 (Below.grown (hb.alloc hzz _) hgrow3 (by simp;omega) (fun q hq=>(World.ownsRow.lt hown q hq).1)));clear hown3 hgrow3;go_wp2_with fail
     first|exact⟨HF.o,by simp[intOf]<;>omega⟩|exact⟨by (repeat apply Exists.intro);exact⟨HF.o,rfl⟩,by simp[intOf]<;>omega⟩
    by_cases hB:s.size<=k+1
    ·have hC:=trivial;have hD:=trivial
     have f1:(0:Int)<(k:Int):=by omega
     have f2: ¬(k:Int)+1<(s.size:Int):=by omega
     clear hC hD;go_wp2_with (at_builtin;refine wpList_append_own _ rfl _ _ 88 rfl w.heap.size 5 i0 (.int .u8 0) 1 1 Tryz.underlying88 hi hz0 hz1 hz2 rfl (by decide) _ _ _ rfl (World.ownsRow.alloc hown _) ⟨wr.heap.size,0,none⟩ 1 1 [.int .u8 s[k].toNat] rfl rfl (Qb _ _ _ _ rfl) (Vu _ rfl) (by unfold maxLen;omega) (by omega) (by simp;omega) ?_);intro v3 w3 hown3 hgrow3 _;have HF:=zq (FIN.o v3 w3 hown3 (Below.grown (hb.alloc hzz _) hgrow3 (by simp;omega) (fun q hq=>(World.ownsRow.lt hown q hq).1)));clear hown3 hgrow3;go_wp2_with fail
     first|exact⟨HF.o,by simp[intOf]<;>omega⟩|exact⟨by (repeat apply Exists.intro);exact⟨HF.o,rfl⟩,by simp[intOf]<;>omega⟩
    by_cases hC:(s[k-1]'(by omega)).toNat=95
    ·have hD:=trivial
     have f1:(0:Int)<(k:Int):=by omega
     have f2:(k:Int)+1<(s.size:Int):=by omega
     have f3:(((s[k-1]'(by omega)).toNat:Int) !=95)=false:=by simp[hC]
     clear hC hD;go_wp2_with (at_builtin;refine wpList_append_own _ rfl _ _ 88 rfl w.heap.size 5 i0 (.int .u8 0) 1 1 Tryz.underlying88 hi hz0 hz1 hz2 rfl (by decide) _ _ _ rfl (World.ownsRow.alloc hown _) ⟨wr.heap.size,0,none⟩ 1 1 [.int .u8 s[k].toNat] rfl rfl (Qb _ _ _ _ rfl) (Vu _ rfl) (by unfold maxLen;omega) (by omega) (by simp;omega) ?_);intro v3 w3 hown3 hgrow3 _;have HF:=zq (FIN.o v3 w3 hown3 (Below.grown (hb.alloc hzz _) hgrow3 (by simp;omega) (fun q hq=>(World.ownsRow.lt hown q hq).1)));clear hown3 hgrow3;go_wp2_with fail
     first|exact⟨HF.o,by simp[intOf]<;>omega⟩|exact⟨by (repeat apply Exists.intro);exact⟨HF.o,rfl⟩,by simp[intOf]<;>omega⟩
    by_cases hD:(s[k+1]'(by omega)).toNat=95
    ·skip
     have f1:(0:Int)<(k:Int):=by omega
     have f2:(k:Int)+1<(s.size:Int):=by omega
     have f3:(((s[k-1]'(by omega)).toNat:Int) !=95)=true:=by simp[hC];omega
     have f4:(((s[k+1]'(by omega)).toNat:Int) !=95)=false:=by simp[hD]
     clear hC hD;go_wp2_with (at_builtin;refine wpList_append_own _ rfl _ _ 88 rfl w.heap.size 5 i0 (.int .u8 0) 1 1 Tryz.underlying88 hi hz0 hz1 hz2 rfl (by decide) _ _ _ rfl (World.ownsRow.alloc hown _) ⟨wr.heap.size,0,none⟩ 1 1 [.int .u8 s[k].toNat] rfl rfl (Qb _ _ _ _ rfl) (Vu _ rfl) (by unfold maxLen;omega) (by omega) (by simp;omega) ?_);intro v3 w3 hown3 hgrow3 _;have HF:=zq (FIN.o v3 w3 hown3 (Below.grown (hb.alloc hzz _) hgrow3 (by simp;omega) (fun q hq=>(World.ownsRow.lt hown q hq).1)));clear hown3 hgrow3;go_wp2_with fail
     first|exact⟨HF.o,by simp[intOf]<;>omega⟩|exact⟨by (repeat apply Exists.intro);exact⟨HF.o,rfl⟩,by simp[intOf]<;>omega⟩
    ·skip
     have f1:(0:Int)<(k:Int):=by omega
     have f2:(k:Int)+1<(s.size:Int):=by omega
     have f3:(((s[k-1]'(by omega)).toNat:Int) !=95)=true:=by simp[hC];omega
     have f4:(((s[k+1]'(by omega)).toNat:Int) !=95)=true:=by simp[hD];omega
     clear hC hD;go_wp2_with (at_builtin;refine wpList_append_own _ rfl _ _ 88 rfl w.heap.size 5 i0 (.int .u8 0) 1 1 Tryz.underlying88 hi hz0 hz1 hz2 rfl (by decide) _ _ _ rfl (World.ownsRow.alloc hown _) ⟨wr.heap.size,0,none⟩ 1 1 [.int .u8 s[k].toNat] rfl rfl (Qb _ _ _ _ rfl) (Vu _ rfl) (by unfold maxLen;omega) (by omega) (by simp;omega) ?_);intro v3 w3 hown3 hgrow3 _;have HF:=zq (FIN.o v3 w3 hown3 (Below.grown (hb.alloc hzz _) hgrow3 (by simp;omega) (fun q hq=>(World.ownsRow.lt hown q hq).1)));clear hown3 hgrow3;go_wp2_with fail
     first|exact⟨HF.o,by simp[intOf]<;>omega⟩|exact⟨by (repeat apply Exists.intro);exact⟨HF.o,rfl⟩,by simp[intOf]<;>omega⟩
   ·have h95:s[k]=95:=hck.resolve_left hdg
    have h95n:s[k].toNat=95:=by rw[h95];rfl
    have FIU:Hid (We s.data.toList k=false->Qzd s.data.toList w u4 (.int .i64 (k+1)) wr):=by
     intro hu
     have e:(s.data.toList.take (k+1)).filter Qu=(s.data.toList.take k).filter Qu:=by
      rw[List.take_succ_eq_append_getElem hlt',List.filter_append,e2];simp[hdg]
     refine⟨k+1,by omega,by go_num,?_,hb,fun j hj=> ?_⟩
     ·rw[e];exact hown
     ·rcases Nat.lt_succ_iff_lt_or_eq.1 hj with h|rfl
      ·exact HG.o j h
      ·exact hu
    have FBU:Hid ((k==0||decide (s.data.toList.length<=k+1)||s.data.toList[k-1]?==some 95||s.data.toList[k+1]?==some 95)=true->Xr s.data.toList=true):=by
     intro hu;rw[Jj];refine⟨k,hlt',?_⟩;unfold We;rw[hu,List.getElem?_eq_getElem hlt',e2,h95];rfl
    have hd1:58<=s[k].toNat:=by omega
    have hd2:((s[k].toNat:Int) !=95)=false:=by simp[h95n]
    have hd3:decide ((s[k].toNat:Int)<=57)=false:=decide_eq_false (by omega);clear e2 hck hdg h95 h95n;by_cases hA:k=0
    ·have hC:=trivial;have hD:=trivial
     have f1: ¬(0:Int)<(k:Int):=by omega
     have f1b:decide ((0:Int)<(k:Int))=false:=decide_eq_false f1
     have f1c: ¬0<k:=by omega
     have f1d:decide (0<k)=false:=decide_eq_false f1c;have HA:=zq hA;clear hA;have HU:Hid (Xr s.data.toList=true):=FBU.o (by rw[show (k==0)=true from by simp;exact HA.o];simp);clear hC hD;go_wp2_with fail;go_ret2;exact .inl ⟨HU.o,rfl,hb⟩
    by_cases hB:s.size<=k+1
    ·have hC:=trivial;have hD:=trivial
     have f1:(0:Int)<(k:Int):=by omega
     have f2: ¬(k:Int)+1<(s.size:Int):=by omega
     have HU:Hid (Xr s.data.toList=true):=FBU.o (by rw[show decide (s.data.toList.length<=k+1)=true from decide_eq_true (by omega)];simp);clear hC hD;go_wp2_with fail;go_ret2;exact .inl ⟨HU.o,rfl,hb⟩
    by_cases hC:(s[k-1]'(by omega)).toNat=95
    ·have hD:=trivial
     have f1:(0:Int)<(k:Int):=by omega
     have f2:(k:Int)+1<(s.size:Int):=by omega
     have f3:(((s[k-1]'(by omega)).toNat:Int) !=95)=false:=by simp[hC]
     have HU:Hid (Xr s.data.toList=true):=FBU.o (by rw[show (s.data.toList[k-1]?==some 95)=true from by rw[List.getElem?_eq_getElem (by omega)];simp only[beq_iff_eq,Option.some.injEq];exact UInt8.toNat_inj.1 hC];simp);clear hC hD;go_wp2_with fail;go_ret2;exact .inl ⟨HU.o,rfl,hb⟩
    by_cases hD:(s[k+1]'(by omega)).toNat=95
    ·skip
     have f1:(0:Int)<(k:Int):=by omega
     have f2:(k:Int)+1<(s.size:Int):=by omega
     have f3:(((s[k-1]'(by omega)).toNat:Int) !=95)=true:=by simp[hC];omega
     have f4:(((s[k+1]'(by omega)).toNat:Int) !=95)=false:=by simp[hD]
     have HU:Hid (Xr s.data.toList=true):=FBU.o (by rw[show (s.data.toList[k+1]?==some 95)=true from by rw[List.getElem?_eq_getElem (by omega)];simp only[beq_iff_eq,Option.some.injEq];exact UInt8.toNat_inj.1 hD];simp);clear hC hD;go_wp2_with fail;go_ret2;exact .inl ⟨HU.o,rfl,hb⟩
    ·skip
     have f1:(0:Int)<(k:Int):=by omega
     have f2:(k:Int)+1<(s.size:Int):=by omega
     have f3:(((s[k-1]'(by omega)).toNat:Int) !=95)=true:=by simp[hC];omega
     have f4:(((s[k+1]'(by omega)).toNat:Int) !=95)=true:=by simp[hD];omega
     have HU:Hid (Qzd s.data.toList w u4 (.int .i64 (k+1)) wr):=FIU.o (by
      simp only[We,Bool.and_eq_false_iff,Bool.or_eq_false_iff];right;refine⟨⟨⟨by simp;omega,by simp;omega⟩,?_⟩,?_⟩
      ·rw[List.getElem?_eq_getElem (by omega)];simp only[beq_eq_false_iff_ne,ne_eq,Option.some.injEq];intro h;exact hC (by have:=congrArg UInt8.toNat h;exact this)
      ·rw[List.getElem?_eq_getElem (by omega)];simp only[beq_eq_false_iff_ne,ne_eq,Option.some.injEq];intro h;exact hD (by have:=congrArg UInt8.toNat h;exact this))
     clear hC hD;go_wp2_with fail
     first|exact⟨HU.o,by simp[intOf]<;>omega⟩|exact⟨by (repeat apply Exists.intro);exact⟨HU.o,rfl⟩,by simp[intOf]<;>omega⟩
  ·have hkn:s.data.toList.take k=s.data.toList:=List.take_of_length_le (by have:=hsz.o;omega)
   rw[hkn]at hown
   have hgd:Hid (Xr s.data.toList=false):=by
    show _=_
    cases hab:Xr s.data.toList with
    |false=>rfl
    |true=>
     obtain⟨j,hj1,hj2⟩:=(Jj _).1 hab;have:=HG.o j (by have:=hsz.o;omega);rw[hj2]at this;cases this
   have hcv:=Vw (B:=w.heap.size) (w:=wr) (v:=u4) hown
   have hne:(⟨(s.data.toList.filter Qu).toArray⟩:ByteArray).toList.isEmpty=false:=by
    obtain⟨c,hc1,hc2⟩:=H0.o;rw[Lib.toList_data];simp only[List.toList_toArray];have:c∈s.data.toList.filter Qu:=List.mem_filter.2 ⟨List.mem_of_getElem? hc1,hc2⟩
    cases hf:s.data.toList.filter Qu with
    |nil=>rw[hf]at this;cases this
    |cons _ _=>rfl
   have hfs:(⟨(s.data.toList.filter Qu).toArray⟩:ByteArray).size<=1048576:=by
    rw[Lib.size_eq];have:=List.length_filter_le Qu s.data.toList;rw[<-hsz.o]at this;simp only[List.toList_toArray];omega
   have hfd:Hid (∀c∈(⟨(s.data.toList.filter Qu).toArray⟩:ByteArray).data.toList,Qu c=true):=by
    intro c hc;simp only[List.toList_toArray]at hc;exact(List.mem_filter.1 hc).2
   have HNE:=zq hne;clear hkn hne;go_wp2_with fail;refine(Qkm _ wr hfs HNE.o hfd.o).mono ?_;rintro e w2 ⟨v2,rfl,hown2,hb2⟩;have HO2:=zq hown2;have HB2:Hid (Below w.heap.size w w2):=hb.trans (hb2.mono hzz);clear hown2 hb2;go_wp2_with fail;go_ret2;exact .inr ⟨hgd.o,_,rfl,X4 HO2.o hzz,HB2.o⟩
open NatP
def Zf (n:Nat):Qx:=if n=0 then [48] else (dg n).map sgn
def Kj (n:Nat)(w:World)(e:Ending)(w':World):Prop:=e=.returned (.tuple #[.string ⟨(Zf n).toArray⟩,.int .i64 0])/\Below w.heap.size w w'
theorem Tryz.infoWs:(Tryz.prog.info? 59).map (fun i=>(i.zero,i.size,i.bytes))=some (some (.slice none 0 0),1,24):=by kernel_rfl
theorem WS.made (w:World)(h:4<w.heap.size):WS (w.alloc (.cells #[.int .i64 10,.int .i64 19,.int .u64 10000000000000000000,.slice none 0 0,.slice none 0 0] 216)) w.heap.size (.slice none 0 0) (.slice none 0 0) []:=
 ⟨heap_alloc_new w _,World.ownsRow_nil _ _ _ _,h⟩
theorem Mn (n:Nat):pad n 0=dg n:=by unfold pad;simp
theorem Qq9 (v:Value)(xs:List Nat)(w:World)(hs:SG w)(hv:Rd w v xs)(hl:(Qw xs).length<=12)(hl2:xs.length<=17179869184):
  Calls Tryz.prog 169 #[v,.int .i64 10] w (Kj (val xs) w):=by
 have HV:=zq hv;have HSG:=zq hs;obtain⟨X,hX⟩:=xq (Qw xs)
 have hXv:val X=val xs:=by rw[hX,Ql]
 have hsz:4<w.heap.size:=World.block_lt_of_cell? w _ (hs 0 (by omega));rw[<-hX]at hl;obtain⟨n,hn⟩:=xq X.length;rw[<-hn]at hl;have HX:=zq hX;have HXV:=zq hXv;have HN:=zq hn;clear hv hs hX hXv hn;by_cases h0:n=0
 ·have hb:((n:Int)==0)=true:=by simp[h0]
  have HZ:Hid (Zf (val xs)=[48]):=by
   have hX0:X=[]:=List.eq_nil_of_length_eq_zero (by rw[<-HN.o];exact h0);show _=_;rw[<-HXV.o,hX0];rfl
  clear h0;go_enter Tryz.func169,Tryz.ntmps169;go_wp2_with fail;refine(J8 _ xs _ HV.o (by omega)).mono ?_;rintro e w1 ⟨rfl,hB,hb1⟩;rw[<-HX.o,<-HN.o];have HB1:=zq hb1;clear hB hb1;go_wp2_with fail;go_ret2;exact⟨by rw[HZ.o];rfl,HB1.o⟩
 ·have hb:((n:Int)==0)=false:=by simp[h0]
  have hb12:decide (12<n)=false:=by simp;omega
  have hpos:val xs≠0:=fun e=>by
   have h1:(Qw xs).length=0:=by
    have:=Yy xs 0 (by rw[e];simp);omega
   rw[<-HX.o,<-HN.o]at h1;exact h0 h1
  have HD:Hid (Zf (val xs)=(pad (val X) 0).map sgn):=by
   show _=_;unfold Zf;rw[if_neg hpos,Mn,HXV.o]
  clear h0 hpos;go_enter Tryz.func169,Tryz.ntmps169;go_wp2_with fail;refine(J8 _ xs _ HV.o (by omega)).mono ?_;rintro e w1 ⟨rfl,hB,hb1⟩;rw[<-HX.o]at hB ⊢;have HB:=zq hB;have HB1:=zq hb1;rw[<-HN.o];clear hB hb1;go_wp2_with fail;refine(P8 _).mono ?_;rintro e w2 ⟨rfl,rfl⟩;go_wp2_with fail;have hsg1:=HSG.o.below HB1.o hsz;have hb2:=Qq w1 (.cells #[.int .i64 10,.int .i64 19,.int .u64 10000000000000000000,.slice none 0 0,.slice none 0 0] 216);have hsz1:4<w1.heap.size:=Nat.lt_of_lt_of_le hsz HB1.o.size;have HW:=zq (WS.made w1 hsz1);have HSG2:=zq (hsg1.below hb2 hsz1);have HR:=zq ((HB.o.whole (by rw[<-HN.o];omega)).below hb2);rw[<-HN.o]at HR;have HB2:Hid (Below w.heap.size w (w1.alloc (.cells #[.int .i64 10,.int .i64 19,.int .u64 10000000000000000000,.slice none 0 0,.slice none 0 0] 216))):=HB1.o.trans (hb2.mono HB1.o.size)
  have hlen:([]:Qx).length+(pad (NatP.val X) 0).length<=274877906944:=by
   have h1:NatP.val X<BB^n:=by rw[HN.o];exact Ym HB.o.2
   have:=Wq h1;rw[Mn];simp only[List.length_nil];omega
  have HLEN:=zq hlen;have hz1:=HB1.o.size;clear hsg1 hb2 hlen;refine(Sh 0 0 (Nat.le_refl _) w1.heap.size 0 _ (.slice none 0 0) (.slice none 0 0) X [] _ HW.o HSG2.o ⟨0,0,fun h=>by omega,fun i h=>by omega⟩ HR.o (fun q hq=>by cases hq;have:=HB.o.lt;exact⟨by show w.heap.size≠w1.heap.size;omega,by simp[Value.ownBlock]⟩) (by rw[<-HN.o];omega) HLEN.o).mono ?_;rintro e w3 ⟨ov,rfl,r1,r2,r3⟩;rw[List.nil_append,<-HD.o]at r1;have c4:=r1.cell.2.2.2.2.1;have htx:=Vw (B:=w1.heap.size+1) (w:=w3) (v:=ov) (l:=Zf (NatP.val xs)) r1.own;have HB3:Hid (Below w.heap.size w w3):=r2.to_below HB2.o HB2.o.size (by omega) (fun k hk=>by cases hk);clear r1 r2 r3;go_wp2_with fail;go_ret2;exact⟨rfl,HB3.o⟩
def Qzi (w:World)(R:Nat)(pb:Option Nat)(vs:List Value):Prop:=∀j v,vs[j]?=some v-> ∃bs,Rd w v bs/\val bs=UU^2^j/\bs.length<=274877906944/\2^j<=34359738368/\ ∀q,v.ownBlock=some q->R<q/\pb≠some q
structure PgMid (R:Nat) (w1:World) (wr:World) (i:Nat) (pv:Value) (vs:List Value):Prop where
 st:WS wr R pv (.slice none 0 0) []
 own:wr.ownsRow (R+1) 59 1 pv i vs
 all:Qzi wr R pv.ownBlock vs
 below:Below R w1 wr
structure PgSt (L R:Nat) (w1:World) (p:Value) (wr:World) (i:Nat) (pv:Value) (xs:List Nat) (vs:List Value):Prop extends PgMid R w1 wr i pv vs where
 rd:Fr (R+1) wr p xs
 ne:∀q,p.ownBlock=some q->pv.ownBlock≠some q
 vl:val xs=UU^2^i
 st2:Qw xs=xs
 len:xs.length<=2*L
theorem Qzi.wr {w w':World}{R:Nat}{pb pb':Option Nat}{vs:List Value}(h:Qzi w R pb vs)(hw:Wr R pb w w')(hm:Mv w pb pb'):Qzi w' R pb' vs:=fun j v hj=>by
 obtain⟨bs,H,K,I,J,E⟩:=h j v hj;refine⟨bs,H.wr hw (fun q hq=>⟨by have:=E q hq;omega,(E q hq).2⟩),K,I,J,fun q hq=>⟨(E q hq).1,fun e=> ?_⟩⟩;rcases hm q e with h|h
 ·exact(E q hq).2 h
 ·have:=H.lt hq;omega
theorem PgMid.below' {R:Nat}{w1 wr w2:World}{i:Nat}{pv:Value}{vs:List Value}(h:PgMid R w1 wr i pv vs)(hb:Below wr.heap.size wr w2):PgMid R w1 w2 i pv vs:=
 ⟨h.st.below hb,h.own.kept (row:=none) ⟨hb.os,hb.tape,hb.output,hb.size,fun k hk _=>hb.block k hk⟩ (by cases pv.ownBlock<;>simp),h.all.wr (Wr.of_below hb) (Mv.refl _ _),h.below.trans (hb.mono (Nat.le_of_lt h.st.lt))⟩
theorem PgSt.below' {L R:Nat}{w1 wr w2:World}{p:Value}{i:Nat}{pv:Value}{xs:List Nat}{vs:List Value}(h:PgSt L R w1 p wr i pv xs vs)(hb:Below wr.heap.size wr w2):PgSt L R w1 p w2 i pv xs vs:=
 ⟨h.toPgMid.below' hb,h.rd.below hb,h.ne,h.vl,h.st2,h.len⟩
theorem PgSt.push {L R:Nat}{w1 wr w2:World}{p:Value}{i gg cap:Nat}{pv:Value}{xs:List Nat}{vs:List Value}(h:PgSt L R w1 p wr i pv xs vs)(h1:xs.length<=274877906944)(h2:2^i<=34359738368)
  (hown:w2.ownsRow (R+1) 59 1 (.slice (some ⟨gg,0,none⟩) (i+1) cap) (i+1) (vs++[p])) (hg:wr.grownBy w2 pv.ownBlock) (hat:pv.ownBlock=some gg\/gg=wr.heap.size):
  PgMid R w1 (w2.setCell ⟨R,3,none⟩ (.slice (some ⟨gg,0,none⟩) (i+1) cap)) (i+1) (.slice (some ⟨gg,0,none⟩) (i+1) cap) (vs++[p]):=by
 have T:some R≠pv.ownBlock:=fun e=>by have:=h.own.lt R e.symm;omega
 have hb:=(hg.block R h.st.lt T).trans h.st.blk;have J:=heap_setCell_same w2 R 3 #[.int .i64 10,.int .i64 19,.int .u64 10000000000000000000,pv,.slice none 0 0] 216 (.slice (some ⟨gg,0,none⟩) (i+1) cap) hb;have H:Wr R pv.ownBlock wr (w2.setCell ⟨R,3,none⟩ (.slice (some ⟨gg,0,none⟩) (i+1) cap)):=(Wr.of_grown hg).trans (Mv.refl _ _) (Wr.of_set w2 3 _)
 have I:Mv wr pv.ownBlock (Value.ownBlock (.slice (some ⟨gg,0,none⟩) (i+1) cap)):=by
  intro k K
  cases K
  rcases hat with h|h
  ·exact .inl h
  ·exact .inr (Nat.le_of_eq h.symm)
 refine⟨⟨J.trans (by simp),World.ownsRow_nil _ _ _ _,h.st.big⟩,ownsRow_setCell_below hown (by simp) _,?_,H.to_below h.below (Nat.le_of_lt h.st.lt) (Nat.le_refl _) (fun k K=>by have:=h.own.lt k K;omega)⟩;intro j v E
 have Z:vs.length=i:=by have:=h.own.1;omega
 by_cases hji:j<vs.length
 ·rw[List.getElem?_append_left hji]at E
  exact h.all.wr H I j v E
 ·have U:j=i:=by
   have:=(List.getElem?_eq_some_iff.1 E).1;rw[List.length_append]at this;simp at this;omega
  subst U;rw[List.getElem?_append_right (by omega),Z]at E;simp at E;subst E;refine⟨xs,h.rd.1.wr H (fun q hq=>⟨by have:=h.rd.2 q hq;omega,h.ne q hq⟩),h.vl,h1,h2,fun q hq=>⟨by have:=h.rd.2 q hq;omega,fun e=> ?_⟩⟩;rcases I q e with O|O
  ·exact h.ne q hq O
  ·have:=h.rd.2 q hq;omega
theorem PgMid.pw {R:Nat}{w1 wr:World}{i:Nat}{pv:Value}{vs:List Value}(h:PgMid R w1 wr i pv vs):PW wr R (Value.ownBlock (.slice none 0 0)) pv i:=by
 have T:vs.length=i:=by have:=h.own.1;omega
 obtain⟨ao,H,e,K,J,I⟩:=Qj h.own;by_cases h0:0<i
 ·obtain⟨g,rfl,a1,a2,a3⟩:=I h0
  refine⟨g,H,fun _=>⟨e,K,J,a2,by omega,by simp[Value.ownBlock]⟩,fun j hj=> ?_⟩;have O:=a3 j (by omega)
  have E:j<vs.length:=by omega
  obtain⟨bs,b1,b2,b3,b4,b5⟩:=h.all j vs[j] (List.getElem?_eq_getElem E);refine⟨vs[j],bs,by rw[O,List.getElem?_eq_getElem E],b1,b2,b3,b4,fun q hq=>⟨by have:=b5 q hq;omega,by simp[Value.ownBlock]⟩⟩
 ·exact⟨0,0,fun h=>absurd h h0,fun j hj=>by omega⟩
def npow (R:Nat)(w:World):Nat:=lenOf ((w.cell? ⟨R,3,none⟩).getD (.bool false))
theorem PgMid.npow {R:Nat}{w1 wr:World}{i:Nat}{pv:Value}{vs:List Value}(h:PgMid R w1 wr i pv vs):npow R wr=i:=by
 unfold Go.Proofs.YtgfmiladfeoldaaGreatDoor.npow;rw[h.st.cell.2.2.2.1];exact Nz h.own
theorem PgSt.npow {L R:Nat}{w1 p:_}{wr:World}{i:Nat}{pv:Value}{xs:List Nat}{vs:List Value}(h:PgSt L R w1 p wr i pv xs vs):npow R wr=i:=h.toPgMid.npow
theorem Gj {N L i:Nat}(hN:N<BB^L)(h:UU^2^i<=N):2^i<2*L:=Nc (k:=2^i) hN (Nat.div_pos h (Nat.pow_pos P5))
theorem Qvb (v:Value)(xs:List Nat)(w:World)(hs:SG w)(hv:Rd w v xs)(hl:12<(Qw xs).length)(hl2:xs.length<=8589934592):
  Calls Tryz.prog 169 #[v,.int .i64 10] w (Kj (val xs) w):=by
 have HV:=zq hv;have HSG:=zq hs;obtain⟨X,hX⟩:=xq (Qw xs)
 have hXv:val X=val xs:=by rw[hX,Ql]
 have hXs:Qw X=X:=by rw[hX,Y0]
 have hsz:4<w.heap.size:=World.block_lt_of_cell? w _ (hs 0 (by omega))
 have hXl:X.length<=8589934592:=by rw[hX];exact Nat.le_trans (Qf xs) hl2
 rw[<-hX]at hl;obtain⟨n,hn⟩:=xq X.length;rw[<-hn]at hl hXl;have HX:=zq hX;have HXV:=zq hXv;have HN:=zq hn
 have hb:((n:Int)==0)=false:=by simp;omega
 have hb12:(12:Int)<(n:Int):=by omega
 have hpos:val xs≠0:=fun e=>by
  have:=Yy xs 0 (by rw[e];simp);rw[<-hX]at this;omega
 have HD:Hid (Zf (val xs)=(pad (val X) 0).map sgn):=by
  show _=_;unfold Zf;rw[if_neg hpos,Mn,hXv]
 clear hv hs hX hXv hn hpos hXs;go_enter Tryz.func169,Tryz.ntmps169;go_wp2_with fail;refine(J8 _ xs _ HV.o (by omega)).mono ?_;rintro e w1 ⟨rfl,hB,hb1⟩;rw[<-HX.o]at hB ⊢;have HB:=zq hB;have HB1:=zq hb1;rw[<-HN.o];clear hB hb1;go_wp2_with fail;refine(P8 _).mono ?_;rintro e w2 ⟨rfl,rfl⟩;go_wp2_with fail;have hsg1:=HSG.o.below HB1.o hsz;have hb2:=Qq w1 (.cells #[.int .i64 10,.int .i64 19,.int .u64 10000000000000000000,.slice none 0 0,.slice none 0 0] 216);have hsz1:4<w1.heap.size:=Nat.lt_of_lt_of_le hsz HB1.o.size;have HW:=WS.made w1 hsz1;have HSG2:=zq (hsg1);have HR:=zq (HB.o.whole (by rw[<-HN.o];omega));rw[<-HN.o]at HR;have hz1:=HB1.o.size;have hwl:w.heap.size<w1.heap.size:=HB.o.lt
 have HS0:Hid (PgSt n w1.heap.size w1 (.slice (some ⟨w1.heap.size+1,0,none⟩) 1 1) ((w1.alloc (.cells #[.int .i64 10,.int .i64 19,.int .u64 10000000000000000000,.slice none 0 0,.slice none 0 0] 216)).alloc (.cells #[.int .u64 10000000000000000000] 101)) 0 (.slice none 0 0) [10000000000000000000] []):=by
  have hb3:=Qq (w1.alloc (.cells #[.int .i64 10,.int .i64 19,.int .u64 10000000000000000000,.slice none 0 0,.slice none 0 0] 216)) (.cells #[.int .u64 10000000000000000000] 101)
  have hblk:Blk ((w1.alloc (.cells #[.int .i64 10,.int .i64 19,.int .u64 10000000000000000000,.slice none 0 0,.slice none 0 0] 216)).alloc (.cells #[.int .u64 10000000000000000000] 101)) (w1.heap.size+1) [10000000000000000000]:=by
   refine⟨?_,?_⟩
   ·have:=heap_alloc_new (w1.alloc (.cells #[.int .i64 10,.int .i64 19,.int .u64 10000000000000000000,.slice none 0 0,.slice none 0 0] 216)) (.cells #[.int .u64 10000000000000000000] 101)
    simp only[World.size_alloc]at this;exact this
   ·intro x hx;simp at hx;subst hx;unfold BB;omega
  refine⟨⟨HW.below hb3,World.ownsRow_nil _ _ _ _,fun j v h=>by simp at h,hb2.trans (hb3.mono (by simp))⟩,⟨hblk.whole (by simp),fun q hq=> ?_⟩,fun q _=>by simp[Value.ownBlock],by rw[Nat.pow_zero,Nat.pow_one];rfl,by rfl,by simp;omega⟩
  cases hq
  exact⟨Nat.le_refl _,by simp⟩
 have HNL:Hid (val xs<BB^n):=by
  show _<_;rw[<-HXV.o,HN.o];exact Ym HB.o.2
 have hlen:([]:Qx).length+(pad (NatP.val X) 0).length<=274877906944:=by
  have h1:NatP.val X<BB^n:=by rw[HXV.o];exact HNL.o
  have:=Wq h1;rw[Mn];simp only[List.length_nil];omega
 have HLEN:=zq hlen;obtain⟨R,hR⟩:=xq w1.heap.size;have HRE:=zq hR;clear hsg1 hb2 HW hlen hR;go_loopw [9] (fun p wr=> ∃i pv zs vs,PgSt n w1.heap.size w1 p wr i pv zs vs/\i<=64) (fun _ wr=>64-npow w1.heap.size wr)
 case atStart=>exact⟨0,_,_,_,HS0.o,by omega⟩
 clear HS0
 case round=>
  obtain⟨i,pv,zs,vs,hst,hi65⟩:=hrel;have HST:=zq hst;have hnp:=hst.npow;have HNP:=zq hnp;have HNL2:=HNL;obtain⟨zo,zcap,rfl,hzc1,hzc2,-⟩:=hst.rd.1.2;clear hst hnp hzc1 hzc2;by_cases hle:NatP.val zs<=NatP.val xs
  ·have hp2:2^i<2*n:=Gj HNL.o (by rw[<-HST.o.vl];exact hle)
   have hi64:i<64:=by
    have h1:2^i<2^36:=Nat.lt_of_lt_of_le hp2 (by omega);have:=(Nat.pow_lt_pow_iff_right (a:=2) (by omega)).1 h1;omega
   have hzl:zs.length<=n:=by
    have:=Yy zs n (Nat.lt_of_le_of_lt hle HNL.o);rw[HST.o.st2]at this;exact this
   have hcb:decide (cmpI (NatP.val zs) (NatP.val X)<=0)=true:=by
    rw[HXV.o];unfold cmpI;by_cases h1:NatP.val zs<NatP.val xs
    ·rw[if_pos h1];rfl
    ·rw[if_neg h1,if_neg (by omega)];rfl
   obtain⟨ci,hci⟩:=xq (cmpI (NatP.val zs) (NatP.val X));rw[<-hci]at hcb;have HCI:=zq hci
   have hcl:2^i<=34359738368:=by omega
   clear hle hp2 hci;go_wp2_with fail;refine(Va _ _ zs X _ HST.o.rd.1 (HR.o.below (HST.o.below.mono (by omega)))).mono ?_;rintro e w4 ⟨rfl,hb4⟩;rw[<-HCI.o];have HST4:=zq (HST.o.below' hb4);clear hb4;obtain⟨i0,hi,hk0,hk1,hk2⟩:=info_parts Tryz.infoWs;have HST5:=zq (HST4.o.below' (Qq w4 (.cells #[.slice zo zs.length zcap] 59)));have HLT:Hid (w1.heap.size<(w4.alloc (.cells #[.slice zo zs.length zcap] 59)).heap.size):=HST5.o.st.lt
   have HNE:Hid (some w1.heap.size≠pv.ownBlock):=fun e=>by have:=HST5.o.own.lt w1.heap.size e.symm;omega
   have c3:=HST4.o.st.cell.2.2.2.1;have ca3:=HST5.o.st.cell.2.2.2.1;have ca4:=frozen_of_row _ w1.heap.size 3 _ _ HST5.o.st.blk;have CA3:=zq ca3;have CA4:=zq ca4;clear ca3 ca4
   have hzl2:zs.length<=8589934592:=by omega
   have HZL:=zq hzl;go_wp2_with (at_builtin;refine wpList_append_lies _ rfl _ _ 36 rfl (w1.heap.size+1) 59 i0 (.slice none 0 0) 1 24 Tryz.underlying36 hi hk0 hk1 hk2 rfl (by omega) pv i vs rfl HST5.o.own ⟨w4.heap.size,0,none⟩ 1 1 [.slice zo zs.length zcap] rfl rfl (LexP.Qb _ _ _ _ rfl) (by simp[Value.oneCell']) (by omega) (by unfold maxLen;omega) (by omega) (by have:=HLT.o;simp at this;simp;omega) (w4.heap.size+1) (by simp) ?_);intro gg cap w5 hown5 hgrow hat hlt5;have d4:w5.cell? ⟨w1.heap.size,3,none⟩=some pv:=(hgrow.cell_far ⟨w1.heap.size,3,none⟩ HLT.o HNE.o).trans CA3.o;have d5:w5.frozen? ⟨w1.heap.size,3,none⟩=false:=(hgrow.frozen_far ⟨w1.heap.size,3,none⟩ HLT.o HNE.o).trans CA4.o;have HG:=zq (HST5.o.push (by omega) hcl hown5 hgrow (by simpa using hat));have HZR:=zq HST5.o;have HWRR:=zq ((Wr.of_grown (R:=w1.heap.size) hgrow).trans (Mv.refl _ _) (Wr.of_set w5 3 (.slice (some ⟨gg,0,none⟩) (i+1) cap)));clear hown5 hgrow hat hlt5;by_cases hbig:n+2<2*zs.length
   ·have hbb:decide ((n:Int)+2<2*(zs.length:Int))=true:=by simp;omega
    clear hbig;go_wp2_with fail;have HBE:=zq (HG.o.below);have hcall:=Sh (i+1) (i+1) (Nat.le_refl _) w1.heap.size 0 _ _ (.slice none 0 0) X [] _ HG.o.st (HSG2.o.below HBE.o hsz1) HG.o.pw (HR.o.below HBE.o) (fun q hq=>by cases hq;exact⟨by show w.heap.size≠w1.heap.size;omega,by simp[Value.ownBlock]⟩) (by rw[<-HN.o];omega) HLEN.o;rw[show (((i+1:Nat):Int)-1)=(i:Int) from by omega]at hcall;have HCALL:=zq hcall;have HB2:Hid (Below w.heap.size w (w5.setCell ⟨w1.heap.size,3,none⟩ (.slice (some ⟨gg,0,none⟩) (i+1) cap))):=HB1.o.trans (HBE.o.mono hz1);have HSZ:=zq (Nat.le_of_lt HG.o.st.lt);clear hcall;refine HCALL.o.mono ?_;rintro e w6 ⟨ov,rfl,r1,r2,r3⟩;rw[List.nil_append,<-HD.o]at r1;have c4:=r1.cell.2.2.2.2.1;have htx:=Vw (B:=w1.heap.size+1) (w:=w6) (v:=ov) (l:=Zf (NatP.val xs)) r1.own;have HB3:Hid (Below w.heap.size w w6):=r2.to_below HB2.o (Nat.le_trans hz1 HSZ.o) (by omega) (fun k hk=>by cases hk);clear r1 r2 r3;go_wp2_with fail;go_ret2;exact⟨rfl,HB3.o⟩
   ·have hbb:decide ((n:Int)+2<2*(zs.length:Int))=false:=by simp;omega
    clear hbig;go_wp2_with fail;have HRD:=zq (HZR.o.rd.1.wr (R:=w1.heap.size) (og:=pv.ownBlock) HWRR.o (fun q hq=>⟨by have:=HZR.o.rd.2 q hq;omega,HZR.o.ne q hq⟩));refine(Rl zs _ _ (by omega) HRD.o).mono ?_;rintro e w6 ⟨v6,ys,rfl,f1,f2,f3,f4,f5⟩;have hfin:PgSt n w1.heap.size w1 v6 w6 (i+1) _ ys _:=⟨HG.o.below' f5,f1.mono HG.o.st.lt,fun q hq e=>by have:=f1.2 q hq;have:=HG.o.own.lt q e;omega,by rw[f2,HZR.o.vl,<-Nat.pow_add,<-Nat.two_mul,Nat.mul_comm,Nat.pow_succ],f4,by have:=HZL.o;omega⟩;have hnp6:=hfin.npow;have HFIN:=zq hfin;have HNP6:=zq hnp6;clear f1 f2 f3 f4 f5 hfin hnp6;go_wp2_with fail
    first|exact⟨⟨_,_,_,_,HFIN.o,by omega⟩,by rw[HNP6.o,HNP.o];omega⟩|exact⟨by (repeat apply Exists.intro);exact⟨⟨_,_,_,_,HFIN.o,by omega⟩,rfl⟩,by rw[HNP6.o,HNP.o];omega⟩
  ·have hcb:decide (cmpI (NatP.val zs) (NatP.val X)<=0)=false:=by
    rw[HXV.o];unfold cmpI;rw[if_neg (by omega),if_pos (by omega)];rfl
   obtain⟨ci,hci⟩:=xq (cmpI (NatP.val zs) (NatP.val X));rw[<-hci]at hcb;have HCI:=zq hci;clear hle hci;go_wp2_with fail;refine(Va _ _ zs X _ HST.o.rd.1 (HR.o.below (HST.o.below.mono (by omega)))).mono ?_;rintro e w4 ⟨rfl,hb4⟩;rw[<-HCI.o];have HM:=zq (HST.o.below' hb4).toPgMid;clear hb4;have c3:=HM.o.st.cell.2.2.2.1;obtain⟨po,pcap,rfl,hpc,hpm,hpsh⟩:=Qj HM.o.own;have HPS:=zq hpsh;clear hpc hpm hpsh;go_wp2_with fail;have HBE:=zq (HM.o.below);have hcall:=Sh i i (Nat.le_refl _) w1.heap.size 0 _ _ (.slice none 0 0) X [] _ HM.o.st (HSG2.o.below HBE.o hsz1) HM.o.pw (HR.o.below HBE.o) (fun q hq=>by cases hq;exact⟨by show w.heap.size≠w1.heap.size;omega,by simp[Value.ownBlock]⟩) (by rw[<-HN.o];omega) HLEN.o;have HCALL:=zq hcall;have HB2:Hid (Below w.heap.size w w4):=HB1.o.trans (HBE.o.mono hz1);have HSZ:=zq (Nat.le_of_lt HM.o.st.lt);clear hcall;refine HCALL.o.mono ?_;rintro e w6 ⟨ov,rfl,r1,r2,r3⟩;rw[List.nil_append,<-HD.o]at r1;have c4:=r1.cell.2.2.2.2.1;have htx:=Vw (B:=w1.heap.size+1) (w:=w6) (v:=ov) (l:=Zf (NatP.val xs)) r1.own;have HB3:Hid (Below w.heap.size w w6):=r2.to_below HB2.o (Nat.le_trans hz1 HSZ.o) (by omega) (fun k hk=>by cases hk);clear r1 r2 r3;go_wp2_with fail;go_ret2;exact⟨rfl,HB3.o⟩
theorem Gw (v:Value)(xs:List Nat)(w:World)(hs:SG w)(hv:Rd w v xs)(hl:xs.length<=8589934592):
  Calls Tryz.prog 169 #[v,.int .i64 10] w (Kj (val xs) w):=by
 by_cases h:(Qw xs).length<=12
 ·exact Qq9 v xs w hs hv h (by omega)
 ·exact Qvb v xs w hs hv (by omega) hl
def Qy5 (n:Nat)(w:World)(e:Ending)(w':World):Prop:=e=.returned (.string ⟨(Zf n).toArray⟩)/\Below w.heap.size w w'
theorem S7 (v:Value)(xs:List Nat)(w:World)(hs:SG w)(hv:Rd w v xs)(hl:xs.length<=8589934592):
  Calls Tryz.prog 120 #[v] w (Qy5 (val xs) w):=by
 have HV:=zq hv;have HSG:=zq hs;clear hv hs;go_enter Tryz.func120,Tryz.ntmps120;go_wp2_with fail;refine(Gw _ xs _ HSG.o HV.o hl).mono ?_;rintro e w1 ⟨rfl,hb1⟩;have HB1:=zq hb1;clear hb1;go_wp2_with fail;go_ret;exact⟨rfl,HB1.o⟩
end Go.Proofs.YtgfmiladfeoldaaGreatDoor
namespace LexP
def P3 (t:Qx)(pos:Nat):Prop:=∀j,j<pos->t[j]?=some 95->0<j/\t[j-1]? ≠some 95
def btw (t:Qx)(pos:Nat):Bool:=decide (0<pos) && (t[pos-1]? !=some 95)
theorem Cz (t:Qx):P3 t 0:=fun j h=>absurd h (Nat.not_lt_zero _)
theorem At (t:Qx)(pos:Nat):btw t (pos+1)=(t[pos]? !=some 95):=by simp[btw]
theorem N0 {t:Qx}{pos:Nat}(h:P3 t pos)(hb:t[pos]?=some 95->btw t pos=true):P3 t (pos+1):=by
 intro j I E;rcases Nat.lt_succ_iff_lt_or_eq.1 I with H|rfl
 ·exact h j H E
 ·have:=hb E
  simp only[btw,Bool.and_eq_true,decide_eq_true_eq,bne_iff_ne]at this;exact this
theorem Qg1 {t:Qx}{pos:Nat}(h:t[pos]?=some 95)(hb:btw t pos=false):Xr t=true:=by
 rw[Jj];refine⟨pos,(List.getElem?_eq_some_iff.1 h).1,?_⟩;simp only[btw,Bool.and_eq_false_iff,decide_eq_false_iff_not,bne_eq_false_iff_eq]at hb;simp only[We,h,beq_self_eq_true,Bool.true_and];rcases hb with hb|hb
 ·have:pos=0:=by omega
  subst this;simp
 ·rw[hb];simp
theorem Ke {t:Qx}(h0:t≠[])(hb:btw t t.length=false):Xr t=true:=by
 rw[Jj];have h:0<t.length:=List.length_pos_iff.2 h0;simp only[btw,Bool.and_eq_false_iff,decide_eq_false_iff_not,bne_eq_false_iff_eq]at hb;rcases hb with hb|hb
 ·omega
 ·refine⟨t.length-1,by omega,?_⟩
  have:decide (t.length<=t.length-1+1)=true:=decide_eq_true (by omega);simp only[We,hb,beq_self_eq_true,this,Bool.true_and,Bool.or_true,Bool.true_or]
theorem Qjy {t:Qx}(h:P3 t t.length)(hb:btw t t.length=true):Xr t=false:=by
 cases ha:Xr t with
 |false=>rfl
 |true=>
  exfalso;obtain⟨j,K,E⟩:=(Jj t).1 ha;simp only[We,Bool.and_eq_true,Bool.or_eq_true,beq_iff_eq,decide_eq_true_eq]at E;obtain⟨H,E⟩:=E;obtain⟨T,O⟩:=h j K H;simp only[btw,Bool.and_eq_true,decide_eq_true_eq,bne_iff_ne]at hb;rcases E with ((E|E)|E)|E
  ·omega
  ·have:t.length-1=j:=by omega
   rw[this]at hb;exact hb.2 H
  ·exact O E
  ·have J:j+1<t.length:=(List.getElem?_eq_some_iff.1 E).1
   obtain⟨_,I⟩:=h (j+1) J E;rw[Nat.add_sub_cancel]at I;exact I H
theorem Qjd {t:Qx}(h0:t≠[])(h:Xr t=false):btw t t.length=true:=by
 cases hb:btw t t.length with
 |true=>rfl
 |false=>rw[Ke h0 hb]at h;cases h
theorem Ee {b:UInt8}{r:Qx}(h:b.toNat<128):val (b::r)=some b.toNat/\wid (b::r)=1:=by
 have:dec (b::r)=some (b.toNat,1):=by
  show (if b.toNat<0x80 then _ else _)=_;rw[if_pos h]
 simp[val,wid,this]
def digs (l:Qx):List Nat:=l.map fun c=>c.toNat-48
theorem Mf (a b:Qx):digs (a++b)=digs a++digs b:=by simp[digs]
end LexP
