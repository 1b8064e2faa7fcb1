import Derived.Test.YtgfmiladfeoldaaGreatDoorPk1
set_option linter.unusedSimpArgs false
set_option linter.unusedVariables false
set_option maxRecDepth 100000
set_option maxHeartbeats 16000000
open Go.Proofs.Tryz
open Go.Value renaming int->A,string->ca,tuple->ef,agg->eS
open Go.IntKind renaming i64->G
open Go.Proofs.Tryz renaming ntmps200->ce,prog->cl,func200->co,results158->c9,strings_HasSuffix->dj,ntmps158->dl,func158->du,underlying179->eg,strings_HasPrefix->fa,ntmps207->fb,func207->ff,ntmps202->fm,ntmps206->gc,ntmps203->gd,func202->ge,func206->gE,func203->g9
open Option renaming some->F,none->Z
open Go.Ending renaming returned->da
open Go renaming World->db,Calls->dq,Value->fi
open Go.RowKit renaming Below->de
open Bool renaming false->dk,true->ex
namespace Go.Proofs.YtgfmiladfeoldaaGreatDoor
open Go.RowKit ar
theorem Qwq {a b:Int}(h:a=b):Ending.returned (A G a)=da (A G b):=by rw[h]
theorem Qyp (r:Nat)(h:r<128):decide (0<=Lib.indexByte [43,45,42,94,39,40,41,91,93,123,125,44,59,58,61] (r:Int).toNat.toUInt8)=decide (r.toUInt8∈([43,45,42,94,39,40,41,91,93,123,125,44,59,58,61]:Bytes)):=by
 have:∀r:Fin 128,decide (0<=Lib.indexByte [43,45,42,94,39,40,41,91,93,123,125,44,59,58,61] ((r.val:Nat):Int).toNat.toUInt8)=decide (r.val.toUInt8∈([43,45,42,94,39,40,41,91,93,123,125,44,59,58,61]:Bytes)):=by decide+kernel
 exact this ⟨r,h⟩
theorem Fw (r:Nat)(w:db)(hr:r<=0x10FFFF):dq cl 200 #[A .i32 (r:Int)] w fun e w'=>e=da (A G (kindOf r:Nat))/\w=w':=by
 by_cases h1:r=32\/r=9\/r=0xa0
 ·have hk:kindOf r=1:=by unfold kindOf;rw[if_pos h1]
  rw[hk];clear hk;rcases h1 with rfl|rfl|rfl
  all_goals
   go_enter co,ce;go_wp2;go_ret;exact⟨rfl,rfl⟩
 by_cases h2:r=35
 ·subst h2
  go_enter co,ce;go_wp2;go_ret;exact⟨rfl,rfl⟩
 have n1:((r:Int)==32)=dk:=by simp;omega
 have n2:((r:Int)==9)=dk:=by simp;omega
 have n3:((r:Int)==160)=dk:=by simp;omega
 have n4:((r:Int)==35)=dk:=by simp;omega
 by_cases h3:48<=r/\r<=57
 ·have hk:kindOf r=3:=by unfold kindOf;rw[if_neg h1,if_neg h2,if_pos h3]
  rw[hk];clear hk;go_enter co,ce;go_wp2;go_ret;exact⟨rfl,rfl⟩
 by_cases zr:r=95
 ·subst zr
  go_enter co,ce;go_wp2;go_ret;exact⟨rfl,rfl⟩
 by_cases mR:r=0x2212
 ·subst mR
  go_enter co,ce;go_wp2;go_ret;exact⟨rfl,rfl⟩
 by_cases sO:r=0xd7
 ·subst sO
  go_enter co,ce;go_wp2;go_ret;exact⟨rfl,rfl⟩
 by_cases sP:r=0xf7
 ·subst sP
  go_enter co,ce;go_wp2;go_ret;exact⟨rfl,rfl⟩
 have n6:((r:Int)==95)=dk:=by simp;omega
 have n7:((r:Int)==8722)=dk:=by simp;omega
 have n8:((r:Int)==215)=dk:=by simp;omega
 have n9:((r:Int) !=247)=ex:=by simp;omega
 have K:kindOf r=if (97<=r/\r<=122)\/(65<=r/\r<=90) then 4 else if (0xc0<=r/\r<=0x2af)\/(0x370<=r/\r<=0x3ff) then 4
   else if r<0x80/\(r.toUInt8∈([43,45,42,94,39,40,41,91,93,123,125,44,59,58,61]:Bytes)) then 5 else 6:=by
  unfold kindOf;rw[if_neg h1,if_neg h2,if_neg h3];simp only[zr,mR,sO,sP,or_false,adq,ne_eq,not_false_eq_true,and_true]
 have be:(r<48\/58<=r/\r<65\/91<=r/\r<97\/123<=r/\r<128)\/(65<=r/\r<=90\/97<=r/\r<=122)\/(128<=r/\r<0xc0\/0x2af<r/\r<0x370\/0x3ff<r)\/(0xc0<=r/\r<=0x2af\/0x370<=r/\r<=0x3ff):=by omega
 rcases be with be|be|be|be
 ·have h6:r<128:=by omega
  have K5:(decide (r.toUInt8∈([43,45,42,94,39,40,41,91,93,123,125,44,59,58,61]:Bytes)))=(decide (kindOf r=5)):=by
   rw[K,if_neg (by omega),if_neg (by omega)];by_cases hm:r.toUInt8∈([43,45,42,94,39,40,41,91,93,123,125,44,59,58,61]:Bytes)
   ·rw[if_pos ⟨by omega,hm⟩];simp[hm]
   rw[if_neg (by simp[hm])];simp[hm]
  have K6:kindOf r=5\/kindOf r=6:=by rw[K,if_neg (by omega),if_neg (by omega)];split<;>simp
  have M:=zq (Qyp r h6);rw[K5]at M;clear K K5;generalize kindOf r=k at*;rcases K6 with rfl|rfl
  all_goals
   rcases be with be|be|be|be
   all_goals
    clear h1 h2 h3 zr mR sO sP;go_enter co,ce;go_wp2_with (go_at_call 231;refine(strings_ContainsRune_ascii _ _ _ (by omega) (by omega)).mono ?_;rintro e w' ⟨rfl,rfl⟩;rw[M.o]);go_ret;exact⟨rfl,rfl⟩
 ·rw[K,if_pos (by omega)]
  clear K;rcases be with be|be
  all_goals
   clear h1 h2 h3 zr mR sO sP;go_enter co,ce;go_wp2;go_ret;exact⟨rfl,rfl⟩
 ·rw[K,if_neg (by omega),if_neg (by omega),if_neg (by omega)]
  clear K;rcases be with be|be|be
  all_goals
   clear h1 h2 h3 zr mR sO sP;go_enter co,ce;go_wp2;go_ret;exact⟨rfl,rfl⟩
 rw[K,if_neg (by omega),if_pos (by omega)];clear K;rcases be with be|be
 all_goals
  clear h1 h2 h3 zr mR sO sP;go_enter co,ce;go_wp2;go_ret;exact⟨rfl,rfl⟩
end Go.Proofs.YtgfmiladfeoldaaGreatDoor
namespace ar
open Go
theorem Qgt (s:ByteArray)(i:Nat):s.get! i=(s.data.toList[i]?).getD default:=by obtain⟨⟨l⟩⟩:=s;simp[ByteArray.get!]
theorem Df (s:ByteArray)(i:Nat)(hi:i<s.size):Utf8.decode s i=match dec (s.data.toList.drop i) with|some (v,n)=>(v,n)|none=>(0xFFFD,1):=by
 have J:s.size=s.data.toList.length:=aa2 s
 have bi:∀k,s.get! (i+k)=((s.data.toList.drop i)[k]?).getD default:=by intro k;rw[Qgt,abg]
 have K:∀k,i+k<s.size↔k<(s.data.toList.drop i).length:=by intro k;rw[J,aan];omega
 have I:0<(s.data.toList.drop i).length:=by rw[aan];omega
 generalize s.data.toList.drop i=l at*;simp only[Utf8.decode,bi,K]
 match l,I with
 |b::t,_=>
  simp only[ad1,ab6,abS,aaq];by_cases h0:b.toNat<0x80
  ·simp[dec,h0]
  simp only[h0,adq];by_cases h1:b.toNat / 32=6
  ·have h: ¬b.toNat / 16=14:=by omega
   have E: ¬b.toNat / 8=30:=by omega
   match t with
   | []=>simp[dec,h0,h1,Utf8.runeError]
   |c::t=>
    by_cases k1:c.toNat / 64=2
    ·by_cases k2:128<=b.toNat % 32*64+c.toNat % 64
     ·simp[dec,h0,h1,k1,Xr,k2]
     simp[dec,h0,h1,k1,Xr,k2,Utf8.runeError]
    simp[dec,h0,h1,k1,Xr,h,E,Utf8.runeError]
  by_cases h:b.toNat / 16=14
  ·have E: ¬b.toNat / 8=30:=by omega
   match t with
   | []=>simp[dec,h0,h1,h,Utf8.runeError]
   | [c]=>simp[dec,h0,h1,h,Utf8.runeError]
   |c::d::t=>
    have H:∀v:Nat,Utf8.valid (v:Int)=Vu v:=by intro v;simp only[Utf8.valid,Vu];rw[abj];simp;omega
    by_cases k1:c.toNat / 64=2
    ·by_cases k2:d.toNat / 64=2
     ·simp only[dec,h0,h1,h,k1,k2,Xr,if_true,adq,aeo,adU,Bool.and_true,H,aaq,ad1,ab6]
      by_cases k3:2048<=b.toNat % 16*4096+c.toNat % 64*64+d.toNat % 64/\Vu (b.toNat % 16*4096+c.toNat % 64*64+d.toNat % 64)=ex
      ·simp[k2,h1,k3]
      simp[Utf8.runeError,k2,h1,k3]
     simp[dec,h0,h1,h,k1,k2,Xr,E,Utf8.runeError]
    simp[dec,h0,h1,h,k1,Xr,E,Utf8.runeError]
  by_cases E:b.toNat / 8=30
  ·match t with
   | []=>simp[dec,h0,h1,h,E,Utf8.runeError]
   | [c]=>simp[dec,h0,h1,h,E,Utf8.runeError]
   | [c,d]=>simp[dec,h0,h1,h,E,Utf8.runeError]
   |c::d::f::t=>
    have H:∀v:Nat,Utf8.valid (v:Int)=Vu v:=by intro v;simp only[Utf8.valid,Vu];rw[abj];simp;omega
    by_cases k1:c.toNat / 64=2
    ·by_cases k2:d.toNat / 64=2
     ·by_cases k4:f.toNat / 64=2
      ·simp only[dec,h0,h1,h,E,k1,k2,k4,Xr,if_true,adq,aeo,adU,Bool.and_true,H,aaq,ad1,ab6]
       by_cases k3:65536<=b.toNat % 8*262144+c.toNat % 64*4096+d.toNat % 64*64+f.toNat % 64/\Vu (b.toNat % 8*262144+c.toNat % 64*4096+d.toNat % 64*64+f.toNat % 64)=ex
       ·simp[k2,k4,h1,h,k3]
       simp[Utf8.runeError,k2,k4,h1,h,k3]
      simp[dec,h0,h1,h,E,k1,k2,k4,Xr,Utf8.runeError]
     simp[dec,h0,h1,h,E,k1,k2,Xr,Utf8.runeError]
    simp[dec,h0,h1,h,E,k1,Xr,Utf8.runeError]
  simp[dec,h0,h1,h,E,Utf8.runeError]
theorem Rn (s:ByteArray)(i:Nat)(hi:i<s.size):(Utf8.decode s i).1=(val (s.data.toList.drop i)).getD 0xFFFD:=by
 rw[Df s i hi];unfold val
 cases dec (s.data.toList.drop i)<;>rfl
theorem Rs (s:ByteArray)(i:Nat)(hi:i<s.size):(Utf8.decode s i).2=wid (s.data.toList.drop i):=by
 rw[Df s i hi];unfold wid
 cases dec (s.data.toList.drop i)<;>rfl
theorem Qd0 {l:Bytes}{v:Nat}(h:val l=F v):v<=0x10FFFF:=by
 unfold val at h
 cases hd:dec l with
 |none=>simp[hd]at h
 |some p=>obtain⟨a,b⟩:=p;simp[hd]at h;subst h;exact Qgp hd
theorem Qhc (l:Bytes):(val l).getD 0xFFFD=0xFFFD->(Lib.hasPrefix l [239,191,189]=(val l).isSome):=by
 intro h
 cases hv:val l with
 |none=>
  cases hp:Lib.hasPrefix l [239,191,189] with
  |false=>rfl
  |true=>
   exfalso;obtain⟨t,rfl⟩:=List.isPrefixOf_iff_prefix.1 hp
   simp[val,dec,Xr,Vu]at hv
 |some v=>
  have h':v=0xFFFD:=by simpa [hv] using h
  subst h';simp only[Option.isSome_some];unfold val at hv;unfold dec at hv;split at hv
  ·simp at hv
  rename_i b t;split at hv
  ·simp at hv;omega
  split at hv
  ·split at hv
   ·split at hv
    ·simp at hv;omega
    simp at hv
   simp at hv
  split at hv
  ·split at hv
   ·rename_i c d r
    split at hv
    ·rename_i k
     simp only[abK,Xr,ab9]at k;simp at hv
     have E:b.toNat=239:=by have:=b.toNat_lt;omega
     have H:c.toNat=191:=by have:=c.toNat_lt;omega
     have I:d.toNat=189:=by have:=d.toNat_lt;omega
     have eb:b=239:=UInt8.toNat_inj.1 E;have ec:c=191:=UInt8.toNat_inj.1 H;have ed:d=189:=UInt8.toNat_inj.1 I;subst eb ec ed;simp[Lib.hasPrefix]
    simp at hv
   simp at hv
  split at hv
  ·split at hv
   ·split at hv
    ·rename_i k
     simp only[abK,abi]at k;simp at hv;omega
    simp at hv
   simp at hv
  simp at hv
end ar
namespace Go.Proofs.YtgfmiladfeoldaaGreatDoor
open Go.RowKit ar
variable {v:fi} {w w':db}
theorem Tryz.xz:(Tryz.prog.info? 182).map (fun i=>(i.zero,i.size,i.bytes))=F (F (eS #[A G 0,A .i32 0,A G 0]),3,24):=by kernel_rfl
def Qwf (l:Bytes)(w:db)(e:Ending)(w':db):Prop:=
 ∃v,e=da v/\w'.ownsRow w.heap.size 182 3 v (Qz l).length (X4 0 (Qz l))/\de w.heap.size w w'
def Qf5 (s:ByteArray)(w:db)(v:fi)(wr:db):Prop:=
 ∃pos dn,pos<=s.size/\wr.heap[w.heap.size]?=F (.stringIter s pos)/\de w.heap.size w wr/\Qz s.data.toList=dn++Qz (s.data.toList.drop pos)/\(Qw dn).length=pos/\wr.ownsRow (w.heap.size+1) 182 3 v dn.length (X4 0 dn)
theorem Bh (w:db)(s:ByteArray):(w.iter s 0).heap[w.heap.size]?=F (.stringIter s 0):=World.iter_heap w s 0
theorem Dg (s:ByteArray)(hs:s.size<=67108864):dq cl 155 #[ca s] w (Qwf s.data.toList w):=by
 obtain⟨i0,hi,hz0,hz1,hz2⟩:=aa0 Tryz.xz;go_enter func155,ntmps155;go_wp2;go_loopw [3] (fun v wr=>Qf5 s w v wr) (fun _ wr=>s.size-wr.iterPos w.heap.size)
 case atStart=>exact⟨0,[],aat _,Bh w s,(aaw _ _).alloc (aab _) _,by simp,rfl,abx _ _ _ _⟩
 case round=>
  obtain⟨pos,dn,dO,hit,cI,hch,hlen,hown⟩:=hrel;have hsz:w.heap.size<wr.heap.size:=(aah.1 hit).1;by_cases hlt:pos<s.size
  ·have hn:=fun ty=>Lib.run_next_any_at (P:=cl) wr w.heap.size s pos ty hit hlt
   have hLe:s.data.toList.drop pos≠[]:=by rw[Ne,acr,<-aa2];omega
   have DW:=zq (Zz hLe);have eu:=An (s.data.toList.drop pos)
   have hk2:pos+wid (s.data.toList.drop pos)<=s.size:=by have:=Kk hLe;rw[aan,<-aa2]at this;omega
   have hdd:Hid (List.drop (wid (s.data.toList.drop pos)) (s.data.toList.drop pos)=s.data.toList.drop (pos+wid (s.data.toList.drop pos))):=by show _=_;rw[abB]
   have hbl:Hid ((Qw (dn++[(val (s.data.toList.drop pos),List.take (wid (s.data.toList.drop pos)) (s.data.toList.drop pos))])).length=pos+wid (s.data.toList.drop pos)):=by show _=_;simp only[Qw,ab0,aag]at hlen ⊢;rw[hlen];have:=Kk hLe;simp;simp at this;omega
   have zQ:=zq (Qhc (s.data.toList.drop pos));have kK:∀v,val (s.data.toList.drop pos)=F v->v<=0x10FFFF:=fun v h=>Qd0 h;rw[Rn s pos hlt,Rs s pos hlt]at hn;have HCH:=zq hch;have HLEN:=zq hlen
   have hxd:Hid ((s.extract pos s.size).data.toList=s.data.toList.drop pos):=by show _=_;rw[Lib.extract_data,aam (by rw[aan,<-aa2];exact aab _)]
   have jF:dn.length<=67108864:=by have h1:=Yk s.data.toList;rw[hch,aag,<-aa2]at h1;omega
   clear hch hlen hLe
   have fin:∀(c:C) (v':fi) (w2:db),c=(val (s.data.toList.drop pos),List.take (wid (s.data.toList.drop pos)) (s.data.toList.drop pos))->w2.ownsRow (w.heap.size+1) 182 3 v' (dn.length+1) (X4 0 dn++X4 pos [c])->de w.heap.size w w2->w2.heap[w.heap.size]?=F (.stringIter s (pos+wid (s.data.toList.drop pos)))->Qf5 s w v' w2/\s.size-w2.iterPos w.heap.size<s.size-wr.iterPos w.heap.size:=by
    intro c v' w2 hc ho hb gF;refine⟨⟨pos+wid (s.data.toList.drop pos),dn++[c],hk2,gF,hb,?_,?_,?_⟩,?_⟩
    ·rw[HCH.o,DW.o,hc,hdd.o];simp
    ·rw[hc];exact hbl.o
    ·rw[Gw,HLEN.o,aaX];simpa using ho
    rw[iterPos_of gF,iterPos_of hit];omega
   have uv:=zq fin;clear fin hdd hbl HCH HLEN DW hk2;generalize wid (s.data.toList.drop pos)=k at*;have hW:∃wi:db,wi=wr.iterAt w.heap.size s (pos+k):=⟨_,rfl⟩;obtain⟨wi,pH⟩:=hW
   have q1:wi.ownsRow (w.heap.size+1) 182 3 u3 dn.length (X4 0 dn):=by rw[pH];exact ownsRow_iterAt hown (acJ _) _ _
   have q2:de w.heap.size w wi:=by rw[pH];exact Lib.below_iterAt cI (aab _) _ _
   have q3:wi.heap[w.heap.size]?=F (.stringIter s (pos+k)):=by rw[pH];exact Lib.iterAt_heap _ _ _ _ _ hit
   have q4:w.heap.size<wi.heap.size:=(aah.1 q3).1;rw[<-pH]at hn;clear pH;have Q3:=zq q3;clear q3
   cases hv:val (s.data.toList.drop pos) with
   |some r=>
    have agS:=kK r hv;rw[hv]at hn zQ uv;clear kK hv;simp only[ab6]at hn zQ;by_cases hr:r=0xFFFD
    ·subst hr
     have HP:Hid (Lib.hasPrefix (s.data.toList.drop pos) [239,191,189]=ex):=zQ.o (by first|trivial|rfl);clear zQ;go_wp2_with (first|(go_at_call 200;refine(Fw 0xFFFD _ (by omega)).mono ?_;rintro e w' ⟨rfl,rfl⟩)|(go_at_call 201;refine(fa _ _ _).mono ?_;rintro e w' ⟨rfl,rfl⟩;simp only[hxd.o,HP.o])|(at_builtin;refine abQ _ rfl _ _ 179 rfl (w.heap.size+1) 182 i0 (eS #[A G 0,A .i32 0,A G 0]) 3 24 eg hi hz0 hz1 hz2 rfl (by decide) _ _ _ rfl ((q1.alloc _).alloc _) ⟨wi.heap.size+1,0,Z⟩ 1 1 (X4 pos [(F 0xFFFD,List.take k (s.data.toList.drop pos))]) rfl rfl ?c1 ?c2 ?c3 ?c4 ?c5 ?_))
     case c1=>exact Qg _ _ _ _ (by simp)
     case c2=>intro u hu;simp[Ti]at hu;rcases hu with rfl|rfl|rfl<;>rfl
     case c3=>unfold maxLen;omega
     case c4=>omega
     case c5=>simp;omega
     intro v' w2 hown2 hgrow2 _
     have aq:=uv.o (F 0xFFFD,List.take k (s.data.toList.drop pos)) v' w2 rfl hown2
      (aaF (((q2.alloc (aa1 q4) _).alloc (by simp;omega) _)) hgrow2 (by simp;omega) (fun k hk=>Nat.le_of_succ_le (q1.lt k hk).1))
      ((hgrow2.block w.heap.size (by simp;omega) (fun e=>by have:=(q1.lt _ e.symm).1;omega)).trans
         ((ads _ _ _ (by simp;omega)).trans ((ads _ _ _ q4).trans Q3)))
     clear hown2 hgrow2;have HF:=zq aq;clear aq;go_wp2;exact HF.o
    have hr1:((r:Int)==65533)=dk:=by simp;omega
    clear zQ hxd;go_wp2_with (first|(go_at_call 200;refine(Fw r _ agS).mono ?_;rintro e w' ⟨rfl,rfl⟩)|(at_builtin;refine abQ _ rfl _ _ 179 rfl (w.heap.size+1) 182 i0 (eS #[A G 0,A .i32 0,A G 0]) 3 24 eg hi hz0 hz1 hz2 rfl (by decide) _ _ _ rfl ((q1.alloc _).alloc _) ⟨wi.heap.size+1,0,Z⟩ 1 1 (X4 pos [(F r,List.take k (s.data.toList.drop pos))]) rfl rfl ?c1 ?c2 ?c3 ?c4 ?c5 ?_))
    case c1=>exact Qg _ _ _ _ (by simp)
    case c2=>intro u hu;simp[Ti]at hu;rcases hu with rfl|rfl|rfl<;>rfl
    case c3=>unfold maxLen;omega
    case c4=>omega
    case c5=>simp;omega
    intro v' w2 hown2 hgrow2 _
    have aq:=uv.o (F r,List.take k (s.data.toList.drop pos)) v' w2 rfl hown2
     (aaF (((q2.alloc (aa1 q4) _).alloc (by simp;omega) _)) hgrow2 (by simp;omega) (fun k hk=>Nat.le_of_succ_le (q1.lt k hk).1))
     ((hgrow2.block w.heap.size (by simp;omega) (fun e=>by have:=(q1.lt _ e.symm).1;omega)).trans
        ((ads _ _ _ (by simp;omega)).trans ((ads _ _ _ q4).trans Q3)))
    clear hown2 hgrow2;have HF:=zq aq;clear aq;go_wp2
    exact HF
   |none=>
    rw[hv]at hn zQ uv;clear kK hv;simp only[Option.getD_none]at hn zQ;have HP:Hid (Lib.hasPrefix (s.data.toList.drop pos) [239,191,189]=dk):=zQ.o (by first|trivial|rfl);clear zQ;go_wp2_with (first|(go_at_call 200;refine(Fw 0xFFFD _ (by omega)).mono ?_;rintro e w' ⟨rfl,rfl⟩)|(go_at_call 201;refine(fa _ _ _).mono ?_;rintro e w' ⟨rfl,rfl⟩;simp only[hxd.o,HP.o])|(at_builtin;refine abQ _ rfl _ _ 179 rfl (w.heap.size+1) 182 i0 (eS #[A G 0,A .i32 0,A G 0]) 3 24 eg hi hz0 hz1 hz2 rfl (by decide) _ _ _ rfl ((q1.alloc _).alloc _) ⟨wi.heap.size+1,0,Z⟩ 1 1 (X4 pos [(Z,List.take k (s.data.toList.drop pos))]) rfl rfl ?c1 ?c2 ?c3 ?c4 ?c5 ?_))
    case c1=>exact Qg _ _ _ _ (by simp)
    case c2=>intro u hu;simp[Ti]at hu;rcases hu with rfl|rfl|rfl<;>rfl
    case c3=>unfold maxLen;omega
    case c4=>omega
    case c5=>simp;omega
    intro v' w2 hown2 hgrow2 _
    have aq:=uv.o (Z,List.take k (s.data.toList.drop pos)) v' w2 rfl hown2
     (aaF (((q2.alloc (aa1 q4) _).alloc (by simp;omega) _)) hgrow2 (by simp;omega) (fun k hk=>Nat.le_of_succ_le (q1.lt k hk).1))
     ((hgrow2.block w.heap.size (by simp;omega) (fun e=>by have:=(q1.lt _ e.symm).1;omega)).trans
        ((ads _ _ _ (by simp;omega)).trans ((ads _ _ _ q4).trans Q3)))
    clear hown2 hgrow2;have HF:=zq aq;clear aq;go_wp2;exact HF.o
  have hn:=fun ty=>Lib.run_next_end_at (P:=cl) wr w.heap.size s pos ty hit hlt;go_wp2;go_ret
  have:pos=s.size:=by omega
  rw[acf (by rw[<-aa2];omega),V8,abt]at hch;rw[<-hch]at hown;exact⟨_,rfl,Xh hown (by omega),cI⟩
def Mq (l:Bytes):Nat×Nat:=if (Qz l).all Qa then ((Qz l).length,0) else (0,12)
def Qv6 (l:Bytes)(w:db)(e:Ending)(w':db):Prop:=
 e=da (ef #[A G (Mq l).1,A G (Mq l).2])/\de w.heap.size w w'
theorem Qqp (s:ByteArray)(hs:s.size<=67108864):dq cl 91 #[ca s] w (Qv6 s.data.toList w):=by
 go_enter func91,ntmps91;go_wp2_with fail;refine(Dg s hs).mono ?_;rintro e w1 ⟨v,rfl,hown,cI⟩
 have hN:(Qz s.data.toList).length<=67108864:=by have:=Yk s.data.toList;rw[<-aa2]at this;omega
 have HR:∀(a:Nat×Nat),a=Mq s.data.toList->Qv6 s.data.toList w (da (ef #[A G (a.1:Nat),A G (a.2:Nat)])) w1:=fun a ha=>⟨by rw[ha],cI⟩
 have HC:Mq s.data.toList=if (Qz s.data.toList).all Qa then ((Qz s.data.toList).length,0) else (0,12):=rfl
 generalize Qz s.data.toList=cs at*;have HR:=zq HR;have HC:=zq HC;obtain⟨ao,cap,rfl,bU,hcm,aS⟩:=Qj hown;go_wp2_with fail;have ju:=zq aS;have HB:=zq cI;clear hown aS cI;go_loopw [4,10] (fun n i wr=> ∃k:Nat,k<=cs.length/\n=A G k/\i=A G k/\de w1.heap.size w1 wr/\(cs.take k).all Qa=ex) (fun _ i _=>cs.length-(intOf i).toNat)
 case atStart=>exact⟨0,aat _,rfl,rfl,aaw _ _,rfl⟩
 case round=>
  obtain⟨k,hk,rfl,rfl,bN,hall⟩:=hrel;have cM:=zq hall;clear hall;by_cases hlt:k<cs.length
  ·obtain⟨c,hc⟩:∃c,cs[k]?=F c:=⟨cs[k],aad hlt⟩
   obtain⟨g,rfl,hbg,nT,hcell⟩:=ju.o (by omega);obtain⟨c1,c2,c3⟩:=Gy cs 0 k c hc
   have e1:wr.cell? ⟨g,k*3,Z⟩=F (A G (kd c:Nat)):=by rw[bN.cell (p:=⟨g,_,Z⟩) nT,hcell _ (by omega)];exact c1
   have e2:wr.cell? ⟨g,k*3+1,Z⟩=F (A .i32 (rn c:Nat)):=by rw[bN.cell (p:=⟨g,_,Z⟩) nT,hcell _ (by omega)];exact c2
   have e3:wr.cell? ⟨g,k*3+2,Z⟩=F (A G (0+(Qw (cs.take k)).length:Nat)):=by rw[bN.cell (p:=⟨g,_,Z⟩) nT,hcell _ (by omega)];exact c3
   have hz:=bN.size;clear c1 c2 c3 hcell ju;have tI:=zq hc;clear hc;by_cases hb:kd c=0
   ·have hb1:((kd c:Int)==0)=ex:=by simp[hb]
    have pY:=zq hb;clear hb;go_wp2;go_ret2
    have:cs.all Qa=dk:=by rw[List.all_eq_false];exact⟨c,aai tI,by simp[Qa,pY.o]⟩
    obtain⟨h1,h2⟩:=HR.o (0,12) (by rw[HC.o,this];rfl);exact⟨h1,h2.trans ((bN.mono HB.o.size).alloc (by have:=HB.o.size;omega) _)⟩
   have hb1:((kd c:Int)==0)=dk:=by simp[hb]
   go_wp2;exact⟨⟨k+1,by omega,by go_num,by go_num,bN.alloc hz _,by rw[aaI,tI.o];simp[cM.o,Qa,hb]⟩,by simp[intOf];omega⟩
  go_wp2;go_ret2
  have hk':k=cs.length:=by omega
  have h1:=cM.o;rw[hk',aby]at h1;obtain⟨h1,h2⟩:=HR.o (cs.length,0) (by rw[HC.o,h1];rfl);rw[hk'];exact⟨h1,h2.trans (bN.mono HB.o.size)⟩
def Qkw (al:Nat)(p:C->Bool):Prop:=
 (∀(args:Array fi) (w:db),(callFunc al args).run cl w=.ok (.enter al args) w)/\ ∀(c:C) (q:Nat) (w:db),dq cl al #[eS #[A G (kd c:Nat),A .i32 (rn c:Nat),A G q]] w fun e w'=>e=da (.bool (p c))/\de w.heap.size w w'
theorem Ah:Qkw 157 Qa:=by
 refine⟨fun args w=>by kernel_rfl,?_⟩;intro c q w
 have h:Qa c= !((kd c:Int)==0):=by unfold Qa;rw[abj];simp
 rw[h];go_enter func157,ntmps157;go_wp2;go_ret;exact⟨by simp[bne],(aaw _ _).alloc (aab _) _⟩
theorem Qzm:Qkw 202 Qn:=by
 refine⟨fun args w=>by kernel_rfl,?_⟩;intro c q w
 cases h:((kd c:Int)==3) with
 |true=>
  have E:Qn c=ex:=by unfold Qn;simp at h;simp;left;omega
  rw[E];go_enter ge,fm;go_wp2;go_ret
  exact⟨rfl,(aaw _ _).alloc (aab _) _⟩
 |false=>
  have E:Qn c=((rn c:Int)==95):=by unfold Qn;rw[abj];simp at h ⊢;omega
  rw[E];go_enter ge,fm;go_wp2;go_ret;exact⟨rfl,(aaw _ _).alloc (aab _) _⟩
theorem Qvl:Qkw 206 aX:=by
 refine⟨fun args w=>by kernel_rfl,?_⟩;intro c q w
 cases h:((kd c:Int)==3) with
 |true=>
  have E:aX c=ex:=by unfold aX;simp at h;simp;left;omega
  rw[E];go_enter gE,gc;go_wp2;go_ret
  exact⟨rfl,(aaw _ _).alloc (aab _) _⟩
 |false=>
  have E:aX c=((kd c:Int)==4):=by unfold aX;rw[abj];simp at h ⊢;omega
  rw[E];go_enter gE,gc;go_wp2;go_ret;exact⟨rfl,(aaw _ _).alloc (aab _) _⟩
def j7 (w:db)(v:fi)(cs:List C):Prop:=w.ownsRow 0 182 3 v cs.length (X4 0 cs)
theorem j7.below {cs:List C}(h:j7 w v cs)(hb:de w.heap.size w w'):j7 w' v cs:=Qy h hb (aab _)
theorem j7.shape {cs:List C}(h:j7 w v cs):∃ao cap,v=.slice ao cs.length cap/\cs.length<=cap/\cap<=maxLen/\∀k c,cs[k]?=F c-> ∃g,ao=F ⟨g,0,Z⟩/\g<w.heap.size/\w.cell? ⟨g,k*3,Z⟩=F (A G (kd c:Nat))/\w.cell? ⟨g,k*3+1,Z⟩=F (A .i32 (rn c:Nat))/\w.cell? ⟨g,k*3+2,Z⟩=F (A G ((Qw (cs.take k)).length:Nat)):=by obtain⟨ao,cap,rfl,J,H,K⟩:=Qj h;refine⟨ao,cap,rfl,J,H,fun k c hc=> ?_⟩;have T:k<cs.length:=(aaf.1 hc).1;obtain⟨g,rfl,bi,I,E⟩:=K (by omega);obtain⟨c1,c2,c3⟩:=Gy cs 0 k c hc;exact⟨g,rfl,I,by rw[E _ (by omega)];exact c1,by rw[E _ (by omega)];exact c2,by rw[E _ (by omega),c3,aaX]⟩
theorem Ap {al:Nat}{p:C->Bool}(hF:Qkw al p){cs:List C}(i:Nat)(hr:j7 w v cs)(hi:i<=cs.length):dq cl 156 #[v,A G i,.func (.func al) #[] #[]] w fun e w'=>e=da (A G (i+Qp p (cs.drop i):Nat))/\de w.heap.size w w':=by
 obtain⟨ao,cap,rfl,bU,hcm,aS⟩:=hr.shape;have ju:=zq aS;have HF:=zq hF.2;have VH:=hF.1
 have hm:cs.length<=9223372036854775807:=by unfold maxLen at hcm;omega
 clear aS hF hr hcm;go_enter func156,ntmps156;go_wp2_with fail;go_loopw [1] (fun v wr=> ∃m:Nat,i+m<=cs.length/\v=A G (i+m:Nat)/\de w.heap.size w wr/\ ∀c∈(cs.drop i).take m,p c=ex) (fun v _=>cs.length-(intOf v).toNat)
 case atStart=>exact⟨0,by omega,rfl,aaw _ _,by simp⟩
 case round=>
  obtain⟨m,gX,rfl,hb,hall⟩:=hrel;have cM:=zq hall;clear hall;by_cases hlt:i+m<cs.length
  ·obtain⟨c,hc⟩:∃c,cs[i+m]?=F c:=⟨cs[i+m],aad hlt⟩
   obtain⟨g,rfl,nT,e1,e2,e3⟩:=ju.o _ c hc;rw[<-hb.cell (p:=⟨g,_,Z⟩) nT]at e1 e2 e3;have HC:=zq hc;have hz:=hb.size;clear hc ju
   cases hp:p c with
   |true=>
    have HP:=zq hp;clear hp;go_wp2_with (refine(HF.o c _ _).mono ?_;rintro e w' ⟨rfl,hb2⟩;rw[HP.o]);refine⟨⟨m+1,by omega,by go_num,hb.trans (hb2.mono hz),?_⟩,by simp[intOf];omega⟩;intro d hd;rw[aaI,abg,HC.o]at hd;simp at hd;rcases hd with hd|rfl
    ·exact cM.o d hd
    exact HP
   |false=>
    have HP:=zq hp;clear hp;go_wp2_with (refine(HF.o c _ _).mono ?_;rintro e w' ⟨rfl,hb2⟩;rw[HP.o]);go_ret;have lG:=Rq p (cs.drop i) m (by simp;omega) cM (fun d hd=>by rw[abg,HC.o]at hd;cases hd;exact HP.o)
    exact⟨Qwq (by rw[lG]<;>omega),hb.trans (hb2.mono hz)⟩
  go_wp2;go_ret;have lG:=Rq p (cs.drop i) m (by simp;omega) cM (fun d hd=>by rw[abg,abo (by omega)]at hd;cases hd)
  exact⟨Qwq (by rw[lG]<;>omega),hb⟩
theorem Qwx {a b:ByteArray}(h:a=b):Ending.returned (ca a)=da (ca b):=by rw[h]
theorem Qzb (s:ByteArray)(i j:Nat)(hr:j7 w v (Qz s.data.toList))(hij:i<j)(hj:j<=(Qz s.data.toList).length)(_hs:s.size<=67108864):dq cl 203 #[ca s,v,A G i,A G j] w fun e w'=>e=da (ca ⟨(Qw (((Qz s.data.toList).drop i).take (j-i))).toArray⟩)/\ ∃n,w'=w.drewN n:=by
 obtain⟨ao,cap,rfl,bU,hcm,aS⟩:=hr.shape
 have hm:(Qz s.data.toList).length<=9223372036854775807:=by unfold maxLen at hcm;omega
 obtain⟨c,hc⟩:∃c,(Qz s.data.toList)[i]?=F c:=⟨_,aad (by omega)⟩;obtain⟨g,rfl,nT,e1,e2,e3⟩:=aS _ c hc;have M:=zq (Dy s.data.toList i j (by omega));have T:=zq (Yi s.data.toList);have b1:=V0 (Qz s.data.toList) i;have b2:=V0 (Qz s.data.toList) j;rw[T.o,<-aa2]at b1 b2
 have b3:(Qw ((Qz s.data.toList).take i)).length<=(Qw ((Qz s.data.toList).take j)).length:=by have:=V0 ((Qz s.data.toList).take j) i;rw[acx,aaG (by omega)]at this;exact this
 clear hcm hr hc;by_cases hlt:j<(Qz s.data.toList).length
 ·obtain⟨d,hd⟩:∃d,(Qz s.data.toList)[j]?=F d:=⟨_,aad hlt⟩
  obtain⟨g',hg',_,d1,d2,d3⟩:=aS _ d hd
  cases hg'
  clear aS hd T;generalize (Qw ((Qz s.data.toList).take i)).length=an at*;generalize (Qw ((Qz s.data.toList).take j)).length=B at*;generalize Qw (((Qz s.data.toList).drop i).take (j-i))=am at*;generalize (Qz s.data.toList).length=N at*;go_enter g9,gd;go_wp2;go_quiet (fail);go_wp2;go_ret;exact⟨Qwx (by rw[Lib.extract_eq,M.o]),_,rfl⟩
 have sZ:j=(Qz s.data.toList).length:=by omega
 have M2:Hid (s.extract (Qw ((Qz s.data.toList).take i)).length s.size=⟨(Qw (((Qz s.data.toList).drop i).take (j-i))).toArray⟩):=by show _=_;have h1:=M.o;rw[sZ,aby,T.o,<-aa2]at h1;rw[Lib.extract_eq,sZ,<-h1]
 clear aS M T sZ;generalize (Qw ((Qz s.data.toList).take i)).length=an at*;generalize (Qw ((Qz s.data.toList).take j)).length=B at*;generalize Qw (((Qz s.data.toList).drop i).take (j-i))=am at*;generalize (Qz s.data.toList).length=N at*;go_enter g9,gd;go_wp2;go_ret;exact⟨Qwx M2,0,rfl⟩
def N5 (c:C):Prop:=kd c=5->rn c<128->c.2=[(rn c).toUInt8]
theorem Bj:∀r:Fin 128,Utf8.encode (r.val:Int)=⟨#[r.val.toUInt8]⟩:=by decide+kernel
theorem Qhw {c:C}(hk:kd c=5)(hc:N5 c):dq cl 207 #[A .i32 (rn c:Nat)] w fun e w'=>e=da (ca ⟨(Z5 c).toArray⟩)/\w=w':=by
 have h5:rn c=0x2212\/rn c=0xd7\/rn c<128:=by
  unfold kd at hk;unfold rn
  cases hv:c.1 with
  |none=>rw[hv]at hk;simp at hk
  |some v=>
   rw[hv]at hk;simp only at hk ⊢;unfold kindOf at hk
   repeat' split at hk
   all_goals omega
 by_cases h1:rn c=0x2212
 ·have hs:Z5 c=[45]:=by unfold Z5;rw[if_pos h1]
  rw[hs,h1];clear hs h1 h5 hc hk;go_enter ff,fb;go_wp2;go_ret;exact⟨rfl,rfl⟩
 by_cases h2:rn c=0xd7
 ·have hs:Z5 c=[42]:=by unfold Z5;rw[if_neg h1,if_pos h2]
  rw[hs,h2];clear hs h1 h2 h5 hc hk;go_enter ff,fb;go_wp2;go_ret;exact⟨rfl,rfl⟩
 have h3:rn c<128:=by omega
 have hs:Z5 c=[(rn c).toUInt8]:=by unfold Z5;rw[if_neg h1,if_neg h2,hc hk h3]
 have he:=Bj ⟨rn c,h3⟩;simp only at he;rw[hs]
 have n1:((rn c:Int)==8722)=dk:=by simp;omega
 have n2:((rn c:Int)==215)=dk:=by simp;omega
 have HE:=zq he;clear hs h1 h2 h5 hc hk he;go_enter ff,fb;go_wp2;go_ret;exact⟨by rw[HE.o];rfl,rfl⟩
def Xz (cs:List C)(i:Nat)(c:C):Nat×Bytes×Nat×Nat:=
 if kd c=0 then (0,[],i,12)
 else if kd c=3 then (1,Qw ((cs.drop i).take (Qp Qn (cs.drop i))),if Jd (Qw ((cs.drop i).take (Qp Qn (cs.drop i)))) then (i,7) else (i+Qp Qn (cs.drop i),0))
 else if kd c=4 then (2,Qw ((cs.drop i).take (Qp aX (cs.drop i))),if 32<(Qw ((cs.drop i).take (Qp aX (cs.drop i)))).length then (i,17) else (i+Qp aX (cs.drop i),0))
 else if kd c=5 then (3,Z5 c,i+1,0)
 else (0,[],i,13)
def Tl (r:Nat×Bytes×Nat×Nat)(i:Nat)(w:db)(e:Ending)(w':db):Prop:=
 e=da (ef #[eS #[A G (r.1:Nat),ca ⟨r.2.1.toArray⟩,A G (i+1:Nat)],A G (r.2.2.1:Nat),A G (r.2.2.2:Nat)])/\de w.heap.size w w'
theorem Jh {r:Nat×Bytes×Nat×Nat}{i:Nat}{a b c d e:fi}(ha:a=A G (r.1:Nat))(hb:b=ca ⟨r.2.1.toArray⟩)(hc:c=A G (i+1:Nat))(hd:d=A G (r.2.2.1:Nat))
  (he:e=A G (r.2.2.2:Nat)) (hw:de w.heap.size w w'):Tl r i w (da (ef #[eS #[a,b,c],d,e])) w':=by
 subst ha hb hc hd he;exact⟨rfl,hw⟩
theorem Qj0 (s:ByteArray){cs:List C}(i:Nat){c:C}(hr:j7 w v cs)(hc:cs[i]?=F c)(hn:cs.length<=67108864)(hk:kd c=0\/kd c=6\/kd c=5)(nW:N5 c):dq cl 158 #[ca s,v,A G i] w (Tl (Xz cs i c) i w):=by
 obtain⟨ao,cap,rfl,bU,hcm,aS⟩:=hr.shape;obtain⟨g,rfl,nT,e1,e2,e3⟩:=aS _ c hc;have hlt:i<cs.length:=(aaf.1 hc).1;clear aS hr hc hcm;rcases hk with hk|hk|hk
 ·have hres:Xz cs i c=(0,[],i,12):=by unfold Xz;rw[if_pos hk]
  rw[hres];rw[hk]at e1;clear hres hk;go_enter du,dl;go_wp2;refine aaD (by simp[results,c9,go_sem];first|rfl|exact⟨rfl,rfl⟩|exact⟨rfl,rfl,rfl⟩) rfl (Jh rfl rfl (by first|rfl|simp) rfl rfl ?_);go_grown
 ·have hres:Xz cs i c=(0,[],i,13):=by unfold Xz;simp[hk]
  rw[hres];rw[hk]at e1;clear hres hk;go_enter du,dl;go_wp2;refine aaD (by simp[results,c9,go_sem];first|rfl|exact⟨rfl,rfl⟩|exact⟨rfl,rfl,rfl⟩) rfl (Jh rfl rfl (by first|rfl|simp) rfl rfl ?_);go_grown
 have hres:Xz cs i c=(3,Z5 c,i+1,0):=by unfold Xz;simp[hk]
 have HK:=zq hk;rw[hres];rw[hk]at e1;clear hres hk;go_enter du,dl;go_wp2_with (go_at_call 207;refine(Qhw HK.o nW).mono ?_;rintro e w' ⟨rfl,rfl⟩);refine aaD (by simp[results,c9,go_sem];first|rfl|exact⟨rfl,rfl⟩|exact⟨rfl,rfl,rfl⟩) rfl (Jh rfl rfl (by first|rfl|simp) (by first|rfl|simp) rfl ?_);go_grown
theorem Qcy {W w1:db}(hb:de W.heap.size W w1):(∀b o,b<W.heap.size->w1.cell? ⟨b,o,Z⟩=W.cell? ⟨b,o,Z⟩)/\(∀b o,b<W.heap.size->w1.frozen? ⟨b,o,Z⟩=W.frozen? ⟨b,o,Z⟩):=
 ⟨fun b o h=>hb.cell (p:=⟨b,o,Z⟩) h,fun b o h=>hb.frozen (p:=⟨b,o,Z⟩) h⟩
theorem Tf (l:Bytes)(i n:Nat):(Qw (((Qz l).drop i).take n)).length<=l.length:=by
 have E:=V0 ((Qz l).drop i) n
 have h:(Qw ((Qz l).drop i)).length<=(Qw (Qz l)).length:=by
  have:Qw ((Qz l).take i)++Qw ((Qz l).drop i)=Qw (Qz l):=by simp only[Qw];rw[<-ab0,abG]
  rw[<-this,aag];omega
 rw[Yi]at h;omega
def Lx (w:db):Prop:=∃m,w.cell? ⟨1,0,Z⟩=F (A G m)
theorem Lx.lt (h:Lx w):1<w.heap.size:=by obtain⟨m,h⟩:=h;exact aaY w _ h
theorem Lx.below (h:Lx w)(hb:de w.heap.size w w'):Lx w':=by have:=h.lt;obtain⟨m,h⟩:=h;exact⟨m,by rw[hb.cell (p:=⟨_,_,_⟩) this];exact h⟩
theorem Kb {s sub:ByteArray}(hs:s.size<=67108864)(hx:Lx w):dq cl 205 #[ca s,ca sub] w fun e w'=>e=da (.bool (Lib.contains s.data.toList sub.data.toList))/\w'=w:=by obtain⟨m,h⟩:=hx;exact strings_Contains s sub m w (by omega) h
theorem Qmg (s:ByteArray)(i:Nat){c:C}(hr:j7 w v (Qz s.data.toList))(hc:(Qz s.data.toList)[i]?=F c)(hs:s.size<=67108864)(hk:kd c=3)(hx:Lx w):dq cl 158 #[ca s,v,A G i] w (Tl (Xz (Qz s.data.toList) i c) i w):=by
 have hn:(Qz s.data.toList).length<=67108864:=by have:=Yk s.data.toList;rw[<-aa2]at this;omega
 have hlt:i<(Qz s.data.toList).length:=(aaf.1 hc).1;have HR:=zq hr;have HX:=zq hx
 have hp:1<=Qp Qn ((Qz s.data.toList).drop i):=by rw[aaL hlt];have:=aad hlt;rw[hc]at this;obtain rfl:=aav this;exact Q8 (by simp[Qn,hk])
 have hq:i+Qp Qn ((Qz s.data.toList).drop i)<=(Qz s.data.toList).length:=by have:=Y8 Qn ((Qz s.data.toList).drop i);rw[aan]at this;omega
 obtain⟨ao,cap,hv,bU,hcm,aS⟩:=hr.shape;obtain⟨g,hao,nT,e1,e2,e3⟩:=aS _ c hc;subst hao
 have hT:(Qw (((Qz s.data.toList).drop i).take (Qp Qn ((Qz s.data.toList).drop i)))).length<=67108864:=by have:=Tf s.data.toList i (Qp Qn ((Qz s.data.toList).drop i));rw[<-aa2]at this;omega
 obtain⟨res,hres⟩:=xq (Xz (Qz s.data.toList) i c);rw[<-hres]
 have pC:Xz (Qz s.data.toList) i c=(1,Qw (((Qz s.data.toList).drop i).take (Qp Qn ((Qz s.data.toList).drop i))),if Jd (Qw (((Qz s.data.toList).drop i).take (Qp Qn ((Qz s.data.toList).drop i)))) then (i,7) else (i+Qp Qn ((Qz s.data.toList).drop i),0)):=by unfold Xz;simp[hk]
 rw[pC]at hres;obtain⟨m,ei⟩:∃m,Qp Qn ((Qz s.data.toList).drop i)=m:=⟨_,rfl⟩;rw[ei]at hres hT hq hp;obtain⟨T,yn⟩:∃T,Qw (((Qz s.data.toList).drop i).take m)=T:=⟨_,rfl⟩;rw[yn]at hres hT;have HM:=zq ei;have HT:=zq yn;have dZ:=zq hres
 have jC:(⟨T.toArray⟩:ByteArray).size<=67108864:=by rw[aa2];simpa using hT
 rw[hk]at e1;subst hv;clear hres pC ei yn hk hc aS hr hx hcm;go_enter du,dl;go_wp2_with fail;refine(Ap Qzm i (HR.o.below ?_) (by omega)).mono ?_
 ·go_grown
 rintro e w1 ⟨rfl,hb1⟩;rw[HM.o];go_wp2_with fail;refine(Qzb s i (i+m) ((HR.o.below ?_).below hb1) (by omega) hq hs).mono ?_
 ·go_grown
 rintro e w2 ⟨rfl,nn,hw2⟩;rw[Nat.add_sub_cancel_left,HT.o];have hb2:=below_drewN hb1 nn;rw[<-hw2]at hb2;clear hw2 hb1 HR e1 e2 e3 HM HT;have hB:de w.heap.size w w2:=Below.trans (by go_grown) (hb2.mono (by simp;omega));obtain⟨hcc,hff⟩:=Qcy hb2;have hz:=hb2.size;simp only[aaV]at hz hcc hff;have q0:w2.cell? ⟨w.heap.size,0,Z⟩=F (A G 0):=(hcc _ _ (by omega)).trans (by simp[go_sem]);have q1:w2.cell? ⟨w.heap.size,1,Z⟩=F (ca ⟨#[]⟩):=(hcc _ _ (by omega)).trans (by simp[go_sem]);have q2:w2.cell? ⟨w.heap.size,2,Z⟩=F (A G 0):=(hcc _ _ (by omega)).trans (by simp[go_sem]);clear hb2
 cases h1:Lib.hasSuffix T [95] with
 |true=>
  have H1:=zq h1
  have bp:Hid ((if Jd T=ex then (i,7) else (i+m,0))=(i,7)):=by show _=_;simp[Jd,h1]
  clear h1;go_wp2_with (go_at_call 204;refine(dj _ _ _ (by omega)).mono ?_;rintro e w' ⟨rfl,rfl⟩;simp only[H1.o]);have HB:=bp.o
  refine aaD (v:=ef #[eS #[A G 1,ca ⟨T.toArray⟩,A G (↑i+1)],A G ↑i,A G 7]) (by simp[results,c9,go_sem,q0,q1,q2]) rfl (Jh (by rw[dZ.o]<;>rfl) (by rw[dZ.o]) (by first|rfl|simp) (by rw[dZ.o,HB]<;>first|rfl|simp) (by rw[dZ.o,HB]<;>first|rfl|simp) ?_)
  go_grown
 |false=>
  have H1:=zq h1
  cases h2:Lib.contains T [95,95] with
  |true=>
   have H2:=zq h2
   have bp:Hid ((if Jd T=ex then (i,7) else (i+m,0))=(i,7)):=by show _=_;simp[Jd,h2]
   clear h1 h2;go_wp2_with (first|(go_at_call 204;refine(dj _ _ _ (by omega)).mono ?_;rintro e w' ⟨rfl,rfl⟩;simp only[H1.o])|(go_at_call 205;refine(Kb jC (HX.o.below (by go_grown))).mono ?_;rintro e w' ⟨rfl,rfl⟩;simp only[H2.o]));have HB:=bp.o
   refine aaD (v:=ef #[eS #[A G 1,ca ⟨T.toArray⟩,A G (↑i+1)],A G ↑i,A G 7]) (by simp[results,c9,go_sem,q0,q1,q2]) rfl (Jh (by rw[dZ.o]<;>rfl) (by rw[dZ.o]) (by first|rfl|simp) (by rw[dZ.o,HB]<;>first|rfl|simp) (by rw[dZ.o,HB]<;>first|rfl|simp) ?_)
   go_grown
  |false=>
   have H2:=zq h2
   have bp:Hid ((if Jd T=ex then (i,7) else (i+m,0))=(i+m,0)):=by show _=_;simp[Jd,h1,h2]
   clear h1 h2;go_wp2_with (first|(go_at_call 204;refine(dj _ _ _ (by omega)).mono ?_;rintro e w' ⟨rfl,rfl⟩;simp only[H1.o])|(go_at_call 205;refine(Kb jC (HX.o.below (by go_grown))).mono ?_;rintro e w' ⟨rfl,rfl⟩;simp only[H2.o]));have HB:=bp.o
   refine aaD (v:=ef #[eS #[A G 1,ca ⟨T.toArray⟩,A G (↑i+1)],A G (↑i+ ↑m),A G 0]) (by simp[results,c9,go_sem,q0,q1,q2]) rfl (Jh (by rw[dZ.o]<;>rfl) (by rw[dZ.o]) (by first|rfl|simp) (by rw[dZ.o,HB]<;>first|rfl|simp) (by rw[dZ.o,HB]<;>first|rfl|simp) ?_)
   go_grown
theorem Qyf (s:ByteArray)(i:Nat){c:C}(hr:j7 w v (Qz s.data.toList))(hc:(Qz s.data.toList)[i]?=F c)(hs:s.size<=67108864)(hk:kd c=4)(hx:Lx w):dq cl 158 #[ca s,v,A G i] w (Tl (Xz (Qz s.data.toList) i c) i w):=by
 have hn:(Qz s.data.toList).length<=67108864:=by have:=Yk s.data.toList;rw[<-aa2]at this;omega
 have hlt:i<(Qz s.data.toList).length:=(aaf.1 hc).1;have HR:=zq hr;have HX:=zq hx
 have hp:1<=Qp aX ((Qz s.data.toList).drop i):=by rw[aaL hlt];have:=aad hlt;rw[hc]at this;obtain rfl:=aav this;exact Q8 (by simp[aX,hk])
 have hq:i+Qp aX ((Qz s.data.toList).drop i)<=(Qz s.data.toList).length:=by have:=Y8 aX ((Qz s.data.toList).drop i);rw[aan]at this;omega
 obtain⟨ao,cap,hv,bU,hcm,aS⟩:=hr.shape;obtain⟨g,hao,nT,e1,e2,e3⟩:=aS _ c hc;subst hao
 have hT:(Qw (((Qz s.data.toList).drop i).take (Qp aX ((Qz s.data.toList).drop i)))).length<=67108864:=by have:=Tf s.data.toList i (Qp aX ((Qz s.data.toList).drop i));rw[<-aa2]at this;omega
 obtain⟨res,hres⟩:=xq (Xz (Qz s.data.toList) i c);rw[<-hres]
 have pC:Xz (Qz s.data.toList) i c=(2,Qw (((Qz s.data.toList).drop i).take (Qp aX ((Qz s.data.toList).drop i))),if 32<(Qw (((Qz s.data.toList).drop i).take (Qp aX ((Qz s.data.toList).drop i)))).length then (i,17) else (i+Qp aX ((Qz s.data.toList).drop i),0)):=by unfold Xz;simp[hk]
 rw[pC]at hres;obtain⟨m,ei⟩:∃m,Qp aX ((Qz s.data.toList).drop i)=m:=⟨_,rfl⟩;rw[ei]at hres hT hq hp;obtain⟨T,yn⟩:∃T,Qw (((Qz s.data.toList).drop i).take m)=T:=⟨_,rfl⟩;rw[yn]at hres hT;have HM:=zq ei;have HT:=zq yn;have dZ:=zq hres
 have jC:(⟨T.toArray⟩:ByteArray).size<=67108864:=by rw[aa2];simpa using hT
 rw[hk]at e1;subst hv;clear hres pC ei yn hk hc aS hr hx hcm;go_enter du,dl;go_wp2_with fail;refine(Ap Qvl i (HR.o.below ?_) (by omega)).mono ?_
 ·go_grown
 rintro e w1 ⟨rfl,hb1⟩;rw[HM.o];go_wp2_with fail;refine(Qzb s i (i+m) ((HR.o.below ?_).below hb1) (by omega) hq hs).mono ?_
 ·go_grown
 rintro e w2 ⟨rfl,nn,hw2⟩;rw[Nat.add_sub_cancel_left,HT.o];have hb2:=below_drewN hb1 nn;rw[<-hw2]at hb2;clear hw2 hb1 HR e1 e2 e3 HM HT;have hB:de w.heap.size w w2:=Below.trans (by go_grown) (hb2.mono (by simp;omega));obtain⟨hcc,hff⟩:=Qcy hb2;have hz:=hb2.size;simp only[aaV]at hz hcc hff;have q0:w2.cell? ⟨w.heap.size,0,Z⟩=F (A G 0):=(hcc _ _ (by omega)).trans (by simp[go_sem]);have q1:w2.cell? ⟨w.heap.size,1,Z⟩=F (ca ⟨#[]⟩):=(hcc _ _ (by omega)).trans (by simp[go_sem]);have q2:w2.cell? ⟨w.heap.size,2,Z⟩=F (A G 0):=(hcc _ _ (by omega)).trans (by simp[go_sem]);clear hb2
 have hsz:(⟨T.toArray⟩:ByteArray).size=T.length:=by rw[aa2]
 have dy:=zq hsz;clear hsz;by_cases h1:32<T.length
 ·have bp:Hid ((if 32<T.length then (i,17) else (i+m,0))=(i,17)):=by show _=_;rw[if_pos h1]
  have h3:(32:Int)<((⟨T.toArray⟩:ByteArray).size:Int):=by rw[dy.o];omega
  go_wp2;have HB:=bp.o
  refine aaD (v:=ef #[eS #[A G 2,ca ⟨T.toArray⟩,A G (↑i+1)],A G ↑i,A G 17]) (by simp[results,c9,go_sem,q0,q1,q2]) rfl (Jh (by rw[dZ.o]<;>rfl) (by rw[dZ.o]) (by first|rfl|simp) (by rw[dZ.o,HB]<;>first|rfl|simp) (by rw[dZ.o,HB]<;>first|rfl|simp) ?_)
  go_grown
 have bp:Hid ((if 32<T.length then (i,17) else (i+m,0))=(i+m,0)):=by show _=_;rw[if_neg h1]
 have h3: ¬(32:Int)<((⟨T.toArray⟩:ByteArray).size:Int):=by rw[dy.o];omega
 go_wp2;have HB:=bp.o
 refine aaD (v:=ef #[eS #[A G 2,ca ⟨T.toArray⟩,A G (↑i+1)],A G (↑i+ ↑m),A G 0]) (by simp[results,c9,go_sem,q0,q1,q2]) rfl (Jh (by rw[dZ.o]<;>rfl) (by rw[dZ.o]) (by first|rfl|simp) (by rw[dZ.o,HB]<;>first|rfl|simp) (by rw[dZ.o,HB]<;>first|rfl|simp) ?_)
 go_grown
theorem Qmp (s:ByteArray)(i:Nat){c:C}(hr:j7 w v (Qz s.data.toList))(hc:(Qz s.data.toList)[i]?=F c)(hs:s.size<=67108864)(h1:kd c≠1)(h2:kd c≠2)(nW:N5 c)(hx:Lx w):dq cl 158 #[ca s,v,A G i] w (Tl (Xz (Qz s.data.toList) i c) i w):=by
 have E:=Fk c
 have h:(Qz s.data.toList).length<=67108864:=by have:=Yk s.data.toList;rw[<-aa2]at this;omega
 by_cases h3:kd c=3
 ·exact Qmg s i hr hc hs h3 hx
 by_cases h4:kd c=4
 ·exact Qyf s i hr hc hs h4 hx
 exact Qj0 s i hr hc h (by omega) nW
end Go.Proofs.YtgfmiladfeoldaaGreatDoor
