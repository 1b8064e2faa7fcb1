import Derived.Test.YtgfmiladfeoldaaGreatDoorPk5
set_option linter.unusedSimpArgs false
set_option linter.unusedVariables false
set_option maxRecDepth 100000
set_option maxHeartbeats 16000000
namespace Go.Proofs.YtgfmiladfeoldaaGreatDoor
open Go.RowKit ag aF
theorem Qy6 (j:Nat)(w:World)(hj:j<10):Calls Tryz.prog 194 #[.int .u8 ((48+j:Nat):Int)] w fun e w'=>e=.returned (.int .i64 (j:Nat))/\w=w':=by
 have h:j=0\/j=1\/j=2\/j=3\/j=4\/j=5\/j=6\/j=7\/j=8\/j=9:=by omega
 rcases h with rfl|rfl|rfl|rfl|rfl|rfl|rfl|rfl|rfl|rfl
 all_goals
  go_enter Tryz.func194,Tryz.ntmps194;go_wp2_with fail;refine wp_loop_rounds 10 ?_
  repeat (rw[rounds_succ];go_wp2_with fail)
  go_ret;exact⟨rfl,rfl⟩
def Au (ds:List Nat)(w:World)(e:Ending)(w':World):Prop:=
 ∃v,e=.returned (.tuple #[v,.int .i64 0])/\jn w.heap.size w' v (Jx (Qd ds))/\Below w.heap.size w w'
def Qf9 (l:Bytes)(w:World)(dv i:Value)(wr:World):Prop:=
 ∃k,k<=l.length/\i=.int .i64 (k:Nat)/\bX w.heap.size wr dv (gG (l.take k))/\Below w.heap.size w wr
theorem Qxc (s:ByteArray)(w:World)(hs:s.size<=1048576)(hne:s.toList.isEmpty=false)(hd:∀c∈s.data.toList,Qf c=true):Calls Tryz.prog 150 #[.string s,.int .i64 10] w (Au (gG s.data.toList) w):=by
 have HD:=zq hd;have hsz:=zq (abg s);clear hd;go_enter Tryz.func150,Tryz.ntmps150;go_wp2_with fail;go_loopw [6,7] (fun dv i wr=>Qf9 s.data.toList w dv i wr) (fun _ i _=>s.size-(intOf i).toNat)
 case atStart=>exact⟨0,aao _,rfl,adC _ _ _ _,aa8 _ _⟩
 case round=>
  obtain⟨k,hk,rfl,hown,hb⟩:=hrel;have hzz:=hb.size;rw[<-hsz.o]at hk;by_cases hlt:k<s.size
  ·have hlt':k<s.data.toList.length:=by have:=hsz.o;omega
   have e2:s.data.toList[k]=s[k]:=rfl;have mN:=HD.o s.data.toList[k] (ae6 hlt');rw[e2]at mN;obtain⟨j,hj,hjc⟩:∃j,j<10/\s[k].toNat=48+j:=⟨s[k].toNat-48,by simp[Qf]at mN;omega,by simp[Qf]at mN;omega⟩
   have HSN:Hid (gG (s.data.toList.take (k+1))=Y6 (gG (s.data.toList.take k)) 10 j):=by show _=_;rw[adw hlt',Qyh,e2,hjc];congr 1;omega
   have fh:=Np (s.data.toList.take k)
   have cE:(gG (s.data.toList.take k)).length<=2097152:=by rw[aak]at fh;omega
   have sf:=zq (Tu (s.data.toList.take k));have HJC:=zq hjc;clear mN e2 fh hjc;go_wp2_with fail;rw[HJC.o];refine(Qy6 j _ hj).mono ?_;rintro e w' ⟨rfl,rfl⟩
   have acJ: ¬(10:Int)<=(j:Int):=by omega
   go_wp2_with fail;refine(Qms w.heap.size _ 10 j u6 wr hown hzz sf.o (by omega) (by omega) cE).mono ?_;rintro e w2 ⟨v2,rfl,hown2,hb2⟩;have ah:Qf9 s.data.toList w v2 (.int .i64 (k+1)) w2:=⟨k+1,by omega,by go_num,by rw[HSN.o];exact hown2,hb.trans hb2⟩;have HF:=zq ah;clear hown2 hb2 ah;go_wp2_with fail
   first|exact⟨HF.o,by simp[intOf]<;>omega⟩|exact⟨by (repeat apply Exists.intro);exact⟨HF.o,rfl⟩,by simp[intOf]<;>omega⟩
  have bh:s.data.toList.take k=s.data.toList:=aat (by have:=hsz.o;omega);rw[bh]at hown;have fh:=Np s.data.toList;rw[<-hsz.o]at fh;have sf:=zq (Tu s.data.toList);go_wp2_with fail;refine(Gl w.heap.size _ u6 wr hown sf.o (by omega)).mono ?_;rintro e w2 ⟨v2,rfl,hown2,hb2⟩;have ou:Hid (jn w.heap.size w2 v2 (Jx (Qd (gG s.data.toList)))):=X0 hown2 hzz;have aD:Hid (Below w.heap.size w w2):=hb.trans (hb2.mono hzz);clear hown2 hb2;go_wp2_with fail;go_ret2;exact⟨_,rfl,ou.o,aD.o⟩
end Go.Proofs.YtgfmiladfeoldaaGreatDoor
namespace ag
open Go.Lib
def Uj (t:Bytes)(i:Nat):Bool:=t[i]?==some 95 && (i==0||decide (t.length<=i+1)||t[i-1]?==some 95||t[i+1]?==some 95)
def Xi (t:Bytes):Bool:=(List.range t.length).any (Uj t)
theorem Zt (t:Bytes):Xi t=true↔ ∃i,i<t.length/\Uj t i=true:=by simp[Xi,aew]
theorem Bd (t:Bytes)(j:Nat):occAt t [95,95] j=true↔t[j]?=some 95/\t[j+1]?=some 95:=by
 unfold occAt;rw[List.isPrefixOf_iff_prefix]
 have h:(t.drop j)[0]?=t[j]? :=by rw[adp];rfl
 have E:(t.drop j)[1]?=t[j+1]? :=by rw[adp]
 rw[<-h,<-E]
 match t.drop j with
 | []=>simp
 | [a]=>simp
 |a::b::r=>simp;constructor<;>(rintro ⟨rfl,rfl⟩;exact⟨rfl,rfl⟩)
theorem Ca (t sub:Bytes)(hs:sub≠[]):contains t sub=true↔ ∃j,occAt t sub j=true:=by
 unfold contains;rw[aaV];constructor
 ·intro h
  apply Classical.byContradiction;intro T
  have:index t sub= -1:=index_none fun j _=>by
   cases ho:occAt t sub j with
   |false=>rfl
   |true=>exact absurd ⟨j,ho⟩ T
  omega
 rintro ⟨j,O⟩
 have K:∀n,(∃j,j<n/\occAt t sub j=true)-> ∃i,occAt t sub i=true/\ ∀k,k<i->occAt t sub k=false:=by
  intro n
  induction n with
  |zero=>rintro ⟨j,h,_⟩;omega
  |succ n ih=>
   rintro ⟨j,H,E⟩;by_cases h:∃j,j<n/\occAt t sub j=true
   ·exact ih h
   have I:j=n:=by apply Classical.byContradiction;intro U;exact h ⟨j,by omega,E⟩
   subst I;refine⟨j,E,fun k hk=> ?_⟩
   cases ho:occAt t sub k with
   |false=>rfl
   |true=>exact absurd ⟨k,hk,ho⟩ h
 obtain⟨i,H,E⟩:=K (j+1) ⟨j,by omega,O⟩
 have J:i<=t.length:=by
  rcases occAt_room H with h|h
  ·omega
  exact absurd h hs
 rw[index_first J H E];omega
theorem Qvf (t:Bytes):hasSuffix t [95]=true↔ ∃i,t.length=i+1/\t[i]?=some 95:=by
 unfold hasSuffix;rw[List.isSuffixOf_iff_suffix];constructor
 ·rintro ⟨q,rfl⟩
  exact⟨q.length,by simp,by simp⟩
 rintro ⟨i,h,E⟩;refine⟨t.take i,?_⟩;have:=ab2 (l:=t) (i:=i);rw[E,<-h,adx]at this;exact this.symm
theorem Us {t:Bytes}(h0:t[0]? ≠some 95):Jf t=Xi t:=by
 rw[abA,Zt];unfold Jf;rw[aep,Qvf,Ca t [95,95] (by simp)];constructor
 ·rintro (⟨i,J,H⟩|⟨j,I⟩)
  ·have K:decide (t.length<=i+1)=true:=abH (by omega)
   exact⟨i,by omega,by simp only[Uj,H,K,aeW,aeG,Bool.or_true,Bool.true_or]⟩
  rw[Bd]at I;have:j<t.length:=(aae.1 I.1).1;exact⟨j,this,by simp only[Uj,I.1,I.2,aeW,aeG,Bool.or_true]⟩
 rintro ⟨i,J,H⟩;simp only[Uj,aaY,adN,aep,aaV]at H;obtain⟨E,((h|h)|h)|h⟩:=H
 ·subst h;exact absurd E h0
 ·exact .inl ⟨i,by omega,E⟩
 ·have:i≠0:=by rintro rfl;exact h0 E
  exact .inr ⟨i-1,by rw[Bd];exact⟨h,by rw[show i-1+1=i from by omega];exact E⟩⟩
 exact .inr ⟨i,by rw[Bd];exact⟨E,h⟩⟩
def Jl (t:Bytes):Prop:=∀c∈t,aF.Qf c=true\/c=95
end ag
namespace Go.Proofs.YtgfmiladfeoldaaGreatDoor
open Go.RowKit ag aF
def Qr (l:Bytes):List Value:=l.map fun c=> .int .u8 (c.toNat:Nat)
theorem Qo (a b:Bytes):Qr (a++b)=Qr a++Qr b:=by simp[Qr]
theorem Tryz.jM:(Tryz.prog.info? 5).map (fun i=>(i.zero,i.size,i.bytes))=some (some (.int .u8 0),1,1):=by kernel_rfl
def cz (B:Nat)(w:World)(v:Value)(ds:Bytes):Prop:=w.ownsRow B 5 1 v ds.length (Qr ds)
theorem Qm2:∀(l:Bytes) (s:ByteArray),(l.map fun c=>((c.toNat:Nat):Int)).foldl (fun r n=>r.push (UInt8.ofNat n.toNat)) s=⟨s.data++l.toArray⟩:=by
 intro l
 induction l with
 |nil=>intro s;simp
 |cons c l ih=>intro s;simp only[abK,List.foldl_cons,ae2,UInt8.ofNat_toNat];rw[ih];show (⟨s.data.push c++l.toArray⟩:ByteArray)=_;congr 1;simp
theorem J8 {B:Nat}{w:World}{v:Value}{l:Bytes}(h:cz B w v l):(convert 88 9 v).run Tryz.prog w=.ok (.string ⟨l.toArray⟩) w:=by
 rcases lQ h with ⟨rfl,E,K⟩|⟨g,H,rfl,-,-,-,-,-⟩
 ·rw[run_convert_bytes_string w _ _ 5 none 0 0 Tryz.underlying88 Tryz.underlying5 Tryz.underlying9]
  obtain rfl:l=[]:=aaq E;rfl
 rw[run_convert_bytes_string w _ _ 5 _ _ _ Tryz.underlying88 Tryz.underlying5 Tryz.underlying9];have J:=h.cells (g:=g) rfl;have I:=run_loadCells_list (P:=Tryz.prog) (w:=w) ⟨g,0,none⟩ (Qr l) J
 have e:Qr l=(l.map fun c=>((c.toNat:Nat):Int)).map (Value.int .u8):=by simp[Qr]
 have E:(Qr l).length=l.length:=by simp[Qr]
 rw[E,e]at I;rw[run_bytesToString w ⟨g,0,none⟩ l.length H _ I,Qm2];congr 2;simp
theorem Ww (v:Value)(h:v.oneCell'=true):∀u∈[v],u.oneCell'=true:=by intro u E;simp only[abu]at E;subst E;exact h
def Qcu (t:Bytes)(w:World)(e:Ending)(w':World):Prop:=
 (Xi t=true/\e=.returned (.tuple #[.slice none 0 0,.int .i64 7])/\Below w.heap.size w w')\/(Xi t=false/\Au (gG (t.filter Qf)) w e w')
def RI (t:Bytes)(w:World)(lv i:Value)(wr:World):Prop:=
 ∃k,k<=t.length/\i=.int .i64 (k:Nat)/\cz w.heap.size wr lv ((t.take k).filter Qf)/\Below w.heap.size w wr/\ ∀j,j<k->Uj t j=false
theorem Kt (s:ByteArray)(w:World)(hs:s.size<=1048576)(hr:Jl s.data.toList)(h0:∃c,s.data.toList[0]?=some c/\Qf c=true):Calls Tryz.prog 87 #[.string s] w (Qcu s.data.toList w):=by
 obtain⟨i0,hi,hz0,hz1,hz2⟩:=abO Tryz.jM;have HR:=zq hr;have H0:=zq h0;have hsz:=zq (abg s);clear hr h0;go_enter Tryz.func87,Tryz.ntmps87;go_wp2_with fail;go_loopw [4,5] (fun lv i wr=>RI s.data.toList w lv i wr) (fun _ i _=>s.size-(intOf i).toNat)
 case atStart=>exact⟨0,aao _,rfl,adC _ _ _ _,aa8 _ _,fun j h=>absurd h (aeP _)⟩
 case round=>
  obtain⟨k,hk,rfl,hown,hb,dB⟩:=hrel;have hzz:=hb.size
  have iz:((s.data.toList.take k).filter Qf).length<=k:=by have h1:=aes Qf (s.data.toList.take k);have h2:=aeC k s.data.toList;omega
  rw[<-hsz.o]at hk;have HG:=zq dB;clear dB;by_cases hlt:k<s.size
  ·have hlt':k<s.data.toList.length:=by have:=hsz.o;omega
   have hlen:s.data.toList.length=s.size:=hsz.o.symm;have e2:s.data.toList[k]=s[k]:=rfl;have fM:=HR.o s.data.toList[k] (ae6 hlt');rw[e2]at fM
   have dc:(0:Int)<=(k:Int):=by omega
   have kP:((k:Int)+1).toNat=k+1:=by omega
   by_cases dO:Qf s[k]=true
   ·have ry:Hid (∀(v3:Value) (w3:World),w3.ownsRow w.heap.size 5 1 v3 (((s.data.toList.take k).filter Qf).length+1) (Qr ((s.data.toList.take k).filter Qf)++[.int .u8 s[k].toNat])->Below w.heap.size w w3->RI s.data.toList w v3 (.int .i64 (k+1)) w3):=by
     intro v3 w3 ho hb3
     have e:(s.data.toList.take (k+1)).filter Qf=(s.data.toList.take k).filter Qf++[s[k]]:=by rw[adw hlt',List.filter_append,e2];simp[dO]
     refine⟨k+1,by omega,by go_num,?_,hb3,fun j hj=> ?_⟩
     ·show World.ownsRow _ _ _ _ _ _ _
      rw[e,Qo,aac];exact ho
     rcases Nat.lt_succ_iff_lt_or_eq.1 hj with h|rfl
     ·exact HG.o j h
     simp only[Uj,Bool.and_eq_false_iff];left;rw[aad hlt',e2];simp only[beq_eq_false_iff_ne,ne_eq,Option.some.injEq];intro h;rw[h]at dO;exact absurd dO (by decide)
    have aaE:48<=s[k].toNat/\s[k].toNat<=57:=by simpa [Qf] using dO
    obtain⟨tq,ja⟩:=aaE;clear e2 fM dO hlen;by_cases hA:k=0
    ·have hC:=trivial;have hD:=trivial
     have f1: ¬(0:Int)<(k:Int):=by omega
     have f1b:decide ((0:Int)<(k:Int))=false:=abC f1
     have ZW: ¬0<k:=by omega
     have f1d:decide (0<k)=false:=abC ZW;have HA:=zq hA;clear hA;clear hC hD;go_wp2_with (at_builtin;refine adO _ rfl _ _ 88 rfl w.heap.size 5 i0 (.int .u8 0) 1 1 Tryz.underlying88 hi hz0 hz1 hz2 rfl (by decide) _ _ _ rfl (abj hown _) ⟨wr.heap.size,0,none⟩ 1 1 [.int .u8 s[k].toNat] rfl rfl (Qh _ _ _ _ rfl) (Ww _ rfl) (by unfold maxLen;omega) (by omega) (by simp;omega) ?_);intro v3 w3 au ak _;have HF:=zq (ry.o v3 w3 au (abq (hb.alloc hzz _) ak (by simp;omega) (fun q hq=>(aaZ hown q hq).1)));clear au ak;go_wp2_with fail
     first|exact⟨HF.o,by simp[intOf]<;>omega⟩|exact⟨by (repeat apply Exists.intro);exact⟨HF.o,rfl⟩,by simp[intOf]<;>omega⟩
    by_cases hB:s.size<=k+1
    ·have hC:=trivial;have hD:=trivial
     have f1:(0:Int)<(k:Int):=by omega
     have f2: ¬(k:Int)+1<(s.size:Int):=by omega
     clear hC hD;go_wp2_with (at_builtin;refine adO _ rfl _ _ 88 rfl w.heap.size 5 i0 (.int .u8 0) 1 1 Tryz.underlying88 hi hz0 hz1 hz2 rfl (by decide) _ _ _ rfl (abj hown _) ⟨wr.heap.size,0,none⟩ 1 1 [.int .u8 s[k].toNat] rfl rfl (Qh _ _ _ _ rfl) (Ww _ rfl) (by unfold maxLen;omega) (by omega) (by simp;omega) ?_);intro v3 w3 au ak _;have HF:=zq (ry.o v3 w3 au (abq (hb.alloc hzz _) ak (by simp;omega) (fun q hq=>(aaZ hown q hq).1)));clear au ak;go_wp2_with fail
     first|exact⟨HF.o,by simp[intOf]<;>omega⟩|exact⟨by (repeat apply Exists.intro);exact⟨HF.o,rfl⟩,by simp[intOf]<;>omega⟩
    by_cases hC:(s[k-1]'(by omega)).toNat=95
    ·have hD:=trivial
     have f1:(0:Int)<(k:Int):=by omega
     have f2:(k:Int)+1<(s.size:Int):=by omega
     have f3:(((s[k-1]'(by omega)).toNat:Int) !=95)=false:=by simp[hC]
     clear hC hD;go_wp2_with (at_builtin;refine adO _ rfl _ _ 88 rfl w.heap.size 5 i0 (.int .u8 0) 1 1 Tryz.underlying88 hi hz0 hz1 hz2 rfl (by decide) _ _ _ rfl (abj hown _) ⟨wr.heap.size,0,none⟩ 1 1 [.int .u8 s[k].toNat] rfl rfl (Qh _ _ _ _ rfl) (Ww _ rfl) (by unfold maxLen;omega) (by omega) (by simp;omega) ?_);intro v3 w3 au ak _;have HF:=zq (ry.o v3 w3 au (abq (hb.alloc hzz _) ak (by simp;omega) (fun q hq=>(aaZ hown q hq).1)));clear au ak;go_wp2_with fail
     first|exact⟨HF.o,by simp[intOf]<;>omega⟩|exact⟨by (repeat apply Exists.intro);exact⟨HF.o,rfl⟩,by simp[intOf]<;>omega⟩
    by_cases hD:(s[k+1]'(by omega)).toNat=95
    ·skip
     have f1:(0:Int)<(k:Int):=by omega
     have f2:(k:Int)+1<(s.size:Int):=by omega
     have f3:(((s[k-1]'(by omega)).toNat:Int) !=95)=true:=by simp[hC];omega
     have f4:(((s[k+1]'(by omega)).toNat:Int) !=95)=false:=by simp[hD]
     clear hC hD;go_wp2_with (at_builtin;refine adO _ rfl _ _ 88 rfl w.heap.size 5 i0 (.int .u8 0) 1 1 Tryz.underlying88 hi hz0 hz1 hz2 rfl (by decide) _ _ _ rfl (abj hown _) ⟨wr.heap.size,0,none⟩ 1 1 [.int .u8 s[k].toNat] rfl rfl (Qh _ _ _ _ rfl) (Ww _ rfl) (by unfold maxLen;omega) (by omega) (by simp;omega) ?_);intro v3 w3 au ak _;have HF:=zq (ry.o v3 w3 au (abq (hb.alloc hzz _) ak (by simp;omega) (fun q hq=>(aaZ hown q hq).1)));clear au ak;go_wp2_with fail
     first|exact⟨HF.o,by simp[intOf]<;>omega⟩|exact⟨by (repeat apply Exists.intro);exact⟨HF.o,rfl⟩,by simp[intOf]<;>omega⟩
    skip
    have f1:(0:Int)<(k:Int):=by omega
    have f2:(k:Int)+1<(s.size:Int):=by omega
    have f3:(((s[k-1]'(by omega)).toNat:Int) !=95)=true:=by simp[hC];omega
    have f4:(((s[k+1]'(by omega)).toNat:Int) !=95)=true:=by simp[hD];omega
    clear hC hD;go_wp2_with (at_builtin;refine adO _ rfl _ _ 88 rfl w.heap.size 5 i0 (.int .u8 0) 1 1 Tryz.underlying88 hi hz0 hz1 hz2 rfl (by decide) _ _ _ rfl (abj hown _) ⟨wr.heap.size,0,none⟩ 1 1 [.int .u8 s[k].toNat] rfl rfl (Qh _ _ _ _ rfl) (Ww _ rfl) (by unfold maxLen;omega) (by omega) (by simp;omega) ?_);intro v3 w3 au ak _;have HF:=zq (ry.o v3 w3 au (abq (hb.alloc hzz _) ak (by simp;omega) (fun q hq=>(aaZ hown q hq).1)));clear au ak;go_wp2_with fail
    first|exact⟨HF.o,by simp[intOf]<;>omega⟩|exact⟨by (repeat apply Exists.intro);exact⟨HF.o,rfl⟩,by simp[intOf]<;>omega⟩
   have kM:s[k]=95:=fM.resolve_left dO
   have Lz:s[k].toNat=95:=by rw[kM];rfl
   have FIU:Hid (Uj s.data.toList k=false->RI s.data.toList w u4 (.int .i64 (k+1)) wr):=by
    intro hu
    have e:(s.data.toList.take (k+1)).filter Qf=(s.data.toList.take k).filter Qf:=by rw[adw hlt',List.filter_append,e2];simp[dO]
    refine⟨k+1,by omega,by go_num,?_,hb,fun j hj=> ?_⟩
    ·rw[e];exact hown
    rcases Nat.lt_succ_iff_lt_or_eq.1 hj with h|rfl
    ·exact HG.o j h
    exact hu
   have PL:Hid ((k==0||decide (s.data.toList.length<=k+1)||s.data.toList[k-1]?==some 95||s.data.toList[k+1]?==some 95)=true->Xi s.data.toList=true):=by intro hu;rw[Zt];refine⟨k,hlt',?_⟩;unfold Uj;rw[hu,aad hlt',e2,kM];rfl
   have tq:58<=s[k].toNat:=by omega
   have ja:((s[k].toNat:Int) !=95)=false:=by simp[Lz]
   have hd3:decide ((s[k].toNat:Int)<=57)=false:=abC (by omega);clear e2 fM dO kM Lz;by_cases hA:k=0
   ·have hC:=trivial;have hD:=trivial
    have f1: ¬(0:Int)<(k:Int):=by omega
    have f1b:decide ((0:Int)<(k:Int))=false:=abC f1
    have ZW: ¬0<k:=by omega
    have f1d:decide (0<k)=false:=abC ZW;have HA:=zq hA;clear hA;have HU:Hid (Xi s.data.toList=true):=PL.o (by rw[show (k==0)=true from by simp;exact HA.o];simp);clear hC hD;go_wp2_with fail;go_ret2;exact .inl ⟨HU.o,rfl,hb⟩
   by_cases hB:s.size<=k+1
   ·have hC:=trivial;have hD:=trivial
    have f1:(0:Int)<(k:Int):=by omega
    have f2: ¬(k:Int)+1<(s.size:Int):=by omega
    have HU:Hid (Xi s.data.toList=true):=PL.o (by rw[show decide (s.data.toList.length<=k+1)=true from abH (by omega)];simp);clear hC hD;go_wp2_with fail;go_ret2;exact .inl ⟨HU.o,rfl,hb⟩
   by_cases hC:(s[k-1]'(by omega)).toNat=95
   ·have hD:=trivial
    have f1:(0:Int)<(k:Int):=by omega
    have f2:(k:Int)+1<(s.size:Int):=by omega
    have f3:(((s[k-1]'(by omega)).toNat:Int) !=95)=false:=by simp[hC]
    have HU:Hid (Xi s.data.toList=true):=PL.o (by rw[show (s.data.toList[k-1]?==some 95)=true from by rw[aad (by omega)];simp only[adN,Option.some.injEq];exact aer.1 hC];simp);clear hC hD;go_wp2_with fail;go_ret2;exact .inl ⟨HU.o,rfl,hb⟩
   by_cases hD:(s[k+1]'(by omega)).toNat=95
   ·skip
    have f1:(0:Int)<(k:Int):=by omega
    have f2:(k:Int)+1<(s.size:Int):=by omega
    have f3:(((s[k-1]'(by omega)).toNat:Int) !=95)=true:=by simp[hC];omega
    have f4:(((s[k+1]'(by omega)).toNat:Int) !=95)=false:=by simp[hD]
    have HU:Hid (Xi s.data.toList=true):=PL.o (by rw[show (s.data.toList[k+1]?==some 95)=true from by rw[aad (by omega)];simp only[adN,Option.some.injEq];exact aer.1 hD];simp);clear hC hD;go_wp2_with fail;go_ret2;exact .inl ⟨HU.o,rfl,hb⟩
   skip
   have f1:(0:Int)<(k:Int):=by omega
   have f2:(k:Int)+1<(s.size:Int):=by omega
   have f3:(((s[k-1]'(by omega)).toNat:Int) !=95)=true:=by simp[hC];omega
   have f4:(((s[k+1]'(by omega)).toNat:Int) !=95)=true:=by simp[hD];omega
   have HU:Hid (RI s.data.toList w u4 (.int .i64 (k+1)) wr):=FIU.o (by
    simp only[Uj,Bool.and_eq_false_iff,Bool.or_eq_false_iff];right;refine⟨⟨⟨by simp;omega,by simp;omega⟩,?_⟩,?_⟩
    ·rw[aad (by omega)];simp only[beq_eq_false_iff_ne,ne_eq,Option.some.injEq];intro h;exact hC (by have:=aa7 UInt8.toNat h;exact this)
    rw[aad (by omega)];simp only[beq_eq_false_iff_ne,ne_eq,Option.some.injEq];intro h;exact hD (by have:=aa7 UInt8.toNat h;exact this))
   clear hC hD;go_wp2_with fail
   first|exact⟨HU.o,by simp[intOf]<;>omega⟩|exact⟨by (repeat apply Exists.intro);exact⟨HU.o,rfl⟩,by simp[intOf]<;>omega⟩
  have bh:s.data.toList.take k=s.data.toList:=aat (by have:=hsz.o;omega);rw[bh]at hown
  have hgd:Hid (Xi s.data.toList=false):=by
   show _=_
   cases hab:Xi s.data.toList with
   |false=>rfl
   |true=>obtain⟨j,GI,hj2⟩:=(Zt _).1 hab;have:=HG.o j (by have:=hsz.o;omega);rw[hj2]at this;cases this
  have hcv:=J8 (B:=w.heap.size) (w:=wr) (v:=u4) hown
  have hne:(⟨(s.data.toList.filter Qf).toArray⟩:ByteArray).toList.isEmpty=false:=by
   obtain⟨c,hc1,hc2⟩:=H0.o;rw[Lib.toList_data];simp only[List.toList_toArray];have:c∈s.data.toList.filter Qf:=List.mem_filter.2 ⟨aah hc1,hc2⟩
   cases hf:s.data.toList.filter Qf with
   |nil=>rw[hf]at this;cases this
   |cons _ _=>rfl
  have MK:(⟨(s.data.toList.filter Qf).toArray⟩:ByteArray).size<=1048576:=by rw[abg];have:=aes Qf s.data.toList;rw[<-hsz.o]at this;simp only[List.toList_toArray];omega
  have hfd:Hid (∀c∈(⟨(s.data.toList.filter Qf).toArray⟩:ByteArray).data.toList,Qf c=true):=by intro c hc;simp only[List.toList_toArray]at hc;exact(List.mem_filter.1 hc).2
  have bR:=zq hne;clear bh hne;go_wp2_with fail;refine(Qxc _ wr MK bR.o hfd.o).mono ?_;rintro e w2 ⟨v2,rfl,hown2,hb2⟩;have ou:=zq hown2;have aD:Hid (Below w.heap.size w w2):=hb.trans (hb2.mono hzz);clear hown2 hb2;go_wp2_with fail;go_ret2;exact .inr ⟨hgd.o,_,rfl,X0 ou.o hzz,aD.o⟩
open ai
def Zo (n:Nat):Bytes:=if n=0 then [48] else (dg n).map jY
def Hu (n:Nat)(w:World)(e:Ending)(w':World):Prop:=e=.returned (.tuple #[.string ⟨(Zo n).toArray⟩,.int .i64 0])/\Below w.heap.size w w'
theorem Tryz.uB:(Tryz.prog.info? 59).map (fun i=>(i.zero,i.size,i.bytes))=some (some (.slice none 0 0),1,24):=by kernel_rfl
theorem WS.made (w:World)(h:4<w.heap.size):WS (w.alloc (.cells #[.int .i64 10,.int .i64 19,.int .u64 10000000000000000000,.slice none 0 0,.slice none 0 0] 216)) w.heap.size (.slice none 0 0) (.slice none 0 0) []:=
 ⟨aaz w _,adC _ _ _ _,h⟩
theorem Hg (n:Nat):pad n 0=dg n:=by unfold pad;simp
theorem Qvu (v:Value)(xs:List Nat)(w:World)(hs:SG w)(hv:Rd w v xs)(hl:(Qw xs).length<=12)(hl2:xs.length<=17179869184):Calls Tryz.prog 169 #[v,.int .i64 10] w (Hu (val xs) w):=by
 have HV:=zq hv;have eo:=zq hs;obtain⟨X,hX⟩:=xq (Qw xs)
 have wQ:val X=val xs:=by rw[hX,Qn]
 have hsz:4<w.heap.size:=adu w _ (hs 0 (by omega));rw[<-hX]at hl;obtain⟨n,hn⟩:=xq X.length;rw[<-hn]at hl;have HX:=zq hX;have oz:=zq wQ;have HN:=zq hn;clear hv hs hX wQ hn;by_cases h0:n=0
 ·have hb:((n:Int)==0)=true:=by simp[h0]
  have HZ:Hid (Zo (val xs)=[48]):=by have hX0:X=[]:=aaq (by rw[<-HN.o];exact h0);show _=_;rw[<-oz.o,hX0];rfl
  clear h0;go_enter Tryz.func169,Tryz.ntmps169;go_wp2_with fail;refine(Vy _ xs _ HV.o (by omega)).mono ?_;rintro e w1 ⟨rfl,hB,hb1⟩;rw[<-HX.o,<-HN.o];have aC:=zq hb1;clear hB hb1;go_wp2_with fail;go_ret2;exact⟨by rw[HZ.o];rfl,aC.o⟩
 have hb:((n:Int)==0)=false:=by simp[h0]
 have jq:decide (12<n)=false:=by simp;omega
 have dC:val xs≠0:=fun e=>by
  have h1:(Qw xs).length=0:=by have:=Yw xs 0 (by rw[e];simp);omega
  rw[<-HX.o,<-HN.o]at h1;exact h0 h1
 have HD:Hid (Zo (val xs)=(pad (val X) 0).map jY):=by show _=_;unfold Zo;rw[if_neg dC,Hg,oz.o]
 clear h0 dC;go_enter Tryz.func169,Tryz.ntmps169;go_wp2_with fail;refine(Vy _ xs _ HV.o (by omega)).mono ?_;rintro e w1 ⟨rfl,hB,hb1⟩;rw[<-HX.o]at hB ⊢;have HB:=zq hB;have aC:=zq hb1;rw[<-HN.o];clear hB hb1;go_wp2_with fail;refine(Mi _).mono ?_;rintro e w2 ⟨rfl,rfl⟩;go_wp2_with fail;have ug:=eo.o.below aC.o hsz;have hb2:=Qq w1 (.cells #[.int .i64 10,.int .i64 19,.int .u64 10000000000000000000,.slice none 0 0,.slice none 0 0] 216);have eE:4<w1.heap.size:=aaj hsz aC.o.size;have HW:=zq (WS.made w1 eE);have jm:=zq (ug.below hb2 eE);have HR:=zq ((HB.o.whole (by rw[<-HN.o];omega)).below hb2);rw[<-HN.o]at HR;have aD:Hid (Below w.heap.size w (w1.alloc (.cells #[.int .i64 10,.int .i64 19,.int .u64 10000000000000000000,.slice none 0 0,.slice none 0 0] 216))):=aC.o.trans (hb2.mono aC.o.size)
 have hlen:([]:Bytes).length+(pad (ai.val X) 0).length<=274877906944:=by
  have h1:ai.val X<BB^n:=by rw[HN.o];exact Yy HB.o.2
  have:=Wb h1;rw[Hg];simp only[aaG];omega
 have HLEN:=zq hlen;have hz1:=aC.o.size;clear ug hb2 hlen;refine(Se 0 0 (aaa _) w1.heap.size 0 _ (.slice none 0 0) (.slice none 0 0) X [] _ HW.o jm.o ⟨0,0,fun h=>by omega,fun i h=>by omega⟩ HR.o (fun q hq=>by cases hq;have:=HB.o.lt;exact⟨by show w.heap.size≠w1.heap.size;omega,by simp[Value.ownBlock]⟩) (by rw[<-HN.o];omega) HLEN.o).mono ?_;rintro e w3 ⟨ov,rfl,r1,r2,r3⟩;rw[adz,<-HD.o]at r1;have c4:=r1.cell.2.2.2.2.1;have qI:=J8 (B:=w1.heap.size+1) (w:=w3) (v:=ov) (l:=Zo (ai.val xs)) r1.own;have aS:Hid (Below w.heap.size w w3):=r2.aX aD.o aD.o.size (by omega) (fun k hk=>by cases hk);clear r1 r2 r3;go_wp2_with fail;go_ret2;exact⟨rfl,aS.o⟩
def RR (w:World)(R:Nat)(pb:Option Nat)(vs:List Value):Prop:=∀j v,vs[j]?=some v-> ∃bs,Rd w v bs/\val bs=UU^2^j/\bs.length<=274877906944/\2^j<=34359738368/\ ∀q,v.ownBlock=some q->R<q/\pb≠some q
structure PgMid (R:Nat) (w1:World) (wr:World) (i:Nat) (pv:Value) (vs:List Value):Prop where
 st:WS wr R pv (.slice none 0 0) []
 own:wr.ownsRow (R+1) 59 1 pv i vs
 all:RR wr R pv.ownBlock vs
 below:Below R w1 wr
structure kf (L R:Nat) (w1:World) (p:Value) (wr:World) (i:Nat) (pv:Value) (xs:List Nat) (vs:List Value):Prop extends PgMid R w1 wr i pv vs where
 rd:Fr (R+1) wr p xs
 ne:∀q,p.ownBlock=some q->pv.ownBlock≠some q
 vl:val xs=UU^2^i
 PC:Qw xs=xs
 len:xs.length<=2*L
theorem RR.wr {w w':World}{R:Nat}{pb pb':Option Nat}{vs:List Value}(h:RR w R pb vs)(hw:Wr R pb w w')(hm:Mv w pb pb'):RR w' R pb' vs:=fun j v hj=>by
 obtain⟨bs,H,I,J,K,E⟩:=h j v hj;refine⟨bs,H.wr hw (fun q hq=>⟨by have:=E q hq;omega,(E q hq).2⟩),I,J,K,fun q hq=>⟨(E q hq).1,fun e=> ?_⟩⟩;rcases hm q e with h|h
 ·exact(E q hq).2 h
 have:=H.lt hq;omega
theorem PgMid.below' {R:Nat}{w1 wr w2:World}{i:Nat}{pv:Value}{vs:List Value}(h:PgMid R w1 wr i pv vs)(hb:Below wr.heap.size wr w2):PgMid R w1 w2 i pv vs:=
 ⟨h.st.below hb,h.own.kept (row:=none) ⟨hb.os,hb.tape,hb.output,hb.size,fun k hk _=>hb.block k hk⟩ (by cases pv.ownBlock<;>simp),h.all.wr (Wr.af hb) (Mv.refl _ _),h.below.trans (hb.mono (abD h.st.lt))⟩
theorem kf.below' {L R:Nat}{w1 wr w2:World}{p:Value}{i:Nat}{pv:Value}{xs:List Nat}{vs:List Value}(h:kf L R w1 p wr i pv xs vs)(hb:Below wr.heap.size wr w2):kf L R w1 p w2 i pv xs vs:=
 ⟨h.toPgMid.below' hb,h.rd.below hb,h.ne,h.vl,h.PC,h.len⟩
theorem kf.push {L R:Nat}{w1 wr w2:World}{p:Value}{i gg cap:Nat}{pv:Value}{xs:List Nat}{vs:List Value}(h:kf L R w1 p wr i pv xs vs)(h1:xs.length<=274877906944)(h2:2^i<=34359738368)
  (hown:w2.ownsRow (R+1) 59 1 (.slice (some ⟨gg,0,none⟩) (i+1) cap) (i+1) (vs++[p])) (hg:wr.grownBy w2 pv.ownBlock) (hat:pv.ownBlock=some gg\/gg=wr.heap.size):
  PgMid R w1 (w2.setCell ⟨R,3,none⟩ (.slice (some ⟨gg,0,none⟩) (i+1) cap)) (i+1) (.slice (some ⟨gg,0,none⟩) (i+1) cap) (vs++[p]):=by
 have U:some R≠pv.ownBlock:=fun e=>by have:=h.own.lt R e.symm;omega
 have hb:=(hg.block R h.st.lt U).trans h.st.blk;have K:=aas w2 R 3 #[.int .i64 10,.int .i64 19,.int .u64 10000000000000000000,pv,.slice none 0 0] 216 (.slice (some ⟨gg,0,none⟩) (i+1) cap) hb;have H:Wr R pv.ownBlock wr (w2.setCell ⟨R,3,none⟩ (.slice (some ⟨gg,0,none⟩) (i+1) cap)):=(Wr.cV hg).trans (Mv.refl _ _) (Wr.aI w2 3 _)
 have I:Mv wr pv.ownBlock (Value.ownBlock (.slice (some ⟨gg,0,none⟩) (i+1) cap)):=by
  intro k J
  cases J
  rcases hat with h|h
  ·exact .inl h
  exact .inr (adK h.symm)
 refine⟨⟨K.trans (by simp),adC _ _ _ _,h.st.big⟩,ad6 hown (by simp) _,?_,H.aX h.below (abD h.st.lt) (aaa _) (fun k J=>by have:=h.own.lt k J;omega)⟩;intro j v E
 have Z:vs.length=i:=by have:=h.own.1;omega
 by_cases hji:j<vs.length
 ·rw[ab1 hji]at E
  exact h.all.wr H I j v E
 have T:j=i:=by have:=(aae.1 E).1;rw[aac]at this;simp at this;omega
 subst T;rw[abw (by omega),Z]at E;simp at E;subst E;refine⟨xs,h.rd.1.wr H (fun q hq=>⟨by have:=h.rd.2 q hq;omega,h.ne q hq⟩),h.vl,h1,h2,fun q hq=>⟨by have:=h.rd.2 q hq;omega,fun e=> ?_⟩⟩;rcases I q e with O|O
 ·exact h.ne q hq O
 have:=h.rd.2 q hq;omega
theorem PgMid.pw {R:Nat}{w1 wr:World}{i:Nat}{pv:Value}{vs:List Value}(h:PgMid R w1 wr i pv vs):PW wr R (Value.ownBlock (.slice none 0 0)) pv i:=by
 have T:vs.length=i:=by have:=h.own.1;omega
 obtain⟨ao,H,e,I,J,K⟩:=Qj h.own;by_cases h0:0<i
 ·obtain⟨g,rfl,a1,a2,a3⟩:=K h0
  refine⟨g,H,fun _=>⟨e,I,J,a2,by omega,by simp[Value.ownBlock]⟩,fun j hj=> ?_⟩;have O:=a3 j (by omega)
  have E:j<vs.length:=by omega
  obtain⟨bs,b1,b2,b3,b4,b5⟩:=h.all j vs[j] (aad E);refine⟨vs[j],bs,by rw[O,aad E],b1,b2,b3,b4,fun q hq=>⟨by have:=b5 q hq;omega,by simp[Value.ownBlock]⟩⟩
 exact⟨0,0,fun h=>absurd h h0,fun j hj=>by omega⟩
def npow (R:Nat)(w:World):Nat:=lenOf ((w.cell? ⟨R,3,none⟩).getD (.bool false))
theorem PgMid.npow {R:Nat}{w1 wr:World}{i:Nat}{pv:Value}{vs:List Value}(h:PgMid R w1 wr i pv vs):npow R wr=i:=by unfold Go.Proofs.YtgfmiladfeoldaaGreatDoor.npow;rw[h.st.cell.2.2.2.1];exact Mr h.own
theorem kf.npow {L R:Nat}{w1 p:_}{wr:World}{i:Nat}{pv:Value}{xs:List Nat}{vs:List Value}(h:kf L R w1 p wr i pv xs vs):npow R wr=i:=h.toPgMid.npow
theorem Ef {N L i:Nat}(hN:N<BB^L)(h:UU^2^i<=N):2^i<2*L:=Mo (k:=2^i) hN (Nat.div_pos h (adZ Mx))
theorem Qpw (v:Value)(xs:List Nat)(w:World)(hs:SG w)(hv:Rd w v xs)(hl:12<(Qw xs).length)(hl2:xs.length<=8589934592):Calls Tryz.prog 169 #[v,.int .i64 10] w (Hu (val xs) w):=by
 have HV:=zq hv;have eo:=zq hs;obtain⟨X,hX⟩:=xq (Qw xs)
 have wQ:val X=val xs:=by rw[hX,Qn]
 have SI:Qw X=X:=by rw[hX,Yo]
 have hsz:4<w.heap.size:=adu w _ (hs 0 (by omega))
 have sX:X.length<=8589934592:=by rw[hX];exact aan (Qu xs) hl2
 rw[<-hX]at hl;obtain⟨n,hn⟩:=xq X.length;rw[<-hn]at hl sX;have HX:=zq hX;have oz:=zq wQ;have HN:=zq hn
 have hb:((n:Int)==0)=false:=by simp;omega
 have jq:(12:Int)<(n:Int):=by omega
 have dC:val xs≠0:=fun e=>by have:=Yw xs 0 (by rw[e];simp);rw[<-hX]at this;omega
 have HD:Hid (Zo (val xs)=(pad (val X) 0).map jY):=by show _=_;unfold Zo;rw[if_neg dC,Hg,wQ]
 clear hv hs hX wQ hn dC SI;go_enter Tryz.func169,Tryz.ntmps169;go_wp2_with fail;refine(Vy _ xs _ HV.o (by omega)).mono ?_;rintro e w1 ⟨rfl,hB,hb1⟩;rw[<-HX.o]at hB ⊢;have HB:=zq hB;have aC:=zq hb1;rw[<-HN.o];clear hB hb1;go_wp2_with fail;refine(Mi _).mono ?_;rintro e w2 ⟨rfl,rfl⟩;go_wp2_with fail;have ug:=eo.o.below aC.o hsz;have hb2:=Qq w1 (.cells #[.int .i64 10,.int .i64 19,.int .u64 10000000000000000000,.slice none 0 0,.slice none 0 0] 216);have eE:4<w1.heap.size:=aaj hsz aC.o.size;have HW:=WS.made w1 eE;have jm:=zq (ug);have HR:=zq (HB.o.whole (by rw[<-HN.o];omega));rw[<-HN.o]at HR;have hz1:=aC.o.size;have hwl:w.heap.size<w1.heap.size:=HB.o.lt
 have pZ:Hid (kf n w1.heap.size w1 (.slice (some ⟨w1.heap.size+1,0,none⟩) 1 1) ((w1.alloc (.cells #[.int .i64 10,.int .i64 19,.int .u64 10000000000000000000,.slice none 0 0,.slice none 0 0] 216)).alloc (.cells #[.int .u64 10000000000000000000] 101)) 0 (.slice none 0 0) [10000000000000000000] []):=by
  have hb3:=Qq (w1.alloc (.cells #[.int .i64 10,.int .i64 19,.int .u64 10000000000000000000,.slice none 0 0,.slice none 0 0] 216)) (.cells #[.int .u64 10000000000000000000] 101)
  have hblk:ba ((w1.alloc (.cells #[.int .i64 10,.int .i64 19,.int .u64 10000000000000000000,.slice none 0 0,.slice none 0 0] 216)).alloc (.cells #[.int .u64 10000000000000000000] 101)) (w1.heap.size+1) [10000000000000000000]:=by
   refine⟨?_,?_⟩
   ·have:=aaz (w1.alloc (.cells #[.int .i64 10,.int .i64 19,.int .u64 10000000000000000000,.slice none 0 0,.slice none 0 0] 216)) (.cells #[.int .u64 10000000000000000000] 101)
    simp only[adB]at this;exact this
   intro x hx;simp at hx;subst hx;unfold BB;omega
  refine⟨⟨HW.below hb3,adC _ _ _ _,fun j v h=>by simp at h,hb2.trans (hb3.mono (by simp))⟩,⟨hblk.whole (by simp),fun q hq=> ?_⟩,fun q _=>by simp[Value.ownBlock],by rw[Nat.pow_zero,Nat.pow_one];rfl,by rfl,by simp;omega⟩
  cases hq
  exact⟨aaa _,by simp⟩
 have dH:Hid (val xs<BB^n):=by show _<_;rw[<-oz.o,HN.o];exact Yy HB.o.2
 have hlen:([]:Bytes).length+(pad (ai.val X) 0).length<=274877906944:=by
  have h1:ai.val X<BB^n:=by rw[oz.o];exact dH.o
  have:=Wb h1;rw[Hg];simp only[aaG];omega
 have HLEN:=zq hlen;obtain⟨R,hR⟩:=xq w1.heap.size;have fB:=zq hR;clear ug hb2 HW hlen hR;go_loopw [9] (fun p wr=> ∃i pv zs vs,kf n w1.heap.size w1 p wr i pv zs vs/\i<=64) (fun _ wr=>64-npow w1.heap.size wr)
 case atStart=>exact⟨0,_,_,_,pZ.o,by omega⟩
 clear pZ
 case round=>
  obtain⟨i,pv,zs,vs,hst,acH⟩:=hrel;have HST:=zq hst;have tT:=hst.npow;have I0:=zq tT;have acm:=dH;obtain⟨zo,EK,rfl,abM,abN,-⟩:=hst.rd.1.2;clear hst tT abM abN;by_cases hle:ai.val zs<=ai.val xs
  ·have jG:2^i<2*n:=Ef dH.o (by rw[<-HST.o.vl];exact hle)
   have acG:i<64:=by have h1:2^i<2^36:=aaj jG (by omega);have:=(Nat.pow_lt_pow_iff_right (a:=2) (by omega)).1 h1;omega
   have hzl:zs.length<=n:=by have:=Yw zs n (adH hle dH.o);rw[HST.o.PC]at this;exact this
   have hcb:decide (di (ai.val zs) (ai.val X)<=0)=true:=by
    rw[oz.o];unfold di;by_cases h1:ai.val zs<ai.val xs
    ·rw[if_pos h1];rfl
    rw[if_neg h1,if_neg (by omega)];rfl
   obtain⟨ci,pz⟩:=xq (di (ai.val zs) (ai.val X));rw[<-pz]at hcb;have zy:=zq pz
   have dA:2^i<=34359738368:=by omega
   clear hle jG pz;go_wp2_with fail;refine(Wz _ _ zs X _ HST.o.rd.1 (HR.o.below (HST.o.below.mono (by omega)))).mono ?_;rintro e w4 ⟨rfl,hb4⟩;rw[<-zy.o];have vX:=zq (HST.o.below' hb4);clear hb4;obtain⟨i0,hi,bF,cS,hk2⟩:=abO Tryz.uB;have ox:=zq (vX.o.below' (Qq w4 (.cells #[.slice zo zs.length EK] 59)));have kH:Hid (w1.heap.size<(w4.alloc (.cells #[.slice zo zs.length EK] 59)).heap.size):=ox.o.st.lt
   have bR:Hid (some w1.heap.size≠pv.ownBlock):=fun e=>by have:=ox.o.own.lt w1.heap.size e.symm;omega
   have c3:=vX.o.st.cell.2.2.2.1;have ca3:=ox.o.st.cell.2.2.2.1;have Lj:=aaH _ w1.heap.size 3 _ _ ox.o.st.blk;have CA3:=zq ca3;have PK:=zq Lj;clear ca3 Lj
   have adi:zs.length<=8589934592:=by omega
   have AV:=zq hzl;go_wp2_with (at_builtin;refine adr _ rfl _ _ 36 rfl (w1.heap.size+1) 59 i0 (.slice none 0 0) 1 24 Tryz.underlying36 hi bF cS hk2 rfl (by omega) pv i vs rfl ox.o.own ⟨w4.heap.size,0,none⟩ 1 1 [.slice zo zs.length EK] rfl rfl (ag.Qh _ _ _ _ rfl) (by simp[Value.oneCell']) (by omega) (by unfold maxLen;omega) (by omega) (by have:=kH.o;simp at this;simp;omega) (w4.heap.size+1) (by simp) ?_);intro gg cap w5 aK hgrow hat cT;have d4:w5.cell? ⟨w1.heap.size,3,none⟩=some pv:=(hgrow.cell_far ⟨w1.heap.size,3,none⟩ kH.o bR.o).trans CA3.o;have d5:w5.frozen? ⟨w1.heap.size,3,none⟩=false:=(hgrow.frozen_far ⟨w1.heap.size,3,none⟩ kH.o bR.o).trans PK.o;have HG:=zq (ox.o.push (by omega) dA aK hgrow (by simpa using hat));have QX:=zq ox.o;have XL:=zq ((Wr.cV (R:=w1.heap.size) hgrow).trans (Mv.refl _ _) (Wr.aI w5 3 (.slice (some ⟨gg,0,none⟩) (i+1) cap)));clear aK hgrow hat cT;by_cases cR:n+2<2*zs.length
   ·have km:decide ((n:Int)+2<2*(zs.length:Int))=true:=by simp;omega
    clear cR;go_wp2_with fail;have vG:=zq (HG.o.below);have kO:=Se (i+1) (i+1) (aaa _) w1.heap.size 0 _ _ (.slice none 0 0) X [] _ HG.o.st (jm.o.below vG.o eE) HG.o.pw (HR.o.below vG.o) (fun q hq=>by cases hq;exact⟨by show w.heap.size≠w1.heap.size;omega,by simp[Value.ownBlock]⟩) (by rw[<-HN.o];omega) HLEN.o;rw[show (((i+1:Nat):Int)-1)=(i:Int) from by omega]at kO;have rG:=zq kO;have aD:Hid (Below w.heap.size w (w5.setCell ⟨w1.heap.size,3,none⟩ (.slice (some ⟨gg,0,none⟩) (i+1) cap))):=aC.o.trans (vG.o.mono hz1);have dN:=zq (abD HG.o.st.lt);clear kO;refine rG.o.mono ?_;rintro e w6 ⟨ov,rfl,r1,r2,r3⟩;rw[adz,<-HD.o]at r1;have c4:=r1.cell.2.2.2.2.1;have qI:=J8 (B:=w1.heap.size+1) (w:=w6) (v:=ov) (l:=Zo (ai.val xs)) r1.own;have aS:Hid (Below w.heap.size w w6):=r2.aX aD.o (aan hz1 dN.o) (by omega) (fun k hk=>by cases hk);clear r1 r2 r3;go_wp2_with fail;go_ret2;exact⟨rfl,aS.o⟩
   have km:decide ((n:Int)+2<2*(zs.length:Int))=false:=by simp;omega
   clear cR;go_wp2_with fail;have iu:=zq (QX.o.rd.1.wr (R:=w1.heap.size) (og:=pv.ownBlock) XL.o (fun q hq=>⟨by have:=QX.o.rd.2 q hq;omega,QX.o.ne q hq⟩));refine(Ph zs _ _ (by omega) iu.o).mono ?_;rintro e w6 ⟨v6,ys,rfl,f1,f2,f3,f4,f5⟩;have ah:kf n w1.heap.size w1 v6 w6 (i+1) _ ys _:=⟨HG.o.below' f5,f1.mono HG.o.st.lt,fun q hq e=>by have:=f1.2 q hq;have:=HG.o.own.lt q e;omega,by rw[f2,QX.o.vl,<-ad3,<-Nat.two_mul,aaW,ady],f4,by have:=AV.o;omega⟩;have NY:=ah.npow;have aR:=zq ah;have I1:=zq NY;clear f1 f2 f3 f4 f5 ah NY;go_wp2_with fail
   first|exact⟨⟨_,_,_,_,aR.o,by omega⟩,by rw[I1.o,I0.o];omega⟩|exact⟨by (repeat apply Exists.intro);exact⟨⟨_,_,_,_,aR.o,by omega⟩,rfl⟩,by rw[I1.o,I0.o];omega⟩
  have hcb:decide (di (ai.val zs) (ai.val X)<=0)=false:=by rw[oz.o];unfold di;rw[if_neg (by omega),if_pos (by omega)];rfl
  obtain⟨ci,pz⟩:=xq (di (ai.val zs) (ai.val X));rw[<-pz]at hcb;have zy:=zq pz;clear hle pz;go_wp2_with fail;refine(Wz _ _ zs X _ HST.o.rd.1 (HR.o.below (HST.o.below.mono (by omega)))).mono ?_;rintro e w4 ⟨rfl,hb4⟩;rw[<-zy.o];have HM:=zq (HST.o.below' hb4).toPgMid;clear hb4;have c3:=HM.o.st.cell.2.2.2.1;obtain⟨po,EG,rfl,tV,vg,tX⟩:=Qj HM.o.own;have gQ:=zq tX;clear tV vg tX;go_wp2_with fail;have vG:=zq (HM.o.below);have kO:=Se i i (aaa _) w1.heap.size 0 _ _ (.slice none 0 0) X [] _ HM.o.st (jm.o.below vG.o eE) HM.o.pw (HR.o.below vG.o) (fun q hq=>by cases hq;exact⟨by show w.heap.size≠w1.heap.size;omega,by simp[Value.ownBlock]⟩) (by rw[<-HN.o];omega) HLEN.o;have rG:=zq kO;have aD:Hid (Below w.heap.size w w4):=aC.o.trans (vG.o.mono hz1);have dN:=zq (abD HM.o.st.lt);clear kO;refine rG.o.mono ?_;rintro e w6 ⟨ov,rfl,r1,r2,r3⟩;rw[adz,<-HD.o]at r1;have c4:=r1.cell.2.2.2.2.1;have qI:=J8 (B:=w1.heap.size+1) (w:=w6) (v:=ov) (l:=Zo (ai.val xs)) r1.own;have aS:Hid (Below w.heap.size w w6):=r2.aX aD.o (aan hz1 dN.o) (by omega) (fun k hk=>by cases hk);clear r1 r2 r3;go_wp2_with fail;go_ret2;exact⟨rfl,aS.o⟩
theorem Ec (v:Value)(xs:List Nat)(w:World)(hs:SG w)(hv:Rd w v xs)(hl:xs.length<=8589934592):Calls Tryz.prog 169 #[v,.int .i64 10] w (Hu (val xs) w):=by
 by_cases h:(Qw xs).length<=12
 ·exact Qvu v xs w hs hv h (by omega)
 exact Qpw v xs w hs hv (by omega) hl
def Qh0 (n:Nat)(w:World)(e:Ending)(w':World):Prop:=e=.returned (.string ⟨(Zo n).toArray⟩)/\Below w.heap.size w w'
theorem Pi (v:Value)(xs:List Nat)(w:World)(hs:SG w)(hv:Rd w v xs)(hl:xs.length<=8589934592):Calls Tryz.prog 120 #[v] w (Qh0 (val xs) w):=by have HV:=zq hv;have eo:=zq hs;clear hv hs;go_enter Tryz.func120,Tryz.ntmps120;go_wp2_with fail;refine(Ec _ xs _ eo.o HV.o hl).mono ?_;rintro e w1 ⟨rfl,hb1⟩;have aC:=zq hb1;clear hb1;go_wp2_with fail;go_ret;exact⟨rfl,aC.o⟩
end Go.Proofs.YtgfmiladfeoldaaGreatDoor
namespace ag
def Mn (t:Bytes)(pos:Nat):Prop:=∀j,j<pos->t[j]?=some 95->0<j/\t[j-1]? ≠some 95
def mz (t:Bytes)(pos:Nat):Bool:=decide (0<pos) && (t[pos-1]? !=some 95)
theorem Qq5 (t:Bytes):Mn t 0:=fun j h=>absurd h (aeP _)
theorem Ar (t:Bytes)(pos:Nat):mz t (pos+1)=(t[pos]? !=some 95):=by simp[mz]
theorem Ku {t:Bytes}{pos:Nat}(h:Mn t pos)(hb:t[pos]?=some 95->mz t pos=true):Mn t (pos+1):=by
 intro j I E;rcases Nat.lt_succ_iff_lt_or_eq.1 I with H|rfl
 ·exact h j H E
 have:=hb E;simp only[mz,aaY,aaV,bne_iff_ne]at this;exact this
theorem Qfh {t:Bytes}{pos:Nat}(h:t[pos]?=some 95)(hb:mz t pos=false):Xi t=true:=by
 rw[Zt];refine⟨pos,(aae.1 h).1,?_⟩;simp only[mz,Bool.and_eq_false_iff,ael,bne_eq_false_iff_eq]at hb;simp only[Uj,h,aeW,aeG];rcases hb with hb|hb
 ·have:pos=0:=by omega
  subst this;simp
 rw[hb];simp
theorem Fs {t:Bytes}(h0:t≠[])(hb:mz t t.length=false):Xi t=true:=by
 rw[Zt];have h:0<t.length:=adJ.2 h0;simp only[mz,Bool.and_eq_false_iff,ael,bne_eq_false_iff_eq]at hb;rcases hb with hb|hb
 ·omega
 refine⟨t.length-1,by omega,?_⟩;have:decide (t.length<=t.length-1+1)=true:=abH (by omega);simp only[Uj,hb,aeW,this,aeG,Bool.or_true,Bool.true_or]
theorem Qy8 {t:Bytes}(h:Mn t t.length)(hb:mz t t.length=true):Xi t=false:=by
 cases ha:Xi t with
 |false=>rfl
 |true=>
  exfalso;obtain⟨j,O,E⟩:=(Zt t).1 ha;simp only[Uj,aaY,aep,adN,aaV]at E;obtain⟨H,E⟩:=E;obtain⟨T,K⟩:=h j O H;simp only[mz,aaY,aaV,bne_iff_ne]at hb;rcases E with ((E|E)|E)|E
  ·omega
  ·have:t.length-1=j:=by omega
   rw[this]at hb;exact hb.2 H
  ·exact K E
  have J:j+1<t.length:=(aae.1 E).1;obtain⟨_,I⟩:=h (j+1) J E;rw[adQ]at I;exact I H
theorem Qwm {t:Bytes}(h0:t≠[])(h:Xi t=false):mz t t.length=true:=by
 cases hb:mz t t.length with
 |true=>rfl
 |false=>rw[Fs h0 hb]at h;cases h
theorem Ce {b:UInt8}{r:Bytes}(h:b.toNat<128):val (b::r)=some b.toNat/\wid (b::r)=1:=by
 have:dec (b::r)=some (b.toNat,1):=by show (if b.toNat<0x80 then _ else _)=_;rw[if_pos h]
 simp[val,wid,this]
def aO (l:Bytes):List Nat:=l.map fun c=>c.toNat-48
theorem Km (a b:Bytes):aO (a++b)=aO a++aO b:=by simp[aO]
end ag
namespace ae
open ag
structure Node where
 op:Nat
 text:Bytes
 kids:List Nat
deriving DecidableEq,Repr
structure cn where
 rows:Nat
 aB:Nat
 at_:List (Bool×Nat)
deriving DecidableEq,Repr
mutual
inductive Ex where
 |num (n:Nat)|name (x:Bytes)|mat (m:cn)|cpx (l:List (List Nat))
 |neg (a:Ex)|turn (a:Ex)|add (a b:Ex)|sub (a b:Ex)|mul (a b:Ex)|pow (a:Ex) (n:Nat)|call (x:Bytes) (l:aV)
inductive aV where
 |nil|cons (a:Ex) (l:aV)
end
inductive Ln where
 |nothing|lets (x:Bytes) (e:Ex)|cmd (x:Bytes) (l:aV)
def aV.snoc:aV->Ex->aV
 | .nil,e=> .cons e .nil
 | .cons a l,e=> .cons a (l.snoc e)
def aV.len:aV->Nat
 | .nil=>0
 | .cons _ l=>l.len+1
structure St where
 ts:List Tok
 opened:Nat
deriving DecidableEq,Repr
abbrev PR (α:Type):=Option (Except (Nat×Nat) (α×St))
def PR.bind {α β:Type}(x:PR α)(f:α->St->PR β):PR β:=
 match x with
 |none=>none
 |some (.error e)=>some (.error e)
 |some (.ok (a,s))=>f a s
def ret {α:Type}(a:α)(s:St):PR α:=some (.ok (a,s))
def fault {α:Type}(c e:Nat):PR α:=some (.error (c,e))
def X5 (fin:Nat)(ts:List Tok):Nat:=match ts with| []=>fin|t::_=>t.2.2
def Qv (x:Bytes)(ts:List Tok):Bool:=match ts with|(k,t,_)::_=>k==3 && t==x| []=>false
def Qm (k:Nat)(ts:List Tok):Bool:=match ts with|(j,_,_)::_=>j==k| []=>false
def St.aW (s:St):St:={s with ts:=s.ts.tail}
def dh {α:Type}(fin:Nat)(s:St):PR α:=fault (X5 fin s.ts) 14
def want (fin:Nat)(x:Bytes)(s:St):PR Unit:=if Qv x s.ts then ret () s.aW else dh fin s
def Xg (t:Bytes):Nat:=ai.aN (aO (t.filter aF.Qf))
def Xx (ts:List Tok):Bytes:=match ts with|(_,t,_)::_=>t| []=>[]
def Qa (fin:Nat)(s:St):PR Nat:=if Qm 1 s.ts then ret (Xg (Xx s.ts)) s.aW else dh fin s
def name (fin:Nat)(s:St):PR Bytes:=if Qm 2 s.ts then ret (Xx s.ts) s.aW else dh fin s
def ar (n:Nat):Bytes:=if n=0 then [48] else (ai.dg n).map fun d=>UInt8.ofNat (48+d)
def bg (x:Bool×Nat):Bytes:=(if x.1 then [45] else [])++ar x.2
def Qb (sep:Bytes):List Bytes->Bytes
 | []=>[]
 | [a]=>a
 |a::l=>a++sep++Qb sep l
def Xq {α:Type}(aB:Nat):Nat->List α->List (List α)
 |0,_=>[]
 |r+1,l=>l.take aB::Xq aB r (l.drop aB)
def bB (m:cn):Bytes:=
 if m.at_=[] then [91]++ar m.rows++[58]++ar m.aB++[93]
 else [91]++Qb [59,32] ((Xq m.aB m.rows (m.at_.map bg)).map (Qb [32]))++[93]
def cP (l:List (List Nat)):Bytes:=[123]++Qb [44,32] (l.map fun s=>Qb [32] (s.map ar))++[125]
def side (n:Nat):Nat:=if 64<n then 65 else n
def Qt (fin:Nat):Nat->Nat->List (Bool×Nat)->St->PR (Nat×List (Bool×Nat))
 |0,_,_,_=>none
 |f+1,n,acc,s=>
  if n=0||Qv [45] s.ts||Qm 1 s.ts then
   (Qa fin (if Qv [45] s.ts then s.aW else s)).bind fun m s'=>Qt fin f (n+1) (acc++[(Qv [45] s.ts && decide (0<m),m)]) s'
  else ret (n,acc) s
def entries (fin:Nat):Nat->List (Bool×Nat)->List Nat->St->PR (List (Bool×Nat)×List Nat)
 |0,_,_,_=>none
 |f+1,acc,lens,s=>
  (Qt fin f 0 acc s).bind fun r s=>
   if Qv [93] s.ts then ret (r.2,lens++[r.1]) s.aW
   else (want fin [59] s).bind fun _ s=>entries fin f r.2 (lens++[r.1]) s
def Jv (fin col:Nat)(s:St):PR cn:=
 (Qa fin s).bind fun r s=>(want fin [58] s).bind fun _ s=>(Qa fin s).bind fun c s=>(want fin [93] s).bind fun _ s=>
  if 64<side r||64<side c then fault col 5
  else ret ⟨r,c,List.replicate (r*c) (false,0)⟩ s
def Yc (col:Nat)(a:List (Bool×Nat)×List Nat)(s:St):PR cn:=
 if a.2.any (· !=a.2.headD 0) then fault col 2
 else if 64<a.2.length||64<a.2.headD 0 then fault col 5
 else ret ⟨a.2.length,a.2.headD 0,a.1⟩ s
def Xl (fin f:Nat)(s0:St):PR cn:=
 (want fin [91] s0).bind fun _ s=>
  if Qm 1 s.ts && Qv [58] s.ts.tail then Jv fin (X5 fin s0.ts) s
  else (entries fin f [] [] s).bind (Yc (X5 fin s0.ts))
def Xj (fin:Nat):Nat->List Nat->St->PR (List Nat)
 |0,_,_=>none
 |f+1,acc,s=>if Qm 1 s.ts then (Qa fin s).bind fun n s=>Xj fin f (acc++[n]) s else ret acc s
def Xw (fin:Nat):Nat->List (List Nat)->St->PR (List (List Nat))
 |0,_,_=>none
 |f+1,acc,s=>
  (Qa fin s).bind fun n s=>(Xj fin f [n] s).bind fun x s=>
   if Qv [125] s.ts then ret (acc++[x]) s.aW
   else (want fin [44] s).bind fun _ s=>Xw fin f (acc++[x]) s
def Q8 (fin f:Nat)(s:St):PR (List (List Nat)):=
 (want fin [123] s).bind fun _ s=>if Qv [125] s.ts then ret [] s.aW else Xw fin f [] s
def Ub:Nat->Nat->St->PR Nat
 |0,_,_=>none
 |f+1,n,s=>if Qv [45] s.ts then Ub f (n+1) s.aW else ret n s
def gF:Nat->Ex->Ex
 |0,k=>k
 |n+1,k=>gF n (.neg k)
def N6:Nat->Ex->St->PR Ex
 |0,_,_=>none
 |f+1,k,s=>if Qv [39] s.ts then N6 f (.turn k) s.aW else ret k s
def Qcp (fin:Nat)(s:St):PR Unit:=
 if 100<s.opened+1 then fault (X5 fin s.ts) 5 else ret () {s.aW with opened:=s.opened+1}
def Qp8 (fin:Nat)(s:St):PR Unit:=(want fin [41] s).bind fun _ s=>ret () {s with opened:=s.opened-1}
mutual
def expr (fin:Nat):Nat->St->PR Ex
 |0,_=>none
 |f+1,s=>(term fin f s).bind fun k s=>Gy fin f k s
def Gy (fin:Nat):Nat->Ex->St->PR Ex
 |0,_,_=>none
 |f+1,k,s=>
  if Qv [43] s.ts then (term fin f s.aW).bind fun t s=>Gy fin f (.add k t) s
  else if Qv [45] s.ts then (term fin f s.aW).bind fun t s=>Gy fin f (.sub k t) s
  else ret k s
def term (fin:Nat):Nat->St->PR Ex
 |0,_=>none
 |f+1,s=>(Qgc fin f s).bind fun k s=>Qzq fin f k s
def Qzq (fin:Nat):Nat->Ex->St->PR Ex
 |0,_,_=>none
 |f+1,k,s=>
  if Qv [42] s.ts then (Qgc fin f s.aW).bind fun t s=>Qzq fin f (.mul k t) s
  else ret k s
def Qgc (fin:Nat):Nat->St->PR Ex
 |0,_=>none
 |f+1,s=>
  (Ub f 0 s).bind fun n s=>(post fin f s).bind fun k s=>
   if Qv [94] s.ts then (Qa fin s.aW).bind fun m s=>ret (gF n (.pow k m)) s
   else ret (gF n k) s
def post (fin:Nat):Nat->St->PR Ex
 |0,_=>none
 |f+1,s=>(atom fin f s).bind fun k s=>N6 f k s
def atom (fin:Nat):Nat->St->PR Ex
 |0,_=>none
 |f+1,s=>
  if Qm 1 s.ts then (Qa fin s).bind fun n s=>ret (.num n) s
  else if Qm 2 s.ts && Qv [40] s.ts.tail then
   (name fin s).bind fun x s=>(Qcp fin s).bind fun _ s=>(parts fin f s).bind fun ks s=>(Qp8 fin s).bind fun _ s=>ret (.call x ks) s
  else if Qm 2 s.ts then (name fin s).bind fun x s=>ret (.name x) s
  else if Qv [40] s.ts then (Qcp fin s).bind fun _ s=>(expr fin f s).bind fun k s=>(Qp8 fin s).bind fun _ s=>ret k s
  else if Qv [91] s.ts then (Xl fin f s).bind fun m s=>ret (.mat m) s
  else if Qv [123] s.ts then (Q8 fin f s).bind fun l s=>ret (.cpx l) s
  else dh fin s
def parts (fin:Nat):Nat->St->PR aV
 |0,_=>none
 |f+1,s=>(expr fin f s).bind fun k s=>Cz fin f (.cons k .nil) s
def Cz (fin:Nat):Nat->aV->St->PR aV
 |0,_,_=>none
 |f+1,ks,s=>if Qv [44] s.ts then (expr fin f s.aW).bind fun k s=>Cz fin f (ks.snoc k) s else ret ks s
end
def done {α:Type}(fin:Nat)(a:α)(s:St):PR α:=if s.ts=[] then ret a s else dh fin s
def lK:Bytes:=[108,101,116]
def line (fin f:Nat)(s:St):PR Ln:=
 if s.ts=[] then ret .nothing s
 else if Qm 2 s.ts && Xx s.ts==lK then
  (name fin s.aW).bind fun x s=>(want fin [61] s).bind fun _ s=>(expr fin f s).bind fun e s=>done fin (.lets x e) s
 else
  (name fin s).bind fun x s=>
   if s.ts=[] then done fin (.cmd x .nil) s
   else (parts fin f s).bind fun ks s=>done fin (.cmd x ks) s
mutual
def Ex.size:Ex->Nat
 | .num _=>1| .name _=>1| .mat _=>1| .cpx _=>1
 | .neg a=>a.size+1| .turn a=>a.size+1
 | .add a b=>a.size+b.size+1| .sub a b=>a.size+b.size+1| .mul a b=>a.size+b.size+1
 | .pow a _=>a.size+1
 | .call _ l=>l.size+1
def aV.size:aV->Nat
 | .nil=>0
 | .cons a l=>a.size+l.size
end
def aV.roots:aV->Nat->List Nat
 | .nil,_=>[]
 | .cons a l,o=>(o+a.size-1)::l.roots (o+a.size)
mutual
def Ex.flat:Ex->Nat->List Node
 | .num n,_=>[⟨1,ar n,[]⟩]
 | .name x,_=>[⟨2,x,[]⟩]
 | .mat m,_=>[⟨3,bB m,[]⟩]
 | .cpx l,_=>[⟨13,cP l,[]⟩]
 | .neg a,o=>a.flat o++[⟨4,[],[o+a.size-1]⟩]
 | .turn a,o=>a.flat o++[⟨5,[],[o+a.size-1]⟩]
 | .add a b,o=>a.flat o++b.flat (o+a.size)++[⟨6,[],[o+a.size-1,o+a.size+b.size-1]⟩]
 | .sub a b,o=>a.flat o++b.flat (o+a.size)++[⟨7,[],[o+a.size-1,o+a.size+b.size-1]⟩]
 | .mul a b,o=>a.flat o++b.flat (o+a.size)++[⟨8,[],[o+a.size-1,o+a.size+b.size-1]⟩]
 | .pow a n,o=>a.flat o++[⟨9,ar n,[o+a.size-1]⟩]
 | .call x l,o=>l.flat o++[⟨10,x,l.roots o⟩]
def aV.flat:aV->Nat->List Node
 | .nil,_=>[]
 | .cons a l,o=>a.flat o++l.flat (o+a.size)
end
def Ln.size:Ln->Nat
 | .nothing=>1
 | .lets _ e=>e.size+1
 | .cmd _ l=>l.size+1
def Ln.flat:Ln->List Node
 | .nothing=>[⟨14,[],[]⟩]
 | .lets x e=>e.flat 0++[⟨11,x,[e.size-1]⟩]
 | .cmd x l=>l.flat 0++[⟨12,x,l.roots 0⟩]
def Ex.op:Ex->Nat
 | .num _=>1| .name _=>2| .mat _=>3| .cpx _=>13| .neg _=>4| .turn _=>5| .add _ _=>6| .sub _ _=>7| .mul _ _=>8| .pow _ _=>9| .call _ _=>10
def P7 (o:Nat):Bool:=o==6||o==7
def Sf (o:Nat):Bool:=P7 o||o==8
def Qy (op place part:Nat):Bool:=
 if op==6||op==7 then place==1 && P7 part
 else if op==8 then P7 part||(place==1 && Sf part)
 else if op==4 then Sf part
 else if op==9||op==5 then Sf part||part==4||part==9
 else false
def par (b:Bool)(t:Bytes):Bytes:=if b then [40]++t++[41] else t
mutual
def Ex.pr:Ex->Bytes
 | .num n=>ar n
 | .name x=>x
 | .mat m=>bB m
 | .cpx l=>cP l
 | .neg a=>[45]++par (Qy 4 0 a.op) a.pr
 | .turn a=>par (Qy 5 0 a.op) a.pr++[39]
 | .add a b=>par (Qy 6 0 a.op) a.pr++[32,43,32]++par (Qy 6 1 b.op) b.pr
 | .sub a b=>par (Qy 7 0 a.op) a.pr++[32,45,32]++par (Qy 7 1 b.op) b.pr
 | .mul a b=>par (Qy 8 0 a.op) a.pr++[42]++par (Qy 8 1 b.op) b.pr
 | .pow a n=>par (Qy 9 0 a.op) a.pr++([94]++ar n)
 | .call x l=>x++([40]++l.pr++[41])
def aV.pr:aV->Bytes
 | .nil=>[]
 | .cons a l=>a.pr++l.dX
def aV.dX:aV->Bytes
 | .nil=>[]
 | .cons a l=>[44,32]++a.pr++l.dX
end
def Ln.pr:Ln->Bytes
 | .nothing=>[]
 | .lets x e=>[108,101,116,32]++x++[32,61,32]++e.pr
 | .cmd x .nil=>x
 | .cmd x l=>x++[32]++l.pr
def ay (b:Bool)(d:Nat):Nat:=if b then d+1 else d
mutual
def Ex.dp:Ex->Nat
 | .num _=>0| .name _=>0| .mat _=>0| .cpx _=>0
 | .neg a=>ay (Qy 4 0 a.op) a.dp
 | .turn a=>ay (Qy 5 0 a.op) a.dp
 | .add a b=>max (ay (Qy 6 0 a.op) a.dp) (ay (Qy 6 1 b.op) b.dp)
 | .sub a b=>max (ay (Qy 7 0 a.op) a.dp) (ay (Qy 7 1 b.op) b.dp)
 | .mul a b=>max (ay (Qy 8 0 a.op) a.dp) (ay (Qy 8 1 b.op) b.dp)
 | .pow a _=>ay (Qy 9 0 a.op) a.dp
 | .call _ l=>l.dp+1
def aV.dp:aV->Nat
 | .nil=>0
 | .cons a l=>max a.dp l.dp
end
def Ln.dp:Ln->Nat
 | .nothing=>0
 | .lets _ e=>e.dp
 | .cmd _ l=>l.dp
end ae
namespace Go.Proofs.YtgfmiladfeoldaaGreatDoor
open Go.RowKit ai ag
def Vo (neg:Bool)(n:Nat):Int:=if n=0 then 0 else if neg then -1 else 1
theorem Cm (neg:Bool)(v:Value)(xs:List Nat)(w:World)(hv:Rd w v xs)(hl:xs.length<=1099511627776):Calls Tryz.prog 121 #[.agg #[.bool neg,v]] w fun e w'=>e=.returned (.int .i64 (Vo neg (val xs)))/\Below w.heap.size w w':=by
 have HV:=zq hv;obtain⟨ao,cap,rfl,-,-,aZ,-⟩:=hv.2;have HA:=zq (Qq w (.cells #[.bool neg,.slice ao xs.length cap] 62));have qV:=zq (HV.o.below HA.o);have hb0:=Hs xs aZ;obtain⟨b,hb⟩:=xq (gi xs);rw[<-hb]at hb0;have HB:=zq hb;clear hv aZ hb;by_cases h0:b=0
 ·have hz:((b:Int)==0)=true:=by simp[h0]
  have HR:Hid (Vo neg (val xs)=0):=by show _=_;unfold Vo;rw[if_pos (hb0.1 h0)]
  clear hb0 h0;go_enter Tryz.func121,Tryz.ntmps121;go_wp2_with fail;refine(Wo _ xs _ qV.o hl).mono ?_;rintro e w1 ⟨rfl,rfl⟩;rw[<-HB.o];go_wp2_with fail;go_ret;exact⟨by rw[HR.o];rfl,HA.o⟩
 have hz:((b:Int)==0)=false:=by simp[h0]
 have hne: ¬val xs=0:=fun e=>h0 (hb0.2 e)
 have HR:Hid (Vo neg (val xs)=if neg then -1 else 1):=by show _=_;unfold Vo;rw[if_neg hne]
 clear hb0 h0 hne
 cases neg with
 |true=>
  go_enter Tryz.func121,Tryz.ntmps121;go_wp2_with fail;refine(Wo _ xs _ qV.o hl).mono ?_;rintro e w1 ⟨rfl,rfl⟩;rw[<-HB.o];go_wp2_with fail;go_ret
  exact⟨by rw[HR.o];rfl,HA.o⟩
 |false=>go_enter Tryz.func121,Tryz.ntmps121;go_wp2_with fail;refine(Wo _ xs _ qV.o hl).mono ?_;rintro e w1 ⟨rfl,rfl⟩;rw[<-HB.o];go_wp2_with fail;go_ret;exact⟨by rw[HR.o];rfl,HA.o⟩
theorem Gq:Zo=ae.ar:=rfl
theorem Jb (a b:Array UInt8):(⟨a⟩:ByteArray)++⟨b⟩=⟨a++b⟩:=by apply ByteArray.ext;simp
theorem Dg {xs:List Nat}(hl:xs.length<=8589934592)(aZ:ok xs):(Zo (val xs)).length<=274877906944:=by
 unfold Zo;split
 ·simp
 have:=Wb (Yy aZ);rw[aay];omega
def Zz (neg:Bool)(n:Nat):Bytes:=if neg=true/\n≠0 then 45::Zo n else Zo n
def Qwk (neg:Bool)(n:Nat)(w:World)(e:Ending)(w':World):Prop:=e=.returned (.string ⟨(Zz neg n).toArray⟩)/\Below w.heap.size w w'
theorem Kq (neg:Bool)(v:Value)(xs:List Nat)(w:World)(hs:SG w)(hv:Rd w v xs)(hl:xs.length<=8589934592):Calls Tryz.prog 65 #[.agg #[.bool neg,v]] w (Qwk neg (val xs) w):=by
 have HV:=zq hv;have eo:=zq hs;have hsz:4<w.heap.size:=adu w _ (hs 0 (by omega));obtain⟨ao,cap,rfl,-,-,aZ,-⟩:=hv.2;have HA:=zq (Qq w (.cells #[.bool neg,.slice ao xs.length cap] 62));have qV:=zq (HV.o.below HA.o);have fW:=zq (eo.o.below HA.o hsz)
 have hc0:(w.alloc (.cells #[.bool neg,.slice ao xs.length cap] 62)).cell? ⟨w.heap.size,0,none⟩=some (.bool neg):=by rw[World.cell?_alloc_at _ _ _ _ rfl];rfl
 have hc1:(w.alloc (.cells #[.bool neg,.slice ao xs.length cap] 62)).cell? ⟨w.heap.size,1,none⟩=some (.slice ao xs.length cap):=by rw[World.cell?_alloc_at _ _ _ _ rfl];rfl
 have vJ:=zq hc0;have EN:=zq hc1;have ej:=aZ;clear hv aZ hs hc0 hc1;by_cases h0:neg=true/\val xs≠0
 ·have hn:Vo neg (val xs)= -1:=by unfold Vo;rw[if_neg h0.2,if_pos h0.1]
  have HR:Hid (Zz neg (val xs)=45::Zo (val xs)):=by show _=_;unfold Zz;rw[if_pos h0]
  have HN:=zq hn
  have aaB: ¬9223372036854775807<1+(Zo (val xs)).length:=by have:=Dg hl ej;omega
  clear h0 hn ej;go_enter Tryz.func65,Tryz.ntmps65;go_wp2_with fail;refine(Pi _ xs _ fW.o qV.o hl).mono ?_;rintro e w1 ⟨rfl,hb1⟩;have aC:=zq hb1;have d0:=(hb1.cell (p:=⟨w.heap.size,0,none⟩) (by simp)).trans vJ.o;have d1:=(hb1.cell (p:=⟨w.heap.size,1,none⟩) (by simp)).trans EN.o;clear hb1;go_wp2_with fail;refine(Cm neg _ xs _ (qV.o.below aC.o) (by omega)).mono ?_;rintro e w2 ⟨rfl,hb2⟩;rw[HN.o];have aD:=zq hb2;clear hb2;go_wp2_with fail;go_ret;refine⟨?_,(HA.o.trans (aC.o.mono (by simp))).trans (aD.o.mono ((HA.o.trans (aC.o.mono (by simp))).size))⟩;rw[HR.o];show Ending.returned (.string ((⟨#[45]⟩:ByteArray)++⟨(Zo (val xs)).toArray⟩))=_;rw[Jb];simp
 have hn:0<=Vo neg (val xs):=by
  unfold Vo;split
  ·omega
  split
  ·rename_i h1 h2;exact absurd ⟨h2,h1⟩ h0
  omega
 have HR:Hid (Zz neg (val xs)=Zo (val xs)):=by show _=_;unfold Zz;rw[if_neg h0]
 obtain⟨k,hk⟩:=xq (Vo neg (val xs));rw[<-hk]at hn;have HK:=zq hk
 have hkb:decide (k<0)=false:=by simp;omega
 clear h0 hn hk;go_enter Tryz.func65,Tryz.ntmps65;go_wp2_with fail;refine(Pi _ xs _ fW.o qV.o hl).mono ?_;rintro e w1 ⟨rfl,hb1⟩;have aC:=zq hb1;have d0:=(hb1.cell (p:=⟨w.heap.size,0,none⟩) (by simp)).trans vJ.o;have d1:=(hb1.cell (p:=⟨w.heap.size,1,none⟩) (by simp)).trans EN.o;clear hb1;go_wp2_with fail;refine(Cm neg _ xs _ (qV.o.below aC.o) (by omega)).mono ?_;rintro e w2 ⟨rfl,hb2⟩;rw[<-HK.o];have aD:=zq hb2;clear hb2;go_wp2_with fail;go_ret;refine⟨?_,(HA.o.trans (aC.o.mono (by simp))).trans (aD.o.mono ((HA.o.trans (aC.o.mono (by simp))).size))⟩;rw[HR.o];rfl
theorem Qb7 (v:Value)(xs:List Nat)(w:World)(hv:Rd w v xs):Calls Tryz.prog 170 #[.bool false,v] w fun e w'=>e=.returned (.agg #[.bool false,v])/\Below w.heap.size w w':=by have HV:=zq hv;obtain⟨ao,cap,rfl,-,-,aZ,-⟩:=hv.2;clear hv aZ;go_enter Tryz.func170,Tryz.ntmps170;go_wp2_with fail;refine aaI (adM rfl _ _ w.heap.size 62 _ _ _ rfl (aaz w _) Tryz.underlying62 rfl (by kernel_rfl)) rfl ?_;exact⟨rfl,Qq _ _⟩
theorem Qv5 (n:Nat)(w:World)(hn:n<=64):Calls Tryz.prog 122 #[.int .i64 (n:Nat)] w fun e w'=> ∃v xs,e=.returned (.agg #[.bool false,v])/\Rd w' v xs/\val xs=n/\xs.length<=1/\Below w.heap.size w w':=by
 go_enter Tryz.func122,Tryz.ntmps122
 have h1: ¬((n:Int)<0):=by omega
 go_wp2_with fail
 have hblk:ba ((w.alloc (.cells #[.bool false,.slice none 0 0] 62)).alloc (.cells #[.int .u64 (n:Nat)] 101)) (w.heap.size+1) [n]:=by
  refine⟨?_,?_⟩
  ·have:=aaz (w.alloc (.cells #[.bool false,.slice none 0 0] 62)) (.cells #[.int .u64 (n:Nat)] 101)
   simp only[adB]at this;exact this
  intro x hx;simp at hx;subst hx;unfold BB;omega
 have HA:=zq (Qq w (.cells #[.bool false,.slice none 0 0] 62));have j4:=zq (Qq (w.alloc (.cells #[.bool false,.slice none 0 0] 62)) (.cells #[.int .u64 (n:Nat)] 101));refine(Vy _ [n] _ (hblk.whole (by simp)) (by simp)).mono ?_;rintro e w1 ⟨rfl,hB,hb1⟩;obtain⟨g,hg⟩:∃g,g=((w.alloc (.cells #[.bool false,.slice none 0 0] 62)).alloc (.cells #[.int .u64 (n:Nat)] 101)).heap.size:=⟨_,rfl⟩;rw[<-hg]at hB ⊢
 have lD:g=w.heap.size+2:=by rw[hg];simp
 have VE:=zq lD;have HB:=zq hB;have aC:=zq hb1;clear hB hb1 hblk hg lD;obtain⟨ys,zg⟩:=xq (Qw [n])
 have Ic:ys.length<=1:=by rw[zg];exact Qu [n]
 rw[<-zg]at HB ⊢
 have hyv:val ys=n:=by rw[zg,Qn];simp[ai.val]
 have sw:=zq hyv;clear zg hyv;go_wp2_with fail;refine(Qb7 _ ys _ (HB.o.whole (by omega))).mono ?_;rintro e w2 ⟨rfl,hb2⟩;have aD:=zq hb2;clear hb2
 have d0:w2.heap[w.heap.size]?=some (.cells #[.bool false,.slice none 0 0] 62 (0,0)):=by have q1:=j4.o.block w.heap.size (by simp);have q2:=aC.o.block w.heap.size (by simp;omega);have q3:=aD.o.block w.heap.size (by have:=HB.o.lt;have:=VE.o;omega);rw[q3,q2,q1];exact aaz w _
 have e0:w2.cell? ⟨w.heap.size,0,none⟩=some (.bool false):=(aam w2 _ _ _ _ _ d0).trans rfl;have e1:w2.cell? ⟨w.heap.size,1,none⟩=some (.slice none 0 0):=(aam w2 _ _ _ _ _ d0).trans rfl;have f0:w2.frozen? ⟨w.heap.size,0,none⟩=false:=aaH w2 _ 0 _ _ d0;have f1:w2.frozen? ⟨w.heap.size,1,none⟩=false:=aaH w2 _ 1 _ _ d0;have D0:=zq d0;clear d0;go_wp2_with fail;have s1:=aas w2 w.heap.size 0 #[.bool false,.slice none 0 0] 62 (.bool false) D0.o;have s2:=aas (w2.setCell ⟨w.heap.size,0,none⟩ (.bool false)) w.heap.size 1 _ 62 (.slice (some ⟨g,0,none⟩) ys.length ys.length) s1;refine aaI (adM rfl _ _ w.heap.size 62 _ _ _ rfl s2 Tryz.underlying62 rfl (by kernel_rfl)) rfl ?_;have hw:Below w.heap.size w w2:=(HA.o.trans (j4.o.mono (by simp))).trans ((aC.o.mono (by simp;omega)).trans (aD.o.mono (by have:=HB.o.lt;have:=VE.o;omega)));have hr:Wr w.heap.size none w2 ((w2.setCell ⟨w.heap.size,0,none⟩ (.bool false)).setCell ⟨w.heap.size,1,none⟩ (.slice (some ⟨g,0,none⟩) ys.length ys.length)):=(Wr.aI w2 0 _).trans (Mv.refl _ _) (Wr.aI _ 1 _);refine⟨_,ys,rfl,((HB.o.whole (by omega)).below aD.o).wr hr (fun k hk=>by cases hk;have:=VE.o;exact⟨by show g≠w.heap.size;omega,by simp⟩),sw.o,Ic,hr.aX hw hw.size (aaa _) (fun k hk=>by cases hk)⟩
def df (l:List Bytes):List Value:=l.map fun b=> .string ⟨b.toArray⟩
theorem Qfo (l:List Bytes):(df l).length=l.length:=by simp[df]
theorem Qfi (a b:List Bytes):df (a++b)=df a++df b:=by simp[df]
theorem Tryz.il:(Tryz.prog.info? 9).map (fun i=>(i.zero,i.size,i.bytes))=some (some (.string ⟨#[]⟩),1,16):=by kernel_rfl
theorem Bk (sep:Bytes):∀l:List Bytes,Lib.join l sep=ae.Qb sep l
 | []=>rfl
 | [a]=>by rw[Lib.join_one];rfl
 |a::b::l=>by have h:=Bk sep (b::l);rw[Lib.join_cons]at h ⊢;show a++Lib.joinTail sep (b::l)=a++sep++ae.Qb sep (b::l);rw[<-h];simp[Lib.joinTail]
def Pn (l:Bytes)(w:World)(e:Ending)(w':World):Prop:=e=.returned (.string ⟨l.toArray⟩)/\Below w.heap.size w w'
def SS (w:World)(v:Value)(l:List Bytes):Prop:=∃ao cap,v=.slice ao l.length cap/\l.length<=cap/\cap<=maxLen/\(0<l.length-> ∃g o,ao=some ⟨g,o,none⟩/\g<w.heap.size/\ ∀j b,l[j]?=some b->w.cell? ⟨g,o+j,none⟩=some (.string ⟨b.toArray⟩))
theorem SS.eV {w:World}{B n:Nat}{v:Value}{l:List Bytes}(h:w.ownsRow B 9 1 v n (df l)):SS w v l:=by
 have J:l.length=n:=by have:=h.1;rw[Qfo]at this;omega
 obtain⟨ao,E,e,O,H,I⟩:=Qj h;refine⟨ao,E,by rw[J];exact e,by omega,H,fun h0=> ?_⟩;obtain⟨g,rfl,a1,a2,a3⟩:=I (by omega);refine⟨g,0,rfl,a2,fun j b hj=> ?_⟩;have K:=(aae.1 hj).1;rw[abx,a3 j (by omega)];simp[df,hj]
theorem SS.below {w w':World}{v:Value}{l:List Bytes}(h:SS w v l)(hb:Below w.heap.size w w'):SS w' v l:=by obtain⟨ao,E,e,H,I,J⟩:=h;refine⟨ao,E,e,H,I,fun h0=> ?_⟩;obtain⟨g,o,rfl,a2,a3⟩:=J h0;exact⟨g,o,rfl,aaj a2 hb.size,fun j b hj=>(hb.cell (p:=⟨g,o+j,none⟩) a2).trans (a3 j b hj)⟩
theorem Hy (v:Value)(l:List Bytes)(sep:ByteArray)(w:World)(h:SS w v l)(hN:l.length<=140737488355328)(hl:(ae.Qb sep.data.toList l).length<=140737488355328):Calls Tryz.prog 123 #[v,.string sep] w (Pn (ae.Qb sep.data.toList l) w):=by
 obtain⟨ao,E,rfl,I,O,J⟩:=h;by_cases h0:0<l.length
 ·obtain⟨g,o,rfl,a2,a3⟩:=J h0
  have H:(l.map fun b=>(⟨b.toArray⟩:ByteArray)).map (·.data.toList)=l:=by
   rw[aeE]
   conv=>rhs;rw[<-List.map_id l]
   exact List.map_congr_left fun b _=>rfl
  have:=Tryz.strings_Join g o E (l.map fun b=>⟨b.toArray⟩) sep w (fun j x hj=>by
   rw[ads,aee]at hj;obtain⟨b,K,rfl⟩:=hj
   exact a3 j b K) a2 (by rw[aay];exact hN) (by rw[aay];exact I) (by rw[H,Bk];exact hl)
  rw[aay,H,Bk]at this;exact this.mono fun e w' h=>h
 have e:l=[]:=aaq (by omega);subst e;exact(Tryz.strings_Join_none ao E sep w).mono fun e w' ⟨a,b⟩=>⟨a,by rw[b];exact aa8 _ _⟩
theorem Qcy (n:Nat)(w:World)(hn:n<=4611686018427387904):Calls Tryz.prog 119 #[.int .i64 (n:Nat)] w fun e w'=>e=.returned (.bool (decide (n<=64)))/\w=w':=by
 have h1:decide (0<=(n:Int))=true:=by simp
 have h2:decide ((n:Int)<=64)=decide (n<=64):=by simp;omega
 go_enter Tryz.func119,Tryz.ntmps119;go_wp2_with fail;go_ret;exact⟨rfl,rfl⟩
def im (r c:Nat)(at_:Value):Value:=.agg #[.int .i64 (r:Nat),.int .i64 (c:Nat),at_]
theorem Qc9 (r c n cap:Nat)(ao:Option Addr)(w:World)(hr:r<=64)(hc:c<=64)(hn:n=r*c):Calls Tryz.prog 64 #[.agg #[.int .i64 (r:Nat),.int .i64 (c:Nat),.slice ao n cap]] w fun e w'=>e=.returned (.int .i64 0)/\Below w.heap.size w w':=by
 have HA:=zq (Qq w (.cells #[.int .i64 (r:Nat),.int .i64 (c:Nat),.slice ao n cap] 47))
 have tq:decide (r<=64)=true:=by simp;exact hr
 have ja:decide (c<=64)=true:=by simp;exact hc
 have SZ:(r:Int)*(c:Int)=(n:Int):=by rw[hn];exact(ad1 r c).symm
 have bf:n<=4096:=by rw[hn];exact ab7 hr hc
 have H1:=zq tq;have H2:=zq ja;clear hn;go_enter Tryz.func64,Tryz.ntmps64;go_wp2_with fail;refine(Qcy r _ (by omega)).mono ?_;rintro e w1 ⟨rfl,rfl⟩;rw[H1.o];go_wp2_with fail;refine(Qcy c _ (by omega)).mono ?_;rintro e w1 ⟨rfl,rfl⟩;rw[H2.o];go_wp2_with fail;go_ret;exact⟨rfl,HA.o⟩
theorem Ki {α:Type}(c:Nat):∀(i:Nat) (l:List α),ae.Xq c (i+1) l=ae.Xq c i l++[(l.drop (i*c)).take c]
 |0,l=>by simp[ae.Xq]
 |i+1,l=>by have h:=Ki c i (l.drop c);show l.take c::ae.Xq c (i+1) (l.drop c)=l.take c::ae.Xq c i (l.drop c)++_;rw[h,adG];simp[aeF,Nat.add_comm]
theorem Jn {α:Type}(c:Nat):∀(i:Nat) (l:List α),(ae.Xq c i l).length=i
 |0,_=>rfl
 |i+1,l=>by show _+1=_;rw[Jn c i]
theorem Uz {α:Type}(c:Nat):∀(i:Nat) (l X:List α),X∈ae.Xq c i l->(∀b∈X,b∈l)/\X.length<=c
 |0,_,_,h=>by cases h
 |i+1,l,X,h=>by
  rcases abY.1 h with rfl|h
  ·exact⟨fun b hb=>adD hb,by rw[aak];omega⟩
  have:=Uz c i (l.drop c) X h;exact⟨fun b hb=>adU (this.1 b hb),this.2⟩
theorem Ry (sep:Bytes)(M:Nat):∀l:List Bytes,(∀b∈l,b.length<=M)->(ae.Qb sep l).length<=l.length*(M+sep.length)
 | [],_=>aao _
 | [a],h=>by have:=h a (by simp);show a.length<=1*_;omega
 |a::b::l,h=>by have E:=Ry sep M (b::l) (fun x hx=>h x (ad4 _ hx));have H:=h a (by simp);show (a++sep++ae.Qb sep (b::l)).length<=_;simp only[aac];have e:(a::b::l).length=(b::l).length+1:=rfl;rw[e,aeF];omega
def Ze (r c:Nat)(l:List Bytes):Bytes:=
 if l=[] then [91]++ae.ar r++[58]++ae.ar c++[93]
 else [91]++ae.Qb [59,32] ((ae.Xq c r l).map (ae.Qb [32]))++[93]
theorem Sb (n:Nat):Zz false n=ae.ar n:=by unfold Zz;simp;rfl
theorem Tg {n:Nat}(h:n<=64):(ae.ar n).length<=20:=by
 have E:n<BB^1:=by unfold BB;omega
 have:=Wb E;unfold ae.ar;split
 ·simp
 rw[aay];omega
theorem Qjp (r c cap:Nat)(ao:Option Addr)(w:World)(hs:SG w)(hr:r<=64)(hc:c<=64):Calls Tryz.prog 66 #[.int .i64 (r:Nat),.int .i64 (c:Nat),.slice ao 0 cap] w (Pn (Ze r c []) w):=by
 have eo:=zq hs;have hsz:4<w.heap.size:=adu w _ (hs 0 (by omega));have q1:=Tg hr;have q2:=Tg hc;obtain⟨A,hA⟩:=xq (ae.ar r);obtain⟨B,hB⟩:=xq (ae.ar c);rw[<-hA]at q1;rw[<-hB]at q2;have HA:=zq hA;have HB:=zq hB;clear hs hA hB;go_enter Tryz.func66,Tryz.ntmps66;go_wp2_with fail;refine(Qv5 r _ hr).mono ?_;rintro e w1 ⟨v1,xs1,rfl,a1,a2,a3,a4⟩;have zT:=zq a1;have qc:=zq a2;have aC:=zq a4;clear a1 a2 a4;go_wp2_with fail;have hs1:=eo.o.below aC.o hsz;have eE:4<w1.heap.size:=aaj hsz aC.o.size;refine(Kq false _ xs1 _ hs1 zT.o (by omega)).mono ?_;rintro e w2 ⟨rfl,b1⟩;rw[qc.o,Sb,<-HA.o];have aD:=zq b1;have cr:=zq (hs1.below b1 eE);have eF:4<w2.heap.size:=aaj eE aD.o.size;clear b1 hs1;go_wp2_with fail;refine(Qv5 c _ hc).mono ?_;rintro e w3 ⟨v3,xs3,rfl,a1,a2,a5,a4⟩;have o9:=zq a1;have qd:=zq a2;have aS:=zq a4;clear a1 a2 a4;go_wp2_with fail;have hs3:=cr.o.below aS.o eF;refine(Kq false _ xs3 _ hs3 o9.o (by omega)).mono ?_;rintro e w4 ⟨rfl,b1⟩;rw[qd.o,Sb,<-HB.o];have bG:=zq b1;clear b1 hs3;go_wp2_with fail;go_ret;have hz1:=aC.o.size;have hz2:=aD.o.size;have hz3:=aS.o.size;refine⟨?_,((aC.o.trans (aD.o.mono hz1)).trans (aS.o.mono (aan hz1 hz2))).trans (bG.o.mono (aan (aan hz1 hz2) hz3))⟩
 have e:Ze r c []=[91]++A++[58]++B++[93]:=by rw[HA.o,HB.o];unfold Ze;rw[if_pos rfl]
 show Ending.returned (.string ((⟨#[91]⟩:ByteArray)++⟨A.toArray⟩++⟨#[58]⟩++⟨B.toArray⟩++⟨#[93]⟩))=_;rw[e,Jb,Jb,Jb,Jb];simp
theorem Qwo (r c:Nat)(l:List Bytes)(v:Value)(w:World)(hv:SS w v l)(hl:l≠[])(hr:r<=64)(hc:c<=64)(hn:l.length=r*c)(hb:∀b∈l,b.length<=2147483648):Calls Tryz.prog 66 #[.int .i64 (r:Nat),.int .i64 (c:Nat),v] w (Pn (Ze r c l) w):=by
 obtain⟨ao,cap,rfl,h1,h2,h3⟩:=hv;have dC:0<l.length:=adJ.2 hl;obtain⟨g,o,rfl,hg,hcell⟩:=h3 dC;obtain⟨n,bf⟩:=xq l.length;rw[<-bf]at h1 dC hn ⊢
 have oQ:n<=4096:=by rw[hn];exact ab7 hr hc
 have HC:=zq hcell;have HL:=zq hl;have HN:=zq hn;have cw:=zq bf;have vF:=zq hb
 have hne:((n:Int)==0)=false:=by simp;omega
 have h2':cap<=9223372036854775807:=by unfold maxLen at h2;omega
 have r5:=zq dC;clear hcell hl hn bf hb h3 dC;obtain⟨i0,hi,hz0,hz1',hz2'⟩:=abO Tryz.il;go_enter Tryz.func66,Tryz.ntmps66;go_wp2_with fail;go_loopw [7,8,23] (fun lv _ iv wr=> ∃i:Nat,iv=.int .i64 (i:Nat)/\i<=r/\wr.ownsRow w.heap.size 9 1 lv i (df ((ae.Xq c i l).map (ae.Qb [32])))/\Below w.heap.size w wr) (fun _ _ iv _=>(r-intOf iv).toNat)
 case atStart=>exact⟨0,rfl,aao _,adC _ _ _ _,aa8 _ _⟩
 case round=>
  obtain⟨i,rfl,yS,hown,hbl⟩:=hrel;have HOWN:=zq hown;have aP:=zq hbl;obtain⟨bo,gW,rfl,rf,kN,yL⟩:=Qj hown;have PU:=zq yL;clear hown hbl yL;by_cases hlt:i<r
  ·obtain⟨a,ha⟩:=xq (i*c)
   have hac:a+c<=n:=by rw[HN.o,ha,<-aeF];exact ab7 (by omega) (aaa _)
   have E1:(i:Int)*(c:Int)=(a:Int):=by rw[ha];exact(ad1 i c).symm
   have E2:((i:Int)+1)*(c:Int)=((a+c:Nat):Int):=by rw[Int.add_mul,E1];omega
   have TY:=zq ha;clear ha
   have hc0:0<c:=by
    rcases aeN c with h|h
    ·subst h;have h1:=HN.o;rw[aec]at h1;have h2:=r5.o;omega
    exact h
   have hca: ¬cap=a:=by omega
   obtain⟨X,hX⟩:=xq ((l.drop a).take c)
   have sX:X.length=c:=by rw[hX,aak,aag,<-cw.o];omega
   have HX:=zq hX;have QV:=zq sX;have hXb:∀b∈X,b.length<=2147483648:=fun b hb=>vF.o b (adU (adD (hX ▸ hb)))
   have hss:SS wr (.slice (some ⟨g,o+a,none⟩) c (cap-a)) X:=by
    refine⟨_,_,by rw[sX],by omega,by omega,fun _=>⟨g,o+a,rfl,aaj hg aP.o.size,fun j b hj=> ?_⟩⟩;rw[hX,adX]at hj;split at hj
    ·rw[adp]at hj
     rw[abJ];exact(aP.o.cell (p:=⟨g,o+(a+j),none⟩) hg).trans (HC.o (a+j) b hj)
    cases hj
   have AA:=zq hss;have jA:=Ry [32] 2147483648 X hXb;rw[sX]at jA
   have xj:(ae.Qb [32] X).length<=137438953536:=by refine aan jA (aan (ab7 hc (aaa _)) (by decide))
   have HJL:=zq xj;clear hX sX hXb hss jA xj;go_wp2_with fail;refine(Hy _ X ⟨#[32]⟩ _ AA.o (by rw[QV.o];omega) (aan HJL.o (by omega))).mono ?_;rintro e w1 ⟨rfl,hb1⟩;have aC:=zq hb1;have pV:=zq (Qg HOWN.o hb1 (aaa _));obtain⟨J,hJ⟩:=xq (ae.Qb [32] X);rw[show ae.Qb (⟨#[32]⟩:ByteArray).data.toList X=J from hJ.symm];have HJ:=zq hJ;clear hb1 hJ;have hz1:=aC.o.size;have hz2:=aP.o.size;go_wp2_with (at_builtin;refine adv _ rfl _ _ 105 rfl w.heap.size 9 i0 (.string ⟨#[]⟩) 1 16 Tryz.underlying105 hi hz0 hz1' hz2' rfl (by decide) _ _ _ rfl (abj pV.o _) ⟨w1.heap.size,0,none⟩ 1 1 [.string ⟨J.toArray⟩] rfl rfl (ag.Qh _ _ _ _ rfl) (by simp[Value.oneCell']) (by unfold maxLen;omega) (by omega) (by simp;omega) ?_);intro v4 w4 aM az _ jr
   have dP:df ((ae.Xq c (i+1) l).map (ae.Qb [32]))=df ((ae.Xq c i l).map (ae.Qb [32]))++[.string ⟨J.toArray⟩]:=by rw[Ki,ado,Qfi,<-TY.o,<-HX.o,HJ.o];rfl
   have jR:Hid (w4.ownsRow w.heap.size 9 1 v4 (i+1) (df ((ae.Xq c (i+1) l).map (ae.Qb [32])))):=by show World.ownsRow _ _ _ _ _ _ _;rw[dP];exact aM
   have bG:Hid (Below w.heap.size w w4):=abq ((aP.o.trans (aC.o.mono aP.o.size)).alloc (by omega) _) az (by simp;omega) (fun q hq=>(aaZ pV.o q hq).1);clear aM az jr dP;go_wp2_with fail;have ah:w4.ownsRow w.heap.size 9 1 v4 (i+1) (df ((ae.Xq c (i+1) l).map (ae.Qb [32])))/\Below w.heap.size w w4:=⟨jR.o,bG.o⟩
   first|exact⟨⟨i+1,rfl,by omega,ah⟩,by simp[intOf]<;>omega⟩|exact⟨by (repeat apply Exists.intro);exact⟨⟨i+1,rfl,by omega,ah⟩,rfl⟩,by simp[intOf]<;>omega⟩
  have iN:i=r:=by omega
  subst iN
  have iA:∀b∈(ae.Xq c i l).map (ae.Qb [32]),b.length<=137438953536:=by intro b hb;rw[adR]at hb;obtain⟨X,hX,rfl⟩:=hb;have h1:=Uz c i l X hX;refine aan (Ry [32] 2147483648 X (fun b hb=>vF.o b (h1.1 b hb))) ?_;refine aan (ab7 (aan h1.2 hc) (aaa _)) (by decide)
  have jA:=Ry [59,32] 137438953536 _ iA;rw[aay,Jn]at jA;obtain⟨T,hT⟩:=xq (ae.Qb [59,32] ((ae.Xq c i l).map (ae.Qb [32])));rw[<-hT]at jA
  have xj:T.length<=8796093026432:=by refine aan jA (aan (ab7 hr (aaa _)) (by decide))
  have HT:=zq hT;clear jA iA hT;go_wp2_with fail
  have hJ:=Hy _ ((ae.Xq c i l).map (ae.Qb [32])) ⟨#[59,32]⟩ _ (SS.eV HOWN.o) (by rw[aay,Jn];omega) (by
   show (ae.Qb [59,32] _).length<=_
   rw[<-HT.o];omega)
  rw[show ae.Qb (⟨#[59,32]⟩:ByteArray).data.toList ((ae.Xq c i l).map (ae.Qb [32]))=T from HT.o.symm]at hJ;refine hJ.mono ?_;rintro e w1 ⟨rfl,hb1⟩;have aC:=zq hb1;clear hb1 hJ;go_wp2_with fail;go_ret;refine⟨?_,aP.o.trans (aC.o.mono aP.o.size)⟩
  have e:Ze i c l=[91]++T++[93]:=by rw[HT.o];unfold Ze;rw[if_neg HL.o]
  show Ending.returned (.string ((⟨#[91]⟩:ByteArray)++⟨T.toArray⟩++⟨#[93]⟩))=_;rw[e,Jb,Jb];simp
def iY (w:World)(v:Value)(l:List (Bool×Nat)):Prop:=∃ao cap,v=.slice ao l.length cap/\l.length<=cap/\cap<=maxLen/\(0<l.length-> ∃g o,ao=some ⟨g,o,none⟩/\g<w.heap.size/\ ∀j p,l[j]?=some p-> ∃m xs,w.cell? ⟨g,o+j*2,none⟩=some (.bool p.1)/\w.cell? ⟨g,o+j*2+1,none⟩=some m/\Rd w m xs/\ai.val xs=p.2/\xs.length<=67108864)
theorem iY.below {w w':World}{v:Value}{l:List (Bool×Nat)}(h:iY w v l)(hb:Below w.heap.size w w'):iY w' v l:=by obtain⟨ao,E,e,H,I,J⟩:=h;refine⟨ao,E,e,H,I,fun h0=> ?_⟩;obtain⟨g,o,rfl,a2,a3⟩:=J h0;refine⟨g,o,rfl,aaj a2 hb.size,fun j p hj=> ?_⟩;obtain⟨m,xs,b1,b2,b3,b4,b5⟩:=a3 j p hj;exact⟨m,xs,(hb.cell (p:=⟨g,o+j*2,none⟩) a2).trans b1,(hb.cell (p:=⟨g,o+j*2+1,none⟩) a2).trans b2,b3.below hb,b4,b5⟩
def Yk (l:List (Bool×Nat)):List Bytes:=l.map fun p=>Zz p.1 p.2
theorem U5 (neg:Bool){xs:List Nat}(hl:xs.length<=67108864)(aZ:ok xs):(Zz neg (ai.val xs)).length<=2147483648:=by
 have h:(Zo (ai.val xs)).length<=1342177281:=by
  unfold Zo;split
  ·simp
  have:=Wb (Yy aZ);rw[aay];omega
 unfold Zz;split
 ·simp only[aaf];omega
 omega
theorem Qmx (r c:Nat)(l:List (Bool×Nat))(v:Value)(w:World)(hs:SG w)(hv:iY w v l)(hr:r<=64)(hc:c<=64)(hn:l.length=r*c):Calls Tryz.prog 30 #[.agg #[.int .i64 (r:Nat),.int .i64 (c:Nat),v]] w fun e w'=>e=.returned (.tuple #[.string ⟨(Ze r c (Yk l)).toArray⟩,.int .i64 0])/\Below w.heap.size w w':=by
 have eo:=zq hs;have HV:=zq hv;have hsz:4<w.heap.size:=adu w _ (hs 0 (by omega));obtain⟨ao,cap,rfl,h1,h2,h3⟩:=hv;obtain⟨n,bf⟩:=xq l.length;rw[<-bf]at h1 hn ⊢
 have oQ:n<=4096:=by rw[hn];exact ab7 hr hc
 have HN:=zq hn;have cw:=zq bf;have H3:=zq h3;have HA:=zq (Qq w (.cells #[.int .i64 (r:Nat),.int .i64 (c:Nat),.slice ao n cap] 47));have hblk:=aaz w (.cells #[.int .i64 (r:Nat),.int .i64 (c:Nat),.slice ao n cap] 47);have j5:=zq hblk;clear hs hn bf h3 hblk;obtain⟨i0,hi,hz0,hz1',hz2'⟩:=abO Tryz.il;go_enter Tryz.func30,Tryz.ntmps30;go_wp2_with fail;refine(Qc9 r c n cap ao _ hr hc HN.o).mono ?_;rintro e w1 ⟨rfl,hb1⟩;have th:w1.heap[w.heap.size]?=some (.cells #[.int .i64 (r:Nat),.int .i64 (c:Nat),.slice ao n cap] 47 (0,0)):=(hb1.block w.heap.size (by simp)).trans j5.o;have aC:Hid (Below w.heap.size w w1):=HA.o.trans (hb1.mono (by simp))
 have aQ:w.heap.size<w1.heap.size:=by have:=hb1.size;simp at this;omega
 have UA:=zq th;have e0:w1.cell? ⟨w.heap.size,0,none⟩=some (.int .i64 (r:Nat)):=(aam w1 _ _ _ _ _ th).trans rfl;have e1:w1.cell? ⟨w.heap.size,1,none⟩=some (.int .i64 (c:Nat)):=(aam w1 _ _ _ _ _ th).trans rfl;have e2:w1.cell? ⟨w.heap.size,2,none⟩=some (.slice ao n cap):=(aam w1 _ _ _ _ _ th).trans rfl;clear hb1 th;go_wp2_with (at_make;refine wpList_make_own _ rfl _ _ 105 rfl w1.heap.size 9 i0 (.string ⟨#[]⟩) 1 Tryz.underlying105 hi hz0 hz1' _ _ _ n rfl rfl rfl (by rw[hz2'];omega) (by unfold maxLen;omega) (aaa _) ?_);intro w2 hown2 hgrow2;have hb2:Below w1.heap.size w1 w2:=abq (aa8 _ _) hgrow2 (aaa _) (fun k hk=>by cases hk);have ou:=zq hown2;have aD:=zq hb2;have f2:w2.cell? ⟨w.heap.size,2,none⟩=some (.slice ao n cap):=(hb2.cell (p:=⟨w.heap.size,2,none⟩) aQ).trans e2;clear hown2 hgrow2 hb2;go_wp2_with fail;clear e0 e1 e2 f2;go_loopw [5,7,20] (fun lv _ iv wr=> ∃i:Nat,iv=.int .i64 (i:Nat)/\i<=n/\wr.ownsRow w1.heap.size 9 1 lv i (df (Yk (l.take i)))/\Below w1.heap.size w1 wr) (fun _ _ iv _=>(n-intOf iv).toNat)
 case atStart=>exact⟨0,rfl,aao _,by simpa [Yk,df] using ou.o,aD.o⟩
 case round=>
  obtain⟨i,rfl,jb,hown,hbl⟩:=hrel;have HOWN:=zq hown;have aP:=zq hbl;obtain⟨bo,gW,rfl,rf,kN,yL⟩:=Qj hown;have hz1:=hbl.size;clear hown hbl yL;by_cases hlt:i<n
  ·obtain⟨g,o,rfl,hg,hcell⟩:=H3.o (by rw[<-cw.o];omega)
   obtain⟨p,hp⟩:∃p,l[i]?=some p:=⟨_,aad (by rw[<-cw.o];omega)⟩;obtain⟨m,xs,c0,c1,jc,hval,pI⟩:=hcell i p hp;obtain⟨neg,k⟩:=p;obtain⟨mo,xR,hme,-⟩:=jc.2;subst hme;have py:Below w.heap.size w wr:=aC.o.trans (aP.o.mono (abD aQ));have d0:wr.cell? ⟨g,o+i*2,none⟩=some (.bool neg):=(py.cell (p:=⟨g,o+i*2,none⟩) hg).trans c0;have d1:wr.cell? ⟨g,o+i*2+1,none⟩=some (.slice mo xs.length xR):=(py.cell (p:=⟨g,o+i*2+1,none⟩) hg).trans c1;have iu:=zq (jc.below py);have k9:=zq hval;have HP:=zq hp;have ji:=zq py;clear c0 c1 jc hval hp hcell py;have gK:=zq (Qq wr (.cells #[.bool neg,.slice mo xs.length xR] 62))
   have fF:Hid ((Zz neg k).length<=2147483648):=by have:=U5 neg pI iu.o.ok;rw[k9.o]at this;exact this
   go_wp2_with fail;have hsg:=(eo.o.below ji.o hsz).below gK.o (aaj hsz ji.o.size);refine(Kq neg _ xs _ hsg (iu.o.below gK.o) (by omega)).mono ?_;rintro e w3 ⟨rfl,hb3⟩
   have e1:Zz neg (ai.val xs)=Zz neg k:=by rw[k9.o]
   rw[e1];obtain⟨T,hT⟩:=xq (Zz neg k);rw[<-hT];have HT:=zq hT;have aS:Hid (Below wr.heap.size wr w3):=gK.o.trans (hb3.mono (by simp));have eM:=zq (Qg HOWN.o aS.o (aaa _));have hz3:=aS.o.size;clear hb3 hsg hT e1 d0 d1;go_wp2_with (at_builtin;refine adv _ rfl _ _ 105 rfl w1.heap.size 9 i0 (.string ⟨#[]⟩) 1 16 Tryz.underlying105 hi hz0 hz1' hz2' rfl (by decide) _ _ _ rfl (abj eM.o _) ⟨w3.heap.size,0,none⟩ 1 1 [.string ⟨T.toArray⟩] rfl rfl (ag.Qh _ _ _ _ rfl) (by simp[Value.oneCell']) (by unfold maxLen;omega) (by omega) (by simp;omega) ?_);intro v4 w4 aM az _ jr
   have dP:df (Yk (l.take (i+1)))=df (Yk (l.take i))++[.string ⟨T.toArray⟩]:=by rw[ab2,HP.o];simp[Yk,df,HT.o]
   have jR:Hid (w4.ownsRow w1.heap.size 9 1 v4 (i+1) (df (Yk (l.take (i+1))))):=by show World.ownsRow _ _ _ _ _ _ _;rw[dP];exact aM
   have bG:Hid (Below w1.heap.size w1 w4):=abq ((aP.o.trans (aS.o.mono hz1)).alloc (by omega) _) az (by simp;omega) (fun q hq=>(aaZ eM.o q hq).1);clear aM az jr dP;go_wp2_with fail;have ah:w4.ownsRow w1.heap.size 9 1 v4 (i+1) (df (Yk (l.take (i+1))))/\Below w1.heap.size w1 w4:=⟨jR.o,bG.o⟩
   first|exact⟨⟨i+1,rfl,by omega,ah⟩,by simp[intOf]<;>omega⟩|exact⟨by (repeat apply Exists.intro);exact⟨⟨i+1,rfl,by omega,ah⟩,rfl⟩,by simp[intOf]<;>omega⟩
  have iN:i=n:=by omega
  have bT:l.take i=l:=aat (by rw[iN];exact adK cw.o.symm);rw[bT]at HOWN;have bA:=(aP.o.block w.heap.size aQ).trans UA.o;have e0:wr.cell? ⟨w.heap.size,0,none⟩=some (.int .i64 (r:Nat)):=(aam wr _ _ _ _ _ bA).trans rfl;have e1:wr.cell? ⟨w.heap.size,1,none⟩=some (.int .i64 (c:Nat)):=(aam wr _ _ _ _ _ bA).trans rfl;have ji:Hid (Below w.heap.size w wr):=aC.o.trans (aP.o.mono (abD aQ));have zG:=zq iN;clear bA bT iN;go_wp2_with fail
  have kr:(Yk l).length=r*c:=by unfold Yk;rw[aay,<-cw.o,HN.o]
  have yR:Calls Tryz.prog 66 #[.int .i64 (r:Nat),.int .i64 (c:Nat),.slice bo i gW] wr (Pn (Ze r c (Yk l)) wr):=by
   by_cases h0:Yk l=[]
   ·have eu:i=0:=by
     have:=aa7 List.length h0;rw[kr,aaG,<-HN.o]at this;rw[zG.o];exact this
    subst eu;rw[h0];exact Qjp r c gW bo _ (eo.o.below ji.o hsz) hr hc
   refine Qwo r c (Yk l) _ _ (SS.eV HOWN.o) h0 hr hc kr ?_;intro b hb;unfold Yk at hb;rw[adR]at hb;obtain⟨p,hp,rfl⟩:=hb;obtain⟨j,hj⟩:=aez hp
   have hl0:0<l.length:=by have:=(aae.1 hj).1;omega
   obtain⟨g,o,_,_,hcell⟩:=H3.o hl0;obtain⟨m,xs,_,_,jc,hval,pI⟩:=hcell j p hj;have:=U5 p.1 pI jc.ok;rw[hval]at this;exact this
  refine yR.mono ?_;rintro e w5 ⟨rfl,bL⟩;have dU:=zq bL;clear bL yR;go_wp2_with fail;go_ret2;exact⟨rfl,ji.o.trans (dU.o.mono ji.o.size)⟩
end Go.Proofs.YtgfmiladfeoldaaGreatDoor
