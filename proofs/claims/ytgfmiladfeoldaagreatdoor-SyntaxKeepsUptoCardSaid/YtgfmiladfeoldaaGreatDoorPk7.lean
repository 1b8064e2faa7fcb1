import Derived.Test.YtgfmiladfeoldaaGreatDoorPk4
import Derived.Test.YtgfmiladfeoldaaGreatDoorPk3
set_option linter.unusedSimpArgs false
set_option linter.unusedVariables false
set_option maxRecDepth 100000
set_option maxHeartbeats 16000000
namespace Go.Proofs.YtgfmiladfeoldaaGreatDoor
open Go.RowKit LexP
theorem Tryz.infoChar:(Tryz.prog.info? 182).map (fun i=>(i.zero,i.size,i.bytes))=some (some (.agg #[.int .i64 0,.int .i32 0,.int .i64 0]),3,24):=by kernel_rfl
def Qj2 (l:Qx)(w:World)(e:Ending)(w':World):Prop:=
 ∃v,e=.returned v/\w'.ownsRow w.heap.size 182 3 v (Qz l).length (X4 0 (Qz l))/\Below w.heap.size w w'
def Qmm (s:ByteArray)(w:World)(v:Value)(wr:World):Prop:=
 ∃pos dn,pos<=s.size/\wr.heap[w.heap.size]?=some (.stringIter s pos)/\Below w.heap.size w wr/\
  Qz s.data.toList=dn++Qz (s.data.toList.drop pos)/\(Qw dn).length=pos/\wr.ownsRow (w.heap.size+1) 182 3 v dn.length (X4 0 dn)
theorem Dg (w:World)(s:ByteArray):(w.iter s 0).heap[w.heap.size]?=some (.stringIter s 0):=World.iter_heap w s 0
theorem Fg (s:ByteArray)(w:World)(hs:s.size<=67108864):
  Calls Tryz.prog 155 #[.string s] w (Qj2 s.data.toList w):=by
 obtain⟨i0,hi,hz0,hz1,hz2⟩:=info_parts Tryz.infoChar;go_enter Tryz.func155,Tryz.ntmps155;go_wp2;go_loopw [3] (fun v wr=>Qmm s w v wr) (fun _ wr=>s.size-wr.iterPos w.heap.size)
 case atStart=>
  exact⟨0,[],Nat.zero_le _,Dg w s,(Below.refl _ _).alloc (Nat.le_refl _) _,by simp,rfl,World.ownsRow_nil _ _ _ _⟩
 case round=>
  obtain⟨pos,dn,hpos,hit,hbel,hch,hlen,hown⟩:=hrel;have hsz:w.heap.size<wr.heap.size:=(Array.getElem?_eq_some_iff.1 hit).1;by_cases hlt:pos<s.size
  ·have hn:=fun ty=>Lib.run_next_any_at (P:=Tryz.prog) wr w.heap.size s pos ty hit hlt
   have hLe:s.data.toList.drop pos≠[]:=by rw[Ne,List.drop_eq_nil_iff,<-Lib.size_eq];omega
   have hcons:=zq (Zq hLe);have hk1:=Kv (s.data.toList.drop pos)
   have hk2:pos+wid (s.data.toList.drop pos)<=s.size:=by have:=Gs hLe;rw[List.length_drop,<-Lib.size_eq]at this;omega
   have hdd:Hid (List.drop (wid (s.data.toList.drop pos)) (s.data.toList.drop pos)=s.data.toList.drop (pos+wid (s.data.toList.drop pos))):=by show _=_;rw[List.drop_drop]
   have hbl:Hid ((Qw (dn++[(val (s.data.toList.drop pos),List.take (wid (s.data.toList.drop pos)) (s.data.toList.drop pos))])).length=pos+wid (s.data.toList.drop pos)):=by
    show _=_;simp only[Qw,List.flatMap_append,List.length_append]at hlen ⊢;rw[hlen];have:=Gs hLe;simp;simp at this;omega
   have hfp:=zq (Qpq (s.data.toList.drop pos));have hvl:∀v,val (s.data.toList.drop pos)=some v->v<=0x10FFFF:=fun v h=>Qh1 h;rw[Wd s pos hlt,Wu s pos hlt]at hn;have HCH:=zq hch;have HLEN:=zq hlen
   have hxd:Hid ((s.extract pos s.size).data.toList=s.data.toList.drop pos):=by
    show _=_;rw[Lib.extract_data,List.take_of_length_le (by rw[List.length_drop,<-Lib.size_eq];exact Nat.le_refl _)]
   have hdn:dn.length<=67108864:=by
    have h1:=Zp s.data.toList;rw[hch,List.length_append,<-Lib.size_eq]at h1;omega
   clear hch hlen hLe
   have fin:∀(c:C) (v':Value) (w2:World),c=(val (s.data.toList.drop pos),List.take (wid (s.data.toList.drop pos)) (s.data.toList.drop pos))->
     w2.ownsRow (w.heap.size+1) 182 3 v' (dn.length+1) (X4 0 dn++X4 pos [c])->Below w.heap.size w w2->w2.heap[w.heap.size]?=some (.stringIter s (pos+wid (s.data.toList.drop pos)))->
     Qmm s w v' w2/\s.size-w2.iterPos w.heap.size<s.size-wr.iterPos w.heap.size:=by
    intro c v' w2 hc ho hb hi2;refine⟨⟨pos+wid (s.data.toList.drop pos),dn++[c],hk2,hi2,hb,?_,?_,?_⟩,?_⟩
    ·rw[HCH.o,hcons.o,hc,hdd.o];simp
    ·rw[hc];exact hbl.o
    ·rw[Kd,HLEN.o,Nat.zero_add];simpa using ho
    ·rw[iterPos_of hi2,iterPos_of hit];omega
   have FIN:=zq fin;clear fin hdd hbl HCH HLEN hcons hk2;generalize wid (s.data.toList.drop pos)=k at*;have hW:∃wi:World,wi=wr.iterAt w.heap.size s (pos+k):=⟨_,rfl⟩;obtain⟨wi,hwi⟩:=hW
   have q1:wi.ownsRow (w.heap.size+1) 182 3 u3 dn.length (X4 0 dn):=by rw[hwi];exact ownsRow_iterAt hown (Nat.lt_succ_self _) _ _
   have q2:Below w.heap.size w wi:=by rw[hwi];exact Lib.below_iterAt hbel (Nat.le_refl _) _ _
   have q3:wi.heap[w.heap.size]?=some (.stringIter s (pos+k)):=by rw[hwi];exact Lib.iterAt_heap _ _ _ _ _ hit
   have q4:w.heap.size<wi.heap.size:=(Array.getElem?_eq_some_iff.1 q3).1;rw[<-hwi]at hn;clear hwi;have Q3:=zq q3;clear q3
   cases hv:val (s.data.toList.drop pos) with
   |some r=>
    have hrle:=hvl r hv;rw[hv]at hn hfp FIN;clear hvl hv;simp only[Option.getD_some]at hn hfp;by_cases hr:r=0xFFFD
    ·subst hr
     have HP:Hid (Lib.hasPrefix (s.data.toList.drop pos) [239,191,189]=true):=hfp.o (by first|trivial|rfl);clear hfp;go_wp2_with (first|(go_at_call 200;refine(Hh 0xFFFD _ (by omega)).mono ?_;rintro e w' ⟨rfl,rfl⟩)|(go_at_call 201;refine(Tryz.strings_HasPrefix _ _ _).mono ?_;rintro e w' ⟨rfl,rfl⟩;simp only[hxd.o,HP.o])|(at_builtin;refine wpList_append_own _ rfl _ _ 179 rfl (w.heap.size+1) 182 i0 (.agg #[.int .i64 0,.int .i32 0,.int .i64 0]) 3 24 Tryz.underlying179 hi hz0 hz1 hz2 rfl (by decide) _ _ _ rfl ((q1.alloc _).alloc _) ⟨wi.heap.size+1,0,none⟩ 1 1 (X4 pos [(some 0xFFFD,List.take k (s.data.toList.drop pos))]) rfl rfl ?c1 ?c2 ?c3 ?c4 ?c5 ?_))
     case c1=>exact Qc _ _ _ _ (by simp)
     case c2=>intro u hu;simp[Sk]at hu;rcases hu with rfl|rfl|rfl<;>rfl
     case c3=>unfold maxLen;omega
     case c4=>omega
     case c5=>simp;omega
     intro v' w2 hown2 hgrow2 _
     have hfin:=FIN.o (some 0xFFFD,List.take k (s.data.toList.drop pos)) v' w2 rfl hown2
      (Below.grown (((q2.alloc (Nat.le_of_lt q4) _).alloc (by simp;omega) _)) hgrow2 (by simp;omega) (fun k hk=>Nat.le_of_succ_le (q1.lt k hk).1))
      ((hgrow2.block w.heap.size (by simp;omega) (fun e=>by have:=(q1.lt _ e.symm).1;omega)).trans
         ((Below.heap_alloc _ _ _ (by simp;omega)).trans ((Below.heap_alloc _ _ _ q4).trans Q3.o)))
     clear hown2 hgrow2;have HF:=zq hfin;clear hfin;go_wp2;exact HF.o
    ·have hr1:((r:Int)==65533)=false:=by simp;omega
     clear hfp hxd;go_wp2_with (first|(go_at_call 200;refine(Hh r _ hrle).mono ?_;rintro e w' ⟨rfl,rfl⟩)|(at_builtin;refine wpList_append_own _ rfl _ _ 179 rfl (w.heap.size+1) 182 i0 (.agg #[.int .i64 0,.int .i32 0,.int .i64 0]) 3 24 Tryz.underlying179 hi hz0 hz1 hz2 rfl (by decide) _ _ _ rfl ((q1.alloc _).alloc _) ⟨wi.heap.size+1,0,none⟩ 1 1 (X4 pos [(some r,List.take k (s.data.toList.drop pos))]) rfl rfl ?c1 ?c2 ?c3 ?c4 ?c5 ?_))
     case c1=>exact Qc _ _ _ _ (by simp)
     case c2=>intro u hu;simp[Sk]at hu;rcases hu with rfl|rfl|rfl<;>rfl
     case c3=>unfold maxLen;omega
     case c4=>omega
     case c5=>simp;omega
     intro v' w2 hown2 hgrow2 _
     have hfin:=FIN.o (some r,List.take k (s.data.toList.drop pos)) v' w2 rfl hown2
      (Below.grown (((q2.alloc (Nat.le_of_lt q4) _).alloc (by simp;omega) _)) hgrow2 (by simp;omega) (fun k hk=>Nat.le_of_succ_le (q1.lt k hk).1))
      ((hgrow2.block w.heap.size (by simp;omega) (fun e=>by have:=(q1.lt _ e.symm).1;omega)).trans
         ((Below.heap_alloc _ _ _ (by simp;omega)).trans ((Below.heap_alloc _ _ _ q4).trans Q3.o)))
     clear hown2 hgrow2;have HF:=zq hfin;clear hfin;go_wp2
     exact HF.o
   |none=>
    rw[hv]at hn hfp FIN;clear hvl hv;simp only[Option.getD_none]at hn hfp;have HP:Hid (Lib.hasPrefix (s.data.toList.drop pos) [239,191,189]=false):=hfp.o (by first|trivial|rfl);clear hfp;go_wp2_with (first|(go_at_call 200;refine(Hh 0xFFFD _ (by omega)).mono ?_;rintro e w' ⟨rfl,rfl⟩)|(go_at_call 201;refine(Tryz.strings_HasPrefix _ _ _).mono ?_;rintro e w' ⟨rfl,rfl⟩;simp only[hxd.o,HP.o])|(at_builtin;refine wpList_append_own _ rfl _ _ 179 rfl (w.heap.size+1) 182 i0 (.agg #[.int .i64 0,.int .i32 0,.int .i64 0]) 3 24 Tryz.underlying179 hi hz0 hz1 hz2 rfl (by decide) _ _ _ rfl ((q1.alloc _).alloc _) ⟨wi.heap.size+1,0,none⟩ 1 1 (X4 pos [(none,List.take k (s.data.toList.drop pos))]) rfl rfl ?c1 ?c2 ?c3 ?c4 ?c5 ?_))
    case c1=>exact Qc _ _ _ _ (by simp)
    case c2=>intro u hu;simp[Sk]at hu;rcases hu with rfl|rfl|rfl<;>rfl
    case c3=>unfold maxLen;omega
    case c4=>omega
    case c5=>simp;omega
    intro v' w2 hown2 hgrow2 _
    have hfin:=FIN.o (none,List.take k (s.data.toList.drop pos)) v' w2 rfl hown2
     (Below.grown (((q2.alloc (Nat.le_of_lt q4) _).alloc (by simp;omega) _)) hgrow2 (by simp;omega) (fun k hk=>Nat.le_of_succ_le (q1.lt k hk).1))
     ((hgrow2.block w.heap.size (by simp;omega) (fun e=>by have:=(q1.lt _ e.symm).1;omega)).trans
        ((Below.heap_alloc _ _ _ (by simp;omega)).trans ((Below.heap_alloc _ _ _ q4).trans Q3.o)))
    clear hown2 hgrow2;have HF:=zq hfin;clear hfin;go_wp2;exact HF.o
  ·have hn:=fun ty=>Lib.run_next_end_at (P:=Tryz.prog) wr w.heap.size s pos ty hit hlt
   go_wp2;go_ret
   have:pos=s.size:=by omega
   rw[List.drop_of_length_le (by rw[<-Lib.size_eq];omega),Ye,List.append_nil]at hch;rw[<-hch]at hown;exact⟨_,rfl,J6 hown (by omega),hbel⟩
def P5 (l:Qx):Nat×Nat:=if (Qz l).all Xx then ((Qz l).length,0) else (0,12)
def Qzh (l:Qx)(w:World)(e:Ending)(w':World):Prop:=
 e=.returned (.tuple #[.int .i64 (P5 l).1,.int .i64 (P5 l).2])/\Below w.heap.size w w'
theorem Bq (s:ByteArray)(w:World)(hs:s.size<=67108864):
  Calls Tryz.prog 91 #[.string s] w (Qzh s.data.toList w):=by
 go_enter Tryz.func91,Tryz.ntmps91;go_wp2_with fail;refine(Fg s _ hs).mono ?_;rintro e w1 ⟨v,rfl,hown,hbel⟩
 have hN:(Qz s.data.toList).length<=67108864:=by have:=Zp s.data.toList;rw[<-Lib.size_eq]at this;omega
 have HR:∀(a:Nat×Nat),a=P5 s.data.toList->Qzh s.data.toList w (.returned (.tuple #[.int .i64 (a.1:Nat),.int .i64 (a.2:Nat)])) w1:=fun a ha=>⟨by rw[ha],hbel⟩
 have HC:P5 s.data.toList=if (Qz s.data.toList).all Xx then ((Qz s.data.toList).length,0) else (0,12):=rfl
 generalize Qz s.data.toList=cs at*;have HR:=zq HR;have HC:=zq HC;obtain⟨ao,cap,rfl,hnc,hcm,hsh⟩:=Qm hown;go_wp2_with fail;have HSH:=zq hsh;have HB:=zq hbel;clear hown hsh hbel;go_loopw [4,10] (fun n i wr=> ∃k:Nat,k<=cs.length/\n=.int .i64 k/\i=.int .i64 k/\Below w1.heap.size w1 wr/\(cs.take k).all Xx=true) (fun _ i _=>cs.length-(intOf i).toNat)
 case atStart=>exact⟨0,Nat.zero_le _,rfl,rfl,Below.refl _ _,rfl⟩
 case round=>
  obtain⟨k,hk,rfl,rfl,hbk,hall⟩:=hrel;have HALL:=zq hall;clear hall;by_cases hlt:k<cs.length
  ·obtain⟨c,hc⟩:∃c,cs[k]?=some c:=⟨cs[k],List.getElem?_eq_getElem hlt⟩
   obtain⟨g,rfl,hbg,hgs,hcell⟩:=HSH.o (by omega);obtain⟨c1,c2,c3⟩:=Ku cs 0 k c hc
   have e1:wr.cell? ⟨g,k*3,none⟩=some (.int .i64 (kd c:Nat)):=by rw[hbk.cell (p:=⟨g,_,none⟩) hgs,hcell _ (by omega)];exact c1
   have e2:wr.cell? ⟨g,k*3+1,none⟩=some (.int .i32 (rn c:Nat)):=by rw[hbk.cell (p:=⟨g,_,none⟩) hgs,hcell _ (by omega)];exact c2
   have e3:wr.cell? ⟨g,k*3+2,none⟩=some (.int .i64 (0+(Qw (cs.take k)).length:Nat)):=by rw[hbk.cell (p:=⟨g,_,none⟩) hgs,hcell _ (by omega)];exact c3
   have hz:=hbk.size;clear c1 c2 c3 hcell HSH;have HCK:=zq hc;clear hc;by_cases hb:kd c=0
   ·have hb1:((kd c:Int)==0)=true:=by simp[hb]
    have HBD:=zq hb;clear hb;go_wp2;go_ret2
    have:cs.all Xx=false:=by
     rw[List.all_eq_false];exact⟨c,List.mem_of_getElem? HCK.o,by simp[Xx,HBD.o]⟩
    obtain⟨h1,h2⟩:=HR.o (0,12) (by rw[HC.o,this];rfl);exact⟨h1,h2.trans ((hbk.mono HB.o.size).alloc (by have:=HB.o.size;omega) _)⟩
   ·have hb1:((kd c:Int)==0)=false:=by simp[hb]
    go_wp2;exact⟨⟨k+1,by omega,by go_num,by go_num,hbk.alloc hz _,by rw[List.take_add_one,HCK.o];simp[HALL.o,Xx,hb]⟩,by simp[intOf];omega⟩
  ·go_wp2
   go_ret2
   have hk':k=cs.length:=by omega
   have h1:=HALL.o;rw[hk',List.take_length]at h1;obtain⟨h1,h2⟩:=HR.o (cs.length,0) (by rw[HC.o,h1];rfl);rw[hk'];exact⟨h1,h2.trans (hbk.mono HB.o.size)⟩
def Qzn (F:Nat)(p:C->Bool):Prop:=
 (∀(args:Array Value) (w:World),(callFunc F args).run Tryz.prog w=.ok (.enter F args) w)/\ ∀(c:C) (q:Nat) (w:World),Calls Tryz.prog F #[.agg #[.int .i64 (kd c:Nat),.int .i32 (rn c:Nat),.int .i64 (q:Nat)]] w fun e w'=>e=.returned (.bool (p c))/\Below w.heap.size w w'
theorem Cg:Qzn 157 Xx:=by
 refine⟨fun args w=>by kernel_rfl,?_⟩;intro c q w
 have h:Xx c= !((kd c:Int)==0):=by unfold Xx;rw[Bool.eq_iff_iff];simp
 rw[h];go_enter Tryz.func157,Tryz.ntmps157;go_wp2;go_ret;exact⟨by simp[bne],(Below.refl _ _).alloc (Nat.le_refl _) _⟩
theorem Qqv:Qzn 202 Q7:=by
 refine⟨fun args w=>by kernel_rfl,?_⟩;intro c q w
 cases h:((kd c:Int)==3) with
 |true=>
  have E:Q7 c=true:=by unfold Q7;simp at h;simp;left;omega
  rw[E];go_enter Tryz.func202,Tryz.ntmps202;go_wp2;go_ret
  exact⟨rfl,(Below.refl _ _).alloc (Nat.le_refl _) _⟩
 |false=>
  have E:Q7 c=((rn c:Int)==95):=by unfold Q7;rw[Bool.eq_iff_iff];simp at h ⊢;omega
  rw[E];go_enter Tryz.func202,Tryz.ntmps202;go_wp2;go_ret;exact⟨rfl,(Below.refl _ _).alloc (Nat.le_refl _) _⟩
theorem Qzj:Qzn 206 isAl:=by
 refine⟨fun args w=>by kernel_rfl,?_⟩;intro c q w
 cases h:((kd c:Int)==3) with
 |true=>
  have E:isAl c=true:=by unfold isAl;simp at h;simp;left;omega
  rw[E];go_enter Tryz.func206,Tryz.ntmps206;go_wp2;go_ret
  exact⟨rfl,(Below.refl _ _).alloc (Nat.le_refl _) _⟩
 |false=>
  have E:isAl c=((kd c:Int)==4):=by unfold isAl;rw[Bool.eq_iff_iff];simp at h ⊢;omega
  rw[E];go_enter Tryz.func206,Tryz.ntmps206;go_wp2;go_ret;exact⟨rfl,(Below.refl _ _).alloc (Nat.le_refl _) _⟩
def RdCh (w:World)(v:Value)(cs:List C):Prop:=w.ownsRow 0 182 3 v cs.length (X4 0 cs)
theorem RdCh.below {w w':World}{v:Value}{cs:List C}(h:RdCh w v cs)(hb:Below w.heap.size w w'):RdCh w' v cs:=Ql h hb (Nat.le_refl _)
theorem RdCh.shape {w:World}{v:Value}{cs:List C}(h:RdCh w v cs):∃ao cap,v=.slice ao cs.length cap/\cs.length<=cap/\cap<=maxLen/\
  ∀k c,cs[k]?=some c-> ∃g,ao=some ⟨g,0,none⟩/\g<w.heap.size/\w.cell? ⟨g,k*3,none⟩=some (.int .i64 (kd c:Nat))/\w.cell? ⟨g,k*3+1,none⟩=some (.int .i32 (rn c:Nat))/\
   w.cell? ⟨g,k*3+2,none⟩=some (.int .i64 ((Qw (cs.take k)).length:Nat)):=by
 obtain⟨ao,cap,rfl,J,H,K⟩:=Qm h;refine⟨ao,cap,rfl,J,H,fun k c hc=> ?_⟩;have T:k<cs.length:=(List.getElem?_eq_some_iff.1 hc).1;obtain⟨g,rfl,O,I,E⟩:=K (by omega);obtain⟨c1,c2,c3⟩:=Ku cs 0 k c hc;exact⟨g,rfl,I,by rw[E _ (by omega)];exact c1,by rw[E _ (by omega)];exact c2,by rw[E _ (by omega),c3,Nat.zero_add]⟩
theorem Cv (F:Nat)(p:C->Bool)(hF:Qzn F p)(v:Value)(cs:List C)(i:Nat)(w:World)(hr:RdCh w v cs)(hi:i<=cs.length):
  Calls Tryz.prog 156 #[v,.int .i64 (i:Nat),.func (.func F) #[] #[]] w fun e w'=>e=.returned (.int .i64 (i+Qg p (cs.drop i):Nat))/\Below w.heap.size w w':=by
 obtain⟨ao,cap,rfl,hnc,hcm,hsh⟩:=hr.shape;have HSH:=zq hsh;have HF:=zq hF.2;have hcf:=hF.1
 have hm:cs.length<=9223372036854775807:=by unfold maxLen at hcm;omega
 clear hsh hF hr hcm;go_enter Tryz.func156,Tryz.ntmps156;go_wp2_with fail;go_loopw [1] (fun v wr=> ∃m:Nat,i+m<=cs.length/\v=.int .i64 (i+m:Nat)/\Below w.heap.size w wr/\ ∀c∈(cs.drop i).take m,p c=true) (fun v _=>cs.length-(intOf v).toNat)
 case atStart=>exact⟨0,by omega,rfl,Below.refl _ _,by simp⟩
 case round=>
  obtain⟨m,hm2,rfl,hb,hall⟩:=hrel;have HALL:=zq hall;clear hall;by_cases hlt:i+m<cs.length
  ·obtain⟨c,hc⟩:∃c,cs[i+m]?=some c:=⟨cs[i+m],List.getElem?_eq_getElem hlt⟩
   obtain⟨g,rfl,hgs,e1,e2,e3⟩:=HSH.o _ c hc;rw[<-hb.cell (p:=⟨g,_,none⟩) hgs]at e1 e2 e3;have HC:=zq hc;have hz:=hb.size;clear hc HSH
   cases hp:p c with
   |true=>
    have HP:=zq hp;clear hp;go_wp2_with (refine(HF.o c _ _).mono ?_;rintro e w' ⟨rfl,hb2⟩;rw[HP.o]);refine⟨⟨m+1,by omega,by go_num,hb.trans (hb2.mono hz),?_⟩,by simp[intOf];omega⟩;intro d hd;rw[List.take_add_one,List.getElem?_drop,HC.o]at hd;simp at hd;rcases hd with hd|rfl
    ·exact HALL.o d hd
    ·exact HP.o
   |false=>
    have HP:=zq hp;clear hp;go_wp2_with (refine(HF.o c _ _).mono ?_;rintro e w' ⟨rfl,hb2⟩;rw[HP.o]);go_ret;have hrl:=Ue p (cs.drop i) m (by simp;omega) HALL.o (fun d hd=>by rw[List.getElem?_drop,HC.o]at hd;cases hd;exact HP.o)
    exact⟨Qjc (by rw[hrl]<;>omega),hb.trans (hb2.mono hz)⟩
  ·go_wp2
   go_ret;have hrl:=Ue p (cs.drop i) m (by simp;omega) HALL.o (fun d hd=>by rw[List.getElem?_drop,List.getElem?_eq_none (by omega)]at hd;cases hd)
   exact⟨Qjc (by rw[hrl]<;>omega),hb⟩
theorem Qjd {a b:ByteArray}(h:a=b):Ending.returned (.string a)=.returned (.string b):=by rw[h]
theorem Qqk (s:ByteArray)(v:Value)(i j:Nat)(w:World)(hr:RdCh w v (Qz s.data.toList))(hij:i<j)(hj:j<=(Qz s.data.toList).length)(_hs:s.size<=67108864):
  Calls Tryz.prog 203 #[.string s,v,.int .i64 (i:Nat),.int .i64 (j:Nat)] w fun e w'=>e=.returned (.string ⟨(Qw (((Qz s.data.toList).drop i).take (j-i))).toArray⟩)/\ ∃n,w'=w.drewN n:=by
 obtain⟨ao,cap,rfl,hnc,hcm,hsh⟩:=hr.shape
 have hm:(Qz s.data.toList).length<=9223372036854775807:=by unfold maxLen at hcm;omega
 obtain⟨c,hc⟩:∃c,(Qz s.data.toList)[i]?=some c:=⟨_,List.getElem?_eq_getElem (by omega)⟩;obtain⟨g,rfl,hgs,e1,e2,e3⟩:=hsh _ c hc;have M:=zq (Qj9 s.data.toList i j (by omega));have T:=zq (Yx s.data.toList);have b1:=Wk (Qz s.data.toList) i;have b2:=Wk (Qz s.data.toList) j;rw[T.o,<-Lib.size_eq]at b1 b2
 have b3:(Qw ((Qz s.data.toList).take i)).length<=(Qw ((Qz s.data.toList).take j)).length:=by
  have:=Wk ((Qz s.data.toList).take j) i;rw[List.take_take,Nat.min_eq_left (by omega)]at this;exact this
 clear hcm hr hc;by_cases hlt:j<(Qz s.data.toList).length
 ·obtain⟨d,hd⟩:∃d,(Qz s.data.toList)[j]?=some d:=⟨_,List.getElem?_eq_getElem hlt⟩
  obtain⟨g',hg',_,d1,d2,d3⟩:=hsh _ d hd
  cases hg'
  clear hsh hd T;generalize (Qw ((Qz s.data.toList).take i)).length=A at*;generalize (Qw ((Qz s.data.toList).take j)).length=B at*;generalize Qw (((Qz s.data.toList).drop i).take (j-i))=Z at*;generalize (Qz s.data.toList).length=N at*;go_enter Tryz.func203,Tryz.ntmps203;go_wp2;go_quiet (fail);go_wp2;go_ret;exact⟨Qjd (by rw[Lib.extract_eq,M.o]),_,rfl⟩
 ·have hjn:j=(Qz s.data.toList).length:=by omega
  have M2:Hid (s.extract (Qw ((Qz s.data.toList).take i)).length s.size=⟨(Qw (((Qz s.data.toList).drop i).take (j-i))).toArray⟩):=by
   show _=_;have h1:=M.o;rw[hjn,List.take_length,T.o,<-Lib.size_eq]at h1;rw[Lib.extract_eq,hjn,<-h1]
  clear hsh M T hjn;generalize (Qw ((Qz s.data.toList).take i)).length=A at*;generalize (Qw ((Qz s.data.toList).take j)).length=B at*;generalize Qw (((Qz s.data.toList).drop i).take (j-i))=Z at*;generalize (Qz s.data.toList).length=N at*;go_enter Tryz.func203,Tryz.ntmps203;go_wp2;go_ret;exact⟨Qjd M2.o,0,rfl⟩
def Eu (c:C):Prop:=kd c=5->rn c<128->c.2=[(rn c).toUInt8]
theorem Ea:∀r:Fin 128,Utf8.encode (r.val:Int)=⟨#[r.val.toUInt8]⟩:=by decide+kernel
theorem Qy5 (c:C)(w:World)(hk:kd c=5)(hc:Eu c):
  Calls Tryz.prog 207 #[.int .i32 (rn c:Nat)] w fun e w'=>e=.returned (.string ⟨(Z7 c).toArray⟩)/\w=w':=by
 have h5:rn c=0x2212\/rn c=0xd7\/rn c<128:=by
  unfold kd at hk;unfold rn
  cases hv:c.1 with
  |none=>rw[hv]at hk;simp at hk
  |some v=>
   rw[hv]at hk;simp only at hk ⊢;unfold kindOf at hk
   repeat' split at hk
   all_goals omega
 by_cases h1:rn c=0x2212
 ·have hs:Z7 c=[45]:=by unfold Z7;rw[if_pos h1]
  rw[hs,h1];clear hs h1 h5 hc hk;go_enter Tryz.func207,Tryz.ntmps207;go_wp2;go_ret;exact⟨rfl,rfl⟩
 by_cases h2:rn c=0xd7
 ·have hs:Z7 c=[42]:=by unfold Z7;rw[if_neg h1,if_pos h2]
  rw[hs,h2];clear hs h1 h2 h5 hc hk;go_enter Tryz.func207,Tryz.ntmps207;go_wp2;go_ret;exact⟨rfl,rfl⟩
 have h3:rn c<128:=by omega
 have hs:Z7 c=[(rn c).toUInt8]:=by unfold Z7;rw[if_neg h1,if_neg h2,hc hk h3]
 have he:=Ea ⟨rn c,h3⟩;simp only at he;rw[hs]
 have n1:((rn c:Int)==8722)=false:=by simp;omega
 have n2:((rn c:Int)==215)=false:=by simp;omega
 have HE:=zq he;clear hs h1 h2 h5 hc hk he;go_enter Tryz.func207,Tryz.ntmps207;go_wp2;go_ret;exact⟨by rw[HE.o];rfl,rfl⟩
def Xh (cs:List C)(i:Nat)(c:C):Nat×Qx×Nat×Nat:=
 if kd c=0 then (0,[],i,12)
 else if kd c=3 then (1,Qw ((cs.drop i).take (Qg Q7 (cs.drop i))),if Jo (Qw ((cs.drop i).take (Qg Q7 (cs.drop i)))) then (i,7) else (i+Qg Q7 (cs.drop i),0))
 else if kd c=4 then (2,Qw ((cs.drop i).take (Qg isAl (cs.drop i))),if 32<(Qw ((cs.drop i).take (Qg isAl (cs.drop i)))).length then (i,17) else (i+Qg isAl (cs.drop i),0))
 else if kd c=5 then (3,Z7 c,i+1,0)
 else (0,[],i,13)
def Sq (r:Nat×Qx×Nat×Nat)(i:Nat)(w:World)(e:Ending)(w':World):Prop:=
 e=.returned (.tuple #[.agg #[.int .i64 (r.1:Nat),.string ⟨r.2.1.toArray⟩,.int .i64 (i+1:Nat)],.int .i64 (r.2.2.1:Nat),.int .i64 (r.2.2.2:Nat)])/\Below w.heap.size w w'
theorem Js {r:Nat×Qx×Nat×Nat}{i:Nat}{w w':World}(a b c d e:Value)(ha:a=.int .i64 (r.1:Nat))(hb:b=.string ⟨r.2.1.toArray⟩)(hc:c=.int .i64 (i+1:Nat))(hd:d=.int .i64 (r.2.2.1:Nat))
  (he:e=.int .i64 (r.2.2.2:Nat)) (hw:Below w.heap.size w w'):Sq r i w (.returned (.tuple #[.agg #[a,b,c],d,e])) w':=by
 subst ha hb hc hd he;exact⟨rfl,hw⟩
theorem Qxt (s:ByteArray)(v:Value)(cs:List C)(i:Nat)(c:C)(w:World)(hr:RdCh w v cs)(hc:cs[i]?=some c)(hn:cs.length<=67108864)(hk:kd c=0\/kd c=6\/kd c=5)(hmk:Eu c):
  Calls Tryz.prog 158 #[.string s,v,.int .i64 (i:Nat)] w (Sq (Xh cs i c) i w):=by
 obtain⟨ao,cap,rfl,hnc,hcm,hsh⟩:=hr.shape;obtain⟨g,rfl,hgs,e1,e2,e3⟩:=hsh _ c hc;have hlt:i<cs.length:=(List.getElem?_eq_some_iff.1 hc).1;clear hsh hr hc hcm;rcases hk with hk|hk|hk
 ·have hres:Xh cs i c=(0,[],i,12):=by unfold Xh;rw[if_pos hk]
  rw[hres];rw[hk]at e1;clear hres hk;go_enter Tryz.func158,Tryz.ntmps158;go_wp2;refine bodyPost_ret (by simp[results,Tryz.results158,go_sem];first|rfl|exact⟨rfl,rfl⟩|exact⟨rfl,rfl,rfl⟩) rfl (Js _ _ _ _ _ rfl rfl (by first|rfl|simp) rfl rfl ?_);go_grown
 ·have hres:Xh cs i c=(0,[],i,13):=by unfold Xh;simp[hk]
  rw[hres];rw[hk]at e1;clear hres hk;go_enter Tryz.func158,Tryz.ntmps158;go_wp2;refine bodyPost_ret (by simp[results,Tryz.results158,go_sem];first|rfl|exact⟨rfl,rfl⟩|exact⟨rfl,rfl,rfl⟩) rfl (Js _ _ _ _ _ rfl rfl (by first|rfl|simp) rfl rfl ?_);go_grown
 ·have hres:Xh cs i c=(3,Z7 c,i+1,0):=by unfold Xh;simp[hk]
  have HK:=zq hk;rw[hres];rw[hk]at e1;clear hres hk;go_enter Tryz.func158,Tryz.ntmps158;go_wp2_with (go_at_call 207;refine(Qy5 c _ HK.o hmk).mono ?_;rintro e w' ⟨rfl,rfl⟩);refine bodyPost_ret (by simp[results,Tryz.results158,go_sem];first|rfl|exact⟨rfl,rfl⟩|exact⟨rfl,rfl,rfl⟩) rfl (Js _ _ _ _ _ rfl rfl (by first|rfl|simp) (by first|rfl|simp) rfl ?_);go_grown
theorem Qml {W w1:World}(hb:Below W.heap.size W w1):(∀b o,b<W.heap.size->w1.cell? ⟨b,o,none⟩=W.cell? ⟨b,o,none⟩)/\(∀b o,b<W.heap.size->w1.frozen? ⟨b,o,none⟩=W.frozen? ⟨b,o,none⟩):=
 ⟨fun b o h=>hb.cell (p:=⟨b,o,none⟩) h,fun b o h=>hb.frozen (p:=⟨b,o,none⟩) h⟩
theorem Ta (l:Qx)(i n:Nat):(Qw (((Qz l).drop i).take n)).length<=l.length:=by
 have E:=Wk ((Qz l).drop i) n
 have h:(Qw ((Qz l).drop i)).length<=(Qw (Qz l)).length:=by
  have:Qw ((Qz l).take i)++Qw ((Qz l).drop i)=Qw (Qz l):=by simp only[Qw];rw[<-List.flatMap_append,List.take_append_drop]
  rw[<-this,List.length_append];omega
 rw[Yx]at h;omega
def Lx (w:World):Prop:=∃m,w.cell? ⟨1,0,none⟩=some (.int .i64 m)
theorem Lx.lt {w:World}(h:Lx w):1<w.heap.size:=by obtain⟨m,h⟩:=h;exact World.block_lt_of_cell? w _ h
theorem Lx.below {w w':World}(h:Lx w)(hb:Below w.heap.size w w'):Lx w':=by
 have:=h.lt;obtain⟨m,h⟩:=h;exact⟨m,by rw[hb.cell (p:=⟨_,_,_⟩) this];exact h⟩
theorem Ns (s sub:ByteArray)(w:World)(hs:s.size<=67108864)(hx:Lx w):
  Calls Tryz.prog 205 #[.string s,.string sub] w fun e w'=>e=.returned (.bool (Lib.contains s.data.toList sub.data.toList))/\w'=w:=by
 obtain⟨m,h⟩:=hx;exact Tryz.strings_Contains s sub m w (by omega) h
theorem Qw9 (s:ByteArray)(v:Value)(i:Nat)(c:C)(w:World)(hr:RdCh w v (Qz s.data.toList))(hc:(Qz s.data.toList)[i]?=some c)(hs:s.size<=67108864)(hk:kd c=3)(hx:Lx w):
  Calls Tryz.prog 158 #[.string s,v,.int .i64 (i:Nat)] w (Sq (Xh (Qz s.data.toList) i c) i w):=by
 have hn:(Qz s.data.toList).length<=67108864:=by have:=Zp s.data.toList;rw[<-Lib.size_eq]at this;omega
 have hlt:i<(Qz s.data.toList).length:=(List.getElem?_eq_some_iff.1 hc).1;have HR:=zq hr;have HX:=zq hx
 have hp:1<=Qg Q7 ((Qz s.data.toList).drop i):=by
  rw[List.drop_eq_getElem_cons hlt];have:=List.getElem?_eq_getElem hlt;rw[hc]at this;obtain rfl:=Option.some.inj this;exact Xy (by simp[Q7,hk])
 have hq:i+Qg Q7 ((Qz s.data.toList).drop i)<=(Qz s.data.toList).length:=by
  have:=Zg Q7 ((Qz s.data.toList).drop i);rw[List.length_drop]at this;omega
 obtain⟨ao,cap,hv,hnc,hcm,hsh⟩:=hr.shape;obtain⟨g,hao,hgs,e1,e2,e3⟩:=hsh _ c hc;subst hao
 have hT:(Qw (((Qz s.data.toList).drop i).take (Qg Q7 ((Qz s.data.toList).drop i)))).length<=67108864:=by have:=Ta s.data.toList i (Qg Q7 ((Qz s.data.toList).drop i));rw[<-Lib.size_eq]at this;omega
 obtain⟨res,hres⟩:=xq (Xh (Qz s.data.toList) i c);rw[<-hres]
 have hres2:Xh (Qz s.data.toList) i c=(1,Qw (((Qz s.data.toList).drop i).take (Qg Q7 ((Qz s.data.toList).drop i))),if Jo (Qw (((Qz s.data.toList).drop i).take (Qg Q7 ((Qz s.data.toList).drop i)))) then (i,7) else (i+Qg Q7 ((Qz s.data.toList).drop i),0)):=by unfold Xh;simp[hk]
 rw[hres2]at hres;obtain⟨m,hmm⟩:∃m,Qg Q7 ((Qz s.data.toList).drop i)=m:=⟨_,rfl⟩;rw[hmm]at hres hT hq hp;obtain⟨T,htt⟩:∃T,Qw (((Qz s.data.toList).drop i).take m)=T:=⟨_,rfl⟩;rw[htt]at hres hT;have HM:=zq hmm;have HT:=zq htt;have HRES:=zq hres
 have hTs:(⟨T.toArray⟩:ByteArray).size<=67108864:=by rw[Lib.size_eq];simpa using hT
 rw[hk]at e1;subst hv;clear hres hres2 hmm htt hk hc hsh hr hx hcm;go_enter Tryz.func158,Tryz.ntmps158;go_wp2_with fail;refine(Cv _ Q7 Qqv _ (Qz s.data.toList) i _ (HR.o.below ?_) (by omega)).mono ?_
 ·go_grown
 rintro e w1 ⟨rfl,hb1⟩;rw[HM.o];go_wp2_with fail;refine(Qqk s _ i (i+m) w1 ((HR.o.below ?_).below hb1) (by omega) hq hs).mono ?_
 ·go_grown
 rintro e w2 ⟨rfl,nn,hw2⟩;rw[Nat.add_sub_cancel_left,HT.o];have hb2:=below_drewN hb1 nn;rw[<-hw2]at hb2;clear hw2 hb1 HR e1 e2 e3 HM HT;have hB:Below w.heap.size w w2:=Below.trans (by go_grown) (hb2.mono (by simp;omega));obtain⟨hcc,hff⟩:=Qml hb2;have hz:=hb2.size;simp only[World.size_alloc]at hz hcc hff;have q0:w2.cell? ⟨w.heap.size,0,none⟩=some (.int .i64 0):=(hcc _ _ (by omega)).trans (by simp[go_sem]);have q1:w2.cell? ⟨w.heap.size,1,none⟩=some (.string ⟨#[]⟩):=(hcc _ _ (by omega)).trans (by simp[go_sem]);have q2:w2.cell? ⟨w.heap.size,2,none⟩=some (.int .i64 0):=(hcc _ _ (by omega)).trans (by simp[go_sem]);clear hb2
 cases h1:Lib.hasSuffix T [95] with
 |true=>
  have H1:=zq h1
  have HB0:Hid ((if Jo T=true then (i,7) else (i+m,0))=(i,7)):=by show _=_;simp[Jo,h1]
  clear h1;go_wp2_with (go_at_call 204;refine(Tryz.strings_HasSuffix _ _ _ (by omega)).mono ?_;rintro e w' ⟨rfl,rfl⟩;simp only[H1.o]);have HB:=HB0.o
  refine bodyPost_ret (v:=.tuple #[.agg #[.int .i64 1,.string ⟨T.toArray⟩,.int .i64 (↑i+1)],.int .i64 ↑i,.int .i64 7]) (by simp[results,Tryz.results158,go_sem,q0,q1,q2]) rfl (Js _ _ _ _ _ (by rw[HRES.o]<;>rfl) (by rw[HRES.o]) (by first|rfl|simp) (by rw[HRES.o,HB]<;>first|rfl|simp) (by rw[HRES.o,HB]<;>first|rfl|simp) ?_)
  go_grown
 |false=>
  have H1:=zq h1
  cases h2:Lib.contains T [95,95] with
  |true=>
   have H2:=zq h2
   have HB0:Hid ((if Jo T=true then (i,7) else (i+m,0))=(i,7)):=by show _=_;simp[Jo,h2]
   clear h1 h2;go_wp2_with (first|(go_at_call 204;refine(Tryz.strings_HasSuffix _ _ _ (by omega)).mono ?_;rintro e w' ⟨rfl,rfl⟩;simp only[H1.o])|(go_at_call 205;refine(Ns _ _ _ hTs (HX.o.below (by go_grown))).mono ?_;rintro e w' ⟨rfl,rfl⟩;simp only[H2.o]));have HB:=HB0.o
   refine bodyPost_ret (v:=.tuple #[.agg #[.int .i64 1,.string ⟨T.toArray⟩,.int .i64 (↑i+1)],.int .i64 ↑i,.int .i64 7]) (by simp[results,Tryz.results158,go_sem,q0,q1,q2]) rfl (Js _ _ _ _ _ (by rw[HRES.o]<;>rfl) (by rw[HRES.o]) (by first|rfl|simp) (by rw[HRES.o,HB]<;>first|rfl|simp) (by rw[HRES.o,HB]<;>first|rfl|simp) ?_)
   go_grown
  |false=>
   have H2:=zq h2
   have HB0:Hid ((if Jo T=true then (i,7) else (i+m,0))=(i+m,0)):=by show _=_;simp[Jo,h1,h2]
   clear h1 h2;go_wp2_with (first|(go_at_call 204;refine(Tryz.strings_HasSuffix _ _ _ (by omega)).mono ?_;rintro e w' ⟨rfl,rfl⟩;simp only[H1.o])|(go_at_call 205;refine(Ns _ _ _ hTs (HX.o.below (by go_grown))).mono ?_;rintro e w' ⟨rfl,rfl⟩;simp only[H2.o]));have HB:=HB0.o
   refine bodyPost_ret (v:=.tuple #[.agg #[.int .i64 1,.string ⟨T.toArray⟩,.int .i64 (↑i+1)],.int .i64 (↑i+ ↑m),.int .i64 0]) (by simp[results,Tryz.results158,go_sem,q0,q1,q2]) rfl (Js _ _ _ _ _ (by rw[HRES.o]<;>rfl) (by rw[HRES.o]) (by first|rfl|simp) (by rw[HRES.o,HB]<;>first|rfl|simp) (by rw[HRES.o,HB]<;>first|rfl|simp) ?_)
   go_grown
theorem Qve (s:ByteArray)(v:Value)(i:Nat)(c:C)(w:World)(hr:RdCh w v (Qz s.data.toList))(hc:(Qz s.data.toList)[i]?=some c)(hs:s.size<=67108864)(hk:kd c=4)(hx:Lx w):
  Calls Tryz.prog 158 #[.string s,v,.int .i64 (i:Nat)] w (Sq (Xh (Qz s.data.toList) i c) i w):=by
 have hn:(Qz s.data.toList).length<=67108864:=by have:=Zp s.data.toList;rw[<-Lib.size_eq]at this;omega
 have hlt:i<(Qz s.data.toList).length:=(List.getElem?_eq_some_iff.1 hc).1;have HR:=zq hr;have HX:=zq hx
 have hp:1<=Qg isAl ((Qz s.data.toList).drop i):=by
  rw[List.drop_eq_getElem_cons hlt];have:=List.getElem?_eq_getElem hlt;rw[hc]at this;obtain rfl:=Option.some.inj this;exact Xy (by simp[isAl,hk])
 have hq:i+Qg isAl ((Qz s.data.toList).drop i)<=(Qz s.data.toList).length:=by
  have:=Zg isAl ((Qz s.data.toList).drop i);rw[List.length_drop]at this;omega
 obtain⟨ao,cap,hv,hnc,hcm,hsh⟩:=hr.shape;obtain⟨g,hao,hgs,e1,e2,e3⟩:=hsh _ c hc;subst hao
 have hT:(Qw (((Qz s.data.toList).drop i).take (Qg isAl ((Qz s.data.toList).drop i)))).length<=67108864:=by have:=Ta s.data.toList i (Qg isAl ((Qz s.data.toList).drop i));rw[<-Lib.size_eq]at this;omega
 obtain⟨res,hres⟩:=xq (Xh (Qz s.data.toList) i c);rw[<-hres]
 have hres2:Xh (Qz s.data.toList) i c=(2,Qw (((Qz s.data.toList).drop i).take (Qg isAl ((Qz s.data.toList).drop i))),if 32<(Qw (((Qz s.data.toList).drop i).take (Qg isAl ((Qz s.data.toList).drop i)))).length then (i,17) else (i+Qg isAl ((Qz s.data.toList).drop i),0)):=by unfold Xh;simp[hk]
 rw[hres2]at hres;obtain⟨m,hmm⟩:∃m,Qg isAl ((Qz s.data.toList).drop i)=m:=⟨_,rfl⟩;rw[hmm]at hres hT hq hp;obtain⟨T,htt⟩:∃T,Qw (((Qz s.data.toList).drop i).take m)=T:=⟨_,rfl⟩;rw[htt]at hres hT;have HM:=zq hmm;have HT:=zq htt;have HRES:=zq hres
 have hTs:(⟨T.toArray⟩:ByteArray).size<=67108864:=by rw[Lib.size_eq];simpa using hT
 rw[hk]at e1;subst hv;clear hres hres2 hmm htt hk hc hsh hr hx hcm;go_enter Tryz.func158,Tryz.ntmps158;go_wp2_with fail;refine(Cv _ isAl Qzj _ (Qz s.data.toList) i _ (HR.o.below ?_) (by omega)).mono ?_
 ·go_grown
 rintro e w1 ⟨rfl,hb1⟩;rw[HM.o];go_wp2_with fail;refine(Qqk s _ i (i+m) w1 ((HR.o.below ?_).below hb1) (by omega) hq hs).mono ?_
 ·go_grown
 rintro e w2 ⟨rfl,nn,hw2⟩;rw[Nat.add_sub_cancel_left,HT.o];have hb2:=below_drewN hb1 nn;rw[<-hw2]at hb2;clear hw2 hb1 HR e1 e2 e3 HM HT;have hB:Below w.heap.size w w2:=Below.trans (by go_grown) (hb2.mono (by simp;omega));obtain⟨hcc,hff⟩:=Qml hb2;have hz:=hb2.size;simp only[World.size_alloc]at hz hcc hff;have q0:w2.cell? ⟨w.heap.size,0,none⟩=some (.int .i64 0):=(hcc _ _ (by omega)).trans (by simp[go_sem]);have q1:w2.cell? ⟨w.heap.size,1,none⟩=some (.string ⟨#[]⟩):=(hcc _ _ (by omega)).trans (by simp[go_sem]);have q2:w2.cell? ⟨w.heap.size,2,none⟩=some (.int .i64 0):=(hcc _ _ (by omega)).trans (by simp[go_sem]);clear hb2
 have hsz:(⟨T.toArray⟩:ByteArray).size=T.length:=by rw[Lib.size_eq]
 have HSZ:=zq hsz;clear hsz;by_cases h1:32<T.length
 ·have HB0:Hid ((if 32<T.length then (i,17) else (i+m,0))=(i,17)):=by show _=_;rw[if_pos h1]
  have h3:(32:Int)<((⟨T.toArray⟩:ByteArray).size:Int):=by rw[HSZ.o];omega
  go_wp2;have HB:=HB0.o
  refine bodyPost_ret (v:=.tuple #[.agg #[.int .i64 2,.string ⟨T.toArray⟩,.int .i64 (↑i+1)],.int .i64 ↑i,.int .i64 17]) (by simp[results,Tryz.results158,go_sem,q0,q1,q2]) rfl (Js _ _ _ _ _ (by rw[HRES.o]<;>rfl) (by rw[HRES.o]) (by first|rfl|simp) (by rw[HRES.o,HB]<;>first|rfl|simp) (by rw[HRES.o,HB]<;>first|rfl|simp) ?_)
  go_grown
 ·have HB0:Hid ((if 32<T.length then (i,17) else (i+m,0))=(i+m,0)):=by show _=_;rw[if_neg h1]
  have h3: ¬(32:Int)<((⟨T.toArray⟩:ByteArray).size:Int):=by rw[HSZ.o];omega
  go_wp2;have HB:=HB0.o
  refine bodyPost_ret (v:=.tuple #[.agg #[.int .i64 2,.string ⟨T.toArray⟩,.int .i64 (↑i+1)],.int .i64 (↑i+ ↑m),.int .i64 0]) (by simp[results,Tryz.results158,go_sem,q0,q1,q2]) rfl (Js _ _ _ _ _ (by rw[HRES.o]<;>rfl) (by rw[HRES.o]) (by first|rfl|simp) (by rw[HRES.o,HB]<;>first|rfl|simp) (by rw[HRES.o,HB]<;>first|rfl|simp) ?_)
  go_grown
theorem Qw8 (s:ByteArray)(v:Value)(i:Nat)(c:C)(w:World)(hr:RdCh w v (Qz s.data.toList))(hc:(Qz s.data.toList)[i]?=some c)(hs:s.size<=67108864)(h1:kd c≠1)(h2:kd c≠2)(hmk:Eu c)(hx:Lx w):
  Calls Tryz.prog 158 #[.string s,v,.int .i64 (i:Nat)] w (Sq (Xh (Qz s.data.toList) i c) i w):=by
 have E:=Pk c
 have h:(Qz s.data.toList).length<=67108864:=by have:=Zp s.data.toList;rw[<-Lib.size_eq]at this;omega
 by_cases h3:kd c=3
 ·exact Qw9 s v i c w hr hc hs h3 hx
 by_cases h4:kd c=4
 ·exact Qve s v i c w hr hc hs h4 hx
 exact Qxt s v _ i c w hr hc h (by omega) hmk
theorem Fc {l:Qx}{v n:Nat}(h:dec l=some (v,n))(hv:v<128):n=1/\l.take n=[v.toUInt8]:=by
 unfold dec at h;split at h
 ·cases h
 ·rename_i b t
  split at h
  ·cases h
   refine⟨rfl,?_⟩;simp
  split at h
  ·split at h
   ·split at h
    ·rename_i k;simp only[Bool.and_eq_true,decide_eq_true_eq]at k;simp at h;omega
    ·simp at h
   ·cases h
  split at h
  ·split at h
   ·split at h
    ·rename_i k;simp only[Bool.and_eq_true,decide_eq_true_eq]at k;simp at h;omega
    ·simp at h
   ·cases h
  split at h
  ·split at h
   ·split at h
    ·rename_i k;simp only[Bool.and_eq_true,decide_eq_true_eq]at k;simp at h;omega
    ·simp at h
   ·cases h
  ·cases h
theorem Df:∀l:Qx,∀c∈Qz l,Eu c:=by
 apply Ww
 ·intro c E;simp[Ye]at E
 ·intro l H ih c E
  rw[Zq H]at E;rcases List.mem_cons.1 E with rfl|E
  ·intro K h
   unfold rn at h ⊢;simp only at h ⊢
   cases hd:dec l with
   |none=>simp[val,hd]at h
   |some p=>
    obtain⟨v,n⟩:=p
    have I:val l=some v:=by simp[val,hd]
    have J:wid l=n:=by simp[wid,hd]
    rw[I]at h ⊢;rw[J];exact(Fc hd h).2
  ·exact ih c E
theorem Fs {cs:List C}{i:Nat}{c:C}(h:cs[i]?=some c):cs.drop i=c::cs.drop (i+1):=by
 have E:i<cs.length:=(List.getElem?_eq_some_iff.1 h).1;rw[List.drop_eq_getElem_cons E];have:=List.getElem?_eq_getElem E;rw[h]at this;rw[Option.some.inj this]
theorem Qj4 {cs:List C}{i:Nat}{c:C}(h:cs[i]?=some c)(h1:kd c≠1)(h2:kd c≠2):
  ((Xh cs i c).2.2.2≠0->Toks (i+1) (cs.drop i)=.error (i+1,(Xh cs i c).2.2.2))/\
  ((Xh cs i c).2.2.2=0->i<(Xh cs i c).2.2.1/\(Xh cs i c).2.2.1<=cs.length/\
     Toks (i+1) (cs.drop i)=(Toks ((Xh cs i c).2.2.1+1) (cs.drop (Xh cs i c).2.2.1)).after [((Xh cs i c).1,(Xh cs i c).2.1,i+1)]):=by
 have K:i<cs.length:=(List.getElem?_eq_some_iff.1 h).1;have E:=Fs h;have O:=Pk c
 have I:∀p,i+Qg p (cs.drop i)<=cs.length:=fun p=>by have:=Zg p (cs.drop i);rw[List.length_drop]at this;omega
 by_cases h0:kd c=0
 ·unfold Xh;simp only[h0,if_true]
  exact⟨fun _=>by rw[E,Vl _ h0],fun h=>by simp at h⟩
 by_cases h3:kd c=3
 ·have e:=Ji (c:=c) (cs:=cs.drop (i+1)) (i+1) h3
  rw[<-E]at e
  have J:1<=Qg Q7 (cs.drop i):=by rw[E];exact Xy (by simp[Q7,h3])
  unfold Xh;simp only[h3,Nat.reduceEqDiff,if_true,if_false];rw[e];split
  ·exact⟨fun _=>rfl,fun h=>by simp at h⟩
  ·refine⟨fun h=>by simp at h,fun _=>⟨by simp only;omega,I _,?_⟩⟩
   simp only[List.drop_drop];rw[show i+1+Qg Q7 (cs.drop i)=i+Qg Q7 (cs.drop i)+1 from by omega]
 by_cases h4:kd c=4
 ·have e:=Zw (c:=c) (cs:=cs.drop (i+1)) (i+1) h4
  rw[<-E]at e
  have J:1<=Qg isAl (cs.drop i):=by rw[E];exact Xy (by simp[isAl,h4])
  unfold Xh;simp only[h4,Nat.reduceEqDiff,if_true,if_false];rw[e];split
  ·exact⟨fun _=>rfl,fun h=>by simp at h⟩
  ·refine⟨fun h=>by simp at h,fun _=>⟨by simp only;omega,I _,?_⟩⟩
   simp only[List.drop_drop];rw[show i+1+Qg isAl (cs.drop i)=i+Qg isAl (cs.drop i)+1 from by omega]
 by_cases h5:kd c=5
 ·unfold Xh;simp only[h5,Nat.reduceEqDiff,if_true,if_false]
  refine⟨fun h=>by simp at h,fun _=>⟨by omega,by omega,?_⟩⟩;rw[E,Z2 _ h5]
 ·have H:kd c=6:=by omega
  unfold Xh;simp only[H,Nat.reduceEqDiff,if_false];exact⟨fun _=>by rw[E,Zs _ H],fun h=>by simp at h⟩
def El (r:Res)(w:World)(e:Ending)(w':World):Prop:=
 ∃v,e=.returned (.tuple #[v,.int .i64 (resCol r:Nat),.int .i64 (resErr r:Nat)])/\w'.ownsRow w.heap.size 119 3 v (Qya r).length (Yh (Qya r))/\Below w.heap.size w w'
theorem Tryz.infoTok:(Tryz.prog.info? 119).map (fun i=>(i.zero,i.size,i.bytes))=some (some (.agg #[.int .i64 0,.string ⟨#[]⟩,.int .i64 0]),3,32):=by kernel_rfl
def Qzs (cs:List C)(w1:World)(v i:Value)(wr:World):Prop:=
 ∃k acc,k<=cs.length/\i=.int .i64 (k:Nat)/\wr.ownsRow w1.heap.size 119 3 v acc.length (Yh acc)/\Below w1.heap.size w1 wr/\
  Toks 1 cs=(Toks (k+1) (cs.drop k)).after acc/\acc.length<=k
theorem Mc {r:Res}{w w':World}{x y:Value}(c e:Nat)(hx:x=.int .i64 (c:Nat))(hy:y=.int .i64 (e:Nat))(h:r=.error (c,e))(hb:Below w.heap.size w w'):El r w (.returned (.tuple #[.slice none 0 0,x,y])) w':=by
 subst h hx hy;exact⟨_,rfl,World.ownsRow_nil _ _ _ _,hb⟩
theorem Qzk {r:Res}{w w':World}{v:Value}{l:List Tok}(h:r=.ok l)(ho:w'.ownsRow w.heap.size 119 3 v l.length (Yh l))(hb:Below w.heap.size w w'):El r w (.returned (.tuple #[v,.int .i64 0,.int .i64 0])) w':=by
 subst h;exact⟨_,rfl,ho,hb⟩
theorem Fv {r:Res}{acc:List Tok}{e:Nat×Nat}(h:r=.error e):r.after acc=.error e:=by subst h;rfl
theorem Km {r:Res}{acc:List Tok}(h:r=.ok []):r.after acc=.ok acc:=by subst h;simp[Res.after]
theorem Gf (s:ByteArray)(w:World)(hs:s.size<=67108864)(hx:Lx w):
  Calls Tryz.prog 90 #[.string s] w (El (Toks 1 (Qz s.data.toList)) w):=by
 obtain⟨i0,hi,hz0,hz1,hz2⟩:=info_parts Tryz.infoTok;have HX:=zq hx;have HMK:=zq (Df s.data.toList)
 have hn:(Qz s.data.toList).length<=67108864:=by have:=Zp s.data.toList;rw[<-Lib.size_eq]at this;omega
 clear hx;go_enter Tryz.func90,Tryz.ntmps90;go_wp2_with fail;refine(Fg s _ hs).mono ?_;rintro e w1 ⟨v,rfl,hown,hbel⟩;have HR:Hid (RdCh w1 v (Qz s.data.toList)):=J6 hown (Nat.zero_le _);have HB:=zq hbel;have hsz:=hbel.size;clear hown hbel;obtain⟨ao,cap,hv,hnc,hcm,hsh⟩:=HR.o.shape;have HSH:=zq hsh;clear hsh hcm;subst hv;go_wp2_with fail;go_loopw [2,6] (fun v i wr=>Qzs (Qz s.data.toList) w1 v i wr) (fun _ i _=>(Qz s.data.toList).length-(intOf i).toNat)
 case atStart=>exact⟨0,[],Nat.zero_le _,rfl,World.ownsRow_nil _ _ _ _,Below.refl _ _,by simp[Res.after_nil],Nat.le_refl _⟩
 case round=>
  obtain⟨k,acc,hk,rfl,hown,hb,htk,hal⟩:=hrel;have HTK:=zq htk;have HB2:Hid (Below w.heap.size w wr):=HB.o.trans (hb.mono HB.o.size);have hzz:=hb.size;clear htk;by_cases hlt:k<(Qz s.data.toList).length
  ·obtain⟨c,hc⟩:∃c,(Qz s.data.toList)[k]?=some c:=⟨_,List.getElem?_eq_getElem hlt⟩
   obtain⟨g,rfl,hgs,e1,e2,e3⟩:=HSH.o _ c hc;rw[<-hb.cell (p:=⟨g,_,none⟩) hgs]at e1 e2 e3;have HC:=zq hc;have HD:=zq (Fs hc);clear hc HSH;by_cases hk1:kd c=1
   ·have HE:Hid (Toks (k+1) ((Qz s.data.toList).drop k)=Toks (k+1+1) ((Qz s.data.toList).drop (k+1))):=by show _=_;rw[HD.o,Y8 _ hk1]
    rw[hk1]at e1;clear hk1;go_wp2_with fail;have hfin:Qzs (Qz s.data.toList) w1 u2 (.int .i64 (k+1)) wr:=⟨k+1,acc,by omega,by go_num,hown,hb,by rw[HTK.o,HE.o],by omega⟩;exact⟨hfin,by simp[intOf];omega⟩
   by_cases hk2:kd c=2
   ·have HE:=zq (Jf (cs:=(Qz s.data.toList).drop (k+1)) (k+1) hk2)
    rw[<-HD.o]at HE;have hle:=Zg Xx ((Qz s.data.toList).drop k);rw[List.length_drop]at hle;rw[hk2]at e1;clear hk1 hk2;go_wp2_with fail;refine(Cv _ Xx Cg _ (Qz s.data.toList) k _ (HR.o.below hb) hk).mono ?_;rintro e w2 ⟨rfl,hb2⟩;by_cases hl2:k+Qg Xx ((Qz s.data.toList).drop k)<(Qz s.data.toList).length
    ·go_wp2_with fail
     go_ret3
     exact Mc (k+1+Qg Xx ((Qz s.data.toList).drop k)) 12 (by show Value.int .i64 _=_;congr 1;omega) rfl
      (HTK.o.trans (Fv (HE.o.trans (if_pos (by rw[List.length_drop];omega))))) (HB2.o.trans (hb2.mono HB2.o.size))
    ·go_wp2_with fail
     have hfin:Qzs (Qz s.data.toList) w1 u2 (.int .i64 (↑k+ ↑(Qg Xx ((Qz s.data.toList).drop k)))) w2:=by
      refine⟨k+Qg Xx ((Qz s.data.toList).drop k),acc,by omega,by go_num,Ql hown hb2 (Nat.le_refl _),hb.trans (hb2.mono hzz),?_,by omega⟩;have hdn:List.drop (k+Qg Xx ((Qz s.data.toList).drop k)) (Qz s.data.toList)=[]:=List.drop_eq_nil_of_le (by omega);rw[hdn,Yy,HTK.o,HE.o,if_neg (by rw[List.length_drop];omega)]
     have hrun:1<=Qg Xx ((Qz s.data.toList).drop k):=by omega
     exact⟨hfin,by simp[intOf];omega⟩
   ·have HN:=Qj4 HC.o hk1 hk2
    have HNE:=zq HN.1;have HNO:=zq HN.2;have HMC:=HMK.o c (List.mem_of_getElem? HC.o)
    have n1:((kd c:Int)==1)=false:=by simp;omega
    have n2:((kd c:Int)==2)=false:=by simp;omega
    clear HN;go_wp2_with fail;refine(Qw8 s _ k c _ (HR.o.below hb) HC.o hs hk1 hk2 HMC (HX.o.below HB2.o)).mono ?_;rintro e w2 ⟨rfl,hb2⟩;generalize Xh (Qz s.data.toList) k c=nr at*;obtain⟨k3,t3,j3,e3⟩:=nr;simp only at HNE HNO ⊢;clear HMC hk1 hk2 n1 n2 e1 e2 HD HC;by_cases he:e3=0
    ·subst he
     obtain⟨hj1,hj2,hj3⟩:=HNO.o rfl;have HJ:=zq hj3;have q0:=Ql hown hb2 (Nat.le_refl _);have hzw2:=hb2.size;clear hj3 HNE HNO;go_wp2_with (at_builtin;refine wpList_append_own _ rfl _ _ 83 rfl w1.heap.size 119 i0 (.agg #[.int .i64 0,.string ⟨#[]⟩,.int .i64 0]) 3 32 Tryz.underlying83 hi hz0 hz1 hz2 rfl (by decide) _ _ _ rfl ((q0.alloc _).alloc _) ⟨w2.heap.size+1,0,none⟩ 1 1 (Yh [(k3,t3,k+1)]) rfl rfl ?c1 ?c2 ?c3 ?c4 ?c5 ?_)
     case c1=>exact Qc _ _ _ _ (by simp)
     case c2=>intro u hu;simp[Yh]at hu;rcases hu with rfl|rfl|rfl<;>rfl
     case c3=>unfold maxLen;omega
     case c4=>omega
     case c5=>simp;omega
     intro v' w3 hown3 hgrow3 _
     have HO3:Hid (w3.ownsRow w1.heap.size 119 3 v' (acc++[(k3,t3,k+1)]).length (Yh (acc++[(k3,t3,k+1)]))):=by
      show World.ownsRow _ _ _ _ _ _ _;rw[Gh,List.length_append];exact hown3
     have HB3:Hid (Below w1.heap.size w1 w3):=Below.grown ((((hb.trans (hb2.mono hzz)).alloc (by omega) _).alloc (by simp;omega) _)) hgrow3 (by simp;omega) (fun k hk=>(q0.lt k hk).1);clear hown3 hgrow3 q0 hown;go_wp2_with fail;have hfin:Qzs (Qz s.data.toList) w1 v' (.int .i64 ↑j3) w3:=⟨j3,acc++[(k3,t3,k+1)],hj2,rfl,HO3.o,HB3.o,by rw[HTK.o,HJ.o,Res.after_after],by simp;omega⟩;exact⟨hfin,by simp[intOf];omega⟩
    ·have he2:((e3:Int) !=0)=true:=by simp;omega
     go_wp2_with fail;go_ret3;exact Mc (k+1) e3 (by show Value.int .i64 _=_;congr 1) rfl (HTK.o.trans (Fv (HNE.o he))) ((HB2.o.trans (hb2.mono HB2.o.size)).alloc (by have:=hb2.size;have:=HB2.o.size;omega) _)
  ·go_wp2_with fail
   go_ret3;refine Qzk (HTK.o.trans (Km ?_)) (J6 hown HB.o.size) HB2.o;rw[List.drop_of_length_le (by omega),Yy]
end Go.Proofs.YtgfmiladfeoldaaGreatDoor
