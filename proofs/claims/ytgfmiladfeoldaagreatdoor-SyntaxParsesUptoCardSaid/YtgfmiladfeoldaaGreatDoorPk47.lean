/- Joined texts of this claim's proof: RnK, RnM. -/
import Derived.Test.YtgfmiladfeoldaaGreatDoorPk1
import Derived.Test.YtgfmiladfeoldaaGreatDoorPk45
import Derived.Test.YtgfmiladfeoldaaGreatDoorPk46
set_option linter.unusedSimpArgs false
set_option linter.unusedVariables false
set_option maxRecDepth 100000
set_option maxHeartbeats 16000000
namespace Go.Proofs.YtgfmiladfeoldaaGreatDoor
open Go.RowKit LexP NatP
theorem Qji (r c n:Nat)(w:World)(hr:r<=64)(hc:c<=64)(hn:n=r*c):
  Calls Tryz.prog 80 #[.int .i64 (r:Nat),.int .i64 (c:Nat),.int .i64 (n:Nat)] w fun e w'=>e=.returned (.bool true)/\w=w':=by
 have h1:(0:Int)<=(r:Int):=by omega
 have h2:(r:Int)<=64:=by omega
 have h3:(0:Int)<=(c:Int):=by omega
 have h4:(c:Int)<=64:=by omega
 have hm:r*c<=64*64:=Nat.mul_le_mul hr hc;obtain⟨m,hmm⟩:=xq (r*c)
 have hmul:(r:Int)*(c:Int)=((m:Nat):Int):=by rw[hmm];rfl
 have hw:IntKind.i64.wrap ((m:Nat):Int)=((m:Nat):Int):=IntWalk.i64_in _ (by omega)
 have heq:(((n:Nat):Int)==((m:Nat):Int))=true:=by rw[hn,hmm];simp
 clear hn hmm;go_enter Tryz.func80,Tryz.ntmps80;go_wp2_with fail;go_ret;exact⟨rfl,rfl⟩
theorem Qki (neg:Bool)(n:Nat):Y8 neg n≠[]:=by
 unfold Y8;split
 ·simp
 ·exact SynP.Qza n
theorem N6 (r c:Nat)(l:List (Bool×Nat))(v:Value)(w:World)(hv:IRd w v l)(hr:r<=64)(hc:c<=64)(hn:l.length=r*c):
  Calls Tryz.prog 42 #[.agg #[.int .i64 (r:Nat),.int .i64 (c:Nat),v]] w fun e w'=>e=.returned (.tuple #[.string ⟨(Zr r c (Yw l)).toArray⟩,.int .i64 0])/\Below w.heap.size w w':=by
 obtain⟨i0,hi,hz0,hzz1,hz2'⟩:=info_parts Tryz.infoSt;have HV:=zq hv;obtain⟨ao,cap,rfl,h1,h2,h3⟩:=hv;obtain⟨n,hnn⟩:=xq l.length;rw[<-hnn]at h1 hn ⊢
 have hn4:n<=4096:=by rw[hn];exact Nat.mul_le_mul hr hc
 have HN:=zq hn;have HNN:=zq hnn;have H3:=zq h3;have HA:=zq (Qq w (.cells #[.int .i64 (r:Nat),.int .i64 (c:Nat),.slice ao n cap] 47));have HBK:=zq (heap_alloc_new w (.cells #[.int .i64 (r:Nat),.int .i64 (c:Nat),.slice ao n cap] 47));have HSO:=zq (Qji r c n (w.alloc (.cells #[.int .i64 (r:Nat),.int .i64 (c:Nat),.slice ao n cap] 47)) hr hc hn)
 have HST:Hid (((w.alloc (.cells #[.int .i64 (r:Nat),.int .i64 (c:Nat),.slice ao n cap] 47)).alloc (.cells #[] 9)).ownsRow (w.heap.size+1) 9 1 (.slice (some ⟨w.heap.size+1,0,none⟩) 0 0) 0 []):=by
  have:=World.ownsRow_lit (base:=w.heap.size+1) (e:=9) (size:=1) (w.alloc (.cells #[.int .i64 (r:Nat),.int .i64 (c:Nat),.slice ao n cap] 47)) #[] 0 (by simp) (by unfold maxLen;omega) rfl;rw[World.size_alloc]at this;exact this
 have HB2:=zq (Qq (w.alloc (.cells #[.int .i64 (r:Nat),.int .i64 (c:Nat),.slice ao n cap] 47)) (.cells #[] 9));clear hn hnn h3;go_enter Tryz.func42,Tryz.ntmps42;go_wp2_with fail;refine HSO.o.mono ?_;rintro e w1 ⟨rfl,hw1⟩;subst hw1;obtain⟨w1,hw1⟩:∃w1,w1=w.alloc (.cells #[.int .i64 (r:Nat),.int .i64 (c:Nat),.slice ao n cap] 47):=⟨_,rfl⟩;rw[<-hw1]at HA HBK HST HB2 ⊢
 have hz1:w1.heap.size=w.heap.size+1:=by rw[hw1];simp
 rw[<-hz1]at HST;have HZ1:=zq hz1
 have hwlt:w.heap.size<w1.heap.size:=by omega
 clear hw1 hz1;go_wp2_with fail;go_loopw [4,5] (fun lv iv wr=> ∃i:Nat,iv=.int .i64 (i:Nat)/\i<=n/\wr.ownsRow w1.heap.size 9 1 lv i (sts (Yw (l.take i)))/\Below w1.heap.size w1 wr) (fun _ iv _=>(n-intOf iv).toNat)
 case atStart=>exact⟨0,rfl,Nat.zero_le _,by simpa [Yw,sts] using HST.o,HB2.o⟩
 case round=>
  obtain⟨i,rfl,hin,hown,hbl⟩:=hrel;have HOWN:=zq hown;have HBL:=zq hbl;obtain⟨bo,bcap,rfl,hbc,hbm,hbs⟩:=Qj hown;have hz1':=hbl.size;have hbk:=(HBL.o.block w.heap.size (by omega)).trans HBK.o;have e0:wr.cell? ⟨w.heap.size,0,none⟩=some (.int .i64 (r:Nat)):=(cell_of_row wr _ _ _ _ _ hbk).trans rfl;have e1:wr.cell? ⟨w.heap.size,1,none⟩=some (.int .i64 (c:Nat)):=(cell_of_row wr _ _ _ _ _ hbk).trans rfl;have e2:wr.cell? ⟨w.heap.size,2,none⟩=some (.slice ao n cap):=(cell_of_row wr _ _ _ _ _ hbk).trans rfl;have HBW:Hid (Below w.heap.size w wr):=HA.o.trans (HBL.o.mono (by omega));clear hown hbl hbs hbk;by_cases hlt:i<n
  ·obtain⟨g,o,rfl,hg,hcell⟩:=H3.o (by rw[<-HNN.o];omega)
   obtain⟨p,hp⟩:∃p,l[i]?=some p:=⟨_,List.getElem?_eq_getElem (by rw[<-HNN.o];omega)⟩;obtain⟨m,xs,c0,c1,hrd,hval,hxl⟩:=hcell i p hp;obtain⟨neg,k⟩:=p;obtain⟨mo,mcap,hme,-⟩:=hrd.2;subst hme;have d0:wr.cell? ⟨g,o+i*2,none⟩=some (.bool neg):=(HBW.o.cell (p:=⟨g,o+i*2,none⟩) hg).trans c0;have d1:wr.cell? ⟨g,o+i*2+1,none⟩=some (.slice mo xs.length mcap):=(HBW.o.cell (p:=⟨g,o+i*2+1,none⟩) hg).trans c1;have HRD:=zq (hrd.below HBW.o);have HP:=zq hp
   have HTL:Hid ((Y8 neg k).length<=2147483648):=by
    have:=Ur neg hxl hrd.ok;rw[hval]at this;exact this
   have HTI:=zq (Qv4 neg k _ wr ⟨xs,HRD.o,hval,hxl⟩);clear c0 c1 hrd hval hp hcell;go_wp2_with fail;refine HTI.o.mono ?_;rintro e w3 ⟨rfl,hb3⟩;obtain⟨T,hT⟩:=xq (Y8 neg k);rw[<-hT];have HT:=zq hT;have HB3:=zq hb3;have HO3:=zq (Qh HOWN.o hb3 (Nat.le_refl _));have hz3:=hb3.size;clear hb3 hT d0 d1 e0 e1 e2;go_wp2_with (at_builtin;refine wpList_append_own_at _ rfl _ _ 105 rfl w1.heap.size 9 i0 (.string ⟨#[]⟩) 1 16 Tryz.underlying105 hi hz0 hzz1 hz2' rfl (by decide) _ _ _ rfl (World.ownsRow.alloc HO3.o _) ⟨w3.heap.size,0,none⟩ 1 1 [.string ⟨T.toArray⟩] rfl rfl (LexP.Qb _ _ _ _ rfl) (by simp[Value.oneCell']) (by unfold maxLen;omega) (by omega) (by simp;omega) ?_);intro v4 w4 hown4 hgrow4 _ hbk4
   have hrows:sts (Yw (l.take (i+1)))=sts (Yw (l.take i))++[.string ⟨T.toArray⟩]:=by
    rw[List.take_add_one,HP.o];simp[Yw,sts,HT.o]
   have HO4:Hid (w4.ownsRow w1.heap.size 9 1 v4 (i+1) (sts (Yw (l.take (i+1))))):=by
    show World.ownsRow _ _ _ _ _ _ _;rw[hrows];exact hown4
   have HB4:Hid (Below w1.heap.size w1 w4):=Below.grown ((HBL.o.trans (HB3.o.mono hz1')).alloc (by omega) _) hgrow4 (by simp;omega) (fun q hq=>(World.ownsRow.lt HO3.o q hq).1);clear hown4 hgrow4 hbk4 hrows;go_wp2_with fail;have hfin:w4.ownsRow w1.heap.size 9 1 v4 (i+1) (sts (Yw (l.take (i+1))))/\Below w1.heap.size w1 w4:=⟨HO4.o,HB4.o⟩
   first|exact⟨⟨i+1,rfl,by omega,hfin⟩,by simp[intOf]<;>omega⟩|exact⟨by (repeat apply Exists.intro);exact⟨⟨i+1,rfl,by omega,hfin⟩,rfl⟩,by simp[intOf]<;>omega⟩
  ·have hie:i=n:=by omega
   have htk:l.take i=l:=List.take_of_length_le (by rw[hie];exact Nat.le_of_eq HNN.o.symm);rw[htk]at HOWN;have HIE:=zq hie
   have hil:(Yw l).length=r*c:=by unfold Yw;rw[List.length_map,<-HNN.o,HN.o]
   have HLA:Hid (Calls Tryz.prog 82 #[.int .i64 (r:Nat),.int .i64 (c:Nat),.slice bo i bcap] wr fun e w'=>e=.returned (.string ⟨(Zr r c (Yw l)).toArray⟩)/\Below wr.heap.size wr w'):=by
    by_cases h0:r=0\/c=0
    ·have hi0:i=0:=by
      rw[HIE.o,HN.o]
      rcases h0 with h|h<;>rw[h]<;>simp
     have hl0:Yw l=[]:=List.eq_nil_of_length_eq_zero (by rw[hil,<-HN.o,<-HIE.o,hi0]);rw[hi0,hl0];exact(Qvx r c bo bcap wr hr hc h0).mono fun e w' hp=>⟨hp.1,by rw[hp.2];exact Below.refl _ _⟩
    ·obtain⟨r',rfl⟩:∃r',r=r'+1:=⟨r-1,by omega⟩
     refine Qj2 r' c (Yw l) _ wr (SS.of_row HOWN.o) hr hc (by omega) hil ?_ ?_
     ·intro b hb
      unfold Yw at hb;rw[List.mem_map]at hb;obtain⟨p,hp,rfl⟩:=hb;obtain⟨j,hj⟩:=List.getElem?_of_mem hp
      have hl0:0<l.length:=by have:=(List.getElem?_eq_some_iff.1 hj).1;omega
      obtain⟨g,o,_,_,hcell⟩:=H3.o hl0;obtain⟨m,xs,_,_,hrd,hval,hxl⟩:=hcell j p hj;have:=Ur p.1 hxl hrd.ok;rw[hval]at this;exact this
     ·intro b hb
      unfold Yw at hb;rw[List.mem_map]at hb;obtain⟨p,hp,rfl⟩:=hb;exact Qki _ _
   clear htk hie hil;go_wp2_with fail;refine HLA.o.mono ?_;rintro e w3 ⟨rfl,hb3⟩;have HB3:=zq (Qg HBW.o hb3);clear hb3 e0 e1 e2;go_wp2_with fail;go_ret2;exact⟨rfl,HB3.o⟩
theorem Tryz.infoI62:(Tryz.prog.info? 62).map (fun i=>(i.zero,i.size,i.bytes))=some (some (.agg #[.bool false,.slice none 0 0]),2,32):=by kernel_rfl
def Wo (k:Nat):List (Bool×Value):=List.replicate k (false,.slice none 0 0)
theorem Qv0 (k:Nat):(madeCells #[Value.bool false,.slice none 0 0] (k*2)).toList=Xq (Wo k):=by
 have h:∀k,Xq (Wo (k+1))=[Value.bool false,.slice none 0 0]++Xq (Wo k):=fun k=>by simp[Wo,Xq,List.replicate_succ]
 apply List.ext_getElem?;intro i
 have H:∀k i,(Xq (Wo k))[i]?=if i<k*2 then some (if i % 2=0 then Value.bool false else .slice none 0 0) else none:=by
  intro k
  induction k with
  |zero=>intro i;simp[Wo,Xq]
  |succ k ih=>
   intro i;rw[h]
   match i with
   |0=>simp
   |1=>
    rw[if_pos (by omega)];rfl
   |i+2=>
    show (Xq (Wo k))[i]?=_;have e1:(i+2<(k+1)*2)=(i<k*2):=propext ⟨fun h=>by omega,fun h=>by omega⟩
    have e2:(i+2) % 2=i % 2:=by omega
    rw[ih,e2];simp only[e1]
 rw[H];by_cases hlt:i<k*2
 ·rw[if_pos hlt]
  have E:i % 2=0\/i % 2=1:=by omega
  simp only[madeCells,Array.toList_map,List.getElem?_map,Array.toList_range];rw[List.getElem?_range hlt]
  rcases E with E|E<;>simp[E]
 ·rw[if_neg hlt]
  simp only[madeCells,Array.toList_map,List.getElem?_map,Array.toList_range];rw[List.getElem?_eq_none (by simpa using hlt)];rfl
theorem Qqj (B:Nat)(w:World)(k:Nat):Yc B w (Wo k) (List.replicate k (false,0)):=by
 refine⟨by simp[Wo],fun j c p hc hp=> ?_⟩
 have h:c=(false,.slice none 0 0):=by
  have:=List.mem_of_getElem? hc;exact(List.mem_replicate.1 this).2
 have E:p=(false,0):=by
  have:=List.mem_of_getElem? hp;exact(List.mem_replicate.1 this).2
 subst h;subst E;exact⟨rfl,⟨[],Rd.nil w,rfl,Nat.zero_le _⟩,(fun q hq=>by cases hq),(by simp[lenOf])⟩
theorem Qjs (l:List (Bool×Nat))(h:∀p∈l,p.1=true->p.2≠0):Yw l=l.map SynP.intT:=by
 unfold Yw;apply List.map_congr_left;intro p E;unfold Y8 SynP.intT
 cases hb:p.1 with
 |true=>rw[if_pos ⟨rfl,h p E hb⟩];rfl
 |false=>rw[if_neg (by simp)];rfl
theorem Gf (m:SynP.MatV)(h:∀p∈m.at_,p.1=true->p.2≠0):Zr m.rows m.cols (Yw m.at_)=SynP.matT m:=by
 rw[Qjs m.at_ h];unfold Zr SynP.matT;by_cases h0:m.at_=[]
 ·rw[if_pos (by rw[h0];rfl),if_pos h0]
 ·rw[if_neg (by simpa using h0),if_neg h0]
theorem Qxz {fin a0 q:Nat}{L:List Tok}{x:RfP.RW}(hm:SynP.Qv [91] x.ts=true)(hd:L.drop a0=x.ts)(hq:q=a0+1)(hk:SynP.Qy 1 (L.drop q)=true)(hc:SynP.Qv [58] (L.drop (q+1))=true):
  matR fin x=if SynP.Qy 1 (L.drop (q+2))=false then .error (SynP.Q7 fin (L.drop (q+2)),14)
   else if SynP.Qv [93] (L.drop (q+3))=false then .error (SynP.Q7 fin (L.drop (q+3)),14)
   else if 64<SynP.Xx (SynP.Qm (L.drop q))\/64<SynP.Xx (SynP.Qm (L.drop (q+2))) then .error (SynP.Q7 fin (L.drop a0),5)
   else .ok {x with ts:=L.drop (q+4),vals:=.mat ⟨SynP.Xx (SynP.Qm (L.drop q)),SynP.Xx (SynP.Qm (L.drop (q+2))),List.replicate (SynP.Xx (SynP.Qm (L.drop q))*SynP.Xx (SynP.Qm (L.drop (q+2)))) (false,0)⟩::x.vals,want:=false,pw:=false}:=by
 have h:x.ts.tail=L.drop q:=by rw[<-hd,List.tail_drop,hq]
 have e1:x.ts.tail.tail=L.drop (q+1):=by rw[h,List.tail_drop]
 have e2:x.ts.tail.tail.tail=L.drop (q+2):=by rw[e1,List.tail_drop]
 have e3:x.ts.tail.tail.tail.tail=L.drop (q+3):=by rw[e2,List.tail_drop]
 have e4:x.ts.tail.tail.tail.tail.tail=L.drop (q+4):=by rw[e3,List.tail_drop]
 have E:∀n,(64<SynP.side n)↔64<n:=fun n=>by unfold SynP.side;split<;>omega
 unfold matR SynP.X6 SynP.want;rw[if_pos (show SynP.Qv [91] (⟨x.ts,x.depth⟩:SynP.St).ts=true from hm)];simp only[SynP.Yj]
 rw[if_pos (show (SynP.Qy 1 (SynP.St.adv ⟨x.ts,x.depth⟩).ts && SynP.Qv [58] (SynP.St.adv ⟨x.ts,x.depth⟩).ts.tail)=true by
  show (SynP.Qy 1 x.ts.tail && SynP.Qv [58] x.ts.tail.tail)=true
  rw[h,List.tail_drop,hk,hc];rfl)]
 unfold SynP.Ja SynP.Qi SynP.want;rw[if_pos (show SynP.Qy 1 (SynP.St.adv ⟨x.ts,x.depth⟩).ts=true by show SynP.Qy 1 x.ts.tail=true;rw[h];exact hk)];simp only[SynP.Yj];rw[if_pos (show SynP.Qv [58] (SynP.St.adv (SynP.St.adv ⟨x.ts,x.depth⟩)).ts=true by show SynP.Qv [58] x.ts.tail.tail=true;rw[e1];exact hc)];simp only[SynP.Yj];show (match (if SynP.Qy 1 x.ts.tail.tail.tail=true then SynP.ret (SynP.Xx (SynP.Qm x.ts.tail.tail.tail)) (⟨x.ts.tail.tail.tail.tail,x.depth⟩:SynP.St) else SynP.unfit fin ⟨x.ts.tail.tail.tail,x.depth⟩:SynP.PR Nat).bind _ with|some (.ok (m,s))=>RfP.has x (.mat m) s.ts|some (.error e)=> .error e|none=> .error (0,0))=_;have e0:(SynP.St.adv ⟨x.ts,x.depth⟩).ts=L.drop q:=h
 have e3':(L.drop (q+2)).tail=L.drop (q+3):=by rw[List.tail_drop]
 have e4':(L.drop (q+3)).tail=L.drop (q+4):=by rw[List.tail_drop]
 rw[e2,e3',e0];by_cases h1:SynP.Qy 1 (L.drop (q+2))=true
 ·rw[if_pos h1,if_neg (by rw[h1];decide)]
  simp only[SynP.Yj];by_cases h2:SynP.Qv [93] (L.drop (q+3))=true
  ·rw[if_pos h2,if_neg (by rw[h2];decide)]
   simp only[SynP.Yj];by_cases h3:64<SynP.Xx (SynP.Qm (L.drop q))\/64<SynP.Xx (SynP.Qm (L.drop (q+2)))
   ·rw[if_pos (by simpa [E] using h3),if_pos h3]
    show Except.error (SynP.Q7 fin x.ts,5)=_;rw[hd]
   ·rw[if_neg (by simpa [E] using h3),if_neg h3]
    show RfP.has x _ (L.drop (q+3)).tail=_;rw[e4'];rfl
  ·have H:SynP.Qv [93] (L.drop (q+3))=false:=by simpa using h2
   rw[if_neg h2,if_pos H];rfl
 ·have I:SynP.Qy 1 (L.drop (q+2))=false:=by simpa using h1
  rw[if_neg h1,if_pos I];rfl
theorem Qky (R:Nat)(tv:Value)(L:List Tok)(fin a0 q:Nat)(x:RfP.RW)(w:World)(h:WRi w R tv L q x)(hm:SynP.Qv [91] x.ts=true)(hd:L.drop a0=x.ts)(hq:q=a0+1)(hlb:L.length<=67108864)(htk:∀t∈L,TokW t)(hsz:SynP.Qo x.vals.reverse<=134217728)(hk:SynP.Qy 1 (L.drop q)=true)(hc:SynP.Qv [58] (L.drop (q+1))=true):
  Calls Tryz.prog 197 #[.pointer (some ⟨R,0,none⟩),.int .i64 (a0:Nat)] w (Rw R tv L fin (matR fin x) w):=by
 obtain⟨i0,hi,hz0,hz1,hz2⟩:=info_parts Tryz.infoI62;have HMS:=zq (Qxz (fin:=fin) hm hd hq hk hc);have hRl:=h.lt;have HW:=zq h;obtain⟨c0,c1,-,-,-,htr⟩:=h.cells;have f1:=h.fro 1
 obtain⟨t,ht⟩:∃t,L[q]?=some t:=by
  cases h:L[q]? with
  |some t=>exact⟨t,rfl⟩
  |none=>rw[Vr,h]at hk;cases hk
 have ht1:t.1=1:=by
  rw[Vr,ht]at hk
  simpa using hk
 have hql:q<L.length:=(List.getElem?_eq_some_iff.1 ht).1;obtain⟨n1,n2,n3,n4⟩:=htk t (List.mem_of_getElem? ht) ht1
 have hh1:SynP.Qm (L.drop q)=t.2.1:=by rw[M3 ht];rfl
 obtain⟨ao,cap,htv,-,-,t3⟩:=htr;obtain⟨g,hao,hgR,-⟩:=t3 (by omega);subst hao;have htr:=HW.o.cells.2.2.2.2.2;rw[htv]at htr c0;obtain⟨n,hn⟩:=xq L.length;have HN:=zq hn;rw[<-hn]at htr c0 hql hlb;have HTV:=zq htv;obtain⟨e2,-⟩:=R8 htr ht;have HS1:=zq (fun w5=>D9 t.2.1 w5 n1 n2 n3 n4);obtain⟨TX,hTX⟩:=xq (⟨t.2.1.toArray⟩:ByteArray);rw[<-hTX]at e2 HS1;obtain⟨r,hr⟩:=xq (SynP.Xx t.2.1);rw[hh1,<-hr]at HMS;rw[<-hr]at HS1;have HTR:=zq htr;have HTKW:=zq htk;have HSZ:=zq hsz;obtain⟨q2,hq2⟩:=xq (q+2);obtain⟨q3,hq3⟩:=xq (q+3);obtain⟨q4,hq4⟩:=xq (q+4)
 have s2:((q:Nat):Int)+2=((q2:Nat):Int):=by omega
 have s3:((q:Nat):Int)+3=((q3:Nat):Int):=by omega
 have s4:((q:Nat):Int)+4=((q4:Nat):Int):=by omega
 have v2:IntKind.i64.wrap ((q2:Nat):Int)=((q2:Nat):Int):=IntWalk.i64_in _ (by omega);have v3:IntKind.i64.wrap ((q3:Nat):Int)=((q3:Nat):Int):=IntWalk.i64_in _ (by omega);have v4:IntKind.i64.wrap ((q4:Nat):Int)=((q4:Nat):Int):=IntWalk.i64_in _ (by omega)
 have hqb:q4<=67108870:=by omega
 have hq24:q2<=q4:=by omega
 have hq34:q3<=q4:=by omega
 rw[<-hq2,<-hq3,<-hq4]at HMS;have HQ2:=zq hq2;have HQ3:=zq hq3;have HQ4:=zq hq4;obtain⟨mi,hmi⟩:=xq (Ue r);rw[<-hmi]at HS1;have HMI:=zq hmi
 have hgl:g<w.heap.size:=by omega
 clear h hm hd hq htk hsz hk hc ht ht1 n1 n2 n3 n4 hh1 hn htv htr hTX hr hq2 hq3 hq4 t3 hmi;go_enter Tryz.func197,Tryz.ntmps197;go_wp2_with fail
 go_region_held3 (fun w'=>w'.cell? ⟨R,0,none⟩=some (.slice (some ⟨g,0,none⟩) n cap)/\w'.cell? ⟨R,1,none⟩=some (.int .i64 (q:Nat))/\w'.cell? ⟨g,q*3+1,none⟩=some (.string TX))
  (first
   |go_keep
   |exact⟨(hb5.cell (p:=⟨R,0,none⟩) hRl).trans c0,(hb5.cell (p:=⟨R,1,none⟩) hRl).trans c1,(hb5.cell (p:=⟨g,q*3+1,none⟩) hgl).trans e2⟩)
  ((go_at_call 229;refine(HS1.o _).mono ?_;rintro e w5 ⟨rfl,hb5⟩))
 have HB5:Hid (Below w.heap.size w w5):=(below_drewN w 1).trans hb5;have hw5:=HW.o.below HB5.o;have HW5:=zq hw5;obtain⟨d0,d1,-,-,-,-⟩:=hw5.cells;have htr5:TkR w5 R (.slice (some ⟨g,0,none⟩) n cap) L:=HTR.o.low fun k hk=>HB5.o.block k (by omega);rw[HTV.o,<-HN.o]at d0;have HTR5:=zq htr5;have HK2:=zq (Td R _ L q2 w5 d0 htr5 (by omega));have hR5:=hw5.lt;clear hb5 c0 c1 e2 f1 hw5 htr5;by_cases hk2:SynP.Qy 1 (L.drop q2)=true
 ·have hkk:(((tkKind L q2:Nat):Int) !=1)=false:=by
   rw[Zy (by decide)]at hk2;simp at hk2;simp[hk2]
  obtain⟨t2,ht2⟩:∃t,L[q2]?=some t:=by
   cases h:L[q2]? with
   |some t=>exact⟨t,rfl⟩
   |none=>rw[Vr,h]at hk2;cases hk2
  have ht21:t2.1=1:=by
   rw[Vr,ht2]at hk2
   simpa using hk2
  have hq2l:q2<n:=by rw[HN.o];exact(List.getElem?_eq_some_iff.1 ht2).1
  obtain⟨n1,n2,n3,n4⟩:=HTKW.o t2 (List.mem_of_getElem? ht2) ht21
  have hh2:SynP.Qm (L.drop q2)=t2.2.1:=by rw[M3 ht2];rfl
  have HS2:=zq (fun w5=>D9 t2.2.1 w5 n1 n2 n3 n4);obtain⟨e3,-⟩:=R8 HTR5.o ht2;obtain⟨TX2,hTX2⟩:=xq (⟨t2.2.1.toArray⟩:ByteArray);rw[<-hTX2]at e3 HS2;obtain⟨c,hc⟩:=xq (SynP.Xx t2.2.1);rw[hh2,<-hc,if_neg (by rw[hk2];decide)]at HMS;rw[<-hc]at HS2;obtain⟨ni,hni⟩:=xq (Ue c);rw[<-hni]at HS2;have HNI:=zq hni;clear hk2 ht2 ht21 n1 n2 n3 n4 hh2 hTX2 hc hni;go_wp2_with fail;refine HK2.o.mono ?_;rintro e w6 ⟨rfl,hb6⟩;have HB6:=zq (Qg HB5.o hb6);have hw6:=HW5.o.below hb6;have HW6:=zq hw6;have hR6:=hw6.lt;have d0':=(hb6.cell (p:=⟨R,0,none⟩) hR5).trans d0;have d1':=(hb6.cell (p:=⟨R,1,none⟩) hR5).trans d1;have e3':=(hb6.cell (p:=⟨g,q2*3+1,none⟩) (by show g<_;omega)).trans e3
  have hg6:g<w6.heap.size:=by omega
  clear hb6 d0 d1 e3 hw6;go_wp2_with fail
  go_region_held3 (fun w'=>w'.cell? ⟨R,0,none⟩=some (.slice (some ⟨g,0,none⟩) n cap)/\w'.cell? ⟨R,1,none⟩=some (.int .i64 (q:Nat))/\w'.cell? ⟨g,q2*3+1,none⟩=some (.string TX2))
   (first
    |go_keep
    |exact⟨(hb7.cell (p:=⟨R,0,none⟩) hR6).trans d0',(hb7.cell (p:=⟨R,1,none⟩) hR6).trans d1',(hb7.cell (p:=⟨g,q2*3+1,none⟩) hg6).trans e3'⟩)
   ((go_at_call 229;refine(HS2.o _).mono ?_;rintro e w7 ⟨rfl,hb7⟩))
  have HB7':Hid (Below w6.heap.size w6 w7):=(below_drewN w6 1).trans hb7;have HB7:=zq (Qg HB6.o HB7'.o);have hw7:=HW6.o.below HB7'.o;have HW7:=zq hw7;have hR7:=hw7.lt;have f7:=hw7.fro 1;have g0:=(HB7'.o.cell (p:=⟨R,0,none⟩) hR6).trans d0';have g1:=(HB7'.o.cell (p:=⟨R,1,none⟩) hR6).trans d1';have HI:=zq (Rj R _ L q3 [93] w7 g0 (HTR.o.low fun k hk=>HB7.o.block k (by omega)) (by omega));clear hb7 d0' d1' e3' hw7;by_cases h93:SynP.Qv [93] (L.drop q3)=true
  ·rw[h93]at HI
   rw[if_neg (by rw[h93];decide)]at HMS
   have hq3l:q4<=n:=by
    have:=RfP.Qs h93;have h3: ¬L.length<=q3:=fun h=>this (List.drop_eq_nil_of_le h);rw[<-HN.o]at h3;have:=HQ3.o;have:=HQ4.o;omega
   clear h93;by_cases hbig:64<r\/64<c
   ·rw[if_pos hbig]at HMS
    have hb7R:∀w8,Below w7.heap.size w7 w8->Below R w (w8.setCell ⟨R,1,none⟩ (.int .i64 (q4:Nat))):=fun w8 h8=>((Qg HB7.o h8).mono (Nat.le_of_lt hRl)).trans (Xv 1 _);have HB7R:=zq hb7R;by_cases hr64:64<r
    ·have hm1:mi= -1:=by rw[HMI.o];unfold Ue;rw[if_pos hr64]
     subst hm1;clear hbig hr64 hb7R;go_wp2_with fail;refine HI.o.mono ?_;rintro e w8 ⟨rfl,hb8⟩;have g1':=(hb8.cell (p:=⟨R,1,none⟩) hR7).trans g1;have f8:w8.frozen? ⟨R,1,none⟩=false:=(hb8.frozen (p:=⟨R,1,none⟩) hR7).trans f7;have HF:=zq (HB7R.o w8 hb8);clear hb8 g0 g1;go_wp2_with fail;go_ret2;refine⟨HF.o,?_⟩;rw[HMS.o];exact⟨a0,rfl,rfl,by decide⟩
    ·have hm1:mi=(r:Int):=by rw[HMI.o];unfold Ue;rw[if_neg hr64]
     have hn1:ni= -1:=by
      rw[HNI.o];unfold Ue;rcases hbig with h|h
      ·exact absurd h hr64
      ·rw[if_pos h]
     subst hn1;rw[hm1];have hmneg:decide ((r:Int)<0)=false:=decide_eq_false (by omega)
     have hmneg2: ¬((r:Int)<0):=by omega
     clear hbig hr64 hb7R hm1;go_wp2_with fail;refine HI.o.mono ?_;rintro e w8 ⟨rfl,hb8⟩;have g1':=(hb8.cell (p:=⟨R,1,none⟩) hR7).trans g1;have f8:w8.frozen? ⟨R,1,none⟩=false:=(hb8.frozen (p:=⟨R,1,none⟩) hR7).trans f7;have HF:=zq (HB7R.o w8 hb8);clear hb8 g0 g1;go_wp2_with fail;go_ret2;refine⟨HF.o,?_⟩;rw[HMS.o];exact⟨a0,rfl,rfl,by decide⟩
   ·rw[if_neg hbig]at HMS
    have hr64:r<=64:=by omega
    have hc64:c<=64:=by omega
    have hm1:mi=(r:Int):=by rw[HMI.o];unfold Ue;rw[if_neg (by omega)]
    have hn1:ni=(c:Int):=by rw[HNI.o];unfold Ue;rw[if_neg (by omega)]
    rw[hm1,hn1]
    have hmneg2: ¬((r:Int)<0):=by omega
    have hnneg2: ¬((c:Int)<0):=by omega
    have hmneg:decide ((r:Int)<0)=false:=decide_eq_false hmneg2;have hnneg:decide ((c:Int)<0)=false:=decide_eq_false hnneg2;obtain⟨k,hk⟩:=xq (r*c)
    have hkb:k<=4096:=by rw[hk];exact Nat.mul_le_mul hr64 hc64
    have hmul:(r:Int)*(c:Int)=((k:Nat):Int):=by rw[hk];rfl
    have hwm:IntKind.i64.wrap ((k:Nat):Int)=((k:Nat):Int):=IntWalk.i64_in _ (by omega);rw[<-hk]at HMS;have HK:=zq hk;clear hbig hm1 hn1 hk;go_wp2_with fail;refine HI.o.mono ?_;rintro e w8 ⟨rfl,hb8⟩;have g1':=(hb8.cell (p:=⟨R,1,none⟩) hR7).trans g1;have f8:w8.frozen? ⟨R,1,none⟩=false:=(hb8.frozen (p:=⟨R,1,none⟩) hR7).trans f7;have hw8:=HW7.o.below hb8;have hset:=hw8.set (i':=q4) (want':=x.want) (pw':=x.pw) (d':=x.depth) (ts':=L.drop q4) 1 (.int .i64 (q4:Nat)) (fun nv vv sv=>by simp);have HSET:=zq hset;have HBS:Hid (Below R w (w8.setCell ⟨R,1,none⟩ (.int .i64 (q4:Nat)))):=((Qg HB7.o hb8).mono (Nat.le_of_lt hRl)).trans (Xv 1 _);clear hb8 g0 g1 hw8 hset;go_wp2_with (at_make;refine wpList_make_full _ rfl _ _ 45 rfl (w8.setCell ⟨R,1,none⟩ (.int .i64 (q4:Nat))).heap.size 62 i0 (.agg #[.bool false,.slice none 0 0]) 2 Tryz.underlying45 hi hz0 hz1 _ _ _ _ k rfl rfl rfl rfl (by rw[hz2];omega) (by unfold maxLen;omega) (by exact Nat.le_refl _) ?_);intro w9 hown9 hgrow9
    have hs8:(w8.setCell ⟨R,1,none⟩ (.int .i64 (q4:Nat))).heap.size=w8.heap.size:=by simp[World.setCell]
    have hb9:Below (w8.setCell ⟨R,1,none⟩ (.int .i64 (q4:Nat))).heap.size (w8.setCell ⟨R,1,none⟩ (.int .i64 (q4:Nat))) w9:=Below.grown (Below.refl _ _) hgrow9 (Nat.le_refl _) (fun q hq=>by cases hq);have hw9:=HSET.o.below hb9;have HW9:=zq hw9;have HB9:Hid (Below R w w9):=HBS.o.trans (hb9.mono (Nat.le_of_lt HSET.o.lt))
    have hird:IRd w9 (.slice (some ⟨w8.heap.size,0,none⟩) k k) (List.replicate k (false,0)):=by
     refine(Qqj w8.heap.size w9 k).ird ?_
     have e1:(Wo k).length=k:=by simp[Wo]
     rw[e1,<-Qv0];exact hown9
    have HMT:=zq (N6 r c (List.replicate k (false,0)) _ w9 hird hr64 hc64 (by rw[List.length_replicate];exact HK.o));have hgt:=Gf ⟨r,c,List.replicate k (false,0)⟩ (fun p hp=>by rw[(List.mem_replicate.1 hp).2];intro h;cases h);simp only at hgt;rw[hgt]at HMT
    have HHAS:Hid (∀w10,Below w9.heap.size w9 w10->Calls Tryz.prog 148 #[.pointer (some ⟨R,0,none⟩),.int .i64 3,.string ⟨(SynP.matT ⟨r,c,List.replicate k (false,0)⟩).toArray⟩] w10 fun e' w'=>e'=.returned (.tuple #[])/\Below R w10 w'/\WRi w' R tv L q4 {x with ts:=L.drop q4,vals:=.mat ⟨r,c,List.replicate k (false,0)⟩::x.vals,want:=false,pw:=false}):=
     fun w10 h10=>P6 R tv L q4 _ _ (HW9.o.below h10) (Qw3 ⟨r,c,List.replicate k (false,0)⟩) HSZ.o (by decide) (L.drop q4)
    have hR9:=hw9.lt;clear hown9 hgrow9 hb9 hw9 hird hgt hs8 f8 g1';go_wp2_with fail;refine HMT.o.mono ?_;rintro e w10 ⟨rfl,hb10⟩;have HH:=zq (HHAS.o w10 hb10);have HB10:Hid (Below R w w10):=HB9.o.trans (hb10.mono (Nat.le_of_lt hR9));clear hb10;go_wp2_with fail;refine HH.o.mono ?_;rintro e w11 ⟨rfl,hb11,hw11⟩;have HB11:=zq (HB10.o.trans hb11);have HW11:=zq hw11;clear hb11 hw11;go_wp2_with fail;go_ret2;refine⟨HB11.o,?_⟩;rw[HMS.o];exact⟨rfl,q4,HW11.o,rfl,by rw[<-HN.o];exact hq3l⟩
  ·have h93':SynP.Qv [93] (L.drop q3)=false:=by simpa using h93
   rw[h93']at HI;rw[if_pos h93']at HMS;clear h93 h93';go_wp2_with fail;refine HI.o.mono ?_;rintro e w8 ⟨rfl,hb8⟩;have g1':=(hb8.cell (p:=⟨R,1,none⟩) hR7).trans g1;have HF:Hid (Below R w w8):=(Qg HB7.o hb8).mono (Nat.le_of_lt hRl);clear hb8 g0 g1;go_wp2_with fail;go_ret2;refine⟨HF.o,?_⟩;rw[HMS.o];exact⟨q3,rfl,rfl,by decide⟩
 ·have hk2':SynP.Qy 1 (L.drop q2)=false:=by simpa using hk2
  have hkk:(((tkKind L q2:Nat):Int) !=1)=true:=by
   rw[Zy (by decide)]at hk2';simp at hk2';simp;omega
  rw[if_pos hk2']at HMS;clear hk2 hk2';go_wp2_with fail;refine HK2.o.mono ?_;rintro e w6 ⟨rfl,hb6⟩;have HB6:Hid (Below R w w6):=(Qg HB5.o hb6).mono (Nat.le_of_lt hRl);have d1':=(hb6.cell (p:=⟨R,1,none⟩) hR5).trans d1;clear hb6 d0 d1;go_wp2_with fail;go_ret2;refine⟨HB6.o,?_⟩;rw[HMS.o];exact⟨q2,rfl,rfl,by decide⟩
end Go.Proofs.YtgfmiladfeoldaaGreatDoor
