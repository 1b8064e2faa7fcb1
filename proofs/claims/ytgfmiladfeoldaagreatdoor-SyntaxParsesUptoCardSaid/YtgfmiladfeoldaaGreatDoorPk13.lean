/- Joined texts of this claim's proof: DecW, DecPP, DecX, DecH. -/
import Derived.Test.YtgfmiladfeoldaaGreatDoorPk1
import Derived.Test.YtgfmiladfeoldaaGreatDoorPk10
import Derived.Deep.RegionLaw
import Derived.Test.YtgfmiladfeoldaaGreatDoorPk9
import Derived.Lib.MinMax
set_option linter.unusedSimpArgs false
set_option linter.unusedVariables false
set_option maxRecDepth 100000
set_option maxHeartbeats 16000000
namespace Go.Proofs.YtgfmiladfeoldaaGreatDoor
open Go.RowKit NatP LexP
def sgn (d:Nat):UInt8:=UInt8.ofNat (48+d)
theorem Qpj {d:Nat}(h:d<10):(sgn d).toNat=48+d:=by unfold sgn;rw[UInt8.toNat_ofNat'];omega
def u8c (L:List Nat):List Value:=L.map fun d=>Value.int .u8 ((d:Nat):Int)
def DB (w:World)(D:Nat)(L:List Nat):Prop:=w.heap[D]?=some (.cells (u8c L).toArray 246 (0,0))/\L.length=64
theorem DB.cell {w:World}{D i x:Nat}{L:List Nat}(h:DB w D L)(hx:L[i]?=some x):w.cell? ⟨D,i,none⟩=some (.int .u8 ((x:Nat):Int)):=by
 rw[cell_of_row w D i _ _ _ h.1];simp[u8c,hx]
theorem DB.frozen {w:World}{D:Nat}{L:List Nat}(h:DB w D L)(i:Nat):w.frozen? ⟨D,i,none⟩=false:=frozen_of_row w D i _ _ h.1
theorem DB.set {w:World}{D:Nat}{L:List Nat}(h:DB w D L)(i x:Nat):DB (w.setCell ⟨D,i,none⟩ (.int .u8 ((x:Nat):Int))) D (L.set i x)/\w.grownBy (w.setCell ⟨D,i,none⟩ (.int .u8 ((x:Nat):Int))) (some D):=by
 refine⟨⟨?_,by rw[List.length_set,h.2]⟩,⟨rfl,rfl,rfl,by simp,fun k _ hk=>heap_setCell_other w ⟨D,i,none⟩ k _ (fun e=>hk (by simp[e]))⟩⟩;have:=heap_setCell_same w D i (u8c L).toArray 246 (.int .u8 ((x:Nat):Int)) h.1;rw[this];simp[u8c,List.map_set]
theorem DB.made (w:World):DB (w.alloc (.cells (u8c (List.replicate 64 0)).toArray 246)) w.heap.size (List.replicate 64 0):=⟨heap_alloc_new w _,List.length_replicate⟩
def DgSt (v v' n:Nat)(L:List Nat):Prop:=∃rest:List Nat,dg v=dg v'++rest/\n+rest.length=64/\L.drop n=rest.map (48+ ·)
theorem DgSt.start (v:Nat):DgSt v v 64 (List.replicate 64 0):=⟨[],by simp,rfl,by simp⟩
theorem DgSt.step {v v' n:Nat}{L:List Nat}(h:DgSt v v' (n+1) L)(hL:L.length=64)(hv:0<v'):DgSt v (v' / 10) n (L.set n (48+v' % 10)):=by
 obtain⟨E,J,K,I⟩:=h;refine⟨(v' % 10)::E,?_,by simp only[List.length_cons];omega,?_⟩
 ·rw[J,Wg hv,List.append_assoc];rfl
 ·have H:n<(L.set n (48+v' % 10)).length:=by rw[List.length_set];omega
  rw[List.drop_eq_getElem_cons H,List.getElem_set_self,List.drop_set_of_lt (Nat.lt_succ_self n),I];rfl
theorem Qj6 {v:Nat}(h:v<BB):(dg v).length<=20:=Uc (Nat.lt_trans h (by unfold BB;decide))
theorem DgSt.room {v v' n:Nat}{L:List Nat}(h:DgSt v v' n L)(hv:v<BB):44<=n:=by
 obtain⟨H,E,I,_⟩:=h;have:=Qj6 hv;rw[E,List.length_append]at this;omega
def PdSt (v n:Nat)(L:List Nat):Prop:=∃j,n+j+(dg v).length=64/\L.drop n=(List.replicate j 0++dg v).map (48+ ·)
theorem PdSt.start {v n:Nat}{L:List Nat}(h:DgSt v 0 n L):PdSt v n L:=by
 obtain⟨I,E,J,H⟩:=h;rw[Jt,List.nil_append]at E;exact⟨0,by rw[E];omega,by rw[H,E];rfl⟩
theorem PdSt.step {v n:Nat}{L:List Nat}(h:PdSt v (n+1) L)(hL:L.length=64):PdSt v n (L.set n 48):=by
 obtain⟨j,I,H⟩:=h;refine⟨j+1,by omega,?_⟩
 have E:n<(L.set n 48).length:=by rw[List.length_set];omega
 rw[List.drop_eq_getElem_cons E,List.getElem_set_self,List.drop_set_of_lt (Nat.lt_succ_self n),H];rfl
def WdA (v D:Nat)(w:World)(vv nv:Value)(wr:World):Prop:=∃(v' n:Nat) (L:List Nat),vv=.int .u64 (v':Nat)/\nv=.int .i64 (n:Nat)/\v'<=v/\DgSt v v' n L/\DB wr D L/\Below w.heap.size w wr
def WdB (v width D:Nat)(w:World)(nv:Value)(wr:World):Prop:=∃(n:Nat) (L:List Nat),nv=.int .i64 (n:Nat)/\n<=64/\44<=n/\(64-n<=width\/64-n=(dg v).length)/\PdSt v n L/\DB wr D L/\Below w.heap.size w wr
theorem Fu (R v width:Nat)(pv ov:Value)(out:Qx)(w:World)(h:WS w R pv ov out)(hs:SG w)(hv:v<BB)(hw:width<=19)(h0:0<v\/0<width)(hl:out.length<=1099511627776):
  Calls Tryz.prog 255 #[.pointer (some ⟨R,0,none⟩),.int .u64 (v:Nat),.int .i64 (width:Nat)] w (Qxn w R pv ov out ((pad v width).map sgn)):=by
 have HS:=zq h;have HSG:=zq hs;have HV:=zq hv;have HST0:=zq (DgSt.start v)
 have hsz:4<w.heap.size:=by have:=h.big;have:=h.lt;omega
 have hRlt:=h.lt;clear h hs hv;go_enter Tryz.func255,Tryz.ntmps255;go_wp2_with fail;go_loopw [1,7] (fun vv nv wr=>WdA v w.heap.size w vv nv wr) (fun vv _ _=>(intOf vv).toNat)
 case atStart=>exact⟨v,64,List.replicate 64 0,rfl,rfl,Nat.le_refl _,HST0.o,DB.made w,Qq w _⟩
 clear HST0
 case round=>
  obtain⟨v',n,L,rfl,rfl,hvv,hst,hdb,hbl⟩:=hrel;have HST:=zq hst;have HDB:=zq hdb;have HBL:=zq hbl;have hroom:=hst.room HV.o;clear hst hdb hbl;by_cases hv0:v'=0
  ·subst hv0
   have HPD:=zq (PdSt.start HST.o)
   have HLEN:Hid (64-n=(dg v).length):=by
    obtain⟨rest,a1,a2,_⟩:=HST.o;show _=_;rw[Jt,List.nil_append]at a1;rw[a1];omega
   have hn64:n<=64:=by obtain⟨rest,a1,a2,_⟩:=HST.o;omega
   go_wp2_with fail;go_loopw [7] (fun nv wr=>WdB v width w.heap.size w nv wr) (fun nv _=>(intOf nv).toNat)
   case atStart=>exact⟨n,L,rfl,hn64,hroom,.inr HLEN.o,HPD.o,HDB.o,HBL.o⟩
   clear HST HDB HBL HPD HLEN hroom hn64
   case round=>
    rename_i wr2 _;obtain⟨n,L,rfl,hn64,hroom,hway,hst,hdb,hbl⟩:=hrel;have HST:=zq hst;have HDB:=zq hdb;have HBL:=zq hbl;have HWAY:=zq hway;clear hst hdb hbl hway;by_cases hlt:64-n<width
    ·obtain⟨m,rfl⟩:∃m,n=m+1:=⟨n-1,by omega⟩
     have F0:((m+1:Nat):Int)=(m:Int)+1:=by omega
     have F1:(64:Int)-((m:Int)+1)<(width:Int):=by omega
     have HN:=zq (HST.o.step HDB.o.2);obtain⟨z,hz⟩:∃z,L[m]?=some z:=⟨_,List.getElem?_eq_getElem (by rw[HDB.o.2];omega)⟩;have c3:=HDB.o.cell hz;have c4:=HDB.o.frozen m;have HSET:=zq (HDB.o.set m 48)
     have hm64:m<64:=by omega
     clear hz;rw[F0];go_wp2_with fail
     have hfin:WdB v width w.heap.size w (.int .i64 (m:Nat)) (wr.setCell ⟨w.heap.size,m,none⟩ (.int .u8 48)):=
      ⟨m,L.set m 48,rfl,by omega,by omega,.inl (by omega),HN.o,HSET.o.1,HBL.o.trans ((Below.refl _ _).setCell (by exact Nat.le_refl _) _)⟩
     exact⟨hfin,by simp[intOf]<;>omega⟩
    ·have F1: ¬((64:Int)-(n:Int)<(width:Int)):=by omega
     have hpad:L.drop n=(pad v width).map (48+ ·)/\(pad v width).length=64-n:=by
      obtain⟨j,a1,a2⟩:=HST.o
      have hj:j=width-(dg v).length:=by rcases HWAY.o with h|h<;>omega
      refine⟨by rw[a2,hj];rfl,?_⟩;unfold pad;rw[List.length_append,List.length_replicate];omega
     obtain⟨hp1,hp2⟩:=hpad;obtain⟨m,hm⟩:=xq (64-n);rw[<-hm]at hp2
     have hm1:0<m:=by
      rw[<-hp2];unfold pad;rw[List.length_append,List.length_replicate];rcases h0 with h|h
      ·have:0<(dg v).length:=by rw[Wg h];simp
       omega
      ·omega
     have hm64:m<=64:=by omega
     have HS2:=zq (HS.o.below HBL.o);obtain⟨i0,hi,hz0,hz1,hz2⟩:=info_parts Tryz.infoU8d;obtain⟨c0,c1,c2,c3,c4,c5⟩:=HS2.o.cell;have HP1:=zq hp1;have HP2:=zq hp2;have HM:=zq hm;have hi0:(0:Int)<=(n:Int):=Int.natCast_nonneg _
     have hi1:(n:Int)<=64:=by omega
     have hi2: ¬(64=n):=by omega
     have hi3:n<64:=by omega
     have HNEWS:Hid (∀(j:Nat) (u:Value),(u8s ((pad v width).map sgn))[j]?=some u->wr.cell? ((⟨w.heap.size,n,none⟩:Addr).add j)=some u):=by
      intro j u hu
      have e:(⟨w.heap.size,n,none⟩:Addr).add j=⟨w.heap.size,n+j,none⟩:=by unfold Addr.add;split<;>simp_all
      rw[e];simp only[u8s,List.map_map,List.getElem?_map,Option.map_eq_some_iff]at hu;obtain⟨d,hd,rfl⟩:=hu
      have hL:L[n+j]?=some (48+d):=by
       rw[<-List.getElem?_drop,HP1.o,List.getElem?_map,hd];rfl
      rw[HDB.o.cell hL]
      have hd10:d<10:=by
       have:=List.mem_of_getElem? hd;unfold pad at this;rcases List.mem_append.1 this with h|h
       ·rw[List.mem_replicate]at h;omega
       ·exact Qhl v d h
      simp only[Function.comp];rw[Qpj hd10]
     have HLT:Hid (R<wr.drew.heap.size):=HS2.o.lt
     have HNE:Hid (some R≠ov.ownBlock):=fun e=>by have:=HS2.o.ne R e.symm;omega
     clear hp1 hp2 hm;go_wp2_with fail;go_region_law ((refine step_append_lies _ (by rfl) _ _ _ (by rfl) (R+1) 5 i0 _ 1 1 Tryz.underlying88 hi hz0 hz1 hz2 rfl (by omega) ov out.length (u8s out) (by rfl) (HS2.o.own.drew) ⟨w.heap.size,n,none⟩ (64-n) (64-n) (u8s ((pad v width).map sgn)) (by rfl) (by rw[Qze,List.length_map];have:=HP2.o;have:=HM.o;omega) (fun j u hu=>HNEWS.o j u hu) (Qp1 _) (by omega) (by unfold maxLen;omega) (by omega) (by have:=HS2.o.lt;simp;omega) wr.heap.size (by simp) ?_;intro gg cap w2 hown2 hgrow hat hlt2;have d4:w2.cell? ⟨R,4,none⟩=some ov:=(hgrow.cell_far ⟨R,4,none⟩ HLT.o HNE.o).trans c4;have d5:w2.frozen? ⟨R,4,none⟩=false:=(hgrow.frozen_far ⟨R,4,none⟩ HLT.o HNE.o).trans c5))
     all_goals
      obtain⟨g1,g2,g3⟩:=HS2.o.grow (l:=(pad v width).map sgn) hown2 (by rw[List.length_append,List.length_map];have:=HP2.o;have:=HM.o;omega) ⟨hgrow.os,hgrow.tape,hgrow.output,hgrow.size,hgrow.block⟩ hat;clear hown2 hgrow hat hlt2 d4 d5;go_end0;exact⟨_,rfl,g1,(Wr.of_below HBL.o).trans (Mv.refl _ _) g2,fun k hk=>(g3 k hk).imp id (fun h=>Nat.le_trans HBL.o.size h)⟩
  ·have hvp:0<v':=by omega
   obtain⟨m,rfl⟩:∃m,n=m+1:=⟨n-1,by omega⟩;obtain⟨d,hd⟩:=xq (v' % 10);obtain⟨q,hq⟩:=xq (v' / 10)
   have hd10:d<10:=by omega
   have F0:((m+1:Nat):Int)=(m:Int)+1:=by omega
   have F1:(v':Int) % 10=(d:Int):=by omega
   have F2:(v':Int) / 10=(q:Int):=by omega
   have hqv:q<v':=by omega
   have F3:IntKind.u64.wrap (q:Int)=(q:Int):=Vb _ (by have:=HV.o;unfold BB at this;omega);have HN:=zq (HST.o.step HDB.o.2 hvp);rw[<-hd,<-hq]at HN;have HSG2:=HSG.o.below HBL.o hsz;have c1:=HSG2 d hd10;have HS2:=HS.o.below HBL.o;have c2:=HS2.cell.1;obtain⟨z,hz⟩:∃z,L[m]?=some z:=⟨_,List.getElem?_eq_getElem (by rw[HDB.o.2];have:=HST.o;obtain⟨r,_,h2,_⟩:=this;omega)⟩
   have hm64:m<64:=by have:=(List.getElem?_eq_some_iff.1 hz).1;rw[HDB.o.2]at this;exact this
   have c3:=HDB.o.cell hz;have c4:=HDB.o.frozen m;have HSET:=zq (HDB.o.set m (48+d));have HV2:=zq hvv;clear hd hq hz HSG2 HS2;rw[F0];go_wp2_with fail
   have hfin:WdA v w.heap.size w (.int .u64 (q:Nat)) (.int .i64 (m:Nat)) (wr.setCell ⟨w.heap.size,m,none⟩ (.int .u8 (48+(d:Int)))):=
    ⟨q,m,L.set m (48+d),rfl,rfl,by omega,HN.o,HSET.o.1,HBL.o.trans ((Below.refl _ _).setCell (by exact Nat.le_refl _) _)⟩
   first|exact⟨hfin,by simp[intOf]<;>omega⟩|exact⟨by (repeat apply Exists.intro);exact⟨hfin,rfl⟩,by simp[intOf]<;>omega⟩
end Go.Proofs.YtgfmiladfeoldaaGreatDoor
namespace NatP
def UU:Nat:=10000000000000000000
theorem Qk3:UU=10^19:=rfl
theorem P5:0<UU:=by unfold UU;omega
theorem Qmw:UU<BB:=by unfold UU BB;omega
def prt (N i:Nat):Nat:=N / UU^i % UU
def prts (N k:Nat):List Nat:=(List.range k).map (prt N)
theorem Qvk (N k:Nat):prts N (k+1)=prts N k++[prt N k]:=by simp[prts,List.range_succ]
theorem Qpv {N k i:Nat}(h:i<k):(prts N k)[i]?=some (prt N i):=by simp[prts,h]
theorem Qqz (N i:Nat):prt N i<UU:=Nat.mod_lt _ P5
theorem Ai (N k:Nat):N / UU^(k+1)=N / UU^k / UU:=by rw[Nat.pow_succ,Nat.div_div_eq_div_mul]
theorem Nl (N k:Nat):N / UU^k=N / UU^(k+1)*10^19+prt N k:=by
 rw[Ai,prt,<-Qk3,Nat.mul_comm];exact(Nat.div_add_mod _ _).symm
theorem Qhj (L:Nat):BB^L<=UU^(2*L):=by
 rw[Nat.pow_mul];exact Nat.pow_le_pow_left (by unfold BB UU;decide) L
theorem Nc {N k L:Nat}(hN:N<BB^L)(h:0<N / UU^k):k<2*L:=by
 have E:UU^k<=N:=(Nat.div_pos_iff.1 h).2;have H:UU^k<UU^(2*L):=Nat.lt_of_le_of_lt E (Nat.lt_of_lt_of_le hN (Qhj L));exact(Nat.pow_lt_pow_iff_right (by unfold UU;omega)).1 H
theorem Bw (w:Nat):pad 0 w=List.replicate w 0:=by unfold pad;rw[Jt];simp
theorem Qy4 {N k w:Nat}(h:0<N / UU^(k+1)):pad (N / UU^k) (w-19*k)=pad (N / UU^(k+1)) (w-19*(k+1))++pad (prt N k) 19:=by
 have E:prt N k<10^19:=Qqz N k;rw[Nl N k,Fm h E,Qw5 E,show w-19*k-19=w-19*(k+1) from by omega]
theorem Qgi {N k w:Nat}(h:N / UU^(k+1)=0):pad (N / UU^k) (w-19*k)=pad (N / UU^(k+1)) (w-19*(k+1))++pad (prt N k) (min (w-19*k) 19):=by
 have E:prt N k<10^19:=Qqz N k;have e:=Nl N k;rw[h,Nat.zero_mul,Nat.zero_add]at e;rw[h,Bw,e];have H:=Uc E;unfold pad;rw[<-List.append_assoc];congr 1;rw[List.replicate_append_replicate];congr 1;omega
theorem Dc (n w:Nat):(pad n w).length=max w (dg n).length:=by
 unfold pad;rw[List.length_append,List.length_replicate];omega
theorem Wq {n L:Nat}(h:n<BB^L):(dg n).length<=20*L:=by
 refine Uc (Nat.lt_of_lt_of_le h ?_);rw[Nat.pow_mul];exact Nat.pow_le_pow_left (by unfold BB;decide) L
end NatP
namespace Go.Proofs.YtgfmiladfeoldaaGreatDoor
open Go.RowKit NatP LexP
def lenOf:Value->Nat
 | .slice _ n _=>n
 |_=>0
def PlA (N L:Nat)(w:World)(av pv:Value)(wr:World):Prop:=∃(k:Nat) (xs:List Nat),Rd wr av xs/\val xs=N / UU^k/\xs.length<=L/\wr.ownsRow w.heap.size 101 1 pv k (ws (prts N k))/\Below w.heap.size w wr/\(k=0\/0<N / UU^(k-1))
theorem Nz {w:World}{b:Nat}{e:TypeId}{s:Nat}{v:Value}{n:Nat}{xs:List Value}(h:w.ownsRow b e s v n xs):lenOf v=n:=by
 rcases h.2 with ⟨rfl,E⟩|⟨g,I,H,rfl,_⟩
 ·rw[E];rfl
 ·rfl
def PlO (R:Nat)(pv:Value)(og:Option Nat)(w5:World)(l:Qx)(wr:World):Prop:=∃ov:Value,WS wr R pv ov l/\Wr R og w5 wr/\Mv w5 og ov.ownBlock
theorem PlO.push {R:Nat}{pv ov ov3:Value}{og:Option Nat}{w5 wr wa wz:World}{l:Qx}(hw:Wr R og w5 wr)(hm:Mv w5 og ov.ownBlock)(ha:Below wr.heap.size wr wa)(g1:WS wz R pv ov3 l)(g2:Wr R ov.ownBlock wa wz)(g3:Mv wa ov.ownBlock ov3.ownBlock):
  PlO R pv og w5 l wz:=
 ⟨ov3,g1,hw.trans hm ((Wr.of_below ha).trans (Mv.refl _ _) g2),Mv.trans (R:=R) (w':=wr) hm hw.size fun k hk=>(g3 k hk).imp id (fun h=>Nat.le_trans ha.size h)⟩
def PlB (R:Nat)(pv:Value)(og:Option Nat)(out:Qx)(m width:Nat)(w5:World)(nv:Value)(wr:World):Prop:=∃n:Nat,nv=.int .i64 (n:Nat)/\n<=width/\min width m<=n/\PlO R pv og w5 (out++(List.replicate (width-n) 0).map sgn) wr
def PlC (R:Nat)(pv:Value)(og:Option Nat)(out:Qx)(N k width:Nat)(w5:World)(nv:Value)(wr:World):Prop:=∃j:Nat,nv=.int .i64 ((j:Int)-1)/\j<=k/\PlO R pv og w5 (out++(pad (N / UU^j) (width-19*j)).map sgn) wr
theorem Fo (R width:Nat)(v pv ov:Value)(xs:List Nat)(out:Qx)(w:World)(h:WS w R pv ov out)(hs:SG w)(hv:Rd w v xs)(hl:xs.length<=17179869184)(hw:width<=274877906944)(ho:out.length<=274877906944):
  Calls Tryz.prog 238 #[.pointer (some ⟨R,0,none⟩),v,.int .i64 (width:Nat)] w (Qxn w R pv ov out ((pad (val xs) width).map sgn)):=by
 have HS:=zq h;have HSG:=zq hs;have HV:=zq hv
 have hsz:4<w.heap.size:=by have:=h.big;have:=h.lt;omega
 have hRlt:=h.lt;obtain⟨N,hN⟩:=xq (val xs);rw[<-hN];obtain⟨L,hL⟩:=xq xs.length;rw[<-hL]at hl
 have hNL:N<BB^L:=by rw[hN,hL];exact Ym hv.ok
 have HNL:=zq hNL
 have HN0:Hid (val xs=N / UU^0):=by show _=_;rw[Nat.pow_zero,Nat.div_one,hN]
 have HLL:Hid (xs.length<=L):=by show _<=_;omega
 obtain⟨i0,hi,hz0,hz1,hz2⟩:=info_parts Tryz.infoW;clear h hs hv hN hL hNL;go_enter Tryz.func238,Tryz.ntmps238;go_wp2_with fail;go_loopw [1,6] (fun av p wr=>PlA N L w av p wr) (fun _ p _=>2*L+2-lenOf p)
 case atStart=>exact⟨0,xs,HV.o,HN0.o,HLL.o,World.ownsRow_nil _ _ _ _,Below.refl _ _,.inl rfl⟩
 clear HV HN0 HLL
 case round=>
  obtain⟨k,xs,hrd,hval,hxl,hown,hbl,hk⟩:=hrel;obtain⟨b,hb⟩:=xq (bitsN xs);have HRD:=zq hrd;have HVAL:=zq hval;have HOWN:=zq hown;have HBL:=zq hbl;have HK:=zq hk;have hb0:=Kk xs hrd.ok;rw[<-hb]at hb0;have HB:=zq hb;have HB0:=zq hb0;have hlenp:=Nz hown;have HLP:=zq hlenp;clear hrd hval hown hbl hk hb hb0 hlenp;by_cases hz:b=0
  ·have hbz:decide (0<b)=false:=by simp;omega
   have HZ:Hid (N / UU^k=0):=by show _=_;rw[<-HVAL.o];exact HB0.o.1 hz
   obtain⟨po,pcap,rfl,hpc,hpm,hpsh⟩:=Qj HOWN.o
   have hkL:k<=2*L+1:=by
    rcases HK.o with h|h
    ·omega
    ·have:=Nc HNL.o h
     omega
   have HPS:=zq hpsh;have HPM:=zq hpm;obtain⟨wh,hwh⟩:∃wh:Int,wh=((k:Int)-1)*19:=⟨_,rfl⟩;obtain⟨k19,hk19⟩:=xq (19*k);have E1:((k:Int)-1)*19=wh:=hwh.symm
   have E2:wh+19=(k19:Int):=by omega
   have E3:max (k19:Int) 0=(k19:Int):=by omega
   have hwhb:wh<=20890720927744/\ -19<=wh:=by omega
   obtain⟨hwhb1,hwhb2⟩:=hwhb;have HS2:=zq (HS.o.below HBL.o);have HSG2:=zq (HSG.o.below HBL.o hsz);have hR5:=HS2.o.lt;have c1:=HS2.o.cell.2.1;have HWH:=zq hwh;have HK19:=zq hk19
   have hpar:∀q,(Value.slice po k pcap).ownBlock=some q->q≠R/\ov.ownBlock≠some q:=fun q hq=>by
    have h1:=HOWN.o.lt q hq;refine⟨by omega,fun e=> ?_⟩;have:=HS.o.ne q e;omega
   have HPAR:=zq hpar;obtain⟨w5,hw5⟩:=xq wr
   have hkb:k19<=20890720927744:=by omega
   clear hz hpsh hpm hwh hk19 hpar;go_wp2_with fail;refine(Wb _ xs _ HRD.o (by omega)).mono ?_;rintro e w' ⟨rfl,rfl⟩;rw[<-HB.o];go_wp2_with fail;have HW5:=zq hw5;clear hw5 c1;go_loopw [11] (fun nv wr=>PlB R pv ov.ownBlock out k19 width w5 nv wr) (fun nv _=>(intOf nv).toNat)
   case atStart=>exact⟨width,rfl,Nat.le_refl _,Nat.min_le_left _ _,ov,by rw[Nat.sub_self];simpa using (HW5.o ▸ HS2.o),by rw[HW5.o];exact Wr.refl _ _ _,Mv.refl _ _⟩
   case round=>
    rename_i wr2 _;obtain⟨n,rfl,hnw,hmn,ov2,hws,hwr2,hmv⟩:=hrel;have HWS:=zq hws;have HWR:=zq hwr2;have HMV:=zq hmv;have c1:=hws.cell.2.1;have c4:=hws.cell.2.2.2.2.1;have c5:=hws.cell.2.2.2.2.2;clear hws hwr2 hmv;obtain⟨j0,hj0,hk0,hk1,hk2⟩:=info_parts Tryz.infoU8d;have HA:=zq (Qq wr (.cells #[.int .u8 48] 5));have HWA:=zq (HWS.o.below HA.o);have HLT:Hid (R<(wr.alloc (.cells #[.int .u8 48] 5)).heap.size):=HWA.o.lt
    have HNE:Hid (some R≠ov2.ownBlock):=fun e=>by have:=HWA.o.ne R e.symm;omega
    have ca4:=HWA.o.cell.2.2.2.2.1;have ca5:=HWA.o.cell.2.2.2.2.2;have CA4:=zq ca4;have CA5:=zq ca5
    have hll:(out++(List.replicate (width-n) 0).map sgn).length<=549755813888:=by rw[List.length_append,List.length_map,List.length_replicate];omega
    obtain⟨l0,hl0⟩:=xq (out++(List.replicate (width-n) 0).map sgn);rw[<-hl0]at hll HWS HWA;have HL0:=zq hl0;clear ca4 ca5 hl0;by_cases hgt:k19<n
    ·go_wp2_with (at_builtin;refine wpList_append_lies _ rfl _ _ 88 rfl (R+1) 5 j0 (.int .u8 0) 1 1 Tryz.underlying88 hj0 hk0 hk1 hk2 rfl (by omega) ov2 l0.length (u8s l0) rfl HWA.o.own ⟨wr.heap.size,0,none⟩ 1 1 [.int .u8 48] rfl rfl (LexP.Qb _ _ _ _ rfl) (by simp[Value.oneCell']) (by omega) (by unfold maxLen;omega) (by omega) (by have:=HLT.o;simp at this;simp;omega) (wr.heap.size+1) (by simp) ?_)
     intro gg cap w2 hown2 hgrow hat hlt2;have d4:w2.cell? ⟨R,4,none⟩=some ov2:=(hgrow.cell_far ⟨R,4,none⟩ HLT.o HNE.o).trans CA4.o;have d5:w2.frozen? ⟨R,4,none⟩=false:=(hgrow.frozen_far ⟨R,4,none⟩ HLT.o HNE.o).trans CA5.o;have HG:=zq (HWA.o.grow (l:=[48]) hown2 (by simp) hgrow (by simpa using hat));clear hown2 hgrow hat hlt2;go_wp2_with fail
     have hfin:PlB R pv ov.ownBlock out k19 width w5 (.int .i64 ((n:Int)-1)) (w2.setCell ⟨R,4,none⟩ (.slice (some ⟨gg,0,none⟩) (l0.length+1) cap)):=by
      refine⟨n-1,by congr 1;omega,by omega,by omega,?_⟩
      have e:out++(List.replicate (width-(n-1)) 0).map sgn=l0++[48]:=by
       rw[HL0.o,show width-(n-1)=width-n+1 from by omega,List.replicate_succ',List.map_append,<-List.append_assoc];rfl
      rw[e];exact PlO.push HWR.o HMV.o HA.o HG.o.1 HG.o.2.1 HG.o.2.2
     first|exact⟨hfin,by simp[intOf]<;>omega⟩|exact⟨by (repeat apply Exists.intro);exact⟨hfin,rfl⟩,by simp[intOf]<;>omega⟩
    ·have hn:width-n=width-19*k:=by have:=HK19.o;omega
     have HN19:=zq hn;clear hn;go_wp2_with fail;go_loopw [12] (fun nv wr=>PlC R pv ov.ownBlock out N k width w5 nv wr) (fun nv _=>(intOf nv+1).toNat)
     case atStart=>
      refine⟨k,rfl,Nat.le_refl _,ov2,?_,HWR.o,HMV.o⟩
      have e:out++(pad (N / UU^k) (width-19*k)).map sgn=l0:=by rw[HL0.o,HZ.o,Bw,HN19.o]
      rw[e];exact HWS.o
     clear HWR HMV HWS HWA HL0 HN19 HA HLT HNE CA4 CA5 c1 c4 c5 hll hgt hmn
     case round=>
      rename_i wr3 _;obtain⟨j,rfl,hjk,ov3,hws,hwr3,hmv⟩:=hrel;have HWS:=zq hws;have HWR:=zq hwr3;have HMV:=zq hmv;clear hws hwr3 hmv
      cases j with
      |zero=>
       have hge: ¬((0:Int)<=((0:Nat):Int)-1):=by omega
       go_wp2_with fail;go_end0;have hfull:=HWS.o;rw[Nat.pow_zero,Nat.div_one,Nat.mul_zero,Nat.sub_zero]at hfull;refine⟨ov3,rfl,hfull,?_,?_⟩
       ·rw[HW5.o]at HWR
        exact(Wr.of_below HBL.o).trans (Mv.refl _ _) HWR.o
       ·rw[HW5.o]at HMV
        exact fun q hq=>(HMV.o q hq).imp id (fun h=>Nat.le_trans HBL.o.size h)
      |succ i=>
       have hkk:(((i+1:Nat):Int)-1)=(i:Int):=by omega
       rw[hkk];clear hkk;have c1:=HWS.o.cell.2.1;obtain⟨g,hg,hgb,hgl,hgc⟩:=HPS.o (by omega);subst hg;obtain⟨hpR,hpo⟩:=HPAR.o g rfl;obtain⟨x,hx⟩:=xq (prt N i)
       have cp:wr.cell? ⟨g,i,none⟩=some (.int .u64 (x:Nat)):=by
        have e1:w5.cell? ⟨g,i,none⟩=some (.int .u64 (x:Nat)):=by
         rw[HW5.o,hgc i (by omega),hx];exact Qhp (Qpv (by omega))
        rw[<-e1];exact World.cell?_of_block (HWR.o.block g (by rw[HW5.o];exact hgl) hpR (fun e=>hpo e.symm))
       have hxb:x<BB:=by rw[hx];exact Nat.lt_trans (Qqz _ _) Qmw
       have HSG3:Hid (SG wr):=by
        have h5:SG w5:=by rw[HW5.o];exact HSG2.o
        have hbig:=HS.o.big;exact h5.wr HWR.o (by omega) (fun e=>by have:=HS.o.ne _ e;omega)
       have hi0':(0:Int)<=(i:Int):=Int.natCast_nonneg _
       have hi1:(i:Int)<(k:Int):=by omega
       obtain⟨l3,hl3⟩:=xq (out++(pad (N / UU^(i+1)) (width-19*(i+1))).map sgn);rw[<-hl3]at HWS
       have hl3b:l3.length<=1099511627776:=by
        have h1:N / UU^(i+1)<BB^L:=Nat.lt_of_le_of_lt (Nat.div_le_self _ _) HNL.o;have h2:=Wq h1;rw[hl3,List.length_append,List.length_map,Dc];omega
       have HL3:=zq hl3;have HX:=zq hx;have HXB:=zq hxb;by_cases htop:i+1=k
       ·have htb:((i:Int)==(k:Int)-1)=true:=by simp;omega
        obtain⟨wd,hwd⟩:∃wd:Int,wd=(width:Int)-wh:=⟨_,rfl⟩;have E4:(width:Int)-wh=wd:=hwd.symm;obtain⟨m1,hm1⟩:=xq (width-19*i);obtain⟨m2,hm2⟩:=xq (min m1 19);have hwh:=HWH.o
        have E5:max wd 0=(m1:Int):=by omega
        have E6:min (m1:Int) 19=(m2:Int):=by omega
        have hm19:m2<=19:=by omega
        have hx0:0<x:=by
         rcases HK.o with h|h
         ·omega
         ·rw[show k-1=i from by omega]at h
          have e:=Nl N i;have hzz:=HZ.o;rw[<-htop]at hzz;rw[hzz,Nat.zero_mul,Nat.zero_add]at e;rw[hx,<-e];exact h
        have HNEW:Hid (l3++(pad x m2).map sgn=out++(pad (N / UU^i) (width-19*i)).map sgn):=by
         show _=_;have hzz:=HZ.o;rw[<-htop]at hzz;rw[hl3,hx,hm2,hm1,Qgi hzz,List.map_append,List.append_assoc]
        clear hx hxb hl3 htop hwd hm1 hm2 hgc hpo hpR hwh;go_wp2_with fail;refine(Fu R x m2 pv ov3 l3 _ HWS.o HSG3.o HXB.o hm19 (.inl hx0) hl3b).mono ?_;rintro e w8 ⟨ov4,rfl,r1,r2,r3⟩;rw[HNEW.o]at r1;have hfin:PlC R pv ov.ownBlock out N k width w5 (.int .i64 ((i:Int)-1)) w8:=⟨i,rfl,by omega,ov4,r1,HWR.o.trans HMV.o r2,Mv.trans (R:=R) (w':=wr) HMV.o HWR.o.size r3⟩;have HFIN:=zq hfin;clear r1 r2 r3 hfin;go_wp2_with fail
        first|exact⟨HFIN.o,by simp[intOf]<;>omega⟩|exact⟨by (repeat apply Exists.intro);exact⟨HFIN.o,rfl⟩,by simp[intOf]<;>omega⟩
       ·have htb:((i:Int)==(k:Int)-1)=false:=by simp;omega
        have HNEW:Hid (l3++(pad x 19).map sgn=out++(pad (N / UU^i) (width-19*i)).map sgn):=by
         show _=_
         have hpos:0<N / UU^(i+1):=by
          rcases HK.o with h|h
          ·omega
          ·refine Nat.lt_of_lt_of_le h (Nat.div_le_div_left (Nat.pow_le_pow_right P5 (by omega)) (Nat.pow_pos P5))
         rw[hl3,hx,Qy4 hpos,List.map_append,List.append_assoc]
        clear hx hxb hl3 htop hgc hpo hpR;go_wp2_with fail;refine(Fu R x 19 pv ov3 l3 _ HWS.o HSG3.o HXB.o (Nat.le_refl _) (.inr (by omega)) hl3b).mono ?_;rintro e w8 ⟨ov4,rfl,r1,r2,r3⟩;rw[HNEW.o]at r1;have hfin:PlC R pv ov.ownBlock out N k width w5 (.int .i64 ((i:Int)-1)) w8:=⟨i,rfl,by omega,ov4,r1,HWR.o.trans HMV.o r2,Mv.trans (R:=R) (w':=wr) HMV.o HWR.o.size r3⟩;have HFIN:=zq hfin;clear r1 r2 r3 hfin;go_wp2_with fail
        first|exact⟨HFIN.o,by simp[intOf]<;>omega⟩|exact⟨by (repeat apply Exists.intro);exact⟨HFIN.o,rfl⟩,by simp[intOf]<;>omega⟩
  ·have hbz:(0:Int)<(b:Int):=by omega
   have HZ:Hid (0<N / UU^k):=by show _<_;rw[<-HVAL.o];exact Nat.pos_of_ne_zero fun h=>hz (HB0.o.2 h)
   have HKL:=zq (Nc HNL.o HZ.o);obtain⟨U,hU⟩:=xq UU;have HS2:=HS.o.below HBL.o
   have c2:wr.cell? ⟨R,2,none⟩=some (.int .u64 (U:Nat)):=by rw[hU];exact HS2.cell.2.2.1
   have HU:=zq hU;clear hz hU HS2;go_wp2_with fail;refine(Wb _ xs _ HRD.o (by omega)).mono ?_;rintro e w' ⟨rfl,rfl⟩;rw[<-HB.o];go_wp2_with fail;refine(Mz _ xs U _ HRD.o (by omega) (by rw[HU.o];exact P5) (by rw[HU.o];exact Qmw)).mono ?_;rintro e w3 ⟨qv,qs,rfl,q1,q2,q3,q4,q5⟩;obtain⟨r,hr⟩:=xq (val xs % U);rw[<-hr]
   have HR:Hid (r=prt N k):=by show _=_;rw[hr,HVAL.o,HU.o];rfl
   have HQ:Hid (val qs=N / UU^(k+1)):=by show _=_;rw[q2,HVAL.o,HU.o,Ai]
   have Q1:=zq q1
   have HQL:Hid (qs.length<=L):=by show _<=_;omega
   have HBL3:Hid (Below w.heap.size w w3):=HBL.o.trans (q5.mono HBL.o.size);have HOWN3:=zq (Qh HOWN.o q5 (Nat.le_refl _));have hz3:=HBL3.o.size;have hzw:=q5.size
   have hkb:k<=549755813888:=by have:=HKL.o;omega
   clear q1 q2 q3 q4 q5 hr c2;go_wp2_with (at_builtin;refine wpList_append_own_at _ rfl _ _ 59 rfl w.heap.size 101 i0 (.int .u64 0) 1 8 Tryz.underlying59 hi hz0 hz1 hz2 rfl (by decide) _ _ _ rfl (World.ownsRow.alloc HOWN3.o _) ⟨w3.heap.size,0,none⟩ 1 1 [.int .u64 (r:Nat)] rfl rfl (LexP.Qb _ _ _ _ rfl) (by simp[Value.oneCell']) (by unfold maxLen;omega) (by omega) (by simp;omega) ?_);intro v4 w4 hown4 hgrow4 _ hbk4
   have HO4:Hid (w4.ownsRow w.heap.size 101 1 v4 (k+1) (ws (prts N (k+1)))):=by
    have e:ws (prts N (k+1))=ws (prts N k)++[.int .u64 (r:Nat)]:=by rw[Qvk,HR.o];simp[ws]
    show World.ownsRow _ _ _ _ _ _ _;rw[e];exact hown4
   have HB4:Hid (Below w.heap.size w w4):=Below.grown (HBL3.o.alloc hz3 _) hgrow4 (by simp;omega) (fun q hq=>(World.ownsRow.lt HOWN3.o q hq).1)
   have HR4:Hid (Rd w4 qv qs):=Rd.kept (Q1.o.1.alloc _) hgrow4 (fun q hq e=>by
    have h1:=(Q1.o.2 q e).1;have h2:=(HOWN.o.lt q hq).2
    omega)
   clear hown4 hgrow4 hbk4;go_wp2_with fail;have hfin:PlA N L w qv v4 w4:=⟨k+1,qs,HR4.o,HQ.o,HQL.o,HO4.o,HB4.o,.inr (by rw[Nat.add_sub_cancel];exact HZ.o)⟩;have hl4:=Nz HO4.o;have hlp:=HLP.o;have hkl:=HKL.o
   first|exact⟨hfin,by omega⟩|exact⟨by (repeat apply Exists.intro);exact⟨hfin,rfl⟩,by omega⟩
def PW (w:World)(R:Nat)(og:Option Nat)(pv:Value)(np:Nat):Prop:=∃gp cap,(0<np->pv=.slice (some ⟨gp,0,none⟩) np cap/\np<=cap/\cap<=maxLen/\gp<w.heap.size/\gp≠R/\og≠some gp)/\
 ∀i,i<np-> ∃v bs,w.cell? ⟨gp,i,none⟩=some v/\Rd w v bs/\val bs=UU^2^i/\bs.length<=274877906944/\2^i<=34359738368/\ ∀q,v.ownBlock=some q->q≠R/\og≠some q
theorem PW.wr {w w':World}{R:Nat}{og og':Option Nat}{pv:Value}{np:Nat}(h:PW w R og pv np)(hw:Wr R og w w')(hm:Mv w og og'):PW w' R og' pv np:=by
 obtain⟨gp,H,E,I⟩:=h;refine⟨gp,H,fun h0=> ?_,fun i hi=> ?_⟩
 ·obtain⟨a1,a2,a3,a4,a5,a6⟩:=E h0
  refine⟨a1,a2,a3,Nat.lt_of_lt_of_le a4 hw.size,a5,fun e=> ?_⟩;rcases hm gp e with h|h
  ·exact a6 h
  ·omega
 ·obtain⟨a1,a2,a3,a4,a5,a6⟩:=E (by omega)
  obtain⟨v,bs,b1,b2,b3,b4,b5,b6⟩:=I i hi;refine⟨v,bs,(World.cell?_of_block (hw.block gp a4 a5 (fun e=>a6 e.symm))).trans b1,b2.wr hw (fun k hk=>b6 k hk),b3,b4,b5,fun q hq=>⟨(b6 q hq).1,fun e=> ?_⟩⟩;rcases hm q e with h|h
  ·exact(b6 q hq).2 h
  ·have:=b2.1 q hq;omega
theorem PW.below {w w':World}{R:Nat}{og:Option Nat}{pv:Value}{np:Nat}(h:PW w R og pv np)(hb:Below w.heap.size w w'):PW w' R og pv np:=h.wr (Wr.of_below hb) (Mv.refl _ _)
def Pa (k np:Nat):Prop:=∀(R width:Nat) (v pv ov:Value) (xs:List Nat) (out:Qx) (w:World),WS w R pv ov out->SG w->PW w R ov.ownBlock pv np->Rd w v xs->(∀q,v.ownBlock=some q->q≠R/\ov.ownBlock≠some q)->xs.length<=17179869184->out.length+(pad (val xs) width).length<=274877906944->
 Calls Tryz.prog 216 #[.pointer (some ⟨R,0,none⟩),v,.int .i64 ((k:Int)-1),.int .i64 (width:Nat)] w (Qxn w R pv ov out ((pad (val xs) width).map sgn))
theorem Bk (np:Nat):Pa 0 np:=by
 intro R width v pv ov xs out w h hs hp hv hne hl hb;have HS:=zq h;have HSG:=zq hs;have HV:=zq hv
 have hw:width<=274877906944:=by rw[Dc]at hb;omega
 have ho:out.length<=274877906944:=by omega
 have HW:=zq hw;have HO:=zq ho
 have hi1:decide (((0:Nat):Int)-1<0)=true:=by decide
 clear h hs hp hv hne hb hw ho;go_enter Tryz.func216,Tryz.ntmps216;go_wp2_with fail;refine(Fo R width _ pv ov xs out _ HS.o HSG.o HV.o hl HW.o HO.o).mono ?_;rintro e w1 ⟨ov1,rfl,r1,r2,r3⟩;have HR:=zq (And.intro r1 (And.intro r2 r3));clear r1 r2 r3;go_wp2_with fail;go_end0;exact⟨ov1,rfl,HR.o.1,HR.o.2.1,HR.o.2.2⟩
theorem Bh (k np:Nat)(hk:k<np)(IH:Pa k np):Pa (k+1) np:=by
 intro R width v pv ov xs out w h hs hp hv hne hl hb;have HS:=zq h;have HSG:=zq hs;have HP:=zq hp;have HV:=zq hv;have HNE:=zq hne;have HBD:=zq hb;have HI:=zq IH
 have hw:width<=274877906944:=by rw[Dc]at hb;omega
 have ho:out.length<=274877906944:=by omega
 obtain⟨ao,cap,rfl,hnc,hcm,hok,-⟩:=hv.2
 have hkk:(((k+1:Nat):Int)-1)=(k:Int):=by omega
 rw[hkk]
 have hi1:decide ((k:Int)<0)=false:=by simp
 have hRlt:=h.lt;clear h hs hp hv hne hb hok hcm hkk IH;by_cases h12:xs.length<=12
 ·have hi2:decide ((xs.length:Int)<=12)=true:=by simp;omega
  clear h12;go_enter Tryz.func216,Tryz.ntmps216;go_wp2_with fail;refine(Fo R width _ pv ov xs out _ HS.o HSG.o HV.o hl hw ho).mono ?_;rintro e w1 ⟨ov1,rfl,r1,r2,r3⟩;have HR:=zq (And.intro r1 (And.intro r2 r3));clear r1 r2 r3;go_wp2_with fail;go_end0;exact⟨ov1,rfl,HR.o.1,HR.o.2.1,HR.o.2.2⟩
 ·have hi2:decide ((xs.length:Int)<=12)=false:=by simp;omega
  obtain⟨gp,pcap,hp1,hp2⟩:=HP.o;obtain⟨rfl,hpc,hpm,hgl,hgR,hgo⟩:=hp1 (by omega);obtain⟨bv,bs,cb,hbr,hbval,hbl,hb2,hbn⟩:=hp2 k hk
  have hk64:k<64:=by
   have h1:2^k<2^36:=Nat.lt_of_le_of_lt hb2 (by decide);have:=(Nat.pow_lt_pow_iff_right (a:=2) (by omega)).1 h1;omega
  have HBR:=zq hbr;have HBV:=zq hbval;have c3:=HS.o.cell.2.2.2.1;have c1:=HS.o.cell.2.1;have hj0:(0:Int)<=(k:Int):=Int.natCast_nonneg _
  have hj1:(k:Int)<(np:Int):=by omega
  obtain⟨P,hP⟩:=xq (UU^2^k);rw[<-hP]at hbval
  have hP0:0<P:=by rw[hP];exact Nat.pow_pos P5
  have HP0:=zq hP0;have HPE:=zq hP;have HBN:=zq hbn;clear hp1 hp2 hbr hgl hgR hgo h12 hP0 hP hbn;by_cases hlt:val xs<val bs
  ·have HC:=zq (Ms hlt)
   clear hlt hbval;go_enter Tryz.func216,Tryz.ntmps216;go_wp2_with fail;refine(Va _ _ xs bs _ HV.o HBR.o).mono ?_;rintro e w1 ⟨rfl,hb1⟩;rw[HC.o];have HB1:=zq hb1;clear hb1 c3 c1 cb;go_wp2_with fail;refine(HI.o R width _ _ ov xs out _ (HS.o.below HB1.o) (HSG.o.below HB1.o (by have:=HS.o.big;omega)) (HP.o.below HB1.o) (HV.o.below HB1.o) HNE.o hl HBD.o).mono ?_;rintro e w2 ⟨ov1,rfl,r1,r2,r3⟩;have HR:=zq (And.intro r1 (And.intro r2 r3));clear r1 r2 r3;go_wp2_with fail;go_end0;exact⟨ov1,rfl,HR.o.1,(Wr.of_below HB1.o).trans (Mv.refl _ _) HR.o.2.1,fun q hq=>(HR.o.2.2 q hq).imp id (fun h=>Nat.le_trans HB1.o.size h)⟩
  ·obtain⟨c,hc⟩:=xq (cmpI (val xs) (val bs))
   have hcb:decide (c<0)=false:=by
    rw[hc];unfold cmpI;rw[if_neg hlt]
    split<;>decide
   have HC:=zq hc;obtain⟨lw,hlw⟩:=xq (19*2^k);have S1:IntKind.u64.wrap (k:Int)=(k:Int):=Vb _ (by omega)
   have S2:min k 64=k:=by omega
   have S3:IntKind.i64.wrap (19*2^k)=(lw:Int):=by
    have e:(19*2^k:Int)=((19*2^k:Nat):Int):=by rw[Int.natCast_mul,Int.natCast_pow];rfl
    rw[e,<-hlw];exact IntWalk.i64_in _ (by omega)
   obtain⟨w1',hw1'⟩:=xq (width-lw)
   have S4:max ((width:Int)-(lw:Int)) 0=(w1':Int):=by omega
   have hlwb:lw<=652835028992:=by omega
   have hPl:P=10^lw:=by rw[HPE.o,hlw,Qk3,<-Nat.pow_mul]
   have hpq:∀q r,q=val xs / val bs->r=val xs % val bs->pad (val xs) width=pad q w1'++pad r lw/\r<10^lw:=by
    intro q r hq hr
    have hbv:val bs=10^lw:=by rw[hbval,hPl]
    have hb0:0<val bs:=by rw[hbval];exact HP0.o
    have hr2:r<10^lw:=by rw[hr,<-hbv];exact Nat.mod_lt _ hb0
    have hq0:0<q:=by rw[hq];exact Nat.div_pos (Nat.le_of_not_lt hlt) hb0
    have e:val xs=q*10^lw+r:=by rw[hq,hr,<-hbv,Nat.mul_comm];exact(Nat.div_add_mod _ _).symm
    refine⟨?_,hr2⟩;rw[e,Fm hq0 hr2,Qw5 hr2,hw1']
   have HPQ:=zq hpq
   have hb0:0<val bs:=by rw[hbval];exact HP0.o
   have HB0:=zq hb0;clear hlt hbval hc hlw hb2 hw1' hPl hpq hb0;go_enter Tryz.func216,Tryz.ntmps216;go_wp2_with fail;refine(Va _ _ xs bs _ HV.o HBR.o).mono ?_;rintro e w1 ⟨rfl,hb1⟩;rw[<-HC.o];have HB1:=zq hb1;have hz1:=hb1.size;have HS1:=zq (HS.o.below hb1);have c3':=HS1.o.cell.2.2.2.1;have c1':=HS1.o.cell.2.1
   have cb':w1.cell? ⟨gp,k,none⟩=some bv:=by rw[hb1.cell (p:=⟨gp,k,none⟩) (World.block_lt_of_cell? w _ cb)];exact cb
   clear hb1 c3 c1 cb;go_wp2_with fail;refine(A9 _ _ xs bs _ (HV.o.below HB1.o) (HBR.o.below HB1.o) (by omega) hbl HB0.o).mono ?_;rintro e w2 ⟨qv,rv,qs,rs,rfl,q1,q2,q3,q4,r1,r2,r3,r4,hb2⟩;obtain⟨p1,p2⟩:=HPQ.o _ _ q2 r2;have HB2:Hid (Below w.heap.size w w2):=HB1.o.trans (hb2.mono hz1);have HS2:=zq (HS1.o.below hb2);have c1:=HS2.o.cell.2.1;have Q1:=zq q1;have R1:=zq r1
   have hql:qs.length<=17179869184:=by omega
   have hrl:rs.length<=17179869184:=by
    have h1:val rs<BB^xs.length:=by
     refine Nat.lt_of_le_of_lt ?_ (Ym HV.o.ok);rw[r2];exact Nat.mod_le _ _
    have h2:=Yy rs xs.length h1;rw[r4]at h2;omega
   have HPA:=zq p1;have hbd:=HBD.o;rw[p1,List.length_append]at hbd;have HBD2:=zq hbd;have hov:∀q,ov.ownBlock=some q->q<w.heap.size:=fun q hq=>(HS.o.ne q hq).2;have HOV:=zq hov;clear q1 q2 q3 q4 r1 r2 r3 r4 hb2 c3' c1' cb' p1 p2 hbd hov;go_wp2_with fail
   refine(HI.o R w1' _ _ ov qs out _ HS2.o (HSG.o.below HB2.o (by have:=HS.o.big;omega)) (HP.o.below HB2.o) Q1.o.1 (fun q hq=>by
    have h1:=(Q1.o.2 q hq).1;refine⟨by omega,fun e=> ?_⟩;have:=HOV.o q e
    omega) hql (by have:=HBD2.o;omega)).mono ?_
   rintro e w3 ⟨ov1,rfl,a1,a2,a3⟩;have A1:=zq a1;have A2:=zq a2;have A3:=zq a3;have HSG3:Hid (SG w3):=(HSG.o.below HB2.o (by have:=HS.o.big;omega)).wr a2 (by have:=HS.o.big;omega) (fun e=>by have:=HOV.o _ e;have:=HS.o.ne _ e;have:=HS.o.big;omega);have HP3:=zq ((HP.o.below HB2.o).wr a2 a3)
   have HR3:Hid (Rd w3 rv rs):=R1.o.1.wr a2 (fun q hq=>by
    have h1:=(R1.o.2 q hq).1;refine⟨by omega,fun e=> ?_⟩;have:=HOV.o q e
    omega)
   have hrne:∀q,rv.ownBlock=some q->q≠R/\ov1.ownBlock≠some q:=fun q hq=>by
    have h1:=R1.o.2 q hq;refine⟨by omega,fun e=> ?_⟩;rcases a3 q e with h|h
    ·have:=HOV.o q h;omega
    ·omega
   have HRN:=zq hrne;clear a1 a2 a3 c1 hrne;go_wp2_with fail;refine(HI.o R lw _ _ ov1 rs _ _ A1.o HSG3.o HP3.o HR3.o HRN.o hrl (by rw[List.length_append,List.length_map];have:=HBD2.o;omega)).mono ?_;rintro e w4 ⟨ov2,rfl,b1,b2,b3⟩;have HFIN:=zq (And.intro b1 (And.intro b2 b3));clear b1 b2 b3;go_wp2_with fail;go_end0;obtain⟨b1,b2,b3⟩:=HFIN.o;rw[List.append_assoc,<-List.map_append,<-HPA.o]at b1;refine⟨ov2,rfl,b1,(Wr.of_below HB2.o).trans (Mv.refl _ _) (A2.o.trans A3.o b2),?_⟩;have m1:Mv w ov.ownBlock ov1.ownBlock:=fun q hq=>(A3.o q hq).imp id (fun h=>Nat.le_trans HB2.o.size h);exact Mv.trans (R:=R) (w':=w3) m1 (Nat.le_trans HB2.o.size A2.o.size) b3
theorem Sh (np:Nat):∀k,k<=np->Pa k np:=by
 intro k
 induction k with
 |zero=>intro _;exact Bk np
 |succ k ih=>intro h;exact Bh k np h (ih (by omega))
end Go.Proofs.YtgfmiladfeoldaaGreatDoor
