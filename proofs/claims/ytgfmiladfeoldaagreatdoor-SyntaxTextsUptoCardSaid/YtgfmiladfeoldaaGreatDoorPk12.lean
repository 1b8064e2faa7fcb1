import Derived.Test.YtgfmiladfeoldaaGreatDoorPk8
set_option linter.unusedSimpArgs false
set_option linter.unusedVariables false
set_option maxRecDepth 100000
set_option maxHeartbeats 16000000
open Go.Proofs.Tryz
open Option renaming some->F,none->Z
open Go.Value renaming int->A,pointer->ca,slice->U
open Go.IntKind renaming i64->G
open Go.Obj renaming cells->O
open Go renaming Value->ce,World->cl
namespace Go.Proofs.YtgfmiladfeoldaaGreatDoor
open Go.RowKit aw ar
variable {R m:Nat} {bv tv:ce} {w:cl}
theorem Hw {w':cl}{k n:Nat}{e:TypeId}{v:ce}{cs:List ce}(h:w.ownsRow (R+1) e k v n cs)(hw:Wr R Z w w'):w'.ownsRow (R+1) e k v n cs:=by
 refine⟨h.1,?_⟩;rcases h.2 with bi|⟨g,I,J,rfl,K,E,H⟩
 ·exact .inl bi
 exact .inr ⟨g,I,J,rfl,K,(hw.block g (aah.1 E).1 (by omega) (by simp)).trans E,H⟩
structure fx (w:cl) (R:Nat) (tv bv:ce) (out:Bytes) (o m:Nat):Prop where
 blk:∃av,(av=ca Z\/av=ca (F ⟨R,1,Z⟩))/\w.heap[R]?=F (O #[tv,av,bv,A G o,A G m] 92 (0,0))
 own:w.ownsRow (R+1) 5 1 bv out.length (js out)
 le:o<=m
theorem fx.lt {out:Bytes}{o:Nat}(h:fx w R tv bv out o m):R<w.heap.size:=by obtain⟨av,-,E⟩:=h.blk;exact(aah.1 E).1
theorem fx.gt {out:Bytes}{o:Nat}(h:fx w R tv bv out o m):∀q,bv.ownBlock=F q->R<q:=fun q hq=>by have:=h.own.lt q hq;omega
theorem fx.cells {out:Bytes}{o:Nat}(h:fx w R tv bv out o m):w.cell? ⟨R,0,Z⟩=F tv/\w.cell? ⟨R,3,Z⟩=F (A G o)/\w.cell? ⟨R,4,Z⟩=F (A G m):=by
 obtain⟨av,-,E⟩:=h.blk
 refine⟨?_,?_,?_⟩<;>rw[aaj w R _ _ _ _ E]<;>rfl
theorem fx.iH {out:Bytes}{o:Nat}(h:fx w R tv bv out o m)(k:Nat):w.frozen? ⟨R,k,Z⟩=false:=by obtain⟨av,-,E⟩:=h.blk;exact aax w R k _ _ E
theorem fx.below {w':cl}{out:Bytes}{o:Nat}(h:fx w R tv bv out o m)(hb:Below w.heap.size w w'):fx w' R tv bv out o m:=by
 obtain⟨av,H,E⟩:=h.blk
 exact⟨⟨av,H,(hb.block R h.lt).trans E⟩,h.own.kept (row:=Z) ⟨hb.os,hb.tape,hb.output,hb.size,fun k hk _=>hb.block k hk⟩ (by cases bv.ownBlock<;>simp),h.le⟩
def sL (R:Nat)(tv bv:ce)(out:Bytes)(o m:Nat)(v:ce)(w:cl)(e:Ending)(w':cl):Prop:=
 e=.returned v/\ ∃bv',fx w' R tv bv' out o m/\Wr R bv.ownBlock w w'/\Mv w bv.ownBlock bv'.ownBlock
theorem fx.ahq {out:Bytes}{o o':Nat}(h:fx w R tv bv out o m)(hl:o'<=m):fx (w.setCell ⟨R,3,Z⟩ (A G o')) R tv bv out o' m/\Wr R Z w (w.setCell ⟨R,3,Z⟩ (A G o')):=by obtain⟨av,I,H⟩:=h.blk;have E:=aao w R 3 _ 92 (A G o') H;exact⟨⟨⟨av,I,E.trans (by simp)⟩,ab8 h.own (by simp) _,hl⟩,Wr.aD w 3 _⟩
theorem fx.aho {out:Bytes}{o1 m':Nat}(bN:∃av,(av=ca Z\/av=ca (F ⟨R,1,Z⟩))/\w.heap[R]?=F (O #[tv,av,bv,A G o1,A G m] 92 (0,0)))(hown:w.ownsRow (R+1) 5 1 bv out.length (js out))(hl:o1<=m'):fx (w.setCell ⟨R,4,Z⟩ (A G m')) R tv bv out o1 m'/\Wr R Z w (w.setCell ⟨R,4,Z⟩ (A G m')):=by obtain⟨av,E,bN⟩:=bN;have h:=aao w R 4 _ 92 (A G m') bN;exact⟨⟨⟨av,E,h.trans (by simp)⟩,ab8 hown (by simp) _,hl⟩,Wr.aD w 4 _⟩
theorem Tryz.BW:(Tryz.prog.info? 90).map (·.size)=F 2:=by kernel_rfl
theorem Tryz.BK:liesAt prog Tryz.prog.depth 92 (5 / Tryz.prog.cellsOf 92) 1 90 1=true:=by kernel_rfl
theorem Dj (R:Nat)(tv av bv:ce){ov mv:ce}(ha:av=ca Z\/av=ca (F ⟨R,1,Z⟩))(hb:w.heap[R]?=F (O #[tv,av,bv,ov,mv] 92 (0,0))):Calls prog 165 #[ca (F ⟨R,1,Z⟩)] w fun e w'=>e=.returned (.tuple #[])/\w'.heap[R]?=F (O #[tv,ca (F ⟨R,1,Z⟩),bv,ov,mv] 92 (0,0))/\Wr R Z w w':=by
 obtain⟨j,hj,hjs⟩:=abD.1 Tryz.BW
 have h0:w.cell? ⟨R,1,Z⟩=F av:=by rw[aaj w R _ _ _ _ hb];rfl
 rcases ha with rfl|rfl
 ·have aS:w.shape? R=F (92,5):=by simp[World.shape?,hb]
  have hfz:w.frozen? ⟨R,1,Z⟩=false:=aax w R 1 _ _ hb;have HB:=zq hb;clear hb;go_enter func165,ntmps165;go_wp2_with fail;rw[Lib.run_to_unsafe w ⟨R,1,Z⟩ underlying87 underlying210 hj (by rw[hjs];decide) aS (by show 1<5;decide)];simp only[Result.andThen];rw[Oper.upon_value];go_wp2_with fail;rw[run_callFunc_extern func212 (by kernel_rfl) (by kernel_rfl) (by kernel_rfl) (e:=Extern.AbiNoEscape.same) (by kernel_rfl)];rw[Lib.run_noEscape];simp only[Result.andThen];rw[Oper.upon_value];go_wp2_with fail;rw[Lib.run_from_unsafe w ⟨R,1,Z⟩ underlying210 underlying87 hj aS Tryz.BK];simp only[Result.andThen];rw[Oper.upon_value];go_wp2_with fail;go_end0;exact⟨rfl,(aao w R 1 _ 92 _ HB).trans (by simp),Wr.aD w 1 _⟩
 have HB:=zq hb;clear hb;go_enter func165,ntmps165;go_wp2_with fail;rw[Lib.run_neq_ptr_same w _ underlying87 hj];go_wp2_with fail;go_end0;exact⟨rfl,HB,Wr.refl _ _ _⟩
theorem Tt {out:Bytes}{o:Nat}(c:UInt8)(h:fx w R tv bv out o m)(hl:out.length<=1099511627776):Calls prog 104 #[ca (F ⟨R,1,Z⟩),A .u8 (c.toNat:Nat)] w (sL R tv bv (out++[c]) o m .nilIface w):=by
 obtain⟨i0,hi,hz0,hz1,hz2⟩:=aa0 Tryz.kL;have HS:=zq h;have br:=h.lt;clear h;obtain⟨av,ha,hb⟩:=HS.o.blk;have HB:=zq hb;clear hb;go_enter func104,ntmps104;go_wp2_with fail;refine(Dj R tv av bv ha HB).mono ?_;rintro e w1 ⟨rfl,k1,k2⟩
 have c2:w1.cell? ⟨R,2,Z⟩=F bv:=by rw[aaj w1 R _ _ _ _ k1];rfl
 have hown:=Hw HS.o.own k2;have HOWN:=zq (hown.alloc (O #[A .u8 ((c.toNat:Nat):Int)] 5));have hR1:=k2.size;obtain⟨nl,kH⟩:=xq out.length;rw[<-kH]at HOWN hl;have gY:=zq kH;have K1:=zq k1;have K2:=zq k2
 have hcs:(js out).length=nl:=by rw[Qwp,kH]
 clear k1 k2 hown kH;go_wp2_with (at_builtin;refine abk _ rfl _ _ 88 rfl (R+1) 5 i0 (A .u8 0) 1 1 underlying88 hi hz0 hz1 hz2 rfl (by omega) bv nl (js out) rfl HOWN.o ⟨w1.heap.size,0,Z⟩ 1 1 [A .u8 (c.toNat:Nat)] rfl rfl (ar.Qg _ _ _ _ rfl) (by simp[Value.oneCell']) (by omega) (by unfold maxLen;omega) (by omega) (by simp;omega) (w1.heap.size+1) (by simp) ?_);intro g cap w2 hown' hgrow hat gW
 have hne:F R≠bv.ownBlock:=fun e=>by have:=HS.o.gt R e.symm;omega
 have hb2:w2.heap[R]?=F (O #[tv,ca (F ⟨R,1,Z⟩),bv,A G o,A G m] 92 (0,0)):=by rw[hgrow.block R (by simp;omega) hne,Lib.alloc_old w1 _ R (by omega)];exact K1.o
 have f2:w2.frozen? ⟨R,2,Z⟩=false:=aax w2 R 2 _ _ hb2
 have d2:w2.cell? ⟨R,2,Z⟩=F bv:=by rw[aaj w2 R _ _ _ _ hb2];rfl
 have aI:=zq hb2;have mN:=zq hown';have HG:=zq hgrow;have iF:=zq hat;clear hb2 hown' hgrow hat;go_wp2_with fail;go_ret;have bz:=aao w2 R 2 _ 92 (U (F ⟨g,0,Z⟩) (nl+1) cap) aI;refine⟨rfl,U (F ⟨g,0,Z⟩) (nl+1) cap,⟨⟨ca (F ⟨R,1,Z⟩),.inr rfl,bz.trans (by simp)⟩,?_,HS.o.le⟩,?_,?_⟩
 ·have e1:(out++[c]).length=nl+1:=by rw[aag,gY.o];rfl
  rw[e1,Ad];refine ab8 ?_ (by simp) _;exact mN.o
 ·exact(((K2.o.weak _).trans (Mv.refl _ _) (Wr.au (Qq w1 _))).trans (Mv.refl _ _) (Wr.dL HG)).trans (Mv.refl _ _) (Wr.aD w2 2 _)
 intro k hk
 cases hk
 rcases iF.o with h1|h1
 ·exact .inl h1
 right;have h2:g=w1.heap.size+1:=h1;show w.heap.size<=g;have:=K2.o.size;omega
theorem Sk {P:Program}(base:Nat)(t u ty e:TypeId)(i:TypeInfo)(ht:P.underlying t=F (.slice e))(hu:P.underlying u=F .string)(hi:P.info? e=F i)(hz:i.zero=F (A .u8 0))
  (hsize:i.size=1) (hby:i.bytes=1) (w:cl) (v:ce) (n:Nat) (xs:List ce) (hown:w.ownsRow base e 1 v n xs) (s:ByteArray) (hbytes:n+s.size<=140737488355328) (hbase:base<=w.heap.size):
  ∃v' w',(Builtin.append_ #[t,u] ty #[v,.string s]).run P w=.ok v' w'/\w'.ownsRow base e 1 v' (n+s.size) (xs++Lib.strCells s)/\w.grownBy w' v.ownBlock/\(v'.ownBlock=v.ownBlock\/v'.ownBlock=F w.heap.size):=by
 obtain⟨v',w',E,aE,am,h3⟩:=Lib.run_append_own_string (P:=P) w base t u ty e i ht hu hi hz hsize hby v n xs hown s (by unfold maxLen;omega) hbytes hbase;refine⟨v',w',E,aE,am,?_⟩
 have bi:xs.length=n:=by simpa using hown.1
 rcases hown.2 with ⟨rfl,rfl⟩|⟨g,H,J,rfl,a3,hg,a5,a4,K,T⟩
 ·by_cases hm:s.size=0
  ·left;rw[h3.2 ⟨rfl,hm⟩]
  have h:=run_append_nil_string (P:=P) w t u ty e i (A .u8 0) ht hu hi hz s (by omega) (by omega) (by rw[hby];omega);rw[h]at E
  cases E
  right;rfl
 by_cases hroom:n+s.size<=H
 ·have a1:J.size=H:=by simpa using K
  have h:=Lib.run_append_room_string (P:=P) w t u ty e i ht hu hi hsize g n H J hg s hroom (by omega);rw[h]at E
  cases E
  left;rfl
 have I:∀j u,xs[j]?=F u->w.cell? ((⟨g,0,Z⟩:Addr).add j)=F u:=hown.cells (g:=g) rfl;have h:=Lib.run_append_grow_string (P:=P) w t u ty e i (A .u8 0) ht hu hi hz ⟨g,0,Z⟩ n H xs (by rw[hsize];simpa using bi) I s (by omega) (by omega) (by rw[hby];exact growslice_fits (by omega) (by omega));rw[h]at E
 cases E
 right;rfl
theorem Zf {P:Program}{ops:Array Oper}{rest:List Oper}{o:Oper}{a:Act}{Q:Exit->Act->cl->Prop}(hgd:o.guard=Z)(sl x:Operand)(t u:TypeId)
  (ho:o.op=.call {callee:=.builtin .append,args:= #[sl,x],argTypes:= #[t,u]})
  (base:Nat) (e:TypeId) (i:TypeInfo) (ht:P.underlying t=F (.slice e)) (hu:P.underlying u=F .string) (hi:P.info? e=F i) (hz:i.zero=F (A .u8 0))
  (hsize:i.size=1) (hby:i.bytes=1)
  (v:ce) (n:Nat) (xs:List ce) (hs:a.eval sl=v) (hown:w.ownsRow base e 1 v n xs) (s:ByteArray) (hx:a.eval x=.string s)
  (hbytes:n+s.size<=140737488355328) (hbase:base<=w.heap.size)
  (h:∀v' w',w'.ownsRow base e 1 v' (n+s.size) (xs++Lib.strCells s)->w.grownBy w' v.ownBlock->(v'.ownBlock=v.ownBlock\/v'.ownBlock=F w.heap.size)->wpList P ops Q rest (a.put o.dst v') w'):wpList P ops Q (o::rest) a w:=by
 refine wpList_plain hgd fun K hK=> ?_;obtain⟨v',w',J,E,H,I⟩:=Sk (P:=P) base t u o.type e i ht hu hi hz hsize hby w v n xs hown s hbytes hbase;unfold Oper.wp execOp;simp only[ho,resolve,invoke,builtin,aes,aet,acX,adw,abq,abX,hs,hx,J];exact hK _ _ (h v' w' E H I)
theorem Jt (s:Bytes):Lib.strCells ⟨s.toArray⟩=js s:=by simp[Lib.strCells,js]
theorem Pm {out:Bytes}{o:Nat}(t:Bytes)(h:fx w R tv bv out o m)(hl:out.length<=1099511627776)(ht:t.length<=1099511627776):Calls prog 105 #[ca (F ⟨R,1,Z⟩),.string ⟨t.toArray⟩] w (sL R tv bv (out++t) o m (.tuple #[A G (t.length:Nat),.nilIface]) w):=by
 obtain⟨i0,hi,hz0,hz1,hz2⟩:=aa0 Tryz.kL;have HS:=zq h;have br:=h.lt;clear h;obtain⟨av,ha,hb⟩:=HS.o.blk;have HB:=zq hb;obtain⟨T,hT⟩:=xq (⟨t.toArray⟩:ByteArray)
 have jC:T.size=t.length:=by rw[hT];rfl
 have HT:=zq hT;rw[<-hT];clear hb hT;go_enter func105,ntmps105;go_wp2_with fail;refine(Dj R tv av bv ha HB).mono ?_;rintro e w1 ⟨rfl,k1,k2⟩
 have c2:w1.cell? ⟨R,2,Z⟩=F bv:=by rw[aaj w1 R _ _ _ _ k1];rfl
 have HOWN:=zq (Hw HS.o.own k2);have hR1:=k2.size;obtain⟨nl,kH⟩:=xq out.length;rw[<-kH]at HOWN hl;have gY:=zq kH;have K1:=zq k1;have K2:=zq k2;clear k1 k2 kH;go_wp2_with (at_builtin;go_loud (refine Zf rfl _ _ 88 9 rfl (R+1) 5 i0 underlying88 underlying9 hi hz0 hz1 hz2 bv nl (js out) rfl HOWN.o T rfl ?d1 ?d2 ?_))
 case d1=>omega
 case d2=>omega
 intro v' w2 hown' hgrow hat
 have hne:F R≠bv.ownBlock:=fun e=>by have:=HS.o.gt R e.symm;omega
 have hb2:w2.heap[R]?=F (O #[tv,ca (F ⟨R,1,Z⟩),bv,A G o,A G m] 92 (0,0)):=by rw[hgrow.block R (by omega) hne];exact K1.o
 have f2:w2.frozen? ⟨R,2,Z⟩=false:=aax w2 R 2 _ _ hb2
 have d2:w2.cell? ⟨R,2,Z⟩=F bv:=by rw[aaj w2 R _ _ _ _ hb2];rfl
 obtain⟨ao,n',cap,rfl⟩:∃ao n' cap,v'=U ao n' cap:=by
  rcases hown'.2 with ⟨hv,_⟩|⟨g,cap,cur,hv,_⟩
  ·exact⟨_,_,_,hv⟩
  exact⟨_,_,_,hv⟩
 have aI:=zq hb2;have mN:=zq hown';have HG:=zq hgrow;have iF:=zq hat;clear hb2 hown' hgrow hat;go_wp2_with fail;go_ret2;have bz:=aao w2 R 2 _ 92 (U ao n' cap) aI;refine⟨rfl,U ao n' cap,⟨⟨ca (F ⟨R,1,Z⟩),.inr rfl,bz.trans (by simp)⟩,?_,HS.o.le⟩,?_,?_⟩
 ·have e1:(out++t).length=nl+t.length:=by rw[aag,gY.o]
  rw[e1,Ad,<-Jt t,<-HT.o];refine ab8 ?_ (by simp) _;exact mN.o
 ·exact((K2.o.weak _).trans (Mv.refl _ _) (Wr.dL HG)).trans (Mv.refl _ _) (Wr.aD w2 2 _)
 intro k hk;have hk':(Value.slice ao n' cap).ownBlock=F k:=hk
 rcases iF.o with h1|h1<;>rw[h1]at hk'
 ·exact .inl hk'
 right;cases hk';exact K2.o.size
def xE (P:aj.St->aj.PR aj.Ex)(ms:List UInt8)(s:aj.St):aj.PR aj.Ex:=(P s).bind fun k s=>if ms.any (fun m=>aj.Qk [m] s.ts) then Z else aj.ret k s
theorem Qk6 {P:aj.St->aj.PR aj.Ex}(HE:∀s e,P s≠F (.error e)){ms:List UInt8}{s:aj.St}(h:xE P ms s≠Z):∃k s1,P s=F (.ok (k,s1))/\xE P ms s=F (.ok (k,s1))/\ ∀m∈ms,aj.Qk [m] s1.ts=false:=by
 unfold xE at h ⊢;rcases hN:P s with- |(e|⟨k,s1⟩)
 ·rw[hN]at h;exact absurd rfl h
 ·exact absurd hN (HE _ _)
 rw[hN]at h;simp only[aj.PR.bind]at h ⊢;split at h
 ·exact absurd rfl h
 rename_i E;refine⟨k,s1,rfl,by rw[if_neg E];rfl,fun m hm=> ?_⟩;simp only[ad7,not_exists,not_and,Bool.not_eq_true]at E;exact E m hm
def TG (fin f:Nat)(P:aj.St->aj.PR aj.Ex)(s:aj.St):aj.PR aj.Ex:=(aj.W6 f 0 s).bind fun n s=>(P s).bind fun k s=>if aj.Qk [94] s.ts then (aj.Qo fin s.bB).bind fun m s=>aj.ret (aj.jd n (.pow k m)) s else Z
theorem Qdd {fin:Nat}(f:Nat){P:aj.St->aj.PR aj.Ex}(HE:∀s e,P s≠F (.error e))(IH:fN 251 P fin):fN 235 (fun s=>(P s).bind fun k s=>aj.Nr f k s) fin:=by
 intro R tv L a s nv ns w h hf;have H:=zq h;have HIH:=zq IH;obtain⟨r,hr⟩:=xq ((P s).bind fun k s=>aj.Nr f k s);simp only[<-hr]at hf ⊢;have p6:Hid (r=(P s).bind fun k s=>aj.Nr f k s):=hr;have bV:=zq hf;have zP:=h.few;clear h hr hf IH;go_enter func235,ntmps235;go_wp2_with fail;refine(HIH.o R tv L a s nv ns _ H (fun e=>bV.o (by rw[p6.o,e];rfl))).mono ?_;rintro e w1 hn;rcases hN:P s with- |(⟨fc,fk⟩|⟨k,s1⟩)
 ·rw[hN]at hn;exact hn.elim
 ·exact absurd hN (HE _ _)
 rw[hN]at hn;obtain⟨v1,a1,gJ,fM,rfl,n1,n2⟩:=hn;have HST:Hid (TuO R tv L fin s nv ns w r v1 w1):=⟨f,k,s1,a1,gJ,fM,by rw[p6.o,hN];rfl,n1,n2⟩;clear n1 n2 hN;go_wp2_with fail;go_loopw [3] (fun kv wr=>TuO R tv L fin s nv ns w r kv wr) (fun _ wr=>Xf L R wr)
 case atStart=>exact HST.o
 clear HST
 case round=>
  obtain⟨g,k,s2,a2,pS,rb,htu,wW,hex⟩:=hrel;obtain⟨wo,rfl⟩:=xq wr
  cases g with
  |zero=>exact absurd htu.symm bV
  |succ g=>
   have hlen:=hex.len;have hsp:=Ez k;obtain⟨rfl,jn⟩:=hex;obtain⟨p,hp⟩:=xq (ns.length+k.size-1);rw[<-hp];have HP:=zq hp;have kW:=zq wW;have pZ:=zq jn;have iG:=zq wW.rs.left;have HTU:=zq htu;have hfw:=wW.few;rw[aag]at hfw;clear hp wW jn htu;go_wp2_with fail;refine(Zi kW.o.rs [39]).mono ?_;rintro e w3 ⟨rfl,t1,t2⟩
   cases hm:aj.Qk [39] s2.ts with
   |true=>
    rw[if_pos hm]at t2;have cR:=Fg hm
    have ji:Hid (aj.Nr g (.turn k) s2.bB=r):=by have h1:=HTU.o;unfold aj.Nr at h1;rw[if_pos hm]at h1;exact h1
    have oL:=zq (kW.o.step t2 t1 (by omega) rfl);have dA:=(gP.fresh t2 [p]).resolve_right (by simp);have ot:=zq dA;have HA:=zq (Qq w3 (O #[A G ((p:Nat):Int)] 3));have tQ:=zq (oL.o.step (oL.o.rs.below HA) (Wr.au HA) (aab _) rfl);clear t1 t2 hm dA;go_wp2_with fail;refine(Fl tQ.o.rs ⟨5,[],[p]⟩ ot (by rw[aag];omega)).mono ?_;rintro e w5 ⟨nv5,rfl,b1,b2,b3⟩;have CR:=zq (tQ.o.BO b1 b2 b3 (by rw[aag];omega) (fun q hq=>by cases hq;exact oL.o.wr.size));have HL5:=zq b1.left;obtain⟨nn,bu⟩:=xq ((ns++rb).length);rw[<-bu];have bw:=zq bu;clear b1 b2 b3 bu;go_wp2_with fail
    have aq:TuO R tv L fin s nv ns w r (A G ((nn:Nat):Int)) w5:=by
     refine⟨g,.turn k,s2.bB,a2+1,nv5,_,ji,CR,?_,?_⟩
     ·rw[bw.o,aag,hlen];rfl
     rw[abl,pZ.o,HP.o];rfl
    have rO:Xf L R w5<Xf L R wo:=by rw[HL5.o,iG.o];omega
    exact⟨aq,rO⟩
   |false=>
    rw[if_neg (by rw[hm];decide)]at t2
    have ji:Hid (r=F (.ok (k,s2))):=by have h1:=HTU.o;unfold aj.Nr at h1;rw[if_neg (by rw[hm];decide)]at h1;show _=_;rw[<-h1];rfl
    have oL:=zq (kW.o.step t2 t1 (aab _) rfl);clear t1 t2 hm;go_wp2_with fail;go_ret;rw[ji.o];exact⟨_,a2,pS,rb,rfl,oL,by rw[HP.o];rfl,pZ⟩
theorem Qgl {fin:Nat}(f:Nat){P:aj.St->aj.PR aj.Ex}(HE:∀s e,P s≠F (.error e))(IH:fN 235 P fin):fN 208 (TG fin f P) fin:=by
 intro R tv L a s nv ns w h hf;have H:=zq h;have HIH:=zq IH;obtain⟨r,hr⟩:=xq (TG fin f P s);rw[<-hr]at hf ⊢;obtain⟨r1,hr1⟩:=xq (aj.W6 f 0 s)
 have p6:Hid (r=r1.bind fun n s=>(P s).bind fun k s=>if aj.Qk [94] s.ts then (aj.Qo fin s.bB).bind fun m s=>aj.ret (aj.jd n (.pow k m)) s else Z):=by show _=_;rw[hr,hr1];rfl
 have bV:=zq hf;have ady:Hid (r1≠Z):=fun e=>bV.o (by rw[p6.o,e];rfl);have zP:=h.few;have ahC:=h.short
 have ej:s.ts.length<=67108864:=by rw[<-h.drop,aan];omega
 have HST:Hid (MiO R tv L fin s nv ns w r1 (A G 0) w):=⟨f,0,s,a,hr1.symm,rfl,h,Wr.refl _ _ _,by omega,rfl⟩;clear h hr hf IH hr1;go_enter func208,ntmps208;go_wp2_with fail;go_loopw [3] (fun nn wr=>MiO R tv L fin s nv ns w r1 nn wr) (fun _ wr=>Xf L R wr)
 case atStart=>exact HST.o
 clear HST
 case round=>
  obtain⟨g,n,s1,a1,zZ,rfl,mH,hwr,XQ,hop⟩:=hrel;obtain⟨wo,rfl⟩:=xq wr
  cases g with
  |zero=>exact absurd zZ.symm ady
  |succ g=>
   have et:=zq mH;have jl:=zq hwr;have L0:=zq zZ;have HOP:=zq hop;have qw:=zq mH.left;clear zZ mH hwr hop;go_wp2_with fail;refine(Zi et [45]).mono ?_;rintro e w3 ⟨rfl,t1,t2⟩
   cases hm:aj.Qk [45] s1.ts with
   |true=>
    rw[if_pos hm]at t2;have cR:=Fg hm
    have ji:Hid (aj.W6 g (n+1) s1.bB=r1):=by have h1:=L0.o;unfold aj.W6 at h1;rw[if_pos hm]at h1;exact h1
    have qC:=zq (RS.step jl t1);have oO:=zq t2;have CH:=zq t2.left;clear t1 t2 hm;go_wp2_with fail;have aq:MiO R tv L fin s nv ns w r1 (A G ((n:Int)+1)) w3:=⟨g,n+1,s1.bB,a1+1,ji,by congr 1,oO,qC,by omega,HOP⟩
    have rO:Xf L R w3<Xf L R wo:=by rw[CH.o,qw.o];omega
    exact⟨aq,rO⟩
   |false=>
    rw[if_neg (by rw[hm];decide)]at t2
    have dW:Hid (r=(P s1).bind fun k s=>if aj.Qk [94] s.ts then (aj.Qo fin s.bB).bind fun m s=>aj.ret (aj.jd n (.pow k m)) s else Z):=by have h1:=L0.o;unfold aj.W6 at h1;rw[if_neg (by rw[hm];decide)]at h1;show _=_;rw[p6.o,<-h1];rfl
    have mO:=zq ((k9.refl H).step (s2:=s1) (w2:=w3) (a2:=a1) (by rw[abt];exact t2) (RS.step jl t1) (by omega) HOP);have oO:=zq t2;clear t1 t2 hm;go_wp2_with fail;refine(HIH.o R tv L a1 s1 nv ns _ oO (fun e=>bV.o (by rw[dW.o,e];rfl))).mono ?_;rintro e w4 hn;rcases hN:P s1 with- |(⟨fc,fk⟩|⟨k,s4⟩)
    ·rw[hN]at hn;exact hn.elim
    ·exact absurd hN (HE _ _)
    rw[hN]at hn;obtain⟨v4,a4,nv4,ZR,rfl,n1,n2⟩:=hn
    have lV:Hid (r=if aj.Qk [94] s4.ts then (aj.Qo fin s4.bB).bind fun m s=>aj.ret (aj.jd n (.pow k m)) s else Z):=by show _=_;rw[dW.o,hN];rfl
    have afV:=n1.few;rw[aag]at afV
    have tQ:Hid (k9 R tv L fin s nv ns w w4 a4 s4 nv4 ZR):=by have:=mO.o.trans (by rw[abt];exact n1);rw[abv]at this;exact this
    have hlen:=n2.len;have hsp:=Ez k;obtain⟨rfl,jn⟩:=n2;obtain⟨p,hp⟩:=xq (ns.length+k.size-1);rw[<-hp];have HP:=zq hp;have pZ:=zq jn;clear n1 hp jn hN;go_wp2_with fail;refine(Zi tQ.o.rs [94]).mono ?_;rintro e w5 ⟨rfl,t1,t2⟩
    cases hm:aj.Qk [94] s4.ts with
    |true=>
     rw[if_pos hm]at t2;have cR:=Fg hm
     have xT:Hid (r=(aj.Qo fin s4.bB).bind fun m s=>aj.ret (aj.jd n (.pow k m)) s):=by show _=_;rw[lV.o,if_pos hm]
     have CR:=zq (tQ.o.step t2 t1 (by omega) rfl);clear t1 t2 hm;go_wp2_with fail;refine(Wk CR.o.rs).mono ?_;rintro e w6 hn;rcases hN:aj.Qo fin s4.bB with- |(⟨fc,fk⟩|⟨m,s6⟩)
     ·rw[hN]at hn;exact hn.elim
     ·rw[hN]at hn
      obtain⟨rfl,n1⟩:=hn;refine⟨rfl,?_⟩
      have cF:r=F (.error (fc,fk)):=by rw[xT.o,hN];rfl
      rw[cF];exact⟨rfl,CR.o.wr.trans CR.o.mv (n1.weak _)⟩
     rw[hN]at hn;obtain⟨v6,a6,rfl,n1,n2,n3,n4⟩:=hn;have EF:=Zl hN
     have HR6:Hid (r=F (.ok (aj.jd n (.pow k m),s6))):=by show _=_;rw[xT.o,hN];rfl
     have CS:=zq (CR.o.step n1 n2 (by omega) EF.2);have L8:=zq n4;obtain⟨⟨xs,x1,x2,x3⟩,-⟩:=n4;have MS:=zq x1;have HX2:=zq x2;clear n1 n2 n3 hN x1 x2;go_wp2_with fail;refine(Pc CS.o.rs.sg MS (by omega)).mono ?_;rintro e w7 ⟨rfl,b1⟩;rw[HX2.o,Gf];have xS:=zq (CS.o.step (CS.o.rs.below b1) (Wr.au b1) (aab _) rfl);have ot:=zq ((gP.fresh xS.o.rs [p]).resolve_right (by simp));have HA:=zq (Qq w7 (O #[A G ((p:Nat):Int)] 3));have MC:=zq (xS.o.step (xS.o.rs.below HA) (Wr.au HA) (aab _) rfl);clear b1;go_wp2_with fail;refine(Fl MC.o.rs ⟨9,aj.aA m,[p]⟩ ot (by rw[aag];omega)).mono ?_;rintro e w9 ⟨nv9,rfl,b1,b2,b3⟩;have MD:=zq (MC.o.BO b1 b2 b3 (by rw[aag];omega) (fun q hq=>by cases hq;exact xS.o.wr.size));obtain⟨nn,bu⟩:=xq ((ns++ZR).length);rw[<-bu];have bw:=zq bu
     have eP:Hid (NgO R tv L fin s nv ns w n s6 (aj.jd n (.pow k m)) (A G ((nn:Nat):Int)) (A G 0) w9):=by
      refine⟨0,.pow k m,a6,nv9,_,rfl,aat _,rfl,MD,⟨?_,?_⟩,?_⟩
      ·rw[bw.o,aag,hlen];rfl
      ·rw[abl,pZ.o,HP.o];rfl
      simp only[aag,aaR];omega
     clear b1 b2 b3 bu;go_wp2_with fail;go_loopw [4,21] (fun kv iv wr=>NgO R tv L fin s nv ns w n s6 (aj.jd n (.pow k m)) kv iv wr) (fun _ iv _=>(n-intOf iv).toNat)
     case atStart=>exact eP.o
     clear eP
     case round=>
      obtain⟨i,q,a10,ZT,LB,rfl,ir,yh,wW,hex,hfw⟩:=hrel;have jX:=hex.len;have hqp:=Ez q;obtain⟨rfl,hqf⟩:=hex;obtain⟨pq,rR⟩:=xq (ns.length+q.size-1);rw[<-rR];have GK:=zq rR;have HQF:=zq hqf;have uZ:=zq wW;have tP:=zq yh;rw[aag]at hfw;clear rR hqf wW yh;by_cases hlt:i<n
      ·have acV:=zq ((gP.fresh uZ.o.rs [pq]).resolve_right (by simp))
       have fy:=zq (Qq wr (O #[A G ((pq:Nat):Int)] 3));have QJ:=zq (uZ.o.step (uZ.o.rs.below fy) (Wr.au fy) (aab _) rfl);go_wp2_with fail;refine(Fl QJ.o.rs ⟨4,[],[pq]⟩ acV (by rw[aag];omega)).mono ?_;rintro e ur ⟨ahf,rfl,b1,b2,b3⟩;have adm:=zq (QJ.o.BO b1 b2 b3 (by rw[aag];omega) (fun q hq=>by cases hq;exact uZ.o.wr.size));obtain⟨n2,fQ⟩:=xq ((ns++LB).length);rw[<-fQ];have ou:=zq fQ;clear b1 b2 b3 fQ;go_wp2_with fail
       have aq:NgO R tv L fin s nv ns w n s6 (aj.jd n (.pow k m)) (A G ((n2:Nat):Int)) (A G ((i:Int)+1)) ur:=by
        refine⟨i+1,.neg q,a10,ahf,_,by congr 1,by omega,?_,adm,⟨?_,?_⟩,?_⟩
        ·rw[<-tP.o,show n-i=(n-(i+1))+1 from by omega];rfl
        ·rw[ou.o,aag,jX];rfl
        ·rw[abl,HQF.o,GK.o];rfl
        simp only[aag,aaR];omega
       exact⟨aq,by simp[intOf]<;>omega⟩
      have dD:n-i=0:=by omega
      have tS:Hid (q=(aj.jd n (.pow k m))):=by have:=tP.o;rw[dD]at this;exact this
      clear dD;go_wp2_with fail;go_ret;rw[HR6.o]
      exact⟨_,a10,ZT,LB,rfl,uZ,by rw[<-tS.o,GK.o];rfl,by rw[<-tS.o];exact HQF.o⟩
    |false=>exact absurd (by rw[lV.o,if_neg (by rw[hm];decide)]) bV
theorem Qdt {fin:Nat}{P:aj.St->aj.PR aj.Ex}(HE:∀s e,P s≠F (.error e))(IH:fN 208 P fin):fN 160 (xE P [42]) fin:=by
 intro R tv L a s nv ns w h hf;obtain⟨k,s1,hN,hr,hm⟩:=Qk6 HE hf;rw[hr];have HC:=IH R tv L a s nv ns w h (by rw[hN];simp);rw[hN]at HC;replace HC:=zq HC;have HM:=zq hm;clear h hf IH HE hN hr hm;go_enter func160,ntmps160;go_wp2_with fail;refine HC.o.mono ?_;rintro e w1 ⟨v1,a1,gJ,fM,rfl,n1,rfl,jn⟩;obtain⟨p,hp⟩:=xq (ns.length+k.size-1);rw[<-hp];have HP:=zq hp;have kW:=zq n1;have pZ:=zq jn;clear hp n1 jn HC;go_wp2_with fail;go_loopw [3] (fun kv wr=>kv=A G ((p:Nat):Int)/\wr=w1) (fun _ _=>0)
 case atStart=>exact⟨rfl,rfl⟩
 case round=>obtain⟨rfl,hw⟩:=hrel;subst hw;go_wp2_with fail;refine(Zi kW.o.rs [42]).mono ?_;rintro e w3 ⟨he,t1,t2⟩;rw[HM.o 42 (by simp)]at he t2;subst he;rw[if_neg (by decide)]at t2;replace kW:=zq (kW.o.step t2 t1 (aab _) rfl);clear t1 t2;go_wp2_with fail;go_ret;exact⟨_,a1,gJ,fM,rfl,kW,by rw[HP.o];rfl,pZ⟩
theorem Qdj {fin:Nat}{P:aj.St->aj.PR aj.Ex}(HE:∀s e,P s≠F (.error e))(IH:fN 160 P fin):fN 97 (xE P [43,45]) fin:=by
 intro R tv L a s nv ns w h hf;obtain⟨k,s1,hN,hr,hm⟩:=Qk6 HE hf;rw[hr];have HC:=IH R tv L a s nv ns w h (by rw[hN];simp);rw[hN]at HC;replace HC:=zq HC;have HM:=zq hm;clear h hf IH HE hN hr hm;go_enter func97,ntmps97;go_wp2_with fail;refine HC.o.mono ?_;rintro e w1 ⟨v1,a1,gJ,fM,rfl,n1,rfl,jn⟩;obtain⟨p,hp⟩:=xq (ns.length+k.size-1);rw[<-hp];have HP:=zq hp;have kW:=zq n1;have pZ:=zq jn;clear hp n1 jn HC;go_wp2_with fail;go_loopw [3,4] (fun kv _ wr=>kv=A G ((p:Nat):Int)/\wr=w1) (fun _ _ _=>0)
 case atStart=>exact⟨rfl,rfl⟩
 case round=>obtain⟨rfl,hw⟩:=hrel;subst hw;go_wp2_with fail;refine(Zi kW.o.rs [43]).mono ?_;rintro e w3 ⟨he,t1,t2⟩;rw[HM.o 43 (by simp)]at he t2;subst he;rw[if_neg (by decide)]at t2;replace kW:=zq (kW.o.step t2 t1 (aab _) rfl);clear t1 t2;go_wp2_with fail;refine(Zi kW.o.rs [45]).mono ?_;rintro e w4 ⟨he,t1,t2⟩;rw[HM.o 45 (by simp)]at he t2;subst he;rw[if_neg (by decide)]at t2;replace kW:=zq (kW.o.step t2 t1 (aab _) rfl);clear t1 t2;go_wp2_with fail;go_ret;exact⟨_,a1,gJ,fM,rfl,kW,by rw[HP.o];rfl,pZ⟩
end Go.Proofs.YtgfmiladfeoldaaGreatDoor
