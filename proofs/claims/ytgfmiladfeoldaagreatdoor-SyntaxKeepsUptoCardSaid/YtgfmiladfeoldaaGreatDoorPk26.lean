import Derived.Test.YtgfmiladfeoldaaGreatDoorPk21
import Derived.Test.YtgfmiladfeoldaaGreatDoorPk20
set_option linter.unusedSimpArgs false
set_option linter.unusedVariables false
set_option maxRecDepth 100000
set_option maxHeartbeats 16000000
namespace Go.Proofs.YtgfmiladfeoldaaGreatDoor
open Go.RowKit NatP LexP
theorem Qm4 {xs:List Nat}(hok:ok xs):bitsN xs<=63↔val xs<=9223372036854775807:=by
 rcases hs:(Qy xs).length with _|_|m
 ·have h0:val xs=0:=by rw[<-Qu,List.eq_nil_of_length_eq_zero hs];rfl
  have E:bitsN xs=0:=by unfold bitsN;rw[if_pos hs]
  omega
 ·obtain⟨d,H,J⟩:=Vf xs 0 hs
  have K:=J5 hok d (List.mem_of_getElem? H)
  have U:val xs=d:=by rw[<-Qu];exact Cd hs H
  have E:bitsN xs=Lib.bitLen d:=by
   unfold bitsN;rw[if_neg (by omega),hs,List.getD_eq_getElem?_getD,H];simp
  obtain⟨O,h2,T,h4⟩:=Uy (Nat.pos_of_ne_zero J) K;rw[U,E];constructor
  ·intro h
   have h5:2^Lib.bitLen d<=2^63:=Nat.pow_le_pow_right (by decide) h
   have e:(2:Nat)^63=9223372036854775808:=by decide
   omega
  ·intro h
   apply Nat.le_of_not_lt;intro h'
   have I:Lib.bitLen d=64:=by omega
   rw[I]at T
   have e:(2:Nat)^(64-1)=9223372036854775808:=by decide
   omega
 ·have hg:=Qqz (l:=xs) (m:=m+1) hs
  have E:64<=bitsN xs:=by unfold bitsN;rw[if_neg (by omega),hs];omega
  have O:BB<=BB^(m+1):=by rw[Nat.pow_succ];exact Nat.le_mul_of_pos_left _ (Nat.pow_pos Xf)
  have Z:BB=18446744073709551616:=rfl
  constructor<;>intro h<;>omega
theorem Qbq {xs:List Nat}{x:Nat}(h:xs[0]?=some x)(hv:val xs<=9223372036854775807):x=val xs:=by
 cases xs with
 |nil=>simp at h
 |cons a t=>
  simp at h;subst h;have H:BB=18446744073709551616:=rfl;simp only[NatP.val]at hv ⊢;rcases Nat.eq_zero_or_pos (val t) with E|E
  ·rw[E];omega
  ·have:BB*1<=BB*val t:=Nat.mul_le_mul_left _ E
   omega
def le63 (l:List (List Nat)):Prop:=∀s∈l,∀n∈s,n<=9223372036854775807
instance (l:List (List Nat)):Decidable (le63 l):=by unfold le63;infer_instance
def Y4 (s:List Nat):List Int:=s.map Int.ofNat
def rcxV (t:Qx):Option (List (List Int)):=
 match SynP.Jr t with
 |none=>none
 |some l=>if le63 l then some (l.map Y4) else none
theorem My {t:Qx}{l:List (List Nat)}(h:SynP.Jr t=some l):l.length<=t.length/\ ∀s∈l,s.length<=t.length:=by
 unfold SynP.Jr at h;split at h
 ·cases h
 ·rename_i ts I
  split at h
  ·rename_i l' s' J
   cases h
   obtain⟨a,s,E,H⟩:=SynP.Qv J;have:=SynP.Vc H
   cases this
   obtain⟨c1,c2⟩:=Ug E;have c3:=Nat.le_trans (W7 _ _ _ I).1 (Zp t);change tot l<=ts.length at c1;change l.length<=ts.length at c2;exact⟨by omega,fun s hs=>by have:=Cb hs;omega⟩
  ·cases h
theorem KA.kept {w w':World}{v:Value}{ks:List Int}{row:Option Nat}(h:KA w v ks)(hg:w.grownBy w' row)(hne:∀q,v.ownBlock=some q->row≠some q):KA w' v ks:=by
 obtain⟨ao,H,rfl,I,J,K⟩:=h;refine⟨ao,H,rfl,I,J,fun j k hj=> ?_⟩;obtain⟨g,o,rfl,E,O⟩:=K j k hj;have T:=hne g rfl;exact⟨g,o,rfl,Nat.lt_of_lt_of_le E hg.size,(World.cell?_of_block (hg.block g E (fun e=>T e.symm))).trans O⟩
structure Iy (w:World) (B:Nat) (lv:Value) (svs:List Value) (acc:List (List Int)):Prop where
 own:w.ownsRow B 41 1 lv svs.length svs
 len:svs.length=acc.length
 el:∀(j:Nat) (sv:Value) (s:List Int),svs[j]?=some sv->acc[j]?=some s->KA w sv s/\ ∀q,sv.ownBlock=some q->q<w.heap.size/\lv.ownBlock≠some q
theorem Iy.below {w w':World}{B:Nat}{lv:Value}{svs:List Value}{acc:List (List Int)}(h:Iy w B lv svs acc)(hb:Below w.heap.size w w'):Iy w' B lv svs acc:=
 ⟨Ql h.own hb (Nat.le_refl _),h.len,fun j sv s h1 h2=>⟨(h.el j sv s h1 h2).1.below hb,fun q hq=>⟨Nat.lt_of_lt_of_le ((h.el j sv s h1 h2).2 q hq).1 hb.size,((h.el j sv s h1 h2).2 q hq).2⟩⟩⟩
theorem Iy.push {w w':World}{B g cap N:Nat}{lv:Value}{svs:List Value}{acc:List (List Int)}(h:Iy w B lv svs acc){sv:Value}{s:List Int}(hs:KA w sv s)(hsq:∀q,sv.ownBlock=some q->q<w.heap.size/\lv.ownBlock≠some q)
  (hown:w'.ownsRow B 41 1 (.slice (some ⟨g,0,none⟩) N cap) N (svs++[sv])) (hN:N=svs.length+1) (hg:w.grownBy w' lv.ownBlock) (hat:lv.ownBlock=some g\/g=w.heap.size):
  Iy w' B (.slice (some ⟨g,0,none⟩) N cap) (svs++[sv]) (acc++[s]):=by
 subst hN
 have K:(svs++[sv]).length=svs.length+1:=by simp
 have H:∀(x:Value) (t:List Int),KA w x t->(∀q,x.ownBlock=some q->q<w.heap.size/\lv.ownBlock≠some q)->KA w' x t/\ ∀q,x.ownBlock=some q->q<w'.heap.size/\(Value.ownBlock (.slice (some ⟨g,0,none⟩) (svs.length+1) cap))≠some q:=by
  intro x t E J;refine⟨E.kept hg (fun q h1=>(J q h1).2),fun q h1=>⟨Nat.lt_of_lt_of_le (J q h1).1 hg.size,fun e=> ?_⟩⟩
  cases e
  rcases hat with O|O
  ·exact(J g h1).2 O
  ·have:=(J g h1).1;omega
 refine⟨by rw[K];exact hown,by rw[K,h.len];simp,?_⟩;intro j x t E I;by_cases hlt:j<svs.length
 ·rw[List.getElem?_append_left hlt]at E
  rw[List.getElem?_append_left (by rw[<-h.len];exact hlt)]at I;exact H x t (h.el j x t E I).1 (h.el j x t E I).2
 ·have T:j=svs.length:=by
   have:=(List.getElem?_eq_some_iff.1 E).1;rw[K]at this;omega
  subst T;rw[List.getElem?_append_right (Nat.le_refl _)]at E;rw[h.len,List.getElem?_append_right (Nat.le_refl _)]at I;simp at E I;subst E;subst I;exact H _ _ hs hsq
theorem Iy.frd {w:World}{B:Nat}{lv:Value}{svs:List Value}{acc:List (List Int)}(h:Iy w B lv svs acc):FRd w lv acc:=by
 refine Sl.of_own h.own h.len fun j sv hj=> ?_
 have E:j<acc.length:=by rw[<-h.len];exact(List.getElem?_eq_some_iff.1 hj).1
 exact⟨acc[j],List.getElem?_eq_getElem E,(h.el j sv acc[j] hj (List.getElem?_eq_getElem E)).1⟩
def J7 (s:List Nat):List Value:=s.map fun n=>Value.int .i64 (n:Nat)
structure Iz (w:World) (B:Nat) (lv:Value) (svs:List Value) (acc:List (List Int)):Prop where
 iy:Iy w B lv svs acc
 ow:∀(j:Nat) (sv:Value) (s:List Int),svs[j]?=some sv->acc[j]?=some s->w.ownsRow B 3 1 sv s.length (s.map fun k=> .int .i64 k)
 pw:∀(i j:Nat) (c d:Value) (q:Nat),svs[i]?=some c->svs[j]?=some d->i≠j->c.ownBlock=some q->d.ownBlock≠some q
theorem Iz.below {w w':World}{B:Nat}{lv:Value}{svs:List Value}{acc:List (List Int)}(h:Iz w B lv svs acc)(hb:Below w.heap.size w w'):Iz w' B lv svs acc:=
 ⟨h.iy.below hb,fun j sv s h1 h2=>Ql (h.ow j sv s h1 h2) hb (Nat.le_refl _),h.pw⟩
theorem Iz.push {w w':World}{B g cap N:Nat}{lv:Value}{svs:List Value}{acc:List (List Int)}(h:Iz w B lv svs acc){sv:Value}{s:List Int}(hs:KA w sv s)(hsq:∀q,sv.ownBlock=some q->q<w.heap.size/\lv.ownBlock≠some q)
  (hso:w.ownsRow B 3 1 sv s.length (s.map fun k=> .int .i64 k)) (hsp:∀x∈svs,∀q,x.ownBlock=some q->sv.ownBlock≠some q)
  (hown:w'.ownsRow B 41 1 (.slice (some ⟨g,0,none⟩) N cap) N (svs++[sv])) (hN:N=svs.length+1) (hg:w.grownBy w' lv.ownBlock) (hat:lv.ownBlock=some g\/g=w.heap.size):
  Iz w' B (.slice (some ⟨g,0,none⟩) N cap) (svs++[sv]) (acc++[s]):=by
 have K:(svs++[sv]).length=svs.length+1:=by simp
 have J:∀(i:Nat) (c:Value),(svs++[sv])[i]?=some c->(svs[i]?=some c/\i<svs.length)\/(i=svs.length/\c=sv):=by
  intro i c H;by_cases hlt:i<svs.length
  ·rw[List.getElem?_append_left hlt]at H;exact .inl ⟨H,hlt⟩
  ·have:=(List.getElem?_eq_some_iff.1 H).1
   rw[K]at this
   have e:i=svs.length:=by omega
   subst e;rw[List.getElem?_append_right (Nat.le_refl _)]at H;simp at H;exact .inr ⟨rfl,H.symm⟩
 refine⟨h.iy.push hs hsq hown hN hg hat,fun j x t hx ht=> ?_,fun i j c d q H hj hij hq=> ?_⟩
 ·rcases J j x hx with ⟨E,I⟩|⟨E,rfl⟩
  ·rw[List.getElem?_append_left (by rw[<-h.iy.len];exact I)]at ht
   exact Ui (h.ow j x t E ht) hg fun q hq=>((h.iy.el j x t E ht).2 q hq).2
  ·rw[E,h.iy.len,List.getElem?_append_right (Nat.le_refl _)]at ht
   simp at ht;subst ht;exact Ui hso hg fun q hq=>(hsq q hq).2
 ·rcases J i c H with ⟨E,-⟩|⟨E,rfl⟩<;>rcases J j d hj with ⟨I,-⟩|⟨I,rfl⟩
  ·exact h.pw i j c d q E I hij hq
  ·exact hsp c (List.mem_of_getElem? E) q hq
  ·exact fun e=>hsp d (List.mem_of_getElem? I) q e hq
  ·omega
def ROw (B:Nat)(w:World)(v:Value)(fs:List (List Int)):Prop:=
 ∃svs:List Value,w.ownsRow B 41 1 v svs.length svs/\svs.length=fs.length/\
  (∀(j:Nat) (sv:Value) (s:List Int),svs[j]?=some sv->fs[j]?=some s->w.ownsRow B 3 1 sv s.length (s.map fun k=> .int .i64 k))/\
  (∀sv∈svs,∀q,sv.ownBlock=some q->v.ownBlock≠some q)/\
  ∀(i j:Nat) (c d:Value) (q:Nat),svs[i]?=some c->svs[j]?=some d->i≠j->c.ownBlock=some q->d.ownBlock≠some q
theorem Iz.row {w:World}{B B':Nat}{lv:Value}{svs:List Value}{acc:List (List Int)}(h:Iz w B lv svs acc)(hB:B'<=B):ROw B' w lv acc:=
 ⟨svs,Vn h.iy.own hB,h.iy.len,fun j sv s h1 h2=>Vn (h.ow j sv s h1 h2) hB,fun sv hs q hq=>by
  obtain⟨j,E⟩:=List.mem_iff_getElem?.1 hs
  have H:j<acc.length:=by rw[<-h.iy.len];exact(List.getElem?_eq_some_iff.1 E).1
  exact((h.iy.el j sv _ E (List.getElem?_eq_getElem H)).2 q hq).2,h.pw⟩
def Sj (t:Qx)(w:World)(e:Ending)(w':World):Prop:=Below w.heap.size w w'/\
 match rcxV t with
 |none=>e=.returned (.tuple #[.slice none 0 0,.int .i64 7])
 |some fs=> ∃v,e=.returned (.tuple #[v,.int .i64 0])/\FRd w' v fs/\ROw w.heap.size w' v fs
theorem Sj.none {t:Qx}{w w':World}{e:Ending}(h:rcxV t=.none)(hb:Below w.heap.size w w')(he:e=.returned (.tuple #[.slice .none 0 0,.int .i64 7])):Sj t w e w':=by
 refine⟨hb,?_⟩;rw[h];exact he
theorem Sj.some {t:Qx}{w w':World}{e:Ending}{fs:List (List Int)}(h:rcxV t=.some fs)(hb:Below w.heap.size w w')(v:Value)(he:e=.returned (.tuple #[v,.int .i64 0]))(hf:FRd w' v fs)(ho:ROw w.heap.size w' v fs):Sj t w e w':=by
 refine⟨hb,?_⟩;rw[h];exact⟨v,he,hf,ho⟩
def RxOu (n:Nat)(l:List (List Nat))(w:World)(lv iv:Value)(wr:World):Prop:=∃(i:Nat) (svs:List Value),iv=.int .i64 (i:Nat)/\i<=n/\Iz wr w.heap.size lv svs ((l.map Y4).take i)/\Below w.heap.size w wr/\le63 (l.take i)
def RxIn (m:Nat)(s:List Nat)(wo:World)(sv jv:Value)(wr:World):Prop:=∃j:Nat,jv=.int .i64 (j:Nat)/\j<=m/\wr.ownsRow wo.heap.size 3 1 sv j (J7 (s.take j))/\Below wo.heap.size wo wr/\ ∀x∈s.take j,x<=9223372036854775807
theorem Cj {s:List Nat}{j x:Nat}(h:s[j]?=some x):J7 (s.take (j+1))=J7 (s.take j)++[Value.int .i64 (x:Nat)]:=by
 rw[List.take_add_one,h];simp[J7]
theorem Qg0 {s:List Nat}{j x:Nat}(h:s[j]?=some x)(ho:∀y∈s.take j,y<=9223372036854775807)(hx:x<=9223372036854775807):∀y∈s.take (j+1),y<=9223372036854775807:=by
 intro y H;rw[List.take_add_one,h]at H;rcases List.mem_append.1 H with E|E
 ·exact ho y E
 ·simp at E;rw[E];exact hx
theorem Qgq {l:List (List Nat)}{i:Nat}{s:List Nat}(h:l[i]?=some s)(ho:le63 (l.take i))(hx:∀x∈s,x<=9223372036854775807):le63 (l.take (i+1)):=by
 intro y H;rw[List.take_add_one,h]at H;rcases List.mem_append.1 H with E|E
 ·exact ho y E
 ·simp at E;rw[E];exact hx
theorem Qys {s:List Nat}:J7 s=(Y4 s).map fun k=>Value.int .i64 k:=by
 unfold J7 Y4;rw[List.map_map];rfl
theorem Ms (t:Qx)(w:World)(ht:t.length<=67108864)(hx:Lx w)(hs:SG w)(hsz:4<w.heap.size):
  Calls Tryz.prog 21 #[.string ⟨t.toArray⟩] w (Sj t w):=by
 have HC:=zq (T0 t w ht hx hs hsz);obtain⟨T,hT⟩:=xq (⟨t.toArray⟩:ByteArray);rw[<-hT]at HC ⊢;have HT:=zq ht;obtain⟨i0,hi,hz0,hz1,hz2⟩:=info_parts Tryz.infoInt;obtain⟨j0,hj,hk0,hk1,hk2⟩:=info_parts Tryz.infoLs;clear hx hs hsz hT ht;go_enter Tryz.func21,Tryz.ntmps21;go_wp2_with fail;refine HC.o.mono ?_;rintro e w1 hn;unfold P3 at hn
 cases hR:SynP.Jr t with
 |none=>
  rw[hR]at hn;obtain⟨ao,n,cap,rfl,hb⟩:=hn
  have HV:Hid (rcxV t=none):=by show _=_;unfold rcxV;rw[hR]
  have HB:=zq hb;clear hb hR;go_wp2_with fail;go_ret2
  exact Sj.none HV.o HB.o rfl
 |some l=>
  rw[hR]at hn;obtain⟨lv,svs,rfl,hb,hcx⟩:=hn
  have HV:Hid (rcxV t=if le63 l then some (l.map Y4) else none):=by show _=_;unfold rcxV;rw[hR]
  obtain⟨hc1,hc2⟩:=My hR;obtain⟨ao,cap,rfl,h1,h2,h3⟩:=hcx.crd;obtain⟨n,hnn⟩:=xq l.length;rw[<-hnn]at h1 h3 hc1 ⊢;have hn:n<=67108864:=Nat.le_trans hc1 HT.o;have HNN:=zq hnn;have HC2:Hid (∀s∈l,s.length<=67108864):=fun s hs=>Nat.le_trans (hc2 s hs) HT.o;have H3:=zq h3;have HB:=zq hb;clear hb hR hcx hc1 hc2 hnn h3 HC;go_wp2_with (at_make;refine wpList_make_own _ rfl _ _ 38 rfl w1.heap.size 41 j0 (.slice none 0 0) 1 Tryz.underlying38 hj hk0 hk1 _ _ _ n rfl rfl rfl (by rw[hk2];omega) (by unfold maxLen;omega) (Nat.le_refl _) ?_);intro w2 hown2 hgrow2;have hb2:Below w1.heap.size w1 w2:=Below.grown (Below.refl _ _) hgrow2 (Nat.le_refl _) (fun k hk=>by cases hk);have HST:Hid (RxOu n l w1 (.slice (some ⟨w1.heap.size,0,none⟩) 0 n) (.int .i64 0) w2):=⟨0,[],rfl,Nat.zero_le _,⟨⟨hown2,rfl,fun j sv s h=>by simp at h⟩,fun j sv s h=>by simp at h,fun i j c d q h=>by simp at h⟩,hb2,fun s hs=>by simp at hs⟩;clear hb2 hown2 hgrow2;go_wp2_with fail;go_loopw [6,25] (fun lv iv wr=>RxOu n l w1 lv iv wr) (fun _ iv _=>(n-intOf iv).toNat)
  case atStart=>exact HST.o
  clear HST
  case round=>
   obtain⟨i,svs2,rfl,hin,hcx,hbl,hok⟩:=hrel;have HCX:=zq hcx;have HBL:=zq hbl;have HOK:=zq hok;have hz1':=hbl.size;clear hcx hbl hok;obtain⟨wo,rfl⟩:=xq wr;by_cases hlt:i<n
   ·obtain⟨g,o,rfl,hg,hcell⟩:=H3.o (by omega)
    obtain⟨u,c0,s,hsi,hka⟩:=hcell i hlt;have d0:wo.cell? ⟨g,o+i,none⟩=some u:=(HBL.o.cell (p:=⟨g,o+i,none⟩) hg).trans c0;have hka2:=hka.below HBL.o;obtain⟨so,scap,rfl,s1,s2,s3⟩:=hka2;have hsl:=HC2.o s (List.mem_of_getElem? hsi);have HSI:=zq hsi;obtain⟨m,hmm⟩:=xq s.length;rw[<-hmm]at s1 hsl d0 s3;have HS3:=zq s3;have HMM:=zq hmm;clear c0 hsi hcell s3 hmm hka;go_wp2_with (at_make;refine wpList_make_own _ rfl _ _ 41 rfl wo.heap.size 3 i0 (.int .i64 0) 1 Tryz.underlying41 hi hz0 hz1 _ _ _ m rfl rfl rfl (by rw[hz2];omega) (by unfold maxLen;omega) (Nat.le_refl _) ?_);intro w3 hown3 hgrow3;have hb3:Below wo.heap.size wo w3:=Below.grown (Below.refl _ _) hgrow3 (Nat.le_refl _) (fun k hk=>by cases hk);have HST2:Hid (RxIn m s wo (.slice (some ⟨wo.heap.size,0,none⟩) 0 m) (.int .i64 0) w3):=⟨0,rfl,Nat.zero_le _,hown3,hb3,fun x hx=>by simp at hx⟩;clear hown3 hgrow3 hb3;go_wp2_with fail;go_loopw [9,34] (fun sv jv wx=>RxIn m s wo sv jv wx) (fun _ jv _=>(m-intOf jv).toNat)
    case atStart=>exact HST2.o
    clear HST2
    case round=>
     obtain⟨j,rfl,hjm,hrow,hbl2,hok2⟩:=hrel;have HROW:=zq hrow;have HBL2:=zq hbl2;have HOK2:=zq hok2;have hz2':=hbl2.size;clear hrow hbl2 hok2;by_cases hjt:j<m
     ·obtain⟨g2,o2,rfl,hg2,hcell2⟩:=HS3.o (by omega)
      obtain⟨mv,e0,x,hx,hnr⟩:=hcell2 j hjt;have f0:wr.cell? ⟨g2,o2+j,none⟩=some mv:=(HBL2.o.cell (p:=⟨g2,o2+j,none⟩) hg2).trans e0;obtain⟨xs,r1,r2,r3⟩:=hnr.below HBL2.o;have HRX:=zq r1;obtain⟨-,xo,xcap,rfl,q1,q2,q3,q4⟩:=r1;have HX:=zq hx;have HVX:=zq r2;have HQ4:=zq q4;have HB63:=zq (Qm4 q3);obtain⟨xl,hxl⟩:=xq xs.length;rw[<-hxl]at q1 r3 f0 HRX;have HXL:=zq hxl;obtain⟨b,hbb⟩:=xq (bitsN xs);rw[<-hbb]at HB63;have HBB:=zq hbb;clear e0 hx hnr q3 q4 r2 hxl hbb hcell2;go_wp2_with fail;refine(Vk _ xs _ HRX.o (by rw[<-HXL.o];omega)).mono ?_;rintro e w' ⟨rfl,rfl⟩;rw[<-HBB.o];by_cases hbig:63<b
      ·have hb1:(63:Int)<(b:Int):=by omega
       have HBAD:Hid (rcxV t=none):=by
        show _=_;rw[HV.o,if_neg];intro h;have h1:=h s (List.mem_of_getElem? HSI.o) x (List.mem_of_getElem? HX.o);rw[<-HVX.o]at h1;have:=HB63.o.2 h1;omega
       go_wp2_with fail;go_ret2;exact Sj.none HBAD.o (HB.o.trans ((HBL.o.trans (HBL2.o.mono hz1')).mono HB.o.size)) rfl
      ·have hb1: ¬(63:Int)<(b:Int):=by omega
       have hx63:x<=9223372036854775807:=by rw[<-HVX.o];exact HB63.o.1 (by omega)
       have HX63:=zq hx63;have hOW:(wr.alloc (.cells #[.int .i64 (x:Nat)] 3)).ownsRow wo.heap.size 3 1 u9 j (J7 (s.take j)):=Ql HROW.o (Qq wr _) (Nat.le_refl _);have HOW:=zq hOW;have HBA:=zq (HBL2.o.trans ((Qq wr (.cells #[.int .i64 (x:Nat)] 3)).mono hz2'))
       have W0:IntKind.i64.wrap (x:Int)=(x:Int):=by rw[IntKind.wrap_i64];omega
       clear hOW hbig;by_cases hx0:xl=0
       case' pos=>
        have hxz:x=0:=by
         have hnil:xs=[]:=List.eq_nil_of_length_eq_zero (by rw[<-HXL.o];exact hx0);rw[<-HVX.o,hnil];rfl
        subst hxz;subst hx0;go_wp2_with (at_builtin;refine wpList_append_lies _ rfl _ _ 41 rfl wo.heap.size 3 i0 (.int .i64 0) 1 8 Tryz.underlying41 hi hz0 hz1 hz2 rfl (by omega) u9 j (J7 (s.take j)) rfl HOW.o ⟨wr.heap.size,0,none⟩ 1 1 [.int .i64 (0:Nat)] rfl rfl (LexP.Qc _ _ _ _ rfl) (by simp[Value.oneCell']) (by omega) (by unfold maxLen;omega) (by omega) (by simp;omega) (wr.heap.size+1) (by simp) ?_)
       case' neg=>
        have hxp:(0:Int)<(xl:Int):=by omega
        obtain⟨d,hd⟩:∃d,xs[0]?=some d:=⟨_,List.getElem?_eq_getElem (by rw[<-HXL.o];omega)⟩
        have hdx:d=x:=by rw[<-HVX.o];exact Qbq hd (by rw[HVX.o];exact hx63)
        subst hdx;obtain⟨g5,o5,rfl,c5⟩:=HQ4.o 0 d hd;rw[Nat.add_zero]at c5;clear hd;go_wp2_with (at_builtin;refine wpList_append_lies _ rfl _ _ 41 rfl wo.heap.size 3 i0 (.int .i64 0) 1 8 Tryz.underlying41 hi hz0 hz1 hz2 rfl (by omega) u9 j (J7 (s.take j)) rfl HOW.o ⟨wr.heap.size,0,none⟩ 1 1 [.int .i64 (d:Nat)] rfl rfl (LexP.Qc _ _ _ _ rfl) (by simp[Value.oneCell']) (by omega) (by unfold maxLen;omega) (by omega) (by simp;omega) (wr.heap.size+1) (by simp) ?_)
       all_goals
        intro gg cap9 w9 hown9 hgrow hat hlt9
        have HR9:Hid (w9.ownsRow wo.heap.size 3 1 (.slice (some ⟨gg,0,none⟩) (j+1) cap9) (j+1) (J7 (s.take (j+1)))):=by
         show World.ownsRow _ _ _ _ _ _ _;rw[Cj HX.o];exact hown9
        have HB9:Hid (Below wo.heap.size wo w9):=Below.grown HBA.o hgrow HBA.o.size (fun q hq=>(World.ownsRow.lt HROW.o q hq).1);have HQ3:=zq (Qg0 HX.o HOK2.o HX63.o);clear hown9 hgrow hat hlt9;go_wp2_with fail;have hfin:w9.ownsRow wo.heap.size 3 1 (.slice (some ⟨gg,0,none⟩) (j+1) cap9) (j+1) (J7 (s.take (j+1)))/\Below wo.heap.size wo w9/\ ∀x∈s.take (j+1),x<=9223372036854775807:=⟨HR9.o,HB9.o,HQ3.o⟩
        exact⟨⟨j+1,by go_num,by omega,hfin⟩,by simp[intOf]<;>omega⟩
     ·have hje:j=m:=by omega
      have htk:s.take j=s:=List.take_of_length_le (by rw[hje];exact Nat.le_of_eq HMM.o.symm);rw[htk]at HROW HOK2
      have hsl2:s.length=j:=by rw[hje];exact HMM.o.symm
      have HRO:=zq (show wr.ownsRow wo.heap.size 3 1 u9 (Y4 s).length ((Y4 s).map fun k=> .int .i64 k) by rw[<-Qys,show (Y4 s).length=j by unfold Y4;rw[List.length_map];exact hsl2];exact HROW.o);have HKF:=zq (KF.of_row (ks:=Y4 s) (by rw[<-Qys];exact HROW.o) (by unfold Y4;rw[List.length_map];exact hsl2.symm));obtain⟨so',sc',hshape,-⟩:=Qm HROW.o;subst hshape;have HA7:=zq (Qq wr (.cells #[.slice so' j sc'] 41));have HIY:=zq ((HCX.o.below HBL2.o).below HA7.o);have HKA7:=zq (HKF.o.1.below HA7.o)
      have HKQ:Hid (∀q,(Value.ownBlock (.slice so' j sc'))=some q->q<(wr.alloc (.cells #[.slice so' j sc'] 41)).heap.size/\u6.ownBlock≠some q):=by
       intro q hq;have h1:=HKF.o.2 q hq;refine⟨by simp;omega,fun e=> ?_⟩;have:=(HCX.o.iy.own.lt q e).2;omega
      have HSP:Hid (∀x∈svs2,∀q,x.ownBlock=some q->(Value.ownBlock (.slice so' j sc'))≠some q):=by
       intro x hx q hq e;obtain⟨jx,hjx⟩:=List.mem_iff_getElem?.1 hx
       have hja:jx<((l.map Y4).take i).length:=by rw[<-HCX.o.iy.len];exact(List.getElem?_eq_some_iff.1 hjx).1
       have h1:=((HCX.o.iy.el jx x _ hjx (List.getElem?_eq_getElem hja)).2 q hq).1;have h2:=(HRO.o.lt q e).1;omega
      obtain⟨nx,hnx⟩:=xq svs2.length;have HNX:=zq hnx
      have hnxl:nx<=67108864:=by rw[hnx,HCX.o.iy.len,List.length_take];omega
      have hOW:(wr.alloc (.cells #[.slice so' j sc'] 41)).ownsRow w1.heap.size 41 1 u6 nx svs2:=by rw[hnx];exact HIY.o.iy.own
      have HOW:=zq hOW;have HBA:=zq ((HBL.o.trans (HBL2.o.mono hz1')).trans (HA7.o.mono (HBL.o.trans (HBL2.o.mono hz1')).size));clear hnx hOW htk hsl2 hje;go_wp2_with (at_builtin;refine wpList_append_lies _ rfl _ _ 38 rfl w1.heap.size 41 j0 (.slice none 0 0) 1 24 Tryz.underlying38 hj hk0 hk1 hk2 rfl (by omega) u6 nx svs2 rfl HOW.o ⟨wr.heap.size,0,none⟩ 1 1 [.slice so' j sc'] rfl rfl (LexP.Qc _ _ _ _ rfl) (by simp[Value.oneCell']) (by omega) (by unfold maxLen;omega) (by omega) (by simp;omega) (wr.heap.size+1) (by simp) ?_);intro gg cap9 w9 hown9 hgrow hat hlt9;have q1:=HIY.o.push HKA7.o HKQ.o (Ql (Vn HRO.o (HBL.o.size)) HA7.o (Nat.le_refl _)) HSP.o hown9 (by rw[HNX.o]) hgrow (by simpa using hat)
      have htk:(l.map Y4).take (i+1)=(l.map Y4).take i++[Y4 s]:=by
       rw[List.take_add_one,List.getElem?_map,HSI.o];rfl
      rw[<-htk]at q1;have hb9:Below w1.heap.size w1 w9:=Below.grown HBA.o hgrow HBA.o.size (fun q hq=>(HIY.o.iy.own.lt q hq).1);have HQ1:=zq q1;have HQ2:=zq hb9;have HQ3:=zq (Qgq HSI.o HOK.o HOK2.o);clear hown9 hgrow hat hlt9 q1 htk hb9;go_wp2_with fail;have hfin:Iz w9 w1.heap.size (.slice (some ⟨gg,0,none⟩) (nx+1) cap9) (svs2++[.slice so' j sc']) ((l.map Y4).take (i+1))/\Below w1.heap.size w1 w9/\le63 (l.take (i+1)):=⟨HQ1.o,HQ2.o,HQ3.o⟩
      exact⟨⟨i+1,_,by go_num,by omega,hfin⟩,by simp[intOf]<;>omega⟩
   ·have hie:i=n:=by omega
    have htk:(l.map Y4).take i=l.map Y4:=List.take_of_length_le (by rw[hie,List.length_map];exact Nat.le_of_eq HNN.o.symm);have htk2:l.take i=l:=List.take_of_length_le (by rw[hie];exact Nat.le_of_eq HNN.o.symm);rw[htk]at HCX;rw[htk2]at HOK
    have HGOOD:Hid (rcxV t=some (l.map Y4)):=by show _=_;rw[HV.o,if_pos HOK.o]
    clear htk htk2 hie;go_wp2_with fail;go_ret2;exact Sj.some HGOOD.o (HB.o.trans (HBL.o.mono HB.o.size)) _ rfl HCX.o.iy.frd (HCX.o.row HB.o.size)
end Go.Proofs.YtgfmiladfeoldaaGreatDoor
