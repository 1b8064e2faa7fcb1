/- Joined texts of this claim's proof: RdT, RdU, SynC. -/
import Derived.Test.YtgfmiladfeoldaaGreatDoorPk1
import Derived.Test.YtgfmiladfeoldaaGreatDoorPk24
import Derived.Test.YtgfmiladfeoldaaGreatDoorPk23
set_option linter.unusedSimpArgs false
set_option linter.unusedVariables false
set_option maxRecDepth 100000
set_option maxHeartbeats 16000000
namespace Go.Proofs.YtgfmiladfeoldaaGreatDoor
open Go.RowKit NatP LexP
def PaO (R:Nat)(tv:Value)(L:List Tok)(fin:Nat)(s0:SynP.St)(nv:Value)(ns:List Nv)(w:World)(f:Nat)(r:SynP.PR SynP.Exs)(kv:Value)(wr:World):Prop:=
 ∃g ks s' a' nv' ns',g<=f/\SynP.partsLoop fin g ks s'=r/\PSt R tv L fin s0 nv ns w wr a' s' nv' ns'/\Ka wr R nv' (ns++ns') kv (ks.roots ns.length)/\ns'.map Prod.fst=ks.flat ns.length/\ ∀q,kv.ownBlock=some q->w.heap.size<=q
theorem G0:∀(l:SynP.Exs) (o:Nat),(l.roots o).length=l.len
 | .nil,_=>rfl
 | .cons a l,o=>by show (l.roots _).length+1=l.len+1;rw[G0 l]
theorem C8:∀l:SynP.Exs,l.len<=l.size
 | .nil=>Nat.le_refl _
 | .cons a l=>by
  have h1:=C8 l;have h:=Z5 a;show l.len+1<=a.size+l.size;omega
theorem Qwh (fin f:Nat)(IH:∀g,g<=f->ExOk 97 (SynP.expr fin g) fin):PaOk (SynP.parts fin (f+1)) fin:=by
 intro R tv L a s nv ns w h hf;have H:=zq h;have HIH:=zq IH;obtain⟨r,hr⟩:=xq (SynP.parts fin (f+1) s);rw[<-hr]at hf ⊢
 have HR0:Hid (r=(SynP.expr fin f s).bind fun k s=>SynP.partsLoop fin f (.cons k .nil) s):=by show _=_;rw[hr];rfl
 have HNE:=zq hf;have hfew:=h.few;clear h hr hf IH;go_enter Tryz.func98,Tryz.ntmps98;go_wp2_with fail;refine(HIH.o f (Nat.le_refl _) R tv L a s nv ns _ H.o (fun e=>HNE.o (by rw[HR0.o,e];rfl))).mono ?_;rintro e w1 hn;rcases hN:SynP.expr fin f s with- |(⟨fc,fk⟩|⟨k,s1⟩)
 ·rw[hN]at hn;exact hn.elim
 ·rw[hN]at hn
  obtain⟨rfl,n1⟩:=hn;refine⟨rfl,?_⟩
  have hre:r=some (.error (fc,fk)):=by rw[HR0.o,hN];rfl
  rw[hre];exact⟨rfl,n1⟩
 rw[hN]at hn;obtain⟨v1,a1,nv1,ns1,rfl,n1,n2⟩:=hn;obtain⟨rfl,hfl⟩:=n2;obtain⟨p,hp⟩:=xq (ns.length+k.size-1);rw[<-hp];have HA:=zq (Qq w1 (.cells #[.int .i64 ((p:Nat):Int)] 3))
 have HST:Hid (PaO R tv L fin s nv ns w f r (.slice (some ⟨w1.heap.size,0,none⟩) 1 1) (w1.alloc (.cells #[.int .i64 ((p:Nat):Int)] 3))):=by
  refine⟨f,.cons k .nil,s1,a1,nv1,ns1,Nat.le_refl _,by rw[HR0.o,hN];rfl,n1.step (n1.rs.below HA.o) (Wr.of_below HA.o) (Nat.le_refl _) rfl,⟨⟨rfl,.inr ⟨w1.heap.size,1,_,rfl,n1.rs.lt,heap_alloc_new w1 _,Nat.le_refl _,by unfold maxLen;omega,rfl,by rw[hp];rfl⟩⟩,fun q hq=> ?_⟩,by rw[hfl];simp[SynP.Exs.flat],fun q hq=>by cases hq;exact n1.wr.size⟩
  have hqe:w1.heap.size=q:=by cases hq;rfl
  refine⟨fun e=> ?_,fun x hx e=> ?_⟩
  ·have:=(n1.rs.own.lt q e).2;omega
  ·obtain⟨ao,cap,e1,-,-,h3,-⟩:=n1.rs.kids x hx
   have:=(h3 q e).2.1;omega
 clear n1 hN hp hfl;go_wp2_with fail;go_loopw [3] (fun kv wr=>PaO R tv L fin s nv ns w f r kv wr) (fun _ wr=>Qc L R wr)
 case atStart=>exact HST.o
 clear HST
 case round=>
  obtain⟨g,ks,s2,a2,nv2,ns2,hgf,htu,hps,hka,hfl,hge⟩:=hrel;obtain⟨wo,rfl⟩:=xq wr
  cases g with
  |zero=>exact absurd htu.symm HNE.o
  |succ g=>
   have HPS:=zq hps;have HFL:=zq hfl;have HKA:=zq hka;have HGE:=zq hge;have HL2:=zq hps.rs.left;have HTU:=zq htu;have hfw:=hps.few;rw[List.length_append]at hfw
   have hl2:ns2.length=ks.size:=by have:=congrArg List.length hfl;rw[List.length_map,Un]at this;exact this
   clear hps hfl htu hka hge;go_wp2_with fail;refine(Zx R tv L fin a2 s2 nv2 (ns++ns2) _ HPS.o.rs [44]).mono ?_;rintro e w3 ⟨rfl,t1,t2⟩
   cases hm:SynP.Qv [44] s2.ts with
   |true=>
    rw[if_pos hm]at t2;have hml:=Ww hm
    have HRR:Hid (r=(SynP.expr fin g s2.adv).bind fun k s=>SynP.partsLoop fin g (ks.snoc k) s):=by
     have h1:=HTU.o;unfold SynP.partsLoop at h1;rw[if_pos hm]at h1;exact h1.symm
    have HP3:=zq (HPS.o.step t2 t1 (by omega) rfl);have hk3:=HKA.o.expr (ns':=[]) (nv':=nv2) (t1.weak _) (Mv.refl _ _) (fun p hp=>by cases hp);rw[List.append_nil]at hk3;have HK3:=zq hk3;clear t1 t2 hm hk3;go_wp2_with fail;refine(HIH.o g (by omega) R tv L (a2+1) s2.adv nv2 (ns++ns2) _ HP3.o.rs (fun e=>HNE.o (by rw[HRR.o,e];rfl))).mono ?_;rintro e w4 hn;rcases hN:SynP.expr fin g s2.adv with- |(⟨fc,fk⟩|⟨t,s4⟩)
    ·rw[hN]at hn;exact hn.elim
    ·rw[hN]at hn
     obtain⟨rfl,n1⟩:=hn;refine⟨rfl,?_⟩
     have hre:r=some (.error (fc,fk)):=by rw[HRR.o,hN];rfl
     rw[hre];exact⟨rfl,HP3.o.wr.trans HP3.o.mv n1⟩
    rw[hN]at hn;obtain⟨v4,a4,nv4,ns4,rfl,n1,n2⟩:=hn
    have HRT:Hid (SynP.partsLoop fin g (ks.snoc t) s4=r):=by show _=_;rw[HRR.o,hN];rfl
    have hfw4:=n1.few;simp only[List.length_append]at hfw4;obtain⟨rfl,hfl4⟩:=n2;obtain⟨q,hq⟩:=xq ((ns++ns2).length+t.size-1);rw[<-hq];have HQ:=zq hq;have HFL4:=zq hfl4;have HP4:=zq (HP3.o.trans n1);have HA:=zq (Qq w4 (.cells #[.int .i64 ((q:Nat):Int)] 3));have HP5:=zq (HP4.o.step (HP4.o.rs.below HA.o) (Wr.of_below HA.o) (Nat.le_refl _) rfl);have hk5:=(HK3.o.expr n1.wr n1.mv n1.fresh).expr (ns':=[]) (nv':=nv4) ((Wr.of_below (R:=R) (og:=none) HA.o).weak _) (Mv.refl _ _) (fun p hp=>by cases hp);rw[List.append_nil,List.append_assoc]at hk5;have HK5:=zq hk5;obtain⟨i0,hi,hz0,hz1,hz2⟩:=info_parts Tryz.infoInt;obtain⟨N,hN2⟩:=xq ((ks.roots ns.length).length);have HNN:=zq hN2
    have hNl:N<=134217728:=by rw[hN2,G0];have:=C8 ks;omega
    have hOW:(w4.alloc (.cells #[.int .i64 ((q:Nat):Int)] 3)).ownsRow (R+1) 3 1 u3 N (ints (ks.roots ns.length)):=by rw[hN2];exact hk5.own
    have HOW:=zq hOW;have hRl:=HP4.o.rs.lt;clear n1 hq hfl4 hN hk5 hN2 hOW;go_wp2_with (at_builtin;refine wpList_append_lies _ rfl _ _ 41 rfl (R+1) 3 i0 (.int .i64 0) 1 8 Tryz.underlying41 hi hz0 hz1 hz2 rfl (by omega) u3 N (ints (ks.roots ns.length)) rfl HOW.o ⟨w4.heap.size,0,none⟩ 1 1 [.int .i64 ((q:Nat):Int)] rfl rfl (LexP.Qb _ _ _ _ rfl) (by simp[Value.oneCell']) (by omega) (by unfold maxLen;omega) (by omega) (by simp;omega) (w4.heap.size+1) (by simp) ?_);intro gg cap w6 hown6 hgrow hat hlt6
    have hat':u3.ownBlock=some gg\/gg=(w4.alloc (.cells #[.int .i64 ((q:Nat):Int)] 3)).heap.size:=by simpa using hat
    have q1:=HK5.o.push (k:=q) hown6 (by rw[HNN.o]) hat' (fun x hx=>(HP5.o.rs.own.lt x hx).2) (fun p hp x hx=>by
     obtain⟨ao,cp,e1,-,-,h3,-⟩:=HP5.o.rs.kids p hp
     exact(h3 x hx).2.1)
    have q2:=(HP5.o.rs.growK hgrow (fun x hx=>⟨by have:=(HK5.o.own.lt x hx).1;omega,(HK5.o.ap x hx).1,(HK5.o.ap x hx).2⟩)).1;have HL6:=zq q2.left;have HQ1:=zq q1;have HP6:Hid (PSt R tv L fin s nv ns w w6 a4 s4 nv4 (ns2++ns4)):=⟨q2,⟨hgrow.os.trans HP5.o.wr.os,hgrow.tape.trans HP5.o.wr.tape,hgrow.output.trans HP5.o.wr.output,Nat.le_trans HP5.o.wr.size hgrow.size,fun x hx h1 h2=>(hgrow.block x (Nat.lt_of_lt_of_le hx HP5.o.wr.size) (fun e=>by have:=HGE.o x e.symm;omega)).trans (HP5.o.wr.block x hx h1 h2)⟩,HP5.o.mv,HP5.o.few,HP5.o.opn,HP5.o.fresh⟩
    have hge6:w.heap.size<=gg:=by
     rcases hat' with h1|h1
     ·exact HGE.o gg h1
     ·rw[h1];exact HP5.o.wr.size
    clear hown6 hgrow hat hat' hlt6 q1 q2;go_wp2_with fail
    have hfin:PaO R tv L fin s nv ns w f r (.slice (some ⟨gg,0,none⟩) (N+1) cap) w6:=by
     refine⟨g,ks.snoc t,s4,a4,nv4,_,by omega,HRT.o,HP6.o,?_,?_,fun x hx=>by cases hx;exact hge6⟩
     ·rw[Kl]
      have e:ns.length+ks.size+t.size-1=q:=by rw[HQ.o,List.length_append,hl2]
      rw[e];exact HQ1.o
     ·rw[List.map_append,HFL.o,HFL4.o,H8,List.length_append,hl2]
    have hlf:Qc L R w6<Qc L R wo:=by rw[HL6.o,HL2.o];omega
    first|exact⟨hfin,hlf⟩|exact⟨by (repeat apply Exists.intro);exact⟨hfin,rfl⟩,hlf⟩
   |false=>
    rw[if_neg (by rw[hm];decide)]at t2
    have HRR:Hid (r=some (.ok (ks,s2))):=by
     have h1:=HTU.o;unfold SynP.partsLoop at h1;rw[if_neg (by rw[hm];decide)]at h1;show _=_;rw[<-h1];rfl
    have HP3:=zq (HPS.o.step t2 t1 (Nat.le_refl _) rfl);have hk3:=HKA.o.expr (ns':=[]) (nv':=nv2) (t1.weak _) (Mv.refl _ _) (fun p hp=>by cases hp);rw[List.append_nil]at hk3;have HK3:=zq hk3;clear t1 t2 hm hk3;go_wp2_with fail;go_ret;rw[HRR.o];exact⟨_,a2,nv2,ns2,rfl,HP3.o,HK3.o.knew,HFL.o,HGE.o⟩
theorem Qws (fin f:Nat)(R:Nat)(tv:Value)(L:List Tok)(a:Nat)(s:SynP.St)(nv:Value)(ns:List Nv)(w:World)(h:RS w R tv L fin a s nv ns)(hk:SynP.Qy 1 s.ts=true):
  Calls Tryz.prog 251 #[.pointer (some ⟨R,0,none⟩)] w (RP (SynP.atom fin (f+1) s) R tv L fin s nv ns (ExQ ns) w):=by
 have H:=zq h;obtain⟨r,hr⟩:=xq (SynP.atom fin (f+1) s);rw[<-hr]
 have HR0:Hid (r=(SynP.Qi fin s).bind fun n s=>SynP.ret (.num n) s):=by show _=_;rw[hr];unfold SynP.atom;rw[if_pos hk]
 have hfew:=h.few;have hc:=Xj 1 [] s.ts (by decide);rw[hk]at hc;have HC:=zq hc;clear h hr hk hc;go_enter Tryz.func251,Tryz.ntmps251;go_wp2_with fail;refine(Qt R tv L fin a s nv ns _ H.o 0 1 [] (by omega) (by omega)).mono ?_;rintro e w1 ⟨rfl,b1⟩;rw[HC.o];have HP1:=zq ((PSt.refl H.o).step (s2:=s) (a2:=a) (w2:=w1) (by rw[List.append_nil];exact H.o.below b1) (Wr.of_below b1) (Nat.le_refl _) rfl);have HS1:=zq (H.o.below b1);clear b1;go_wp2_with fail;refine(Z0 R tv L fin a s nv ns _ HS1.o).mono ?_;rintro e w2 hn;rcases hN:SynP.Qi fin s with- |(⟨fc,fk⟩|⟨m,s2⟩)
 ·rw[hN]at hn;exact hn.elim
 ·rw[hN]at hn
  obtain⟨rfl,n1⟩:=hn;refine⟨rfl,?_⟩
  have hre:r=some (.error (fc,fk)):=by rw[HR0.o,hN];rfl
  rw[hre];exact⟨rfl,HP1.o.wr.trans HP1.o.mv (n1.weak _)⟩
 rw[hN]at hn;obtain⟨v2,a2,rfl,n1,n2,n3,n4⟩:=hn;have hl2:=Yl hN
 have HRR:Hid (r=some (.ok (.num m,s2))):=by show _=_;rw[HR0.o,hN];rfl
 have HP2:=zq (HP1.o.step (by rw[List.append_nil];exact n1) n2 (by omega) hl2.2);obtain⟨⟨xs,x1,x2,x3⟩,-⟩:=n4;have HX1:=zq x1;have HX2:=zq x2;clear n1 n2 n3 hN x1 x2;go_wp2_with fail;refine(S7 _ xs _ HP2.o.rs.sg HX1.o (by omega)).mono ?_;rintro e w3 ⟨rfl,b1⟩;rw[HX2.o,Pt];have HP3:=zq (HP2.o.step (HP2.o.rs.below b1) (Wr.of_below b1) (Nat.le_refl _) rfl);clear b1;go_wp2_with fail;refine(Zp R tv L fin a2 s2 nv (ns++[]) _ HP3.o.rs ⟨1,SynP.decT m,[]⟩ _ KNew.nil (by rw[List.append_nil];omega)).mono ?_;rintro e w4 ⟨nv4,rfl,b1,b2,b3⟩;have HP4:=zq (HP3.o.putS b1 b2 b3 (by rw[List.append_nil];omega) (fun q hq=>by simp[Value.ownBlock]at hq));clear b1 b2 b3;go_wp2_with fail;go_ret;rw[HRR.o];exact⟨_,a2,nv4,_,rfl,HP4.o,by simp[SynP.Ex.size],by simp[SynP.Ex.flat]⟩
theorem Qgw {x:Bool×Nat}(h:SynP.Fd x):Y8 x.1 x.2=SynP.intT x:=by
 obtain⟨b,n⟩:=x;unfold Y8 SynP.intT
 cases b with
 |false=>simp;rfl
 |true=>
  have E:n≠0:=by have H:0<n:=h rfl;omega
  simp[E];rfl
theorem Qjr (m:SynP.MatV)(h:∀x∈m.at_,SynP.Fd x):Zr m.rows m.cols (Yw m.at_)=SynP.matT m:=by
 have e:Yw m.at_=m.at_.map SynP.intT:=List.map_congr_left (fun x hx=>Qgw (h x hx));rw[e];unfold Zr SynP.matT;by_cases h0:m.at_=[]
 ·rw[if_pos h0,h0,if_pos (by rfl)]
 ·rw[if_neg h0,if_neg (by simpa using h0)]
theorem Sj {k:Nat}{s:SynP.St}(h:SynP.Qy k s.ts=true):s.adv.ts.length+1=s.ts.length:=by
 have E:=List.length_pos_iff.2 (Vq h);show s.ts.tail.length+1=_;rw[List.length_tail];omega
theorem Aa {fin f:Nat}{s s':SynP.St}{m:SynP.MatV}(h:SynP.X6 fin f s=some (.ok (m,s'))):s'.ts.length+1<=s.ts.length:=by
 unfold SynP.X6 at h;obtain⟨u,s1,I,H⟩:=SynP.Q0 h;have k1:=Vy I;split at H
 ·unfold SynP.Ja at H
  obtain⟨a,s2,a1,a2⟩:=SynP.Q0 H;obtain⟨u2,s3,b1,b2⟩:=SynP.Q0 a2;obtain⟨c,s4,c1,c2⟩:=SynP.Q0 b2;obtain⟨u3,s5,d1,d2⟩:=SynP.Q0 c2;have e1:=(SynP.Zn a1).2;have e2:=(SynP.Ys b1).2;have e3:=(SynP.Zn c1).2;have e4:=(SynP.Ys d1).2;split at d2
  ·exact(SynP.Z3 d2).elim
  ·have e:=SynP.Yd d2
   cases e
   try simp only at*
   omega
 ·obtain⟨q,s2,J,E⟩:=SynP.Q0 H
  have e1:=(SynP.U4 fin f _ _ _ _ J).2;unfold SynP.Yo at E;split at E
  ·exact(SynP.Z3 E).elim
  ·split at E
   ·exact(SynP.Z3 E).elim
   ·have e:=SynP.Yd E
    cases e
    try simp only at*
    omega
def tot (l:List (List Nat)):Nat:=(l.map List.length).sum
theorem Rk (fin:Nat):∀(f:Nat) (acc:List Nat) (s:SynP.St) (r:List Nat×SynP.St),SynP.X0 fin f acc s=some (.ok r)->r.1.length+r.2.ts.length<=acc.length+s.ts.length
 |0,_,_,_,h=>by cases h
 |f+1,acc,s,r,h=>by
  unfold SynP.X0 at h;split at h
  ·obtain⟨m,s',h1,h2⟩:=SynP.Q0 h
   have E:=Rk fin f _ _ _ h2;have H:=Yl h1;rw[List.length_append,List.length_singleton]at E;omega
  ·rw[SynP.Yd h];exact Nat.le_refl _
theorem Rx (fin:Nat):∀(f:Nat) (acc:List (List Nat)) (s:SynP.St) (r:List (List Nat)×SynP.St),SynP.Xa fin f acc s=some (.ok r)->tot r.1+r.2.ts.length<=tot acc+s.ts.length/\r.1.length+r.2.ts.length<=acc.length+s.ts.length
 |0,_,_,_,h=>by cases h
 |f+1,acc,s,r,h=>by
  unfold SynP.Xa at h;obtain⟨n,s1,h1,h2⟩:=SynP.Q0 h;obtain⟨x,s2,H,E⟩:=SynP.Q0 h2;have k1:=Yl h1;have k3:=Rk fin f _ _ _ H;have k4:=(SynP.Tc fin f _ _ _ H).2
  have kt:tot (acc++[x])=tot acc+x.length:=by simp[tot]
  simp only[List.length_singleton]at k3;split at E
  ·rw[SynP.Yd E]
   have k5:=(SynP.Keep.adv s2).2;simp only[kt,List.length_append,List.length_singleton]at*;omega
  ·obtain⟨u,s3,J,I⟩:=SynP.Q0 E
   have k5:=(SynP.Ys J).2;have k6:=Rx fin f _ _ _ I;rw[kt,List.length_append,List.length_singleton]at k6
   try simp only at*
   omega
theorem Gv {fin f:Nat}{s:SynP.St}{r:List (List Nat)×SynP.St}(h:SynP.Xg fin f s=some (.ok r)):tot r.1<=s.ts.length/\r.1.length<=s.ts.length:=by
 unfold SynP.Xg at h;obtain⟨u,s1,H,E⟩:=SynP.Q0 h;have k1:=(SynP.Ys H).2;split at E
 ·rw[SynP.Yd E];simp[tot]
 ·have:=Rx fin f _ _ _ E
  simp[tot]at this k1 ⊢;omega
theorem Ac {fin f:Nat}{s s':SynP.St}{l:List (List Nat)}(h:SynP.Xg fin f s=some (.ok (l,s'))):s'.ts.length+1<=s.ts.length:=by
 unfold SynP.Xg at h;obtain⟨u,s1,H,E⟩:=SynP.Q0 h;have k1:=Vy H;split at E
 ·have e:=SynP.Yd E
  cases e
  have:=Zh s1;omega
 ·have:=(SynP.Tg fin f _ _ _ E).2
  simp only at this;omega
theorem Qz2:∀{l:List (List Nat)} {s:List Nat},s∈l->s.length<=tot l
 |a::l,s,h=>by
  show _<=a.length+tot l;rcases List.mem_cons.1 h with rfl|h
  ·omega
  ·have:=Qz2 h;omega
theorem Nb (sep:Qx):∀l:List Qx,(SynP.Q8 sep l).length<=(l.map List.length).sum+l.length*sep.length
 | []=>Nat.zero_le _
 | [a]=>by show a.length<=(a.length+0)+1*_;omega
 |a::b::l=>by
  have h1:=Nb sep (b::l);show (a++sep++SynP.Q8 sep (b::l)).length<=(a.length+((b::l).map List.length).sum)+((b::l).length+1)*sep.length;simp only[List.length_append];rw[Nat.succ_mul];omega
theorem Fg (t:Qx):(SynP.decT (SynP.Xx t)).length<=max 1 t.length:=by
 unfold SynP.decT;split
 ·show 1<=_;omega
 ·rw[List.length_map]
  refine Nat.le_trans (NatP.Uc (w:=(digs (t.filter NumP.Qu)).length) (NatP.Tu fun x hx=> ?_)) ?_
  ·obtain⟨c,h,rfl⟩:=List.mem_map.1 hx
   have:=(List.mem_filter.1 h).2;unfold NumP.Qu at this;simp at this;omega
  ·rw[show (digs (t.filter NumP.Qu)).length=(t.filter NumP.Qu).length from List.length_map _]
   exact Nat.le_trans (List.length_filter_le _ _) (Nat.le_max_right _ _)
def Lb (s:SynP.St):Nat:=(s.ts.map fun t=>t.2.1.length+1).sum
def sum1 (x:List Nat):Nat:=(x.map fun n=>(SynP.decT n).length).sum
def sumD (l:List (List Nat)):Nat:=(l.map sum1).sum
theorem Qwb (s:SynP.St):Lb s.adv<=Lb s:=by
 unfold Lb SynP.St.adv
 cases s.ts with
 |nil=>exact Nat.le_refl _
 |cons t l=>simp
theorem Fb {fin:Nat}{s s':SynP.St}{n:Nat}(h:SynP.Qi fin s=some (.ok (n,s'))):(SynP.decT n).length+Lb s'<=Lb s:=by
 unfold SynP.Qi at h;split at h
 ·rename_i H
  have e:=SynP.Yd h
  injection e with e1 e2
  subst e1 e2;have E:=Fg (SynP.Qm s.ts);unfold Lb SynP.St.adv
  cases hts:s.ts with
  |nil=>rw[hts]at H;cases H
  |cons t l=>
   rw[hts]at E;change (SynP.decT (SynP.Xx t.2.1)).length<=max 1 t.2.1.length at E;show (SynP.decT (SynP.Xx t.2.1)).length+(l.map fun t=>t.2.1.length+1).sum<=((t::l).map fun t=>t.2.1.length+1).sum;rw[List.map_cons,List.sum_cons];omega
 ·cases h
theorem Qzp {fin:Nat}{x:Qx}{s s':SynP.St}{u:Unit}(h:SynP.want fin x s=some (.ok (u,s'))):Lb s'<=Lb s:=by
 unfold SynP.want at h;split at h
 ·have e:=SynP.Yd h
  injection e with e1 e2
  subst e2;exact Qwb s
 ·cases h
theorem Hv (fin:Nat):∀(f:Nat) (acc:List Nat) (s:SynP.St) (r:List Nat×SynP.St),SynP.X0 fin f acc s=some (.ok r)->sum1 r.1+Lb r.2<=sum1 acc+Lb s
 |0,_,_,_,h=>by cases h
 |f+1,acc,s,r,h=>by
  unfold SynP.X0 at h;split at h
  ·obtain⟨m,s',h1,h2⟩:=SynP.Q0 h
   have E:=Hv fin f _ _ _ h2;have I:=Fb h1
   have H:sum1 (acc++[m])=sum1 acc+(SynP.decT m).length:=by simp[sum1]
   rw[H]at E;omega
  ·rw[SynP.Yd h];exact Nat.le_refl _
theorem Km (fin:Nat):∀(f:Nat) (acc:List (List Nat)) (s:SynP.St) (r:List (List Nat)×SynP.St),SynP.Xa fin f acc s=some (.ok r)->sumD r.1+Lb r.2<=sumD acc+Lb s
 |0,_,_,_,h=>by cases h
 |f+1,acc,s,r,h=>by
  unfold SynP.Xa at h;obtain⟨n,s1,h1,h2⟩:=SynP.Q0 h;obtain⟨x,s2,H,E⟩:=SynP.Q0 h2;have k1:=Fb h1;have k3:=Hv fin f _ _ _ H
  have kn:sum1 [n]=(SynP.decT n).length:=by simp[sum1]
  have kt:sumD (acc++[x])=sumD acc+sum1 x:=by simp[sumD]
  simp only[kn]at k3;split at E
  ·rw[SynP.Yd E]
   have k5:=Qwb s2;simp only[kt]at*;omega
  ·obtain⟨u,s3,J,I⟩:=SynP.Q0 E
   have k5:=Qzp J;have k6:=Km fin f _ _ _ I;rw[kt]at k6
   try simp only at*
   omega
theorem Ae {fin f:Nat}{s:SynP.St}{r:List (List Nat)×SynP.St}(h:SynP.Xg fin f s=some (.ok r)):sumD r.1<=Lb s:=by
 unfold SynP.Xg at h;obtain⟨u,s1,H,E⟩:=SynP.Q0 h;have k1:=Qzp H;split at E
 ·rw[SynP.Yd E];exact Nat.zero_le _
 ·have:=Km fin f _ _ _ E
  have k0:sumD []=0:=rfl;omega
theorem Qpx (x:List Nat):(simT x).length<=sum1 x+x.length:=by
 have h:=Nb [32] (x.map SynP.decT);rw[List.length_map,List.map_map]at h;have E:([32]:Qx).length=1:=rfl;rw[E,Nat.mul_one]at h;exact h
theorem Ca:∀l:List (List Nat),((l.map simT).map List.length).sum<=sumD l+tot l
 | []=>Nat.zero_le _
 |a::l=>by
  have h1:=Ca l;have h:=Qpx a
  have e1:sumD (a::l)=sum1 a+sumD l:=by simp[sumD]
  have e2:tot (a::l)=a.length+tot l:=by simp[tot]
  rw[e1,e2,List.map_cons,List.map_cons,List.sum_cons];omega
theorem Qpk {l:List (List Nat)}(hd:sumD l<=201326592)(ht:tot l<=67108864)(hl:l.length<=67108864):(SynP.Q8 [44,32] (l.map simT)).length<=70368744177664:=by
 have H:=Ca l;have h:=Nb [44,32] (l.map simT);rw[List.length_map]at h;have E:([44,32]:Qx).length=2:=rfl;rw[E]at h;omega
theorem Qy0 {L:List Tok}{a:Nat}{s:SynP.St}(h:L.drop a=s.ts):Lb s<=(L.map fun t=>t.2.1.length+1).sum:=by
 unfold Lb;rw[<-h]
 conv=>rhs;rw[<-List.take_append_drop a L,List.map_append,List.sum_append]
 omega
end Go.Proofs.YtgfmiladfeoldaaGreatDoor
