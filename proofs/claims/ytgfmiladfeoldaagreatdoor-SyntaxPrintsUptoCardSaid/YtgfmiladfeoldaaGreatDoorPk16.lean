import Derived.Test.YtgfmiladfeoldaaGreatDoorPk15
set_option linter.unusedSimpArgs false
set_option linter.unusedVariables false
set_option maxRecDepth 100000
set_option maxHeartbeats 16000000
namespace Go.Proofs.YtgfmiladfeoldaaGreatDoor
open Go.RowKit ai ag
def jU (w:World)(g:Nat)(ls:List Bytes):Prop:=w.heap[g]?=some (.cells (df ls).toArray 9 (0,0))
def lf (w:World)(g:Nat)(ds:List Nat):Prop:=w.heap[g]?=some (.cells (ints ds).toArray 3 (0,0))
theorem jU.cell {w:World}{g:Nat}{ls:List Bytes}(h:jU w g ls){i:Nat}{b:Bytes}(hb:ls[i]?=some b):w.cell? ⟨g,i,none⟩=some (.string ⟨b.toArray⟩):=by rw[aam w g i _ _ _ h];simp[df,hb]
theorem lf.cell {w:World}{g:Nat}{ds:List Nat}(h:lf w g ds){i d:Nat}(hb:ds[i]?=some d):w.cell? ⟨g,i,none⟩=some (.int .i64 (d:Nat)):=by rw[aam w g i _ _ _ h];simp[ints,hb]
theorem jU.eD {w:World}{g:Nat}{ls:List Bytes}(h:jU w g ls)(i:Nat):w.frozen? ⟨g,i,none⟩=false:=aaH w g i _ _ h
theorem lf.eD {w:World}{g:Nat}{ds:List Nat}(h:lf w g ds)(i:Nat):w.frozen? ⟨g,i,none⟩=false:=aaH w g i _ _ h
theorem jU.set {w:World}{g:Nat}{ls:List Bytes}(h:jU w g ls)(i:Nat)(b:Bytes):jU (w.setCell ⟨g,i,none⟩ (.string ⟨b.toArray⟩)) g (ls.set i b):=by unfold jU;rw[aas w g i _ _ _ h];simp[df,List.map_set]
theorem lf.set {w:World}{g:Nat}{ds:List Nat}(h:lf w g ds)(i d:Nat):lf (w.setCell ⟨g,i,none⟩ (.int .i64 (d:Nat))) g (ds.set i d):=by unfold lf;rw[aas w g i _ _ _ h];simp[ints,List.map_set]
theorem jU.keep {w w':World}{g:Nat}{ls:List Bytes}(h:jU w g ls)(hb:w'.heap[g]?=w.heap[g]?):jU w' g ls:=hb.trans h
theorem lf.keep {w w':World}{g:Nat}{ds:List Nat}(h:lf w g ds)(hb:w'.heap[g]?=w.heap[g]?):lf w' g ds:=hb.trans h
theorem Qxo (n:Nat):madeCells #[Value.string ⟨#[]⟩] n=(df (List.replicate n [])).toArray:=by apply Array.ext';rw[toList_madeCells_one];simp[df]
theorem Qqy (n:Nat):madeCells #[Value.int .i64 0] n=(ints (List.replicate n 0)).toArray:=by apply Array.ext';rw[toList_madeCells_one];simp[ints]
structure RD (N:List ae.Node) (w:World) (gl gd:Nat) (i:Nat) (lines:List Bytes) (deep free:List Nat) (wr:World):Prop where
 l0:lines.length=N.length
 d0:deep.length=N.length
 le:i<=N.length
 gr:ae.Qi ae.WV N.length i free ((ae.nL N).drop i)=true
 fr:∀f∈free,f<i
 zero:∀j,i<=j->j<N.length->deep[j]?=some 0
 yE:∀(k d:Nat),deep[k]?=some d->d<=2*k+2
 cost:aq.dr lines+((N.drop i).map aq.cost).sum<=1073741824
 sb:jU wr gl lines
 ib:lf wr gd deep
 ne:gl≠gd
 lo:w.heap.size<=gl/\w.heap.size<=gd
 kJ:Below w.heap.size w wr
def FR (N:List ae.Node)(w:World)(F:List Bytes×List Nat)(gl gd:Nat)(iv:Value)(wr:World):Prop:=
 ∃i lines deep free,iv=.int .i64 (i:Nat)/\aq.Zw (aq.opAt N) i (N.drop i) lines deep=F/\RD N w gl gd i lines deep free wr
theorem Qm1 {N:List ae.Node}{w w2:World}{F:List Bytes×List Nat}{gl gd:Nat}(hF:F=aq.Zw (aq.opAt N) 0 N (List.replicate N.length []) (List.replicate N.length 0))(hg:ae.Qi ae.WV N.length 0 [] (ae.nL N)=true)
  (hc:(N.map aq.cost).sum<=1073741824) (hs:jU w2 gl (List.replicate N.length [])) (hi:lf w2 gd (List.replicate N.length 0)) (hne:gl≠gd) (hl:w.heap.size<=gl/\w.heap.size<=gd) (hb:Below w.heap.size w w2):FR N w F gl gd (.int .i64 0) w2:=
 ⟨0,_,_,[],rfl,hF.symm,⟨by simp,by simp,aao _,hg,(fun f h=>by cases h),fun j _ h=>by simp[h],fun k d h=>(by
  rw[List.getElem?_replicate]at h;split at h
  ·cases h;omega
  cases h),by rw[aq.Qx4,abx];exact hc,hs,hi,hne,hl,hb⟩⟩
theorem Qhz {α:Type}{l:List α}{i:Nat}{a:α}(h:l[i]?=some a):l.set i a=l:=by
 apply List.ext_getElem?;intro j;by_cases hj:j=i
 ·subst hj
  rw[ad9 (aae.1 h).1,h]
 rw[adW (fun e=>hj e.symm)]
theorem Dn {W:Int->Bytes->Bool}{n i:Nat}{free:List Nat}{x:ae.NI}{l:List ae.NI}(h:ae.Qi W n i free (x::l)=true):ae.cnt x.op x.kids.length=true/\x.kids=ae.Yb free x.kids.length/\ae.Qi W n (i+1) (free.take (free.length-x.kids.length)++[i]) l=true:=by
 unfold ae.Qi at h;split at h
 ·rename_i E
  split at h
  ·rename_i H
   refine⟨?_,H,h⟩;unfold ae.Zd at E;simp only[Bool.not_eq_true',Bool.or_eq_false_iff,Bool.not_eq_false']at E;exact E.1.1.2
  cases h
 cases h
theorem Qb0 {free:List Nat}{ks:List Nat}{i:Nat}(h:(ks.map fun k:Nat=>(k:Int))=ae.Yb free ks.length)(hf:∀f∈free,f<i):∀k∈ks,k<i:=by
 intro k I
 have E:(k:Int)∈ae.Yb free ks.length:=by rw[<-h];exact adR.2 ⟨k,I,rfl⟩
 obtain⟨f,H,J⟩:=adR.1 E;have:=hf f (adU H);omega
theorem Qwd {op n:Nat}(h:ae.cnt ((op:Nat):Int) n=true):Qv6 op n:=by
 constructor
 ·intro E
  rcases E with rfl|rfl|rfl|rfl<;>simp[ae.cnt]at h<;>omega
 intro E
 rcases E with rfl|rfl|rfl<;>simp[ae.cnt]at h<;>omega
structure AW (N:List ae.Node) (w:World) (gl gd bx i op:Nat) (ks:List Nat) (box:Obj) (lines:List Bytes) (deep:List Nat) (FS:aq.fH) (j:Nat) (ls:List Bytes) (d:Nat) (ps:List Bytes) (pv:Value) (wr:World):Prop where
 run:aq.J7 (aq.opAt N) deep op j (ks.drop j) ⟨ls,d,ps⟩=FS
 le:j<=ks.length
 len:ls.length=N.length
 pl:ps.length=j
 sb:jU wr gl ls
 ib:lf wr gd (deep.set i d)
 own:wr.ownsRow (bx+1) 9 1 pv ps.length (df ps)
 db:d<=2*i+2
 sum:aq.dr ls+aq.dr ps<=aq.dr lines+2*j
 iM:wr.heap[bx]?=some box
 kJ:Below w.heap.size w wr
theorem AW.step {N:List ae.Node}{w:World}{gl gd bx i op:Nat}{ks:List Nat}{box:Obj}{lines:List Bytes}{deep:List Nat}{FS:aq.fH}{j:Nat}{ls:List Bytes}{d:Nat}{ps:List Bytes}{pv:Value}{wr:World}
  (h:AW N w gl gd bx i op ks box lines deep FS j ls d ps pv wr) {k dk:Nat} {s:Bytes} (hk:ks[j]?=some k) (hs:ls[k]?=some s) (hd:deep[k]?=some dk) (mN:dk<=2*k+2) (GJ:k<i) (hi:i<N.length) (hl0:deep.length=N.length) (hne:gl≠gd) (fe:gl<bx) (hgd:gd<bx) (ei:w.heap.size<=gl/\w.heap.size<=gd)
  {wx w6:World} {pv6:Value} (hb:Below wr.heap.size wr wx) (hown:w6.ownsRow (bx+1) 9 1 pv6 (j+1) (df ps++[.string ⟨(ae.par (ae.Qy op j (aq.opAt N k)) s).toArray⟩]))
  (hg:(wx.alloc (.cells #[.string ⟨(ae.par (ae.Qy op j (aq.opAt N k)) s).toArray⟩] 9)).grownBy w6 pv.ownBlock):
  AW N w gl gd bx i op ks box lines deep FS (j+1) (ls.set k []) (max d (ae.ay (op==10) (ae.ay (ae.Qy op j (aq.opAt N k)) dk))) (ps++[ae.par (ae.Qy op j (aq.opAt N k)) s]) pv6
   ((w6.setCell ⟨gd,i,none⟩ (.int .i64 ((max d (ae.ay (op==10) (ae.ay (ae.Qy op j (aq.opAt N k)) dk)):Nat):Int))).setCell ⟨gl,k,none⟩ (.string ⟨#[]⟩)):=by
 have O:=(aae.1 hk).1;have K:bx<wr.heap.size:=(aal.1 h.iM).1;have I:∀q,pv.ownBlock=some q->bx+1<=q:=fun q hq=>(h.own.lt q hq).1;have T:=hb.size
 have keep:∀q,q<=bx->w6.heap[q]?=wr.heap[q]? :=fun q hq=>by rw[hg.block q (by simp;omega) (fun e=>by have:=I q e.symm;omega),(Qq wx _).block q (by omega),hb.block q (by omega)]
 have k6:∀q,q≠gl->q≠gd->((w6.setCell ⟨gd,i,none⟩ (.int .i64 ((max d (ae.ay (op==10) (ae.ay (ae.Qy op j (aq.opAt N k)) dk)):Nat):Int))).setCell ⟨gl,k,none⟩ (.string ⟨#[]⟩)).heap[q]?=w6.heap[q]? :=fun q E H=>by rw[aaX _ ⟨gl,k,none⟩ q _ E,aaX _ ⟨gd,i,none⟩ q _ H]
 refine⟨?_,?_,?_,?_,?_,?_,?_,?_,?_,?_,?_⟩
 ·rw[<-h.run]
  have e:ks.drop j=k::ks.drop (j+1):=by obtain⟨E,H⟩:=aae.1 hk;rw[aaS E,H]
  rw[e,aq.Qq8,ab3,ab3,hs,hd];rfl
 ·omega
 ·rw[ab6];exact h.len
 ·rw[aac,h.pl];rfl
 ·have E:jU w6 gl ls:=h.sb.keep (keep gl (by omega))
  have H:jU (w6.setCell ⟨gd,i,none⟩ (.int .i64 ((max d (ae.ay (op==10) (ae.ay (ae.Qy op j (aq.opAt N k)) dk)):Nat):Int))) gl ls:=E.keep (aaX _ ⟨gd,i,none⟩ gl _ hne);exact H.set k []
 ·have E:lf w6 gd (deep.set i d):=h.ib.keep (keep gd (by omega))
  have H:=E.set i (max d (ae.ay (op==10) (ae.ay (ae.Qy op j (aq.opAt N k)) dk)));rw[List.set_set]at H;exact H.keep (aaX _ ⟨gl,k,none⟩ gd _ (Ne.symm hne))
 ·have e:(ps++[ae.par (ae.Qy op j (aq.opAt N k)) s]).length=j+1:=by rw[aac,h.pl];rfl
  have e2:df (ps++[ae.par (ae.Qy op j (aq.opAt N k)) s])=df ps++[.string ⟨(ae.par (ae.Qy op j (aq.opAt N k)) s).toArray⟩]:=by simp[df]
  rw[e,e2];refine Y4 hown (aaa _) fun q hq=> ?_;have Z:=(hown.lt q hq).1;exact k6 q (by omega) (by omega)
 ·have E:ae.ay (op==10) (ae.ay (ae.Qy op j (aq.opAt N k)) dk)<=dk+2:=by
   unfold ae.ay
   split<;>split<;>omega
  have:=h.db;omega
 ·have E:=aq.Ni ls k s [] hs
  have H:=aq.J6 (ae.Qy op j (aq.opAt N k)) s;have U:=h.sum;rw[aq.Qhp]
  have J:aq.dr [ae.par (ae.Qy op j (aq.opAt N k)) s]=(ae.par (ae.Qy op j (aq.opAt N k)) s).length:=by simp[aq.dr]
  rw[J];simp only[aaG]at E;omega
 ·rw[k6 bx (by omega) (by omega),keep bx (aaa _)];exact h.iM
 have E:Below w.heap.size w w6:=by have H:=h.kJ.trans (hb.mono h.kJ.size);exact Wt (H.alloc H.size _) hg (fun q hq=>by have:=I q hq;omega)
 exact(E.setCell (p:=⟨gd,i,none⟩) ei.2 _).setCell (p:=⟨gl,k,none⟩) ei.1 _
theorem RD.next {N:List ae.Node}{w:World}{gl gd bx i op:Nat}{text:Bytes}{ks:List Nat}{box:Obj}{lines:List Bytes}{deep free:List Nat}{FS:aq.fH}{ls:List Bytes}{d:Nat}{ps:List Bytes}{pv:Value}{w0 wr w7:World}{F:List Bytes×List Nat}
  (hm:RD N w gl gd i lines deep free w0) (hF:aq.Zw (aq.opAt N) i (N.drop i) lines deep=F) (hx:N[i]?=some ⟨op,text,ks⟩) (FZ:FS=aq.J7 (aq.opAt N) deep op 0 ks ⟨lines,0,[]⟩)
  (h:AW N w gl gd bx i op ks box lines deep FS ks.length ls d ps pv wr) (hb:Below wr.heap.size wr w7) (fe:gl<bx) (hgd:gd<bx) {T:ByteArray} (hT:T=⟨(aq.X6 ⟨op,text,ks⟩ ps).toArray⟩):
  FR N w F gl gd (.int .i64 ((i+1:Nat):Int)) (w7.setCell ⟨gl,i,none⟩ (.string T)):=by
 have a4:bx<wr.heap.size:=(aal.1 h.iM).1;have U:=(aae.1 hx).1
 have E:N.drop i=⟨op,text,ks⟩::N.drop (i+1):=by obtain⟨J,h2⟩:=aae.1 hx;rw[aaS J,h2]
 have I:=h.run;rw[aaR (aaa _),aq.Qj8]at I;rw[<-I]at FZ
 have Z:(ae.nL N).drop i=ae.Node.gH ⟨op,text,ks⟩::(ae.nL N).drop (i+1):=by unfold ae.nL;rw[<-List.map_drop,<-List.map_drop,E];rfl
 have O:=hm.gr;rw[Z]at O;obtain⟨g1,g2,g3⟩:=Dn O
 have a2:i<ls.length:=by rw[h.len];exact U
 refine⟨i+1,ls.set i (aq.X6 ⟨op,text,ks⟩ ps),deep.set i d,_,rfl,?_,?_,?_,by omega,g3,?_,?_,?_,?_,?_,?_,hm.ne,hm.lo,?_⟩
 ·rw[<-hF,E,aq.Qqo]
  simp only;rw[<-FZ]
 ·rw[ab6];exact h.len
 ·rw[ab6];exact hm.d0
 ·intro f H
  rcases abZ.1 H with H|H
  ·have:=hm.fr f (adD H)
   omega
  rw[abu.1 H];omega
 ·intro j hj a1
  rw[adW (by omega)];exact hm.zero j (by omega) a1
 ·intro k e K
  by_cases GJ:k=i
  ·subst GJ
   rw[ad9 (by rw[hm.d0];exact U)]at K
   cases K
   exact h.db
  rw[adW (fun e=>GJ e.symm)]at K;exact hm.yE k e K
 ·have J:=hm.cost
  rw[E]at J;simp only[abK,adY]at J;have h2:=h.sum;have h3:=aq.Qpc ⟨op,text,ks⟩ ps;have h4:=aq.Ni ls i ls[i] (aq.X6 ⟨op,text,ks⟩ ps) (aad a2);have h5:aq.cost ⟨op,text,ks⟩=text.length+4*ks.length+7:=rfl;have h6:=h.pl;simp only at h3;omega
 ·rw[hT]
  exact jU.set (h.sb.keep (hb.block gl (by omega))) i _
 ·exact(h.ib.keep (hb.block gd (by omega))).keep (aaX _ ⟨gl,i,none⟩ gd _ (Ne.symm hm.ne))
 exact(h.kJ.trans (hb.mono h.kJ.size)).setCell (p:=⟨gl,i,none⟩) hm.lo.1 _
theorem Fu (TF:ZI)(ln:ae.Ln)(v:Value)(w:World)(B:Nat)(hwf:ln.wf)(hl:ln.size<=4096)(ht:∀x∈ae.nL ln.flat,x.text.length<=1048576)(ju:(ln.flat.map aq.cost).sum<=1073741824)(hv:eB w B v (ae.nL ln.flat))(hB:B<=w.heap.size):Calls Tryz.prog 39 #[v] w (Ra ln w):=by
 have hlen:(ae.nL ln.flat).length=ln.size:=by rw[ae.nL,aay,Nx]
 have QF:=zq (Fc TF v (ae.nL ln.flat) w B (by rw[hlen];exact hl) ht hv hB);have hgr:=ae.Gt ae.YL ln hwf;have hsz:=Nx ln;obtain⟨i0,eu,hz0,hz1,nk⟩:=abO Tryz.il;have HV:=zq hv;obtain⟨ao,cap,rfl,bq,hcm,-⟩:=hv;obtain⟨N,hN⟩:=xq ln.flat;obtain⟨n,hn⟩:=xq N.length
 have eQ:0<n:=by rw[hn,hN,hsz];cases ln<;>simp[ae.Ln.size]
 obtain⟨F,hF⟩:=xq (aq.Zw (aq.opAt N) 0 N (List.replicate N.length []) (List.replicate N.length 0))
 have vM:Hid (F.1[n-1]?=some ln.pr/\F.2[n-1]?=some ln.dp):=by obtain⟨t,h1,h2,h3⟩:=aq.Qc7 (opOf:=aq.opAt N) hwf (s:=(List.replicate N.length [],List.replicate N.length 0)) (by simp[hN,hsz]) (by simp[hN,hsz]) (by rw[<-hN];exact aq.Qmt N);rw[<-hN]at h1;have e:t=F:=h1.symm.trans hF.symm;rw[<-e,hn,hN,hsz];exact⟨h2,h3⟩
 have rj:n=ln.size:=by rw[hn,hN,hsz]
 have HNS:=zq rj;have HT:=zq ht;rw[hlen,<-rj]at QF bq ⊢;rw[<-rj]at hl;rw[<-hN]at QF hgr HV ju
 have bn:Hid (ae.Qi ae.WV n 0 [] (ae.nL N)=true):=by show _=_;rw[rj,hN];rw[hN]at hgr;exact hgr
 have HN:=zq hN;have dH:=zq hn
 have iH:Hid (eB w B (.slice ao n cap) (ae.nL N)):=by
  have h9:=HV.o
  have e9:(ae.nL N).length=n:=by rw[hN];exact hlen.trans rj.symm
  rw[e9]at h9;exact h9
 have gQ:Hid (∀(w2:World) (gl gd:Nat),jU w2 gl (List.replicate n [])->lf w2 gd (List.replicate n 0)->gl≠gd->(w.heap.size<=gl/\w.heap.size<=gd)->Below w.heap.size w w2->FR N w F gl gd (.int .i64 0) w2):=by intro w2 gl gd h1 h2 h3 h4 h5;rw[hn]at h1 h2;exact Qm1 hF (by rw[<-hn];exact bn.o) ju h1 h2 h3 h4 h5
 have abb:=run_make_row' (P:=Tryz.prog) 105 9 (.string ⟨#[]⟩) 16 Tryz.underlying105 Tryz.il rfl .i64 .i64 n (by omega) (by omega);have aba:=run_make_row' (P:=Tryz.prog) 41 3 (.int .i64 0) 8 Tryz.underlying41 Tryz.cC rfl .i64 .i64 n (by omega) (by omega);clear hn hcm hlen ht hgr hsz hN hF HV rj ju;go_enter Tryz.func39,Tryz.ntmps39;go_wp2_with fail;refine QF.o.mono ?_;rintro e w1 ⟨rfl,hb1⟩;rw[bn.o];have aC:=zq hb1;have hz1':=hb1.size;clear hb1;go_upto_region 5 with fail;go_cut [4,5] (fun lv dv wx=> ∃gl gd:Nat,lv=.slice (some ⟨gl,0,none⟩) n n/\dv=.slice (some ⟨gd,0,none⟩) n n/\Hid (FR N w F gl gd (.int .i64 0) wx))
 case first=>
  go_region
  ·go_wp2_with fail
   go_meet
   exact⟨w1.heap.size,w1.heap.size+1,rfl,rfl,gQ.o _ _ _ (by
    unfold jU;rw[<-Qxo]
    refine((Qq _ _).drew.block _ (by simp)).trans (aaz w1 _)) (by
    unfold lf;rw[<-Qqy];have:=aaz (w1.alloc (.cells (madeCells #[Value.string ⟨#[]⟩] n) 9)) (.cells (madeCells #[Value.int .i64 0] n) 3);rw[adB]at this
    exact this) (by omega) ⟨hz1',by omega⟩ (Qz aC.o (Qz (Qq _ _) (Qq _ _)).drew)⟩
  go_wp2_with fail;go_meet
  exact⟨w1.heap.size+1,w1.heap.size,rfl,rfl,gQ.o _ _ _ (by
   unfold jU;rw[<-Qxo];have:=aaz (w1.alloc (.cells (madeCells #[Value.int .i64 0] n) 3)) (.cells (madeCells #[Value.string ⟨#[]⟩] n) 9);rw[adB]at this
   exact this) (by
   unfold lf;rw[<-Qqy]
   refine((Qq _ _).drew.block _ (by simp)).trans (aaz w1 _)) (by omega) ⟨by omega,hz1'⟩ (Qz aC.o (Qz (Qq _ _) (Qq _ _)).drew)⟩
 case rest=>
  obtain⟨gl,gd,rfl,rfl,HST⟩:=hcut;clear gQ abb aba QF;go_wp2_with fail;go_loopw [6] (fun iv wr=>FR N w F gl gd iv wr) (fun iv _=>n-(intOf iv).toNat)
  case atStart=>exact HST.o
  case round=>
   obtain⟨i,lines,deep,free,rfl,hf,hm⟩:=hrel;have HM:=zq hm;have HF:=zq hf;have jb:=hm.le;rw[<-dH.o]at jb;have hzr:=hm.kJ.size;have fe:gl<wr.heap.size:=(aal.1 hm.sb).1;have hgd:gd<wr.heap.size:=(aal.1 hm.ib).1;have hne:=hm.ne;clear hf hm;by_cases hlt:i<n
   ·obtain⟨x,hx⟩:∃x,N[i]?=some x:=⟨_,aad (by rw[<-dH.o];exact hlt)⟩
    obtain⟨op,text,ks⟩:=x
    have OX:(ae.nL N)[i]?=some (ae.Node.gH ⟨op,text,ks⟩):=by rw[ae.nL,ads,hx];rfl
    have qI:text.length<=1048576:=HT.o _ (by rw[<-HN.o];exact aah OX)
    have MG:(ae.nL N).drop i=ae.Node.gH ⟨op,text,ks⟩::(ae.nL N).drop (i+1):=by obtain⟨h1,h2⟩:=aae.1 OX;rw[aaS h1,h2]
    have hgr:=HM.o.gr;rw[MG]at hgr;obtain⟨g1,g2,-⟩:=Dn hgr
    have lF:(ae.Node.gH ⟨op,text,ks⟩).kids.length=ks.length:=by show (ks.map _).length=_;rw[aay]
    rw[lF]at g1 g2;have VH:=zq (Qb0 g2 HM.o.fr);have HPI:=zq (Qwd g1);obtain⟨wI,fz,he,-,-,hc⟩:=iH.o.below (HM.o.kJ.mono hB);simp only[Value.slice.injEq]at he;obtain⟨rfl,-,rfl⟩:=he;obtain⟨gt,rfl,gN,hcell⟩:=hc (by have:=(aae.1 OX).1;omega);obtain⟨e0,e1,kv,e2,hkv⟩:=hcell i _ OX;obtain⟨ko,aj,rfl,k1,k2,k3⟩:=hkv;rw[lF]at e2 k1 k3;obtain⟨K,hK⟩:=xq ks.length;rw[<-hK]at e2 k1 k3;obtain⟨T,hT⟩:=xq (⟨text.toArray⟩:ByteArray);replace e0:wr.cell? ⟨gt,i*3,none⟩=some (.int .i64 ((op:Nat):Int)):=e0;replace e1:wr.cell? ⟨gt,i*3+1,none⟩=some (.string ⟨text.toArray⟩):=e1;rw[<-hT]at e1;have qb:=zq hT;have fU:=zq hK;have HX:=zq hx;have FL:=zq qI
    have rN:Hid (∀w5:World,(∀q,q<B->w5.heap[q]?=wr.heap[q]?)-> ∀j k,ks[j]?=some k-> ∃gk,ko=some ⟨gk,0,none⟩/\w5.cell? ⟨gk,j,none⟩=some (.int .i64 ((k:Nat):Int))):=by intro w5 h5 j k hj;obtain⟨gk,rfl,CJ,eO⟩:=k3 (by have:=(aae.1 hj).1;omega);refine⟨gk,rfl,(abG (h5 gk CJ)).trans (eO j ((k:Nat):Int) ?_)⟩;show (ks.map _)[j]?=_;rw[ads,hj];rfl
    have WG:Hid (∀w5:World,(∀q,q<B->w5.heap[q]?=wr.heap[q]?)-> ∀k,k<n->w5.cell? ⟨gt,k*3,none⟩=some (.int .i64 ((aq.opAt N k:Nat):Int))):=by
     intro w5 h5 k hk;obtain⟨y,hy⟩:∃y,N[k]?=some y:=⟨_,aad (by rw[<-dH.o];exact hk)⟩
     have hyI:(ae.nL N)[k]?=some (ae.Node.gH y):=by rw[ae.nL,ads,hy];rfl
     have h9:=(hcell k _ hyI).1
     have e9:aq.opAt N k=y.op:=by unfold aq.opAt;rw[hy]
     rw[e9];exact(abG (h5 gt gN)).trans h9
    obtain⟨FS,FZ⟩:=xq (aq.J7 (aq.opAt N) deep op 0 ks ⟨lines,0,[]⟩);have HFS:=zq FZ;obtain⟨bx,xa⟩:=xq wr.heap.size;obtain⟨box,iM⟩:∃box:Obj,box=.cells #[.int .i64 ((op:Nat):Int),.string T,.slice ko K aj] 43 (0,0):=⟨_,rfl⟩;have UD:=zq iM;obtain⟨w2,hw2⟩:∃w2,w2=(wr.alloc (.cells #[.int .i64 ((op:Nat):Int),.string T,.slice ko K aj] 43)).alloc (.cells #[] 9):=⟨_,rfl⟩
    have hb2:Below wr.heap.size wr w2:=by rw[hw2];exact Qz (Qq _ _) (Qq _ _)
    have hg2:w2.heap[bx]?=some box:=by rw[hw2,xa,iM];exact((Qq (wr.alloc (.cells #[.int .i64 ((op:Nat):Int),.string T,.slice ko K aj] 43)) (.cells #[] 9)).block _ (by simp)).trans (aaz _ _)
    have yO:=HM.o.zero i (aaa _) (by rw[<-dH.o];exact hlt)
    have MM:gl<bx:=by omega
    have hgd':gd<bx:=by omega
    have HI:Hid (AW N w gl gd bx i op ks box lines deep FS 0 lines 0 [] (.slice (some ⟨bx+1,0,none⟩) 0 0) w2):=by
     refine⟨by rw[FZ];rfl,aao _,HM.o.l0,rfl,HM.o.sb.keep (hb2.block gl fe),?_,?_,by omega,by simp[aq.dr],hg2,HM.o.kJ.trans (hb2.mono hzr)⟩
     ·rw[Qhz yO]
      exact HM.o.ib.keep (hb2.block gd hgd)
     have:=ad2 (base:=bx+1) (e:=9) (size:=1) (wr.alloc (.cells #[.int .i64 ((op:Nat):Int),.string T,.slice ko K aj] 43)) #[] 0 (by rw[xa];simp) (by unfold maxLen;omega) rfl;rw[adB,<-xa,<-hw2]at this;exact this
    have iV:=zq HM.o.yE;have rP:=zq HM.o.d0;have ju:=HM.o.cost;have ei:=HM.o.lo
    have QG:Hid (aq.dr lines<=1073741824):=by show _<=_;omega
    have hKb:K<=268435456:=by
     have hdr:N.drop i=⟨op,text,ks⟩::N.drop (i+1):=by obtain⟨h1,h2⟩:=aae.1 hx;rw[aaS h1,h2]
     rw[hdr]at ju;simp only[abK,adY]at ju;have h5:aq.cost ⟨op,text,ks⟩=text.length+4*ks.length+7:=rfl;omega
    clear hx OX qI MG hgr g1 g2 lF hc hcell k3 hT hK FZ iM hb2 hg2 yO ju;go_wp2_with fail;rw[<-hw2,<-xa];have PV:=zq xa;clear hw2 xa;obtain⟨wo,rfl⟩:=xq wr;go_loopw [8,9] (fun pv jv wr=> ∃j ls d ps,jv=.int .i64 (j:Nat)/\Hid (AW N w gl gd bx i op ks box lines deep FS j ls d ps pv wr)) (fun _ jv _=>K-(intOf jv).toNat)
    case atStart=>exact⟨0,lines,0,[],rfl,HI⟩
    case round=>
     obtain⟨j,ls,d,ps,rfl,HP⟩:=hrel;obtain⟨wj,OS⟩:=xq wr;rw[<-OS]at HP ⊢;clear OS;have hjK:=HP.o.le;rw[<-fU.o]at hjK;have BX:bx<wj.heap.size:=(aal.1 HP.o.iM).1;have hzj:=HP.o.kJ.size;have mZ:=HP.o.sum;have oK:=HP.o.db;have bA:=HP.o.iM;rw[UD.o]at bA
     have b0:wj.cell? ⟨bx,0,none⟩=some (.int .i64 ((op:Nat):Int)):=by rw[aam _ _ 0 _ _ _ bA];rfl
     have b1:wj.cell? ⟨bx,1,none⟩=some (.string T):=by rw[aam _ _ 1 _ _ _ bA];rfl
     have b2:wj.cell? ⟨bx,2,none⟩=some (.slice ko K aj):=by rw[aam _ _ 2 _ _ _ bA];rfl
     have qy:∀q,q<B->wj.heap[q]?=wo.heap[q]? :=fun q hq=>(HP.o.kJ.block q (by omega)).trans (HM.o.kJ.block q (by omega)).symm;clear bA;by_cases jA:j<K
     ·obtain⟨k,hk⟩:∃k,ks[j]?=some k:=⟨_,aad (by rw[<-fU.o];exact jA)⟩
      have GJ:=VH.o k (aah hk)
      have bh:k<n:=by omega
      obtain⟨s,hs⟩:∃s,ls[k]?=some s:=⟨_,aad (by rw[HP.o.len,<-dH.o];exact bh)⟩;obtain⟨dk,mN⟩:∃dk,deep[k]?=some dk:=⟨_,aad (by rw[rP.o,<-dH.o];exact bh)⟩;have aaF:=iV.o k dk mN;obtain⟨gk,rfl,fM⟩:=rN.o wj qy j k hk;have dA:=HP.o.sb.cell hs;have GG:=HP.o.ib.cell (i:=k) (d:=dk) (by rw[adW (by omega)];exact mN)
      have jI:s.length<=1073741824+2*K:=by have h1:=aq.Ni ls k s [] hs;have h2:=QG.o;simp only[aaG]at h1;omega
      obtain⟨S,hS⟩:=xq (⟨s.toArray⟩:ByteArray)
      have hSs:S.size<=2147483648:=by
       have:S.size=s.length:=by rw[hS];show s.toArray.size=_;simp
       omega
      rw[<-hS]at dA;obtain⟨bb,km⟩:=xq (ae.Qy op j (aq.opAt N k));obtain⟨P,hP⟩:=xq (⟨(ae.par bb s).toArray⟩:ByteArray);obtain⟨dd,hdd⟩:=xq (ae.ay (op==10) (ae.ay bb dk))
      have acy:dd<=2*k+4:=by
       rw[hdd];unfold ae.ay
       split<;>split<;>omega
      have HPT:Hid (bb=true->(⟨#[40]⟩:ByteArray)++S++⟨#[41]⟩=P):=by intro h;rw[hP,h,hS];show _=(⟨([40]++s++[41]).toArray⟩:ByteArray);rw[Yv,Yv]
      have HPF:Hid (bb=false->S=P):=by intro h;rw[hP,h,hS];rfl
      obtain⟨c10,BZ⟩:∃c,(op==10)=c:=⟨_,rfl⟩;have acg:(((op:Nat):Int)==10)=c10:=(Wa op 10).trans BZ
      have x8:Hid (dd=(if bb then dk+1 else dk)+(if c10 then 1 else 0)):=by
       show _=_;rw[hdd,BZ];unfold ae.ay
       cases bb<;>cases c10<;>rfl
      have DC:=WG.o wj qy k bh
      have uJ:Hid (∀w3,Calls Tryz.prog 77 #[.int .i64 ((op:Nat):Int),.int .i64 ((aq.opAt N k:Nat):Int),.int .i64 ((j:Nat):Int)] w3 fun e w'=>e=.returned (.bool bb)/\w'=w3):=by intro w3;have:=Ed op (aq.opAt N k) j w3;rw[<-km]at this;exact this.mono fun e w' h=>⟨h.1,h.2.symm⟩
      obtain⟨ok,aZ⟩:=xq (aq.opAt N k);rw[<-aZ]at DC uJ
      have xk:((k:Nat):Int)<((n:Nat):Int):=by omega
      have jP:=zq km;have bU:=zq b0;have HPP:=zq hP;have UT:=zq hdd;have HKQ:=zq hk;have qT:=zq hs;have HDQ:=zq mN;have vP:=zq GJ
      have aaQ:gt<wj.heap.size:=by omega
      clear hk hs mN km hP hdd hS GJ aZ BZ jI;go_wp2_with fail;go_quiet (fail);obtain⟨w4,hw4⟩:=xq (wj.drewN nq)
      have bG:Hid (Below wj.heap.size wj w4):=by show Below _ _ _;rw[hw4];exact Qs wj nq
      have a0:w4.cell? ⟨bx,0,none⟩=some (.int .i64 ((op:Nat):Int)):=(bG.o.cell (p:=⟨bx,0,none⟩) BX).trans b0;have a1:w4.cell? ⟨gt,k*3,none⟩=some (.int .i64 ((ok:Nat):Int)):=(bG.o.cell (p:=⟨gt,k*3,none⟩) aaQ).trans DC;rw[<-hw4];clear hw4 b0 b1 b2 dA GG fM DC;go_wp2_with fail;go_quiet ((go_at_call 77;exact Calls.quiet_of_same (uJ.o _)));obtain⟨w5,jd⟩:=xq (w4.drewN nq)
      have dU:Hid (Below wj.heap.size wj w5):=by show Below _ _ _;rw[jd];exact Qz bG.o (Qs w4 nq)
      have a5:w5.cell? ⟨bx,0,none⟩=some (.int .i64 ((op:Nat):Int)):=(dU.o.cell (p:=⟨bx,0,none⟩) BX).trans bU.o;rw[<-jd];clear jd a0 a1
      obtain⟨d1,tq⟩:=xq (if bb then dk+1 else dk:Nat)
      have acx:d1<=2*k+3:=by rw[tq];split<;>omega
      have PZ:=zq tq;clear tq;go_upto_if 64 with fail;go_cut [11,12] (fun sv dv wx=>sv=.string P/\dv=.int .i64 (d1:Nat)/\wx=w5)
      case first=>
       have hs1: ¬9223372036854775807<1+S.size:=by omega
       have hs2: ¬9223372036854775807<1+S.size+1:=by omega
       cases bb
       ·go_wp2_with fail
        go_meet;exact⟨by (first|rw[HPF.o]|rw[HPF.o rfl]);first|done|trivial,by rw[PZ.o];rfl,rfl⟩
       go_wp2_with fail;go_meet;exact⟨by (first|rw[HPT.o]|rw[HPT.o rfl]);first|done|trivial,by rw[PZ.o];rfl,rfl⟩
      case rest=>
       obtain⟨rfl,rfl,hwc⟩:=hcut;subst wc;go_upto_if 72 with fail;go_cut [12] (fun dv wx=>dv=.int .i64 (dd:Nat)/\wx=w5)
       case first=>
        cases c10
        ·go_wp2_with fail
         go_meet;exact⟨by rw[x8.o,PZ.o];rfl,rfl⟩
        go_wp2_with fail;go_meet;exact⟨by rw[x8.o,PZ.o];rfl,rfl⟩
       case rest=>
        obtain⟨rfl,hwc⟩:=hcut;subst wc
        have HO5:Hid (w5.ownsRow (bx+1) 9 1 u8 j (df ps)):=by have h9:=HP.o.own;rw[HP.o.pl]at h9;exact Qg h9 dU.o (by omega)
        have TJ:bx+1<=w5.heap.size:=aan BX dU.o.size;go_wp2_with (at_builtin;refine adv _ rfl _ _ 105 rfl (bx+1) 9 i0 (.string ⟨#[]⟩) 1 16 Tryz.underlying105 eu hz0 hz1 nk rfl (by decide) _ _ _ rfl (abj HO5.o _) ⟨w5.heap.size,0,none⟩ 1 1 [.string P] rfl rfl (ag.Qh _ _ _ _ rfl) (by simp[Value.oneCell']) (by unfold maxLen;omega) (by omega) (by simp;omega) ?_);intro v6 w6 cm cX _ lz;obtain⟨m,eJ⟩:=xq (max d dd)
        have hmx:max ((d:Nat):Int) ((dd:Nat):Int)=((m:Nat):Int):=by omega
        have acU:max ((d:Nat):Int) ((dd:Nat):Int)=((m:Nat):Int):=hmx
        have yq:Hid (AW N w gl gd bx i op ks box lines deep FS (j+1) (ls.set k []) m (ps++[ae.par bb s]) v6 ((w6.setCell ⟨gd,i,none⟩ (.int .i64 ((m:Nat):Int))).setCell ⟨gl,k,none⟩ (.string ⟨#[]⟩))):=by have hst:=HP.o.step (wx:=w5) (w6:=w6) (pv6:=v6) HKQ.o qT.o HDQ.o aaF vP.o (by rw[<-dH.o];exact hlt) rP.o hne MM hgd' ei dU.o;rw[<-jP.o,<-HPP.o,<-UT.o,<-eJ]at hst;exact hst cm cX
        have keep:∀q,q<=bx->w6.heap[q]?=wj.heap[q]? :=fun q hq=>by rw[cX.block q (by simp;omega) (fun e=>by have:=(HO5.o.lt q e.symm).1;omega),(Qq w5 _).block q (by omega),dU.o.block q (by omega)]
        have sl6:jU w6 gl ls:=HP.o.sb.keep (keep gl (by omega));have sd6:lf w6 gd (deep.set i d):=HP.o.ib.keep (keep gd (by omega));have x1:w6.cell? ⟨gd,i,none⟩=some (.int .i64 ((d:Nat):Int)):=sd6.cell (by rw[ad9 (by rw[rP.o,<-dH.o];exact hlt)]);have x2:w6.frozen? ⟨gd,i,none⟩=false:=sd6.eD i;obtain⟨S2,x3⟩:∃S2,w6.cell? ⟨gl,k,none⟩=some (.string S2):=⟨_,sl6.cell qT.o⟩;have x4:w6.frozen? ⟨gl,k,none⟩=false:=sl6.eD k;have tS:gd≠gl:=Ne.symm hne
        have oM:((i:Nat):Int)<((n:Nat):Int):=by omega
        clear cm cX lz keep sl6 sd6 a5 eJ;go_wp2_with fail
        exact⟨⟨j+1,_,_,_,by go_num,yq⟩,by simp[intOf]<;>omega⟩
     have ku:j=K:=by omega
     subst ku;have hpl:=HP.o.pl;have abB:=HP.o.sum
     have hWC:=Qxr op text ks (.slice ko j aj) u8 ps wj ⟨_,_,_,rfl⟩ (SS.eV HP.o.own) (by rw[hpl,fU.o];exact HPI.o) (by
      have h9:=QG.o;show aq.dr ps+_<=_
      omega) (by have:=FL.o;omega)
     obtain⟨W,hW⟩:=xq (⟨(aq.X6 ⟨op,text,ks⟩ ps).toArray⟩:ByteArray);rw[<-hW,<-qb.o]at hWC;have yw:=zq hWC
     have aR:Hid (∀w7,Below wj.heap.size wj w7->FR N w F gl gd (.int .i64 ((i+1:Nat):Int)) (w7.setCell ⟨gl,i,none⟩ (.string W))):=by
      intro w7 h7;have hp:=HP.o;rw[fU.o]at hp;exact RD.next HM.o HF.o HX.o HFS.o hp h7 MM hgd' hW
     have uZ:i<ls.length:=by rw[HP.o.len,<-dH.o];exact hlt
     obtain⟨s6,TD⟩:∃s6,ls[i]?=some s6:=⟨_,aad uZ⟩;have uQ:=zq HP.o.sb;have yr:=zq TD
     have aaN:gl<wj.heap.size:=by omega
     clear hWC hW hpl abB TD uZ;go_wp2_with fail;refine yw.o.mono ?_;rintro e w7 ⟨rfl,wU⟩;have sl7:jU w7 gl ls:=uQ.o.keep (wU.block gl aaN);obtain⟨S2,x3⟩:∃S2,w7.cell? ⟨gl,i,none⟩=some (.string S2):=⟨_,sl7.cell yr.o⟩;have x4:w7.frozen? ⟨gl,i,none⟩=false:=sl7.eD i;have Iz:=zq (aR.o w7 wU)
     have oM:((i:Nat):Int)<((n:Nat):Int):=by omega
     clear wU sl7 b0 b1 b2;go_wp2_with fail
     have hm7:n-(intOf (.int .i64 (((i:Nat):Int)+1))).toNat<n-(intOf (.int .i64 ((i:Nat):Int))).toNat:=by simp[intOf];omega
     have dc:(((i+1:Nat):Int))=((i:Nat):Int)+1:=by omega
     rw[dc]at Iz
     first|exact⟨Iz.o,hm7⟩|exact⟨by (repeat apply Exists.intro);exact⟨Iz.o,rfl⟩,hm7⟩
   have iN:i=n:=by omega
   subst iN
   have hfe:(lines,deep)=F:=by have:=HF.o;rw[aaR (by rw[<-dH.o];exact aaa _)]at this;exact this
   obtain⟨q1,q2⟩:=vM.o;rw[<-hfe]at q1 q2
   have qG:((i:Nat):Int)-1=((i-1:Nat):Int):=by omega
   obtain⟨m,eJ⟩:=xq (i-1);rw[<-eJ]at q1 q2 qG;have c1:=HM.o.sb.cell q1;have c2:=HM.o.ib.cell q2
   have u9:((m:Nat):Int)<((i:Nat):Int):=by omega
   have aD:=zq HM.o.kJ;clear q1 q2 hfe;obtain⟨T,hT⟩:=xq (⟨ln.pr.toArray⟩:ByteArray);rw[<-hT]at c1;have qb:=zq hT;clear hT eJ;by_cases hd:100<ln.dp
   ·have ja:(100:Int)<((ln.dp:Nat):Int):=by omega
    have HD:=zq hd;clear hd;go_wp2_with fail;go_ret2;unfold Ra;rw[if_pos HD.o];exact⟨rfl,aD.o⟩
   have ja: ¬(100:Int)<((ln.dp:Nat):Int):=by omega
   have HD:=zq hd;clear hd;go_wp2_with fail;go_ret2;unfold Ra;rw[if_neg HD.o,<-qb.o];exact⟨rfl,aD.o⟩
theorem Qmk {t x:Bytes}{k c:Nat}(h:aw 1 (Qx t)=.ok [(k,x,c)]):ae.cF t=(k==2 && x==t):=by unfold ae.cF;rw[h]
theorem Qmv {t:Bytes}{L:List Tok}(h:aw 1 (Qx t)=.ok L)(hl:L.length≠1):ae.cF t=false:=by
 unfold ae.cF;rw[h]
 match L,hl with
 | [],_=>rfl
 | [a],h=>exact absurd rfl h
 |a::b::l,_=>rfl
theorem Qmj {t:Bytes}{e:Nat×Nat}(h:aw 1 (Qx t)=.error e):ae.cF t=false:=by unfold ae.cF;rw[h]
theorem Qxf (s:ByteArray)(w:World)(hs:s.size<=1048576):Calls Tryz.prog 182 #[.string s] w fun e w'=>e=.returned (.bool (ae.cF s.data.toList))/\Below w.heap.size w w':=by
 obtain⟨r,hr⟩:=xq (ae.cF s.data.toList);rw[<-hr];have HR:=zq hr;clear hr;go_enter Tryz.func182,Tryz.ntmps182;go_wp2_with fail;refine(Fl s _ hs).mono ?_;rintro e w1 ⟨v,rfl,h1,h2⟩
 cases hT:aw 1 (Qx s.data.toList) with
 |error p=>
  obtain⟨c,k⟩:=p
  have HF:Hid (r=false):=by show _=_;rw[HR.o];exact Qmj hT
  have bF:=(Sv _ _ _ hT).1;have H2:=zq h2;clear h1 h2 hT;have ec:(fQ (.error (c,k)):Nat)=c:=rfl;have ek:(dY (.error (c,k)):Nat)=k:=rfl;rw[ec,ek];simp only at bF
  have fg:((k:Int)==0)=false:=by simp;omega
  clear bF;go_wp2_with fail;go_ret
  exact⟨by rw[HF.o];rfl,H2.o⟩
 |ok L=>
  have h1':w1.ownsRow w.heap.size 119 3 v L.length (Xk L):=by rw[hT]at h1;exact h1
  have H2:=zq h2;have ec:(fQ (.ok L):Nat)=0:=rfl;have ek:(dY (.ok L):Nat)=0:=rfl;rw[ec,ek];clear h1 h2;by_cases hl:L.length=1
  ·obtain⟨t,rfl⟩:∃t,L=[t]:=by
    match L,hl with
    | [t],_=>exact⟨t,rfl⟩
   obtain⟨tk,tt,tc⟩:=t;obtain⟨ao,cap,rfl,-,-,a3⟩:=Qj h1';obtain⟨g,rfl,-,-,b3⟩:=a3 (Nat.zero_lt_one);have d0:w1.cell? ⟨g,0,none⟩=some (.int .i64 (tk:Nat)):=(b3 0 (by show 0<1*3;omega)).trans rfl;have d1:w1.cell? ⟨g,1,none⟩=some (.string ⟨tt.toArray⟩):=(b3 1 (by show 1<1*3;omega)).trans rfl;have hv:=Qmk hT;obtain⟨T,GD⟩:=xq (⟨tt.toArray⟩:ByteArray)
   have bW:T.toList=tt:=by rw[GD,adT]
   rw[<-GD]at d1;obtain⟨c,hc⟩:∃c,(T.toList==s.toList)=c:=⟨_,rfl⟩
   have HF:Hid (r=((tk==2) && c)):=by show _=_;rw[HR.o,hv,<-hc,bW,adT]
   have n1:(([(tk,tt,tc)]:List Tok).length:Int)=1:=rfl;have n2:([(tk,tt,tc)]:List Tok).length=1:=rfl;rw[n2];clear hT h1' a3 b3 hv bW GD n1 n2
   cases hk:(tk==2)
   ·have QC:Hid (r=false):=by show _=_;rw[HF.o,hk];rfl
    have fg:(((tk:Nat):Int)==2)=false:=(Wa tk 2).trans hk;clear hk;go_wp2_with fail;go_ret;exact⟨by rw[QC.o];rfl,H2.o⟩
   have QC:Hid (r=c):=by show _=_;rw[HF.o,hk];rfl
   have fg:(((tk:Nat):Int)==2)=true:=(Wa tk 2).trans hk;clear hk;go_wp2_with fail;go_ret;exact⟨by rw[QC.o];rfl,H2.o⟩
  have HF:Hid (r=false):=by show _=_;rw[HR.o];exact Qmv hT hl
  obtain⟨ao,cap,rfl,-,-,-⟩:=Qj h1';obtain⟨n,hn⟩:=xq L.length;rw[<-hn]at hl ⊢
  have n1:(((n:Nat):Int)==1)=false:=by simp;omega
  clear hT h1' hl hn;go_wp2_with fail;go_ret;exact⟨by rw[HF.o];rfl,H2.o⟩
def Tw (t:Bytes):Bool:=(dY (aw 1 (Qx t))==0) && decide (0<(Ui (aw 1 (Qx t))).length)
def Qpd (t:Bytes)(w:World)(e:Ending)(w':World):Prop:=
 ∃tv so,e=.returned (.tuple #[.agg #[tv,.int .i64 0,.slice none 0 0,.slice none 0 0,.slice (some ⟨so,0,none⟩) 1 1,.bool true,.bool false,.int .i64 0],.bool (Tw t)])/\w'.ownsRow w.heap.size 119 3 tv (Ui (aw 1 (Qx t))).length (Xk (Ui (aw 1 (Qx t))))/\so<w'.heap.size/\Below w.heap.size w w'
theorem Tryz.oV:(Tryz.prog.info? 116).map (·.size)=some 8:=by kernel_rfl
theorem Cy (s:ByteArray)(w:World)(hs:s.size<=1048576):Calls Tryz.prog 84 #[.string s] w (Qpd s.data.toList w):=by
 have bt:=Qq w (.cells #[.slice none 0 0,.int .i64 0,.slice none 0 0,.slice none 0 0,.slice none 0 0,.bool false,.bool false,.int .i64 0] 116);have bS:=zq bt
 have hz0:(w.alloc (.cells #[.slice none 0 0,.int .i64 0,.slice none 0 0,.slice none 0 0,.slice none 0 0,.bool false,.bool false,.int .i64 0] 116)).heap.size=w.heap.size+1:=by simp
 have dJ:=zq (aaz w (.cells #[.slice none 0 0,.int .i64 0,.slice none 0 0,.slice none 0 0,.slice none 0 0,.bool false,.bool false,.int .i64 0] 116));have HT:=zq (Fl s (w.alloc (.cells #[.slice none 0 0,.int .i64 0,.slice none 0 0,.slice none 0 0,.slice none 0 0,.bool false,.bool false,.int .i64 0] 116)) hs);obtain⟨r,hr⟩:=xq (aw 1 (Qx s.data.toList));rw[<-hr]at HT
 have vD:Hid (Tw s.data.toList=((dY r==0) && decide (0<(Ui r).length))):=by show _=_;unfold Tw;rw[hr]
 have iW:=zq hr;clear bt hr;go_enter Tryz.func84,Tryz.ntmps84;go_wp2_with fail;refine HT.o.mono ?_;rintro e w1 ⟨tv,rfl,h1,h2⟩;obtain⟨k,hk⟩:=xq (dY r);obtain⟨n,hn⟩:=xq ((Ui r).length);rw[<-hk];rw[hz0]at h1 h2;obtain⟨ao,cap,rfl,-,-,-⟩:=Qj h1;rw[<-hn]at h1 ⊢;have H1:=zq h1;have hz1:=h2.size;rw[hz0]at hz1;have jq:=Qq w1 (.cells #[.int .u8 100,.string ⟨#[]⟩,.int .i64 0] 167)
 have hblk:(w1.alloc (.cells #[.int .u8 100,.string ⟨#[]⟩,.int .i64 0] 167)).heap[w.heap.size]?=some (.cells #[.slice none 0 0,.int .i64 0,.slice none 0 0,.slice none 0 0,.slice none 0 0,.bool false,.bool false,.int .i64 0] 116 (0,0)):=
  (jq.block w.heap.size (by omega)).trans ((h2.block w.heap.size (by omega)).trans dJ.o)
 have j5:=zq hblk
 have I8:Hid (∀cs:Array Value,cs= #[.slice ao n cap,.int .i64 0,.slice none 0 0,.slice none 0 0,.slice (some ⟨w1.heap.size,0,none⟩) 1 1,.bool true,.bool false,.int .i64 0]->Qpd s.data.toList w (.returned (.tuple #[.agg cs,.bool ((k==0) && decide (0<n))])) ((w1.alloc (.cells #[.int .u8 100,.string ⟨#[]⟩,.int .i64 0] 167)).setRow w.heap.size cs)/\((w1.alloc (.cells #[.int .u8 100,.string ⟨#[]⟩,.int .i64 0] 167)).setRow w.heap.size cs).heap[w.heap.size]?=some (.cells cs 116 (0,0))):=by
  intro cs hcs;refine⟨⟨.slice ao n cap,w1.heap.size,by rw[hcs,vD.o,<-hk,<-hn],?_,by simp,?_⟩,ae3 _ _ _ _ _ _ j5.o⟩
  ·rw[<-iW.o,<-hn]
   refine X0 (Xf (Qg H1.o jq (by omega)) fun q hq h6 h7=> ?_) (Nat.le_succ _);exact setRow_other _ _ _ _ (by omega)
  exact ae7 (bS.o.trans ((h2.mono (Nat.le_succ _)).trans (jq.mono (by omega)))) (aaa _) _
 have H3:w.heap.size<w1.heap.size:=by omega
 clear h1 h2 hz1 hblk jq hk hn;by_cases bF:k=0
 ·subst bF
  by_cases eQ:0<n
  ·have SU:decide ((0:Int)<((n:Nat):Int))=true:=abH (by omega)
   clear eQ;go_wp2_with (refine aeh (by rfl) 116 (.tmp 2) (.tmp 16) (by rfl) w.heap.size _ rfl rfl 116 _ j5.o (by exact Tryz.oV) (by rfl) (by simp[Value.oneCell']) ?_);obtain⟨q1,q2⟩:=I8.o _ rfl;refine aaI (Qc rfl _ _ w.heap.size 116 _ _ _ rfl q2 Tryz.underlying116 rfl (by kernel_rfl)) rfl ?_;exact q1
  have abf:n=0:=by omega
  subst abf;have jP:Hid (((0==0) && decide (0<0))=false):=rfl;rw[jP.o]at I8;go_wp2_with (refine aeh (by rfl) 116 (.tmp 2) (.tmp 16) (by rfl) w.heap.size _ rfl rfl 116 _ j5.o (by exact Tryz.oV) (by rfl) (by simp[Value.oneCell']) ?_);obtain⟨q1,q2⟩:=I8.o _ rfl;refine aaI (Qc rfl _ _ w.heap.size 116 _ _ _ rfl q2 Tryz.underlying116 rfl (by kernel_rfl)) rfl ?_;exact q1
 have fg:(((k:Nat):Int)==0)=false:=by simp;omega
 have jP:Hid (((k==0) && decide (0<n))=false):=by show _=_;rw[show (k==0)=false by simpa using bF];rfl
 rw[jP.o]at I8;clear bF;go_wp2_with (refine aeh (by rfl) 116 (.tmp 2) (.tmp 16) (by rfl) w.heap.size _ rfl rfl 116 _ j5.o (by exact Tryz.oV) (by rfl) (by simp[Value.oneCell']) ?_);obtain⟨q1,q2⟩:=I8.o _ rfl;refine aaI (Qc rfl _ _ w.heap.size 116 _ _ _ rfl q2 Tryz.underlying116 rfl (by kernel_rfl)) rfl ?_;exact q1
def Ij:Prop:=∀(b:Bytes) (w:World),Jl b->0<b.length->b.length<=1048576->Xi b=false->Calls Tryz.prog 149 #[.string ⟨b.toArray⟩] w fun e w'=>e=.returned (.string ⟨(ae.ar (ae.Xg b)).toArray⟩)/\Below w.heap.size w w'
def sF (t:Tok):Prop:=t.1=1->Jl t.2.1/\0<t.2.1.length/\t.2.1.length<=1048576/\Xi t.2.1=false
open aF
theorem Qft:Qd (Yx [64])=[64]:=by decide
theorem Qj7 {ds:List Nat}(hst:Qd ds=ds)(hs:∀d∈ds,d<65536):0<Vp ds 64↔64<aJ ds:=by
 unfold Vp
 match ds,hst,hs with
 | [],_,_=>simp[aJ]
 | [d],_,_=>
  simp only[aaJ,ae1,aeb,aJ,aec,adt];split
  ·constructor<;>intro h<;>omega
  split
  ·constructor<;>intro h<;>omega
  constructor<;>intro h<;>omega
 |a::b::l,hst,hs=>
  rw[if_pos (by simp)]
  have I:Qd (b::l)=b::l:=by
   have J:=(ai.Yz (a::b::l)).1;have E:=ai.Vb (a::b::l) (b::l).length (by rw[<-So,hst];rfl);obtain⟨d,H,K⟩:=E;rw[<-So,hst]at H
   have O:(b::l).getLast? =some d:=by
    rw[List.getLast?_eq_getElem?]
    simpa using H
   exact Qvb O K
  have J:=Ek I (by simp);have E:aJ (a::b::l)=a+65536*aJ (b::l):=rfl;constructor
  ·intro _;omega
  intro _;decide
theorem Qy0 (n:Nat)(v u:Value)(w:World)(hv:lY w v n)(hu:Rd w u [64]):Calls Tryz.prog 228 #[v,u] w fun e w'=> ∃c:Int,e=.returned (.int .i64 c)/\(0<c↔64<n)/\Below w.heap.size w w':=by
 obtain⟨xs,h1,hn,hl⟩:=hv;have H1:=zq h1;have HU:=zq hu;have HN:=zq hn;have dt:=zq h1.ok;clear h1 hn hu;go_enter Tryz.func228,Tryz.ntmps228;go_wp2_with fail;refine(Tx xs v _ H1.o hl).mono ?_;rintro e w1 ⟨d1,rfl,l7,hb1⟩;have pV:=zq l7;have aC:=zq hb1;clear l7 hb1;go_wp2_with fail;refine(Tx [64] u _ (HU.o.below aC.o) (by decide)).mono ?_;rintro e w2 ⟨d2,rfl,ve,hb2⟩;rw[Qft]at ve;have ou:Hid (bX w.heap.size w2 d2 [64]):=X0 ve aC.o.size;have WD:Hid (bX w.heap.size w2 d1 (Qd (Yx xs))):=Qg pV.o hb2 (aaa _);have aD:=zq (Qz aC.o hb2);clear ve hb2;go_wp2_with fail;refine(Qvw w.heap.size _ 64 d1 d2 _ WD.o ou.o).mono ?_;rintro e w3 ⟨rfl,hb3⟩
 have HC:Hid (0<Vp (Qd (Yx xs)) 64↔64<n):=by show _↔_;rw[Qj7 (Uu _) (Z8 (J9 _)),Y5,Js dt.o,HN.o]
 have aS:=zq (Qz aD.o hb3);obtain⟨c,hc⟩:=xq (Vp (Qd (Yx xs)) 64);rw[<-hc]at HC ⊢;clear hb3 hc;go_wp2_with fail;go_ret;exact⟨_,rfl,HC.o,aS.o⟩
theorem Ss (b:Bytes)(w:World)(h1:Jl b)(h2:0<b.length)(h3:b.length<=1048576)(h4:Xi b=false):Calls Tryz.prog 87 #[.string ⟨b.toArray⟩] w fun e w'=> ∃v,e=.returned (.tuple #[v,.int .i64 0])/\bM w.heap.size w' v (ae.Xg b)/\Below w.heap.size w w':=by
 have K:(⟨b.toArray⟩:ByteArray).data.toList=b:=rfl
 have I:∃c,b[0]?=some c/\Qf c=true:=by
  cases b with
  |nil=>simp at h2
  |cons c b=>
   refine⟨c,rfl,?_⟩;rcases h1 c (by simp) with h|h
   ·exact h
   exfalso;have:Xi (c::b)=true:=(Zt _).2 ⟨0,by simp,by unfold Uj;rw[h];simp⟩;rw[h4]at this;cases this
 refine(Kt ⟨b.toArray⟩ w (by show b.toArray.size<=_;simpa using h3) h1 I).mono ?_;rintro e w' h;rw[K]at h;rcases h with ⟨E,-,-⟩|⟨-,v,rfl,O,J⟩
 ·rw[h4]at E;cases E
 refine⟨v,rfl,?_,J⟩
 have H:=O.TK (aaa _) (Tu _) (by
  have:=Np (b.filter Qf);have:=aes Qf b
  omega)
 rw[Cd]at H;exact H
theorem Qde:Ij:=by intro b w h1 h2 h3 h4;have HG:=zq (Ss b w h1 h2 h3 h4);clear h1 h2 h3 h4;go_enter Tryz.func149,Tryz.ntmps149;go_wp2_with fail;refine HG.o.mono ?_;rintro e w1 ⟨v,rfl,hf,hb⟩;have HB:=zq hb;obtain⟨⟨xs,x1,x2,x3⟩,-,-⟩:=hf;have HX:=zq x1;have HV:=zq x2;clear x1 x2 hb;go_wp2_with fail;refine(Qk5 xs v _ HX.o x3).mono ?_;rintro e w2 ⟨rfl,hb2⟩;rw[HV.o];have aD:=zq (Qz HB.o hb2);clear hb2;go_wp2_with fail;go_ret;exact⟨rfl,aD.o⟩
def U9 (n:Nat):Int:=if 64<n then -1 else (n:Int)
theorem Qxn (b:Bytes)(w:World)(h1:Jl b)(h2:0<b.length)(h3:b.length<=1048576)(h4:Xi b=false):Calls Tryz.prog 229 #[.string ⟨b.toArray⟩] w fun e w'=>e=.returned (.int .i64 (U9 (ae.Xg b)))/\Below w.heap.size w w':=by
 have HG:=zq (Ss b w h1 h2 h3 h4);clear h1 h2 h3 h4;obtain⟨n,hn⟩:=xq (ae.Xg b);rw[<-hn]at HG ⊢;clear hn;go_enter Tryz.func229,Tryz.ntmps229;go_wp2_with fail;refine HG.o.mono ?_;rintro e w1 ⟨v,rfl,hf,hb⟩;have HB:=zq hb;have HF:=zq hf;have HA:=zq (Qq w1 (.cells #[.int .u64 64] 101));have hblk:ba (w1.alloc (.cells #[.int .u64 64] 101)) w1.heap.size [64]:=⟨aaz w1 _,by intro x hx;simp at hx;subst hx;unfold BB;omega⟩;have r8:=zq (hblk.whole (by simp));clear hf hb hblk;go_wp2_with fail;refine(Qy0 n v _ _ (HF.o.1.below HA.o) r8.o).mono ?_;rintro e w2 ⟨c,rfl,hc,hb2⟩;have Ik:=zq (Qz HA.o hb2);have aD:=zq (Qz HB.o Ik.o);clear hb2;by_cases qZ:64<n
 ·have hcp:decide ((0:Int)<c)=true:=abH (hc.2 qZ)
  have HS:Hid (U9 n= -1):=by show _=_;unfold U9;rw[if_pos qZ]
  clear hc qZ;go_wp2_with fail;go_ret;exact⟨by rw[HS.o];rfl,aD.o⟩
 have hcp:decide ((0:Int)<c)=false:=abC (fun h=>qZ (hc.1 h))
 have HS:Hid (U9 n=(n:Int)):=by show _=_;unfold U9;rw[if_neg qZ]
 clear hc;go_wp2_with fail;refine(Cp n v _ (HF.o.1.below Ik.o)).mono ?_;rintro e w3 ⟨v3,rfl,hf3,hb3⟩;obtain⟨⟨xs,x1,x2,x3⟩,-,x5⟩:=hf3;have aS:=zq (Qz aD.o hb3);clear hb3;obtain⟨ao,cap,rfl,-,-,aZ,aU⟩:=x1.2;by_cases h0:n=0
 ·have hl0:xs.length=0:=x5.2 h0
  rw[hl0]
  have pZ:Hid (U9 n=0):=by show _=_;rw[HS.o,h0];rfl
  clear x1 x2 x3 x5 aZ aU h0 hl0 qZ;go_wp2_with fail;go_ret;exact⟨by rw[pZ.o];rfl,aS.o⟩
 obtain⟨x,ys,rfl⟩:∃x ys,xs=x::ys:=by
  cases xs with
  |nil=>exact absurd (x5.1 rfl) h0
  |cons x ys=>exact⟨x,ys,rfl⟩
 have TI:x=n:=by
  have e:ai.val (x::ys)=x+BB*ai.val ys:=rfl;rw[x2]at e;by_cases hy:ai.val ys=0
  ·rw[hy]at e;omega
  have:BB*1<=BB*ai.val ys:=ab7 (aaa _) (by omega)
  have km:64<BB:=by unfold BB;omega
  omega
 subst TI;obtain⟨g,o,rfl,c0⟩:=aU 0 x rfl;rw[adt]at c0
 have hb0:((((x::ys).length:Nat):Int)==0)=false:=by simp;omega
 have dC:(0:Int)<(((x::ys).length:Nat):Int):=by simp
 obtain⟨ll,nR⟩:∃ll,ll=(x::ys).length:=⟨_,rfl⟩;rw[<-nR]at hb0 dC ⊢;have hw:IntKind.i64.wrap (x:Int)=(x:Int):=abL _ (by omega);clear x1 x2 x3 x5 aZ aU h0 nR;go_wp2_with fail;go_ret;exact⟨by rw[HS.o];rfl,aS.o⟩
end Go.Proofs.YtgfmiladfeoldaaGreatDoor
namespace aq
open ae ag
def gZ (c:UInt8):Bool:=aF.Qf c||c==45
def iQ:Bytes->Bytes->List Bytes->Nat->Bool->List Bytes×Nat×Bool
 | [],_,acc,r,sh=>(acc,r,sh)
 |c::t,cur,acc,r,sh=>
  if gZ c then iQ t (cur++[c]) acc r sh
  else iQ t [] (if cur=[] then acc else acc++[cur]) (if c=59 then r+1 else r) (sh||c==58)
theorem G0:∀(a t cur:Bytes) (acc:List Bytes) (r:Nat) (sh:Bool),(∀c∈a,gZ c=true)->iQ (a++t) cur acc r sh=iQ t (cur++a) acc r sh
 | [],t,cur,acc,r,sh,_=>by simp
 |c::a,t,cur,acc,r,sh,h=>by
  rw[adV]
  conv=>lhs;unfold iQ
  rw[if_pos (h c (by simp)),G0 a t (cur++[c]) acc r sh fun d hd=>h d (by simp[hd])];simp
theorem Py {d:UInt8}(hd:gZ d=false)(t cur:Bytes)(acc:List Bytes)(r:Nat)(sh:Bool):iQ (d::t) cur acc r sh=iQ t [] (if cur=[] then acc else acc++[cur]) (if d=59 then r+1 else r) (sh||d==58):=by
 conv=>lhs;unfold iQ
 rw[if_neg (by rw[hd];decide)]
def RQ (a:Bytes):Prop:=a≠[]/\ ∀c∈a,gZ c=true
theorem YQ {d:UInt8}(hd:gZ d=false):∀(l:List Bytes) (t:Bytes) (acc:List Bytes) (r:Nat) (sh:Bool),l≠[]->(∀a∈l,RQ a)->iQ (Qb [32] l++d::t) [] acc r sh=iQ t [] (acc++l) (if d=59 then r+1 else r) (sh||d==58)
 | [],_,_,_,_,h,_=>absurd rfl h
 | [a],t,acc,r,sh,_,h=>by
  obtain⟨h1,h2⟩:=h a (by simp);show iQ (a++d::t) [] acc r sh=_
  rw[G0 a (d::t) [] acc r sh h2,Py hd,adz,if_neg h1]
 |a::b::l,t,acc,r,sh,_,h=>by
  obtain⟨h1,h2⟩:=h a (by simp)
  have e:Qb [32] (a::b::l)++d::t=a++(32::(Qb [32] (b::l)++d::t)):=by show a++[32]++Qb [32] (b::l)++d::t=_;simp
  rw[e,G0 a _ [] acc r sh h2,Py (by decide),adz,if_neg h1,if_neg (by decide)]
  rw[show (sh||(32:UInt8)==58)=sh from by cases sh<;>decide]
  rw[YQ hd (b::l) t (acc++[a]) r sh (by simp) fun x hx=>h x (by simp[hx])];simp
theorem Qko:∀(R:List (List Bytes)) (acc:List Bytes) (r:Nat) (sh:Bool),R≠[]->(∀l∈R,l≠[]/\ ∀a∈l,RQ a)->iQ (Qb [59,32] (R.map (Qb [32]))++[93]) [] acc r sh=(acc++R.flatten,r+R.length-1,sh)
 | [],_,_,_,h,_=>absurd rfl h
 | [l],acc,r,sh,_,h=>by
  obtain⟨h1,h2⟩:=h l (by simp);show iQ (Qb [32] l++93::[]) [] acc r sh=_;rw[YQ (by decide) l [] acc r sh h1 h2,if_neg (by decide)];unfold iQ
  simp
 |l::m::R,acc,r,sh,_,h=>by
  obtain⟨h1,h2⟩:=h l (by simp)
  have e:Qb [59,32] ((l::m::R).map (Qb [32]))++[93]=Qb [32] l++59::(32::(Qb [59,32] ((m::R).map (Qb [32]))++[93])):=by show Qb [32] l++[59,32]++Qb [59,32] ((m::R).map (Qb [32]))++[93]=_;simp
  rw[e,YQ (by decide) l _ acc r sh h1 h2,if_pos rfl,Py (by decide),if_pos rfl,if_neg (by decide)]
  rw[show ((sh||(59:UInt8)==58)||(32:UInt8)==58)=sh from by cases sh<;>decide]
  rw[Qko (m::R) (acc++l) (r+1) sh (by simp) fun x hx=>h x (by simp[hx])];simp only[aeR,aaf,aar,Prod.mk.injEq,true_and,and_true];omega
theorem U1 (n:Nat):RQ (ar n):=⟨Tp n,fun c hc=>by
 unfold gZ;rw[Zi n c hc]
 rfl⟩
theorem Qw1 (p:Bool×Nat):RQ (bg p):=by
 obtain⟨E,H⟩:=U1 p.2;unfold bg;refine⟨?_,fun c hc=> ?_⟩
 ·intro h
  exact E (List.append_eq_nil_iff.1 h).2
 rcases abZ.1 hc with h|h
 ·cases hb:p.1 with
  |true=>
   rw[hb]at h;simp at h;subst h
   rfl
  |false=>rw[hb]at h;simp at h
 exact H c h
theorem Qdq {m:cn}(hm:Ue m):iQ (bB m).tail [] [] 1 false=if m.at_=[] then ([ar m.rows,ar m.aB],1,true) else (m.at_.map bg,m.rows,false):=by
 unfold bB;by_cases h0:m.at_=[]
 ·rw[if_pos h0,if_pos h0]
  show iQ (ar m.rows++[58]++ar m.aB++[93]) [] [] 1 false=_
  have e:ar m.rows++[58]++ar m.aB++[93]=ar m.rows++58::(ar m.aB++93::[]):=by simp
  rw[e,G0 _ _ _ _ _ _ (U1 m.rows).2,Py (by decide),adz,if_neg (U1 m.rows).1,if_neg (by decide),G0 _ _ _ _ _ _ (U1 m.aB).2,Py (by decide),adz,if_neg (U1 m.aB).1,if_neg (by decide)];unfold iQ;rfl
 rw[if_neg h0,if_neg h0];obtain⟨O,T,H,-⟩:=hm;have K:0<m.at_.length:=adJ.2 h0
 have U:m.rows≠0:=fun h=>by rw[h,aeD]at H;omega
 have I:m.aB≠0:=fun h=>by rw[h,aec]at H;omega
 have J:(m.at_.map bg).length=m.rows*m.aB:=by rw[aay,H]
 obtain⟨k1,k2⟩:=ae.Jn m.aB m.rows (m.at_.map bg) J
 have kl:(Xq m.aB m.rows (m.at_.map bg)).length=m.rows:=by
  have:=aa7 List.length k1
  simpa using this
 show iQ (Qb [59,32] ((Xq m.aB m.rows (m.at_.map bg)).map (Qb [32]))++[93]) [] [] 1 false=_;rw[Qko _ _ _ _ (fun h=>by rw[h]at kl;simp at kl;omega) fun l hl'=> ?_,k2,kl]
 ·rw[adz]
  simp only[Prod.mk.injEq,true_and,and_true];omega
 refine⟨fun h=> ?_,fun a ha=> ?_⟩
 ·have E:l.length∈(Xq m.aB m.rows (m.at_.map bg)).map List.length:=adR.2 ⟨l,hl',rfl⟩
  rw[k1]at E;have:=(aev.1 E).2;rw[h]at this;exact I this.symm
 have:=ae.Uz m.aB m.rows (m.at_.map bg) l hl' a ha;obtain⟨p,-,rfl⟩:=adR.1 this;exact Qw1 p
theorem Mu:∀(t cur:Bytes) (acc:List Bytes) (r:Nat) (sh:Bool),acc<+:(iQ t cur acc r sh).1
 | [],cur,acc,r,sh=>List.prefix_refl acc
 |c::t,cur,acc,r,sh=>by
  unfold iQ;split
  ·exact Mu t _ acc r sh
  refine List.IsPrefix.trans ?_ (Mu t [] _ _ _);split
  ·exact List.prefix_refl acc
  exact List.prefix_append acc _
def From (L:List Tok)(p:Bool×Nat):Prop:=p.2=0\/ ∃t∈L,t.1=1/\p.2=Xg t.2.1
def uR (L:List Tok)(s:St):Prop:=∀t∈s.ts,t∈L
theorem uR.aW {L:List Tok}{s:St}(h:uR L s):uR L s.aW:=fun t ht=>h t (List.mem_of_mem_tail ht)
theorem Qqe {fin n:Nat}{L:List Tok}{s s':St}(hs:uR L s)(h:Qa fin s=some (.ok (n,s')))(b:Bool):From L (b,n)/\uR L s':=by
 unfold Qa at h;by_cases hk:Qm 1 s.ts=true
 ·rw[if_pos hk]at h
  cases h
  refine⟨.inr ?_,hs.aW⟩
  cases dm:s.ts with
  |nil=>rw[dm]at hk;cases hk
  |cons t l=>rw[dm]at hk;refine⟨t,hs t (by rw[dm];simp),by simpa [Qm] using hk,rfl⟩
 rw[if_neg hk]at h
 cases h
theorem Rs (fin:Nat)(L:List Tok):∀(f n:Nat) (acc:List (Bool×Nat)) (s:St) (r:(Nat×List (Bool×Nat))×St),uR L s->(∀p∈acc,From L p)->Qt fin f n acc s=some (.ok r)->(∀p∈r.1.2,From L p)/\uR L r.2
 |0,_,_,_,_,_,_,h=>by cases h
 |f+1,n,acc,s,r,hs,ha,h=>by
  unfold Qt at h;split at h
  ·obtain⟨m,s',h1,h2⟩:=Q7 h
   obtain⟨k1,k2⟩:=Qqe (L:=L) (by split;exact hs.aW;exact hs) h1 (Qv [45] s.ts && decide (0<m));refine Rs fin L f _ _ _ _ k2 (fun p E=> ?_) h2;rcases abZ.1 E with E|E
   ·exact ha p E
   rw[abu.1 E];exact k1
  unfold ret at h
  cases h
  exact⟨ha,hs⟩
theorem Pe (fin:Nat)(L:List Tok):∀(f:Nat) (acc:List (Bool×Nat)) (lens:List Nat) (s:St) (r:(List (Bool×Nat)×List Nat)×St),uR L s->(∀p∈acc,From L p)->entries fin f acc lens s=some (.ok r)-> ∀p∈r.1.1,From L p
 |0,_,_,_,_,_,_,h=>by cases h
 |f+1,acc,lens,s,r,hs,ha,h=>by
  unfold entries at h;obtain⟨q,s1,h1,h2⟩:=Q7 h;obtain⟨k1,k2⟩:=Rs fin L f _ _ _ _ hs ha h1;split at h2
  ·cases h2
   exact k1
  obtain⟨u,s2,E,H⟩:=Q7 h2;unfold want at E;split at E
  ·cases E
   exact Pe fin L f _ _ _ _ k2.aW k1 H
  cases E
theorem Qql {fin f:Nat}{s:St}{r:cn×St}(h:Xl fin f s=some (.ok r)):∀p∈r.1.at_,From s.ts p:=by
 unfold Xl at h;obtain⟨u,s1,I,J⟩:=Q7 h
 have hi:uR s.ts s1:=by
  unfold want at I;split at I
  ·cases I
   exact uR.aW fun t ht=>ht
  cases I
 split at J
 ·unfold Jv at J
  obtain⟨a,s2,O,E⟩:=Q7 J;obtain⟨b,s3,T,U⟩:=Q7 E;obtain⟨c,s4,h7,Z⟩:=Q7 U;obtain⟨d,s5,h9,H⟩:=Q7 Z;split at H
  ·cases H
  cases H
  intro p K;exact .inl (by rw[(aev.1 K).2])
 obtain⟨a,s2,O,E⟩:=Q7 J;have T:=Pe fin s.ts f _ _ _ _ hi (fun p K=>by cases K) O;unfold Yc at E;split at E
 ·cases E
 split at E
 ·cases E
 cases E
 exact T
end aq
namespace Go.Proofs.YtgfmiladfeoldaaGreatDoor
open Go.RowKit ag aF ai
theorem Qxd (n:Nat)(w:World)(hl:(ae.ar n).length<=1048576):Calls Tryz.prog 230 #[.string ⟨(ae.ar n).toArray⟩] w fun e w'=> ∃v,e=.returned (.tuple #[v,.int .i64 0])/\bM w.heap.size w' v n/\Below w.heap.size w w':=by
 obtain⟨T,hT⟩:=xq (⟨(ae.ar n).toArray⟩:ByteArray)
 have bW:T.data.toList=ae.ar n:=by rw[hT]
 have hsz:T.size<=1048576:=by rw[abg,bW];exact hl
 have hne:T.toList.isEmpty=false:=by
  cases h:T.toList.isEmpty with
  |false=>rfl
  |true=>have h1:T.toList=[]:=List.isEmpty_iff.1 h;rw[adT,bW]at h1;exact absurd h1 (ae.Tp n)
 have hd:∀c∈T.data.toList,Qf c=true:=by rw[bW];exact ae.Zi n
 have HR:=zq (fun w5=>Qxc T w5 hsz hne hd)
 have HV:Hid (∀(w5 w6:World) v,jn w5.heap.size w6 v (Jx (Qd (gG T.data.toList)))->bM w5.heap.size w6 v n):=by
  intro w5 w6 v h
  have h6:=h.TK (aaa _) (Tu _) (by
   have:=Np T.data.toList;rw[bW]at this ⊢
   omega)
  rw[Cd,bW]at h6
  have e:ai.aN (ag.aO (ae.ar n))=n:=by have h7:=ae.T0 n;unfold ae.Xg at h7;rw[List.filter_eq_self.2 (ae.Zi n)]at h7;exact h7
  rw[e]at h6;exact h6
 rw[<-hT];clear hT bW hsz hne hd;go_enter Tryz.func230,Tryz.ntmps230;go_wp2_with fail;refine(HR.o _).mono ?_;rintro e w1 ⟨v,rfl,hf,hb⟩;have HF:=zq (HV.o _ _ _ hf);have HB:=zq hb;clear hf hb;go_wp2_with fail;go_ret2;exact⟨v,rfl,HF.o,HB.o⟩
theorem Ao (T:ByteArray)(b:UInt8)(l:Bytes)(h:T.data.toList=b::l):∃h0:0<T.size,(T[0]'h0)=b:=by
 have E:0<T.size:=by rw[abg,h];simp
 refine⟨E,?_⟩;have e:T.data.toList[0]'(by rw[h];simp)=T[0]'E:=rfl;rw[<-e];simp[h]
theorem Qbu (T:ByteArray):T.extract 0 T.size=T:=by apply ByteArray.ext;apply Array.ext';rw[Lib.extract_eq,abg];simp only[adq];exact aat (by simp)
theorem Qbl (T D:ByteArray)(b:UInt8)(h:T.data.toList=b::D.data.toList):T.extract 1 T.size=D:=by apply ByteArray.ext;apply Array.ext';rw[Lib.extract_eq,abg,h];simp only[List.drop_succ_cons,adq];exact aat (by simp)
theorem Qvy (neg:Bool)(n:Nat)(w:World)(hld:(ae.ar n).length<=1048576)(hp:neg=true->n≠0):Calls Tryz.prog 198 #[.string ⟨(ae.bg (neg,n)).toArray⟩] w fun e w'=> ∃v,e=.returned (.tuple #[.agg #[.bool neg,v],.int .i64 0])/\bM w.heap.size w' v n/\Below w.heap.size w w':=by
 obtain⟨D,hD⟩:=xq (⟨(ae.ar n).toArray⟩:ByteArray)
 have hDl:D.data.toList=ae.ar n:=by rw[hD]
 have HR:=zq (fun w5=>Qxd n w5 hld);rw[<-hD]at HR;have bt:=Qq w (.cells #[.bool false,.slice none 0 0] 62);have bS:=zq bt;have dJ:=zq (aaz w (.cells #[.bool false,.slice none 0 0] 62))
 have fj:(neg && decide (0<n))=neg:=by
  cases neg with
  |false=>rfl
  |true=>have:=hp rfl;simp;omega
 have VR:Hid (∀(v:Value) (w5:World),lY w5 v n->Calls Tryz.prog 193 #[.bool neg,v] w5 fun e w'=> ∃v',e=.returned (.agg #[.bool neg,v'])/\bM w5.heap.size w' v' n/\Below w5.heap.size w5 w'):=by intro v w5 h5;have h6:=Qxb neg n v w5 h5;rw[fj]at h6;exact h6
 clear bt fj
 have aR:Hid (∀(w1 w2:World) (v2:Value),Below (w.alloc (.cells #[.bool false,.slice none 0 0] 62)).heap.size (w.alloc (.cells #[.bool false,.slice none 0 0] 62)) w1->Below w1.heap.size w1 w2->bM w1.heap.size w2 v2 n->((w2.setCell ⟨w.heap.size,0,none⟩ (.bool neg)).setCell ⟨w.heap.size,1,none⟩ v2).heap[w.heap.size]?=some (.cells #[.bool neg,v2] 62 (0,0))/\bM w.heap.size ((w2.setCell ⟨w.heap.size,0,none⟩ (.bool neg)).setCell ⟨w.heap.size,1,none⟩ v2) v2 n/\Below w.heap.size w ((w2.setCell ⟨w.heap.size,0,none⟩ (.bool neg)).setCell ⟨w.heap.size,1,none⟩ v2)):=by intro w1 w2 v2 h1 h2 hf;have hz1:=h1.size;rw[adB]at hz1;have hz2:=h2.size;have hblk:w2.heap[w.heap.size]?=some (.cells #[.bool false,.slice none 0 0] 62 (0,0)):=(h2.block w.heap.size (by omega)).trans ((h1.block w.heap.size (by simp)).trans dJ.o);have hs1:=aas w2 w.heap.size 0 _ _ (.bool neg) hblk;have hs2:=aas _ w.heap.size 1 _ _ v2 hs1;refine⟨hs2.trans (by simp),bM.mono (bM.set (bM.set hf (by omega) 0 _) (by omega) 1 _) (by omega),?_⟩;have py:Below w.heap.size w w2:=Qz bS.o (Qz h1 h2);exact(py.setCell (p:=⟨w.heap.size,0,none⟩) (aaa _) _).setCell (p:=⟨w.heap.size,1,none⟩) (aaa _) _
 obtain⟨T,hT⟩:=xq (⟨(ae.bg (neg,n)).toArray⟩:ByteArray)
 have bW:T.data.toList=(if neg then [45] else [])++D.data.toList:=by rw[hT,hDl];rfl
 have fL:T.size<=1048577:=by
  rw[abg,bW,aac,hDl]
  cases neg<;>simp<;>omega
 rw[<-hT];clear hT hld
 cases neg with
 |true=>
  have BP:T.data.toList=45::D.data.toList:=by rw[bW];rfl
  obtain⟨hs0,hb0⟩:=Ao T 45 _ BP;have hx:=Qbl T D 45 BP
  have oJ:(T[0]'hs0).toNat=45:=by rw[hb0];rfl
  have hs1:1<=T.size:=hs0;clear bW BP hb0 hD hDl hp;go_enter Tryz.func198,Tryz.ntmps198;go_wp2_with fail;refine(HR.o _).mono ?_;rintro e w1 ⟨v1,rfl,tz,hb1⟩;have vN:=zq tz;have aC:=zq hb1;obtain⟨iZ,L1,cO,rfl,-⟩:=tz.val;clear tz hb1;go_wp2_with fail;refine(VR.o _ _ vN.o.1).mono ?_;rintro e w2 ⟨v2,rfl,hf2,hb2⟩;obtain⟨wI,L2,fz,rfl,-⟩:=hf2.val;have aD:=zq hb2;have hblk:w2.heap[w.heap.size]?=some (.cells #[.bool false,.slice none 0 0] 62 (0,0)):=(hb2.block w.heap.size (by have:=aC.o.size;rw[adB]at this;omega)).trans ((aC.o.block w.heap.size (by simp)).trans dJ.o);have HX:=zq (aR.o w1 w2 _ aC.o aD.o hf2);have e0:w2.cell? ⟨w.heap.size,0,none⟩=some (.bool false):=(aam w2 _ _ _ _ _ hblk).trans rfl;have e1:w2.cell? ⟨w.heap.size,1,none⟩=some (.slice none 0 0):=(aam w2 _ _ _ _ _ hblk).trans rfl;have f0:w2.frozen? ⟨w.heap.size,0,none⟩=false:=aaH w2 _ 0 _ _ hblk;have f1:w2.frozen? ⟨w.heap.size,1,none⟩=false:=aaH w2 _ 1 _ _ hblk;clear hf2 hb2 hblk;go_wp2_with fail;refine aaI (Qc rfl _ _ w.heap.size 62 _ _ _ rfl HX.o.1 Tryz.underlying62 rfl (by kernel_rfl)) rfl ?_
  exact⟨_,rfl,HX.o.2.1,HX.o.2.2⟩
 |false=>
  obtain⟨b0,l0,hbl⟩:∃b l,ae.ar n=b::l:=by
   cases h:ae.ar n with
   |nil=>exact absurd h (ae.Tp n)
   |cons b l=>exact⟨b,l,rfl⟩
  have hTD:T.data.toList=D.data.toList:=by rw[bW];rfl
  have GF:T=D:=by apply ByteArray.ext;apply Array.ext';exact hTD
  have hT0:T.data.toList=b0::l0:=by rw[hTD,hDl,hbl]
  obtain⟨hs0,hb0⟩:=Ao T b0 _ hT0
  have hx:T.extract 0 T.size=D:=by rw[Qbu,GF]
  have dO:Qf b0=true:=ae.Zi n b0 (by rw[hbl];simp)
  obtain⟨d,tq,ja⟩:∃d:Nat,(T[0]'hs0).toNat=d/\48<=d/\d<=57:=by refine⟨_,rfl,?_⟩;rw[hb0];simp[Qf]at dO;omega
  obtain⟨ja,hd3⟩:=ja
  have n43:(((d:Nat):Int)==43)=false:=by
   have h:((d:Nat):Int)≠43:=by omega
   simpa using h
  have n45:(((d:Nat):Int)==45)=false:=by
   have h:((d:Nat):Int)≠45:=by omega
   simpa using h
  have n226:(((d:Nat):Int)==226)=false:=by
   have h:((d:Nat):Int)≠226:=by omega
   simpa using h
  clear bW hTD GF hT0 hb0 dO hbl hD hDl hp;go_enter Tryz.func198,Tryz.ntmps198;by_cases h2:2<T.size
  ·have h2':(2:Int)<((T.size:Nat):Int):=by omega
   go_wp2_with fail;refine(HR.o _).mono ?_;rintro e w1 ⟨v1,rfl,tz,hb1⟩;have vN:=zq tz;have aC:=zq hb1;obtain⟨iZ,L1,cO,rfl,-⟩:=tz.val;clear tz hb1;go_wp2_with fail;refine(VR.o _ _ vN.o.1).mono ?_;rintro e w2 ⟨v2,rfl,hf2,hb2⟩;obtain⟨wI,L2,fz,rfl,-⟩:=hf2.val;have aD:=zq hb2;have hblk:w2.heap[w.heap.size]?=some (.cells #[.bool false,.slice none 0 0] 62 (0,0)):=(hb2.block w.heap.size (by have:=aC.o.size;rw[adB]at this;omega)).trans ((aC.o.block w.heap.size (by simp)).trans dJ.o);have HX:=zq (aR.o w1 w2 _ aC.o aD.o hf2);have e0:w2.cell? ⟨w.heap.size,0,none⟩=some (.bool false):=(aam w2 _ _ _ _ _ hblk).trans rfl;have e1:w2.cell? ⟨w.heap.size,1,none⟩=some (.slice none 0 0):=(aam w2 _ _ _ _ _ hblk).trans rfl;have f0:w2.frozen? ⟨w.heap.size,0,none⟩=false:=aaH w2 _ 0 _ _ hblk;have f1:w2.frozen? ⟨w.heap.size,1,none⟩=false:=aaH w2 _ 1 _ _ hblk;clear hf2 hb2 hblk;go_wp2_with fail;refine aaI (Qc rfl _ _ w.heap.size 62 _ _ _ rfl HX.o.1 Tryz.underlying62 rfl (by kernel_rfl)) rfl ?_;exact⟨_,rfl,HX.o.2.1,HX.o.2.2⟩
  have h2': ¬(2:Int)<((T.size:Nat):Int):=by omega
  go_wp2_with fail;refine(HR.o _).mono ?_;rintro e w1 ⟨v1,rfl,tz,hb1⟩;have vN:=zq tz;have aC:=zq hb1;obtain⟨iZ,L1,cO,rfl,-⟩:=tz.val;clear tz hb1;go_wp2_with fail;refine(VR.o _ _ vN.o.1).mono ?_;rintro e w2 ⟨v2,rfl,hf2,hb2⟩;obtain⟨wI,L2,fz,rfl,-⟩:=hf2.val;have aD:=zq hb2;have hblk:w2.heap[w.heap.size]?=some (.cells #[.bool false,.slice none 0 0] 62 (0,0)):=(hb2.block w.heap.size (by have:=aC.o.size;rw[adB]at this;omega)).trans ((aC.o.block w.heap.size (by simp)).trans dJ.o);have HX:=zq (aR.o w1 w2 _ aC.o aD.o hf2);have e0:w2.cell? ⟨w.heap.size,0,none⟩=some (.bool false):=(aam w2 _ _ _ _ _ hblk).trans rfl;have e1:w2.cell? ⟨w.heap.size,1,none⟩=some (.slice none 0 0):=(aam w2 _ _ _ _ _ hblk).trans rfl;have f0:w2.frozen? ⟨w.heap.size,0,none⟩=false:=aaH w2 _ 0 _ _ hblk;have f1:w2.frozen? ⟨w.heap.size,1,none⟩=false:=aaH w2 _ 1 _ _ hblk;clear hf2 hb2 hblk;go_wp2_with fail;refine aaI (Qc rfl _ _ w.heap.size 62 _ _ _ rfl HX.o.1 Tryz.underlying62 rfl (by kernel_rfl)) rfl ?_;exact⟨_,rfl,HX.o.2.1,HX.o.2.2⟩
theorem Qpj:∀(l:List Nat),2<=(ai.Qw l).length->65536<=aJ (ai.Qw l):=by
 intro l h;rcases (ai.Qw l).eq_nil_or_concat with e|⟨a,d,e⟩
 ·rw[e]at h;simp at h
 rw[List.concat_eq_append]at e
 have K:d≠0:=by
  have e2:Qd l=a++[d]:=e;unfold Qd at e2
  have e3:l.reverse.dropWhile (· ==0)=d::a.reverse:=by
   have:=aa7 List.reverse e2
   simpa using this
  intro H;have E:=List.head?_dropWhile_not (fun x:Nat=>x==0) l.reverse;rw[e3]at E;simp at E;exact E H
 rw[e]at h ⊢;rw[Ve]
 have I:1<=a.length:=by rw[aac,aaJ]at h;omega
 have O:65536^1<=65536^a.length:=adE (by decide) I
 have J:aJ [d]=d:=by simp[aJ]
 rw[J];have:65536^a.length*1<=65536^a.length*d:=ab7 (aaa _) (by omega);omega
theorem Qjd {B n:Nat}{w:World}{v:Value}{ds:List Nat}(h:jn B w v (Jx (Qd (Qd ds))))(hn:aJ (Qd ds)=n):n<=64->lenOf v<=1:=by
 intro K;obtain⟨ao,J,rfl,-⟩:=Qj h;show (Jx (Qd (Qd ds))).length<=1
 have E:(Qd (Qd ds)).length<=1:=by
  by_cases h2:2<=(Qd (Qd ds)).length
  ·have H:=Qpj (Qd ds) h2
   have I:aJ (ai.Qw (Qd ds))=aJ (Qd ds):=Y5 (Qd ds);rw[I,hn]at H;omega
  omega
 match hs:Qd (Qd ds),E with
 | [],_=>decide
 | [d],_=>show (Kc 1 [d]).length<=1;simp[Kc]
theorem Qvk (n:Nat)(v:Value)(w:World)(hv:lY w v n):Calls Tryz.prog 88 #[v] w fun e w'=> ∃v',e=.returned v'/\bM w.heap.size w' v' n/\(n<=64->lenOf v'<=1)/\Below w.heap.size w w':=by obtain⟨xs,hr,hn,hl⟩:=hv;have HV:=zq hr;have dt:=zq hr.ok;have HN:=zq hn;clear hr hn;go_enter Tryz.func88,Tryz.ntmps88;go_wp2_with fail;refine(Tx xs v _ HV.o hl).mono ?_;rintro e w1 ⟨d1,rfl,l7,hb1⟩;have pV:=zq l7;have aC:=zq hb1;clear l7 hb1;have hsm:=Z8 (J9 xs);have fh:=M9 (Yx xs);rw[Tt]at fh;go_wp2_with fail;refine(Gl w.heap.size (Qd (Yx xs)) _ _ pV.o hsm (by omega)).mono ?_;rintro e w2 ⟨v2,rfl,ve,hb2⟩;have hlen:=Qjd ve (by rw[Y5,Js dt.o,HN.o]);have HLEN:=zq hlen;have h3:=ve.TK aC.o.size hsm (by omega);rw[Y5,Js dt.o,HN.o]at h3;have HF:=zq h3;have aD:=zq (Qz aC.o hb2);clear ve hb2 h3 hlen;go_wp2_with fail;go_ret;exact⟨_,rfl,HF.o,HLEN.o,aD.o⟩
theorem Qy3 (neg:Bool)(n:Nat)(v:Value)(w:World)(hv:lY w v n):Calls Tryz.prog 193 #[.bool neg,v] w fun e w'=> ∃v',e=.returned (.agg #[.bool (neg && decide (0<n)),v'])/\bM w.heap.size w' v' n/\(n<=64->lenOf v'<=1)/\Below w.heap.size w w':=by
 have bt:=Qq w (.cells #[.bool false,.slice none 0 0] 62);have bS:=zq bt;have HL:=zq (Qvk n v _ (hv.below bt));have dJ:=zq (aaz w (.cells #[.bool false,.slice none 0 0] 62));clear hv bt;go_enter Tryz.func193,Tryz.ntmps193;go_wp2_with fail;refine HL.o.mono ?_;rintro e w1 ⟨v1,rfl,hf,hlen,hb⟩;have hz1:=hb.size;rw[adB]at hz1;have hblk:w1.heap[w.heap.size]?=some (.cells #[.bool false,.slice none 0 0] 62 (0,0)):=(hb.block w.heap.size (by simp)).trans dJ.o;obtain⟨ao,L,cap,rfl,hL⟩:=hf.val;have HF:=zq hf;have HLEN:Hid (n<=64->L<=1):=hlen;have HB:=zq hb;have j5:=zq hblk;have e0:w1.cell? ⟨w.heap.size,0,none⟩=some (.bool false):=(aam w1 _ _ _ _ _ hblk).trans rfl;have e1:w1.cell? ⟨w.heap.size,1,none⟩=some (.slice none 0 0):=(aam w1 _ _ _ _ _ hblk).trans rfl;have f0:w1.frozen? ⟨w.heap.size,0,none⟩=false:=aaH w1 _ 0 _ _ hblk;have f1:w1.frozen? ⟨w.heap.size,1,none⟩=false:=aaH w1 _ 1 _ _ hblk
 have aR:Hid (∀b:Bool,bM w.heap.size ((w1.setCell ⟨w.heap.size,0,none⟩ (.bool b)).setCell ⟨w.heap.size,1,none⟩ (.slice ao L cap)) (.slice ao L cap) n/\Below w.heap.size w ((w1.setCell ⟨w.heap.size,0,none⟩ (.bool b)).setCell ⟨w.heap.size,1,none⟩ (.slice ao L cap))/\((w1.setCell ⟨w.heap.size,0,none⟩ (.bool b)).setCell ⟨w.heap.size,1,none⟩ (.slice ao L cap)).heap[w.heap.size]?=some (.cells #[.bool b,.slice ao L cap] 62 (0,0))):=by
  intro b
  have hlt:w.heap.size<(w.alloc (.cells #[.bool false,.slice none 0 0] 62)).heap.size:=by simp
  refine⟨bM.mono (bM.set (bM.set HF.o hlt 0 _) hlt 1 _) (abD hlt),?_,?_⟩
  ·have hr:Wr w.heap.size none w1 ((w1.setCell ⟨w.heap.size,0,none⟩ (.bool b)).setCell ⟨w.heap.size,1,none⟩ (.slice ao L cap)):=(Wr.aI w1 0 _).trans (Mv.refl _ _) (Wr.aI _ 1 _)
   have hw:Below w.heap.size w w1:=bS.o.trans (HB.o.mono (by simp));exact hr.aX hw hw.size (aaa _) (fun k hk=>by cases hk)
  have s1:=aas w1 w.heap.size 0 _ _ (.bool b) j5.o;have s2:=aas (w1.setCell ⟨w.heap.size,0,none⟩ (.bool b)) w.heap.size 1 _ _ (.slice ao L cap) s1;exact s2.trans (by simp)
 clear hf hb hblk hlen;by_cases hn:n=0
 ·have lu:L=0:=hL.2 hn
  subst lu
  have HN:Hid ((neg && decide (0<n))=false):=by show _=_;rw[hn];simp
  clear hn hL
  cases neg with
  |true=>
   go_wp2_with fail;have hf3:=aR.o false;refine aaI (adM rfl _ _ w.heap.size 62 _ _ _ rfl hf3.2.2 Tryz.underlying62 rfl (by kernel_rfl)) rfl ?_;rw[HN.o]
   exact⟨_,rfl,hf3.1,HLEN.o,hf3.2.1⟩
  |false=>go_wp2_with fail;have hf3:=aR.o false;refine aaI (adM rfl _ _ w.heap.size 62 _ _ _ rfl hf3.2.2 Tryz.underlying62 rfl (by kernel_rfl)) rfl ?_;rw[HN.o];exact⟨_,rfl,hf3.1,HLEN.o,hf3.2.1⟩
 have lu:(0:Int)<(L:Int):=by
  rcases aeN L with h|h
  ·exact absurd (hL.1 h) hn
  omega
 have HN:Hid ((neg && decide (0<n))=neg):=by show _=_;rw[abH (show 0<n by omega),Bool.and_true]
 clear hn hL
 cases neg with
 |true=>
  go_wp2_with fail;have hf3:=aR.o (decide (0<L));refine aaI (adM rfl _ _ w.heap.size 62 _ _ _ rfl hf3.2.2 Tryz.underlying62 rfl (by kernel_rfl)) rfl ?_;rw[HN.o]
  exact⟨_,by rw[show decide (0<L)=true from abH (by omega)],hf3.1,HLEN.o,hf3.2.1⟩
 |false=>go_wp2_with fail;have hf3:=aR.o false;refine aaI (adM rfl _ _ w.heap.size 62 _ _ _ rfl hf3.2.2 Tryz.underlying62 rfl (by kernel_rfl)) rfl ?_;rw[HN.o];exact⟨_,rfl,hf3.1,HLEN.o,hf3.2.1⟩
theorem Qxh (neg:Bool)(n:Nat)(v:Value)(w:World)(hv:lY w v n):Calls Tryz.prog 188 #[.agg #[.bool neg,v]] w fun e w'=> ∃v',e=.returned (.agg #[.bool (neg && decide (0<n)),v'])/\bM w.heap.size w' v' n/\(n<=64->lenOf v'<=1)/\Below w.heap.size w w':=by
 obtain⟨ao,L,cap,rfl⟩:∃ao L cap,v=.slice ao L cap:=by obtain⟨xs,h1,-,-⟩:=hv;obtain⟨ao,cap,rfl,-⟩:=h1.2;exact⟨_,_,_,rfl⟩
 have hb0:=Qq w (.cells #[.bool neg,.slice ao L cap] 62);have hb1:=Qq (w.alloc (.cells #[.bool neg,.slice ao L cap] 62)) (.cells #[.bool false,.slice none 0 0] 62);have bt:=hb0.trans (hb1.mono (by simp));have bS:=zq bt;have HL:=zq (Qy3 neg n _ _ (hv.below bt))
 have dJ:Hid (((w.alloc (.cells #[.bool neg,.slice ao L cap] 62)).alloc (.cells #[.bool false,.slice none 0 0] 62)).heap[w.heap.size+1]?=some (.cells #[.bool false,.slice none 0 0] 62 (0,0))):=by have:=aaz (w.alloc (.cells #[.bool neg,.slice ao L cap] 62)) (.cells #[.bool false,.slice none 0 0] 62);rw[adB]at this;exact this
 clear hv bt hb0 hb1;go_enter Tryz.func188,Tryz.ntmps188;go_wp2_with fail;refine HL.o.mono ?_;rintro e w1 ⟨v1,rfl,hf,hlen,hb⟩;have hz1:=hb.size;rw[adB,adB]at hz1;have hblk:w1.heap[w.heap.size+1]?=some (.cells #[.bool false,.slice none 0 0] 62 (0,0)):=(hb.block (w.heap.size+1) (by simp)).trans dJ.o;obtain⟨iZ,L1,cO,rfl,-⟩:=hf.val;have HF:=zq hf;have HLEN:Hid (n<=64->L1<=1):=hlen;have HB:=zq hb;have j5:=zq hblk;have e0:w1.cell? ⟨w.heap.size+1,0,none⟩=some (.bool false):=(aam w1 _ _ _ _ _ hblk).trans rfl;have e1:w1.cell? ⟨w.heap.size+1,1,none⟩=some (.slice none 0 0):=(aam w1 _ _ _ _ _ hblk).trans rfl;have f0:w1.frozen? ⟨w.heap.size+1,0,none⟩=false:=aaH w1 _ 0 _ _ hblk;have f1:w1.frozen? ⟨w.heap.size+1,1,none⟩=false:=aaH w1 _ 1 _ _ hblk;obtain⟨b,hb⟩:=xq ((neg && decide (0<n)));rw[<-hb];have j6:=zq hb
 have aR:Hid (bM w.heap.size ((w1.setCell ⟨w.heap.size+1,0,none⟩ (.bool b)).setCell ⟨w.heap.size+1,1,none⟩ (.slice iZ L1 cO)) (.slice iZ L1 cO) n/\Below w.heap.size w ((w1.setCell ⟨w.heap.size+1,0,none⟩ (.bool b)).setCell ⟨w.heap.size+1,1,none⟩ (.slice iZ L1 cO))/\((w1.setCell ⟨w.heap.size+1,0,none⟩ (.bool b)).setCell ⟨w.heap.size+1,1,none⟩ (.slice iZ L1 cO)).heap[w.heap.size+1]?=some (.cells #[.bool b,.slice iZ L1 cO] 62 (0,0))):=by
  have hlt:w.heap.size+1<((w.alloc (.cells #[.bool neg,.slice ao L cap] 62)).alloc (.cells #[.bool false,.slice none 0 0] 62)).heap.size:=by simp
  refine⟨bM.mono (bM.set (bM.set HF.o hlt 0 _) hlt 1 _) (by omega),?_,?_⟩
  ·have hr:Wr (w.heap.size+1) none w1 ((w1.setCell ⟨w.heap.size+1,0,none⟩ (.bool b)).setCell ⟨w.heap.size+1,1,none⟩ (.slice iZ L1 cO)):=(Wr.aI w1 0 _).trans (Mv.refl _ _) (Wr.aI _ 1 _)
   have hw:Below w.heap.size w w1:=bS.o.trans (HB.o.mono (by omega));exact hr.aX hw hw.size (by omega) (fun k hk=>by cases hk)
  have s1:=aas w1 (w.heap.size+1) 0 _ _ (.bool b) j5.o;have s2:=aas (w1.setCell ⟨w.heap.size+1,0,none⟩ (.bool b)) (w.heap.size+1) 1 _ _ (.slice iZ L1 cO) s1;exact s2.trans (by simp)
 clear hf hblk hb hlen;go_wp2_with fail;refine aaI (adM rfl _ _ (w.heap.size+1) 62 _ _ _ rfl aR.o.2.2 Tryz.underlying62 rfl (by kernel_rfl)) rfl ?_;exact⟨_,by rw[j6.o],aR.o.1,HLEN.o,aR.o.2.1⟩
theorem Cg (n:Nat)(v:Value)(w:World)(hv:lY w v n)(hn:n<=64):Calls Tryz.prog 199 #[.agg #[.bool false,v]] w fun e w'=>e=.returned (.tuple #[.int .i64 (n:Nat),.int .i64 0])/\Below w.heap.size w w':=by
 obtain⟨ao,L,cap,rfl⟩:∃ao L cap,v=.slice ao L cap:=by obtain⟨xs,h1,-,-⟩:=hv;obtain⟨ao,cap,rfl,-⟩:=h1.2;exact⟨_,_,_,rfl⟩
 have hb0:=Qq w (.cells #[.bool false,.slice ao L cap] 62);have bU:=zq hb0;have HL:=zq (Qxh false n _ _ (hv.below hb0));clear hv hb0;go_enter Tryz.func199,Tryz.ntmps199;go_wp2_with fail;refine HL.o.mono ?_;rintro e w1 ⟨v1,rfl,hf,hlen,hb⟩;have aC:=zq (Qz bU.o hb);obtain⟨⟨xs,x1,x2,x3⟩,-,x5⟩:=hf;obtain⟨iZ,cO,rfl,-,-,aZ,aU⟩:=x1.2;have fD:n<=64->xs.length<=1:=hlen;have ig:=fD hn;by_cases h0:n=0
 ·have hl0:xs.length=0:=x5.2 h0
  rw[hl0];have aD:=zq (Qz aC.o (Qq w1 (.cells #[.bool (false && decide (0<n)),.slice iZ 0 cO] 62)));subst h0;clear x1 x2 x3 x5 aZ aU hlen fD ig hl0 hn hb;go_wp2_with fail;go_ret2;exact⟨rfl,aD.o⟩
 obtain⟨y,rfl⟩:∃y,xs=[y]:=by
  cases xs with
  |nil=>exact absurd (x5.1 rfl) h0
  |cons y ys=>
   cases ys with
   |nil=>exact⟨y,rfl⟩
   |cons z zs=>simp at ig
 have hy:y=n:=by have e:ai.val [y]=y+BB*0:=rfl;rw[x2]at e;omega
 subst hy;obtain⟨g,o,rfl,c0⟩:=aU 0 y rfl;rw[adt]at c0;have aD:=zq (Qz aC.o (Qq w1 (.cells #[.bool (false && decide (0<y)),.slice (some ⟨g,o,none⟩) 1 cO] 62)));have c1:(w1.alloc (.cells #[.bool false,.slice (some ⟨g,o,none⟩) 1 cO] 62)).cell? ⟨g,o,none⟩=some (.int .u64 (y:Nat)):=((Qq w1 _).cell (p:=⟨g,o,none⟩) (adu w1 _ c0)).trans c0;have hw:IntKind.i64.wrap (y:Int)=(y:Int):=abL _ (by omega);have cR:decide ((9223372036854775808:Int)<=(y:Int))=false:=abC (by omega);have hl:([y]:List Nat).length=1:=rfl;rw[hl];clear x1 x2 x3 x5 aZ aU hlen fD ig hn h0 hb hl;go_wp2_with fail;go_ret2;exact⟨rfl,aD.o⟩
def Ta (m:ae.cn):List (Bool×Nat):=if m.at_=[] then [(false,m.rows),(false,m.aB)] else m.at_
theorem Qvs {m:ae.cn}(hm:ae.Ue m):aq.iQ (ae.bB m).tail [] [] 1 false=((Ta m).map ae.bg,if m.at_=[] then 1 else m.rows,decide (m.at_=[])):=by
 rw[aq.Qdq hm];unfold Ta;by_cases h:m.at_=[]
 ·rw[if_pos h,if_pos h,if_pos h,abH h];rfl
 rw[if_neg h,if_neg h,if_neg h,abC h]
theorem En.low {w w':World}{B:Nat}{av lv:Value}{cs:List (Bool×Value)}{acc:List (Bool×Nat)}{lens:List Nat}(h:En w B av lv cs acc lens)(hb:Below w.heap.size w w'):En w' B av lv cs acc lens:=by refine⟨Qg h.bV hb (aaa _),Qg h.eW hb (aaa _),h.ne,h.len,fun j c p hc hp=> ?_⟩;obtain⟨e1,e2,e3⟩:=h.el j c p hc hp;exact⟨e1,⟨e2.1.below hb,fun q hq=>⟨(e2.2.1 q hq).1,aaj (e2.2.1 q hq).2 hb.size⟩,e2.2.2⟩,e3⟩
def KI (B:Nat)(w:World)(v:Value)(l:List (Bool×Nat)):Prop:=∀w':World,w.heap.size<=w'.heap.size->(∀q,B<=q->q<w.heap.size->w'.heap[q]?=w.heap[q]?)->iY w' v l
theorem KI.zj {B:Nat}{w:World}{v:Value}{l:List (Bool×Nat)}(h:KI B w v l):iY w v l:=h w (aaa _) fun _ _ _=>rfl
theorem En.hi {w:World}{B B':Nat}{av lv:Value}{cs:List (Bool×Value)}{acc:List (Bool×Nat)}{lens:List Nat}(h:En w B av lv cs acc lens)(hB:B'<=B):KI B' w av acc:=by
 intro w' I E;have H:∀q,B<=q->q<w.heap.size->w'.heap[q]?=w.heap[q]? :=fun q h1 h2=>E q (aan hB h1) h2
 have h':En w' B av lv cs acc lens:=by refine⟨Y4 h.bV (aaa _) fun q E=>H q (h.bV.lt q E).1 (h.bV.lt q E).2,Y4 h.eW (aaa _) fun q E=>H q (h.eW.lt q E).1 (h.eW.lt q E).2,h.ne,h.len,fun j c p hc hp=> ?_⟩;obtain⟨e1,e2,e3⟩:=h.el j c p hc hp;exact⟨e1,e2.blk (aaa _) I fun q E=>H q (e2.2.1 q E).1 (e2.2.1 q E).2,e3⟩
 exact h'.zj
structure wE (t:Bytes) (P:List (Bool×Nat)) (w:World) (ra:Nat) (fin:List Bytes×Nat×Bool) (i fr k r:Nat) (sh:Bool) (cs:List (Bool×Value)) (av:Value) (wr:World):Prop where
 le:i<=t.length
 fl:1<=fr/\fr<=i
 run:aq.iQ (t.drop i) ((t.take i).drop fr) ((P.take k).map ae.bg) r sh=fin
 kl:k<=P.length
 kb:P.length<=67108864
 rl:r<=i
 ent:∀c∈(t.take i).drop fr,aq.gZ c=true
 en:En wr (ra+1) av (.slice none 0 0) cs (P.take k) []
 blk:wr.heap[ra]?=some (.cells #[.int .i64 ((r:Nat):Int),.int .i64 0,av] 47 (0,0))
 res:wr.heap[w.heap.size]?=some (.cells #[.int .i64 0,.int .i64 0,.slice none 0 0] 47 (0,0))
 kJ:Below w.heap.size w wr
theorem Qmz {t cur:Bytes}{acc Q:List Bytes}{r:Nat}{sh:Bool}{fin:List Bytes×Nat×Bool}(h:aq.iQ t cur acc r sh=fin)(hf:fin.1=Q):acc<+:Q:=by have:=aq.Mu t cur acc r sh;rw[h,hf]at this;exact this
theorem wE.ZU {t:Bytes}{P:List (Bool×Nat)}{w:World}{ra:Nat}{fin:List Bytes×Nat×Bool}{i fr k r:Nat}{sh:Bool}{cs:List (Bool×Value)}{av:Value}{wr:World}(h:wE t P w ra fin i fr k r sh cs av wr){c:UInt8}(hc:t[i]?=some c)(he:aq.gZ c=true):wE t P w ra fin (i+1) fr k r sh cs av wr:=by
 have O:=(aae.1 hc).1
 have I:t.drop i=c::t.drop (i+1):=by obtain⟨J,K⟩:=aae.1 hc;rw[aaS J,K]
 have H:(t.take (i+1)).drop fr=(t.take i).drop fr++[c]:=by rw[ab2,hc];show (t.take i++[c]).drop fr=_;rw[List.drop_append_of_le_length (by rw[aak];have:=h.fl;omega)]
 refine⟨by omega,⟨h.fl.1,by have:=h.fl;omega⟩,?_,h.kl,h.kb,by have:=h.rl;omega,?_,h.en,h.blk,h.res,h.kJ⟩
 ·rw[H,<-h.run,I]
  conv=>rhs;unfold aq.iQ
  rw[if_pos he]
 intro d E;rw[H]at E;rcases abZ.1 E with E|E
 ·exact h.ent d E
 rw[abu.1 E];exact he
theorem wE.sep {t:Bytes}{P:List (Bool×Nat)}{w:World}{ra:Nat}{fin:List Bytes×Nat×Bool}{i fr k r:Nat}{sh:Bool}{cs:List (Bool×Value)}{av:Value}{wr:World}(h:wE t P w ra fin i fr k r sh cs av wr)(ah:fin.1=P.map ae.bg){c:UInt8}(hc:t[i]?=some c)(he:aq.gZ c=false)
  {cs':List (Bool×Value)} {oD:Value} {w':World} (hen:En w' (ra+1) oD (.slice none 0 0) cs' (P.take (if fr=i then k else k+1)) []) (hb:w'.heap[ra]?=some (.cells #[.int .i64 (((if c=59 then r+1 else r:Nat)):Int),.int .i64 0,oD] 47 (0,0)))
  (hr:w'.heap[w.heap.size]?=some (.cells #[.int .i64 0,.int .i64 0,.slice none 0 0] 47 (0,0))) (hbl:Below w.heap.size w w'):
  wE t P w ra fin (i+1) (i+1) (if fr=i then k else k+1) (if c=59 then r+1 else r) (sh||c==58) cs' oD w':=by
 have a5:=(aae.1 hc).1
 have U:t.drop i=c::t.drop (i+1):=by obtain⟨h1,h2⟩:=aae.1 hc;rw[aaS h1,h2]
 have K:(t.take (i+1)).drop (i+1)=[]:=by rw[aaR];rw[aak];omega
 have E:=h.run;rw[U,aq.Py he]at E
 have H:((t.take i).drop fr).length=i-fr:=by rw[aag,aak];omega
 have a4:=h.fl
 have I:(if (t.take i).drop fr=[] then (P.take k).map ae.bg else (P.take k).map ae.bg++[(t.take i).drop fr])=(P.take (if fr=i then k else k+1)).map ae.bg/\(if fr=i then k else k+1)<=P.length:=by
  by_cases qw:fr=i
  ·rw[if_pos qw,if_pos (aaq (by omega))]
   exact⟨rfl,h.kl⟩
  have a0:(t.take i).drop fr≠[]:=fun e=>by rw[e]at H;simp at H;omega
  rw[if_neg a0]at E ⊢;rw[if_neg qw];have hp:=Qmz E ah;obtain⟨Q,O⟩:=hp;have J:=aa7 List.length O;simp only[aac,aay,aak,aaJ]at J;have a6:=h.kl
  have Z:k+1<=P.length:=by omega
  refine⟨?_,Z⟩
  have e1:((P.take (k+1)).map ae.bg)=(P.map ae.bg).take (k+1):=by rw[List.map_take]
  rw[e1,<-O]
  have e2:((P.take k).map ae.bg++[(t.take i).drop fr]).length=k+1:=by simp only[aac,aay,aak,aaJ];omega
  rw[<-e2,List.take_left'];rfl
 refine⟨by omega,⟨by omega,aaa _⟩,?_,I.2,h.kb,by have:=h.rl;split<;>omega,?_,hen,hb,hr,hbl⟩
 ·rw[K,<-I.1];exact E
 intro d T;rw[K]at T
 cases T
theorem wE.cur {t:Bytes}{P:List (Bool×Nat)}{w:World}{ra:Nat}{fin:List Bytes×Nat×Bool}{i fr k r:Nat}{sh:Bool}{cs:List (Bool×Value)}{av:Value}{wr:World}(h:wE t P w ra fin i fr k r sh cs av wr)(ah:fin.1=P.map ae.bg){c:UInt8}(hc:t[i]?=some c)(he:aq.gZ c=false)(qw:fr≠i):∃p,P[k]?=some p/\(t.take i).drop fr=ae.bg p:=by
 have a0:=(aae.1 hc).1
 have J:t.drop i=c::t.drop (i+1):=by obtain⟨E,O⟩:=aae.1 hc;rw[aaS E,O]
 have H:=h.run;rw[J,aq.Py he]at H
 have I:((t.take i).drop fr).length=i-fr:=by rw[aag,aak];omega
 have Z:=h.fl
 have K:(t.take i).drop fr≠[]:=fun e=>by rw[e]at I;simp at I;omega
 rw[if_neg K]at H;obtain⟨Q,T⟩:=Qmz H ah
 have U:((P.take k).map ae.bg).length=k:=by rw[aay,aak];have:=h.kl;omega
 have E:=aa7 (fun l:List Bytes=>l[k]?) T;simp only[aar,List.singleton_append]at E;rw[abw (by omega),U,Nat.sub_self,aeT,ads]at E
 cases hp:P[k]? with
 |none=>rw[hp]at E;cases E
 |some p=>rw[hp]at E;exact⟨p,rfl,aax E⟩
end Go.Proofs.YtgfmiladfeoldaaGreatDoor
