import Derived.Test.YtgfmiladfeoldaaGreatDoorPk6
set_option linter.unusedSimpArgs false
set_option linter.unusedVariables false
set_option maxRecDepth 100000
set_option maxHeartbeats 16000000
namespace Go.Proofs.YtgfmiladfeoldaaGreatDoor
open Go.RowKit ai ag
def Sl (w:World)(v:Value)(n:Nat)(R:Nat->Value->Prop):Prop:=∃ao cap,v=.slice ao n cap/\n<=cap/\cap<=maxLen/\(0<n-> ∃g o,ao=some ⟨g,o,none⟩/\g<w.heap.size/\ ∀j,j<n-> ∃u,w.cell? ⟨g,o+j,none⟩=some u/\R j u)
theorem Sl.mono {w w':World}{v:Value}{n:Nat}{R R':Nat->Value->Prop}(h:Sl w v n R)(hb:Below w.heap.size w w')(hr:∀j u,R j u->R' j u):Sl w' v n R':=by obtain⟨ao,E,e,H,I,J⟩:=h;refine⟨ao,E,e,H,I,fun h0=> ?_⟩;obtain⟨g,o,rfl,a2,a3⟩:=J h0;refine⟨g,o,rfl,aaj a2 hb.size,fun j hj=> ?_⟩;obtain⟨u,b1,b2⟩:=a3 j hj;exact⟨u,(hb.cell (p:=⟨g,o+j,none⟩) a2).trans b1,hr j u b2⟩
def lY (w:World)(v:Value)(n:Nat):Prop:=∃xs,Rd w v xs/\ai.val xs=n/\xs.length<=67108864
theorem lY.below {w w':World}{v:Value}{n:Nat}(h:lY w v n)(hb:Below w.heap.size w w'):lY w' v n:=by obtain⟨xs,E,H,I⟩:=h;exact⟨xs,E.below hb,H,I⟩
def wG (w:World)(v:Value)(s:List Nat):Prop:=Sl w v s.length fun j u=> ∃n,s[j]?=some n/\lY w u n
theorem wG.below {w w':World}{v:Value}{s:List Nat}(h:wG w v s)(hb:Below w.heap.size w w'):wG w' v s:=
 Sl.mono h hb fun _ _ ⟨n,a,b⟩=>⟨n,a,b.below hb⟩
def Ii (w:World)(v:Value)(l:List (List Nat)):Prop:=Sl w v l.length fun j u=> ∃s,l[j]?=some s/\wG w u s
theorem Ii.below {w w':World}{v:Value}{l:List (List Nat)}(h:Ii w v l)(hb:Below w.heap.size w w'):Ii w' v l:=
 Sl.mono h hb fun _ _ ⟨n,a,b⟩=>⟨n,a,b.below hb⟩
theorem Dr (sep:Bytes):∀(l:List Bytes) (b:Bytes),b∈l->b.length<=(ae.Qb sep l).length
 | [a],b,h=>by rw[abu.1 h];exact aaa _
 |a::c::l,b,h=>by
  show b.length<=(a++sep++ae.Qb sep (c::l)).length;simp only[aac];rcases abY.1 h with rfl|h
  ·omega
  have:=Dr sep (c::l) b h;omega
def dL (s:List Nat):Bytes:=ae.Qb [32] (s.map ae.ar)
theorem Qgv {xs:List Nat}(hl:xs.length<=67108864)(aZ:ok xs):(ae.ar (ai.val xs)).length<=2147483648:=by have:=U5 false hl aZ;rw[Sb]at this;exact this
theorem Qgj (l:List (List Nat))(v:Value)(w:World)(hs:SG w)(hv:Ii w v l)(hn:l.length<=134217728)(hm:∀s∈l,s.length<=134217728)(hT:(ae.Qb [44,32] (l.map dL)).length<=70368744177664):Calls Tryz.prog 67 #[v] w (Pn (ae.cP l) w):=by
 have eo:=zq hs;have HV:=zq hv;have hsz:4<w.heap.size:=adu w _ (hs 0 (by omega));obtain⟨ao,cap,rfl,h1,h2,h3⟩:=hv;obtain⟨n,bf⟩:=xq l.length;rw[<-bf]at h1 hn h3 ⊢;have cw:=zq bf;have H3:=zq h3;have HM:=zq hm;have HT:=zq hT;clear hs bf h3 hm hT;obtain⟨i0,hi,hz0,hz1',hz2'⟩:=abO Tryz.il;go_enter Tryz.func67,Tryz.ntmps67;go_wp2_with fail;go_loopw [3,5,6,8,11] (fun lv _ _ _ iv wr=> ∃i:Nat,iv=.int .i64 (i:Nat)/\i<=n/\wr.ownsRow w.heap.size 9 1 lv i (df ((l.map dL).take i))/\Below w.heap.size w wr) (fun _ _ _ _ iv _=>(n-intOf iv).toNat)
 case atStart=>exact⟨0,rfl,aao _,adC _ _ _ _,aa8 _ _⟩
 case round=>
  obtain⟨i,rfl,jb,hown,hbl⟩:=hrel;have HOWN:=zq hown;have aP:=zq hbl;obtain⟨bo,gW,rfl,rf,kN,yL⟩:=Qj hown;have hz1:=hbl.size;clear hown hbl yL;by_cases hlt:i<n
  ·obtain⟨g,o,rfl,hg,hcell⟩:=H3.o (by omega)
   obtain⟨u,c0,s,DK,hsr⟩:=hcell i hlt;have d0:wr.cell? ⟨g,o+i,none⟩=some u:=(aP.o.cell (p:=⟨g,o+i,none⟩) hg).trans c0;have z8:=zq DK;have Ov:=hsr.below aP.o;have QQ:=zq Ov;obtain⟨so,nH,rfl,s1,s2,s3⟩:=Ov;have iE:=HM.o s (aah DK);have gR:=zq s3;obtain⟨m,eJ⟩:=xq s.length;rw[<-eJ]at s1 iE gR d0;have cI:=zq eJ;clear c0 DK hsr hcell s3 eJ;obtain⟨wo,rfl⟩:=xq wr;go_wp2_with fail;go_loopw [6,8,17] (fun nv _ jv wx=> ∃j:Nat,jv=.int .i64 (j:Nat)/\j<=m/\wx.ownsRow wo.heap.size 9 1 nv j (df ((s.map ae.ar).take j))/\Below wo.heap.size wo wx) (fun _ _ jv _=>(m-intOf jv).toNat)
   case atStart=>exact⟨0,rfl,aao _,adC _ _ _ _,aa8 _ _⟩
   case round=>
    obtain⟨j,rfl,hjm,hown2,wX⟩:=hrel;have rW:=zq hown2;have fp:=zq wX;obtain⟨no,dF,rfl,bq,xp,rj⟩:=Qj hown2;have hz2:=wX.size;have ji:Hid (Below w.heap.size w wr):=aP.o.trans (wX.mono hz1);clear hown2 wX rj;by_cases hjt:j<m
    ·obtain⟨g2,o2,rfl,hg2,tj⟩:=gR.o (by omega)
     obtain⟨u,c0,k,hsk,xs,jc,hval,pI⟩:=tj j hjt;have e0:wr.cell? ⟨g2,o2+j,none⟩=some u:=(fp.o.cell (p:=⟨g2,o2+j,none⟩) hg2).trans c0;have iu:=zq (jc.below fp.o);have k9:=zq hval;have WW:=zq hsk
     have fF:Hid ((ae.ar k).length<=2147483648):=by have:=Qgv pI jc.ok;rw[hval]at this;exact this
     obtain⟨uo,adm,OC,-⟩:=jc.2;subst OC;clear c0 hsk jc hval tj;go_wp2_with fail;refine(Pi _ xs _ (eo.o.below ji.o hsz) iu.o (by omega)).mono ?_;rintro e w3 ⟨rfl,hb3⟩;rw[k9.o,Gq];obtain⟨T,hT⟩:=xq (ae.ar k);rw[<-hT];have sq:=zq hT;have aS:=zq hb3;have eM:=zq (Qg rW.o hb3 (aaa _));have hz3:=hb3.size;clear hb3 hT e0;go_wp2_with (at_builtin;refine adv _ rfl _ _ 105 rfl wo.heap.size 9 i0 (.string ⟨#[]⟩) 1 16 Tryz.underlying105 hi hz0 hz1' hz2' rfl (by decide) _ _ _ rfl (abj eM.o _) ⟨w3.heap.size,0,none⟩ 1 1 [.string ⟨T.toArray⟩] rfl rfl (ag.Qh _ _ _ _ rfl) (by simp[Value.oneCell']) (by unfold maxLen;omega) (by omega) (by simp;omega) ?_);intro v4 w4 aM az _ jr
     have dP:df ((s.map ae.ar).take (j+1))=df ((s.map ae.ar).take j)++[.string ⟨T.toArray⟩]:=by rw[ab2,ads,WW.o];simp[df,sq.o]
     have jR:Hid (w4.ownsRow wo.heap.size 9 1 v4 (j+1) (df ((s.map ae.ar).take (j+1)))):=by show World.ownsRow _ _ _ _ _ _ _;rw[dP];exact aM
     have bG:Hid (Below wo.heap.size wo w4):=abq ((fp.o.trans (aS.o.mono hz2)).alloc (by omega) _) az (by simp;omega) (fun q hq=>(aaZ eM.o q hq).1);clear aM az jr dP;go_wp2_with fail;have ah:w4.ownsRow wo.heap.size 9 1 v4 (j+1) (df ((s.map ae.ar).take (j+1)))/\Below wo.heap.size wo w4:=⟨jR.o,bG.o⟩
     first|exact⟨⟨j+1,rfl,by omega,ah⟩,by simp[intOf]<;>omega⟩|exact⟨by (repeat apply Exists.intro);exact⟨⟨j+1,rfl,by omega,ah⟩,rfl⟩,by simp[intOf]<;>omega⟩
    have ku:j=m:=by omega
    have bT:(s.map ae.ar).take j=s.map ae.ar:=aat (by rw[ku,aay];exact adK cI.o.symm);rw[bT]at rW;have hsT:dL s=ae.Qb [32] (s.map ae.ar):=rfl;have JJ:Hid ((dL s).length<=70368744177664):=aan (Dr [44,32] (l.map dL) _ (List.mem_map_of_mem (aah z8.o))) HT.o;obtain⟨T,GD⟩:=xq (dL s);have sq:=zq GD;have AA:=zq (SS.eV rW.o);clear bT hsT GD ku;go_wp2_with fail
    have hJ:=Hy _ (s.map ae.ar) ⟨#[32]⟩ _ AA.o (by rw[aay,<-cI.o];omega) (by
     show (dL s).length<=_
     exact aan JJ.o (by omega))
    rw[show ae.Qb (⟨#[32]⟩:ByteArray).data.toList (s.map ae.ar)=T from sq.o.symm]at hJ;refine hJ.mono ?_;rintro e w3 ⟨rfl,hb3⟩;have aS:=zq (fp.o.trans (hb3.mono hz2));have eM:=zq (Qg HOWN.o aS.o (aaa _));have hz3:=aS.o.size;clear hb3 hJ;go_wp2_with (at_builtin;refine adv _ rfl _ _ 105 rfl w.heap.size 9 i0 (.string ⟨#[]⟩) 1 16 Tryz.underlying105 hi hz0 hz1' hz2' rfl (by decide) _ _ _ rfl (abj eM.o _) ⟨w3.heap.size,0,none⟩ 1 1 [.string ⟨T.toArray⟩] rfl rfl (ag.Qh _ _ _ _ rfl) (by simp[Value.oneCell']) (by unfold maxLen;omega) (by omega) (by simp;omega) ?_);intro v4 w4 aM az _ jr
    have dP:df ((l.map dL).take (i+1))=df ((l.map dL).take i)++[.string ⟨T.toArray⟩]:=by rw[ab2,ads,z8.o];simp[df,sq.o]
    have jR:Hid (w4.ownsRow w.heap.size 9 1 v4 (i+1) (df ((l.map dL).take (i+1)))):=by show World.ownsRow _ _ _ _ _ _ _;rw[dP];exact aM
    have bG:Hid (Below w.heap.size w w4):=abq ((aP.o.trans (aS.o.mono hz1)).alloc (by omega) _) az (by simp;omega) (fun q hq=>(aaZ eM.o q hq).1);clear aM az jr dP;go_wp2_with fail;have ah:w4.ownsRow w.heap.size 9 1 v4 (i+1) (df ((l.map dL).take (i+1)))/\Below w.heap.size w w4:=⟨jR.o,bG.o⟩
    first|exact⟨⟨i+1,rfl,by omega,ah⟩,by simp[intOf]<;>omega⟩|exact⟨by (repeat apply Exists.intro);exact⟨⟨i+1,rfl,by omega,ah⟩,rfl⟩,by simp[intOf]<;>omega⟩
  have iN:i=n:=by omega
  have bT:(l.map dL).take i=l.map dL:=aat (by rw[iN,aay];exact adK cw.o.symm);rw[bT]at HOWN;obtain⟨T,hT⟩:=xq (ae.Qb [44,32] (l.map dL))
  have bW:T.length<=70368744177664:=by rw[hT];exact HT.o
  have sq:=zq hT;have AA:=zq (SS.eV HOWN.o);clear bT hT iN;go_wp2_with fail
  have hJ:=Hy _ (l.map dL) ⟨#[44,32]⟩ _ AA.o (by rw[aay,<-cw.o];omega) (by
   show (ae.Qb [44,32] (l.map dL)).length<=_
   exact aan HT.o (by omega))
  rw[show ae.Qb (⟨#[44,32]⟩:ByteArray).data.toList (l.map dL)=T from sq.o.symm]at hJ;refine hJ.mono ?_;rintro e w3 ⟨rfl,hb3⟩;have aS:=zq hb3;clear hb3 hJ;go_wp2_with fail;go_ret;refine⟨?_,aP.o.trans (aS.o.mono hz1)⟩
  have e:ae.cP l=[123]++T++[125]:=by rw[sq.o];rfl
  show Ending.returned (.string ((⟨#[123]⟩:ByteArray)++⟨T.toArray⟩++⟨#[125]⟩))=_;rw[e,Jb,Jb];simp
theorem Wr.weak {R:Nat}{w w':World}(h:Wr R none w w')(og:Option Nat):Wr R og w w':=⟨h.os,h.tape,h.output,h.size,fun k hk hR _=>h.block k hk hR (by simp)⟩
def KR (w:World)(R:Nat)(og:Option Nat)(v:Value)(ks:List Nat):Prop:=∃ao cap,v=.slice ao ks.length cap/\ks.length<=cap/\cap<=maxLen/\(∀q,v.ownBlock=some q->R<q/\q<w.heap.size/\og≠some q)/\(0<ks.length-> ∃g,ao=some ⟨g,0,none⟩/\ ∀j k,ks[j]?=some k->w.cell? ⟨g,j,none⟩=some (.int .i64 (k:Nat)))
theorem KR.wr {w w':World}{R:Nat}{og og':Option Nat}{v:Value}{ks:List Nat}(h:KR w R og v ks)(hw:Wr R og w w')(hm:Mv w og og'):KR w' R og' v ks:=by
 obtain⟨ao,H,rfl,J,K,E,O⟩:=h;refine⟨ao,H,rfl,J,K,fun q hq=>⟨(E q hq).1,aaj (E q hq).2.1 hw.size,fun e=> ?_⟩,fun h0=> ?_⟩
 ·rcases hm q e with h|h
  ·exact(E q hq).2.2 h
  have:=(E q hq).2.1;omega
 obtain⟨g,rfl,T⟩:=O h0;have I:=E g rfl;exact⟨g,rfl,fun j k hj=>(abG (hw.block g I.2.1 (by omega) (fun e=>I.2.2 e.symm))).trans (T j k hj)⟩
abbrev Nv:=ae.Node×Value
def Xb (l:List Nv):List Value:=l.flatMap fun p=>[.int .i64 (p.1.op:Nat),.string ⟨p.1.text.toArray⟩,p.2]
theorem Uf (a b:List Nv):Xb (a++b)=Xb a++Xb b:=by simp[Xb]
def my (w:World)(R:Nat)(v:Value)(L:List Tok):Prop:=∃ao cap,v=.slice ao L.length cap/\L.length<=cap/\cap<=maxLen/\(0<L.length-> ∃g,ao=some ⟨g,0,none⟩/\g<R/\ ∀j t,L[j]?=some t->w.cell? ⟨g,j*3,none⟩=some (.int .i64 (t.1:Nat))/\w.cell? ⟨g,j*3+1,none⟩=some (.string ⟨t.2.1.toArray⟩)/\w.cell? ⟨g,j*3+2,none⟩=some (.int .i64 (t.2.2:Nat)))
theorem my.wr {w w':World}{R:Nat}{og:Option Nat}{v:Value}{L:List Tok}(h:my w R v L)(hw:Wr R og w w')(hR:R<w.heap.size)(ho:∀q,og=some q->R<q):my w' R v L:=by obtain⟨ao,I,rfl,J,K,O⟩:=h;refine⟨ao,I,rfl,J,K,fun h0=> ?_⟩;obtain⟨g,rfl,T,E⟩:=O h0;have H:=hw.block g (by omega) (by omega) (fun e=>by have:=ho g e.symm;omega);exact⟨g,rfl,T,fun j t hj=>⟨(abG H).trans (E j t hj).1,(abG H).trans (E j t hj).2.1,(abG H).trans (E j t hj).2.2⟩⟩
def Qcx (t:Tok):Prop:=t.1=1->Jl t.2.1/\0<t.2.1.length/\t.2.1.length<=67108864/\Xi t.2.1=false
structure RS (w:World) (R:Nat) (lv:Value) (L:List Tok) (fin:Nat) (a:Nat) (s:ae.St) (nv:Value) (ns:List Nv):Prop where
 blk:w.heap[R]?=some (.cells #[lv,.int .i64 (a:Nat),.int .i64 (fin:Nat),.int .i64 (s.opened:Nat),nv] 85 (0,0))
 tks:my w R lv L
 drop:L.drop a=s.ts
 le:a<=L.length
 own:w.ownsRow (R+1) 43 3 nv ns.length (Xb ns)
 kids:∀p∈ns,KR w R nv.ownBlock p.2 p.1.kids
 apart:∀(i j:Nat) (p q:Nv) (k:Nat),ns[i]?=some p->ns[j]?=some q->p.2.ownBlock=some k->q.2.ownBlock=some k->i=j
 few:ns.length+s.ts.length<=134217728
 deep:s.opened<=100
 short:L.length<=67108864
 sum:(L.map fun t=>t.2.1.length+1).sum<=201326592
 good:∀t∈L,Qcx t
 sg:SG w
 sgl:4<R
theorem RS.lt {w:World}{R:Nat}{lv:Value}{L:List Tok}{fin a:Nat}{s:ae.St}{nv:Value}{ns:List Nv}(h:RS w R lv L fin a s nv ns):R<w.heap.size:=(aal.1 h.blk).1
theorem RS.gt {w:World}{R:Nat}{lv:Value}{L:List Tok}{fin a:Nat}{s:ae.St}{nv:Value}{ns:List Nv}(h:RS w R lv L fin a s nv ns):∀q,nv.ownBlock=some q->R<q:=fun q hq=>by have:=h.own.lt q hq;omega
theorem RS.cells {w:World}{R:Nat}{lv:Value}{L:List Tok}{fin a:Nat}{s:ae.St}{nv:Value}{ns:List Nv}(h:RS w R lv L fin a s nv ns):w.cell? ⟨R,0,none⟩=some lv/\w.cell? ⟨R,1,none⟩=some (.int .i64 (a:Nat))/\w.cell? ⟨R,2,none⟩=some (.int .i64 (fin:Nat))/\w.cell? ⟨R,3,none⟩=some (.int .i64 (s.opened:Nat))/\w.cell? ⟨R,4,none⟩=some nv:=by refine⟨?_,?_,?_,?_,?_⟩<;>rw[aam w R _ _ _ _ h.blk]<;>rfl
theorem RS.eD {w:World}{R:Nat}{lv:Value}{L:List Tok}{fin a:Nat}{s:ae.St}{nv:Value}{ns:List Nv}(h:RS w R lv L fin a s nv ns)(o:Nat):w.frozen? ⟨R,o,none⟩=false:=aaH w R o _ _ h.blk
theorem RS.below {w w':World}{R:Nat}{lv:Value}{L:List Tok}{fin a:Nat}{s:ae.St}{nv:Value}{ns:List Nv}(h:RS w R lv L fin a s nv ns)(hb:Below w.heap.size w w'):RS w' R lv L fin a s nv ns where
 blk:=(hb.block R h.lt).trans h.blk
 tks:=h.tks.wr (Wr.af (R:=R) (og:=nv.ownBlock) hb) h.lt h.gt
 drop:=h.drop
 le:=h.le
 own:=h.own.kept (row:=none) ⟨hb.os,hb.tape,hb.output,hb.size,fun k hk _=>hb.block k hk⟩ (by cases nv.ownBlock<;>simp)
 kids:=fun p hp=>(h.kids p hp).wr (Wr.af hb) (Mv.refl _ _)
 apart:=h.apart
 few:=h.few
 deep:=h.deep
 short:=h.short
 sum:=h.sum
 good:=h.good
 sg:=h.sg.below hb (aed h.sgl h.lt)
 sgl:=h.sgl
theorem RS.ab0 {w:World}{R:Nat}{lv:Value}{L:List Tok}{fin a:Nat}{s:ae.St}{nv:Value}{ns:List Nv}(h:RS w R lv L fin a s nv ns)(o:Nat)(u:Value)(a':Nat)(s':ae.St)
  (hb:(#[lv,.int .i64 (a:Nat),.int .i64 (fin:Nat),.int .i64 (s.opened:Nat),nv]:Array Value).setIfInBounds o u= #[lv,.int .i64 (a':Nat),.int .i64 (fin:Nat),.int .i64 (s'.opened:Nat),nv])
  (hd:L.drop a'=s'.ts) (hl:a'<=L.length) (hf:ns.length+s'.ts.length<=134217728) (hp:s'.opened<=100):
  RS (w.setCell ⟨R,o,none⟩ u) R lv L fin a' s' nv ns/\Wr R none w (w.setCell ⟨R,o,none⟩ u):=by
 have E:=aas w R o #[lv,.int .i64 (a:Nat),.int .i64 (fin:Nat),.int .i64 (s.opened:Nat),nv] 85 u h.blk;have H:=Wr.aI (R:=R) (og:=nv.ownBlock) w o u;refine⟨⟨E.trans (by rw[hb]),h.tks.wr H h.lt h.gt,hd,hl,ad6 h.own (by simp) _,fun p hp=>(h.kids p hp).wr H (Mv.refl _ _),h.apart,hf,hp,h.short,h.sum,h.good,h.sg.wr H (aeZ h.sgl) (fun e=>by have:=h.gt _ e;have:=h.sgl;omega),h.sgl⟩,Wr.aI w o u⟩
theorem RS.reset {w w':World}{R:Nat}{lv:Value}{L:List Tok}{fin a:Nat}{s:ae.St}{nv:Value}{ns:List Nv}(h:RS w R lv L fin a s nv ns)(hw:Wr R none w w'){a':Nat}{s':ae.St}
  (hb:w'.heap[R]?=some (.cells #[lv,.int .i64 (a':Nat),.int .i64 (fin:Nat),.int .i64 (s'.opened:Nat),nv] 85 (0,0))) (hd:L.drop a'=s'.ts) (hl:a'<=L.length) (hf:ns.length+s'.ts.length<=134217728) (hp:s'.opened<=100):
  RS w' R lv L fin a' s' nv ns where
 blk:=hb
 tks:=h.tks.wr hw h.lt (fun q hq=>by cases hq)
 drop:=hd
 le:=hl
 own:=by
  refine⟨h.own.1,?_⟩;rcases h.own.2 with hn|⟨g,cap,cur,rfl,hb,pB,rest⟩
  ·exact .inl hn
  exact .inr ⟨g,cap,cur,rfl,hb,(hw.block g (aal.1 pB).1 (by omega) (by simp)).trans pB,rest⟩
 kids:=fun p hp=>(h.kids p hp).wr (hw.weak _) (Mv.refl _ _)
 apart:=h.apart
 few:=hf
 deep:=hp
 short:=h.short
 sum:=h.sum
 good:=h.good
 sg:=h.sg.wr hw (aeZ h.sgl) (by simp)
 sgl:=h.sgl
theorem below_drewN (w:World)(n:Nat):Below w.heap.size w (w.drewN n):=⟨rfl,rfl,rfl,aaa _,fun _ _=>rfl⟩
theorem Nh (R:Nat)(lv:Value)(L:List Tok)(fin a:Nat)(s:ae.St)(nv:Value)(ns:List Nv)(w:World)(h:RS w R lv L fin a s nv ns):Calls Tryz.prog 55 #[.pointer (some ⟨R,0,none⟩)] w fun e w'=>e=.returned (.bool (decide (s.ts=[])))/\Below w.heap.size w w':=by
 have H:=zq h;obtain⟨c0,c1,-,-,-⟩:=h.cells;obtain⟨ao,cap,rfl,t1,t2,-⟩:=h.tks
 have hd:decide (L.length<=a)=decide (s.ts=[]):=by rw[<-h.drop];simp
 have HD:=zq hd;clear hd;clear h;go_enter Tryz.func55,Tryz.ntmps55;go_wp2_with fail;go_region;go_wp2_with fail;go_ret;exact⟨by rw[<-HD.o];rfl,⟨rfl,rfl,rfl,aaa _,fun _ _=>rfl⟩⟩
theorem Qbq (R:Nat)(lv:Value)(L:List Tok)(fin a:Nat)(ts:List Tok)(w:World)(c0:w.cell? ⟨R,0,none⟩=some lv)(c1:w.cell? ⟨R,1,none⟩=some (.int .i64 (a:Nat)))(c2:w.cell? ⟨R,2,none⟩=some (.int .i64 (fin:Nat)))(tks:my w R lv L)(hdr:L.drop a=ts)(hle:a<=L.length):Calls Tryz.prog 109 #[.pointer (some ⟨R,0,none⟩)] w fun e w'=>e=.returned (.int .i64 (ae.X5 fin ts:Nat))/\Below w.heap.size w w':=by
 obtain⟨ao,cap,rfl,t1,t2,t3⟩:=tks;by_cases hn:a<L.length
 ·obtain⟨g,rfl,hg,hc⟩:=t3 (by omega)
  obtain⟨t,ht⟩:∃t,L[a]?=some t:=⟨_,aad hn⟩;obtain⟨-,-,d2⟩:=hc a t ht
  have rI:Hid (ae.X5 fin ts=t.2.2):=by show _=_;rw[<-hdr,aeA,ht];rfl
  clear hc t3 hdr;go_enter Tryz.func109,Tryz.ntmps109;go_wp2_with fail;go_region;go_wp2_with fail;go_region;go_wp2_with fail;go_ret;exact⟨by rw[rI.o];rfl,⟨rfl,rfl,rfl,aaa _,fun _ _=>rfl⟩⟩
 have rI:Hid (ae.X5 fin ts=fin):=by show _=_;rw[<-hdr,aaR (by omega)];rfl
 clear t3 hdr;go_enter Tryz.func109,Tryz.ntmps109;go_wp2_with fail;go_region;go_wp2_with fail;go_ret;exact⟨by rw[rI.o];rfl,⟨rfl,rfl,rfl,aaa _,fun _ _=>rfl⟩⟩
theorem Qm4 (R:Nat)(lv:Value)(L:List Tok)(fin a:Nat)(s:ae.St)(nv:Value)(ns:List Nv)(w:World)(h:RS w R lv L fin a s nv ns):Calls Tryz.prog 109 #[.pointer (some ⟨R,0,none⟩)] w fun e w'=>e=.returned (.int .i64 (ae.X5 fin s.ts:Nat))/\Below w.heap.size w w':=
 Qbq R lv L fin a s.ts w h.cells.1 h.cells.2.1 h.cells.2.2.1 h.tks h.drop h.le
def Ur (i kind:Nat)(x:Bytes)(ts:List Tok):Bool:=match ts.drop i with|(k,t,_)::_=>k==kind && (kind !=3||t==x)| []=>false
theorem Ha (x:Bytes)(ts:List Tok):Ur 0 3 x ts=ae.Qv x ts:=by
 cases ts with
 |nil=>rfl
 |cons t l=>obtain⟨k,t,c⟩:=t;simp[Ur,ae.Qv]
theorem Ky (x:Bytes)(ts:List Tok):Ur 1 3 x ts=ae.Qv x ts.tail:=by
 cases ts with
 |nil=>rfl
 |cons t l=>rw[<-Ha];rfl
theorem Zj (k:Nat)(x:Bytes)(ts:List Tok)(hk:k≠3):Ur 0 k x ts=ae.Qm k ts:=by
 cases ts with
 |nil=>rfl
 |cons t l=>obtain⟨j,t,c⟩:=t;simp[Ur,ae.Qm,hk]
theorem Below.Lk {B:Nat}{w w':World}(h:Below B w w'):Below B w w'.drew.drew:=⟨h.os,h.tape,h.output,h.size,h.block⟩
theorem X4 (R : Nat) (lv : Value) (L : List Tok) (fin a : Nat) (s : ae.St) (nv : Value) (ns : List Nv) (w : World) (h : RS w R lv L fin a s nv ns) (i kind : Nat) (x : Bytes) (hi : i ≤ 1) (hk : kind ≤ 3) :Calls Tryz.prog 94 #[.pointer (some ⟨R, 0, none⟩), .int .i64 (i : Nat), .int .i64 (kind : Nat), .string ⟨x.toArray⟩] w fun e w' => e = .returned (.bool (Ur i kind x s.ts)) ∧ Below w.heap.size w w' := by
  have H := zq h
  obtain ⟨c0, c1, -, -, -⟩ := h.cells
  obtain ⟨ao, cap, rfl, t1, t2, t3⟩ := h.tks
  have hle := h.le
  have aU := h.short
  by_cases hn : a + i < L.length
  · obtain ⟨g, rfl, hg, hc⟩ := t3 (by omega)
    obtain ⟨t, ht⟩ : ∃ t, L[a + i]? = some t := ⟨_, aad hn⟩
    obtain ⟨d0, d1, d2⟩ := hc (a + i) t ht
    obtain ⟨tk, tt, tc⟩ := t
    have HC : Hid (Ur i kind x s.ts = (tk == kind && (kind != 3 || tt == x))) := by
      show _ = _
      unfold Ur
      rw [← h.drop, adG, aeA, ht]; rfl
    have aT := h.lt
    have fe : g < w.heap.size := by omega
    obtain ⟨m, hm⟩ : ∃ m, m = a + i := ⟨_, rfl⟩
    have E1 : IntKind.i64.wrap ((a : Int) + (i : Int)) = (m : Int) := by rw [hm]; exact (abL _ (by omega)).trans (by omega)
    have E2 : (a : Int) + (i : Int) = (m : Int) := by omega
    rw [← hm] at d0 d1 d2 hn
    have cI := zq hm
    clear h hc t3 ht hm
    go_enter Tryz.func94, Tryz.ntmps94
    go_wp2_with fail
    go_region
    go_wp2_with fail
    go_region
    go_wp2_with fail
    all_goals
      go_ret
      refine ⟨?_, Below.Lk (Qq _ _)⟩
      rw [HC.o]
      show Ending.returned (Value.bool _) = Ending.returned (Value.bool _)
      congr 2
      first
        | (have q1 : tk = kind := by omega
           have q2 : kind = 3 := by omega
           subst q1; subst q2; simp)
        | (have q1 : tk = kind := by omega
           have q2 : kind ≠ 3 := by omega
           subst q1; simp [q2])
        | (have q1 : tk ≠ kind := by omega
           simp [q1])
  have HC : Hid (Ur i kind x s.ts = false) := by
    show _ = _
    unfold Ur
    rw [← h.drop, adG, aaR (by omega)]
  have aT := h.lt
  obtain ⟨m, hm⟩ : ∃ m, m = a + i := ⟨_, rfl⟩
  have E1 : IntKind.i64.wrap ((a : Int) + (i : Int)) = (m : Int) := by rw [hm]; exact (abL _ (by omega)).trans (by omega)
  have E2 : (a : Int) + (i : Int) = (m : Int) := by omega
  rw [← hm] at hn
  have cI := zq hm
  clear h t3 hm
  go_enter Tryz.func94, Tryz.ntmps94
  go_wp2_with fail
  go_region
  go_wp2_with fail
  go_ret
  exact ⟨by rw [HC.o]; rfl, ⟨rfl, rfl, rfl, aaa _, fun _ _ => rfl⟩⟩
theorem Nb (R:Nat)(lv:Value)(L:List Tok)(fin a:Nat)(s:ae.St)(nv:Value)(ns:List Nv)(w:World)(h:RS w R lv L fin a s nv ns)(x:Bytes):Calls Tryz.prog 168 #[.pointer (some ⟨R,0,none⟩),.string ⟨x.toArray⟩] w fun e w'=>e=.returned (.bool (ae.Qv x s.ts))/\Below w.heap.size w w':=by have H:=zq h;clear h;go_enter Tryz.func168,Tryz.ntmps168;go_wp2_with fail;refine(X4 R lv L fin a s nv ns _ H.o 0 3 x (by omega) (by omega)).mono ?_;rintro e w1 ⟨rfl,hb⟩;rw[Ha];have HB:=zq hb;clear hb;go_wp2_with fail;go_ret;exact⟨rfl,HB.o⟩
def Qdn (R:Nat)(lv:Value)(L:List Tok)(fin a:Nat)(s:ae.St)(nv:Value)(ns:List Nv)(x:Bytes)(w:World)(e:Ending)(w':World):Prop:=
 e=.returned (.bool (ae.Qv x s.ts))/\Wr R none w w'/\(if ae.Qv x s.ts then RS w' R lv L fin (a+1) s.aW nv ns else RS w' R lv L fin a s nv ns)
theorem Mw {L ts:List Tok}{a:Nat}(h:L.drop a=ts)(h0:ts≠[]):L.drop (a+1)=ts.tail/\a+1<=L.length/\ts.tail.length+1=ts.length:=by
 subst h;refine⟨by rw[adS],?_,?_⟩
 ·rcases Nat.lt_or_ge a L.length with h|h
  ·exact h
  exact absurd (aaR h) h0
 rw[aeI];have:=adJ.2 h0;omega
theorem Mf {x:Bytes}{ts:List Tok}(h:ae.Qv x ts=true):ts≠[]:=fun e=>by subst e;cases h
theorem Wd {k:Nat}{ts:List Tok}(h:ae.Qm k ts=true):ts≠[]:=fun e=>by subst e;cases h
theorem RS.aW {w:World}{R:Nat}{lv:Value}{L:List Tok}{fin a:Nat}{s:ae.St}{nv:Value}{ns:List Nv}(h:RS w R lv L fin a s nv ns)(h0:s.ts≠[]):RS (w.setCell ⟨R,1,none⟩ (.int .i64 ((a+1:Nat):Int))) R lv L fin (a+1) s.aW nv ns/\Wr R none w (w.setCell ⟨R,1,none⟩ (.int .i64 ((a+1:Nat):Int))):=by obtain⟨q1,q2,q3⟩:=Mw h.drop h0;exact h.ab0 1 _ (a+1) s.aW (by simp[ae.St.aW]) q1 q2 (by have:=h.few;show ns.length+s.ts.tail.length<=_;omega) h.deep
theorem Zy (R:Nat)(lv:Value)(L:List Tok)(fin a:Nat)(s:ae.St)(nv:Value)(ns:List Nv)(w:World)(h:RS w R lv L fin a s nv ns)(x:Bytes):Calls Tryz.prog 159 #[.pointer (some ⟨R,0,none⟩),.string ⟨x.toArray⟩] w (Qdn R lv L fin a s nv ns x w):=by
 have H:=zq h;have hle:=h.le;have aU:=h.short;clear h
 cases hm:ae.Qv x s.ts with
 |false=>
  have HM:=zq hm;clear hm;go_enter Tryz.func159,Tryz.ntmps159;go_wp2_with fail;refine(Nb R lv L fin a s nv ns _ H.o x).mono ?_;rintro e w1 ⟨rfl,hb⟩;rw[HM.o];have HB:=zq hb;clear hb;go_wp2_with fail;go_ret
  exact⟨by rw[HM.o];rfl,Wr.af HB.o,by rw[if_neg (by rw[HM.o];decide)];exact H.o.below HB.o⟩
 |true=>have HM:=zq hm;clear hm;go_enter Tryz.func159,Tryz.ntmps159;go_wp2_with fail;refine(Nb R lv L fin a s nv ns _ H.o x).mono ?_;rintro e w1 ⟨rfl,hb⟩;rw[HM.o];have HB:=zq hb;have HS:=zq (H.o.below hb);have c1:=HS.o.cells.2.1;have f1:=HS.o.eD 1;clear hb;go_wp2_with fail;go_ret;obtain⟨g1,g2⟩:=HS.o.aW (Mf HM.o);exact⟨by rw[HM.o];rfl,(Wr.af HB.o).trans (Mv.refl _ _) g2,by rw[if_pos HM.o];exact g1⟩
theorem Tryz.uy:(Tryz.prog.info? 5).map (fun i=>(i.zero,i.size,i.bytes))=some (some (.int .u8 0),1,1):=by kernel_rfl
def qY (l:List Nat):List Value:=l.map fun d=> .int .u8 (d:Nat)
theorem Gk (a b:List Nat):qY (a++b)=qY a++qY b:=by simp[qY]
theorem Th (w:World)(k:Nat)(s:ByteArray)(pos:Nat):w.grownBy (w.iterAt k s pos) (some k):=
 ⟨rfl,rfl,rfl,by rw[Lib.iterAt_size];exact aaa _,fun j _ hj=>Lib.iterAt_other w k j s pos (fun e=>hj (by rw[e]))⟩
theorem Qfm {B:Nat}{w:World}{v:Value}{ds:List Nat}(h:w.ownsRow B 5 1 v ds.length (qY ds))(hd:∀x∈ds,x<10):fY w v ds:=by obtain⟨ao,H,rfl,K,J,O⟩:=ag.Qj h;refine⟨fun k hk=>(h.lt k hk).2,ao,H,rfl,K,J,hd,fun i x hx=> ?_⟩;have T:i<ds.length:=(aae.1 hx).1;obtain⟨g,I,_,_,E⟩:=O (by omega);refine⟨g,0,I,?_⟩;rw[abx,E i (by omega)];simp[qY,hx]
def Qf7 (s:ByteArray)(w:World)(k:Nat)(f:Nat->List Nat)(dv:Value)(wr:World):Prop:=
 ∃pos,pos<=s.size/\wr.heap[k]?=some (.stringIter s pos)/\Below w.heap.size w wr/\wr.ownsRow w.heap.size 5 1 dv (f pos).length (qY (f pos))/\dv.ownBlock≠some k
theorem Jd {w:World}{k:Nat}{s:ByteArray}{p:Nat}(h:w.heap[k]?=some (.stringIter s p)):w.iterPos k=p:=by simp[World.iterPos,h]
def Re (n:Nat)(w:World)(e:Ending)(w':World):Prop:=∃v xs,e=.returned (.tuple #[v,.int .i64 0])/\Fr w.heap.size w' v xs/\val xs=n/\Qw xs=xs/\Below w.heap.size w w'
theorem Qm6 (s:ByteArray)(w:World)(hs:s.size<=67108864)(h0:0<s.size)(hd:∀c∈s.data.toList,aF.Qf c=true):Calls Tryz.prog 236 #[.string s,.int .i64 10] w (Re (aN (ag.aO s.data.toList)) w):=by
 obtain⟨i0,hi,hz0,hz1,hz2⟩:=abO Tryz.uy;have hsz:s.data.toList.length=s.size:=(abg s).symm;have dN:=zq hsz;have HD:=zq hd;clear hsz hd;go_enter Tryz.func236,Tryz.ntmps236;go_wp2_with (at_make;refine wpList_make_own _ rfl _ _ 88 rfl w.heap.size 5 i0 (.int .u8 0) 1 Tryz.underlying88 hi hz0 hz1 _ _ _ s.size rfl rfl rfl ?b1 ?b2 ?b3 ?_)
 case b1=>rw[hz2];omega
 case b2=>unfold maxLen;omega
 case b3=>exact aaa _
 intro w1 hown1 hgrow1;have hb1:Below w.heap.size w w1:=abq (aa8 _ _) hgrow1 (aaa _) (fun k hk=>by cases hk);have zh:=hb1.size;have HO:=zq hown1;have aC:=zq hb1;clear hown1 hgrow1 hb1;have GL:w.heap.size<w1.heap.size:=(HO.o.lt w.heap.size rfl).2;go_wp2_with fail;go_loopw [6] (fun v wr=>Qf7 s w w1.heap.size (fun pos=>ag.aO (s.data.toList.take pos)) v wr) (fun _ wr=>s.size-wr.iterPos w1.heap.size)
 case atStart=>exact⟨0,aao _,World.iter_heap w1 s 0,aC.o.alloc zh _,HO.o.alloc _,by simp[Value.ownBlock];omega⟩
 case round=>
  obtain⟨pos,dC,hit,bz,hown,hne⟩:=hrel;have eF:w1.heap.size<wr.heap.size:=(aal.1 hit).1;by_cases hlt:pos<s.size
  ·have hn:=fun ty=>Lib.run_next_any_at (P:=Tryz.prog) wr w1.heap.size s pos ty hit hlt
   have hpl:pos<s.data.toList.length:=by rw[dN.o];exact hlt
   have dO:=HD.o s.data.toList[pos] (ae6 hpl);have jw:=aaS hpl;have bT:s.data.toList.take (pos+1)=s.data.toList.take pos++[s.data.toList[pos]]:=adw hpl;generalize s.data.toList[pos]=b at*
   have oH:48<=b.toNat/\b.toNat<=57:=by simpa [aF.Qf] using dO
   obtain⟨hv,hwd⟩:=ag.Ce (b:=b) (r:=s.data.toList.drop (pos+1)) (by omega);rw[ag.W0 s pos hlt,ag.W5 s pos hlt,jw,hv,hwd]at hn;simp only[aeH]at hn
   have ey:Hid (ag.aO (s.data.toList.take (pos+1))=ag.aO (s.data.toList.take pos)++[b.toNat-48]):=by show _=_;rw[bT,ag.Km];rfl
   have mO:bp b.toNat=b.toNat-48:=by unfold bp;rw[if_pos oH]
   have ma:=zq mO
   have iz:(ag.aO (s.data.toList.take pos)).length=pos:=by rw[ag.aO,aay,aak];omega
   have oY:=zq iz;obtain⟨wi,ij⟩:=xq (wr.iterAt w1.heap.size s (pos+1):World)
   have q1:wi.ownsRow w.heap.size 5 1 u6 (ag.aO (s.data.toList.take pos)).length (qY (ag.aO (s.data.toList.take pos))):=by rw[ij];exact hown.kept (Th wr w1.heap.size s (pos+1)) (.inr hne)
   have q2:Below w.heap.size w wi:=by rw[ij];exact Lib.below_iterAt bz (abD GL) _ _
   have q3:wi.heap[w1.heap.size]?=some (.stringIter s (pos+1)):=by rw[ij];exact Lib.iterAt_heap _ _ _ _ _ hit
   have q4:w1.heap.size<wi.heap.size:=(aal.1 q3).1;rw[<-ij]at hn
   have HM:Hid (s.size-(pos+1)<s.size-wr.iterPos w1.heap.size):=by show _<_;rw[Jd hit];omega
   clear ij hown bz hit jw bT hv hwd dO mO iz;have Q3:=zq q3;have Q2:=zq q2;have bR:=zq hne;clear q3 q2 hne;obtain⟨BJ,BK⟩:=oH;obtain⟨dg,dO⟩:=xq (b.toNat-48)
   have yN:dg<10:=by omega
   have pS:=zq dO;generalize ag.aO (s.data.toList.take pos)=F at*
   have hF:F.length<=67108864:=by have:=oY.o;omega
   clear dO;go_wp2_with fail;refine(Tj b.toNat _ (by omega)).mono ?_;rintro e w' ⟨rfl,rfl⟩;rw[ma.o,<-pS.o];go_wp2_with (at_builtin;refine adv _ rfl _ _ 88 rfl w.heap.size 5 i0 (.int .u8 0) 1 1 Tryz.underlying88 hi hz0 hz1 hz2 rfl (by decide) _ _ _ rfl (abj q1 _) ⟨wi.heap.size,0,none⟩ 1 1 [.int .u8 (dg:Nat)] rfl rfl (ag.Qh _ _ _ _ rfl) (by simp[Value.oneCell']) (by unfold maxLen;omega) (by omega) (by simp;omega) ?_);intro v3 w3 au ak _ mJ
   have hF2:w3.ownsRow w.heap.size 5 1 v3 (ag.aO (s.data.toList.take (pos+1))).length (qY (ag.aO (s.data.toList.take (pos+1)))):=by rw[ey.o,Gk,aac,<-pS.o];exact au
   have jz:w3.heap[w1.heap.size]?=some (.stringIter s (pos+1)):=
    (ak.block w1.heap.size (by simp;omega) (fun e=>bR.o e.symm)).trans ((aeu _ _ _ q4).trans Q3.o)
   have kF:Hid (Qf7 s w w1.heap.size (fun pos=>ag.aO (s.data.toList.take pos)) v3 w3):=⟨pos+1,by omega,jz,abq (Q2.o.alloc (by omega) _) ak (by simp;omega) (fun q hq=>(aaZ q1 q hq).1),hF2,by
    rcases mJ with h|h
    ·rw[h];exact bR.o
    rw[h];simp;omega⟩
   have mj:Hid (s.size-w3.iterPos w1.heap.size<s.size-wr.iterPos w1.heap.size):=by show _<_;rw[Jd jz];exact HM.o
   clear au ak mJ hF2 jz q1;go_wp2_with fail
   first|exact⟨kF.o,mj.o⟩|exact⟨by (repeat apply Exists.intro);exact⟨kF.o,rfl⟩,mj.o⟩
  have hn:=fun ty=>Lib.run_next_end_at (P:=Tryz.prog) wr w1.heap.size s pos ty hit hlt;have y8:s.data.toList.take pos=s.data.toList:=aat (by rw[dN.o];omega);simp only[y8]at hown
  have cD:(ag.aO s.data.toList).length=s.size:=by rw[ag.aO,aay,dN.o]
  have iu:=zq (Qfm hown (fun x hx=>by
   simp only[ag.aO,adR]at hx;obtain⟨c,hc,rfl⟩:=hx;have:=HD.o c hc
   have h2:48<=c.toNat/\c.toNat<=57:=by simpa [aF.Qf] using this
   omega))
  obtain⟨ao,cp,qK,-,-⟩:=iu.o.shape;rw[cD]at qK;subst qK;have nZ:=zq cD;have dw:=zq bz;have xb:=bz.size;clear hown bz y8 cD hit hne;go_wp2_with fail;refine(Qj4 (ag.aO s.data.toList) _ _ (by rw[nZ.o];omega) iu.o).mono ?_;rintro e w2 ⟨v2,x2,rfl,a1,a2,a3,a4,a5⟩;have A1:=zq a1.1;have A2:=zq a2;have A4:=zq a4;have A5:Hid (Below w.heap.size w w2):=dw.o.trans (a5.mono xb)
  have hx2:x2.length<=67108864:=by have:=nZ.o;omega
  clear a1 a2 a3 a4 a5;go_wp2_with fail;refine(Jt _ x2 _ A1.o (by omega)).mono ?_;rintro e w3 ⟨v3,rfl,hf,hb3⟩;rw[A4.o]at hf;have B1:=zq (hf.mono A5.o.size);have B5:Hid (Below w.heap.size w w3):=A5.o.trans (hb3.mono A5.o.size);clear hf hb3;go_wp2_with fail;go_ret2;exact⟨_,x2,rfl,B1.o,A2.o,A4.o,B5.o⟩
theorem Kr (s:ByteArray)(w:World)(hs:s.size<=67108864)(h0:0<s.size)(hd:∀c∈s.data.toList,aF.Qf c=true):Calls Tryz.prog 209 #[.string s] w (Re (aN (ag.aO s.data.toList)) w):=by have HD:=zq hd;clear hd;go_enter Tryz.func209,Tryz.ntmps209;go_wp2_with fail;refine(Qm6 s _ hs h0 HD.o).mono ?_;rintro e w2 ⟨v2,x2,rfl,a1,a2,a4,a5⟩;have A1:=zq a1;have A2:=zq a2;have A4:=zq a4;have A5:=zq a5;clear a1 a2 a4 a5;go_wp2_with fail;go_ret2;exact⟨_,x2,rfl,A1.o,A2.o,A4.o,A5.o⟩
def YY (s:ByteArray)(w:World)(k:Nat)(dv bv:Value)(wr:World):Prop:=
 ∃(pos:Nat) (bb:Bool),pos<=s.size/\wr.heap[k]?=some (.stringIter s pos)/\Below w.heap.size w wr/\cz w.heap.size wr dv ((s.data.toList.take pos).filter aF.Qf)/\dv.ownBlock≠some k/\bv=.bool bb/\Hid (bb=ag.mz s.data.toList pos)/\ag.Mn s.data.toList pos
def Qcc (t:ag.Bytes)(w:World)(e:Ending)(w':World):Prop:=
 (ag.Xi t=true/\e=.returned (.tuple #[.slice none 0 0,.int .i64 7])/\Below w.heap.size w w')\/(ag.Xi t=false/\Re (aN (ag.aO (t.filter aF.Qf))) w e w')
theorem Qws {t:ag.Bytes}(hr:ag.Jl t)(h0:t≠[])(hb:ag.Xi t=false):0<(t.filter aF.Qf).length:=by
 have E:=ag.Qwm h0 hb;have J:0<t.length:=adJ.2 h0;simp only[ag.mz,aaY,bne_iff_ne]at E;have H:t[t.length-1]∈t:=ae6 (by omega)
 have I:aF.Qf t[t.length-1]=true:=by
  rcases hr _ H with h|h
  ·exact h
  exact absurd (by rw[aad (by omega),h]) E.2
 exact adJ.2 (List.ne_nil_of_mem (List.mem_filter.2 ⟨H,I⟩))
theorem K9 (s:ByteArray)(w:World)(hs:s.size<=67108864)(h0:0<s.size)(hr:ag.Jl s.data.toList):Calls Tryz.prog 167 #[.string s] w (Qcc s.data.toList w):=by
 obtain⟨i0,hi,hz0,hz1,hz2⟩:=abO Tryz.uy;have hsz:s.data.toList.length=s.size:=(abg s).symm;have dN:=zq hsz;have HD:=zq hr
 have IW:Hid (s.data.toList≠[]):=by intro h;rw[h]at hsz;simp at hsz;omega
 clear hsz hr;go_enter Tryz.func167,Tryz.ntmps167;go_wp2_with (at_make;refine wpList_make_own _ rfl _ _ 88 rfl w.heap.size 5 i0 (.int .u8 0) 1 Tryz.underlying88 hi hz0 hz1 _ _ _ s.size rfl rfl rfl ?b1 ?b2 ?b3 ?_)
 case b1=>rw[hz2];omega
 case b2=>unfold maxLen;omega
 case b3=>exact aaa _
 intro w1 hown1 hgrow1;have hb1:Below w.heap.size w w1:=abq (aa8 _ _) hgrow1 (aaa _) (fun k hk=>by cases hk);have zh:=hb1.size;have HO:=zq hown1;have aC:=zq hb1;clear hown1 hgrow1 hb1;have GL:w.heap.size<w1.heap.size:=(HO.o.lt w.heap.size rfl).2;go_wp2_with fail;go_loopw [4,5] (fun v b wr=>YY s w w1.heap.size v b wr) (fun _ _ wr=>s.size-wr.iterPos w1.heap.size)
 case atStart=>exact⟨0,false,aao _,World.iter_heap w1 s 0,aC.o.alloc zh _,HO.o.alloc _,by simp[Value.ownBlock];omega,rfl,rfl,ag.Qq5 _⟩
 case round=>
  obtain⟨pos,bb,dC,hit,bz,hown,hne,rfl,km,aZ⟩:=hrel;have eF:w1.heap.size<wr.heap.size:=(aal.1 hit).1;have dt:=zq aZ;clear aZ;by_cases hlt:pos<s.size
  ·have hn:=fun ty=>Lib.run_next_any_at (P:=Tryz.prog) wr w1.heap.size s pos ty hit hlt
   have hpl:pos<s.data.toList.length:=by rw[dN.o];exact hlt
   have dO:=HD.o s.data.toList[pos] (ae6 hpl);have jw:=aaS hpl;have bT:s.data.toList.take (pos+1)=s.data.toList.take pos++[s.data.toList[pos]]:=adw hpl;have hat:s.data.toList[pos]?=some s.data.toList[pos]:=aad hpl;generalize s.data.toList[pos]=b at*
   have yK:b.toNat<128:=by
    rcases dO with h|h
    ·have:48<=b.toNat/\b.toNat<=57:=by simpa [aF.Qf] using h
     omega
    rw[h];decide
   obtain⟨hv,hwd⟩:=ag.Ce (b:=b) (r:=s.data.toList.drop (pos+1)) yK;rw[ag.W0 s pos hlt,ag.W5 s pos hlt,jw,hv,hwd]at hn;simp only[aeH]at hn;have ey:=zq bT;have fS:=zq hat;obtain⟨F,hF⟩:=xq ((s.data.toList.take pos).filter aF.Qf);rw[<-hF]at hown
   have hFl:F.length<=67108864:=by have h1:=aes aF.Qf (s.data.toList.take pos);have h2:=aeC pos s.data.toList;rw[hF];omega
   have HF:=zq hF;obtain⟨wi,ij⟩:=xq (wr.iterAt w1.heap.size s (pos+1):World)
   have q1:wi.ownsRow w.heap.size 5 1 u4 F.length (Qr F):=by rw[ij];exact World.ownsRow.kept hown (Th wr w1.heap.size s (pos+1)) (.inr hne)
   have q2:Below w.heap.size w wi:=by rw[ij];exact Lib.below_iterAt bz (abD GL) _ _
   have q3:wi.heap[w1.heap.size]?=some (.stringIter s (pos+1)):=by rw[ij];exact Lib.iterAt_heap _ _ _ _ _ hit
   have q4:w1.heap.size<wi.heap.size:=(aal.1 q3).1;rw[<-ij]at hn
   have HM:Hid (s.size-(pos+1)<s.size-wr.iterPos w1.heap.size):=by show _<_;rw[Jd hit];omega
   clear ij hown bz hit jw bT hv hwd hF hat;have Q3:=zq q3;have Q2:=zq q2;have bR:=zq hne;clear q3 q2 hne;by_cases kp:aF.Qf b=true
   ·have oH:48<=b.toNat/\b.toNat<=57:=by simpa [aF.Qf] using kp
    obtain⟨BJ,BK⟩:=oH
    have acY:((b.toNat:Int)==95)=false:=by simp;omega
    have s9:b≠95:=by rintro rfl;exact absurd kp (by decide)
    have ma:Hid (bp b.toNat=b.toNat-48):=by show _=_;unfold bp;rw[if_pos ⟨BJ,BK⟩]
    have XB:Hid ((s.data.toList.take (pos+1)).filter aF.Qf=F++[b]):=by show _=_;rw[ey.o,List.filter_append,HF.o];simp[kp]
    have UE:Hid (true=ag.mz s.data.toList (pos+1)):=by show _=_;rw[ag.Ar,fS.o];simp[s9]
    have iG:=zq (ag.Ku dt.o (fun h=>by rw[fS.o]at h;exact absurd (aax h) s9));obtain⟨dg,ME⟩:=xq (b.toNat-48)
    have yN:dg<10:=by omega
    have pS:=zq ME;clear dO kp s9 ME km;go_wp2_with fail;refine(Tj b.toNat _ (by omega)).mono ?_;rintro e w' ⟨rfl,rfl⟩;rw[ma.o,<-pS.o];go_wp2_with (at_builtin;refine adv _ rfl _ _ 88 rfl w.heap.size 5 i0 (.int .u8 0) 1 1 Tryz.underlying88 hi hz0 hz1 hz2 rfl (by decide) _ _ _ rfl (abj q1 _) ⟨wi.heap.size,0,none⟩ 1 1 [.int .u8 b.toNat] rfl rfl (ag.Qh _ _ _ _ rfl) (by simp[Value.oneCell']) (by unfold maxLen;omega) (by omega) (by simp;omega) ?_);intro v3 w3 au ak _ mJ
    have hF2:cz w.heap.size w3 v3 ((s.data.toList.take (pos+1)).filter aF.Qf):=by show World.ownsRow _ _ _ _ _ _ _;rw[XB.o,Qo,aac];exact au
    have jz:w3.heap[w1.heap.size]?=some (.stringIter s (pos+1)):=
     (ak.block w1.heap.size (by simp;omega) (fun e=>bR.o e.symm)).trans ((aeu _ _ _ q4).trans Q3.o)
    have kF:Hid (YY s w w1.heap.size v3 (.bool true) w3):=⟨pos+1,true,by omega,jz,abq (Q2.o.alloc (by omega) _) ak (by simp;omega) (fun q hq=>(aaZ q1 q hq).1),hF2,by
     rcases mJ with h|h
     ·rw[h];exact bR.o
     rw[h];simp;omega,rfl,UE.o,iG.o⟩
    have mj:Hid (s.size-w3.iterPos w1.heap.size<s.size-wr.iterPos w1.heap.size):=by show _<_;rw[Jd jz];exact HM.o
    clear au ak mJ hF2 jz q1;go_wp2_with fail
    first|exact⟨kF.o,mj.o⟩|exact⟨by (repeat apply Exists.intro);exact⟨kF.o,rfl⟩,mj.o⟩
   have s9:b=95:=dO.resolve_left kp;subst s9
   have XB:Hid ((s.data.toList.take (pos+1)).filter aF.Qf=F):=by show _=_;rw[ey.o,List.filter_append,HF.o];simp[kp]
   have wM:(95:UInt8).toNat=95:=rfl;rw[wM]at hn;clear dO kp wM yK
   cases bb with
   |true=>
    have UE:Hid (false=ag.mz s.data.toList (pos+1)):=by show _=_;rw[ag.Ar,fS.o];rfl
    have iG:=zq (ag.Ku dt.o (fun _=>km.o.symm));have kF:Hid (YY s w w1.heap.size u4 (.bool false) wi):=⟨pos+1,false,by omega,Q3.o,Q2.o,by rw[XB.o];exact q1,bR.o,rfl,UE.o,iG.o⟩
    have mj:Hid (s.size-wi.iterPos w1.heap.size<s.size-wr.iterPos w1.heap.size):=by show _<_;rw[Jd Q3.o];exact HM.o
    clear km q1;go_wp2_with fail
    first|exact⟨kF.o,mj.o⟩|exact⟨by (repeat apply Exists.intro);exact⟨kF.o,rfl⟩,mj.o⟩
   |false=>have zu:=zq (ag.Qfh fS.o km.o.symm);clear km q1;go_wp2_with fail;refine(Tj 95 _ (by omega)).mono ?_;rintro e w' ⟨rfl,rfl⟩;rw[show bp 95=36 from by decide];go_wp2_with fail;go_ret2;exact .inl ⟨zu.o,rfl,Q2.o⟩
  have hn:=fun ty=>Lib.run_next_end_at (P:=Tryz.prog) wr w1.heap.size s pos ty hit hlt;have y8:s.data.toList.take pos=s.data.toList:=aat (by rw[dN.o];omega)
  have hpp:pos=s.data.toList.length:=by rw[dN.o];omega
  rw[y8]at hown;have dw:=zq bz;have xb:=bz.size
  have iG:Hid (ag.Mn s.data.toList s.data.toList.length):=by rw[<-hpp];exact dt.o
  have wW:Hid (bb=ag.mz s.data.toList s.data.toList.length):=by rw[<-hpp];exact km
  clear bz y8 hit hne km dt hpp
  cases bb with
  |false=>
   have zu:=zq (ag.Fs IW.o wW.o.symm);clear wW hown;go_wp2_with fail;go_ret2
   exact .inl ⟨zu.o,rfl,dw.o⟩
  |true=>
   have kG:=zq (ag.Qy8 iG.o wW.o.symm);have hcv:=J8 (B:=w.heap.size) (w:=wr) (v:=u4) hown;have iz:=Qws HD.o IW.o kG.o;have MJ:=aes aF.Qf s.data.toList;rw[dN.o]at MJ
   have MK:(⟨(s.data.toList.filter aF.Qf).toArray⟩:ByteArray).size=(s.data.toList.filter aF.Qf).length:=by rw[abg]
   have cL:Hid ((⟨(s.data.toList.filter aF.Qf).toArray⟩:ByteArray).size<=67108864):=by show _<=_;rw[MK];omega
   have pZ:Hid (0<(⟨(s.data.toList.filter aF.Qf).toArray⟩:ByteArray).size):=by show _<_;rw[MK];omega
   have HFD:Hid (∀c∈(⟨(s.data.toList.filter aF.Qf).toArray⟩:ByteArray).data.toList,aF.Qf c=true):=by intro c hc;simp only[List.toList_toArray]at hc;exact(List.mem_filter.1 hc).2
   clear wW hown iz MJ MK;go_wp2_with fail;refine(Kr _ wr cL.o pZ.o HFD.o).mono ?_;rintro e w2 ⟨v2,x2,rfl,a1,a2,a4,a5⟩;have A1:=zq (a1.mono xb);have A2:=zq a2;have A4:=zq a4;have A5:Hid (Below w.heap.size w w2):=dw.o.trans (a5.mono xb);clear a1 a2 a4 a5;go_wp2_with fail;go_ret2;exact .inr ⟨kG.o,_,x2,rfl,A1.o,A2.o,A4.o,A5.o⟩
def Sz (c k:Nat):Ending:=.panicked [{v:=.iface 81 (.agg #[.int .i64 (c:Nat),.int .i64 (k:Nat)]),recovered:=false}]
theorem Sn (R:Nat)(lv:Value)(L:List Tok)(fin a:Nat)(s:ae.St)(nv:Value)(ns:List Nv)(w:World)(h:RS w R lv L fin a s nv ns):Calls Tryz.prog 56 #[.pointer (some ⟨R,0,none⟩)] w fun e w'=>e=Sz (ae.X5 fin s.ts) 14/\Below w.heap.size w w':=by have H:=zq h;clear h;go_enter Tryz.func56,Tryz.ntmps56;go_wp2_with fail;refine(Qm4 R lv L fin a s nv ns _ H.o).mono ?_;rintro e w1 ⟨rfl,hb⟩;have HB:=zq hb;clear hb;go_wp2_with fail;exact⟨rfl,rfl,HB.o⟩
def RB {α:Type}(r:ae.PR α)(R:Nat)(lv:Value)(L:List Tok)(fin:Nat)(s:ae.St)(nv:Value)(ns:List Nv)(Q:α->Value->World->Prop)(w:World)(e:Ending)(w':World):Prop:=
 match r with
 |none=>False
 |some (.error (c,k))=>e=Sz c k/\Wr R none w w'
 |some (.ok (x,s'))=> ∃v a',e=.returned v/\RS w' R lv L fin a' s' nv ns/\Wr R none w w'/\s'.ts.length<=s.ts.length/\Q x v w'
theorem Vc (s:ae.St):s.aW.ts.length<=s.ts.length:=by show s.ts.tail.length<=_;rw[aeI];omega
theorem Rb (R:Nat)(lv:Value)(L:List Tok)(fin a:Nat)(s:ae.St)(nv:Value)(ns:List Nv)(w:World)(h:RS w R lv L fin a s nv ns)(x:Bytes):Calls Tryz.prog 96 #[.pointer (some ⟨R,0,none⟩),.string ⟨x.toArray⟩] w (RB (ae.want fin x s) R lv L fin s nv ns (fun _ v _=>v=.tuple #[]) w):=by
 have H:=zq h;clear h
 cases hm:ae.Qv x s.ts with
 |false=>
  have HM:=zq hm;clear hm;go_enter Tryz.func96,Tryz.ntmps96;go_wp2_with fail;refine(Zy R lv L fin a s nv ns _ H.o x).mono ?_;rintro e w1 ⟨rfl,b1,b2⟩;rw[if_neg (by rw[HM.o];decide)]at b2;rw[HM.o];have aC:=zq b1;have aD:=zq b2;clear b1 b2;go_wp2_with fail;refine(Sn R lv L fin a s nv ns _ aD.o).mono ?_;rintro e w2 ⟨rfl,b3⟩;have aS:=zq b3;clear b3;refine⟨rfl,?_⟩;unfold ae.want;rw[if_neg (by rw[HM.o];decide)]
  exact⟨rfl,aC.o.trans (Mv.refl _ _) (Wr.af aS.o)⟩
 |true=>have HM:=zq hm;clear hm;go_enter Tryz.func96,Tryz.ntmps96;go_wp2_with fail;refine(Zy R lv L fin a s nv ns _ H.o x).mono ?_;rintro e w1 ⟨rfl,b1,b2⟩;rw[if_pos HM.o]at b2;rw[HM.o];have aC:=zq b1;have aD:=zq b2;clear b1 b2;go_wp2_with fail;go_end0;show RB (ae.want fin x s) _ _ _ _ _ _ _ _ _ _ _;unfold ae.want;rw[if_pos HM.o];exact⟨_,_,rfl,aD.o,aC.o,Vc s,rfl⟩
theorem Qk4 (R:Nat)(lv:Value)(L:List Tok)(fin a:Nat)(s:ae.St)(nv:Value)(ns:List Nv)(w:World)(h:RS w R lv L fin a s nv ns):Calls Tryz.prog 95 #[.pointer (some ⟨R,0,none⟩)] w (RB (ae.name fin s) R lv L fin s nv ns (fun x v _=>v=.string ⟨x.toArray⟩) w):=by
 have H:=zq h;have hc:=Zj 2 [] s.ts (by decide)
 cases hm:ae.Qm 2 s.ts with
 |false=>
  rw[hm]at hc;have HM:=zq hm;have HC:=zq hc;clear hm hc h;go_enter Tryz.func95,Tryz.ntmps95;go_wp2_with fail;refine(X4 R lv L fin a s nv ns _ H.o 0 2 [] (by omega) (by omega)).mono ?_;rintro e w1 ⟨rfl,b1⟩;rw[HC.o];have aC:=zq b1;clear b1;go_wp2_with fail;refine(Sn R lv L fin a s nv ns _ (H.o.below aC.o)).mono ?_;rintro e w2 ⟨rfl,b3⟩;refine⟨rfl,?_⟩;unfold ae.name;rw[if_neg (by rw[HM.o];decide)]
  exact⟨rfl,(Wr.af aC.o).trans (Mv.refl _ _) (Wr.af b3)⟩
 |true=>
  rw[hm]at hc;obtain⟨c0,c1,-,-,-⟩:=h.cells;obtain⟨ao,cap,rfl,t1,t2,t3⟩:=h.tks;have aU:=h.short;obtain⟨p1,p2,p3⟩:=Mw h.drop (Wd hm)
  have hn:a<L.length:=by omega
  obtain⟨g,rfl,hg,dA⟩:=t3 (by omega);obtain⟨t,ht⟩:∃t,L[a]?=some t:=⟨_,aad hn⟩;obtain⟨d0,d1,d2⟩:=dA a t ht
  have hx:ae.Xx s.ts=t.2.1:=by rw[<-h.drop,aeA,ht];rfl
  have aT:=h.lt;have HM:=zq hm;have HC:=zq hc;have HX:=zq hx;have C0:=zq c0;have C1:=zq c1;have D1:=zq d1;obtain⟨tk,tt,tc⟩:=t;clear hm hc h t3 dA ht hx c0 c1 d0 d1 d2 p1 p2 p3;go_enter Tryz.func95,Tryz.ntmps95;go_wp2_with fail;refine(X4 R _ L fin a s nv ns _ H.o 0 2 [] (by omega) (by omega)).mono ?_;rintro e w1 ⟨rfl,b1⟩;rw[HC.o];have aC:=zq b1;have cL:=zq (H.o.below b1);have e0:=cL.o.cells.1;have e1:=cL.o.cells.2.1;have e2:w1.cell? ⟨g,a*3+1,none⟩=some (.string ⟨tt.toArray⟩):=(b1.cell (p:=⟨g,a*3+1,none⟩) (by show g<_;omega)).trans D1.o;have f1:=cL.o.eD 1;have cr:=zq (H.o.below (b1.trans ((below_drewN w1 1).mono b1.size)));clear b1;go_wp2_with fail;go_region;go_wp2_with fail;go_ret;obtain⟨g1,g2⟩:=cr.o.aW (Wd HM.o);unfold ae.name;rw[if_pos HM.o,HX.o];exact⟨_,_,rfl,g1,(Wr.af aC.o).trans (Mv.refl _ _) (((Wr.af (below_drewN w1 1))).trans (Mv.refl _ _) g2),Vc s,rfl⟩
def bM (B:Nat)(w:World)(v:Value)(n:Nat):Prop:=lY w v n/\(∀q,v.ownBlock=some q->B<=q/\q<w.heap.size)/\(lenOf v=0↔n=0)
theorem bM.wr {B R:Nat}{og:Option Nat}{w w':World}{v:Value}{n:Nat}(h:bM B w v n)(hw:Wr R og w w')(hR:R<B)(ho:∀q,og=some q->q<B):bM B w' v n:=by obtain⟨⟨xs,H,I,J⟩,E,K⟩:=h;exact⟨⟨xs,H.wr hw (fun q hq=>⟨by have:=E q hq;omega,fun e=>by have:=E q hq;have:=ho q e;omega⟩),I,J⟩,fun q hq=>⟨(E q hq).1,aaj (E q hq).2 hw.size⟩,K⟩
theorem bM.set {B R:Nat}{w:World}{v:Value}{n:Nat}(h:bM B w v n)(hR:R<B)(o:Nat)(u:Value):bM B (w.setCell ⟨R,o,none⟩ u) v n:=
 h.wr (og:=none) (Wr.aI w o u) hR (fun q hq=>by cases hq)
theorem bM.mono {B B':Nat}{w:World}{v:Value}{n:Nat}(h:bM B w v n)(hb:B'<=B):bM B' w v n:=⟨h.1,fun q hq=>⟨aan hb (h.2.1 q hq).1,(h.2.1 q hq).2⟩,h.2.2⟩
theorem Qzw (t:Bytes):ae.Xg t<10^t.length:=by
 have H:(aO (t.filter aF.Qf)).length<=t.length:=by rw[aO,aay];exact aes _ _
 have I:∀x∈aO (t.filter aF.Qf),x<10:=by intro x E;simp only[aO,adR]at E;obtain⟨c,J,rfl⟩:=E;have h:=(List.mem_filter.1 J).2;unfold aF.Qf at h;simp at h;omega
 exact aaj (Tm I) (adE (by omega) H)
theorem Qxg (t:Bytes)(w:World)(h1:Jl t)(h2:0<t.length)(h3:t.length<=67108864)(h4:Xi t=false):Calls Tryz.prog 167 #[.string ⟨t.toArray⟩] w fun e w'=> ∃v,e=.returned (.tuple #[v,.int .i64 0])/\bM w.heap.size w' v (ae.Xg t)/\Below w.heap.size w w':=by
 refine(K9 ⟨t.toArray⟩ w h3 h2 h1).mono ?_;rintro e w' (⟨h,-,-⟩|⟨-,v,xs,rfl,a1,a2,a3,a4⟩)
 ·exact absurd h (by show ¬Xi t=true;rw[h4];decide)
 have a2':ai.val xs=ae.Xg t:=a2;refine⟨v,rfl,⟨⟨xs,a1.1,a2',aan (Rv a3 (by rw[a2'];exact Qzw t)) h3⟩,a1.2,?_⟩,a4⟩;obtain⟨ao,E,rfl,-⟩:=a1.1.2;show xs.length=0↔_;rw[<-a2'];constructor
 ·intro e;rw[aaq e];rfl
 intro e;have:=Yw xs 0 (by rw[e];simp);rw[a3]at this;omega
theorem Ja (R:Nat)(lv:Value)(L:List Tok)(fin a:Nat)(s:ae.St)(nv:Value)(ns:List Nv)(w:World)(h:RS w R lv L fin a s nv ns):Calls Tryz.prog 111 #[.pointer (some ⟨R,0,none⟩)] w (RB (ae.Qa fin s) R lv L fin s nv ns (fun x v w'=>bM w.heap.size w' v x) w):=by
 have H:=zq h;have hc:=Zj 1 [] s.ts (by decide)
 cases hm:ae.Qm 1 s.ts with
 |false=>
  rw[hm]at hc;have HM:=zq hm;have HC:=zq hc;clear hm hc h;go_enter Tryz.func111,Tryz.ntmps111;go_wp2_with fail;refine(X4 R lv L fin a s nv ns _ H.o 0 1 [] (by omega) (by omega)).mono ?_;rintro e w1 ⟨rfl,b1⟩;rw[HC.o];have aC:=zq b1;clear b1;go_wp2_with fail;refine(Sn R lv L fin a s nv ns _ (H.o.below aC.o)).mono ?_;rintro e w2 ⟨rfl,b3⟩;refine⟨rfl,?_⟩;unfold ae.Qa;rw[if_neg (by rw[HM.o];decide)]
  exact⟨rfl,(Wr.af aC.o).trans (Mv.refl _ _) (Wr.af b3)⟩
 |true=>
  rw[hm]at hc;obtain⟨c0,c1,-,-,-⟩:=h.cells;obtain⟨ao,cap,rfl,t1,t2,t3⟩:=h.tks;have aU:=h.short;obtain⟨p1,p2,p3⟩:=Mw h.drop (Wd hm)
  have hn:a<L.length:=by omega
  obtain⟨g,rfl,hg,dA⟩:=t3 (by omega);obtain⟨t,ht⟩:∃t,L[a]?=some t:=⟨_,aad hn⟩;obtain⟨d0,d1,d2⟩:=dA a t ht
  have dm:s.ts=t::L.drop (a+1):=by rw[<-h.drop,aeA,ht];rfl
  have hx:ae.Xx s.ts=t.2.1:=by rw[dm];rfl
  have pH:t.1=1:=by
   rw[dm]at hm;obtain⟨tk,tt,tc⟩:=t
   simpa [ae.Qm] using hm
  have aZ:=h.good t (aah ht) pH;have aT:=h.lt;have HM:=zq hm;have HC:=zq hc;have HX:=zq hx;have D1:=zq d1;obtain⟨tk,tt,tc⟩:=t;have dt:=zq aZ;clear hm hc h t3 dA ht hx c0 c1 d0 d1 d2 p1 p2 p3 aZ pH dm;go_enter Tryz.func111,Tryz.ntmps111;go_wp2_with fail;refine(X4 R _ L fin a s nv ns _ H.o 0 1 [] (by omega) (by omega)).mono ?_;rintro e w1 ⟨rfl,b1⟩;rw[HC.o];have aC:=zq b1;have cL:=zq (H.o.below b1);have e0:=cL.o.cells.1;have e1:=cL.o.cells.2.1;have e2:w1.cell? ⟨g,a*3+1,none⟩=some (.string ⟨tt.toArray⟩):=(b1.cell (p:=⟨g,a*3+1,none⟩) (by show g<_;omega)).trans D1.o;have iL:R<w1.heap.size:=aaj aT b1.size
  have lC:g<w1.heap.size:=by omega
  clear b1;go_wp2_with fail
  go_region_held3 (fun w'=>w'.cell? ⟨R,0,none⟩=some (.slice (some ⟨g,0,none⟩) L.length cap)/\w'.cell? ⟨R,1,none⟩=some (.int .i64 (a:Nat))/\w'.cell? ⟨g,a*3+1,none⟩=some (.string ⟨tt.toArray⟩))
   (first
    |go_keep
    |exact⟨(a2.cell (p:=⟨R,0,none⟩) iL).trans e0,(a2.cell (p:=⟨R,1,none⟩) iL).trans e1,(a2.cell (p:=⟨g,a*3+1,none⟩) lC).trans e2⟩)
   ((go_at_call 167;refine(Qxg tt _ dt.o.1 dt.o.2.1 dt.o.2.2.1 dt.o.2.2.2).mono ?_;rintro e w3 ⟨v3,rfl,a1,a2⟩))
  have A1:=zq a1;have A2:Hid (Below w1.heap.size w1 w3):=(below_drewN w1 1).trans a2;have gR:=zq (cL.o.below A2.o);have c1:=gR.o.cells.2.1;have f1:=gR.o.eD 1;clear a1 a2 e0 e1 e2;go_wp2_with fail;go_ret;obtain⟨g1,g2⟩:=gR.o.aW (Wd HM.o);unfold ae.Qa;rw[if_pos HM.o,HX.o];refine⟨_,_,rfl,g1,(Wr.af aC.o).trans (Mv.refl _ _) (((Wr.af A2.o)).trans (Mv.refl _ _) g2),Vc s,?_⟩;exact(bM.mono (bM.set (R:=R) A1.o iL 1 _) aC.o.size)
theorem Tryz.jL:(Tryz.prog.info? 43).map (fun i=>(i.zero,i.size,i.bytes))=some (some (.agg #[.int .i64 0,.string ⟨#[]⟩,.slice none 0 0]),3,48):=by kernel_rfl
def ft (w:World)(R:Nat)(nv:Value)(ns:List Nv)(v:Value)(ks:List Nat):Prop:=KR w R nv.ownBlock v ks/\ ∀p∈ns,∀q,p.2.ownBlock=some q->v.ownBlock≠some q
theorem RS.put {w w2:World}{R:Nat}{lv:Value}{L:List Tok}{fin a:Nat}{s:ae.St}{nv:Value}{ns:List Nv}(h:RS w R lv L fin a s nv ns){kv:Value}{nd:ae.Node}(hk:ft w R nv ns kv nd.kids)(hf:ns.length+1+s.ts.length<=134217728){gg cap:Nat}
  (hown:w2.ownsRow (R+1) 43 3 (.slice (some ⟨gg,0,none⟩) (ns.length+1) cap) (ns.length+1) (Xb ns++Xb [(nd,kv)])) (hg:w.grownBy w2 nv.ownBlock) (hat:nv.ownBlock=some gg\/gg=w.heap.size):
  RS (w2.setCell ⟨R,4,none⟩ (.slice (some ⟨gg,0,none⟩) (ns.length+1) cap)) R lv L fin a s (.slice (some ⟨gg,0,none⟩) (ns.length+1) cap) (ns++[(nd,kv)])/\Wr R nv.ownBlock w (w2.setCell ⟨R,4,none⟩ (.slice (some ⟨gg,0,none⟩) (ns.length+1) cap))/\Mv w nv.ownBlock (Value.ownBlock (.slice (some ⟨gg,0,none⟩) (ns.length+1) cap)):=by
 have a2:some R≠nv.ownBlock:=fun e=>by have:=h.gt R e.symm;omega
 have hb:=(hg.block R h.lt a2).trans h.blk;have a1:=aas w2 R 4 #[lv,.int .i64 (a:Nat),.int .i64 (fin:Nat),.int .i64 (s.opened:Nat),nv] 85 (.slice (some ⟨gg,0,none⟩) (ns.length+1) cap) hb;have H:Wr R nv.ownBlock w (w2.setCell ⟨R,4,none⟩ (.slice (some ⟨gg,0,none⟩) (ns.length+1) cap)):=(Wr.cV hg).trans (Mv.refl _ _) (Wr.aI w2 4 _)
 have J:Mv w nv.ownBlock (Value.ownBlock (.slice (some ⟨gg,0,none⟩) (ns.length+1) cap)):=by
  intro k hk
  cases hk
  rcases hat with h|h
  ·exact .inl h
  exact .inr (adK h.symm)
 have I:(ns++[(nd,kv)]).length=ns.length+1:=by simp
 refine⟨⟨a1.trans (by simp),h.tks.wr H h.lt h.gt,h.drop,h.le,?_,?_,?_,by rw[I];exact hf,h.deep,h.short,h.sum,h.good,h.sg.wr H (aeZ h.sgl) (fun e=>by have:=h.gt _ e;have:=h.sgl;omega),h.sgl⟩,H,J⟩
 ·rw[I,Uf]
  exact ad6 hown (by simp) _
 ·intro p K
  rcases abZ.1 K with K|K
  ·exact(h.kids p K).wr H J
  rw[abu.1 K];exact hk.1.wr H J
 intro i j p q k E hj O T
 have U:∀(i:Nat) (p:Nv),(ns++[(nd,kv)])[i]?=some p->(ns[i]?=some p/\i<ns.length)\/(i=ns.length/\p=(nd,kv)):=by
  intro i p E;by_cases hlt:i<ns.length
  ·rw[ab1 hlt]at E;exact .inl ⟨E,hlt⟩
  have:=(aae.1 E).1;rw[I]at this
  have e:i=ns.length:=by omega
  subst e;rw[abw (aaa _)]at E;simp at E;exact .inr ⟨rfl,E.symm⟩
 rcases U i p E with ⟨Z,a5⟩|⟨Z,rfl⟩<;>rcases U j q hj with ⟨h2,a6⟩|⟨h2,rfl⟩
 ·exact h.apart i j p q k Z h2 O T
 ·exact absurd T (hk.2 p (aah Z) k O)
 ·exact absurd O (hk.2 q (aah h2) k T)
 omega
def YK (R:Nat)(lv:Value)(L:List Tok)(fin a:Nat)(s:ae.St)(nv:Value)(ns:List Nv)(nd:ae.Node)(kv:Value)(w:World)(e:Ending)(w':World):Prop:=
 ∃dR,e=.returned (.int .i64 (ns.length:Nat))/\RS w' R lv L fin a s dR (ns++[(nd,kv)])/\Wr R nv.ownBlock w w'/\Mv w nv.ownBlock dR.ownBlock
theorem Fm (R:Nat)(lv:Value)(L:List Tok)(fin a:Nat)(s:ae.St)(nv:Value)(ns:List Nv)(w:World)(h:RS w R lv L fin a s nv ns)(nd:ae.Node)(kv:Value)(hk:ft w R nv ns kv nd.kids)(hf:ns.length+1+s.ts.length<=134217728):Calls Tryz.prog 93 #[.pointer (some ⟨R,0,none⟩),.int .i64 (nd.op:Nat),.string ⟨nd.text.toArray⟩,kv] w (YK R lv L fin a s nv ns nd kv w):=by
 obtain⟨i0,hi,hz0,hz1,hz2⟩:=abO Tryz.jL;obtain⟨ko,aj,hkv,-⟩:=hk.1
 have eK:ns.length<=134217728:=by omega
 have HK:=zq hk;have HH:=zq h;obtain⟨op,text,kids⟩:=nd;subst hkv;have HA:=zq (Qq w (.cells #[.int .i64 (op:Nat),.string ⟨text.toArray⟩,.slice ko kids.length aj] 43));have HS:=zq (h.below HA.o);have gL:Hid (ft (w.alloc (.cells #[.int .i64 (op:Nat),.string ⟨text.toArray⟩,.slice ko kids.length aj] 43)) R nv ns (.slice ko kids.length aj) kids):=⟨hk.1.wr (Wr.af HA.o) (Mv.refl _ _),hk.2⟩;have kH:Hid (R<(w.alloc (.cells #[.int .i64 (op:Nat),.string ⟨text.toArray⟩,.slice ko kids.length aj] 43)).heap.size):=HS.o.lt
 have bR:Hid (some R≠nv.ownBlock):=fun e=>by have:=HS.o.gt R e.symm;omega
 have c4:=h.cells.2.2.2.2;have vK:=zq HS.o.cells.2.2.2.2;have QD:=zq (HS.o.eD 4);obtain⟨nl,xn⟩:=xq ns.length;have dH:=zq xn;have hsz:=h.lt;rw[<-xn]at eK
 have LI:(w.alloc (.cells #[.int .i64 (op:Nat),.string ⟨text.toArray⟩,.slice ko kids.length aj] 43)).ownsRow (R+1) 43 3 nv nl (Xb ns):=by rw[xn];exact HS.o.own
 have HOWN:=zq LI;clear h hk xn LI;go_enter Tryz.func93,Tryz.ntmps93;go_wp2_with (at_builtin;refine adr _ rfl _ _ 23 rfl (R+1) 43 i0 (.agg #[.int .i64 0,.string ⟨#[]⟩,.slice none 0 0]) 3 48 Tryz.underlying23 hi hz0 hz1 hz2 rfl (by omega) nv nl (Xb ns) rfl HOWN.o ⟨w.heap.size,0,none⟩ 1 1 [.int .i64 (op:Nat),.string ⟨text.toArray⟩,.slice ko kids.length aj] rfl rfl (ag.Qh _ _ _ _ rfl) (by simp[Value.oneCell']) (by omega) (by unfold maxLen;omega) (by omega) (by have:=kH.o;simp at this;simp;omega) (w.heap.size+1) (by simp) ?_);intro gg cap w5 aK hgrow hat cT;have d4:w5.cell? ⟨R,4,none⟩=some nv:=(hgrow.cell_far ⟨R,4,none⟩ kH.o bR.o).trans vK.o;have d5:w5.frozen? ⟨R,4,none⟩=false:=(hgrow.frozen_far ⟨R,4,none⟩ kH.o bR.o).trans QD.o;have HG:=zq (HS.o.put (kv:=.slice ko kids.length aj) (nd:=⟨op,text,kids⟩) gL.o hf (gg:=gg) (cap:=cap) (by rw[<-dH.o];exact aK) hgrow (by simpa using hat));rw[<-dH.o]at HG;clear aK hgrow hat cT;go_wp2_with fail;go_ret;exact⟨_,by rw[<-dH.o];rfl,HG.o.1,(Wr.af HA.o).trans (Mv.refl _ _) HG.o.2.1,fun k hk=>(HG.o.2.2 k hk).imp id (fun h=>aan HA.o.size h)⟩
theorem Qx1 (v:Value)(n:Nat)(w:World)(h:lY w v n):Calls Tryz.prog 110 #[v] w fun e w'=>e=.returned (.int .i64 (ae.side n:Nat))/\Below w.heap.size w w':=by
 obtain⟨xs,hr,hv,hl⟩:=h;have HR:=zq hr;obtain⟨ao,cap,rfl,bq,hcm,aZ,aU⟩:=hr.2;have bU:=zq (Qq w (.cells #[.int .u64 64] 101));have hblk:ba (w.alloc (.cells #[.int .u64 64] 101)) w.heap.size [64]:=⟨aaz w _,by intro x hx;simp at hx;subst hx;unfold BB;omega⟩;have r8:=zq (hblk.whole (by simp));have HV:=zq hv
 have qZ:ai.val [64]=64:=by simp[ai.val]
 obtain⟨ci,pz⟩:=xq (di (ai.val xs) (ai.val [64]));have zy:=zq pz;by_cases hlt:64<n
 ·have hcb:(0:Int)<ci:=by
   rw[pz,qZ,hv];unfold di;rw[if_neg (by omega),if_pos (by omega)];decide
  have HS:Hid (ae.side n=65):=by show _=_;unfold ae.side;rw[if_pos hlt]
  clear hr hv aZ aU hblk qZ pz hlt;go_enter Tryz.func110,Tryz.ntmps110;go_wp2_with fail;refine(Wz _ _ xs [64] _ (HR.o.below bU.o) r8.o).mono ?_;rintro e w1 ⟨rfl,b1⟩;rw[<-zy.o];have aC:=zq (bU.o.trans (b1.mono (by simp)));clear b1;go_wp2_with fail;go_ret;exact⟨by rw[HS.o];rfl,aC.o⟩
 have hcb: ¬((0:Int)<ci):=by
  rw[pz,qZ,hv];unfold di;split
  ·decide
  first|decide|(rw[if_neg (by omega)];decide)
 have HS:Hid (ae.side n=n):=by show _=_;unfold ae.side;rw[if_neg hlt]
 by_cases hx0:xs.length=0
 ·have hx:xs=[]:=aaq hx0
  subst hx
  have eQ:n=0:=by rw[<-hv];rfl
  subst eQ;clear hr hv aZ aU hblk qZ pz hlt;go_enter Tryz.func110,Tryz.ntmps110;go_wp2_with fail;refine(Wz _ _ [] [64] _ (HR.o.below bU.o) r8.o).mono ?_;rintro e w1 ⟨rfl,b1⟩;rw[<-zy.o];have aC:=zq (bU.o.trans (b1.mono (by simp)));clear b1;go_wp2_with fail;go_ret;exact⟨by rw[HS.o];rfl,aC.o⟩
 obtain⟨x,ys,rfl⟩:∃x ys,xs=x::ys:=by
  cases xs with
  |nil=>exact absurd rfl hx0
  |cons x ys=>exact⟨x,ys,rfl⟩
 have TI:x=n:=by
  have e:ai.val (x::ys)=x+BB*ai.val ys:=rfl;rw[hv]at e;by_cases hy:ai.val ys=0
  ·rw[hy]at e;omega
  have:BB*1<=BB*ai.val ys:=ab7 (aaa _) (by omega)
  have km:64<BB:=by unfold BB;omega
  omega
 subst TI;obtain⟨g,o,rfl,c0⟩:=aU 0 x rfl;rw[adt]at c0;have fe:g<w.heap.size:=hr.lt rfl;have vJ:=zq c0
 have hb0:((((x::ys).length:Nat):Int)==0)=false:=by simp;omega
 have dC:(0:Int)<(((x::ys).length:Nat):Int):=by simp
 obtain⟨ll,nR⟩:∃ll,ll=(x::ys).length:=⟨_,rfl⟩;rw[<-nR]at hb0 dC HR ⊢;have mh:=zq nR;clear hr hv aZ aU hblk qZ pz c0 nR hx0;go_enter Tryz.func110,Tryz.ntmps110;go_wp2_with fail;have jc:=HR.o.below bU.o;refine(Wz _ _ (x::ys) [64] _ jc r8.o).mono ?_;rintro e w1 ⟨rfl,b1⟩;rw[<-zy.o];have aC:=zq (bU.o.trans (b1.mono (by simp)));have d0:w1.cell? ⟨g,o,none⟩=some (.int .u64 (x:Nat)):=(aC.o.cell (p:=⟨g,o,none⟩) fe).trans vJ.o;have hw:IntKind.i64.wrap (x:Int)=(x:Int):=abL _ (by omega);clear b1 jc;go_wp2_with fail;go_ret;exact⟨by rw[HS.o];rfl,aC.o⟩
def Q9 (L:List Tok)(R:Nat)(w:World):Nat:=L.length-(intOf ((w.cell? ⟨R,1,none⟩).getD (.bool false))).toNat
theorem RS.left {w:World}{R:Nat}{lv:Value}{L:List Tok}{fin a:Nat}{s:ae.St}{nv:Value}{ns:List Nv}(h:RS w R lv L fin a s nv ns):Q9 L R w=s.ts.length:=by unfold Q9;rw[h.cells.2.1,<-h.drop,aag];simp[intOf]
theorem Wr.sM {R:Nat}{w0 w w':World}{row:Option Nat}(h:Wr R none w0 w)(hg:w.grownBy w' row)(hr:∀q,row=some q->w0.heap.size<=q):Wr R none w0 w':=
 ⟨hg.os.trans h.os,hg.tape.trans h.tape,hg.output.trans h.output,aan h.size hg.size,fun k hk hR ho=>(hg.block k (aaj hk h.size) (fun e=>by have:=hr k e.symm;omega)).trans (h.block k hk hR ho)⟩
theorem RS.loc {w0 w w':World}{R:Nat}{lv:Value}{L:List Tok}{fin a0 a:Nat}{s0 s:ae.St}{nv:Value}{ns:List Nv}{row:Option Nat}(h0:RS w0 R lv L fin a0 s0 nv ns)(h:RS w R lv L fin a s nv ns)(hw:Wr R none w0 w)(hg:w.grownBy w' row)(hr:∀q,row=some q->w0.heap.size<=q):RS w' R lv L fin a s nv ns/\Wr R none w0 w':=by have E:=hw.sM hg hr;refine⟨h0.reset E ((hg.block R h.lt (fun e=>by have:=hr R e.symm;have:=h0.lt;omega)).trans h.blk) h.drop h.le h.few h.deep,E⟩
theorem RS.step {w0 w w':World}{R:Nat}(h:Wr R none w0 w)(k:Wr R none w w'):Wr R none w0 w':=h.trans (og':=none) (Mv.refl _ _) k
def Q6 (l:List (Bool×Value)):List Value:=l.flatMap fun p=>[.bool p.1,p.2]
theorem Pz (a b:List (Bool×Value)):Q6 (a++b)=Q6 a++Q6 b:=by simp[Q6]
theorem Gf (l:List (Bool×Value)):(Q6 l).length=l.length*2:=by
 induction l with
 |nil=>rfl
 |cons a l ih=>simp[Q6]at ih ⊢;omega
theorem Mb:∀(l:List (Bool×Value)) (j:Nat) (p:Bool×Value),l[j]?=some p->(Q6 l)[j*2]?=some (.bool p.1)/\(Q6 l)[j*2+1]?=some p.2
 |a::l,0,p,h=>by simp at h;subst h;exact⟨rfl,rfl⟩
 |a::l,j+1,p,h=>by
  have:=Mb l j p (by simpa using h)
  have e1:(j+1)*2=j*2+2:=by omega
  rw[e1];exact this
def ints (l:List Nat):List Value:=l.map fun n=> .int .i64 (n:Nat)
structure En (w:World) (B:Nat) (av lv:Value) (cs:List (Bool×Value)) (acc:List (Bool×Nat)) (lens:List Nat):Prop where
 bV:w.ownsRow B 62 2 av cs.length (Q6 cs)
 eW:w.ownsRow B 3 1 lv lens.length (ints lens)
 ne:∀q,av.ownBlock=some q->lv.ownBlock≠some q
 len:cs.length=acc.length
 el:∀(j:Nat) (c:Bool×Value) (p:Bool×Nat),cs[j]?=some c->acc[j]?=some p->c.1=p.1/\bM B w c.2 p.2/\ ∀q,c.2.ownBlock=some q->av.ownBlock≠some q/\lv.ownBlock≠some q
theorem En.nil (w:World)(B:Nat):En w B (.slice none 0 0) (.slice none 0 0) [] [] []:=⟨adC _ _ _ _,adC _ _ _ _,fun q h=>by simp[Value.ownBlock]at h,rfl,fun j c p h=>by simp at h⟩
theorem Tl {w w':World}{R B:Nat}{e:TypeId}{z:Nat}{v:Value}{n:Nat}{xs:List Value}(h:w.ownsRow B e z v n xs)(hw:Wr R none w w')(hR:R<B):w'.ownsRow B e z v n xs:=by
 refine⟨h.1,?_⟩;rcases h.2 with O|⟨g,I,J,rfl,K,E,H⟩
 ·exact .inl O
 exact .inr ⟨g,I,J,rfl,K,(hw.block g (aal.1 E).1 (by omega) (by simp)).trans E,H⟩
theorem En.wr {w w':World}{B R:Nat}{av lv:Value}{cs:List (Bool×Value)}{acc:List (Bool×Nat)}{lens:List Nat}(h:En w B av lv cs acc lens)(hw:Wr R none w w')(hR:R<B):En w' B av lv cs acc lens:=
 ⟨Tl h.bV hw hR,Tl h.eW hw hR,h.ne,h.len,fun j c p hc hp=>⟨(h.el j c p hc hp).1,(h.el j c p hc hp).2.1.wr hw hR (fun q hq=>by cases hq),(h.el j c p hc hp).2.2⟩⟩
theorem bM.grown {B:Nat}{w w':World}{v:Value}{n:Nat}{row:Option Nat}(h:bM B w v n)(hg:w.grownBy w' row)(hr:∀q,v.ownBlock=some q->row≠some q):bM B w' v n:=by obtain⟨⟨xs,H,I,J⟩,E,K⟩:=h;exact⟨⟨xs,H.kept hg (fun k hk e=>hr k e hk),I,J⟩,fun q hq=>⟨(E q hq).1,aaj (E q hq).2 hg.size⟩,K⟩
theorem En.push {w w':World}{B g cap:Nat}{av lv:Value}{cs:List (Bool×Value)}{acc:List (Bool×Nat)}{lens:List Nat}(h:En w B av lv cs acc lens){neg:Bool}{m:Value}{k:Nat}(hm:bM B w m k)(hd:∀q,m.ownBlock=some q->av.ownBlock≠some q/\lv.ownBlock≠some q)
  (hown:w'.ownsRow B 62 2 (.slice (some ⟨g,0,none⟩) (cs.length+1) cap) (cs.length+1) (Q6 cs++[.bool neg,m])) (hg:w.grownBy w' av.ownBlock) (hat:av.ownBlock=some g\/g=w.heap.size):
  En w' B (.slice (some ⟨g,0,none⟩) (cs.length+1) cap) lv (cs++[(neg,m)]) (acc++[(neg,k)]) lens:=by
 have H:∀q,q<w.heap.size->av.ownBlock≠some q->(Value.ownBlock (.slice (some ⟨g,0,none⟩) (cs.length+1) cap))≠some q:=by
  intro q E O e
  cases e
  rcases hat with h|h
  ·exact O h
  change g<_ at E;omega
 have K:(cs++[(neg,m)]).length=cs.length+1:=by simp
 refine⟨?_,h.eW.kept hg ?_,?_,by simp[h.len],?_⟩
 ·rw[K,Pz];exact hown
 ·cases ho:lv.ownBlock with
  |none=>exact .inl rfl
  |some q=>exact .inr (fun e=>h.ne q e.symm ho)
 ·intro q E e
  have T:=(h.eW.lt q e).2;exact H q T (fun h2=>h.ne q h2 e) E
 intro j c p I J;by_cases hlt:j<cs.length
 ·rw[ab1 hlt]at I
  rw[ab1 (by rw[<-h.len];exact hlt)]at J;obtain⟨q1,q2,q3⟩:=h.el j c p I J;exact⟨q1,q2.grown hg (fun q E=>(q3 q E).1),fun q E=>⟨H q (q2.2.1 q E).2 (q3 q E).1,(q3 q E).2⟩⟩
 have U:j=cs.length:=by have:=(aae.1 I).1;rw[K]at this;omega
 subst U;rw[abw (aaa _)]at I;rw[h.len,abw (aaa _)]at J;simp at I J;subst I;subst J;exact⟨rfl,hm.grown hg (fun q E=>(hd q E).1),fun q E=>⟨H q (hm.2.1 q E).2 (hd q E).1,(hd q E).2⟩⟩
theorem En.uG {w w':World}{B g cap:Nat}{av lv:Value}{cs:List (Bool×Value)}{acc:List (Bool×Nat)}{lens:List Nat}(h:En w B av lv cs acc lens){n:Nat}
  (hown:w'.ownsRow B 3 1 (.slice (some ⟨g,0,none⟩) (lens.length+1) cap) (lens.length+1) (ints lens++[.int .i64 (n:Nat)])) (hg:w.grownBy w' lv.ownBlock) (hat:lv.ownBlock=some g\/g=w.heap.size):
  En w' B av (.slice (some ⟨g,0,none⟩) (lens.length+1) cap) cs acc (lens++[n]):=by
 have H:∀q,q<w.heap.size->lv.ownBlock≠some q->(Value.ownBlock (.slice (some ⟨g,0,none⟩) (lens.length+1) cap))≠some q:=by
  intro q E I e
  cases e
  rcases hat with h|h
  ·exact I h
  change g<_ at E;omega
 refine⟨h.bV.kept hg ?_,?_,?_,h.len,?_⟩
 ·cases ho:av.ownBlock with
  |none=>exact .inl rfl
  |some q=>exact .inr (fun e=>h.ne q ho e.symm)
 ·rw[show (lens++[n]).length=lens.length+1 from by simp,show ints (lens++[n])=ints lens++[.int .i64 (n:Nat)] from by simp[ints]]
  exact hown
 ·intro q E
  exact H q (h.bV.lt q E).2 (h.ne q E)
 intro j c p J K;obtain⟨q1,q2,q3⟩:=h.el j c p J K;exact⟨q1,q2.grown hg (fun q E=>(q3 q E).2),fun q E=>⟨(q3 q E).1,H q (q2.2.1 q E).2 (q3 q E).2⟩⟩
end Go.Proofs.YtgfmiladfeoldaaGreatDoor
