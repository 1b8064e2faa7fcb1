import Derived.Test.YtgfmiladfeoldaaGreatDoorPk25
set_option linter.unusedSimpArgs false
set_option linter.unusedVariables false
set_option maxRecDepth 100000
set_option maxHeartbeats 16000000
open Go.Proofs.Tryz
open Go.Value renaming int->A,slice->U,string->ce
open Go.IntKind renaming i64->G
open Go.Obj renaming cells->O
open Option renaming none->Z,some->F
open Go.Ending renaming returned->ca
namespace Go.Proofs.YtgfmiladfeoldaaGreatDoor
open Go.RowKit aw ar
variable {e:Ending} {w w':World}
theorem Qzl:∀{a b:List Nat},ok a->ok b->a.length=b.length->aw.val a=aw.val b->a=b
 | [],[],_,_,_,_=>rfl
 |x::a,y::b,ha,hb,hl,hv=>by
  have hx:=ha x (acN ..);have I:=hb y (acN ..);simp only[aw.val]at hv
  have E:x=y:=by have h:=aaE (· % BB) hv;simp only[Nat.add_mul_mod_self_left,ab7 hx,ab7 I]at h;exact h
  subst E;have H:aw.val a=aw.val b:=Nat.eq_of_mul_eq_mul_left aC (by omega)
  rw[Qzl (fun d hd=>ha d (aca _ hd)) (fun d hd=>hb d (aca _ hd)) (by simpa using hl) H]
 | [],_::_,_,_,hl,_=>by simp at hl
 |_::_,[],_,_,hl,_=>by simp at hl
noncomputable def cw (n:Nat):List Nat:=Classical.epsilon fun xs=>ok xs/\aw.val xs=n/\dX xs.length n
theorem Qd9 {xs:List Nat}{n:Nat}(h1:ok xs)(h2:aw.val xs=n)(h3:dX xs.length n):xs=cw n:=by obtain⟨a,b,c⟩:ok (cw n)/\aw.val (cw n)=n/\dX (cw n).length n:=Classical.epsilon_spec (p:=fun xs=>ok xs/\aw.val xs=n/\dX xs.length n) ⟨xs,h1,h2,h3⟩;exact Qzl h1 a (h3.uniq c) (by rw[h2,b])
noncomputable def Iz (l:List (Bool×Nat)):List (Bool×List Nat):=l.map fun p=>(p.1,cw p.2)
theorem mr.iww {v:Value}{l:List (Bool×Nat)}(h:mr w v l):qa w v (Iz l):=by
 obtain⟨ao,H,e,J,K,bi⟩:=h
 have E:(Iz l).length=l.length:=by simp[Iz]
 refine⟨ao,H,by rw[E];exact e,by rw[E];exact J,K,fun h0=> ?_⟩;obtain⟨g,o,rfl,a2,a3⟩:=bi (by rw[<-E];exact h0);refine⟨g,o,rfl,a2,fun j p hj=> ?_⟩;unfold Iz at hj;rw[aa9,abD]at hj;obtain⟨q,T,rfl⟩:=hj;obtain⟨m,xs,b1,b2,b3,b4,-,b6⟩:=a3 j q T;refine⟨m,b1,b2,?_⟩;have I:=Qd9 b3.ok b4 b6;show ee w m (cw q.2);rw[<-I];exact b3.weak
def rmE (t:Bytes):Nat:=match aj.Yy t with| .ok _=>0| .error k=>k
def rmR (t:Bytes):Nat:=match aj.Yy t with| .ok m=>m.rows| .error _=>0
def BS (t:Bytes):Nat:=match aj.Yy t with| .ok m=>m.aW| .error _=>0
def Ou (t:Bytes):List (Bool×Nat):=match aj.Yy t with| .ok m=>m.at_| .error _=>[]
theorem Qfh (t:Bytes):(Ou t).length<=4096:=by
 unfold Ou
 cases h:aj.Yy t with
 |error k=>simp
 |ok m=>obtain⟨E,H,I,-⟩:=aj.Qm5 h;show m.at_.length<=4096;rw[I];exact aar (aa3 E H) (by decide)
def Rf (t:Bytes)(w:World)(e:Ending)(w':World):Prop:=∃v,e=ca (.tuple #[.agg #[A G (rmR t:Nat),A G (BS t:Nat),v],A G (rmE t:Nat)])/\qa w' v (Iz (Ou t))/\Below w.heap.size w w'
theorem Qka:qa w (U Z 0 0) []:=⟨Z,0,rfl,aab _,aat _,fun h=>by simp at h⟩
theorem Ua.both {t:Bytes}(h:Ua t w e w'):Rf t w e w':=by
 unfold Ua at h;unfold Rf rmR BS rmE Ou
 cases hm:aj.Yy t with
 |error k=>
  rw[hm]at h
  exact⟨_,h.1,Qka,h.2⟩
 |ok m=>rw[hm]at h;obtain⟨av,H,E,I⟩:=h;exact⟨av,H,I.iww,E⟩
theorem qG.both {t:Bytes}(h:qG t w e w'):Rf t w e w':=by
 unfold qG at h;unfold Rf rmR BS rmE Ou;obtain⟨E,h⟩:=h
 cases hm:aj.Yy t with
 |error k=>
  rw[hm]at h
  exact⟨_,h.1,Qka,E⟩
 |ok m=>rw[hm]at h;obtain⟨-,av,H,I⟩:=h;exact⟨av,H,I.iww,E⟩
theorem Qy3 (T:ByteArray)(hT:T.size<=1048576)(hx:Lx w)(hs:SG w)(hsz:4<w.heap.size):Calls prog 46 #[ce T] w fun e w'=>e=ca (.bool true)/\Below w.heap.size w w':=by
 obtain⟨t,ht⟩:=xq T.data.toList
 have lY:T=⟨t.toArray⟩:=by rw[ht]
 have rU:t.length<=1048576:=by rw[ht,<-aa2];exact hT
 have HP:Hid (Calls prog 20 #[ce T] w (Rf t w)):=by have h1:=Qxn t (by omega) hx hs hsz;rw[<-lY]at h1;exact h1.mono fun e w' h=>h.both
 have HR:Hid (∀w1,Calls prog 89 #[ce T] w1 (Rf t w1)):=fun w1=>by have h1:=Qx3 T w1 hT;rw[<-ht]at h1;exact h1.mono fun e w' h=>h.both
 obtain⟨l,hl⟩:=xq (Iz (Ou t))
 have fV:l.length<=1073741824:=by rw[hl,Iz,aas];have:=Qfh t;omega
 obtain⟨r,hr⟩:=xq (rmR t);obtain⟨c,hc⟩:=xq (BS t);obtain⟨k,hk⟩:=xq (rmE t)
 have GJ:Hid (∀(w1:World) (e:Ending) (w2:World),Rf t w1 e w2-> ∃v,e=ca (.tuple #[.agg #[A G r,A G c,v],A G k])/\qa w2 v l/\Below w1.heap.size w1 w2):=by intro w1 e w2 h;rw[hl,hr,hc,hk];exact h
 have fp:=zq fV;clear lY rU ht hx hs hl hr hc hk fV;go_enter func46,ntmps46;go_wp2_with fail;refine HP.o.mono ?_;intro e w1 h;obtain⟨v1,rfl,cB,hb1⟩:=GJ.o _ _ _ h;obtain⟨o1,c1,rfl,-,-,-⟩:=id cB;have IV:=Qq w1 (O #[A G r,A G c,U o1 l.length c1] 47);have jq:=aap w1 (O #[A G r,A G c,U o1 l.length c1] 47);have uR:=zq (cB.below IV);have aK:=zq (Qv hb1 IV);have xO:=zq jq;obtain⟨n,hn⟩:=xq l.length;rw[<-hn]at uR aK xO ⊢;have HN:=zq hn;clear h hb1 cB IV jq hn;go_wp2_with fail;refine(HR.o _).mono ?_;intro e w2 h;obtain⟨v2,rfl,gF,hb2⟩:=GJ.o _ _ _ h;obtain⟨o2,c2,rfl,-,-,-⟩:=id gF;rw[<-HN.o];have zz:=Qq w2 (O #[A G r,A G c,U o2 n c2] 47);have fQ:=aap w2 (O #[A G r,A G c,U o2 n c2] 47);obtain⟨w3,hw3⟩:∃w3,w3=w2.alloc (O #[A G r,A G c,U o2 n c2] 47):=⟨_,rfl⟩;rw[<-hw3]at zz fQ;have vH:=Qv hb2 zz;have cD:=(vH.block w1.heap.size (by simp)).trans xO;have xM:=zq (gF.below zz);have PC:=zq (uR.o.below vH);have aV:=zq (Qv aK vH);obtain⟨p,hp⟩:=xq w1.heap.size;obtain⟨q,hq⟩:=xq w2.heap.size;rw[<-hp]at cD;rw[<-hq]at fQ;have a0:w3.cell? ⟨p,0,Z⟩=F (A G r):=(aaj _ _ _ _ _ _ cD).trans rfl;have a1:w3.cell? ⟨p,1,Z⟩=F (A G c):=(aaj _ _ _ _ _ _ cD).trans rfl;have a2:w3.cell? ⟨p,2,Z⟩=F (U o1 n c1):=(aaj _ _ _ _ _ _ cD).trans rfl;have b0:w3.cell? ⟨q,0,Z⟩=F (A G r):=(aaj _ _ _ _ _ _ fQ).trans rfl;have b1:w3.cell? ⟨q,1,Z⟩=F (A G c):=(aaj _ _ _ _ _ _ fQ).trans rfl;have b2:w3.cell? ⟨q,2,Z⟩=F (U o2 n c2):=(aaj _ _ _ _ _ _ fQ).trans rfl;rw[HN.o]at PC;have HS:Hid (∀w4,Below w3.heap.size w3 w4->Calls prog 22 #[U o1 l.length c1,U o2 l.length c2] w4 fun e w'=>e=ca (.bool true)/\Below w4.heap.size w4 w'):=fun w4 hb=>Ag (PC.o.below hb) (xM.o.below hb) fp;rw[<-HN.o]at HS
 have krr:((r:Int)==(r:Int))=true:=by simp
 have kcc:((c:Int)==(c:Int))=true:=by simp
 have kkk:((k:Int)==(k:Int))=true:=by simp
 clear h hb2 gF zz fQ vH cD;subst hw3;subst hp;subst hq;go_wp2_with fail;refine(HS.o _ (by first|exact aaw _ _|exact(aaw _ _).drew)).mono ?_;rintro e w4 ⟨rfl,b4⟩;have HF:=zq (Qv aV b4);clear b4;go_wp2_with fail;go_ret;exact⟨rfl,HF⟩
def rxE (t:Bytes):Nat:=match eT t with|some _=>0|none=>7
def Ow (t:Bytes):List (List Int):=match eT t with|some fs=>fs|none=>[]
theorem Qbf:ml w (U Z 0 0) []:=⟨Z,0,rfl,aab _,aat _,fun h=>by simp at h⟩
theorem Zx.both {t:Bytes}(h:Zx t w e w'):∃v,e=ca (.tuple #[v,A G (rxE t:Nat)])/\ml w' v (Ow t)/\Below w.heap.size w w':=by
 obtain⟨E,h⟩:=h;unfold rxE Ow
 cases hm:eT t with
 |none=>
  rw[hm]at h
  exact⟨_,h,Qbf,E⟩
 |some fs=>rw[hm]at h;obtain⟨v,H,I⟩:=h;exact⟨v,H,I,E⟩
theorem Qff (t:Bytes):(Ow t).length<=t.length/\ ∀s∈Ow t,s.length<=t.length:=by
 unfold Ow
 cases hm:eT t with
 |none=>exact⟨aat _,fun s hs=>by cases hs⟩
 |some fs=>
  unfold eT at hm
  cases hc:aj.Zb t with
  |none=>rw[hc]at hm;cases hm
  |some l=>
   rw[hc]at hm;simp only at hm;split at hm
   ·cases hm
    obtain⟨E,H⟩:=Ke hc;refine⟨by rw[aas];exact E,fun s hs=> ?_⟩;obtain⟨s0,h,rfl⟩:=abw.1 hs;unfold Ya;rw[aas];exact H s0 h
   cases hm
theorem Qvs (r c:Int){l:List (Bool×List Nat)}{va:Value}(r2 c2:Int){ql:List FW}{vq:Value}{fs:List (List Int)}{vf:Value}(T:ByteArray)
  (ha:qa w va l) (hl:l.length<=1048576) (fV:∀p∈l,p.2.length<=1048576)
  (hq:xY w vq ql) (jX:ql.length<=1048576) (KO:∀p∈ql,p.1.2.length<=1048576/\p.2.2.length<=1048576)
  (hf:ml w vf fs) (jn:fs.length<=1048576) (JE:∀ks∈fs,ks.length<=1048576/\ ∀k∈ks,k<=9223372036854775807)
  (hT:T.size<=1048576) (hit:zb w) (hx:Lx w) (hs:SG w) (hsz:4<w.heap.size):
  Calls prog 11 #[.agg #[A G r,A G c,va],.agg #[A G r2,A G c2,vq],vf,ce T] w fun e w'=>e=ca (.bool true)/\Below w.heap.size w w':=by
 obtain⟨ao,cap,rfl,-⟩:=id ha;obtain⟨qo,bK,rfl,-⟩:=id hq;obtain⟨fo,lf,rfl,-⟩:=id hf;obtain⟨n,hn⟩:=xq l.length;obtain⟨qn,hqn⟩:=xq ql.length;obtain⟨m,hm⟩:=xq fs.length;rw[<-hn]at ha ⊢;rw[<-hqn]at hq ⊢;rw[<-hm]at hf ⊢;obtain⟨t,ht⟩:=xq T.data.toList
 have lY:T=⟨t.toArray⟩:=by rw[ht]
 have rU:t.length<=1048576:=by rw[ht,<-aa2];exact hT
 obtain⟨g,hg⟩:=xq w.heap.size;obtain⟨w0,hw0⟩:=xq ((w.alloc (O #[A G r,A G c,U ao n cap] 47)).alloc (O #[A G r2,A G c2,U qo qn bK] 58));have ba:=Qq w (O #[A G r,A G c,U ao n cap] 47);have bb:=Qq (w.alloc (O #[A G r,A G c,U ao n cap] 47)) (O #[A G r2,A G c2,U qo qn bK] 58)
 have h0:w0.heap[g]?=F (O #[A G r,A G c,U ao n cap] 47 (0,0)):=by rw[hw0,hg];exact(bb.block w.heap.size (by simp)).trans (aap w _)
 have h1:w0.heap[g+1]?=F (O #[A G r2,A G c2,U qo qn bK] 58 (0,0)):=by have:=aap (w.alloc (O #[A G r,A G c,U ao n cap] 47)) (O #[A G r2,A G c2,U qo qn bK] 58);rw[aaV]at this;rw[hw0,hg];exact this
 have hb0:Below w.heap.size w w0:=by rw[hw0];exact ba.trans (bb.mono (by simp))
 have hz0:=hb0.size
 have KEY:Hid (∀wk,Below w0.heap.size w0 wk->(wk.cell? ⟨g,0,Z⟩=F (A G r)/\wk.cell? ⟨g,1,Z⟩=F (A G c)/\wk.cell? ⟨g,2,Z⟩=F (U ao n cap))/\(wk.cell? ⟨g+1,0,Z⟩=F (A G r2)/\wk.cell? ⟨g+1,1,Z⟩=F (A G c2)/\wk.cell? ⟨g+1,2,Z⟩=F (U qo qn bK))/\qa wk (U ao n cap) l/\xY wk (U qo qn bK) ql/\ml wk (U fo m lf) fs/\zb wk/\Lx wk/\SG wk/\4<wk.heap.size/\Below w.heap.size w wk):=fun wk hb=>by have jD:=Qv hb0 hb;have k0:=(hb.block g (aah.1 h0).1).trans h0;have k1:=(hb.block (g+1) (aah.1 h1).1).trans h1;refine⟨⟨(aaj _ _ _ _ _ _ k0).trans rfl,(aaj _ _ _ _ _ _ k0).trans rfl,(aaj _ _ _ _ _ _ k0).trans rfl⟩,⟨(aaj _ _ _ _ _ _ k1).trans rfl,(aaj _ _ _ _ _ _ k1).trans rfl,(aaj _ _ _ _ _ _ k1).trans rfl⟩,ha.below jD,hq.below jD,hf.below jD,?_,hx.below jD,hs.below jD hsz,aal hsz jD.size,jD⟩;exact fun w' hb' k h0 h1=>hit w' (Qv jD hb') k h0 h1
 have HW:=zq (Qf3 (hx.below hb0) (hs.below hb0 hsz) (aal hsz hz0));have HN:=zq hn;have MH:=zq hqn;have HM:=zq hm;have HL:=zq hl;have fp:=zq fV;have sD:=zq jX;have QN:=zq KO;have pZ:=zq jn;have O0:=zq JE;have Ic:=zq lY;have iO:=zq rU;have tT:=zq hT;have HTD:=zq ht
 have HLc:Hid (l.length<=1073741824):=by show _<=_;omega
 have ac0:Hid (∀p∈l,p.2.length<=1073741824):=fun p hp=>by have:=fV p hp;omega
 have adu:Hid (ql.length<=1073741824):=by show _<=_;omega
 have QO:Hid (∀p∈ql,p.1.2.length<=1073741824/\p.2.2.length<=1073741824):=fun p hp=>by have:=KO p hp;omega
 have HIV:Hid ((jr l).length<=1073741824):=by show _<=_;rw[jr,aas];omega
 have HQV:Hid ((gO ql).length<=1073741824):=by show _<=_;rw[gO,aas];omega
 have acZ:Hid (∀p∈l,p.2.length<=67108864):=fun p hp=>by have:=fV p hp;omega
 have acK:Hid (∀ks∈fs,ks.length<=1073741824):=fun p hp=>by have:=(JE p hp).1;omega
 clear ha hq hf hl fV jX KO jn JE hT hit hx hs hsz ht lY rU ba bb h0 h1 hb0 hz0 hn hqn hm;go_enter func11,ntmps11;go_wp2_with fail;rw[<-hw0,<-hg];clear hw0 hg;go_wp2_with fail;refine HW.o.mono ?_;rintro e w1 ⟨rfl,b1⟩;have C1:=zq b1;obtain⟨⟨x0,x1,x2⟩,-,kA,-⟩:=KEY.o w1 b1;have KA1:=zq kA;clear b1 kA;go_wp2_with fail;rw[HN.o]at KA1;have HX:=zq (Ak r c KA1 HL fp);rw[<-HN.o]at HX;refine HX.o.mono ?_;rintro e w2 ⟨rfl,b2⟩;obtain⟨T1,DN⟩:=xq (Ok r c (jr l));obtain⟨E1,hE1⟩:=xq (Oj r c (jr l));rw[<-DN,<-hE1];have qC:=zq DN;have HE1:=zq hE1;have C2:=zq (Qv C1 b2);clear x0 x1 x2 HX KA1 DN hE1 b2;obtain⟨-,⟨x0,x1,x2⟩,-,kQ,-⟩:=KEY.o w2 C2;rw[MH.o]at kQ;have HX:=zq (El r2 c2 kQ sD QN);rw[<-MH.o]at HX;clear kQ;go_wp2_with fail;refine HX.o.mono ?_;rintro e w3 ⟨rfl,b3⟩;obtain⟨T2,x7⟩:=xq (Ot r2 c2 (gO ql));obtain⟨E2,hE2⟩:=xq (Oq r2 c2 (gO ql));rw[<-x7,<-hE2];have oO:=zq x7;have kR:=zq hE2;have C3:=zq (Qv C2 b3);clear x0 x1 x2 HX x7 hE2 b3;obtain⟨-,-,-,-,kF,kI,-⟩:=KEY.o w3 C3;have HX:=zq (Hm fs kI (by rw[HM.o]at kF;exact kF) pZ O0);rw[<-HM.o]at HX;clear kF kI;go_wp2_with fail;refine HX.o.mono ?_;rintro e w4 ⟨rfl,b4⟩;obtain⟨T3,hT3⟩:=xq (zk fs);obtain⟨E3,hE3⟩:=xq (zj fs);rw[<-hT3,<-hE3];have RN:=zq hT3;have uM:=zq hE3;have C4:=zq (Qv C3 b4);clear HX hT3 hE3 b4;obtain⟨⟨x0,x1,x2⟩,-,kA,-⟩:=KEY.o w4 C4;have HX:=zq (Qqm r c l (by rw[HN.o]at kA;exact kA) HLc ac0);rw[<-HN.o]at HX;clear kA;go_wp2_with fail;refine HX.o.mono ?_;rintro e w5 ⟨u5',rfl,i5,b5⟩;have C5:=zq (Qv C4 b5);have HI5:=zq (i5.ird acZ);obtain⟨o5,c5,rfl,-⟩:=id i5;rw[<-HN.o];obtain⟨-,-,-,-,-,-,-,kS,-⟩:=KEY.o w5 C5;clear HX x0 x1 x2 b5;have HX:=zq (Qdb r c kS HI5 HIV);rw[<-HN.o,<-qC.o,<-HE1.o]at HX;clear i5 kS;go_wp2_with fail;refine HX.o.mono ?_;rintro e w6 ⟨rfl,b6⟩;have C6:=zq (Qv C5 b6);clear HX HI5 b6;obtain⟨-,⟨x0,x1,x2⟩,-,kQ,-⟩:=KEY.o w6 C6;have HX:=zq (Bz r2 c2 ql (by rw[MH.o]at kQ;exact kQ) adu QO);rw[<-MH.o]at HX;clear kQ;go_wp2_with fail;refine HX.o.mono ?_;rintro e w7 ⟨u7',rfl,i7,b7⟩;have C7:=zq (Qv C6 b7);have HI7:=zq (i7.qrd QN);obtain⟨o7,c7,rfl,-⟩:=id i7;rw[<-MH.o];obtain⟨-,-,-,-,-,-,-,kS,-⟩:=KEY.o w7 C7;clear HX x0 x1 x2 b7;have HX:=zq (Qdu r2 c2 kS HI7 HQV);rw[<-MH.o,<-oO.o,<-kR.o]at HX;clear i7 kS;go_wp2_with fail;refine HX.o.mono ?_;rintro e w8 ⟨rfl,b8⟩;have C8:=zq (Qv C7 b8);clear HX HI7 b8;obtain⟨-,-,-,-,kF,-⟩:=KEY.o w8 C8;have HX:=zq (Eh fs (by rw[HM.o]at kF;exact kF) (by have:=pZ.o;omega) acK);rw[<-HM.o]at HX;clear kF;go_wp2_with fail;refine HX.o.mono ?_;rintro e w9 ⟨u9',rfl,i9,b9⟩;have C9:=zq (Qv C8 b9);obtain⟨-,-,-,-,-,-,-,kS,-⟩:=KEY.o w9 C9;clear HX b9;have HX:=zq (Qc8 kS i9 pZ O0);rw[<-RN.o,<-uM.o]at HX;clear i9 kS;go_wp2_with fail;refine HX.o.mono ?_;rintro e eU ⟨rfl,b10⟩;have C10:=zq (Qv C9 b10);clear HX b10;obtain⟨-,-,-,-,-,-,kX,kS,kZ,-⟩:=KEY.o eU C10;have hrx:=Hg t (by have:=iO.o;omega) kX kS kZ;rw[<-Ic.o]at hrx;have HX:=zq hrx;clear kX kS kZ hrx;obtain⟨ec,hec⟩:=xq (rxE t);obtain⟨lc,hlc⟩:=xq (Ow t)
 have HBO:Hid (∀(w1:World) (e:Ending) (w2:World),Zx t w1 e w2-> ∃v,e=ca (.tuple #[v,A G ec])/\ml w2 v lc/\Below w1.heap.size w1 w2):=by intro w1 e w2 h;rw[hec,hlc];exact h.both
 have HLC:Hid (lc.length<=1073741824/\ ∀s∈lc,s.length<=1073741824):=by obtain⟨q1,q2⟩:=Qff t;have:=iO.o;rw[hlc];exact⟨by omega,fun s hs=>by have:=q2 s hs;omega⟩
 clear hec hlc
 have e11:(E1 !=E1)=false:=by simp
 have e12:(E2 !=E2)=false:=by simp
 have e13:(E3 !=E3)=false:=by simp
 go_wp2_with fail;refine HX.o.mono ?_;intro e rj h;obtain⟨v11,rfl,f11,b11⟩:=HBO.o _ _ _ h;have C11:=zq (Qv C10 b11);have F11:=zq f11;clear HX h b11 f11;have iL:=Hh T rj tT;rw[<-HTD.o]at iL;have HX:=zq iL;clear iL;go_wp2_with fail;refine HX.o.mono ?_;intro e ur h;obtain⟨v12,rfl,f12,b12⟩:=HBO.o _ _ _ h;have C12:=zq (Qv C11 b12);have F12:=zq f12;have acj:=zq (F11.o.below b12);clear HX h b12 f12;have HX:=zq (Er acj F12 HLC.o.1 HLC.o.2);go_wp2_with fail;refine HX.o.mono ?_;rintro e w13 ⟨rfl,b13⟩;have C13:=zq (Qv C12 b13);clear HX b13;obtain⟨-,-,-,-,-,-,kX,kS,kZ,-⟩:=KEY.o w13 C13;have HX:=zq (Qy3 T tT kX kS kZ);clear kX kS kZ;go_wp2_with fail;refine HX.o.mono ?_;rintro e w14 ⟨rfl,b14⟩
 have FM:Hid (Below w.heap.size w w14):=by obtain⟨-,-,-,-,-,-,-,-,-,k⟩:=KEY.o w14 (Qv C13 b14);exact k
 clear HX b14;go_wp2_with fail;go_ret;exact⟨rfl,FM⟩
end Go.Proofs.YtgfmiladfeoldaaGreatDoor
