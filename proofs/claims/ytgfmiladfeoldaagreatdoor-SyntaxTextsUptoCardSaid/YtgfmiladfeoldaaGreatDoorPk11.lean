import Derived.Test.YtgfmiladfeoldaaGreatDoorPk8
import Derived.Test.YtgfmiladfeoldaaGreatDoorPk10
import Derived.Test.YtgfmiladfeoldaaGreatDoorPk9
set_option linter.unusedSimpArgs false
set_option linter.unusedVariables false
set_option maxRecDepth 100000
set_option maxHeartbeats 16000000
open Go.Proofs.Tryz
open Option renaming none->Z,some->F
open Go.Value renaming slice->U,int->A,bool->ca,pointer->da,agg->dl,tuple->du,string->eg
open Go.Obj renaming cells->O
open Go.IntKind renaming i64->G,u64->gc
open Bool renaming false->ce,true->ef
open Go.Ending renaming returned->cl
open Go.Proofs.Tryz renaming prog->co,underlying62->dk,underlying47->ex,ntmps248->fa,func248->fb,results48->ff,ntmps99->fi,func99->fm,ntmps100->gd,ntmps211->ge,ntmps198->gE,ntmps92->g9,func100->hO,func211->ii,ntmps48->io,ntmps81->ip,func198->it
open Go.RowKit renaming Below->c9,Hid->dj
open Go renaming World->db,Calls->de,Value->dq,Ending->eS
namespace Go.Proofs.YtgfmiladfeoldaaGreatDoor
open Go.RowKit aw ar
variable {B R g:Nat} {tv v x y z:dq} {w w':db}
theorem Qzo {P:Program}{fn:Func}{c₀:Frame}{cs:List Frame}{R:eS->FrameMode->db->Prop}{c:Code}{a:Act}(u':FrameMode)(h:c.wp P (bodyPost P fn (fun e w'=>R e u' w')) a w):c.wpS P (bodyPostS P fn c₀ cs R) a ({c₀ with mode:=u'}::cs) w:=fun b k _ _=>by
 obtain⟨e,a',w',q,r⟩:=h b k ({c₀ with mode:=u'}::cs);refine⟨e,a',_,w',?_,r⟩
 cases e with
 |normal=>exact⟨q.1,u',rfl,q.2⟩
 |ret=>exact⟨q.1,u',rfl,q.2⟩
 |panic ch=>exact⟨q.1,u',rfl,q.2⟩
 |outgrown=>exact⟨u',q⟩
 |exit i=>exact q.elim
 |goto i=>exact q.elim
theorem Kx (c k:Int)(w:db):(Instr.typeAssert (.iface 81 (dl #[A G c,A G k])) 20 81 ef).run co w=.ok (du #[dl #[A G c,A G k],ca ef]) w:=by unfold Instr.typeAssert;simp[go_sem,underlying20]
theorem Km (g c k:Nat)(hb:w.heap[g]?=F (O #[x,y] 81 (0,0))):CallsD co 92 #[da (F ⟨g,0,Z⟩)] (.panicking [{v:=.iface 81 (dl #[A G c,A G k]),recovered:=ce}]) w fun e u' w'=>
   e=cl (du #[])/\u'=.panicking [{v:=.iface 81 (dl #[A G c,A G k]),recovered:=ef}]/\w'=((w.setCell ⟨g,0,Z⟩ (A G c)).setCell ⟨g,1,Z⟩ (A G k)).alloc (O #[A G c,A G k] 81):=by
 refine callsD_of_wpS func92 rfl fun c₀ cs hu=> ?_;have hg:g<w.heap.size:=(aah.1 hb).1;have hz0:w.frozen? ⟨g,0,Z⟩=ce:=aax w g 0 _ _ hb;have hz1:w.frozen? ⟨g,1,Z⟩=ce:=aax w g 1 _ _ hb
 have hc0:w.cell? ⟨g,0,Z⟩=F x:=by rw[aaj w g 0 _ _ _ hb];rfl
 have hc1:w.cell? ⟨g,1,Z⟩=F y:=by rw[aaj w g 1 _ _ _ hb];rfl
 apply wpS_seq;apply wpS_region;simp[wpOpsS,go_sem,recoverD,hu,g9,Exit.thenS];refine Qzo (.panicking [{v:=.iface 81 (dl #[A G c,A G k]),recovered:=ef}]) ?_;clear hb;simp only[Array.replicate_succ,Array.replicate_zero,List.push_toArray,List.append_toArray,abv,adp,List.setIfInBounds_toArray,List.set];have hta:∀(c k:Int) (w:db),(Instr.typeAssert (.iface 81 (dl #[A G c,A G k])) 20 81 ef).run co w=.ok (du #[dl #[A G c,A G k],ca ef]) w:=Kx;go_wp2_with fail;go_end0;exact⟨rfl,trivial,rfl⟩
theorem Ru (g:Nat):CallsD co 92 #[da (F ⟨g,0,Z⟩)] .returning w fun e u' w'=>e=cl (du #[])/\u'=.returning/\w'=w:=by refine callsD_of_wpS func92 rfl fun c₀ cs hu=> ?_;apply wpS_seq;apply wpS_region;simp[wpOpsS,go_sem,recoverD,hu,g9,Exit.thenS];refine Qzo c₀.mode ?_;rw[hu];simp only[Array.replicate_succ,Array.replicate_zero,List.push_toArray,List.append_toArray,abv,adp,List.setIfInBounds_toArray,List.set];go_wp2_with fail;go_end0;exact⟨rfl,trivial,rfl⟩
def GuP (r:aj.PR aj.Ln)(R:Nat)(tv:dq)(L:List Tok)(fin:Nat)(nv:dq)(w:db)(e:eS)(w':db):Prop:=
 match r with
 |none=>False
 |some (.error (c,k))=>e=cl (dl #[A G c,A G k])/\Wr R nv.ownBlock w w'
 |some (.ok (n,s'))=>e=cl (dl #[A G 0,A G 0])/\ ∃a' eJ ns',RS w' R tv L fin a' s' eJ ns'/\Wr R nv.ownBlock w w'/\ns'.map Prod.fst=n.flat
theorem Wr.ZY {o:Nat}{og:Option Nat}{w2:db}(h:Wr R og w w2)(hg:w.heap.size<=g)(u:dq):Wr R og w (w2.setCell ⟨g,o,Z⟩ u):=
 ⟨h.os,h.tape,h.output,by simpa [World.setCell] using h.size,fun k hk hR ho=>(aaN w2 ⟨g,o,Z⟩ k u (by show k≠g;omega)).trans (h.block k hk hR ho)⟩
theorem Ge {o:Nat}(w:db)(u:dq):w.grownBy (w.setCell ⟨g,o,Z⟩ u) (F g):=
 ⟨rfl,rfl,rfl,by simp[World.setCell],fun k _ hk=>aaN w ⟨g,o,Z⟩ k u (fun e=>hk (by rw[e]))⟩
theorem Qv {a b c:db}(h:c9 a.heap.size a b)(k:c9 b.heap.size b c):c9 a.heap.size a c:=h.trans (k.mono h.size)
def Fits (l:Bytes):Prop:=l.length<=67108864
theorem Qfe:∀(n:Nat) (cs:List C) (col:Nat) (ts:List Tok),cs.length<=n->aM col cs=.ok ts->(ts.map fun t=>t.2.1.length+1).sum<=(Qw cs).length+2*cs.length:=by
 intro n
 induction n with
 |zero=>
  intro cs col ts I h;rw[aau (Nat.le_zero.1 I),Zc]at h
  cases h
  exact aat _
 |succ n ih=>
  intro cs col ts I h
  cases cs with
  |nil=>
   rw[Zc]at h
   cases h
   exact aat _
  |cons c cs=>
   have E:∀(k col:Nat) (m:List Tok),1<=k->aM col ((c::cs).drop k)=.ok m->(m.map fun t=>t.2.1.length+1).sum+(Qw ((c::cs).take k)).length+2<=(Qw (c::cs)).length+2*(c::cs).length:=by
    intro k col m J H;have e:=aaE List.length (aj.Kg k (c::cs));rw[aag]at e
    have K:((c::cs).drop k).length+1<=(c::cs).length:=by rw[aan,aaq];omega
    have:=ih _ _ _ (by omega) H;omega
   have J:=Fk c;by_cases k0:kd c=0
   ·rw[Wm k0]at h;cases h
   by_cases k1:kd c=1
   ·rw[Jj _ k1]at h
    have:=E 1 _ _ (aab _) h;omega
   by_cases k2:kd c=2
   ·rw[J4 _ k2]at h
    split at h
    ·cases h
    cases h
    exact aat _
   by_cases k3:kd c=3
   ·rw[Wb _ k3]at h
    split at h
    ·cases h
    obtain⟨m,H,rfl⟩:=aj.Yu h;have:=E _ _ _ (Q8 (p:=Qn) (c:=c) (cs:=cs) (by simp[Qn,k3])) H;rw[abl,List.sum_append];simp only[abq,abX,adV,List.sum_nil];omega
   by_cases k4:kd c=4
   ·rw[J6 _ k4]at h
    split at h
    ·cases h
    obtain⟨m,H,rfl⟩:=aj.Yu h;have:=E _ _ _ (Q8 (p:=aX) (c:=c) (cs:=cs) (by simp[aX,k4])) H;rw[abl,List.sum_append];simp only[abq,abX,adV,List.sum_nil];omega
   by_cases k5:kd c=5
   ·rw[J5 _ k5]at h
    obtain⟨m,H,rfl⟩:=aj.Yu h;have:=E 1 _ _ (aab _) H
    have e1:Qw ((c::cs).take 1)=c.2:=by simp[Qw]
    rw[e1]at this
    have bi:(Z5 c).length<=c.2.length+1:=by
     unfold Z5
     repeat' split
     all_goals simp
    rw[abl,List.sum_append];simp only[abq,abX,adV,List.sum_nil];omega
   rw[Jv _ (by omega)]at h;cases h
theorem Fits.eB {l:Bytes}(h:Fits l){ts:List Tok}(ht:aM 1 (Qz l)=.ok ts):ts.length<=67108864/\(ts.map fun t=>t.2.1.length+1).sum<=201326592:=by unfold Fits at h;have H:=(Tn _ _ _ ht).1;have I:=Yk l;have E:=Qfe _ _ _ _ (aab _) ht;rw[Yi]at E;omega
theorem Fits.good {l:Bytes}(h:Fits l){ts:List Tok}(ht:aM 1 (Qz l)=.ok ts):∀t∈ts,Qcj t:=fun t hm h1=>by obtain⟨a,b,c⟩:=Ns ht t hm h1;refine⟨a,b,?_,c⟩;have E:=aj.Cf _ _ _ _ (aab _) ht t hm h1;rw[Yi]at E;exact aar E h
def MW (l:Bytes)(w:db)(e:eS)(w':db):Prop:=
 match aM 1 (Qz l) with
 | .error (c,k)=>e=cl (du #[da Z,A G c,A G k])/\c9 w.heap.size w w'
 | .ok ts=> ∃R tv,e=cl (du #[da (F ⟨R,0,Z⟩),A G 0,A G 0])/\w.heap.size<=R/\c9 w.heap.size w w'/\RS w' R tv ts ((Qz l).length+1) 0 ⟨ts,0⟩ (U Z 0 0) []
theorem Kz (s:ByteArray)(hf:Fits s.data.toList)(hx:Lx w)(hs:SG w)(hsz:4<w.heap.size):de co 47 #[eg s] w (MW s.data.toList w):=by
 have HF:=zq hf;have HX:=zq hx;have ew:=zq hs
 have xe:s.size<=67108864:=by rw[aa2];exact hf
 clear hf hx hs;go_enter func47,ntmps47;go_wp2_with fail;refine(Ev s xe HX).mono ?_;rintro e w1 ⟨v,rfl,h1,h2⟩
 cases hT:aM 1 (Qz s.data.toList) with
 |error p=>
  obtain⟨c,k⟩:=p;have HT:=zq hT;have cZ:=(Pg _ _ _ hT).1;have H2:=zq h2;clear h1 h2 hT;have ec:(lO (.error (c,k)):Nat)=c:=rfl;have ek:(gM (.error (c,k)):Nat)=k:=rfl;rw[ec,ek];simp only at cZ
  have fU:((k:Int) !=0)=ef:=by simp;omega
  go_wp2_with fail;go_ret3;unfold MW;rw[HT.o]
  exact⟨rfl,H2⟩
 |ok ts=>
  have HT:=zq hT
  have h1':w1.ownsRow w.heap.size 119 3 v ts.length (Xv ts):=by rw[hT]at h1;exact h1
  have H1:=zq h1';obtain⟨ao,cap,rfl,-,-,-⟩:=Qj h1';have H2:=zq h2;have fT:=aj.Qz4 _ _ _ hT
  have lQ:dj (Mq s.data.toList=((Qz s.data.toList).length,0)):=by show _=_;unfold Mq;rw[if_pos fT]
  have hlen:=Yk s.data.toList;rw[<-aa2]at hlen;clear h1 h1' h2 hT fT;have ec:(lO (.ok ts):Nat)=0:=rfl;have ek:(gM (.ok ts):Nat)=0:=rfl;rw[ec,ek];go_wp2_with fail;refine(Qqp s xe).mono ?_;rintro e w2 ⟨rfl,h3⟩;rw[lQ.o];have H3:=zq h3;clear h3;obtain⟨n,hn⟩:=xq ((Qz s.data.toList).length);rw[<-hn]at hlen;simp only;rw[<-hn];have HN:=zq hn;clear hn;go_wp2_with fail;go_ret3;have hb:=Qv H2 H3;obtain⟨ej,hsm⟩:=HF.o.eB HT;unfold MW;rw[HT.o];refine⟨w2.heap.size,U ao ts.length cap,rfl,hb.size,Qv hb (Qq _ _),?_⟩;have NK:=Qq w2 (O #[U ao ts.length cap,A G 0,A G ((n:Int)+1),A G 0,U Z 0 0] 85);refine {blk:= ?_,tks:= ?_,drop:=rfl,le:=aat _,own:=abx _ _ _ _,kids:=(fun p hp=>by cases hp),apart:=(fun i j p q k h=>by simp at h),few:=(by show 0+ts.length<=_;omega),deep:=aat _,short:=ej,sum:=hsm,good:=HF.o.good HT,sg:= ?_,sgl:= ?_}
  ·rw[<-HN.o];exact aap w2 _
  ·obtain⟨ao',cap',e,a1,a2,a3⟩:=Qj H1
   cases e
   refine⟨ao,cap,rfl,a1,a2,fun h0=> ?_⟩;obtain⟨g,rfl,b1,b2,b3⟩:=a3 h0;refine⟨g,rfl,aal b2 H3.o.size,fun j t hj=> ?_⟩;have nh:=(aaf.1 hj).1;obtain⟨c1,c2,c3⟩:=Pv ts j t hj
   have hc:∀o,(w2.alloc (O #[U (F ⟨g,0,Z⟩) ts.length cap,A G 0,A G ((n:Int)+1),A G 0,U Z 0 0] 85)).cell? ⟨g,o,Z⟩=w1.cell? ⟨g,o,Z⟩:=fun o=>(NK.cell (p:=⟨g,o,Z⟩) (aal b2 H3.o.size)).trans (H3.o.cell (p:=⟨g,o,Z⟩) b2)
   exact⟨by rw[hc,b3 _ (by omega)];exact c1,by rw[hc,b3 _ (by omega)];exact c2,by rw[hc,b3 _ (by omega),c3]⟩
  ·exact ew.o.below (Qv hb NK) hsz
  exact aal hsz hb.size
structure Tr (w:db) (B:Nat) (nv:dq) (ns:List Nv):Prop where
 own:w.ownsRow B 43 3 nv ns.length (Xm ns)
 kids:∀p∈ns,KR w B nv.ownBlock p.2 p.1.kids
 apart:∀(i j:Nat) (p q:Nv) (k:Nat),ns[i]?=F p->ns[j]?=F q->p.2.ownBlock=F k->q.2.ownBlock=F k->i=j
theorem Qxb {B' k n:Nat}{e:TypeId}{cs:List dq}(h:w.ownsRow B e k v n cs)(hB:B'<=B):w.ownsRow B' e k v n cs:=by
 refine⟨h.1,?_⟩;rcases h.2 with bi|⟨g,H,I,rfl,K,J,E⟩
 ·exact .inl bi
 exact .inr ⟨g,H,I,rfl,aar hB K,J,E⟩
theorem KR.low {R':Nat}{og:Option Nat}{ks:List Nat}(h:KR w R og v ks)(hr:R'<=R):KR w R' og v ks:=by obtain⟨ao,E,rfl,I,J,H,K⟩:=h;exact⟨ao,E,rfl,I,J,fun q hq=>⟨abp hr (H q hq).1,(H q hq).2⟩,K⟩
theorem RS.tr {L:List Tok}{fin a:Nat}{s:aj.St}{nv:dq}{ns:List Nv}(h:RS w R tv L fin a s nv ns)(hB:B<=R):Tr w B nv ns:=
 ⟨Qxb h.own (by omega),fun p hp=>(h.kids p hp).low hB,h.apart⟩
theorem Wr.cV {w0:db}(h:Wr R Z w w')(hb:c9 w0.heap.size w0 w)(hB:w0.heap.size<=R):c9 w0.heap.size w0 w':=
 ⟨h.os.trans hb.os,h.tape.trans hb.tape,h.output.trans hb.output,aar hb.size h.size,fun k hk=>(h.block k (aal hk hb.size) (by omega) (by simp)).trans (hb.block k hk)⟩
theorem Uo (op:Int):de co 99 #[A G op] w fun e w'=>e=cl (ca (aj.Al op))/\w=w':=by
 unfold aj.Al;by_cases h1:op=11
 ·subst h1
  go_enter fm,fi;go_wp2_with fail;go_ret;exact⟨rfl,rfl⟩
 by_cases h2:op=12
 ·subst h2
  go_enter fm,fi;go_wp2_with fail;go_ret;exact⟨rfl,rfl⟩
 have e1:(op==11)=ce:=by simp[h1]
 have e2:(op==12)=ce:=by simp[h2]
 go_enter fm,fi;go_wp2_with fail;go_ret;exact⟨by rw[e1,e2];rfl,rfl⟩
theorem Sn (op:Int)(n:Nat):de co 100 #[A G op,A G n] w fun e w'=>e=cl (ca (aj.cnt op n))/\w=w':=by
 have k0:(((n:Nat):Int)==0)=(n==0):=by rw[abj];simp
 have k1:(((n:Nat):Int)==1)=(n==1):=by rw[abj];simp;omega
 have k2:(((n:Nat):Int)==2)=(n==2):=by rw[abj];simp;omega
 have k3:decide ((1:Int)<=(n:Nat))=decide (1<=n):=by rw[decide_eq_decide];omega
 by_cases h:op∈([1,2,3,13,14,4,5,9,11,6,7,8,10,12]:List Int)
 ·simp only[abu,aeq,or_false]at h
  rcases h with rfl|rfl|rfl|rfl|rfl|rfl|rfl|rfl|rfl|rfl|rfl|rfl|rfl|rfl
  all_goals
   go_enter hO,gd;go_wp2_with fail;go_ret;exact⟨by simp only[k0,k1,k2,k3];rfl,rfl⟩
 simp only[abu,aeq,or_false,not_or]at h;obtain⟨h1,h2,h3,h4,h5,h6,h7,h8,h9,h10,h11,zt,vH,h14⟩:=h
 have e:aj.cnt op n=ce:=by unfold aj.cnt;simp[h1,h2,h3,h4,h5,h6,h7,h8,h9,h10,h11,zt,vH,h14]
 have HE:=zq e
 have d1:(op==1)=ce:=by simp[h1]
 have d2:(op==2)=ce:=by simp[h2]
 have d3:(op==3)=ce:=by simp[h3]
 have d4:(op==13)=ce:=by simp[h4]
 have d5:(op==14)=ce:=by simp[h5]
 have d6:(op==4)=ce:=by simp[h6]
 have d7:(op==5)=ce:=by simp[h7]
 have d8:(op==9)=ce:=by simp[h8]
 have d9:(op==11)=ce:=by simp[h9]
 have d10:(op==6)=ce:=by simp[h10]
 have d11:(op==7)=ce:=by simp[h11]
 have d12:(op==8)=ce:=by simp[zt]
 have d13:(op==10)=ce:=by simp[vH]
 have d14:(op==12)=ce:=by simp[h14]
 clear e;go_enter hO,gd;go_wp2_with fail;go_ret;exact⟨by rw[HE.o];rfl,rfl⟩
theorem Sp (op:Nat):de co 210 #[A G op] w fun e w'=>e=cl (ca (aj.Kn op))/\w=w':=by
 unfold aj.Kn
 have k6:(((op:Nat):Int)==6)=(op==6):=by rw[abj];simp;omega
 have k7:(((op:Nat):Int)==7)=(op==7):=by rw[abj];simp;omega
 cases h6:(op==6)<;>rw[h6]at k6<;>
 ·go_enter func210,ntmps210
  go_wp2_with fail;go_ret;exact⟨by simp[k7],rfl⟩
theorem Tv (op:Nat):de co 211 #[A G op] w fun e w'=>e=cl (ca (aj.Ri op))/\w=w':=by
 unfold aj.Ri
 have k8:(((op:Nat):Int)==8)=(op==8):=by rw[abj];simp;omega
 have K8:=zq k8;clear k8
 cases h6:aj.Kn op
 ·have H6:=zq h6
  clear h6;go_enter ii,ge;go_wp2_with fail;refine(Sp op).mono ?_;rintro e w1 ⟨rfl,rfl⟩;rw[H6.o];go_wp2_with fail;go_ret;exact⟨by rw[K8.o];rfl,rfl⟩
 have H6:=zq h6;clear h6;go_enter ii,ge;go_wp2_with fail;refine(Sp op).mono ?_;rintro e w1 ⟨rfl,rfl⟩;rw[H6.o];go_wp2_with fail;go_ret;exact⟨rfl,rfl⟩
theorem Do (t:Bytes)(ht:t.length<=67108864)(hx:Lx w):de co 162 #[eg ⟨t.toArray⟩] w fun e w'=>e=cl (ca (aj.jc t))/\c9 w.heap.size w w':=by
 obtain⟨T,hT⟩:=xq (⟨t.toArray⟩:ByteArray)
 have fS:T.data.toList=t:=by rw[hT]
 have xe:T.size<=67108864:=by rw[aa2,fS];exact ht
 have HX:=zq hx;have iO:=zq fS;rw[<-hT];clear hx hT fS ht;go_enter func162,ntmps162;go_wp2_with fail;refine(Ev T xe HX).mono ?_;rintro e w1 ⟨v,rfl,h1,h2⟩;rw[iO.o]at h1 ⊢;have H2:=zq h2;clear h2
 cases hK:aM 1 (Qz t) with
 |error p=>
  obtain⟨c,k⟩:=p;have cZ:=(Pg _ _ _ hK).1
  have HV:dj (aj.jc t=ce):=by show _=_;unfold aj.jc;rw[hK]
  have ec:(lO (.error (c,k)):Nat)=c:=rfl;have ek:(gM (.error (c,k)):Nat)=k:=rfl;rw[ec,ek];simp only at cZ
  have fU:((k:Int)==0)=ce:=by simp;omega
  clear h1 hK cZ;go_wp2_with fail;go_ret
  exact⟨by rw[HV.o];rfl,H2⟩
 |ok ts=>
  have h1':w1.ownsRow w.heap.size 119 3 v ts.length (Xv ts):=by rw[hK]at h1;exact h1
  obtain⟨ao,cap,rfl,a1,a2,a3⟩:=Qj h1';have ec:(lO (.ok ts):Nat)=0:=rfl;have ek:(gM (.ok ts):Nat)=0:=rfl;rw[ec,ek];clear h1 h1';by_cases hn:ts.length=1
  ·obtain⟨x,rfl⟩:=List.length_eq_one_iff.1 hn
   obtain⟨g,rfl,-,b2,b3⟩:=a3 (by simp);obtain⟨c1,c2,-⟩:=Pv [x] 0 x rfl
   have d1:w1.cell? ⟨g,0,Z⟩=F (A G (x.1:Nat)):=by rw[b3 _ (by simp)];exact c1
   have d2:w1.cell? ⟨g,1,Z⟩=F (eg ⟨x.2.1.toArray⟩):=by rw[b3 _ (by simp)];exact c2
   have hk2:(((x.1:Nat):Int)==2)=(x.1==2):=by rw[abj];simp;omega
   have HV:dj (aj.jc t=(x.1==2 && x.2.1==t)):=by show _=_;unfold aj.jc;rw[hK]
   obtain⟨k,y,c⟩:=x;clear hK a3 b3 c1 c2;have e1:([(k,y,c)]:List Tok).length=1:=rfl;rw[e1]
   cases h2:(k==2) with
   |false=>
    rw[h2]at hk2;simp only at hk2
    have kY:dj (aj.jc t=ce):=by show _=_;rw[HV.o];simp[h2]
    clear h2;go_wp2_with fail;go_ret
    exact⟨by rw[kY.o];rfl,H2⟩
   |true=>
    rw[h2]at hk2;simp only at hk2
    have kY:dj (aj.jc t=(y==t)):=by show _=_;rw[HV.o];simp[h2]
    clear h2;go_wp2_with fail;go_ret;exact⟨by rw[kY.o,<-iO.o,<-ByteArray.toList_eq];rfl,H2⟩
  have HV:dj (aj.jc t=ce):=by
   show _=_;unfold aj.jc;rw[hK]
   match ts,hn with
   | [],_=>rfl
   |_::_::_,_=>rfl
   | [_],hn=>exact absurd rfl hn
  have bu:(((ts.length:Nat):Int)==1)=ce:=by simp;omega
  clear hK a3;go_wp2_with fail;go_ret;exact⟨by rw[HV.o];rfl,H2⟩
theorem Na {w2:db}:Wr g Z w2 ((w2.setCell ⟨g,0,Z⟩ x).setCell ⟨g,1,Z⟩ y):=
 (Wr.aD w2 0 x).trans (Mv.refl _ _) (Wr.aD _ 1 y)
theorem Qqo (pp mp:dq)(w:db)(E:Nat->Nat->db->Prop)(Q:db->Prop)
  (hc:de co 53 #[pp,mp] (w.alloc (O #[A G 0,A G 0] 81)) fun e w'=>w'.heap[w.heap.size]?=F (O #[A G 0,A G 0] 81 (0,0))/\((∃c k,e=Tu c k/\E c k w')\/(e=cl (du #[])/\Q w'))):
  de co 48 #[.func (.func 53) #[] #[pp,mp]] w fun e w'=> ∃w2,w2.heap[w.heap.size]?=F (O #[A G 0,A G 0] 81 (0,0))/\Wr w.heap.size Z w2 w'/\((∃c k,e=cl (dl #[A G (c:Nat),A G (k:Nat)])/\E c k w2)\/(e=cl (dl #[A G 0,A G 0])/\Q w2)):=by
 have ug:∀(fn:Fn) (first cap:Array dq) (w:db),(Instr.makeFunc fn first cap).run co w=.ok (.func fn first cap) w:=fun _ _ _ _=>rfl;have HC:=zq hc;clear hc;go_enter_defers func48,io;go_wp2_with fail;refine HC.o.mono ?_;rintro e w2 ⟨hb,⟨c,k,rfl,n1⟩|⟨rfl,n1⟩⟩
 ·have HE:=zq n1
  clear n1;refine leaves_cons (f:=92) (args:= #[da (F ⟨w.heap.size,0,Z⟩)]) (by simp) (by simp[go_sem]) ?_;refine(Km w.heap.size c k hb).mono ?_;rintro e u' w3 ⟨rfl,rfl,hw3⟩
  have aq:Wr w.heap.size Z w2 w3:=by rw[hw3];exact(Na).trans (Mv.refl _ _) (Wr.au (Qq _ _))
  have eL:=zq hb;have hlt:=(aah.1 hb).1;have s1:=aao w2 w.heap.size 0 _ 81 (A G c) hb;have s2:=aao (w2.setCell ⟨w.heap.size,0,Z⟩ (A G c)) w.heap.size 1 _ 81 (A G k) s1
  have s3:w3.heap[w.heap.size]?=F (O #[A G c,A G k] 81 (0,0)):=by rw[hw3];exact((Qq _ _).block w.heap.size (by simpa [World.setCell] using hlt)).trans (s2.trans (by simp))
  have q0:w3.cell? ⟨w.heap.size,0,Z⟩=F (A G c):=by rw[aaj _ _ 0 _ _ _ s3];rfl
  have q1:w3.cell? ⟨w.heap.size,1,Z⟩=F (A G k):=by rw[aaj _ _ 1 _ _ _ s3];rfl
  have HF:=zq aq;clear s1 s2 s3 hw3 aq hb;simp[Leaves,settle,results,ff,go_sem,q0,q1];exact⟨w2,eL,HF,.inl ⟨c,k,⟨rfl,rfl⟩,HE⟩⟩
 have eL:=zq hb;have hz0:w2.frozen? ⟨w.heap.size,0,Z⟩=ce:=aax _ _ 0 _ _ hb;have hz1:w2.frozen? ⟨w.heap.size,1,Z⟩=ce:=aax _ _ 1 _ _ hb
 have hc0:w2.cell? ⟨w.heap.size,0,Z⟩=F (A G 0):=by rw[aaj _ _ 0 _ _ _ hb];rfl
 have hc1:w2.cell? ⟨w.heap.size,1,Z⟩=F (A G 0):=by rw[aaj _ _ 1 _ _ _ hb];rfl
 have s1:=aao w2 w.heap.size 0 _ 81 (A G 0) hb;have S2:=zq (aao (w2.setCell ⟨w.heap.size,0,Z⟩ (A G 0)) w.heap.size 1 _ 81 (A G 0) s1);have HE:=zq n1;clear n1 hb s1;go_wp2_with fail;refine leaves_cons (f:=92) (args:= #[da (F ⟨w.heap.size,0,Z⟩)]) (by simp) (by simp[go_sem]) ?_;refine(Ru w.heap.size).mono ?_;rintro e u' w3 ⟨rfl,rfl,hw3⟩
 have HF:dj (Wr w.heap.size Z w2 w3):=by show Wr _ _ _ _;rw[hw3];exact Na
 have q0:w3.cell? ⟨w.heap.size,0,Z⟩=F (A G 0):=by rw[hw3,aaj _ _ 0 _ _ _ S2.o];rfl
 have q1:w3.cell? ⟨w.heap.size,1,Z⟩=F (A G 0):=by rw[hw3,aaj _ _ 1 _ _ _ S2.o];rfl
 clear hw3;simp[Leaves,settle,results,ff,go_sem,q0,q1];exact⟨w2,eL,HF,.inr HE⟩
theorem Qqi (pp mp:dq)(w:db)(E:Nat->Nat->db->Prop)(Q:db->Prop)
  (hc:de co 113 #[pp,mp] (w.alloc (O #[A G 0,A G 0] 81)) fun e w'=>w'.heap[w.heap.size]?=F (O #[A G 0,A G 0] 81 (0,0))/\((∃c k,e=Tu c k/\E c k w')\/(e=cl (du #[])/\Q w'))):
  de co 48 #[.func (.func 113) #[] #[pp,mp]] w fun e w'=> ∃w2,w2.heap[w.heap.size]?=F (O #[A G 0,A G 0] 81 (0,0))/\Wr w.heap.size Z w2 w'/\((∃c k,e=cl (dl #[A G (c:Nat),A G (k:Nat)])/\E c k w2)\/(e=cl (dl #[A G 0,A G 0])/\Q w2)):=by
 have ug:∀(fn:Fn) (first cap:Array dq) (w:db),(Instr.makeFunc fn first cap).run co w=.ok (.func fn first cap) w:=fun _ _ _ _=>rfl;have HC:=zq hc;clear hc;go_enter_defers func48,io;go_wp2_with fail;refine HC.o.mono ?_;rintro e w2 ⟨hb,⟨c,k,rfl,n1⟩|⟨rfl,n1⟩⟩
 ·have HE:=zq n1
  clear n1;refine leaves_cons (f:=92) (args:= #[da (F ⟨w.heap.size,0,Z⟩)]) (by simp) (by simp[go_sem]) ?_;refine(Km w.heap.size c k hb).mono ?_;rintro e u' w3 ⟨rfl,rfl,hw3⟩
  have aq:Wr w.heap.size Z w2 w3:=by rw[hw3];exact(Na).trans (Mv.refl _ _) (Wr.au (Qq _ _))
  have eL:=zq hb;have hlt:=(aah.1 hb).1;have s1:=aao w2 w.heap.size 0 _ 81 (A G c) hb;have s2:=aao (w2.setCell ⟨w.heap.size,0,Z⟩ (A G c)) w.heap.size 1 _ 81 (A G k) s1
  have s3:w3.heap[w.heap.size]?=F (O #[A G c,A G k] 81 (0,0)):=by rw[hw3];exact((Qq _ _).block w.heap.size (by simpa [World.setCell] using hlt)).trans (s2.trans (by simp))
  have q0:w3.cell? ⟨w.heap.size,0,Z⟩=F (A G c):=by rw[aaj _ _ 0 _ _ _ s3];rfl
  have q1:w3.cell? ⟨w.heap.size,1,Z⟩=F (A G k):=by rw[aaj _ _ 1 _ _ _ s3];rfl
  have HF:=zq aq;clear s1 s2 s3 hw3 aq hb;simp[Leaves,settle,results,ff,go_sem,q0,q1];exact⟨w2,eL,HF,.inl ⟨c,k,⟨rfl,rfl⟩,HE⟩⟩
 have eL:=zq hb;have hz0:w2.frozen? ⟨w.heap.size,0,Z⟩=ce:=aax _ _ 0 _ _ hb;have hz1:w2.frozen? ⟨w.heap.size,1,Z⟩=ce:=aax _ _ 1 _ _ hb
 have hc0:w2.cell? ⟨w.heap.size,0,Z⟩=F (A G 0):=by rw[aaj _ _ 0 _ _ _ hb];rfl
 have hc1:w2.cell? ⟨w.heap.size,1,Z⟩=F (A G 0):=by rw[aaj _ _ 1 _ _ _ hb];rfl
 have s1:=aao w2 w.heap.size 0 _ 81 (A G 0) hb;have S2:=zq (aao (w2.setCell ⟨w.heap.size,0,Z⟩ (A G 0)) w.heap.size 1 _ 81 (A G 0) s1);have HE:=zq n1;clear n1 hb s1;go_wp2_with fail;refine leaves_cons (f:=92) (args:= #[da (F ⟨w.heap.size,0,Z⟩)]) (by simp) (by simp[go_sem]) ?_;refine(Ru w.heap.size).mono ?_;rintro e u' w3 ⟨rfl,rfl,hw3⟩
 have HF:dj (Wr w.heap.size Z w2 w3):=by show Wr _ _ _ _;rw[hw3];exact Na
 have q0:w3.cell? ⟨w.heap.size,0,Z⟩=F (A G 0):=by rw[hw3,aaj _ _ 0 _ _ _ S2.o];rfl
 have q1:w3.cell? ⟨w.heap.size,1,Z⟩=F (A G 0):=by rw[hw3,aaj _ _ 1 _ _ _ S2.o];rfl
 clear hw3;simp[Leaves,settle,results,ff,go_sem,q0,q1];exact⟨w2,eL,HF,.inr HE⟩
theorem mr.stay {l:List (Bool×Nat)}{q:Nat}(h:mr w v l)(hq:∀o,(∀b,w.cell? ⟨q,o,Z⟩≠F (ca b))/\ ∀x,w.cell? ⟨q,o,Z⟩≠F (A gc x))(hg:w.grownBy w' (F q)):mr w' v l:=by
 obtain⟨ao,E,e,bi,T,aE⟩:=h;refine⟨ao,E,e,bi,T,fun h0=> ?_⟩;obtain⟨g,o,rfl,a2,a3⟩:=aE h0
 have I:g≠q:=by intro e;subst e;obtain⟨m,xs,b1,-⟩:=a3 0 l[0] (aad h0);exact(hq _).1 _ b1
 refine⟨g,o,rfl,aal a2 hg.size,fun j p hj=> ?_⟩;obtain⟨m,xs,b1,b2,b3,b4,b5,b6⟩:=a3 j p hj;have H:∀i,w'.cell? ⟨g,i,Z⟩=w.cell? ⟨g,i,Z⟩:=fun i=>abe (hg.block g a2 (fun e=>I (by cases e;rfl)));refine⟨m,xs,(H _).trans b1,(H _).trans b2,?_,b4,b5,b6⟩;obtain⟨c0,ao,E,rfl,c1,c2,c3,c4⟩:=b3;refine⟨fun k hk=>aal (c0 k hk) hg.size,ao,E,rfl,c1,c2,c3,fun i x hx=> ?_⟩;obtain⟨g2,o2,rfl,c5⟩:=c4 i x hx;refine⟨g2,o2,rfl,?_⟩;have J:=aaY w _ c5
 have K:g2≠q:=by intro e;subst e;exact(hq _).2 _ c5
 exact(abe (hg.block g2 J (fun e=>K (by cases e;rfl)))).trans c5
def nK (fin f:Nat)(s:aj.St):aj.PR aj.ey:=(aj.Yq fin f s).bind fun m s=>aj.done fin m s
def RmP (r:aj.PR aj.ey)(R mb:Nat)(w:db)(e:eS)(w':db):Prop:=
 match r with
 |none=>False
 |some (.error (c,k))=>e=Tu c k/\Wr R (F mb) w w'
 |some (.ok (m,_))=>e=cl (du #[])/\Wr R (F mb) w w'/\ ∃av,w'.heap[mb]?=F (O #[A G (m.rows:Nat),A G (m.aW:Nat),av] 47 (0,0))/\mr w' av m.at_
theorem Qdl {L:List Tok}{fin f:Nat}{s:aj.St}(pb mb:Nat)(h:RS w R tv L fin 0 s (U Z 0 0) [])(hp:w.heap[pb]?=F (O #[da (F ⟨R,0,Z⟩)] 77 (0,0)))(hm:w.heap[mb]?=F (O #[A G 0,A G 0,U Z 0 0] 47 (0,0)))(XW:R<pb)(hmR:R<mb)(yj:pb≠mb)(hne:aj.Yq fin f s≠Z):de co 53 #[da (F ⟨pb,0,Z⟩),da (F ⟨mb,0,Z⟩)] w (RmP (nK fin f s) R mb w):=by
 have HS:=zq h;have bV:=zq hne;have hpl:=(aah.1 hp).1;have cR:=(aah.1 hm).1;have HP:=zq hp;have HM:=zq hm;obtain⟨r,hr⟩:=xq (nK fin f s);have HR:=zq hr;rw[<-hr]
 have c0:w.cell? ⟨pb,0,Z⟩=F (da (F ⟨R,0,Z⟩)):=by rw[aaj _ _ 0 _ _ _ hp];rfl
 clear h hne hp hm hr;go_enter func53,ntmps53;go_wp2_with fail;refine(Qy0 HS bV).mono ?_;rintro e w1 hn
 rcases hN:aj.Yq fin f s with- |(⟨fc,fk⟩|⟨m,s2⟩)<;>rw[hN]at hn
 ·exact hn.elim
 ·obtain⟨rfl,n1⟩:=hn
  refine⟨rfl,?_⟩
  have cF:r=F (.error (fc,fk)):=by rw[HR.o];unfold nK;rw[hN];rfl
  rw[cF];exact⟨rfl,n1.weak _⟩
 obtain⟨v2,a2,rfl,n1,n2,n3,av,rfl,n4⟩:=hn
 have GM:dj (r=aj.done fin m s2):=by show _=_;rw[HR.o];unfold nK;rw[hN];rfl
 have cD:w1.heap[mb]?=F (O #[A G 0,A G 0,U Z 0 0] 47 (0,0)):=(n2.block mb cR (by omega) (by simp)).trans HM;have mG:w1.heap[pb]?=F (O #[da (F ⟨R,0,Z⟩)] 77 (0,0)):=(n2.block pb hpl (by omega) (by simp)).trans HP;have agx:=(aah.1 cD).1;have KI:=(aah.1 mG).1
 have fX:∀o,(∀b,w1.cell? ⟨mb,o,Z⟩≠F (ca b))/\ ∀x,w1.cell? ⟨mb,o,Z⟩≠F (A gc x):=by
  intro o;rw[aaj _ _ o _ _ _ cD]
  match o with
  |0=>exact⟨fun b e=>by simp at e,fun x e=>by simp at e⟩
  |1=>exact⟨fun b e=>by simp at e,fun x e=>by simp at e⟩
  |2=>exact⟨fun b e=>by simp at e,fun x e=>by simp at e⟩
  |o+3=>exact⟨fun b e=>by simp at e,fun x e=>by simp at e⟩
 have N4:=zq n4;obtain⟨ao,cap,rfl,-,-,-⟩:=n4
 have e0:w1.cell? ⟨pb,0,Z⟩=F (da (F ⟨R,0,Z⟩)):=by rw[aaj _ _ 0 _ _ _ mG];rfl
 have d0:w1.cell? ⟨mb,0,Z⟩=F (A G 0):=by rw[aaj _ _ 0 _ _ _ cD];rfl
 have d1:w1.cell? ⟨mb,1,Z⟩=F (A G 0):=by rw[aaj _ _ 1 _ _ _ cD];rfl
 have d2:w1.cell? ⟨mb,2,Z⟩=F (U Z 0 0):=by rw[aaj _ _ 2 _ _ _ cD];rfl
 have z0:w1.frozen? ⟨mb,0,Z⟩=ce:=aax _ _ 0 _ _ cD;have z1:w1.frozen? ⟨mb,1,Z⟩=ce:=aax _ _ 1 _ _ cD;have z2:w1.frozen? ⟨mb,2,Z⟩=ce:=aax _ _ 2 _ _ cD;obtain⟨ln,iW⟩:=xq m.at_.length;rw[<-iW]at N4 ⊢;have s0:=aao w1 mb 0 _ 47 (A G (m.rows:Nat)) cD;have s1:=aao _ mb 1 _ 47 (A G (m.aW:Nat)) s0;have s2':=aao _ mb 2 _ 47 (U ao ln cap) s1
 have hgr:w1.grownBy (((w1.setCell ⟨mb,0,Z⟩ (A G (m.rows:Nat))).setCell ⟨mb,1,Z⟩ (A G (m.aW:Nat))).setCell ⟨mb,2,Z⟩ (U ao ln cap)) (F mb):=by refine⟨rfl,rfl,rfl,by simp[World.setCell],fun k _ hk=> ?_⟩;have hne:k≠mb:=fun e=>hk (by rw[e]);exact(aaN _ ⟨mb,2,Z⟩ k _ hne).trans ((aaN _ ⟨mb,1,Z⟩ k _ hne).trans (aaN _ ⟨mb,0,Z⟩ k _ hne))
 have bD:=zq hgr;have xN:dj ((((w1.setCell ⟨mb,0,Z⟩ (A G (m.rows:Nat))).setCell ⟨mb,1,Z⟩ (A G (m.aW:Nat))).setCell ⟨mb,2,Z⟩ (U ao ln cap)).heap[mb]?=F (O #[A G (m.rows:Nat),A G (m.aW:Nat),U ao ln cap] 47 (0,0))):=s2'.trans (by simp);have LV:dj (mr (((w1.setCell ⟨mb,0,Z⟩ (A G (m.rows:Nat))).setCell ⟨mb,1,Z⟩ (A G (m.aW:Nat))).setCell ⟨mb,2,Z⟩ (U ao ln cap)) (U ao ln cap) m.at_):=N4.o.stay fX hgr;have GV:=zq (n1.rG hgr (fun q hq=>by cases hq;exact⟨hmR,by simp[Value.ownBlock],fun p hp=>by cases hp⟩)).1;have yV:dj ((((w1.setCell ⟨mb,0,Z⟩ (A G (m.rows:Nat))).setCell ⟨mb,1,Z⟩ (A G (m.aW:Nat))).setCell ⟨mb,2,Z⟩ (U ao ln cap)).heap[pb]?=F (O #[da (F ⟨R,0,Z⟩)] 77 (0,0))):=(hgr.block pb KI (by simp;exact yj)).trans mG;have fO:dj (Wr R (F mb) w (((w1.setCell ⟨mb,0,Z⟩ (A G (m.rows:Nat))).setCell ⟨mb,1,Z⟩ (A G (m.aW:Nat))).setCell ⟨mb,2,Z⟩ (U ao ln cap))):=(n2.weak _).trans (Mv.refl _ _) (Wr.dL hgr);obtain⟨a5,x8⟩:=xq a2;clear n1 n2 n3 hN cD mG fX s0 s1 s2' hgr iW x8;go_wp2_with fail;obtain⟨w3,hw3⟩:∃w3,w3=((w1.setCell ⟨mb,0,Z⟩ (A G (m.rows:Nat))).setCell ⟨mb,1,Z⟩ (A G (m.aW:Nat))).setCell ⟨mb,2,Z⟩ (U ao ln cap):=⟨_,rfl⟩;rw[<-hw3]at bD xN LV GV yV fO ⊢;clear hw3 d0 d1 d2 z0 z1 z2 e0 c0;refine(Nb GV).mono ?_;rintro e w4 ⟨rfl,b1⟩;have nI:=zq (GV.o.below b1);have nt:w4.heap[mb]?=F (O #[A G (m.rows:Nat),A G (m.aW:Nat),U ao ln cap] 47 (0,0)):=(b1.block mb ((aah.1 xN).1)).trans xN;have yS:=zq nt;have HI4:=zq (LV.o.below b1);have eQ:dj (Wr R (F mb) w w4):=fO.o.trans (Mv.refl _ _) (Wr.au b1)
 have c4:w4.cell? ⟨pb,0,Z⟩=F (da (F ⟨R,0,Z⟩)):=by have:=(b1.block pb ((aah.1 yV).1)).trans yV;rw[aaj _ _ 0 _ _ _ this];rfl
 clear b1 nt;by_cases ej:s2.ts=[]
 ·have lV:dj (r=F (.ok (m,s2))):=by show _=_;rw[GM.o];unfold aj.done;rw[if_pos ej];rfl
  rw[aa7 ej];clear ej;go_wp2_with fail
  first|go_end0|refine aaD (ab5 rfl _ _ _) rfl ?_
  rw[lV.o];exact⟨rfl,eQ,_,yS,HI4⟩
 have lV:dj (r=aj.dB fin s2):=by show _=_;rw[GM.o];unfold aj.done;rw[if_neg ej]
 rw[aaQ ej];clear ej;go_wp2_with fail;refine(Sv nI).mono ?_;rintro e w5 ⟨rfl,b1⟩;refine⟨rfl,?_⟩;rw[lV.o];exact⟨rfl,eQ.o.trans (Mv.refl _ _) ((Wr.au (R:=R) (og:=Z) b1).weak _)⟩
theorem Wr.IB (h:Wr g Z w w'):w.grownBy w' (F g):=⟨h.os,h.tape,h.output,h.size,fun k hk hne=>h.block k hk (fun e=>hne (by rw[e])) (by simp)⟩
theorem Qd {P:Program}{fn:Func}{p u:Tmp}{ty:TypeId}(h:fn.results= #[.cell p ty,.tmp u]){tmps:Array dq}(g:Nat)(t:TypeId){cs:Array dq}{fr:Nat×Nat}{d:TypeDesc}
  (hp:tmps.getD p undef=da (F ⟨g,0,Z⟩)) (hg:w.heap[g]?=F (O cs t fr))
  (hu:P.underlying ty=F d) (hd:(match d with| .struct _| .array _ _=>ef|_=>ce)=ef) (hi:(P.info? ty).map (·.size)=F cs.size):
  (results fn tmps).run P w=.ok (du #[dl cs,tmps.getD u undef]) w:=by
 have E:tmps[p]?.getD undef=da (F ⟨g,0,Z⟩):=by simpa using hp
 simp[results,h,E,asAddr,run_loadVar_row w g t ty cs fr d hg hu hd hi]
theorem F6 (h:w.heap[g]?=F (O #[x,y,z] 47 (0,0)))(x' y' z':dq):(((w.setCell ⟨g,0,Z⟩ x').setCell ⟨g,1,Z⟩ y').setCell ⟨g,2,Z⟩ z').heap[g]?=F (O #[x',y',z'] 47 (0,0))/\w.grownBy (((w.setCell ⟨g,0,Z⟩ x').setCell ⟨g,1,Z⟩ y').setCell ⟨g,2,Z⟩ z') (F g):=by have s0:=aao w g 0 _ 47 x' h;have s1:=aao _ g 1 _ 47 y' s0;have s2:=aao _ g 2 _ 47 z' s1;refine⟨s2.trans (by simp),rfl,rfl,rfl,by simp[World.setCell],fun k _ hk=> ?_⟩;have E:k≠g:=fun e=>hk (by rw[e]);exact(aaN _ ⟨g,2,Z⟩ k _ E).trans ((aaN _ ⟨g,1,Z⟩ k _ E).trans (aaN _ ⟨g,0,Z⟩ k _ E))
theorem Tw (h:w.heap[g]?=F (O #[x,y,z] 47 (0,0))):w.cell? ⟨g,0,Z⟩=F x/\w.cell? ⟨g,1,Z⟩=F y/\w.cell? ⟨g,2,Z⟩=F z/\w.frozen? ⟨g,0,Z⟩=ce/\w.frozen? ⟨g,1,Z⟩=ce/\w.frozen? ⟨g,2,Z⟩=ce:=by refine⟨?_,?_,?_,aax _ _ 0 _ _ h,aax _ _ 1 _ _ h,aax _ _ 2 _ _ h⟩<;>rw[aaj _ _ _ _ _ _ h]<;>rfl
theorem Rc {w'':db}(h:c9 w.heap.size w w')(hg:w'.grownBy w'' (F g))(hb:w.heap.size<=g):c9 w.heap.size w w'':=
 ⟨hg.os.trans h.os,hg.tape.trans h.tape,hg.output.trans h.output,aar h.size hg.size,fun k hk=>(hg.block k (aal hk h.size) (fun e=>by cases e;omega)).trans (h.block k hk)⟩
theorem Qfb {x y:Int}(h:w.heap[g]?=F (O #[A G x,A G y,z] 47 (0,0)))(hz:(∀b,z≠ ca b)/\ ∀x,z≠ A gc x):∀o,(∀b,w.cell? ⟨g,o,Z⟩≠F (ca b))/\ ∀x,w.cell? ⟨g,o,Z⟩≠F (A gc x):=by
 intro o;rw[aaj _ _ o _ _ _ h]
 match o with
 |0=>exact⟨fun b e=>by simp at e,fun x e=>by simp at e⟩
 |1=>exact⟨fun b e=>by simp at e,fun x e=>by simp at e⟩
 |2=>exact⟨fun b e=>hz.1 b (by simpa using e),fun x e=>hz.2 x (by simpa using e)⟩
 |o+3=>exact⟨fun b e=>by simp at e,fun x e=>by simp at e⟩
theorem Qgn {x y:Int}(h:w.heap[g]?=F (O #[A G x,A G y] 81 (0,0))):∀o,(∀b,w.cell? ⟨g,o,Z⟩≠F (ca b))/\ ∀x,w.cell? ⟨g,o,Z⟩≠F (A gc x):=by
 intro o;rw[aaj _ _ o _ _ _ h]
 match o with
 |0=>exact⟨fun b e=>by simp at e,fun x e=>by simp at e⟩
 |1=>exact⟨fun b e=>by simp at e,fun x e=>by simp at e⟩
 |o+2=>exact⟨fun b e=>by simp at e,fun x e=>by simp at e⟩
def Ua (t:Bytes)(w:db)(e:eS)(w':db):Prop:=
 match aj.Yy t with
 | .error k=>e=cl (du #[dl #[A G 0,A G 0,U Z 0 0],A G k])/\c9 w.heap.size w w'
 | .ok m=> ∃av,e=cl (du #[dl #[A G (m.rows:Nat),A G (m.aW:Nat),av],A G 0])/\c9 w.heap.size w w'/\mr w' av m.at_
theorem Qxn (t:Bytes)(ht:t.length<=67108864)(hx:Lx w)(hs:SG w)(hsz:4<w.heap.size):de co 20 #[eg ⟨t.toArray⟩] w (Ua t w):=by
 have ug:∀(fn:Fn) (first cap:Array dq) (w:db),(Instr.makeFunc fn first cap).run co w=.ok (.func fn first cap) w:=fun _ _ _ _=>rfl;obtain⟨T,hT⟩:=xq (⟨t.toArray⟩:ByteArray)
 have fS:T.data.toList=t:=by rw[hT]
 have HF:dj (Fits T.data.toList):=by show Fits _;rw[fS];exact ht
 have iO:=zq fS;rw[<-hT];have yC:=zq (Qq w (O #[A G 0,A G 0,U Z 0 0] 47));have bp:=zq (aap w (O #[A G 0,A G 0,U Z 0 0] 47));have HX:=zq (hx.below yC);have ew:=zq (hs.below yC hsz)
 have jI:4<(w.alloc (O #[A G 0,A G 0,U Z 0 0] 47)).heap.size:=by simp;omega
 clear hx hs hT fS ht;go_enter func20,ntmps20;go_wp2_with fail;refine(Kz T HF HX ew jI).mono ?_;rintro e w1 hn;unfold MW at hn;rw[iO.o]at hn
 cases hK:aM 1 (Qz t) with
 |error p=>
  obtain⟨c,k⟩:=p;rw[hK]at hn;obtain⟨rfl,hb⟩:=hn;have cZ:=(Pg _ _ _ hK).1
  have HV:dj (aj.Yy t=.error 7):=by show _=_;unfold aj.Yy;rw[hK]
  simp only at cZ
  have fU:((k:Int) !=0)=ef:=by simp;omega
  have hb1:c9 w.heap.size w w1:=Qv yC hb;have hg1:w1.heap[w.heap.size]?=F (O #[A G 0,A G 0,U Z 0 0] 47 (0,0)):=(hb.block _ (by simp)).trans bp;have iJ:w.heap.size<w1.heap.size:=(aah.1 hg1).1;obtain⟨c0,c1,c2,z0,z1,z2⟩:=Tw hg1;obtain⟨k1,k2⟩:=F6 hg1 (A G 0) (A G 0) (U Z 0 0);have k3:=Rc hb1 k2 (aab _);have K1:=zq (fun b:Obj=>((Qq (((w1.setCell ⟨w.heap.size,0,Z⟩ (A G 0)).setCell ⟨w.heap.size,1,Z⟩ (A G 0)).setCell ⟨w.heap.size,2,Z⟩ (U Z 0 0)) b).block w.heap.size (aal iJ k2.size)).trans k1);have K2:=zq (fun b:Obj=>Qv k3 (Qq (((w1.setCell ⟨w.heap.size,0,Z⟩ (A G 0)).setCell ⟨w.heap.size,1,Z⟩ (A G 0)).setCell ⟨w.heap.size,2,Z⟩ (U Z 0 0)) b));clear hb hb1 hg1 k1 k2 k3 hK cZ;go_wp2_with fail;refine aaD (Qd rfl w.heap.size 47 rfl (K1.o _) ex rfl (by kernel_rfl)) rfl ?_;unfold Ua;rw[HV.o]
  exact⟨rfl,K2.o _⟩
 |ok ts=>
  rw[hK]at hn;obtain⟨R,tv,rfl,hR,hb,h⟩:=hn;obtain⟨fin,aq⟩:=xq ((Qz t).length+1);rw[<-aq]at h;have dz:=aj.T8 fin (ts.length+3) (s:=⟨ts,0⟩) (aab _) (aab _)
  have hne:aj.Yq fin (ts.length+3) ⟨ts,0⟩≠Z:=by intro e;simp only[e]at dz;exact dz.elim
  have hgr:aj.Good ts.length (nK fin (ts.length+3) ⟨ts,0⟩):=aj.Good.bind dz (fun a s hl=>by
   unfold aj.done;split
   ·exact aj.Zu a (by simp at hl;omega)
   exact aj.U5 _ _ _)
  have ky:dj (aj.Yy t=match nK fin (ts.length+3) ⟨ts,0⟩ with|none=> .error 0|some (.error (_,k))=> .error (if k=2\/k=5 then k else 7)|some (.ok (m,_))=> .ok m):=by show _=_;unfold aj.Yy;rw[hK,aq];rfl
  have eX:=zq hgr;have bV:=zq hne;have hb1:c9 w.heap.size w w1:=Qv yC hb;have hg1:w1.heap[w.heap.size]?=F (O #[A G 0,A G 0,U Z 0 0] 47 (0,0)):=(hb.block _ (by simp)).trans bp
  have hRw:w.heap.size<R:=by simp at hR;omega
  have br:=h.lt;obtain⟨w2,hw2⟩:=xq ((w1.alloc (O #[da (F ⟨R,0,Z⟩)] 77)).alloc (O #[A G 0,A G 0,U Z 0 0] 47))
  have hb2:c9 w1.heap.size w1 w2:=by rw[hw2];exact Qv (Qq _ _) (Qq _ _)
  have jW:w2.heap[w1.heap.size]?=F (O #[da (F ⟨R,0,Z⟩)] 77 (0,0)):=by rw[hw2];exact((Qq _ _).block _ (by simp)).trans (aap w1 _)
  have gX:w2.heap[w1.heap.size+1]?=F (O #[A G 0,A G 0,U Z 0 0] 47 (0,0)):=by rw[hw2];have:=aap (w1.alloc (O #[da (F ⟨R,0,Z⟩)] 77)) (O #[A G 0,A G 0,U Z 0 0] 47);rw[show (w1.alloc (O #[da (F ⟨R,0,Z⟩)] 77)).heap.size=w1.heap.size+1 by simp]at this;exact this
  have kr:w2.heap.size=w1.heap.size+2:=by rw[hw2];simp
  obtain⟨be,hG⟩:=xq w1.heap.size;rw[<-hG]at jW gX kr br;have vN:=Qq w2 (O #[A G 0,A G 0] 81);have UO:=aap w2 (O #[A G 0,A G 0] 81)
  have HGU:=zq (Qqo (da (F ⟨be,0,Z⟩)) (da (F ⟨be+1,0,Z⟩)) w2
   (fun c k w'=>nK fin (ts.length+3) ⟨ts,0⟩=F (.error (c,k))/\Wr R (F (be+1)) w2 w')
   (fun w'=> ∃m s',nK fin (ts.length+3) ⟨ts,0⟩=F (.ok (m,s'))/\Wr R (F (be+1)) w2 w'/\ ∃av,w'.heap[be+1]?=F (O #[A G (m.rows:Nat),A G (m.aW:Nat),av] 47 (0,0))/\mr w' av m.at_)
   ((Qdl be (be+1) ((h.below hb2).below vN) ((vN.block be (by omega)).trans jW) ((vN.block (be+1) (by omega)).trans gX) (by omega) (by omega) (by omega) hne).mono fun e w' hq=>by
      unfold RmP at hq
      have fr:∀w',Wr R (F (be+1)) (w2.alloc (O #[A G 0,A G 0] 81)) w'->w'.heap[w2.heap.size]?=F (O #[A G 0,A G 0] 81 (0,0))/\Wr R (F (be+1)) w2 w':=fun w' hw=>⟨(hw.block _ (by simp) (by omega) (by simp;omega)).trans UO,(Wr.au vN).trans (Mv.refl _ _) hw⟩
      rcases hL:nK fin (ts.length+3) ⟨ts,0⟩ with- |(⟨c,k⟩|⟨m,s'⟩)<;>rw[hL]at hq
      ·exact hq.elim
      ·exact⟨(fr w' hq.2).1,.inl ⟨c,k,hq.1,rfl,(fr w' hq.2).2⟩⟩
      exact⟨(fr w' hq.2.1).1,.inr ⟨hq.1,m,s',rfl,(fr w' hq.2.1).2,hq.2.2⟩⟩))
  have hb3:=Qv hb1 (hb2.mono (by omega));have dY:=zq (Qv hb1 hb2);have hg2:w2.heap[w.heap.size]?=F (O #[A G 0,A G 0,U Z 0 0] 47 (0,0)):=(hb2.block _ (by omega)).trans hg1;have rq:=zq hg2;clear h hb hb1 hg1 hb2 jW gX dz hne hgr vN UO hb3 hg2 hK aq;go_wp2_with fail;rw[<-hw2,<-hG];clear hw2 hG;refine HGU.o.mono ?_;rintro e w4 ⟨w3,hg3,iZ,⟨c,k,rfl,hL,iy⟩|⟨rfl,m,s',hL,iy,av,pA,oF⟩⟩
  ·have cZ:0<k:=by
    have:=eX.o;rw[hL]at this;exact this
   have HV:dj (aj.Yy t=.error (if k=2\/k=5 then k else 7)):=by show _=_;rw[ky.o,hL]
   have jB:c9 (w.heap.size+1) w2 w4:=iZ.aO (iy.aO (aaw _ _) (by omega) (by omega) (fun q hq=>by cases hq;omega)) (by have:=iy.size;omega) (by omega) (fun q hq=>by cases hq)
   have aga:((k:Int)==0)=ce:=by simp;omega
   have JT:w.heap.size<w4.heap.size:=by have:=jB.size;omega
   have hg4:=(jB.block w.heap.size (by omega)).trans rq;have hw4:c9 w.heap.size w w4:=dY.o.trans (jB.mono (by omega));obtain⟨y0,y1,y2,x0,x1,x2⟩:=Tw hg4;obtain⟨j1,j2⟩:=F6 hg4 (A G 0) (A G 0) (U Z 0 0);have j3:=Rc hw4 j2 (aab _);have J1:=zq (fun b:Obj=>((Qq (((w4.setCell ⟨w.heap.size,0,Z⟩ (A G 0)).setCell ⟨w.heap.size,1,Z⟩ (A G 0)).setCell ⟨w.heap.size,2,Z⟩ (U Z 0 0)) b).block w.heap.size (aal JT j2.size)).trans j1);have J2:=zq (fun b:Obj=>Qv j3 (Qq (((w4.setCell ⟨w.heap.size,0,Z⟩ (A G 0)).setCell ⟨w.heap.size,1,Z⟩ (A G 0)).setCell ⟨w.heap.size,2,Z⟩ (U Z 0 0)) b));clear hg3 iZ hL iy jB hg4 hw4 j1 j2 j3;by_cases h2:k=2
   ·subst h2
    have kY:dj (aj.Yy t=.error 2):=by show _=_;rw[HV.o,if_pos (.inl rfl)]
    go_wp2_with fail;go_region
    all_goals
     go_wp2_with fail;refine aaD (Qd rfl w.heap.size 47 rfl (J1.o _) ex rfl (by kernel_rfl)) rfl ?_;unfold Ua;rw[kY.o];exact⟨rfl,(J2.o _).drew⟩
   by_cases h5:k=5
   ·subst h5
    have kY:dj (aj.Yy t=.error 5):=by show _=_;rw[HV.o,if_pos (.inr rfl)]
    go_wp2_with fail;go_region
    all_goals
     go_wp2_with fail;refine aaD (Qd rfl w.heap.size 47 rfl (J1.o _) ex rfl (by kernel_rfl)) rfl ?_;unfold Ua;rw[kY.o];exact⟨rfl,(J2.o _).drew⟩
   have e2:((k:Int)==2)=ce:=by simp;omega
   have e5:((k:Int)==5)=ce:=by simp;omega
   have kY:dj (aj.Yy t=.error 7):=by show _=_;rw[HV.o,if_neg (by omega)]
   go_wp2_with fail;refine aaD (Qd rfl w.heap.size 47 rfl (J1.o _) ex rfl (by kernel_rfl)) rfl ?_;unfold Ua;rw[kY.o];exact⟨rfl,J2.o _⟩
  have HV:dj (aj.Yy t=.ok m):=by show _=_;rw[ky.o,hL]
  have jB:c9 (w.heap.size+1) w2 w4:=iZ.aO (iy.aO (aaw _ _) (by omega) (by omega) (fun q hq=>by cases hq;omega)) (by have:=iy.size;omega) (by omega) (fun q hq=>by cases hq);have ha:=Qq w4 (O #[A G 0,A G 0] 81)
  have JT:w.heap.size<w4.heap.size:=by have:=jB.size;omega
  have hg4:=(jB.block w.heap.size (by omega)).trans rq;have hw4:c9 w.heap.size w w4:=dY.o.trans (jB.mono (by omega));have wD:=oF.stay (Qgn hg3) iZ.IB;have nt:w4.heap[be+1]?=F (O #[A G (m.rows:Nat),A G (m.aW:Nat),av] 47 (0,0)):=(iZ.block (be+1) ((aah.1 pA).1) (by omega) (by simp)).trans pA;have hG4:be+1<w4.heap.size:=(aah.1 nt).1;obtain⟨ao,cap,rfl,-,-,-⟩:=oF;obtain⟨ln,iW⟩:=xq m.at_.length;rw[<-iW]at wD nt;obtain⟨c0,c1,c2,z0,z1,z2⟩:=Tw hg4;obtain⟨d0,d1,d2,-,-,-⟩:=Tw nt;obtain⟨j1,j2⟩:=F6 hg4 (A G (m.rows:Nat)) (A G (m.aW:Nat)) (U ao ln cap);have j3:=Rc hw4 j2 (aab _);have J1:=zq (fun b:Obj=>((Qq (((w4.setCell ⟨w.heap.size,0,Z⟩ (A G (m.rows:Nat))).setCell ⟨w.heap.size,1,Z⟩ (A G (m.aW:Nat))).setCell ⟨w.heap.size,2,Z⟩ (U ao ln cap)) b).block w.heap.size (aal JT j2.size)).trans j1);have J2:=zq (fun b:Obj=>Qv j3 (Qq (((w4.setCell ⟨w.heap.size,0,Z⟩ (A G (m.rows:Nat))).setCell ⟨w.heap.size,1,Z⟩ (A G (m.aW:Nat))).setCell ⟨w.heap.size,2,Z⟩ (U ao ln cap)) b));have J3:=zq (fun b:Obj=>(wD.stay (Qfb (z:=U Z 0 0) hg4 ⟨(fun b e=>by cases e),(fun x e=>by cases e)⟩) j2).below (Qq _ b));clear hg3 iZ hL iy jB hg4 hw4 j1 j2 j3 wD pA nt iW ha;go_wp2_with fail;refine aaD (Qd rfl w.heap.size 47 rfl (J1.o _) ex rfl (by kernel_rfl)) rfl ?_;unfold Ua;rw[HV.o];exact⟨U ao ln cap,rfl,J2.o _,J3.o _⟩
theorem Qbo (n:aj.Ln):n.flat.length=n.size:=by
 cases n with
 |nothing=>rfl
 |lets x e=>simp[aj.Ln.flat,aj.Ln.size,Uf]
 |cmd x l=>simp[aj.Ln.flat,aj.Ln.size,Mp]
theorem Qfw (h:w.heap[g]?=F (O #[x] 97 (0,0)))(x':dq):(w.setCell ⟨g,0,Z⟩ x').heap[g]?=F (O #[x'] 97 (0,0))/\w.grownBy (w.setCell ⟨g,0,Z⟩ x') (F g):=by have s0:=aao w g 0 _ 97 x' h;refine⟨s0.trans (by simp),rfl,rfl,rfl,by simp[World.setCell],fun k _ hk=> ?_⟩;have E:k≠g:=fun e=>hk (by rw[e]);exact aaN _ ⟨g,0,Z⟩ k _ E
def yA (fin f:Nat)(s:aj.St):aj.PR (List (List Nat)):=(aj.Xs fin f s).bind fun m s=>aj.done fin m s
def CxP (r:aj.PR (List (List Nat)))(R mb:Nat)(w:db)(e:eS)(w':db):Prop:=
 match r with
 |none=>False
 |some (.error (c,k))=>e=Tu c k/\Wr R (F mb) w w'/\ ∃ao n cap,w'.heap[mb]?=F (O #[U ao n cap] 97 (0,0))
 |some (.ok (l,_))=>e=cl (du #[])/\Wr R (F mb) w w'/\ ∃lv bc,w'.heap[mb]?=F (O #[lv] 97 (0,0))/\Cx w' w.heap.size lv bc l
theorem Qdq {L:List Tok}{fin f:Nat}{s:aj.St}(pb mb:Nat)(h:RS w R tv L fin 0 s (U Z 0 0) [])(hp:w.heap[pb]?=F (O #[da (F ⟨R,0,Z⟩)] 77 (0,0)))(hm:w.heap[mb]?=F (O #[U Z 0 0] 97 (0,0)))(XW:R<pb)(hmR:R<mb)(yj:pb≠mb)(hne:aj.Xs fin f s≠Z):de co 113 #[da (F ⟨pb,0,Z⟩),da (F ⟨mb,0,Z⟩)] w (CxP (yA fin f s) R mb w):=by
 have HS:=zq h;have bV:=zq hne;have hpl:=(aah.1 hp).1;have cR:=(aah.1 hm).1;have HP:=zq hp;have HM:=zq hm;obtain⟨r,hr⟩:=xq (yA fin f s);have HR:=zq hr;rw[<-hr]
 have c0:w.cell? ⟨pb,0,Z⟩=F (da (F ⟨R,0,Z⟩)):=by rw[aaj _ _ 0 _ _ _ hp];rfl
 clear h hne hp hm hr;go_enter func113,ntmps113;go_wp2_with fail;refine(Qvz HS bV).mono ?_;rintro e w1 hn
 rcases hN:aj.Xs fin f s with- |(⟨fc,fk⟩|⟨m,s2⟩)<;>rw[hN]at hn
 ·exact hn.elim
 ·obtain⟨rfl,n1⟩:=hn
  refine⟨rfl,?_⟩
  have cF:r=F (.error (fc,fk)):=by rw[HR.o];unfold yA;rw[hN];rfl
  rw[cF];exact⟨rfl,n1.weak _,_,_,_,(n1.block mb cR (by omega) (by simp)).trans HM⟩
 obtain⟨v2,a2,rfl,n1,n2,n3,bc,n4⟩:=hn
 have GM:dj (r=aj.done fin m s2):=by show _=_;rw[HR.o];unfold yA;rw[hN];rfl
 have cD:w1.heap[mb]?=F (O #[U Z 0 0] 97 (0,0)):=(n2.block mb cR (by omega) (by simp)).trans HM;have mG:w1.heap[pb]?=F (O #[da (F ⟨R,0,Z⟩)] 77 (0,0)):=(n2.block pb hpl (by omega) (by simp)).trans HP;have agx:=(aah.1 cD).1;have KI:=(aah.1 mG).1;obtain⟨ao,cap,hv2,-,-,-⟩:=Qj n4.own;obtain⟨ln,iW⟩:=xq bc.length;rw[<-iW]at hv2;subst hv2
 have e0:w1.cell? ⟨pb,0,Z⟩=F (da (F ⟨R,0,Z⟩)):=by rw[aaj _ _ 0 _ _ _ mG];rfl
 have d0:w1.cell? ⟨mb,0,Z⟩=F (U Z 0 0):=by rw[aaj _ _ 0 _ _ _ cD];rfl
 have z0:w1.frozen? ⟨mb,0,Z⟩=ce:=aax _ _ 0 _ _ cD;obtain⟨s0,hgr⟩:=Qfw cD (U ao ln cap);have bD:=zq hgr;have xN:=zq s0;have qp:=zq (n4.wr (Wr.aD w1 0 (U ao ln cap)) cR);have GV:=zq (n1.rG hgr (fun q hq=>by cases hq;exact⟨hmR,by simp[Value.ownBlock],fun p hp=>by cases hp⟩)).1;have yV:dj ((w1.setCell ⟨mb,0,Z⟩ (U ao ln cap)).heap[pb]?=F (O #[da (F ⟨R,0,Z⟩)] 77 (0,0))):=(hgr.block pb KI (by simp;exact yj)).trans mG;have fO:dj (Wr R (F mb) w (w1.setCell ⟨mb,0,Z⟩ (U ao ln cap))):=(n2.weak _).trans (Mv.refl _ _) (Wr.dL hgr);obtain⟨a5,x8⟩:=xq a2;clear n1 n2 n3 n4 hN cD mG s0 hgr iW x8;go_wp2_with fail;obtain⟨w3,hw3⟩:=xq (w1.setCell ⟨mb,0,Z⟩ (U ao ln cap));rw[<-hw3]at bD xN qp GV yV fO ⊢;clear hw3 d0 z0 e0 c0;refine(Nb GV).mono ?_;rintro e w4 ⟨rfl,b1⟩;have nI:=zq (GV.o.below b1);have nt:w4.heap[mb]?=F (O #[U ao ln cap] 97 (0,0)):=(b1.block mb ((aah.1 xN).1)).trans xN;have yS:=zq nt;have yJ:=zq (qp.o.wr (Wr.au (R:=R) b1) (by omega));have eQ:dj (Wr R (F mb) w w4):=fO.o.trans (Mv.refl _ _) (Wr.au b1)
 have c4:w4.cell? ⟨pb,0,Z⟩=F (da (F ⟨R,0,Z⟩)):=by have:=(b1.block pb ((aah.1 yV).1)).trans yV;rw[aaj _ _ 0 _ _ _ this];rfl
 clear b1 nt;by_cases ej:s2.ts=[]
 ·have lV:dj (r=F (.ok (m,s2))):=by show _=_;rw[GM.o];unfold aj.done;rw[if_pos ej];rfl
  rw[aa7 ej];clear ej;go_wp2_with fail
  first|go_end0|refine aaD (ab5 rfl _ _ _) rfl ?_
  rw[lV.o];exact⟨rfl,eQ,_,_,yS,yJ⟩
 have lV:dj (r=aj.dB fin s2):=by show _=_;rw[GM.o];unfold aj.done;rw[if_neg ej]
 rw[aaQ ej];clear ej;go_wp2_with fail;refine(Sv nI).mono ?_;rintro e w5 ⟨rfl,b1⟩;refine⟨rfl,?_⟩;rw[lV.o];exact⟨rfl,eQ.o.trans (Mv.refl _ _) ((Wr.au (R:=R) (og:=Z) b1).weak _),_,_,_,(b1.block mb ((aah.1 yS).1)).trans yS⟩
def Gx (t:Bytes)(w:db)(e:eS)(w':db):Prop:=
 match aj.Zb t with
 |none=> ∃ao n cap,e=cl (du #[U ao n cap,ca ce])/\c9 w.heap.size w w'
 |some l=> ∃lv bc,e=cl (du #[lv,ca ef])/\c9 w.heap.size w w'/\Cx w' w.heap.size lv bc l
theorem Cx.lower {B':Nat}{bc:List dq}{l:List (List Nat)}(h:Cx w B v bc l)(hb:B'<=B):Cx w B' v bc l:=
 ⟨Xh h.own hb,h.len,fun j sv s h1 h2=>(h.el j sv s h1 h2).mono hb⟩
theorem Hy (t:Bytes)(ht:t.length<=67108864)(hx:Lx w)(hs:SG w)(hsz:4<w.heap.size):de co 57 #[eg ⟨t.toArray⟩] w (Gx t w):=by
 have ug:∀(fn:Fn) (first cap:Array dq) (w:db),(Instr.makeFunc fn first cap).run co w=.ok (.func fn first cap) w:=fun _ _ _ _=>rfl;obtain⟨T,hT⟩:=xq (⟨t.toArray⟩:ByteArray)
 have fS:T.data.toList=t:=by rw[hT]
 have HF:dj (Fits T.data.toList):=by show Fits _;rw[fS];exact ht
 have iO:=zq fS;have HX:=zq hx;have ew:=zq hs;rw[<-hT];clear hx hs hT fS ht;go_enter func57,ntmps57;go_wp2_with fail;refine(Kz T HF HX ew hsz).mono ?_;rintro e w1 hn;unfold MW at hn;rw[iO.o]at hn
 cases hK:aM 1 (Qz t) with
 |error p=>
  obtain⟨c,k⟩:=p;rw[hK]at hn;obtain⟨rfl,hb⟩:=hn;have cZ:=(Pg _ _ _ hK).1
  have HV:dj (aj.Zb t=Z):=by show _=_;unfold aj.Zb;rw[hK]
  simp only at cZ
  have fU:((k:Int) !=0)=ef:=by simp;omega
  have HB:=zq (fun b:Obj=>hb.alloc hb.size b);clear hb hK cZ;go_wp2_with fail;go_ret2;unfold Gx;rw[HV.o]
  exact⟨_,_,_,rfl,HB.o _⟩
 |ok ts=>
  rw[hK]at hn;obtain⟨R,tv,rfl,hR,hb,h⟩:=hn;obtain⟨fin,aq⟩:=xq ((Qz t).length+1);rw[<-aq]at h;have dz:=aj.U4 fin (ts.length+2) (s:=⟨ts,0⟩) (aab _) (aab _)
  have hne:aj.Xs fin (ts.length+2) ⟨ts,0⟩≠Z:=by intro e;simp only[e]at dz;exact dz.elim
  have hgr:aj.Good ts.length (yA fin (ts.length+2) ⟨ts,0⟩):=aj.Good.bind dz (fun a s hl=>by
   unfold aj.done;split
   ·exact aj.Zu a (by simp at hl;omega)
   exact aj.U5 _ _ _)
  have ky:dj (aj.Zb t=match yA fin (ts.length+2) ⟨ts,0⟩ with|some (.ok (m,_))=>F m|_=>Z):=by show _=_;unfold aj.Zb;rw[hK,aq];rfl
  have eX:=zq hgr;have br:=h.lt;obtain⟨w2,hw2⟩:=xq ((w1.alloc (O #[da (F ⟨R,0,Z⟩)] 77)).alloc (O #[U Z 0 0] 97))
  have hb2:c9 w1.heap.size w1 w2:=by rw[hw2];exact Qv (Qq _ _) (Qq _ _)
  have jW:w2.heap[w1.heap.size]?=F (O #[da (F ⟨R,0,Z⟩)] 77 (0,0)):=by rw[hw2];exact((Qq _ _).block _ (by simp)).trans (aap w1 _)
  have gX:w2.heap[w1.heap.size+1]?=F (O #[U Z 0 0] 97 (0,0)):=by rw[hw2];have:=aap (w1.alloc (O #[da (F ⟨R,0,Z⟩)] 77)) (O #[U Z 0 0] 97);rw[show (w1.alloc (O #[da (F ⟨R,0,Z⟩)] 77)).heap.size=w1.heap.size+1 by simp]at this;exact this
  have kr:w2.heap.size=w1.heap.size+2:=by rw[hw2];simp
  obtain⟨be,hG⟩:=xq w1.heap.size;rw[<-hG]at jW gX kr br;have vN:=Qq w2 (O #[A G 0,A G 0] 81);have UO:=aap w2 (O #[A G 0,A G 0] 81)
  have HGU:=zq (Qqi (da (F ⟨be,0,Z⟩)) (da (F ⟨be+1,0,Z⟩)) w2
   (fun c k w'=>yA fin (ts.length+2) ⟨ts,0⟩=F (.error (c,k))/\Wr R (F (be+1)) w2 w'/\ ∃ao n cap,w'.heap[be+1]?=F (O #[U ao n cap] 97 (0,0)))
   (fun w'=> ∃m s',yA fin (ts.length+2) ⟨ts,0⟩=F (.ok (m,s'))/\Wr R (F (be+1)) w2 w'/\ ∃lv bc,w'.heap[be+1]?=F (O #[lv] 97 (0,0))/\Cx w' (w2.heap.size+1) lv bc m)
   ((Qdq be (be+1) ((h.below hb2).below vN) ((vN.block be (by omega)).trans jW) ((vN.block (be+1) (by omega)).trans gX) (by omega) (by omega) (by omega) hne).mono fun e w' hq=>by
      unfold CxP at hq
      have fr:∀w',Wr R (F (be+1)) (w2.alloc (O #[A G 0,A G 0] 81)) w'->w'.heap[w2.heap.size]?=F (O #[A G 0,A G 0] 81 (0,0))/\Wr R (F (be+1)) w2 w':=fun w' hw=>⟨(hw.block _ (by simp) (by omega) (by simp;omega)).trans UO,(Wr.au vN).trans (Mv.refl _ _) hw⟩
      rcases hL:yA fin (ts.length+2) ⟨ts,0⟩ with- |(⟨c,k⟩|⟨m,s'⟩)<;>rw[hL]at hq
      ·exact hq.elim
      ·exact⟨(fr w' hq.2.1).1,.inl ⟨c,k,hq.1,rfl,(fr w' hq.2.1).2,hq.2.2⟩⟩
      obtain⟨lv,bc,q1,q2⟩:=hq.2.2
      have e0:(w2.alloc (O #[A G 0,A G 0] 81)).heap.size=w2.heap.size+1:=by simp
      rw[e0]at q2
      exact⟨(fr w' hq.2.1).1,.inr ⟨hq.1,m,s',rfl,(fr w' hq.2.1).2,lv,bc,q1,q2⟩⟩))
  have dY:=zq (Qv hb hb2)
  have hwG:w.heap.size<=be:=by rw[hG];exact hb.size
  clear h hb hb2 jW gX dz hne hgr vN UO hK aq;go_wp2_with fail;rw[<-hw2,<-hG];clear hw2 hG;refine HGU.o.mono ?_;rintro e w4 ⟨w3,hg3,iZ,⟨c,k,rfl,hL,iy,lo,lnn,cq,pA⟩|⟨rfl,m,s',hL,iy,lv,bc,pA,oF⟩⟩
  ·have cZ:0<k:=by
    have:=eX.o;rw[hL]at this;exact this
   have HV:dj (aj.Zb t=Z):=by show _=_;rw[ky.o,hL]
   have jB:c9 w.heap.size w2 w4:=iZ.aO (iy.aO (aaw _ _) (by omega) (by omega) (fun q hq=>by cases hq;omega)) (by have:=iy.size;omega) (by omega) (fun q hq=>by cases hq);have nt:w4.heap[be+1]?=F (O #[U lo lnn cq] 97 (0,0)):=(iZ.block (be+1) ((aah.1 pA).1) (by omega) (by simp)).trans pA
   have aga:((k:Int)==0)=ce:=by simp;omega
   have hG4:be+1<w4.heap.size:=(aah.1 nt).1
   have c4:w4.cell? ⟨be+1,0,Z⟩=F (U lo lnn cq):=by rw[aaj _ _ 0 _ _ _ nt];rfl
   have cS:=zq (fun b:Obj=>(dY.o.trans jB).alloc (aar dY.o.size jB.size) b);clear hg3 iZ hL iy jB nt pA;go_wp2_with fail;go_region
   all_goals
    go_wp2_with fail;go_ret2;unfold Gx;rw[HV.o];exact⟨_,_,_,rfl,(cS.o _).drew⟩
  have HV:dj (aj.Zb t=F m):=by show _=_;rw[ky.o,hL]
  have jB:c9 w.heap.size w2 w4:=iZ.aO (iy.aO (aaw _ _) (by omega) (by omega) (fun q hq=>by cases hq;omega)) (by have:=iy.size;omega) (by omega) (fun q hq=>by cases hq);have nt:w4.heap[be+1]?=F (O #[lv] 97 (0,0)):=(iZ.block (be+1) ((aah.1 pA).1) (by omega) (by simp)).trans pA;have wD:=oF.wr iZ (acJ _);obtain⟨ao,cap,hv2,-,-,-⟩:=Qj oF.own;obtain⟨ln,iW⟩:=xq bc.length;rw[<-iW]at hv2;subst hv2;have hG4:be+1<w4.heap.size:=(aah.1 nt).1
  have c4:w4.cell? ⟨be+1,0,Z⟩=F (U ao ln cap):=by rw[aaj _ _ 0 _ _ _ nt];rfl
  have cS:=zq (fun b:Obj=>(dY.o.trans jB).alloc (aar dY.o.size jB.size) b);have HC5:=zq (fun b:Obj=>((wD.wr (Wr.au (R:=be) ((Qq w4 b).drew)) (by omega)).lower (B':=w.heap.size) (by omega)));clear hg3 iZ hL iy jB nt pA wD oF iW;go_wp2_with fail;go_region
  all_goals
   go_wp2_with fail;go_ret2;unfold Gx;rw[HV.o];exact⟨_,bc,rfl,(cS.o _).drew,HC5.o _⟩
end Go.Proofs.YtgfmiladfeoldaaGreatDoor
namespace ar
end ar
namespace Go.Proofs.YtgfmiladfeoldaaGreatDoor
open Go.RowKit aw ar
variable {B n x y:Nat} {ds xs:List Nat} {u v:dq} {w w':db}
theorem Bo (t:Bytes)(ht:t.length<=67108864)(hs:SG w)(hsz:4<w.heap.size)(I8:0<t.length)(nR:∀c∈t,aZ.Qr c=ef):de co 161 #[eg ⟨t.toArray⟩] w fun e w'=>e=cl (ca (aj.tB t))/\c9 w.heap.size w w':=by
 obtain⟨T,hT⟩:=xq (⟨t.toArray⟩:ByteArray)
 have fS:T.data.toList=t:=by rw[hT]
 have xe:T.size<=67108864:=by rw[aa2,fS];exact ht
 have hd:0<T.size/\ ∀c∈T.data.toList,aZ.Qr c=ef:=by rw[aa2,fS];exact⟨I8,nR⟩
 have iO:=zq fS;have ew:=zq hs;rw[<-hT];clear hs hT ht I8 nR
 have HV:dj (aj.tB t=(aj.aA (bC (ar.bZ t))==t)):=by show _=_;obtain⟨h1,h2⟩:=hd;rw[aa2,fS]at h1;rw[fS]at h2;unfold aj.tB aj.Q7;rw[List.filter_eq_self.2 h2,List.all_eq_true.2 h2,aa7 (abm.1 h1)];rfl
 have hlt:bC (ar.bZ T.data.toList)<10^T.size:=by have:=Qzu T.data.toList;unfold aj.Q7 at this;rw[List.filter_eq_self.2 hd.2,<-aa2]at this;exact this
 have kU:=zq hlt;have HD:=zq hd;clear hd fS hlt;go_enter func161,ntmps161;go_wp2_with fail;refine(K0 T _ xe HD.o.1 HD.o.2).mono ?_;rintro e w2 ⟨v2,x2,rfl,a1,a2,a4,a5⟩;have hx2:x2.length<=8589934592:=aar (aar (Sr a4 (by rw[a2];exact kU.o)) xe) (by decide);obtain⟨ao,cap,hv2,-⟩:=a1.1.2;subst hv2;have cS:=zq (a5.mono (aab _));have A1:=zq a1.1;have A5:=zq a5;have jt:=zq (ew.o.below a5 hsz);have A2:=zq a2;clear a1 a2 a4 a5;go_wp2_with fail;refine(Pc jt A1 hx2).mono ?_;rintro e w3 ⟨rfl,b1⟩;have B1:=zq b1;clear b1;rw[A2.o];go_wp2_with fail;go_ret;exact⟨by rw[HV.o,<-iO.o,<-ByteArray.toList_eq];rfl,Qv A5 B1⟩
open aZ
theorem my.rd (h:my B w v xs)(bm:ok xs):Rd w v xs:=by obtain⟨ao,E,rfl,a1,a2,a3⟩:=Qj h;refine⟨fun k hk=>(h.lt k hk).2,ao,E,rfl,a1,a2,bm,fun i x hx=> ?_⟩;have H:=(aaf.1 hx).1;obtain⟨g,rfl,b1,b2,b3⟩:=a3 (by omega);refine⟨g,0,rfl,?_⟩;rw[aaX,b3 i (by omega)];simp[Rj,hx]
theorem Qf0 (l:List Nat)(h:0<(az l).length):65536^((az l).length-1)<=aP (az l):=by
 rcases (az l).eq_nil_or_concat with e|⟨a,d,e⟩
 ·rw[e]at h;simp at h
 rw[List.concat_eq_append]at e
 have J:d≠0:=by
  have e2:az l=a++[d]:=e;unfold az at e2
  have e3:l.reverse.dropWhile (· ==0)=d::a.reverse:=by
   have:=aaE List.reverse e2
   simpa using this
  intro H;have E:=List.head?_dropWhile_not (fun x:Nat=>x==0) l.reverse;rw[e3]at E;simp at E;exact E H
 rw[e,Vb,aag,aaR,abW]
 have I:aP [d]=d:=by simp[aP]
 rw[I];have:65536^a.length*1<=65536^a.length*d:=aa3 (aab _) (by omega);omega
theorem my.nfr {B':Nat}(h:my B w v (Jg (az ds)))(hB:B'<=B)(hs:∀d∈ds,d<65536)(hl:ds.length<=268435456):bI B' w v (aP ds):=by
 have E:=Zo hs;have bi:=Qg6 E;have T:=Cm ds;refine⟨⟨_,h.rd (Qk5 E),by rw[Qzn E,Ye],by omega⟩,fun q hq=>⟨aar hB (h.lt q hq).1,(h.lt q hq).2⟩,?_⟩;obtain⟨ao,K,rfl,-⟩:=Qj h;show dX (Jg (az ds)).length _;refine⟨?_,fun h0=> ?_⟩
 ·have H:=aN (Qk5 E)
  rw[Qzn E,Ye]at H;exact H
 rw[<-Ye]
 have J:=Qf0 ds (by
  rcases abY (az ds).length with e|e
  ·rw[Bc.2 (aau e)]at h0
   simp at h0
  exact e)
 have I:BB=65536^4:=by decide
 rw[I,<-Nat.pow_mul];exact aar (aa6 (by decide) (by omega)) J
def eR (w:db)(v:dq)(n:Nat):Prop:=∃xs,ee w v xs/\val xs=n/\xs.length<=67108864
theorem oC.weak (h:oC w v n):eR w v n:=by obtain⟨xs,a,b,c⟩:=h;exact⟨xs,a.weak,b,c⟩
theorem eR.below (h:eR w v n)(hb:c9 w.heap.size w w'):eR w' v n:=by obtain⟨xs,a,b,c⟩:=h;exact⟨xs,a.below hb,b,c⟩
theorem Qxi (hv:ee w v xs)(hl:xs.length<=67108864):de co 143 #[v] w fun e w'=>e=cl (eg ⟨(aj.aA (val xs)).toArray⟩)/\c9 w.heap.size w w':=by have HV:=zq (Qx6 hv hl);clear hv;go_enter func143,ntmps143;go_wp2_with fail;refine HV.o.mono ?_;rintro e w1 ⟨rfl,hb⟩;have HB:=zq hb;clear hb;go_wp2_with fail;go_ret;exact⟨rfl,HB⟩
theorem Fo (hv:eR w v n):de co 88 #[v] w fun e w'=> ∃v',e=cl v'/\bI w.heap.size w' v' n/\c9 w.heap.size w w':=by obtain⟨xs,hr,hn,hl⟩:=hv;have HV:=zq hr;have bS:=zq hr.ok;have HN:=zq hn;clear hr hn;go_enter func88,ntmps88;go_wp2_with fail;refine(Ws HV hl).mono ?_;rintro e w1 ⟨d1,rfl,qP,hb1⟩;have uW:=zq qP;have aK:=zq hb1;clear qP hb1;have hsm:=Zo (Jr xs);have iW:=Cm (Xn xs);rw[Px]at iW;go_wp2_with fail;refine(Qq2 uW hsm (by omega)).mono ?_;rintro e w2 ⟨v2,rfl,yi,hb2⟩;have h3:=yi.nfr aK.o.size hsm (by omega);rw[Ye,Zr bS.o,HN.o]at h3;have HF:=zq h3;have aI:=zq (Qv aK hb2);clear yi hb2 h3;go_wp2_with fail;go_ret;exact⟨_,rfl,HF,aI⟩
theorem Qfp (hv:Rd w v xs)(hl:xs.length<=67108864):de co 143 #[v] w fun e w'=>e=cl (eg ⟨(aj.aA (val xs)).toArray⟩)/\c9 w.heap.size w w':=Qxi hv.weak hl
theorem Ck (hv:oC w v n):de co 88 #[v] w fun e w'=> ∃v',e=cl v'/\bI w.heap.size w' v' n/\c9 w.heap.size w w':=Fo hv.weak
theorem bI.val (h:bI B w v n):∃ao L cap,v=U ao L cap/\(L=0↔n=0):=by obtain⟨⟨xs,E,-,-⟩,-,H⟩:=h;obtain⟨ao,cap,rfl,-⟩:=E.2;exact⟨ao,_,cap,rfl,H.zero⟩
theorem Wy (neg:Bool)(hv:eR w v n):de co 193 #[ca neg,v] w fun e w'=> ∃v',e=cl (dl #[ca (neg && decide (0<n)),v'])/\bI w.heap.size w' v' n/\c9 w.heap.size w w':=by
 have eG:=Qq w (O #[ca ce,U Z 0 0] 62);have cT:=zq eG;have HL:=zq (Fo (hv.below eG));have eO:=zq (aap w (O #[ca ce,U Z 0 0] 62));clear hv eG;go_enter func193,ntmps193;go_wp2_with fail;refine HL.o.mono ?_;rintro e w1 ⟨v1,rfl,hf,hb⟩;have hz1:=hb.size;rw[aaV]at hz1;have hblk:w1.heap[w.heap.size]?=F (O #[ca ce,U Z 0 0] 62 (0,0)):=(hb.block w.heap.size (by simp)).trans eO;obtain⟨ao,L,cap,rfl,hL⟩:=hf.val;have HF:=zq hf;have HB:=zq hb;have jh:=zq hblk;have e0:w1.cell? ⟨w.heap.size,0,Z⟩=F (ca ce):=(aaj w1 _ _ _ _ _ hblk).trans rfl;have e1:w1.cell? ⟨w.heap.size,1,Z⟩=F (U Z 0 0):=(aaj w1 _ _ _ _ _ hblk).trans rfl;have f0:w1.frozen? ⟨w.heap.size,0,Z⟩=ce:=aax w1 _ 0 _ _ hblk;have f1:w1.frozen? ⟨w.heap.size,1,Z⟩=ce:=aax w1 _ 1 _ _ hblk
 have aQ:dj (∀b:Bool,bI w.heap.size ((w1.setCell ⟨w.heap.size,0,Z⟩ (ca b)).setCell ⟨w.heap.size,1,Z⟩ (U ao L cap)) (U ao L cap) n/\c9 w.heap.size w ((w1.setCell ⟨w.heap.size,0,Z⟩ (ca b)).setCell ⟨w.heap.size,1,Z⟩ (U ao L cap))/\((w1.setCell ⟨w.heap.size,0,Z⟩ (ca b)).setCell ⟨w.heap.size,1,Z⟩ (U ao L cap)).heap[w.heap.size]?=F (O #[ca b,U ao L cap] 62 (0,0))):=by
  intro b
  have hlt:w.heap.size<(w.alloc (O #[ca ce,U Z 0 0] 62)).heap.size:=by simp
  refine⟨bI.mono (bI.set (bI.set HF hlt 0 _) hlt 1 _) (aa1 hlt),?_,?_⟩
  ·have hr:Wr w.heap.size Z w1 ((w1.setCell ⟨w.heap.size,0,Z⟩ (ca b)).setCell ⟨w.heap.size,1,Z⟩ (U ao L cap)):=(Wr.aD w1 0 _).trans (Mv.refl _ _) (Wr.aD _ 1 _)
   have hw:c9 w.heap.size w w1:=cT.o.trans (HB.o.mono (by simp));exact hr.aO hw hw.size (aab _) (fun k hk=>by cases hk)
  have s1:=aao w1 w.heap.size 0 _ _ (ca b) jh;have s2:=aao (w1.setCell ⟨w.heap.size,0,Z⟩ (ca b)) w.heap.size 1 _ _ (U ao L cap) s1;exact s2.trans (by simp)
 clear hf hb hblk;by_cases hn:n=0
 ·have sR:L=0:=hL.2 hn
  subst sR
  have HN:dj ((neg && decide (0<n))=ce):=by show _=_;rw[hn];simp
  clear hn hL
  cases neg with
  |true=>
   go_wp2_with fail;have hf3:=aQ.o ce;refine aaD (abF rfl _ _ w.heap.size 62 _ _ _ rfl hf3.2.2 dk rfl (by kernel_rfl)) rfl ?_;rw[HN.o]
   exact⟨_,rfl,hf3.1,hf3.2.1⟩
  |false=>go_wp2_with fail;have hf3:=aQ.o ce;refine aaD (abF rfl _ _ w.heap.size 62 _ _ _ rfl hf3.2.2 dk rfl (by kernel_rfl)) rfl ?_;rw[HN.o];exact⟨_,rfl,hf3.1,hf3.2.1⟩
 have sR:(0:Int)<(L:Int):=by
  rcases abY L with h|h
  ·exact absurd (hL.1 h) hn
  omega
 have HN:dj ((neg && decide (0<n))=neg):=by show _=_;rw[aa7 (show 0<n by omega),Bool.and_true]
 clear hn hL
 cases neg with
 |true=>
  go_wp2_with fail;have hf3:=aQ.o (decide (0<L));refine aaD (abF rfl _ _ w.heap.size 62 _ _ _ rfl hf3.2.2 dk rfl (by kernel_rfl)) rfl ?_;rw[HN.o]
  exact⟨_,by rw[show decide (0<L)=ef from aa7 (by omega)],hf3.1,hf3.2.1⟩
 |false=>go_wp2_with fail;have hf3:=aQ.o ce;refine aaD (abF rfl _ _ w.heap.size 62 _ _ _ rfl hf3.2.2 dk rfl (by kernel_rfl)) rfl ?_;rw[HN.o];exact⟨_,rfl,hf3.1,hf3.2.1⟩
theorem K9 (neg:Bool)(hv:eR w v n):de co 188 #[dl #[ca neg,v]] w fun e w'=> ∃v',e=cl (dl #[ca (neg && decide (0<n)),v'])/\bI w.heap.size w' v' n/\c9 w.heap.size w w':=by
 obtain⟨ao,L,cap,rfl⟩:∃ao L cap,v=U ao L cap:=by obtain⟨xs,h1,-,-⟩:=hv;obtain⟨ao,cap,rfl,-⟩:=h1.2;exact⟨_,_,_,rfl⟩
 have hb0:=Qq w (O #[ca neg,U ao L cap] 62);have hb1:=Qq (w.alloc (O #[ca neg,U ao L cap] 62)) (O #[ca ce,U Z 0 0] 62);have eG:=hb0.trans (hb1.mono (by simp));have cT:=zq eG;have HL:=zq (Wy neg (hv.below eG))
 have eO:dj (((w.alloc (O #[ca neg,U ao L cap] 62)).alloc (O #[ca ce,U Z 0 0] 62)).heap[w.heap.size+1]?=F (O #[ca ce,U Z 0 0] 62 (0,0))):=by have:=aap (w.alloc (O #[ca neg,U ao L cap] 62)) (O #[ca ce,U Z 0 0] 62);rw[aaV]at this;exact this
 clear hv eG hb0 hb1;go_enter func188,ntmps188;go_wp2_with fail;refine HL.o.mono ?_;rintro e w1 ⟨v1,rfl,hf,hb⟩;have hz1:=hb.size;rw[aaV,aaV]at hz1;have hblk:w1.heap[w.heap.size+1]?=F (O #[ca ce,U Z 0 0] 62 (0,0)):=(hb.block (w.heap.size+1) (by simp)).trans eO;obtain⟨kC,L1,dI,rfl,-⟩:=hf.val;have HF:=zq hf;have HB:=zq hb;have jh:=zq hblk;have e0:w1.cell? ⟨w.heap.size+1,0,Z⟩=F (ca ce):=(aaj w1 _ _ _ _ _ hblk).trans rfl;have e1:w1.cell? ⟨w.heap.size+1,1,Z⟩=F (U Z 0 0):=(aaj w1 _ _ _ _ _ hblk).trans rfl;have f0:w1.frozen? ⟨w.heap.size+1,0,Z⟩=ce:=aax w1 _ 0 _ _ hblk;have f1:w1.frozen? ⟨w.heap.size+1,1,Z⟩=ce:=aax w1 _ 1 _ _ hblk;obtain⟨b,hb⟩:=xq ((neg && decide (0<n)));rw[<-hb];have j5:=zq hb
 have aQ:dj (bI w.heap.size ((w1.setCell ⟨w.heap.size+1,0,Z⟩ (ca b)).setCell ⟨w.heap.size+1,1,Z⟩ (U kC L1 dI)) (U kC L1 dI) n/\c9 w.heap.size w ((w1.setCell ⟨w.heap.size+1,0,Z⟩ (ca b)).setCell ⟨w.heap.size+1,1,Z⟩ (U kC L1 dI))/\((w1.setCell ⟨w.heap.size+1,0,Z⟩ (ca b)).setCell ⟨w.heap.size+1,1,Z⟩ (U kC L1 dI)).heap[w.heap.size+1]?=F (O #[ca b,U kC L1 dI] 62 (0,0))):=by
  have hlt:w.heap.size+1<((w.alloc (O #[ca neg,U ao L cap] 62)).alloc (O #[ca ce,U Z 0 0] 62)).heap.size:=by simp
  refine⟨bI.mono (bI.set (bI.set HF hlt 0 _) hlt 1 _) (by omega),?_,?_⟩
  ·have hr:Wr (w.heap.size+1) Z w1 ((w1.setCell ⟨w.heap.size+1,0,Z⟩ (ca b)).setCell ⟨w.heap.size+1,1,Z⟩ (U kC L1 dI)):=(Wr.aD w1 0 _).trans (Mv.refl _ _) (Wr.aD _ 1 _)
   have hw:c9 w.heap.size w w1:=cT.o.trans (HB.o.mono (by omega));exact hr.aO hw hw.size (by omega) (fun k hk=>by cases hk)
  have s1:=aao w1 (w.heap.size+1) 0 _ _ (ca b) jh;have s2:=aao (w1.setCell ⟨w.heap.size+1,0,Z⟩ (ca b)) (w.heap.size+1) 1 _ _ (U kC L1 dI) s1;exact s2.trans (by simp)
 clear hf hblk hb;go_wp2_with fail;refine aaD (abF rfl _ _ (w.heap.size+1) 62 _ _ _ rfl aQ.o.2.2 dk rfl (by kernel_rfl)) rfl ?_;exact⟨_,by rw[j5.o],aQ.o.1,aQ.o.2.1⟩
theorem Qm9 (neg:Bool)(hv:oC w v n):de co 193 #[ca neg,v] w fun e w'=> ∃v',e=cl (dl #[ca (neg && decide (0<n)),v'])/\bI w.heap.size w' v' n/\c9 w.heap.size w w':=Wy neg hv.weak
theorem Fi (neg:Bool)(hv:oC w v n):de co 188 #[dl #[ca neg,v]] w fun e w'=> ∃v',e=cl (dl #[ca (neg && decide (0<n)),v'])/\bI w.heap.size w' v' n/\c9 w.heap.size w w':=K9 neg hv.weak
theorem Vz (neg:Bool)(hv:eR w v n):de co 144 #[dl #[ca neg,v]] w fun e w'=>e=cl (A G (Ym neg n))/\c9 w.heap.size w w':=by
 obtain⟨ao,L,cap,rfl⟩:∃ao L cap,v=U ao L cap:=by obtain⟨xs,h1,-,-⟩:=hv;obtain⟨ao,cap,rfl,-⟩:=h1.2;exact⟨_,_,_,rfl⟩
 have hb0:=Qq w (O #[ca neg,U ao L cap] 62);have cT:=zq hb0;have HL:=zq (K9 neg (hv.below hb0));clear hv hb0;go_enter func144,ntmps144;go_wp2_with fail;refine HL.o.mono ?_;rintro e w1 ⟨v1,rfl,hf,hb⟩;obtain⟨kC,L1,dI,rfl,hL⟩:=hf.val;have HB:=zq (Qv cT hb);clear hf hb;by_cases hn:n=0
 ·have sR:L1=0:=hL.2 hn
  subst sR
  have hb:(neg && decide (0<n))=ce:=by rw[hn];simp
  have HS:dj (Ym neg n=0):=by show _=_;unfold Ym;rw[if_pos hn]
  have aI:=zq (Qv HB (Qq w1 (O #[ca ce,U kC 0 dI] 62)));rw[hb];clear hn hL hb;go_wp2_with fail;go_ret;exact⟨by rw[HS.o];rfl,aI⟩
 have sR:(0:Int)<(L1:Int):=by
  rcases abY L1 with h|h
  ·exact absurd (hL.1 h) hn
  omega
 have hb:(neg && decide (0<n))=neg:=by rw[aa7 (show 0<n by omega),Bool.and_true]
 rw[hb]
 have HS:dj (Ym neg n=if neg then -1 else 1):=by show _=_;unfold Ym;rw[if_neg hn]
 clear hn hL hb
 cases neg with
 |true=>
  have aI:=zq (Qv HB (Qq w1 (O #[ca ef,U kC L1 dI] 62)));go_wp2_with fail;go_ret
  exact⟨by rw[HS.o];rfl,aI⟩
 |false=>have aI:=zq (Qv HB (Qq w1 (O #[ca ce,U kC L1 dI] 62)));go_wp2_with fail;go_ret;exact⟨by rw[HS.o];rfl,aI⟩
theorem Tk (neg:Bool)(n:Nat)(w:db)(hv:eR w v n):de co 81 #[dl #[ca neg,v]] w fun e w'=>e=cl (eg ⟨(Xu neg n).toArray⟩)/\c9 w.heap.size w w':=by
 obtain⟨xs,h1,hn,hl⟩:=hv;obtain⟨ao,cap,rfl,-⟩:=h1.2;have hb0:=Qq w (O #[ca neg,U ao xs.length cap] 62);have cT:=zq hb0;have HD:=zq (Qxi (h1.below hb0) hl);have QB:dj (∀w5,c9 w.heap.size w w5->eR w5 (U ao xs.length cap) n):=fun w5 h5=>⟨xs,h1.below h5,hn,hl⟩
 have hc0:(w.alloc (O #[ca neg,U ao xs.length cap] 62)).cell? ⟨w.heap.size,0,Z⟩=F (ca neg):=by rw[adL _ _ _ _ rfl];rfl
 have hc1:(w.alloc (O #[ca neg,U ao xs.length cap] 62)).cell? ⟨w.heap.size,1,Z⟩=F (U ao xs.length cap):=by rw[adL _ _ _ _ rfl];rfl
 have tH:=zq hc0;have LP:=zq hc1
 have afK: ¬9223372036854775807<1+(Yb n).length:=by have:=Db (xs:=xs) (by omega) h1.ok;rw[hn]at this;omega
 rw[hn]at HD;obtain⟨L,hL⟩:=xq xs.length;rw[<-hL]at HD QB cT tH LP ⊢;obtain⟨k,hk⟩:=xq (Ym neg n);have HK:=zq hk
 have HTX:dj (Xu neg n=if k<0 then 45::aj.aA n else aj.aA n):=by
  show _=_;rw[hk];unfold Xu Ym;by_cases h0:n=0
  ·rw[if_neg (by simp[h0]),if_pos h0,if_neg (by omega)];rfl
  cases neg with
  |true=>rw[if_pos ⟨rfl,h0⟩,if_neg h0,if_pos rfl,if_pos (by omega)];rfl
  |false=>rw[if_neg (by simp),if_neg h0,if_neg (by simp)];rfl
 clear h1 hn hl hb0 hc0 hc1 hk hL;by_cases cZ:k<0
 ·have hT:Xu neg n=45::aj.aA n:=by rw[HTX.o,if_pos cZ]
  have HT:=zq hT;clear hT;go_enter func81,ip;go_wp2_with fail;refine HD.o.mono ?_;rintro e w1 ⟨rfl,hb1⟩;have aK:=zq (Qv cT hb1);have d0:=(hb1.cell (p:=⟨w.heap.size,0,Z⟩) (by simp)).trans tH;have d1:=(hb1.cell (p:=⟨w.heap.size,1,Z⟩) (by simp)).trans LP;clear hb1;go_wp2_with fail;refine(Vz neg (QB.o _ aK)).mono ?_;rintro e w2 ⟨rfl,hb2⟩;rw[<-HK.o];have aI:=zq (Qv aK hb2);clear hb2;go_wp2_with fail;go_ret;refine⟨?_,aI⟩;rw[HT.o];show Ending.returned (eg ((⟨#[45]⟩:ByteArray)++⟨(Yb n).toArray⟩))=_;rw[Zp,Gf];simp
 have hT:Xu neg n=aj.aA n:=by rw[HTX.o,if_neg cZ]
 have HT:=zq hT;clear hT;go_enter func81,ip;go_wp2_with fail;refine HD.o.mono ?_;rintro e w1 ⟨rfl,hb1⟩;have aK:=zq (Qv cT hb1);have d0:=(hb1.cell (p:=⟨w.heap.size,0,Z⟩) (by simp)).trans tH;have d1:=(hb1.cell (p:=⟨w.heap.size,1,Z⟩) (by simp)).trans LP;clear hb1;go_wp2_with fail;refine(Vz neg (QB.o _ aK)).mono ?_;rintro e w2 ⟨rfl,hb2⟩;rw[<-HK.o];have aI:=zq (Qv aK hb2);clear hb2;go_wp2_with fail;go_ret;exact⟨by rw[HT.o];rfl,aI⟩
def Yd (x:List Nat)(y:Nat):Int:=if 1<x.length then 1 else match x with| []=> -1|d::_=>if d<y then -1 else if y<d then 1 else 0
theorem Fa {x:List Nat}(y:Nat){xv yv:dq}(hx:cA B w xv x)(hy:cA B w yv [y]):de co 248 #[xv,yv] w fun e w'=>e=cl (A G (Yd x y))/\c9 w.heap.size w w':=by
 obtain⟨xo,aae,rfl,x1,x2,x3⟩:=Qj hx;obtain⟨yo,mK,rfl,y1,y2,y3⟩:=Qj hy;obtain⟨gy,rfl,-,yl,yc⟩:=y3 (by simp)
 have cy:w.cell? ⟨gy,0,Z⟩=F (A G y):=by rw[yc 0 (by simp)];rfl
 cases x with
 |nil=>
  clear hx hy x3 y3 yc;go_enter fb,fa;go_wp2_with fail;go_ret
  exact⟨rfl,aaw _ _⟩
 |cons d l=>
  cases l with
  |cons d2 l=>
   have hne:(((d::d2::l).length:Nat):Int)≠1:=by simp only[aaq];omega
   have HO:dj (Yd (d::d2::l) y=1):=by show _=_;unfold Yd;rw[if_pos (by simp)]
   obtain⟨n,hn⟩:∃n,n=(d::d2::l).length:=⟨_,rfl⟩
   have fQ:2<=n:=by rw[hn];simp
   rw[<-hn]
   have fX:(((n:Nat):Int) !=1)=ef:=by simp;omega
   have kH:decide (((n:Nat):Int)<1)=ce:=aaQ (by omega);clear hx hy x3 y3 yc hne hn x1;go_enter fb,fa;go_wp2_with fail;go_ret
   exact⟨by rw[HO.o];rfl,aaw _ _⟩
  |nil=>
   obtain⟨gx,rfl,-,xl,xc⟩:=x3 (by simp)
   have cx:w.cell? ⟨gx,0,Z⟩=F (A G d):=by rw[xc 0 (by simp)];rfl
   have gZ:=World.new_ne w ⟨gx,0,Z⟩ cx;have hny:=World.new_ne w ⟨gy,0,Z⟩ cy;have qp:=zq cx;have oI:dj (c9 w.heap.size w w.drew.drew/\c9 w.heap.size w w.drew):=⟨(aaw _ _).drew.drew,(aaw _ _).drew⟩;have HCY:=zq cy;rcases Nat.lt_trichotomy d y with hlt|heq|lA
   ·have h1:decide (d<y)=ef:=aa7 hlt
    have HO:dj (Yd [d] y= -1):=by show _=_;unfold Yd;rw[if_neg (by simp)];simp[hlt]
    clear hx hy x3 y3 yc xc hlt;go_enter fb,fa;go_wp2_with fail;go_loop [5] (fun iv=>iv=A G 0) (fun iv=>(intOf iv+1).toNat)
    case atStart=>rfl
    case round=>
     subst hrel;go_wp2_with fail;go_region;go_wp2_with fail;go_ret;exact⟨by rw[HO.o];rfl,by first|exact oI.o.1|exact oI.o.2⟩
   ·have h1:decide (d<y)=ce:=aaQ (by omega)
    have h2:decide (y<d)=ce:=aaQ (by omega)
    have HO:dj (Yd [d] y=0):=by show _=_;unfold Yd;rw[if_neg (by simp)];simp[heq]
    clear hx hy x3 y3 yc xc heq;go_enter fb,fa;go_wp2_with fail;go_loopw [5] (fun iv wr=>(iv=A G 0/\wr=w)\/(iv=A G (-1)/\wr=w.drew.drew)) (fun iv _=>(intOf iv+1).toNat)
    case atStart=>exact .inl ⟨rfl,rfl⟩
    case round=>
     rcases hrel with ⟨rfl,rfl⟩|⟨rfl,rfl⟩
     ·go_wp2_with fail
      go_region;go_wp2_with fail;go_region;go_wp2_with fail;exact⟨.inr ⟨rfl,trivial⟩,by simp[intOf]⟩
     go_wp2_with fail;go_ret;exact⟨by rw[HO.o];rfl,oI.o.1⟩
   have h1:decide (d<y)=ce:=aaQ (by omega);have h2:decide (y<d)=ef:=aa7 lA
   have HO:dj (Yd [d] y=1):=by show _=_;unfold Yd;rw[if_neg (by simp)];simp[lA];omega
   clear hx hy x3 y3 yc xc lA;go_enter fb,fa;go_wp2_with fail;go_loop [5] (fun iv=>iv=A G 0) (fun iv=>(intOf iv+1).toNat)
   case atStart=>rfl
   case round=>
    subst hrel;go_wp2_with fail;go_region;go_wp2_with fail;go_region;go_wp2_with fail;go_ret;exact⟨by rw[HO.o];rfl,by first|exact oI.o.1|exact oI.o.2⟩
theorem Qy6 (neg:Bool)(n:Nat)(w:db)(hv:oC w v n):de co 81 #[dl #[ca neg,v]] w fun e w'=>e=cl (eg ⟨(Xu neg n).toArray⟩)/\c9 w.heap.size w w':=Tk neg n w hv.weak
theorem Qft:az (Xn [64])=[64]:=by decide
theorem Qj9 (hst:az ds=ds)(hs:∀d∈ds,d<65536):0<Yd ds 64↔64<aP ds:=by
 unfold Yd
 match ds,hst,hs with
 | [],_,_=>simp[aP]
 | [d],_,_=>
  simp only[aaR,ado,adq,aP,abI,aba];split
  ·constructor<;>intro h<;>omega
  split
  ·constructor<;>intro h<;>omega
  constructor<;>intro h<;>omega
 |a::b::l,hst,hs=>
  rw[if_pos (by simp)]
  have I:az (b::l)=b::l:=by
   have J:=(aw.Xj (a::b::l)).1;have E:=aw.bt (a::b::l) (b::l).length (by rw[<-Ji,hst];rfl);obtain⟨d,H,K⟩:=E;rw[<-Ji,hst]at H
   have bi:(b::l).getLast? =F d:=by
    rw[List.getLast?_eq_getElem?]
    simpa using H
   exact Pj bi K
  have J:=Nt I (by simp);have E:aP (a::b::l)=a+65536*aP (b::l):=rfl;constructor
  ·intro _;omega
  intro _;decide
theorem Qy4 (hv:oC w v n)(hu:Rd w u [64]):de co 228 #[v,u] w fun e w'=> ∃c:Int,e=cl (A G c)/\(0<c↔64<n)/\c9 w.heap.size w w':=by
 obtain⟨xs,h1,hn,hl⟩:=hv;have H1:=zq h1;have HU:=zq hu;have HN:=zq hn;have bS:=zq h1.ok;clear h1 hn hu;go_enter func228,ntmps228;go_wp2_with fail;refine(Cg H1 hl).mono ?_;rintro e w1 ⟨d1,rfl,qP,hb1⟩;have uW:=zq qP;have aK:=zq hb1;clear qP hb1;go_wp2_with fail;refine(Cg (HU.o.below aK) (by decide)).mono ?_;rintro e w2 ⟨d2,rfl,yi,hb2⟩;rw[Qft]at yi;have mN:dj (cA w.heap.size w2 d2 [64]):=Xh yi aK.o.size;have GH:dj (cA w.heap.size w2 d1 (az (Xn xs))):=Qy uW hb2 (aab _);have aI:=zq (Qv aK hb2);clear yi hb2;go_wp2_with fail;refine(Fa 64 GH mN).mono ?_;rintro e w3 ⟨rfl,hb3⟩
 have HC:dj (0<Yd (az (Xn xs)) 64↔64<n):=by show _↔_;rw[Qj9 (Vh _) (Zo (Jr _)),Ye,Zr bS.o,HN.o]
 have aV:=zq (Qv aI hb3);obtain⟨c,hc⟩:=xq (Yd (az (Xn xs)) 64);rw[<-hc]at HC ⊢;clear hb3 hc;go_wp2_with fail;go_ret;exact⟨_,rfl,HC,aV⟩
theorem W8 {b:Bytes}(w:db)(h1:Vd b)(h2:0<b.length)(h3:b.length<=1048576)(h4:Xe b=ce):de co 87 #[eg ⟨b.toArray⟩] w fun e w'=> ∃v,e=cl (du #[v,A G 0])/\bI w.heap.size w' v (aj.Q7 b)/\c9 w.heap.size w w':=by
 have K:(⟨b.toArray⟩:ByteArray).data.toList=b:=rfl
 have I:∃c,b[0]?=F c/\Qr c=ef:=by
  cases b with
  |nil=>simp at h2
  |cons c b=>
   refine⟨c,rfl,?_⟩;rcases h1 c (by simp) with h|h
   ·exact h
   exfalso;have:Xe (c::b)=ef:=(Jw _).2 ⟨0,by simp,by unfold Ux;rw[h];simp⟩;rw[h4]at this;cases this
 refine(K7 ⟨b.toArray⟩ w (by show b.toArray.size<=_;simpa using h3) h1 I).mono ?_;rintro e w' h;rw[K]at h;rcases h with ⟨E,-,-⟩|⟨-,v,rfl,bi,J⟩
 ·rw[h4]at E;cases E
 refine⟨v,rfl,?_,J⟩
 have H:=bi.nfr (aab _) (Tz _) (by
  have:=Nk (b.filter Qr);have:=acE Qr b
  omega)
 rw[Cu]at H;exact H
theorem Quq:Oz:=by intro b w h1 h2 h3 h4;have HG:=zq (W8 w h1 h2 h3 h4);clear h1 h2 h3 h4;go_enter func149,ntmps149;go_wp2_with fail;refine HG.o.mono ?_;rintro e w1 ⟨v,rfl,hf,hb⟩;have HB:=zq hb;obtain⟨⟨xs,x1,x2,x3⟩,-,-⟩:=hf;have HX:=zq x1;have HV:=zq x2;clear x1 x2 hb;go_wp2_with fail;refine(Qfp HX x3).mono ?_;rintro e w2 ⟨rfl,hb2⟩;rw[HV.o];have aI:=zq (Qv HB hb2);clear hb2;go_wp2_with fail;go_ret;exact⟨rfl,aI⟩
def Un (n:Nat):Int:=if 64<n then -1 else (n:Int)
theorem Qx5 {b:Bytes}(w:db)(h1:Vd b)(h2:0<b.length)(h3:b.length<=1048576)(h4:Xe b=ce):de co 229 #[eg ⟨b.toArray⟩] w fun e w'=>e=cl (A G (Un (aj.Q7 b)))/\c9 w.heap.size w w':=by
 have HG:=zq (W8 w h1 h2 h3 h4);clear h1 h2 h3 h4;obtain⟨n,hn⟩:=xq (aj.Q7 b);rw[<-hn]at HG ⊢;clear hn;go_enter func229,ntmps229;go_wp2_with fail;refine HG.o.mono ?_;rintro e w1 ⟨v,rfl,hf,hb⟩;have HB:=zq hb;have HF:=zq hf;have HA:=zq (Qq w1 (O #[A gc 64] 101));have hblk:bh (w1.alloc (O #[A gc 64] 101)) w1.heap.size [64]:=⟨aap w1 _,by intro x hx;simp at hx;subst hx;unfold BB;omega⟩;have vd:=zq (hblk.whole (by simp));clear hf hb hblk;go_wp2_with fail;refine(Qy4 (HF.o.1.below HA) vd).mono ?_;rintro e w2 ⟨c,rfl,hc,hb2⟩;have OC:=zq (Qv HA hb2);have aI:=zq (Qv HB OC);clear hb2;by_cases tY:64<n
 ·have hcp:decide ((0:Int)<c)=ef:=aa7 (hc.2 tY)
  have HS:dj (Un n= -1):=by show _=_;unfold Un;rw[if_pos tY]
  clear hc tY;go_wp2_with fail;go_ret;exact⟨by rw[HS.o];rfl,aI⟩
 have hcp:decide ((0:Int)<c)=ce:=aaQ (fun h=>tY (hc.1 h))
 have HS:dj (Un n=(n:Int)):=by show _=_;unfold Un;rw[if_neg tY]
 clear hc;go_wp2_with fail;refine(Ck (HF.o.1.below OC)).mono ?_;rintro e w3 ⟨v3,rfl,hf3,hb3⟩;obtain⟨⟨xs,x1,x2,x3⟩,-,x5⟩:=hf3;replace x5:=x5.zero;have aV:=zq (Qv aI hb3);clear hb3;obtain⟨ao,cap,rfl,-,-,bm,aS⟩:=x1.2;by_cases h0:n=0
 ·have hl0:xs.length=0:=x5.2 h0
  rw[hl0]
  have oM:dj (Un n=0):=by show _=_;rw[HS.o,h0];rfl
  clear x1 x2 x3 x5 bm aS h0 hl0 tY;go_wp2_with fail;go_ret;exact⟨by rw[oM.o];rfl,aV⟩
 obtain⟨x,ys,rfl⟩:∃x ys,xs=x::ys:=by
  cases xs with
  |nil=>exact absurd (x5.1 rfl) h0
  |cons x ys=>exact⟨x,ys,rfl⟩
 have hxn:x=n:=by
  have e:aw.val (x::ys)=x+BB*aw.val ys:=rfl;rw[x2]at e;by_cases hy:aw.val ys=0
  ·rw[hy]at e;omega
  have:BB*1<=BB*aw.val ys:=aa3 (aab _) (by omega)
  have lh:64<BB:=by unfold BB;omega
  omega
 subst hxn;obtain⟨g,o,rfl,c0⟩:=aS 0 x rfl;rw[aba]at c0
 have hb0:((((x::ys).length:Nat):Int)==0)=ce:=by simp;omega
 have dO:(0:Int)<(((x::ys).length:Nat):Int):=by simp
 obtain⟨ll,fV⟩:∃ll,ll=(x::ys).length:=⟨_,rfl⟩;rw[<-fV]at hb0 dO ⊢;have hw:IntKind.i64.wrap (x:Int)=(x:Int):=abh _ (by omega);clear x1 x2 x3 x5 bm aS h0 fV;go_wp2_with fail;go_ret;exact⟨by rw[HS.o];rfl,aV⟩
theorem Qx2 (n:Nat)(w:db)(hl:(aj.aA n).length<=1048576):de co 230 #[eg ⟨(aj.aA n).toArray⟩] w fun e w'=> ∃v,e=cl (du #[v,A G 0])/\bI w.heap.size w' v n/\c9 w.heap.size w w':=by
 obtain⟨T,hT⟩:=xq (⟨(aj.aA n).toArray⟩:ByteArray)
 have fS:T.data.toList=aj.aA n:=by rw[hT]
 have hsz:T.size<=1048576:=by rw[aa2,fS];exact hl
 have hne:T.toList.isEmpty=ce:=by
  cases h:T.toList.isEmpty with
  |false=>rfl
  |true=>have h1:T.toList=[]:=List.isEmpty_iff.1 h;rw[ByteArray.toList_eq,fS]at h1;exact absurd h1 (aj.Ss n)
 have hd:∀c∈T.data.toList,Qr c=ef:=by rw[fS];exact aj.T0 n
 have HR:=zq (fun w5=>Qx1 T w5 hsz hne hd)
 have HV:dj (∀(w5 w6:db) v,my w5.heap.size w6 v (Jg (az (je T.data.toList)))->bI w5.heap.size w6 v n):=by
  intro w5 w6 v h
  have h6:=h.nfr (aab _) (Tz _) (by
   have:=Nk T.data.toList;rw[fS]at this ⊢
   omega)
  rw[Cu,fS]at h6
  have e:aw.bC (ar.bZ (aj.aA n))=n:=by have h7:=aj.Qve n;unfold aj.Q7 at h7;rw[List.filter_eq_self.2 (aj.T0 n)]at h7;exact h7
  rw[e]at h6;exact h6
 rw[<-hT];clear hT fS hsz hne hd;go_enter func230,ntmps230;go_wp2_with fail;refine(HR.o _).mono ?_;rintro e w1 ⟨v,rfl,hf,hb⟩;have HF:=zq (HV.o _ _ _ hf);have HB:=zq hb;clear hf hb;go_wp2_with fail;go_ret2;exact⟨v,rfl,HF,HB⟩
theorem Qqv (T:ByteArray)(b:UInt8){l:Bytes}(h:T.data.toList=b::l):∃h0:0<T.size,(T[0]'h0)=b:=by
 have E:0<T.size:=by rw[aa2,h];simp
 refine⟨E,?_⟩;have e:T.data.toList[0]'(by rw[h];simp)=T[0]'(E):=rfl;rw[<-e];simp[h]
theorem Qbm (T:ByteArray):T.extract 0 T.size=T:=by apply ByteArray.ext;apply Array.ext';rw[Lib.extract_eq,aa2];simp only[aa4];exact aam (by simp)
theorem Qbh (T D:ByteArray)(b:UInt8)(h:T.data.toList=b::D.data.toList):T.extract 1 T.size=D:=by apply ByteArray.ext;apply Array.ext';rw[Lib.extract_eq,aa2,h];simp only[List.drop_succ_cons,aa4];exact aam (by simp)
theorem Qvg (neg:Bool)(n:Nat)(w:db)(hld:(aj.aA n).length<=1048576)(hp:neg=ef->n≠0):de co 198 #[eg ⟨(aj.bR (neg,n)).toArray⟩] w fun e w'=> ∃v,e=cl (du #[dl #[ca neg,v],A G 0])/\bI w.heap.size w' v n/\c9 w.heap.size w w':=by
 obtain⟨D,hD⟩:=xq (⟨(aj.aA n).toArray⟩:ByteArray)
 have hDl:D.data.toList=aj.aA n:=by rw[hD]
 have HR:=zq (fun w5=>Qx2 n w5 hld);rw[<-hD]at HR;have eG:=Qq w (O #[ca ce,U Z 0 0] 62);have cT:=zq eG;have eO:=zq (aap w (O #[ca ce,U Z 0 0] 62))
 have fX:(neg && decide (0<n))=neg:=by
  cases neg with
  |false=>rfl
  |true=>have:=hp rfl;simp;omega
 have HMD:dj (∀(v:dq) (w5:db),oC w5 v n->de co 193 #[ca neg,v] w5 fun e w'=> ∃v',e=cl (dl #[ca neg,v'])/\bI w5.heap.size w' v' n/\c9 w5.heap.size w5 w'):=by intro v w5 h5;have h6:=Qm9 neg h5;rw[fX]at h6;exact h6
 clear eG fX
 have aQ:dj (∀(w1 w2:db) (v2:dq),c9 (w.alloc (O #[ca ce,U Z 0 0] 62)).heap.size (w.alloc (O #[ca ce,U Z 0 0] 62)) w1->c9 w1.heap.size w1 w2->bI w1.heap.size w2 v2 n->((w2.setCell ⟨w.heap.size,0,Z⟩ (ca neg)).setCell ⟨w.heap.size,1,Z⟩ v2).heap[w.heap.size]?=F (O #[ca neg,v2] 62 (0,0))/\bI w.heap.size ((w2.setCell ⟨w.heap.size,0,Z⟩ (ca neg)).setCell ⟨w.heap.size,1,Z⟩ v2) v2 n/\c9 w.heap.size w ((w2.setCell ⟨w.heap.size,0,Z⟩ (ca neg)).setCell ⟨w.heap.size,1,Z⟩ v2)):=by intro w1 w2 v2 h1 h2 hf;have hz1:=h1.size;rw[aaV]at hz1;have hz2:=h2.size;have hblk:w2.heap[w.heap.size]?=F (O #[ca ce,U Z 0 0] 62 (0,0)):=(h2.block w.heap.size (by omega)).trans ((h1.block w.heap.size (by simp)).trans eO);have hs1:=aao w2 w.heap.size 0 _ _ (ca neg) hblk;have hs2:=aao _ w.heap.size 1 _ _ v2 hs1;refine⟨hs2.trans (by simp),bI.mono (bI.set (bI.set hf (by omega) 0 _) (by omega) 1 _) (by omega),?_⟩;have jD:c9 w.heap.size w w2:=Qv cT (Qv h1 h2);exact(jD.setCell (p:=⟨w.heap.size,0,Z⟩) (aab _) _).setCell (p:=⟨w.heap.size,1,Z⟩) (aab _) _
 obtain⟨T,hT⟩:=xq (⟨(aj.bR (neg,n)).toArray⟩:ByteArray)
 have fS:T.data.toList=(if neg then [45] else [])++D.data.toList:=by rw[hT,hDl];rfl
 have jC:T.size<=1048577:=by
  rw[aa2,fS,aag,hDl]
  cases neg<;>simp<;>omega
 rw[<-hT];clear hT hld
 cases neg with
 |true=>
  have IP:T.data.toList=45::D.data.toList:=by rw[fS];rfl
  obtain⟨hs0,hb0⟩:=Qqv T 45 IP;have hx:=Qbh T D 45 IP
  have qL:(T[0]'hs0).toNat=45:=by rw[hb0];rfl
  have hs1:1<=T.size:=hs0;clear fS IP hb0 hD hDl hp;go_enter it,gE;go_wp2_with fail;refine(HR.o _).mono ?_;rintro e w1 ⟨v1,rfl,ya,hb1⟩;have FL:=zq ya;have aK:=zq hb1;obtain⟨kC,L1,dI,rfl,-⟩:=ya.val;clear ya hb1;go_wp2_with fail;refine(HMD.o _ _ FL.o.1).mono ?_;rintro e w2 ⟨v2,rfl,hf2,hb2⟩;obtain⟨DF,L2,bn,rfl,-⟩:=hf2.val;have aI:=zq hb2;have hblk:w2.heap[w.heap.size]?=F (O #[ca ce,U Z 0 0] 62 (0,0)):=(hb2.block w.heap.size (by have:=aK.o.size;rw[aaV]at this;omega)).trans ((aK.o.block w.heap.size (by simp)).trans eO);have HX:=zq (aQ.o w1 w2 _ aK aI hf2);have e0:w2.cell? ⟨w.heap.size,0,Z⟩=F (ca ce):=(aaj w2 _ _ _ _ _ hblk).trans rfl;have e1:w2.cell? ⟨w.heap.size,1,Z⟩=F (U Z 0 0):=(aaj w2 _ _ _ _ _ hblk).trans rfl;have f0:w2.frozen? ⟨w.heap.size,0,Z⟩=ce:=aax w2 _ 0 _ _ hblk;have f1:w2.frozen? ⟨w.heap.size,1,Z⟩=ce:=aax w2 _ 1 _ _ hblk;clear hf2 hb2 hblk;go_wp2_with fail;refine aaD (Qd rfl w.heap.size 62 rfl HX.o.1 dk rfl (by kernel_rfl)) rfl ?_
  exact⟨_,rfl,HX.o.2.1,HX.o.2.2⟩
 |false=>
  obtain⟨b0,l0,hbl⟩:∃b l,aj.aA n=b::l:=by
   cases h:aj.aA n with
   |nil=>exact absurd h (aj.Ss n)
   |cons b l=>exact⟨b,l,rfl⟩
  have hTD:T.data.toList=D.data.toList:=by rw[fS];rfl
  have lY:T=D:=by apply ByteArray.ext;apply Array.ext';exact hTD
  have hT0:T.data.toList=b0::l0:=by rw[hTD,hDl,hbl]
  obtain⟨hs0,hb0⟩:=Qqv T b0 hT0
  have hx:T.extract 0 T.size=D:=by rw[Qbm,lY]
  have iI:Qr b0=ef:=aj.T0 n b0 (by rw[hbl];simp)
  obtain⟨d,nR,kj⟩:∃d:Nat,(T[0]'hs0).toNat=d/\48<=d/\d<=57:=by refine⟨_,rfl,?_⟩;rw[hb0];simp[Qr]at iI;omega
  obtain⟨kj,hd3⟩:=kj
  have n43:(((d:Nat):Int)==43)=ce:=by
   have h:((d:Nat):Int)≠43:=by omega
   simpa using h
  have n45:(((d:Nat):Int)==45)=ce:=by
   have h:((d:Nat):Int)≠45:=by omega
   simpa using h
  have n226:(((d:Nat):Int)==226)=ce:=by
   have h:((d:Nat):Int)≠226:=by omega
   simpa using h
  clear fS hTD lY hT0 hb0 iI hbl hD hDl hp;go_enter it,gE;by_cases h2:2<T.size
  case' pos=>have h2':(2:Int)<((T.size:Nat):Int):=by omega
  case' neg=>have h2': ¬(2:Int)<((T.size:Nat):Int):=by omega
  all_goals
   go_wp2_with fail;refine(HR.o _).mono ?_;rintro e w1 ⟨v1,rfl,ya,hb1⟩;have FL:=zq ya;have aK:=zq hb1;obtain⟨kC,L1,dI,rfl,-⟩:=ya.val;clear ya hb1;go_wp2_with fail;refine(HMD.o _ _ FL.o.1).mono ?_;rintro e w2 ⟨v2,rfl,hf2,hb2⟩;obtain⟨DF,L2,bn,rfl,-⟩:=hf2.val;have aI:=zq hb2;have hblk:w2.heap[w.heap.size]?=F (O #[ca ce,U Z 0 0] 62 (0,0)):=(hb2.block w.heap.size (by have:=aK.o.size;rw[aaV]at this;omega)).trans ((aK.o.block w.heap.size (by simp)).trans eO);have HX:=zq (aQ.o w1 w2 _ aK aI hf2);have e0:w2.cell? ⟨w.heap.size,0,Z⟩=F (ca ce):=(aaj w2 _ _ _ _ _ hblk).trans rfl;have e1:w2.cell? ⟨w.heap.size,1,Z⟩=F (U Z 0 0):=(aaj w2 _ _ _ _ _ hblk).trans rfl;have f0:w2.frozen? ⟨w.heap.size,0,Z⟩=ce:=aax w2 _ 0 _ _ hblk;have f1:w2.frozen? ⟨w.heap.size,1,Z⟩=ce:=aax w2 _ 1 _ _ hblk;clear hf2 hb2 hblk;go_wp2_with fail;refine aaD (Qd rfl w.heap.size 62 rfl HX.o.1 dk rfl (by kernel_rfl)) rfl ?_;exact⟨_,rfl,HX.o.2.1,HX.o.2.2⟩
theorem dX.le1 {L:Nat}(h:dX L n)(hn:n<=64):L<=1:=by apply acI;intro I;have J:=h.2 (by omega);have E:BB^1<=BB^(L-1):=aa6 aC (by omega);have H:BB=18446744073709551616:=rfl;rw[Nat.pow_one]at E;omega
theorem Qxo (neg:Bool)(hv:oC w v n):de co 188 #[dl #[ca neg,v]] w fun e w'=> ∃v',e=cl (dl #[ca (neg && decide (0<n)),v'])/\bI w.heap.size w' v' n/\(n<=64->lenOf v'<=1)/\c9 w.heap.size w w':=
 (Fi neg hv).mono fun e w' ⟨v',he,hf,hb⟩=>⟨v',he,hf,fun h=>hf.2.2.le1 h,hb⟩
theorem Cw (hv:oC w v n)(hn:n<=64):de co 199 #[dl #[ca ce,v]] w fun e w'=>e=cl (du #[A G n,A G 0])/\c9 w.heap.size w w':=by
 obtain⟨ao,L,cap,rfl⟩:∃ao L cap,v=U ao L cap:=by obtain⟨xs,h1,-,-⟩:=hv;obtain⟨ao,cap,rfl,-⟩:=h1.2;exact⟨_,_,_,rfl⟩
 have hb0:=Qq w (O #[ca ce,U ao L cap] 62);have bp:=zq hb0;have HL:=zq (Qxo ce (hv.below hb0));clear hv hb0;go_enter func199,ntmps199;go_wp2_with fail;refine HL.o.mono ?_;rintro e w1 ⟨v1,rfl,hf,hlen,hb⟩;have aK:=zq (Qv bp hb);obtain⟨⟨xs,x1,x2,x3⟩,-,x5⟩:=hf;replace x5:=x5.zero;obtain⟨kC,dI,rfl,-,-,bm,aS⟩:=x1.2;have py:n<=64->xs.length<=1:=hlen;have nj:=py hn;by_cases h0:n=0
 ·have hl0:xs.length=0:=x5.2 h0
  rw[hl0];have aI:=zq (Qv aK (Qq w1 (O #[ca (ce && decide (0<n)),U kC 0 dI] 62)));subst h0;clear x1 x2 x3 x5 bm aS hlen py nj hl0 hn hb;go_wp2_with fail;go_ret2;exact⟨rfl,aI⟩
 obtain⟨y,rfl⟩:∃y,xs=[y]:=by
  cases xs with
  |nil=>exact absurd (x5.1 rfl) h0
  |cons y ys=>
   cases ys with
   |nil=>exact⟨y,rfl⟩
   |cons z zs=>simp at nj
 have hy:y=n:=by have e:aw.val [y]=y+BB*0:=rfl;rw[x2]at e;omega
 subst hy;obtain⟨g,o,rfl,c0⟩:=aS 0 y rfl;rw[aba]at c0;have aI:=zq (Qv aK (Qq w1 (O #[ca (ce && decide (0<y)),U (F ⟨g,o,Z⟩) 1 dI] 62)));have c1:(w1.alloc (O #[ca ce,U (F ⟨g,o,Z⟩) 1 dI] 62)).cell? ⟨g,o,Z⟩=F (A gc y):=((Qq w1 _).cell (p:=⟨g,o,Z⟩) (aaY w1 _ c0)).trans c0;have hw:IntKind.i64.wrap (y:Int)=(y:Int):=abh _ (by omega);have cN:decide ((9223372036854775808:Int)<=(y:Int))=ce:=aaQ (by omega);have hl:([y]:List Nat).length=1:=rfl;rw[hl];clear x1 x2 x3 x5 bm aS hlen py nj hn h0 hb hl;go_wp2_with fail;go_ret2;exact⟨rfl,aI⟩
theorem Qvr:∀(n:Nat) (cs:List C) (col:Nat) (ts:List Tok),cs.length<=n->aM col cs=.ok ts-> ∀t∈ts,t.1=1\/t.1=2\/t.1=3:=by
 intro n
 induction n with
 |zero=>
  intro cs col ts K h;rw[aau (Nat.le_zero.1 K),Zc]at h
  cases h
  intro t E;cases E
 |succ n ih=>
  intro cs col ts K h
  cases cs with
  |nil=>
   rw[Zc]at h
   cases h
   intro t E;cases E
  |cons c cs=>
   have J:∀(k col:Nat) (m:List Tok),1<=k->aM col ((c::cs).drop k)=.ok m-> ∀t∈m,t.1=1\/t.1=2\/t.1=3:=by
    intro k col m bi I
    have aE:((c::cs).drop k).length+1<=(c::cs).length:=by rw[aan,aaq];omega
    exact ih _ _ _ (by omega) I
   have bi:=Fk c
   have H:∀(x:Tok) (m:List Tok),(x.1=1\/x.1=2\/x.1=3)->(∀t∈m,t.1=1\/t.1=2\/t.1=3)-> ∀t∈[x]++m,t.1=1\/t.1=2\/t.1=3:=by
    intro x m T I t E;rcases aaP.1 E with E|E
    ·rw[aaO.1 E];exact T
    exact I t E
   by_cases k0:kd c=0
   ·rw[Wm k0]at h;cases h
   by_cases k1:kd c=1
   ·rw[Jj _ k1]at h
    exact J 1 _ _ (aab _) h
   by_cases k2:kd c=2
   ·rw[J4 _ k2]at h
    split at h
    ·cases h
    cases h
    intro t E;cases E
   by_cases k3:kd c=3
   ·rw[Wb _ k3]at h
    split at h
    ·cases h
    obtain⟨m,I,rfl⟩:=aj.Yu h;exact H _ _ (by simp) (J _ _ _ (Q8 (p:=Qn) (c:=c) (cs:=cs) (by simp[Qn,k3])) I)
   by_cases k4:kd c=4
   ·rw[J6 _ k4]at h
    split at h
    ·cases h
    obtain⟨m,I,rfl⟩:=aj.Yu h;exact H _ _ (by simp) (J _ _ _ (Q8 (p:=aX) (c:=c) (cs:=cs) (by simp[aX,k4])) I)
   by_cases k5:kd c=5
   ·rw[J5 _ k5]at h
    obtain⟨m,I,rfl⟩:=aj.Yu h;exact H _ _ (by simp) (J 1 _ _ (aab _) I)
   rw[Jv _ (by omega)]at h;cases h
structure aeR (l:Bytes) (ts:List Tok):Prop where
 len:ts.length<=1048576
 num:∀t∈ts,vC t
 kind:∀t∈ts,t.1=1\/t.1=2\/t.1=3
theorem aaa {l:Bytes}(h:l.length<=1048576){ts:List Tok}(ht:aM 1 (Qz l)=.ok ts):aeR l ts where
 len:=by have h1:=(Tn _ _ _ ht).1;have h2:=Yk l;omega
 num:=fun t hm h1=>by obtain⟨a,b,c⟩:=Ns ht t hm h1;refine⟨a,b,?_,c⟩;have h2:=aj.Cf _ _ _ _ (aab _) ht t hm h1;rw[Yi]at h2;exact aar h2 h
 kind:=Qvr _ _ _ _ (aab _) ht
theorem Mn {e:eS}(h:HD n ds)(hl:ds.length<=134217728)(hp:Qp5 ds w e w'):∃v,e=cl v/\bI w.heap.size w' v n/\c9 w.heap.size w w':=by obtain⟨v,xs,rfl,⟨E,I⟩,J,H,T,K⟩:=hp;refine⟨v,rfl,⟨⟨xs,E,by rw[H,h.2.2],by omega⟩,I,?_⟩,K⟩;obtain⟨ao,bi,rfl,-⟩:=E.2;show dX xs.length _;rw[<-h.2.2,<-H];exact dX.of E.ok J
theorem HD.len {m:Nat}{es:List Nat}(h:HD n ds)(he:HD m es)(wO:n<=m):ds.length<=es.length:=
 (ak.iC h.2.1 h.1 _).2 (by rw[h.2.2];exact abp wO (by rw[<-he.2.2];exact ak.aN he.1))
theorem bI.keep (h:bI B w v n)(hb:c9 w.heap.size w w'):bI B w' v n:=by obtain⟨⟨xs,a,b,c⟩,E,H⟩:=h;exact⟨⟨xs,a.below hb,b,c⟩,fun q hq=>⟨(E q hq).1,aal (E q hq).2 hb.size⟩,H⟩
def uu (x y:Nat)(w:db)(e:eS)(w':db):Prop:=if y=0 then e=cl (du #[U Z 0 0,U Z 0 0,A G 4])/\c9 w.heap.size w w' else
 ∃qv rv,e=cl (du #[qv,rv,A G 0])/\bI w.heap.size w' qv (x / y)/\bI w.heap.size w' rv (x % y)/\c9 w.heap.size w w'
theorem Qvy (hv:eR w v x)(hu:eR w u y):de co 247 #[v,u] w (uu x y w):=by
 obtain⟨xs,v1,v2,v3⟩:=hv;obtain⟨ys,u1,u2,u3⟩:=hu;have HV:=zq v1;have HU:=zq u1;have kY:=zq v2;have RT:=zq u2;clear v1 u1 v2 u2;go_enter func247,ntmps247;go_wp2_with fail;refine(W5 HU (by omega)).mono ?_;rintro e w1 ⟨dv,ds,rfl,d1,d2,d3,b1⟩;rw[RT.o]at d2;have nR:=d1;obtain⟨ao,cap,rfl,-⟩:=nR.1.2;have D1:=zq d1;have D2:=zq d2;have B1:=zq b1;have p8:=zq (HV.o.below b1);by_cases hy:y=0
 ·have qc:ds=[]:=d2.zero.2 hy
  rw[qc];have HY:dj (y=0):=hy;have hz:(([]:List Nat).length:Int)=0:=rfl;clear d1 nR d2 d3 b1 qc hy;go_wp2_with fail;go_ret3;unfold uu;rw[if_pos HY.o];exact⟨rfl,B1⟩
 have jF:ds≠[]:=fun e=>hy (d2.zero.1 e)
 have fg:(((ds.length:Nat):Int)==0)=ce:=by have:=abm.2 jF;simp;omega
 have HY:=zq hy;have uL:=zq jF
 have afO: ¬((ds.length:Nat):Int)=0:=by have:=abm.2 jF;omega
 clear d1 nR d2 b1 jF hy;go_wp2_with fail;refine(W5 p8 (by omega)).mono ?_;rintro e w2 ⟨nv,ns,rfl,n1,n2,n3,b2⟩;rw[kY.o]at n2;have N1:=zq n1;have N2:=zq n2;have B2:=zq (B1.o.trans (b2.mono B1.o.size));have D12:=zq (D1.o.1.below b2);clear n1 n2 b2 fg afO;go_wp2_with fail;refine(Gn N1.o.1.weak D12.o.weak N2.o.1 D2.o.1 D2.o.2.1 N2.o.2.1 uL (by omega) (by omega)).mono ?_;rintro e w3 ⟨qv,rv,qs,rs,rfl,q1,r1,q2,r2,b3⟩;rw[N2.o.2.2,D2.o.2.2]at q2 r2;have jX:=q2.len N2 (acB _ _);have lG:=r2.len D2 (aa1 (abL _ (by have:=HY.o;omega)));have Q1:=zq q1;have R1:=zq r1;have Q2:=zq q2;have R2:=zq r2;have B3:=zq (B2.o.trans (b3.mono B2.o.size));clear q1 r1 q2 r2 b3;go_wp2_with fail;refine(Pw Q1 Q2.o.1 Q2.o.2.1 (by omega)).mono ?_;rintro e w4 hp;obtain⟨qv',rfl,nq,b4⟩:=Mn Q2 (by omega) hp;have NQ:=zq nq;have R14:=zq (R1.o.below b4);have B4:=zq (B3.o.trans (b4.mono B3.o.size));have Z3:=zq B3.o.size;clear hp nq b4;go_wp2_with fail;refine(Pw R14 R2.o.1 R2.o.2.1 (by omega)).mono ?_;rintro e w5 hp;obtain⟨Ov,rfl,nr,b5⟩:=Mn R2 (by omega) hp
 have aq:uu x y w (cl (du #[qv',Ov,A G 0])) w5:=by unfold uu;rw[if_neg HY.o];exact⟨_,_,rfl,(NQ.o.keep b5).mono Z3,nr.mono B4.o.size,B4.o.trans (b5.mono B4.o.size)⟩
 have aQ:=zq aq;clear hp nr b5 aq;go_wp2_with fail;go_ret3;exact aQ.o
def BX (w:db)(v:dq):Nat:=match v with
 | U (F a) n _=>ak.val ((List.range n).map fun i=>match w.cell? (a.add i) with|some u=>(intOf u).toNat|none=>0)
 |_=>0
theorem Qww (h:ee w v xs):BX w v=ak.val xs:=by
 obtain⟨-,ao,K,rfl,-,-,-,E⟩:=h;by_cases h0:xs=[]
 ·subst h0
  cases ao<;>rfl
 obtain⟨x0,I⟩:∃x0,xs[0]?=F x0:=⟨_,aad (abm.2 h0)⟩;obtain⟨g,o,rfl,-⟩:=E 0 x0 I;show ak.val _=_;congr 1;apply List.ext_getElem?;intro i;by_cases hi:i<xs.length
 ·obtain⟨x,H⟩:∃x,xs[i]?=F x:=⟨_,aad hi⟩
  obtain⟨g',o',e,J⟩:=E i x H
  cases e
  rw[aa9,List.getElem?_range hi,H,Option.map_some,show (⟨g,o,Z⟩:Addr).add i=⟨g,o+i,Z⟩ by simp[Addr.add],J];simp[intOf]
 rw[abo (by simp;omega),abo (by omega)]
def EZ (x y N:Nat)(w:db)(xv yv:dq)(wr:db):Prop:=∃(m n:Nat) (es bs:List Nat),ee wr xv es/\ee wr yv bs/\HD m es/\HD n bs/\Nat.gcd m n=Nat.gcd x y/\es.length<=N/\bs.length<=N/\c9 w.heap.size w wr
theorem Qm7 (hv:eR w v x)(hu:eR w u y):de co 226 #[v,u] w fun e w'=> ∃v',e=cl v'/\bI w.heap.size w' v' (Nat.gcd x y)/\c9 w.heap.size w w':=by
 obtain⟨xs,v1,v2,v3⟩:=hv;obtain⟨ys,u1,u2,u3⟩:=hu;have HV:=zq v1;have HU:=zq u1;have kY:=zq v2;have RT:=zq u2;clear v1 u1 v2 u2;go_enter func226,ntmps226;go_wp2_with fail;refine(W5 HV (by omega)).mono ?_;rintro e w1 ⟨av,es,rfl,a1,a2,a3,b1⟩;rw[kY.o]at a2;have A1:=zq a1;have A2:=zq a2;have B1:=zq b1;have oz:=zq (HU.o.below b1);clear a1 a2 b1;go_wp2_with fail;refine(W5 oz (by omega)).mono ?_;rintro e w2 ⟨bv,bs,rfl,c1,c2,c3,b2⟩;rw[RT.o]at c2;have hst:EZ x y 134217728 w av bv w2:=⟨x,y,es,bs,(A1.o.1.below b2).weak,c1.1.weak,A2,c2,rfl,by omega,by omega,B1.o.trans (b2.mono B1.o.size)⟩;have HST:=zq hst;clear c1 c2 b2 hst A1 A2;go_wp2_with fail;go_loopw [5,6] (fun xv yv wr=>EZ x y 134217728 w xv yv wr) (fun _ yv wr=>BX wr yv)
 case atStart=>exact HST.o
 clear HST
 case round=>
  obtain⟨m,n,ms,ns,h1,h2,h3,h4,h5,h6,h7,h8⟩:=hrel;obtain⟨-,kC,dI,rfl,-⟩:=id h1;obtain⟨-,DF,bn,rfl,-⟩:=id h2;have H1:=zq h1;have H2:=zq h2;have H3:=zq h3;have H4:=zq h4;have H5:=zq h5;have H8:=zq h8;by_cases hn:ns=[]
  ·have fL:n=0:=h4.zero.1 hn
   have HG:dj (m=Nat.gcd x y):=by show _=_;have:=H5.o;rw[fL,Nat.gcd_zero_right]at this;exact this
   have kH: ¬((0:Int)<((ns.length:Nat):Int)):=by rw[hn];simp
   clear hn fL h1 h2 h3 h4 h5 h8;go_wp2_with fail;refine(Pw H1 H3.o.1 H3.o.2.1 (by omega)).mono ?_;rintro e w3 hp;obtain⟨gv,rfl,ng,b3⟩:=Mn H3 (by omega) hp;rw[HG.o]at ng;have NG:=zq (ng.mono H8.o.size);have B3:=zq (H8.o.trans (b3.mono H8.o.size));clear hp ng b3;go_wp2_with fail;go_ret;exact⟨_,rfl,NG,B3⟩
  have kH:(0:Int)<((ns.length:Nat):Int):=by have:=abm.2 hn;omega
  have fL:n≠0:=fun e=>hn (h4.zero.2 e);have bw:=zq hn;have tO:=zq fL;clear hn fL h1 h2 h3 h4 h5 h8;go_wp2_with fail;refine(Gn H1 H2 H3.o.1 H4.o.1 H4.o.2.1 H3.o.2.1 bw (by omega) (by omega)).mono ?_;rintro e w3 ⟨qv,rv,qs,rs,rfl,q1,r1,q2,r2,b3⟩;rw[H3.o.2.2,H4.o.2.2]at r2;have nX:=abL m (show 0<n by have:=tO.o;omega);have aq:EZ x y 134217728 w (U DF ns.length bn) rv w3:=⟨n,m % n,ns,rs,H2.o.below b3,r1,H4,r2,by rw[<-H5.o,Nat.gcd_comm m n,Nat.gcd_rec n m,Nat.gcd_comm],h7,aar (r2.len H4 (aa1 nX)) h7,H8.o.trans (b3.mono H8.o.size)⟩
  have kG:BX w3 rv<BX wr (U DF ns.length bn):=by rw[Qww r1,Qww H2.o,r2.2.2,H4.o.2.2];exact nX
  have aQ:=zq aq;have nG:=zq kG;clear q1 r1 q2 r2 b3 aq kG nX;go_wp2_with fail;have aq:=aQ.o;have kG:=nG.o;exact⟨aq,kG⟩
theorem eR.shape (h:eR w v n):∃ao L cap,v=U ao L cap:=by obtain⟨xs,E,-,-⟩:=h;obtain⟨-,ao,cap,rfl,-⟩:=E;exact⟨_,_,_,rfl⟩
theorem bI.weak (h:bI B w v n):eR w v n:=h.1.weak
def ZP (b:Bool)(n:Nat)(w:db)(e:eS)(w':db):Prop:=∃v,e=cl (dl #[ca b,v])/\bI w.heap.size w' v n/\c9 w.heap.size w w'
theorem Va {R:Nat}(h:bI B w v n)(hR:R<B)(a b:dq):bI B ((w.setCell ⟨R,0,Z⟩ a).setCell ⟨R,1,Z⟩ b) v n:=bI.set (bI.set h hR 0 _) hR 1 _
theorem Qm8 (na:Bool){nb:Bool}(hv:eR w v x)(hu:eR w u y):de co 189 #[dl #[ca na,v],dl #[ca nb,u]] w (ZP ce (Nat.gcd x y) w):=by have HV:=zq hv;have HU:=zq hu;obtain⟨ao,L,cap,rfl⟩:=hv.shape;obtain⟨bo,L2,bn,rfl⟩:=hu.shape;clear hv hu;obtain⟨w0,hw0,bp,b0,b1,b2,hsz⟩:=Zn w #[ca na,U ao L cap] #[ca nb,U bo L2 bn] #[ca ce,U Z 0 0] 62 62;have fJ:=zq (HV.o.below bp);have jk:=zq (HU.o.below bp);have kz:=zq hw0;have B2:=zq b2;have dy:=zq hsz;clear hw0 b0 b1 b2 hsz;go_enter func189,ntmps189;go_wp2_with fail;rw[<-kz.o];obtain⟨g,hg⟩:=xq w.heap.size;rw[<-hg]at B2 dy ⊢;have HG:=zq hg;clear hg;refine(Qm7 fJ jk).mono ?_;rintro e w1 ⟨q,rfl,q1,hb⟩;obtain⟨qo,QL,bK,rfl⟩:=q1.weak.shape;have Q1:=zq q1;have HB:=zq hb;clear q1 hb;have j2:=(HB.o.block (g+1+1) dy).trans B2;have r0:w1.cell? ⟨g+1+1,0,Z⟩=F (ca ce):=(aaj w1 _ _ _ _ _ j2).trans rfl;have r1:w1.cell? ⟨g+1+1,1,Z⟩=F (U Z 0 0):=(aaj w1 _ _ _ _ _ j2).trans rfl;have f0:w1.frozen? ⟨g+1+1,0,Z⟩=ce:=aax w1 _ 0 _ _ j2;have f1:w1.frozen? ⟨g+1+1,1,Z⟩=ce:=aax w1 _ 1 _ _ j2;have J2:=zq j2;clear j2;go_wp2_with fail;have s1:=aao w1 (g+1+1) 0 _ 62 (ca ce) J2;have s2:=aao _ (g+1+1) 1 _ 62 (U qo QL bK) s1;refine aaD (abF rfl _ _ (g+1+1) 62 _ _ _ rfl s2 dk rfl (by kernel_rfl)) rfl ?_;exact⟨_,rfl,(Va Q1 dy _ _).mono (by have:=dy.o;have:=HG.o;omega),Zd (bp.o.trans (HB.o.mono bp.o.size)) (by have:=HG.o;omega)⟩
theorem Qfg (na:Bool)(hv:eR w v x):de co 190 #[dl #[ca na,v]] w (ZP (!na && decide (0<x)) x w):=by
 obtain⟨ao,L,cap,rfl⟩:=hv.shape;have hb0:=Qq w (O #[ca na,U ao L cap] 62);have hb1:=Qq (w.alloc (O #[ca na,U ao L cap] 62)) (O #[ca ce,U Z 0 0] 62);have eG:=hb0.trans (hb1.mono (by simp));have cT:=zq eG;have HL:=zq (Wy (!na) (hv.below eG))
 have eO:dj (((w.alloc (O #[ca na,U ao L cap] 62)).alloc (O #[ca ce,U Z 0 0] 62)).heap[w.heap.size+1]?=F (O #[ca ce,U Z 0 0] 62 (0,0))):=by have:=aap (w.alloc (O #[ca na,U ao L cap] 62)) (O #[ca ce,U Z 0 0] 62);rw[aaV]at this;exact this
 have h0:=aap w (O #[ca na,U ao L cap] 62);have h00:=(hb1.block w.heap.size (by simp)).trans h0;have c0:=(aaj _ _ 0 _ _ _ h00).trans rfl;have c1:=(aaj _ _ 1 _ _ _ h00).trans rfl;clear hv eG hb0 hb1 h0 h00;go_enter func190,ntmps190;go_wp2_with fail;refine HL.o.mono ?_;rintro e w1 ⟨v1,rfl,hf,hb⟩;have hz1:=hb.size;rw[aaV,aaV]at hz1;have hblk:w1.heap[w.heap.size+1]?=F (O #[ca ce,U Z 0 0] 62 (0,0)):=(hb.block (w.heap.size+1) (by simp)).trans eO;obtain⟨kC,L1,dI,rfl,-⟩:=hf.val;have HF:=zq hf;have HB:=zq hb;have jh:=zq hblk;have e0:w1.cell? ⟨w.heap.size+1,0,Z⟩=F (ca ce):=(aaj w1 _ _ _ _ _ hblk).trans rfl;have e1:w1.cell? ⟨w.heap.size+1,1,Z⟩=F (U Z 0 0):=(aaj w1 _ _ _ _ _ hblk).trans rfl;have f0:w1.frozen? ⟨w.heap.size+1,0,Z⟩=ce:=aax w1 _ 0 _ _ hblk;have f1:w1.frozen? ⟨w.heap.size+1,1,Z⟩=ce:=aax w1 _ 1 _ _ hblk;obtain⟨b,hb⟩:=xq ((!na && decide (0<x)));rw[<-hb];have j5:=zq hb;clear hf hblk hb c0 c1;go_wp2_with fail;have s1:=aao w1 (w.heap.size+1) 0 _ _ (ca b) jh;have s2:=aao (w1.setCell ⟨w.heap.size+1,0,Z⟩ (ca b)) (w.heap.size+1) 1 _ _ (U kC L1 dI) s1;have s3:((w1.setCell ⟨w.heap.size+1,0,Z⟩ (ca b)).setCell ⟨w.heap.size+1,1,Z⟩ (U kC L1 dI)).heap[w.heap.size+1]?=F (O #[ca b,U kC L1 dI] 62 (0,0)):=s2.trans (by simp)
 have hlt:w.heap.size+1<((w.alloc (O #[ca na,U ao L cap] 62)).alloc (O #[ca ce,U Z 0 0] 62)).heap.size:=by simp
 refine aaD (abF rfl _ _ (w.heap.size+1) 62 _ _ _ rfl s3 dk rfl (by kernel_rfl)) rfl ?_;exact⟨_,by rw[j5.o],(Va HF hlt _ _).mono (by omega),Zd (cT.o.trans (HB.o.mono cT.o.size)) (by omega)⟩
theorem Qjm (w:db)(c0 c1 c2 c3:Array dq)(t t2 t3:TypeId):∃w0,w0=(((w.alloc (O c0 t)).alloc (O c1 t)).alloc (O c2 t2)).alloc (O c3 t3)/\dj (c9 w.heap.size w w0)/\w0.heap[w.heap.size]?=F (O c0 t (0,0))/\w0.heap[w.heap.size+1]?=F (O c1 t (0,0))/\w0.heap[w.heap.size+1+1]?=F (O c2 t2 (0,0))/\w0.heap[w.heap.size+1+1+1]?=F (O c3 t3 (0,0))/\w.heap.size+1+1+1<w0.heap.size:=by
 obtain⟨w1,h,E,H,I,J,bi⟩:=Zn w c0 c1 c2 t t2;have a:=Qq w1 (O c3 t3);have n:=aap w1 (O c3 t3)
 have K:w1.heap.size=w.heap.size+1+1+1:=by rw[h];simp
 rw[K]at n;refine⟨w1.alloc (O c3 t3),by rw[h],E.o.trans (a.mono E.o.size),?_,?_,?_,n,by simp;omega⟩
 ·exact(a.block w.heap.size (by omega)).trans H
 ·exact(a.block (w.heap.size+1) (by omega)).trans I
 exact(a.block (w.heap.size+1+1) (by omega)).trans J
theorem Hb {P:Program}{fn:Func}{p q u:Tmp}{ty ty2:TypeId}(h:fn.results= #[.cell p ty,.cell q ty2,.tmp u]){tmps:Array dq}(g g2:Nat)(t t2:TypeId){cs sM:Array dq}{fr fr2:Nat×Nat}{d d2:TypeDesc}
  (hp:tmps.getD p undef=da (F ⟨g,0,Z⟩)) (hq:tmps.getD q undef=da (F ⟨g2,0,Z⟩)) (hg:w.heap[g]?=F (O cs t fr)) (hg2:w.heap[g2]?=F (O sM t2 fr2))
  (hu:P.underlying ty=F d) (hd:(match d with| .struct _| .array _ _=>ef|_=>ce)=ef) (hi:(P.info? ty).map (·.size)=F cs.size) (YO:P.underlying ty2=F d2) (kj:(match d2 with| .struct _| .array _ _=>ef|_=>ce)=ef) (gF:(P.info? ty2).map (·.size)=F sM.size):
  (results fn tmps).run P w=.ok (du #[dl cs,dl sM,tmps.getD u undef]) w:=by
 have E:tmps[p]?.getD undef=da (F ⟨g,0,Z⟩):=by simpa using hp
 have H:tmps[q]?.getD undef=da (F ⟨g2,0,Z⟩):=by simpa using hq
 simp[results,h,E,H,asAddr,run_loadVar_row w g t ty cs fr d hg hu hd hi,run_loadVar_row w g2 t2 ty2 sM fr2 d2 hg2 YO kj gF]
def TrP (na nb:Bool)(x y:Nat)(w:db)(e:eS)(w':db):Prop:=∃qv rv,e=cl (du #[dl #[ca ((na !=nb) && decide (0<x / y)),qv],dl #[ca (na && decide (0<x % y)),rv],A G 0])/\bI w.heap.size w' qv (x / y)/\bI w.heap.size w' rv (x % y)/\c9 w.heap.size w w'
theorem Qy7 (na nb:Bool)(hv:eR w v x)(hu:eR w u y)(h0:y≠0):de co 227 #[dl #[ca na,v],dl #[ca nb,u]] w (TrP na nb x y w):=by
 have HV:=zq hv;have HU:=zq hu;have H0:=zq h0;obtain⟨ao,L,cap,rfl⟩:=hv.shape;obtain⟨bo,L2,bn,rfl⟩:=hu.shape;clear hv hu h0;obtain⟨w0,hw0,bp,b0,b1,b2,b3,hsz⟩:=Qjm w #[ca na,U ao L cap] #[ca nb,U bo L2 bn] #[ca ce,U Z 0 0] #[ca ce,U Z 0 0] 62 62 62;have fJ:=zq (HV.o.below bp);have jk:=zq (HU.o.below bp);have kz:=zq hw0;obtain⟨g,hg⟩:=xq w.heap.size;rw[<-hg]at b0 b1 b2 b3 hsz;have BB0:=zq b0;have BB1:=zq b1;have LM:=zq b2;have BB3:=zq b3;have HG:=zq hg;clear hw0 b0 b1 b2 b3 hg;go_enter func227,ntmps227;go_wp2_with fail;rw[<-kz.o,<-HG.o];refine(Qvy fJ jk).mono ?_;intro e w1 hp;unfold uu at hp;rw[if_neg H0.o]at hp;obtain⟨qv,rv,rfl,q1,r1,hb1⟩:=hp;obtain⟨qo,QL,bK,rfl⟩:=q1.weak.shape;obtain⟨ro,RL,rcap,rfl⟩:=r1.weak.shape;have Q1:=zq q1;have R1:=zq r1;have aK:=zq hb1;have hz1:=hb1.size;have hz0:=bp.o.size;have bd:c9 w1.heap.size w1 w1.drew:=(aaw w1.heap.size w1).drew;obtain⟨y0,-,-,-⟩:=Qb ((hb1.block g (by omega)).trans BB0);obtain⟨y1,-,-,-⟩:=Qb ((hb1.block (g+1) (by omega)).trans BB1);have J2:=zq ((hb1.block (g+1+1) (by omega)).trans LM);have J3:=zq ((hb1.block (g+1+1+1) hsz).trans BB3);have QD:=zq (Q1.o.weak.below bd);have RD:=zq (R1.o.weak.below bd);have Y0:=zq (Qx bd y0);have Y1:=zq (Qx bd y1);obtain⟨p0,p1,pf0,pf1⟩:=Qb J2;obtain⟨s0,s1,sf0,sf1⟩:=Qb J3;have P0:=zq (Qx bd p0);have P1:=zq (Qx bd p1);have S0:=zq (Qx bd s0);have S1:=zq (Qx bd s1);have PF0:=zq (Qc bd p0 pf0);have PF1:=zq (Qc bd p1 pf1);have SF0:=zq (Qc bd s0 sf0);have SF1:=zq (Qc bd s1 sf1);clear q1 r1 hb1 bd p0 p1 pf0 pf1 s0 s1 sf0 sf1;obtain⟨fq,JF⟩:=xq (((na !=nb) && decide (0<x / y)));obtain⟨fr,kE⟩:=xq ((na && decide (0<x % y)))
 have HMQ:dj (∀wx v,eR wx v (x / y)->de co 193 #[ca (na !=nb),v] wx (ZP fq (x / y) wx)):=fun wx v h=>by rw[JF];exact Wy _ h
 have oJ:dj (∀wx v,eR wx v (x % y)->de co 193 #[ca na,v] wx (ZP fr (x % y) wx)):=fun wx v h=>by rw[kE];exact Wy _ h
 have HFQ:=zq JF;have tL:=zq kE;clear JF kE;go_wp2_with fail
 go_region_with
  (first
   |(have hq8:=b8;go_at_call 193;refine(oJ.o _ _ (RD.o.below b8)).mono ?_;rintro e w9 ⟨t0,rfl,t1,b9⟩;obtain⟨tp,TL,gN,rfl⟩:=t1.weak.shape;have u0:=Qx b9 (Qx b8 P0.o);have u1:=Qx b9 (Qx b8 P1.o);have u2:=Qx b9 (Qx b8 S0.o);have u3:=Qx b9 (Qx b8 S1.o);have v0:=Qc b9 (Qx b8 P0.o) (Qc b8 P0.o PF0.o);have v1:=Qc b9 (Qx b8 P1.o) (Qc b8 P1.o PF1.o);have v2:=Qc b9 (Qx b8 S0.o) (Qc b8 S0.o SF0.o);have v3:=Qc b9 (Qx b8 S1.o) (Qc b8 S1.o SF1.o);have z0:=Qx b9 (Qx b8 Y0.o);have z1:=Qx b9 (Qx b8 Y1.o))
   |(go_at_call 193;refine(HMQ.o _ _ QD.o).mono ?_;rintro e w8 ⟨n0,rfl,n1,b8⟩;obtain⟨no,NL,bL,rfl⟩:=n1.weak.shape;have x0:=Qx b8 Y0.o;have x1:=Qx b8 Y1.o))
 all_goals
  have il:c9 w1.heap.size w1 w9:=(aaw w1.heap.size w1).drew.trans (b8.trans (b9.mono b8.size))
  have l2:g+1+1<w1.heap.size:=by omega
  have l3:g+1+1+1<w1.heap.size:=by omega
  obtain⟨m2,m3,hwr⟩:=Qcf ((il.block (g+1+1) l2).trans J2) ((il.block (g+1+1+1) l3).trans J3) (by omega) (ca fq) (U no NL bL) (ca fr) (U tp TL gN);have N9:=zq (n1.keep b9);have T9:=zq t1;have M2:=zq m2;have M3:=zq m3;have fO:=zq hwr;have qi:=zq (bp.o.trans ((aK.o.trans (il.mono hz1)).mono hz0));have Z8:=zq b8.size;clear b8 b9 x0 x1 u0 u1 u2 u3 v0 v1 v2 v3 z0 z1 il m2 m3 hwr n1 t1;go_wp2_with fail;refine aaD (Hb rfl (g+1+1) (g+1+1+1) 62 62 rfl rfl M2 M3 dk rfl (by kernel_rfl) dk rfl (by kernel_rfl)) rfl ?_;have hn:bI (g+1+1+1+1) _ (U no NL bL) (x / y):=Va (Va (N9.o.mono (by show _<=w1.heap.size;omega)) (R:=g+1+1) (by omega) (ca fq) (U no NL bL)) (R:=g+1+1+1) (by omega) (ca fr) (U tp TL gN);have ht:bI (g+1+1+1+1) _ (U tp TL gN) (x % y):=Va (Va (T9.o.mono (by have:=Z8.o;simp at this;omega)) (R:=g+1+1) (by omega) (ca fq) (U no NL bL)) (R:=g+1+1+1) (by omega) (ca fr) (U tp TL gN);refine⟨_,_,by rw[HFQ.o,tL.o];rfl,hn.mono (by have:=HG.o;omega),ht.mono (by have:=HG.o;omega),fO.o.aO qi qi.o.size (by have:=HG.o;omega) (fun k hk=>by cases hk;have:=HG.o;omega)⟩
end Go.Proofs.YtgfmiladfeoldaaGreatDoor
