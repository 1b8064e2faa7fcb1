/- Joined texts of this claim's proof: RnO. -/
import Derived.Test.YtgfmiladfeoldaaGreatDoorPk1
import Derived.Test.YtgfmiladfeoldaaGreatDoorPk47
set_option linter.unusedSimpArgs false
set_option linter.unusedVariables false
set_option maxRecDepth 100000
set_option maxHeartbeats 16000000
namespace Go.Proofs.YtgfmiladfeoldaaGreatDoor
open Go.RowKit LexP NatP
theorem Tryz.infoInts:(Tryz.prog.info? 45).map (fun i=>(i.zero,i.size,i.bytes))=some (some (.slice none 0 0),1,24):=by kernel_rfl
def matO (col:Nat)(x:RfP.RW)(rr:RfP.EntR):RfP.MR:=match rr with
 | .error e=> .error e
 | .ok (a,s)=>if a.2.any (· !=a.2.headD 0) then .error (col,2) else if 64<a.2.length||64<a.2.headD 0 then .error (col,5) else RfP.has x (.mat ⟨a.2.length,a.2.headD 0,a.1⟩) s.ts
theorem Qwl {fin a0 q:Nat}{L:List Tok}{x:RfP.RW}(hm:SynP.Qv [91] x.ts=true)(hd:L.drop a0=x.ts)(hq:q=a0+1)(hk:(SynP.Qy 1 (L.drop q) && SynP.Qv [58] (L.drop (q+1)))=false):
  ∃rr,matR fin x=matO (SynP.Q7 fin (L.drop a0)) x rr/\RfP.Us fin [] [] ⟨L.drop q,x.depth⟩ rr:=by
 have h:x.ts.tail=L.drop q:=by rw[<-hd,List.tail_drop,hq]
 have E:=SynP.W7 fin (x.ts.length+3) (s:=⟨x.ts,x.depth⟩) (Nat.le_refl _) (Nat.le_refl _)
 have H:SynP.X6 fin (x.ts.length+3) ⟨x.ts,x.depth⟩=(SynP.entries fin (x.ts.length+3) [] [] ⟨L.drop q,x.depth⟩).bind (SynP.Yo (SynP.Q7 fin (L.drop a0))):=by
  unfold SynP.X6 SynP.want;rw[if_pos (show SynP.Qv [91] (⟨x.ts,x.depth⟩:SynP.St).ts=true from hm)];simp only[SynP.Yj]
  have e0:(SynP.St.adv ⟨x.ts,x.depth⟩)=⟨L.drop q,x.depth⟩:=by
   show (⟨x.ts.tail,x.depth⟩:SynP.St)=_;rw[h]
  rw[e0];rw[if_neg (show ¬(SynP.Qy 1 (L.drop q) && SynP.Qv [58] (L.drop q).tail)=true by rw[List.tail_drop,hk];decide),hd]
 cases hE:SynP.entries fin (x.ts.length+3) [] [] ⟨L.drop q,x.depth⟩ with
 |none=>
  rw[H,hE]at E
  exact E.elim
 |some rr=>
  refine⟨rr,?_,RfP.Qj9 hE⟩;unfold matR;rw[H,hE]
  cases rr with
  |error e=>rfl
  |ok p=>
   obtain⟨a,s⟩:=p;show (match SynP.Yo _ a s with|some (.ok (m,s))=>RfP.has x (.mat m) s.ts|some (.error e)=> .error e|none=> .error (0,0))=matO _ x (.ok (a,s));unfold SynP.Yo matO;simp only;by_cases c1:(a.2.any (· !=a.2.headD 0))=true
   ·rw[if_pos c1,if_pos c1];rfl
   ·rw[if_neg c1,if_neg c1]
    by_cases c2:(decide (64<a.2.length)||decide (64<a.2.headD 0))=true
    ·rw[if_pos c2,if_pos c2];rfl
    ·rw[if_neg c2,if_neg c2];rfl
def Qkq (rs:List Rw26)(cur:List (Bool×Nat)):Prop:=(∀r∈rs,r.2.2≠[]/\ ∀p∈r.2.2,p.1=true->p.2≠0)/\ ∀p∈cur,p.1=true->p.2≠0
def MtL (fin:Nat)(x:RfP.RW)(L:List Tok)(rr:RfP.EntR)(w0:World)(R:Nat)(tv nv vv sv rv:Value)(wr:World):Prop:=
 ∃(j:Nat) (rs:List Rw26) (lv:Value) (cs:List (Bool×Value)) (cur:List (Bool×Nat)),Mt wr w0.heap.size rv (rs++[(lv,cs,cur)])/\WkAt w0 R tv nv vv sv x j wr/\RfP.Us fin (rs.map fun r=>r.2.2) cur ⟨L.drop j,x.depth⟩ rr/\j<=L.length/\
  rs.length+1<=j/\cs.length<=j/\((rs.map fun r=>r.2.2).flatten++cur).length<=j/\Qkq rs cur
def MtE (x:RfP.RW)(L:List Tok)(rr:RfP.EntR)(w0:World)(R:Nat)(tv nv vv sv rv:Value)(wr:World):Prop:=
 ∃(j:Nat) (rs:List Rw26) (d:Nat),Mt wr w0.heap.size rv rs/\WkAt w0 R tv nv vv sv x j wr/\rr=.ok (((rs.map fun r=>r.2.2).flatten,(rs.map fun r=>r.2.2).map List.length),⟨L.drop j,d⟩)/\j<=L.length/\
  rs≠[]/\rs.length<=j/\(rs.map fun r=>r.2.2).flatten.length<=j/\Qkq rs []
theorem Mt.last {w:World}{B:Nat}{rv lv:Value}{rs:List Rw26}{cs:List (Bool×Value)}{cur:List (Bool×Nat)}(h:Mt w B rv (rs++[(lv,cs,cur)])):
  ∃gr rcap lo lcap,rv=.slice (some ⟨gr,0,none⟩) (rs.length+1) rcap/\rs.length+1<=rcap/\B<=gr/\gr<w.heap.size/\w.cell? ⟨gr,rs.length,none⟩=some (.slice lo cs.length lcap)/\w.frozen? ⟨gr,rs.length,none⟩=false/\lv=.slice lo cs.length lcap/\cs.length=cur.length:=by
 have I:=h.own;obtain⟨ao,rcap,H,a1,a2,a3⟩:=Qj I
 have K:(rs++[(lv,cs,cur)]).length=rs.length+1:=by simp
 rw[K]at H a1 a3;obtain⟨gr,rfl,b1,b2,b3⟩:=a3 (by omega);obtain⟨r1,r2⟩:=h.row (lv,cs,cur) (by simp);obtain⟨lo,lcap,J,-,-,-⟩:=Qj r1;have E:lv=.slice lo cs.length lcap:=J;refine⟨gr,rcap,lo,lcap,H,a1,b1,b2,?_,?_,E,r2.1⟩
 ·rw[b3 rs.length (by omega)]
  rw[List.map_append,List.getElem?_append_right (by simp)];simp[E]
 ·rw[K,H]at I
  exact I.frozenAt rs.length
theorem Mt.entry {w0 w5 w6 w7:World}{R J:Nat}{tv nv vv sv rv lv:Value}{x:RfP.RW}{rs:List Rw26}{cs:List (Bool×Value)}{cur:List (Bool×Nat)}(h:Mt w5 w0.heap.size rv (rs++[(lv,cs,cur)]))(hwk:WkAt w0 R tv nv vv sv x J w5)(hR:R<w0.heap.size)
  {gr rcap:Nat} (hrv:rv=.slice (some ⟨gr,0,none⟩) (rs.length+1) rcap) {nb:Bool} {k L6 c6:Nat} {o6:Option Addr} (hf:NFr w5.heap.size w6 (.slice o6 L6 c6) k) (hb6:Below w5.heap.size w5 w6) {gg cap7:Nat}
  (hown:w7.ownsRow w0.heap.size 62 2 (.slice (some ⟨gg,0,none⟩) (cs.length+1) cap7) (cs.length+1) (Xq cs++[.bool nb,.slice o6 L6 c6])) (hg:(w6.alloc (.cells #[.bool nb,.slice o6 L6 c6] 62)).grownBy w7 lv.ownBlock) (hat:lv.ownBlock=some gg\/gg=w6.heap.size+1):
  Mt (w7.setCell ⟨gr,rs.length,none⟩ (.slice (some ⟨gg,0,none⟩) (cs.length+1) cap7)) w0.heap.size rv (rs++[(.slice (some ⟨gg,0,none⟩) (cs.length+1) cap7,cs++[(nb,.slice o6 L6 c6)],cur++[(nb,k)])])/\
   WkAt w0 R tv nv vv sv x J (w7.setCell ⟨gr,rs.length,none⟩ (.slice (some ⟨gg,0,none⟩) (cs.length+1) cap7)):=by
 have I:=Qq w6 (.cells #[.bool nb,.slice o6 L6 c6] 62);have O:Below w5.heap.size w5 (w6.alloc (.cells #[.bool nb,.slice o6 L6 c6] 62)):=Qg hb6 I;have a3:w5.heap.size<=(w6.alloc (.cells #[.bool nb,.slice o6 L6 c6] 62)).heap.size:=O.size;have a1:w0.heap.size<=w5.heap.size:=hwk.1.size;have U:=h.keep a3 fun q _ hq=>O.block q hq
 have K:(lv,cs,cur)∈rs++[(lv,cs,cur)]:=by simp
 have a0:∀q,lv.ownBlock=some q->w0.heap.size<=q/\q<w5.heap.size:=fun q hq=>(h.row _ K).1.lt q hq
 have E:rv.ownBlock=some gr:=by rw[hrv];rfl
 have a7:=h.own.lt gr E
 have hl:(rs++[(lv,cs,cur)]).length=rs.length+1:=by simp
 have a4:NFr w0.heap.size (w6.alloc (.cells #[.bool nb,.slice o6 L6 c6] 62)) (.slice o6 L6 c6) k:=by
  refine(hf.mono a1).blk (Nat.le_refl _) I.size fun q hq=>I.block q (hf.2.1 q hq).2
 have H:=World.ownsRow.kept U.own hg (.inr fun e=>by
  rw[E]at e
  exact h.apR _ K gr e.symm E)
 rw[hl,hrv]at H;have T:=H.stored rs.length (.slice (some ⟨gg,0,none⟩) (cs.length+1) cap7)
 have Z:((rs++[(lv,cs,cur)]).map Prod.fst).set rs.length (.slice (some ⟨gg,0,none⟩) (cs.length+1) cap7)=rs.map Prod.fst++[.slice (some ⟨gg,0,none⟩) (cs.length+1) cap7]:=by
  rw[List.map_append,List.set_append_right _ _ (by simp)];simp
 rw[Z]at T;refine⟨U.push a4 (fun q hq=> ?_) hown hg (fun q hq=> ?_) E rfl (by rw[hrv];exact T.1),?_⟩
 ·have a9:=(hf.2.1 q hq).1
  refine⟨fun e=> ?_,fun r hr e=> ?_⟩
  ·have:=(h.own.lt q e).2
   omega
  ·have:=((h.row r hr).1.lt q e).2
   omega
 ·have a2:gg=q:=Option.some.inj hq
  rcases hat with h1|h1
  ·left;rw[h1,a2]
  ·right
   simp;omega
 ·have a5:=((hwk.below hb6).below I).grown hR hg (fun q hq=>(a0 q hq).1)
  exact a5.grown hR T.2 (fun q hq=>by
   have:gr=q:=Option.some.inj hq
   omega)
theorem Mt.more {w5 w8:World}{B:Nat}{rv:Value}{rs:List Rw26}(h:Mt w5 B rv rs)(hB:B<=w5.heap.size){gg cap:Nat}
  (hown:w8.ownsRow B 45 1 (.slice (some ⟨gg,0,none⟩) (rs.length+1) cap) (rs.length+1) (rs.map Prod.fst++[.slice (some ⟨w5.heap.size,0,none⟩) 0 0]))
  (hg:((w5.alloc (.cells #[] 62)).alloc (.cells #[.slice (some ⟨w5.heap.size,0,none⟩) 0 0] 45)).grownBy w8 rv.ownBlock) (hat:rv.ownBlock=some gg\/gg=w5.heap.size+2):
  Mt w8 B (.slice (some ⟨gg,0,none⟩) (rs.length+1) cap) (rs++[(.slice (some ⟨w5.heap.size,0,none⟩) 0 0,[],[])]):=by
 refine h.new hB rfl ((World.grownBy_alloc _ _ _).trans hg) hown fun q hq=> ?_;have H:gg=q:=Option.some.inj hq;rcases hat with E|E
 ·left;rw[E,H]
 ·right
  simp;omega
theorem WkAt.more {w0 w5 w8:World}{R J:Nat}{tv nv vv sv rv:Value}{x:RfP.RW}{rs:List Rw26}(h:Mt w5 w0.heap.size rv rs)(hwk:WkAt w0 R tv nv vv sv x J w5)(hR:R<w0.heap.size){o1 o2:Obj}
  (hg:((w5.alloc o1).alloc o2).grownBy w8 rv.ownBlock):WkAt w0 R tv nv vv sv x J w8:=
 ((hwk.below (Qq w5 o1)).below (Qq _ o2)).grown hR hg fun q hq=>(h.own.lt q hq).1
theorem Mt.at {w:World}{B gr m rcap:Nat}{rv:Value}{rs:List Rw26}(h:Mt w B rv rs)(hrv:rv=.slice (some ⟨gr,0,none⟩) m rcap){j:Nat}{r:Rw26}(hj:rs[j]?=some r)(hn:r.2.2≠[]):
  ∃g lcap,w.cell? ⟨gr,j,none⟩=some (.slice (some ⟨g,0,none⟩) r.2.2.length lcap)/\g<w.heap.size/\gr<w.heap.size/\r.2.1.length=r.2.2.length/\
   (∀i u,(Xq r.2.1)[i]?=some u->w.cell? ⟨g,i,none⟩=some u)/\ ∀u∈Xq r.2.1,u.oneCell'=true:=by
 have a5:=(List.getElem?_eq_some_iff.1 hj).1;have ho:=h.own;obtain⟨ao,a6,H,a1,a2,a3⟩:=Qj ho;obtain⟨gr',rfl,b1,b2,b3⟩:=a3 (by omega);rw[hrv]at H;simp only[Value.slice.injEq,Option.some.injEq,Addr.mk.injEq,and_true]at H;obtain⟨rfl,-,rfl⟩:=H;obtain⟨r1,r2⟩:=h.row r (List.mem_of_getElem? hj);obtain⟨lo,lcap,T,c1,c2,c3⟩:=Qj r1;have E:=r2.1
 have O:0<r.2.1.length:=by
  rw[E]
  cases hr:r.2.2 with
  |nil=>exact absurd hr hn
  |cons a l=>simp
 obtain⟨g,rfl,d1,d2,d3⟩:=c3 O;refine⟨g,lcap,?_,d2,b2,E,fun i u K=> ?_,fun u J=> ?_⟩
 ·rw[b3 j (by omega),List.getElem?_map,hj,<-E]
  simp[T]
 ·have I:=(List.getElem?_eq_some_iff.1 K).1
  rw[Kt]at I;rw[d3 i (by omega)];exact K
 ·unfold Xq at J
  obtain⟨c,hc,J⟩:=List.mem_flatMap.1 J;simp only[List.mem_cons,List.not_mem_nil,or_false]at J;rcases J with rfl|rfl
  ·rfl
  ·obtain⟨i,K⟩:=List.getElem?_of_mem hc
   have I:=(List.getElem?_eq_some_iff.1 K).1;obtain⟨p,Z⟩:∃p,r.2.2[i]?=some p:=⟨_,List.getElem?_eq_getElem (by rw[<-E];exact I)⟩;obtain⟨-,U⟩:=r2.2 i c p K Z;obtain⟨o,l,cp,e,-⟩:=U.val;rw[e];rfl
theorem Fj {w:World}{B:Nat}:∀(rs:List Rw26),(∀r∈rs,Yc B w r.2.1 r.2.2)->Yc B w (rs.flatMap fun r=>r.2.1) (rs.flatMap fun r=>r.2.2)
 | [],_=>Yc.nil B w
 |r::rs,h=>by
  rw[List.flatMap_cons,List.flatMap_cons];exact Yc.app (h r (by simp)) (Fj rs fun r' hr'=>h r' (by simp[hr']))
theorem Fy (rs:List Rw26){j:Nat}{r:Rw26}(hj:rs[j]?=some r):(rs.take (j+1)).flatMap (fun r=>r.2.1)=(rs.take j).flatMap (fun r=>r.2.1)++r.2.1:=by
 rw[List.take_add_one,hj,List.flatMap_append];simp
def AtL (w2:World)(rs:List Rw26)(c0:Nat)(av:Value)(jv:Value)(wr:World):Prop:=
 ∃j:Nat,jv=.int .i64 (j:Nat)/\j<=rs.length/\Below w2.heap.size w2 wr/\wr.ownsRow w2.heap.size 62 2 av ((rs.take j).flatMap fun r=>r.2.1).length (Xq ((rs.take j).flatMap fun r=>r.2.1))/\ ∀r∈rs.take j,r.2.2.length=c0
theorem Ba:∀(rs:List Rw26) (c0:Nat),(∀r∈rs,r.2.2.length=c0)->(rs.flatMap fun r=>r.2.2).length=rs.length*c0
 | [],c0,_=>by simp
 |r::rs,c0,h=>by
  rw[List.flatMap_cons,List.length_append,Ba rs c0 fun r' hr'=>h r' (by simp[hr']),h r (by simp),List.length_cons,Nat.succ_mul];omega
theorem Bf (rs:List Rw26)(hp:∀r∈rs,r.2.1.length=r.2.2.length)(j:Nat):((rs.take j).flatMap fun r=>r.2.1).length<=(rs.map fun r=>r.2.2).flatten.length:=by
 have e:∀l:List Rw26,(∀r∈l,r.2.1.length=r.2.2.length)->(l.flatMap fun r=>r.2.1).length=(l.map fun r=>r.2.2).flatten.length:=by
  intro l
  induction l with
  |nil=>intro _;rfl
  |cons a l ih=>
   intro h;rw[List.flatMap_cons,List.map_cons,List.flatten_cons,List.length_append,List.length_append,ih fun r hr=>h r (by simp[hr]),h a (by simp)]
 rw[e _ fun r hr=>hp r (List.mem_of_mem_take hr)]
 conv=>rhs;rw[<-List.take_append_drop j rs,List.map_append,List.flatten_append,List.length_append]
 omega
theorem Qw6 {col:Nat}{x:RfP.RW}{rs:List Rw26}{c0 d:Nat}{ts:List Tok}(h0:∃r0 rs',rs=r0::rs'/\r0.2.2.length=c0){r:Rw26}(hr:r∈rs)(hne:r.2.2.length≠c0):
  matO col x (.ok (((rs.map fun r=>r.2.2).flatten,(rs.map fun r=>r.2.2).map List.length),⟨ts,d⟩))=.error (col,2):=by
 obtain⟨r0,rs',rfl,h0⟩:=h0;unfold matO;simp only;rw[if_pos];rw[List.any_eq_true];refine⟨r.2.2.length,?_,?_⟩
 ·rw[List.map_map]
  exact List.mem_map.2 ⟨r,hr,rfl⟩
 ·simp only[List.map_cons,List.headD_cons,h0]
  simpa using hne
theorem Qk2 {col:Nat}{x:RfP.RW}{rs:List Rw26}{c0 d:Nat}{ts:List Tok}(h0:∃r0 rs',rs=r0::rs'/\r0.2.2.length=c0)(hall:∀r∈rs,r.2.2.length=c0)(hb:64<rs.length\/64<c0):
  matO col x (.ok (((rs.map fun r=>r.2.2).flatten,(rs.map fun r=>r.2.2).map List.length),⟨ts,d⟩))=.error (col,5):=by
 obtain⟨r0,rs',rfl,h0⟩:=h0;unfold matO;simp only
 have E:(((r0::rs').map fun r=>r.2.2).map List.length).headD 0=c0:=by simp[h0]
 rw[if_neg,if_pos]
 ·rw[E,List.length_map,List.length_map]
  simpa using hb
 ·rw[E,List.map_map,List.any_map,List.any_eq_true]
  rintro ⟨r,H,h⟩;have:=hall r H;simp[this]at h
theorem Qgz {col:Nat}{x:RfP.RW}{rs:List Rw26}{c0 d:Nat}{ts:List Tok}(h0:∃r0 rs',rs=r0::rs'/\r0.2.2.length=c0)(hall:∀r∈rs,r.2.2.length=c0)(hb:rs.length<=64)(hc:c0<=64):
  matO col x (.ok (((rs.map fun r=>r.2.2).flatten,(rs.map fun r=>r.2.2).map List.length),⟨ts,d⟩))=RfP.has x (.mat ⟨rs.length,c0,rs.flatMap fun r=>r.2.2⟩) ts:=by
 obtain⟨r0,rs',rfl,h0⟩:=h0;unfold matO;simp only
 have E:(((r0::rs').map fun r=>r.2.2).map List.length).headD 0=c0:=by simp[h0]
 rw[if_neg,if_neg,E,List.length_map,List.length_map,List.flatMap_def]
 ·rw[E,List.length_map,List.length_map]
  simp only[Bool.or_eq_true,decide_eq_true_eq];omega
 ·rw[E,List.map_map,List.any_map,List.any_eq_true]
  rintro ⟨r,H,h⟩;have:=hall r H;simp[this]at h
end Go.Proofs.YtgfmiladfeoldaaGreatDoor
