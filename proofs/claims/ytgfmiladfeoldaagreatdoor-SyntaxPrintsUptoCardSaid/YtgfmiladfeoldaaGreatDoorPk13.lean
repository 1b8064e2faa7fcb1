import Derived.Test.YtgfmiladfeoldaaGreatDoorPk12
import Derived.Deep.Slices
set_option linter.unusedSimpArgs false
set_option linter.unusedVariables false
set_option maxRecDepth 100000
set_option maxHeartbeats 16000000
namespace Go.Proofs.YtgfmiladfeoldaaGreatDoor
open Go.RowKit ai ag
def KA (w:World)(v:Value)(ks:List Int):Prop:=∃ao cap,v=.slice ao ks.length cap/\ks.length<=cap/\cap<=maxLen/\∀j k,ks[j]?=some k-> ∃g o,ao=some ⟨g,o,none⟩/\g<w.heap.size/\w.cell? ⟨g,o+j,none⟩=some (.int .i64 k)
def wF (w:World)(v:Value)(l:List ae.NI):Prop:=∃ao cap,v=.slice ao l.length cap/\l.length<=cap/\cap<=maxLen/\∀j x,l[j]?=some x-> ∃g o,ao=some ⟨g,o,none⟩/\g<w.heap.size/\w.cell? ⟨g,o+j*3,none⟩=some (.int .i64 x.op)/\w.cell? ⟨g,o+j*3+1,none⟩=some (.string ⟨x.text.toArray⟩)/\ ∃kv,w.cell? ⟨g,o+j*3+2,none⟩=some kv/\KA w kv x.kids
theorem KA.below {w w':World}{v:Value}{ks:List Int}(h:KA w v ks)(hb:Below w.heap.size w w'):KA w' v ks:=by obtain⟨ao,E,rfl,I,J,K⟩:=h;refine⟨ao,E,rfl,I,J,fun j x hj=> ?_⟩;obtain⟨g,o,rfl,H,O⟩:=K j x hj;exact⟨g,o,rfl,aaj H hb.size,(hb.cell (p:=⟨g,o+j,none⟩) H).trans O⟩
theorem wF.below {w w':World}{v:Value}{l:List ae.NI}(h:wF w v l)(hb:Below w.heap.size w w'):wF w' v l:=by obtain⟨ao,H,rfl,I,J,K⟩:=h;refine⟨ao,H,rfl,I,J,fun j x hj=> ?_⟩;obtain⟨g,o,rfl,E,a,b,kv,c,d⟩:=K j x hj;exact⟨g,o,rfl,aaj E hb.size,(hb.cell (p:=⟨g,o+j*3,none⟩) E).trans a,(hb.cell (p:=⟨g,o+j*3+1,none⟩) E).trans b,kv,(hb.cell (p:=⟨g,o+j*3+2,none⟩) E).trans c,d.below hb⟩
theorem wF.nil (w:World):wF w (.slice none 0 0) []:=⟨none,0,rfl,aaa _,aao _,fun j x h=>by cases h⟩
def uI (l:List ae.NI)(w:World)(iv:Value)(wr:World):Prop:=
 ∃(i:Nat) (cur:Array Value),i<=l.length/\iv=.int .i64 (i:Nat)/\wr.heap[w.heap.size]?=some (.cells cur 43 (0,0))/\cur.size=l.length*3/\(∀j x,j<i->l[j]?=some x->cur[j*3]?=some (.int .i64 x.op)/\cur[j*3+1]?=some (.string ⟨x.text.toArray⟩)/\ ∃kv,cur[j*3+2]?=some kv/\wr.ownsRow (w.heap.size+1) 3 1 kv x.kids.length (x.kids.map fun k=>Value.int .i64 k))/\Below w.heap.size w wr
theorem KL.eV {w:World}{b:Nat}{v:Value}{ks:List Int}(h:w.ownsRow b 3 1 v ks.length (ks.map fun k=>Value.int .i64 k)):KL w w.heap.size v ks:=by obtain⟨ao,E,rfl,H,I,J⟩:=Qj h;refine⟨ao,E,rfl,H,I,fun h0=> ?_⟩;obtain⟨g,rfl,-,K,O⟩:=J h0;refine⟨g,rfl,K,fun j k hj=> ?_⟩;rw[O j (by have:=(aae.1 hj).1;omega),ads,hj];rfl
theorem uI.done {l:List ae.NI}{w wr:World}(h:uI l w (.int .i64 (l.length:Nat)) wr)(hm:l.length<=maxLen):eB wr wr.heap.size (.slice (some ⟨w.heap.size,0,none⟩) l.length l.length) l:=by obtain⟨i,J,K,H,E,O,I,T⟩:=h;simp only[Value.int.injEq,true_and,Int.ofNat_inj]at H;subst H;refine⟨_,_,rfl,aaa _,hm,fun h0=>⟨_,rfl,(aal.1 E).1,fun j x hj=> ?_⟩⟩;obtain⟨a,b,kv,c,d⟩:=I j x (aae.1 hj).1 hj;refine⟨by rw[aam _ _ _ _ _ _ E];exact a,by rw[aam _ _ _ _ _ _ E];exact b,kv,by rw[aam _ _ _ _ _ _ E];exact c,KL.eV d⟩
theorem Qp5 (w:World)(ty:TypeId)(H:Nat)(ko:Option Addr)(aj:Nat):(Builtin.append_ #[41,41] ty #[.slice (some ⟨H,0,none⟩) 0 0,.slice ko 0 aj]).run Tryz.prog w=.ok (.slice (some ⟨H,0,none⟩) 0 0) w:=by
 obtain⟨i0,h,E,I,J⟩:=abO Tryz.cC
 cases ko<;>simp[Builtin.append_,run_underlying Tryz.underlying41,sizeOf,typeInfo,h,Builtin.lenOf,Builtin.firstCells,storeCells,loadCells,loadCellsFrom]
theorem Vh {w:World}{ops:Array Oper}{o:Oper}{a:Act}{K:Act->World->Prop}{Q:Exit->Act->World->Prop}{E:Prop}(hgd:o.guard=none)(s x:Operand)
  (ho:o.op=.call {callee:=.builtin .append,args:= #[s,x],argTypes:= #[41,41]}) (H:Nat) (ko:Option Addr) (aj:Nat) (hs:a.eval s=.slice (some ⟨H,0,none⟩) 0 0) (hx:a.eval x=.slice ko 0 aj)
  (h:∀w',Hid (w'=w)->K (a.put o.dst (.slice (some ⟨H,0,none⟩) 0 0)) w'):if Region.wanted o (yielded ops a.tmps)=true then Oper.wp Tryz.prog o a w K Q else E:=by
 have I:Region.wanted o (yielded ops a.tmps)=true:=by simp[Region.wanted,hgd]
 rw[if_pos I];unfold Oper.wp execOp;simp only[ho,resolve,invoke,builtin,Sem.run_bind,Sem.run_pure,Result.andThen_ok,List.map_toArray,abK,aex,hs,hx,Qp5];exact h _ rfl
theorem Xm {w:World}{p q:Addr}{x:Value}(h:(w.cell? q).isSome=true):((w.setCell p x).cell? q).isSome=true:=by obtain⟨v,H⟩:=Option.isSome_iff_exists.1 h;obtain⟨v',E⟩:=cell?_setCell_some (p:=p) (x:=x) H;rw[E];rfl
theorem Hn (g o k:Nat):(⟨g,o,none⟩:Addr).add k=⟨g,o+k,none⟩:=by simp[Addr.add]
theorem Xf {w w':World}{b:Nat}{e:TypeId}{z:Nat}{v:Value}{n:Nat}{xs:List Value}(h:w.ownsRow b e z v n xs)(hk:∀g,v.ownBlock=some g->b<=g->g<w.heap.size->w'.heap[g]?=w.heap[g]?):w'.ownsRow b e z v n xs:=by
 refine⟨h.1,?_⟩;rcases h.2 with O|⟨g,I,J,rfl,K,E,H⟩
 ·exact .inl O
 exact .inr ⟨g,I,J,rfl,K,(hk g rfl K (aal.1 E).1).trans E,H⟩
theorem uI.step {l:List ae.NI}{w wr w2:World}{i:Nat}{cur:Array Value}{op:Int}{text:Bytes}{kids:List Int}{T:ByteArray}{kv:Value}(hi:i<l.length)(hx:l[i]?=some ⟨op,text,kids⟩)(hT:T=⟨text.toArray⟩)
  (hG:wr.heap[w.heap.size]?=some (.cells cur 43 (0,0))) (hcs:cur.size=l.length*3)
  (aZ:∀j x,j<i->l[j]?=some x->cur[j*3]?=some (.int .i64 x.op)/\cur[j*3+1]?=some (.string ⟨x.text.toArray⟩)/\ ∃kv,cur[j*3+2]?=some kv/\wr.ownsRow (w.heap.size+1) 3 1 kv x.kids.length (x.kids.map fun k=>Value.int .i64 k))
  (hb:Below w.heap.size w wr) (hg:Below wr.heap.size wr w2) (hown:w2.ownsRow (w.heap.size+1) 3 1 kv kids.length (kids.map fun k=>Value.int .i64 k)):
  uI l w (.int .i64 ((i+1:Nat):Int)) (((w2.setCell ⟨w.heap.size,i*3,none⟩ (.int .i64 op)).setCell ⟨w.heap.size,i*3+1,none⟩ (.string T)).setCell ⟨w.heap.size,i*3+2,none⟩ kv):=by
 have H:=(aal.1 hG).1;have E:w2.heap[w.heap.size]?=some (.cells cur 43 (0,0)):=(hg.block _ H).trans hG;have s0:=aas w2 w.heap.size (i*3) _ 43 (.int .i64 op) E;have s1:=aas _ w.heap.size (i*3+1) _ 43 (.string T) s0;have s2:=aas _ w.heap.size (i*3+2) _ 43 kv s1
 have h:∀g,g≠w.heap.size->(((w2.setCell ⟨w.heap.size,i*3,none⟩ (.int .i64 op)).setCell ⟨w.heap.size,i*3+1,none⟩ (.string T)).setCell ⟨w.heap.size,i*3+2,none⟩ kv).heap[g]?=w2.heap[g]? :=fun g hne=>(aaX _ ⟨w.heap.size,i*3+2,none⟩ g _ hne).trans ((aaX _ ⟨w.heap.size,i*3+1,none⟩ g _ hne).trans (aaX _ ⟨w.heap.size,i*3,none⟩ g _ hne))
 refine⟨i+1,_,by omega,rfl,s2,by simp[hcs],fun j x hj hjx=> ?_,?_⟩
 ·by_cases hji:j=i
  ·subst hji
   rw[hx]at hjx
   cases hjx
   refine⟨?_,?_,kv,?_,?_⟩
   ·simp[aej];omega
   ·simp[aej,hT];omega
   ·simp[aej];omega
   exact Xf hown (fun g _ h1 _=>h g (by omega))
  obtain⟨a,b,kv',c,d⟩:=aZ j x (by omega) hjx;refine⟨?_,?_,kv',?_,?_⟩
  ·rw[<-a];simp[aej];rw[if_neg (by omega),if_neg (by omega),if_neg (by omega)]
  ·rw[<-b];simp[aej];rw[if_neg (by omega),if_neg (by omega),if_neg (by omega)]
  ·rw[<-c];simp[aej];rw[if_neg (by omega),if_neg (by omega),if_neg (by omega)]
  exact Xf d (fun g _ h1 h2=>(h g (by omega)).trans (hg.block g h2))
 exact(((hb.trans (hg.mono hb.size)).setCell (p:=⟨w.heap.size,i*3,none⟩) (aaa _) _).setCell (p:=⟨w.heap.size,i*3+1,none⟩) (aaa _) _).setCell (p:=⟨w.heap.size,i*3+2,none⟩) (aaa _) _
theorem Ps (v : Value) (l : List ae.NI) (w : World) (hl : l.length ≤ 4194304) (hk : ∀ x ∈ l, x.kids.length ≤ 4194304) (hv : wF w v l) :Calls Tryz.prog 15 #[v] w fun e w' => ∃ u, e = .returned u ∧ eB w' w'.heap.size u l ∧ Below w.heap.size w w' := by
  obtain ⟨i0, hi, hz0, hz1, hz2⟩ := abO Tryz.cC
  obtain ⟨j0, hj, kB, qL, je⟩ := abO Tryz.jL
  have HV := zq hv
  have HK := zq hk
  obtain ⟨ao, cap, rfl, bq, hcm, -⟩ := hv
  have aaA : cap ≤ 9223372036854775807 := by unfold maxLen at hcm; omega
  obtain ⟨n, hn⟩ : ∃ n, n = l.length := ⟨_, rfl⟩
  rw [← hn] at hl bq ⊢
  have HN := zq hn
  clear hn hk hcm
  go_enter Tryz.func15, Tryz.ntmps15
  go_wp2_with (at_make; refine wpList_make_full _ rfl _ _ 23 rfl w.heap.size 43 j0 (.agg #[.int .i64 0, .string ⟨#[]⟩, .slice none 0 0]) 3 Tryz.underlying23 hj kB qL _ _ _ _ n rfl rfl rfl rfl (by rw [je]; omega) (by unfold maxLen; omega) (aaa _) ?_)
  intro w1 hown1 hgrow1
  have aC : Hid (Below w.heap.size w w1) := ⟨hgrow1.os, hgrow1.tape, hgrow1.output, hgrow1.size, fun k hk => hgrow1.block k hk (by simp)⟩
  have HST : Hid (uI l w (.int .i64 0) w1) := by
    obtain ⟨o1, o2⟩ := hown1
    rcases o2 with ⟨h, -⟩ | ⟨g, cp, cur, h, -, h2, -, -, h3, -⟩
    · cases h
    cases h
    exact ⟨0, cur, aao _, rfl, h2, by rw [← HN.o]; exact h3, fun j x hj _ => absurd hj (aeP _), aC.o⟩
  clear hown1 hgrow1 aC
  go_wp2_with fail
  go_loopw [4] (fun iv wr => uI l w iv wr) (fun iv _ => n - (intOf iv).toNat)
  case atStart => exact HST.o
  clear HST
  case round =>
    have y9 := hrel
    obtain ⟨i, cur, hi', rfl, hG, hcs, aZ, hb⟩ := hrel
    rw [← HN.o] at hi' hcs
    have HG := zq hG
    have dt := zq aZ
    have HB := zq hb
    have WQ := zq y9
    have hzb := hb.size
    have fe := (aal.1 hG).1
    clear aZ y9
    by_cases hlt : i < n
    · obtain ⟨x, hx⟩ : ∃ x, l[i]? = some x := ⟨_, aad (by rw [← HN.o]; exact hlt)⟩
      have QW := zq hx
      have hkx : x.kids.length ≤ 4194304 := HK.o x (aah hx)
      obtain ⟨wI, fz, he, -, -, hc⟩ := HV.o.below hb
      cases he
      obtain ⟨gt, ot, rfl, gN, e0, e1, kv, e2, hka⟩ := hc i x hx
      obtain ⟨a2, c2, he, -, -, hc2⟩ := HV.o
      cases he
      obtain ⟨gt', ot', q, aaP, -⟩ := hc2 i x hx
      cases q
      have HKA := zq hka
      obtain ⟨ko, aj, rfl, k1, k2, k3⟩ := hka
      have acK : aj ≤ 9223372036854775807 := by unfold maxLen at k2; omega
      obtain ⟨op, text, kids⟩ := x
      simp only at e0 e1 e2 hkx k1 k3 HKA
      obtain ⟨k, fC⟩ : ∃ k, k = kids.length := ⟨_, rfl⟩
      rw [← fC] at e2 k1 hkx
      obtain ⟨T, hT⟩ : ∃ T : ByteArray, T = ⟨text.toArray⟩ := ⟨_, rfl⟩
      rw [← hT] at e1
      have qb := zq hT
      have fU := zq fC
      clear hc hc2 hx hT
      obtain ⟨g0, hg0⟩ : ∃ g0, g0 = w.heap.size := ⟨_, rfl⟩
      have VA := zq hg0
      rw [← hg0] at hG fe HG hzb aaP ⊢
      have z0 : wr.frozen? ⟨g0, i * 3, none⟩ = false := aaH _ _ _ _ _ hG
      have z1 : wr.frozen? ⟨g0, i * 3 + 1, none⟩ = false := aaH _ _ _ _ _ hG
      have z2 : wr.frozen? ⟨g0, i * 3 + 2, none⟩ = false := aaH _ _ _ _ _ hG
      have LF : (wr.alloc (.cells #[] 3)).heap[g0]? = some (.cells cur 43 (0, 0)) := ((Qq wr (.cells #[] 3)).block g0 fe).trans hG
      have za0 : (wr.alloc (.cells #[] 3)).frozen? ⟨g0, i * 3, none⟩ = false := aaH _ _ _ _ _ LF
      have za1 : (wr.alloc (.cells #[] 3)).frozen? ⟨g0, i * 3 + 1, none⟩ = false := aaH _ _ _ _ _ LF
      have za2 : (wr.alloc (.cells #[] 3)).frozen? ⟨g0, i * 3 + 2, none⟩ = false := aaH _ _ _ _ _ LF
      have HGA := zq LF
      clear LF
      have y0 : (wr.cell? ⟨g0, i * 3, none⟩).isSome = true := by rw [aam _ _ _ _ _ _ hG, Array.getElem?_eq_getElem (by omega)]; rfl
      have y1 : (wr.cell? ⟨g0, i * 3 + 1, none⟩).isSome = true := by rw [aam _ _ _ _ _ _ hG, Array.getElem?_eq_getElem (by omega)]; rfl
      have y2 : (wr.cell? ⟨g0, i * 3 + 2, none⟩).isSome = true := by rw [aam _ _ _ _ _ _ hG, Array.getElem?_eq_getElem (by omega)]; rfl
      have ya0 : ((wr.alloc (.cells #[] 3)).cell? ⟨g0, i * 3, none⟩).isSome = true := by rw [(Qq wr (.cells #[] 3)).cell (p := ⟨g0, i * 3, none⟩) fe]; exact y0
      have ya1 : ((wr.alloc (.cells #[] 3)).cell? ⟨g0, i * 3 + 1, none⟩).isSome = true := by rw [(Qq wr (.cells #[] 3)).cell (p := ⟨g0, i * 3 + 1, none⟩) fe]; exact y1
      have ya2 : ((wr.alloc (.cells #[] 3)).cell? ⟨g0, i * 3 + 2, none⟩).isSome = true := by rw [(Qq wr (.cells #[] 3)).cell (p := ⟨g0, i * 3 + 2, none⟩) fe]; exact y2
      have hne : g0 ≠ gt := by omega
      obtain ⟨U, hU⟩ : ∃ U : Nat → World → Value, ∀ j w', (w'.cell? ⟨g0, j, none⟩).isSome = true → w'.cell? ⟨g0, j, none⟩ = some (U j w') :=
        ⟨fun j w' => (w'.cell? ⟨g0, j, none⟩).getD undef, fun j w' h => by obtain ⟨v, hv⟩ := Option.isSome_iff_exists.1 h; simp [hv]⟩
      have HU := zq hU
      clear hU
      have Y0 := zq y0
      have Y1 := zq y1
      have Y2 := zq y2
      have RU := zq ya0
      have RV := zq ya1
      have RX := zq ya2
      clear y0 y1 y2 ya0 ya1 ya2
      have adj : gt < wr.heap.size := gN
      have hstep : ∀ (w2 : World) (kv : Value), Below wr.heap.size wr w2 → w2.ownsRow (g0 + 1) 3 1 kv kids.length (kids.map fun k => Value.int .i64 k) →
          uI l w (.int .i64 ((i : Int) + 1)) (((w2.setCell ⟨g0, i * 3, none⟩ (.int .i64 op)).setCell ⟨g0, i * 3 + 1, none⟩ (.string T)).setCell ⟨g0, i * 3 + 2, none⟩ kv) := by
        intro w2 kv hgb hown
        have e := uI.step (l := l) (w := w) (i := i) (text := text) (T := T) (by rw [← HN.o]; exact hlt) QW.o qb.o (by rw [← VA.o]; exact hG) (by rw [← HN.o]; exact hcs) dt.o HB.o hgb (by rw [← VA.o]; exact hown) (op := op) (kv := kv)
        rw [← VA.o, show (((i + 1 : Nat)) : Int) = (i : Int) + 1 by omega] at e
        exact e
      have cf := zq hstep
      clear hstep
      have ade : IntKind.i64.wrap ((i : Int) + 1) = (i : Int) + 1 := abL _ (by omega)
      by_cases bF : k = 0
      · subst bF
        have bh : kids = [] := aaq fU.o.symm
        have EP : Hid (∀ w2, w2 = (wr.alloc (.cells #[] 3)).drew → Hid (uI l w (.int .i64 ((i : Int) + 1)) (((w2.setCell ⟨g0, i * 3, none⟩ (.int .i64 op)).setCell ⟨g0, i * 3 + 1, none⟩ (.string T)).setCell ⟨g0, i * 3 + 2, none⟩ (.slice (some ⟨wr.heap.size, 0, none⟩) 0 0)))) := by
          intro w2 e
          subst e
          refine cf.o _ _ ((Qq wr (.cells #[] 3)).drew) ?_
          subst bh
          exact (ad2 wr #[] 0 (by omega) (by unfold maxLen; omega) rfl).drew
        clear k3 fC hg0 bh
        go_wp2_with fail
        go_region_held3 (fun w' => w'.cell? ⟨gt, ot + i * 3, none⟩ = some (.int .i64 op) ∧ w'.cell? ⟨gt, ot + i * 3 + 1, none⟩ = some (.string T) ∧ w'.cell? ⟨gt, ot + i * 3 + 2, none⟩ = some (.slice ko 0 aj) ∧ w'.frozen? ⟨g0, i * 3, none⟩ = false ∧ w'.frozen? ⟨g0, i * 3 + 1, none⟩ = false ∧ w'.frozen? ⟨g0, i * 3 + 2, none⟩ = false ∧ w'.cell? ⟨g0, i * 3, none⟩ = some (U (i * 3) w') ∧ w'.cell? ⟨g0, i * 3 + 1, none⟩ = some (U (i * 3 + 1) w') ∧ w'.cell? ⟨g0, i * 3 + 2, none⟩ = some (U (i * 3 + 2) w'))
          (first
            | (refine ⟨?_, ?_, ?_, ?_, ?_, ?_, HU.o _ _ (by exact Y0.o), HU.o _ _ (by exact Y1.o), HU.o _ _ (by exact Y2.o)⟩ <;> go_keep)
            | (refine ⟨?_, ?_, ?_, by exact za0, by exact za1, by exact za2, HU.o _ _ (by exact RU.o), HU.o _ _ (by exact RV.o), HU.o _ _ (by exact RX.o)⟩ <;> go_keep)
            | (rw [hw2.o]; refine ⟨?_, ?_, ?_, by exact za0, by exact za1, by exact za2, HU.o _ _ (by exact RU.o), HU.o _ _ (by exact RV.o), HU.o _ _ (by exact RX.o)⟩ <;> go_keep)
            | (go_split_ands
               refine ⟨?_, ?_, ?_, ?_, ?_, ?_, HU.o _ _ (Xm (Xm (Xm ?_))), HU.o _ _ (Xm (Xm (Xm ?_))), HU.o _ _ (Xm (Xm (Xm ?_)))⟩ <;> go_keep))
          ((refine Vh (by rfl) _ _ (by rfl) wr.heap.size ko aj (by rfl) (by rfl) ?_; intro w2 hw2))
        have HF := EP.o w2 hw2.o
        clear EP hw2
        go_wp2_with fail
        first | exact ⟨HF.o, by simp [intOf]; omega⟩ | exact ⟨by (repeat apply Exists.intro); exact ⟨HF.o, rfl⟩, by simp [intOf]; omega⟩
      obtain ⟨gk, ok, hko, CJ, -⟩ := k3 0 kids[0] (by rw [aad (by omega)])
      subst hko
      have hnews : ∀ j u, (kids.map fun k => Value.int .i64 k)[j]? = some u → wr.cell? ⟨gk, ok + j, none⟩ = some u := by
        intro j u hj
        rw [ads] at hj
        cases hp : kids[j]? with
        | none => rw [hp] at hj; cases hj
        | some y =>
          rw [hp] at hj
          cases hj
          obtain ⟨g2, o2, q, -, h3⟩ := k3 j y hp
          cases q
          exact h3
      have WC := zq hnews
      have eK : (kids.map fun k => Value.int .i64 k).length = k * 1 := by rw [aay, ← fU.o]; omega
      have dH := zq eK
      have y6 : ∀ u ∈ kids.map fun k => Value.int .i64 k, u.oneCell' = true := fun u hu => by obtain ⟨z, -, rfl⟩ := adR.1 hu; rfl
      have mm := zq y6
      have HOW : Hid ((wr.alloc (.cells #[] 3)).drew.ownsRow (g0 + 1) 3 1 (.slice (some ⟨wr.heap.size, 0, none⟩) 0 0) 0 []) := (ad2 wr #[] 0 (by omega) (by unfold maxLen; omega) rfl).drew
      have bt : Below wr.heap.size wr (wr.alloc (.cells #[] 3)) := Qq _ _
      have bS := zq bt
      clear k3 hnews fC eK y6 bt hg0
      go_wp2_with fail
      go_region_held3 (fun w' => w'.cell? ⟨gt, ot + i * 3, none⟩ = some (.int .i64 op) ∧ w'.cell? ⟨gt, ot + i * 3 + 1, none⟩ = some (.string T) ∧ w'.cell? ⟨gt, ot + i * 3 + 2, none⟩ = some (.slice (some ⟨gk, ok, none⟩) k aj) ∧ w'.frozen? ⟨g0, i * 3, none⟩ = false ∧ w'.frozen? ⟨g0, i * 3 + 1, none⟩ = false ∧ w'.frozen? ⟨g0, i * 3 + 2, none⟩ = false ∧ w'.cell? ⟨g0, i * 3, none⟩ = some (U (i * 3) w') ∧ w'.cell? ⟨g0, i * 3 + 1, none⟩ = some (U (i * 3 + 1) w') ∧ w'.cell? ⟨g0, i * 3 + 2, none⟩ = some (U (i * 3 + 2) w'))
        (first
          | (refine ⟨?_, ?_, ?_, ?_, ?_, ?_, HU.o _ _ (by exact Y0.o), HU.o _ _ (by exact Y1.o), HU.o _ _ (by exact Y2.o)⟩ <;> go_keep)
          | (refine ⟨?_, ?_, ?_, by exact za0, by exact za1, by exact za2, HU.o _ _ (by exact RU.o), HU.o _ _ (by exact RV.o), HU.o _ _ (by exact RX.o)⟩ <;> go_keep)
          | (go_split_ands
             refine ⟨?_, ?_, ?_, ?_, ?_, ?_, HU.o _ _ ?_, HU.o _ _ ?_, HU.o _ _ ?_⟩
             · (rw [hgrow.cell_far _ (by simp; omega) (by simp [Value.ownBlock]; omega)]; assumption)
             · (rw [hgrow.cell_far _ (by simp; omega) (by simp [Value.ownBlock]; omega)]; assumption)
             · (rw [hgrow.cell_far _ (by simp; omega) (by simp [Value.ownBlock]; omega)]; assumption)
             · (rw [hgrow.frozen_far _ (by simp; omega) (by simp [Value.ownBlock]; omega)]; assumption)
             · (rw [hgrow.frozen_far _ (by simp; omega) (by simp [Value.ownBlock]; omega)]; assumption)
             · (rw [hgrow.frozen_far _ (by simp; omega) (by simp [Value.ownBlock]; omega)]; assumption)
             · (rw [hgrow.cell_far _ (by simp; omega) (by simp [Value.ownBlock]; omega)]; exact RU.o)
             · (rw [hgrow.cell_far _ (by simp; omega) (by simp [Value.ownBlock]; omega)]; exact RV.o)
             (rw [hgrow.cell_far _ (by simp; omega) (by simp [Value.ownBlock]; omega)]; exact RX.o))
          | (go_split_ands
             refine ⟨?_, ?_, ?_, ?_, ?_, ?_, HU.o _ _ (Xm (Xm (Xm ?_))), HU.o _ _ (Xm (Xm (Xm ?_))), HU.o _ _ (Xm (Xm (Xm ?_)))⟩ <;> go_keep))
        ((refine aeX _ (by rfl) _ _ _ (by rfl) (g0 + 1) 3 i0 _ 1 8 Tryz.underlying41 hi hz0 hz1 hz2 rfl (by omega) (.slice (some ⟨wr.heap.size, 0, none⟩) 0 0) 0 [] (by rfl) (by exact HOW.o)
            ⟨gk, ok, none⟩ k aj (kids.map fun k => Value.int .i64 k) (by rfl) dH.o (fun j u h => by rw [Hn]; exact (bS.o.drew.cell (p := ⟨gk, ok + j, none⟩) CJ).trans (WC.o j u h)) mm.o
            (by omega) (by unfold maxLen; omega) (by omega) (by simp; omega) (wr.heap.size + 1) (by simp) ?_; intro gg gj w2 hown2 hgrow hat cE))
      have hb2 : Below wr.heap.size wr w2 := bS.o.drew.grown hgrow (by simp) (fun q hq => by
        have h1 : (Value.slice (some ⟨wr.heap.size, 0, none⟩) 0 0).ownBlock = some wr.heap.size := rfl
        rw [h1] at hq; cases hq; exact aaa _)
      have hown2' : w2.ownsRow (g0 + 1) 3 1 (.slice (some ⟨gg, 0, none⟩) k gj) kids.length (kids.map fun k => Value.int .i64 k) := by
        have := hown2
        simp only [abx, adz] at this
        rw [← fU.o]; exact this
      have HF := zq (cf.o w2 (.slice (some ⟨gg, 0, none⟩) k gj) hb2 hown2')
      clear hb2 hown2' hown2 hgrow hat cE
      go_wp2_with fail
      first | exact ⟨HF.o, by simp [intOf]; omega⟩ | exact ⟨by (repeat apply Exists.intro); exact ⟨HF.o, rfl⟩, by simp [intOf]; omega⟩
    obtain rfl : i = n := by omega
    clear hlt
    go_wp2_with fail
    go_ret
    exact ⟨_, rfl, by have := uI.done (by rw [← HN.o]; exact WQ.o) (by rw [← HN.o]; unfold maxLen; omega); rw [← HN.o] at this; exact this, HB.o⟩
def KN:ByteArray:=⟨#[112,114,105,110,116,32,45,65,39,94,50]⟩
theorem Qzz {x:ae.NI}:∀{l:List ae.NI},x∈l->x.text.length<=(l.map fun x=>x.text.length).sum
 | [],h=>by cases h
 |a::l,h=>by
  simp only[abK,adY];rcases abY.1 h with rfl|h
  ·omega
  have:=Qzz h;omega
open Go.ChangeShapes Go.WideShapes Go.ChangeAt Go.Deep
theorem Ro {H:Type}{enc:TypeId×Value->H}{P:Program}{W W':World}{base:Nat}{sp:Nat->Bool}{hd:Bool}(hb:Below W.heap.size W W'):∀{ts:List TypeId} {vs:List Value} {ds:List (DataW H)} {ps:List MemPlace},DataW.TrodAll enc P W base sp hd ts vs ds ps->(∀p∈ps,p.block<W.heap.size)->DataW.TrodAll enc P W' base sp hd ts vs ds ps
 | [],[],[],_,h,_=>h
 |_::_,_::_,_::_,_,⟨p,q,⟨n,h⟩,hs,e⟩,hlt=>by
  subst e
  exact⟨p,q,⟨n,DataW.trod_carry n _ _ _ h fun x hx=>hb.same (hlt x (List.mem_append_left _ hx))⟩,Ro hb hs (fun x hx=>hlt x (List.mem_append_right _ hx)),rfl⟩
 | [],_::_,_,_,h,_=>h.elim
 | [],[],_::_,_,h,_=>h.elim
 |_::_,[],_,_,h,_=>h.elim
 |_::_,_::_,[],_,h,_=>h.elim
theorem Qp7 {w:World}{a:Addr}{v:Value}(h:w.cell? a=some v):a.block<w.heap.size:=by
 rcases Nat.lt_or_ge a.block w.heap.size with h'|h'
 ·exact h'
 simp[World.cell?,Array.getElem?_eq_none h']at h
theorem EJ:Tryz.prog.underlying 23=some (.slice 43):=by kernel_rfl
theorem Qd7:∃f0 f1 f2:Field,Tryz.prog.underlying 43=some (.struct #[f0,f1,f2])/\f0.offset=0/\f1.offset=1/\f2.offset=2/\f0.type=3/\f1.type=9/\f2.type=41:=⟨_,_,_,Tryz.underlying43,rfl,rfl,rfl,rfl,rfl,rfl⟩
theorem Qdi:Tryz.prog.cellsOf 43=3:=by kernel_rfl
theorem Li:Tryz.prog.cellsOf 3=1:=by kernel_rfl
theorem ZO:Tryz.prog.cellsOf 9=1:=by kernel_rfl
theorem Qdt:Tryz.prog.cellsOf 41=1:=by kernel_rfl
instance:Inhabited ae.NI:=⟨⟨0,[],[]⟩⟩
theorem Qwh {H:Type}(k:IntKind)(zs:List Int):Rows.uptoBulkAll (lits (H:=H) k zs)=zs.length:=by
 induction zs with
 |nil=>rfl
 |cons a l ih=>simp only[lits,abK,Rows.uptoBulkAll,Rows.uptoBulk,aaf]at ih ⊢;omega
theorem Ai {H:Type}(f:Nat->DataW H)(g:Nat->Nat):∀(l:List Nat),(∀i∈l,g i<=Rows.uptoBulk (f i))->(l.map g).sum<=Rows.uptoBulkAll (l.map f)
 | [],_=>aaa _
 |a::l,h=>by have h1:=Ai f g l (fun i hi=>h i (ad4 _ hi));have E:=h a (aek ..);simp only[abK,adY,Rows.uptoBulkAll];omega
theorem Qyc {H:Type}{enc:TypeId×Value->H}{W:World}{v:Value}{fuel:Nat}{x:DataW H×List MemPlace}(h:DataW.trod enc Tryz.prog W 0 (fun _=>true) true fuel 41 [v]=some x):∃ks:List Int,KA W v ks/\ks.length<=Rows.uptoBulk x.1:=by
 rcases open_ints (by kernel_rfl:Tryz.prog.underlying 41=some (.slice 3)) Tryz.underlying3 Li h with ⟨I,U⟩|⟨a,Z,K,zs,I,-,hl,hm,hz,U,E,-⟩
 ·cases I
  exact⟨[],⟨none,0,rfl,aaa _,aao _,fun j k h=>by cases h⟩,aao _⟩
 cases I
 simp only[if_true]at hz;refine⟨zs.take Z,⟨some a,K,by rw[aak];congr 1;omega,by rw[aak];omega,hm,fun j k hj=> ?_⟩,?_⟩
 ·have O:=(aae.1 hj).1
  rw[aak]at O;have h0:=E 0 (by omega);have J:=E j (by omega);obtain⟨g,o,sp⟩:=a
  have T:sp=none:=by simpa [Addr.add] using World.cell?_spot h0
  subst T;rw[Hn]at J;refine⟨g,o,rfl,Qp7 J,?_⟩;rw[adX]at hj;split at hj
  ·rw[J,ab3,hj];rfl
  cases hj
 rw[U];simp only[Rows.uptoBulk,Qwh,aak];omega
theorem Qyd {H:Type}{enc:TypeId×Value->H}{W:World}{a:Addr}{cs:List Value}{fuel:Nat}{x:DataW H×List MemPlace}(hc:W.cells? 0 a 3=some cs)(h:DataW.trod enc Tryz.prog W 0 (fun _=>true) true fuel 43 cs=some x):∃n:ae.NI,(W.cell? (a.add 0)=some (.int .i64 n.op)/\W.cell? (a.add 1)=some (.string ⟨n.text.toArray⟩)/\ ∃kv,W.cell? (a.add 2)=some kv/\KA W kv n.kids)/\n.text.length+n.kids.length+1<=Rows.uptoBulk x.1:=by
 obtain⟨f0,f1,f2,hu,o0,o1,o2,t0,t1,t2⟩:=Qd7;obtain⟨-,hl,hcell⟩:=World.cells?_some hc;obtain⟨xs,n,-,rfl,-,pI,hf⟩:=DataW.trod_struct hu h
 match xs,pI,cs,hl with
 | [y0,y1,y2],_,[v0,v1,v2],_=>
  have g0:=hf 0 f0 rfl;have g1:=hf 1 f1 rfl;have g2:=hf 2 f2 rfl;simp[o0,o1,o2,t0,t1,t2,Li,ZO,Qdt]at g0 g1 g2;obtain⟨z,e0,rfl,-⟩:=DataW.trod_int Tryz.underlying3 g0;obtain⟨s,e1,rfl,-⟩:=DataW.trod_string Tryz.underlying9 g1;obtain⟨ks,hka,lF⟩:=Qyc g2
  cases e0
  cases e1
  have c0:=hcell 0 (by omega);have c1:=hcell 1 (by omega);have c2:=hcell 2 (by omega);refine⟨⟨z,s.data.toList,ks⟩,⟨by simpa using c0,by simpa using c1,v2,by simpa using c2,hka⟩,?_⟩;simp only[abK,aex,Rows.uptoBulk,Rows.uptoBulkAll];omega
theorem Qyu {H:Type}{enc:TypeId×Value->H}{W:World}{v:Value}{fuel:Nat}{x:DataW H×List MemPlace}(h:DataW.trod enc Tryz.prog W 0 (fun _=>true) true fuel 23 [v]=some x):∃l:List ae.NI,wF W v l/\(l.map fun n=>n.text.length+n.kids.length+1).sum<=Rows.uptoBulk x.1:=by
 rcases open_slice EJ h with ⟨I,hx⟩|⟨a,E,U,m,n,D,Pl,I,-,hl,hm,a1,rfl,hx⟩
 ·cases I
  exact⟨[],wF.nil _,aao _⟩
 cases I
 have a8:E<=m:=by rw[a1];split<;>omega
 obtain⟨q,T⟩:=choose_lt (n:=E) (p:=fun i (n:ae.NI)=>(W.cell? ((a.add (i*3)).add 0)=some (.int .i64 n.op)/\W.cell? ((a.add (i*3)).add 1)=some (.string ⟨n.text.toArray⟩)/\ ∃kv,W.cell? ((a.add (i*3)).add 2)=some kv/\KA W kv n.kids)/\n.text.length+n.kids.length+1<=Rows.uptoBulk (D i)) (fun i J=>by
  obtain⟨cs',Z,h2⟩:=hx i (by omega);rw[Qdi]at Z
  exact Qyd Z h2)
 refine⟨(List.range E).map q,⟨some a,U,by simp,by simp;exact hl,hm,fun j x hj=> ?_⟩,?_⟩
 ·rw[ads]at hj
  obtain⟨i,J,rfl⟩:=aee.1 hj;obtain⟨K,O⟩:=aae.1 J;simp only[List.length_range]at K;simp only[List.getElem_range]at O;subst O;obtain⟨⟨c0,c1,kv,c2,a0⟩,-⟩:=T j K;have h0:=(T 0 (by omega)).1.1;obtain⟨g,o,sp⟩:=a
  have a2:sp=none:=by simpa [Addr.add] using World.cell?_spot h0
  subst a2;rw[Hn,Hn]at c0 c1 c2;exact⟨g,o,rfl,Qp7 c0,c0,c1,kv,c2,a0⟩
 rw[aeE];have:=Ai D (fun i=>(q i).text.length+(q i).kids.length+1) (List.range E) (fun i J=>(T i (List.mem_range.1 J)).2);simp only[Rows.uptoBulk];exact aan this (by omega)
theorem Qpv {l:List ae.NI}{M:Nat}(h:(l.map fun n=>n.text.length+n.kids.length+1).sum<=M):l.length<=M/\(l.map fun x=>x.text.length).sum<=M/\ ∀x∈l,x.kids.length<=M:=by
 induction l generalizing M with
 |nil=>exact⟨aao _,aao _,fun x E=>by cases E⟩
 |cons a l ih=>
  simp only[abK,adY]at h;obtain⟨I,J,H⟩:=ih (M:=(l.map fun n=>n.text.length+n.kids.length+1).sum) (aaa _);refine⟨by simp only[aaf];omega,by simp only[abK,adY];omega,fun x E=> ?_⟩;rcases abY.1 E with rfl|E
  ·omega
  have:=H x E;omega
end Go.Proofs.YtgfmiladfeoldaaGreatDoor
namespace aq
open ae ag
theorem A9 {n:Nat}(h0:0<n)(h:n<10):ai.dg n=[n]:=by rw[ai.Jc h0,show n / 10=0 by omega,ai.Zv,show n % 10=n by omega];rfl
theorem Qbp:∀n,0<n->(ai.dg n).headD 0≠0:=by
 intro n
 induction n using Nat.strongRecOn with
 |ind n ih=>
  intro h;by_cases h1:n<10
  ·rw[A9 h h1];show n≠0;omega
  rw[ai.Jc h];have E:=ih (n / 10) (by omega) (by omega)
  cases h3:ai.dg (n / 10) with
  |nil=>rw[h3]at E;simp at E
  |cons a l=>rw[h3]at E;simpa using E
theorem Qkp:∀(k:Nat) (ds:List Nat),ds.length=k->(∀x∈ds,x<10)->ds.headD 0≠0->ai.dg (ai.aN ds)=ds:=by
 intro k
 induction k with
 |zero=>
  intro ds h _ E;rw[aaq h]at E
  simp at E
 |succ k ih=>
  intro ds h J E;rcases ds.eq_nil_or_concat with rfl|⟨a,x,e⟩
  ·cases h
  rw[List.concat_eq_append]at e;subst e;have O:x<10:=J x (by simp);rw[ai.Rj]
  cases a with
  |nil=>
   rw[ai.Qgk];have T:x≠0:=E
   rw[show 0*10+x=x by omega,A9 (by omega) O];rfl
  |cons d a=>
   have I:=ih (d::a) (by simpa using h) (fun y hy=>J y (List.mem_append_left _ hy)) E
   have K:0<ai.aN (d::a):=by
    rcases aeN (ai.aN (d::a)) with H|H
    ·rw[H,ai.Zv]at I;cases I
    exact H
   rw[ai.Jc (by omega),show (ai.aN (d::a)*10+x) / 10=ai.aN (d::a) by omega,show (ai.aN (d::a)*10+x) % 10=x by omega,I]
def mC (t:Bytes):Bool:=t.all aF.Qf && (t.length==1||(decide (1<t.length) && t.headD 0 !=48))
theorem Df:∀(t:Bytes),(∀c∈t,aF.Qf c=true)->(aO t).map (fun d=>UInt8.ofNat (48+d))=t
 | [],_=>rfl
 |c::t,h=>by
  have h1:=Df t fun d hd=>h d (ad4 _ hd);have E:=h c (by simp);unfold aO at h1 ⊢;rw[abK,abK,h1];congr 1;simp only[aF.Qf,aaY,aaV]at E;obtain⟨H,I⟩:=E
  have J:48<=c.toNat:=by simpa using H
  have K:c.toNat<=57:=by simpa using I
  rw[show 48+(c.toNat-48)=c.toNat by omega];exact UInt8.ofNat_toNat
theorem Qkb {t:Bytes}(h:∀c∈t,aF.Qf c=true):∀x∈aO t,x<10:=by
 intro x H;simp only[aO,adR]at H;obtain⟨c,J,rfl⟩:=H;have E:=h c J;simp only[aF.Qf,aaY,aaV]at E;obtain⟨O,I⟩:=E
 have K:c.toNat<=57:=by simpa using I
 omega
theorem Qgg (t:Bytes):mC t=true↔ ∃n,t=ar n:=by
 unfold mC;constructor
 ·intro h
  simp only[aaY,aep,aeJ,adN,aaV,bne_iff_ne,ne_eq]at h;obtain⟨H,E⟩:=h;refine⟨ai.aN (aO t),?_⟩;have hb:=Df t H;by_cases hz:ai.aN (aO t)=0
  ·have hl:t.length=1:=by
    rcases E with E|⟨E,K⟩
    ·exact E
    exfalso
    have O:ai.dg (ai.aN (aO t))=aO t:=by
     refine Qkp _ _ rfl (Qkb H) ?_
     cases t with
     |nil=>simp at E
     |cons c t=>
      have I:=H c (by simp);simp only[aF.Qf,aaY,aaV]at I
      have U:48<=c.toNat:=by simpa using I.1
      show c.toNat-48≠0;intro J;apply K;show c=48;apply aer.1;show c.toNat=48;omega
    rw[hz,ai.Zv]at O;have J:=aa7 List.length O;simp[aO]at J;rw[<-J]at E;simp at E
   obtain⟨c,rfl⟩:∃c,t=[c]:=by
    cases t with
    |nil=>cases hl
    |cons c t=>cases t with
     |nil=>exact⟨c,rfl⟩
     |cons d t=>simp at hl
   have I:=H c (by simp);simp only[aF.Qf,aaY,aaV]at I
   have U:48<=c.toNat:=by simpa using I.1
   rw[hz]
   have Z:c.toNat-48=0:=by
    have:ai.aN (aO [c])=c.toNat-48:=by simp[aO,ai.aN]
    omega
   show [c]=[48];congr 1;apply aer.1;show c.toNat=48;omega
  have O:ai.dg (ai.aN (aO t))=aO t:=by
   refine Qkp _ _ rfl (Qkb H) ?_
   cases t with
   |nil=>exact absurd rfl hz
   |cons c t=>
    have I:=H c (by simp);simp only[aF.Qf,aaY,aaV]at I
    have U:48<=c.toNat:=by simpa using I.1
    show c.toNat-48≠0;intro J;have T:c=48:=aer.1 (by show c.toNat=48;omega);rcases E with E|⟨-,K⟩
    ·cases t with
     |nil=>
      apply hz
      rw[T];rfl
     |cons d t=>simp at E
    exact K T
  unfold ar;rw[if_neg hz,O,hb]
 rintro ⟨n,rfl⟩;have H:(ar n).all aF.Qf=true:=aeJ.2 (Zi n);rw[H,aeG];unfold ar;split
 ·rfl
 rename_i h;have E:=Qbp n (by omega);have K:=ai.RH n
 cases hd:ai.dg n with
 |nil=>rw[hd]at E;simp at E
 |cons d l=>
  rw[hd]at E K;have a3:d≠0:=E;have a4:=K d (by simp)
  cases l with
  |nil=>rfl
  |cons e l=>
   have a1:UInt8.ofNat (48+d)≠48:=by intro O;have J:=aa7 UInt8.toNat O;rw[UInt8.toNat_ofNat']at J;have Z:(48:UInt8).toNat=48:=rfl;rw[Z]at J;omega
   have e1:((d::e::l).map fun d=>UInt8.ofNat (48+d)).headD 0=UInt8.ofNat (48+d):=rfl;have e2:(UInt8.ofNat (48+d) !=48)=true:=bne_iff_ne.2 a1
   have e3:decide (1<((d::e::l).map fun d=>UInt8.ofNat (48+d)).length)=true:=by simp
   rw[e1,e2,e3,Bool.and_true,Bool.or_true]
theorem Qbm (t:Bytes):mC t=kD t:=by rw[abA,Qgg,Fq]
structure fH where
 lines:List Bytes
 d:Nat
 parts:List Bytes
def J7 (opOf:Nat->Nat)(deep:List Nat)(op:Nat):Nat->List Nat->fH->fH
 |_,[],s=>s
 |j,k::ks,s=>J7 opOf deep op (j+1) ks ⟨s.lines.set k [],max s.d (ay (op==10) (ay (Qy op j (opOf k)) (deep.getD k 0))),s.parts++[par (Qy op j (opOf k)) (s.lines.getD k [])]⟩
def X6 (x:Node)(p:List Bytes):Bytes:=
 if x.op=4 then [45]++p.getD 0 []
 else if x.op=5 then p.getD 0 []++[39]
 else if x.op=6 then p.getD 0 []++[32,43,32]++p.getD 1 []
 else if x.op=7 then p.getD 0 []++[32,45,32]++p.getD 1 []
 else if x.op=8 then p.getD 0 []++[42]++p.getD 1 []
 else if x.op=9 then p.getD 0 []++[94]++x.text
 else if x.op=10 then x.text++[40]++Qb [44,32] p++[41]
 else if x.op=11 then [108,101,116,32]++x.text++[32,61,32]++p.getD 0 []
 else if x.op=12 then (if p.length=0 then x.text else x.text++[32]++Qb [44,32] p)
 else x.text
def Zw (opOf:Nat->Nat):Nat->List Node->List Bytes->List Nat->List Bytes×List Nat
 |_,[],lines,deep=>(lines,deep)
 |i,x::l,lines,deep=>
  let s:=J7 opOf deep x.op 0 x.kids ⟨lines,0,[]⟩
  Zw opOf (i+1) l (s.lines.set i (X6 x s.parts)) (deep.set i s.d)
def fZ (o:Nat)(a b:List Bytes×List Nat):Prop:=a.1.length=b.1.length/\a.2.length=b.2.length/\ ∀j,j<o->a.1[j]?=b.1[j]? /\a.2[j]?=b.2[j]?
theorem fZ.refl (o:Nat)(a:List Bytes×List Nat):fZ o a a:=⟨rfl,rfl,fun _ _=>⟨rfl,rfl⟩⟩
theorem fZ.trans {o:Nat}{a b c:List Bytes×List Nat}(h:fZ o a b)(h':fZ o b c):fZ o a c:=
 ⟨h.1.trans h'.1,h.2.1.trans h'.2.1,fun j hj=>⟨(h.2.2 j hj).1.trans (h'.2.2 j hj).1,(h.2.2 j hj).2.trans (h'.2.2 j hj).2⟩⟩
theorem fZ.mono {o p:Nat}{a b:List Bytes×List Nat}(h:fZ p a b)(ho:o<=p):fZ o a b:=⟨h.1,h.2.1,fun j hj=>h.2.2 j (by omega)⟩
def At (opOf:Nat->Nat)(s:List Bytes×List Nat)(r:Nat)(e:Ex):Prop:=s.1[r]?=some e.pr/\s.2[r]?=some e.dp/\opOf r=e.op
def pQ (opOf:Nat->Nat)(s:List Bytes×List Nat):Nat->aV->Prop
 |_,.nil=>True
 |o,.cons a l=>At opOf s (o+a.size-1) a/\pQ opOf s (o+a.size) l
theorem At.same {opOf:Nat->Nat}{s t:List Bytes×List Nat}{r p:Nat}{e:Ex}(h:At opOf s r e)(hs:fZ p s t)(hr:r<p):At opOf t r e:=
 ⟨by rw[<-(hs.2.2 r hr).1];exact h.1,by rw[<-(hs.2.2 r hr).2];exact h.2.1,h.2.2⟩
theorem pQ.above {opOf:Nat->Nat}:∀{l:aV} {o p:Nat} {s t:List Bytes×List Nat},pQ opOf s o l->p<=o->(∀j,p<=j->s.1[j]?=t.1[j]? /\s.2[j]?=t.2[j]?)->pQ opOf t o l
 | .nil,_,_,_,_,_,_,_=>trivial
 | .cons a l,o,p,s,t,h,hp,hs=>by obtain⟨⟨h1,h2,h3⟩,h4⟩:=h;have E:=Q5 a;obtain⟨e1,e2⟩:=hs (o+a.size-1) (by omega);exact⟨⟨by rw[<-e1];exact h1,by rw[<-e2];exact h2,h3⟩,pQ.above h4 (by omega) hs⟩
def cG (op:Nat):Nat->aV->List Bytes
 |_,.nil=>[]
 |j,.cons a l=>par (Qy op j a.op) a.pr::cG op (j+1) l
def kE (op:Nat):Nat->aV->Nat
 |_,.nil=>0
 |j,.cons a l=>max (ay (op==10) (ay (Qy op j a.op) a.dp)) (kE op (j+1) l)
theorem Cj (opOf:Nat->Nat)(deep:List Nat)(op:Nat):∀(l:aV) (j o:Nat) (s:fH),pQ opOf (s.lines,deep) o l->o+l.size<=s.lines.length->∃t,J7 opOf deep op j (l.roots o) s=t/\t.d=max s.d (kE op j l)/\t.parts=s.parts++cG op j l/\t.lines.length=s.lines.length/\ ∀i,i<o->t.lines[i]?=s.lines[i]?
 | .nil,j,o,s,_,_=>⟨s,rfl,by simp[kE],by simp[cG],rfl,fun _ _=>rfl⟩
 | .cons a l,j,o,s,h,hl=>by
  obtain⟨⟨h1,h2,h3⟩,h4⟩:=h;have K:=Q5 a;have I:o+(a.size+l.size)<=s.lines.length:=hl
  have J:o+a.size-1<s.lines.length:=by omega
  have E:s.lines[o+a.size-1]?=some a.pr:=h1;have H:deep[o+a.size-1]?=some a.dp:=h2
  obtain⟨t,e1,e2,e3,e4,e5⟩:=Cj opOf deep op l (j+1) (o+a.size) ⟨s.lines.set (o+a.size-1) [],max s.d (ay (op==10) (ay (Qy op j a.op) a.dp)),s.parts++[par (Qy op j a.op) a.pr]⟩
   (pQ.above (p:=o+a.size) h4 (aaa _) fun i hi=>⟨by show s.lines[i]?=(s.lines.set _ _)[i]?;rw[adW (by omega)],rfl⟩) (by show _<=(s.lines.set _ _).length;rw[ab6];omega)
  refine⟨t,?_,?_,?_,?_,fun i hi=> ?_⟩
  ·rw[<-e1]
   show J7 opOf deep op j ((o+a.size-1)::l.roots (o+a.size)) s=_
   conv=>lhs;unfold J7
   rw[h3,ab3,ab3,E,H];rfl
  ·rw[e2]
   show max (max _ _) _=max _ (max _ _);omega
  ·rw[e3]
   show (s.parts++[_])++_=s.parts++(_::_);simp
  ·rw[e4]
   show (s.lines.set _ _).length=_;rw[ab6]
  rw[e5 i (by omega)];show (s.lines.set _ _)[i]?=_;rw[adW (by omega)]
theorem Dy {opOf:Nat->Nat}{x:Node}{l:aV}{o:Nat}{s:List Bytes×List Nat}(rest:List Node)(h:pQ opOf s o l)(h1:o+l.size<s.1.length)(h2:o+l.size<s.2.length)(hk:x.kids=l.roots o):∃t,Zw opOf (o+l.size) (x::rest) s.1 s.2=Zw opOf (o+l.size+1) rest t.1 t.2/\fZ o s t/\t.1[o+l.size]?=some (X6 x (cG x.op 0 l))/\t.2[o+l.size]?=some (kE x.op 0 l):=by
 obtain⟨t,e1,e2,e3,e4,e5⟩:=Cj opOf s.2 x.op l 0 o ⟨s.1,0,[]⟩ h (abD h1);have e4':t.lines.length=s.1.length:=e4;refine⟨(t.lines.set (o+l.size) (X6 x t.parts),s.2.set (o+l.size) t.d),?_,⟨?_,?_,fun j hj=>⟨?_,?_⟩⟩,?_,?_⟩
 ·conv=>lhs;unfold Zw
  rw[hk,e1]
 ·show s.1.length=(t.lines.set _ _).length
  rw[ab6,e4']
 ·show s.2.length=(s.2.set _ _).length
  rw[ab6]
 ·show s.1[j]?=(t.lines.set _ _)[j]?
  rw[adW (by omega),e5 j hj]
 ·show s.2[j]?=(s.2.set _ _)[j]?
  rw[adW (by omega)]
 ·show (t.lines.set _ _)[o+l.size]?=_
  rw[ad9 (by omega),e3];rfl
 show (s.2.set _ _)[o+l.size]?=_;rw[ad9 (by omega),e2];show some (max 0 _)=_;rw[Nat.zero_max]
theorem Pg {op:Nat}(h:∀j p,Qy op j p=false):∀(l:aV) (j:Nat),Qb [44,32] (cG op j l)=l.pr/\ ∀a,Qb [44,32] (a::cG op j l)=a++l.dX
 | .nil,j=>⟨rfl,fun a=>by show a=a++[];simp⟩
 | .cons b l,j=>by
  obtain⟨h1,h2⟩:=Pg h l (j+1)
  have e:cG op j (.cons b l)=b.pr::cG op (j+1) l:=by show par (Qy op j b.op) b.pr::_=_;rw[h];rfl
  rw[e];refine⟨h2 b.pr,fun a=> ?_⟩;show a++[44,32]++Qb [44,32] (b.pr::cG op (j+1) l)=a++([44,32]++b.pr++l.dX);rw[h2];simp
theorem Fy {op:Nat}(h:∀j p,Qy op j p=false)(h10:op≠10):∀(l:aV) (j:Nat),kE op j l=l.dp
 | .nil,_=>rfl
 | .cons b l,j=>by
  show max (ay (op==10) (ay (Qy op j b.op) b.dp)) (kE op (j+1) l)=max b.dp l.dp
  have e:(op==10)=false:=by simpa using h10
  rw[h,e,Fy h h10 l];rfl
theorem Cw:∀(l:aV) (j:Nat),l≠ .nil->kE 10 j l=l.dp+1
 | .nil,_,h=>absurd rfl h
 | .cons b .nil,j,_=>by
  show max (ay (10==10) (ay (Qy 10 j b.op) b.dp)) 0=max b.dp 0+1;have:Qy 10 j b.op=false:=rfl;rw[this];show max (b.dp+1) 0=max b.dp 0+1
  omega
 | .cons b (.cons c l),j,_=>by have E:=Cw (.cons c l) (j+1) (by simp);show max (ay (10==10) (ay (Qy 10 j b.op) b.dp)) (kE 10 (j+1) (.cons c l))=max b.dp (aV.cons c l).dp+1;have:Qy 10 j b.op=false:=rfl;rw[E,this];show max (b.dp+1) _=_;omega
def T4 (opOf:Nat->Nat)(o:Nat)(l:List Node):Prop:=∀j x,l[j]?=some x->opOf (o+j)=x.op
theorem T4.left {opOf:Nat->Nat}{o:Nat}{a b:List Node}(h:T4 opOf o (a++b)):T4 opOf o a:=fun j x hj=>h j x (by
 have:=(aae.1 hj).1
 rw[ab1 this];exact hj)
theorem T4.right {opOf:Nat->Nat}{o:Nat}{a b:List Node}(h:T4 opOf o (a++b)):T4 opOf (o+a.length) b:=fun j x hj=>by rw[abJ];refine h (a.length+j) x ?_;rw[abw (by omega),Nat.add_sub_cancel_left];exact hj
theorem Qyf {opOf:Nat->Nat}{o k:Nat}{a:List Node}{x:Node}(h:T4 opOf o (a++[x]))(hk:a.length=k):opOf (o+k)=x.op:=by subst hk;exact h a.length x (by simp)
def oB (opOf:Nat->Nat)(l:aV):Prop:=l.wf-> ∀(o:Nat) (rest:List Node) (s:List Bytes×List Nat),o+l.size<=s.1.length->o+l.size<=s.2.length->T4 opOf o (l.flat o)->∃t,Zw opOf o (l.flat o++rest) s.1 s.2=Zw opOf (o+l.size) rest t.1 t.2/\fZ o s t/\pQ opOf t o l
def qg (opOf:Nat->Nat)(e:Ex):Prop:=e.wf-> ∀(o:Nat) (rest:List Node) (s:List Bytes×List Nat),o+e.size<=s.1.length->o+e.size<=s.2.length->T4 opOf o (e.flat o)->∃t,Zw opOf o (e.flat o++rest) s.1 s.2=Zw opOf (o+e.size) rest t.1 t.2/\fZ o s t/\At opOf t (o+e.size-1) e
theorem Z4 {opOf:Nat->Nat}{e:Ex}{l:aV}{op:Nat}{text:Bytes}(hl:oB opOf l)(NK:e.wf->l.wf)(hf:∀o,e.flat o=l.flat o++[⟨op,text,l.roots o⟩])(hs:e.size=l.size+1)(ho:e.op=op)
  (hp:e.wf->X6 ⟨op,text,[]⟩ (cG op 0 l)=e.pr) (hd:e.wf->kE op 0 l=e.dp):qg opOf e:=by
 intro H o h s I J E;rw[hf]at E ⊢;rw[hs]at I J;obtain⟨t,e1,e2,e3⟩:=hl (NK H) o (⟨op,text,l.roots o⟩::h) s (by omega) (by omega) E.left;obtain⟨u,f1,f2,f3,f4⟩:=Dy (x:=⟨op,text,l.roots o⟩) h e3 (by rw[<-e2.1];omega) (by rw[<-e2.2.1];omega) rfl;refine⟨u,?_,e2.trans f2,?_,?_,?_⟩
 ·rw[aar]
  show Zw opOf o (l.flat o++(⟨op,text,l.roots o⟩::h)) s.1 s.2=_;rw[e1,f1,hs,abJ]
 ·rw[hs,show o+(l.size+1)-1=o+l.size by omega,f3,<-hp H];rfl
 ·rw[hs,show o+(l.size+1)-1=o+l.size by omega,f4,<-hd H]
 rw[hs,show o+(l.size+1)-1=o+l.size by omega,ho];exact Qyf E (W7 l o)
theorem U7 (opOf:Nat->Nat):oB opOf .nil:=fun _ o rest s _ _ _=>⟨s,rfl,fZ.refl _ _,trivial⟩
theorem M5 {opOf:Nat->Nat}{a:Ex}{l:aV}(ha:qg opOf a)(hl:oB opOf l):oB opOf (.cons a l):=by intro J o h s K O H;have Z:=Q5 a;have T:o+(a.size+l.size)<=s.1.length:=K;have U:o+(a.size+l.size)<=s.2.length:=O;have E:T4 opOf o (a.flat o++l.flat (o+a.size)):=H;obtain⟨t,e1,e2,e3⟩:=ha J.1 o (l.flat (o+a.size)++h) s (by omega) (by omega) E.left;have I:=E.right;rw[X7]at I;obtain⟨u,f1,f2,f3⟩:=hl J.2 (o+a.size) h t (by rw[<-e2.1];omega) (by rw[<-e2.2.1];omega) I;refine⟨u,?_,e2.trans (f2.mono (by omega)),e3.same f2 (by omega),f3⟩;show Zw opOf o (a.flat o++l.flat (o+a.size)++h) s.1 s.2=Zw opOf (o+(a.size+l.size)) h u.1 u.2;rw[aar,e1,f1,abJ]
theorem Nl {opOf:Nat->Nat}{a:Ex}(ha:qg opOf a):oB opOf (.cons a .nil):=M5 ha (U7 opOf)
theorem Fo {opOf:Nat->Nat}{a b:Ex}(ha:qg opOf a)(hb:qg opOf b):oB opOf (.cons a (.cons b .nil)):=M5 ha (Nl hb)
theorem Vl (a:Ex)(o:Nat):(aV.cons a .nil).flat o=a.flat o/\(aV.cons a .nil).roots o=[o+a.size-1]:=⟨by simp[aV.flat],by simp[aV.roots]⟩
theorem U4 (a b:Ex)(o:Nat):(aV.cons a (.cons b .nil)).flat o=a.flat o++b.flat (o+a.size)/\(aV.cons a (.cons b .nil)).roots o=[o+a.size-1,o+a.size+b.size-1]:=⟨by simp[aV.flat],by simp[aV.roots]⟩
theorem Qjn:∀j p,Qy 10 j p=false:=fun _ _=>rfl
theorem Do:∀j p,Qy 12 j p=false:=fun _ _=>rfl
mutual
theorem Ut (opOf:Nat->Nat):∀e:Ex,qg opOf e
 | .num n=>Z4 (l:=.nil) (op:=1) (text:=ar n) (U7 opOf) (fun _=>trivial) (fun _=>rfl) rfl rfl (fun _=>rfl) (fun _=>rfl)
 | .name x=>Z4 (l:=.nil) (op:=2) (text:=x) (U7 opOf) (fun _=>trivial) (fun _=>rfl) rfl rfl (fun _=>rfl) (fun _=>rfl)
 | .mat m=>Z4 (l:=.nil) (op:=3) (text:=bB m) (U7 opOf) (fun _=>trivial) (fun _=>rfl) rfl rfl (fun _=>rfl) (fun _=>rfl)
 | .cpx c=>Z4 (l:=.nil) (op:=13) (text:=cP c) (U7 opOf) (fun _=>trivial) (fun _=>rfl) rfl rfl (fun _=>rfl) (fun _=>rfl)
 | .neg a=>Z4 (l:=.cons a .nil) (op:=4) (text:=[]) (Nl (Ut opOf a)) (fun h=>⟨h,trivial⟩) (fun o=>by rw[(Vl a o).1,(Vl a o).2];rfl) (by simp[Ex.size,aV.size]) rfl
   (fun _=>rfl) (fun _=>by show max (ay (4==10) (ay (Qy 4 0 a.op) a.dp)) 0=ay (Qy 4 0 a.op) a.dp;rw[Nat.max_zero];rfl)
 | .turn a=>Z4 (l:=.cons a .nil) (op:=5) (text:=[]) (Nl (Ut opOf a)) (fun h=>⟨h,trivial⟩) (fun o=>by rw[(Vl a o).1,(Vl a o).2];rfl) (by simp[Ex.size,aV.size]) rfl
   (fun _=>rfl) (fun _=>by show max (ay (5==10) (ay (Qy 5 0 a.op) a.dp)) 0=ay (Qy 5 0 a.op) a.dp;rw[Nat.max_zero];rfl)
 | .pow a n=>Z4 (l:=.cons a .nil) (op:=9) (text:=ar n) (Nl (Ut opOf a)) (fun h=>⟨h,trivial⟩) (fun o=>by rw[(Vl a o).1,(Vl a o).2];rfl) (by simp[Ex.size,aV.size]) rfl
   (fun _=>by show par (Qy 9 0 a.op) a.pr++[94]++ar n=par (Qy 9 0 a.op) a.pr++([94]++ar n);rw[aar]) (fun _=>by show max (ay (9==10) (ay (Qy 9 0 a.op) a.dp)) 0=ay (Qy 9 0 a.op) a.dp;rw[Nat.max_zero];rfl)
 | .add a b=>Z4 (l:=.cons a (.cons b .nil)) (op:=6) (text:=[]) (Fo (Ut opOf a) (Ut opOf b)) (fun h=>⟨h.1,h.2,trivial⟩) (fun o=>by rw[(U4 a b o).1,(U4 a b o).2];rfl) (by simp[Ex.size,aV.size]<;>omega) rfl
   (fun _=>rfl) (fun _=>by show max (ay (6==10) (ay (Qy 6 0 a.op) a.dp)) (max (ay (6==10) (ay (Qy 6 1 b.op) b.dp)) 0)=max (ay (Qy 6 0 a.op) a.dp) (ay (Qy 6 1 b.op) b.dp);rw[Nat.max_zero];rfl)
 | .sub a b=>Z4 (l:=.cons a (.cons b .nil)) (op:=7) (text:=[]) (Fo (Ut opOf a) (Ut opOf b)) (fun h=>⟨h.1,h.2,trivial⟩) (fun o=>by rw[(U4 a b o).1,(U4 a b o).2];rfl) (by simp[Ex.size,aV.size]<;>omega) rfl
   (fun _=>rfl) (fun _=>by show max (ay (7==10) (ay (Qy 7 0 a.op) a.dp)) (max (ay (7==10) (ay (Qy 7 1 b.op) b.dp)) 0)=max (ay (Qy 7 0 a.op) a.dp) (ay (Qy 7 1 b.op) b.dp);rw[Nat.max_zero];rfl)
 | .mul a b=>Z4 (l:=.cons a (.cons b .nil)) (op:=8) (text:=[]) (Fo (Ut opOf a) (Ut opOf b)) (fun h=>⟨h.1,h.2,trivial⟩) (fun o=>by rw[(U4 a b o).1,(U4 a b o).2];rfl) (by simp[Ex.size,aV.size]<;>omega) rfl
   (fun _=>rfl) (fun _=>by show max (ay (8==10) (ay (Qy 8 0 a.op) a.dp)) (max (ay (8==10) (ay (Qy 8 1 b.op) b.dp)) 0)=max (ay (Qy 8 0 a.op) a.dp) (ay (Qy 8 1 b.op) b.dp);rw[Nat.max_zero];rfl)
 | .call x l=>Z4 (l:=l) (op:=10) (text:=x) (C7 opOf l) (fun h=>h.2.2) (fun o=>rfl) rfl rfl
   (fun _=>by show x++[40]++Qb [44,32] (cG 10 0 l)++[41]=x++([40]++l.pr++[41]);rw[(Pg Qjn l 0).1];simp) (fun h=>Cw l 0 h.2.1)
theorem C7 (opOf:Nat->Nat):∀l:aV,oB opOf l
 | .nil=>U7 opOf
 | .cons a l=>M5 (Ut opOf a) (C7 opOf l)
end
theorem Fp (op:Nat):∀(l:aV) (j:Nat),(cG op j l).length=l.len
 | .nil,_=>rfl
 | .cons a l,j=>by show (cG op (j+1) l).length+1=l.len+1;rw[Fp op l]
theorem Qc7 {opOf:Nat->Nat}{n:Ln}(hw:n.wf){s:List Bytes×List Nat}(h1:n.size<=s.1.length)(h2:n.size<=s.2.length)(hop:T4 opOf 0 n.flat):∃t,Zw opOf 0 n.flat s.1 s.2=t/\t.1[n.size-1]?=some n.pr/\t.2[n.size-1]?=some n.dp:=by
 have E:∀(l:aV) (op:Nat) (h:Bytes),n.flat=l.flat 0++[⟨op,h,l.roots 0⟩]->n.size=l.size+1->l.wf->X6 ⟨op,h,[]⟩ (cG op 0 l)=n.pr->kE op 0 l=n.dp->∃t,Zw opOf 0 n.flat s.1 s.2=t/\t.1[n.size-1]?=some n.pr/\t.2[n.size-1]?=some n.dp:=by
  intro l op h K H I O J;rw[K]at hop ⊢;rw[H]at h1 h2;obtain⟨t,e1,e2,e3⟩:=C7 opOf l I 0 [⟨op,h,l.roots 0⟩] s (by omega) (by omega) hop.left;obtain⟨u,f1,f2,f3,f4⟩:=Dy (x:=⟨op,h,l.roots 0⟩) [] e3 (by rw[<-e2.1];omega) (by rw[<-e2.2.1];omega) rfl;refine⟨u,?_,?_,?_⟩
  ·rw[e1,f1];rfl
  ·rw[abx]at f3
   rw[H,adQ,<-O,f3];rfl
  rw[abx]at f4;rw[H,adQ,<-J,f4]
 cases n with
 |nothing=>exact E .nil 14 [] rfl rfl trivial rfl rfl
 |lets x e=>
  refine E (.cons e .nil) 11 x ?_ (by simp[Ln.size,aV.size]) ⟨hw.2,trivial⟩ rfl ?_
  ·rw[(Vl e 0).1,(Vl e 0).2,abx];rfl
  show max (ay (11==10) (ay (Qy 11 0 e.op) e.dp)) 0=e.dp
  rw[Nat.max_zero];rfl
 |cmd x l=>
  refine E l 12 x rfl rfl hw.2.2 ?_ (Fy Do (by decide) l 0)
  cases l with
  |nil=>rfl
  |cons a l=>show (if (cG 12 0 (.cons a l)).length=0 then x else x++[32]++Qb [44,32] (cG 12 0 (.cons a l)))=x++[32]++(aV.cons a l).pr;rw[Fp,if_neg (by simp[aV.len]),(Pg Do _ 0).1]
end aq
namespace Go.Proofs.YtgfmiladfeoldaaGreatDoor
open Go.RowKit ag
theorem qN {a b c a' b' c':Int}(h1:a=a')(h2:b=b')(h3:c=c'):Ending.returned (.tuple #[.int .i64 a,.int .i64 b,.int .i64 c])=.returned (.tuple #[.int .i64 a',.int .i64 b',.int .i64 c']):=by rw[h1,h2,h3]
theorem Qm8 (b:Nat)(w:World)(hb:b<256):Calls Tryz.prog 176 #[.int .u8 (b:Nat)] w fun e w'=>e=.returned (.tuple #[.int .i64 ((cN b).1:Nat),.int .i64 ((cN b).2.1:Nat),.int .i64 ((cN b).2.2:Nat)])/\w=w':=by
 have G:b<128\/(128<=b/\b<192)\/(192<=b/\b<224)\/(224<=b/\b<240)\/(240<=b/\b<248)\/248<=b:=by omega
 rcases G with G|G|G|G|G|G
 ·have e:cN b=(1,b,0):=by unfold cN;rw[if_pos (by omega)]
  rw[e];clear e;go_enter Tryz.func176,Tryz.ntmps176;go_wp2_with fail;go_ret3;exact⟨qN rfl (by omega) rfl,rfl⟩
 ·have e:cN b=(0,0,0):=by unfold cN;rw[if_neg (by omega),if_neg (by omega),if_neg (by omega),if_neg (by omega)]
  rw[e];clear e;go_enter Tryz.func176,Tryz.ntmps176;go_wp2_with fail;go_ret3;exact⟨qN rfl rfl rfl,rfl⟩
 ·have e:cN b=(2,b % 32,128):=by unfold cN;rw[if_neg (by omega),if_pos (by omega)]
  rw[e];clear e;go_enter Tryz.func176,Tryz.ntmps176;go_wp2_with fail;go_ret3;exact⟨qN rfl (by omega) rfl,rfl⟩
 ·have e:cN b=(3,b % 16,2048):=by unfold cN;rw[if_neg (by omega),if_neg (by omega),if_pos (by omega)]
  rw[e];clear e;go_enter Tryz.func176,Tryz.ntmps176;go_wp2_with fail;go_ret3;exact⟨qN rfl (by omega) rfl,rfl⟩
 ·have e:cN b=(4,b % 8,65536):=by unfold cN;rw[if_neg (by omega),if_neg (by omega),if_neg (by omega),if_pos (by omega)]
  rw[e];clear e;go_enter Tryz.func176,Tryz.ntmps176;go_wp2_with fail;go_ret3;exact⟨qN rfl (by omega) rfl,rfl⟩
 have e:cN b=(0,0,0):=by unfold cN;rw[if_neg (by omega),if_neg (by omega),if_neg (by omega),if_neg (by omega)]
 rw[e];clear e;go_enter Tryz.func176,Tryz.ntmps176;go_wp2_with fail;go_ret3;exact⟨qN rfl rfl rfl,rfl⟩
theorem Qkw (s:ByteArray)(i k:Nat)(h:i+k<s.size):(s.data.toList.drop i)[k]?=some s[i+k]:=by
 have E:i+k<s.data.toList.length:=by rw[<-abg];exact h
 rw[adp,aad E];rfl
def Am (l:Bytes)(w:World)(e:Ending)(w':World):Prop:=
 e=.returned (.tuple #[.int .i64 ((Yt l).1:Nat),.int .i64 ((Yt l).2:Nat)])/\w=w'
theorem X8 (s:ByteArray)(i:Nat)(w:World)(hs:s.size<=1048576)(hi:i<s.size):Calls Tryz.prog 126 #[.string s,.int .i64 (i:Nat)] w (Am (s.data.toList.drop i) w):=by
 have hsz:s.size=s.data.toList.length:=abg s
 have cD:(s.data.toList.drop i).length=s.size-i:=by rw[aag,hsz]
 have h0:=Qkw s i 0 (by omega)
 obtain⟨t,ht⟩:∃t,s.data.toList.drop i=s[i]::t:=by
  cases hl:s.data.toList.drop i with
  |nil=>rw[hl]at h0;simp at h0
  |cons b t=>rw[hl]at h0;simp at h0;exact⟨t,by rw[h0]⟩
 have HT:Hid (∀k (h:i+(k+1)<s.size),t[k]?=some s[i+(k+1)]):=by intro k h;have:=Qkw s i (k+1) h;rw[ht]at this;simpa using this
 have xx:t.length+1=s.size-i:=by rw[<-cD,ht];simp
 rw[ht]
 have HP:Hid (∀a b,Yt (s[i]::t)=(a,b)->Am (s[i]::t) w (.returned (.tuple #[.int .i64 (a:Nat),.int .i64 (b:Nat)])) w):=by intro a b h;exact⟨by rw[h],rfl⟩
 have HN:=zq (@Ct s[i] t);have HC:=zq (@Aa s[i] t);have HE:=zq (fun v=> @Ae s[i] t v);have qC:=Qdx s[i].toNat;have aa2:=zq (fun j (h:j<=4)=>Qc2 h);clear cD ht h0 hsz;go_enter Tryz.func126,Tryz.ntmps126;go_wp2_with fail;refine(Qm8 s[i].toNat _ (by have:=s[i].toNat_lt;omega)).mono ?_;rintro e w' ⟨rfl,rfl⟩;generalize cN s[i].toNat=nv at*;obtain⟨n,v0,m⟩:=nv;simp only at qC HN HC HE ⊢;by_cases eQ:n=0
 ·have jE:((n:Int)==0)=true:=by simp[eQ]
  have HF:=zq (HN.o (.inl eQ));go_wp2_with fail;go_ret2;exact HP.o 0 0 HF.o
 have jE:((n:Int)==0)=false:=by simp[eQ]
 by_cases acd:s.size<i+n
 ·have HF:=zq (HN.o (.inr (by omega)))
  go_wp2_with fail;go_ret2;exact HP.o 0 0 HF.o
 have jl:Hid (¬(n=0\/t.length+1<n)):=by show ¬_;omega
 go_wp2_with fail;go_loopw [7,9] (fun sv sk wr=> ∃j vj:Nat,1<=j/\j<=n/\sk=.int .i64 (j:Nat)/\sv=.int .i64 (vj:Nat)/\Xh v0 (t.take (j-1))=some vj/\vj<lim j/\wr=w) (fun _ sk _=>n-(intOf sk).toNat)
 case atStart=>exact⟨1,v0,aaa _,by omega,rfl,rfl,rfl,qC.2.1,rfl⟩
 case round=>
  obtain⟨j,vj,GI,uY,rfl,rfl,hf,nS,rfl⟩:=hrel;have ig:=aa2.o j (by omega);have HF:=zq hf;have ld:=zq nS
  have kR:vj<33554432:=by omega
  clear hf nS ig;by_cases hlt:j<n
  ·have MV:i+j<s.size:=by omega
   have hb:=s[i+j].toNat_lt
   have HB:Hid (t.take j=t.take (j-1)++[s[i+j]]):=by show _=_;obtain⟨q,rfl⟩:∃q,j=q+1:=⟨j-1,by omega⟩;rw[ab2,HT.o q (by omega)];rfl
   have HS:=zq (Eg s[i+j] _ _ _ HF.o);rw[<-HB.o]at HS;by_cases hc:128<=s[i+j].toNat/\s[i+j].toNat<192
   ·have MU:Xo s[i+j]=true:=by simp[Xo];omega
    have cr:Hid (Xh v0 (t.take j)=some (64*vj+s[i+j].toNat % 64)):=by show _=_;rw[HS.o,if_pos MU]
    have HM:Hid (s[i+j].toNat % 64=s[i+j].toNat-128):=by show _=_;omega
    have mg:Hid (64*vj+s[i+j].toNat % 64<lim (j+1)):=by show _<_;rw[Qg3];have:=ld.o;omega
    obtain⟨hc1,hc2⟩:=hc;clear HS HB MU;go_wp2_with fail
    have e1:Hid (Value.int .i64 (64*(vj:Int)+(s[i+j].toNat:Int)-128)=.int .i64 ((64*vj+s[i+j].toNat % 64:Nat):Int)):=by show _=_;congr 1;have:=HM.o;omega
    refine⟨⟨j+1,64*vj+s[i+j].toNat % 64,by omega,by omega,by go_num,e1.o,cr.o,mg.o,trivial⟩,by simp[intOf];omega⟩
   have MU:Xo s[i+j]=false:=by simp[Xo];omega
   have HF0:=zq (HC.o j (by omega) (by rw[HS.o,MU];rfl))
   have G:s[i+j].toNat<128\/192<=s[i+j].toNat:=by omega
   clear HS HB MU hc;rcases G with G|G
   all_goals
    go_wp2_with fail;go_ret2;exact HP.o 0 0 HF0.o
  have ku:j=n:=by omega
  subst ku;have jk:=zq (HE.o vj jl.o HF.o)
  have G:vj<m\/(m<=vj/\1114111<vj)\/(m<=vj/\55296<=vj/\vj<=57343)\/(m<=vj/\vj<55296)\/(m<=vj/\57343<vj/\vj<=1114111):=by omega
  clear HF ld HE HT HC HN;rcases G with G|G|G|G|G
  ·have mK:fy vj m=true:=by simp[fy];omega
   have vL:Hid (Yt (s[i]::t)=(0,0)):=by show _=_;rw[jk.o,mK];rfl
   clear mK jk;go_wp2_with fail;go_ret2;exact HP.o 0 0 vL.o
  ·have mK:fy vj m=true:=by simp[fy];omega
   have vL:Hid (Yt (s[i]::t)=(0,0)):=by show _=_;rw[jk.o,mK];rfl
   clear mK jk;go_wp2_with fail;go_ret2;exact HP.o 0 0 vL.o
  ·have mK:fy vj m=true:=by simp[fy];omega
   have vL:Hid (Yt (s[i]::t)=(0,0)):=by show _=_;rw[jk.o,mK];rfl
   clear mK jk;go_wp2_with fail;go_ret2;exact HP.o 0 0 vL.o
  ·have mK:fy vj m=false:=by simp[fy];omega
   have vL:Hid (Yt (s[i]::t)=(vj,j)):=by show _=_;rw[jk.o,mK];rfl
   clear mK jk;go_wp2_with fail;go_ret2;exact HP.o vj j vL.o
  have mK:fy vj m=false:=by simp[fy];omega
  have vL:Hid (Yt (s[i]::t)=(vj,j)):=by show _=_;rw[jk.o,mK];rfl
  clear mK jk;go_wp2_with fail;go_ret2;exact HP.o vj j vL.o
theorem Jw {a b:Bool}(h:a=b):Ending.returned (.bool a)=.returned (.bool b):=by rw[h]
def kT (k v:Nat):Bool:=kindOf v==k
theorem Y8 (v:Nat)(w:World)(hv:v<=0x10ffff):Calls Tryz.prog 130 #[.int .i64 (v:Nat)] w fun e w'=>e=.returned (.bool (kT 3 v))/\w=w':=by
 have G:v<48\/(48<=v/\v<=57)\/(48<=v/\57<v):=by omega
 have E:kT 3 v=(decide (48<=v) && decide (v<=57)):=by
  unfold kT kindOf;rw[abA];simp only[adN,aaY,aaV]
  repeat' split
  all_goals omega
 rw[E];clear E;rcases G with G|G|G
 ·have e:(decide (48<=v) && decide (v<=57))=false:=by simp;omega
  rw[e];clear e;go_enter Tryz.func130,Tryz.ntmps130;go_wp2_with fail;go_ret
  first|exact⟨rfl,rfl⟩|exact⟨Jw (by simp<;>omega),rfl⟩
 ·have e:(decide (48<=v) && decide (v<=57))=true:=by simp;omega
  rw[e];clear e;go_enter Tryz.func130,Tryz.ntmps130;go_wp2_with fail;go_ret
  first|exact⟨rfl,rfl⟩|exact⟨Jw (by simp<;>omega),rfl⟩
 have e:(decide (48<=v) && decide (v<=57))=false:=by simp;omega
 rw[e];clear e;go_enter Tryz.func130,Tryz.ntmps130;go_wp2_with fail;go_ret
 first|exact⟨rfl,rfl⟩|exact⟨Jw (by simp<;>omega),rfl⟩
theorem Wl (v:Nat)(w:World)(hv:v<=0x10ffff):Calls Tryz.prog 128 #[.int .i64 (v:Nat)] w fun e w'=>e=.returned (.bool (kT 1 v))/\w=w':=by
 have E:kT 1 v=(decide (v=32\/v=9\/v=160)):=by
  unfold kT kindOf;rw[abA];simp only[adN,aaV]
  repeat' split
  all_goals omega
 rw[E];clear E;by_cases h:v=32\/v=9\/v=160
 ·rw[abH h]
  rcases h with rfl|rfl|rfl
  all_goals
   go_enter Tryz.func128,Tryz.ntmps128;go_wp2_with fail;go_ret
   first|exact⟨rfl,rfl⟩|exact⟨Jw (by simp<;>omega),rfl⟩
 rw[abC h]
 have n1:((v:Int)==32)=false:=by simp;omega
 have n2:((v:Int)==9)=false:=by simp;omega
 have n3:((v:Int)==160)=false:=by simp;omega
 clear h;go_enter Tryz.func128,Tryz.ntmps128;go_wp2_with fail;go_ret
 first|exact⟨rfl,rfl⟩|exact⟨Jw (by simp<;>omega),rfl⟩
def qM (v:Nat):Bool:=decide ((97<=v/\v<=122)\/(65<=v/\v<=90)\/v=95\/(192<=v/\v<=687/\v≠215/\v≠247)\/(880<=v/\v<=1023))
theorem Qbo (v:Nat):kT 4 v=qM v:=by
 unfold kT kindOf qM;rw[abA];simp only[adN,aaV]
 repeat' split
 all_goals omega
theorem W9 (v:Nat)(w:World)(hv:v<=0x10ffff):Calls Tryz.prog 132 #[.int .i64 (v:Nat)] w fun e w'=>e=.returned (.bool (kT 4 v))/\w=w':=by
 rw[Qbo];by_cases kM:v=95
 ·subst kM
  go_enter Tryz.func132,Tryz.ntmps132;go_wp2_with fail;go_ret
  first|exact⟨rfl,rfl⟩|exact⟨Jw (by simp<;>omega),rfl⟩
 by_cases BH:v=215
 ·subst BH
  go_enter Tryz.func132,Tryz.ntmps132;go_wp2_with fail;go_ret
  first|exact⟨rfl,rfl⟩|exact⟨Jw (by simp<;>omega),rfl⟩
 by_cases BI:v=247
 ·subst BI
  go_enter Tryz.func132,Tryz.ntmps132;go_wp2_with fail;go_ret
  first|exact⟨rfl,rfl⟩|exact⟨Jw (by simp<;>omega),rfl⟩
 have n1:((v:Int)==95)=false:=by simp;omega
 have n2:((v:Int) !=215)=true:=by simp;omega
 have n3:((v:Int) !=247)=true:=by simp;omega
 have G:((97<=v/\v<=122)\/(65<=v/\v<=90)\/(192<=v/\v<=687)\/(880<=v/\v<=1023))\/(v<65\/(90<v/\v<97)\/(122<v/\v<192)\/(687<v/\v<880)\/1023<v):=by omega
 rcases G with G|G
 ·have e:qM v=true:=by unfold qM;simp only[aaV];omega
  rw[e];clear e kM BH BI;rcases G with G|G|G|G
  all_goals
   go_enter Tryz.func132,Tryz.ntmps132;go_wp2_with fail;go_ret
   first|exact⟨rfl,rfl⟩|exact⟨Jw (by simp<;>omega),rfl⟩
 have e:qM v=false:=by unfold qM;simp only[ael];omega
 rw[e];clear e kM BH BI;rcases G with G|G|G|G|G
 all_goals
  go_enter Tryz.func132,Tryz.ntmps132;go_wp2_with fail;go_ret
  first|exact⟨rfl,rfl⟩|exact⟨Jw (by simp<;>omega),rfl⟩
theorem X2 (k:Nat)(h:k<15):wrap64 ((({data:= #[43,45,42,94,39,40,41,91,93,123,125,44,59,58,61]}:ByteArray)[k]'h).toNat:Int)=(([43,45,42,94,39,40,41,91,93,123,125,44,59,58,61]:List Int)[k]'h):=by
 have:∀k:Fin 15,wrap64 ((({data:= #[43,45,42,94,39,40,41,91,93,123,125,44,59,58,61]}:ByteArray)[k.val]'k.isLt).toNat:Int)=(([43,45,42,94,39,40,41,91,93,123,125,44,59,58,61]:List Int)[k.val]'k.isLt):=by decide+kernel
 exact this ⟨k,h⟩
def Pw (v:Nat):Bytes:=if v=0x2212 then [45] else if v=0xd7 then [42] else if kindOf v=5 then [v.toUInt8] else []
theorem Uq (v:Nat)(w:World)(hv:v<=0x10ffff):Calls Tryz.prog 127 #[.int .i64 (v:Nat)] w fun e w'=>e=.returned (.string ⟨(Pw v).toArray⟩)/\w=w':=by
 by_cases h:v=0x2212\/v=0xd7
 ·rcases h with rfl|rfl
  all_goals
   go_enter Tryz.func127,Tryz.ntmps127;go_wp2_with fail;go_ret;exact⟨rfl,rfl⟩
 have n1:((v:Int)==8722)=false:=by simp;omega
 have n2:((v:Int)==215)=false:=by simp;omega
 have q0:=X2 0 (by decide);have q1:=X2 1 (by decide);have q2:=X2 2 (by decide);have q3:=X2 3 (by decide);have q4:=X2 4 (by decide);have q5:=X2 5 (by decide);have q6:=X2 6 (by decide);have q7:=X2 7 (by decide);have q8:=X2 8 (by decide);have q9:=X2 9 (by decide);have q10:=X2 10 (by decide);have q11:=X2 11 (by decide);have q12:=X2 12 (by decide);have q13:=X2 13 (by decide);have q14:=X2 14 (by decide);simp only[List.getElem_cons_zero,List.getElem_cons_succ]at q0 q1 q2 q3 q4 q5 q6 q7 q8 q9 q10 q11 q12 q13 q14;by_cases hm:v=43\/v=45\/v=42\/v=94\/v=39\/v=40\/v=41\/v=91\/v=93\/v=123\/v=125\/v=44\/v=59\/v=58\/v=61
 ·clear n1 n2 h
  rcases hm with rfl|rfl|rfl|rfl|rfl|rfl|rfl|rfl|rfl|rfl|rfl|rfl|rfl|rfl|rfl
  all_goals
   go_enter Tryz.func127,Tryz.ntmps127;go_wp2_with fail;refine wp_loop_rounds 16 ?_
   repeat (rw[rounds_succ];go_wp2_with fail)
   go_ret;exact⟨rfl,rfl⟩
 have e:Pw v=[]:=by
  have hk:kindOf v≠5:=by
   unfold kindOf
   repeat' split
   all_goals first|omega|skip
   rename_i k;exfalso;obtain⟨k1,k2⟩:=k
   have:∀r:Fin 128,r.val.toUInt8∈([43,45,42,94,39,40,41,91,93,123,125,44,59,58,61]:Bytes)->(r.val=43\/r.val=45\/r.val=42\/r.val=94\/r.val=39\/r.val=40\/r.val=41\/r.val=91\/r.val=93\/r.val=123\/r.val=125\/r.val=44\/r.val=59\/r.val=58\/r.val=61):=by decide+kernel
   exact hm (this ⟨v,k1⟩ k2)
  unfold Pw;rw[if_neg (by omega),if_neg (by omega),if_neg hk]
 rw[e];clear e h
 have m1:((43:Int)==(v:Int))=false:=by simp;omega
 have m2:((45:Int)==(v:Int))=false:=by simp;omega
 have m3:((42:Int)==(v:Int))=false:=by simp;omega
 have m4:((94:Int)==(v:Int))=false:=by simp;omega
 have m5:((39:Int)==(v:Int))=false:=by simp;omega
 have m6:((40:Int)==(v:Int))=false:=by simp;omega
 have m7:((41:Int)==(v:Int))=false:=by simp;omega
 have m8:((91:Int)==(v:Int))=false:=by simp;omega
 have m9:((93:Int)==(v:Int))=false:=by simp;omega
 have m10:((123:Int)==(v:Int))=false:=by simp;omega
 have m11:((125:Int)==(v:Int))=false:=by simp;omega
 have m12:((44:Int)==(v:Int))=false:=by simp;omega
 have m13:((59:Int)==(v:Int))=false:=by simp;omega
 have m14:((58:Int)==(v:Int))=false:=by simp;omega
 have m15:((61:Int)==(v:Int))=false:=by simp;omega
 clear hm;go_enter Tryz.func127,Tryz.ntmps127;go_wp2_with fail;refine wp_loop_rounds 16 ?_
 repeat (rw[rounds_succ];go_wp2_with fail)
 go_ret;exact⟨rfl,rfl⟩
def Hz (l:Bytes)(p:C->Bool)(w:World)(e:Ending)(w':World):Prop:=
 e=.returned (.tuple #[.int .i64 (ax l (Qp p (Qx l)):Nat),.int .i64 (Qp p (Qx l):Nat)])/\w=w'
theorem Tb (v:Nat)(t:Bytes):Ql (some v,t)=(kT 3 v||v==95):=rfl
theorem Rw (v:Nat)(t:Bytes):aL (some v,t)=(kT 3 v||kT 4 v):=rfl
theorem Gd (t:Bytes):Ql (none,t)=false:=by simp[Ql,kd,rn]
theorem Qw4 (t:Bytes):aL (none,t)=false:=by simp[aL,kd]
theorem Qxl (s:ByteArray)(i:Nat)(w:World)(hs:s.size<=1048576)(hi:i<=s.size):Calls Tryz.prog 131 #[.string s,.int .i64 (i:Nat),.bool true] w (Hz (s.data.toList.drop i) Ql w):=by
 have hsz:s.size=s.data.toList.length:=abg s;obtain⟨L,hL⟩:=xq (s.data.toList.drop i);rw[<-hL]
 have rb:L.length=s.size-i:=by rw[hL,aag,hsz]
 have HL:=zq hL
 have HP:Hid (∀j,Qp Ql (Qx L)=j->Hz L Ql w (.returned (.tuple #[.int .i64 (ax L j:Nat),.int .i64 (j:Nat)])) w):=by intro j h;exact⟨by rw[h],rfl⟩
 have dA:(Qx L).length<=1048576:=by have:=Ym L;omega
 clear hsz hL;go_enter Tryz.func131,Tryz.ntmps131;go_wp2_with fail;go_loopw [8,9] (fun b c wr=> ∃j:Nat,j<=(Qx L).length/\b=.int .i64 (ax L j:Nat)/\c=.int .i64 (j:Nat)/\(∀d∈(Qx L).take j,Ql d=true)/\wr=w) (fun _ c _=>(Qx L).length-(intOf c).toNat)
 case atStart=>exact⟨0,aao _,by rw[Rx];rfl,rfl,by simp,rfl⟩
 case round=>
  obtain⟨j,hj,rfl,rfl,hall,rfl⟩:=hrel;have bw:=zq hall;have wY:=S9 L j;clear hall;by_cases hlt:j<(Qx L).length
  ·have hbl:=(Yr L j).2 hlt
   have fS:=zq (Sp hlt);have sj:=zq (Rq hlt)
   have HD:Hid (s.data.toList.drop (i+ax L j)=L.drop (ax L j)):=by show _=_;rw[HL.o,adG]
   have e1:(i:Int)+(ax L j:Int)=((i+ax L j:Nat):Int):=by omega
   have E1:=zq e1;clear e1;rcases cM (L.drop (ax L j)) with ⟨h1,h2⟩|⟨v,n,h1,jE,jX,oQ,hv,h2,h3⟩
   ·have HF:=zq (HP.o j (U8 hlt bw.o fS.o (by rw[h2];exact Gd _)))
    have H1:=zq h1;clear h1 h2;go_wp2_with fail;rw[E1.o];refine(X8 s (i+ax L j) _ hs (by omega)).mono ?_;rintro e w' ⟨rfl,rfl⟩;rw[HD.o,H1.o];simp only;go_wp2_with fail;go_ret2;exact HF.o
   have H1:=zq h1;rw[aag]at jX
   have eQ:((n:Int)==0)=false:=by simp;omega
   cases hd:kT 3 v with
   |true=>
    have HA:Hid (∀d∈(Qx L).take (j+1),Ql d=true):=U0 bw.o fS.o (by rw[h2,Tb,hd];rfl)
    have HS:Hid (ax L (j+1)=ax L j+n):=by show _=_;rw[sj.o,h3]
    have HK:=zq hd;clear h1 h2 h3 hd;go_wp2_with fail;rw[E1.o];refine(X8 s (i+ax L j) _ hs (by omega)).mono ?_;rintro e w' ⟨rfl,rfl⟩;rw[HD.o,H1.o];simp only;go_wp2_with fail;refine(Y8 v _ hv).mono ?_;rintro e w' ⟨rfl,rfl⟩;rw[HK.o];go_wp2_with fail
    refine⟨⟨j+1,by omega,by rw[HS.o];go_num,by go_num,HA.o,trivial⟩,by simp[intOf];omega⟩
   |false=>
    have HK:=zq hd;by_cases kM:v=95
    ·subst kM
     have HA:Hid (∀d∈(Qx L).take (j+1),Ql d=true):=U0 bw.o fS.o (by rw[h2,Tb,hd];rfl)
     have HS:Hid (ax L (j+1)=ax L j+n):=by show _=_;rw[sj.o,h3]
     clear h1 h2 h3 hd;go_wp2_with fail;rw[E1.o];refine(X8 s (i+ax L j) _ hs (by omega)).mono ?_;rintro e w' ⟨rfl,rfl⟩;rw[HD.o,H1.o];simp only;go_wp2_with fail;refine(Y8 95 _ hv).mono ?_;rintro e w' ⟨rfl,rfl⟩;rw[HK.o];go_wp2_with fail;refine⟨⟨j+1,by omega,by rw[HS.o];go_num,by go_num,HA.o,trivial⟩,by simp[intOf];omega⟩
    have hne:((v:Int) !=95)=true:=by simp;omega
    have HF:=zq (HP.o j (U8 hlt bw.o fS.o (by rw[h2,Tb,hd];simpa using kM)));clear h1 h2 h3 hd kM;go_wp2_with fail;rw[E1.o];refine(X8 s (i+ax L j) _ hs (by omega)).mono ?_;rintro e w' ⟨rfl,rfl⟩;rw[HD.o,H1.o];simp only;go_wp2_with fail;refine(Y8 v _ hv).mono ?_;rintro e w' ⟨rfl,rfl⟩;rw[HK.o];go_wp2_with fail;go_ret2;exact HF.o
  have ku:j=(Qx L).length:=by omega
  have hbe:L.length<=ax L j:=by have:=Yr L j;omega
  have HF:=zq (HP.o j (by rw[ku];exact Pm (by rw[<-ku];exact bw.o)))
  have tA: ¬((i:Int)+(ax L j:Int)<(s.size:Int)):=by omega
  clear ku;go_wp2_with fail;go_ret2;exact HF.o
theorem Qvp (s:ByteArray)(i:Nat)(w:World)(hs:s.size<=1048576)(hi:i<=s.size):Calls Tryz.prog 131 #[.string s,.int .i64 (i:Nat),.bool false] w (Hz (s.data.toList.drop i) aL w):=by
 have hsz:s.size=s.data.toList.length:=abg s;obtain⟨L,hL⟩:=xq (s.data.toList.drop i);rw[<-hL]
 have rb:L.length=s.size-i:=by rw[hL,aag,hsz]
 have HL:=zq hL
 have HP:Hid (∀j,Qp aL (Qx L)=j->Hz L aL w (.returned (.tuple #[.int .i64 (ax L j:Nat),.int .i64 (j:Nat)])) w):=by intro j h;exact⟨by rw[h],rfl⟩
 have dA:(Qx L).length<=1048576:=by have:=Ym L;omega
 clear hsz hL;go_enter Tryz.func131,Tryz.ntmps131;go_wp2_with fail;go_loopw [8,9] (fun b c wr=> ∃j:Nat,j<=(Qx L).length/\b=.int .i64 (ax L j:Nat)/\c=.int .i64 (j:Nat)/\(∀d∈(Qx L).take j,aL d=true)/\wr=w) (fun _ c _=>(Qx L).length-(intOf c).toNat)
 case atStart=>exact⟨0,aao _,by rw[Rx];rfl,rfl,by simp,rfl⟩
 case round=>
  obtain⟨j,hj,rfl,rfl,hall,rfl⟩:=hrel;have bw:=zq hall;have wY:=S9 L j;clear hall;by_cases hlt:j<(Qx L).length
  ·have hbl:=(Yr L j).2 hlt
   have fS:=zq (Sp hlt);have sj:=zq (Rq hlt)
   have HD:Hid (s.data.toList.drop (i+ax L j)=L.drop (ax L j)):=by show _=_;rw[HL.o,adG]
   have e1:(i:Int)+(ax L j:Int)=((i+ax L j:Nat):Int):=by omega
   have E1:=zq e1;clear e1;rcases cM (L.drop (ax L j)) with ⟨h1,h2⟩|⟨v,n,h1,jE,jX,oQ,hv,h2,h3⟩
   ·have HF:=zq (HP.o j (U8 hlt bw.o fS.o (by rw[h2];exact Qw4 _)))
    have H1:=zq h1;clear h1 h2;go_wp2_with fail;rw[E1.o];refine(X8 s (i+ax L j) _ hs (by omega)).mono ?_;rintro e w' ⟨rfl,rfl⟩;rw[HD.o,H1.o];simp only;go_wp2_with fail;go_ret2;exact HF.o
   have H1:=zq h1;rw[aag]at jX
   have eQ:((n:Int)==0)=false:=by simp;omega
   cases hd:kT 3 v with
   |true=>
    have HA:Hid (∀d∈(Qx L).take (j+1),aL d=true):=U0 bw.o fS.o (by rw[h2,Rw,hd];rfl)
    have HS:Hid (ax L (j+1)=ax L j+n):=by show _=_;rw[sj.o,h3]
    have HK:=zq hd;clear h1 h2 h3 hd;go_wp2_with fail;rw[E1.o];refine(X8 s (i+ax L j) _ hs (by omega)).mono ?_;rintro e w' ⟨rfl,rfl⟩;rw[HD.o,H1.o];simp only;go_wp2_with fail;refine(Y8 v _ hv).mono ?_;rintro e w' ⟨rfl,rfl⟩;rw[HK.o];go_wp2_with fail
    refine⟨⟨j+1,by omega,by rw[HS.o];go_num,by go_num,HA.o,trivial⟩,by simp[intOf];omega⟩
   |false=>
    have HK:=zq hd;by_cases kM:v=95
    ·subst kM
     have HA:Hid (∀d∈(Qx L).take (j+1),aL d=true):=U0 bw.o fS.o (by rw[h2,Rw,hd];rfl)
     have HS:Hid (ax L (j+1)=ax L j+n):=by show _=_;rw[sj.o,h3]
     clear h1 h2 h3 hd;go_wp2_with fail;rw[E1.o];refine(X8 s (i+ax L j) _ hs (by omega)).mono ?_;rintro e w' ⟨rfl,rfl⟩;rw[HD.o,H1.o];simp only;go_wp2_with fail;refine(Y8 95 _ hv).mono ?_;rintro e w' ⟨rfl,rfl⟩;rw[HK.o];go_wp2_with fail;refine⟨⟨j+1,by omega,by rw[HS.o];go_num,by go_num,HA.o,trivial⟩,by simp[intOf];omega⟩
    have hne:((v:Int) !=95)=true:=by simp;omega
    cases h4:kT 4 v with
    |true=>
     have HA:Hid (∀d∈(Qx L).take (j+1),aL d=true):=U0 bw.o fS.o (by rw[h2,Rw,hd,h4];rfl)
     have HS:Hid (ax L (j+1)=ax L j+n):=by show _=_;rw[sj.o,h3]
     have yg:=zq h4;clear h1 h2 h3 hd kM h4;go_wp2_with fail;rw[E1.o];refine(X8 s (i+ax L j) _ hs (by omega)).mono ?_;rintro e w' ⟨rfl,rfl⟩;rw[HD.o,H1.o];simp only;go_wp2_with fail;refine(Y8 v _ hv).mono ?_;rintro e w' ⟨rfl,rfl⟩;rw[HK.o];go_wp2_with fail;refine(W9 v _ hv).mono ?_;rintro e w' ⟨rfl,rfl⟩;rw[yg.o];go_wp2_with fail
     refine⟨⟨j+1,by omega,by rw[HS.o];go_num,by go_num,HA.o,trivial⟩,by simp[intOf];omega⟩
    |false=>have HF:=zq (HP.o j (U8 hlt bw.o fS.o (by rw[h2,Rw,hd,h4];rfl)));have yg:=zq h4;clear h1 h2 h3 hd kM h4;go_wp2_with fail;rw[E1.o];refine(X8 s (i+ax L j) _ hs (by omega)).mono ?_;rintro e w' ⟨rfl,rfl⟩;rw[HD.o,H1.o];simp only;go_wp2_with fail;refine(Y8 v _ hv).mono ?_;rintro e w' ⟨rfl,rfl⟩;rw[HK.o];go_wp2_with fail;refine(W9 v _ hv).mono ?_;rintro e w' ⟨rfl,rfl⟩;rw[yg.o];go_wp2_with fail;go_ret2;exact HF.o
  have ku:j=(Qx L).length:=by omega
  have hbe:L.length<=ax L j:=by have:=Yr L j;omega
  have HF:=zq (HP.o j (by rw[ku];exact Pm (by rw[<-ku];exact bw.o)))
  have tA: ¬((i:Int)+(ax L j:Int)<(s.size:Int)):=by omega
  clear ku;go_wp2_with fail;go_ret2;exact HF.o
def lj (l:Bytes)(col:Nat):Nat:=if Qp Qe (Qx l)<(Qx l).length then col+Qp Qe (Qx l) else 0
def Cs (l:Bytes)(col:Nat)(w:World)(e:Ending)(w':World):Prop:=e=.returned (.int .i64 (lj l col:Nat))/\w=w'
theorem Qxm (s:ByteArray)(i col:Nat)(w:World)(hs:s.size<=1048576)(hi:i<=s.size)(hc:col<=1048577):Calls Tryz.prog 129 #[.string s,.int .i64 (i:Nat),.int .i64 (col:Nat)] w (Cs (s.data.toList.drop i) col w):=by
 have hsz:s.size=s.data.toList.length:=abg s;obtain⟨L,hL⟩:=xq (s.data.toList.drop i);rw[<-hL]
 have rb:L.length=s.size-i:=by rw[hL,aag,hsz]
 have HL:=zq hL
 have HP:Hid (∀j,j<(Qx L).length->Qp Qe (Qx L)=j->Cs L col w (.returned (.int .i64 (col+j:Nat))) w):=by intro j hj h;exact⟨by unfold lj;rw[h,if_pos hj],rfl⟩
 have HE:Hid (Qp Qe (Qx L)=(Qx L).length->Cs L col w (.returned (.int .i64 0)) w):=by intro h;exact⟨by unfold lj;rw[h,if_neg (ae1 _)];rfl,rfl⟩
 have dA:(Qx L).length<=1048576:=by have:=Ym L;omega
 clear hsz hL;go_enter Tryz.func129,Tryz.ntmps129;go_wp2_with fail;go_loopw [1,2] (fun b c wr=> ∃j:Nat,j<=(Qx L).length/\b=.int .i64 (i+ax L j:Nat)/\c=.int .i64 (col+j:Nat)/\(∀d∈(Qx L).take j,Qe d=true)/\wr=w) (fun _ c _=>col+(Qx L).length-(intOf c).toNat)
 case atStart=>exact⟨0,aao _,by rw[Rx];rfl,rfl,by simp,rfl⟩
 case round=>
  obtain⟨j,hj,rfl,rfl,hall,rfl⟩:=hrel;have bw:=zq hall;have wY:=S9 L j;clear hall;by_cases hlt:j<(Qx L).length
  ·have hbl:=(Yr L j).2 hlt
   have fS:=zq (Sp hlt);have sj:=zq (Rq hlt)
   have HD:Hid (s.data.toList.drop (i+ax L j)=L.drop (ax L j)):=by show _=_;rw[HL.o,adG]
   rcases cM (L.drop (ax L j)) with ⟨h1,h2⟩|⟨v,n,h1,jE,jX,oQ,hv,h2,h3⟩
   ·have HF:=zq (HP.o j hlt (U8 hlt bw.o fS.o (by rw[h2];exact Kd _)))
    have H1:=zq h1;clear h1 h2;go_wp2_with fail;refine(X8 s (i+ax L j) _ hs (by omega)).mono ?_;rintro e w' ⟨rfl,rfl⟩;rw[HD.o,H1.o];simp only;go_wp2_with fail;go_ret;exact HF.o
   have H1:=zq h1;rw[aag]at jX
   have eQ:((n:Int)==0)=false:=by simp;omega
   have HA:Hid (∀d∈(Qx L).take (j+1),Qe d=true):=U0 bw.o fS.o (by rw[h2];exact Qqa _ _)
   have HS:Hid (ax L (j+1)=ax L j+n):=by show _=_;rw[sj.o,h3]
   clear h1 h2 h3;go_wp2_with fail;refine(X8 s (i+ax L j) _ hs (by omega)).mono ?_;rintro e w' ⟨rfl,rfl⟩;rw[HD.o,H1.o];simp only;go_wp2_with fail;refine⟨⟨j+1,by omega,by rw[HS.o];go_num,by go_num,HA.o,trivial⟩,by simp[intOf];omega⟩
  have ku:j=(Qx L).length:=by omega
  have hbe:L.length<=ax L j:=by have:=Yr L j;omega
  have HF:=zq (HE.o (Pm (by rw[<-ku];exact bw.o)));clear ku;go_wp2_with fail;go_ret;exact HF.o
end Go.Proofs.YtgfmiladfeoldaaGreatDoor
