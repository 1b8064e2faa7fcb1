/- Joined texts of this claim's proof: RnL. -/
import Derived.Test.YtgfmiladfeoldaaGreatDoorPk1
import Derived.Test.YtgfmiladfeoldaaGreatDoorPk43
import Derived.Test.YtgfmiladfeoldaaGreatDoorPk45
set_option linter.unusedSimpArgs false
set_option linter.unusedVariables false
set_option maxRecDepth 100000
set_option maxHeartbeats 16000000
namespace Go.Proofs.YtgfmiladfeoldaaGreatDoor
open Go.RowKit LexP NatP
theorem Nm {P:Program}{w:World}{ops:Array Oper}{o:Oper}{a:Act}{K:Act->World->Prop}{Q:Exit->Act->World->Prop}{E:Prop}(hgd:o.guard=none)(sl x:Operand)(t u:TypeId)
  (ho:o.op=.call {callee:=.builtin .append,args:= #[sl,x],argTypes:= #[t,u]})
  (base:Nat) (e:TypeId) (i:TypeInfo) (ht:P.underlying t=some (.slice e)) (hu:P.underlying u=some .string) (hi:P.info? e=some i) (hz:i.zero=some (.int .u8 0))
  (hsize:i.size=1) (hby:i.bytes=1) (g:Nat) (hs:a.eval sl=.slice (some ⟨g,0,none⟩) 1 1) (y:Value) (hg:w.cell? ⟨g,0,none⟩=some y) (s:ByteArray) (hx:a.eval x=.string s) (hs0:0<s.size)
  (hbytes:1+s.size<=140737488355328) (hbase:base<=w.heap.size)
  (h:∀v' w',w'.ownsRow base e 1 v' (1+s.size) (y::Lib.strCells s)->w.grownBy w' none->K (a.put o.dst v') w'):
  if Region.wanted o (yielded ops a.tmps)=true then Oper.wp P o a w K Q else E:=by
 have I:Region.wanted o (yielded ops a.tmps)=true:=by simp[Region.wanted,hgd]
 rw[if_pos I];obtain⟨v',w',H,J,O⟩:=Tt (P:=P) base t u o.type e i ht hu hi hz hsize hby w g y hg s hs0 hbytes hbase;unfold Oper.wp execOp;simp only[ho,resolve,invoke,builtin,Sem.run_bind,Sem.run_pure,Result.andThen_ok,List.map_toArray,List.map_cons,List.map_nil,hs,hx,H];exact h v' w' J O
def CxL (fin:Nat)(x:RfP.RW)(L:List Tok)(rr:RfP.CpxR)(w0:World)(R:Nat)(tv nv vv sv sl fv:Value)(wr:World):Prop:=
 ∃j acc cur,fv=.bool (decide (cur=[]))/\WkAt w0 R tv nv vv sv x j wr/\RfP.Jc fin acc cur ⟨L.drop j,x.depth⟩ rr/\j<=L.length/\(RfP.Xc acc cur).length<=1+j*1048580/\
  ((acc=[]/\cur=[]/\sl=.slice (some ⟨w0.heap.size,0,none⟩) 1 1/\wr.cell? ⟨w0.heap.size,0,none⟩=some (.int .u8 123)/\w0.heap.size<wr.heap.size)\/(¬(acc=[]/\cur=[])/\OwnB w0.heap.size wr sl (RfP.Xc acc cur)))
theorem OwnB.setR {B R o:Nat}{w:World}{v:Value}{l:Qx}(h:OwnB B w v l)(hR:R<B)(u:Value):OwnB B (w.setCell ⟨R,o,none⟩ u) v l:=
 Sm h (Nat.le_refl _) fun q hq=>heap_setCell_other w ⟨R,o,none⟩ q u (by have:=(World.ownsRow.lt h q hq).1;show q≠R;omega)
def sepC:List Nat->Qx
 | []=>[]
 |_::_=>[32]
theorem Qge (cur:List Nat):(if cur=[] then ([]:Qx) else [32])=sepC cur:=by
 cases cur with
 |nil=>rfl
 |cons a l=>rfl
theorem Qpb {cur:List Nat}(h:cur≠[]):sepC cur=[32]:=by
 cases cur with
 |nil=>exact absurd rfl h
 |cons a l=>rfl
theorem Kf (cur:List Nat):(sepC cur).length<=1:=by
 cases cur with
 |nil=>exact Nat.zero_le _
 |cons a l=>exact Nat.le_refl _
def cpxO (x:RfP.RW)(rr:RfP.CpxR):RfP.MR:=match rr with
 | .ok (l,s)=>RfP.has x (.cpx l) s.ts
 | .error e=> .error e
theorem M3 {L:List Tok}{j:Nat}{t:Tok}(h:L[j]?=some t):L.drop j=t::L.drop (j+1):=by
 have E:=(List.getElem?_eq_some_iff.1 h).1;rw[List.drop_eq_getElem_cons E];congr 1;have:=List.getElem?_eq_getElem E;rw[h]at this;exact(Option.some.inj this).symm
theorem Kq {b:Qx}(h:b.length<=1048576):0<(SynP.decT (SynP.Xx b)).length/\(SynP.decT (SynP.Xx b)).length<=1048576:=
 ⟨List.length_pos_iff.2 (SynP.Qza _),by have:=Fg b;omega⟩
theorem R8 {w:World}{R g cap n:Nat}{L:List Tok}(h:TkR w R (.slice (some ⟨g,0,none⟩) n cap) L){j:Nat}{t:Tok}(ht:L[j]?=some t):w.cell? ⟨g,j*3+1,none⟩=some (.string ⟨t.2.1.toArray⟩)/\g<R:=by
 obtain⟨ao',cap',e,-,-,a3⟩:=h;obtain⟨g',e2,E,b3⟩:=a3 (by have:=(List.getElem?_eq_some_iff.1 ht).1;omega);simp only[Value.slice.injEq]at e;rw[<-e.1]at e2
 cases e2
 exact⟨(b3 j t ht).2.1,E⟩
theorem Qhf (HDEC : DecC) : CpxC := by
  intro R tv L fin a0 x w h hm hd ha hlb htk hsz
  obtain ⟨a, haa⟩ : ∃ a, a = a0 + 1 := ⟨_, rfl⟩
  rw [← haa] at h
  obtain ⟨i0, hi, hz0, hz1, hz2⟩ := info_parts Tryz.infoU8
  obtain ⟨nv, vv, sv, ns, h1, h2⟩ := h
  have hRl := h1.lt
  have HM1 := zq h1
  have HM2 := zq h2
  have htr := h1.tks
  obtain ⟨ao, cap, htv, t1, t2, t3⟩ := htr
  obtain ⟨g, hao, hgR, -⟩ := t3 (by omega)
  subst hao
  have htr := h1.tks
  rw [htv] at htr
  have HTR := zq htr
  have HTV := zq htv
  have HTK := zq htk
  have HSZ := zq hsz
  obtain ⟨n, hn⟩ : ∃ n, n = L.length := ⟨_, rfl⟩
  have HN := zq hn
  rw [← hn] at htv hlb ha HTR
  have HM1V : Hid (WM w R (.slice (some ⟨g, 0, none⟩) n cap) L a nv vv sv ns (SynP.Xm x.vals.reverse 0) x.stack.reverse x.want x.pw x.depth) := by rw [← htv]; exact h1
  have hxt : x.ts.tail = L.drop a := by rw [← hd, List.tail_drop, haa]
  have hab : a ≤ n := by omega
  clear haa
  obtain ⟨c0, c1, -, -, -, -, -, -⟩ := h1.cells
  have f1 := h1.fro 1
  rw [htv] at c0
  have hst := WkAt.start h1
  rw [htv] at hst
  have hba := Qq w (.cells #[.int .u8 123] 5 (1, 2))
  have hstA := hst.below hba
  have HSTA := zq hstA
  have HIS := zq (Rj R _ L a [125] _ hstA.cells.1 (hstA.tks hRl HTR.o) (by omega))
  have kc := fun (w : World) (C : Array Value) (n c : Nat) => Lib.run_convert_bytes_const (P := Tryz.prog) w 88 5 C n c Tryz.underlying88 Tryz.underlying5
  have HMK : Hid ((w.alloc (.cells #[.int .u8 123] 5 (1, 2))).cell? ⟨w.heap.size, 0, none⟩ = some (.int .u8 123)) := (World.cell?_alloc_mark w #[.int .u8 123] 5 (1, 2) 0).trans rfl
  by_cases he : SynP.Qv [125] (L.drop a) = true
  · have HE : Hid (cpxR fin x = .ok { x with ts := L.drop ((a + 1)), vals := .cpx [] :: x.vals, want := false, pw := false }) := by
      show _ = _
      unfold cpxR SynP.Xg SynP.want
      rw [if_pos (show SynP.Qv [123] (⟨x.ts, x.depth⟩ : SynP.St).ts = true from hm)]
      simp only [SynP.Yj]
      rw [if_pos (show SynP.Qv [125] (SynP.St.adv ⟨x.ts, x.depth⟩).ts = true by
        show SynP.Qv [125] x.ts.tail = true
        rw [hxt]; exact he)]
      show RfP.has x (.cpx []) x.ts.tail.tail = _
      rw [hxt, List.tail_drop]; rfl
    have hil : (a + 1) ≤ n := by
      have := RfP.Qs he
      have h3 : ¬ L.length ≤ a := fun h => this (List.drop_eq_nil_of_le h)
      omega
    rw [he] at HIS
    obtain ⟨b, hb⟩ : ∃ b, b = a + 1 := ⟨_, rfl⟩
    have hb1 : ((a : Nat) : Int) + 1 = ((b : Nat) : Int) := by omega
    have hb2 : IntKind.i64.wrap ((b : Nat) : Int) = ((b : Nat) : Int) := IntWalk.i64_in _ (by omega)
    have HBQ := zq hb
    rw [← hb] at HE hil
    clear hst hstA hba h1 h2 hm hd ha htk hsz hn hxt he hb htr t1 t2 t3
    go_enter Tryz.func86, Tryz.ntmps86
    go_wp2_with fail
    refine HIS.o.mono ?_
    rintro e w1 ⟨rfl, hb1⟩
    have hwk := HSTA.o.below hb1
    have HWK := zq hwk
    obtain ⟨c0', c1', f'⟩ := hwk.cells
    have f1' := f' 1
    have hset := hwk.set b
    have HHAS : Hid (Calls Tryz.prog 148 #[.pointer (some ⟨R, 0, none⟩), .int .i64 13, .string ⟨#[123, 125]⟩] (w1.setCell ⟨R, 1, none⟩ (.int .i64 (b : Nat))) fun e' w' => e' = .returned (.tuple #[]) ∧ Below R (w1.setCell ⟨R, 1, none⟩ (.int .i64 (b : Nat))) w' ∧ WRi w' R (.slice (some ⟨g, 0, none⟩) n cap) L b { x with ts := L.drop b, vals := .cpx [] :: x.vals, want := false, pw := false }) :=
      P6 R _ L b x _ (hset.wri HM1V.o HM2.o) (Qyn []) HSZ.o (by decide) (L.drop b)
    have HBS : Hid (Below R w (w1.setCell ⟨R, 1, none⟩ (.int .i64 (b : Nat)))) := hset.belowR hRl
    clear hb1 hwk hset f' c0 c1 f1
    go_wp2_with fail
    refine HHAS.o.mono ?_
    rintro e w2 ⟨rfl, hb2, hw2⟩
    have HB2 := zq (HBS.o.trans hb2)
    have HW2 := zq hw2
    clear hb2 hw2
    go_wp2_with fail
    go_ret2
    refine ⟨HB2.o, ?_⟩
    rw [HE.o]
    exact ⟨rfl, b, by rw [HTV.o, ← HN.o]; exact HW2.o, rfl, by rw [← HN.o]; exact hil⟩
  · have hef : SynP.Qv [125] (L.drop a) = false := by simpa using he
    obtain ⟨rr, hrr⟩ : ∃ rr, SynP.Xg fin (x.ts.length + 2) ⟨x.ts, x.depth⟩ = some rr := by
      have hg := SynP.Vt fin (x.ts.length + 2) (s := ⟨x.ts, x.depth⟩) (Nat.le_refl _) (Nat.le_refl _)
      cases hL : SynP.Xg fin (x.ts.length + 2) ⟨x.ts, x.depth⟩ with
      | none => rw [hL] at hg; exact hg.elim
      | some r => exact ⟨r, rfl⟩
    have HRR : Hid (cpxR fin x = cpxO x rr) := by
      show _ = _
      unfold cpxR
      simp only [hrr]
      cases rr with
      | error e => rfl
      | ok p => rfl
    have hCA : RfP.Jc fin [] [] ⟨L.drop a, x.depth⟩ rr := by
      unfold SynP.Xg SynP.want at hrr
      rw [if_pos (show SynP.Qv [123] (⟨x.ts, x.depth⟩ : SynP.St).ts = true from hm)] at hrr
      simp only [SynP.Yj] at hrr
      rw [if_neg (show ¬ SynP.Qv [125] (SynP.St.adv ⟨x.ts, x.depth⟩).ts = true by
        show ¬ SynP.Qv [125] x.ts.tail = true
        rw [hxt, hef]; decide)] at hrr
      unfold RfP.Jc
      rw [if_pos rfl]
      refine ⟨x.ts.length + 2, ?_⟩
      rw [← hxt]
      exact hrr
    have HCA := zq hCA
    rw [hef] at HIS
    clear hst hstA hba h1 h2 hm hd htk hsz hn hxt he hef htr t1 t2 t3 hrr hCA
    go_enter Tryz.func86, Tryz.ntmps86
    go_wp2_with fail
    refine HIS.o.mono ?_
    rintro e w1 ⟨rfl, hb1⟩
    have hwk := HSTA.o.below hb1
    have HST : Hid (CxL fin x L rr w R (.slice (some ⟨g, 0, none⟩) n cap) nv vv sv (.slice (some ⟨w.heap.size, 0, none⟩) 1 1) (.bool true) w1) := by
      refine ⟨a, [], [], by simp, hwk, HCA.o, by rw [← HN.o]; omega, by simp [RfP.Xc, SynP.Q8], .inl ⟨rfl, rfl, rfl, ?_, ?_⟩⟩
      · exact (hb1.cell (p := ⟨w.heap.size, 0, none⟩) (by simp)).trans HMK.o
      · have := hb1.size
        simp at this
        omega
    clear hb1 hwk c0 c1 f1
    go_wp2_with fail
    go_loopw [4, 5] (fun sl fv wr => CxL fin x L rr w R (.slice (some ⟨g, 0, none⟩) n cap) nv vv sv sl fv wr) (fun _ _ wr => Qc L R wr)
    case atStart => exact HST.o
    case round =>
      obtain ⟨j, acc, cur, rfl, hwk, hca, hjl, hlen, hcase⟩ := hrel
      rw [← HN.o] at hjl
      have HWK := zq hwk
      have HCA2 := zq hca
      have HCASE := zq hcase
      have HLEN := zq hlen
      have hlf := hwk.left L
      have HLF := zq hlf
      have hRw := hwk.lt
      obtain ⟨c0, c1, f⟩ := hwk.cells
      have f1 := f 1
      have htk := hwk.tks hRl HTR.o
      have HKI := zq (Td R _ L j wr c0 htk (by omega))
      have hzw : w.heap.size ≤ wr.heap.size := hwk.1.size
      obtain ⟨b, hb⟩ : ∃ b, b = j + 1 := ⟨_, rfl⟩
      have hb1 : ((j : Nat) : Int) + 1 = ((b : Nat) : Int) := by omega
      have hb2 : IntKind.i64.wrap ((b : Nat) : Int) = ((b : Nat) : Int) := IntWalk.i64_in _ (by omega)
      have HBQ := zq hb
      clear hwk hca hcase hlen f hlf
      by_cases hk1 : SynP.Qy 1 (L.drop j) = true
      · have hk : (((tkKind L j : Nat) : Int) == 1) = true := by
          rw [Zy (by decide)] at hk1
          simp at hk1
          simp [hk1]
        obtain ⟨t, ht⟩ : ∃ t, L[j]? = some t := by
          cases h : L[j]? with
          | some t => exact ⟨t, rfl⟩
          | none => rw [Vr, h] at hk1; cases hk1
        have hjl2 : j < n := by
          have := (List.getElem?_eq_some_iff.1 ht).1
          rw [HN.o]; exact this
        have ht1 : t.1 = 1 := by
          rw [Vr, ht] at hk1
          simpa using hk1
        obtain ⟨w1a, w2a, w3a, w4a⟩ := HTK.o t (List.mem_of_getElem? ht) ht1
        have HDT := zq (fun w5 => HDEC t.2.1 w5 w1a w2a w3a w4a)
        obtain ⟨hdp, hdb⟩ := Kq w3a
        have hhd : SynP.Qm (L.drop j) = t.2.1 := by rw [M3 ht]; rfl
        obtain ⟨e2, hgl⟩ := R8 htk ht
        obtain ⟨TX, hTX⟩ : ∃ TX : ByteArray, TX = ⟨t.2.1.toArray⟩ := ⟨_, rfl⟩
        rw [← hTX] at e2 HDT
        obtain ⟨D, hD⟩ : ∃ D, D = SynP.decT (SynP.Xx t.2.1) := ⟨_, rfl⟩
        rw [← hD] at HDT hdp hdb
        obtain ⟨DB, hDB⟩ : ∃ DB : ByteArray, DB = ⟨D.toArray⟩ := ⟨_, rfl⟩
        rw [← hDB] at HDT
        have hDs0 : DB.size = D.length := by rw [hDB]; show D.toArray.size = _; simp
        have hDs := zq hDs0
        have hDp : 0 < DB.size := by omega
        have hDb : DB.size ≤ 1048576 := by omega
        have HDC : Hid (Lib.strCells DB = Qr D) := by show _ = _; rw [hDB, U6, Mj]
        have HNX : Hid (RfP.Jc fin acc (cur ++ [SynP.Xx t.2.1]) ⟨L.drop b, x.depth⟩ rr) := by
          have := RfP.Qpl HCA2.o hk1
          rw [hhd] at this
          have e : (SynP.St.adv ⟨L.drop j, x.depth⟩) = ⟨L.drop b, x.depth⟩ := by
            show (⟨(L.drop j).tail, x.depth⟩ : SynP.St) = _
            rw [List.tail_drop, HBQ.o]
          rw [e] at this
          exact this
        have HPN : Hid (RfP.Xc acc (cur ++ [SynP.Xx t.2.1]) = RfP.Xc acc cur ++ (sepC cur ++ D)) := by
          show _ = _
          rw [RfP.Qq4, hD, Qge]
        have hbn : b ≤ n := by omega
        clear hk1 ht ht1 w1a w2a w3a w4a hhd hTX hD hDB hDs0 hb
        go_wp2_with fail
        refine HKI.o.mono ?_
        rintro e wk ⟨rfl, hbk⟩
        have hwk := HWK.o.below hbk
        have HWK2 := zq hwk
        have e0 := hwk.cells.1
        have e1 := hwk.cells.2.1
        have hRl1 := hwk.lt
        have hzk : w.heap.size ≤ wk.heap.size := hwk.1.size
        have e2k : wk.cell? ⟨g, j * 3 + 1, none⟩ = some (.string TX) := (hbk.cell (p := ⟨g, j * 3 + 1, none⟩) (by show g < _; omega)).trans e2
        have hgl1 : g < wk.heap.size := by omega
        have HBK := zq hbk
        clear hwk hbk c0 c1 f1 e2 htk
        rcases HCASE.o with ⟨hac, hcu, hsl, hmk, hmz⟩ | ⟨hnn, hown⟩
        ·
          subst hac
          subst hcu
          subst hsl
          have hmkk : wk.cell? ⟨w.heap.size, 0, none⟩ = some (.int .u8 123) := (HBK.o.cell (p := ⟨w.heap.size, 0, none⟩) hmz).trans hmk
          have HMKK := zq hmkk
          have hmzk : w.heap.size < wk.heap.size := Nat.lt_of_lt_of_le hmz HBK.o.size
          clear hmk hmkk
          go_wp2_with fail
          go_region_held3 (fun w' => w'.cell? ⟨R, 0, none⟩ = some (.slice (some ⟨g, 0, none⟩) n cap) ∧ w'.cell? ⟨R, 1, none⟩ = some (.int .i64 (j : Nat)) ∧ w'.cell? ⟨g, j * 3 + 1, none⟩ = some (.string TX))
            (first
              | go_keep
              | exact ⟨(hb5.cell (p := ⟨R, 0, none⟩) hRl1).trans e0, (hb5.cell (p := ⟨R, 1, none⟩) hRl1).trans e1, (hb5.cell (p := ⟨g, j * 3 + 1, none⟩) hgl1).trans e2k⟩
              | (go_split_ands
                 refine ⟨?_, ?_, ?_⟩
                 · (rw [hgrow.cell_far _ (by have := hb5.size; simp at this ⊢; omega) (by simp)]; assumption)
                 · (rw [hgrow.cell_far _ (by have := hb5.size; simp at this ⊢; omega) (by simp)]; assumption)
                 · (rw [hgrow.cell_far _ (by have := hb5.size; simp at this ⊢; omega) (by simp)]; assumption)))
            ((first
                | (go_at_call 149; refine (HDT.o _).mono ?_; rintro e w5 ⟨rfl, hb5⟩)
                | (refine Nm (by rfl) _ _ 88 9 (by rfl) w.heap.size 5 i0 Tryz.underlying88 Tryz.underlying9 hi hz0 hz1 hz2 w.heap.size (by rfl) _ (by exact (hb5.cell (p := ⟨w.heap.size, 0, none⟩) hmzk).trans HMKK.o) DB (by rfl) (by omega) (by omega) (by have := hb5.size; simp at this ⊢; omega) ?_; intro v6 w6 hown6 hgrow)))
          have hb5' : Below wk.heap.size wk w5 := (below_drewN wk 1).trans hb5
          have hwk6 := (HWK2.o.below hb5').grown hRl hgrow (fun q hq => by cases hq)
          have HO6 : Hid (OwnB w.heap.size w6 v6 (RfP.Xc [] ([] ++ [SynP.Xx t.2.1]))) := by
            show World.ownsRow _ _ _ _ _ _ _
            rw [HPN.o]
            have e : sepC [] ++ D = D := rfl
            rw [e]
            have e2 : (RfP.Xc [] [] ++ D).length = 1 + DB.size := by rw [List.length_append, hDs.o]; rfl
            rw [e2]
            have e3 : Qr (RfP.Xc [] [] ++ D) = .int .u8 123 :: Qr D := rfl
            rw [e3, ← HDC.o]
            exact hown6
          have hlen6 : (RfP.Xc [] ([] ++ [SynP.Xx t.2.1])).length ≤ 1 + b * 1048580 := by
            rw [HPN.o, List.length_append, List.length_append]
            have h1 := HLEN.o
            have h2 := hDs.o
            have h3 := HBQ.o
            have h4 := Kf []
            omega
          obtain ⟨-, c1, f⟩ := hwk6.cells
          have f1 := f 1
          have HFIN : Hid (CxL fin x L rr w R (.slice (some ⟨g, 0, none⟩) n cap) nv vv sv v6 (.bool false) (w6.setCell ⟨R, 1, none⟩ (.int .i64 (b : Nat))) ∧ Qc L R (w6.setCell ⟨R, 1, none⟩ (.int .i64 (b : Nat))) < Qc L R wr) := by
            have hs := hwk6.set b
            refine ⟨⟨b, [], [] ++ [SynP.Xx t.2.1], by simp, hs, HNX.o, by rw [← HN.o]; exact hbn, hlen6, .inr ⟨by simp, HO6.o.setR hRl _⟩⟩, ?_⟩
            rw [hs.left L, HLF.o, ← HN.o]
            have := HBQ.o
            omega
          clear hb5 hb5' hwk6 hlen6 f hown6 hgrow e0 e1 e2k
          go_wp2_with fail
          exact HFIN.o
        ·
          obtain ⟨m, hm⟩ : ∃ m, m = (RfP.Xc acc cur).length := ⟨_, rfl⟩
          have hmb : m ≤ 1 + j * 1048580 := by rw [hm]; exact HLEN.o
          have HM := zq hm
          have hownk : wk.ownsRow w.heap.size 5 1 u4 m (Qr (RfP.Xc acc cur)) := by
            rw [hm]
            exact Qh hown HBK.o (Nat.le_refl _)
          clear hm
          by_cases hcu : cur = []
          · have HNBR : Hid (some R ≠ u4.ownBlock) := fun e => by
              have := (World.ownsRow.lt hownk R e.symm).1
              omega
            have HNBG : Hid (some g ≠ u4.ownBlock) := fun e => by
              have := (World.ownsRow.lt hownk g e.symm).1
              omega
            have HOWN := zq hownk
            obtain ⟨bo, bcap, hue, -⟩ := Qj hownk
            subst hue
            subst hcu
            clear hown hownk
            go_wp2_with fail
            go_region_held3 (fun w' => w'.cell? ⟨R, 0, none⟩ = some (.slice (some ⟨g, 0, none⟩) n cap) ∧ w'.cell? ⟨R, 1, none⟩ = some (.int .i64 (j : Nat)) ∧ w'.cell? ⟨g, j * 3 + 1, none⟩ = some (.string TX))
              (first
                | go_keep
                | exact ⟨(hb5.cell (p := ⟨R, 0, none⟩) hRl1).trans e0, (hb5.cell (p := ⟨R, 1, none⟩) hRl1).trans e1, (hb5.cell (p := ⟨g, j * 3 + 1, none⟩) hgl1).trans e2k⟩
                | (go_split_ands
                   refine ⟨?_, ?_, ?_⟩
                   · (rw [hgrow.cell_far _ (by have := hb5.size; simp at this ⊢; omega) (by first | exact HNBR.o | exact HNBG.o)]; assumption)
                   · (rw [hgrow.cell_far _ (by have := hb5.size; simp at this ⊢; omega) (by first | exact HNBR.o | exact HNBG.o)]; assumption)
                   · (rw [hgrow.cell_far _ (by have := hb5.size; simp at this ⊢; omega) (by first | exact HNBR.o | exact HNBG.o)]; assumption)))
              ((first
                  | (go_at_call 149; refine (HDT.o _).mono ?_; rintro e w5 ⟨rfl, hb5⟩)
                  | (refine Tl (by rfl) _ _ 88 9 (by rfl) w.heap.size 5 i0 Tryz.underlying88 Tryz.underlying9 hi hz0 hz1 hz2 _ _ _ (by rfl) (by exact Qh HOWN.o ((below_drewN wk 1).trans hb5) (Nat.le_refl _)) DB (by rfl) (by omega) (by have := hb5.size; simp at this ⊢; omega) ?_; intro v6 w6 hown6 hgrow hat6)))
            have hb5' : Below wk.heap.size wk w5 := (below_drewN wk 1).trans hb5
            have hwk6 := (HWK2.o.below hb5').grown hRl hgrow (fun q hq => (World.ownsRow.lt HOWN.o q hq).1)
            have HO6 : Hid (OwnB w.heap.size w6 v6 (RfP.Xc acc ([] ++ [SynP.Xx t.2.1]))) := by
              show World.ownsRow _ _ _ _ _ _ _
              rw [HPN.o]
              have e : sepC [] ++ D = D := rfl
              rw [e]
              have e2 : (RfP.Xc acc [] ++ D).length = m + DB.size := by rw [List.length_append, hDs.o, ← HM.o]
              rw [e2, Q5, ← HDC.o]
              exact hown6
            have hlen6 : (RfP.Xc acc ([] ++ [SynP.Xx t.2.1])).length ≤ 1 + b * 1048580 := by
              rw [HPN.o, List.length_append, List.length_append]
              have h1 := HLEN.o
              have h2 := hDs.o
              have h3 := HBQ.o
              have h4 := Kf []
              omega
            obtain ⟨-, c1, f⟩ := hwk6.cells
            have f1 := f 1
            have HFIN : Hid (CxL fin x L rr w R (.slice (some ⟨g, 0, none⟩) n cap) nv vv sv v6 (.bool false) (w6.setCell ⟨R, 1, none⟩ (.int .i64 (b : Nat))) ∧ Qc L R (w6.setCell ⟨R, 1, none⟩ (.int .i64 (b : Nat))) < Qc L R wr) := by
              have hs := hwk6.set b
              refine ⟨⟨b, acc, [] ++ [SynP.Xx t.2.1], by simp, hs, HNX.o, by rw [← HN.o]; exact hbn, hlen6, .inr ⟨by simp, HO6.o.setR hRl _⟩⟩, ?_⟩
              rw [hs.left L, HLF.o, ← HN.o]
              have := HBQ.o
              omega
            clear hb5 hb5' hwk6 hlen6 f hown6 hgrow e0 e1 e2k
            go_wp2_with fail
            exact HFIN.o
          · have hfc : decide (cur = []) = false := decide_eq_false hcu
            rw [hfc]
            have HOWNK := zq hownk
            clear hown hownk
            go_wp2_with (at_builtin; refine wpList_append_own_at _ rfl _ _ 88 rfl w.heap.size 5 i0 (.int .u8 0) 1 1 Tryz.underlying88 hi hz0 hz1 hz2 rfl (by decide) _ _ _ rfl (World.ownsRow.alloc HOWNK.o _) ⟨wk.heap.size, 0, none⟩ 1 1 [.int .u8 32] rfl rfl (LexP.Qb _ _ _ _ rfl) (by simp [Value.oneCell']) (by unfold maxLen; omega) (by omega) (by simp; omega) ?_)
            intro v3 w3 hown3 hgrow3 _ hat3
            have hba3 := Qq wk (.cells #[.int .u8 32] 5)
            have hwk3 := (HWK2.o.below hba3).grown hRl hgrow3 (fun q hq => (World.ownsRow.lt HOWNK.o q hq).1)
            have HWK3 := zq hwk3
            have e0' := hwk3.cells.1
            have e1' := hwk3.cells.2.1
            have hRl3 := hwk3.lt
            have hz3 : w.heap.size ≤ w3.heap.size := hwk3.1.size
            have e2k' : w3.cell? ⟨g, j * 3 + 1, none⟩ = some (.string TX) := by
              have h9 := (hwk3.belowR hRl).cell (p := ⟨g, j * 3 + 1, none⟩) (by show g < R; exact hgR)
              have h8 := (HWK2.o.belowR hRl).cell (p := ⟨g, j * 3 + 1, none⟩) (by show g < R; exact hgR)
              exact h9.trans (h8.symm.trans e2k)
            have HOWN : Hid (w3.ownsRow w.heap.size 5 1 v3 (m + 1) (Qr (RfP.Xc acc cur ++ [32]))) := by
              show World.ownsRow _ _ _ _ _ _ _
              rw [Q5]
              exact hown3
            have HNBR : Hid (some R ≠ v3.ownBlock) := fun e => by
              have := (World.ownsRow.lt HOWN.o R e.symm).1
              omega
            have HNBG : Hid (some g ≠ v3.ownBlock) := fun e => by
              have := (World.ownsRow.lt HOWN.o g e.symm).1
              omega
            obtain ⟨bo, bcap, hue, -⟩ := Qj HOWN.o
            subst hue
            clear e0 e1 e2k hRl1 hgl1 hzk hown3 hgrow3 hat3 hba3 hwk3
            have e0 := e0'
            have e1 := e1'
            have e2k := e2k'
            have hRl1 := hRl3
            have hgl1 : g < w3.heap.size := by omega
            clear e0' e1' e2k' hRl3
            go_wp2_with fail
            go_region_held3 (fun w' => w'.cell? ⟨R, 0, none⟩ = some (.slice (some ⟨g, 0, none⟩) n cap) ∧ w'.cell? ⟨R, 1, none⟩ = some (.int .i64 (j : Nat)) ∧ w'.cell? ⟨g, j * 3 + 1, none⟩ = some (.string TX))
              (first
                | go_keep
                | exact ⟨(hb5.cell (p := ⟨R, 0, none⟩) hRl1).trans e0, (hb5.cell (p := ⟨R, 1, none⟩) hRl1).trans e1, (hb5.cell (p := ⟨g, j * 3 + 1, none⟩) hgl1).trans e2k⟩
                | (go_split_ands
                   refine ⟨?_, ?_, ?_⟩
                   · (rw [hgrow.cell_far _ (by have := hb5.size; simp at this ⊢; omega) (by first | exact HNBR.o | exact HNBG.o)]; assumption)
                   · (rw [hgrow.cell_far _ (by have := hb5.size; simp at this ⊢; omega) (by first | exact HNBR.o | exact HNBG.o)]; assumption)
                   · (rw [hgrow.cell_far _ (by have := hb5.size; simp at this ⊢; omega) (by first | exact HNBR.o | exact HNBG.o)]; assumption)))
              ((first
                  | (go_at_call 149; refine (HDT.o _).mono ?_; rintro e w5 ⟨rfl, hb5⟩)
                  | (refine Tl (by rfl) _ _ 88 9 (by rfl) w.heap.size 5 i0 Tryz.underlying88 Tryz.underlying9 hi hz0 hz1 hz2 _ _ _ (by rfl) (by exact Qh HOWN.o ((below_drewN w3 1).trans hb5) (Nat.le_refl _)) DB (by rfl) (by omega) (by have := hb5.size; simp at this ⊢; omega) ?_; intro v6 w6 hown6 hgrow hat6)))
            have hb5' : Below w3.heap.size w3 w5 := (below_drewN w3 1).trans hb5
            have hwk6 := (HWK3.o.below hb5').grown hRl hgrow (fun q hq => (World.ownsRow.lt HOWN.o q hq).1)
            have HO6 : Hid (OwnB w.heap.size w6 v6 (RfP.Xc acc (cur ++ [SynP.Xx t.2.1]))) := by
              show World.ownsRow _ _ _ _ _ _ _
              rw [HPN.o]
              rw [Qpb hcu, ← List.append_assoc]
              have e2 : (RfP.Xc acc cur ++ [32] ++ D).length = m + 1 + DB.size := by rw [List.length_append, List.length_append, hDs.o, ← HM.o]; rfl
              rw [e2, Q5 _ D, ← HDC.o]
              exact hown6
            have hlen6 : (RfP.Xc acc (cur ++ [SynP.Xx t.2.1])).length ≤ 1 + b * 1048580 := by
              rw [HPN.o, List.length_append, List.length_append]
              have h1 := HLEN.o
              have h2 := hDs.o
              have h3 := HBQ.o
              have h4 := Kf cur
              omega
            obtain ⟨-, c1, f⟩ := hwk6.cells
            have f1 := f 1
            have HFIN : Hid (CxL fin x L rr w R (.slice (some ⟨g, 0, none⟩) n cap) nv vv sv v6 (.bool false) (w6.setCell ⟨R, 1, none⟩ (.int .i64 (b : Nat))) ∧ Qc L R (w6.setCell ⟨R, 1, none⟩ (.int .i64 (b : Nat))) < Qc L R wr) := by
              have hs := hwk6.set b
              refine ⟨⟨b, acc, cur ++ [SynP.Xx t.2.1], by simp, hs, HNX.o, by rw [← HN.o]; exact hbn, hlen6, .inr ⟨by simp, HO6.o.setR hRl _⟩⟩, ?_⟩
              rw [hs.left L, HLF.o, ← HN.o]
              have := HBQ.o
              omega
            clear hb5 hb5' hwk6 hlen6 f hown6 hgrow e0 e1 e2k
            go_wp2_with fail
            exact HFIN.o
      · have hk1f : SynP.Qy 1 (L.drop j) = false := by simpa using hk1
        have hk : (((tkKind L j : Nat) : Int) == 1) = false := by
          rw [Zy (by decide)] at hk1f
          simp at hk1f
          simp
          omega
        have hadv : (SynP.St.adv ⟨L.drop j, x.depth⟩) = ⟨L.drop b, x.depth⟩ := by
          show (⟨(L.drop j).tail, x.depth⟩ : SynP.St) = _
          rw [List.tail_drop, HBQ.o]
        have HADV := zq hadv
        have hmj : ∀ y, SynP.Qv y (L.drop j) = true → b ≤ n := by
          intro y hy
          have := RfP.Qs hy
          have h3 : ¬ L.length ≤ j := fun h => this (List.drop_eq_nil_of_le h)
          rw [← HN.o] at h3
          have := HBQ.o
          omega
        have HMJ := zq hmj
        clear hk1 hadv hmj hb
        by_cases hcu : cur = []
        · subst hcu
          have hre := RfP.Qg0 HCA2.o hk1f
          have HE : Hid (cpxR fin x = .error (SynP.Q7 fin (L.drop j), 14)) := by show _ = _; rw [HRR.o, hre]; rfl
          clear hre hk1f htk
          go_wp2_with fail
          refine HKI.o.mono ?_
          rintro e wk ⟨rfl, hbk⟩
          have hwk := HWK.o.below hbk
          have e1 := hwk.cells.2.1
          have HBR : Hid (Below R w wk) := hwk.belowR hRl
          clear hwk hbk c0 c1 f1
          go_wp2_with fail
          go_ret2
          refine ⟨HBR.o, ?_⟩
          rw [HE.o]
          exact ⟨j, rfl, rfl, by decide⟩
        · have hown : OwnB w.heap.size wr u4 (RfP.Xc acc cur) := by
            rcases HCASE.o with ⟨-, hcu2, -⟩ | ⟨-, ho⟩
            · exact absurd hcu2 hcu
            · exact ho
          have hfc : decide (cur = []) = false := decide_eq_false hcu
          rw [hfc]
          obtain ⟨m, hm⟩ : ∃ m, m = (RfP.Xc acc cur).length := ⟨_, rfl⟩
          have hmb : m ≤ 1 + j * 1048580 := by rw [hm]; exact HLEN.o
          have HM := zq hm
          have HCU := zq hcu
          have HK1F := zq hk1f
          have HOWN := zq hown
          clear hm hown hcu hk1f htk hfc
          go_wp2_with fail
          refine HKI.o.mono ?_
          rintro e wk ⟨rfl, hbk⟩
          have hwk := HWK.o.below hbk
          have HWK2 := zq hwk
          have e1 := hwk.cells.2.1
          have HI1 := zq (Rj R _ L j [44] wk hwk.cells.1 (hwk.tks hRl HTR.o) (by omega))
          have HOWNk : Hid (wk.ownsRow w.heap.size 5 1 u4 m (Qr (RfP.Xc acc cur))) := by
            show World.ownsRow _ _ _ _ _ _ _
            rw [HM.o]
            exact Qh HOWN.o hbk (Nat.le_refl _)
          clear hwk hbk c0 c1 f1
          by_cases h44 : SynP.Qv [44] (L.drop j) = true
          · have hbn := HMJ.o _ h44
            have HNX : Hid (RfP.Jc fin (acc ++ [cur]) [] ⟨L.drop b, x.depth⟩ rr) := by
              have := RfP.Qyc HCA2.o HK1F.o HCU.o h44
              rw [HADV.o] at this
              exact this
            rw [h44] at HI1
            clear h44
            go_wp2_with fail
            refine HI1.o.mono ?_
            rintro e wm ⟨rfl, hbm⟩
            have hwm := HWK2.o.below hbm
            have HWM := zq hwm
            have hzm : w.heap.size ≤ wm.heap.size := hwm.1.size
            have HOm : Hid (wm.ownsRow w.heap.size 5 1 u4 m (Qr (RfP.Xc acc cur))) := Qh HOWNk.o hbm (Nat.le_refl _)
            clear hwm hbm e1
            go_wp2_with (at_builtin; refine wpList_append_own_at _ rfl _ _ 88 rfl w.heap.size 5 i0 (.int .u8 0) 1 1 Tryz.underlying88 hi hz0 hz1 hz2 rfl (by decide) _ _ _ rfl (World.ownsRow.alloc HOm.o _) ⟨wm.heap.size, 0, none⟩ 2 2 [.int .u8 44, .int .u8 32] rfl rfl (LexP.Qb _ _ _ _ rfl) (by simp [Value.oneCell']) (by unfold maxLen; omega) (by omega) (by simp; omega) ?_)
            intro v3 w3 hown3 hgrow3 _ hat3
            have hba3 := Qq wm (.cells #[.int .u8 44, .int .u8 32] 5)
            have hwk3 := (HWM.o.below hba3).grown hRl hgrow3 (fun q hq => (World.ownsRow.lt HOm.o q hq).1)
            have HO3 : Hid (OwnB w.heap.size w3 v3 (RfP.Xc (acc ++ [cur]) [])) := by
              show World.ownsRow _ _ _ _ _ _ _
              rw [RfP.N5]
              have e2 : (RfP.Xc acc cur ++ [44, 32]).length = m + 2 := by rw [List.length_append, ← HM.o]; rfl
              rw [e2, Q5]
              exact hown3
            have hlen3 : (RfP.Xc (acc ++ [cur]) []).length ≤ 1 + b * 1048580 := by
              rw [RfP.N5, List.length_append, ← HM.o]
              have := HBQ.o
              simp only [List.length_cons, List.length_nil]
              omega
            obtain ⟨-, c1, f⟩ := hwk3.cells
            have f1 := f 1
            have HFIN : Hid (CxL fin x L rr w R (.slice (some ⟨g, 0, none⟩) n cap) nv vv sv v3 (.bool true) (w3.setCell ⟨R, 1, none⟩ (.int .i64 (b : Nat))) ∧ Qc L R (w3.setCell ⟨R, 1, none⟩ (.int .i64 (b : Nat))) < Qc L R wr) := by
              have hs := hwk3.set b
              refine ⟨⟨b, acc ++ [cur], [], by simp, hs, HNX.o, by rw [← HN.o]; exact hbn, hlen3, .inr ⟨by simp, HO3.o.setR hRl _⟩⟩, ?_⟩
              rw [hs.left L, HLF.o, ← HN.o]
              have := HBQ.o
              omega
            clear hwk3 hlen3 f hown3 hgrow3 hat3 hba3
            go_wp2_with fail
            exact HFIN.o
          · have h44f : SynP.Qv [44] (L.drop j) = false := by simpa using h44
            rw [h44f] at HI1
            go_wp2_with fail
            refine HI1.o.mono ?_
            rintro e wm ⟨rfl, hbm⟩
            have hwm := HWK2.o.below hbm
            have HWM := zq hwm
            have e1m := hwm.cells.2.1
            have HI2 := zq (Rj R _ L j [125] wm hwm.cells.1 (hwm.tks hRl HTR.o) (by omega))
            have HOm : Hid (wm.ownsRow w.heap.size 5 1 u4 m (Qr (RfP.Xc acc cur))) := Qh HOWNk.o hbm (Nat.le_refl _)
            clear hwm hbm e1 h44
            by_cases h125 : SynP.Qv [125] (L.drop j) = true
            · have hbn := HMJ.o _ h125
              have hre := RfP.Qpe HCA2.o HK1F.o HCU.o h125
              have HE : Hid (cpxR fin x = .ok { x with ts := L.drop b, vals := .cpx (acc ++ [cur]) :: x.vals, want := false, pw := false }) := by
                show _ = _
                rw [HRR.o, hre, HADV.o]; rfl
              rw [h125] at HI2
              clear h125 h44f hre
              go_wp2_with fail
              refine HI2.o.mono ?_
              rintro e wq ⟨rfl, hbq⟩
              have hwq := HWM.o.below hbq
              obtain ⟨-, c1, f⟩ := hwq.cells
              have f1 := f 1
              have hws := hwq.set b
              have HWS := zq hws
              have hzq : w.heap.size ≤ wq.heap.size := hwq.1.size
              have HOq : Hid ((wq.setCell ⟨R, 1, none⟩ (.int .i64 (b : Nat))).ownsRow w.heap.size 5 1 u4 m (Qr (RfP.Xc acc cur))) := by
                refine Sm (Qh HOm.o hbq (Nat.le_refl _)) (Nat.le_refl _) fun q hq => ?_
                exact heap_setCell_other wq ⟨R, 1, none⟩ q _ (by have := (World.ownsRow.lt HOm.o q hq).1; show q ≠ R; omega)
              have hzW : w.heap.size ≤ (wq.setCell ⟨R, 1, none⟩ (.int .i64 (b : Nat))).heap.size := hws.1.size
              have HNEW : Hid (((wq.setCell ⟨R, 1, none⟩ (.int .i64 (b : Nat))).alloc (.cells #[.int .u8 125] 5)).heap[wq.heap.size]? = some (.cells #[.int .u8 125] 5 (0, 0))) := by
                have h9 := heap_alloc_new (wq.setCell ⟨R, 1, none⟩ (.int .i64 (b : Nat))) (.cells #[.int .u8 125] 5)
                have h8 : (wq.setCell ⟨R, 1, none⟩ (.int .i64 (b : Nat))).heap.size = wq.heap.size := by simp [World.setCell]
                rw [h8] at h9
                exact h9
              clear hwq hbq f hws e1m
              go_wp2_with (at_builtin; refine wpList_append_own_at _ rfl _ _ 88 rfl w.heap.size 5 i0 (.int .u8 0) 1 1 Tryz.underlying88 hi hz0 hz1 hz2 rfl (by decide) _ _ _ rfl (World.ownsRow.alloc HOq.o _) ⟨wq.heap.size, 0, none⟩ 1 1 [.int .u8 125] rfl rfl (World.news_of_block (cs := #[.int .u8 125]) (t := 5) (fr := (0, 0)) HNEW.o) (by simp [Value.oneCell']) (by unfold maxLen; omega) (by omega) (by simp [World.setCell]; omega) ?_)
              intro v3 w3 hown3 hgrow3 _ hat3
              have hba3 := Qq (wq.setCell ⟨R, 1, none⟩ (.int .i64 (b : Nat))) (.cells #[.int .u8 125] 5)
              have hwk3 := (HWS.o.below hba3).grown hRl hgrow3 (fun q hq => (World.ownsRow.lt HOq.o q hq).1)
              have ho3 : OwnB w.heap.size w3 v3 (SynP.cpxT (acc ++ [cur])) := by
                show World.ownsRow _ _ _ _ _ _ _
                rw [RfP.Qqu]
                have e2 : (RfP.Xc acc cur ++ [125]).length = m + 1 := by rw [List.length_append, ← HM.o]; rfl
                rw [e2, Q5]
                exact hown3
              have hcv := Vw ho3
              have HHAS : Hid (Calls Tryz.prog 148 #[.pointer (some ⟨R, 0, none⟩), .int .i64 13, .string ⟨(SynP.cpxT (acc ++ [cur])).toArray⟩] w3 fun e' w' => e' = .returned (.tuple #[]) ∧ Below R w3 w' ∧ WRi w' R (.slice (some ⟨g, 0, none⟩) n cap) L b { x with ts := L.drop b, vals := .cpx (acc ++ [cur]) :: x.vals, want := false, pw := false }) :=
                P6 R _ L b x _ (hwk3.wri HM1V.o HM2.o) (Qyn (acc ++ [cur])) HSZ.o (by decide) (L.drop b)
              have HB3 : Hid (Below R w w3) := hwk3.belowR hRl
              clear hown3 hgrow3 hat3 hba3 hwk3 ho3
              go_wp2_with fail
              refine HHAS.o.mono ?_
              rintro e w4 ⟨rfl, hb4, hw4⟩
              have HB4 := zq (HB3.o.trans hb4)
              have HW4 := zq hw4
              clear hb4 hw4
              go_wp2_with fail
              go_ret2
              refine ⟨HB4.o, ?_⟩
              rw [HE.o]
              exact ⟨rfl, b, by rw [HTV.o, ← HN.o]; exact HW4.o, rfl, by rw [← HN.o]; exact hbn⟩
            · have h125f : SynP.Qv [125] (L.drop j) = false := by simpa using h125
              have hre := RfP.Qw2 HCA2.o HK1F.o HCU.o h125f h44f
              have HE : Hid (cpxR fin x = .error (SynP.Q7 fin (L.drop j), 14)) := by show _ = _; rw [HRR.o, hre]; rfl
              rw [h125f] at HI2
              clear hre h125 h125f h44f
              go_wp2_with fail
              refine HI2.o.mono ?_
              rintro e wq ⟨rfl, hbq⟩
              have hwq := HWM.o.below hbq
              have e1q := hwq.cells.2.1
              have HBR : Hid (Below R w wq) := hwq.belowR hRl
              clear hwq hbq e1m
              go_wp2_with fail
              go_ret2
              refine ⟨HBR.o, ?_⟩
              rw [HE.o]
              exact ⟨j, rfl, rfl, by decide⟩
end Go.Proofs.YtgfmiladfeoldaaGreatDoor
