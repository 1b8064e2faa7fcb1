/- Joined texts of this claim's proof: RdA, Num12, Num13. -/
import Derived.Test.YtgfmiladfeoldaaGreatDoorPl20
import Derived.Test.YtgfmiladfeoldaaGreatDoorPl15
import Derived.Test.YtgfmiladfeoldaaGreatDoorPl18
import Derived.Test.YtgfmiladfeoldaaGreatDoorPl2
import Derived.Maps.AppendAt
import Derived.Lib.OthersKept
import Derived.Test.YtgfmiladfeoldaaGreatDoorPl17
set_option linter.unusedSimpArgs false
set_option linter.unusedVariables false
namespace Go.Proofs.YtgfmiladfeoldaaGreatDoor
open Go.RowKit NatP LexP
def comesP (i kind : Nat) (x : Bytes) (ts : List Tok) : Bool := match ts.drop i with | (k, t, _) :: _ => k == kind && (kind != 3 || t == x) | [] => false
theorem comes_mark (x : Bytes) (ts : List Tok) : comesP 0 3 x ts = SynP.isMark x ts := by
 cases ts with
 | nil => rfl
 | cons t l => obtain ⟨k, t, c⟩ := t; simp [comesP, SynP.isMark]
theorem comes_mark1 (x : Bytes) (ts : List Tok) : comesP 1 3 x ts = SynP.isMark x ts.tail := by
 cases ts with
 | nil => rfl
 | cons t l => rw [← comes_mark]; rfl
theorem comes_kind (k : Nat) (x : Bytes) (ts : List Tok) (hk : k ≠ 3) : comesP 0 k x ts = SynP.isKind k ts := by
 cases ts with
 | nil => rfl
 | cons t l => obtain ⟨j, t, c⟩ := t; simp [comesP, SynP.isKind, hk]
theorem Below.drew2 {B : Nat} {w w' : World} (h : Below B w w') : Below B w w'.drew.drew := ⟨h.os, h.tape, h.output, h.size, h.block⟩
set_option maxRecDepth 100000 in
set_option maxHeartbeats 2000000 in
theorem rd_comes (R : Nat) (lv : Value) (L : List Tok) (fin a : Nat) (s : SynP.St) (nv : Value) (ns : List Nv) (w : World) (h : RS w R lv L fin a s nv ns) (i kind : Nat) (x : Bytes) (hi : i ≤ 1) (hk : kind ≤ 3) :
    Calls Tryz.prog 94 #[.pointer (some ⟨R, 0, none⟩), .int .i64 (i : Nat), .int .i64 (kind : Nat), .string ⟨x.toArray⟩] w fun e w' => e = .returned (.bool (comesP i kind x s.ts)) ∧ Below w.heap.size w w' := by
  have H := Lib.hid h
  obtain ⟨c0, c1, -, -, -⟩ := h.cells
  obtain ⟨ao, cap, rfl, t1, t2, t3⟩ := h.tks
  have hle := h.le
  have hsh := h.short
  by_cases hn : a + i < L.length
  · obtain ⟨g, rfl, hg, hc⟩ := t3 (by omega)
    obtain ⟨t, ht⟩ : ∃ t, L[a + i]? = some t := ⟨_, List.getElem?_eq_getElem hn⟩
    obtain ⟨d0, d1, d2⟩ := hc (a + i) t ht
    obtain ⟨tk, tt, tc⟩ := t
    have HC : Hid (comesP i kind x s.ts = (tk == kind && (kind != 3 || tt == x))) := by
      show _ = _
      unfold comesP
      rw [← h.drop, List.drop_drop, List.drop_eq_getElem?_toList_append, ht]; rfl
    have hRl := h.lt
    have hgl : g < w.heap.size := by omega
    obtain ⟨m, hm⟩ : ∃ m, m = a + i := ⟨_, rfl⟩
    have E1 : IntKind.i64.wrap ((a : Int) + (i : Int)) = (m : Int) := by rw [hm]; exact (IntWalk.i64_in _ (by omega)).trans (by omega)
    have E2 : (a : Int) + (i : Int) = (m : Int) := by omega
    rw [← hm] at d0 d1 d2 hn
    have HMM := Lib.hid hm
    clear h hc t3 ht hm
    go_enter Tryz.func94, Tryz.ntmps94
    go_wp2_with fail
    go_region
    go_wp2_with fail
    go_region
    go_wp2_with fail
    all_goals
      go_ret
      refine ⟨?_, Below.drew2 (below_alloc _ _)⟩
      rw [HC.out]
      show Ending.returned (Value.bool _) = Ending.returned (Value.bool _)
      congr 2
      first
        | (have q1 : tk = kind := by omega
           have q2 : kind = 3 := by omega
           subst q1; subst q2; simp)
        | (have q1 : tk = kind := by omega
           have q2 : kind ≠ 3 := by omega
           subst q1; simp [q2])
        | (have q1 : tk ≠ kind := by omega
           simp [q1])
  · have HC : Hid (comesP i kind x s.ts = false) := by
      show _ = _
      unfold comesP
      rw [← h.drop, List.drop_drop, List.drop_eq_nil_of_le (by omega)]
    have hRl := h.lt
    obtain ⟨m, hm⟩ : ∃ m, m = a + i := ⟨_, rfl⟩
    have E1 : IntKind.i64.wrap ((a : Int) + (i : Int)) = (m : Int) := by rw [hm]; exact (IntWalk.i64_in _ (by omega)).trans (by omega)
    have E2 : (a : Int) + (i : Int) = (m : Int) := by omega
    rw [← hm] at hn
    have HMM := Lib.hid hm
    clear h t3 hm
    go_enter Tryz.func94, Tryz.ntmps94
    go_wp2_with fail
    go_region
    go_wp2_with fail
    go_ret
    exact ⟨by rw [HC.out]; rfl, ⟨rfl, rfl, rfl, Nat.le_refl _, fun _ _ => rfl⟩⟩
set_option maxRecDepth 100000 in
theorem rd_mark (R : Nat) (lv : Value) (L : List Tok) (fin a : Nat) (s : SynP.St) (nv : Value) (ns : List Nv) (w : World) (h : RS w R lv L fin a s nv ns) (x : Bytes) :
  Calls Tryz.prog 168 #[.pointer (some ⟨R, 0, none⟩), .string ⟨x.toArray⟩] w fun e w' => e = .returned (.bool (SynP.isMark x s.ts)) ∧ Below w.heap.size w w' := by
 have H := Lib.hid h
 clear h
 go_enter Tryz.func168, Tryz.ntmps168
 go_wp2_with fail
 refine (rd_comes R lv L fin a s nv ns _ H.out 0 3 x (by omega) (by omega)).mono ?_
 rintro e w1 ⟨rfl, hb⟩
 rw [comes_mark]
 have HB := Lib.hid hb
 clear hb
 go_wp2_with fail
 go_ret
 exact ⟨rfl, HB.out⟩
def TakeP (R : Nat) (lv : Value) (L : List Tok) (fin a : Nat) (s : SynP.St) (nv : Value) (ns : List Nv) (x : Bytes) (w : World) (e : Ending) (w' : World) : Prop :=
 e = .returned (.bool (SynP.isMark x s.ts)) ∧ Wr R none w w' ∧ (if SynP.isMark x s.ts then RS w' R lv L fin (a + 1) s.adv nv ns else RS w' R lv L fin a s nv ns)
theorem drop_succ {L ts : List Tok} {a : Nat} (h : L.drop a = ts) (h0 : ts ≠ []) : L.drop (a + 1) = ts.tail ∧ a + 1 ≤ L.length ∧ ts.tail.length + 1 = ts.length := by
 subst h
 refine ⟨by rw [List.tail_drop], ?_, ?_⟩
 ·rcases Nat.lt_or_ge a L.length with h | h
  ·exact h
  ·exact absurd (List.drop_eq_nil_of_le h) h0
 ·rw [List.length_tail]
  have := List.length_pos_iff.2 h0
  omega
theorem isMark_ne {x : Bytes} {ts : List Tok} (h : SynP.isMark x ts = true) : ts ≠ [] := fun e => by subst e; cases h
theorem isKind_ne {k : Nat} {ts : List Tok} (h : SynP.isKind k ts = true) : ts ≠ [] := fun e => by subst e; cases h
theorem RS.adv {w : World} {R : Nat} {lv : Value} {L : List Tok} {fin a : Nat} {s : SynP.St} {nv : Value} {ns : List Nv} (h : RS w R lv L fin a s nv ns) (h0 : s.ts ≠ []) :
  RS (w.setCell ⟨R, 1, none⟩ (.int .i64 ((a + 1 : Nat) : Int))) R lv L fin (a + 1) s.adv nv ns ∧ Wr R none w (w.setCell ⟨R, 1, none⟩ (.int .i64 ((a + 1 : Nat) : Int))) := by
 obtain ⟨q1, q2, q3⟩ := drop_succ h.drop h0
 exact h.setN 1 _ (a + 1) s.adv (by simp [SynP.St.adv]) q1 q2 (by have := h.few; show ns.length + s.ts.tail.length ≤ _; omega) h.deep
set_option maxRecDepth 100000 in
theorem rd_take (R : Nat) (lv : Value) (L : List Tok) (fin a : Nat) (s : SynP.St) (nv : Value) (ns : List Nv) (w : World) (h : RS w R lv L fin a s nv ns) (x : Bytes) :
  Calls Tryz.prog 159 #[.pointer (some ⟨R, 0, none⟩), .string ⟨x.toArray⟩] w (TakeP R lv L fin a s nv ns x w) := by
 have H := Lib.hid h
 have hle := h.le
 have hsh := h.short
 clear h
 cases hm : SynP.isMark x s.ts with
 | false =>
  have HM := Lib.hid hm
  clear hm
  go_enter Tryz.func159, Tryz.ntmps159
  go_wp2_with fail
  refine (rd_mark R lv L fin a s nv ns _ H.out x).mono ?_
  rintro e w1 ⟨rfl, hb⟩
  rw [HM.out]
  have HB := Lib.hid hb
  clear hb
  go_wp2_with fail
  go_ret
  exact ⟨by rw [HM.out]; rfl, Wr.of_below HB.out, by rw [if_neg (by rw [HM.out]; decide)]; exact H.out.below HB.out⟩
 | true =>
  have HM := Lib.hid hm
  clear hm
  go_enter Tryz.func159, Tryz.ntmps159
  go_wp2_with fail
  refine (rd_mark R lv L fin a s nv ns _ H.out x).mono ?_
  rintro e w1 ⟨rfl, hb⟩
  rw [HM.out]
  have HB := Lib.hid hb
  have HS := Lib.hid (H.out.below hb)
  have c1 := HS.out.cells.2.1
  have f1 := HS.out.fro 1
  clear hb
  go_wp2_with fail
  go_ret
  obtain ⟨g1, g2⟩ := HS.out.adv (isMark_ne HM.out)
  exact ⟨by rw [HM.out]; rfl, (Wr.of_below HB.out).trans (Mv.refl _ _) g2, by rw [if_pos HM.out]; exact g1⟩
end Go.Proofs.YtgfmiladfeoldaaGreatDoor
namespace Go.Proofs.YtgfmiladfeoldaaGreatDoor
open Go.RowKit NatP
theorem Tryz.infoB : (Tryz.prog.info? 5).map (fun i => (i.zero, i.size, i.bytes)) = some (some (.int .u8 0), 1, 1) := by kernel_rfl
def ds8 (l : List Nat) : List Value := l.map fun d => .int .u8 (d : Nat)
theorem ds8_append (a b : List Nat) : ds8 (a ++ b) = ds8 a ++ ds8 b := by simp [ds8]
theorem grown_iterAt (w : World) (k : Nat) (s : ByteArray) (pos : Nat) : w.grownBy (w.iterAt k s pos) (some k) :=
 ⟨rfl, rfl, rfl, by rw [Lib.iterAt_size]; exact Nat.le_refl _, fun j _ hj => Lib.iterAt_other w k j s pos (fun e => hj (by rw [e]))⟩
theorem rdD_own {B : Nat} {w : World} {v : Value} {ds : List Nat} (h : w.ownsRow B 5 1 v ds.length (ds8 ds)) (hd : ∀ x ∈ ds, x < 10) : RdD w v ds := by
 obtain ⟨ao, cap, rfl, hnc, hcm, hsh⟩ := LexP.ownsRow_shape h
 refine ⟨fun k hk => (h.lt k hk).2, ao, cap, rfl, hnc, hcm, hd, fun i x hx => ?_⟩
 have hlt : i < ds.length := (List.getElem?_eq_some_iff.1 hx).1
 obtain ⟨g, hao, _, _, hcell⟩ := hsh (by omega)
 refine ⟨g, 0, hao, ?_⟩
 rw [Nat.zero_add, hcell i (by omega)]
 simp [ds8, hx]
def ItRel (s : ByteArray) (w : World) (k : Nat) (f : Nat → List Nat) (dv : Value) (wr : World) : Prop :=
 ∃ pos, pos ≤ s.size ∧ wr.heap[k]? = some (.stringIter s pos) ∧ Below w.heap.size w wr ∧ wr.ownsRow w.heap.size 5 1 dv (f pos).length (ds8 (f pos)) ∧ dv.ownBlock ≠ some k
theorem iterPos_at {w : World} {k : Nat} {s : ByteArray} {p : Nat} (h : w.heap[k]? = some (.stringIter s p)) : w.iterPos k = p := by simp [World.iterPos, h]
def ReadPost10 (n : Nat) (w : World) (e : Ending) (w' : World) : Prop := ∃ v xs, e = .returned (.tuple #[v, .int .i64 0]) ∧ Fr w.heap.size w' v xs ∧ val xs = n ∧ strip xs = xs ∧ Below w.heap.size w w'
set_option maxRecDepth 100000 in
set_option maxHeartbeats 2000000 in
theorem read_any (s : ByteArray) (w : World) (hs : s.size ≤ 67108864) (h0 : 0 < s.size) (hd : ∀ c ∈ s.data.toList, NumP.isDig c = true) :
  Calls Tryz.prog 236 #[.string s, .int .i64 10] w (ReadPost10 (decV (LexP.digs s.data.toList)) w) := by
 obtain ⟨i0, hi, hz0, hz1, hz2⟩ := info_parts Tryz.infoB
 have hsz : s.data.toList.length = s.size := (Lib.size_eq s).symm
 have HSZ := Lib.hid hsz
 have HD := Lib.hid hd
 clear hsz hd
 go_enter Tryz.func236, Tryz.ntmps236
 go_wp2_with (at_make; refine wpList_make_own _ rfl _ _ 88 rfl w.heap.size 5 i0 (.int .u8 0) 1 Tryz.underlying88 hi hz0 hz1 _ _ _ s.size rfl rfl rfl ?b1 ?b2 ?b3 ?_)
 case b1 => rw [hz2]; omega
 case b2 => unfold maxLen; omega
 case b3 => exact Nat.le_refl _
 intro w1 hown1 hgrow1
 have hb1 : Below w.heap.size w w1 := Below.grown (Below.refl _ _) hgrow1 (Nat.le_refl _) (fun k hk => by cases hk)
 have hzw := hb1.size
 have HO := Lib.hid hown1
 have HB1 := Lib.hid hb1
 clear hown1 hgrow1 hb1
 have hkw : w.heap.size < w1.heap.size := (HO.out.lt w.heap.size rfl).2
 go_wp2_with fail
 go_loopw [6] (fun v wr => ItRel s w w1.heap.size (fun pos => LexP.digs (s.data.toList.take pos)) v wr) (fun _ wr => s.size - wr.iterPos w1.heap.size)
 case atStart => exact ⟨0, Nat.zero_le _, World.iter_heap w1 s 0, HB1.out.alloc hzw _, HO.out.alloc _, by simp [Value.ownBlock]; omega⟩
 case round =>
  obtain ⟨pos, hpos, hit, hbel, hown, hne⟩ := hrel
  have hsz2 : w1.heap.size < wr.heap.size := (Array.getElem?_eq_some_iff.1 hit).1
  by_cases hlt : pos < s.size
  ·have hn := fun ty => Lib.run_next_any_at (P := Tryz.prog) wr w1.heap.size s pos ty hit hlt
   have hpl : pos < s.data.toList.length := by rw [HSZ.out]; exact hlt
   have hdg := HD.out s.data.toList[pos] (List.getElem_mem hpl)
   have hdc := List.drop_eq_getElem_cons hpl
   have htk : s.data.toList.take (pos + 1) = s.data.toList.take pos ++ [s.data.toList[pos]] := List.take_succ_eq_append_getElem hpl
   generalize s.data.toList[pos] = b at *
   have hb48 : 48 ≤ b.toNat ∧ b.toNat ≤ 57 := by simpa [NumP.isDig] using hdg
   obtain ⟨hv, hwd⟩ := LexP.dec_low (b := b) (r := s.data.toList.drop (pos + 1)) (by omega)
   rw [LexP.decode_fst s pos hlt, LexP.decode_snd s pos hlt, hdc, hv, hwd] at hn
   simp only [Option.getD_some] at hn
   have HTK : Hid (LexP.digs (s.data.toList.take (pos + 1)) = LexP.digs (s.data.toList.take pos) ++ [b.toNat - 48]) := by
    show _ = _; rw [htk, LexP.digs_append]; rfl
   have hdv : digVal b.toNat = b.toNat - 48 := by unfold digVal; rw [if_pos hb48]
   have HDV := Lib.hid hdv
   have hfl : (LexP.digs (s.data.toList.take pos)).length = pos := by rw [LexP.digs, List.length_map, List.length_take]; omega
   have HFL := Lib.hid hfl
   obtain ⟨wi, hwi⟩ : ∃ wi : World, wi = wr.iterAt w1.heap.size s (pos + 1) := ⟨_, rfl⟩
   have q1 : wi.ownsRow w.heap.size 5 1 u6 (LexP.digs (s.data.toList.take pos)).length (ds8 (LexP.digs (s.data.toList.take pos))) := by
    rw [hwi]; exact hown.kept (grown_iterAt wr w1.heap.size s (pos + 1)) (.inr hne)
   have q2 : Below w.heap.size w wi := by rw [hwi]; exact Lib.below_iterAt hbel (Nat.le_of_lt hkw) _ _
   have q3 : wi.heap[w1.heap.size]? = some (.stringIter s (pos + 1)) := by rw [hwi]; exact Lib.iterAt_heap _ _ _ _ _ hit
   have q4 : w1.heap.size < wi.heap.size := (Array.getElem?_eq_some_iff.1 q3).1
   rw [← hwi] at hn
   have HM : Hid (s.size - (pos + 1) < s.size - wr.iterPos w1.heap.size) := by show _ < _; rw [iterPos_at hit]; omega
   clear hwi hown hbel hit hdc htk hv hwd hdg hdv hfl
   have Q3 := Lib.hid q3
   have Q2 := Lib.hid q2
   have HNE := Lib.hid hne
   clear q3 q2 hne
   obtain ⟨h481, h482⟩ := hb48
   obtain ⟨dg, hdg⟩ : ∃ dg, dg = b.toNat - 48 := ⟨_, rfl⟩
   have hdg10 : dg < 10 := by omega
   have HDG := Lib.hid hdg
   generalize LexP.digs (s.data.toList.take pos) = F at *
   have hF : F.length ≤ 67108864 := by have := HFL.out; omega
   clear hdg
   go_wp2_with fail
   refine (value_any b.toNat _ (by omega)).mono ?_
   rintro e w' ⟨rfl, rfl⟩
   rw [HDV.out, ← HDG.out]
   go_wp2_with (at_builtin; refine wpList_append_own_at _ rfl _ _ 88 rfl w.heap.size 5 i0 (.int .u8 0) 1 1 Tryz.underlying88 hi hz0 hz1 hz2 rfl (by decide) _ _ _ rfl (World.ownsRow.alloc q1 _) ⟨wi.heap.size, 0, none⟩ 1 1 [.int .u8 (dg : Nat)] rfl rfl (LexP.cells_new _ _ _ _ rfl) (by simp [Value.oneCell']) (by unfold maxLen; omega) (by omega) (by simp; omega) ?_)
   intro v3 w3 hown3 hgrow3 _ hbk3
   have hF2 : w3.ownsRow w.heap.size 5 1 v3 (LexP.digs (s.data.toList.take (pos + 1))).length (ds8 (LexP.digs (s.data.toList.take (pos + 1)))) := by
    rw [HTK.out, ds8_append, List.length_append, ← HDG.out]; exact hown3
   have hit3 : w3.heap[w1.heap.size]? = some (.stringIter s (pos + 1)) :=
    (hgrow3.block w1.heap.size (by simp; omega) (fun e => HNE.out e.symm)).trans ((Below.heap_alloc _ _ _ q4).trans Q3.out)
   have HF3 : Hid (ItRel s w w1.heap.size (fun pos => LexP.digs (s.data.toList.take pos)) v3 w3) := ⟨pos + 1, by omega, hit3, Below.grown (Q2.out.alloc (by omega) _) hgrow3 (by simp; omega) (fun q hq => (World.ownsRow.lt q1 q hq).1), hF2, by
    rcases hbk3 with h | h
    ·rw [h]; exact HNE.out
    ·rw [h]; simp; omega⟩
   have HM3 : Hid (s.size - w3.iterPos w1.heap.size < s.size - wr.iterPos w1.heap.size) := by show _ < _; rw [iterPos_at hit3]; exact HM.out
   clear hown3 hgrow3 hbk3 hF2 hit3 q1
   go_wp2_with fail
   first | exact ⟨HF3.out, HM3.out⟩ | exact ⟨by (repeat apply Exists.intro); exact ⟨HF3.out, rfl⟩, HM3.out⟩
  ·have hn := fun ty => Lib.run_next_end_at (P := Tryz.prog) wr w1.heap.size s pos ty hit hlt
   have hpe : s.data.toList.take pos = s.data.toList := List.take_of_length_le (by rw [HSZ.out]; omega)
   simp only [hpe] at hown
   have hdl : (LexP.digs s.data.toList).length = s.size := by rw [LexP.digs, List.length_map, HSZ.out]
   have HRD := Lib.hid (rdD_own hown (fun x hx => by
    simp only [LexP.digs, List.mem_map] at hx
    obtain ⟨c, hc, rfl⟩ := hx
    have := HD.out c hc
    have h2 : 48 ≤ c.toNat ∧ c.toNat ≤ 57 := by simpa [NumP.isDig] using this
    omega))
   obtain ⟨ao, cp, hv6, -, -⟩ := HRD.out.shape
   rw [hdl] at hv6
   subst hv6
   have HDL := Lib.hid hdl
   have HBEL := Lib.hid hbel
   have hbz := hbel.size
   clear hown hbel hpe hdl hit hne
   go_wp2_with fail
   refine (number_any (LexP.digs s.data.toList) _ _ (by rw [HDL.out]; omega) HRD.out).mono ?_
   rintro e w2 ⟨v2, x2, rfl, a1, a2, a3, a4, a5⟩
   have A1 := Lib.hid a1.1
   have A2 := Lib.hid a2
   have A4 := Lib.hid a4
   have A5 : Hid (Below w.heap.size w w2) := HBEL.out.trans (a5.mono hbz)
   have hx2 : x2.length ≤ 67108864 := by have := HDL.out; omega
   clear a1 a2 a3 a4 a5
   go_wp2_with fail
   refine (least_any _ x2 _ A1.out (by omega)).mono ?_
   rintro e w3 ⟨v3, rfl, hf, hb3⟩
   rw [A4.out] at hf
   have B1 := Lib.hid (hf.mono A5.out.size)
   have B5 : Hid (Below w.heap.size w w3) := A5.out.trans (hb3.mono A5.out.size)
   clear hf hb3
   go_wp2_with fail
   go_ret2
   exact ⟨_, x2, rfl, B1.out, A2.out, A4.out, B5.out⟩
set_option maxRecDepth 100000 in
set_option maxHeartbeats 1000000 in
theorem readDec_any (s : ByteArray) (w : World) (hs : s.size ≤ 67108864) (h0 : 0 < s.size) (hd : ∀ c ∈ s.data.toList, NumP.isDig c = true) :
  Calls Tryz.prog 209 #[.string s] w (ReadPost10 (decV (LexP.digs s.data.toList)) w) := by
 have HD := Lib.hid hd
 clear hd
 go_enter Tryz.func209, Tryz.ntmps209
 go_wp2_with fail
 refine (read_any s _ hs h0 HD.out).mono ?_
 rintro e w2 ⟨v2, x2, rfl, a1, a2, a4, a5⟩
 have A1 := Lib.hid a1
 have A2 := Lib.hid a2
 have A4 := Lib.hid a4
 have A5 := Lib.hid a5
 clear a1 a2 a4 a5
 go_wp2_with fail
 go_ret2
 exact ⟨_, x2, rfl, A1.out, A2.out, A4.out, A5.out⟩
end Go.Proofs.YtgfmiladfeoldaaGreatDoor
namespace Go.Proofs.YtgfmiladfeoldaaGreatDoor
open Go.RowKit NatP
def GrRel (s : ByteArray) (w : World) (k : Nat) (dv bv : Value) (wr : World) : Prop :=
 ∃ (pos : Nat) (bb : Bool), pos ≤ s.size ∧ wr.heap[k]? = some (.stringIter s pos) ∧ Below w.heap.size w wr ∧ OwnB w.heap.size wr dv ((s.data.toList.take pos).filter NumP.isDig) ∧ dv.ownBlock ≠ some k ∧ bv = .bool bb ∧ Hid (bb = LexP.btw s.data.toList pos) ∧ LexP.okUpto s.data.toList pos
def GrPost (t : LexP.Bytes) (w : World) (e : Ending) (w' : World) : Prop :=
 (LexP.anyBad t = true ∧ e = .returned (.tuple #[.slice none 0 0, .int .i64 7]) ∧ Below w.heap.size w w') ∨ (LexP.anyBad t = false ∧ ReadPost10 (decV (LexP.digs (t.filter NumP.isDig))) w e w')
theorem filter_ne {t : LexP.Bytes} (hr : LexP.numRun t) (h0 : t ≠ []) (hb : LexP.anyBad t = false) : 0 < (t.filter NumP.isDig).length := by
 have h1 := LexP.btw_of_ok h0 hb
 have hl : 0 < t.length := List.length_pos_iff.2 h0
 simp only [LexP.btw, Bool.and_eq_true, bne_iff_ne] at h1
 have h2 : t[t.length - 1] ∈ t := List.getElem_mem (by omega)
 have h3 : NumP.isDig t[t.length - 1] = true := by
  rcases hr _ h2 with h | h
  ·exact h
  ·exact absurd (by rw [List.getElem?_eq_getElem (by omega), h]) h1.2
 exact List.length_pos_iff.2 (List.ne_nil_of_mem (List.mem_filter.2 ⟨h2, h3⟩))
set_option maxRecDepth 100000 in
set_option maxHeartbeats 2000000 in
theorem readGrouped_any (s : ByteArray) (w : World) (hs : s.size ≤ 67108864) (h0 : 0 < s.size) (hr : LexP.numRun s.data.toList) :
  Calls Tryz.prog 167 #[.string s] w (GrPost s.data.toList w) := by
 obtain ⟨i0, hi, hz0, hz1, hz2⟩ := info_parts Tryz.infoB
 have hsz : s.data.toList.length = s.size := (Lib.size_eq s).symm
 have HSZ := Lib.hid hsz
 have HD := Lib.hid hr
 have HNE0 : Hid (s.data.toList ≠ []) := by intro h; rw [h] at hsz; simp at hsz; omega
 clear hsz hr
 go_enter Tryz.func167, Tryz.ntmps167
 go_wp2_with (at_make; refine wpList_make_own _ rfl _ _ 88 rfl w.heap.size 5 i0 (.int .u8 0) 1 Tryz.underlying88 hi hz0 hz1 _ _ _ s.size rfl rfl rfl ?b1 ?b2 ?b3 ?_)
 case b1 => rw [hz2]; omega
 case b2 => unfold maxLen; omega
 case b3 => exact Nat.le_refl _
 intro w1 hown1 hgrow1
 have hb1 : Below w.heap.size w w1 := Below.grown (Below.refl _ _) hgrow1 (Nat.le_refl _) (fun k hk => by cases hk)
 have hzw := hb1.size
 have HO := Lib.hid hown1
 have HB1 := Lib.hid hb1
 clear hown1 hgrow1 hb1
 have hkw : w.heap.size < w1.heap.size := (HO.out.lt w.heap.size rfl).2
 go_wp2_with fail
 go_loopw [4, 5] (fun v b wr => GrRel s w w1.heap.size v b wr) (fun _ _ wr => s.size - wr.iterPos w1.heap.size)
 case atStart => exact ⟨0, false, Nat.zero_le _, World.iter_heap w1 s 0, HB1.out.alloc hzw _, HO.out.alloc _, by simp [Value.ownBlock]; omega, rfl, rfl, LexP.okUpto_zero _⟩
 case round =>
  obtain ⟨pos, bb, hpos, hit, hbel, hown, hne, rfl, hbb, hok⟩ := hrel
  have hsz2 : w1.heap.size < wr.heap.size := (Array.getElem?_eq_some_iff.1 hit).1
  have HOK := Lib.hid hok
  clear hok
  by_cases hlt : pos < s.size
  ·have hn := fun ty => Lib.run_next_any_at (P := Tryz.prog) wr w1.heap.size s pos ty hit hlt
   have hpl : pos < s.data.toList.length := by rw [HSZ.out]; exact hlt
   have hdg := HD.out s.data.toList[pos] (List.getElem_mem hpl)
   have hdc := List.drop_eq_getElem_cons hpl
   have htk : s.data.toList.take (pos + 1) = s.data.toList.take pos ++ [s.data.toList[pos]] := List.take_succ_eq_append_getElem hpl
   have hat : s.data.toList[pos]? = some s.data.toList[pos] := List.getElem?_eq_getElem hpl
   generalize s.data.toList[pos] = b at *
   have hb128 : b.toNat < 128 := by
    rcases hdg with h | h
    ·have : 48 ≤ b.toNat ∧ b.toNat ≤ 57 := by simpa [NumP.isDig] using h
     omega
    ·rw [h]; decide
   obtain ⟨hv, hwd⟩ := LexP.dec_low (b := b) (r := s.data.toList.drop (pos + 1)) hb128
   rw [LexP.decode_fst s pos hlt, LexP.decode_snd s pos hlt, hdc, hv, hwd] at hn
   simp only [Option.getD_some] at hn
   have HTK := Lib.hid htk
   have HAT := Lib.hid hat
   obtain ⟨F, hF⟩ : ∃ F, F = (s.data.toList.take pos).filter NumP.isDig := ⟨_, rfl⟩
   rw [← hF] at hown
   have hFl : F.length ≤ 67108864 := by
    have h1 := List.length_filter_le NumP.isDig (s.data.toList.take pos)
    have h2 := List.length_take_le pos s.data.toList
    rw [hF]; omega
   have HF := Lib.hid hF
   obtain ⟨wi, hwi⟩ : ∃ wi : World, wi = wr.iterAt w1.heap.size s (pos + 1) := ⟨_, rfl⟩
   have q1 : wi.ownsRow w.heap.size 5 1 u4 F.length (byCells F) := by
    rw [hwi]; exact World.ownsRow.kept hown (grown_iterAt wr w1.heap.size s (pos + 1)) (.inr hne)
   have q2 : Below w.heap.size w wi := by rw [hwi]; exact Lib.below_iterAt hbel (Nat.le_of_lt hkw) _ _
   have q3 : wi.heap[w1.heap.size]? = some (.stringIter s (pos + 1)) := by rw [hwi]; exact Lib.iterAt_heap _ _ _ _ _ hit
   have q4 : w1.heap.size < wi.heap.size := (Array.getElem?_eq_some_iff.1 q3).1
   rw [← hwi] at hn
   have HM : Hid (s.size - (pos + 1) < s.size - wr.iterPos w1.heap.size) := by show _ < _; rw [iterPos_at hit]; omega
   clear hwi hown hbel hit hdc htk hv hwd hF hat
   have Q3 := Lib.hid q3
   have Q2 := Lib.hid q2
   have HNE := Lib.hid hne
   clear q3 q2 hne
   by_cases hdig : NumP.isDig b = true
   ·have hb48 : 48 ≤ b.toNat ∧ b.toNat ≤ 57 := by simpa [NumP.isDig] using hdig
    obtain ⟨h481, h482⟩ := hb48
    have hn95 : ((b.toNat : Int) == 95) = false := by simp; omega
    have hb95 : b ≠ 95 := by rintro rfl; exact absurd hdig (by decide)
    have HDV : Hid (digVal b.toNat = b.toNat - 48) := by show _ = _; unfold digVal; rw [if_pos ⟨h481, h482⟩]
    have HTF : Hid ((s.data.toList.take (pos + 1)).filter NumP.isDig = F ++ [b]) := by show _ = _; rw [HTK.out, List.filter_append, HF.out]; simp [hdig]
    have HBT : Hid (true = LexP.btw s.data.toList (pos + 1)) := by show _ = _; rw [LexP.btw_succ, HAT.out]; simp [hb95]
    have HOK2 := Lib.hid (LexP.okUpto_succ HOK.out (fun h => by rw [HAT.out] at h; exact absurd (Option.some.inj h) hb95))
    obtain ⟨dg, hdgd⟩ : ∃ dg, dg = b.toNat - 48 := ⟨_, rfl⟩
    have hdg10 : dg < 10 := by omega
    have HDG := Lib.hid hdgd
    clear hdg hdig hb95 hdgd hbb
    go_wp2_with fail
    refine (value_any b.toNat _ (by omega)).mono ?_
    rintro e w' ⟨rfl, rfl⟩
    rw [HDV.out, ← HDG.out]
    go_wp2_with (at_builtin; refine wpList_append_own_at _ rfl _ _ 88 rfl w.heap.size 5 i0 (.int .u8 0) 1 1 Tryz.underlying88 hi hz0 hz1 hz2 rfl (by decide) _ _ _ rfl (World.ownsRow.alloc q1 _) ⟨wi.heap.size, 0, none⟩ 1 1 [.int .u8 b.toNat] rfl rfl (LexP.cells_new _ _ _ _ rfl) (by simp [Value.oneCell']) (by unfold maxLen; omega) (by omega) (by simp; omega) ?_)
    intro v3 w3 hown3 hgrow3 _ hbk3
    have hF2 : OwnB w.heap.size w3 v3 ((s.data.toList.take (pos + 1)).filter NumP.isDig) := by
     show World.ownsRow _ _ _ _ _ _ _
     rw [HTF.out, byCells_append, List.length_append]; exact hown3
    have hit3 : w3.heap[w1.heap.size]? = some (.stringIter s (pos + 1)) :=
     (hgrow3.block w1.heap.size (by simp; omega) (fun e => HNE.out e.symm)).trans ((Below.heap_alloc _ _ _ q4).trans Q3.out)
    have HF3 : Hid (GrRel s w w1.heap.size v3 (.bool true) w3) := ⟨pos + 1, true, by omega, hit3, Below.grown (Q2.out.alloc (by omega) _) hgrow3 (by simp; omega) (fun q hq => (World.ownsRow.lt q1 q hq).1), hF2, by
     rcases hbk3 with h | h
     ·rw [h]; exact HNE.out
     ·rw [h]; simp; omega, rfl, HBT.out, HOK2.out⟩
    have HM3 : Hid (s.size - w3.iterPos w1.heap.size < s.size - wr.iterPos w1.heap.size) := by show _ < _; rw [iterPos_at hit3]; exact HM.out
    clear hown3 hgrow3 hbk3 hF2 hit3 q1
    go_wp2_with fail
    first | exact ⟨HF3.out, HM3.out⟩ | exact ⟨by (repeat apply Exists.intro); exact ⟨HF3.out, rfl⟩, HM3.out⟩
   ·have hb95 : b = 95 := hdg.resolve_left hdig
    subst hb95
    have HTF : Hid ((s.data.toList.take (pos + 1)).filter NumP.isDig = F) := by show _ = _; rw [HTK.out, List.filter_append, HF.out]; simp [hdig]
    have e95 : (95 : UInt8).toNat = 95 := rfl
    rw [e95] at hn
    clear hdg hdig e95 hb128
    cases bb with
    | true =>
     have HBT : Hid (false = LexP.btw s.data.toList (pos + 1)) := by show _ = _; rw [LexP.btw_succ, HAT.out]; rfl
     have HOK2 := Lib.hid (LexP.okUpto_succ HOK.out (fun _ => hbb.out.symm))
     have HF3 : Hid (GrRel s w w1.heap.size u4 (.bool false) wi) := ⟨pos + 1, false, by omega, Q3.out, Q2.out, by rw [HTF.out]; exact q1, HNE.out, rfl, HBT.out, HOK2.out⟩
     have HM3 : Hid (s.size - wi.iterPos w1.heap.size < s.size - wr.iterPos w1.heap.size) := by show _ < _; rw [iterPos_at Q3.out]; exact HM.out
     clear hbb q1
     go_wp2_with fail
     first | exact ⟨HF3.out, HM3.out⟩ | exact ⟨by (repeat apply Exists.intro); exact ⟨HF3.out, rfl⟩, HM3.out⟩
    | false =>
     have HBAD := Lib.hid (LexP.rg_fail HAT.out hbb.out.symm)
     clear hbb q1
     go_wp2_with fail
     refine (value_any 95 _ (by omega)).mono ?_
     rintro e w' ⟨rfl, rfl⟩
     rw [show digVal 95 = 36 from by decide]
     go_wp2_with fail
     go_ret2
     exact .inl ⟨HBAD.out, rfl, Q2.out⟩
  ·have hn := fun ty => Lib.run_next_end_at (P := Tryz.prog) wr w1.heap.size s pos ty hit hlt
   have hpe : s.data.toList.take pos = s.data.toList := List.take_of_length_le (by rw [HSZ.out]; omega)
   have hpp : pos = s.data.toList.length := by rw [HSZ.out]; omega
   rw [hpe] at hown
   have HBEL := Lib.hid hbel
   have hbz := hbel.size
   have HOK2 : Hid (LexP.okUpto s.data.toList s.data.toList.length) := by rw [← hpp]; exact HOK.out
   have hbb2 : Hid (bb = LexP.btw s.data.toList s.data.toList.length) := by rw [← hpp]; exact hbb
   clear hbel hpe hit hne hbb HOK hpp
   cases bb with
   | false =>
    have HBAD := Lib.hid (LexP.rg_end_bad HNE0.out hbb2.out.symm)
    clear hbb2 hown
    go_wp2_with fail
    go_ret2
    exact .inl ⟨HBAD.out, rfl, HBEL.out⟩
   | true =>
    have HGOOD := Lib.hid (LexP.rg_end_ok HOK2.out hbb2.out.symm)
    have hcv := run_text (B := w.heap.size) (w := wr) (v := u4) hown
    have hfl := filter_ne HD.out HNE0.out HGOOD.out
    have hfl2 := List.length_filter_le NumP.isDig s.data.toList
    rw [HSZ.out] at hfl2
    have hfs : (⟨(s.data.toList.filter NumP.isDig).toArray⟩ : ByteArray).size = (s.data.toList.filter NumP.isDig).length := by rw [Lib.size_eq]
    have HS1 : Hid ((⟨(s.data.toList.filter NumP.isDig).toArray⟩ : ByteArray).size ≤ 67108864) := by show _ ≤ _; rw [hfs]; omega
    have HS0 : Hid (0 < (⟨(s.data.toList.filter NumP.isDig).toArray⟩ : ByteArray).size) := by show _ < _; rw [hfs]; omega
    have HFD : Hid (∀ c ∈ (⟨(s.data.toList.filter NumP.isDig).toArray⟩ : ByteArray).data.toList, NumP.isDig c = true) := by
     intro c hc
     simp only [List.toList_toArray] at hc
     exact (List.mem_filter.1 hc).2
    clear hbb2 hown hfl hfl2 hfs
    go_wp2_with fail
    refine (readDec_any _ wr HS1.out HS0.out HFD.out).mono ?_
    rintro e w2 ⟨v2, x2, rfl, a1, a2, a4, a5⟩
    have A1 := Lib.hid (a1.mono hbz)
    have A2 := Lib.hid a2
    have A4 := Lib.hid a4
    have A5 : Hid (Below w.heap.size w w2) := HBEL.out.trans (a5.mono hbz)
    clear a1 a2 a4 a5
    go_wp2_with fail
    go_ret2
    exact .inr ⟨HGOOD.out, _, x2, rfl, A1.out, A2.out, A4.out, A5.out⟩
end Go.Proofs.YtgfmiladfeoldaaGreatDoor
