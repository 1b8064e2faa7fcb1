/- Walks of radix.Read, radix.ReadDec at base ten. -/
import Derived.Test.YtebidhdoiojaeaaNum11
import Derived.Test.YtebidhdoiojaeaaGrpP
import Derived.Test.YtebidhdoiojaeaaLexDec
import Derived.Maps.AppendAt
import Derived.Lib.OthersKept
namespace Go.Proofs.Ytebidhdoiojaeaa
open Go.RowKit NatP

theorem Try.infoB : (Try.prog.info? 5).map (fun i => (i.zero, i.size, i.bytes)) = some (some (.int .u8 0), 1, 1) := by kernel_rfl

def ds8 (l : List Nat) : List Value := l.map fun d => .int .u8 (d : Nat)
theorem ds8_append (a b : List Nat) : ds8 (a ++ b) = ds8 a ++ ds8 b := by simp [ds8]
theorem ds8_length (a : List Nat) : (ds8 a).length = a.length := by simp [ds8]

theorem grown_iterAt (w : World) (k : Nat) (s : ByteArray) (pos : Nat) : w.grownBy (w.iterAt k s pos) (some k) :=
  ⟨rfl, rfl, rfl, by rw [Lib.iterAt_size]; exact Nat.le_refl _, fun j _ hj => Lib.iterAt_other w k j s pos (fun e => hj (by rw [e]))⟩

theorem rdD_own {B : Nat} {w : World} {v : Value} {ds : List Nat} (h : w.ownsRow B 5 1 v ds.length (ds8 ds)) (hd : ∀ x ∈ ds, x < 10) : RdD w v ds := by
  obtain ⟨ao, cap, rfl, hnc, hcm, hsh⟩ := LexP.ownsRow_shape h
  refine ⟨fun k hk => (h.lt k hk).2, ao, cap, rfl, hnc, hcm, hd, fun i x hx => ?_⟩
  have hlt : i < ds.length := (List.getElem?_eq_some_iff.1 hx).1
  obtain ⟨g, hao, _, _, hcell⟩ := hsh (by omega)
  refine ⟨g, 0, hao, ?_⟩
  rw [Nat.zero_add, hcell i (by omega)]
  simp [ds8, hx]

/-- While a text's characters are gone through: the iterator lies in block k, the list that grows in a block of its own beside it. -/
def ItRel (s : ByteArray) (w : World) (k : Nat) (f : Nat → List Nat) (dv : Value) (wr : World) : Prop :=
  ∃ pos, pos ≤ s.size ∧ wr.heap[k]? = some (.stringIter s pos) ∧ Below w.heap.size w wr ∧ wr.ownsRow w.heap.size 5 1 dv (f pos).length (ds8 (f pos)) ∧ dv.ownBlock ≠ some k

theorem iterPos_at {w : World} {k : Nat} {s : ByteArray} {p : Nat} (h : w.heap[k]? = some (.stringIter s p)) : w.iterPos k = p := by simp [World.iterPos, h]

def ReadPost10 (n : Nat) (w : World) (e : Ending) (w' : World) : Prop := ∃ v xs, e = .returned (.tuple #[v, .int .i64 0]) ∧ Fr w.heap.size w' v xs ∧ val xs = n ∧ strip xs = xs ∧ Below w.heap.size w w'

set_option maxRecDepth 100000 in
set_option maxHeartbeats 2000000 in
theorem read_any (s : ByteArray) (w : World) (hs : s.size ≤ 1048576) (h0 : 0 < s.size) (hd : ∀ c ∈ s.data.toList, NumP.isDig c = true) :
    Calls Try.prog 57 #[.string s, .int .i64 10] w (ReadPost10 (decV (LexP.digs s.data.toList)) w) := by
  obtain ⟨i0, hi, hz0, hz1, hz2⟩ := info_parts Try.infoB
  have hsz : s.data.toList.length = s.size := (Lib.size_eq s).symm
  have HSZ := Lib.hid hsz
  have HD := Lib.hid hd
  clear hsz hd
  go_enter Try.func57, Try.ntmps57
  go_wp2_with (at_make; refine wpList_make_own _ rfl _ _ 44 rfl w.heap.size 5 i0 (.int .u8 0) 1 Try.underlying44 hi hz0 hz1 _ _ _ s.size rfl rfl rfl ?b1 ?b2 ?b3 ?_)
  case b1 => rw [hz2]; omega
  case b2 => unfold maxLen; omega
  case b3 => exact Nat.le_refl _
  intro w1 hown1 hgrow1
  have hb1 : Below w.heap.size w w1 := Below.grown (Below.refl _ _) hgrow1 (Nat.le_refl _) (fun k hk => by cases hk)
  have hzw := hb1.size
  have HO := Lib.hid hown1
  have HB1 := Lib.hid hb1
  clear hown1 hgrow1 hb1
  have hkw : w.heap.size < w1.heap.size := (HO.out.lt w.heap.size rfl).2
  go_wp2_with fail
  go_loopw [6] (fun v wr => ItRel s w w1.heap.size (fun pos => LexP.digs (s.data.toList.take pos)) v wr) (fun _ wr => s.size - wr.iterPos w1.heap.size)
  case atStart => exact ⟨0, Nat.zero_le _, World.iter_heap w1 s 0, HB1.out.alloc hzw _, HO.out.alloc _, by simp [Value.ownBlock]; omega⟩
  case round =>
    obtain ⟨pos, hpos, hit, hbel, hown, hne⟩ := hrel
    have hsz2 : w1.heap.size < wr.heap.size := (Array.getElem?_eq_some_iff.1 hit).1
    by_cases hlt : pos < s.size
    · have hn := fun ty => Lib.run_next_any_at (P := Try.prog) wr w1.heap.size s pos ty hit hlt
      have hpl : pos < s.data.toList.length := by rw [HSZ.out]; exact hlt
      have hdg := HD.out s.data.toList[pos] (List.getElem_mem hpl)
      have hdc := List.drop_eq_getElem_cons hpl
      have htk : s.data.toList.take (pos + 1) = s.data.toList.take pos ++ [s.data.toList[pos]] := List.take_succ_eq_append_getElem hpl
      generalize s.data.toList[pos] = b at *
      have hb48 : 48 ≤ b.toNat ∧ b.toNat ≤ 57 := by simpa [NumP.isDig] using hdg
      obtain ⟨hv, hwd⟩ := LexP.dec_low (b := b) (r := s.data.toList.drop (pos + 1)) (by omega)
      rw [LexP.decode_fst s pos hlt, LexP.decode_snd s pos hlt, hdc, hv, hwd] at hn
      simp only [Option.getD_some] at hn
      have HTK : Hid (LexP.digs (s.data.toList.take (pos + 1)) = LexP.digs (s.data.toList.take pos) ++ [b.toNat - 48]) := by
        show _ = _; rw [htk, LexP.digs_append]; rfl
      have hdv : digVal b.toNat = b.toNat - 48 := by unfold digVal; rw [if_pos hb48]
      have HDV := Lib.hid hdv
      have hfl : (LexP.digs (s.data.toList.take pos)).length = pos := by rw [LexP.digs, List.length_map, List.length_take]; omega
      have HFL := Lib.hid hfl
      obtain ⟨wi, hwi⟩ : ∃ wi : World, wi = wr.iterAt w1.heap.size s (pos + 1) := ⟨_, rfl⟩
      have q1 : wi.ownsRow w.heap.size 5 1 u6 (LexP.digs (s.data.toList.take pos)).length (ds8 (LexP.digs (s.data.toList.take pos))) := by
        rw [hwi]; exact hown.kept (grown_iterAt wr w1.heap.size s (pos + 1)) (.inr hne)
      have q2 : Below w.heap.size w wi := by rw [hwi]; exact Lib.below_iterAt hbel (Nat.le_of_lt hkw) _ _
      have q3 : wi.heap[w1.heap.size]? = some (.stringIter s (pos + 1)) := by rw [hwi]; exact Lib.iterAt_heap _ _ _ _ _ hit
      have q4 : w1.heap.size < wi.heap.size := (Array.getElem?_eq_some_iff.1 q3).1
      rw [← hwi] at hn
      have HM : Hid (s.size - (pos + 1) < s.size - wr.iterPos w1.heap.size) := by show _ < _; rw [iterPos_at hit]; omega
      clear hwi hown hbel hit hdc htk hv hwd hdg hdv hfl
      have Q3 := Lib.hid q3
      have Q2 := Lib.hid q2
      have HNE := Lib.hid hne
      clear q3 q2 hne
      obtain ⟨h481, h482⟩ := hb48
      obtain ⟨dg, hdg⟩ : ∃ dg, dg = b.toNat - 48 := ⟨_, rfl⟩
      have hdg10 : dg < 10 := by omega
      have HDG := Lib.hid hdg
      generalize LexP.digs (s.data.toList.take pos) = F at *
      have hF : F.length ≤ 1048576 := by have := HFL.out; omega
      clear hdg
      go_wp2_with fail
      refine (value_any b.toNat _ (by omega)).mono ?_
      rintro e w' ⟨rfl, rfl⟩
      rw [HDV.out, ← HDG.out]
      go_wp2_with (at_builtin; refine wpList_append_own_at _ rfl _ _ 44 rfl w.heap.size 5 i0 (.int .u8 0) 1 1 Try.underlying44 hi hz0 hz1 hz2 rfl (by decide) _ _ _ rfl (World.ownsRow.alloc q1 _) ⟨wi.heap.size, 0, none⟩ 1 1 [.int .u8 (dg : Nat)] rfl rfl (LexP.cells_new _ _ _ _ rfl) (by simp [Value.oneCell']) (by unfold maxLen; omega) (by omega) (by simp; omega) ?_)
      intro v3 w3 hown3 hgrow3 _ hbk3
      have hF2 : w3.ownsRow w.heap.size 5 1 v3 (LexP.digs (s.data.toList.take (pos + 1))).length (ds8 (LexP.digs (s.data.toList.take (pos + 1)))) := by
        rw [HTK.out, ds8_append, List.length_append, ← HDG.out]; exact hown3
      have hit3 : w3.heap[w1.heap.size]? = some (.stringIter s (pos + 1)) :=
        (hgrow3.block w1.heap.size (by simp; omega) (fun e => HNE.out e.symm)).trans ((Below.heap_alloc _ _ _ q4).trans Q3.out)
      have HF3 : Hid (ItRel s w w1.heap.size (fun pos => LexP.digs (s.data.toList.take pos)) v3 w3) := ⟨pos + 1, by omega, hit3, Below.grown (Q2.out.alloc (by omega) _) hgrow3 (by simp; omega) (fun q hq => (World.ownsRow.lt q1 q hq).1), hF2, by
        rcases hbk3 with h | h
        · rw [h]; exact HNE.out
        · rw [h]; simp; omega⟩
      have HM3 : Hid (s.size - w3.iterPos w1.heap.size < s.size - wr.iterPos w1.heap.size) := by show _ < _; rw [iterPos_at hit3]; exact HM.out
      clear hown3 hgrow3 hbk3 hF2 hit3 q1
      go_wp2_with fail
      first | exact ⟨HF3.out, HM3.out⟩ | exact ⟨by (repeat apply Exists.intro); exact ⟨HF3.out, rfl⟩, HM3.out⟩
    · have hn := fun ty => Lib.run_next_end_at (P := Try.prog) wr w1.heap.size s pos ty hit hlt
      have hpe : s.data.toList.take pos = s.data.toList := List.take_of_length_le (by rw [HSZ.out]; omega)
      simp only [hpe] at hown
      have hdl : (LexP.digs s.data.toList).length = s.size := by rw [LexP.digs, List.length_map, HSZ.out]
      have HRD := Lib.hid (rdD_own hown (fun x hx => by
        simp only [LexP.digs, List.mem_map] at hx
        obtain ⟨c, hc, rfl⟩ := hx
        have := HD.out c hc
        have h2 : 48 ≤ c.toNat ∧ c.toNat ≤ 57 := by simpa [NumP.isDig] using this
        omega))
      obtain ⟨ao, cp, hv6, -, -⟩ := HRD.out.shape
      rw [hdl] at hv6
      subst hv6
      have HDL := Lib.hid hdl
      have HBEL := Lib.hid hbel
      have hbz := hbel.size
      clear hown hbel hpe hdl hit hne
      go_wp2_with fail
      refine (number_any (LexP.digs s.data.toList) _ _ (by rw [HDL.out]; omega) HRD.out).mono ?_
      rintro e w2 ⟨v2, x2, rfl, a1, a2, a3, a4, a5⟩
      have A1 := Lib.hid a1.1
      have A2 := Lib.hid a2
      have A4 := Lib.hid a4
      have A5 : Hid (Below w.heap.size w w2) := HBEL.out.trans (a5.mono hbz)
      have hx2 : x2.length ≤ 1048576 := by have := HDL.out; omega
      clear a1 a2 a3 a4 a5
      go_wp2_with fail
      refine (least_any _ x2 _ A1.out (by omega)).mono ?_
      rintro e w3 ⟨v3, rfl, hf, hb3⟩
      rw [A4.out] at hf
      have B1 := Lib.hid (hf.mono A5.out.size)
      have B5 : Hid (Below w.heap.size w w3) := A5.out.trans (hb3.mono A5.out.size)
      clear hf hb3
      go_wp2_with fail
      go_ret2
      exact ⟨_, x2, rfl, B1.out, A2.out, A4.out, B5.out⟩

set_option maxRecDepth 100000 in
set_option maxHeartbeats 1000000 in
theorem readDec_any (s : ByteArray) (w : World) (hs : s.size ≤ 1048576) (h0 : 0 < s.size) (hd : ∀ c ∈ s.data.toList, NumP.isDig c = true) :
    Calls Try.prog 43 #[.string s] w (ReadPost10 (decV (LexP.digs s.data.toList)) w) := by
  have HD := Lib.hid hd
  clear hd
  go_enter Try.func43, Try.ntmps43
  go_wp2_with fail
  refine (read_any s _ hs h0 HD.out).mono ?_
  rintro e w2 ⟨v2, x2, rfl, a1, a2, a4, a5⟩
  have A1 := Lib.hid a1
  have A2 := Lib.hid a2
  have A4 := Lib.hid a4
  have A5 := Lib.hid a5
  clear a1 a2 a4 a5
  go_wp2_with fail
  go_ret2
  exact ⟨_, x2, rfl, A1.out, A2.out, A4.out, A5.out⟩
end Go.Proofs.Ytebidhdoiojaeaa
