/- Joined texts of this claim's proof: MatTW, CpxTW, RdM. -/
import Derived.Test.YtgfmiladfeoldaaGreatDoorPl19
import Derived.Test.YtgfmiladfeoldaaGreatDoorPl4
set_option linter.unusedSimpArgs false
set_option linter.unusedVariables false
namespace Go.Proofs.YtgfmiladfeoldaaGreatDoor
open Go.RowKit NatP LexP
def IRd (w : World) (v : Value) (l : List (Bool × Nat)) : Prop := ∃ ao cap, v = .slice ao l.length cap ∧ l.length ≤ cap ∧ cap ≤ maxLen ∧ (0 < l.length → ∃ g o, ao = some ⟨g, o, none⟩ ∧ g < w.heap.size ∧ ∀ j p, l[j]? = some p → ∃ m xs, w.cell? ⟨g, o + j * 2, none⟩ = some (.bool p.1) ∧ w.cell? ⟨g, o + j * 2 + 1, none⟩ = some m ∧ Rd w m xs ∧ NatP.val xs = p.2 ∧ xs.length ≤ 67108864)
theorem IRd.below {w w' : World} {v : Value} {l : List (Bool × Nat)} (h : IRd w v l) (hb : Below w.heap.size w w') : IRd w' v l := by
 obtain ⟨ao, cap, e, h1, h2, h3⟩ := h
 refine ⟨ao, cap, e, h1, h2, fun h0 => ?_⟩
 obtain ⟨g, o, rfl, a2, a3⟩ := h3 h0
 refine ⟨g, o, rfl, Nat.lt_of_lt_of_le a2 hb.size, fun j p hj => ?_⟩
 obtain ⟨m, xs, b1, b2, b3, b4, b5⟩ := a3 j p hj
 exact ⟨m, xs, (hb.cell (p := ⟨g, o + j * 2, none⟩) a2).trans b1, (hb.cell (p := ⟨g, o + j * 2 + 1, none⟩) a2).trans b2, b3.below hb, b4, b5⟩
def intsT (l : List (Bool × Nat)) : List Bytes := l.map fun p => intTx p.1 p.2
theorem intTx_len (neg : Bool) {xs : List Nat} (hl : xs.length ≤ 67108864) (hok : ok xs) : (intTx neg (NatP.val xs)).length ≤ 2147483648 := by
 have h : (decTx (NatP.val xs)).length ≤ 1342177281 := by
  unfold decTx
  split
  ·simp
  ·have := dg_len_BB (val_lt hok)
   rw [List.length_map]; omega
 unfold intTx
 split
 ·simp only [List.length_cons]; omega
 ·omega
set_option maxRecDepth 100000 in
set_option maxHeartbeats 4000000 in
theorem mat_text (r c : Nat) (l : List (Bool × Nat)) (v : Value) (w : World) (hs : SG w) (hv : IRd w v l) (hr : r ≤ 64) (hc : c ≤ 64) (hn : l.length = r * c) :
  Calls Tryz.prog 30 #[.agg #[.int .i64 (r : Nat), .int .i64 (c : Nat), v]] w fun e w' => e = .returned (.tuple #[.string ⟨(gridT r c (intsT l)).toArray⟩, .int .i64 0]) ∧ Below w.heap.size w w' := by
 have HSG := Lib.hid hs
 have HV := Lib.hid hv
 have hsz : 4 < w.heap.size := World.block_lt_of_cell? w _ (hs 0 (by omega))
 obtain ⟨ao, cap, rfl, h1, h2, h3⟩ := hv
 obtain ⟨n, hnn⟩ : ∃ n, n = l.length := ⟨_, rfl⟩
 rw [← hnn] at h1 hn ⊢
 have hn4 : n ≤ 4096 := by rw [hn]; exact Nat.mul_le_mul hr hc
 have HN := Lib.hid hn
 have HNN := Lib.hid hnn
 have H3 := Lib.hid h3
 have HA := Lib.hid (below_alloc w (.cells #[.int .i64 (r : Nat), .int .i64 (c : Nat), .slice ao n cap] 47))
 have hblk := heap_alloc_new w (.cells #[.int .i64 (r : Nat), .int .i64 (c : Nat), .slice ao n cap] 47)
 have HBK := Lib.hid hblk
 clear hs hn hnn h3 hblk
 obtain ⟨i0, hi, hz0, hz1', hz2'⟩ := info_parts Tryz.infoSt
 go_enter Tryz.func30, Tryz.ntmps30
 go_wp2_with fail
 refine (mcheck r c n cap ao _ hr hc HN.out).mono ?_
 rintro e w1 ⟨rfl, hb1⟩
 have hbk1 : w1.heap[w.heap.size]? = some (.cells #[.int .i64 (r : Nat), .int .i64 (c : Nat), .slice ao n cap] 47 (0, 0)) := (hb1.block w.heap.size (by simp)).trans HBK.out
 have HB1 : Hid (Below w.heap.size w w1) := HA.out.trans (hb1.mono (by simp))
 have hw1 : w.heap.size < w1.heap.size := by have := hb1.size; simp at this; omega
 have HBK1 := Lib.hid hbk1
 have e0 : w1.cell? ⟨w.heap.size, 0, none⟩ = some (.int .i64 (r : Nat)) := (cell_of_row w1 _ _ _ _ _ hbk1).trans rfl
 have e1 : w1.cell? ⟨w.heap.size, 1, none⟩ = some (.int .i64 (c : Nat)) := (cell_of_row w1 _ _ _ _ _ hbk1).trans rfl
 have e2 : w1.cell? ⟨w.heap.size, 2, none⟩ = some (.slice ao n cap) := (cell_of_row w1 _ _ _ _ _ hbk1).trans rfl
 clear hb1 hbk1
 go_wp2_with (at_make; refine wpList_make_own _ rfl _ _ 105 rfl w1.heap.size 9 i0 (.string ⟨#[]⟩) 1 Tryz.underlying105 hi hz0 hz1' _ _ _ n rfl rfl rfl (by rw [hz2']; omega) (by unfold maxLen; omega) (Nat.le_refl _) ?_)
 intro w2 hown2 hgrow2
 have hb2 : Below w1.heap.size w1 w2 := Below.grown (Below.refl _ _) hgrow2 (Nat.le_refl _) (fun k hk => by cases hk)
 have HO2 := Lib.hid hown2
 have HB2 := Lib.hid hb2
 have f2 : w2.cell? ⟨w.heap.size, 2, none⟩ = some (.slice ao n cap) := (hb2.cell (p := ⟨w.heap.size, 2, none⟩) hw1).trans e2
 clear hown2 hgrow2 hb2
 go_wp2_with fail
 clear e0 e1 e2 f2
 go_loopw [5, 7, 20] (fun lv _ iv wr => ∃ i : Nat, iv = .int .i64 (i : Nat) ∧ i ≤ n ∧ wr.ownsRow w1.heap.size 9 1 lv i (sts (intsT (l.take i))) ∧ Below w1.heap.size w1 wr) (fun _ _ iv _ => (n - intOf iv).toNat)
 case atStart => exact ⟨0, rfl, Nat.zero_le _, by simpa [intsT, sts] using HO2.out, HB2.out⟩
 case round =>
  obtain ⟨i, rfl, hin, hown, hbl⟩ := hrel
  have HOWN := Lib.hid hown
  have HBL := Lib.hid hbl
  obtain ⟨bo, bcap, rfl, hbc, hbm, hbs⟩ := ownsRow_shape hown
  have hz1 := hbl.size
  clear hown hbl hbs
  by_cases hlt : i < n
  ·obtain ⟨g, o, rfl, hg, hcell⟩ := H3.out (by rw [← HNN.out]; omega)
   obtain ⟨p, hp⟩ : ∃ p, l[i]? = some p := ⟨_, List.getElem?_eq_getElem (by rw [← HNN.out]; omega)⟩
   obtain ⟨m, xs, c0, c1, hrd, hval, hxl⟩ := hcell i p hp
   obtain ⟨neg, k⟩ := p
   obtain ⟨mo, mcap, hme, -⟩ := hrd.2
   subst hme
   have hbw : Below w.heap.size w wr := HB1.out.trans (HBL.out.mono (Nat.le_of_lt hw1))
   have d0 : wr.cell? ⟨g, o + i * 2, none⟩ = some (.bool neg) := (hbw.cell (p := ⟨g, o + i * 2, none⟩) hg).trans c0
   have d1 : wr.cell? ⟨g, o + i * 2 + 1, none⟩ = some (.slice mo xs.length mcap) := (hbw.cell (p := ⟨g, o + i * 2 + 1, none⟩) hg).trans c1
   have HRD := Lib.hid (hrd.below hbw)
   have HVAL := Lib.hid hval
   have HP := Lib.hid hp
   have HBW := Lib.hid hbw
   clear c0 c1 hrd hval hp hcell hbw
   have HAL := Lib.hid (below_alloc wr (.cells #[.bool neg, .slice mo xs.length mcap] 62))
   have HTL : Hid ((intTx neg k).length ≤ 2147483648) := by
    have := intTx_len neg hxl HRD.out.ok
    rw [HVAL.out] at this; exact this
   go_wp2_with fail
   have hsg := (HSG.out.below HBW.out hsz).below HAL.out (Nat.lt_of_lt_of_le hsz HBW.out.size)
   refine (text_zint neg _ xs _ hsg (HRD.out.below HAL.out) (by omega)).mono ?_
   rintro e w3 ⟨rfl, hb3⟩
   have e1 : intTx neg (NatP.val xs) = intTx neg k := by rw [HVAL.out]
   rw [e1]
   obtain ⟨T, hT⟩ : ∃ T, T = intTx neg k := ⟨_, rfl⟩
   rw [← hT]
   have HT := Lib.hid hT
   have HB3 : Hid (Below wr.heap.size wr w3) := HAL.out.trans (hb3.mono (by simp))
   have HO3 := Lib.hid (ownsRow_below HOWN.out HB3.out (Nat.le_refl _))
   have hz3 := HB3.out.size
   clear hb3 hsg hT e1 d0 d1
   go_wp2_with (at_builtin; refine wpList_append_own_at _ rfl _ _ 105 rfl w1.heap.size 9 i0 (.string ⟨#[]⟩) 1 16 Tryz.underlying105 hi hz0 hz1' hz2' rfl (by decide) _ _ _ rfl (World.ownsRow.alloc HO3.out _) ⟨w3.heap.size, 0, none⟩ 1 1 [.string ⟨T.toArray⟩] rfl rfl (LexP.cells_new _ _ _ _ rfl) (by simp [Value.oneCell']) (by unfold maxLen; omega) (by omega) (by simp; omega) ?_)
   intro v4 w4 hown4 hgrow4 _ hbk4
   have hrows : sts (intsT (l.take (i + 1))) = sts (intsT (l.take i)) ++ [.string ⟨T.toArray⟩] := by
    rw [List.take_add_one, HP.out]
    simp [intsT, sts, HT.out]
   have HO4 : Hid (w4.ownsRow w1.heap.size 9 1 v4 (i + 1) (sts (intsT (l.take (i + 1))))) := by
    show World.ownsRow _ _ _ _ _ _ _
    rw [hrows]; exact hown4
   have HB4 : Hid (Below w1.heap.size w1 w4) := Below.grown ((HBL.out.trans (HB3.out.mono hz1)).alloc (by omega) _) hgrow4 (by simp; omega) (fun q hq => (World.ownsRow.lt HO3.out q hq).1)
   clear hown4 hgrow4 hbk4 hrows
   go_wp2_with fail
   have hfin : w4.ownsRow w1.heap.size 9 1 v4 (i + 1) (sts (intsT (l.take (i + 1)))) ∧ Below w1.heap.size w1 w4 := ⟨HO4.out, HB4.out⟩
   first | exact ⟨⟨i + 1, rfl, by omega, hfin⟩, by simp [intOf] <;> omega⟩ | exact ⟨by (repeat apply Exists.intro); exact ⟨⟨i + 1, rfl, by omega, hfin⟩, rfl⟩, by simp [intOf] <;> omega⟩
  ·have hie : i = n := by omega
   have htk : l.take i = l := List.take_of_length_le (by rw [hie]; exact Nat.le_of_eq HNN.out.symm)
   rw [htk] at HOWN
   have hbk := (HBL.out.block w.heap.size hw1).trans HBK1.out
   have e0 : wr.cell? ⟨w.heap.size, 0, none⟩ = some (.int .i64 (r : Nat)) := (cell_of_row wr _ _ _ _ _ hbk).trans rfl
   have e1 : wr.cell? ⟨w.heap.size, 1, none⟩ = some (.int .i64 (c : Nat)) := (cell_of_row wr _ _ _ _ _ hbk).trans rfl
   have HBW : Hid (Below w.heap.size w wr) := HB1.out.trans (HBL.out.mono (Nat.le_of_lt hw1))
   have HIE := Lib.hid hie
   clear hbk htk hie
   go_wp2_with fail
   have hil : (intsT l).length = r * c := by unfold intsT; rw [List.length_map, ← HNN.out, HN.out]
   have hgrid : Calls Tryz.prog 66 #[.int .i64 (r : Nat), .int .i64 (c : Nat), .slice bo i bcap] wr (StrPost (gridT r c (intsT l)) wr) := by
    by_cases h0 : intsT l = []
    ·have hi0 : i = 0 := by
      have := congrArg List.length h0
      rw [hil, List.length_nil, ← HN.out] at this
      rw [HIE.out]; exact this
     subst hi0
     rw [h0]
     exact grid_shape r c bcap bo _ (HSG.out.below HBW.out hsz) hr hc
    ·refine grid_rows r c (intsT l) _ _ (SS.of_row HOWN.out) h0 hr hc hil ?_
     intro b hb
     unfold intsT at hb
     rw [List.mem_map] at hb
     obtain ⟨p, hp, rfl⟩ := hb
     obtain ⟨j, hj⟩ := List.getElem?_of_mem hp
     have hl0 : 0 < l.length := by have := (List.getElem?_eq_some_iff.1 hj).1; omega
     obtain ⟨g, o, _, _, hcell⟩ := H3.out hl0
     obtain ⟨m, xs, _, _, hrd, hval, hxl⟩ := hcell j p hj
     have := intTx_len p.1 hxl hrd.ok
     rw [hval] at this; exact this
   refine hgrid.mono ?_
   rintro e w5 ⟨rfl, hb5⟩
   have HB5 := Lib.hid hb5
   clear hb5 hgrid
   go_wp2_with fail
   go_ret2
   exact ⟨rfl, HBW.out.trans (HB5.out.mono HBW.out.size)⟩
end Go.Proofs.YtgfmiladfeoldaaGreatDoor
namespace Go.Proofs.YtgfmiladfeoldaaGreatDoor
open Go.RowKit NatP LexP
def Sl (w : World) (v : Value) (n : Nat) (R : Nat → Value → Prop) : Prop := ∃ ao cap, v = .slice ao n cap ∧ n ≤ cap ∧ cap ≤ maxLen ∧ (0 < n → ∃ g o, ao = some ⟨g, o, none⟩ ∧ g < w.heap.size ∧ ∀ j, j < n → ∃ u, w.cell? ⟨g, o + j, none⟩ = some u ∧ R j u)
theorem Sl.mono {w w' : World} {v : Value} {n : Nat} {R R' : Nat → Value → Prop} (h : Sl w v n R) (hb : Below w.heap.size w w') (hr : ∀ j u, R j u → R' j u) : Sl w' v n R' := by
 obtain ⟨ao, cap, e, h1, h2, h3⟩ := h
 refine ⟨ao, cap, e, h1, h2, fun h0 => ?_⟩
 obtain ⟨g, o, rfl, a2, a3⟩ := h3 h0
 refine ⟨g, o, rfl, Nat.lt_of_lt_of_le a2 hb.size, fun j hj => ?_⟩
 obtain ⟨u, b1, b2⟩ := a3 j hj
 exact ⟨u, (hb.cell (p := ⟨g, o + j, none⟩) a2).trans b1, hr j u b2⟩
def NRd (w : World) (v : Value) (n : Nat) : Prop := ∃ xs, Rd w v xs ∧ NatP.val xs = n ∧ xs.length ≤ 67108864
theorem NRd.below {w w' : World} {v : Value} {n : Nat} (h : NRd w v n) (hb : Below w.heap.size w w') : NRd w' v n := by
 obtain ⟨xs, h1, h2, h3⟩ := h; exact ⟨xs, h1.below hb, h2, h3⟩
def NsRd (w : World) (v : Value) (s : List Nat) : Prop := Sl w v s.length fun j u => ∃ n, s[j]? = some n ∧ NRd w u n
theorem NsRd.below {w w' : World} {v : Value} {s : List Nat} (h : NsRd w v s) (hb : Below w.heap.size w w') : NsRd w' v s :=
 Sl.mono h hb fun _ _ ⟨n, a, b⟩ => ⟨n, a, b.below hb⟩
def CRd (w : World) (v : Value) (l : List (List Nat)) : Prop := Sl w v l.length fun j u => ∃ s, l[j]? = some s ∧ NsRd w u s
theorem CRd.below {w w' : World} {v : Value} {l : List (List Nat)} (h : CRd w v l) (hb : Below w.heap.size w w') : CRd w' v l :=
 Sl.mono h hb fun _ _ ⟨n, a, b⟩ => ⟨n, a, b.below hb⟩
theorem joinB_mem (sep : Bytes) : ∀ (l : List Bytes) (b : Bytes), b ∈ l → b.length ≤ (SynP.joinB sep l).length
 | [a], b, h => by rw [List.mem_singleton.1 h]; exact Nat.le_refl _
 | a :: c :: l, b, h => by
  show b.length ≤ (a ++ sep ++ SynP.joinB sep (c :: l)).length
  simp only [List.length_append]
  rcases List.mem_cons.1 h with rfl | h
  ·omega
  ·have := joinB_mem sep (c :: l) b h; omega
def simT (s : List Nat) : Bytes := SynP.joinB [32] (s.map SynP.decT)
theorem decT_len {xs : List Nat} (hl : xs.length ≤ 67108864) (hok : ok xs) : (SynP.decT (NatP.val xs)).length ≤ 2147483648 := by
 have := intTx_len false hl hok
 rw [intTx_false] at this; exact this
set_option maxRecDepth 100000 in
set_option maxHeartbeats 4000000 in
theorem cpx_text (l : List (List Nat)) (v : Value) (w : World) (hs : SG w) (hv : CRd w v l) (hn : l.length ≤ 134217728) (hm : ∀ s ∈ l, s.length ≤ 134217728) (hT : (SynP.joinB [44, 32] (l.map simT)).length ≤ 70368744177664) :
  Calls Tryz.prog 67 #[v] w (StrPost (SynP.cpxT l) w) := by
 have HSG := Lib.hid hs
 have HV := Lib.hid hv
 have hsz : 4 < w.heap.size := World.block_lt_of_cell? w _ (hs 0 (by omega))
 obtain ⟨ao, cap, rfl, h1, h2, h3⟩ := hv
 obtain ⟨n, hnn⟩ : ∃ n, n = l.length := ⟨_, rfl⟩
 rw [← hnn] at h1 hn h3 ⊢
 have HNN := Lib.hid hnn
 have H3 := Lib.hid h3
 have HM := Lib.hid hm
 have HT := Lib.hid hT
 clear hs hnn h3 hm hT
 obtain ⟨i0, hi, hz0, hz1', hz2'⟩ := info_parts Tryz.infoSt
 go_enter Tryz.func67, Tryz.ntmps67
 go_wp2_with fail
 go_loopw [3, 5, 6, 8, 11] (fun lv _ _ _ iv wr => ∃ i : Nat, iv = .int .i64 (i : Nat) ∧ i ≤ n ∧ wr.ownsRow w.heap.size 9 1 lv i (sts ((l.map simT).take i)) ∧ Below w.heap.size w wr) (fun _ _ _ _ iv _ => (n - intOf iv).toNat)
 case atStart => exact ⟨0, rfl, Nat.zero_le _, World.ownsRow_nil _ _ _ _, Below.refl _ _⟩
 case round =>
  obtain ⟨i, rfl, hin, hown, hbl⟩ := hrel
  have HOWN := Lib.hid hown
  have HBL := Lib.hid hbl
  obtain ⟨bo, bcap, rfl, hbc, hbm, hbs⟩ := ownsRow_shape hown
  have hz1 := hbl.size
  clear hown hbl hbs
  by_cases hlt : i < n
  ·obtain ⟨g, o, rfl, hg, hcell⟩ := H3.out (by omega)
   obtain ⟨u, c0, s, hsi, hsr⟩ := hcell i hlt
   have d0 : wr.cell? ⟨g, o + i, none⟩ = some u := (HBL.out.cell (p := ⟨g, o + i, none⟩) hg).trans c0
   have HSI := Lib.hid hsi
   have hsr2 := hsr.below HBL.out
   have HSR := Lib.hid hsr2
   obtain ⟨so, scap, rfl, s1, s2, s3⟩ := hsr2
   have hsl := HM.out s (List.mem_of_getElem? hsi)
   have HS3 := Lib.hid s3
   obtain ⟨m, hmm⟩ : ∃ m, m = s.length := ⟨_, rfl⟩
   rw [← hmm] at s1 hsl HS3 d0
   have HMM := Lib.hid hmm
   clear c0 hsi hsr hcell s3 hmm
   obtain ⟨wo, rfl⟩ : ∃ wo, wo = wr := ⟨_, rfl⟩
   go_wp2_with fail
   go_loopw [6, 8, 17] (fun nv _ jv wx => ∃ j : Nat, jv = .int .i64 (j : Nat) ∧ j ≤ m ∧ wx.ownsRow wo.heap.size 9 1 nv j (sts ((s.map SynP.decT).take j)) ∧ Below wo.heap.size wo wx) (fun _ _ jv _ => (m - intOf jv).toNat)
   case atStart => exact ⟨0, rfl, Nat.zero_le _, World.ownsRow_nil _ _ _ _, Below.refl _ _⟩
   case round =>
    obtain ⟨j, rfl, hjm, hown2, hbl2⟩ := hrel
    have HOWN2 := Lib.hid hown2
    have HBL2 := Lib.hid hbl2
    obtain ⟨no, ncap, rfl, hnc, hnm, hns⟩ := ownsRow_shape hown2
    have hz2 := hbl2.size
    have HBW : Hid (Below w.heap.size w wr) := HBL.out.trans (hbl2.mono hz1)
    clear hown2 hbl2 hns
    by_cases hjt : j < m
    ·obtain ⟨g2, o2, rfl, hg2, hcell2⟩ := HS3.out (by omega)
     obtain ⟨u, c0, k, hsk, xs, hrd, hval, hxl⟩ := hcell2 j hjt
     have e0 : wr.cell? ⟨g2, o2 + j, none⟩ = some u := (HBL2.out.cell (p := ⟨g2, o2 + j, none⟩) hg2).trans c0
     have HRD := Lib.hid (hrd.below HBL2.out)
     have HVAL := Lib.hid hval
     have HSK := Lib.hid hsk
     have HTL : Hid ((SynP.decT k).length ≤ 2147483648) := by
      have := decT_len hxl hrd.ok
      rw [hval] at this; exact this
     obtain ⟨uo, ucap, hue, -⟩ := hrd.2
     subst hue
     clear c0 hsk hrd hval hcell2
     go_wp2_with fail
     refine (dec_any _ xs _ (HSG.out.below HBW.out hsz) HRD.out (by omega)).mono ?_
     rintro e w3 ⟨rfl, hb3⟩
     rw [HVAL.out, decTx_eq]
     obtain ⟨T, hT⟩ : ∃ T, T = SynP.decT k := ⟨_, rfl⟩
     rw [← hT]
     have HT2 := Lib.hid hT
     have HB3 := Lib.hid hb3
     have HO3 := Lib.hid (ownsRow_below HOWN2.out hb3 (Nat.le_refl _))
     have hz3 := hb3.size
     clear hb3 hT e0
     go_wp2_with (at_builtin; refine wpList_append_own_at _ rfl _ _ 105 rfl wo.heap.size 9 i0 (.string ⟨#[]⟩) 1 16 Tryz.underlying105 hi hz0 hz1' hz2' rfl (by decide) _ _ _ rfl (World.ownsRow.alloc HO3.out _) ⟨w3.heap.size, 0, none⟩ 1 1 [.string ⟨T.toArray⟩] rfl rfl (LexP.cells_new _ _ _ _ rfl) (by simp [Value.oneCell']) (by unfold maxLen; omega) (by omega) (by simp; omega) ?_)
     intro v4 w4 hown4 hgrow4 _ hbk4
     have hrows : sts ((s.map SynP.decT).take (j + 1)) = sts ((s.map SynP.decT).take j) ++ [.string ⟨T.toArray⟩] := by
      rw [List.take_add_one, List.getElem?_map, HSK.out]
      simp [sts, HT2.out]
     have HO4 : Hid (w4.ownsRow wo.heap.size 9 1 v4 (j + 1) (sts ((s.map SynP.decT).take (j + 1)))) := by
      show World.ownsRow _ _ _ _ _ _ _
      rw [hrows]; exact hown4
     have HB4 : Hid (Below wo.heap.size wo w4) := Below.grown ((HBL2.out.trans (HB3.out.mono hz2)).alloc (by omega) _) hgrow4 (by simp; omega) (fun q hq => (World.ownsRow.lt HO3.out q hq).1)
     clear hown4 hgrow4 hbk4 hrows
     go_wp2_with fail
     have hfin : w4.ownsRow wo.heap.size 9 1 v4 (j + 1) (sts ((s.map SynP.decT).take (j + 1))) ∧ Below wo.heap.size wo w4 := ⟨HO4.out, HB4.out⟩
     first | exact ⟨⟨j + 1, rfl, by omega, hfin⟩, by simp [intOf] <;> omega⟩ | exact ⟨by (repeat apply Exists.intro); exact ⟨⟨j + 1, rfl, by omega, hfin⟩, rfl⟩, by simp [intOf] <;> omega⟩
    ·have hje : j = m := by omega
     have htk : (s.map SynP.decT).take j = s.map SynP.decT := List.take_of_length_le (by rw [hje, List.length_map]; exact Nat.le_of_eq HMM.out.symm)
     rw [htk] at HOWN2
     have hsT : simT s = SynP.joinB [32] (s.map SynP.decT) := rfl
     have HSL : Hid ((simT s).length ≤ 70368744177664) := Nat.le_trans (joinB_mem [44, 32] (l.map simT) _ (List.mem_map_of_mem (List.mem_of_getElem? HSI.out))) HT.out
     obtain ⟨T, hT2⟩ : ∃ T, T = simT s := ⟨_, rfl⟩
     have HT2 := Lib.hid hT2
     have HSS := Lib.hid (SS.of_row HOWN2.out)
     clear htk hsT hT2 hje
     go_wp2_with fail
     have hJ := join_ss _ (s.map SynP.decT) ⟨#[32]⟩ _ HSS.out (by rw [List.length_map, ← HMM.out]; omega) (by
      show (simT s).length ≤ _
      exact Nat.le_trans HSL.out (by omega))
     rw [show SynP.joinB (⟨#[32]⟩ : ByteArray).data.toList (s.map SynP.decT) = T from HT2.out.symm] at hJ
     refine hJ.mono ?_
     rintro e w3 ⟨rfl, hb3⟩
     have HB3 := Lib.hid (HBL2.out.trans (hb3.mono hz2))
     have HO3 := Lib.hid (ownsRow_below HOWN.out HB3.out (Nat.le_refl _))
     have hz3 := HB3.out.size
     clear hb3 hJ
     go_wp2_with (at_builtin; refine wpList_append_own_at _ rfl _ _ 105 rfl w.heap.size 9 i0 (.string ⟨#[]⟩) 1 16 Tryz.underlying105 hi hz0 hz1' hz2' rfl (by decide) _ _ _ rfl (World.ownsRow.alloc HO3.out _) ⟨w3.heap.size, 0, none⟩ 1 1 [.string ⟨T.toArray⟩] rfl rfl (LexP.cells_new _ _ _ _ rfl) (by simp [Value.oneCell']) (by unfold maxLen; omega) (by omega) (by simp; omega) ?_)
     intro v4 w4 hown4 hgrow4 _ hbk4
     have hrows : sts ((l.map simT).take (i + 1)) = sts ((l.map simT).take i) ++ [.string ⟨T.toArray⟩] := by
      rw [List.take_add_one, List.getElem?_map, HSI.out]
      simp [sts, HT2.out]
     have HO4 : Hid (w4.ownsRow w.heap.size 9 1 v4 (i + 1) (sts ((l.map simT).take (i + 1)))) := by
      show World.ownsRow _ _ _ _ _ _ _
      rw [hrows]; exact hown4
     have HB4 : Hid (Below w.heap.size w w4) := Below.grown ((HBL.out.trans (HB3.out.mono hz1)).alloc (by omega) _) hgrow4 (by simp; omega) (fun q hq => (World.ownsRow.lt HO3.out q hq).1)
     clear hown4 hgrow4 hbk4 hrows
     go_wp2_with fail
     have hfin : w4.ownsRow w.heap.size 9 1 v4 (i + 1) (sts ((l.map simT).take (i + 1))) ∧ Below w.heap.size w w4 := ⟨HO4.out, HB4.out⟩
     first | exact ⟨⟨i + 1, rfl, by omega, hfin⟩, by simp [intOf] <;> omega⟩ | exact ⟨by (repeat apply Exists.intro); exact ⟨⟨i + 1, rfl, by omega, hfin⟩, rfl⟩, by simp [intOf] <;> omega⟩
  ·have hie : i = n := by omega
   have htk : (l.map simT).take i = l.map simT := List.take_of_length_le (by rw [hie, List.length_map]; exact Nat.le_of_eq HNN.out.symm)
   rw [htk] at HOWN
   obtain ⟨T, hT⟩ : ∃ T, T = SynP.joinB [44, 32] (l.map simT) := ⟨_, rfl⟩
   have hTl : T.length ≤ 70368744177664 := by rw [hT]; exact HT.out
   have HT2 := Lib.hid hT
   have HSS := Lib.hid (SS.of_row HOWN.out)
   clear htk hT hie
   go_wp2_with fail
   have hJ := join_ss _ (l.map simT) ⟨#[44, 32]⟩ _ HSS.out (by rw [List.length_map, ← HNN.out]; omega) (by
    show (SynP.joinB [44, 32] (l.map simT)).length ≤ _
    exact Nat.le_trans HT.out (by omega))
   rw [show SynP.joinB (⟨#[44, 32]⟩ : ByteArray).data.toList (l.map simT) = T from HT2.out.symm] at hJ
   refine hJ.mono ?_
   rintro e w3 ⟨rfl, hb3⟩
   have HB3 := Lib.hid hb3
   clear hb3 hJ
   go_wp2_with fail
   go_ret
   refine ⟨?_, HBL.out.trans (HB3.out.mono hz1)⟩
   have e : SynP.cpxT l = [123] ++ T ++ [125] := by rw [HT2.out]; rfl
   show Ending.returned (.string ((⟨#[123]⟩ : ByteArray) ++ ⟨T.toArray⟩ ++ ⟨#[125]⟩)) = _
   rw [e, ba_app, ba_app]
   simp
end Go.Proofs.YtgfmiladfeoldaaGreatDoor
namespace Go.Proofs.YtgfmiladfeoldaaGreatDoor
open Go.RowKit NatP LexP
theorem Wr.weak {R : Nat} {w w' : World} (h : Wr R none w w') (og : Option Nat) : Wr R og w w' := ⟨h.os, h.tape, h.output, h.size, fun k hk hR _ => h.block k hk hR (by simp)⟩
def KR (w : World) (R : Nat) (og : Option Nat) (v : Value) (ks : List Nat) : Prop := ∃ ao cap, v = .slice ao ks.length cap ∧ ks.length ≤ cap ∧ cap ≤ maxLen ∧ (∀ q, v.ownBlock = some q → R < q ∧ q < w.heap.size ∧ og ≠ some q) ∧ (0 < ks.length → ∃ g, ao = some ⟨g, 0, none⟩ ∧ ∀ j k, ks[j]? = some k → w.cell? ⟨g, j, none⟩ = some (.int .i64 (k : Nat)))
theorem KR.wr {w w' : World} {R : Nat} {og og' : Option Nat} {v : Value} {ks : List Nat} (h : KR w R og v ks) (hw : Wr R og w w') (hm : Mv w og og') : KR w' R og' v ks := by
 obtain ⟨ao, cap, rfl, h1, h2, h3, h4⟩ := h
 refine ⟨ao, cap, rfl, h1, h2, fun q hq => ⟨(h3 q hq).1, Nat.lt_of_lt_of_le (h3 q hq).2.1 hw.size, fun e => ?_⟩, fun h0 => ?_⟩
 ·rcases hm q e with h | h
  ·exact (h3 q hq).2.2 h
  ·have := (h3 q hq).2.1; omega
 ·obtain ⟨g, rfl, h5⟩ := h4 h0
  have h6 := h3 g rfl
  exact ⟨g, rfl, fun j k hj => (World.cell?_of_block (hw.block g h6.2.1 (by omega) (fun e => h6.2.2 e.symm))).trans (h5 j k hj)⟩
abbrev Nv := SynP.Node × Value
def ndCells (l : List Nv) : List Value := l.flatMap fun p => [.int .i64 (p.1.op : Nat), .string ⟨p.1.text.toArray⟩, p.2]
theorem ndCells_app (a b : List Nv) : ndCells (a ++ b) = ndCells a ++ ndCells b := by simp [ndCells]
def TkR (w : World) (R : Nat) (v : Value) (L : List Tok) : Prop := ∃ ao cap, v = .slice ao L.length cap ∧ L.length ≤ cap ∧ cap ≤ maxLen ∧ (0 < L.length → ∃ g, ao = some ⟨g, 0, none⟩ ∧ g < R ∧ ∀ j t, L[j]? = some t → w.cell? ⟨g, j * 3, none⟩ = some (.int .i64 (t.1 : Nat)) ∧ w.cell? ⟨g, j * 3 + 1, none⟩ = some (.string ⟨t.2.1.toArray⟩) ∧ w.cell? ⟨g, j * 3 + 2, none⟩ = some (.int .i64 (t.2.2 : Nat)))
theorem TkR.wr {w w' : World} {R : Nat} {og : Option Nat} {v : Value} {L : List Tok} (h : TkR w R v L) (hw : Wr R og w w') (hR : R < w.heap.size) (ho : ∀ q, og = some q → R < q) : TkR w' R v L := by
 obtain ⟨ao, cap, rfl, h1, h2, h3⟩ := h
 refine ⟨ao, cap, rfl, h1, h2, fun h0 => ?_⟩
 obtain ⟨g, rfl, h5, h6⟩ := h3 h0
 have hb := hw.block g (by omega) (by omega) (fun e => by have := ho g e.symm; omega)
 exact ⟨g, rfl, h5, fun j t hj => ⟨(World.cell?_of_block hb).trans (h6 j t hj).1, (World.cell?_of_block hb).trans (h6 j t hj).2.1, (World.cell?_of_block hb).trans (h6 j t hj).2.2⟩⟩
def TokOk (t : Tok) : Prop := t.1 = 1 → numRun t.2.1 ∧ 0 < t.2.1.length ∧ t.2.1.length ≤ 67108864 ∧ anyBad t.2.1 = false
structure RS (w : World) (R : Nat) (lv : Value) (L : List Tok) (fin : Nat) (a : Nat) (s : SynP.St) (nv : Value) (ns : List Nv) : Prop where
 blk : w.heap[R]? = some (.cells #[lv, .int .i64 (a : Nat), .int .i64 (fin : Nat), .int .i64 (s.opened : Nat), nv] 85 (0, 0))
 tks : TkR w R lv L
 drop : L.drop a = s.ts
 le : a ≤ L.length
 own : w.ownsRow (R + 1) 43 3 nv ns.length (ndCells ns)
 kids : ∀ p ∈ ns, KR w R nv.ownBlock p.2 p.1.kids
 apart : ∀ (i j : Nat) (p q : Nv) (k : Nat), ns[i]? = some p → ns[j]? = some q → p.2.ownBlock = some k → q.2.ownBlock = some k → i = j
 few : ns.length + s.ts.length ≤ 134217728
 deep : s.opened ≤ 100
 short : L.length ≤ 67108864
 sum : (L.map fun t => t.2.1.length + 1).sum ≤ 201326592
 good : ∀ t ∈ L, TokOk t
 sg : SG w
 sgl : 4 < R
theorem RS.lt {w : World} {R : Nat} {lv : Value} {L : List Tok} {fin a : Nat} {s : SynP.St} {nv : Value} {ns : List Nv} (h : RS w R lv L fin a s nv ns) : R < w.heap.size := (Array.getElem?_eq_some_iff.1 h.blk).1
theorem RS.gt {w : World} {R : Nat} {lv : Value} {L : List Tok} {fin a : Nat} {s : SynP.St} {nv : Value} {ns : List Nv} (h : RS w R lv L fin a s nv ns) : ∀ q, nv.ownBlock = some q → R < q := fun q hq => by have := h.own.lt q hq; omega
theorem RS.cells {w : World} {R : Nat} {lv : Value} {L : List Tok} {fin a : Nat} {s : SynP.St} {nv : Value} {ns : List Nv} (h : RS w R lv L fin a s nv ns) :
  w.cell? ⟨R, 0, none⟩ = some lv ∧ w.cell? ⟨R, 1, none⟩ = some (.int .i64 (a : Nat)) ∧ w.cell? ⟨R, 2, none⟩ = some (.int .i64 (fin : Nat)) ∧ w.cell? ⟨R, 3, none⟩ = some (.int .i64 (s.opened : Nat)) ∧ w.cell? ⟨R, 4, none⟩ = some nv := by
 refine ⟨?_, ?_, ?_, ?_, ?_⟩ <;> rw [cell_of_row w R _ _ _ _ h.blk] <;> rfl
theorem RS.fro {w : World} {R : Nat} {lv : Value} {L : List Tok} {fin a : Nat} {s : SynP.St} {nv : Value} {ns : List Nv} (h : RS w R lv L fin a s nv ns) (o : Nat) : w.frozen? ⟨R, o, none⟩ = false := frozen_of_row w R o _ _ h.blk
theorem RS.below {w w' : World} {R : Nat} {lv : Value} {L : List Tok} {fin a : Nat} {s : SynP.St} {nv : Value} {ns : List Nv} (h : RS w R lv L fin a s nv ns) (hb : Below w.heap.size w w') : RS w' R lv L fin a s nv ns where
 blk := (hb.block R h.lt).trans h.blk
 tks := h.tks.wr (Wr.of_below (R := R) (og := nv.ownBlock) hb) h.lt h.gt
 drop := h.drop
 le := h.le
 own := h.own.kept (row := none) ⟨hb.os, hb.tape, hb.output, hb.size, fun k hk _ => hb.block k hk⟩ (by cases nv.ownBlock <;> simp)
 kids := fun p hp => (h.kids p hp).wr (Wr.of_below hb) (Mv.refl _ _)
 apart := h.apart
 few := h.few
 deep := h.deep
 short := h.short
 sum := h.sum
 good := h.good
 sg := h.sg.below hb (Nat.lt_trans h.sgl h.lt)
 sgl := h.sgl
theorem RS.setN {w : World} {R : Nat} {lv : Value} {L : List Tok} {fin a : Nat} {s : SynP.St} {nv : Value} {ns : List Nv} (h : RS w R lv L fin a s nv ns) (o : Nat) (u : Value) (a' : Nat) (s' : SynP.St)
  (hb : (#[lv, .int .i64 (a : Nat), .int .i64 (fin : Nat), .int .i64 (s.opened : Nat), nv] : Array Value).setIfInBounds o u = #[lv, .int .i64 (a' : Nat), .int .i64 (fin : Nat), .int .i64 (s'.opened : Nat), nv])
  (hd : L.drop a' = s'.ts) (hl : a' ≤ L.length) (hf : ns.length + s'.ts.length ≤ 134217728) (hp : s'.opened ≤ 100) :
  RS (w.setCell ⟨R, o, none⟩ u) R lv L fin a' s' nv ns ∧ Wr R none w (w.setCell ⟨R, o, none⟩ u) := by
 have hset := heap_setCell_same w R o #[lv, .int .i64 (a : Nat), .int .i64 (fin : Nat), .int .i64 (s.opened : Nat), nv] 85 u h.blk
 have hw := Wr.of_set (R := R) (og := nv.ownBlock) w o u
 refine ⟨⟨hset.trans (by rw [hb]), h.tks.wr hw h.lt h.gt, hd, hl, ownsRow_setCell_below h.own (by simp) _, fun p hp => (h.kids p hp).wr hw (Mv.refl _ _), h.apart, hf, hp, h.short, h.sum, h.good, h.sg.wr hw (Nat.ne_of_lt h.sgl) (fun e => by have := h.gt _ e; have := h.sgl; omega), h.sgl⟩, Wr.of_set w o u⟩
theorem RS.reset {w w' : World} {R : Nat} {lv : Value} {L : List Tok} {fin a : Nat} {s : SynP.St} {nv : Value} {ns : List Nv} (h : RS w R lv L fin a s nv ns) (hw : Wr R none w w') {a' : Nat} {s' : SynP.St}
  (hb : w'.heap[R]? = some (.cells #[lv, .int .i64 (a' : Nat), .int .i64 (fin : Nat), .int .i64 (s'.opened : Nat), nv] 85 (0, 0))) (hd : L.drop a' = s'.ts) (hl : a' ≤ L.length) (hf : ns.length + s'.ts.length ≤ 134217728) (hp : s'.opened ≤ 100) :
  RS w' R lv L fin a' s' nv ns where
 blk := hb
 tks := h.tks.wr hw h.lt (fun q hq => by cases hq)
 drop := hd
 le := hl
 own := by
  refine ⟨h.own.1, ?_⟩
  rcases h.own.2 with hn | ⟨g, cap, cur, rfl, hb, hgg, rest⟩
  ·exact .inl hn
  ·exact .inr ⟨g, cap, cur, rfl, hb, (hw.block g (Array.getElem?_eq_some_iff.1 hgg).1 (by omega) (by simp)).trans hgg, rest⟩
 kids := fun p hp => (h.kids p hp).wr (hw.weak _) (Mv.refl _ _)
 apart := h.apart
 few := hf
 deep := hp
 short := h.short
 sum := h.sum
 good := h.good
 sg := h.sg.wr hw (Nat.ne_of_lt h.sgl) (by simp)
 sgl := h.sgl
theorem below_drewN (w : World) (n : Nat) : Below w.heap.size w (w.drewN n) := ⟨rfl, rfl, rfl, Nat.le_refl _, fun _ _ => rfl⟩
set_option maxRecDepth 100000 in
theorem rd_done (R : Nat) (lv : Value) (L : List Tok) (fin a : Nat) (s : SynP.St) (nv : Value) (ns : List Nv) (w : World) (h : RS w R lv L fin a s nv ns) :
  Calls Tryz.prog 55 #[.pointer (some ⟨R, 0, none⟩)] w fun e w' => e = .returned (.bool (decide (s.ts = []))) ∧ Below w.heap.size w w' := by
 have H := Lib.hid h
 obtain ⟨c0, c1, -, -, -⟩ := h.cells
 obtain ⟨ao, cap, rfl, t1, t2, -⟩ := h.tks
 have hd : decide (L.length ≤ a) = decide (s.ts = []) := by
  rw [← h.drop]; simp
 have HD := Lib.hid hd
 clear hd
 clear h
 go_enter Tryz.func55, Tryz.ntmps55
 go_wp2_with fail
 go_region
 go_wp2_with fail
 go_ret
 exact ⟨by rw [← HD.out]; rfl, ⟨rfl, rfl, rfl, Nat.le_refl _, fun _ _ => rfl⟩⟩
set_option maxRecDepth 100000 in
theorem col_raw (R : Nat) (lv : Value) (L : List Tok) (fin a : Nat) (ts : List Tok) (w : World) (c0 : w.cell? ⟨R, 0, none⟩ = some lv) (c1 : w.cell? ⟨R, 1, none⟩ = some (.int .i64 (a : Nat))) (c2 : w.cell? ⟨R, 2, none⟩ = some (.int .i64 (fin : Nat))) (tks : TkR w R lv L) (hdr : L.drop a = ts) (hle : a ≤ L.length) :
  Calls Tryz.prog 109 #[.pointer (some ⟨R, 0, none⟩)] w fun e w' => e = .returned (.int .i64 (SynP.colOf fin ts : Nat)) ∧ Below w.heap.size w w' := by
 obtain ⟨ao, cap, rfl, t1, t2, t3⟩ := tks
 by_cases hn : a < L.length
 ·obtain ⟨g, rfl, hg, hc⟩ := t3 (by omega)
  obtain ⟨t, ht⟩ : ∃ t, L[a]? = some t := ⟨_, List.getElem?_eq_getElem hn⟩
  obtain ⟨-, -, d2⟩ := hc a t ht
  have HCOL : Hid (SynP.colOf fin ts = t.2.2) := by
   show _ = _
   rw [← hdr, List.drop_eq_getElem?_toList_append, ht]; rfl
  clear hc t3 hdr
  go_enter Tryz.func109, Tryz.ntmps109
  go_wp2_with fail
  go_region
  go_wp2_with fail
  go_region
  go_wp2_with fail
  go_ret
  exact ⟨by rw [HCOL.out]; rfl, ⟨rfl, rfl, rfl, Nat.le_refl _, fun _ _ => rfl⟩⟩
 ·have HCOL : Hid (SynP.colOf fin ts = fin) := by
   show _ = _
   rw [← hdr, List.drop_eq_nil_of_le (by omega)]; rfl
  clear t3 hdr
  go_enter Tryz.func109, Tryz.ntmps109
  go_wp2_with fail
  go_region
  go_wp2_with fail
  go_ret
  exact ⟨by rw [HCOL.out]; rfl, ⟨rfl, rfl, rfl, Nat.le_refl _, fun _ _ => rfl⟩⟩
theorem rd_col (R : Nat) (lv : Value) (L : List Tok) (fin a : Nat) (s : SynP.St) (nv : Value) (ns : List Nv) (w : World) (h : RS w R lv L fin a s nv ns) :
  Calls Tryz.prog 109 #[.pointer (some ⟨R, 0, none⟩)] w fun e w' => e = .returned (.int .i64 (SynP.colOf fin s.ts : Nat)) ∧ Below w.heap.size w w' :=
 col_raw R lv L fin a s.ts w h.cells.1 h.cells.2.1 h.cells.2.2.1 h.tks h.drop h.le
end Go.Proofs.YtgfmiladfeoldaaGreatDoor
