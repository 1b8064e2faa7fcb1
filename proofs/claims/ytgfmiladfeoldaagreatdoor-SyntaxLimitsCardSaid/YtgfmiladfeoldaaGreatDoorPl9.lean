/- Joined texts of this claim's proof: Num5. -/
import Derived.Test.YtgfmiladfeoldaaGreatDoorPl8
import Derived.Test.YtgfmiladfeoldaaGreatDoorPl5
import Derived.Deep.RegionHeld3
set_option linter.unusedSimpArgs false
set_option linter.unusedVariables false
namespace Go.Proofs.YtgfmiladfeoldaaGreatDoor
open Go.RowKit NatP
theorem Rd.drop {w : World} {g o len cap n : Nat} {xs : List Nat} (h : Rd w (.slice (some ⟨g, o, none⟩) len cap) xs) (hn : n ≤ xs.length) : Rd w (.slice (some ⟨g, o + n, none⟩) (xs.length - n) (cap - n)) (xs.drop n) := by
 obtain ⟨h0, ao', cap', e, h1, h2, h3, h4⟩ := h
 simp only [Value.slice.injEq] at e
 obtain ⟨rfl, rfl, rfl⟩ := e
 refine ⟨fun k hk => h0 k hk, _, _, by rw [List.length_drop], by rw [List.length_drop]; omega, by omega, ok_drop h3 _, fun i x hx => ⟨g, o + n, rfl, ?_⟩⟩
 rw [List.getElem?_drop] at hx
 obtain ⟨g', o', e, hc⟩ := h4 (n + i) x hx
 cases e
 rw [Nat.add_assoc]; exact hc
theorem Rd.none' {w : World} {g o c : Nat} (hg : g < w.heap.size) (hc : c ≤ maxLen) : Rd w (.slice (some ⟨g, o, none⟩) 0 c) [] :=
 ⟨fun k hk => by cases hk; exact hg, _, c, rfl, Nat.zero_le _, hc, ok_nil, fun i x h => by simp at h⟩
theorem Rd.ok {w : World} {v : Value} {xs : List Nat} (h : Rd w v xs) : ok xs := by obtain ⟨_, _, _, _, _, _, h3, _⟩ := h; exact h3
theorem gb_step {w0 w w' : World} {g k : Nat} (h : w0.grownBy w (some g)) (hg : w.grownBy w' (some k)) (hk : k = g ∨ w0.heap.size ≤ k) : w0.grownBy w' (some g) := by
 refine ⟨hg.os.trans h.os, hg.tape.trans h.tape, hg.output.trans h.output, Nat.le_trans h.size hg.size, fun q hq hn => (hg.block q (Nat.lt_of_lt_of_le hq h.size) ?_).trans (h.block q hq hn)⟩
 rcases hk with rfl | hk
 ·exact hn
 ·intro e; cases e; omega
theorem gb_below {w0 w w' : World} {g : Nat} (h : w0.grownBy w (some g)) (hb : Below w.heap.size w w') : w0.grownBy w' (some g) :=
 ⟨hb.os.trans h.os, hb.tape.trans h.tape, hb.output.trans h.output, Nat.le_trans h.size hb.size, fun q hq hn => (hb.block q (Nat.lt_of_lt_of_le hq h.size)).trans (h.block q hq hn)⟩
def ProdPost (xs ys : List Nat) (w : World) (e : Ending) (w' : World) : Prop := ∃ g M, e = .returned (.slice (some ⟨g, 0, none⟩) M.length M.length) ∧ w.heap.size ≤ g ∧ Blk w' g M ∧ M.length = (strip xs).length + (strip ys).length ∧ val M = val xs * val ys ∧ Below w.heap.size w w'
def ProdOk (n : Nat) : Prop := ∀ (xs ys : List Nat) (v u : Value) (w : World), xs.length + ys.length < n → Rd w v xs → Rd w u ys → Calls Tryz.prog 253 #[v, u] w (ProdPost xs ys w)
theorem Blk.whole {w : World} {g : Nat} {L : List Nat} (h : Blk w g L) (hc : L.length ≤ 1099511627776) : Rd w (.slice (some ⟨g, 0, none⟩) L.length L.length) L := by
 have := h.rd (o := 0) (n := L.length) (c := L.length) (by omega) (Nat.le_refl _) (by unfold maxLen; omega)
 rw [List.drop_zero, List.take_length] at this
 exact this
theorem below_drewN' (w : World) (n : Nat) : Below w.heap.size w (w.drewN n) := ⟨rfl, rfl, rfl, Nat.le_refl _, fun _ _ => rfl⟩
theorem wpList_copy_blk {P : Program} {w : World} {ops : Array Oper} {rest : List Oper} {o : Oper} {a : Act} {Q : Exit → Act → World → Prop} (hgd : o.guard = none) (d s : Operand) (dT sT : TypeId)
  (ho : o.op = .call { callee := .builtin .copy, args := #[d, s], argTypes := #[dT, sT] }) (hu : P.underlying dT = some (.slice 101)) (hsz : (P.info? 101).map (·.size) = some 1)
  (g n c sCap : Nat) (sp : Option Addr) (L cs : List Nat) (hd : a.eval d = .slice (some ⟨g, 0, none⟩) n c) (hs : a.eval s = .slice sp cs.length sCap) (hB : Blk w g L) (hR : Rd w (.slice sp cs.length sCap) cs) (hn : cs.length ≤ n) (hnL : n ≤ L.length)
  (h : ∀ w', Hid (Blk w' g (cs ++ L.drop cs.length)) → Hid (w.grownBy w' (some g)) → wpList P ops Q rest (a.put o.dst (goInt cs.length)) w') : wpList P ops Q (o :: rest) a w := by
 by_cases h0 : cs.length = 0
 ·obtain rfl : cs = [] := List.eq_nil_of_length_eq_zero h0
  refine wpList_copy_nothing hgd d s dT sT ho 101 hu hsz (some ⟨g, 0, none⟩) sp n c 0 sCap hd hs (Nat.min_eq_left (Nat.zero_le _)) ?_
  exact h w (show Blk _ _ _ by simpa using hB) (grown_refl w _)
 ·obtain ⟨_, ao', cap', e, h1, h2, h3, h4⟩ := hR
  simp only [Value.slice.injEq] at e
  obtain ⟨rfl, -, rfl⟩ := e
  obtain ⟨gs, os, rfl, _⟩ := h4 0 cs[0] (List.getElem?_eq_getElem (by omega))
  have hw : Blk (w.setRow g ((ws L).toArray.toList.take 0 ++ (ws cs ++ (ws L).toArray.toList.drop (0 + (ws cs).length))).toArray) g (cs ++ L.drop cs.length) := by
   refine ⟨?_, ok_append h3 (ok_drop hB.2 _)⟩
   rw [setRow_heap w g _ _ 101 _ hB.1]
   simp [ws]
  refine wpList_copy_own hgd d s dT sT ho 101 hu hsz g 0 n c ⟨gs, os, none⟩ cs.length sCap hd hs (ws L).toArray 101 hB.1 (ws cs) (by rw [ws_length]; exact (Nat.min_eq_left hn).symm) ?_ (by simp [ws]; omega) (ws_one _) ?_
  ·intro j v hv
   simp only [ws, List.getElem?_map, Option.map_eq_some_iff] at hv
   obtain ⟨x, hx, rfl⟩ := hv
   obtain ⟨g', o', e, hc⟩ := h4 j x hx
   cases e
   have e2 : (⟨gs, os, none⟩ : Addr).add j = ⟨gs, os + j, none⟩ := by unfold Addr.add; split <;> simp_all
   rw [e2]; exact hc
  ·rw [ws_length]
   rw [ws_length] at hw
   refine h _ hw ?_
   exact ⟨rfl, rfl, rfl, by simp [World.setRow], fun k _ hk => setRow_other w g k _ (fun e => hk (by rw [e]))⟩
theorem mtrim_any' (ao : Option Addr) (n cap : Nat) (xs : List Nat) (w : World) (hr : Rd w (.slice ao n cap) xs) :
  Calls Tryz.prog 273 #[.slice ao n cap] w fun e w' => e = .returned (.slice ao (strip xs).length (strip xs).length) ∧ w = w' := by
 have h := hr
 obtain ⟨_, ao', cap', e, -⟩ := h
 simp only [Value.slice.injEq] at e
 obtain ⟨rfl, rfl, rfl⟩ := e
 exact mtrim_any _ _ _ _ hr
theorem trim_rd' {ao : Option Addr} {n cap : Nat} {xs : List Nat} {w : World} (hr : Rd w (.slice ao n cap) xs) : Rd w (.slice ao (strip xs).length (strip xs).length) (strip xs) := by
 have h := hr
 obtain ⟨_, ao', cap', e, -⟩ := h
 simp only [Value.slice.injEq] at e
 obtain ⟨rfl, rfl, rfl⟩ := e
 exact trim_rd hr
set_option maxRecDepth 100000 in
set_option maxHeartbeats 4000000 in
theorem halves_any (g ga oa gb ob hf : Nat) (xs ys : List Nat) (w : World) (IH : ProdOk (xs.length + ys.length)) (hL : Blk w g (List.replicate (xs.length + ys.length) 0)) (hN : xs.length + ys.length ≤ 274877906944)
  (ha : Rd w (.slice (some ⟨ga, oa, none⟩) xs.length xs.length) xs) (hb : Rd w (.slice (some ⟨gb, ob, none⟩) ys.length ys.length) ys) (hga : ga ≠ g) (hgb : gb ≠ g) (hh : hf = (xs.length + 1) / 2) (hxy : ys.length ≤ xs.length) (h24 : 24 ≤ ys.length) (h2 : xs.length < 2 * ys.length) :
  Calls Tryz.prog 276 #[.slice (some ⟨g, 0, none⟩) (xs.length + ys.length) (xs.length + ys.length), .slice (some ⟨ga, oa, none⟩) xs.length xs.length, .slice (some ⟨gb, ob, none⟩) ys.length ys.length] w (RowPost xs ys g w) := by
 have hx1 : hf < xs.length := by omega
 have hy1 : hf ≤ ys.length := by omega
 have HH := Lib.hid (Half.mk ha.ok hb.ok (by omega) hy1)
 have HI := Lib.hid IH
 have HZ := Lib.hid hL
 have HA0 := Lib.hid (ha.take (n := hf) (c := hf) (by omega) (Nat.le_refl _) (by omega))
 have HA1 := Lib.hid (ha.drop (n := hf) (by omega))
 have HB0 := Lib.hid (hb.take (n := hf) (c := hf) hy1 (Nat.le_refl _) hy1)
 have hgbl := hb.lt (k := gb) rfl
 have hdiv : ((xs.length : Int) + 1) / 2 = (hf : Int) := by omega
 have HB1a := Lib.hid (hb.drop (n := hf) (by omega))
 clear ha hb hL IH hh
 by_cases hyh : hf < ys.length
 ·have HB1 := HB1a
  clear HB1a
  go_enter Tryz.func276, Tryz.ntmps276
  go_wp2_with fail
  go_quiet (fail)
  go_wp2_with fail
  go_quiet (fail)
  go_wp2_with fail
  refine (HI.out _ _ _ _ _ (by rw [List.length_take, List.length_take]; omega) (HA0.out.drewN _) (HB0.out.drewN _)).mono ?_
  rintro e w1 ⟨g1, L1, rfl, hg1, hB1, hl1, hv1, hbel1⟩
  have C1 : Below w.heap.size w w1 := (below_drewN' w _).trans hbel1
  have hq1 : w.heap.size ≤ g1 := hg1
  have hs1 := hB1.lt
  have hz1 := C1.size
  have hll1 : L1.length ≤ 274877906944 := by have q1 := strip_le (xs.take hf); have q2 := strip_le (ys.take hf); rw [List.length_take] at q1 q2; omega
  have R1 := Lib.hid (hB1.whole (by omega))
  have K1 := Lib.hid C1
  have V1 := Lib.hid hv1
  clear hbel1 hB1 hl1 hv1 C1 hg1
  go_wp2_with fail
  refine (mtrim_any _ _ L1 _ R1.out).mono ?_
  rintro e w' ⟨rfl, rfl⟩
  have T1 := Lib.hid (trim_rd R1.out)
  go_wp2_with fail
  refine (HI.out _ _ _ _ _ (by rw [List.length_drop, List.length_drop]; omega) (HA1.out.below K1.out) (HB1.out.below K1.out)).mono ?_
  rintro e w2 ⟨g2, L2, rfl, hg2, hB2, hl2, hv2, hbel2⟩
  have hs2 := hB2.lt
  have hz2 := hbel2.size
  have hll2 : L2.length ≤ 274877906944 := by have q1 := strip_le (xs.drop hf); have q2 := strip_le (ys.drop hf); rw [List.length_drop] at q1 q2; omega
  have R2 := Lib.hid (hB2.whole (by omega))
  have K2 : Hid (Below w.heap.size w w2) := K1.out.trans (hbel2.mono hz1)
  have V2 := Lib.hid hv2
  have T1b := Lib.hid (T1.out.below hbel2)
  clear hbel2 hB2 hl2 hv2 R1 T1
  go_wp2_with fail
  refine (mtrim_any _ _ L2 _ R2.out).mono ?_
  rintro e w' ⟨rfl, rfl⟩
  have T2 := Lib.hid (trim_rd R2.out)
  go_wp2_with fail
  refine (sum_any _ _ _ _ _ (HA0.out.below K2.out) (HA1.out.below K2.out) (by rw [List.length_take]; omega) (by rw [List.length_drop]; omega)).mono ?_
  rintro e w3 ⟨g3, S1, rfl, hg3, hB3, hl3, hv3, hbel3⟩
  rw [List.length_take, List.length_drop] at hl3
  have hs3 := hB3.lt
  have hz3 := hbel3.size
  have R3 := Lib.hid (hB3.whole (by omega))
  have K3 : Hid (Below w.heap.size w w3) := K2.out.trans (hbel3.mono (by omega))
  have V3 := Lib.hid hv3
  have T1c := Lib.hid (T1b.out.below hbel3)
  have T2c := Lib.hid (T2.out.below hbel3)
  have HL3 := Lib.hid hl3
  clear hbel3 hB3 hv3 R2 T2 T1b hl3
  go_wp2_with fail
  refine (sum_any _ _ _ _ _ (HB0.out.below K3.out) (HB1.out.below K3.out) (by rw [List.length_take]; omega) (by rw [List.length_drop]; omega)).mono ?_
  rintro e w4 ⟨g4, S2, rfl, hg4, hB4, hl4, hv4, hbel4⟩
  rw [List.length_take, List.length_drop] at hl4
  have hs4 := hB4.lt
  have hz4 := hbel4.size
  have R4 := Lib.hid (hB4.whole (by omega))
  have R3d := Lib.hid (R3.out.below hbel4)
  have K4 : Hid (Below w.heap.size w w4) := K3.out.trans (hbel4.mono (by omega))
  have V4 := Lib.hid hv4
  have T1d := Lib.hid (T1c.out.below hbel4)
  have T2d := Lib.hid (T2c.out.below hbel4)
  have hS : S1.length + S2.length < xs.length + ys.length := by have := HL3.out; omega
  clear hbel4 hB4 hv4 R3 T1c T2c hl4
  go_wp2_with fail
  refine (HI.out _ _ _ _ _ hS R3d.out R4.out).mono ?_
  rintro e w5 ⟨g5, L5, rfl, hg5, hB5, hl5, hv5, hbel5⟩
  have hs5 := hB5.lt
  have hz5 := hbel5.size
  have hll5 : L5.length ≤ 274877906944 := by have q1 := strip_le S1; have q2 := strip_le S2; omega
  have K5 : Hid (Below w.heap.size w w5) := K4.out.trans (hbel5.mono (by omega))
  have V5 : Hid (val L5 = (val (xs.take hf) + val (xs.drop hf)) * (val (ys.take hf) + val (ys.drop hf))) := by show _ = _; rw [hv5, V3.out, V4.out]
  have T1e := Lib.hid (T1d.out.below hbel5)
  have T2e := Lib.hid (T2d.out.below hbel5)
  have hgl := HZ.out.lt
  have n15 : g1 ≠ g5 := by omega
  have n25 : g2 ≠ g5 := by omega
  have n5g : g5 ≠ g := by omega
  have n1g : g1 ≠ g := by omega
  have n2g : g2 ≠ g := by omega
  have hq5 : w.heap.size ≤ g5 := by omega
  have B5 := Lib.hid hB5
  have HZ5 := Lib.hid (HZ.out.below K5.out HZ.out.lt)
  clear hbel5 hB5 hv5 hl5 R3d R4 T1d T2d V3 V4 HL3 hS
  obtain ⟨hle1, hlen1⟩ := Half.sub1 B5.out.2 V5.out V1.out
  have HLE1 := Lib.hid hle1
  clear hle1
  go_wp2_with fail
  refine (subFrom_any g5 L5.length L5.length L5 (strip L1) _ _ B5.out rfl (Nat.le_refl _) (by omega) T1e.out (by intro e; cases e; exact n15 rfl) hlen1 HLE1.out).mono ?_
  rintro e w6 ⟨rfl, M1, hB6, hl6, hv6, hgr6⟩
  have hz6 := hgr6.size
  have hs6 := hB6.lt
  have G6 : Hid (w.grownBy w6 (some g)) := gb_step (gb_below (grown_refl w (some g)) K5.out) hgr6 (.inr hq5)
  have T1f := Lib.hid (T1e.out.kept hgr6 (by intro k hk e; cases hk; cases e; exact n15 rfl))
  have T2f := Lib.hid (T2e.out.kept hgr6 (by intro k hk e; cases hk; cases e; exact n25 rfl))
  have HZ6 := Lib.hid (HZ5.out.kept hgr6 (by intro e; cases e; exact n5g rfl))
  have B6 := Lib.hid hB6
  have V6 := Lib.hid hv6
  obtain ⟨hle2, hlen2⟩ := Half.sub2 hB6.2 V5.out V1.out V2.out hv6
  have HLE2 := Lib.hid hle2
  clear hle2 hB6 hv6 hgr6 T1e T2e HZ5 B5 K5
  have HL6 := Lib.hid hl6
  have hlen2' : (strip L2).length ≤ L5.length := by omega
  clear hl6 hlen2
  go_wp2_with fail
  refine (subFrom_any g5 L5.length L5.length M1 (strip L2) _ _ B6.out HL6.out.symm (Nat.le_refl _) (by omega) T2f.out (by intro e; cases e; exact n25 rfl) hlen2' HLE2.out).mono ?_
  rintro e w7 ⟨rfl, M2, hB7, hl7, hv7, hgr7⟩
  have hz7 := hgr7.size
  have hs7 := hB7.lt
  have G7 : Hid (w.grownBy w7 (some g)) := gb_step G6.out hgr7 (.inr hq5)
  have T1g := Lib.hid (T1f.out.kept hgr7 (by intro k hk e; cases hk; cases e; exact n15 rfl))
  have T2g := Lib.hid (T2f.out.kept hgr7 (by intro k hk e; cases hk; cases e; exact n25 rfl))
  have HZ7 := Lib.hid (HZ6.out.kept hgr7 (by intro e; cases e; exact n5g rfl))
  have B7 := Lib.hid hB7
  have V7 := Lib.hid (Half.mid V5.out V1.out V2.out V6.out hv7)
  have hlow := HH.out.low_len V1.out
  have hhigh := HH.out.high_len V2.out
  have hmid := HH.out.mid_len V7.out
  clear hB7 hv7 hgr7 T1f T2f HZ6 B6 G6 HLE1 HLE2 V5 V6
  have hzl : (List.replicate (xs.length + ys.length) 0).length = xs.length + ys.length := List.length_replicate
  have HZL := Lib.hid hzl
  clear hzl
  have HL7 : Hid (M2.length = L5.length) := hl7.trans HL6.out
  clear hl7
  go_wp2_with ((with_reducible refine wpList_copy_blk (o := ⟨some 55, _, _, _, _, _⟩) rfl (.tmp 53) (.tmp 54) 59 59 rfl Tryz.underlying59 Tryz.infoW1 g (xs.length + ys.length) (xs.length + ys.length) _ _ (List.replicate (xs.length + ys.length) 0) (strip L1) rfl rfl HZ7.out T1g.out (by omega) (by rw [HZL.out]; exact Nat.le_refl _) ?_); intro w8 hB8 hgr8)
  have T2h := Lib.hid (T2g.out.kept hgr8.out (by intro k hk e; cases hk; cases e; exact n2g rfl))
  have B7h := Lib.hid (B7.out.kept hgr8.out (by intro e; cases e; exact n5g rfl))
  have G8 : Hid (w.grownBy w8 (some g)) := gb_step G7.out hgr8.out (.inl rfl)
  have hz8 := hgr8.out.size
  have h2n : 2 * hf < xs.length + ys.length := by omega
  clear hgr8 T2g B7 G7 HZ7 HZL T1g
  go_wp2_with fail
  refine (addTo_any g (2 * hf) (xs.length + ys.length - 2 * hf) (xs.length + ys.length - 2 * hf) _ (strip L2) _ _ hB8.out (by rw [List.length_append, List.length_drop, List.length_replicate]; omega) (Nat.le_refl _) (by omega) T2h.out (by intro e; cases e; exact n2g rfl) hhigh).mono ?_
  rintro e w9 ⟨rfl, Z, hB9, ⟨hlz, htz, hcz⟩, hgr9⟩
  obtain ⟨hzl, hzv⟩ := HH.out.add1 rfl V1.out V2.out (by rw [List.drop_replicate]) hlz htz hcz
  have B9 := Lib.hid hB9
  have B7i := Lib.hid (B7h.out.kept hgr9 (by intro e; cases e; exact n5g rfl))
  have G9 : Hid (w.grownBy w9 (some g)) := gb_step G8.out hgr9 (.inl rfl)
  have ZL := Lib.hid hzl
  have ZV := Lib.hid hzv
  have R5 := Lib.hid (B7i.out.whole (by have := HL7.out; omega))
  have hm2 : M2.length = L5.length := HL7.out
  rw [hm2] at R5
  clear hB9 hlz htz hcz hgr9 hzl hzv hB8 T2h B7h G8 hm2
  go_wp2_with fail
  have T5 : Hid (Rd w9.drew _ (strip M2)) := trim_rd' (w := w9.drew) (by exact R5.out)
  have hi0 : (0 : Int) ≤ (hf : Int) := Int.natCast_nonneg _
  have hcap : ¬ (xs.length + ys.length = hf) := by omega
  have hi1 : (hf : Int) ≤ ((xs.length : Int) + (ys.length : Int)) := by omega
  go_region_held3 (fun _ => True) (trivial)
   (first
    | (go_at_call 273; refine (mtrim_any' _ _ _ M2 _ (by exact R5.out)).mono ?_; rintro e w' ⟨rfl, rfl⟩)
    | (go_at_call 275; refine (addTo_any g hf (xs.length + ys.length - hf) (xs.length + ys.length - hf) Z (strip M2) _ _ (by exact B9.out) (by rw [ZL.out]; omega) (Nat.le_refl _) (by omega) T5.out (by intro e; cases e; exact n5g rfl) hmid).mono ?_; rintro e w10 ⟨rfl, M, hB10, ⟨hlm, htm, hcm⟩, hgr10⟩))
  have HF := Lib.hid (HH.out.add2 ZL.out ZV.out V7.out hlm htm hcm)
  have B10 := Lib.hid hB10
  have G10 : Hid (w.grownBy w10 (some g)) := gb_step (gb_step G9.out (grown_drewN w9 1 (some g)) (.inl rfl)) hgr10 (.inl rfl)
  clear hB10 hlm htm hcm hgr10
  go_wp2_with fail
  go_end0
  exact ⟨rfl, M, B10.out, HF.out.1, HF.out.2, G10.out⟩
 ·have hy2 : ys.length ≤ hf := by omega
  have HB1 : Hid (Rd w (.slice (some ⟨gb, ob, none⟩) 0 0) (ys.drop hf)) := by
   show Rd _ _ _
   rw [List.drop_eq_nil_of_le hy2]; exact Rd.none' hgbl (by unfold maxLen; omega)
  clear HB1a hyh
  go_enter Tryz.func276, Tryz.ntmps276
  go_wp2_with fail
  go_quiet (fail)
  go_wp2_with fail
  go_quiet (fail)
  go_wp2_with fail
  refine (HI.out _ _ _ _ _ (by rw [List.length_take, List.length_take]; omega) (HA0.out.drewN _) (HB0.out.drewN _)).mono ?_
  rintro e w1 ⟨g1, L1, rfl, hg1, hB1, hl1, hv1, hbel1⟩
  have C1 : Below w.heap.size w w1 := (below_drewN' w _).trans hbel1
  have hq1 : w.heap.size ≤ g1 := hg1
  have hs1 := hB1.lt
  have hz1 := C1.size
  have hll1 : L1.length ≤ 274877906944 := by have q1 := strip_le (xs.take hf); have q2 := strip_le (ys.take hf); rw [List.length_take] at q1 q2; omega
  have R1 := Lib.hid (hB1.whole (by omega))
  have K1 := Lib.hid C1
  have V1 := Lib.hid hv1
  clear hbel1 hB1 hl1 hv1 C1 hg1
  go_wp2_with fail
  refine (mtrim_any _ _ L1 _ R1.out).mono ?_
  rintro e w' ⟨rfl, rfl⟩
  have T1 := Lib.hid (trim_rd R1.out)
  go_wp2_with fail
  refine (HI.out _ _ _ _ _ (by rw [List.length_drop, List.length_drop]; omega) (HA1.out.below K1.out) (HB1.out.below K1.out)).mono ?_
  rintro e w2 ⟨g2, L2, rfl, hg2, hB2, hl2, hv2, hbel2⟩
  have hs2 := hB2.lt
  have hz2 := hbel2.size
  have hll2 : L2.length ≤ 274877906944 := by have q1 := strip_le (xs.drop hf); have q2 := strip_le (ys.drop hf); rw [List.length_drop] at q1 q2; omega
  have R2 := Lib.hid (hB2.whole (by omega))
  have K2 : Hid (Below w.heap.size w w2) := K1.out.trans (hbel2.mono hz1)
  have V2 := Lib.hid hv2
  have T1b := Lib.hid (T1.out.below hbel2)
  clear hbel2 hB2 hl2 hv2 R1 T1
  go_wp2_with fail
  refine (mtrim_any _ _ L2 _ R2.out).mono ?_
  rintro e w' ⟨rfl, rfl⟩
  have T2 := Lib.hid (trim_rd R2.out)
  go_wp2_with fail
  refine (sum_any _ _ _ _ _ (HA0.out.below K2.out) (HA1.out.below K2.out) (by rw [List.length_take]; omega) (by rw [List.length_drop]; omega)).mono ?_
  rintro e w3 ⟨g3, S1, rfl, hg3, hB3, hl3, hv3, hbel3⟩
  rw [List.length_take, List.length_drop] at hl3
  have hs3 := hB3.lt
  have hz3 := hbel3.size
  have R3 := Lib.hid (hB3.whole (by omega))
  have K3 : Hid (Below w.heap.size w w3) := K2.out.trans (hbel3.mono (by omega))
  have V3 := Lib.hid hv3
  have T1c := Lib.hid (T1b.out.below hbel3)
  have T2c := Lib.hid (T2.out.below hbel3)
  have HL3 := Lib.hid hl3
  clear hbel3 hB3 hv3 R2 T2 T1b hl3
  go_wp2_with fail
  refine (sum_any _ _ _ _ _ (HB0.out.below K3.out) (HB1.out.below K3.out) (by rw [List.length_take]; omega) (by rw [List.length_drop]; omega)).mono ?_
  rintro e w4 ⟨g4, S2, rfl, hg4, hB4, hl4, hv4, hbel4⟩
  rw [List.length_take, List.length_drop] at hl4
  have hs4 := hB4.lt
  have hz4 := hbel4.size
  have R4 := Lib.hid (hB4.whole (by omega))
  have R3d := Lib.hid (R3.out.below hbel4)
  have K4 : Hid (Below w.heap.size w w4) := K3.out.trans (hbel4.mono (by omega))
  have V4 := Lib.hid hv4
  have T1d := Lib.hid (T1c.out.below hbel4)
  have T2d := Lib.hid (T2c.out.below hbel4)
  have hS : S1.length + S2.length < xs.length + ys.length := by have := HL3.out; omega
  clear hbel4 hB4 hv4 R3 T1c T2c hl4
  go_wp2_with fail
  refine (HI.out _ _ _ _ _ hS R3d.out R4.out).mono ?_
  rintro e w5 ⟨g5, L5, rfl, hg5, hB5, hl5, hv5, hbel5⟩
  have hs5 := hB5.lt
  have hz5 := hbel5.size
  have hll5 : L5.length ≤ 274877906944 := by have q1 := strip_le S1; have q2 := strip_le S2; omega
  have K5 : Hid (Below w.heap.size w w5) := K4.out.trans (hbel5.mono (by omega))
  have V5 : Hid (val L5 = (val (xs.take hf) + val (xs.drop hf)) * (val (ys.take hf) + val (ys.drop hf))) := by show _ = _; rw [hv5, V3.out, V4.out]
  have T1e := Lib.hid (T1d.out.below hbel5)
  have T2e := Lib.hid (T2d.out.below hbel5)
  have hgl := HZ.out.lt
  have n15 : g1 ≠ g5 := by omega
  have n25 : g2 ≠ g5 := by omega
  have n5g : g5 ≠ g := by omega
  have n1g : g1 ≠ g := by omega
  have n2g : g2 ≠ g := by omega
  have hq5 : w.heap.size ≤ g5 := by omega
  have B5 := Lib.hid hB5
  have HZ5 := Lib.hid (HZ.out.below K5.out HZ.out.lt)
  clear hbel5 hB5 hv5 hl5 R3d R4 T1d T2d V3 V4 HL3 hS
  obtain ⟨hle1, hlen1⟩ := Half.sub1 B5.out.2 V5.out V1.out
  have HLE1 := Lib.hid hle1
  clear hle1
  go_wp2_with fail
  refine (subFrom_any g5 L5.length L5.length L5 (strip L1) _ _ B5.out rfl (Nat.le_refl _) (by omega) T1e.out (by intro e; cases e; exact n15 rfl) hlen1 HLE1.out).mono ?_
  rintro e w6 ⟨rfl, M1, hB6, hl6, hv6, hgr6⟩
  have hz6 := hgr6.size
  have hs6 := hB6.lt
  have G6 : Hid (w.grownBy w6 (some g)) := gb_step (gb_below (grown_refl w (some g)) K5.out) hgr6 (.inr hq5)
  have T1f := Lib.hid (T1e.out.kept hgr6 (by intro k hk e; cases hk; cases e; exact n15 rfl))
  have T2f := Lib.hid (T2e.out.kept hgr6 (by intro k hk e; cases hk; cases e; exact n25 rfl))
  have HZ6 := Lib.hid (HZ5.out.kept hgr6 (by intro e; cases e; exact n5g rfl))
  have B6 := Lib.hid hB6
  have V6 := Lib.hid hv6
  obtain ⟨hle2, hlen2⟩ := Half.sub2 hB6.2 V5.out V1.out V2.out hv6
  have HLE2 := Lib.hid hle2
  clear hle2 hB6 hv6 hgr6 T1e T2e HZ5 B5 K5
  have HL6 := Lib.hid hl6
  have hlen2' : (strip L2).length ≤ L5.length := by omega
  clear hl6 hlen2
  go_wp2_with fail
  refine (subFrom_any g5 L5.length L5.length M1 (strip L2) _ _ B6.out HL6.out.symm (Nat.le_refl _) (by omega) T2f.out (by intro e; cases e; exact n25 rfl) hlen2' HLE2.out).mono ?_
  rintro e w7 ⟨rfl, M2, hB7, hl7, hv7, hgr7⟩
  have hz7 := hgr7.size
  have hs7 := hB7.lt
  have G7 : Hid (w.grownBy w7 (some g)) := gb_step G6.out hgr7 (.inr hq5)
  have T1g := Lib.hid (T1f.out.kept hgr7 (by intro k hk e; cases hk; cases e; exact n15 rfl))
  have T2g := Lib.hid (T2f.out.kept hgr7 (by intro k hk e; cases hk; cases e; exact n25 rfl))
  have HZ7 := Lib.hid (HZ6.out.kept hgr7 (by intro e; cases e; exact n5g rfl))
  have B7 := Lib.hid hB7
  have V7 := Lib.hid (Half.mid V5.out V1.out V2.out V6.out hv7)
  have hlow := HH.out.low_len V1.out
  have hhigh := HH.out.high_len V2.out
  have hmid := HH.out.mid_len V7.out
  clear hB7 hv7 hgr7 T1f T2f HZ6 B6 G6 HLE1 HLE2 V5 V6
  have hzl : (List.replicate (xs.length + ys.length) 0).length = xs.length + ys.length := List.length_replicate
  have HZL := Lib.hid hzl
  clear hzl
  have HL7 : Hid (M2.length = L5.length) := hl7.trans HL6.out
  clear hl7
  go_wp2_with ((with_reducible refine wpList_copy_blk (o := ⟨some 55, _, _, _, _, _⟩) rfl (.tmp 53) (.tmp 54) 59 59 rfl Tryz.underlying59 Tryz.infoW1 g (xs.length + ys.length) (xs.length + ys.length) _ _ (List.replicate (xs.length + ys.length) 0) (strip L1) rfl rfl HZ7.out T1g.out (by omega) (by rw [HZL.out]; exact Nat.le_refl _) ?_); intro w8 hB8 hgr8)
  have T2h := Lib.hid (T2g.out.kept hgr8.out (by intro k hk e; cases hk; cases e; exact n2g rfl))
  have B7h := Lib.hid (B7.out.kept hgr8.out (by intro e; cases e; exact n5g rfl))
  have G8 : Hid (w.grownBy w8 (some g)) := gb_step G7.out hgr8.out (.inl rfl)
  have hz8 := hgr8.out.size
  have h2n : 2 * hf < xs.length + ys.length := by omega
  clear hgr8 T2g B7 G7 HZ7 HZL T1g
  go_wp2_with fail
  refine (addTo_any g (2 * hf) (xs.length + ys.length - 2 * hf) (xs.length + ys.length - 2 * hf) _ (strip L2) _ _ hB8.out (by rw [List.length_append, List.length_drop, List.length_replicate]; omega) (Nat.le_refl _) (by omega) T2h.out (by intro e; cases e; exact n2g rfl) hhigh).mono ?_
  rintro e w9 ⟨rfl, Z, hB9, ⟨hlz, htz, hcz⟩, hgr9⟩
  obtain ⟨hzl, hzv⟩ := HH.out.add1 rfl V1.out V2.out (by rw [List.drop_replicate]) hlz htz hcz
  have B9 := Lib.hid hB9
  have B7i := Lib.hid (B7h.out.kept hgr9 (by intro e; cases e; exact n5g rfl))
  have G9 : Hid (w.grownBy w9 (some g)) := gb_step G8.out hgr9 (.inl rfl)
  have ZL := Lib.hid hzl
  have ZV := Lib.hid hzv
  have R5 := Lib.hid (B7i.out.whole (by have := HL7.out; omega))
  have hm2 : M2.length = L5.length := HL7.out
  rw [hm2] at R5
  clear hB9 hlz htz hcz hgr9 hzl hzv hB8 T2h B7h G8 hm2
  go_wp2_with fail
  have T5 : Hid (Rd w9.drew _ (strip M2)) := trim_rd' (w := w9.drew) (by exact R5.out)
  have hi0 : (0 : Int) ≤ (hf : Int) := Int.natCast_nonneg _
  have hcap : ¬ (xs.length + ys.length = hf) := by omega
  have hi1 : (hf : Int) ≤ ((xs.length : Int) + (ys.length : Int)) := by omega
  go_region_held3 (fun _ => True) (trivial)
   (first
    | (go_at_call 273; refine (mtrim_any' _ _ _ M2 _ (by exact R5.out)).mono ?_; rintro e w' ⟨rfl, rfl⟩)
    | (go_at_call 275; refine (addTo_any g hf (xs.length + ys.length - hf) (xs.length + ys.length - hf) Z (strip M2) _ _ (by exact B9.out) (by rw [ZL.out]; omega) (Nat.le_refl _) (by omega) T5.out (by intro e; cases e; exact n5g rfl) hmid).mono ?_; rintro e w10 ⟨rfl, M, hB10, ⟨hlm, htm, hcm⟩, hgr10⟩))
  have HF := Lib.hid (HH.out.add2 ZL.out ZV.out V7.out hlm htm hcm)
  have B10 := Lib.hid hB10
  have G10 : Hid (w.grownBy w10 (some g)) := gb_step (gb_step G9.out (grown_drewN w9 1 (some g)) (.inl rfl)) hgr10 (.inl rfl)
  clear hB10 hlm htm hcm hgr10
  go_wp2_with fail
  go_end0
  exact ⟨rfl, M, B10.out, HF.out.1, HF.out.2, G10.out⟩
end Go.Proofs.YtgfmiladfeoldaaGreatDoor
