/- Joined texts of this claim's proof: RdL, RdN, RdO, RdQ. -/
import Derived.Test.YtgfmiladfeoldaaGreatDoorPl28
set_option linter.unusedSimpArgs false
set_option linter.unusedVariables false
namespace Go.Proofs.YtgfmiladfeoldaaGreatDoor
open Go.RowKit NatP LexP
def ExOk (F : Nat) (P : SynP.St → SynP.PR SynP.Ex) (fin : Nat) : Prop := ∀ (R : Nat) (tv : Value) (L : List Tok) (a : Nat) (s : SynP.St) (nv : Value) (ns : List Nv) (w : World), RS w R tv L fin a s nv ns → P s ≠ none →
 Calls Tryz.prog F #[.pointer (some ⟨R, 0, none⟩)] w (RP (P s) R tv L fin s nv ns (ExQ ns) w)
theorem mark_len {x : Bytes} {s : SynP.St} (h : SynP.isMark x s.ts = true) : s.adv.ts.length + 1 = s.ts.length := by
 have h2 := List.length_pos_iff.2 (isMark_ne h)
 show s.ts.tail.length + 1 = _
 rw [List.length_tail]; omega
def TuO (R : Nat) (tv : Value) (L : List Tok) (fin : Nat) (s0 : SynP.St) (nv : Value) (ns : List Nv) (w : World) (r : SynP.PR SynP.Ex) (kv : Value) (wr : World) : Prop :=
 ∃ g k s' a' nv' ns', SynP.turns g k s' = r ∧ PSt R tv L fin s0 nv ns w wr a' s' nv' ns' ∧ ExQ ns k kv ns' nv' wr
set_option maxRecDepth 100000 in
set_option maxHeartbeats 4000000 in
theorem post_of (fin f : Nat) (IH : ExOk 251 (SynP.atom fin f) fin) : ExOk 235 (SynP.post fin (f + 1)) fin := by
 intro R tv L a s nv ns w h hf
 have H := Lib.hid h
 have HIH := Lib.hid IH
 obtain ⟨r, hr⟩ : ∃ r, r = SynP.post fin (f + 1) s := ⟨_, rfl⟩
 rw [← hr] at hf ⊢
 have HR0 : Hid (r = (SynP.atom fin f s).bind fun k s => SynP.turns f k s) := by show _ = _; rw [hr]; rfl
 have HNE := Lib.hid hf
 have hfew := h.few
 clear h hr hf IH
 go_enter Tryz.func235, Tryz.ntmps235
 go_wp2_with fail
 refine (HIH.out R tv L a s nv ns _ H.out (fun e => HNE.out (by rw [HR0.out, e]; rfl))).mono ?_
 rintro e w1 hn
 rcases hN : SynP.atom fin f s with - | (⟨fc, fk⟩ | ⟨k, s1⟩)
 ·rw [hN] at hn; exact hn.elim
 ·rw [hN] at hn
  obtain ⟨rfl, n1⟩ := hn
  refine ⟨rfl, ?_⟩
  have hre : r = some (.error (fc, fk)) := by rw [HR0.out, hN]; rfl
  rw [hre]
  exact ⟨rfl, n1⟩
 rw [hN] at hn
 obtain ⟨v1, a1, nv1, ns1, rfl, n1, n2⟩ := hn
 have HST : Hid (TuO R tv L fin s nv ns w r v1 w1) := ⟨f, k, s1, a1, nv1, ns1, by rw [HR0.out, hN]; rfl, n1, n2⟩
 clear n1 n2 hN
 go_wp2_with fail
 go_loopw [3] (fun kv wr => TuO R tv L fin s nv ns w r kv wr) (fun _ wr => leftOf L R wr)
 case atStart => exact HST.out
 clear HST
 case round =>
  obtain ⟨g, k, s2, a2, nv2, ns2, htu, hps, hex⟩ := hrel
  obtain ⟨wo, rfl⟩ : ∃ wo, wo = wr := ⟨_, rfl⟩
  cases g with
  | zero => exact absurd htu.symm HNE.out
  | succ g =>
   have hlen := hex.len
   have hsp := size_pos k
   obtain ⟨rfl, hfl⟩ := hex
   obtain ⟨p, hp⟩ : ∃ p, p = ns.length + k.size - 1 := ⟨_, rfl⟩
   rw [← hp]
   have HP := Lib.hid hp
   have HPS := Lib.hid hps
   have HFL := Lib.hid hfl
   have HL2 := Lib.hid hps.rs.left
   have HTU := Lib.hid htu
   have hfw := hps.few
   rw [List.length_append] at hfw
   clear hp hps hfl htu
   go_wp2_with fail
   refine (rd_take R tv L fin a2 s2 nv2 (ns ++ ns2) _ HPS.out.rs [39]).mono ?_
   rintro e w3 ⟨rfl, t1, t2⟩
   cases hm : SynP.isMark [39] s2.ts with
   | true =>
    rw [if_pos hm] at t2
    have hml := mark_len hm
    have HRR : Hid (SynP.turns g (.turn k) s2.adv = r) := by
     have h1 := HTU.out
     unfold SynP.turns at h1
     rw [if_pos hm] at h1
     exact h1
    have HP3 := Lib.hid (HPS.out.step t2 t1 (by omega) rfl)
    have hkn := (KNew.fresh t2 [p]).resolve_right (by simp)
    have HKN := Lib.hid hkn
    have HA := Lib.hid (below_alloc w3 (.cells #[.int .i64 ((p : Nat) : Int)] 3))
    have HP4 := Lib.hid (HP3.out.step (HP3.out.rs.below HA.out) (Wr.of_below HA.out) (Nat.le_refl _) rfl)
    clear t1 t2 hm hkn
    go_wp2_with fail
    refine (rd_put R tv L fin (a2 + 1) s2.adv nv2 (ns ++ ns2) _ HP4.out.rs ⟨5, [], [p]⟩ _ HKN.out (by rw [List.length_append]; omega)).mono ?_
    rintro e w5 ⟨nv5, rfl, b1, b2, b3⟩
    have HP5 := Lib.hid (HP4.out.putS b1 b2 b3 (by rw [List.length_append]; omega) (fun q hq => by cases hq; exact HP3.out.wr.size))
    have HL5 := Lib.hid b1.left
    obtain ⟨nn, hnn⟩ : ∃ nn, nn = (ns ++ ns2).length := ⟨_, rfl⟩
    rw [← hnn]
    have HNN := Lib.hid hnn
    clear b1 b2 b3 hnn
    go_wp2_with fail
    have hfin : TuO R tv L fin s nv ns w r (.int .i64 ((nn : Nat) : Int)) w5 := by
     refine ⟨g, .turn k, s2.adv, a2 + 1, nv5, _, HRR.out, HP5.out, ?_, ?_⟩
     ·rw [HNN.out, List.length_append, hlen]; rfl
     ·rw [List.map_append, HFL.out, HP.out]; rfl
    have hlf : leftOf L R w5 < leftOf L R wo := by rw [HL5.out, HL2.out]; omega
    first | exact ⟨hfin, hlf⟩ | exact ⟨by (repeat apply Exists.intro); exact ⟨hfin, rfl⟩, hlf⟩
   | false =>
    rw [if_neg (by rw [hm]; decide)] at t2
    have HRR : Hid (r = some (.ok (k, s2))) := by
     have h1 := HTU.out
     unfold SynP.turns at h1
     rw [if_neg (by rw [hm]; decide)] at h1
     show _ = _
     rw [← h1]; rfl
    have HP3 := Lib.hid (HPS.out.step t2 t1 (Nat.le_refl _) rfl)
    clear t1 t2 hm
    go_wp2_with fail
    go_ret
    rw [HRR.out]
    exact ⟨_, a2, nv2, ns2, rfl, HP3.out, by rw [HP.out]; rfl, HFL.out⟩
end Go.Proofs.YtgfmiladfeoldaaGreatDoor
namespace Go.Proofs.YtgfmiladfeoldaaGreatDoor
open Go.RowKit NatP LexP
def MiO (R : Nat) (tv : Value) (L : List Tok) (fin : Nat) (s0 : SynP.St) (nv : Value) (ns : List Nv) (w : World) (r : SynP.PR Nat) (nn : Value) (wr : World) : Prop :=
 ∃ g n s' a', SynP.minuses g n s' = r ∧ nn = .int .i64 ((n : Nat) : Int) ∧ RS wr R tv L fin a' s' nv ns ∧ Wr R none w wr ∧ n + s'.ts.length ≤ s0.ts.length ∧ s'.opened = s0.opened
def NgO (R : Nat) (tv : Value) (L : List Tok) (fin : Nat) (s0 : SynP.St) (nv : Value) (ns : List Nv) (w : World) (n : Nat) (s2 : SynP.St) (e0 : SynP.Ex) (kv iv : Value) (wr : World) : Prop :=
 ∃ i k a' nv' ns', iv = .int .i64 ((i : Nat) : Int) ∧ i ≤ n ∧ SynP.negs (n - i) k = e0 ∧ PSt R tv L fin s0 nv ns w wr a' s2 nv' ns' ∧ ExQ ns k kv ns' nv' wr ∧ (ns ++ ns').length + s2.ts.length + (n - i) ≤ ns.length + s0.ts.length
set_option maxRecDepth 100000 in
set_option maxHeartbeats 8000000 in
theorem factor_of (fin f : Nat) (IH : ExOk 235 (SynP.post fin f) fin) : ExOk 208 (SynP.factor fin (f + 1)) fin := by
 intro R tv L a s nv ns w h hf
 have H := Lib.hid h
 have HIH := Lib.hid IH
 obtain ⟨r, hr⟩ : ∃ r, r = SynP.factor fin (f + 1) s := ⟨_, rfl⟩
 rw [← hr] at hf ⊢
 obtain ⟨r1, hr1⟩ : ∃ r1, r1 = SynP.minuses f 0 s := ⟨_, rfl⟩
 have HR0 : Hid (r = r1.bind fun n s => (SynP.post fin f s).bind fun k s => if SynP.isMark [94] s.ts then (SynP.number fin s.adv).bind fun m s => SynP.ret (SynP.negs n (.pow k m)) s else SynP.ret (SynP.negs n k) s) := by show _ = _; rw [hr, hr1]; rfl
 have HNE := Lib.hid hf
 have HR1N : Hid (r1 ≠ none) := fun e => HNE.out (by rw [HR0.out, e]; rfl)
 have hfew := h.few
 have hfewS := h.short
 have hts : s.ts.length ≤ 67108864 := by rw [← h.drop, List.length_drop]; omega
 have HST : Hid (MiO R tv L fin s nv ns w r1 (.int .i64 0) w) := ⟨f, 0, s, a, hr1.symm, rfl, h, Wr.refl _ _ _, by omega, rfl⟩
 clear h hr hf IH hr1
 go_enter Tryz.func208, Tryz.ntmps208
 go_wp2_with fail
 go_loopw [3] (fun nn wr => MiO R tv L fin s nv ns w r1 nn wr) (fun _ wr => leftOf L R wr)
 case atStart => exact HST.out
 clear HST
 case round =>
  obtain ⟨g, n, s1, a1, hmi, rfl, hrs, hwr, hns, hop⟩ := hrel
  obtain ⟨wo, rfl⟩ : ∃ wo, wo = wr := ⟨_, rfl⟩
  cases g with
  | zero => exact absurd hmi.symm HR1N.out
  | succ g =>
   have HS1 := Lib.hid hrs
   have HW1 := Lib.hid hwr
   have HMI := Lib.hid hmi
   have HOP := Lib.hid hop
   have HL1 := Lib.hid hrs.left
   clear hmi hrs hwr hop
   go_wp2_with fail
   refine (rd_take R tv L fin a1 s1 nv ns _ HS1.out [45]).mono ?_
   rintro e w3 ⟨rfl, t1, t2⟩
   cases hm : SynP.isMark [45] s1.ts with
   | true =>
    rw [if_pos hm] at t2
    have hml := mark_len hm
    have HRR : Hid (SynP.minuses g (n + 1) s1.adv = r1) := by
     have h1 := HMI.out
     unfold SynP.minuses at h1
     rw [if_pos hm] at h1
     exact h1
    have HT1 := Lib.hid (RS.step HW1.out t1)
    have HT2 := Lib.hid t2
    have HL3 := Lib.hid t2.left
    clear t1 t2 hm
    go_wp2_with fail
    have hfin : MiO R tv L fin s nv ns w r1 (.int .i64 ((n : Int) + 1)) w3 := ⟨g, n + 1, s1.adv, a1 + 1, HRR.out, by congr 1, HT2.out, HT1.out, by omega, HOP.out⟩
    have hlf : leftOf L R w3 < leftOf L R wo := by rw [HL3.out, HL1.out]; omega
    first | exact ⟨hfin, hlf⟩ | exact ⟨by (repeat apply Exists.intro); exact ⟨hfin, rfl⟩, hlf⟩
   | false =>
    rw [if_neg (by rw [hm]; decide)] at t2
    have HR2 : Hid (r = (SynP.post fin f s1).bind fun k s => if SynP.isMark [94] s.ts then (SynP.number fin s.adv).bind fun m s => SynP.ret (SynP.negs n (.pow k m)) s else SynP.ret (SynP.negs n k) s) := by
     have h1 := HMI.out
     unfold SynP.minuses at h1
     rw [if_neg (by rw [hm]; decide)] at h1
     show _ = _
     rw [HR0.out, ← h1]; rfl
    have HP2 := Lib.hid ((PSt.refl H.out).step (s2 := s1) (w2 := w3) (a2 := a1) (by rw [List.append_nil]; exact t2) (RS.step HW1.out t1) (by omega) HOP.out)
    have HT2 := Lib.hid t2
    clear t1 t2 hm
    go_wp2_with fail
    refine (HIH.out R tv L a1 s1 nv ns _ HT2.out (fun e => HNE.out (by rw [HR2.out, e]; rfl))).mono ?_
    rintro e w4 hn
    rcases hN : SynP.post fin f s1 with - | (⟨fc, fk⟩ | ⟨k, s4⟩)
    ·rw [hN] at hn; exact hn.elim
    ·rw [hN] at hn
     obtain ⟨rfl, n1⟩ := hn
     refine ⟨rfl, ?_⟩
     have hre : r = some (.error (fc, fk)) := by rw [HR2.out, hN]; rfl
     rw [hre]
     exact ⟨rfl, HP2.out.wr.trans (Mv.refl _ _) n1⟩
    rw [hN] at hn
    obtain ⟨v4, a4, nv4, ns4, rfl, n1, n2⟩ := hn
    have HR4 : Hid (r = if SynP.isMark [94] s4.ts then (SynP.number fin s4.adv).bind fun m s => SynP.ret (SynP.negs n (.pow k m)) s else SynP.ret (SynP.negs n k) s4) := by show _ = _; rw [HR2.out, hN]; rfl
    have hfw4 := n1.few
    rw [List.length_append] at hfw4
    have HP4 : Hid (PSt R tv L fin s nv ns w w4 a4 s4 nv4 ns4) := by
     have := HP2.out.trans (by rw [List.append_nil]; exact n1)
     rw [List.nil_append] at this; exact this
    have hlen := n2.len
    have hsp := size_pos k
    obtain ⟨rfl, hfl⟩ := n2
    obtain ⟨p, hp⟩ : ∃ p, p = ns.length + k.size - 1 := ⟨_, rfl⟩
    rw [← hp]
    have HP := Lib.hid hp
    have HFL := Lib.hid hfl
    clear n1 hp hfl hN
    go_wp2_with fail
    refine (rd_take R tv L fin a4 s4 nv4 (ns ++ ns4) _ HP4.out.rs [94]).mono ?_
    rintro e w5 ⟨rfl, t1, t2⟩
    cases hm : SynP.isMark [94] s4.ts with
    | true =>
     rw [if_pos hm] at t2
     have hml := mark_len hm
     have HR5 : Hid (r = (SynP.number fin s4.adv).bind fun m s => SynP.ret (SynP.negs n (.pow k m)) s) := by show _ = _; rw [HR4.out, if_pos hm]
     have HP5 := Lib.hid (HP4.out.step t2 t1 (by omega) rfl)
     clear t1 t2 hm
     go_wp2_with fail
     refine (rd_number R tv L fin (a4 + 1) s4.adv nv4 (ns ++ ns4) _ HP5.out.rs).mono ?_
     rintro e w6 hn
     rcases hN : SynP.number fin s4.adv with - | (⟨fc, fk⟩ | ⟨m, s6⟩)
     ·rw [hN] at hn; exact hn.elim
     ·rw [hN] at hn
      obtain ⟨rfl, n1⟩ := hn
      refine ⟨rfl, ?_⟩
      have hre : r = some (.error (fc, fk)) := by rw [HR5.out, hN]; rfl
      rw [hre]
      exact ⟨rfl, HP5.out.wr.trans HP5.out.mv (n1.weak _)⟩
     rw [hN] at hn
     obtain ⟨v6, a6, rfl, n1, n2, n3, n4⟩ := hn
     have hl6 := number_len hN
     have HR6 : Hid (r = some (.ok (SynP.negs n (.pow k m), s6))) := by show _ = _; rw [HR5.out, hN]; rfl
     have HP6 := Lib.hid (HP5.out.step n1 n2 (by omega) hl6.2)
     have HN6 := Lib.hid n4
     obtain ⟨⟨xs, x1, x2, x3⟩, -⟩ := n4
     have HX1 := Lib.hid x1
     have HX2 := Lib.hid x2
     clear n1 n2 n3 hN x1 x2
     go_wp2_with fail
     refine (dec_any _ xs _ HP6.out.rs.sg HX1.out (by omega)).mono ?_
     rintro e w7 ⟨rfl, b1⟩
     rw [HX2.out, decTx_eq]
     have HP7 := Lib.hid (HP6.out.step (HP6.out.rs.below b1) (Wr.of_below b1) (Nat.le_refl _) rfl)
     have HKN := Lib.hid ((KNew.fresh HP7.out.rs [p]).resolve_right (by simp))
     have HA := Lib.hid (below_alloc w7 (.cells #[.int .i64 ((p : Nat) : Int)] 3))
     have HP8 := Lib.hid (HP7.out.step (HP7.out.rs.below HA.out) (Wr.of_below HA.out) (Nat.le_refl _) rfl)
     clear b1
     go_wp2_with fail
     refine (rd_put R tv L fin a6 s6 nv4 (ns ++ ns4) _ HP8.out.rs ⟨9, SynP.decT m, [p]⟩ _ HKN.out (by rw [List.length_append]; omega)).mono ?_
     rintro e w9 ⟨nv9, rfl, b1, b2, b3⟩
     have HP9 := Lib.hid (HP8.out.putS b1 b2 b3 (by rw [List.length_append]; omega) (fun q hq => by cases hq; exact HP7.out.wr.size))
     obtain ⟨nn, hnn⟩ : ∃ nn, nn = (ns ++ ns4).length := ⟨_, rfl⟩
     rw [← hnn]
     have HNN := Lib.hid hnn
     have HST2 : Hid (NgO R tv L fin s nv ns w n s6 (SynP.negs n (.pow k m)) (.int .i64 ((nn : Nat) : Int)) (.int .i64 0) w9) := by
      refine ⟨0, .pow k m, a6, nv9, _, rfl, Nat.zero_le _, rfl, HP9.out, ⟨?_, ?_⟩, ?_⟩
      ·rw [HNN.out, List.length_append, hlen]; rfl
      ·rw [List.map_append, HFL.out, HP.out]; rfl
      ·simp only [List.length_append, List.length_singleton]; omega
     clear b1 b2 b3 hnn
     go_wp2_with fail
     go_loopw [4, 21] (fun kv iv wr => NgO R tv L fin s nv ns w n s6 (SynP.negs n (.pow k m)) kv iv wr) (fun _ iv _ => (n - intOf iv).toNat)
     case atStart => exact HST2.out
     clear HST2
     case round =>
      obtain ⟨i, q, a10, nv10, ns10, rfl, hin, hng, hps, hex, hfw⟩ := hrel
      have hql := hex.len
      have hqp := size_pos q
      obtain ⟨rfl, hqf⟩ := hex
      obtain ⟨pq, hpq⟩ : ∃ pq, pq = ns.length + q.size - 1 := ⟨_, rfl⟩
      rw [← hpq]
      have HPQ := Lib.hid hpq
      have HQF := Lib.hid hqf
      have HP10 := Lib.hid hps
      have HNG := Lib.hid hng
      rw [List.length_append] at hfw
      clear hpq hqf hps hng
      by_cases hlt : i < n
      ·have HKN2 := Lib.hid ((KNew.fresh HP10.out.rs [pq]).resolve_right (by simp))
       have HA2 := Lib.hid (below_alloc wr (.cells #[.int .i64 ((pq : Nat) : Int)] 3))
       have HP11 := Lib.hid (HP10.out.step (HP10.out.rs.below HA2.out) (Wr.of_below HA2.out) (Nat.le_refl _) rfl)
       go_wp2_with fail
       refine (rd_put R tv L fin a10 s6 nv10 (ns ++ ns10) _ HP11.out.rs ⟨4, [], [pq]⟩ _ HKN2.out (by rw [List.length_append]; omega)).mono ?_
       rintro e w12 ⟨nv12, rfl, b1, b2, b3⟩
       have HP12 := Lib.hid (HP11.out.putS b1 b2 b3 (by rw [List.length_append]; omega) (fun q hq => by cases hq; exact HP10.out.wr.size))
       obtain ⟨n2, hn2⟩ : ∃ n2, n2 = (ns ++ ns10).length := ⟨_, rfl⟩
       rw [← hn2]
       have HN2 := Lib.hid hn2
       clear b1 b2 b3 hn2
       go_wp2_with fail
       have hfin : NgO R tv L fin s nv ns w n s6 (SynP.negs n (.pow k m)) (.int .i64 ((n2 : Nat) : Int)) (.int .i64 ((i : Int) + 1)) w12 := by
        refine ⟨i + 1, .neg q, a10, nv12, _, by congr 1, by omega, ?_, HP12.out, ⟨?_, ?_⟩, ?_⟩
        ·rw [← HNG.out, show n - i = (n - (i + 1)) + 1 from by omega]; rfl
        ·rw [HN2.out, List.length_append, hql]; rfl
        ·rw [List.map_append, HQF.out, HPQ.out]; rfl
        ·simp only [List.length_append, List.length_singleton]; omega
       first | exact ⟨hfin, by simp [intOf] <;> omega⟩ | exact ⟨by (repeat apply Exists.intro); exact ⟨hfin, rfl⟩, by simp [intOf] <;> omega⟩
      ·have hie : n - i = 0 := by omega
       have HQE : Hid (q = (SynP.negs n (.pow k m))) := by
        have := HNG.out
        rw [hie] at this; exact this
       clear hie
       go_wp2_with fail
       go_ret
       rw [HR6.out]
       exact ⟨_, a10, nv10, ns10, rfl, HP10.out, by rw [← HQE.out, HPQ.out]; rfl, by rw [← HQE.out]; exact HQF.out⟩
    | false =>
     rw [if_neg (by rw [hm]; decide)] at t2
     have HR6 : Hid (r = some (.ok (SynP.negs n k, s4))) := by show _ = _; rw [HR4.out, if_neg (by rw [hm]; decide)]; rfl
     have HP5 := Lib.hid (HP4.out.step t2 t1 (Nat.le_refl _) rfl)
     have HST2 : Hid (NgO R tv L fin s nv ns w n s4 (SynP.negs n k) (.int .i64 ((p : Nat) : Int)) (.int .i64 0) w5) := by
      refine ⟨0, k, a4, nv4, ns4, rfl, Nat.zero_le _, rfl, HP5.out, ⟨by rw [HP.out], HFL.out⟩, ?_⟩
      rw [List.length_append]; omega
     clear t1 t2 hm
     go_wp2_with fail
     go_loopw [4, 21] (fun kv iv wr => NgO R tv L fin s nv ns w n s4 (SynP.negs n k) kv iv wr) (fun _ iv _ => (n - intOf iv).toNat)
     case atStart => exact HST2.out
     clear HST2
     case round =>
      obtain ⟨i, q, a10, nv10, ns10, rfl, hin, hng, hps, hex, hfw⟩ := hrel
      have hql := hex.len
      have hqp := size_pos q
      obtain ⟨rfl, hqf⟩ := hex
      obtain ⟨pq, hpq⟩ : ∃ pq, pq = ns.length + q.size - 1 := ⟨_, rfl⟩
      rw [← hpq]
      have HPQ := Lib.hid hpq
      have HQF := Lib.hid hqf
      have HP10 := Lib.hid hps
      have HNG := Lib.hid hng
      rw [List.length_append] at hfw
      clear hpq hqf hps hng
      by_cases hlt : i < n
      ·have HKN2 := Lib.hid ((KNew.fresh HP10.out.rs [pq]).resolve_right (by simp))
       have HA2 := Lib.hid (below_alloc wr (.cells #[.int .i64 ((pq : Nat) : Int)] 3))
       have HP11 := Lib.hid (HP10.out.step (HP10.out.rs.below HA2.out) (Wr.of_below HA2.out) (Nat.le_refl _) rfl)
       go_wp2_with fail
       refine (rd_put R tv L fin a10 s4 nv10 (ns ++ ns10) _ HP11.out.rs ⟨4, [], [pq]⟩ _ HKN2.out (by rw [List.length_append]; omega)).mono ?_
       rintro e w12 ⟨nv12, rfl, b1, b2, b3⟩
       have HP12 := Lib.hid (HP11.out.putS b1 b2 b3 (by rw [List.length_append]; omega) (fun q hq => by cases hq; exact HP10.out.wr.size))
       obtain ⟨n2, hn2⟩ : ∃ n2, n2 = (ns ++ ns10).length := ⟨_, rfl⟩
       rw [← hn2]
       have HN2 := Lib.hid hn2
       clear b1 b2 b3 hn2
       go_wp2_with fail
       have hfin : NgO R tv L fin s nv ns w n s4 (SynP.negs n k) (.int .i64 ((n2 : Nat) : Int)) (.int .i64 ((i : Int) + 1)) w12 := by
        refine ⟨i + 1, .neg q, a10, nv12, _, by congr 1, by omega, ?_, HP12.out, ⟨?_, ?_⟩, ?_⟩
        ·rw [← HNG.out, show n - i = (n - (i + 1)) + 1 from by omega]; rfl
        ·rw [HN2.out, List.length_append, hql]; rfl
        ·rw [List.map_append, HQF.out, HPQ.out]; rfl
        ·simp only [List.length_append, List.length_singleton]; omega
       first | exact ⟨hfin, by simp [intOf] <;> omega⟩ | exact ⟨by (repeat apply Exists.intro); exact ⟨hfin, rfl⟩, by simp [intOf] <;> omega⟩
      ·have hie : n - i = 0 := by omega
       have HQE : Hid (q = (SynP.negs n k)) := by
        have := HNG.out
        rw [hie] at this; exact this
       clear hie
       go_wp2_with fail
       go_ret
       rw [HR6.out]
       exact ⟨_, a10, nv10, ns10, rfl, HP10.out, by rw [← HQE.out, HPQ.out]; rfl, by rw [← HQE.out]; exact HQF.out⟩
end Go.Proofs.YtgfmiladfeoldaaGreatDoor
namespace Go.Proofs.YtgfmiladfeoldaaGreatDoor
open Go.RowKit NatP LexP
def TeO (R : Nat) (tv : Value) (L : List Tok) (fin : Nat) (s0 : SynP.St) (nv : Value) (ns : List Nv) (w : World) (f : Nat) (r : SynP.PR SynP.Ex) (kv : Value) (wr : World) : Prop :=
 ∃ g k s' a' nv' ns', g ≤ f ∧ SynP.termLoop fin g k s' = r ∧ PSt R tv L fin s0 nv ns w wr a' s' nv' ns' ∧ ExQ ns k kv ns' nv' wr
set_option maxRecDepth 100000 in
set_option maxHeartbeats 4000000 in
theorem term_of (fin f : Nat) (IH : ∀ g, g ≤ f → ExOk 208 (SynP.factor fin g) fin) : ExOk 160 (SynP.term fin (f + 1)) fin := by
 intro R tv L a s nv ns w h hf
 have H := Lib.hid h
 have HIH := Lib.hid IH
 obtain ⟨r, hr⟩ : ∃ r, r = SynP.term fin (f + 1) s := ⟨_, rfl⟩
 rw [← hr] at hf ⊢
 have HR0 : Hid (r = (SynP.factor fin f s).bind fun k s => SynP.termLoop fin f k s) := by show _ = _; rw [hr]; rfl
 have HNE := Lib.hid hf
 have hfew := h.few
 clear h hr hf IH
 go_enter Tryz.func160, Tryz.ntmps160
 go_wp2_with fail
 refine (HIH.out f (Nat.le_refl _) R tv L a s nv ns _ H.out (fun e => HNE.out (by rw [HR0.out, e]; rfl))).mono ?_
 rintro e w1 hn
 rcases hN : SynP.factor fin f s with - | (⟨fc, fk⟩ | ⟨k, s1⟩)
 ·rw [hN] at hn; exact hn.elim
 ·rw [hN] at hn
  obtain ⟨rfl, n1⟩ := hn
  refine ⟨rfl, ?_⟩
  have hre : r = some (.error (fc, fk)) := by rw [HR0.out, hN]; rfl
  rw [hre]
  exact ⟨rfl, n1⟩
 rw [hN] at hn
 obtain ⟨v1, a1, nv1, ns1, rfl, n1, n2⟩ := hn
 have HST : Hid (TeO R tv L fin s nv ns w f r v1 w1) := ⟨f, k, s1, a1, nv1, ns1, Nat.le_refl _, by rw [HR0.out, hN]; rfl, n1, n2⟩
 clear n1 n2 hN
 go_wp2_with fail
 go_loopw [3] (fun kv wr => TeO R tv L fin s nv ns w f r kv wr) (fun _ wr => leftOf L R wr)
 case atStart => exact HST.out
 clear HST
 case round =>
  obtain ⟨g, k, s2, a2, nv2, ns2, hgf, htu, hps, hex⟩ := hrel
  obtain ⟨wo, rfl⟩ : ∃ wo, wo = wr := ⟨_, rfl⟩
  cases g with
  | zero => exact absurd htu.symm HNE.out
  | succ g =>
   have hlen := hex.len
   have hsp := size_pos k
   obtain ⟨rfl, hfl⟩ := hex
   obtain ⟨p, hp⟩ : ∃ p, p = ns.length + k.size - 1 := ⟨_, rfl⟩
   rw [← hp]
   have HP := Lib.hid hp
   have HPS := Lib.hid hps
   have HFL := Lib.hid hfl
   have HL2 := Lib.hid hps.rs.left
   have HTU := Lib.hid htu
   have hfw := hps.few
   rw [List.length_append] at hfw
   clear hp hps hfl htu
   go_wp2_with fail
   refine (rd_take R tv L fin a2 s2 nv2 (ns ++ ns2) _ HPS.out.rs [42]).mono ?_
   rintro e w3 ⟨rfl, t1, t2⟩
   cases hm : SynP.isMark [42] s2.ts with
   | true =>
    rw [if_pos hm] at t2
    have hml := mark_len hm
    have HRR : Hid (r = (SynP.factor fin g s2.adv).bind fun t s => SynP.termLoop fin g (.mul k t) s) := by
     have h1 := HTU.out
     unfold SynP.termLoop at h1
     rw [if_pos hm] at h1
     exact h1.symm
    have HP3 := Lib.hid (HPS.out.step t2 t1 (by omega) rfl)
    clear t1 t2 hm
    go_wp2_with fail
    refine (HIH.out g (by omega) R tv L (a2 + 1) s2.adv nv2 (ns ++ ns2) _ HP3.out.rs (fun e => HNE.out (by rw [HRR.out, e]; rfl))).mono ?_
    rintro e w4 hn
    rcases hN : SynP.factor fin g s2.adv with - | (⟨fc, fk⟩ | ⟨t, s4⟩)
    ·rw [hN] at hn; exact hn.elim
    ·rw [hN] at hn
     obtain ⟨rfl, n1⟩ := hn
     refine ⟨rfl, ?_⟩
     have hre : r = some (.error (fc, fk)) := by rw [HRR.out, hN]; rfl
     rw [hre]
     exact ⟨rfl, HP3.out.wr.trans HP3.out.mv n1⟩
    rw [hN] at hn
    obtain ⟨v4, a4, nv4, ns4, rfl, n1, n2⟩ := hn
    have HRT : Hid (SynP.termLoop fin g (.mul k t) s4 = r) := by show _ = _; rw [HRR.out, hN]; rfl
    have hfw4 := n1.few
    simp only [List.length_append] at hfw4
    have HL4 := Lib.hid n1.rs.left
    have HP4 := Lib.hid (HP3.out.trans n1)
    have hlen4 := n2.len
    have hsp4 := size_pos t
    obtain ⟨rfl, hfl4⟩ := n2
    obtain ⟨q, hq⟩ : ∃ q, q = (ns ++ ns2).length + t.size - 1 := ⟨_, rfl⟩
    rw [← hq]
    have HQ := Lib.hid hq
    have HFL4 := Lib.hid hfl4
    have HKN := Lib.hid ((KNew.fresh HP4.out.rs [p, q]).resolve_right (by simp))
    have HA := Lib.hid (below_alloc w4 (.cells #[.int .i64 ((p : Nat) : Int), .int .i64 ((q : Nat) : Int)] 3))
    have HP5 := Lib.hid (HP4.out.step (HP4.out.rs.below HA.out) (Wr.of_below HA.out) (Nat.le_refl _) rfl)
    clear n1 hq hfl4 hN
    go_wp2_with fail
    refine (rd_put R tv L fin a4 s4 nv4 (ns ++ (ns2 ++ ns4)) _ HP5.out.rs ⟨8, [], [p, q]⟩ _ HKN.out (by simp only [List.length_append]; omega)).mono ?_
    rintro e w6 ⟨nv6, rfl, b1, b2, b3⟩
    have HP6 := Lib.hid (HP5.out.putS b1 b2 b3 (by simp only [List.length_append]; omega) (fun q hq => by cases hq; exact HP4.out.wr.size))
    have HL6 := Lib.hid b1.left
    obtain ⟨nn, hnn⟩ : ∃ nn, nn = (ns ++ (ns2 ++ ns4)).length := ⟨_, rfl⟩
    rw [← hnn]
    have HNN := Lib.hid hnn
    clear b1 b2 b3 hnn
    go_wp2_with fail
    have hfin : TeO R tv L fin s nv ns w f r (.int .i64 ((nn : Nat) : Int)) w6 := by
     refine ⟨g, .mul k t, s4, a4, nv6, _, by omega, HRT.out, HP6.out, ?_, ?_⟩
     ·rw [HNN.out]; simp only [List.length_append]; rw [hlen, hlen4]
      have e : (SynP.Ex.mul k t).size = k.size + t.size + 1 := rfl
      rw [e]; congr 2 <;> omega
     ·rw [List.map_append, List.map_append, HFL.out, HFL4.out, HP.out, HQ.out, List.length_append, hlen]
      show _ = k.flat ns.length ++ t.flat (ns.length + k.size) ++ [⟨8, [], [ns.length + k.size - 1, ns.length + k.size + t.size - 1]⟩]
      rfl
    have hlf : leftOf L R w6 < leftOf L R wo := by
     rw [HL6.out, HL2.out]; omega
    first | exact ⟨hfin, hlf⟩ | exact ⟨by (repeat apply Exists.intro); exact ⟨hfin, rfl⟩, hlf⟩
   | false =>
    rw [if_neg (by rw [hm]; decide)] at t2
    have HRR : Hid (r = some (.ok (k, s2))) := by
     have h1 := HTU.out
     unfold SynP.termLoop at h1
     rw [if_neg (by rw [hm]; decide)] at h1
     show _ = _
     rw [← h1]; rfl
    have HP3 := Lib.hid (HPS.out.step t2 t1 (Nat.le_refl _) rfl)
    clear t1 t2 hm
    go_wp2_with fail
    go_ret
    rw [HRR.out]
    exact ⟨_, a2, nv2, ns2, rfl, HP3.out, by rw [HP.out]; rfl, HFL.out⟩
end Go.Proofs.YtgfmiladfeoldaaGreatDoor
namespace Go.Proofs.YtgfmiladfeoldaaGreatDoor
open Go.RowKit NatP LexP
def EpO (R : Nat) (tv : Value) (L : List Tok) (fin : Nat) (s0 : SynP.St) (nv : Value) (ns : List Nv) (w : World) (f : Nat) (r : SynP.PR SynP.Ex) (kv : Value) (wr : World) : Prop :=
 ∃ g k s' a' nv' ns', g ≤ f ∧ SynP.exprLoop fin g k s' = r ∧ PSt R tv L fin s0 nv ns w wr a' s' nv' ns' ∧ ExQ ns k kv ns' nv' wr
set_option maxRecDepth 100000 in
set_option maxHeartbeats 4000000 in
theorem expr_of (fin f : Nat) (IH : ∀ g, g ≤ f → ExOk 160 (SynP.term fin g) fin) : ExOk 97 (SynP.expr fin (f + 1)) fin := by
 intro R tv L a s nv ns w h hf
 have H := Lib.hid h
 have HIH := Lib.hid IH
 obtain ⟨r, hr⟩ : ∃ r, r = SynP.expr fin (f + 1) s := ⟨_, rfl⟩
 rw [← hr] at hf ⊢
 have HR0 : Hid (r = (SynP.term fin f s).bind fun k s => SynP.exprLoop fin f k s) := by show _ = _; rw [hr]; rfl
 have HNE := Lib.hid hf
 have hfew := h.few
 clear h hr hf IH
 go_enter Tryz.func97, Tryz.ntmps97
 go_wp2_with fail
 refine (HIH.out f (Nat.le_refl _) R tv L a s nv ns _ H.out (fun e => HNE.out (by rw [HR0.out, e]; rfl))).mono ?_
 rintro e w1 hn
 rcases hN : SynP.term fin f s with - | (⟨fc, fk⟩ | ⟨k, s1⟩)
 ·rw [hN] at hn; exact hn.elim
 ·rw [hN] at hn
  obtain ⟨rfl, n1⟩ := hn
  refine ⟨rfl, ?_⟩
  have hre : r = some (.error (fc, fk)) := by rw [HR0.out, hN]; rfl
  rw [hre]
  exact ⟨rfl, n1⟩
 rw [hN] at hn
 obtain ⟨v1, a1, nv1, ns1, rfl, n1, n2⟩ := hn
 have HST : Hid (EpO R tv L fin s nv ns w f r v1 w1) := ⟨f, k, s1, a1, nv1, ns1, Nat.le_refl _, by rw [HR0.out, hN]; rfl, n1, n2⟩
 clear n1 n2 hN
 go_wp2_with fail
 go_loopw [3, 4] (fun kv _ wr => EpO R tv L fin s nv ns w f r kv wr) (fun _ _ wr => leftOf L R wr)
 case atStart => exact HST.out
 clear HST
 case round =>
  obtain ⟨g, k, s2, a2, nv2, ns2, hgf, htu, hps, hex⟩ := hrel
  obtain ⟨wo, rfl⟩ : ∃ wo, wo = wr := ⟨_, rfl⟩
  cases g with
  | zero => exact absurd htu.symm HNE.out
  | succ g =>
   have hlen := hex.len
   have hsp := size_pos k
   obtain ⟨rfl, hfl⟩ := hex
   obtain ⟨p, hp⟩ : ∃ p, p = ns.length + k.size - 1 := ⟨_, rfl⟩
   rw [← hp]
   have HP := Lib.hid hp
   have HPS := Lib.hid hps
   have HFL := Lib.hid hfl
   have HL2 := Lib.hid hps.rs.left
   have HTU := Lib.hid htu
   have hfw := hps.few
   rw [List.length_append] at hfw
   clear hp hps hfl htu
   go_wp2_with fail
   refine (rd_take R tv L fin a2 s2 nv2 (ns ++ ns2) _ HPS.out.rs [43]).mono ?_
   rintro e w3 ⟨rfl, t1, t2⟩
   cases hm : SynP.isMark [43] s2.ts with
   | true =>
    rw [if_pos hm] at t2
    have hml := mark_len hm
    have HRR : Hid (r = (SynP.term fin g s2.adv).bind fun t s => SynP.exprLoop fin g (.add k t) s) := by
     have h1 := HTU.out
     unfold SynP.exprLoop at h1
     rw [if_pos hm] at h1
     exact h1.symm
    have HP3 := Lib.hid (HPS.out.step t2 t1 (by omega) rfl)
    clear t1 t2 hm
    go_wp2_with fail
    refine (HIH.out g (by omega) R tv L (a2 + 1) s2.adv nv2 (ns ++ ns2) _ HP3.out.rs (fun e => HNE.out (by rw [HRR.out, e]; rfl))).mono ?_
    rintro e w4 hn
    rcases hN : SynP.term fin g s2.adv with - | (⟨fc, fk⟩ | ⟨t, s4⟩)
    ·rw [hN] at hn; exact hn.elim
    ·rw [hN] at hn
     obtain ⟨rfl, n1⟩ := hn
     refine ⟨rfl, ?_⟩
     have hre : r = some (.error (fc, fk)) := by rw [HRR.out, hN]; rfl
     rw [hre]
     exact ⟨rfl, HP3.out.wr.trans HP3.out.mv n1⟩
    rw [hN] at hn
    obtain ⟨v4, a4, nv4, ns4, rfl, n1, n2⟩ := hn
    have HRT : Hid (SynP.exprLoop fin g (.add k t) s4 = r) := by show _ = _; rw [HRR.out, hN]; rfl
    have hfw4 := n1.few
    simp only [List.length_append] at hfw4
    have HL4 := Lib.hid n1.rs.left
    have HP4 := Lib.hid (HP3.out.trans n1)
    have hlen4 := n2.len
    have hsp4 := size_pos t
    obtain ⟨rfl, hfl4⟩ := n2
    obtain ⟨q, hq⟩ : ∃ q, q = (ns ++ ns2).length + t.size - 1 := ⟨_, rfl⟩
    rw [← hq]
    have HQ := Lib.hid hq
    have HFL4 := Lib.hid hfl4
    have HKN := Lib.hid ((KNew.fresh HP4.out.rs [p, q]).resolve_right (by simp))
    have HA := Lib.hid (below_alloc w4 (.cells #[.int .i64 ((p : Nat) : Int), .int .i64 ((q : Nat) : Int)] 3))
    have HP5 := Lib.hid (HP4.out.step (HP4.out.rs.below HA.out) (Wr.of_below HA.out) (Nat.le_refl _) rfl)
    clear n1 hq hfl4 hN
    go_wp2_with fail
    refine (rd_put R tv L fin a4 s4 nv4 (ns ++ (ns2 ++ ns4)) _ HP5.out.rs ⟨6, [], [p, q]⟩ _ HKN.out (by simp only [List.length_append]; omega)).mono ?_
    rintro e w6 ⟨nv6, rfl, b1, b2, b3⟩
    have HP6 := Lib.hid (HP5.out.putS b1 b2 b3 (by simp only [List.length_append]; omega) (fun q hq => by cases hq; exact HP4.out.wr.size))
    have HL6 := Lib.hid b1.left
    obtain ⟨nn, hnn⟩ : ∃ nn, nn = (ns ++ (ns2 ++ ns4)).length := ⟨_, rfl⟩
    rw [← hnn]
    have HNN := Lib.hid hnn
    clear b1 b2 b3 hnn
    go_wp2_with fail
    have hfin : EpO R tv L fin s nv ns w f r (.int .i64 ((nn : Nat) : Int)) w6 := by
     refine ⟨g, .add k t, s4, a4, nv6, _, by omega, HRT.out, HP6.out, ?_, ?_⟩
     ·rw [HNN.out]; simp only [List.length_append]; rw [hlen, hlen4]
      have e : (SynP.Ex.add k t).size = k.size + t.size + 1 := rfl
      rw [e]; congr 2 <;> omega
     ·rw [List.map_append, List.map_append, HFL.out, HFL4.out, HP.out, HQ.out, List.length_append, hlen]
      show _ = k.flat ns.length ++ t.flat (ns.length + k.size) ++ [⟨6, [], [ns.length + k.size - 1, ns.length + k.size + t.size - 1]⟩]
      rfl
    have hlf : leftOf L R w6 < leftOf L R wo := by
     rw [HL6.out, HL2.out]; omega
    first | exact ⟨hfin, hlf⟩ | exact ⟨by (repeat apply Exists.intro); exact ⟨hfin, rfl⟩, hlf⟩
   | false =>
    rw [if_neg (by rw [hm]; decide)] at t2
    have HPM := Lib.hid (HPS.out.step t2 t1 (Nat.le_refl _) rfl)
    have HMF := Lib.hid hm
    clear t1 t2 hm
    go_wp2_with fail
    refine (rd_take R tv L fin a2 s2 nv2 (ns ++ ns2) _ HPM.out.rs [45]).mono ?_
    rintro e w3 ⟨rfl, t1, t2⟩
    have hm := HMF.out
    cases hm2 : SynP.isMark [45] s2.ts with
    | true =>
     rw [if_pos hm2] at t2
     have hml := mark_len hm2
     have HRR : Hid (r = (SynP.term fin g s2.adv).bind fun t s => SynP.exprLoop fin g (.sub k t) s) := by
      have h1 := HTU.out
      unfold SynP.exprLoop at h1
      rw [if_neg (by rw [hm]; decide), if_pos hm2] at h1
      exact h1.symm
     have HP3 := Lib.hid (HPM.out.step t2 t1 (by omega) rfl)
     clear t1 t2 hm2 hm
     go_wp2_with fail
     refine (HIH.out g (by omega) R tv L (a2 + 1) s2.adv nv2 (ns ++ ns2) _ HP3.out.rs (fun e => HNE.out (by rw [HRR.out, e]; rfl))).mono ?_
     rintro e w4 hn
     rcases hN : SynP.term fin g s2.adv with - | (⟨fc, fk⟩ | ⟨t, s4⟩)
     ·rw [hN] at hn; exact hn.elim
     ·rw [hN] at hn
      obtain ⟨rfl, n1⟩ := hn
      refine ⟨rfl, ?_⟩
      have hre : r = some (.error (fc, fk)) := by rw [HRR.out, hN]; rfl
      rw [hre]
      exact ⟨rfl, HP3.out.wr.trans HP3.out.mv n1⟩
     rw [hN] at hn
     obtain ⟨v4, a4, nv4, ns4, rfl, n1, n2⟩ := hn
     have HRT : Hid (SynP.exprLoop fin g (.sub k t) s4 = r) := by show _ = _; rw [HRR.out, hN]; rfl
     have hfw4 := n1.few
     simp only [List.length_append] at hfw4
     have HL4 := Lib.hid n1.rs.left
     have HP4 := Lib.hid (HP3.out.trans n1)
     have hlen4 := n2.len
     have hsp4 := size_pos t
     obtain ⟨rfl, hfl4⟩ := n2
     obtain ⟨q, hq⟩ : ∃ q, q = (ns ++ ns2).length + t.size - 1 := ⟨_, rfl⟩
     rw [← hq]
     have HQ := Lib.hid hq
     have HFL4 := Lib.hid hfl4
     have HKN := Lib.hid ((KNew.fresh HP4.out.rs [p, q]).resolve_right (by simp))
     have HA := Lib.hid (below_alloc w4 (.cells #[.int .i64 ((p : Nat) : Int), .int .i64 ((q : Nat) : Int)] 3))
     have HP5 := Lib.hid (HP4.out.step (HP4.out.rs.below HA.out) (Wr.of_below HA.out) (Nat.le_refl _) rfl)
     clear n1 hq hfl4 hN
     go_wp2_with fail
     refine (rd_put R tv L fin a4 s4 nv4 (ns ++ (ns2 ++ ns4)) _ HP5.out.rs ⟨7, [], [p, q]⟩ _ HKN.out (by simp only [List.length_append]; omega)).mono ?_
     rintro e w6 ⟨nv6, rfl, b1, b2, b3⟩
     have HP6 := Lib.hid (HP5.out.putS b1 b2 b3 (by simp only [List.length_append]; omega) (fun q hq => by cases hq; exact HP4.out.wr.size))
     have HL6 := Lib.hid b1.left
     obtain ⟨nn, hnn⟩ : ∃ nn, nn = (ns ++ (ns2 ++ ns4)).length := ⟨_, rfl⟩
     rw [← hnn]
     have HNN := Lib.hid hnn
     clear b1 b2 b3 hnn
     go_wp2_with fail
     have hfin : EpO R tv L fin s nv ns w f r (.int .i64 ((nn : Nat) : Int)) w6 := by
      refine ⟨g, .sub k t, s4, a4, nv6, _, by omega, HRT.out, HP6.out, ?_, ?_⟩
      ·rw [HNN.out]; simp only [List.length_append]; rw [hlen, hlen4]
       have e : (SynP.Ex.sub k t).size = k.size + t.size + 1 := rfl
       rw [e]; congr 2 <;> omega
      ·rw [List.map_append, List.map_append, HFL.out, HFL4.out, HP.out, HQ.out, List.length_append, hlen]
       show _ = k.flat ns.length ++ t.flat (ns.length + k.size) ++ [⟨7, [], [ns.length + k.size - 1, ns.length + k.size + t.size - 1]⟩]
       rfl
     have hlf : leftOf L R w6 < leftOf L R wo := by
      rw [HL6.out, HL2.out]; omega
     first | exact ⟨hfin, hlf⟩ | exact ⟨by (repeat apply Exists.intro); exact ⟨hfin, rfl⟩, hlf⟩
    | false =>
     rw [if_neg (by rw [hm2]; decide)] at t2
     have HRR : Hid (r = some (.ok (k, s2))) := by
      have h1 := HTU.out
      unfold SynP.exprLoop at h1
      rw [if_neg (by rw [hm]; decide), if_neg (by rw [hm2]; decide)] at h1
      show _ = _
      rw [← h1]; rfl
     have HP3 := Lib.hid (HPM.out.step t2 t1 (Nat.le_refl _) rfl)
     clear t1 t2 hm2 hm
     go_wp2_with fail
     go_ret
     rw [HRR.out]
     exact ⟨_, a2, nv2, ns2, rfl, HP3.out, by rw [HP.out]; rfl, HFL.out⟩
end Go.Proofs.YtgfmiladfeoldaaGreatDoor
