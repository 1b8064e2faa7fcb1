/- Joined texts of this claim's proof: PrV, PrX, TyW. -/
import Derived.Test.YtgfmiladfeoldaaGreatDoorPk15
import Derived.Test.YtgfmiladfeoldaaGreatDoorPk27
set_option linter.unusedSimpArgs false
set_option linter.unusedVariables false
namespace Go.Proofs.YtgfmiladfeoldaaGreatDoor
open Go.RowKit NatP LexP
def oneW (P : SynP.St → SynP.PR SynP.Ex) (ms : List UInt8) (s : SynP.St) : SynP.PR SynP.Ex := (P s).bind fun k s => if ms.any (fun m => SynP.isMark [m] s.ts) then none else SynP.ret k s
theorem oneW_ok {P : SynP.St → SynP.PR SynP.Ex} (HE : ∀ s e, P s ≠ some (.error e)) {ms : List UInt8} {s : SynP.St} (h : oneW P ms s ≠ none) : ∃ k s1, P s = some (.ok (k, s1)) ∧ oneW P ms s = some (.ok (k, s1)) ∧ ∀ m ∈ ms, SynP.isMark [m] s1.ts = false := by
 unfold oneW at h ⊢
 rcases hN : P s with - | (e | ⟨k, s1⟩)
 ·rw [hN] at h; exact absurd rfl h
 ·exact absurd hN (HE _ _)
 ·rw [hN] at h
  simp only [SynP.PR.bind] at h ⊢
  split at h
  ·exact absurd rfl h
  ·rename_i h2
   refine ⟨k, s1, rfl, by rw [if_neg h2]; rfl, fun m hm => ?_⟩
   simp only [List.any_eq_true, not_exists, not_and, Bool.not_eq_true] at h2
   exact h2 m hm
def facW (fin f : Nat) (P : SynP.St → SynP.PR SynP.Ex) (s : SynP.St) : SynP.PR SynP.Ex := (SynP.minuses f 0 s).bind fun n s => (P s).bind fun k s => if SynP.isMark [94] s.ts then (SynP.number fin s.adv).bind fun m s => SynP.ret (SynP.negs n (.pow k m)) s else none
set_option maxRecDepth 100000 in
set_option maxHeartbeats 4000000 in
theorem post_w (fin f : Nat) (P : SynP.St → SynP.PR SynP.Ex) (HE : ∀ s e, P s ≠ some (.error e)) (IH : ExOk 251 P fin) : ExOk 235 (fun s => (P s).bind fun k s => SynP.turns f k s) fin := by
 intro R tv L a s nv ns w h hf
 have H := Lib.hid h
 have HIH := Lib.hid IH
 obtain ⟨r, hr⟩ : ∃ r, r = (P s).bind fun k s => SynP.turns f k s := ⟨_, rfl⟩
 simp only [← hr] at hf ⊢
 have HR0 : Hid (r = (P s).bind fun k s => SynP.turns f k s) := hr
 have HNE := Lib.hid hf
 have hfew := h.few
 clear h hr hf IH
 go_enter Tryz.func235, Tryz.ntmps235
 go_wp2_with fail
 refine (HIH.out R tv L a s nv ns _ H.out (fun e => HNE.out (by rw [HR0.out, e]; rfl))).mono ?_
 rintro e w1 hn
 rcases hN : P s with - | (⟨fc, fk⟩ | ⟨k, s1⟩)
 ·rw [hN] at hn; exact hn.elim
 ·exact absurd hN (HE _ _)
 rw [hN] at hn
 obtain ⟨v1, a1, nv1, ns1, rfl, n1, n2⟩ := hn
 have HST : Hid (TuO R tv L fin s nv ns w r v1 w1) := ⟨f, k, s1, a1, nv1, ns1, by rw [HR0.out, hN]; rfl, n1, n2⟩
 clear n1 n2 hN
 go_wp2_with fail
 go_loopw [3] (fun kv wr => TuO R tv L fin s nv ns w r kv wr) (fun _ wr => leftOf L R wr)
 case atStart => exact HST.out
 clear HST
 case round =>
  obtain ⟨g, k, s2, a2, nv2, ns2, htu, hps, hex⟩ := hrel
  obtain ⟨wo, rfl⟩ : ∃ wo, wo = wr := ⟨_, rfl⟩
  cases g with
  | zero => exact absurd htu.symm HNE.out
  | succ g =>
   have hlen := hex.len
   have hsp := size_pos k
   obtain ⟨rfl, hfl⟩ := hex
   obtain ⟨p, hp⟩ : ∃ p, p = ns.length + k.size - 1 := ⟨_, rfl⟩
   rw [← hp]
   have HP := Lib.hid hp
   have HPS := Lib.hid hps
   have HFL := Lib.hid hfl
   have HL2 := Lib.hid hps.rs.left
   have HTU := Lib.hid htu
   have hfw := hps.few
   rw [List.length_append] at hfw
   clear hp hps hfl htu
   go_wp2_with fail
   refine (rd_take R tv L fin a2 s2 nv2 (ns ++ ns2) _ HPS.out.rs [39]).mono ?_
   rintro e w3 ⟨rfl, t1, t2⟩
   cases hm : SynP.isMark [39] s2.ts with
   | true =>
    rw [if_pos hm] at t2
    have hml := mark_len hm
    have HRR : Hid (SynP.turns g (.turn k) s2.adv = r) := by
     have h1 := HTU.out
     unfold SynP.turns at h1
     rw [if_pos hm] at h1
     exact h1
    have HP3 := Lib.hid (HPS.out.step t2 t1 (by omega) rfl)
    have hkn := (KNew.fresh t2 [p]).resolve_right (by simp)
    have HKN := Lib.hid hkn
    have HA := Lib.hid (below_alloc w3 (.cells #[.int .i64 ((p : Nat) : Int)] 3))
    have HP4 := Lib.hid (HP3.out.step (HP3.out.rs.below HA.out) (Wr.of_below HA.out) (Nat.le_refl _) rfl)
    clear t1 t2 hm hkn
    go_wp2_with fail
    refine (rd_put R tv L fin (a2 + 1) s2.adv nv2 (ns ++ ns2) _ HP4.out.rs ⟨5, [], [p]⟩ _ HKN.out (by rw [List.length_append]; omega)).mono ?_
    rintro e w5 ⟨nv5, rfl, b1, b2, b3⟩
    have HP5 := Lib.hid (HP4.out.putS b1 b2 b3 (by rw [List.length_append]; omega) (fun q hq => by cases hq; exact HP3.out.wr.size))
    have HL5 := Lib.hid b1.left
    obtain ⟨nn, hnn⟩ : ∃ nn, nn = (ns ++ ns2).length := ⟨_, rfl⟩
    rw [← hnn]
    have HNN := Lib.hid hnn
    clear b1 b2 b3 hnn
    go_wp2_with fail
    have hfin : TuO R tv L fin s nv ns w r (.int .i64 ((nn : Nat) : Int)) w5 := by
     refine ⟨g, .turn k, s2.adv, a2 + 1, nv5, _, HRR.out, HP5.out, ?_, ?_⟩
     ·rw [HNN.out, List.length_append, hlen]; rfl
     ·rw [List.map_append, HFL.out, HP.out]; rfl
    have hlf : leftOf L R w5 < leftOf L R wo := by rw [HL5.out, HL2.out]; omega
    first | exact ⟨hfin, hlf⟩ | exact ⟨by (repeat apply Exists.intro); exact ⟨hfin, rfl⟩, hlf⟩
   | false =>
    rw [if_neg (by rw [hm]; decide)] at t2
    have HRR : Hid (r = some (.ok (k, s2))) := by
     have h1 := HTU.out
     unfold SynP.turns at h1
     rw [if_neg (by rw [hm]; decide)] at h1
     show _ = _
     rw [← h1]; rfl
    have HP3 := Lib.hid (HPS.out.step t2 t1 (Nat.le_refl _) rfl)
    clear t1 t2 hm
    go_wp2_with fail
    go_ret
    rw [HRR.out]
    exact ⟨_, a2, nv2, ns2, rfl, HP3.out, by rw [HP.out]; rfl, HFL.out⟩
set_option maxRecDepth 100000 in
set_option maxHeartbeats 4000000 in
theorem factor_w (fin f : Nat) (P : SynP.St → SynP.PR SynP.Ex) (HE : ∀ s e, P s ≠ some (.error e)) (IH : ExOk 235 P fin) : ExOk 208 (facW fin f P) fin := by
 intro R tv L a s nv ns w h hf
 have H := Lib.hid h
 have HIH := Lib.hid IH
 obtain ⟨r, hr⟩ : ∃ r, r = facW fin f P s := ⟨_, rfl⟩
 rw [← hr] at hf ⊢
 obtain ⟨r1, hr1⟩ : ∃ r1, r1 = SynP.minuses f 0 s := ⟨_, rfl⟩
 have HR0 : Hid (r = r1.bind fun n s => (P s).bind fun k s => if SynP.isMark [94] s.ts then (SynP.number fin s.adv).bind fun m s => SynP.ret (SynP.negs n (.pow k m)) s else none) := by show _ = _; rw [hr, hr1]; rfl
 have HNE := Lib.hid hf
 have HR1N : Hid (r1 ≠ none) := fun e => HNE.out (by rw [HR0.out, e]; rfl)
 have hfew := h.few
 have hfewS := h.short
 have hts : s.ts.length ≤ 67108864 := by rw [← h.drop, List.length_drop]; omega
 have HST : Hid (MiO R tv L fin s nv ns w r1 (.int .i64 0) w) := ⟨f, 0, s, a, hr1.symm, rfl, h, Wr.refl _ _ _, by omega, rfl⟩
 clear h hr hf IH hr1
 go_enter Tryz.func208, Tryz.ntmps208
 go_wp2_with fail
 go_loopw [3] (fun nn wr => MiO R tv L fin s nv ns w r1 nn wr) (fun _ wr => leftOf L R wr)
 case atStart => exact HST.out
 clear HST
 case round =>
  obtain ⟨g, n, s1, a1, hmi, rfl, hrs, hwr, hns, hop⟩ := hrel
  obtain ⟨wo, rfl⟩ : ∃ wo, wo = wr := ⟨_, rfl⟩
  cases g with
  | zero => exact absurd hmi.symm HR1N.out
  | succ g =>
   have HS1 := Lib.hid hrs
   have HW1 := Lib.hid hwr
   have HMI := Lib.hid hmi
   have HOP := Lib.hid hop
   have HL1 := Lib.hid hrs.left
   clear hmi hrs hwr hop
   go_wp2_with fail
   refine (rd_take R tv L fin a1 s1 nv ns _ HS1.out [45]).mono ?_
   rintro e w3 ⟨rfl, t1, t2⟩
   cases hm : SynP.isMark [45] s1.ts with
   | true =>
    rw [if_pos hm] at t2
    have hml := mark_len hm
    have HRR : Hid (SynP.minuses g (n + 1) s1.adv = r1) := by
     have h1 := HMI.out
     unfold SynP.minuses at h1
     rw [if_pos hm] at h1
     exact h1
    have HT1 := Lib.hid (RS.step HW1.out t1)
    have HT2 := Lib.hid t2
    have HL3 := Lib.hid t2.left
    clear t1 t2 hm
    go_wp2_with fail
    have hfin : MiO R tv L fin s nv ns w r1 (.int .i64 ((n : Int) + 1)) w3 := ⟨g, n + 1, s1.adv, a1 + 1, HRR.out, by congr 1, HT2.out, HT1.out, by omega, HOP.out⟩
    have hlf : leftOf L R w3 < leftOf L R wo := by rw [HL3.out, HL1.out]; omega
    first | exact ⟨hfin, hlf⟩ | exact ⟨by (repeat apply Exists.intro); exact ⟨hfin, rfl⟩, hlf⟩
   | false =>
    rw [if_neg (by rw [hm]; decide)] at t2
    have HR2 : Hid (r = (P s1).bind fun k s => if SynP.isMark [94] s.ts then (SynP.number fin s.adv).bind fun m s => SynP.ret (SynP.negs n (.pow k m)) s else none) := by
     have h1 := HMI.out
     unfold SynP.minuses at h1
     rw [if_neg (by rw [hm]; decide)] at h1
     show _ = _
     rw [HR0.out, ← h1]; rfl
    have HP2 := Lib.hid ((PSt.refl H.out).step (s2 := s1) (w2 := w3) (a2 := a1) (by rw [List.append_nil]; exact t2) (RS.step HW1.out t1) (by omega) HOP.out)
    have HT2 := Lib.hid t2
    clear t1 t2 hm
    go_wp2_with fail
    refine (HIH.out R tv L a1 s1 nv ns _ HT2.out (fun e => HNE.out (by rw [HR2.out, e]; rfl))).mono ?_
    rintro e w4 hn
    rcases hN : P s1 with - | (⟨fc, fk⟩ | ⟨k, s4⟩)
    ·rw [hN] at hn; exact hn.elim
    ·exact absurd hN (HE _ _)
    rw [hN] at hn
    obtain ⟨v4, a4, nv4, ns4, rfl, n1, n2⟩ := hn
    have HR4 : Hid (r = if SynP.isMark [94] s4.ts then (SynP.number fin s4.adv).bind fun m s => SynP.ret (SynP.negs n (.pow k m)) s else none) := by show _ = _; rw [HR2.out, hN]; rfl
    have hfw4 := n1.few
    rw [List.length_append] at hfw4
    have HP4 : Hid (PSt R tv L fin s nv ns w w4 a4 s4 nv4 ns4) := by
     have := HP2.out.trans (by rw [List.append_nil]; exact n1)
     rw [List.nil_append] at this; exact this
    have hlen := n2.len
    have hsp := size_pos k
    obtain ⟨rfl, hfl⟩ := n2
    obtain ⟨p, hp⟩ : ∃ p, p = ns.length + k.size - 1 := ⟨_, rfl⟩
    rw [← hp]
    have HP := Lib.hid hp
    have HFL := Lib.hid hfl
    clear n1 hp hfl hN
    go_wp2_with fail
    refine (rd_take R tv L fin a4 s4 nv4 (ns ++ ns4) _ HP4.out.rs [94]).mono ?_
    rintro e w5 ⟨rfl, t1, t2⟩
    cases hm : SynP.isMark [94] s4.ts with
    | true =>
     rw [if_pos hm] at t2
     have hml := mark_len hm
     have HR5 : Hid (r = (SynP.number fin s4.adv).bind fun m s => SynP.ret (SynP.negs n (.pow k m)) s) := by show _ = _; rw [HR4.out, if_pos hm]
     have HP5 := Lib.hid (HP4.out.step t2 t1 (by omega) rfl)
     clear t1 t2 hm
     go_wp2_with fail
     refine (rd_number R tv L fin (a4 + 1) s4.adv nv4 (ns ++ ns4) _ HP5.out.rs).mono ?_
     rintro e w6 hn
     rcases hN : SynP.number fin s4.adv with - | (⟨fc, fk⟩ | ⟨m, s6⟩)
     ·rw [hN] at hn; exact hn.elim
     ·rw [hN] at hn
      obtain ⟨rfl, n1⟩ := hn
      refine ⟨rfl, ?_⟩
      have hre : r = some (.error (fc, fk)) := by rw [HR5.out, hN]; rfl
      rw [hre]
      exact ⟨rfl, HP5.out.wr.trans HP5.out.mv (n1.weak _)⟩
     rw [hN] at hn
     obtain ⟨v6, a6, rfl, n1, n2, n3, n4⟩ := hn
     have hl6 := number_len hN
     have HR6 : Hid (r = some (.ok (SynP.negs n (.pow k m), s6))) := by show _ = _; rw [HR5.out, hN]; rfl
     have HP6 := Lib.hid (HP5.out.step n1 n2 (by omega) hl6.2)
     have HN6 := Lib.hid n4
     obtain ⟨⟨xs, x1, x2, x3⟩, -⟩ := n4
     have HX1 := Lib.hid x1
     have HX2 := Lib.hid x2
     clear n1 n2 n3 hN x1 x2
     go_wp2_with fail
     refine (dec_any _ xs _ HP6.out.rs.sg HX1.out (by omega)).mono ?_
     rintro e w7 ⟨rfl, b1⟩
     rw [HX2.out, decTx_eq]
     have HP7 := Lib.hid (HP6.out.step (HP6.out.rs.below b1) (Wr.of_below b1) (Nat.le_refl _) rfl)
     have HKN := Lib.hid ((KNew.fresh HP7.out.rs [p]).resolve_right (by simp))
     have HA := Lib.hid (below_alloc w7 (.cells #[.int .i64 ((p : Nat) : Int)] 3))
     have HP8 := Lib.hid (HP7.out.step (HP7.out.rs.below HA.out) (Wr.of_below HA.out) (Nat.le_refl _) rfl)
     clear b1
     go_wp2_with fail
     refine (rd_put R tv L fin a6 s6 nv4 (ns ++ ns4) _ HP8.out.rs ⟨9, SynP.decT m, [p]⟩ _ HKN.out (by rw [List.length_append]; omega)).mono ?_
     rintro e w9 ⟨nv9, rfl, b1, b2, b3⟩
     have HP9 := Lib.hid (HP8.out.putS b1 b2 b3 (by rw [List.length_append]; omega) (fun q hq => by cases hq; exact HP7.out.wr.size))
     obtain ⟨nn, hnn⟩ : ∃ nn, nn = (ns ++ ns4).length := ⟨_, rfl⟩
     rw [← hnn]
     have HNN := Lib.hid hnn
     have HST2 : Hid (NgO R tv L fin s nv ns w n s6 (SynP.negs n (.pow k m)) (.int .i64 ((nn : Nat) : Int)) (.int .i64 0) w9) := by
      refine ⟨0, .pow k m, a6, nv9, _, rfl, Nat.zero_le _, rfl, HP9.out, ⟨?_, ?_⟩, ?_⟩
      ·rw [HNN.out, List.length_append, hlen]; rfl
      ·rw [List.map_append, HFL.out, HP.out]; rfl
      ·simp only [List.length_append, List.length_singleton]; omega
     clear b1 b2 b3 hnn
     go_wp2_with fail
     go_loopw [4, 21] (fun kv iv wr => NgO R tv L fin s nv ns w n s6 (SynP.negs n (.pow k m)) kv iv wr) (fun _ iv _ => (n - intOf iv).toNat)
     case atStart => exact HST2.out
     clear HST2
     case round =>
      obtain ⟨i, q, a10, nv10, ns10, rfl, hin, hng, hps, hex, hfw⟩ := hrel
      have hql := hex.len
      have hqp := size_pos q
      obtain ⟨rfl, hqf⟩ := hex
      obtain ⟨pq, hpq⟩ : ∃ pq, pq = ns.length + q.size - 1 := ⟨_, rfl⟩
      rw [← hpq]
      have HPQ := Lib.hid hpq
      have HQF := Lib.hid hqf
      have HP10 := Lib.hid hps
      have HNG := Lib.hid hng
      rw [List.length_append] at hfw
      clear hpq hqf hps hng
      by_cases hlt : i < n
      ·have HKN2 := Lib.hid ((KNew.fresh HP10.out.rs [pq]).resolve_right (by simp))
       have HA2 := Lib.hid (below_alloc wr (.cells #[.int .i64 ((pq : Nat) : Int)] 3))
       have HP11 := Lib.hid (HP10.out.step (HP10.out.rs.below HA2.out) (Wr.of_below HA2.out) (Nat.le_refl _) rfl)
       go_wp2_with fail
       refine (rd_put R tv L fin a10 s6 nv10 (ns ++ ns10) _ HP11.out.rs ⟨4, [], [pq]⟩ _ HKN2.out (by rw [List.length_append]; omega)).mono ?_
       rintro e w12 ⟨nv12, rfl, b1, b2, b3⟩
       have HP12 := Lib.hid (HP11.out.putS b1 b2 b3 (by rw [List.length_append]; omega) (fun q hq => by cases hq; exact HP10.out.wr.size))
       obtain ⟨n2, hn2⟩ : ∃ n2, n2 = (ns ++ ns10).length := ⟨_, rfl⟩
       rw [← hn2]
       have HN2 := Lib.hid hn2
       clear b1 b2 b3 hn2
       go_wp2_with fail
       have hfin : NgO R tv L fin s nv ns w n s6 (SynP.negs n (.pow k m)) (.int .i64 ((n2 : Nat) : Int)) (.int .i64 ((i : Int) + 1)) w12 := by
        refine ⟨i + 1, .neg q, a10, nv12, _, by congr 1, by omega, ?_, HP12.out, ⟨?_, ?_⟩, ?_⟩
        ·rw [← HNG.out, show n - i = (n - (i + 1)) + 1 from by omega]; rfl
        ·rw [HN2.out, List.length_append, hql]; rfl
        ·rw [List.map_append, HQF.out, HPQ.out]; rfl
        ·simp only [List.length_append, List.length_singleton]; omega
       first | exact ⟨hfin, by simp [intOf] <;> omega⟩ | exact ⟨by (repeat apply Exists.intro); exact ⟨hfin, rfl⟩, by simp [intOf] <;> omega⟩
      ·have hie : n - i = 0 := by omega
       have HQE : Hid (q = (SynP.negs n (.pow k m))) := by
        have := HNG.out
        rw [hie] at this; exact this
       clear hie
       go_wp2_with fail
       go_ret
       rw [HR6.out]
       exact ⟨_, a10, nv10, ns10, rfl, HP10.out, by rw [← HQE.out, HPQ.out]; rfl, by rw [← HQE.out]; exact HQF.out⟩
    | false => exact absurd (by rw [HR4.out, if_neg (by rw [hm]; decide)]) HNE.out
set_option maxRecDepth 100000 in
set_option maxHeartbeats 4000000 in
theorem term_w (fin : Nat) (P : SynP.St → SynP.PR SynP.Ex) (HE : ∀ s e, P s ≠ some (.error e)) (IH : ExOk 208 P fin) : ExOk 160 (oneW P [42]) fin := by
 intro R tv L a s nv ns w h hf
 obtain ⟨k, s1, hN, hr, hm⟩ := oneW_ok HE hf
 rw [hr]
 have HC := IH R tv L a s nv ns w h (by rw [hN]; simp)
 rw [hN] at HC
 replace HC := Lib.hid HC
 have HM := Lib.hid hm
 clear h hf IH HE hN hr hm
 go_enter Tryz.func160, Tryz.ntmps160
 go_wp2_with fail
 refine HC.out.mono ?_
 rintro e w1 ⟨v1, a1, nv1, ns1, rfl, n1, rfl, hfl⟩
 obtain ⟨p, hp⟩ : ∃ p, p = ns.length + k.size - 1 := ⟨_, rfl⟩
 rw [← hp]
 have HP := Lib.hid hp
 have HPS := Lib.hid n1
 have HFL := Lib.hid hfl
 clear hp n1 hfl HC
 go_wp2_with fail
 go_loopw [3] (fun kv wr => kv = .int .i64 ((p : Nat) : Int) ∧ wr = w1) (fun _ _ => 0)
 case atStart => exact ⟨rfl, rfl⟩
 case round =>
  obtain ⟨rfl, hw⟩ := hrel
  subst hw
  go_wp2_with fail
  refine (rd_take R tv L fin a1 s1 nv1 (ns ++ ns1) _ HPS.out.rs [42]).mono ?_
  rintro e w3 ⟨he, t1, t2⟩
  rw [HM.out 42 (by simp)] at he t2
  subst he
  rw [if_neg (by decide)] at t2
  replace HPS := Lib.hid (HPS.out.step t2 t1 (Nat.le_refl _) rfl)
  clear t1 t2
  go_wp2_with fail
  go_ret
  exact ⟨_, a1, nv1, ns1, rfl, HPS.out, by rw [HP.out]; rfl, HFL.out⟩
set_option maxRecDepth 100000 in
set_option maxHeartbeats 4000000 in
theorem expr_w (fin : Nat) (P : SynP.St → SynP.PR SynP.Ex) (HE : ∀ s e, P s ≠ some (.error e)) (IH : ExOk 160 P fin) : ExOk 97 (oneW P [43, 45]) fin := by
 intro R tv L a s nv ns w h hf
 obtain ⟨k, s1, hN, hr, hm⟩ := oneW_ok HE hf
 rw [hr]
 have HC := IH R tv L a s nv ns w h (by rw [hN]; simp)
 rw [hN] at HC
 replace HC := Lib.hid HC
 have HM := Lib.hid hm
 clear h hf IH HE hN hr hm
 go_enter Tryz.func97, Tryz.ntmps97
 go_wp2_with fail
 refine HC.out.mono ?_
 rintro e w1 ⟨v1, a1, nv1, ns1, rfl, n1, rfl, hfl⟩
 obtain ⟨p, hp⟩ : ∃ p, p = ns.length + k.size - 1 := ⟨_, rfl⟩
 rw [← hp]
 have HP := Lib.hid hp
 have HPS := Lib.hid n1
 have HFL := Lib.hid hfl
 clear hp n1 hfl HC
 go_wp2_with fail
 go_loopw [3, 4] (fun kv _ wr => kv = .int .i64 ((p : Nat) : Int) ∧ wr = w1) (fun _ _ _ => 0)
 case atStart => exact ⟨rfl, rfl⟩
 case round =>
  obtain ⟨rfl, hw⟩ := hrel
  subst hw
  go_wp2_with fail
  refine (rd_take R tv L fin a1 s1 nv1 (ns ++ ns1) _ HPS.out.rs [43]).mono ?_
  rintro e w3 ⟨he, t1, t2⟩
  rw [HM.out 43 (by simp)] at he t2
  subst he
  rw [if_neg (by decide)] at t2
  replace HPS := Lib.hid (HPS.out.step t2 t1 (Nat.le_refl _) rfl)
  clear t1 t2
  go_wp2_with fail
  refine (rd_take R tv L fin a1 s1 nv1 (ns ++ ns1) _ HPS.out.rs [45]).mono ?_
  rintro e w4 ⟨he, t1, t2⟩
  rw [HM.out 45 (by simp)] at he t2
  subst he
  rw [if_neg (by decide)] at t2
  replace HPS := Lib.hid (HPS.out.step t2 t1 (Nat.le_refl _) rfl)
  clear t1 t2
  go_wp2_with fail
  go_ret
  exact ⟨_, a1, nv1, ns1, rfl, HPS.out, by rw [HP.out]; rfl, HFL.out⟩
end Go.Proofs.YtgfmiladfeoldaaGreatDoor
namespace Go.Proofs.YtgfmiladfeoldaaGreatDoor
open Go.RowKit NatP LexP
set_option maxRecDepth 100000 in
set_option maxHeartbeats 4000000 in
theorem parts_w (fin : Nat) (P : SynP.St → SynP.PR SynP.Ex) (IH : ExOk 97 P fin) (R : Nat) (tv : Value) (L : List Tok) (a : Nat) (s : SynP.St) (nv : Value) (ns : List Nv) (w : World) (h : RS w R tv L fin a s nv ns) (k : SynP.Ex) (s1 : SynP.St) (hN : P s = some (.ok (k, s1))) (hm : SynP.isMark [44] s1.ts = false) :
  Calls Tryz.prog 98 #[.pointer (some ⟨R, 0, none⟩)] w (RP (some (.ok (.cons k .nil, s1))) R tv L fin s nv ns (PaQ R ns w) w) := by
 have HC := IH R tv L a s nv ns w h (by rw [hN]; simp)
 rw [hN] at HC
 replace HC := Lib.hid HC
 have HM := Lib.hid hm
 clear h IH hN hm
 go_enter Tryz.func98, Tryz.ntmps98
 go_wp2_with fail
 refine HC.out.mono ?_
 rintro e w1 ⟨v1, a1, nv1, ns1, rfl, n1, rfl, hfl⟩
 obtain ⟨p, hp⟩ : ∃ p, p = ns.length + k.size - 1 := ⟨_, rfl⟩
 rw [← hp]
 have HA := Lib.hid (below_alloc w1 (.cells #[.int .i64 ((p : Nat) : Int)] 3))
 have HKN : Hid (KNew (w1.alloc (.cells #[.int .i64 ((p : Nat) : Int)] 3)) R nv1 (ns ++ ns1) (.slice (some ⟨w1.heap.size, 0, none⟩) 1 1) [p]) := (KNew.fresh n1.rs [p]).resolve_right (by simp)
 have HP := Lib.hid hp
 have HPS := Lib.hid (n1.step (n1.rs.below HA.out) (Wr.of_below HA.out) (Nat.le_refl _) rfl)
 have HFL := Lib.hid hfl
 have HZ : Hid (w.heap.size ≤ w1.heap.size) := n1.wr.size
 obtain ⟨w2, hw2⟩ : ∃ w2, w2 = w1.alloc (.cells #[.int .i64 ((p : Nat) : Int)] 3) := ⟨_, rfl⟩
 rw [← hw2] at HKN HPS
 have HW2 := Lib.hid hw2
 clear hp n1 hfl HC HA hw2
 go_wp2_with fail
 rw [← HW2.out]
 go_loopw [3] (fun kv wr => kv = .slice (some ⟨w1.heap.size, 0, none⟩) 1 1 ∧ wr = w2) (fun _ _ => 0)
 case atStart => exact ⟨rfl, rfl⟩
 case round =>
  obtain ⟨rfl, hw⟩ := hrel
  subst hw
  go_wp2_with fail
  refine (rd_take R tv L fin a1 s1 nv1 (ns ++ ns1) _ HPS.out.rs [44]).mono ?_
  rintro e w3 ⟨he, t1, t2⟩
  rw [HM.out] at he t2
  subst he
  rw [if_neg (by decide)] at t2
  have HP3 := Lib.hid (HPS.out.step t2 t1 (Nat.le_refl _) rfl)
  have HK3 : Hid (KNew w3 R nv1 (ns ++ ns1) (.slice (some ⟨w1.heap.size, 0, none⟩) 1 1) [p]) := ⟨HKN.out.1.wr (t1.weak _) (Mv.refl _ _), HKN.out.2⟩
  clear t1 t2
  go_wp2_with fail
  go_ret
  refine ⟨_, a1, nv1, ns1, rfl, HP3.out, ?_, ?_, fun q hq => ?_⟩
  ·show KNew _ _ _ _ _ [ns.length + k.size - 1]
   rw [← HP.out]; exact HK3.out
  ·rw [HFL.out]; simp [SynP.Exs.flat]
  ·cases hq; exact HZ.out
def lineW (x : Bytes) (l : SynP.Exs) (s' : SynP.St) : SynP.PR SynP.Ln := some (.ok (.cmd x l, s'))
set_option maxRecDepth 100000 in
set_option maxHeartbeats 4000000 in
theorem line_w (fin : Nat) (P : SynP.St → SynP.PR SynP.Ex) (IH : ExOk 97 P fin) (R : Nat) (tv : Value) (L : List Tok) (s : SynP.St) (nv : Value) (w : World) (h : RS w R tv L fin 0 s nv []) (x : Bytes) (s3 s5 : SynP.St) (k : SynP.Ex)
  (h0 : s.ts ≠ []) (hk : SynP.isKind 2 s.ts = true) (hl : (SynP.headText s.ts == SynP.letB) = false) (hx : SynP.name fin s = some (.ok (x, s3))) (h3 : s3.ts ≠ []) (hN : P s3 = some (.ok (k, s5))) (hm : SynP.isMark [44] s5.ts = false) (h5 : s5.ts = []) :
  Calls Tryz.prog 49 #[.pointer (some ⟨R, 0, none⟩)] w (LnP (lineW x (.cons k .nil) s5) R tv L fin nv w) := by
 have HS0 := Lib.hid h
 have HD : Hid (decide (s.ts = []) = false) := decide_eq_false h0
 have HD3 : Hid (decide (s3.ts = []) = false) := decide_eq_false h3
 have HD5 : Hid (decide (s5.ts = []) = true) := decide_eq_true h5
 have HPA : Hid (∀ (a : Nat) (w : World), RS w R tv L fin a s3 nv [] → Calls Tryz.prog 98 #[.pointer (some ⟨R, 0, none⟩)] w (RP (some (.ok (.cons k .nil, s5))) R tv L fin s3 nv [] (PaQ R [] w) w)) := fun a w h => parts_w fin P IH R tv L a s3 nv [] w h k s5 hN hm
 have HX := Lib.hid hx
 have hfew := h.few
 rw [List.length_nil, Nat.zero_add] at hfew
 have C2 := Lib.hid (comes_kind 2 [] s.ts (by decide))
 rw [hk] at C2
 obtain ⟨ao, cap, rfl, t1, t2, t3⟩ := h.tks
 have hdr := h.drop
 rw [List.drop_zero] at hdr
 obtain ⟨t, l, hts⟩ := List.exists_cons_of_ne_nil h0
 have hL0 : 0 < L.length := by rw [hdr, hts]; simp
 obtain ⟨g, rfl, hg, hcl⟩ := t3 hL0
 obtain ⟨-, d1, -⟩ := hcl 0 t (by rw [hdr, hts]; rfl)
 have ht1 : t.2.1 = SynP.headText s.ts := by rw [hts]; rfl
 rw [ht1] at d1
 have D1 := Lib.hid d1
 have hRl := h.lt
 have HRL := Lib.hid hRl
 obtain ⟨tt, htt⟩ : ∃ tt, tt = SynP.headText s.ts := ⟨_, rfl⟩
 rw [← htt] at D1 hl
 have HL := Lib.hid hl
 have HSL := Lib.hid (show s3.ts.length < s.ts.length from by
  have e1 := (name_keep hx).1
  have e2 := kind_adv (name_keep hx).2
  rw [← e1] at e2; omega)
 clear h h0 t3 hcl hdr hts d1 ht1 htt hk hl hx h3 h5 IH hN hm
 go_enter Tryz.func49, Tryz.ntmps49
 go_wp2_with fail
 refine (rd_done R _ L fin 0 s nv [] _ HS0.out).mono ?_
 rintro e w1 ⟨rfl, b1⟩
 rw [HD.out]
 have HP1 : Hid (Ln0 R (.slice (some ⟨g, 0, none⟩) L.length cap) L fin nv w w1 0 s nv []) := ⟨HS0.out.below b1, Wr.of_below b1, Mv.refl _ _, fun p hp => by cases hp⟩
 have D2 : Hid (w1.cell? ⟨g, 1, none⟩ = some (.string ⟨tt.toArray⟩)) := (b1.cell (p := ⟨g, 1, none⟩) (by show g < _; have := HRL.out; omega)).trans D1.out
 have hgl1 : g < w1.heap.size := by have := b1.size; have := HRL.out; omega
 clear b1
 go_wp2_with fail
 refine (rd_comes R _ L fin 0 s nv [] _ HP1.out.rs 0 2 [] (by omega) (by omega)).mono ?_
 rintro e w2 ⟨rfl, b1⟩
 rw [C2.out]
 have HP2 := Lib.hid (HP1.out.step (HP1.out.rs.below b1) (Wr.of_below b1))
 have e0 := HP2.out.rs.cells.1
 have e2 : w2.cell? ⟨g, 1, none⟩ = some (.string ⟨tt.toArray⟩) := (b1.cell (p := ⟨g, 1, none⟩) hgl1).trans D2.out
 have hc : (tt == [108, 101, 116]) = false := HL.out
 clear b1
 go_wp2_with fail
 refine (rd_name R _ L fin 0 s nv [] _ HP2.out.rs).mono ?_
 rintro e w3 hn
 rw [HX.out] at hn
 obtain ⟨v3, a3, rfl, n1, n2, n3, rfl⟩ := hn
 have HP3 := Lib.hid (HP2.out.step n1 n2)
 clear n1 n2 n3
 go_wp2_with fail
 refine (rd_done R _ L fin a3 s3 nv [] _ HP3.out.rs).mono ?_
 rintro e w4 ⟨rfl, b1⟩
 rw [HD3.out]
 have HP4 := Lib.hid (HP3.out.step (HP3.out.rs.below b1) (Wr.of_below b1))
 clear b1
 go_wp2_with fail
 refine (HPA.out a3 _ HP4.out.rs).mono ?_
 rintro e w5 ⟨v5, a5, nv5, ns5, rfl, n1, n2, n3, n4⟩
 have HP6 := Lib.hid (HP4.out.trans n1)
 have HF := Lib.hid n3
 have HKN := Lib.hid n2
 have HKF : Hid (∀ q, v5.ownBlock = some q → w.heap.size ≤ q) := fun q hq => Nat.le_trans HP4.out.wr.size (n4 q hq)
 have hfw := n1.few
 rw [List.nil_append, List.length_nil, Nat.zero_add] at hfw
 have hsl := HSL.out
 clear n1 n2 n3 n4
 go_wp2_with fail
 refine (rd_put R _ L fin a5 s5 nv5 ([] ++ ns5) _ HP6.out.rs ⟨12, x, (SynP.Exs.cons k .nil).roots 0⟩ _ HKN.out (by rw [List.nil_append]; omega)).mono ?_
 rintro e w6 ⟨nv6, rfl, b1, b2, b3⟩
 have HP8 := Lib.hid (HP6.out.put b1 b2 b3 HKF.out)
 clear b1 b2 b3
 have hmap : (([] ++ ns5) ++ [((⟨12, x, (SynP.Exs.cons k .nil).roots 0⟩ : SynP.Node), v5)]).map Prod.fst = (SynP.Ln.cmd x (.cons k .nil)).flat := by
  rw [List.nil_append, List.map_append, HF.out]; rfl
 have HMAP := Lib.hid hmap
 clear hmap
 go_wp2_with fail
 refine (rd_done R _ L fin a5 s5 nv6 _ _ HP8.out.rs).mono ?_
 rintro e w7 ⟨rfl, b1⟩
 rw [HD5.out]
 have HP9 := Lib.hid (HP8.out.step (HP8.out.rs.below b1) (Wr.of_below b1))
 clear b1
 go_wp2_with fail
 first | go_end0 | refine bodyPost_ret (results_none rfl _ _ _) rfl ?_
 exact ⟨rfl, a5, nv6, _, HP9.out.rs, HP9.out.wr, HMAP.out, HP9.out.mv, HP9.out.fresh⟩
set_option maxRecDepth 100000 in
theorem guarded_w (fin : Nat) (R : Nat) (tv : Value) (L : List Tok) (s : SynP.St) (nv : Value) (w : World) (n : SynP.Ln) (s' : SynP.St) (h : RS w R tv L fin 0 s nv []) (hl : ∀ w, RS w R tv L fin 0 s nv [] → Calls Tryz.prog 49 #[.pointer (some ⟨R, 0, none⟩)] w (LnP (some (.ok (n, s'))) R tv L fin nv w)) :
  Calls Tryz.prog 48 #[.func (.func 49) #[.pointer (some ⟨R, 0, none⟩)] #[]] w (GuP (some (.ok (n, s'))) R tv L fin nv w) := by
 have hmf : ∀ (fn : Fn) (first cap : Array Value) (w : World), (Instr.makeFunc fn first cap).run Tryz.prog w = .ok (.func fn first cap) w := fun _ _ _ _ => rfl
 have HA := Lib.hid (below_alloc w (.cells #[.int .i64 0, .int .i64 0] 81))
 have HS := Lib.hid (h.below HA.out)
 have hRl := h.lt
 have HB := Lib.hid (heap_alloc_new w (.cells #[.int .i64 0, .int .i64 0] 81))
 have HL := Lib.hid hl
 have HLT : Hid (∀ q, nv.ownBlock = some q → q < w.heap.size) := fun q hq => (h.own.lt q hq).2
 clear h hl
 go_enter_defers Tryz.func48, Tryz.ntmps48
 go_wp2_with fail
 refine (HL.out _ HS.out).mono ?_
 rintro e w2 hn
 obtain ⟨rfl, a', nv', ns', n1, n2, n3, n4, n5⟩ := hn
 have hb : w2.heap[w.heap.size]? = some (.cells #[.int .i64 0, .int .i64 0] 81 (0, 0)) := (n2.block w.heap.size (by simp) (by omega) (fun e => by have := HLT.out _ e.symm; omega)).trans HB.out
 have hz0 : w2.frozen? ⟨w.heap.size, 0, none⟩ = false := frozen_of_row _ _ 0 _ _ hb
 have hz1 : w2.frozen? ⟨w.heap.size, 1, none⟩ = false := frozen_of_row _ _ 1 _ _ hb
 have hc0 : w2.cell? ⟨w.heap.size, 0, none⟩ = some (.int .i64 0) := by rw [cell_of_row _ _ 0 _ _ _ hb]; rfl
 have hc1 : w2.cell? ⟨w.heap.size, 1, none⟩ = some (.int .i64 0) := by rw [cell_of_row _ _ 1 _ _ _ hb]; rfl
 have hne1 : nv'.ownBlock ≠ some w.heap.size := fun e => by
  rcases n4 _ e with h1 | h1
  ·have := HLT.out _ h1; omega
  ·simp at h1; omega
 have hne2 : ∀ p ∈ ns', p.2.ownBlock ≠ some w.heap.size := fun p hp e => by
  have h1 := n5 p hp _ e
  simp at h1
  omega
 have g1 := (n1.growK (grown_setG (g := w.heap.size) (o := 0) w2 (.int .i64 0)) (fun q hq => by cases hq; exact ⟨hRl, hne1, hne2⟩)).1
 have g2 := (g1.growK (grown_setG (g := w.heap.size) (o := 1) _ (.int .i64 0)) (fun q hq => by cases hq; exact ⟨hRl, hne1, hne2⟩)).1
 have G2 := Lib.hid g2
 have HWR := Lib.hid (((((Wr.of_below (R := R) (og := nv.ownBlock) HA.out).trans (Mv.refl _ _) n2).sets (g := w.heap.size) (o := 0) (Nat.le_refl _) (.int .i64 0)).sets (g := w.heap.size) (o := 1) (Nat.le_refl _) (.int .i64 0)))
 have N3 := Lib.hid n3
 have s1 := heap_setCell_same w2 w.heap.size 0 _ 81 (.int .i64 0) hb
 have S2 := Lib.hid (heap_setCell_same (w2.setCell ⟨w.heap.size, 0, none⟩ (.int .i64 0)) w.heap.size 1 _ 81 (.int .i64 0) s1)
 clear n1 n2 n3 n4 n5 hb hne1 hne2 g1 g2 s1
 go_wp2_with fail
 refine leaves_cons (f := 92) (args := #[.pointer (some ⟨w.heap.size, 0, none⟩)]) (by simp) (by simp [go_sem]) ?_
 refine (catch_none w.heap.size _).mono ?_
 rintro e u' w3 ⟨rfl, rfl, hw3⟩
 rw [← hw3] at G2 HWR
 have q0 : w3.cell? ⟨w.heap.size, 0, none⟩ = some (.int .i64 0) := by rw [hw3, cell_of_row _ _ 0 _ _ _ S2.out]; rfl
 have q1 : w3.cell? ⟨w.heap.size, 1, none⟩ = some (.int .i64 0) := by rw [hw3, cell_of_row _ _ 1 _ _ _ S2.out]; rfl
 clear hw3
 simp [Leaves, settle, results, Tryz.results48, go_sem, q0, q1]
 exact ⟨rfl, a', nv', ns', G2.out, HWR.out, N3.out⟩
def atW (s0 : SynP.St) (k : SynP.Ex) (s1 s : SynP.St) : SynP.PR SynP.Ex := if s = s0 then some (.ok (k, s1)) else none
theorem atW_e {s0 : SynP.St} {k : SynP.Ex} {s1 : SynP.St} : ∀ s e, atW s0 k s1 s ≠ some (.error e) := by
 intro s e; unfold atW; split <;> simp
theorem ExOk.at {F : Nat} {P : SynP.St → SynP.PR SynP.Ex} {fin : Nat} (h : ExOk F P fin) {s0 : SynP.St} {k : SynP.Ex} {s1 : SynP.St} (e : P s0 = some (.ok (k, s1))) : ExOk F (atW s0 k s1) fin := by
 intro R tv L a s nv ns w hr hne
 by_cases hs : s = s0
 ·subst hs
  have h2 := h R tv L a s nv ns w hr (by rw [e]; simp)
  rw [e] at h2
  unfold atW
  rw [if_pos rfl]
  exact h2
 ·exact absurd (by unfold atW; rw [if_neg hs]) hne
def wakeTs : List Tok := match Toks 1 (chars wakeB) with | .ok ts => ts | .error _ => []
theorem atom_w : ExOk 251 (atW ⟨wakeTs.drop 2, 0⟩ (.name [65]) ⟨wakeTs.drop 3, 0⟩) 12 := by
 intro R tv L a s nv ns w hr hne
 by_cases hs : s = ⟨wakeTs.drop 2, 0⟩
 ·subst hs
  have e : SynP.atom 12 1 ⟨wakeTs.drop 2, 0⟩ = some (.ok (.name [65], ⟨wakeTs.drop 3, 0⟩)) := by kernel_rfl
  have h2 := atom_name 12 0 R tv L a ⟨wakeTs.drop 2, 0⟩ nv ns w hr (by kernel_rfl) (by kernel_rfl) (by kernel_rfl) (by rw [e]; simp)
  rw [e] at h2
  unfold atW
  rw [if_pos rfl]
  exact h2
 ·exact absurd (by unfold atW; rw [if_neg hs]) hne
theorem fixed_w : ExOk 97 (atW ⟨wakeTs.drop 1, 0⟩ (.neg (.pow (.turn (.name [65])) 2)) ⟨[], 0⟩) 12 := by
 have a1 : ExOk 235 (atW ⟨wakeTs.drop 2, 0⟩ (.turn (.name [65])) ⟨wakeTs.drop 4, 0⟩) 12 := (post_w 12 3 _ atW_e atom_w).at (by kernel_rfl)
 have a2 : ExOk 208 (atW ⟨wakeTs.drop 1, 0⟩ (.neg (.pow (.turn (.name [65])) 2)) ⟨[], 0⟩) 12 := (factor_w 12 3 _ atW_e a1).at (by kernel_rfl)
 have a3 : ExOk 160 (atW ⟨wakeTs.drop 1, 0⟩ (.neg (.pow (.turn (.name [65])) 2)) ⟨[], 0⟩) 12 := (term_w 12 _ atW_e a2).at (by kernel_rfl)
 exact (expr_w 12 _ atW_e a3).at (by kernel_rfl)
set_option maxRecDepth 100000 in
theorem parse_w (w : World) (hx : Lx w) (hs : SG w) (hsz : 4 < w.heap.size) :
  Calls Tryz.prog 13 #[.string wakeT] w fun e w' => ∃ nv ns, e = .returned (.tuple #[nv, .int .i64 0, .int .i64 0]) ∧ Below w.heap.size w w' ∧ Tr w' w.heap.size nv ns ∧ ns.map Prod.fst = wakeLn.flat := by
 have hmf : ∀ (fn : Fn) (first cap : Array Value) (w : World), (Instr.makeFunc fn first cap).run Tryz.prog w = .ok (.func fn first cap) w := fun _ _ _ _ => rfl
 have HST := Lib.hid (start_any wakeT w (by show _ ≤ _; decide) hx hs hsz)
 have hsl : wakeT.size = 11 := rfl
 have hT : Toks 1 (chars wakeT.data.toList) = .ok wakeTs := by kernel_rfl
 obtain ⟨T, hTT⟩ : ∃ T, T = wakeT := ⟨_, rfl⟩
 rw [← hTT] at HST hsl hT ⊢
 have HT := Lib.hid hT
 have HFN : Hid ((chars T.data.toList).length + 1 = 12) := by show _ = _; rw [hTT]; kernel_rfl
 clear hx hs hT hTT
 go_enter Tryz.func13, Tryz.ntmps13
 go_wp2_with fail
 refine HST.out.mono ?_
 rintro e w1 hn
 unfold StP at hn
 rw [HT.out, HFN.out] at hn
 obtain ⟨R, tv, rfl, hR, hb, h⟩ := hn
 have HS := Lib.hid h
 have HB := Lib.hid hb
 clear hb h
 go_wp2_with fail
 refine (guarded_w 12 R tv wakeTs ⟨wakeTs, 0⟩ _ _ wakeLn ⟨[], 0⟩ HS.out (fun w h => line_w 12 _ fixed_w R tv wakeTs ⟨wakeTs, 0⟩ _ w h [112, 114, 105, 110, 116] ⟨wakeTs.drop 1, 0⟩ ⟨[], 0⟩ _ (by decide +kernel) (by kernel_rfl) (by kernel_rfl) (by kernel_rfl) (by decide +kernel) (by kernel_rfl) (by kernel_rfl) rfl)).mono ?_
 rintro e w2 ⟨rfl, a', nv', ns', n1, n2, n3⟩
 have HA := Lib.hid (below_alloc w2 (.cells #[.int .i64 0, .int .i64 0] 81))
 have HW := Lib.hid (below_next (Wr.belowR n2 HB.out hR) HA.out)
 have n1' := n1.below HA.out
 have HTR := Lib.hid (n1'.tr hR)
 have e4 := n1'.cells.2.2.2.2
 have hlen : ns'.length = 5 := by
  have := congrArg List.length n3
  rw [List.length_map] at this
  exact this
 have HN3 := Lib.hid n3
 obtain ⟨ao, cap, rfl, -, -, -⟩ := ownsRow_shape n1.own
 rw [hlen] at e4
 have HLN := Lib.hid hlen
 clear n1 n1' n2 n3 hlen
 go_wp2_with fail
 go_ret3
 refine ⟨.slice ao 5 cap, ns', rfl, HW.out, ?_, HN3.out⟩
 rw [← HLN.out]; exact HTR.out
end Go.Proofs.YtgfmiladfeoldaaGreatDoor
namespace Go.Proofs.YtgfmiladfeoldaaGreatDoor
open Go.RowKit NatP LexP
theorem ln_w : LnOk wakeLn := ln_cmd_cons _ _ _ fun e h => by
 rcases List.mem_cons.1 h with h | h
 ·rw [h]
  exact node_neg _ (node_pow _ _ (node_turn _ (node_name _)))
 ·cases h
theorem grown_wake : SynP.grownL SynP.WV (SynP.nL wakeLn.flat).length 0 [] (SynP.nL wakeLn.flat) = true := by
 rw [wake_nL]
 kernel_rfl
theorem written_w (w : World) (hx : Lx w) (hs : SG w) (hsz : 4 < w.heap.size) : ∀ x ∈ SynP.nL wakeLn.flat, ∀ kv w', Below w.heap.size w w' → Calls Tryz.prog 101 #[.agg #[.int .i64 x.op, .string ⟨x.text.toArray⟩, kv]] w' (WtPost x.op x.text w') := by
 intro x h kv w' hb
 rw [wake_nL] at h
 simp only [List.mem_cons, List.not_mem_nil, or_false] at h
 rcases h with rfl | rfl | rfl | rfl | rfl
 ·exact written_nam 2 (.inl rfl) [65] kv w' (by decide) (hx.below hb)
 ·exact written_rest 5 (by decide) (by decide) (by decide) (by decide) (by decide) (by decide) (by decide) (by decide) [] kv w'
 ·exact written_numC 9 (.inr rfl) [50] kv w' fun w2 hb2 => numeral_good [50] w2 (by decide) (hs.below (below_next hb hb2) hsz) (Nat.lt_of_lt_of_le hsz (below_next hb hb2).size) (by decide) (by decide)
 ·exact written_rest 4 (by decide) (by decide) (by decide) (by decide) (by decide) (by decide) (by decide) (by decide) [] kv w'
 ·exact written_do [112, 114, 105, 110, 116] kv w' (by decide) (hx.below hb)
theorem print_w (v : Value) (w : World) (hv : NdL w w.heap.size v (SynP.nL wakeLn.flat)) (hx : Lx w) (hs : SG w) (hsz : 4 < w.heap.size) :
  Calls Tryz.prog 14 #[v] w (PrPost wakeLn w) :=
 print_of wakeLn v w w.heap.size (by decide) (by rw [wake_pr]; decide) ln_w grown_wake (grown_of v _ w w.heap.size (by rw [wake_nL]; decide) (written_w w hx hs hsz) hv (Nat.le_refl _)) hv (Nat.le_refl _)
set_option maxRecDepth 100000 in
set_option maxHeartbeats 4000000 in
theorem wakes_w (w : World) (hx : Lx w) (hs : SG w) (hsz : 4 < w.heap.size) :
  Calls Tryz.prog 12 #[] w fun e w' => e = .returned (.bool true) ∧ Below w.heap.size w w' := by
 have HX := Lib.hid hx
 have HS := Lib.hid hs
 have HP := Lib.hid (parse_w w hx hs hsz)
 clear hx hs
 go_enter Tryz.func12, Tryz.ntmps12
 go_wp2_with fail
 refine HP.out.mono ?_
 rintro e w1 hn
 obtain ⟨nv, ns, rfl, hb, htr, hfl⟩ := hn
 have hnd := htr.ndl
 rw [hfl] at hnd
 have HND := Lib.hid hnd
 have HB := Lib.hid hb
 obtain ⟨ao, cap, rfl, h1, h2, hc⟩ := hnd
 rw [wake_nL] at h1 hc ⊢
 obtain ⟨g, rfl, hg, hc⟩ := hc (by decide)
 obtain ⟨e0, -, -⟩ := hc 3 _ rfl
 obtain ⟨-, e1, -⟩ := hc 2 _ rfl
 have e0 : w1.cell? ⟨g, 9, none⟩ = some (.int .i64 4) := e0
 have e1 : w1.cell? ⟨g, 7, none⟩ = some (.string ⟨#[50]⟩) := e1
 have HPR := Lib.hid (print_w (.slice (some ⟨g, 0, none⟩) 5 cap) w1 HND.out (HX.out.below hb) (HS.out.below hb hsz) (Nat.lt_of_lt_of_le hsz hb.size))
 simp only [List.length_cons, List.length_nil] at h1 ⊢
 clear hb htr hfl hc
 go_wp2_with fail
 refine HPR.out.mono ?_
 rintro e w2 ⟨h3, hb2⟩
 have hdp : wakeLn.dp = 0 := by decide
 rw [if_neg (by omega), wake_pr] at h3
 subst h3
 have HB2 := Lib.hid (below_next HB.out hb2)
 clear hb2
 go_wp2_with fail
 go_ret
 exact ⟨rfl, HB2.out⟩
end Go.Proofs.YtgfmiladfeoldaaGreatDoor
