/- Joined texts of this claim's proof: RdV, RdW. -/
import Derived.Test.YtgfmiladfeoldaaGreatDoorPl30
set_option linter.unusedSimpArgs false
set_option linter.unusedVariables false
namespace Go.Proofs.YtgfmiladfeoldaaGreatDoor
open Go.RowKit NatP LexP
theorem PSt.of0 {R : Nat} {tv : Value} {L : List Tok} {fin a a2 : Nat} {s s2 : SynP.St} {nv : Value} {ns : List Nv} {w w2 : World} (h : RS w R tv L fin a s nv ns) (k : RS w2 R tv L fin a2 s2 nv ns) (hw : Wr R none w w2) (hl : s2.ts.length ≤ s.ts.length) (ho : s2.opened = s.opened) : PSt R tv L fin s nv ns w w2 a2 s2 nv [] :=
 (PSt.refl h).step (by rw [List.append_nil]; exact k) hw hl ho
theorem PSt.wrap {R : Nat} {tv : Value} {L : List Tok} {fin a a3 a4 : Nat} {s s2 s3 s4 : SynP.St} {nv nv3 : Value} {ns ns3 : List Nv} {w w2 w3 w4 : World} (h : RS w R tv L fin a s nv ns) (hw : Wr R none w w2) (hl2 : s2.ts.length ≤ s.ts.length) (ho2 : s2.opened = s.opened + 1)
  (m : PSt R tv L fin s2 nv ns w2 w3 a3 s3 nv3 ns3) (k4 : RS w4 R tv L fin a4 s4 nv3 (ns ++ ns3)) (hw4 : Wr R none w3 w4) (hl4 : s4.ts.length ≤ s3.ts.length) (ho4 : s4.opened = s3.opened - 1) : PSt R tv L fin s nv ns w w4 a4 s4 nv3 ns3 :=
 ⟨k4, ((hw.weak _).trans (Mv.refl _ _) m.wr).trans (Mv.trans (R := R) (w' := w2) (Mv.refl _ _) hw.size m.mv) (hw4.weak _), Mv.trans (R := R) (w' := w2) (Mv.refl _ _) hw.size m.mv, by have := m.few; omega, by rw [ho4, m.opn, ho2]; omega, fun p hp q hq => Nat.le_trans hw.size (m.fresh p hp q hq)⟩
theorem openB_keep {fin : Nat} {s s' : SynP.St} {u : Unit} (h : SynP.openB fin s = some (.ok (u, s'))) : s'.opened = s.opened + 1 ∧ s'.ts.length ≤ s.ts.length := by
 unfold SynP.openB at h
 split at h
 ·exact (SynP.fault_ok h).elim
 ·have e := SynP.ret_ok h
  cases e
  exact ⟨rfl, tail_le s⟩
theorem closeB_keep {fin : Nat} {s s' : SynP.St} {u : Unit} (h : SynP.closeB fin s = some (.ok (u, s'))) : s'.opened = s.opened - 1 ∧ s'.ts.length ≤ s.ts.length := by
 unfold SynP.closeB at h
 obtain ⟨u, s1, h1, h2⟩ := SynP.bind_ok h
 have e := SynP.ret_ok h2
 cases e
 exact ⟨by show s1.opened - 1 = _; rw [(SynP.want_keep h1).1], (SynP.want_keep h1).2⟩
theorem name_keep {fin : Nat} {s s' : SynP.St} {x : Bytes} (h : SynP.name fin s = some (.ok (x, s'))) : s' = s.adv ∧ SynP.isKind 2 s.ts = true := by
 unfold SynP.name at h
 split at h
 ·have e := SynP.ret_ok h
  cases e
  rename_i hk
  exact ⟨rfl, hk⟩
 ·exact (SynP.fault_ok h).elim
set_option maxRecDepth 100000 in
set_option maxHeartbeats 4000000 in
theorem atom_name (fin f : Nat) (R : Nat) (tv : Value) (L : List Tok) (a : Nat) (s : SynP.St) (nv : Value) (ns : List Nv) (w : World) (h : RS w R tv L fin a s nv ns) (hk1 : SynP.isKind 1 s.ts = false) (hk2 : SynP.isKind 2 s.ts = true) (hm : SynP.isMark [40] s.ts.tail = false) (hne : SynP.atom fin (f + 1) s ≠ none) :
  Calls Tryz.prog 251 #[.pointer (some ⟨R, 0, none⟩)] w (RP (SynP.atom fin (f + 1) s) R tv L fin s nv ns (ExQ ns) w) := by
 have HS0 := Lib.hid h
 have HW0 : Hid (Wr R none w w) := Wr.refl _ _ _
 obtain ⟨r, hr⟩ : ∃ r, r = SynP.atom fin (f + 1) s := ⟨_, rfl⟩
 rw [← hr] at hne ⊢
 have HNE := Lib.hid hne
 have HR0 : Hid (r = (SynP.name fin s).bind fun x s => SynP.ret (.name x) s) := by show _ = _; rw [hr]; unfold SynP.atom; simp only [hk1, hk2, hm, Bool.and_false, Bool.false_eq_true, if_false, if_true]; try rfl
 have hfew := h.few
 have hsh := h.short
 have hLn : s.ts.length ≤ L.length := by rw [← h.drop, List.length_drop]; omega
 have C1 := Lib.hid (comes_kind 1 [] s.ts (by decide))
 have C2 := Lib.hid (comes_kind 2 [] s.ts (by decide))
 have C3 := Lib.hid (comes_mark1 [40] s.ts)
 rw [hk1] at C1
 rw [hk2] at C2
 rw [hm] at C3
 clear h hr hne hk1 hk2 hm
 go_enter Tryz.func251, Tryz.ntmps251
 go_wp2_with fail
 refine (rd_comes R tv L fin a s nv ns _ HS0.out 0 1 [] (by omega) (by omega)).mono ?_
 rintro e w1 ⟨rfl, b1⟩
 rw [C1.out]
 have HS1 := Lib.hid (HS0.out.below b1)
 have HW1 := Lib.hid (RS.step HW0.out (Wr.of_below b1))
 clear b1
 go_wp2_with fail
 refine (rd_comes R tv L fin a s nv ns _ HS1.out 0 2 [] (by omega) (by omega)).mono ?_
 rintro e w2 ⟨rfl, b1⟩
 rw [C2.out]
 have HS2 := Lib.hid (HS1.out.below b1)
 have HW2 := Lib.hid (RS.step HW1.out (Wr.of_below b1))
 clear b1
 go_wp2_with fail
 refine (rd_comes R tv L fin a s nv ns _ HS2.out 1 3 [40] (by omega) (by omega)).mono ?_
 rintro e w3 ⟨rfl, b1⟩
 rw [C3.out]
 have HS3 := Lib.hid (HS2.out.below b1)
 have HW3 := Lib.hid (RS.step HW2.out (Wr.of_below b1))
 clear b1
 go_wp2_with fail
 refine (rd_comes R tv L fin a s nv ns _ HS3.out 0 2 [] (by omega) (by omega)).mono ?_
 rintro e w4 ⟨rfl, b1⟩
 rw [C2.out]
 have HS4 := Lib.hid (HS3.out.below b1)
 have HW4 := Lib.hid (RS.step HW3.out (Wr.of_below b1))
 clear b1
 go_wp2_with fail
 refine (rd_name R tv L fin a s nv ns _ HS4.out).mono ?_
 rintro e w5 hn
 rcases hN : SynP.name fin s with - | (⟨fc, fk⟩ | ⟨x, s2⟩) <;> rw [hN] at hn
 ·exact hn.elim
 ·obtain ⟨rfl, n1⟩ := hn
  refine ⟨rfl, ?_⟩
  have hre : r = some (.error (fc, fk)) := by rw [HR0.out]; simp only [hN, SynP.PR.bind]; try rfl
  rw [hre]
  exact ⟨rfl, (HW4.out.weak _).trans (Mv.refl _ _) (n1.weak _)⟩
 obtain ⟨v2, a2, rfl, n1, n2, n3, rfl⟩ := hn
 obtain ⟨rfl, -⟩ := name_keep hN
 have HN := Lib.hid hN
 have HS5 := Lib.hid n1
 have HW5 := Lib.hid (RS.step HW4.out n2)
 clear n1 n2 hN
 have hadv : s.adv.ts.length + 1 = s.ts.length := kind_adv (name_keep HN.out).2
 have HP := Lib.hid (PSt.of0 HS0.out HS5.out HW5.out (tail_le s) rfl)
 go_wp2_with fail
 refine (rd_put R tv L fin a2 s.adv nv (ns ++ []) _ HP.out.rs ⟨2, x, []⟩ _ KNew.nil (by have := HP.out.rs.few; rw [List.append_nil]; omega)).mono ?_
 rintro e wq ⟨nvq, rfl, b1, b2, b3⟩
 have HQ := Lib.hid (HP.out.putS b1 b2 b3 (by rw [List.append_nil]; omega) (fun q hq => by simp [Value.ownBlock] at hq))
 clear b1 b2 b3
 have HRR : Hid (r = some (.ok (.name x, s.adv))) := by show _ = _; rw [HR0.out, HN.out]; rfl
 go_wp2_with fail
 go_ret
 rw [HRR.out]
 exact ⟨_, a2, nvq, _, rfl, HQ.out, by simp [SynP.Ex.size], by simp [SynP.Ex.flat]⟩
set_option maxRecDepth 100000 in
set_option maxHeartbeats 4000000 in
theorem atom_call (fin f : Nat) (IH : PaOk (SynP.parts fin f) fin) (R : Nat) (tv : Value) (L : List Tok) (a : Nat) (s : SynP.St) (nv : Value) (ns : List Nv) (w : World) (h : RS w R tv L fin a s nv ns) (hk1 : SynP.isKind 1 s.ts = false) (hk2 : SynP.isKind 2 s.ts = true) (hm : SynP.isMark [40] s.ts.tail = true) (hne : SynP.atom fin (f + 1) s ≠ none) :
  Calls Tryz.prog 251 #[.pointer (some ⟨R, 0, none⟩)] w (RP (SynP.atom fin (f + 1) s) R tv L fin s nv ns (ExQ ns) w) := by
 have HS0 := Lib.hid h
 have HW0 : Hid (Wr R none w w) := Wr.refl _ _ _
 obtain ⟨r, hr⟩ : ∃ r, r = SynP.atom fin (f + 1) s := ⟨_, rfl⟩
 rw [← hr] at hne ⊢
 have HNE := Lib.hid hne
 have HR0 : Hid (r = (SynP.name fin s).bind fun x s => (SynP.openB fin s).bind fun _ s => (SynP.parts fin f s).bind fun ks s => (SynP.closeB fin s).bind fun _ s => SynP.ret (.call x ks) s) := by show _ = _; rw [hr]; unfold SynP.atom; simp only [hk1, hk2, hm, Bool.and_true, Bool.false_eq_true, if_false, if_true]; try rfl
 have hfew := h.few
 have hsh := h.short
 have hLn : s.ts.length ≤ L.length := by rw [← h.drop, List.length_drop]; omega
 have C1 := Lib.hid (comes_kind 1 [] s.ts (by decide))
 have C2 := Lib.hid (comes_kind 2 [] s.ts (by decide))
 have C3 := Lib.hid (comes_mark1 [40] s.ts)
 have HM := Lib.hid hm
 have HIH := Lib.hid IH
 rw [hk1] at C1
 rw [hk2] at C2
 rw [hm] at C3
 clear h hr hne hk1 hk2 hm IH
 go_enter Tryz.func251, Tryz.ntmps251
 go_wp2_with fail
 refine (rd_comes R tv L fin a s nv ns _ HS0.out 0 1 [] (by omega) (by omega)).mono ?_
 rintro e w1 ⟨rfl, b1⟩
 rw [C1.out]
 have HS1 := Lib.hid (HS0.out.below b1)
 have HW1 := Lib.hid (RS.step HW0.out (Wr.of_below b1))
 clear b1
 go_wp2_with fail
 refine (rd_comes R tv L fin a s nv ns _ HS1.out 0 2 [] (by omega) (by omega)).mono ?_
 rintro e w2 ⟨rfl, b1⟩
 rw [C2.out]
 have HS2 := Lib.hid (HS1.out.below b1)
 have HW2 := Lib.hid (RS.step HW1.out (Wr.of_below b1))
 clear b1
 go_wp2_with fail
 refine (rd_comes R tv L fin a s nv ns _ HS2.out 1 3 [40] (by omega) (by omega)).mono ?_
 rintro e w3 ⟨rfl, b1⟩
 rw [C3.out]
 have HS3 := Lib.hid (HS2.out.below b1)
 have HW3 := Lib.hid (RS.step HW2.out (Wr.of_below b1))
 clear b1
 go_wp2_with fail
 refine (rd_name R tv L fin a s nv ns _ HS3.out).mono ?_
 rintro e w4 hn
 rcases hN : SynP.name fin s with - | (⟨fc, fk⟩ | ⟨x, s2⟩) <;> rw [hN] at hn
 ·exact hn.elim
 ·obtain ⟨rfl, n1⟩ := hn
  refine ⟨rfl, ?_⟩
  have hre : r = some (.error (fc, fk)) := by rw [HR0.out]; simp only [hN, SynP.PR.bind]; try rfl
  rw [hre]
  exact ⟨rfl, (HW3.out.weak _).trans (Mv.refl _ _) (n1.weak _)⟩
 obtain ⟨v2, a2, rfl, n1, n2, n3, rfl⟩ := hn
 obtain ⟨rfl, -⟩ := name_keep hN
 have HN := Lib.hid hN
 have HS4 := Lib.hid n1
 have HW4 := Lib.hid (RS.step HW3.out n2)
 clear n1 n2 hN
 go_wp2_with fail
 refine (rd_bracket R tv L fin a2 s.adv nv ns _ HS4.out (isMark_ne HM.out)).mono ?_
 rintro e w5 hn
 rcases hO : SynP.openB fin s.adv with - | (⟨fc, fk⟩ | ⟨u, s3⟩) <;> rw [hO] at hn
 ·exact hn.elim
 ·obtain ⟨rfl, n1⟩ := hn
  refine ⟨rfl, ?_⟩
  have hre : r = some (.error (fc, fk)) := by rw [HR0.out]; simp only [HN.out, hO, SynP.PR.bind]; try rfl
  rw [hre]
  exact ⟨rfl, (HW4.out.weak _).trans (Mv.refl _ _) (n1.weak _)⟩
 obtain ⟨v3, a3, rfl, n1, n2, n3, rfl⟩ := hn
 have hok := openB_keep hO
 have HO := Lib.hid hO
 have HS5 := Lib.hid n1
 have HW5 := Lib.hid (RS.step HW4.out n2)
 clear n1 n2 n3 hO
 have HR1 : Hid (r = (SynP.parts fin f s3).bind fun ks s => (SynP.closeB fin s).bind fun _ s => SynP.ret (.call x ks) s) := by show _ = _; rw [HR0.out]; simp only [HN.out, HO.out, SynP.PR.bind]
 go_wp2_with fail
 refine (HIH.out R tv L a3 s3 nv ns _ HS5.out (fun e => HNE.out (by rw [HR1.out, e]; rfl))).mono ?_
 rintro e w6 hn
 rcases hP : SynP.parts fin f s3 with - | (⟨fc, fk⟩ | ⟨ks, s4⟩) <;> rw [hP] at hn
 ·exact hn.elim
 ·obtain ⟨rfl, n1⟩ := hn
  refine ⟨rfl, ?_⟩
  have hre : r = some (.error (fc, fk)) := by rw [HR1.out, hP]; rfl
  rw [hre]
  exact ⟨rfl, (HW5.out.weak _).trans (Mv.refl _ _) n1⟩
 obtain ⟨v4, a4, nv4, ns4, rfl, n1, n2, n3⟩ := hn
 have HM6 := Lib.hid n1
 have HK6 := Lib.hid n2
 have HF6 := Lib.hid n3
 have HR2 : Hid (r = (SynP.closeB fin s4).bind fun _ s => SynP.ret (.call x ks) s) := by show _ = _; rw [HR1.out, hP]; rfl
 have hop : 0 < s4.opened := by rw [n1.opn, hok.1]; omega
 have hfw := n1.few
 clear n1 n2 n3 hP
 go_wp2_with fail
 refine (rd_closing R tv L fin a4 s4 nv4 (ns ++ ns4) _ HM6.out.rs hop).mono ?_
 rintro e w7 hn
 rcases hC : SynP.closeB fin s4 with - | (⟨fc, fk⟩ | ⟨u, s5⟩) <;> rw [hC] at hn
 ·exact hn.elim
 ·obtain ⟨rfl, n1⟩ := hn
  refine ⟨rfl, ?_⟩
  have hre : r = some (.error (fc, fk)) := by rw [HR2.out, hC]; rfl
  rw [hre]
  exact ⟨rfl, ((HW5.out.weak _).trans (Mv.refl _ _) HM6.out.wr).trans (Mv.trans (R := R) (w' := w5) (Mv.refl _ _) HW5.out.size HM6.out.mv) (n1.weak _)⟩
 obtain ⟨v5, a5, rfl, n1, n2, n3, rfl⟩ := hn
 have hck := closeB_keep hC
 have HRR : Hid (r = some (.ok (.call x ks, s5))) := by show _ = _; rw [HR2.out, hC]; rfl
 have hadv : s.adv.ts.length + 1 = s.ts.length := kind_adv (name_keep HN.out).2
 have HP := Lib.hid (PSt.wrap HS0.out HW5.out (by omega) hok.1 HM6.out n1 n2 hck.2 hck.1)
 have HK7 : Hid (KNew w7 R nv4 (ns ++ ns4) v4 (ks.roots ns.length)) := ⟨HK6.out.1.wr (n2.weak _) (Mv.refl _ _), HK6.out.2⟩
 rw [List.length_append] at hfw
 clear n1 n2 n3 hC
 go_wp2_with fail
 have HKF : Hid (∀ q, v4.ownBlock = some q → w.heap.size ≤ q) := fun q hq => Nat.le_trans HW5.out.size (HF6.out.2 q hq)
 have HFL := HF6.out.1
 refine (rd_put R tv L fin a5 s5 nv4 (ns ++ ns4) _ HP.out.rs ⟨10, x, ks.roots ns.length⟩ _ HK7.out (by have := HP.out.rs.few; rw [List.length_append]; omega)).mono ?_
 rintro e wq ⟨nvq, rfl, b1, b2, b3⟩
 have HQ := Lib.hid (HP.out.putS b1 b2 b3 (by rw [List.length_append]; omega) (HKF.out))
 clear b1 b2 b3
 have HL4 : Hid (ns4.length = ks.size) := by show _ = _; have := congrArg List.length HF6.out.1; rw [List.length_map, flats_len] at this; exact this
 go_wp2_with fail
 go_ret
 rw [HRR.out]
 exact ⟨_, a5, nvq, _, rfl, HQ.out, by
  have h4 := HL4.out
  have h5 : ((ns.length : Int) + (ns4.length : Int)) = ((ns.length + (SynP.Ex.call x ks).size - 1 : Nat) : Int) := by
   have : (SynP.Ex.call x ks).size = ks.size + 1 := rfl
   omega
  exact congrArg (Value.int .i64) h5, by rw [List.map_append, HF6.out.1]; rfl⟩
set_option maxRecDepth 100000 in
set_option maxHeartbeats 4000000 in
theorem atom_br (fin f : Nat) (IH : ExOk 97 (SynP.expr fin f) fin) (R : Nat) (tv : Value) (L : List Tok) (a : Nat) (s : SynP.St) (nv : Value) (ns : List Nv) (w : World) (h : RS w R tv L fin a s nv ns) (hk1 : SynP.isKind 1 s.ts = false) (hk2 : SynP.isKind 2 s.ts = false) (hm : SynP.isMark [40] s.ts = true) (hne : SynP.atom fin (f + 1) s ≠ none) :
  Calls Tryz.prog 251 #[.pointer (some ⟨R, 0, none⟩)] w (RP (SynP.atom fin (f + 1) s) R tv L fin s nv ns (ExQ ns) w) := by
 have HS0 := Lib.hid h
 have HW0 : Hid (Wr R none w w) := Wr.refl _ _ _
 obtain ⟨r, hr⟩ : ∃ r, r = SynP.atom fin (f + 1) s := ⟨_, rfl⟩
 rw [← hr] at hne ⊢
 have HNE := Lib.hid hne
 have HR0 : Hid (r = (SynP.openB fin s).bind fun _ s => (SynP.expr fin f s).bind fun k s => (SynP.closeB fin s).bind fun _ s => SynP.ret k s) := by show _ = _; rw [hr]; unfold SynP.atom; simp only [hk1, hk2, hm, Bool.false_and, Bool.false_eq_true, if_false, if_true]; try rfl
 have hfew := h.few
 have hsh := h.short
 have hLn : s.ts.length ≤ L.length := by rw [← h.drop, List.length_drop]; omega
 have C1 := Lib.hid (comes_kind 1 [] s.ts (by decide))
 have C2 := Lib.hid (comes_kind 2 [] s.ts (by decide))
 have C3 := Lib.hid (comes_mark1 [40] s.ts)
 have HM := Lib.hid hm
 have HIH := Lib.hid IH
 rw [hk1] at C1
 rw [hk2] at C2
 clear h hr hne hk1 hk2 hm IH
 go_enter Tryz.func251, Tryz.ntmps251
 go_wp2_with fail
 refine (rd_comes R tv L fin a s nv ns _ HS0.out 0 1 [] (by omega) (by omega)).mono ?_
 rintro e w1 ⟨rfl, b1⟩
 rw [C1.out]
 have HS1 := Lib.hid (HS0.out.below b1)
 have HW1 := Lib.hid (RS.step HW0.out (Wr.of_below b1))
 clear b1
 go_wp2_with fail
 refine (rd_comes R tv L fin a s nv ns _ HS1.out 0 2 [] (by omega) (by omega)).mono ?_
 rintro e w2 ⟨rfl, b1⟩
 rw [C2.out]
 have HS2 := Lib.hid (HS1.out.below b1)
 have HW2 := Lib.hid (RS.step HW1.out (Wr.of_below b1))
 clear b1
 go_wp2_with fail
 refine (rd_comes R tv L fin a s nv ns _ HS2.out 0 2 [] (by omega) (by omega)).mono ?_
 rintro e w3 ⟨rfl, b1⟩
 rw [C2.out]
 have HS3 := Lib.hid (HS2.out.below b1)
 have HW3 := Lib.hid (RS.step HW2.out (Wr.of_below b1))
 clear b1
 go_wp2_with fail
 refine (rd_mark R tv L fin a s nv ns _ HS3.out [40]).mono ?_
 rintro e w4 ⟨rfl, b1⟩
 rw [HM.out]
 have HS4 := Lib.hid (HS3.out.below b1)
 have HW4 := Lib.hid (RS.step HW3.out (Wr.of_below b1))
 clear b1
 go_wp2_with fail
 refine (rd_bracket R tv L fin a s nv ns _ HS4.out (isMark_ne HM.out)).mono ?_
 rintro e w5 hn
 rcases hO : SynP.openB fin s with - | (⟨fc, fk⟩ | ⟨u, s3⟩) <;> rw [hO] at hn
 ·exact hn.elim
 ·obtain ⟨rfl, n1⟩ := hn
  refine ⟨rfl, ?_⟩
  have hre : r = some (.error (fc, fk)) := by rw [HR0.out]; simp only [hO, SynP.PR.bind]; try rfl
  rw [hre]
  exact ⟨rfl, (HW4.out.weak _).trans (Mv.refl _ _) (n1.weak _)⟩
 obtain ⟨v3, a3, rfl, n1, n2, n3, rfl⟩ := hn
 have hok := openB_keep hO
 have HO := Lib.hid hO
 have HS5 := Lib.hid n1
 have HW5 := Lib.hid (RS.step HW4.out n2)
 clear n1 n2 n3 hO
 have HR1 : Hid (r = (SynP.expr fin f s3).bind fun k s => (SynP.closeB fin s).bind fun _ s => SynP.ret k s) := by show _ = _; rw [HR0.out]; simp only [HO.out, SynP.PR.bind]
 go_wp2_with fail
 refine (HIH.out R tv L a3 s3 nv ns _ HS5.out (fun e => HNE.out (by rw [HR1.out, e]; rfl))).mono ?_
 rintro e w6 hn
 rcases hP : SynP.expr fin f s3 with - | (⟨fc, fk⟩ | ⟨k, s4⟩) <;> rw [hP] at hn
 ·exact hn.elim
 ·obtain ⟨rfl, n1⟩ := hn
  refine ⟨rfl, ?_⟩
  have hre : r = some (.error (fc, fk)) := by rw [HR1.out, hP]; rfl
  rw [hre]
  exact ⟨rfl, (HW5.out.weak _).trans (Mv.refl _ _) n1⟩
 obtain ⟨v4, a4, nv4, ns4, rfl, n1, rfl, n3⟩ := hn
 have HM6 := Lib.hid n1
 have HF6 := Lib.hid n3
 have HR2 : Hid (r = (SynP.closeB fin s4).bind fun _ s => SynP.ret k s) := by show _ = _; rw [HR1.out, hP]; rfl
 have hop : 0 < s4.opened := by rw [n1.opn, hok.1]; omega
 obtain ⟨p, hp⟩ : ∃ p, p = ns.length + k.size - 1 := ⟨_, rfl⟩
 rw [← hp]
 have HPP := Lib.hid hp
 clear n1 n3 hP hp
 go_wp2_with fail
 refine (rd_closing R tv L fin a4 s4 nv4 (ns ++ ns4) _ HM6.out.rs hop).mono ?_
 rintro e w7 hn
 rcases hC : SynP.closeB fin s4 with - | (⟨fc, fk⟩ | ⟨u, s5⟩) <;> rw [hC] at hn
 ·exact hn.elim
 ·obtain ⟨rfl, n1⟩ := hn
  refine ⟨rfl, ?_⟩
  have hre : r = some (.error (fc, fk)) := by rw [HR2.out, hC]; rfl
  rw [hre]
  exact ⟨rfl, ((HW5.out.weak _).trans (Mv.refl _ _) HM6.out.wr).trans (Mv.trans (R := R) (w' := w5) (Mv.refl _ _) HW5.out.size HM6.out.mv) (n1.weak _)⟩
 obtain ⟨v5, a5, rfl, n1, n2, n3, rfl⟩ := hn
 have hck := closeB_keep hC
 have HRR : Hid (r = some (.ok (k, s5))) := by show _ = _; rw [HR2.out, hC]; rfl
 have HP := Lib.hid (PSt.wrap HS0.out HW5.out hok.2 hok.1 HM6.out n1 n2 hck.2 hck.1)
 clear n1 n2 n3 hC
 go_wp2_with fail
 go_ret
 rw [HRR.out]
 exact ⟨_, a5, nv4, _, rfl, HP.out, by rw [HPP.out]; rfl, HF6.out⟩
set_option maxRecDepth 100000 in
set_option maxHeartbeats 4000000 in
theorem atom_mat (fin f : Nat) (R : Nat) (tv : Value) (L : List Tok) (a : Nat) (s : SynP.St) (nv : Value) (ns : List Nv) (w : World) (h : RS w R tv L fin a s nv ns) (hk1 : SynP.isKind 1 s.ts = false) (hk2 : SynP.isKind 2 s.ts = false) (hm : SynP.isMark [40] s.ts = false) (hm2 : SynP.isMark [91] s.ts = true) (hne : SynP.atom fin (f + 1) s ≠ none) :
  Calls Tryz.prog 251 #[.pointer (some ⟨R, 0, none⟩)] w (RP (SynP.atom fin (f + 1) s) R tv L fin s nv ns (ExQ ns) w) := by
 have HS0 := Lib.hid h
 have HW0 : Hid (Wr R none w w) := Wr.refl _ _ _
 obtain ⟨r, hr⟩ : ∃ r, r = SynP.atom fin (f + 1) s := ⟨_, rfl⟩
 rw [← hr] at hne ⊢
 have HNE := Lib.hid hne
 have HR0 : Hid (r = (SynP.matrix fin f s).bind fun m s => SynP.ret (.mat m) s) := by show _ = _; rw [hr]; unfold SynP.atom; simp only [hk1, hk2, hm, hm2, Bool.false_and, Bool.false_eq_true, if_false, if_true]; try rfl
 have hfew := h.few
 have hsh := h.short
 have hLn : s.ts.length ≤ L.length := by rw [← h.drop, List.length_drop]; omega
 have C1 := Lib.hid (comes_kind 1 [] s.ts (by decide))
 have C2 := Lib.hid (comes_kind 2 [] s.ts (by decide))
 have C3 := Lib.hid (comes_mark1 [40] s.ts)
 have HM := Lib.hid hm
 have HM2 := Lib.hid hm2
 rw [hk1] at C1
 rw [hk2] at C2
 clear h hr hne hk1 hk2 hm hm2
 go_enter Tryz.func251, Tryz.ntmps251
 go_wp2_with fail
 refine (rd_comes R tv L fin a s nv ns _ HS0.out 0 1 [] (by omega) (by omega)).mono ?_
 rintro e w1 ⟨rfl, b1⟩
 rw [C1.out]
 have HS1 := Lib.hid (HS0.out.below b1)
 have HW1 := Lib.hid (RS.step HW0.out (Wr.of_below b1))
 clear b1
 go_wp2_with fail
 refine (rd_comes R tv L fin a s nv ns _ HS1.out 0 2 [] (by omega) (by omega)).mono ?_
 rintro e w2 ⟨rfl, b1⟩
 rw [C2.out]
 have HS2 := Lib.hid (HS1.out.below b1)
 have HW2 := Lib.hid (RS.step HW1.out (Wr.of_below b1))
 clear b1
 go_wp2_with fail
 refine (rd_comes R tv L fin a s nv ns _ HS2.out 0 2 [] (by omega) (by omega)).mono ?_
 rintro e w3 ⟨rfl, b1⟩
 rw [C2.out]
 have HS3 := Lib.hid (HS2.out.below b1)
 have HW3 := Lib.hid (RS.step HW2.out (Wr.of_below b1))
 clear b1
 go_wp2_with fail
 refine (rd_mark R tv L fin a s nv ns _ HS3.out [40]).mono ?_
 rintro e w4 ⟨rfl, b1⟩
 rw [HM.out]
 have HS4 := Lib.hid (HS3.out.below b1)
 have HW4 := Lib.hid (RS.step HW3.out (Wr.of_below b1))
 clear b1
 go_wp2_with fail
 refine (rd_mark R tv L fin a s nv ns _ HS4.out [91]).mono ?_
 rintro e w5 ⟨rfl, b1⟩
 rw [HM2.out]
 have HS5 := Lib.hid (HS4.out.below b1)
 have HW5 := Lib.hid (RS.step HW4.out (Wr.of_below b1))
 clear b1
 go_wp2_with fail
 refine (rd_matrix R tv L fin a s nv ns _ HS5.out f (fun e => HNE.out (by rw [HR0.out, e]; rfl))).mono ?_
 rintro e w6 hn
 rcases hN : SynP.matrix fin f s with - | (⟨fc, fk⟩ | ⟨m, s2⟩) <;> rw [hN] at hn
 ·exact hn.elim
 ·obtain ⟨rfl, n1⟩ := hn
  refine ⟨rfl, ?_⟩
  have hre : r = some (.error (fc, fk)) := by rw [HR0.out]; simp only [hN, SynP.PR.bind]; try rfl
  rw [hre]
  exact ⟨rfl, (HW5.out.weak _).trans (Mv.refl _ _) (n1.weak _)⟩
 obtain ⟨v2, a2, rfl, n1, n2, n3, av, rfl, n4⟩ := hn
 have hmo := SynP.matrix_ok hN
 have hml := matrix_len hN
 have HRR : Hid (r = some (.ok (.mat m, s2))) := by show _ = _; rw [HR0.out, hN]; rfl
 have HP := Lib.hid (PSt.of0 HS0.out n1 (RS.step HW5.out n2) n3 (SynP.matrix_keep hN).1)
 have HV := Lib.hid n4
 have HT := Lib.hid (matT_grid m hmo.2.2.2)
 obtain ⟨hm1, hm2, hm3, -⟩ := hmo
 have HM3 := Lib.hid hm3
 clear n1 n2 n3 n4 hN hm3
 go_wp2_with fail
 refine (mat_text m.rows m.cols m.at_ av _ HP.out.rs.sg HV.out hm1 hm2 HM3.out).mono ?_
 rintro e w7 ⟨rfl, b1⟩
 rw [HT.out]
 have HP7 := Lib.hid (HP.out.step (HP.out.rs.below b1) (Wr.of_below b1) (Nat.le_refl _) rfl)
 clear b1
 go_wp2_with fail
 refine (rd_put R tv L fin a2 s2 nv (ns ++ []) _ HP7.out.rs ⟨3, SynP.matT m, []⟩ _ KNew.nil (by have := HP7.out.rs.few; rw [List.append_nil]; omega)).mono ?_
 rintro e wq ⟨nvq, rfl, b1, b2, b3⟩
 have HQ := Lib.hid (HP7.out.putS b1 b2 b3 (by rw [List.append_nil]; omega) (fun q hq => by simp [Value.ownBlock] at hq))
 clear b1 b2 b3
 go_wp2_with fail
 go_ret
 rw [HRR.out]
 exact ⟨_, a2, nvq, _, rfl, HQ.out, by simp [SynP.Ex.size], by simp [SynP.Ex.flat]⟩
set_option maxRecDepth 100000 in
set_option maxHeartbeats 4000000 in
theorem atom_cpx (fin f : Nat) (R : Nat) (tv : Value) (L : List Tok) (a : Nat) (s : SynP.St) (nv : Value) (ns : List Nv) (w : World) (h : RS w R tv L fin a s nv ns) (hk1 : SynP.isKind 1 s.ts = false) (hk2 : SynP.isKind 2 s.ts = false) (hm : SynP.isMark [40] s.ts = false) (hm2 : SynP.isMark [91] s.ts = false) (hm3 : SynP.isMark [123] s.ts = true) (hne : SynP.atom fin (f + 1) s ≠ none) :
  Calls Tryz.prog 251 #[.pointer (some ⟨R, 0, none⟩)] w (RP (SynP.atom fin (f + 1) s) R tv L fin s nv ns (ExQ ns) w) := by
 have HS0 := Lib.hid h
 have HW0 : Hid (Wr R none w w) := Wr.refl _ _ _
 obtain ⟨r, hr⟩ : ∃ r, r = SynP.atom fin (f + 1) s := ⟨_, rfl⟩
 rw [← hr] at hne ⊢
 have HNE := Lib.hid hne
 have HR0 : Hid (r = (SynP.complex fin f s).bind fun l s => SynP.ret (.cpx l) s) := by show _ = _; rw [hr]; unfold SynP.atom; simp only [hk1, hk2, hm, hm2, hm3, Bool.false_and, Bool.false_eq_true, if_false, if_true]; try rfl
 have hfew := h.few
 have hsh := h.short
 have hLn : s.ts.length ≤ L.length := by rw [← h.drop, List.length_drop]; omega
 have C1 := Lib.hid (comes_kind 1 [] s.ts (by decide))
 have C2 := Lib.hid (comes_kind 2 [] s.ts (by decide))
 have C3 := Lib.hid (comes_mark1 [40] s.ts)
 have HM := Lib.hid hm
 have HM2 := Lib.hid hm2
 have HM3 := Lib.hid hm3
 rw [hk1] at C1
 rw [hk2] at C2
 clear h hr hne hk1 hk2 hm hm2 hm3
 go_enter Tryz.func251, Tryz.ntmps251
 go_wp2_with fail
 refine (rd_comes R tv L fin a s nv ns _ HS0.out 0 1 [] (by omega) (by omega)).mono ?_
 rintro e w1 ⟨rfl, b1⟩
 rw [C1.out]
 have HS1 := Lib.hid (HS0.out.below b1)
 have HW1 := Lib.hid (RS.step HW0.out (Wr.of_below b1))
 clear b1
 go_wp2_with fail
 refine (rd_comes R tv L fin a s nv ns _ HS1.out 0 2 [] (by omega) (by omega)).mono ?_
 rintro e w2 ⟨rfl, b1⟩
 rw [C2.out]
 have HS2 := Lib.hid (HS1.out.below b1)
 have HW2 := Lib.hid (RS.step HW1.out (Wr.of_below b1))
 clear b1
 go_wp2_with fail
 refine (rd_comes R tv L fin a s nv ns _ HS2.out 0 2 [] (by omega) (by omega)).mono ?_
 rintro e w3 ⟨rfl, b1⟩
 rw [C2.out]
 have HS3 := Lib.hid (HS2.out.below b1)
 have HW3 := Lib.hid (RS.step HW2.out (Wr.of_below b1))
 clear b1
 go_wp2_with fail
 refine (rd_mark R tv L fin a s nv ns _ HS3.out [40]).mono ?_
 rintro e w4 ⟨rfl, b1⟩
 rw [HM.out]
 have HS4 := Lib.hid (HS3.out.below b1)
 have HW4 := Lib.hid (RS.step HW3.out (Wr.of_below b1))
 clear b1
 go_wp2_with fail
 refine (rd_mark R tv L fin a s nv ns _ HS4.out [91]).mono ?_
 rintro e w5 ⟨rfl, b1⟩
 rw [HM2.out]
 have HS5 := Lib.hid (HS4.out.below b1)
 have HW5 := Lib.hid (RS.step HW4.out (Wr.of_below b1))
 clear b1
 go_wp2_with fail
 refine (rd_mark R tv L fin a s nv ns _ HS5.out [123]).mono ?_
 rintro e w6 ⟨rfl, b1⟩
 rw [HM3.out]
 have HS6 := Lib.hid (HS5.out.below b1)
 have HW6 := Lib.hid (RS.step HW5.out (Wr.of_below b1))
 clear b1
 go_wp2_with fail
 refine (rd_complex R tv L fin a s nv ns _ HS6.out f (fun e => HNE.out (by rw [HR0.out, e]; rfl))).mono ?_
 rintro e w7 hn
 rcases hN : SynP.complex fin f s with - | (⟨fc, fk⟩ | ⟨l, s2⟩) <;> rw [hN] at hn
 ·exact hn.elim
 ·obtain ⟨rfl, n1⟩ := hn
  refine ⟨rfl, ?_⟩
  have hre : r = some (.error (fc, fk)) := by rw [HR0.out]; simp only [hN, SynP.PR.bind]; try rfl
  rw [hre]
  exact ⟨rfl, (HW6.out.weak _).trans (Mv.refl _ _) (n1.weak _)⟩
 obtain ⟨v2, a2, rfl, n1, n2, n3, svs, n4⟩ := hn
 have hml := complex_len hN
 obtain ⟨hc1, hc2⟩ := complex_count hN
 change tot l ≤ s.ts.length at hc1
 change l.length ≤ s.ts.length at hc2
 have HRR : Hid (r = some (.ok (.cpx l, s2))) := by show _ = _; rw [HR0.out, hN]; rfl
 have HP := Lib.hid (PSt.of0 HS0.out n1 (RS.step HW6.out n2) n3 (SynP.complex_keep hN).1)
 have HV := Lib.hid n4.crd
 have HC1 : Hid (∀ s ∈ l, s.length ≤ 134217728) := fun s hs => by have := tot_mem hs; omega
 have HC2 := Lib.hid (crd_len (l := l) (Nat.le_trans (complex_lb hN) (Nat.le_trans (lb_drop HS0.out.drop) HS0.out.sum)) (by omega) (by omega))
 have hln : l.length ≤ 134217728 := by omega
 clear n1 n2 n3 n4 hN hc1 hc2
 go_wp2_with fail
 refine (cpx_text l _ _ HP.out.rs.sg HV.out hln HC1.out HC2.out).mono ?_
 rintro e w8 ⟨rfl, b1⟩
 have HP7 := Lib.hid (HP.out.step (HP.out.rs.below b1) (Wr.of_below b1) (Nat.le_refl _) rfl)
 clear b1
 go_wp2_with fail
 refine (rd_put R tv L fin a2 s2 nv (ns ++ []) _ HP7.out.rs ⟨13, SynP.cpxT l, []⟩ _ KNew.nil (by have := HP7.out.rs.few; rw [List.append_nil]; omega)).mono ?_
 rintro e wq ⟨nvq, rfl, b1, b2, b3⟩
 have HQ := Lib.hid (HP7.out.putS b1 b2 b3 (by rw [List.append_nil]; omega) (fun q hq => by simp [Value.ownBlock] at hq))
 clear b1 b2 b3
 go_wp2_with fail
 go_ret
 rw [HRR.out]
 exact ⟨_, a2, nvq, _, rfl, HQ.out, by simp [SynP.Ex.size], by simp [SynP.Ex.flat]⟩
set_option maxRecDepth 100000 in
set_option maxHeartbeats 4000000 in
theorem atom_no (fin f : Nat) (R : Nat) (tv : Value) (L : List Tok) (a : Nat) (s : SynP.St) (nv : Value) (ns : List Nv) (w : World) (h : RS w R tv L fin a s nv ns) (hk1 : SynP.isKind 1 s.ts = false) (hk2 : SynP.isKind 2 s.ts = false) (hm : SynP.isMark [40] s.ts = false) (hm2 : SynP.isMark [91] s.ts = false) (hm3 : SynP.isMark [123] s.ts = false) (hne : SynP.atom fin (f + 1) s ≠ none) :
  Calls Tryz.prog 251 #[.pointer (some ⟨R, 0, none⟩)] w (RP (SynP.atom fin (f + 1) s) R tv L fin s nv ns (ExQ ns) w) := by
 have HS0 := Lib.hid h
 have HW0 : Hid (Wr R none w w) := Wr.refl _ _ _
 obtain ⟨r, hr⟩ : ∃ r, r = SynP.atom fin (f + 1) s := ⟨_, rfl⟩
 rw [← hr] at hne ⊢
 have HNE := Lib.hid hne
 have HR0 : Hid (r = SynP.unfit fin s) := by show _ = _; rw [hr]; unfold SynP.atom; simp only [hk1, hk2, hm, hm2, hm3, Bool.false_and, Bool.false_eq_true, if_false, if_true]; try rfl
 have hfew := h.few
 have hsh := h.short
 have hLn : s.ts.length ≤ L.length := by rw [← h.drop, List.length_drop]; omega
 have C1 := Lib.hid (comes_kind 1 [] s.ts (by decide))
 have C2 := Lib.hid (comes_kind 2 [] s.ts (by decide))
 have C3 := Lib.hid (comes_mark1 [40] s.ts)
 have HM := Lib.hid hm
 have HM2 := Lib.hid hm2
 have HM3 := Lib.hid hm3
 rw [hk1] at C1
 rw [hk2] at C2
 clear h hr hne hk1 hk2 hm hm2 hm3
 go_enter Tryz.func251, Tryz.ntmps251
 go_wp2_with fail
 refine (rd_comes R tv L fin a s nv ns _ HS0.out 0 1 [] (by omega) (by omega)).mono ?_
 rintro e w1 ⟨rfl, b1⟩
 rw [C1.out]
 have HS1 := Lib.hid (HS0.out.below b1)
 have HW1 := Lib.hid (RS.step HW0.out (Wr.of_below b1))
 clear b1
 go_wp2_with fail
 refine (rd_comes R tv L fin a s nv ns _ HS1.out 0 2 [] (by omega) (by omega)).mono ?_
 rintro e w2 ⟨rfl, b1⟩
 rw [C2.out]
 have HS2 := Lib.hid (HS1.out.below b1)
 have HW2 := Lib.hid (RS.step HW1.out (Wr.of_below b1))
 clear b1
 go_wp2_with fail
 refine (rd_comes R tv L fin a s nv ns _ HS2.out 0 2 [] (by omega) (by omega)).mono ?_
 rintro e w3 ⟨rfl, b1⟩
 rw [C2.out]
 have HS3 := Lib.hid (HS2.out.below b1)
 have HW3 := Lib.hid (RS.step HW2.out (Wr.of_below b1))
 clear b1
 go_wp2_with fail
 refine (rd_mark R tv L fin a s nv ns _ HS3.out [40]).mono ?_
 rintro e w4 ⟨rfl, b1⟩
 rw [HM.out]
 have HS4 := Lib.hid (HS3.out.below b1)
 have HW4 := Lib.hid (RS.step HW3.out (Wr.of_below b1))
 clear b1
 go_wp2_with fail
 refine (rd_mark R tv L fin a s nv ns _ HS4.out [91]).mono ?_
 rintro e w5 ⟨rfl, b1⟩
 rw [HM2.out]
 have HS5 := Lib.hid (HS4.out.below b1)
 have HW5 := Lib.hid (RS.step HW4.out (Wr.of_below b1))
 clear b1
 go_wp2_with fail
 refine (rd_mark R tv L fin a s nv ns _ HS5.out [123]).mono ?_
 rintro e w6 ⟨rfl, b1⟩
 rw [HM3.out]
 have HS6 := Lib.hid (HS5.out.below b1)
 have HW6 := Lib.hid (RS.step HW5.out (Wr.of_below b1))
 clear b1
 go_wp2_with fail
 refine (rd_unfit R tv L fin a s nv ns _ HS6.out).mono ?_
 rintro e w7 ⟨rfl, b1⟩
 refine ⟨rfl, ?_⟩
 rw [HR0.out]
 exact ⟨rfl, (HW6.out.weak _).trans (Mv.refl _ _) (Wr.of_below b1)⟩
theorem atom_of (fin f : Nat) (IE : ExOk 97 (SynP.expr fin f) fin) (IP : PaOk (SynP.parts fin f) fin) : ExOk 251 (SynP.atom fin (f + 1)) fin := by
 intro R tv L a s nv ns w h hne
 cases hk1 : SynP.isKind 1 s.ts with
 | true => exact atom_num fin f R tv L a s nv ns w h hk1
 | false =>
  cases hk2 : SynP.isKind 2 s.ts with
  | true =>
   cases hm : SynP.isMark [40] s.ts.tail with
   | true => exact atom_call fin f IP R tv L a s nv ns w h hk1 hk2 hm hne
   | false => exact atom_name fin f R tv L a s nv ns w h hk1 hk2 hm hne
  | false =>
   cases hm : SynP.isMark [40] s.ts with
   | true => exact atom_br fin f IE R tv L a s nv ns w h hk1 hk2 hm hne
   | false =>
    cases hm2 : SynP.isMark [91] s.ts with
    | true => exact atom_mat fin f R tv L a s nv ns w h hk1 hk2 hm hm2 hne
    | false =>
     cases hm3 : SynP.isMark [123] s.ts with
     | true => exact atom_cpx fin f R tv L a s nv ns w h hk1 hk2 hm hm2 hm3 hne
     | false => exact atom_no fin f R tv L a s nv ns w h hk1 hk2 hm hm2 hm3 hne
end Go.Proofs.YtgfmiladfeoldaaGreatDoor
namespace Go.Proofs.YtgfmiladfeoldaaGreatDoor
open Go.RowKit NatP LexP
structure AllOk (fin f : Nat) : Prop where
 ex : ExOk 97 (SynP.expr fin f) fin
 te : ExOk 160 (SynP.term fin f) fin
 fa : ExOk 208 (SynP.factor fin f) fin
 po : ExOk 235 (SynP.post fin f) fin
 at_ : ExOk 251 (SynP.atom fin f) fin
 pa : PaOk (SynP.parts fin f) fin
theorem all_ok (fin f : Nat) : AllOk fin f := by
 induction f using Nat.strongRecOn with
 | ind f ih =>
  cases f with
  | zero =>
   refine ⟨?_, ?_, ?_, ?_, ?_, ?_⟩ <;> intro R tv L a s nv ns w h hf
   ·exact absurd (by rw [SynP.expr]) hf
   ·exact absurd (by rw [SynP.term]) hf
   ·exact absurd (by rw [SynP.factor]) hf
   ·exact absurd (by rw [SynP.post]) hf
   ·exact absurd (by rw [SynP.atom]) hf
   ·exact absurd (by rw [SynP.parts]) hf
  | succ f =>
   have h1 : ∀ g, g ≤ f → AllOk fin g := fun g hg => ih g (by omega)
   have h2 := h1 f (Nat.le_refl _)
   exact ⟨expr_of fin f (fun g hg => (h1 g hg).te), term_of fin f (fun g hg => (h1 g hg).fa), factor_of fin f h2.po, post_of fin f h2.at_, atom_of fin f h2.ex h2.pa, parts_of fin f (fun g hg => (h1 g hg).ex)⟩
end Go.Proofs.YtgfmiladfeoldaaGreatDoor
