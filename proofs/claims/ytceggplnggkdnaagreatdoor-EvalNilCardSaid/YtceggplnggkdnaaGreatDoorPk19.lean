/- Joined texts of this claim's proof: RdV, RdW, RdX, RdY. -/
import Derived.Test.YtceggplnggkdnaaGreatDoorPk18
import Derived.Recover
set_option linter.unusedSimpArgs false
set_option linter.unusedVariables false
namespace Go.Proofs.YtceggplnggkdnaaGreatDoor
open Go.RowKit NatP LexP
theorem PSt.of0 {R : Nat} {tv : Value} {L : List Tok} {fin a a2 : Nat} {s s2 : SynP.St} {nv : Value} {ns : List Nv} {w w2 : World} (h : RS w R tv L fin a s nv ns) (k : RS w2 R tv L fin a2 s2 nv ns) (hw : Wr R none w w2) (hl : s2.ts.length ≤ s.ts.length) (ho : s2.opened = s.opened) : PSt R tv L fin s nv ns w w2 a2 s2 nv [] :=
 (PSt.refl h).step (by rw [List.append_nil]; exact k) hw hl ho
theorem PSt.wrap {R : Nat} {tv : Value} {L : List Tok} {fin a a3 a4 : Nat} {s s2 s3 s4 : SynP.St} {nv nv3 : Value} {ns ns3 : List Nv} {w w2 w3 w4 : World} (h : RS w R tv L fin a s nv ns) (hw : Wr R none w w2) (hl2 : s2.ts.length ≤ s.ts.length) (ho2 : s2.opened = s.opened + 1)
  (m : PSt R tv L fin s2 nv ns w2 w3 a3 s3 nv3 ns3) (k4 : RS w4 R tv L fin a4 s4 nv3 (ns ++ ns3)) (hw4 : Wr R none w3 w4) (hl4 : s4.ts.length ≤ s3.ts.length) (ho4 : s4.opened = s3.opened - 1) : PSt R tv L fin s nv ns w w4 a4 s4 nv3 ns3 :=
 ⟨k4, ((hw.weak _).trans (Mv.refl _ _) m.wr).trans (Mv.trans (R := R) (w' := w2) (Mv.refl _ _) hw.size m.mv) (hw4.weak _), Mv.trans (R := R) (w' := w2) (Mv.refl _ _) hw.size m.mv, by have := m.few; omega, by rw [ho4, m.opn, ho2]; omega, fun p hp q hq => Nat.le_trans hw.size (m.fresh p hp q hq)⟩
theorem openB_keep {fin : Nat} {s s' : SynP.St} {u : Unit} (h : SynP.openB fin s = some (.ok (u, s'))) : s'.opened = s.opened + 1 ∧ s'.ts.length ≤ s.ts.length := by
 unfold SynP.openB at h
 split at h
 ·exact (SynP.fault_ok h).elim
 ·have e := SynP.ret_ok h
  cases e
  exact ⟨rfl, tail_le s⟩
theorem closeB_keep {fin : Nat} {s s' : SynP.St} {u : Unit} (h : SynP.closeB fin s = some (.ok (u, s'))) : s'.opened = s.opened - 1 ∧ s'.ts.length ≤ s.ts.length := by
 unfold SynP.closeB at h
 obtain ⟨u, s1, h1, h2⟩ := SynP.bind_ok h
 have e := SynP.ret_ok h2
 cases e
 exact ⟨by show s1.opened - 1 = _; rw [(SynP.want_keep h1).1], (SynP.want_keep h1).2⟩
theorem name_keep {fin : Nat} {s s' : SynP.St} {x : Bytes} (h : SynP.name fin s = some (.ok (x, s'))) : s' = s.adv ∧ SynP.isKind 2 s.ts = true := by
 unfold SynP.name at h
 split at h
 ·have e := SynP.ret_ok h
  cases e
  rename_i hk
  exact ⟨rfl, hk⟩
 ·exact (SynP.fault_ok h).elim
set_option maxRecDepth 100000 in
set_option maxHeartbeats 4000000 in
theorem atom_name (fin f : Nat) (R : Nat) (tv : Value) (L : List Tok) (a : Nat) (s : SynP.St) (nv : Value) (ns : List Nv) (w : World) (h : RS w R tv L fin a s nv ns) (hk1 : SynP.isKind 1 s.ts = false) (hk2 : SynP.isKind 2 s.ts = true) (hm : SynP.isMark [40] s.ts.tail = false) (hne : SynP.atom fin (f + 1) s ≠ none) :
  Calls Tryz.prog 518 #[.pointer (some ⟨R, 0, none⟩)] w (RP (SynP.atom fin (f + 1) s) R tv L fin s nv ns (ExQ ns) w) := by
 have HS0 := Lib.hid h
 have HW0 : Hid (Wr R none w w) := Wr.refl _ _ _
 obtain ⟨r, hr⟩ : ∃ r, r = SynP.atom fin (f + 1) s := ⟨_, rfl⟩
 rw [← hr] at hne ⊢
 have HNE := Lib.hid hne
 have HR0 : Hid (r = (SynP.name fin s).bind fun x s => SynP.ret (.name x) s) := by show _ = _; rw [hr]; unfold SynP.atom; simp only [hk1, hk2, hm, Bool.and_false, Bool.false_eq_true, if_false, if_true]; try rfl
 have hfew := h.few
 have hsh := h.short
 have hLn : s.ts.length ≤ L.length := by rw [← h.drop, List.length_drop]; omega
 have C1 := Lib.hid (comes_kind 1 [] s.ts (by decide))
 have C2 := Lib.hid (comes_kind 2 [] s.ts (by decide))
 have C3 := Lib.hid (comes_mark1 [40] s.ts)
 rw [hk1] at C1
 rw [hk2] at C2
 rw [hm] at C3
 clear h hr hne hk1 hk2 hm
 go_enter Tryz.func518, Tryz.ntmps518
 go_wp2_with fail
 refine (rd_comes R tv L fin a s nv ns _ HS0.out 0 1 [] (by omega) (by omega)).mono ?_
 rintro e w1 ⟨rfl, b1⟩
 rw [C1.out]
 have HS1 := Lib.hid (HS0.out.below b1)
 have HW1 := Lib.hid (RS.step HW0.out (Wr.of_below b1))
 clear b1
 go_wp2_with fail
 refine (rd_comes R tv L fin a s nv ns _ HS1.out 0 2 [] (by omega) (by omega)).mono ?_
 rintro e w2 ⟨rfl, b1⟩
 rw [C2.out]
 have HS2 := Lib.hid (HS1.out.below b1)
 have HW2 := Lib.hid (RS.step HW1.out (Wr.of_below b1))
 clear b1
 go_wp2_with fail
 refine (rd_comes R tv L fin a s nv ns _ HS2.out 1 3 [40] (by omega) (by omega)).mono ?_
 rintro e w3 ⟨rfl, b1⟩
 rw [C3.out]
 have HS3 := Lib.hid (HS2.out.below b1)
 have HW3 := Lib.hid (RS.step HW2.out (Wr.of_below b1))
 clear b1
 go_wp2_with fail
 refine (rd_comes R tv L fin a s nv ns _ HS3.out 0 2 [] (by omega) (by omega)).mono ?_
 rintro e w4 ⟨rfl, b1⟩
 rw [C2.out]
 have HS4 := Lib.hid (HS3.out.below b1)
 have HW4 := Lib.hid (RS.step HW3.out (Wr.of_below b1))
 clear b1
 go_wp2_with fail
 refine (rd_name R tv L fin a s nv ns _ HS4.out).mono ?_
 rintro e w5 hn
 rcases hN : SynP.name fin s with - | (⟨fc, fk⟩ | ⟨x, s2⟩) <;> rw [hN] at hn
 ·exact hn.elim
 ·obtain ⟨rfl, n1⟩ := hn
  refine ⟨rfl, ?_⟩
  have hre : r = some (.error (fc, fk)) := by rw [HR0.out]; simp only [hN, SynP.PR.bind]; try rfl
  rw [hre]
  exact ⟨rfl, (HW4.out.weak _).trans (Mv.refl _ _) (n1.weak _)⟩
 obtain ⟨v2, a2, rfl, n1, n2, n3, rfl⟩ := hn
 obtain ⟨rfl, -⟩ := name_keep hN
 have HN := Lib.hid hN
 have HS5 := Lib.hid n1
 have HW5 := Lib.hid (RS.step HW4.out n2)
 clear n1 n2 hN
 have hadv : s.adv.ts.length + 1 = s.ts.length := kind_adv (name_keep HN.out).2
 have HP := Lib.hid (PSt.of0 HS0.out HS5.out HW5.out (tail_le s) rfl)
 go_wp2_with fail
 refine (rd_put R tv L fin a2 s.adv nv (ns ++ []) _ HP.out.rs ⟨2, x, []⟩ _ KNew.nil (by have := HP.out.rs.few; rw [List.append_nil]; omega)).mono ?_
 rintro e wq ⟨nvq, rfl, b1, b2, b3⟩
 have HQ := Lib.hid (HP.out.putS b1 b2 b3 (by rw [List.append_nil]; omega) (fun q hq => by simp [Value.ownBlock] at hq))
 clear b1 b2 b3
 have HRR : Hid (r = some (.ok (.name x, s.adv))) := by show _ = _; rw [HR0.out, HN.out]; rfl
 go_wp2_with fail
 go_ret
 rw [HRR.out]
 exact ⟨_, a2, nvq, _, rfl, HQ.out, by simp [SynP.Ex.size], by simp [SynP.Ex.flat]⟩
set_option maxRecDepth 100000 in
set_option maxHeartbeats 4000000 in
theorem atom_call (fin f : Nat) (IH : PaOk (SynP.parts fin f) fin) (R : Nat) (tv : Value) (L : List Tok) (a : Nat) (s : SynP.St) (nv : Value) (ns : List Nv) (w : World) (h : RS w R tv L fin a s nv ns) (hk1 : SynP.isKind 1 s.ts = false) (hk2 : SynP.isKind 2 s.ts = true) (hm : SynP.isMark [40] s.ts.tail = true) (hne : SynP.atom fin (f + 1) s ≠ none) :
  Calls Tryz.prog 518 #[.pointer (some ⟨R, 0, none⟩)] w (RP (SynP.atom fin (f + 1) s) R tv L fin s nv ns (ExQ ns) w) := by
 have HS0 := Lib.hid h
 have HW0 : Hid (Wr R none w w) := Wr.refl _ _ _
 obtain ⟨r, hr⟩ : ∃ r, r = SynP.atom fin (f + 1) s := ⟨_, rfl⟩
 rw [← hr] at hne ⊢
 have HNE := Lib.hid hne
 have HR0 : Hid (r = (SynP.name fin s).bind fun x s => (SynP.openB fin s).bind fun _ s => (SynP.parts fin f s).bind fun ks s => (SynP.closeB fin s).bind fun _ s => SynP.ret (.call x ks) s) := by show _ = _; rw [hr]; unfold SynP.atom; simp only [hk1, hk2, hm, Bool.and_true, Bool.false_eq_true, if_false, if_true]; try rfl
 have hfew := h.few
 have hsh := h.short
 have hLn : s.ts.length ≤ L.length := by rw [← h.drop, List.length_drop]; omega
 have C1 := Lib.hid (comes_kind 1 [] s.ts (by decide))
 have C2 := Lib.hid (comes_kind 2 [] s.ts (by decide))
 have C3 := Lib.hid (comes_mark1 [40] s.ts)
 have HM := Lib.hid hm
 have HIH := Lib.hid IH
 rw [hk1] at C1
 rw [hk2] at C2
 rw [hm] at C3
 clear h hr hne hk1 hk2 hm IH
 go_enter Tryz.func518, Tryz.ntmps518
 go_wp2_with fail
 refine (rd_comes R tv L fin a s nv ns _ HS0.out 0 1 [] (by omega) (by omega)).mono ?_
 rintro e w1 ⟨rfl, b1⟩
 rw [C1.out]
 have HS1 := Lib.hid (HS0.out.below b1)
 have HW1 := Lib.hid (RS.step HW0.out (Wr.of_below b1))
 clear b1
 go_wp2_with fail
 refine (rd_comes R tv L fin a s nv ns _ HS1.out 0 2 [] (by omega) (by omega)).mono ?_
 rintro e w2 ⟨rfl, b1⟩
 rw [C2.out]
 have HS2 := Lib.hid (HS1.out.below b1)
 have HW2 := Lib.hid (RS.step HW1.out (Wr.of_below b1))
 clear b1
 go_wp2_with fail
 refine (rd_comes R tv L fin a s nv ns _ HS2.out 1 3 [40] (by omega) (by omega)).mono ?_
 rintro e w3 ⟨rfl, b1⟩
 rw [C3.out]
 have HS3 := Lib.hid (HS2.out.below b1)
 have HW3 := Lib.hid (RS.step HW2.out (Wr.of_below b1))
 clear b1
 go_wp2_with fail
 refine (rd_name R tv L fin a s nv ns _ HS3.out).mono ?_
 rintro e w4 hn
 rcases hN : SynP.name fin s with - | (⟨fc, fk⟩ | ⟨x, s2⟩) <;> rw [hN] at hn
 ·exact hn.elim
 ·obtain ⟨rfl, n1⟩ := hn
  refine ⟨rfl, ?_⟩
  have hre : r = some (.error (fc, fk)) := by rw [HR0.out]; simp only [hN, SynP.PR.bind]; try rfl
  rw [hre]
  exact ⟨rfl, (HW3.out.weak _).trans (Mv.refl _ _) (n1.weak _)⟩
 obtain ⟨v2, a2, rfl, n1, n2, n3, rfl⟩ := hn
 obtain ⟨rfl, -⟩ := name_keep hN
 have HN := Lib.hid hN
 have HS4 := Lib.hid n1
 have HW4 := Lib.hid (RS.step HW3.out n2)
 clear n1 n2 hN
 go_wp2_with fail
 refine (rd_bracket R tv L fin a2 s.adv nv ns _ HS4.out (isMark_ne HM.out)).mono ?_
 rintro e w5 hn
 rcases hO : SynP.openB fin s.adv with - | (⟨fc, fk⟩ | ⟨u, s3⟩) <;> rw [hO] at hn
 ·exact hn.elim
 ·obtain ⟨rfl, n1⟩ := hn
  refine ⟨rfl, ?_⟩
  have hre : r = some (.error (fc, fk)) := by rw [HR0.out]; simp only [HN.out, hO, SynP.PR.bind]; try rfl
  rw [hre]
  exact ⟨rfl, (HW4.out.weak _).trans (Mv.refl _ _) (n1.weak _)⟩
 obtain ⟨v3, a3, rfl, n1, n2, n3, rfl⟩ := hn
 have hok := openB_keep hO
 have HO := Lib.hid hO
 have HS5 := Lib.hid n1
 have HW5 := Lib.hid (RS.step HW4.out n2)
 clear n1 n2 n3 hO
 have HR1 : Hid (r = (SynP.parts fin f s3).bind fun ks s => (SynP.closeB fin s).bind fun _ s => SynP.ret (.call x ks) s) := by show _ = _; rw [HR0.out]; simp only [HN.out, HO.out, SynP.PR.bind]
 go_wp2_with fail
 refine (HIH.out R tv L a3 s3 nv ns _ HS5.out (fun e => HNE.out (by rw [HR1.out, e]; rfl))).mono ?_
 rintro e w6 hn
 rcases hP : SynP.parts fin f s3 with - | (⟨fc, fk⟩ | ⟨ks, s4⟩) <;> rw [hP] at hn
 ·exact hn.elim
 ·obtain ⟨rfl, n1⟩ := hn
  refine ⟨rfl, ?_⟩
  have hre : r = some (.error (fc, fk)) := by rw [HR1.out, hP]; rfl
  rw [hre]
  exact ⟨rfl, (HW5.out.weak _).trans (Mv.refl _ _) n1⟩
 obtain ⟨v4, a4, nv4, ns4, rfl, n1, n2, n3⟩ := hn
 have HM6 := Lib.hid n1
 have HK6 := Lib.hid n2
 have HF6 := Lib.hid n3
 have HR2 : Hid (r = (SynP.closeB fin s4).bind fun _ s => SynP.ret (.call x ks) s) := by show _ = _; rw [HR1.out, hP]; rfl
 have hop : 0 < s4.opened := by rw [n1.opn, hok.1]; omega
 have hfw := n1.few
 clear n1 n2 n3 hP
 go_wp2_with fail
 refine (rd_closing R tv L fin a4 s4 nv4 (ns ++ ns4) _ HM6.out.rs hop).mono ?_
 rintro e w7 hn
 rcases hC : SynP.closeB fin s4 with - | (⟨fc, fk⟩ | ⟨u, s5⟩) <;> rw [hC] at hn
 ·exact hn.elim
 ·obtain ⟨rfl, n1⟩ := hn
  refine ⟨rfl, ?_⟩
  have hre : r = some (.error (fc, fk)) := by rw [HR2.out, hC]; rfl
  rw [hre]
  exact ⟨rfl, ((HW5.out.weak _).trans (Mv.refl _ _) HM6.out.wr).trans (Mv.trans (R := R) (w' := w5) (Mv.refl _ _) HW5.out.size HM6.out.mv) (n1.weak _)⟩
 obtain ⟨v5, a5, rfl, n1, n2, n3, rfl⟩ := hn
 have hck := closeB_keep hC
 have HRR : Hid (r = some (.ok (.call x ks, s5))) := by show _ = _; rw [HR2.out, hC]; rfl
 have hadv : s.adv.ts.length + 1 = s.ts.length := kind_adv (name_keep HN.out).2
 have HP := Lib.hid (PSt.wrap HS0.out HW5.out (by omega) hok.1 HM6.out n1 n2 hck.2 hck.1)
 have HK7 : Hid (KNew w7 R nv4 (ns ++ ns4) v4 (ks.roots ns.length)) := ⟨HK6.out.1.wr (n2.weak _) (Mv.refl _ _), HK6.out.2⟩
 rw [List.length_append] at hfw
 clear n1 n2 n3 hC
 go_wp2_with fail
 have HKF : Hid (∀ q, v4.ownBlock = some q → w.heap.size ≤ q) := fun q hq => Nat.le_trans HW5.out.size (HF6.out.2 q hq)
 have HFL := HF6.out.1
 refine (rd_put R tv L fin a5 s5 nv4 (ns ++ ns4) _ HP.out.rs ⟨10, x, ks.roots ns.length⟩ _ HK7.out (by have := HP.out.rs.few; rw [List.length_append]; omega)).mono ?_
 rintro e wq ⟨nvq, rfl, b1, b2, b3⟩
 have HQ := Lib.hid (HP.out.putS b1 b2 b3 (by rw [List.length_append]; omega) (HKF.out))
 clear b1 b2 b3
 have HL4 : Hid (ns4.length = ks.size) := by show _ = _; have := congrArg List.length HF6.out.1; rw [List.length_map, flats_len] at this; exact this
 go_wp2_with fail
 go_ret
 rw [HRR.out]
 exact ⟨_, a5, nvq, _, rfl, HQ.out, by
  have h4 := HL4.out
  have h5 : ((ns.length : Int) + (ns4.length : Int)) = ((ns.length + (SynP.Ex.call x ks).size - 1 : Nat) : Int) := by
   have : (SynP.Ex.call x ks).size = ks.size + 1 := rfl
   omega
  exact congrArg (Value.int .i64) h5, by rw [List.map_append, HF6.out.1]; rfl⟩
set_option maxRecDepth 100000 in
set_option maxHeartbeats 4000000 in
theorem atom_br (fin f : Nat) (IH : ExOk 92 (SynP.expr fin f) fin) (R : Nat) (tv : Value) (L : List Tok) (a : Nat) (s : SynP.St) (nv : Value) (ns : List Nv) (w : World) (h : RS w R tv L fin a s nv ns) (hk1 : SynP.isKind 1 s.ts = false) (hk2 : SynP.isKind 2 s.ts = false) (hm : SynP.isMark [40] s.ts = true) (hne : SynP.atom fin (f + 1) s ≠ none) :
  Calls Tryz.prog 518 #[.pointer (some ⟨R, 0, none⟩)] w (RP (SynP.atom fin (f + 1) s) R tv L fin s nv ns (ExQ ns) w) := by
 have HS0 := Lib.hid h
 have HW0 : Hid (Wr R none w w) := Wr.refl _ _ _
 obtain ⟨r, hr⟩ : ∃ r, r = SynP.atom fin (f + 1) s := ⟨_, rfl⟩
 rw [← hr] at hne ⊢
 have HNE := Lib.hid hne
 have HR0 : Hid (r = (SynP.openB fin s).bind fun _ s => (SynP.expr fin f s).bind fun k s => (SynP.closeB fin s).bind fun _ s => SynP.ret k s) := by show _ = _; rw [hr]; unfold SynP.atom; simp only [hk1, hk2, hm, Bool.false_and, Bool.false_eq_true, if_false, if_true]; try rfl
 have hfew := h.few
 have hsh := h.short
 have hLn : s.ts.length ≤ L.length := by rw [← h.drop, List.length_drop]; omega
 have C1 := Lib.hid (comes_kind 1 [] s.ts (by decide))
 have C2 := Lib.hid (comes_kind 2 [] s.ts (by decide))
 have C3 := Lib.hid (comes_mark1 [40] s.ts)
 have HM := Lib.hid hm
 have HIH := Lib.hid IH
 rw [hk1] at C1
 rw [hk2] at C2
 clear h hr hne hk1 hk2 hm IH
 go_enter Tryz.func518, Tryz.ntmps518
 go_wp2_with fail
 refine (rd_comes R tv L fin a s nv ns _ HS0.out 0 1 [] (by omega) (by omega)).mono ?_
 rintro e w1 ⟨rfl, b1⟩
 rw [C1.out]
 have HS1 := Lib.hid (HS0.out.below b1)
 have HW1 := Lib.hid (RS.step HW0.out (Wr.of_below b1))
 clear b1
 go_wp2_with fail
 refine (rd_comes R tv L fin a s nv ns _ HS1.out 0 2 [] (by omega) (by omega)).mono ?_
 rintro e w2 ⟨rfl, b1⟩
 rw [C2.out]
 have HS2 := Lib.hid (HS1.out.below b1)
 have HW2 := Lib.hid (RS.step HW1.out (Wr.of_below b1))
 clear b1
 go_wp2_with fail
 refine (rd_comes R tv L fin a s nv ns _ HS2.out 0 2 [] (by omega) (by omega)).mono ?_
 rintro e w3 ⟨rfl, b1⟩
 rw [C2.out]
 have HS3 := Lib.hid (HS2.out.below b1)
 have HW3 := Lib.hid (RS.step HW2.out (Wr.of_below b1))
 clear b1
 go_wp2_with fail
 refine (rd_mark R tv L fin a s nv ns _ HS3.out [40]).mono ?_
 rintro e w4 ⟨rfl, b1⟩
 rw [HM.out]
 have HS4 := Lib.hid (HS3.out.below b1)
 have HW4 := Lib.hid (RS.step HW3.out (Wr.of_below b1))
 clear b1
 go_wp2_with fail
 refine (rd_bracket R tv L fin a s nv ns _ HS4.out (isMark_ne HM.out)).mono ?_
 rintro e w5 hn
 rcases hO : SynP.openB fin s with - | (⟨fc, fk⟩ | ⟨u, s3⟩) <;> rw [hO] at hn
 ·exact hn.elim
 ·obtain ⟨rfl, n1⟩ := hn
  refine ⟨rfl, ?_⟩
  have hre : r = some (.error (fc, fk)) := by rw [HR0.out]; simp only [hO, SynP.PR.bind]; try rfl
  rw [hre]
  exact ⟨rfl, (HW4.out.weak _).trans (Mv.refl _ _) (n1.weak _)⟩
 obtain ⟨v3, a3, rfl, n1, n2, n3, rfl⟩ := hn
 have hok := openB_keep hO
 have HO := Lib.hid hO
 have HS5 := Lib.hid n1
 have HW5 := Lib.hid (RS.step HW4.out n2)
 clear n1 n2 n3 hO
 have HR1 : Hid (r = (SynP.expr fin f s3).bind fun k s => (SynP.closeB fin s).bind fun _ s => SynP.ret k s) := by show _ = _; rw [HR0.out]; simp only [HO.out, SynP.PR.bind]
 go_wp2_with fail
 refine (HIH.out R tv L a3 s3 nv ns _ HS5.out (fun e => HNE.out (by rw [HR1.out, e]; rfl))).mono ?_
 rintro e w6 hn
 rcases hP : SynP.expr fin f s3 with - | (⟨fc, fk⟩ | ⟨k, s4⟩) <;> rw [hP] at hn
 ·exact hn.elim
 ·obtain ⟨rfl, n1⟩ := hn
  refine ⟨rfl, ?_⟩
  have hre : r = some (.error (fc, fk)) := by rw [HR1.out, hP]; rfl
  rw [hre]
  exact ⟨rfl, (HW5.out.weak _).trans (Mv.refl _ _) n1⟩
 obtain ⟨v4, a4, nv4, ns4, rfl, n1, rfl, n3⟩ := hn
 have HM6 := Lib.hid n1
 have HF6 := Lib.hid n3
 have HR2 : Hid (r = (SynP.closeB fin s4).bind fun _ s => SynP.ret k s) := by show _ = _; rw [HR1.out, hP]; rfl
 have hop : 0 < s4.opened := by rw [n1.opn, hok.1]; omega
 obtain ⟨p, hp⟩ : ∃ p, p = ns.length + k.size - 1 := ⟨_, rfl⟩
 rw [← hp]
 have HPP := Lib.hid hp
 clear n1 n3 hP hp
 go_wp2_with fail
 refine (rd_closing R tv L fin a4 s4 nv4 (ns ++ ns4) _ HM6.out.rs hop).mono ?_
 rintro e w7 hn
 rcases hC : SynP.closeB fin s4 with - | (⟨fc, fk⟩ | ⟨u, s5⟩) <;> rw [hC] at hn
 ·exact hn.elim
 ·obtain ⟨rfl, n1⟩ := hn
  refine ⟨rfl, ?_⟩
  have hre : r = some (.error (fc, fk)) := by rw [HR2.out, hC]; rfl
  rw [hre]
  exact ⟨rfl, ((HW5.out.weak _).trans (Mv.refl _ _) HM6.out.wr).trans (Mv.trans (R := R) (w' := w5) (Mv.refl _ _) HW5.out.size HM6.out.mv) (n1.weak _)⟩
 obtain ⟨v5, a5, rfl, n1, n2, n3, rfl⟩ := hn
 have hck := closeB_keep hC
 have HRR : Hid (r = some (.ok (k, s5))) := by show _ = _; rw [HR2.out, hC]; rfl
 have HP := Lib.hid (PSt.wrap HS0.out HW5.out hok.2 hok.1 HM6.out n1 n2 hck.2 hck.1)
 clear n1 n2 n3 hC
 go_wp2_with fail
 go_ret
 rw [HRR.out]
 exact ⟨_, a5, nv4, _, rfl, HP.out, by rw [HPP.out]; rfl, HF6.out⟩
set_option maxRecDepth 100000 in
set_option maxHeartbeats 4000000 in
theorem atom_mat (fin f : Nat) (R : Nat) (tv : Value) (L : List Tok) (a : Nat) (s : SynP.St) (nv : Value) (ns : List Nv) (w : World) (h : RS w R tv L fin a s nv ns) (hk1 : SynP.isKind 1 s.ts = false) (hk2 : SynP.isKind 2 s.ts = false) (hm : SynP.isMark [40] s.ts = false) (hm2 : SynP.isMark [91] s.ts = true) (hne : SynP.atom fin (f + 1) s ≠ none) :
  Calls Tryz.prog 518 #[.pointer (some ⟨R, 0, none⟩)] w (RP (SynP.atom fin (f + 1) s) R tv L fin s nv ns (ExQ ns) w) := by
 have HS0 := Lib.hid h
 have HW0 : Hid (Wr R none w w) := Wr.refl _ _ _
 obtain ⟨r, hr⟩ : ∃ r, r = SynP.atom fin (f + 1) s := ⟨_, rfl⟩
 rw [← hr] at hne ⊢
 have HNE := Lib.hid hne
 have HR0 : Hid (r = (SynP.matrix fin f s).bind fun m s => SynP.ret (.mat m) s) := by show _ = _; rw [hr]; unfold SynP.atom; simp only [hk1, hk2, hm, hm2, Bool.false_and, Bool.false_eq_true, if_false, if_true]; try rfl
 have hfew := h.few
 have hsh := h.short
 have hLn : s.ts.length ≤ L.length := by rw [← h.drop, List.length_drop]; omega
 have C1 := Lib.hid (comes_kind 1 [] s.ts (by decide))
 have C2 := Lib.hid (comes_kind 2 [] s.ts (by decide))
 have C3 := Lib.hid (comes_mark1 [40] s.ts)
 have HM := Lib.hid hm
 have HM2 := Lib.hid hm2
 rw [hk1] at C1
 rw [hk2] at C2
 clear h hr hne hk1 hk2 hm hm2
 go_enter Tryz.func518, Tryz.ntmps518
 go_wp2_with fail
 refine (rd_comes R tv L fin a s nv ns _ HS0.out 0 1 [] (by omega) (by omega)).mono ?_
 rintro e w1 ⟨rfl, b1⟩
 rw [C1.out]
 have HS1 := Lib.hid (HS0.out.below b1)
 have HW1 := Lib.hid (RS.step HW0.out (Wr.of_below b1))
 clear b1
 go_wp2_with fail
 refine (rd_comes R tv L fin a s nv ns _ HS1.out 0 2 [] (by omega) (by omega)).mono ?_
 rintro e w2 ⟨rfl, b1⟩
 rw [C2.out]
 have HS2 := Lib.hid (HS1.out.below b1)
 have HW2 := Lib.hid (RS.step HW1.out (Wr.of_below b1))
 clear b1
 go_wp2_with fail
 refine (rd_comes R tv L fin a s nv ns _ HS2.out 0 2 [] (by omega) (by omega)).mono ?_
 rintro e w3 ⟨rfl, b1⟩
 rw [C2.out]
 have HS3 := Lib.hid (HS2.out.below b1)
 have HW3 := Lib.hid (RS.step HW2.out (Wr.of_below b1))
 clear b1
 go_wp2_with fail
 refine (rd_mark R tv L fin a s nv ns _ HS3.out [40]).mono ?_
 rintro e w4 ⟨rfl, b1⟩
 rw [HM.out]
 have HS4 := Lib.hid (HS3.out.below b1)
 have HW4 := Lib.hid (RS.step HW3.out (Wr.of_below b1))
 clear b1
 go_wp2_with fail
 refine (rd_mark R tv L fin a s nv ns _ HS4.out [91]).mono ?_
 rintro e w5 ⟨rfl, b1⟩
 rw [HM2.out]
 have HS5 := Lib.hid (HS4.out.below b1)
 have HW5 := Lib.hid (RS.step HW4.out (Wr.of_below b1))
 clear b1
 go_wp2_with fail
 refine (rd_matrix R tv L fin a s nv ns _ HS5.out f (fun e => HNE.out (by rw [HR0.out, e]; rfl))).mono ?_
 rintro e w6 hn
 rcases hN : SynP.matrix fin f s with - | (⟨fc, fk⟩ | ⟨m, s2⟩) <;> rw [hN] at hn
 ·exact hn.elim
 ·obtain ⟨rfl, n1⟩ := hn
  refine ⟨rfl, ?_⟩
  have hre : r = some (.error (fc, fk)) := by rw [HR0.out]; simp only [hN, SynP.PR.bind]; try rfl
  rw [hre]
  exact ⟨rfl, (HW5.out.weak _).trans (Mv.refl _ _) (n1.weak _)⟩
 obtain ⟨v2, a2, rfl, n1, n2, n3, av, rfl, n4⟩ := hn
 have hmo := SynP.matrix_ok hN
 have hml := matrix_len hN
 have HRR : Hid (r = some (.ok (.mat m, s2))) := by show _ = _; rw [HR0.out, hN]; rfl
 have HP := Lib.hid (PSt.of0 HS0.out n1 (RS.step HW5.out n2) n3 (SynP.matrix_keep hN).1)
 have HV := Lib.hid n4
 have HT := Lib.hid (matT_grid m hmo.2.2.2)
 obtain ⟨hm1, hm2, hm3, -⟩ := hmo
 have HM3 := Lib.hid hm3
 clear n1 n2 n3 n4 hN hm3
 go_wp2_with fail
 refine (mat_text m.rows m.cols m.at_ av _ HP.out.rs.sg HV.out.ird hm1 hm2 HM3.out).mono ?_
 rintro e w7 ⟨rfl, b1⟩
 rw [HT.out]
 have HP7 := Lib.hid (HP.out.step (HP.out.rs.below b1) (Wr.of_below b1) (Nat.le_refl _) rfl)
 clear b1
 go_wp2_with fail
 refine (rd_put R tv L fin a2 s2 nv (ns ++ []) _ HP7.out.rs ⟨3, SynP.matT m, []⟩ _ KNew.nil (by have := HP7.out.rs.few; rw [List.append_nil]; omega)).mono ?_
 rintro e wq ⟨nvq, rfl, b1, b2, b3⟩
 have HQ := Lib.hid (HP7.out.putS b1 b2 b3 (by rw [List.append_nil]; omega) (fun q hq => by simp [Value.ownBlock] at hq))
 clear b1 b2 b3
 go_wp2_with fail
 go_ret
 rw [HRR.out]
 exact ⟨_, a2, nvq, _, rfl, HQ.out, by simp [SynP.Ex.size], by simp [SynP.Ex.flat]⟩
set_option maxRecDepth 100000 in
set_option maxHeartbeats 4000000 in
theorem atom_cpx (fin f : Nat) (R : Nat) (tv : Value) (L : List Tok) (a : Nat) (s : SynP.St) (nv : Value) (ns : List Nv) (w : World) (h : RS w R tv L fin a s nv ns) (hk1 : SynP.isKind 1 s.ts = false) (hk2 : SynP.isKind 2 s.ts = false) (hm : SynP.isMark [40] s.ts = false) (hm2 : SynP.isMark [91] s.ts = false) (hm3 : SynP.isMark [123] s.ts = true) (hne : SynP.atom fin (f + 1) s ≠ none) :
  Calls Tryz.prog 518 #[.pointer (some ⟨R, 0, none⟩)] w (RP (SynP.atom fin (f + 1) s) R tv L fin s nv ns (ExQ ns) w) := by
 have HS0 := Lib.hid h
 have HW0 : Hid (Wr R none w w) := Wr.refl _ _ _
 obtain ⟨r, hr⟩ : ∃ r, r = SynP.atom fin (f + 1) s := ⟨_, rfl⟩
 rw [← hr] at hne ⊢
 have HNE := Lib.hid hne
 have HR0 : Hid (r = (SynP.complex fin f s).bind fun l s => SynP.ret (.cpx l) s) := by show _ = _; rw [hr]; unfold SynP.atom; simp only [hk1, hk2, hm, hm2, hm3, Bool.false_and, Bool.false_eq_true, if_false, if_true]; try rfl
 have hfew := h.few
 have hsh := h.short
 have hLn : s.ts.length ≤ L.length := by rw [← h.drop, List.length_drop]; omega
 have C1 := Lib.hid (comes_kind 1 [] s.ts (by decide))
 have C2 := Lib.hid (comes_kind 2 [] s.ts (by decide))
 have C3 := Lib.hid (comes_mark1 [40] s.ts)
 have HM := Lib.hid hm
 have HM2 := Lib.hid hm2
 have HM3 := Lib.hid hm3
 rw [hk1] at C1
 rw [hk2] at C2
 clear h hr hne hk1 hk2 hm hm2 hm3
 go_enter Tryz.func518, Tryz.ntmps518
 go_wp2_with fail
 refine (rd_comes R tv L fin a s nv ns _ HS0.out 0 1 [] (by omega) (by omega)).mono ?_
 rintro e w1 ⟨rfl, b1⟩
 rw [C1.out]
 have HS1 := Lib.hid (HS0.out.below b1)
 have HW1 := Lib.hid (RS.step HW0.out (Wr.of_below b1))
 clear b1
 go_wp2_with fail
 refine (rd_comes R tv L fin a s nv ns _ HS1.out 0 2 [] (by omega) (by omega)).mono ?_
 rintro e w2 ⟨rfl, b1⟩
 rw [C2.out]
 have HS2 := Lib.hid (HS1.out.below b1)
 have HW2 := Lib.hid (RS.step HW1.out (Wr.of_below b1))
 clear b1
 go_wp2_with fail
 refine (rd_comes R tv L fin a s nv ns _ HS2.out 0 2 [] (by omega) (by omega)).mono ?_
 rintro e w3 ⟨rfl, b1⟩
 rw [C2.out]
 have HS3 := Lib.hid (HS2.out.below b1)
 have HW3 := Lib.hid (RS.step HW2.out (Wr.of_below b1))
 clear b1
 go_wp2_with fail
 refine (rd_mark R tv L fin a s nv ns _ HS3.out [40]).mono ?_
 rintro e w4 ⟨rfl, b1⟩
 rw [HM.out]
 have HS4 := Lib.hid (HS3.out.below b1)
 have HW4 := Lib.hid (RS.step HW3.out (Wr.of_below b1))
 clear b1
 go_wp2_with fail
 refine (rd_mark R tv L fin a s nv ns _ HS4.out [91]).mono ?_
 rintro e w5 ⟨rfl, b1⟩
 rw [HM2.out]
 have HS5 := Lib.hid (HS4.out.below b1)
 have HW5 := Lib.hid (RS.step HW4.out (Wr.of_below b1))
 clear b1
 go_wp2_with fail
 refine (rd_mark R tv L fin a s nv ns _ HS5.out [123]).mono ?_
 rintro e w6 ⟨rfl, b1⟩
 rw [HM3.out]
 have HS6 := Lib.hid (HS5.out.below b1)
 have HW6 := Lib.hid (RS.step HW5.out (Wr.of_below b1))
 clear b1
 go_wp2_with fail
 refine (rd_complex R tv L fin a s nv ns _ HS6.out f (fun e => HNE.out (by rw [HR0.out, e]; rfl))).mono ?_
 rintro e w7 hn
 rcases hN : SynP.complex fin f s with - | (⟨fc, fk⟩ | ⟨l, s2⟩) <;> rw [hN] at hn
 ·exact hn.elim
 ·obtain ⟨rfl, n1⟩ := hn
  refine ⟨rfl, ?_⟩
  have hre : r = some (.error (fc, fk)) := by rw [HR0.out]; simp only [hN, SynP.PR.bind]; try rfl
  rw [hre]
  exact ⟨rfl, (HW6.out.weak _).trans (Mv.refl _ _) (n1.weak _)⟩
 obtain ⟨v2, a2, rfl, n1, n2, n3, svs, n4⟩ := hn
 have hml := complex_len hN
 obtain ⟨hc1, hc2⟩ := complex_count hN
 change tot l ≤ s.ts.length at hc1
 change l.length ≤ s.ts.length at hc2
 have HRR : Hid (r = some (.ok (.cpx l, s2))) := by show _ = _; rw [HR0.out, hN]; rfl
 have HP := Lib.hid (PSt.of0 HS0.out n1 (RS.step HW6.out n2) n3 (SynP.complex_keep hN).1)
 have HV := Lib.hid n4.crd
 have HC1 : Hid (∀ s ∈ l, s.length ≤ 134217728) := fun s hs => by have := tot_mem hs; omega
 have HC2 := Lib.hid (crd_len (l := l) (Nat.le_trans (complex_lb hN) (Nat.le_trans (lb_drop HS0.out.drop) HS0.out.sum)) (by omega) (by omega))
 have hln : l.length ≤ 134217728 := by omega
 clear n1 n2 n3 n4 hN hc1 hc2
 go_wp2_with fail
 refine (cpx_text l _ _ HP.out.rs.sg HV.out hln HC1.out HC2.out).mono ?_
 rintro e w8 ⟨rfl, b1⟩
 have HP7 := Lib.hid (HP.out.step (HP.out.rs.below b1) (Wr.of_below b1) (Nat.le_refl _) rfl)
 clear b1
 go_wp2_with fail
 refine (rd_put R tv L fin a2 s2 nv (ns ++ []) _ HP7.out.rs ⟨13, SynP.cpxT l, []⟩ _ KNew.nil (by have := HP7.out.rs.few; rw [List.append_nil]; omega)).mono ?_
 rintro e wq ⟨nvq, rfl, b1, b2, b3⟩
 have HQ := Lib.hid (HP7.out.putS b1 b2 b3 (by rw [List.append_nil]; omega) (fun q hq => by simp [Value.ownBlock] at hq))
 clear b1 b2 b3
 go_wp2_with fail
 go_ret
 rw [HRR.out]
 exact ⟨_, a2, nvq, _, rfl, HQ.out, by simp [SynP.Ex.size], by simp [SynP.Ex.flat]⟩
set_option maxRecDepth 100000 in
set_option maxHeartbeats 4000000 in
theorem atom_no (fin f : Nat) (R : Nat) (tv : Value) (L : List Tok) (a : Nat) (s : SynP.St) (nv : Value) (ns : List Nv) (w : World) (h : RS w R tv L fin a s nv ns) (hk1 : SynP.isKind 1 s.ts = false) (hk2 : SynP.isKind 2 s.ts = false) (hm : SynP.isMark [40] s.ts = false) (hm2 : SynP.isMark [91] s.ts = false) (hm3 : SynP.isMark [123] s.ts = false) (hne : SynP.atom fin (f + 1) s ≠ none) :
  Calls Tryz.prog 518 #[.pointer (some ⟨R, 0, none⟩)] w (RP (SynP.atom fin (f + 1) s) R tv L fin s nv ns (ExQ ns) w) := by
 have HS0 := Lib.hid h
 have HW0 : Hid (Wr R none w w) := Wr.refl _ _ _
 obtain ⟨r, hr⟩ : ∃ r, r = SynP.atom fin (f + 1) s := ⟨_, rfl⟩
 rw [← hr] at hne ⊢
 have HNE := Lib.hid hne
 have HR0 : Hid (r = SynP.unfit fin s) := by show _ = _; rw [hr]; unfold SynP.atom; simp only [hk1, hk2, hm, hm2, hm3, Bool.false_and, Bool.false_eq_true, if_false, if_true]; try rfl
 have hfew := h.few
 have hsh := h.short
 have hLn : s.ts.length ≤ L.length := by rw [← h.drop, List.length_drop]; omega
 have C1 := Lib.hid (comes_kind 1 [] s.ts (by decide))
 have C2 := Lib.hid (comes_kind 2 [] s.ts (by decide))
 have C3 := Lib.hid (comes_mark1 [40] s.ts)
 have HM := Lib.hid hm
 have HM2 := Lib.hid hm2
 have HM3 := Lib.hid hm3
 rw [hk1] at C1
 rw [hk2] at C2
 clear h hr hne hk1 hk2 hm hm2 hm3
 go_enter Tryz.func518, Tryz.ntmps518
 go_wp2_with fail
 refine (rd_comes R tv L fin a s nv ns _ HS0.out 0 1 [] (by omega) (by omega)).mono ?_
 rintro e w1 ⟨rfl, b1⟩
 rw [C1.out]
 have HS1 := Lib.hid (HS0.out.below b1)
 have HW1 := Lib.hid (RS.step HW0.out (Wr.of_below b1))
 clear b1
 go_wp2_with fail
 refine (rd_comes R tv L fin a s nv ns _ HS1.out 0 2 [] (by omega) (by omega)).mono ?_
 rintro e w2 ⟨rfl, b1⟩
 rw [C2.out]
 have HS2 := Lib.hid (HS1.out.below b1)
 have HW2 := Lib.hid (RS.step HW1.out (Wr.of_below b1))
 clear b1
 go_wp2_with fail
 refine (rd_comes R tv L fin a s nv ns _ HS2.out 0 2 [] (by omega) (by omega)).mono ?_
 rintro e w3 ⟨rfl, b1⟩
 rw [C2.out]
 have HS3 := Lib.hid (HS2.out.below b1)
 have HW3 := Lib.hid (RS.step HW2.out (Wr.of_below b1))
 clear b1
 go_wp2_with fail
 refine (rd_mark R tv L fin a s nv ns _ HS3.out [40]).mono ?_
 rintro e w4 ⟨rfl, b1⟩
 rw [HM.out]
 have HS4 := Lib.hid (HS3.out.below b1)
 have HW4 := Lib.hid (RS.step HW3.out (Wr.of_below b1))
 clear b1
 go_wp2_with fail
 refine (rd_mark R tv L fin a s nv ns _ HS4.out [91]).mono ?_
 rintro e w5 ⟨rfl, b1⟩
 rw [HM2.out]
 have HS5 := Lib.hid (HS4.out.below b1)
 have HW5 := Lib.hid (RS.step HW4.out (Wr.of_below b1))
 clear b1
 go_wp2_with fail
 refine (rd_mark R tv L fin a s nv ns _ HS5.out [123]).mono ?_
 rintro e w6 ⟨rfl, b1⟩
 rw [HM3.out]
 have HS6 := Lib.hid (HS5.out.below b1)
 have HW6 := Lib.hid (RS.step HW5.out (Wr.of_below b1))
 clear b1
 go_wp2_with fail
 refine (rd_unfit R tv L fin a s nv ns _ HS6.out).mono ?_
 rintro e w7 ⟨rfl, b1⟩
 refine ⟨rfl, ?_⟩
 rw [HR0.out]
 exact ⟨rfl, (HW6.out.weak _).trans (Mv.refl _ _) (Wr.of_below b1)⟩
theorem atom_of (fin f : Nat) (IE : ExOk 92 (SynP.expr fin f) fin) (IP : PaOk (SynP.parts fin f) fin) : ExOk 518 (SynP.atom fin (f + 1)) fin := by
 intro R tv L a s nv ns w h hne
 cases hk1 : SynP.isKind 1 s.ts with
 | true => exact atom_num fin f R tv L a s nv ns w h hk1
 | false =>
  cases hk2 : SynP.isKind 2 s.ts with
  | true =>
   cases hm : SynP.isMark [40] s.ts.tail with
   | true => exact atom_call fin f IP R tv L a s nv ns w h hk1 hk2 hm hne
   | false => exact atom_name fin f R tv L a s nv ns w h hk1 hk2 hm hne
  | false =>
   cases hm : SynP.isMark [40] s.ts with
   | true => exact atom_br fin f IE R tv L a s nv ns w h hk1 hk2 hm hne
   | false =>
    cases hm2 : SynP.isMark [91] s.ts with
    | true => exact atom_mat fin f R tv L a s nv ns w h hk1 hk2 hm hm2 hne
    | false =>
     cases hm3 : SynP.isMark [123] s.ts with
     | true => exact atom_cpx fin f R tv L a s nv ns w h hk1 hk2 hm hm2 hm3 hne
     | false => exact atom_no fin f R tv L a s nv ns w h hk1 hk2 hm hm2 hm3 hne
end Go.Proofs.YtceggplnggkdnaaGreatDoor
namespace Go.Proofs.YtceggplnggkdnaaGreatDoor
open Go.RowKit NatP LexP
structure AllOk (fin f : Nat) : Prop where
 ex : ExOk 92 (SynP.expr fin f) fin
 te : ExOk 180 (SynP.term fin f) fin
 fa : ExOk 331 (SynP.factor fin f) fin
 po : ExOk 450 (SynP.post fin f) fin
 at_ : ExOk 518 (SynP.atom fin f) fin
 pa : PaOk (SynP.parts fin f) fin
theorem all_ok (fin f : Nat) : AllOk fin f := by
 induction f using Nat.strongRecOn with
 | ind f ih =>
  cases f with
  | zero =>
   refine ⟨?_, ?_, ?_, ?_, ?_, ?_⟩ <;> intro R tv L a s nv ns w h hf
   ·exact absurd (by rw [SynP.expr]) hf
   ·exact absurd (by rw [SynP.term]) hf
   ·exact absurd (by rw [SynP.factor]) hf
   ·exact absurd (by rw [SynP.post]) hf
   ·exact absurd (by rw [SynP.atom]) hf
   ·exact absurd (by rw [SynP.parts]) hf
  | succ f =>
   have h1 : ∀ g, g ≤ f → AllOk fin g := fun g hg => ih g (by omega)
   have h2 := h1 f (Nat.le_refl _)
   exact ⟨expr_of fin f (fun g hg => (h1 g hg).te), term_of fin f (fun g hg => (h1 g hg).fa), factor_of fin f h2.po, post_of fin f h2.at_, atom_of fin f h2.ex h2.pa, parts_of fin f (fun g hg => (h1 g hg).ex)⟩
end Go.Proofs.YtceggplnggkdnaaGreatDoor
namespace Go.Proofs.YtceggplnggkdnaaGreatDoor
open Go.RowKit NatP LexP
def LnP (r : SynP.PR SynP.Ln) (R : Nat) (tv : Value) (L : List Tok) (fin : Nat) (nv : Value) (w : World) (e : Ending) (w' : World) : Prop :=
 match r with
 | none => False
 | some (.error (c, k)) => e = FaultE c k ∧ Wr R nv.ownBlock w w'
 | some (.ok (n, s')) => e = .returned (.tuple #[]) ∧ ∃ a' nv' ns', RS w' R tv L fin a' s' nv' ns' ∧ Wr R nv.ownBlock w w' ∧ ns'.map Prod.fst = n.flat ∧ Mv w nv.ownBlock nv'.ownBlock ∧ ∀ p ∈ ns', ∀ q, p.2.ownBlock = some q → w.heap.size ≤ q
structure Ln0 (R : Nat) (tv : Value) (L : List Tok) (fin : Nat) (nv : Value) (w wr : World) (a' : Nat) (s' : SynP.St) (nv' : Value) (ns' : List Nv) : Prop where
 rs : RS wr R tv L fin a' s' nv' ns'
 wr : Wr R nv.ownBlock w wr
 mv : Mv w nv.ownBlock nv'.ownBlock
 fresh : ∀ p ∈ ns', ∀ q, p.2.ownBlock = some q → w.heap.size ≤ q
theorem Ln0.step {R : Nat} {tv : Value} {L : List Tok} {fin : Nat} {s1 s2 : SynP.St} {nv nv1 : Value} {ns1 : List Nv} {w w1 w2 : World} {a1 a2 : Nat} (h : Ln0 R tv L fin nv w w1 a1 s1 nv1 ns1) (k : RS w2 R tv L fin a2 s2 nv1 ns1) (hw : Wr R none w1 w2) : Ln0 R tv L fin nv w w2 a2 s2 nv1 ns1 :=
 ⟨k, h.wr.trans h.mv (hw.weak _), h.mv, h.fresh⟩
theorem Ln0.trans {R : Nat} {tv : Value} {L : List Tok} {fin : Nat} {s1 s2 : SynP.St} {nv nv1 nv2 : Value} {ns1 ns2 : List Nv} {w w1 w2 : World} {a1 a2 : Nat} (h : Ln0 R tv L fin nv w w1 a1 s1 nv1 ns1) (k : PSt R tv L fin s1 nv1 ns1 w1 w2 a2 s2 nv2 ns2) : Ln0 R tv L fin nv w w2 a2 s2 nv2 (ns1 ++ ns2) :=
 ⟨k.rs, h.wr.trans h.mv k.wr, Mv.trans (R := R) (w' := w1) h.mv h.wr.size k.mv, fun p hp q hq => by
  rcases List.mem_append.1 hp with hp | hp
  ·exact h.fresh p hp q hq
  ·exact Nat.le_trans h.wr.size (k.fresh p hp q hq)⟩
theorem Ln0.put {R : Nat} {tv : Value} {L : List Tok} {fin : Nat} {s1 : SynP.St} {nv nv1 nv2 : Value} {ns1 : List Nv} {w w1 w2 : World} {a1 : Nat} {nd : SynP.Node} {kv : Value} (h : Ln0 R tv L fin nv w w1 a1 s1 nv1 ns1) (k : RS w2 R tv L fin a1 s1 nv2 (ns1 ++ [(nd, kv)])) (hw : Wr R nv1.ownBlock w1 w2) (hm : Mv w1 nv1.ownBlock nv2.ownBlock) (hv : ∀ q, kv.ownBlock = some q → w.heap.size ≤ q) : Ln0 R tv L fin nv w w2 a1 s1 nv2 (ns1 ++ [(nd, kv)]) :=
 ⟨k, h.wr.trans h.mv hw, Mv.trans (R := R) (w' := w1) h.mv h.wr.size hm, fun p hp q hq => by
  rcases List.mem_append.1 hp with hp | hp
  ·exact h.fresh p hp q hq
  ·rw [List.mem_singleton.1 hp] at hq; exact hv q hq⟩
set_option maxRecDepth 100000 in
theorem line_none (fin f : Nat) (R : Nat) (tv : Value) (L : List Tok) (s : SynP.St) (nv : Value) (w : World) (h : RS w R tv L fin 0 s nv []) (h0 : s.ts = []) :
  Calls Tryz.prog 53 #[.pointer (some ⟨R, 0, none⟩)] w (LnP (SynP.line fin f s) R tv L fin nv w) := by
 have H := Lib.hid h
 have HR0 : Hid (SynP.line fin f s = some (.ok (.nothing, s))) := by show _ = _; unfold SynP.line; rw [if_pos h0]; rfl
 have hts : s.ts.length = 0 := by rw [h0]; rfl
 have HD : Hid (decide (s.ts = []) = true) := decide_eq_true h0
 clear h h0
 go_enter Tryz.func53, Tryz.ntmps53
 go_wp2_with fail
 refine (rd_done R tv L fin 0 s nv [] _ H.out).mono ?_
 rintro e w1 ⟨rfl, b1⟩
 rw [HD.out]
 have HP : Hid (Ln0 R tv L fin nv w w1 0 s nv []) := ⟨H.out.below b1, Wr.of_below b1, Mv.refl _ _, fun p hp => by cases hp⟩
 clear b1
 go_wp2_with fail
 refine (rd_put R tv L fin 0 s nv [] _ HP.out.rs ⟨14, [], []⟩ _ KNew.nil (by simp; omega)).mono ?_
 rintro e w2 ⟨nv2, rfl, b1, b2, b3⟩
 have HQ := Lib.hid (HP.out.put b1 b2 b3 (fun q hq => by simp [Value.ownBlock] at hq))
 clear b1 b2 b3
 go_wp2_with fail
 refine bodyPost_ret (results_none rfl _ _ _) rfl ?_
 rw [HR0.out]
 exact ⟨rfl, 0, nv2, _, HQ.out.rs, HQ.out.wr, rfl, HQ.out.mv, HQ.out.fresh⟩
set_option maxRecDepth 100000 in
set_option maxHeartbeats 4000000 in
theorem line_let (fin f : Nat) (R : Nat) (tv : Value) (L : List Tok) (s : SynP.St) (nv : Value) (w : World) (h : RS w R tv L fin 0 s nv []) (hk : SynP.isKind 2 s.ts = true) (hl : SynP.headText s.ts = SynP.letB) (hne : SynP.line fin f s ≠ none) :
  Calls Tryz.prog 53 #[.pointer (some ⟨R, 0, none⟩)] w (LnP (SynP.line fin f s) R tv L fin nv w) := by
 have HS0 := Lib.hid h
 obtain ⟨r, hr⟩ : ∃ r, r = SynP.line fin f s := ⟨_, rfl⟩
 rw [← hr] at hne ⊢
 have HNE := Lib.hid hne
 have h0 : s.ts ≠ [] := isKind_ne hk
 have HR0 : Hid (r = (SynP.name fin s.adv).bind fun x s => (SynP.want fin [61] s).bind fun _ s => (SynP.expr fin f s).bind fun e s => SynP.done fin (.lets x e) s) := by
  show _ = _
  rw [hr]; unfold SynP.line; rw [if_neg h0, if_pos (by rw [hk, hl]; simp)]
 have HD : Hid (decide (s.ts = []) = false) := decide_eq_false h0
 have hfew := h.few
 have C2 := Lib.hid (comes_kind 2 [] s.ts (by decide))
 rw [hk] at C2
 have HNN := Lib.hid h0
 obtain ⟨ao, cap, rfl, t1, t2, t3⟩ := h.tks
 have hdr := h.drop
 rw [List.drop_zero] at hdr
 obtain ⟨t, l, hts⟩ := List.exists_cons_of_ne_nil h0
 have hL0 : 0 < L.length := by rw [hdr, hts]; simp
 obtain ⟨g, rfl, hg, hcl⟩ := t3 hL0
 obtain ⟨-, d1, -⟩ := hcl 0 t (by rw [hdr, hts]; rfl)
 have ht1 : t.2.1 = SynP.letB := by rw [← hl, hts]; rfl
 rw [ht1, show SynP.letB.toArray = #[108, 101, 116] from rfl] at d1
 have D1 := Lib.hid d1
 have hRl := h.lt
 have hadv : s.adv.ts.length + 1 = s.ts.length := kind_adv hk
 have HRL := Lib.hid hRl
 clear h hr hne hk hl h0 t3 hcl hdr hts d1 ht1
 go_enter Tryz.func53, Tryz.ntmps53
 go_wp2_with fail
 refine (rd_done R _ L fin 0 s nv [] _ HS0.out).mono ?_
 rintro e w1 ⟨rfl, b1⟩
 rw [HD.out]
 have HP1 : Hid (Ln0 R (.slice (some ⟨g, 0, none⟩) L.length cap) L fin nv w w1 0 s nv []) := ⟨HS0.out.below b1, Wr.of_below b1, Mv.refl _ _, fun p hp => by cases hp⟩
 have D2 : Hid (w1.cell? ⟨g, 1, none⟩ = some (.string ⟨#[108, 101, 116]⟩)) := (b1.cell (p := ⟨g, 1, none⟩) (by show g < _; have := HRL.out; omega)).trans D1.out
 have hgl1 : g < w1.heap.size := by have := b1.size; have := HRL.out; omega
 clear b1
 go_wp2_with fail
 refine (rd_comes R _ L fin 0 s nv [] _ HP1.out.rs 0 2 [] (by omega) (by omega)).mono ?_
 rintro e w2 ⟨rfl, b1⟩
 rw [C2.out]
 have HP2 := Lib.hid (HP1.out.step (HP1.out.rs.below b1) (Wr.of_below b1))
 have e0 := HP2.out.rs.cells.1
 have e1 := HP2.out.rs.cells.2.1
 have e2 : w2.cell? ⟨g, 1, none⟩ = some (.string ⟨#[108, 101, 116]⟩) := (b1.cell (p := ⟨g, 1, none⟩) hgl1).trans D2.out
 have f1 := HP2.out.rs.fro 1
 have hpp := HP2.out.rs.adv HNN.out
 have HP3 := Lib.hid (HP2.out.step hpp.1 hpp.2)
 clear b1 hpp
 go_wp2_with fail
 refine (rd_name R _ L fin (0 + 1) s.adv nv [] _ HP3.out.rs).mono ?_
 rintro e w3 hn
 rcases hN : SynP.name fin s.adv with - | (⟨fc, fk⟩ | ⟨x, s3⟩) <;> rw [hN] at hn
 ·exact hn.elim
 ·obtain ⟨rfl, n1⟩ := hn
  refine ⟨rfl, ?_⟩
  have hre : r = some (.error (fc, fk)) := by rw [HR0.out]; simp only [hN, SynP.PR.bind]; try rfl
  rw [hre]
  exact ⟨rfl, HP3.out.wr.trans HP3.out.mv (n1.weak _)⟩
 obtain ⟨v3, a3, rfl, n1, n2, n3, rfl⟩ := hn
 have HR1 : Hid (r = (SynP.want fin [61] s3).bind fun _ s => (SynP.expr fin f s).bind fun e s => SynP.done fin (.lets x e) s) := by show _ = _; rw [HR0.out, hN]; rfl
 have HP4 := Lib.hid (HP3.out.step n1 n2)
 have hs3 : s3.ts.length ≤ s.adv.ts.length := n3
 clear n1 n2 n3 hN
 go_wp2_with fail
 refine (rd_want R _ L fin a3 s3 nv [] _ HP4.out.rs [61]).mono ?_
 rintro e w4 hn
 rcases hN : SynP.want fin [61] s3 with - | (⟨fc, fk⟩ | ⟨u, s4⟩) <;> rw [hN] at hn
 ·exact hn.elim
 ·obtain ⟨rfl, n1⟩ := hn
  refine ⟨rfl, ?_⟩
  have hre : r = some (.error (fc, fk)) := by rw [HR1.out]; simp only [hN, SynP.PR.bind]; try rfl
  rw [hre]
  exact ⟨rfl, HP4.out.wr.trans HP4.out.mv (n1.weak _)⟩
 obtain ⟨v4, a4, rfl, n1, n2, n3, rfl⟩ := hn
 have HR2 : Hid (r = (SynP.expr fin f s4).bind fun e s => SynP.done fin (.lets x e) s) := by show _ = _; rw [HR1.out, hN]; rfl
 have HP5 := Lib.hid (HP4.out.step n1 n2)
 have hs4 : s4.ts.length ≤ s3.ts.length := n3
 clear n1 n2 n3 hN
 go_wp2_with fail
 refine ((all_ok fin f).ex R _ L a4 s4 nv [] _ HP5.out.rs (fun e => HNE.out (by rw [HR2.out, e]; rfl))).mono ?_
 rintro e w5 hn
 rcases hN : SynP.expr fin f s4 with - | (⟨fc, fk⟩ | ⟨k, s5⟩) <;> rw [hN] at hn
 ·exact hn.elim
 ·obtain ⟨rfl, n1⟩ := hn
  refine ⟨rfl, ?_⟩
  have hre : r = some (.error (fc, fk)) := by rw [HR2.out]; simp only [hN, SynP.PR.bind]; try rfl
  rw [hre]
  exact ⟨rfl, HP5.out.wr.trans HP5.out.mv (n1)⟩
 obtain ⟨v5, a5, nv5, ns5, rfl, n1, rfl, n3⟩ := hn
 have HR3 : Hid (r = SynP.done fin (.lets x k) s5) := by show _ = _; rw [HR2.out, hN]; rfl
 have HP6 := Lib.hid (HP5.out.trans n1)
 have HF := Lib.hid n3
 have hfw := n1.few
 rw [List.nil_append] at hfw
 simp only [List.length_nil] at hfw
 obtain ⟨p, hp⟩ : ∃ p, p = k.size - 1 := ⟨_, rfl⟩
 have hp0 : ([] : List Nv).length + k.size - 1 = p := by rw [hp, List.length_nil, Nat.zero_add]
 rw [hp0]
 have HPP := Lib.hid hp
 have hkn := (KNew.fresh HP6.out.rs [p]).resolve_right (by simp)
 have HKN := Lib.hid hkn
 have HA := Lib.hid (below_alloc w5 (.cells #[.int .i64 ((p : Nat) : Int)] 3))
 have HP7 := Lib.hid (HP6.out.step (HP6.out.rs.below HA.out) (Wr.of_below HA.out))
 clear n1 n3 hN hp hp0 hkn
 go_wp2_with fail
 refine (rd_put R _ L fin a5 s5 nv5 ([] ++ ns5) _ HP7.out.rs ⟨11, x, [p]⟩ _ HKN.out (by rw [List.nil_append]; omega)).mono ?_
 rintro e w6 ⟨nv6, rfl, b1, b2, b3⟩
 have HP8 := Lib.hid (HP7.out.put b1 b2 b3 (fun q hq => by cases hq; exact HP6.out.wr.size))
 clear b1 b2 b3
 have hmap : (([] ++ ns5) ++ [((⟨11, x, [p]⟩ : SynP.Node), (Value.slice (some ⟨w5.heap.size, 0, none⟩) 1 1))]).map Prod.fst = (SynP.Ln.lets x k).flat := by
  rw [List.nil_append, List.map_append, HF.out, HPP.out]; rfl
 have HMAP := Lib.hid hmap
 clear hmap
 go_wp2_with fail
 refine (rd_done R _ L fin a5 s5 nv6 _ _ HP8.out.rs).mono ?_
 rintro e w7 ⟨rfl, b1⟩
 have HP9 := Lib.hid (HP8.out.step (HP8.out.rs.below b1) (Wr.of_below b1))
 clear b1
 by_cases hts : s5.ts = []
 ·have HR4 : Hid (r = some (.ok (.lets x k, s5))) := by show _ = _; rw [HR3.out]; unfold SynP.done; rw [if_pos hts]; rfl
  rw [decide_eq_true hts]
  clear hts
  go_wp2_with fail
  first | go_end0 | refine bodyPost_ret (results_none rfl _ _ _) rfl ?_
  rw [HR4.out]
  exact ⟨rfl, a5, nv6, _, HP9.out.rs, HP9.out.wr, HMAP.out, HP9.out.mv, HP9.out.fresh⟩
 ·have HR4 : Hid (r = SynP.unfit fin s5) := by show _ = _; rw [HR3.out]; unfold SynP.done; rw [if_neg hts]
  rw [decide_eq_false hts]
  clear hts
  go_wp2_with fail
  refine (rd_unfit R _ L fin a5 s5 nv6 _ _ HP9.out.rs).mono ?_
  rintro e w8 ⟨rfl, b1⟩
  refine ⟨rfl, ?_⟩
  rw [HR4.out]
  exact ⟨rfl, HP9.out.wr.trans HP9.out.mv ((Wr.of_below (R := R) (og := none) b1).weak _)⟩
set_option maxRecDepth 100000 in
set_option maxHeartbeats 4000000 in
theorem line_do (fin f : Nat) (R : Nat) (tv : Value) (L : List Tok) (s : SynP.St) (nv : Value) (w : World) (h : RS w R tv L fin 0 s nv []) (h0 : s.ts ≠ []) (hl : (SynP.isKind 2 s.ts && SynP.headText s.ts == SynP.letB) = false) (hne : SynP.line fin f s ≠ none) :
  Calls Tryz.prog 53 #[.pointer (some ⟨R, 0, none⟩)] w (LnP (SynP.line fin f s) R tv L fin nv w) := by
 have HS0 := Lib.hid h
 obtain ⟨r, hr⟩ : ∃ r, r = SynP.line fin f s := ⟨_, rfl⟩
 rw [← hr] at hne ⊢
 have HNE := Lib.hid hne
 have HR0 : Hid (r = (SynP.name fin s).bind fun x s => if s.ts = [] then SynP.done fin (.cmd x .nil) s else (SynP.parts fin f s).bind fun ks s => SynP.done fin (.cmd x ks) s) := by
  show _ = _
  rw [hr]; unfold SynP.line; rw [if_neg h0, if_neg (by rw [hl]; decide)]
 have HD : Hid (decide (s.ts = []) = false) := decide_eq_false h0
 have hfew := h.few
 rw [List.length_nil, Nat.zero_add] at hfew
 have C2 := Lib.hid (comes_kind 2 [] s.ts (by decide))
 obtain ⟨ao, cap, rfl, t1, t2, t3⟩ := h.tks
 have hdr := h.drop
 rw [List.drop_zero] at hdr
 obtain ⟨t, l, hts⟩ := List.exists_cons_of_ne_nil h0
 have hL0 : 0 < L.length := by rw [hdr, hts]; simp
 obtain ⟨g, rfl, hg, hcl⟩ := t3 hL0
 obtain ⟨-, d1, -⟩ := hcl 0 t (by rw [hdr, hts]; rfl)
 have ht1 : t.2.1 = SynP.headText s.ts := by rw [hts]; rfl
 rw [ht1] at d1
 have D1 := Lib.hid d1
 have hRl := h.lt
 have HRL := Lib.hid hRl
 have HL := Lib.hid hl
 obtain ⟨tt, htt⟩ : ∃ tt, tt = SynP.headText s.ts := ⟨_, rfl⟩
 rw [← htt] at D1 HL
 obtain ⟨bk, hbk⟩ : ∃ bk, bk = SynP.isKind 2 s.ts := ⟨_, rfl⟩
 rw [← hbk] at C2 HL
 have HTT : Hid (tt = SynP.headText s.ts) := htt
 clear h hr hne hl h0 t3 hcl hdr hts d1 ht1 htt hbk
 go_enter Tryz.func53, Tryz.ntmps53
 go_wp2_with fail
 refine (rd_done R _ L fin 0 s nv [] _ HS0.out).mono ?_
 rintro e w1 ⟨rfl, b1⟩
 rw [HD.out]
 have HP1 : Hid (Ln0 R (.slice (some ⟨g, 0, none⟩) L.length cap) L fin nv w w1 0 s nv []) := ⟨HS0.out.below b1, Wr.of_below b1, Mv.refl _ _, fun p hp => by cases hp⟩
 have D2 : Hid (w1.cell? ⟨g, 1, none⟩ = some (.string ⟨tt.toArray⟩)) := (b1.cell (p := ⟨g, 1, none⟩) (by show g < _; have := HRL.out; omega)).trans D1.out
 have hgl1 : g < w1.heap.size := by have := b1.size; have := HRL.out; omega
 clear b1
 go_wp2_with fail
 refine (rd_comes R _ L fin 0 s nv [] _ HP1.out.rs 0 2 [] (by omega) (by omega)).mono ?_
 rintro e w2 ⟨rfl, b1⟩
 rw [C2.out]
 have HP2 := Lib.hid (HP1.out.step (HP1.out.rs.below b1) (Wr.of_below b1))
 have e0 := HP2.out.rs.cells.1
 have e2 : w2.cell? ⟨g, 1, none⟩ = some (.string ⟨tt.toArray⟩) := (b1.cell (p := ⟨g, 1, none⟩) hgl1).trans D2.out
 have hbl : bk = true → (tt == [108, 101, 116]) = false := fun e => by
  have h1 := HL.out
  rw [e, Bool.true_and] at h1
  exact h1
 clear b1
 cases bk
 case' true =>
  have hc := hbl rfl
 all_goals
  clear hbl
  go_wp2_with fail
  refine (rd_name R _ L fin 0 s nv [] _ HP2.out.rs).mono ?_
  rintro e w3 hn
  rcases hN : SynP.name fin s with - | (⟨fc, fk⟩ | ⟨x, s3⟩) <;> rw [hN] at hn
  ·exact hn.elim
  ·obtain ⟨rfl, n1⟩ := hn
   refine ⟨rfl, ?_⟩
   have hre : r = some (.error (fc, fk)) := by rw [HR0.out]; simp only [hN, SynP.PR.bind]; try rfl
   rw [hre]
   exact ⟨rfl, HP2.out.wr.trans HP2.out.mv (n1.weak _)⟩
  obtain ⟨v3, a3, rfl, n1, n2, n3, rfl⟩ := hn
  have HR1 : Hid (r = if s3.ts = [] then SynP.done fin (.cmd x .nil) s3 else (SynP.parts fin f s3).bind fun ks s => SynP.done fin (.cmd x ks) s) := by show _ = _; rw [HR0.out, hN]; rfl
  have HP3 := Lib.hid (HP2.out.step n1 n2)
  have hn1 := (name_keep hN).1
  have hn2 := kind_adv (name_keep hN).2
  rw [← hn1] at hn2
  clear n1 n2 n3 hN hn1
  go_wp2_with fail
  refine (rd_done R _ L fin a3 s3 nv [] _ HP3.out.rs).mono ?_
  rintro e w4 ⟨rfl, b1⟩
  have HP4 := Lib.hid (HP3.out.step (HP3.out.rs.below b1) (Wr.of_below b1))
  clear b1
  by_cases hts : s3.ts = []
  ·have HR2 : Hid (r = SynP.done fin (.cmd x .nil) s3) := by show _ = _; rw [HR1.out, if_pos hts]
   rw [decide_eq_true hts]
   clear hts
   go_wp2_with fail
   refine (rd_put R _ L fin a3 s3 nv [] _ HP4.out.rs ⟨12, x, []⟩ _ KNew.nil (by rw [List.length_nil]; omega)).mono ?_
   rintro e w6 ⟨nv6, rfl, b1, b2, b3⟩
   have HP8 := Lib.hid (HP4.out.put b1 b2 b3 (fun q hq => by simp [Value.ownBlock] at hq))
   clear b1 b2 b3
   have HMAP : Hid (([] ++ [((⟨12, x, []⟩ : SynP.Node), (Value.slice none 0 0))]).map Prod.fst = (SynP.Ln.cmd x .nil).flat) := rfl
   go_wp2_with fail
   refine (rd_done R _ L fin a3 s3 nv6 _ _ HP8.out.rs).mono ?_
   rintro e w7 ⟨rfl, b1⟩
   have HP9 := Lib.hid (HP8.out.step (HP8.out.rs.below b1) (Wr.of_below b1))
   clear b1
   by_cases hts : s3.ts = []
   ·have HR4 : Hid (r = some (.ok (.cmd x .nil, s3))) := by show _ = _; rw [HR2.out]; unfold SynP.done; rw [if_pos hts]; rfl
    rw [decide_eq_true hts]
    clear hts
    go_wp2_with fail
    first | go_end0 | refine bodyPost_ret (results_none rfl _ _ _) rfl ?_
    rw [HR4.out]
    exact ⟨rfl, a3, nv6, _, HP9.out.rs, HP9.out.wr, HMAP.out, HP9.out.mv, HP9.out.fresh⟩
   ·have HR4 : Hid (r = SynP.unfit fin s3) := by show _ = _; rw [HR2.out]; unfold SynP.done; rw [if_neg hts]
    rw [decide_eq_false hts]
    clear hts
    go_wp2_with fail
    refine (rd_unfit R _ L fin a3 s3 nv6 _ _ HP9.out.rs).mono ?_
    rintro e w8 ⟨rfl, b1⟩
    refine ⟨rfl, ?_⟩
    rw [HR4.out]
    exact ⟨rfl, HP9.out.wr.trans HP9.out.mv ((Wr.of_below (R := R) (og := none) b1).weak _)⟩
  ·have HR2 : Hid (r = (SynP.parts fin f s3).bind fun ks s => SynP.done fin (.cmd x ks) s) := by show _ = _; rw [HR1.out, if_neg hts]
   rw [decide_eq_false hts]
   clear hts
   go_wp2_with fail
   refine ((all_ok fin f).pa R _ L a3 s3 nv [] _ HP4.out.rs (fun e => HNE.out (by rw [HR2.out, e]; rfl))).mono ?_
   rintro e w5 hn
   rcases hN : SynP.parts fin f s3 with - | (⟨fc, fk⟩ | ⟨k, s5⟩) <;> rw [hN] at hn
   ·exact hn.elim
   ·obtain ⟨rfl, n1⟩ := hn
    refine ⟨rfl, ?_⟩
    have hre : r = some (.error (fc, fk)) := by rw [HR2.out]; simp only [hN, SynP.PR.bind]; try rfl
    rw [hre]
    exact ⟨rfl, HP4.out.wr.trans HP4.out.mv (n1)⟩
   obtain ⟨v5, a5, nv5, ns5, rfl, n1, n2, n3, n4⟩ := hn
   have HR3 : Hid (r = SynP.done fin (.cmd x k) s5) := by show _ = _; rw [HR2.out, hN]; rfl
   have HP6 := Lib.hid (HP4.out.trans n1)
   have HF := Lib.hid n3
   have HKN := Lib.hid n2
   have HKF : Hid (∀ q, v5.ownBlock = some q → w.heap.size ≤ q) := fun q hq => Nat.le_trans HP4.out.wr.size (n4 q hq)
   have hfw := n1.few
   rw [List.nil_append, List.length_nil, Nat.zero_add] at hfw
   clear n1 n2 n3 n4 hN
   go_wp2_with fail
   refine (rd_put R _ L fin a5 s5 nv5 ([] ++ ns5) _ HP6.out.rs ⟨12, x, k.roots 0⟩ _ HKN.out (by rw [List.nil_append]; omega)).mono ?_
   rintro e w6 ⟨nv6, rfl, b1, b2, b3⟩
   have HP8 := Lib.hid (HP6.out.put b1 b2 b3 HKF.out)
   clear b1 b2 b3
   have hmap : (([] ++ ns5) ++ [((⟨12, x, k.roots 0⟩ : SynP.Node), v5)]).map Prod.fst = (SynP.Ln.cmd x k).flat := by
    rw [List.nil_append, List.map_append, HF.out]; rfl
   have HMAP := Lib.hid hmap
   clear hmap
   go_wp2_with fail
   refine (rd_done R _ L fin a5 s5 nv6 _ _ HP8.out.rs).mono ?_
   rintro e w7 ⟨rfl, b1⟩
   have HP9 := Lib.hid (HP8.out.step (HP8.out.rs.below b1) (Wr.of_below b1))
   clear b1
   by_cases hts : s5.ts = []
   ·have HR4 : Hid (r = some (.ok (.cmd x k, s5))) := by show _ = _; rw [HR3.out]; unfold SynP.done; rw [if_pos hts]; rfl
    rw [decide_eq_true hts]
    clear hts
    go_wp2_with fail
    first | go_end0 | refine bodyPost_ret (results_none rfl _ _ _) rfl ?_
    rw [HR4.out]
    exact ⟨rfl, a5, nv6, _, HP9.out.rs, HP9.out.wr, HMAP.out, HP9.out.mv, HP9.out.fresh⟩
   ·have HR4 : Hid (r = SynP.unfit fin s5) := by show _ = _; rw [HR3.out]; unfold SynP.done; rw [if_neg hts]
    rw [decide_eq_false hts]
    clear hts
    go_wp2_with fail
    refine (rd_unfit R _ L fin a5 s5 nv6 _ _ HP9.out.rs).mono ?_
    rintro e w8 ⟨rfl, b1⟩
    refine ⟨rfl, ?_⟩
    rw [HR4.out]
    exact ⟨rfl, HP9.out.wr.trans HP9.out.mv ((Wr.of_below (R := R) (og := none) b1).weak _)⟩
theorem line_any (fin f : Nat) (R : Nat) (tv : Value) (L : List Tok) (s : SynP.St) (nv : Value) (w : World) (h : RS w R tv L fin 0 s nv []) (hne : SynP.line fin f s ≠ none) :
  Calls Tryz.prog 53 #[.pointer (some ⟨R, 0, none⟩)] w (LnP (SynP.line fin f s) R tv L fin nv w) := by
 by_cases h0 : s.ts = []
 ·exact line_none fin f R tv L s nv w h h0
 ·cases hl : (SynP.isKind 2 s.ts && SynP.headText s.ts == SynP.letB) with
  | false => exact line_do fin f R tv L s nv w h h0 hl hne
  | true =>
   rw [Bool.and_eq_true] at hl
   exact line_let fin f R tv L s nv w h hl.1 (by simpa using hl.2) hne
end Go.Proofs.YtceggplnggkdnaaGreatDoor
namespace Go.Proofs.YtceggplnggkdnaaGreatDoor
open Go.RowKit NatP LexP
theorem wpS_rest {P : Program} {fn : Func} {c₀ : Frame} {cs : List Frame} {R : Ending → FrameMode → World → Prop} {c : Code} {a : Act} {w : World} (u' : FrameMode) (h : c.wp P (bodyPost P fn (fun e w' => R e u' w')) a w) :
  c.wpS P (bodyPostS P fn c₀ cs R) a ({ c₀ with mode := u' } :: cs) w := fun b k _ _ => by
 obtain ⟨e, a', w', q, r⟩ := h b k ({ c₀ with mode := u' } :: cs)
 refine ⟨e, a', _, w', ?_, r⟩
 cases e with
 | normal => exact ⟨q.1, u', rfl, q.2⟩
 | ret => exact ⟨q.1, u', rfl, q.2⟩
 | panic ch => exact ⟨q.1, u', rfl, q.2⟩
 | outgrown => exact ⟨u', q⟩
 | exit i => exact q.elim
 | goto i => exact q.elim
theorem run_assert_fault (c k : Int) (w : World) : (Instr.typeAssert (.iface 105 (.agg #[.int .i64 c, .int .i64 k])) 20 105 true).run Tryz.prog w = .ok (.tuple #[.agg #[.int .i64 c, .int .i64 k], .bool true]) w := by
 unfold Instr.typeAssert
 simp [go_sem, Tryz.underlying20]
set_option maxRecDepth 100000 in
theorem catch_fault (g c k : Nat) (x y : Value) (w : World) (hb : w.heap[g]? = some (.cells #[x, y] 105 (0, 0))) :
  CallsD Tryz.prog 86 #[.pointer (some ⟨g, 0, none⟩)] (.panicking [{ v := .iface 105 (.agg #[.int .i64 (c : Nat), .int .i64 (k : Nat)]), recovered := false }]) w fun e u' w' =>
   e = .returned (.tuple #[]) ∧ u' = .panicking [{ v := .iface 105 (.agg #[.int .i64 (c : Nat), .int .i64 (k : Nat)]), recovered := true }] ∧ w' = ((w.setCell ⟨g, 0, none⟩ (.int .i64 (c : Nat))).setCell ⟨g, 1, none⟩ (.int .i64 (k : Nat))).alloc (.cells #[.int .i64 (c : Nat), .int .i64 (k : Nat)] 105) := by
 refine callsD_of_wpS Tryz.func86 rfl fun c₀ cs hu => ?_
 have hg : g < w.heap.size := (Array.getElem?_eq_some_iff.1 hb).1
 have hz0 : w.frozen? ⟨g, 0, none⟩ = false := frozen_of_row w g 0 _ _ hb
 have hz1 : w.frozen? ⟨g, 1, none⟩ = false := frozen_of_row w g 1 _ _ hb
 have hc0 : w.cell? ⟨g, 0, none⟩ = some x := by rw [cell_of_row w g 0 _ _ _ hb]; rfl
 have hc1 : w.cell? ⟨g, 1, none⟩ = some y := by rw [cell_of_row w g 1 _ _ _ hb]; rfl
 apply wpS_seq
 apply wpS_region
 simp [wpOpsS, go_sem, recoverD, hu, Tryz.ntmps86, Exit.thenS]
 refine wpS_rest (.panicking [{ v := .iface 105 (.agg #[.int .i64 (c : Nat), .int .i64 (k : Nat)]), recovered := true }]) ?_
 clear hb
 simp only [Array.replicate_succ, Array.replicate_zero, List.push_toArray, List.append_toArray, List.nil_append, List.cons_append, List.setIfInBounds_toArray, List.set]
 have hta : ∀ (c k : Int) (w : World), (Instr.typeAssert (.iface 105 (.agg #[.int .i64 c, .int .i64 k])) 20 105 true).run Tryz.prog w = .ok (.tuple #[.agg #[.int .i64 c, .int .i64 k], .bool true]) w := run_assert_fault
 go_wp2_with fail
 go_end0
 exact ⟨rfl, trivial, rfl⟩
set_option maxRecDepth 100000 in
theorem catch_none (g : Nat) (w : World) :
  CallsD Tryz.prog 86 #[.pointer (some ⟨g, 0, none⟩)] .returning w fun e u' w' => e = .returned (.tuple #[]) ∧ u' = .returning ∧ w' = w := by
 refine callsD_of_wpS Tryz.func86 rfl fun c₀ cs hu => ?_
 apply wpS_seq
 apply wpS_region
 simp [wpOpsS, go_sem, recoverD, hu, Tryz.ntmps86, Exit.thenS]
 refine wpS_rest c₀.mode ?_
 rw [hu]
 simp only [Array.replicate_succ, Array.replicate_zero, List.push_toArray, List.append_toArray, List.nil_append, List.cons_append, List.setIfInBounds_toArray, List.set]
 go_wp2_with fail
 go_end0
 exact ⟨rfl, trivial, rfl⟩
end Go.Proofs.YtceggplnggkdnaaGreatDoor
