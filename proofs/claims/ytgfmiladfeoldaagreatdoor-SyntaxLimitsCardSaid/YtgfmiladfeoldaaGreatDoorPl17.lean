/- Joined texts of this claim's proof: DecH, NumP, RefNum, RefNum2, RefNum3, LexPure4, RefNum4, DecT. -/
import Derived.Test.YtgfmiladfeoldaaGreatDoorPl16
import Derived.Lib.IndexMore
import Derived.Test.YtgfmiladfeoldaaGreatDoorPl1
import Derived.Test.YtgfmiladfeoldaaGreatDoorPl2
import Derived.Handy
import Derived.WalkSpells
import Derived.Laws.BytesString
set_option linter.unusedSimpArgs false
set_option linter.unusedVariables false
namespace Go.Proofs.YtgfmiladfeoldaaGreatDoor
open Go.RowKit NatP LexP
def PW (w : World) (R : Nat) (og : Option Nat) (pv : Value) (np : Nat) : Prop := ∃ gp cap, (0 < np → pv = .slice (some ⟨gp, 0, none⟩) np cap ∧ np ≤ cap ∧ cap ≤ maxLen ∧ gp < w.heap.size ∧ gp ≠ R ∧ og ≠ some gp) ∧
 ∀ i, i < np → ∃ v bs, w.cell? ⟨gp, i, none⟩ = some v ∧ Rd w v bs ∧ val bs = UU ^ 2 ^ i ∧ bs.length ≤ 274877906944 ∧ 2 ^ i ≤ 34359738368 ∧ ∀ q, v.ownBlock = some q → q ≠ R ∧ og ≠ some q
theorem PW.wr {w w' : World} {R : Nat} {og og' : Option Nat} {pv : Value} {np : Nat} (h : PW w R og pv np) (hw : Wr R og w w') (hm : Mv w og og') : PW w' R og' pv np := by
 obtain ⟨gp, cap, h1, h2⟩ := h
 refine ⟨gp, cap, fun h0 => ?_, fun i hi => ?_⟩
 ·obtain ⟨a1, a2, a3, a4, a5, a6⟩ := h1 h0
  refine ⟨a1, a2, a3, Nat.lt_of_lt_of_le a4 hw.size, a5, fun e => ?_⟩
  rcases hm gp e with h | h
  ·exact a6 h
  ·omega
 ·obtain ⟨a1, a2, a3, a4, a5, a6⟩ := h1 (by omega)
  obtain ⟨v, bs, b1, b2, b3, b4, b5, b6⟩ := h2 i hi
  refine ⟨v, bs, (World.cell?_of_block (hw.block gp a4 a5 (fun e => a6 e.symm))).trans b1, b2.wr hw (fun k hk => b6 k hk), b3, b4, b5, fun q hq => ⟨(b6 q hq).1, fun e => ?_⟩⟩
  rcases hm q e with h | h
  ·exact (b6 q hq).2 h
  ·have := b2.1 q hq; omega
theorem PW.below {w w' : World} {R : Nat} {og : Option Nat} {pv : Value} {np : Nat} (h : PW w R og pv np) (hb : Below w.heap.size w w') : PW w' R og pv np := h.wr (Wr.of_below hb) (Mv.refl _ _)
def HalvesOk (k np : Nat) : Prop := ∀ (R width : Nat) (v pv ov : Value) (xs : List Nat) (out : Bytes) (w : World), WS w R pv ov out → SG w → PW w R ov.ownBlock pv np → Rd w v xs → (∀ q, v.ownBlock = some q → q ≠ R ∧ ov.ownBlock ≠ some q) → xs.length ≤ 17179869184 → out.length + (pad (val xs) width).length ≤ 274877906944 →
 Calls Tryz.prog 216 #[.pointer (some ⟨R, 0, none⟩), v, .int .i64 ((k : Int) - 1), .int .i64 (width : Nat)] w (WsPost w R pv ov out ((pad (val xs) width).map sgn))
set_option maxRecDepth 100000 in
set_option maxHeartbeats 4000000 in
theorem halves_zero (np : Nat) : HalvesOk 0 np := by
 intro R width v pv ov xs out w h hs hp hv hne hl hb
 have HS := Lib.hid h
 have HSG := Lib.hid hs
 have HV := Lib.hid hv
 have hw : width ≤ 274877906944 := by rw [pad_len] at hb; omega
 have ho : out.length ≤ 274877906944 := by omega
 have HW := Lib.hid hw
 have HO := Lib.hid ho
 have hi1 : decide (((0 : Nat) : Int) - 1 < 0) = true := by decide
 clear h hs hp hv hne hb hw ho
 go_enter Tryz.func216, Tryz.ntmps216
 go_wp2_with fail
 refine (plain_any R width _ pv ov xs out _ HS.out HSG.out HV.out hl HW.out HO.out).mono ?_
 rintro e w1 ⟨ov1, rfl, r1, r2, r3⟩
 have HR := Lib.hid (And.intro r1 (And.intro r2 r3))
 clear r1 r2 r3
 go_wp2_with fail
 go_end0
 exact ⟨ov1, rfl, HR.out.1, HR.out.2.1, HR.out.2.2⟩
set_option maxRecDepth 100000 in
set_option maxHeartbeats 4000000 in
theorem halves_succ (k np : Nat) (hk : k < np) (IH : HalvesOk k np) : HalvesOk (k + 1) np := by
 intro R width v pv ov xs out w h hs hp hv hne hl hb
 have HS := Lib.hid h
 have HSG := Lib.hid hs
 have HP := Lib.hid hp
 have HV := Lib.hid hv
 have HNE := Lib.hid hne
 have HBD := Lib.hid hb
 have HI := Lib.hid IH
 have hw : width ≤ 274877906944 := by rw [pad_len] at hb; omega
 have ho : out.length ≤ 274877906944 := by omega
 obtain ⟨ao, cap, rfl, hnc, hcm, hok, -⟩ := hv.2
 have hkk : (((k + 1 : Nat) : Int) - 1) = (k : Int) := by omega
 rw [hkk]
 have hi1 : decide ((k : Int) < 0) = false := by simp
 have hRlt := h.lt
 clear h hs hp hv hne hb hok hcm hkk IH
 by_cases h12 : xs.length ≤ 12
 ·have hi2 : decide ((xs.length : Int) ≤ 12) = true := by simp; omega
  clear h12
  go_enter Tryz.func216, Tryz.ntmps216
  go_wp2_with fail
  refine (plain_any R width _ pv ov xs out _ HS.out HSG.out HV.out hl hw ho).mono ?_
  rintro e w1 ⟨ov1, rfl, r1, r2, r3⟩
  have HR := Lib.hid (And.intro r1 (And.intro r2 r3))
  clear r1 r2 r3
  go_wp2_with fail
  go_end0
  exact ⟨ov1, rfl, HR.out.1, HR.out.2.1, HR.out.2.2⟩
 ·have hi2 : decide ((xs.length : Int) ≤ 12) = false := by simp; omega
  obtain ⟨gp, pcap, hp1, hp2⟩ := HP.out
  obtain ⟨rfl, hpc, hpm, hgl, hgR, hgo⟩ := hp1 (by omega)
  obtain ⟨bv, bs, cb, hbr, hbval, hbl, hb2, hbn⟩ := hp2 k hk
  have hk64 : k < 64 := by
   have h1 : 2 ^ k < 2 ^ 36 := Nat.lt_of_le_of_lt hb2 (by decide)
   have := (Nat.pow_lt_pow_iff_right (a := 2) (by omega)).1 h1
   omega
  have HBR := Lib.hid hbr
  have HBV := Lib.hid hbval
  have c3 := HS.out.cell.2.2.2.1
  have c1 := HS.out.cell.2.1
  have hj0 : (0 : Int) ≤ (k : Int) := Int.natCast_nonneg _
  have hj1 : (k : Int) < (np : Int) := by omega
  obtain ⟨P, hP⟩ : ∃ P, P = UU ^ 2 ^ k := ⟨_, rfl⟩
  rw [← hP] at hbval
  have hP0 : 0 < P := by rw [hP]; exact Nat.pow_pos UU_pos
  have HP0 := Lib.hid hP0
  have HPE := Lib.hid hP
  have HBN := Lib.hid hbn
  clear hp1 hp2 hbr hgl hgR hgo h12 hP0 hP hbn
  by_cases hlt : val xs < val bs
  ·have HC := Lib.hid (cmpI_lt hlt)
   clear hlt hbval
   go_enter Tryz.func216, Tryz.ntmps216
   go_wp2_with fail
   refine (cmp_any _ _ xs bs _ HV.out HBR.out).mono ?_
   rintro e w1 ⟨rfl, hb1⟩
   rw [HC.out]
   have HB1 := Lib.hid hb1
   clear hb1 c3 c1 cb
   go_wp2_with fail
   refine (HI.out R width _ _ ov xs out _ (HS.out.below HB1.out) (HSG.out.below HB1.out (by have := HS.out.big; omega)) (HP.out.below HB1.out) (HV.out.below HB1.out) HNE.out hl HBD.out).mono ?_
   rintro e w2 ⟨ov1, rfl, r1, r2, r3⟩
   have HR := Lib.hid (And.intro r1 (And.intro r2 r3))
   clear r1 r2 r3
   go_wp2_with fail
   go_end0
   exact ⟨ov1, rfl, HR.out.1, (Wr.of_below HB1.out).trans (Mv.refl _ _) HR.out.2.1, fun q hq => (HR.out.2.2 q hq).imp id (fun h => Nat.le_trans HB1.out.size h)⟩
  ·obtain ⟨c, hc⟩ : ∃ c, c = cmpI (val xs) (val bs) := ⟨_, rfl⟩
   have hcb : decide (c < 0) = false := by
    rw [hc]
    unfold cmpI
    rw [if_neg hlt]
    split <;> decide
   have HC := Lib.hid hc
   obtain ⟨lw, hlw⟩ : ∃ lw, lw = 19 * 2 ^ k := ⟨_, rfl⟩
   have S1 : IntKind.u64.wrap (k : Int) = (k : Int) := u64_in _ (by omega)
   have S2 : min k 64 = k := by omega
   have S3 : IntKind.i64.wrap (19 * 2 ^ k) = (lw : Int) := by
    have e : (19 * 2 ^ k : Int) = ((19 * 2 ^ k : Nat) : Int) := by rw [Int.natCast_mul, Int.natCast_pow]; rfl
    rw [e, ← hlw]; exact IntWalk.i64_in _ (by omega)
   obtain ⟨w1', hw1'⟩ : ∃ w1', w1' = width - lw := ⟨_, rfl⟩
   have S4 : max ((width : Int) - (lw : Int)) 0 = (w1' : Int) := by omega
   have hlwb : lw ≤ 652835028992 := by omega
   have hPl : P = 10 ^ lw := by rw [HPE.out, hlw, UU_def, ← Nat.pow_mul]
   have hpq : ∀ q r, q = val xs / val bs → r = val xs % val bs → pad (val xs) width = pad q w1' ++ pad r lw ∧ r < 10 ^ lw := by
    intro q r hq hr
    have hbv : val bs = 10 ^ lw := by rw [hbval, hPl]
    have hb0 : 0 < val bs := by rw [hbval]; exact HP0.out
    have hr2 : r < 10 ^ lw := by rw [hr, ← hbv]; exact Nat.mod_lt _ hb0
    have hq0 : 0 < q := by rw [hq]; exact Nat.div_pos (Nat.le_of_not_lt hlt) hb0
    have e : val xs = q * 10 ^ lw + r := by rw [hq, hr, ← hbv, Nat.mul_comm]; exact (Nat.div_add_mod _ _).symm
    refine ⟨?_, hr2⟩
    rw [e, pad_split hq0 hr2, pad_fw hr2, hw1']
   have HPQ := Lib.hid hpq
   have hb0 : 0 < val bs := by rw [hbval]; exact HP0.out
   have HB0 := Lib.hid hb0
   clear hlt hbval hc hlw hb2 hw1' hPl hpq hb0
   go_enter Tryz.func216, Tryz.ntmps216
   go_wp2_with fail
   refine (cmp_any _ _ xs bs _ HV.out HBR.out).mono ?_
   rintro e w1 ⟨rfl, hb1⟩
   rw [← HC.out]
   have HB1 := Lib.hid hb1
   have hz1 := hb1.size
   have HS1 := Lib.hid (HS.out.below hb1)
   have c3' := HS1.out.cell.2.2.2.1
   have c1' := HS1.out.cell.2.1
   have cb' : w1.cell? ⟨gp, k, none⟩ = some bv := by rw [hb1.cell (p := ⟨gp, k, none⟩) (World.block_lt_of_cell? w _ cb)]; exact cb
   clear hb1 c3 c1 cb
   go_wp2_with fail
   refine (divMod_any _ _ xs bs _ (HV.out.below HB1.out) (HBR.out.below HB1.out) (by omega) hbl HB0.out).mono ?_
   rintro e w2 ⟨qv, rv, qs, rs, rfl, q1, q2, q3, q4, r1, r2, r3, r4, hb2⟩
   obtain ⟨p1, p2⟩ := HPQ.out _ _ q2 r2
   have HB2 : Hid (Below w.heap.size w w2) := HB1.out.trans (hb2.mono hz1)
   have HS2 := Lib.hid (HS1.out.below hb2)
   have c1 := HS2.out.cell.2.1
   have Q1 := Lib.hid q1
   have R1 := Lib.hid r1
   have hql : qs.length ≤ 17179869184 := by omega
   have hrl : rs.length ≤ 17179869184 := by
    have h1 : val rs < BB ^ xs.length := by
     refine Nat.lt_of_le_of_lt ?_ (val_lt HV.out.ok)
     rw [r2]; exact Nat.mod_le _ _
    have h2 := strip_len_of_lt rs xs.length h1
    rw [r4] at h2; omega
   have HPA := Lib.hid p1
   have hbd := HBD.out
   rw [p1, List.length_append] at hbd
   have HBD2 := Lib.hid hbd
   have hov : ∀ q, ov.ownBlock = some q → q < w.heap.size := fun q hq => (HS.out.ne q hq).2
   have HOV := Lib.hid hov
   clear q1 q2 q3 q4 r1 r2 r3 r4 hb2 c3' c1' cb' p1 p2 hbd hov
   go_wp2_with fail
   refine (HI.out R w1' _ _ ov qs out _ HS2.out (HSG.out.below HB2.out (by have := HS.out.big; omega)) (HP.out.below HB2.out) Q1.out.1 (fun q hq => by
    have h1 := (Q1.out.2 q hq).1
    refine ⟨by omega, fun e => ?_⟩
    have := HOV.out q e
    omega) hql (by have := HBD2.out; omega)).mono ?_
   rintro e w3 ⟨ov1, rfl, a1, a2, a3⟩
   have A1 := Lib.hid a1
   have A2 := Lib.hid a2
   have A3 := Lib.hid a3
   have HSG3 : Hid (SG w3) := (HSG.out.below HB2.out (by have := HS.out.big; omega)).wr a2 (by have := HS.out.big; omega) (fun e => by have := HOV.out _ e; have := HS.out.ne _ e; have := HS.out.big; omega)
   have HP3 := Lib.hid ((HP.out.below HB2.out).wr a2 a3)
   have HR3 : Hid (Rd w3 rv rs) := R1.out.1.wr a2 (fun q hq => by
    have h1 := (R1.out.2 q hq).1
    refine ⟨by omega, fun e => ?_⟩
    have := HOV.out q e
    omega)
   have hrne : ∀ q, rv.ownBlock = some q → q ≠ R ∧ ov1.ownBlock ≠ some q := fun q hq => by
    have h1 := R1.out.2 q hq
    refine ⟨by omega, fun e => ?_⟩
    rcases a3 q e with h | h
    ·have := HOV.out q h; omega
    ·omega
   have HRN := Lib.hid hrne
   clear a1 a2 a3 c1 hrne
   go_wp2_with fail
   refine (HI.out R lw _ _ ov1 rs _ _ A1.out HSG3.out HP3.out HR3.out HRN.out hrl (by rw [List.length_append, List.length_map]; have := HBD2.out; omega)).mono ?_
   rintro e w4 ⟨ov2, rfl, b1, b2, b3⟩
   have HFIN := Lib.hid (And.intro b1 (And.intro b2 b3))
   clear b1 b2 b3
   go_wp2_with fail
   go_end0
   obtain ⟨b1, b2, b3⟩ := HFIN.out
   rw [List.append_assoc, ← List.map_append, ← HPA.out] at b1
   refine ⟨ov2, rfl, b1, (Wr.of_below HB2.out).trans (Mv.refl _ _) (A2.out.trans A3.out b2), ?_⟩
   have m1 : Mv w ov.ownBlock ov1.ownBlock := fun q hq => (A3.out q hq).imp id (fun h => Nat.le_trans HB2.out.size h)
   exact Mv.trans (R := R) (w' := w3) m1 (Nat.le_trans HB2.out.size A2.out.size) b3
theorem whalves_any (np : Nat) : ∀ k, k ≤ np → HalvesOk k np := by
 intro k
 induction k with
 | zero => intro _; exact halves_zero np
 | succ k ih => intro h; exact halves_succ k np h (ih (by omega))
end Go.Proofs.YtgfmiladfeoldaaGreatDoor
namespace NumP
def isDig (c : UInt8) : Bool := 48 ≤ c.toNat && c.toNat ≤ 57
end NumP
namespace Go.Proofs.YtgfmiladfeoldaaGreatDoor
open Go.RowKit LexP NumP
theorem Tryz.infoInt : (Tryz.prog.info? 3).map (fun i => (i.zero, i.size, i.bytes)) = some (some (.int .i64 0), 1, 8) := by kernel_rfl
end Go.Proofs.YtgfmiladfeoldaaGreatDoor
namespace Go.Proofs.YtgfmiladfeoldaaGreatDoor
open Go.RowKit LexP NumP
end Go.Proofs.YtgfmiladfeoldaaGreatDoor
namespace Go.Proofs.YtgfmiladfeoldaaGreatDoor
open Go.RowKit LexP NumP
end Go.Proofs.YtgfmiladfeoldaaGreatDoor
namespace LexP
open Go.Lib
def usBad (t : Bytes) (i : Nat) : Bool := t[i]? == some 95 && (i == 0 || decide (t.length ≤ i + 1) || t[i - 1]? == some 95 || t[i + 1]? == some 95)
def anyBad (t : Bytes) : Bool := (List.range t.length).any (usBad t)
theorem anyBad_iff (t : Bytes) : anyBad t = true ↔ ∃ i, i < t.length ∧ usBad t i = true := by
 simp [anyBad, List.any_eq_true]
theorem occ_two (t : Bytes) (j : Nat) : occAt t [95, 95] j = true ↔ t[j]? = some 95 ∧ t[j + 1]? = some 95 := by
 unfold occAt
 rw [List.isPrefixOf_iff_prefix]
 have h0 : (t.drop j)[0]? = t[j]? := by rw [List.getElem?_drop]; rfl
 have h1 : (t.drop j)[1]? = t[j + 1]? := by rw [List.getElem?_drop]
 rw [← h0, ← h1]
 match t.drop j with
 | [] => simp
 | [a] => simp
 | a :: b :: r => simp; constructor <;> (rintro ⟨rfl, rfl⟩; exact ⟨rfl, rfl⟩)
theorem contains_iff (t sub : Bytes) (hs : sub ≠ []) : contains t sub = true ↔ ∃ j, occAt t sub j = true := by
 unfold contains
 rw [decide_eq_true_eq]
 constructor
 ·intro h
  apply Classical.byContradiction
  intro hn
  have : index t sub = -1 := index_none fun j _ => by
   cases ho : occAt t sub j with
   | false => rfl
   | true => exact absurd ⟨j, ho⟩ hn
  omega
 ·rintro ⟨j, hj⟩
  have key : ∀ n, (∃ j, j < n ∧ occAt t sub j = true) → ∃ i, occAt t sub i = true ∧ ∀ k, k < i → occAt t sub k = false := by
   intro n
   induction n with
   | zero => rintro ⟨j, h, _⟩; omega
   | succ n ih =>
    rintro ⟨j, h1, h2⟩
    by_cases h : ∃ j, j < n ∧ occAt t sub j = true
    ·exact ih h
    ·have hjn : j = n := by
      apply Classical.byContradiction
      intro hc
      exact h ⟨j, by omega, h2⟩
     subst hjn
     refine ⟨j, h2, fun k hk => ?_⟩
     cases ho : occAt t sub k with
     | false => rfl
     | true => exact absurd ⟨k, hk, ho⟩ h
  obtain ⟨i, h1, h2⟩ := key (j + 1) ⟨j, by omega, hj⟩
  have hle : i ≤ t.length := by
   rcases occAt_room h1 with h | h
   ·omega
   ·exact absurd h hs
  rw [index_first hle h1 h2]
  omega
theorem suffix_iff (t : Bytes) : hasSuffix t [95] = true ↔ ∃ i, t.length = i + 1 ∧ t[i]? = some 95 := by
 unfold hasSuffix
 rw [List.isSuffixOf_iff_suffix]
 constructor
 ·rintro ⟨q, rfl⟩
  exact ⟨q.length, by simp, by simp⟩
 ·rintro ⟨i, h1, h2⟩
  refine ⟨t.take i, ?_⟩
  have := List.take_add_one (l := t) (i := i)
  rw [h2, ← h1, List.take_length] at this
  exact this.symm
theorem badNum_anyBad {t : Bytes} (h0 : t[0]? ≠ some 95) : badNum t = anyBad t := by
 rw [Bool.eq_iff_iff, anyBad_iff]
 unfold badNum
 rw [Bool.or_eq_true, suffix_iff, contains_iff t [95, 95] (by simp)]
 constructor
 ·rintro (⟨i, h1, h2⟩ | ⟨j, hj⟩)
  ·have h3 : decide (t.length ≤ i + 1) = true := decide_eq_true (by omega)
   exact ⟨i, by omega, by simp only [usBad, h2, h3, beq_self_eq_true, Bool.true_and, Bool.or_true, Bool.true_or]⟩
  ·rw [occ_two] at hj
   have : j < t.length := (List.getElem?_eq_some_iff.1 hj.1).1
   exact ⟨j, this, by simp only [usBad, hj.1, hj.2, beq_self_eq_true, Bool.true_and, Bool.or_true]⟩
 ·rintro ⟨i, h1, h2⟩
  simp only [usBad, Bool.and_eq_true, beq_iff_eq, Bool.or_eq_true, decide_eq_true_eq] at h2
  obtain ⟨ha, ((hb | hb) | hb) | hb⟩ := h2
  ·subst hb; exact absurd ha h0
  ·exact .inl ⟨i, by omega, ha⟩
  ·have : i ≠ 0 := by rintro rfl; exact h0 ha
   exact .inr ⟨i - 1, by rw [occ_two]; exact ⟨hb, by rw [show i - 1 + 1 = i from by omega]; exact ha⟩⟩
  ·exact .inr ⟨i, by rw [occ_two]; exact ⟨ha, hb⟩⟩
def numRun (t : Bytes) : Prop := ∀ c ∈ t, NumP.isDig c = true ∨ c = 95
end LexP
namespace Go.Proofs.YtgfmiladfeoldaaGreatDoor
open Go.RowKit LexP NumP
def byCells (l : Bytes) : List Value := l.map fun c => .int .u8 (c.toNat : Nat)
theorem byCells_append (a b : Bytes) : byCells (a ++ b) = byCells a ++ byCells b := by simp [byCells]
theorem Tryz.infoU8 : (Tryz.prog.info? 5).map (fun i => (i.zero, i.size, i.bytes)) = some (some (.int .u8 0), 1, 1) := by kernel_rfl
def OwnB (B : Nat) (w : World) (v : Value) (ds : Bytes) : Prop := w.ownsRow B 5 1 v ds.length (byCells ds)
theorem push_all : ∀ (l : Bytes) (s : ByteArray), (l.map fun c => ((c.toNat : Nat) : Int)).foldl (fun r n => r.push (UInt8.ofNat n.toNat)) s = ⟨s.data ++ l.toArray⟩ := by
 intro l
 induction l with
 | nil => intro s; simp
 | cons c l ih =>
  intro s
  simp only [List.map_cons, List.foldl_cons, Int.toNat_natCast, UInt8.ofNat_toNat]
  rw [ih]
  show (⟨s.data.push c ++ l.toArray⟩ : ByteArray) = _
  congr 1
  simp
theorem run_text {B : Nat} {w : World} {v : Value} {l : Bytes} (h : OwnB B w v l) : (convert 88 9 v).run Tryz.prog w = .ok (.string ⟨l.toArray⟩) w := by
 rcases ownsRow_open h with ⟨rfl, hn, hx⟩ | ⟨g, cap, rfl, -, -, -, -, -⟩
 ·rw [run_convert_bytes_string w _ _ 5 none 0 0 Tryz.underlying88 Tryz.underlying5 Tryz.underlying9]
  obtain rfl : l = [] := List.eq_nil_of_length_eq_zero hn
  rfl
 ·rw [run_convert_bytes_string w _ _ 5 _ _ _ Tryz.underlying88 Tryz.underlying5 Tryz.underlying9]
  have hc := h.cells (g := g) rfl
  have hl := run_loadCells_list (P := Tryz.prog) (w := w) ⟨g, 0, none⟩ (byCells l) hc
  have e : byCells l = (l.map fun c => ((c.toNat : Nat) : Int)).map (Value.int .u8) := by simp [byCells]
  have hn : (byCells l).length = l.length := by simp [byCells]
  rw [hn, e] at hl
  rw [run_bytesToString w ⟨g, 0, none⟩ l.length cap _ hl, push_all]
  congr 2
  simp
end Go.Proofs.YtgfmiladfeoldaaGreatDoor
namespace Go.Proofs.YtgfmiladfeoldaaGreatDoor
open Go.RowKit NatP LexP
def decTx (n : Nat) : Bytes := if n = 0 then [48] else (dg n).map sgn
def TextPost (n : Nat) (w : World) (e : Ending) (w' : World) : Prop := e = .returned (.tuple #[.string ⟨(decTx n).toArray⟩, .int .i64 0]) ∧ Below w.heap.size w w'
theorem Tryz.infoWs : (Tryz.prog.info? 59).map (fun i => (i.zero, i.size, i.bytes)) = some (some (.slice none 0 0), 1, 24) := by kernel_rfl
theorem WS.made (w : World) (h : 4 < w.heap.size) : WS (w.alloc (.cells #[.int .i64 10, .int .i64 19, .int .u64 10000000000000000000, .slice none 0 0, .slice none 0 0] 216)) w.heap.size (.slice none 0 0) (.slice none 0 0) [] :=
 ⟨heap_alloc_new w _, World.ownsRow_nil _ _ _ _, h⟩
theorem pad_nil (n : Nat) : pad n 0 = dg n := by unfold pad; simp
set_option maxRecDepth 100000 in
set_option maxHeartbeats 4000000 in
theorem text_short (v : Value) (xs : List Nat) (w : World) (hs : SG w) (hv : Rd w v xs) (hl : (strip xs).length ≤ 12) (hl2 : xs.length ≤ 17179869184) :
  Calls Tryz.prog 169 #[v, .int .i64 10] w (TextPost (val xs) w) := by
 have HV := Lib.hid hv
 have HSG := Lib.hid hs
 obtain ⟨X, hX⟩ : ∃ X, X = strip xs := ⟨_, rfl⟩
 have hXv : val X = val xs := by rw [hX, val_strip]
 have hsz : 4 < w.heap.size := World.block_lt_of_cell? w _ (hs 0 (by omega))
 rw [← hX] at hl
 obtain ⟨n, hn⟩ : ∃ n, n = X.length := ⟨_, rfl⟩
 rw [← hn] at hl
 have HX := Lib.hid hX
 have HXV := Lib.hid hXv
 have HN := Lib.hid hn
 clear hv hs hX hXv hn
 by_cases h0 : n = 0
 ·have hb : ((n : Int) == 0) = true := by simp [h0]
  have HZ : Hid (decTx (val xs) = [48]) := by
   have hX0 : X = [] := List.eq_nil_of_length_eq_zero (by rw [← HN.out]; exact h0)
   show _ = _
   rw [← HXV.out, hX0]; rfl
  clear h0
  go_enter Tryz.func169, Tryz.ntmps169
  go_wp2_with fail
  refine (least_blk _ xs _ HV.out (by omega)).mono ?_
  rintro e w1 ⟨rfl, hB, hb1⟩
  rw [← HX.out, ← HN.out]
  have HB1 := Lib.hid hb1
  clear hB hb1
  go_wp2_with fail
  go_ret2
  exact ⟨by rw [HZ.out]; rfl, HB1.out⟩
 ·have hb : ((n : Int) == 0) = false := by simp [h0]
  have hb12 : decide (12 < n) = false := by simp; omega
  have hpos : val xs ≠ 0 := fun e => by
   have h1 : (strip xs).length = 0 := by
    have := strip_len_of_lt xs 0 (by rw [e]; simp)
    omega
   rw [← HX.out, ← HN.out] at h1
   exact h0 h1
  have HD : Hid (decTx (val xs) = (pad (val X) 0).map sgn) := by
   show _ = _
   unfold decTx
   rw [if_neg hpos, pad_nil, HXV.out]
  clear h0 hpos
  go_enter Tryz.func169, Tryz.ntmps169
  go_wp2_with fail
  refine (least_blk _ xs _ HV.out (by omega)).mono ?_
  rintro e w1 ⟨rfl, hB, hb1⟩
  rw [← HX.out] at hB ⊢
  have HB := Lib.hid hB
  have HB1 := Lib.hid hb1
  rw [← HN.out]
  clear hB hb1
  go_wp2_with fail
  refine (piece_ten _).mono ?_
  rintro e w2 ⟨rfl, rfl⟩
  go_wp2_with fail
  have hsg1 := HSG.out.below HB1.out hsz
  have hb2 := below_alloc w1 (.cells #[.int .i64 10, .int .i64 19, .int .u64 10000000000000000000, .slice none 0 0, .slice none 0 0] 216)
  have hsz1 : 4 < w1.heap.size := Nat.lt_of_lt_of_le hsz HB1.out.size
  have HW := Lib.hid (WS.made w1 hsz1)
  have HSG2 := Lib.hid (hsg1.below hb2 hsz1)
  have HR := Lib.hid ((HB.out.whole (by rw [← HN.out]; omega)).below hb2)
  rw [← HN.out] at HR
  have HB2 : Hid (Below w.heap.size w (w1.alloc (.cells #[.int .i64 10, .int .i64 19, .int .u64 10000000000000000000, .slice none 0 0, .slice none 0 0] 216))) := HB1.out.trans (hb2.mono HB1.out.size)
  have hlen : ([] : Bytes).length + (pad (NatP.val X) 0).length ≤ 274877906944 := by
   have h1 : NatP.val X < BB ^ n := by rw [HN.out]; exact val_lt HB.out.2
   have := dg_len_BB h1
   rw [pad_nil]; simp only [List.length_nil]; omega
  have HLEN := Lib.hid hlen
  have hz1 := HB1.out.size
  clear hsg1 hb2 hlen
  refine (whalves_any 0 0 (Nat.le_refl _) w1.heap.size 0 _ (.slice none 0 0) (.slice none 0 0) X [] _ HW.out HSG2.out ⟨0, 0, fun h => by omega, fun i h => by omega⟩ HR.out (fun q hq => by cases hq; have := HB.out.lt; exact ⟨by show w.heap.size ≠ w1.heap.size; omega, by simp [Value.ownBlock]⟩) (by rw [← HN.out]; omega) HLEN.out).mono ?_
  rintro e w3 ⟨ov, rfl, r1, r2, r3⟩
  rw [List.nil_append, ← HD.out] at r1
  have c4 := r1.cell.2.2.2.2.1
  have htx := run_text (B := w1.heap.size + 1) (w := w3) (v := ov) (l := decTx (NatP.val xs)) r1.own
  have HB3 : Hid (Below w.heap.size w w3) := r2.to_below HB2.out HB2.out.size (by omega) (fun k hk => by cases hk)
  clear r1 r2 r3
  go_wp2_with fail
  go_ret2
  exact ⟨rfl, HB3.out⟩
end Go.Proofs.YtgfmiladfeoldaaGreatDoor
