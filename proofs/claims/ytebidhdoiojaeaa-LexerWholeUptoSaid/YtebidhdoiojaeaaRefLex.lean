/- Walks of the document's lexer: next, Char. -/
import Derived.Test.YtebidhdoiojaeaaLexW4
import Derived.Test.YtebidhdoiojaeaaLexPure5
namespace Go.Proofs.Ytebidhdoiojaeaa
open Go.RowKit LexP

theorem ret3 {a b c a' b' c' : Int} (h1 : a = a') (h2 : b = b') (h3 : c = c') : Ending.returned (.tuple #[.int .i64 a, .int .i64 b, .int .i64 c]) = .returned (.tuple #[.int .i64 a', .int .i64 b', .int .i64 c']) := by rw [h1, h2, h3]
theorem ret2 {a b a' b' : Int} (h1 : a = a') (h2 : b = b') : Ending.returned (.tuple #[.int .i64 a, .int .i64 b]) = .returned (.tuple #[.int .i64 a', .int .i64 b']) := by rw [h1, h2]

set_option maxRecDepth 100000 in
set_option maxHeartbeats 1000000 in
theorem ref_next (b : Nat) (w : World) (hb : b < 256) :
    Calls Try.prog 52 #[.int .u8 (b : Nat)] w fun e w' => e = .returned (.tuple #[.int .i64 ((nxt b).1 : Nat), .int .i64 ((nxt b).2.1 : Nat), .int .i64 ((nxt b).2.2 : Nat)]) ∧ w = w' := by
  have G : b < 128 ∨ (128 ≤ b ∧ b < 192) ∨ (192 ≤ b ∧ b < 224) ∨ (224 ≤ b ∧ b < 240) ∨ (240 ≤ b ∧ b < 248) ∨ 248 ≤ b := by omega
  rcases G with G | G | G | G | G | G
  · have e : nxt b = (1, b, 0) := by unfold nxt; rw [if_pos (by omega)]
    rw [e]; clear e
    go_enter Try.func52, Try.ntmps52
    go_wp2_with fail
    go_ret3
    exact ⟨ret3 rfl (by omega) rfl, rfl⟩
  · have e : nxt b = (0, 0, 0) := by unfold nxt; rw [if_neg (by omega), if_neg (by omega), if_neg (by omega), if_neg (by omega)]
    rw [e]; clear e
    go_enter Try.func52, Try.ntmps52
    go_wp2_with fail
    go_ret3
    exact ⟨ret3 rfl rfl rfl, rfl⟩
  · have e : nxt b = (2, b % 32, 128) := by unfold nxt; rw [if_neg (by omega), if_pos (by omega)]
    rw [e]; clear e
    go_enter Try.func52, Try.ntmps52
    go_wp2_with fail
    go_ret3
    exact ⟨ret3 rfl (by omega) rfl, rfl⟩
  · have e : nxt b = (3, b % 16, 2048) := by unfold nxt; rw [if_neg (by omega), if_neg (by omega), if_pos (by omega)]
    rw [e]; clear e
    go_enter Try.func52, Try.ntmps52
    go_wp2_with fail
    go_ret3
    exact ⟨ret3 rfl (by omega) rfl, rfl⟩
  · have e : nxt b = (4, b % 8, 65536) := by unfold nxt; rw [if_neg (by omega), if_neg (by omega), if_neg (by omega), if_pos (by omega)]
    rw [e]; clear e
    go_enter Try.func52, Try.ntmps52
    go_wp2_with fail
    go_ret3
    exact ⟨ret3 rfl (by omega) rfl, rfl⟩
  · have e : nxt b = (0, 0, 0) := by unfold nxt; rw [if_neg (by omega), if_neg (by omega), if_neg (by omega), if_neg (by omega)]
    rw [e]; clear e
    go_enter Try.func52, Try.ntmps52
    go_wp2_with fail
    go_ret3
    exact ⟨ret3 rfl rfl rfl, rfl⟩

theorem byte_at (s : ByteArray) (i k : Nat) (h : i + k < s.size) : (s.data.toList.drop i)[k]? = some s[i + k] := by
  have h2 : i + k < s.data.toList.length := by rw [← Lib.size_eq]; exact h
  rw [List.getElem?_drop, List.getElem?_eq_getElem h2]; rfl

def CharPost (l : Bytes) (w : World) (e : Ending) (w' : World) : Prop :=
  e = .returned (.tuple #[.int .i64 ((charRes l).1 : Nat), .int .i64 ((charRes l).2 : Nat)]) ∧ w = w'

set_option maxRecDepth 100000 in
set_option maxHeartbeats 1000000 in
theorem ref_char (s : ByteArray) (i : Nat) (w : World) (hs : s.size ≤ 1048576) (hi : i < s.size) :
    Calls Try.prog 31 #[.string s, .int .i64 (i : Nat)] w (CharPost (s.data.toList.drop i) w) := by
  have hsz : s.size = s.data.toList.length := Lib.size_eq s
  have hdl : (s.data.toList.drop i).length = s.size - i := by rw [List.length_drop, hsz]
  have h0 := byte_at s i 0 (by omega)
  obtain ⟨t, ht⟩ : ∃ t, s.data.toList.drop i = s[i] :: t := by
    cases hl : s.data.toList.drop i with
    | nil => rw [hl] at h0; simp at h0
    | cons b t => rw [hl] at h0; simp at h0; exact ⟨t, by rw [h0]⟩
  have HT : Hid (∀ k (h : i + (k + 1) < s.size), t[k]? = some s[i + (k + 1)]) := by
    intro k h
    have := byte_at s i (k + 1) h
    rw [ht] at this; simpa using this
  have htl : t.length + 1 = s.size - i := by rw [← hdl, ht]; simp
  rw [ht]
  have HP : Hid (∀ a b, charRes (s[i] :: t) = (a, b) → CharPost (s[i] :: t) w (.returned (.tuple #[.int .i64 (a : Nat), .int .i64 (b : Nat)])) w) := by
    intro a b h; exact ⟨by rw [h], rfl⟩
  have HN := Lib.hid (@charRes_none s[i] t)
  have HC := Lib.hid (@charRes_cut s[i] t)
  have HE := Lib.hid (fun v => @charRes_end s[i] t v)
  have hnx := nxt_le s[i].toNat
  have hlim := Lib.hid (fun j (h : j ≤ 4) => lim_le h)
  clear hdl ht h0 hsz
  go_enter Try.func31, Try.ntmps31
  go_wp2_with fail
  refine (ref_next s[i].toNat _ (by have := s[i].toNat_lt; omega)).mono ?_
  rintro e w' ⟨rfl, rfl⟩
  generalize nxt s[i].toNat = nv at *
  obtain ⟨n, v0, m⟩ := nv
  simp only at hnx HN HC HE ⊢
  by_cases hn0 : n = 0
  · have hn1 : ((n : Int) == 0) = true := by simp [hn0]
    have HF := Lib.hid (HN.out (.inl hn0))
    go_wp2_with fail
    go_ret2
    exact HP.out 0 0 HF.out
  · have hn1 : ((n : Int) == 0) = false := by simp [hn0]
    by_cases hlong : s.size < i + n
    · have HF := Lib.hid (HN.out (.inr (by omega)))
      go_wp2_with fail
      go_ret2
      exact HP.out 0 0 HF.out
    · have HN2 : Hid (¬ (n = 0 ∨ t.length + 1 < n)) := by show ¬ _; omega
      go_wp2_with fail
      go_loopw [7, 9] (fun sv sk wr => ∃ j vj : Nat, 1 ≤ j ∧ j ≤ n ∧ sk = .int .i64 (j : Nat) ∧ sv = .int .i64 (vj : Nat) ∧ contFold v0 (t.take (j - 1)) = some vj ∧ vj < lim j ∧ wr = w) (fun _ sk _ => n - (intOf sk).toNat)
      case atStart => exact ⟨1, v0, Nat.le_refl _, by omega, rfl, rfl, rfl, hnx.2.1, rfl⟩
      case round =>
        obtain ⟨j, vj, hj1, hjn, rfl, rfl, hf, hvl, rfl⟩ := hrel
        have hl1 := hlim.out j (by omega)
        have HF := Lib.hid hf
        have HVL := Lib.hid hvl
        have hvb : vj < 33554432 := by omega
        clear hf hvl hl1
        by_cases hlt : j < n
        · have hij : i + j < s.size := by omega
          have hb := s[i + j].toNat_lt
          have HB : Hid (t.take j = t.take (j - 1) ++ [s[i + j]]) := by
            show _ = _
            obtain ⟨q, rfl⟩ : ∃ q, j = q + 1 := ⟨j - 1, by omega⟩
            rw [List.take_add_one, HT.out q (by omega)]; rfl
          have HS := Lib.hid (contFold_snoc s[i + j] _ _ _ HF.out)
          rw [← HB.out] at HS
          by_cases hc : 128 ≤ s[i + j].toNat ∧ s[i + j].toNat < 192
          · have hic : isCont s[i + j] = true := by simp [isCont]; omega
            have HS2 : Hid (contFold v0 (t.take j) = some (64 * vj + s[i + j].toNat % 64)) := by show _ = _; rw [HS.out, if_pos hic]
            have HM : Hid (s[i + j].toNat % 64 = s[i + j].toNat - 128) := by show _ = _; omega
            have HL2 : Hid (64 * vj + s[i + j].toNat % 64 < lim (j + 1)) := by show _ < _; rw [lim_succ]; have := HVL.out; omega
            obtain ⟨hc1, hc2⟩ := hc
            clear HS HB hic
            go_wp2_with fail
            have e1 : Hid (Value.int .i64 (64 * (vj : Int) + (s[i + j].toNat : Int) - 128) = .int .i64 ((64 * vj + s[i + j].toNat % 64 : Nat) : Int)) := by show _ = _; congr 1; have := HM.out; omega
            refine ⟨⟨j + 1, 64 * vj + s[i + j].toNat % 64, by omega, by omega, by go_num, e1.out, HS2.out, HL2.out, trivial⟩, by simp [intOf]; omega⟩
          · have hic : isCont s[i + j] = false := by simp [isCont]; omega
            have HF0 := Lib.hid (HC.out j (by omega) (by rw [HS.out, hic]; rfl))
            have G : s[i + j].toNat < 128 ∨ 192 ≤ s[i + j].toNat := by omega
            clear HS HB hic hc
            rcases G with G | G
            all_goals
              go_wp2_with fail
              go_ret2
              exact HP.out 0 0 HF0.out
        · have hje : j = n := by omega
          subst hje
          have HE2 := Lib.hid (HE.out vj HN2.out HF.out)
          have G : vj < m ∨ (m ≤ vj ∧ 1114111 < vj) ∨ (m ≤ vj ∧ 55296 ≤ vj ∧ vj ≤ 57343) ∨ (m ≤ vj ∧ vj < 55296) ∨ (m ≤ vj ∧ 57343 < vj ∧ vj ≤ 1114111) := by omega
          clear HF HVL HE HT HC HN
          rcases G with G | G | G | G | G
          · have hbv : badV vj m = true := by simp [badV]; omega
            have HE3 : Hid (charRes (s[i] :: t) = (0, 0)) := by show _ = _; rw [HE2.out, hbv]; rfl
            clear hbv HE2
            go_wp2_with fail
            go_ret2
            exact HP.out 0 0 HE3.out
          · have hbv : badV vj m = true := by simp [badV]; omega
            have HE3 : Hid (charRes (s[i] :: t) = (0, 0)) := by show _ = _; rw [HE2.out, hbv]; rfl
            clear hbv HE2
            go_wp2_with fail
            go_ret2
            exact HP.out 0 0 HE3.out
          · have hbv : badV vj m = true := by simp [badV]; omega
            have HE3 : Hid (charRes (s[i] :: t) = (0, 0)) := by show _ = _; rw [HE2.out, hbv]; rfl
            clear hbv HE2
            go_wp2_with fail
            go_ret2
            exact HP.out 0 0 HE3.out
          · have hbv : badV vj m = false := by simp [badV]; omega
            have HE3 : Hid (charRes (s[i] :: t) = (vj, j)) := by show _ = _; rw [HE2.out, hbv]; rfl
            clear hbv HE2
            go_wp2_with fail
            go_ret2
            exact HP.out vj j HE3.out
          · have hbv : badV vj m = false := by simp [badV]; omega
            have HE3 : Hid (charRes (s[i] :: t) = (vj, j)) := by show _ = _; rw [HE2.out, hbv]; rfl
            clear hbv HE2
            go_wp2_with fail
            go_ret2
            exact HP.out vj j HE3.out
end Go.Proofs.Ytebidhdoiojaeaa
