/- Joined texts of this claim's proof: RunsP, SynL, LexPure5, LexPure6, PadP. -/
import Derived.Test.YtgfmiladfeoldaaGreatDoorPl4
import Derived.Test.YtgfmiladfeoldaaGreatDoorPl17
import Derived.Test.YtgfmiladfeoldaaGreatDoorPl24
set_option linter.unusedSimpArgs false
set_option linter.unusedVariables false
namespace LexP
def numeral : Nat → Bool
 | 2 => true | 3 => true | 4 => true | 9 => true | _ => false
theorem run_full {p : C → Bool} {A : List C} (hA : ∀ c ∈ A, p c = true) : runLen p A = A.length :=
 runLen_eq p _ _ (Nat.le_refl _) (fun c hc => hA c (List.mem_of_mem_take hc)) (fun c hc => by simp at hc)
def asC (t : Bytes) : List C := t.map fun b => (some b.toNat, [b])
theorem chars_num : ∀ (t r : Bytes), numRun t → chars (t ++ r) = asC t ++ chars r := by
 intro t
 induction t with
 | nil => intro r _; rfl
 | cons b t ih =>
  intro r h
  have hb : b.toNat < 0x80 := by
   rcases h b (by simp) with h | rfl
   ·simp [NumP.isDig] at h; omega
   ·decide
  rw [List.cons_append, chars_ascii hb, ih r (fun c hc => h c (by simp [hc]))]; rfl
theorem asC_num {t : Bytes} (h : numRun t) : ∀ c ∈ asC t, isNum c = true := by
 intro c hc
 obtain ⟨b, hb, rfl⟩ := List.mem_map.1 hc
 rcases h b hb with hd | rfl
 ·simp only [NumP.isDig, Bool.and_eq_true, decide_eq_true_eq] at hd
  have : kindOf b.toNat = 3 := by unfold kindOf; rw [if_neg (by omega), if_neg (by omega), if_pos (by omega)]
  simp [isNum, kd, this]
 ·decide
end LexP
namespace SynP
open LexP
def delim (b : UInt8) : Bool := b.toNat < 128 && kindOf b.toNat != 3 && kindOf b.toNat != 4 && b.toNat != 95
def Dl (r : Bytes) : Prop := r = [] ∨ ∃ b t, r = b :: t ∧ delim b = true
def LxA (b : Bytes) (l : List KT) : Prop := ∀ col r, ∃ n ts, Toks col (chars (b ++ r)) = (Toks (col + n) (chars r)).after ts ∧ kt ts = l
def LxD (b : Bytes) (l : List KT) : Prop := ∀ col r, Dl r → ∃ n ts, Toks col (chars (b ++ r)) = (Toks (col + n) (chars r)).after ts ∧ kt ts = l
def Sd (b : Bytes) : Prop := ∃ x t, b = x :: t ∧ delim x = true
theorem Sd.dl {b : Bytes} (h : Sd b) (r : Bytes) : Dl (b ++ r) := by
 obtain ⟨x, t, rfl, hx⟩ := h
 exact .inr ⟨x, t ++ r, rfl, hx⟩
theorem kt_app (a b : List Tok) : kt (a ++ b) = kt a ++ kt b := by simp [kt]
theorem LxA.d {b : Bytes} {l : List KT} (h : LxA b l) : LxD b l := fun col r _ => h col r
theorem LxA.nil : LxA [] [] := fun col r => ⟨0, [], by simp [Res.after_nil], rfl⟩
theorem LxA.app {b1 b2 : Bytes} {l1 l2 : List KT} (h1 : LxA b1 l1) (h2 : LxA b2 l2) : LxA (b1 ++ b2) (l1 ++ l2) := by
 intro col r
 obtain ⟨n1, t1, e1, k1⟩ := h1 col (b2 ++ r)
 obtain ⟨n2, t2, e2, k2⟩ := h2 (col + n1) r
 refine ⟨n1 + n2, t1 ++ t2, ?_, by rw [kt_app, k1, k2]⟩
 rw [List.append_assoc, e1, e2, Res.after_after, Nat.add_assoc]
theorem LxA.appD {b1 b2 : Bytes} {l1 l2 : List KT} (h1 : LxA b1 l1) (h2 : LxD b2 l2) : LxD (b1 ++ b2) (l1 ++ l2) := by
 intro col r hr
 obtain ⟨n1, t1, e1, k1⟩ := h1 col (b2 ++ r)
 obtain ⟨n2, t2, e2, k2⟩ := h2 (col + n1) r hr
 refine ⟨n1 + n2, t1 ++ t2, ?_, by rw [kt_app, k1, k2]⟩
 rw [List.append_assoc, e1, e2, Res.after_after, Nat.add_assoc]
theorem LxD.appA {b1 b2 : Bytes} {l1 l2 : List KT} (h1 : LxD b1 l1) (h2 : LxA b2 l2) (hs : Sd b2) : LxA (b1 ++ b2) (l1 ++ l2) := by
 intro col r
 obtain ⟨n1, t1, e1, k1⟩ := h1 col (b2 ++ r) (hs.dl r)
 obtain ⟨n2, t2, e2, k2⟩ := h2 (col + n1) r
 refine ⟨n1 + n2, t1 ++ t2, ?_, by rw [kt_app, k1, k2]⟩
 rw [List.append_assoc, e1, e2, Res.after_after, Nat.add_assoc]
theorem LxD.appD {b1 b2 : Bytes} {l1 l2 : List KT} (h1 : LxD b1 l1) (h2 : LxD b2 l2) (hs : Sd b2) : LxD (b1 ++ b2) (l1 ++ l2) := by
 intro col r hr
 obtain ⟨n1, t1, e1, k1⟩ := h1 col (b2 ++ r) (hs.dl r)
 obtain ⟨n2, t2, e2, k2⟩ := h2 (col + n1) r hr
 refine ⟨n1 + n2, t1 ++ t2, ?_, by rw [kt_app, k1, k2]⟩
 rw [List.append_assoc, e1, e2, Res.after_after, Nat.add_assoc]
theorem lx_mark {x : UInt8} (hx : x.toNat < 128 ∧ kindOf x.toNat = 5) : LxA [x] [mk x] := by
 intro col r
 refine ⟨1, [(3, [x], col)], ?_, rfl⟩
 show Toks col (chars (x :: r)) = _
 rw [chars_ascii hx.1]
 have hk : kd ((some x.toNat, [x]) : C) = 5 := hx.2
 rw [Toks_mark _ hk]
 have hs : signOf ((some x.toNat, [x]) : C) = [x] := by
  unfold signOf
  have h1 : rn ((some x.toNat, [x]) : C) = x.toNat := rfl
  rw [h1, if_neg (by omega), if_neg (by omega)]
 rw [hs]
theorem lx_blank : LxA [32] [] := by
 intro col r
 refine ⟨1, [], ?_, rfl⟩
 show Toks col (chars (32 :: r)) = _
 rw [chars_ascii (by decide), Toks_blank _ (by decide), Res.after_nil]
theorem delim_al {b : UInt8} (h : delim b = true) : b.toNat < 128 ∧ isAl ((some b.toNat, [b]) : C) = false ∧ isNum ((some b.toNat, [b]) : C) = false := by
 simp only [delim, Bool.and_eq_true, decide_eq_true_eq, bne_iff_ne] at h
 obtain ⟨⟨⟨h1, h2⟩, h3⟩, h4⟩ := h
 refine ⟨h1, ?_, ?_⟩
 ·simp [isAl, kd, h2, h3]
 ·simp [isNum, kd, rn, h2, h4]
theorem run_of {p : C → Bool} {t r : Bytes} (hp : ∀ c ∈ chars t, p c = true) (hr : Dl r) (hd : ∀ b : UInt8, delim b = true → p ((some b.toNat, [b]) : C) = false) (hbad : (chars t).all notBad = true) :
  chars (t ++ r) = chars t ++ chars r ∧ runLen p (chars t ++ chars r) = (chars t).length := by
 refine ⟨chars_append_ok t r hbad, ?_⟩
 rcases hr with rfl | ⟨b, u, rfl, hb⟩
 ·rw [chars_nil, List.append_nil]
  exact runLen_eq p _ _ (Nat.le_refl _) (fun c hc => hp c (List.mem_of_mem_take hc)) (fun c hc => by rw [List.getElem?_eq_none (Nat.le_refl _)] at hc; cases hc)
 ·rw [chars_ascii (delim_al hb).1]
  exact runLen_eq p _ _ (by simp) (fun c hc => by rw [List.take_left] at hc; exact hp c hc) (fun c hc => by
   rw [List.getElem?_append_right (Nat.le_refl _), Nat.sub_self] at hc
   simp at hc
   subst hc
   exact hd b hb)
theorem lx_num (n : Nat) : LxD (decT n) [numK n] := by
 intro col r hr
 have hrun : numRun (decT n) := fun c hc => .inl (decT_dig n c hc)
 have e0 : chars (decT n) = asC (decT n) := by
  have := chars_num (decT n) [] hrun
  rw [List.append_nil, chars_nil, List.append_nil] at this; exact this
 have hall : ∀ c ∈ chars (decT n), isNum c = true := by rw [e0]; exact asC_num hrun
 have hdig : ∀ c ∈ chars (decT n), kd c = 3 := by
  rw [e0]
  intro c hc
  obtain ⟨b, hb, rfl⟩ := List.mem_map.1 hc
  have hd := decT_dig n b hb
  simp only [NumP.isDig, Bool.and_eq_true, decide_eq_true_eq] at hd
  show kindOf b.toNat = 3
  unfold kindOf; rw [if_neg (by omega), if_neg (by omega), if_pos (by omega)]
 have hbad : (chars (decT n)).all notBad = true := by
  rw [List.all_eq_true]
  intro c hc
  simp [notBad, hdig c hc]
 obtain ⟨e1, e2⟩ := run_of hall hr (fun b hb => (delim_al hb).2.2) hbad
 have hb : bytesOf (chars (decT n)) = decT n := bytesOf_chars _
 have hne : chars (decT n) ≠ [] := by
  intro e
  exact decT_ne n (by rw [← hb, e]; rfl)
 have hnb : badNum (decT n) = false := by
  rw [badNum_anyBad (by
   intro h
   have := decT_dig n 95 (List.mem_of_getElem? h)
   simp [NumP.isDig] at this)]
  cases hx : anyBad (decT n) with
  | false => rfl
  | true =>
   obtain ⟨i, _, hi⟩ := (anyBad_iff _).1 hx
   simp only [usBad, Bool.and_eq_true, beq_iff_eq] at hi
   have := decT_dig n 95 (List.mem_of_getElem? hi.1)
   simp [NumP.isDig] at this
 obtain ⟨c, cs, hc⟩ := List.exists_cons_of_ne_nil hne
 refine ⟨(chars (decT n)).length, [(1, decT n, col)], ?_, rfl⟩
 rw [e1]
 rw [hc] at e2 ⊢
 have hk := hdig c (by rw [hc]; exact List.mem_cons_self)
 rw [List.cons_append, Toks_num _ hk]
 rw [List.cons_append] at e2
 have htake : (c :: (cs ++ chars r)).take (c :: cs).length = c :: cs := by rw [← List.cons_append, List.take_left]
 have hdrop : (c :: (cs ++ chars r)).drop (c :: cs).length = chars r := by rw [← List.cons_append, List.drop_left]
 rw [e2, htake, hdrop, ← hc, hb, hnb]
 rfl
theorem after_mem {r : Res} {a l : List Tok} (h : r.after a = .ok l) : ∃ m, r = .ok m ∧ l = a ++ m := by
 cases r with
 | error e => cases h
 | ok m => exact ⟨m, rfl, by simpa [Res.after] using h.symm⟩
theorem bytes_split (k : Nat) (L : List C) : bytesOf L = bytesOf (L.take k) ++ bytesOf (L.drop k) := by
 unfold bytesOf
 rw [← List.flatMap_append, List.take_append_drop]
theorem bytes_mem {d : C} : ∀ {L : List C}, d ∈ L → d.2.length ≤ (bytesOf L).length
 | [], h => by cases h
 | c :: L, h => by
  have hb : (bytesOf (c :: L)).length = c.2.length + (bytesOf L).length := by simp [bytesOf]
  rcases List.mem_cons.1 h with rfl | h
  ·omega
  ·have := bytes_mem h; omega
theorem bytes_ne {c : C} {t : Bytes} (h : c ∈ chars t) : 0 < c.2.length := by
 revert h
 refine chars_ind (P := fun t => c ∈ chars t → 0 < c.2.length) (fun h => by simp [chars_nil] at h) (fun l hl ih h => ?_) t
 rw [chars_cons hl] at h
 rcases List.mem_cons.1 h with rfl | h
 ·simp only [List.length_take]
  have := wid_pos l
  have := List.length_pos_iff.2 hl
  omega
 ·exact ih h
theorem nameOk_chars {x : Bytes} (h : NameOk x) : (∃ c cs, chars x = c :: cs ∧ kd c = 4) ∧ (∀ c ∈ chars x, isAl c = true) ∧ x.length ≤ 32 := by
 obtain ⟨co, h⟩ := h
 have hlen : ∀ col cs l, Toks col cs = .ok l → ∀ t ∈ l, t.1 = 2 → t.2.1.length ≤ (bytesOf cs).length := by
  have : ∀ col (cs : List C) (r : Res), Toks col cs = r → ∀ l, r = .ok l → ∀ t ∈ l, t.1 = 2 → t.2.1.length ≤ (bytesOf cs).length := by
   intro col cs
   induction hn : cs.length using Nat.strongRecOn generalizing col cs with
   | ind n ih =>
    intro r hr l hl t ht h2
    subst hr
    cases cs with
    | nil => rw [Toks_nil] at hl; cases hl; cases ht
    | cons c cs =>
     have hbs : (bytesOf (c :: cs)).length = c.2.length + (bytesOf cs).length := by simp [bytesOf]
     have drop_le : ∀ k (L : List C), (bytesOf (L.drop k)).length ≤ (bytesOf L).length := fun k L => by
      have e := congrArg List.length (bytes_split k L)
      rw [List.length_append] at e; omega
     have hk := kd_le c
     by_cases k0 : kd c = 0
     ·rw [Toks_bad _ k0] at hl; cases hl
     by_cases k1 : kd c = 1
     ·rw [Toks_blank _ k1] at hl
      have := ih cs.length (by rw [← hn]; simp) _ cs rfl _ rfl l hl t ht h2
      omega
     by_cases k2 : kd c = 2
     ·rw [Toks_hash _ k2] at hl
      split at hl
      ·cases hl
      ·cases hl; cases ht
     by_cases k3 : kd c = 3
     ·rw [Toks_num _ k3] at hl
      split at hl
      ·cases hl
      ·obtain ⟨m, hm, rfl⟩ := after_mem hl
       rcases List.mem_cons.1 ht with rfl | ht
       ·cases h2
       ·have hp := runLen_pos (p := isNum) (c := c) (cs := cs) (by simp [isNum, k3])
        have := ih ((c :: cs).drop (runLen isNum (c :: cs))).length (by rw [← hn, List.length_drop]; simp; omega) _ _ rfl _ rfl m hm t ht h2
        exact Nat.le_trans this (drop_le _ _)
     by_cases k4 : kd c = 4
     ·rw [Toks_name _ k4] at hl
      split at hl
      ·cases hl
      ·obtain ⟨m, hm, rfl⟩ := after_mem hl
       rcases List.mem_cons.1 ht with rfl | ht
       ·exact bytes_len _ _
       ·have hp := runLen_pos (p := isAl) (c := c) (cs := cs) (by simp [isAl, k4])
        have := ih ((c :: cs).drop (runLen isAl (c :: cs))).length (by rw [← hn, List.length_drop]; simp; omega) _ _ rfl _ rfl m hm t ht h2
        exact Nat.le_trans this (drop_le _ _)
     by_cases k5 : kd c = 5
     ·rw [Toks_mark _ k5] at hl
      obtain ⟨m, hm, rfl⟩ := after_mem hl
      rcases List.mem_cons.1 ht with rfl | ht
      ·cases h2
      ·have := ih cs.length (by rw [← hn]; simp) _ cs rfl _ rfl m hm t ht h2
       omega
     ·rw [Toks_other _ (by omega)] at hl; cases hl
  intro col cs l h
  exact this col cs _ rfl l h
 have hb : bytesOf (chars x) = x := bytesOf_chars x
 cases hc : chars x with
 | nil => rw [hc, Toks_nil] at h; cases h
 | cons c cs =>
  have hpos : 0 < c.2.length := bytes_ne (t := x) (by rw [hc]; exact List.mem_cons_self)
  have hxl : x.length = c.2.length + (bytesOf cs).length := by
   rw [← hb, hc]; simp [bytesOf]
  rw [hc] at h
  have hk := kd_le c
  by_cases k0 : kd c = 0
  ·rw [Toks_bad _ k0] at h; cases h
  by_cases k1 : kd c = 1
  ·rw [Toks_blank _ k1] at h
   have := hlen _ _ _ h _ List.mem_cons_self rfl
   simp only at this
   omega
  by_cases k2 : kd c = 2
  ·rw [Toks_hash _ k2] at h
   split at h <;> cases h
  by_cases k3 : kd c = 3
  ·rw [Toks_num _ k3] at h
   split at h
   ·cases h
   ·obtain ⟨m, hm, e⟩ := after_mem h
    simp at e
  by_cases k4 : kd c = 4
  ·rw [Toks_name _ k4] at h
   split at h
   ·cases h
   ·rename_i h32
    obtain ⟨m, hm, e⟩ := after_mem h
    simp only [List.cons_append, List.nil_append, List.cons.injEq, Prod.mk.injEq, true_and] at e
    obtain ⟨⟨e1, _⟩, rfl⟩ := e
    have hle := runLen_le isAl (c :: cs)
    have hall := takeWhile_all (p := isAl) (c :: cs)
    have hfull : runLen isAl (c :: cs) = (c :: cs).length := by
     refine Nat.le_antisymm hle (Nat.le_of_not_lt fun hlt => ?_)
     have h1 : x = bytesOf ((c :: cs).take (runLen isAl (c :: cs))) ++ bytesOf ((c :: cs).drop (runLen isAl (c :: cs))) := by
      rw [← bytes_split, ← hc]; exact hb.symm
     have h2 : (bytesOf ((c :: cs).drop (runLen isAl (c :: cs)))).length = 0 := by
      have := congrArg List.length h1
      rw [List.length_append, ← e1] at this; omega
     obtain ⟨d, hd⟩ : ∃ d, d ∈ (c :: cs).drop (runLen isAl (c :: cs)) := by
      have : 0 < ((c :: cs).drop (runLen isAl (c :: cs))).length := by rw [List.length_drop]; omega
      exact ⟨_, List.getElem_mem this⟩
     have hdp : 0 < d.2.length := bytes_ne (t := x) (by rw [hc]; exact List.mem_of_mem_drop hd)
     have := bytes_mem hd
     omega
    refine ⟨⟨c, cs, rfl, k4⟩, fun d hd => hall d (by rw [hfull, List.take_length]; exact hd), ?_⟩
    rw [← e1] at h32; omega
  by_cases k5 : kd c = 5
  ·rw [Toks_mark _ k5] at h
   obtain ⟨m, hm, e⟩ := after_mem h
   simp at e
  ·rw [Toks_other _ (by omega)] at h; cases h
theorem lx_name {x : Bytes} (h : NameOk x) : LxD x [(2, x)] := by
 intro col r hr
 obtain ⟨⟨c, cs, hc, hk⟩, hall, h32⟩ := nameOk_chars h
 have hbad : (chars x).all notBad = true := by
  rw [List.all_eq_true]
  intro d hd
  have := hall d hd
  simp only [isAl, Bool.or_eq_true, beq_iff_eq] at this
  simp only [notBad, bne_iff_ne]
  omega
 obtain ⟨e1, e2⟩ := run_of hall hr (fun b hb => (delim_al hb).2.1) hbad
 refine ⟨(chars x).length, [(2, x, col)], ?_, rfl⟩
 have hb : bytesOf (chars x) = x := bytesOf_chars x
 rw [e1]
 rw [hc] at e2 ⊢
 rw [List.cons_append, Toks_name _ hk]
 rw [List.cons_append] at e2
 have htake : (c :: (cs ++ chars r)).take (c :: cs).length = c :: cs := by rw [← List.cons_append, List.take_left]
 have hdrop : (c :: (cs ++ chars r)).drop (c :: cs).length = chars r := by rw [← List.cons_append, List.drop_left]
 rw [e2, htake, hdrop, ← hc, hb, if_neg (by omega)]
end SynP
namespace LexP
def badV (v m : Nat) : Bool := v < m || 0x10ffff < v || (0xd800 ≤ v && v ≤ 0xdfff)
def fin (v m n : Nat) : Option (Nat × Nat) := if badV v m then none else some (v, n)
end LexP
namespace LexP
end LexP
namespace LexP
open NumP
theorem dec_take {l : Bytes} {v n : Nat} (h : dec l = some (v, n)) : dec (l.take n) = some (v, n) := by
 unfold dec at h
 split at h
 ·cases h
 ·rename_i b t
  split at h
  ·rename_i h0; cases h; simp [dec, h0]
  rename_i h0
  split at h
  ·rename_i h1
   split at h
   ·rename_i c r
    split at h <;> simp only [Option.some.injEq, Prod.mk.injEq, reduceCtorEq] at h
    rename_i hc
    obtain ⟨rfl, rfl⟩ := h
    show dec [b, c] = _
    unfold dec; simp only [h0, h1, if_true, if_false]; rw [if_pos hc]
   ·cases h
  rename_i h1
  split at h
  ·rename_i h2
   split at h
   ·rename_i c d r
    split at h <;> simp only [Option.some.injEq, Prod.mk.injEq, reduceCtorEq] at h
    rename_i hc
    obtain ⟨rfl, rfl⟩ := h
    show dec [b, c, d] = _
    unfold dec; simp only [h0, h1, h2, if_true, if_false]; rw [if_pos hc]
   ·cases h
  rename_i h2
  split at h
  ·rename_i h3
   split at h
   ·rename_i c d f r
    split at h <;> simp only [Option.some.injEq, Prod.mk.injEq, reduceCtorEq] at h
    rename_i hc
    obtain ⟨rfl, rfl⟩ := h
    show dec [b, c, d, f] = _
    unfold dec; simp only [h0, h1, h2, h3, if_true, if_false]; rw [if_pos hc]
   ·cases h
  ·cases h
theorem dec_low2 {b : UInt8} {t : Bytes} {v n : Nat} (h : dec (b :: t) = some (v, n)) (hb : b.toNat < 128) : v = b.toNat := by
 unfold dec at h
 simp only [hb, if_true] at h
 cases h; rfl
def Pad (P : Bytes) (k : Nat) : Prop := k ≤ P.length ∧ ∃ cs : List C, (∀ c ∈ cs, kd c = 1) ∧ cs.length = k ∧ ∀ r, chars (P ++ r) = cs ++ chars r
theorem Pad.nil : Pad [] 0 := ⟨Nat.le_refl _, [], by simp, rfl, fun r => rfl⟩
theorem Pad.one {P : Bytes} {k : Nat} (h : Pad P k) (b : UInt8) (hb : b = 32 ∨ b = 9) : Pad (P ++ [b]) (k + 1) := by
 obtain ⟨h0, cs, h1, h2, h3⟩ := h
 have hlow : b.toNat < 0x80 := by rcases hb with rfl | rfl <;> decide
 refine ⟨by simp; omega, cs ++ [(some b.toNat, [b])], ?_, by simp [h2], fun r => ?_⟩
 ·intro c hc
  rcases List.mem_append.1 hc with hc | hc
  ·exact h1 c hc
  ·simp only [List.mem_singleton] at hc
   subst hc; rcases hb with rfl | rfl <;> decide
 ·rw [List.append_assoc, h3, List.singleton_append, chars_ascii hlow, List.append_assoc]; rfl
theorem Pad.two {P : Bytes} {k : Nat} (h : Pad P k) : Pad (P ++ [194, 160]) (k + 1) := by
 obtain ⟨h0, cs, h1, h2, h3⟩ := h
 refine ⟨by simp; omega, cs ++ [(some 160, [194, 160])], ?_, by simp [h2], fun r => ?_⟩
 ·intro c hc
  rcases List.mem_append.1 hc with hc | hc
  ·exact h1 c hc
  ·simp only [List.mem_singleton] at hc
   subst hc; decide
 ·have hd : dec (194 :: 160 :: r) = some (160, 2) := by simp [dec, isCont]
  rw [List.append_assoc, h3]
  show cs ++ chars (194 :: 160 :: r) = _
  rw [chars_some hd, List.append_assoc]; rfl
theorem Toks_blanks : ∀ (cs : List C) (col : Nat) (r : List C), (∀ c ∈ cs, kd c = 1) → Toks col (cs ++ r) = Toks (col + cs.length) r := by
 intro cs
 induction cs with
 | nil => intro col r _; rfl
 | cons c cs ih =>
  intro col r h
  rw [List.cons_append, Toks_blank col (h c (by simp)), ih _ _ (fun d hd => h d (by simp [hd])), List.length_cons]
  congr 1; omega
theorem Pad.toks {P : Bytes} {k : Nat} (h : Pad P k) (col : Nat) (r : Bytes) : Toks col (chars (P ++ r)) = Toks (col + k) (chars r) := by
 obtain ⟨h0, cs, h1, h2, h3⟩ := h
 rw [h3, Toks_blanks _ _ _ h1, h2]
theorem Pad.zero {P : Bytes} (h : Pad P 0) : P = [] := by
 obtain ⟨h0, cs, h1, h2, h3⟩ := h
 obtain rfl : cs = [] := List.eq_nil_of_length_eq_zero h2
 have h4 := h3 []
 rw [List.append_nil, chars_nil, List.nil_append] at h4
 have h5 := bytesOf_chars P
 rw [h4] at h5; exact h5.symm
theorem chars_take : ∀ (k : Nat) (L : Bytes), (∀ c ∈ (chars L).take k, notBad c = true) → chars (bytesOf ((chars L).take k)) = (chars L).take k := by
 intro k
 induction k with
 | zero => intro L _; rfl
 | succ k ih =>
  intro L h
  by_cases hl : L = []
  ·subst hl; rfl
  ·have hc := chars_cons hl
   rw [hc] at h ⊢
   simp only [List.take_succ_cons] at h ⊢
   have h0 := h _ List.mem_cons_self
   cases hd : dec L with
   | none => simp [val, hd, notBad_none] at h0
   | some p =>
    obtain ⟨v, n⟩ := p
    have hv : val L = some v := by simp [val, hd]
    have hw : wid L = n := by simp [wid, hd]
    have hk := dec_width hd
    rw [hv, hw] at h hc ⊢
    have hn : (L.take n).length = n := by simp; omega
    have e : bytesOf ((some v, L.take n) :: (chars (L.drop n)).take k) = L.take n ++ bytesOf ((chars (L.drop n)).take k) := rfl
    rw [e]
    have hd2 := dec_append (dec_take hd) (bytesOf ((chars (L.drop n)).take k))
    have h2 := chars_some hd2
    have hdn : (L.take n).drop n = [] := List.drop_eq_nil_of_le (by omega)
    rw [List.take_append_of_le_length (by omega), List.drop_append_of_le_length (by omega), List.take_take, Nat.min_self, hdn, List.nil_append] at h2
    rw [h2, ih (L.drop n) (fun c hc => h c (List.mem_cons_of_mem _ hc))]
end LexP
