/- Joined texts of this claim's proof: LexW1, LexMem, LexDec, LexW2, LexW3. -/
import Derived.Test.YtgfmiladfeoldaaGreatDoorPl1
import Derived.WalkKit
import Derived.WalkSpells
import Derived.WalkLawsBesides
import Derived.Lib.Hide
import Derived.WalkSmall
import Derived.Lib.OthersKept
import Derived.BigQuiet
import Derived.Deep.QuietTactic
set_option linter.unusedSimpArgs false
set_option linter.unusedVariables false
namespace Go.Proofs.YtgfmiladfeoldaaGreatDoor
open Go.RowKit LexP
theorem ret_i64 {a b : Int} (h : a = b) : Ending.returned (.int .i64 a) = .returned (.int .i64 b) := by rw [h]
theorem marks_any (r : Nat) (h : r < 128) :
  decide (0 ≤ Lib.indexByte [43, 45, 42, 94, 39, 40, 41, 91, 93, 123, 125, 44, 59, 58, 61] (r : Int).toNat.toUInt8) = decide (r.toUInt8 ∈ ([43, 45, 42, 94, 39, 40, 41, 91, 93, 123, 125, 44, 59, 58, 61] : Bytes)) := by
 have : ∀ r : Fin 128, decide (0 ≤ Lib.indexByte [43, 45, 42, 94, 39, 40, 41, 91, 93, 123, 125, 44, 59, 58, 61] ((r.val : Nat) : Int).toNat.toUInt8) = decide (r.val.toUInt8 ∈ ([43, 45, 42, 94, 39, 40, 41, 91, 93, 123, 125, 44, 59, 58, 61] : Bytes)) := by decide +kernel
 exact this ⟨r, h⟩
set_option maxRecDepth 100000 in
set_option maxHeartbeats 2000000 in
theorem kind_any (r : Nat) (w : World) (hr : r ≤ 0x10FFFF) :
  Calls Tryz.prog 200 #[.int .i32 (r : Int)] w fun e w' => e = .returned (.int .i64 (kindOf r : Nat)) ∧ w = w' := by
 by_cases h1 : r = 32 ∨ r = 9 ∨ r = 0xa0
 ·have hk : kindOf r = 1 := by unfold kindOf; rw [if_pos h1]
  rw [hk]; clear hk
  rcases h1 with rfl | rfl | rfl
  all_goals
   go_enter Tryz.func200, Tryz.ntmps200
   go_wp2
   go_ret
   exact ⟨rfl, rfl⟩
 by_cases h2 : r = 35
 ·subst h2
  go_enter Tryz.func200, Tryz.ntmps200
  go_wp2
  go_ret
  exact ⟨rfl, rfl⟩
 have n1 : ((r : Int) == 32) = false := by simp; omega
 have n2 : ((r : Int) == 9) = false := by simp; omega
 have n3 : ((r : Int) == 160) = false := by simp; omega
 have n4 : ((r : Int) == 35) = false := by simp; omega
 by_cases h3 : 48 ≤ r ∧ r ≤ 57
 ·have hk : kindOf r = 3 := by unfold kindOf; rw [if_neg h1, if_neg h2, if_pos h3]
  rw [hk]; clear hk
  go_enter Tryz.func200, Tryz.ntmps200
  go_wp2
  go_ret
  exact ⟨rfl, rfl⟩
 by_cases e95 : r = 95
 ·subst e95
  go_enter Tryz.func200, Tryz.ntmps200
  go_wp2
  go_ret
  exact ⟨rfl, rfl⟩
 by_cases e8722 : r = 0x2212
 ·subst e8722
  go_enter Tryz.func200, Tryz.ntmps200
  go_wp2
  go_ret
  exact ⟨rfl, rfl⟩
 by_cases e215 : r = 0xd7
 ·subst e215
  go_enter Tryz.func200, Tryz.ntmps200
  go_wp2
  go_ret
  exact ⟨rfl, rfl⟩
 by_cases e247 : r = 0xf7
 ·subst e247
  go_enter Tryz.func200, Tryz.ntmps200
  go_wp2
  go_ret
  exact ⟨rfl, rfl⟩
 have n6 : ((r : Int) == 95) = false := by simp; omega
 have n7 : ((r : Int) == 8722) = false := by simp; omega
 have n8 : ((r : Int) == 215) = false := by simp; omega
 have n9 : ((r : Int) != 247) = true := by simp; omega
 have K : kindOf r = if (97 ≤ r ∧ r ≤ 122) ∨ (65 ≤ r ∧ r ≤ 90) then 4 else if (0xc0 ≤ r ∧ r ≤ 0x2af) ∨ (0x370 ≤ r ∧ r ≤ 0x3ff) then 4
   else if r < 0x80 ∧ (r.toUInt8 ∈ ([43, 45, 42, 94, 39, 40, 41, 91, 93, 123, 125, 44, 59, 58, 61] : Bytes)) then 5 else 6 := by
  unfold kindOf
  rw [if_neg h1, if_neg h2, if_neg h3]
  simp only [e95, e8722, e215, e247, or_false, if_false, ne_eq, not_false_eq_true, and_true]
 have G : (r < 48 ∨ 58 ≤ r ∧ r < 65 ∨ 91 ≤ r ∧ r < 97 ∨ 123 ≤ r ∧ r < 128) ∨ (65 ≤ r ∧ r ≤ 90 ∨ 97 ≤ r ∧ r ≤ 122) ∨ (128 ≤ r ∧ r < 0xc0 ∨ 0x2af < r ∧ r < 0x370 ∨ 0x3ff < r) ∨ (0xc0 ≤ r ∧ r ≤ 0x2af ∨ 0x370 ≤ r ∧ r ≤ 0x3ff) := by omega
 rcases G with G | G | G | G
 ·have h6 : r < 128 := by omega
  have K5 : (decide (r.toUInt8 ∈ ([43, 45, 42, 94, 39, 40, 41, 91, 93, 123, 125, 44, 59, 58, 61] : Bytes))) = (decide (kindOf r = 5)) := by
   rw [K, if_neg (by omega), if_neg (by omega)]
   by_cases hm : r.toUInt8 ∈ ([43, 45, 42, 94, 39, 40, 41, 91, 93, 123, 125, 44, 59, 58, 61] : Bytes)
   ·rw [if_pos ⟨by omega, hm⟩]; simp [hm]
   ·rw [if_neg (by simp [hm])]; simp [hm]
  have K6 : kindOf r = 5 ∨ kindOf r = 6 := by
   rw [K, if_neg (by omega), if_neg (by omega)]; split <;> simp
  have M := Lib.hid (marks_any r h6)
  rw [K5] at M
  clear K K5
  generalize kindOf r = k at *
  rcases K6 with rfl | rfl
  all_goals
   rcases G with G | G | G | G
   all_goals
    clear h1 h2 h3 e95 e8722 e215 e247
    go_enter Tryz.func200, Tryz.ntmps200
    go_wp2_with (go_at_call 231; refine (Tryz.strings_ContainsRune_ascii _ _ _ (by omega) (by omega)).mono ?_; rintro e w' ⟨rfl, rfl⟩; rw [M.out])
    go_ret
    exact ⟨rfl, rfl⟩
 ·rw [K, if_pos (by omega)]
  clear K
  rcases G with G | G
  all_goals
   clear h1 h2 h3 e95 e8722 e215 e247
   go_enter Tryz.func200, Tryz.ntmps200
   go_wp2
   go_ret
   exact ⟨rfl, rfl⟩
 ·rw [K, if_neg (by omega), if_neg (by omega), if_neg (by omega)]
  clear K
  rcases G with G | G | G
  all_goals
   clear h1 h2 h3 e95 e8722 e215 e247
   go_enter Tryz.func200, Tryz.ntmps200
   go_wp2
   go_ret
   exact ⟨rfl, rfl⟩
 ·rw [K, if_neg (by omega), if_pos (by omega)]
  clear K
  rcases G with G | G
  all_goals
   clear h1 h2 h3 e95 e8722 e215 e247
   go_enter Tryz.func200, Tryz.ntmps200
   go_wp2
   go_ret
   exact ⟨rfl, rfl⟩
end Go.Proofs.YtgfmiladfeoldaaGreatDoor
namespace LexP
open Go Go.RowKit
def chCells : Nat → List C → List Value
 | _, [] => []
 | p, c :: cs => .int .i64 (kd c : Nat) :: .int .i32 (rn c : Nat) :: .int .i64 (p : Nat) :: chCells (p + c.2.length) cs
theorem chCells_append : ∀ (a b : List C) (p : Nat), chCells p (a ++ b) = chCells p a ++ chCells (p + (bytesOf a).length) b := by
 intro a
 induction a with
 | nil => intro b p; simp [chCells, bytesOf]
 | cons c cs ih => intro b p; simp [chCells, bytesOf, ih, Nat.add_assoc]
theorem chCells_one (p : Nat) (c : C) : chCells p [c] = [.int .i64 (kd c : Nat), .int .i32 (rn c : Nat), .int .i64 (p : Nat)] := rfl
theorem chCells_at : ∀ (a : List C) (p k : Nat) (c : C), a[k]? = some c →
  (chCells p a)[k * 3]? = some (.int .i64 (kd c : Nat)) ∧ (chCells p a)[k * 3 + 1]? = some (.int .i32 (rn c : Nat)) ∧
  (chCells p a)[k * 3 + 2]? = some (.int .i64 (p + (bytesOf (a.take k)).length : Nat)) := by
 intro a
 induction a with
 | nil => intro p k c h; simp at h
 | cons d cs ih =>
  intro p k c h
  cases k with
  | zero => simp at h; subst h; simp [chCells, bytesOf]
  | succ k =>
   simp only [List.getElem?_cons_succ] at h
   obtain ⟨h1, h2, h3⟩ := ih (p + d.2.length) k c h
   have e0 : (k + 1) * 3 = k * 3 + 1 + 1 + 1 := by omega
   have e1 : (k + 1) * 3 + 1 = k * 3 + 1 + 1 + 1 + 1 := by omega
   have e2 : (k + 1) * 3 + 2 = k * 3 + 2 + 1 + 1 + 1 := by omega
   refine ⟨?_, ?_, ?_⟩
   ·rw [e0]; simp only [chCells, List.getElem?_cons_succ]; exact h1
   ·rw [e1]; simp only [chCells, List.getElem?_cons_succ]; exact h2
   ·rw [e2]; simp only [chCells, List.getElem?_cons_succ, List.take_succ_cons, bytesOf, List.flatMap_cons, List.length_append]; rw [h3]; simp only [bytesOf, Nat.add_assoc]
def tkCells (l : List Tok) : List Value := l.flatMap fun t => [.int .i64 (t.1 : Nat), .string ⟨t.2.1.toArray⟩, .int .i64 (t.2.2 : Nat)]
theorem tkCells_append (a b : List Tok) : tkCells (a ++ b) = tkCells a ++ tkCells b := by simp [tkCells]
theorem tkCells_at : ∀ (a : List Tok) (k : Nat) (t : Tok), a[k]? = some t →
  (tkCells a)[k * 3]? = some (.int .i64 (t.1 : Nat)) ∧ (tkCells a)[k * 3 + 1]? = some (.string ⟨t.2.1.toArray⟩) ∧ (tkCells a)[k * 3 + 2]? = some (.int .i64 (t.2.2 : Nat)) := by
 intro a
 induction a with
 | nil => intro k t h; simp at h
 | cons d cs ih =>
  intro k t h
  cases k with
  | zero => simp at h; subst h; simp [tkCells]
  | succ k =>
   simp only [List.getElem?_cons_succ] at h
   obtain ⟨h1, h2, h3⟩ := ih k t h
   have e0 : (k + 1) * 3 = k * 3 + 1 + 1 + 1 := by omega
   have e1 : (k + 1) * 3 + 1 = k * 3 + 1 + 1 + 1 + 1 := by omega
   have e2 : (k + 1) * 3 + 2 = k * 3 + 2 + 1 + 1 + 1 := by omega
   have ec : tkCells (d :: cs) = .int .i64 (d.1 : Nat) :: .string ⟨d.2.1.toArray⟩ :: .int .i64 (d.2.2 : Nat) :: tkCells cs := rfl
   refine ⟨?_, ?_, ?_⟩
   ·rw [e0, ec]; simp only [List.getElem?_cons_succ]; exact h1
   ·rw [e1, ec]; simp only [List.getElem?_cons_succ]; exact h2
   ·rw [e2, ec]; simp only [List.getElem?_cons_succ]; exact h3
theorem ownsRow_mono {w : World} {b b' : Nat} {e : TypeId} {size : Nat} {v : Value} {n : Nat} {xs : List Value} (h : w.ownsRow b e size v n xs) (hb : b' ≤ b) : w.ownsRow b' e size v n xs := by
 refine ⟨h.1, ?_⟩
 rcases h.2 with h2 | ⟨g, cap, cur, hv, hg, r⟩
 ·exact .inl h2
 ·exact .inr ⟨g, cap, cur, hv, Nat.le_trans hb hg, r⟩
theorem ownsRow_below {w w' : World} {b B : Nat} {e : TypeId} {size : Nat} {v : Value} {n : Nat} {xs : List Value} (h : w.ownsRow b e size v n xs) (hb : Below B w w') (hB : w.heap.size ≤ B) : w'.ownsRow b e size v n xs := by
 refine ⟨h.1, ?_⟩
 rcases h.2 with h2 | ⟨g, cap, cur, hv, hg, hh, r⟩
 ·exact .inl h2
 ·have hlt : g < w.heap.size := (Array.getElem?_eq_some_iff.1 hh).1
  exact .inr ⟨g, cap, cur, hv, hg, by rw [hb.block g (by omega)]; exact hh, r⟩
theorem ownsRow_open {w : World} {b : Nat} {e : TypeId} {size : Nat} {v : Value} {n : Nat} {xs : List Value} (h : w.ownsRow b e size v n xs) :
  (v = .slice none 0 0 ∧ n = 0 ∧ xs = []) ∨ ∃ g cap, v = .slice (some ⟨g, 0, none⟩) n cap ∧ b ≤ g ∧ g < w.heap.size ∧ n ≤ cap ∧ cap ≤ maxLen ∧ ∀ j, j < n * size → w.cell? ⟨g, j, none⟩ = xs[j]? := by
 rcases h.2 with ⟨rfl, rfl⟩ | ⟨g, cap, cur, rfl, hg, hh, hn, hc, _⟩
 ·exact .inl ⟨rfl, rfl, List.eq_nil_of_length_eq_zero (by simpa using h.1)⟩
 ·exact .inr ⟨g, cap, rfl, hg, (Array.getElem?_eq_some_iff.1 hh).1, hn, hc, fun j hj => h.cellAt j hj⟩
theorem cells_new (w : World) (cs : List Value) (t : TypeId) (n : Nat) (hn : n = w.heap.size) : ∀ j u, cs[j]? = some u → (w.alloc (.cells cs.toArray t)).cell? ((⟨n, 0, none⟩ : Addr).add j) = some u := by
 intro j u h
 subst hn
 rw [Addr.add_lit, World.cell?_alloc_at _ _ _ _ rfl]
 simpa using h
theorem ownsRow_shape {w : World} {b : Nat} {e : TypeId} {size : Nat} {v : Value} {n : Nat} {xs : List Value} (h : w.ownsRow b e size v n xs) :
  ∃ ao cap, v = .slice ao n cap ∧ n ≤ cap ∧ cap ≤ maxLen ∧ (0 < n → ∃ g, ao = some ⟨g, 0, none⟩ ∧ b ≤ g ∧ g < w.heap.size ∧ ∀ j, j < n * size → w.cell? ⟨g, j, none⟩ = xs[j]?) := by
 rcases h.2 with ⟨rfl, rfl⟩ | ⟨g, cap, cur, rfl, hg, hh, hn, hc, _⟩
 ·exact ⟨none, 0, rfl, Nat.le_refl _, Nat.zero_le _, fun h0 => absurd h0 (Nat.lt_irrefl _)⟩
 ·exact ⟨_, cap, rfl, hn, hc, fun _ => ⟨g, rfl, hg, (Array.getElem?_eq_some_iff.1 hh).1, fun j hj => h.cellAt j hj⟩⟩
end LexP
namespace LexP
open Go
theorem get_list (s : ByteArray) (i : Nat) : s.get! i = (s.data.toList[i]?).getD default := by
 obtain ⟨⟨l⟩⟩ := s
 simp [ByteArray.get!]
theorem decode_eq (s : ByteArray) (i : Nat) (hi : i < s.size) :
  Utf8.decode s i = match dec (s.data.toList.drop i) with | some (v, n) => (v, n) | none => (0xFFFD, 1) := by
 have hsz : s.size = s.data.toList.length := Lib.size_eq s
 have hg : ∀ k, s.get! (i + k) = ((s.data.toList.drop i)[k]?).getD default := by
  intro k; rw [get_list, List.getElem?_drop]
 have hc : ∀ k, i + k < s.size ↔ k < (s.data.toList.drop i).length := by intro k; rw [hsz, List.length_drop]; omega
 have hne : 0 < (s.data.toList.drop i).length := by rw [List.length_drop]; omega
 generalize s.data.toList.drop i = l at *
 simp only [Utf8.decode, hg, hc]
 match l, hne with
 | b :: t, _ =>
  simp only [List.getElem?_cons_zero, Option.getD_some, List.getElem?_cons_succ, List.length_cons]
  by_cases h0 : b.toNat < 0x80
  ·simp [dec, h0]
  simp only [h0, if_false]
  by_cases h1 : b.toNat / 32 = 6
  ·have h2 : ¬ b.toNat / 16 = 14 := by omega
   have h3 : ¬ b.toNat / 8 = 30 := by omega
   match t with
   | [] => simp [dec, h0, h1, Utf8.runeError]
   | c :: t =>
    by_cases k1 : c.toNat / 64 = 2
    ·by_cases k2 : 128 ≤ b.toNat % 32 * 64 + c.toNat % 64
     ·simp [dec, h0, h1, k1, isCont, k2]
     ·simp [dec, h0, h1, k1, isCont, k2, Utf8.runeError]
    ·simp [dec, h0, h1, k1, isCont, h2, h3, Utf8.runeError]
  by_cases h2 : b.toNat / 16 = 14
  ·have h3 : ¬ b.toNat / 8 = 30 := by omega
   match t with
   | [] => simp [dec, h0, h1, h2, Utf8.runeError]
   | [c] => simp [dec, h0, h1, h2, Utf8.runeError]
   | c :: d :: t =>
    have hv : ∀ v : Nat, Utf8.valid (v : Int) = okRune v := by
     intro v; simp only [Utf8.valid, okRune]; rw [Bool.eq_iff_iff]; simp; omega
    by_cases k1 : c.toNat / 64 = 2
    ·by_cases k2 : d.toNat / 64 = 2
     ·simp only [dec, h0, h1, h2, k1, k2, isCont, if_true, if_false, beq_self_eq_true, Bool.true_and, Bool.and_true, hv, List.length_cons, List.getElem?_cons_zero, Option.getD_some]
      by_cases k3 : 2048 ≤ b.toNat % 16 * 4096 + c.toNat % 64 * 64 + d.toNat % 64 ∧ okRune (b.toNat % 16 * 4096 + c.toNat % 64 * 64 + d.toNat % 64) = true
      ·simp [k2, h1, k3]
      ·simp [Utf8.runeError, k2, h1, k3]
     ·simp [dec, h0, h1, h2, k1, k2, isCont, h3, Utf8.runeError]
    ·simp [dec, h0, h1, h2, k1, isCont, h3, Utf8.runeError]
  by_cases h3 : b.toNat / 8 = 30
  ·match t with
   | [] => simp [dec, h0, h1, h2, h3, Utf8.runeError]
   | [c] => simp [dec, h0, h1, h2, h3, Utf8.runeError]
   | [c, d] => simp [dec, h0, h1, h2, h3, Utf8.runeError]
   | c :: d :: f :: t =>
    have hv : ∀ v : Nat, Utf8.valid (v : Int) = okRune v := by
     intro v; simp only [Utf8.valid, okRune]; rw [Bool.eq_iff_iff]; simp; omega
    by_cases k1 : c.toNat / 64 = 2
    ·by_cases k2 : d.toNat / 64 = 2
     ·by_cases k4 : f.toNat / 64 = 2
      ·simp only [dec, h0, h1, h2, h3, k1, k2, k4, isCont, if_true, if_false, beq_self_eq_true, Bool.true_and, Bool.and_true, hv, List.length_cons, List.getElem?_cons_zero, Option.getD_some]
       by_cases k3 : 65536 ≤ b.toNat % 8 * 262144 + c.toNat % 64 * 4096 + d.toNat % 64 * 64 + f.toNat % 64 ∧ okRune (b.toNat % 8 * 262144 + c.toNat % 64 * 4096 + d.toNat % 64 * 64 + f.toNat % 64) = true
       ·simp [k2, k4, h1, h2, k3]
       ·simp [Utf8.runeError, k2, k4, h1, h2, k3]
      ·simp [dec, h0, h1, h2, h3, k1, k2, k4, isCont, Utf8.runeError]
     ·simp [dec, h0, h1, h2, h3, k1, k2, isCont, Utf8.runeError]
    ·simp [dec, h0, h1, h2, h3, k1, isCont, Utf8.runeError]
  ·simp [dec, h0, h1, h2, h3, Utf8.runeError]
theorem decode_fst (s : ByteArray) (i : Nat) (hi : i < s.size) : (Utf8.decode s i).1 = (val (s.data.toList.drop i)).getD 0xFFFD := by
 rw [decode_eq s i hi]; unfold val
 cases dec (s.data.toList.drop i) <;> rfl
theorem decode_snd (s : ByteArray) (i : Nat) (hi : i < s.size) : (Utf8.decode s i).2 = wid (s.data.toList.drop i) := by
 rw [decode_eq s i hi]; unfold wid
 cases dec (s.data.toList.drop i) <;> rfl
theorem val_le {l : Bytes} {v : Nat} (h : val l = some v) : v ≤ 0x10FFFF := by
 unfold val at h
 cases hd : dec l with
 | none => simp [hd] at h
 | some p => obtain ⟨a, b⟩ := p; simp [hd] at h; subst h; exact dec_le hd
theorem val_fffd (l : Bytes) : (val l).getD 0xFFFD = 0xFFFD → (Lib.hasPrefix l [239, 191, 189] = (val l).isSome) := by
 intro h
 cases hv : val l with
 | none =>
  cases hp : Lib.hasPrefix l [239, 191, 189] with
  | false => rfl
  | true =>
   exfalso
   obtain ⟨t, rfl⟩ := List.isPrefixOf_iff_prefix.1 hp
   simp [val, dec, isCont, okRune] at hv
 | some v =>
  have h' : v = 0xFFFD := by simpa [hv] using h
  subst h'
  simp only [Option.isSome_some]
  unfold val at hv
  unfold dec at hv
  split at hv
  ·simp at hv
  ·rename_i b t
   split at hv
   ·simp at hv; omega
   split at hv
   ·split at hv
    ·split at hv
     ·simp at hv; omega
     ·simp at hv
    ·simp at hv
   split at hv
   ·split at hv
    ·rename_i c d r
     split at hv
     ·rename_i k
      simp only [Bool.and_eq_true, isCont, beq_iff_eq] at k
      simp at hv
      have hb : b.toNat = 239 := by have := b.toNat_lt; omega
      have hc : c.toNat = 191 := by have := c.toNat_lt; omega
      have hd : d.toNat = 189 := by have := d.toNat_lt; omega
      have eb : b = 239 := UInt8.toNat_inj.1 hb
      have ec : c = 191 := UInt8.toNat_inj.1 hc
      have ed : d = 189 := UInt8.toNat_inj.1 hd
      subst eb ec ed
      simp [Lib.hasPrefix]
     ·simp at hv
    ·simp at hv
   split at hv
   ·split at hv
    ·split at hv
     ·rename_i k
      simp only [Bool.and_eq_true, decide_eq_true_eq] at k
      simp at hv; omega
     ·simp at hv
    ·simp at hv
   ·simp at hv
end LexP
namespace Go.Proofs.YtgfmiladfeoldaaGreatDoor
open Go.RowKit LexP
theorem Tryz.infoChar : (Tryz.prog.info? 182).map (fun i => (i.zero, i.size, i.bytes)) = some (some (.agg #[.int .i64 0, .int .i32 0, .int .i64 0]), 3, 24) := by kernel_rfl
def CharsPost (l : Bytes) (w : World) (e : Ending) (w' : World) : Prop :=
 ∃ v, e = .returned v ∧ w'.ownsRow w.heap.size 182 3 v (chars l).length (chCells 0 (chars l)) ∧ Below w.heap.size w w'
def ChRel (s : ByteArray) (w : World) (v : Value) (wr : World) : Prop :=
 ∃ pos dn, pos ≤ s.size ∧ wr.heap[w.heap.size]? = some (.stringIter s pos) ∧ Below w.heap.size w wr ∧
  chars s.data.toList = dn ++ chars (s.data.toList.drop pos) ∧ (bytesOf dn).length = pos ∧ wr.ownsRow (w.heap.size + 1) 182 3 v dn.length (chCells 0 dn)
theorem iter_heap_at (w : World) (s : ByteArray) : (w.iter s 0).heap[w.heap.size]? = some (.stringIter s 0) := World.iter_heap w s 0
set_option maxRecDepth 100000 in
set_option maxHeartbeats 1000000 in
theorem chars_any (s : ByteArray) (w : World) (hs : s.size ≤ 67108864) :
  Calls Tryz.prog 155 #[.string s] w (CharsPost s.data.toList w) := by
 obtain ⟨i0, hi, hz0, hz1, hz2⟩ := info_parts Tryz.infoChar
 go_enter Tryz.func155, Tryz.ntmps155
 go_wp2
 go_loopw [3] (fun v wr => ChRel s w v wr) (fun _ wr => s.size - wr.iterPos w.heap.size)
 case atStart =>
  exact ⟨0, [], Nat.zero_le _, iter_heap_at w s, (Below.refl _ _).alloc (Nat.le_refl _) _, by simp, rfl, World.ownsRow_nil _ _ _ _⟩
 case round =>
  obtain ⟨pos, dn, hpos, hit, hbel, hch, hlen, hown⟩ := hrel
  have hsz : w.heap.size < wr.heap.size := (Array.getElem?_eq_some_iff.1 hit).1
  by_cases hlt : pos < s.size
  ·have hn := fun ty => Lib.run_next_any_at (P := Tryz.prog) wr w.heap.size s pos ty hit hlt
   have hLe : s.data.toList.drop pos ≠ [] := by rw [Ne, List.drop_eq_nil_iff, ← Lib.size_eq]; omega
   have hcons := Lib.hid (chars_cons hLe)
   have hk1 := wid_pos (s.data.toList.drop pos)
   have hk2 : pos + wid (s.data.toList.drop pos) ≤ s.size := by have := wid_le hLe; rw [List.length_drop, ← Lib.size_eq] at this; omega
   have hdd : Hid (List.drop (wid (s.data.toList.drop pos)) (s.data.toList.drop pos) = s.data.toList.drop (pos + wid (s.data.toList.drop pos))) := by show _ = _; rw [List.drop_drop]
   have hbl : Hid ((bytesOf (dn ++ [(val (s.data.toList.drop pos), List.take (wid (s.data.toList.drop pos)) (s.data.toList.drop pos))])).length = pos + wid (s.data.toList.drop pos)) := by
    show _ = _
    simp only [bytesOf, List.flatMap_append, List.length_append] at hlen ⊢
    rw [hlen]
    have := wid_le hLe
    simp; simp at this; omega
   have hfp := Lib.hid (val_fffd (s.data.toList.drop pos))
   have hvl : ∀ v, val (s.data.toList.drop pos) = some v → v ≤ 0x10FFFF := fun v h => val_le h
   rw [decode_fst s pos hlt, decode_snd s pos hlt] at hn
   have HCH := Lib.hid hch
   have HLEN := Lib.hid hlen
   have hxd : Hid ((s.extract pos s.size).data.toList = s.data.toList.drop pos) := by
    show _ = _
    rw [Lib.extract_data, List.take_of_length_le (by rw [List.length_drop, ← Lib.size_eq]; exact Nat.le_refl _)]
   have hdn : dn.length ≤ 67108864 := by
    have h1 := chars_len s.data.toList
    rw [hch, List.length_append, ← Lib.size_eq] at h1; omega
   clear hch hlen hLe
   have fin : ∀ (c : C) (v' : Value) (w2 : World), c = (val (s.data.toList.drop pos), List.take (wid (s.data.toList.drop pos)) (s.data.toList.drop pos)) →
     w2.ownsRow (w.heap.size + 1) 182 3 v' (dn.length + 1) (chCells 0 dn ++ chCells pos [c]) → Below w.heap.size w w2 → w2.heap[w.heap.size]? = some (.stringIter s (pos + wid (s.data.toList.drop pos))) →
     ChRel s w v' w2 ∧ s.size - w2.iterPos w.heap.size < s.size - wr.iterPos w.heap.size := by
    intro c v' w2 hc ho hb hi2
    refine ⟨⟨pos + wid (s.data.toList.drop pos), dn ++ [c], hk2, hi2, hb, ?_, ?_, ?_⟩, ?_⟩
    ·rw [HCH.out, hcons.out, hc, hdd.out]; simp
    ·rw [hc]; exact hbl.out
    ·rw [chCells_append, HLEN.out, Nat.zero_add]; simpa using ho
    ·rw [iterPos_of hi2, iterPos_of hit]; omega
   have FIN := Lib.hid fin
   clear fin hdd hbl HCH HLEN hcons hk2
   generalize wid (s.data.toList.drop pos) = k at *
   have hW : ∃ wi : World, wi = wr.iterAt w.heap.size s (pos + k) := ⟨_, rfl⟩
   obtain ⟨wi, hwi⟩ := hW
   have q1 : wi.ownsRow (w.heap.size + 1) 182 3 u3 dn.length (chCells 0 dn) := by rw [hwi]; exact ownsRow_iterAt hown (Nat.lt_succ_self _) _ _
   have q2 : Below w.heap.size w wi := by rw [hwi]; exact Lib.below_iterAt hbel (Nat.le_refl _) _ _
   have q3 : wi.heap[w.heap.size]? = some (.stringIter s (pos + k)) := by rw [hwi]; exact Lib.iterAt_heap _ _ _ _ _ hit
   have q4 : w.heap.size < wi.heap.size := (Array.getElem?_eq_some_iff.1 q3).1
   rw [← hwi] at hn
   clear hwi
   have Q3 := Lib.hid q3
   clear q3
   cases hv : val (s.data.toList.drop pos) with
   | some r =>
    have hrle := hvl r hv
    rw [hv] at hn hfp FIN
    clear hvl hv
    simp only [Option.getD_some] at hn hfp
    by_cases hr : r = 0xFFFD
    ·subst hr
     have HP : Hid (Lib.hasPrefix (s.data.toList.drop pos) [239, 191, 189] = true) := hfp.out (by first | trivial | rfl)
     clear hfp
     go_wp2_with (first | (go_at_call 200; refine (kind_any 0xFFFD _ (by omega)).mono ?_; rintro e w' ⟨rfl, rfl⟩) | (go_at_call 201; refine (Tryz.strings_HasPrefix _ _ _).mono ?_; rintro e w' ⟨rfl, rfl⟩; simp only [hxd.out, HP.out]) | (at_builtin; refine wpList_append_own _ rfl _ _ 179 rfl (w.heap.size + 1) 182 i0 (.agg #[.int .i64 0, .int .i32 0, .int .i64 0]) 3 24 Tryz.underlying179 hi hz0 hz1 hz2 rfl (by decide) _ _ _ rfl ((q1.alloc _).alloc _) ⟨wi.heap.size + 1, 0, none⟩ 1 1 (chCells pos [(some 0xFFFD, List.take k (s.data.toList.drop pos))]) rfl rfl ?c1 ?c2 ?c3 ?c4 ?c5 ?_))
     case c1 => exact cells_new _ _ _ _ (by simp)
     case c2 => intro u hu; simp [chCells_one] at hu; rcases hu with rfl | rfl | rfl <;> rfl
     case c3 => unfold maxLen; omega
     case c4 => omega
     case c5 => simp; omega
     intro v' w2 hown2 hgrow2 _
     have hfin := FIN.out (some 0xFFFD, List.take k (s.data.toList.drop pos)) v' w2 rfl hown2
      (Below.grown (((q2.alloc (Nat.le_of_lt q4) _).alloc (by simp; omega) _)) hgrow2 (by simp; omega) (fun k hk => Nat.le_of_succ_le (q1.lt k hk).1))
      ((hgrow2.block w.heap.size (by simp; omega) (fun e => by have := (q1.lt _ e.symm).1; omega)).trans
       ((Below.heap_alloc _ _ _ (by simp; omega)).trans ((Below.heap_alloc _ _ _ q4).trans Q3.out)))
     clear hown2 hgrow2
     have HF := Lib.hid hfin
     clear hfin
     go_wp2
     first | exact HF.out | exact ⟨by (repeat apply Exists.intro); exact ⟨HF.out.1, rfl⟩, HF.out.2⟩
    ·have hr1 : ((r : Int) == 65533) = false := by simp; omega
     clear hfp hxd
     go_wp2_with (first | (go_at_call 200; refine (kind_any r _ hrle).mono ?_; rintro e w' ⟨rfl, rfl⟩) | (at_builtin; refine wpList_append_own _ rfl _ _ 179 rfl (w.heap.size + 1) 182 i0 (.agg #[.int .i64 0, .int .i32 0, .int .i64 0]) 3 24 Tryz.underlying179 hi hz0 hz1 hz2 rfl (by decide) _ _ _ rfl ((q1.alloc _).alloc _) ⟨wi.heap.size + 1, 0, none⟩ 1 1 (chCells pos [(some r, List.take k (s.data.toList.drop pos))]) rfl rfl ?c1 ?c2 ?c3 ?c4 ?c5 ?_))
     case c1 => exact cells_new _ _ _ _ (by simp)
     case c2 => intro u hu; simp [chCells_one] at hu; rcases hu with rfl | rfl | rfl <;> rfl
     case c3 => unfold maxLen; omega
     case c4 => omega
     case c5 => simp; omega
     intro v' w2 hown2 hgrow2 _
     have hfin := FIN.out (some r, List.take k (s.data.toList.drop pos)) v' w2 rfl hown2
      (Below.grown (((q2.alloc (Nat.le_of_lt q4) _).alloc (by simp; omega) _)) hgrow2 (by simp; omega) (fun k hk => Nat.le_of_succ_le (q1.lt k hk).1))
      ((hgrow2.block w.heap.size (by simp; omega) (fun e => by have := (q1.lt _ e.symm).1; omega)).trans
       ((Below.heap_alloc _ _ _ (by simp; omega)).trans ((Below.heap_alloc _ _ _ q4).trans Q3.out)))
     clear hown2 hgrow2
     have HF := Lib.hid hfin
     clear hfin
     go_wp2
     first | exact HF.out | exact ⟨by (repeat apply Exists.intro); exact ⟨HF.out.1, rfl⟩, HF.out.2⟩
   | none =>
    rw [hv] at hn hfp FIN
    clear hvl hv
    simp only [Option.getD_none] at hn hfp
    have HP : Hid (Lib.hasPrefix (s.data.toList.drop pos) [239, 191, 189] = false) := hfp.out (by first | trivial | rfl)
    clear hfp
    go_wp2_with (first | (go_at_call 200; refine (kind_any 0xFFFD _ (by omega)).mono ?_; rintro e w' ⟨rfl, rfl⟩) | (go_at_call 201; refine (Tryz.strings_HasPrefix _ _ _).mono ?_; rintro e w' ⟨rfl, rfl⟩; simp only [hxd.out, HP.out]) | (at_builtin; refine wpList_append_own _ rfl _ _ 179 rfl (w.heap.size + 1) 182 i0 (.agg #[.int .i64 0, .int .i32 0, .int .i64 0]) 3 24 Tryz.underlying179 hi hz0 hz1 hz2 rfl (by decide) _ _ _ rfl ((q1.alloc _).alloc _) ⟨wi.heap.size + 1, 0, none⟩ 1 1 (chCells pos [(none, List.take k (s.data.toList.drop pos))]) rfl rfl ?c1 ?c2 ?c3 ?c4 ?c5 ?_))
    case c1 => exact cells_new _ _ _ _ (by simp)
    case c2 => intro u hu; simp [chCells_one] at hu; rcases hu with rfl | rfl | rfl <;> rfl
    case c3 => unfold maxLen; omega
    case c4 => omega
    case c5 => simp; omega
    intro v' w2 hown2 hgrow2 _
    have hfin := FIN.out (none, List.take k (s.data.toList.drop pos)) v' w2 rfl hown2
     (Below.grown (((q2.alloc (Nat.le_of_lt q4) _).alloc (by simp; omega) _)) hgrow2 (by simp; omega) (fun k hk => Nat.le_of_succ_le (q1.lt k hk).1))
     ((hgrow2.block w.heap.size (by simp; omega) (fun e => by have := (q1.lt _ e.symm).1; omega)).trans
      ((Below.heap_alloc _ _ _ (by simp; omega)).trans ((Below.heap_alloc _ _ _ q4).trans Q3.out)))
    clear hown2 hgrow2
    have HF := Lib.hid hfin
    clear hfin
    go_wp2
    first | exact HF.out | exact ⟨by (repeat apply Exists.intro); exact ⟨HF.out.1, rfl⟩, HF.out.2⟩
  ·have hn := fun ty => Lib.run_next_end_at (P := Tryz.prog) wr w.heap.size s pos ty hit hlt
   go_wp2
   go_ret
   have : pos = s.size := by omega
   rw [List.drop_of_length_le (by rw [← Lib.size_eq]; omega), chars_nil, List.append_nil] at hch
   rw [← hch] at hown
   exact ⟨_, rfl, ownsRow_mono hown (by omega), hbel⟩
end Go.Proofs.YtgfmiladfeoldaaGreatDoor
namespace Go.Proofs.YtgfmiladfeoldaaGreatDoor
open Go.RowKit LexP
def colRes (l : Bytes) : Nat × Nat := if (chars l).all notBad then ((chars l).length, 0) else (0, 12)
def ColPost (l : Bytes) (w : World) (e : Ending) (w' : World) : Prop :=
 e = .returned (.tuple #[.int .i64 (colRes l).1, .int .i64 (colRes l).2]) ∧ Below w.heap.size w w'
set_option maxRecDepth 100000 in
set_option maxHeartbeats 1000000 in
theorem columns_big (s : ByteArray) (w : World) (hs : s.size ≤ 67108864) :
  Calls Tryz.prog 91 #[.string s] w (ColPost s.data.toList w) := by
 go_enter Tryz.func91, Tryz.ntmps91
 go_wp2_with fail
 refine (chars_any s _ hs).mono ?_
 rintro e w1 ⟨v, rfl, hown, hbel⟩
 have hN : (chars s.data.toList).length ≤ 67108864 := by have := chars_len s.data.toList; rw [← Lib.size_eq] at this; omega
 have HR : ∀ (a : Nat × Nat), a = colRes s.data.toList → ColPost s.data.toList w (.returned (.tuple #[.int .i64 (a.1 : Nat), .int .i64 (a.2 : Nat)])) w1 := fun a ha => ⟨by rw [ha], hbel⟩
 have HC : colRes s.data.toList = if (chars s.data.toList).all notBad then ((chars s.data.toList).length, 0) else (0, 12) := rfl
 generalize chars s.data.toList = cs at *
 have HR := Lib.hid HR
 have HC := Lib.hid HC
 obtain ⟨ao, cap, rfl, hnc, hcm, hsh⟩ := ownsRow_shape hown
 go_wp2_with fail
 have HSH := Lib.hid hsh
 have HB := Lib.hid hbel
 clear hown hsh hbel
 go_loopw [4, 10] (fun n i wr => ∃ k : Nat, k ≤ cs.length ∧ n = .int .i64 k ∧ i = .int .i64 k ∧ Below w1.heap.size w1 wr ∧ (cs.take k).all notBad = true) (fun _ i _ => cs.length - (intOf i).toNat)
 case atStart => exact ⟨0, Nat.zero_le _, rfl, rfl, Below.refl _ _, rfl⟩
 case round =>
  obtain ⟨k, hk, rfl, rfl, hbk, hall⟩ := hrel
  have HALL := Lib.hid hall
  clear hall
  by_cases hlt : k < cs.length
  ·obtain ⟨c, hc⟩ : ∃ c, cs[k]? = some c := ⟨cs[k], List.getElem?_eq_getElem hlt⟩
   obtain ⟨g, rfl, hbg, hgs, hcell⟩ := HSH.out (by omega)
   obtain ⟨c1, c2, c3⟩ := chCells_at cs 0 k c hc
   have e1 : wr.cell? ⟨g, k * 3, none⟩ = some (.int .i64 (kd c : Nat)) := by rw [hbk.cell (p := ⟨g, _, none⟩) hgs, hcell _ (by omega)]; exact c1
   have e2 : wr.cell? ⟨g, k * 3 + 1, none⟩ = some (.int .i32 (rn c : Nat)) := by rw [hbk.cell (p := ⟨g, _, none⟩) hgs, hcell _ (by omega)]; exact c2
   have e3 : wr.cell? ⟨g, k * 3 + 2, none⟩ = some (.int .i64 (0 + (bytesOf (cs.take k)).length : Nat)) := by rw [hbk.cell (p := ⟨g, _, none⟩) hgs, hcell _ (by omega)]; exact c3
   have hz := hbk.size
   clear c1 c2 c3 hcell HSH
   have HCK := Lib.hid hc
   clear hc
   by_cases hb : kd c = 0
   ·have hb1 : ((kd c : Int) == 0) = true := by simp [hb]
    have HBD := Lib.hid hb
    clear hb
    go_wp2
    go_ret2
    have : cs.all notBad = false := by
     rw [List.all_eq_false]
     exact ⟨c, List.mem_of_getElem? HCK.out, by simp [notBad, HBD.out]⟩
    obtain ⟨h1, h2⟩ := HR.out (0, 12) (by rw [HC.out, this]; rfl)
    exact ⟨h1, h2.trans ((hbk.mono HB.out.size).alloc (by have := HB.out.size; omega) _)⟩
   ·have hb1 : ((kd c : Int) == 0) = false := by simp [hb]
    go_wp2
    exact ⟨⟨k + 1, by omega, by go_num, by go_num, hbk.alloc hz _, by rw [List.take_add_one, HCK.out]; simp [HALL.out, notBad, hb]⟩, by simp [intOf]; omega⟩
  ·go_wp2
   go_ret2
   have hk' : k = cs.length := by omega
   have h1 := HALL.out
   rw [hk', List.take_length] at h1
   obtain ⟨h1, h2⟩ := HR.out (cs.length, 0) (by rw [HC.out, h1]; rfl)
   rw [hk']
   exact ⟨h1, h2.trans (hbk.mono HB.out.size)⟩
end Go.Proofs.YtgfmiladfeoldaaGreatDoor
