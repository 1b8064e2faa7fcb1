/- Walks of package lexer: run with its functions, text, sign. -/
import Derived.Test.YtebidhdoiojaeaaLexW3
namespace Go.Proofs.Ytebidhdoiojaeaa
open Go.RowKit LexP

/-- A function on a character that answers whether p takes it. -/
def Takes (F : Nat) (p : C → Bool) : Prop :=
  (∀ (args : Array Value) (w : World), (callFunc F args).run Try.prog w = .ok (.enter F args) w) ∧ ∀ (c : C) (q : Nat) (w : World), Calls Try.prog F #[.agg #[.int .i64 (kd c : Nat), .int .i32 (rn c : Nat), .int .i64 (q : Nat)]] w fun e w' => e = .returned (.bool (p c)) ∧ Below w.heap.size w w'

theorem takes_notBad : Takes 29 notBad := by
  refine ⟨fun args w => by kernel_rfl, ?_⟩
  intro c q w
  have h : notBad c = !((kd c : Int) == 0) := by unfold notBad; rw [Bool.eq_iff_iff]; simp
  rw [h]
  go_enter Try.func29, Try.ntmps29
  go_wp2
  go_ret
  exact ⟨by simp [bne], (Below.refl _ _).alloc (Nat.le_refl _) _⟩

theorem takes_isNum : Takes 46 isNum := by
  refine ⟨fun args w => by kernel_rfl, ?_⟩
  intro c q w
  cases h : ((kd c : Int) == 3) with
  | true =>
    have hr : isNum c = true := by unfold isNum; simp at h; simp; left; omega
    rw [hr]
    go_enter Try.func46, Try.ntmps46
    go_wp2
    go_ret
    exact ⟨rfl, (Below.refl _ _).alloc (Nat.le_refl _) _⟩
  | false =>
    have hr : isNum c = ((rn c : Int) == 95) := by unfold isNum; rw [Bool.eq_iff_iff]; simp at h ⊢; omega
    rw [hr]
    go_enter Try.func46, Try.ntmps46
    go_wp2
    go_ret
    exact ⟨rfl, (Below.refl _ _).alloc (Nat.le_refl _) _⟩

theorem takes_isAl : Takes 50 isAl := by
  refine ⟨fun args w => by kernel_rfl, ?_⟩
  intro c q w
  cases h : ((kd c : Int) == 3) with
  | true =>
    have hr : isAl c = true := by unfold isAl; simp at h; simp; left; omega
    rw [hr]
    go_enter Try.func50, Try.ntmps50
    go_wp2
    go_ret
    exact ⟨rfl, (Below.refl _ _).alloc (Nat.le_refl _) _⟩
  | false =>
    have hr : isAl c = ((kd c : Int) == 4) := by unfold isAl; rw [Bool.eq_iff_iff]; simp at h ⊢; omega
    rw [hr]
    go_enter Try.func50, Try.ntmps50
    go_wp2
    go_ret
    exact ⟨rfl, (Below.refl _ _).alloc (Nat.le_refl _) _⟩

/-- In the world w the value is a slice of the characters cs, the first of which begins at byte 0. -/
def RdCh (w : World) (v : Value) (cs : List C) : Prop := w.ownsRow 0 57 3 v cs.length (chCells 0 cs)

theorem RdCh.below {w w' : World} {v : Value} {cs : List C} (h : RdCh w v cs) (hb : Below w.heap.size w w') : RdCh w' v cs := ownsRow_below h hb (Nat.le_refl _)

theorem RdCh.shape {w : World} {v : Value} {cs : List C} (h : RdCh w v cs) : ∃ ao cap, v = .slice ao cs.length cap ∧ cs.length ≤ cap ∧ cap ≤ maxLen ∧
    ∀ k c, cs[k]? = some c → ∃ g, ao = some ⟨g, 0, none⟩ ∧ g < w.heap.size ∧ w.cell? ⟨g, k * 3, none⟩ = some (.int .i64 (kd c : Nat)) ∧ w.cell? ⟨g, k * 3 + 1, none⟩ = some (.int .i32 (rn c : Nat)) ∧
      w.cell? ⟨g, k * 3 + 2, none⟩ = some (.int .i64 ((bytesOf (cs.take k)).length : Nat)) := by
  obtain ⟨ao, cap, rfl, hnc, hcm, hsh⟩ := ownsRow_shape h
  refine ⟨ao, cap, rfl, hnc, hcm, fun k c hc => ?_⟩
  have hlt : k < cs.length := (List.getElem?_eq_some_iff.1 hc).1
  obtain ⟨g, rfl, hbg, hgs, hcell⟩ := hsh (by omega)
  obtain ⟨c1, c2, c3⟩ := chCells_at cs 0 k c hc
  exact ⟨g, rfl, hgs, by rw [hcell _ (by omega)]; exact c1, by rw [hcell _ (by omega)]; exact c2, by rw [hcell _ (by omega), c3, Nat.zero_add]⟩

set_option maxRecDepth 100000 in
set_option maxHeartbeats 1000000 in
theorem run_any (F : Nat) (p : C → Bool) (hF : Takes F p) (v : Value) (cs : List C) (i : Nat) (w : World) (hr : RdCh w v cs) (hi : i ≤ cs.length) :
    Calls Try.prog 28 #[v, .int .i64 (i : Nat), .func (.func F) #[] #[]] w fun e w' => e = .returned (.int .i64 (i + runLen p (cs.drop i) : Nat)) ∧ Below w.heap.size w w' := by
  obtain ⟨ao, cap, rfl, hnc, hcm, hsh⟩ := hr.shape
  have HSH := Lib.hid hsh
  have HF := Lib.hid hF.2
  have hcf := hF.1
  have hm : cs.length ≤ 9223372036854775807 := by unfold maxLen at hcm; omega
  clear hsh hF hr hcm
  go_enter Try.func28, Try.ntmps28
  go_wp2_with fail
  go_loopw [1] (fun v wr => ∃ m : Nat, i + m ≤ cs.length ∧ v = .int .i64 (i + m : Nat) ∧ Below w.heap.size w wr ∧ ∀ c ∈ (cs.drop i).take m, p c = true) (fun v _ => cs.length - (intOf v).toNat)
  case atStart => exact ⟨0, by omega, rfl, Below.refl _ _, by simp⟩
  case round =>
    obtain ⟨m, hm2, rfl, hb, hall⟩ := hrel
    have HALL := Lib.hid hall
    clear hall
    by_cases hlt : i + m < cs.length
    · obtain ⟨c, hc⟩ : ∃ c, cs[i + m]? = some c := ⟨cs[i + m], List.getElem?_eq_getElem hlt⟩
      obtain ⟨g, rfl, hgs, e1, e2, e3⟩ := HSH.out _ c hc
      rw [← hb.cell (p := ⟨g, _, none⟩) hgs] at e1 e2 e3
      have HC := Lib.hid hc
      have hz := hb.size
      clear hc HSH
      cases hp : p c with
      | true =>
        have HP := Lib.hid hp
        clear hp
        go_wp2_with (refine (HF.out c _ _).mono ?_; rintro e w' ⟨rfl, hb2⟩; rw [HP.out])
        refine ⟨⟨m + 1, by omega, by go_num, hb.trans (hb2.mono hz), ?_⟩, by simp [intOf]; omega⟩
        intro d hd
        rw [List.take_add_one, List.getElem?_drop, HC.out] at hd
        simp at hd
        rcases hd with hd | rfl
        · exact HALL.out d hd
        · exact HP.out
      | false =>
        have HP := Lib.hid hp
        clear hp
        go_wp2_with (refine (HF.out c _ _).mono ?_; rintro e w' ⟨rfl, hb2⟩; rw [HP.out])
        go_ret
        have hrl := runLen_eq p (cs.drop i) m (by simp; omega) HALL.out (fun d hd => by rw [List.getElem?_drop, HC.out] at hd; cases hd; exact HP.out)
        exact ⟨ret_i64 (by rw [hrl] <;> omega), hb.trans (hb2.mono hz)⟩
    · go_wp2
      go_ret
      have hrl := runLen_eq p (cs.drop i) m (by simp; omega) HALL.out (fun d hd => by rw [List.getElem?_drop, List.getElem?_eq_none (by omega)] at hd; cases hd)
      exact ⟨ret_i64 (by rw [hrl] <;> omega), hb⟩

theorem ret_str {a b : ByteArray} (h : a = b) : Ending.returned (.string a) = .returned (.string b) := by rw [h]

set_option maxRecDepth 100000 in
set_option maxHeartbeats 1000000 in
theorem text_any (s : ByteArray) (v : Value) (i j : Nat) (w : World) (hr : RdCh w v (chars s.data.toList)) (hij : i < j) (hj : j ≤ (chars s.data.toList).length) (_hs : s.size ≤ 4194304) :
    Calls Try.prog 47 #[.string s, v, .int .i64 (i : Nat), .int .i64 (j : Nat)] w fun e w' => e = .returned (.string ⟨(bytesOf (((chars s.data.toList).drop i).take (j - i))).toArray⟩) ∧ ∃ n, w' = w.drewN n := by
  obtain ⟨ao, cap, rfl, hnc, hcm, hsh⟩ := hr.shape
  have hm : (chars s.data.toList).length ≤ 9223372036854775807 := by unfold maxLen at hcm; omega
  obtain ⟨c, hc⟩ : ∃ c, (chars s.data.toList)[i]? = some c := ⟨_, List.getElem?_eq_getElem (by omega)⟩
  obtain ⟨g, rfl, hgs, e1, e2, e3⟩ := hsh _ c hc
  have M := Lib.hid (bytes_mid s.data.toList i j (by omega))
  have T := Lib.hid (bytesOf_chars s.data.toList)
  have b1 := bytes_len (chars s.data.toList) i
  have b2 := bytes_len (chars s.data.toList) j
  rw [T.out, ← Lib.size_eq] at b1 b2
  have b3 : (bytesOf ((chars s.data.toList).take i)).length ≤ (bytesOf ((chars s.data.toList).take j)).length := by
    have := bytes_len ((chars s.data.toList).take j) i
    rw [List.take_take, Nat.min_eq_left (by omega)] at this; exact this
  clear hcm hr hc
  by_cases hlt : j < (chars s.data.toList).length
  · obtain ⟨d, hd⟩ : ∃ d, (chars s.data.toList)[j]? = some d := ⟨_, List.getElem?_eq_getElem hlt⟩
    obtain ⟨g', hg', _, d1, d2, d3⟩ := hsh _ d hd
    cases hg'
    clear hsh hd T
    generalize (bytesOf ((chars s.data.toList).take i)).length = A at *
    generalize (bytesOf ((chars s.data.toList).take j)).length = B at *
    generalize bytesOf (((chars s.data.toList).drop i).take (j - i)) = Z at *
    generalize (chars s.data.toList).length = N at *
    go_enter Try.func47, Try.ntmps47
    go_wp2
    go_quiet (fail)
    go_wp2
    go_ret
    exact ⟨ret_str (by rw [Lib.extract_eq, M.out]), _, rfl⟩
  · have hjn : j = (chars s.data.toList).length := by omega
    have M2 : Hid (s.extract (bytesOf ((chars s.data.toList).take i)).length s.size = ⟨(bytesOf (((chars s.data.toList).drop i).take (j - i))).toArray⟩) := by
      show _ = _
      have h1 := M.out
      rw [hjn, List.take_length, T.out, ← Lib.size_eq] at h1
      rw [Lib.extract_eq, hjn, ← h1]
    clear hsh M T hjn
    generalize (bytesOf ((chars s.data.toList).take i)).length = A at *
    generalize (bytesOf ((chars s.data.toList).take j)).length = B at *
    generalize bytesOf (((chars s.data.toList).drop i).take (j - i)) = Z at *
    generalize (chars s.data.toList).length = N at *
    go_enter Try.func47, Try.ntmps47
    go_wp2
    go_ret
    exact ⟨ret_str M2.out, 0, rfl⟩
end Go.Proofs.Ytebidhdoiojaeaa
