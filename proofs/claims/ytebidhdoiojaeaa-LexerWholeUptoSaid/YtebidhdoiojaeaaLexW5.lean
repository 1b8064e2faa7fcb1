/- Walks of package lexer: sign, next. -/
import Derived.Test.YtebidhdoiojaeaaLexW4
import Derived.Handy
namespace Go.Proofs.Ytebidhdoiojaeaa
open Go.RowKit LexP

/-- A mark below 128 is the one byte that it is. -/
def MarkOk (c : C) : Prop := kd c = 5 → rn c < 128 → c.2 = [(rn c).toUInt8]

theorem encode_small : ∀ r : Fin 128, Utf8.encode (r.val : Int) = ⟨#[r.val.toUInt8]⟩ := by decide +kernel

set_option maxRecDepth 100000 in
theorem sign_any (c : C) (w : World) (hk : kd c = 5) (hc : MarkOk c) :
    Calls Try.prog 51 #[.int .i32 (rn c : Nat)] w fun e w' => e = .returned (.string ⟨(signOf c).toArray⟩) ∧ w = w' := by
  have h5 : rn c = 0x2212 ∨ rn c = 0xd7 ∨ rn c < 128 := by
    unfold kd at hk; unfold rn
    cases hv : c.1 with
    | none => rw [hv] at hk; simp at hk
    | some v =>
      rw [hv] at hk
      simp only at hk ⊢
      unfold kindOf at hk
      repeat' split at hk
      all_goals omega
  by_cases h1 : rn c = 0x2212
  · have hs : signOf c = [45] := by unfold signOf; rw [if_pos h1]
    rw [hs, h1]; clear hs h1 h5 hc hk
    go_enter Try.func51, Try.ntmps51
    go_wp2
    go_ret
    exact ⟨rfl, rfl⟩
  by_cases h2 : rn c = 0xd7
  · have hs : signOf c = [42] := by unfold signOf; rw [if_neg h1, if_pos h2]
    rw [hs, h2]; clear hs h1 h2 h5 hc hk
    go_enter Try.func51, Try.ntmps51
    go_wp2
    go_ret
    exact ⟨rfl, rfl⟩
  have h3 : rn c < 128 := by omega
  have hs : signOf c = [(rn c).toUInt8] := by unfold signOf; rw [if_neg h1, if_neg h2, hc hk h3]
  have he := encode_small ⟨rn c, h3⟩
  simp only at he
  rw [hs]
  have n1 : ((rn c : Int) == 8722) = false := by simp; omega
  have n2 : ((rn c : Int) == 215) = false := by simp; omega
  have HE := Lib.hid he
  clear hs h1 h2 h5 hc hk he
  go_enter Try.func51, Try.ntmps51
  go_wp2
  go_ret
  exact ⟨by rw [HE.out]; rfl, rfl⟩

def nextRes (cs : List C) (i : Nat) (c : C) : Nat × Bytes × Nat × Nat :=
  if kd c = 0 then (0, [], i, 12)
  else if kd c = 3 then (1, bytesOf ((cs.drop i).take (runLen isNum (cs.drop i))), if badNum (bytesOf ((cs.drop i).take (runLen isNum (cs.drop i)))) then (i, 7) else (i + runLen isNum (cs.drop i), 0))
  else if kd c = 4 then (2, bytesOf ((cs.drop i).take (runLen isAl (cs.drop i))), if 32 < (bytesOf ((cs.drop i).take (runLen isAl (cs.drop i)))).length then (i, 17) else (i + runLen isAl (cs.drop i), 0))
  else if kd c = 5 then (3, signOf c, i + 1, 0)
  else (0, [], i, 13)

def NextPost (r : Nat × Bytes × Nat × Nat) (i : Nat) (w : World) (e : Ending) (w' : World) : Prop :=
  e = .returned (.tuple #[.agg #[.int .i64 (r.1 : Nat), .string ⟨r.2.1.toArray⟩, .int .i64 (i + 1 : Nat)], .int .i64 (r.2.2.1 : Nat), .int .i64 (r.2.2.2 : Nat)]) ∧ Below w.heap.size w w'

theorem next_post {r : Nat × Bytes × Nat × Nat} {i : Nat} {w w' : World} (a b c d e : Value) (ha : a = .int .i64 (r.1 : Nat)) (hb : b = .string ⟨r.2.1.toArray⟩) (hc : c = .int .i64 (i + 1 : Nat)) (hd : d = .int .i64 (r.2.2.1 : Nat))
    (he : e = .int .i64 (r.2.2.2 : Nat)) (hw : Below w.heap.size w w') : NextPost r i w (.returned (.tuple #[.agg #[a, b, c], d, e])) w' := by
  subst ha hb hc hd he; exact ⟨rfl, hw⟩

set_option maxRecDepth 100000 in
set_option maxHeartbeats 1000000 in
theorem next_plain (s : ByteArray) (v : Value) (cs : List C) (i : Nat) (c : C) (w : World) (hr : RdCh w v cs) (hc : cs[i]? = some c) (hn : cs.length ≤ 4194304) (hk : kd c = 0 ∨ kd c = 6 ∨ kd c = 5) (hmk : MarkOk c) :
    Calls Try.prog 30 #[.string s, v, .int .i64 (i : Nat)] w (NextPost (nextRes cs i c) i w) := by
  obtain ⟨ao, cap, rfl, hnc, hcm, hsh⟩ := hr.shape
  obtain ⟨g, rfl, hgs, e1, e2, e3⟩ := hsh _ c hc
  have hlt : i < cs.length := (List.getElem?_eq_some_iff.1 hc).1
  clear hsh hr hc hcm
  rcases hk with hk | hk | hk
  · have hres : nextRes cs i c = (0, [], i, 12) := by unfold nextRes; rw [if_pos hk]
    rw [hres]; rw [hk] at e1; clear hres hk
    go_enter Try.func30, Try.ntmps30
    go_wp2
    refine bodyPost_ret (by simp [results, Try.results30, go_sem]; first | rfl | exact ⟨rfl, rfl⟩ | exact ⟨rfl, rfl, rfl⟩) rfl (next_post _ _ _ _ _ rfl rfl (by first | rfl | simp) rfl rfl ?_)
    go_grown
  · have hres : nextRes cs i c = (0, [], i, 13) := by unfold nextRes; simp [hk]
    rw [hres]; rw [hk] at e1; clear hres hk
    go_enter Try.func30, Try.ntmps30
    go_wp2
    refine bodyPost_ret (by simp [results, Try.results30, go_sem]; first | rfl | exact ⟨rfl, rfl⟩ | exact ⟨rfl, rfl, rfl⟩) rfl (next_post _ _ _ _ _ rfl rfl (by first | rfl | simp) rfl rfl ?_)
    go_grown
  · have hres : nextRes cs i c = (3, signOf c, i + 1, 0) := by unfold nextRes; simp [hk]
    have HK := Lib.hid hk
    rw [hres]; rw [hk] at e1; clear hres hk
    go_enter Try.func30, Try.ntmps30
    go_wp2_with (go_at_call 51; refine (sign_any c _ HK.out hmk).mono ?_; rintro e w' ⟨rfl, rfl⟩)
    refine bodyPost_ret (by simp [results, Try.results30, go_sem]; first | rfl | exact ⟨rfl, rfl⟩ | exact ⟨rfl, rfl, rfl⟩) rfl (next_post _ _ _ _ _ rfl rfl (by first | rfl | simp) (by first | rfl | simp) rfl ?_)
    go_grown
end Go.Proofs.Ytebidhdoiojaeaa
