/- LexerColumns, for arguments of bulk at most 1048576: characters add up. -/
import Derived.Test.YtebidhdoiojaeaaLexRow
import Derived.Test.YtebidhdoiojaeaaLexPure2
namespace Go.Proofs.Ytebidhdoiojaeaa
open Go.ChangeShapes Go.WideShapes Go.ChangeAt Go.RowKit LexP
open Go.ChangeMaps (open_string shut_string)

theorem colRes_ok {l : Bytes} (h : (chars l).all notBad = true) : colRes l = ((chars l).length, 0) := by unfold colRes; rw [if_pos h]
theorem colRes_bad {l : Bytes} (h : (chars l).all notBad = false) : colRes l = (0, 12) := by unfold colRes; rw [if_neg (by simp [h])]
theorem zText : colRes [197, 188] = (1, 0) := by kernel_rfl

theorem colRes_both {a b : Bytes} (ha : (chars a).all notBad = true) : colRes (a ++ b) = if (chars b).all notBad then ((chars a).length + (chars b).length, 0) else (0, 12) := by
  unfold colRes
  rw [chars_append_ok a b ha, List.all_append, ha, Bool.true_and, List.length_append]

theorem ba_append (a b : ByteArray) : (a ++ b).data.toList = a.data.toList ++ b.data.toList := by simp

set_option maxRecDepth 100000 in
set_option maxHeartbeats 2000000 in
theorem columns_walk (a b : ByteArray) (w : World) (hs : a.size + b.size ≤ 1048574) (hx : Lx w) :
    Calls Try.prog 5 #[.string a, .string b] w fun e w' => e = .returned (.bool true) ∧ Below w.heap.size w w' := by
  go_enter Try.func5, Try.ntmps5
  go_wp2_with fail
  refine (awake_any _ hx).mono ?_
  rintro e w1 ⟨rfl, hb1⟩
  go_wp2_with fail
  refine (columns_any a _ (by omega)).mono ?_
  rintro e w2 ⟨rfl, hb2⟩
  go_wp2_with fail
  refine (columns_any b _ (by omega)).mono ?_
  rintro e w3 ⟨rfl, hb3⟩
  go_wp2_with fail
  refine (columns_any (a ++ b) _ (by rw [ByteArray.size_append]; omega)).mono ?_
  rintro e w4 ⟨rfl, hb4⟩
  rw [ba_append]
  go_wp2_with fail
  refine (columns_any ⟨#[197, 188]⟩ _ (by decide)).mono ?_
  rintro e w5 ⟨rfl, hb5⟩
  have hz : colRes (⟨#[197, 188]⟩ : ByteArray).data.toList = (1, 0) := zText
  rw [hz]
  have HB : Hid (Below w.heap.size w w5) := by
    show Below _ _ _
    have h1 := hb1.size; have h2 := hb2.size; have h3 := hb3.size
    exact hb1.trans ((hb2.mono h1).trans ((hb3.mono (by omega)).trans ((hb4.mono (by omega)).trans (hb5.mono (by have := hb4.size; omega)))))
  have hsz := Lib.hid (Lib.size_eq a)
  have hsa : a.size ≤ 1048574 := by omega
  obtain ⟨m, em, hA⟩ : ∃ m em, colRes a.data.toList = (m, em) := ⟨_, _, rfl⟩
  obtain ⟨n, en, hB⟩ : ∃ n en, colRes b.data.toList = (n, en) := ⟨_, _, rfl⟩
  obtain ⟨k3, ek, hC⟩ : ∃ k3 ek, colRes (a.data.toList ++ b.data.toList) = (k3, ek) := ⟨_, _, rfl⟩
  have hcase : (em = 12 ∧ m = 0) ∨ (em = 0 ∧ en = 12 ∧ n = 0 ∧ k3 = 0 ∧ ek = 12) ∨ (em = 0 ∧ en = 0 ∧ ek = 0 ∧ m = leads a.data.toList ∧ k3 = m + n) := by
    cases ha : (chars a.data.toList).all notBad with
    | false => rw [colRes_bad ha] at hA; simp at hA; omega
    | true =>
      have hL := leads_chars _ ha
      rw [colRes_ok ha] at hA
      rw [colRes_both ha] at hC
      simp only [Prod.mk.injEq] at hA
      cases hb : (chars b.data.toList).all notBad with
      | false =>
        rw [colRes_bad hb] at hB; rw [hb] at hC; simp at hB hC; omega
      | true =>
        rw [colRes_ok hb] at hB; rw [hb] at hC; simp at hB hC; omega
  have hmn : m ≤ 1048576 ∧ n ≤ 1048576 := by
    have h1 := chars_len a.data.toList
    have h2 := chars_len b.data.toList
    rw [← Lib.size_eq] at h1 h2
    unfold colRes at hA hB
    constructor
    · split at hA <;> simp at hA <;> omega
    · split at hB <;> simp at hB <;> omega
  obtain ⟨hm1, hm2⟩ := hmn
  rw [hA, hB, hC]
  have HC := Lib.hid hcase
  clear hcase hA hB hC hb1 hb2 hb3 hb4 hb5 hx hz hs
  go_wp2_with fail
  go_loop [13, 14] (fun c i => ∃ k : Nat, k ≤ a.size ∧ i = .int .i64 (k : Nat) ∧ c = .int .i64 (leads (a.data.toList.take k) : Nat)) (fun _ i => a.size - (intOf i).toNat)
  case atStart => exact ⟨0, Nat.zero_le _, rfl, rfl⟩
  case round =>
    obtain ⟨k, hk, rfl, rfl⟩ := hrel
    have hle : leads (a.data.toList.take k) ≤ 1048576 := by
      have h1 : leads (a.data.toList.take k) ≤ (a.data.toList.take k).length := by unfold leads; exact List.length_filter_le _ _
      have h2 := hsz.out
      rw [List.length_take] at h1; omega
    by_cases hlt : k < a.size
    · have hlt' : k < a.data.toList.length := by have := hsz.out; omega
      have hst : Hid (leads (a.data.toList.take (k + 1)) = leads (a.data.toList.take k) + if a[k].toNat < 128 ∨ 192 ≤ a[k].toNat then 1 else 0) := by
        show _ = _
        rw [List.take_succ_eq_append_getElem hlt', leads_append]
        congr 1
        have e2 : a.data.toList[k] = a[k] := rfl
        rw [e2]
        by_cases h : a[k].toNat < 128 ∨ 192 ≤ a[k].toNat
        · rw [if_pos h]
          have h' : (decide (a[k].toNat < 128) || decide (192 ≤ a[k].toNat)) = true := by simpa using h
          simp only [leads, List.filter_cons, List.filter_nil, h', if_true, List.length_cons, List.length_nil]
        · rw [if_neg h]
          have h' : (decide (a[k].toNat < 128) || decide (192 ≤ a[k].toNat)) = false := by simpa using h
          simp [leads, List.filter_cons, List.filter_nil, h']
      have hbt := a[k].toNat_lt
      by_cases h1 : a[k].toNat < 128
      · go_wp2
        exact ⟨⟨k + 1, by omega, by go_num, by rw [hst.out, if_pos (.inl h1)]; go_num⟩, by simp [intOf]; omega⟩
      by_cases h2 : 192 ≤ a[k].toNat
      · go_wp2
        exact ⟨⟨k + 1, by omega, by go_num, by rw [hst.out, if_pos (.inr h2)]; go_num⟩, by simp [intOf]; omega⟩
      · go_wp2
        exact ⟨⟨k + 1, by omega, by go_num, by rw [hst.out, if_neg (by omega)]; go_num⟩, by simp [intOf]; omega⟩
    · have hend : Hid (leads (a.data.toList.take k) = leads a.data.toList) := by
        show _ = _
        rw [List.take_of_length_le (by have := hsz.out; omega)]
      rcases HC.out with ⟨rfl, rfl⟩ | ⟨rfl, rfl, rfl, rfl, rfl⟩ | ⟨rfl, rfl, rfl, h1, rfl⟩
      · go_wp2
        go_ret
        exact ⟨rfl, HB.out⟩
      · go_wp2
        go_ret
        exact ⟨rfl, HB.out⟩
      · have h2 : ((m : Int) == (leads (a.data.toList.take k) : Int)) = true := by rw [hend.out]; simp [h1]
        clear h1
        go_wp2
        go_ret
        exact ⟨rfl, HB.out⟩

/-- What the bound says of two texts. -/
theorem small2 {H : Type} {a b : ByteArray} (hk : Rows.uptoSmall H [.lit (.string a.data.toList), .lit (.string b.data.toList)] = true) : a.size + b.size ≤ 1048574 := by
  have h := bulk hk
  simp only [Rows.uptoBulkAll, Rows.uptoBulk] at h
  rw [Lib.size_eq a, Lib.size_eq b]
  omega
set_option maxRecDepth 100000 in
theorem lexerColumns_contract (H : Type) (enc : TypeId × Value → H) (W : World) (base : Nat) (args : Array Value) (ds gs : List (DataW H)) (before : List MemPlace)
    (hval : ∀ (j : Nat) t v, Try.f5.params[j]? = some t → args[j]? = some v → Value.okWide Try.prog W .any base t v)
    (hW : DataW.Whole enc Try.prog Try.f5.params.toList Rows.lexerColumnsSpec.vars false W args.toList ds gs before) (hk : Rows.uptoSmall H (ds ++ gs) = true) (hshp : W.ShapedOpen Try.prog) :
    Calls Try.prog 5 args W fun e W' => ∃ v, e = .returned v ∧ Rows.lexerColumnsSpec.post enc Try.prog Try.f5 false true false false W args v W' := by
  have hW' := hW
  obtain ⟨p, q, hA0, hV, rfl, hfz, hnd⟩ := hW
  have hA : DataW.TrodAll enc Try.prog W 0 (fun _ => true) true Try.f5.params.toList args.toList ds p := hA0
  rw [Try.params5] at hA hval
  obtain ⟨v0, vs0, d0, ds0, p0, q0, hargs, rfl, rfl, h0, r0⟩ := trodAll_cons hA
  obtain ⟨v1, vs1, d1, ds1, p1, q1, rfl, rfl, rfl, h1, r1⟩ := trodAll_cons r0
  obtain ⟨rfl, rfl, rfl⟩ := trodAll_nil r1
  obtain rfl : args = #[v0, v1] := by cases args; simp_all
  obtain ⟨rfl, rfl⟩ := trodVars_none hV
  obtain ⟨s0, rfl, rfl, rfl, m0⟩ := open_string Try.underlying9 (hval 0 9 v0 rfl rfl) h0
  obtain ⟨s1, rfl, rfl, rfl, m1⟩ := open_string Try.underlying9 (hval 1 9 v1 rfl rfl) h1
  clear hA0
  simp only [List.append_nil] at hW' hk
  refine (columns_walk s0 s1  W (small2 hk) (lx_of_shaped hshp)).mono fun e W' ⟨he, bel⟩ => ?_
  subst he
  exact ⟨_, rfl, _, _, _, [], _, [], hW', trodAll_mk1 (shut_bool Try.underlying4 _), (trodAll_cons_mk (shut_string Try.underlying9 m0) (trodAll_cons_mk (shut_string Try.underlying9 m1) trodAll_mk0)), rfl, bel.frame _, fun h => by cases h⟩

set_option maxRecDepth 100000 in
theorem lexerColumns_lifted (os : Os) (started : os.Started) (H : Type) (enc : TypeId × Value → H) (F : Stop.Interp) :
    ReturnsInHanded {} Try.checked os 5 .any ((Rows.OpenSpec.upto Rows.lexerColumnsSpec).pre6 enc Try.prog Try.f5 Rows.lexerColumnsUptoRow.domain false) (((Rows.OpenSpec.upto Rows.lexerColumnsSpec).at F).post enc Try.prog Try.f5 false true false false) := by
  refine returnsInHanded_of_cond_shaped (C := Try.checked) (s := Rows.OpenSpec.upto Rows.lexerColumnsSpec) (k := Rows.uptoSmall) rfl own started (by kernel_rfl) Try.func5
    (OpenSpec.witness (enc := enc) (C := Try.checked) (s := Rows.OpenSpec.upto Rows.lexerColumnsSpec) (k := Rows.uptoSmall) rfl false ⟨#[], #[.string .empty, .string .empty], []⟩ 8 (by kernel_rfl) (by kernel_rfl) (by kernel_rfl)
      (x := ([.lit (.string []), .lit (.string [])], [], [])) (by kernel_rfl) rfl (by kernel_rfl)) ?_
  intro W base args ds gs before hval hW hk hshp
  exact lexerColumns_contract H enc W base args ds gs before hval hW hk hshp

/-- The statement. -/
theorem lexerColumns_proved : Rows.LexerColumnsUptoSaid :=
  OpenClaim.holds_of_cond 5 Try.f5 rfl rfl rfl rfl rfl rfl rfl ⟨rfl, rfl, rfl, rfl, rfl⟩ rfl rfl rfl rfl rfl (by kernel_rfl) Try.func5 (by kernel_rfl)
    (of_decide_eq_true (by kernel_rfl)) (by unfold Func.isWrapper; first | (rw [if_pos (by decide +kernel)]; kernel_rfl) | (rw [if_neg (by decide +kernel)]; exact ⟨rfl, rfl⟩))
    (fun os started H enc _ F => lexerColumns_lifted os started H enc F)
#print axioms lexerColumns_proved

end Go.Proofs.Ytebidhdoiojaeaa
