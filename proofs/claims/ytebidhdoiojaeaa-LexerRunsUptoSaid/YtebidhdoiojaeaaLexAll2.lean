/- LexerAll, for arguments of bulk at most 1048576: every call of a script of Lines, Tokens and Columns answers as the document says. -/
import Derived.Test.YtebidhdoiojaeaaLexAll
import Derived.Test.YtebidhdoiojaeaaRowMem
import Derived.Deep.Slices
import Derived.Deep.SlicePairs
import Derived.ChangeSame
namespace Go.Proofs.Ytebidhdoiojaeaa
open Go.ChangeShapes Go.WideShapes Go.ChangeAt Go.RowKit Go.Deep LexP

/-- A script in memory. -/
def RdOp (w : World) (v : Value) (l : List (Int × ByteArray)) : Prop := ∃ ao cap, v = .slice ao l.length cap ∧ l.length ≤ 1048576 ∧
  ∀ i k s, l[i]? = some (k, s) → ∃ b o, ao = some ⟨b, o, none⟩ ∧ b < w.heap.size ∧ w.cell? ⟨b, o + i * 2, none⟩ = some (.int .i64 k) ∧ w.cell? ⟨b, o + i * 2 + 1, none⟩ = some (.string s) ∧ s.size ≤ 1048576

set_option maxRecDepth 100000 in
set_option maxHeartbeats 1000000 in
theorem upto_any (v : Value) (l : List (Int × ByteArray)) (w : World) (hv : RdOp w v l) (hx : Lx w) :
    Calls Try.prog 23 #[v, .int .i64 1, .int .i64 3] w (TrueB w) := by
  obtain ⟨ao, cap, rfl, hl, hsh⟩ := hv
  have HS := Lib.hid hsh
  have HX := Lib.hid hx
  clear hsh hx
  go_enter Try.func23, Try.ntmps23
  go_wp2_with fail
  refine (awake_any _ HX.out).mono ?_
  rintro e w1 ⟨rfl, hb1⟩
  have HB1 := Lib.hid hb1
  have hz1 := hb1.size
  clear hb1
  go_wp2_with fail
  go_loopw [7] (fun i wr => ∃ k : Nat, k ≤ l.length ∧ i = .int .i64 (k : Nat) ∧ Below w.heap.size w wr) (fun i _ => l.length - (intOf i).toNat)
  case atStart => exact ⟨0, Nat.zero_le _, rfl, HB1.out⟩
  case round =>
    obtain ⟨k, hk, rfl, hb⟩ := hrel
    have HB := Lib.hid hb
    have hzz := hb.size
    by_cases hlt : k < l.length
    · obtain ⟨⟨q, s⟩, hc⟩ : ∃ c, l[k]? = some c := ⟨_, List.getElem?_eq_getElem hlt⟩
      obtain ⟨b, o, rfl, hbs, e1, e2, hs⟩ := HS.out k q s hc
      rw [← hb.cell (p := ⟨b, _, none⟩) hbs] at e1 e2
      clear hc HS hb
      by_cases h1 : 1 ≤ q
      · by_cases h3 : q ≤ 3
        · go_wp2_with fail
          refine (right_any q s _ hs (HX.out.below HB.out)).mono ?_
          rintro e w2 ⟨rfl, hb2⟩
          have HB2 : Hid (Below w.heap.size w w2) := HB.out.trans (hb2.mono hzz)
          clear hb2
          go_wp2_with fail
          exact ⟨⟨k + 1, by omega, by go_num, HB2.out⟩, by simp [intOf]; omega⟩
        · go_wp2_with fail
          exact ⟨⟨k + 1, by omega, by go_num, HB.out⟩, by simp [intOf]; omega⟩
      · go_wp2_with fail
        exact ⟨⟨k + 1, by omega, by go_num, HB.out⟩, by simp [intOf]; omega⟩
    · go_wp2_with fail
      go_ret
      exact ⟨rfl, hb⟩

set_option maxRecDepth 100000 in
set_option maxHeartbeats 1000000 in
theorem all_walk (v : Value) (l : List (Int × ByteArray)) (w : World) (hv : RdOp w v l) (hx : Lx w) :
    Calls Try.prog 8 #[v] w (TrueB w) := by
  have HV := Lib.hid hv
  have HX := Lib.hid hx
  clear hv hx
  go_enter Try.func8, Try.ntmps8
  go_wp2_with fail
  refine (upto_any v l _ HV.out HX.out).mono ?_
  rintro e w2 ⟨rfl, hb2⟩
  have HB2 := Lib.hid hb2
  clear hb2
  go_wp2_with fail
  go_ret
  exact ⟨rfl, HB2.out⟩

theorem Try.cellsOp : Try.prog.cellsOf 72 = 2 := by kernel_rfl
theorem Try.cellsInt : Try.prog.cellsOf 3 = 1 := by kernel_rfl
theorem Try.cellsStr : Try.prog.cellsOf 9 = 1 := by kernel_rfl

theorem bulk_all {H : Type} {d : DataW H} {l : List (DataW H)} (h : d ∈ l) : Rows.uptoBulk d ≤ Rows.uptoBulkAll l := by
  induction l with
  | nil => cases h
  | cons x r ih =>
    simp only [Rows.uptoBulkAll]
    cases List.mem_cons.1 h with
    | inl e => subst e; omega
    | inr e => have := ih e; omega
theorem bulk_one {H : Type} (d : DataW H) : 1 ≤ Rows.uptoBulk d := by
  cases d with
  | lit l => cases l <;> simp [Rows.uptoBulk]
  | nil => simp [Rows.uptoBulk]
  | ptr d => simp [Rows.uptoBulk]
  | slice elems spare => simp [Rows.uptoBulk]
  | agg parts => simp [Rows.uptoBulk]
  | iface t d => simp [Rows.uptoBulk]
  | map entries => simp [Rows.uptoBulk]
  | held h => simp [Rows.uptoBulk]
theorem bulk_len {H : Type} (l : List (DataW H)) : l.length ≤ Rows.uptoBulkAll l := by
  induction l with
  | nil => simp [Rows.uptoBulkAll]
  | cons x r ih => have := bulk_one x; simp only [Rows.uptoBulkAll, List.length_cons]; omega

/-- The argument, opened. -/
theorem open_ops {H : Type} {enc : TypeId × Value → H} {W : World} {v : Value} {d : DataW H} {p : List MemPlace} {c : Value} (hc : v.cells.toList = [c]) (hcv : v = c)
    (h : DataW.Trod enc Try.prog W 0 (fun _ => true) true 40 v d p) (hk : Rows.uptoBulkAll [d] ≤ 1048576) (hlt : ∀ x ∈ p, x.block < W.heap.size) :
    ∃ l, RdOp W v l := by
  obtain ⟨n, h⟩ := h
  rw [hc] at h
  subst hcv
  rcases open_slice_pairs Try.underlying40 Try.underlying72 Try.cellsOp rfl rfl Try.cellsInt Try.cellsStr h with ⟨hv, hx⟩ | ⟨a, len, cap, m, k, V0, V1, D0, D1, P0, P1, hv, _, hl, hm, hmm, hx, hall⟩
  · simp only [List.cons.injEq, and_true] at hv
    subst hv
    exact ⟨[], none, 0, rfl, Nat.zero_le _, fun i k s h => by simp at h⟩
  · simp only [List.cons.injEq, and_true] at hv
    subst hv
    simp only [if_true] at hmm
    subst hmm
    simp only [Prod.mk.injEq] at hx
    obtain ⟨rfl, rfl⟩ := hx
    have hint : ∀ i, i < m → ∃ Ni, V0 i = .int .i64 Ni := fun i hi => by
      obtain ⟨Ni, h1, _, _⟩ := DataW.trod_int Try.underlying3 (hall i hi).2.2.1
      simp only [List.cons.injEq, and_true] at h1
      exact ⟨Ni, h1⟩
    have hstr : ∀ i, i < m → ∃ s : ByteArray, V1 i = .string s ∧ D1 i = .lit (.string s.data.toList) := fun i hi => by
      obtain ⟨s, h1, h2⟩ := DataW.trod_string Try.underlying9 (hall i hi).2.2.2
      simp only [List.cons.injEq, and_true] at h1
      simp only [Prod.mk.injEq] at h2
      exact ⟨s, h1, h2.1.1⟩
    have hbl : len ≤ 1048576 ∧ ∀ i, i < len → Rows.uptoBulk (D1 i) ≤ 1048576 := by
      simp only [Rows.uptoBulkAll, Rows.uptoBulk] at hk
      have h1 := bulk_len ((List.range len).map fun i => (DataW.agg [D0 i, D1 i] : DataW H))
      simp only [List.length_map, List.length_range] at h1
      refine ⟨by omega, fun i hi => ?_⟩
      have h2 := bulk_all (d := (DataW.agg [D0 i, D1 i] : DataW H)) (l := (List.range len).map fun i => (DataW.agg [D0 i, D1 i] : DataW H)) (List.mem_map.2 ⟨i, List.mem_range.2 hi, rfl⟩)
      simp only [Rows.uptoBulk, Rows.uptoBulkAll] at h2
      omega
    refine ⟨(List.range len).map fun i => ((match V0 i with | .int _ n => n | _ => 0), (match V1 i with | .string s => s | _ => .empty)), some a, m, by simp, by simpa using hbl.1, ?_⟩
    intro i q s hi
    simp only [List.getElem?_map, Option.map_eq_some_iff] at hi
    obtain ⟨j, hj, hjs⟩ := hi
    have hil : i < len := by
      have := (List.getElem?_eq_some_iff.1 hj).1
      simpa using this
    rw [List.getElem?_range hil] at hj
    obtain rfl := Option.some.inj hj
    obtain ⟨Ni, hN⟩ := hint i (by omega)
    obtain ⟨si, hS, hD⟩ := hstr i (by omega)
    rw [hN, hS] at hjs
    simp only [Prod.mk.injEq] at hjs
    obtain ⟨rfl, rfl⟩ := hjs
    obtain ⟨b, o, spot⟩ := a
    have hspot : spot = none := by simpa [Addr.add] using World.cell?_spot (hall 0 (by omega)).1
    subst hspot
    have c0 := (hall i (by omega)).1
    have c1 := (hall i (by omega)).2.1
    rw [hN] at c0
    rw [hS] at c1
    have hbk : b < W.heap.size := World.block_lt_of_cell? W _ (by simpa [Addr.add_lit] using c0)
    refine ⟨b, o, rfl, hbk, by simpa [Addr.add_lit] using c0, by simpa [Addr.add_lit, Nat.add_assoc] using c1, ?_⟩
    have := hbl.2 i hil
    rw [hD] at this
    simp only [Rows.uptoBulk] at this
    rw [Lib.size_eq]; omega

set_option maxRecDepth 100000 in
theorem lexerAll_contract (H : Type) (enc : TypeId × Value → H) (W : World) (base : Nat) (args : Array Value) (ds gs : List (DataW H)) (before : List MemPlace)
    (hval : ∀ (j : Nat) t v, Try.f8.params[j]? = some t → args[j]? = some v → Value.okWide Try.prog W .any base t v)
    (hW : DataW.Whole enc Try.prog Try.f8.params.toList Rows.lexerAllSpec.vars false W args.toList ds gs before) (hk : Rows.uptoSmall H (ds ++ gs) = true) (hshp : W.ShapedOpen Try.prog) :
    Calls Try.prog 8 args W fun e W' => ∃ v, e = .returned v ∧ Rows.lexerAllSpec.post enc Try.prog Try.f8 false true false false W args v W' := by
  have hW' := hW
  have hlt := hW.lt
  obtain ⟨p, q, hA0, hV, rfl, hfz, hnd⟩ := hW
  have hA : DataW.TrodAll enc Try.prog W 0 (fun _ => true) true Try.f8.params.toList args.toList ds p := hA0
  have hA2 := hA
  rw [Try.params8] at hA hval
  obtain ⟨v0, vs0, d0, ds0, p0, q0, hargs, rfl, rfl, h0, r0⟩ := trodAll_cons hA
  obtain ⟨rfl, rfl, rfl⟩ := trodAll_nil r0
  obtain rfl : args = #[v0] := by cases args; simp_all
  obtain ⟨rfl, rfl⟩ := trodVars_none hV
  obtain ⟨sa, sl, sc, rfl⟩ := okWide_slice Try.underlying40 (hval 0 40 v0 rfl rfl)
  clear hA0
  simp only [List.append_nil] at hW' hk hlt hA2
  obtain ⟨l, hl⟩ := open_ops rfl rfl h0 (of_decide_eq_true hk) hlt
  refine (all_walk _ l W hl (lx_of_shaped hshp)).mono fun e W' ⟨he, bel⟩ => ?_
  subst he
  refine ⟨_, rfl, _, _, _, [], _, [], hW', trodAll_mk1 (shut_bool Try.underlying4 _), trodAll_again bel (DataW.TrodAll.respare kids full (by rw [Try.params8]; decide +kernel) hA2 (fun x hx => decide_eq_true (hlt x hx))) hlt, rfl, bel.frame _, fun h => by cases h⟩

set_option maxRecDepth 100000 in
theorem lexerAll_lifted (os : Os) (started : os.Started) (H : Type) (enc : TypeId × Value → H) (F : Stop.Interp) :
    ReturnsInHanded {} Try.checked os 8 .any ((Rows.OpenSpec.upto Rows.lexerAllSpec).pre6 enc Try.prog Try.f8 Rows.lexerAllUptoRow.domain false) (((Rows.OpenSpec.upto Rows.lexerAllSpec).at F).post enc Try.prog Try.f8 false true false false) := by
  refine returnsInHanded_of_cond_shaped (C := Try.checked) (s := Rows.OpenSpec.upto Rows.lexerAllSpec) (k := Rows.uptoSmall) rfl own started (by kernel_rfl) Try.func8
    (OpenSpec.witness (enc := enc) (C := Try.checked) (s := Rows.OpenSpec.upto Rows.lexerAllSpec) (k := Rows.uptoSmall) rfl false ⟨#[], #[.slice none 0 0], []⟩ 8 (by kernel_rfl) (by kernel_rfl) (by kernel_rfl)
      (x := ([.nil], [], [])) (by kernel_rfl) rfl (by kernel_rfl)) ?_
  intro W base args ds gs before hval hW hk hshp
  exact lexerAll_contract H enc W base args ds gs before hval hW hk hshp

/-- The statement. -/
theorem lexerAll_proved : Rows.LexerAllUptoSaid :=
  OpenClaim.holds_of_cond 8 Try.f8 rfl rfl rfl rfl rfl rfl rfl ⟨rfl, rfl, rfl, rfl, rfl⟩ rfl rfl rfl rfl rfl (by kernel_rfl) Try.func8 (by kernel_rfl)
    (of_decide_eq_true (by kernel_rfl)) (by unfold Func.isWrapper; first | (rw [if_pos (by decide +kernel)]; kernel_rfl) | (rw [if_neg (by decide +kernel)]; exact ⟨rfl, rfl⟩))
    (fun os started H enc _ F => lexerAll_lifted os started H enc F)
#print axioms lexerAll_proved
end Go.Proofs.Ytebidhdoiojaeaa
