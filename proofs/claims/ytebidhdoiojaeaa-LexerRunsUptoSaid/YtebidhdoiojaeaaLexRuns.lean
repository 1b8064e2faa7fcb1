/- LexerRuns, for arguments of bulk at most 1048576: one run of digits and '_', or of letters and digits, is one token or the fault that it is. -/
import Derived.Test.YtebidhdoiojaeaaRuns1
import Derived.Test.YtebidhdoiojaeaaLexAll2
namespace Go.Proofs.Ytebidhdoiojaeaa
open Go.ChangeShapes Go.WideShapes Go.ChangeAt Go.RowKit Go.Deep LexP

theorem Try.cellsBool : Try.prog.cellsOf 4 = 1 := by kernel_rfl
theorem Try.cellsByte : Try.prog.cellsOf 5 = 1 := by kernel_rfl

/-- The first argument, opened. -/
theorem open_bools {H : Type} {enc : TypeId × Value → H} {W : World} {v : Value} {d : DataW H} {p : List MemPlace} {c : Value} (hc : v.cells.toList = [c]) (hcv : v = c)
    (h : DataW.Trod enc Try.prog W 0 (fun _ => true) true 43 v d p) :
    ∃ l, RdBo W v l ∧ l.length + 1 ≤ Rows.uptoBulk d := by
  obtain ⟨n, h⟩ := h
  rw [hc] at h
  subst hcv
  rcases open_slice1 Try.underlying43 Try.cellsBool h with ⟨hv, hx⟩ | ⟨a, len, cap, m, k, V, D, P, hv, _, hl, hm, hmm, hx, hall⟩
  · simp only [List.cons.injEq, and_true] at hv
    subst hv
    simp only [Prod.mk.injEq] at hx
    obtain ⟨rfl, -⟩ := hx
    exact ⟨[], ⟨none, 0, rfl, fun i k h => by simp at h⟩, by simp [Rows.uptoBulk]⟩
  · simp only [List.cons.injEq, and_true] at hv
    subst hv
    simp only [if_true] at hmm
    subst hmm
    simp only [Prod.mk.injEq] at hx
    obtain ⟨rfl, rfl⟩ := hx
    have hb : ∀ i, i < m → ∃ b, V i = .bool b := fun i hi => by
      obtain ⟨b, h1, _⟩ := DataW.trod_bool Try.underlying4 (hall i hi).2
      simp only [List.cons.injEq, and_true] at h1
      exact ⟨b, h1⟩
    refine ⟨(List.range len).map fun i => (match V i with | .bool b => b | _ => false), ⟨some a, m, by simp, ?_⟩, ?_⟩
    · intro i q hi
      simp only [List.getElem?_map, Option.map_eq_some_iff] at hi
      obtain ⟨j, hj, hjs⟩ := hi
      have hil : i < len := by
        have := (List.getElem?_eq_some_iff.1 hj).1
        simpa using this
      rw [List.getElem?_range hil] at hj
      obtain rfl := Option.some.inj hj
      obtain ⟨b, hb⟩ := hb i (by omega)
      have c0 := (hall i (by omega)).1
      rw [hb] at hjs c0
      simp only at hjs
      subst hjs
      obtain ⟨g, o, spot⟩ := a
      have hspot : spot = none := by simpa [Addr.add] using World.cell?_spot (hall 0 (by omega)).1
      subst hspot
      rw [Addr.add_lit] at c0
      exact ⟨g, o, rfl, World.block_lt_of_cell? W _ c0, c0⟩
    · simp only [Rows.uptoBulk]
      have h1 := bulk_len ((List.range len).map D)
      simp only [List.length_map, List.length_range] at h1 ⊢
      omega

/-- The second argument, opened. -/
theorem open_bytes {H : Type} {enc : TypeId × Value → H} {W : World} {v : Value} {d : DataW H} {p : List MemPlace} {c : Value} (hc : v.cells.toList = [c]) (hcv : v = c)
    (h : DataW.Trod enc Try.prog W 0 (fun _ => true) true 44 v d p) :
    ∃ l, RdBy W v l ∧ l.length + 1 ≤ Rows.uptoBulk d := by
  obtain ⟨n, h⟩ := h
  rw [hc] at h
  subst hcv
  rcases open_slice1 Try.underlying44 Try.cellsByte h with ⟨hv, hx⟩ | ⟨a, len, cap, m, k, V, D, P, hv, _, hl, hm, hmm, hx, hall⟩
  · simp only [List.cons.injEq, and_true] at hv
    subst hv
    simp only [Prod.mk.injEq] at hx
    obtain ⟨rfl, -⟩ := hx
    exact ⟨[], ⟨none, 0, rfl, fun i k h => by simp at h⟩, by simp [Rows.uptoBulk]⟩
  · simp only [List.cons.injEq, and_true] at hv
    subst hv
    simp only [if_true] at hmm
    subst hmm
    simp only [Prod.mk.injEq] at hx
    obtain ⟨rfl, rfl⟩ := hx
    have hb : ∀ i, i < m → ∃ b : UInt8, V i = .int .u8 (b.toNat : Nat) := fun i hi => by
      obtain ⟨b, h1, _, hw⟩ := DataW.trod_int Try.underlying5 (hall i hi).2
      simp only [List.cons.injEq, and_true] at h1
      have hr : IntKind.u8.min ≤ b ∧ b ≤ IntKind.u8.max := by simpa [Lit.wf] using hw
      have e1 : IntKind.u8.min = 0 := rfl
      have e2 : IntKind.u8.max = 255 := rfl
      rw [e1, e2] at hr
      refine ⟨UInt8.ofNat b.toNat, ?_⟩
      rw [h1]
      congr 1
      rw [UInt8.toNat_ofNat']
      omega
    refine ⟨(List.range len).map fun i => (match V i with | .int _ n => UInt8.ofNat n.toNat | _ => 0), ⟨some a, m, by simp, ?_⟩, ?_⟩
    · intro i q hi
      simp only [List.getElem?_map, Option.map_eq_some_iff] at hi
      obtain ⟨j, hj, hjs⟩ := hi
      have hil : i < len := by
        have := (List.getElem?_eq_some_iff.1 hj).1
        simpa using this
      rw [List.getElem?_range hil] at hj
      obtain rfl := Option.some.inj hj
      obtain ⟨b, hb⟩ := hb i (by omega)
      have c0 := (hall i (by omega)).1
      rw [hb] at hjs c0
      simp only [Int.toNat_natCast, UInt8.ofNat_toNat] at hjs
      subst hjs
      obtain ⟨g, o, spot⟩ := a
      have hspot : spot = none := by simpa [Addr.add] using World.cell?_spot (hall 0 (by omega)).1
      subst hspot
      rw [Addr.add_lit] at c0
      exact ⟨g, o, rfl, World.block_lt_of_cell? W _ c0, c0⟩
    · simp only [Rows.uptoBulk]
      have h1 := bulk_len ((List.range len).map D)
      simp only [List.length_map, List.length_range] at h1 ⊢
      omega

set_option maxRecDepth 100000 in
theorem lexerRuns_contract (H : Type) (enc : TypeId × Value → H) (W : World) (base : Nat) (args : Array Value) (ds gs : List (DataW H)) (before : List MemPlace)
    (hval : ∀ (j : Nat) t v, Try.f9.params[j]? = some t → args[j]? = some v → Value.okWide Try.prog W .any base t v)
    (hW : DataW.Whole enc Try.prog Try.f9.params.toList Rows.lexerRunsSpec.vars false W args.toList ds gs before) (hk : Rows.uptoSmall H (ds ++ gs) = true) (hshp : W.ShapedOpen Try.prog) :
    Calls Try.prog 9 args W fun e W' => ∃ v, e = .returned v ∧ Rows.lexerRunsSpec.post enc Try.prog Try.f9 false true false false W args v W' := by
  have hW' := hW
  have hlt := hW.lt
  obtain ⟨p, q, hA0, hV, rfl, hfz, hnd⟩ := hW
  have hA : DataW.TrodAll enc Try.prog W 0 (fun _ => true) true Try.f9.params.toList args.toList ds p := hA0
  have hA2 := hA
  rw [Try.params9] at hA hval
  obtain ⟨v0, vs0, d0, ds0, p0, q0, hargs, rfl, rfl, h0, r0⟩ := trodAll_cons hA
  obtain ⟨v1, vs1, d1, ds1, p1, q1, rfl, rfl, rfl, h1, r1⟩ := trodAll_cons r0
  obtain ⟨rfl, rfl, rfl⟩ := trodAll_nil r1
  obtain rfl : args = #[v0, v1] := by cases args; simp_all
  obtain ⟨rfl, rfl⟩ := trodVars_none hV
  obtain ⟨sa, sl, sc, rfl⟩ := okWide_slice Try.underlying43 (hval 0 43 v0 rfl rfl)
  obtain ⟨sa1, sl1, sc1, rfl⟩ := okWide_slice Try.underlying44 (hval 1 44 v1 rfl rfl)
  clear hA0
  simp only [List.append_nil] at hW' hk hlt hA2
  obtain ⟨l0, hl0, hn0⟩ := open_bools rfl rfl h0
  obtain ⟨l1, hl1, hn1⟩ := open_bytes rfl rfl h1
  have hk2 := bulk hk
  simp only [Rows.uptoBulkAll] at hk2
  refine (runs_walk _ _ l0 l1 W hl0 hl1 (by omega) (lx_of_shaped hshp)).mono fun e W' ⟨he, bel⟩ => ?_
  subst he
  refine ⟨_, rfl, _, _, _, [], _, [], hW', trodAll_mk1 (shut_bool Try.underlying4 _), trodAll_again bel (DataW.TrodAll.respare kids full (by rw [Try.params9]; decide +kernel) hA2 (fun x hx => decide_eq_true (hlt x hx))) hlt, rfl, bel.frame _, fun h => by cases h⟩

set_option maxRecDepth 100000 in
theorem lexerRuns_lifted (os : Os) (started : os.Started) (H : Type) (enc : TypeId × Value → H) (F : Stop.Interp) :
    ReturnsInHanded {} Try.checked os 9 .any ((Rows.OpenSpec.upto Rows.lexerRunsSpec).pre6 enc Try.prog Try.f9 Rows.lexerRunsUptoRow.domain false) (((Rows.OpenSpec.upto Rows.lexerRunsSpec).at F).post enc Try.prog Try.f9 false true false false) := by
  refine returnsInHanded_of_cond_shaped (C := Try.checked) (s := Rows.OpenSpec.upto Rows.lexerRunsSpec) (k := Rows.uptoSmall) rfl own started (by kernel_rfl) Try.func9
    (OpenSpec.witness (enc := enc) (C := Try.checked) (s := Rows.OpenSpec.upto Rows.lexerRunsSpec) (k := Rows.uptoSmall) rfl false ⟨#[], #[.slice none 0 0, .slice none 0 0], []⟩ 8 (by kernel_rfl) (by kernel_rfl) (by kernel_rfl)
      (x := ([.nil, .nil], [], [])) (by kernel_rfl) rfl (by kernel_rfl)) ?_
  intro W base args ds gs before hval hW hk hshp
  exact lexerRuns_contract H enc W base args ds gs before hval hW hk hshp

/-- The statement. -/
theorem lexerRuns_proved : Rows.LexerRunsUptoSaid :=
  OpenClaim.holds_of_cond 9 Try.f9 rfl rfl rfl rfl rfl rfl rfl ⟨rfl, rfl, rfl, rfl, rfl⟩ rfl rfl rfl rfl rfl (by kernel_rfl) Try.func9 (by kernel_rfl)
    (of_decide_eq_true (by kernel_rfl)) (by unfold Func.isWrapper; first | (rw [if_pos (by decide +kernel)]; kernel_rfl) | (rw [if_neg (by decide +kernel)]; exact ⟨rfl, rfl⟩))
    (fun os started H enc _ F => lexerRuns_lifted os started H enc F)
end Go.Proofs.Ytebidhdoiojaeaa
