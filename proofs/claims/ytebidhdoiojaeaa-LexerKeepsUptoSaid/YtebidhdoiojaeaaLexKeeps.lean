/- LexerKeeps, for arguments of bulk at most 1048576: lists that are answered have memory of their own; what is written into them changes no later answer. -/
import Derived.Test.YtebidhdoiojaeaaKeepMark
import Derived.Test.YtebidhdoiojaeaaLexAll
import Derived.Test.YtebidhdoiojaeaaLexRow
namespace Go.Proofs.Ytebidhdoiojaeaa
open Go.ChangeShapes Go.WideShapes Go.ChangeAt Go.RowKit LexP
open Go.ChangeMaps (open_string shut_string)

theorem LS.start {B : Nat} {w : World} {e : TypeId} {sz c : Nat} {f : Nat → Value} {v : Value} {n : Nat} {L : List Value} (h : w.ownsRow B e sz v n L) : LS B w ⟨e, sz, c, f, v, 0, v, n, 0⟩ :=
  ⟨⟨L, h, fun i hi => absurd hi (Nat.not_lt_zero _)⟩, fun k hk => ⟨(h.lt k hk).1, (h.lt k hk).2, fun i hi => absurd hi (Nat.not_lt_zero _)⟩⟩

theorem mk_of {B : Nat} {W : World} {va vb vx vy : Value} {na nb nx ny : Nat} {La Lb Lx' Ly : List Value} {p1 p2 q1 q2 r1 r2 t1 t2 : Nat}
    (ha : W.ownsRow B 9 1 va na La) (hb : W.ownsRow B 9 1 vb nb Lb) (hx : W.ownsRow B 46 3 vx nx Lx') (hy : W.ownsRow B 46 3 vy ny Ly) (hB : B ≤ W.heap.size)
    (ia : ∀ k, va.ownBlock = some k → p1 ≤ k ∧ k < p2) (ib : ∀ k, vb.ownBlock = some k → q1 ≤ k ∧ k < q2) (ix : ∀ k, vx.ownBlock = some k → r1 ≤ k ∧ k < r2) (iy : ∀ k, vy.ownBlock = some k → t1 ≤ k ∧ k < t2)
    (ab : p2 ≤ q1 ∨ q2 ≤ p1) (ax : p2 ≤ r1 ∨ r2 ≤ p1) (ay : p2 ≤ t1 ∨ t2 ≤ p1) (bx : q2 ≤ r1 ∨ r2 ≤ q1) (by' : q2 ≤ t1 ∨ t2 ≤ q1) (xy : r2 ≤ t1 ∨ t2 ≤ r1) :
    Hid (MK B W W va 0 va na 0 vb 0 vb nb 0 vx 0 vx nx 0 vy 0 vy ny 0) := by
  have ap : ∀ {v u : Value}, (∀ k, v.ownBlock = some k → u.ownBlock ≠ some k) → ∀ {e e' : TypeId} {sz c sz' c' n n' : Nat} {f f' : Nat → Value}, Ap ⟨e, sz, c, f, v, 0, v, n, 0⟩ ⟨e', sz', c', f', u, 0, u, n', 0⟩ := by
    intro v u h e e' sz c sz' c' n n' f f' k h1 h2
    have h1' : v.ownBlock = some k := by rcases h1 with h | h <;> exact h
    have h2' : u.ownBlock = some k := by rcases h2 with h | h <;> exact h
    exact h k h1' h2'
  refine ⟨Below.refl _ _, hB, LS.start ha, LS.start hb, LS.start hx, LS.start hy, ap ?_, ap ?_, ap ?_, ap ?_, ap ?_, ap ?_⟩
  all_goals intro k h1 h2
  · have := ia k h1; have := ib k h2; omega
  · have := ia k h1; have := ix k h2; omega
  · have := ia k h1; have := iy k h2; omega
  · have := ib k h1; have := ix k h2; omega
  · have := ib k h1; have := iy k h2; omega
  · have := ix k h1; have := iy k h2; omega

/-- The lists in the order a, b, x, y in which they were made. -/
theorem mk_start {w3 w4 w5 w6 w7 W : World} {va vb vx vy : Value} {na nb nx ny : Nat} {La Lb Lx' Ly : List Value}
    (ha : w4.ownsRow w3.heap.size 9 1 va na La) (hb : w5.ownsRow w4.heap.size 9 1 vb nb Lb) (hx : w6.ownsRow w5.heap.size 46 3 vx nx Lx') (hy : w7.ownsRow w6.heap.size 46 3 vy ny Ly)
    (b4 : Below w3.heap.size w3 w4) (b5 : Below w4.heap.size w4 w5) (b6 : Below w5.heap.size w5 w6) (b7 : Below w6.heap.size w6 w7) (bW : Below w7.heap.size w7 W) :
    Hid (MK w3.heap.size W W va 0 va na 0 vb 0 vb nb 0 vx 0 vx nx 0 vy 0 vy ny 0) := by
  have c6 := b7.trans (bW.mono b7.size)
  have c5 := b6.trans (c6.mono b6.size)
  have c4 := b5.trans (c5.mono b5.size)
  have c3 := b4.trans (c4.mono b4.size)
  have z3 := b4.size
  have z4 := b5.size
  have z5 := b6.size
  exact mk_of (ownsRow_below ha c4 (Nat.le_refl _)) (ownsRow_mono (ownsRow_below hb c5 (Nat.le_refl _)) z3) (ownsRow_mono (ownsRow_below hx c6 (Nat.le_refl _)) (by omega)) (ownsRow_mono (ownsRow_below hy bW (Nat.le_refl _)) (by omega)) c3.size
    ha.lt hb.lt hx.lt hy.lt (.inl (Nat.le_refl _)) (.inl z4) (.inl (by omega)) (.inl (Nat.le_refl _)) (.inl z5) (.inl (Nat.le_refl _))

/-- The lists in the order a, x, b, y. -/
theorem mk_start' {w3 w4 w5 w6 w7 W : World} {va vb vx vy : Value} {na nb nx ny : Nat} {La Lb Lx' Ly : List Value}
    (ha : w4.ownsRow w3.heap.size 9 1 va na La) (hx : w5.ownsRow w4.heap.size 46 3 vx nx Lx') (hb : w6.ownsRow w5.heap.size 9 1 vb nb Lb) (hy : w7.ownsRow w6.heap.size 46 3 vy ny Ly)
    (b4 : Below w3.heap.size w3 w4) (b5 : Below w4.heap.size w4 w5) (b6 : Below w5.heap.size w5 w6) (b7 : Below w6.heap.size w6 w7) (bW : Below w7.heap.size w7 W) :
    Hid (MK w3.heap.size W W va 0 va na 0 vb 0 vb nb 0 vx 0 vx nx 0 vy 0 vy ny 0) := by
  have c6 := b7.trans (bW.mono b7.size)
  have c5 := b6.trans (c6.mono b6.size)
  have c4 := b5.trans (c5.mono b5.size)
  have c3 := b4.trans (c4.mono b4.size)
  have z3 := b4.size
  have z4 := b5.size
  have z5 := b6.size
  exact mk_of (ownsRow_below ha c4 (Nat.le_refl _)) (ownsRow_mono (ownsRow_below hb c6 (Nat.le_refl _)) (by omega)) (ownsRow_mono (ownsRow_below hx c5 (Nat.le_refl _)) z3) (ownsRow_mono (ownsRow_below hy bW (Nat.le_refl _)) (by omega)) c3.size
    ha.lt hb.lt hx.lt hy.lt (.inl z4) (.inl (Nat.le_refl _)) (.inl (by omega)) (.inr (Nat.le_refl _)) (.inl (Nat.le_refl _)) (.inl z5)

theorem res_len (l : Bytes) : (resTok (Toks 1 (chars l))).length ≤ l.length := by
  cases h : Toks 1 (chars l) with
  | error e => exact Nat.zero_le _
  | ok m =>
    have h1 := (Toks_bounds _ _ _ h).1
    have h2 := chars_len l
    exact Nat.le_trans h1 h2

set_option maxRecDepth 200000 in
set_option maxHeartbeats 4000000 in
theorem keeps_walk (s t : ByteArray) (w : World) (hs : s.size ≤ 1048576) (ht : t.size ≤ 1048576) (hx : Lx w) :
    Calls Try.prog 6 #[.string s, .string t] w (TrueB w) := by
  have HX := Lib.hid hx
  have nl : (lines s.data.toList).length ≤ 1048576 := by have := lines_len _ s.data.toList (Nat.le_refl _); rw [← Lib.size_eq] at this; omega
  have nt : (resTok (Toks 1 (chars s.data.toList))).length ≤ 1048576 := by have := res_len s.data.toList; rw [← Lib.size_eq] at this; omega
  have ml : (lines t.data.toList).length ≤ 1048576 := by have := lines_len _ t.data.toList (Nat.le_refl _); rw [← Lib.size_eq] at this; omega
  have mt : (resTok (Toks 1 (chars t.data.toList))).length ≤ 1048576 := by have := res_len t.data.toList; rw [← Lib.size_eq] at this; omega
  clear hx
  go_enter Try.func6, Try.ntmps6
  go_wp2_with fail
  refine (awake_any _ HX.out).mono ?_
  rintro e w1 ⟨rfl, hb1⟩
  go_wp2_with fail
  refine (ref_lines_any s _ hs).mono ?_
  rintro e w2 ⟨vw, rfl, how, hb2⟩
  have D2 := hb1.trans (hb2.mono hb1.size)
  go_wp2_with fail
  refine (ref_tokens s _ hs).mono ?_
  rintro e w3 ⟨vm, rfl, hom, hb3⟩
  have D3 := D2.trans (hb3.mono D2.size)
  have WW : Hid (RdSt w3 vw (lines s.data.toList)) := RdSt.below (ownsRow_mono how (Nat.zero_le _)) hb3
  have MM : Hid (RdTk w3 vm (resTok (Toks 1 (chars s.data.toList)))) := ownsRow_mono hom (Nat.zero_le _)
  clear how hom
  go_wp2_with fail
  refine (lines_any s _ hs (HX.out.below D3)).mono ?_
  rintro e w4 ⟨va, rfl, hoa, hb4⟩
  have D4 := D3.trans (hb4.mono D3.size)
  go_wp2_with fail
  refine (lines_any s _ hs (HX.out.below D4)).mono ?_
  rintro e w5 ⟨vb, rfl, hob, hb5⟩
  have D5 := D4.trans (hb5.mono D4.size)
  go_wp2_with fail
  refine (tokens_any s _ hs (HX.out.below D5)).mono ?_
  rintro e w6 ⟨vx, rfl, hox, hb6⟩
  have D6 := D5.trans (hb6.mono D5.size)
  go_wp2_with fail
  refine (tokens_any s _ hs (HX.out.below D6)).mono ?_
  rintro e w7 ⟨vy, rfl, hoy, hb7⟩
  have D7 := D6.trans (hb7.mono D6.size)
  have c6 := hb7
  have c5 := hb6.trans (c6.mono hb6.size)
  have c4 := hb5.trans (c5.mono hb5.size)
  have c3 := hb4.trans (c4.mono hb4.size)
  have RA : Hid (RdSt w7 va (lines s.data.toList)) := ownsRow_mono (ownsRow_below hoa c4 (Nat.le_refl _)) (Nat.zero_le _)
  have RB : Hid (RdSt w7 vb (lines s.data.toList)) := ownsRow_mono (ownsRow_below hob c5 (Nat.le_refl _)) (Nat.zero_le _)
  have RX : Hid (RdTk w7 vx (resTok (Toks 1 (chars s.data.toList)))) := ownsRow_mono (ownsRow_below hox c6 (Nat.le_refl _)) (Nat.zero_le _)
  have RY : Hid (RdTk w7 vy (resTok (Toks 1 (chars s.data.toList)))) := ownsRow_mono hoy (Nat.zero_le _)
  have W7 : Hid (RdSt w7 vw (lines s.data.toList)) := WW.out.below c3
  have M7 : Hid (RdTk w7 vm (resTok (Toks 1 (chars s.data.toList)))) := MM.out.below c3
  have MS : Hid (∀ W, Below w7.heap.size w7 W → Hid (MK w3.heap.size W W va 0 va _ 0 vb 0 vb _ 0 vx 0 vx _ 0 vy 0 vy _ 0)) := fun W hW => mk_start hoa hob hox hoy hb4 hb5 hb6 hb7 hW
  obtain ⟨aa, ca, rfl, -, -, pa⟩ := ownsRow_shape hoa
  obtain ⟨ab, cb, rfl, -, -, pb⟩ := ownsRow_shape hob
  obtain ⟨ax, cx, rfl, -, -, px⟩ := ownsRow_shape hox
  obtain ⟨ay, cy, rfl, -, -, py⟩ := ownsRow_shape hoy
  have PA := Lib.hid fun h => (let ⟨g, hg, _⟩ := pa h; ⟨g, hg⟩ : ∃ g, aa = some ⟨g, 0, none⟩)
  have PB := Lib.hid fun h => (let ⟨g, hg, _⟩ := pb h; ⟨g, hg⟩ : ∃ g, ab = some ⟨g, 0, none⟩)
  have PX := Lib.hid fun h => (let ⟨g, hg, _⟩ := px h; ⟨g, hg⟩ : ∃ g, ax = some ⟨g, 0, none⟩)
  have PY := Lib.hid fun h => (let ⟨g, hg, _⟩ := py h; ⟨g, hg⟩ : ∃ g, ay = some ⟨g, 0, none⟩)
  have E3 := Lib.hid D3
  have C7 : Hid (Below w3.heap.size w3 w7) := c3
  have hD3 := D3.size
  clear D3
  have hC7 := c3.size
  clear hoa hob hox hoy hb1 hb2 hb3 hb4 hb5 hb6 hb7 c3 c4 c5 c6 D2 D4 D5 D6 D7 pa pb px py
  go_wp2_with fail
  refine (texts_same _ _ _ _ RA.out W7.out).mono ?_
  rintro e w8 ⟨rfl, hb8⟩
  have RB8 := Lib.hid (RB.out.below hb8)
  have RX8 := Lib.hid (RX.out.below hb8)
  have RY8 := Lib.hid (RY.out.below hb8)
  have W8 := Lib.hid (W7.out.below hb8)
  have M8 := Lib.hid (M7.out.below hb8)
  have F8 := Lib.hid hb8
  clear hb8 RA RB RX RY W7 M7
  go_wp2_with fail
  refine (texts_same _ _ _ _ RB8.out W8.out).mono ?_
  rintro e w9 ⟨rfl, hb9⟩
  have RX9 := Lib.hid (RX8.out.below hb9)
  have RY9 := Lib.hid (RY8.out.below hb9)
  have W9 := Lib.hid (W8.out.below hb9)
  have M9 := Lib.hid (M8.out.below hb9)
  have F9 : Hid (Below w7.heap.size w7 w9) := F8.out.trans (hb9.mono F8.out.size)
  clear hb9 RB8 RX8 RY8 W8 M8 F8
  go_wp2_with fail
  refine (tokens_same _ _ _ _ RX9.out M9.out).mono ?_
  rintro e w10 ⟨rfl, hb10⟩
  have RY10 := Lib.hid (RY9.out.below hb10)
  have W10 := Lib.hid (W9.out.below hb10)
  have M10 := Lib.hid (M9.out.below hb10)
  have F10 : Hid (Below w7.heap.size w7 w10) := F9.out.trans (hb10.mono F9.out.size)
  clear hb10 RX9 RY9 W9 M9 F9
  go_wp2_with fail
  refine (tokens_same _ _ _ _ RY10.out M10.out).mono ?_
  rintro e w11 ⟨rfl, hb11⟩
  have F11 : Hid (Below w7.heap.size w7 w11) := F10.out.trans (hb11.mono F10.out.size)
  clear hb11 RY10 W10 M10 F10
  go_wp2_with fail
  refine (mark_any _ _ _ _ _ _ _ _ _ _ _ _ _ _ ((MS.out _ F11.out).out) PA.out PB.out PX.out PY.out nl nl nt nt).mono ?_
  rintro e w12 ⟨rfl, hb12⟩
  have C12 : Below w3.heap.size w3 w12 := (C7.out.trans (F11.out.mono hC7)).trans hb12
  have E12 : Below w.heap.size w w12 := E3.out.trans (C12.mono hD3)
  have W12 := Lib.hid (WW.out.below C12)
  have M12 := Lib.hid (MM.out.below C12)
  have hX12 := HX.out.below E12
  have X12 := Lib.hid hX12
  have H12 := Lib.hid E12
  have hz12 := E12.size
  clear hb12 C12 E12 hX12 WW MM C7 E3 F11 MS PA PB PX PY
  go_wp2_with fail
  refine (lines_any t _ ht X12.out).mono ?_
  rintro e w13 ⟨vc, rfl, hoc, hb13⟩
  have D13 := hb13
  go_wp2_with fail
  refine (tokens_any t _ ht (X12.out.below D13)).mono ?_
  rintro e w14 ⟨vz, rfl, hoz, hb14⟩
  have D14 := D13.trans (hb14.mono D13.size)
  go_wp2_with fail
  refine (lines_any s _ hs (X12.out.below D14)).mono ?_
  rintro e w15 ⟨vd, rfl, hod, hb15⟩
  have D15 := D14.trans (hb15.mono D14.size)
  go_wp2_with fail
  refine (tokens_any s _ hs (X12.out.below D15)).mono ?_
  rintro e w16 ⟨vv, rfl, hov, hb16⟩
  have D16 := D15.trans (hb16.mono D15.size)
  have c15 := hb16
  have RD : Hid (RdSt w16 vd (lines s.data.toList)) := ownsRow_mono (ownsRow_below hod c15 (Nat.le_refl _)) (Nat.zero_le _)
  have RV : Hid (RdTk w16 vv (resTok (Toks 1 (chars s.data.toList)))) := ownsRow_mono hov (Nat.zero_le _)
  have W16 := Lib.hid (W12.out.below D16)
  have M16 := Lib.hid (M12.out.below D16)
  have MS2 : Hid (∀ W, Below w16.heap.size w16 W → Hid (MK w12.heap.size W W vc 0 vc _ 0 vd 0 vd _ 0 vz 0 vz _ 0 vv 0 vv _ 0)) := fun W hW => mk_start' hoc hoz hod hov hb13 hb14 hb15 hb16 hW
  obtain ⟨ac, cc, rfl, -, -, pc⟩ := ownsRow_shape hoc
  obtain ⟨ad, cd, rfl, -, -, pd⟩ := ownsRow_shape hod
  obtain ⟨az, cz, rfl, -, -, pz⟩ := ownsRow_shape hoz
  obtain ⟨av, cv, rfl, -, -, pv⟩ := ownsRow_shape hov
  have PC := Lib.hid fun h => (let ⟨g, hg, _⟩ := pc h; ⟨g, hg⟩ : ∃ g, ac = some ⟨g, 0, none⟩)
  have PD := Lib.hid fun h => (let ⟨g, hg, _⟩ := pd h; ⟨g, hg⟩ : ∃ g, ad = some ⟨g, 0, none⟩)
  have PZ := Lib.hid fun h => (let ⟨g, hg, _⟩ := pz h; ⟨g, hg⟩ : ∃ g, az = some ⟨g, 0, none⟩)
  have PV := Lib.hid fun h => (let ⟨g, hg, _⟩ := pv h; ⟨g, hg⟩ : ∃ g, av = some ⟨g, 0, none⟩)
  have C16 : Hid (Below w12.heap.size w12 w16) := D16
  have hC16 := D16.size
  clear hoc hod hoz hov hb13 hb14 hb15 hb16 c15 D13 D14 D15 D16 pc pd pz pv
  go_wp2_with fail
  refine (texts_same _ _ _ _ RD.out W16.out).mono ?_
  rintro e w17 ⟨rfl, hb17⟩
  have RV17 := Lib.hid (RV.out.below hb17)
  have M17 := Lib.hid (M16.out.below hb17)
  have F17 := Lib.hid hb17
  clear hb17 RD RV W16 M16
  go_wp2_with fail
  refine (tokens_same _ _ _ _ RV17.out M17.out).mono ?_
  rintro e w18 ⟨rfl, hb18⟩
  have F18 : Hid (Below w16.heap.size w16 w18) := F17.out.trans (hb18.mono F17.out.size)
  clear hb18 RV17 M17 F17
  go_wp2_with fail
  refine (mark_any _ _ _ _ _ _ _ _ _ _ _ _ _ _ ((MS2.out _ F18.out).out) PC.out PD.out PZ.out PV.out ml nl mt nt).mono ?_
  rintro e w19 ⟨rfl, hb19⟩
  have C19 : Below w12.heap.size w12 w19 := (C16.out.trans (F18.out.mono hC16)).trans hb19
  have E19 : Hid (Below w.heap.size w w19) := H12.out.trans (C19.mono hz12)
  clear hb19 C19
  go_wp2_with fail
  go_ret
  exact ⟨rfl, E19.out⟩

theorem small_two {H : Type} {a b : ByteArray} (hk : Rows.uptoSmall H [.lit (.string a.data.toList), .lit (.string b.data.toList)] = true) : a.size ≤ 1048576 ∧ b.size ≤ 1048576 := by
  have h := bulk hk
  simp only [Rows.uptoBulkAll, Rows.uptoBulk] at h
  rw [Lib.size_eq a, Lib.size_eq b]
  omega

theorem keeps_row {H : Type} (s t : ByteArray) (w : World) (hk : Rows.uptoSmall H [.lit (.string s.data.toList), .lit (.string t.data.toList)] = true) (hx : Lx w) :
    Calls Try.prog 6 #[.string s, .string t] w fun e w' => e = .returned (.bool true) ∧ Below w.heap.size w w' :=
  keeps_walk s t w (small_two hk).1 (small_two hk).2 hx

set_option maxRecDepth 100000 in
theorem lexerKeeps_contract (H : Type) (enc : TypeId × Value → H) (W : World) (base : Nat) (args : Array Value) (ds gs : List (DataW H)) (before : List MemPlace)
    (hval : ∀ (j : Nat) t v, Try.f6.params[j]? = some t → args[j]? = some v → Value.okWide Try.prog W .any base t v)
    (hW : DataW.Whole enc Try.prog Try.f6.params.toList Rows.lexerKeepsSpec.vars false W args.toList ds gs before) (hk : Rows.uptoSmall H (ds ++ gs) = true) (hshp : W.ShapedOpen Try.prog) :
    Calls Try.prog 6 args W fun e W' => ∃ v, e = .returned v ∧ Rows.lexerKeepsSpec.post enc Try.prog Try.f6 false true false false W args v W' := by
  have hW' := hW
  obtain ⟨p, q, hA0, hV, rfl, hfz, hnd⟩ := hW
  have hA : DataW.TrodAll enc Try.prog W 0 (fun _ => true) true Try.f6.params.toList args.toList ds p := hA0
  rw [Try.params6] at hA hval
  obtain ⟨v0, vs0, d0, ds0, p0, q0, hargs, rfl, rfl, h0, r0⟩ := trodAll_cons hA
  obtain ⟨v1, vs1, d1, ds1, p1, q1, rfl, rfl, rfl, h1, r1⟩ := trodAll_cons r0
  obtain ⟨rfl, rfl, rfl⟩ := trodAll_nil r1
  obtain rfl : args = #[v0, v1] := by cases args; simp_all
  obtain ⟨rfl, rfl⟩ := trodVars_none hV
  obtain ⟨s0, rfl, rfl, rfl, m0⟩ := open_string Try.underlying9 (hval 0 9 v0 rfl rfl) h0
  obtain ⟨s1, rfl, rfl, rfl, m1⟩ := open_string Try.underlying9 (hval 1 9 v1 rfl rfl) h1
  clear hA0
  simp only [List.append_nil] at hW' hk
  refine (keeps_row s0 s1  W hk (lx_of_shaped hshp)).mono fun e W' ⟨he, bel⟩ => ?_
  subst he
  exact ⟨_, rfl, _, _, _, [], _, [], hW', trodAll_mk1 (shut_bool Try.underlying4 _), (trodAll_cons_mk (shut_string Try.underlying9 m0) (trodAll_cons_mk (shut_string Try.underlying9 m1) trodAll_mk0)), rfl, bel.frame _, fun h => by cases h⟩

set_option maxRecDepth 100000 in
theorem lexerKeeps_lifted (os : Os) (started : os.Started) (H : Type) (enc : TypeId × Value → H) (F : Stop.Interp) :
    ReturnsInHanded {} Try.checked os 6 .any ((Rows.OpenSpec.upto Rows.lexerKeepsSpec).pre6 enc Try.prog Try.f6 Rows.lexerKeepsUptoRow.domain false) (((Rows.OpenSpec.upto Rows.lexerKeepsSpec).at F).post enc Try.prog Try.f6 false true false false) := by
  refine returnsInHanded_of_cond_shaped (C := Try.checked) (s := Rows.OpenSpec.upto Rows.lexerKeepsSpec) (k := Rows.uptoSmall) rfl own started (by kernel_rfl) Try.func6
    (OpenSpec.witness (enc := enc) (C := Try.checked) (s := Rows.OpenSpec.upto Rows.lexerKeepsSpec) (k := Rows.uptoSmall) rfl false ⟨#[], #[.string .empty, .string .empty], []⟩ 8 (by kernel_rfl) (by kernel_rfl) (by kernel_rfl)
      (x := ([.lit (.string []), .lit (.string [])], [], [])) (by kernel_rfl) rfl (by kernel_rfl)) ?_
  intro W base args ds gs before hval hW hk hshp
  exact lexerKeeps_contract H enc W base args ds gs before hval hW hk hshp

/-- The statement. -/
theorem lexerKeeps_proved : Rows.LexerKeepsUptoSaid :=
  OpenClaim.holds_of_cond 6 Try.f6 rfl rfl rfl rfl rfl rfl rfl ⟨rfl, rfl, rfl, rfl, rfl⟩ rfl rfl rfl rfl rfl (by kernel_rfl) Try.func6 (by kernel_rfl)
    (of_decide_eq_true (by kernel_rfl)) (by unfold Func.isWrapper; first | (rw [if_pos (by decide +kernel)]; kernel_rfl) | (rw [if_neg (by decide +kernel)]; exact ⟨rfl, rfl⟩))
    (fun os started H enc _ F => lexerKeeps_lifted os started H enc F)
#print axioms lexerKeeps_proved


end Go.Proofs.Ytebidhdoiojaeaa
