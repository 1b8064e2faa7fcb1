/- LexerBeside, for arguments of bulk at most 1048576: two lines with a blank between; comments. -/
import Derived.Test.YtebidhdoiojaeaaLexRow
import Derived.Test.YtebidhdoiojaeaaLexShift
import Derived.Test.YtebidhdoiojaeaaLexPure3
namespace Go.Proofs.Ytebidhdoiojaeaa
open Go.ChangeShapes Go.WideShapes Go.ChangeAt Go.RowKit LexP
open Go.ChangeMaps (open_string shut_string)

theorem gap_data (a b : ByteArray) (g : UInt8) : (a ++ ⟨#[g]⟩ ++ b).data.toList = a.data.toList ++ g :: b.data.toList := by simp
theorem hash_data (b : ByteArray) : ((⟨#[35]⟩ : ByteArray) ++ b).data.toList = 35 :: b.data.toList := by simp

/-- The cases that the law parts: does b hold a bad byte; a '#' in a; a fault in a; a fault in b; none. -/
def BesideCases (a b : Bytes) (k n en : Nat) (rA rB rZ rW : Res) : Prop :=
  ((n = (chars b).length ∧ en = 0 ∧ rW = .ok []) ∨ (n = 0 ∧ en = 12 ∧ ∃ c, 2 ≤ c ∧ rW = .error (c, 12))) ∧
  (hasB a 35 = true ∨ (hasB a 35 = false ∧ (
    (∃ c e, 0 < e ∧ rA = .error (c, e) ∧ rZ = .error (c, e)) ∨
    (∃ l c e, 0 < e ∧ colRes a = (k, 0) ∧ rA = .ok l ∧ rB = .error (c, e) ∧ rZ = .error (c + (k + 1), e)) ∨
    (∃ l m, colRes a = (k, 0) ∧ rA = .ok l ∧ rB = .ok m ∧ rZ = .ok (l ++ shiftT (k + 1) m)))))

theorem beside_cases (a b : Bytes) (g : UInt8) (hg : g = 32 ∨ g = 9) :
    BesideCases a b (chars a).length (colRes b).1 (colRes b).2 (Toks 1 (chars a)) (Toks 1 (chars b)) (Toks 1 (chars (a ++ g :: b))) (Toks 1 (chars (35 :: b))) := by
  refine ⟨?_, ?_⟩
  · obtain ⟨k, h1, h2, h3⟩ := comment_toks b
    unfold colRes
    cases hb : (chars b).all notBad with
    | true => left; rw [hb] at h3; exact ⟨rfl, rfl, h3⟩
    | false => right; rw [hb] at h3; exact ⟨rfl, rfl, k, h1, h3⟩
  · cases ha : hasB a 35 with
    | true => exact .inl rfl
    | false =>
      right
      refine ⟨rfl, ?_⟩
      have h := beside (a := a) (b := b) hg ha
      cases hA : Toks 1 (chars a) with
      | error e =>
        left
        have := Toks_err _ _ _ hA
        rw [hA] at h
        exact ⟨e.1, e.2, this.1, rfl, h⟩
      | ok l =>
        have hk : colRes a = ((chars a).length, 0) := by
          unfold colRes
          rw [if_pos (Toks_notBad _ _ _ hA (hash_byte a ha))]
        rw [hA] at h
        right
        cases hB : Toks 1 (chars b) with
        | error e =>
          left
          have := Toks_err _ _ _ hB
          rw [hB] at h
          exact ⟨l, e.1, e.2, this.1, hk, rfl, rfl, h⟩
        | ok m =>
          right
          rw [hB] at h
          exact ⟨l, m, hk, rfl, rfl, h⟩

theorem tkCells_one (l : List Tok) : ∀ u ∈ tkCells l, u.oneCell' = true := by
  intro u hu
  simp only [tkCells, List.mem_flatMap] at hu
  obtain ⟨t, _, ht⟩ := hu
  simp at ht
  rcases ht with rfl | rfl | rfl <;> rfl

/-- The lists of three calls, as they stand when two more have been made. -/
theorem stages {w1 w2 w3 w4 w5 w6 : World} {rA rB rZ : Res} {vx vy vz : Value}
    (hox : w2.ownsRow w1.heap.size 46 3 vx (resTok rA).length (tkCells (resTok rA))) (hoy : w3.ownsRow w2.heap.size 46 3 vy (resTok rB).length (tkCells (resTok rB)))
    (hoz : w4.ownsRow w3.heap.size 46 3 vz (resTok rZ).length (tkCells (resTok rZ)))
    (hb3 : Below w2.heap.size w2 w3) (hb4 : Below w3.heap.size w3 w4) (hb5 : Below w4.heap.size w4 w5) (hb6 : Below w5.heap.size w5 w6) :
    Hid (w6.ownsRow w1.heap.size 46 3 vx (resTok rA).length (tkCells (resTok rA))) ∧ Hid (w6.ownsRow w2.heap.size 46 3 vy (resTok rB).length (tkCells (resTok rB))) ∧
    Hid (w6.ownsRow w3.heap.size 46 3 vz (resTok rZ).length (tkCells (resTok rZ))) ∧ Hid (vz.ownBlock = none ∨ vz.ownBlock ≠ vx.ownBlock) := by
  have b4 := hb5.trans (hb6.mono hb5.size)
  have b3 := hb4.trans (b4.mono hb4.size)
  have b2 := hb3.trans (b3.mono hb3.size)
  refine ⟨ownsRow_below hox b2 (Nat.le_refl _), ownsRow_below hoy b3 (Nat.le_refl _), ownsRow_below hoz b4 (Nat.le_refl _), ?_⟩
  show _ ∨ _
  cases hz : vz.ownBlock with
  | none => exact .inl rfl
  | some k =>
    right
    intro h
    have h1 := (hoz.lt k hz).1
    have h2 := (hox.lt k h.symm).2
    have := hb3.size
    omega

set_option maxRecDepth 100000 in
set_option maxHeartbeats 4000000 in
theorem beside_space (a b : ByteArray) (w : World) (hs : a.size + b.size ≤ 1048573) (hx : Lx w) :
    Calls Try.prog 4 #[.string a, .string b, .bool false] w fun e w' => e = .returned (.bool true) ∧ Below w.heap.size w w' := by
  have HX := Lib.hid hx
  clear hx
  have HC := beside_cases a.data.toList b.data.toList 32 (by decide)
  have HC0 := Lib.hid HC
  clear HC
  have hna : (chars a.data.toList).length ≤ 1048576 := by have := chars_len a.data.toList; rw [← Lib.size_eq] at this; omega
  have hnb : (chars b.data.toList).length ≤ 1048576 := by have := chars_len b.data.toList; rw [← Lib.size_eq] at this; omega
  have hbdA : ∀ l, Toks 1 (chars a.data.toList) = .ok l → l.length ≤ 1048576 := fun l h => by have := (Toks_bounds _ _ _ h).1; omega
  have hbdB : ∀ l, Toks 1 (chars b.data.toList) = .ok l → l.length ≤ 1048576 ∧ ∀ t ∈ l, t.2.2 ≤ 2097152 := fun l h => by
    have h2 := Toks_bounds _ _ _ h
    exact ⟨by omega, fun t ht => by have := h2.2 t ht; omega⟩
  have hbdE : ∀ e, Toks 1 (chars b.data.toList) = .error e → e.1 ≤ 2097152 := fun e h => by have := Toks_err _ _ _ h; omega
  have HBB0 := Lib.hid hbdB
  have HBA0 := Lib.hid hbdA
  have HBE0 := Lib.hid hbdE
  clear hbdA hbdB hbdE
  go_enter Try.func4, Try.ntmps4
  go_wp2_with fail
  refine (awake_any _ HX.out).mono ?_
  rintro e w1 ⟨rfl, hb1⟩
  go_wp2_with fail
  refine (tokens_any a _ (by omega) (HX.out.below hb1)).mono ?_
  rintro e w2 ⟨vx, rfl, hox, hb2⟩
  have B2 := hb1.trans (hb2.mono hb1.size)
  go_wp2_with fail
  refine (tokens_any b _ (by omega) (HX.out.below B2)).mono ?_
  rintro e w3 ⟨vy, rfl, hoy, hb3⟩
  have B3 := B2.trans (hb3.mono B2.size)
  go_wp2_with fail
  refine (tokens_any (a ++ _ ++ b) _ (by simp only [ByteArray.size_append]; show a.size + 1 + b.size ≤ _; omega) (HX.out.below B3)).mono ?_
  rintro e w4 ⟨vz, rfl, hoz, hb4⟩
  have B4 := B3.trans (hb4.mono B3.size)
  rw [gap_data] at hoz
  rw [gap_data]
  go_wp2_with fail
  refine (tokens_any ((⟨#[35]⟩ : ByteArray) ++ b) _ (by rw [ByteArray.size_append]; show 1 + b.size ≤ _; omega) (HX.out.below B4)).mono ?_
  rintro e w5 ⟨vw, rfl, how, hb5⟩
  have B5 := B4.trans (hb5.mono B4.size)
  rw [hash_data] at how
  rw [hash_data]
  go_wp2_with fail
  refine (columns_any b _ (by omega)).mono ?_
  rintro e w6 ⟨rfl, hb6⟩
  have B6 := B5.trans (hb6.mono B5.size)
  have HC := HC0.out
  have hbdA := HBA0.out
  have hbdB := HBB0.out
  have hbdE := HBE0.out
  clear HC0 HBA0 HBB0 HBE0
  generalize Toks 1 (chars a.data.toList) = rA at *
  generalize Toks 1 (chars b.data.toList) = rB at *
  generalize Toks 1 (chars (a.data.toList ++ 32 :: b.data.toList)) = rZ at *
  generalize Toks 1 (chars (35 :: b.data.toList)) = rW at *
  generalize (colRes b.data.toList).1 = n at *
  generalize (colRes b.data.toList).2 = en at *
  obtain ⟨SX, SY, SZ, SN2⟩ := stages hox hoy hoz hb3 hb4 hb5 hb6
  have SN := hb1.size
  have SM : w1.heap.size ≤ w6.heap.size := by have h2 := hb2.size; have h3 := hb3.size; have h4 := hb4.size; have h5 := hb5.size; have h6 := hb6.size; omega
  obtain ⟨aow, capw, rfl, hnw, hcw, -⟩ := ownsRow_shape how
  have HB := Lib.hid B6
  have HBB := Lib.hid hbdB
  have HBA := Lib.hid hbdA
  have HBE := Lib.hid hbdE
  have hs2 : a.size ≤ 1048576 := by omega
  obtain ⟨HC1, HC2⟩ := HC
  have HC2 := Lib.hid HC2
  clear hox hoy hoz how hb1 hb2 hb3 hb4 hb5 hb6 B2 B3 B4 B5 B6 hbdB hbdA hbdE hcw
  have hc1 : (n = (chars b.data.toList).length ∧ en = 0 ∧ resErr rW = 0 ∧ resCol rW = 0 ∧ (resTok rW).length = 0) ∨ (n = 0 ∧ en = 12 ∧ resErr rW = 12 ∧ (∃ c, 2 ≤ c ∧ resCol rW = c) ∧ (resTok rW).length = 0) := by
    rcases HC1 with ⟨h1, h2, rfl⟩ | ⟨h1, h2, c, h3, rfl⟩
    · exact .inl ⟨h1, h2, rfl, rfl, rfl⟩
    · exact .inr ⟨h1, h2, rfl, ⟨c, h3, rfl⟩, rfl⟩
  clear HC1
  generalize resErr rW = we at *
  generalize resCol rW = wc at *
  generalize (resTok rW).length = wl at *
  rcases hc1 with ⟨h1, rfl, rfl, rfl, rfl⟩ | ⟨rfl, rfl, rfl, ⟨c, h2, rfl⟩, rfl⟩
  all_goals
    try clear h1
    rcases HC2.out with hh | ⟨hh, ⟨c1, e1, he1, rfl, rfl⟩ | ⟨l, c1, e1, he1, hk, rfl, rfl, rfl⟩ | ⟨l, m, hk, rfl, rfl, rfl⟩⟩
    · have HH := Lib.hid hh
      clear hh HC2
      go_wp2_with fail
      refine (has_any a 35 _ (by unfold maxLen; omega)).mono ?_
      rintro e w7 ⟨rfl, rfl⟩
      rw [HH.out]
      go_wp2_with fail
      go_ret
      exact ⟨rfl, HB.out⟩
    · have HH := Lib.hid hh
      obtain ⟨aoz, capz, rfl, hnz, hcz, -⟩ := ownsRow_shape SZ.out
      have g1 : ((e1 : Int) != 0) = true := by simp; omega
      clear hh HC2 he1 SZ hcz
      simp only [resTok_error, resCol_error, resErr_error, List.length_nil] at hnz ⊢
      go_wp2_with fail
      refine (has_any a 35 _ (by unfold maxLen; omega)).mono ?_
      rintro e w7 ⟨rfl, rfl⟩
      rw [HH.out]
      go_wp2_with fail
      go_ret
      exact ⟨rfl, HB.out⟩
    · have HH := Lib.hid hh
      have HK := Lib.hid hk
      obtain ⟨aoz, capz, rfl, hnz, hcz, -⟩ := ownsRow_shape SZ.out
      have g1 : ((e1 : Int) != 0) = true := by simp; omega
      have g2 := HBE.out _ rfl
      clear hh HC2 he1 hk SZ hcz
      simp only [resCol_ok, resErr_ok, resTok_error, resCol_error, resErr_error, List.length_nil] at hnz g2 ⊢
      go_wp2_with fail
      refine (has_any a 35 _ (by unfold maxLen; omega)).mono ?_
      rintro e w7 ⟨rfl, rfl⟩
      rw [HH.out]
      go_wp2_with fail
      refine (columns_any a _ hs2).mono ?_
      rintro e w7 ⟨rfl, hb7⟩
      rw [HK.out]
      have HB7 : Hid (Below w.heap.size w w7) := HB.out.trans (hb7.mono HB.out.size)
      clear hb7
      generalize (chars a.data.toList).length = k at *
      have g3 : (((c1 : Int) + ((k : Int) + 1)) == ((c1 : Int) + (k : Int) + 1)) = true := by simp; omega
      go_wp2_with fail
      go_ret
      exact ⟨rfl, HB7.out⟩
    · have HH := Lib.hid hh
      have HK := Lib.hid hk
      have hl := HBA.out _ rfl
      obtain ⟨hm, hmc⟩ := HBB.out _ rfl
      have HMC := Lib.hid hmc
      clear hh HC2 hk hmc HBA HBB HBE
      simp only [resTok_ok, resCol_ok, resErr_ok] at SX SY SZ ⊢
      go_wp2_with fail
      refine (has_any a 35 _ (by unfold maxLen; omega)).mono ?_
      rintro e w7 ⟨rfl, rfl⟩
      rw [HH.out]
      go_wp2_with fail
      refine (columns_any a _ hs2).mono ?_
      rintro e w7 ⟨rfl, hb7⟩
      rw [HK.out]
      have HB7 : Hid (Below w.heap.size w w7) := HB.out.trans (hb7.mono HB.out.size)
      have SX7 := Lib.hid (ownsRow_below SX.out hb7 (Nat.le_refl _))
      have SY7 := Lib.hid (ownsRow_below SY.out hb7 (Nat.le_refl _))
      have SZ7 := Lib.hid (ownsRow_below SZ.out hb7 (Nat.le_refl _))
      have hz7 := hb7.size
      clear hb7 SX SY SZ
      generalize (chars a.data.toList).length = k at *
      have hk1 : k + 1 ≤ 2097152 := by omega
      go_wp2_with fail
      refine (shifted_any _ m (k + 1) _ (ownsRow_mono SY7.out (Nat.zero_le _)) hm hk1 HMC.out).mono ?_
      rintro e w8 ⟨g8, cap8, rfl, ho8, hb8⟩
      have SX8 := ownsRow_below SX7.out hb8 (Nat.le_refl _)
      have SZ8 := Lib.hid (ownsRow_below SZ7.out hb8 (Nat.le_refl _))
      have HB8 : Hid (Below w.heap.size w w8) := HB7.out.trans (hb8.mono HB7.out.size)
      have hz8 := hb8.size
      have HO8 := Lib.hid ho8
      have hcl : ∀ j u, (tkCells (shiftT (k + 1) m))[j]? = some u → w8.cell? ((⟨g8, 0, none⟩ : Addr).add j) = some u := ho8.cells (g := g8) rfl
      have HCL := Lib.hid hcl
      have hlen8 : (tkCells (shiftT (k + 1) m)).length = m.length * 3 := by rw [tkCells_length]; simp [shiftT]
      have HL8 := Lib.hid hlen8
      obtain ⟨i0, hi, hz0, hz1, hz2⟩ := info_parts Try.infoTok
      clear hb8 ho8 hcl hlen8 SX7 SZ7 SY7
      go_wp2_with (at_builtin; refine wpList_append_own_g _ (by rfl) _ _ 25 rfl w1.heap.size 46 i0 (.agg #[.int .i64 0, .string ⟨#[]⟩, .int .i64 0]) 3 32 Try.underlying25 hi hz0 hz1 hz2 rfl (by decide) _ _ _ rfl SX8 ⟨g8, 0, none⟩ m.length cap8 (tkCells (shiftT (k + 1) m)) rfl HL8.out HCL.out (tkCells_one _) ?c3 ?c4 ?c5 ?_)
      case c3 => unfold maxLen; omega
      case c4 => omega
      case c5 => omega
      intro v9 w9 hown9 hgrow9 _
      have HX9 : Hid (RdTk w9 v9 (l ++ shiftT (k + 1) m)) := by
        show World.ownsRow _ _ _ _ _ _ _
        rw [tkCells_append, List.length_append]
        have : (shiftT (k + 1) m).length = m.length := by simp [shiftT]
        rw [this]
        exact ownsRow_mono hown9 (Nat.zero_le _)
      have HZ9 : Hid (RdTk w9 vz (l ++ shiftT (k + 1) m)) := by
        show World.ownsRow _ _ _ _ _ _ _
        exact ownsRow_mono (SZ8.out.kept hgrow9 SN2.out) (Nat.zero_le _)
      have HB9 : Hid (Below w.heap.size w w9) := Below.grown HB8.out hgrow9 HB8.out.size (fun q hq => Nat.le_trans SN (SX8.lt q hq).1)
      clear hown9 hgrow9 SX8
      go_wp2_with fail
      refine (tokens_same _ _ _ _ HZ9.out HX9.out).mono ?_
      rintro e w10 ⟨rfl, hb10⟩
      have HB10 : Hid (Below w.heap.size w w10) := HB9.out.trans (hb10.mono HB9.out.size)
      clear hb10
      go_wp2_with fail
      go_ret
      exact ⟨rfl, HB10.out⟩

set_option maxRecDepth 100000 in
set_option maxHeartbeats 4000000 in
theorem beside_tab (a b : ByteArray) (w : World) (hs : a.size + b.size ≤ 1048573) (hx : Lx w) :
    Calls Try.prog 4 #[.string a, .string b, .bool true] w fun e w' => e = .returned (.bool true) ∧ Below w.heap.size w w' := by
  have HX := Lib.hid hx
  clear hx
  have HC := beside_cases a.data.toList b.data.toList 9 (by decide)
  have HC0 := Lib.hid HC
  clear HC
  have hna : (chars a.data.toList).length ≤ 1048576 := by have := chars_len a.data.toList; rw [← Lib.size_eq] at this; omega
  have hnb : (chars b.data.toList).length ≤ 1048576 := by have := chars_len b.data.toList; rw [← Lib.size_eq] at this; omega
  have hbdA : ∀ l, Toks 1 (chars a.data.toList) = .ok l → l.length ≤ 1048576 := fun l h => by have := (Toks_bounds _ _ _ h).1; omega
  have hbdB : ∀ l, Toks 1 (chars b.data.toList) = .ok l → l.length ≤ 1048576 ∧ ∀ t ∈ l, t.2.2 ≤ 2097152 := fun l h => by
    have h2 := Toks_bounds _ _ _ h
    exact ⟨by omega, fun t ht => by have := h2.2 t ht; omega⟩
  have hbdE : ∀ e, Toks 1 (chars b.data.toList) = .error e → e.1 ≤ 2097152 := fun e h => by have := Toks_err _ _ _ h; omega
  have HBB0 := Lib.hid hbdB
  have HBA0 := Lib.hid hbdA
  have HBE0 := Lib.hid hbdE
  clear hbdA hbdB hbdE
  go_enter Try.func4, Try.ntmps4
  go_wp2_with fail
  refine (awake_any _ HX.out).mono ?_
  rintro e w1 ⟨rfl, hb1⟩
  go_wp2_with fail
  refine (tokens_any a _ (by omega) (HX.out.below hb1)).mono ?_
  rintro e w2 ⟨vx, rfl, hox, hb2⟩
  have B2 := hb1.trans (hb2.mono hb1.size)
  go_wp2_with fail
  refine (tokens_any b _ (by omega) (HX.out.below B2)).mono ?_
  rintro e w3 ⟨vy, rfl, hoy, hb3⟩
  have B3 := B2.trans (hb3.mono B2.size)
  go_wp2_with fail
  refine (tokens_any (a ++ _ ++ b) _ (by simp only [ByteArray.size_append]; show a.size + 1 + b.size ≤ _; omega) (HX.out.below B3)).mono ?_
  rintro e w4 ⟨vz, rfl, hoz, hb4⟩
  have B4 := B3.trans (hb4.mono B3.size)
  rw [gap_data] at hoz
  rw [gap_data]
  go_wp2_with fail
  refine (tokens_any ((⟨#[35]⟩ : ByteArray) ++ b) _ (by rw [ByteArray.size_append]; show 1 + b.size ≤ _; omega) (HX.out.below B4)).mono ?_
  rintro e w5 ⟨vw, rfl, how, hb5⟩
  have B5 := B4.trans (hb5.mono B4.size)
  rw [hash_data] at how
  rw [hash_data]
  go_wp2_with fail
  refine (columns_any b _ (by omega)).mono ?_
  rintro e w6 ⟨rfl, hb6⟩
  have B6 := B5.trans (hb6.mono B5.size)
  have HC := HC0.out
  have hbdA := HBA0.out
  have hbdB := HBB0.out
  have hbdE := HBE0.out
  clear HC0 HBA0 HBB0 HBE0
  generalize Toks 1 (chars a.data.toList) = rA at *
  generalize Toks 1 (chars b.data.toList) = rB at *
  generalize Toks 1 (chars (a.data.toList ++ 9 :: b.data.toList)) = rZ at *
  generalize Toks 1 (chars (35 :: b.data.toList)) = rW at *
  generalize (colRes b.data.toList).1 = n at *
  generalize (colRes b.data.toList).2 = en at *
  obtain ⟨SX, SY, SZ, SN2⟩ := stages hox hoy hoz hb3 hb4 hb5 hb6
  have SN := hb1.size
  have SM : w1.heap.size ≤ w6.heap.size := by have h2 := hb2.size; have h3 := hb3.size; have h4 := hb4.size; have h5 := hb5.size; have h6 := hb6.size; omega
  obtain ⟨aow, capw, rfl, hnw, hcw, -⟩ := ownsRow_shape how
  have HB := Lib.hid B6
  have HBB := Lib.hid hbdB
  have HBA := Lib.hid hbdA
  have HBE := Lib.hid hbdE
  have hs2 : a.size ≤ 1048576 := by omega
  obtain ⟨HC1, HC2⟩ := HC
  have HC2 := Lib.hid HC2
  clear hox hoy hoz how hb1 hb2 hb3 hb4 hb5 hb6 B2 B3 B4 B5 B6 hbdB hbdA hbdE hcw
  have hc1 : (n = (chars b.data.toList).length ∧ en = 0 ∧ resErr rW = 0 ∧ resCol rW = 0 ∧ (resTok rW).length = 0) ∨ (n = 0 ∧ en = 12 ∧ resErr rW = 12 ∧ (∃ c, 2 ≤ c ∧ resCol rW = c) ∧ (resTok rW).length = 0) := by
    rcases HC1 with ⟨h1, h2, rfl⟩ | ⟨h1, h2, c, h3, rfl⟩
    · exact .inl ⟨h1, h2, rfl, rfl, rfl⟩
    · exact .inr ⟨h1, h2, rfl, ⟨c, h3, rfl⟩, rfl⟩
  clear HC1
  generalize resErr rW = we at *
  generalize resCol rW = wc at *
  generalize (resTok rW).length = wl at *
  rcases hc1 with ⟨h1, rfl, rfl, rfl, rfl⟩ | ⟨rfl, rfl, rfl, ⟨c, h2, rfl⟩, rfl⟩
  all_goals
    try clear h1
    rcases HC2.out with hh | ⟨hh, ⟨c1, e1, he1, rfl, rfl⟩ | ⟨l, c1, e1, he1, hk, rfl, rfl, rfl⟩ | ⟨l, m, hk, rfl, rfl, rfl⟩⟩
    · have HH := Lib.hid hh
      clear hh HC2
      go_wp2_with fail
      refine (has_any a 35 _ (by unfold maxLen; omega)).mono ?_
      rintro e w7 ⟨rfl, rfl⟩
      rw [HH.out]
      go_wp2_with fail
      go_ret
      exact ⟨rfl, HB.out⟩
    · have HH := Lib.hid hh
      obtain ⟨aoz, capz, rfl, hnz, hcz, -⟩ := ownsRow_shape SZ.out
      have g1 : ((e1 : Int) != 0) = true := by simp; omega
      clear hh HC2 he1 SZ hcz
      simp only [resTok_error, resCol_error, resErr_error, List.length_nil] at hnz ⊢
      go_wp2_with fail
      refine (has_any a 35 _ (by unfold maxLen; omega)).mono ?_
      rintro e w7 ⟨rfl, rfl⟩
      rw [HH.out]
      go_wp2_with fail
      go_ret
      exact ⟨rfl, HB.out⟩
    · have HH := Lib.hid hh
      have HK := Lib.hid hk
      obtain ⟨aoz, capz, rfl, hnz, hcz, -⟩ := ownsRow_shape SZ.out
      have g1 : ((e1 : Int) != 0) = true := by simp; omega
      have g2 := HBE.out _ rfl
      clear hh HC2 he1 hk SZ hcz
      simp only [resCol_ok, resErr_ok, resTok_error, resCol_error, resErr_error, List.length_nil] at hnz g2 ⊢
      go_wp2_with fail
      refine (has_any a 35 _ (by unfold maxLen; omega)).mono ?_
      rintro e w7 ⟨rfl, rfl⟩
      rw [HH.out]
      go_wp2_with fail
      refine (columns_any a _ hs2).mono ?_
      rintro e w7 ⟨rfl, hb7⟩
      rw [HK.out]
      have HB7 : Hid (Below w.heap.size w w7) := HB.out.trans (hb7.mono HB.out.size)
      clear hb7
      generalize (chars a.data.toList).length = k at *
      have g3 : (((c1 : Int) + ((k : Int) + 1)) == ((c1 : Int) + (k : Int) + 1)) = true := by simp; omega
      go_wp2_with fail
      go_ret
      exact ⟨rfl, HB7.out⟩
    · have HH := Lib.hid hh
      have HK := Lib.hid hk
      have hl := HBA.out _ rfl
      obtain ⟨hm, hmc⟩ := HBB.out _ rfl
      have HMC := Lib.hid hmc
      clear hh HC2 hk hmc HBA HBB HBE
      simp only [resTok_ok, resCol_ok, resErr_ok] at SX SY SZ ⊢
      go_wp2_with fail
      refine (has_any a 35 _ (by unfold maxLen; omega)).mono ?_
      rintro e w7 ⟨rfl, rfl⟩
      rw [HH.out]
      go_wp2_with fail
      refine (columns_any a _ hs2).mono ?_
      rintro e w7 ⟨rfl, hb7⟩
      rw [HK.out]
      have HB7 : Hid (Below w.heap.size w w7) := HB.out.trans (hb7.mono HB.out.size)
      have SX7 := Lib.hid (ownsRow_below SX.out hb7 (Nat.le_refl _))
      have SY7 := Lib.hid (ownsRow_below SY.out hb7 (Nat.le_refl _))
      have SZ7 := Lib.hid (ownsRow_below SZ.out hb7 (Nat.le_refl _))
      have hz7 := hb7.size
      clear hb7 SX SY SZ
      generalize (chars a.data.toList).length = k at *
      have hk1 : k + 1 ≤ 2097152 := by omega
      go_wp2_with fail
      refine (shifted_any _ m (k + 1) _ (ownsRow_mono SY7.out (Nat.zero_le _)) hm hk1 HMC.out).mono ?_
      rintro e w8 ⟨g8, cap8, rfl, ho8, hb8⟩
      have SX8 := ownsRow_below SX7.out hb8 (Nat.le_refl _)
      have SZ8 := Lib.hid (ownsRow_below SZ7.out hb8 (Nat.le_refl _))
      have HB8 : Hid (Below w.heap.size w w8) := HB7.out.trans (hb8.mono HB7.out.size)
      have hz8 := hb8.size
      have HO8 := Lib.hid ho8
      have hcl : ∀ j u, (tkCells (shiftT (k + 1) m))[j]? = some u → w8.cell? ((⟨g8, 0, none⟩ : Addr).add j) = some u := ho8.cells (g := g8) rfl
      have HCL := Lib.hid hcl
      have hlen8 : (tkCells (shiftT (k + 1) m)).length = m.length * 3 := by rw [tkCells_length]; simp [shiftT]
      have HL8 := Lib.hid hlen8
      obtain ⟨i0, hi, hz0, hz1, hz2⟩ := info_parts Try.infoTok
      clear hb8 ho8 hcl hlen8 SX7 SZ7 SY7
      go_wp2_with (at_builtin; refine wpList_append_own_g _ (by rfl) _ _ 25 rfl w1.heap.size 46 i0 (.agg #[.int .i64 0, .string ⟨#[]⟩, .int .i64 0]) 3 32 Try.underlying25 hi hz0 hz1 hz2 rfl (by decide) _ _ _ rfl SX8 ⟨g8, 0, none⟩ m.length cap8 (tkCells (shiftT (k + 1) m)) rfl HL8.out HCL.out (tkCells_one _) ?c3 ?c4 ?c5 ?_)
      case c3 => unfold maxLen; omega
      case c4 => omega
      case c5 => omega
      intro v9 w9 hown9 hgrow9 _
      have HX9 : Hid (RdTk w9 v9 (l ++ shiftT (k + 1) m)) := by
        show World.ownsRow _ _ _ _ _ _ _
        rw [tkCells_append, List.length_append]
        have : (shiftT (k + 1) m).length = m.length := by simp [shiftT]
        rw [this]
        exact ownsRow_mono hown9 (Nat.zero_le _)
      have HZ9 : Hid (RdTk w9 vz (l ++ shiftT (k + 1) m)) := by
        show World.ownsRow _ _ _ _ _ _ _
        exact ownsRow_mono (SZ8.out.kept hgrow9 SN2.out) (Nat.zero_le _)
      have HB9 : Hid (Below w.heap.size w w9) := Below.grown HB8.out hgrow9 HB8.out.size (fun q hq => Nat.le_trans SN (SX8.lt q hq).1)
      clear hown9 hgrow9 SX8
      go_wp2_with fail
      refine (tokens_same _ _ _ _ HZ9.out HX9.out).mono ?_
      rintro e w10 ⟨rfl, hb10⟩
      have HB10 : Hid (Below w.heap.size w w10) := HB9.out.trans (hb10.mono HB9.out.size)
      clear hb10
      go_wp2_with fail
      go_ret
      exact ⟨rfl, HB10.out⟩

theorem beside_walk (a b : ByteArray) (tab : Bool) (w : World) (hs : a.size + b.size ≤ 1048573) (hx : Lx w) :
    Calls Try.prog 4 #[.string a, .string b, .bool tab] w fun e w' => e = .returned (.bool true) ∧ Below w.heap.size w w' := by
  cases tab
  · exact beside_space a b w hs hx
  · exact beside_tab a b w hs hx

theorem small3 {H : Type} {a b : ByteArray} {t : Bool} (hk : Rows.uptoSmall H [.lit (.string a.data.toList), .lit (.string b.data.toList), .lit (.bool t)] = true) : a.size + b.size ≤ 1048573 := by
  have h := bulk hk
  simp only [Rows.uptoBulkAll, Rows.uptoBulk] at h
  rw [Lib.size_eq a, Lib.size_eq b]
  omega

set_option maxRecDepth 100000 in
theorem lexerBeside_contract (H : Type) (enc : TypeId × Value → H) (W : World) (base : Nat) (args : Array Value) (ds gs : List (DataW H)) (before : List MemPlace)
    (hval : ∀ (j : Nat) t v, Try.f4.params[j]? = some t → args[j]? = some v → Value.okWide Try.prog W .any base t v)
    (hW : DataW.Whole enc Try.prog Try.f4.params.toList Rows.lexerBesideSpec.vars false W args.toList ds gs before) (hk : Rows.uptoSmall H (ds ++ gs) = true) (hshp : W.ShapedOpen Try.prog) :
    Calls Try.prog 4 args W fun e W' => ∃ v, e = .returned v ∧ Rows.lexerBesideSpec.post enc Try.prog Try.f4 false true false false W args v W' := by
  have hW' := hW
  obtain ⟨p, q, hA0, hV, rfl, hfz, hnd⟩ := hW
  have hA : DataW.TrodAll enc Try.prog W 0 (fun _ => true) true Try.f4.params.toList args.toList ds p := hA0
  rw [Try.params4] at hA hval
  obtain ⟨v0, vs0, d0, ds0, p0, q0, hargs, rfl, rfl, h0, r0⟩ := trodAll_cons hA
  obtain ⟨v1, vs1, d1, ds1, p1, q1, rfl, rfl, rfl, h1, r1⟩ := trodAll_cons r0
  obtain ⟨v2, vs2, d2, ds2, p2, q2, rfl, rfl, rfl, h2, r2⟩ := trodAll_cons r1
  obtain ⟨rfl, rfl, rfl⟩ := trodAll_nil r2
  obtain rfl : args = #[v0, v1, v2] := by cases args; simp_all
  obtain ⟨rfl, rfl⟩ := trodVars_none hV
  obtain ⟨s0, rfl, rfl, rfl, m0⟩ := open_string Try.underlying9 (hval 0 9 v0 rfl rfl) h0
  obtain ⟨s1, rfl, rfl, rfl, m1⟩ := open_string Try.underlying9 (hval 1 9 v1 rfl rfl) h1
  obtain ⟨s2, rfl, rfl, rfl⟩ := open_bool Try.underlying4 (hval 2 4 v2 rfl rfl) h2
  clear hA0
  simp only [List.append_nil] at hW' hk
  refine (beside_walk s0 s1 s2  W (small3 hk) (lx_of_shaped hshp)).mono fun e W' ⟨he, bel⟩ => ?_
  subst he
  exact ⟨_, rfl, _, _, _, [], _, [], hW', trodAll_mk1 (shut_bool Try.underlying4 _), (trodAll_cons_mk (shut_string Try.underlying9 m0) (trodAll_cons_mk (shut_string Try.underlying9 m1) (trodAll_cons_mk (shut_bool Try.underlying4 s2) trodAll_mk0))), rfl, bel.frame _, fun h => by cases h⟩

set_option maxRecDepth 100000 in
theorem lexerBeside_lifted (os : Os) (started : os.Started) (H : Type) (enc : TypeId × Value → H) (F : Stop.Interp) :
    ReturnsInHanded {} Try.checked os 4 .any ((Rows.OpenSpec.upto Rows.lexerBesideSpec).pre6 enc Try.prog Try.f4 Rows.lexerBesideUptoRow.domain false) (((Rows.OpenSpec.upto Rows.lexerBesideSpec).at F).post enc Try.prog Try.f4 false true false false) := by
  refine returnsInHanded_of_cond_shaped (C := Try.checked) (s := Rows.OpenSpec.upto Rows.lexerBesideSpec) (k := Rows.uptoSmall) rfl own started (by kernel_rfl) Try.func4
    (OpenSpec.witness (enc := enc) (C := Try.checked) (s := Rows.OpenSpec.upto Rows.lexerBesideSpec) (k := Rows.uptoSmall) rfl false ⟨#[], #[.string .empty, .string .empty, .bool false], []⟩ 8 (by kernel_rfl) (by kernel_rfl) (by kernel_rfl)
      (x := ([.lit (.string []), .lit (.string []), .lit (.bool false)], [], [])) (by kernel_rfl) rfl (by kernel_rfl)) ?_
  intro W base args ds gs before hval hW hk hshp
  exact lexerBeside_contract H enc W base args ds gs before hval hW hk hshp

/-- The statement. -/
theorem lexerBeside_proved : Rows.LexerBesideUptoSaid :=
  OpenClaim.holds_of_cond 4 Try.f4 rfl rfl rfl rfl rfl rfl rfl ⟨rfl, rfl, rfl, rfl, rfl⟩ rfl rfl rfl rfl rfl (by kernel_rfl) Try.func4 (by kernel_rfl)
    (of_decide_eq_true (by kernel_rfl)) (by unfold Func.isWrapper; first | (rw [if_pos (by decide +kernel)]; kernel_rfl) | (rw [if_neg (by decide +kernel)]; exact ⟨rfl, rfl⟩))
    (fun os started H enc _ F => lexerBeside_lifted os started H enc F)
#print axioms lexerBeside_proved

end Go.Proofs.Ytebidhdoiojaeaa
