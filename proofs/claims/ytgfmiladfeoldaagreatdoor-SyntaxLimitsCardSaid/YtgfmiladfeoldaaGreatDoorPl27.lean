/- Joined texts of this claim's proof: RdG, RdH. -/
import Derived.Test.YtgfmiladfeoldaaGreatDoorPl23
import Derived.Test.YtgfmiladfeoldaaGreatDoorPl26
set_option linter.unusedSimpArgs false
set_option linter.unusedVariables false
namespace Go.Proofs.YtgfmiladfeoldaaGreatDoor
open Go.RowKit NatP LexP
theorem made_two (a b : Value) (n j : Nat) (hj : j < n) : (madeCells #[a, b] (n * 2))[j * 2]? = some a ∧ (madeCells #[a, b] (n * 2))[j * 2 + 1]? = some b := by
 unfold madeCells
 constructor
 ·rw [Array.getElem?_map, Array.getElem?_range, if_pos (by omega)]
  show some (#[a, b][(j * 2) % 2]!) = _
  rw [show (j * 2) % 2 = 0 from by omega]; rfl
 ·rw [Array.getElem?_map, Array.getElem?_range, if_pos (by omega)]
  show some (#[a, b][(j * 2 + 1) % 2]!) = _
  rw [show (j * 2 + 1) % 2 = 1 from by omega]; rfl
theorem make_ints (n : Nat) (hn : n ≤ 4096) : ∀ w : World, (Instr.makeSlice 45 (.int .i64 (n : Int)) (.int .i64 (n : Int))).run Tryz.prog w = .ok (.slice (some ⟨w.heap.size, 0, none⟩) n n) (w.alloc (.cells (madeCells #[.bool false, .slice none 0 0] (n * 2)) 62)) := by
 obtain ⟨i0, hi, hz0, hz1, hz2⟩ := info_parts Tryz.infoAI
 intro w
 have hb : (i0.bytes : Int) * (n : Int) ≤ 281474976710656 := by rw [hz2]; omega
 have hr := run_make (P := Tryz.prog) w 45 62 i0 (.agg #[.bool false, .slice none 0 0]) Tryz.underlying45 hi hz0 .i64 .i64 n n (by omega) (Int.le_refl _) hb (by omega)
 simp only [Int.toNat_natCast] at hr
 rw [hr, hz1]
 rfl
theorem IRd.zeros (w : World) (n : Nat) (hn : n ≤ 4096) : IRd (w.alloc (.cells (madeCells #[.bool false, .slice none 0 0] (n * 2)) 62)) (.slice (some ⟨w.heap.size, 0, none⟩) n n) (List.replicate n (false, 0)) := by
 have hb := heap_alloc_new w (.cells (madeCells #[.bool false, .slice none 0 0] (n * 2)) 62)
 refine ⟨_, n, by rw [List.length_replicate], by rw [List.length_replicate]; omega, by unfold maxLen; omega, fun _ => ⟨w.heap.size, 0, rfl, by simp, fun j p hj => ?_⟩⟩
 have hlt : j < n := by have := (List.getElem?_eq_some_iff.1 hj).1; rwa [List.length_replicate] at this
 have hp : p = (false, 0) := by rw [List.getElem?_replicate, if_pos hlt] at hj; simpa using hj.symm
 subst hp
 obtain ⟨m1, m2⟩ := made_two (.bool false) (.slice none 0 0) n j hlt
 refine ⟨.slice none 0 0, [], ?_, ?_, Rd.nil _, rfl, by simp⟩
 ·rw [Nat.zero_add]; exact (cell_of_row _ _ _ _ _ _ hb).trans m1
 ·rw [Nat.zero_add]; exact (cell_of_row _ _ _ _ _ _ hb).trans m2
theorem En.ird {w : World} {B : Nat} {av lv : Value} {cs : List (Bool × Value)} {acc : List (Bool × Nat)} {lens : List Nat} (h : En w B av lv cs acc lens) : IRd w av acc := by
 obtain ⟨ao, cap, e, h1, h2, h3⟩ := ownsRow_shape h.own1
 refine ⟨ao, cap, by rw [← h.len]; exact e, by rw [← h.len]; exact h1, h2, fun h0 => ?_⟩
 obtain ⟨g, rfl, a1, a2, a3⟩ := h3 (by rw [h.len]; exact h0)
 refine ⟨g, 0, rfl, a2, fun j p hj => ?_⟩
 have hlt : j < cs.length := by rw [h.len]; exact (List.getElem?_eq_some_iff.1 hj).1
 obtain ⟨q1, ⟨⟨xs, x1, x2, x3⟩, -⟩, -⟩ := h.el j cs[j] p (List.getElem?_eq_getElem hlt) hj
 obtain ⟨i1, i2⟩ := icells_at cs j cs[j] (List.getElem?_eq_getElem hlt)
 refine ⟨_, xs, ?_, ?_, x1, x2, x3⟩
 ·rw [Nat.zero_add, a3 _ (by omega), i1, q1]
 ·rw [Nat.zero_add, a3 _ (by omega), i2]
theorem mat_set {w w' : World} {g : Nat} {x y z u v t : Value} (h : w.heap[g]? = some (.cells #[u, v, t] 47 (0, 0))) (hw : w' = ((w.setCell ⟨g, 0, none⟩ x).setCell ⟨g, 1, none⟩ y).setCell ⟨g, 2, none⟩ z) :
  w'.heap[g]? = some (.cells #[x, y, z] 47 (0, 0)) ∧ w.grownBy w' (some g) ∧ w'.heap.size = w.heap.size ∧ Wr g none w w' := by
 have s1 := heap_setCell_same w g 0 #[u, v, t] 47 x h
 have s2 := heap_setCell_same (w.setCell ⟨g, 0, none⟩ x) g 1 _ 47 y s1
 have s3 := heap_setCell_same ((w.setCell ⟨g, 0, none⟩ x).setCell ⟨g, 1, none⟩ y) g 2 _ 47 z s2
 have r1 : Wr g none w w' := by
  rw [hw]
  exact RS.step (RS.step (Wr.of_set w 0 x) (Wr.of_set _ 1 y)) (Wr.of_set _ 2 z)
 refine ⟨by rw [hw]; exact s3.trans (by simp), ⟨r1.os, r1.tape, r1.output, r1.size, fun k hk hne => r1.block k hk (fun e => hne (by rw [e])) (by simp)⟩, by rw [hw]; simp [World.setCell], r1⟩
def MatQ (m : SynP.MatV) (v : Value) (w' : World) : Prop := ∃ av, v = .agg #[.int .i64 (m.rows : Nat), .int .i64 (m.cols : Nat), av] ∧ IRd w' av m.at_
end Go.Proofs.YtgfmiladfeoldaaGreatDoor
namespace Go.Proofs.YtgfmiladfeoldaaGreatDoor
open Go.RowKit NatP LexP
set_option maxRecDepth 100000 in
set_option maxHeartbeats 8000000 in
theorem rd_matrix (R : Nat) (tv : Value) (L : List Tok) (fin a : Nat) (s : SynP.St) (nv : Value) (ns : List Nv) (w : World) (h : RS w R tv L fin a s nv ns) (f : Nat) (hf : SynP.matrix fin f s ≠ none) :
  Calls Tryz.prog 54 #[.pointer (some ⟨R, 0, none⟩)] w (RB (SynP.matrix fin f s) R tv L fin s nv ns MatQ w) := by
 have H := Lib.hid h
 have hRl := h.lt
 obtain ⟨r, hr⟩ : ∃ r, r = SynP.matrix fin f s := ⟨_, rfl⟩
 rw [← hr] at hf ⊢
 obtain ⟨col, hcol⟩ : ∃ col, col = SynP.colOf fin s.ts := ⟨_, rfl⟩
 have HR0 : Hid (r = (SynP.want fin [91] s).bind fun _ s => if SynP.isKind 1 s.ts && SynP.isMark [58] s.ts.tail then SynP.matShape fin col s else (SynP.entries fin f [] [] s).bind (SynP.matDone col)) := by
  show _ = _
  rw [hr, hcol]; rfl
 have HNE := Lib.hid hf
 have HCOL := Lib.hid hcol
 have HA := Lib.hid (below_alloc w (.cells #[.int .i64 0, .int .i64 0, .slice none 0 0] 47))
 have HSA := Lib.hid (h.below HA.out)
 have hblk := heap_alloc_new w (.cells #[.int .i64 0, .int .i64 0, .slice none 0 0] 47)
 obtain ⟨wA, hwA⟩ : ∃ wA, wA = w.alloc (.cells #[.int .i64 0, .int .i64 0, .slice none 0 0] 47) := ⟨_, rfl⟩
 have hlA : w.heap.size < wA.heap.size := by rw [hwA]; simp
 rw [← hwA] at hblk
 have HBLK := Lib.hid hblk
 have HWA : Hid (Wr R none w wA) := by show Wr _ _ _ _; rw [hwA]; exact Wr.of_below HA.out
 have HWA0 : Hid (Wr R none wA wA) := Wr.refl _ _ _
 rw [← hwA] at HSA HA
 have HAE := Lib.hid hwA
 clear h hr hf hcol hblk hwA
 go_enter Tryz.func54, Tryz.ntmps54
 go_wp2_with fail
 rw [← HAE.out]
 refine (rd_col R tv L fin a s nv ns _ HSA.out).mono ?_
 rintro e w1 ⟨rfl, b1⟩
 rw [← HCOL.out]
 have HS1 := Lib.hid (HSA.out.below b1)
 have HW1 : Hid (Wr R none wA w1) := Wr.of_below b1
 clear b1
 go_wp2_with fail
 refine (rd_want R tv L fin a s nv ns _ HS1.out [91]).mono ?_
 rintro e w2 hn
 rcases hN : SynP.want fin [91] s with - | (⟨fc, fk⟩ | ⟨u2', s2⟩)
 ·rw [hN] at hn; exact hn.elim
 ·rw [hN] at hn
  obtain ⟨rfl, n1⟩ := hn
  refine ⟨rfl, ?_⟩
  have hre : r = some (.error (fc, fk)) := by rw [HR0.out, hN]; rfl
  rw [hre]
  exact ⟨rfl, RS.step HWA.out (RS.step HW1.out n1)⟩
 rw [hN] at hn
 obtain ⟨v2, a2, rfl, n1, n2, n3, rfl⟩ := hn
 have hl2 := want_len hN
 have HS2 := Lib.hid n1
 have HW2 := Lib.hid (RS.step HW1.out n2)
 have HN2 := Lib.hid hN
 clear n1 n2 n3 hN
 have HR2 : Hid (r = if SynP.isKind 1 s2.ts && SynP.isMark [58] s2.ts.tail then SynP.matShape fin col s2 else (SynP.entries fin f [] [] s2).bind (SynP.matDone col)) := by
  show _ = _
  rw [HR0.out, HN2.out]; rfl
 have hck := comes_kind 1 [] s2.ts (by decide)
 have hcm := comes_mark1 [58] s2.ts
 by_cases hsh : (SynP.isKind 1 s2.ts && SynP.isMark [58] s2.ts.tail) = true
 ·rw [if_pos hsh] at HR2
  rw [Bool.and_eq_true] at hsh
  rw [hsh.1] at hck
  rw [hsh.2] at hcm
  have HCK := Lib.hid hck
  have HCM := Lib.hid hcm
  have HR3 : Hid (r = (SynP.number fin s2).bind fun r s => (SynP.want fin [58] s).bind fun _ s => (SynP.number fin s).bind fun c s => (SynP.want fin [93] s).bind fun _ s => if 64 < SynP.side r || 64 < SynP.side c then SynP.fault col 5 else SynP.ret ⟨r, c, List.replicate (r * c) (false, 0)⟩ s) := HR2.out
  clear hsh hck hcm HR2
  go_wp2_with fail
  refine (rd_comes R tv L fin a2 s2 nv ns _ HS2.out 0 1 [] (by omega) (by omega)).mono ?_
  rintro e w3 ⟨rfl, b1⟩
  rw [HCK.out]
  have HS3 := Lib.hid (HS2.out.below b1)
  have HW3 := Lib.hid (RS.step HW2.out (Wr.of_below b1))
  clear b1
  go_wp2_with fail
  refine (rd_comes R tv L fin a2 s2 nv ns _ HS3.out 1 3 [58] (by omega) (by omega)).mono ?_
  rintro e w4 ⟨rfl, b1⟩
  rw [HCM.out]
  have HS4 := Lib.hid (HS3.out.below b1)
  have HW4 := Lib.hid (RS.step HW3.out (Wr.of_below b1))
  clear b1
  go_wp2_with fail
  refine (rd_number R tv L fin a2 s2 nv ns _ HS4.out).mono ?_
  rintro e w5 hn
  rcases hN : SynP.number fin s2 with - | (⟨fc, fk⟩ | ⟨m5, s5⟩)
  ·rw [hN] at hn; exact hn.elim
  ·rw [hN] at hn
   obtain ⟨rfl, n1⟩ := hn
   refine ⟨rfl, ?_⟩
   have hre : r = some (.error (fc, fk)) := by rw [HR3.out, hN]; rfl
   rw [hre]
   exact ⟨rfl, RS.step HWA.out (RS.step HW4.out n1)⟩
  rw [hN] at hn
  obtain ⟨v5, a5, rfl, n1, n2, n3, n4⟩ := hn
  have hl5 := number_len hN
  have HS5 := Lib.hid n1
  have HW5 := Lib.hid (RS.step HW4.out n2)
  have HN5 := Lib.hid hN
  have HF5 := Lib.hid n4
  clear n1 n2 n3 n4 hN
  have HR5 : Hid (r = (SynP.want fin [58] s5).bind fun _ s => (SynP.number fin s).bind fun c s => (SynP.want fin [93] s).bind fun _ s => if 64 < SynP.side m5 || 64 < SynP.side c then SynP.fault col 5 else SynP.ret ⟨m5, c, List.replicate (m5 * c) (false, 0)⟩ s) := by
   show _ = _
   rw [HR3.out, HN5.out]; rfl
  go_wp2_with fail
  refine (side_any _ m5 _ HF5.out.1).mono ?_
  rintro e w6 ⟨rfl, b1⟩
  have HS6 := Lib.hid (HS5.out.below b1)
  have HW6 := Lib.hid (RS.step HW5.out (Wr.of_below b1))
  obtain ⟨d6, hd6⟩ : ∃ d, d = SynP.side m5 := ⟨_, rfl⟩
  rw [← hd6]
  have HD6 := Lib.hid hd6
  have hdl6 : d6 ≤ 65 := by rw [hd6]; unfold SynP.side; split <;> omega
  clear b1 hd6
  go_wp2_with fail
  refine (rd_want R tv L fin a5 s5 nv ns _ HS6.out [58]).mono ?_
  rintro e w7 hn
  rcases hN : SynP.want fin [58] s5 with - | (⟨fc, fk⟩ | ⟨u7', s7⟩)
  ·rw [hN] at hn; exact hn.elim
  ·rw [hN] at hn
   obtain ⟨rfl, n1⟩ := hn
   refine ⟨rfl, ?_⟩
   have hre : r = some (.error (fc, fk)) := by rw [HR5.out, hN]; rfl
   rw [hre]
   exact ⟨rfl, RS.step HWA.out (RS.step HW6.out n1)⟩
  rw [hN] at hn
  obtain ⟨v7, a7, rfl, n1, n2, n3, rfl⟩ := hn
  have hl7 := want_len hN
  have HS7 := Lib.hid n1
  have HW7 := Lib.hid (RS.step HW6.out n2)
  have HN7 := Lib.hid hN
  clear n1 n2 n3 hN
  have HR7 : Hid (r = (SynP.number fin s7).bind fun c s => (SynP.want fin [93] s).bind fun _ s => if 64 < SynP.side m5 || 64 < SynP.side c then SynP.fault col 5 else SynP.ret ⟨m5, c, List.replicate (m5 * c) (false, 0)⟩ s) := by
   show _ = _
   rw [HR5.out, HN7.out]; rfl
  go_wp2_with fail
  refine (rd_number R tv L fin a7 s7 nv ns _ HS7.out).mono ?_
  rintro e w8 hn
  rcases hN : SynP.number fin s7 with - | (⟨fc, fk⟩ | ⟨m8, s8⟩)
  ·rw [hN] at hn; exact hn.elim
  ·rw [hN] at hn
   obtain ⟨rfl, n1⟩ := hn
   refine ⟨rfl, ?_⟩
   have hre : r = some (.error (fc, fk)) := by rw [HR7.out, hN]; rfl
   rw [hre]
   exact ⟨rfl, RS.step HWA.out (RS.step HW7.out n1)⟩
  rw [hN] at hn
  obtain ⟨v8, a8, rfl, n1, n2, n3, n4⟩ := hn
  have hl8 := number_len hN
  have HS8 := Lib.hid n1
  have HW8 := Lib.hid (RS.step HW7.out n2)
  have HN8 := Lib.hid hN
  have HF8 := Lib.hid n4
  clear n1 n2 n3 n4 hN
  have HR8 : Hid (r = (SynP.want fin [93] s8).bind fun _ s => if 64 < SynP.side m5 || 64 < SynP.side m8 then SynP.fault col 5 else SynP.ret ⟨m5, m8, List.replicate (m5 * m8) (false, 0)⟩ s) := by
   show _ = _
   rw [HR7.out, HN8.out]; rfl
  go_wp2_with fail
  refine (side_any _ m8 _ HF8.out.1).mono ?_
  rintro e w9 ⟨rfl, b1⟩
  have HS9 := Lib.hid (HS8.out.below b1)
  have HW9 := Lib.hid (RS.step HW8.out (Wr.of_below b1))
  obtain ⟨d9, hd9⟩ : ∃ d, d = SynP.side m8 := ⟨_, rfl⟩
  rw [← hd9]
  have HD9 := Lib.hid hd9
  have hdl9 : d9 ≤ 65 := by rw [hd9]; unfold SynP.side; split <;> omega
  clear b1 hd9
  go_wp2_with fail
  refine (rd_want R tv L fin a8 s8 nv ns _ HS9.out [93]).mono ?_
  rintro e w10 hn
  rcases hN : SynP.want fin [93] s8 with - | (⟨fc, fk⟩ | ⟨u10', s10⟩)
  ·rw [hN] at hn; exact hn.elim
  ·rw [hN] at hn
   obtain ⟨rfl, n1⟩ := hn
   refine ⟨rfl, ?_⟩
   have hre : r = some (.error (fc, fk)) := by rw [HR8.out, hN]; rfl
   rw [hre]
   exact ⟨rfl, RS.step HWA.out (RS.step HW9.out n1)⟩
  rw [hN] at hn
  obtain ⟨v10, a10, rfl, n1, n2, n3, rfl⟩ := hn
  have hl10 := want_len hN
  have HS10 := Lib.hid n1
  have HW10 := Lib.hid (RS.step HW9.out n2)
  have HN10 := Lib.hid hN
  clear n1 n2 n3 hN
  have HR10 : Hid (r = if 64 < d6 || 64 < d9 then SynP.fault col 5 else SynP.ret ⟨m5, m8, List.replicate (m5 * m8) (false, 0)⟩ s10) := by
   show _ = _
   rw [HR8.out, HN10.out, HD6.out, HD9.out]; rfl
  have hb10 := (HW10.out.block w.heap.size hlA (by omega) (by simp)).trans HBLK.out
  have e0 : w10.cell? ⟨w.heap.size, 0, none⟩ = some (.int .i64 0) := (cell_of_row w10 _ _ _ _ _ hb10).trans rfl
  have e1 : w10.cell? ⟨w.heap.size, 1, none⟩ = some (.int .i64 0) := (cell_of_row w10 _ _ _ _ _ hb10).trans rfl
  have e2 : w10.cell? ⟨w.heap.size, 2, none⟩ = some (.slice none 0 0) := (cell_of_row w10 _ _ _ _ _ hb10).trans rfl
  have f0 : w10.frozen? ⟨w.heap.size, 0, none⟩ = false := frozen_of_row w10 _ 0 _ _ hb10
  have f1 : w10.frozen? ⟨w.heap.size, 1, none⟩ = false := frozen_of_row w10 _ 1 _ _ hb10
  have f2 : w10.frozen? ⟨w.heap.size, 2, none⟩ = false := frozen_of_row w10 _ 2 _ _ hb10
  have HB10 := Lib.hid hb10
  clear hb10
  by_cases h6 : 64 < d6
  ·have hb6 : (64 : Int) < (d6 : Int) := by omega
   have hre : r = some (.error (col, 5)) := by rw [HR10.out, if_pos (by simp [h6])]; rfl
   have HRE := Lib.hid hre
   clear h6 hre
   go_wp2_with fail
   refine ⟨rfl, ?_⟩
   rw [HRE.out]
   exact ⟨rfl, RS.step HWA.out HW10.out⟩
  ·by_cases h9 : 64 < d9
   ·have hb6 : ¬ (64 : Int) < (d6 : Int) := by omega
    have hb9 : (64 : Int) < (d9 : Int) := by omega
    have hre : r = some (.error (col, 5)) := by rw [HR10.out, if_pos (by simp [h9])]; rfl
    have HRE := Lib.hid hre
    clear h6 h9 hre
    go_wp2_with fail
    refine ⟨rfl, ?_⟩
    rw [HRE.out]
    exact ⟨rfl, RS.step HWA.out HW10.out⟩
   ·have hb6 : ¬ (64 : Int) < (d6 : Int) := by omega
    have hb9 : ¬ (64 : Int) < (d9 : Int) := by omega
    have hm5 : m5 = d6 := by have := HD6.out; unfold SynP.side at this; split at this <;> omega
    have hm8 : m8 = d9 := by have := HD9.out; unfold SynP.side at this; split at this <;> omega
    have hre : r = some (.ok (⟨d6, d9, List.replicate (d6 * d9) (false, 0)⟩, s10)) := by rw [HR10.out, if_neg (by simp; omega), hm5, hm8]; rfl
    obtain ⟨d, hd⟩ : ∃ d, d = d6 * d9 := ⟨_, rfl⟩
    rw [← hd] at hre
    have hdl : d ≤ 4096 := by rw [hd]; exact Nat.mul_le_mul (show d6 ≤ 64 by omega) (show d9 ≤ 64 by omega)
    have hdi : (d6 : Int) * (d9 : Int) = (d : Int) := by rw [hd]; exact (Int.natCast_mul d6 d9).symm
    have HRE := Lib.hid hre
    have hmk := make_ints d hdl
    have hsl10 : w.heap.size < w10.heap.size := Nat.lt_of_lt_of_le hlA HW10.out.size
    clear h6 h9 hre hm5 hm8 hd
    go_wp2_with fail
    obtain ⟨wS, hwS⟩ : ∃ wS, wS = ((w10.setCell ⟨w.heap.size, 0, none⟩ (.int .i64 (d6 : Int))).setCell ⟨w.heap.size, 1, none⟩ (.int .i64 (d9 : Int))).setCell ⟨w.heap.size, 2, none⟩ (.slice (some ⟨w10.heap.size, 0, none⟩) d d) := ⟨_, rfl⟩
    rw [← hwS]
    obtain ⟨p1, p2, p3, -⟩ := mat_set HB10.out hwS
    have hsz : wS.heap.size = w10.heap.size := p3
    obtain ⟨q2, q3⟩ := H.out.loc HS10.out (RS.step HWA.out HW10.out) p2 (fun q hq => by cases hq; exact Nat.le_refl _)
    have hz := IRd.zeros wS d hdl
    rw [hsz] at hz
    have hbF := ((below_alloc wS (.cells (madeCells #[.bool false, .slice none 0 0] (d * 2)) 62)).block w.heap.size (by rw [hsz]; exact hsl10)).trans p1
    refine bodyPost_ret (results_cell_row rfl _ _ w.heap.size 47 _ _ _ rfl hbF Tryz.underlying47 rfl (by kernel_rfl)) rfl ?_
    rw [HRE.out]
    have hbl := below_alloc wS (.cells (madeCells #[.bool false, .slice none 0 0] (d * 2)) 62)
    exact ⟨_, _, rfl, q2.below hbl, RS.step q3 (Wr.of_below hbl), by omega, _, rfl, hz⟩
 ·rw [if_neg hsh] at HR2
  cases hk : SynP.isKind 1 s2.ts with
  | true =>
   rw [hk] at hck
   have hm0 : SynP.isMark [58] s2.ts.tail = false := by
    rw [hk] at hsh; simpa using hsh
   rw [hm0] at hcm
   have HCK := Lib.hid hck
   have HCM := Lib.hid hcm
   clear hsh hck hcm hk hm0
   go_wp2_with fail
   refine (rd_comes R tv L fin a2 s2 nv ns _ HS2.out 0 1 [] (by omega) (by omega)).mono ?_
   rintro e w3 ⟨rfl, b1⟩
   rw [HCK.out]
   have HS3 := Lib.hid (HS2.out.below b1)
   have HW3 := Lib.hid (RS.step HW2.out (Wr.of_below b1))
   clear b1
   go_wp2_with fail
   refine (rd_comes R tv L fin a2 s2 nv ns _ HS3.out 1 3 [58] (by omega) (by omega)).mono ?_
   rintro e w4 ⟨rfl, b1⟩
   rw [HCM.out]
   have HS4 := Lib.hid (HS3.out.below b1)
   have HW4 := Lib.hid (RS.step HW3.out (Wr.of_below b1))
   clear b1
   go_wp2_with fail
   refine (rd_entries R tv L fin a2 s2 nv ns _ HS4.out f (fun e => HNE.out (by rw [HR2.out, e]; rfl))).mono ?_
   rintro e w20 hn
   rcases hN : SynP.entries fin f [] [] s2 with - | (⟨fc, fk⟩ | ⟨⟨acc, lens⟩, s20⟩)
   ·rw [hN] at hn; exact hn.elim
   ·rw [hN] at hn
    obtain ⟨rfl, n1⟩ := hn
    refine ⟨rfl, ?_⟩
    have hre : r = some (.error (fc, fk)) := by rw [HR2.out, hN]; rfl
    rw [hre]
    exact ⟨rfl, RS.step HWA.out (RS.step HW4.out n1)⟩
   rw [hN] at hn
   obtain ⟨v20, a20, rfl, n1, n2, n3, av, lv, cs, rfl, hEn⟩ := hn
   obtain ⟨es1, -, es3⟩ := SynP.entries_sum fin f _ _ _ _ hN rfl (fun x hx => by cases hx)
   simp only at es1 es3 hEn
   have HR20 : Hid (r = SynP.matDone col (acc, lens) s20) := by show _ = _; rw [HR2.out, hN]; rfl
   have HS20 := Lib.hid n1
   have HW20 := Lib.hid (RS.step HW4.out n2)
   obtain ⟨ao, acap, rfl, -, -, -⟩ := ownsRow_shape hEn.own1
   obtain ⟨lo, lcap, rfl, l1, l2, l3⟩ := ownsRow_shape hEn.own2
   obtain ⟨g, rfl, l4, l5, l6⟩ := l3 es3
   have HL6 : Hid (∀ (j x : Nat), lens[j]? = some x → w20.cell? ⟨g, j, none⟩ = some (.int .i64 (x : Nat))) := by
    intro j x hj
    have hjl := (List.getElem?_eq_some_iff.1 hj).1
    rw [l6 j (by omega)]
    simp [ints, hj]
   obtain ⟨k0, hk0⟩ : ∃ k0, lens[0]? = some k0 := ⟨_, List.getElem?_eq_getElem es3⟩
   have hhd : lens.headD 0 = k0 := by
    cases lens with
    | nil => simp at es3
    | cons x l => simpa using hk0
   have c0 := HL6.out 0 k0 hk0
   obtain ⟨nl, hnl⟩ : ∃ nl, nl = lens.length := ⟨_, rfl⟩
   obtain ⟨nc, hnc⟩ : ∃ nc, nc = cs.length := ⟨_, rfl⟩
   rw [← hnl] at es3 l1 ⊢
   rw [← hnc]
   have HNC := Lib.hid hnc
   have hnlb : nl ≤ 9223372036854775807 := by unfold maxLen at l2; omega
   have HEN := Lib.hid hEn
   have hsB : w.heap.size < w4.heap.size := Nat.lt_of_lt_of_le hlA HW4.out.size
   have HNL := Lib.hid hnl
   have HK0 := Lib.hid hk0
   have HHD := Lib.hid hhd
   have hb10 := (HW20.out.block w.heap.size hlA (by omega) (by simp)).trans HBLK.out
   have e0 : w20.cell? ⟨w.heap.size, 0, none⟩ = some (.int .i64 0) := (cell_of_row w20 _ _ _ _ _ hb10).trans rfl
   have e1 : w20.cell? ⟨w.heap.size, 1, none⟩ = some (.int .i64 0) := (cell_of_row w20 _ _ _ _ _ hb10).trans rfl
   have e2 : w20.cell? ⟨w.heap.size, 2, none⟩ = some (.slice none 0 0) := (cell_of_row w20 _ _ _ _ _ hb10).trans rfl
   have f0 : w20.frozen? ⟨w.heap.size, 0, none⟩ = false := frozen_of_row w20 _ 0 _ _ hb10
   have f1 : w20.frozen? ⟨w.heap.size, 1, none⟩ = false := frozen_of_row w20 _ 1 _ _ hb10
   have f2 : w20.frozen? ⟨w.heap.size, 2, none⟩ = false := frozen_of_row w20 _ 2 _ _ hb10
   have HB10 := Lib.hid hb10
   have hsl20 : w.heap.size < w20.heap.size := Nat.lt_of_lt_of_le hlA HW20.out.size
   have hl20 := n3
   clear n1 n2 n3 hEn es1 l2 l3 l6 hk0 hhd hnl hnc hb10 hN HR2
   go_wp2_with fail
   go_loopw [9, 53] (fun _ iv wr => ∃ j : Nat, iv = .int .i64 (j : Nat) ∧ j ≤ nl ∧ (∀ i x, i < j → lens[i]? = some x → x = k0) ∧ wr = w20) (fun _ iv _ => (nl - intOf iv).toNat)
   case atStart => exact ⟨0, rfl, Nat.zero_le _, fun i x h => absurd h (Nat.not_lt_zero i), rfl⟩
   case round =>
    obtain ⟨j, rfl, hjl, hall, hwe⟩ := hrel
    subst hwe
    have HALL := Lib.hid hall
    clear hall
    by_cases hj : j < nl
    ·obtain ⟨x, hx⟩ : ∃ x, lens[j]? = some x := ⟨_, List.getElem?_eq_getElem (by rw [← HNL.out]; exact hj)⟩
     have cj := HL6.out j x hx
     have HX := Lib.hid hx
     clear hx
     by_cases hxk : x = k0
     ·have hxb : ((x : Int) == (k0 : Int)) = true := by simp [hxk]
      have HXK := Lib.hid hxk
      clear hxk
      go_wp2_with fail
      have hfin : ∀ i y, i < j + 1 → lens[i]? = some y → y = k0 := by
       intro i y hi hy
       by_cases hij : i < j
       ·exact HALL.out i y hij hy
       ·have : i = j := by omega
        subst this
        rw [HX.out] at hy
        cases hy
        exact HXK.out
      first | exact ⟨⟨j + 1, rfl, by omega, hfin, rfl⟩, by simp [intOf] <;> omega⟩ | exact ⟨by (repeat apply Exists.intro); exact ⟨⟨j + 1, rfl, by omega, hfin, trivial⟩, rfl⟩, by simp [intOf] <;> omega⟩ | exact ⟨⟨j + 1, rfl, by omega, hfin, trivial⟩, by simp [intOf] <;> omega⟩
     ·have hxb : ((x : Int) == (k0 : Int)) = false := by simp; omega
      have hre : r = some (.error (col, 2)) := by
       rw [HR20.out]
       unfold SynP.matDone
       rw [if_pos (by
        rw [List.any_eq_true]
        exact ⟨x, List.mem_of_getElem? HX.out, by rw [HHD.out]; simpa using hxk⟩)]
       rfl
      have HRE := Lib.hid hre
      clear hxk hre
      go_wp2_with fail
      refine ⟨rfl, ?_⟩
      rw [HRE.out]
      exact ⟨rfl, RS.step HWA.out HW20.out⟩
    ·have hany : ¬ (lens.any (· != lens.headD 0)) = true := by
      rw [HHD.out, List.any_eq_true]
      rintro ⟨x, hx, hne⟩
      obtain ⟨i, hi⟩ := List.getElem?_of_mem hx
      have hil := (List.getElem?_eq_some_iff.1 hi).1
      rw [← HNL.out] at hil
      have := HALL.out i x (by omega) hi
      simp [this] at hne
     have HRD : Hid (r = if 64 < nl || 64 < k0 then SynP.fault col 5 else SynP.ret ⟨nl, k0, acc⟩ s20) := by
      show _ = _
      rw [HR20.out]
      unfold SynP.matDone
      rw [if_neg hany]
      simp only [HHD.out, ← HNL.out]
     clear hany
     by_cases h6 : 64 < nl
     ·have hb6 : (64 : Int) < (nl : Int) := by omega
      have hre : r = some (.error (col, 5)) := by rw [HRD.out, if_pos (by simp [h6])]; rfl
      have HRE := Lib.hid hre
      clear h6 hre
      go_wp2_with fail
      refine ⟨rfl, ?_⟩
      rw [HRE.out]
      exact ⟨rfl, RS.step HWA.out HW20.out⟩
     ·by_cases h9 : 64 < k0
      ·have hb6 : ¬ (64 : Int) < (nl : Int) := by omega
       have hb9 : (64 : Int) < (k0 : Int) := by omega
       have hre : r = some (.error (col, 5)) := by rw [HRD.out, if_pos (by simp [h9])]; rfl
       have HRE := Lib.hid hre
       clear h6 h9 hre
       go_wp2_with fail
       refine ⟨rfl, ?_⟩
       rw [HRE.out]
       exact ⟨rfl, RS.step HWA.out HW20.out⟩
      ·have hb6 : ¬ (64 : Int) < (nl : Int) := by omega
       have hb9 : ¬ (64 : Int) < (k0 : Int) := by omega
       have hre : r = some (.ok (⟨nl, k0, acc⟩, s20)) := by rw [HRD.out, if_neg (by simp; omega)]; rfl
       have HRE := Lib.hid hre
       clear h6 h9 hre
       go_wp2_with fail
       obtain ⟨wS, hwS⟩ : ∃ wS, wS = ((wr.setCell ⟨w.heap.size, 0, none⟩ (.int .i64 (nl : Int))).setCell ⟨w.heap.size, 1, none⟩ (.int .i64 (k0 : Int))).setCell ⟨w.heap.size, 2, none⟩ (.slice ao nc acap) := ⟨_, rfl⟩
       rw [← hwS]
       obtain ⟨p1, p2, p3, p4⟩ := mat_set HB10.out hwS
       obtain ⟨q2, q3⟩ := H.out.loc HS20.out (RS.step HWA.out HW20.out) p2 (fun q hq => by cases hq; exact Nat.le_refl _)
       have hz := (HEN.out.wr p4 hsB).ird
       rw [← HNC.out] at hz
       refine bodyPost_ret (results_cell_row rfl _ _ w.heap.size 47 _ _ _ rfl p1 Tryz.underlying47 rfl (by kernel_rfl)) rfl ?_
       rw [HRE.out]
       exact ⟨_, _, rfl, q2, q3, by omega, _, rfl, hz⟩
  | false =>
   rw [hk] at hck
   have HCK := Lib.hid hck
   clear hsh hck hcm hk
   go_wp2_with fail
   refine (rd_comes R tv L fin a2 s2 nv ns _ HS2.out 0 1 [] (by omega) (by omega)).mono ?_
   rintro e w4 ⟨rfl, b1⟩
   rw [HCK.out]
   have HS4 := Lib.hid (HS2.out.below b1)
   have HW4 := Lib.hid (RS.step HW2.out (Wr.of_below b1))
   clear b1
   go_wp2_with fail
   refine (rd_entries R tv L fin a2 s2 nv ns _ HS4.out f (fun e => HNE.out (by rw [HR2.out, e]; rfl))).mono ?_
   rintro e w20 hn
   rcases hN : SynP.entries fin f [] [] s2 with - | (⟨fc, fk⟩ | ⟨⟨acc, lens⟩, s20⟩)
   ·rw [hN] at hn; exact hn.elim
   ·rw [hN] at hn
    obtain ⟨rfl, n1⟩ := hn
    refine ⟨rfl, ?_⟩
    have hre : r = some (.error (fc, fk)) := by rw [HR2.out, hN]; rfl
    rw [hre]
    exact ⟨rfl, RS.step HWA.out (RS.step HW4.out n1)⟩
   rw [hN] at hn
   obtain ⟨v20, a20, rfl, n1, n2, n3, av, lv, cs, rfl, hEn⟩ := hn
   obtain ⟨es1, -, es3⟩ := SynP.entries_sum fin f _ _ _ _ hN rfl (fun x hx => by cases hx)
   simp only at es1 es3 hEn
   have HR20 : Hid (r = SynP.matDone col (acc, lens) s20) := by show _ = _; rw [HR2.out, hN]; rfl
   have HS20 := Lib.hid n1
   have HW20 := Lib.hid (RS.step HW4.out n2)
   obtain ⟨ao, acap, rfl, -, -, -⟩ := ownsRow_shape hEn.own1
   obtain ⟨lo, lcap, rfl, l1, l2, l3⟩ := ownsRow_shape hEn.own2
   obtain ⟨g, rfl, l4, l5, l6⟩ := l3 es3
   have HL6 : Hid (∀ (j x : Nat), lens[j]? = some x → w20.cell? ⟨g, j, none⟩ = some (.int .i64 (x : Nat))) := by
    intro j x hj
    have hjl := (List.getElem?_eq_some_iff.1 hj).1
    rw [l6 j (by omega)]
    simp [ints, hj]
   obtain ⟨k0, hk0⟩ : ∃ k0, lens[0]? = some k0 := ⟨_, List.getElem?_eq_getElem es3⟩
   have hhd : lens.headD 0 = k0 := by
    cases lens with
    | nil => simp at es3
    | cons x l => simpa using hk0
   have c0 := HL6.out 0 k0 hk0
   obtain ⟨nl, hnl⟩ : ∃ nl, nl = lens.length := ⟨_, rfl⟩
   obtain ⟨nc, hnc⟩ : ∃ nc, nc = cs.length := ⟨_, rfl⟩
   rw [← hnl] at es3 l1 ⊢
   rw [← hnc]
   have HNC := Lib.hid hnc
   have hnlb : nl ≤ 9223372036854775807 := by unfold maxLen at l2; omega
   have HEN := Lib.hid hEn
   have hsB : w.heap.size < w4.heap.size := Nat.lt_of_lt_of_le hlA HW4.out.size
   have HNL := Lib.hid hnl
   have HK0 := Lib.hid hk0
   have HHD := Lib.hid hhd
   have hb10 := (HW20.out.block w.heap.size hlA (by omega) (by simp)).trans HBLK.out
   have e0 : w20.cell? ⟨w.heap.size, 0, none⟩ = some (.int .i64 0) := (cell_of_row w20 _ _ _ _ _ hb10).trans rfl
   have e1 : w20.cell? ⟨w.heap.size, 1, none⟩ = some (.int .i64 0) := (cell_of_row w20 _ _ _ _ _ hb10).trans rfl
   have e2 : w20.cell? ⟨w.heap.size, 2, none⟩ = some (.slice none 0 0) := (cell_of_row w20 _ _ _ _ _ hb10).trans rfl
   have f0 : w20.frozen? ⟨w.heap.size, 0, none⟩ = false := frozen_of_row w20 _ 0 _ _ hb10
   have f1 : w20.frozen? ⟨w.heap.size, 1, none⟩ = false := frozen_of_row w20 _ 1 _ _ hb10
   have f2 : w20.frozen? ⟨w.heap.size, 2, none⟩ = false := frozen_of_row w20 _ 2 _ _ hb10
   have HB10 := Lib.hid hb10
   have hsl20 : w.heap.size < w20.heap.size := Nat.lt_of_lt_of_le hlA HW20.out.size
   have hl20 := n3
   clear n1 n2 n3 hEn es1 l2 l3 l6 hk0 hhd hnl hnc hb10 hN HR2
   go_wp2_with fail
   go_loopw [9, 53] (fun _ iv wr => ∃ j : Nat, iv = .int .i64 (j : Nat) ∧ j ≤ nl ∧ (∀ i x, i < j → lens[i]? = some x → x = k0) ∧ wr = w20) (fun _ iv _ => (nl - intOf iv).toNat)
   case atStart => exact ⟨0, rfl, Nat.zero_le _, fun i x h => absurd h (Nat.not_lt_zero i), rfl⟩
   case round =>
    obtain ⟨j, rfl, hjl, hall, hwe⟩ := hrel
    subst hwe
    have HALL := Lib.hid hall
    clear hall
    by_cases hj : j < nl
    ·obtain ⟨x, hx⟩ : ∃ x, lens[j]? = some x := ⟨_, List.getElem?_eq_getElem (by rw [← HNL.out]; exact hj)⟩
     have cj := HL6.out j x hx
     have HX := Lib.hid hx
     clear hx
     by_cases hxk : x = k0
     ·have hxb : ((x : Int) == (k0 : Int)) = true := by simp [hxk]
      have HXK := Lib.hid hxk
      clear hxk
      go_wp2_with fail
      have hfin : ∀ i y, i < j + 1 → lens[i]? = some y → y = k0 := by
       intro i y hi hy
       by_cases hij : i < j
       ·exact HALL.out i y hij hy
       ·have : i = j := by omega
        subst this
        rw [HX.out] at hy
        cases hy
        exact HXK.out
      first | exact ⟨⟨j + 1, rfl, by omega, hfin, rfl⟩, by simp [intOf] <;> omega⟩ | exact ⟨by (repeat apply Exists.intro); exact ⟨⟨j + 1, rfl, by omega, hfin, trivial⟩, rfl⟩, by simp [intOf] <;> omega⟩ | exact ⟨⟨j + 1, rfl, by omega, hfin, trivial⟩, by simp [intOf] <;> omega⟩
     ·have hxb : ((x : Int) == (k0 : Int)) = false := by simp; omega
      have hre : r = some (.error (col, 2)) := by
       rw [HR20.out]
       unfold SynP.matDone
       rw [if_pos (by
        rw [List.any_eq_true]
        exact ⟨x, List.mem_of_getElem? HX.out, by rw [HHD.out]; simpa using hxk⟩)]
       rfl
      have HRE := Lib.hid hre
      clear hxk hre
      go_wp2_with fail
      refine ⟨rfl, ?_⟩
      rw [HRE.out]
      exact ⟨rfl, RS.step HWA.out HW20.out⟩
    ·have hany : ¬ (lens.any (· != lens.headD 0)) = true := by
      rw [HHD.out, List.any_eq_true]
      rintro ⟨x, hx, hne⟩
      obtain ⟨i, hi⟩ := List.getElem?_of_mem hx
      have hil := (List.getElem?_eq_some_iff.1 hi).1
      rw [← HNL.out] at hil
      have := HALL.out i x (by omega) hi
      simp [this] at hne
     have HRD : Hid (r = if 64 < nl || 64 < k0 then SynP.fault col 5 else SynP.ret ⟨nl, k0, acc⟩ s20) := by
      show _ = _
      rw [HR20.out]
      unfold SynP.matDone
      rw [if_neg hany]
      simp only [HHD.out, ← HNL.out]
     clear hany
     by_cases h6 : 64 < nl
     ·have hb6 : (64 : Int) < (nl : Int) := by omega
      have hre : r = some (.error (col, 5)) := by rw [HRD.out, if_pos (by simp [h6])]; rfl
      have HRE := Lib.hid hre
      clear h6 hre
      go_wp2_with fail
      refine ⟨rfl, ?_⟩
      rw [HRE.out]
      exact ⟨rfl, RS.step HWA.out HW20.out⟩
     ·by_cases h9 : 64 < k0
      ·have hb6 : ¬ (64 : Int) < (nl : Int) := by omega
       have hb9 : (64 : Int) < (k0 : Int) := by omega
       have hre : r = some (.error (col, 5)) := by rw [HRD.out, if_pos (by simp [h9])]; rfl
       have HRE := Lib.hid hre
       clear h6 h9 hre
       go_wp2_with fail
       refine ⟨rfl, ?_⟩
       rw [HRE.out]
       exact ⟨rfl, RS.step HWA.out HW20.out⟩
      ·have hb6 : ¬ (64 : Int) < (nl : Int) := by omega
       have hb9 : ¬ (64 : Int) < (k0 : Int) := by omega
       have hre : r = some (.ok (⟨nl, k0, acc⟩, s20)) := by rw [HRD.out, if_neg (by simp; omega)]; rfl
       have HRE := Lib.hid hre
       clear h6 h9 hre
       go_wp2_with fail
       obtain ⟨wS, hwS⟩ : ∃ wS, wS = ((wr.setCell ⟨w.heap.size, 0, none⟩ (.int .i64 (nl : Int))).setCell ⟨w.heap.size, 1, none⟩ (.int .i64 (k0 : Int))).setCell ⟨w.heap.size, 2, none⟩ (.slice ao nc acap) := ⟨_, rfl⟩
       rw [← hwS]
       obtain ⟨p1, p2, p3, p4⟩ := mat_set HB10.out hwS
       obtain ⟨q2, q3⟩ := H.out.loc HS20.out (RS.step HWA.out HW20.out) p2 (fun q hq => by cases hq; exact Nat.le_refl _)
       have hz := (HEN.out.wr p4 hsB).ird
       rw [← HNC.out] at hz
       refine bodyPost_ret (results_cell_row rfl _ _ w.heap.size 47 _ _ _ rfl p1 Tryz.underlying47 rfl (by kernel_rfl)) rfl ?_
       rw [HRE.out]
       exact ⟨_, _, rfl, q2, q3, by omega, _, rfl, hz⟩
end Go.Proofs.YtgfmiladfeoldaaGreatDoor
