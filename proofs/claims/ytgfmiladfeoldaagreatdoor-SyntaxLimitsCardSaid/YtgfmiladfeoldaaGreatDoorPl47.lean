/- Joined texts of this claim's proof: SyRow4, LimP, LimW, LimL, LimL0. -/
import Derived.Test.YtgfmiladfeoldaaGreatDoorPl46
import Derived.Stop.LaidErr
import Derived.Test.YtgfmiladfeoldaaGreatDoorPl42
import Derived.Test.YtgfmiladfeoldaaGreatDoorPl40
import Derived.Test.YtgfmiladfeoldaaGreatDoorPl17
import Derived.Test.YtgfmiladfeoldaaGreatDoorPl37
import Derived.Test.YtgfmiladfeoldaaGreatDoorPl1
set_option linter.unusedSimpArgs false
set_option linter.unusedVariables false
namespace Go.Proofs.YtgfmiladfeoldaaGreatDoor
open Go.ChangeShapes Go.WideShapes Go.ChangeAt Go.RowKit
def laid4 : List (String × DataW Unit) := [("math/bits.deBruijn32tab", Rows.laid_math_bits_deBruijn32tab), ("math/bits.deBruijn64tab", Rows.laid_math_bits_deBruijn64tab), ("internal/strconv.uint64pow10", Rows.laid_internal_strconv_uint64pow10), ("trellis/radix.signs", Rows.laid_trellis_radix_signs)]
theorem sg_of_laid4 {w : World} (h : laidMetH Tryz.prog laid4 w) : SG w ∧ 4 < w.heap.size := by
 rw [MakeChecks.laidMetH_plain _ _ _ (by kernel_rfl)] at h
 have h2 : laidMetH Tryz.prog laid1 w := by
  rw [MakeChecks.laidMetH_plain _ _ _ (by kernel_rfl)]
  exact h.tail.tail.tail
 exact sg_of_laid h2
def litVal : DataW Unit → Value
 | .lit (.int k z) => .int k z
 | _ => undef
def aggVals : DataW Unit → Array Value
 | .agg l => (l.map litVal).toArray
 | _ => #[]
def putVals (d : DataW Unit) : Obj → Obj
 | .cells _ t frozen => .cells (aggVals d) t frozen
 | o => o
noncomputable def laidWorld4 (os : Os) : World :=
 { World.holding Tryz.prog os ⟨#[], #[], []⟩ with heap := ((((World.holding Tryz.prog os ⟨#[], #[], []⟩).heap.modify 4 (putVals Rows.laid_trellis_radix_signs)).modify 0 (putVals Rows.laid_internal_strconv_uint64pow10)).modify 3 (putVals Rows.laid_math_bits_deBruijn64tab)).modify 2 (putVals Rows.laid_math_bits_deBruijn32tab) }
theorem laid_met4 (os : Os) (args : Array Value) : laidMetH Tryz.prog laid4 ((laidWorld4 os).forCall (fun _ _ => 0) ⟨#[], args, []⟩).memory := by
 rw [MakeChecks.laidMetH_plain _ _ _ (by kernel_rfl)]
 exact laidMet_of_run' 8 (by kernel_rfl) (by kernel_rfl)
end Go.Proofs.YtgfmiladfeoldaaGreatDoor
namespace SynP
open LexP NatP
def timesB (s : Bytes) : Nat → Bytes
 | 0 => []
 | n + 1 => timesB s n ++ s
theorem timesB_len (s : Bytes) : ∀ n, (timesB s n).length = n * s.length
 | 0 => by simp [timesB]
 | n + 1 => by rw [timesB, List.length_append, timesB_len s n, Nat.succ_mul]
def printB : Bytes := [112, 114, 105, 110, 116]
def brT (k : Nat) : Bytes := printB ++ [32] ++ timesB [40] k ++ [55] ++ timesB [41] k
def sumE' : Nat → Ex
 | 0 => .name [97]
 | n + 1 => .add (sumE' n) (.name [98])
def sumL (n : Nat) : Ln := .cmd printB (.cons (sumE' n) .nil)
theorem sum_op (n : Nat) : loose 6 0 (sumE' n).op = false := by cases n <;> rfl
theorem sum_pr : ∀ n, (sumE' n).pr = [97] ++ timesB [32, 43, 32, 98] n
 | 0 => rfl
 | n + 1 => by
  show par (loose 6 0 (sumE' n).op) (sumE' n).pr ++ [32, 43, 32] ++ par (loose 6 1 (Ex.name [98]).op) (Ex.name [98]).pr = _
  rw [sum_op, show loose 6 1 (Ex.name [98]).op = false from rfl]
  show (sumE' n).pr ++ [32, 43, 32] ++ [98] = _
  rw [sum_pr n, timesB]
  simp
theorem sum_dp : ∀ n, (sumE' n).dp = 0
 | 0 => rfl
 | n + 1 => by
  show max (parD (loose 6 0 (sumE' n).op) (sumE' n).dp) (parD (loose 6 1 (Ex.name [98]).op) (Ex.name [98]).dp) = 0
  rw [sum_op, sum_dp n]; rfl
theorem sum_size : ∀ n, (sumE' n).size = 2 * n + 1
 | 0 => rfl
 | n + 1 => by show (sumE' n).size + 1 + 1 = _; rw [sum_size n]; omega
theorem a_ok : NameOk [97] := ⟨1, by kernel_rfl⟩
theorem b_ok : NameOk [98] := ⟨1, by kernel_rfl⟩
theorem print_ok : NameOk printB := ⟨1, by kernel_rfl⟩
theorem sum_wf : ∀ n, (sumE' n).wf
 | 0 => a_ok
 | n + 1 => ⟨sum_wf n, b_ok⟩
theorem sumL_wf (n : Nat) : (sumL n).wf := ⟨print_ok, by decide, sum_wf n, trivial⟩
theorem sumL_pr (n : Nat) : (sumL n).pr = printB ++ [32, 97] ++ timesB [32, 43, 32, 98] n := by
 show printB ++ [32] ++ ((sumE' n).pr ++ []) = _
 rw [sum_pr, List.append_nil]; simp
theorem sumL_dp (n : Nat) : (sumL n).dp = 0 := by show max (sumE' n).dp 0 = 0; rw [sum_dp]; rfl
theorem sumL_size (n : Nat) : (sumL n).size = 2 * n + 2 := by show (sumE' n).size + 0 + 1 = _; rw [sum_size]
theorem sumL_parse (n : Nat) : parseV (printB ++ [32, 97] ++ timesB [32, 43, 32, 98] n) = if 4096 < 2 * n + 2 then .error (1, 5) else .ok (sumL n) := by
 rw [← sumL_pr, parse_pr (sumL_wf n) (by rw [sumL_dp]; omega), sumL_size]
theorem br_99 : parseV (brT 99) = .ok (.cmd printB (.cons (.num 7) .nil)) := by kernel_rfl
theorem br_100 : parseV (brT 100) = .ok (.cmd printB (.cons (.num 7) .nil)) := by kernel_rfl
theorem br_101 : parseV (brT 101) = .error (107, 5) := by kernel_rfl
theorem br_102 : parseV (brT 102) = .error (107, 5) := by kernel_rfl
def rowB (k : Nat) : Bytes := [91] ++ timesB [49, 32] k ++ [93]
def colB (k : Nat) : Bytes := [91] ++ timesB [49, 59] k ++ [49, 93]
theorem row_62 : readM (rowB 62) = .ok ⟨1, 62, List.replicate 62 (false, 1)⟩ := by kernel_rfl
theorem row_63 : readM (rowB 63) = .ok ⟨1, 63, List.replicate 63 (false, 1)⟩ := by kernel_rfl
theorem row_64 : readM (rowB 64) = .ok ⟨1, 64, List.replicate 64 (false, 1)⟩ := by kernel_rfl
theorem row_65 : readM (rowB 65) = .error 5 := by kernel_rfl
theorem col_62 : readM (colB 61) = .ok ⟨62, 1, List.replicate 62 (false, 1)⟩ := by kernel_rfl
theorem col_63 : readM (colB 62) = .ok ⟨63, 1, List.replicate 63 (false, 1)⟩ := by kernel_rfl
theorem col_64 : readM (colB 63) = .ok ⟨64, 1, List.replicate 64 (false, 1)⟩ := by kernel_rfl
theorem col_65 : readM (colB 64) = .error 5 := by kernel_rfl
theorem shp_62 : readM [91, 54, 50, 58, 48, 93] = .ok ⟨62, 0, []⟩ := by kernel_rfl
theorem shp_63 : readM [91, 54, 51, 58, 49, 93] = .ok ⟨63, 1, List.replicate 63 (false, 0)⟩ := by kernel_rfl
theorem shp_64 : readM [91, 54, 52, 58, 50, 93] = .ok ⟨64, 2, List.replicate 128 (false, 0)⟩ := by kernel_rfl
theorem shp_65 : readM [91, 54, 53, 58, 51, 93] = .error 5 := by kernel_rfl
end SynP
namespace Go.Proofs.YtgfmiladfeoldaaGreatDoor
open Go.RowKit NatP LexP
set_option maxRecDepth 100000 in
set_option maxHeartbeats 1000000 in
theorem small_gen (x : Int) (m : Nat) (hm : m ≤ 1000000000000) (hx : -9223372036854775808 ≤ x ∧ x ≤ 9223372036854775807) :
  ∃ k : Nat, k ≤ m ∧ ∀ w, Calls Tryz.prog 17 #[.int .i64 x, .int .i64 (m : Nat)] w fun e w' => e = .returned (.int .i64 (k : Nat)) ∧ w = w' := by
 have hb : -(m : Int) ≤ x.tmod ((m : Int) + 1) ∧ x.tmod ((m : Int) + 1) ≤ (m : Int) := by
  have h1 := Int.tmod_lt_of_pos x (show (0 : Int) < (m : Int) + 1 by omega)
  have h2 := Int.lt_tmod_of_pos x (show (0 : Int) < (m : Int) + 1 by omega)
  omega
 have hneg : wrap64 (-x.tmod ((m : Int) + 1)) = -x.tmod ((m : Int) + 1) := by
  generalize x.tmod ((m : Int) + 1) = r at hb
  unfold wrap64; omega
 have HN := Lib.hid hneg
 clear hneg
 by_cases h : x.tmod ((m : Int) + 1) < 0
 ·have hd : decide (x.tmod ((m : Int) + 1) < 0) = true := decide_eq_true h
  obtain ⟨k, hk⟩ : ∃ k : Nat, (k : Int) = -x.tmod ((m : Int) + 1) := ⟨(-x.tmod ((m : Int) + 1)).toNat, by omega⟩
  refine ⟨k, by omega, fun w => ?_⟩
  have HK := Lib.hid hk
  clear hk
  go_enter Tryz.func17, Tryz.ntmps17
  go_wp2_with fail
  go_ret
  refine ⟨?_, rfl⟩
  rw [HK.out]
  first | rfl | (conv => rhs; rw [← HN.out]); rfl
 ·have hd : decide (x.tmod ((m : Int) + 1) < 0) = false := decide_eq_false h
  obtain ⟨k, hk⟩ : ∃ k : Nat, (k : Int) = x.tmod ((m : Int) + 1) := ⟨(x.tmod ((m : Int) + 1)).toNat, by omega⟩
  refine ⟨k, by omega, fun w => ?_⟩
  have HK := Lib.hid hk
  clear hk
  go_enter Tryz.func17, Tryz.ntmps17
  go_wp2_with fail
  go_ret
  refine ⟨?_, rfl⟩
  rw [HK.out]
  rfl
def TmO (s : Bytes) (n : Nat) (w : World) (bv iv : Value) (wr : World) : Prop :=
 ∃ k : Nat, k ≤ n ∧ iv = .int .i64 (k : Nat) ∧ OwnB w.heap.size wr bv (SynP.timesB s k) ∧ Below w.heap.size w wr
set_option maxRecDepth 100000 in
set_option maxHeartbeats 2000000 in
theorem times_any (s : Bytes) (n : Nat) (w : World) (hs : s.length ≤ 16) (hn : n ≤ 4096) :
  Calls Tryz.prog 40 #[.string ⟨s.toArray⟩, .int .i64 (n : Nat)] w fun e w' => e = .returned (.string ⟨(SynP.timesB s n).toArray⟩) ∧ Below w.heap.size w w' := by
 obtain ⟨i0, hi, hz0, hz1, hz2⟩ := info_parts Tryz.infoU8
 obtain ⟨T, hT⟩ : ∃ T : ByteArray, T = ⟨s.toArray⟩ := ⟨_, rfl⟩
 have hTs : T.size = s.length := by rw [hT]; rfl
 have HTC : Hid (Lib.strCells T = byCells s) := by show _ = _; rw [hT]; exact strCells_u8s s
 rw [← hT]
 clear hT
 go_enter Tryz.func40, Tryz.ntmps40
 go_wp2_with fail
 go_loopw [5, 6] (fun bv iv wr => TmO s n w bv iv wr) (fun _ iv _ => n - (intOf iv).toNat)
 case atStart =>
  refine ⟨0, Nat.zero_le _, rfl, ?_, below_alloc _ _⟩
  show World.ownsRow _ _ _ _ _ _ _
  exact World.ownsRow_lit w #[] 0 (by omega) (by unfold maxLen; omega) rfl
 case round =>
  obtain ⟨k, hk, rfl, hown, hb⟩ := hrel
  have hzb := hb.size
  by_cases hlt : k < n
  ·have hlen : (SynP.timesB s k).length ≤ 65536 := by
    rw [SynP.timesB_len]
    exact Nat.le_trans (Nat.mul_le_mul (show k ≤ 4096 by omega) hs) (by decide)
   have HOWN := Lib.hid hown
   have HB := Lib.hid hb
   clear hown hb
   go_wp2_with (at_builtin; go_loud (refine wpList_append_str rfl _ _ 88 9 rfl w.heap.size 5 i0 Tryz.underlying88 Tryz.underlying9 hi hz0 hz1 hz2 _ _ (byCells (SynP.timesB s k)) rfl HOWN.out T rfl ?d1 ?d2 ?_))
   case d1 => omega
   case d2 => omega
   intro v' w2 hown' hgrow hat
   have HF : Hid (TmO s n w v' (.int .i64 ((k : Int) + 1)) w2) := by
    refine ⟨k + 1, by omega, by go_num, ?_, Below.grown HB.out hgrow hzb (fun q hq => (World.ownsRow.lt HOWN.out q hq).1)⟩
    show World.ownsRow _ _ _ _ _ _ _
    rw [SynP.timesB, byCells_append, List.length_append, ← HTC.out]
    exact hown'
   clear hown' hgrow hat
   go_wp2_with fail
   first | exact ⟨HF.out, by simp [intOf]; omega⟩ | exact ⟨by (repeat apply Exists.intro); exact ⟨HF.out, rfl⟩, by simp [intOf]; omega⟩
  ·obtain rfl : k = n := by omega
   have HB := Lib.hid hb
   have hrun := run_text hown
   have HOWN := Lib.hid hown
   clear hown hb
   go_wp2_with fail
   go_ret
   exact ⟨rfl, HB.out⟩
end Go.Proofs.YtgfmiladfeoldaaGreatDoor
namespace Go.Proofs.YtgfmiladfeoldaaGreatDoor
open Go.RowKit NatP LexP
theorem sumL_fit {n : Nat} (h : n ≤ 2047) : LnFit (SynP.sumL n) := by
 have hl : (SynP.sumL n).pr.length = 7 + n * 4 := by
  rw [SynP.sumL_pr, List.length_append, SynP.timesB_len]; rfl
 have h1 : SynP.parseV (SynP.sumL n).pr = .ok (SynP.sumL n) := by rw [SynP.sumL_pr, SynP.sumL_parse, if_neg (by omega)]
 exact parseV_fit h1 (by omega)
theorem ba_eq {A : ByteArray} {l : Bytes} (h : A.data.toList = l) : A = ⟨l.toArray⟩ := by
 subst h; cases A; simp
theorem cell3 {w : World} {g : Nat} {x y z : Value} (h : w.heap[g]? = some (.cells #[x, y, z] 47 (0, 0))) : w.cell? ⟨g, 0, none⟩ = some x ∧ w.cell? ⟨g, 1, none⟩ = some y ∧ w.cell? ⟨g, 2, none⟩ = some z := by
 refine ⟨?_, ?_, ?_⟩ <;> rw [cell_of_row _ _ _ _ _ _ h] <;> rfl
def RmC (A : ByteArray) (t : Bytes) : Prop := ∀ w, Lx w → SG w → 4 < w.heap.size → Calls Tryz.prog 20 #[.string A] w (RmPost t w)
theorem rmC {A : ByteArray} {t : Bytes} (h : A.data.toList = t) (ht : t.length ≤ 67108864) : RmC A t := by
 intro w hx hs hsz
 rw [ba_eq h]
 exact readMat_any t w ht hx hs hsz
theorem rm_ok {A : ByteArray} {t : Bytes} {m : SynP.MatV} (h : RmC A t) (hm : SynP.readM t = .ok m) (w : World) (hx : Lx w) (hs : SG w) (hsz : 4 < w.heap.size) : Calls Tryz.prog 20 #[.string A] w fun e w' =>
  ∃ ao cap, e = .returned (.tuple #[.agg #[.int .i64 (m.rows : Nat), .int .i64 (m.cols : Nat), .slice ao m.at_.length cap], .int .i64 0]) ∧ Below w.heap.size w w' := by
 refine (h w hx hs hsz).mono fun e w' hn => ?_
 unfold RmPost at hn
 rw [hm] at hn
 obtain ⟨av, rfl, hb, hir⟩ := hn
 obtain ⟨ao, cap, rfl, -⟩ := hir
 exact ⟨ao, cap, rfl, hb⟩
theorem rm_er {A : ByteArray} {t : Bytes} {k : Nat} (h : RmC A t) (hm : SynP.readM t = .error k) (w : World) (hx : Lx w) (hs : SG w) (hsz : 4 < w.heap.size) : Calls Tryz.prog 20 #[.string A] w fun e w' =>
  e = .returned (.tuple #[.agg #[.int .i64 0, .int .i64 0, .slice none 0 0], .int .i64 (k : Nat)]) ∧ Below w.heap.size w w' := by
 refine (h w hx hs hsz).mono fun e w' hn => ?_
 unfold RmPost at hn
 rw [hm] at hn
 exact hn
def PaC (A : ByteArray) (t : Bytes) : Prop := ∀ w, Lx w → SG w → 4 < w.heap.size → Calls Tryz.prog 13 #[.string A] w (PaP t w)
theorem paC {A : ByteArray} {t : Bytes} (h : A.data.toList = t) (ht : t.length ≤ 67108864) : PaC A t := by
 intro w hx hs hsz
 have := parse_any A w (by show _ ≤ _; rw [h]; exact ht) hx hs hsz
 rw [h] at this
 exact this
theorem pa_ok {A : ByteArray} {t : Bytes} {n : SynP.Ln} {k : Nat} (h : PaC A t) (hn : SynP.parseV t = .ok n) (hk : n.size = k) (w : World) (hx : Lx w) (hs : SG w) (hsz : 4 < w.heap.size) : Calls Tryz.prog 13 #[.string A] w fun e w' =>
  ∃ ao cap, e = .returned (.tuple #[.slice ao k cap, .int .i64 0, .int .i64 0]) ∧ Below w.heap.size w w' ∧ Hid (NdA w' (.slice ao k cap) (SynP.nL n.flat)) := by
 refine (h w hx hs hsz).mono fun e w' hp => ?_
 unfold PaP at hp
 rw [hn] at hp
 obtain ⟨nv, ns, rfl, hb, htr, hfl⟩ := hp
 have hnd := htr.ndl
 rw [hfl] at hnd
 have hna := hnd.nda (Nat.le_refl _)
 obtain ⟨ao, cap, rfl, -⟩ := hnd
 have hl : (SynP.nL n.flat).length = k := by rw [SynP.nL, List.length_map, ln_size, hk]
 rw [hl] at hna ⊢
 exact ⟨ao, cap, rfl, hb, hna⟩
theorem pa_er {A : ByteArray} {t : Bytes} {c k : Nat} (h : PaC A t) (hn : SynP.parseV t = .error (c, k)) (w : World) (hx : Lx w) (hs : SG w) (hsz : 4 < w.heap.size) : Calls Tryz.prog 13 #[.string A] w fun e w' =>
  e = .returned (.tuple #[.slice none 0 0, .int .i64 (c : Nat), .int .i64 (k : Nat)]) ∧ Below w.heap.size w w' := by
 refine (h w hx hs hsz).mono fun e w' hp => ?_
 unfold PaP at hp
 rw [hn] at hp
 exact hp
theorem sum_ok {n : Nat} (h : n ≤ 2047) : SynP.parseV (SynP.printB ++ [32, 97] ++ SynP.timesB [32, 43, 32, 98] n) = .ok (SynP.sumL n) := by rw [SynP.sumL_parse, if_neg (by omega)]
theorem sum_er {n : Nat} (h : 2047 < n) : SynP.parseV (SynP.printB ++ [32, 97] ++ SynP.timesB [32, 43, 32, 98] n) = .error (1, 5) := by rw [SynP.sumL_parse, if_pos (by omega)]
end Go.Proofs.YtgfmiladfeoldaaGreatDoor
namespace Go.Proofs.YtgfmiladfeoldaaGreatDoor
open Go.RowKit NatP LexP
set_option maxHeartbeats 8000000
set_option maxRecDepth 100000 in
theorem limits_0 (x : Int) (hsm : ∀ w, Calls Tryz.prog 17 #[.int .i64 x, .int .i64 3] w fun e w' => e = .returned (.int .i64 0) ∧ w = w') (w : World) (hx : Lx w) (hs : SG w) (hsz : 4 < w.heap.size) :
  Calls Tryz.prog 10 #[.int .i64 x] w fun e w' => e = .returned (.bool true) ∧ Below w.heap.size w w' := by
 have HX := Lib.hid hx
 have HS := Lib.hid hs
 have HW := Lib.hid (wakes_any w hx hs hsz)
 have HSM := Lib.hid hsm
 clear hx hs hsm
 obtain ⟨T1, hT1⟩ : ∃ T : ByteArray, T = ⟨(SynP.timesB [40] 99).toArray⟩ := ⟨_, rfl⟩
 have CT1 : Hid (∀ w, Calls Tryz.prog 40 #[.string ⟨#[40]⟩, .int .i64 99] w fun e w' => e = .returned (.string T1) ∧ Below w.heap.size w w') := fun w => by rw [hT1]; exact times_any [40] 99 w (by decide) (by decide)
 have zT1 : T1.size = 99 := by rw [hT1, Lib.size_eq]; show (SynP.timesB _ _).length = _; rw [SynP.timesB_len]; rfl
 obtain ⟨T2, hT2⟩ : ∃ T : ByteArray, T = ⟨(SynP.timesB [41] 99).toArray⟩ := ⟨_, rfl⟩
 have CT2 : Hid (∀ w, Calls Tryz.prog 40 #[.string ⟨#[41]⟩, .int .i64 99] w fun e w' => e = .returned (.string T2) ∧ Below w.heap.size w w') := fun w => by rw [hT2]; exact times_any [41] 99 w (by decide) (by decide)
 have zT2 : T2.size = 99 := by rw [hT2, Lib.size_eq]; show (SynP.timesB _ _).length = _; rw [SynP.timesB_len]; rfl
 obtain ⟨T3, hT3⟩ : ∃ T : ByteArray, T = ⟨(SynP.timesB [32, 43, 32, 98] 2046).toArray⟩ := ⟨_, rfl⟩
 have CT3 : Hid (∀ w, Calls Tryz.prog 40 #[.string ⟨#[32, 43, 32, 98]⟩, .int .i64 2046] w fun e w' => e = .returned (.string T3) ∧ Below w.heap.size w w') := fun w => by rw [hT3]; exact times_any [32, 43, 32, 98] 2046 w (by decide) (by decide)
 have zT3 : T3.size = 8184 := by rw [hT3, Lib.size_eq]; show (SynP.timesB _ _).length = _; rw [SynP.timesB_len]; rfl
 obtain ⟨T4, hT4⟩ : ∃ T : ByteArray, T = ⟨(SynP.timesB [49, 32] 62).toArray⟩ := ⟨_, rfl⟩
 have CT4 : Hid (∀ w, Calls Tryz.prog 40 #[.string ⟨#[49, 32]⟩, .int .i64 62] w fun e w' => e = .returned (.string T4) ∧ Below w.heap.size w w') := fun w => by rw [hT4]; exact times_any [49, 32] 62 w (by decide) (by decide)
 have zT4 : T4.size = 124 := by rw [hT4, Lib.size_eq]; show (SynP.timesB _ _).length = _; rw [SynP.timesB_len]; rfl
 obtain ⟨T5, hT5⟩ : ∃ T : ByteArray, T = ⟨(SynP.timesB [49, 59] 61).toArray⟩ := ⟨_, rfl⟩
 have CT5 : Hid (∀ w, Calls Tryz.prog 40 #[.string ⟨#[49, 59]⟩, .int .i64 61] w fun e w' => e = .returned (.string T5) ∧ Below w.heap.size w w') := fun w => by rw [hT5]; exact times_any [49, 59] 61 w (by decide) (by decide)
 have zT5 : T5.size = 122 := by rw [hT5, Lib.size_eq]; show (SynP.timesB _ _).length = _; rw [SynP.timesB_len]; rfl
 obtain ⟨I1, hI1⟩ : ∃ T : ByteArray, T = ⟨#[54, 50]⟩ := ⟨_, rfl⟩
 have CI1 : Hid (∀ w, Calls Tryz.prog 41 #[.int .i64 62] w fun e w' => e = .returned (.string I1) ∧ w' = w) := fun w => by rw [hI1]; exact (show Lib.decDigits 62 = [54, 50] by kernel_rfl) ▸ Tryz.strconv_Itoa_small 62 (by decide) w
 have zI1 : I1.size = 2 := by rw [hI1]; rfl
 obtain ⟨I2, hI2⟩ : ∃ T : ByteArray, T = ⟨#[48]⟩ := ⟨_, rfl⟩
 have CI2 : Hid (∀ w, Calls Tryz.prog 41 #[.int .i64 0] w fun e w' => e = .returned (.string I2) ∧ w' = w) := fun w => by rw [hI2]; exact (show Lib.decDigits 0 = [48] by kernel_rfl) ▸ Tryz.strconv_Itoa_small 0 (by decide) w
 have zI2 : I2.size = 1 := by rw [hI2]; rfl
 have HP1 : Hid (PaC ((⟨#[112, 114, 105, 110, 116, 32]⟩ : ByteArray) ++ T1 ++ (⟨#[55]⟩ : ByteArray) ++ T2) (SynP.brT 99)) := paC (by rw [app_list, app_list, app_list, hT1, hT2]; rfl) (by decide)
 have HP2 : Hid (PaC ((⟨#[112, 114, 105, 110, 116, 32, 97]⟩ : ByteArray) ++ T3) (SynP.printB ++ [32, 97] ++ SynP.timesB [32, 43, 32, 98] 2046)) := paC (by rw [app_list, hT3]; rfl) (by rw [List.length_append, SynP.timesB_len]; decide)
 have HR1 : Hid (RmC ((⟨#[91]⟩ : ByteArray) ++ I1 ++ (⟨#[58]⟩ : ByteArray) ++ I2 ++ (⟨#[93]⟩ : ByteArray)) [91, 54, 50, 58, 48, 93]) := rmC (by rw [app_list, app_list, app_list, app_list, hI1, hI2]; rfl) (by decide)
 have HR2 : Hid (RmC ((⟨#[91]⟩ : ByteArray) ++ T4 ++ (⟨#[93]⟩ : ByteArray)) (SynP.rowB 62)) := rmC (by rw [app_list, app_list, hT4]; rfl) (by decide)
 have HR3 : Hid (RmC ((⟨#[91]⟩ : ByteArray) ++ T5 ++ (⟨#[49, 93]⟩ : ByteArray)) (SynP.colB 61)) := rmC (by rw [app_list, app_list, hT5]; rfl) (by decide)
 have HPE : Hid ((⟨(SynP.sumL 2046).pr.toArray⟩ : ByteArray) = (⟨#[112, 114, 105, 110, 116, 32, 97]⟩ : ByteArray) ++ T3) := by show _ = _; rw [SynP.sumL_pr, ba_eq (show ((⟨#[112, 114, 105, 110, 116, 32, 97]⟩ : ByteArray) ++ T3).data.toList = SynP.printB ++ [32, 97] ++ SynP.timesB [32, 43, 32, 98] 2046 by rw [app_list, hT3]; rfl)]
 have m0 : ¬ 9223372036854775807 < 6 + T1.size := by omega
 have m1 : ¬ 9223372036854775807 < 6 + T1.size + 1 := by omega
 have m2 : ¬ 9223372036854775807 < 6 + T1.size + 1 + T2.size := by omega
 have m3 : ¬ 9223372036854775807 < 7 + T3.size := by omega
 have m4 : ¬ 9223372036854775807 < 1 + I1.size := by omega
 have m5 : ¬ 9223372036854775807 < 1 + I1.size + 1 := by omega
 have m6 : ¬ 9223372036854775807 < 1 + I1.size + 1 + I2.size := by omega
 have m7 : ¬ 9223372036854775807 < 1 + I1.size + 1 + I2.size + 1 := by omega
 have m8 : ¬ 9223372036854775807 < 1 + T4.size := by omega
 have m9 : ¬ 9223372036854775807 < 1 + T4.size + 1 := by omega
 have m10 : ¬ 9223372036854775807 < 1 + T5.size := by omega
 have m11 : ¬ 9223372036854775807 < 1 + T5.size + 2 := by omega
 clear hT1 hT2 hT3 hT4 hT5 hI1 hI2 zT1 zT2 zT3 zT4 zT5 zI1 zI2
 go_enter Tryz.func10, Tryz.ntmps10
 go_wp2_with fail
 refine HW.out.mono ?_
 rintro e w1 ⟨rfl, hb1⟩
 have HB1 := Lib.hid hb1
 have hsz1 : 4 < w1.heap.size := Nat.lt_of_lt_of_le hsz hb1.size
 have HX1 := Lib.hid (HX.out.below hb1)
 have HS1 := Lib.hid (HS.out.below hb1 hsz)
 clear hb1 HX HS HW
 go_wp2_with fail
 refine (HSM.out _).mono ?_
 rintro e w2 ⟨rfl, rfl⟩
 go_wp2_with fail
 refine (CT1.out _).mono ?_
 rintro e w2 ⟨rfl, hb2⟩
 have HB2 := Lib.hid (below_next HB1.out hb2)
 have hsz2 : 4 < w2.heap.size := Nat.lt_of_lt_of_le hsz1 hb2.size
 have HX2 := Lib.hid (HX1.out.below hb2)
 have HS2 := Lib.hid (HS1.out.below hb2 hsz1)
 clear hb2
 go_wp2_with fail
 refine (CT2.out _).mono ?_
 rintro e w3 ⟨rfl, hb3⟩
 have HB3 := Lib.hid (below_next HB2.out hb3)
 have hsz3 : 4 < w3.heap.size := Nat.lt_of_lt_of_le hsz2 hb3.size
 have HX3 := Lib.hid (HX2.out.below hb3)
 have HS3 := Lib.hid (HS2.out.below hb3 hsz2)
 clear hb3
 go_wp2_with fail
 refine (pa_ok HP1.out SynP.br_99 (k := 2) rfl _ HX3.out HS3.out hsz3).mono ?_
 rintro e w4 ⟨ao, cap, rfl, hb4, -⟩
 have HB4 := Lib.hid (below_next HB3.out hb4)
 have hsz4 : 4 < w4.heap.size := Nat.lt_of_lt_of_le hsz3 hb4.size
 have HX4 := Lib.hid (HX3.out.below hb4)
 have HS4 := Lib.hid (HS3.out.below hb4 hsz3)
 clear hb4
 go_wp2_with fail
 refine (CT3.out _).mono ?_
 rintro e w5 ⟨rfl, hb5⟩
 have HB5 := Lib.hid (below_next HB4.out hb5)
 have hsz5 : 4 < w5.heap.size := Nat.lt_of_lt_of_le hsz4 hb5.size
 have HX5 := Lib.hid (HX4.out.below hb5)
 have HS5 := Lib.hid (HS4.out.below hb5 hsz4)
 clear hb5
 go_wp2_with fail
 refine (pa_ok HP2.out (sum_ok (by decide)) (k := 4094) (SynP.sumL_size _) _ HX5.out HS5.out hsz5).mono ?_
 rintro e w6 ⟨ao2, cap2, rfl, hb6, HNA⟩
 have HB6 := Lib.hid (below_next HB5.out hb6)
 have hsz6 : 4 < w6.heap.size := Nat.lt_of_lt_of_le hsz5 hb6.size
 have HX6 := Lib.hid (HX5.out.below hb6)
 have HS6 := Lib.hid (HS5.out.below hb6 hsz5)
 clear hb6
 go_wp2_with fail
 refine (copy_any _ (SynP.nL (SynP.sumL 2046).flat) _ (fit_len (sumL_fit (by decide))) (fit_kids (sumL_fit (by decide))) HNA.out).mono ?_
 rintro e w7 ⟨u7, rfl, hn7, hb7⟩
 have HN7 := Lib.hid hn7
 have HB7 := Lib.hid (below_next HB6.out hb7)
 have hsz7 : 4 < w7.heap.size := Nat.lt_of_lt_of_le hsz6 hb7.size
 have HX7 := Lib.hid (HX6.out.below hb7)
 have HS7 := Lib.hid (HS6.out.below hb7 hsz6)
 clear hb7 hn7 HNA
 go_wp2_with fail
 refine (print_good (SynP.sumL 2046) u7 _ _ (sumL_fit (by decide)) HN7.out (Nat.le_refl _) HX7.out HS7.out hsz7).mono ?_
 rintro e w8 ⟨he, hb8⟩
 rw [if_neg (by rw [SynP.sumL_dp]; decide), HPE.out] at he
 subst he
 have HB8 := Lib.hid (below_next HB7.out hb8)
 have hsz8 : 4 < w8.heap.size := Nat.lt_of_lt_of_le hsz7 hb8.size
 have HX8 := Lib.hid (HX7.out.below hb8)
 have HS8 := Lib.hid (HS7.out.below hb8 hsz7)
 clear hb8
 go_wp2_with fail
 refine (CT3.out _).mono ?_
 rintro e w9 ⟨rfl, hb9⟩
 have HB9 := Lib.hid (below_next HB8.out hb9)
 have hsz9 : 4 < w9.heap.size := Nat.lt_of_lt_of_le hsz8 hb9.size
 have HX9 := Lib.hid (HX8.out.below hb9)
 have HS9 := Lib.hid (HS8.out.below hb9 hsz8)
 clear hb9
 go_wp2_with fail
 refine (CI1.out _).mono ?_
 rintro e w10 ⟨rfl, rfl⟩
 go_wp2_with fail
 refine (CI2.out _).mono ?_
 rintro e w10 ⟨rfl, rfl⟩
 go_wp2_with fail
 refine (rm_ok HR1.out SynP.shp_62 _ HX9.out HS9.out hsz9).mono ?_
 rintro e w10 ⟨aoa, capa, rfl, hb10⟩
 simp only [List.length_replicate, List.length_nil]
 have HB10 := Lib.hid (below_next HB9.out hb10)
 have hsz10 : 4 < w10.heap.size := Nat.lt_of_lt_of_le hsz9 hb10.size
 have HX10 := Lib.hid (HX9.out.below hb10)
 have HS10 := Lib.hid (HS9.out.below hb10 hsz9)
 clear hb10
 go_wp2_with fail
 obtain ⟨w11, hw11⟩ : ∃ w11, w11 = w10.alloc (.cells #[.int .i64 62, .int .i64 0, .slice aoa 0 capa] 47) := ⟨_, rfl⟩
 rw [← hw11]
 obtain ⟨ga, hga⟩ : ∃ ga, ga = w10.heap.size := ⟨_, rfl⟩
 rw [← hga]
 have ha11 : w11.heap[ga]? = some (.cells #[.int .i64 62, .int .i64 0, .slice aoa 0 capa] 47 (0, 0)) := by rw [hw11, hga]; exact heap_alloc_new _ _
 have hb11 : Below w10.heap.size w10 w11 := by rw [hw11]; exact below_alloc _ _
 have HB11 := Lib.hid (below_next HB10.out hb11)
 have hsz11 : 4 < w11.heap.size := Nat.lt_of_lt_of_le hsz10 hb11.size
 have HX11 := Lib.hid (HX10.out.below hb11)
 have HS11 := Lib.hid (HS10.out.below hb11 hsz10)
 have HA11 := Lib.hid ha11
 clear hb11 hw11 hga ha11
 refine (CT4.out _).mono ?_
 rintro e w12 ⟨rfl, hb12⟩
 have HB12 := Lib.hid (below_next HB11.out hb12)
 have hsz12 : 4 < w12.heap.size := Nat.lt_of_lt_of_le hsz11 hb12.size
 have HX12 := Lib.hid (HX11.out.below hb12)
 have HS12 := Lib.hid (HS11.out.below hb12 hsz11)
 have HA12 := Lib.hid ((hb12.block ga (Array.getElem?_eq_some_iff.1 HA11.out).1).trans HA11.out)
 clear hb12
 go_wp2_with fail
 refine (rm_ok HR2.out SynP.row_62 _ HX12.out HS12.out hsz12).mono ?_
 rintro e w13 ⟨aob, capb, rfl, hb13⟩
 simp only [List.length_replicate, List.length_nil]
 have HB13 := Lib.hid (below_next HB12.out hb13)
 have hsz13 : 4 < w13.heap.size := Nat.lt_of_lt_of_le hsz12 hb13.size
 have HX13 := Lib.hid (HX12.out.below hb13)
 have HS13 := Lib.hid (HS12.out.below hb13 hsz12)
 have HA13 := Lib.hid ((hb13.block ga (Array.getElem?_eq_some_iff.1 HA12.out).1).trans HA12.out)
 clear hb13
 go_wp2_with fail
 obtain ⟨w14, hw14⟩ : ∃ w14, w14 = w13.alloc (.cells #[.int .i64 1, .int .i64 62, .slice aob 62 capb] 47) := ⟨_, rfl⟩
 rw [← hw14]
 obtain ⟨gb, hgb⟩ : ∃ gb, gb = w13.heap.size := ⟨_, rfl⟩
 rw [← hgb]
 have hd14 : w14.heap[gb]? = some (.cells #[.int .i64 1, .int .i64 62, .slice aob 62 capb] 47 (0, 0)) := by rw [hw14, hgb]; exact heap_alloc_new _ _
 have hb14 : Below w13.heap.size w13 w14 := by rw [hw14]; exact below_alloc _ _
 have HB14 := Lib.hid (below_next HB13.out hb14)
 have hsz14 : 4 < w14.heap.size := Nat.lt_of_lt_of_le hsz13 hb14.size
 have HX14 := Lib.hid (HX13.out.below hb14)
 have HS14 := Lib.hid (HS13.out.below hb14 hsz13)
 have HA14 := Lib.hid ((hb14.block ga (Array.getElem?_eq_some_iff.1 HA13.out).1).trans HA13.out)
 have HD14 := Lib.hid hd14
 clear hb14 hw14 hgb hd14
 refine (CT5.out _).mono ?_
 rintro e w15 ⟨rfl, hb15⟩
 have HB15 := Lib.hid (below_next HB14.out hb15)
 have hsz15 : 4 < w15.heap.size := Nat.lt_of_lt_of_le hsz14 hb15.size
 have HX15 := Lib.hid (HX14.out.below hb15)
 have HS15 := Lib.hid (HS14.out.below hb15 hsz14)
 have HA15 := Lib.hid ((hb15.block ga (Array.getElem?_eq_some_iff.1 HA14.out).1).trans HA14.out)
 have HD15 := Lib.hid ((hb15.block gb (Array.getElem?_eq_some_iff.1 HD14.out).1).trans HD14.out)
 clear hb15
 go_wp2_with fail
 refine (rm_ok HR3.out SynP.col_62 _ HX15.out HS15.out hsz15).mono ?_
 rintro e w16 ⟨aoc, capc, rfl, hb16⟩
 simp only [List.length_replicate, List.length_nil]
 have HB16 := Lib.hid (below_next HB15.out hb16)
 have HA16 := (hb16.block ga (Array.getElem?_eq_some_iff.1 HA15.out).1).trans HA15.out
 have HD16 := (hb16.block gb (Array.getElem?_eq_some_iff.1 HD15.out).1).trans HD15.out
 clear hb16
 have hal := (Array.getElem?_eq_some_iff.1 HA16).1
 have hdl := (Array.getElem?_eq_some_iff.1 HD16).1
 obtain ⟨a0, a1, a2⟩ := cell3 HA16
 obtain ⟨d0, d1, d2⟩ := cell3 HD16
 clear HA16 HD16
 go_wp2_with fail
 go_ret
 exact ⟨rfl, HB16.out.alloc HB16.out.size _⟩
end Go.Proofs.YtgfmiladfeoldaaGreatDoor
