/- Joined texts of this claim's proof: SyRow4, EvRow. -/
import Derived.Test.YtceggplnggkdnaaGreatDoorPk24
import Derived.Stop.LaidErr
set_option linter.unusedSimpArgs false
set_option linter.unusedVariables false
namespace Go.Proofs.YtceggplnggkdnaaGreatDoor
open Go.ChangeShapes Go.WideShapes Go.ChangeAt Go.RowKit
def litVal : DataW Unit → Value
 | .lit (.int k z) => .int k z
 | _ => undef
def aggVals : DataW Unit → Array Value
 | .agg l => (l.map litVal).toArray
 | _ => #[]
def putVals (d : DataW Unit) : Obj → Obj
 | .cells _ t frozen => .cells (aggVals d) t frozen
 | o => o
noncomputable def laidWorld4 (os : Os) : World :=
 { World.holding Tryz.prog os ⟨#[], #[], []⟩ with heap := ((((World.holding Tryz.prog os ⟨#[], #[], []⟩).heap.modify 6 (putVals Rows.laid_trellis_radix_signs)).modify 1 (putVals Rows.laid_internal_strconv_uint64pow10)).modify 5 (putVals Rows.laid_math_bits_deBruijn64tab)).modify 4 (putVals Rows.laid_math_bits_deBruijn32tab) }
end Go.Proofs.YtceggplnggkdnaaGreatDoor
namespace Go.Proofs.YtceggplnggkdnaaGreatDoor
open Go.ChangeShapes Go.WideShapes Go.ChangeAt Go.RowKit
def laid5 : List (String × DataW Unit) := [("trellis/radix.signs", Rows.laid_trellis_radix_signs), ("errors.errorType", Rows.laid_errors_errorType), ("internal/strconv.uint64pow10", Rows.laid_internal_strconv_uint64pow10), ("math/bits.deBruijn32tab", Rows.laid_math_bits_deBruijn32tab), ("math/bits.deBruijn64tab", Rows.laid_math_bits_deBruijn64tab)]
def laidT : List (String × DataW Unit) := [("trellis/radix.signs", Rows.laid_trellis_radix_signs), ("internal/strconv.uint64pow10", Rows.laid_internal_strconv_uint64pow10), ("math/bits.deBruijn32tab", Rows.laid_math_bits_deBruijn32tab), ("math/bits.deBruijn64tab", Rows.laid_math_bits_deBruijn64tab)]
theorem laid5_h : (laid5.filter fun x => x.2.handleName?.isSome) = [("errors.errorType", Rows.laid_errors_errorType)] := by kernel_rfl
theorem laid5_t : (laid5.filter fun x => x.2.handleName?.isNone) = laidT := by kernel_rfl
theorem laid5_iff (w : World) : laidMetH Tryz.prog laid5 w = (laidMet Tryz.prog laidT w ∧ handlesMet Tryz.prog [("errors.errorType", Rows.laid_errors_errorType)] w) := by
 unfold laidMetH
 rw [laid5_h, laid5_t]
theorem sg_of_laid5 {w : World} (h : laidMetH Tryz.prog laid5 w) : SG w ∧ 6 < w.heap.size := by
 rw [laid5_iff] at h
 have ht : Lib.TabIs Tryz.prog w "trellis/radix.signs" .u8 signZs := Lib.tabIs_of_head (zs := signZs) gSigns tSigns uSigns uU8 cU8 cSigns h.1
 have hs : SG w := by
  intro d hd
  have h2 := World.var?_cell gSigns ht d
  rw [h2]
  match d, hd with
  | 0, _ => rfl
  | 1, _ => rfl
  | 2, _ => rfl
  | 3, _ => rfl
  | 4, _ => rfl
  | 5, _ => rfl
  | 6, _ => rfl
  | 7, _ => rfl
  | 8, _ => rfl
  | 9, _ => rfl
 exact ⟨hs, World.block_lt_of_cell? w _ (hs 0 (by omega))⟩
noncomputable def laidWorld5 (os : Os) : World :=
 { laidWorld4 os with heap := (laidWorld4 os).heap.modify 0 fun
   | .cells _ t frozen => .cells #[.iface 282 (.agg #[typeHandle Tryz.prog 74])] t frozen
   | o => o }
theorem laid_met5 (os : Os) (args : Array Value) : laidMetH Tryz.prog laid5 ((laidWorld5 os).forCall (fun _ _ => 0) ⟨#[], args, []⟩).memory := by
 rw [laid5_iff]
 refine ⟨laidMet_of_run' 8 (by kernel_rfl) (by kernel_rfl), ?_⟩
 intro x hx
 rw [List.mem_singleton] at hx
 subst hx
 exact ⟨[101, 114, 114, 111, 114], 282, 74, rfl, by kernel_rfl, by decide +kernel, by kernel_rfl, by kernel_rfl⟩
end Go.Proofs.YtceggplnggkdnaaGreatDoor
