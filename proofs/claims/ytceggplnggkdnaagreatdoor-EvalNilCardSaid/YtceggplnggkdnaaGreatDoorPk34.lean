/- Joined texts of this claim's proof: EvTie. -/
import Derived.Test.YtceggplnggkdnaaGreatDoorRows
import Derived.LaidByTextLater
import Derived.SevenTiedAt
set_option linter.unusedSimpArgs false
set_option linter.unusedVariables false
namespace Go.Proofs.YtceggplnggkdnaaGreatDoor
open Go
def tieL : List (String × DataW Unit) := [("trellis/radix.signs", Rows.laid_trellis_radix_signs), ("errors.errorType", Rows.laid_errors_errorType), ("internal/strconv.uint64pow10", Rows.laid_internal_strconv_uint64pow10), ("math/bits.deBruijn32tab", Rows.laid_math_bits_deBruijn32tab), ("math/bits.deBruijn64tab", Rows.laid_math_bits_deBruijn64tab)]
theorem tie_w : Tryz.prog.worded (varsWordLater true) = true := by kernel_rfl
theorem tie_w2 : Tryz.prog.worded (varsWordLater !true) = false := by kernel_rfl
theorem tie_root : Tryz.prog.worded rootWordLater = true := by kernel_rfl
theorem tie_k : tieL.map (fun x => Tryz.prog.kindOfLater x.1) = ([.data, .handle, .data, .data, .data] : List LaidKind).map some := by kernel_rfl
theorem tie_g : (Tryz.prog.funcNamed "gosem.cut.vars").isSome = true := by kernel_rfl
theorem tie_n : varsNamedLaterB Tryz.prog (varsId Tryz.prog) tieL = true := by kernel_rfl
theorem tie_d (os : Os) (tape : Tape) : varsDone Tryz.prog 400 (varsId Tryz.prog) os tape = true := by kernel_rfl
end Go.Proofs.YtceggplnggkdnaaGreatDoor
