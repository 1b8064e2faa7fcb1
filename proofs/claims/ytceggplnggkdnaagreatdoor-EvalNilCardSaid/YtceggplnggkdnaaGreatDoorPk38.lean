/- Joined texts of this claim's proof: EvNilRC3. -/
import Derived.Test.YtceggplnggkdnaaGreatDoorPk27
import Derived.Test.YtceggplnggkdnaaGreatDoorPk36
set_option linter.unusedSimpArgs false
set_option linter.unusedVariables false
namespace Go.Proofs.YtceggplnggkdnaaGreatDoor
open Go
theorem evalNil_go1 : (cloL.any fun g => (Tryz.prog.funcs[g]?).any Func.goes) = false := by kernel_rfl
theorem evalNil_go2 : Tryz.prog.funcs.any Func.goes = false := by kernel_rfl
theorem evalNil_go : Tryz.prog.goes 6 = false := by
 unfold Program.goes
 rw [nilF_clo, evalNil_go1, evalNil_go2, Bool.and_false]
 rfl
theorem evalNil_goes : false = Rows.evalNilRow.goesBy Tryz.prog := by
 show false = ((Tryz.prog.funcNamed "trellis/trellislaw27.EvalNil").any Tryz.prog.goes || false)
 rw [evalNil_fnamed, Option.any_some, evalNil_go, Bool.or_false]
end Go.Proofs.YtceggplnggkdnaaGreatDoor
