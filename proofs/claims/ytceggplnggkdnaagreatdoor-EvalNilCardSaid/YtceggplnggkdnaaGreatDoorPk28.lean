/- Joined texts of this claim's proof: EvNilF2b. -/
import Derived.Test.YtceggplnggkdnaaGreatDoorPk27
set_option linter.unusedSimpArgs false
set_option linter.unusedVariables false
namespace Go.Proofs.YtceggplnggkdnaaGreatDoor
open Go.ChangeShapes Go.WideShapes Go.ChangeAt Go.RowKit LexP
theorem nilF_glob : (cloL.flatMap fun g => ((Tryz.prog.funcs[g]?).bind (·.body)).elim [] Code.globalsNamed).eraseDups = [2, 7, 8, 6, 0, 1, 4, 5] := by kernel_rfl
end Go.Proofs.YtceggplnggkdnaaGreatDoor
