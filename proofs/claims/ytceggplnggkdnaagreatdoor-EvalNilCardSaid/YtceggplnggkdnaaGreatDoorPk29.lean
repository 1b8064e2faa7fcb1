/- Joined texts of this claim's proof: EvNilF2. -/
import Derived.Test.YtceggplnggkdnaaGreatDoorPk28
set_option linter.unusedSimpArgs false
set_option linter.unusedVariables false
namespace Go.Proofs.YtceggplnggkdnaaGreatDoor
open Go.ChangeShapes Go.WideShapes Go.ChangeAt Go.RowKit LexP
theorem nilF_ent : (cloL.filterMap fun g => (Tryz.prog.funcs[g]?).bind fun fn => if fn.body.isNone then entryReads.lookup fn.name else none) = ["internal/bytealg.MaxLen"] := by kernel_rfl
theorem nilF_named : (Rows.evalNilRow.named == Tryz.prog.varsNamed 6) = true := by
 unfold Program.varsNamed
 rw [nilF_clo, nilF_glob, nilF_ent]
 kernel_rfl
end Go.Proofs.YtceggplnggkdnaaGreatDoor
