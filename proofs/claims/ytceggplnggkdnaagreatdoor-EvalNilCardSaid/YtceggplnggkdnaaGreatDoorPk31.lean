/- Joined texts of this claim's proof: EvNilF4. -/
import Derived.Test.YtceggplnggkdnaaGreatDoorPk25
set_option linter.unusedSimpArgs false
set_option linter.unusedVariables false
namespace Go.Proofs.YtceggplnggkdnaaGreatDoor
open Go.ChangeShapes Go.WideShapes Go.ChangeAt Go.RowKit LexP
theorem nilF_rec : (Rows.evalNilRow.recurses == Tryz.prog.recurses 6) = true := by kernel_rfl
theorem nilF_maps : mapsRowed Tryz.prog = true := by kernel_rfl
end Go.Proofs.YtceggplnggkdnaaGreatDoor
