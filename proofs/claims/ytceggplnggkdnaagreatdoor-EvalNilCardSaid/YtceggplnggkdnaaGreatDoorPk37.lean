/- Joined texts of this claim's proof: EvNilRC2. -/
import Derived.Test.YtceggplnggkdnaaGreatDoorRows
import Derived.Test.YtceggplnggkdnaaGreatDoorCards
set_option linter.unusedSimpArgs false
set_option linter.unusedVariables false
namespace Go.Proofs.YtceggplnggkdnaaGreatDoor
open Go
theorem evalNil_looks : true = Tryz.prog.looks [] := by kernel_rfl
end Go.Proofs.YtceggplnggkdnaaGreatDoor
