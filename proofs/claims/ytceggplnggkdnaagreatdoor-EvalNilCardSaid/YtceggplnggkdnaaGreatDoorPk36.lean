/- Joined texts of this claim's proof: EvNilRC1. -/
import Derived.Test.YtceggplnggkdnaaGreatDoorRows
import Derived.Test.YtceggplnggkdnaaGreatDoorCards
set_option linter.unusedSimpArgs false
set_option linter.unusedVariables false
namespace Go.Proofs.YtceggplnggkdnaaGreatDoor
open Go
theorem evalNil_wf : Rows.evalNilRow.wfByText (OpenSpec.ofChange Rows.evalNilSpec) = true := by kernel_rfl
theorem evalNil_main : Tryz.prog.mainIs = some (true, "36651854b00404a642cbee133ca642ab854553e432116df473c19819445ffab4".toList) := by kernel_rfl
theorem evalNil_fnamed : Tryz.prog.funcNamed "trellis/trellislaw27.EvalNil" = some 6 := by kernel_rfl
theorem evalNil_st : Tryz.prog.wantsStandIn 9 = false := by kernel_rfl
end Go.Proofs.YtceggplnggkdnaaGreatDoor
