/- Joined texts of this claim's proof: SyRow. -/
import Derived.Test.YtceggplnggkdnaaGreatDoorRows
import Derived.Test.YtceggplnggkdnaaGreatDoorPk9
import Derived.Test.YtceggplnggkdnaaGreatDoorPk12
import Derived.ProofKit
import Derived.OpenShut
import Derived.ShutString
import Derived.JoinedCond
import Derived.HandedShaped
import Derived.Below
import Derived.ReadAgain
import Derived.ChangeOld
import Derived.Deep.DeepHandedRow
import Derived.Lib.LaidTab
import Derived.MakeChecks
set_option linter.unusedSimpArgs false
set_option linter.unusedVariables false
namespace Go.Proofs.YtceggplnggkdnaaGreatDoor
open Go.ChangeShapes Go.WideShapes Go.ChangeAt Go.RowKit
theorem own : ownKnob Tryz.prog.godebug = none := by kernel_rfl
theorem laidOut : laidOutB Tryz.prog = true := by kernel_rfl
theorem gSigns : Tryz.prog.globalNamed "trellis/radix.signs" = some 6 := by kernel_rfl
theorem tSigns : (Tryz.prog.globals[6]?).map (·.type) = some 607 := by kernel_rfl
theorem uSigns : Tryz.prog.underlying 607 = some (.array 36 5) := by kernel_rfl
theorem uU8 : Tryz.prog.underlying 5 = some (.int .u8) := by kernel_rfl
theorem cU8 : Tryz.prog.cellsOf 5 = 1 := by kernel_rfl
theorem cSigns : Tryz.prog.cellsOf 607 = 36 := by kernel_rfl
def signZs : List Int := [48, 49, 50, 51, 52, 53, 54, 55, 56, 57, 97, 98, 99, 100, 101, 102, 103, 104, 105, 106, 107, 108, 109, 110, 111, 112, 113, 114, 115, 116, 117, 118, 119, 120, 121, 122]
theorem lx_of_shaped {w : World} (h : w.ShapedOpen Tryz.prog) : Lx w :=
 Go.Proofs.cell_of_shapedOpen_int (zero := #[.int .i64 0]) (t := 3) h (of_decide_eq_true (by kernel_rfl)) (by kernel_rfl) rfl (by kernel_rfl) (by kernel_rfl) (by kernel_rfl)
end Go.Proofs.YtceggplnggkdnaaGreatDoor
