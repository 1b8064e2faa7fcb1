/- Joined texts of this claim's proof: EvTie2. -/
import Derived.Test.YtceggplnggkdnaaGreatDoorPk34
set_option linter.unusedSimpArgs false
set_option linter.unusedVariables false
namespace Go.Proofs.YtceggplnggkdnaaGreatDoor
open Go
theorem tie_1 (os : Os) (tape : Tape) : (DataW.laidRun Tryz.prog (varsWorld Tryz.prog 400 (varsId Tryz.prog) os tape).memory 8 ((tieL.filter fun x => x.2.handleName?.isNone).map (·.1))).map (·.1) = some (tieL.filter fun x => x.2.handleName?.isNone) := by kernel_rfl
theorem tie_3 (os : Os) (tape : Tape) : (tieL.filter fun x => x.2.handleName?.isSome).all (handleAtB Tryz.prog (varsWorld Tryz.prog 400 (varsId Tryz.prog) os tape).memory) = true := by kernel_rfl
theorem tie_2 (os : Os) (tape : Tape) : (DataW.laidRun Tryz.prog (varsWorld Tryz.prog 400 (varsId Tryz.prog) os tape).memory 8 ((tieL.filter fun x => x.2.handleName?.isNone).map (·.1))).map (fun x => decide x.2.Nodup && laidRowsB Tryz.prog (varsWorld Tryz.prog 400 (varsId Tryz.prog) os tape).memory x.2) = some true := by kernel_rfl
theorem tie : Tryz.prog.laidByTextLater tieL [.data, .handle, .data, .data, .data] true :=
 Program.laidByTextLater_by_run_h 400 8 tie_w tie_w2 tie_root tie_k tie_g tie_n tie_d tie_1 tie_2 tie_3
end Go.Proofs.YtceggplnggkdnaaGreatDoor
