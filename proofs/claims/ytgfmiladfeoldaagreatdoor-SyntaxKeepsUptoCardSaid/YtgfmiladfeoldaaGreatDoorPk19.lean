import Derived.Test.YtgfmiladfeoldaaGreatDoorPk14
import Derived.Test.YtgfmiladfeoldaaGreatDoorPk13
set_option linter.unusedSimpArgs false
set_option linter.unusedVariables false
set_option maxRecDepth 100000
set_option maxHeartbeats 16000000
namespace Go.Proofs.YtgfmiladfeoldaaGreatDoor
open Go.RowKit NatP LexP
def Qmt (l:List ((Bool×Nat)×(Bool×Nat))):Prop:=∀p∈l,p.2.2≠0
instance (l:List ((Bool×Nat)×(Bool×Nat))):Decidable (Qmt l):=by unfold Qmt;infer_instance
end Go.Proofs.YtgfmiladfeoldaaGreatDoor
