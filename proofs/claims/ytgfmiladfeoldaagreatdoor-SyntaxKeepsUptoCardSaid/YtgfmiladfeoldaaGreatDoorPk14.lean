import Derived.Test.YtgfmiladfeoldaaGreatDoorPk11
set_option linter.unusedSimpArgs false
set_option linter.unusedVariables false
set_option maxRecDepth 100000
set_option maxHeartbeats 16000000
namespace Go.Proofs.YtgfmiladfeoldaaGreatDoor
open Go.RowKit NatP LexP
end Go.Proofs.YtgfmiladfeoldaaGreatDoor
