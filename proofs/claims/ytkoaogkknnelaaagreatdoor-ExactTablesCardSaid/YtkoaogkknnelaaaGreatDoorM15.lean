import Derived.Test.YtkoaogkknnelaaaGreatDoorM14
set_option linter.unusedVariables false
set_option linter.unusedSimpArgs false
namespace Go.Proofs.YtkoaogkknnelaaaGreatDoor
namespace Big
open Go.RowKit
end Big
end Go.Proofs.YtkoaogkknnelaaaGreatDoor
