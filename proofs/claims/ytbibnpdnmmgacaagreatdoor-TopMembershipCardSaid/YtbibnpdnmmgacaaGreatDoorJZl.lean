import Derived.Test.YtbibnpdnmmgacaaGreatDoorJZk
set_option linter.unusedVariables false
set_option linter.unusedSimpArgs false
set_option maxRecDepth 100000
namespace Go.Proofs.YtbibnpdnmmgacaaGreatDoor
open Go.Sx Go.RowKit
end Go.Proofs.YtbibnpdnmmgacaaGreatDoor
namespace Go.Proofs.YtbibnpdnmmgacaaGreatDoor
open Go.Sx Go.RowKit
end Go.Proofs.YtbibnpdnmmgacaaGreatDoor
