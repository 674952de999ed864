import Derived.Test.YtaeojcaidcjnaaaXS1
import Derived.ProofKit
import Derived.OpenShut
import Derived.Deep.Slices
namespace Go.Sx
open Go.ChangeShapes Go.WideShapes Go.ChangeAt Go.RowKit
/-! ### what came in, opened -/
end Go.Sx
