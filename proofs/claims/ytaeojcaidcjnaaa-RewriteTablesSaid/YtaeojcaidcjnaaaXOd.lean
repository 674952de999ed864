import Derived.Test.YtaeojcaidcjnaaaXS2
import Derived.Test.YtaeojcaidcjnaaaXOp
import Derived.ProofKit
import Derived.OpenShut
import Derived.Deep.Slices
import Derived.WideShapes
namespace Go.Sx
open Go.ChangeShapes Go.WideShapes Go.ChangeAt Go.RowKit
set_option linter.unusedVariables false
section
variable {H : Type} {enc : TypeId × Value → H} {P : Program} {W : World}
end
end Go.Sx
