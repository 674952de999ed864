import Derived.Test.YtifnofnnjcchhaaD2
import Derived.Test.YtifnofnnjcchhaaMP
import Derived.Test.YtifnofnnjcchhaaS2
set_option linter.unusedVariables false
set_option linter.unusedSimpArgs false
namespace Go.Proofs.Ytifnofnnjcchhaa
open Go.Sx Go.RowKit
theorem kl98 : KeyL Try.prog 98 (tv : Tup 7 → Value) := keyTup ar98.1 un3 sz3
end Go.Proofs.Ytifnofnnjcchhaa
