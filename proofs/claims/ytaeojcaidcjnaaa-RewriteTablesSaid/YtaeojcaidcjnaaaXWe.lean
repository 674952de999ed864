import Derived.Test.YtaeojcaidcjnaaaXWd
import Derived.Test.YtaeojcaidcjnaaaXD10
import Derived.Test.YtaeojcaidcjnaaaXRR
set_option linter.unusedVariables false
set_option linter.unusedSimpArgs false
namespace Go.Proofs.Ytaeojcaidcjnaaa
open Go.Sx Go.RowKit
end Go.Proofs.Ytaeojcaidcjnaaa
