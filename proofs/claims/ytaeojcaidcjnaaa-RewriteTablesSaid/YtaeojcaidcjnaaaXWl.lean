import Derived.Test.YtaeojcaidcjnaaaXWk
set_option linter.unusedVariables false
set_option linter.unusedSimpArgs false
namespace Go.Proofs.Ytaeojcaidcjnaaa
open Go.Sx Go.RowKit
end Go.Proofs.Ytaeojcaidcjnaaa
