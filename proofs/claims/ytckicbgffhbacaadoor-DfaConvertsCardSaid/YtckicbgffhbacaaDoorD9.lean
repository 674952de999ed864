import Derived.Test.YtckicbgffhbacaaDoorD8
import Derived.Test.YtckicbgffhbacaaDoorDP
set_option linter.unusedVariables false
set_option linter.unusedSimpArgs false
namespace Go.Proofs.YtckicbgffhbacaaDoor
open Go.Sx Go.RowKit
end Go.Proofs.YtckicbgffhbacaaDoor
