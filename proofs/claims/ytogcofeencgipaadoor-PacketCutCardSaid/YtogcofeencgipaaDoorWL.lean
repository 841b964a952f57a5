/- Walks: copies. -/
import Derived.Test.YtogcofeencgipaaDoorWG
import Derived.Test.YtogcofeencgipaaDoorEngC
namespace Go.Proofs.YtogcofeencgipaaDoor
set_option linter.unusedVariables false
set_option linter.unusedSimpArgs false
open Go Go.RowKit
set_option maxRecDepth 20000

end Go.Proofs.YtogcofeencgipaaDoor
