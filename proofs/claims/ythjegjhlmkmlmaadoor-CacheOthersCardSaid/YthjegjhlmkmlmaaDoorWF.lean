/- Walks: signatures, signed sets. -/
import Derived.Test.YthjegjhlmkmlmaaDoorWE
import Derived.Test.YthjegjhlmkmlmaaDoorSpec4
namespace Go.Proofs.YthjegjhlmkmlmaaDoor
set_option linter.unusedVariables false
set_option linter.unusedSimpArgs false
open Go Go.RowKit
set_option maxRecDepth 20000

end Go.Proofs.YthjegjhlmkmlmaaDoor
