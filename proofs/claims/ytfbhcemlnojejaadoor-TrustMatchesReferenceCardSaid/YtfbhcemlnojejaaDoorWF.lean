/- Walks: signatures, signed sets. -/
import Derived.Test.YtfbhcemlnojejaaDoorWB
import Derived.Test.YtfbhcemlnojejaaDoorSpec
namespace Go.Proofs.YtfbhcemlnojejaaDoor
set_option linter.unusedVariables false
set_option linter.unusedSimpArgs false
open Go Go.RowKit
set_option maxRecDepth 20000

end Go.Proofs.YtfbhcemlnojejaaDoor
