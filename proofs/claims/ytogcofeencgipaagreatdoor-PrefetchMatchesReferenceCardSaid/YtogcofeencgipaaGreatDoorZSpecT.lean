/- Plain laws: signing and trust. -/
import Derived.Test.YtogcofeencgipaaGreatDoorZSpec
namespace Go.Proofs.YtogcofeencgipaaGreatDoor
set_option linter.unusedVariables false
set_option linter.unusedSimpArgs false
open Go
structure KeyC where
  n : Int
  alg : Int
  deriving DecidableEq
end Go.Proofs.YtogcofeencgipaaGreatDoor
