/- Plain laws: caches. -/
import Derived.Test.YtogcofeencgipaaGreatDoorSSpec
namespace Go.Proofs.YtogcofeencgipaaGreatDoor
set_option linter.unusedVariables false
set_option linter.unusedSimpArgs false
open Go
structure EntryC where
  signed : SignedC
  zone : Bytes
  til : Int
  deriving DecidableEq
end Go.Proofs.YtogcofeencgipaaGreatDoor
namespace Go.Proofs.YtogcofeencgipaaGreatDoor
set_option linter.unusedVariables false
set_option linter.unusedSimpArgs false
open Go
end Go.Proofs.YtogcofeencgipaaGreatDoor
namespace Go.Proofs.YtogcofeencgipaaGreatDoor
set_option linter.unusedVariables false
set_option linter.unusedSimpArgs false
open Go
end Go.Proofs.YtogcofeencgipaaGreatDoor
namespace Go.Proofs.YtogcofeencgipaaGreatDoor
set_option linter.unusedVariables false
set_option linter.unusedSimpArgs false
open Go
end Go.Proofs.YtogcofeencgipaaGreatDoor
