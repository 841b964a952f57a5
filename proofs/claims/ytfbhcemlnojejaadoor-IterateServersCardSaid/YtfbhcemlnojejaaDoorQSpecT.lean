/- Plain laws: signing and trust. -/
import Derived.Test.YtfbhcemlnojejaaDoorQSpec
namespace Go.Proofs.YtfbhcemlnojejaaDoor
set_option linter.unusedVariables false
set_option linter.unusedSimpArgs false
open Go
structure KeyC where
  n : Int
  alg : Int
  deriving DecidableEq
def qNil : Question := ⟨[], 0⟩
def isSet (n : Bytes) (t : Int) (s : SignedC) : Bool := decide (s.set.name = n) && decide (s.set.typ = t)
def findC (known : List SignedC) (n : Bytes) (t : Int) : Option SignedC := known.find? (isSet n t)
end Go.Proofs.YtfbhcemlnojejaaDoor
