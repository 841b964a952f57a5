/- Walks: numbers and texts as bytes; digests. -/
import Derived.Test.YtfbhcemlnojejaaDoorQEngB
import Derived.Test.YtfbhcemlnojejaaDoorQWB
import Derived.Test.YtfbhcemlnojejaaDoorQNA
namespace Go.Proofs.YtfbhcemlnojejaaDoor
set_option linter.unusedVariables false
set_option linter.unusedSimpArgs false
open Go Go.RowKit
open Enc (enc)
set_option maxRecDepth 20000

end Go.Proofs.YtfbhcemlnojejaaDoor
namespace Go.Proofs.YtfbhcemlnojejaaDoor
set_option linter.unusedVariables false
set_option linter.unusedSimpArgs false
open Go Go.RowKit
open Enc (enc)
set_option maxRecDepth 20000

instance instEncIntT : Enc Int where
  size := 1
  enc i := [intV i]
  good _ i := I64 i
  len _ := rfl
  mono _ h := h
  one _ := rfl
  pos := by decide
instance : Enc KeyC where
  size := 2
  enc k := [intV k.n, intV k.alg]
  good _ k := I64 k.n ∧ I64 k.alg
  len _ := rfl
  mono _ h := h
  one _ := rfl
  pos := by decide
end Go.Proofs.YtfbhcemlnojejaaDoor
