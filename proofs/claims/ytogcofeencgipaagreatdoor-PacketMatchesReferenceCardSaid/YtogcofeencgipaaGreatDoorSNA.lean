/- Walks: names under names. -/
import Derived.Test.YtogcofeencgipaaGreatDoorSWG
import Derived.Test.YtogcofeencgipaaGreatDoorSEngC
import Derived.Test.YtogcofeencgipaaGreatDoorSSpec
import Derived.Test.YtogcofeencgipaaGreatDoorSSpecC
import Derived.Test.YtogcofeencgipaaGreatDoorSDataC
namespace Go.Proofs.YtogcofeencgipaaGreatDoor
set_option linter.unusedVariables false
set_option linter.unusedSimpArgs false
open Go Go.RowKit
open Enc (enc)
set_option maxRecDepth 20000

theorem N.ret_two {m : Nat} {P : Program} {w0 : World} {H0 H : Hp} {L : List Loc} {env : List (Nat × Value)} {ro : Option Nat} {fn : Func} {r s : ResultVar} {v u : Value} {x : Value} (hr : fn.results = #[r, s]) (h1 : RV P ⟨m, [], ro⟩ w0 H0 env H L r v) (h2 : RV P ⟨m, [], ro⟩ w0 H0 env H L s u) (he : .tuple #[v, u] = x) : N ⟨m, [], ro⟩ w0 H0 (bodyPost P fn (Ret w0 x)) .ret env H L :=
  N.ret2 hr h1 h2 fun _ hs => ⟨by rw [he], hs.below⟩
end Go.Proofs.YtogcofeencgipaaGreatDoor
namespace Go.Proofs.YtogcofeencgipaaGreatDoor
set_option linter.unusedVariables false
set_option linter.unusedSimpArgs false
open Go Go.RowKit
open Enc (enc)
set_option maxRecDepth 20000

end Go.Proofs.YtogcofeencgipaaGreatDoor
namespace Go.Proofs.YtogcofeencgipaaGreatDoor
set_option linter.unusedVariables false
set_option linter.unusedSimpArgs false
open Go Go.RowKit
open Enc (enc)
set_option maxRecDepth 20000

end Go.Proofs.YtogcofeencgipaaGreatDoor
namespace Go.Proofs.YtogcofeencgipaaGreatDoor
set_option linter.unusedVariables false
set_option linter.unusedSimpArgs false
open Go Go.RowKit
open Enc (enc)
set_option maxRecDepth 20000

end Go.Proofs.YtogcofeencgipaaGreatDoor
