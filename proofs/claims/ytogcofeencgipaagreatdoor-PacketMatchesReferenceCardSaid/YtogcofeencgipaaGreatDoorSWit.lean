/- A world for the witnesses: the settled one, the table of the rules laid. -/
import Derived.Test.YtogcofeencgipaaGreatDoorSOpen
import Derived.Deep.DeepHandedRow
import Derived.Lib.LaidTab
namespace Go.Proofs.YtogcofeencgipaaGreatDoor
set_option linter.unusedVariables false
set_option linter.unusedSimpArgs false
open Go Go.RowKit Go.ChangeShapes Go.WideShapes
set_option maxRecDepth 100000

theorem own : ownKnob Tryz.prog.godebug = none := by kernel_rfl
def ruleCells : Array Value := ((List.range 9).flatMap fun i => (ruleOf i).cells).toArray
noncomputable def laidWorld (os : Os) : World :=
  { World.holding Tryz.prog os ⟨#[], #[], []⟩ with heap := (World.holding Tryz.prog os ⟨#[], #[], []⟩).heap.modify 0 fun
      | .cells _ t frozen => .cells ruleCells t frozen
      | o => o }
def zMsg : Value := .agg #[intV 0, intV 0, intV 0, intV 0, strV [], intV 0, intV 0, .slice none 0 0, strV []]
def dInt {R : Type} : DataW R := .lit (.int .i64 0)
def dStr {R : Type} : DataW R := .lit (.string [])
def dMsg {R : Type} : DataW R := .agg [dInt, dInt, dInt, dInt, .agg [dStr, dInt], .agg [dInt, .nil, dStr]]
end Go.Proofs.YtogcofeencgipaaGreatDoor
