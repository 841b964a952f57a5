/- A world for the witnesses: the settled one, the table of the rules laid. -/
import Derived.Test.YtogcofeencgipaaDoorOpen
import Derived.Deep.DeepHandedRow
import Derived.Lib.LaidTab
namespace Go.Proofs.YtogcofeencgipaaDoor
set_option linter.unusedVariables false
set_option linter.unusedSimpArgs false
open Go Go.RowKit Go.ChangeShapes Go.WideShapes
set_option maxRecDepth 100000

theorem own : ownKnob Tryd.prog.godebug = none := by kernel_rfl
def ruleCells : Array Value := ((List.range 9).flatMap fun i => (ruleOf i).cells).toArray
noncomputable def laidWorld (os : Os) : World :=
  { World.holding Tryd.prog os ⟨#[], #[], []⟩ with heap := (World.holding Tryd.prog os ⟨#[], #[], []⟩).heap.modify 1 fun
      | .cells _ t frozen => .cells ruleCells t frozen
      | o => o }
theorem laid_met (os : Os) (args : Array Value) : laidMet Tryd.prog [("nameplan/record.rules", Rows.laid_nameplan_record_rules)] ((laidWorld os).forCall (fun _ _ => 0) ⟨#[], args, []⟩).memory :=
  laidMet_of_run' 8 (by kernel_rfl) (by kernel_rfl)
def zNet : Value := .agg #[intV 0, .slice none 0 0]
def zMsg : Value := .agg #[intV 0, intV 0, intV 0, intV 0, strV [], intV 0, intV 0, .slice none 0 0, strV []]
def zFate : Value := .agg #[.bool false, intV 0, intV 0, intV 0]
def dInt {R : Type} : DataW R := .lit (.int .i64 0)
def dStr {R : Type} : DataW R := .lit (.string [])
def dNet {R : Type} : DataW R := .agg [dInt, .nil]
def dMsg {R : Type} : DataW R := .agg [dInt, dInt, dInt, dInt, .agg [dStr, dInt], .agg [dInt, .nil, dStr]]
def dFate {R : Type} : DataW R := .agg [.lit (.bool false), dInt, dInt, dInt]
end Go.Proofs.YtogcofeencgipaaDoor
