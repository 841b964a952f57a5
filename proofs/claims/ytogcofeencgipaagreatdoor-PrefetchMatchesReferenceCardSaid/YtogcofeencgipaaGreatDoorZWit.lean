/- A world for the witnesses: the settled one, the table of the rules laid. -/
import Derived.Test.YtogcofeencgipaaGreatDoorZOpen
import Derived.Deep.DeepHandedRow
import Derived.Lib.LaidTab
namespace Go.Proofs.YtogcofeencgipaaGreatDoor
set_option linter.unusedVariables false
set_option linter.unusedSimpArgs false
open Go Go.RowKit Go.ChangeShapes Go.WideShapes
set_option maxRecDepth 100000

theorem own : ownKnob Tryz.prog.godebug = none := by kernel_rfl
def ruleCells : Array Value := ((List.range 9).flatMap fun i => (ruleOf i).cells).toArray
noncomputable def laidWorld (os : Os) : World :=
  { World.holding Tryz.prog os ⟨#[], #[], []⟩ with heap := (World.holding Tryz.prog os ⟨#[], #[], []⟩).heap.modify 0 fun
      | .cells _ t frozen => .cells ruleCells t frozen
      | o => o }
theorem laid_met (os : Os) (args : Array Value) : laidMet Tryz.prog [("nameplan/record.rules", Rows.laid_nameplan_record_rules)] ((laidWorld os).forCall (fun _ _ => 0) ⟨#[], args, []⟩).memory :=
  laidMet_of_run' 8 (by kernel_rfl) (by kernel_rfl)
def dInt {R : Type} : DataW R := .lit (.int .i64 0)
def dStr {R : Type} : DataW R := .lit (.string [])
end Go.Proofs.YtogcofeencgipaaGreatDoor
