/- Walks: nets: what is few, what is the same. -/
import Derived.Test.YtpnoabbdcakjkaaGreatDoorQWH
import Derived.Test.YtpnoabbdcakjkaaGreatDoorQWI
namespace Go.Proofs.YtpnoabbdcakjkaaGreatDoor
set_option linter.unusedVariables false
set_option linter.unusedSimpArgs false
open Go Go.RowKit
set_option maxRecDepth 20000

theorem net_eq {a b : Net} : a.c = b.c ↔ (a.seq = b.seq ∧ a.list.els.map Transit.c = b.list.els.map Transit.c) := by unfold Net.c; simp
theorem transit_eq {a b : Transit} : a.c = b.c ↔ (a.at_ = b.at_ ∧ a.seq = b.seq ∧ a.m.c = b.m.c) := by unfold Transit.c; simp
end Go.Proofs.YtpnoabbdcakjkaaGreatDoor
namespace Go.Proofs.YtpnoabbdcakjkaaGreatDoor
set_option linter.unusedVariables false
set_option linter.unusedSimpArgs false
open Go Go.RowKit
set_option maxRecDepth 20000
end Go.Proofs.YtpnoabbdcakjkaaGreatDoor
