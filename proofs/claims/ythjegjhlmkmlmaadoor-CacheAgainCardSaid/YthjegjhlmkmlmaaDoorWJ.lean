/- Walks: nets: what is few, what is the same. -/
import Derived.Test.YthjegjhlmkmlmaaDoorWH
import Derived.Test.YthjegjhlmkmlmaaDoorWI
namespace Go.Proofs.YthjegjhlmkmlmaaDoor
set_option linter.unusedVariables false
set_option linter.unusedSimpArgs false
open Go Go.RowKit
set_option maxRecDepth 20000

def fewS (s : SignedC) : Bool := decide (s.set.data.length ≤ 20) && decide (s.sigs.length ≤ 20) && decide (s.set.name.length ≤ 200)
theorem fewS_iff (s : Signed) (h1 : s.set.data.els.length = s.set.data.len) (h2 : s.sigs.els.length = s.sigs.len) : fewS s.c = true ↔ (s.set.data.len ≤ 20 ∧ s.sigs.len ≤ 20 ∧ s.set.name.length ≤ 200) := by
  unfold fewS
  rw [show s.c.set.data = s.set.data.els from rfl, show s.c.sigs = s.sigs.els from rfl, show s.c.set.name = s.set.name from rfl, h1, h2]
  simp only [Bool.and_eq_true, decide_eq_true_eq, and_assoc]
theorem fewM_iff (m : Msg) (hlen : m.ans.sets.els.length = m.ans.sets.len) : fewM m.c = true ↔ (m.ans.sets.els.all (fun s => fewS s.c) = true ∧ m.ans.sets.len ≤ 50 ∧ m.q.name.length ≤ 200 ∧ m.ans.cut.length ≤ 200) := by
  have e : fewM m.c = ((m.ans.sets.els.map Signed.c).all fewS && decide ((m.ans.sets.els.map Signed.c).length ≤ 50) && decide (m.q.name.length ≤ 200) && decide (m.ans.cut.length ≤ 200)) := rfl
  rw [e, List.all_map, List.length_map, hlen, show (fewS ∘ Signed.c) = fun s => fewS s.c from rfl]
  simp only [Bool.and_eq_true, decide_eq_true_eq, and_assoc]
theorem fewN_iff (n : Net) (hlen : n.list.els.length = n.list.len) : fewN n.c = true ↔ (n.list.els.all (fun t => fewM t.m.c) = true ∧ n.list.len ≤ 210) := by
  have e : fewN n.c = ((n.list.els.map Transit.c).all (fun t => fewM t.m) && decide ((n.list.els.map Transit.c).length ≤ 210)) := rfl
  rw [e, List.all_map, List.length_map, hlen, show ((fun t : TransitC => fewM t.m) ∘ Transit.c) = fun t => fewM t.m.c from rfl]
  simp only [Bool.and_eq_true, decide_eq_true_eq]
theorem net_eq {a b : Net} : a.c = b.c ↔ (a.seq = b.seq ∧ a.list.els.map Transit.c = b.list.els.map Transit.c) := by unfold Net.c; simp
theorem transit_eq {a b : Transit} : a.c = b.c ↔ (a.at_ = b.at_ ∧ a.seq = b.seq ∧ a.m.c = b.m.c) := by unfold Transit.c; simp
end Go.Proofs.YthjegjhlmkmlmaaDoor
namespace Go.Proofs.YthjegjhlmkmlmaaDoor
set_option linter.unusedVariables false
set_option linter.unusedSimpArgs false
open Go Go.RowKit
set_option maxRecDepth 20000
end Go.Proofs.YthjegjhlmkmlmaaDoor
