/- Walks: answers, messages. -/
import Derived.Test.YtfbhcemlnojejaaDoorWF
import Derived.Test.YtfbhcemlnojejaaDoorWEq
namespace Go.Proofs.YtfbhcemlnojejaaDoor
set_option linter.unusedVariables false
set_option linter.unusedSimpArgs false
open Go Go.RowKit
set_option maxRecDepth 20000

def AnsHead (a : Answer) : Prop := (1 ≤ a.kind ∧ a.kind ≤ 7) ∧ a.sets.len ≤ 40 ∧ (a.kind = 4 → nameOK a.cut = true) ∧ (a.kind ≠ 4 → a.cut = [])
theorem answerOK_iff (a : Answer) (hlen : a.sets.els.length = a.sets.len) : answerOK a.c = true ↔ (AnsHead a ∧ a.sets.els.all (fun s => signedOK s.c) = true) := by
  unfold answerOK AnsHead
  rw [show a.c.kind = a.kind from rfl, show a.c.sets = a.sets.els.map Signed.c from rfl, show a.c.cut = a.cut from rfl, List.all_map, List.length_map, hlen]
  rw [show (signedOK ∘ Signed.c) = fun s => signedOK s.c from rfl]
  generalize (a.sets.els.all fun s => signedOK s.c) = e
  by_cases h : a.kind = 4
  · simp [h]; grind
  · simp [h]; grind
theorem answerOK_no {a : Answer} (hlen : a.sets.els.length = a.sets.len) (h : ¬ AnsHead a) : false = answerOK a.c := (Bool.eq_false_iff.2 fun h' => h ((answerOK_iff a hlen).1 h').1).symm
theorem answerOK_no' {a : Answer} (hlen : a.sets.els.length = a.sets.len) {k : Nat} (hk : k < a.sets.els.length) (h : signedOK a.sets.els[k].c = false) : false = answerOK a.c := (Bool.eq_false_iff.2 fun h' => by
  have := ((answerOK_iff a hlen).1 h').2
  rw [all_no hk (p := fun s => signedOK s.c) h] at this; cases this).symm
theorem answerOK_yes {a : Answer} (hlen : a.sets.els.length = a.sets.len) (h : AnsHead a) {k : Nat} (hk : a.sets.els.length ≤ k) (h' : AllTo (fun s => signedOK s.c) a.sets.els k) : true = answerOK a.c := ((answerOK_iff a hlen).2 ⟨h, allTo_end h' hk⟩).symm
def MsgHead (m : Msg) : Prop := (0 ≤ m.id ∧ m.id ≤ 65535) ∧ (1 ≤ m.frm ∧ m.frm ≤ 1000000) ∧ (1 ≤ m.to ∧ m.to ≤ 1000000) ∧ questionOK m.q = true
theorem msgOK_iff (m : Msg) (hlen : m.ans.sets.els.length = m.ans.sets.len) : msgOK m.c = true ↔ (MsgHead m ∧ (m.kind = 1 → m.ans.kind = 0 ∧ m.ans.sets.len = 0 ∧ m.ans.cut = []) ∧ (m.kind ≠ 1 → m.kind = 2 ∧ answerOK m.ans.c = true)) := by
  unfold msgOK MsgHead
  rw [show m.c.kind = m.kind from rfl, show m.c.id = m.id from rfl, show m.c.frm = m.frm from rfl, show m.c.to = m.to from rfl, show m.c.q = m.q from rfl, show m.c.ans = m.ans.c from rfl, show m.ans.c.kind = m.ans.kind from rfl, show m.ans.c.sets = m.ans.sets.els.map Signed.c from rfl, show m.ans.c.cut = m.ans.cut from rfl]
  have e : (m.ans.sets.els.map Signed.c = []) ↔ m.ans.sets.len = 0 := by rw [List.map_eq_nil_iff, ← hlen, List.length_eq_zero_iff]
  have e' : decide (m.ans.sets.els.map Signed.c = []) = decide (m.ans.sets.len = 0) := decide_eq_decide.2 e
  rw [e']
  by_cases h : m.kind = 1
  · simp [h]; grind
  · simp [h]; grind
theorem msgOK_no {m : Msg} (hlen : m.ans.sets.els.length = m.ans.sets.len) (h : ¬ (MsgHead m ∧ (m.kind = 1 → m.ans.kind = 0 ∧ m.ans.sets.len = 0 ∧ m.ans.cut = []) ∧ (m.kind ≠ 1 → m.kind = 2 ∧ answerOK m.ans.c = true))) : false = msgOK m.c :=
  (Bool.eq_false_iff.2 fun h' => h ((msgOK_iff m hlen).1 h')).symm
theorem msgOK_qu {m : Msg} (hlen : m.ans.sets.els.length = m.ans.sets.len) (hh : MsgHead m) (h1 : m.kind = 1) (h2 : m.ans.kind = 0) (h3 : m.ans.sets.len = 0) : decide (m.ans.cut = []) = msgOK m.c := by
  rw [Bool.eq_iff_iff, decide_eq_true_iff, msgOK_iff m hlen]
  exact ⟨fun h => ⟨hh, fun _ => ⟨h2, h3, h⟩, fun h' => absurd h1 h'⟩, fun h => (h.2.1 h1).2.2⟩
theorem msgOK_an {m : Msg} (hlen : m.ans.sets.els.length = m.ans.sets.len) (hh : MsgHead m) (h1 : m.kind = 2) : answerOK m.ans.c = msgOK m.c := by
  rw [Bool.eq_iff_iff, msgOK_iff m hlen]
  exact ⟨fun h => ⟨hh, fun h' => by omega, fun _ => ⟨h1, h⟩⟩, fun h => (h.2.2 (by omega)).2⟩
theorem matchOK_eq (q a : Msg) : matchOK q.c a.c = (msgOK q.c && msgOK a.c && decide (q.kind = 1) && decide (a.kind = 2) && decide (q.id = a.id) && decide (q.q = a.q) && decide (q.frm = a.to) && decide (q.to = a.frm)) := rfl
end Go.Proofs.YtfbhcemlnojejaaDoor
namespace Go.Proofs.YtfbhcemlnojejaaDoor
set_option linter.unusedVariables false
set_option linter.unusedSimpArgs false
open Go Go.RowKit
set_option maxRecDepth 20000
end Go.Proofs.YtfbhcemlnojejaaDoor
