/- Plain laws of iterating: what a resolver asks next. -/
import Derived.Test.YtfbhcemlnojejaaDoorRTWay
namespace Go.Proofs.YtfbhcemlnojejaaDoor
set_option linter.unusedVariables false
set_option linter.unusedSimpArgs false
open Go
set_option maxRecDepth 20000

structure NextC where
  kind : Int
  zone : Bytes
  addrs : List Int
  q : Question
  sets : List SignedC
  deriving DecidableEq
theorem parts_labs {s : Bytes} (h : nameOK s = true) : labsOK (parts s) = true ∧ (parts s).length ≤ 8 := by
  unfold parts
  by_cases hr : s = [46]
  · rw [if_pos hr]; exact ⟨by decide, by simp⟩
  · rw [if_neg hr]
    unfold nameOK at h
    rw [decide_eq_false hr] at h
    simp only [Bool.false_or, Bool.and_eq_true, decide_eq_true_eq, Bool.or_eq_true] at h
    refine ⟨?_, h.1.1.2⟩
    unfold labsOK
    obtain ⟨x, r, hx⟩ := List.exists_cons_of_ne_nil (splitDots_ne s)
    rw [hx] at h ⊢
    simp only [List.headD_cons, List.tail_cons, Bool.and_eq_true, Bool.or_eq_true, decide_eq_true_eq] at h ⊢
    exact ⟨h.1.2.symm.imp_left (fun h => decide_eq_true h), h.2⟩
end Go.Proofs.YtfbhcemlnojejaaDoor
