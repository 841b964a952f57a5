/- Plain laws of trust: times, signatures, chains, further sets. -/
import Derived.Test.YtfbhcemlnojejaaDoorQTL
import Derived.Test.YtfbhcemlnojejaaDoorQTP
namespace Go.Proofs.YtfbhcemlnojejaaDoor
set_option linter.unusedVariables false
set_option linter.unusedSimpArgs false
open Go
set_option maxRecDepth 20000

theorem lab_head {x : Bytes} (h : isLab x = true) : ∃ c r, x = c :: r ∧ c ≠ 42 := by
  have h : Word 45 12 x := of_decide_eq_true h
  obtain ⟨h1, _, h3⟩ := h
  cases x with
  | nil => simp at h1
  | cons c r =>
    refine ⟨c, r, rfl, ?_⟩
    rintro rfl
    have h4 := h3 0 (by simp)
    unfold WordAt at h4
    simp at h4
section
variable {K M : List SignedC}
variable {A : SetC} {t d : Int}
theorem knownI_neg {l : List SignedC} {n : Bytes} {k : Int} : knownI l n k < 0 ↔ findC l n k = none := by
  unfold knownI findC
  cases h : l.findIdx? (isSet n k) with
  | none =>
    simp only
    rw [List.findIdx?_eq_none_iff] at h
    exact ⟨fun _ => List.find?_eq_none.2 (fun x hx => by rw [h x hx]; simp), fun _ => by decide⟩
  | some i =>
    simp only
    obtain ⟨hi, hp, _⟩ := List.findIdx?_eq_some_iff_getElem.1 h
    refine ⟨fun h => by omega, fun h => ?_⟩
    have := List.find?_eq_none.1 h _ (List.getElem_mem hi)
    exact absurd hp this
end
end Go.Proofs.YtfbhcemlnojejaaDoor
