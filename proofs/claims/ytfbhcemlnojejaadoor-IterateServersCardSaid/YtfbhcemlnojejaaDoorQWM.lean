/- Walks: copies of messages. -/
import Derived.Test.YtfbhcemlnojejaaDoorQWL
namespace Go.Proofs.YtfbhcemlnojejaaDoor
set_option linter.unusedVariables false
set_option linter.unusedSimpArgs false
open Go Go.RowKit
open Enc (enc)
set_option maxRecDepth 20000

/-- els' says what els says; behind k it is the same. -/
def CopyTo (H : Hp) (els els' : List Signed) (k : Nat) : Prop := els'.length = els.length ∧ ∀ j s, els[j]? = some s → ∃ s', els'[j]? = some s' ∧ s'.c = s.c ∧ Enc.good H s' ∧ (k ≤ j → s' = s)
theorem copyTo_up {H H' : Hp} {els els' : List Signed} {k : Nat} {s y : Signed} (h : CopyTo H els els' k) (hle : H.le H') (hk : els[k]? = some s) (hc : y.c = s.c) (hy : Enc.good H' y) : CopyTo H' els (els'.set k y) (k + 1) := by
  refine ⟨by rw [List.length_set]; exact h.1, fun j t hj => ?_⟩
  obtain ⟨s', h1, h2, h3, h4⟩ := h.2 j t hj
  by_cases e : k = j
  · subst e
    rw [hk] at hj
    cases hj
    exact ⟨y, List.getElem?_set_self (List.getElem?_eq_some_iff.1 h1).1, hc, hy, fun h' => by omega⟩
  · exact ⟨s', by rw [List.getElem?_set_ne e]; exact h1, h2, Enc.mono hle h3, fun h' => h4 (by omega)⟩
theorem copyTo_c {H : Hp} {els els' : List Signed} {k : Nat} (h : CopyTo H els els' k) : els'.map Signed.c = els.map Signed.c := by
  apply List.ext_getElem?
  intro j
  rw [List.getElem?_map, List.getElem?_map]
  cases hj : els[j]? with
  | none =>
    rw [List.getElem?_eq_none_iff, ← h.1, ← List.getElem?_eq_none_iff] at hj
    rw [hj]
  | some s =>
    obtain ⟨s', h1, h2, _⟩ := h.2 j s hj
    rw [h1]; exact congrArg some h2
theorem copyTo_good {H : Hp} {els els' : List Signed} {k : Nat} (h : CopyTo H els els' k) : ∀ x ∈ els', Enc.good H x := fun x hx => by
  obtain ⟨j, hj, rfl⟩ := List.mem_iff_getElem.1 hx
  obtain ⟨s', h1, _, h3, _⟩ := h.2 j (els[j]'(by rw [← h.1]; exact hj)) (List.getElem?_eq_getElem _)
  rw [List.getElem?_eq_getElem hj] at h1
  cases h1; exact h3
theorem encs_at {α : Type} [Enc α] {l : List α} {k j o : Nat} {x : α} {v : Value} (hk : l[k]? = some x) (hj : (enc x)[j]? = some v) (ho : o = k * Enc.size α + j) : (encs l)[o]? = some v := by
  rw [ho]; exact encs_get l k j x v hk hj
end Go.Proofs.YtfbhcemlnojejaaDoor
