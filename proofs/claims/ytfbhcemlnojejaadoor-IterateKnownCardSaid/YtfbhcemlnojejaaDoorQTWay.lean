/- Plain laws of trust: a chain of zones below each other. -/
import Derived.Test.YtfbhcemlnojejaaDoorQTLaw
namespace Go.Proofs.YtfbhcemlnojejaaDoor
set_option linter.unusedVariables false
set_option linter.unusedSimpArgs false
open Go
set_option maxRecDepth 20000

theorem lab_nodot {x : Bytes} (h : isLab x = true) : ∀ c ∈ x, c ≠ 46 := by
  have h : Word 45 12 x := of_decide_eq_true h
  rintro c hc rfl
  obtain ⟨k, hk, he⟩ := List.mem_iff_getElem.1 hc
  have h3 := h.2.2 k hk
  unfold WordAt at h3
  rw [List.getD_eq_getElem?_getD, List.getElem?_eq_getElem hk, he] at h3
  simp at h3
theorem splitDots_joinD : ∀ {l : List Bytes}, l ≠ [] → (∀ x ∈ l, ∀ c ∈ x, c ≠ 46) → splitDots (joinD l) = l
  | [], h, _ => absurd rfl h
  | [x], _, h => splitDots_nodot (h x (List.mem_singleton_self x))
  | x :: y :: r, _, h => by
    rw [joinD_cons (List.cons_ne_nil y r), splitDots_mid, splitDots_joinD (List.cons_ne_nil y r) (fun z hz => h z (List.mem_cons_of_mem _ hz)), splitDots_nodot (h x (List.mem_cons_self ..))]
    rfl
def glueC (l : List Bytes) : Bytes := if l = [] then [46] else joinD l
def labsOK (l : List Bytes) : Bool := (l.headD [97] = [42] || isLab (l.headD [97])) && l.tail.all isLab
def joinC (l : List Bytes) : Bytes × Int := if labsOK l && decide (l.length ≤ 8) && decide ((glueC l).length ≤ 60) then (glueC l, 0) else ([], 11)
theorem labs_nodot {l : List Bytes} (h : labsOK l = true) : ∀ x ∈ l, ∀ c ∈ x, c ≠ 46 := by
  cases l with
  | nil => intro x hx; cases hx
  | cons y r =>
    unfold labsOK at h
    simp only [List.headD_cons, List.tail_cons, Bool.and_eq_true, Bool.or_eq_true, decide_eq_true_eq] at h
    intro x hx
    rcases List.mem_cons.1 hx with rfl | hx
    · rcases h.1 with h | h
      · rw [of_decide_eq_true h]
        intro c hc; simp at hc; rw [hc]; decide
      · exact lab_nodot h
    · exact lab_nodot (List.all_eq_true.1 h.2 x hx)
theorem join_parts {l : List Bytes} (h : labsOK l = true) : parts (glueC l) = l := by
  unfold glueC
  by_cases hl : l = []
  · subst hl; rfl
  · rw [if_neg hl]
    have hs := splitDots_joinD hl (labs_nodot h)
    unfold parts
    by_cases hd : joinD l = [46]
    · rw [hd] at hs
      rw [← hs] at h
      exact absurd h (by decide)
    · rw [if_neg hd, hs]
theorem join_name {l : List Bytes} (h : (joinC l).2 = 0) : nameOK (joinC l).1 = true ∧ parts (joinC l).1 = l ∧ (joinC l).1 = glueC l := by
  unfold joinC at h ⊢
  split at h
  · rename_i hc
    rw [if_pos hc]
    simp only [Bool.and_eq_true, decide_eq_true_eq] at hc
    obtain ⟨⟨hc1, hc2⟩, hc3⟩ := hc
    refine ⟨?_, join_parts hc1, rfl⟩
    by_cases hl : l = []
    · subst hl; decide
    · simp only
      unfold glueC at hc3 ⊢
      rw [if_neg hl] at hc3 ⊢
      have hs := splitDots_joinD hl (labs_nodot hc1)
      unfold nameOK
      rw [hs]
      obtain ⟨x, r, rfl⟩ := List.exists_cons_of_ne_nil hl
      unfold labsOK at hc1
      simp only [List.headD_cons, List.tail_cons, Bool.and_eq_true, Bool.or_eq_true, decide_eq_true_eq] at hc1 ⊢
      exact .inr ⟨⟨⟨hc3, hc2⟩, hc1.1.symm⟩, hc1.2⟩
  · cases h
end Go.Proofs.YtfbhcemlnojejaaDoor
