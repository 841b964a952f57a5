/- Walks: nets: order, fates, what is valid. -/
import Derived.Test.YtogcofeencgipaaDoorWG
import Derived.Test.YtogcofeencgipaaDoorEngC
namespace Go.Proofs.YtogcofeencgipaaDoor
set_option linter.unusedVariables false
set_option linter.unusedSimpArgs false
open Go Go.RowKit
set_option maxRecDepth 20000

def orderI (a b : Transit) : Int := orL [cmpI a.at_ b.at_, cmpI a.seq b.seq]
theorem orderI_pos (a b : Transit) : 0 < orderI a b ↔ netLe a.c b.c = false := by
  unfold orderI netLe
  rw [show a.c.at_ = a.at_ from rfl, show b.c.at_ = b.at_ from rfl, show a.c.seq = a.seq from rfl, show b.c.seq = b.seq from rfl, decide_eq_false_iff_not]
  simp only [orL, cmpI]
  by_cases h1 : a.at_ < b.at_
  · simp [h1]
  · by_cases h2 : b.at_ < a.at_
    · simp [h1, h2] <;> omega
    · by_cases h3 : a.seq < b.seq
      · simp [h1, h2, h3] <;> omega
      · by_cases h4 : b.seq < a.seq
        · simp [h1, h2, h3, h4] <;> omega
        · simp [h1, h2, h3, h4] <;> omega
/-! ### valid nets -/
def NetHead (n : Net) : Prop := 0 ≤ n.seq ∧ n.seq ≤ 1000000000 ∧ n.list.len ≤ 200
def NetAt (n : Net) (j : Nat) (h : j < n.list.els.length) : Prop := ((0 ≤ n.list.els[j].at_ ∧ n.list.els[j].at_ ≤ 20000000) ∧ (0 ≤ n.list.els[j].seq ∧ n.list.els[j].seq < n.seq) ∧ msgOK n.list.els[j].m.c = true) ∧ (0 < j → netLe (n.list.els[j - 1]'(by omega)).c n.list.els[j].c = true) ∧ ∀ i (hi : i < j), (n.list.els[i]'(by omega)).seq ≠ n.list.els[j].seq
def NetUp (n : Net) (k : Nat) : Prop := ∀ j (h : j < n.list.els.length), j < k → NetAt n j h
theorem transitOK_iff (s : Int) (t : Transit) : transitOK s t.c = true ↔ ((0 ≤ t.at_ ∧ t.at_ ≤ 20000000) ∧ (0 ≤ t.seq ∧ t.seq < s) ∧ msgOK t.m.c = true) := by
  unfold transitOK
  rw [show t.c.at_ = t.at_ from rfl, show t.c.seq = t.seq from rfl, show t.c.m = t.m.c from rfl]
  simp only [Bool.and_eq_true, decide_eq_true_eq, and_assoc]
theorem netC_iff {n : Net} (hlen : n.list.els.length = n.list.len) : netOK n.c = true ↔ (NetHead n ∧ NetUp n n.list.len) := by
  have hl : n.c.list.length = n.list.els.length := List.length_map _
  have e : ∀ i (h : i < n.list.els.length) (h' : i < n.c.list.length), n.c.list[i] = n.list.els[i].c := fun i h h' => List.getElem_map _
  refine (netOK_iff n.c).trans (and_congr ?_ ⟨fun h j hj hjk => ?_, fun h j hj hjk => ?_⟩)
  · unfold NetHead; rw [hl, hlen]; exact Iff.rfl
  · obtain ⟨h1, h2, h3⟩ := h j (by omega) (by omega)
    refine ⟨(transitOK_iff _ _).1 (by rw [← e j hj (by omega)]; exact h1), fun h0 => ?_, fun i hi => ?_⟩
    · rw [← e j hj (by omega), ← e (j - 1) (by omega) (by omega)]; exact h2 h0
    · have := h3 i hi
      rw [e j hj (by omega), e i (by omega) (by omega)] at this
      exact this
  · obtain ⟨h1, h2, h3⟩ := h j (by omega) (by omega)
    refine ⟨by rw [e j (by omega) hj]; exact (transitOK_iff _ _).2 h1, fun h0 => ?_, fun i hi => ?_⟩
    · rw [e j (by omega) hj, e (j - 1) (by omega) (by omega)]; exact h2 h0
    · rw [e j (by omega) hj, e i (by omega) (by omega)]
      exact h3 i hi
theorem netUp_zero (n : Net) : NetUp n 0 := fun _ _ h => by omega
theorem netUp_up {n : Net} {k : Nat} (hk : k < n.list.els.length) (h : NetUp n k) (h1 : NetAt n k hk) : NetUp n (k + 1) := fun j hj hjk => by
  by_cases e : j = k
  · subst e; exact h1
  · exact h j hj (by omega)
theorem netC_no {n : Net} (hlen : n.list.els.length = n.list.len) (h : ¬ NetHead n) : false = netOK n.c := (Bool.eq_false_iff.2 fun h' => h ((netC_iff hlen).1 h').1).symm
theorem netC_noAt {n : Net} (hlen : n.list.els.length = n.list.len) {k : Nat} (hk : k < n.list.els.length) (h : ¬ NetAt n k hk) : false = netOK n.c := (Bool.eq_false_iff.2 fun h' => h (((netC_iff hlen).1 h').2 k hk (by omega))).symm
theorem netC_yes {n : Net} (hlen : n.list.els.length = n.list.len) (hh : NetHead n) {k : Nat} (h : NetUp n k) (hk : n.list.len ≤ k) : true = netOK n.c := ((netC_iff hlen).2 ⟨hh, fun j hj hjk => h j hj (by omega)⟩).symm
def seqs (n : Net) (k : Nat) : List Int := (n.list.els.take k).map (·.seq)
theorem seqs_mem {n : Net} {k : Nat} {a : Int} : a ∈ seqs n k ↔ ∃ i, ∃ h : i < n.list.els.length, i < k ∧ n.list.els[i].seq = a := by
  unfold seqs
  rw [List.mem_map]
  constructor
  · rintro ⟨t, ht, rfl⟩
    obtain ⟨i, hi, rfl⟩ := List.mem_iff_getElem.1 ht
    rw [List.length_take] at hi
    exact ⟨i, by omega, by omega, by rw [List.getElem_take]⟩
  · rintro ⟨i, hi, hk, rfl⟩
    exact ⟨n.list.els[i], List.mem_iff_getElem.2 ⟨i, by rw [List.length_take]; omega, by rw [List.getElem_take]⟩, rfl⟩
theorem seqs_up {n : Net} {k : Nat} (hk : k < n.list.els.length) : seqs n (k + 1) = seqs n k ++ [n.list.els[k].seq] := by
  unfold seqs
  rw [List.take_succ_eq_append_getElem hk, List.map_append]; rfl
abbrev mapOf (l : List Int) : Obj := mObj (fun a : Int => intV a) (l.map fun x => (x, Value.bool true))
end Go.Proofs.YtogcofeencgipaaDoor
