/- Plain laws: lists. -/
import Derived.Test.YteehdjpjhdmldaaDoorSpec3
namespace Go.Proofs.YteehdjpjhdmldaaDoor
set_option linter.unusedVariables false
set_option linter.unusedSimpArgs false
open Go
def idxI {α : Type} (p : α → Bool) (l : List α) : Int := if l.any p = true then (l.findIdx p : Int) else -1
theorem idxI_at {α : Type} {p : α → Bool} {l : List α} {k : Nat} (hk : k < l.length) (h : p l[k] = true) (hb : ∀ j (hj : j < k), p (l[j]'(by omega)) = false) : idxI p l = k := by
  unfold idxI
  rw [if_pos (List.any_eq_true.2 ⟨_, List.getElem_mem hk, h⟩), (List.findIdx_eq hk).2 ⟨h, fun j hj => hb j hj⟩]
theorem any_no {α : Type} {p : α → Bool} {l : List α} (h : ∀ j (hj : j < l.length), p l[j] = false) : l.any p = false := by
  rw [List.any_eq_false]
  intro x hx
  obtain ⟨j, hj, rfl⟩ := List.mem_iff_getElem.1 hx
  rw [h j hj]; simp
theorem all_no {α : Type} {p : α → Bool} {l : List α} {k : Nat} (hk : k < l.length) (h : p l[k] = false) : l.all p = false := by
  rw [List.all_eq_false]
  exact ⟨_, List.getElem_mem hk, by rw [h]; simp⟩
theorem all_yes {α : Type} {p : α → Bool} {l : List α} (h : ∀ j (hj : j < l.length), p l[j] = true) : l.all p = true := by
  rw [List.all_eq_true]
  intro x hx
  obtain ⟨j, hj, rfl⟩ := List.mem_iff_getElem.1 hx
  exact h j hj
theorem idxI_none {α : Type} {p : α → Bool} {l : List α} (h : ∀ j (hj : j < l.length), p l[j] = false) : idxI p l = -1 := by
  unfold idxI
  rw [any_no h]; rfl
theorem idxI_ge {α : Type} (p : α → Bool) (l : List α) : decide (0 ≤ idxI p l) = l.any p := by
  unfold idxI
  cases l.any p with
  | true => simp
  | false => simp
theorem any_not {α : Type} (p : α → Bool) (l : List α) : (!l.any fun x => !p x) = l.all p := by
  rw [List.all_eq_not_any_not]
def AllTo {α : Type} (p : α → Bool) (l : List α) (k : Nat) : Prop := ∀ j (hj : j < l.length), j < k → p l[j] = true
theorem allTo_zero {α : Type} {p : α → Bool} {l : List α} : AllTo p l 0 := fun _ _ h => by omega
theorem allTo_up {α : Type} {p : α → Bool} {l : List α} {k : Nat} (hk : k < l.length) (h : AllTo p l k) (h1 : p l[k] = true) : AllTo p l (k + 1) := fun j hj hjk => by
  by_cases e : j = k
  · subst e; exact h1
  · exact h j hj (by omega)
theorem allTo_end {α : Type} {p : α → Bool} {l : List α} {k : Nat} (h : AllTo p l k) (hk : l.length ≤ k) : l.all p = true := all_yes fun j hj => h j hj (by omega)
def EqTo {α β : Type} (f : α → β) (l m : List α) (k : Nat) : Prop := ∀ j (h1 : j < l.length) (h2 : j < m.length), j < k → f l[j] = f m[j]
theorem eqTo_zero {α β : Type} {f : α → β} {l m : List α} : EqTo f l m 0 := fun _ _ _ h => by omega
theorem eqTo_up {α β : Type} {f : α → β} {l m : List α} {k : Nat} (h1 : k < l.length) (h2 : k < m.length) (h : EqTo f l m k) (e : f l[k] = f m[k]) : EqTo f l m (k + 1) := fun j h1 h2 hjk => by
  by_cases e' : j = k
  · subst e'; exact e
  · exact h j h1 h2 (by omega)
theorem eqTo_end {α β : Type} {f : α → β} {l m : List α} {k : Nat} (hl : l.length = m.length) (h : EqTo f l m k) (hk : l.length ≤ k) : l.map f = m.map f :=
  List.ext_getElem (by simpa using hl) fun j h1 h2 => by simp at h1 h2 ⊢; exact h j h1 h2 (by omega)
theorem eqTo_endI {α : Type} {l m : List α} {k : Nat} (hl : l.length = m.length) (h : EqTo id l m k) (hk : l.length ≤ k) : l = m := by
  have := eqTo_end hl h hk
  simpa using this
theorem eqTo_no {α β : Type} {f : α → β} {l m : List α} {k : Nat} (h1 : k < l.length) (h2 : k < m.length) (e : ¬ f l[k] = f m[k]) : ¬ l.map f = m.map f := fun h => e (by
  have := congrArg (fun x => x[k]?) h
  simpa [h1, h2] using this)
theorem eqTo_noI {α : Type} {l m : List α} {k : Nat} (h1 : k < l.length) (h2 : k < m.length) (e : ¬ l[k] = m[k]) : ¬ l = m := fun h => e (by subst h; rfl)
end Go.Proofs.YteehdjpjhdmldaaDoor
namespace Go.Proofs.YteehdjpjhdmldaaDoor
set_option linter.unusedVariables false
set_option linter.unusedSimpArgs false
open Go
def ltC (a b : TransitC) : Prop := a.at_ < b.at_ ∨ (a.at_ = b.at_ ∧ a.seq < b.seq)
theorem netLe_at {a b : TransitC} (h : netLe a b = true) : a.at_ ≤ b.at_ := by
  unfold netLe at h
  rw [decide_eq_true_iff] at h
  omega
theorem chain_at : ∀ {l : List TransitC} {x : TransitC}, chain netLe (x :: l) = true → ∀ y ∈ l, x.at_ ≤ y.at_
  | [], _, _, _, h => by cases h
  | z :: l, x, h, y, hy => by
    rw [chain, Bool.and_eq_true] at h
    have h1 := netLe_at h.1
    rcases List.mem_cons.1 hy with rfl | hy
    · exact h1
    · exact Int.le_trans h1 (chain_at h.2 y hy)
theorem chain_tail {l : List TransitC} {x : TransitC} (h : chain netLe (x :: l) = true) : chain netLe l = true := by
  cases l with
  | nil => rfl
  | cons z l => rw [chain, Bool.and_eq_true] at h; exact h.2
abbrev early (A : Int) (l : List TransitC) : List TransitC := l.takeWhile fun t => decide (t.at_ ≤ A)
abbrev late (A : Int) (l : List TransitC) : List TransitC := l.dropWhile fun t => decide (t.at_ ≤ A)
theorem late_gt (A : Int) : ∀ {l : List TransitC}, chain netLe l = true → ∀ y ∈ late A l, A < y.at_
  | [], _, _, h => by simp [late] at h
  | x :: l, hc, y, hy => by
    unfold late at hy
    rw [List.dropWhile_cons] at hy
    by_cases h : x.at_ ≤ A
    · rw [if_pos (by simpa using h)] at hy
      exact late_gt A (chain_tail hc) y hy
    · rw [if_neg (by simpa using h)] at hy
      rcases List.mem_cons.1 hy with rfl | hy
      · omega
      · have := chain_at hc y hy; omega
theorem early_le (A : Int) : ∀ {l : List TransitC}, ∀ y ∈ early A l, y.at_ ≤ A
  | [], _, h => by simp [early] at h
  | x :: l, y, hy => by
    unfold early at hy
    rw [List.takeWhile_cons] at hy
    by_cases h : x.at_ ≤ A
    · rw [if_pos (by simpa using h)] at hy
      rcases List.mem_cons.1 hy with rfl | hy
      · exact h
      · exact early_le A y hy
    · rw [if_neg (by simpa using h)] at hy; cases hy
theorem early_mem {A : Int} {l : List TransitC} {y : TransitC} (h : y ∈ early A l) : y ∈ l := List.takeWhile_subset _ h
theorem early_late (A : Int) (l : List TransitC) : early A l ++ late A l = l := List.takeWhile_append_dropWhile
theorem copiesC_len (m : MsgC) (A S : Int) (k : Nat) : (copiesC m A S k).length = k := by simp [copiesC]
theorem copiesC_succ (m : MsgC) (A S : Int) (k : Nat) : copiesC m A S (k + 1) = copiesC m A S k ++ [⟨A, S + k, m⟩] := by
  unfold copiesC
  rw [List.range_succ, List.map_append]; rfl
theorem copiesC_get {m : MsgC} {A S : Int} {k i : Nat} (h : i < (copiesC m A S k).length) : (copiesC m A S k)[i] = ⟨A, S + i, m⟩ := by
  have h' : i < k := by rw [copiesC_len] at h; exact h
  have : (copiesC m A S k)[i]? = some ⟨A, S + i, m⟩ := by
    unfold copiesC
    rw [List.getElem?_map, List.getElem?_range h']; rfl
  exact Option.some.inj ((List.getElem?_eq_getElem h).symm.trans this)
theorem place_iff {X Y : List TransitC} {m m' : MsgC} {A S : Int} {k : Nat} (hX : ∀ x ∈ X, x.at_ ≤ A ∧ x.seq < S) (hY : ∀ y ∈ Y, A < y.at_) (j : Nat) (h : j < (X ++ copiesC m A S k ++ Y).length) : ltC (X ++ copiesC m A S k ++ Y)[j] ⟨A, S + k, m'⟩ ↔ j < X.length + k := by
  have hl : (X ++ copiesC m A S k).length = X.length + k := by rw [List.length_append, copiesC_len]
  by_cases h1 : j < X.length
  · rw [List.getElem_append_left (by omega), List.getElem_append_left h1]
    have := hX _ (List.getElem_mem h1)
    unfold ltC
    simp only
    omega
  · by_cases h2 : j < X.length + k
    · rw [List.getElem_append_left (by omega), List.getElem_append_right (by omega), copiesC_get]
      show (A < A ∨ (A = A ∧ S + ((j - X.length : Nat) : Int) < S + (k : Int))) ↔ _
      omega
    · rw [List.getElem_append_right (by omega)]
      have := hY _ (List.getElem_mem (by rw [List.length_append] at h; omega : j - (X ++ copiesC m A S k).length < Y.length))
      unfold ltC
      simp only
      omega
theorem put_copy (X Y : List TransitC) (m : MsgC) (A S : Int) (k : Nat) : (X ++ copiesC m A S k ++ Y).take (X.length + k) ++ ⟨A, S + k, m⟩ :: (X ++ copiesC m A S k ++ Y).drop (X.length + k) = X ++ copiesC m A S (k + 1) ++ Y := by
  have hl : (X ++ copiesC m A S k).length = X.length + k := by rw [List.length_append, copiesC_len]
  rw [← hl, List.take_left, List.drop_left, copiesC_succ]
  simp
end Go.Proofs.YteehdjpjhdmldaaDoor
