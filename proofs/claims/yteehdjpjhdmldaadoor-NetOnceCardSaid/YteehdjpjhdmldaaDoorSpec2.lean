/- Plain laws: data, sets. -/
import Derived.Test.YteehdjpjhdmldaaDoorSpec
namespace Go.Proofs.YteehdjpjhdmldaaDoor
set_option linter.unusedVariables false
set_option linter.unusedSimpArgs false
open Go
theorem dec_and (p q : Prop) [Decidable p] [Decidable q] : decide (p ∧ q) = (decide p && decide q) := by by_cases p <;> by_cases q <;> simp_all
theorem datumOK_1 (d : Datum) : datumOK 1 d = (decide (d.text = []) && decide (1 ≤ d.n ∧ d.n ≤ 1000000) && decide (d.m = 0)) := by
  rw [Bool.eq_iff_iff]; simp [datumOK, datumBy, ruleOf, rules]
  constructor
  · rintro ⟨⟨h1, h2⟩, h3⟩; exact ⟨⟨h3, h1⟩, by omega⟩
  · rintro ⟨⟨h3, h1⟩, h2⟩; exact ⟨⟨h1, by omega⟩, h3⟩
def hostOK (d : Datum) : Bool := nameOK d.text && !wild d.text && decide (d.n = 0) && decide (d.m = 0)
theorem datumOK_2 (d : Datum) : datumOK 2 d = hostOK d := by
  rw [Bool.eq_iff_iff]; simp [datumOK, datumBy, ruleOf, rules, hostOK]
  constructor
  · rintro ⟨⟨h1, h2⟩, h3, h4⟩; exact ⟨⟨⟨h3, h4⟩, by omega⟩, by omega⟩
  · rintro ⟨⟨⟨h3, h4⟩, h1⟩, h2⟩; exact ⟨⟨by omega, by omega⟩, h3, h4⟩
theorem datumOK_3 (d : Datum) : datumOK 3 d = hostOK d := by
  rw [Bool.eq_iff_iff]; simp [datumOK, datumBy, ruleOf, rules, hostOK]
  constructor
  · rintro ⟨⟨h1, h2⟩, h3, h4⟩; exact ⟨⟨⟨h3, h4⟩, by omega⟩, by omega⟩
  · rintro ⟨⟨⟨h3, h4⟩, h1⟩, h2⟩; exact ⟨⟨by omega, by omega⟩, h3, h4⟩
theorem datumOK_4 (d : Datum) : datumOK 4 d = (decide (d.text = []) && decide (0 ≤ d.n ∧ d.n ≤ 65535) && decide (0 ≤ d.m ∧ d.m ≤ 100000)) := by
  rw [Bool.eq_iff_iff]; simp [datumOK, datumBy, ruleOf, rules]
  constructor
  · rintro ⟨⟨h1, h2⟩, h3⟩; exact ⟨⟨h3, h1⟩, h2⟩
  · rintro ⟨⟨h3, h1⟩, h2⟩; exact ⟨⟨h1, h2⟩, h3⟩
theorem datumOK_5 (d : Datum) : datumOK 5 d = (textOK d.text && decide (d.n = 0) && decide (d.m = 0)) := by
  rw [Bool.eq_iff_iff]; simp [datumOK, datumBy, ruleOf, rules]
  constructor
  · rintro ⟨⟨h1, h2⟩, h3⟩; exact ⟨⟨h3, by omega⟩, by omega⟩
  · rintro ⟨⟨h3, h1⟩, h2⟩; exact ⟨⟨by omega, by omega⟩, h3⟩
def keyOK (d : Datum) : Bool := decide (d.text = []) && decide (1 ≤ d.n ∧ d.n ≤ 1000000) && decide (1 ≤ d.m ∧ d.m ≤ 3)
theorem datumOK_6 (d : Datum) : datumOK 6 d = keyOK d := by
  rw [Bool.eq_iff_iff]; simp [datumOK, datumBy, ruleOf, rules, keyOK]
  constructor
  · rintro ⟨⟨h1, h2⟩, h3⟩; exact ⟨⟨h3, h1⟩, h2⟩
  · rintro ⟨⟨h3, h1⟩, h2⟩; exact ⟨⟨h1, h2⟩, h3⟩
theorem datumOK_7 (d : Datum) : datumOK 7 d = keyOK d := by
  rw [Bool.eq_iff_iff]; simp [datumOK, datumBy, ruleOf, rules, keyOK]
  constructor
  · rintro ⟨⟨h1, h2⟩, h3⟩; exact ⟨⟨h3, h1⟩, h2⟩
  · rintro ⟨⟨h3, h1⟩, h2⟩; exact ⟨⟨h1, h2⟩, h3⟩
theorem datumOK_8 (d : Datum) : datumOK 8 d = (nameOK d.text && decide (2 ≤ d.n ∧ d.n ≤ 510) && decide (d.n.tmod 2 = 0) && decide (d.m = 0)) := by
  rw [Bool.eq_iff_iff]; simp [datumOK, datumBy, ruleOf, rules]
  constructor
  · rintro ⟨⟨⟨h1, h2⟩, h3⟩, h4⟩; exact ⟨⟨⟨h4, h1⟩, h3⟩, by omega⟩
  · rintro ⟨⟨⟨h4, h1⟩, h3⟩, h2⟩; exact ⟨⟨⟨h1, by omega⟩, h3⟩, h4⟩
theorem datumOK_no {t : Int} (h : ¬ (1 ≤ t ∧ t ≤ 8)) (d : Datum) : datumOK t d = false := by unfold datumOK; rw [decide_eq_false h]; rfl
/-- A list of data in order. -/
def DataOK (t : Int) (l : List Datum) (k : Nat) : Prop := ∀ j (h : j < l.length), j < k → datumOK t l[j] = true ∧ (0 < j → datumLt (l[j - 1]'(by omega)) l[j] = true)
theorem chain_iff {α : Type} (r : α → α → Bool) : ∀ l : List α, chain r l = true ↔ ∀ j (h : j < l.length), 0 < j → r (l[j - 1]'(by omega)) l[j] = true
  | [] => by simp [chain]
  | [x] => by simp [chain]
  | x :: y :: l => by
    rw [chain, Bool.and_eq_true, chain_iff r (y :: l)]
    constructor
    · rintro ⟨h1, h2⟩ j hj h0
      cases j with
      | zero => omega
      | succ j =>
        cases j with
        | zero => exact h1
        | succ j => exact h2 (j + 1) (by simp at hj ⊢; omega) (by omega)
    · intro h
      refine ⟨h 1 (by simp) (by omega), fun j hj h0 => ?_⟩
      cases j with
      | zero => omega
      | succ j => exact h (j + 2) (by simp at hj ⊢; omega) (by omega)
theorem dataOK_iff (t : Int) (l : List Datum) : (l.all (datumOK t) && chain datumLt l) = true ↔ DataOK t l l.length := by
  rw [Bool.and_eq_true, chain_iff, List.all_eq_true]
  constructor
  · rintro ⟨h1, h2⟩ j hj _
    exact ⟨h1 _ (List.getElem_mem _), h2 j hj⟩
  · intro h
    refine ⟨fun x hx => ?_, fun j hj => (h j hj hj).2⟩
    obtain ⟨j, hj, rfl⟩ := List.mem_iff_getElem.1 hx
    exact (h j hj hj).1
theorem dataOK_no {t : Int} {l : List Datum} {k : Nat} (hk : k < l.length) (h : datumOK t l[k] = false ∨ (0 < k ∧ datumLt (l[k - 1]'(by omega)) l[k] = false)) : (l.all (datumOK t) && chain datumLt l) = false := by
  cases hb : (l.all (datumOK t) && chain datumLt l) with
  | false => rfl
  | true =>
    have := ((dataOK_iff t l).1 hb) k hk hk
    rcases h with h | ⟨h0, h⟩
    · rw [this.1] at h; cases h
    · rw [this.2 h0] at h; cases h
theorem dataOK_up {t : Int} {l : List Datum} {k : Nat} (hk : k < l.length) (h : DataOK t l k) (h1 : datumOK t l[k] = true) (h2 : 0 < k → datumLt (l[k - 1]'(by omega)) l[k] = true) : DataOK t l (k + 1) := fun j hj hjk => by
  by_cases e : j = k
  · subst e; exact ⟨h1, h2⟩
  · exact h j hj (by omega)
/-- A set but for its data. -/
def headOK (s : SetC) : Bool :=
  nameOK s.name && decide (1 ≤ s.typ ∧ s.typ ≤ 8) && decide (0 ≤ s.life ∧ s.life ≤ 100000) && decide (1 ≤ s.data.length ∧ s.data.length ≤ 8) &&
  (!(ruleOf s.typ.toNat).single || decide (s.data.length = 1)) && (!wild s.name || (ruleOf s.typ.toNat).wild)
theorem setOK_eq (s : SetC) : setOK s = (headOK s && (s.data.all (datumOK s.typ) && chain datumLt s.data)) := by unfold setOK headOK; simp only [Bool.and_assoc]
theorem rule_single {t : Int} (h : 1 ≤ t ∧ t ≤ 8) : (ruleOf t.toNat).single = decide (t = 3 ∨ t = 4) := by
  obtain ⟨n, rfl⟩ : ∃ n : Nat, t = n := ⟨t.toNat, by omega⟩
  have : n = 1 ∨ n = 2 ∨ n = 3 ∨ n = 4 ∨ n = 5 ∨ n = 6 ∨ n = 7 ∨ n = 8 := by omega
  rcases this with h | h | h | h | h | h | h | h <;> subst h <;> rfl
theorem rule_wild {t : Int} (h : 1 ≤ t ∧ t ≤ 8) : (ruleOf t.toNat).wild = decide (t = 1 ∨ t = 5 ∨ t = 8) := by
  obtain ⟨n, rfl⟩ : ∃ n : Nat, t = n := ⟨t.toNat, by omega⟩
  have : n = 1 ∨ n = 2 ∨ n = 3 ∨ n = 4 ∨ n = 5 ∨ n = 6 ∨ n = 7 ∨ n = 8 := by omega
  rcases this with h | h | h | h | h | h | h | h <;> subst h <;> rfl
end Go.Proofs.YteehdjpjhdmldaaDoor
