/- Plain laws: names under names. -/
import Derived.Test.YtfbhcemlnojejaaDoorSpec
namespace Go.Proofs.YtfbhcemlnojejaaDoor
set_option linter.unusedVariables false
set_option linter.unusedSimpArgs false
open Go
/-- The labels of a name, the first one first. -/
def parts (l : Bytes) : List Bytes := if l = [46] then [] else splitDots l
def inN (s z : Bytes) : Bool := decide (parts z <:+ parts s)
def underB (s z : Bytes) : Bool := decide (s = z) || decide (z = [46]) || (decide (z.length < s.length) && decide (z <:+ s) && decide (s.getD (s.length - z.length - 1) 0 = 46))
theorem splitDots_mid (s : Bytes) : ∀ p : Bytes, splitDots (p ++ 46 :: s) = splitDots p ++ splitDots s
  | [] => by
    show splitDots (46 :: s) = [[]] ++ splitDots s
    simp [splitDots]
  | c :: p => by
    rw [List.cons_append, splitDots, splitDots_mid s p]
    by_cases h : c = 46
    · rw [if_pos h, splitDots, if_pos h]; rfl
    · rw [if_neg h, splitDots, if_neg h]
      cases hp : splitDots p with
      | nil => exact absurd hp (splitDots_ne p)
      | cons q r => rfl
/-- Labels with dots between them. -/
def joinD : List Bytes → Bytes
  | [] => []
  | [x] => x
  | x :: y :: r => x ++ 46 :: joinD (y :: r)
theorem joinD_cons {x : Bytes} {r : List Bytes} (h : r ≠ []) : joinD (x :: r) = x ++ 46 :: joinD r := by
  cases r with
  | nil => exact absurd rfl h
  | cons y r => rfl
theorem joinD_head (c : UInt8) (p : Bytes) (r : List Bytes) : joinD ((c :: p) :: r) = c :: joinD (p :: r) := by
  cases r with
  | nil => rfl
  | cons y r => rfl
theorem join_split : ∀ l : Bytes, joinD (splitDots l) = l
  | [] => rfl
  | c :: l => by
    have ih := join_split l
    rw [splitDots]
    by_cases h : c = 46
    · rw [if_pos h, joinD_cons (splitDots_ne l), ih, h]; rfl
    · rw [if_neg h]
      cases hp : splitDots l with
      | nil => exact absurd hp (splitDots_ne l)
      | cons q r =>
        rw [hp] at ih
        show joinD ((c :: q) :: r) = c :: l
        rw [joinD_head, ih]
theorem split_inj {a b : Bytes} (h : splitDots a = splitDots b) : a = b := by rw [← join_split a, ← join_split b, h]
theorem joinD_app : ∀ {t u : List Bytes}, t ≠ [] → u ≠ [] → joinD (t ++ u) = joinD t ++ 46 :: joinD u
  | [], _, h, _ => absurd rfl h
  | [x], u, _, hu => by rw [List.singleton_append, joinD_cons hu]; rfl
  | x :: y :: r, u, _, hu => by
    have e : (y :: r) ++ u ≠ [] := by simp
    rw [List.cons_append, joinD_cons e, joinD_app (List.cons_ne_nil y r) hu, joinD_cons (List.cons_ne_nil y r), List.append_assoc]
    rfl
theorem split_suffix {s z : Bytes} : splitDots z <:+ splitDots s ↔ (s = z ∨ ∃ p, s = p ++ 46 :: z) := by
  constructor
  · rintro ⟨t, ht⟩
    by_cases h : t = []
    · subst h
      exact .inl (split_inj ht.symm)
    · right
      refine ⟨joinD t, ?_⟩
      rw [← join_split s, ← ht, joinD_app h (splitDots_ne z), join_split]
  · rintro (rfl | ⟨p, rfl⟩)
    · exact List.suffix_refl _
    · rw [splitDots_mid]; exact List.suffix_append _ _
theorem mid_iff {s z : Bytes} : (z.length < s.length ∧ z <:+ s ∧ s.getD (s.length - z.length - 1) 0 = 46) ↔ ∃ p, s = p ++ 46 :: z := by
  constructor
  · rintro ⟨h1, ⟨t, rfl⟩, h3⟩
    rw [List.length_append] at h1 h3
    have ht : t ≠ [] := by
      rintro rfl
      simp at h1
    have hl : t.length + z.length - z.length - 1 = t.length - 1 := by omega
    rw [hl] at h3
    have hpos : 0 < t.length := List.length_pos_iff.2 ht
    have hg : t.getLast ht = 46 := by
      rw [List.getLast_eq_getElem]
      rw [List.getD_eq_getElem?_getD, List.getElem?_append_left (by omega), List.getElem?_eq_getElem (by omega)] at h3
      exact h3
    refine ⟨t.dropLast, ?_⟩
    have := List.dropLast_concat_getLast ht
    rw [hg] at this
    conv => lhs; rw [← this]
    simp
  · rintro ⟨p, rfl⟩
    refine ⟨by rw [List.length_append, List.length_cons]; omega, ⟨p ++ [46], by simp⟩, ?_⟩
    have hl : (p ++ 46 :: z).length - z.length - 1 = p.length := by simp; omega
    rw [hl, List.getD_eq_getElem?_getD, List.getElem?_append_right (Nat.le_refl _)]
    simp
theorem name_pos {z : Bytes} (h : nameOK z = true) : 0 < z.length := by
  cases z with
  | nil => exact absurd h (by decide)
  | cons c z => simp
theorem under_in {s z : Bytes} (hz : nameOK z = true) : underB s z = inN s z := by
  rw [Bool.eq_iff_iff]
  unfold underB inN
  simp only [Bool.or_eq_true, Bool.and_eq_true, decide_eq_true_eq, and_assoc]
  rw [mid_iff]
  unfold parts
  by_cases h2 : z = [46]
  · subst h2
    simp
  · rw [if_neg h2]
    by_cases h1 : s = [46]
    · subst h1
      rw [if_pos rfl]
      have hp := name_pos hz
      constructor
      · rintro ((h | h) | ⟨p, h⟩)
        · exact absurd h.symm h2
        · exact absurd h h2
        · have := congrArg List.length h
          simp at this
          omega
      · intro h
        exact absurd (List.suffix_nil.1 h) (splitDots_ne z)
    · rw [if_neg h1, split_suffix]
      simp [h2]
theorem in_dot (s : Bytes) : inN s [46] = true := by
  unfold inN parts
  simp
theorem in_refl (s : Bytes) : inN s s = true := by unfold inN; simp
theorem in_trans {a b c : Bytes} (h : inN a b = true) (k : inN b c = true) : inN a c = true := by
  unfold inN at *
  rw [decide_eq_true_iff] at *
  exact k.trans h
end Go.Proofs.YtfbhcemlnojejaaDoor
