import Derived.Test.YthabgdbhgcgemaaGreatDoorQSpec
namespace Go.Proofs.YthabgdbhgcgemaaGreatDoor
set_option linter.unusedVariables false
set_option linter.unusedSimpArgs false
open Go
theorem bl_trans : ∀ {a b c : Bytes}, Op.bytesLess a b = true → Op.bytesLess b c = true → Op.bytesLess a c = true
  | _, [], _, h, _ => by cases ‹List UInt8› <;> simp [Op.bytesLess] at h
  | _, _ :: _, [], _, h => by simp [Op.bytesLess] at h
  | [], _ :: _, _ :: _, _, _ => by simp [Op.bytesLess]
  | x :: a, y :: b, z :: c, h, k => by
    simp only [Op.bytesLess, Bool.or_eq_true, decide_eq_true_eq, Bool.and_eq_true, beq_iff_eq] at h k ⊢
    rcases h with h | ⟨rfl, h⟩ <;> rcases k with k | ⟨rfl, k⟩
    · exact .inl (UInt8.lt_trans h k)
    · exact .inl h
    · exact .inl k
    · exact .inr ⟨rfl, bl_trans h k⟩
theorem bl_total : ∀ (a b : Bytes), Op.bytesLess a b = true ∨ a = b ∨ Op.bytesLess b a = true
  | [], [] => .inr (.inl rfl)
  | [], _ :: _ => .inl (by simp [Op.bytesLess])
  | _ :: _, [] => .inr (.inr (by simp [Op.bytesLess]))
  | x :: a, y :: b => by
    simp only [Op.bytesLess, Bool.or_eq_true, decide_eq_true_eq, Bool.and_eq_true, beq_iff_eq]
    by_cases e : x = y
    · subst e
      rcases bl_total a b with h | rfl | h
      · exact .inl (.inr ⟨rfl, h⟩)
      · exact .inr (.inl rfl)
      · exact .inr (.inr (.inr ⟨rfl, h⟩))
    · have hne : x.toNat ≠ y.toNat := fun h => e (UInt8.toNat_inj.1 h)
      by_cases h : x < y
      · exact .inl (.inl h)
      · refine .inr (.inr (.inl ?_))
        rw [UInt8.lt_iff_toNat_lt] at h ⊢
        omega
def lexL : List Bytes → List Bytes → Int
  | [], [] => 0
  | [], _ :: _ => -1
  | _ :: _, [] => 1
  | x :: a, y :: b => if cmpS x y = 0 then lexL a b else cmpS x y
theorem cmpS_self (x : Bytes) : cmpS x x = 0 := by unfold cmpS; rw [bytesLess_self]; simp
theorem cmpS_zero {x y : Bytes} : cmpS x y = 0 ↔ x = y := by
  unfold cmpS
  by_cases h : Op.bytesLess x y = true
  · rw [if_pos h]
    constructor
    · intro h'; cases h'
    · rintro rfl; rw [bytesLess_self] at h; cases h
  · rw [if_neg h]
    by_cases e : x = y
    · simp [e]
    · simp [e]
theorem cmpS_neg {x y : Bytes} : cmpS x y < 0 ↔ Op.bytesLess x y = true := by
  unfold cmpS
  by_cases h : Op.bytesLess x y = true
  · simp [h]
  · rw [if_neg h]
    by_cases e : x = y <;> simp [e, h, bytesLess_self]
theorem cmpS_pos {x y : Bytes} : 0 < cmpS x y ↔ Op.bytesLess y x = true := by
  rcases bl_total x y with h | rfl | h
  · have : ¬ Op.bytesLess y x = true := fun k => by have := bl_trans h k; rw [bytesLess_self] at this; cases this
    have h2 := cmpS_neg.2 h
    constructor
    · intro h3; omega
    · intro h3; exact absurd h3 this
  · rw [cmpS_self, bytesLess_self]; simp
  · have h1 : ¬ Op.bytesLess x y = true := fun k => by have := bl_trans h k; rw [bytesLess_self] at this; cases this
    have h2 : x ≠ y := fun e => by subst e; rw [bytesLess_self] at h; cases h
    constructor
    · intro _; exact h
    · intro _
      unfold cmpS
      rw [if_neg h1, if_neg h2]; decide
theorem cmpS_range (x y : Bytes) : cmpS x y = -1 ∨ cmpS x y = 0 ∨ cmpS x y = 1 := by
  unfold cmpS
  split
  · exact .inl rfl
  · split
    · exact .inr (.inl rfl)
    · exact .inr (.inr rfl)
theorem cmpS_flip (x y : Bytes) : cmpS y x = -cmpS x y := by
  rcases cmpS_range x y with h | h | h
  · have := cmpS_pos.2 (cmpS_neg.1 (show cmpS x y < 0 by omega))
    rcases cmpS_range y x with k | k | k <;> omega
  · have := cmpS_zero.1 h
    subst this
    rw [cmpS_self]; rfl
  · have := cmpS_neg.2 (cmpS_pos.1 (show 0 < cmpS x y by omega))
    rcases cmpS_range y x with k | k | k <;> omega
theorem lexL_self : ∀ a : List Bytes, lexL a a = 0
  | [] => rfl
  | x :: a => by simp only [lexL, cmpS_self, if_true]; exact lexL_self a
theorem lexL_zero : ∀ {a b : List Bytes}, lexL a b = 0 → a = b
  | [], [], _ => rfl
  | [], _ :: _, h => by simp [lexL] at h
  | _ :: _, [], h => by simp [lexL] at h
  | x :: a, y :: b, h => by
    simp only [lexL] at h
    split at h
    · rename_i e
      rw [cmpS_zero.1 e, lexL_zero h]
    · rename_i e; exact absurd h e
theorem lexL_flip : ∀ a b : List Bytes, lexL b a = -lexL a b
  | [], [] => rfl
  | [], _ :: _ => rfl
  | _ :: _, [] => rfl
  | x :: a, y :: b => by
    simp only [lexL]
    have hf := cmpS_flip x y
    by_cases e : cmpS x y = 0
    · rw [if_pos e, if_pos (by omega)]; exact lexL_flip a b
    · rw [if_neg e, if_neg (by omega)]; exact hf
def leL (a b : List Bytes) : Bool := decide (lexL a b ≤ 0)
theorem leL_refl (a : List Bytes) : leL a a = true := by unfold leL; rw [lexL_self]; rfl
theorem leL_total (a b : List Bytes) : leL a b = true ∨ leL b a = true := by
  unfold leL
  simp only [decide_eq_true_eq]
  have := lexL_flip a b
  omega
theorem leL_anti {a b : List Bytes} (h : leL a b = true) (k : leL b a = true) : a = b := by
  unfold leL at h k
  simp only [decide_eq_true_eq] at h k
  have := lexL_flip a b
  exact lexL_zero (by omega)
theorem leL_cons {x y : Bytes} {a b : List Bytes} : leL (x :: a) (y :: b) = true ↔ (Op.bytesLess x y = true ∨ (x = y ∧ leL a b = true)) := by
  have e1 : lexL (x :: a) (y :: b) = if cmpS x y = 0 then lexL a b else cmpS x y := rfl
  unfold leL
  rw [decide_eq_true_iff, decide_eq_true_iff, e1]
  by_cases e : cmpS x y = 0
  · rw [if_pos e]
    have := cmpS_zero.1 e
    subst this
    simp [bytesLess_self]
  · rw [if_neg e]
    have hne : x ≠ y := fun h => e (cmpS_zero.2 h)
    constructor
    · intro h; exact .inl (cmpS_neg.1 (by omega))
    · rintro (h | ⟨h, _⟩)
      · have := cmpS_neg.2 h; omega
      · exact absurd h hne
theorem leL_trans : ∀ {a b c : List Bytes}, leL a b = true → leL b c = true → leL a c = true
  | [], _, [], _, _ => by decide
  | [], _, _ :: _, _, _ => by simp [leL, lexL]
  | _ :: _, [], _, h, _ => by simp [leL, lexL] at h
  | _ :: _, _ :: _, [], _, h => by simp [leL, lexL] at h
  | x :: a, y :: b, z :: c, h, k => by
    rw [leL_cons] at h k ⊢
    rcases h with h | ⟨rfl, h⟩ <;> rcases k with k | ⟨rfl, k⟩
    · exact .inl (bl_trans h k)
    · exact .inl h
    · exact .inl k
    · exact .inr ⟨rfl, leL_trans h k⟩
def unL (n c : List Bytes) : Bool := decide (c <+: n)
theorem unL_le : ∀ {n c : List Bytes}, unL n c = true → leL c n = true
  | [], [], _ => by decide
  | _ :: _, [], _ => by simp [leL, lexL]
  | [], _ :: _, h => by simp [unL] at h
  | x :: n, y :: c, h => by
    unfold unL at h
    simp only [decide_eq_true_eq, List.cons_prefix_cons] at h
    rw [leL_cons]
    exact .inr ⟨h.1, unL_le (by unfold unL; simp only [decide_eq_true_eq]; exact h.2)⟩
theorem unL_between : ∀ {n b c : List Bytes}, unL n c = true → leL c b = true → leL b n = true → unL b c = true
  | _, _, [], _, _, _ => by simp [unL]
  | [], _, _ :: _, h, _, _ => by simp [unL] at h
  | _ :: _, [], _ :: _, _, h, _ => by simp [leL, lexL] at h
  | x :: n, y :: b, z :: c, h, k, j => by
    unfold unL at h ⊢
    simp only [decide_eq_true_eq, List.cons_prefix_cons] at h ⊢
    rw [leL_cons] at k j
    obtain ⟨rfl, h⟩ := h
    rcases k with k | ⟨rfl, k⟩
    · rcases j with j | ⟨rfl, j⟩
      · have := bl_trans k j; rw [bytesLess_self] at this; cases this
      · rw [bytesLess_self] at k; cases k
    · rcases j with j | ⟨_, j⟩
      · rw [bytesLess_self] at j; cases j
      · have := unL_between (n := n) (b := b) (c := c) (by unfold unL; simp only [decide_eq_true_eq]; exact h) k j
        unfold unL at this
        simp only [decide_eq_true_eq] at this
        exact ⟨rfl, this⟩
section cuts
set_option linter.unusedSectionVars false
variable {κ : Type} [DecidableEq κ]
def layO (un : κ → κ → Bool) (cuts : κ → Bool) : Option κ → List κ → List (Option κ)
  | _, [] => []
  | c, n :: r =>
    let c0 := match c with | some x => if un n x then some x else none | none => none
    let c1 := match c0 with | some x => some x | none => if cuts n then some n else none
    c1 :: layO un cuts c1 r
def advO (le : κ → κ → Bool) (H : List κ) (k : Nat) (n : κ) : Nat := k + ((H.drop k).takeWhile fun h => le h n).length
def behAt (un : κ → κ → Bool) (H : List κ) (k : Nat) (n : κ) : Option κ := match k with
  | 0 => none
  | j + 1 => match H[j]? with
    | some h => if un n h then some h else none
    | none => none
def behO (le un : κ → κ → Bool) (H : List κ) : Nat → List κ → List (Option κ)
  | _, [] => []
  | k, n :: r => behAt un H (advO le H k n) n :: behO le un H (advO le H k n) r
structure Ord (le un : κ → κ → Bool) : Prop where
  refl : ∀ a, le a a = true
  total : ∀ a b, le a b = true ∨ le b a = true
  trans : ∀ {a b c}, le a b = true → le b c = true → le a c = true
  unLe : ∀ {n c}, un n c = true → le c n = true
  unRefl : ∀ a, un a a = true
  between : ∀ {n b c}, un n c = true → le c b = true → le b n = true → un b c = true
variable {le un : κ → κ → Bool}
theorem advO_le (H : List κ) (k : Nat) (n : κ) : k ≤ advO le H k n := Nat.le_add_right _ _
theorem advO_len {H : List κ} {k : Nat} {n : κ} (hk : k ≤ H.length) : advO le H k n ≤ H.length := by
  unfold advO
  have := (List.takeWhile_sublist (fun h => le h n) (l := H.drop k)).length_le
  rw [List.length_drop] at this
  omega
theorem takeWhile_at {α : Type} {p : α → Bool} : ∀ {l : List α} {j : Nat} (h : j < (l.takeWhile p).length), ∃ h' : j < l.length, p (l[j]'h') = true
  | [], _, h => by simp at h
  | x :: l, j, h => by
    rw [List.takeWhile_cons] at h
    split at h
    · rename_i hp
      cases j with
      | zero => exact ⟨by simp, hp⟩
      | succ j =>
        obtain ⟨h1, h2⟩ := takeWhile_at (l := l) (j := j) (by simpa using h)
        exact ⟨by simp; exact h1, h2⟩
    · simp at h
theorem takeWhile_stop {α : Type} {p : α → Bool} : ∀ {l : List α} (h : (l.takeWhile p).length < l.length), p l[(l.takeWhile p).length] = false
  | [], h => by simp at h
  | x :: l, h => by
    by_cases hp : p x = true
    · have e : (x :: l).takeWhile p = x :: l.takeWhile p := by rw [List.takeWhile_cons, if_pos hp]
      have h' : (l.takeWhile p).length < l.length := by rw [e] at h; simpa using h
      have := takeWhile_stop h'
      simp only [e, List.length_cons, List.getElem_cons_succ]
      exact this
    · have e : (x :: l).takeWhile p = [] := by rw [List.takeWhile_cons, if_neg hp]
      simp only [e, List.length_nil, List.getElem_cons_zero]
      simpa using hp
theorem advO_in {H : List κ} {k j : Nat} {n : κ} (h1 : k ≤ j) (h2 : j < advO le H k n) : ∃ h : j < H.length, le (H[j]'h) n = true := by
  unfold advO at h2
  obtain ⟨h3, h4⟩ := takeWhile_at (l := H.drop k) (j := j - k) (p := fun h => le h n) (by omega)
  rw [List.length_drop] at h3
  refine ⟨by omega, ?_⟩
  rw [List.getElem_drop] at h4
  have e : k + (j - k) = j := by omega
  simp only [e] at h4
  exact h4
theorem advO_out {H : List κ} {k : Nat} {n : κ} (h : advO le H k n < H.length) : le H[advO le H k n] n = false := by
  unfold advO at h ⊢
  have h1 : ((H.drop k).takeWhile fun h => le h n).length < (H.drop k).length := by rw [List.length_drop]; omega
  have := takeWhile_stop h1
  rw [List.getElem_drop] at this
  exact this
theorem advO_eq {H : List κ} {k m : Nat} {n : κ} (h1 : k ≤ m) (h2 : m ≤ H.length) (h3 : ∀ j (h : j < H.length), k ≤ j → j < m → le H[j] n = true) (h4 : ∀ h : m < H.length, le H[m] n = false) : advO le H k n = m := by
  rcases Nat.lt_trichotomy (advO le H k n) m with h | h | h
  · have h5 := advO_out (le := le) (H := H) (k := k) (n := n) (by omega)
    rw [h3 _ (by omega) (advO_le H k n) h] at h5
    cases h5
  · exact h
  · obtain ⟨h5, h6⟩ := advO_in (le := le) (H := H) (k := k) (n := n) h1 h
    rw [h4 h5] at h6
    cases h6
structure HighOK (le un : κ → κ → Bool) (cuts : κ → Bool) (N H : List κ) : Prop where
  apart : ∀ i j (hi : i < H.length) (hj : j < H.length), i < j → le H[i] H[j] = true ∧ un H[j] H[i] = false
  covers : ∀ c ∈ N, cuts c = true → ∃ j, ∃ h : j < H.length, un c H[j] = true
  mem : ∀ h ∈ H, h ∈ N ∧ cuts h = true
theorem beh_lay (O : Ord le un) {cuts : κ → Bool} {N H : List κ} (hA : ∀ a ∈ N, ∀ b ∈ N, le a b = true → le b a = true → a = b) (hH : HighOK le un cuts N H) (hN : N.Pairwise fun a b => le a b = true) : ∀ (rest done : List κ) (c : Option κ) (k : Nat), N = done ++ rest → k ≤ H.length → (∀ j (h : j < H.length), j < k → ∀ x, done.getLast? = some x → le H[j] x = true) → (∀ j (h : j < H.length), k ≤ j → ∀ d ∈ done, le H[j] d = false) → (∀ x, done.getLast? = some x → c = behAt un H k x) → (done = [] → c = none ∧ k = 0) → behO le un H k rest = layO un cuts c rest := by
  intro rest
  induction rest with
  | nil => intros; rfl
  | cons n r ih =>
    intro done c k hND hkl h1 h2 h3 h4
    have hdn : ∀ d ∈ done, le d n = true := fun d hd => by
      rw [hND] at hN
      exact (List.pairwise_append.1 hN).2.2 d hd n (List.mem_cons_self ..)
    have hnr : ∀ x ∈ r, le n x = true := fun x hx => by
      rw [hND] at hN
      exact (List.pairwise_cons.1 (List.pairwise_append.1 hN).2.1).1 x hx
    obtain ⟨k', hk'⟩ : ∃ k', advO le H k n = k' := ⟨_, rfl⟩
    have a1 : k ≤ k' := hk' ▸ advO_le H k n
    have a2 : k' ≤ H.length := hk' ▸ advO_len hkl
    have a3 : ∀ j (h : j < H.length), j < k' → le H[j] n = true := fun j h hj => by
      rcases Nat.lt_or_ge j k with hjk | hjk
      · cases hd : done.getLast? with
        | none => rw [List.getLast?_eq_none_iff] at hd; have := (h4 hd).2; omega
        | some x => exact O.trans (h1 j h hjk x hd) (hdn x (List.mem_of_getLast? hd))
      · subst hk'
        exact (advO_in hjk hj).2
    have a4 : ∀ j (h : j < H.length), k' ≤ j → le H[j] n = false := fun j h hj => by
      have hk0 : k' < H.length := by omega
      have h5 : le H[k'] n = false := by subst hk'; exact advO_out hk0
      rcases Nat.lt_or_ge k' j with hlt | hge
      · cases h6 : le H[j] n with
        | false => rfl
        | true => rw [O.trans (hH.apart k' j hk0 h hlt).1 h6] at h5; cases h5
      · have : k' = j := by omega
        subst this; exact h5
    have a5 : ∀ j (h : j < H.length), un n H[j] = true → j + 1 = k' := fun j h hu => by
      have hj : j < k' := by
        rcases Nat.lt_or_ge j k' with h6 | h6
        · exact h6
        · have := a4 j h h6
          rw [O.unLe hu] at this; cases this
      rcases Nat.lt_or_ge (j + 1) k' with h6 | h6
      · have h7 : j + 1 < H.length := by omega
        have h8 := hH.apart j (j + 1) h h7 (by omega)
        have := O.between hu h8.1 (a3 (j + 1) h7 h6)
        rw [h8.2] at this; cases this
      · omega
    have a6 : ∀ j (h : j < H.length), un n H[j] = true → behAt un H k' n = some H[j] := fun j h hu => by
      have := a5 j h hu
      subst this
      unfold behAt
      simp only [List.getElem?_eq_getElem h]
      rw [if_pos hu]
    have a7 : (∀ j (h : j < H.length), un n H[j] = false) → behAt un H k' n = none := fun hu => by
      unfold behAt
      cases k' with
      | zero => rfl
      | succ j =>
        simp only
        have hj : j < H.length := by omega
        rw [List.getElem?_eq_getElem hj]
        simp only [hu j hj]
        rfl
    have a8 : ∀ j (h : j < H.length), un n H[j] = true → H[j] ≠ n → c = some H[j] := fun j h hu hne => by
      have hjn : le H[j] n = true := O.unLe hu
      have hmN := (hH.mem _ (List.getElem_mem h)).1
      have hnN : n ∈ N := by rw [hND]; simp
      have hm := hmN
      have hd : H[j] ∈ done := by
        rw [hND, List.mem_append, List.mem_cons] at hm
        rcases hm with hm | hm | hm
        · exact hm
        · exact absurd hm hne
        · exact absurd (hA _ hmN _ hnN hjn (hnr _ hm)) hne
      obtain ⟨x, hx⟩ : ∃ x, done.getLast? = some x := by
        cases hl : done.getLast? with
        | none => rw [List.getLast?_eq_none_iff] at hl; rw [hl] at hd; cases hd
        | some x => exact ⟨x, rfl⟩
      have hjx : le H[j] x = true := by
        rcases Nat.lt_or_ge j k with h6 | h6
        · exact h1 j h h6 x hx
        · have := h2 j h h6 _ hd
          rw [O.refl] at this; cases this
      have hux : un x H[j] = true := O.between hu hjx (hdn x (List.mem_of_getLast? hx))
      rw [h3 x hx]
      have hjk : j < k := by
        rcases Nat.lt_or_ge j k with h6 | h6
        · exact h6
        · have := h2 j h h6 _ hd
          rw [O.refl] at this; cases this
      have := a5 j h hu
      have hk : k = j + 1 := by omega
      subst hk
      unfold behAt
      simp only [List.getElem?_eq_getElem h]
      rw [if_pos hux]
    have key : behAt un H k' n = (match (match c with | some x => if un n x then some x else none | none => none : Option κ) with | some x => some x | none => if cuts n then some n else none) := by
      by_cases hc : ∃ j, ∃ h : j < H.length, un n H[j] = true
      · obtain ⟨j, h, hu⟩ := hc
        rw [a6 j h hu]
        by_cases hne : H[j] = n
        · -- it is a highest cut itself
          have hcut : cuts n = true := by rw [← hne]; exact (hH.mem _ (List.getElem_mem h)).2
          have hcn : (match c with | some x => if un n x then some x else none | none => none : Option κ) = none ∨ (match c with | some x => if un n x then some x else none | none => none : Option κ) = some n := by
            cases c with
            | none => exact .inl rfl
            | some x =>
              simp only
              by_cases hux : un n x = true
              · rw [if_pos hux]
                have hxH : ∃ i, ∃ hi : i < H.length, x = H[i] := by
                  cases hl : done.getLast? with
                  | none => rw [List.getLast?_eq_none_iff] at hl; have := (h4 hl).1; cases this
                  | some y =>
                    have := h3 y hl
                    unfold behAt at this
                    cases k with
                    | zero => cases this
                    | succ i =>
                      simp only at this
                      have hi : i < H.length := by omega
                      rw [List.getElem?_eq_getElem hi] at this
                      simp only at this
                      split at this
                      · exact ⟨i, hi, Option.some.inj this⟩
                      · cases this
                obtain ⟨i, hi, rfl⟩ := hxH
                have e1 := a5 i hi hux
                have e2 := a5 j h hu
                have : i = j := by omega
                subst this
                rw [hne]; exact .inr rfl
              · rw [if_neg hux]; exact .inl rfl
          rcases hcn with e | e
          · rw [e]; simp only; rw [if_pos hcut, hne]
          · rw [e, hne]
        · rw [a8 j h hu hne]
          simp only
          rw [if_pos hu]
      · have hno : ∀ j (h : j < H.length), un n H[j] = false := fun j h => by
          cases hu : un n H[j] with
          | false => rfl
          | true => exact absurd ⟨j, h, hu⟩ hc
        rw [a7 hno]
        have hncut : cuts n = false := by
          cases hcu : cuts n with
          | false => rfl
          | true =>
            obtain ⟨j, h, hu⟩ := hH.covers n (by rw [hND]; simp) hcu
            exact absurd ⟨j, h, hu⟩ hc
        cases c with
        | none => simp only; rw [hncut]; rfl
        | some x =>
          have hxn : un n x = false := by
            cases hl : done.getLast? with
            | none => rw [List.getLast?_eq_none_iff] at hl; have := (h4 hl).1; cases this
            | some y =>
              have := h3 y hl
              unfold behAt at this
              cases k with
              | zero => cases this
              | succ i =>
                simp only at this
                have hi : i < H.length := by omega
                rw [List.getElem?_eq_getElem hi] at this
                simp only at this
                split at this
                · rw [Option.some.inj this]; exact hno i hi
                · cases this
          simp only [hxn]
          rw [hncut]; rfl
    show behAt un H (advO le H k n) n :: behO le un H (advO le H k n) r = _
    rw [hk']
    unfold layO
    simp only
    rw [← key]
    congr 1
    refine ih (done ++ [n]) _ k' (by rw [hND]; simp) a2 ?_ ?_ ?_ ?_
    · intro j h hj x hx
      rw [List.getLast?_append, List.getLast?_singleton] at hx
      simp at hx
      subst hx
      exact a3 j h hj
    · intro j h hj d hd
      rcases List.mem_append.1 hd with hd | hd
      · cases h6 : le H[j] d with
        | false => rfl
        | true =>
          have := a4 j h hj
          rw [O.trans h6 (hdn d hd)] at this; cases this
      · rw [List.mem_singleton.1 hd]; exact a4 j h hj
    · intro x hx
      rw [List.getLast?_append, List.getLast?_singleton] at hx
      simp at hx
      subst hx
      rfl
    · intro h; simp at h
def hiStep (un : κ → κ → Bool) (out : List κ) (c : κ) : List κ := match out.getLast? with
  | some h => if un c h then out else out ++ [c]
  | none => [c]
def highC (un : κ → κ → Bool) (l : List κ) : List κ := l.foldl (hiStep un) []
structure HiOK (le un : κ → κ → Bool) (D out : List κ) : Prop where
  apart : ∀ i j (hi : i < out.length) (hj : j < out.length), i < j → le out[i] out[j] = true ∧ un out[j] out[i] = false
  covers : ∀ c ∈ D, ∃ j, ∃ h : j < out.length, un c out[j] = true
  mem : ∀ h ∈ out, h ∈ D
theorem HiOK.step (O : Ord le un) {D out : List κ} {c : κ} (h : HiOK le un D out) (hdc : ∀ d ∈ D, le d c = true) : HiOK le un (D ++ [c]) (hiStep un out c) := by
  unfold hiStep
  cases hl : out.getLast? with
  | none =>
    rw [List.getLast?_eq_none_iff] at hl
    subst hl
    have hD : D = [] := by
      cases D with
      | nil => rfl
      | cons d D => obtain ⟨j, hj, _⟩ := h.covers d (List.mem_cons_self ..); simp at hj
    subst hD
    refine ⟨fun i j hi hj hij => ?_, fun x hx => ?_, fun x hx => hx⟩
    · simp at hi hj; omega
    · simp at hx
      subst hx
      exact ⟨0, by simp, O.unRefl _⟩
  | some l =>
    simp only
    have hne : out ≠ [] := fun h' => by rw [h'] at hl; cases hl
    have hlen : 0 < out.length := List.length_pos_iff.2 hne
    have hlast : out[out.length - 1] = l := by
      rw [List.getLast?_eq_getElem?, List.getElem?_eq_getElem (by omega)] at hl
      exact Option.some.inj hl
    by_cases hu : un c l = true
    · rw [if_pos hu]
      refine ⟨h.apart, fun x hx => ?_, fun x hx => List.mem_append_left _ (h.mem x hx)⟩
      rcases List.mem_append.1 hx with hx | hx
      · exact h.covers x hx
      · rw [List.mem_singleton.1 hx]
        exact ⟨out.length - 1, by omega, by rw [hlast]; exact hu⟩
    · rw [if_neg hu]
      have hu' : un c l = false := by simpa using hu
      refine ⟨fun i j hi hj hij => ?_, fun x hx => ?_, fun x hx => ?_⟩
      · rw [List.length_append, List.length_singleton] at hi hj
        have hi' : i < out.length := by omega
        rw [List.getElem_append_left hi']
        by_cases hj' : j < out.length
        · rw [List.getElem_append_left hj']; exact h.apart i j hi' hj' hij
        · have ej : j = out.length := by omega
          subst ej
          rw [List.getElem_append_right (Nat.le_refl _)]
          simp only [Nat.sub_self, List.getElem_cons_zero]
          have hic : le out[i] c = true := hdc _ (h.mem _ (List.getElem_mem hi'))
          refine ⟨hic, ?_⟩
          cases hux : un c out[i] with
          | false => rfl
          | true =>
            by_cases hil : i = out.length - 1
            · subst hil
              rw [hlast, hu'] at hux; cases hux
            · have h5 := h.apart i (out.length - 1) hi' (by omega) (by omega)
              have h6 : le out[out.length - 1] c = true := hdc _ (h.mem _ (List.getElem_mem _))
              have := O.between hux h5.1 h6
              rw [h5.2] at this; cases this
      · rcases List.mem_append.1 hx with hx | hx
        · obtain ⟨j, hj, hu1⟩ := h.covers x hx
          exact ⟨j, by rw [List.length_append]; omega, by rw [List.getElem_append_left hj]; exact hu1⟩
        · rw [List.mem_singleton.1 hx]
          exact ⟨out.length, by simp, by simp [O.unRefl]⟩
      · rcases List.mem_append.1 hx with hx | hx
        · exact List.mem_append_left _ (h.mem x hx)
        · exact List.mem_append_right _ hx
theorem high_ok (O : Ord le un) : ∀ (l done out : List κ), (done ++ l).Pairwise (fun a b => le a b = true) → HiOK le un done out → HiOK le un (done ++ l) (l.foldl (hiStep un) out)
  | [], done, out, _, h => by simpa using h
  | c :: l, done, out, hp, h => by
    have hdc : ∀ d ∈ done, le d c = true := fun d hd => (List.pairwise_append.1 hp).2.2 d hd c (List.mem_cons_self ..)
    have e : done ++ c :: l = (done ++ [c]) ++ l := by simp
    rw [List.foldl_cons]
    rw [e] at hp ⊢
    exact high_ok O l (done ++ [c]) _ hp (h.step O hdc)
theorem highC_ok (O : Ord le un) {N : List κ} {cuts : κ → Bool} {C : List κ} (hC : C.Pairwise fun a b => le a b = true) (hCN : ∀ c ∈ C, c ∈ N ∧ cuts c = true) (hNC : ∀ c ∈ N, cuts c = true → c ∈ C) : HighOK le un cuts N (highC un C) := by
  have h := high_ok O C [] [] (by simpa using hC) ⟨fun i j hi => by simp at hi, fun c hc => (by cases hc), fun h hh => (by cases hh)⟩
  exact ⟨h.apart, fun c hc hcc => h.covers c (by simpa using hNC c hc hcc), fun x hx => hCN x (by simpa using h.mem x hx)⟩
theorem beh_lay0 (O : Ord le un) {cuts : κ → Bool} {N H : List κ} (hA : ∀ a ∈ N, ∀ b ∈ N, le a b = true → le b a = true → a = b) (hH : HighOK le un cuts N H) (hN : N.Pairwise fun a b => le a b = true) : behO le un H 0 N = layO un cuts none N :=
  beh_lay O hA hH hN N [] none 0 rfl (Nat.zero_le _) (fun _ _ h => absurd h (Nat.not_lt_zero _)) (fun _ _ _ d hd => by cases hd) (fun x hx => by cases hx) (fun _ => ⟨rfl, rfl⟩)
end cuts
end Go.Proofs.YthabgdbhgcgemaaGreatDoor
