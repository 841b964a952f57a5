import Derived.Below
namespace Go.Proofs.YthabgdbhgcgemaaGreatDoor
set_option linter.unusedVariables false
set_option linter.unusedSimpArgs false
open Go
abbrev Bytes := List UInt8
def WordAt (c : Nat) (l : Bytes) (k : Nat) : Prop := ((97 ≤ (l.getD k 0).toNat ∧ (l.getD k 0).toNat ≤ 122) ∨ (48 ≤ (l.getD k 0).toNat ∧ (l.getD k 0).toNat ≤ 57) ∨ ((l.getD k 0).toNat = c ∧ 0 < k ∧ k + 1 < l.length))
instance (c : Nat) (l : Bytes) (k : Nat) : Decidable (WordAt c l k) := by unfold WordAt; exact inferInstance
def Word (c m : Nat) (l : Bytes) : Prop := 1 ≤ l.length ∧ l.length ≤ m ∧ ∀ k, k < l.length → WordAt c l k
instance (c m : Nat) (l : Bytes) : Decidable (Word c m l) := by unfold Word; exact inferInstance
def isWord (c m : Nat) (l : Bytes) : Bool := decide (Word c m l)
theorem isWord_yes {c m : Nat} {l : Bytes} (h1 : 1 ≤ l.length) (h2 : l.length ≤ m) (h : ∀ k, k < l.length → WordAt c l k) : isWord c m l = true := decide_eq_true ⟨h1, h2, h⟩
theorem isWord_no {c m : Nat} {l : Bytes} (h : ¬ (1 ≤ l.length ∧ l.length ≤ m)) : isWord c m l = false := decide_eq_false fun h' => h ⟨h'.1, h'.2.1⟩
theorem isWord_noAt {c m : Nat} {l : Bytes} (k : Nat) (hk : k < l.length) (h : ¬ WordAt c l k) : isWord c m l = false := decide_eq_false fun h' => h (h'.2.2 k hk)
theorem up_lt {p : Nat → Prop} {k : Nat} (h : ∀ j, j < k → p j) (hk : p k) : ∀ j, j < k + 1 → p j := fun j hj => by
  by_cases e : j = k
  · subst e; exact hk
  · exact h j (by omega)
abbrev isLab (l : Bytes) : Bool := isWord 45 12 l
abbrev textOK (l : Bytes) : Bool := isWord 32 40 l
def wild (l : Bytes) : Bool := decide (l.take 1 = [42])
theorem wild_iff (l : Bytes) : wild l = true ↔ (0 < l.length ∧ (l.getD 0 0).toNat = 42) := by
  unfold wild
  rw [decide_eq_true_iff]
  cases l with
  | nil => simp
  | cons c l =>
    simp only [List.take_succ_cons, List.take_zero, List.cons.injEq, and_true, List.length_cons, Nat.zero_lt_succ, true_and, List.getD_cons_zero]
    constructor
    · rintro rfl; rfl
    · intro h; exact UInt8.toNat_inj.1 h
theorem wild_eq (l : Bytes) : wild l = decide (0 < l.length ∧ (l.getD 0 0).toNat = 42) := by
  rw [Bool.eq_iff_iff, wild_iff, decide_eq_true_iff]
def splitDots : Bytes → List Bytes
  | [] => [[]]
  | c :: l =>
    if c = 46 then [] :: splitDots l else
      match splitDots l with
      | p :: r => (c :: p) :: r
      | [] => [[c]]
def nameOK (l : Bytes) : Bool := decide (l = [46]) || (decide (l.length ≤ 60) && decide ((splitDots l).length ≤ 8) && (isLab ((splitDots l).headD []) || decide ((splitDots l).headD [] = [42])) && (splitDots l).tail.all isLab)
def lastFrom (c : UInt8) (l : Bytes) : Nat → Int
  | 0 => -1
  | k + 1 => if l.getD k 0 = c then (k : Int) else lastFrom c l k
def lastB (c : UInt8) (l : Bytes) : Int := lastFrom c l l.length
def labs (l : Bytes) : List Bytes := if l = [46] then [] else (splitDots l).reverse
theorem lastFrom_spec (c : UInt8) (l : Bytes) : ∀ k, (lastFrom c l k = -1 ∧ ∀ j, j < k → l.getD j 0 ≠ c) ∨ ∃ i : Nat, i < k ∧ lastFrom c l k = i ∧ l.getD i 0 = c ∧ ∀ j, i < j → j < k → l.getD j 0 ≠ c
  | 0 => .inl ⟨rfl, by omega⟩
  | k + 1 => by
    unfold lastFrom
    by_cases h : l.getD k 0 = c
    · rw [if_pos h]; exact .inr ⟨k, by omega, rfl, h, by omega⟩
    · rw [if_neg h]
      rcases lastFrom_spec c l k with ⟨h1, h2⟩ | ⟨i, h1, h2, h3, h4⟩
      · exact .inl ⟨h1, fun j hj => by
          by_cases e : j = k
          · subst e; exact h
          · exact h2 j (by omega)⟩
      · exact .inr ⟨i, by omega, h2, h3, fun j hij hj => by
          by_cases e : j = k
          · subst e; exact h
          · exact h4 j hij (by omega)⟩
theorem splitDots_ne (l : Bytes) : splitDots l ≠ [] := by
  cases l with
  | nil => simp [splitDots]
  | cons c l =>
    unfold splitDots
    split
    · simp
    · split <;> simp
theorem splitDots_nodot : ∀ {l : Bytes}, (∀ x ∈ l, x ≠ 46) → splitDots l = [l]
  | [], _ => rfl
  | c :: l, h => by
    unfold splitDots
    rw [if_neg (h c (by simp)), splitDots_nodot (fun x hx => h x (by simp [hx]))]
theorem splitDots_app {s : Bytes} (hs : ∀ x ∈ s, x ≠ 46) : ∀ p : Bytes, splitDots (p ++ 46 :: s) = splitDots p ++ [s]
  | [] => by
    show splitDots (46 :: s) = _
    unfold splitDots
    rw [if_pos rfl, splitDots_nodot hs]; rfl
  | c :: p => by
    rw [List.cons_append]
    unfold splitDots
    rw [splitDots_app hs p]
    by_cases h : c = 46
    · rw [if_pos h, if_pos h]; rfl
    · rw [if_neg h, if_neg h]
      cases hp : splitDots p with
      | nil => exact absurd hp (splitDots_ne p)
      | cons q r => rfl
theorem splitDots_snoc {c : UInt8} (h : c ≠ 46) : ∀ l : Bytes, splitDots (l ++ [c]) = (splitDots l).dropLast ++ [(splitDots l).getLastD [] ++ [c]]
  | [] => by simp [splitDots, h]
  | d :: l => by
    rw [List.cons_append]
    unfold splitDots
    rw [splitDots_snoc h l]
    have hne := splitDots_ne l
    by_cases hd : d = 46
    · rw [if_pos hd, if_pos hd, List.dropLast_cons_of_ne_nil hne]
      cases hp : splitDots l with
      | nil => exact absurd hp hne
      | cons q r => simp [List.getLastD]
    · rw [if_neg hd, if_neg hd]
      cases hp : splitDots l with
      | nil => exact absurd hp hne
      | cons q r =>
        cases r with
        | nil => simp
        | cons q2 r2 => simp [List.getLastD]
theorem split_last (r : Bytes) : (lastB 46 r = -1 ∧ splitDots r = [r]) ∨ ∃ i : Nat, i < r.length ∧ lastB 46 r = i ∧ splitDots r = splitDots (r.take i) ++ [r.drop (i + 1)] := by
  have get : ∀ j (hj : j < r.length), r.getD j 0 = r[j] := fun j hj => by rw [List.getD_eq_getElem?_getD, List.getElem?_eq_getElem hj]; rfl
  rcases lastFrom_spec 46 r r.length with ⟨h1, h2⟩ | ⟨i, h1, h2, h3, h4⟩
  · refine .inl ⟨h1, splitDots_nodot fun x hx => ?_⟩
    obtain ⟨j, hj, rfl⟩ := List.mem_iff_getElem.1 hx
    rw [← get j hj]; exact h2 j hj
  · refine .inr ⟨i, h1, h2, ?_⟩
    rw [get i h1] at h3
    have : r = r.take i ++ 46 :: r.drop (i + 1) := by
      rw [← h3, ← List.drop_eq_getElem_cons h1, List.take_append_drop]
    conv => lhs; rw [this]
    refine splitDots_app (fun x hx => ?_) _
    obtain ⟨j, hj, rfl⟩ := List.mem_iff_getElem.1 hx
    rw [List.length_drop] at hj
    rw [List.getElem_drop, ← get _ (by omega)]
    exact h4 _ (by omega) (by omega)
theorem splitDots_count : ∀ l : Bytes, (splitDots l).length ≤ l.length + 1
  | [] => by simp [splitDots]
  | c :: l => by
    have := splitDots_count l
    unfold splitDots
    split
    · simp; omega
    · split
      · rename_i hp; rw [hp] at this; simp at this ⊢; omega
      · simp
def okRev (r : List Bytes) : Prop := r.length ≤ 8 ∧ ∀ j (h : j < r.length), isLab r[j] = true ∨ (j + 1 = r.length ∧ r[j] = [42])
theorem nameOK_iff (l : Bytes) : nameOK l = true ↔ (l = [46] ∨ (l.length ≤ 60 ∧ okRev (splitDots l).reverse)) := by
  unfold nameOK okRev
  cases hp : splitDots l with
  | nil => exact absurd hp (splitDots_ne l)
  | cons q r =>
    simp only [Bool.or_eq_true, Bool.and_eq_true, decide_eq_true_eq, List.headD_cons, List.tail_cons, List.all_eq_true, List.length_reverse, List.reverse_cons]
    constructor
    · rintro (h | ⟨⟨⟨h1, h2⟩, h3⟩, h4⟩)
      · exact .inl h
      · refine .inr ⟨h1, by simpa using h2, fun j hj => ?_⟩
        by_cases e : j < r.length
        · left
          rw [List.getElem_append_left (by simpa using e)]
          exact h4 _ (List.mem_reverse.1 (List.getElem_mem _))
        · have e' : j = r.reverse.length := by simp at hj ⊢; omega
          subst e'
          simp only [List.getElem_concat_length, List.length_append, List.length_singleton, true_and]
          rcases h3 with h | h
          · exact .inl h
          · exact .inr (of_decide_eq_true h)
    · rintro (h | ⟨h1, h2, h3⟩)
      · exact .inl h
      · refine .inr ⟨⟨⟨h1, by simpa using h2⟩, ?_⟩, fun x hx => ?_⟩
        · have := h3 r.reverse.length (by simp)
          simp only [List.getElem_concat_length, List.length_append, List.length_singleton, true_and] at this
          rcases this with h | h
          · exact .inl h
          · exact .inr (decide_eq_true h)
        · obtain ⟨j, hj, hjx⟩ := List.mem_iff_getElem.1 (List.mem_reverse.2 hx)
          have := h3 j (by simp at hj ⊢; omega)
          rw [List.getElem_append_left hj, hjx] at this
          rcases this with h | ⟨h, _⟩
          · exact h
          · simp at h hj; omega
theorem nameOK_dot : nameOK [46] = true := by unfold nameOK; simp
theorem nameOK_no {l : Bytes} (h : ¬ (l = [46] ∨ (l.length ≤ 60 ∧ okRev (splitDots l).reverse))) : nameOK l = false := by
  rw [← nameOK_iff] at h; simpa using h
theorem not_lab_star : isLab [42] = false := by decide
structure Datum where
  text : Bytes
  n : Int
  m : Int
  deriving DecidableEq
structure Sig where
  zone : Bytes
  key : Int
  alg : Int
  frm : Int
  til : Int
  sum : Int
  deriving DecidableEq
structure SetC where
  name : Bytes
  typ : Int
  life : Int
  data : List Datum
  deriving DecidableEq
structure SignedC where
  set : SetC
  sigs : List Sig
  deriving DecidableEq
structure AnswerC where
  kind : Int
  sets : List SignedC
  cut : Bytes
  deriving DecidableEq
structure Question where
  name : Bytes
  typ : Int
  deriving DecidableEq
structure MsgC where
  kind : Int
  id : Int
  frm : Int
  to : Int
  q : Question
  ans : AnswerC
  deriving DecidableEq
structure TransitC where
  at_ : Int
  seq : Int
  m : MsgC
  deriving DecidableEq
structure NetC where
  seq : Int
  list : List TransitC
  deriving DecidableEq
structure Rule where
  text : Int
  leastN : Int
  mostN : Int
  leastM : Int
  mostM : Int
  even : Bool
  single : Bool
  wild : Bool
def rules : List Rule := [⟨0, 0, 0, 0, 0, false, false, false⟩, ⟨0, 1, 1000000, 0, 0, false, false, true⟩, ⟨1, 0, 0, 0, 0, false, false, false⟩, ⟨1, 0, 0, 0, 0, false, true, false⟩, ⟨0, 0, 65535, 0, 100000, false, true, false⟩,
  ⟨3, 0, 0, 0, 0, false, false, true⟩, ⟨0, 1, 1000000, 1, 3, false, false, false⟩, ⟨0, 1, 1000000, 1, 3, false, false, false⟩, ⟨2, 2, 510, 0, 0, true, false, true⟩]
def ruleOf (t : Nat) : Rule := rules.getD t ⟨0, 0, 0, 0, 0, false, false, false⟩
def datumBy (r : Rule) (d : Datum) : Bool :=
  decide (r.leastN ≤ d.n ∧ d.n ≤ r.mostN) && decide (r.leastM ≤ d.m ∧ d.m ≤ r.mostM) && (!r.even || decide (d.n.tmod 2 = 0)) &&
  (if r.text = 1 then nameOK d.text && !wild d.text else if r.text = 2 then nameOK d.text else if r.text = 3 then textOK d.text else decide (d.text = []))
def datumOK (t : Int) (d : Datum) : Bool := decide (1 ≤ t ∧ t ≤ 8) && datumBy (ruleOf t.toNat) d
def datumLt (a b : Datum) : Bool := if a.text ≠ b.text then Op.bytesLess a.text b.text else if a.n ≠ b.n then decide (a.n < b.n) else decide (a.m < b.m)
def cmpI (x y : Int) : Int := if x < y then -1 else if y < x then 1 else 0
def cmpS (x y : Bytes) : Int := if Op.bytesLess x y = true then -1 else if x = y then 0 else 1
def orL : List Int → Int
  | [] => 0
  | x :: l => if x = 0 then orL l else x
def cmpD (a b : Datum) : Int := orL [cmpS a.text b.text, cmpI a.n b.n, cmpI a.m b.m]
theorem bytesLess_self (l : Bytes) : Op.bytesLess l l = false := by
  induction l with
  | nil => rfl
  | cons c l ih => unfold Op.bytesLess; simp [ih]
theorem cmpD_lt (a b : Datum) : 0 ≤ cmpD a b ↔ datumLt a b = false := by
  unfold cmpD datumLt cmpS cmpI orL
  by_cases h : a.text = b.text
  · rw [h, bytesLess_self]
    by_cases h2 : a.n = b.n
    · simp [h2, orL]
      by_cases h3 : a.m < b.m
      · simp [h3]
      · by_cases h4 : b.m < a.m <;> simp [h3, h4] <;> try omega
    · by_cases h3 : a.n < b.n
      · simp [h2, h3, orL]
      · simp [h2, h3, show b.n < a.n by omega, orL]
  · by_cases h1 : Op.bytesLess a.text b.text = true
    · simp [h, h1]
    · simp at h1; simp [h, h1]
def chain {α : Type} (r : α → α → Bool) : List α → Bool
  | x :: y :: l => r x y && chain r (y :: l)
  | _ => true
def setOK (s : SetC) : Bool :=
  nameOK s.name && decide (1 ≤ s.typ ∧ s.typ ≤ 8) && decide (0 ≤ s.life ∧ s.life ≤ 100000) && decide (1 ≤ s.data.length ∧ s.data.length ≤ 8) &&
  (!(ruleOf s.typ.toNat).single || decide (s.data.length = 1)) && (!wild s.name || (ruleOf s.typ.toNat).wild) && s.data.all (datumOK s.typ) && chain datumLt s.data
end Go.Proofs.YthabgdbhgcgemaaGreatDoor
namespace Go.Proofs.YthabgdbhgcgemaaGreatDoor
set_option linter.unusedVariables false
set_option linter.unusedSimpArgs false
open Go
theorem datumOK_1 (d : Datum) : datumOK 1 d = (decide (d.text = []) && decide (1 ≤ d.n ∧ d.n ≤ 1000000) && decide (d.m = 0)) := by
  rw [Bool.eq_iff_iff]; simp [datumOK, datumBy, ruleOf, rules]
  constructor
  · rintro ⟨⟨h1, h2⟩, h3⟩; exact ⟨⟨h3, h1⟩, by omega⟩
  · rintro ⟨⟨h3, h1⟩, h2⟩; exact ⟨⟨h1, by omega⟩, h3⟩
def hostOK (d : Datum) : Bool := nameOK d.text && !wild d.text && decide (d.n = 0) && decide (d.m = 0)
theorem datumOK_2 (d : Datum) : datumOK 2 d = hostOK d := by
  rw [Bool.eq_iff_iff]; simp [datumOK, datumBy, ruleOf, rules, hostOK]
  constructor
  · rintro ⟨⟨h1, h2⟩, h3, h4⟩; exact ⟨⟨⟨h3, h4⟩, by omega⟩, by omega⟩
  · rintro ⟨⟨⟨h3, h4⟩, h1⟩, h2⟩; exact ⟨⟨by omega, by omega⟩, h3, h4⟩
theorem datumOK_3 (d : Datum) : datumOK 3 d = hostOK d := by
  rw [Bool.eq_iff_iff]; simp [datumOK, datumBy, ruleOf, rules, hostOK]
  constructor
  · rintro ⟨⟨h1, h2⟩, h3, h4⟩; exact ⟨⟨⟨h3, h4⟩, by omega⟩, by omega⟩
  · rintro ⟨⟨⟨h3, h4⟩, h1⟩, h2⟩; exact ⟨⟨by omega, by omega⟩, h3, h4⟩
theorem datumOK_4 (d : Datum) : datumOK 4 d = (decide (d.text = []) && decide (0 ≤ d.n ∧ d.n ≤ 65535) && decide (0 ≤ d.m ∧ d.m ≤ 100000)) := by
  rw [Bool.eq_iff_iff]; simp [datumOK, datumBy, ruleOf, rules]
  constructor
  · rintro ⟨⟨h1, h2⟩, h3⟩; exact ⟨⟨h3, h1⟩, h2⟩
  · rintro ⟨⟨h3, h1⟩, h2⟩; exact ⟨⟨h1, h2⟩, h3⟩
theorem datumOK_5 (d : Datum) : datumOK 5 d = (textOK d.text && decide (d.n = 0) && decide (d.m = 0)) := by
  rw [Bool.eq_iff_iff]; simp [datumOK, datumBy, ruleOf, rules]
  constructor
  · rintro ⟨⟨h1, h2⟩, h3⟩; exact ⟨⟨h3, by omega⟩, by omega⟩
  · rintro ⟨⟨h3, h1⟩, h2⟩; exact ⟨⟨by omega, by omega⟩, h3⟩
def keyOK (d : Datum) : Bool := decide (d.text = []) && decide (1 ≤ d.n ∧ d.n ≤ 1000000) && decide (1 ≤ d.m ∧ d.m ≤ 3)
theorem datumOK_6 (d : Datum) : datumOK 6 d = keyOK d := by
  rw [Bool.eq_iff_iff]; simp [datumOK, datumBy, ruleOf, rules, keyOK]
  constructor
  · rintro ⟨⟨h1, h2⟩, h3⟩; exact ⟨⟨h3, h1⟩, h2⟩
  · rintro ⟨⟨h3, h1⟩, h2⟩; exact ⟨⟨h1, h2⟩, h3⟩
theorem datumOK_7 (d : Datum) : datumOK 7 d = keyOK d := by
  rw [Bool.eq_iff_iff]; simp [datumOK, datumBy, ruleOf, rules, keyOK]
  constructor
  · rintro ⟨⟨h1, h2⟩, h3⟩; exact ⟨⟨h3, h1⟩, h2⟩
  · rintro ⟨⟨h3, h1⟩, h2⟩; exact ⟨⟨h1, h2⟩, h3⟩
theorem datumOK_8 (d : Datum) : datumOK 8 d = (nameOK d.text && decide (2 ≤ d.n ∧ d.n ≤ 510) && decide (d.n.tmod 2 = 0) && decide (d.m = 0)) := by
  rw [Bool.eq_iff_iff]; simp [datumOK, datumBy, ruleOf, rules]
  constructor
  · rintro ⟨⟨⟨h1, h2⟩, h3⟩, h4⟩; exact ⟨⟨⟨h4, h1⟩, h3⟩, by omega⟩
  · rintro ⟨⟨⟨h4, h1⟩, h3⟩, h2⟩; exact ⟨⟨⟨h1, by omega⟩, h3⟩, h4⟩
theorem datumOK_no {t : Int} (h : ¬ (1 ≤ t ∧ t ≤ 8)) (d : Datum) : datumOK t d = false := by unfold datumOK; rw [decide_eq_false h]; rfl
def DataOK (t : Int) (l : List Datum) (k : Nat) : Prop := ∀ j (h : j < l.length), j < k → datumOK t l[j] = true ∧ (0 < j → datumLt (l[j - 1]'(by omega)) l[j] = true)
theorem chain_iff {α : Type} (r : α → α → Bool) : ∀ l : List α, chain r l = true ↔ ∀ j (h : j < l.length), 0 < j → r (l[j - 1]'(by omega)) l[j] = true
  | [] => by simp [chain]
  | [x] => by simp [chain]
  | x :: y :: l => by
    rw [chain, Bool.and_eq_true, chain_iff r (y :: l)]
    constructor
    · rintro ⟨h1, h2⟩ j hj h0
      cases j with
      | zero => omega
      | succ j =>
        cases j with
        | zero => exact h1
        | succ j => exact h2 (j + 1) (by simp at hj ⊢; omega) (by omega)
    · intro h
      refine ⟨h 1 (by simp) (by omega), fun j hj h0 => ?_⟩
      cases j with
      | zero => omega
      | succ j => exact h (j + 2) (by simp at hj ⊢; omega) (by omega)
theorem dataOK_iff (t : Int) (l : List Datum) : (l.all (datumOK t) && chain datumLt l) = true ↔ DataOK t l l.length := by
  rw [Bool.and_eq_true, chain_iff, List.all_eq_true]
  constructor
  · rintro ⟨h1, h2⟩ j hj _
    exact ⟨h1 _ (List.getElem_mem _), h2 j hj⟩
  · intro h
    refine ⟨fun x hx => ?_, fun j hj => (h j hj hj).2⟩
    obtain ⟨j, hj, rfl⟩ := List.mem_iff_getElem.1 hx
    exact (h j hj hj).1
theorem dataOK_no {t : Int} {l : List Datum} {k : Nat} (hk : k < l.length) (h : datumOK t l[k] = false ∨ (0 < k ∧ datumLt (l[k - 1]'(by omega)) l[k] = false)) : (l.all (datumOK t) && chain datumLt l) = false := by
  cases hb : (l.all (datumOK t) && chain datumLt l) with
  | false => rfl
  | true =>
    have := ((dataOK_iff t l).1 hb) k hk hk
    rcases h with h | ⟨h0, h⟩
    · rw [this.1] at h; cases h
    · rw [this.2 h0] at h; cases h
theorem dataOK_up {t : Int} {l : List Datum} {k : Nat} (hk : k < l.length) (h : DataOK t l k) (h1 : datumOK t l[k] = true) (h2 : 0 < k → datumLt (l[k - 1]'(by omega)) l[k] = true) : DataOK t l (k + 1) := fun j hj hjk => by
  by_cases e : j = k
  · subst e; exact ⟨h1, h2⟩
  · exact h j hj (by omega)
def headOK (s : SetC) : Bool :=
  nameOK s.name && decide (1 ≤ s.typ ∧ s.typ ≤ 8) && decide (0 ≤ s.life ∧ s.life ≤ 100000) && decide (1 ≤ s.data.length ∧ s.data.length ≤ 8) &&
  (!(ruleOf s.typ.toNat).single || decide (s.data.length = 1)) && (!wild s.name || (ruleOf s.typ.toNat).wild)
theorem setOK_eq (s : SetC) : setOK s = (headOK s && (s.data.all (datumOK s.typ) && chain datumLt s.data)) := by unfold setOK headOK; simp only [Bool.and_assoc]
theorem rule_single {t : Int} (h : 1 ≤ t ∧ t ≤ 8) : (ruleOf t.toNat).single = decide (t = 3 ∨ t = 4) := by
  obtain ⟨n, rfl⟩ : ∃ n : Nat, t = n := ⟨t.toNat, by omega⟩
  have : n = 1 ∨ n = 2 ∨ n = 3 ∨ n = 4 ∨ n = 5 ∨ n = 6 ∨ n = 7 ∨ n = 8 := by omega
  rcases this with h | h | h | h | h | h | h | h <;> subst h <;> rfl
theorem rule_wild {t : Int} (h : 1 ≤ t ∧ t ≤ 8) : (ruleOf t.toNat).wild = decide (t = 1 ∨ t = 5 ∨ t = 8) := by
  obtain ⟨n, rfl⟩ : ∃ n : Nat, t = n := ⟨t.toNat, by omega⟩
  have : n = 1 ∨ n = 2 ∨ n = 3 ∨ n = 4 ∨ n = 5 ∨ n = 6 ∨ n = 7 ∨ n = 8 := by omega
  rcases this with h | h | h | h | h | h | h | h <;> subst h <;> rfl
end Go.Proofs.YthabgdbhgcgemaaGreatDoor
namespace Go.Proofs.YthabgdbhgcgemaaGreatDoor
set_option linter.unusedVariables false
set_option linter.unusedSimpArgs false
open Go
structure FateC where
  lost : Bool
  delay : Int
  copies : Int
  forge : Int
  deriving DecidableEq
end Go.Proofs.YthabgdbhgcgemaaGreatDoor
namespace Go.Proofs.YthabgdbhgcgemaaGreatDoor
set_option linter.unusedVariables false
set_option linter.unusedSimpArgs false
open Go
def idxI {α : Type} (p : α → Bool) (l : List α) : Int := if l.any p = true then (l.findIdx p : Int) else -1
theorem idxI_at {α : Type} {p : α → Bool} {l : List α} {k : Nat} (hk : k < l.length) (h : p l[k] = true) (hb : ∀ j (hj : j < k), p (l[j]'(by omega)) = false) : idxI p l = k := by
  unfold idxI
  rw [if_pos (List.any_eq_true.2 ⟨_, List.getElem_mem hk, h⟩), (List.findIdx_eq hk).2 ⟨h, fun j hj => hb j hj⟩]
theorem any_no {α : Type} {p : α → Bool} {l : List α} (h : ∀ j (hj : j < l.length), p l[j] = false) : l.any p = false := by
  rw [List.any_eq_false]
  intro x hx
  obtain ⟨j, hj, rfl⟩ := List.mem_iff_getElem.1 hx
  rw [h j hj]; simp
theorem idxI_none {α : Type} {p : α → Bool} {l : List α} (h : ∀ j (hj : j < l.length), p l[j] = false) : idxI p l = -1 := by
  unfold idxI
  rw [any_no h]; rfl
theorem idxI_ge {α : Type} (p : α → Bool) (l : List α) : decide (0 ≤ idxI p l) = l.any p := by
  unfold idxI
  cases l.any p with
  | true => simp
  | false => simp
def EqTo {α β : Type} (f : α → β) (l m : List α) (k : Nat) : Prop := ∀ j (h1 : j < l.length) (h2 : j < m.length), j < k → f l[j] = f m[j]
theorem eqTo_zero {α β : Type} {f : α → β} {l m : List α} : EqTo f l m 0 := fun _ _ _ h => by omega
theorem eqTo_up {α β : Type} {f : α → β} {l m : List α} {k : Nat} (h1 : k < l.length) (h2 : k < m.length) (h : EqTo f l m k) (e : f l[k] = f m[k]) : EqTo f l m (k + 1) := fun j h1 h2 hjk => by
  by_cases e' : j = k
  · subst e'; exact e
  · exact h j h1 h2 (by omega)
theorem eqTo_end {α β : Type} {f : α → β} {l m : List α} {k : Nat} (hl : l.length = m.length) (h : EqTo f l m k) (hk : l.length ≤ k) : l.map f = m.map f :=
  List.ext_getElem (by simpa using hl) fun j h1 h2 => by simp at h1 h2 ⊢; exact h j h1 h2 (by omega)
theorem eqTo_endI {α : Type} {l m : List α} {k : Nat} (hl : l.length = m.length) (h : EqTo id l m k) (hk : l.length ≤ k) : l = m := by
  have := eqTo_end hl h hk
  simpa using this
theorem eqTo_no {α β : Type} {f : α → β} {l m : List α} {k : Nat} (h1 : k < l.length) (h2 : k < m.length) (e : ¬ f l[k] = f m[k]) : ¬ l.map f = m.map f := fun h => e (by
  have := congrArg (fun x => x[k]?) h
  simpa [h1, h2] using this)
theorem eqTo_noI {α : Type} {l m : List α} {k : Nat} (h1 : k < l.length) (h2 : k < m.length) (e : ¬ l[k] = m[k]) : ¬ l = m := fun h => e (by subst h; rfl)
end Go.Proofs.YthabgdbhgcgemaaGreatDoor
namespace Go.Proofs.YthabgdbhgcgemaaGreatDoor
set_option linter.unusedVariables false
set_option linter.unusedSimpArgs false
open Go
end Go.Proofs.YthabgdbhgcgemaaGreatDoor
namespace Go.Proofs.YthabgdbhgcgemaaGreatDoor
set_option linter.unusedVariables false
set_option linter.unusedSimpArgs false
open Go
end Go.Proofs.YthabgdbhgcgemaaGreatDoor
namespace Go.Proofs.YthabgdbhgcgemaaGreatDoor
set_option linter.unusedVariables false
set_option linter.unusedSimpArgs false
open Go
end Go.Proofs.YthabgdbhgcgemaaGreatDoor
namespace Go.Proofs.YthabgdbhgcgemaaGreatDoor
set_option linter.unusedVariables false
set_option linter.unusedSimpArgs false
open Go
def parts (l : Bytes) : List Bytes := if l = [46] then [] else splitDots l
def inN (s z : Bytes) : Bool := decide (parts z <:+ parts s)
def underB (s z : Bytes) : Bool := decide (s = z) || decide (z = [46]) || (decide (z.length < s.length) && decide (z <:+ s) && decide (s.getD (s.length - z.length - 1) 0 = 46))
theorem splitDots_mid (s : Bytes) : ∀ p : Bytes, splitDots (p ++ 46 :: s) = splitDots p ++ splitDots s
  | [] => by
    show splitDots (46 :: s) = [[]] ++ splitDots s
    simp [splitDots]
  | c :: p => by
    rw [List.cons_append, splitDots, splitDots_mid s p]
    by_cases h : c = 46
    · rw [if_pos h, splitDots, if_pos h]; rfl
    · rw [if_neg h, splitDots, if_neg h]
      cases hp : splitDots p with
      | nil => exact absurd hp (splitDots_ne p)
      | cons q r => rfl
def joinD : List Bytes → Bytes
  | [] => []
  | [x] => x
  | x :: y :: r => x ++ 46 :: joinD (y :: r)
theorem joinD_cons {x : Bytes} {r : List Bytes} (h : r ≠ []) : joinD (x :: r) = x ++ 46 :: joinD r := by
  cases r with
  | nil => exact absurd rfl h
  | cons y r => rfl
theorem joinD_head (c : UInt8) (p : Bytes) (r : List Bytes) : joinD ((c :: p) :: r) = c :: joinD (p :: r) := by
  cases r with
  | nil => rfl
  | cons y r => rfl
theorem join_split : ∀ l : Bytes, joinD (splitDots l) = l
  | [] => rfl
  | c :: l => by
    have ih := join_split l
    rw [splitDots]
    by_cases h : c = 46
    · rw [if_pos h, joinD_cons (splitDots_ne l), ih, h]; rfl
    · rw [if_neg h]
      cases hp : splitDots l with
      | nil => exact absurd hp (splitDots_ne l)
      | cons q r =>
        rw [hp] at ih
        show joinD ((c :: q) :: r) = c :: l
        rw [joinD_head, ih]
theorem split_inj {a b : Bytes} (h : splitDots a = splitDots b) : a = b := by rw [← join_split a, ← join_split b, h]
theorem joinD_app : ∀ {t u : List Bytes}, t ≠ [] → u ≠ [] → joinD (t ++ u) = joinD t ++ 46 :: joinD u
  | [], _, h, _ => absurd rfl h
  | [x], u, _, hu => by rw [List.singleton_append, joinD_cons hu]; rfl
  | x :: y :: r, u, _, hu => by
    have e : (y :: r) ++ u ≠ [] := by simp
    rw [List.cons_append, joinD_cons e, joinD_app (List.cons_ne_nil y r) hu, joinD_cons (List.cons_ne_nil y r), List.append_assoc]
    rfl
theorem split_suffix {s z : Bytes} : splitDots z <:+ splitDots s ↔ (s = z ∨ ∃ p, s = p ++ 46 :: z) := by
  constructor
  · rintro ⟨t, ht⟩
    by_cases h : t = []
    · subst h
      exact .inl (split_inj ht.symm)
    · right
      refine ⟨joinD t, ?_⟩
      rw [← join_split s, ← ht, joinD_app h (splitDots_ne z), join_split]
  · rintro (rfl | ⟨p, rfl⟩)
    · exact List.suffix_refl _
    · rw [splitDots_mid]; exact List.suffix_append _ _
theorem mid_iff {s z : Bytes} : (z.length < s.length ∧ z <:+ s ∧ s.getD (s.length - z.length - 1) 0 = 46) ↔ ∃ p, s = p ++ 46 :: z := by
  constructor
  · rintro ⟨h1, ⟨t, rfl⟩, h3⟩
    rw [List.length_append] at h1 h3
    have ht : t ≠ [] := by
      rintro rfl
      simp at h1
    have hl : t.length + z.length - z.length - 1 = t.length - 1 := by omega
    rw [hl] at h3
    have hpos : 0 < t.length := List.length_pos_iff.2 ht
    have hg : t.getLast ht = 46 := by
      rw [List.getLast_eq_getElem]
      rw [List.getD_eq_getElem?_getD, List.getElem?_append_left (by omega), List.getElem?_eq_getElem (by omega)] at h3
      exact h3
    refine ⟨t.dropLast, ?_⟩
    have := List.dropLast_concat_getLast ht
    rw [hg] at this
    conv => lhs; rw [← this]
    simp
  · rintro ⟨p, rfl⟩
    refine ⟨by rw [List.length_append, List.length_cons]; omega, ⟨p ++ [46], by simp⟩, ?_⟩
    have hl : (p ++ 46 :: z).length - z.length - 1 = p.length := by simp; omega
    rw [hl, List.getD_eq_getElem?_getD, List.getElem?_append_right (Nat.le_refl _)]
    simp
theorem name_pos {z : Bytes} (h : nameOK z = true) : 0 < z.length := by
  cases z with
  | nil => exact absurd h (by decide)
  | cons c z => simp
theorem under_in {s z : Bytes} (hz : nameOK z = true) : underB s z = inN s z := by
  rw [Bool.eq_iff_iff]
  unfold underB inN
  simp only [Bool.or_eq_true, Bool.and_eq_true, decide_eq_true_eq, and_assoc]
  rw [mid_iff]
  unfold parts
  by_cases h2 : z = [46]
  · subst h2
    simp
  · rw [if_neg h2]
    by_cases h1 : s = [46]
    · subst h1
      rw [if_pos rfl]
      have hp := name_pos hz
      constructor
      · rintro ((h | h) | ⟨p, h⟩)
        · exact absurd h.symm h2
        · exact absurd h h2
        · have := congrArg List.length h
          simp at this
          omega
      · intro h
        exact absurd (List.suffix_nil.1 h) (splitDots_ne z)
    · rw [if_neg h1, split_suffix]
      simp [h2]
theorem in_refl (s : Bytes) : inN s s = true := by unfold inN; simp
end Go.Proofs.YthabgdbhgcgemaaGreatDoor
