/-
  What the program computes, in plain Lean, no program in sight: labels, texts, wildcards.
-/
import Derived.Below
namespace Go.Proofs.YtpnoabbdcakjkaaGreatDoor
set_option linter.unusedVariables false
set_option linter.unusedSimpArgs false
open Go

abbrev Bytes := List UInt8
/-- What a place of a label (c = 45, '-') or a text (c = 32, a blank) holds. -/
def WordAt (c : Nat) (l : Bytes) (k : Nat) : Prop := ((97 ≤ (l.getD k 0).toNat ∧ (l.getD k 0).toNat ≤ 122) ∨ (48 ≤ (l.getD k 0).toNat ∧ (l.getD k 0).toNat ≤ 57) ∨ ((l.getD k 0).toNat = c ∧ 0 < k ∧ k + 1 < l.length))
instance (c : Nat) (l : Bytes) (k : Nat) : Decidable (WordAt c l k) := by unfold WordAt; exact inferInstance
def Word (c m : Nat) (l : Bytes) : Prop := 1 ≤ l.length ∧ l.length ≤ m ∧ ∀ k, k < l.length → WordAt c l k
instance (c m : Nat) (l : Bytes) : Decidable (Word c m l) := by unfold Word; exact inferInstance
def isWord (c m : Nat) (l : Bytes) : Bool := decide (Word c m l)
theorem isWord_yes {c m : Nat} {l : Bytes} (h1 : 1 ≤ l.length) (h2 : l.length ≤ m) (h : ∀ k, k < l.length → WordAt c l k) : isWord c m l = true := decide_eq_true ⟨h1, h2, h⟩
theorem isWord_no {c m : Nat} {l : Bytes} (h : ¬ (1 ≤ l.length ∧ l.length ≤ m)) : isWord c m l = false := decide_eq_false fun h' => h ⟨h'.1, h'.2.1⟩
theorem isWord_noAt {c m : Nat} {l : Bytes} (k : Nat) (hk : k < l.length) (h : ¬ WordAt c l k) : isWord c m l = false := decide_eq_false fun h' => h (h'.2.2 k hk)
theorem up_lt {p : Nat → Prop} {k : Nat} (h : ∀ j, j < k → p j) (hk : p k) : ∀ j, j < k + 1 → p j := fun j hj => by
  by_cases e : j = k
  · subst e; exact hk
  · exact h j (by omega)
abbrev isLab (l : Bytes) : Bool := isWord 45 12 l
abbrev textOK (l : Bytes) : Bool := isWord 32 40 l
/-- It begins with a star. -/
def wild (l : Bytes) : Bool := decide (l.take 1 = [42])
theorem wild_iff (l : Bytes) : wild l = true ↔ (0 < l.length ∧ (l.getD 0 0).toNat = 42) := by
  unfold wild
  rw [decide_eq_true_iff]
  cases l with
  | nil => simp
  | cons c l =>
    simp only [List.take_succ_cons, List.take_zero, List.cons.injEq, and_true, List.length_cons, Nat.zero_lt_succ, true_and, List.getD_cons_zero]
    constructor
    · rintro rfl; rfl
    · intro h; exact UInt8.toNat_inj.1 h
theorem wild_eq (l : Bytes) : wild l = decide (0 < l.length ∧ (l.getD 0 0).toNat = 42) := by
  rw [Bool.eq_iff_iff, wild_iff, decide_eq_true_iff]
def splitDots : Bytes → List Bytes
  | [] => [[]]
  | c :: l =>
    if c = 46 then [] :: splitDots l else
      match splitDots l with
      | p :: r => (c :: p) :: r
      | [] => [[c]]
def nameOK (l : Bytes) : Bool := decide (l = [46]) || (decide (l.length ≤ 60) && decide ((splitDots l).length ≤ 8) && (isLab ((splitDots l).headD []) || decide ((splitDots l).headD [] = [42])) && (splitDots l).tail.all isLab)
def lastFrom (c : UInt8) (l : Bytes) : Nat → Int
  | 0 => -1
  | k + 1 => if l.getD k 0 = c then (k : Int) else lastFrom c l k
/-- Where the last c is, or -1. -/
def lastB (c : UInt8) (l : Bytes) : Int := lastFrom c l l.length
/-- The labels of a name, from the end on. -/
def labs (l : Bytes) : List Bytes := if l = [46] then [] else (splitDots l).reverse
theorem lastFrom_spec (c : UInt8) (l : Bytes) : ∀ k, (lastFrom c l k = -1 ∧ ∀ j, j < k → l.getD j 0 ≠ c) ∨ ∃ i : Nat, i < k ∧ lastFrom c l k = i ∧ l.getD i 0 = c ∧ ∀ j, i < j → j < k → l.getD j 0 ≠ c
  | 0 => .inl ⟨rfl, by omega⟩
  | k + 1 => by
    unfold lastFrom
    by_cases h : l.getD k 0 = c
    · rw [if_pos h]; exact .inr ⟨k, by omega, rfl, h, by omega⟩
    · rw [if_neg h]
      rcases lastFrom_spec c l k with ⟨h1, h2⟩ | ⟨i, h1, h2, h3, h4⟩
      · exact .inl ⟨h1, fun j hj => by
          by_cases e : j = k
          · subst e; exact h
          · exact h2 j (by omega)⟩
      · exact .inr ⟨i, by omega, h2, h3, fun j hij hj => by
          by_cases e : j = k
          · subst e; exact h
          · exact h4 j hij (by omega)⟩
theorem splitDots_ne (l : Bytes) : splitDots l ≠ [] := by
  cases l with
  | nil => simp [splitDots]
  | cons c l =>
    unfold splitDots
    split
    · simp
    · split <;> simp
theorem splitDots_nodot : ∀ {l : Bytes}, (∀ x ∈ l, x ≠ 46) → splitDots l = [l]
  | [], _ => rfl
  | c :: l, h => by
    unfold splitDots
    rw [if_neg (h c (by simp)), splitDots_nodot (fun x hx => h x (by simp [hx]))]
theorem splitDots_app {s : Bytes} (hs : ∀ x ∈ s, x ≠ 46) : ∀ p : Bytes, splitDots (p ++ 46 :: s) = splitDots p ++ [s]
  | [] => by
    show splitDots (46 :: s) = _
    unfold splitDots
    rw [if_pos rfl, splitDots_nodot hs]; rfl
  | c :: p => by
    rw [List.cons_append]
    unfold splitDots
    rw [splitDots_app hs p]
    by_cases h : c = 46
    · rw [if_pos h, if_pos h]; rfl
    · rw [if_neg h, if_neg h]
      cases hp : splitDots p with
      | nil => exact absurd hp (splitDots_ne p)
      | cons q r => rfl
theorem splitDots_snoc {c : UInt8} (h : c ≠ 46) : ∀ l : Bytes, splitDots (l ++ [c]) = (splitDots l).dropLast ++ [(splitDots l).getLastD [] ++ [c]]
  | [] => by simp [splitDots, h]
  | d :: l => by
    rw [List.cons_append]
    unfold splitDots
    rw [splitDots_snoc h l]
    have hne := splitDots_ne l
    by_cases hd : d = 46
    · rw [if_pos hd, if_pos hd, List.dropLast_cons_of_ne_nil hne]
      cases hp : splitDots l with
      | nil => exact absurd hp hne
      | cons q r => simp [List.getLastD]
    · rw [if_neg hd, if_neg hd]
      cases hp : splitDots l with
      | nil => exact absurd hp hne
      | cons q r =>
        cases r with
        | nil => simp
        | cons q2 r2 => simp [List.getLastD]
theorem split_last (r : Bytes) : (lastB 46 r = -1 ∧ splitDots r = [r]) ∨ ∃ i : Nat, i < r.length ∧ lastB 46 r = i ∧ splitDots r = splitDots (r.take i) ++ [r.drop (i + 1)] := by
  have get : ∀ j (hj : j < r.length), r.getD j 0 = r[j] := fun j hj => by rw [List.getD_eq_getElem?_getD, List.getElem?_eq_getElem hj]; rfl
  rcases lastFrom_spec 46 r r.length with ⟨h1, h2⟩ | ⟨i, h1, h2, h3, h4⟩
  · refine .inl ⟨h1, splitDots_nodot fun x hx => ?_⟩
    obtain ⟨j, hj, rfl⟩ := List.mem_iff_getElem.1 hx
    rw [← get j hj]; exact h2 j hj
  · refine .inr ⟨i, h1, h2, ?_⟩
    rw [get i h1] at h3
    have : r = r.take i ++ 46 :: r.drop (i + 1) := by
      rw [← h3, ← List.drop_eq_getElem_cons h1, List.take_append_drop]
    conv => lhs; rw [this]
    refine splitDots_app (fun x hx => ?_) _
    obtain ⟨j, hj, rfl⟩ := List.mem_iff_getElem.1 hx
    rw [List.length_drop] at hj
    rw [List.getElem_drop, ← get _ (by omega)]
    exact h4 _ (by omega) (by omega)
theorem splitDots_count : ∀ l : Bytes, (splitDots l).length ≤ l.length + 1
  | [] => by simp [splitDots]
  | c :: l => by
    have := splitDots_count l
    unfold splitDots
    split
    · simp; omega
    · split
      · rename_i hp; rw [hp] at this; simp at this ⊢; omega
      · simp
/-- What the labels from the end on must be. -/
def okRev (r : List Bytes) : Prop := r.length ≤ 8 ∧ ∀ j (h : j < r.length), isLab r[j] = true ∨ (j + 1 = r.length ∧ r[j] = [42])
theorem nameOK_iff (l : Bytes) : nameOK l = true ↔ (l = [46] ∨ (l.length ≤ 60 ∧ okRev (splitDots l).reverse)) := by
  unfold nameOK okRev
  cases hp : splitDots l with
  | nil => exact absurd hp (splitDots_ne l)
  | cons q r =>
    simp only [Bool.or_eq_true, Bool.and_eq_true, decide_eq_true_eq, List.headD_cons, List.tail_cons, List.all_eq_true, List.length_reverse, List.reverse_cons]
    constructor
    · rintro (h | ⟨⟨⟨h1, h2⟩, h3⟩, h4⟩)
      · exact .inl h
      · refine .inr ⟨h1, by simpa using h2, fun j hj => ?_⟩
        by_cases e : j < r.length
        · left
          rw [List.getElem_append_left (by simpa using e)]
          exact h4 _ (List.mem_reverse.1 (List.getElem_mem _))
        · have e' : j = r.reverse.length := by simp at hj ⊢; omega
          subst e'
          simp only [List.getElem_concat_length, List.length_append, List.length_singleton, true_and]
          rcases h3 with h | h
          · exact .inl h
          · exact .inr (of_decide_eq_true h)
    · rintro (h | ⟨h1, h2, h3⟩)
      · exact .inl h
      · refine .inr ⟨⟨⟨h1, by simpa using h2⟩, ?_⟩, fun x hx => ?_⟩
        · have := h3 r.reverse.length (by simp)
          simp only [List.getElem_concat_length, List.length_append, List.length_singleton, true_and] at this
          rcases this with h | h
          · exact .inl h
          · exact .inr (decide_eq_true h)
        · obtain ⟨j, hj, hjx⟩ := List.mem_iff_getElem.1 (List.mem_reverse.2 hx)
          have := h3 j (by simp at hj ⊢; omega)
          rw [List.getElem_append_left hj, hjx] at this
          rcases this with h | ⟨h, _⟩
          · exact h
          · simp at h hj; omega
theorem nameOK_dot : nameOK [46] = true := by unfold nameOK; simp
theorem nameOK_no {l : Bytes} (h : ¬ (l = [46] ∨ (l.length ≤ 60 ∧ okRev (splitDots l).reverse))) : nameOK l = false := by
  rw [← nameOK_iff] at h; simpa using h
theorem not_lab_star : isLab [42] = false := by decide
structure Datum where
  text : Bytes
  n : Int
  m : Int
  deriving DecidableEq
structure Sig where
  zone : Bytes
  key : Int
  alg : Int
  frm : Int
  til : Int
  sum : Int
  deriving DecidableEq
structure SetC where
  name : Bytes
  typ : Int
  life : Int
  data : List Datum
  deriving DecidableEq
structure SignedC where
  set : SetC
  sigs : List Sig
  deriving DecidableEq
structure AnswerC where
  kind : Int
  sets : List SignedC
  cut : Bytes
  deriving DecidableEq
structure Question where
  name : Bytes
  typ : Int
  deriving DecidableEq
structure MsgC where
  kind : Int
  id : Int
  frm : Int
  to : Int
  q : Question
  ans : AnswerC
  deriving DecidableEq
structure TransitC where
  at_ : Int
  seq : Int
  m : MsgC
  deriving DecidableEq
structure NetC where
  seq : Int
  list : List TransitC
  deriving DecidableEq
structure Rule where
  text : Int
  leastN : Int
  mostN : Int
  leastM : Int
  mostM : Int
  even : Bool
  single : Bool
  wild : Bool
/-- The table of the rules. -/
def rules : List Rule := [⟨0, 0, 0, 0, 0, false, false, false⟩, ⟨0, 1, 1000000, 0, 0, false, false, true⟩, ⟨1, 0, 0, 0, 0, false, false, false⟩, ⟨1, 0, 0, 0, 0, false, true, false⟩, ⟨0, 0, 65535, 0, 100000, false, true, false⟩,
  ⟨3, 0, 0, 0, 0, false, false, true⟩, ⟨0, 1, 1000000, 1, 3, false, false, false⟩, ⟨0, 1, 1000000, 1, 3, false, false, false⟩, ⟨2, 2, 510, 0, 0, true, false, true⟩]
def ruleOf (t : Nat) : Rule := rules.getD t ⟨0, 0, 0, 0, 0, false, false, false⟩
def datumBy (r : Rule) (d : Datum) : Bool :=
  decide (r.leastN ≤ d.n ∧ d.n ≤ r.mostN) && decide (r.leastM ≤ d.m ∧ d.m ≤ r.mostM) && (!r.even || decide (d.n.tmod 2 = 0)) &&
  (if r.text = 1 then nameOK d.text && !wild d.text else if r.text = 2 then nameOK d.text else if r.text = 3 then textOK d.text else decide (d.text = []))
def datumOK (t : Int) (d : Datum) : Bool := decide (1 ≤ t ∧ t ≤ 8) && datumBy (ruleOf t.toNat) d
def datumLt (a b : Datum) : Bool := if a.text ≠ b.text then Op.bytesLess a.text b.text else if a.n ≠ b.n then decide (a.n < b.n) else decide (a.m < b.m)
def cmpI (x y : Int) : Int := if x < y then -1 else if y < x then 1 else 0
def cmpS (x y : Bytes) : Int := if Op.bytesLess x y = true then -1 else if x = y then 0 else 1
def orL : List Int → Int
  | [] => 0
  | x :: l => if x = 0 then orL l else x
def cmpD (a b : Datum) : Int := orL [cmpS a.text b.text, cmpI a.n b.n, cmpI a.m b.m]
theorem bytesLess_self (l : Bytes) : Op.bytesLess l l = false := by
  induction l with
  | nil => rfl
  | cons c l ih => unfold Op.bytesLess; simp [ih]
theorem cmpD_lt (a b : Datum) : 0 ≤ cmpD a b ↔ datumLt a b = false := by
  unfold cmpD datumLt cmpS cmpI orL
  by_cases h : a.text = b.text
  · rw [h, bytesLess_self]
    by_cases h2 : a.n = b.n
    · simp [h2, orL]
      by_cases h3 : a.m < b.m
      · simp [h3]
      · by_cases h4 : b.m < a.m <;> simp [h3, h4] <;> try omega
    · by_cases h3 : a.n < b.n
      · simp [h2, h3, orL]
      · simp [h2, h3, show b.n < a.n by omega, orL]
  · by_cases h1 : Op.bytesLess a.text b.text = true
    · simp [h, h1]
    · simp at h1; simp [h, h1]
/-- Two neighbours of a list, all over. -/
def chain {α : Type} (r : α → α → Bool) : List α → Bool
  | x :: y :: l => r x y && chain r (y :: l)
  | _ => true
def setOK (s : SetC) : Bool :=
  nameOK s.name && decide (1 ≤ s.typ ∧ s.typ ≤ 8) && decide (0 ≤ s.life ∧ s.life ≤ 100000) && decide (1 ≤ s.data.length ∧ s.data.length ≤ 8) &&
  (!(ruleOf s.typ.toNat).single || decide (s.data.length = 1)) && (!wild s.name || (ruleOf s.typ.toNat).wild) && s.data.all (datumOK s.typ) && chain datumLt s.data
def sigOK (g : Sig) : Bool := nameOK g.zone && decide (1 ≤ g.key ∧ g.key ≤ 1000000) && decide (1 ≤ g.alg ∧ g.alg ≤ 3) && decide (0 ≤ g.frm ∧ g.frm ≤ g.til ∧ g.til ≤ 20000000)
def signedOK (s : SignedC) : Bool := decide (s.sigs.length ≤ 6) && setOK s.set && s.sigs.all sigOK
def answerOK (a : AnswerC) : Bool := decide (1 ≤ a.kind ∧ a.kind ≤ 7) && decide (a.sets.length ≤ 40) && a.sets.all signedOK && (if a.kind = 4 then nameOK a.cut else decide (a.cut = []))
def questionOK (q : Question) : Bool := nameOK q.name && decide (1 ≤ q.typ ∧ q.typ ≤ 8)
def msgOK (m : MsgC) : Bool :=
  decide (0 ≤ m.id ∧ m.id ≤ 65535) && decide (1 ≤ m.frm ∧ m.frm ≤ 1000000) && decide (1 ≤ m.to ∧ m.to ≤ 1000000) && questionOK m.q &&
  (if m.kind = 1 then decide (m.ans.kind = 0) && decide (m.ans.sets = []) && decide (m.ans.cut = []) else decide (m.kind = 2) && answerOK m.ans)
def matchOK (q a : MsgC) : Bool := msgOK q && msgOK a && decide (q.kind = 1) && decide (a.kind = 2) && decide (q.id = a.id) && decide (q.q = a.q) && decide (q.frm = a.to) && decide (q.to = a.frm)
end Go.Proofs.YtpnoabbdcakjkaaGreatDoor
namespace Go.Proofs.YtpnoabbdcakjkaaGreatDoor
set_option linter.unusedVariables false
set_option linter.unusedSimpArgs false
open Go
theorem dec_and (p q : Prop) [Decidable p] [Decidable q] : decide (p ∧ q) = (decide p && decide q) := by by_cases p <;> by_cases q <;> simp_all
theorem datumOK_1 (d : Datum) : datumOK 1 d = (decide (d.text = []) && decide (1 ≤ d.n ∧ d.n ≤ 1000000) && decide (d.m = 0)) := by
  rw [Bool.eq_iff_iff]; simp [datumOK, datumBy, ruleOf, rules]
  constructor
  · rintro ⟨⟨h1, h2⟩, h3⟩; exact ⟨⟨h3, h1⟩, by omega⟩
  · rintro ⟨⟨h3, h1⟩, h2⟩; exact ⟨⟨h1, by omega⟩, h3⟩
def hostOK (d : Datum) : Bool := nameOK d.text && !wild d.text && decide (d.n = 0) && decide (d.m = 0)
theorem datumOK_2 (d : Datum) : datumOK 2 d = hostOK d := by
  rw [Bool.eq_iff_iff]; simp [datumOK, datumBy, ruleOf, rules, hostOK]
  constructor
  · rintro ⟨⟨h1, h2⟩, h3, h4⟩; exact ⟨⟨⟨h3, h4⟩, by omega⟩, by omega⟩
  · rintro ⟨⟨⟨h3, h4⟩, h1⟩, h2⟩; exact ⟨⟨by omega, by omega⟩, h3, h4⟩
theorem datumOK_3 (d : Datum) : datumOK 3 d = hostOK d := by
  rw [Bool.eq_iff_iff]; simp [datumOK, datumBy, ruleOf, rules, hostOK]
  constructor
  · rintro ⟨⟨h1, h2⟩, h3, h4⟩; exact ⟨⟨⟨h3, h4⟩, by omega⟩, by omega⟩
  · rintro ⟨⟨⟨h3, h4⟩, h1⟩, h2⟩; exact ⟨⟨by omega, by omega⟩, h3, h4⟩
theorem datumOK_4 (d : Datum) : datumOK 4 d = (decide (d.text = []) && decide (0 ≤ d.n ∧ d.n ≤ 65535) && decide (0 ≤ d.m ∧ d.m ≤ 100000)) := by
  rw [Bool.eq_iff_iff]; simp [datumOK, datumBy, ruleOf, rules]
  constructor
  · rintro ⟨⟨h1, h2⟩, h3⟩; exact ⟨⟨h3, h1⟩, h2⟩
  · rintro ⟨⟨h3, h1⟩, h2⟩; exact ⟨⟨h1, h2⟩, h3⟩
theorem datumOK_5 (d : Datum) : datumOK 5 d = (textOK d.text && decide (d.n = 0) && decide (d.m = 0)) := by
  rw [Bool.eq_iff_iff]; simp [datumOK, datumBy, ruleOf, rules]
  constructor
  · rintro ⟨⟨h1, h2⟩, h3⟩; exact ⟨⟨h3, by omega⟩, by omega⟩
  · rintro ⟨⟨h3, h1⟩, h2⟩; exact ⟨⟨by omega, by omega⟩, h3⟩
def keyOK (d : Datum) : Bool := decide (d.text = []) && decide (1 ≤ d.n ∧ d.n ≤ 1000000) && decide (1 ≤ d.m ∧ d.m ≤ 3)
theorem datumOK_6 (d : Datum) : datumOK 6 d = keyOK d := by
  rw [Bool.eq_iff_iff]; simp [datumOK, datumBy, ruleOf, rules, keyOK]
  constructor
  · rintro ⟨⟨h1, h2⟩, h3⟩; exact ⟨⟨h3, h1⟩, h2⟩
  · rintro ⟨⟨h3, h1⟩, h2⟩; exact ⟨⟨h1, h2⟩, h3⟩
theorem datumOK_7 (d : Datum) : datumOK 7 d = keyOK d := by
  rw [Bool.eq_iff_iff]; simp [datumOK, datumBy, ruleOf, rules, keyOK]
  constructor
  · rintro ⟨⟨h1, h2⟩, h3⟩; exact ⟨⟨h3, h1⟩, h2⟩
  · rintro ⟨⟨h3, h1⟩, h2⟩; exact ⟨⟨h1, h2⟩, h3⟩
theorem datumOK_8 (d : Datum) : datumOK 8 d = (nameOK d.text && decide (2 ≤ d.n ∧ d.n ≤ 510) && decide (d.n.tmod 2 = 0) && decide (d.m = 0)) := by
  rw [Bool.eq_iff_iff]; simp [datumOK, datumBy, ruleOf, rules]
  constructor
  · rintro ⟨⟨⟨h1, h2⟩, h3⟩, h4⟩; exact ⟨⟨⟨h4, h1⟩, h3⟩, by omega⟩
  · rintro ⟨⟨⟨h4, h1⟩, h3⟩, h2⟩; exact ⟨⟨⟨h1, by omega⟩, h3⟩, h4⟩
theorem datumOK_no {t : Int} (h : ¬ (1 ≤ t ∧ t ≤ 8)) (d : Datum) : datumOK t d = false := by unfold datumOK; rw [decide_eq_false h]; rfl
/-- A list of data in order. -/
def DataOK (t : Int) (l : List Datum) (k : Nat) : Prop := ∀ j (h : j < l.length), j < k → datumOK t l[j] = true ∧ (0 < j → datumLt (l[j - 1]'(by omega)) l[j] = true)
theorem chain_iff {α : Type} (r : α → α → Bool) : ∀ l : List α, chain r l = true ↔ ∀ j (h : j < l.length), 0 < j → r (l[j - 1]'(by omega)) l[j] = true
  | [] => by simp [chain]
  | [x] => by simp [chain]
  | x :: y :: l => by
    rw [chain, Bool.and_eq_true, chain_iff r (y :: l)]
    constructor
    · rintro ⟨h1, h2⟩ j hj h0
      cases j with
      | zero => omega
      | succ j =>
        cases j with
        | zero => exact h1
        | succ j => exact h2 (j + 1) (by simp at hj ⊢; omega) (by omega)
    · intro h
      refine ⟨h 1 (by simp) (by omega), fun j hj h0 => ?_⟩
      cases j with
      | zero => omega
      | succ j => exact h (j + 2) (by simp at hj ⊢; omega) (by omega)
theorem dataOK_iff (t : Int) (l : List Datum) : (l.all (datumOK t) && chain datumLt l) = true ↔ DataOK t l l.length := by
  rw [Bool.and_eq_true, chain_iff, List.all_eq_true]
  constructor
  · rintro ⟨h1, h2⟩ j hj _
    exact ⟨h1 _ (List.getElem_mem _), h2 j hj⟩
  · intro h
    refine ⟨fun x hx => ?_, fun j hj => (h j hj hj).2⟩
    obtain ⟨j, hj, rfl⟩ := List.mem_iff_getElem.1 hx
    exact (h j hj hj).1
theorem dataOK_no {t : Int} {l : List Datum} {k : Nat} (hk : k < l.length) (h : datumOK t l[k] = false ∨ (0 < k ∧ datumLt (l[k - 1]'(by omega)) l[k] = false)) : (l.all (datumOK t) && chain datumLt l) = false := by
  cases hb : (l.all (datumOK t) && chain datumLt l) with
  | false => rfl
  | true =>
    have := ((dataOK_iff t l).1 hb) k hk hk
    rcases h with h | ⟨h0, h⟩
    · rw [this.1] at h; cases h
    · rw [this.2 h0] at h; cases h
theorem dataOK_up {t : Int} {l : List Datum} {k : Nat} (hk : k < l.length) (h : DataOK t l k) (h1 : datumOK t l[k] = true) (h2 : 0 < k → datumLt (l[k - 1]'(by omega)) l[k] = true) : DataOK t l (k + 1) := fun j hj hjk => by
  by_cases e : j = k
  · subst e; exact ⟨h1, h2⟩
  · exact h j hj (by omega)
/-- A set but for its data. -/
def headOK (s : SetC) : Bool :=
  nameOK s.name && decide (1 ≤ s.typ ∧ s.typ ≤ 8) && decide (0 ≤ s.life ∧ s.life ≤ 100000) && decide (1 ≤ s.data.length ∧ s.data.length ≤ 8) &&
  (!(ruleOf s.typ.toNat).single || decide (s.data.length = 1)) && (!wild s.name || (ruleOf s.typ.toNat).wild)
theorem setOK_eq (s : SetC) : setOK s = (headOK s && (s.data.all (datumOK s.typ) && chain datumLt s.data)) := by unfold setOK headOK; simp only [Bool.and_assoc]
theorem rule_single {t : Int} (h : 1 ≤ t ∧ t ≤ 8) : (ruleOf t.toNat).single = decide (t = 3 ∨ t = 4) := by
  obtain ⟨n, rfl⟩ : ∃ n : Nat, t = n := ⟨t.toNat, by omega⟩
  have : n = 1 ∨ n = 2 ∨ n = 3 ∨ n = 4 ∨ n = 5 ∨ n = 6 ∨ n = 7 ∨ n = 8 := by omega
  rcases this with h | h | h | h | h | h | h | h <;> subst h <;> rfl
theorem rule_wild {t : Int} (h : 1 ≤ t ∧ t ≤ 8) : (ruleOf t.toNat).wild = decide (t = 1 ∨ t = 5 ∨ t = 8) := by
  obtain ⟨n, rfl⟩ : ∃ n : Nat, t = n := ⟨t.toNat, by omega⟩
  have : n = 1 ∨ n = 2 ∨ n = 3 ∨ n = 4 ∨ n = 5 ∨ n = 6 ∨ n = 7 ∨ n = 8 := by omega
  rcases this with h | h | h | h | h | h | h | h <;> subst h <;> rfl
end Go.Proofs.YtpnoabbdcakjkaaGreatDoor
namespace Go.Proofs.YtpnoabbdcakjkaaGreatDoor
set_option linter.unusedVariables false
set_option linter.unusedSimpArgs false
open Go
def netLe (a b : TransitC) : Bool := decide (a.at_ < b.at_ ∨ (a.at_ = b.at_ ∧ a.seq ≤ b.seq))
def transitOK (s : Int) (t : TransitC) : Bool := decide (0 ≤ t.at_ ∧ t.at_ ≤ 20000000) && decide (0 ≤ t.seq ∧ t.seq < s) && msgOK t.m
def nodupI : List Int → Bool
  | [] => true
  | x :: l => !l.contains x && nodupI l
def netOK (n : NetC) : Bool := decide (0 ≤ n.seq ∧ n.seq ≤ 1000000000) && decide (n.list.length ≤ 200) && n.list.all (transitOK n.seq) && chain netLe n.list && nodupI (n.list.map (·.seq))
theorem nodupI_iff : ∀ l : List Int, nodupI l = true ↔ l.Nodup
  | [] => by simp [nodupI]
  | x :: l => by rw [nodupI, Bool.and_eq_true, nodupI_iff l]; simp
/-- The first k packets are in order. -/
def NetTo (s : Int) (l : List TransitC) (k : Nat) : Prop := ∀ j (h : j < l.length), j < k → transitOK s l[j] = true ∧ (0 < j → netLe (l[j - 1]'(by omega)) l[j] = true) ∧ ∀ i (hi : i < j), (l[i]'(by omega)).seq ≠ l[j].seq
theorem nodup_iff (l : List Int) : l.Nodup ↔ ∀ j (h : j < l.length) i (hi : i < j), l[i]'(by omega) ≠ l[j] := by
  rw [List.Nodup, List.pairwise_iff_getElem]
  constructor
  · intro h j hj i hi; exact h i j (by omega) hj hi
  · intro h i j hi hj hij; exact h j hj i hij
theorem netTo_iff (s : Int) (l : List TransitC) : (l.all (transitOK s) && chain netLe l && nodupI (l.map (·.seq))) = true ↔ NetTo s l l.length := by
  rw [Bool.and_eq_true, Bool.and_eq_true, chain_iff, List.all_eq_true, nodupI_iff, nodup_iff]
  constructor
  · rintro ⟨⟨h1, h2⟩, h3⟩ j hj _
    refine ⟨h1 _ (List.getElem_mem _), h2 j hj, fun i hi => ?_⟩
    have := h3 j (by simpa using hj) i hi
    simpa using this
  · intro h
    refine ⟨⟨fun x hx => ?_, fun j hj => (h j hj hj).2.1⟩, fun j hj i hi => ?_⟩
    · obtain ⟨j, hj, rfl⟩ := List.mem_iff_getElem.1 hx
      exact (h j hj hj).1
    · have := (h j (by simpa using hj) (by simpa using hj)).2.2 i hi
      simpa using this
theorem netOK_eq (n : NetC) : netOK n = (decide (0 ≤ n.seq ∧ n.seq ≤ 1000000000 ∧ n.list.length ≤ 200) && (n.list.all (transitOK n.seq) && chain netLe n.list && nodupI (n.list.map (·.seq)))) := by
  unfold netOK
  simp only [dec_and, Bool.and_assoc]
theorem netOK_iff (n : NetC) : netOK n = true ↔ (0 ≤ n.seq ∧ n.seq ≤ 1000000000 ∧ n.list.length ≤ 200) ∧ NetTo n.seq n.list n.list.length := by
  rw [netOK_eq, Bool.and_eq_true, netTo_iff, decide_eq_true_iff]
structure FateC where
  lost : Bool
  delay : Int
  copies : Int
  forge : Int
  deriving DecidableEq
def fateOK (f : FateC) (kind : Int) : Bool := decide (0 ≤ f.delay ∧ f.delay ≤ 100000) && decide (1 ≤ f.copies ∧ f.copies ≤ 8) && decide (0 ≤ f.forge ∧ f.forge ≤ 3) && (decide (f.forge ≠ 3) || decide (kind = 2))
def travelsC (m : MsgC) (forge : Int) : MsgC :=
  if forge = 1 then { m with id := (m.id + 1).tmod 65536 } else if forge = 2 then { m with frm := m.frm.tmod 1000000 + 1 } else if forge = 3 then { m with ans := ⟨6, [], []⟩ } else m
def copiesC (m : MsgC) (at_ s : Int) (k : Nat) : List TransitC := (List.range k).map fun (i : Nat) => ⟨at_, s + (i : Int), m⟩
def netNil : NetC := ⟨0, []⟩
def sendC (n : NetC) (m : MsgC) (now : Int) (f : FateC) : NetC × Int :=
  if !(netOK n && msgOK m && decide (0 ≤ now ∧ now ≤ 20000000) && fateOK f m.kind) then (netNil, 1) else
  if f.lost then (n, 0) else
  if 20000000 < now + f.delay ∨ 1000000000 < n.seq + f.copies then (netNil, 2) else
  if 200 < (n.list.length : Int) + f.copies then (netNil, 41) else
  (⟨n.seq + f.copies, n.list.takeWhile (fun t => decide (t.at_ ≤ now + f.delay)) ++ copiesC (travelsC m f.forge) (now + f.delay) n.seq f.copies.toNat ++ n.list.dropWhile (fun t => decide (t.at_ ≤ now + f.delay))⟩, 0)
def hitC (addr now : Int) (t : TransitC) : Bool := decide (t.m.to = addr) && decide (t.at_ ≤ now)
def receiveC (n : NetC) (addr now : Int) : NetC × List MsgC × Int :=
  if !(netOK n && decide (1 ≤ addr ∧ addr ≤ 1000000) && decide (0 ≤ now ∧ now ≤ 20000000)) then (netNil, [], 1) else
  (⟨n.seq, n.list.filter fun t => !hitC addr now t⟩, (n.list.filter (hitC addr now)).map (·.m), 0)
end Go.Proofs.YtpnoabbdcakjkaaGreatDoor
namespace Go.Proofs.YtpnoabbdcakjkaaGreatDoor
set_option linter.unusedVariables false
set_option linter.unusedSimpArgs false
open Go
def idxI {α : Type} (p : α → Bool) (l : List α) : Int := if l.any p = true then (l.findIdx p : Int) else -1
theorem idxI_at {α : Type} {p : α → Bool} {l : List α} {k : Nat} (hk : k < l.length) (h : p l[k] = true) (hb : ∀ j (hj : j < k), p (l[j]'(by omega)) = false) : idxI p l = k := by
  unfold idxI
  rw [if_pos (List.any_eq_true.2 ⟨_, List.getElem_mem hk, h⟩), (List.findIdx_eq hk).2 ⟨h, fun j hj => hb j hj⟩]
theorem any_no {α : Type} {p : α → Bool} {l : List α} (h : ∀ j (hj : j < l.length), p l[j] = false) : l.any p = false := by
  rw [List.any_eq_false]
  intro x hx
  obtain ⟨j, hj, rfl⟩ := List.mem_iff_getElem.1 hx
  rw [h j hj]; simp
theorem all_no {α : Type} {p : α → Bool} {l : List α} {k : Nat} (hk : k < l.length) (h : p l[k] = false) : l.all p = false := by
  rw [List.all_eq_false]
  exact ⟨_, List.getElem_mem hk, by rw [h]; simp⟩
theorem all_yes {α : Type} {p : α → Bool} {l : List α} (h : ∀ j (hj : j < l.length), p l[j] = true) : l.all p = true := by
  rw [List.all_eq_true]
  intro x hx
  obtain ⟨j, hj, rfl⟩ := List.mem_iff_getElem.1 hx
  exact h j hj
theorem idxI_none {α : Type} {p : α → Bool} {l : List α} (h : ∀ j (hj : j < l.length), p l[j] = false) : idxI p l = -1 := by
  unfold idxI
  rw [any_no h]; rfl
theorem idxI_ge {α : Type} (p : α → Bool) (l : List α) : decide (0 ≤ idxI p l) = l.any p := by
  unfold idxI
  cases l.any p with
  | true => simp
  | false => simp
theorem any_not {α : Type} (p : α → Bool) (l : List α) : (!l.any fun x => !p x) = l.all p := by
  rw [List.all_eq_not_any_not]
def AllTo {α : Type} (p : α → Bool) (l : List α) (k : Nat) : Prop := ∀ j (hj : j < l.length), j < k → p l[j] = true
theorem allTo_zero {α : Type} {p : α → Bool} {l : List α} : AllTo p l 0 := fun _ _ h => by omega
theorem allTo_up {α : Type} {p : α → Bool} {l : List α} {k : Nat} (hk : k < l.length) (h : AllTo p l k) (h1 : p l[k] = true) : AllTo p l (k + 1) := fun j hj hjk => by
  by_cases e : j = k
  · subst e; exact h1
  · exact h j hj (by omega)
theorem allTo_end {α : Type} {p : α → Bool} {l : List α} {k : Nat} (h : AllTo p l k) (hk : l.length ≤ k) : l.all p = true := all_yes fun j hj => h j hj (by omega)
def EqTo {α β : Type} (f : α → β) (l m : List α) (k : Nat) : Prop := ∀ j (h1 : j < l.length) (h2 : j < m.length), j < k → f l[j] = f m[j]
theorem eqTo_zero {α β : Type} {f : α → β} {l m : List α} : EqTo f l m 0 := fun _ _ _ h => by omega
theorem eqTo_up {α β : Type} {f : α → β} {l m : List α} {k : Nat} (h1 : k < l.length) (h2 : k < m.length) (h : EqTo f l m k) (e : f l[k] = f m[k]) : EqTo f l m (k + 1) := fun j h1 h2 hjk => by
  by_cases e' : j = k
  · subst e'; exact e
  · exact h j h1 h2 (by omega)
theorem eqTo_end {α β : Type} {f : α → β} {l m : List α} {k : Nat} (hl : l.length = m.length) (h : EqTo f l m k) (hk : l.length ≤ k) : l.map f = m.map f :=
  List.ext_getElem (by simpa using hl) fun j h1 h2 => by simp at h1 h2 ⊢; exact h j h1 h2 (by omega)
theorem eqTo_endI {α : Type} {l m : List α} {k : Nat} (hl : l.length = m.length) (h : EqTo id l m k) (hk : l.length ≤ k) : l = m := by
  have := eqTo_end hl h hk
  simpa using this
theorem eqTo_no {α β : Type} {f : α → β} {l m : List α} {k : Nat} (h1 : k < l.length) (h2 : k < m.length) (e : ¬ f l[k] = f m[k]) : ¬ l.map f = m.map f := fun h => e (by
  have := congrArg (fun x => x[k]?) h
  simpa [h1, h2] using this)
theorem eqTo_noI {α : Type} {l m : List α} {k : Nat} (h1 : k < l.length) (h2 : k < m.length) (e : ¬ l[k] = m[k]) : ¬ l = m := fun h => e (by subst h; rfl)
end Go.Proofs.YtpnoabbdcakjkaaGreatDoor
namespace Go.Proofs.YtpnoabbdcakjkaaGreatDoor
set_option linter.unusedVariables false
set_option linter.unusedSimpArgs false
open Go
def ltC (a b : TransitC) : Prop := a.at_ < b.at_ ∨ (a.at_ = b.at_ ∧ a.seq < b.seq)
theorem netLe_at {a b : TransitC} (h : netLe a b = true) : a.at_ ≤ b.at_ := by
  unfold netLe at h
  rw [decide_eq_true_iff] at h
  omega
theorem chain_at : ∀ {l : List TransitC} {x : TransitC}, chain netLe (x :: l) = true → ∀ y ∈ l, x.at_ ≤ y.at_
  | [], _, _, _, h => by cases h
  | z :: l, x, h, y, hy => by
    rw [chain, Bool.and_eq_true] at h
    have h1 := netLe_at h.1
    rcases List.mem_cons.1 hy with rfl | hy
    · exact h1
    · exact Int.le_trans h1 (chain_at h.2 y hy)
theorem chain_tail {l : List TransitC} {x : TransitC} (h : chain netLe (x :: l) = true) : chain netLe l = true := by
  cases l with
  | nil => rfl
  | cons z l => rw [chain, Bool.and_eq_true] at h; exact h.2
abbrev early (A : Int) (l : List TransitC) : List TransitC := l.takeWhile fun t => decide (t.at_ ≤ A)
abbrev late (A : Int) (l : List TransitC) : List TransitC := l.dropWhile fun t => decide (t.at_ ≤ A)
theorem late_gt (A : Int) : ∀ {l : List TransitC}, chain netLe l = true → ∀ y ∈ late A l, A < y.at_
  | [], _, _, h => by simp [late] at h
  | x :: l, hc, y, hy => by
    unfold late at hy
    rw [List.dropWhile_cons] at hy
    by_cases h : x.at_ ≤ A
    · rw [if_pos (by simpa using h)] at hy
      exact late_gt A (chain_tail hc) y hy
    · rw [if_neg (by simpa using h)] at hy
      rcases List.mem_cons.1 hy with rfl | hy
      · omega
      · have := chain_at hc y hy; omega
theorem early_le (A : Int) : ∀ {l : List TransitC}, ∀ y ∈ early A l, y.at_ ≤ A
  | [], _, h => by simp [early] at h
  | x :: l, y, hy => by
    unfold early at hy
    rw [List.takeWhile_cons] at hy
    by_cases h : x.at_ ≤ A
    · rw [if_pos (by simpa using h)] at hy
      rcases List.mem_cons.1 hy with rfl | hy
      · exact h
      · exact early_le A y hy
    · rw [if_neg (by simpa using h)] at hy; cases hy
theorem early_mem {A : Int} {l : List TransitC} {y : TransitC} (h : y ∈ early A l) : y ∈ l := List.takeWhile_subset _ h
theorem early_late (A : Int) (l : List TransitC) : early A l ++ late A l = l := List.takeWhile_append_dropWhile
theorem copiesC_len (m : MsgC) (A S : Int) (k : Nat) : (copiesC m A S k).length = k := by simp [copiesC]
theorem copiesC_succ (m : MsgC) (A S : Int) (k : Nat) : copiesC m A S (k + 1) = copiesC m A S k ++ [⟨A, S + k, m⟩] := by
  unfold copiesC
  rw [List.range_succ, List.map_append]; rfl
theorem copiesC_get {m : MsgC} {A S : Int} {k i : Nat} (h : i < (copiesC m A S k).length) : (copiesC m A S k)[i] = ⟨A, S + i, m⟩ := by
  have h' : i < k := by rw [copiesC_len] at h; exact h
  have : (copiesC m A S k)[i]? = some ⟨A, S + i, m⟩ := by
    unfold copiesC
    rw [List.getElem?_map, List.getElem?_range h']; rfl
  exact Option.some.inj ((List.getElem?_eq_getElem h).symm.trans this)
theorem place_iff {X Y : List TransitC} {m m' : MsgC} {A S : Int} {k : Nat} (hX : ∀ x ∈ X, x.at_ ≤ A ∧ x.seq < S) (hY : ∀ y ∈ Y, A < y.at_) (j : Nat) (h : j < (X ++ copiesC m A S k ++ Y).length) : ltC (X ++ copiesC m A S k ++ Y)[j] ⟨A, S + k, m'⟩ ↔ j < X.length + k := by
  have hl : (X ++ copiesC m A S k).length = X.length + k := by rw [List.length_append, copiesC_len]
  by_cases h1 : j < X.length
  · rw [List.getElem_append_left (by omega), List.getElem_append_left h1]
    have := hX _ (List.getElem_mem h1)
    unfold ltC
    simp only
    omega
  · by_cases h2 : j < X.length + k
    · rw [List.getElem_append_left (by omega), List.getElem_append_right (by omega), copiesC_get]
      show (A < A ∨ (A = A ∧ S + ((j - X.length : Nat) : Int) < S + (k : Int))) ↔ _
      omega
    · rw [List.getElem_append_right (by omega)]
      have := hY _ (List.getElem_mem (by rw [List.length_append] at h; omega : j - (X ++ copiesC m A S k).length < Y.length))
      unfold ltC
      simp only
      omega
theorem put_copy (X Y : List TransitC) (m : MsgC) (A S : Int) (k : Nat) : (X ++ copiesC m A S k ++ Y).take (X.length + k) ++ ⟨A, S + k, m⟩ :: (X ++ copiesC m A S k ++ Y).drop (X.length + k) = X ++ copiesC m A S (k + 1) ++ Y := by
  have hl : (X ++ copiesC m A S k).length = X.length + k := by rw [List.length_append, copiesC_len]
  rw [← hl, List.take_left, List.drop_left, copiesC_succ]
  simp
end Go.Proofs.YtpnoabbdcakjkaaGreatDoor
namespace Go.Proofs.YtpnoabbdcakjkaaGreatDoor
set_option linter.unusedVariables false
set_option linter.unusedSimpArgs false
open Go
end Go.Proofs.YtpnoabbdcakjkaaGreatDoor
namespace Go.Proofs.YtpnoabbdcakjkaaGreatDoor
set_option linter.unusedVariables false
set_option linter.unusedSimpArgs false
open Go
theorem travels_to (m : MsgC) (f : Int) : (travelsC m f).to = m.to := by
  unfold travelsC
  split
  · rfl
  · split
    · rfl
    · split <;> rfl
theorem tmod_range {x k : Int} (h : 0 ≤ x) (hk : 0 < k) : 0 ≤ x.tmod k ∧ x.tmod k < k := by
  rw [Int.tmod_eq_emod_of_nonneg h]
  exact ⟨Int.emod_nonneg _ (by omega), Int.emod_lt_of_pos _ hk⟩
theorem msgOK_ands (m : MsgC) : msgOK m = true ↔ (0 ≤ m.id ∧ m.id ≤ 65535) ∧ (1 ≤ m.frm ∧ m.frm ≤ 1000000) ∧ (1 ≤ m.to ∧ m.to ≤ 1000000) ∧ questionOK m.q = true ∧ ((m.kind = 1 ∧ m.ans.kind = 0 ∧ m.ans.sets = [] ∧ m.ans.cut = []) ∨ (m.kind = 2 ∧ answerOK m.ans = true)) := by
  unfold msgOK
  by_cases h : m.kind = 1
  · simp [h, and_assoc]
  · simp [h, and_assoc]
theorem fateOK_iff (f : FateC) (k : Int) : fateOK f k = true ↔ (0 ≤ f.delay ∧ f.delay ≤ 100000) ∧ (1 ≤ f.copies ∧ f.copies ≤ 8) ∧ (0 ≤ f.forge ∧ f.forge ≤ 3) ∧ (f.forge ≠ 3 ∨ k = 2) := by
  unfold fateOK
  simp only [Bool.and_eq_true, Bool.or_eq_true, decide_eq_true_eq, and_assoc]
theorem msgOK_travels {m : MsgC} {f : Int} (h : msgOK m = true) (hf : f ≠ 3 ∨ m.kind = 2) : msgOK (travelsC m f) = true := by
  rw [msgOK_ands] at h
  obtain ⟨h1, h2, h3, h4, h5⟩ := h
  unfold travelsC
  split
  · rw [msgOK_ands]
    have := tmod_range (x := m.id + 1) (k := 65536) (by omega) (by omega)
    exact ⟨⟨this.1, by show (m.id + 1).tmod 65536 ≤ 65535; omega⟩, h2, h3, h4, h5⟩
  · split
    · rw [msgOK_ands]
      have := tmod_range (x := m.frm) (k := 1000000) (by omega) (by omega)
      exact ⟨h1, ⟨by show 1 ≤ m.frm.tmod 1000000 + 1; omega, by show m.frm.tmod 1000000 + 1 ≤ 1000000; omega⟩, h3, h4, h5⟩
    · split
      · rename_i h6
        rw [msgOK_ands]
        refine ⟨h1, h2, h3, h4, .inr ⟨?_, show answerOK ⟨6, [], []⟩ = true by decide⟩⟩
        rcases hf with hf | hf
        · exact absurd h6 hf
        · exact hf
      · rw [msgOK_ands]; exact ⟨h1, h2, h3, h4, h5⟩
end Go.Proofs.YtpnoabbdcakjkaaGreatDoor
namespace Go.Proofs.YtpnoabbdcakjkaaGreatDoor
set_option linter.unusedVariables false
set_option linter.unusedSimpArgs false
open Go
/-- The labels of a name, the first one first. -/
def parts (l : Bytes) : List Bytes := if l = [46] then [] else splitDots l
def inN (s z : Bytes) : Bool := decide (parts z <:+ parts s)
def underB (s z : Bytes) : Bool := decide (s = z) || decide (z = [46]) || (decide (z.length < s.length) && decide (z <:+ s) && decide (s.getD (s.length - z.length - 1) 0 = 46))
theorem splitDots_mid (s : Bytes) : ∀ p : Bytes, splitDots (p ++ 46 :: s) = splitDots p ++ splitDots s
  | [] => by
    show splitDots (46 :: s) = [[]] ++ splitDots s
    simp [splitDots]
  | c :: p => by
    rw [List.cons_append, splitDots, splitDots_mid s p]
    by_cases h : c = 46
    · rw [if_pos h, splitDots, if_pos h]; rfl
    · rw [if_neg h, splitDots, if_neg h]
      cases hp : splitDots p with
      | nil => exact absurd hp (splitDots_ne p)
      | cons q r => rfl
/-- Labels with dots between them. -/
def joinD : List Bytes → Bytes
  | [] => []
  | [x] => x
  | x :: y :: r => x ++ 46 :: joinD (y :: r)
theorem joinD_cons {x : Bytes} {r : List Bytes} (h : r ≠ []) : joinD (x :: r) = x ++ 46 :: joinD r := by
  cases r with
  | nil => exact absurd rfl h
  | cons y r => rfl
theorem joinD_head (c : UInt8) (p : Bytes) (r : List Bytes) : joinD ((c :: p) :: r) = c :: joinD (p :: r) := by
  cases r with
  | nil => rfl
  | cons y r => rfl
theorem join_split : ∀ l : Bytes, joinD (splitDots l) = l
  | [] => rfl
  | c :: l => by
    have ih := join_split l
    rw [splitDots]
    by_cases h : c = 46
    · rw [if_pos h, joinD_cons (splitDots_ne l), ih, h]; rfl
    · rw [if_neg h]
      cases hp : splitDots l with
      | nil => exact absurd hp (splitDots_ne l)
      | cons q r =>
        rw [hp] at ih
        show joinD ((c :: q) :: r) = c :: l
        rw [joinD_head, ih]
theorem split_inj {a b : Bytes} (h : splitDots a = splitDots b) : a = b := by rw [← join_split a, ← join_split b, h]
theorem joinD_app : ∀ {t u : List Bytes}, t ≠ [] → u ≠ [] → joinD (t ++ u) = joinD t ++ 46 :: joinD u
  | [], _, h, _ => absurd rfl h
  | [x], u, _, hu => by rw [List.singleton_append, joinD_cons hu]; rfl
  | x :: y :: r, u, _, hu => by
    have e : (y :: r) ++ u ≠ [] := by simp
    rw [List.cons_append, joinD_cons e, joinD_app (List.cons_ne_nil y r) hu, joinD_cons (List.cons_ne_nil y r), List.append_assoc]
    rfl
theorem split_suffix {s z : Bytes} : splitDots z <:+ splitDots s ↔ (s = z ∨ ∃ p, s = p ++ 46 :: z) := by
  constructor
  · rintro ⟨t, ht⟩
    by_cases h : t = []
    · subst h
      exact .inl (split_inj ht.symm)
    · right
      refine ⟨joinD t, ?_⟩
      rw [← join_split s, ← ht, joinD_app h (splitDots_ne z), join_split]
  · rintro (rfl | ⟨p, rfl⟩)
    · exact List.suffix_refl _
    · rw [splitDots_mid]; exact List.suffix_append _ _
theorem mid_iff {s z : Bytes} : (z.length < s.length ∧ z <:+ s ∧ s.getD (s.length - z.length - 1) 0 = 46) ↔ ∃ p, s = p ++ 46 :: z := by
  constructor
  · rintro ⟨h1, ⟨t, rfl⟩, h3⟩
    rw [List.length_append] at h1 h3
    have ht : t ≠ [] := by
      rintro rfl
      simp at h1
    have hl : t.length + z.length - z.length - 1 = t.length - 1 := by omega
    rw [hl] at h3
    have hpos : 0 < t.length := List.length_pos_iff.2 ht
    have hg : t.getLast ht = 46 := by
      rw [List.getLast_eq_getElem]
      rw [List.getD_eq_getElem?_getD, List.getElem?_append_left (by omega), List.getElem?_eq_getElem (by omega)] at h3
      exact h3
    refine ⟨t.dropLast, ?_⟩
    have := List.dropLast_concat_getLast ht
    rw [hg] at this
    conv => lhs; rw [← this]
    simp
  · rintro ⟨p, rfl⟩
    refine ⟨by rw [List.length_append, List.length_cons]; omega, ⟨p ++ [46], by simp⟩, ?_⟩
    have hl : (p ++ 46 :: z).length - z.length - 1 = p.length := by simp; omega
    rw [hl, List.getD_eq_getElem?_getD, List.getElem?_append_right (Nat.le_refl _)]
    simp
theorem name_pos {z : Bytes} (h : nameOK z = true) : 0 < z.length := by
  cases z with
  | nil => exact absurd h (by decide)
  | cons c z => simp
theorem under_in {s z : Bytes} (hz : nameOK z = true) : underB s z = inN s z := by
  rw [Bool.eq_iff_iff]
  unfold underB inN
  simp only [Bool.or_eq_true, Bool.and_eq_true, decide_eq_true_eq, and_assoc]
  rw [mid_iff]
  unfold parts
  by_cases h2 : z = [46]
  · subst h2
    simp
  · rw [if_neg h2]
    by_cases h1 : s = [46]
    · subst h1
      rw [if_pos rfl]
      have hp := name_pos hz
      constructor
      · rintro ((h | h) | ⟨p, h⟩)
        · exact absurd h.symm h2
        · exact absurd h h2
        · have := congrArg List.length h
          simp at this
          omega
      · intro h
        exact absurd (List.suffix_nil.1 h) (splitDots_ne z)
    · rw [if_neg h1, split_suffix]
      simp [h2]
end Go.Proofs.YtpnoabbdcakjkaaGreatDoor
namespace Go.Proofs.YtpnoabbdcakjkaaGreatDoor
set_option linter.unusedVariables false
set_option linter.unusedSimpArgs false
open Go
structure KeyC where
  n : Int
  alg : Int
  deriving DecidableEq
def byteOf (n : Nat) : UInt8 := UInt8.ofNat n
/-- A number as 8 bytes, the most significant one first. -/
def num8 (n : Int) : Bytes := (List.range 8).map fun i => byteOf ((n % 18446744073709551616).toNat / 2 ^ (56 - 8 * i))
def textB (s : Bytes) : Bytes := byteOf s.length :: s
def datumB (d : Datum) : Bytes := textB d.text ++ num8 d.n ++ num8 d.m
def setB (s : SetC) : Bytes := textB s.name ++ num8 s.typ ++ num8 s.life ++ [byteOf s.data.length] ++ s.data.flatMap datumB
def digStep (d : Int) (c : UInt8) : Int := ((Nat.xor d.toNat c.toNat : Nat) : Int) * 1099511628211 % 18446744073709551616
def digest (d : Int) (l : Bytes) : Int := l.foldl digStep d
def firstDigest : Int := 14695981039346656037
theorem digest_app (d : Int) (a b : Bytes) : digest d (a ++ b) = digest (digest d a) b := List.foldl_append
def sumC (s : SetC) (zone : Bytes) (k : KeyC) (frm til : Int) : Int := digest firstDigest (setB s ++ textB zone ++ num8 k.n ++ num8 k.alg ++ num8 frm ++ num8 til)
def sKeyOK (k : KeyC) : Bool := decide (1 ≤ k.n ∧ k.n ≤ 1000000) && decide (1 ≤ k.alg ∧ k.alg ≤ 3)
def windowOK (frm til : Int) : Bool := decide (0 ≤ frm ∧ frm ≤ til ∧ til ≤ 20000000)
def sigNil : Sig := ⟨[], 0, 0, 0, 0, 0⟩
def signC (s : SetC) (zone : Bytes) (k : KeyC) (frm til : Int) : Sig × Int :=
  if !(setOK s && sKeyOK k && windowOK frm til && nameOK zone && !wild zone && inN s.name zone) then (sigNil, 1) else (⟨zone, k.n, k.alg, frm, til, sumC s zone k frm til⟩, 0)
def checkC (s : SetC) (g : Sig) (k : KeyC) : Bool := decide ((signC s g.zone k g.frm g.til).2 = 0) && decide ((signC s g.zone k g.frm g.til).1 = g)
def whenOK (at_ drift : Int) : Bool := decide (0 ≤ at_ ∧ at_ ≤ 10000000) && decide (0 ≤ drift ∧ drift ≤ 1000)
def keysOf (s : SetC) : List KeyC := s.data.map fun d => ⟨d.n, d.m⟩
def inTime (g : Sig) (zone : Bytes) (at_ drift : Int) : Bool := decide (g.zone = zone) && decide (g.frm ≤ at_ - drift) && decide (at_ + drift ≤ g.til)
def signedBy (s : SignedC) (zone : Bytes) (keys : List KeyC) (at_ drift : Int) : Bool :=
  whenOK at_ drift && s.sigs.any fun g => inTime g zone at_ drift && keys.any fun k => checkC s.set g k
def both (anchor keys : SetC) : List KeyC := (keysOf keys).filter fun k => (keysOf anchor).contains k
def matches_ (anchor : SetC) (keys : SignedC) (at_ drift : Int) : Bool :=
  setOK anchor && decide (anchor.typ = 6) && setOK keys.set && decide (keys.set.typ = 7) && decide (keys.set.name = anchor.name) && signedBy keys anchor.name (both anchor keys.set) at_ drift
def qNil : Question := ⟨[], 0⟩
def isSet (n : Bytes) (t : Int) (s : SignedC) : Bool := decide (s.set.name = n) && decide (s.set.typ = t)
def findC (known : List SignedC) (n : Bytes) (t : Int) : Option SignedC := known.find? (isSet n t)
/-- The way from a zone to the root: the zones, or why there is none. -/
def wayC (known : List SignedC) : Nat → Bytes → List Bytes → List Bytes × Question × Int
  | 0, _, way => (way, qNil, 0)
  | f + 1, n, way =>
    if n = [46] then (way, qNil, 0) else
    match findC known n 6 with
    | none => ([], ⟨n, 6⟩, 4)
    | some a =>
      match a.sigs with
      | [] => ([], qNil, 31)
      | g :: _ => if !(nameOK n && nameOK g.zone && inN n g.zone) || decide (n = g.zone) then ([], qNil, 31) else wayC known f g.zone (way ++ [g.zone])
/-- The keys at the head of a way that ends at the root; the way is read from its end. -/
def followC (known : List SignedC) (anchor : SetC) (at_ drift : Int) : List Bytes → List KeyC × Question × Int
  | [] => ([], qNil, 0)
  | z :: up =>
    match followC known anchor at_ drift up with
    | (keys, q, 0) =>
      let a : Option SetC := if z = [46] then some anchor else
        match findC known z 6, up with
        | some x, o :: _ => if signedBy x o keys at_ drift then some x.set else none
        | _, _ => none
      match a with
      | none => ([], qNil, 31)
      | some an =>
        match findC known z 7 with
        | none => ([], ⟨z, 7⟩, 4)
        | some k => if matches_ an k at_ drift then (keysOf k.set, qNil, 0) else ([], qNil, 31)
    | r => r
end Go.Proofs.YtpnoabbdcakjkaaGreatDoor
namespace Go.Proofs.YtpnoabbdcakjkaaGreatDoor
set_option linter.unusedVariables false
set_option linter.unusedSimpArgs false
open Go
structure EntryC where
  signed : SignedC
  zone : Bytes
  til : Int
  deriving DecidableEq
def starN (z : Bytes) : Bool := decide ((parts z).head? = some [42])
def inZone (s z : Bytes) : Bool := nameOK s && nameOK z && !starN z && inN s z
def sigForm (apex : Bytes) (h g : Sig) : Bool := decide (g.zone = apex) && decide (1 ≤ g.key ∧ g.key ≤ 1000000) && decide (1 ≤ g.alg ∧ g.alg ≤ 3) && decide (g.frm = h.frm) && decide (g.til = h.til) && decide (0 ≤ g.frm ∧ g.frm ≤ g.til ∧ g.til ≤ 20000000)
def keyLt (a b : Sig) : Bool := decide (a.key < b.key)
def sigsForm (l : List Sig) (apex : Bytes) : Bool := decide (l.length ≤ 6) && l.all (fun g => sigForm apex (l.headD g) g) && chain keyLt l
def keyC (e : EntryC) : Bytes × Int × Bytes := (e.signed.set.name, e.signed.set.typ, e.zone)
def alikeC (a b : EntryC) : Bool := decide (keyC a = keyC b)
def denial (e : EntryC) : Bool := decide (e.signed.set.data = [])
def entryOK (e : EntryC) : Bool := inZone e.signed.set.name e.zone && decide (1 ≤ e.til ∧ e.til ≤ 20100001) &&
  (if denial e then decide (1 ≤ e.signed.set.typ ∧ e.signed.set.typ ≤ 8) && decide (0 ≤ e.signed.set.life ∧ e.signed.set.life ≤ 100000) && decide (e.signed.sigs = []) else setOK e.signed.set && sigsForm e.signed.sigs e.zone)
def cacheOK (l : List EntryC) : Bool := decide (l.length ≤ 400) && l.all entryOK && decide ((l.map keyC).Nodup)
def isT (t : Int) : Bool := decide (0 ≤ t ∧ t ≤ 20000000)
def freshC (l : List EntryC) (now : Int) : List EntryC := l.filter fun e => decide (now < e.til)
/-- A cache after an entry was learned. -/
def learnC (l : List EntryC) (e : EntryC) (now : Int) : List EntryC × Int :=
  if e.til ≤ now then ((freshC l now).filter fun o => !alikeC o e, 0) else
  if (freshC l now).any (fun o => alikeC o e) then ((freshC l now).map fun o => if alikeC o e then e else o, 0) else
  if 400 ≤ (freshC l now).length then ([], 41) else (freshC l now ++ [e], 0)
def minI (a b : Int) : Int := if b < a then b else a
def maxI (a b : Int) : Int := if b > a then b else a
def untilC (s : SignedC) (now : Int) : Int :=
  match s.sigs with
  | [] => now + maxI s.set.life 1
  | g :: _ => minI (now + maxI s.set.life 1) (g.til + 1)
def putC (l : List EntryC) (s : SignedC) (zone : Bytes) (now : Int) : List EntryC × Int :=
  if !(cacheOK l && setOK s.set && inZone s.set.name zone && isT now) then ([], 1) else
  if !sigsForm s.sigs zone then ([], 30) else learnC l ⟨s, zone, untilC s now⟩ now
def entryNil : EntryC := ⟨⟨⟨[], 0, 0, []⟩, []⟩, [], 0⟩
def asks (q : Question) (now : Int) (e : EntryC) : Bool := decide (now < e.til) && decide (e.signed.set.name = q.name) && decide (e.signed.set.typ = q.typ)
def getC (l : List EntryC) (q : Question) (now : Int) : EntryC × Bool × Int :=
  if !(cacheOK l && questionOK q && isT now) then (entryNil, false, 1) else
  match l.find? (asks q now) with
  | some e => (e, true, 0)
  | none => (entryNil, false, 0)
end Go.Proofs.YtpnoabbdcakjkaaGreatDoor
namespace Go.Proofs.YtpnoabbdcakjkaaGreatDoor
set_option linter.unusedVariables false
set_option linter.unusedSimpArgs false
open Go
end Go.Proofs.YtpnoabbdcakjkaaGreatDoor
namespace Go.Proofs.YtpnoabbdcakjkaaGreatDoor
set_option linter.unusedVariables false
set_option linter.unusedSimpArgs false
open Go
end Go.Proofs.YtpnoabbdcakjkaaGreatDoor
namespace Go.Proofs.YtpnoabbdcakjkaaGreatDoor
set_option linter.unusedVariables false
set_option linter.unusedSimpArgs false
open Go
end Go.Proofs.YtpnoabbdcakjkaaGreatDoor
namespace Go.Proofs.YtpnoabbdcakjkaaGreatDoor
set_option linter.unusedVariables false
set_option linter.unusedSimpArgs false
open Go
structure FwdC where
  q : Question
  own : Int
  ups : List Int
  at_ : Int
  tried : Int
  til : Int
  id : Int
  done : Bool
  dark : Bool
  ans : AnswerC
  deriving DecidableEq
def ansNil : AnswerC := ⟨0, [], []⟩
def msgNil : MsgC := ⟨0, 0, 0, 0, ⟨[], 0⟩, ansNil⟩
def fwdNil : FwdC := ⟨⟨[], 0⟩, 0, [], 0, 0, 0, 0, false, false, ansNil⟩
def upsOK (own : Int) (l : List Int) : Bool := decide (1 ≤ l.length ∧ l.length ≤ 8) && l.all (fun a => decide (1 ≤ a ∧ a ≤ 1000000) && decide (a ≠ own)) && nodupI l
def fwdOK (f : FwdC) : Bool :=
  questionOK f.q && decide (1 ≤ f.own ∧ f.own ≤ 1000000) && upsOK f.own f.ups && decide (0 ≤ f.at_ ∧ f.at_ < f.ups.length) && decide (0 ≤ f.tried ∧ f.tried ≤ 8) && decide (0 ≤ f.til ∧ f.til ≤ 10000005) && decide (0 ≤ f.id ∧ f.id ≤ 65535) &&
  !(f.done && f.dark) && (f.dark == decide (f.tried = 8)) && (if f.done then answerOK f.ans && decide (f.ans.kind ≠ 7) else decide (f.ans = ansNil))
theorem fwdOK_iff (f : FwdC) : fwdOK f = true ↔ questionOK f.q = true ∧ (1 ≤ f.own ∧ f.own ≤ 1000000) ∧ upsOK f.own f.ups = true ∧ (0 ≤ f.at_ ∧ f.at_ < f.ups.length) ∧ (0 ≤ f.tried ∧ f.tried ≤ 8) ∧ (0 ≤ f.til ∧ f.til ≤ 10000005) ∧ (0 ≤ f.id ∧ f.id ≤ 65535) ∧ ¬ (f.done = true ∧ f.dark = true) ∧ (f.dark = true ↔ f.tried = 8) ∧ (if f.done = true then answerOK f.ans = true ∧ f.ans.kind ≠ 7 else f.ans = ansNil) := by
  unfold fwdOK
  have e : (f.dark == decide (f.tried = 8)) = true ↔ (f.dark = true ↔ f.tried = 8) := by
    cases f.dark <;> simp
  have e2 : (if f.done = true then answerOK f.ans && decide (f.ans.kind ≠ 7) else decide (f.ans = ansNil)) = true ↔ (if f.done = true then answerOK f.ans = true ∧ f.ans.kind ≠ 7 else f.ans = ansNil) := by
    split <;> simp
  simp only [Bool.and_eq_true, decide_eq_true_eq, Bool.not_eq_true', e, e2, and_assoc]
  have e3 : (f.done && f.dark) = false ↔ ¬ (f.done = true ∧ f.dark = true) := by
    cases f.done <;> cases f.dark <;> simp
  simp only [e3]
theorem upsOK_iff (own : Int) (l : List Int) : upsOK own l = true ↔ (1 ≤ l.length ∧ l.length ≤ 8) ∧ (∀ a ∈ l, (1 ≤ a ∧ a ≤ 1000000) ∧ a ≠ own) ∧ l.Nodup := by
  unfold upsOK
  simp only [Bool.and_eq_true, decide_eq_true_eq, List.all_eq_true, nodupI_iff, and_assoc]
def upAt (f : FwdC) : Int := f.ups.getD f.at_.toNat 0
def queryOf (f : FwdC) : MsgC := ⟨1, f.id, f.own, upAt f, f.q, ansNil⟩
def startC (q : Question) (own : Int) (ups : List Int) (id now : Int) : FwdC := ⟨q, own, ups, 0, 0, now + 5, id, false, false, ansNil⟩
def isNow (now : Int) : Bool := decide (0 ≤ now ∧ now ≤ 10000000)
def beginC (q : Question) (own : Int) (ups : List Int) (id now : Int) : FwdC × MsgC × Int :=
  if !(isNow now && fwdOK (startC q own ups id now)) then (fwdNil, msgNil, 1) else (startC q own ups id now, queryOf (startC q own ups id now), 0)
def waitsC (f : FwdC) (now : Int) : Bool := !f.done && !f.dark && decide (now < f.til)
def takeC (f : FwdC) (m : MsgC) (now : Int) : FwdC × Bool × Int :=
  if !(fwdOK f && msgOK m && isNow now) then (fwdNil, false, 1) else
  if !(waitsC f now && matchOK (queryOf f) m) then (f, false, 0) else
  if m.ans.kind = 7 then ({ f with til := now }, true, 0) else ({ f with done := true, ans := m.ans }, true, 0)
end Go.Proofs.YtpnoabbdcakjkaaGreatDoor
namespace Go.Proofs.YtpnoabbdcakjkaaGreatDoor
set_option linter.unusedVariables false
set_option linter.unusedSimpArgs false
open Go
end Go.Proofs.YtpnoabbdcakjkaaGreatDoor
