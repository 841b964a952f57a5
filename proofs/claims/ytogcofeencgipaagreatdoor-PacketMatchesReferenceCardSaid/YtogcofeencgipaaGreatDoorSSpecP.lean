/- Plain laws: messages as bytes. -/
import Derived.Test.YtogcofeencgipaaGreatDoorSSpecT
import Derived.Test.YtogcofeencgipaaGreatDoorSTA
import Derived.Test.YtogcofeencgipaaGreatDoorSTC
namespace Go.Proofs.YtogcofeencgipaaGreatDoor
set_option linter.unusedVariables false
set_option linter.unusedSimpArgs false
open Go
open Enc (enc)
set_option maxRecDepth 20000
/-- A way to write a value as bytes, and to read it from the beginning of bytes. -/
structure Cod (α : Type) where
  enc : α → Bytes
  rd : Bytes → Option (α × Bytes)
  ok : α → Prop
  back : ∀ x r, ok x → rd (enc x ++ r) = some (x, r)
  forth : ∀ b x r, rd b = some (x, r) → b = enc x ++ r
  more : ∀ b x r y, rd b = some (x, r) → rd (b ++ y) = some (x, r ++ y)
def wordOf (l : Bytes) : Nat := l.foldl (fun n c => n * 256 + c.toNat) 0
def takeR (n : Nat) (b : Bytes) : Option (Bytes × Bytes) := if n ≤ b.length then some (b.take n, b.drop n) else none
theorem takeR_some {n : Nat} {b x r : Bytes} : takeR n b = some (x, r) ↔ x.length = n ∧ b = x ++ r := by
  unfold takeR
  constructor
  · intro h
    split at h
    · rename_i hn
      injection h with h
      injection h with h1 h2
      subst h1 h2
      exact ⟨by rw [List.length_take, Nat.min_eq_left hn], (List.take_append_drop n b).symm⟩
    · cases h
  · rintro ⟨h1, rfl⟩
    rw [if_pos (by rw [List.length_append]; omega), List.take_left' h1, List.drop_left' h1]
theorem takeR_none {n : Nat} {b : Bytes} : takeR n b = none ↔ b.length < n := by
  unfold takeR
  split <;> simp <;> omega
def wordsOf (n : Nat) : Bytes := (List.range 8).map fun i => byteOf (n / 2 ^ (56 - 8 * i))
theorem num8_words (i : Int) : num8 i = wordsOf (i % 18446744073709551616).toNat := rfl
theorem byteOf_nat (n : Nat) : (byteOf n).toNat = n % 256 := by
  unfold byteOf
  rw [UInt8.toNat_ofNat']
theorem wordOf_words (n : Nat) (h : n < 18446744073709551616) : wordOf (wordsOf n) = n := by
  unfold wordsOf wordOf
  simp only [List.range, List.range.loop, List.map_cons, List.map_nil, List.foldl_cons, List.foldl_nil, byteOf_nat]
  simp only [Nat.reduceMul, Nat.reduceSub, Nat.reducePow]
  omega
theorem words_wordOf {l : Bytes} (h : l.length = 8) : wordsOf (wordOf l) = l ∧ wordOf l < 18446744073709551616 := by
  match l, h with
  | [a, b, c, d, e, f, g, i], _ =>
    have ha := a.toNat_lt; have hb := b.toNat_lt; have hc := c.toNat_lt; have hd := d.toNat_lt
    have he := e.toNat_lt; have hf := f.toNat_lt; have hg := g.toNat_lt; have hi := i.toNat_lt
    have key : ∀ (n : Nat) (x : UInt8), n % 256 = x.toNat → byteOf n = x := fun n x hx => by
      apply UInt8.toNat_inj.1
      rw [byteOf_nat, hx]
    unfold wordsOf wordOf
    simp only [List.range, List.range.loop, List.map_cons, List.map_nil, List.foldl_cons, List.foldl_nil]
    simp only [Nat.reduceMul, Nat.reduceSub, Nat.reducePow]
    refine ⟨?_, by omega⟩
    congr 1
    · apply key; omega
    congr 1
    · apply key; omega
    congr 1
    · apply key; omega
    congr 1
    · apply key; omega
    congr 1
    · apply key; omega
    congr 1
    · apply key; omega
    congr 1
    · apply key; omega
    congr 1
    · apply key; omega
/-- 8 bytes as a number that is not negative. -/
def wordCod : Cod Nat where
  enc := wordsOf
  rd b := (takeR 8 b).map fun p => (wordOf p.1, p.2)
  ok n := n < 18446744073709551616
  back x r h := by
    rw [takeR_some.2 ⟨by simp [wordsOf], rfl⟩]
    simp [wordOf_words x h]
  forth b x r h := by
    cases ht : takeR 8 b with
    | none => rw [ht] at h; cases h
    | some p =>
      rw [ht] at h
      obtain ⟨y, s⟩ := p
      obtain ⟨h1, h2⟩ := takeR_some.1 ht
      simp only [Option.map_some, Option.some.injEq, Prod.mk.injEq] at h
      obtain ⟨rfl, rfl⟩ := h
      rw [(words_wordOf h1).1, h2]
  more b x r y h := by
    cases ht : takeR 8 b with
    | none => rw [ht] at h; cases h
    | some p =>
      rw [ht] at h
      obtain ⟨z, s⟩ := p
      obtain ⟨h1, rfl⟩ := takeR_some.1 ht
      simp only [Option.map_some, Option.some.injEq, Prod.mk.injEq] at h
      obtain ⟨rfl, rfl⟩ := h
      rw [takeR_some.2 ⟨h1, List.append_assoc z s y⟩]
      rfl
def intOf (n : Nat) : Int := if n < 9223372036854775808 then n else (n : Int) - 18446744073709551616
namespace Cod
variable {α β : Type}
/-- The same bytes for another type. -/
def iso (c : Cod α) (f : α → β) (g : β → α) (ok : β → Prop) (hok : ∀ b, ok b → c.ok (g b) ∧ f (g b) = b) (hgf : ∀ b x r, c.rd b = some (x, r) → c.enc (g (f x)) = c.enc x) : Cod β where
  enc b := c.enc (g b)
  rd b := (c.rd b).map fun p => (f p.1, p.2)
  ok := ok
  back x r h := by rw [c.back _ r (hok x h).1]; simp [(hok x h).2]
  forth b x r h := by
    cases ht : c.rd b with
    | none => rw [ht] at h; cases h
    | some p =>
      rw [ht] at h
      obtain ⟨y, s⟩ := p
      simp only [Option.map_some, Option.some.injEq, Prod.mk.injEq] at h
      obtain ⟨rfl, rfl⟩ := h
      rw [hgf b y s ht]
      exact c.forth b y s ht
  more b x r y h := by
    cases ht : c.rd b with
    | none => rw [ht] at h; cases h
    | some p =>
      rw [ht] at h
      obtain ⟨z, s⟩ := p
      simp only [Option.map_some, Option.some.injEq, Prod.mk.injEq] at h
      obtain ⟨rfl, rfl⟩ := h
      rw [c.more b z s y ht]
      rfl
/-- One behind the other. -/
def seq (c : Cod α) (d : Cod β) : Cod (α × β) where
  enc p := c.enc p.1 ++ d.enc p.2
  rd b := (c.rd b).bind fun p => (d.rd p.2).map fun q => ((p.1, q.1), q.2)
  ok p := c.ok p.1 ∧ d.ok p.2
  back p r h := by
    rw [List.append_assoc, c.back _ _ h.1]
    simp [d.back _ r h.2]
  forth b p r h := by
    cases ht : c.rd b with
    | none => rw [ht] at h; cases h
    | some q =>
      rw [ht] at h
      obtain ⟨y, s⟩ := q
      simp only [Option.bind_some] at h
      cases hd : d.rd s with
      | none => rw [hd] at h; cases h
      | some q =>
        rw [hd] at h
        obtain ⟨z, s2⟩ := q
        simp only [Option.map_some, Option.some.injEq, Prod.mk.injEq] at h
        obtain ⟨rfl, rfl⟩ := h
        rw [List.append_assoc, ← d.forth s z s2 hd]
        exact c.forth b y s ht
  more b p r y h := by
    cases ht : c.rd b with
    | none => rw [ht] at h; cases h
    | some q =>
      rw [ht] at h
      obtain ⟨x, s⟩ := q
      simp only [Option.bind_some] at h
      cases hd : d.rd s with
      | none => rw [hd] at h; cases h
      | some q =>
        rw [hd] at h
        obtain ⟨z, s2⟩ := q
        simp only [Option.map_some, Option.some.injEq, Prod.mk.injEq] at h
        obtain ⟨rfl, rfl⟩ := h
        rw [c.more b x s y ht]
        simp only [Option.bind_some]
        rw [d.more s z s2 y hd]
        rfl
def rdN (c : Cod α) : Nat → Bytes → Option (List α × Bytes)
  | 0, b => some ([], b)
  | n + 1, b => (c.rd b).bind fun p => (rdN c n p.2).map fun q => (p.1 :: q.1, q.2)
theorem rdN_back (c : Cod α) : ∀ (l : List α) (r : Bytes), (∀ x ∈ l, c.ok x) → c.rdN l.length (l.flatMap c.enc ++ r) = some (l, r)
  | [], r, _ => rfl
  | x :: l, r, h => by
    show (c.rd _).bind _ = _
    rw [List.flatMap_cons, List.append_assoc, c.back _ _ (h x (List.mem_cons_self ..))]
    simp [rdN_back c l r fun y hy => h y (List.mem_cons_of_mem _ hy)]
theorem rdN_forth (c : Cod α) : ∀ (n : Nat) (b : Bytes) (l : List α) (r : Bytes), c.rdN n b = some (l, r) → l.length = n ∧ b = l.flatMap c.enc ++ r
  | 0, b, l, r, h => by
    injection h with h
    injection h with h1 h2
    subst h1 h2
    exact ⟨rfl, rfl⟩
  | n + 1, b, l, r, h => by
    have h : (c.rd b).bind (fun p => (rdN c n p.2).map fun q => (p.1 :: q.1, q.2)) = some (l, r) := h
    cases ht : c.rd b with
    | none => rw [ht] at h; cases h
    | some q =>
      rw [ht] at h
      obtain ⟨y, s⟩ := q
      simp only [Option.bind_some] at h
      cases hd : c.rdN n s with
      | none => rw [hd] at h; cases h
      | some q =>
        rw [hd] at h
        obtain ⟨z, s2⟩ := q
        simp only [Option.map_some, Option.some.injEq, Prod.mk.injEq] at h
        obtain ⟨rfl, rfl⟩ := h
        obtain ⟨h1, h2⟩ := rdN_forth c n s z s2 hd
        refine ⟨by rw [List.length_cons, h1], ?_⟩
        rw [List.flatMap_cons, List.append_assoc, ← h2]
        exact c.forth b y s ht
theorem rdN_more (c : Cod α) : ∀ (n : Nat) (b : Bytes) (l : List α) (r y : Bytes), c.rdN n b = some (l, r) → c.rdN n (b ++ y) = some (l, r ++ y)
  | 0, b, l, r, y, h => by
    injection h with h
    injection h with h1 h2
    subst h1 h2
    rfl
  | n + 1, b, l, r, y, h => by
    have h : (c.rd b).bind (fun p => (rdN c n p.2).map fun q => (p.1 :: q.1, q.2)) = some (l, r) := h
    show (c.rd (b ++ y)).bind (fun p => (rdN c n p.2).map fun q => (p.1 :: q.1, q.2)) = _
    cases ht : c.rd b with
    | none => rw [ht] at h; cases h
    | some q =>
      rw [ht] at h
      obtain ⟨x, s⟩ := q
      simp only [Option.bind_some] at h
      cases hd : c.rdN n s with
      | none => rw [hd] at h; cases h
      | some q =>
        rw [hd] at h
        obtain ⟨z, s2⟩ := q
        simp only [Option.map_some, Option.some.injEq, Prod.mk.injEq] at h
        obtain ⟨rfl, rfl⟩ := h
        rw [c.more b x s y ht]
        simp only [Option.bind_some]
        rw [rdN_more c n s z s2 y hd]
        rfl
end Cod
/-- A number of one byte, and what it says. -/
def countR {α : Type} (f : Nat → Bytes → Option (α × Bytes)) (b : Bytes) : Option (α × Bytes) :=
  match b with
  | [] => none
  | c :: r => f c.toNat r
theorem byteOf_toNat (c : UInt8) : byteOf c.toNat = c := by
  apply UInt8.toNat_inj.1
  rw [byteOf_nat]
  exact Nat.mod_eq_of_lt c.toNat_lt
theorem byteOf_small {n : Nat} (h : n ≤ 255) : (byteOf n).toNat = n := by rw [byteOf_nat]; omega
/-- A list, with its length in one byte. -/
def Cod.many {α : Type} (c : Cod α) : Cod (List α) where
  enc l := byteOf l.length :: l.flatMap c.enc
  rd := countR c.rdN
  ok l := l.length ≤ 255 ∧ ∀ x ∈ l, c.ok x
  back l r h := by
    show c.rdN (byteOf l.length).toNat _ = _
    rw [byteOf_small h.1]
    exact c.rdN_back l r h.2
  forth b l r h := by
    cases b with
    | nil => cases h
    | cons x b =>
      obtain ⟨h1, h2⟩ := c.rdN_forth _ _ _ _ (show c.rdN x.toNat b = some (l, r) from h)
      rw [h2, h1, byteOf_toNat]; rfl
  more b l r y h := by
    cases b with
    | nil => cases h
    | cons x b => exact c.rdN_more _ _ _ _ y (show c.rdN x.toNat b = some (l, r) from h)
/-- A text, with its length in one byte. -/
def textCod : Cod Bytes where
  enc := textB
  rd := countR takeR
  ok s := s.length ≤ 255
  back s r h := by
    show takeR (byteOf s.length).toNat (s ++ r) = _
    rw [byteOf_small h]
    exact takeR_some.2 ⟨rfl, rfl⟩
  forth b s r h := by
    cases b with
    | nil => cases h
    | cons x b =>
      obtain ⟨h1, h2⟩ := takeR_some.1 (show takeR x.toNat b = some (s, r) from h)
      unfold textB
      rw [h1, byteOf_toNat, h2]; rfl
  more b s r y h := by
    cases b with
    | nil => cases h
    | cons x b =>
      obtain ⟨h1, h2⟩ := takeR_some.1 (show takeR x.toNat b = some (s, r) from h)
      exact takeR_some.2 ⟨h1, by rw [h2]; exact List.append_assoc s r y⟩
abbrev InI64 (i : Int) : Prop := -9223372036854775808 ≤ i ∧ i ≤ 9223372036854775807
theorem intOf_mod {i : Int} (h : InI64 i) : intOf (i % 18446744073709551616).toNat = i := by
  unfold intOf
  split <;> omega
theorem mod_intOf {n : Nat} (h : n < 18446744073709551616) : (intOf n % 18446744073709551616).toNat = n := by
  unfold intOf
  split <;> omega
theorem word_lt {b : Bytes} {x : Nat} {r : Bytes} (h : wordCod.rd b = some (x, r)) : x < 18446744073709551616 := by
  have h : (takeR 8 b).map (fun p => (wordOf p.1, p.2)) = some (x, r) := h
  cases ht : takeR 8 b with
  | none => rw [ht] at h; cases h
  | some p =>
    rw [ht] at h
    obtain ⟨z, s⟩ := p
    simp only [Option.map_some, Option.some.injEq, Prod.mk.injEq] at h
    rw [← h.1]
    exact (words_wordOf (takeR_some.1 ht).1).2
/-- An int as 8 bytes. -/
def numCod : Cod Int := wordCod.iso intOf (fun i => (i % 18446744073709551616).toNat) InI64 (fun i h => ⟨by show _ < _; omega, intOf_mod h⟩) (fun b x r h => by rw [mod_intOf (word_lt h)])
theorem num_enc (i : Int) : numCod.enc i = num8 i := rfl
/-- A uint64 as 8 bytes. -/
def sumCod : Cod Int := wordCod.iso (fun n => (n : Int)) (fun i => (i % 18446744073709551616).toNat) (fun i => 0 ≤ i ∧ i < 18446744073709551616) (fun i h => ⟨by show _ < _; omega, by show (((i % 18446744073709551616).toNat : Nat) : Int) = i; omega⟩) (fun b x r h => by
  have := word_lt h
  show wordsOf (((x : Nat) : Int) % 18446744073709551616).toNat = wordsOf x
  rw [show (((x : Nat) : Int) % 18446744073709551616).toNat = x by omega])
def datumCod : Cod Datum := (textCod.seq (numCod.seq numCod)).iso (fun p => ⟨p.1, p.2.1, p.2.2⟩) (fun d => (d.text, d.n, d.m)) (fun d => d.text.length ≤ 255 ∧ InI64 d.n ∧ InI64 d.m) (fun d h => ⟨h, rfl⟩) (fun b x r h => rfl)
theorem datum_enc (d : Datum) : datumCod.enc d = datumB d := by
  show textB d.text ++ (num8 d.n ++ num8 d.m) = _
  unfold datumB
  rw [List.append_assoc]
def setCod : Cod SetC := (textCod.seq (numCod.seq (numCod.seq datumCod.many))).iso (fun p => ⟨p.1, p.2.1, p.2.2.1, p.2.2.2⟩) (fun s => (s.name, s.typ, s.life, s.data)) (fun s => s.name.length ≤ 255 ∧ InI64 s.typ ∧ InI64 s.life ∧ s.data.length ≤ 255 ∧ ∀ d ∈ s.data, d.text.length ≤ 255 ∧ InI64 d.n ∧ InI64 d.m) (fun s h => ⟨h, rfl⟩) (fun b x r h => rfl)
theorem set_enc (s : SetC) : setCod.enc s = setB s := by
  show textB s.name ++ (num8 s.typ ++ (num8 s.life ++ (byteOf s.data.length :: s.data.flatMap datumCod.enc))) = _
  unfold setB
  rw [show datumCod.enc = datumB from funext datum_enc]
  simp
/-- Numbers of valid data are small. -/
theorem rule_small (t : Nat) : 0 ≤ (ruleOf t).leastN ∧ (ruleOf t).mostN ≤ 1000000 ∧ 0 ≤ (ruleOf t).leastM ∧ (ruleOf t).mostM ≤ 1000000 := by
  unfold ruleOf
  have key : ∀ r ∈ rules, 0 ≤ r.leastN ∧ r.mostN ≤ 1000000 ∧ 0 ≤ r.leastM ∧ r.mostM ≤ 1000000 := by decide
  rw [List.getD_eq_getElem?_getD]
  cases h : rules[t]? with
  | none => decide
  | some r => exact key r (List.mem_of_getElem? h)
theorem datumOK_ints {t : Int} {d : Datum} (h : datumOK t d = true) : InI64 d.n ∧ InI64 d.m := by
  unfold datumOK datumBy at h
  simp only [Bool.and_eq_true, decide_eq_true_eq] at h
  obtain ⟨_, ⟨⟨h1, h2⟩, _⟩, _⟩ := h
  have := rule_small t.toNat
  omega
theorem setOK_cod {s : SetC} (h : setOK s = true) : setCod.ok s := by
  have hs := setOK_short h
  unfold setOK at h
  simp only [Bool.and_eq_true, List.all_eq_true, decide_eq_true_eq] at h
  obtain ⟨⟨⟨⟨⟨⟨⟨h1, h3⟩, h4⟩, h5, h8⟩, _⟩, _⟩, h2⟩, _⟩ := h
  refine ⟨by have := hs.name; omega, by omega, by omega, by have := hs.data; omega, fun d hd => ⟨by have := hs.texts d hd; omega, datumOK_ints (h2 d hd)⟩⟩
/-- The set with just these bytes. -/
def readSet (b : Bytes) : Option SetC :=
  match setCod.rd b with
  | some (s, []) => if setOK s then some s else none
  | _ => none
theorem readSet_some {b : Bytes} {s : SetC} : readSet b = some s ↔ b = setB s ∧ setOK s = true := by
  unfold readSet
  constructor
  · intro h
    split at h
    · rename_i s' hr
      split at h
      · rename_i ho
        injection h with h
        subst h
        have := setCod.forth _ _ _ hr
        rw [List.append_nil, set_enc] at this
        exact ⟨this, ho⟩
      · cases h
    · cases h
  · rintro ⟨rfl, ho⟩
    have := setCod.back s [] (setOK_cod ho)
    rw [List.append_nil, set_enc] at this
    rw [this]
    simp [ho]
def sigCod : Cod Sig := (textCod.seq (numCod.seq (numCod.seq (numCod.seq (numCod.seq sumCod))))).iso (fun p => ⟨p.1, p.2.1, p.2.2.1, p.2.2.2.1, p.2.2.2.2.1, p.2.2.2.2.2⟩) (fun g => (g.zone, g.key, g.alg, g.frm, g.til, g.sum)) (fun g => g.zone.length ≤ 255 ∧ InI64 g.key ∧ InI64 g.alg ∧ InI64 g.frm ∧ InI64 g.til ∧ 0 ≤ g.sum ∧ g.sum < 18446744073709551616) (fun g h => ⟨h, rfl⟩) (fun b x r h => rfl)
def sigB (g : Sig) : Bytes := textB g.zone ++ num8 g.key ++ num8 g.alg ++ num8 g.frm ++ num8 g.til ++ num8 g.sum
theorem sig_enc (g : Sig) : sigCod.enc g = sigB g := by
  show textB g.zone ++ (num8 g.key ++ (num8 g.alg ++ (num8 g.frm ++ (num8 g.til ++ num8 g.sum)))) = _
  unfold sigB
  simp only [List.append_assoc]
/-- A set behind its length. -/
def blockR (b : Bytes) : Option (SetC × Bytes) :=
  (numCod.rd b).bind fun p => if p.1 < 0 then none else (takeR p.1.toNat p.2).bind fun q => (readSet q.1).map fun s => (s, q.2)
theorem blockR_some {b : Bytes} {s : SetC} {r : Bytes} : blockR b = some (s, r) ↔ ∃ n x t, numCod.rd b = some (n, t) ∧ 0 ≤ n ∧ takeR n.toNat t = some (x, r) ∧ readSet x = some s := by
  unfold blockR
  constructor
  · intro h
    cases h1 : numCod.rd b with
    | none => rw [h1] at h; cases h
    | some p =>
      rw [h1] at h
      obtain ⟨n, t⟩ := p
      simp only [Option.bind_some] at h
      by_cases hn : n < 0
      · rw [if_pos hn] at h; cases h
      · rw [if_neg hn] at h
        cases h2 : takeR n.toNat t with
        | none => rw [h2] at h; cases h
        | some q =>
          rw [h2] at h
          obtain ⟨x, u⟩ := q
          simp only [Option.bind_some] at h
          cases h3 : readSet x with
          | none => rw [h3] at h; cases h
          | some s' =>
            rw [h3] at h
            simp only [Option.map_some, Option.some.injEq, Prod.mk.injEq] at h
            obtain ⟨rfl, rfl⟩ := h
            exact ⟨n, x, t, rfl, by omega, h2, h3⟩
  · rintro ⟨n, x, t, h1, h2, h3, h4⟩
    rw [h1]
    simp only [Option.bind_some]
    rw [if_neg (by omega), h3]
    simp only [Option.bind_some, h4, Option.map_some]
def blockCod : Cod SetC where
  enc s := num8 ((setB s).length : Int) ++ setB s
  rd := blockR
  ok s := setOK s = true
  back s r h := by
    have hl := setB_len (setOK_short h)
    refine blockR_some.2 ⟨((setB s).length : Int), setB s, setB s ++ r, ?_, Int.natCast_nonneg _, ?_, readSet_some.2 ⟨rfl, h⟩⟩
    · rw [List.append_assoc]
      exact numCod.back _ _ (show InI64 _ by omega)
    · exact takeR_some.2 ⟨by omega, rfl⟩
  forth b s r h := by
    obtain ⟨n, x, t, h1, h2, h3, h4⟩ := blockR_some.1 h
    obtain ⟨h5, rfl⟩ := takeR_some.1 h3
    obtain ⟨rfl, _⟩ := readSet_some.1 h4
    have := numCod.forth _ _ _ h1
    rw [this, num_enc, List.append_assoc, h5, show ((n.toNat : Nat) : Int) = n by omega]
  more b s r y h := by
    obtain ⟨n, x, t, h1, h2, h3, h4⟩ := blockR_some.1 h
    obtain ⟨h5, rfl⟩ := takeR_some.1 h3
    refine blockR_some.2 ⟨n, x, x ++ r ++ y, numCod.more _ _ _ y h1, h2, takeR_some.2 ⟨h5, List.append_assoc ..⟩, h4⟩
def signedB (s : SignedC) : Bytes := num8 ((setB s.set).length : Int) ++ setB s.set ++ [byteOf s.sigs.length] ++ s.sigs.flatMap sigB
def signedCod : Cod SignedC := (blockCod.seq sigCod.many).iso (fun p => ⟨p.1, p.2⟩) (fun s => (s.set, s.sigs)) (fun s => setOK s.set = true ∧ s.sigs.length ≤ 255 ∧ ∀ g ∈ s.sigs, sigCod.ok g) (fun s h => ⟨h, rfl⟩) (fun b x r h => rfl)
theorem signed_enc (s : SignedC) : signedCod.enc s = signedB s := by
  show (num8 ((setB s.set).length : Int) ++ setB s.set) ++ (byteOf s.sigs.length :: s.sigs.flatMap sigCod.enc) = _
  unfold signedB
  rw [show sigCod.enc = sigB from funext sig_enc]
  simp
def msgB (m : MsgC) : Bytes := num8 m.kind ++ num8 m.id ++ num8 m.frm ++ num8 m.to ++ textB m.q.name ++ num8 m.q.typ ++ num8 m.ans.kind ++ textB m.ans.cut ++ [byteOf m.ans.sets.length] ++ m.ans.sets.flatMap signedB
def four : Cod (Int × Int × Int × Int) := numCod.seq (numCod.seq (numCod.seq numCod))
def msgCod : Cod MsgC := (four.seq (textCod.seq ((numCod.seq numCod).seq (textCod.seq signedCod.many)))).iso
  (fun p => ⟨p.1.1, p.1.2.1, p.1.2.2.1, p.1.2.2.2, ⟨p.2.1, p.2.2.1.1⟩, ⟨p.2.2.1.2, p.2.2.2.2, p.2.2.2.1⟩⟩)
  (fun m => ((m.kind, m.id, m.frm, m.to), m.q.name, (m.q.typ, m.ans.kind), m.ans.cut, m.ans.sets))
  (fun m => (InI64 m.kind ∧ InI64 m.id ∧ InI64 m.frm ∧ InI64 m.to) ∧ m.q.name.length ≤ 255 ∧ (InI64 m.q.typ ∧ InI64 m.ans.kind) ∧ m.ans.cut.length ≤ 255 ∧ m.ans.sets.length ≤ 255 ∧ ∀ s ∈ m.ans.sets, signedCod.ok s) (fun m h => ⟨h, rfl⟩) (fun b x r h => rfl)
theorem msg_enc (m : MsgC) : msgCod.enc m = msgB m := by
  show (num8 m.kind ++ (num8 m.id ++ (num8 m.frm ++ num8 m.to))) ++ (textB m.q.name ++ ((num8 m.q.typ ++ num8 m.ans.kind) ++ (textB m.ans.cut ++ (byteOf m.ans.sets.length :: m.ans.sets.flatMap signedCod.enc)))) = _
  unfold msgB
  rw [show signedCod.enc = signedB from funext signed_enc]
  simp
def SumsOK (m : MsgC) : Prop := ∀ s ∈ m.ans.sets, ∀ g ∈ s.sigs, 0 ≤ g.sum ∧ g.sum < 18446744073709551616
theorem sigOK_cod {g : Sig} (h : sigOK g = true) (hs : 0 ≤ g.sum ∧ g.sum < 18446744073709551616) : sigCod.ok g := by
  unfold sigOK at h
  simp only [Bool.and_eq_true, decide_eq_true_eq] at h
  obtain ⟨⟨⟨h1, h2⟩, h3⟩, h4⟩ := h
  have := nameOK_le h1
  exact ⟨by omega, by omega, by omega, by omega, by omega, hs⟩
theorem signedOK_cod {s : SignedC} (h : signedOK s = true) (hs : ∀ g ∈ s.sigs, 0 ≤ g.sum ∧ g.sum < 18446744073709551616) : signedCod.ok s := by
  unfold signedOK at h
  simp only [Bool.and_eq_true, decide_eq_true_eq, List.all_eq_true] at h
  exact ⟨h.1.2, by omega, fun g hg => sigOK_cod (h.2 g hg) (hs g hg)⟩
theorem msgOK_kind {m : MsgC} (h : msgOK m = true) : (m.kind = 1 ∨ m.kind = 2) ∧ (0 ≤ m.ans.kind ∧ m.ans.kind ≤ 7) ∧ m.ans.cut.length ≤ 60 ∧ m.ans.sets.length ≤ 40 ∧ (∀ s ∈ m.ans.sets, signedOK s = true) ∧ questionOK m.q = true ∧ (0 ≤ m.id ∧ m.id ≤ 65535) ∧ (1 ≤ m.frm ∧ m.frm ≤ 1000000) ∧ (1 ≤ m.to ∧ m.to ≤ 1000000) := by
  unfold msgOK at h
  simp only [Bool.and_eq_true, decide_eq_true_eq] at h
  obtain ⟨⟨⟨⟨h1, h2⟩, h3⟩, h4⟩, h5⟩ := h
  split at h5
  · rename_i hk
    simp only [Bool.and_eq_true, decide_eq_true_eq] at h5
    obtain ⟨⟨h6, h7⟩, h8⟩ := h5
    refine ⟨.inl hk, by omega, by rw [h8]; simp, by rw [h7]; simp, by rw [h7]; simp, h4, h1, h2, h3⟩
  · simp only [Bool.and_eq_true, decide_eq_true_eq] at h5
    obtain ⟨h6, h7⟩ := h5
    unfold answerOK at h7
    simp only [Bool.and_eq_true, decide_eq_true_eq, List.all_eq_true] at h7
    obtain ⟨⟨⟨h8, h9⟩, h10⟩, h11⟩ := h7
    refine ⟨.inr h6, by omega, ?_, h9, h10, h4, h1, h2, h3⟩
    split at h11
    · exact nameOK_le h11
    · rw [of_decide_eq_true h11]; simp
theorem msgOK_cod {m : MsgC} (h : msgOK m = true) (hs : SumsOK m) : msgCod.ok m := by
  obtain ⟨h1, h2, h3, h4, h5, h6, h7, h8, h9⟩ := msgOK_kind h
  unfold questionOK at h6
  simp only [Bool.and_eq_true, decide_eq_true_eq] at h6
  have := nameOK_le h6.1
  exact ⟨⟨by rcases h1 with h | h <;> (rw [h]; decide), by omega, by omega, by omega⟩, by omega, ⟨by omega, by omega⟩, by omega, by omega, fun s hm => signedOK_cod (h5 s hm) (hs s hm)⟩
def sealB (b : Bytes) : Bytes := b ++ num8 (digest firstDigest b)
def bytesC (m : MsgC) : Bytes × Int := if !msgOK m then ([], 1) else if 4000 < (sealB (msgB m)).length then ([], 2) else (sealB (msgB m), 0)
def msgNil : MsgC := ⟨0, 0, 0, 0, ⟨[], 0⟩, ⟨0, [], []⟩⟩
/-- What the front of the bytes says. -/
def frontC (b : Bytes) : MsgC × Int :=
  match msgCod.rd b with
  | some (m, []) => if msgOK m then (m, 0) else (msgNil, 10)
  | _ => (msgNil, 10)
def readC (b : Bytes) : MsgC × Int :=
  if 4000 < b.length then (msgNil, 2) else if b.length < 8 ∨ sealB (b.take (b.length - 8)) ≠ b then (msgNil, 40) else frontC (b.take (b.length - 8))
theorem seal_len (b : Bytes) : (sealB b).length = b.length + 8 := by unfold sealB; rw [List.length_append, num8_len]
theorem seal_front (b : Bytes) : (sealB b).take ((sealB b).length - 8) = b := by
  rw [seal_len, Nat.add_sub_cancel]
  unfold sealB
  exact List.take_left' rfl
theorem frontC_ok {m : MsgC} (h : msgOK m = true) (hs : SumsOK m) : frontC (msgB m) = (m, 0) := by
  have := msgCod.back m [] (msgOK_cod h hs)
  rw [List.append_nil, msg_enc] at this
  unfold frontC
  rw [this]
  simp [h]
theorem read_seal {b : Bytes} (h : (sealB b).length ≤ 4000) : readC (sealB b) = frontC b := by
  unfold readC
  rw [if_neg (by omega), if_neg, seal_front]
  rw [seal_front, seal_len]
  rintro (h | h)
  · omega
  · exact h rfl
/-- What is written is read. -/
theorem read_bytes {m : MsgC} {b : Bytes} (h : bytesC m = (b, 0)) (hs : SumsOK m) : readC b = (m, 0) ∧ b.length ≤ 4000 ∧ msgOK m = true ∧ b = sealB (msgB m) := by
  unfold bytesC at h
  by_cases ho : msgOK m = true
  · rw [if_neg (by rw [ho]; decide)] at h
    by_cases hl : 4000 < (sealB (msgB m)).length
    · rw [if_pos hl] at h; injection h with _ h; cases h
    · rw [if_neg hl] at h
      injection h with h _
      subst h
      exact ⟨by rw [read_seal (by omega), frontC_ok ho hs], by omega, ho, rfl⟩
  · rw [if_pos (by simpa using ho)] at h; injection h with _ h; cases h
end Go.Proofs.YtogcofeencgipaaGreatDoor
