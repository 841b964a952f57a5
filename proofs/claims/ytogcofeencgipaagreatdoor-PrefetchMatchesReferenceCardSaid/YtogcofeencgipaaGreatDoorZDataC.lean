/- Plain laws: caches. -/
import Derived.Test.YtogcofeencgipaaGreatDoorZSpec
import Derived.Test.YtogcofeencgipaaGreatDoorZData
namespace Go.Proofs.YtogcofeencgipaaGreatDoor
set_option linter.unusedVariables false
set_option linter.unusedSimpArgs false
open Go
structure EntryC where
  signed : SignedC
  zone : Bytes
  til : Int
  deriving DecidableEq
def starN (z : Bytes) : Bool := decide ((parts z).head? = some [42])
def inZone (s z : Bytes) : Bool := nameOK s && nameOK z && !starN z && inN s z
def sigForm (apex : Bytes) (h g : Sig) : Bool := decide (g.zone = apex) && decide (1 ≤ g.key ∧ g.key ≤ 1000000) && decide (1 ≤ g.alg ∧ g.alg ≤ 3) && decide (g.frm = h.frm) && decide (g.til = h.til) && decide (0 ≤ g.frm ∧ g.frm ≤ g.til ∧ g.til ≤ 20000000)
def keyLt (a b : Sig) : Bool := decide (a.key < b.key)
def sigsForm (l : List Sig) (apex : Bytes) : Bool := decide (l.length ≤ 6) && l.all (fun g => sigForm apex (l.headD g) g) && chain keyLt l
def keyC (e : EntryC) : Bytes × Int × Bytes := (e.signed.set.name, e.signed.set.typ, e.zone)
def alikeC (a b : EntryC) : Bool := decide (keyC a = keyC b)
def denial (e : EntryC) : Bool := decide (e.signed.set.data = [])
def entryOK (e : EntryC) : Bool := inZone e.signed.set.name e.zone && decide (1 ≤ e.til ∧ e.til ≤ 20100001) &&
  (if denial e then decide (1 ≤ e.signed.set.typ ∧ e.signed.set.typ ≤ 8) && decide (0 ≤ e.signed.set.life ∧ e.signed.set.life ≤ 100000) && decide (e.signed.sigs = []) else setOK e.signed.set && sigsForm e.signed.sigs e.zone)
def cacheOK (l : List EntryC) : Bool := decide (l.length ≤ 400) && l.all entryOK && decide ((l.map keyC).Nodup)
def isT (t : Int) : Bool := decide (0 ≤ t ∧ t ≤ 20000000)
def freshC (l : List EntryC) (now : Int) : List EntryC := l.filter fun e => decide (now < e.til)
/-- A cache after an entry was learned. -/
def learnC (l : List EntryC) (e : EntryC) (now : Int) : List EntryC × Int :=
  if e.til ≤ now then ((freshC l now).filter fun o => !alikeC o e, 0) else
  if (freshC l now).any (fun o => alikeC o e) then ((freshC l now).map fun o => if alikeC o e then e else o, 0) else
  if 400 ≤ (freshC l now).length then ([], 41) else (freshC l now ++ [e], 0)
def minI (a b : Int) : Int := if b < a then b else a
def maxI (a b : Int) : Int := if b > a then b else a
def untilC (s : SignedC) (now : Int) : Int :=
  match s.sigs with
  | [] => now + maxI s.set.life 1
  | g :: _ => minI (now + maxI s.set.life 1) (g.til + 1)
def putC (l : List EntryC) (s : SignedC) (zone : Bytes) (now : Int) : List EntryC × Int :=
  if !(cacheOK l && setOK s.set && inZone s.set.name zone && isT now) then ([], 1) else
  if !sigsForm s.sigs zone then ([], 30) else learnC l ⟨s, zone, untilC s now⟩ now
def denyC (l : List EntryC) (q : Question) (zone : Bytes) (life now : Int) : List EntryC × Int :=
  if !(cacheOK l && questionOK q && inZone q.name zone && decide (0 ≤ life ∧ life ≤ 100000) && isT now) then ([], 1) else
  learnC l ⟨⟨⟨q.name, q.typ, life, []⟩, []⟩, zone, now + maxI life 1⟩ now
def entryNil : EntryC := ⟨⟨⟨[], 0, 0, []⟩, []⟩, [], 0⟩
def asks (q : Question) (now : Int) (e : EntryC) : Bool := decide (now < e.til) && decide (e.signed.set.name = q.name) && decide (e.signed.set.typ = q.typ)
def getC (l : List EntryC) (q : Question) (now : Int) : EntryC × Bool × Int :=
  if !(cacheOK l && questionOK q && isT now) then (entryNil, false, 1) else
  match l.find? (asks q now) with
  | some e => (e, true, 0)
  | none => (entryNil, false, 0)
def cleanC (l : List EntryC) (now : Int) : List EntryC × Int :=
  if !(cacheOK l && isT now) then ([], 1) else (freshC l now, 0)
def fewC (l : List EntryC) : Bool := l.all (fun e => decide (e.signed.set.data.length ≤ 20) && decide (e.signed.sigs.length ≤ 20) && decide (e.zone.length ≤ 100)) && decide (l.length ≤ 410)
end Go.Proofs.YtogcofeencgipaaGreatDoor
namespace Go.Proofs.YtogcofeencgipaaGreatDoor
set_option linter.unusedVariables false
set_option linter.unusedSimpArgs false
open Go
theorem alike_iff {a b : EntryC} : alikeC a b = true ↔ keyC a = keyC b := by unfold alikeC; rw [decide_eq_true_iff]
theorem alike_self (a : EntryC) : alikeC a a = true := alike_iff.2 rfl
theorem cacheOK_iff (l : List EntryC) : cacheOK l = true ↔ l.length ≤ 400 ∧ (∀ e ∈ l, entryOK e = true) ∧ (l.map keyC).Nodup := by
  unfold cacheOK
  simp only [Bool.and_eq_true, decide_eq_true_eq, List.all_eq_true, and_assoc]
theorem cache_sub {l m : List EntryC} (h : cacheOK l = true) (hs : m.Sublist l) : cacheOK m = true := by
  rw [cacheOK_iff] at *
  exact ⟨Nat.le_trans hs.length_le h.1, fun e he => h.2.1 e (hs.subset he), (hs.map keyC).nodup h.2.2⟩
theorem fresh_sub (l : List EntryC) (now : Int) : (freshC l now).Sublist l := List.filter_sublist
theorem mem_fresh {l : List EntryC} {now : Int} {e : EntryC} : e ∈ freshC l now ↔ e ∈ l ∧ now < e.til := by
  unfold freshC
  rw [List.mem_filter, decide_eq_true_iff]
theorem nodup_key {l : List EntryC} (h : (l.map keyC).Nodup) {a b : EntryC} (ha : a ∈ l) (hb : b ∈ l) (hk : keyC a = keyC b) : a = b := by
  induction l with
  | nil => cases ha
  | cons x l ih =>
    rw [List.map_cons, List.nodup_cons] at h
    rcases List.mem_cons.1 ha with rfl | ha
    · rcases List.mem_cons.1 hb with rfl | hb
      · rfl
      · exact (h.1 (List.mem_map.2 ⟨b, hb, hk.symm⟩)).elim
    · rcases List.mem_cons.1 hb with e | hb
      · exact (h.1 (List.mem_map.2 ⟨a, ha, by rw [hk, e]⟩)).elim
      · exact ih h.2 ha hb
theorem map_keys {l : List EntryC} {e : EntryC} : (l.map fun o => if alikeC o e then e else o).map keyC = l.map keyC := by
  rw [List.map_map]
  apply List.map_congr_left
  intro o _
  show keyC (if alikeC o e then e else o) = keyC o
  split
  · rename_i h; exact (alike_iff.1 h).symm
  · rfl
theorem learn_ok {l : List EntryC} {e : EntryC} {now : Int} (h : cacheOK l = true) (he : now < e.til → entryOK e = true) : cacheOK (learnC l e now).1 = true := by
  have hf := cache_sub h (fresh_sub l now)
  unfold learnC
  split
  · exact cache_sub hf List.filter_sublist
  · rename_i h1
    have he' := he (by omega)
    split
    · rw [cacheOK_iff] at hf ⊢
      refine ⟨by rw [List.length_map]; exact hf.1, fun x hx => ?_, by rw [map_keys]; exact hf.2.2⟩
      obtain ⟨o, ho, rfl⟩ := List.mem_map.1 hx
      split
      · exact he'
      · exact hf.2.1 o ho
    · rename_i h2
      split
      · decide
      · rename_i h3
        rw [cacheOK_iff] at hf ⊢
        refine ⟨by rw [List.length_append, List.length_singleton]; omega, fun x hx => ?_, ?_⟩
        · rcases List.mem_append.1 hx with hx | hx
          · exact hf.2.1 x hx
          · obtain rfl := List.mem_singleton.1 hx; exact he'
        · rw [List.map_append, List.nodup_append]
          refine ⟨hf.2.2, by simp, fun a ha b hb => ?_⟩
          obtain ⟨o, ho, rfl⟩ := List.mem_map.1 ha
          have hb' : b = keyC e := by simpa using hb
          rw [hb']
          intro hk
          exact h2 (List.any_eq_true.2 ⟨o, ho, alike_iff.2 hk⟩)
theorem mem_learn {l : List EntryC} {e : EntryC} {now : Int} (h : (learnC l e now).2 = 0) (x : EntryC) : x ∈ (learnC l e now).1 ↔ ((x ∈ freshC l now ∧ alikeC x e = false) ∨ (x = e ∧ now < e.til)) := by
  unfold learnC at h ⊢
  by_cases h1 : e.til ≤ now
  · rw [if_pos h1] at h ⊢
    simp only [List.mem_filter, Bool.not_eq_true']
    constructor
    · rintro ⟨a, b⟩; exact .inl ⟨a, b⟩
    · rintro (⟨a, b⟩ | ⟨_, b⟩)
      · exact ⟨a, b⟩
      · omega
  · rw [if_neg h1] at h ⊢
    by_cases h2 : (freshC l now).any (fun o => alikeC o e) = true
    · rw [if_pos h2] at h ⊢
      simp only [List.mem_map]
      constructor
      · rintro ⟨o, ho, rfl⟩
        by_cases ha : alikeC o e = true
        · rw [if_pos ha]; exact .inr ⟨rfl, by omega⟩
        · rw [if_neg ha]; exact .inl ⟨ho, by simpa using ha⟩
      · rintro (⟨a, b⟩ | ⟨rfl, _⟩)
        · exact ⟨x, a, by rw [b]; rfl⟩
        · obtain ⟨o, ho, ha⟩ := List.any_eq_true.1 h2
          exact ⟨o, ho, by rw [if_pos ha]⟩
    · rw [if_neg h2] at h ⊢
      by_cases h3 : 400 ≤ (freshC l now).length
      · rw [if_pos h3] at h; exact absurd h (by decide)
      · rw [if_neg h3]
        simp only [List.mem_append, List.mem_singleton]
        constructor
        · rintro (a | rfl)
          · refine .inl ⟨a, Bool.eq_false_iff.2 fun ha => h2 (List.any_eq_true.2 ⟨x, a, ha⟩)⟩
          · exact .inr ⟨rfl, by omega⟩
        · rintro (⟨a, _⟩ | ⟨a, _⟩)
          · exact .inl a
          · exact .inr a
theorem learn_rest {l : List EntryC} {e : EntryC} {now : Int} (h : (learnC l e now).2 = 0) : (learnC l e now).1.filter (fun o => !alikeC o e) = (freshC l now).filter fun o => !alikeC o e := by
  unfold learnC at h ⊢
  by_cases h1 : e.til ≤ now
  · rw [if_pos h1]
    rw [List.filter_filter]
    apply List.filter_congr
    intro o _
    cases alikeC o e <;> rfl
  · rw [if_neg h1] at h ⊢
    by_cases h2 : (freshC l now).any (fun o => alikeC o e) = true
    · rw [if_pos h2]
      show ((freshC l now).map fun o => if alikeC o e then e else o).filter _ = _
      induction freshC l now with
      | nil => rfl
      | cons x m ih =>
        rw [List.map_cons, List.filter_cons, List.filter_cons, ih]
        by_cases ha : alikeC x e = true
        · rw [if_pos ha, alike_self, ha]; rfl
        · rw [if_neg ha]
    · rw [if_neg h2] at h ⊢
      by_cases h3 : 400 ≤ (freshC l now).length
      · rw [if_pos h3] at h; exact absurd h (by decide)
      · rw [if_neg h3]
        show (freshC l now ++ [e]).filter _ = _
        rw [List.filter_append]
        simp [alike_self]
end Go.Proofs.YtogcofeencgipaaGreatDoor
namespace Go.Proofs.YtogcofeencgipaaGreatDoor
set_option linter.unusedVariables false
set_option linter.unusedSimpArgs false
open Go
structure PutOK (l : List EntryC) (s : SignedC) (zone : Bytes) (now : Int) : Prop where
  cache : cacheOK l = true
  set : setOK s.set = true
  inside : inZone s.set.name zone = true
  time : 0 ≤ now ∧ now ≤ 20000000
  form : sigsForm s.sigs zone = true
theorem put_cases (l : List EntryC) (s : SignedC) (zone : Bytes) (now : Int) : (∃ k, putC l s zone now = ([], k) ∧ k ≠ 0) ∨ (PutOK l s zone now ∧ putC l s zone now = learnC l ⟨s, zone, untilC s now⟩ now) := by
  unfold putC
  split
  · exact .inl ⟨1, rfl, by decide⟩
  · rename_i h1
    split
    · exact .inl ⟨30, rfl, by decide⟩
    · rename_i h2
      right
      refine ⟨?_, rfl⟩
      unfold isT at h1
      simp only [Bool.not_eq_true', Bool.not_eq_false, Bool.and_eq_true, decide_eq_true_eq] at h1 h2
      exact ⟨h1.1.1.1, h1.1.1.2, h1.1.2, h1.2, h2⟩
theorem setOK_life {s : SetC} (h : setOK s = true) : (0 ≤ s.life ∧ s.life ≤ 100000) ∧ 1 ≤ s.data.length := by
  unfold setOK at h
  simp only [Bool.and_eq_true, decide_eq_true_eq] at h
  exact ⟨h.1.1.1.1.1.2, h.1.1.1.1.2.1⟩
theorem until_le {s : SignedC} {now : Int} (h : 0 ≤ s.set.life ∧ s.set.life ≤ 100000) : untilC s now ≤ now + 100000 := by
  have hm : maxI s.set.life 1 ≤ 100000 := by unfold maxI; split <;> omega
  unfold untilC
  split
  · omega
  · unfold minI; split <;> omega
theorem put_entry {l : List EntryC} {s : SignedC} {zone : Bytes} {now : Int} (h : PutOK l s zone now) (h1 : now < untilC s now) : entryOK ⟨s, zone, untilC s now⟩ = true := by
  have hs := setOK_life h.set
  have hu := until_le (now := now) hs.1
  have ht := h.time
  have hd : denial ⟨s, zone, untilC s now⟩ = false := by
    unfold denial
    rw [decide_eq_false_iff_not]
    intro e
    have : s.set.data.length = 0 := by rw [e]; rfl
    omega
  unfold entryOK
  rw [hd]
  simp only [Bool.and_eq_true, decide_eq_true_eq, if_neg Bool.false_ne_true]
  exact ⟨⟨h.inside, by omega, by omega⟩, h.set, h.form⟩
theorem put_ok {l : List EntryC} {s : SignedC} {zone : Bytes} {now : Int} (h : PutOK l s zone now) : cacheOK (learnC l ⟨s, zone, untilC s now⟩ now).1 = true := learn_ok h.cache fun h1 => put_entry h h1
structure DenyOK (l : List EntryC) (q : Question) (zone : Bytes) (life now : Int) : Prop where
  cache : cacheOK l = true
  asked : questionOK q = true
  inside : inZone q.name zone = true
  lives : 0 ≤ life ∧ life ≤ 100000
  time : 0 ≤ now ∧ now ≤ 20000000
def denied (q : Question) (zone : Bytes) (life now : Int) : EntryC := ⟨⟨⟨q.name, q.typ, life, []⟩, []⟩, zone, now + maxI life 1⟩
theorem deny_cases (l : List EntryC) (q : Question) (zone : Bytes) (life now : Int) : (∃ k, denyC l q zone life now = ([], k) ∧ k ≠ 0) ∨ (DenyOK l q zone life now ∧ denyC l q zone life now = learnC l (denied q zone life now) now) := by
  unfold denyC
  split
  · exact .inl ⟨1, rfl, by decide⟩
  · rename_i h1
    right
    refine ⟨?_, rfl⟩
    unfold isT at h1
    simp only [Bool.not_eq_true', Bool.not_eq_false, Bool.and_eq_true, decide_eq_true_eq] at h1
    exact ⟨h1.1.1.1.1, h1.1.1.1.2, h1.1.1.2, h1.1.2, h1.2⟩
theorem maxI_pos (a : Int) : 1 ≤ maxI a 1 ∧ a ≤ maxI a 1 := by unfold maxI; split <;> omega
theorem deny_entry {l : List EntryC} {q : Question} {zone : Bytes} {life now : Int} (h : DenyOK l q zone life now) : entryOK (denied q zone life now) = true := by
  have hq : 1 ≤ q.typ ∧ q.typ ≤ 8 := by
    have := h.asked
    unfold questionOK at this
    simp only [Bool.and_eq_true, decide_eq_true_eq] at this
    exact this.2
  have hm : maxI life 1 ≤ 100000 := by have := h.lives; unfold maxI; split <;> omega
  have hp := (maxI_pos life).1
  have ht := h.time
  have hl := h.lives
  unfold entryOK denied denial
  simp only [Bool.and_eq_true, decide_eq_true_eq, decide_true, if_true]
  exact ⟨⟨h.inside, by omega, by omega⟩, ⟨hq, hl⟩, trivial⟩
theorem deny_ok {l : List EntryC} {q : Question} {zone : Bytes} {life now : Int} (h : DenyOK l q zone life now) : cacheOK (learnC l (denied q zone life now) now).1 = true := learn_ok h.cache fun _ => deny_entry h
theorem fresh_fresh {l : List EntryC} {now at_ : Int} (h : now ≤ at_) : freshC (freshC l now) at_ = freshC l at_ := by
  unfold freshC
  rw [List.filter_filter]
  apply List.filter_congr
  intro x _
  by_cases h1 : at_ < x.til
  · simp [h1, show now < x.til by omega]
  · simp [h1]
theorem find_fresh {l : List EntryC} {q : Question} {now at_ : Int} (h : now ≤ at_) : (freshC l now).find? (asks q at_) = l.find? (asks q at_) := by
  unfold freshC
  rw [List.find?_filter]
  congr 1
  funext x
  unfold asks
  by_cases h1 : at_ < x.til
  · simp [h1, show now < x.til by omega]
  · simp [h1]
end Go.Proofs.YtogcofeencgipaaGreatDoor
namespace Go.Proofs.YtogcofeencgipaaGreatDoor
set_option linter.unusedVariables false
set_option linter.unusedSimpArgs false
open Go
end Go.Proofs.YtogcofeencgipaaGreatDoor
namespace Go.Proofs.YtogcofeencgipaaGreatDoor
set_option linter.unusedVariables false
set_option linter.unusedSimpArgs false
open Go
open Enc (enc)
/-- api.Entry. -/
structure Entry where
  signed : Signed
  zone : Bytes
  til : Int
instance : Enc Entry where
  size := 7
  enc e := [strV e.signed.set.name, intV e.signed.set.typ, intV e.signed.set.life, .slice e.signed.set.data.A e.signed.set.data.len e.signed.set.data.cap, .slice e.signed.sigs.A e.signed.sigs.len e.signed.sigs.cap, strV e.zone, intV e.til]
  good H e := Enc.good H e.signed ∧ LenOk e.zone ∧ I64 e.til
  len _ := rfl
  mono hle h := ⟨Enc.mono hle h.1, h.2⟩
  one _ := rfl
  pos := by decide
def Entry.c (e : Entry) : EntryC := ⟨e.signed.c, e.zone, e.til⟩
end Go.Proofs.YtogcofeencgipaaGreatDoor
