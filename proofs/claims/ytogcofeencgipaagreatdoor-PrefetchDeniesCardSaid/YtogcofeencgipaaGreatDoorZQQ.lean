/- What is learned: the plain laws. -/
import Derived.Test.YtogcofeencgipaaGreatDoorZQP
namespace Go.Proofs.YtogcofeencgipaaGreatDoor
set_option linter.unusedVariables false
set_option linter.unusedSimpArgs false
open Go
theorem belowV_nil (z : Bytes) : belowV [] z = false := by
  unfold belowV underC
  rw [if_neg (by rw [show nameOK ([] : Bytes) = false by decide +kernel]; simp), Bool.and_false]
theorem teach_err : ∀ {ms : List (List EntryC → List EntryC × Int)} {c : List EntryC}, (teachAll ms c).2 ≠ 0 → (teachAll ms c).1 = []
  | [], _, h => absurd rfl h
  | f :: t, c, h => by
    unfold teachAll at h ⊢
    split
    · rename_i h1
      rw [if_pos h1] at h
      exact teach_err h
    · rfl
theorem teach_cons {f : List EntryC → List EntryC × Int} {t : List (List EntryC → List EntryC × Int)} {c d : List EntryC} (h : teachAll (f :: t) c = (d, 0)) : (f c).2 = 0 ∧ teachAll t (f c).1 = (d, 0) := by
  unfold teachAll at h
  split at h
  · rename_i h1; exact ⟨h1, h⟩
  · rename_i h1; exact absurd (congrArg Prod.snd h) h1
theorem teach_keeps {zone : Bytes} {q : Question} {k : Int} {l : List SignedC} {now : Int} : ∀ {ms : List (List EntryC → List EntryC × Int)} {c d : List EntryC}, (∀ f ∈ ms, f ∈ lesM zone q k l now) → cacheOK c = true → teachAll ms c = (d, 0) → cacheOK d = true
  | [], c, d, _, hc, h => by cases h; exact hc
  | f :: t, c, d, hm, hc, h => by
    obtain ⟨h1, h2⟩ := teach_cons h
    exact teach_keeps (fun g hg => hm g (List.mem_cons_of_mem _ hg)) (les_keeps (hm f (List.mem_cons_self ..)) hc h1) h2
structure LearnOK (zone : Bytes) (q : Question) (a : AnswerC) (now : Int) (l : List SignedC) (c d : List EntryC) : Prop where
  cache : cacheOK c = true
  time : 0 ≤ now ∧ now ≤ 20000000
  zoneG : zoneV zone = true
  asked : questionOK q = true
  answer : answerOK a = true
  taught : teachAll (lesM zone q a.kind l now) c = (d, 0)
  after : cacheOK d = true
theorem learn_cases {zone : Bytes} {q : Question} {a : AnswerC} {now : Int} {l : List SignedC} {c d : List EntryC} {e : Int} (h : learnP zone q a now l c = (d, e)) : (e ≠ 0 ∧ d = []) ∨ (e = 0 ∧ LearnOK zone q a now l c d) := by
  unfold learnP at h
  split at h
  · cases h; exact .inl ⟨by decide, rfl⟩
  · rename_i h1
    unfold isT at h1
    simp only [Bool.not_eq_true', Bool.not_eq_false, Bool.and_eq_true, decide_eq_true_eq] at h1
    by_cases he : e = 0
    · subst he
      exact .inr ⟨rfl, h1.1.1.1.1, h1.1.1.1.2, h1.1.1.2, h1.1.2, h1.2, h, teach_keeps (fun _ h => h) h1.1.1.1.1 h⟩
    · refine .inl ⟨he, ?_⟩
      have := teach_err (ms := lesM zone q a.kind l now) (c := c) (by rw [h]; exact he)
      rw [h] at this; exact this
/-- The cache is cleaned first. -/
theorem learn_clean {zone : Bytes} {q : Question} {a : AnswerC} {now : Int} {l : List SignedC} {c d : List EntryC} (h : LearnOK zone q a now l c d) : cacheOK (freshC c now) = true ∧ teachAll ((l.map fun s => putM s zone now) ++ match l.find? isStart with
    | some s => if a.kind = 5 ∨ a.kind = 6 then [fun c => denyC c q zone (lifeOf s) now] else []
    | none => []) (freshC c now) = (d, 0) := by
  have h1 := h.taught
  unfold lesM at h1
  rw [List.cons_append] at h1
  obtain ⟨h2, h3⟩ := teach_cons h1
  rw [clean_yes h.cache h.time] at h3
  exact ⟨cache_sub h.cache (fresh_sub ..), h3⟩
theorem putM_ok {s : SignedC} {zone : Bytes} {now : Int} {c : List EntryC} (hc : cacheOK c = true) (h1 : setOK s.set = true) (h2 : inZone s.set.name zone = true) (h3 : sigsForm s.sigs zone = true) (h4 : 0 ≤ now ∧ now ≤ 20000000) (h5 : (putM s zone now c).2 = 0) : putM s zone now c = learnC c ⟨s, zone, untilC s now⟩ now ∧ (learnC c ⟨s, zone, untilC s now⟩ now).2 = 0 := by
  have e := put_yes (l := c) (s := s) hc h1 h2 h4
  rw [h3] at e
  simp only [if_true] at e
  have hne : ¬ (putC c s zone now).2 = 30 := by
    rw [e]; unfold learnC
    have z0 : ¬ (0 : Int) = 30 := by decide
    have z1 : ¬ (41 : Int) = 30 := by decide
    split
    · exact z0
    · split
      · exact z0
      · split
        · exact z1
        · exact z0
  have e2 : putM s zone now c = putC c s zone now := by unfold putM; rw [if_neg hne]
  rw [e2, e] at h5
  rw [e2, e]
  exact ⟨rfl, h5⟩
theorem inZone_parts {s z : Bytes} (h : inZone s z = true) : nameOK s = true ∧ nameOK z = true ∧ (underC s z).1 = true := by
  have h0 := h
  unfold inZone at h
  simp only [Bool.and_eq_true, Bool.not_eq_true'] at h
  exact ⟨h.1.1.1, h.1.1.2, by rw [← inZone_yes h.1.1.2 h.1.2]; exact h0⟩
theorem answer_one {k : Int} {s : SignedC} {cut : Bytes} (h : answerOK ⟨k, [s], cut⟩ = true) : setOK s.set = true ∧ s.sigs.all sigOK = true := by
  unfold answerOK at h
  simp only [Bool.and_eq_true, decide_eq_true_eq, List.all_cons, List.all_nil, Bool.and_true] at h
  have h5 := h.1.2
  unfold signedOK at h5
  simp only [Bool.and_eq_true, decide_eq_true_eq] at h5
  exact ⟨h5.1.2, h5.2⟩
theorem learns_law {zone : Bytes} {s : SignedC} {now : Int} {c d : List EntryC} (h : LearnOK zone ⟨s.set.name, s.set.typ⟩ ⟨1, [s], []⟩ now (filterC zone ⟨s.set.name, s.set.typ⟩ ⟨1, [s], []⟩).1 c d) (h1 : inZone s.set.name zone = true) (h2 : sigsForm s.sigs zone = true) (h3 : now < untilC s now) : (⟨s, zone, untilC s now⟩ : EntryC) ∈ d := by
  obtain ⟨_, _, hu⟩ := inZone_parts h1
  have hf : (filterC zone ⟨s.set.name, s.set.typ⟩ ⟨1, [s], []⟩).1 = [s] := by
    unfold filterC
    rw [h.zoneG, h.asked, h.answer, hu]
    show List.filter (takenC zone ⟨s.set.name, s.set.typ⟩ 1) [s] = [s]
    have ht : takenC zone ⟨s.set.name, s.set.typ⟩ 1 s = true := by
      unfold takenC ruleC dataR
      rw [hu, if_pos rfl, decide_eq_true rfl, decide_eq_true rfl]; rfl
    rw [List.filter_cons, ht]; rfl
  obtain ⟨hc, ht⟩ := learn_clean h
  rw [hf] at ht
  have hnil : (match [s].find? isStart with
    | some s0 => if (1 : Int) = 5 ∨ (1 : Int) = 6 then [fun c => denyC c ⟨s.set.name, s.set.typ⟩ zone (lifeOf s0) now] else []
    | none => []) = ([] : List (List EntryC → List EntryC × Int)) := by
    cases [s].find? isStart with
    | none => rfl
    | some x => rfl
  have ht2 : teachAll ([s].map fun s => putM s zone now) (freshC c now) = (d, 0) := by
    rw [← ht]
    show _ = teachAll (_ ++ (match [s].find? isStart with
      | some s0 => if (1 : Int) = 5 ∨ (1 : Int) = 6 then [fun c => denyC c ⟨s.set.name, s.set.typ⟩ zone (lifeOf s0) now] else []
      | none => [])) _
    rw [hnil, List.append_nil]
  obtain ⟨h4, h5⟩ := teach_cons ht2
  obtain ⟨h6, h7⟩ := putM_ok hc (answer_one h.answer).1 h1 h2 h.time h4
  have h8 : (putM s zone now (freshC c now)).1 = d := congrArg Prod.fst h5
  rw [← h8, h6]
  exact (mem_learn h7 _).2 (.inr ⟨rfl, h3⟩)
theorem denies_law {zone : Bytes} {q : Question} {st : SetC} {k now : Int} {c d : List EntryC} (hk : k = 5 ∨ k = 6) (h : LearnOK zone q ⟨k, [⟨st, []⟩], []⟩ now (filterC zone q ⟨k, [⟨st, []⟩], []⟩).1 c d) (h1 : st.typ = 4) (h2 : st.name = zone) (h3 : setOK st = true) (h4 : inN q.name zone = true) : (0 ≤ lifeOf ⟨st, []⟩ ∧ lifeOf ⟨st, []⟩ ≤ 100000) ∧ denied q zone (lifeOf ⟨st, []⟩) now ∈ d := by
  have hz : nameOK zone = true := by
    unfold setOK at h3
    simp only [Bool.and_eq_true] at h3
    rw [← h2]; exact h3.1.1.1.1.1.1.1
  have hqn : nameOK q.name = true := by
    have := h.asked
    unfold questionOK at this
    rw [Bool.and_eq_true] at this
    exact this.1
  have hu : (underC q.name zone).1 = true := by
    unfold underC
    rw [if_pos ⟨hqn, hz⟩]
    show underB q.name zone = true
    rw [under_in hz]; exact h4
  have huz : (underC zone zone).1 = true := by
    unfold underC
    rw [if_pos ⟨hz, hz⟩]
    unfold underB
    rw [decide_eq_true rfl]; rfl
  have hf : (filterC zone q ⟨k, [⟨st, []⟩], []⟩).1 = [⟨st, []⟩] := by
    unfold filterC
    rw [h.zoneG, h.asked, h.answer, hu]
    show List.filter (takenC zone q k) [⟨st, []⟩] = [⟨st, []⟩]
    have ht : takenC zone q k ⟨st, []⟩ = true := by
      unfold takenC ruleC
      rw [if_neg (by omega), if_neg (by omega), if_neg (by omega), if_pos hk]
      show ((underC st.name zone).1 && deniedR q st) = true
      unfold deniedR
      rw [h2, huz, h1, hu]; rfl
    rw [List.filter_cons, ht]; rfl
  obtain ⟨hc, ht⟩ := learn_clean h
  rw [hf] at ht
  have hst : isStart ⟨st, []⟩ = true := decide_eq_true h1
  have ht2 : teachAll (putM ⟨st, []⟩ zone now :: [fun c => denyC c q zone (lifeOf ⟨st, []⟩) now]) (freshC c now) = (d, 0) := by
    rw [← ht, List.find?_cons, hst]
    show _ = teachAll (_ ++ if k = 5 ∨ k = 6 then _ else _) _
    rw [if_pos hk]; rfl
  obtain ⟨_, h5⟩ := teach_cons ht2
  obtain ⟨h6, h7⟩ := teach_cons h5
  generalize (putM ⟨st, []⟩ zone now (freshC c now)).1 = c2 at h6 h7
  have h8 : (denyC c2 q zone (lifeOf ⟨st, []⟩) now).1 = d := congrArg Prod.fst h7
  have h6 : (denyC c2 q zone (lifeOf ⟨st, []⟩) now).2 = 0 := h6
  rcases deny_cases c2 q zone (lifeOf ⟨st, []⟩) now with ⟨k2, h9, hk2⟩ | ⟨h9, h10⟩
  · rw [h9] at h6; exact absurd h6 hk2
  · rw [h10] at h6 h8
    rw [← h8]
    refine ⟨h9.lives, (mem_learn h6 _).2 (.inr ⟨rfl, ?_⟩)⟩
    have := maxI_pos (lifeOf ⟨st, []⟩)
    show now < now + maxI (lifeOf ⟨st, []⟩) 1
    omega
end Go.Proofs.YtogcofeencgipaaGreatDoor
