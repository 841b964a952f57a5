/- What learning leaves: the plain law of PrefetchOthers. -/
import Derived.Test.YtogcofeencgipaaGreatDoorZQQ
namespace Go.Proofs.YtogcofeencgipaaGreatDoor
set_option linter.unusedVariables false
set_option linter.unusedSimpArgs false
open Go
def otherZ (zone : Bytes) (e : EntryC) : Bool := decide (e.zone ≠ zone)
theorem learn_others {l : List EntryC} {e : EntryC} {now : Int} {zone : Bytes} (h : (learnC l e now).2 = 0) (hz : e.zone = zone) (hf : freshC l now = l) : (learnC l e now).1.filter (otherZ zone) = l.filter (otherZ zone) ∧ freshC (learnC l e now).1 now = (learnC l e now).1 := by
  have key : ∀ m : List EntryC, m.filter (otherZ zone) = (m.filter fun o => !alikeC o e).filter (otherZ zone) := by
    intro m
    rw [List.filter_filter]
    apply List.filter_congr
    intro x _
    by_cases ha : alikeC x e = true
    · have hk := alike_iff.1 ha
      unfold keyC at hk
      simp only [Prod.mk.injEq] at hk
      have : otherZ zone x = false := by
        unfold otherZ
        rw [hk.2.2, hz]; simp
      rw [this]; simp
    · simp only [Bool.not_eq_true] at ha
      rw [ha]; simp
  refine ⟨by rw [key, learn_rest h, hf, ← key], ?_⟩
  unfold freshC
  rw [List.filter_eq_self]
  intro x hx
  rcases (mem_learn h x).1 hx with ⟨h1, _⟩ | ⟨rfl, h1⟩
  · exact decide_eq_true (mem_fresh.1 h1).2
  · exact decide_eq_true h1
theorem teach_others {zone : Bytes} {now : Int} : ∀ {ms : List (List EntryC → List EntryC × Int)} {c d : List EntryC}, (∀ f ∈ ms, ∀ c, freshC c now = c → (f c).2 = 0 → (f c).1.filter (otherZ zone) = c.filter (otherZ zone) ∧ freshC (f c).1 now = (f c).1) → freshC c now = c → teachAll ms c = (d, 0) → d.filter (otherZ zone) = c.filter (otherZ zone)
  | [], c, d, _, hc, h => by cases h; rfl
  | f :: t, c, d, hm, hc, h => by
    obtain ⟨h1, h2⟩ := teach_cons h
    obtain ⟨h3, h4⟩ := hm f (List.mem_cons_self ..) c hc h1
    rw [teach_others (fun g hg => hm g (List.mem_cons_of_mem _ hg)) h4 h2, h3]
theorem put_others {s : SignedC} {zone : Bytes} {now : Int} {c : List EntryC} (hf : freshC c now = c) (h : (putM s zone now c).2 = 0) : (putM s zone now c).1.filter (otherZ zone) = c.filter (otherZ zone) ∧ freshC (putM s zone now c).1 now = (putM s zone now c).1 := by
  by_cases h30 : (putC c s zone now).2 = 30
  · have e : putM s zone now c = (c, 0) := by unfold putM; rw [if_pos h30]
    rw [e]; exact ⟨rfl, hf⟩
  · have e : putM s zone now c = putC c s zone now := by unfold putM; rw [if_neg h30]
    rw [e] at h ⊢
    rcases put_cases c s zone now with ⟨k, h2, hk⟩ | ⟨_, h2⟩
    · rw [h2] at h; exact absurd h hk
    · rw [h2] at h ⊢
      exact learn_others h rfl hf
theorem deny_others {q : Question} {zone : Bytes} {life now : Int} {c : List EntryC} (hf : freshC c now = c) (h : (denyC c q zone life now).2 = 0) : (denyC c q zone life now).1.filter (otherZ zone) = c.filter (otherZ zone) ∧ freshC (denyC c q zone life now).1 now = (denyC c q zone life now).1 := by
  rcases deny_cases c q zone life now with ⟨k, h2, hk⟩ | ⟨_, h2⟩
  · rw [h2] at h; exact absurd h hk
  · rw [h2] at h ⊢
    exact learn_others h rfl hf
theorem others_law {zone : Bytes} {q : Question} {a : AnswerC} {now : Int} {l : List SignedC} {c d : List EntryC} (h : LearnOK zone q a now l c d) : d.filter (otherZ zone) = (freshC c now).filter (otherZ zone) := by
  obtain ⟨_, ht⟩ := learn_clean h
  refine teach_others (fun f hf => ?_) (fresh_fresh (Int.le_refl _)) ht
  rcases List.mem_append.1 hf with h1 | h1
  · obtain ⟨s, _, rfl⟩ := List.mem_map.1 h1
    exact fun c hc h2 => put_others hc h2
  · split at h1
    · split at h1
      · rw [List.mem_singleton] at h1; subst h1
        exact fun c hc h2 => deny_others hc h2
      · cases h1
    · cases h1
theorem refused_law {zone : Bytes} {q : Question} {a : AnswerC} {now : Int} {c d : List EntryC} (h : LearnOK zone q a now [] c d) : d = freshC c now := by
  obtain ⟨_, ht⟩ := learn_clean h
  have h1 : teachAll [] (freshC c now) = (d, 0) := ht
  cases h1; rfl
end Go.Proofs.YtogcofeencgipaaGreatDoor
