import Derived.Test.YtepljgpikfeklaaGreatDoorQUJ
import Derived.Test.YtepljgpikfeklaaGreatDoorQZU
namespace Go.Proofs.YtepljgpikfeklaaGreatDoor
set_option linter.unusedVariables false
set_option linter.unusedSimpArgs false
open Go Go.RowKit
set_option maxRecDepth 20000
theorem err_mid {c : ClockV} {d t u : Int} (hc : clockOK c = true) (h0 : 0 ≤ u) (h1 : u ≤ t) (hw : withinC c d (t + 1) = true) : shows c u ≤ u + d ∧ t - d ≤ shows c t := by
  obtain ⟨h2, h3⟩ := clock_iff.1 hc
  unfold withinC wrongAt at hw
  rw [show t + 1 - 1 = t by omega] at hw
  simp only [Bool.and_eq_true, Bool.not_eq_true', Bool.or_eq_false_iff, decide_eq_false_iff_not] at hw
  obtain ⟨⟨a1, a2⟩, a3, a4⟩ := hw
  refine ⟨?_, by omega⟩
  unfold shows at a1 a2 a3 a4 ⊢
  by_cases he : c.every = 0
  · rw [if_pos he] at a1 ⊢; omega
  · rw [if_neg he] at a1 a2 a3 a4 ⊢
    rw [Int.zero_tdiv] at a1
    rcases h3 with h3 | ⟨h3, _⟩ | ⟨_, h3⟩
    · exact absurd h3 he
    · rw [Int.tdiv_eq_ediv_of_nonneg (by omega)] at a3 ⊢
      have := Int.ediv_le_ediv (show 0 < c.every by omega) h1
      omega
    · obtain ⟨e, hee⟩ : ∃ e : Int, c.every = -e := ⟨-c.every, by omega⟩
      rw [hee] at a3 ⊢
      rw [Int.tdiv_neg, Int.tdiv_eq_ediv_of_nonneg h0]
      have := Int.ediv_nonneg h0 (show 0 ≤ e by omega)
      omega
theorem put_err {s : SignedC} {z : Bytes} {n : Int} (h1 : setOK s.set = true) (h2 : inZone s.set.name z = true) (h3 : sigsForm s.sigs z = true) (h4 : n ≤ 20000000) : (putC [] s z n).2 = 0 ∨ n < 0 := by
  by_cases h : n < 0
  · exact .inr h
  · refine .inl ?_
    have ht : isT n = true := decide_eq_true ⟨by omega, h4⟩
    have h0 : cacheOK [] = true := by decide
    unfold putC
    rw [h0, h1, h2, h3, ht]
    unfold learnC freshC
    by_cases he : untilC s n ≤ n
    · simp [he]
    · simp [he]
theorem learn_nil (e : EntryC) (n : Int) : learnC [] e n = if e.til ≤ n then ([], 0) else ([e], 0) := by
  unfold learnC freshC
  by_cases h : e.til ≤ n <;> simp [h]
theorem known_put {s : SignedC} {z : Bytes} {n m : Int} (h : (knownC (putC [] s z n).1 m).1 ≠ []) : m < untilC s n := by
  have hk : ∀ {r : List EntryC}, (knownC r m).1 ≠ [] → ∃ e ∈ r, m < e.til := fun {r} hr => by
    unfold knownC at hr
    split at hr
    · exact absurd rfl hr
    · obtain ⟨x, hx⟩ := List.exists_mem_of_ne_nil _ hr
      obtain ⟨e, he, _⟩ := List.mem_map.1 hx
      have := (List.mem_filter.1 he).1
      unfold freshC at this
      obtain ⟨h1, h2⟩ := List.mem_filter.1 this
      exact ⟨e, h1, of_decide_eq_true h2⟩
  obtain ⟨e, he, hm⟩ := hk h
  unfold putC at he
  split at he
  · cases he
  · split at he
    · cases he
    · rw [learn_nil] at he
      split at he
      · cases he
      · rw [List.mem_singleton.1 he] at hm
        exact hm
theorem until_end {s : SignedC} {n m u t d til : Int} (h : m < untilC s n) (h1 : n ≤ u + d) (h2 : t - d ≤ m) (h3 : u + 1 ≤ til) : t < endC s d til := by
  unfold untilC at h
  unfold endC
  cases hs : s.sigs with
  | nil => rw [hs] at h; simp only at h ⊢; omega
  | cons g l =>
    rw [hs] at h
    simp only at h ⊢
    have h4 := @minI_le (n + maxI s.set.life 1) (g.til + 1)
    have h5 := @minI_le (til - 1 + maxI s.set.life 1 + 2 * d) (g.til + d + 1)
    omega
theorem clocks_found {h : HistV} {all : Slc HeldV} {k : CopyV} {s : Signed} {u t n m : Int} {out : List Signed} (a : AllOK h all.els) (hv : ∀ c ∈ h.copies.els, ∀ s ∈ c.zone.sets.els, ValidS s.c) (hk : k ∈ h.copies.els) (hs : s ∈ k.zone.sets.els) (h1 : k.frm ≤ u) (h2 : u < k.til) (h3 : u ≤ t)
    (h4 : m < untilC s.c n) (h5 : n ≤ u + h.drift) (h6 : t - h.drift ≤ m) (o : PossTo (atZ all t) ⟨s.set.name, s.set.typ⟩ (atZ all t).length out) : ∃ y ∈ out, y.c = s.c := by
  obtain ⟨x, hx, e1, e2, e3⟩ := a.cover k hk s hs
  obtain ⟨f, hf, f1, f2⟩ := hasAny_iff.1 (e3 u h1 h2)
  have hat : hasAny x.spans.els t = true := by
    rw [(a.spans x hx).has, hasAny_iff]
    refine ⟨_, List.mem_map.2 ⟨f, hf, rfl⟩, by show f.frm ≤ t; omega, ?_⟩
    show t < maxI f.til (endC x.signed.c h.drift f.til)
    have := until_end (til := f.til) h4 h5 h6 (by omega)
    rw [e2]
    have := @maxI_le f.til (endC s.c h.drift f.til)
    omega
  have hxa : x ∈ atZ all t := List.mem_filter.2 ⟨hx, hat⟩
  have hin := o.cover x (by rw [List.take_length]; exact hxa) ⟨congrArg (fun s : SignedC => s.set.name) e2, congrArg (fun s : SignedC => s.set.typ) e2⟩
  obtain ⟨y, hy, hyt⟩ := List.mem_map.1 hin
  obtain ⟨x', hx', _, rfl⟩ := o.each y hy
  obtain ⟨c', hc', _, s', hs', e'⟩ := (a.each x' (List.mem_filter.1 hx').1).src
  exact ⟨x'.signed, hy, text_inj (by rw [e']; exact hv c' hc' s' hs') (hv k hk s hs) (by rw [hyt, e2])⟩
end Go.Proofs.YtepljgpikfeklaaGreatDoor
