/- Plain laws of trust: times, signatures, chains, further sets. -/
import Derived.Test.YtfbhcemlnojejaaDoorRTN
import Derived.Test.YtfbhcemlnojejaaDoorRTP
namespace Go.Proofs.YtfbhcemlnojejaaDoor
set_option linter.unusedVariables false
set_option linter.unusedSimpArgs false
open Go
set_option maxRecDepth 20000

theorem sign_ok {s : SetC} {zone : Bytes} {k : KeyC} {a b : Int} (h : (signC s zone k a b).2 = 0) : signC s zone k a b = (⟨zone, k.n, k.alg, a, b, sumC s zone k a b⟩, 0) := by
  unfold signC at h ⊢
  split at h
  · cases h
  · rw [if_neg (by assumption)]
theorem check_own {s : SetC} {zone : Bytes} {k : KeyC} {a b : Int} (h : (signC s zone k a b).2 = 0) : checkC s (signC s zone k a b).1 k = true := by
  have h1 := sign_ok h
  unfold checkC
  rw [h1]
  simp only
  rw [h1]
  simp
theorem lab_head {x : Bytes} (h : isLab x = true) : ∃ c r, x = c :: r ∧ c ≠ 42 := by
  have h : Word 45 12 x := of_decide_eq_true h
  obtain ⟨h1, _, h3⟩ := h
  cases x with
  | nil => simp at h1
  | cons c r =>
    refine ⟨c, r, rfl, ?_⟩
    rintro rfl
    have h4 := h3 0 (by simp)
    unfold WordAt at h4
    simp at h4
section
variable {K M : List SignedC}
theorem wayC_go {f : Nat} {n : Bytes} {l : List Bytes} {a : SignedC} {g : Sig} {r : List Sig} (hr : n ≠ [46]) (h : findC K n 6 = some a) (hs : a.sigs = g :: r) (hc : nameOK n = true ∧ nameOK g.zone = true ∧ inN n g.zone = true ∧ n ≠ g.zone) : wayC K (f + 1) n l = wayC K f g.zone (l ++ [g.zone]) := by
  rw [wayC_sig hr h hs, if_neg]
  simp [hc]
variable {A : SetC} {t d : Int}
def badP (known : List SignedC) (anchor : SetC) (zone : Bytes) (at_ drift : Int) : Bool :=
  decide (known.length > 400) || !setOK anchor || !decide (anchor.typ = 6) || !decide (anchor.name = [46]) || !nameOK zone || wild zone || !whenOK at_ drift || known.any (fun s => !setOK s.set)
theorem pathC_good {zone : Bytes} (h : badP K A zone t d = false) : pathC K A zone t d = if (wayC K 100 zone [zone]).2.2 = 0 then followC K A t d (wayC K 100 zone [zone]).1 else ([], (wayC K 100 zone [zone]).2.1, (wayC K 100 zone [zone]).2.2) := if_neg (by rw [show (decide (K.length > 400) || !setOK A || !decide (A.typ = 6) || !decide (A.name = [46]) || !nameOK zone || wild zone || !whenOK t d || K.any (fun s => !setOK s.set)) = false from h]; simp)
theorem knownI_neg {l : List SignedC} {n : Bytes} {k : Int} : knownI l n k < 0 ↔ findC l n k = none := by
  unfold knownI findC
  cases h : l.findIdx? (isSet n k) with
  | none =>
    simp only
    rw [List.findIdx?_eq_none_iff] at h
    exact ⟨fun _ => List.find?_eq_none.2 (fun x hx => by rw [h x hx]; simp), fun _ => by decide⟩
  | some i =>
    simp only
    obtain ⟨hi, hp, _⟩ := List.findIdx?_eq_some_iff_getElem.1 h
    refine ⟨fun h => by omega, fun h => ?_⟩
    have := List.find?_eq_none.1 h _ (List.getElem_mem hi)
    exact absurd hp this
end
end Go.Proofs.YtfbhcemlnojejaaDoor
