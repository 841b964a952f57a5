/- Plain laws of trust: times, signatures, chains, further sets. -/
import Derived.Test.YtfbhcemlnojejaaDoorTN
import Derived.Test.YtfbhcemlnojejaaDoorTP
namespace Go.Proofs.YtfbhcemlnojejaaDoor
set_option linter.unusedVariables false
set_option linter.unusedSimpArgs false
open Go
set_option maxRecDepth 20000

/-! ### times -/
theorem inTime_mono {g : Sig} {zone : Bytes} {a d a' d' : Int} (h : inTime g zone a d = true) (h1 : a - d ≤ a' - d') (h2 : a' + d' ≤ a + d) : inTime g zone a' d' = true := by
  unfold inTime at h ⊢
  simp only [Bool.and_eq_true, decide_eq_true_eq] at h ⊢
  exact ⟨⟨h.1.1, by omega⟩, by omega⟩
theorem signedBy_mono {s : SignedC} {zone : Bytes} {keys : List KeyC} {a d a' d' : Int} (h : signedBy s zone keys a d = true) (hw : whenOK a' d' = true) (h1 : a - d ≤ a' - d') (h2 : a' + d' ≤ a + d) : signedBy s zone keys a' d' = true := by
  unfold signedBy at h ⊢
  simp only [Bool.and_eq_true, List.any_eq_true] at h ⊢
  obtain ⟨_, g, hg, ht, hk⟩ := h
  exact ⟨hw, g, hg, inTime_mono ht h1 h2, hk⟩
/-! ### signatures -/
theorem sign_ok {s : SetC} {zone : Bytes} {k : KeyC} {a b : Int} (h : (signC s zone k a b).2 = 0) : signC s zone k a b = (⟨zone, k.n, k.alg, a, b, sumC s zone k a b⟩, 0) := by
  unfold signC at h ⊢
  split at h
  · cases h
  · rw [if_neg (by assumption)]
theorem check_own {s : SetC} {zone : Bytes} {k : KeyC} {a b : Int} (h : (signC s zone k a b).2 = 0) : checkC s (signC s zone k a b).1 k = true := by
  have h1 := sign_ok h
  unfold checkC
  rw [h1]
  simp only
  rw [h1]
  simp
theorem check_sum {s : SetC} {g : Sig} {k : KeyC} (h : g.sum ≠ sumC s g.zone k g.frm g.til) : checkC s g k = false := by
  unfold checkC
  rw [Bool.and_eq_false_iff]
  by_cases h0 : (signC s g.zone k g.frm g.til).2 = 0
  · right
    rw [sign_ok h0]
    apply decide_eq_false
    intro he
    apply h
    rw [← he]
  · left; exact decide_eq_false h0
theorem check_other {s : SetC} {g : Sig} {k : KeyC} (h : k ≠ ⟨g.key, g.alg⟩) : checkC s g k = false := by
  unfold checkC
  rw [Bool.and_eq_false_iff]
  by_cases h0 : (signC s g.zone k g.frm g.til).2 = 0
  · right
    rw [sign_ok h0]
    apply decide_eq_false
    intro he
    apply h
    rw [← he]
  · left; exact decide_eq_false h0
theorem signed_two {s : SetC} {zone : Bytes} {k other : KeyC} {a b t d : Int} (h : (signC s zone k a b).2 = 0) (hw : whenOK t d = true) : signedBy ⟨s, [(signC s zone k a b).1]⟩ zone [other, k] t d = decide (a ≤ t - d ∧ t + d ≤ b) := by
  have hc := check_own h
  unfold signedBy
  simp only [List.any_cons, List.any_nil, hc, hw, Bool.or_false, Bool.or_true, Bool.and_true, Bool.true_and]
  rw [sign_ok h]
  unfold inTime
  simp only [decide_true, Bool.true_and]
  rw [dec_and]
theorem signed_wrong {s : SetC} {g : Sig} {zone : Bytes} {k : KeyC} {t d : Int} (h : checkC s g k = false) : signedBy ⟨s, [g]⟩ zone [k] t d = false := by
  unfold signedBy
  simp [h]
theorem signed_elsewhere {s : SetC} {g : Sig} {zone : Bytes} {ks : List KeyC} {t d : Int} (h : g.zone ≠ zone) : signedBy ⟨s, [g]⟩ zone ks t d = false := by
  unfold signedBy inTime
  simp [h]
theorem signed_nokeys {s : SignedC} {zone : Bytes} {t d : Int} : signedBy s zone [] t d = false := by
  unfold signedBy
  simp
theorem xor_ne {a b : Nat} (h : b ≠ 0) : Nat.xor a b ≠ a := by
  intro he
  apply h
  have : Nat.xor a (Nat.xor a b) = Nat.xor a a := by rw [he]
  have h1 : a ^^^ (a ^^^ b) = a ^^^ a := this
  rw [← Nat.xor_assoc, Nat.xor_self, Nat.zero_xor] at h1
  exact h1
/-! ### ways -/
theorem lab_head {x : Bytes} (h : isLab x = true) : ∃ c r, x = c :: r ∧ c ≠ 42 := by
  have h : Word 45 12 x := of_decide_eq_true h
  obtain ⟨h1, _, h3⟩ := h
  cases x with
  | nil => simp at h1
  | cons c r =>
    refine ⟨c, r, rfl, ?_⟩
    rintro rfl
    have h4 := h3 0 (by simp)
    unfold WordAt at h4
    simp at h4
theorem wild_above {n z : Bytes} (hn : nameOK n = true) (hin : inN n z = true) (hne : n ≠ z) : wild z = false := by
  by_cases hr : z = [46]
  · subst hr; decide
  · by_cases hnr : n = [46]
    · subst hnr
      unfold inN parts at hin
      rw [if_pos rfl, if_neg hr] at hin
      exact absurd (List.suffix_nil.1 (of_decide_eq_true hin)) (splitDots_ne z)
    · unfold inN parts at hin
      rw [if_neg hnr, if_neg hr] at hin
      obtain ⟨t, ht⟩ := of_decide_eq_true hin
      have htn : t ≠ [] := by
        rintro rfl
        exact hne (split_inj ht.symm)
      obtain ⟨a, t', rfl⟩ := List.exists_cons_of_ne_nil htn
      unfold nameOK at hn
      rw [decide_eq_false hnr] at hn
      simp only [Bool.false_or, Bool.and_eq_true] at hn
      have hall := hn.2
      rw [← ht, List.cons_append, List.tail_cons] at hall
      obtain ⟨x, r, hx⟩ := List.exists_cons_of_ne_nil (splitDots_ne z)
      have hxl : isLab x = true := List.all_eq_true.1 hall x (by simp [hx])
      obtain ⟨c, r', rfl, hc⟩ := lab_head hxl
      have hzj := join_split z
      rw [hx, joinD_head] at hzj
      rw [← hzj]
      unfold wild
      simp [hc]
section
variable {K M : List SignedC}
theorem wayC_stop {f : Nat} {n : Bytes} {l : List Bytes} {a : SignedC} {g : Sig} {r : List Sig} (hr : n ≠ [46]) (h : findC K n 6 = some a) (hs : a.sigs = g :: r) (hc : ¬ (nameOK n = true ∧ nameOK g.zone = true ∧ inN n g.zone = true ∧ n ≠ g.zone)) : wayC K (f + 1) n l = ([], qNil, 31) := by
  rw [wayC_sig hr h hs, if_pos]
  revert hc
  cases nameOK n <;> cases nameOK g.zone <;> cases inN n g.zone <;> simp
theorem wayC_go {f : Nat} {n : Bytes} {l : List Bytes} {a : SignedC} {g : Sig} {r : List Sig} (hr : n ≠ [46]) (h : findC K n 6 = some a) (hs : a.sigs = g :: r) (hc : nameOK n = true ∧ nameOK g.zone = true ∧ inN n g.zone = true ∧ n ≠ g.zone) : wayC K (f + 1) n l = wayC K f g.zone (l ++ [g.zone]) := by
  rw [wayC_sig hr h hs, if_neg]
  simp [hc]
/-- How one step of a way goes. -/
theorem way_cases (K : List SignedC) (n : Bytes) : n = [46] ∨ (n ≠ [46] ∧ (findC K n 6 = none ∨ ∃ a, findC K n 6 = some a ∧ (a.sigs = [] ∨ ∃ g r, a.sigs = g :: r ∧ ((nameOK n = true ∧ nameOK g.zone = true ∧ inN n g.zone = true ∧ n ≠ g.zone) ∨ ¬ (nameOK n = true ∧ nameOK g.zone = true ∧ inN n g.zone = true ∧ n ≠ g.zone))))) := by
  by_cases hr : n = [46]
  · exact .inl hr
  · refine .inr ⟨hr, ?_⟩
    cases hf : findC K n 6 with
    | none => exact .inl rfl
    | some a =>
      refine .inr ⟨a, rfl, ?_⟩
      cases hs : a.sigs with
      | nil => exact .inl rfl
      | cons g r => exact .inr ⟨g, r, rfl, Classical.em _⟩
theorem wayC_fuel : ∀ {f f' : Nat} {n : Bytes} {l : List Bytes}, nameOK n = true → meas n < f → meas n < f' → wayC K f n l = wayC K f' n l
  | 0, _, _, _, _, h, _ => by omega
  | _, 0, _, _, _, _, h => by omega
  | f + 1, f' + 1, n, l, hn, h1, h2 => by
    rcases way_cases K n with rfl | ⟨hr, hf | ⟨a, hf, hs | ⟨g, r, hs, hc | hc⟩⟩⟩
    · rw [wayC_root, wayC_root]
    · rw [wayC_none hr hf, wayC_none hr hf]
    · rw [wayC_nosig hr hf hs, wayC_nosig hr hf hs]
    · have hm := meas_up hn hc.2.1 hc.2.2.1 hc.2.2.2 hr
      rw [wayC_go hr hf hs hc, wayC_go hr hf hs hc]
      exact wayC_fuel hc.2.1 (by omega) (by omega)
    · rw [wayC_stop hr hf hs hc, wayC_stop hr hf hs hc]
theorem wayC_app (p : List Bytes) : ∀ {f : Nat} {n : Bytes} {l : List Bytes}, wayC K f n (p ++ l) = if (wayC K f n l).2.2 = 0 then (p ++ (wayC K f n l).1, (wayC K f n l).2) else wayC K f n l
  | 0, _, _ => by simp [wayC]
  | f + 1, n, l => by
    rcases way_cases K n with rfl | ⟨hr, hf | ⟨a, hf, hs | ⟨g, r, hs, hc | hc⟩⟩⟩
    · rw [wayC_root, wayC_root]; rfl
    · rw [wayC_none hr hf, wayC_none hr hf]; rfl
    · rw [wayC_nosig hr hf hs, wayC_nosig hr hf hs]; rfl
    · rw [wayC_go hr hf hs hc, wayC_go hr hf hs hc, List.append_assoc]
      exact wayC_app p
    · rw [wayC_stop hr hf hs hc, wayC_stop hr hf hs hc]; rfl
theorem wayC_facts : ∀ {f : Nat} {n : Bytes} {l w : List Bytes} {q : Question} {e : Int}, wayC K f n l = (w, q, e) → (e = 0 ∧ q = qNil) ∨ (e = 4 ∧ w = [] ∧ q.typ = 6 ∧ findC K q.name 6 = none) ∨ (e = 31 ∧ w = [] ∧ q = qNil)
  | 0, _, _, _, _, _, h => by
    simp only [wayC, Prod.mk.injEq] at h
    exact .inl ⟨h.2.2.symm, h.2.1.symm⟩
  | f + 1, n, l, w, q, e, h => by
    rcases way_cases K n with rfl | ⟨hr, hf | ⟨a, hf, hs | ⟨g, r, hs, hc | hc⟩⟩⟩
    · rw [wayC_root] at h
      simp only [Prod.mk.injEq] at h
      exact .inl ⟨h.2.2.symm, h.2.1.symm⟩
    · rw [wayC_none hr hf] at h
      simp only [Prod.mk.injEq] at h
      obtain ⟨h1, h2, h3⟩ := h
      subst h2
      exact .inr (.inl ⟨h3.symm, h1.symm, rfl, hf⟩)
    · rw [wayC_nosig hr hf hs] at h
      simp only [Prod.mk.injEq] at h
      exact .inr (.inr ⟨h.2.2.symm, h.1.symm, h.2.1.symm⟩)
    · rw [wayC_go hr hf hs hc] at h
      exact wayC_facts h
    · rw [wayC_stop hr hf hs hc] at h
      simp only [Prod.mk.injEq] at h
      exact .inr (.inr ⟨h.2.2.symm, h.1.symm, h.2.1.symm⟩)
theorem way_head {zone : Bytes} {w : List Bytes} {q : Question} (hn : nameOK zone = true) (hz : zone ≠ [46]) (h : wayC K 100 zone [zone] = (w, q, 0)) : ∃ a g r up, findC K zone 6 = some a ∧ a.sigs = g :: r ∧ nameOK g.zone = true ∧ inN zone g.zone = true ∧ zone ≠ g.zone ∧ wayC K 100 g.zone [g.zone] = (up, q, 0) ∧ w = zone :: up := by
  rcases way_cases K zone with hr | ⟨hr, hf | ⟨a, hf, hs | ⟨g, r, hs, hc | hc⟩⟩⟩
  · exact absurd hr hz
  · rw [wayC_none hr hf] at h; simp at h
  · rw [wayC_nosig hr hf hs] at h; simp at h
  · have hm := meas_up hn hc.2.1 hc.2.2.1 hc.2.2.2 hr
    have hml := meas_le hn
    rw [wayC_go hr hf hs hc, wayC_app [zone], wayC_fuel (f := 99) (f' := 100) hc.2.1 (by omega) (by omega)] at h
    obtain ⟨⟨w', q', e'⟩, hr'⟩ : ∃ r, r = wayC K 100 g.zone [g.zone] := ⟨_, rfl⟩
    rw [← hr'] at h
    simp only at h
    by_cases he : e' = 0
    · rw [if_pos he] at h
      simp only [Prod.mk.injEq] at h
      refine ⟨a, g, r, w', hf, hs, hc.2.1, hc.2.2.1, hc.2.2.2, ?_, h.1.symm⟩
      rw [← hr', h.2.1, he]
    · rw [if_neg he] at h
      simp only [Prod.mk.injEq] at h
      exact absurd h.2.2 he
  · rw [wayC_stop hr hf hs hc] at h; simp at h
theorem way_first {zone : Bytes} {w : List Bytes} {q : Question} (hn : nameOK zone = true) (h : wayC K 100 zone [zone] = (w, q, 0)) : ∃ up, w = zone :: up := by
  by_cases hz : zone = [46]
  · subst hz
    rw [wayC_root] at h
    simp only [Prod.mk.injEq] at h
    exact ⟨[], h.1.symm⟩
  · obtain ⟨_, _, _, up, _, _, _, _, _, _, hw⟩ := way_head hn hz h
    exact ⟨up, hw⟩
variable {A : SetC} {t d : Int}
theorem followC_facts : ∀ {l : List Bytes} {ks : List KeyC} {q : Question} {e : Int}, followC K A t d l = (ks, q, e) → (e = 0 ∧ q = qNil) ∨ (e = 4 ∧ ks = [] ∧ q.typ = 7 ∧ findC K q.name 7 = none) ∨ (e = 31 ∧ ks = [] ∧ q = qNil)
  | [], ks, q, e, h => by
    simp only [followC, Prod.mk.injEq] at h
    exact .inl ⟨h.2.2.symm, h.2.1.symm⟩
  | z :: up, ks, q, e, h => by
    obtain ⟨⟨ks', q', e'⟩, hr'⟩ : ∃ r, r = followC K A t d up := ⟨_, rfl⟩
    by_cases he : e' = 0
    · subst he
      rw [followC_step hr'.symm] at h
      cases ha : anchorsOf K A t d z up ks' with
      | none =>
        rw [ha] at h
        simp only [Prod.mk.injEq] at h
        exact .inr (.inr ⟨h.2.2.symm, h.1.symm, h.2.1.symm⟩)
      | some an =>
        rw [ha] at h
        cases hf : findC K z 7 with
        | none =>
          rw [hf] at h
          simp only [Prod.mk.injEq] at h
          obtain ⟨h1, h2, h3⟩ := h
          subst h2
          exact .inr (.inl ⟨h3.symm, h1.symm, rfl, hf⟩)
        | some k =>
          rw [hf] at h
          simp only at h
          split at h
          · simp only [Prod.mk.injEq] at h
            exact .inl ⟨h.2.2.symm, h.2.1.symm⟩
          · simp only [Prod.mk.injEq] at h
            exact .inr (.inr ⟨h.2.2.symm, h.1.symm, h.2.1.symm⟩)
    · rw [followC_err hr'.symm he] at h
      have := followC_facts hr'.symm
      simp only [Prod.mk.injEq] at h
      obtain ⟨rfl, rfl, rfl⟩ := h
      exact this
def badP (known : List SignedC) (anchor : SetC) (zone : Bytes) (at_ drift : Int) : Bool :=
  decide (known.length > 400) || !setOK anchor || !decide (anchor.typ = 6) || !decide (anchor.name = [46]) || !nameOK zone || wild zone || !whenOK at_ drift || known.any (fun s => !setOK s.set)
theorem pathC_bad {zone : Bytes} (h : badP K A zone t d = true) : pathC K A zone t d = ([], qNil, 1) := if_pos h
theorem pathC_good {zone : Bytes} (h : badP K A zone t d = false) : pathC K A zone t d = if (wayC K 100 zone [zone]).2.2 = 0 then followC K A t d (wayC K 100 zone [zone]).1 else ([], (wayC K 100 zone [zone]).2.1, (wayC K 100 zone [zone]).2.2) := if_neg (by rw [show (decide (K.length > 400) || !setOK A || !decide (A.typ = 6) || !decide (A.name = [46]) || !nameOK zone || wild zone || !whenOK t d || K.any (fun s => !setOK s.set)) = false from h]; simp)
theorem badP_name {zone : Bytes} (h : badP K A zone t d = false) : nameOK zone = true := by
  unfold badP at h
  simp only [Bool.or_eq_false_iff, Bool.not_eq_false'] at h
  exact h.1.1.1.2
theorem badP_other {zone z : Bytes} (h : badP K A zone t d = false) (hz : nameOK z = true) (hw : wild z = false) : badP K A z t d = false := by
  unfold badP at h ⊢
  simp only [Bool.or_eq_false_iff, Bool.not_eq_false'] at h ⊢
  exact ⟨⟨⟨⟨h.1.1.1.1, hz⟩, hw⟩, h.1.2⟩, h.2⟩
theorem pathC_facts {zone : Bytes} {ks : List KeyC} {q : Question} {e : Int} (h : pathC K A zone t d = (ks, q, e)) : (e = 0 ∧ q = qNil) ∨ (e ≠ 0 ∧ ks = [] ∧ ((e = 4 ∧ (q.typ = 6 ∨ q.typ = 7) ∧ findC K q.name q.typ = none) ∨ (e ≠ 4 ∧ q = qNil))) := by
  cases hb : badP K A zone t d with
  | true =>
    rw [pathC_bad hb] at h
    simp only [Prod.mk.injEq] at h
    obtain ⟨rfl, rfl, rfl⟩ := h
    exact .inr ⟨by decide, rfl, .inr ⟨by decide, rfl⟩⟩
  | false =>
    rw [pathC_good hb] at h
    obtain ⟨⟨w, q', e'⟩, hr⟩ : ∃ r, r = wayC K 100 zone [zone] := ⟨_, rfl⟩
    rw [← hr] at h
    simp only at h
    by_cases he : e' = 0
    · rw [if_pos he] at h
      rcases followC_facts h with ⟨h1, h2⟩ | ⟨h1, h2, h3, h4⟩ | ⟨h1, h2, h3⟩
      · exact .inl ⟨h1, h2⟩
      · exact .inr ⟨by omega, h2, .inl ⟨h1, .inr h3, by rw [h3]; exact h4⟩⟩
      · exact .inr ⟨by omega, h2, .inr ⟨by omega, h3⟩⟩
    · rw [if_neg he] at h
      simp only [Prod.mk.injEq] at h
      obtain ⟨rfl, rfl, rfl⟩ := h
      rcases wayC_facts hr.symm with ⟨h1, h2⟩ | ⟨h1, h2, h3, h4⟩ | ⟨h1, h2, h3⟩
      · exact absurd h1 he
      · exact .inr ⟨he, rfl, .inl ⟨h1, .inl h3, by rw [h3]; exact h4⟩⟩
      · exact .inr ⟨he, rfl, .inr ⟨by omega, h3⟩⟩
/-- The law of chains. -/
theorem chains {zone : Bytes} {ks : List KeyC} {q : Question} (h : pathC K A zone t d = (ks, q, 0)) : ∃ k, findC K zone 7 = some k ∧ ks = keysOf k.set ∧ q = qNil ∧ (zone = [46] → matches_ A k t d = true) ∧ (zone ≠ [46] → ∃ a g r above, findC K zone 6 = some a ∧ a.sigs = g :: r ∧ matches_ a.set k t d = true ∧ pathC K A g.zone t d = (above, qNil, 0) ∧ inN zone g.zone = true ∧ g.zone ≠ zone ∧ signedBy a g.zone above t d = true) := by
  have hb : badP K A zone t d = false := by
    cases hb : badP K A zone t d with
    | false => rfl
    | true => rw [pathC_bad hb] at h; simp at h
  have hn := badP_name hb
  rw [pathC_good hb] at h
  obtain ⟨⟨w, q', e'⟩, hr⟩ : ∃ r, r = wayC K 100 zone [zone] := ⟨_, rfl⟩
  rw [← hr] at h
  simp only at h
  by_cases he : e' = 0
  · subst he
    rw [if_pos rfl] at h
    have hq : q = qNil := by
      rcases followC_facts h with ⟨_, h2⟩ | ⟨h1, _⟩ | ⟨h1, _⟩
      · exact h2
      · cases h1
      · cases h1
    by_cases hz : zone = [46]
    · subst hz
      rw [wayC_root] at hr
      simp only [Prod.mk.injEq] at hr
      obtain ⟨rfl, _⟩ := hr
      rw [followC_step (keys := []) (q := qNil) rfl, anch_root rfl] at h
      cases hf : findC K [46] 7 with
      | none => rw [hf] at h; simp at h
      | some k =>
        rw [hf] at h
        simp only at h
        split at h
        · simp only [Prod.mk.injEq] at h
          exact ⟨k, rfl, h.1.symm, hq, fun _ => by assumption, fun h => absurd rfl h⟩
        · simp at h
    · obtain ⟨a, g, r, up, hfa, hs, hgz, hin, hne, hup, rfl⟩ := way_head hn hz hr.symm
      obtain ⟨rest, rfl⟩ := way_first hgz hup
      obtain ⟨⟨ks', q2, e2⟩, hr2⟩ : ∃ r, r = followC K A t d (g.zone :: rest) := ⟨_, rfl⟩
      by_cases he2 : e2 = 0
      · subst he2
        have hq2 : q2 = qNil := by
          rcases followC_facts hr2.symm with ⟨_, h2⟩ | ⟨h1, _⟩ | ⟨h1, _⟩
          · exact h2
          · cases h1
          · cases h1
        rw [followC_step hr2.symm] at h
        unfold anchorsOf at h
        rw [if_neg hz, hfa] at h
        simp only at h
        cases hsb : signedBy a g.zone ks' t d with
        | false => rw [hsb] at h; simp at h
        | true =>
          rw [hsb, if_pos rfl] at h
          simp only at h
          cases hf : findC K zone 7 with
          | none => rw [hf] at h; simp at h
          | some k =>
            rw [hf] at h
            simp only at h
            split at h
            · simp only [Prod.mk.injEq] at h
              refine ⟨k, rfl, h.1.symm, hq, fun h => absurd h hz, fun _ => ⟨a, g, r, ks', hfa, hs, by assumption, ?_, hin, fun h => hne h.symm, hsb⟩⟩
              rw [pathC_good (badP_other hb hgz (wild_above hn hin hne)), hup]
              simp only [if_true]
              rw [← hr2, hq2]
            · simp at h
      · rw [followC_err hr2.symm he2] at h
        simp only [Prod.mk.injEq] at h
        exact absurd h.2.2 he2
  · rw [if_neg he] at h
    simp only [Prod.mk.injEq] at h
    exact absurd h.2.2 he
/-! ### further sets -/
theorem find_more {n : Bytes} {k : Int} {x : SignedC} (h : findC K n k = some x) : findC (K ++ M) n k = some x := by
  unfold findC at *
  rw [List.find?_append, h]; rfl
theorem find_still {n : Bytes} {k : Int} (h : findC K n k = none) (h' : findC M n k = none) : findC (K ++ M) n k = none := by
  unfold findC at *
  rw [List.find?_append, h, h']; rfl
theorem way_more : ∀ {f : Nat} {n : Bytes} {l w : List Bytes} {q : Question} {e : Int}, wayC K f n l = (w, q, e) → (e = 4 → findC M q.name 6 = none) → wayC (K ++ M) f n l = (w, q, e)
  | 0, _, _, _, _, _, h, _ => h
  | f + 1, n, l, w, q, e, h, hm => by
    rcases way_cases K n with rfl | ⟨hr, hf | ⟨a, hf, hs | ⟨g, r, hs, hc | hc⟩⟩⟩
    · rw [wayC_root] at h ⊢; exact h
    · rw [wayC_none hr hf] at h
      simp only [Prod.mk.injEq] at h
      obtain ⟨rfl, rfl, rfl⟩ := h
      rw [wayC_none hr (find_still hf (hm rfl))]
    · rw [wayC_nosig hr hf hs] at h
      rw [wayC_nosig hr (find_more hf) hs]; exact h
    · rw [wayC_go hr hf hs hc] at h
      rw [wayC_go hr (find_more hf) hs hc]
      exact way_more h hm
    · rw [wayC_stop hr hf hs hc] at h
      rw [wayC_stop hr (find_more hf) hs hc]; exact h
theorem way_found : ∀ {f : Nat} {n : Bytes} {l w : List Bytes} {q : Question}, wayC K f n l = (w, q, 0) → nameOK n = true → meas n < f → (∀ z ∈ l, z = n ∨ z = [46] ∨ findC K z 6 ≠ none) → ∀ z ∈ w, z = [46] ∨ findC K z 6 ≠ none
  | 0, _, _, _, _, _, _, h, _ => by omega
  | f + 1, n, l, w, q, h, hn, hm, hl => by
    rcases way_cases K n with rfl | ⟨hr, hf | ⟨a, hf, hs | ⟨g, r, hs, hc | hc⟩⟩⟩
    · rw [wayC_root] at h
      simp only [Prod.mk.injEq] at h
      obtain ⟨rfl, _⟩ := h
      intro z hz
      rcases hl z hz with h | h | h
      · exact .inl h
      · exact .inl h
      · exact .inr h
    · rw [wayC_none hr hf] at h; simp at h
    · rw [wayC_nosig hr hf hs] at h; simp at h
    · have hmu := meas_up hn hc.2.1 hc.2.2.1 hc.2.2.2 hr
      rw [wayC_go hr hf hs hc] at h
      refine way_found h hc.2.1 (by omega) ?_
      intro z hz
      rcases List.mem_append.1 hz with h | h
      · rcases hl z h with h | h | h
        · exact .inr (.inr (by rw [h, hf]; simp))
        · exact .inr (.inl h)
        · exact .inr (.inr h)
      · exact .inl (List.mem_singleton.1 h)
    · rw [wayC_stop hr hf hs hc] at h; simp at h
theorem anch_more {z : Bytes} {up : List Bytes} {keys : List KeyC} (h : z = [46] ∨ findC K z 6 ≠ none) : anchorsOf (K ++ M) A t d z up keys = anchorsOf K A t d z up keys := by
  unfold anchorsOf
  by_cases hz : z = [46]
  · rw [if_pos hz, if_pos hz]
  · rw [if_neg hz, if_neg hz]
    cases hf : findC K z 6 with
    | none => exact absurd hf (h.resolve_left hz)
    | some a => rw [find_more hf]
theorem follow_more : ∀ {l : List Bytes} {ks : List KeyC} {q : Question} {e : Int}, (∀ z ∈ l, z = [46] ∨ findC K z 6 ≠ none) → followC K A t d l = (ks, q, e) → (e = 4 → findC M q.name 7 = none) → followC (K ++ M) A t d l = (ks, q, e)
  | [], _, _, _, _, h, _ => h
  | z :: up, ks, q, e, hl, h, hm => by
    obtain ⟨⟨ks', q', e'⟩, hr'⟩ : ∃ r, r = followC K A t d up := ⟨_, rfl⟩
    by_cases he : e' = 0
    · subst he
      have hu : followC (K ++ M) A t d up = (ks', q', 0) := follow_more (fun z hz => hl z (List.mem_cons_of_mem _ hz)) hr'.symm (fun h => by cases h)
      rw [followC_step hr'.symm] at h
      rw [followC_step hu, anch_more (hl z (List.mem_cons_self ..))]
      cases ha : anchorsOf K A t d z up ks' with
      | none => rw [ha] at h; exact h
      | some an =>
        rw [ha] at h
        simp only at h ⊢
        cases hf : findC K z 7 with
        | none =>
          rw [hf] at h
          simp only [Prod.mk.injEq] at h
          obtain ⟨rfl, rfl, rfl⟩ := h
          rw [find_still hf (hm rfl)]
        | some k =>
          rw [hf] at h
          rw [find_more hf]
          exact h
    · rw [followC_err hr'.symm he] at h
      simp only [Prod.mk.injEq] at h
      obtain ⟨rfl, rfl, rfl⟩ := h
      exact followC_err (follow_more (fun z hz => hl z (List.mem_cons_of_mem _ hz)) hr'.symm hm) he
theorem badP_more {zone : Bytes} (hK : K.length ≤ 30) (hM : M.length ≤ 30) : badP (K ++ M) A zone t d = (badP K A zone t d || M.any (fun s => !setOK s.set)) := by
  unfold badP
  rw [decide_eq_false (show ¬ (K ++ M).length > 400 by rw [List.length_append]; omega), decide_eq_false (show ¬ K.length > 400 by omega), List.any_append, ← Bool.or_assoc]
/-- The law of further sets: nothing but what was missing may turn. -/
theorem path_more {zone : Bytes} {ks : List KeyC} {q : Question} {e : Int} (hK : K.length ≤ 30) (hM : M.length ≤ 30) (h : pathC K A zone t d = (ks, q, e)) (hb : badP (K ++ M) A zone t d = false) (hm : e = 4 → findC M q.name q.typ = none) : pathC (K ++ M) A zone t d = (ks, q, e) := by
  have hb0 : badP K A zone t d = false := by
    rw [badP_more hK hM, Bool.or_eq_false_iff] at hb
    exact hb.1
  have hn := badP_name hb0
  rw [pathC_good hb0] at h
  rw [pathC_good hb]
  obtain ⟨⟨w, q', e'⟩, hr⟩ : ∃ r, r = wayC K 100 zone [zone] := ⟨_, rfl⟩
  rw [← hr] at h
  simp only at h
  by_cases he : e' = 0
  · subst he
    rw [if_pos rfl] at h
    rw [way_more hr.symm (fun h => by cases h)]
    simp only [if_true]
    refine follow_more (way_found hr.symm hn (by have := meas_le hn; omega) (fun z hz => .inl (List.mem_singleton.1 hz))) h ?_
    intro h4
    rcases followC_facts h with ⟨h1, _⟩ | ⟨_, _, h3, _⟩ | ⟨h1, _⟩
    · omega
    · rw [← h3]; exact hm h4
    · omega
  · rw [if_neg he] at h
    simp only [Prod.mk.injEq] at h
    obtain ⟨rfl, rfl, rfl⟩ := h
    have hw : wayC (K ++ M) 100 zone [zone] = (w, q', e') := by
      refine way_more hr.symm ?_
      intro h4
      rcases wayC_facts hr.symm with ⟨h1, _⟩ | ⟨_, _, h3, _⟩ | ⟨h1, _⟩
      · omega
      · rw [← h3]; exact hm h4
      · omega
    rw [hw]
    exact if_neg he
theorem path_arg {zone : Bytes} {ks : List KeyC} {q : Question} {e : Int} (h : pathC K A zone t d = (ks, q, e)) : e = 1 ↔ badP K A zone t d = true := by
  constructor
  · rintro rfl
    cases hb : badP K A zone t d with
    | true => rfl
    | false =>
      rw [pathC_good hb] at h
      obtain ⟨⟨w, q', e'⟩, hr⟩ : ∃ r, r = wayC K 100 zone [zone] := ⟨_, rfl⟩
      rw [← hr] at h
      simp only at h
      split at h
      · rcases followC_facts h with ⟨h1, _⟩ | ⟨h1, _⟩ | ⟨h1, _⟩ <;> cases h1
      · simp only [Prod.mk.injEq] at h
        obtain ⟨_, _, rfl⟩ := h
        rcases wayC_facts hr.symm with ⟨h1, _⟩ | ⟨h1, _⟩ | ⟨h1, _⟩ <;> cases h1
  · intro hb
    rw [pathC_bad hb] at h
    simp only [Prod.mk.injEq] at h
    exact h.2.2.symm
theorem knownI_neg {l : List SignedC} {n : Bytes} {k : Int} : knownI l n k < 0 ↔ findC l n k = none := by
  unfold knownI findC
  cases h : l.findIdx? (isSet n k) with
  | none =>
    simp only
    rw [List.findIdx?_eq_none_iff] at h
    exact ⟨fun _ => List.find?_eq_none.2 (fun x hx => by rw [h x hx]; simp), fun _ => by decide⟩
  | some i =>
    simp only
    obtain ⟨hi, hp, _⟩ := List.findIdx?_eq_some_iff_getElem.1 h
    refine ⟨fun h => by omega, fun h => ?_⟩
    have := List.find?_eq_none.1 h _ (List.getElem_mem hi)
    exact absurd hp this
theorem knownI_some {l : List SignedC} {n : Bytes} {k : Int} {x : SignedC} (h : findC l n k = some x) : ∃ i : Nat, knownI l n k = i ∧ l[i]? = some x := by
  unfold knownI
  unfold findC at h
  obtain ⟨hp, i, hi, hx, hj⟩ := List.find?_eq_some_iff_getElem.1 h
  refine ⟨i, ?_, by rw [List.getElem?_eq_getElem hi, hx]⟩
  rw [List.findIdx?_eq_some_iff_getElem.2 ⟨hi, by rw [hx]; exact hp, fun j hj' => by simpa using hj j hj'⟩]
end
end Go.Proofs.YtfbhcemlnojejaaDoor
