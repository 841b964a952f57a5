/- What is due: the plain law. -/
import Derived.Test.YtogcofeencgipaaGreatDoorZQN
namespace Go.Proofs.YtogcofeencgipaaGreatDoor
set_option linter.unusedVariables false
set_option linter.unusedSimpArgs false
open Go
section
variable {uses : List Use} {now early often : Int}
theorem mem_step (cs : List EntryC) : ∀ (acc : List Question) (q : Question), q ∈ cs.foldl (dueStep uses now early often) acc ↔ q ∈ acc ∨ ∃ e ∈ cs, dueE uses now early often e = true ∧ qOf e = q := by
  induction cs with
  | nil => intro acc q; simp
  | cons e cs ih =>
    intro acc q
    rw [List.foldl_cons, ih]
    unfold dueStep
    simp only [List.mem_cons, exists_eq_or_imp]
    cases hd : dueE uses now early often e with
    | false => simp
    | true =>
      by_cases hm : qOf e ∈ acc
      · rw [decide_eq_true hm, if_neg (by decide)]
        constructor
        · rintro (h | h)
          · exact .inl h
          · exact .inr (.inr h)
        · rintro (h | ⟨_, rfl⟩ | h)
          · exact .inl h
          · exact .inl hm
          · exact .inr h
      · rw [decide_eq_false hm, if_pos (by decide)]
        constructor
        · rintro (h | h)
          · rcases List.mem_append.1 h with h | h
            · exact .inl h
            · exact .inr (.inl ⟨rfl, (List.mem_singleton.1 h).symm⟩)
          · exact .inr (.inr h)
        · rintro (h | ⟨_, rfl⟩ | h)
          · exact .inl (List.mem_append_left _ h)
          · exact .inl (List.mem_append_right _ (List.mem_singleton.2 rfl))
          · exact .inr h
theorem mem_due {cs : List EntryC} {q : Question} : q ∈ dueL uses now early often cs ↔ ∃ e ∈ cs, dueE uses now early often e = true ∧ qOf e = q := by
  unfold dueL; rw [mem_step]; simp
theorem nodup_step (cs : List EntryC) : ∀ (acc : List Question), acc.Nodup → (cs.foldl (dueStep uses now early often) acc).Nodup := by
  induction cs with
  | nil => intro acc h; exact h
  | cons e cs ih =>
    intro acc h
    rw [List.foldl_cons]
    apply ih
    unfold dueStep
    split
    · rename_i hc
      rw [Bool.and_eq_true, Bool.not_eq_true', decide_eq_false_iff_not] at hc
      exact List.nodup_append.2 ⟨h, by simp, fun a ha b hb => by
        rw [List.mem_singleton] at hb
        subst hb
        rintro rfl
        exact hc.2 ha⟩
    · exact h
theorem nodup_due (cs : List EntryC) : (dueL uses now early often cs).Nodup := nodup_step cs [] List.nodup_nil
theorem len_step (cs : List EntryC) : ∀ (acc : List Question), (cs.foldl (dueStep uses now early often) acc).length ≤ acc.length + cs.countP (dueE uses now early often) := by
  induction cs with
  | nil => intro acc; simp
  | cons e cs ih =>
    intro acc
    rw [List.foldl_cons, List.countP_cons]
    refine Nat.le_trans (ih _) ?_
    unfold dueStep
    cases hd : dueE uses now early often e with
    | false => simp
    | true =>
      split
      · simp <;> omega
      · simp <;> omega
theorem len_due (cs : List EntryC) : (dueL uses now early often cs).length ≤ cs.countP (dueE uses now early often) := by
  have := len_step (uses := uses) (now := now) (early := early) (often := often) cs []
  simpa [dueL] using this
theorem pos_due (cs : List EntryC) : 0 < (dueL uses now early often cs).length ↔ 0 < cs.countP (dueE uses now early often) := by
  rw [List.length_pos_iff_exists_mem, List.countP_pos_iff]
  constructor
  · rintro ⟨q, hq⟩
    obtain ⟨e, h1, h2, _⟩ := mem_due.1 hq
    exact ⟨e, h1, h2⟩
  · rintro ⟨e, h1, h2⟩
    exact ⟨qOf e, mem_due.2 ⟨e, h1, h2, rfl⟩⟩
theorem dueE_mono {early' often' : Int} (h1 : early ≤ early') (h2 : often' ≤ often) {e : EntryC} (h : dueE uses now early often e = true) : dueE uses now early' often' e = true := by
  unfold dueE at h ⊢
  simp only [Bool.and_eq_true, Bool.not_eq_true', decide_eq_true_eq, decide_eq_false_iff_not] at h ⊢
  refine ⟨⟨h.1.1, by omega⟩, ?_⟩
  have h3 := h.2
  cases ht : timesOf uses (qOf e) with
  | none => rw [ht] at h3; cases h3
  | some n =>
    rw [ht] at h3
    simp only [decide_eq_true_eq] at h3 ⊢
    omega
theorem due_mono {early' often' : Int} (h1 : early ≤ early') (h2 : often' ≤ often) {cs : List EntryC} {q : Question} (h : q ∈ dueL uses now early often cs) : q ∈ dueL uses now early' often' cs := by
  obtain ⟨e, h3, h4, h5⟩ := mem_due.1 h
  exact mem_due.2 ⟨e, h3, dueE_mono h1 h2 h4, h5⟩
end
/-- The question was asked often: as the law looks. -/
def askedB (q : Question) (often : Int) (l : List Use) : Bool := l.any fun u => isQ q u && decide (often ≤ u.times)
theorem askedB_up {q : Question} {often : Int} {l : List Use} {k : Nat} (hk : k < l.length) : askedB q often (l.take (k + 1)) = (askedB q often (l.take k) || (isQ q l[k] && decide (often ≤ l[k].times))) := by
  unfold askedB
  rw [List.take_succ_eq_append_getElem hk, List.any_append]; simp
theorem askedB_eq {q : Question} {often : Int} : ∀ {l : List Use}, (l.map Use.q).Nodup → askedB q often l = match timesOf l q with
    | some n => decide (often ≤ n)
    | none => false
  | [], _ => rfl
  | u :: l, h => by
    rw [List.map_cons, List.nodup_cons] at h
    unfold askedB timesOf
    rw [List.any_cons, List.find?_cons]
    by_cases e : u.q = q
    · have hn : (l.any fun u => isQ q u && decide (often ≤ u.times)) = false := by
        rw [List.any_eq_false]
        intro v hv hc
        rw [Bool.and_eq_true] at hc
        exact h.1 (List.mem_map.2 ⟨v, hv, (of_decide_eq_true hc.1 : v.q = q).trans e.symm⟩)
      have h1 : isQ q u = true := decide_eq_true e
      rw [hn, h1, decide_eq_true e, Bool.or_false, Bool.true_and]
      rfl
    · have h1 : isQ q u = false := decide_eq_false e
      rw [h1, decide_eq_false e, Bool.false_and, Bool.false_or]
      exact askedB_eq h.2
theorem dueE_eq {uses : List Use} (hu : usesOK uses = true) {now early often : Int} (e : EntryC) : dueE uses now early often e = (!denial e && decide (now < e.til) && decide (e.til ≤ now + early) && askedB (qOf e) often uses) := by
  unfold dueE
  rw [askedB_eq ((usesOK_iff _).1 hu).2.2]
  congr 2
  rw [← decide_not]
  exact decide_eq_decide.2 Int.not_lt
end Go.Proofs.YtogcofeencgipaaGreatDoor
namespace Go.Proofs.YtogcofeencgipaaGreatDoor
set_option linter.unusedVariables false
set_option linter.unusedSimpArgs false
open Go Go.RowKit
open Enc (enc)
set_option maxRecDepth 20000
def zAns : Answer := ⟨0, Slc.nil _, []⟩
theorem zAns_good (H : Hp) : Enc.good H zAns := ⟨by show I64 0; decide, Slc.nil_good, by show LenOk []; decide⟩
structure DueOK (c : List EntryC) (uses : List Use) (now early often : Int) (l : List Question) : Prop where
  okU : usesOK uses = true
  cache : cacheOK c = true
  time : 0 ≤ now ∧ now ≤ 20000000
  okE : 0 ≤ early ∧ early ≤ 1000000
  okO : 0 ≤ often ∧ often ≤ 1000000
  list : l = dueL uses now early often c
theorem due_cases {c : List EntryC} {uses : List Use} {now early often : Int} {l : List Question} {e : Int} (h : dueC c uses now early often = (l, e)) : (e ≠ 0 ∧ l = []) ∨ (e = 0 ∧ DueOK c uses now early often l) := by
  unfold dueC at h
  split at h
  · cases h; exact .inl ⟨by decide, rfl⟩
  · rename_i h1
    cases h
    unfold isT at h1
    simp only [Bool.not_eq_true', Bool.not_eq_false, Bool.and_eq_true, decide_eq_true_eq] at h1
    exact .inr ⟨rfl, h1.1.1.1, h1.1.1.2, h1.1.2, ⟨h1.2.1, h1.2.2.1⟩, ⟨h1.2.2.2.1, h1.2.2.2.2⟩, rfl⟩
theorem due_yes {c : List EntryC} {uses : List Use} {now early often : Int} (h1 : usesOK uses = true) (h2 : cacheOK c = true) (h3 : 0 ≤ now ∧ now ≤ 20000000) (h4 : 0 ≤ early ∧ early ≤ 1000000) (h5 : 0 ≤ often ∧ often ≤ 1000000) : dueC c uses now early often = (dueL uses now early often c, 0) := by
  unfold dueC isT
  rw [h1, h2, decide_eq_true h3, decide_eq_true ⟨h4.1, h4.2, h5.1, h5.2⟩]; rfl
theorem nodup_take {l : List Question} (h : l.Nodup) {i : Nat} (hi : i < l.length) : l[i] ∉ l.take i := by
  intro hm
  obtain ⟨j, hj, e⟩ := List.mem_iff_getElem.1 hm
  rw [List.length_take] at hj
  rw [List.getElem_take] at e
  have := (List.getElem_inj (h₀ := by omega) (h₁ := hi) h).1 e
  omega
set_option maxHeartbeats 16000000 in
theorem c_PDue (c : Cache) (uses : Slc Use) (now early often more less : Int) (H : Hp) (w : World) (hs : Sat H w) (hR : Rules H) (hg : Enc.good H c) (hu : uses.Good H) (hnow : I64 now) (hea : I64 early) (hof : I64 often) (hmo : 0 ≤ more ∧ more ≤ 255) (hle : 0 ≤ less ∧ less ≤ 255) : Calls Tryz.prog 8 #[.agg (enc c).toArray, uses.v, intV now, intV early, intV often, .int .u8 more, .int .u8 less] w (Ret w (.bool true)) := by
  have hlen := hu.len
  have hlim := hu.lim
  refine T.enter (vs := [.agg (enc c).toArray, uses.v, intV now, intV early, intV often, .int .u8 more, .int .u8 less]) (H := H) Tryz.func8 rfl rfl rfl hs ?_
  obtain ⟨⟨l0, er⟩, hr⟩ : ∃ x, dueC c.c uses.els now early often = x := ⟨_, rfl⟩
  obtain ⟨he0, hl0⟩ | ⟨he0, hok⟩ := due_cases hr
  · subst hl0
    repeat (any_goals (first | refine T.seq ?_ | refine T.region ?_ | (apply T.regionD wide; rfl) | refine TL.nil ?_ | refine N.next ?_ | refine N.inBlock ?_ | refine N.exit_same ?_ | refine N.exit_then ?_ | refine N.ret_then ?_ | refine N.ret_block ?_ | (apply N.exit_other; rfl) | refine T.ret ?_ | refine T.skip ?_ | refine T.exit ?_ | refine T.block ?_ | (apply T.cond_true; rfl) | (apply T.cond_false; rfl) | (apply T.test; rfl; (with_reducible (first | exact Is.ndec | exact Is.dec | exact Is.not | ((fail_if_success exact Is.litT); (fail_if_success exact Is.litF); exact Is.base))); intro _; rotate_left; intro _; rotate_right) | (apply TL.skip; rfl; rfl; rfl) | (apply TL.skip_none; rfl; rfl) | (apply GT.skip; rfl; rfl; rfl; decide +kernel) | (apply TL.x; rfl; rfl; (apply X.box (d := 7); rfl; rfl; rfl); intro b7 _) | (apply TL.callE (f := 25) [] Tryz.call25; rfl; rfl; rfl; rfl; (exact fun _ hs => c_head32 _ _ hs.sat hR)) | (apply GT.callE (f := 25) [] Tryz.call25; rfl; rfl; rfl; rfl; rfl; rfl; (exact fun _ hs => c_head32 _ _ hs.sat hR); decide +kernel) | (apply TL.val; rfl; rfl; (apply V.build; rfl; rfl; rfl; rfl; rfl; rfl)) | (apply GT.pure; rfl; rfl; rfl; rfl; (apply V.build; rfl; rfl; rfl; rfl; rfl; rfl); decide +kernel) | (apply GT.read; rfl; rfl; rfl; rfl; (apply V.build; rfl; rfl; rfl; rfl; rfl; rfl); decide +kernel) | (apply TL.callE (f := 26) [.agg (enc c).toArray, uses.v, .agg (enc zAns).toArray] Tryz.call26; rfl; rfl; rfl; rfl; (exact fun _ hs => c_few32 c uses zAns _ _ hs.sat hg hu (zAns_good _))) | (apply GT.callE (f := 26) [.agg (enc c).toArray, uses.v, .agg (enc zAns).toArray] Tryz.call26; rfl; rfl; rfl; rfl; rfl; rfl; (exact fun _ hs => c_few32 c uses zAns _ _ hs.sat hg hu (zAns_good _)); decide +kernel) | (apply TL.x; rfl; rfl; (apply X.callFE (f := 27) [.agg (enc c).toArray, uses.v, intV now, intV early, intV often] Tryz.call27; rfl; rfl; rfl; exact (fun _ hs => c_DueV c uses now early often hr hs.sat hR hg hu hnow hea hof)); intro p hp; have hpl : p.2.len = 0 := (by rw [← hp.1.2.len, hp.1.1]; rfl)) | (apply TL.val; rfl; rfl; (first | exact vpure | exact vread)) | (apply GT.pure; rfl; rfl; rfl; rfl; (first | exact vpure); decide +kernel) | (apply GT.read; rfl; rfl; rfl; rfl; (first | exact vpure | exact vread); decide +kernel) | (apply GT.done; decide +kernel; apply N.ofQ) | (apply GT.adv; rfl) | (apply TL.x; rfl; rfl; (first | exact xgrow | exact xput); intro _ _) | (apply GS.grow; rfl; rfl; (first | exact xgrow); intro _ _) | (apply GS.eff; rfl; decide +kernel; rfl; (first | exact xput); intro _ _) | (apply TL.guard; rfl; rfl; rfl; (with_reducible (first | exact Is.ndec | exact Is.dec | exact Is.not | ((fail_if_success exact Is.litT); (fail_if_success exact Is.litF); exact Is.base))); intro _; rotate_left; intro _; rotate_right) | (apply GT.guard; rfl; rfl; rfl; rfl; (with_reducible (first | exact Is.ndec | exact Is.dec | exact Is.not | ((fail_if_success exact Is.litT); (fail_if_success exact Is.litF); exact Is.base))); intro _; rotate_left; intro _; rotate_right) | (apply GT.fork1; decide +kernel) | (apply GT.fork2 1; decide +kernel) | (apply GT.fork2 2; decide +kernel) | (apply GT.fork2 3; decide +kernel) | (apply GT.fork2 4; decide +kernel) | (apply GT.fork2 5; decide +kernel) | (apply GT.fork2 6; decide +kernel) | (apply GT.fork2 7; decide +kernel) | (apply GT.fork2 8; decide +kernel) | (apply GT.fork2 9; decide +kernel) | (apply GT.fork2 10; decide +kernel) | (apply GT.fork2 11; decide +kernel) | (apply GT.fork2 12; decide +kernel) | (apply GT.fork2 13; decide +kernel) | (apply GT.fork2 14; decide +kernel) | (apply GT.fork2 15; decide +kernel) | (apply GT.fork2 16; decide +kernel) | (apply GT.fork2 17; decide +kernel) | (apply GT.fork2 18; decide +kernel) | (apply GT.fork2 19; decide +kernel) | (apply GT.fork2 20; decide +kernel) | (apply GT.fork2 21; decide +kernel) | (apply GT.fork2 22; decide +kernel) | (apply GT.fork2 23; decide +kernel)))
    all_goals (try contradiction)
    all_goals (try (exfalso; omega))
    all_goals first
      | exact N.ret_bool rfl (by (exact rvx)) rfl
      | exact N.ret_bool rfl (by (exact rvx)) (decide_eq_true (by omega))
  · subst he0
    obtain ⟨k1, k2, k3, k4, k5, k6⟩ := hok
    subst k6
    have hcl := cache_len hg k2
    have g8 : c.list.Good H := hg
    have hcn : c.list.els.length = c.list.len := g8.len
    have hcm := g8.lim
    have hul := ((usesOK_iff _).1 k1).1
    repeat (any_goals (first | refine T.seq ?_ | refine T.region ?_ | (apply T.regionD wide; rfl) | refine TL.nil ?_ | refine N.next ?_ | refine N.inBlock ?_ | refine N.exit_same ?_ | refine N.exit_then ?_ | refine N.ret_then ?_ | refine N.ret_block ?_ | (apply N.exit_other; rfl) | refine T.ret ?_ | refine T.skip ?_ | refine T.exit ?_ | refine T.block ?_ | (apply T.cond_true; rfl) | (apply T.cond_false; rfl) | (apply T.test; rfl; (with_reducible (first | exact Is.ndec | exact Is.dec | exact Is.not | ((fail_if_success exact Is.litT); (fail_if_success exact Is.litF); exact Is.base))); intro _; rotate_left; intro _; rotate_right) | (apply TL.skip; rfl; rfl; rfl) | (apply TL.skip_none; rfl; rfl) | (apply GT.skip; rfl; rfl; rfl; decide +kernel) | (apply TL.x; rfl; rfl; (apply X.box (d := 7); rfl; rfl; rfl); intro b7 _) | (apply TL.callE (f := 25) [] Tryz.call25; rfl; rfl; rfl; rfl; (exact fun _ hs => c_head32 _ _ hs.sat hR)) | (apply GT.callE (f := 25) [] Tryz.call25; rfl; rfl; rfl; rfl; rfl; rfl; (exact fun _ hs => c_head32 _ _ hs.sat hR); decide +kernel) | (apply TL.val; rfl; rfl; (apply V.build; rfl; rfl; rfl; rfl; rfl; rfl)) | (apply GT.pure; rfl; rfl; rfl; rfl; (apply V.build; rfl; rfl; rfl; rfl; rfl; rfl); decide +kernel) | (apply GT.read; rfl; rfl; rfl; rfl; (apply V.build; rfl; rfl; rfl; rfl; rfl; rfl); decide +kernel) | (apply TL.callE (f := 26) [.agg (enc c).toArray, uses.v, .agg (enc zAns).toArray] Tryz.call26; rfl; rfl; rfl; rfl; (exact fun _ hs => c_few32 c uses zAns _ _ hs.sat hg hu (zAns_good _))) | (apply GT.callE (f := 26) [.agg (enc c).toArray, uses.v, .agg (enc zAns).toArray] Tryz.call26; rfl; rfl; rfl; rfl; rfl; rfl; (exact fun _ hs => c_few32 c uses zAns _ _ hs.sat hg hu (zAns_good _)); decide +kernel) | (apply TL.x; rfl; rfl; (apply X.callFE (f := 27) [.agg (enc c).toArray, uses.v, intV now, intV early, intV often] Tryz.call27; rfl; rfl; rfl; exact (fun _ hs => c_DueV c uses now early often hr hs.sat hR hg hu hnow hea hof)); intro p hp; have hR1 := hR.mono hp.2; obtain ⟨⟨hp1, hp2⟩, hp3⟩ := hp; have g9 := g8.mono hp3; have hu1 := hu.mono hp3; simp only at hp1) | (apply TL.val; rfl; rfl; (first | exact vpure | exact vread)) | (apply GT.pure; rfl; rfl; rfl; rfl; (first | exact vpure); decide +kernel) | (apply GT.read; rfl; rfl; rfl; rfl; (first | exact vpure | exact vread); decide +kernel) | (apply GT.done; decide +kernel; apply N.ofQ) | (apply GT.adv; rfl) | (apply TL.x; rfl; rfl; (first | exact xgrow | exact xput); intro _ _) | (apply GS.grow; rfl; rfl; (first | exact xgrow); intro _ _) | (apply GS.eff; rfl; decide +kernel; rfl; (first | exact xput); intro _ _) | (apply TL.guard; rfl; rfl; rfl; (with_reducible (first | exact Is.ndec | exact Is.dec | exact Is.not | ((fail_if_success exact Is.litT); (fail_if_success exact Is.litF); exact Is.base))); intro _; rotate_left; intro _; rotate_right) | (apply GT.guard; rfl; rfl; rfl; rfl; (with_reducible (first | exact Is.ndec | exact Is.dec | exact Is.not | ((fail_if_success exact Is.litT); (fail_if_success exact Is.litF); exact Is.base))); intro _; rotate_left; intro _; rotate_right) | (apply GT.fork1; decide +kernel) | (apply GT.fork2 1; decide +kernel) | (apply GT.fork2 2; decide +kernel) | (apply GT.fork2 3; decide +kernel) | (apply GT.fork2 4; decide +kernel) | (apply GT.fork2 5; decide +kernel) | (apply GT.fork2 6; decide +kernel) | (apply GT.fork2 7; decide +kernel) | (apply GT.fork2 8; decide +kernel) | (apply GT.fork2 9; decide +kernel) | (apply GT.fork2 10; decide +kernel) | (apply GT.fork2 11; decide +kernel) | (apply GT.fork2 12; decide +kernel) | (apply GT.fork2 13; decide +kernel) | (apply GT.fork2 14; decide +kernel) | (apply GT.fork2 15; decide +kernel) | (apply GT.fork2 16; decide +kernel) | (apply GT.fork2 17; decide +kernel) | (apply GT.fork2 18; decide +kernel) | (apply GT.fork2 19; decide +kernel) | (apply GT.fork2 20; decide +kernel) | (apply GT.fork2 21; decide +kernel) | (apply GT.fork2 22; decide +kernel) | (apply GT.fork2 23; decide +kernel)))
    all_goals (try (exact N.ret_bool rfl (by (exact rvx)) rfl))
    all_goals (try contradiction)
    all_goals (try (exfalso; omega))
    have hpl := hp2.len
    have hpm := hp2.lim
    obtain ⟨fB, hfB⟩ : ∃ f, dueE uses.els now early often = f := ⟨_, rfl⟩
    refine T.loop (G := Nat) (fun i => [(1, uses.v), (2, intV now), (3, intV early), (4, intV often), (5, .int .u8 more), (6, .int .u8 less), (7, .pointer (some ⟨b7, 0, none⟩)), (15, .bool true), (16, p.2.v), (18, intV ((c.c.take i).countP fB : Nat)), (56, c.list.v), (57, intV c.list.len), (58, intV i)]) (fun _ => p.1) (fun _ => [.blk b7 46 (enc c)]) (fun i => i ≤ c.list.len) (fun i => c.list.len - i) 0 (Nat.zero_le _) (by (repeat (first | exact True.intro | refine ⟨rfl, ?_⟩ | refine Sub.int rfl (by omega) ?_))) rfl (by (repeat (first | exact List.Sublist.refl _ | exact List.nil_sublist _ | apply List.Sublist.cons_cons | apply List.Sublist.cons))) ?_
    intro i hi
    by_cases hlt : i < c.list.len
    · have hk2 : i < c.list.els.length := by omega
      have hx := g9.els _ (List.getElem_mem hk2)
      have hE : c.c.take (i + 1) = c.c.take i ++ [(c.list.els[i]'hk2).c] := by
        show (c.list.els.map Entry.c).take (i + 1) = (c.list.els.map Entry.c).take i ++ _
        rw [List.take_add_one, List.getElem?_map, List.getElem?_eq_getElem hk2]; rfl
      have hmem : (c.list.els[i]'hk2).c ∈ c.c := List.mem_map_of_mem (List.getElem_mem hk2)
      generalize hee : c.list.els[i]'hk2 = e at hE hx hmem
      have hEn : enc (c.list.els[i]'hk2) = enc e := by rw [hee]
      have hqe : Enc.good p.1 (qOf e.c) := ⟨hx.1.1.1, hx.1.1.2.1⟩
      have hdue : fB e.c = (!denial e.c && decide (now < e.til) && decide (e.til ≤ now + early) && askedB (qOf e.c) often uses.els) := by rw [← hfB]; exact dueE_eq k1 e.c
      have hcn2 : (c.c.take i).countP fB ≤ i := Nat.le_trans List.countP_le_length (by rw [List.length_take]; omega)
      have hcT : fB e.c = true → (((c.c.take (i + 1)).countP fB : Nat) : Int) = ((c.c.take i).countP fB : Nat) + 1 := fun h => by
        rw [hE, List.countP_append, List.countP_singleton, h]; rfl
      have hcF : fB e.c = false → (c.c.take (i + 1)).countP fB = (c.c.take i).countP fB := fun h => by
        rw [hE, List.countP_append, List.countP_singleton, h]; rfl
      obtain ⟨lb, hlb⟩ : ∃ lb, decide (qOf e.c ∈ p.2.els) = lb := ⟨_, rfl⟩
      have hld : fB e.c = true → lb = true := fun h => by
        rw [← hlb, hp1]; exact decide_eq_true (mem_due.2 ⟨e.c, hmem, by rw [hfB]; exact h, rfl⟩)
      generalize hcnt : (c.c.take i).countP fB = cnt at hcT hcF hcn2
      repeat (any_goals (first | refine T.seq ?_ | refine T.region ?_ | (apply T.regionD wide; rfl) | refine TL.nil ?_ | refine N.next ?_ | refine N.inBlock ?_ | refine N.exit_same ?_ | refine N.exit_then ?_ | refine N.ret_then ?_ | refine N.ret_block ?_ | (apply N.exit_other; rfl) | refine T.ret ?_ | refine T.skip ?_ | refine T.exit ?_ | refine T.block ?_ | (apply T.cond_true; rfl) | (apply T.cond_false; rfl) | (apply T.test; rfl; (with_reducible (first | exact Is.ndec | exact Is.dec | exact Is.not | ((fail_if_success exact Is.litT); (fail_if_success exact Is.litF); exact Is.base))); intro _; rotate_left; intro _; rotate_right) | (apply TL.skip; rfl; rfl; rfl) | (apply TL.skip_none; rfl; rfl) | (apply GT.skip; rfl; rfl; rfl; decide +kernel) | (apply TL.x; rfl; rfl; (apply X.alloc (d := 20); rfl; rfl; rfl); intro b20 _) | (apply TL.x; rfl; rfl; (apply X.alloc (d := 21); rfl; rfl; rfl); intro b21 _) | (apply TL.x; rfl; rfl; (apply X.storeTo 0 (enc e); rfl; rfl; rfl; rfl; rfl; rfl; rfl; rfl; exact hEn; rfl); intro _ _) | (apply TL.val; rfl; rfl; (apply V.build; rfl; rfl; rfl; rfl; rfl; rfl)) | (apply GT.pure; rfl; rfl; rfl; rfl; (apply V.build; rfl; rfl; rfl; rfl; rfl; rfl); decide +kernel) | (apply GT.read; rfl; rfl; rfl; rfl; (apply V.build; rfl; rfl; rfl; rfl; rfl; rfl); decide +kernel) | (apply TL.x; rfl; rfl; (apply X.storeTo 0 (enc (qOf e.c)); rfl; rfl; rfl; rfl; rfl; rfl; rfl; rfl; rfl; rfl); intro _ _) | (apply GS.eff; rfl; decide +kernel; rfl; (apply X.storeTo 0 (enc (qOf e.c)); rfl; rfl; rfl; rfl; rfl; rfl; rfl; rfl; rfl; rfl); intro _ _) | (apply TL.val; rfl; rfl; (first | exact vpure | exact vread)) | (apply GT.pure; rfl; rfl; rfl; rfl; (first | exact vpure); decide +kernel) | (apply GT.read; rfl; rfl; rfl; rfl; (first | exact vpure | exact vread); decide +kernel) | (apply GT.done; decide +kernel; apply N.ofQ) | (apply GT.adv; rfl) | (apply TL.x; rfl; rfl; (first | exact xgrow | exact xput); intro _ _) | (apply GS.grow; rfl; rfl; (first | exact xgrow); intro _ _) | (apply GS.eff; rfl; decide +kernel; rfl; (first | exact xput); intro _ _) | (apply TL.guard; rfl; rfl; rfl; (with_reducible (first | exact Is.ndec | exact Is.dec | exact Is.not | ((fail_if_success exact Is.litT); (fail_if_success exact Is.litF); exact Is.base))); intro _; rotate_left; intro _; rotate_right) | (apply GT.guard; rfl; rfl; rfl; rfl; (with_reducible (first | exact Is.ndec | exact Is.dec | exact Is.not | ((fail_if_success exact Is.litT); (fail_if_success exact Is.litF); exact Is.base))); intro _; rotate_left; intro _; rotate_right) | (apply GT.fork1; decide +kernel) | (apply GT.fork2 1; decide +kernel) | (apply GT.fork2 2; decide +kernel) | (apply GT.fork2 3; decide +kernel) | (apply GT.fork2 4; decide +kernel) | (apply GT.fork2 5; decide +kernel) | (apply GT.fork2 6; decide +kernel) | (apply GT.fork2 7; decide +kernel) | (apply GT.fork2 8; decide +kernel) | (apply GT.fork2 9; decide +kernel) | (apply GT.fork2 10; decide +kernel) | (apply GT.fork2 11; decide +kernel) | (apply GT.fork2 12; decide +kernel) | (apply GT.fork2 13; decide +kernel) | (apply GT.fork2 14; decide +kernel) | (apply GT.fork2 15; decide +kernel) | (apply GT.fork2 16; decide +kernel) | (apply GT.fork2 17; decide +kernel) | (apply GT.fork2 18; decide +kernel) | (apply GT.fork2 19; decide +kernel) | (apply GT.fork2 20; decide +kernel) | (apply GT.fork2 21; decide +kernel) | (apply GT.fork2 22; decide +kernel) | (apply GT.fork2 23; decide +kernel)))
      all_goals (try (exfalso; omega))
      refine T.loop (G := Nat) (fun j => [(1, uses.v), (2, intV now), (3, intV early), (4, intV often), (5, .int .u8 more), (6, .int .u8 less), (7, .pointer (some ⟨b7, 0, none⟩)), (15, .bool true), (16, p.2.v), (18, intV (cnt : Nat)), (20, .pointer (some ⟨b20, 0, none⟩)), (21, .pointer (some ⟨b21, 0, none⟩)), (22, .bool (askedB (qOf e.c) often (uses.els.take j))), (56, c.list.v), (57, intV c.list.len), (58, intV i), (71, uses.v), (72, intV uses.len), (73, intV j)]) (fun _ => p.1) (fun _ => [.blk b21 23 (enc (qOf e.c)), .blk b20 67 (enc e), .blk b7 46 (enc c)]) (fun j => j ≤ uses.len) (fun j => uses.len - j) 0 (Nat.zero_le _) (by (repeat (first | exact True.intro | refine ⟨rfl, ?_⟩ | refine Sub.int rfl (by omega) ?_))) rfl (by (repeat (first | exact List.Sublist.refl _ | exact List.nil_sublist _ | apply List.Sublist.cons_cons | apply List.Sublist.cons))) ?_
      intro j hj
      by_cases hlt2 : j < uses.len
      · have hj2 : j < uses.els.length := by omega
        have hxu := hu1.els _ (List.getElem_mem hj2)
        have hup := askedB_up (q := qOf e.c) (often := often) hj2
        cases ha : askedB (qOf e.c) often (uses.els.take j) with
        | true =>
          rw [ha, Bool.true_or] at hup
          repeat (any_goals (first | refine T.seq ?_ | refine T.region ?_ | (apply T.regionD wide; rfl) | refine TL.nil ?_ | refine N.next ?_ | refine N.inBlock ?_ | refine N.exit_same ?_ | refine N.exit_then ?_ | refine N.ret_then ?_ | refine N.ret_block ?_ | (apply N.exit_other; rfl) | refine T.ret ?_ | refine T.skip ?_ | refine T.exit ?_ | refine T.block ?_ | (apply T.cond_true; rfl) | (apply T.cond_false; rfl) | (apply T.test; rfl; (with_reducible (first | exact Is.ndec | exact Is.dec | exact Is.not | ((fail_if_success exact Is.litT); (fail_if_success exact Is.litF); exact Is.base))); intro _; rotate_left; intro _; rotate_right) | (apply TL.skip; rfl; rfl; rfl) | (apply TL.skip_none; rfl; rfl) | (apply GT.skip; rfl; rfl; rfl; decide +kernel) | (apply TL.x; rfl; rfl; (apply X.storeTo 0 (enc (uses.els[j]'hj2)); rfl; rfl; rfl; rfl; rfl; rfl; rfl; rfl; rfl; rfl); intro _ _) | (apply GS.eff; rfl; decide +kernel; rfl; (apply X.storeTo 0 (enc (uses.els[j]'hj2)); rfl; rfl; rfl; rfl; rfl; rfl; rfl; rfl; rfl; rfl); intro _ _) | (apply TL.val; rfl; rfl; (first | exact vpure | exact vread)) | (apply GT.pure; rfl; rfl; rfl; rfl; (first | exact vpure); decide +kernel) | (apply GT.read; rfl; rfl; rfl; rfl; (first | exact vpure | exact vread); decide +kernel) | (apply GT.done; decide +kernel; apply N.ofQ) | (apply GT.adv; rfl) | (apply TL.x; rfl; rfl; (first | exact xgrow | exact xput); intro _ _) | (apply GS.grow; rfl; rfl; (first | exact xgrow); intro _ _) | (apply GS.eff; rfl; decide +kernel; rfl; (first | exact xput); intro _ _) | (apply TL.guard; rfl; rfl; rfl; (with_reducible (first | exact Is.ndec | exact Is.dec | exact Is.not | ((fail_if_success exact Is.litT); (fail_if_success exact Is.litF); exact Is.base))); intro _; rotate_left; intro _; rotate_right) | (apply GT.guard; rfl; rfl; rfl; rfl; (with_reducible (first | exact Is.ndec | exact Is.dec | exact Is.not | ((fail_if_success exact Is.litT); (fail_if_success exact Is.litF); exact Is.base))); intro _; rotate_left; intro _; rotate_right) | (apply GT.fork1; decide +kernel) | (apply GT.fork2 1; decide +kernel) | (apply GT.fork2 2; decide +kernel) | (apply GT.fork2 3; decide +kernel) | (apply GT.fork2 4; decide +kernel) | (apply GT.fork2 5; decide +kernel) | (apply GT.fork2 6; decide +kernel) | (apply GT.fork2 7; decide +kernel) | (apply GT.fork2 8; decide +kernel) | (apply GT.fork2 9; decide +kernel) | (apply GT.fork2 10; decide +kernel) | (apply GT.fork2 11; decide +kernel) | (apply GT.fork2 12; decide +kernel) | (apply GT.fork2 13; decide +kernel) | (apply GT.fork2 14; decide +kernel) | (apply GT.fork2 15; decide +kernel) | (apply GT.fork2 16; decide +kernel) | (apply GT.fork2 17; decide +kernel) | (apply GT.fork2 18; decide +kernel) | (apply GT.fork2 19; decide +kernel) | (apply GT.fork2 20; decide +kernel) | (apply GT.fork2 21; decide +kernel) | (apply GT.fork2 22; decide +kernel) | (apply GT.fork2 23; decide +kernel)))
          all_goals (try (exfalso; omega))
          exact N.round (j + 1) (by show j + 1 ≤ _; omega) (by show uses.len - (j + 1) < uses.len - j; omega) (by simp only [hup]; (repeat (first | exact True.intro | refine ⟨rfl, ?_⟩ | refine Sub.int rfl (by omega) ?_))) rfl (by (repeat (first | exact List.Sublist.refl _ | exact List.nil_sublist _ | apply List.Sublist.cons_cons | apply List.Sublist.cons)))
        | false =>
          rw [ha, Bool.false_or] at hup
          by_cases hq : (uses.els[j]'hj2).q = qOf e.c
          · have hiq : isQ (qOf e.c) (uses.els[j]'hj2) = true := decide_eq_true hq
            rw [hiq, Bool.true_and] at hup
            repeat (any_goals (first | refine T.seq ?_ | refine T.region ?_ | (apply T.regionD wide; rfl) | refine TL.nil ?_ | refine N.next ?_ | refine N.inBlock ?_ | refine N.exit_same ?_ | refine N.exit_then ?_ | refine N.ret_then ?_ | refine N.ret_block ?_ | (apply N.exit_other; rfl) | refine T.ret ?_ | refine T.skip ?_ | refine T.exit ?_ | refine T.block ?_ | (apply T.cond_true; rfl) | (apply T.cond_false; rfl) | (apply T.test; rfl; (with_reducible (first | exact Is.ndec | exact Is.dec | exact Is.not | ((fail_if_success exact Is.litT); (fail_if_success exact Is.litF); exact Is.base))); intro _; rotate_left; intro _; rotate_right) | (apply TL.skip; rfl; rfl; rfl) | (apply TL.skip_none; rfl; rfl) | (apply GT.skip; rfl; rfl; rfl; decide +kernel) | (apply TL.x; rfl; rfl; (apply X.storeTo 0 (enc (uses.els[j]'hj2)); rfl; rfl; rfl; rfl; rfl; rfl; rfl; rfl; rfl; rfl); intro _ _) | (apply GS.eff; rfl; decide +kernel; rfl; (apply X.storeTo 0 (enc (uses.els[j]'hj2)); rfl; rfl; rfl; rfl; rfl; rfl; rfl; rfl; rfl; rfl); intro _ _) | (apply TL.val; rfl; rfl; (apply V.aeql (e := true); rfl; rfl; exact Tryz.eqGuardType23; exact fun w => (eq_Question (uses.els[j]'hj2).q (qOf e.c) w).trans (by rw [decide_eq_true hq]))) | (apply GT.pure; rfl; rfl; rfl; rfl; (apply V.aeql (e := true); rfl; rfl; exact Tryz.eqGuardType23; exact fun w => (eq_Question (uses.els[j]'hj2).q (qOf e.c) w).trans (by rw [decide_eq_true hq])); decide +kernel) | (apply GT.read; rfl; rfl; rfl; rfl; (apply V.aeql (e := true); rfl; rfl; exact Tryz.eqGuardType23; exact fun w => (eq_Question (uses.els[j]'hj2).q (qOf e.c) w).trans (by rw [decide_eq_true hq])); decide +kernel) | (apply TL.val; rfl; rfl; (first | exact vpure | exact vread)) | (apply GT.pure; rfl; rfl; rfl; rfl; (first | exact vpure); decide +kernel) | (apply GT.read; rfl; rfl; rfl; rfl; (first | exact vpure | exact vread); decide +kernel) | (apply GT.done; decide +kernel; apply N.ofQ) | (apply GT.adv; rfl) | (apply TL.x; rfl; rfl; (first | exact xgrow | exact xput); intro _ _) | (apply GS.grow; rfl; rfl; (first | exact xgrow); intro _ _) | (apply GS.eff; rfl; decide +kernel; rfl; (first | exact xput); intro _ _) | (apply TL.guard; rfl; rfl; rfl; (with_reducible (first | exact Is.ndec | exact Is.dec | exact Is.not | ((fail_if_success exact Is.litT); (fail_if_success exact Is.litF); exact Is.base))); intro _; rotate_left; intro _; rotate_right) | (apply GT.guard; rfl; rfl; rfl; rfl; (with_reducible (first | exact Is.ndec | exact Is.dec | exact Is.not | ((fail_if_success exact Is.litT); (fail_if_success exact Is.litF); exact Is.base))); intro _; rotate_left; intro _; rotate_right) | (apply GT.fork1; decide +kernel) | (apply GT.fork2 1; decide +kernel) | (apply GT.fork2 2; decide +kernel) | (apply GT.fork2 3; decide +kernel) | (apply GT.fork2 4; decide +kernel) | (apply GT.fork2 5; decide +kernel) | (apply GT.fork2 6; decide +kernel) | (apply GT.fork2 7; decide +kernel) | (apply GT.fork2 8; decide +kernel) | (apply GT.fork2 9; decide +kernel) | (apply GT.fork2 10; decide +kernel) | (apply GT.fork2 11; decide +kernel) | (apply GT.fork2 12; decide +kernel) | (apply GT.fork2 13; decide +kernel) | (apply GT.fork2 14; decide +kernel) | (apply GT.fork2 15; decide +kernel) | (apply GT.fork2 16; decide +kernel) | (apply GT.fork2 17; decide +kernel) | (apply GT.fork2 18; decide +kernel) | (apply GT.fork2 19; decide +kernel) | (apply GT.fork2 20; decide +kernel) | (apply GT.fork2 21; decide +kernel) | (apply GT.fork2 22; decide +kernel) | (apply GT.fork2 23; decide +kernel)))
            all_goals (try (exfalso; omega))
            exact N.round (j + 1) (by show j + 1 ≤ _; omega) (by show uses.len - (j + 1) < uses.len - j; omega) (by simp only [hup]; (repeat (first | exact True.intro | refine ⟨rfl, ?_⟩ | refine Sub.int rfl (by omega) ?_))) rfl (by (repeat (first | exact List.Sublist.refl _ | exact List.nil_sublist _ | apply List.Sublist.cons_cons | apply List.Sublist.cons)))
          · have hiq : isQ (qOf e.c) (uses.els[j]'hj2) = false := decide_eq_false hq
            rw [hiq, Bool.false_and] at hup
            repeat (any_goals (first | refine T.seq ?_ | refine T.region ?_ | (apply T.regionD wide; rfl) | refine TL.nil ?_ | refine N.next ?_ | refine N.inBlock ?_ | refine N.exit_same ?_ | refine N.exit_then ?_ | refine N.ret_then ?_ | refine N.ret_block ?_ | (apply N.exit_other; rfl) | refine T.ret ?_ | refine T.skip ?_ | refine T.exit ?_ | refine T.block ?_ | (apply T.cond_true; rfl) | (apply T.cond_false; rfl) | (apply T.test; rfl; (with_reducible (first | exact Is.ndec | exact Is.dec | exact Is.not | ((fail_if_success exact Is.litT); (fail_if_success exact Is.litF); exact Is.base))); intro _; rotate_left; intro _; rotate_right) | (apply TL.skip; rfl; rfl; rfl) | (apply TL.skip_none; rfl; rfl) | (apply GT.skip; rfl; rfl; rfl; decide +kernel) | (apply TL.x; rfl; rfl; (apply X.storeTo 0 (enc (uses.els[j]'hj2)); rfl; rfl; rfl; rfl; rfl; rfl; rfl; rfl; rfl; rfl); intro _ _) | (apply GS.eff; rfl; decide +kernel; rfl; (apply X.storeTo 0 (enc (uses.els[j]'hj2)); rfl; rfl; rfl; rfl; rfl; rfl; rfl; rfl; rfl; rfl); intro _ _) | (apply TL.val; rfl; rfl; (apply V.aeql (e := false); rfl; rfl; exact Tryz.eqGuardType23; exact fun w => (eq_Question (uses.els[j]'hj2).q (qOf e.c) w).trans (by rw [decide_eq_false hq]))) | (apply GT.pure; rfl; rfl; rfl; rfl; (apply V.aeql (e := false); rfl; rfl; exact Tryz.eqGuardType23; exact fun w => (eq_Question (uses.els[j]'hj2).q (qOf e.c) w).trans (by rw [decide_eq_false hq])); decide +kernel) | (apply GT.read; rfl; rfl; rfl; rfl; (apply V.aeql (e := false); rfl; rfl; exact Tryz.eqGuardType23; exact fun w => (eq_Question (uses.els[j]'hj2).q (qOf e.c) w).trans (by rw [decide_eq_false hq])); decide +kernel) | (apply TL.val; rfl; rfl; (first | exact vpure | exact vread)) | (apply GT.pure; rfl; rfl; rfl; rfl; (first | exact vpure); decide +kernel) | (apply GT.read; rfl; rfl; rfl; rfl; (first | exact vpure | exact vread); decide +kernel) | (apply GT.done; decide +kernel; apply N.ofQ) | (apply GT.adv; rfl) | (apply TL.x; rfl; rfl; (first | exact xgrow | exact xput); intro _ _) | (apply GS.grow; rfl; rfl; (first | exact xgrow); intro _ _) | (apply GS.eff; rfl; decide +kernel; rfl; (first | exact xput); intro _ _) | (apply TL.guard; rfl; rfl; rfl; (with_reducible (first | exact Is.ndec | exact Is.dec | exact Is.not | ((fail_if_success exact Is.litT); (fail_if_success exact Is.litF); exact Is.base))); intro _; rotate_left; intro _; rotate_right) | (apply GT.guard; rfl; rfl; rfl; rfl; (with_reducible (first | exact Is.ndec | exact Is.dec | exact Is.not | ((fail_if_success exact Is.litT); (fail_if_success exact Is.litF); exact Is.base))); intro _; rotate_left; intro _; rotate_right) | (apply GT.fork1; decide +kernel) | (apply GT.fork2 1; decide +kernel) | (apply GT.fork2 2; decide +kernel) | (apply GT.fork2 3; decide +kernel) | (apply GT.fork2 4; decide +kernel) | (apply GT.fork2 5; decide +kernel) | (apply GT.fork2 6; decide +kernel) | (apply GT.fork2 7; decide +kernel) | (apply GT.fork2 8; decide +kernel) | (apply GT.fork2 9; decide +kernel) | (apply GT.fork2 10; decide +kernel) | (apply GT.fork2 11; decide +kernel) | (apply GT.fork2 12; decide +kernel) | (apply GT.fork2 13; decide +kernel) | (apply GT.fork2 14; decide +kernel) | (apply GT.fork2 15; decide +kernel) | (apply GT.fork2 16; decide +kernel) | (apply GT.fork2 17; decide +kernel) | (apply GT.fork2 18; decide +kernel) | (apply GT.fork2 19; decide +kernel) | (apply GT.fork2 20; decide +kernel) | (apply GT.fork2 21; decide +kernel) | (apply GT.fork2 22; decide +kernel) | (apply GT.fork2 23; decide +kernel)))
            all_goals (try (exfalso; omega))
            exact N.round (j + 1) (by show j + 1 ≤ _; omega) (by show uses.len - (j + 1) < uses.len - j; omega) (by simp only [hup]; (repeat (first | exact True.intro | refine ⟨rfl, ?_⟩ | refine Sub.int rfl (by omega) ?_))) rfl (by (repeat (first | exact List.Sublist.refl _ | exact List.nil_sublist _ | apply List.Sublist.cons_cons | apply List.Sublist.cons)))
      · rw [List.take_of_length_le (by omega)]
        generalize askedB (qOf e.c) often uses.els = aB at hdue
        repeat (any_goals (first | refine T.seq ?_ | refine T.region ?_ | (apply T.regionD wide; rfl) | refine TL.nil ?_ | refine N.next ?_ | refine N.inBlock ?_ | refine N.exit_same ?_ | refine N.exit_then ?_ | refine N.ret_then ?_ | refine N.ret_block ?_ | (apply N.exit_other; rfl) | refine T.ret ?_ | refine T.skip ?_ | refine T.exit ?_ | refine T.block ?_ | (apply T.cond_true; rfl) | (apply T.cond_false; rfl) | (apply T.test; rfl; (with_reducible (first | exact Is.ndec | exact Is.dec | exact Is.not | ((fail_if_success exact Is.litT); (fail_if_success exact Is.litF); exact Is.base))); intro _; rotate_left; intro _; rotate_right) | (apply TL.skip; rfl; rfl; rfl) | (apply TL.skip_none; rfl; rfl) | (apply GT.skip; rfl; rfl; rfl; decide +kernel) | (apply TL.callE (f := 36) [.agg (enc e).toArray] Tryz.call36; rfl; rfl; rfl; rfl; (exact fun _ hs => c_Denial e _ _ hs.sat hx)) | (apply GT.callE (f := 36) [.agg (enc e).toArray] Tryz.call36; rfl; rfl; rfl; rfl; rfl; rfl; (exact fun _ hs => c_Denial e _ _ hs.sat hx); decide +kernel) | (apply TL.callE (f := 37) [p.2.v, .agg (enc (qOf e.c)).toArray] Tryz.call37; rfl; rfl; rfl; rfl; (exact fun _ hs => hlb ▸ c_listed p.2 (qOf e.c) _ _ hs.sat hp2 hqe)) | (apply GT.callE (f := 37) [p.2.v, .agg (enc (qOf e.c)).toArray] Tryz.call37; rfl; rfl; rfl; rfl; rfl; rfl; (exact fun _ hs => hlb ▸ c_listed p.2 (qOf e.c) _ _ hs.sat hp2 hqe); decide +kernel) | (apply TL.val; rfl; rfl; (first | exact vpure | exact vread)) | (apply GT.pure; rfl; rfl; rfl; rfl; (first | exact vpure); decide +kernel) | (apply GT.read; rfl; rfl; rfl; rfl; (first | exact vpure | exact vread); decide +kernel) | (apply GT.done; decide +kernel; apply N.ofQ) | (apply GT.adv; rfl) | (apply TL.x; rfl; rfl; (first | exact xgrow | exact xput); intro _ _) | (apply GS.grow; rfl; rfl; (first | exact xgrow); intro _ _) | (apply GS.eff; rfl; decide +kernel; rfl; (first | exact xput); intro _ _) | (apply TL.guard; rfl; rfl; rfl; (with_reducible (first | exact Is.ndec | exact Is.dec | exact Is.not | ((fail_if_success exact Is.litT); (fail_if_success exact Is.litF); exact Is.base))); intro _; rotate_left; intro _; rotate_right) | (apply GT.guard; rfl; rfl; rfl; rfl; (with_reducible (first | exact Is.ndec | exact Is.dec | exact Is.not | ((fail_if_success exact Is.litT); (fail_if_success exact Is.litF); exact Is.base))); intro _; rotate_left; intro _; rotate_right) | (apply GT.fork1; decide +kernel) | (apply GT.fork2 1; decide +kernel) | (apply GT.fork2 2; decide +kernel) | (apply GT.fork2 3; decide +kernel) | (apply GT.fork2 4; decide +kernel) | (apply GT.fork2 5; decide +kernel) | (apply GT.fork2 6; decide +kernel) | (apply GT.fork2 7; decide +kernel) | (apply GT.fork2 8; decide +kernel) | (apply GT.fork2 9; decide +kernel) | (apply GT.fork2 10; decide +kernel) | (apply GT.fork2 11; decide +kernel) | (apply GT.fork2 12; decide +kernel) | (apply GT.fork2 13; decide +kernel) | (apply GT.fork2 14; decide +kernel) | (apply GT.fork2 15; decide +kernel) | (apply GT.fork2 16; decide +kernel) | (apply GT.fork2 17; decide +kernel) | (apply GT.fork2 18; decide +kernel) | (apply GT.fork2 19; decide +kernel) | (apply GT.fork2 20; decide +kernel) | (apply GT.fork2 21; decide +kernel) | (apply GT.fork2 22; decide +kernel) | (apply GT.fork2 23; decide +kernel)))
        all_goals (try (exfalso; omega))
        all_goals first
          | (have hd : fB e.c = true := by
               rw [hdue, show denial e.c = false by assumption, show aB = true by assumption, decide_eq_true (show now < e.til by assumption), decide_eq_true (show e.til ≤ now + early by assumption)]; rfl
             have hb := hld hd
             first
               | exact absurd (hb.symm.trans (show lb = false by assumption)) (by decide)
               | exact N.round (i + 1) (by show i + 1 ≤ _; omega) (by show c.list.len - (i + 1) < c.list.len - i; omega) (by simp only [hcT hd]; (repeat (first | exact True.intro | refine ⟨rfl, ?_⟩ | refine Sub.int rfl (by omega) ?_))) rfl (by (repeat (first | exact List.Sublist.refl _ | exact List.nil_sublist _ | apply List.Sublist.cons_cons | apply List.Sublist.cons))))
          | (have hd : fB e.c = false := by
               rw [hdue]
               first
                 | rw [show denial e.c = true by assumption]; rfl
                 | rw [decide_eq_false (show ¬ now < e.til by assumption), Bool.and_false]; rfl
                 | rw [decide_eq_false (show ¬ e.til ≤ now + early by assumption), Bool.and_false]; rfl
                 | rw [show aB = false by assumption, Bool.and_false]
             exact N.round (i + 1) (by show i + 1 ≤ _; omega) (by show c.list.len - (i + 1) < c.list.len - i; omega) (by simp only [hcF hd]; (repeat (first | exact True.intro | refine ⟨rfl, ?_⟩ | refine Sub.int rfl (by omega) ?_))) rfl (by (repeat (first | exact List.Sublist.refl _ | exact List.nil_sublist _ | apply List.Sublist.cons_cons | apply List.Sublist.cons))))
    · have hie : i = c.list.len := by omega
      subst hie
      rw [List.take_of_length_le (by show (c.list.els.map Entry.c).length ≤ _; rw [List.length_map]; omega)]
      have hnd : p.2.els.Nodup := by rw [hp1]; exact nodup_due _
      have hcap := hp2.cap
      have hL1 : p.2.len ≤ c.c.countP fB := by rw [← hpl, hp1, ← hfB]; exact len_due _
      have hL2 : 0 < p.2.len ↔ 0 < c.c.countP fB := by rw [← hpl, hp1, ← hfB]; exact pos_due _
      have hL3 : c.c.countP fB ≤ 400 := Nat.le_trans List.countP_le_length (by show (c.list.els.map Entry.c).length ≤ _; rw [List.length_map]; omega)
      generalize c.c.countP fB = many at hL1 hL2 hL3
      repeat (any_goals (first | refine T.seq ?_ | refine T.region ?_ | (apply T.regionD wide; rfl) | refine TL.nil ?_ | refine N.next ?_ | refine N.inBlock ?_ | refine N.exit_same ?_ | refine N.exit_then ?_ | refine N.ret_then ?_ | refine N.ret_block ?_ | (apply N.exit_other; rfl) | refine T.ret ?_ | refine T.skip ?_ | refine T.exit ?_ | refine T.block ?_ | (apply T.cond_true; rfl) | (apply T.cond_false; rfl) | (apply T.test; rfl; (with_reducible (first | exact Is.ndec | exact Is.dec | exact Is.not | ((fail_if_success exact Is.litT); (fail_if_success exact Is.litF); exact Is.base))); intro _; rotate_left; intro _; rotate_right) | (apply TL.skip; rfl; rfl; rfl) | (apply TL.skip_none; rfl; rfl) | (apply GT.skip; rfl; rfl; rfl; decide +kernel) | (apply TL.val; rfl; rfl; (first | exact vpure | exact vread)) | (apply GT.pure; rfl; rfl; rfl; rfl; (first | exact vpure); decide +kernel) | (apply GT.read; rfl; rfl; rfl; rfl; (first | exact vpure | exact vread); decide +kernel) | (apply GT.done; decide +kernel; apply N.ofQ) | (apply GT.adv; rfl) | (apply TL.x; rfl; rfl; (first | exact xgrow | exact xput); intro _ _) | (apply GS.grow; rfl; rfl; (first | exact xgrow); intro _ _) | (apply GS.eff; rfl; decide +kernel; rfl; (first | exact xput); intro _ _) | (apply TL.guard; rfl; rfl; rfl; (with_reducible (first | exact Is.ndec | exact Is.dec | exact Is.not | ((fail_if_success exact Is.litT); (fail_if_success exact Is.litF); exact Is.base))); intro _; rotate_left; intro _; rotate_right) | (apply GT.guard; rfl; rfl; rfl; rfl; (with_reducible (first | exact Is.ndec | exact Is.dec | exact Is.not | ((fail_if_success exact Is.litT); (fail_if_success exact Is.litF); exact Is.base))); intro _; rotate_left; intro _; rotate_right) | (apply GT.fork1; decide +kernel) | (apply GT.fork2 1; decide +kernel) | (apply GT.fork2 2; decide +kernel) | (apply GT.fork2 3; decide +kernel) | (apply GT.fork2 4; decide +kernel) | (apply GT.fork2 5; decide +kernel) | (apply GT.fork2 6; decide +kernel) | (apply GT.fork2 7; decide +kernel) | (apply GT.fork2 8; decide +kernel) | (apply GT.fork2 9; decide +kernel) | (apply GT.fork2 10; decide +kernel) | (apply GT.fork2 11; decide +kernel) | (apply GT.fork2 12; decide +kernel) | (apply GT.fork2 13; decide +kernel) | (apply GT.fork2 14; decide +kernel) | (apply GT.fork2 15; decide +kernel) | (apply GT.fork2 16; decide +kernel) | (apply GT.fork2 17; decide +kernel) | (apply GT.fork2 18; decide +kernel) | (apply GT.fork2 19; decide +kernel) | (apply GT.fork2 20; decide +kernel) | (apply GT.fork2 21; decide +kernel) | (apply GT.fork2 22; decide +kernel) | (apply GT.fork2 23; decide +kernel)))
      all_goals (try (exfalso; omega))
      refine T.loop (G := Nat) (fun i => [(1, uses.v), (2, intV now), (3, intV early), (4, intV often), (5, .int .u8 more), (6, .int .u8 less), (7, .pointer (some ⟨b7, 0, none⟩)), (15, .bool true), (16, p.2.v), (18, intV (many : Nat)), (118, p.2.v), (119, intV p.2.len), (120, intV i)]) (fun _ => p.1) (fun _ => [.blk b7 46 (enc c)]) (fun i => i ≤ p.2.len) (fun i => p.2.len - i) 0 (Nat.zero_le _) (by (repeat (first | exact True.intro | refine ⟨rfl, ?_⟩ | refine Sub.int rfl (by omega) ?_))) rfl (by (repeat (first | exact List.Sublist.refl _ | exact List.nil_sublist _ | apply List.Sublist.cons_cons | apply List.Sublist.cons))) ?_
      intro i hi
      by_cases hlt : i < p.2.len
      · have hk2 : i < p.2.els.length := by omega
        have hx := hp2.els _ (List.getElem_mem hk2)
        have hno : decide (p.2.els[i]'hk2 ∈ (p.2.to i).els) = false := decide_eq_false (nodup_take hnd hk2)
        have hto := hp2.to (i := i) (by omega)
        repeat (any_goals (first | refine T.seq ?_ | refine T.region ?_ | (apply T.regionD wide; rfl) | refine TL.nil ?_ | refine N.next ?_ | refine N.inBlock ?_ | refine N.exit_same ?_ | refine N.exit_then ?_ | refine N.ret_then ?_ | refine N.ret_block ?_ | (apply N.exit_other; rfl) | refine T.ret ?_ | refine T.skip ?_ | refine T.exit ?_ | refine T.block ?_ | (apply T.cond_true; rfl) | (apply T.cond_false; rfl) | (apply T.test; rfl; (with_reducible (first | exact Is.ndec | exact Is.dec | exact Is.not | ((fail_if_success exact Is.litT); (fail_if_success exact Is.litF); exact Is.base))); intro _; rotate_left; intro _; rotate_right) | (apply TL.skip; rfl; rfl; rfl) | (apply TL.skip_none; rfl; rfl) | (apply GT.skip; rfl; rfl; rfl; decide +kernel) | (apply TL.x; rfl; rfl; (apply X.alloc (d := 26); rfl; rfl; rfl); intro b26 _) | (apply TL.x; rfl; rfl; (apply X.storeTo 0 (enc (p.2.els[i]'hk2)); rfl; rfl; rfl; rfl; rfl; rfl; rfl; rfl; rfl; rfl); intro _ _) | (apply GS.eff; rfl; decide +kernel; rfl; (apply X.storeTo 0 (enc (p.2.els[i]'hk2)); rfl; rfl; rfl; rfl; rfl; rfl; rfl; rfl; rfl; rfl); intro _ _) | (apply TL.val; rfl; rfl; (apply V.sliceTo (s := p.2); rfl; rfl; rfl; rfl; rfl; (constructor <;> omega); exact hcap)) | (apply GT.pure; rfl; rfl; rfl; rfl; (apply V.sliceTo (s := p.2); rfl; rfl; rfl; rfl; rfl; (constructor <;> omega); exact hcap); decide +kernel) | (apply GT.read; rfl; rfl; rfl; rfl; (apply V.sliceTo (s := p.2); rfl; rfl; rfl; rfl; rfl; (constructor <;> omega); exact hcap); decide +kernel) | (apply TL.callE (f := 37) [(p.2.to i).v, .agg (enc (p.2.els[i]'hk2)).toArray] Tryz.call37; rfl; rfl; rfl; rfl; (exact fun _ hs => hno ▸ c_listed (p.2.to i) (p.2.els[i]'hk2) _ _ hs.sat hto hx)) | (apply GT.callE (f := 37) [(p.2.to i).v, .agg (enc (p.2.els[i]'hk2)).toArray] Tryz.call37; rfl; rfl; rfl; rfl; rfl; rfl; (exact fun _ hs => hno ▸ c_listed (p.2.to i) (p.2.els[i]'hk2) _ _ hs.sat hto hx); decide +kernel) | (apply TL.val; rfl; rfl; (first | exact vpure | exact vread)) | (apply GT.pure; rfl; rfl; rfl; rfl; (first | exact vpure); decide +kernel) | (apply GT.read; rfl; rfl; rfl; rfl; (first | exact vpure | exact vread); decide +kernel) | (apply GT.done; decide +kernel; apply N.ofQ) | (apply GT.adv; rfl) | (apply TL.x; rfl; rfl; (first | exact xgrow | exact xput); intro _ _) | (apply GS.grow; rfl; rfl; (first | exact xgrow); intro _ _) | (apply GS.eff; rfl; decide +kernel; rfl; (first | exact xput); intro _ _) | (apply GT.pureAt 1; rfl; rfl; rfl; rfl; (first | exact vpure); decide +kernel) | (apply GT.readAt 1; rfl; rfl; rfl; rfl; (first | exact vpure | exact vread); decide +kernel) | (apply GT.pureAt 2; rfl; rfl; rfl; rfl; (first | exact vpure); decide +kernel) | (apply GT.readAt 2; rfl; rfl; rfl; rfl; (first | exact vpure | exact vread); decide +kernel) | (apply GT.pureAt 3; rfl; rfl; rfl; rfl; (first | exact vpure); decide +kernel) | (apply GT.readAt 3; rfl; rfl; rfl; rfl; (first | exact vpure | exact vread); decide +kernel) | (apply GT.pureAt 4; rfl; rfl; rfl; rfl; (first | exact vpure); decide +kernel) | (apply GT.readAt 4; rfl; rfl; rfl; rfl; (first | exact vpure | exact vread); decide +kernel) | (apply GT.pureAt 5; rfl; rfl; rfl; rfl; (first | exact vpure); decide +kernel) | (apply GT.readAt 5; rfl; rfl; rfl; rfl; (first | exact vpure | exact vread); decide +kernel) | (apply TL.guard; rfl; rfl; rfl; (with_reducible (first | exact Is.ndec | exact Is.dec | exact Is.not | ((fail_if_success exact Is.litT); (fail_if_success exact Is.litF); exact Is.base))); intro _; rotate_left; intro _; rotate_right) | (apply GT.guard; rfl; rfl; rfl; rfl; (with_reducible (first | exact Is.ndec | exact Is.dec | exact Is.not | ((fail_if_success exact Is.litT); (fail_if_success exact Is.litF); exact Is.base))); intro _; rotate_left; intro _; rotate_right) | (apply GT.fork1; decide +kernel) | (apply GT.fork2 1; decide +kernel) | (apply GT.fork2 2; decide +kernel) | (apply GT.fork2 3; decide +kernel) | (apply GT.fork2 4; decide +kernel) | (apply GT.fork2 5; decide +kernel) | (apply GT.fork2 6; decide +kernel) | (apply GT.fork2 7; decide +kernel) | (apply GT.fork2 8; decide +kernel) | (apply GT.fork2 9; decide +kernel) | (apply GT.fork2 10; decide +kernel) | (apply GT.fork2 11; decide +kernel) | (apply GT.fork2 12; decide +kernel) | (apply GT.fork2 13; decide +kernel) | (apply GT.fork2 14; decide +kernel) | (apply GT.fork2 15; decide +kernel) | (apply GT.fork2 16; decide +kernel) | (apply GT.fork2 17; decide +kernel) | (apply GT.fork2 18; decide +kernel) | (apply GT.fork2 19; decide +kernel) | (apply GT.fork2 20; decide +kernel) | (apply GT.fork2 21; decide +kernel) | (apply GT.fork2 22; decide +kernel) | (apply GT.fork2 23; decide +kernel)))
        all_goals (try (exfalso; omega))
        all_goals (try contradiction)
        all_goals exact N.round (i + 1) (by show i + 1 ≤ _; omega) (by show p.2.len - (i + 1) < p.2.len - i; omega) (by (repeat (first | exact True.intro | refine ⟨rfl, ?_⟩ | refine Sub.int rfl (by omega) ?_))) rfl (by (repeat (first | exact List.Sublist.refl _ | exact List.nil_sublist _ | apply List.Sublist.cons_cons | apply List.Sublist.cons)))
      · have hie : i = p.2.len := by omega
        subst hie
        have e1 : 0 ≤ minI 1000000 (early + more) ∧ minI 1000000 (early + more) ≤ 1000000 ∧ early ≤ minI 1000000 (early + more) := by unfold minI; split <;> omega
        have e2 : 0 ≤ maxI 0 (often - less) ∧ maxI 0 (often - less) ≤ 1000000 ∧ maxI 0 (often - less) ≤ often := by unfold maxI; split <;> omega
        have hr2 := due_yes k1 k2 k3 ⟨e1.1, e1.2.1⟩ ⟨e2.1, e2.2.1⟩ (often := maxI 0 (often - less)) (early := minI 1000000 (early + more))
        have hsub : ∀ q, q ∈ p.2.els → q ∈ dueL uses.els now (minI 1000000 (early + more)) (maxI 0 (often - less)) c.c := fun q hq => by
          rw [hp1] at hq
          exact due_mono e1.2.2 e2.2.2 hq
        have hmin : (if early + more < 1000000 then early + more else 1000000) = minI 1000000 (early + more) := rfl
        have hmax : (if often - less > 0 then often - less else 0) = maxI 0 (often - less) := rfl
        generalize minI 1000000 (early + more) = ea at e1 hr2 hsub hmin
        generalize maxI 0 (often - less) = of at e2 hr2 hsub hmax
        repeat (any_goals (first | refine T.seq ?_ | refine T.region ?_ | (apply T.regionD wide; rfl) | refine TL.nil ?_ | refine N.next ?_ | refine N.inBlock ?_ | refine N.exit_same ?_ | refine N.exit_then ?_ | refine N.ret_then ?_ | refine N.ret_block ?_ | (apply N.exit_other; rfl) | refine T.ret ?_ | refine T.skip ?_ | refine T.exit ?_ | refine T.block ?_ | (apply T.cond_true; rfl) | (apply T.cond_false; rfl) | (apply T.test; rfl; (with_reducible (first | exact Is.ndec | exact Is.dec | exact Is.not | ((fail_if_success exact Is.litT); (fail_if_success exact Is.litF); exact Is.base))); intro _; rotate_left; intro _; rotate_right) | (apply TL.skip; rfl; rfl; rfl) | (apply TL.skip_none; rfl; rfl) | (apply GT.skip; rfl; rfl; rfl; decide +kernel) | (apply TL.val; rfl; rfl; (apply V.conv; rfl; rfl; rfl; rfl; exact IntWalk.i64_in _ (by omega))) | (apply GT.pure; rfl; rfl; rfl; rfl; (apply V.conv; rfl; rfl; rfl; rfl; exact IntWalk.i64_in _ (by omega)); decide +kernel) | (apply GT.read; rfl; rfl; rfl; rfl; (apply V.conv; rfl; rfl; rfl; rfl; exact IntWalk.i64_in _ (by omega)); decide +kernel) | (apply TL.val; rfl; rfl; (apply V.min hmin; rfl; rfl)) | (apply GT.pure; rfl; rfl; rfl; rfl; (apply V.min hmin; rfl; rfl); decide +kernel) | (apply GT.read; rfl; rfl; rfl; rfl; (apply V.min hmin; rfl; rfl); decide +kernel) | (apply TL.val; rfl; rfl; (apply V.max hmax; rfl; rfl)) | (apply GT.pure; rfl; rfl; rfl; rfl; (apply V.max hmax; rfl; rfl); decide +kernel) | (apply GT.read; rfl; rfl; rfl; rfl; (apply V.max hmax; rfl; rfl); decide +kernel) | (apply TL.x; rfl; rfl; (apply X.callFE (f := 27) [.agg (enc c).toArray, uses.v, intV now, intV ea, intV of] Tryz.call27; rfl; rfl; rfl; exact (fun _ hs => c_DueV c uses now ea of hr2 hs.sat hR1 (Enc.mono hp3 hg) hu1 hnow (by constructor <;> omega) (by constructor <;> omega))); intro y hy; obtain ⟨⟨hy1, hy2⟩, hy3⟩ := hy; simp only at hy1; have hp4 := hp2.mono hy3) | (apply TL.val; rfl; rfl; (first | exact vpure | exact vread)) | (apply GT.pure; rfl; rfl; rfl; rfl; (first | exact vpure); decide +kernel) | (apply GT.read; rfl; rfl; rfl; rfl; (first | exact vpure | exact vread); decide +kernel) | (apply GT.done; decide +kernel; apply N.ofQ) | (apply GT.adv; rfl) | (apply TL.x; rfl; rfl; (first | exact xgrow | exact xput); intro _ _) | (apply GS.grow; rfl; rfl; (first | exact xgrow); intro _ _) | (apply GS.eff; rfl; decide +kernel; rfl; (first | exact xput); intro _ _) | (apply TL.guard; rfl; rfl; rfl; (with_reducible (first | exact Is.ndec | exact Is.dec | exact Is.not | ((fail_if_success exact Is.litT); (fail_if_success exact Is.litF); exact Is.base))); intro _; rotate_left; intro _; rotate_right) | (apply GT.guard; rfl; rfl; rfl; rfl; (with_reducible (first | exact Is.ndec | exact Is.dec | exact Is.not | ((fail_if_success exact Is.litT); (fail_if_success exact Is.litF); exact Is.base))); intro _; rotate_left; intro _; rotate_right) | (apply GT.fork1; decide +kernel) | (apply GT.fork2 1; decide +kernel) | (apply GT.fork2 2; decide +kernel) | (apply GT.fork2 3; decide +kernel) | (apply GT.fork2 4; decide +kernel) | (apply GT.fork2 5; decide +kernel) | (apply GT.fork2 6; decide +kernel) | (apply GT.fork2 7; decide +kernel) | (apply GT.fork2 8; decide +kernel) | (apply GT.fork2 9; decide +kernel) | (apply GT.fork2 10; decide +kernel) | (apply GT.fork2 11; decide +kernel) | (apply GT.fork2 12; decide +kernel) | (apply GT.fork2 13; decide +kernel) | (apply GT.fork2 14; decide +kernel) | (apply GT.fork2 15; decide +kernel) | (apply GT.fork2 16; decide +kernel) | (apply GT.fork2 17; decide +kernel) | (apply GT.fork2 18; decide +kernel) | (apply GT.fork2 19; decide +kernel) | (apply GT.fork2 20; decide +kernel) | (apply GT.fork2 21; decide +kernel) | (apply GT.fork2 22; decide +kernel) | (apply GT.fork2 23; decide +kernel)))
        all_goals (try (exfalso; omega))
        all_goals (try contradiction)
        refine T.loop (G := Nat) (fun i => [(15, .bool true), (16, p.2.v), (18, intV (many : Nat)), (27, y.2.v), (150, p.2.v), (151, intV p.2.len), (152, intV i)]) (fun _ => y.1) (fun _ => []) (fun i => i ≤ p.2.len) (fun i => p.2.len - i) 0 (Nat.zero_le _) (by (repeat (first | exact True.intro | refine ⟨rfl, ?_⟩ | refine Sub.int rfl (by omega) ?_))) rfl (by (repeat (first | exact List.Sublist.refl _ | exact List.nil_sublist _ | apply List.Sublist.cons_cons | apply List.Sublist.cons))) ?_
        intro i hi
        by_cases hlt : i < p.2.len
        · have hk2 : i < p.2.els.length := by omega
          have hx := hp4.els _ (List.getElem_mem hk2)
          have hin : decide (p.2.els[i]'hk2 ∈ y.2.els) = true := by rw [hy1]; exact decide_eq_true (hsub _ (List.getElem_mem hk2))
          repeat (any_goals (first | refine T.seq ?_ | refine T.region ?_ | (apply T.regionD wide; rfl) | refine TL.nil ?_ | refine N.next ?_ | refine N.inBlock ?_ | refine N.exit_same ?_ | refine N.exit_then ?_ | refine N.ret_then ?_ | refine N.ret_block ?_ | (apply N.exit_other; rfl) | refine T.ret ?_ | refine T.skip ?_ | refine T.exit ?_ | refine T.block ?_ | (apply T.cond_true; rfl) | (apply T.cond_false; rfl) | (apply T.test; rfl; (with_reducible (first | exact Is.ndec | exact Is.dec | exact Is.not | ((fail_if_success exact Is.litT); (fail_if_success exact Is.litF); exact Is.base))); intro _; rotate_left; intro _; rotate_right) | (apply TL.skip; rfl; rfl; rfl) | (apply TL.skip_none; rfl; rfl) | (apply GT.skip; rfl; rfl; rfl; decide +kernel) | (apply TL.x; rfl; rfl; (apply X.alloc (d := 30); rfl; rfl; rfl); intro b30 _) | (apply TL.x; rfl; rfl; (apply X.storeTo 0 (enc (p.2.els[i]'hk2)); rfl; rfl; rfl; rfl; rfl; rfl; rfl; rfl; rfl; rfl); intro _ _) | (apply GS.eff; rfl; decide +kernel; rfl; (apply X.storeTo 0 (enc (p.2.els[i]'hk2)); rfl; rfl; rfl; rfl; rfl; rfl; rfl; rfl; rfl; rfl); intro _ _) | (apply TL.callE (f := 37) [y.2.v, .agg (enc (p.2.els[i]'hk2)).toArray] Tryz.call37; rfl; rfl; rfl; rfl; (exact fun _ hs => hin ▸ c_listed y.2 (p.2.els[i]'hk2) _ _ hs.sat hy2 hx)) | (apply GT.callE (f := 37) [y.2.v, .agg (enc (p.2.els[i]'hk2)).toArray] Tryz.call37; rfl; rfl; rfl; rfl; rfl; rfl; (exact fun _ hs => hin ▸ c_listed y.2 (p.2.els[i]'hk2) _ _ hs.sat hy2 hx); decide +kernel) | (apply TL.val; rfl; rfl; (first | exact vpure | exact vread)) | (apply GT.pure; rfl; rfl; rfl; rfl; (first | exact vpure); decide +kernel) | (apply GT.read; rfl; rfl; rfl; rfl; (first | exact vpure | exact vread); decide +kernel) | (apply GT.done; decide +kernel; apply N.ofQ) | (apply GT.adv; rfl) | (apply TL.x; rfl; rfl; (first | exact xgrow | exact xput); intro _ _) | (apply GS.grow; rfl; rfl; (first | exact xgrow); intro _ _) | (apply GS.eff; rfl; decide +kernel; rfl; (first | exact xput); intro _ _) | (apply TL.guard; rfl; rfl; rfl; (with_reducible (first | exact Is.ndec | exact Is.dec | exact Is.not | ((fail_if_success exact Is.litT); (fail_if_success exact Is.litF); exact Is.base))); intro _; rotate_left; intro _; rotate_right) | (apply GT.guard; rfl; rfl; rfl; rfl; (with_reducible (first | exact Is.ndec | exact Is.dec | exact Is.not | ((fail_if_success exact Is.litT); (fail_if_success exact Is.litF); exact Is.base))); intro _; rotate_left; intro _; rotate_right) | (apply GT.fork1; decide +kernel) | (apply GT.fork2 1; decide +kernel) | (apply GT.fork2 2; decide +kernel) | (apply GT.fork2 3; decide +kernel) | (apply GT.fork2 4; decide +kernel) | (apply GT.fork2 5; decide +kernel) | (apply GT.fork2 6; decide +kernel) | (apply GT.fork2 7; decide +kernel) | (apply GT.fork2 8; decide +kernel) | (apply GT.fork2 9; decide +kernel) | (apply GT.fork2 10; decide +kernel) | (apply GT.fork2 11; decide +kernel) | (apply GT.fork2 12; decide +kernel) | (apply GT.fork2 13; decide +kernel) | (apply GT.fork2 14; decide +kernel) | (apply GT.fork2 15; decide +kernel) | (apply GT.fork2 16; decide +kernel) | (apply GT.fork2 17; decide +kernel) | (apply GT.fork2 18; decide +kernel) | (apply GT.fork2 19; decide +kernel) | (apply GT.fork2 20; decide +kernel) | (apply GT.fork2 21; decide +kernel) | (apply GT.fork2 22; decide +kernel) | (apply GT.fork2 23; decide +kernel)))
          all_goals (try (exfalso; omega))
          all_goals (try contradiction)
          all_goals exact N.round (i + 1) (by show i + 1 ≤ _; omega) (by show p.2.len - (i + 1) < p.2.len - i; omega) (by (repeat (first | exact True.intro | refine ⟨rfl, ?_⟩ | refine Sub.int rfl (by omega) ?_))) rfl (by (repeat (first | exact List.Sublist.refl _ | exact List.nil_sublist _ | apply List.Sublist.cons_cons | apply List.Sublist.cons)))
        · repeat (any_goals (first | refine T.seq ?_ | refine T.region ?_ | (apply T.regionD wide; rfl) | refine TL.nil ?_ | refine N.next ?_ | refine N.inBlock ?_ | refine N.exit_same ?_ | refine N.exit_then ?_ | refine N.ret_then ?_ | refine N.ret_block ?_ | (apply N.exit_other; rfl) | refine T.ret ?_ | refine T.skip ?_ | refine T.exit ?_ | refine T.block ?_ | (apply T.cond_true; rfl) | (apply T.cond_false; rfl) | (apply T.test; rfl; (with_reducible (first | exact Is.ndec | exact Is.dec | exact Is.not | ((fail_if_success exact Is.litT); (fail_if_success exact Is.litF); exact Is.base))); intro _; rotate_left; intro _; rotate_right) | (apply TL.skip; rfl; rfl; rfl) | (apply TL.skip_none; rfl; rfl) | (apply GT.skip; rfl; rfl; rfl; decide +kernel) | (apply TL.val; rfl; rfl; (apply V.beql; exact Tryz.underlying4; rfl; rfl)) | (apply GT.pure; rfl; rfl; rfl; rfl; (apply V.beql; exact Tryz.underlying4; rfl; rfl); decide +kernel) | (apply GT.read; rfl; rfl; rfl; rfl; (apply V.beql; exact Tryz.underlying4; rfl; rfl); decide +kernel) | (apply TL.val; rfl; rfl; (first | exact vpure | exact vread)) | (apply GT.pure; rfl; rfl; rfl; rfl; (first | exact vpure); decide +kernel) | (apply GT.read; rfl; rfl; rfl; rfl; (first | exact vpure | exact vread); decide +kernel) | (apply GT.done; decide +kernel; apply N.ofQ) | (apply GT.adv; rfl) | (apply TL.x; rfl; rfl; (first | exact xgrow | exact xput); intro _ _) | (apply GS.grow; rfl; rfl; (first | exact xgrow); intro _ _) | (apply GS.eff; rfl; decide +kernel; rfl; (first | exact xput); intro _ _) | (apply TL.guard; rfl; rfl; rfl; (with_reducible (first | exact Is.ndec | exact Is.dec | exact Is.not | ((fail_if_success exact Is.litT); (fail_if_success exact Is.litF); exact Is.base))); intro _; rotate_left; intro _; rotate_right) | (apply GT.guard; rfl; rfl; rfl; rfl; (with_reducible (first | exact Is.ndec | exact Is.dec | exact Is.not | ((fail_if_success exact Is.litT); (fail_if_success exact Is.litF); exact Is.base))); intro _; rotate_left; intro _; rotate_right) | (apply GT.fork1; decide +kernel) | (apply GT.fork2 1; decide +kernel) | (apply GT.fork2 2; decide +kernel) | (apply GT.fork2 3; decide +kernel) | (apply GT.fork2 4; decide +kernel) | (apply GT.fork2 5; decide +kernel) | (apply GT.fork2 6; decide +kernel) | (apply GT.fork2 7; decide +kernel) | (apply GT.fork2 8; decide +kernel) | (apply GT.fork2 9; decide +kernel) | (apply GT.fork2 10; decide +kernel) | (apply GT.fork2 11; decide +kernel) | (apply GT.fork2 12; decide +kernel) | (apply GT.fork2 13; decide +kernel) | (apply GT.fork2 14; decide +kernel) | (apply GT.fork2 15; decide +kernel) | (apply GT.fork2 16; decide +kernel) | (apply GT.fork2 17; decide +kernel) | (apply GT.fork2 18; decide +kernel) | (apply GT.fork2 19; decide +kernel) | (apply GT.fork2 20; decide +kernel) | (apply GT.fork2 21; decide +kernel) | (apply GT.fork2 22; decide +kernel) | (apply GT.fork2 23; decide +kernel)))
          all_goals (try (exfalso; omega))
          all_goals (try contradiction)
          all_goals
            refine N.ret_bool rfl (by (exact rvx)) ?_
            have h1 : decide ((0 : Int) < (p.2.len : Int)) = decide ((0 : Int) < (many : Int)) := decide_eq_decide.2 (by omega)
            first
              | rfl
              | (rw [h1]; exact beq_self_eq_true _)
end Go.Proofs.YtogcofeencgipaaGreatDoor
