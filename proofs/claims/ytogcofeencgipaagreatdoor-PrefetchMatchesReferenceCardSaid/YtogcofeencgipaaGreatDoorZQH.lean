/- Walks: how often each question was asked (prefetch.counts). -/
import Derived.Test.YtogcofeencgipaaGreatDoorZQG
import Derived.Test.YtogcofeencgipaaGreatDoorZTMap
namespace Go.Proofs.YtogcofeencgipaaGreatDoor
set_option linter.unusedVariables false
set_option linter.unusedSimpArgs false
open Go Go.RowKit
open Enc (enc)
set_option maxRecDepth 20000
/-- api.Use. -/
structure Use where
  q : Question
  times : Int
deriving DecidableEq
instance : Enc Use where
  size := 3
  enc u := [strV u.q.name, intV u.q.typ, intV u.times]
  good H u := Enc.good H u.q ∧ I64 u.times
  len _ := rfl
  mono hle h := ⟨Enc.mono hle h.1, h.2⟩
  one _ := rfl
  pos := by decide
def useOK (u : Use) : Bool := questionOK u.q && decide (1 ≤ u.times ∧ u.times ≤ 1000000)
def usesOK (l : List Use) : Bool := decide (l.length ≤ 400) && l.all useOK && decide ((l.map Use.q).Nodup)
/-- How often a question was asked. -/
def timesOf (l : List Use) (q : Question) : Option Int := (l.find? fun u => decide (u.q = q)).map Use.times
def UMap (H : Hp) (b : Nat) (l : List Use) : Prop := ∃ m, H b = some (mObj qV m) ∧ ∀ q, aGet q m = (timesOf l q).map intV
theorem aGet_putU {κ : Type} [DecidableEq κ] {a b : κ} {v : Value} : ∀ {l : List (κ × Value)}, aGet a l = none → aGet b (aPut a v l) = if b = a then some v else aGet b l := by
  intro l h
  have hn : aFind a l 0 = none := by
    unfold aGet at h
    cases hf : aFind a l 0 with
    | none => rfl
    | some p => rw [hf] at h; cases h
  have key : ∀ (l : List (κ × Value)) (i : Nat), aFind b (l ++ [(a, v)]) i = (aFind b l i).or (if b = a then some (i + l.length, v) else none) := by
    intro l
    induction l with
    | nil => intro i; simp [aFind]
    | cons p l ih =>
      intro i
      obtain ⟨k, u⟩ := p
      simp only [List.cons_append, aFind]
      by_cases e : b = k
      · simp [e]
      · rw [if_neg e, if_neg e, ih]
        simp [Nat.add_comm, Nat.add_left_comm]
  unfold aPut
  rw [hn]
  simp only [aGet, key]
  by_cases e : b = a
  · subst e; simp [hn]
  · simp [e]
theorem timesOf_snoc (l : List Use) (u : Use) (q : Question) : timesOf (l ++ [u]) q = (timesOf l q).or (if q = u.q then some u.times else none) := by
  unfold timesOf
  rw [List.find?_append, List.find?_cons, List.find?_nil]
  cases List.find? (fun u => decide (u.q = q)) l with
  | some x => rfl
  | none =>
    by_cases e : u.q = q
    · subst e; simp
    · rw [if_neg (fun h => e h.symm)]; simp [e]
theorem timesOf_none {l : List Use} {q : Question} (h : timesOf l q = none) : q ∉ l.map Use.q := by
  unfold timesOf at h
  rw [Option.map_eq_none_iff, List.find?_eq_none] at h
  intro hq
  obtain ⟨u, hu, rfl⟩ := List.mem_map.1 hq
  exact h u hu (by simp)
theorem timesOf_some {l : List Use} {q : Question} {t : Int} (h : timesOf l q = some t) : ∃ u ∈ l, u.q = q ∧ u.times = t := by
  unfold timesOf at h
  rw [Option.map_eq_some_iff] at h
  obtain ⟨u, h1, h2⟩ := h
  have h3 := List.find?_some h1
  exact ⟨u, List.mem_of_find?_eq_some h1, by simpa using h3, h2⟩
theorem St.frzAnyU {w0 w : World} {H0 H : Hp} {b : Nat} {o : Obj} {L : List Loc} (hs : St w0 H0 H (.any b o :: L) w) : ∃ H' : Hp, H' b = some o ∧ H.le H' ∧ St w0 H0 H' L w :=
  ⟨H.put b o, by unfold Hp.put; rw [if_pos rfl], Hp.put_le H o (hs.out _ (List.Mem.head _) b rfl), hs.freeze rfl (hs.ok _ (List.Mem.head _)).2⟩
set_option maxHeartbeats 8000000 in
theorem c_countsG (l : Slc Use) (H : Hp) (w : World) (hs : Sat H w) (hg : l.Good H) : Calls Tryz.prog 76 #[l.v] w (fun e w' => (usesOK l.els = true ∧ RetF w H (fun p : Hp × Nat => UMap p.1 p.2 l.els) (fun p => .tuple #[.map (some p.2), .bool true]) (fun p => p.1) e w') ∨ (usesOK l.els = false ∧ Ret w (.tuple #[.map none, .bool false]) e w')) := by
  have hlen := hg.len
  have hlim := hg.lim
  refine T.enter (vs := [l.v]) (H := H) Tryz.func76 rfl rfl rfl hs ?_
  repeat (any_goals (first | refine T.seq ?_ | refine T.region ?_ | refine TL.nil ?_ | refine N.next ?_ | refine N.inBlock ?_ | refine N.exit_same ?_ | refine N.exit_then ?_ | refine N.ret_then ?_ | refine N.ret_block ?_ | (apply N.exit_other; rfl) | refine T.ret ?_ | refine T.skip ?_ | refine T.exit ?_ | refine T.block ?_ | (apply T.cond_true; rfl) | (apply T.cond_false; rfl) | (apply T.test; rfl; (with_reducible (first | exact Is.ndec | exact Is.dec | exact Is.not | ((fail_if_success exact Is.litT); (fail_if_success exact Is.litF); exact Is.base))); intro _; rotate_left; intro _; rotate_right) | (apply TL.skip; rfl; rfl; rfl) | (apply TL.skip_none; rfl; rfl) | (apply TL.x; rfl; rfl; (apply X.makeMap qV; rfl); intro _ _) | (apply TL.val; rfl; rfl; (first | exact vpure | exact vread)) | (apply TL.x; rfl; rfl; (first | exact xgrow | exact xput); intro _ _) | (apply TL.guard; rfl; rfl; rfl; (with_reducible (first | exact Is.ndec | exact Is.dec | exact Is.not | ((fail_if_success exact Is.litT); (fail_if_success exact Is.litF); exact Is.base))); intro _; rotate_left; intro _; rotate_right)))
  · rename_i h
    refine N.ret2 rfl (by (exact rvx)) (by (exact rvx)) fun w hst => .inr ⟨?_, rfl, hst.below⟩
    unfold usesOK
    rw [decide_eq_false (by omega), Bool.false_and, Bool.false_and]
  · rename_i hle b _
    refine T.loop (G := Nat × List (Question × Value)) (fun g => [(4, .map (some b)), (11, l.v), (12, intV l.len), (13, intV g.1)]) (fun _ => H) (fun g => [.any b (mObj qV g.2)]) (fun g => g.1 ≤ l.len ∧ (∀ u ∈ l.els.take g.1, useOK u = true) ∧ ((l.els.take g.1).map Use.q).Nodup ∧ ∀ q, aGet q g.2 = (timesOf (l.els.take g.1) q).map intV) (fun g => l.len - g.1) (0, []) ⟨Nat.zero_le _, by simp, by simp, fun _ => rfl⟩ (by (repeat (first | exact True.intro | refine ⟨rfl, ?_⟩ | refine Sub.int rfl (by omega) ?_))) rfl (List.Sublist.refl _) ?_
    rintro ⟨k, m⟩ ⟨hk1, hok, hnd, hget⟩
    simp only at hk1 hok hnd hget ⊢
    by_cases hlt : k < l.len
    · have hkl : k < l.els.length := by omega
      have hgx := hg.els _ (List.getElem_mem hkl)
      have htk : l.els.take (k + 1) = l.els.take k ++ [l.els[k]'hkl] := List.take_succ_eq_append_getElem hkl
      generalize hu : l.els[k]'hkl = u at htk hgx
      have hmem : u ∈ l.els := hu ▸ List.getElem_mem hkl
      have hbad : useOK u = false → usesOK l.els = false := fun h => by
        unfold usesOK
        rw [show l.els.all useOK = false from List.all_eq_false.2 ⟨u, hmem, by rw [h]; decide⟩, Bool.and_false, Bool.false_and]
      obtain ⟨v, hv⟩ : ∃ v, questionOK u.q = v := ⟨_, rfl⟩
      obtain ⟨f, hf0⟩ : ∃ f, timesOf (l.els.take k) u.q = f := ⟨_, rfl⟩
      have hf := hget u.q
      rw [hf0] at hf
      obtain ⟨c, hc⟩ : ∃ c, (f.map intV).getD (intV 0) = intV c := by cases f <;> exact ⟨_, rfl⟩
      have hg1 : (aGet u.q m).getD (intV 0) = intV c := by rw [hf]; exact hc
      have hE : enc (l.els[k]'hkl) = enc u := by rw [hu]
      have hseen : f ≠ none → usesOK l.els = false := fun hne => by
        cases f with
        | none => exact absurd rfl hne
        | some t =>
          obtain ⟨u', h1, h2, h3⟩ := timesOf_some hf0
          unfold usesOK
          rw [decide_eq_false (p := (l.els.map Use.q).Nodup), Bool.and_false]
          intro hn
          have h4 : ((l.els.take (k + 1)).map Use.q).Nodup := hn.sublist ((List.take_sublist _ _).map _)
          rw [htk, List.map_append] at h4
          exact (List.nodup_append.1 h4).2.2 _ (h2 ▸ List.mem_map_of_mem h1) _ (List.mem_singleton.2 rfl) rfl
      repeat (any_goals (first | refine T.seq ?_ | refine T.region ?_ | refine TL.nil ?_ | refine N.next ?_ | refine N.inBlock ?_ | refine N.exit_same ?_ | refine N.exit_then ?_ | refine N.ret_then ?_ | refine N.ret_block ?_ | (apply N.exit_other; rfl) | refine T.ret ?_ | refine T.skip ?_ | refine T.exit ?_ | refine T.block ?_ | (apply T.cond_true; rfl) | (apply T.cond_false; rfl) | (apply T.test; rfl; (with_reducible (first | exact Is.ndec | exact Is.dec | exact Is.not | ((fail_if_success exact Is.litT); (fail_if_success exact Is.litF); exact Is.base))); intro _; rotate_left; intro _; rotate_right) | (apply TL.skip; rfl; rfl; rfl) | (apply TL.skip_none; rfl; rfl) | (apply TL.x; rfl; rfl; (apply X.storeTo 0 (enc u); rfl; rfl; rfl; rfl; rfl; rfl; rfl; rfl; exact hE; rfl); intro _ _) | (apply TL.callE (f := 83) [.agg (enc u.q).toArray] Tryz.call83; rfl; rfl; rfl; rfl; (exact fun _ hs => hv ▸ c_pquestion u.q _ _ hs.sat hgx.1)) | (apply TL.val; rfl; rfl; (apply V.mlookupG u.q (l := m); rfl; rfl; rfl; exact key_q; rfl; rfl; (exact lmem); exact hg1)) | (apply TL.x; rfl; rfl; (apply X.mputG 1 u.q; rfl; rfl; exact key_q; rfl; rfl; rfl; rfl; rfl); intro _ _) | (apply TL.val; rfl; rfl; (first | exact vpure | exact vread)) | (apply TL.x; rfl; rfl; (first | exact xgrow | exact xput); intro _ _) | (apply TL.guard; rfl; rfl; rfl; (with_reducible (first | exact Is.ndec | exact Is.dec | exact Is.not | ((fail_if_success exact Is.litT); (fail_if_success exact Is.litF); exact Is.base))); intro _; rotate_left; intro _; rotate_right)))
      all_goals (try contradiction)
      all_goals (try (exfalso; omega))
      all_goals first
        | (refine N.ret2 rfl (by (exact rvx)) (by (exact rvx)) fun w hst => .inr ⟨?_, rfl, hst.below⟩
           first
             | (refine hbad ?_
                unfold useOK
                first
                  | rw [show questionOK u.q = false by rw [hv]; assumption, Bool.false_and]
                  | rw [show decide (1 ≤ u.times ∧ u.times ≤ 1000000) = false from decide_eq_false (by omega), Bool.and_false])
             | (refine hseen ?_
                rintro rfl
                have : c = 0 := by
                  have := hc; simp only [Option.map_none, Option.getD_none, Value.int.injEq] at this; exact this.2.symm
                omega))
        | (have hok1 : useOK u = true := by
             unfold useOK; rw [hv, show v = true by assumption, decide_eq_true (by omega)]; rfl
           have hn : f = none := by
             cases f with
             | none => rfl
             | some t =>
               obtain ⟨u', h1, h2, h3⟩ := timesOf_some hf0
               have h4 := hok u' h1
               unfold useOK at h4
               rw [Bool.and_eq_true, decide_eq_true_eq] at h4
               have h5 : t = c := by
                 have := hc; simp only [Option.map_some, Option.getD_some, Value.int.injEq] at this; exact this.2
               omega
           subst hn
           refine N.round (k + 1, aPut u.q (intV u.times) m) ⟨by show k + 1 ≤ _; omega, ?_, ?_, fun q => ?_⟩ (by show l.len - (k + 1) < l.len - k; omega) (by (repeat (first | exact True.intro | refine ⟨rfl, ?_⟩ | refine Sub.int rfl (by omega) ?_))) rfl ?_
           · rw [htk]; intro x hx
             rcases List.mem_append.1 hx with h | h
             · exact hok x h
             · rw [List.mem_singleton.1 h]; exact hok1
           · rw [htk, List.map_append]
             exact List.nodup_append.2 ⟨hnd, by simp, fun a ha b hb => by
               rw [List.map_cons, List.map_nil, List.mem_singleton] at hb
               subst hb
               rintro rfl
               exact timesOf_none hf0 ha⟩
           · show aGet q (aPut u.q (intV u.times) m) = _
             rw [aGet_putU hf, htk, timesOf_snoc, hget q]
             by_cases e : q = u.q
             · rw [if_pos e, if_pos e, e, hf0]; rfl
             · rw [if_neg e, if_neg e, Option.or_none]
           · exact List.Sublist.cons _ (List.Sublist.refl _))
    · repeat (any_goals (first | refine T.seq ?_ | refine T.region ?_ | refine TL.nil ?_ | refine N.next ?_ | refine N.inBlock ?_ | refine N.exit_same ?_ | refine N.exit_then ?_ | refine N.ret_then ?_ | refine N.ret_block ?_ | (apply N.exit_other; rfl) | refine T.ret ?_ | refine T.skip ?_ | refine T.exit ?_ | refine T.block ?_ | (apply T.cond_true; rfl) | (apply T.cond_false; rfl) | (apply T.test; rfl; (with_reducible (first | exact Is.ndec | exact Is.dec | exact Is.not | ((fail_if_success exact Is.litT); (fail_if_success exact Is.litF); exact Is.base))); intro _; rotate_left; intro _; rotate_right) | (apply TL.skip; rfl; rfl; rfl) | (apply TL.skip_none; rfl; rfl) | (apply TL.val; rfl; rfl; (first | exact vpure | exact vread)) | (apply TL.x; rfl; rfl; (first | exact xgrow | exact xput); intro _ _) | (apply TL.guard; rfl; rfl; rfl; (with_reducible (first | exact Is.ndec | exact Is.dec | exact Is.not | ((fail_if_success exact Is.litT); (fail_if_success exact Is.litF); exact Is.base))); intro _; rotate_left; intro _; rotate_right)))
      all_goals (try (exfalso; omega))
      have hke : l.els.take k = l.els := List.take_of_length_le (by omega)
      rw [hke] at hok hnd hget
      refine N.ret2 rfl (by (exact rvx)) (by (exact rvx)) fun w hst => .inl ⟨?_, ?_⟩
      · unfold usesOK
        rw [decide_eq_true (by omega), List.all_eq_true.2 hok, decide_eq_true hnd]; rfl
      · obtain ⟨H', h1, h2, h3⟩ := hst.frzAnyU
        exact ⟨(H', b), ⟨m, h1, hget⟩, rfl, h3.fresh⟩
theorem c_countsT (l : Slc Use) (H : Hp) (w : World) (hs : Sat H w) (hg : l.Good H) (hok : usesOK l.els = true) : Calls Tryz.prog 76 #[l.v] w (RetF w H (fun p : Hp × Nat => UMap p.1 p.2 l.els) (fun p => .tuple #[.map (some p.2), .bool true]) (fun p => p.1)) :=
  (c_countsG l H w hs hg).mono fun e w' h => by
    rcases h with ⟨_, h⟩ | ⟨h, _⟩
    · exact h
    · rw [hok] at h; cases h
theorem c_countsF (l : Slc Use) (H : Hp) (w : World) (hs : Sat H w) (hg : l.Good H) (hok : usesOK l.els = false) : Calls Tryz.prog 76 #[l.v] w (Ret w (.tuple #[.map none, .bool false])) :=
  (c_countsG l H w hs hg).mono fun e w' h => by
    rcases h with ⟨h, _⟩ | ⟨_, h⟩
    · rw [hok] at h; cases h
    · exact h
end Go.Proofs.YtogcofeencgipaaGreatDoor
