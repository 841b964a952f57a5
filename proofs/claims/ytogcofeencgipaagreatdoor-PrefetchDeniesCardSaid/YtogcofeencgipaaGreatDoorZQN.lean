/- The law PrefetchCounts. -/
import Derived.Test.YtogcofeencgipaaGreatDoorZQM
import Derived.Test.YtogcofeencgipaaGreatDoorZNYB
namespace Go.Proofs.YtogcofeencgipaaGreatDoor
set_option linter.unusedVariables false
set_option linter.unusedSimpArgs false
open Go Go.RowKit
open Enc (enc)
set_option maxRecDepth 20000
def timesD (l : List Use) (q : Question) : Int := (timesOf l q).getD 0
def othersU (l : List Use) (q : Question) : List Use := l.filter fun u => !isQ q u
def lastT (l : List Use) (q : Question) : Int := l.foldl (fun t u => if isQ q u then u.times else t) 0
theorem timesOf_map (l : List Use) (q : Question) : timesOf (l.map fun u => if isQ q u then bump u else u) q = (timesOf l q).map fun t => minI (t + 1) 1000000 := by
  unfold timesOf
  induction l with
  | nil => rfl
  | cons u l ih =>
    rw [List.map_cons, List.find?_cons, List.find?_cons]
    by_cases h : u.q = q
    · have h1 : isQ q u = true := decide_eq_true h
      rw [if_pos h1, decide_eq_true h, decide_eq_true (show (bump u).q = q from h)]
      rfl
    · have h1 : isQ q u = false := decide_eq_false h
      rw [h1, if_neg Bool.false_ne_true, decide_eq_false h]
      exact ih
theorem map_qs (l : List Use) (q : Question) : (l.map fun u => if isQ q u then bump u else u).map Use.q = l.map Use.q := by
  rw [List.map_map]
  apply List.map_congr_left
  intro u _
  show (if isQ q u then bump u else u).q = u.q
  split <;> rfl
theorem others_map (l : List Use) (q : Question) : othersU (l.map fun u => if isQ q u then bump u else u) q = othersU l q := by
  unfold othersU
  induction l with
  | nil => rfl
  | cons u l ih =>
    rw [List.map_cons, List.filter_cons, List.filter_cons, ih]
    cases h : isQ q u with
    | true =>
      have h1 : isQ q (bump u) = true := h
      rw [if_pos rfl, h1]; rfl
    | false => rw [if_neg Bool.false_ne_true, h]
theorem usesOK_iff (l : List Use) : usesOK l = true ↔ l.length ≤ 400 ∧ (∀ u ∈ l, useOK u = true) ∧ (l.map Use.q).Nodup := by
  unfold usesOK
  simp only [Bool.and_eq_true, decide_eq_true_eq, List.all_eq_true, and_assoc]
theorem useOK_iff (u : Use) : useOK u = true ↔ questionOK u.q = true ∧ 1 ≤ u.times ∧ u.times ≤ 1000000 := by
  unfold useOK
  rw [Bool.and_eq_true, decide_eq_true_eq]
theorem times_none {l : List Use} {q : Question} (h : l.any (isQ q) = false) : timesOf l q = none := by
  rw [List.any_eq_false] at h
  unfold timesOf
  rw [Option.map_eq_none_iff, List.find?_eq_none]
  exact h
structure AskedOK (l : List Use) (q : Question) : Prop where
  ok : usesOK (askedC l q).1 = true
  has : (askedC l q).1.any (isQ q) = true
  others : othersU (askedC l q).1 q = othersU l q
  times : timesD (askedC l q).1 q = minI (timesD l q + 1) 1000000
theorem asked_ok {l : List Use} {q : Question} (h1 : usesOK l = true) (h2 : questionOK q = true) (h3 : (askedC l q).2 = 0) : AskedOK l q := by
  obtain ⟨k1, k2, k3⟩ := (usesOK_iff l).1 h1
  cases ha : l.any (isQ q) with
  | true =>
    have e : askedC l q = (l.map fun u => if isQ q u then bump u else u, 0) := by unfold askedC; rw [h1, h2, ha]; rfl
    obtain ⟨u0, hu0, hu1⟩ := List.any_eq_true.1 ha
    have hsome : ∃ t, timesOf l q = some t := by
      cases ht : timesOf l q with
      | none => exact absurd (List.mem_map.2 ⟨u0, hu0, of_decide_eq_true hu1⟩) (timesOf_none ht)
      | some t => exact ⟨t, rfl⟩
    obtain ⟨t, ht⟩ := hsome
    refine ⟨?_, ?_, ?_, ?_⟩ <;> rw [e]
    · rw [usesOK_iff]
      refine ⟨by rw [List.length_map]; exact k1, fun u hu => ?_, by rw [map_qs]; exact k3⟩
      obtain ⟨v, hv, rfl⟩ := List.mem_map.1 hu
      have := (useOK_iff v).1 (k2 v hv)
      split
      · rw [useOK_iff]
        refine ⟨this.1, ?_⟩
        show 1 ≤ minI (v.times + 1) 1000000 ∧ minI (v.times + 1) 1000000 ≤ 1000000
        unfold minI; split <;> omega
      · exact k2 v hv
    · rw [List.any_eq_true]
      exact ⟨bump u0, List.mem_map.2 ⟨u0, hu0, if_pos hu1⟩, hu1⟩
    · exact others_map l q
    · show (timesOf (l.map _) q).getD 0 = minI ((timesOf l q).getD 0 + 1) 1000000
      rw [timesOf_map, ht]; rfl
  | false =>
    have ht := times_none ha
    by_cases h4 : l.length = 400
    · have e : askedC l q = ([], 41) := by unfold askedC; rw [h1, h2, ha, if_pos h4]; rfl
      rw [e] at h3; cases h3
    · have e : askedC l q = (l ++ [⟨q, 1⟩], 0) := by unfold askedC; rw [h1, h2, ha, if_neg h4]; rfl
      have hq : isQ q ⟨q, 1⟩ = true := decide_eq_true rfl
      refine ⟨?_, ?_, ?_, ?_⟩ <;> rw [e]
      · rw [usesOK_iff]
        refine ⟨by rw [List.length_append, List.length_singleton]; omega, fun u hu => ?_, ?_⟩
        · rcases List.mem_append.1 hu with h | h
          · exact k2 u h
          · rw [List.mem_singleton.1 h, useOK_iff]; exact ⟨h2, show (1 : Int) ≤ 1 by decide, show (1 : Int) ≤ 1000000 by decide⟩
        · rw [List.map_append]
          exact List.nodup_append.2 ⟨k3, by simp, fun a ha' b hb => by
            rw [List.map_cons, List.map_nil, List.mem_singleton] at hb
            subst hb
            rintro rfl
            exact timesOf_none ht ha'⟩
      · rw [List.any_eq_true]; exact ⟨⟨q, 1⟩, by simp, hq⟩
      · unfold othersU
        rw [List.filter_append, List.filter_cons, hq]; simp
      · show (timesOf (l ++ [⟨q, 1⟩]) q).getD 0 = minI ((timesOf l q).getD 0 + 1) 1000000
        rw [timesOf_snoc, ht, if_pos rfl]; rfl
theorem asked_err {l : List Use} {q : Question} (h1 : usesOK l = true) (h2 : questionOK q = true) (h3 : (askedC l q).2 ≠ 0) : (askedC l q).2 = 41 ∧ l.length = 400 ∧ l.any (isQ q) = false := by
  cases ha : l.any (isQ q) with
  | true => exact absurd (show (askedC l q).2 = 0 by unfold askedC; rw [h1, h2, ha]; rfl) h3
  | false =>
    by_cases h4 : l.length = 400
    · exact ⟨by unfold askedC; rw [h1, h2, ha, if_pos h4]; rfl, h4, rfl⟩
    · exact absurd (show (askedC l q).2 = 0 by unfold askedC; rw [h1, h2, ha, if_neg h4]; rfl) h3
theorem last_skip {q : Question} : ∀ (l : List Use) (t : Int), q ∉ l.map Use.q → l.foldl (fun t u => if isQ q u then u.times else t) t = t
  | [], _, _ => rfl
  | u :: l, t, h => by
    rw [List.map_cons, List.mem_cons, not_or] at h
    rw [List.foldl_cons, if_neg (by unfold isQ; rw [decide_eq_true_eq]; exact fun e => h.1 e.symm)]
    exact last_skip l t h.2
theorem last_times {q : Question} : ∀ (l : List Use) (t : Int), (l.map Use.q).Nodup → l.foldl (fun t u => if isQ q u then u.times else t) t = (timesOf l q).getD t
  | [], _, _ => rfl
  | u :: l, t, h => by
    rw [List.map_cons, List.nodup_cons] at h
    rw [List.foldl_cons]
    unfold timesOf
    rw [List.find?_cons]
    by_cases e : u.q = q
    · have h1 : isQ q u = true := decide_eq_true e
      rw [if_pos h1, decide_eq_true e, last_skip l _ (e ▸ h.1)]
      rfl
    · have h1 : isQ q u = false := decide_eq_false e
      rw [h1, if_neg Bool.false_ne_true, decide_eq_false e]
      exact last_times l t h.2
theorem lastT_eq {l : List Use} {q : Question} (h : (l.map Use.q).Nodup) : lastT l q = timesD l q := last_times l 0 h
theorem lastT_up {l : List Use} {q : Question} {k : Nat} (hk : k < l.length) : lastT (l.take (k + 1)) q = if isQ q l[k] then l[k].times else lastT (l.take k) q := by
  unfold lastT
  rw [List.take_succ_eq_append_getElem hk, List.foldl_append]; rfl
theorem othersU_up {l : List Use} {q : Question} {k : Nat} (hk : k < l.length) : othersU (l.take (k + 1)) q = othersU (l.take k) q ++ if isQ q l[k] then [] else [l[k]] := by
  unfold othersU
  rw [List.take_succ_eq_append_getElem hk, List.filter_append, List.filter_cons]
  cases isQ q l[k] <;> rfl
theorem minI_up {x : Int} {k : Nat} : minI (minI (x + k) 1000000 + 1) 1000000 = minI (x + (k + 1 : Nat)) 1000000 := by
  unfold minI; split <;> split <;> omega
theorem minI_comm {x : Int} : (if x < 1000000 then x else 1000000) = minI x 1000000 := by
  unfold minI; split <;> split <;> omega
theorem times_le {l : List Use} {q : Question} (h : usesOK l = true) : 0 ≤ timesD l q ∧ timesD l q ≤ 1000000 := by
  unfold timesD
  cases ht : timesOf l q with
  | none => exact ⟨by decide, by decide⟩
  | some t =>
    obtain ⟨u, hu, _, h3⟩ := timesOf_some ht
    have := (useOK_iff u).1 (((usesOK_iff l).1 h).2.1 u hu)
    show 0 ≤ t ∧ t ≤ 1000000
    omega
theorem c_SameUsesV (a b : Slc Use) (h : a.els = b.els) {H : Hp} {w : World} (hs : Sat H w) (ha : a.Good H) (hb : b.Good H) : Calls Tryz.prog 34 #[a.v, b.v] w (Ret w (.bool true)) := by
  have := c_SameUses a b H w hs ha hb
  rwa [decide_eq_true h] at this
set_option maxHeartbeats 16000000 in
theorem c_Counts (uses : Slc Use) (q : Question) (t : Int) (H : Hp) (w : World) (hs : Sat H w) (hR : Rules H) (hu : uses.Good H) (hq : Enc.good H q) (ht : 0 ≤ t ∧ t ≤ 255) : Calls Tryz.prog 9 #[uses.v, .agg (enc q).toArray, .int .u8 t] w (Ret w (.bool true)) := by
  have hlen := hu.len
  have hlim := hu.lim
  refine T.enter (vs := [uses.v, .agg (enc q).toArray, .int .u8 t]) (H := H) Tryz.func9 rfl rfl rfl hs ?_
  by_cases hpre : usesOK uses.els = true ∧ questionOK q = true
  · obtain ⟨h1, h2⟩ := hpre
    obtain ⟨n, hn, hn4⟩ : ∃ n : Nat, t.tmod 5 = n ∧ n ≤ 4 := by
      have := tmod_bounds ht.1 5 (by decide)
      exact ⟨(t.tmod 5).toNat, by omega, by omega⟩
    have hl4 := ((usesOK_iff _).1 h1).1
    repeat (any_goals (first | refine T.seq ?_ | refine T.region ?_ | refine TL.nil ?_ | refine N.next ?_ | refine N.inBlock ?_ | refine N.exit_same ?_ | refine N.exit_then ?_ | refine N.ret_then ?_ | refine N.ret_block ?_ | (apply N.exit_other; rfl) | refine T.ret ?_ | refine T.skip ?_ | refine T.exit ?_ | refine T.block ?_ | (apply T.cond_true; rfl) | (apply T.cond_false; rfl) | (apply T.test; rfl; (with_reducible (first | exact Is.ndec | exact Is.dec | exact Is.not | ((fail_if_success exact Is.litT); (fail_if_success exact Is.litF); exact Is.base))); intro _; rotate_left; intro _; rotate_right) | (apply TL.skip; rfl; rfl; rfl) | (apply TL.skip_none; rfl; rfl) | (apply TL.x; rfl; rfl; (apply X.box (d := 4); rfl; rfl; rfl); intro b4 _) | (apply TL.callE (f := 25) [] Tryz.call25; rfl; rfl; rfl; rfl; (exact fun _ hs => c_head32 _ _ hs.sat hR)) | (apply TL.callE (f := 38) [uses.v] Tryz.call38; rfl; rfl; rfl; rfl; (exact fun _ hs => h1 ▸ c_Uses32 uses _ _ hs.sat hu)) | (apply TL.callE (f := 39) [.agg (enc q).toArray] Tryz.call39; rfl; rfl; rfl; rfl; (exact fun _ hs => c_Question06V q h2 hs.sat hq)) | (apply TL.val; rfl; rfl; (apply V.conv; rfl; rfl; rfl; rfl; exact IntWalk.i64_in _ (by omega))) | (apply TL.val; rfl; rfl; (apply V.remE hn; rfl; rfl; decide)) | (apply TL.val; rfl; rfl; (first | exact vpure | exact vread)) | (apply TL.x; rfl; rfl; (first | exact xgrow | exact xput); intro _ _) | (apply TL.guard; rfl; rfl; rfl; (with_reducible (first | exact Is.ndec | exact Is.dec | exact Is.not | ((fail_if_success exact Is.litT); (fail_if_success exact Is.litF); exact Is.base))); intro _; rotate_left; intro _; rotate_right)))
    all_goals (try contradiction)
    all_goals (try (exfalso; omega))
    all_goals (try (exact N.ret_bool rfl (by (exact rvx)) rfl))
    refine T.loop (G := Hp × Slc Use × Nat) (fun g => [(0, uses.v), (4, .pointer (some ⟨b4, 0, none⟩)), (7, .bool true), (8, g.2.1.v), (9, intV n), (45, intV n), (46, intV g.2.2)]) (fun g => g.1) (fun _ => [.blk b4 23 (enc q)]) (fun g => H.le g.1 ∧ g.2.2 ≤ n ∧ g.2.1.Good g.1 ∧ usesOK g.2.1.els = true ∧ (g.2.2 = 0 → g.2.1.els = uses.els) ∧ (0 < g.2.2 → g.2.1.els.any (isQ q) = true) ∧ othersU g.2.1.els q = othersU uses.els q ∧ timesD g.2.1.els q = minI (timesD uses.els q + g.2.2) 1000000) (fun g => n - g.2.2) (H, uses, 0) ⟨Hp.le.refl _, Nat.zero_le _, hu, h1, fun _ => rfl, fun h => absurd h (Nat.lt_irrefl 0), rfl, by
      have := times_le (q := q) h1
      show timesD uses.els q = minI (timesD uses.els q + (0 : Nat)) 1000000
      unfold minI; split <;> omega⟩ (by (repeat (first | exact True.intro | refine ⟨rfl, ?_⟩ | refine Sub.int rfl (by omega) ?_))) rfl (by (repeat (first | exact List.Sublist.refl _ | exact List.nil_sublist _ | apply List.Sublist.cons_cons | apply List.Sublist.cons))) ?_
    rintro ⟨Hk, cur, k⟩ ⟨hle, hk, hcg, hco, hc0, hc1, hct, hcn⟩
    simp only at hle hk hcg hco hc0 hc1 hct hcn ⊢
    by_cases hlt : k < n
    · obtain ⟨⟨r, e⟩, hr⟩ : ∃ x, askedC cur.els q = x := ⟨_, rfl⟩
      have hqk := Enc.mono hle hq
      by_cases he0 : e = 0
      · have hA := asked_ok hco h2 (by rw [hr]; exact he0)
        obtain ⟨a1, a2, a3, a4⟩ := hA
        rw [hr] at a1 a2 a3 a4
        simp only at a1 a2 a3 a4
        repeat (any_goals (first | refine T.seq ?_ | refine T.region ?_ | refine TL.nil ?_ | refine N.next ?_ | refine N.inBlock ?_ | refine N.exit_same ?_ | refine N.exit_then ?_ | refine N.ret_then ?_ | refine N.ret_block ?_ | (apply N.exit_other; rfl) | refine T.ret ?_ | refine T.skip ?_ | refine T.exit ?_ | refine T.block ?_ | (apply T.cond_true; rfl) | (apply T.cond_false; rfl) | (apply T.test; rfl; (with_reducible (first | exact Is.ndec | exact Is.dec | exact Is.not | ((fail_if_success exact Is.litT); (fail_if_success exact Is.litF); exact Is.base))); intro _; rotate_left; intro _; rotate_right) | (apply TL.skip; rfl; rfl; rfl) | (apply TL.skip_none; rfl; rfl) | (apply TL.x; rfl; rfl; (apply X.callFE (f := 29) [cur.v, .agg (enc q).toArray] Tryz.call29; rfl; rfl; rfl; exact (fun _ hs => c_AskedV cur q hr hs.sat hcg hqk)); intro p hp; obtain ⟨⟨hp1, hp2⟩, hp3⟩ := hp; simp only at hp1) | (apply TL.val; rfl; rfl; (first | exact vpure | exact vread)) | (apply TL.x; rfl; rfl; (first | exact xgrow | exact xput); intro _ _) | (apply TL.guard; rfl; rfl; rfl; (with_reducible (first | exact Is.ndec | exact Is.dec | exact Is.not | ((fail_if_success exact Is.litT); (fail_if_success exact Is.litF); exact Is.base))); intro _; rotate_left; intro _; rotate_right)))
        all_goals (try contradiction)
        all_goals (try (exfalso; omega))
        exact N.round (p.1, p.2, k + 1) ⟨hle.trans hp3, by show k + 1 ≤ n; omega, hp2, by show usesOK p.2.els = true; rw [hp1]; exact a1, fun h => absurd h (by show ¬ k + 1 = 0; omega), fun _ => by show p.2.els.any _ = true; rw [hp1]; exact a2, by show othersU p.2.els q = _; rw [hp1, a3, hct], by show timesD p.2.els q = _; rw [hp1, a4, hcn]; exact minI_up⟩ (by show n - (k + 1) < n - k; omega) (by (repeat (first | exact True.intro | refine ⟨rfl, ?_⟩ | refine Sub.int rfl (by omega) ?_))) rfl (by (repeat (first | exact List.Sublist.refl _ | exact List.nil_sublist _ | apply List.Sublist.cons_cons | apply List.Sublist.cons)))
      · obtain ⟨a1, a2, a3⟩ := asked_err hco h2 (by rw [hr]; exact he0)
        rw [hr] at a1
        have hk0 : k = 0 := by
          rcases Nat.eq_zero_or_pos k with h | h
          · exact h
          · rw [hc1 h] at a3; cases a3
        rw [hc0 hk0] at a2
        have a1' : e = 41 := a1
        repeat (any_goals (first | refine T.seq ?_ | refine T.region ?_ | refine TL.nil ?_ | refine N.next ?_ | refine N.inBlock ?_ | refine N.exit_same ?_ | refine N.exit_then ?_ | refine N.ret_then ?_ | refine N.ret_block ?_ | (apply N.exit_other; rfl) | refine T.ret ?_ | refine T.skip ?_ | refine T.exit ?_ | refine T.block ?_ | (apply T.cond_true; rfl) | (apply T.cond_false; rfl) | (apply T.test; rfl; (with_reducible (first | exact Is.ndec | exact Is.dec | exact Is.not | ((fail_if_success exact Is.litT); (fail_if_success exact Is.litF); exact Is.base))); intro _; rotate_left; intro _; rotate_right) | (apply TL.skip; rfl; rfl; rfl) | (apply TL.skip_none; rfl; rfl) | (apply TL.x; rfl; rfl; (apply X.callFE (f := 29) [cur.v, .agg (enc q).toArray] Tryz.call29; rfl; rfl; rfl; exact (fun _ hs => c_AskedV cur q hr hs.sat hcg hqk)); intro p hp) | (apply TL.val; rfl; rfl; (first | exact vpure | exact vread)) | (apply TL.x; rfl; rfl; (first | exact xgrow | exact xput); intro _ _) | (apply TL.guard; rfl; rfl; rfl; (with_reducible (first | exact Is.ndec | exact Is.dec | exact Is.not | ((fail_if_success exact Is.litT); (fail_if_success exact Is.litF); exact Is.base))); intro _; rotate_left; intro _; rotate_right)))
        all_goals (try contradiction)
        all_goals (try (exfalso; omega))
        all_goals (refine N.ret_bool rfl (by (exact rvx)) ?_)
        all_goals (first | rfl | exact decide_eq_true (by omega))
    · have hkn : k = n := by omega
      subst hkn
      have hcl := hcg.len
      have hcm := hcg.lim
      have hl5 := ((usesOK_iff _).1 hco).1
      have hug := hu.mono hle
      have hqk := Enc.mono hle hq
      repeat (any_goals (first | refine T.seq ?_ | refine T.region ?_ | refine TL.nil ?_ | refine N.next ?_ | refine N.inBlock ?_ | refine N.exit_same ?_ | refine N.exit_then ?_ | refine N.ret_then ?_ | refine N.ret_block ?_ | (apply N.exit_other; rfl) | refine T.ret ?_ | refine T.skip ?_ | refine T.exit ?_ | refine T.block ?_ | (apply T.cond_true; rfl) | (apply T.cond_false; rfl) | (apply T.test; rfl; (with_reducible (first | exact Is.ndec | exact Is.dec | exact Is.not | ((fail_if_success exact Is.litT); (fail_if_success exact Is.litF); exact Is.base))); intro _; rotate_left; intro _; rotate_right) | (apply TL.skip; rfl; rfl; rfl) | (apply TL.skip_none; rfl; rfl) | (apply TL.val; rfl; rfl; (first | exact vpure | exact vread)) | (apply TL.x; rfl; rfl; (first | exact xgrow | exact xput); intro _ _) | (apply TL.guard; rfl; rfl; rfl; (with_reducible (first | exact Is.ndec | exact Is.dec | exact Is.not | ((fail_if_success exact Is.litT); (fail_if_success exact Is.litF); exact Is.base))); intro _; rotate_left; intro _; rotate_right)))
      all_goals (try (exfalso; omega))
      refine T.nilRow 69 3 ?_
      refine T.loop (G := List Use × Value × Nat) (fun g => [(4, .pointer (some ⟨b4, 0, none⟩)), (7, .bool true), (8, cur.v), (9, intV k), (12, intV (lastT (uses.els.take g.2.2) q)), (13, intV 0), (14, g.2.1), (15, .slice none 0 0), (68, uses.v), (69, intV uses.len), (70, intV g.2.2)]) (fun _ => Hk) (fun g => [.row g.2.1 69 3 g.1.length (encs g.1), .blk b4 23 (enc q)]) (fun g => g.2.2 ≤ uses.len ∧ g.1.length ≤ g.2.2 ∧ (∀ y ∈ g.1, Enc.good Hk y) ∧ g.1 = othersU (uses.els.take g.2.2) q) (fun g => uses.len - g.2.2) ([], .slice none 0 0, 0) ⟨Nat.zero_le _, Nat.le_refl _, by simp, rfl⟩ (by (repeat (first | exact True.intro | refine ⟨rfl, ?_⟩ | refine Sub.int rfl (by omega) ?_))) rfl (by (repeat (first | exact List.Sublist.refl _ | exact List.nil_sublist _ | apply List.Sublist.cons_cons | apply List.Sublist.cons))) ?_
      rintro ⟨ys, yv, i⟩ ⟨hi, hyl, hyg, hys⟩
      simp only at hi hyl hyg hys ⊢
      by_cases hlt2 : i < uses.len
      · have hk2 : i < uses.els.length := by omega
        have hx := hug.els _ (List.getElem_mem hk2)
        have hLT := lastT_up (q := q) hk2
        have hOT := othersU_up (q := q) hk2
        repeat (any_goals (first | refine T.seq ?_ | refine T.region ?_ | refine TL.nil ?_ | refine N.next ?_ | refine N.inBlock ?_ | refine N.exit_same ?_ | refine N.exit_then ?_ | refine N.ret_then ?_ | refine N.ret_block ?_ | (apply N.exit_other; rfl) | refine T.ret ?_ | refine T.skip ?_ | refine T.exit ?_ | refine T.block ?_ | (apply T.cond_true; rfl) | (apply T.cond_false; rfl) | (apply T.test; rfl; (with_reducible (first | exact Is.ndec | exact Is.dec | exact Is.not | ((fail_if_success exact Is.litT); (fail_if_success exact Is.litF); exact Is.base))); intro _; rotate_left; intro _; rotate_right) | (apply TL.skip; rfl; rfl; rfl) | (apply TL.skip_none; rfl; rfl) | (apply TL.x; rfl; rfl; (apply X.storeTo 0 (enc (uses.els[i]'hk2)); rfl; rfl; rfl; rfl; rfl; rfl; rfl; rfl; rfl; rfl); intro _ _) | (apply TL.val; rfl; rfl; (apply V.aeql (e := decide ((uses.els[i]'hk2).q = q)); rfl; rfl; exact Tryz.eqGuardType23; exact fun w => eq_Question (uses.els[i]'hk2).q q w)) | (apply TL.x; rfl; rfl; (apply X.buildSlice1 (d := 82); rfl; rfl; rfl; rfl; rfl; rfl; rfl; rfl); intro b82 _) | (apply TL.x; rfl; rfl; (apply X.append1 2; rfl; rfl; rfl; rfl; rfl; rfl; rfl; rfl; rfl; exact List.Mem.head _; rfl; rfl; rfl; (refine Nat.le_trans (Nat.mul_le_mul_right _ (show _ ≤ 1000 by omega)) ?_; decide); omega); intro pa _) | (apply TL.val; rfl; rfl; (first | exact vpure | exact vread)) | (apply TL.x; rfl; rfl; (first | exact xgrow | exact xput); intro _ _) | (apply TL.guard; rfl; rfl; rfl; (with_reducible (first | exact Is.ndec | exact Is.dec | exact Is.not | ((fail_if_success exact Is.litT); (fail_if_success exact Is.litF); exact Is.base))); intro _; rotate_left; intro _; rotate_right)))
        all_goals (try (exfalso; omega))
        all_goals first
          | (have hne : isQ q (uses.els[i]'hk2) = false := decide_eq_false (by assumption)
             rw [hne] at hLT hOT
             rw [if_neg Bool.false_ne_true] at hLT hOT
             refine N.round (ys ++ [uses.els[i]'hk2], .slice (some ⟨pa.1, 0, none⟩) (ys.length + 1) pa.2, i + 1) ⟨by show i + 1 ≤ _; omega, by simp; omega, ?_, by show ys ++ _ = _; rw [hOT, hys]⟩ (by show uses.len - (i + 1) < uses.len - i; omega) (by simp only [List.length_append, List.length_cons, List.length_nil, hLT]; (repeat (first | exact True.intro | refine ⟨rfl, ?_⟩ | refine Sub.int rfl (by omega) ?_))) rfl ?_
             · intro y hy
               rcases List.mem_append.1 hy with h | h
               · exact hyg y h
               · rw [List.mem_singleton.1 h]; exact hx
             · simp only [List.length_append, List.length_cons, List.length_nil, Nat.zero_add, encs_snoc]
               (repeat (first | exact List.Sublist.refl _ | exact List.nil_sublist _ | apply List.Sublist.cons_cons | apply List.Sublist.cons)))
          | (have hne : isQ q (uses.els[i]'hk2) = true := decide_eq_true (by assumption)
             rw [hne] at hLT hOT
             rw [if_pos rfl] at hLT hOT
             refine N.round (ys, yv, i + 1) ⟨by show i + 1 ≤ _; omega, by show ys.length ≤ i + 1; omega, hyg, by show ys = _; rw [hOT, List.append_nil]; exact hys⟩ (by show uses.len - (i + 1) < uses.len - i; omega) (by simp only [hLT]; (repeat (first | exact True.intro | refine ⟨rfl, ?_⟩ | refine Sub.int rfl (by omega) ?_))) rfl (by (repeat (first | exact List.Sublist.refl _ | exact List.nil_sublist _ | apply List.Sublist.cons_cons | apply List.Sublist.cons))))
      · have hie : i = uses.len := by omega
        subst hie
        rw [List.take_of_length_le (by omega)] at hys ⊢
        apply T.frzRow 0 (els := ys); rfl; rfl; rfl; exact hyg
        intro H3 s1 e1 e2 e3 hle3
        subst e1
        have hcg3 := hcg.mono hle3
        repeat (any_goals (first | refine T.seq ?_ | refine T.region ?_ | refine TL.nil ?_ | refine N.next ?_ | refine N.inBlock ?_ | refine N.exit_same ?_ | refine N.exit_then ?_ | refine N.ret_then ?_ | refine N.ret_block ?_ | (apply N.exit_other; rfl) | refine T.ret ?_ | refine T.skip ?_ | refine T.exit ?_ | refine T.block ?_ | (apply T.cond_true; rfl) | (apply T.cond_false; rfl) | (apply T.test; rfl; (with_reducible (first | exact Is.ndec | exact Is.dec | exact Is.not | ((fail_if_success exact Is.litT); (fail_if_success exact Is.litF); exact Is.base))); intro _; rotate_left; intro _; rotate_right) | (apply TL.skip; rfl; rfl; rfl) | (apply TL.skip_none; rfl; rfl) | (apply TL.val; rfl; rfl; (first | exact vpure | exact vread)) | (apply TL.x; rfl; rfl; (first | exact xgrow | exact xput); intro _ _) | (apply TL.guard; rfl; rfl; rfl; (with_reducible (first | exact Is.ndec | exact Is.dec | exact Is.not | ((fail_if_success exact Is.litT); (fail_if_success exact Is.litF); exact Is.base))); intro _; rotate_left; intro _; rotate_right)))
        all_goals (try (exfalso; omega))
        refine T.nilRow 69 3 ?_
        refine T.loop (G := List Use × Value × Nat) (fun g => [(4, .pointer (some ⟨b4, 0, none⟩)), (7, .bool true), (9, intV k), (12, intV (lastT uses.els q)), (13, intV (lastT (cur.els.take g.2.2) q)), (14, s1.v), (15, g.2.1), (85, cur.v), (86, intV cur.len), (87, intV g.2.2)]) (fun _ => H3) (fun g => [.row g.2.1 69 3 g.1.length (encs g.1), .blk b4 23 (enc q)]) (fun g => g.2.2 ≤ cur.len ∧ g.1.length ≤ g.2.2 ∧ (∀ y ∈ g.1, Enc.good H3 y) ∧ g.1 = othersU (cur.els.take g.2.2) q) (fun g => cur.len - g.2.2) ([], .slice none 0 0, 0) ⟨Nat.zero_le _, Nat.le_refl _, by simp, rfl⟩ (by (repeat (first | exact True.intro | refine ⟨rfl, ?_⟩ | refine Sub.int rfl (by omega) ?_))) rfl (by (repeat (first | exact List.Sublist.refl _ | exact List.nil_sublist _ | apply List.Sublist.cons_cons | apply List.Sublist.cons))) ?_
        rintro ⟨zs, zv, j⟩ ⟨hj, hzl, hzg, hzs⟩
        simp only at hj hzl hzg hzs ⊢
        by_cases hlt3 : j < cur.len
        · have hk2 : j < cur.els.length := by omega
          have hx := hcg3.els _ (List.getElem_mem hk2)
          have hLT := lastT_up (q := q) hk2
          have hOT := othersU_up (q := q) hk2
          repeat (any_goals (first | refine T.seq ?_ | refine T.region ?_ | refine TL.nil ?_ | refine N.next ?_ | refine N.inBlock ?_ | refine N.exit_same ?_ | refine N.exit_then ?_ | refine N.ret_then ?_ | refine N.ret_block ?_ | (apply N.exit_other; rfl) | refine T.ret ?_ | refine T.skip ?_ | refine T.exit ?_ | refine T.block ?_ | (apply T.cond_true; rfl) | (apply T.cond_false; rfl) | (apply T.test; rfl; (with_reducible (first | exact Is.ndec | exact Is.dec | exact Is.not | ((fail_if_success exact Is.litT); (fail_if_success exact Is.litF); exact Is.base))); intro _; rotate_left; intro _; rotate_right) | (apply TL.skip; rfl; rfl; rfl) | (apply TL.skip_none; rfl; rfl) | (apply TL.x; rfl; rfl; (apply X.storeTo 0 (enc (cur.els[j]'hk2)); rfl; rfl; rfl; rfl; rfl; rfl; rfl; rfl; rfl; rfl); intro _ _) | (apply TL.val; rfl; rfl; (apply V.aeql (e := decide ((cur.els[j]'hk2).q = q)); rfl; rfl; exact Tryz.eqGuardType23; exact fun w => eq_Question (cur.els[j]'hk2).q q w)) | (apply TL.x; rfl; rfl; (apply X.buildSlice1 (d := 99); rfl; rfl; rfl; rfl; rfl; rfl; rfl; rfl); intro b82 _) | (apply TL.x; rfl; rfl; (apply X.append1 2; rfl; rfl; rfl; rfl; rfl; rfl; rfl; rfl; rfl; exact List.Mem.head _; rfl; rfl; rfl; (refine Nat.le_trans (Nat.mul_le_mul_right _ (show _ ≤ 1000 by omega)) ?_; decide); omega); intro pa _) | (apply TL.val; rfl; rfl; (first | exact vpure | exact vread)) | (apply TL.x; rfl; rfl; (first | exact xgrow | exact xput); intro _ _) | (apply TL.guard; rfl; rfl; rfl; (with_reducible (first | exact Is.ndec | exact Is.dec | exact Is.not | ((fail_if_success exact Is.litT); (fail_if_success exact Is.litF); exact Is.base))); intro _; rotate_left; intro _; rotate_right)))
          all_goals (try (exfalso; omega))
          all_goals first
            | (have hne : isQ q (cur.els[j]'hk2) = false := decide_eq_false (by assumption)
               rw [hne] at hLT hOT
               rw [if_neg Bool.false_ne_true] at hLT hOT
               refine N.round (zs ++ [cur.els[j]'hk2], .slice (some ⟨pa.1, 0, none⟩) (zs.length + 1) pa.2, j + 1) ⟨by show j + 1 ≤ _; omega, by simp; omega, ?_, by show zs ++ _ = _; rw [hOT, hzs]⟩ (by show cur.len - (j + 1) < cur.len - j; omega) (by simp only [List.length_append, List.length_cons, List.length_nil, hLT]; (repeat (first | exact True.intro | refine ⟨rfl, ?_⟩ | refine Sub.int rfl (by omega) ?_))) rfl ?_
               · intro y hy
                 rcases List.mem_append.1 hy with h | h
                 · exact hzg y h
                 · rw [List.mem_singleton.1 h]; exact hx
               · simp only [List.length_append, List.length_cons, List.length_nil, Nat.zero_add, encs_snoc]
                 (repeat (first | exact List.Sublist.refl _ | exact List.nil_sublist _ | apply List.Sublist.cons_cons | apply List.Sublist.cons)))
            | (have hne : isQ q (cur.els[j]'hk2) = true := decide_eq_true (by assumption)
               rw [hne] at hLT hOT
               rw [if_pos rfl] at hLT hOT
               refine N.round (zs, zv, j + 1) ⟨by show j + 1 ≤ _; omega, by show zs.length ≤ j + 1; omega, hzg, by show zs = _; rw [hOT, List.append_nil]; exact hzs⟩ (by show cur.len - (j + 1) < cur.len - j; omega) (by simp only [hLT]; (repeat (first | exact True.intro | refine ⟨rfl, ?_⟩ | refine Sub.int rfl (by omega) ?_))) rfl (by (repeat (first | exact List.Sublist.refl _ | exact List.nil_sublist _ | apply List.Sublist.cons_cons | apply List.Sublist.cons))))
        · have hje : j = cur.len := by omega
          subst hje
          rw [List.take_of_length_le (by omega)] at hzs ⊢
          apply T.frzRow 0 (els := zs); rfl; rfl; rfl; exact hzg
          intro H4 s2 f1 f2 f3 hle4
          subst f1
          have hse : s1.els = s2.els := by rw [e2, f2, hys, hzs, hct]
          have e4 := e3.mono hle4
          have hT1 := lastT_eq (q := q) ((usesOK_iff _).1 h1).2.2
          have hT2 := lastT_eq (q := q) ((usesOK_iff _).1 hco).2.2
          have hTl := times_le (q := q) h1
          have hfin : lastT cur.els q = minI (lastT uses.els q + k) 1000000 := by rw [hT1, hT2, hcn]
          repeat (any_goals (first | refine T.seq ?_ | refine T.region ?_ | refine TL.nil ?_ | refine N.next ?_ | refine N.inBlock ?_ | refine N.exit_same ?_ | refine N.exit_then ?_ | refine N.ret_then ?_ | refine N.ret_block ?_ | (apply N.exit_other; rfl) | refine T.ret ?_ | refine T.skip ?_ | refine T.exit ?_ | refine T.block ?_ | (apply T.cond_true; rfl) | (apply T.cond_false; rfl) | (apply T.test; rfl; (with_reducible (first | exact Is.ndec | exact Is.dec | exact Is.not | ((fail_if_success exact Is.litT); (fail_if_success exact Is.litF); exact Is.base))); intro _; rotate_left; intro _; rotate_right) | (apply TL.skip; rfl; rfl; rfl) | (apply TL.skip_none; rfl; rfl) | (apply TL.val; rfl; rfl; (apply V.min (M := minI (lastT uses.els q + k) 1000000) minI_comm; rfl; rfl)) | (apply TL.callE (f := 34) [s1.v, s2.v] Tryz.call34; rfl; rfl; rfl; rfl; (exact fun _ hs => c_SameUsesV s1 s2 hse hs.sat e4 f3)) | (apply TL.val; rfl; rfl; (first | exact vpure | exact vread)) | (apply TL.x; rfl; rfl; (first | exact xgrow | exact xput); intro _ _) | (apply TL.guard; rfl; rfl; rfl; (with_reducible (first | exact Is.ndec | exact Is.dec | exact Is.not | ((fail_if_success exact Is.litT); (fail_if_success exact Is.litF); exact Is.base))); intro _; rotate_left; intro _; rotate_right)))
          all_goals (try (exfalso; omega))
          all_goals (try contradiction)
          all_goals exact N.ret_bool rfl (by (exact rvx)) rfl
  · repeat (any_goals (first | refine T.seq ?_ | refine T.region ?_ | refine TL.nil ?_ | refine N.next ?_ | refine N.inBlock ?_ | refine N.exit_same ?_ | refine N.exit_then ?_ | refine N.ret_then ?_ | refine N.ret_block ?_ | (apply N.exit_other; rfl) | refine T.ret ?_ | refine T.skip ?_ | refine T.exit ?_ | refine T.block ?_ | (apply T.cond_true; rfl) | (apply T.cond_false; rfl) | (apply T.test; rfl; (with_reducible (first | exact Is.ndec | exact Is.dec | exact Is.not | ((fail_if_success exact Is.litT); (fail_if_success exact Is.litF); exact Is.base))); intro _; rotate_left; intro _; rotate_right) | (apply TL.skip; rfl; rfl; rfl) | (apply TL.skip_none; rfl; rfl) | (apply TL.x; rfl; rfl; (apply X.box (d := 4); rfl; rfl; rfl); intro b4 _) | (apply TL.callE (f := 25) [] Tryz.call25; rfl; rfl; rfl; rfl; (exact fun _ hs => c_head32 _ _ hs.sat hR)) | (apply TL.callE (f := 38) [uses.v] Tryz.call38; rfl; rfl; rfl; rfl; (exact fun _ hs => c_Uses32 uses _ _ hs.sat hu)) | (apply TL.callE (f := 39) [.agg (enc q).toArray] Tryz.call39; rfl; rfl; rfl; rfl; (exact fun _ hs => c_Question06V q rfl hs.sat hq)) | (apply TL.val; rfl; rfl; (apply V.conv; rfl; rfl; rfl; rfl; exact IntWalk.i64_in _ (by omega))) | (apply TL.val; rfl; rfl; (apply V.remE rfl; rfl; rfl; decide)) | (apply TL.val; rfl; rfl; (first | exact vpure | exact vread)) | (apply TL.x; rfl; rfl; (first | exact xgrow | exact xput); intro _ _) | (apply TL.guard; rfl; rfl; rfl; (with_reducible (first | exact Is.ndec | exact Is.dec | exact Is.not | ((fail_if_success exact Is.litT); (fail_if_success exact Is.litF); exact Is.base))); intro _; rotate_left; intro _; rotate_right)))
    all_goals first
      | exact N.ret_bool rfl (by (exact rvx)) rfl
      | (exfalso; exact hpre ⟨by assumption, by assumption⟩)
end Go.Proofs.YtogcofeencgipaaGreatDoor
