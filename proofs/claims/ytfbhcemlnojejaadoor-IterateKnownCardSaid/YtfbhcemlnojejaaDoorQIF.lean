/- Walks: the reference of iterating: what is valid, aliases, zones, hosts, addresses. -/
import Derived.Test.YtfbhcemlnojejaaDoorQIE
import Derived.Test.YtfbhcemlnojejaaDoorQTRef
import Derived.Test.YtfbhcemlnojejaaDoorQTJoin
namespace Go.Proofs.YtfbhcemlnojejaaDoor
set_option linter.unusedVariables false
set_option linter.unusedSimpArgs false
open Go Go.RowKit
open Enc (enc)
set_option maxRecDepth 20000

theorem knownS_none {l : List Signed} {n : Bytes} {t : Int} (h : findS l n t = none) : knownI (l.map Signed.c) n t = -1 := knownI_none (by rw [findS_c, h]; rfl)
theorem knownS_at {l : List Signed} {n : Bytes} {t : Int} {x : Signed} (h : findS l n t = some x) : ∃ (i : Nat) (hi : i < l.length), knownI (l.map Signed.c) n t = (i : Int) ∧ l[i] = x := by
  unfold findS at h
  obtain ⟨h1, i, hi, rfl, h3⟩ := List.find?_eq_some_iff_getElem.1 h
  refine ⟨i, hi, knownI_at (by rw [List.length_map]; exact hi) (by rw [List.getElem_map]; exact h1) (fun j hj hji => ?_), rfl⟩
  rw [List.getElem_map]
  have := h3 j hji
  simpa using this
theorem getS_at {l : List Signed} {n : Bytes} {t : Int} {x : Signed} (h : findS l n t = some x) : getS l n t = x := by unfold getS; rw [h]; rfl
theorem getS_no {l : List Signed} {n : Bytes} {t : Int} (h : findS l n t = none) : getS l n t = signedNil := by unfold getS; rw [h]; rfl
theorem c_Right28 (known : Slc Signed) (H : Hp) (w : World) (hs : Sat H w) (hk : known.Good H) : Calls Tryd.prog 46 #[known.v] w (Ret w (.bool (knownOK (known.els.map Signed.c)))) := by
  have hlen := hk.len
  have hlim := hk.lim
  refine T.enter (vs := [known.v]) (H := H) Tryd.func46 rfl rfl rfl hs ?_
  have hbad : ∀ j (h : j < known.els.length), setOK known.els[j].set.c = false → knownOK (known.els.map Signed.c) = false := fun j h hb => by
    unfold knownOK
    rw [show ((known.els.map Signed.c).all fun s => setOK s.set) = false from List.all_eq_false.2 ⟨_, List.mem_map_of_mem (List.getElem_mem h), by rw [Bool.not_eq_true]; exact hb⟩, Bool.and_false]
  repeat (any_goals (first | refine T.seq ?_ | refine T.region ?_ | refine TL.nil ?_ | refine N.next ?_ | refine N.inBlock ?_ | refine N.exit_same ?_ | refine N.exit_then ?_ | refine N.ret_then ?_ | refine N.ret_block ?_ | (apply N.exit_other; rfl) | refine T.ret ?_ | refine T.skip ?_ | refine T.exit ?_ | refine T.block ?_ | (apply T.cond_true; rfl) | (apply T.cond_false; rfl) | (apply T.test; rfl; (with_reducible (first | exact Is.ndec | exact Is.dec | exact Is.not | ((fail_if_success exact Is.litT); (fail_if_success exact Is.litF); exact Is.base))); intro _; rotate_left; intro _; rotate_right) | (apply TL.skip; rfl; rfl; rfl) | (apply TL.skip_none; rfl; rfl) | (apply TL.val; rfl; rfl; (first | exact vpure | exact vread)) | (apply TL.x; rfl; rfl; (first | exact xgrow | exact xput); intro _ _) | (apply TL.guard; rfl; rfl; rfl; (with_reducible (first | exact Is.ndec | exact Is.dec | exact Is.not | ((fail_if_success exact Is.litT); (fail_if_success exact Is.litF); exact Is.base))); intro _; rotate_left; intro _; rotate_right)))
  refine T.loop (G := Nat) (fun k => [(0, known.v), (3, intV k)]) (fun _ => H) (fun _ => []) (fun k => k ≤ known.len ∧ ∀ j (h : j < known.els.length), j < k → setOK known.els[j].set.c = true) (fun k => known.len - k) 0 ⟨Nat.zero_le _, fun j _ h => by omega⟩ (by (repeat (first | exact True.intro | refine ⟨rfl, ?_⟩ | refine Sub.int rfl (by omega) ?_))) rfl (by (first | exact List.Sublist.refl _ | exact List.nil_sublist _ | exact List.Sublist.cons _ (List.Sublist.refl _) | exact List.Sublist.cons _ (List.Sublist.cons _ (List.Sublist.refl _)))) ?_
  rintro k ⟨hk1, hok⟩
  by_cases hlt : k < known.len
  · have hkl : k < known.els.length := by omega
    have hgx := hk.els _ (List.getElem_mem hkl)
    obtain ⟨v, hv⟩ : ∃ v, setOK (known.els[k]'hkl).set.c = v := ⟨_, rfl⟩
    cases v
    all_goals
      repeat (any_goals (first | refine T.seq ?_ | refine T.region ?_ | refine TL.nil ?_ | refine N.next ?_ | refine N.inBlock ?_ | refine N.exit_same ?_ | refine N.exit_then ?_ | refine N.ret_then ?_ | refine N.ret_block ?_ | (apply N.exit_other; rfl) | refine T.ret ?_ | refine T.skip ?_ | refine T.exit ?_ | refine T.block ?_ | (apply T.cond_true; rfl) | (apply T.cond_false; rfl) | (apply T.test; rfl; (with_reducible (first | exact Is.ndec | exact Is.dec | exact Is.not | ((fail_if_success exact Is.litT); (fail_if_success exact Is.litF); exact Is.base))); intro _; rotate_left; intro _; rotate_right) | (apply TL.skip; rfl; rfl; rfl) | (apply TL.skip_none; rfl; rfl) | (apply TL.callE (f := 25) [.agg (enc (known.els[k]'hkl).set).toArray] Tryd.call25; rfl; rfl; rfl; rfl; (exact fun _ hs => hv ▸ c_Valid02 (known.els[k]'hkl).set _ _ hs.sat hgx.1)) | (apply TL.val; rfl; rfl; (first | exact vpure | exact vread)) | (apply TL.x; rfl; rfl; (first | exact xgrow | exact xput); intro _ _) | (apply TL.guard; rfl; rfl; rfl; (with_reducible (first | exact Is.ndec | exact Is.dec | exact Is.not | ((fail_if_success exact Is.litT); (fail_if_success exact Is.litF); exact Is.base))); intro _; rotate_left; intro _; rotate_right)))
    all_goals (try contradiction)
    all_goals (try (exfalso; omega))
    all_goals first
      | (refine N.ret_bool rfl (by (exact rvx)) ?_; rw [hbad k hkl hv]; done)
      | (refine N.round (k + 1) ⟨by omega, fun j hj hjk => ?_⟩ (by show known.len - (k + 1) < known.len - k; omega) (by (repeat (first | exact True.intro | refine ⟨rfl, ?_⟩ | refine Sub.int rfl (by omega) ?_))) rfl (by (first | exact List.Sublist.refl _ | exact List.nil_sublist _ | exact List.Sublist.cons _ (List.Sublist.refl _) | exact List.Sublist.cons _ (List.Sublist.cons _ (List.Sublist.refl _))))
         by_cases e : j = k
         · subst e; exact hv
         · exact hok j hj (by omega))
  · repeat (any_goals (first | refine T.seq ?_ | refine T.region ?_ | refine TL.nil ?_ | refine N.next ?_ | refine N.inBlock ?_ | refine N.exit_same ?_ | refine N.exit_then ?_ | refine N.ret_then ?_ | refine N.ret_block ?_ | (apply N.exit_other; rfl) | refine T.ret ?_ | refine T.skip ?_ | refine T.exit ?_ | refine T.block ?_ | (apply T.cond_true; rfl) | (apply T.cond_false; rfl) | (apply T.test; rfl; (with_reducible (first | exact Is.ndec | exact Is.dec | exact Is.not | ((fail_if_success exact Is.litT); (fail_if_success exact Is.litF); exact Is.base))); intro _; rotate_left; intro _; rotate_right) | (apply TL.skip; rfl; rfl; rfl) | (apply TL.skip_none; rfl; rfl) | (apply TL.val; rfl; rfl; (first | exact vpure | exact vread)) | (apply TL.x; rfl; rfl; (first | exact xgrow | exact xput); intro _ _) | (apply TL.guard; rfl; rfl; rfl; (with_reducible (first | exact Is.ndec | exact Is.dec | exact Is.not | ((fail_if_success exact Is.litT); (fail_if_success exact Is.litF); exact Is.base))); intro _; rotate_left; intro _; rotate_right)))
    all_goals (try (exfalso; omega))
    refine N.ret_bool rfl (by (exact rvx)) ?_
    unfold knownOK
    rw [show ((known.els.map Signed.c).all fun s => setOK s.set) = true from List.all_eq_true.2 fun x hx => by
      obtain ⟨y, hy, rfl⟩ := List.mem_map.1 hx
      obtain ⟨j, hj, rfl⟩ := List.mem_iff_getElem.1 hy
      exact hok j hj (by omega), Bool.and_true, List.length_map]
    exact decide_eq_decide.2 (by omega)
theorem c_Hints28 (l : Slc Int) (H : Hp) (w : World) (hs : Sat H w) (hg : l.Good H) : Calls Tryd.prog 85 #[l.v] w (Ret w (.bool (hintsC l.els))) := by
  have hlen := hg.len
  have hlim := hg.lim
  refine T.enter (vs := [l.v]) (H := H) Tryd.func85 rfl rfl rfl hs ?_
  have hbad : ∀ j (h : j < l.els.length), ¬ (1 ≤ l.els[j] ∧ l.els[j] ≤ 1000000) → hintsC l.els = false := fun j h hb => by
    unfold hintsC
    rw [show (l.els.all fun n => decide (1 ≤ n ∧ n ≤ 1000000)) = false from List.all_eq_false.2 ⟨_, List.getElem_mem h, by rw [decide_eq_true_iff]; exact hb⟩, Bool.and_false]
  repeat (any_goals (first | refine T.seq ?_ | refine T.region ?_ | refine TL.nil ?_ | refine N.next ?_ | refine N.inBlock ?_ | refine N.exit_same ?_ | refine N.exit_then ?_ | refine N.ret_then ?_ | refine N.ret_block ?_ | (apply N.exit_other; rfl) | refine T.ret ?_ | refine T.skip ?_ | refine T.exit ?_ | refine T.block ?_ | (apply T.cond_true; rfl) | (apply T.cond_false; rfl) | (apply T.test; rfl; (with_reducible (first | exact Is.ndec | exact Is.dec | exact Is.not | ((fail_if_success exact Is.litT); (fail_if_success exact Is.litF); exact Is.base))); intro _; rotate_left; intro _; rotate_right) | (apply TL.skip; rfl; rfl; rfl) | (apply TL.skip_none; rfl; rfl) | (apply TL.val; rfl; rfl; (first | exact vpure | exact vread)) | (apply TL.x; rfl; rfl; (first | exact xgrow | exact xput); intro _ _) | (apply TL.guard; rfl; rfl; rfl; (with_reducible (first | exact Is.ndec | exact Is.dec | exact Is.not | ((fail_if_success exact Is.litT); (fail_if_success exact Is.litF); exact Is.base))); intro _; rotate_left; intro _; rotate_right)))
  refine T.loop (G := Nat) (fun k => [(0, l.v), (3, intV k)]) (fun _ => H) (fun _ => []) (fun k => k ≤ l.len ∧ ∀ j (h : j < l.els.length), j < k → 1 ≤ l.els[j] ∧ l.els[j] ≤ 1000000) (fun k => l.len - k) 0 ⟨Nat.zero_le _, fun j _ h => by omega⟩ (by (repeat (first | exact True.intro | refine ⟨rfl, ?_⟩ | refine Sub.int rfl (by omega) ?_))) rfl (by (first | exact List.Sublist.refl _ | exact List.nil_sublist _ | exact List.Sublist.cons _ (List.Sublist.refl _) | exact List.Sublist.cons _ (List.Sublist.cons _ (List.Sublist.refl _)))) ?_
  rintro k ⟨hk1, hok⟩
  by_cases hlt : k < l.len
  · have hkl : k < l.els.length := by omega
    repeat (any_goals (first | refine T.seq ?_ | refine T.region ?_ | refine TL.nil ?_ | refine N.next ?_ | refine N.inBlock ?_ | refine N.exit_same ?_ | refine N.exit_then ?_ | refine N.ret_then ?_ | refine N.ret_block ?_ | (apply N.exit_other; rfl) | refine T.ret ?_ | refine T.skip ?_ | refine T.exit ?_ | refine T.block ?_ | (apply T.cond_true; rfl) | (apply T.cond_false; rfl) | (apply T.test; rfl; (with_reducible (first | exact Is.ndec | exact Is.dec | exact Is.not | ((fail_if_success exact Is.litT); (fail_if_success exact Is.litF); exact Is.base))); intro _; rotate_left; intro _; rotate_right) | (apply TL.skip; rfl; rfl; rfl) | (apply TL.skip_none; rfl; rfl) | (apply TL.val; rfl; rfl; (first | exact vpure | exact vread)) | (apply TL.x; rfl; rfl; (first | exact xgrow | exact xput); intro _ _) | (apply TL.guard; rfl; rfl; rfl; (with_reducible (first | exact Is.ndec | exact Is.dec | exact Is.not | ((fail_if_success exact Is.litT); (fail_if_success exact Is.litF); exact Is.base))); intro _; rotate_left; intro _; rotate_right)))
    all_goals (try contradiction)
    all_goals (try (exfalso; omega))
    all_goals first
      | (refine N.ret_bool rfl (by (exact rvx)) ?_; rw [hbad k hkl (by omega)]; done)
      | (refine N.round (k + 1) ⟨by omega, fun j hj hjk => ?_⟩ (by show l.len - (k + 1) < l.len - k; omega) (by (repeat (first | exact True.intro | refine ⟨rfl, ?_⟩ | refine Sub.int rfl (by omega) ?_))) rfl (by (first | exact List.Sublist.refl _ | exact List.nil_sublist _ | exact List.Sublist.cons _ (List.Sublist.refl _) | exact List.Sublist.cons _ (List.Sublist.cons _ (List.Sublist.refl _))))
         by_cases e : j = k
         · subst e; omega
         · exact hok j hj (by omega))
  · have hall : (l.els.all fun n => decide (1 ≤ n ∧ n ≤ 1000000)) = true := List.all_eq_true.2 fun x hx => by
      obtain ⟨j, hj, rfl⟩ := List.mem_iff_getElem.1 hx
      exact decide_eq_true (hok j hj (by omega))
    repeat (any_goals (first | refine T.seq ?_ | refine T.region ?_ | refine TL.nil ?_ | refine N.next ?_ | refine N.inBlock ?_ | refine N.exit_same ?_ | refine N.exit_then ?_ | refine N.ret_then ?_ | refine N.ret_block ?_ | (apply N.exit_other; rfl) | refine T.ret ?_ | refine T.skip ?_ | refine T.exit ?_ | refine T.block ?_ | (apply T.cond_true; rfl) | (apply T.cond_false; rfl) | (apply T.test; rfl; (with_reducible (first | exact Is.ndec | exact Is.dec | exact Is.not | ((fail_if_success exact Is.litT); (fail_if_success exact Is.litF); exact Is.base))); intro _; rotate_left; intro _; rotate_right) | (apply TL.skip; rfl; rfl; rfl) | (apply TL.skip_none; rfl; rfl) | (apply TL.val; rfl; rfl; (first | exact vpure | exact vread)) | (apply TL.x; rfl; rfl; (first | exact xgrow | exact xput); intro _ _) | (apply TL.guard; rfl; rfl; rfl; (with_reducible (first | exact Is.ndec | exact Is.dec | exact Is.not | ((fail_if_success exact Is.litT); (fail_if_success exact Is.litF); exact Is.base))); intro _; rotate_left; intro _; rotate_right)))
    all_goals (try (exfalso; omega))
    all_goals (refine N.ret_bool rfl (by (exact rvx)) ?_; unfold hintsC; rw [hall, Bool.and_true])
    all_goals first
      | exact decide_eq_decide.2 (by omega)
      | exact (decide_eq_false (by omega)).symm
set_option maxHeartbeats 4000000 in
theorem c_Follow28 (known : Slc Signed) (s : Bytes) (t : Int) (H : Hp) (w : World) (hs : Sat H w) (hkg : known.Good H) (hK : knownOK (known.els.map Signed.c) = true) (hl : LenOk s) (ht : I64 t) : Calls Tryd.prog 86 #[known.v, strV s, intV t] w (Follows known.els H w (followI (known.els.map Signed.c) 9 [] s t)) := by
  have hlen := hkg.len
  have hlim := hkg.lim
  refine T.enter (vs := [known.v, strV s, intV t]) (H := H) Tryd.func86 rfl rfl rfl hs ?_
  obtain ⟨res, hres⟩ : ∃ x, followI (known.els.map Signed.c) 9 [] s t = x := ⟨_, rfl⟩
  rw [hres]
  repeat (any_goals (first | refine T.seq ?_ | refine T.region ?_ | refine TL.nil ?_ | refine N.next ?_ | refine N.inBlock ?_ | refine N.exit_same ?_ | refine N.exit_then ?_ | refine N.ret_then ?_ | refine N.ret_block ?_ | (apply N.exit_other; rfl) | refine T.ret ?_ | refine T.skip ?_ | refine T.exit ?_ | refine T.block ?_ | (apply T.cond_true; rfl) | (apply T.cond_false; rfl) | (apply T.test; rfl; (with_reducible (first | exact Is.ndec | exact Is.dec | exact Is.not | ((fail_if_success exact Is.litT); (fail_if_success exact Is.litF); exact Is.base))); intro _; rotate_left; intro _; rotate_right) | (apply TL.skip; rfl; rfl; rfl) | (apply TL.skip_none; rfl; rfl) | (apply TL.val; rfl; rfl; (first | exact vpure | exact vread)) | (apply TL.x; rfl; rfl; (first | exact xgrow | exact xput); intro _ _) | (apply TL.guard; rfl; rfl; rfl; (with_reducible (first | exact Is.ndec | exact Is.dec | exact Is.not | ((fail_if_success exact Is.litT); (fail_if_success exact Is.litF); exact Is.base))); intro _; rotate_left; intro _; rotate_right)))
  refine T.nilRow 37 5 ?_
  refine T.loop (G := Bytes × List Signed × Value) (fun g => [(0, known.v), (1, strV g.1), (2, intV t), (9, g.2.2)]) (fun _ => H) (fun g => [.row g.2.2 37 5 g.2.1.length (encs g.2.1)]) (fun g => g.2.1.length ≤ 8 ∧ LenOk g.1 ∧ (∀ x ∈ g.2.1, x ∈ known.els) ∧ followI (known.els.map Signed.c) (9 - g.2.1.length) (g.2.1.map Signed.c) g.1 t = res) (fun g => 9 - g.2.1.length) (s, [], .slice none 0 0) ⟨Nat.zero_le _, hl, by simp, hres⟩ (by (repeat (first | exact True.intro | refine ⟨rfl, ?_⟩ | refine Sub.int rfl (by omega) ?_))) rfl (List.Sublist.refl _) ?_
  rintro ⟨s1, got, v⟩ ⟨h8, hl1, hgot, hf⟩
  simp only at h8 hl1 hgot hf ⊢
  obtain ⟨f, hfu⟩ : ∃ f, 9 - got.length = f + 1 := ⟨8 - got.length, by omega⟩
  rw [hfu] at hf
  obtain ⟨kv, hkv⟩ : ∃ x, knownI (known.els.map Signed.c) s1 t = x := ⟨_, rfl⟩
  have hbk : has (known.els.map Signed.c) s1 t = false ↔ kv < 0 := by
    rw [← hkv, knownI_neg]
    unfold has
    cases findC (known.els.map Signed.c) s1 t <;> simp
  by_cases hend : 0 ≤ kv ∨ t = 3 ∨ t = 8
  · have hb' : res = some (got.map Signed.c, s1) := by
      rw [← hf, follow_end]
      rcases hend with h | h
      · exact .inl (by cases hb : has (known.els.map Signed.c) s1 t with
          | true => rfl
          | false => have := hbk.1 hb; omega)
      · exact .inr h
    subst hb'
    repeat (any_goals (first | refine T.seq ?_ | refine T.region ?_ | refine TL.nil ?_ | refine N.next ?_ | refine N.inBlock ?_ | refine N.exit_same ?_ | refine N.exit_then ?_ | refine N.ret_then ?_ | refine N.ret_block ?_ | (apply N.exit_other; rfl) | refine T.ret ?_ | refine T.skip ?_ | refine T.exit ?_ | refine T.block ?_ | (apply T.cond_true; rfl) | (apply T.cond_false; rfl) | (apply T.test; rfl; (with_reducible (first | exact Is.ndec | exact Is.dec | exact Is.not | ((fail_if_success exact Is.litT); (fail_if_success exact Is.litF); exact Is.base))); intro _; rotate_left; intro _; rotate_right) | (apply TL.skip; rfl; rfl; rfl) | (apply TL.skip_none; rfl; rfl) | (apply TL.callE (f := 28) [known.v, strV s1, intV t] Tryd.call28; rfl; rfl; rfl; rfl; (exact fun _ hs => c_Known10V hkv hs.sat hkg)) | (apply TL.val; rfl; rfl; (first | exact vpure | exact vread)) | (apply TL.x; rfl; rfl; (first | exact xgrow | exact xput); intro _ _) | (apply TL.guard; rfl; rfl; rfl; (with_reducible (first | exact Is.ndec | exact Is.dec | exact Is.not | ((fail_if_success exact Is.litT); (fail_if_success exact Is.litF); exact Is.base))); intro _; rotate_left; intro _; rotate_right)))
    all_goals (try contradiction)
    all_goals (try (exfalso; rcases hend with h | h | h <;> first | omega | contradiction))
    all_goals (exact N.ret3 rfl (by (exact rvx)) (by (exact rvx)) (by (exact rvx)) fun w hst => ⟨(v, got), ⟨rfl, h8, hl1, hgot⟩, rfl, hst⟩)
  · have hb : has (known.els.map Signed.c) s1 t = false := hbk.2 (by omega)
    have h3 : t ≠ 3 := fun h => hend (.inr (.inl h))
    have h8' : t ≠ 8 := fun h => hend (.inr (.inr h))
    rw [follow_step hb h3 h8', findS_c] at hf
    cases ha : findS known.els s1 3 with
    | none =>
      rw [ha] at hf
      have hb' : res = some (got.map Signed.c, s1) := hf.symm
      subst hb'
      have hka := knownS_none ha
      repeat (any_goals (first | refine T.seq ?_ | refine T.region ?_ | refine TL.nil ?_ | refine N.next ?_ | refine N.inBlock ?_ | refine N.exit_same ?_ | refine N.exit_then ?_ | refine N.ret_then ?_ | refine N.ret_block ?_ | (apply N.exit_other; rfl) | refine T.ret ?_ | refine T.skip ?_ | refine T.exit ?_ | refine T.block ?_ | (apply T.cond_true; rfl) | (apply T.cond_false; rfl) | (apply T.test; rfl; (with_reducible (first | exact Is.ndec | exact Is.dec | exact Is.not | ((fail_if_success exact Is.litT); (fail_if_success exact Is.litF); exact Is.base))); intro _; rotate_left; intro _; rotate_right) | (apply TL.skip; rfl; rfl; rfl) | (apply TL.skip_none; rfl; rfl) | (apply TL.callE (f := 28) [known.v, strV s1, intV t] Tryd.call28; rfl; rfl; rfl; rfl; (exact fun _ hs => c_Known10V hkv hs.sat hkg)) | (apply TL.callE (f := 28) [known.v, strV s1, intV 3] Tryd.call28; rfl; rfl; rfl; rfl; (exact fun _ hs => c_Known10V hka hs.sat hkg)) | (apply TL.val; rfl; rfl; (first | exact vpure | exact vread)) | (apply TL.x; rfl; rfl; (first | exact xgrow | exact xput); intro _ _) | (apply TL.guard; rfl; rfl; rfl; (with_reducible (first | exact Is.ndec | exact Is.dec | exact Is.not | ((fail_if_success exact Is.litT); (fail_if_success exact Is.litF); exact Is.base))); intro _; rotate_left; intro _; rotate_right)))
      all_goals (try contradiction)
      all_goals (try (exfalso; omega))
      all_goals (exact N.ret3 rfl (by (exact rvx)) (by (exact rvx)) (by (exact rvx)) fun w hst => ⟨(v, got), ⟨rfl, h8, hl1, hgot⟩, rfl, hst⟩)
    | some a =>
      rw [ha] at hf
      obtain ⟨i, hi, hki, hia⟩ := knownS_at ha
      subst hia
      have hmem : known.els[i] ∈ known.els := List.getElem_mem hi
      have hag : Enc.good H known.els[i] := hkg.els _ hmem
      have hsa : setOK known.els[i].set.c = true := known_set hK (List.mem_map_of_mem hmem)
      obtain ⟨d, ds, hd⟩ := data_pos hsa
      have hde : known.els[i].set.data.els = d :: ds := hd
      have hdg0 := hag.1.2.2.2
      have hdl := hdg0.len
      have hpos : 0 < known.els[i].set.data.len := by rw [← hdl, hde]; simp
      have hp0 : 0 < known.els[i].set.data.els.length := by omega
      have hdg : Enc.good H (known.els[i].set.data.els[0]'hp0) := hdg0.els _ (List.getElem_mem _)
      have htx : (known.els[i].c.set.data.headD dNil).text = (known.els[i].set.data.els[0]'hp0).text := by
        rw [show known.els[i].c.set.data = d :: ds from hde]
        simp only [List.headD_cons, hde, List.getElem_cons_zero]
      by_cases hg8 : got.length = 8
      · have hb' : res = none := by rw [← hf]; simp [hg8]
        subst hb'
        repeat (any_goals (first | refine T.seq ?_ | refine T.region ?_ | refine TL.nil ?_ | refine N.next ?_ | refine N.inBlock ?_ | refine N.exit_same ?_ | refine N.exit_then ?_ | refine N.ret_then ?_ | refine N.ret_block ?_ | (apply N.exit_other; rfl) | refine T.ret ?_ | refine T.skip ?_ | refine T.exit ?_ | refine T.block ?_ | (apply T.cond_true; rfl) | (apply T.cond_false; rfl) | (apply T.test; rfl; (with_reducible (first | exact Is.ndec | exact Is.dec | exact Is.not | ((fail_if_success exact Is.litT); (fail_if_success exact Is.litF); exact Is.base))); intro _; rotate_left; intro _; rotate_right) | (apply TL.skip; rfl; rfl; rfl) | (apply TL.skip_none; rfl; rfl) | (apply TL.callE (f := 28) [known.v, strV s1, intV t] Tryd.call28; rfl; rfl; rfl; rfl; (exact fun _ hs => c_Known10V hkv hs.sat hkg)) | (apply TL.callE (f := 28) [known.v, strV s1, intV 3] Tryd.call28; rfl; rfl; rfl; rfl; (exact fun _ hs => c_Known10V hki hs.sat hkg)) | (apply TL.val; rfl; rfl; (apply V.len_row; rfl; rfl; rfl; rfl; (exact lmem))) | (apply TL.val; rfl; rfl; (first | exact vpure | exact vread)) | (apply TL.x; rfl; rfl; (first | exact xgrow | exact xput); intro _ _) | (apply TL.guard; rfl; rfl; rfl; (with_reducible (first | exact Is.ndec | exact Is.dec | exact Is.not | ((fail_if_success exact Is.litT); (fail_if_success exact Is.litF); exact Is.base))); intro _; rotate_left; intro _; rotate_right)))
        all_goals (try contradiction)
        all_goals (try (exfalso; omega))
        all_goals (exact N.ret3 rfl (by (exact rvx)) (by (exact rvx)) (by (exact rvx)) fun w hst => ⟨rfl, hst.below⟩)
      · have hf' : followI (known.els.map Signed.c) (9 - (got ++ [known.els[i]]).length) ((got ++ [known.els[i]]).map Signed.c) (known.els[i].set.data.els[0]'hp0).text t = res := by
          rw [← hf]
          simp only [Option.map_some, List.length_map, if_neg hg8, htx, List.map_append, List.map_cons, List.map_nil, List.length_append, List.length_cons, List.length_nil]
          rw [show 9 - (got.length + (0 + 1)) = f by omega]
        repeat (any_goals (first | refine T.seq ?_ | refine T.region ?_ | refine TL.nil ?_ | refine N.next ?_ | refine N.inBlock ?_ | refine N.exit_same ?_ | refine N.exit_then ?_ | refine N.ret_then ?_ | refine N.ret_block ?_ | (apply N.exit_other; rfl) | refine T.ret ?_ | refine T.skip ?_ | refine T.exit ?_ | refine T.block ?_ | (apply T.cond_true; rfl) | (apply T.cond_false; rfl) | (apply T.test; rfl; (with_reducible (first | exact Is.ndec | exact Is.dec | exact Is.not | ((fail_if_success exact Is.litT); (fail_if_success exact Is.litF); exact Is.base))); intro _; rotate_left; intro _; rotate_right) | (apply TL.skip; rfl; rfl; rfl) | (apply TL.skip_none; rfl; rfl) | (apply TL.callE (f := 28) [known.v, strV s1, intV t] Tryd.call28; rfl; rfl; rfl; rfl; (exact fun _ hs => c_Known10V hkv hs.sat hkg)) | (apply TL.callE (f := 28) [known.v, strV s1, intV 3] Tryd.call28; rfl; rfl; rfl; rfl; (exact fun _ hs => c_Known10V hki hs.sat hkg)) | (apply TL.val; rfl; rfl; (apply V.len_row; rfl; rfl; rfl; rfl; (exact lmem))) | (apply TL.x; rfl; rfl; (apply X.append1 1; rfl; rfl; rfl; rfl; rfl; rfl; rfl; rfl; rfl; exact List.Mem.head _; rfl; rfl; rfl; (refine Nat.le_trans (Nat.mul_le_mul_left _ (show _ ≤ 1000 by decide)) ?_; show (got.length + 1) * 1000 ≤ _; omega); (show got.length + 1 ≤ _; omega)); intro p2 _) | (apply TL.val; rfl; rfl; (apply V.elem (j := 0); rfl; rfl; rfl; rfl; rfl; rfl; exact hpos; exact hdg0.at_ hpos)) | (apply TL.val; rfl; rfl; (first | exact vpure | exact vread)) | (apply TL.x; rfl; rfl; (first | exact xgrow | exact xput); intro _ _) | (apply TL.guard; rfl; rfl; rfl; (with_reducible (first | exact Is.ndec | exact Is.dec | exact Is.not | ((fail_if_success exact Is.litT); (fail_if_success exact Is.litF); exact Is.base))); intro _; rotate_left; intro _; rotate_right)))
        all_goals (try contradiction)
        all_goals (try (exfalso; omega))
        rename_i p2 _
        refine N.round ((known.els[i].set.data.els[0]'hp0).text, got ++ [known.els[i]], .slice (some ⟨p2.1, 0, none⟩) (got.length + 1) p2.2) ⟨by rw [List.length_append]; show got.length + 1 ≤ 8; omega, hdg.1, fun y hy => ?_, hf'⟩ (by show 9 - (got ++ [known.els[i]]).length < 9 - got.length; rw [List.length_append]; show 9 - (got.length + 1) < _; omega) (by (repeat (first | exact True.intro | refine ⟨rfl, ?_⟩ | refine Sub.int rfl (by omega) ?_))) rfl ?_
        · rcases List.mem_append.1 hy with hy | hy
          · exact hgot y hy
          · rw [List.mem_singleton] at hy; rw [hy]; exact hmem
        · rw [List.length_append, encs_snoc]
          exact List.Sublist.cons _ (List.Sublist.refl _)
theorem c_Follow28T {known : Slc Signed} {s : Bytes} {t : Int} {k : List SignedC} {e : Bytes} (h : followI (known.els.map Signed.c) 9 [] s t = some (k, e)) {H : Hp} {w : World} (hs : Sat H w) (hkg : known.Good H) (hK : knownOK (known.els.map Signed.c) = true) (hl : LenOk s) (ht : I64 t) : Calls Tryd.prog 86 #[known.v, strV s, intV t] w (RetO w H (fun g : Value × List Signed => g.2.map Signed.c = k ∧ g.2.length ≤ 8 ∧ LenOk e ∧ ∀ x ∈ g.2, x ∈ known.els) (fun g => .tuple #[g.1, strV e, .bool true]) (fun _ => H) (fun g => [.row g.1 37 5 g.2.length (encs g.2)])) := by
  have := c_Follow28 known s t H w hs hkg hK hl ht
  rw [h] at this
  exact this
theorem c_Follow28F {known : Slc Signed} {s : Bytes} {t : Int} (h : followI (known.els.map Signed.c) 9 [] s t = none) {H : Hp} {w : World} (hs : Sat H w) (hkg : known.Good H) (hK : knownOK (known.els.map Signed.c) = true) (hl : LenOk s) (ht : I64 t) : Calls Tryd.prog 86 #[known.v, strV s, intV t] w (Ret w (.tuple #[.slice none 0 0, strV [], .bool false])) := by
  have := c_Follow28 known s t H w hs hkg hK hl ht
  rw [h] at this
  exact this
set_option maxHeartbeats 4000000 in
theorem c_Zones28 (known : Slc Signed) (q : Question) (H : Hp) (w : World) (hs : Sat H w) (hkg : known.Good H) (hqn : nameOK q.name = true) (hqt : I64 q.typ) : Calls Tryd.prog 89 #[known.v, .agg (enc q).toArray] w (RetF w H (fun p : Hp × Slc Bytes => p.2.els = zonesC (known.els.map Signed.c) q [] ∧ p.2.Good p.1) (fun p => p.2.v) (fun p => p.1)) := by
  obtain ⟨hlabs, hp8⟩ := parts_labs hqn
  have hal : (aboveC q.name).length = (parts q.name).length + 1 := above_len _
  refine T.enter (vs := [known.v, .agg (enc q).toArray]) (H := H) Tryd.func89 rfl rfl rfl hs ?_
  repeat (any_goals (first | refine T.seq ?_ | refine T.region ?_ | refine TL.nil ?_ | refine N.next ?_ | refine N.inBlock ?_ | refine N.exit_same ?_ | refine N.exit_then ?_ | refine N.ret_then ?_ | refine N.ret_block ?_ | (apply N.exit_other; rfl) | refine T.ret ?_ | refine T.skip ?_ | refine T.exit ?_ | refine T.block ?_ | (apply T.cond_true; rfl) | (apply T.cond_false; rfl) | (apply T.test; rfl; (with_reducible (first | exact Is.ndec | exact Is.dec | exact Is.not | ((fail_if_success exact Is.litT); (fail_if_success exact Is.litF); exact Is.base))); intro _; rotate_left; intro _; rotate_right) | (apply TL.skip; rfl; rfl; rfl) | (apply TL.skip_none; rfl; rfl) | (apply TL.val; rfl; rfl; (first | exact vpure | exact vread)) | (apply TL.x; rfl; rfl; (first | exact xgrow | exact xput); intro _ _) | (apply TL.guard; rfl; rfl; rfl; (with_reducible (first | exact Is.ndec | exact Is.dec | exact Is.not | ((fail_if_success exact Is.litT); (fail_if_success exact Is.litF); exact Is.base))); intro _; rotate_left; intro _; rotate_right)))
  rename_i b3 _
  refine T.nilRow 9 1 ?_
  refine T.loop (G := Nat × Hp × List Bytes × Value) (fun g => [(0, known.v), (3, .pointer (some ⟨b3, 0, none⟩)), (5, g.2.2.2), (6, strV (glueC ((parts q.name).drop g.1)))]) (fun g => g.2.1) (fun g => [.row g.2.2.2 9 1 g.2.2.1.length (encs g.2.2.1), .blk b3 30 (enc q)]) (fun g => g.1 ≤ (parts q.name).length ∧ H.le g.2.1 ∧ g.2.2.1 = ((aboveC q.name).take g.1).filter (asked (known.els.map Signed.c) q [])) (fun g => (parts q.name).length - g.1) (0, H, [], .slice none 0 0) ⟨Nat.zero_le _, .refl _, rfl⟩ (by rw [List.drop_zero, glue_split]; (repeat (first | exact True.intro | refine ⟨rfl, ?_⟩ | refine Sub.int rfl (by omega) ?_))) rfl (List.Sublist.refl _) ?_
  rintro ⟨k, H1, out, v⟩ ⟨hk, hle, hout⟩
  simp only at hk hle hout ⊢
  have hk1 := hkg.mono hle
  have hkl : k < (aboveC q.name).length := by omega
  have hat : (aboveC q.name)[k] = glueC ((parts q.name).drop k) := above_at _ _ _
  have hout8 : out.length ≤ 9 := by
    rw [hout]
    refine Nat.le_trans (List.length_filter_le _ _) ?_
    rw [List.length_take]; omega
  have hog : ∀ (H' : Hp) (y : Bytes), y ∈ out → Enc.good H' y := fun H' y hy => by
    rw [hout] at hy
    have h1 := List.mem_of_mem_take (List.mem_filter.1 hy).1
    exact Nat.le_trans (nameOK_le (aboveC_mem hqn h1).1) (by decide)
  have htk : ((aboveC q.name).take (k + 1)).filter (asked (known.els.map Signed.c) q []) = out ++ if asked (known.els.map Signed.c) q [] (glueC ((parts q.name).drop k)) = true then [glueC ((parts q.name).drop k)] else [] := by rw [filter_up hkl, hat, ← hout]
  by_cases hlt : k < (parts q.name).length
  · obtain ⟨x, m, hxm⟩ : ∃ x m, (parts q.name).drop k = x :: m := by
      cases h : (parts q.name).drop k with
      | nil => rw [List.drop_eq_nil_iff] at h; omega
      | cons x m => exact ⟨x, m, rfl⟩
    have hm1 : (parts q.name).drop (k + 1) = m := by rw [← List.drop_drop, hxm]; rfl
    rw [hxm] at htk hat ⊢
    have hlx : labsOK (x :: m) = true := hxm ▸ labs_drop hlabs k
    have hnx : nameOK (glueC (x :: m)) = true := by have := aboveC_at hqn hkl; rw [hat] at this; exact this
    have hrx : glueC (x :: m) ≠ [46] := fun e => by have := (glue_root hlx).1 e; cases this
    have hlx60 : (glueC (x :: m)).length ≤ 60 := nameOK_le hnx
    obtain ⟨s, hse⟩ : ∃ s, glueC (x :: m) = s := ⟨_, rfl⟩
    rw [hse] at htk hnx hrx hlx60 ⊢
    have hps : parts s = x :: m := by rw [← hse]; exact join_parts hlx
    have hm12 : ∀ y ∈ m, y.length ≤ 12 := fun y hy => by
      have h1 := hlx
      unfold labsOK at h1
      simp only [List.tail_cons, Bool.and_eq_true] at h1
      exact lab_len (List.all_eq_true.1 h1.2 y hy)
    have hmlen : m.length ≤ 8 := by
      have := congrArg List.length hxm
      rw [List.length_drop] at this
      simp only [List.length_cons] at this
      omega
    obtain ⟨kv, hkv⟩ : ∃ y, knownI (known.els.map Signed.c) s 2 = y := ⟨_, rfl⟩
    have hbk : has (known.els.map Signed.c) s 2 = decide (0 ≤ kv) := by
      rw [Bool.eq_iff_iff, decide_eq_true_iff, ← hkv]
      have h1 := knownI_neg (l := known.els.map Signed.c) (n := s) (k := 2)
      unfold has
      cases hc : findC (known.els.map Signed.c) s 2 with
      | none => have := h1.2 hc; simp; omega
      | some y =>
        have : ¬ knownI (known.els.map Signed.c) s 2 < 0 := fun h => by rw [h1.1 h] at hc; cases hc
        simp; omega
    have hask : asked (known.els.map Signed.c) q [] s = (decide (s = [46]) || (decide (0 ≤ kv) && !(decide (s = q.name) && decide (q.typ = 6)) && !false)) := by unfold asked; rw [hbk]; rfl
    cases ha : asked (known.els.map Signed.c) q [] s with
    | true =>
      rw [ha, if_pos rfl] at htk
      rw [hask] at ha
      repeat (any_goals (first | refine T.seq ?_ | refine T.region ?_ | refine TL.nil ?_ | refine N.next ?_ | refine N.inBlock ?_ | refine N.exit_same ?_ | refine N.exit_then ?_ | refine N.ret_then ?_ | refine N.ret_block ?_ | (apply N.exit_other; rfl) | refine T.ret ?_ | refine T.skip ?_ | refine T.exit ?_ | refine T.block ?_ | (apply T.cond_true; rfl) | (apply T.cond_false; rfl) | (apply T.test; rfl; (with_reducible (first | exact Is.ndec | exact Is.dec | exact Is.not | ((fail_if_success exact Is.litT); (fail_if_success exact Is.litF); exact Is.base))); intro _; rotate_left; intro _; rotate_right) | (apply TL.skip; rfl; rfl; rfl) | (apply TL.skip_none; rfl; rfl) | (apply TL.callE (f := 28) [known.v, strV s, intV 2] Tryd.call28; rfl; rfl; rfl; rfl; (exact fun _ hs => c_Known10V hkv hs.sat hk1)) | (apply TL.x; rfl; rfl; (apply X.append1 1; rfl; rfl; rfl; rfl; rfl; rfl; rfl; rfl; rfl; exact List.Mem.head _; rfl; rfl; rfl; (refine Nat.le_trans (Nat.mul_le_mul_left _ (show _ ≤ 1000 by decide)) ?_; show (out.length + 1) * 1000 ≤ _; omega); (show out.length + 1 ≤ _; omega)); intro p2 _) | (apply TL.x; rfl; rfl; (apply X.callFE (f := 33) [strV s] Tryd.call33; rfl; rfl; rfl; exact (fun _ hs => c_Parts s _ _ hs.sat (by omega))); intro p hp; have hpe := hp.1.1; rw [hps] at hpe; have hpl := hp.1.2.len; rw [hpe] at hpl; simp only [List.length_cons] at hpl; have hpc := hp.1.2.cap; have hdg := hp.1.2.drop (i := 1) (by omega); have hgm : glueC (p.2.drop 1).els = glueC m := (by show glueC (p.2.els.drop 1) = _; rw [hpe]; rfl)) | (apply TL.val; rfl; rfl; (apply V.sliceFrom (s := p.2) (i := 1); rfl; rfl; rfl; rfl; rfl; rfl; omega; exact hpc)) | (apply TL.callE (f := 77) [(p.2.drop 1).v] Tryd.call77; rfl; rfl; rfl; rfl; (exact fun _ hs => c_Glue (p.2.drop 1) _ _ hs.sat hdg (by show p.2.len - 1 ≤ 1000; omega) (by show ∀ y ∈ p.2.els.drop 1, _; rw [hpe]; exact hm12))) | (apply TL.val; rfl; rfl; (first | exact vpure | exact vread)) | (apply TL.x; rfl; rfl; (first | exact xgrow | exact xput); intro _ _) | (apply TL.guard; rfl; rfl; rfl; (with_reducible (first | exact Is.ndec | exact Is.dec | exact Is.not | ((fail_if_success exact Is.litT); (fail_if_success exact Is.litF); exact Is.base))); intro _; rotate_left; intro _; rotate_right)))
      all_goals (try contradiction)
      all_goals (try (exfalso; rcases asked_yes ha with h1 | ⟨h1, h2, _⟩ <;> first | contradiction | exact h2 ⟨by assumption, by assumption⟩ | (have := of_decide_eq_true h1; omega)))
      all_goals
        refine N.round (k + 1, p.1, out ++ [s], .slice (some ⟨p2.1, 0, none⟩) (out.length + 1) p2.2) ⟨by show k + 1 ≤ _; omega, hle.trans hp.2, htk.symm⟩ (by show (parts q.name).length - (k + 1) < (parts q.name).length - k; omega) (by simp only [hm1]; rw [← hgm]; (repeat (first | exact True.intro | refine ⟨rfl, ?_⟩ | refine Sub.int rfl (by omega) ?_))) rfl ?_
        rw [List.length_append, encs_snoc]
        exact List.Sublist.cons _ (List.Sublist.refl _)
    | false =>
      rw [ha, if_neg (by simp), List.append_nil] at htk
      rw [hask] at ha
      repeat (any_goals (first | refine T.seq ?_ | refine T.region ?_ | refine TL.nil ?_ | refine N.next ?_ | refine N.inBlock ?_ | refine N.exit_same ?_ | refine N.exit_then ?_ | refine N.ret_then ?_ | refine N.ret_block ?_ | (apply N.exit_other; rfl) | refine T.ret ?_ | refine T.skip ?_ | refine T.exit ?_ | refine T.block ?_ | (apply T.cond_true; rfl) | (apply T.cond_false; rfl) | (apply T.test; rfl; (with_reducible (first | exact Is.ndec | exact Is.dec | exact Is.not | ((fail_if_success exact Is.litT); (fail_if_success exact Is.litF); exact Is.base))); intro _; rotate_left; intro _; rotate_right) | (apply TL.skip; rfl; rfl; rfl) | (apply TL.skip_none; rfl; rfl) | (apply TL.callE (f := 28) [known.v, strV s, intV 2] Tryd.call28; rfl; rfl; rfl; rfl; (exact fun _ hs => c_Known10V hkv hs.sat hk1)) | (apply TL.x; rfl; rfl; (apply X.callFE (f := 33) [strV s] Tryd.call33; rfl; rfl; rfl; exact (fun _ hs => c_Parts s _ _ hs.sat (by omega))); intro p hp; have hpe := hp.1.1; rw [hps] at hpe; have hpl := hp.1.2.len; rw [hpe] at hpl; simp only [List.length_cons] at hpl; have hpc := hp.1.2.cap; have hdg := hp.1.2.drop (i := 1) (by omega); have hgm : glueC (p.2.drop 1).els = glueC m := (by show glueC (p.2.els.drop 1) = _; rw [hpe]; rfl)) | (apply TL.val; rfl; rfl; (apply V.sliceFrom (s := p.2) (i := 1); rfl; rfl; rfl; rfl; rfl; rfl; omega; exact hpc)) | (apply TL.callE (f := 77) [(p.2.drop 1).v] Tryd.call77; rfl; rfl; rfl; rfl; (exact fun _ hs => c_Glue (p.2.drop 1) _ _ hs.sat hdg (by show p.2.len - 1 ≤ 1000; omega) (by show ∀ y ∈ p.2.els.drop 1, _; rw [hpe]; exact hm12))) | (apply TL.val; rfl; rfl; (first | exact vpure | exact vread)) | (apply TL.x; rfl; rfl; (first | exact xgrow | exact xput); intro _ _) | (apply TL.guard; rfl; rfl; rfl; (with_reducible (first | exact Is.ndec | exact Is.dec | exact Is.not | ((fail_if_success exact Is.litT); (fail_if_success exact Is.litF); exact Is.base))); intro _; rotate_left; intro _; rotate_right)))
      all_goals (try contradiction)
      all_goals (try (exfalso; obtain ⟨h1, h2⟩ := asked_no ha; rcases h2 with h2 | ⟨h2, h3⟩ | h2 <;> first | contradiction | (have := of_decide_eq_false h2; omega) | (cases h2; done)))
      all_goals
        refine N.round (k + 1, p.1, out, v) ⟨by show k + 1 ≤ _; omega, hle.trans hp.2, htk.symm⟩ (by show (parts q.name).length - (k + 1) < (parts q.name).length - k; omega) (by simp only [hm1]; rw [← hgm]; (repeat (first | exact True.intro | refine ⟨rfl, ?_⟩ | refine Sub.int rfl (by omega) ?_))) rfl (List.Sublist.refl _)
  · have hnil : (parts q.name).drop k = [] := List.drop_eq_nil_iff.2 (by omega)
    rw [hnil, show glueC [] = [46] from rfl] at htk ⊢
    have har : asked (known.els.map Signed.c) q [] [46] = true := by unfold asked; rfl
    rw [har, if_pos rfl, List.take_of_length_le (by omega)] at htk
    repeat (any_goals (first | refine T.seq ?_ | refine T.region ?_ | refine TL.nil ?_ | refine N.next ?_ | refine N.inBlock ?_ | refine N.exit_same ?_ | refine N.exit_then ?_ | refine N.ret_then ?_ | refine N.ret_block ?_ | (apply N.exit_other; rfl) | refine T.ret ?_ | refine T.skip ?_ | refine T.exit ?_ | refine T.block ?_ | (apply T.cond_true; rfl) | (apply T.cond_false; rfl) | (apply T.test; rfl; (with_reducible (first | exact Is.ndec | exact Is.dec | exact Is.not | ((fail_if_success exact Is.litT); (fail_if_success exact Is.litF); exact Is.base))); intro _; rotate_left; intro _; rotate_right) | (apply TL.skip; rfl; rfl; rfl) | (apply TL.skip_none; rfl; rfl) | (apply TL.x; rfl; rfl; (apply X.append1 1; rfl; rfl; rfl; rfl; rfl; rfl; rfl; rfl; rfl; exact List.Mem.head _; rfl; rfl; rfl; (refine Nat.le_trans (Nat.mul_le_mul_left _ (show _ ≤ 1000 by decide)) ?_; show (out.length + 1) * 1000 ≤ _; omega); (show out.length + 1 ≤ _; omega)); intro p2 _) | (apply TL.val; rfl; rfl; (first | exact vpure | exact vread)) | (apply TL.x; rfl; rfl; (first | exact xgrow | exact xput); intro _ _) | (apply TL.guard; rfl; rfl; rfl; (with_reducible (first | exact Is.ndec | exact Is.dec | exact Is.not | ((fail_if_success exact Is.litT); (fail_if_success exact Is.litF); exact Is.base))); intro _; rotate_left; intro _; rotate_right)))
    all_goals (try contradiction)
    refine N.ret1 rfl (by (exact rvx)) fun w hst => ?_
    obtain ⟨H', s', e1, e2, e3, e4, e5⟩ := (hst.sub (L' := [.row (.slice (some ⟨p2.1, 0, none⟩) (out.length + 1) p2.2) 9 1 (out.length + 1) (encs (out ++ [([46] : Bytes)]))]) (by rw [encs_snoc]; exact List.Sublist.cons _ (List.Sublist.cons_cons _ (List.nil_sublist _)))).freezeRow rfl (by rw [List.length_append]; rfl) (fun y hy => by
      rcases List.mem_append.1 hy with hy | hy
      · exact hog _ y hy
      · rw [List.mem_singleton] at hy; rw [hy]; show ([46] : Bytes).length ≤ _; decide)
    refine ⟨(H', s'), ⟨e2.trans ?_, e3⟩, congrArg _ e1.symm, ?_⟩
    · unfold zonesC; exact htk.symm
    · exact ⟨e5.below, e5.sat, hle.trans e4, e5.new⟩
theorem c_Hosts28 (known : Slc Signed) (z : Bytes) (H : Hp) (w : World) (hs : Sat H w) (hkg : known.Good H) (hK : knownOK (known.els.map Signed.c) = true) : Calls Tryd.prog 43 #[known.v, strV z] w (RetF w H (fun p : Hp × Slc Bytes => p.2.els = (getS known.els z 2).set.data.els.map (·.text) ∧ p.2.Good p.1) (fun p => p.2.v) (fun p => p.1)) := by
  have hlen := hkg.len
  have hlim := hkg.lim
  refine T.enter (vs := [known.v, strV z]) (H := H) Tryd.func43 rfl rfl rfl hs ?_
  have h8 := getS_short hK z 2
  cases hf : findS known.els z 2 with
  | none =>
    have hkv := knownS_none hf
    have hg0 := getS_no hf
    repeat (any_goals (first | refine T.seq ?_ | refine T.region ?_ | refine TL.nil ?_ | refine N.next ?_ | refine N.inBlock ?_ | refine N.exit_same ?_ | refine N.exit_then ?_ | refine N.ret_then ?_ | refine N.ret_block ?_ | (apply N.exit_other; rfl) | refine T.ret ?_ | refine T.skip ?_ | refine T.exit ?_ | refine T.block ?_ | (apply T.cond_true; rfl) | (apply T.cond_false; rfl) | (apply T.test; rfl; (with_reducible (first | exact Is.ndec | exact Is.dec | exact Is.not | ((fail_if_success exact Is.litT); (fail_if_success exact Is.litF); exact Is.base))); intro _; rotate_left; intro _; rotate_right) | (apply TL.skip; rfl; rfl; rfl) | (apply TL.skip_none; rfl; rfl) | (apply TL.callE (f := 28) [known.v, strV z, intV 2] Tryd.call28; rfl; rfl; rfl; rfl; (exact fun _ hs => c_Known10V hkv hs.sat hkg)) | (apply TL.val; rfl; rfl; (first | exact vpure | exact vread)) | (apply TL.x; rfl; rfl; (first | exact xgrow | exact xput); intro _ _) | (apply TL.guard; rfl; rfl; rfl; (with_reducible (first | exact Is.ndec | exact Is.dec | exact Is.not | ((fail_if_success exact Is.litT); (fail_if_success exact Is.litF); exact Is.base))); intro _; rotate_left; intro _; rotate_right)))
    refine T.loop (G := Unit) (fun _ => [(5, .slice none 0 0), (6, intV (-1))]) (fun _ => H) (fun _ => []) (fun _ => True) (fun _ => 0) () trivial (by (repeat (first | exact True.intro | refine ⟨rfl, ?_⟩ | refine Sub.int rfl (by omega) ?_))) rfl (List.nil_sublist _) ?_
    rintro _ _
    repeat (any_goals (first | refine T.seq ?_ | refine T.region ?_ | refine TL.nil ?_ | refine N.next ?_ | refine N.inBlock ?_ | refine N.exit_same ?_ | refine N.exit_then ?_ | refine N.ret_then ?_ | refine N.ret_block ?_ | (apply N.exit_other; rfl) | refine T.ret ?_ | refine T.skip ?_ | refine T.exit ?_ | refine T.block ?_ | (apply T.cond_true; rfl) | (apply T.cond_false; rfl) | (apply T.test; rfl; (with_reducible (first | exact Is.ndec | exact Is.dec | exact Is.not | ((fail_if_success exact Is.litT); (fail_if_success exact Is.litF); exact Is.base))); intro _; rotate_left; intro _; rotate_right) | (apply TL.skip; rfl; rfl; rfl) | (apply TL.skip_none; rfl; rfl) | (apply TL.val; rfl; rfl; (first | exact vpure | exact vread)) | (apply TL.x; rfl; rfl; (first | exact xgrow | exact xput); intro _ _) | (apply TL.guard; rfl; rfl; rfl; (with_reducible (first | exact Is.ndec | exact Is.dec | exact Is.not | ((fail_if_success exact Is.litT); (fail_if_success exact Is.litF); exact Is.base))); intro _; rotate_left; intro _; rotate_right)))
    all_goals (try (exfalso; omega))
    refine N.ret1 rfl (by (exact rvx)) fun w hst => ⟨(H, Slc.nil _), ⟨?_, Slc.nil_good⟩, rfl, hst.fresh⟩
    rw [hg0]; rfl
  | some x =>
    obtain ⟨i, hi, hki, hia⟩ := knownS_at hf
    have hg0 := getS_at hf
    subst hia
    rw [hg0] at h8 ⊢
    have hag : Enc.good H known.els[i] := hkg.els _ (List.getElem_mem hi)
    have hdg := hag.1.2.2.2
    have hdl := hdg.len
    repeat (any_goals (first | refine T.seq ?_ | refine T.region ?_ | refine TL.nil ?_ | refine N.next ?_ | refine N.inBlock ?_ | refine N.exit_same ?_ | refine N.exit_then ?_ | refine N.ret_then ?_ | refine N.ret_block ?_ | (apply N.exit_other; rfl) | refine T.ret ?_ | refine T.skip ?_ | refine T.exit ?_ | refine T.block ?_ | (apply T.cond_true; rfl) | (apply T.cond_false; rfl) | (apply T.test; rfl; (with_reducible (first | exact Is.ndec | exact Is.dec | exact Is.not | ((fail_if_success exact Is.litT); (fail_if_success exact Is.litF); exact Is.base))); intro _; rotate_left; intro _; rotate_right) | (apply TL.skip; rfl; rfl; rfl) | (apply TL.skip_none; rfl; rfl) | (apply TL.callE (f := 28) [known.v, strV z, intV 2] Tryd.call28; rfl; rfl; rfl; rfl; (exact fun _ hs => c_Known10V hki hs.sat hkg)) | (apply TL.val; rfl; rfl; (first | exact vpure | exact vread)) | (apply TL.x; rfl; rfl; (first | exact xgrow | exact xput); intro _ _) | (apply TL.guard; rfl; rfl; rfl; (with_reducible (first | exact Is.ndec | exact Is.dec | exact Is.not | ((fail_if_success exact Is.litT); (fail_if_success exact Is.litF); exact Is.base))); intro _; rotate_left; intro _; rotate_right)))
    refine T.nilRow 9 1 ?_
    refine T.loop (G := Nat × List Bytes × Value) (fun g => [(0, known.v), (5, g.2.2), (6, intV i), (7, intV g.1)]) (fun _ => H) (fun g => [.row g.2.2 9 1 g.2.1.length (encs g.2.1)]) (fun g => g.1 ≤ known.els[i].set.data.len ∧ g.2.1 = (known.els[i].set.data.els.take g.1).map (·.text)) (fun g => known.els[i].set.data.len - g.1) (0, [], .slice none 0 0) ⟨Nat.zero_le _, rfl⟩ (by (repeat (first | exact True.intro | refine ⟨rfl, ?_⟩ | refine Sub.int rfl (by omega) ?_))) rfl (List.Sublist.refl _) ?_
    rintro ⟨k, out, v⟩ ⟨hk, hout⟩
    simp only at hk hout ⊢
    have hol : out.length = k := by rw [hout, List.length_map, List.length_take]; omega
    have hog : ∀ (H' : Hp) (y : Bytes), y ∈ out → Enc.good H' y := fun H' y hy => by
      rw [hout] at hy
      obtain ⟨d, hd, rfl⟩ := List.mem_map.1 hy
      exact (hdg.els d (List.mem_of_mem_take hd)).1
    by_cases hlt : k < known.els[i].set.data.len
    · have hkl : k < known.els[i].set.data.els.length := by omega
      repeat (any_goals (first | refine T.seq ?_ | refine T.region ?_ | refine TL.nil ?_ | refine N.next ?_ | refine N.inBlock ?_ | refine N.exit_same ?_ | refine N.exit_then ?_ | refine N.ret_then ?_ | refine N.ret_block ?_ | (apply N.exit_other; rfl) | refine T.ret ?_ | refine T.skip ?_ | refine T.exit ?_ | refine T.block ?_ | (apply T.cond_true; rfl) | (apply T.cond_false; rfl) | (apply T.test; rfl; (with_reducible (first | exact Is.ndec | exact Is.dec | exact Is.not | ((fail_if_success exact Is.litT); (fail_if_success exact Is.litF); exact Is.base))); intro _; rotate_left; intro _; rotate_right) | (apply TL.skip; rfl; rfl; rfl) | (apply TL.skip_none; rfl; rfl) | (apply TL.x; rfl; rfl; (apply X.append1 1; rfl; rfl; rfl; rfl; rfl; rfl; rfl; rfl; rfl; exact List.Mem.head _; rfl; rfl; rfl; (refine Nat.le_trans (Nat.mul_le_mul_left _ (show _ ≤ 1000 by decide)) ?_; show (out.length + 1) * 1000 ≤ _; omega); (show out.length + 1 ≤ _; omega)); intro p2 _) | (apply TL.val; rfl; rfl; (first | exact vpure | exact vread)) | (apply TL.x; rfl; rfl; (first | exact xgrow | exact xput); intro _ _) | (apply TL.guard; rfl; rfl; rfl; (with_reducible (first | exact Is.ndec | exact Is.dec | exact Is.not | ((fail_if_success exact Is.litT); (fail_if_success exact Is.litF); exact Is.base))); intro _; rotate_left; intro _; rotate_right)))
      all_goals (try (exfalso; omega))
      rename_i p2 _
      refine N.round (k + 1, out ++ [(known.els[i].set.data.els[k]'hkl).text], .slice (some ⟨p2.1, 0, none⟩) (out.length + 1) p2.2) ⟨by show k + 1 ≤ _; omega, ?_⟩ (by show known.els[i].set.data.len - (k + 1) < known.els[i].set.data.len - k; omega) (by (repeat (first | exact True.intro | refine ⟨rfl, ?_⟩ | refine Sub.int rfl (by omega) ?_))) rfl ?_
      · show out ++ [_] = _
        rw [List.take_succ_eq_append_getElem hkl, List.map_append, ← hout]; rfl
      · rw [List.length_append, encs_snoc]
        exact List.Sublist.cons _ (List.Sublist.refl _)
    · repeat (any_goals (first | refine T.seq ?_ | refine T.region ?_ | refine TL.nil ?_ | refine N.next ?_ | refine N.inBlock ?_ | refine N.exit_same ?_ | refine N.exit_then ?_ | refine N.ret_then ?_ | refine N.ret_block ?_ | (apply N.exit_other; rfl) | refine T.ret ?_ | refine T.skip ?_ | refine T.exit ?_ | refine T.block ?_ | (apply T.cond_true; rfl) | (apply T.cond_false; rfl) | (apply T.test; rfl; (with_reducible (first | exact Is.ndec | exact Is.dec | exact Is.not | ((fail_if_success exact Is.litT); (fail_if_success exact Is.litF); exact Is.base))); intro _; rotate_left; intro _; rotate_right) | (apply TL.skip; rfl; rfl; rfl) | (apply TL.skip_none; rfl; rfl) | (apply TL.val; rfl; rfl; (first | exact vpure | exact vread)) | (apply TL.x; rfl; rfl; (first | exact xgrow | exact xput); intro _ _) | (apply TL.guard; rfl; rfl; rfl; (with_reducible (first | exact Is.ndec | exact Is.dec | exact Is.not | ((fail_if_success exact Is.litT); (fail_if_success exact Is.litF); exact Is.base))); intro _; rotate_left; intro _; rotate_right)))
      all_goals (try (exfalso; omega))
      refine N.ret1 rfl (by (exact rvx)) fun w hst => ?_
      obtain ⟨H', s', e1, e2, e3, e4, e5⟩ := hst.freezeRow rfl rfl (fun y hy => hog _ y hy)
      refine ⟨(H', s'), ⟨e2.trans ?_, e3⟩, congrArg _ e1.symm, e5.fresh⟩
      rw [hout, List.take_of_length_le (by omega)]
theorem c_Has28 (s : Slc Int) (x : Int) {b : Bool} (hb : s.els.contains x = b) {H : Hp} {w : World} (hs : Sat H w) (hg : s.Good H) : Calls Tryd.prog 44 #[s.v, intV x] w (Ret w (.bool b)) := by
  have hlen := hg.len
  have hlim := hg.lim
  subst hb
  refine T.enter (vs := [s.v, intV x]) (H := H) Tryd.func44 rfl rfl rfl hs ?_
  repeat (any_goals (first | refine T.seq ?_ | refine T.region ?_ | refine TL.nil ?_ | refine N.next ?_ | refine N.inBlock ?_ | refine N.exit_same ?_ | refine N.exit_then ?_ | refine N.ret_then ?_ | refine N.ret_block ?_ | (apply N.exit_other; rfl) | refine T.ret ?_ | refine T.skip ?_ | refine T.exit ?_ | refine T.block ?_ | (apply T.cond_true; rfl) | (apply T.cond_false; rfl) | (apply T.test; rfl; (with_reducible (first | exact Is.ndec | exact Is.dec | exact Is.not | ((fail_if_success exact Is.litT); (fail_if_success exact Is.litF); exact Is.base))); intro _; rotate_left; intro _; rotate_right) | (apply TL.skip; rfl; rfl; rfl) | (apply TL.skip_none; rfl; rfl) | (apply TL.val; rfl; rfl; (first | exact vpure | exact vread)) | (apply TL.x; rfl; rfl; (first | exact xgrow | exact xput); intro _ _) | (apply TL.guard; rfl; rfl; rfl; (with_reducible (first | exact Is.ndec | exact Is.dec | exact Is.not | ((fail_if_success exact Is.litT); (fail_if_success exact Is.litF); exact Is.base))); intro _; rotate_left; intro _; rotate_right)))
  refine T.loop (G := Nat) (fun k => [(0, s.v), (1, intV x), (5, intV k)]) (fun _ => H) (fun _ => []) (fun k => k ≤ s.len ∧ ∀ j (h : j < s.els.length), j < k → s.els[j] ≠ x) (fun k => s.len - k) 0 ⟨Nat.zero_le _, fun j _ h => by omega⟩ (by (repeat (first | exact True.intro | refine ⟨rfl, ?_⟩ | refine Sub.int rfl (by omega) ?_))) rfl (by (first | exact List.Sublist.refl _ | exact List.nil_sublist _ | exact List.Sublist.cons _ (List.Sublist.refl _) | exact List.Sublist.cons _ (List.Sublist.cons _ (List.Sublist.refl _)))) ?_
  rintro k ⟨hk, hrel⟩
  by_cases hlt : k < s.len
  · have hkl : k < s.els.length := by omega
    repeat (any_goals (first | refine T.seq ?_ | refine T.region ?_ | refine TL.nil ?_ | refine N.next ?_ | refine N.inBlock ?_ | refine N.exit_same ?_ | refine N.exit_then ?_ | refine N.ret_then ?_ | refine N.ret_block ?_ | (apply N.exit_other; rfl) | refine T.ret ?_ | refine T.skip ?_ | refine T.exit ?_ | refine T.block ?_ | (apply T.cond_true; rfl) | (apply T.cond_false; rfl) | (apply T.test; rfl; (with_reducible (first | exact Is.ndec | exact Is.dec | exact Is.not | ((fail_if_success exact Is.litT); (fail_if_success exact Is.litF); exact Is.base))); intro _; rotate_left; intro _; rotate_right) | (apply TL.skip; rfl; rfl; rfl) | (apply TL.skip_none; rfl; rfl) | (apply TL.val; rfl; rfl; (first | exact vpure | exact vread)) | (apply TL.x; rfl; rfl; (first | exact xgrow | exact xput); intro _ _) | (apply TL.guard; rfl; rfl; rfl; (with_reducible (first | exact Is.ndec | exact Is.dec | exact Is.not | ((fail_if_success exact Is.litT); (fail_if_success exact Is.litF); exact Is.base))); intro _; rotate_left; intro _; rotate_right)))
    all_goals (try (exfalso; omega))
    all_goals first
      | (refine N.ret_bool rfl (by (exact rvx)) ?_
         exact (List.contains_iff_mem.2 (List.mem_iff_getElem.2 ⟨k, hkl, by assumption⟩)).symm)
      | (refine N.round (k + 1) ⟨by omega, fun j hj hjk => ?_⟩ (by show s.len - (k + 1) < s.len - k; omega) (by (repeat (first | exact True.intro | refine ⟨rfl, ?_⟩ | refine Sub.int rfl (by omega) ?_))) rfl (by (first | exact List.Sublist.refl _ | exact List.nil_sublist _ | exact List.Sublist.cons _ (List.Sublist.refl _) | exact List.Sublist.cons _ (List.Sublist.cons _ (List.Sublist.refl _))))
         by_cases e : j = k
         · subst e; assumption
         · exact hrel j hj (by omega))
  · repeat (any_goals (first | refine T.seq ?_ | refine T.region ?_ | refine TL.nil ?_ | refine N.next ?_ | refine N.inBlock ?_ | refine N.exit_same ?_ | refine N.exit_then ?_ | refine N.ret_then ?_ | refine N.ret_block ?_ | (apply N.exit_other; rfl) | refine T.ret ?_ | refine T.skip ?_ | refine T.exit ?_ | refine T.block ?_ | (apply T.cond_true; rfl) | (apply T.cond_false; rfl) | (apply T.test; rfl; (with_reducible (first | exact Is.ndec | exact Is.dec | exact Is.not | ((fail_if_success exact Is.litT); (fail_if_success exact Is.litF); exact Is.base))); intro _; rotate_left; intro _; rotate_right) | (apply TL.skip; rfl; rfl; rfl) | (apply TL.skip_none; rfl; rfl) | (apply TL.val; rfl; rfl; (first | exact vpure | exact vread)) | (apply TL.x; rfl; rfl; (first | exact xgrow | exact xput); intro _ _) | (apply TL.guard; rfl; rfl; rfl; (with_reducible (first | exact Is.ndec | exact Is.dec | exact Is.not | ((fail_if_success exact Is.litT); (fail_if_success exact Is.litF); exact Is.base))); intro _; rotate_left; intro _; rotate_right)))
    all_goals (try (exfalso; omega))
    refine N.ret_bool rfl (by (exact rvx)) ?_
    refine (Bool.eq_false_iff.2 fun h => ?_).symm
    obtain ⟨j, hj, he⟩ := List.mem_iff_getElem.1 (List.contains_iff_mem.1 h)
    exact hrel j hj (by omega) he
theorem c_HasOwn {w0 w : World} {H0 H : Hp} {L : List Loc} {v : Value} {e : TypeId} {m : Nat} {els : List Int} (x : Int) {b : Bool} (hb : els.contains x = b) (hs : St w0 H0 H L w) (hm : Loc.row v e 1 m (encs els) ∈ L) (hl : els.length = m) (hg : ∀ x ∈ els, I64 x) : Calls Tryd.prog 44 #[v, intV x] w (Ret w (.bool b)) := by
  obtain ⟨H', s, e1, e2, e3, _, e5⟩ := hs.rowSlc hm rfl hl hg
  have h := c_Has28 s x (b := b) (by rw [e2]; exact hb) e5 e3
  rw [show s.v = v from e1] at h
  exact h
theorem c_Left28 (s : Slc Bytes) (z : Bytes) {b : Bool} (hb : (decide (z ≠ [46]) && s.els.contains z) = b) {H : Hp} {w : World} (hs : Sat H w) (hg : s.Good H) : Calls Tryd.prog 120 #[s.v, strV z] w (Ret w (.bool b)) := by
  have hlen := hg.len
  have hlim := hg.lim
  subst hb
  refine T.enter (vs := [s.v, strV z]) (H := H) Tryd.func120 rfl rfl rfl hs ?_
  repeat (any_goals (first | refine T.seq ?_ | refine T.region ?_ | refine TL.nil ?_ | refine N.next ?_ | refine N.inBlock ?_ | refine N.exit_same ?_ | refine N.exit_then ?_ | refine N.ret_then ?_ | refine N.ret_block ?_ | (apply N.exit_other; rfl) | refine T.ret ?_ | refine T.skip ?_ | refine T.exit ?_ | refine T.block ?_ | (apply T.cond_true; rfl) | (apply T.cond_false; rfl) | (apply T.test; rfl; (with_reducible (first | exact Is.ndec | exact Is.dec | exact Is.not | ((fail_if_success exact Is.litT); (fail_if_success exact Is.litF); exact Is.base))); intro _; rotate_left; intro _; rotate_right) | (apply TL.skip; rfl; rfl; rfl) | (apply TL.skip_none; rfl; rfl) | (apply TL.val; rfl; rfl; (first | exact vpure | exact vread)) | (apply TL.x; rfl; rfl; (first | exact xgrow | exact xput); intro _ _) | (apply TL.guard; rfl; rfl; rfl; (with_reducible (first | exact Is.ndec | exact Is.dec | exact Is.not | ((fail_if_success exact Is.litT); (fail_if_success exact Is.litF); exact Is.base))); intro _; rotate_left; intro _; rotate_right)))
  refine T.loop (G := Nat) (fun k => [(0, s.v), (1, strV z), (5, intV k)]) (fun _ => H) (fun _ => []) (fun k => k ≤ s.len ∧ ∀ j (h : j < s.els.length), j < k → ¬ (s.els[j] = z ∧ z ≠ [46])) (fun k => s.len - k) 0 ⟨Nat.zero_le _, fun j _ h => by omega⟩ (by (repeat (first | exact True.intro | refine ⟨rfl, ?_⟩ | refine Sub.int rfl (by omega) ?_))) rfl (by (first | exact List.Sublist.refl _ | exact List.nil_sublist _ | exact List.Sublist.cons _ (List.Sublist.refl _) | exact List.Sublist.cons _ (List.Sublist.cons _ (List.Sublist.refl _)))) ?_
  rintro k ⟨hk, hrel⟩
  by_cases hlt : k < s.len
  · have hkl : k < s.els.length := by omega
    repeat (any_goals (first | refine T.seq ?_ | refine T.region ?_ | refine TL.nil ?_ | refine N.next ?_ | refine N.inBlock ?_ | refine N.exit_same ?_ | refine N.exit_then ?_ | refine N.ret_then ?_ | refine N.ret_block ?_ | (apply N.exit_other; rfl) | refine T.ret ?_ | refine T.skip ?_ | refine T.exit ?_ | refine T.block ?_ | (apply T.cond_true; rfl) | (apply T.cond_false; rfl) | (apply T.test; rfl; (with_reducible (first | exact Is.ndec | exact Is.dec | exact Is.not | ((fail_if_success exact Is.litT); (fail_if_success exact Is.litF); exact Is.base))); intro _; rotate_left; intro _; rotate_right) | (apply TL.skip; rfl; rfl; rfl) | (apply TL.skip_none; rfl; rfl) | (apply TL.val; rfl; rfl; (first | exact vpure | exact vread)) | (apply TL.x; rfl; rfl; (first | exact xgrow | exact xput); intro _ _) | (apply TL.guard; rfl; rfl; rfl; (with_reducible (first | exact Is.ndec | exact Is.dec | exact Is.not | ((fail_if_success exact Is.litT); (fail_if_success exact Is.litF); exact Is.base))); intro _; rotate_left; intro _; rotate_right)))
    all_goals (try (exfalso; omega))
    all_goals first
      | (refine N.ret_bool rfl (by (exact rvx)) ?_
         refine Eq.symm ?_
         rw [Bool.and_eq_true]
         exact ⟨decide_eq_true (by assumption), List.contains_iff_mem.2 (List.mem_iff_getElem.2 ⟨k, hkl, by assumption⟩)⟩)
      | (refine N.round (k + 1) ⟨by omega, fun j hj hjk => ?_⟩ (by show s.len - (k + 1) < s.len - k; omega) (by (repeat (first | exact True.intro | refine ⟨rfl, ?_⟩ | refine Sub.int rfl (by omega) ?_))) rfl (by (first | exact List.Sublist.refl _ | exact List.nil_sublist _ | exact List.Sublist.cons _ (List.Sublist.refl _) | exact List.Sublist.cons _ (List.Sublist.cons _ (List.Sublist.refl _))))
         by_cases e : j = k
         · subst e; rintro ⟨h1, h2⟩; first | contradiction | exact h2 (by assumption)
         · exact hrel j hj (by omega))
  · repeat (any_goals (first | refine T.seq ?_ | refine T.region ?_ | refine TL.nil ?_ | refine N.next ?_ | refine N.inBlock ?_ | refine N.exit_same ?_ | refine N.exit_then ?_ | refine N.ret_then ?_ | refine N.ret_block ?_ | (apply N.exit_other; rfl) | refine T.ret ?_ | refine T.skip ?_ | refine T.exit ?_ | refine T.block ?_ | (apply T.cond_true; rfl) | (apply T.cond_false; rfl) | (apply T.test; rfl; (with_reducible (first | exact Is.ndec | exact Is.dec | exact Is.not | ((fail_if_success exact Is.litT); (fail_if_success exact Is.litF); exact Is.base))); intro _; rotate_left; intro _; rotate_right) | (apply TL.skip; rfl; rfl; rfl) | (apply TL.skip_none; rfl; rfl) | (apply TL.val; rfl; rfl; (first | exact vpure | exact vread)) | (apply TL.x; rfl; rfl; (first | exact xgrow | exact xput); intro _ _) | (apply TL.guard; rfl; rfl; rfl; (with_reducible (first | exact Is.ndec | exact Is.dec | exact Is.not | ((fail_if_success exact Is.litT); (fail_if_success exact Is.litF); exact Is.base))); intro _; rotate_left; intro _; rotate_right)))
    all_goals (try (exfalso; omega))
    refine N.ret_bool rfl (by (exact rvx)) ?_
    refine (Bool.eq_false_iff.2 fun h => ?_).symm
    rw [Bool.and_eq_true] at h
    obtain ⟨j, hj, he⟩ := List.mem_iff_getElem.1 (List.contains_iff_mem.1 h.2)
    exact hrel j hj (by omega) ⟨he, of_decide_eq_true h.1⟩
theorem c_Outside28 (known : Slc Signed) (z : Bytes) {o : Bytes} (ho : (outsideC (known.els.map Signed.c) z).getD [] = o) {H : Hp} {w : World} (hs : Sat H w) (hkg : known.Good H) (hK : knownOK (known.els.map Signed.c) = true) (hz : nameOK z = true) : Calls Tryd.prog 122 #[known.v, strV z] w (Ret w (strV o)) := by
  subst ho
  have hz60 := nameOK_le hz
  refine T.enter (vs := [known.v, strV z]) (H := H) Tryd.func122 rfl rfl rfl hs ?_
  have hhost : hostsC (known.els.map Signed.c) z = (getS known.els z 2).set.data.els := hosts_S _ _
  repeat (any_goals (first | refine T.seq ?_ | refine T.region ?_ | refine TL.nil ?_ | refine N.next ?_ | refine N.inBlock ?_ | refine N.exit_same ?_ | refine N.exit_then ?_ | refine N.ret_then ?_ | refine N.ret_block ?_ | (apply N.exit_other; rfl) | refine T.ret ?_ | refine T.skip ?_ | refine T.exit ?_ | refine T.block ?_ | (apply T.cond_true; rfl) | (apply T.cond_false; rfl) | (apply T.test; rfl; (with_reducible (first | exact Is.ndec | exact Is.dec | exact Is.not | ((fail_if_success exact Is.litT); (fail_if_success exact Is.litF); exact Is.base))); intro _; rotate_left; intro _; rotate_right) | (apply TL.skip; rfl; rfl; rfl) | (apply TL.skip_none; rfl; rfl) | (apply TL.x; rfl; rfl; (apply X.callFE (f := 43) [known.v, strV z] Tryd.call43; rfl; rfl; rfl; exact (fun _ hs => c_Hosts28 known z _ _ hs.sat hkg hK)); intro p hp) | (apply TL.val; rfl; rfl; (first | exact vpure | exact vread)) | (apply TL.x; rfl; rfl; (first | exact xgrow | exact xput); intro _ _) | (apply TL.guard; rfl; rfl; rfl; (with_reducible (first | exact Is.ndec | exact Is.dec | exact Is.not | ((fail_if_success exact Is.litT); (fail_if_success exact Is.litF); exact Is.base))); intro _; rotate_left; intro _; rotate_right)))
  have hpe : p.2.els = (hostsC (known.els.map Signed.c) z).map (·.text) := by rw [hhost]; exact hp.1.1
  have hpg := hp.1.2
  have hpl := hpg.len
  have hplim := hpg.lim
  have hpc : (hostsC (known.els.map Signed.c) z).length = p.2.els.length := by rw [hpe, List.length_map]
  have hpt : ∀ j (h : j < p.2.els.length), p.2.els[j] = (hostsC (known.els.map Signed.c) z)[j].text := fun j h => by simp only [hpe, List.getElem_map]
  refine T.loop (G := Nat) (fun k => [(1, strV z), (5, p.2.v), (6, intV k)]) (fun _ => p.1) (fun _ => []) (fun k => k ≤ p.2.len ∧ ∀ j (h : j < p.2.els.length), j < k → inN p.2.els[j] z = true) (fun k => p.2.len - k) 0 ⟨Nat.zero_le _, fun j _ h => by omega⟩ (by (repeat (first | exact True.intro | refine ⟨rfl, ?_⟩ | refine Sub.int rfl (by omega) ?_))) rfl (by (first | exact List.Sublist.refl _ | exact List.nil_sublist _ | exact List.Sublist.cons _ (List.Sublist.refl _) | exact List.Sublist.cons _ (List.Sublist.cons _ (List.Sublist.refl _)))) ?_
  rintro k ⟨hk, hrel⟩
  by_cases hlt : k < p.2.len
  · have hkl : k < p.2.els.length := by omega
    have hkn : nameOK (p.2.els[k]'hkl) = true := by rw [hpt k hkl]; exact host_name hK (List.getElem_mem _)
    have hk60 := nameOK_le hkn
    obtain ⟨bv, hbv⟩ : ∃ y, inN (p.2.els[k]'hkl) z = y := ⟨_, rfl⟩
    cases bv
    all_goals
      repeat (any_goals (first | refine T.seq ?_ | refine T.region ?_ | refine TL.nil ?_ | refine N.next ?_ | refine N.inBlock ?_ | refine N.exit_same ?_ | refine N.exit_then ?_ | refine N.ret_then ?_ | refine N.ret_block ?_ | (apply N.exit_other; rfl) | refine T.ret ?_ | refine T.skip ?_ | refine T.exit ?_ | refine T.block ?_ | (apply T.cond_true; rfl) | (apply T.cond_false; rfl) | (apply T.test; rfl; (with_reducible (first | exact Is.ndec | exact Is.dec | exact Is.not | ((fail_if_success exact Is.litT); (fail_if_success exact Is.litF); exact Is.base))); intro _; rotate_left; intro _; rotate_right) | (apply TL.skip; rfl; rfl; rfl) | (apply TL.skip_none; rfl; rfl) | (apply TL.callE (f := 30) [strV (p.2.els[k]'hkl), strV z] Tryd.call30; rfl; rfl; rfl; rfl; (exact fun _ hs => hbv ▸ c_In (p.2.els[k]'hkl) z _ _ hs.sat (by omega) (by omega))) | (apply TL.val; rfl; rfl; (first | exact vpure | exact vread)) | (apply TL.x; rfl; rfl; (first | exact xgrow | exact xput); intro _ _) | (apply TL.guard; rfl; rfl; rfl; (with_reducible (first | exact Is.ndec | exact Is.dec | exact Is.not | ((fail_if_success exact Is.litT); (fail_if_success exact Is.litF); exact Is.base))); intro _; rotate_left; intro _; rotate_right)))
    all_goals (try contradiction)
    all_goals (try (exfalso; omega))
    all_goals first
      | (refine N.ret_val rfl (by (exact rvx)) ?_
         have hf := outside_find (K := known.els.map Signed.c) (z := z) (j := k) (by omega) (fun i hi hij => by rw [← hpt i (by omega)]; exact hrel i (by omega) hij) (by rw [← hpt k hkl]; exact hbv)
         rw [hf]
         exact congrArg strV (hpt k hkl))
      | (refine N.round (k + 1) ⟨by omega, fun j hj hjk => ?_⟩ (by show p.2.len - (k + 1) < p.2.len - k; omega) (by (repeat (first | exact True.intro | refine ⟨rfl, ?_⟩ | refine Sub.int rfl (by omega) ?_))) rfl (by (first | exact List.Sublist.refl _ | exact List.nil_sublist _ | exact List.Sublist.cons _ (List.Sublist.refl _) | exact List.Sublist.cons _ (List.Sublist.cons _ (List.Sublist.refl _))))
         by_cases e : j = k
         · subst e; assumption
         · exact hrel j hj (by omega))
  · repeat (any_goals (first | refine T.seq ?_ | refine T.region ?_ | refine TL.nil ?_ | refine N.next ?_ | refine N.inBlock ?_ | refine N.exit_same ?_ | refine N.exit_then ?_ | refine N.ret_then ?_ | refine N.ret_block ?_ | (apply N.exit_other; rfl) | refine T.ret ?_ | refine T.skip ?_ | refine T.exit ?_ | refine T.block ?_ | (apply T.cond_true; rfl) | (apply T.cond_false; rfl) | (apply T.test; rfl; (with_reducible (first | exact Is.ndec | exact Is.dec | exact Is.not | ((fail_if_success exact Is.litT); (fail_if_success exact Is.litF); exact Is.base))); intro _; rotate_left; intro _; rotate_right) | (apply TL.skip; rfl; rfl; rfl) | (apply TL.skip_none; rfl; rfl) | (apply TL.val; rfl; rfl; (first | exact vpure | exact vread)) | (apply TL.x; rfl; rfl; (first | exact xgrow | exact xput); intro _ _) | (apply TL.guard; rfl; rfl; rfl; (with_reducible (first | exact Is.ndec | exact Is.dec | exact Is.not | ((fail_if_success exact Is.litT); (fail_if_success exact Is.litF); exact Is.base))); intro _; rotate_left; intro _; rotate_right)))
    all_goals (try (exfalso; omega))
    refine N.ret_val rfl (by (exact rvx)) ?_
    rw [outside_no fun i hi => by rw [← hpt i (by omega)]; exact hrel i (by omega) (by omega)]
    rfl
end Go.Proofs.YtfbhcemlnojejaaDoor
