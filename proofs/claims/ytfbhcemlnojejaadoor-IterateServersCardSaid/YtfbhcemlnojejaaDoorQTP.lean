/- Walks: the small functions of the reference of trust. -/
import Derived.Test.YtfbhcemlnojejaaDoorQTJ
namespace Go.Proofs.YtfbhcemlnojejaaDoor
set_option linter.unusedVariables false
set_option linter.unusedSimpArgs false
open Go Go.RowKit
open Enc (enc)
set_option maxRecDepth 20000

def knownI (l : List SignedC) (n : Bytes) (t : Int) : Int := match l.findIdx? (isSet n t) with | some k => k | none => -1
theorem knownI_at {l : List SignedC} {n : Bytes} {t : Int} {k : Nat} (hk : k < l.length) (hp : isSet n t l[k] = true) (h : ∀ j (hj : j < l.length), j < k → isSet n t l[j] = false) : knownI l n t = k := by
  unfold knownI
  rw [List.findIdx?_eq_some_iff_getElem.2 ⟨hk, hp, fun j hj => by simpa using h j (by omega) hj⟩]
theorem knownI_no {l : List SignedC} {n : Bytes} {t : Int} (h : ∀ j (hj : j < l.length), isSet n t l[j] = false) : knownI l n t = -1 := by
  unfold knownI
  rw [List.findIdx?_eq_none_iff.2]
  intro x hx
  obtain ⟨j, hj, rfl⟩ := List.mem_iff_getElem.1 hx
  exact h j hj
theorem c_Known10 (s : Slc Signed) (n : Bytes) (t : Int) (H : Hp) (w : World) (hs : Sat H w) (hg : s.Good H) : Calls Tryd.prog 28 #[s.v, strV n, intV t] w (Ret w (intV (knownI (s.els.map Signed.c) n t))) := by
  have hlen := hg.len
  have hlim := hg.lim
  refine T.enter (vs := [s.v, strV n, intV t]) (H := H) Tryd.func28 rfl rfl rfl hs ?_
  repeat (any_goals (first | refine T.seq ?_ | refine T.region ?_ | refine TL.nil ?_ | refine N.next ?_ | refine N.inBlock ?_ | refine N.exit_same ?_ | refine N.exit_then ?_ | refine N.ret_then ?_ | refine N.ret_block ?_ | (apply N.exit_other; rfl) | refine T.ret ?_ | refine T.skip ?_ | refine T.exit ?_ | refine T.block ?_ | (apply T.cond_true; rfl) | (apply T.cond_false; rfl) | (apply T.test; rfl; (with_reducible (first | exact Is.ndec | exact Is.dec | exact Is.not | ((fail_if_success exact Is.litT); (fail_if_success exact Is.litF); exact Is.base))); intro _; rotate_left; intro _; rotate_right) | (apply TL.skip; rfl; rfl; rfl) | (apply TL.skip_none; rfl; rfl) | (apply TL.val; rfl; rfl; (first | exact vpure | exact vread)) | (apply TL.x; rfl; rfl; (first | exact xgrow | exact xput); intro _ _) | (apply TL.guard; rfl; rfl; rfl; (with_reducible (first | exact Is.ndec | exact Is.dec | exact Is.not | ((fail_if_success exact Is.litT); (fail_if_success exact Is.litF); exact Is.base))); intro _; rotate_left; intro _; rotate_right)))
  refine T.loop (G := Nat) (fun k => [(0, s.v), (1, strV n), (2, intV t), (7, intV k)]) (fun _ => H) (fun _ => []) (fun k => k ≤ s.len ∧ ∀ j (hj : j < s.els.length), j < k → isSet n t (s.els[j]).c = false) (fun k => s.len - k) 0 ⟨Nat.zero_le _, fun j _ h => by omega⟩ (by (repeat (first | exact True.intro | refine ⟨rfl, ?_⟩ | refine Sub.int rfl (by omega) ?_))) rfl (by (first | exact List.Sublist.refl _ | exact List.nil_sublist _ | exact List.Sublist.cons _ (List.Sublist.refl _) | exact List.Sublist.cons _ (List.Sublist.cons _ (List.Sublist.refl _)))) ?_
  rintro k ⟨hk, hrel⟩
  by_cases hlt : k < s.len
  · have hkl : k < s.els.length := by omega
    repeat (any_goals (first | refine T.seq ?_ | refine T.region ?_ | refine TL.nil ?_ | refine N.next ?_ | refine N.inBlock ?_ | refine N.exit_same ?_ | refine N.exit_then ?_ | refine N.ret_then ?_ | refine N.ret_block ?_ | (apply N.exit_other; rfl) | refine T.ret ?_ | refine T.skip ?_ | refine T.exit ?_ | refine T.block ?_ | (apply T.cond_true; rfl) | (apply T.cond_false; rfl) | (apply T.test; rfl; (with_reducible (first | exact Is.ndec | exact Is.dec | exact Is.not | ((fail_if_success exact Is.litT); (fail_if_success exact Is.litF); exact Is.base))); intro _; rotate_left; intro _; rotate_right) | (apply TL.skip; rfl; rfl; rfl) | (apply TL.skip_none; rfl; rfl) | (apply TL.val; rfl; rfl; (first | exact vpure | exact vread)) | (apply TL.x; rfl; rfl; (first | exact xgrow | exact xput); intro _ _) | (apply TL.guard; rfl; rfl; rfl; (with_reducible (first | exact Is.ndec | exact Is.dec | exact Is.not | ((fail_if_success exact Is.litT); (fail_if_success exact Is.litF); exact Is.base))); intro _; rotate_left; intro _; rotate_right)))
    all_goals (try (exfalso; omega))
    all_goals (try (refine N.ret_int rfl (by (exact rvx)) ?_))
    all_goals (try (refine N.round (k + 1) ?_ ?_ ?_ ?_ ?_; rotate_left 2; (repeat (first | exact True.intro | refine ⟨rfl, ?_⟩ | refine Sub.int rfl (by omega) ?_)); rfl; (first | exact List.Sublist.refl _ | exact List.nil_sublist _ | exact List.Sublist.cons _ (List.Sublist.refl _) | exact List.Sublist.cons _ (List.Sublist.cons _ (List.Sublist.refl _)))))
    all_goals first
      | omega
      | (rename_i h1 h2
         exact (knownI_at (k := k) (by rw [List.length_map]; exact hkl) (by rw [List.getElem_map]; simp [isSet, Signed.c, RSet.c, h1, h2]) (fun j hj hjk => by
           rw [List.length_map] at hj
           rw [List.getElem_map]
           exact hrel j hj hjk)).symm)
      | (refine ⟨by omega, fun j hj hjk => ?_⟩
         by_cases e : j = k
         · subst e; simp [isSet, Signed.c, RSet.c, *]
         · exact hrel j hj (by omega))
  · repeat (any_goals (first | refine T.seq ?_ | refine T.region ?_ | refine TL.nil ?_ | refine N.next ?_ | refine N.inBlock ?_ | refine N.exit_same ?_ | refine N.exit_then ?_ | refine N.ret_then ?_ | refine N.ret_block ?_ | (apply N.exit_other; rfl) | refine T.ret ?_ | refine T.skip ?_ | refine T.exit ?_ | refine T.block ?_ | (apply T.cond_true; rfl) | (apply T.cond_false; rfl) | (apply T.test; rfl; (with_reducible (first | exact Is.ndec | exact Is.dec | exact Is.not | ((fail_if_success exact Is.litT); (fail_if_success exact Is.litF); exact Is.base))); intro _; rotate_left; intro _; rotate_right) | (apply TL.skip; rfl; rfl; rfl) | (apply TL.skip_none; rfl; rfl) | (apply TL.val; rfl; rfl; (first | exact vpure | exact vread)) | (apply TL.x; rfl; rfl; (first | exact xgrow | exact xput); intro _ _) | (apply TL.guard; rfl; rfl; rfl; (with_reducible (first | exact Is.ndec | exact Is.dec | exact Is.not | ((fail_if_success exact Is.litT); (fail_if_success exact Is.litF); exact Is.base))); intro _; rotate_left; intro _; rotate_right)))
    all_goals (try (exfalso; omega))
    refine N.ret_int rfl (by (exact rvx)) ?_
    exact (knownI_no fun j hj => by
      rw [List.length_map] at hj
      rw [List.getElem_map]
      exact hrel j hj (by omega)).symm
def fewT (l : List SignedC) : Bool := decide (l.length ≤ 60) && l.all fun s => decide (s.set.data.length ≤ 20) && decide (s.sigs.length ≤ 20) && decide (s.set.name.length ≤ 100)
theorem c_Few10 (s : Slc Signed) (H : Hp) (w : World) (hs : Sat H w) (hg : s.Good H) : Calls Tryd.prog 15 #[s.v] w (Ret w (.bool (fewT (s.els.map Signed.c)))) := by
  have hlen := hg.len
  have hlim := hg.lim
  have hel : ∀ (k : Nat) (hk : k < s.els.length), (s.els[k]).set.data.els.length = (s.els[k]).set.data.len ∧ (s.els[k]).sigs.els.length = (s.els[k]).sigs.len := fun k hk => ⟨(hg.els _ (List.getElem_mem hk)).1.2.2.2.len, (hg.els _ (List.getElem_mem hk)).2.len⟩
  obtain ⟨p, hp⟩ : ∃ p : SignedC → Bool, p = fun s => decide (s.set.data.length ≤ 20) && decide (s.sigs.length ≤ 20) && decide (s.set.name.length ≤ 100) := ⟨_, rfl⟩
  have hfew : fewT (s.els.map Signed.c) = (decide (s.len ≤ 60) && (s.els.map Signed.c).all p) := by rw [hp]; unfold fewT; rw [List.length_map, hlen]
  have hpv : ∀ (k : Nat) (hk : k < s.els.length), p (s.els[k]).c = (decide ((s.els[k]).set.data.len ≤ 20) && decide ((s.els[k]).sigs.len ≤ 20) && decide ((s.els[k]).set.name.length ≤ 100)) := fun k hk => by
    rw [hp]
    obtain ⟨e1, e2⟩ := hel k hk
    rw [← e1, ← e2]
    rfl
  refine T.enter (vs := [s.v]) (H := H) Tryd.func15 rfl rfl rfl hs ?_
  rw [hfew]
  repeat (any_goals (first | refine T.seq ?_ | refine T.region ?_ | refine TL.nil ?_ | refine N.next ?_ | refine N.inBlock ?_ | refine N.exit_same ?_ | refine N.exit_then ?_ | refine N.ret_then ?_ | refine N.ret_block ?_ | (apply N.exit_other; rfl) | refine T.ret ?_ | refine T.skip ?_ | refine T.exit ?_ | refine T.block ?_ | (apply T.cond_true; rfl) | (apply T.cond_false; rfl) | (apply T.test; rfl; (with_reducible (first | exact Is.ndec | exact Is.dec | exact Is.not | ((fail_if_success exact Is.litT); (fail_if_success exact Is.litF); exact Is.base))); intro _; rotate_left; intro _; rotate_right) | (apply TL.skip; rfl; rfl; rfl) | (apply TL.skip_none; rfl; rfl) | (apply TL.val; rfl; rfl; (first | exact vpure | exact vread)) | (apply TL.x; rfl; rfl; (first | exact xgrow | exact xput); intro _ _) | (apply TL.guard; rfl; rfl; rfl; (with_reducible (first | exact Is.ndec | exact Is.dec | exact Is.not | ((fail_if_success exact Is.litT); (fail_if_success exact Is.litF); exact Is.base))); intro _; rotate_left; intro _; rotate_right)))
  refine T.loop (G := Nat) (fun k => [(0, s.v), (3, intV k)]) (fun _ => H) (fun _ => []) (fun k => k ≤ s.len ∧ k ≤ 61 ∧ ∀ j (hj : j < s.els.length), j < k → p (s.els[j]).c = true) (fun k => s.len - k) 0 ⟨Nat.zero_le _, Nat.zero_le _, fun j _ h => by omega⟩ (by (repeat (first | exact True.intro | refine ⟨rfl, ?_⟩ | refine Sub.int rfl (by omega) ?_))) rfl (by (first | exact List.Sublist.refl _ | exact List.nil_sublist _ | exact List.Sublist.cons _ (List.Sublist.refl _) | exact List.Sublist.cons _ (List.Sublist.cons _ (List.Sublist.refl _)))) ?_
  rintro k ⟨hk, hk61, hrel⟩
  by_cases hlt : k < s.len
  · have hkl : k < s.els.length := by omega
    have hpk := hpv k hkl
    have hno : p (s.els[k]).c = false → false = (decide (s.len ≤ 60) && (s.els.map Signed.c).all p) := fun h => by
      rw [List.all_eq_false.2 ⟨_, List.mem_map.2 ⟨_, List.getElem_mem hkl, rfl⟩, by rw [h]; simp⟩, Bool.and_false]
    by_cases h60 : k ≤ 60
    · repeat (any_goals (first | refine T.seq ?_ | refine T.region ?_ | refine TL.nil ?_ | refine N.next ?_ | refine N.inBlock ?_ | refine N.exit_same ?_ | refine N.exit_then ?_ | refine N.ret_then ?_ | refine N.ret_block ?_ | (apply N.exit_other; rfl) | refine T.ret ?_ | refine T.skip ?_ | refine T.exit ?_ | refine T.block ?_ | (apply T.cond_true; rfl) | (apply T.cond_false; rfl) | (apply T.test; rfl; (with_reducible (first | exact Is.ndec | exact Is.dec | exact Is.not | ((fail_if_success exact Is.litT); (fail_if_success exact Is.litF); exact Is.base))); intro _; rotate_left; intro _; rotate_right) | (apply TL.skip; rfl; rfl; rfl) | (apply TL.skip_none; rfl; rfl) | (apply TL.val; rfl; rfl; (first | exact vpure | exact vread)) | (apply TL.x; rfl; rfl; (first | exact xgrow | exact xput); intro _ _) | (apply TL.guard; rfl; rfl; rfl; (with_reducible (first | exact Is.ndec | exact Is.dec | exact Is.not | ((fail_if_success exact Is.litT); (fail_if_success exact Is.litF); exact Is.base))); intro _; rotate_left; intro _; rotate_right)))
      all_goals (try (exfalso; omega))
      all_goals (try (refine N.ret_bool rfl (by (exact rvx)) ?_))
      all_goals (try (refine N.round (k + 1) ?_ ?_ ?_ ?_ ?_; rotate_left 2; (repeat (first | exact True.intro | refine ⟨rfl, ?_⟩ | refine Sub.int rfl (by omega) ?_)); rfl; (first | exact List.Sublist.refl _ | exact List.nil_sublist _ | exact List.Sublist.cons _ (List.Sublist.refl _) | exact List.Sublist.cons _ (List.Sublist.cons _ (List.Sublist.refl _)))))
      all_goals first
        | omega
        | (apply hno; rw [hpk]; simp; omega)
        | (refine ⟨by omega, by omega, fun j hj hjk => ?_⟩
           by_cases e : j = k
           · subst e; rw [hpk]; simp; omega
           · exact hrel j hj (by omega))
        | trace_state
    · repeat (any_goals (first | refine T.seq ?_ | refine T.region ?_ | refine TL.nil ?_ | refine N.next ?_ | refine N.inBlock ?_ | refine N.exit_same ?_ | refine N.exit_then ?_ | refine N.ret_then ?_ | refine N.ret_block ?_ | (apply N.exit_other; rfl) | refine T.ret ?_ | refine T.skip ?_ | refine T.exit ?_ | refine T.block ?_ | (apply T.cond_true; rfl) | (apply T.cond_false; rfl) | (apply T.test; rfl; (with_reducible (first | exact Is.ndec | exact Is.dec | exact Is.not | ((fail_if_success exact Is.litT); (fail_if_success exact Is.litF); exact Is.base))); intro _; rotate_left; intro _; rotate_right) | (apply TL.skip; rfl; rfl; rfl) | (apply TL.skip_none; rfl; rfl) | (apply TL.val; rfl; rfl; (first | exact vpure | exact vread)) | (apply TL.x; rfl; rfl; (first | exact xgrow | exact xput); intro _ _) | (apply TL.guard; rfl; rfl; rfl; (with_reducible (first | exact Is.ndec | exact Is.dec | exact Is.not | ((fail_if_success exact Is.litT); (fail_if_success exact Is.litF); exact Is.base))); intro _; rotate_left; intro _; rotate_right)))
      all_goals (try (exfalso; omega))
      all_goals (try (refine N.ret_bool rfl (by (exact rvx)) ?_))
      all_goals (rw [decide_eq_false (show ¬ s.len ≤ 60 by omega), Bool.false_and]; exact decide_eq_false (by omega))
  · have hall : (s.els.map Signed.c).all p = true := by
      rw [List.all_eq_true]
      intro x hx
      obtain ⟨y, hy, rfl⟩ := List.mem_map.1 hx
      obtain ⟨j, hj, rfl⟩ := List.mem_iff_getElem.1 hy
      exact hrel j hj (by omega)
    repeat (any_goals (first | refine T.seq ?_ | refine T.region ?_ | refine TL.nil ?_ | refine N.next ?_ | refine N.inBlock ?_ | refine N.exit_same ?_ | refine N.exit_then ?_ | refine N.ret_then ?_ | refine N.ret_block ?_ | (apply N.exit_other; rfl) | refine T.ret ?_ | refine T.skip ?_ | refine T.exit ?_ | refine T.block ?_ | (apply T.cond_true; rfl) | (apply T.cond_false; rfl) | (apply T.test; rfl; (with_reducible (first | exact Is.ndec | exact Is.dec | exact Is.not | ((fail_if_success exact Is.litT); (fail_if_success exact Is.litF); exact Is.base))); intro _; rotate_left; intro _; rotate_right) | (apply TL.skip; rfl; rfl; rfl) | (apply TL.skip_none; rfl; rfl) | (apply TL.val; rfl; rfl; (first | exact vpure | exact vread)) | (apply TL.x; rfl; rfl; (first | exact xgrow | exact xput); intro _ _) | (apply TL.guard; rfl; rfl; rfl; (with_reducible (first | exact Is.ndec | exact Is.dec | exact Is.not | ((fail_if_success exact Is.litT); (fail_if_success exact Is.litF); exact Is.base))); intro _; rotate_left; intro _; rotate_right)))
    all_goals (try (exfalso; omega))
    all_goals (try (refine N.ret_bool rfl (by (exact rvx)) ?_))
    all_goals (rw [hall, Bool.and_true]; exact decide_eq_decide.2 (by omega))
end Go.Proofs.YtfbhcemlnojejaaDoor
namespace Go.Proofs.YtfbhcemlnojejaaDoor
set_option linter.unusedVariables false
set_option linter.unusedSimpArgs false
open Go Go.RowKit
open Enc (enc)
set_option maxRecDepth 20000

end Go.Proofs.YtfbhcemlnojejaaDoor
