/- Walks: the small functions of the reference of trust. -/
import Derived.Test.YtfbhcemlnojejaaDoorTJ
namespace Go.Proofs.YtfbhcemlnojejaaDoor
set_option linter.unusedVariables false
set_option linter.unusedSimpArgs false
open Go Go.RowKit
open Enc (enc)
set_option maxRecDepth 20000

theorem c_Same10 (a b : Slc KeyC) (H : Hp) (w : World) (hs : Sat H w) (ha : a.Good H) (hb : b.Good H) : Calls Tryd.prog 18 #[a.v, b.v] w (Ret w (.bool (decide (a.els = b.els)))) := by
  have l1 := ha.len
  have l2 := hb.len
  have m1 := ha.lim
  have m2 := hb.lim
  refine T.enter (vs := [a.v, b.v]) (H := H) Tryd.func18 rfl rfl rfl hs ?_
  repeat (any_goals (first | refine T.seq ?_ | refine T.region ?_ | (apply T.regionD wide; rfl) | refine TL.nil ?_ | refine N.next ?_ | refine N.inBlock ?_ | refine N.exit_same ?_ | refine N.exit_then ?_ | refine N.ret_then ?_ | refine N.ret_block ?_ | (apply N.exit_other; rfl) | refine T.ret ?_ | refine T.skip ?_ | refine T.exit ?_ | refine T.block ?_ | (apply T.cond_true; rfl) | (apply T.cond_false; rfl) | (apply T.test; rfl; (with_reducible (first | exact Is.ndec | exact Is.dec | exact Is.not | ((fail_if_success exact Is.litT); (fail_if_success exact Is.litF); exact Is.base))); intro _; rotate_left; intro _; rotate_right) | (apply TL.skip; rfl; rfl; rfl) | (apply TL.skip_none; rfl; rfl) | (apply GT.skip; rfl; rfl; rfl; decide +kernel) | (apply TL.val; rfl; rfl; (first | exact vpure | exact vread)) | (apply GT.pure; rfl; rfl; rfl; rfl; (first | exact vpure); decide +kernel) | (apply GT.read; rfl; rfl; rfl; rfl; (first | exact vpure | exact vread); decide +kernel) | (apply GT.done; decide +kernel; apply N.ofQ) | (apply GT.adv; rfl) | (apply TL.x; rfl; rfl; (first | exact xgrow | exact xput); intro _ _) | (apply GS.grow; rfl; rfl; (first | exact xgrow); intro _ _) | (apply GS.eff; rfl; decide +kernel; rfl; (first | exact xput); intro _ _) | (apply TL.guard; rfl; rfl; rfl; (with_reducible (first | exact Is.ndec | exact Is.dec | exact Is.not | ((fail_if_success exact Is.litT); (fail_if_success exact Is.litF); exact Is.base))); intro _; rotate_left; intro _; rotate_right) | (apply GT.guard; rfl; rfl; rfl; rfl; (with_reducible (first | exact Is.ndec | exact Is.dec | exact Is.not | ((fail_if_success exact Is.litT); (fail_if_success exact Is.litF); exact Is.base))); intro _; rotate_left; intro _; rotate_right) | (apply GT.fork1; decide +kernel) | (apply GT.fork2 1; decide +kernel) | (apply GT.fork2 2; decide +kernel) | (apply GT.fork2 3; decide +kernel) | (apply GT.fork2 4; decide +kernel) | (apply GT.fork2 5; decide +kernel) | (apply GT.fork2 6; decide +kernel) | (apply GT.fork2 7; decide +kernel) | (apply GT.fork2 8; decide +kernel) | (apply GT.fork2 9; decide +kernel) | (apply GT.fork2 10; decide +kernel) | (apply GT.fork2 11; decide +kernel) | (apply GT.fork2 12; decide +kernel) | (apply GT.fork2 13; decide +kernel) | (apply GT.fork2 14; decide +kernel) | (apply GT.fork2 15; decide +kernel) | (apply GT.fork2 16; decide +kernel) | (apply GT.fork2 17; decide +kernel) | (apply GT.fork2 18; decide +kernel) | (apply GT.fork2 19; decide +kernel) | (apply GT.fork2 20; decide +kernel) | (apply GT.fork2 21; decide +kernel) | (apply GT.fork2 22; decide +kernel) | (apply GT.fork2 23; decide +kernel)))
  rotate_left
  · refine T.loop (G := Nat) (fun k => [(0, a.v), (1, b.v), (5, intV k)]) (fun _ => H) (fun _ => []) (fun k => k ≤ a.len ∧ ∀ j, j < k → a.els[j]? = b.els[j]?) (fun k => a.len - k) 0 ⟨Nat.zero_le _, fun j h => by omega⟩ (by (repeat (first | exact True.intro | refine ⟨rfl, ?_⟩ | refine Sub.int rfl (by omega) ?_))) rfl (by (first | exact List.Sublist.refl _ | exact List.nil_sublist _ | exact List.Sublist.cons _ (List.Sublist.refl _) | exact List.Sublist.cons _ (List.Sublist.cons _ (List.Sublist.refl _)))) ?_
    rintro k ⟨hk, hrel⟩
    by_cases hlt : k < a.len
    · have hka : k < a.els.length := by omega
      have hkb : k < b.els.length := by omega
      repeat (any_goals (first | refine T.seq ?_ | refine T.region ?_ | (apply T.regionD wide; rfl) | refine TL.nil ?_ | refine N.next ?_ | refine N.inBlock ?_ | refine N.exit_same ?_ | refine N.exit_then ?_ | refine N.ret_then ?_ | refine N.ret_block ?_ | (apply N.exit_other; rfl) | refine T.ret ?_ | refine T.skip ?_ | refine T.exit ?_ | refine T.block ?_ | (apply T.cond_true; rfl) | (apply T.cond_false; rfl) | (apply T.test; rfl; (with_reducible (first | exact Is.ndec | exact Is.dec | exact Is.not | ((fail_if_success exact Is.litT); (fail_if_success exact Is.litF); exact Is.base))); intro _; rotate_left; intro _; rotate_right) | (apply TL.skip; rfl; rfl; rfl) | (apply TL.skip_none; rfl; rfl) | (apply GT.skip; rfl; rfl; rfl; decide +kernel) | (apply TL.val; rfl; rfl; (apply V.aneq; rfl; rfl; exact Tryd.eqGuardType44; exact fun w => eq_Key (a.els[k]'hka) (b.els[k]'hkb) w)) | (apply GT.pure; rfl; rfl; rfl; rfl; (apply V.aneq; rfl; rfl; exact Tryd.eqGuardType44; exact fun w => eq_Key (a.els[k]'hka) (b.els[k]'hkb) w); decide +kernel) | (apply GT.read; rfl; rfl; rfl; rfl; (apply V.aneq; rfl; rfl; exact Tryd.eqGuardType44; exact fun w => eq_Key (a.els[k]'hka) (b.els[k]'hkb) w); decide +kernel) | (apply TL.val; rfl; rfl; (first | exact vpure | exact vread)) | (apply GT.pure; rfl; rfl; rfl; rfl; (first | exact vpure); decide +kernel) | (apply GT.read; rfl; rfl; rfl; rfl; (first | exact vpure | exact vread); decide +kernel) | (apply GT.done; decide +kernel; apply N.ofQ) | (apply GT.adv; rfl) | (apply TL.x; rfl; rfl; (first | exact xgrow | exact xput); intro _ _) | (apply GS.grow; rfl; rfl; (first | exact xgrow); intro _ _) | (apply GS.eff; rfl; decide +kernel; rfl; (first | exact xput); intro _ _) | (apply GT.pureAt 1; rfl; rfl; rfl; rfl; (first | exact vpure); decide +kernel) | (apply GT.readAt 1; rfl; rfl; rfl; rfl; (first | exact vpure | exact vread); decide +kernel) | (apply GT.pureAt 2; rfl; rfl; rfl; rfl; (first | exact vpure); decide +kernel) | (apply GT.readAt 2; rfl; rfl; rfl; rfl; (first | exact vpure | exact vread); decide +kernel) | (apply GT.pureAt 3; rfl; rfl; rfl; rfl; (first | exact vpure); decide +kernel) | (apply GT.readAt 3; rfl; rfl; rfl; rfl; (first | exact vpure | exact vread); decide +kernel) | (apply GT.pureAt 4; rfl; rfl; rfl; rfl; (first | exact vpure); decide +kernel) | (apply GT.readAt 4; rfl; rfl; rfl; rfl; (first | exact vpure | exact vread); decide +kernel) | (apply GT.pureAt 5; rfl; rfl; rfl; rfl; (first | exact vpure); decide +kernel) | (apply GT.readAt 5; rfl; rfl; rfl; rfl; (first | exact vpure | exact vread); decide +kernel) | (apply GT.pureAt 6; rfl; rfl; rfl; rfl; (first | exact vpure); decide +kernel) | (apply GT.readAt 6; rfl; rfl; rfl; rfl; (first | exact vpure | exact vread); decide +kernel) | (apply GT.pureAt 7; rfl; rfl; rfl; rfl; (first | exact vpure); decide +kernel) | (apply GT.readAt 7; rfl; rfl; rfl; rfl; (first | exact vpure | exact vread); decide +kernel) | (apply GT.pureAt 8; rfl; rfl; rfl; rfl; (first | exact vpure); decide +kernel) | (apply GT.readAt 8; rfl; rfl; rfl; rfl; (first | exact vpure | exact vread); decide +kernel) | (apply TL.guard; rfl; rfl; rfl; (with_reducible (first | exact Is.ndec | exact Is.dec | exact Is.not | ((fail_if_success exact Is.litT); (fail_if_success exact Is.litF); exact Is.base))); intro _; rotate_left; intro _; rotate_right) | (apply GT.guard; rfl; rfl; rfl; rfl; (with_reducible (first | exact Is.ndec | exact Is.dec | exact Is.not | ((fail_if_success exact Is.litT); (fail_if_success exact Is.litF); exact Is.base))); intro _; rotate_left; intro _; rotate_right) | (apply GT.fork1; decide +kernel) | (apply GT.fork2 1; decide +kernel) | (apply GT.fork2 2; decide +kernel) | (apply GT.fork2 3; decide +kernel) | (apply GT.fork2 4; decide +kernel) | (apply GT.fork2 5; decide +kernel) | (apply GT.fork2 6; decide +kernel) | (apply GT.fork2 7; decide +kernel) | (apply GT.fork2 8; decide +kernel) | (apply GT.fork2 9; decide +kernel) | (apply GT.fork2 10; decide +kernel) | (apply GT.fork2 11; decide +kernel) | (apply GT.fork2 12; decide +kernel) | (apply GT.fork2 13; decide +kernel) | (apply GT.fork2 14; decide +kernel) | (apply GT.fork2 15; decide +kernel) | (apply GT.fork2 16; decide +kernel) | (apply GT.fork2 17; decide +kernel) | (apply GT.fork2 18; decide +kernel) | (apply GT.fork2 19; decide +kernel) | (apply GT.fork2 20; decide +kernel) | (apply GT.fork2 21; decide +kernel) | (apply GT.fork2 22; decide +kernel) | (apply GT.fork2 23; decide +kernel)))
      all_goals (try (exfalso; omega))
      · rename_i hne
        refine N.ret_bool rfl (by (exact rvx)) ?_
        rw [decide_eq_false]
        intro h
        apply hne
        simp only [h]
      · rename_i heq
        (refine N.round (k + 1) ?_ ?_ ?_ ?_ ?_; rotate_left 2; (repeat (first | exact True.intro | refine ⟨rfl, ?_⟩ | refine Sub.int rfl (by omega) ?_)); rfl; (first | exact List.Sublist.refl _ | exact List.nil_sublist _ | exact List.Sublist.cons _ (List.Sublist.refl _) | exact List.Sublist.cons _ (List.Sublist.cons _ (List.Sublist.refl _))))
        · refine ⟨by omega, fun j hj => ?_⟩
          by_cases e : j = k
          · subst e
            rw [List.getElem?_eq_getElem hka, List.getElem?_eq_getElem hkb, heq]
          · exact hrel j (by omega)
        · omega
    · repeat (any_goals (first | refine T.seq ?_ | refine T.region ?_ | (apply T.regionD wide; rfl) | refine TL.nil ?_ | refine N.next ?_ | refine N.inBlock ?_ | refine N.exit_same ?_ | refine N.exit_then ?_ | refine N.ret_then ?_ | refine N.ret_block ?_ | (apply N.exit_other; rfl) | refine T.ret ?_ | refine T.skip ?_ | refine T.exit ?_ | refine T.block ?_ | (apply T.cond_true; rfl) | (apply T.cond_false; rfl) | (apply T.test; rfl; (with_reducible (first | exact Is.ndec | exact Is.dec | exact Is.not | ((fail_if_success exact Is.litT); (fail_if_success exact Is.litF); exact Is.base))); intro _; rotate_left; intro _; rotate_right) | (apply TL.skip; rfl; rfl; rfl) | (apply TL.skip_none; rfl; rfl) | (apply GT.skip; rfl; rfl; rfl; decide +kernel) | (apply TL.val; rfl; rfl; (first | exact vpure | exact vread)) | (apply GT.pure; rfl; rfl; rfl; rfl; (first | exact vpure); decide +kernel) | (apply GT.read; rfl; rfl; rfl; rfl; (first | exact vpure | exact vread); decide +kernel) | (apply GT.done; decide +kernel; apply N.ofQ) | (apply GT.adv; rfl) | (apply TL.x; rfl; rfl; (first | exact xgrow | exact xput); intro _ _) | (apply GS.grow; rfl; rfl; (first | exact xgrow); intro _ _) | (apply GS.eff; rfl; decide +kernel; rfl; (first | exact xput); intro _ _) | (apply TL.guard; rfl; rfl; rfl; (with_reducible (first | exact Is.ndec | exact Is.dec | exact Is.not | ((fail_if_success exact Is.litT); (fail_if_success exact Is.litF); exact Is.base))); intro _; rotate_left; intro _; rotate_right) | (apply GT.guard; rfl; rfl; rfl; rfl; (with_reducible (first | exact Is.ndec | exact Is.dec | exact Is.not | ((fail_if_success exact Is.litT); (fail_if_success exact Is.litF); exact Is.base))); intro _; rotate_left; intro _; rotate_right) | (apply GT.fork1; decide +kernel) | (apply GT.fork2 1; decide +kernel) | (apply GT.fork2 2; decide +kernel) | (apply GT.fork2 3; decide +kernel) | (apply GT.fork2 4; decide +kernel) | (apply GT.fork2 5; decide +kernel) | (apply GT.fork2 6; decide +kernel) | (apply GT.fork2 7; decide +kernel) | (apply GT.fork2 8; decide +kernel) | (apply GT.fork2 9; decide +kernel) | (apply GT.fork2 10; decide +kernel) | (apply GT.fork2 11; decide +kernel) | (apply GT.fork2 12; decide +kernel) | (apply GT.fork2 13; decide +kernel) | (apply GT.fork2 14; decide +kernel) | (apply GT.fork2 15; decide +kernel) | (apply GT.fork2 16; decide +kernel) | (apply GT.fork2 17; decide +kernel) | (apply GT.fork2 18; decide +kernel) | (apply GT.fork2 19; decide +kernel) | (apply GT.fork2 20; decide +kernel) | (apply GT.fork2 21; decide +kernel) | (apply GT.fork2 22; decide +kernel) | (apply GT.fork2 23; decide +kernel)))
      all_goals (try (exfalso; omega))
      refine N.ret_bool rfl (by (exact rvx)) ?_
      rw [decide_eq_true]
      apply List.ext_getElem?
      intro j
      by_cases hj : j < k
      · exact hrel j hj
      · rw [List.getElem?_eq_none (by omega), List.getElem?_eq_none (by omega)]
  · all_goals (try (first | (apply N.ret_bool; rfl; (exact rvx)) | (apply N.ret_int; rfl; (exact rvx)) | (apply N.ret_val; rfl; (exact rvx))))
    rw [decide_eq_false]
    intro h
    have := congrArg List.length h
    omega
def knownI (l : List SignedC) (n : Bytes) (t : Int) : Int := match l.findIdx? (isSet n t) with | some k => k | none => -1
theorem knownI_at {l : List SignedC} {n : Bytes} {t : Int} {k : Nat} (hk : k < l.length) (hp : isSet n t l[k] = true) (h : ∀ j (hj : j < l.length), j < k → isSet n t l[j] = false) : knownI l n t = k := by
  unfold knownI
  rw [List.findIdx?_eq_some_iff_getElem.2 ⟨hk, hp, fun j hj => by simpa using h j (by omega) hj⟩]
theorem knownI_no {l : List SignedC} {n : Bytes} {t : Int} (h : ∀ j (hj : j < l.length), isSet n t l[j] = false) : knownI l n t = -1 := by
  unfold knownI
  rw [List.findIdx?_eq_none_iff.2]
  intro x hx
  obtain ⟨j, hj, rfl⟩ := List.mem_iff_getElem.1 hx
  exact h j hj
theorem c_Known10 (s : Slc Signed) (n : Bytes) (t : Int) (H : Hp) (w : World) (hs : Sat H w) (hg : s.Good H) : Calls Tryd.prog 28 #[s.v, strV n, intV t] w (Ret w (intV (knownI (s.els.map Signed.c) n t))) := by
  have hlen := hg.len
  have hlim := hg.lim
  refine T.enter (vs := [s.v, strV n, intV t]) (H := H) Tryd.func28 rfl rfl rfl hs ?_
  repeat (any_goals (first | refine T.seq ?_ | refine T.region ?_ | refine TL.nil ?_ | refine N.next ?_ | refine N.inBlock ?_ | refine N.exit_same ?_ | refine N.exit_then ?_ | refine N.ret_then ?_ | refine N.ret_block ?_ | (apply N.exit_other; rfl) | refine T.ret ?_ | refine T.skip ?_ | refine T.exit ?_ | refine T.block ?_ | (apply T.cond_true; rfl) | (apply T.cond_false; rfl) | (apply T.test; rfl; (with_reducible (first | exact Is.ndec | exact Is.dec | exact Is.not | ((fail_if_success exact Is.litT); (fail_if_success exact Is.litF); exact Is.base))); intro _; rotate_left; intro _; rotate_right) | (apply TL.skip; rfl; rfl; rfl) | (apply TL.skip_none; rfl; rfl) | (apply TL.val; rfl; rfl; (first | exact vpure | exact vread)) | (apply TL.x; rfl; rfl; (first | exact xgrow | exact xput); intro _ _) | (apply TL.guard; rfl; rfl; rfl; (with_reducible (first | exact Is.ndec | exact Is.dec | exact Is.not | ((fail_if_success exact Is.litT); (fail_if_success exact Is.litF); exact Is.base))); intro _; rotate_left; intro _; rotate_right)))
  refine T.loop (G := Nat) (fun k => [(0, s.v), (1, strV n), (2, intV t), (7, intV k)]) (fun _ => H) (fun _ => []) (fun k => k ≤ s.len ∧ ∀ j (hj : j < s.els.length), j < k → isSet n t (s.els[j]).c = false) (fun k => s.len - k) 0 ⟨Nat.zero_le _, fun j _ h => by omega⟩ (by (repeat (first | exact True.intro | refine ⟨rfl, ?_⟩ | refine Sub.int rfl (by omega) ?_))) rfl (by (first | exact List.Sublist.refl _ | exact List.nil_sublist _ | exact List.Sublist.cons _ (List.Sublist.refl _) | exact List.Sublist.cons _ (List.Sublist.cons _ (List.Sublist.refl _)))) ?_
  rintro k ⟨hk, hrel⟩
  by_cases hlt : k < s.len
  · have hkl : k < s.els.length := by omega
    repeat (any_goals (first | refine T.seq ?_ | refine T.region ?_ | refine TL.nil ?_ | refine N.next ?_ | refine N.inBlock ?_ | refine N.exit_same ?_ | refine N.exit_then ?_ | refine N.ret_then ?_ | refine N.ret_block ?_ | (apply N.exit_other; rfl) | refine T.ret ?_ | refine T.skip ?_ | refine T.exit ?_ | refine T.block ?_ | (apply T.cond_true; rfl) | (apply T.cond_false; rfl) | (apply T.test; rfl; (with_reducible (first | exact Is.ndec | exact Is.dec | exact Is.not | ((fail_if_success exact Is.litT); (fail_if_success exact Is.litF); exact Is.base))); intro _; rotate_left; intro _; rotate_right) | (apply TL.skip; rfl; rfl; rfl) | (apply TL.skip_none; rfl; rfl) | (apply TL.val; rfl; rfl; (first | exact vpure | exact vread)) | (apply TL.x; rfl; rfl; (first | exact xgrow | exact xput); intro _ _) | (apply TL.guard; rfl; rfl; rfl; (with_reducible (first | exact Is.ndec | exact Is.dec | exact Is.not | ((fail_if_success exact Is.litT); (fail_if_success exact Is.litF); exact Is.base))); intro _; rotate_left; intro _; rotate_right)))
    all_goals (try (exfalso; omega))
    all_goals (try (refine N.ret_int rfl (by (exact rvx)) ?_))
    all_goals (try (refine N.round (k + 1) ?_ ?_ ?_ ?_ ?_; rotate_left 2; (repeat (first | exact True.intro | refine ⟨rfl, ?_⟩ | refine Sub.int rfl (by omega) ?_)); rfl; (first | exact List.Sublist.refl _ | exact List.nil_sublist _ | exact List.Sublist.cons _ (List.Sublist.refl _) | exact List.Sublist.cons _ (List.Sublist.cons _ (List.Sublist.refl _)))))
    all_goals first
      | omega
      | (rename_i h1 h2
         exact (knownI_at (k := k) (by rw [List.length_map]; exact hkl) (by rw [List.getElem_map]; simp [isSet, Signed.c, RSet.c, h1, h2]) (fun j hj hjk => by
           rw [List.length_map] at hj
           rw [List.getElem_map]
           exact hrel j hj hjk)).symm)
      | (refine ⟨by omega, fun j hj hjk => ?_⟩
         by_cases e : j = k
         · subst e; simp [isSet, Signed.c, RSet.c, *]
         · exact hrel j hj (by omega))
  · repeat (any_goals (first | refine T.seq ?_ | refine T.region ?_ | refine TL.nil ?_ | refine N.next ?_ | refine N.inBlock ?_ | refine N.exit_same ?_ | refine N.exit_then ?_ | refine N.ret_then ?_ | refine N.ret_block ?_ | (apply N.exit_other; rfl) | refine T.ret ?_ | refine T.skip ?_ | refine T.exit ?_ | refine T.block ?_ | (apply T.cond_true; rfl) | (apply T.cond_false; rfl) | (apply T.test; rfl; (with_reducible (first | exact Is.ndec | exact Is.dec | exact Is.not | ((fail_if_success exact Is.litT); (fail_if_success exact Is.litF); exact Is.base))); intro _; rotate_left; intro _; rotate_right) | (apply TL.skip; rfl; rfl; rfl) | (apply TL.skip_none; rfl; rfl) | (apply TL.val; rfl; rfl; (first | exact vpure | exact vread)) | (apply TL.x; rfl; rfl; (first | exact xgrow | exact xput); intro _ _) | (apply TL.guard; rfl; rfl; rfl; (with_reducible (first | exact Is.ndec | exact Is.dec | exact Is.not | ((fail_if_success exact Is.litT); (fail_if_success exact Is.litF); exact Is.base))); intro _; rotate_left; intro _; rotate_right)))
    all_goals (try (exfalso; omega))
    refine N.ret_int rfl (by (exact rvx)) ?_
    exact (knownI_no fun j hj => by
      rw [List.length_map] at hj
      rw [List.getElem_map]
      exact hrel j hj (by omega)).symm
def fewT (l : List SignedC) : Bool := decide (l.length ≤ 60) && l.all fun s => decide (s.set.data.length ≤ 20) && decide (s.sigs.length ≤ 20) && decide (s.set.name.length ≤ 100)
theorem c_Few10 (s : Slc Signed) (H : Hp) (w : World) (hs : Sat H w) (hg : s.Good H) : Calls Tryd.prog 15 #[s.v] w (Ret w (.bool (fewT (s.els.map Signed.c)))) := by
  have hlen := hg.len
  have hlim := hg.lim
  have hel : ∀ (k : Nat) (hk : k < s.els.length), (s.els[k]).set.data.els.length = (s.els[k]).set.data.len ∧ (s.els[k]).sigs.els.length = (s.els[k]).sigs.len := fun k hk => ⟨(hg.els _ (List.getElem_mem hk)).1.2.2.2.len, (hg.els _ (List.getElem_mem hk)).2.len⟩
  obtain ⟨p, hp⟩ : ∃ p : SignedC → Bool, p = fun s => decide (s.set.data.length ≤ 20) && decide (s.sigs.length ≤ 20) && decide (s.set.name.length ≤ 100) := ⟨_, rfl⟩
  have hfew : fewT (s.els.map Signed.c) = (decide (s.len ≤ 60) && (s.els.map Signed.c).all p) := by rw [hp]; unfold fewT; rw [List.length_map, hlen]
  have hpv : ∀ (k : Nat) (hk : k < s.els.length), p (s.els[k]).c = (decide ((s.els[k]).set.data.len ≤ 20) && decide ((s.els[k]).sigs.len ≤ 20) && decide ((s.els[k]).set.name.length ≤ 100)) := fun k hk => by
    rw [hp]
    obtain ⟨e1, e2⟩ := hel k hk
    rw [← e1, ← e2]
    rfl
  refine T.enter (vs := [s.v]) (H := H) Tryd.func15 rfl rfl rfl hs ?_
  rw [hfew]
  repeat (any_goals (first | refine T.seq ?_ | refine T.region ?_ | refine TL.nil ?_ | refine N.next ?_ | refine N.inBlock ?_ | refine N.exit_same ?_ | refine N.exit_then ?_ | refine N.ret_then ?_ | refine N.ret_block ?_ | (apply N.exit_other; rfl) | refine T.ret ?_ | refine T.skip ?_ | refine T.exit ?_ | refine T.block ?_ | (apply T.cond_true; rfl) | (apply T.cond_false; rfl) | (apply T.test; rfl; (with_reducible (first | exact Is.ndec | exact Is.dec | exact Is.not | ((fail_if_success exact Is.litT); (fail_if_success exact Is.litF); exact Is.base))); intro _; rotate_left; intro _; rotate_right) | (apply TL.skip; rfl; rfl; rfl) | (apply TL.skip_none; rfl; rfl) | (apply TL.val; rfl; rfl; (first | exact vpure | exact vread)) | (apply TL.x; rfl; rfl; (first | exact xgrow | exact xput); intro _ _) | (apply TL.guard; rfl; rfl; rfl; (with_reducible (first | exact Is.ndec | exact Is.dec | exact Is.not | ((fail_if_success exact Is.litT); (fail_if_success exact Is.litF); exact Is.base))); intro _; rotate_left; intro _; rotate_right)))
  refine T.loop (G := Nat) (fun k => [(0, s.v), (3, intV k)]) (fun _ => H) (fun _ => []) (fun k => k ≤ s.len ∧ k ≤ 61 ∧ ∀ j (hj : j < s.els.length), j < k → p (s.els[j]).c = true) (fun k => s.len - k) 0 ⟨Nat.zero_le _, Nat.zero_le _, fun j _ h => by omega⟩ (by (repeat (first | exact True.intro | refine ⟨rfl, ?_⟩ | refine Sub.int rfl (by omega) ?_))) rfl (by (first | exact List.Sublist.refl _ | exact List.nil_sublist _ | exact List.Sublist.cons _ (List.Sublist.refl _) | exact List.Sublist.cons _ (List.Sublist.cons _ (List.Sublist.refl _)))) ?_
  rintro k ⟨hk, hk61, hrel⟩
  by_cases hlt : k < s.len
  · have hkl : k < s.els.length := by omega
    have hpk := hpv k hkl
    have hno : p (s.els[k]).c = false → false = (decide (s.len ≤ 60) && (s.els.map Signed.c).all p) := fun h => by
      rw [List.all_eq_false.2 ⟨_, List.mem_map.2 ⟨_, List.getElem_mem hkl, rfl⟩, by rw [h]; simp⟩, Bool.and_false]
    by_cases h60 : k ≤ 60
    · repeat (any_goals (first | refine T.seq ?_ | refine T.region ?_ | refine TL.nil ?_ | refine N.next ?_ | refine N.inBlock ?_ | refine N.exit_same ?_ | refine N.exit_then ?_ | refine N.ret_then ?_ | refine N.ret_block ?_ | (apply N.exit_other; rfl) | refine T.ret ?_ | refine T.skip ?_ | refine T.exit ?_ | refine T.block ?_ | (apply T.cond_true; rfl) | (apply T.cond_false; rfl) | (apply T.test; rfl; (with_reducible (first | exact Is.ndec | exact Is.dec | exact Is.not | ((fail_if_success exact Is.litT); (fail_if_success exact Is.litF); exact Is.base))); intro _; rotate_left; intro _; rotate_right) | (apply TL.skip; rfl; rfl; rfl) | (apply TL.skip_none; rfl; rfl) | (apply TL.val; rfl; rfl; (first | exact vpure | exact vread)) | (apply TL.x; rfl; rfl; (first | exact xgrow | exact xput); intro _ _) | (apply TL.guard; rfl; rfl; rfl; (with_reducible (first | exact Is.ndec | exact Is.dec | exact Is.not | ((fail_if_success exact Is.litT); (fail_if_success exact Is.litF); exact Is.base))); intro _; rotate_left; intro _; rotate_right)))
      all_goals (try (exfalso; omega))
      all_goals (try (refine N.ret_bool rfl (by (exact rvx)) ?_))
      all_goals (try (refine N.round (k + 1) ?_ ?_ ?_ ?_ ?_; rotate_left 2; (repeat (first | exact True.intro | refine ⟨rfl, ?_⟩ | refine Sub.int rfl (by omega) ?_)); rfl; (first | exact List.Sublist.refl _ | exact List.nil_sublist _ | exact List.Sublist.cons _ (List.Sublist.refl _) | exact List.Sublist.cons _ (List.Sublist.cons _ (List.Sublist.refl _)))))
      all_goals first
        | omega
        | (apply hno; rw [hpk]; simp; omega)
        | (refine ⟨by omega, by omega, fun j hj hjk => ?_⟩
           by_cases e : j = k
           · subst e; rw [hpk]; simp; omega
           · exact hrel j hj (by omega))
        | trace_state
    · repeat (any_goals (first | refine T.seq ?_ | refine T.region ?_ | refine TL.nil ?_ | refine N.next ?_ | refine N.inBlock ?_ | refine N.exit_same ?_ | refine N.exit_then ?_ | refine N.ret_then ?_ | refine N.ret_block ?_ | (apply N.exit_other; rfl) | refine T.ret ?_ | refine T.skip ?_ | refine T.exit ?_ | refine T.block ?_ | (apply T.cond_true; rfl) | (apply T.cond_false; rfl) | (apply T.test; rfl; (with_reducible (first | exact Is.ndec | exact Is.dec | exact Is.not | ((fail_if_success exact Is.litT); (fail_if_success exact Is.litF); exact Is.base))); intro _; rotate_left; intro _; rotate_right) | (apply TL.skip; rfl; rfl; rfl) | (apply TL.skip_none; rfl; rfl) | (apply TL.val; rfl; rfl; (first | exact vpure | exact vread)) | (apply TL.x; rfl; rfl; (first | exact xgrow | exact xput); intro _ _) | (apply TL.guard; rfl; rfl; rfl; (with_reducible (first | exact Is.ndec | exact Is.dec | exact Is.not | ((fail_if_success exact Is.litT); (fail_if_success exact Is.litF); exact Is.base))); intro _; rotate_left; intro _; rotate_right)))
      all_goals (try (exfalso; omega))
      all_goals (try (refine N.ret_bool rfl (by (exact rvx)) ?_))
      all_goals (rw [decide_eq_false (show ¬ s.len ≤ 60 by omega), Bool.false_and]; exact decide_eq_false (by omega))
  · have hall : (s.els.map Signed.c).all p = true := by
      rw [List.all_eq_true]
      intro x hx
      obtain ⟨y, hy, rfl⟩ := List.mem_map.1 hx
      obtain ⟨j, hj, rfl⟩ := List.mem_iff_getElem.1 hy
      exact hrel j hj (by omega)
    repeat (any_goals (first | refine T.seq ?_ | refine T.region ?_ | refine TL.nil ?_ | refine N.next ?_ | refine N.inBlock ?_ | refine N.exit_same ?_ | refine N.exit_then ?_ | refine N.ret_then ?_ | refine N.ret_block ?_ | (apply N.exit_other; rfl) | refine T.ret ?_ | refine T.skip ?_ | refine T.exit ?_ | refine T.block ?_ | (apply T.cond_true; rfl) | (apply T.cond_false; rfl) | (apply T.test; rfl; (with_reducible (first | exact Is.ndec | exact Is.dec | exact Is.not | ((fail_if_success exact Is.litT); (fail_if_success exact Is.litF); exact Is.base))); intro _; rotate_left; intro _; rotate_right) | (apply TL.skip; rfl; rfl; rfl) | (apply TL.skip_none; rfl; rfl) | (apply TL.val; rfl; rfl; (first | exact vpure | exact vread)) | (apply TL.x; rfl; rfl; (first | exact xgrow | exact xput); intro _ _) | (apply TL.guard; rfl; rfl; rfl; (with_reducible (first | exact Is.ndec | exact Is.dec | exact Is.not | ((fail_if_success exact Is.litT); (fail_if_success exact Is.litF); exact Is.base))); intro _; rotate_left; intro _; rotate_right)))
    all_goals (try (exfalso; omega))
    all_goals (try (refine N.ret_bool rfl (by (exact rvx)) ?_))
    all_goals (rw [hall, Bool.and_true]; exact decide_eq_decide.2 (by omega))
end Go.Proofs.YtfbhcemlnojejaaDoor
namespace Go.Proofs.YtfbhcemlnojejaaDoor
set_option linter.unusedVariables false
set_option linter.unusedSimpArgs false
open Go Go.RowKit
open Enc (enc)
set_option maxRecDepth 20000

theorem sumC_range (s : SetC) (zone : Bytes) (k : KeyC) (a b : Int) : 0 ≤ sumC s zone k a b ∧ sumC s zone k a b < 18446744073709551616 := dig_range (by decide) _
theorem sigNil_good (H : Hp) : Enc.good H sigNil := ⟨by decide, by decide, by decide, by decide, by decide, by decide⟩
theorem sign_good {s : SetC} {zone : Bytes} {k : KeyC} {a b : Int} {r : Sig × Int} (h : r = signC s zone k a b) {H : Hp} (hz : LenOk zone) (hk : Enc.good H k) (ha : I64 a) (hb : I64 b) : Enc.good H r.1 := by
  subst h
  unfold signC
  split
  · exact sigNil_good H
  · exact ⟨hz, hk.1, hk.2, ha, hb, sumC_range _ _ _ _ _⟩
def exSet (s : Bytes) (t : Int) (d : Datum) : SetC := ⟨s, t, 9, [d]⟩
def exSigned (s : Bytes) (t : Int) (zone : Bytes) (n : Int) (d : Datum) : SignedC := ⟨exSet s t d, [(signC (exSet s t d) zone ⟨n, 1⟩ 0 100).1]⟩
set_option maxHeartbeats 2000000 in
theorem c_signed10 (s : Bytes) (t : Int) (zone : Bytes) (n : Int) (d : Datum) (H : Hp) (w : World) (hs : Sat H w) (hR : Rules H) (hsl : LenOk s) (ht : I64 t) (hz : LenOk zone) (hn : I64 n) (hd : Enc.good H d) : Calls Tryd.prog 91 #[strV s, intV t, strV zone, intV n, .agg (enc d).toArray] w
    (RetF w H (fun p : Hp × Signed => p.2.c = exSigned s t zone n d ∧ Enc.good p.1 p.2) (fun p => .agg (enc p.2).toArray) (fun p => p.1)) := by
  refine T.enter (vs := [strV s, intV t, strV zone, intV n, .agg (enc d).toArray]) (H := H) Tryd.func91 rfl rfl rfl hs ?_
  have hkg : Enc.good H (⟨n, 1⟩ : KeyC) := ⟨hn, (show I64 1 by decide)⟩
  obtain ⟨r, hr⟩ : ∃ r, r = signC (exSet s t d) zone ⟨n, 1⟩ 0 100 := ⟨_, rfl⟩
  have hrg : ∀ H' : Hp, Enc.good H' r.1 := fun H' => sign_good hr hz (show Enc.good H' (⟨n, 1⟩ : KeyC) from hkg) (by decide) (by decide)
  repeat (any_goals (first | refine T.seq ?_ | refine T.region ?_ | refine TL.nil ?_ | refine N.next ?_ | refine N.inBlock ?_ | refine N.exit_same ?_ | refine N.exit_then ?_ | refine N.ret_then ?_ | refine N.ret_block ?_ | (apply N.exit_other; rfl) | refine T.ret ?_ | refine T.skip ?_ | refine T.exit ?_ | refine T.block ?_ | (apply T.cond_true; rfl) | (apply T.cond_false; rfl) | (apply T.test; rfl; (with_reducible (first | exact Is.ndec | exact Is.dec | exact Is.not | ((fail_if_success exact Is.litT); (fail_if_success exact Is.litF); exact Is.base))); intro _; rotate_left; intro _; rotate_right) | (apply TL.skip; rfl; rfl; rfl) | (apply TL.skip_none; rfl; rfl) | (apply TL.val; rfl; rfl; (apply V.build; rfl; rfl; rfl; rfl; rfl; rfl)) | (apply TL.x; rfl; rfl; (apply X.buildSlice1; rfl; rfl; rfl; rfl; rfl; rfl; rfl; rfl); intro b17 _; apply TL.frzBlk 0 (els := [d]) (m := 1) rfl rfl rfl (by decide) (by intro x hx; simp at hx; rw [hx]; exact hd); intro H2 hn2 hle2; have hx : Enc.good H2 (⟨s, t, 9, ⟨some ⟨b17, 0, none⟩, 1, 1, [d]⟩⟩ : RSet) := ⟨hsl, ht, (show I64 9 by decide), hn2⟩) | (apply TL.x; rfl; rfl; (apply X.storeTo 0 (enc (⟨s, t, 9, ⟨some ⟨b17, 0, none⟩, 1, 1, [d]⟩⟩ : RSet)); rfl; rfl; rfl; rfl; rfl; rfl; rfl; rfl; rfl; rfl); intro _ _) | (apply TL.callE (f := 27) [.agg (enc (⟨s, t, 9, ⟨some ⟨b17, 0, none⟩, 1, 1, [d]⟩⟩ : RSet)).toArray, strV zone, .agg (enc (⟨n, 1⟩ : KeyC)).toArray, intV 0, intV 100] Tryd.call27; rfl; rfl; rfl; rfl; (exact fun _ hs => hr ▸ c_Sign ⟨s, t, 9, ⟨some ⟨b17, 0, none⟩, 1, 1, [d]⟩⟩ zone ⟨n, 1⟩ 0 100 _ _ hs.sat (Rules.mono hle2 hR) hx hz hkg (by decide) (by decide))) | (apply TL.val; rfl; rfl; (apply V.build; rfl; rfl; rfl; rfl; rfl; rfl)) | (apply TL.x; rfl; rfl; (apply X.storeTo 0 (enc r.1); rfl; rfl; rfl; rfl; rfl; rfl; rfl; rfl; rfl; rfl); intro _ _) | (apply TL.x; rfl; rfl; (apply X.buildSlice1; rfl; rfl; rfl; rfl; rfl; rfl; rfl; rfl); intro b29 _; apply TL.frzBlk 0 (els := [r.1]) (m := 1) rfl rfl rfl (by decide) (by intro x hx; simp at hx; rw [hx]; exact hrg _); intro H3 hn3 hle3) | (apply TL.x; rfl; rfl; (apply X.storeTo 2 (enc (⟨⟨s, t, 9, ⟨some ⟨b17, 0, none⟩, 1, 1, [d]⟩⟩, ⟨some ⟨b29, 0, none⟩, 1, 1, [r.1]⟩⟩ : Signed)); rfl; rfl; rfl; rfl; rfl; rfl; rfl; rfl; rfl; rfl); intro _ _) | (apply TL.val; rfl; rfl; (first | exact vpure | exact vread)) | (apply TL.x; rfl; rfl; (first | exact xgrow | exact xput); intro _ _) | (apply TL.guard; rfl; rfl; rfl; (with_reducible (first | exact Is.ndec | exact Is.dec | exact Is.not | ((fail_if_success exact Is.litT); (fail_if_success exact Is.litF); exact Is.base))); intro _; rotate_left; intro _; rotate_right)))
  apply N.ret1; rfl; (exact rvx)
  intro w1 hst
  exact ⟨(H3, ⟨⟨s, t, 9, ⟨some ⟨b17, 0, none⟩, 1, 1, [d]⟩⟩, ⟨some ⟨b29, 0, none⟩, 1, 1, [r.1]⟩⟩), ⟨by rw [hr]; rfl, ⟨Enc.mono hle3 hx, hn3⟩⟩, rfl, hst.fresh⟩
def dOne : Datum := ⟨[], 1, 1⟩
def dTwo : Datum := ⟨[], 2, 1⟩
theorem dOne_good (H : Hp) : Enc.good H dOne := ⟨by decide, by decide, by decide⟩
theorem dTwo_good (H : Hp) : Enc.good H dTwo := ⟨by decide, by decide, by decide⟩
def exK : List SignedC := [exSigned [120] 6 [46] 1 dTwo, exSigned [46] 7 [46] 1 dOne, exSigned [120] 7 [120] 2 dTwo]
def exA : SetC := ⟨[46], 6, 0, [dOne]⟩
set_option maxHeartbeats 4000000 in
theorem c_example (H : Hp) (w : World) (hs : Sat H w) (hR : Rules H) : Calls Tryd.prog 47 #[] w
    (RetF w H (fun p : Hp × Slc Signed × RSet => p.2.1.els.map Signed.c = exK ∧ p.2.2.c = exA ∧ p.2.1.Good p.1 ∧ Enc.good p.1 p.2.2) (fun p => .tuple #[p.2.1.v, .agg (enc p.2.2).toArray]) (fun p => p.1)) := by
  refine T.enter (vs := []) (H := H) Tryd.func47 rfl rfl rfl hs ?_
  repeat (any_goals (first | refine T.seq ?_ | refine T.region ?_ | (apply T.regionD wide; rfl) | refine TL.nil ?_ | refine N.next ?_ | refine N.inBlock ?_ | refine N.exit_same ?_ | refine N.exit_then ?_ | refine N.ret_then ?_ | refine N.ret_block ?_ | (apply N.exit_other; rfl) | refine T.ret ?_ | refine T.skip ?_ | refine T.exit ?_ | refine T.block ?_ | (apply T.cond_true; rfl) | (apply T.cond_false; rfl) | (apply T.test; rfl; (with_reducible (first | exact Is.ndec | exact Is.dec | exact Is.not | ((fail_if_success exact Is.litT); (fail_if_success exact Is.litF); exact Is.base))); intro _; rotate_left; intro _; rotate_right) | (apply TL.skip; rfl; rfl; rfl) | (apply TL.skip_none; rfl; rfl) | (apply GT.skip; rfl; rfl; rfl; decide +kernel) | (apply TL.val; rfl; rfl; (apply V.build; rfl; rfl; rfl; rfl; rfl; rfl)) | (apply GT.pure; rfl; rfl; rfl; rfl; (apply V.build; rfl; rfl; rfl; rfl; rfl; rfl); decide +kernel) | (apply GT.read; rfl; rfl; rfl; rfl; (apply V.build; rfl; rfl; rfl; rfl; rfl; rfl); decide +kernel) | (apply GT.pureAt 9; rfl; rfl; rfl; rfl; (apply V.build; rfl; rfl; rfl; rfl; rfl; rfl); decide +kernel) | (apply GT.readAt 9; rfl; rfl; rfl; rfl; (apply V.build; rfl; rfl; rfl; rfl; rfl; rfl); decide +kernel) | (apply TL.x; rfl; rfl; (apply X.storeTo 1 (enc dOne); rfl; rfl; rfl; rfl; rfl; rfl; rfl; rfl; rfl; rfl); intro _ _) | (apply TL.x; rfl; rfl; (apply X.storeTo 0 (enc dTwo); rfl; rfl; rfl; rfl; rfl; rfl; rfl; rfl; rfl; rfl); intro _ _) | (apply GS.grow; rfl; rfl; (apply X.callFE (f := 91) [strV [120], intV 6, strV [46], intV 1, .agg (enc dTwo).toArray] Tryd.call91; rfl; rfl; rfl; exact (fun _ hs => c_signed10 [120] 6 [46] 1 dTwo _ _ hs.sat hR (by decide) (by decide) (by decide) (by decide) (dTwo_good _))); intro p1 hp1; have hR := Rules.mono hp1.2 hR) | (apply GS.grow; rfl; rfl; (apply X.callFE (f := 91) [strV [46], intV 7, strV [46], intV 1, .agg (enc dOne).toArray] Tryd.call91; rfl; rfl; rfl; exact (fun _ hs => c_signed10 [46] 7 [46] 1 dOne _ _ hs.sat hR (by decide) (by decide) (by decide) (by decide) (dOne_good _))); intro p2 hp2; have hR := Rules.mono hp2.2 hR) | (apply GS.grow; rfl; rfl; (apply X.callFE (f := 91) [strV [120], intV 7, strV [120], intV 2, .agg (enc dTwo).toArray] Tryd.call91; rfl; rfl; rfl; exact (fun _ hs => c_signed10 [120] 7 [120] 2 dTwo _ _ hs.sat hR (by decide) (by decide) (by decide) (by decide) (dTwo_good _))); intro p3 hp3; have hR := Rules.mono hp3.2 hR) | (apply GS.grow; rfl; rfl; (apply X.buildParts (enc p1.2 ++ enc p2.2 ++ enc p3.2); rfl; rfl; rfl; rfl; rfl; rfl; rfl; rfl; rfl; rfl; rfl); intro b12 _) | (apply GS.grow; rfl; rfl; (apply X.buildSlice1; rfl; rfl; rfl; rfl; rfl; rfl; rfl; rfl); intro b14 _) | (apply GS.eff; rfl; decide +kernel; rfl; (apply X.storeTo 4 (enc (⟨[46], 6, 0, ⟨some ⟨b14, 0, none⟩, 1, 1, [dOne]⟩⟩ : RSet)); rfl; rfl; rfl; rfl; rfl; rfl; rfl; rfl; rfl; rfl); intro _ _) | (apply TL.val; rfl; rfl; (first | exact vpure | exact vread)) | (apply GT.pure; rfl; rfl; rfl; rfl; (first | exact vpure); decide +kernel) | (apply GT.read; rfl; rfl; rfl; rfl; (first | exact vpure | exact vread); decide +kernel) | (apply GT.done; decide +kernel; apply N.ofQ) | (apply GT.adv; rfl) | (apply TL.x; rfl; rfl; (first | exact xgrow | exact xput); intro _ _) | (apply GS.grow; rfl; rfl; (first | exact xgrow); intro _ _) | (apply GS.eff; rfl; decide +kernel; rfl; (first | exact xput); intro _ _) | (apply GT.pureAt 1; rfl; rfl; rfl; rfl; (first | exact vpure); decide +kernel) | (apply GT.readAt 1; rfl; rfl; rfl; rfl; (first | exact vpure | exact vread); decide +kernel) | (apply GT.pureAt 2; rfl; rfl; rfl; rfl; (first | exact vpure); decide +kernel) | (apply GT.readAt 2; rfl; rfl; rfl; rfl; (first | exact vpure | exact vread); decide +kernel) | (apply GT.pureAt 3; rfl; rfl; rfl; rfl; (first | exact vpure); decide +kernel) | (apply GT.readAt 3; rfl; rfl; rfl; rfl; (first | exact vpure | exact vread); decide +kernel) | (apply GT.pureAt 4; rfl; rfl; rfl; rfl; (first | exact vpure); decide +kernel) | (apply GT.readAt 4; rfl; rfl; rfl; rfl; (first | exact vpure | exact vread); decide +kernel) | (apply GT.pureAt 5; rfl; rfl; rfl; rfl; (first | exact vpure); decide +kernel) | (apply GT.readAt 5; rfl; rfl; rfl; rfl; (first | exact vpure | exact vread); decide +kernel) | (apply GT.pureAt 6; rfl; rfl; rfl; rfl; (first | exact vpure); decide +kernel) | (apply GT.readAt 6; rfl; rfl; rfl; rfl; (first | exact vpure | exact vread); decide +kernel) | (apply GT.pureAt 7; rfl; rfl; rfl; rfl; (first | exact vpure); decide +kernel) | (apply GT.readAt 7; rfl; rfl; rfl; rfl; (first | exact vpure | exact vread); decide +kernel) | (apply GT.pureAt 8; rfl; rfl; rfl; rfl; (first | exact vpure); decide +kernel) | (apply GT.readAt 8; rfl; rfl; rfl; rfl; (first | exact vpure | exact vread); decide +kernel) | (apply GT.pureAt 9; rfl; rfl; rfl; rfl; (first | exact vpure); decide +kernel) | (apply GT.readAt 9; rfl; rfl; rfl; rfl; (first | exact vpure | exact vread); decide +kernel) | (apply GT.pureAt 10; rfl; rfl; rfl; rfl; (first | exact vpure); decide +kernel) | (apply GT.readAt 10; rfl; rfl; rfl; rfl; (first | exact vpure | exact vread); decide +kernel) | (apply GT.pureAt 11; rfl; rfl; rfl; rfl; (first | exact vpure); decide +kernel) | (apply GT.readAt 11; rfl; rfl; rfl; rfl; (first | exact vpure | exact vread); decide +kernel) | (apply TL.guard; rfl; rfl; rfl; (with_reducible (first | exact Is.ndec | exact Is.dec | exact Is.not | ((fail_if_success exact Is.litT); (fail_if_success exact Is.litF); exact Is.base))); intro _; rotate_left; intro _; rotate_right) | (apply GT.guard; rfl; rfl; rfl; rfl; (with_reducible (first | exact Is.ndec | exact Is.dec | exact Is.not | ((fail_if_success exact Is.litT); (fail_if_success exact Is.litF); exact Is.base))); intro _; rotate_left; intro _; rotate_right) | (apply GT.fork1; decide +kernel) | (apply GT.fork2 1; decide +kernel) | (apply GT.fork2 2; decide +kernel) | (apply GT.fork2 3; decide +kernel) | (apply GT.fork2 4; decide +kernel) | (apply GT.fork2 5; decide +kernel) | (apply GT.fork2 6; decide +kernel) | (apply GT.fork2 7; decide +kernel) | (apply GT.fork2 8; decide +kernel) | (apply GT.fork2 9; decide +kernel) | (apply GT.fork2 10; decide +kernel) | (apply GT.fork2 11; decide +kernel) | (apply GT.fork2 12; decide +kernel) | (apply GT.fork2 13; decide +kernel) | (apply GT.fork2 14; decide +kernel) | (apply GT.fork2 15; decide +kernel) | (apply GT.fork2 16; decide +kernel) | (apply GT.fork2 17; decide +kernel) | (apply GT.fork2 18; decide +kernel) | (apply GT.fork2 19; decide +kernel) | (apply GT.fork2 20; decide +kernel) | (apply GT.fork2 21; decide +kernel) | (apply GT.fork2 22; decide +kernel) | (apply GT.fork2 23; decide +kernel)))
  all_goals (apply N.ret2; rfl; (exact rvx); (exact rvx))
  all_goals
    intro w1 hst
    obtain ⟨L', hA⟩ : ∃ L', St w H p3.1 (.blk b12 37 (encs [p1.2, p2.2, p3.2]) :: .blk b14 65 (encs [dOne]) :: L') w1 := by
      first
        | exact ⟨_, hst⟩
        | exact ⟨_, hst.perm (List.Perm.swap _ _ _)⟩
    obtain ⟨H2, g2, l2, st2⟩ := hA.frzBlk (m := 3) rfl (by decide) (by
      intro x hx
      simp at hx
      rcases hx with rfl | rfl | rfl
      · exact Enc.mono (hp2.2.trans hp3.2) hp1.1.2
      · exact Enc.mono hp3.2 hp2.1.2
      · exact hp3.1.2)
    obtain ⟨H3, g3, l3, st3⟩ := st2.frzBlk (m := 1) rfl (by decide) (by
      intro x hx
      simp at hx
      rw [hx]
      exact dOne_good _)
    exact ⟨(H3, ⟨some ⟨b12, 0, none⟩, 3, 3, [p1.2, p2.2, p3.2]⟩, ⟨[46], 6, 0, ⟨some ⟨b14, 0, none⟩, 1, 1, [dOne]⟩⟩), ⟨by simp [exK, hp1.1.1, hp2.1.1, hp3.1.1], rfl, g2.mono l3, (show LenOk [46] by decide), (show I64 6 by decide), (show I64 0 by decide), g3⟩, rfl, st3.fresh⟩
end Go.Proofs.YtfbhcemlnojejaaDoor
