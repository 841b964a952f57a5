/- Walks: Join of the reference. -/
import Derived.Test.YtfbhcemlnojejaaDoorQTWay
import Derived.Test.YtfbhcemlnojejaaDoorQEngB
import Derived.Test.YtfbhcemlnojejaaDoorQTP
namespace Go.Proofs.YtfbhcemlnojejaaDoor
set_option linter.unusedVariables false
set_option linter.unusedSimpArgs false
open Go Go.RowKit
set_option maxRecDepth 20000

theorem joinD_snoc {t : List Bytes} (h : t ≠ []) (x : Bytes) : joinD (t ++ [x]) = (joinD t ++ [46]) ++ x := by
  rw [joinD_app h (List.cons_ne_nil x []), List.append_assoc]
  rfl
theorem joinD_bound : ∀ {l : List Bytes}, (∀ x ∈ l, x.length ≤ 12) → (joinD l).length ≤ l.length * 13
  | [], _ => by simp [joinD]
  | [x], h => by
    have := h x (List.mem_singleton_self x)
    simp [joinD]
    omega
  | x :: y :: r, h => by
    have h1 := h x (List.mem_cons_self ..)
    have h2 := joinD_bound (l := y :: r) fun z hz => h z (List.mem_cons_of_mem _ hz)
    rw [joinD_cons (List.cons_ne_nil y r)]
    simp only [List.length_append, List.length_cons] at h2 ⊢
    omega
theorem c_Glue (s : Slc Bytes) (H : Hp) (w : World) (hs : Sat H w) (hg : s.Good H) (hm : s.len ≤ 1000) (hl : ∀ x ∈ s.els, x.length ≤ 12) : Calls Tryd.prog 77 #[s.v] w (Ret w (strV (glueC s.els))) := by
  have hlen := hg.len
  refine T.enter (vs := [s.v]) (H := H) Tryd.func77 rfl rfl rfl hs ?_
  by_cases h0 : s.len = 0
  · have he : s.els = [] := List.eq_nil_of_length_eq_zero (by omega)
    repeat (any_goals (first | refine T.seq ?_ | refine T.region ?_ | refine TL.nil ?_ | refine N.next ?_ | refine N.inBlock ?_ | refine N.exit_same ?_ | refine N.exit_then ?_ | refine N.ret_then ?_ | refine N.ret_block ?_ | (apply N.exit_other; rfl) | refine T.ret ?_ | refine T.skip ?_ | refine T.exit ?_ | refine T.block ?_ | (apply T.cond_true; rfl) | (apply T.cond_false; rfl) | (apply T.test; rfl; (with_reducible (first | exact Is.ndec | exact Is.dec | exact Is.not | ((fail_if_success exact Is.litT); (fail_if_success exact Is.litF); exact Is.base))); intro _; rotate_left; intro _; rotate_right) | (apply TL.skip; rfl; rfl; rfl) | (apply TL.skip_none; rfl; rfl) | (apply TL.val; rfl; rfl; (first | exact vpure | exact vread)) | (apply TL.x; rfl; rfl; (first | exact xgrow | exact xput); intro _ _) | (apply TL.guard; rfl; rfl; rfl; (with_reducible (first | exact Is.ndec | exact Is.dec | exact Is.not | ((fail_if_success exact Is.litT); (fail_if_success exact Is.litF); exact Is.base))); intro _; rotate_left; intro _; rotate_right)))
    all_goals (try (exfalso; omega))
    refine N.ret_val rfl (by (exact rvx)) ?_
    rw [he]; rfl
  · have hpos : 0 < s.els.length := by omega
    have ht1 : joinD (s.els.take 1) = s.els[0]'hpos := by
      rw [show s.els.take 1 = [s.els[0]'hpos] by rw [List.take_succ_eq_append_getElem hpos]; rfl]
      rfl
    repeat (any_goals (first | refine T.seq ?_ | refine T.region ?_ | refine TL.nil ?_ | refine N.next ?_ | refine N.inBlock ?_ | refine N.exit_same ?_ | refine N.exit_then ?_ | refine N.ret_then ?_ | refine N.ret_block ?_ | (apply N.exit_other; rfl) | refine T.ret ?_ | refine T.skip ?_ | refine T.exit ?_ | refine T.block ?_ | (apply T.cond_true; rfl) | (apply T.cond_false; rfl) | (apply T.test; rfl; (with_reducible (first | exact Is.ndec | exact Is.dec | exact Is.not | ((fail_if_success exact Is.litT); (fail_if_success exact Is.litF); exact Is.base))); intro _; rotate_left; intro _; rotate_right) | (apply TL.skip; rfl; rfl; rfl) | (apply TL.skip_none; rfl; rfl) | (apply TL.val; rfl; rfl; (apply V.elem (j := 0); rfl; rfl; rfl; rfl; rfl; rfl; omega; exact hg.at_ (by omega))) | (apply TL.val; rfl; rfl; (first | exact vpure | exact vread)) | (apply TL.x; rfl; rfl; (first | exact xgrow | exact xput); intro _ _) | (apply TL.guard; rfl; rfl; rfl; (with_reducible (first | exact Is.ndec | exact Is.dec | exact Is.not | ((fail_if_success exact Is.litT); (fail_if_success exact Is.litF); exact Is.base))); intro _; rotate_left; intro _; rotate_right)))
    all_goals (try (exfalso; omega))
    refine T.loop (G := Nat) (fun k => [(0, s.v), (3, strV (joinD (s.els.take k))), (4, intV k)]) (fun _ => H) (fun _ => []) (fun k => 1 ≤ k ∧ k ≤ s.len) (fun k => s.len - k) 1 ⟨Nat.le_refl _, by omega⟩ (by rw [ht1]; (repeat (first | exact True.intro | refine ⟨rfl, ?_⟩ | refine Sub.int rfl (by omega) ?_))) rfl (List.Sublist.refl _) ?_
    rintro k ⟨hk1, hk⟩
    by_cases hlt : k < s.len
    · have hkl : k < s.els.length := by omega
      have htk : (joinD (s.els.take k)).length ≤ k * 13 := by
        have := joinD_bound (l := s.els.take k) fun x hx => hl x (List.mem_of_mem_take hx)
        rw [List.length_take, Nat.min_eq_left (by omega)] at this
        exact this
      have hx := hl _ (List.getElem_mem hkl)
      have hup : joinD (s.els.take (k + 1)) = (joinD (s.els.take k) ++ [46]) ++ s.els[k]'hkl := by
        rw [List.take_succ_eq_append_getElem hkl, joinD_snoc]
        intro h
        have := congrArg List.length h
        rw [List.length_take, List.length_nil] at this
        omega
      repeat (any_goals (first | refine T.seq ?_ | refine T.region ?_ | refine TL.nil ?_ | refine N.next ?_ | refine N.inBlock ?_ | refine N.exit_same ?_ | refine N.exit_then ?_ | refine N.ret_then ?_ | refine N.ret_block ?_ | (apply N.exit_other; rfl) | refine T.ret ?_ | refine T.skip ?_ | refine T.exit ?_ | refine T.block ?_ | (apply T.cond_true; rfl) | (apply T.cond_false; rfl) | (apply T.test; rfl; (with_reducible (first | exact Is.ndec | exact Is.dec | exact Is.not | ((fail_if_success exact Is.litT); (fail_if_success exact Is.litF); exact Is.base))); intro _; rotate_left; intro _; rotate_right) | (apply TL.skip; rfl; rfl; rfl) | (apply TL.skip_none; rfl; rfl) | (apply TL.val; rfl; rfl; (apply V.sadd; rfl; rfl; (simp only [List.length_append, List.length_cons, List.length_nil]; omega))) | (apply TL.val; rfl; rfl; (first | exact vpure | exact vread)) | (apply TL.x; rfl; rfl; (first | exact xgrow | exact xput); intro _ _) | (apply TL.guard; rfl; rfl; rfl; (with_reducible (first | exact Is.ndec | exact Is.dec | exact Is.not | ((fail_if_success exact Is.litT); (fail_if_success exact Is.litF); exact Is.base))); intro _; rotate_left; intro _; rotate_right)))
      all_goals (try (exfalso; omega))
      refine N.round (k + 1) ⟨by omega, by omega⟩ (by show s.len - (k + 1) < s.len - k; omega) (by rw [hup]; (repeat (first | exact True.intro | refine ⟨rfl, ?_⟩ | refine Sub.int rfl (by omega) ?_))) rfl (List.Sublist.refl _)
    · have hke : k = s.els.length := by omega
      subst hke
      repeat (any_goals (first | refine T.seq ?_ | refine T.region ?_ | refine TL.nil ?_ | refine N.next ?_ | refine N.inBlock ?_ | refine N.exit_same ?_ | refine N.exit_then ?_ | refine N.ret_then ?_ | refine N.ret_block ?_ | (apply N.exit_other; rfl) | refine T.ret ?_ | refine T.skip ?_ | refine T.exit ?_ | refine T.block ?_ | (apply T.cond_true; rfl) | (apply T.cond_false; rfl) | (apply T.test; rfl; (with_reducible (first | exact Is.ndec | exact Is.dec | exact Is.not | ((fail_if_success exact Is.litT); (fail_if_success exact Is.litF); exact Is.base))); intro _; rotate_left; intro _; rotate_right) | (apply TL.skip; rfl; rfl; rfl) | (apply TL.skip_none; rfl; rfl) | (apply TL.val; rfl; rfl; (first | exact vpure | exact vread)) | (apply TL.x; rfl; rfl; (first | exact xgrow | exact xput); intro _ _) | (apply TL.guard; rfl; rfl; rfl; (with_reducible (first | exact Is.ndec | exact Is.dec | exact Is.not | ((fail_if_success exact Is.litT); (fail_if_success exact Is.litF); exact Is.base))); intro _; rotate_left; intro _; rotate_right)))
      all_goals (try (exfalso; omega))
      refine N.ret_val rfl (by (exact rvx)) ?_
      rw [List.take_length]
      unfold glueC
      rw [if_neg (fun h => by rw [h] at hpos; simp at hpos)]
theorem lab_len {x : Bytes} (h : isLab x = true) : x.length ≤ 12 := (of_decide_eq_true (p := Word 45 12 x) h).2.1
end Go.Proofs.YtfbhcemlnojejaaDoor
