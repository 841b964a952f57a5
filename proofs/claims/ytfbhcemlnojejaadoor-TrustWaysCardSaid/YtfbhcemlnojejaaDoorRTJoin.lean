/- Walks: Join of the reference. -/
import Derived.Test.YtfbhcemlnojejaaDoorRTWay
import Derived.Test.YtfbhcemlnojejaaDoorREngB
import Derived.Test.YtfbhcemlnojejaaDoorRTP
namespace Go.Proofs.YtfbhcemlnojejaaDoor
set_option linter.unusedVariables false
set_option linter.unusedSimpArgs false
open Go Go.RowKit
set_option maxRecDepth 20000

theorem joinD_snoc {t : List Bytes} (h : t ≠ []) (x : Bytes) : joinD (t ++ [x]) = (joinD t ++ [46]) ++ x := by
  rw [joinD_app h (List.cons_ne_nil x []), List.append_assoc]
  rfl
theorem joinD_bound : ∀ {l : List Bytes}, (∀ x ∈ l, x.length ≤ 12) → (joinD l).length ≤ l.length * 13
  | [], _ => by simp [joinD]
  | [x], h => by
    have := h x (List.mem_singleton_self x)
    simp [joinD]
    omega
  | x :: y :: r, h => by
    have h1 := h x (List.mem_cons_self ..)
    have h2 := joinD_bound (l := y :: r) fun z hz => h z (List.mem_cons_of_mem _ hz)
    rw [joinD_cons (List.cons_ne_nil y r)]
    simp only [List.length_append, List.length_cons] at h2 ⊢
    omega
theorem c_Glue (s : Slc Bytes) (H : Hp) (w : World) (hs : Sat H w) (hg : s.Good H) (hm : s.len ≤ 1000) (hl : ∀ x ∈ s.els, x.length ≤ 12) : Calls Tryd.prog 77 #[s.v] w (Ret w (strV (glueC s.els))) := by
  have hlen := hg.len
  refine T.enter (vs := [s.v]) (H := H) Tryd.func77 rfl rfl rfl hs ?_
  by_cases h0 : s.len = 0
  · have he : s.els = [] := List.eq_nil_of_length_eq_zero (by omega)
    repeat (any_goals (first | refine T.seq ?_ | refine T.region ?_ | refine TL.nil ?_ | refine N.next ?_ | refine N.inBlock ?_ | refine N.exit_same ?_ | refine N.exit_then ?_ | refine N.ret_then ?_ | refine N.ret_block ?_ | (apply N.exit_other; rfl) | refine T.ret ?_ | refine T.skip ?_ | refine T.exit ?_ | refine T.block ?_ | (apply T.cond_true; rfl) | (apply T.cond_false; rfl) | (apply T.test; rfl; (with_reducible (first | exact Is.ndec | exact Is.dec | exact Is.not | ((fail_if_success exact Is.litT); (fail_if_success exact Is.litF); exact Is.base))); intro _; rotate_left; intro _; rotate_right) | (apply TL.skip; rfl; rfl; rfl) | (apply TL.skip_none; rfl; rfl) | (apply TL.val; rfl; rfl; (first | exact vpure | exact vread)) | (apply TL.x; rfl; rfl; (first | exact xgrow | exact xput); intro _ _) | (apply TL.guard; rfl; rfl; rfl; (with_reducible (first | exact Is.ndec | exact Is.dec | exact Is.not | ((fail_if_success exact Is.litT); (fail_if_success exact Is.litF); exact Is.base))); intro _; rotate_left; intro _; rotate_right)))
    all_goals (try (exfalso; omega))
    refine N.ret_val rfl (by (exact rvx)) ?_
    rw [he]; rfl
  · have hpos : 0 < s.els.length := by omega
    have ht1 : joinD (s.els.take 1) = s.els[0]'hpos := by
      rw [show s.els.take 1 = [s.els[0]'hpos] by rw [List.take_succ_eq_append_getElem hpos]; rfl]
      rfl
    repeat (any_goals (first | refine T.seq ?_ | refine T.region ?_ | refine TL.nil ?_ | refine N.next ?_ | refine N.inBlock ?_ | refine N.exit_same ?_ | refine N.exit_then ?_ | refine N.ret_then ?_ | refine N.ret_block ?_ | (apply N.exit_other; rfl) | refine T.ret ?_ | refine T.skip ?_ | refine T.exit ?_ | refine T.block ?_ | (apply T.cond_true; rfl) | (apply T.cond_false; rfl) | (apply T.test; rfl; (with_reducible (first | exact Is.ndec | exact Is.dec | exact Is.not | ((fail_if_success exact Is.litT); (fail_if_success exact Is.litF); exact Is.base))); intro _; rotate_left; intro _; rotate_right) | (apply TL.skip; rfl; rfl; rfl) | (apply TL.skip_none; rfl; rfl) | (apply TL.val; rfl; rfl; (apply V.elem (j := 0); rfl; rfl; rfl; rfl; rfl; rfl; omega; exact hg.at_ (by omega))) | (apply TL.val; rfl; rfl; (first | exact vpure | exact vread)) | (apply TL.x; rfl; rfl; (first | exact xgrow | exact xput); intro _ _) | (apply TL.guard; rfl; rfl; rfl; (with_reducible (first | exact Is.ndec | exact Is.dec | exact Is.not | ((fail_if_success exact Is.litT); (fail_if_success exact Is.litF); exact Is.base))); intro _; rotate_left; intro _; rotate_right)))
    all_goals (try (exfalso; omega))
    refine T.loop (G := Nat) (fun k => [(0, s.v), (3, strV (joinD (s.els.take k))), (4, intV k)]) (fun _ => H) (fun _ => []) (fun k => 1 ≤ k ∧ k ≤ s.len) (fun k => s.len - k) 1 ⟨Nat.le_refl _, by omega⟩ (by rw [ht1]; (repeat (first | exact True.intro | refine ⟨rfl, ?_⟩ | refine Sub.int rfl (by omega) ?_))) rfl (List.Sublist.refl _) ?_
    rintro k ⟨hk1, hk⟩
    by_cases hlt : k < s.len
    · have hkl : k < s.els.length := by omega
      have htk : (joinD (s.els.take k)).length ≤ k * 13 := by
        have := joinD_bound (l := s.els.take k) fun x hx => hl x (List.mem_of_mem_take hx)
        rw [List.length_take, Nat.min_eq_left (by omega)] at this
        exact this
      have hx := hl _ (List.getElem_mem hkl)
      have hup : joinD (s.els.take (k + 1)) = (joinD (s.els.take k) ++ [46]) ++ s.els[k]'hkl := by
        rw [List.take_succ_eq_append_getElem hkl, joinD_snoc]
        intro h
        have := congrArg List.length h
        rw [List.length_take, List.length_nil] at this
        omega
      repeat (any_goals (first | refine T.seq ?_ | refine T.region ?_ | refine TL.nil ?_ | refine N.next ?_ | refine N.inBlock ?_ | refine N.exit_same ?_ | refine N.exit_then ?_ | refine N.ret_then ?_ | refine N.ret_block ?_ | (apply N.exit_other; rfl) | refine T.ret ?_ | refine T.skip ?_ | refine T.exit ?_ | refine T.block ?_ | (apply T.cond_true; rfl) | (apply T.cond_false; rfl) | (apply T.test; rfl; (with_reducible (first | exact Is.ndec | exact Is.dec | exact Is.not | ((fail_if_success exact Is.litT); (fail_if_success exact Is.litF); exact Is.base))); intro _; rotate_left; intro _; rotate_right) | (apply TL.skip; rfl; rfl; rfl) | (apply TL.skip_none; rfl; rfl) | (apply TL.val; rfl; rfl; (apply V.sadd; rfl; rfl; (simp only [List.length_append, List.length_cons, List.length_nil]; omega))) | (apply TL.val; rfl; rfl; (first | exact vpure | exact vread)) | (apply TL.x; rfl; rfl; (first | exact xgrow | exact xput); intro _ _) | (apply TL.guard; rfl; rfl; rfl; (with_reducible (first | exact Is.ndec | exact Is.dec | exact Is.not | ((fail_if_success exact Is.litT); (fail_if_success exact Is.litF); exact Is.base))); intro _; rotate_left; intro _; rotate_right)))
      all_goals (try (exfalso; omega))
      refine N.round (k + 1) ⟨by omega, by omega⟩ (by show s.len - (k + 1) < s.len - k; omega) (by rw [hup]; (repeat (first | exact True.intro | refine ⟨rfl, ?_⟩ | refine Sub.int rfl (by omega) ?_))) rfl (List.Sublist.refl _)
    · have hke : k = s.els.length := by omega
      subst hke
      repeat (any_goals (first | refine T.seq ?_ | refine T.region ?_ | refine TL.nil ?_ | refine N.next ?_ | refine N.inBlock ?_ | refine N.exit_same ?_ | refine N.exit_then ?_ | refine N.ret_then ?_ | refine N.ret_block ?_ | (apply N.exit_other; rfl) | refine T.ret ?_ | refine T.skip ?_ | refine T.exit ?_ | refine T.block ?_ | (apply T.cond_true; rfl) | (apply T.cond_false; rfl) | (apply T.test; rfl; (with_reducible (first | exact Is.ndec | exact Is.dec | exact Is.not | ((fail_if_success exact Is.litT); (fail_if_success exact Is.litF); exact Is.base))); intro _; rotate_left; intro _; rotate_right) | (apply TL.skip; rfl; rfl; rfl) | (apply TL.skip_none; rfl; rfl) | (apply TL.val; rfl; rfl; (first | exact vpure | exact vread)) | (apply TL.x; rfl; rfl; (first | exact xgrow | exact xput); intro _ _) | (apply TL.guard; rfl; rfl; rfl; (with_reducible (first | exact Is.ndec | exact Is.dec | exact Is.not | ((fail_if_success exact Is.litT); (fail_if_success exact Is.litF); exact Is.base))); intro _; rotate_left; intro _; rotate_right)))
      all_goals (try (exfalso; omega))
      refine N.ret_val rfl (by (exact rvx)) ?_
      rw [List.take_length]
      unfold glueC
      rw [if_neg (fun h => by rw [h] at hpos; simp at hpos)]
/-- A place of a list of labels. -/
def labAt (l : List Bytes) (j : Nat) (h : j < l.length) : Prop := isLab l[j] = true ∨ (j = 0 ∧ l[j] = [42])
theorem labs_iff {l : List Bytes} : labsOK l = true ↔ ∀ j (h : j < l.length), labAt l j h := by
  cases l with
  | nil => exact ⟨fun _ j h => by simp at h, fun _ => by decide⟩
  | cons x r =>
    unfold labsOK
    simp only [List.headD_cons, List.tail_cons, Bool.and_eq_true, Bool.or_eq_true]
    constructor
    · rintro ⟨h1, h2⟩ j hj
      cases j with
      | zero =>
        rcases h1 with h1 | h1
        · exact .inr ⟨rfl, of_decide_eq_true h1⟩
        · exact .inl h1
      | succ j => exact .inl (List.all_eq_true.1 h2 _ (List.getElem_mem _))
    · intro h
      refine ⟨?_, List.all_eq_true.2 fun y hy => ?_⟩
      · rcases h 0 (by simp) with h | ⟨_, h⟩
        · exact .inr h
        · exact .inl (decide_eq_true h)
      · obtain ⟨j, hj, rfl⟩ := List.mem_iff_getElem.1 hy
        rcases h (j + 1) (by simp; omega) with h | ⟨h, _⟩
        · exact h
        · cases h
theorem lab_len {x : Bytes} (h : isLab x = true) : x.length ≤ 12 := (of_decide_eq_true (p := Word 45 12 x) h).2.1
set_option maxHeartbeats 1000000 in
theorem c_Join01 (s : Slc Bytes) (H : Hp) (w : World) (hs : Sat H w) (hg : s.Good H) (hm : s.len ≤ 1000) : Calls Tryd.prog 32 #[s.v] w (Ret w (.tuple #[strV (joinC s.els).1, intV (joinC s.els).2])) := by
  have hlen := hg.len
  refine T.enter (vs := [s.v]) (H := H) Tryd.func32 rfl rfl rfl hs ?_
  have hbad : ∀ j (h : j < s.els.length), ¬ labAt s.els j h → joinC s.els = ([], 11) := fun j h hn => by
    unfold joinC
    rw [if_neg]
    intro hc
    simp only [Bool.and_eq_true] at hc
    exact hn (labs_iff.1 hc.1.1 j h)
  repeat (any_goals (first | refine T.seq ?_ | refine T.region ?_ | refine TL.nil ?_ | refine N.next ?_ | refine N.inBlock ?_ | refine N.exit_same ?_ | refine N.exit_then ?_ | refine N.ret_then ?_ | refine N.ret_block ?_ | (apply N.exit_other; rfl) | refine T.ret ?_ | refine T.skip ?_ | refine T.exit ?_ | refine T.block ?_ | (apply T.cond_true; rfl) | (apply T.cond_false; rfl) | (apply T.test; rfl; (with_reducible (first | exact Is.ndec | exact Is.dec | exact Is.not | ((fail_if_success exact Is.litT); (fail_if_success exact Is.litF); exact Is.base))); intro _; rotate_left; intro _; rotate_right) | (apply TL.skip; rfl; rfl; rfl) | (apply TL.skip_none; rfl; rfl) | (apply TL.val; rfl; rfl; (first | exact vpure | exact vread)) | (apply TL.x; rfl; rfl; (first | exact xgrow | exact xput); intro _ _) | (apply TL.guard; rfl; rfl; rfl; (with_reducible (first | exact Is.ndec | exact Is.dec | exact Is.not | ((fail_if_success exact Is.litT); (fail_if_success exact Is.litF); exact Is.base))); intro _; rotate_left; intro _; rotate_right)))
  refine T.loop (G := Nat) (fun k => [(0, s.v), (4, intV k)]) (fun _ => H) (fun _ => []) (fun k => k ≤ s.len ∧ ∀ j (h : j < s.els.length), j < k → labAt s.els j h) (fun k => s.len - k) 0 ⟨Nat.zero_le _, fun j _ h => by omega⟩ (by (repeat (first | exact True.intro | refine ⟨rfl, ?_⟩ | refine Sub.int rfl (by omega) ?_))) rfl (List.Sublist.refl _) ?_
  rintro k ⟨hk, hrel⟩
  by_cases hlt : k < s.len
  · have hkl : k < s.els.length := by omega
    have hel := hg.els _ (List.getElem_mem hkl)
    obtain ⟨b, hb⟩ : ∃ b, isLab (s.els[k]'hkl) = b := ⟨_, rfl⟩
    cases b
    all_goals
      repeat (any_goals (first | refine T.seq ?_ | refine T.region ?_ | refine TL.nil ?_ | refine N.next ?_ | refine N.inBlock ?_ | refine N.exit_same ?_ | refine N.exit_then ?_ | refine N.ret_then ?_ | refine N.ret_block ?_ | (apply N.exit_other; rfl) | refine T.ret ?_ | refine T.skip ?_ | refine T.exit ?_ | refine T.block ?_ | (apply T.cond_true; rfl) | (apply T.cond_false; rfl) | (apply T.test; rfl; (with_reducible (first | exact Is.ndec | exact Is.dec | exact Is.not | ((fail_if_success exact Is.litT); (fail_if_success exact Is.litF); exact Is.base))); intro _; rotate_left; intro _; rotate_right) | (apply TL.skip; rfl; rfl; rfl) | (apply TL.skip_none; rfl; rfl) | (apply TL.callE (f := 76) [strV (s.els[k]'hkl)] Tryd.call76; rfl; rfl; rfl; rfl; (exact fun _ hs => (show isWord 45 12 (s.els[k]'hkl) = _ from hb) ▸ c_Label (s.els[k]'hkl) _ _ hs.sat hel)) | (apply TL.val; rfl; rfl; (first | exact vpure | exact vread)) | (apply TL.x; rfl; rfl; (first | exact xgrow | exact xput); intro _ _) | (apply TL.guard; rfl; rfl; rfl; (with_reducible (first | exact Is.ndec | exact Is.dec | exact Is.not | ((fail_if_success exact Is.litT); (fail_if_success exact Is.litF); exact Is.base))); intro _; rotate_left; intro _; rotate_right)))
    all_goals (try contradiction)
    all_goals (try (exfalso; omega))
    all_goals first
      | (apply N.ret_two; rfl; (exact rvx); (exact rvx)
         rw [hbad k hkl (by
           rintro (h | ⟨h1, h2⟩)
           · rw [hb] at h; cases h
           · first | omega | contradiction)])
      | (refine N.round (k + 1) ⟨by omega, fun j hj hjk => ?_⟩ (by show s.len - (k + 1) < s.len - k; omega) (by (repeat (first | exact True.intro | refine ⟨rfl, ?_⟩ | refine Sub.int rfl (by omega) ?_))) rfl (List.Sublist.refl _)
         by_cases e : j = k
         · subst e
           first | exact .inl hb | exact .inr ⟨by omega, by assumption⟩
         · exact hrel j hj (by omega))
  · have hlab : labsOK s.els = true := labs_iff.2 fun j h => hrel j h (by omega)
    have hl12 : ∀ x ∈ s.els, x.length ≤ 12 := fun x hx => by
      obtain ⟨j, hj, rfl⟩ := List.mem_iff_getElem.1 hx
      rcases hrel j hj (by omega) with h | ⟨_, h⟩
      · exact lab_len h
      · rw [h]; decide
    have hj : joinC s.els = if decide (s.els.length ≤ 8) && decide ((glueC s.els).length ≤ 60) then (glueC s.els, 0) else ([], 11) := by unfold joinC; rw [hlab, Bool.true_and]
    rw [hj]
    repeat (any_goals (first | refine T.seq ?_ | refine T.region ?_ | refine TL.nil ?_ | refine N.next ?_ | refine N.inBlock ?_ | refine N.exit_same ?_ | refine N.exit_then ?_ | refine N.ret_then ?_ | refine N.ret_block ?_ | (apply N.exit_other; rfl) | refine T.ret ?_ | refine T.skip ?_ | refine T.exit ?_ | refine T.block ?_ | (apply T.cond_true; rfl) | (apply T.cond_false; rfl) | (apply T.test; rfl; (with_reducible (first | exact Is.ndec | exact Is.dec | exact Is.not | ((fail_if_success exact Is.litT); (fail_if_success exact Is.litF); exact Is.base))); intro _; rotate_left; intro _; rotate_right) | (apply TL.skip; rfl; rfl; rfl) | (apply TL.skip_none; rfl; rfl) | (apply TL.call0 (f := 77) Tryd.call77; rfl; rfl; rfl; (exact fun _ hs => c_Glue s _ _ hs.sat hg hm hl12)) | (apply TL.val; rfl; rfl; (first | exact vpure | exact vread)) | (apply TL.x; rfl; rfl; (first | exact xgrow | exact xput); intro _ _) | (apply TL.guard; rfl; rfl; rfl; (with_reducible (first | exact Is.ndec | exact Is.dec | exact Is.not | ((fail_if_success exact Is.litT); (fail_if_success exact Is.litF); exact Is.base))); intro _; rotate_left; intro _; rotate_right)))
    all_goals (try (exfalso; omega))
    all_goals (apply N.ret_two; rfl; (exact rvx); (exact rvx))
    all_goals first
      | (rw [if_neg (by simp; omega)]; done)
      | (rw [if_pos (by simp; omega)]; done)
end Go.Proofs.YtfbhcemlnojejaaDoor
