/- Walks: nets: what is few, what is the same. -/
import Derived.Test.YtogcofeencgipaaGreatDoorZWH
import Derived.Test.YtogcofeencgipaaGreatDoorZWG
import Derived.Test.YtogcofeencgipaaGreatDoorZEngC
namespace Go.Proofs.YtogcofeencgipaaGreatDoor
set_option linter.unusedVariables false
set_option linter.unusedSimpArgs false
open Go Go.RowKit
open Enc (enc)
set_option maxRecDepth 20000

def fewS (s : SignedC) : Bool := decide (s.set.data.length ≤ 20) && decide (s.sigs.length ≤ 20) && decide (s.set.name.length ≤ 200)
theorem fewS_iff (s : Signed) (h1 : s.set.data.els.length = s.set.data.len) (h2 : s.sigs.els.length = s.sigs.len) : fewS s.c = true ↔ (s.set.data.len ≤ 20 ∧ s.sigs.len ≤ 20 ∧ s.set.name.length ≤ 200) := by
  unfold fewS
  rw [show s.c.set.data = s.set.data.els from rfl, show s.c.sigs = s.sigs.els from rfl, show s.c.set.name = s.set.name from rfl, h1, h2]
  simp only [Bool.and_eq_true, decide_eq_true_eq, and_assoc]
theorem fewM_iff (m : Msg) (hlen : m.ans.sets.els.length = m.ans.sets.len) : fewM m.c = true ↔ (m.ans.sets.els.all (fun s => fewS s.c) = true ∧ m.ans.sets.len ≤ 50 ∧ m.q.name.length ≤ 200 ∧ m.ans.cut.length ≤ 200) := by
  have e : fewM m.c = ((m.ans.sets.els.map Signed.c).all fewS && decide ((m.ans.sets.els.map Signed.c).length ≤ 50) && decide (m.q.name.length ≤ 200) && decide (m.ans.cut.length ≤ 200)) := rfl
  rw [e, List.all_map, List.length_map, hlen, show (fewS ∘ Signed.c) = fun s => fewS s.c from rfl]
  simp only [Bool.and_eq_true, decide_eq_true_eq, and_assoc]
set_option maxHeartbeats 2000000 in
theorem c_Few26 (m : Msg) (H : Hp) (w : World) (hs : Sat H w) (hg : Enc.good H m) : Calls Tryz.prog 14 #[.agg (enc m).toArray] w (Ret w (.bool (fewM m.c))) := by
  obtain ⟨g1, g2, g3, g4, ⟨g5, g6⟩, g7⟩ := hg
  have g8 := g7.2.1
  have g9 := g7.2.2
  have hlen : m.ans.sets.els.length = m.ans.sets.len := g8.len
  have hlim := g8.lim
  have hno : ¬ (m.ans.sets.els.all (fun s => fewS s.c) = true ∧ m.ans.sets.len ≤ 50 ∧ m.q.name.length ≤ 200 ∧ m.ans.cut.length ≤ 200) → false = fewM m.c := fun h => (Bool.eq_false_iff.2 fun h' => h ((fewM_iff m hlen).1 h')).symm
  refine T.enter (vs := [.agg (enc m).toArray]) (H := H) Tryz.func14 rfl rfl rfl hs ?_
  repeat (any_goals (first | refine T.seq ?_ | refine T.region ?_ | refine TL.nil ?_ | refine N.next ?_ | refine N.inBlock ?_ | refine N.exit_same ?_ | refine N.exit_then ?_ | refine N.ret_then ?_ | refine N.ret_block ?_ | (apply N.exit_other; rfl) | refine T.ret ?_ | refine T.skip ?_ | refine T.exit ?_ | refine T.block ?_ | (apply T.cond_true; rfl) | (apply T.cond_false; rfl) | (apply T.test; rfl; (with_reducible (first | exact Is.ndec | exact Is.dec | exact Is.not | ((fail_if_success exact Is.litT); (fail_if_success exact Is.litF); exact Is.base))); intro _; rotate_left; intro _; rotate_right) | (apply TL.skip; rfl; rfl; rfl) | (apply TL.skip_none; rfl; rfl) | (apply TL.val; rfl; rfl; (first | exact vpure | exact vread)) | (apply TL.x; rfl; rfl; (first | exact xgrow | exact xput); intro _ _) | (apply TL.guard; rfl; rfl; rfl; (with_reducible (first | exact Is.ndec | exact Is.dec | exact Is.not | ((fail_if_success exact Is.litT); (fail_if_success exact Is.litF); exact Is.base))); intro _; rotate_left; intro _; rotate_right)))
  rename_i b _
  refine T.loop (G := Nat) (fun k => [(1, .pointer (some ⟨b, 0, none⟩)), (3, intV k)]) (fun _ => H) (fun _ => [.blk b 28 (enc m)]) (fun k => k ≤ m.ans.sets.len ∧ AllTo (fun s => fewS s.c) m.ans.sets.els k) (fun k => m.ans.sets.len - k) 0 ⟨Nat.zero_le _, allTo_zero⟩ (by (repeat (first | exact True.intro | refine ⟨rfl, ?_⟩ | refine Sub.int rfl (by omega) ?_))) rfl (by (first | exact List.Sublist.refl _ | exact List.nil_sublist _ | exact List.Sublist.cons _ (List.Sublist.refl _) | exact List.Sublist.cons _ (List.Sublist.cons _ (List.Sublist.refl _)))) ?_
  rintro k ⟨hk, hrel⟩
  have hel : ∀ h : k < m.ans.sets.els.length, (m.ans.sets.els[k]).set.data.els.length = (m.ans.sets.els[k]).set.data.len ∧ (m.ans.sets.els[k]).sigs.els.length = (m.ans.sets.els[k]).sigs.len := fun h => ⟨(g8.el (by omega)).1.2.2.2.len, (g8.el (by omega)).2.len⟩
  repeat (any_goals (first | refine T.seq ?_ | refine T.region ?_ | refine TL.nil ?_ | refine N.next ?_ | refine N.inBlock ?_ | refine N.exit_same ?_ | refine N.exit_then ?_ | refine N.ret_then ?_ | refine N.ret_block ?_ | (apply N.exit_other; rfl) | refine T.ret ?_ | refine T.skip ?_ | refine T.exit ?_ | refine T.block ?_ | (apply T.cond_true; rfl) | (apply T.cond_false; rfl) | (apply T.test; rfl; (with_reducible (first | exact Is.ndec | exact Is.dec | exact Is.not | ((fail_if_success exact Is.litT); (fail_if_success exact Is.litF); exact Is.base))); intro _; rotate_left; intro _; rotate_right) | (apply TL.skip; rfl; rfl; rfl) | (apply TL.skip_none; rfl; rfl) | (apply TL.val; rfl; rfl; (first | exact vpure | exact vread)) | (apply TL.x; rfl; rfl; (first | exact xgrow | exact xput); intro _ _) | (apply TL.guard; rfl; rfl; rfl; (with_reducible (first | exact Is.ndec | exact Is.dec | exact Is.not | ((fail_if_success exact Is.litT); (fail_if_success exact Is.litF); exact Is.base))); intro _; rotate_left; intro _; rotate_right)))
  all_goals (try (first | (apply N.ret_bool; rfl; (exact rvx)) | (apply N.ret_int; rfl; (exact rvx)) | (apply N.ret_val; rfl; (exact rvx))))
  all_goals (try (refine N.round (k + 1) ?_ ?_ ?_ ?_ ?_; rotate_left 2; (repeat (first | exact True.intro | refine ⟨rfl, ?_⟩ | refine Sub.int rfl (by omega) ?_)); rfl; (first | exact List.Sublist.refl _ | exact List.nil_sublist _ | exact List.Sublist.cons _ (List.Sublist.refl _) | exact List.Sublist.cons _ (List.Sublist.cons _ (List.Sublist.refl _)))))
  all_goals first
    | omega
    | exact ⟨by omega, allTo_up (by omega) hrel ((fewS_iff _ (hel (by omega)).1 (hel (by omega)).2).2 ⟨by omega, by omega, by omega⟩)⟩
    | exact hno (by
        rintro ⟨b1, b2, b3, b4⟩
        first
          | omega
          | (have hb : fewS (m.ans.sets.els[k]'(by omega)).c = false := Bool.eq_false_iff.2 fun h' => by
               have := (fewS_iff _ (hel (by omega)).1 (hel (by omega)).2).1 h'
               omega
             exact absurd b1 (by rw [all_no (k := k) (by omega) (p := fun s : Signed => fewS s.c) hb]; decide)))
    | (rw [Bool.eq_iff_iff, decide_eq_true_iff, fewM_iff m hlen]
       exact ⟨fun h => ⟨allTo_end hrel (by omega), by omega, by omega, by omega⟩, fun h => by omega⟩)
    | trace_state
end Go.Proofs.YtogcofeencgipaaGreatDoor
namespace Go.Proofs.YtogcofeencgipaaGreatDoor
set_option linter.unusedVariables false
set_option linter.unusedSimpArgs false
open Go Go.RowKit
open Enc (enc)
set_option maxRecDepth 20000
end Go.Proofs.YtogcofeencgipaaGreatDoor
