/- Walks: forwarding resolvers that are the same, or small. -/
import Derived.Test.YtpnoabbdcakjkaaGreatDoorQFH
import Derived.Test.YtpnoabbdcakjkaaGreatDoorQWH
import Derived.Test.YtpnoabbdcakjkaaGreatDoorQWJ
namespace Go.Proofs.YtpnoabbdcakjkaaGreatDoor
set_option linter.unusedVariables false
set_option linter.unusedSimpArgs false
open Go Go.RowKit
open Enc (enc)
set_option maxRecDepth 20000

theorem fwd_eq {a b : Fwd} : a.c = b.c ↔ (a.q = b.q ∧ a.own = b.own ∧ a.ups.els = b.ups.els ∧ a.at_ = b.at_ ∧ a.tried = b.tried ∧ a.til = b.til ∧ a.id = b.id ∧ a.done = b.done ∧ a.dark = b.dark ∧ a.ans.c = b.ans.c) := by
  unfold Fwd.c
  simp only [FwdC.mk.injEq]
set_option maxHeartbeats 4000000 in
theorem c_SameFwd (a b : Fwd) (H : Hp) (w : World) (hs : Sat H w) (ha : Enc.good H a) (hb : Enc.good H b) : Calls Tryz.prog 10 #[.agg (enc a).toArray, .agg (enc b).toArray] w (Ret w (.bool (decide (a.c = b.c)))) := by
  have a4 := ha.2.2.1
  have b4 := hb.2.2.1
  have hla : a.ups.els.length = a.ups.len := a4.len
  have hlb : b.ups.els.length = b.ups.len := b4.len
  have lima := a4.lim
  have limb := b4.lim
  refine T.enter (vs := [.agg (enc a).toArray, .agg (enc b).toArray]) (H := H) Tryz.func10 rfl rfl rfl hs ?_
  repeat (any_goals (first | refine T.seq ?_ | refine T.region ?_ | (apply T.regionD wide; rfl) | refine TL.nil ?_ | refine N.next ?_ | refine N.inBlock ?_ | refine N.exit_same ?_ | refine N.exit_then ?_ | refine N.ret_then ?_ | refine N.ret_block ?_ | (apply N.exit_other; rfl) | refine T.ret ?_ | refine T.skip ?_ | refine T.exit ?_ | refine T.block ?_ | (apply T.cond_true; rfl) | (apply T.cond_false; rfl) | (apply T.test; rfl; (exact isx); intro _; rotate_left; intro _; rotate_right) | (apply TL.skip; rfl; rfl; rfl) | (apply TL.skip_none; rfl; rfl) | (apply GT.skip; rfl; rfl; rfl; decide +kernel) | (apply TL.val; rfl; rfl; (first | exact vpure | exact vread)) | (apply GT.pure; (iterate 4 rfl); (first | exact vpure); decide +kernel) | (apply GT.read; (iterate 4 rfl); (first | exact vpure | exact vread); decide +kernel) | (apply GT.done; decide +kernel; apply N.ofQ) | (apply GT.adv; rfl) | (apply TL.x; rfl; rfl; (first | exact xgrow | exact xput); intro _ _) | (apply GS.grow; rfl; rfl; (first | exact xgrow); intro _ _) | (apply GS.eff; rfl; decide +kernel; rfl; (first | exact xput); intro _ _) | (apply TL.guard; rfl; rfl; rfl; (exact isx); intro _; rotate_left; intro _; rotate_right) | (apply GT.guard; (iterate 4 rfl); (exact isx); intro _; rotate_left; intro _; rotate_right) | (apply GT.fork1; decide +kernel) | (apply GT.fork2 1; decide +kernel) | (apply GT.fork2 2; decide +kernel) | (apply GT.fork2 3; decide +kernel) | (apply GT.fork2 4; decide +kernel) | (apply GT.fork2 5; decide +kernel) | (apply GT.fork2 6; decide +kernel) | (apply GT.fork2 7; decide +kernel) | (apply GT.fork2 8; decide +kernel) | (apply GT.fork2 9; decide +kernel) | (apply GT.fork2 10; decide +kernel) | (apply GT.fork2 11; decide +kernel) | (apply GT.fork2 12; decide +kernel) | (apply GT.fork2 13; decide +kernel) | (apply GT.fork2 14; decide +kernel)))
  all_goals (try (first | (apply N.ret_bool; rfl; (exact rvx)) | (apply N.ret_int; rfl; (exact rvx)) | (apply N.ret_val; rfl; (exact rvx))))
  all_goals first
    | exact (decide_eq_false (fun h => by
        have e5 := congrArg List.length (fwd_eq.1 h).2.2.1
        omega)).symm
    | skip
  rename_i b2 _ b3 _ _
  refine T.loop (G := Nat) (fun k => [(2, .pointer (some ⟨b2, 0, none⟩)), (3, .pointer (some ⟨b3, 0, none⟩)), (5, intV k)]) (fun _ => H) (fun _ => [.blk b3 31 (enc b), .blk b2 31 (enc a)]) (fun k => k ≤ a.ups.len ∧ EqTo id a.ups.els b.ups.els k) (fun k => a.ups.len - k) 0 ⟨Nat.zero_le _, eqTo_zero⟩ (by (repeat (first | exact True.intro | refine ⟨rfl, ?_⟩ | refine Sub.int rfl (by omega) ?_))) rfl (by (first | exact List.Sublist.refl _ | exact List.nil_sublist _ | exact List.Sublist.cons _ (List.Sublist.refl _) | exact List.Sublist.cons _ (List.Sublist.cons _ (List.Sublist.refl _)))) ?_
  rintro k ⟨hk, hrel⟩
  repeat (any_goals (first | refine T.seq ?_ | refine T.region ?_ | (apply T.regionD wide; rfl) | refine TL.nil ?_ | refine N.next ?_ | refine N.inBlock ?_ | refine N.exit_same ?_ | refine N.exit_then ?_ | refine N.ret_then ?_ | refine N.ret_block ?_ | (apply N.exit_other; rfl) | refine T.ret ?_ | refine T.skip ?_ | refine T.exit ?_ | refine T.block ?_ | (apply T.cond_true; rfl) | (apply T.cond_false; rfl) | (apply T.test; rfl; (exact isx); intro _; rotate_left; intro _; rotate_right) | (apply TL.skip; rfl; rfl; rfl) | (apply TL.skip_none; rfl; rfl) | (apply GT.skip; rfl; rfl; rfl; decide +kernel) | (apply TL.callE (f := 12) [.agg (enc a.ans).toArray, .agg (enc b.ans).toArray] Tryz.call12; (iterate 4 rfl); (exact fun _ hs => c_SameAnswer a.ans b.ans _ _ hs.sat ha.2.2.2.2.2.2.2 hb.2.2.2.2.2.2.2)) | (apply GT.callE (f := 12) [.agg (enc a.ans).toArray, .agg (enc b.ans).toArray] Tryz.call12; (iterate 6 rfl); (exact fun _ hs => c_SameAnswer a.ans b.ans _ _ hs.sat ha.2.2.2.2.2.2.2 hb.2.2.2.2.2.2.2); decide +kernel) | (apply TL.val; rfl; rfl; (apply V.aeql; rfl; rfl; exact Tryz.eqGuardType23; exact fun w => eq_Question a.q b.q w)) | (apply GT.pure; (iterate 4 rfl); (apply V.aeql; rfl; rfl; exact Tryz.eqGuardType23; exact fun w => eq_Question a.q b.q w); decide +kernel) | (apply GT.read; (iterate 4 rfl); (apply V.aeql; rfl; rfl; exact Tryz.eqGuardType23; exact fun w => eq_Question a.q b.q w); decide +kernel) | (apply TL.val; rfl; rfl; (apply V.beql; rfl; rfl; rfl)) | (apply GT.pure; (iterate 4 rfl); (apply V.beql; rfl; rfl; rfl); decide +kernel) | (apply GT.read; (iterate 4 rfl); (apply V.beql; rfl; rfl; rfl); decide +kernel) | (apply TL.val; rfl; rfl; (first | exact vpure | exact vread)) | (apply GT.pure; (iterate 4 rfl); (first | exact vpure); decide +kernel) | (apply GT.read; (iterate 4 rfl); (first | exact vpure | exact vread); decide +kernel) | (apply GT.done; decide +kernel; apply N.ofQ) | (apply GT.adv; rfl) | (apply TL.x; rfl; rfl; (first | exact xgrow | exact xput); intro _ _) | (apply GS.grow; rfl; rfl; (first | exact xgrow); intro _ _) | (apply GS.eff; rfl; decide +kernel; rfl; (first | exact xput); intro _ _) | (apply TL.guard; rfl; rfl; rfl; (exact isx); intro _; rotate_left; intro _; rotate_right) | (apply GT.guard; (iterate 4 rfl); (exact isx); intro _; rotate_left; intro _; rotate_right) | (apply GT.fork1; decide +kernel) | (apply GT.fork2 1; decide +kernel) | (apply GT.fork2 2; decide +kernel) | (apply GT.fork2 3; decide +kernel) | (apply GT.fork2 4; decide +kernel) | (apply GT.fork2 5; decide +kernel) | (apply GT.fork2 6; decide +kernel) | (apply GT.fork2 7; decide +kernel) | (apply GT.fork2 8; decide +kernel) | (apply GT.fork2 9; decide +kernel) | (apply GT.fork2 10; decide +kernel) | (apply GT.fork2 11; decide +kernel) | (apply GT.fork2 12; decide +kernel) | (apply GT.fork2 13; decide +kernel) | (apply GT.fork2 14; decide +kernel)))
  all_goals (try (first | (apply N.ret_bool; rfl; (exact rvx)) | (apply N.ret_int; rfl; (exact rvx)) | (apply N.ret_val; rfl; (exact rvx))))
  all_goals (try (refine N.round (k + 1) ?_ ?_ ?_ ?_ ?_; rotate_left 2; (repeat (first | exact True.intro | refine ⟨rfl, ?_⟩ | refine Sub.int rfl (by omega) ?_)); rfl; (first | exact List.Sublist.refl _ | exact List.nil_sublist _ | exact List.Sublist.cons _ (List.Sublist.refl _) | exact List.Sublist.cons _ (List.Sublist.cons _ (List.Sublist.refl _)))))
  all_goals first
    | omega
    | exact ⟨by omega, eqTo_up (by omega) (by omega) hrel (by assumption)⟩
    | exact (decide_eq_false (fun h => by
        have e5 := (fwd_eq.1 h).2.2.1
        exact eqTo_noI (k := k) (by omega) (by omega) (by assumption) e5)).symm
    | (have he : a.ups.els = b.ups.els := eqTo_endI (by omega) hrel (by omega)
       have h9 := @fwd_eq a b
       grind)
    | trace_state
end Go.Proofs.YtpnoabbdcakjkaaGreatDoor
namespace Go.Proofs.YtpnoabbdcakjkaaGreatDoor
set_option linter.unusedVariables false
set_option linter.unusedSimpArgs false
open Go Go.RowKit
open Enc (enc)
set_option maxRecDepth 20000

theorem c_SameFwdT (a b : Fwd) (hc : a.c = b.c) {H : Hp} {w : World} (hs : Sat H w) (ha : Enc.good H a) (hb : Enc.good H b) : Calls Tryz.prog 10 #[.agg (enc a).toArray, .agg (enc b).toArray] w (Ret w (.bool true)) := by
  have h := c_SameFwd a b H w hs ha hb
  rw [decide_eq_true hc] at h
  exact h
end Go.Proofs.YtpnoabbdcakjkaaGreatDoor
namespace Go.Proofs.YtpnoabbdcakjkaaGreatDoor
set_option linter.unusedVariables false
set_option linter.unusedSimpArgs false
open Go Go.RowKit
open Enc (enc)
set_option maxRecDepth 20000

structure RoundG where
  k : Nat
  H : Hp
  f : Fwd
  m : Msg
end Go.Proofs.YtpnoabbdcakjkaaGreatDoor
namespace Go.Proofs.YtpnoabbdcakjkaaGreatDoor
set_option linter.unusedVariables false
set_option linter.unusedSimpArgs false
open Go Go.RowKit
open Enc (enc)
set_option maxRecDepth 20000
set_option linter.unusedSectionVars false

theorem c_SameAnswerT (a b : Answer) (hc : a.c = b.c) {H : Hp} {w : World} (hs : Sat H w) (ha : Enc.good H a) (hb : Enc.good H b) : Calls Tryz.prog 12 #[.agg (enc a).toArray, .agg (enc b).toArray] w (Ret w (.bool true)) := by
  have h := c_SameAnswer a b H w hs ha hb
  rw [decide_eq_true hc] at h
  exact h
end Go.Proofs.YtpnoabbdcakjkaaGreatDoor
