/- Walks: signatures, signed sets. -/
import Derived.Test.YtpnoabbdcakjkaaGreatDoorQWB
import Derived.Test.YtpnoabbdcakjkaaGreatDoorQSpecF
namespace Go.Proofs.YtpnoabbdcakjkaaGreatDoor
set_option linter.unusedVariables false
set_option linter.unusedSimpArgs false
open Go Go.RowKit
open Enc (enc)
set_option maxRecDepth 20000

theorem c_sigOK (g : Sig) (H : Hp) (w : World) (hs : Sat H w) (hg : Enc.good H g) : Calls Tryz.prog 149 #[.agg (enc g).toArray] w (Ret w (.bool (sigOK g))) := by
  have hl := hg.1
  refine T.enter (vs := [.agg (enc g).toArray]) (H := H) Tryz.func149 rfl rfl rfl hs ?_
  repeat (any_goals (first | refine T.seq ?_ | refine T.region ?_ | refine TL.nil ?_ | refine N.next ?_ | refine N.inBlock ?_ | refine N.exit_same ?_ | refine N.exit_then ?_ | refine N.ret_then ?_ | refine N.ret_block ?_ | (apply N.exit_other; rfl) | refine T.ret ?_ | refine T.skip ?_ | refine T.exit ?_ | refine T.block ?_ | (apply T.cond_true; rfl) | (apply T.cond_false; rfl) | (apply T.test; rfl; (exact isx); intro _; rotate_left; intro _; rotate_right) | (apply TL.skip; rfl; rfl; rfl) | (apply TL.skip_none; rfl; rfl) | (apply TL.call0 (f := 58) Tryz.call58; rfl; rfl; rfl; (exact fun _ hs => c_between _ _ _ _ _ hs.sat)) | (apply TL.call0 (f := 54) Tryz.call54; rfl; rfl; rfl; (exact fun _ hs => c_nameValid _ _ _ hs.sat hl)) | (apply TL.val; rfl; rfl; (first | exact vpure | exact vread)) | (apply TL.x; rfl; rfl; (first | exact xgrow | exact xput); intro _ _) | (apply TL.guard; rfl; rfl; rfl; (exact isx); intro _; rotate_left; intro _; rotate_right)))
  all_goals (try (first | (apply N.ret_bool; rfl; (exact rvx)) | (apply N.ret_int; rfl; (exact rvx)) | (apply N.ret_val; rfl; (exact rvx))))
  all_goals (unfold sigOK; simp [*])
theorem c_sigOK1 (g : Sig) (H : Hp) (w : World) (hs : Sat H w) (hg : Enc.good H g) : Calls Tryz.prog 148 #[.agg (enc g).toArray] w (Ret w (.bool (!sigOK g))) := by
  refine T.enter (vs := [.agg (enc g).toArray]) (H := H) Tryz.func148 rfl rfl rfl hs ?_
  repeat (any_goals (first | refine T.seq ?_ | refine T.region ?_ | refine TL.nil ?_ | refine N.next ?_ | refine N.inBlock ?_ | refine N.exit_same ?_ | refine N.exit_then ?_ | refine N.ret_then ?_ | refine N.ret_block ?_ | (apply N.exit_other; rfl) | refine T.ret ?_ | refine T.skip ?_ | refine T.exit ?_ | refine T.block ?_ | (apply T.cond_true; rfl) | (apply T.cond_false; rfl) | (apply T.test; rfl; (exact isx); intro _; rotate_left; intro _; rotate_right) | (apply TL.skip; rfl; rfl; rfl) | (apply TL.skip_none; rfl; rfl) | (apply TL.call0 (f := 149) Tryz.call149; rfl; rfl; rfl; (exact fun _ hs => c_sigOK _ _ _ hs.sat hg)) | (apply TL.val; rfl; rfl; (first | exact vpure | exact vread)) | (apply TL.x; rfl; rfl; (first | exact xgrow | exact xput); intro _ _) | (apply TL.guard; rfl; rfl; rfl; (exact isx); intro _; rotate_left; intro _; rotate_right)))
  all_goals (try (first | (apply N.ret_bool; rfl; (exact rvx)) | (apply N.ret_int; rfl; (exact rvx)) | (apply N.ret_val; rfl; (exact rvx))))
  rfl
theorem c_Sig26 (g : Sig) (H : Hp) (w : World) (hs : Sat H w) (hg : Enc.good H g) : Calls Tryz.prog 52 #[.agg (enc g).toArray] w (Ret w (.bool (sigOK g))) := by
  have hl := hg.1
  refine T.enter (vs := [.agg (enc g).toArray]) (H := H) Tryz.func52 rfl rfl rfl hs ?_
  repeat (any_goals (first | refine T.seq ?_ | refine T.region ?_ | refine TL.nil ?_ | refine N.next ?_ | refine N.inBlock ?_ | refine N.exit_same ?_ | refine N.exit_then ?_ | refine N.ret_then ?_ | refine N.ret_block ?_ | (apply N.exit_other; rfl) | refine T.ret ?_ | refine T.skip ?_ | refine T.exit ?_ | refine T.block ?_ | (apply T.cond_true; rfl) | (apply T.cond_false; rfl) | (apply T.test; rfl; (exact isx); intro _; rotate_left; intro _; rotate_right) | (apply TL.skip; rfl; rfl; rfl) | (apply TL.skip_none; rfl; rfl) | (apply TL.call0 (f := 18) Tryz.call18; rfl; rfl; rfl; (exact fun _ hs => c_within26 _ _ _ _ _ hs.sat)) | (apply TL.call0 (f := 19) Tryz.call19; rfl; rfl; rfl; (exact fun _ hs => c_nameValid01 _ _ _ hs.sat hl)) | (apply TL.call0 (f := 98) Tryz.call98; rfl; rfl; rfl; (exact fun _ hs => c_Window _ _ _ _ hs.sat)) | (apply TL.val; rfl; rfl; (first | exact vpure | exact vread)) | (apply TL.x; rfl; rfl; (first | exact xgrow | exact xput); intro _ _) | (apply TL.guard; rfl; rfl; rfl; (exact isx); intro _; rotate_left; intro _; rotate_right)))
  all_goals (try (first | (apply N.ret_bool; rfl; (exact rvx)) | (apply N.ret_int; rfl; (exact rvx)) | (apply N.ret_val; rfl; (exact rvx))))
  all_goals (unfold sigOK; simp [*])
theorem c_IndexSig (s : Slc Sig) (H : Hp) (w : World) (hs : Sat H w) (hg : s.Good H) : Calls Tryz.prog 183 #[s.v, .func (.func 148) #[] #[]] w (Ret w (intV (idxI (fun x => !sigOK x) s.els))) := by
  have hlen : s.els.length = s.len := hg.len
  have hlim := hg.lim
  refine T.enter (vs := [s.v, .func (.func 148) #[] #[]]) (H := H) Tryz.func183 rfl rfl rfl hs ?_
  repeat (any_goals (first | refine T.seq ?_ | refine T.region ?_ | refine TL.nil ?_ | refine N.next ?_ | refine N.inBlock ?_ | refine N.exit_same ?_ | refine N.exit_then ?_ | refine N.ret_then ?_ | refine N.ret_block ?_ | (apply N.exit_other; rfl) | refine T.ret ?_ | refine T.skip ?_ | refine T.exit ?_ | refine T.block ?_ | (apply T.cond_true; rfl) | (apply T.cond_false; rfl) | (apply T.test; rfl; (exact isx); intro _; rotate_left; intro _; rotate_right) | (apply TL.skip; rfl; rfl; rfl) | (apply TL.skip_none; rfl; rfl) | (apply TL.val; rfl; rfl; (first | exact vpure | exact vread)) | (apply TL.x; rfl; rfl; (first | exact xgrow | exact xput); intro _ _) | (apply TL.guard; rfl; rfl; rfl; (exact isx); intro _; rotate_left; intro _; rotate_right)))
  refine T.loop (G := Nat) (fun k => [(0, s.v), (1, .func (.func 148) #[] #[]), (6, s.v), (7, intV s.len), (8, intV k)]) (fun _ => H) (fun _ => []) (fun k => k ≤ s.len ∧ AllTo (fun x => sigOK x) s.els k) (fun k => s.len - k) 0 ⟨Nat.zero_le _, allTo_zero⟩ (by (repeat (first | exact True.intro | refine ⟨rfl, ?_⟩ | refine Sub.int rfl (by omega) ?_))) rfl (by (first | exact List.Sublist.refl _ | exact List.nil_sublist _ | exact List.Sublist.cons _ (List.Sublist.refl _) | exact List.Sublist.cons _ (List.Sublist.cons _ (List.Sublist.refl _)))) ?_
  rintro k ⟨hk, hrel⟩
  repeat (any_goals (first | refine T.seq ?_ | refine T.region ?_ | refine TL.nil ?_ | refine N.next ?_ | refine N.inBlock ?_ | refine N.exit_same ?_ | refine N.exit_then ?_ | refine N.ret_then ?_ | refine N.ret_block ?_ | (apply N.exit_other; rfl) | refine T.ret ?_ | refine T.skip ?_ | refine T.exit ?_ | refine T.block ?_ | (apply T.cond_true; rfl) | (apply T.cond_false; rfl) | (apply T.test; rfl; (exact isx); intro _; rotate_left; intro _; rotate_right) | (apply TL.skip; rfl; rfl; rfl) | (apply TL.skip_none; rfl; rfl) | (apply TL.call; (iterate 4 rfl); exact Tryz.call148; exact fun _ hs => c_sigOK1 _ _ _ hs.sat (hg.el (by omega))) | (apply TL.val; rfl; rfl; (first | exact vpure | exact vread)) | (apply TL.x; rfl; rfl; (first | exact xgrow | exact xput); intro _ _) | (apply TL.guard; rfl; rfl; rfl; (exact isx); intro _; rotate_left; intro _; rotate_right)))
  all_goals (try (apply N.ret_int; rfl; (exact rvx)))
  all_goals (try (refine N.round (k + 1) ?_ ?_ ?_ ?_ ?_; rotate_left 2; (repeat (first | exact True.intro | refine ⟨rfl, ?_⟩ | refine Sub.int rfl (by omega) ?_)); rfl; (first | exact List.Sublist.refl _ | exact List.nil_sublist _ | exact List.Sublist.cons _ (List.Sublist.refl _) | exact List.Sublist.cons _ (List.Sublist.cons _ (List.Sublist.refl _)))))
  all_goals first
    | omega
    | exact ⟨by omega, allTo_up (by omega) hrel (by assumption)⟩
    | exact (idxI_at (by omega) (by simp [*]) (fun j hj => by have h' := hrel j (by omega) hj; simp only at h'; simp [h'])).symm
    | exact (idxI_none (fun j hj => by have h' := hrel j hj (by omega); simp only at h'; simp [h'])).symm
theorem c_ContSig (s : Slc Sig) (H : Hp) (w : World) (hs : Sat H w) (hg : s.Good H) : Calls Tryz.prog 147 #[s.v, .func (.func 148) #[] #[]] w (Ret w (.bool (s.els.any fun x => !sigOK x))) := by
  refine T.enter (vs := [s.v, .func (.func 148) #[] #[]]) (H := H) Tryz.func147 rfl rfl rfl hs ?_
  repeat (any_goals (first | refine T.seq ?_ | refine T.region ?_ | refine TL.nil ?_ | refine N.next ?_ | refine N.inBlock ?_ | refine N.exit_same ?_ | refine N.exit_then ?_ | refine N.ret_then ?_ | refine N.ret_block ?_ | (apply N.exit_other; rfl) | refine T.ret ?_ | refine T.skip ?_ | refine T.exit ?_ | refine T.block ?_ | (apply T.cond_true; rfl) | (apply T.cond_false; rfl) | (apply T.test; rfl; (exact isx); intro _; rotate_left; intro _; rotate_right) | (apply TL.skip; rfl; rfl; rfl) | (apply TL.skip_none; rfl; rfl) | (apply TL.call0 (f := 183) Tryz.call183; rfl; rfl; rfl; (exact fun _ hs => c_IndexSig _ _ _ hs.sat hg)) | (apply TL.val; rfl; rfl; (first | exact vpure | exact vread)) | (apply TL.x; rfl; rfl; (first | exact xgrow | exact xput); intro _ _) | (apply TL.guard; rfl; rfl; rfl; (exact isx); intro _; rotate_left; intro _; rotate_right)))
  all_goals (try (first | (apply N.ret_bool; rfl; (exact rvx)) | (apply N.ret_int; rfl; (exact rvx)) | (apply N.ret_val; rfl; (exact rvx))))
  exact idxI_ge _ _
theorem c_signedOK (s : Signed) (H : Hp) (w : World) (hs : Sat H w) (hR : Rules H) (hg : Enc.good H s) : Calls Tryz.prog 109 #[.agg (enc s).toArray] w (Ret w (.bool (signedOK s.c))) := by
  obtain ⟨h1, h2⟩ := hg
  have hlen : s.sigs.els.length = s.sigs.len := h2.len
  have hlim := h2.lim
  refine T.enter (vs := [.agg (enc s).toArray]) (H := H) Tryz.func109 rfl rfl rfl hs ?_
  repeat (any_goals (first | refine T.seq ?_ | refine T.region ?_ | refine TL.nil ?_ | refine N.next ?_ | refine N.inBlock ?_ | refine N.exit_same ?_ | refine N.exit_then ?_ | refine N.ret_then ?_ | refine N.ret_block ?_ | (apply N.exit_other; rfl) | refine T.ret ?_ | refine T.skip ?_ | refine T.exit ?_ | refine T.block ?_ | (apply T.cond_true; rfl) | (apply T.cond_false; rfl) | (apply T.test; rfl; (exact isx); intro _; rotate_left; intro _; rotate_right) | (apply TL.skip; rfl; rfl; rfl) | (apply TL.skip_none; rfl; rfl) | (apply TL.call0 (f := 46) Tryz.call46; rfl; rfl; rfl; (exact fun _ hs => c_recordValid _ _ _ hs.sat hR h1)) | (apply TL.call0 (f := 147) Tryz.call147; rfl; rfl; rfl; (exact fun _ hs => c_ContSig _ _ _ hs.sat h2)) | (apply TL.val; rfl; rfl; (first | exact vpure | exact vread)) | (apply TL.x; rfl; rfl; (first | exact xgrow | exact xput); intro _ _) | (apply TL.guard; rfl; rfl; rfl; (exact isx); intro _; rotate_left; intro _; rotate_right)))
  all_goals (try (first | (apply N.ret_bool; rfl; (exact rvx)) | (apply N.ret_int; rfl; (exact rvx)) | (apply N.ret_val; rfl; (exact rvx))))
  all_goals (unfold signedOK; rw [show s.c.sigs = s.sigs.els from rfl, show s.c.set = s.set.c from rfl])
  all_goals first
    | (rw [decide_eq_false (by omega)]; rfl)
    | (rw [(by assumption : setOK s.set.c = false), Bool.and_false]; rfl)
    | (rw [decide_eq_true (by omega), (by assumption : setOK s.set.c = true), any_not]; rfl)
theorem c_signedOK1 (s : Signed) (H : Hp) (w : World) (hs : Sat H w) (hR : Rules H) (hg : Enc.good H s) : Calls Tryz.prog 108 #[.agg (enc s).toArray] w (Ret w (.bool (!signedOK s.c))) := by
  refine T.enter (vs := [.agg (enc s).toArray]) (H := H) Tryz.func108 rfl rfl rfl hs ?_
  repeat (any_goals (first | refine T.seq ?_ | refine T.region ?_ | refine TL.nil ?_ | refine N.next ?_ | refine N.inBlock ?_ | refine N.exit_same ?_ | refine N.exit_then ?_ | refine N.ret_then ?_ | refine N.ret_block ?_ | (apply N.exit_other; rfl) | refine T.ret ?_ | refine T.skip ?_ | refine T.exit ?_ | refine T.block ?_ | (apply T.cond_true; rfl) | (apply T.cond_false; rfl) | (apply T.test; rfl; (exact isx); intro _; rotate_left; intro _; rotate_right) | (apply TL.skip; rfl; rfl; rfl) | (apply TL.skip_none; rfl; rfl) | (apply TL.call0 (f := 109) Tryz.call109; rfl; rfl; rfl; (exact fun _ hs => c_signedOK _ _ _ hs.sat hR hg)) | (apply TL.val; rfl; rfl; (first | exact vpure | exact vread)) | (apply TL.x; rfl; rfl; (first | exact xgrow | exact xput); intro _ _) | (apply TL.guard; rfl; rfl; rfl; (exact isx); intro _; rotate_left; intro _; rotate_right)))
  all_goals (try (first | (apply N.ret_bool; rfl; (exact rvx)) | (apply N.ret_int; rfl; (exact rvx)) | (apply N.ret_val; rfl; (exact rvx))))
  rfl
theorem c_IndexSigned (s : Slc Signed) (H : Hp) (w : World) (hs : Sat H w) (hR : Rules H) (hg : s.Good H) : Calls Tryz.prog 121 #[s.v, .func (.func 108) #[] #[]] w (Ret w (intV (idxI (fun x => !signedOK x.c) s.els))) := by
  have hlen : s.els.length = s.len := hg.len
  have hlim := hg.lim
  refine T.enter (vs := [s.v, .func (.func 108) #[] #[]]) (H := H) Tryz.func121 rfl rfl rfl hs ?_
  repeat (any_goals (first | refine T.seq ?_ | refine T.region ?_ | refine TL.nil ?_ | refine N.next ?_ | refine N.inBlock ?_ | refine N.exit_same ?_ | refine N.exit_then ?_ | refine N.ret_then ?_ | refine N.ret_block ?_ | (apply N.exit_other; rfl) | refine T.ret ?_ | refine T.skip ?_ | refine T.exit ?_ | refine T.block ?_ | (apply T.cond_true; rfl) | (apply T.cond_false; rfl) | (apply T.test; rfl; (exact isx); intro _; rotate_left; intro _; rotate_right) | (apply TL.skip; rfl; rfl; rfl) | (apply TL.skip_none; rfl; rfl) | (apply TL.val; rfl; rfl; (first | exact vpure | exact vread)) | (apply TL.x; rfl; rfl; (first | exact xgrow | exact xput); intro _ _) | (apply TL.guard; rfl; rfl; rfl; (exact isx); intro _; rotate_left; intro _; rotate_right)))
  refine T.loop (G := Nat) (fun k => [(0, s.v), (1, .func (.func 108) #[] #[]), (6, s.v), (7, intV s.len), (8, intV k)]) (fun _ => H) (fun _ => []) (fun k => k ≤ s.len ∧ AllTo (fun x => signedOK x.c) s.els k) (fun k => s.len - k) 0 ⟨Nat.zero_le _, allTo_zero⟩ (by (repeat (first | exact True.intro | refine ⟨rfl, ?_⟩ | refine Sub.int rfl (by omega) ?_))) rfl (by (first | exact List.Sublist.refl _ | exact List.nil_sublist _ | exact List.Sublist.cons _ (List.Sublist.refl _) | exact List.Sublist.cons _ (List.Sublist.cons _ (List.Sublist.refl _)))) ?_
  rintro k ⟨hk, hrel⟩
  repeat (any_goals (first | refine T.seq ?_ | refine T.region ?_ | refine TL.nil ?_ | refine N.next ?_ | refine N.inBlock ?_ | refine N.exit_same ?_ | refine N.exit_then ?_ | refine N.ret_then ?_ | refine N.ret_block ?_ | (apply N.exit_other; rfl) | refine T.ret ?_ | refine T.skip ?_ | refine T.exit ?_ | refine T.block ?_ | (apply T.cond_true; rfl) | (apply T.cond_false; rfl) | (apply T.test; rfl; (exact isx); intro _; rotate_left; intro _; rotate_right) | (apply TL.skip; rfl; rfl; rfl) | (apply TL.skip_none; rfl; rfl) | (apply TL.call; (iterate 4 rfl); exact Tryz.call108; exact fun _ hs => c_signedOK1 _ _ _ hs.sat hR (hg.el (by omega))) | (apply TL.val; rfl; rfl; (first | exact vpure | exact vread)) | (apply TL.x; rfl; rfl; (first | exact xgrow | exact xput); intro _ _) | (apply TL.guard; rfl; rfl; rfl; (exact isx); intro _; rotate_left; intro _; rotate_right)))
  all_goals (try (apply N.ret_int; rfl; (exact rvx)))
  all_goals (try (refine N.round (k + 1) ?_ ?_ ?_ ?_ ?_; rotate_left 2; (repeat (first | exact True.intro | refine ⟨rfl, ?_⟩ | refine Sub.int rfl (by omega) ?_)); rfl; (first | exact List.Sublist.refl _ | exact List.nil_sublist _ | exact List.Sublist.cons _ (List.Sublist.refl _) | exact List.Sublist.cons _ (List.Sublist.cons _ (List.Sublist.refl _)))))
  all_goals first
    | omega
    | exact ⟨by omega, allTo_up (by omega) hrel (by assumption)⟩
    | exact (idxI_at (by omega) (by simp [*]) (fun j hj => by have h' := hrel j (by omega) hj; simp only at h'; simp [h'])).symm
    | exact (idxI_none (fun j hj => by have h' := hrel j hj (by omega); simp only at h'; simp [h'])).symm
theorem c_ContSigned (s : Slc Signed) (H : Hp) (w : World) (hs : Sat H w) (hR : Rules H) (hg : s.Good H) : Calls Tryz.prog 82 #[s.v, .func (.func 108) #[] #[]] w (Ret w (.bool (s.els.any fun x => !signedOK x.c))) := by
  refine T.enter (vs := [s.v, .func (.func 108) #[] #[]]) (H := H) Tryz.func82 rfl rfl rfl hs ?_
  repeat (any_goals (first | refine T.seq ?_ | refine T.region ?_ | refine TL.nil ?_ | refine N.next ?_ | refine N.inBlock ?_ | refine N.exit_same ?_ | refine N.exit_then ?_ | refine N.ret_then ?_ | refine N.ret_block ?_ | (apply N.exit_other; rfl) | refine T.ret ?_ | refine T.skip ?_ | refine T.exit ?_ | refine T.block ?_ | (apply T.cond_true; rfl) | (apply T.cond_false; rfl) | (apply T.test; rfl; (exact isx); intro _; rotate_left; intro _; rotate_right) | (apply TL.skip; rfl; rfl; rfl) | (apply TL.skip_none; rfl; rfl) | (apply TL.call0 (f := 121) Tryz.call121; rfl; rfl; rfl; (exact fun _ hs => c_IndexSigned _ _ _ hs.sat hR hg)) | (apply TL.val; rfl; rfl; (first | exact vpure | exact vread)) | (apply TL.x; rfl; rfl; (first | exact xgrow | exact xput); intro _ _) | (apply TL.guard; rfl; rfl; rfl; (exact isx); intro _; rotate_left; intro _; rotate_right)))
  all_goals (try (first | (apply N.ret_bool; rfl; (exact rvx)) | (apply N.ret_int; rfl; (exact rvx)) | (apply N.ret_val; rfl; (exact rvx))))
  exact idxI_ge _ _
end Go.Proofs.YtpnoabbdcakjkaaGreatDoor
