/- Walks: data, sets. -/
import Derived.Test.YtfbhcemlnojejaaDoorWB
import Derived.Test.YtfbhcemlnojejaaDoorSpec
namespace Go.Proofs.YtfbhcemlnojejaaDoor
set_option linter.unusedVariables false
set_option linter.unusedSimpArgs false
open Go Go.RowKit
open Enc (enc)
set_option maxRecDepth 20000

set_option maxHeartbeats 1000000 in
theorem c_Datum02 (t : Int) (d : Datum) (H : Hp) (w : World) (hs : Sat H w) (hd : Enc.good H d) : Calls Tryd.prog 69 #[intV t, .agg (enc d).toArray] w (Ret w (.bool (datumOK t d))) := by
  have hl := hd.1
  refine T.enter (vs := [intV t, .agg (enc d).toArray]) (H := H) Tryd.func69 rfl rfl rfl hs ?_
  repeat (any_goals (first | refine T.seq ?_ | refine T.region ?_ | refine TL.nil ?_ | refine N.next ?_ | refine N.inBlock ?_ | refine N.exit_same ?_ | refine N.exit_then ?_ | refine N.ret_then ?_ | refine N.ret_block ?_ | (apply N.exit_other; rfl) | refine T.ret ?_ | refine T.skip ?_ | refine T.exit ?_ | refine T.block ?_ | (apply T.cond_true; rfl) | (apply T.cond_false; rfl) | (apply T.test; rfl; (with_reducible (first | exact Is.ndec | exact Is.dec | exact Is.not | ((fail_if_success exact Is.litT); (fail_if_success exact Is.litF); exact Is.base))); intro _; rotate_left; intro _; rotate_right) | (apply TL.skip; rfl; rfl; rfl) | (apply TL.skip_none; rfl; rfl) | (apply TL.call0 (f := 66) Tryd.call66; rfl; rfl; rfl; (exact fun _ hs => c_within02 _ _ _ _ _ hs.sat)) | (apply TL.call0 (f := 41) Tryd.call41; rfl; rfl; rfl; (exact fun _ hs => c_nameValid01 _ _ _ hs.sat hl)) | (apply TL.call0 (f := 68) Tryd.call68; rfl; rfl; rfl; (exact fun _ hs => c_Wild _ _ _ hs.sat hl)) | (apply TL.call0 (f := 104) Tryd.call104; rfl; rfl; rfl; (exact fun _ hs => c_text _ _ _ hs.sat hl)) | (apply TL.val; rfl; rfl; (first | exact vpure | exact vread)) | (apply TL.x; rfl; rfl; (first | exact xgrow | exact xput); intro _ _) | (apply TL.guard; rfl; rfl; rfl; (with_reducible (first | exact Is.ndec | exact Is.dec | exact Is.not | ((fail_if_success exact Is.litT); (fail_if_success exact Is.litF); exact Is.base))); intro _; rotate_left; intro _; rotate_right)))
  all_goals (try (first | (apply N.ret_bool; rfl; (exact rvx)) | (apply N.ret_int; rfl; (exact rvx)) | (apply N.ret_val; rfl; (exact rvx))))
  all_goals first
    | (have ht : t = 1 := by assumption
       subst ht; rw [datumOK_1]; simp [*]; done)
    | (have ht : t = 2 := by assumption
       subst ht; rw [datumOK_2]; simp [hostOK, *]; done)
    | (have ht : t = 3 := by assumption
       subst ht; rw [datumOK_3]; simp [hostOK, *]; done)
    | (have ht : t = 4 := by assumption
       subst ht; rw [datumOK_4]; simp [*]; done)
    | (have ht : t = 5 := by assumption
       subst ht; rw [datumOK_5]; simp [*]; done)
    | (have ht : t = 6 := by assumption
       subst ht; rw [datumOK_6]; simp [keyOK, *]; done)
    | (have ht : t = 7 := by assumption
       subst ht; rw [datumOK_7]; simp [keyOK, *]; done)
    | (have ht : t = 8 := by assumption
       subst ht; rw [datumOK_8]; simp [*]; done)
    | exact (datumOK_no (by omega) d).symm
end Go.Proofs.YtfbhcemlnojejaaDoor
