/- The law PacketBytes. -/
import Derived.Test.YtogcofeencgipaaGreatDoorSPR
set_option pp.deepTerms true
set_option pp.maxSteps 10000000
namespace Go.Proofs.YtogcofeencgipaaGreatDoor
set_option linter.unusedVariables false
set_option linter.unusedSimpArgs false
open Go Go.RowKit
open Enc (enc)
set_option maxRecDepth 20000
theorem c_Bytes2 (a b : Slc UInt8) (H : Hp) (w : World) (hs : Sat H w) (ha : a.Good H) (hb : b.Good H) : Calls Tryz.prog 21 #[a.v, b.v] w (Ret w (.bool (decide (a.els = b.els)))) := by
  refine T.enter (vs := [a.v, b.v]) (H := H) Tryz.func21 rfl rfl rfl hs ?_
  repeat (any_goals (first | refine T.seq ?_ | refine T.region ?_ | refine TL.nil ?_ | refine N.next ?_ | refine N.inBlock ?_ | refine N.exit_same ?_ | refine N.exit_then ?_ | refine N.ret_then ?_ | refine N.ret_block ?_ | (apply N.exit_other; rfl) | refine T.ret ?_ | refine T.skip ?_ | refine T.exit ?_ | refine T.block ?_ | (apply T.cond_true; rfl) | (apply T.cond_false; rfl) | (apply T.test; rfl; (with_reducible (first | exact Is.ndec | exact Is.dec | exact Is.not | ((fail_if_success exact Is.litT); (fail_if_success exact Is.litF); exact Is.base))); intro _; rotate_left; intro _; rotate_right) | (apply TL.skip; rfl; rfl; rfl) | (apply TL.skip_none; rfl; rfl) | (apply TL.val; rfl; rfl; (apply V.bytesStr (q := a); rfl; rfl; rfl; rfl; rfl; rfl; rfl; exact ha)) | (apply TL.val; rfl; rfl; (apply V.bytesStr (q := b); rfl; rfl; rfl; rfl; rfl; rfl; rfl; exact hb)) | (apply TL.val; rfl; rfl; (first | exact vpure | exact vread)) | (apply TL.x; rfl; rfl; (first | exact xgrow | exact xput); intro _ _) | (apply TL.guard; rfl; rfl; rfl; (with_reducible (first | exact Is.ndec | exact Is.dec | exact Is.not | ((fail_if_success exact Is.litT); (fail_if_success exact Is.litF); exact Is.base))); intro _; rotate_left; intro _; rotate_right)))
  all_goals (try (first | (apply N.ret_bool; rfl; (exact rvx)) | (apply N.ret_int; rfl; (exact rvx)) | (apply N.ret_val; rfl; (exact rvx))))
  rfl
theorem c_Bytes2T (a b : Slc UInt8) (h : a.els = b.els) {H : Hp} {w : World} (hs : Sat H w) (ha : a.Good H) (hb : b.Good H) : Calls Tryz.prog 21 #[a.v, b.v] w (Ret w (.bool true)) := by
  have := c_Bytes2 a b H w hs ha hb
  rwa [decide_eq_true h] at this
end Go.Proofs.YtogcofeencgipaaGreatDoor
