/- Walks: names under names. -/
import Derived.Test.YtpnoabbdcakjkaaGreatDoorQWI
import Derived.Test.YtpnoabbdcakjkaaGreatDoorQSpecF
import Derived.Test.YtpnoabbdcakjkaaGreatDoorQDataF
namespace Go.Proofs.YtpnoabbdcakjkaaGreatDoor
set_option linter.unusedVariables false
set_option linter.unusedSimpArgs false
open Go Go.RowKit
set_option maxRecDepth 20000

theorem c_HasSuffix0 (l p : Bytes) (H : Hp) (w : World) (hs : Sat H w) (hl : LenOk l) (hp : LenOk p) : Calls Tryz.prog 150 #[strV l, strV p] w (Ret w (.bool (decide (p <:+ l)))) := by
  have hl' : l.length ≤ 9223372036854775807 := hl
  have hp' : p.length ≤ 9223372036854775807 := hp
  refine T.enter (vs := [strV l, strV p]) (H := H) Tryz.func150 rfl rfl rfl hs ?_
  repeat (any_goals (first | refine T.seq ?_ | refine T.region ?_ | refine TL.nil ?_ | refine N.next ?_ | refine N.inBlock ?_ | refine N.exit_same ?_ | refine N.exit_then ?_ | refine N.ret_then ?_ | refine N.ret_block ?_ | (apply N.exit_other; rfl) | refine T.ret ?_ | refine T.skip ?_ | refine T.exit ?_ | refine T.block ?_ | (apply T.cond_true; rfl) | (apply T.cond_false; rfl) | (apply T.test; rfl; (exact isx); intro _; rotate_left; intro _; rotate_right) | (apply TL.skip; rfl; rfl; rfl) | (apply TL.skip_none; rfl; rfl) | (apply TL.val; rfl; rfl; (first | exact vpure | exact vread)) | (apply TL.x; rfl; rfl; (first | exact xgrow | exact xput); intro _ _) | (apply TL.guard; rfl; rfl; rfl; (exact isx); intro _; rotate_left; intro _; rotate_right)))
  all_goals (try (first | (apply N.ret_bool; rfl; (exact rvx)) | (apply N.ret_int; rfl; (exact rvx)) | (apply N.ret_val; rfl; (exact rvx))))
  · have e : ((l.length : Int) - p.length).toNat = l.length - p.length := by omega
    rw [e]
    exact decide_eq_decide.2 (eq_comm.trans List.suffix_iff_eq_drop.symm)
  · rename_i h
    refine (decide_eq_false fun e => h ?_).symm
    have := e.length_le
    omega
theorem c_HasSuffix (l p : Bytes) (H : Hp) (w : World) (hs : Sat H w) (hl : LenOk l) (hp : LenOk p) : Calls Tryz.prog 111 #[strV l, strV p] w (Ret w (.bool (decide (p <:+ l)))) := by
  refine T.enter (vs := [strV l, strV p]) (H := H) Tryz.func111 rfl rfl rfl hs ?_
  repeat (any_goals (first | refine T.seq ?_ | refine T.region ?_ | refine TL.nil ?_ | refine N.next ?_ | refine N.inBlock ?_ | refine N.exit_same ?_ | refine N.exit_then ?_ | refine N.ret_then ?_ | refine N.ret_block ?_ | (apply N.exit_other; rfl) | refine T.ret ?_ | refine T.skip ?_ | refine T.exit ?_ | refine T.block ?_ | (apply T.cond_true; rfl) | (apply T.cond_false; rfl) | (apply T.test; rfl; (exact isx); intro _; rotate_left; intro _; rotate_right) | (apply TL.skip; rfl; rfl; rfl) | (apply TL.skip_none; rfl; rfl) | (apply TL.call0 (f := 150) Tryz.call150; rfl; rfl; rfl; (exact fun _ hs => c_HasSuffix0 _ _ _ _ hs.sat hl hp)) | (apply TL.val; rfl; rfl; (first | exact vpure | exact vread)) | (apply TL.x; rfl; rfl; (first | exact xgrow | exact xput); intro _ _) | (apply TL.guard; rfl; rfl; rfl; (exact isx); intro _; rotate_left; intro _; rotate_right)))
  all_goals (try (first | (apply N.ret_bool; rfl; (exact rvx)) | (apply N.ret_int; rfl; (exact rvx)) | (apply N.ret_val; rfl; (exact rvx))))
  rfl
theorem N.ret_two {m : Nat} {P : Program} {w0 : World} {H0 H : Hp} {L : List Loc} {env : List (Nat × Value)} {ro : Option Nat} {fn : Func} {r s : ResultVar} {v u : Value} {x : Value} (hr : fn.results = #[r, s]) (h1 : RV P ⟨m, [], ro⟩ w0 H0 env H L r v) (h2 : RV P ⟨m, [], ro⟩ w0 H0 env H L s u) (he : .tuple #[v, u] = x) : N ⟨m, [], ro⟩ w0 H0 (bodyPost P fn (Ret w0 x)) .ret env H L :=
  N.ret2 hr h1 h2 fun _ hs => ⟨by rw [he], hs.below⟩
/-- What 'Under' answers. -/
def underC (s z : Bytes) : Bool × Int := if nameOK s = true ∧ nameOK z = true then (underB s z, 0) else (false, 11)
theorem underC_val {l p : Bytes} {b : Bool} {e : Int} (h : underC l p = (b, e)) : Value.tuple #[.bool b, intV e] = .tuple #[.bool (underC l p).1, intV (underC l p).2] := by rw [h]
theorem c_Under (l p : Bytes) (H : Hp) (w : World) (hs : Sat H w) (hl : LenOk l) (hp : LenOk p) : Calls Tryz.prog 69 #[strV l, strV p] w (Ret w (.tuple #[.bool (underC l p).1, intV (underC l p).2])) := by
  have hl' : l.length ≤ 9223372036854775807 := hl
  have hp' : p.length ≤ 9223372036854775807 := hp
  refine T.enter (vs := [strV l, strV p]) (H := H) Tryz.func69 rfl rfl rfl hs ?_
  repeat (any_goals (first | refine T.seq ?_ | refine T.region ?_ | refine TL.nil ?_ | refine N.next ?_ | refine N.inBlock ?_ | refine N.exit_same ?_ | refine N.exit_then ?_ | refine N.ret_then ?_ | refine N.ret_block ?_ | (apply N.exit_other; rfl) | refine T.ret ?_ | refine T.skip ?_ | refine T.exit ?_ | refine T.block ?_ | (apply T.cond_true; rfl) | (apply T.cond_false; rfl) | (apply T.test; rfl; (exact isx); intro _; rotate_left; intro _; rotate_right) | (apply TL.skip; rfl; rfl; rfl) | (apply TL.skip_none; rfl; rfl) | (apply TL.call0 (f := 104) Tryz.call104; rfl; rfl; rfl; (exact fun _ hs => c_textValid _ _ _ hs.sat (by assumption))) | (apply TL.call0 (f := 111) Tryz.call111; rfl; rfl; rfl; (exact fun _ hs => c_HasSuffix _ _ _ _ hs.sat hl hp)) | (apply TL.val; rfl; rfl; (first | exact vpure | exact vread)) | (apply TL.x; rfl; rfl; (first | exact xgrow | exact xput); intro _ _) | (apply TL.guard; rfl; rfl; rfl; (exact isx); intro _; rotate_left; intro _; rotate_right)))
  all_goals (apply N.ret_two rfl (by (exact rvx)) (by (exact rvx)))
  all_goals refine underC_val ?_
  all_goals (try (have hh : ¬ p.length < l.length := by omega))
  all_goals (try (have hh : p.length < l.length := by omega))
  all_goals unfold underC underB
  all_goals (try (simp [*]; done))
  all_goals rw [if_pos ⟨by assumption, by assumption⟩]
  all_goals first
    | (rw [decide_eq_true (show p = [46] by assumption), Bool.or_true, Bool.true_or]; done)
    | (rw [decide_eq_false (show ¬ l = p by assumption), decide_eq_false (show ¬ p = [46] by assumption), decide_eq_true hh, decide_eq_true (show p <:+ l by assumption), show ((l.length : Int) - p.length - 1).toNat = l.length - p.length - 1 by omega]
       refine congrArg (fun b => (b, (0 : Int))) ?_
       simp only [Bool.false_or, Bool.true_and]
       exact decide_eq_decide.2 ⟨fun h => by rw [h]; rfl, fun h => UInt8.toNat_inj.1 (by show _ = 46; omega)⟩)
    | trace_state
end Go.Proofs.YtpnoabbdcakjkaaGreatDoor
namespace Go.Proofs.YtpnoabbdcakjkaaGreatDoor
set_option linter.unusedVariables false
set_option linter.unusedSimpArgs false
open Go Go.RowKit
set_option maxRecDepth 20000

end Go.Proofs.YtpnoabbdcakjkaaGreatDoor
namespace Go.Proofs.YtpnoabbdcakjkaaGreatDoor
set_option linter.unusedVariables false
set_option linter.unusedSimpArgs false
open Go Go.RowKit
set_option maxRecDepth 20000

end Go.Proofs.YtpnoabbdcakjkaaGreatDoor
namespace Go.Proofs.YtpnoabbdcakjkaaGreatDoor
set_option linter.unusedVariables false
set_option linter.unusedSimpArgs false
open Go Go.RowKit
set_option maxRecDepth 20000

end Go.Proofs.YtpnoabbdcakjkaaGreatDoor
