/- Walks: what a resolver knows: hints, names above, its map. -/
import Derived.Test.YtfbhcemlnojejaaDoorQTMap
import Derived.Test.YtfbhcemlnojejaaDoorQTP
import Derived.Test.YtfbhcemlnojejaaDoorQSpecI
import Derived.Test.YtfbhcemlnojejaaDoorQInt
import Derived.Laws.Externs
namespace Go.Proofs.YtfbhcemlnojejaaDoor
set_option linter.unusedVariables false
set_option linter.unusedSimpArgs false
open Go Go.RowKit
open Enc (enc)
set_option maxRecDepth 20000

section
variable {P : Program} {n : FK} {S : World → Prop} {env : List (Nat × Value)}
/-- A call of a function for which the model stands in. -/
theorem V.callExt {f : FuncId} {args : Array Operand} {tys : Array TypeId} {vs : List Value} {v : Value} (hargs : evs env args.toList = some vs) (hcall : ∀ w, (callFunc f vs.toArray).run P w = .ok (.value v) w) : V P n S env (.call { callee := .value (.func f), args := args, argTypes := tys }) v :=
  ⟨fun o a w ho hf _ => by
    have h1 := hf.evs hargs
    have : args.map a.eval = vs.toArray := by apply Array.toList_inj.1; simpa using h1
    unfold execOp
    rw [ho]
    simp [resolve, Act.eval, Deferred.ofValue, invoke, this, hcall]⟩
end
theorem firstIdx_dot {x r : Bytes} (h : ∀ c ∈ x, c ≠ 46) : firstIdx ⟨(x ++ 46 :: r).toArray⟩ 46 = (x.length : Int) := by
  unfold firstIdx
  have : (List.range (⟨(x ++ 46 :: r).toArray⟩ : ByteArray).size).find? (fun i => (⟨(x ++ 46 :: r).toArray⟩ : ByteArray)[i]! == 46) = some x.length := by
    rw [List.find?_range_eq_some]
    have hs : (⟨(x ++ 46 :: r).toArray⟩ : ByteArray).size = x.length + (r.length + 1) := by simp [ByteArray.size]
    have hg : ∀ i, i < x.length + (r.length + 1) → (⟨(x ++ 46 :: r).toArray⟩ : ByteArray)[i]! = (x ++ 46 :: r).getD i 0 := fun i hi => by
      rw [getElem!_pos _ _ (by rw [hs]; exact hi)]
      simp [ByteArray.getElem_eq_getElem_data, List.getD_eq_getElem?_getD]
      rw [List.getElem?_eq_getElem (by simp; omega)]; rfl
    refine ⟨?_, by rw [hs, List.mem_range]; omega, fun j hj => ?_⟩
    · rw [hg _ (by omega)]; simp
    · rw [hg _ (by omega)]
      simp only [List.getD_eq_getElem?_getD, List.getElem?_append_left hj, List.getElem?_eq_getElem hj, Option.getD_some]
      simpa using h _ (List.getElem_mem hj)
  rw [this]
theorem firstIdx_no {x : Bytes} (h : ∀ c ∈ x, c ≠ 46) : firstIdx ⟨x.toArray⟩ 46 = -1 := by
  unfold firstIdx
  have : (List.range (⟨x.toArray⟩ : ByteArray).size).find? (fun i => (⟨x.toArray⟩ : ByteArray)[i]! == 46) = none := by
    rw [List.find?_range_eq_none]
    intro i hi
    have hi' : i < x.length := by simpa [ByteArray.size] using hi
    rw [getElem!_pos _ _ (by simpa [ByteArray.size] using hi')]
    simpa [ByteArray.getElem_eq_getElem_data] using h _ (List.getElem_mem hi')
  rw [this]
theorem extIndex (l : Bytes) (w : World) : (callFunc 156 [strV l, .int .u8 46].toArray).run Tryd.prog w = .ok (.value (intV (firstIdx ⟨l.toArray⟩ 46))) w := by
  rw [run_callFunc_extern (e := Extern.BytealgIndexByte.indexByte) Tryd.func156 (by rfl) (by rfl) (by rfl) (by rfl)]
  rw [run_indexByte_string]
  rfl
theorem c_IndexByte (l : Bytes) {i : Int} (hi : firstIdx ⟨l.toArray⟩ 46 = i) {H : Hp} {w : World} (hs : Sat H w) : Calls Tryd.prog 140 #[strV l, .int .u8 46] w (Ret w (intV i)) := by
  have h0 : ∀ {w : World}, Sat H w → Calls Tryd.prog 151 #[strV l, .int .u8 46] w (Ret w (intV i)) := fun {w} hs => by
    refine T.enter (vs := [strV l, .int .u8 46]) (H := H) Tryd.func151 rfl rfl rfl hs ?_
    repeat (any_goals (first | refine T.seq ?_ | refine T.region ?_ | refine TL.nil ?_ | refine N.next ?_ | refine N.inBlock ?_ | refine N.exit_same ?_ | refine N.exit_then ?_ | refine N.ret_then ?_ | refine N.ret_block ?_ | (apply N.exit_other; rfl) | refine T.ret ?_ | refine T.skip ?_ | refine T.exit ?_ | refine T.block ?_ | (apply T.cond_true; rfl) | (apply T.cond_false; rfl) | (apply T.test; rfl; (with_reducible (first | exact Is.ndec | exact Is.dec | exact Is.not | ((fail_if_success exact Is.litT); (fail_if_success exact Is.litF); exact Is.base))); intro _; rotate_left; intro _; rotate_right) | (apply TL.skip; rfl; rfl; rfl) | (apply TL.skip_none; rfl; rfl) | (apply TL.val; rfl; rfl; (apply V.callExt; rfl; exact extIndex l)) | (apply TL.val; rfl; rfl; (first | exact vpure | exact vread)) | (apply TL.x; rfl; rfl; (first | exact xgrow | exact xput); intro _ _) | (apply TL.guard; rfl; rfl; rfl; (with_reducible (first | exact Is.ndec | exact Is.dec | exact Is.not | ((fail_if_success exact Is.litT); (fail_if_success exact Is.litF); exact Is.base))); intro _; rotate_left; intro _; rotate_right)))
    exact N.ret_int rfl (by (exact rvx)) hi
  refine T.enter (vs := [strV l, .int .u8 46]) (H := H) Tryd.func140 rfl rfl rfl hs ?_
  repeat (any_goals (first | refine T.seq ?_ | refine T.region ?_ | refine TL.nil ?_ | refine N.next ?_ | refine N.inBlock ?_ | refine N.exit_same ?_ | refine N.exit_then ?_ | refine N.ret_then ?_ | refine N.ret_block ?_ | (apply N.exit_other; rfl) | refine T.ret ?_ | refine T.skip ?_ | refine T.exit ?_ | refine T.block ?_ | (apply T.cond_true; rfl) | (apply T.cond_false; rfl) | (apply T.test; rfl; (with_reducible (first | exact Is.ndec | exact Is.dec | exact Is.not | ((fail_if_success exact Is.litT); (fail_if_success exact Is.litF); exact Is.base))); intro _; rotate_left; intro _; rotate_right) | (apply TL.skip; rfl; rfl; rfl) | (apply TL.skip_none; rfl; rfl) | (apply TL.callE (f := 151) [strV l, .int .u8 46] Tryd.call151; rfl; rfl; rfl; rfl; (exact fun _ hs => h0 hs.sat)) | (apply TL.val; rfl; rfl; (first | exact vpure | exact vread)) | (apply TL.x; rfl; rfl; (first | exact xgrow | exact xput); intro _ _) | (apply TL.guard; rfl; rfl; rfl; (with_reducible (first | exact Is.ndec | exact Is.dec | exact Is.not | ((fail_if_success exact Is.litT); (fail_if_success exact Is.litF); exact Is.base))); intro _; rotate_left; intro _; rotate_right)))
  exact N.ret_int rfl (by (exact rvx)) rfl
theorem glue_root {m : List Bytes} (h : labsOK m = true) : glueC m = [46] ↔ m = [] := by
  constructor
  · intro e
    have := join_parts h
    rw [e] at this
    rw [← this]; decide
  · rintro rfl; rfl
theorem glue_cons {x : Bytes} {m : List Bytes} (hm : m ≠ []) : glueC (x :: m) = x ++ 46 :: glueC m := by
  unfold glueC
  rw [if_neg (by simp), if_neg hm, joinD_cons hm]
theorem labs_head {x : Bytes} {m : List Bytes} (h : labsOK (x :: m) = true) : ∀ c ∈ x, c ≠ 46 := labs_nodot h x (List.mem_cons_self ..)
theorem c_Parent {x : Bytes} {m : List Bytes} (h : labsOK (x :: m) = true) (hn : nameOK (glueC (x :: m)) = true) {H : Hp} {w : World} (hs : Sat H w) : Calls Tryd.prog 124 #[strV (glueC (x :: m))] w (Ret w (.tuple #[strV (glueC m), intV 0])) := by
  have hl : LenOk (glueC (x :: m)) := Nat.le_trans (nameOK_le hn) (by decide)
  have hr : glueC (x :: m) ≠ [46] := fun e => by have := (glue_root h).1 e; cases this
  refine T.enter (vs := [strV (glueC (x :: m))]) (H := H) Tryd.func124 rfl rfl rfl hs ?_
  by_cases hm : m = []
  · subst hm
    have hi : firstIdx ⟨(glueC [x]).toArray⟩ 46 = -1 := by
      have : glueC [x] = x := by unfold glueC; rw [if_neg (by simp)]; rfl
      rw [this]; exact firstIdx_no (labs_head h)
    repeat (any_goals (first | refine T.seq ?_ | refine T.region ?_ | refine TL.nil ?_ | refine N.next ?_ | refine N.inBlock ?_ | refine N.exit_same ?_ | refine N.exit_then ?_ | refine N.ret_then ?_ | refine N.ret_block ?_ | (apply N.exit_other; rfl) | refine T.ret ?_ | refine T.skip ?_ | refine T.exit ?_ | refine T.block ?_ | (apply T.cond_true; rfl) | (apply T.cond_false; rfl) | (apply T.test; rfl; (with_reducible (first | exact Is.ndec | exact Is.dec | exact Is.not | ((fail_if_success exact Is.litT); (fail_if_success exact Is.litF); exact Is.base))); intro _; rotate_left; intro _; rotate_right) | (apply TL.skip; rfl; rfl; rfl) | (apply TL.skip_none; rfl; rfl) | (apply TL.callE (f := 96) [strV (glueC [x])] Tryd.call96; rfl; rfl; rfl; rfl; (exact fun _ hs => hn ▸ c_textValid _ _ _ hs.sat hl)) | (apply TL.callE (f := 140) [strV (glueC [x]), .int .u8 46] Tryd.call140; rfl; rfl; rfl; rfl; (exact fun _ hs => c_IndexByte _ hi hs.sat)) | (apply TL.val; rfl; rfl; (first | exact vpure | exact vread)) | (apply TL.x; rfl; rfl; (first | exact xgrow | exact xput); intro _ _) | (apply TL.guard; rfl; rfl; rfl; (with_reducible (first | exact Is.ndec | exact Is.dec | exact Is.not | ((fail_if_success exact Is.litT); (fail_if_success exact Is.litF); exact Is.base))); intro _; rotate_left; intro _; rotate_right)))
    all_goals (try contradiction)
    exact N.ret_two rfl (by (exact rvx)) (by (exact rvx)) rfl
  · have hi : firstIdx ⟨(glueC (x :: m)).toArray⟩ 46 = (x.length : Int) := by
      rw [glue_cons hm]; exact firstIdx_dot (labs_head h)
    have hg := glue_cons (x := x) hm
    have hl2 : (glueC (x :: m)).length = x.length + ((glueC m).length + 1) := by rw [hg]; simp
    have hl3 : (glueC (x :: m)).length ≤ 60 := nameOK_le hn
    repeat (any_goals (first | refine T.seq ?_ | refine T.region ?_ | refine TL.nil ?_ | refine N.next ?_ | refine N.inBlock ?_ | refine N.exit_same ?_ | refine N.exit_then ?_ | refine N.ret_then ?_ | refine N.ret_block ?_ | (apply N.exit_other; rfl) | refine T.ret ?_ | refine T.skip ?_ | refine T.exit ?_ | refine T.block ?_ | (apply T.cond_true; rfl) | (apply T.cond_false; rfl) | (apply T.test; rfl; (with_reducible (first | exact Is.ndec | exact Is.dec | exact Is.not | ((fail_if_success exact Is.litT); (fail_if_success exact Is.litF); exact Is.base))); intro _; rotate_left; intro _; rotate_right) | (apply TL.skip; rfl; rfl; rfl) | (apply TL.skip_none; rfl; rfl) | (apply TL.callE (f := 96) [strV (glueC (x :: m))] Tryd.call96; rfl; rfl; rfl; rfl; (exact fun _ hs => hn ▸ c_textValid _ _ _ hs.sat hl)) | (apply TL.callE (f := 140) [strV (glueC (x :: m)), .int .u8 46] Tryd.call140; rfl; rfl; rfl; rfl; (exact fun _ hs => c_IndexByte _ hi hs.sat)) | (apply TL.val; rfl; rfl; (apply V.scutL (a := x.length + 1); rfl; rfl; rfl; rfl; rfl; omega)) | (apply TL.val; rfl; rfl; (first | exact vpure | exact vread)) | (apply TL.x; rfl; rfl; (first | exact xgrow | exact xput); intro _ _) | (apply TL.guard; rfl; rfl; rfl; (with_reducible (first | exact Is.ndec | exact Is.dec | exact Is.not | ((fail_if_success exact Is.litT); (fail_if_success exact Is.litF); exact Is.base))); intro _; rotate_left; intro _; rotate_right)))
    all_goals (try contradiction)
    all_goals (try (exfalso; omega))
    refine N.ret_two rfl (by (exact rvx)) (by (exact rvx)) ?_
    rw [hg]
    simp
theorem c_hints1 (x : Int) (H : Hp) (w : World) (hs : Sat H w) : Calls Tryd.prog 111 #[intV x] w (Ret w (.bool (!decide (1 ≤ x ∧ x ≤ 1000000)))) := by
  refine T.enter (vs := [intV x]) (H := H) Tryd.func111 rfl rfl rfl hs ?_
  repeat (any_goals (first | refine T.seq ?_ | refine T.region ?_ | refine TL.nil ?_ | refine N.next ?_ | refine N.inBlock ?_ | refine N.exit_same ?_ | refine N.exit_then ?_ | refine N.ret_then ?_ | refine N.ret_block ?_ | (apply N.exit_other; rfl) | refine T.ret ?_ | refine T.skip ?_ | refine T.exit ?_ | refine T.block ?_ | (apply T.cond_true; rfl) | (apply T.cond_false; rfl) | (apply T.test; rfl; (with_reducible (first | exact Is.ndec | exact Is.dec | exact Is.not | ((fail_if_success exact Is.litT); (fail_if_success exact Is.litF); exact Is.base))); intro _; rotate_left; intro _; rotate_right) | (apply TL.skip; rfl; rfl; rfl) | (apply TL.skip_none; rfl; rfl) | (apply TL.val; rfl; rfl; (first | exact vpure | exact vread)) | (apply TL.x; rfl; rfl; (first | exact xgrow | exact xput); intro _ _) | (apply TL.guard; rfl; rfl; rfl; (with_reducible (first | exact Is.ndec | exact Is.dec | exact Is.not | ((fail_if_success exact Is.litT); (fail_if_success exact Is.litF); exact Is.base))); intro _; rotate_left; intro _; rotate_right)))
  all_goals (try (first | (apply N.ret_bool; rfl; (exact rvx)) | (apply N.ret_int; rfl; (exact rvx)) | (apply N.ret_val; rfl; (exact rvx))))
  all_goals (rw [Bool.eq_iff_iff]; simp only [decide_eq_true_eq, Bool.not_eq_true', decide_eq_false_iff_not, Bool.false_eq_true, Bool.true_eq_false, true_iff, false_iff, iff_true, iff_false]; omega)
theorem c_IndexHint (s : Slc Int) (H : Hp) (w : World) (hs : Sat H w) (hg : s.Good H) : Calls Tryd.prog 135 #[s.v, .func (.func 111) #[] #[]] w (Ret w (intV (idxI (fun x => !decide (1 ≤ x ∧ x ≤ 1000000)) s.els))) := by
  have hlen : s.els.length = s.len := hg.len
  have hlim := hg.lim
  refine T.enter (vs := [s.v, .func (.func 111) #[] #[]]) (H := H) Tryd.func135 rfl rfl rfl hs ?_
  repeat (any_goals (first | refine T.seq ?_ | refine T.region ?_ | refine TL.nil ?_ | refine N.next ?_ | refine N.inBlock ?_ | refine N.exit_same ?_ | refine N.exit_then ?_ | refine N.ret_then ?_ | refine N.ret_block ?_ | (apply N.exit_other; rfl) | refine T.ret ?_ | refine T.skip ?_ | refine T.exit ?_ | refine T.block ?_ | (apply T.cond_true; rfl) | (apply T.cond_false; rfl) | (apply T.test; rfl; (with_reducible (first | exact Is.ndec | exact Is.dec | exact Is.not | ((fail_if_success exact Is.litT); (fail_if_success exact Is.litF); exact Is.base))); intro _; rotate_left; intro _; rotate_right) | (apply TL.skip; rfl; rfl; rfl) | (apply TL.skip_none; rfl; rfl) | (apply TL.val; rfl; rfl; (first | exact vpure | exact vread)) | (apply TL.x; rfl; rfl; (first | exact xgrow | exact xput); intro _ _) | (apply TL.guard; rfl; rfl; rfl; (with_reducible (first | exact Is.ndec | exact Is.dec | exact Is.not | ((fail_if_success exact Is.litT); (fail_if_success exact Is.litF); exact Is.base))); intro _; rotate_left; intro _; rotate_right)))
  refine T.loop (G := Nat) (fun k => [(0, s.v), (1, .func (.func 111) #[] #[]), (7, intV s.len), (8, intV k)]) (fun _ => H) (fun _ => []) (fun k => k ≤ s.len ∧ AllTo (fun x => decide (1 ≤ x ∧ x ≤ 1000000)) s.els k) (fun k => s.len - k) 0 ⟨Nat.zero_le _, allTo_zero⟩ (by (repeat (first | exact True.intro | refine ⟨rfl, ?_⟩ | refine Sub.int rfl (by omega) ?_))) rfl (by (first | exact List.Sublist.refl _ | exact List.nil_sublist _ | exact List.Sublist.cons _ (List.Sublist.refl _) | exact List.Sublist.cons _ (List.Sublist.cons _ (List.Sublist.refl _)))) ?_
  rintro k ⟨hk, hrel⟩
  repeat (any_goals (first | refine T.seq ?_ | refine T.region ?_ | refine TL.nil ?_ | refine N.next ?_ | refine N.inBlock ?_ | refine N.exit_same ?_ | refine N.exit_then ?_ | refine N.ret_then ?_ | refine N.ret_block ?_ | (apply N.exit_other; rfl) | refine T.ret ?_ | refine T.skip ?_ | refine T.exit ?_ | refine T.block ?_ | (apply T.cond_true; rfl) | (apply T.cond_false; rfl) | (apply T.test; rfl; (with_reducible (first | exact Is.ndec | exact Is.dec | exact Is.not | ((fail_if_success exact Is.litT); (fail_if_success exact Is.litF); exact Is.base))); intro _; rotate_left; intro _; rotate_right) | (apply TL.skip; rfl; rfl; rfl) | (apply TL.skip_none; rfl; rfl) | (apply TL.call; rfl; rfl; rfl; rfl; exact Tryd.call111; exact fun _ hs => c_hints1 _ _ _ hs.sat) | (apply TL.val; rfl; rfl; (first | exact vpure | exact vread)) | (apply TL.x; rfl; rfl; (first | exact xgrow | exact xput); intro _ _) | (apply TL.guard; rfl; rfl; rfl; (with_reducible (first | exact Is.ndec | exact Is.dec | exact Is.not | ((fail_if_success exact Is.litT); (fail_if_success exact Is.litF); exact Is.base))); intro _; rotate_left; intro _; rotate_right)))
  all_goals (try (apply N.ret_int; rfl; (exact rvx)))
  all_goals (try (refine N.round (k + 1) ?_ ?_ ?_ ?_ ?_; rotate_left 2; (repeat (first | exact True.intro | refine ⟨rfl, ?_⟩ | refine Sub.int rfl (by omega) ?_)); rfl; (first | exact List.Sublist.refl _ | exact List.nil_sublist _ | exact List.Sublist.cons _ (List.Sublist.refl _) | exact List.Sublist.cons _ (List.Sublist.cons _ (List.Sublist.refl _)))))
  all_goals first
    | omega
    | exact ⟨by omega, allTo_up (by omega) hrel (decide_eq_true (by assumption))⟩
    | exact (idxI_at (by omega) (by simp only [Bool.not_eq_true', decide_eq_false_iff_not]; assumption) (fun j hj => by have h' := hrel j (by omega) hj; simp only at h'; simp [h'])).symm
    | exact (idxI_none (fun j hj => by have h' := hrel j hj (by omega); simp only at h'; simp [h'])).symm
theorem c_hintsOK (s : Slc Int) (H : Hp) (w : World) (hs : Sat H w) (hg : s.Good H) : Calls Tryd.prog 80 #[s.v] w (Ret w (.bool (hintsC s.els))) := by
  have hlen : s.els.length = s.len := hg.len
  have hlim := hg.lim
  have hC : ∀ {w : World}, Sat H w → Calls Tryd.prog 110 #[s.v, .func (.func 111) #[] #[]] w (Ret w (.bool (s.els.any fun x => !decide (1 ≤ x ∧ x ≤ 1000000)))) := fun {w} hs => by
    refine T.enter (vs := [s.v, .func (.func 111) #[] #[]]) (H := H) Tryd.func110 rfl rfl rfl hs ?_
    repeat (any_goals (first | refine T.seq ?_ | refine T.region ?_ | refine TL.nil ?_ | refine N.next ?_ | refine N.inBlock ?_ | refine N.exit_same ?_ | refine N.exit_then ?_ | refine N.ret_then ?_ | refine N.ret_block ?_ | (apply N.exit_other; rfl) | refine T.ret ?_ | refine T.skip ?_ | refine T.exit ?_ | refine T.block ?_ | (apply T.cond_true; rfl) | (apply T.cond_false; rfl) | (apply T.test; rfl; (with_reducible (first | exact Is.ndec | exact Is.dec | exact Is.not | ((fail_if_success exact Is.litT); (fail_if_success exact Is.litF); exact Is.base))); intro _; rotate_left; intro _; rotate_right) | (apply TL.skip; rfl; rfl; rfl) | (apply TL.skip_none; rfl; rfl) | (apply TL.callE (f := 135) [s.v, .func (.func 111) #[] #[]] Tryd.call135; rfl; rfl; rfl; rfl; (exact fun _ hs => c_IndexHint s _ _ hs.sat hg)) | (apply TL.val; rfl; rfl; (first | exact vpure | exact vread)) | (apply TL.x; rfl; rfl; (first | exact xgrow | exact xput); intro _ _) | (apply TL.guard; rfl; rfl; rfl; (with_reducible (first | exact Is.ndec | exact Is.dec | exact Is.not | ((fail_if_success exact Is.litT); (fail_if_success exact Is.litF); exact Is.base))); intro _; rotate_left; intro _; rotate_right)))
    all_goals (try (first | (apply N.ret_bool; rfl; (exact rvx)) | (apply N.ret_int; rfl; (exact rvx)) | (apply N.ret_val; rfl; (exact rvx))))
    exact idxI_ge _ _
  refine T.enter (vs := [s.v]) (H := H) Tryd.func80 rfl rfl rfl hs ?_
  repeat (any_goals (first | refine T.seq ?_ | refine T.region ?_ | refine TL.nil ?_ | refine N.next ?_ | refine N.inBlock ?_ | refine N.exit_same ?_ | refine N.exit_then ?_ | refine N.ret_then ?_ | refine N.ret_block ?_ | (apply N.exit_other; rfl) | refine T.ret ?_ | refine T.skip ?_ | refine T.exit ?_ | refine T.block ?_ | (apply T.cond_true; rfl) | (apply T.cond_false; rfl) | (apply T.test; rfl; (with_reducible (first | exact Is.ndec | exact Is.dec | exact Is.not | ((fail_if_success exact Is.litT); (fail_if_success exact Is.litF); exact Is.base))); intro _; rotate_left; intro _; rotate_right) | (apply TL.skip; rfl; rfl; rfl) | (apply TL.skip_none; rfl; rfl) | (apply TL.callE (f := 110) [s.v, .func (.func 111) #[] #[]] Tryd.call110; rfl; rfl; rfl; rfl; (exact fun _ hs => hC hs.sat)) | (apply TL.val; rfl; rfl; (first | exact vpure | exact vread)) | (apply TL.x; rfl; rfl; (first | exact xgrow | exact xput); intro _ _) | (apply TL.guard; rfl; rfl; rfl; (with_reducible (first | exact Is.ndec | exact Is.dec | exact Is.not | ((fail_if_success exact Is.litT); (fail_if_success exact Is.litF); exact Is.base))); intro _; rotate_left; intro _; rotate_right)))
  all_goals (try (first | (apply N.ret_bool; rfl; (exact rvx)) | (apply N.ret_int; rfl; (exact rvx)) | (apply N.ret_val; rfl; (exact rvx))))
  all_goals (unfold hintsC)
  all_goals first
    | (rw [decide_eq_false (by omega)]; rfl)
    | (rw [decide_eq_true (by omega), any_not]; simp)
structure MapOf (H : Hp) (b : Nat) (K : List Signed) : Prop where
  obj : ∃ l : List (Question × Value), H b = some (mObj qV l) ∧ ∀ q, aGet q l = (findS K q.name q.typ).map fun s => .agg (enc s).toArray
  good : ∀ x ∈ K, Enc.good H x
theorem MapOf.mono {H H' : Hp} (hle : H.le H') {b : Nat} {K : List Signed} (h : MapOf H b K) : MapOf H' b K :=
  ⟨h.obj.imp fun _ hl => ⟨hle _ _ hl.1, hl.2⟩, fun x hx => Enc.mono hle (h.good x hx)⟩
/-- What a resolver knows. -/
structure Res where
  mb : Nat
  hints : Slc Int
  K : List Signed
instance : Enc Res where
  size := 2
  enc r := [.map (some r.mb), .slice r.hints.A r.hints.len r.hints.cap]
  good H r := MapOf H r.mb r.K ∧ r.hints.Good H
  len _ := rfl
  mono hle h := ⟨h.1.mono hle, h.2.mono hle⟩
  one _ := rfl
  pos := by decide
theorem aGet_put {κ : Type} [DecidableEq κ] {a b : κ} {v : Value} : ∀ {l : List (κ × Value)}, aGet a l = none → aGet b (aPut a v l) = if b = a then some v else aGet b l := by
  intro l h
  have hn : aFind a l 0 = none := by
    unfold aGet at h
    cases hf : aFind a l 0 with
    | none => rfl
    | some p => rw [hf] at h; cases h
  have key : ∀ (l : List (κ × Value)) (i : Nat), aFind b (l ++ [(a, v)]) i = (aFind b l i).or (if b = a then some (i + l.length, v) else none) := by
    intro l
    induction l with
    | nil => intro i; simp [aFind]
    | cons p l ih =>
      intro i
      obtain ⟨k, u⟩ := p
      simp only [List.cons_append, aFind]
      by_cases e : b = k
      · simp [e]
      · rw [if_neg e, if_neg e, ih]
        simp [Nat.add_comm, Nat.add_left_comm]
  unfold aPut
  rw [hn]
  simp only [aGet, key]
  by_cases e : b = a
  · subst e; simp [hn]
  · simp [e]
theorem findS_snoc (K : List Signed) (s : Signed) (n : Bytes) (t : Int) : findS (K ++ [s]) n t = (findS K n t).or (if s.set.name = n ∧ s.set.typ = t then some s else none) := by
  unfold findS
  rw [List.find?_append]
  congr 1
  simp only [List.find?_cons, List.find?_nil]
  by_cases h : s.set.name = n ∧ s.set.typ = t
  · rw [if_pos h]; simp [isSet, Signed.c, RSet.c, h.1, h.2]
  · rw [if_neg h]
    have : isSet n t s.c = false := by
      rw [Bool.eq_false_iff]
      intro hc
      simp only [isSet, Signed.c, RSet.c, Bool.and_eq_true, decide_eq_true_eq] at hc
      exact h ⟨of_decide_eq_true hc.1, of_decide_eq_true hc.2⟩
    rw [this]
set_option maxHeartbeats 2000000 in
theorem c_gatherG (known : Slc Signed) (H : Hp) (w : World) (hs : Sat H w) (hR : Rules H) (hk : known.Good H) : Calls Tryd.prog 79 #[known.v] w (fun e w' => (knownOK (known.els.map Signed.c) = true ∧ RetF w H (fun p : Hp × Nat => MapOf p.1 p.2 known.els) (fun p => .tuple #[.map (some p.2), .bool true]) (fun p => p.1) e w') ∨ (knownOK (known.els.map Signed.c) = false ∧ Ret w (.tuple #[.map none, .bool false]) e w')) := by
  have hlen := hk.len
  have hlim := hk.lim
  refine T.enter (vs := [known.v]) (H := H) Tryd.func79 rfl rfl rfl hs ?_
  have hbad : ∀ j (h : j < known.els.length), setOK known.els[j].set.c = false → knownOK (known.els.map Signed.c) = false := fun j h hb => by
    unfold knownOK
    rw [show ((known.els.map Signed.c).all fun s => setOK s.set) = false from List.all_eq_false.2 ⟨_, List.mem_map_of_mem (List.getElem_mem h), by rw [Bool.not_eq_true]; exact hb⟩, Bool.and_false]
  repeat (any_goals (first | refine T.seq ?_ | refine T.region ?_ | refine TL.nil ?_ | refine N.next ?_ | refine N.inBlock ?_ | refine N.exit_same ?_ | refine N.exit_then ?_ | refine N.ret_then ?_ | refine N.ret_block ?_ | (apply N.exit_other; rfl) | refine T.ret ?_ | refine T.skip ?_ | refine T.exit ?_ | refine T.block ?_ | (apply T.cond_true; rfl) | (apply T.cond_false; rfl) | (apply T.test; rfl; (with_reducible (first | exact Is.ndec | exact Is.dec | exact Is.not | ((fail_if_success exact Is.litT); (fail_if_success exact Is.litF); exact Is.base))); intro _; rotate_left; intro _; rotate_right) | (apply TL.skip; rfl; rfl; rfl) | (apply TL.skip_none; rfl; rfl) | (apply TL.x; rfl; rfl; (apply X.makeMap qV; rfl); intro _ _) | (apply TL.val; rfl; rfl; (first | exact vpure | exact vread)) | (apply TL.x; rfl; rfl; (first | exact xgrow | exact xput); intro _ _) | (apply TL.guard; rfl; rfl; rfl; (with_reducible (first | exact Is.ndec | exact Is.dec | exact Is.not | ((fail_if_success exact Is.litT); (fail_if_success exact Is.litF); exact Is.base))); intro _; rotate_left; intro _; rotate_right)))
  · rename_i h
    refine N.ret2 rfl (by (exact rvx)) (by (exact rvx)) fun w hst => .inr ⟨?_, rfl, hst.below⟩
    unfold knownOK
    rw [decide_eq_false (by rw [List.length_map]; omega), Bool.false_and]
  · rename_i hle b _
    refine T.loop (G := Nat × List (Question × Value)) (fun g => [(4, .map (some b)), (14, known.v), (15, intV known.len), (16, intV g.1)]) (fun _ => H) (fun g => [.any b (mObj qV g.2)]) (fun g => g.1 ≤ known.len ∧ (∀ j (h : j < known.els.length), j < g.1 → setOK known.els[j].set.c = true) ∧ ∀ q, aGet q g.2 = (findS (known.els.take g.1) q.name q.typ).map fun s => .agg (enc s).toArray) (fun g => known.len - g.1) (0, []) ⟨Nat.zero_le _, fun j _ h => by omega, fun _ => rfl⟩ (by (repeat (first | exact True.intro | refine ⟨rfl, ?_⟩ | refine Sub.int rfl (by omega) ?_))) rfl (List.Sublist.refl _) ?_
    rintro ⟨k, l⟩ ⟨hk1, hok, hget⟩
    simp only at hk1 hok hget ⊢
    by_cases hlt : k < known.len
    · have hkl : k < known.els.length := by omega
      have hgx := hk.els _ (List.getElem_mem hkl)
      obtain ⟨v, hv⟩ : ∃ v, setOK (known.els[k]'hkl).set.c = v := ⟨_, rfl⟩
      have hq : ∀ q : Question, ((known.els[k]'hkl).set.name = q.name ∧ (known.els[k]'hkl).set.typ = q.typ) ↔ q = ⟨(known.els[k]'hkl).set.name, (known.els[k]'hkl).set.typ⟩ := fun q => by
        cases q; simp [eq_comm]
      have hok' : v = true → ∀ j (h : j < known.els.length), j < k + 1 → setOK known.els[j].set.c = true := fun ht j hj hjk => by
        by_cases e : j = k
        · subst e; rw [hv]; exact ht
        · exact hok j hj (by omega)
      obtain ⟨f, hf0⟩ : ∃ f, findS (known.els.take k) (known.els[k]'hkl).set.name (known.els[k]'hkl).set.typ = f := ⟨_, rfl⟩
      have hf := hget ⟨(known.els[k]'hkl).set.name, (known.els[k]'hkl).set.typ⟩
      rw [show findS (known.els.take k) (⟨(known.els[k]'hkl).set.name, (known.els[k]'hkl).set.typ⟩ : Question).name (⟨(known.els[k]'hkl).set.name, (known.els[k]'hkl).set.typ⟩ : Question).typ = f from hf0] at hf
      have htk : ∀ q : Question, findS (known.els.take (k + 1)) q.name q.typ = (findS (known.els.take k) q.name q.typ).or (if q = ⟨(known.els[k]'hkl).set.name, (known.els[k]'hkl).set.typ⟩ then some (known.els[k]'hkl) else none) := fun q => by
        rw [List.take_succ_eq_append_getElem hkl, findS_snoc]
        simp only [hq]
      cases v with
      | false =>
        repeat (any_goals (first | refine T.seq ?_ | refine T.region ?_ | refine TL.nil ?_ | refine N.next ?_ | refine N.inBlock ?_ | refine N.exit_same ?_ | refine N.exit_then ?_ | refine N.ret_then ?_ | refine N.ret_block ?_ | (apply N.exit_other; rfl) | refine T.ret ?_ | refine T.skip ?_ | refine T.exit ?_ | refine T.block ?_ | (apply T.cond_true; rfl) | (apply T.cond_false; rfl) | (apply T.test; rfl; (with_reducible (first | exact Is.ndec | exact Is.dec | exact Is.not | ((fail_if_success exact Is.litT); (fail_if_success exact Is.litF); exact Is.base))); intro _; rotate_left; intro _; rotate_right) | (apply TL.skip; rfl; rfl; rfl) | (apply TL.skip_none; rfl; rfl) | (apply TL.val; rfl; rfl; (apply V.build; rfl; rfl; rfl; rfl; rfl; rfl)) | (apply TL.x; rfl; rfl; (apply X.storeTo 0 (enc (known.els[k]'hkl)); rfl; rfl; rfl; rfl; rfl; rfl; rfl; rfl; rfl; rfl); intro _ _) | (apply TL.callE (f := 48) [.agg (enc (known.els[k]'hkl).set).toArray] Tryd.call48; rfl; rfl; rfl; rfl; (exact fun _ hs => hv ▸ c_recordValid (known.els[k]'hkl).set _ _ hs.sat hR hgx.1)) | (apply TL.val; rfl; rfl; (first | exact vpure | exact vread)) | (apply TL.x; rfl; rfl; (first | exact xgrow | exact xput); intro _ _) | (apply TL.guard; rfl; rfl; rfl; (with_reducible (first | exact Is.ndec | exact Is.dec | exact Is.not | ((fail_if_success exact Is.litT); (fail_if_success exact Is.litF); exact Is.base))); intro _; rotate_left; intro _; rotate_right)))
        all_goals (try contradiction)
        all_goals (try (exfalso; omega))
        exact N.ret2 rfl (by (exact rvx)) (by (exact rvx)) fun w hst => .inr ⟨hbad k hkl hv, rfl, hst.below⟩
      | true =>
        cases f with
        | none =>
          have hg1 : (aGet (⟨(known.els[k]'hkl).set.name, (known.els[k]'hkl).set.typ⟩ : Question) l).getD (.agg (enc signedNil).toArray) = .agg (enc signedNil).toArray := by rw [hf]; rfl
          have hg2 : (aGet (⟨(known.els[k]'hkl).set.name, (known.els[k]'hkl).set.typ⟩ : Question) l).isSome = false := by rw [hf]; rfl
          repeat (any_goals (first | refine T.seq ?_ | refine T.region ?_ | refine TL.nil ?_ | refine N.next ?_ | refine N.inBlock ?_ | refine N.exit_same ?_ | refine N.exit_then ?_ | refine N.ret_then ?_ | refine N.ret_block ?_ | (apply N.exit_other; rfl) | refine T.ret ?_ | refine T.skip ?_ | refine T.exit ?_ | refine T.block ?_ | (apply T.cond_true; rfl) | (apply T.cond_false; rfl) | (apply T.test; rfl; (with_reducible (first | exact Is.ndec | exact Is.dec | exact Is.not | ((fail_if_success exact Is.litT); (fail_if_success exact Is.litF); exact Is.base))); intro _; rotate_left; intro _; rotate_right) | (apply TL.skip; rfl; rfl; rfl) | (apply TL.skip_none; rfl; rfl) | (apply TL.val; rfl; rfl; (apply V.build; rfl; rfl; rfl; rfl; rfl; rfl)) | (apply TL.x; rfl; rfl; (apply X.storeTo 0 (enc (known.els[k]'hkl)); rfl; rfl; rfl; rfl; rfl; rfl; rfl; rfl; rfl; rfl); intro _ _) | (apply TL.callE (f := 48) [.agg (enc (known.els[k]'hkl).set).toArray] Tryd.call48; rfl; rfl; rfl; rfl; (exact fun _ hs => hv ▸ c_recordValid (known.els[k]'hkl).set _ _ hs.sat hR hgx.1)) | (apply TL.x; rfl; rfl; (apply X.storeTo 0 (enc (⟨(known.els[k]'hkl).set.name, (known.els[k]'hkl).set.typ⟩ : Question)); rfl; rfl; rfl; rfl; rfl; rfl; rfl; rfl; rfl; rfl); intro _ _) | (apply TL.val; rfl; rfl; (apply V.mlookupOkG (⟨(known.els[k]'hkl).set.name, (known.els[k]'hkl).set.typ⟩ : Question) (l := l); rfl; rfl; rfl; exact key_q; rfl; rfl; (exact lmem); exact hg1; exact hg2)) | (apply TL.x; rfl; rfl; (apply X.storeTo 0 (enc signedNil); rfl; rfl; rfl; rfl; rfl; rfl; rfl; rfl; rfl; rfl); intro _ _) | (apply TL.x; rfl; rfl; (apply X.mputG 3 (⟨(known.els[k]'hkl).set.name, (known.els[k]'hkl).set.typ⟩ : Question); rfl; rfl; exact key_q; rfl; rfl; rfl; rfl; rfl); intro _ _) | (apply TL.val; rfl; rfl; (first | exact vpure | exact vread)) | (apply TL.x; rfl; rfl; (first | exact xgrow | exact xput); intro _ _) | (apply TL.guard; rfl; rfl; rfl; (with_reducible (first | exact Is.ndec | exact Is.dec | exact Is.not | ((fail_if_success exact Is.litT); (fail_if_success exact Is.litF); exact Is.base))); intro _; rotate_left; intro _; rotate_right)))
          all_goals (try contradiction)
          all_goals (try (exfalso; omega))
          refine N.round (k + 1, aPut ⟨(known.els[k]'hkl).set.name, (known.els[k]'hkl).set.typ⟩ (.agg (enc (known.els[k]'hkl)).toArray) l) ⟨by show k + 1 ≤ _; omega, hok' rfl, fun q => ?_⟩ (by show known.len - (k + 1) < known.len - k; omega) (by (repeat (first | exact True.intro | refine ⟨rfl, ?_⟩ | refine Sub.int rfl (by omega) ?_))) rfl ?_
          · show aGet q (aPut _ _ l) = _
            rw [aGet_put hf, htk q]
            by_cases e : q = ⟨(known.els[k]'hkl).set.name, (known.els[k]'hkl).set.typ⟩
            · rw [if_pos e, if_pos e]
              subst e
              rw [hf0]; rfl
            · rw [if_neg e, if_neg e, Option.or_none]; exact hget q
          · exact List.Sublist.cons _ (List.Sublist.cons _ (List.Sublist.cons _ (List.Sublist.refl _)))
        | some s0 =>
          have hg1 : (aGet (⟨(known.els[k]'hkl).set.name, (known.els[k]'hkl).set.typ⟩ : Question) l).getD (.agg (enc signedNil).toArray) = .agg (enc s0).toArray := by rw [hf]; rfl
          have hg2 : (aGet (⟨(known.els[k]'hkl).set.name, (known.els[k]'hkl).set.typ⟩ : Question) l).isSome = true := by rw [hf]; rfl
          repeat (any_goals (first | refine T.seq ?_ | refine T.region ?_ | refine TL.nil ?_ | refine N.next ?_ | refine N.inBlock ?_ | refine N.exit_same ?_ | refine N.exit_then ?_ | refine N.ret_then ?_ | refine N.ret_block ?_ | (apply N.exit_other; rfl) | refine T.ret ?_ | refine T.skip ?_ | refine T.exit ?_ | refine T.block ?_ | (apply T.cond_true; rfl) | (apply T.cond_false; rfl) | (apply T.test; rfl; (with_reducible (first | exact Is.ndec | exact Is.dec | exact Is.not | ((fail_if_success exact Is.litT); (fail_if_success exact Is.litF); exact Is.base))); intro _; rotate_left; intro _; rotate_right) | (apply TL.skip; rfl; rfl; rfl) | (apply TL.skip_none; rfl; rfl) | (apply TL.val; rfl; rfl; (apply V.build; rfl; rfl; rfl; rfl; rfl; rfl)) | (apply TL.x; rfl; rfl; (apply X.storeTo 0 (enc (known.els[k]'hkl)); rfl; rfl; rfl; rfl; rfl; rfl; rfl; rfl; rfl; rfl); intro _ _) | (apply TL.callE (f := 48) [.agg (enc (known.els[k]'hkl).set).toArray] Tryd.call48; rfl; rfl; rfl; rfl; (exact fun _ hs => hv ▸ c_recordValid (known.els[k]'hkl).set _ _ hs.sat hR hgx.1)) | (apply TL.x; rfl; rfl; (apply X.storeTo 0 (enc (⟨(known.els[k]'hkl).set.name, (known.els[k]'hkl).set.typ⟩ : Question)); rfl; rfl; rfl; rfl; rfl; rfl; rfl; rfl; rfl; rfl); intro _ _) | (apply TL.val; rfl; rfl; (apply V.mlookupOkG (⟨(known.els[k]'hkl).set.name, (known.els[k]'hkl).set.typ⟩ : Question) (l := l); rfl; rfl; rfl; exact key_q; rfl; rfl; (exact lmem); exact hg1; exact hg2)) | (apply TL.x; rfl; rfl; (apply X.storeTo 0 (enc s0); rfl; rfl; rfl; rfl; rfl; rfl; rfl; rfl; rfl; rfl); intro _ _) | (apply TL.val; rfl; rfl; (first | exact vpure | exact vread)) | (apply TL.x; rfl; rfl; (first | exact xgrow | exact xput); intro _ _) | (apply TL.guard; rfl; rfl; rfl; (with_reducible (first | exact Is.ndec | exact Is.dec | exact Is.not | ((fail_if_success exact Is.litT); (fail_if_success exact Is.litF); exact Is.base))); intro _; rotate_left; intro _; rotate_right)))
          all_goals (try contradiction)
          all_goals (try (exfalso; omega))
          refine N.round (k + 1, l) ⟨by show k + 1 ≤ _; omega, hok' rfl, fun q => ?_⟩ (by show known.len - (k + 1) < known.len - k; omega) (by (repeat (first | exact True.intro | refine ⟨rfl, ?_⟩ | refine Sub.int rfl (by omega) ?_))) rfl ?_
          · show aGet q l = _
            rw [htk q, hget q]
            by_cases e : q = ⟨(known.els[k]'hkl).set.name, (known.els[k]'hkl).set.typ⟩
            · subst e
              rw [hf0]; rfl
            · rw [if_neg e, Option.or_none]
          · exact List.Sublist.cons _ (List.Sublist.cons _ (List.Sublist.cons _ (List.Sublist.refl _)))
    · repeat (any_goals (first | refine T.seq ?_ | refine T.region ?_ | refine TL.nil ?_ | refine N.next ?_ | refine N.inBlock ?_ | refine N.exit_same ?_ | refine N.exit_then ?_ | refine N.ret_then ?_ | refine N.ret_block ?_ | (apply N.exit_other; rfl) | refine T.ret ?_ | refine T.skip ?_ | refine T.exit ?_ | refine T.block ?_ | (apply T.cond_true; rfl) | (apply T.cond_false; rfl) | (apply T.test; rfl; (with_reducible (first | exact Is.ndec | exact Is.dec | exact Is.not | ((fail_if_success exact Is.litT); (fail_if_success exact Is.litF); exact Is.base))); intro _; rotate_left; intro _; rotate_right) | (apply TL.skip; rfl; rfl; rfl) | (apply TL.skip_none; rfl; rfl) | (apply TL.val; rfl; rfl; (first | exact vpure | exact vread)) | (apply TL.x; rfl; rfl; (first | exact xgrow | exact xput); intro _ _) | (apply TL.guard; rfl; rfl; rfl; (with_reducible (first | exact Is.ndec | exact Is.dec | exact Is.not | ((fail_if_success exact Is.litT); (fail_if_success exact Is.litF); exact Is.base))); intro _; rotate_left; intro _; rotate_right)))
      all_goals (try (exfalso; omega))
      refine N.ret2 rfl (by (exact rvx)) (by (exact rvx)) fun w hst => .inl ⟨?_, ?_⟩
      · unfold knownOK
        rw [decide_eq_true (by rw [List.length_map]; omega), Bool.true_and, List.all_eq_true]
        intro x hx
        obtain ⟨y, hy, rfl⟩ := List.mem_map.1 hx
        obtain ⟨j, hj, rfl⟩ := List.mem_iff_getElem.1 hy
        exact hok j hj (by omega)
      · have hb := (hst.ok _ (List.Mem.head _)).2
        have hf := hst.freeze rfl hb
        have hout := hst.out _ (List.Mem.head _) b rfl
        refine ⟨(H.put b (mObj qV l), b), ⟨⟨l, by show Hp.put H b (mObj qV l) b = _; unfold Hp.put; rw [if_pos rfl], fun q => ?_⟩, fun x hx => Enc.mono (Hp.put_le H _ hout) (hk.els x hx)⟩, rfl, hf.fresh⟩
        rw [hget q, List.take_of_length_le (by omega)]
end Go.Proofs.YtfbhcemlnojejaaDoor
namespace Go.Proofs.YtfbhcemlnojejaaDoor
set_option linter.unusedVariables false
set_option linter.unusedSimpArgs false
open Go Go.RowKit
open Enc (enc)
set_option maxRecDepth 20000

/-- The known set of a name and a type, or the empty one. -/
def getS (K : List Signed) (n : Bytes) (t : Int) : Signed := (findS K n t).getD signedNil
theorem getS_good {H : Hp} {r : Res} (hr : Enc.good H r) (n : Bytes) (t : Int) : Enc.good H (getS r.K n t) := by
  unfold getS
  cases h : findS r.K n t with
  | none => exact ⟨⟨by decide, by decide, by decide, Slc.nil_good⟩, Slc.nil_good⟩
  | some x => exact hr.1.good x (List.mem_of_find?_eq_some h)
theorem has_S (K : List Signed) (n : Bytes) (t : Int) : has (K.map Signed.c) n t = (findS K n t).isSome := by
  unfold has
  rw [findS_c]
  cases findS K n t <;> rfl
theorem c_iset (r : Res) (n : Bytes) (t : Int) (H : Hp) (w : World) (hs : Sat H w) (hr : Enc.good H r) : Calls Tryd.prog 82 #[.agg (enc r).toArray, strV n, intV t] w (Ret w (.tuple #[.agg (enc (getS r.K n t)).toArray, .bool (has (r.K.map Signed.c) n t)])) := by
  obtain ⟨l, hl, hget⟩ := hr.1.obj
  refine T.enter (vs := [.agg (enc r).toArray, strV n, intV t]) (H := H) Tryd.func82 rfl rfl rfl hs ?_
  have h1 : (aGet (⟨n, t⟩ : Question) l).getD (.agg (enc signedNil).toArray) = .agg (enc (getS r.K n t)).toArray := by
    rw [hget ⟨n, t⟩]
    unfold getS
    show (Option.map _ (findS r.K n t)).getD _ = _
    cases findS r.K n t <;> rfl
  have h2 : (aGet (⟨n, t⟩ : Question) l).isSome = has (r.K.map Signed.c) n t := by
    rw [hget ⟨n, t⟩, has_S]
    show (Option.map _ (findS r.K n t)).isSome = _
    cases findS r.K n t <;> rfl
  repeat (any_goals (first | refine T.seq ?_ | refine T.region ?_ | refine TL.nil ?_ | refine N.next ?_ | refine N.inBlock ?_ | refine N.exit_same ?_ | refine N.exit_then ?_ | refine N.ret_then ?_ | refine N.ret_block ?_ | (apply N.exit_other; rfl) | refine T.ret ?_ | refine T.skip ?_ | refine T.exit ?_ | refine T.block ?_ | (apply T.cond_true; rfl) | (apply T.cond_false; rfl) | (apply T.test; rfl; (with_reducible (first | exact Is.ndec | exact Is.dec | exact Is.not | ((fail_if_success exact Is.litT); (fail_if_success exact Is.litF); exact Is.base))); intro _; rotate_left; intro _; rotate_right) | (apply TL.skip; rfl; rfl; rfl) | (apply TL.skip_none; rfl; rfl) | (apply TL.val; rfl; rfl; (apply V.build; rfl; rfl; rfl; rfl; rfl; rfl)) | (apply TL.val; rfl; rfl; (apply V.mlookupOkH (⟨n, t⟩ : Question) (l := l); rfl; rfl; rfl; exact key_q; rfl; rfl; exact hl; exact h1; exact h2)) | (apply TL.x; rfl; rfl; (apply X.storeTo 0 (enc (getS r.K n t)); rfl; rfl; rfl; rfl; rfl; rfl; rfl; rfl; rfl; rfl); intro _ _) | (apply TL.x; rfl; rfl; (apply X.storeTo 1 (enc (getS r.K n t)); rfl; rfl; rfl; rfl; rfl; rfl; rfl; rfl; rfl; rfl); intro _ _) | (apply TL.val; rfl; rfl; (first | exact vpure | exact vread)) | (apply TL.x; rfl; rfl; (first | exact xgrow | exact xput); intro _ _) | (apply TL.guard; rfl; rfl; rfl; (with_reducible (first | exact Is.ndec | exact Is.dec | exact Is.not | ((fail_if_success exact Is.litT); (fail_if_success exact Is.litF); exact Is.base))); intro _; rotate_left; intro _; rotate_right)))
  exact N.ret_two rfl (by (exact rvx)) (by (exact rvx)) rfl
theorem c_isetV {r : Res} {n : Bytes} {t : Int} {s : Signed} {b : Bool} (h1 : getS r.K n t = s) (h2 : has (r.K.map Signed.c) n t = b) {H : Hp} {w : World} (hs : Sat H w) (hr : Enc.good H r) : Calls Tryd.prog 82 #[.agg (enc r).toArray, strV n, intV t] w (Ret w (.tuple #[.agg (enc s).toArray, .bool b])) := by
  subst h1 h2
  exact c_iset r n t H w hs hr
theorem c_under28 (s z : Bytes) (H : Hp) (w : World) (hs : Sat H w) (h1 : nameOK s = true) (h2 : nameOK z = true) : Calls Tryd.prog 118 #[strV s, strV z] w (Ret w (.bool (inN s z))) := by
  refine T.enter (vs := [strV s, strV z]) (H := H) Tryd.func118 rfl rfl rfl hs ?_
  repeat (any_goals (first | refine T.seq ?_ | refine T.region ?_ | refine TL.nil ?_ | refine N.next ?_ | refine N.inBlock ?_ | refine N.exit_same ?_ | refine N.exit_then ?_ | refine N.ret_then ?_ | refine N.ret_block ?_ | (apply N.exit_other; rfl) | refine T.ret ?_ | refine T.skip ?_ | refine T.exit ?_ | refine T.block ?_ | (apply T.cond_true; rfl) | (apply T.cond_false; rfl) | (apply T.test; rfl; (with_reducible (first | exact Is.ndec | exact Is.dec | exact Is.not | ((fail_if_success exact Is.litT); (fail_if_success exact Is.litF); exact Is.base))); intro _; rotate_left; intro _; rotate_right) | (apply TL.skip; rfl; rfl; rfl) | (apply TL.skip_none; rfl; rfl) | (apply TL.callE (f := 74) [strV s, strV z] Tryd.call74; rfl; rfl; rfl; rfl; (exact fun _ hs => c_UnderV h1 h2 hs.sat)) | (apply TL.val; rfl; rfl; (first | exact vpure | exact vread)) | (apply TL.x; rfl; rfl; (first | exact xgrow | exact xput); intro _ _) | (apply TL.guard; rfl; rfl; rfl; (with_reducible (first | exact Is.ndec | exact Is.dec | exact Is.not | ((fail_if_success exact Is.litT); (fail_if_success exact Is.litF); exact Is.base))); intro _; rotate_left; intro _; rotate_right)))
  all_goals (try contradiction)
  all_goals (try (first | (apply N.ret_bool; rfl; (exact rvx)) | (apply N.ret_int; rfl; (exact rvx)) | (apply N.ret_val; rfl; (exact rvx))))
  all_goals simp [*]
theorem follow_step {K : List SignedC} {f : Nat} {kept : List SignedC} {s : Bytes} {t : Int} (h : has K s t = false) (h3 : t ≠ 3) (h8 : t ≠ 8) : followI K (f + 1) kept s t = match findC K s 3 with
    | none => some (kept, s)
    | some a => if kept.length = 8 then none else followI K f (kept ++ [a]) (a.set.data.headD dNil).text t := by
  rw [followI, h, decide_eq_false h3, decide_eq_false h8]
  rfl
theorem follow_end {K : List SignedC} {f : Nat} {kept : List SignedC} {s : Bytes} {t : Int} (h : has K s t = true ∨ t = 3 ∨ t = 8) : followI K (f + 1) kept s t = some (kept, s) := by
  rw [followI, if_pos]
  rcases h with h | h | h <;> simp [h]
/-- What 'follow' hands back. -/
def Follows (K : List Signed) (H : Hp) (w : World) (r : Option (List SignedC × Bytes)) : Ending → World → Prop := fun e w' => match r with
  | none => Ret w (.tuple #[.slice none 0 0, strV [], .bool false]) e w'
  | some (k, s) => RetO w H (fun g : Value × List Signed => g.2.map Signed.c = k ∧ g.2.length ≤ 8 ∧ LenOk s ∧ ∀ x ∈ g.2, x ∈ K) (fun g => .tuple #[g.1, strV s, .bool true]) (fun _ => H) (fun g => [.row g.1 37 5 g.2.length (encs g.2)]) e w'
set_option maxHeartbeats 4000000 in
theorem c_ifollow (r : Res) (s : Bytes) (t : Int) (H : Hp) (w : World) (hs : Sat H w) (hr : Enc.good H r) (hK : knownOK (r.K.map Signed.c) = true) (hl : LenOk s) (ht : I64 t) : Calls Tryd.prog 81 #[.agg (enc r).toArray, strV s, intV t] w (Follows r.K H w (followI (r.K.map Signed.c) 9 [] s t)) := by
  refine T.enter (vs := [.agg (enc r).toArray, strV s, intV t]) (H := H) Tryd.func81 rfl rfl rfl hs ?_
  obtain ⟨res, hres⟩ : ∃ x, followI (r.K.map Signed.c) 9 [] s t = x := ⟨_, rfl⟩
  rw [hres]
  repeat (any_goals (first | refine T.seq ?_ | refine T.region ?_ | refine TL.nil ?_ | refine N.next ?_ | refine N.inBlock ?_ | refine N.exit_same ?_ | refine N.exit_then ?_ | refine N.ret_then ?_ | refine N.ret_block ?_ | (apply N.exit_other; rfl) | refine T.ret ?_ | refine T.skip ?_ | refine T.exit ?_ | refine T.block ?_ | (apply T.cond_true; rfl) | (apply T.cond_false; rfl) | (apply T.test; rfl; (with_reducible (first | exact Is.ndec | exact Is.dec | exact Is.not | ((fail_if_success exact Is.litT); (fail_if_success exact Is.litF); exact Is.base))); intro _; rotate_left; intro _; rotate_right) | (apply TL.skip; rfl; rfl; rfl) | (apply TL.skip_none; rfl; rfl) | (apply TL.val; rfl; rfl; (first | exact vpure | exact vread)) | (apply TL.x; rfl; rfl; (first | exact xgrow | exact xput); intro _ _) | (apply TL.guard; rfl; rfl; rfl; (with_reducible (first | exact Is.ndec | exact Is.dec | exact Is.not | ((fail_if_success exact Is.litT); (fail_if_success exact Is.litF); exact Is.base))); intro _; rotate_left; intro _; rotate_right)))
  rename_i b3 _
  refine T.nilRow 37 5 ?_
  refine T.loop (G := Bytes × List Signed × Value) (fun g => [(1, strV g.1), (2, intV t), (3, .pointer (some ⟨b3, 0, none⟩)), (9, g.2.2)]) (fun _ => H) (fun g => [.row g.2.2 37 5 g.2.1.length (encs g.2.1), .blk b3 118 (enc r)]) (fun g => g.2.1.length ≤ 8 ∧ LenOk g.1 ∧ (∀ x ∈ g.2.1, x ∈ r.K) ∧ followI (r.K.map Signed.c) (9 - g.2.1.length) (g.2.1.map Signed.c) g.1 t = res) (fun g => 9 - g.2.1.length) (s, [], .slice none 0 0) ⟨Nat.zero_le _, hl, by simp, hres⟩ (by (repeat (first | exact True.intro | refine ⟨rfl, ?_⟩ | refine Sub.int rfl (by omega) ?_))) rfl (List.Sublist.refl _) ?_
  rintro ⟨s1, got, v⟩ ⟨h8, hl1, hgot, hf⟩
  simp only at h8 hl1 hgot hf ⊢
  obtain ⟨f, hfu⟩ : ∃ f, 9 - got.length = f + 1 := ⟨8 - got.length, by omega⟩
  rw [hfu] at hf
  obtain ⟨b, hb⟩ : ∃ b, has (r.K.map Signed.c) s1 t = b := ⟨_, rfl⟩
  obtain ⟨x, hx⟩ : ∃ x, getS r.K s1 t = x := ⟨_, rfl⟩
  have hxg : Enc.good H x := hx ▸ getS_good hr s1 t
  by_cases hend : b = true ∨ t = 3 ∨ t = 8
  · have hb' : res = some (got.map Signed.c, s1) := by
      rw [← hf, follow_end (by rcases hend with h | h; exact .inl (hb.trans h); exact .inr h)]
    subst hb'
    repeat (any_goals (first | refine T.seq ?_ | refine T.region ?_ | refine TL.nil ?_ | refine N.next ?_ | refine N.inBlock ?_ | refine N.exit_same ?_ | refine N.exit_then ?_ | refine N.ret_then ?_ | refine N.ret_block ?_ | (apply N.exit_other; rfl) | refine T.ret ?_ | refine T.skip ?_ | refine T.exit ?_ | refine T.block ?_ | (apply T.cond_true; rfl) | (apply T.cond_false; rfl) | (apply T.test; rfl; (with_reducible (first | exact Is.ndec | exact Is.dec | exact Is.not | ((fail_if_success exact Is.litT); (fail_if_success exact Is.litF); exact Is.base))); intro _; rotate_left; intro _; rotate_right) | (apply TL.skip; rfl; rfl; rfl) | (apply TL.skip_none; rfl; rfl) | (apply TL.callE (f := 82) [.agg (enc r).toArray, strV s1, intV t] Tryd.call82; rfl; rfl; rfl; rfl; (exact fun _ hs => c_isetV hx hb hs.sat hr)) | (apply TL.x; rfl; rfl; (apply X.storeTo 0 (enc x); rfl; rfl; rfl; rfl; rfl; rfl; rfl; rfl; rfl; rfl); intro _ _) | (apply TL.val; rfl; rfl; (first | exact vpure | exact vread)) | (apply TL.x; rfl; rfl; (first | exact xgrow | exact xput); intro _ _) | (apply TL.guard; rfl; rfl; rfl; (with_reducible (first | exact Is.ndec | exact Is.dec | exact Is.not | ((fail_if_success exact Is.litT); (fail_if_success exact Is.litF); exact Is.base))); intro _; rotate_left; intro _; rotate_right)))
    all_goals (try (exfalso; rcases hend with h | h | h <;> first | contradiction | omega | (subst h; contradiction)))
    all_goals (refine N.ret3 rfl (by (exact rvx)) (by (exact rvx)) (by (exact rvx)) fun w hst => ⟨(v, got), ⟨rfl, h8, hl1, hgot⟩, rfl, hst.sub (by first | exact List.Sublist.cons _ (List.Sublist.cons_cons _ (List.nil_sublist _)) | exact List.Sublist.cons_cons _ (List.nil_sublist _))⟩)
  · have hbf : b = false := by cases b; rfl; exact absurd (.inl rfl) hend
    have h3 : t ≠ 3 := fun h => hend (.inr (.inl h))
    have h8' : t ≠ 8 := fun h => hend (.inr (.inr h))
    subst hbf
    rw [follow_step hb h3 h8', findS_c] at hf
    cases ha : findS r.K s1 3 with
    | none =>
      rw [ha] at hf
      have hb' : res = some (got.map Signed.c, s1) := hf.symm
      subst hb'
      have hx2 : getS r.K s1 3 = signedNil := by unfold getS; rw [ha]; rfl
      have hb2 : has (r.K.map Signed.c) s1 3 = false := by rw [has_S, ha]; rfl
      repeat (any_goals (first | refine T.seq ?_ | refine T.region ?_ | refine TL.nil ?_ | refine N.next ?_ | refine N.inBlock ?_ | refine N.exit_same ?_ | refine N.exit_then ?_ | refine N.ret_then ?_ | refine N.ret_block ?_ | (apply N.exit_other; rfl) | refine T.ret ?_ | refine T.skip ?_ | refine T.exit ?_ | refine T.block ?_ | (apply T.cond_true; rfl) | (apply T.cond_false; rfl) | (apply T.test; rfl; (with_reducible (first | exact Is.ndec | exact Is.dec | exact Is.not | ((fail_if_success exact Is.litT); (fail_if_success exact Is.litF); exact Is.base))); intro _; rotate_left; intro _; rotate_right) | (apply TL.skip; rfl; rfl; rfl) | (apply TL.skip_none; rfl; rfl) | (apply TL.callE (f := 82) [.agg (enc r).toArray, strV s1, intV t] Tryd.call82; rfl; rfl; rfl; rfl; (exact fun _ hs => c_isetV hx hb hs.sat hr)) | (apply TL.callE (f := 82) [.agg (enc r).toArray, strV s1, intV 3] Tryd.call82; rfl; rfl; rfl; rfl; (exact fun _ hs => c_isetV hx2 hb2 hs.sat hr)) | (apply TL.x; rfl; rfl; (apply X.storeTo 0 (enc x); rfl; rfl; rfl; rfl; rfl; rfl; rfl; rfl; rfl; rfl); intro _ _) | (apply TL.x; rfl; rfl; (apply X.storeTo 0 (enc signedNil); rfl; rfl; rfl; rfl; rfl; rfl; rfl; rfl; rfl; rfl); intro _ _) | (apply TL.val; rfl; rfl; (first | exact vpure | exact vread)) | (apply TL.x; rfl; rfl; (first | exact xgrow | exact xput); intro _ _) | (apply TL.guard; rfl; rfl; rfl; (with_reducible (first | exact Is.ndec | exact Is.dec | exact Is.not | ((fail_if_success exact Is.litT); (fail_if_success exact Is.litF); exact Is.base))); intro _; rotate_left; intro _; rotate_right)))
      all_goals (try contradiction)
      all_goals (try (exfalso; omega))
      all_goals (refine N.ret3 rfl (by (exact rvx)) (by (exact rvx)) (by (exact rvx)) fun w hst => ⟨(v, got), ⟨rfl, h8, hl1, hgot⟩, rfl, hst.sub (by first | exact List.Sublist.cons _ (List.Sublist.cons _ (List.Sublist.cons_cons _ (List.nil_sublist _))) | exact List.Sublist.cons _ (List.Sublist.cons_cons _ (List.nil_sublist _)))⟩)
    | some a =>
      rw [ha] at hf
      have hmem : a ∈ r.K := List.mem_of_find?_eq_some ha
      have hag : Enc.good H a := hr.1.good a hmem
      have hx2 : getS r.K s1 3 = a := by unfold getS; rw [ha]; rfl
      have hb2 : has (r.K.map Signed.c) s1 3 = true := by rw [has_S, ha]; rfl
      have hsa : setOK a.set.c = true := known_set hK (List.mem_map_of_mem hmem)
      obtain ⟨d, ds, hd⟩ := data_pos hsa
      have hde : a.set.data.els = d :: ds := hd
      have hdg0 := hag.1.2.2.2
      have hdl := hdg0.len
      have hpos : 0 < a.set.data.len := by rw [← hdl, hde]; simp
      have hp0 : 0 < a.set.data.els.length := by omega
      have hdg : Enc.good H (a.set.data.els[0]'hp0) := hdg0.els _ (List.getElem_mem _)
      have htx : (a.c.set.data.headD dNil).text = (a.set.data.els[0]'hp0).text := by
        rw [show a.c.set.data = d :: ds from hde]
        simp only [List.headD_cons, hde, List.getElem_cons_zero]
      by_cases hg8 : got.length = 8
      · have hb' : res = none := by rw [← hf]; simp [hg8]
        subst hb'
        repeat (any_goals (first | refine T.seq ?_ | refine T.region ?_ | refine TL.nil ?_ | refine N.next ?_ | refine N.inBlock ?_ | refine N.exit_same ?_ | refine N.exit_then ?_ | refine N.ret_then ?_ | refine N.ret_block ?_ | (apply N.exit_other; rfl) | refine T.ret ?_ | refine T.skip ?_ | refine T.exit ?_ | refine T.block ?_ | (apply T.cond_true; rfl) | (apply T.cond_false; rfl) | (apply T.test; rfl; (with_reducible (first | exact Is.ndec | exact Is.dec | exact Is.not | ((fail_if_success exact Is.litT); (fail_if_success exact Is.litF); exact Is.base))); intro _; rotate_left; intro _; rotate_right) | (apply TL.skip; rfl; rfl; rfl) | (apply TL.skip_none; rfl; rfl) | (apply TL.callE (f := 82) [.agg (enc r).toArray, strV s1, intV t] Tryd.call82; rfl; rfl; rfl; rfl; (exact fun _ hs => c_isetV hx hb hs.sat hr)) | (apply TL.callE (f := 82) [.agg (enc r).toArray, strV s1, intV 3] Tryd.call82; rfl; rfl; rfl; rfl; (exact fun _ hs => c_isetV hx2 hb2 hs.sat hr)) | (apply TL.x; rfl; rfl; (apply X.storeTo 0 (enc x); rfl; rfl; rfl; rfl; rfl; rfl; rfl; rfl; rfl; rfl); intro _ _) | (apply TL.x; rfl; rfl; (apply X.storeTo 0 (enc a); rfl; rfl; rfl; rfl; rfl; rfl; rfl; rfl; rfl; rfl); intro _ _) | (apply TL.val; rfl; rfl; (apply V.len_row; rfl; rfl; rfl; rfl; (exact lmem))) | (apply TL.val; rfl; rfl; (first | exact vpure | exact vread)) | (apply TL.x; rfl; rfl; (first | exact xgrow | exact xput); intro _ _) | (apply TL.guard; rfl; rfl; rfl; (with_reducible (first | exact Is.ndec | exact Is.dec | exact Is.not | ((fail_if_success exact Is.litT); (fail_if_success exact Is.litF); exact Is.base))); intro _; rotate_left; intro _; rotate_right)))
        all_goals (try contradiction)
        all_goals (try (exfalso; omega))
        all_goals (exact N.ret3 rfl (by (exact rvx)) (by (exact rvx)) (by (exact rvx)) fun w hst => ⟨rfl, hst.below⟩)
      · have hf' : followI (r.K.map Signed.c) (9 - (got ++ [a]).length) ((got ++ [a]).map Signed.c) (a.set.data.els[0]'hp0).text t = res := by
          rw [← hf]
          simp only [Option.map_some, List.length_map, if_neg hg8, htx, List.map_append, List.map_cons, List.map_nil, List.length_append, List.length_cons, List.length_nil]
          rw [show 9 - (got.length + (0 + 1)) = f by omega]
        repeat (any_goals (first | refine T.seq ?_ | refine T.region ?_ | refine TL.nil ?_ | refine N.next ?_ | refine N.inBlock ?_ | refine N.exit_same ?_ | refine N.exit_then ?_ | refine N.ret_then ?_ | refine N.ret_block ?_ | (apply N.exit_other; rfl) | refine T.ret ?_ | refine T.skip ?_ | refine T.exit ?_ | refine T.block ?_ | (apply T.cond_true; rfl) | (apply T.cond_false; rfl) | (apply T.test; rfl; (with_reducible (first | exact Is.ndec | exact Is.dec | exact Is.not | ((fail_if_success exact Is.litT); (fail_if_success exact Is.litF); exact Is.base))); intro _; rotate_left; intro _; rotate_right) | (apply TL.skip; rfl; rfl; rfl) | (apply TL.skip_none; rfl; rfl) | (apply TL.callE (f := 82) [.agg (enc r).toArray, strV s1, intV t] Tryd.call82; rfl; rfl; rfl; rfl; (exact fun _ hs => c_isetV hx hb hs.sat hr)) | (apply TL.callE (f := 82) [.agg (enc r).toArray, strV s1, intV 3] Tryd.call82; rfl; rfl; rfl; rfl; (exact fun _ hs => c_isetV hx2 hb2 hs.sat hr)) | (apply TL.x; rfl; rfl; (apply X.storeTo 0 (enc x); rfl; rfl; rfl; rfl; rfl; rfl; rfl; rfl; rfl; rfl); intro _ _) | (apply TL.x; rfl; rfl; (apply X.storeTo 0 (enc a); rfl; rfl; rfl; rfl; rfl; rfl; rfl; rfl; rfl; rfl); intro _ _) | (apply TL.val; rfl; rfl; (apply V.len_row; rfl; rfl; rfl; rfl; (exact lmem))) | (apply TL.x; rfl; rfl; (apply X.append1 3; rfl; rfl; rfl; rfl; rfl; rfl; rfl; rfl; rfl; exact List.Mem.head _; rfl; rfl; rfl; (refine Nat.le_trans (Nat.mul_le_mul_left _ (show _ ≤ 1000 by decide)) ?_; show (got.length + 1) * 1000 ≤ _; omega); (show got.length + 1 ≤ _; omega)); intro p2 _) | (apply TL.val; rfl; rfl; (apply V.elem (j := 0); rfl; rfl; rfl; rfl; rfl; rfl; exact hpos; exact hag.1.2.2.2.at_ hpos)) | (apply TL.val; rfl; rfl; (first | exact vpure | exact vread)) | (apply TL.x; rfl; rfl; (first | exact xgrow | exact xput); intro _ _) | (apply TL.guard; rfl; rfl; rfl; (with_reducible (first | exact Is.ndec | exact Is.dec | exact Is.not | ((fail_if_success exact Is.litT); (fail_if_success exact Is.litF); exact Is.base))); intro _; rotate_left; intro _; rotate_right)))
        all_goals (try contradiction)
        all_goals (try (exfalso; omega))
        rename_i p2 _ _ _
        refine N.round ((a.set.data.els[0]'hp0).text, got ++ [a], .slice (some ⟨p2.1, 0, none⟩) (got.length + 1) p2.2) ⟨by rw [List.length_append]; show got.length + 1 ≤ 8; omega, hdg.1, fun y hy => ?_, hf'⟩ (by show 9 - (got ++ [a]).length < 9 - got.length; rw [List.length_append]; show 9 - (got.length + 1) < _; omega) (by (repeat (first | exact True.intro | refine ⟨rfl, ?_⟩ | refine Sub.int rfl (by omega) ?_))) rfl ?_
        · rcases List.mem_append.1 hy with hy | hy
          · exact hgot y hy
          · rw [List.mem_singleton] at hy; rw [hy]; exact hmem
        · rw [List.length_append, encs_snoc]
          exact List.Sublist.cons _ (List.Sublist.cons _ (List.Sublist.cons _ (List.Sublist.refl _)))
theorem hosts_S (K : List Signed) (z : Bytes) : hostsC (K.map Signed.c) z = (getS K z 2).set.data.els := by
  unfold hostsC getS
  rw [findS_c]
  cases findS K z 2 <;> rfl
theorem data_S (K : List Signed) (h : Bytes) : dataC (K.map Signed.c) h = (getS K h 1).set.data.els := by
  unfold dataC getS
  rw [findS_c]
  cases findS K h 1 <;> rfl
theorem c_ihosts (r : Res) (z : Bytes) (H : Hp) (w : World) (hs : Sat H w) (hr : Enc.good H r) : Calls Tryd.prog 117 #[.agg (enc r).toArray, strV z] w (Ret w (getS r.K z 2).set.data.v) := by
  refine T.enter (vs := [.agg (enc r).toArray, strV z]) (H := H) Tryd.func117 rfl rfl rfl hs ?_
  repeat (any_goals (first | refine T.seq ?_ | refine T.region ?_ | refine TL.nil ?_ | refine N.next ?_ | refine N.inBlock ?_ | refine N.exit_same ?_ | refine N.exit_then ?_ | refine N.ret_then ?_ | refine N.ret_block ?_ | (apply N.exit_other; rfl) | refine T.ret ?_ | refine T.skip ?_ | refine T.exit ?_ | refine T.block ?_ | (apply T.cond_true; rfl) | (apply T.cond_false; rfl) | (apply T.test; rfl; (with_reducible (first | exact Is.ndec | exact Is.dec | exact Is.not | ((fail_if_success exact Is.litT); (fail_if_success exact Is.litF); exact Is.base))); intro _; rotate_left; intro _; rotate_right) | (apply TL.skip; rfl; rfl; rfl) | (apply TL.skip_none; rfl; rfl) | (apply TL.callE (f := 82) [.agg (enc r).toArray, strV z, intV 2] Tryd.call82; rfl; rfl; rfl; rfl; (exact fun _ hs => c_iset r z 2 _ _ hs.sat hr)) | (apply TL.x; rfl; rfl; (apply X.storeTo 0 (enc (getS r.K z 2)); rfl; rfl; rfl; rfl; rfl; rfl; rfl; rfl; rfl; rfl); intro _ _) | (apply TL.val; rfl; rfl; (first | exact vpure | exact vread)) | (apply TL.x; rfl; rfl; (first | exact xgrow | exact xput); intro _ _) | (apply TL.guard; rfl; rfl; rfl; (with_reducible (first | exact Is.ndec | exact Is.dec | exact Is.not | ((fail_if_success exact Is.litT); (fail_if_success exact Is.litF); exact Is.base))); intro _; rotate_left; intro _; rotate_right)))
  exact N.ret_val rfl (by (exact rvx)) rfl
theorem St.rowSlc {α : Type} [Enc α] {w0 w : World} {H0 H : Hp} {L : List Loc} {v : Value} {e : TypeId} {size m : Nat} {els : List α} (hs : St w0 H0 H L w) (hm : Loc.row v e size m (encs els) ∈ L) (hsz : size = Enc.size α) (hl : els.length = m) (hg : ∀ x ∈ els, Enc.good H x) : ∃ (H' : Hp) (s : Slc α), s.v = v ∧ s.els = els ∧ s.Good H' ∧ H.le H' ∧ Sat H' w := by
  obtain ⟨H', s, e1, e2, e3, e4, e5⟩ := (hs.sub (L' := [.row v e size m (encs els)]) (List.singleton_sublist.2 hm)).freezeRow hsz hl hg
  exact ⟨H', s, e1, e2, e3, e4, e5.sat⟩
theorem c_ContOwn {w0 w : World} {H0 H : Hp} {L : List Loc} {v : Value} {e : TypeId} {m : Nat} {els : List Int} (x : Int) {b : Bool} (hb : els.contains x = b) (hs : St w0 H0 H L w) (hm : Loc.row v e 1 m (encs els) ∈ L) (hl : els.length = m) (hg : ∀ x ∈ els, I64 x) : Calls Tryd.prog 138 #[v, intV x] w (Ret w (.bool b)) := by
  obtain ⟨H', s, e1, e2, e3, _, e5⟩ := hs.rowSlc hm rfl hl hg
  have h := c_ContInt s x H' w e5 e3
  rw [show s.v = v from e1, e2] at h
  rw [← hb]
  have e : (els.any fun y => decide (x = y)) = els.contains x := by
    rw [Bool.eq_iff_iff, List.any_eq_true, List.contains_iff_mem]
    constructor
    · rintro ⟨y, hy, h⟩; rw [of_decide_eq_true h]; exact hy
    · intro h; exact ⟨x, h, by simp⟩
  rw [← e]; exact h
theorem getS_short {K : List Signed} (hK : knownOK (K.map Signed.c) = true) (n : Bytes) (t : Int) : (getS K n t).set.data.els.length ≤ 8 := by
  unfold getS
  cases h : findS K n t with
  | none => exact Nat.zero_le _
  | some x => exact (setOK_short (known_set hK (List.mem_map_of_mem (f := Signed.c) (List.mem_of_find?_eq_some h)))).data
def hostA (K : List SignedC) (l : List Int) (h : Datum) : List Int := (dataC K h.text).foldl addN l
set_option maxHeartbeats 4000000 in
theorem c_iaddrs (r : Res) (z : Bytes) (H : Hp) (w : World) (n : Nat) (hn : n ≤ w.heap.size) (hs : Sat H w) (hr : Enc.good H r) (hK : knownOK (r.K.map Signed.c) = true) (hh : r.hints.len ≤ 1000) : Calls Tryd.prog 116 #[.agg (enc r).toArray, strV z] w (RetF w H (fun p : Hp × Slc Int => p.2.els = addrsI (r.K.map Signed.c) r.hints.els z ∧ p.2.Good p.1 ∧ (0 < p.2.len → n ≤ p.2.b)) (fun p => p.2.v) (fun p => p.1)) := by
  refine T.enter (vs := [.agg (enc r).toArray, strV z]) (H := H) Tryd.func116 rfl rfl rfl hs ?_
  obtain ⟨hs2, hhs⟩ : ∃ x, getS r.K z 2 = x := ⟨_, rfl⟩
  have h2g : Enc.good H hs2 := hhs ▸ getS_good hr z 2
  have h2d := h2g.1.2.2.2
  have h2l := h2d.len
  have h2s : hs2.set.data.els.length ≤ 8 := hhs ▸ getS_short hK z 2
  have hhost : hostsC (r.K.map Signed.c) z = hs2.set.data.els := by rw [hosts_S, hhs]
  have hfound : foundA (r.K.map Signed.c) z = hs2.set.data.els.foldl (hostA (r.K.map Signed.c)) [] := by unfold foundA; rw [hhost]; rfl
  repeat (any_goals (first | refine T.seq ?_ | refine T.region ?_ | refine TL.nil ?_ | refine N.next ?_ | refine N.inBlock ?_ | refine N.exit_same ?_ | refine N.exit_then ?_ | refine N.ret_then ?_ | refine N.ret_block ?_ | (apply N.exit_other; rfl) | refine T.ret ?_ | refine T.skip ?_ | refine T.exit ?_ | refine T.block ?_ | (apply T.cond_true; rfl) | (apply T.cond_false; rfl) | (apply T.test; rfl; (with_reducible (first | exact Is.ndec | exact Is.dec | exact Is.not | ((fail_if_success exact Is.litT); (fail_if_success exact Is.litF); exact Is.base))); intro _; rotate_left; intro _; rotate_right) | (apply TL.skip; rfl; rfl; rfl) | (apply TL.skip_none; rfl; rfl) | (apply TL.callE (f := 117) [.agg (enc r).toArray, strV z] Tryd.call117; rfl; rfl; rfl; rfl; (exact fun _ hs => hhs ▸ c_ihosts r z _ _ hs.sat hr)) | (apply TL.val; rfl; rfl; (first | exact vpure | exact vread)) | (apply TL.x; rfl; rfl; (first | exact xgrow | exact xput); intro _ _) | (apply TL.guard; rfl; rfl; rfl; (with_reducible (first | exact Is.ndec | exact Is.dec | exact Is.not | ((fail_if_success exact Is.litT); (fail_if_success exact Is.litF); exact Is.base))); intro _; rotate_left; intro _; rotate_right)))
  rename_i b2 _
  refine T.nilRow 3 1 ?_
  refine T.loop (G := Nat × List Int × Value) (fun g => [(1, strV z), (2, .pointer (some ⟨b2, 0, none⟩)), (14, hs2.set.data.v), (15, intV hs2.set.data.len), (16, intV g.1), (5, g.2.2)]) (fun _ => H) (fun g => [.row g.2.2 3 1 g.2.1.length (encs g.2.1), .blk b2 118 (enc r)]) (fun g => g.1 ≤ hs2.set.data.len ∧ g.2.1.length ≤ 8 * g.1 ∧ (∀ x ∈ g.2.1, I64 x) ∧ g.2.1 = (hs2.set.data.els.take g.1).foldl (hostA (r.K.map Signed.c)) []) (fun g => hs2.set.data.len - g.1) (0, [], .slice none 0 0) ⟨Nat.zero_le _, Nat.zero_le _, by simp, rfl⟩ (by (repeat (first | exact True.intro | refine ⟨rfl, ?_⟩ | refine Sub.int rfl (by omega) ?_))) rfl (List.Sublist.refl _) ?_
  rintro ⟨k, l, v⟩ ⟨hk, hlk, hl64, hrel⟩
  simp only at hk hlk hl64 hrel ⊢
  by_cases hlt : k < hs2.set.data.len
  · have hkl : k < hs2.set.data.els.length := by omega
    have hdg : Enc.good H (hs2.set.data.els[k]'hkl) := h2d.els _ (List.getElem_mem hkl)
    obtain ⟨s1, hs1⟩ : ∃ x, getS r.K (hs2.set.data.els[k]'hkl).text 1 = x := ⟨_, rfl⟩
    have h1g : Enc.good H s1 := hs1 ▸ getS_good hr (hs2.set.data.els[k]'hkl).text 1
    have h1d := h1g.1.2.2.2
    have h1l := h1d.len
    have h1s : s1.set.data.els.length ≤ 8 := hs1 ▸ getS_short hK (hs2.set.data.els[k]'hkl).text 1
    obtain ⟨b1, hb1⟩ : ∃ x, has (r.K.map Signed.c) (hs2.set.data.els[k]'hkl).text 1 = x := ⟨_, rfl⟩
    repeat (any_goals (first | refine T.seq ?_ | refine T.region ?_ | refine TL.nil ?_ | refine N.next ?_ | refine N.inBlock ?_ | refine N.exit_same ?_ | refine N.exit_then ?_ | refine N.ret_then ?_ | refine N.ret_block ?_ | (apply N.exit_other; rfl) | refine T.ret ?_ | refine T.skip ?_ | refine T.exit ?_ | refine T.block ?_ | (apply T.cond_true; rfl) | (apply T.cond_false; rfl) | (apply T.test; rfl; (with_reducible (first | exact Is.ndec | exact Is.dec | exact Is.not | ((fail_if_success exact Is.litT); (fail_if_success exact Is.litF); exact Is.base))); intro _; rotate_left; intro _; rotate_right) | (apply TL.skip; rfl; rfl; rfl) | (apply TL.skip_none; rfl; rfl) | (apply TL.x; rfl; rfl; (apply X.storeTo 0 (enc (hs2.set.data.els[k]'hkl)); rfl; rfl; rfl; rfl; rfl; rfl; rfl; rfl; rfl; rfl); intro _ _) | (apply TL.callE (f := 82) [.agg (enc r).toArray, strV (hs2.set.data.els[k]'hkl).text, intV 1] Tryd.call82; rfl; rfl; rfl; rfl; (exact fun _ hs => c_isetV hs1 hb1 hs.sat hr)) | (apply TL.x; rfl; rfl; (apply X.storeTo 0 (enc s1); rfl; rfl; rfl; rfl; rfl; rfl; rfl; rfl; rfl; rfl); intro _ _) | (apply TL.val; rfl; rfl; (first | exact vpure | exact vread)) | (apply TL.x; rfl; rfl; (first | exact xgrow | exact xput); intro _ _) | (apply TL.guard; rfl; rfl; rfl; (with_reducible (first | exact Is.ndec | exact Is.dec | exact Is.not | ((fail_if_success exact Is.litT); (fail_if_success exact Is.litF); exact Is.base))); intro _; rotate_left; intro _; rotate_right)))
    all_goals (try (exfalso; omega))
    refine T.loop (G := Nat × List Int × Value) (fun g => [(1, strV z), (2, .pointer (some ⟨b2, 0, none⟩)), (14, hs2.set.data.v), (15, intV hs2.set.data.len), (16, intV k), (29, s1.set.data.v), (30, intV s1.set.data.len), (31, intV g.1), (5, g.2.2)]) (fun _ => H) (fun g => [.row g.2.2 3 1 g.2.1.length (encs g.2.1), .blk b2 118 (enc r)]) (fun g => g.1 ≤ s1.set.data.len ∧ g.2.1.length ≤ 8 * k + g.1 ∧ (∀ x ∈ g.2.1, I64 x) ∧ g.2.1 = (s1.set.data.els.take g.1).foldl addN l) (fun g => s1.set.data.len - g.1) (0, l, v) ⟨Nat.zero_le _, hlk, hl64, rfl⟩ (by (repeat (first | exact True.intro | refine ⟨rfl, ?_⟩ | refine Sub.int rfl (by omega) ?_))) rfl (by exact List.Sublist.cons _ (List.Sublist.cons _ (List.Sublist.refl _))) ?_
    rintro ⟨j, m, u⟩ ⟨hj, hmk, hm64, hrelj⟩
    simp only at hj hmk hm64 hrelj ⊢
    by_cases hjt : j < s1.set.data.len
    · have hjl : j < s1.set.data.els.length := by omega
      have hd1g : Enc.good H (s1.set.data.els[j]'hjl) := h1d.els _ (List.getElem_mem hjl)
      have hup : (s1.set.data.els.take (j + 1)).foldl addN l = addN m (s1.set.data.els[j]'hjl) := by
        rw [List.take_succ_eq_append_getElem hjl, List.foldl_append, ← hrelj]; rfl
      obtain ⟨c, hc⟩ : ∃ c, m.contains (s1.set.data.els[j]'hjl).n = c := ⟨_, rfl⟩
      cases c with
      | true =>
        have hadd : addN m (s1.set.data.els[j]'hjl) = m := by unfold addN; rw [hc]; rfl
        repeat (any_goals (first | refine T.seq ?_ | refine T.region ?_ | refine TL.nil ?_ | refine N.next ?_ | refine N.inBlock ?_ | refine N.exit_same ?_ | refine N.exit_then ?_ | refine N.ret_then ?_ | refine N.ret_block ?_ | (apply N.exit_other; rfl) | refine T.ret ?_ | refine T.skip ?_ | refine T.exit ?_ | refine T.block ?_ | (apply T.cond_true; rfl) | (apply T.cond_false; rfl) | (apply T.test; rfl; (with_reducible (first | exact Is.ndec | exact Is.dec | exact Is.not | ((fail_if_success exact Is.litT); (fail_if_success exact Is.litF); exact Is.base))); intro _; rotate_left; intro _; rotate_right) | (apply TL.skip; rfl; rfl; rfl) | (apply TL.skip_none; rfl; rfl) | (apply TL.x; rfl; rfl; (apply X.storeTo 0 (enc (s1.set.data.els[j]'hjl)); rfl; rfl; rfl; rfl; rfl; rfl; rfl; rfl; rfl; rfl); intro _ _) | (apply TL.callE (f := 138) [u, intV (s1.set.data.els[j]'hjl).n] Tryd.call138; rfl; rfl; rfl; rfl; (exact fun _ hs => c_ContOwn (s1.set.data.els[j]'hjl).n hc hs (by exact List.Mem.tail _ (List.Mem.head _)) rfl hm64)) | (apply TL.val; rfl; rfl; (first | exact vpure | exact vread)) | (apply TL.x; rfl; rfl; (first | exact xgrow | exact xput); intro _ _) | (apply TL.guard; rfl; rfl; rfl; (with_reducible (first | exact Is.ndec | exact Is.dec | exact Is.not | ((fail_if_success exact Is.litT); (fail_if_success exact Is.litF); exact Is.base))); intro _; rotate_left; intro _; rotate_right)))
        all_goals (try contradiction)
        all_goals (try (exfalso; omega))
        refine N.round (j + 1, m, u) ⟨by show j + 1 ≤ _; omega, by show m.length ≤ 8 * k + (j + 1); omega, hm64, by show m = _; rw [hup, hadd]⟩ (by show s1.set.data.len - (j + 1) < s1.set.data.len - j; omega) (by (repeat (first | exact True.intro | refine ⟨rfl, ?_⟩ | refine Sub.int rfl (by omega) ?_))) rfl (by exact List.Sublist.cons _ (List.Sublist.refl _))
      | false =>
        have hadd : addN m (s1.set.data.els[j]'hjl) = m ++ [(s1.set.data.els[j]'hjl).n] := by unfold addN; rw [hc]; rfl
        repeat (any_goals (first | refine T.seq ?_ | refine T.region ?_ | refine TL.nil ?_ | refine N.next ?_ | refine N.inBlock ?_ | refine N.exit_same ?_ | refine N.exit_then ?_ | refine N.ret_then ?_ | refine N.ret_block ?_ | (apply N.exit_other; rfl) | refine T.ret ?_ | refine T.skip ?_ | refine T.exit ?_ | refine T.block ?_ | (apply T.cond_true; rfl) | (apply T.cond_false; rfl) | (apply T.test; rfl; (with_reducible (first | exact Is.ndec | exact Is.dec | exact Is.not | ((fail_if_success exact Is.litT); (fail_if_success exact Is.litF); exact Is.base))); intro _; rotate_left; intro _; rotate_right) | (apply TL.skip; rfl; rfl; rfl) | (apply TL.skip_none; rfl; rfl) | (apply TL.x; rfl; rfl; (apply X.storeTo 0 (enc (s1.set.data.els[j]'hjl)); rfl; rfl; rfl; rfl; rfl; rfl; rfl; rfl; rfl; rfl); intro _ _) | (apply TL.callE (f := 138) [u, intV (s1.set.data.els[j]'hjl).n] Tryd.call138; rfl; rfl; rfl; rfl; (exact fun _ hs => c_ContOwn (s1.set.data.els[j]'hjl).n hc hs (by exact List.Mem.tail _ (List.Mem.head _)) rfl hm64)) | (apply TL.x; rfl; rfl; (apply X.append1 2; rfl; rfl; rfl; rfl; rfl; rfl; rfl; rfl; rfl; exact List.Mem.head _; rfl; rfl; rfl; (refine Nat.le_trans (Nat.mul_le_mul_left _ (show _ ≤ 1000 by decide)) ?_; show (m.length + 1) * 1000 ≤ _; omega); (show m.length + 1 ≤ _; omega)); intro p2 _) | (apply TL.val; rfl; rfl; (first | exact vpure | exact vread)) | (apply TL.x; rfl; rfl; (first | exact xgrow | exact xput); intro _ _) | (apply TL.guard; rfl; rfl; rfl; (with_reducible (first | exact Is.ndec | exact Is.dec | exact Is.not | ((fail_if_success exact Is.litT); (fail_if_success exact Is.litF); exact Is.base))); intro _; rotate_left; intro _; rotate_right)))
        all_goals (try contradiction)
        all_goals (try (exfalso; omega))
        rename_i p2 _
        refine N.round (j + 1, m ++ [(s1.set.data.els[j]'hjl).n], .slice (some ⟨p2.1, 0, none⟩) (m.length + 1) p2.2) ⟨by show j + 1 ≤ _; omega, by show (m ++ [(s1.set.data.els[j]'hjl).n]).length ≤ 8 * k + (j + 1); rw [List.length_append]; show m.length + 1 ≤ _; omega, fun x hx => ?_, by show m ++ [(s1.set.data.els[j]'hjl).n] = _; rw [hup, hadd]⟩ (by show s1.set.data.len - (j + 1) < s1.set.data.len - j; omega) (by (repeat (first | exact True.intro | refine ⟨rfl, ?_⟩ | refine Sub.int rfl (by omega) ?_))) rfl ?_
        · rcases List.mem_append.1 hx with hx | hx
          · exact hm64 x hx
          · rw [List.mem_singleton] at hx; rw [hx]; exact hd1g.2.1
        · rw [List.length_append, encs_snoc]
          exact List.Sublist.cons _ (List.Sublist.cons _ (List.Sublist.refl _))
    · repeat (any_goals (first | refine T.seq ?_ | refine T.region ?_ | refine TL.nil ?_ | refine N.next ?_ | refine N.inBlock ?_ | refine N.exit_same ?_ | refine N.exit_then ?_ | refine N.ret_then ?_ | refine N.ret_block ?_ | (apply N.exit_other; rfl) | refine T.ret ?_ | refine T.skip ?_ | refine T.exit ?_ | refine T.block ?_ | (apply T.cond_true; rfl) | (apply T.cond_false; rfl) | (apply T.test; rfl; (with_reducible (first | exact Is.ndec | exact Is.dec | exact Is.not | ((fail_if_success exact Is.litT); (fail_if_success exact Is.litF); exact Is.base))); intro _; rotate_left; intro _; rotate_right) | (apply TL.skip; rfl; rfl; rfl) | (apply TL.skip_none; rfl; rfl) | (apply TL.val; rfl; rfl; (first | exact vpure | exact vread)) | (apply TL.x; rfl; rfl; (first | exact xgrow | exact xput); intro _ _) | (apply TL.guard; rfl; rfl; rfl; (with_reducible (first | exact Is.ndec | exact Is.dec | exact Is.not | ((fail_if_success exact Is.litT); (fail_if_success exact Is.litF); exact Is.base))); intro _; rotate_left; intro _; rotate_right)))
      all_goals (try (exfalso; omega))
      refine N.round (k + 1, m, u) ⟨by show k + 1 ≤ _; omega, by show m.length ≤ 8 * (k + 1); omega, hm64, ?_⟩ (by show hs2.set.data.len - (k + 1) < hs2.set.data.len - k; omega) (by (repeat (first | exact True.intro | refine ⟨rfl, ?_⟩ | refine Sub.int rfl (by omega) ?_))) rfl (List.Sublist.refl _)
      show m = _
      rw [List.take_succ_eq_append_getElem hkl, List.foldl_append, ← hrel, hrelj, List.take_of_length_le (by omega)]
      show _ = hostA _ l (hs2.set.data.els[k]'hkl)
      unfold hostA
      rw [data_S, hs1]
  · have hall : l = foundA (r.K.map Signed.c) z := by rw [hfound, hrel, List.take_of_length_le (by omega)]
    have hend : ∀ {w0 w : World} {L : List Loc}, n ≤ w0.heap.size → St w0 H H L w → Loc.row v 3 1 l.length (encs l) ∈ L → ¬ (foundA (r.K.map Signed.c) z = [] ∧ z = [46]) → ∃ g : Hp × Slc Int, (g.2.els = addrsI (r.K.map Signed.c) r.hints.els z ∧ g.2.Good g.1 ∧ (0 < g.2.len → n ≤ g.2.b)) ∧ Ending.returned v = Ending.returned g.2.v ∧ Fresh w0 H g.1 w := fun {w0 w L} h0 hst hm hn => by
      obtain ⟨H', s, e1, e2, e3, e4, e5, e6⟩ := (hst.sub (L' := [.row v 3 1 l.length (encs l)]) (List.singleton_sublist.2 hm)).freezeRowN rfl rfl hl64 h0
      exact ⟨(H', s), ⟨by unfold addrsI; rw [if_neg hn]; exact e2.trans hall, e3, e6⟩, congrArg _ e1.symm, e5.fresh⟩
    by_cases hz : z = [46]
    · by_cases h0 : l.length = 0
      · have hl0 : foundA (r.K.map Signed.c) z = [] := by rw [← hall]; exact List.eq_nil_of_length_eq_zero h0
        repeat (any_goals (first | refine T.seq ?_ | refine T.region ?_ | refine TL.nil ?_ | refine N.next ?_ | refine N.inBlock ?_ | refine N.exit_same ?_ | refine N.exit_then ?_ | refine N.ret_then ?_ | refine N.ret_block ?_ | (apply N.exit_other; rfl) | refine T.ret ?_ | refine T.skip ?_ | refine T.exit ?_ | refine T.block ?_ | (apply T.cond_true; rfl) | (apply T.cond_false; rfl) | (apply T.test; rfl; (with_reducible (first | exact Is.ndec | exact Is.dec | exact Is.not | ((fail_if_success exact Is.litT); (fail_if_success exact Is.litF); exact Is.base))); intro _; rotate_left; intro _; rotate_right) | (apply TL.skip; rfl; rfl; rfl) | (apply TL.skip_none; rfl; rfl) | (apply TL.val; rfl; rfl; (apply V.len_row; rfl; rfl; rfl; rfl; (exact lmem))) | (apply TL.x; rfl; rfl; (apply X.callFE (f := 139) [r.hints.v] Tryd.call139; rfl; rfl; rfl; exact (fun _ hs => c_CloneIntN r.hints _ _ n (Nat.le_trans hn hs.below.size) hs.sat hr.2 hh)); intro p hp) | (apply TL.val; rfl; rfl; (first | exact vpure | exact vread)) | (apply TL.x; rfl; rfl; (first | exact xgrow | exact xput); intro _ _) | (apply TL.guard; rfl; rfl; rfl; (with_reducible (first | exact Is.ndec | exact Is.dec | exact Is.not | ((fail_if_success exact Is.litT); (fail_if_success exact Is.litF); exact Is.base))); intro _; rotate_left; intro _; rotate_right)))
        all_goals (try contradiction)
        all_goals (try (exfalso; omega))
        refine N.ret1 rfl (by (exact rvx)) fun w hst => ⟨p, ⟨?_, hp.1.2⟩, rfl, hst.fresh⟩
        unfold addrsI
        rw [if_pos ⟨hl0, hz⟩]; exact hp.1.1
      · have hl0 : ¬ (foundA (r.K.map Signed.c) z = [] ∧ z = [46]) := fun h => h0 (by rw [hall, h.1]; rfl)
        repeat (any_goals (first | refine T.seq ?_ | refine T.region ?_ | refine TL.nil ?_ | refine N.next ?_ | refine N.inBlock ?_ | refine N.exit_same ?_ | refine N.exit_then ?_ | refine N.ret_then ?_ | refine N.ret_block ?_ | (apply N.exit_other; rfl) | refine T.ret ?_ | refine T.skip ?_ | refine T.exit ?_ | refine T.block ?_ | (apply T.cond_true; rfl) | (apply T.cond_false; rfl) | (apply T.test; rfl; (with_reducible (first | exact Is.ndec | exact Is.dec | exact Is.not | ((fail_if_success exact Is.litT); (fail_if_success exact Is.litF); exact Is.base))); intro _; rotate_left; intro _; rotate_right) | (apply TL.skip; rfl; rfl; rfl) | (apply TL.skip_none; rfl; rfl) | (apply TL.val; rfl; rfl; (apply V.len_row; rfl; rfl; rfl; rfl; (exact lmem))) | (apply TL.val; rfl; rfl; (first | exact vpure | exact vread)) | (apply TL.x; rfl; rfl; (first | exact xgrow | exact xput); intro _ _) | (apply TL.guard; rfl; rfl; rfl; (with_reducible (first | exact Is.ndec | exact Is.dec | exact Is.not | ((fail_if_success exact Is.litT); (fail_if_success exact Is.litF); exact Is.base))); intro _; rotate_left; intro _; rotate_right)))
        all_goals (try contradiction)
        all_goals (try (exfalso; omega))
        exact N.ret1 rfl (by (exact rvx)) fun w hst => hend hn hst (List.Mem.head _) hl0
    · repeat (any_goals (first | refine T.seq ?_ | refine T.region ?_ | refine TL.nil ?_ | refine N.next ?_ | refine N.inBlock ?_ | refine N.exit_same ?_ | refine N.exit_then ?_ | refine N.ret_then ?_ | refine N.ret_block ?_ | (apply N.exit_other; rfl) | refine T.ret ?_ | refine T.skip ?_ | refine T.exit ?_ | refine T.block ?_ | (apply T.cond_true; rfl) | (apply T.cond_false; rfl) | (apply T.test; rfl; (with_reducible (first | exact Is.ndec | exact Is.dec | exact Is.not | ((fail_if_success exact Is.litT); (fail_if_success exact Is.litF); exact Is.base))); intro _; rotate_left; intro _; rotate_right) | (apply TL.skip; rfl; rfl; rfl) | (apply TL.skip_none; rfl; rfl) | (apply TL.val; rfl; rfl; (apply V.len_row; rfl; rfl; rfl; rfl; (exact lmem))) | (apply TL.val; rfl; rfl; (first | exact vpure | exact vread)) | (apply TL.x; rfl; rfl; (first | exact xgrow | exact xput); intro _ _) | (apply TL.guard; rfl; rfl; rfl; (with_reducible (first | exact Is.ndec | exact Is.dec | exact Is.not | ((fail_if_success exact Is.litT); (fail_if_success exact Is.litF); exact Is.base))); intro _; rotate_left; intro _; rotate_right)))
      all_goals (try contradiction)
      all_goals (try (exfalso; omega))
      exact N.ret1 rfl (by (exact rvx)) fun w hst => hend hn hst (List.Mem.head _) (fun h => hz h.2)
end Go.Proofs.YtfbhcemlnojejaaDoor
