import Derived.Test.YthabgdbhgcgemaaGreatDoorQData
import Derived.Test.YthabgdbhgcgemaaGreatDoorQTac
namespace Go.Proofs.YthabgdbhgcgemaaGreatDoor
set_option linter.unusedVariables false
set_option linter.unusedSimpArgs false
open Go
open Enc (enc)
instance : Enc Int where
  size := 1
  enc i := [intV i]
  good _ i := I64 i
  len _ := rfl
  mono _ h := h
  one _ := rfl
  pos := by decide
end Go.Proofs.YthabgdbhgcgemaaGreatDoor
namespace Go.Proofs.YthabgdbhgcgemaaGreatDoor
set_option linter.unusedVariables false
set_option linter.unusedSimpArgs false
open Go Go.RowKit
set_option maxRecDepth 20000
theorem c_rwithin (x lo hi : Int) (H : Hp) (w : World) (hs : Sat H w) : Calls Tryz.prog 154 #[intV x, intV lo, intV hi] w (Ret w (.bool (decide (lo ≤ x ∧ x ≤ hi)))) := by
  refine T.enter (vs := [intV x, intV lo, intV hi]) (H := H) Tryz.func154 rfl rfl rfl hs ?_
  repeat (any_goals (first | refine T.seq ?_ | refine T.region ?_ | refine TL.nil ?_ | refine N.next ?_ | refine T.ret ?_ | (apply TL.skip; rfl; rfl; rfl) | (apply TL.val; rfl; rfl; (first | exact vpure | exact vread)) | (apply TL.guard; rfl; rfl; rfl; (exact isx); intro _; rotate_left; intro _; rotate_right)))
  all_goals (try (first | (apply N.ret_bool; rfl; (exact rvx)) | (apply N.ret_int; rfl; (exact rvx)) | (apply N.ret_val; rfl; (exact rvx))))
  all_goals (first | rfl | (rw [Bool.eq_iff_iff]; simp only [decide_eq_true_eq, Bool.false_eq_true, Bool.true_eq_false, true_iff, false_iff, iff_true, iff_false]; omega))
theorem c_within02 (x lo hi : Int) (H : Hp) (w : World) (hs : Sat H w) : Calls Tryz.prog 144 #[intV x, intV lo, intV hi] w (Ret w (.bool (decide (lo ≤ x ∧ x ≤ hi)))) := by
  refine T.enter (vs := [intV x, intV lo, intV hi]) (H := H) Tryz.func144 rfl rfl rfl hs ?_
  repeat (any_goals (first | refine T.seq ?_ | refine T.region ?_ | refine TL.nil ?_ | refine N.next ?_ | refine T.ret ?_ | (apply TL.skip; rfl; rfl; rfl) | (apply TL.val; rfl; rfl; (first | exact vpure | exact vread)) | (apply TL.guard; rfl; rfl; rfl; (exact isx); intro _; rotate_left; intro _; rotate_right)))
  all_goals (try (first | (apply N.ret_bool; rfl; (exact rvx)) | (apply N.ret_int; rfl; (exact rvx)) | (apply N.ret_val; rfl; (exact rvx))))
  all_goals (first | rfl | (rw [Bool.eq_iff_iff]; simp only [decide_eq_true_eq, Bool.false_eq_true, Bool.true_eq_false, true_iff, false_iff, iff_true, iff_false]; omega))
theorem c_bwithin (x lo hi : Int) (H : Hp) (w : World) (hs : Sat H w) : Calls Tryz.prog 195 #[.int .u8 x, .int .u8 lo, .int .u8 hi] w (Ret w (.bool (decide (lo ≤ x ∧ x ≤ hi)))) := by
  refine T.enter (vs := [.int .u8 x, .int .u8 lo, .int .u8 hi]) (H := H) Tryz.func195 rfl rfl rfl hs ?_
  repeat (any_goals (first | refine T.seq ?_ | refine T.region ?_ | refine TL.nil ?_ | refine N.next ?_ | refine T.ret ?_ | (apply TL.skip; rfl; rfl; rfl) | (apply TL.val; rfl; rfl; (first | exact vpure | exact vread)) | (apply TL.guard; rfl; rfl; rfl; (exact isx); intro _; rotate_left; intro _; rotate_right)))
  all_goals (try (first | (apply N.ret_bool; rfl; (exact rvx)) | (apply N.ret_int; rfl; (exact rvx)) | (apply N.ret_val; rfl; (exact rvx))))
  all_goals (first | rfl | (rw [Bool.eq_iff_iff]; simp only [decide_eq_true_eq, Bool.false_eq_true, Bool.true_eq_false, true_iff, false_iff, iff_true, iff_false]; omega))
theorem c_single (x : Int) (H : Hp) (w : World) (hs : Sat H w) : Calls Tryz.prog 145 #[intV x] w (Ret w (.bool (decide (x = 3 ∨ x = 4)))) := by
  refine T.enter (vs := [intV x]) (H := H) Tryz.func145 rfl rfl rfl hs ?_
  repeat (any_goals (first | refine T.seq ?_ | refine T.region ?_ | refine TL.nil ?_ | refine N.next ?_ | refine T.ret ?_ | (apply TL.skip; rfl; rfl; rfl) | (apply TL.val; rfl; rfl; (first | exact vpure | exact vread)) | (apply TL.guard; rfl; rfl; rfl; (exact isx); intro _; rotate_left; intro _; rotate_right)))
  all_goals (try (first | (apply N.ret_bool; rfl; (exact rvx)) | (apply N.ret_int; rfl; (exact rvx)) | (apply N.ret_val; rfl; (exact rvx))))
  all_goals (first | rfl | (rw [Bool.eq_iff_iff]; simp only [decide_eq_true_eq, Bool.false_eq_true, Bool.true_eq_false, true_iff, false_iff, iff_true, iff_false]; omega))
theorem c_HasPrefix0 (l p : Bytes) (H : Hp) (w : World) (hs : Sat H w) (hl : LenOk l) (hp : LenOk p) : Calls Tryz.prog 153 #[strV l, strV p] w (Ret w (.bool (decide (l.take p.length = p)))) := by
  refine T.enter (vs := [strV l, strV p]) (H := H) Tryz.func153 rfl rfl rfl hs ?_
  repeat (any_goals (first | refine T.seq ?_ | refine T.region ?_ | refine TL.nil ?_ | refine N.next ?_ | refine T.ret ?_ | (apply TL.skip; rfl; rfl; rfl) | (apply TL.val; rfl; rfl; (first | exact vpure | exact vread)) | (apply TL.guard; rfl; rfl; rfl; (exact isx); intro _; rotate_left; intro _; rotate_right)))
  all_goals (try (first | (apply N.ret_bool; rfl; (exact rvx)) | (apply N.ret_int; rfl; (exact rvx)) | (apply N.ret_val; rfl; (exact rvx))))
  · rfl
  · rename_i h
    refine (decide_eq_false fun e => h ?_).symm
    have := congrArg List.length e
    rw [List.length_take] at this; omega
theorem c_HasPrefix (l p : Bytes) (H : Hp) (w : World) (hs : Sat H w) (hl : LenOk l) (hp : LenOk p) : Calls Tryz.prog 128 #[strV l, strV p] w (Ret w (.bool (decide (l.take p.length = p)))) := by
  refine T.enter (vs := [strV l, strV p]) (H := H) Tryz.func128 rfl rfl rfl hs ?_
  repeat (any_goals (first | refine T.seq ?_ | refine T.region ?_ | refine TL.nil ?_ | refine N.next ?_ | refine T.ret ?_ | (apply TL.call0 (f := 153) Tryz.call153; rfl; rfl; rfl; (exact fun _ hs => c_HasPrefix0 _ _ _ _ hs.sat hl hp)) | (apply TL.val; rfl; rfl; (first | exact vpure | exact vread))))
  all_goals (try (first | (apply N.ret_bool; rfl; (exact rvx)) | (apply N.ret_int; rfl; (exact rvx)) | (apply N.ret_val; rfl; (exact rvx))))
  rfl
theorem c_isWildcard (l : Bytes) (H : Hp) (w : World) (hs : Sat H w) (hl : LenOk l) : Calls Tryz.prog 155 #[strV l] w (Ret w (.bool (wild l))) := by
  refine T.enter (vs := [strV l]) (H := H) Tryz.func155 rfl rfl rfl hs ?_
  repeat (any_goals (first | refine T.seq ?_ | refine T.region ?_ | refine TL.nil ?_ | refine N.next ?_ | refine T.ret ?_ | (apply TL.call0 (f := 128) Tryz.call128; rfl; rfl; rfl; (exact fun _ hs => c_HasPrefix _ [42] _ _ hs.sat hl (by decide))) | (apply TL.val; rfl; rfl; (first | exact vpure | exact vread))))
  all_goals (try (first | (apply N.ret_bool; rfl; (exact rvx)) | (apply N.ret_int; rfl; (exact rvx)) | (apply N.ret_val; rfl; (exact rvx))))
  rfl
theorem c_Wild (l : Bytes) (H : Hp) (w : World) (hs : Sat H w) (hl : LenOk l) : Calls Tryz.prog 146 #[strV l] w (Ret w (.bool (wild l))) := by
  refine T.enter (vs := [strV l]) (H := H) Tryz.func146 rfl rfl rfl hs ?_
  repeat (any_goals (first | refine T.seq ?_ | refine T.region ?_ | refine TL.nil ?_ | refine N.next ?_ | refine T.ret ?_ | (apply TL.skip; rfl; rfl; rfl) | (apply TL.val; rfl; rfl; (first | exact vpure | exact vread)) | (apply TL.guard; rfl; rfl; rfl; (exact isx); intro _; rotate_left; intro _; rotate_right)))
  all_goals (try (first | (apply N.ret_bool; rfl; (exact rvx)) | (apply N.ret_int; rfl; (exact rvx)) | (apply N.ret_val; rfl; (exact rvx))))
  all_goals (rw [wild_eq, Bool.eq_iff_iff]; simp only [decide_eq_true_eq, Bool.false_eq_true, Bool.true_eq_false, true_iff, false_iff, iff_true, iff_false]; omega)
theorem c_isLabel (l : Bytes) (H : Hp) (w : World) (hs : Sat H w) (hl : LenOk l) : Calls Tryz.prog 181 #[strV l] w (Ret w (.bool (isWord 45 12 l))) := by
  have hl' : l.length ≤ 9223372036854775807 := hl
  refine T.enter (vs := [strV l]) (H := H) Tryz.func181 rfl rfl rfl hs ?_
  repeat (any_goals (first | refine T.seq ?_ | refine T.region ?_ | refine TL.nil ?_ | refine N.next ?_ | refine N.ret_then ?_ | refine T.ret ?_ | refine T.skip ?_ | refine T.block ?_ | (apply T.cond_true; rfl) | (apply T.test; rfl; (exact isx); intro _; rotate_left; intro _; rotate_right) | (apply TL.skip; rfl; rfl; rfl) | (apply TL.val; rfl; rfl; (first | exact vpure | exact vread)) | (apply TL.guard; rfl; rfl; rfl; (exact isx); intro _; rotate_left; intro _; rotate_right)))
  all_goals (try (first | (apply N.ret_bool; rfl; (exact rvx)) | (apply N.ret_int; rfl; (exact rvx)) | (apply N.ret_val; rfl; (exact rvx))))
  all_goals (try simp only [show ((l.length : Int) - 1).toNat = l.length - 1 by omega] at *)
  all_goals first
    | exact (isWord_no (by omega)).symm
    | exact (isWord_noAt 0 (by omega) (by unfold WordAt; omega)).symm
    | exact (isWord_noAt (l.length - 1) (by omega) (by unfold WordAt; omega)).symm
    | skip
  refine T.loop (G := Nat) (fun k => [(0, strV l), (27, intV l.length), (28, intV k)]) (fun _ => H) (fun _ => []) (fun k => k ≤ l.length ∧ ∀ j, j < k → WordAt 45 l j) (fun k => l.length - k) 0 ⟨Nat.zero_le _, by omega⟩ (by (repeat (first | exact True.intro | refine ⟨rfl, ?_⟩ | refine Sub.int rfl (by omega) ?_))) rfl (by (first | exact List.Sublist.refl _ | exact List.nil_sublist _ | exact List.Sublist.cons _ (List.Sublist.refl _) | exact List.Sublist.cons _ (List.Sublist.cons _ (List.Sublist.refl _)))) ?_
  rintro k ⟨hk, hrel⟩
  repeat (any_goals (first | refine T.seq ?_ | refine T.region ?_ | refine TL.nil ?_ | refine N.next ?_ | refine N.inBlock ?_ | refine N.exit_same ?_ | refine N.exit_then ?_ | refine N.ret_then ?_ | refine N.ret_block ?_ | refine T.ret ?_ | refine T.skip ?_ | refine T.exit ?_ | refine T.block ?_ | (apply T.cond_false; rfl) | (apply T.test; rfl; (exact isx); intro _; rotate_left; intro _; rotate_right) | (apply TL.skip; rfl; rfl; rfl) | (apply TL.val; rfl; rfl; (first | exact vpure | exact vread)) | (apply TL.guard; rfl; rfl; rfl; (exact isx); intro _; rotate_left; intro _; rotate_right)))
  all_goals (try (first | (apply N.ret_bool; rfl; (exact rvx)) | (apply N.ret_int; rfl; (exact rvx)) | (apply N.ret_val; rfl; (exact rvx))))
  all_goals (try (refine N.round (k + 1) ?_ ?_ ?_ ?_ ?_; rotate_left 2; (repeat (first | exact True.intro | refine ⟨rfl, ?_⟩ | refine Sub.int rfl (by omega) ?_)); rfl; (first | exact List.Sublist.refl _ | exact List.nil_sublist _ | exact List.Sublist.cons _ (List.Sublist.refl _) | exact List.Sublist.cons _ (List.Sublist.cons _ (List.Sublist.refl _)))))
  all_goals first
    | omega
    | exact (isWord_noAt k (by omega) (by unfold WordAt; omega)).symm
    | exact ⟨by omega, up_lt hrel (by unfold WordAt; have : k = 0 ∨ k = l.length - 1 ∨ (0 < k ∧ k + 1 < l.length) := by omega
                                      rcases this with h | h | h
                                      · subst h; omega
                                      · subst h; omega
                                      · omega)⟩
    | exact (isWord_no (by omega)).symm
    | exact (isWord_yes (by omega) (by omega) (fun j hj => hrel j (by omega))).symm
    | (by_cases h : l.length ≤ 12
       · rw [decide_eq_true (by omega), isWord_yes (by omega) h fun j hj => hrel j (by omega)]
       · rw [decide_eq_false (by omega), isWord_no (by omega)])
theorem c_Label (l : Bytes) (H : Hp) (w : World) (hs : Sat H w) (hl : LenOk l) : Calls Tryz.prog 142 #[strV l] w (Ret w (.bool (isWord 45 12 l))) := by
  have hl' : l.length ≤ 9223372036854775807 := hl
  refine T.enter (vs := [strV l]) (H := H) Tryz.func142 rfl rfl rfl hs ?_
  repeat (any_goals (first | refine T.seq ?_ | refine T.region ?_ | refine TL.nil ?_ | refine N.next ?_ | refine T.block ?_ | (apply TL.val; rfl; rfl; (first | exact vpure | exact vread))))
  all_goals (try (first | (apply N.ret_bool; rfl; (exact rvx)) | (apply N.ret_int; rfl; (exact rvx)) | (apply N.ret_val; rfl; (exact rvx))))
  all_goals (try simp only [show ((l.length : Int) - 1).toNat = l.length - 1 by omega] at *)
  all_goals first
    | exact (isWord_no (by omega)).symm
    | exact (isWord_noAt 0 (by omega) (by unfold WordAt; omega)).symm
    | exact (isWord_noAt (l.length - 1) (by omega) (by unfold WordAt; omega)).symm
    | skip
  refine T.loop (G := Nat) (fun k => [(0, strV l), (3, intV k)]) (fun _ => H) (fun _ => []) (fun k => k ≤ l.length ∧ ∀ j, j < k → WordAt 45 l j) (fun k => l.length - k) 0 ⟨Nat.zero_le _, by omega⟩ (by (repeat (first | exact True.intro | refine ⟨rfl, ?_⟩ | refine Sub.int rfl (by omega) ?_))) rfl (by (first | exact List.Sublist.refl _ | exact List.nil_sublist _ | exact List.Sublist.cons _ (List.Sublist.refl _) | exact List.Sublist.cons _ (List.Sublist.cons _ (List.Sublist.refl _)))) ?_
  rintro k ⟨hk, hrel⟩
  repeat (any_goals (first | refine T.seq ?_ | refine T.region ?_ | refine TL.nil ?_ | refine N.next ?_ | refine N.inBlock ?_ | refine N.exit_same ?_ | refine N.exit_then ?_ | refine N.ret_then ?_ | refine N.ret_block ?_ | refine T.ret ?_ | refine T.skip ?_ | refine T.exit ?_ | refine T.block ?_ | (apply T.cond_true; rfl) | (apply T.cond_false; rfl) | (apply T.test; rfl; (exact isx); intro _; rotate_left; intro _; rotate_right) | (apply TL.skip; rfl; rfl; rfl) | (apply TL.val; rfl; rfl; (first | exact vpure | exact vread)) | (apply TL.guard; rfl; rfl; rfl; (exact isx); intro _; rotate_left; intro _; rotate_right)))
  all_goals (try (first | (apply N.ret_bool; rfl; (exact rvx)) | (apply N.ret_int; rfl; (exact rvx)) | (apply N.ret_val; rfl; (exact rvx))))
  all_goals (try (refine N.round (k + 1) ?_ ?_ ?_ ?_ ?_; rotate_left 2; (repeat (first | exact True.intro | refine ⟨rfl, ?_⟩ | refine Sub.int rfl (by omega) ?_)); rfl; (first | exact List.Sublist.refl _ | exact List.nil_sublist _ | exact List.Sublist.cons _ (List.Sublist.refl _) | exact List.Sublist.cons _ (List.Sublist.cons _ (List.Sublist.refl _)))))
  all_goals first
    | omega
    | exact (isWord_noAt k (by omega) (by unfold WordAt; omega)).symm
    | exact ⟨by omega, up_lt hrel (by unfold WordAt; have : k = 0 ∨ k = l.length - 1 ∨ (0 < k ∧ k + 1 < l.length) := by omega
                                      rcases this with h | h | h
                                      · subst h; omega
                                      · subst h; omega
                                      · omega)⟩
    | exact (isWord_no (by omega)).symm
    | exact (isWord_yes (by omega) (by omega) (fun j hj => hrel j (by omega))).symm
    | (by_cases h : l.length ≤ 12
       · rw [decide_eq_true (by omega), isWord_yes (by omega) h fun j hj => hrel j (by omega)]
       · rw [decide_eq_false (by omega), isWord_no (by omega)])
theorem c_isFree (l : Bytes) (H : Hp) (w : World) (hs : Sat H w) (hl : LenOk l) : Calls Tryz.prog 182 #[strV l] w (Ret w (.bool (isWord 32 40 l))) := by
  have hl' : l.length ≤ 9223372036854775807 := hl
  refine T.enter (vs := [strV l]) (H := H) Tryz.func182 rfl rfl rfl hs ?_
  repeat (any_goals (first | refine T.seq ?_ | refine T.region ?_ | refine TL.nil ?_ | refine N.next ?_ | refine N.ret_then ?_ | refine T.ret ?_ | refine T.skip ?_ | refine T.block ?_ | (apply T.cond_true; rfl) | (apply T.test; rfl; (exact isx); intro _; rotate_left; intro _; rotate_right) | (apply TL.skip; rfl; rfl; rfl) | (apply TL.call0 (f := 154) Tryz.call154; rfl; rfl; rfl; (exact fun _ hs => c_rwithin _ _ _ _ _ hs.sat)) | (apply TL.val; rfl; rfl; (first | exact vpure | exact vread)) | (apply TL.guard; rfl; rfl; rfl; (exact isx); intro _; rotate_left; intro _; rotate_right)))
  all_goals (try (first | (apply N.ret_bool; rfl; (exact rvx)) | (apply N.ret_int; rfl; (exact rvx)) | (apply N.ret_val; rfl; (exact rvx))))
  all_goals (try simp only [show ((l.length : Int) - 1).toNat = l.length - 1 by omega] at *)
  all_goals first
    | exact (isWord_no (by omega)).symm
    | exact (isWord_noAt 0 (by omega) (by unfold WordAt; omega)).symm
    | exact (isWord_noAt (l.length - 1) (by omega) (by unfold WordAt; omega)).symm
    | skip
  refine T.loop (G := Nat) (fun k => [(0, strV l), (23, intV l.length), (24, intV k)]) (fun _ => H) (fun _ => []) (fun k => k ≤ l.length ∧ ∀ j, j < k → WordAt 32 l j) (fun k => l.length - k) 0 ⟨Nat.zero_le _, by omega⟩ (by (repeat (first | exact True.intro | refine ⟨rfl, ?_⟩ | refine Sub.int rfl (by omega) ?_))) rfl (by (first | exact List.Sublist.refl _ | exact List.nil_sublist _ | exact List.Sublist.cons _ (List.Sublist.refl _) | exact List.Sublist.cons _ (List.Sublist.cons _ (List.Sublist.refl _)))) ?_
  rintro k ⟨hk, hrel⟩
  repeat (any_goals (first | refine T.seq ?_ | refine T.region ?_ | refine TL.nil ?_ | refine N.next ?_ | refine N.inBlock ?_ | refine N.exit_same ?_ | refine N.exit_then ?_ | refine N.ret_then ?_ | refine N.ret_block ?_ | refine T.ret ?_ | refine T.skip ?_ | refine T.exit ?_ | refine T.block ?_ | (apply T.cond_false; rfl) | (apply T.test; rfl; (exact isx); intro _; rotate_left; intro _; rotate_right) | (apply TL.skip; rfl; rfl; rfl) | (apply TL.call0 (f := 195) Tryz.call195; rfl; rfl; rfl; (exact fun _ hs => c_bwithin _ _ _ _ _ hs.sat)) | (apply TL.val; rfl; rfl; (first | exact vpure | exact vread)) | (apply TL.guard; rfl; rfl; rfl; (exact isx); intro _; rotate_left; intro _; rotate_right)))
  all_goals (try (first | (apply N.ret_bool; rfl; (exact rvx)) | (apply N.ret_int; rfl; (exact rvx)) | (apply N.ret_val; rfl; (exact rvx))))
  all_goals (try (refine N.round (k + 1) ?_ ?_ ?_ ?_ ?_; rotate_left 2; (repeat (first | exact True.intro | refine ⟨rfl, ?_⟩ | refine Sub.int rfl (by omega) ?_)); rfl; (first | exact List.Sublist.refl _ | exact List.nil_sublist _ | exact List.Sublist.cons _ (List.Sublist.refl _) | exact List.Sublist.cons _ (List.Sublist.cons _ (List.Sublist.refl _)))))
  all_goals first
    | omega
    | exact (isWord_noAt k (by omega) (by unfold WordAt; omega)).symm
    | exact ⟨by omega, up_lt hrel (by unfold WordAt; have : k = 0 ∨ k = l.length - 1 ∨ (0 < k ∧ k + 1 < l.length) := by omega
                                      rcases this with h | h | h
                                      · subst h; omega
                                      · subst h; omega
                                      · omega)⟩
    | exact (isWord_no (by omega)).symm
    | exact (isWord_yes (by omega) (by omega) (fun j hj => hrel j (by omega))).symm
    | (by_cases h : l.length ≤ 40
       · rw [decide_eq_true (by omega), isWord_yes (by omega) h fun j hj => hrel j (by omega)]
       · rw [decide_eq_false (by omega), isWord_no (by omega)])
theorem c_text (l : Bytes) (H : Hp) (w : World) (hs : Sat H w) (hl : LenOk l) : Calls Tryz.prog 179 #[strV l] w (Ret w (.bool (isWord 32 40 l))) := by
  have hl' : l.length ≤ 9223372036854775807 := hl
  refine T.enter (vs := [strV l]) (H := H) Tryz.func179 rfl rfl rfl hs ?_
  repeat (any_goals (first | refine T.seq ?_ | refine T.region ?_ | refine TL.nil ?_ | refine N.next ?_ | refine N.ret_then ?_ | refine T.ret ?_ | refine T.skip ?_ | refine T.block ?_ | (apply T.cond_true; rfl) | (apply T.test; rfl; (exact isx); intro _; rotate_left; intro _; rotate_right) | (apply TL.skip; rfl; rfl; rfl) | (apply TL.val; rfl; rfl; (first | exact vpure | exact vread)) | (apply TL.guard; rfl; rfl; rfl; (exact isx); intro _; rotate_left; intro _; rotate_right)))
  all_goals (try (first | (apply N.ret_bool; rfl; (exact rvx)) | (apply N.ret_int; rfl; (exact rvx)) | (apply N.ret_val; rfl; (exact rvx))))
  all_goals (try simp only [show ((l.length : Int) - 1).toNat = l.length - 1 by omega] at *)
  all_goals first
    | exact (isWord_no (by omega)).symm
    | exact (isWord_noAt 0 (by omega) (by unfold WordAt; omega)).symm
    | exact (isWord_noAt (l.length - 1) (by omega) (by unfold WordAt; omega)).symm
    | skip
  refine T.loop (G := Nat) (fun k => [(0, strV l), (3, intV l.length), (4, intV k)]) (fun _ => H) (fun _ => []) (fun k => k ≤ l.length ∧ ∀ j, j < k → WordAt 32 l j) (fun k => l.length - k) 0 ⟨Nat.zero_le _, by omega⟩ (by (repeat (first | exact True.intro | refine ⟨rfl, ?_⟩ | refine Sub.int rfl (by omega) ?_))) rfl (by (first | exact List.Sublist.refl _ | exact List.nil_sublist _ | exact List.Sublist.cons _ (List.Sublist.refl _) | exact List.Sublist.cons _ (List.Sublist.cons _ (List.Sublist.refl _)))) ?_
  rintro k ⟨hk, hrel⟩
  repeat (any_goals (first | refine T.seq ?_ | refine T.region ?_ | refine TL.nil ?_ | refine N.next ?_ | refine N.inBlock ?_ | refine N.exit_same ?_ | refine N.exit_then ?_ | refine N.ret_then ?_ | refine N.ret_block ?_ | refine T.ret ?_ | refine T.skip ?_ | refine T.exit ?_ | refine T.block ?_ | (apply T.cond_false; rfl) | (apply T.test; rfl; (exact isx); intro _; rotate_left; intro _; rotate_right) | (apply TL.skip; rfl; rfl; rfl) | (apply TL.val; rfl; rfl; (first | exact vpure | exact vread)) | (apply TL.guard; rfl; rfl; rfl; (exact isx); intro _; rotate_left; intro _; rotate_right)))
  all_goals (try (first | (apply N.ret_bool; rfl; (exact rvx)) | (apply N.ret_int; rfl; (exact rvx)) | (apply N.ret_val; rfl; (exact rvx))))
  all_goals (try (refine N.round (k + 1) ?_ ?_ ?_ ?_ ?_; rotate_left 2; (repeat (first | exact True.intro | refine ⟨rfl, ?_⟩ | refine Sub.int rfl (by omega) ?_)); rfl; (first | exact List.Sublist.refl _ | exact List.nil_sublist _ | exact List.Sublist.cons _ (List.Sublist.refl _) | exact List.Sublist.cons _ (List.Sublist.cons _ (List.Sublist.refl _)))))
  all_goals first
    | omega
    | exact (isWord_noAt k (by omega) (by unfold WordAt; omega)).symm
    | exact ⟨by omega, up_lt hrel (by unfold WordAt; have : k = 0 ∨ k = l.length - 1 ∨ (0 < k ∧ k + 1 < l.length) := by omega
                                      rcases this with h | h | h
                                      · subst h; omega
                                      · subst h; omega
                                      · omega)⟩
    | exact (isWord_no (by omega)).symm
    | exact (isWord_yes (by omega) (by omega) (fun j hj => hrel j (by omega))).symm
    | (by_cases h : l.length ≤ 40
       · rw [decide_eq_true (by omega), isWord_yes (by omega) h fun j hj => hrel j (by omega)]
       · rw [decide_eq_false (by omega), isWord_no (by omega)])
end Go.Proofs.YthabgdbhgcgemaaGreatDoor
