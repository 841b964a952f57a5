/- Walks: the reference of the cache. -/
import Derived.Test.YtogcofeencgipaaGreatDoorZNM
import Derived.Test.YtogcofeencgipaaGreatDoorZWH
import Derived.Test.YtogcofeencgipaaGreatDoorZWJ
import Derived.Test.YtogcofeencgipaaGreatDoorZNA
import Derived.Test.YtogcofeencgipaaGreatDoorZNQ
namespace Go.Proofs.YtogcofeencgipaaGreatDoor
set_option linter.unusedVariables false
set_option linter.unusedSimpArgs false
open Go Go.RowKit
open Enc (enc)
set_option maxRecDepth 20000

theorem name_len {l : Bytes} (h : nameOK l = true) : l.length ≤ 1000000 := by
  rcases (nameOK_iff l).1 h with h0 | ⟨h0, _⟩
  · rw [h0]; decide
  · omega
theorem c_Inside (s z : Bytes) (H : Hp) (w : World) (hs : Sat H w) (hl : LenOk s) (hz : LenOk z) : Calls Tryz.prog 41 #[strV s, strV z] w (Ret w (.bool (inZone s z))) := by
  refine T.enter (vs := [strV s, strV z]) (H := H) Tryz.func41 rfl rfl rfl hs ?_
  repeat (any_goals (first | refine T.seq ?_ | refine T.region ?_ | refine TL.nil ?_ | refine N.next ?_ | refine N.inBlock ?_ | refine N.exit_same ?_ | refine N.exit_then ?_ | refine N.ret_then ?_ | refine N.ret_block ?_ | (apply N.exit_other; rfl) | refine T.ret ?_ | refine T.skip ?_ | refine T.exit ?_ | refine T.block ?_ | (apply T.cond_true; rfl) | (apply T.cond_false; rfl) | (apply T.test; rfl; (with_reducible (first | exact Is.ndec | exact Is.dec | exact Is.not | ((fail_if_success exact Is.litT); (fail_if_success exact Is.litF); exact Is.base))); intro _; rotate_left; intro _; rotate_right) | (apply TL.skip; rfl; rfl; rfl) | (apply TL.skip_none; rfl; rfl) | (apply TL.callE (f := 92) [strV s] Tryz.call92; rfl; rfl; rfl; rfl; (exact fun _ hs => c_nameValid01 s _ _ hs.sat hl)) | (apply TL.callE (f := 92) [strV z] Tryz.call92; rfl; rfl; rfl; rfl; (exact fun _ hs => c_nameValid01 z _ _ hs.sat hz)) | (apply TL.callE (f := 93) [strV z] Tryz.call93; rfl; rfl; rfl; rfl; (exact fun _ hs => c_Wild01 z _ _ hs.sat (name_len (by assumption)))) | (apply TL.callE (f := 46) [strV s, strV z] Tryz.call46; rfl; rfl; rfl; rfl; (exact fun _ hs => c_In s z _ _ hs.sat (name_len (by assumption)) (name_len (by assumption)))) | (apply TL.val; rfl; rfl; (first | exact vpure | exact vread)) | (apply TL.x; rfl; rfl; (first | exact xgrow | exact xput); intro _ _) | (apply TL.guard; rfl; rfl; rfl; (with_reducible (first | exact Is.ndec | exact Is.dec | exact Is.not | ((fail_if_success exact Is.litT); (fail_if_success exact Is.litF); exact Is.base))); intro _; rotate_left; intro _; rotate_right)))
  all_goals (try (first | (apply N.ret_bool; rfl; (exact rvx)) | (apply N.ret_int; rfl; (exact rvx)) | (apply N.ret_val; rfl; (exact rvx))))
  all_goals (unfold inZone; (try simp only [wildN_star] at *); simp [*])
theorem denial_len {e : Entry} {H : Hp} (hg : Enc.good H e) : denial e.c = decide (e.signed.set.data.len = 0) := by
  have h1 := hg.1.1.2.2.2.len
  unfold denial
  refine decide_eq_decide.2 ?_
  show e.signed.set.data.els = [] ↔ _
  rw [← h1]; exact List.length_eq_zero_iff.symm
theorem c_Denial (e : Entry) (H : Hp) (w : World) (hs : Sat H w) (hg : Enc.good H e) : Calls Tryz.prog 36 #[.agg (enc e).toArray] w (Ret w (.bool (denial e.c))) := by
  refine T.enter (vs := [.agg (enc e).toArray]) (H := H) Tryz.func36 rfl rfl rfl hs ?_
  rw [denial_len hg]
  repeat (any_goals (first | refine T.seq ?_ | refine T.region ?_ | refine TL.nil ?_ | refine N.next ?_ | refine N.inBlock ?_ | refine N.exit_same ?_ | refine N.exit_then ?_ | refine N.ret_then ?_ | refine N.ret_block ?_ | (apply N.exit_other; rfl) | refine T.ret ?_ | refine T.skip ?_ | refine T.exit ?_ | refine T.block ?_ | (apply T.cond_true; rfl) | (apply T.cond_false; rfl) | (apply T.test; rfl; (with_reducible (first | exact Is.ndec | exact Is.dec | exact Is.not | ((fail_if_success exact Is.litT); (fail_if_success exact Is.litF); exact Is.base))); intro _; rotate_left; intro _; rotate_right) | (apply TL.skip; rfl; rfl; rfl) | (apply TL.skip_none; rfl; rfl) | (apply TL.val; rfl; rfl; (first | exact vpure | exact vread)) | (apply TL.x; rfl; rfl; (first | exact xgrow | exact xput); intro _ _) | (apply TL.guard; rfl; rfl; rfl; (with_reducible (first | exact Is.ndec | exact Is.dec | exact Is.not | ((fail_if_success exact Is.litT); (fail_if_success exact Is.litF); exact Is.base))); intro _; rotate_left; intro _; rotate_right)))
  all_goals (try (first | (apply N.ret_bool; rfl; (exact rvx)) | (apply N.ret_int; rfl; (exact rvx)) | (apply N.ret_val; rfl; (exact rvx))))
  all_goals (refine decide_eq_decide.2 ?_; omega)
theorem entry_eq {a b : Entry} : a.c = b.c ↔ a.signed.c = b.signed.c ∧ a.zone = b.zone ∧ a.til = b.til := by
  unfold Entry.c
  simp only [EntryC.mk.injEq]
theorem c_SameEntry (a b : Entry) (H : Hp) (w : World) (hs : Sat H w) (ha : Enc.good H a) (hb : Enc.good H b) : Calls Tryz.prog 98 #[.agg (enc a).toArray, .agg (enc b).toArray] w (Ret w (.bool (decide (a.c = b.c)))) := by
  refine T.enter (vs := [.agg (enc a).toArray, .agg (enc b).toArray]) (H := H) Tryz.func98 rfl rfl rfl hs ?_
  repeat (any_goals (first | refine T.seq ?_ | refine T.region ?_ | refine TL.nil ?_ | refine N.next ?_ | refine N.inBlock ?_ | refine N.exit_same ?_ | refine N.exit_then ?_ | refine N.ret_then ?_ | refine N.ret_block ?_ | (apply N.exit_other; rfl) | refine T.ret ?_ | refine T.skip ?_ | refine T.exit ?_ | refine T.block ?_ | (apply T.cond_true; rfl) | (apply T.cond_false; rfl) | (apply T.test; rfl; (with_reducible (first | exact Is.ndec | exact Is.dec | exact Is.not | ((fail_if_success exact Is.litT); (fail_if_success exact Is.litF); exact Is.base))); intro _; rotate_left; intro _; rotate_right) | (apply TL.skip; rfl; rfl; rfl) | (apply TL.skip_none; rfl; rfl) | (apply TL.callE (f := 43) [.agg (enc a.signed).toArray, .agg (enc b.signed).toArray] Tryz.call43; rfl; rfl; rfl; rfl; (exact fun _ hs => c_SameSigned a.signed b.signed _ _ hs.sat ha.1 hb.1)) | (apply TL.val; rfl; rfl; (first | exact vpure | exact vread)) | (apply TL.x; rfl; rfl; (first | exact xgrow | exact xput); intro _ _) | (apply TL.guard; rfl; rfl; rfl; (with_reducible (first | exact Is.ndec | exact Is.dec | exact Is.not | ((fail_if_success exact Is.litT); (fail_if_success exact Is.litF); exact Is.base))); intro _; rotate_left; intro _; rotate_right)))
  all_goals (try (first | (apply N.ret_bool; rfl; (exact rvx)) | (apply N.ret_int; rfl; (exact rvx)) | (apply N.ret_val; rfl; (exact rvx))))
  all_goals (rw [Bool.eq_iff_iff]; simp [entry_eq, *])
theorem c_Same22 (a b : Cache) (H : Hp) (w : World) (hs : Sat H w) (ha : Enc.good H a) (hb : Enc.good H b) : Calls Tryz.prog 35 #[.agg (enc a).toArray, .agg (enc b).toArray] w (Ret w (.bool (decide (a.c = b.c)))) := by
  have a4 : a.list.Good H := ha
  have b4 : b.list.Good H := hb
  have hla := a4.len
  have hlb := b4.len
  have lima := a4.lim
  have limb := b4.lim
  refine T.enter (vs := [.agg (enc a).toArray, .agg (enc b).toArray]) (H := H) Tryz.func35 rfl rfl rfl hs ?_
  repeat (any_goals (first | refine T.seq ?_ | refine T.region ?_ | (apply T.regionD wide; rfl) | refine TL.nil ?_ | refine N.next ?_ | refine N.inBlock ?_ | refine N.exit_same ?_ | refine N.exit_then ?_ | refine N.ret_then ?_ | refine N.ret_block ?_ | (apply N.exit_other; rfl) | refine T.ret ?_ | refine T.skip ?_ | refine T.exit ?_ | refine T.block ?_ | (apply T.cond_true; rfl) | (apply T.cond_false; rfl) | (apply T.test; rfl; (with_reducible (first | exact Is.ndec | exact Is.dec | exact Is.not | ((fail_if_success exact Is.litT); (fail_if_success exact Is.litF); exact Is.base))); intro _; rotate_left; intro _; rotate_right) | (apply TL.skip; rfl; rfl; rfl) | (apply TL.skip_none; rfl; rfl) | (apply GT.skip; rfl; rfl; rfl; decide +kernel) | (apply TL.val; rfl; rfl; (first | exact vpure | exact vread)) | (apply GT.pure; rfl; rfl; rfl; rfl; (first | exact vpure); decide +kernel) | (apply GT.read; rfl; rfl; rfl; rfl; (first | exact vpure | exact vread); decide +kernel) | (apply GT.done; decide +kernel; apply N.ofQ) | (apply GT.adv; rfl) | (apply TL.x; rfl; rfl; (first | exact xgrow | exact xput); intro _ _) | (apply GS.grow; rfl; rfl; (first | exact xgrow); intro _ _) | (apply GS.eff; rfl; decide +kernel; rfl; (first | exact xput); intro _ _) | (apply TL.guard; rfl; rfl; rfl; (with_reducible (first | exact Is.ndec | exact Is.dec | exact Is.not | ((fail_if_success exact Is.litT); (fail_if_success exact Is.litF); exact Is.base))); intro _; rotate_left; intro _; rotate_right) | (apply GT.guard; rfl; rfl; rfl; rfl; (with_reducible (first | exact Is.ndec | exact Is.dec | exact Is.not | ((fail_if_success exact Is.litT); (fail_if_success exact Is.litF); exact Is.base))); intro _; rotate_left; intro _; rotate_right) | (apply GT.fork1; decide +kernel) | (apply GT.fork2 1; decide +kernel) | (apply GT.fork2 2; decide +kernel) | (apply GT.fork2 3; decide +kernel) | (apply GT.fork2 4; decide +kernel) | (apply GT.fork2 5; decide +kernel) | (apply GT.fork2 6; decide +kernel) | (apply GT.fork2 7; decide +kernel) | (apply GT.fork2 8; decide +kernel) | (apply GT.fork2 9; decide +kernel) | (apply GT.fork2 10; decide +kernel) | (apply GT.fork2 11; decide +kernel) | (apply GT.fork2 12; decide +kernel) | (apply GT.fork2 13; decide +kernel) | (apply GT.fork2 14; decide +kernel) | (apply GT.fork2 15; decide +kernel) | (apply GT.fork2 16; decide +kernel) | (apply GT.fork2 17; decide +kernel) | (apply GT.fork2 18; decide +kernel) | (apply GT.fork2 19; decide +kernel) | (apply GT.fork2 20; decide +kernel) | (apply GT.fork2 21; decide +kernel) | (apply GT.fork2 22; decide +kernel) | (apply GT.fork2 23; decide +kernel)))
  all_goals (try (first | (apply N.ret_bool; rfl; (exact rvx)) | (apply N.ret_int; rfl; (exact rvx)) | (apply N.ret_val; rfl; (exact rvx))))
  all_goals first
    | exact (decide_eq_false (fun h => by
        have e5 := congrArg List.length h
        simp only [Cache.c, List.length_map] at e5
        omega)).symm
    | skip
  rename_i x _ y _ h1
  refine T.loop (G := Nat) (fun k => [(2, .pointer (some ⟨x, 0, none⟩)), (3, .pointer (some ⟨y, 0, none⟩)), (5, intV k)]) (fun _ => H) (fun _ => [.blk y 46 (enc b), .blk x 46 (enc a)]) (fun k => k ≤ a.list.len ∧ EqTo Entry.c a.list.els b.list.els k) (fun k => a.list.len - k) 0 ⟨Nat.zero_le _, eqTo_zero⟩ (by (repeat (first | exact True.intro | refine ⟨rfl, ?_⟩ | refine Sub.int rfl (by omega) ?_))) rfl (by (first | exact List.Sublist.refl _ | exact List.nil_sublist _ | exact List.Sublist.cons _ (List.Sublist.refl _) | exact List.Sublist.cons _ (List.Sublist.cons _ (List.Sublist.refl _)))) ?_
  rintro k ⟨hk, hrel⟩
  repeat (any_goals (first | refine T.seq ?_ | refine T.region ?_ | (apply T.regionD wide; rfl) | refine TL.nil ?_ | refine N.next ?_ | refine N.inBlock ?_ | refine N.exit_same ?_ | refine N.exit_then ?_ | refine N.ret_then ?_ | refine N.ret_block ?_ | (apply N.exit_other; rfl) | refine T.ret ?_ | refine T.skip ?_ | refine T.exit ?_ | refine T.block ?_ | (apply T.cond_true; rfl) | (apply T.cond_false; rfl) | (apply T.test; rfl; (with_reducible (first | exact Is.ndec | exact Is.dec | exact Is.not | ((fail_if_success exact Is.litT); (fail_if_success exact Is.litF); exact Is.base))); intro _; rotate_left; intro _; rotate_right) | (apply TL.skip; rfl; rfl; rfl) | (apply TL.skip_none; rfl; rfl) | (apply GT.skip; rfl; rfl; rfl; decide +kernel) | (apply GS.grow; rfl; rfl; (apply X.callR0 (f := 98) Tryz.call98; rfl; rfl; (exact fun _ hs => c_SameEntry _ _ _ _ hs.sat (a4.el (by omega)) (b4.el (by omega)))); intro _ _) | (apply TL.call0 (f := 98) Tryz.call98; rfl; rfl; rfl; (exact fun _ hs => c_SameEntry _ _ _ _ hs.sat (a4.el (by omega)) (b4.el (by omega)))) | (apply GT.call0 (f := 98) Tryz.call98; rfl; rfl; rfl; rfl; rfl; (exact fun _ hs => c_SameEntry _ _ _ _ hs.sat (a4.el (by omega)) (b4.el (by omega))); decide +kernel) | (apply TL.val; rfl; rfl; (first | exact vpure | exact vread)) | (apply GT.pure; rfl; rfl; rfl; rfl; (first | exact vpure); decide +kernel) | (apply GT.read; rfl; rfl; rfl; rfl; (first | exact vpure | exact vread); decide +kernel) | (apply GT.done; decide +kernel; apply N.ofQ) | (apply GT.adv; rfl) | (apply TL.x; rfl; rfl; (first | exact xgrow | exact xput); intro _ _) | (apply GS.grow; rfl; rfl; (first | exact xgrow); intro _ _) | (apply GS.eff; rfl; decide +kernel; rfl; (first | exact xput); intro _ _) | (apply TL.guard; rfl; rfl; rfl; (with_reducible (first | exact Is.ndec | exact Is.dec | exact Is.not | ((fail_if_success exact Is.litT); (fail_if_success exact Is.litF); exact Is.base))); intro _; rotate_left; intro _; rotate_right) | (apply GT.guard; rfl; rfl; rfl; rfl; (with_reducible (first | exact Is.ndec | exact Is.dec | exact Is.not | ((fail_if_success exact Is.litT); (fail_if_success exact Is.litF); exact Is.base))); intro _; rotate_left; intro _; rotate_right) | (apply GT.fork1; decide +kernel) | (apply GT.fork2 1; decide +kernel) | (apply GT.fork2 2; decide +kernel) | (apply GT.fork2 3; decide +kernel) | (apply GT.fork2 4; decide +kernel) | (apply GT.fork2 5; decide +kernel) | (apply GT.fork2 6; decide +kernel) | (apply GT.fork2 7; decide +kernel) | (apply GT.fork2 8; decide +kernel) | (apply GT.fork2 9; decide +kernel) | (apply GT.fork2 10; decide +kernel) | (apply GT.fork2 11; decide +kernel) | (apply GT.fork2 12; decide +kernel) | (apply GT.fork2 13; decide +kernel) | (apply GT.fork2 14; decide +kernel) | (apply GT.fork2 15; decide +kernel) | (apply GT.fork2 16; decide +kernel) | (apply GT.fork2 17; decide +kernel) | (apply GT.fork2 18; decide +kernel) | (apply GT.fork2 19; decide +kernel) | (apply GT.fork2 20; decide +kernel) | (apply GT.fork2 21; decide +kernel) | (apply GT.fork2 22; decide +kernel) | (apply GT.fork2 23; decide +kernel)))
  all_goals (try (first | (apply N.ret_bool; rfl; (exact rvx)) | (apply N.ret_int; rfl; (exact rvx)) | (apply N.ret_val; rfl; (exact rvx))))
  all_goals (try (refine N.round (k + 1) ?_ ?_ ?_ ?_ ?_; rotate_left 2; (repeat (first | exact True.intro | refine ⟨rfl, ?_⟩ | refine Sub.int rfl (by omega) ?_)); rfl; (first | exact List.Sublist.refl _ | exact List.nil_sublist _ | exact List.Sublist.cons _ (List.Sublist.refl _) | exact List.Sublist.cons _ (List.Sublist.cons _ (List.Sublist.refl _)))))
  all_goals first
    | omega
    | exact ⟨by omega, eqTo_up (by omega) (by omega) hrel (by assumption)⟩
    | exact (decide_eq_false (eqTo_no (k := k) (by omega) (by omega) (by assumption))).symm
    | exact (decide_eq_true (eqTo_end (by omega) hrel (by omega))).symm
    | trace_state
end Go.Proofs.YtogcofeencgipaaGreatDoor
namespace Go.Proofs.YtogcofeencgipaaGreatDoor
set_option linter.unusedVariables false
set_option linter.unusedSimpArgs false
open Go Go.RowKit
open Enc (enc)
set_option maxRecDepth 20000

def fewE (e : EntryC) : Bool := decide (e.signed.set.data.length ≤ 20) && decide (e.signed.sigs.length ≤ 20) && decide (e.zone.length ≤ 100)
theorem fewE_iff {e : Entry} {H : Hp} (hg : Enc.good H e) : fewE e.c = true ↔ e.signed.set.data.len ≤ 20 ∧ e.signed.sigs.len ≤ 20 ∧ e.zone.length ≤ 100 := by
  have h1 := hg.1.1.2.2.2.len
  have h2 := hg.1.2.len
  have e1 : e.c.signed.set.data.length = e.signed.set.data.els.length := rfl
  have e2 : e.c.signed.sigs.length = e.signed.sigs.els.length := rfl
  have e3 : e.c.zone = e.zone := rfl
  unfold fewE
  rw [e1, e2, e3, h1, h2]
  simp only [Bool.and_eq_true, decide_eq_true_eq, and_assoc]
theorem few_iff {c : Cache} : fewC c.c = true ↔ (c.list.els.all (fun e => fewE e.c) = true ∧ c.list.els.length ≤ 410) := by
  have hl : c.c.length = c.list.els.length := List.length_map _
  unfold fewC
  rw [hl, Bool.and_eq_true, decide_eq_true_iff]
  refine and_congr_left fun _ => ?_
  show ((c.list.els.map Entry.c).all fewE) = true ↔ _
  rw [List.all_map]; rfl
set_option maxHeartbeats 2000000 in
theorem c_Few22 (c : Cache) (H : Hp) (w : World) (hs : Sat H w) (hg : Enc.good H c) : Calls Tryz.prog 40 #[.agg (enc c).toArray] w (Ret w (.bool (fewC c.c))) := by
  have hg' : c.list.Good H := hg
  have hlen := hg'.len
  have hlim := hg'.lim
  refine T.enter (vs := [.agg (enc c).toArray]) (H := H) Tryz.func40 rfl rfl rfl hs ?_
  repeat (any_goals (first | refine T.seq ?_ | refine T.region ?_ | refine TL.nil ?_ | refine N.next ?_ | refine N.inBlock ?_ | refine N.exit_same ?_ | refine N.exit_then ?_ | refine N.ret_then ?_ | refine N.ret_block ?_ | (apply N.exit_other; rfl) | refine T.ret ?_ | refine T.skip ?_ | refine T.exit ?_ | refine T.block ?_ | (apply T.cond_true; rfl) | (apply T.cond_false; rfl) | (apply T.test; rfl; (with_reducible (first | exact Is.ndec | exact Is.dec | exact Is.not | ((fail_if_success exact Is.litT); (fail_if_success exact Is.litF); exact Is.base))); intro _; rotate_left; intro _; rotate_right) | (apply TL.skip; rfl; rfl; rfl) | (apply TL.skip_none; rfl; rfl) | (apply TL.val; rfl; rfl; (first | exact vpure | exact vread)) | (apply TL.x; rfl; rfl; (first | exact xgrow | exact xput); intro _ _) | (apply TL.guard; rfl; rfl; rfl; (with_reducible (first | exact Is.ndec | exact Is.dec | exact Is.not | ((fail_if_success exact Is.litT); (fail_if_success exact Is.litF); exact Is.base))); intro _; rotate_left; intro _; rotate_right)))
  rename_i b _
  refine T.loop (G := Nat) (fun k => [(1, .pointer (some ⟨b, 0, none⟩)), (3, intV k)]) (fun _ => H) (fun _ => [.blk b 46 (enc c)]) (fun k => k ≤ c.list.len ∧ k ≤ 411 ∧ AllTo (fun e : Entry => fewE e.c) c.list.els k) (fun k => c.list.len - k) 0 ⟨Nat.zero_le _, Nat.zero_le _, allTo_zero⟩ (by (repeat (first | exact True.intro | refine ⟨rfl, ?_⟩ | refine Sub.int rfl (by omega) ?_))) rfl (by (first | exact List.Sublist.refl _ | exact List.nil_sublist _ | exact List.Sublist.cons _ (List.Sublist.refl _) | exact List.Sublist.cons _ (List.Sublist.cons _ (List.Sublist.refl _)))) ?_
  rintro k ⟨hk, hk2, hrel⟩
  by_cases hlt : k < c.list.len
  · have hkl : k < c.list.els.length := by omega
    have hge := hg'.el hlt
    have hf := fewE_iff hge
    repeat (any_goals (first | refine T.seq ?_ | refine T.region ?_ | refine TL.nil ?_ | refine N.next ?_ | refine N.inBlock ?_ | refine N.exit_same ?_ | refine N.exit_then ?_ | refine N.ret_then ?_ | refine N.ret_block ?_ | (apply N.exit_other; rfl) | refine T.ret ?_ | refine T.skip ?_ | refine T.exit ?_ | refine T.block ?_ | (apply T.cond_true; rfl) | (apply T.cond_false; rfl) | (apply T.test; rfl; (with_reducible (first | exact Is.ndec | exact Is.dec | exact Is.not | ((fail_if_success exact Is.litT); (fail_if_success exact Is.litF); exact Is.base))); intro _; rotate_left; intro _; rotate_right) | (apply TL.skip; rfl; rfl; rfl) | (apply TL.skip_none; rfl; rfl) | (apply TL.x; rfl; rfl; (apply X.storeTo 0 (enc c.list.els[k]); rfl; rfl; rfl; rfl; rfl; rfl; rfl; rfl; rfl; rfl); intro _ _) | (apply TL.val; rfl; rfl; (first | exact vpure | exact vread)) | (apply TL.x; rfl; rfl; (first | exact xgrow | exact xput); intro _ _) | (apply TL.guard; rfl; rfl; rfl; (with_reducible (first | exact Is.ndec | exact Is.dec | exact Is.not | ((fail_if_success exact Is.litT); (fail_if_success exact Is.litF); exact Is.base))); intro _; rotate_left; intro _; rotate_right)))
    all_goals (try (exfalso; omega))
    all_goals (try (first | (apply N.ret_bool; rfl; (exact rvx)) | (apply N.ret_int; rfl; (exact rvx)) | (apply N.ret_val; rfl; (exact rvx))))
    all_goals first
      | ((refine N.round (k + 1) ?_ ?_ ?_ ?_ ?_; rotate_left 2; (repeat (first | exact True.intro | refine ⟨rfl, ?_⟩ | refine Sub.int rfl (by omega) ?_)); rfl; (first | exact List.Sublist.refl _ | exact List.nil_sublist _ | exact List.Sublist.cons _ (List.Sublist.refl _) | exact List.Sublist.cons _ (List.Sublist.cons _ (List.Sublist.refl _))))
         · exact ⟨by omega, by omega, allTo_up hkl hrel (hf.2 ⟨by omega, by omega, by omega⟩)⟩
         · omega)
      | (have hb : fewE c.list.els[k].c = false := Bool.eq_false_iff.2 fun h' => by have := hf.1 h'; omega
         rw [eq_comm, Bool.eq_false_iff]
         intro hc
         have := (few_iff.1 hc).1
         rw [all_no (p := fun e : Entry => fewE e.c) hkl hb] at this
         cases this)
      | (rw [Bool.eq_iff_iff, decide_eq_true_iff, few_iff]
         exact ⟨fun h => by omega, fun h => by have := h.2; omega⟩)
      | trace_state
  · repeat (any_goals (first | refine T.seq ?_ | refine T.region ?_ | refine TL.nil ?_ | refine N.next ?_ | refine N.inBlock ?_ | refine N.exit_same ?_ | refine N.exit_then ?_ | refine N.ret_then ?_ | refine N.ret_block ?_ | (apply N.exit_other; rfl) | refine T.ret ?_ | refine T.skip ?_ | refine T.exit ?_ | refine T.block ?_ | (apply T.cond_true; rfl) | (apply T.cond_false; rfl) | (apply T.test; rfl; (with_reducible (first | exact Is.ndec | exact Is.dec | exact Is.not | ((fail_if_success exact Is.litT); (fail_if_success exact Is.litF); exact Is.base))); intro _; rotate_left; intro _; rotate_right) | (apply TL.skip; rfl; rfl; rfl) | (apply TL.skip_none; rfl; rfl) | (apply TL.val; rfl; rfl; (first | exact vpure | exact vread)) | (apply TL.x; rfl; rfl; (first | exact xgrow | exact xput); intro _ _) | (apply TL.guard; rfl; rfl; rfl; (with_reducible (first | exact Is.ndec | exact Is.dec | exact Is.not | ((fail_if_success exact Is.litT); (fail_if_success exact Is.litF); exact Is.base))); intro _; rotate_left; intro _; rotate_right)))
    all_goals (try (exfalso; omega))
    all_goals (try (first | (apply N.ret_bool; rfl; (exact rvx)) | (apply N.ret_int; rfl; (exact rvx)) | (apply N.ret_val; rfl; (exact rvx))))
    all_goals first
      | (rw [Bool.eq_iff_iff, decide_eq_true_iff, few_iff]
         exact ⟨fun h => ⟨allTo_end hrel (by omega), by omega⟩, fun h => by have := h.2; omega⟩)
      | trace_state
end Go.Proofs.YtogcofeencgipaaGreatDoor
namespace Go.Proofs.YtogcofeencgipaaGreatDoor
set_option linter.unusedVariables false
set_option linter.unusedSimpArgs false
open Go Go.RowKit
open Enc (enc)
set_option maxRecDepth 20000

def zeroCache : Cache := ⟨Slc.nil _⟩
theorem zeroCache_good (H : Hp) : Enc.good H zeroCache := Slc.nil_good
end Go.Proofs.YtogcofeencgipaaGreatDoor
namespace Go.Proofs.YtogcofeencgipaaGreatDoor
set_option linter.unusedVariables false
set_option linter.unusedSimpArgs false
open Go Go.RowKit
open Enc (enc)
set_option maxRecDepth 20000

theorem hnil : cacheOK [entryNil] = false := by decide +kernel
theorem cache_count {c : Cache} {l : List EntryC} {k : Nat} {H : Hp} (h : c.c = l) (hk : l.length = k) (hg : Enc.good H c) : c.list.len = k := by
  have h1 : c.list.els.length = c.list.len := Slc.Good.len hg
  have h2 : c.c.length = c.list.els.length := List.length_map _
  rw [← h1, ← h2, h, hk]
end Go.Proofs.YtogcofeencgipaaGreatDoor
namespace Go.Proofs.YtogcofeencgipaaGreatDoor
set_option linter.unusedVariables false
set_option linter.unusedSimpArgs false
open Go Go.RowKit
set_option maxRecDepth 20000

section
variable {P : Program} {n : FK} {S : World → Prop} {env : List (Nat × Value)}
theorem V.remE {t u : TypeId} {x y : Operand} {i j m : Int} (hm : i.tmod j = m) (hx : ev env x = some (intV i)) (hy : ev env y = some (intV j)) (hj : 0 < j) : V P n S env (.binOp .rem t x y u) (intV m) := by
  subst hm
  exact V.rem hx hy hj
end
theorem tmod_bounds {i : Int} (h : 0 ≤ i) (j : Int) (hj : 0 < j) : 0 ≤ i.tmod j ∧ i.tmod j < j := ⟨Int.tmod_nonneg j h, Int.tmod_lt_of_pos i hj⟩
end Go.Proofs.YtogcofeencgipaaGreatDoor
namespace Go.Proofs.YtogcofeencgipaaGreatDoor
set_option linter.unusedVariables false
set_option linter.unusedSimpArgs false
open Go Go.RowKit
open Enc (enc)
set_option maxRecDepth 20000

theorem clean_yes {l : List EntryC} {now : Int} (h1 : cacheOK l = true) (h2 : 0 ≤ now ∧ now ≤ 20000000) : cleanC l now = (freshC l now, 0) := by
  unfold cleanC isT
  rw [if_neg (by rw [h1, decide_eq_true h2]; decide)]
theorem c_GetV (c : Cache) (q : Question) (now : Int) {r : EntryC × Bool × Int} (h : getC c.c q now = r) {H : Hp} {w : World} (hs : Sat H w) (hR : Rules H) (hg : Enc.good H c) (hq : Enc.good H q) (hnow : I64 now) : Calls Tryz.prog 74 #[.agg (enc c).toArray, .agg (enc q).toArray, intV now] w (Gets w H r) := by
  subst h
  exact c_Get c q now H w hs hR hg hq hnow
theorem c_Question06V (q : Question) {b : Bool} (h : questionOK q = b) {H : Hp} {w : World} (hs : Sat H w) (hg : Enc.good H q) : Calls Tryz.prog 39 #[.agg (enc q).toArray] w (Ret w (.bool b)) := by
  subst h
  exact c_Question06 q H w hs hg
end Go.Proofs.YtogcofeencgipaaGreatDoor
