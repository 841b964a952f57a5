/- Walks: entries of the cache, valid or not. -/
import Derived.Test.YtogcofeencgipaaGreatDoorZWL
import Derived.Test.YtogcofeencgipaaGreatDoorZNF
import Derived.Test.YtogcofeencgipaaGreatDoorZNK
import Derived.Test.YtogcofeencgipaaGreatDoorZWF
namespace Go.Proofs.YtogcofeencgipaaGreatDoor
set_option linter.unusedVariables false
set_option linter.unusedSimpArgs false
open Go Go.RowKit
open Enc (enc)
set_option maxRecDepth 20000

set_option maxHeartbeats 4000000 in
theorem c_inForm (s : Slc Sig) (apex : Bytes) (H : Hp) (w : World) (hs : Sat H w) (hg : s.Good H) (ha : LenOk apex) : Calls Tryz.prog 161 #[s.v, strV apex] w (Ret w (.bool (sigsForm s.els apex))) := by
  have hlen := hg.len
  refine T.enter (vs := [s.v, strV apex]) (H := H) Tryz.func161 rfl rfl rfl hs ?_
  repeat (any_goals (first | refine T.seq ?_ | refine T.region ?_ | (apply T.regionD wide; rfl) | refine TL.nil ?_ | refine N.next ?_ | refine N.inBlock ?_ | refine N.exit_same ?_ | refine N.exit_then ?_ | refine N.ret_then ?_ | refine N.ret_block ?_ | (apply N.exit_other; rfl) | refine T.ret ?_ | refine T.skip ?_ | refine T.exit ?_ | refine T.block ?_ | (apply T.cond_true; rfl) | (apply T.cond_false; rfl) | (apply T.test; rfl; (with_reducible (first | exact Is.ndec | exact Is.dec | exact Is.not | ((fail_if_success exact Is.litT); (fail_if_success exact Is.litF); exact Is.base))); intro _; rotate_left; intro _; rotate_right) | (apply TL.skip; rfl; rfl; rfl) | (apply TL.skip_none; rfl; rfl) | (apply GT.skip; rfl; rfl; rfl; decide +kernel) | (apply TL.val; rfl; rfl; (first | exact vpure | exact vread)) | (apply GT.pure; rfl; rfl; rfl; rfl; (first | exact vpure); decide +kernel) | (apply GT.read; rfl; rfl; rfl; rfl; (first | exact vpure | exact vread); decide +kernel) | (apply GT.done; decide +kernel; apply N.ofQ) | (apply GT.adv; rfl) | (apply TL.x; rfl; rfl; (first | exact xgrow | exact xput); intro _ _) | (apply GS.grow; rfl; rfl; (first | exact xgrow); intro _ _) | (apply GS.eff; rfl; decide +kernel; rfl; (first | exact xput); intro _ _) | (apply TL.guard; rfl; rfl; rfl; (with_reducible (first | exact Is.ndec | exact Is.dec | exact Is.not | ((fail_if_success exact Is.litT); (fail_if_success exact Is.litF); exact Is.base))); intro _; rotate_left; intro _; rotate_right) | (apply GT.guard; rfl; rfl; rfl; rfl; (with_reducible (first | exact Is.ndec | exact Is.dec | exact Is.not | ((fail_if_success exact Is.litT); (fail_if_success exact Is.litF); exact Is.base))); intro _; rotate_left; intro _; rotate_right) | (apply GT.fork1; decide +kernel) | (apply GT.fork2 1; decide +kernel) | (apply GT.fork2 2; decide +kernel) | (apply GT.fork2 3; decide +kernel) | (apply GT.fork2 4; decide +kernel) | (apply GT.fork2 5; decide +kernel) | (apply GT.fork2 6; decide +kernel) | (apply GT.fork2 7; decide +kernel) | (apply GT.fork2 8; decide +kernel) | (apply GT.fork2 9; decide +kernel) | (apply GT.fork2 10; decide +kernel) | (apply GT.fork2 11; decide +kernel) | (apply GT.fork2 12; decide +kernel) | (apply GT.fork2 13; decide +kernel) | (apply GT.fork2 14; decide +kernel) | (apply GT.fork2 15; decide +kernel) | (apply GT.fork2 16; decide +kernel) | (apply GT.fork2 17; decide +kernel) | (apply GT.fork2 18; decide +kernel) | (apply GT.fork2 19; decide +kernel) | (apply GT.fork2 20; decide +kernel) | (apply GT.fork2 21; decide +kernel) | (apply GT.fork2 22; decide +kernel) | (apply GT.fork2 23; decide +kernel)))
  all_goals (try (first | (apply N.ret_bool; rfl; (exact rvx)) | (apply N.ret_int; rfl; (exact rvx)) | (apply N.ret_val; rfl; (exact rvx))))
  · exact form_long (by omega)
  · refine T.loop (G := Nat) (fun k => [(0, s.v), (1, strV apex), (10, s.v), (11, intV s.len), (12, intV k)]) (fun _ => H) (fun _ => []) (fun k => k ≤ s.len ∧ FormTo s.els apex k) (fun k => s.len - k) 0 ⟨Nat.zero_le _, fun j _ h => by omega⟩ (by (repeat (first | exact True.intro | refine ⟨rfl, ?_⟩ | refine Sub.int rfl (by omega) ?_))) rfl (by (first | exact List.Sublist.refl _ | exact List.nil_sublist _ | exact List.Sublist.cons _ (List.Sublist.refl _) | exact List.Sublist.cons _ (List.Sublist.cons _ (List.Sublist.refl _)))) ?_
    rintro k ⟨hk, hrel⟩
    by_cases hlt : k < s.len
    · have hpos : 0 < s.len := by omega
      have hkl : k < s.els.length := by omega
      repeat (any_goals (first | refine T.seq ?_ | refine T.region ?_ | (apply T.regionD wide; rfl) | refine TL.nil ?_ | refine N.next ?_ | refine N.inBlock ?_ | refine N.exit_same ?_ | refine N.exit_then ?_ | refine N.ret_then ?_ | refine N.ret_block ?_ | (apply N.exit_other; rfl) | refine T.ret ?_ | refine T.skip ?_ | refine T.exit ?_ | refine T.block ?_ | (apply T.cond_true; rfl) | (apply T.cond_false; rfl) | (apply T.test; rfl; (with_reducible (first | exact Is.ndec | exact Is.dec | exact Is.not | ((fail_if_success exact Is.litT); (fail_if_success exact Is.litF); exact Is.base))); intro _; rotate_left; intro _; rotate_right) | (apply TL.skip; rfl; rfl; rfl) | (apply TL.skip_none; rfl; rfl) | (apply GT.skip; rfl; rfl; rfl; decide +kernel) | (apply TL.x; rfl; rfl; (apply X.storeTo 0 (enc s.els[k]); rfl; rfl; rfl; rfl; rfl; rfl; rfl; rfl; rfl; rfl); intro _ _) | (apply GS.eff; rfl; decide +kernel; rfl; (apply X.storeTo 0 (enc s.els[k]); rfl; rfl; rfl; rfl; rfl; rfl; rfl; rfl; rfl; rfl); intro _ _) | (apply TL.val; rfl; rfl; (first | exact vpure | exact vread)) | (apply GT.pure; rfl; rfl; rfl; rfl; (first | exact vpure); decide +kernel) | (apply GT.read; rfl; rfl; rfl; rfl; (first | exact vpure | exact vread); decide +kernel) | (apply GT.done; decide +kernel; apply N.ofQ) | (apply GT.adv; rfl) | (apply TL.x; rfl; rfl; (first | exact xgrow | exact xput); intro _ _) | (apply GS.grow; rfl; rfl; (first | exact xgrow); intro _ _) | (apply GS.eff; rfl; decide +kernel; rfl; (first | exact xput); intro _ _) | (apply TL.guard; rfl; rfl; rfl; (with_reducible (first | exact Is.ndec | exact Is.dec | exact Is.not | ((fail_if_success exact Is.litT); (fail_if_success exact Is.litF); exact Is.base))); intro _; rotate_left; intro _; rotate_right) | (apply GT.guard; rfl; rfl; rfl; rfl; (with_reducible (first | exact Is.ndec | exact Is.dec | exact Is.not | ((fail_if_success exact Is.litT); (fail_if_success exact Is.litF); exact Is.base))); intro _; rotate_left; intro _; rotate_right) | (apply GT.fork1; decide +kernel) | (apply GT.fork2 1; decide +kernel) | (apply GT.fork2 2; decide +kernel) | (apply GT.fork2 3; decide +kernel) | (apply GT.fork2 4; decide +kernel) | (apply GT.fork2 5; decide +kernel) | (apply GT.fork2 6; decide +kernel) | (apply GT.fork2 7; decide +kernel) | (apply GT.fork2 8; decide +kernel) | (apply GT.fork2 9; decide +kernel) | (apply GT.fork2 10; decide +kernel) | (apply GT.fork2 11; decide +kernel) | (apply GT.fork2 12; decide +kernel) | (apply GT.fork2 13; decide +kernel) | (apply GT.fork2 14; decide +kernel) | (apply GT.fork2 15; decide +kernel) | (apply GT.fork2 16; decide +kernel) | (apply GT.fork2 17; decide +kernel) | (apply GT.fork2 18; decide +kernel) | (apply GT.fork2 19; decide +kernel) | (apply GT.fork2 20; decide +kernel) | (apply GT.fork2 21; decide +kernel) | (apply GT.fork2 22; decide +kernel) | (apply GT.fork2 23; decide +kernel)))
      all_goals (try simp only [show ((k : Int) - 1).toNat = k - 1 by omega] at *)
      all_goals (try (exfalso; omega))
      all_goals first
        | ((refine N.round (k + 1) ?_ ?_ ?_ ?_ ?_; rotate_left 2; (repeat (first | exact True.intro | refine ⟨rfl, ?_⟩ | refine Sub.int rfl (by omega) ?_)); rfl; (first | exact List.Sublist.refl _ | exact List.nil_sublist _ | exact List.Sublist.cons _ (List.Sublist.refl _) | exact List.Sublist.cons _ (List.Sublist.cons _ (List.Sublist.refl _))))
           · exact ⟨by omega, form_up hrel hkl ⟨by assumption, ⟨by omega, by omega⟩, ⟨by omega, by omega⟩, by assumption, by assumption, ⟨by omega, by omega, by omega⟩, fun h0 => by first | omega | trace_state⟩⟩
           · omega)
        | (refine N.ret_bool rfl (by (exact rvx)) (form_no hkl ?_)
           rintro ⟨f1, ⟨f2, f3⟩, ⟨f4, f5⟩, f6, f7, ⟨f8, f9, f10⟩, f11⟩
           first
             | omega
             | exact absurd f1 (by assumption)
             | exact absurd f6 (by assumption)
             | exact absurd f7 (by assumption)
             | (have := f11 (by omega); omega))
        | trace_state
    · repeat (any_goals (first | refine T.seq ?_ | refine T.region ?_ | (apply T.regionD wide; rfl) | refine TL.nil ?_ | refine N.next ?_ | refine N.inBlock ?_ | refine N.exit_same ?_ | refine N.exit_then ?_ | refine N.ret_then ?_ | refine N.ret_block ?_ | (apply N.exit_other; rfl) | refine T.ret ?_ | refine T.skip ?_ | refine T.exit ?_ | refine T.block ?_ | (apply T.cond_true; rfl) | (apply T.cond_false; rfl) | (apply T.test; rfl; (with_reducible (first | exact Is.ndec | exact Is.dec | exact Is.not | ((fail_if_success exact Is.litT); (fail_if_success exact Is.litF); exact Is.base))); intro _; rotate_left; intro _; rotate_right) | (apply TL.skip; rfl; rfl; rfl) | (apply TL.skip_none; rfl; rfl) | (apply GT.skip; rfl; rfl; rfl; decide +kernel) | (apply TL.val; rfl; rfl; (first | exact vpure | exact vread)) | (apply GT.pure; rfl; rfl; rfl; rfl; (first | exact vpure); decide +kernel) | (apply GT.read; rfl; rfl; rfl; rfl; (first | exact vpure | exact vread); decide +kernel) | (apply GT.done; decide +kernel; apply N.ofQ) | (apply GT.adv; rfl) | (apply TL.x; rfl; rfl; (first | exact xgrow | exact xput); intro _ _) | (apply GS.grow; rfl; rfl; (first | exact xgrow); intro _ _) | (apply GS.eff; rfl; decide +kernel; rfl; (first | exact xput); intro _ _) | (apply TL.guard; rfl; rfl; rfl; (with_reducible (first | exact Is.ndec | exact Is.dec | exact Is.not | ((fail_if_success exact Is.litT); (fail_if_success exact Is.litF); exact Is.base))); intro _; rotate_left; intro _; rotate_right) | (apply GT.guard; rfl; rfl; rfl; rfl; (with_reducible (first | exact Is.ndec | exact Is.dec | exact Is.not | ((fail_if_success exact Is.litT); (fail_if_success exact Is.litF); exact Is.base))); intro _; rotate_left; intro _; rotate_right) | (apply GT.fork1; decide +kernel) | (apply GT.fork2 1; decide +kernel) | (apply GT.fork2 2; decide +kernel) | (apply GT.fork2 3; decide +kernel) | (apply GT.fork2 4; decide +kernel) | (apply GT.fork2 5; decide +kernel) | (apply GT.fork2 6; decide +kernel) | (apply GT.fork2 7; decide +kernel) | (apply GT.fork2 8; decide +kernel) | (apply GT.fork2 9; decide +kernel) | (apply GT.fork2 10; decide +kernel) | (apply GT.fork2 11; decide +kernel) | (apply GT.fork2 12; decide +kernel) | (apply GT.fork2 13; decide +kernel) | (apply GT.fork2 14; decide +kernel) | (apply GT.fork2 15; decide +kernel) | (apply GT.fork2 16; decide +kernel) | (apply GT.fork2 17; decide +kernel) | (apply GT.fork2 18; decide +kernel) | (apply GT.fork2 19; decide +kernel) | (apply GT.fork2 20; decide +kernel) | (apply GT.fork2 21; decide +kernel) | (apply GT.fork2 22; decide +kernel) | (apply GT.fork2 23; decide +kernel)))
      all_goals (try (exfalso; omega))
      all_goals (try (first | (apply N.ret_bool; rfl; (exact rvx)) | (apply N.ret_int; rfl; (exact rvx)) | (apply N.ret_val; rfl; (exact rvx))))
      all_goals first
        | exact form_yes (by omega) (fun j hj _ => hrel j hj (by omega))
        | trace_state
end Go.Proofs.YtogcofeencgipaaGreatDoor
namespace Go.Proofs.YtogcofeencgipaaGreatDoor
set_option linter.unusedVariables false
set_option linter.unusedSimpArgs false
open Go Go.RowKit
open Enc (enc)
set_option maxRecDepth 20000

theorem entryOK_iff {e : Entry} (h1 : e.signed.set.data.els.length = e.signed.set.data.len) (h2 : e.signed.sigs.els.length = e.signed.sigs.len) : entryOK e.c = true ↔ inZone e.signed.set.name e.zone = true ∧ (1 ≤ e.til ∧ e.til ≤ 20100001) ∧ (e.signed.set.data.len = 0 → (1 ≤ e.signed.set.typ ∧ e.signed.set.typ ≤ 8) ∧ (0 ≤ e.signed.set.life ∧ e.signed.set.life ≤ 100000) ∧ e.signed.sigs.len = 0) ∧ (e.signed.set.data.len ≠ 0 → setOK e.signed.set.c = true ∧ sigsForm e.signed.sigs.els e.zone = true) := by
  have hd : denial e.c = decide (e.signed.set.data.len = 0) := by
    unfold denial
    refine decide_eq_decide.2 ?_
    show e.signed.set.data.els = [] ↔ _
    rw [← h1]; exact List.length_eq_zero_iff.symm
  have hs : (e.c.signed.sigs = []) ↔ e.signed.sigs.len = 0 := by
    show e.signed.sigs.els = [] ↔ _
    rw [← h2]; exact List.length_eq_zero_iff.symm
  unfold entryOK
  rw [hd]
  show (inZone e.signed.set.name e.zone && decide (1 ≤ e.til ∧ e.til ≤ 20100001) && (if decide (e.signed.set.data.len = 0) = true then decide (1 ≤ e.signed.set.typ ∧ e.signed.set.typ ≤ 8) && decide (0 ≤ e.signed.set.life ∧ e.signed.set.life ≤ 100000) && decide (e.c.signed.sigs = []) else setOK e.signed.set.c && sigsForm e.signed.sigs.els e.zone)) = true ↔ _
  by_cases h0 : e.signed.set.data.len = 0
  · simp only [h0, decide_true, if_true, Bool.and_eq_true, decide_eq_true_eq, hs, and_assoc, forall_const, ne_eq, not_true_eq_false, false_implies, and_true]
  · simp only [h0, decide_false, Bool.false_eq_true, if_false, Bool.and_eq_true, decide_eq_true_eq, and_assoc, false_implies, true_and, ne_eq, not_false_eq_true, forall_const]
theorem c_validEntry (e : Entry) (H : Hp) (w : World) (hs : Sat H w) (hR : Rules H) (hg : Enc.good H e) : Calls Tryz.prog 100 #[.agg (enc e).toArray] w (Ret w (.bool (entryOK e.c))) := by
  have h1 := hg.1.1.2.2.2.len
  have h2 := hg.1.2.len
  have hi := entryOK_iff h1 h2
  refine T.enter (vs := [.agg (enc e).toArray]) (H := H) Tryz.func100 rfl rfl rfl hs ?_
  repeat (any_goals (first | refine T.seq ?_ | refine T.region ?_ | refine TL.nil ?_ | refine N.next ?_ | refine N.inBlock ?_ | refine N.exit_same ?_ | refine N.exit_then ?_ | refine N.ret_then ?_ | refine N.ret_block ?_ | (apply N.exit_other; rfl) | refine T.ret ?_ | refine T.skip ?_ | refine T.exit ?_ | refine T.block ?_ | (apply T.cond_true; rfl) | (apply T.cond_false; rfl) | (apply T.test; rfl; (with_reducible (first | exact Is.ndec | exact Is.dec | exact Is.not | ((fail_if_success exact Is.litT); (fail_if_success exact Is.litF); exact Is.base))); intro _; rotate_left; intro _; rotate_right) | (apply TL.skip; rfl; rfl; rfl) | (apply TL.skip_none; rfl; rfl) | (apply TL.x; rfl; rfl; (apply X.storeTo 0 (enc e.signed.set); rfl; rfl; rfl; rfl; rfl; rfl; rfl; rfl; rfl; rfl); intro _ _) | (apply TL.call0 (f := 158) Tryz.call158; rfl; rfl; rfl; (exact fun _ hs => c_belongs _ _ _ _ hs.sat hg.1.1.1 hg.2.1)) | (apply TL.call0 (f := 159) Tryz.call159; rfl; rfl; rfl; (exact fun _ hs => c_clife _ _ _ hs.sat)) | (apply TL.call0 (f := 160) Tryz.call160; rfl; rfl; rfl; (exact fun _ hs => c_recordValid e.signed.set _ _ hs.sat hR hg.1.1)) | (apply TL.call0 (f := 161) Tryz.call161; rfl; rfl; rfl; (exact fun _ hs => c_inForm e.signed.sigs e.zone _ _ hs.sat hg.1.2 hg.2.1)) | (apply TL.val; rfl; rfl; (first | exact vpure | exact vread)) | (apply TL.x; rfl; rfl; (first | exact xgrow | exact xput); intro _ _) | (apply TL.guard; rfl; rfl; rfl; (with_reducible (first | exact Is.ndec | exact Is.dec | exact Is.not | ((fail_if_success exact Is.litT); (fail_if_success exact Is.litF); exact Is.base))); intro _; rotate_left; intro _; rotate_right)))
  all_goals (try (first | (apply N.ret_bool; rfl; (exact rvx)) | (apply N.ret_int; rfl; (exact rvx)) | (apply N.ret_val; rfl; (exact rvx))))
  all_goals (rw [Bool.eq_iff_iff, hi])
  all_goals first
    | (simp [*]; done)
    | exact ⟨fun h => ⟨by assumption, ⟨by omega, by omega⟩, fun h0 => by omega, fun _ => ⟨by assumption, h⟩⟩, fun h => (h.2.2.2 (by omega)).2⟩
    | (simp [*]; omega)
    | trace_state
theorem check_s {P : Program} {t : TypeId} (h : P.underlying t = some .string) (e : Bool) (a : Bytes) (w : World) : (Instr.checkKey e 9999 t (strV a)).run P w = .ok () w := by
  unfold Instr.checkKey
  rw [Sem.run_bind, run_underlying h w]; rfl
theorem check_i {P : Program} {t : TypeId} (h : P.underlying t = some (.int .i64)) (e : Bool) (a : Int) (w : World) : (Instr.checkKey e 9999 t (intV a)).run P w = .ok () w := by
  unfold Instr.checkKey
  rw [Sem.run_bind, run_underlying h w]; rfl
theorem key_map : KeyG Tryz.prog 148 keyV where
  find := run_findG (kd := .struct (Tryz.prog.fieldsOf 148)) (by kernel_rfl) (fun _ _ => rfl) (fun a b w => eq_key a b w)
  check := fun e a w => by
    have hS : Tryz.prog.underlying 148 = some (.struct (Tryz.prog.fieldsOf 148)) := by kernel_rfl
    obtain ⟨a1, a2, a3⟩ := a
    unfold keyV
    rw [show (10000 : Nat) = 9999 + 1 from rfl, Instr.checkKey]
    simp only [Sem.run_bind, run_underlying hS, Result.andThen_ok]
    rw [← Array.forIn_toList]
    simp only [Program.fieldsOf, Tryz.underlying148, List.toList_toArray]
    have p1 : (part 9 #[strV a1, intV a2, strV a3] 0).run Tryz.prog w = .ok (strV a1) w := run_part rfl rfl rfl w
    have p2 : (part 3 #[strV a1, intV a2, strV a3] 1).run Tryz.prog w = .ok (intV a2) w := run_part rfl rfl rfl w
    have p3 : (part 9 #[strV a1, intV a2, strV a3] 2).run Tryz.prog w = .ok (strV a3) w := run_part rfl rfl rfl w
    simp [List.forIn_cons, Sem.run_bind, p1, p2, p3, check_s Tryz.underlying9, check_i Tryz.underlying3]
  bits := fun a => by
    have hs : ∀ x : Bytes, Instr.sameBits 9999 (strV x) (strV x) = true := fun x => by
      simp only [Instr.sameBits]; rw [beq_toListBytes, bytes_eq]; simp
    have hi : ∀ x : Int, Instr.sameBits 9999 (intV x) (intV x) = true := fun x => by simp [Instr.sameBits]
    show ((3 : Nat) == 3 && (Instr.sameBits 9999 (strV a.1) (strV a.1) && (Instr.sameBits 9999 (intV a.2.1) (intV a.2.1) && (Instr.sameBits 9999 (strV a.2.2) (strV a.2.2) && true)))) = true
    rw [hs, hs, hi]; rfl
def keysUp (l : List Entry) (k : Nat) : List (Bytes × Int × Bytes) := (l.take k).map fun e => keyC e.c
theorem keys_up {l : List Entry} {k : Nat} (hk : k < l.length) : keysUp l (k + 1) = keysUp l k ++ [keyC l[k].c] := by
  unfold keysUp
  rw [List.take_succ_eq_append_getElem hk, List.map_append]; rfl
theorem keys_all (c : Cache) : keysUp c.list.els c.list.els.length = c.c.map keyC := by
  unfold keysUp Cache.c
  rw [List.take_length, List.map_map]; rfl
/-- What the rounds of 'Valid' know. -/
def CacheTo (l : List Entry) (k : Nat) : Prop := (∀ j (h : j < l.length), j < k → entryOK l[j].c = true) ∧ (keysUp l k).Nodup
theorem cacheTo_up {l : List Entry} {k : Nat} (h : CacheTo l k) (hk : k < l.length) (h1 : entryOK l[k].c = true) (h2 : keyC l[k].c ∉ keysUp l k) : CacheTo l (k + 1) := by
  refine ⟨fun j hj hjk => ?_, ?_⟩
  · by_cases e : j = k
    · subst e; exact h1
    · exact h.1 j hj (by omega)
  · rw [keys_up hk, List.nodup_append]
    refine ⟨h.2, by simp, fun a ha b hb => ?_⟩
    rw [List.mem_singleton] at hb
    subst hb
    rintro rfl
    exact h2 ha
theorem cacheOK_to {c : Cache} : cacheOK c.c = true ↔ c.list.els.length ≤ 400 ∧ CacheTo c.list.els c.list.els.length := by
  rw [cacheOK_iff]
  unfold CacheTo
  rw [keys_all]
  have hl : c.c.length = c.list.els.length := List.length_map _
  rw [hl]
  refine and_congr_right fun _ => and_congr_left fun _ => ⟨fun h j hj _ => h _ (List.mem_map.2 ⟨_, List.getElem_mem hj, rfl⟩), fun h e he => ?_⟩
  obtain ⟨x, hx, rfl⟩ := List.mem_map.1 he
  obtain ⟨j, hj, rfl⟩ := List.mem_iff_getElem.1 hx
  exact h j hj hj
theorem cacheTo_le {l : List Entry} {k m : Nat} (h : CacheTo l m) (hk : k ≤ m) : CacheTo l k := by
  refine ⟨fun j hj hjk => h.1 j hj (by omega), ?_⟩
  have : keysUp l k = (keysUp l m).take k := by
    unfold keysUp
    rw [← List.map_take, List.take_take, Nat.min_eq_left hk]
  rw [this]
  exact List.Nodup.sublist (List.take_sublist _ _) h.2
theorem cache_no {c : Cache} {k : Nat} (hk : k < c.list.els.length) (h : entryOK c.list.els[k].c = false ∨ keyC c.list.els[k].c ∈ keysUp c.list.els k) : false = cacheOK c.c := by
  rw [eq_comm, Bool.eq_false_iff]
  intro hc
  have ht := (cacheOK_to.1 hc).2
  rcases h with h | h
  · rw [ht.1 k hk hk] at h; cases h
  · have := (cacheTo_le ht (show k + 1 ≤ _ from hk)).2
    rw [keys_up hk, List.nodup_append] at this
    exact this.2.2 _ h _ (List.mem_singleton.2 rfl) rfl
abbrev keyMap (l : List (Bytes × Int × Bytes)) : Obj := mObj keyV (l.map fun x => (x, Value.bool true))
set_option maxHeartbeats 2000000 in
theorem c_cacheValid (c : Cache) (H : Hp) (w : World) (hs : Sat H w) (hR : Rules H) (hg : Enc.good H c) : Calls Tryz.prog 44 #[.agg (enc c).toArray] w (Ret w (.bool (cacheOK c.c))) := by
  have hg' : c.list.Good H := hg
  have hlen := hg'.len
  refine T.enter (vs := [.agg (enc c).toArray]) (H := H) Tryz.func44 rfl rfl rfl hs ?_
  repeat (any_goals (first | refine T.seq ?_ | refine T.region ?_ | refine TL.nil ?_ | refine N.next ?_ | refine N.inBlock ?_ | refine N.exit_same ?_ | refine N.exit_then ?_ | refine N.ret_then ?_ | refine N.ret_block ?_ | (apply N.exit_other; rfl) | refine T.ret ?_ | refine T.skip ?_ | refine T.exit ?_ | refine T.block ?_ | (apply T.cond_true; rfl) | (apply T.cond_false; rfl) | (apply T.test; rfl; (with_reducible (first | exact Is.ndec | exact Is.dec | exact Is.not | ((fail_if_success exact Is.litT); (fail_if_success exact Is.litF); exact Is.base))); intro _; rotate_left; intro _; rotate_right) | (apply TL.skip; rfl; rfl; rfl) | (apply TL.skip_none; rfl; rfl) | (apply TL.x; rfl; rfl; (apply X.makeMap keyV; rfl); intro _ _) | (apply TL.val; rfl; rfl; (first | exact vpure | exact vread)) | (apply TL.x; rfl; rfl; (first | exact xgrow | exact xput); intro _ _) | (apply TL.guard; rfl; rfl; rfl; (with_reducible (first | exact Is.ndec | exact Is.dec | exact Is.not | ((fail_if_success exact Is.litT); (fail_if_success exact Is.litF); exact Is.base))); intro _; rotate_left; intro _; rotate_right)))
  all_goals (try (first | (apply N.ret_bool; rfl; (exact rvx)) | (apply N.ret_int; rfl; (exact rvx)) | (apply N.ret_val; rfl; (exact rvx))))
  · rw [eq_comm, Bool.eq_false_iff]
    intro hc
    have := (cacheOK_to.1 hc).1
    omega
  rename_i bc _ hh bm _
  refine T.loop (G := Nat) (fun k => [(3, .map (some bm)), (12, c.list.v), (13, intV c.list.len), (14, intV k)]) (fun _ => H) (fun k => [.any bm (keyMap (keysUp c.list.els k))]) (fun k => k ≤ c.list.len ∧ CacheTo c.list.els k) (fun k => c.list.len - k) 0 ⟨Nat.zero_le _, fun j _ h => by omega, List.nodup_nil⟩ (by (repeat (first | exact True.intro | refine ⟨rfl, ?_⟩ | refine Sub.int rfl (by omega) ?_))) rfl (by repeat (first | exact List.Sublist.refl _ | exact List.nil_sublist _ | apply List.Sublist.cons_cons | apply List.Sublist.cons)) ?_
  rintro k ⟨hk, hrel⟩
  by_cases hlt : k < c.list.len
  · have hkl : k < c.list.els.length := by omega
    have hge := hg'.el hlt
    repeat (any_goals (first | refine T.seq ?_ | refine T.region ?_ | refine TL.nil ?_ | refine N.next ?_ | refine N.inBlock ?_ | refine N.exit_same ?_ | refine N.exit_then ?_ | refine N.ret_then ?_ | refine N.ret_block ?_ | (apply N.exit_other; rfl) | refine T.ret ?_ | refine T.skip ?_ | refine T.exit ?_ | refine T.block ?_ | (apply T.cond_true; rfl) | (apply T.cond_false; rfl) | (apply T.test; rfl; (with_reducible (first | exact Is.ndec | exact Is.dec | exact Is.not | ((fail_if_success exact Is.litT); (fail_if_success exact Is.litF); exact Is.base))); intro _; rotate_left; intro _; rotate_right) | (apply TL.skip; rfl; rfl; rfl) | (apply TL.skip_none; rfl; rfl) | (apply TL.x; rfl; rfl; (apply X.storeTo 0 (enc c.list.els[k]); rfl; rfl; rfl; rfl; rfl; rfl; rfl; rfl; rfl; rfl); intro _ _) | (apply TL.call0 (f := 100) Tryz.call100; rfl; rfl; rfl; (exact fun _ hs => c_validEntry c.list.els[k] _ _ hs.sat hR hge)) | (apply TL.call0 (f := 101) Tryz.call101; rfl; rfl; rfl; (exact fun _ hs => c_keyOf c.list.els[k] _ _ hs.sat hge)) | (apply TL.val; rfl; rfl; (apply V.mlookupG (mk := keyV) (keyC c.list.els[k].c); rfl; rfl; rfl; exact key_map; rfl; rfl; (exact lmem); exact aGet_set _ _)) | (apply TL.x; rfl; rfl; (apply X.mputG (mk := keyV) 1 (keyC c.list.els[k].c); rfl; rfl; exact key_map; rfl; rfl; rfl; rfl; simp only [List.set_cons_zero, List.set_cons_succ]; rw [aPut_set (by assumption), ← keys_up]); intro _ _) | (apply TL.val; rfl; rfl; (first | exact vpure | exact vread)) | (apply TL.x; rfl; rfl; (first | exact xgrow | exact xput); intro _ _) | (apply TL.guard; rfl; rfl; rfl; (with_reducible (first | exact Is.ndec | exact Is.dec | exact Is.not | ((fail_if_success exact Is.litT); (fail_if_success exact Is.litF); exact Is.base))); intro _; rotate_left; intro _; rotate_right)))
    all_goals (try (exfalso; omega))
    all_goals (try (first | (apply N.ret_bool; rfl; (exact rvx)) | (apply N.ret_int; rfl; (exact rvx)) | (apply N.ret_val; rfl; (exact rvx))))
    · exact cache_no hkl (.inl (by assumption))
    · exact cache_no hkl (.inr (by assumption))
    · (refine N.round (k + 1) ?_ ?_ ?_ ?_ ?_; rotate_left 2; (repeat (first | exact True.intro | refine ⟨rfl, ?_⟩ | refine Sub.int rfl (by omega) ?_)); rfl; (first | exact List.Sublist.refl _ | exact List.nil_sublist _ | exact List.Sublist.cons _ (List.Sublist.refl _) | exact List.Sublist.cons _ (List.Sublist.cons _ (List.Sublist.refl _))))
      · exact ⟨by omega, cacheTo_up hrel hkl (by assumption) (by assumption)⟩
      · omega
  · repeat (any_goals (first | refine T.seq ?_ | refine T.region ?_ | refine TL.nil ?_ | refine N.next ?_ | refine N.inBlock ?_ | refine N.exit_same ?_ | refine N.exit_then ?_ | refine N.ret_then ?_ | refine N.ret_block ?_ | (apply N.exit_other; rfl) | refine T.ret ?_ | refine T.skip ?_ | refine T.exit ?_ | refine T.block ?_ | (apply T.cond_true; rfl) | (apply T.cond_false; rfl) | (apply T.test; rfl; (with_reducible (first | exact Is.ndec | exact Is.dec | exact Is.not | ((fail_if_success exact Is.litT); (fail_if_success exact Is.litF); exact Is.base))); intro _; rotate_left; intro _; rotate_right) | (apply TL.skip; rfl; rfl; rfl) | (apply TL.skip_none; rfl; rfl) | (apply TL.val; rfl; rfl; (first | exact vpure | exact vread)) | (apply TL.x; rfl; rfl; (first | exact xgrow | exact xput); intro _ _) | (apply TL.guard; rfl; rfl; rfl; (with_reducible (first | exact Is.ndec | exact Is.dec | exact Is.not | ((fail_if_success exact Is.litT); (fail_if_success exact Is.litF); exact Is.base))); intro _; rotate_left; intro _; rotate_right)))
    all_goals (try (exfalso; omega))
    all_goals (try (first | (apply N.ret_bool; rfl; (exact rvx)) | (apply N.ret_int; rfl; (exact rvx)) | (apply N.ret_val; rfl; (exact rvx))))
    exact ((cacheOK_to).2 ⟨by omega, cacheTo_le hrel (by omega)⟩).symm
end Go.Proofs.YtogcofeencgipaaGreatDoor
