import Derived.Test.YtepljgpikfeklaaGreatDoorQNE
import Derived.Test.YtepljgpikfeklaaGreatDoorQNF
import Derived.Test.YtepljgpikfeklaaGreatDoorQNK
import Derived.Test.YtepljgpikfeklaaGreatDoorQWB
import Derived.Test.YtepljgpikfeklaaGreatDoorQData
namespace Go.Proofs.YtepljgpikfeklaaGreatDoor
set_option linter.unusedVariables false
set_option linter.unusedSimpArgs false
open Go Go.RowKit
open Enc (enc)
set_option maxRecDepth 20000
set_option maxHeartbeats 4000000 in
theorem c_inForm (s : Slc Sig) (apex : Bytes) (H : Hp) (w : World) (hs : Sat H w) (hg : s.Good H) (ha : LenOk apex) : Calls Tryz.prog 29 #[s.v, strV apex] w (Ret w (.bool (sigsForm s.els apex))) := by
  have hlen := hg.len
  refine T.enter (vs := [s.v, strV apex]) (H := H) Tryz.func29 rfl rfl rfl hs ?_
  repeat (any_goals (first | refine T.seq ?_ | refine T.region ?_ | refine TL.nil ?_ | refine N.next ?_ | refine N.ret_then ?_ | refine T.ret ?_ | refine T.skip ?_ | refine T.block ?_ | (apply T.test; rfl; (exact isx); intro _; rotate_left; intro _; rotate_right) | (apply TL.val; rfl; rfl; (first | exact vpure | exact vread))))
  all_goals (try (first | (apply N.ret_bool; rfl; (exact rvx)) | (apply N.ret_int; rfl; (exact rvx)) | (apply N.ret_val; rfl; (exact rvx))))
  · exact form_long (by omega)
  · refine T.loop (G := Nat) (fun k => [(0, s.v), (1, strV apex), (10, s.v), (11, intV s.len), (12, intV k)]) (fun _ => H) (fun _ => []) (fun k => k ≤ s.len ∧ FormTo s.els apex k) (fun k => s.len - k) 0 ⟨Nat.zero_le _, fun j _ h => by omega⟩ (by (repeat (first | exact True.intro | refine ⟨rfl, ?_⟩ | refine Sub.int rfl (by omega) ?_))) rfl (by (first | exact List.Sublist.refl _ | exact List.nil_sublist _ | exact List.Sublist.cons _ (List.Sublist.refl _) | exact List.Sublist.cons _ (List.Sublist.cons _ (List.Sublist.refl _)))) ?_
    rintro k ⟨hk, hrel⟩
    by_cases hlt : k < s.len
    · have hpos : 0 < s.len := by omega
      have hkl : k < s.els.length := by omega
      repeat (any_goals (first | refine T.seq ?_ | refine T.region ?_ | (apply T.regionD wide; rfl) | refine TL.nil ?_ | refine N.next ?_ | refine N.inBlock ?_ | refine N.exit_same ?_ | refine N.exit_then ?_ | refine N.ret_then ?_ | refine N.ret_block ?_ | refine T.ret ?_ | refine T.skip ?_ | refine T.exit ?_ | refine T.block ?_ | (apply T.cond_true; rfl) | (apply T.cond_false; rfl) | (apply T.test; rfl; (exact isx); intro _; rotate_left; intro _; rotate_right) | (apply TL.skip; rfl; rfl; rfl) | (apply GT.skip; rfl; rfl; rfl; decide +kernel) | (apply TL.x; rfl; rfl; (apply X.storeTo 0 (enc s.els[k]); (iterate 10 rfl)); intro _ _) | (apply TL.val; rfl; rfl; (first | exact vpure | exact vread)) | (apply GT.pure; (iterate 4 rfl); (first | exact vpure); decide +kernel) | (apply GT.read; (iterate 4 rfl); (first | exact vpure | exact vread); decide +kernel) | (apply GT.done; decide +kernel; apply N.ofQ) | (apply TL.x; rfl; rfl; (first | exact xgrow | exact xput); intro _ _) | (apply TL.guard; rfl; rfl; rfl; (exact isx); intro _; rotate_left; intro _; rotate_right) | (apply GT.guard; (iterate 4 rfl); (exact isx); intro _; rotate_left; intro _; rotate_right)))
      all_goals (try simp only [show ((k : Int) - 1).toNat = k - 1 by omega] at *)
      all_goals (try (exfalso; omega))
      all_goals first
        | ((refine N.round (k + 1) ?_ ?_ ?_ ?_ ?_; rotate_left 2; (repeat (first | exact True.intro | refine ⟨rfl, ?_⟩ | refine Sub.int rfl (by omega) ?_)); rfl; (first | exact List.Sublist.refl _ | exact List.nil_sublist _ | exact List.Sublist.cons _ (List.Sublist.refl _) | exact List.Sublist.cons _ (List.Sublist.cons _ (List.Sublist.refl _))))
           · exact ⟨by omega, form_up hrel hkl ⟨by assumption, ⟨by omega, by omega⟩, ⟨by omega, by omega⟩, by assumption, by assumption, ⟨by omega, by omega, by omega⟩, fun h0 => by first | omega | trace_state⟩⟩
           · omega)
        | (refine N.ret_bool rfl (by (exact rvx)) (form_no hkl ?_)
           rintro ⟨f1, ⟨f2, f3⟩, ⟨f4, f5⟩, f6, f7, ⟨f8, f9, f10⟩, f11⟩
           first
             | omega
             | exact absurd f1 (by assumption)
             | exact absurd f6 (by assumption)
             | exact absurd f7 (by assumption)
             | (have := f11 (by omega); omega))
        | trace_state
    · repeat (any_goals (first | refine T.seq ?_ | refine T.region ?_ | (apply T.regionD wide; rfl) | refine TL.nil ?_ | refine N.next ?_ | refine N.inBlock ?_ | refine N.exit_same ?_ | refine N.exit_then ?_ | refine N.ret_then ?_ | refine N.ret_block ?_ | refine T.ret ?_ | refine T.skip ?_ | refine T.exit ?_ | refine T.block ?_ | (apply T.cond_true; rfl) | (apply T.cond_false; rfl) | (apply T.test; rfl; (exact isx); intro _; rotate_left; intro _; rotate_right) | (apply TL.skip; rfl; rfl; rfl) | (apply GT.skip; rfl; rfl; rfl; decide +kernel) | (apply TL.val; rfl; rfl; (first | exact vpure | exact vread)) | (apply GT.pure; (iterate 4 rfl); (first | exact vpure); decide +kernel) | (apply GT.read; (iterate 4 rfl); (first | exact vpure | exact vread); decide +kernel) | (apply GT.done; decide +kernel; apply N.ofQ) | (apply TL.x; rfl; rfl; (first | exact xgrow | exact xput); intro _ _) | (apply TL.guard; rfl; rfl; rfl; (exact isx); intro _; rotate_left; intro _; rotate_right) | (apply GT.guard; (iterate 4 rfl); (exact isx); intro _; rotate_left; intro _; rotate_right)))
      all_goals (try (exfalso; omega))
      all_goals (try (first | (apply N.ret_bool; rfl; (exact rvx)) | (apply N.ret_int; rfl; (exact rvx)) | (apply N.ret_val; rfl; (exact rvx))))
      all_goals first
        | exact form_yes (by omega) (fun j hj _ => hrel j hj (by omega))
        | trace_state
end Go.Proofs.YtepljgpikfeklaaGreatDoor
namespace Go.Proofs.YtepljgpikfeklaaGreatDoor
set_option linter.unusedVariables false
set_option linter.unusedSimpArgs false
open Go Go.RowKit
open Enc (enc)
set_option maxRecDepth 20000
theorem entryOK_iff {e : Entry} (h1 : e.signed.set.data.els.length = e.signed.set.data.len) (h2 : e.signed.sigs.els.length = e.signed.sigs.len) : entryOK e.c = true ↔ inZone e.signed.set.name e.zone = true ∧ (1 ≤ e.til ∧ e.til ≤ 20100001) ∧ (e.signed.set.data.len = 0 → (1 ≤ e.signed.set.typ ∧ e.signed.set.typ ≤ 8) ∧ (0 ≤ e.signed.set.life ∧ e.signed.set.life ≤ 100000) ∧ e.signed.sigs.len = 0) ∧ (e.signed.set.data.len ≠ 0 → setOK e.signed.set.c = true ∧ sigsForm e.signed.sigs.els e.zone = true) := by
  have hd : denial e.c = decide (e.signed.set.data.len = 0) := by
    unfold denial
    refine decide_eq_decide.2 ?_
    show e.signed.set.data.els = [] ↔ _
    rw [← h1]; exact List.length_eq_zero_iff.symm
  have hs : (e.c.signed.sigs = []) ↔ e.signed.sigs.len = 0 := by
    show e.signed.sigs.els = [] ↔ _
    rw [← h2]; exact List.length_eq_zero_iff.symm
  unfold entryOK
  rw [hd]
  show (inZone e.signed.set.name e.zone && decide (1 ≤ e.til ∧ e.til ≤ 20100001) && (if decide (e.signed.set.data.len = 0) = true then decide (1 ≤ e.signed.set.typ ∧ e.signed.set.typ ≤ 8) && decide (0 ≤ e.signed.set.life ∧ e.signed.set.life ≤ 100000) && decide (e.c.signed.sigs = []) else setOK e.signed.set.c && sigsForm e.signed.sigs.els e.zone)) = true ↔ _
  by_cases h0 : e.signed.set.data.len = 0
  · simp only [h0, decide_true, if_true, Bool.and_eq_true, decide_eq_true_eq, hs, and_assoc, forall_const, ne_eq, not_true_eq_false, false_implies, and_true]
  · simp only [h0, decide_false, Bool.false_eq_true, if_false, Bool.and_eq_true, decide_eq_true_eq, and_assoc, false_implies, true_and, ne_eq, not_false_eq_true, forall_const]
theorem c_validEntry (e : Entry) (H : Hp) (w : World) (hs : Sat H w) (hR : Rules H) (hg : Enc.good H e) : Calls Tryz.prog 48 #[.agg (enc e).toArray] w (Ret w (.bool (entryOK e.c))) := by
  have h1 := hg.1.1.2.2.2.len
  have h2 := hg.1.2.len
  have hi := entryOK_iff h1 h2
  refine T.enter (vs := [.agg (enc e).toArray]) (H := H) Tryz.func48 rfl rfl rfl hs ?_
  repeat (any_goals (first | refine T.seq ?_ | refine T.region ?_ | refine TL.nil ?_ | refine N.next ?_ | refine N.ret_then ?_ | refine T.ret ?_ | refine T.skip ?_ | (apply T.cond_true; rfl) | (apply T.test; rfl; (exact isx); intro _; rotate_left; intro _; rotate_right) | (apply TL.skip; rfl; rfl; rfl) | (apply TL.x; rfl; rfl; (apply X.storeTo 0 (enc e.signed.set); (iterate 10 rfl)); intro _ _) | (apply TL.call0 (f := 27) Tryz.call27; rfl; rfl; rfl; (exact fun _ hs => c_belongs _ _ _ _ hs.sat hg.1.1.1 hg.2.1)) | (apply TL.call0 (f := 98) Tryz.call98; rfl; rfl; rfl; (exact fun _ hs => c_clife _ _ _ hs.sat)) | (apply TL.call0 (f := 26) Tryz.call26; rfl; rfl; rfl; (exact fun _ hs => c_recordValid e.signed.set _ _ hs.sat hR hg.1.1)) | (apply TL.call0 (f := 29) Tryz.call29; rfl; rfl; rfl; (exact fun _ hs => c_inForm e.signed.sigs e.zone _ _ hs.sat hg.1.2 hg.2.1)) | (apply TL.val; rfl; rfl; (first | exact vpure | exact vread)) | (apply TL.x; rfl; rfl; (first | exact xgrow | exact xput); intro _ _) | (apply TL.guard; rfl; rfl; rfl; (exact isx); intro _; rotate_left; intro _; rotate_right)))
  all_goals (try (first | (apply N.ret_bool; rfl; (exact rvx)) | (apply N.ret_int; rfl; (exact rvx)) | (apply N.ret_val; rfl; (exact rvx))))
  all_goals (rw [Bool.eq_iff_iff, hi])
  all_goals first
    | (simp [*]; done)
    | exact ⟨fun h => ⟨by assumption, ⟨by omega, by omega⟩, fun h0 => by omega, fun _ => ⟨by assumption, h⟩⟩, fun h => (h.2.2.2 (by omega)).2⟩
    | (simp [*]; omega)
    | trace_state
theorem check_s {P : Program} {t : TypeId} (h : P.underlying t = some .string) (e : Bool) (a : Bytes) (w : World) : (Instr.checkKey e 9999 t (strV a)).run P w = .ok () w := by
  unfold Instr.checkKey
  rw [Sem.run_bind, run_underlying h w]; rfl
theorem check_i {P : Program} {t : TypeId} (h : P.underlying t = some (.int .i64)) (e : Bool) (a : Int) (w : World) : (Instr.checkKey e 9999 t (intV a)).run P w = .ok () w := by
  unfold Instr.checkKey
  rw [Sem.run_bind, run_underlying h w]; rfl
theorem key_map : KeyG Tryz.prog 111 keyV where
  find := run_findG (kd := .struct (Tryz.prog.fieldsOf 111)) (by kernel_rfl) (fun _ _ => rfl) (fun a b w => eq_key a b w)
  check := fun e a w => by
    have hS : Tryz.prog.underlying 111 = some (.struct (Tryz.prog.fieldsOf 111)) := by kernel_rfl
    obtain ⟨a1, a2, a3⟩ := a
    unfold keyV
    rw [show (10000 : Nat) = 9999 + 1 from rfl, Instr.checkKey]
    simp only [Sem.run_bind, run_underlying hS, Result.andThen_ok]
    rw [← Array.forIn_toList]
    simp only [Program.fieldsOf, Tryz.underlying111, List.toList_toArray]
    have p1 : (part 9 #[strV a1, intV a2, strV a3] 0).run Tryz.prog w = .ok (strV a1) w := run_part rfl rfl rfl w
    have p2 : (part 3 #[strV a1, intV a2, strV a3] 1).run Tryz.prog w = .ok (intV a2) w := run_part rfl rfl rfl w
    have p3 : (part 9 #[strV a1, intV a2, strV a3] 2).run Tryz.prog w = .ok (strV a3) w := run_part rfl rfl rfl w
    simp [List.forIn_cons, Sem.run_bind, p1, p2, p3, check_s Tryz.underlying9, check_i Tryz.underlying3]
  bits := fun a => by
    have hs : ∀ x : Bytes, Instr.sameBits 9999 (strV x) (strV x) = true := fun x => by
      simp only [Instr.sameBits]; rw [beq_toListBytes, bytes_eq]; simp
    have hi : ∀ x : Int, Instr.sameBits 9999 (intV x) (intV x) = true := fun x => by simp [Instr.sameBits]
    show ((3 : Nat) == 3 && (Instr.sameBits 9999 (strV a.1) (strV a.1) && (Instr.sameBits 9999 (intV a.2.1) (intV a.2.1) && (Instr.sameBits 9999 (strV a.2.2) (strV a.2.2) && true)))) = true
    rw [hs, hs, hi]; rfl
def keysUp (l : List Entry) (k : Nat) : List (Bytes × Int × Bytes) := (l.take k).map fun e => keyC e.c
theorem keys_up {l : List Entry} {k : Nat} (hk : k < l.length) : keysUp l (k + 1) = keysUp l k ++ [keyC l[k].c] := by
  unfold keysUp
  rw [List.take_succ_eq_append_getElem hk, List.map_append]; rfl
theorem keys_all (c : Cache) : keysUp c.list.els c.list.els.length = c.c.map keyC := by
  unfold keysUp Cache.c
  rw [List.take_length, List.map_map]; rfl
def CacheTo (l : List Entry) (k : Nat) : Prop := (∀ j (h : j < l.length), j < k → entryOK l[j].c = true) ∧ (keysUp l k).Nodup
theorem cacheTo_up {l : List Entry} {k : Nat} (h : CacheTo l k) (hk : k < l.length) (h1 : entryOK l[k].c = true) (h2 : keyC l[k].c ∉ keysUp l k) : CacheTo l (k + 1) := by
  refine ⟨fun j hj hjk => ?_, ?_⟩
  · by_cases e : j = k
    · subst e; exact h1
    · exact h.1 j hj (by omega)
  · rw [keys_up hk, List.nodup_append]
    refine ⟨h.2, by simp, fun a ha b hb => ?_⟩
    rw [List.mem_singleton] at hb
    subst hb
    rintro rfl
    exact h2 ha
theorem cacheOK_to {c : Cache} : cacheOK c.c = true ↔ c.list.els.length ≤ 400 ∧ CacheTo c.list.els c.list.els.length := by
  rw [cacheOK_iff]
  unfold CacheTo
  rw [keys_all]
  have hl : c.c.length = c.list.els.length := List.length_map _
  rw [hl]
  refine and_congr_right fun _ => and_congr_left fun _ => ⟨fun h j hj _ => h _ (List.mem_map.2 ⟨_, List.getElem_mem hj, rfl⟩), fun h e he => ?_⟩
  obtain ⟨x, hx, rfl⟩ := List.mem_map.1 he
  obtain ⟨j, hj, rfl⟩ := List.mem_iff_getElem.1 hx
  exact h j hj hj
theorem cacheTo_le {l : List Entry} {k m : Nat} (h : CacheTo l m) (hk : k ≤ m) : CacheTo l k := by
  refine ⟨fun j hj hjk => h.1 j hj (by omega), ?_⟩
  have : keysUp l k = (keysUp l m).take k := by
    unfold keysUp
    rw [← List.map_take, List.take_take, Nat.min_eq_left hk]
  rw [this]
  exact List.Nodup.sublist (List.take_sublist _ _) h.2
theorem cache_no {c : Cache} {k : Nat} (hk : k < c.list.els.length) (h : entryOK c.list.els[k].c = false ∨ keyC c.list.els[k].c ∈ keysUp c.list.els k) : false = cacheOK c.c := by
  rw [eq_comm, Bool.eq_false_iff]
  intro hc
  have ht := (cacheOK_to.1 hc).2
  rcases h with h | h
  · rw [ht.1 k hk hk] at h; cases h
  · have := (cacheTo_le ht (show k + 1 ≤ _ from hk)).2
    rw [keys_up hk, List.nodup_append] at this
    exact this.2.2 _ h _ (List.mem_singleton.2 rfl) rfl
abbrev keyMap (l : List (Bytes × Int × Bytes)) : Obj := mObj keyV (l.map fun x => (x, Value.bool true))
set_option maxHeartbeats 2000000 in
theorem c_cacheValid (c : Cache) (H : Hp) (w : World) (hs : Sat H w) (hR : Rules H) (hg : Enc.good H c) : Calls Tryz.prog 25 #[.agg (enc c).toArray] w (Ret w (.bool (cacheOK c.c))) := by
  have hg' : c.list.Good H := hg
  have hlen := hg'.len
  refine T.enter (vs := [.agg (enc c).toArray]) (H := H) Tryz.func25 rfl rfl rfl hs ?_
  repeat (any_goals (first | refine T.seq ?_ | refine T.region ?_ | refine TL.nil ?_ | refine N.next ?_ | refine N.ret_then ?_ | refine T.ret ?_ | refine T.skip ?_ | refine T.block ?_ | (apply T.test; rfl; (exact isx); intro _; rotate_left; intro _; rotate_right) | (apply TL.x; rfl; rfl; (apply X.makeMap keyV; rfl); intro _ _) | (apply TL.val; rfl; rfl; (first | exact vpure | exact vread)) | (apply TL.x; rfl; rfl; (first | exact xgrow | exact xput); intro _ _)))
  all_goals (try (first | (apply N.ret_bool; rfl; (exact rvx)) | (apply N.ret_int; rfl; (exact rvx)) | (apply N.ret_val; rfl; (exact rvx))))
  · rw [eq_comm, Bool.eq_false_iff]
    intro hc
    have := (cacheOK_to.1 hc).1
    omega
  rename_i bc _ hh bm _
  refine T.loop (G := Nat) (fun k => [(3, .map (some bm)), (12, c.list.v), (13, intV c.list.len), (14, intV k)]) (fun _ => H) (fun k => [.any bm (keyMap (keysUp c.list.els k))]) (fun k => k ≤ c.list.len ∧ CacheTo c.list.els k) (fun k => c.list.len - k) 0 ⟨Nat.zero_le _, fun j _ h => by omega, List.nodup_nil⟩ (by (repeat (first | exact True.intro | refine ⟨rfl, ?_⟩ | refine Sub.int rfl (by omega) ?_))) rfl (by repeat (first | exact List.Sublist.refl _ | exact List.nil_sublist _ | apply List.Sublist.cons_cons | apply List.Sublist.cons)) ?_
  rintro k ⟨hk, hrel⟩
  by_cases hlt : k < c.list.len
  · have hkl : k < c.list.els.length := by omega
    have hge := hg'.el hlt
    repeat (any_goals (first | refine T.seq ?_ | refine T.region ?_ | refine TL.nil ?_ | refine N.next ?_ | refine N.inBlock ?_ | refine N.exit_same ?_ | refine N.exit_then ?_ | refine N.ret_then ?_ | refine N.ret_block ?_ | refine T.ret ?_ | refine T.skip ?_ | refine T.exit ?_ | refine T.block ?_ | (apply T.cond_true; rfl) | (apply T.test; rfl; (exact isx); intro _; rotate_left; intro _; rotate_right) | (apply TL.skip; rfl; rfl; rfl) | (apply TL.x; rfl; rfl; (apply X.storeTo 0 (enc c.list.els[k]); (iterate 10 rfl)); intro _ _) | (apply TL.call0 (f := 48) Tryz.call48; rfl; rfl; rfl; (exact fun _ hs => c_validEntry c.list.els[k] _ _ hs.sat hR hge)) | (apply TL.call0 (f := 49) Tryz.call49; rfl; rfl; rfl; (exact fun _ hs => c_keyOf c.list.els[k] _ _ hs.sat hge)) | (apply TL.val; rfl; rfl; (apply V.mlookupG (mk := keyV) (keyC c.list.els[k].c); rfl; rfl; rfl; exact key_map; rfl; rfl; (exact lmem); exact aGet_set _ _)) | (apply TL.x; rfl; rfl; (apply X.mputG (mk := keyV) 1 (keyC c.list.els[k].c); rfl; rfl; exact key_map; (iterate 4 rfl); simp only [List.set_cons_zero, List.set_cons_succ]; rw [aPut_set (by assumption), ← keys_up]); intro _ _) | (apply TL.val; rfl; rfl; (first | exact vpure | exact vread)) | (apply TL.x; rfl; rfl; (first | exact xgrow | exact xput); intro _ _) | (apply TL.guard; rfl; rfl; rfl; (exact isx); intro _; rotate_left; intro _; rotate_right)))
    all_goals (try (exfalso; omega))
    all_goals (try (first | (apply N.ret_bool; rfl; (exact rvx)) | (apply N.ret_int; rfl; (exact rvx)) | (apply N.ret_val; rfl; (exact rvx))))
    · exact cache_no hkl (.inl (by assumption))
    · exact cache_no hkl (.inr (by assumption))
    · (refine N.round (k + 1) ?_ ?_ ?_ ?_ ?_; rotate_left 2; (repeat (first | exact True.intro | refine ⟨rfl, ?_⟩ | refine Sub.int rfl (by omega) ?_)); rfl; (first | exact List.Sublist.refl _ | exact List.nil_sublist _ | exact List.Sublist.cons _ (List.Sublist.refl _) | exact List.Sublist.cons _ (List.Sublist.cons _ (List.Sublist.refl _))))
      · exact ⟨by omega, cacheTo_up hrel hkl (by assumption) (by assumption)⟩
      · omega
  · repeat (any_goals (first | refine T.seq ?_ | refine T.region ?_ | refine TL.nil ?_ | refine N.next ?_ | refine N.exit_same ?_ | refine N.exit_then ?_ | refine T.ret ?_ | refine T.skip ?_ | refine T.exit ?_ | refine T.block ?_ | (apply T.test; rfl; (exact isx); intro _; rotate_left; intro _; rotate_right) | (apply TL.val; rfl; rfl; (first | exact vpure | exact vread)) | (apply TL.x; rfl; rfl; (first | exact xgrow | exact xput); intro _ _)))
    all_goals (try (exfalso; omega))
    all_goals (try (first | (apply N.ret_bool; rfl; (exact rvx)) | (apply N.ret_int; rfl; (exact rvx)) | (apply N.ret_val; rfl; (exact rvx))))
    exact ((cacheOK_to).2 ⟨by omega, cacheTo_le hrel (by omega)⟩).symm
end Go.Proofs.YtepljgpikfeklaaGreatDoor
namespace Go.Proofs.YtepljgpikfeklaaGreatDoor
set_option linter.unusedVariables false
set_option linter.unusedSimpArgs false
open Go Go.RowKit
open Enc (enc)
set_option maxRecDepth 20000
theorem set_few {s : SetC} (h : setOK s = true) : s.data.length ≤ 8 := by
  rw [setOK_eq, Bool.and_eq_true] at h
  have := h.1
  unfold headOK at this
  simp only [Bool.and_eq_true, decide_eq_true_eq] at this
  exact this.1.1.2.2
theorem short_of_ok {c : Cache} {H : Hp} (hg : Enc.good H c) (hok : cacheOK c.c = true) : Short c.list.els := fun x hx => by
  have hgx : Enc.good H x := Slc.Good.els hg x hx
  have hl1 := hgx.1.1.2.2.2.len
  have hl2 := hgx.1.2.len
  have he := ((cacheOK_iff _).1 hok).2.1 x.c (List.mem_map.2 ⟨x, hx, rfl⟩)
  obtain ⟨_, _, h1, h2⟩ := (entryOK_iff hl1 hl2).1 he
  by_cases h0 : x.signed.set.data.len = 0
  · obtain ⟨_, _, h3⟩ := h1 h0
    omega
  · obtain ⟨h3, h4⟩ := h2 h0
    have h5 := set_few h3
    have h6 := ((form_iff _ _).1 h4).1
    have h7 : x.signed.set.c.data.length = x.signed.set.data.els.length := rfl
    omega
theorem zero_end {w0 w : World} {H0 H : Hp} {L : List Loc} {r : List EntryC × Int} {z : Int} (hst : St w0 H0 H L w) (hr : r = ([], z)) : Caches w0 H0 r (.returned (.tuple #[.agg #[.slice none 0 0], intV z])) w := by
  subst hr
  exact ⟨(H, ⟨Slc.nil _⟩), ⟨rfl, Slc.nil_good⟩, rfl, hst.fresh⟩
theorem c_validV (c : Cache) {b : Bool} (h : cacheOK c.c = b) {H : Hp} {w : World} (hs : Sat H w) (hR : Rules H) (hg : Enc.good H c) : Calls Tryz.prog 25 #[.agg (enc c).toArray] w (Ret w (.bool b)) := by
  subst h
  exact c_cacheValid c H w hs hR hg
theorem put_no {l : List EntryC} {s : SignedC} {zone : Bytes} {now : Int} (h : ¬ (cacheOK l = true ∧ setOK s.set = true ∧ inZone s.set.name zone = true ∧ (0 ≤ now ∧ now ≤ 20000000))) : putC l s zone now = ([], 1) := by
  unfold putC isT
  rw [if_pos]
  simp only [Bool.not_eq_true', Bool.eq_false_iff, ne_eq, Bool.and_eq_true, decide_eq_true_eq]
  grind
theorem put_yes {l : List EntryC} {s : SignedC} {zone : Bytes} {now : Int} (h1 : cacheOK l = true) (h2 : setOK s.set = true) (h3 : inZone s.set.name zone = true) (h4 : 0 ≤ now ∧ now ≤ 20000000) : putC l s zone now = if sigsForm s.sigs zone = true then learnC l ⟨s, zone, untilC s now⟩ now else ([], 30) := by
  unfold putC isT
  rw [if_neg (by rw [h1, h2, h3, decide_eq_true h4]; decide)]
  cases sigsForm s.sigs zone <;> rfl
theorem until_nil {s : Signed} {now : Int} (h : s.sigs.els.length = s.sigs.len) (h0 : s.sigs.len = 0) : untilC s.c now = now + maxI s.set.life 1 := by
  have : s.c.sigs = [] := List.eq_nil_of_length_eq_zero (by show s.sigs.els.length = 0; omega)
  unfold untilC
  rw [this]; rfl
theorem until_cons {s : Signed} {now : Int} (h : s.sigs.els.length = s.sigs.len) (h0 : 0 < s.sigs.len) : untilC s.c now = minI (now + maxI s.set.life 1) ((s.sigs.els[0]'(by omega)).til + 1) := by
  have e : s.c.sigs = s.sigs.els := rfl
  obtain ⟨g, r, hl⟩ : ∃ g r, s.sigs.els = g :: r := by
    cases hl : s.sigs.els with
    | nil => rw [hl] at h; simp at h; omega
    | cons g r => exact ⟨g, r, rfl⟩
  unfold untilC
  rw [e]
  simp only [hl, List.getElem_cons_zero]
  rfl
set_option maxHeartbeats 8000000 in
theorem c_Put (c : Cache) (s : Signed) (zone : Bytes) (now : Int) (H : Hp) (w : World) (hs : Sat H w) (hR : Rules H) (hg : Enc.good H c) (hsg : Enc.good H s) (hz : LenOk zone) (hnow : I64 now) : Calls Tryz.prog 9 #[.agg (enc c).toArray, .agg (enc s).toArray, strV zone, intV now] w (Caches w H (putC c.c s.c zone now)) := by
  have hlen := hsg.2.len
  refine T.enter (vs := [.agg (enc c).toArray, .agg (enc s).toArray, strV zone, intV now]) (H := H) Tryz.func9 rfl rfl rfl hs ?_
  repeat (any_goals (first | (apply T.seqU 3; rfl) | refine T.region ?_ | refine TL.nil ?_ | refine N.next ?_ | (apply TL.val; rfl; rfl; (first | exact vpure | exact vread)) | (apply TL.x; rfl; rfl; (first | exact xgrow | exact xput); intro _ _)))
  rename_i b4 _ b5 _ b8 _
  refine T.cut (G := Unit) (fun _ => [(2, strV zone), (3, intV now), (4, .pointer (some ⟨b4, 0, none⟩)), (5, .pointer (some ⟨b5, 0, none⟩)), (8, .pointer (some ⟨b8, 0, none⟩)), (9, intV 0)]) (fun _ => H) (fun _ => [.blk b8 49 [.slice none 0 0], .blk b5 44 (enc s), .blk b4 49 (enc c)]) (fun _ => cacheOK c.c = true ∧ setOK s.set.c = true ∧ inZone s.set.name zone = true ∧ (0 ≤ now ∧ now ≤ 20000000)) ?_ ?_
  · repeat (any_goals (first | refine T.seq ?_ | refine T.region ?_ | refine TL.nil ?_ | refine N.next ?_ | refine N.ret_then ?_ | refine T.ret ?_ | refine T.skip ?_ | (apply T.cond_true; rfl) | (apply T.test; rfl; (exact isx); intro _; rotate_left; intro _; rotate_right) | (apply TL.skip; rfl; rfl; rfl) | (apply TL.call0 (f := 25) Tryz.call25; rfl; rfl; rfl; (exact fun _ hs => c_cacheValid c _ _ hs.sat hR hg)) | (apply TL.call0 (f := 26) Tryz.call26; rfl; rfl; rfl; (exact fun _ hs => c_recordValid s.set _ _ hs.sat hR hsg.1)) | (apply TL.call0 (f := 27) Tryz.call27; rfl; rfl; rfl; (exact fun _ hs => c_belongs s.set.name zone _ _ hs.sat hsg.1.1 hz)) | (apply TL.call0 (f := 28) Tryz.call28; rfl; rfl; rfl; (exact fun _ hs => c_ctime _ _ _ hs.sat)) | (apply TL.val; rfl; rfl; (apply V.build; (iterate 6 rfl))) | (apply TL.val; rfl; rfl; (first | exact vpure | exact vread)) | (apply TL.x; rfl; rfl; (first | exact xgrow | exact xput); intro _ _) | (apply TL.guard; rfl; rfl; rfl; (exact isx); intro _; rotate_left; intro _; rotate_right)))
    all_goals (try (refine N.cut (()) ?_ ?_ ?_ ?_; rotate_left 1; (repeat (first | exact True.intro | refine ⟨rfl, ?_⟩ | refine Sub.int rfl (by omega) ?_)); rfl; (first | exact List.Sublist.refl _ | exact List.nil_sublist _ | exact List.Sublist.cons _ (List.Sublist.refl _) | exact List.Sublist.cons _ (List.Sublist.cons _ (List.Sublist.refl _)))))
    all_goals first
      | exact ⟨by assumption, by assumption, by assumption, by assumption⟩
      | (apply N.ret2; rfl; (exact rvx); (exact rvx)
         intro w1 hst
         exact zero_end hst (put_no (by
           rintro ⟨e1, e2, e3, e4⟩
           first
             | contradiction
             | exact absurd (e1.symm.trans (by assumption : cacheOK c.c = false)) (by decide)
             | exact absurd (e2.symm.trans (by assumption : setOK s.set.c = false)) (by decide)
             | exact absurd (e3.symm.trans (by assumption : inZone s.set.name zone = false)) (by decide))))
      | trace_state
  · rintro ⟨⟩ ⟨o1, o2, o3, o4⟩
    rw [put_yes (s := s.c) o1 o2 o3 o4]
    have hmx := maxI_pos s.set.life
    have hlf := (setOK_life o2).1
    have hlf' : 0 ≤ s.set.life ∧ s.set.life ≤ 100000 := hlf
    have hmx2 : maxI s.set.life 1 ≤ 100000 := by unfold maxI; split <;> omega
    have hd8 := set_few o2
    have hd8' : s.set.data.len ≤ 8 := by have := hsg.1.2.2.2.len; have e : s.set.c.data.length = s.set.data.els.length := rfl; omega
    cases hf : sigsForm s.sigs.els zone with
    | false =>
      rw [if_neg (by show ¬ sigsForm s.sigs.els zone = true; rw [hf]; decide)]
      have hv : ∀ w, Sat H w → Calls Tryz.prog 29 #[s.sigs.v, strV zone] w (Ret w (.bool false)) := fun w hs => by
        have := c_inForm s.sigs zone H w hs hsg.2 hz
        rwa [hf] at this
      repeat (any_goals (first | refine T.seq ?_ | refine T.region ?_ | refine TL.nil ?_ | refine N.next ?_ | refine N.ret_then ?_ | refine T.ret ?_ | (apply T.cond_true; rfl) | (apply TL.call0 (f := 29) Tryz.call29; rfl; rfl; rfl; (exact fun _ hs => hv _ hs.sat)) | (apply TL.val; rfl; rfl; (apply V.build; (iterate 6 rfl))) | (apply TL.val; rfl; rfl; (first | exact vpure | exact vread)) | (apply TL.x; rfl; rfl; (first | exact xgrow | exact xput); intro _ _)))
      apply N.ret2; rfl; (exact rvx); (exact rvx)
      intro w1 hst
      exact zero_end hst rfl
    | true =>
      rw [if_pos (show sigsForm s.c.sigs zone = true from hf)]
      have hv : ∀ w, Sat H w → Calls Tryz.prog 29 #[s.sigs.v, strV zone] w (Ret w (.bool true)) := fun w hs => by
        have := c_inForm s.sigs zone H w hs hsg.2 hz
        rwa [hf] at this
      obtain ⟨h6, hft⟩ := (form_iff _ _).1 hf
      have hbe : s.set.data.len ≤ 1000 ∧ s.sigs.len ≤ 1000 := ⟨by omega, by omega⟩
      rcases Nat.eq_zero_or_pos s.sigs.len with h0 | h0
      · have hu := until_nil (now := now) hlen h0
        have he : Enc.good H (⟨s, zone, now + maxI s.set.life 1⟩ : Entry) := ⟨hsg, hz, by show I64 (now + maxI s.set.life 1); exact ⟨by omega, by omega⟩⟩
        rw [hu]
        repeat (any_goals (first | refine T.seq ?_ | refine T.region ?_ | refine TL.nil ?_ | refine N.next ?_ | refine T.ret ?_ | refine T.skip ?_ | (apply T.cond_false; rfl) | (apply T.test; rfl; (exact isx); intro _; rotate_left; intro _; rotate_right) | (apply TL.call0 (f := 29) Tryz.call29; rfl; rfl; rfl; (exact fun _ hs => hv _ hs.sat)) | (apply TL.val; rfl; rfl; (apply V.build; (iterate 6 rfl))) | (apply TL.val; rfl; rfl; (apply V.max (M := maxI s.set.life 1) rfl; rfl; rfl)) | (apply TL.x; rfl; rfl; (apply X.callFE (f := 30) [.agg (enc c).toArray, .agg (enc (⟨s, zone, now + maxI s.set.life 1⟩ : Entry)).toArray, intV now] Tryz.call30; rfl; rfl; rfl; exact (fun _ hs => c_learn c ⟨s, zone, now + maxI s.set.life 1⟩ now _ _ hs.sat hg he hnow o1 (short_of_ok hg o1) hbe)); intro p hp) | (apply TL.val; rfl; rfl; (first | exact vpure | exact vread)) | (apply TL.x; rfl; rfl; (first | exact xgrow | exact xput); intro _ _)))
        all_goals (try (exfalso; omega))
        apply N.ret2; rfl; (exact rvx); (exact rvx)
        intro w1 hst
        exact ⟨p, hp.1, rfl, hst.fresh⟩
      · have hu := until_cons (now := now) hlen h0
        have ht0 := (hft 0 (by omega) (by omega)).2.2.2.2.2.1
        have hcell : H.cell s.sigs.b (s.sigs.o + 0 * 6 + 4) = some (intV (s.sigs.els[0]'(by omega)).til) := hsg.2.cell (k := 0) (j := 4) h0 rfl
        have hmn : minI (now + maxI s.set.life 1) ((s.sigs.els[0]'(by omega)).til + 1) ≤ now + maxI s.set.life 1 ∧ -9223372036854775808 ≤ minI (now + maxI s.set.life 1) ((s.sigs.els[0]'(by omega)).til + 1) := by unfold minI; split <;> omega
        rw [hu]
        obtain ⟨u, hue⟩ : ∃ u, minI (now + maxI s.set.life 1) ((s.sigs.els[0]'(by omega)).til + 1) = u := ⟨_, rfl⟩
        rw [hue] at hmn ⊢
        have he : Enc.good H (⟨s, zone, u⟩ : Entry) := ⟨hsg, hz, by show I64 u; exact ⟨by omega, by omega⟩⟩
        repeat (any_goals (first | refine T.seq ?_ | refine T.region ?_ | refine TL.nil ?_ | refine N.next ?_ | refine T.ret ?_ | refine T.skip ?_ | (apply T.cond_false; rfl) | (apply T.test; rfl; (exact isx); intro _; rotate_left; intro _; rotate_right) | (apply TL.call0 (f := 29) Tryz.call29; rfl; rfl; rfl; (exact fun _ hs => hv _ hs.sat)) | (apply TL.val; rfl; rfl; (apply V.build; (iterate 6 rfl))) | (apply TL.val; rfl; rfl; (apply V.max (M := maxI s.set.life 1) rfl; rfl; rfl)) | (apply TL.val; rfl; rfl; (apply V.elem (j := 0); (iterate 6 rfl); exact h0; exact hsg.2.at_ h0)) | (apply TL.val; rfl; rfl; (apply V.load_H; rfl; rfl; rfl; exact hcell)) | (apply TL.val; rfl; rfl; (apply V.min (M := u) hue; rfl; rfl)) | (apply TL.x; rfl; rfl; (apply X.callFE (f := 30) [.agg (enc c).toArray, .agg (enc (⟨s, zone, u⟩ : Entry)).toArray, intV now] Tryz.call30; rfl; rfl; rfl; exact (fun _ hs => c_learn c ⟨s, zone, u⟩ now _ _ hs.sat hg he hnow o1 (short_of_ok hg o1) hbe)); intro p hp) | (apply TL.val; rfl; rfl; (first | exact vpure | exact vread)) | (apply TL.x; rfl; rfl; (first | exact xgrow | exact xput); intro _ _)))
        all_goals (try (exfalso; omega))
        apply N.ret2; rfl; (exact rvx); (exact rvx)
        intro w1 hst
        exact ⟨p, hp.1, rfl, hst.fresh⟩
end Go.Proofs.YtepljgpikfeklaaGreatDoor
