import Derived.Test.YthabgdbhgcgemaaGreatDoorQZM
namespace Go.Proofs.YthabgdbhgcgemaaGreatDoor
set_option linter.unusedVariables false
set_option linter.unusedSimpArgs false
open Go Go.RowKit
open Enc (enc)
set_option maxRecDepth 20000
section
variable {z : ZoneV} {s : Slc Bytes} {H : Hp} {w : World}
theorem ThreeZ.at_ (h : ThreeZ z.c) {i : Nat} (hi : i + 1 < z.sets.els.length) (hn : z.sets.els[i].set.name = z.sets.els[i + 1].set.name) : z.sets.els[i + 1].set.typ ≠ 3 ∧ (z.sets.els[i].set.typ = 3 → z.sets.els[i + 1].set.typ = 8) := by
  have h1 := h i (by rw [setsC_len]; exact hi)
  rw [setsC_at (by rw [setsC_len]; omega) (by omega), setsC_at (by rw [setsC_len]; exact hi) hi] at h1
  exact h1 hn
set_option maxHeartbeats 4000000 in
theorem c_aliasesHold (h3 : ThreeZ z.c) (hs : Sat H w) (hz : Enc.good H z) : Calls Tryz.prog 76 #[.agg (enc (⟨z, s⟩ : LayV)).toArray] w (Ret w (.bool true)) := by
  have hg := hz.2
  have hlen := hg.len
  have hlim := hg.lim
  refine T.enter (vs := [.agg (enc (⟨z, s⟩ : LayV)).toArray]) (H := H) Tryz.func76 rfl rfl rfl hs ?_
  repeat (any_goals (first | refine T.seq ?_ | refine T.region ?_ | refine TL.nil ?_ | refine N.next ?_ | refine T.block ?_ | (apply TL.x; rfl; rfl; (apply X.box (d := 1); rfl; rfl; rfl); intro b1 _) | (apply TL.val; rfl; rfl; (first | exact vpure | exact vread))))
  refine T.loop (G := Nat) (fun k => [(1, .pointer (some ⟨b1, 0, none⟩)), (8, z.sets.v), (9, intV z.sets.len), (10, intV k)]) (fun _ => H) (fun _ => [.blk b1 135 (enc (⟨z, s⟩ : LayV))]) (fun k => k ≤ z.sets.len) (fun k => z.sets.len - k) 0 (Nat.zero_le _) (by (repeat (first | exact True.intro | refine ⟨rfl, ?_⟩ | refine Sub.int rfl (by omega) ?_))) rfl (by (repeat (first | exact List.Sublist.refl _ | exact List.nil_sublist _ | apply List.Sublist.cons_cons | apply List.Sublist.cons))) ?_
  intro k hk
  by_cases hlt : k < z.sets.len
  · have hkl : k < z.sets.els.length := by omega
    have hsg := hg.els _ (List.getElem_mem hkl)
    have hrow := hg.row (k := k) hlt
    have hprev : ∀ h0 : 0 < k, (z.sets.els[k]'hkl).set.typ = 3 → (z.sets.els[k - 1]'(by omega)).set.name ≠ (z.sets.els[k]'hkl).set.name := fun h0 ht hn => by
      have e : k = (k - 1) + 1 := by omega
      have hi : (k - 1) + 1 < z.sets.els.length := by omega
      have hh := h3.at_ hi (by simp only [← e]; exact hn)
      simp only [← e] at hh
      exact hh.1 ht
    have hnext : ∀ h1 : k + 1 < z.sets.els.length, (z.sets.els[k]'hkl).set.typ = 3 → (z.sets.els[k + 1]'h1).set.name = (z.sets.els[k]'hkl).set.name → (z.sets.els[k + 1]'h1).set.typ = 8 := fun h1 ht hn => (h3.at_ h1 hn.symm).2 ht
    obtain ⟨x, hx⟩ : ∃ x, z.sets.els[k]'hkl = x := ⟨_, rfl⟩
    rw [hx] at hprev hnext
    try rw [hx] at hrow
    by_cases ht : x.set.typ = 3
    rotate_left
    · repeat (any_goals (first | refine T.seq ?_ | refine T.region ?_ | (apply T.regionD wide; rfl) | refine TL.nil ?_ | refine N.next ?_ | refine N.inBlock ?_ | refine N.exit_same ?_ | refine N.exit_then ?_ | refine N.ret_then ?_ | refine N.ret_block ?_ | refine T.ret ?_ | refine T.skip ?_ | refine T.exit ?_ | refine T.block ?_ | (apply T.cond_false; rfl) | (apply T.test; rfl; (exact isx); intro _; rotate_left; intro _; rotate_right) | (apply GT.skip; rfl; rfl; rfl; decide +kernel) | (apply TL.val; rfl; rfl; (apply V.elem (j := k); (iterate 6 rfl); omega; exact hg.at_ (by omega))) | (apply TL.val; rfl; rfl; (apply V.load_H_row; rfl; rfl; rfl; exact hrow; rfl)) | (apply TL.x; rfl; rfl; (apply X.alloc (d := 4); rfl; rfl; rfl); intro b4 _) | (apply TL.x; rfl; rfl; (apply X.storeTo 0 (enc x); (iterate 10 rfl)); intro _ _) | (apply TL.val; rfl; rfl; (first | exact vpure | exact vread)) | (apply GT.pure; (iterate 4 rfl); (first | exact vpure); decide +kernel) | (apply GT.read; (iterate 4 rfl); (first | exact vpure | exact vread); decide +kernel) | (apply GT.done; decide +kernel; apply N.ofQ) | (apply GT.guard; (iterate 4 rfl); (exact isx); intro _; rotate_left; intro _; rotate_right)))
      all_goals (try contradiction)
      all_goals (try (exfalso; omega))
      all_goals exact N.round (k + 1) (by omega) (by show z.sets.len - (k + 1) < z.sets.len - k; omega) (by (repeat (first | exact True.intro | refine ⟨rfl, ?_⟩ | refine Sub.int rfl (by omega) ?_))) rfl (by (repeat (first | exact List.Sublist.refl _ | exact List.nil_sublist _ | apply List.Sublist.cons_cons | apply List.Sublist.cons)))
    by_cases h1 : k + 1 < z.sets.els.length
    · have hnx := hnext h1 ht
      obtain ⟨v, hv⟩ : ∃ v, z.sets.els[k + 1]'h1 = v := ⟨_, rfl⟩
      have hv0 := hg.cell (k := k + 1) (j := 0) (by omega) (v := strV v.set.name) (by show some (strV (z.sets.els[k + 1]'h1).set.name) = _; rw [hv])
      have hv1 := hg.cell (k := k + 1) (j := 1) (by omega) (v := intV v.set.typ) (by show some (intV (z.sets.els[k + 1]'h1).set.typ) = _; rw [hv])
      rw [hv] at hnx
      cases k with
      | zero =>
        repeat (any_goals (first | refine T.seq ?_ | refine T.region ?_ | (apply T.regionD wide; rfl) | refine TL.nil ?_ | refine N.next ?_ | refine N.inBlock ?_ | refine N.exit_same ?_ | refine N.exit_then ?_ | refine N.ret_then ?_ | refine N.ret_block ?_ | refine T.ret ?_ | refine T.skip ?_ | refine T.exit ?_ | refine T.block ?_ | (apply T.cond_false; rfl) | (apply T.test; rfl; (exact isx); intro _; rotate_left; intro _; rotate_right) | (apply GT.skip; rfl; rfl; rfl; decide +kernel) | (apply TL.val; rfl; rfl; (apply V.elem (j := 0); (iterate 6 rfl); omega; exact hg.at_ (by omega))) | (apply TL.val; rfl; rfl; (apply V.load_H_row; rfl; rfl; rfl; exact hrow; rfl)) | (apply TL.x; rfl; rfl; (apply X.alloc (d := 4); rfl; rfl; rfl); intro b4 _) | (apply TL.x; rfl; rfl; (apply X.storeTo 0 (enc x); (iterate 10 rfl)); intro _ _) | (apply GT.pureAt 15; (iterate 4 rfl); (apply V.elem (j := 1); (iterate 6 rfl); (show 1 < z.sets.len; omega); exact hg.at_ (by omega)); decide +kernel) | (apply GT.readAt 18; (iterate 4 rfl); (apply V.load_H; rfl; rfl; rfl; exact hv0); decide +kernel) | (apply GT.pureAt 31; (iterate 4 rfl); (apply V.elem (j := 1); (iterate 6 rfl); (show 1 < z.sets.len; omega); exact hg.at_ (by omega)); decide +kernel) | (apply GT.readAt 34; (iterate 4 rfl); (apply V.load_H; rfl; rfl; rfl; exact hv1); decide +kernel) | (apply TL.val; rfl; rfl; (first | exact vpure | exact vread)) | (apply GT.pure; (iterate 4 rfl); (first | exact vpure); decide +kernel) | (apply GT.read; (iterate 4 rfl); (first | exact vpure | exact vread); decide +kernel) | (apply GT.done; decide +kernel; apply N.ofQ) | (apply GT.adv; rfl) | (apply GT.guard; (iterate 4 rfl); (exact isx); intro _; rotate_left; intro _; rotate_right)))
        all_goals (try contradiction)
        all_goals (try (exfalso; omega))
        all_goals first
          | exact N.round (1) (by omega) (by show z.sets.len - (1) < z.sets.len - 0; omega) (by (repeat (first | exact True.intro | refine ⟨rfl, ?_⟩ | refine Sub.int rfl (by omega) ?_))) rfl (by (repeat (first | exact List.Sublist.refl _ | exact List.nil_sublist _ | apply List.Sublist.cons_cons | apply List.Sublist.cons)))
          | exact absurd (hnx (by assumption)) (by assumption)
          | exact absurd (by assumption) hpv
          | (exfalso; trace_state; grind)
      | succ k =>
        have hkl0 : k < z.sets.els.length := by omega
        have hpv := hprev (Nat.succ_pos k) ht
        simp only [Nat.add_sub_cancel] at hpv
        obtain ⟨y, hy⟩ : ∃ y, z.sets.els[k]'hkl0 = y := ⟨_, rfl⟩
        have hd0 := hg.cell (k := k) (j := 0) (by omega) (v := strV y.set.name) (by show some (strV (z.sets.els[k]'hkl0).set.name) = _; rw [hy])
        rw [hy] at hpv
        repeat (any_goals (first | refine T.seq ?_ | refine T.region ?_ | (apply T.regionD wide; rfl) | refine TL.nil ?_ | refine N.next ?_ | refine N.inBlock ?_ | refine N.exit_same ?_ | refine N.exit_then ?_ | refine N.ret_then ?_ | refine N.ret_block ?_ | refine T.ret ?_ | refine T.skip ?_ | refine T.exit ?_ | refine T.block ?_ | (apply T.cond_false; rfl) | (apply T.test; rfl; (exact isx); intro _; rotate_left; intro _; rotate_right) | (apply GT.skip; rfl; rfl; rfl; decide +kernel) | (apply TL.val; rfl; rfl; (apply V.elem (j := k + 1); (iterate 6 rfl); omega; exact hg.at_ (by omega))) | (apply TL.val; rfl; rfl; (apply V.load_H_row; rfl; rfl; rfl; exact hrow; rfl)) | (apply TL.x; rfl; rfl; (apply X.alloc (d := 4); rfl; rfl; rfl); intro b4 _) | (apply TL.x; rfl; rfl; (apply X.storeTo 0 (enc x); (iterate 10 rfl)); intro _ _) | (apply GT.pureAt 9; (iterate 4 rfl); (apply V.elem (j := k); (iterate 5 rfl); omega; (show k < z.sets.len; omega); exact hg.at_ (by omega)); decide +kernel) | (apply GT.readAt 12; (iterate 4 rfl); (apply V.load_H; rfl; rfl; rfl; exact hd0); decide +kernel) | (apply GT.pureAt 15; (iterate 4 rfl); (apply V.elem (j := k + 2); (iterate 5 rfl); omega; (show k + 2 < z.sets.len; omega); exact hg.at_ (by omega)); decide +kernel) | (apply GT.readAt 18; (iterate 4 rfl); (apply V.load_H; rfl; rfl; rfl; exact hv0); decide +kernel) | (apply GT.pureAt 31; (iterate 4 rfl); (apply V.elem (j := k + 2); (iterate 5 rfl); omega; (show k + 2 < z.sets.len; omega); exact hg.at_ (by omega)); decide +kernel) | (apply GT.readAt 34; (iterate 4 rfl); (apply V.load_H; rfl; rfl; rfl; exact hv1); decide +kernel) | (apply TL.val; rfl; rfl; (first | exact vpure | exact vread)) | (apply GT.pure; (iterate 4 rfl); (first | exact vpure); decide +kernel) | (apply GT.read; (iterate 4 rfl); (first | exact vpure | exact vread); decide +kernel) | (apply GT.done; decide +kernel; apply N.ofQ) | (apply GT.adv; rfl) | (apply GT.guard; (iterate 4 rfl); (exact isx); intro _; rotate_left; intro _; rotate_right)))
        all_goals (try contradiction)
        all_goals (try (exfalso; omega))
        all_goals first
          | exact N.round (k + 2) (by omega) (by show z.sets.len - (k + 2) < z.sets.len - (k + 1); omega) (by (repeat (first | exact True.intro | refine ⟨rfl, ?_⟩ | refine Sub.int rfl (by omega) ?_))) rfl (by (repeat (first | exact List.Sublist.refl _ | exact List.nil_sublist _ | apply List.Sublist.cons_cons | apply List.Sublist.cons)))
          | exact absurd (hnx (by assumption)) (by assumption)
          | exact absurd (by assumption) hpv
          | (exfalso; trace_state; grind)
    · cases k with
      | zero =>
        repeat (any_goals (first | refine T.seq ?_ | refine T.region ?_ | (apply T.regionD wide; rfl) | refine TL.nil ?_ | refine N.next ?_ | refine N.inBlock ?_ | refine N.exit_same ?_ | refine N.exit_then ?_ | refine N.ret_then ?_ | refine N.ret_block ?_ | refine T.ret ?_ | refine T.skip ?_ | refine T.exit ?_ | refine T.block ?_ | (apply T.cond_false; rfl) | (apply T.test; rfl; (exact isx); intro _; rotate_left; intro _; rotate_right) | (apply GT.skip; rfl; rfl; rfl; decide +kernel) | (apply TL.val; rfl; rfl; (apply V.elem (j := 0); (iterate 6 rfl); omega; exact hg.at_ (by omega))) | (apply TL.val; rfl; rfl; (apply V.load_H_row; rfl; rfl; rfl; exact hrow; rfl)) | (apply TL.x; rfl; rfl; (apply X.alloc (d := 4); rfl; rfl; rfl); intro b4 _) | (apply TL.x; rfl; rfl; (apply X.storeTo 0 (enc x); (iterate 10 rfl)); intro _ _) | (apply TL.val; rfl; rfl; (first | exact vpure | exact vread)) | (apply GT.pure; (iterate 4 rfl); (first | exact vpure); decide +kernel) | (apply GT.read; (iterate 4 rfl); (first | exact vpure | exact vread); decide +kernel) | (apply GT.done; decide +kernel; apply N.ofQ) | (apply GT.guard; (iterate 4 rfl); (exact isx); intro _; rotate_left; intro _; rotate_right)))
        all_goals (try contradiction)
        all_goals (try (exfalso; omega))
        all_goals first
          | exact N.round (1) (by omega) (by show z.sets.len - (1) < z.sets.len - 0; omega) (by (repeat (first | exact True.intro | refine ⟨rfl, ?_⟩ | refine Sub.int rfl (by omega) ?_))) rfl (by (repeat (first | exact List.Sublist.refl _ | exact List.nil_sublist _ | apply List.Sublist.cons_cons | apply List.Sublist.cons)))
          | exact absurd (hnx (by assumption)) (by assumption)
          | exact absurd (by assumption) hpv
          | (exfalso; trace_state; grind)
      | succ k =>
        have hkl0 : k < z.sets.els.length := by omega
        have hpv := hprev (Nat.succ_pos k) ht
        simp only [Nat.add_sub_cancel] at hpv
        obtain ⟨y, hy⟩ : ∃ y, z.sets.els[k]'hkl0 = y := ⟨_, rfl⟩
        have hd0 := hg.cell (k := k) (j := 0) (by omega) (v := strV y.set.name) (by show some (strV (z.sets.els[k]'hkl0).set.name) = _; rw [hy])
        rw [hy] at hpv
        repeat (any_goals (first | refine T.seq ?_ | refine T.region ?_ | (apply T.regionD wide; rfl) | refine TL.nil ?_ | refine N.next ?_ | refine N.inBlock ?_ | refine N.exit_same ?_ | refine N.exit_then ?_ | refine N.ret_then ?_ | refine N.ret_block ?_ | refine T.ret ?_ | refine T.skip ?_ | refine T.exit ?_ | refine T.block ?_ | (apply T.cond_false; rfl) | (apply T.test; rfl; (exact isx); intro _; rotate_left; intro _; rotate_right) | (apply GT.skip; rfl; rfl; rfl; decide +kernel) | (apply TL.val; rfl; rfl; (apply V.elem (j := k + 1); (iterate 6 rfl); omega; exact hg.at_ (by omega))) | (apply TL.val; rfl; rfl; (apply V.load_H_row; rfl; rfl; rfl; exact hrow; rfl)) | (apply TL.x; rfl; rfl; (apply X.alloc (d := 4); rfl; rfl; rfl); intro b4 _) | (apply TL.x; rfl; rfl; (apply X.storeTo 0 (enc x); (iterate 10 rfl)); intro _ _) | (apply GT.pureAt 9; (iterate 4 rfl); (apply V.elem (j := k); (iterate 5 rfl); omega; (show k < z.sets.len; omega); exact hg.at_ (by omega)); decide +kernel) | (apply GT.readAt 12; (iterate 4 rfl); (apply V.load_H; rfl; rfl; rfl; exact hd0); decide +kernel) | (apply TL.val; rfl; rfl; (first | exact vpure | exact vread)) | (apply GT.pure; (iterate 4 rfl); (first | exact vpure); decide +kernel) | (apply GT.read; (iterate 4 rfl); (first | exact vpure | exact vread); decide +kernel) | (apply GT.done; decide +kernel; apply N.ofQ) | (apply GT.adv; rfl) | (apply GT.guard; (iterate 4 rfl); (exact isx); intro _; rotate_left; intro _; rotate_right)))
        all_goals (try contradiction)
        all_goals (try (exfalso; omega))
        all_goals first
          | exact N.round (k + 2) (by omega) (by show z.sets.len - (k + 2) < z.sets.len - (k + 1); omega) (by (repeat (first | exact True.intro | refine ⟨rfl, ?_⟩ | refine Sub.int rfl (by omega) ?_))) rfl (by (repeat (first | exact List.Sublist.refl _ | exact List.nil_sublist _ | apply List.Sublist.cons_cons | apply List.Sublist.cons)))
          | exact absurd (hnx (by assumption)) (by assumption)
          | exact absurd (by assumption) hpv
          | (exfalso; trace_state; grind)
  · have hke : k = z.sets.len := by omega
    subst hke
    repeat (any_goals (first | refine T.seq ?_ | refine T.region ?_ | (apply T.regionD wide; rfl) | refine TL.nil ?_ | refine N.next ?_ | refine N.inBlock ?_ | refine N.exit_same ?_ | refine N.exit_then ?_ | refine N.ret_then ?_ | refine N.ret_block ?_ | refine T.ret ?_ | refine T.skip ?_ | refine T.exit ?_ | refine T.block ?_ | (apply T.cond_false; rfl) | (apply T.test; rfl; (exact isx); intro _; rotate_left; intro _; rotate_right) | (apply GT.skip; rfl; rfl; rfl; decide +kernel) | (apply TL.val; rfl; rfl; (first | exact vpure | exact vread)) | (apply GT.pure; (iterate 4 rfl); (first | exact vpure); decide +kernel) | (apply GT.read; (iterate 4 rfl); (first | exact vpure | exact vread); decide +kernel) | (apply GT.done; decide +kernel; apply N.ofQ) | (apply TL.x; rfl; rfl; (first | exact xgrow | exact xput); intro _ _) | (apply GT.guard; (iterate 4 rfl); (exact isx); intro _; rotate_left; intro _; rotate_right)))
    all_goals (try (exfalso; omega))
    exact N.ret_bool rfl (by (exact rvx)) rfl
end
end Go.Proofs.YthabgdbhgcgemaaGreatDoor
