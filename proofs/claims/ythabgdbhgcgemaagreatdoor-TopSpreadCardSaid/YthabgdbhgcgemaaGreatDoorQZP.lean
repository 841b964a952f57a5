import Derived.Test.YthabgdbhgcgemaaGreatDoorQZM
import Derived.Test.YthabgdbhgcgemaaGreatDoorQZD
namespace Go.Proofs.YthabgdbhgcgemaaGreatDoor
set_option linter.unusedVariables false
set_option linter.unusedSimpArgs false
open Go Go.RowKit
open Enc (enc)
set_option maxRecDepth 20000
section
variable {z : ZoneV} {s : Slc Bytes} {H : Hp} {w : World}
theorem FourZ.at_ (h4 : FourZ z.c (behRZ z.c)) {k : Nat} (hk : k < z.sets.els.length) : fourOK ((behRZ z.c)[k]?.getD none) z.sets.els[k].set.c := by
  have h1 := h4 k (by rw [setsC_len]; exact hk)
  rwa [setsC_at (by rw [setsC_len]; exact hk) hk] at h1
theorem FiveZ.at_ (h5 : FiveZ z.c (behRZ z.c)) {k : Nat} (hk : k < z.sets.els.length) : fiveOK z.apex ((behRZ z.c)[k]?.getD none) z.sets.els[k].c := by
  have h1 := h5 k (by rw [setsC_len]; exact hk)
  rwa [setsC_at (by rw [setsC_len]; exact hk) hk] at h1
theorem lay_at (hO : OneZ z.c) (he : s.els = behT (behRZ z.c)) {k : Nat} (hk : k < z.sets.els.length) : ∃ b, ∃ h : k < s.els.length, s.els[k] = b ∧ (b = [] ↔ (behRZ z.c)[k]?.getD none = none) ∧ (b ≠ [] → (behRZ z.c)[k]?.getD none = some b) := by
  have hl : k < (behT (behRZ z.c)).length := by rw [behT_len]; exact hk
  have hsm := behT_small (z := z.c) (i := k) hO
  refine ⟨((behRZ z.c)[k]?.getD none).getD [], by rw [he]; exact hl, by simp only [he, behT_at], hsm, fun h => ?_⟩
  cases hb : (behRZ z.c)[k]?.getD none with
  | none => rw [hb] at h; exact absurd rfl h
  | some c => rfl
set_option maxHeartbeats 4000000 in
theorem c_cutsHold (hO : OneZ z.c) (he : s.els = behT (behRZ z.c)) (h4 : FourZ z.c (behRZ z.c)) (hs : Sat H w) (hz : Enc.good H z) (hsg0 : s.Good H) : Calls Tryz.prog 77 #[.agg (enc (⟨z, s⟩ : LayV)).toArray] w (Ret w (.bool true)) := by
  have hg := hz.2
  have hlen := hg.len
  have hlim := hg.lim
  have hsl := hsg0.len
  have hsl2 : s.len = z.sets.len := by rw [← hsl, he, behT_len, hlen]
  refine T.enter (vs := [.agg (enc (⟨z, s⟩ : LayV)).toArray]) (H := H) Tryz.func77 rfl rfl rfl hs ?_
  repeat (any_goals (first | refine T.seq ?_ | refine T.region ?_ | refine TL.nil ?_ | refine N.next ?_ | refine T.block ?_ | (apply TL.x; rfl; rfl; (apply X.box (d := 1); rfl; rfl; rfl); intro b1 _) | (apply TL.val; rfl; rfl; (first | exact vpure | exact vread))))
  refine T.loop (G := Nat) (fun k => [(1, .pointer (some ⟨b1, 0, none⟩)), (9, z.sets.v), (10, intV z.sets.len), (11, intV k)]) (fun _ => H) (fun _ => [.blk b1 135 (enc (⟨z, s⟩ : LayV))]) (fun k => k ≤ z.sets.len) (fun k => z.sets.len - k) 0 (Nat.zero_le _) (by (repeat (first | exact True.intro | refine ⟨rfl, ?_⟩ | refine Sub.int rfl (by omega) ?_))) rfl (by (repeat (first | exact List.Sublist.refl _ | exact List.nil_sublist _ | apply List.Sublist.cons_cons | apply List.Sublist.cons))) ?_
  intro k hk
  by_cases hlt : k < z.sets.len
  · have hkl : k < z.sets.els.length := by omega
    have hsg := hg.els _ (List.getElem_mem hkl)
    have hrow := hg.row (k := k) hlt
    obtain ⟨b, hks, hbe, hb1, hb2⟩ := lay_at hO he hkl
    have hbc := hsg0.cell (k := k) (j := 0) (by omega) (v := strV b) (by show some (strV (s.els[k]'hks)) = _; rw [hbe])
    have hf := h4.at_ hkl
    obtain ⟨bo, hbo⟩ : ∃ bo, (behRZ z.c)[k]?.getD none = bo := ⟨_, rfl⟩
    rw [hbo] at hf hb1 hb2
    obtain ⟨x, hx⟩ : ∃ x, z.sets.els[k]'hkl = x := ⟨_, rfl⟩
    rw [hx] at hf
    try rw [hx] at hrow
    obtain ⟨f1, f2, f3⟩ : (∀ c, bo = some c → (x.set.typ = 1 ∨ x.set.name = c)) ∧ (bo = some x.set.name → x.set.typ = 1 ∨ x.set.typ = 2 ∨ x.set.typ = 6 ∨ x.set.typ = 8) ∧ (x.set.typ = 6 → bo = some x.set.name) := hf
    repeat (any_goals (first | refine T.seq ?_ | refine T.region ?_ | refine TL.nil ?_ | refine N.next ?_ | refine N.inBlock ?_ | refine N.exit_same ?_ | refine N.exit_then ?_ | refine N.ret_then ?_ | refine N.ret_block ?_ | refine T.ret ?_ | refine T.skip ?_ | refine T.exit ?_ | refine T.block ?_ | (apply T.cond_false; rfl) | (apply T.test; rfl; (exact isx); intro _; rotate_left; intro _; rotate_right) | (apply TL.skip; rfl; rfl; rfl) | (apply TL.val; rfl; rfl; (apply V.elem (j := k); (iterate 6 rfl); omega; exact hg.at_ (by omega))) | (apply TL.val; rfl; rfl; (apply V.load_H_row; rfl; rfl; rfl; exact hrow; rfl)) | (apply TL.x; rfl; rfl; (apply X.alloc (d := 4); rfl; rfl; rfl); intro b4 _) | (apply TL.x; rfl; rfl; (apply X.storeTo 0 (enc x); (iterate 10 rfl)); intro _ _) | (apply TL.val; rfl; rfl; (apply V.elem (j := k); (iterate 6 rfl); (show k < s.len; omega); exact hsg0.at_ (by omega))) | (apply TL.val; rfl; rfl; (apply V.load_H; rfl; rfl; rfl; exact hbc)) | (apply TL.val; rfl; rfl; (first | exact vpure | exact vread)) | (apply TL.guard; rfl; rfl; rfl; (exact isx); intro _; rotate_left; intro _; rotate_right)))
    all_goals (try contradiction)
    all_goals (try (exfalso; omega))
    all_goals first
      | exact N.round (k + 1) (by omega) (by show z.sets.len - (k + 1) < z.sets.len - k; omega) (by (repeat (first | exact True.intro | refine ⟨rfl, ?_⟩ | refine Sub.int rfl (by omega) ?_))) rfl (by (repeat (first | exact List.Sublist.refl _ | exact List.nil_sublist _ | apply List.Sublist.cons_cons | apply List.Sublist.cons)))
      | (exfalso; clear hs hz hg hsg0 hrow hbc; grind)
  · have hke : k = z.sets.len := by omega
    subst hke
    repeat (any_goals (first | refine T.seq ?_ | refine T.region ?_ | refine TL.nil ?_ | refine N.next ?_ | refine N.inBlock ?_ | refine N.exit_same ?_ | refine N.exit_then ?_ | refine N.ret_then ?_ | refine N.ret_block ?_ | refine T.ret ?_ | refine T.skip ?_ | refine T.exit ?_ | refine T.block ?_ | (apply T.cond_false; rfl) | (apply T.test; rfl; (exact isx); intro _; rotate_left; intro _; rotate_right) | (apply TL.skip; rfl; rfl; rfl) | (apply TL.val; rfl; rfl; (first | exact vpure | exact vread)) | (apply TL.x; rfl; rfl; (first | exact xgrow | exact xput); intro _ _) | (apply TL.guard; rfl; rfl; rfl; (exact isx); intro _; rotate_left; intro _; rotate_right)))
    all_goals (try (exfalso; omega))
    exact N.ret_bool rfl (by (exact rvx)) rfl
set_option maxHeartbeats 4000000 in
theorem c_sigsHold (hO : OneZ z.c) (he : s.els = behT (behRZ z.c)) (h5 : FiveZ z.c (behRZ z.c)) (hs : Sat H w) (hz : Enc.good H z) (hsg0 : s.Good H) : Calls Tryz.prog 78 #[.agg (enc (⟨z, s⟩ : LayV)).toArray] w (Ret w (.bool true)) := by
  have hg := hz.2
  have hlen := hg.len
  have hlim := hg.lim
  have hsl := hsg0.len
  have hsl2 : s.len = z.sets.len := by rw [← hsl, he, behT_len, hlen]
  refine T.enter (vs := [.agg (enc (⟨z, s⟩ : LayV)).toArray]) (H := H) Tryz.func78 rfl rfl rfl hs ?_
  repeat (any_goals (first | refine T.seq ?_ | refine T.region ?_ | refine TL.nil ?_ | refine N.next ?_ | refine T.block ?_ | (apply TL.x; rfl; rfl; (apply X.box (d := 1); rfl; rfl; rfl); intro b1 _) | (apply TL.val; rfl; rfl; (first | exact vpure | exact vread))))
  refine T.loop (G := Nat) (fun k => [(1, .pointer (some ⟨b1, 0, none⟩)), (9, z.sets.v), (10, intV z.sets.len), (11, intV k)]) (fun _ => H) (fun _ => [.blk b1 135 (enc (⟨z, s⟩ : LayV))]) (fun k => k ≤ z.sets.len) (fun k => z.sets.len - k) 0 (Nat.zero_le _) (by (repeat (first | exact True.intro | refine ⟨rfl, ?_⟩ | refine Sub.int rfl (by omega) ?_))) rfl (by (repeat (first | exact List.Sublist.refl _ | exact List.nil_sublist _ | apply List.Sublist.cons_cons | apply List.Sublist.cons))) ?_
  intro k hk
  by_cases hlt : k < z.sets.len
  · have hkl : k < z.sets.els.length := by omega
    have hsg := hg.els _ (List.getElem_mem hkl)
    have hrow := hg.row (k := k) hlt
    obtain ⟨b, hks, hbe, hb1, hb2⟩ := lay_at hO he hkl
    have hbc := hsg0.cell (k := k) (j := 0) (by omega) (v := strV b) (by show some (strV (s.els[k]'hks)) = _; rw [hbe])
    have hf := (h5.at_ hkl).2
    obtain ⟨bo, hbo⟩ : ∃ bo, (behRZ z.c)[k]?.getD none = bo := ⟨_, rfl⟩
    rw [hbo] at hf hb1 hb2
    have hsgl := hsg.2.len
    obtain ⟨x, hx⟩ : ∃ x, z.sets.els[k]'hkl = x := ⟨_, rfl⟩
    rw [hx] at hf hsgl
    try rw [hx] at hrow
    have hf : bo ≠ none → (x.set.typ = 2 ∨ x.set.typ = 1) → x.sigs.els = [] := hf
    have hf0 : bo ≠ none → (x.set.typ = 2 ∨ x.set.typ = 1) → x.sigs.len = 0 := fun a c => by rw [← hsgl, hf a c]; rfl
    repeat (any_goals (first | refine T.seq ?_ | refine T.region ?_ | refine TL.nil ?_ | refine N.next ?_ | refine N.inBlock ?_ | refine N.exit_same ?_ | refine N.exit_then ?_ | refine N.ret_then ?_ | refine N.ret_block ?_ | refine T.ret ?_ | refine T.skip ?_ | refine T.exit ?_ | refine T.block ?_ | (apply T.cond_false; rfl) | (apply T.test; rfl; (exact isx); intro _; rotate_left; intro _; rotate_right) | (apply TL.skip; rfl; rfl; rfl) | (apply TL.val; rfl; rfl; (apply V.elem (j := k); (iterate 6 rfl); omega; exact hg.at_ (by omega))) | (apply TL.val; rfl; rfl; (apply V.load_H_row; rfl; rfl; rfl; exact hrow; rfl)) | (apply TL.x; rfl; rfl; (apply X.alloc (d := 4); rfl; rfl; rfl); intro b4 _) | (apply TL.x; rfl; rfl; (apply X.storeTo 0 (enc x); (iterate 10 rfl)); intro _ _) | (apply TL.val; rfl; rfl; (apply V.elem (j := k); (iterate 6 rfl); (show k < s.len; omega); exact hsg0.at_ (by omega))) | (apply TL.val; rfl; rfl; (apply V.load_H; rfl; rfl; rfl; exact hbc)) | (apply TL.val; rfl; rfl; (first | exact vpure | exact vread)) | (apply TL.guard; rfl; rfl; rfl; (exact isx); intro _; rotate_left; intro _; rotate_right)))
    all_goals (try contradiction)
    all_goals (try (exfalso; omega))
    all_goals first
      | exact N.round (k + 1) (by omega) (by show z.sets.len - (k + 1) < z.sets.len - k; omega) (by (repeat (first | exact True.intro | refine ⟨rfl, ?_⟩ | refine Sub.int rfl (by omega) ?_))) rfl (by (repeat (first | exact List.Sublist.refl _ | exact List.nil_sublist _ | apply List.Sublist.cons_cons | apply List.Sublist.cons)))
      | (exfalso; clear hs hz hg hsg0 hrow hbc; grind)
  · have hke : k = z.sets.len := by omega
    subst hke
    repeat (any_goals (first | refine T.seq ?_ | refine T.region ?_ | refine TL.nil ?_ | refine N.next ?_ | refine N.inBlock ?_ | refine N.exit_same ?_ | refine N.exit_then ?_ | refine N.ret_then ?_ | refine N.ret_block ?_ | refine T.ret ?_ | refine T.skip ?_ | refine T.exit ?_ | refine T.block ?_ | (apply T.cond_false; rfl) | (apply T.test; rfl; (exact isx); intro _; rotate_left; intro _; rotate_right) | (apply TL.skip; rfl; rfl; rfl) | (apply TL.val; rfl; rfl; (first | exact vpure | exact vread)) | (apply TL.x; rfl; rfl; (first | exact xgrow | exact xput); intro _ _) | (apply TL.guard; rfl; rfl; rfl; (exact isx); intro _; rotate_left; intro _; rotate_right)))
    all_goals (try (exfalso; omega))
    exact N.ret_bool rfl (by (exact rvx)) rfl
end
end Go.Proofs.YthabgdbhgcgemaaGreatDoor
namespace Go.Proofs.YthabgdbhgcgemaaGreatDoor
set_option linter.unusedVariables false
set_option linter.unusedSimpArgs false
open Go Go.RowKit
open Enc (enc)
set_option maxRecDepth 20000
set_option maxHeartbeats 4000000 in
theorem c_zoneInForm (s : Slc Sig) (apex : Bytes) (hf : sigsForm s.els apex = true) {H : Hp} {w : World} (hs : Sat H w) (hg : s.Good H) (ha : LenOk apex) : Calls Tryz.prog 132 #[s.v, strV apex] w (Ret w (.bool true)) := by
  have hlen := hg.len
  have hlim := hg.lim
  obtain ⟨h6, hform⟩ := (form_iff s.els apex).1 hf
  refine T.enter (vs := [s.v, strV apex]) (H := H) Tryz.func132 rfl rfl rfl hs ?_
  repeat (any_goals (first | refine T.seq ?_ | refine T.region ?_ | refine TL.nil ?_ | refine N.next ?_ | refine N.ret_then ?_ | refine T.ret ?_ | refine T.skip ?_ | refine T.block ?_ | (apply T.test; rfl; (exact isx); intro _; rotate_left; intro _; rotate_right) | (apply TL.val; rfl; rfl; (first | exact vpure | exact vread))))
  all_goals (try (exfalso; omega))
  refine T.loop (G := Nat) (fun k => [(0, s.v), (1, strV apex), (10, s.v), (11, intV s.len), (12, intV k)]) (fun _ => H) (fun _ => []) (fun k => k ≤ s.len) (fun k => s.len - k) 0 (Nat.zero_le _) (by (repeat (first | exact True.intro | refine ⟨rfl, ?_⟩ | refine Sub.int rfl (by omega) ?_))) rfl (by (first | exact List.Sublist.refl _ | exact List.nil_sublist _ | exact List.Sublist.cons _ (List.Sublist.refl _) | exact List.Sublist.cons _ (List.Sublist.cons _ (List.Sublist.refl _)))) ?_
  intro k hk
  by_cases hlt : k < s.len
  · have hkl : k < s.els.length := by omega
    obtain ⟨f1, ⟨f2, f3⟩, ⟨f4, f5⟩, f6, f7, ⟨f8, f9, f10⟩, f11⟩ := hform k hkl hkl
    have hrow := hg.row (k := k) hlt
    have h0l : 0 < s.els.length := by omega
    cases k with
    | zero =>
      obtain ⟨x, hx⟩ : ∃ x, s.els[0]'hkl = x := ⟨_, rfl⟩
      rw [hx] at f1 f2 f3 f4 f5 f8 f9 f10
      try rw [hx] at hrow
      repeat (any_goals (first | refine T.seq ?_ | refine T.region ?_ | (apply T.regionD wide; rfl) | refine TL.nil ?_ | refine N.next ?_ | refine N.inBlock ?_ | refine N.exit_same ?_ | refine N.exit_then ?_ | refine N.ret_then ?_ | refine N.ret_block ?_ | refine T.ret ?_ | refine T.skip ?_ | refine T.exit ?_ | refine T.block ?_ | (apply T.cond_true; rfl) | (apply T.cond_false; rfl) | (apply T.test; rfl; (exact isx); intro _; rotate_left; intro _; rotate_right) | (apply TL.skip; rfl; rfl; rfl) | (apply GT.skip; rfl; rfl; rfl; decide +kernel) | (apply TL.val; rfl; rfl; (apply V.elem (j := 0); (iterate 6 rfl); omega; exact hg.at_ (by omega))) | (apply TL.val; rfl; rfl; (apply V.load_H_row; rfl; rfl; rfl; exact hrow; rfl)) | (apply TL.x; rfl; rfl; (apply X.alloc (d := 6); rfl; rfl; rfl); intro b6 _) | (apply TL.x; rfl; rfl; (apply X.storeTo 0 (enc x); (iterate 10 rfl)); intro _ _) | (apply TL.val; rfl; rfl; (first | exact vpure | exact vread)) | (apply GT.pure; (iterate 4 rfl); (first | exact vpure); decide +kernel) | (apply GT.done; decide +kernel; apply N.ofQ) | (apply TL.guard; rfl; rfl; rfl; (exact isx); intro _; rotate_left; intro _; rotate_right)))
      all_goals (try contradiction)
      all_goals (try (exfalso; omega))
      all_goals exact N.round 1 (by omega) (by show s.len - 1 < s.len - 0; omega) (by (repeat (first | exact True.intro | refine ⟨rfl, ?_⟩ | refine Sub.int rfl (by omega) ?_))) rfl (by (first | exact List.Sublist.refl _ | exact List.nil_sublist _ | exact List.Sublist.cons _ (List.Sublist.refl _) | exact List.Sublist.cons _ (List.Sublist.cons _ (List.Sublist.refl _))))
    | succ k =>
      have hkl0 : k < s.els.length := by omega
      have f11 := f11 (Nat.succ_pos k)
      simp only [Nat.add_sub_cancel] at f11
      obtain ⟨x, hx⟩ : ∃ x, s.els[k + 1]'hkl = x := ⟨_, rfl⟩
      obtain ⟨y, hy⟩ : ∃ y, s.els[k]'hkl0 = y := ⟨_, rfl⟩
      obtain ⟨u, hu⟩ : ∃ u, s.els[0]'h0l = u := ⟨_, rfl⟩
      have hu3 := hg.cell (k := 0) (j := 3) (by omega) (v := intV u.frm) (by show some (intV (s.els[0]'h0l).frm) = _; rw [hu])
      have hu4 := hg.cell (k := 0) (j := 4) (by omega) (v := intV u.til) (by show some (intV (s.els[0]'h0l).til) = _; rw [hu])
      have hy1 := hg.cell (k := k) (j := 1) (by omega) (v := intV y.key) (by show some (intV (s.els[k]'hkl0).key) = _; rw [hy])
      rw [hx] at f1 f2 f3 f4 f5 f6 f7 f8 f9 f10 f11
      rw [hy] at f11
      rw [hu] at f6 f7
      try rw [hx] at hrow
      repeat (any_goals (first | refine T.seq ?_ | refine T.region ?_ | (apply T.regionD wide; rfl) | refine TL.nil ?_ | refine N.next ?_ | refine N.inBlock ?_ | refine N.exit_same ?_ | refine N.exit_then ?_ | refine N.ret_then ?_ | refine N.ret_block ?_ | refine T.ret ?_ | refine T.skip ?_ | refine T.exit ?_ | refine T.block ?_ | (apply T.cond_true; rfl) | (apply T.cond_false; rfl) | (apply T.test; rfl; (exact isx); intro _; rotate_left; intro _; rotate_right) | (apply TL.skip; rfl; rfl; rfl) | (apply GT.skip; rfl; rfl; rfl; decide +kernel) | (apply TL.val; rfl; rfl; (apply V.elem (j := k + 1); (iterate 6 rfl); omega; exact hg.at_ (by omega))) | (apply TL.val; rfl; rfl; (apply V.load_H_row; rfl; rfl; rfl; exact hrow; rfl)) | (apply TL.x; rfl; rfl; (apply X.alloc (d := 6); rfl; rfl; rfl); intro b6 _) | (apply TL.x; rfl; rfl; (apply X.storeTo 0 (enc x); (iterate 10 rfl)); intro _ _) | (apply GT.pureAt 6; (iterate 4 rfl); (apply V.elem (j := 0); (iterate 5 rfl); omega; omega; exact hg.at_ (by omega)); decide +kernel) | (apply GT.readAt 8; (iterate 4 rfl); (apply V.load_H; rfl; rfl; rfl; exact hu3); decide +kernel) | (apply GT.pureAt 14; (iterate 4 rfl); (apply V.elem (j := 0); (iterate 5 rfl); omega; omega; exact hg.at_ (by omega)); decide +kernel) | (apply GT.readAt 16; (iterate 4 rfl); (apply V.load_H; rfl; rfl; rfl; exact hu4); decide +kernel) | (apply GT.pureAt 25; (iterate 4 rfl); (apply V.elem (j := k); (iterate 5 rfl); omega; omega; exact hg.at_ (by omega)); decide +kernel) | (apply GT.readAt 27; (iterate 4 rfl); (apply V.load_H; rfl; rfl; rfl; exact hy1); decide +kernel) | (apply TL.val; rfl; rfl; (first | exact vpure | exact vread)) | (apply GT.pure; (iterate 4 rfl); (first | exact vpure); decide +kernel) | (apply GT.read; (iterate 4 rfl); (first | exact vpure | exact vread); decide +kernel) | (apply GT.done; decide +kernel; apply N.ofQ) | (apply GT.adv; rfl) | (apply TL.guard; rfl; rfl; rfl; (exact isx); intro _; rotate_left; intro _; rotate_right) | (apply GT.guard; (iterate 4 rfl); (exact isx); intro _; rotate_left; intro _; rotate_right)))
      all_goals (try contradiction)
      all_goals (try (exfalso; omega))
      all_goals first
        | exact N.round (k + 2) (by omega) (by show s.len - (k + 2) < s.len - (k + 1); omega) (by (repeat (first | exact True.intro | refine ⟨rfl, ?_⟩ | refine Sub.int rfl (by omega) ?_))) rfl (by (first | exact List.Sublist.refl _ | exact List.nil_sublist _ | exact List.Sublist.cons _ (List.Sublist.refl _) | exact List.Sublist.cons _ (List.Sublist.cons _ (List.Sublist.refl _))))
        | (exfalso; clear hs hg hrow hform; grind)
  · have hke : k = s.len := by omega
    subst hke
    repeat (any_goals (first | refine T.seq ?_ | refine T.region ?_ | (apply T.regionD wide; rfl) | refine TL.nil ?_ | refine N.next ?_ | refine N.inBlock ?_ | refine N.exit_same ?_ | refine N.exit_then ?_ | refine N.ret_then ?_ | refine N.ret_block ?_ | refine T.ret ?_ | refine T.skip ?_ | refine T.exit ?_ | refine T.block ?_ | (apply T.cond_true; rfl) | (apply T.cond_false; rfl) | (apply T.test; rfl; (exact isx); intro _; rotate_left; intro _; rotate_right) | (apply TL.skip; rfl; rfl; rfl) | (apply GT.skip; rfl; rfl; rfl; decide +kernel) | (apply TL.val; rfl; rfl; (first | exact vpure | exact vread)) | (apply GT.pure; (iterate 4 rfl); (first | exact vpure); decide +kernel) | (apply GT.read; (iterate 4 rfl); (first | exact vpure | exact vread); decide +kernel) | (apply GT.done; decide +kernel; apply N.ofQ) | (apply TL.x; rfl; rfl; (first | exact xgrow | exact xput); intro _ _) | (apply TL.guard; rfl; rfl; rfl; (exact isx); intro _; rotate_left; intro _; rotate_right) | (apply GT.guard; (iterate 4 rfl); (exact isx); intro _; rotate_left; intro _; rotate_right)))
    all_goals (try (exfalso; omega))
    exact N.ret_bool rfl (by (exact rvx)) rfl
section
variable {z : ZoneV} {s : Slc Bytes} {H : Hp} {w : World}
theorem c_formHolds (h5 : FiveZ z.c (behRZ z.c)) (hs : Sat H w) (hz : Enc.good H z) : Calls Tryz.prog 79 #[.agg (enc (⟨z, s⟩ : LayV)).toArray] w (Ret w (.bool true)) := by
  have hg := hz.2
  have hlen := hg.len
  have hlim := hg.lim
  refine T.enter (vs := [.agg (enc (⟨z, s⟩ : LayV)).toArray]) (H := H) Tryz.func79 rfl rfl rfl hs ?_
  repeat (any_goals (first | refine T.seq ?_ | refine T.region ?_ | refine TL.nil ?_ | refine N.next ?_ | refine T.block ?_ | (apply TL.x; rfl; rfl; (apply X.box (d := 1); rfl; rfl; rfl); intro b1 _) | (apply TL.val; rfl; rfl; (first | exact vpure | exact vread))))
  refine T.loop (G := Nat) (fun k => [(1, .pointer (some ⟨b1, 0, none⟩)), (8, z.sets.v), (9, intV z.sets.len), (10, intV k)]) (fun _ => H) (fun _ => [.blk b1 135 (enc (⟨z, s⟩ : LayV))]) (fun k => k ≤ z.sets.len) (fun k => z.sets.len - k) 0 (Nat.zero_le _) (by (repeat (first | exact True.intro | refine ⟨rfl, ?_⟩ | refine Sub.int rfl (by omega) ?_))) rfl (by (repeat (first | exact List.Sublist.refl _ | exact List.nil_sublist _ | apply List.Sublist.cons_cons | apply List.Sublist.cons))) ?_
  intro k hk
  by_cases hlt : k < z.sets.len
  · have hkl : k < z.sets.els.length := by omega
    have hsg := hg.els _ (List.getElem_mem hkl)
    have hrow := hg.row (k := k) hlt
    have hf := (h5.at_ hkl).1
    obtain ⟨x, hx⟩ : ∃ x, z.sets.els[k]'hkl = x := ⟨_, rfl⟩
    rw [hx] at hf hsg
    try rw [hx] at hrow
    have hf : sigsForm x.sigs.els z.apex = true := hf
    repeat (any_goals (first | refine T.seq ?_ | refine T.region ?_ | refine TL.nil ?_ | refine N.next ?_ | refine N.inBlock ?_ | refine N.exit_same ?_ | refine N.exit_then ?_ | refine T.ret ?_ | refine T.skip ?_ | refine T.exit ?_ | refine T.block ?_ | (apply T.cond_false; rfl) | (apply T.test; rfl; (exact isx); intro _; rotate_left; intro _; rotate_right) | (apply TL.val; rfl; rfl; (apply V.elem (j := k); (iterate 6 rfl); omega; exact hg.at_ (by omega))) | (apply TL.val; rfl; rfl; (apply V.load_H_row; rfl; rfl; rfl; exact hrow; rfl)) | (apply TL.x; rfl; rfl; (apply X.alloc (d := 4); rfl; rfl; rfl); intro b4 _) | (apply TL.x; rfl; rfl; (apply X.storeTo 0 (enc x); (iterate 10 rfl)); intro _ _) | (apply TL.callE (f := 132) [x.sigs.v, strV z.apex] Tryz.call132; (iterate 4 rfl); (exact fun _ hs => c_zoneInForm x.sigs z.apex hf hs.sat hsg.2 hz.1)) | (apply TL.val; rfl; rfl; (first | exact vpure | exact vread))))
    all_goals (try contradiction)
    all_goals (try (exfalso; omega))
    all_goals exact N.round (k + 1) (by omega) (by show z.sets.len - (k + 1) < z.sets.len - k; omega) (by (repeat (first | exact True.intro | refine ⟨rfl, ?_⟩ | refine Sub.int rfl (by omega) ?_))) rfl (by (repeat (first | exact List.Sublist.refl _ | exact List.nil_sublist _ | apply List.Sublist.cons_cons | apply List.Sublist.cons)))
  · have hke : k = z.sets.len := by omega
    subst hke
    repeat (any_goals (first | refine T.seq ?_ | refine T.region ?_ | refine TL.nil ?_ | refine N.next ?_ | refine N.exit_same ?_ | refine N.exit_then ?_ | refine T.ret ?_ | refine T.skip ?_ | refine T.exit ?_ | refine T.block ?_ | (apply T.test; rfl; (exact isx); intro _; rotate_left; intro _; rotate_right) | (apply TL.val; rfl; rfl; (first | exact vpure | exact vread)) | (apply TL.x; rfl; rfl; (first | exact xgrow | exact xput); intro _ _)))
    all_goals (try (exfalso; omega))
    exact N.ret_bool rfl (by (exact rvx)) rfl
end
end Go.Proofs.YthabgdbhgcgemaaGreatDoor
