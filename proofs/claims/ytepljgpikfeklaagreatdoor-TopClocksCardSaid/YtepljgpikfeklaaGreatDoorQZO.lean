import Derived.Test.YtepljgpikfeklaaGreatDoorQZM
namespace Go.Proofs.YtepljgpikfeklaaGreatDoor
set_option linter.unusedVariables false
set_option linter.unusedSimpArgs false
open Go Go.RowKit
open Enc (enc)
set_option maxRecDepth 20000
section
variable {z : ZoneV} {s : Slc Bytes} {H : Hp} {w : World}
theorem FourZ.at_ (h4 : FourZ z.c (behRZ z.c)) {k : Nat} (hk : k < z.sets.els.length) : fourOK ((behRZ z.c)[k]?.getD none) z.sets.els[k].set.c := by
  have h1 := h4 k (by rw [setsC_len]; exact hk)
  rwa [setsC_at (by rw [setsC_len]; exact hk) hk] at h1
theorem FiveZ.at_ (h5 : FiveZ z.c (behRZ z.c)) {k : Nat} (hk : k < z.sets.els.length) : fiveOK z.apex ((behRZ z.c)[k]?.getD none) z.sets.els[k].c := by
  have h1 := h5 k (by rw [setsC_len]; exact hk)
  rwa [setsC_at (by rw [setsC_len]; exact hk) hk] at h1
theorem lay_at (hO : OneZ z.c) (he : s.els = behT (behRZ z.c)) {k : Nat} (hk : k < z.sets.els.length) : ∃ b, ∃ h : k < s.els.length, s.els[k] = b ∧ (b = [] ↔ (behRZ z.c)[k]?.getD none = none) ∧ (b ≠ [] → (behRZ z.c)[k]?.getD none = some b) := by
  have hl : k < (behT (behRZ z.c)).length := by rw [behT_len]; exact hk
  have hsm := behT_small (z := z.c) (i := k) hO
  refine ⟨((behRZ z.c)[k]?.getD none).getD [], by rw [he]; exact hl, by simp only [he, behT_at], hsm, fun h => ?_⟩
  cases hb : (behRZ z.c)[k]?.getD none with
  | none => rw [hb] at h; exact absurd rfl h
  | some c => rfl
set_option maxHeartbeats 4000000 in
theorem c_cutsHold (hO : OneZ z.c) (he : s.els = behT (behRZ z.c)) (h4 : FourZ z.c (behRZ z.c)) (hs : Sat H w) (hz : Enc.good H z) (hsg0 : s.Good H) : Calls Tryz.prog 117 #[.agg (enc (⟨z, s⟩ : LayV)).toArray] w (Ret w (.bool true)) := by
  have hg := hz.2
  have hlen := hg.len
  have hlim := hg.lim
  have hsl := hsg0.len
  have hsl2 : s.len = z.sets.len := by rw [← hsl, he, behT_len, hlen]
  refine T.enter (vs := [.agg (enc (⟨z, s⟩ : LayV)).toArray]) (H := H) Tryz.func117 rfl rfl rfl hs ?_
  repeat (any_goals (first | refine T.seq ?_ | refine T.region ?_ | refine TL.nil ?_ | refine N.next ?_ | refine T.block ?_ | (apply TL.x; rfl; rfl; (apply X.box (d := 1); rfl; rfl; rfl); intro b1 _) | (apply TL.val; rfl; rfl; (first | exact vpure | exact vread))))
  refine T.loop (G := Nat) (fun k => [(1, .pointer (some ⟨b1, 0, none⟩)), (9, z.sets.v), (10, intV z.sets.len), (11, intV k)]) (fun _ => H) (fun _ => [.blk b1 179 (enc (⟨z, s⟩ : LayV))]) (fun k => k ≤ z.sets.len) (fun k => z.sets.len - k) 0 (Nat.zero_le _) (by (repeat (first | exact True.intro | refine ⟨rfl, ?_⟩ | refine Sub.int rfl (by omega) ?_))) rfl (by (repeat (first | exact List.Sublist.refl _ | exact List.nil_sublist _ | apply List.Sublist.cons_cons | apply List.Sublist.cons))) ?_
  intro k hk
  by_cases hlt : k < z.sets.len
  · have hkl : k < z.sets.els.length := by omega
    have hsg := hg.els _ (List.getElem_mem hkl)
    have hrow := hg.row (k := k) hlt
    obtain ⟨b, hks, hbe, hb1, hb2⟩ := lay_at hO he hkl
    have hbc := hsg0.cell (k := k) (j := 0) (by omega) (v := strV b) (by show some (strV (s.els[k]'hks)) = _; rw [hbe])
    have hf := h4.at_ hkl
    obtain ⟨bo, hbo⟩ : ∃ bo, (behRZ z.c)[k]?.getD none = bo := ⟨_, rfl⟩
    rw [hbo] at hf hb1 hb2
    obtain ⟨x, hx⟩ : ∃ x, z.sets.els[k]'hkl = x := ⟨_, rfl⟩
    rw [hx] at hf
    try rw [hx] at hrow
    obtain ⟨f1, f2, f3⟩ : (∀ c, bo = some c → (x.set.typ = 1 ∨ x.set.name = c)) ∧ (bo = some x.set.name → x.set.typ = 1 ∨ x.set.typ = 2 ∨ x.set.typ = 6 ∨ x.set.typ = 8) ∧ (x.set.typ = 6 → bo = some x.set.name) := hf
    repeat (any_goals (first | refine T.seq ?_ | refine T.region ?_ | refine TL.nil ?_ | refine N.next ?_ | refine N.inBlock ?_ | refine N.exit_same ?_ | refine N.exit_then ?_ | refine N.ret_then ?_ | refine N.ret_block ?_ | refine T.ret ?_ | refine T.skip ?_ | refine T.exit ?_ | refine T.block ?_ | (apply T.cond_false; rfl) | (apply T.test; rfl; (exact isx); intro _; rotate_left; intro _; rotate_right) | (apply TL.skip; rfl; rfl; rfl) | (apply TL.val; rfl; rfl; (apply V.elem (j := k); (iterate 6 rfl); omega; exact hg.at_ (by omega))) | (apply TL.val; rfl; rfl; (apply V.load_H_row; rfl; rfl; rfl; exact hrow; rfl)) | (apply TL.x; rfl; rfl; (apply X.alloc (d := 4); rfl; rfl; rfl); intro b4 _) | (apply TL.x; rfl; rfl; (apply X.storeTo 0 (enc x); (iterate 10 rfl)); intro _ _) | (apply TL.val; rfl; rfl; (apply V.elem (j := k); (iterate 6 rfl); (show k < s.len; omega); exact hsg0.at_ (by omega))) | (apply TL.val; rfl; rfl; (apply V.load_H; rfl; rfl; rfl; exact hbc)) | (apply TL.val; rfl; rfl; (first | exact vpure | exact vread)) | (apply TL.guard; rfl; rfl; rfl; (exact isx); intro _; rotate_left; intro _; rotate_right)))
    all_goals (try contradiction)
    all_goals (try (exfalso; omega))
    all_goals first
      | exact N.round (k + 1) (by omega) (by show z.sets.len - (k + 1) < z.sets.len - k; omega) (by (repeat (first | exact True.intro | refine ⟨rfl, ?_⟩ | refine Sub.int rfl (by omega) ?_))) rfl (by (repeat (first | exact List.Sublist.refl _ | exact List.nil_sublist _ | apply List.Sublist.cons_cons | apply List.Sublist.cons)))
      | (exfalso; clear hs hz hg hsg0 hrow hbc; grind)
  · have hke : k = z.sets.len := by omega
    subst hke
    repeat (any_goals (first | refine T.seq ?_ | refine T.region ?_ | refine TL.nil ?_ | refine N.next ?_ | refine N.inBlock ?_ | refine N.exit_same ?_ | refine N.exit_then ?_ | refine N.ret_then ?_ | refine N.ret_block ?_ | refine T.ret ?_ | refine T.skip ?_ | refine T.exit ?_ | refine T.block ?_ | (apply T.cond_false; rfl) | (apply T.test; rfl; (exact isx); intro _; rotate_left; intro _; rotate_right) | (apply TL.skip; rfl; rfl; rfl) | (apply TL.val; rfl; rfl; (first | exact vpure | exact vread)) | (apply TL.x; rfl; rfl; (first | exact xgrow | exact xput); intro _ _) | (apply TL.guard; rfl; rfl; rfl; (exact isx); intro _; rotate_left; intro _; rotate_right)))
    all_goals (try (exfalso; omega))
    exact N.ret_bool rfl (by (exact rvx)) rfl
set_option maxHeartbeats 4000000 in
theorem c_sigsHold (hO : OneZ z.c) (he : s.els = behT (behRZ z.c)) (h5 : FiveZ z.c (behRZ z.c)) (hs : Sat H w) (hz : Enc.good H z) (hsg0 : s.Good H) : Calls Tryz.prog 118 #[.agg (enc (⟨z, s⟩ : LayV)).toArray] w (Ret w (.bool true)) := by
  have hg := hz.2
  have hlen := hg.len
  have hlim := hg.lim
  have hsl := hsg0.len
  have hsl2 : s.len = z.sets.len := by rw [← hsl, he, behT_len, hlen]
  refine T.enter (vs := [.agg (enc (⟨z, s⟩ : LayV)).toArray]) (H := H) Tryz.func118 rfl rfl rfl hs ?_
  repeat (any_goals (first | refine T.seq ?_ | refine T.region ?_ | refine TL.nil ?_ | refine N.next ?_ | refine T.block ?_ | (apply TL.x; rfl; rfl; (apply X.box (d := 1); rfl; rfl; rfl); intro b1 _) | (apply TL.val; rfl; rfl; (first | exact vpure | exact vread))))
  refine T.loop (G := Nat) (fun k => [(1, .pointer (some ⟨b1, 0, none⟩)), (9, z.sets.v), (10, intV z.sets.len), (11, intV k)]) (fun _ => H) (fun _ => [.blk b1 179 (enc (⟨z, s⟩ : LayV))]) (fun k => k ≤ z.sets.len) (fun k => z.sets.len - k) 0 (Nat.zero_le _) (by (repeat (first | exact True.intro | refine ⟨rfl, ?_⟩ | refine Sub.int rfl (by omega) ?_))) rfl (by (repeat (first | exact List.Sublist.refl _ | exact List.nil_sublist _ | apply List.Sublist.cons_cons | apply List.Sublist.cons))) ?_
  intro k hk
  by_cases hlt : k < z.sets.len
  · have hkl : k < z.sets.els.length := by omega
    have hsg := hg.els _ (List.getElem_mem hkl)
    have hrow := hg.row (k := k) hlt
    obtain ⟨b, hks, hbe, hb1, hb2⟩ := lay_at hO he hkl
    have hbc := hsg0.cell (k := k) (j := 0) (by omega) (v := strV b) (by show some (strV (s.els[k]'hks)) = _; rw [hbe])
    have hf := (h5.at_ hkl).2
    obtain ⟨bo, hbo⟩ : ∃ bo, (behRZ z.c)[k]?.getD none = bo := ⟨_, rfl⟩
    rw [hbo] at hf hb1 hb2
    have hsgl := hsg.2.len
    obtain ⟨x, hx⟩ : ∃ x, z.sets.els[k]'hkl = x := ⟨_, rfl⟩
    rw [hx] at hf hsgl
    try rw [hx] at hrow
    have hf : bo ≠ none → (x.set.typ = 2 ∨ x.set.typ = 1) → x.sigs.els = [] := hf
    have hf0 : bo ≠ none → (x.set.typ = 2 ∨ x.set.typ = 1) → x.sigs.len = 0 := fun a c => by rw [← hsgl, hf a c]; rfl
    repeat (any_goals (first | refine T.seq ?_ | refine T.region ?_ | refine TL.nil ?_ | refine N.next ?_ | refine N.inBlock ?_ | refine N.exit_same ?_ | refine N.exit_then ?_ | refine N.ret_then ?_ | refine N.ret_block ?_ | refine T.ret ?_ | refine T.skip ?_ | refine T.exit ?_ | refine T.block ?_ | (apply T.cond_false; rfl) | (apply T.test; rfl; (exact isx); intro _; rotate_left; intro _; rotate_right) | (apply TL.skip; rfl; rfl; rfl) | (apply TL.val; rfl; rfl; (apply V.elem (j := k); (iterate 6 rfl); omega; exact hg.at_ (by omega))) | (apply TL.val; rfl; rfl; (apply V.load_H_row; rfl; rfl; rfl; exact hrow; rfl)) | (apply TL.x; rfl; rfl; (apply X.alloc (d := 4); rfl; rfl; rfl); intro b4 _) | (apply TL.x; rfl; rfl; (apply X.storeTo 0 (enc x); (iterate 10 rfl)); intro _ _) | (apply TL.val; rfl; rfl; (apply V.elem (j := k); (iterate 6 rfl); (show k < s.len; omega); exact hsg0.at_ (by omega))) | (apply TL.val; rfl; rfl; (apply V.load_H; rfl; rfl; rfl; exact hbc)) | (apply TL.val; rfl; rfl; (first | exact vpure | exact vread)) | (apply TL.guard; rfl; rfl; rfl; (exact isx); intro _; rotate_left; intro _; rotate_right)))
    all_goals (try contradiction)
    all_goals (try (exfalso; omega))
    all_goals first
      | exact N.round (k + 1) (by omega) (by show z.sets.len - (k + 1) < z.sets.len - k; omega) (by (repeat (first | exact True.intro | refine ⟨rfl, ?_⟩ | refine Sub.int rfl (by omega) ?_))) rfl (by (repeat (first | exact List.Sublist.refl _ | exact List.nil_sublist _ | apply List.Sublist.cons_cons | apply List.Sublist.cons)))
      | (exfalso; clear hs hz hg hsg0 hrow hbc; grind)
  · have hke : k = z.sets.len := by omega
    subst hke
    repeat (any_goals (first | refine T.seq ?_ | refine T.region ?_ | refine TL.nil ?_ | refine N.next ?_ | refine N.inBlock ?_ | refine N.exit_same ?_ | refine N.exit_then ?_ | refine N.ret_then ?_ | refine N.ret_block ?_ | refine T.ret ?_ | refine T.skip ?_ | refine T.exit ?_ | refine T.block ?_ | (apply T.cond_false; rfl) | (apply T.test; rfl; (exact isx); intro _; rotate_left; intro _; rotate_right) | (apply TL.skip; rfl; rfl; rfl) | (apply TL.val; rfl; rfl; (first | exact vpure | exact vread)) | (apply TL.x; rfl; rfl; (first | exact xgrow | exact xput); intro _ _) | (apply TL.guard; rfl; rfl; rfl; (exact isx); intro _; rotate_left; intro _; rotate_right)))
    all_goals (try (exfalso; omega))
    exact N.ret_bool rfl (by (exact rvx)) rfl
end
end Go.Proofs.YtepljgpikfeklaaGreatDoor
