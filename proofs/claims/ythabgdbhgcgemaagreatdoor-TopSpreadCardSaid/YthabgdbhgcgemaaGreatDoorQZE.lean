import Derived.Test.YthabgdbhgcgemaaGreatDoorQZD
namespace Go.Proofs.YthabgdbhgcgemaaGreatDoor
set_option linter.unusedVariables false
set_option linter.unusedSimpArgs false
open Go Go.RowKit
open Enc (enc)
set_option maxRecDepth 20000
theorem c_At06V (z : ZoneV) (q : Question) {i : Int} (h : idxI (isAt q) z.sets.els = i) {H : Hp} {w : World} (hs : Sat H w) (hz : Enc.good H z) : Calls Tryz.prog 32 #[.agg (enc z).toArray, .agg (enc q).toArray] w (Ret w (intV i)) := h ▸ c_At06 z q hs hz
theorem at_has {z : ZoneV} {n : Bytes} {t : Int} (h : ¬ idxI (isAt ⟨n, t⟩) z.sets.els < 0) : ∃ s ∈ z.c.sets, s.set.name = n ∧ s.set.typ = t := by
  have h2 := idxI_ge (isAt ⟨n, t⟩) z.sets.els
  rw [decide_eq_true (by omega)] at h2
  obtain ⟨x, hx, hp⟩ := List.any_eq_true.1 h2.symm
  unfold isAt at hp
  rw [Bool.and_eq_true] at hp
  exact ⟨x.c, by unfold ZoneV.c; exact List.mem_map_of_mem hx, of_decide_eq_true hp.1, of_decide_eq_true hp.2⟩
theorem c_PlacedV (t : Int) (b : Bool) {v : Bool} (h : placedOK t b = v) {H : Hp} {w : World} (hs : Sat H w) : Calls Tryz.prog 123 #[intV t, .bool b] w (Ret w (.bool v)) := h ▸ c_Placed t b hs
set_option maxHeartbeats 4000000 in
theorem c_two06 (z : ZoneV) {H : Hp} {w : World} (hs : Sat H w) (hz : Enc.good H z) : Calls Tryz.prog 67 #[.agg (enc z).toArray] w (Tells w (TwoZ z.c)) := by
  have hg := hz.2
  have hlen := hg.len
  have hlim := hg.lim
  obtain ⟨i4, hi4⟩ : ∃ i, idxI (isAt ⟨z.apex, 4⟩) z.sets.els = i := ⟨_, rfl⟩
  obtain ⟨i2, hi2⟩ : ∃ i, idxI (isAt ⟨z.apex, 2⟩) z.sets.els = i := ⟨_, rfl⟩
  refine T.enter (vs := [.agg (enc z).toArray]) (H := H) Tryz.func67 rfl rfl rfl hs ?_
  by_cases hneg : i4 < 0 ∨ i2 < 0
  · repeat (any_goals (first | refine T.seq ?_ | refine T.region ?_ | refine TL.nil ?_ | refine N.next ?_ | refine N.ret_then ?_ | refine T.ret ?_ | refine T.skip ?_ | refine T.block ?_ | (apply T.cond_true; rfl) | (apply T.test; rfl; (exact isx); intro _; rotate_left; intro _; rotate_right) | (apply TL.skip; rfl; rfl; rfl) | (apply TL.x; rfl; rfl; (apply X.box (d := 1); rfl; rfl; rfl); intro b1 _) | (apply TL.val; rfl; rfl; (apply V.build; (iterate 6 rfl))) | (apply TL.callE (f := 32) [.agg (enc z).toArray, .agg (enc (⟨z.apex, 4⟩ : Question)).toArray] Tryz.call32; (iterate 4 rfl); (exact fun _ hs => c_At06V z ⟨z.apex, 4⟩ hi4 hs.sat hz)) | (apply TL.callE (f := 32) [.agg (enc z).toArray, .agg (enc (⟨z.apex, 2⟩ : Question)).toArray] Tryz.call32; (iterate 4 rfl); (exact fun _ hs => c_At06V z ⟨z.apex, 2⟩ hi2 hs.sat hz)) | (refine T.loop (G := Unit) (fun _ => []) (fun _ => H) (fun _ => []) (fun _ => True) (fun _ => 0) () trivial trivial rfl (List.nil_sublist _) ?_; exfalso; omega) | (apply TL.val; rfl; rfl; (first | exact vpure | exact vread)) | (apply TL.guard; rfl; rfl; rfl; (exact isx); intro _; rotate_left; intro _; rotate_right)))
    all_goals (try (exfalso; omega))
    all_goals exact N.tellF rfl (by (exact rvx))
  repeat (any_goals (first | refine T.seq ?_ | refine T.region ?_ | refine TL.nil ?_ | refine N.next ?_ | refine N.ret_then ?_ | refine T.ret ?_ | refine T.skip ?_ | refine T.block ?_ | (apply T.cond_true; rfl) | (apply T.test; rfl; (exact isx); intro _; rotate_left; intro _; rotate_right) | (apply TL.skip; rfl; rfl; rfl) | (apply TL.x; rfl; rfl; (apply X.box (d := 1); rfl; rfl; rfl); intro b1 _) | (apply TL.val; rfl; rfl; (apply V.build; (iterate 6 rfl))) | (apply TL.callE (f := 32) [.agg (enc z).toArray, .agg (enc (⟨z.apex, 4⟩ : Question)).toArray] Tryz.call32; (iterate 4 rfl); (exact fun _ hs => c_At06V z ⟨z.apex, 4⟩ hi4 hs.sat hz)) | (apply TL.callE (f := 32) [.agg (enc z).toArray, .agg (enc (⟨z.apex, 2⟩ : Question)).toArray] Tryz.call32; (iterate 4 rfl); (exact fun _ hs => c_At06V z ⟨z.apex, 2⟩ hi2 hs.sat hz)) | (apply TL.val; rfl; rfl; (first | exact vpure | exact vread)) | (apply TL.guard; rfl; rfl; rfl; (exact isx); intro _; rotate_left; intro _; rotate_right)))
  all_goals (try (exfalso; omega))
  refine T.loop (G := Nat) (fun k => [(1, .pointer (some ⟨b1, 0, none⟩)), (3, intV k)]) (fun _ => H) (fun _ => [.blk b1 32 (enc z)]) (fun k => k ≤ z.sets.len ∧ ∀ j (hj : j < z.sets.els.length), j < k → placedOK z.sets.els[j].set.typ (decide (z.sets.els[j].set.name = z.apex)) = true) (fun k => z.sets.len - k) 0 ⟨Nat.zero_le _, fun j _ h => by omega⟩ (by (repeat (first | exact True.intro | refine ⟨rfl, ?_⟩ | refine Sub.int rfl (by omega) ?_))) rfl (by (repeat (first | exact List.Sublist.refl _ | exact List.nil_sublist _ | apply List.Sublist.cons_cons | apply List.Sublist.cons))) ?_
  rintro k ⟨hk, hrel⟩
  by_cases hlt : k < z.sets.len
  · have hkl : k < z.sets.els.length := by omega
    obtain ⟨pv, hpv⟩ : ∃ pv, placedOK (z.sets.els[k]'hkl).set.typ (decide ((z.sets.els[k]'hkl).set.name = z.apex)) = pv := ⟨_, rfl⟩
    repeat (any_goals (first | refine T.seq ?_ | refine T.region ?_ | (apply T.regionD wide; rfl) | refine TL.nil ?_ | refine N.next ?_ | refine N.inBlock ?_ | refine N.exit_same ?_ | refine N.exit_then ?_ | refine N.ret_then ?_ | refine N.ret_block ?_ | refine T.ret ?_ | refine T.skip ?_ | refine T.exit ?_ | refine T.block ?_ | (apply T.test; rfl; (exact isx); intro _; rotate_left; intro _; rotate_right) | (apply GT.pure; (iterate 4 rfl); (apply V.elem (j := k); (iterate 6 rfl); omega; exact hg.at_ (by omega)); decide +kernel) | (apply GT.callE (f := 123) [intV (z.sets.els[k]'hkl).set.typ, .bool (decide ((z.sets.els[k]'hkl).set.name = z.apex))] Tryz.call123; (iterate 6 rfl); (exact fun _ hs => c_PlacedV _ _ hpv hs.sat); decide +kernel) | (apply TL.val; rfl; rfl; (first | exact vpure | exact vread)) | (apply GT.pure; (iterate 4 rfl); (first | exact vpure); decide +kernel) | (apply GT.read; (iterate 4 rfl); (first | exact vpure | exact vread); decide +kernel) | (apply GT.done; decide +kernel; apply N.ofQ)))
    all_goals (try (exfalso; omega))
    all_goals first
      | exact N.tellF rfl (by (exact rvx))
      | (refine N.round (k + 1) ⟨by omega, fun j hj hjk => ?_⟩ (by show z.sets.len - (k + 1) < z.sets.len - k; omega) (by (repeat (first | exact True.intro | refine ⟨rfl, ?_⟩ | refine Sub.int rfl (by omega) ?_))) rfl (by (repeat (first | exact List.Sublist.refl _ | exact List.nil_sublist _ | apply List.Sublist.cons_cons | apply List.Sublist.cons)))
         by_cases e : j = k
         · subst e; rw [hpv]; assumption
         · exact hrel j hj (by omega))
  · have hke : k = z.sets.len := by omega
    subst hke
    repeat (any_goals (first | refine T.seq ?_ | refine T.region ?_ | (apply T.regionD wide; rfl) | refine TL.nil ?_ | refine N.next ?_ | refine N.exit_same ?_ | refine N.exit_then ?_ | refine T.ret ?_ | refine T.skip ?_ | refine T.exit ?_ | refine T.block ?_ | (apply T.test; rfl; (exact isx); intro _; rotate_left; intro _; rotate_right) | (apply TL.val; rfl; rfl; (first | exact vpure | exact vread)) | (apply GT.pure; (iterate 4 rfl); (first | exact vpure); decide +kernel) | (apply GT.read; (iterate 4 rfl); (first | exact vpure | exact vread); decide +kernel) | (apply GT.fork1; decide +kernel)))
    all_goals (try (exfalso; omega))
    refine N.tellT rfl (by (exact rvx)) ⟨at_has (z := z) (n := z.apex) (t := 4) (by rw [hi4]; omega), at_has (z := z) (n := z.apex) (t := 2) (by rw [hi2]; omega), fun s hss => ?_⟩
    unfold ZoneV.c at hss
    obtain ⟨x, hx, rfl⟩ := List.mem_map.1 hss
    obtain ⟨j, hj, rfl⟩ := List.mem_iff_getElem.1 hx
    exact hrel j hj (by omega)
def threeAt (x y : Signed) : Prop := x.set.name = y.set.name → y.set.typ ≠ 3 ∧ (x.set.typ = 3 → y.set.typ = 8)
set_option maxHeartbeats 8000000 in
theorem c_Three06 (z : ZoneV) (hO : OneZ z.c) {H : Hp} {w : World} (hs : Sat H w) (hz : Enc.good H z) : Calls Tryz.prog 68 #[.agg (enc z).toArray] w (Tells w (ThreeZ z.c)) := by
  have hg := hz.2
  have hlen := hg.len
  have hlim := hg.lim
  refine T.enter (vs := [.agg (enc z).toArray]) (H := H) Tryz.func68 rfl rfl rfl hs ?_
  repeat (any_goals (first | refine T.seq ?_ | refine T.region ?_ | refine TL.nil ?_ | refine N.next ?_ | refine T.block ?_ | (apply TL.x; rfl; rfl; (apply X.box (d := 1); rfl; rfl; rfl); intro b1 _) | (apply TL.val; rfl; rfl; (first | exact vpure | exact vread))))
  refine T.loop (G := Bytes × Nat) (fun g => [(1, .pointer (some ⟨b1, 0, none⟩)), (3, strV g.1), (4, intV g.2)]) (fun _ => H) (fun _ => [.blk b1 32 (enc z)]) (fun g => g.2 ≤ z.sets.len ∧ (∀ j (hj : j < z.sets.els.length), j + 1 = g.2 → z.sets.els[j].set.typ = 3 → g.1 = z.sets.els[j].set.name) ∧ ∀ j (hj : j + 1 < z.sets.els.length), j + 1 < g.2 → threeAt z.sets.els[j] z.sets.els[j + 1]) (fun g => z.sets.len - g.2) ([], 0) ⟨Nat.zero_le _, fun j _ h => by omega, fun j _ h => by omega⟩ (by (repeat (first | exact True.intro | refine ⟨rfl, ?_⟩ | refine Sub.int rfl (by omega) ?_))) rfl (by (repeat (first | exact List.Sublist.refl _ | exact List.nil_sublist _ | apply List.Sublist.cons_cons | apply List.Sublist.cons))) ?_
  rintro ⟨al, k⟩ ⟨hk, hal, hrel⟩
  simp only at hk hal hrel ⊢
  by_cases hlt : k < z.sets.len
  · have hkl : k < z.sets.els.length := by omega
    have hxn : nameOK (z.sets.els[k]'hkl).set.name = true := by
      have := hO.nameAt (i := k) (by rw [setsC_len]; exact hkl)
      rwa [setsC_at (by rw [setsC_len]; exact hkl) hkl] at this
    have hxne := name_ne hxn
    obtain ⟨x, hx⟩ : ∃ x, z.sets.els[k]'hkl = x := ⟨_, rfl⟩
    have hc0 := hg.cell (k := k) (j := 0) hlt (v := strV x.set.name) (by show some (strV (z.sets.els[k]'hkl).set.name) = _; rw [hx])
    have hc1 := hg.cell (k := k) (j := 1) hlt (v := intV x.set.typ) (by show some (intV (z.sets.els[k]'hkl).set.typ) = _; rw [hx])
    rw [hx] at hxne
    cases k with
    | zero =>
      repeat (any_goals (first | refine T.seq ?_ | refine T.region ?_ | (apply T.regionD wide; rfl) | refine TL.nil ?_ | refine N.next ?_ | refine N.inBlock ?_ | refine N.exit_same ?_ | refine N.exit_then ?_ | refine T.ret ?_ | refine T.skip ?_ | refine T.exit ?_ | refine T.block ?_ | (apply T.cond_false; rfl) | (apply T.test; rfl; (exact isx); intro _; rotate_left; intro _; rotate_right) | (apply TL.skip; rfl; rfl; rfl) | (apply GT.skip; rfl; rfl; rfl; decide +kernel) | (apply TL.val; rfl; rfl; (apply V.elem (j := 0); (iterate 6 rfl); omega; exact hg.at_ (by omega))) | (apply TL.val; rfl; rfl; (apply V.load_H; rfl; rfl; rfl; first | exact hc0 | exact hc1)) | (apply TL.val; rfl; rfl; (first | exact vpure | exact vread)) | (apply GT.pure; (iterate 4 rfl); (first | exact vpure); decide +kernel) | (apply GT.done; decide +kernel; apply N.ofQ)))
      all_goals (try contradiction)
      all_goals (try (exfalso; omega))
      all_goals first
        | (have h3 : x.set.typ = 3 := by assumption
           refine N.round (x.set.name, 1) ⟨by show 1 ≤ _; omega, fun j hj hj1 _ => ?_, fun j hj hj1 => absurd hj1 (by show ¬ j + 1 < 1; omega)⟩ (by show z.sets.len - 1 < z.sets.len - 0; omega) (by (repeat (first | exact True.intro | refine ⟨rfl, ?_⟩ | refine Sub.int rfl (by omega) ?_))) rfl (by (repeat (first | exact List.Sublist.refl _ | exact List.nil_sublist _ | apply List.Sublist.cons_cons | apply List.Sublist.cons)))
           have : j = 0 := by simp only at hj1; omega
           subst this
           simp only [hx])
        | (have h3 : ¬ x.set.typ = 3 := by assumption
           refine N.round (al, 1) ⟨by show 1 ≤ _; omega, fun j hj hj1 h => ?_, fun j hj hj1 => absurd hj1 (by show ¬ j + 1 < 1; omega)⟩ (by show z.sets.len - 1 < z.sets.len - 0; omega) (by (repeat (first | exact True.intro | refine ⟨rfl, ?_⟩ | refine Sub.int rfl (by omega) ?_))) rfl (by (repeat (first | exact List.Sublist.refl _ | exact List.nil_sublist _ | apply List.Sublist.cons_cons | apply List.Sublist.cons)))
           have : j = 0 := by simp only at hj1; omega
           subst this
           simp only [hx] at h
           exact absurd h h3)
    | succ k =>
      have hkl0 : k < z.sets.els.length := by omega
      obtain ⟨y, hy⟩ : ∃ y, z.sets.els[k]'hkl0 = y := ⟨_, rfl⟩
      have hd0 := hg.cell (k := k) (j := 0) (by omega) (v := strV y.set.name) (by show some (strV (z.sets.els[k]'hkl0).set.name) = _; rw [hy])
      have haly := hal k hkl0 rfl
      simp only [hy] at haly
      have key : ∀ (al' : Bytes), (x.set.typ = 3 → al' = x.set.name) → threeAt y x → (∀ j (hj : j < z.sets.els.length), j + 1 = k + 2 → z.sets.els[j].set.typ = 3 → al' = z.sets.els[j].set.name) ∧ ∀ j (hj : j + 1 < z.sets.els.length), j + 1 < k + 2 → threeAt z.sets.els[j] z.sets.els[j + 1] := fun al' h1 h2 => by
        refine ⟨fun j hj hj1 h => ?_, fun j hj hj1 => ?_⟩
        · have : j = k + 1 := by omega
          subst this
          simp only [hx] at h ⊢
          exact h1 h
        · by_cases e : j = k
          · subst e
            simp only [hx, hy]
            exact h2
          · exact hrel j hj (by omega)
      repeat (any_goals (first | refine T.seq ?_ | refine T.region ?_ | (apply T.regionD wide; rfl) | refine TL.nil ?_ | refine N.next ?_ | refine N.inBlock ?_ | refine N.exit_same ?_ | refine N.exit_then ?_ | refine N.ret_then ?_ | refine N.ret_block ?_ | refine T.ret ?_ | refine T.skip ?_ | refine T.exit ?_ | refine T.block ?_ | (apply T.cond_true; rfl) | (apply T.cond_false; rfl) | (apply T.test; rfl; (exact isx); intro _; rotate_left; intro _; rotate_right) | (apply TL.skip; rfl; rfl; rfl) | (apply GT.skip; rfl; rfl; rfl; decide +kernel) | (apply TL.val; rfl; rfl; (apply V.elem (j := k + 1); (iterate 6 rfl); omega; exact hg.at_ (by omega))) | (apply GT.pure; (iterate 4 rfl); (apply V.elem (j := k + 1); (iterate 6 rfl); omega; exact hg.at_ (by omega)); decide +kernel) | (apply GT.pure; (iterate 4 rfl); (apply V.elem (j := k); (iterate 5 rfl); omega; omega; exact hg.at_ (by omega)); decide +kernel) | (apply TL.val; rfl; rfl; (apply V.load_H; rfl; rfl; rfl; first | exact hc0 | exact hc1 | exact hd0)) | (apply GT.read; (iterate 4 rfl); (apply V.load_H; rfl; rfl; rfl; first | exact hc0 | exact hc1 | exact hd0); decide +kernel) | (apply TL.val; rfl; rfl; (first | exact vpure | exact vread)) | (apply GT.pure; (iterate 4 rfl); (first | exact vpure); decide +kernel) | (apply GT.read; (iterate 4 rfl); (first | exact vpure | exact vread); decide +kernel) | (apply GT.done; decide +kernel; apply N.ofQ) | (apply TL.guard; rfl; rfl; rfl; (exact isx); intro _; rotate_left; intro _; rotate_right) | (apply GT.guard; (iterate 4 rfl); (exact isx); intro _; rotate_left; intro _; rotate_right)))
      all_goals (try contradiction)
      all_goals (try (exfalso; omega))
      all_goals first
        | exact N.tellF rfl (by (exact rvx))
        | (have h3 : x.set.typ = 3 := by assumption
           refine N.round (x.set.name, k + 2) ⟨by show k + 2 ≤ _; omega, key x.set.name (fun _ => rfl) ?_⟩ (by show z.sets.len - (k + 2) < z.sets.len - (k + 1); omega) (by (repeat (first | exact True.intro | refine ⟨rfl, ?_⟩ | refine Sub.int rfl (by omega) ?_))) rfl (by (repeat (first | exact List.Sublist.refl _ | exact List.nil_sublist _ | apply List.Sublist.cons_cons | apply List.Sublist.cons)))
           intro hn
           first
             | contradiction
             | grind)
        | (have h3 : ¬ x.set.typ = 3 := by assumption
           refine N.round (al, k + 2) ⟨by show k + 2 ≤ _; omega, key al (fun h => absurd h h3) ?_⟩ (by show z.sets.len - (k + 2) < z.sets.len - (k + 1); omega) (by (repeat (first | exact True.intro | refine ⟨rfl, ?_⟩ | refine Sub.int rfl (by omega) ?_))) rfl (by (repeat (first | exact List.Sublist.refl _ | exact List.nil_sublist _ | apply List.Sublist.cons_cons | apply List.Sublist.cons)))
           intro hn
           first
             | contradiction
             | grind)
  · have hke : k = z.sets.len := by omega
    subst hke
    repeat (any_goals (first | refine T.seq ?_ | refine T.region ?_ | (apply T.regionD wide; rfl) | refine TL.nil ?_ | refine N.next ?_ | refine N.inBlock ?_ | refine N.exit_same ?_ | refine N.exit_then ?_ | refine N.ret_then ?_ | refine N.ret_block ?_ | refine T.ret ?_ | refine T.skip ?_ | refine T.exit ?_ | refine T.block ?_ | (apply T.cond_true; rfl) | (apply T.cond_false; rfl) | (apply T.test; rfl; (exact isx); intro _; rotate_left; intro _; rotate_right) | (apply TL.skip; rfl; rfl; rfl) | (apply GT.skip; rfl; rfl; rfl; decide +kernel) | (apply TL.val; rfl; rfl; (first | exact vpure | exact vread)) | (apply GT.pure; (iterate 4 rfl); (first | exact vpure); decide +kernel) | (apply GT.read; (iterate 4 rfl); (first | exact vpure | exact vread); decide +kernel) | (apply GT.done; decide +kernel; apply N.ofQ) | (apply TL.guard; rfl; rfl; rfl; (exact isx); intro _; rotate_left; intro _; rotate_right) | (apply GT.guard; (iterate 4 rfl); (exact isx); intro _; rotate_left; intro _; rotate_right)))
    all_goals (try (exfalso; omega))
    refine N.tellT rfl (by (exact rvx)) fun i hi => ?_
    have h1 : i + 1 < z.sets.els.length := by rw [← setsC_len]; exact hi
    rw [setsC_at (by omega) (by omega), setsC_at hi h1]
    exact hrel i h1 (by omega)
end Go.Proofs.YthabgdbhgcgemaaGreatDoor
