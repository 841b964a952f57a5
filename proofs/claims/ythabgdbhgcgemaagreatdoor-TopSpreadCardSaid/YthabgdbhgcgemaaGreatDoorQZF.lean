import Derived.Test.YthabgdbhgcgemaaGreatDoorQZE
namespace Go.Proofs.YthabgdbhgcgemaaGreatDoor
set_option linter.unusedVariables false
set_option linter.unusedSimpArgs false
open Go Go.RowKit
open Enc (enc)
set_option maxRecDepth 20000
def fillUp {α : Type} (d : α) (B : List α) (i : Nat) : List α := B.take i ++ List.replicate (B.length - i) d
theorem fillUp_at {α : Type} {d : α} {B : List α} {i : Nat} (hi : i < B.length) : (fillUp d B i)[i]? = some d := by
  unfold fillUp
  rw [List.getElem?_append_right (by rw [List.length_take]; omega), List.length_take, List.getElem?_replicate, if_pos (by omega)]
theorem fillUp_next {α : Type} {d : α} {B : List α} {i : Nat} (hi : i < B.length) : fillUp d B (i + 1) = (fillUp d B i).set i B[i] := by
  unfold fillUp
  apply List.ext_getElem?
  intro j
  rw [List.getElem?_set]
  by_cases e : i = j
  · subst e
    rw [if_pos rfl, if_pos (by rw [List.length_append, List.length_take, List.length_replicate]; omega), List.getElem?_append_left (by rw [List.length_take]; omega), List.getElem?_take_of_lt (by omega), List.getElem?_eq_getElem hi]
  · rw [if_neg e]
    rcases Nat.lt_or_ge j i with h | h
    · rw [List.getElem?_append_left (by rw [List.length_take]; omega), List.getElem?_append_left (by rw [List.length_take]; omega), List.getElem?_take_of_lt (by omega), List.getElem?_take_of_lt h]
    · rw [List.getElem?_append_right (by rw [List.length_take]; omega), List.getElem?_append_right (by rw [List.length_take]; omega), List.length_take, List.length_take, List.getElem?_replicate, List.getElem?_replicate]
      by_cases h2 : j < B.length
      · rw [if_pos (by omega), if_pos (by omega)]
      · rw [if_neg (by omega), if_neg (by omega)]
theorem fillUp_all {α : Type} {d : α} {B : List α} {i : Nat} (hi : B.length ≤ i) : fillUp d B i = B := by
  unfold fillUp; rw [List.take_of_length_le hi, show B.length - i = 0 by omega]; simp
theorem behT_len (z : ZoneV) : (behT (behRZ z.c)).length = z.sets.els.length := by
  unfold behT behRZ; rw [List.length_map, behO_len, namesZ_len]
def own1 (b : Bytes) (s : Signed) : Bool := decide (b = []) || (!decide (s.set.typ = 2) && !decide (s.set.typ = 1))
def ownsOf (B : List Bytes) (l : List Signed) : List Bool := (B.zip l).map fun p => own1 p.1 p.2
theorem ownsOf_at {B : List Bytes} {l : List Signed} {i : Nat} (h1 : i < B.length) (h2 : i < l.length) (h : i < (ownsOf B l).length) : (ownsOf B l)[i] = own1 B[i] l[i] := by
  have e : (ownsOf B l)[i]? = some (own1 B[i] l[i]) := by
    unfold ownsOf
    rw [List.getElem?_map, List.getElem?_eq_getElem (by rw [List.length_zip]; omega), List.getElem_zip]; rfl
  rw [List.getElem?_eq_getElem h] at e
  exact Option.some.inj e
set_option maxHeartbeats 4000000 in
theorem c_Own06 (z : ZoneV) (hO : OneZ z.c) {H : Hp} {w : World} (hs : Sat H w) (hz : Enc.good H z) : Calls Tryz.prog 125 #[.agg (enc z).toArray] w (RetF w H (fun p : Hp × Slc Bool => p.2.els = ownsOf (behT (behRZ z.c)) z.sets.els ∧ p.2.Good p.1) (fun p => p.2.v) (fun p => p.1)) := by
  have hzl := hz.2.len
  have hf : z.sets.len ≤ 20000 := by
    have := hO.few
    rw [setsC_len] at this
    omega
  obtain ⟨B, hB⟩ : ∃ B, behT (behRZ z.c) = B := ⟨_, rfl⟩
  have hBl : B.length = z.sets.len := by rw [← hB, behT_len, hzl]
  obtain ⟨O, hOd⟩ : ∃ O, ownsOf B z.sets.els = O := ⟨_, rfl⟩
  have hOl : O.length = z.sets.len := by rw [← hOd]; unfold ownsOf; rw [List.length_map, List.length_zip]; omega
  refine T.enter (vs := [.agg (enc z).toArray]) (H := H) Tryz.func125 rfl rfl rfl hs ?_
  repeat (any_goals (first | refine T.seq ?_ | refine T.region ?_ | refine TL.nil ?_ | refine N.next ?_ | refine T.block ?_ | (apply TL.x; rfl; rfl; (apply X.box (d := 1); rfl; rfl; rfl); intro b1 _) | (apply TL.x; rfl; rfl; (apply X.callFE (f := 124) [.agg (enc z).toArray] Tryz.call124; rfl; rfl; rfl; exact (fun _ hs => c_Behind z hO hs.sat hz)); intro p hp) | (apply TL.x; rfl; rfl; (apply X.makeSlice (false : Bool) z.sets.len; (iterate 10 rfl); (refine Nat.le_trans (Nat.mul_le_mul_left _ hf) ?_; decide); (show z.sets.len ≤ 9223372036854775807; omega)); intro bo _) | (apply TL.val; rfl; rfl; (first | exact vpure | exact vread))))
  obtain ⟨⟨hpe, hpg⟩, hple⟩ := hp
  rw [hB] at hpe
  have hplen := hpg.len
  rw [hpe] at hplen
  have hzg := Enc.mono hple hz
  rw [hB, hOd]
  have h0 : encs (List.replicate z.sets.len false) = encs (fillUp false O 0) := by unfold fillUp; rw [List.take_zero, List.nil_append, Nat.sub_zero, hOl]
  rw [h0]
  refine T.loop (G := Nat) (fun i => [(1, .pointer (some ⟨b1, 0, none⟩)), (3, p.2.v), (4, .slice (some ⟨bo, 0, none⟩) z.sets.len z.sets.len), (5, intV i)]) (fun _ => p.1) (fun i => [.row (.slice (some ⟨bo, 0, none⟩) z.sets.len z.sets.len) 4 1 z.sets.len (encs (fillUp false O i)), .blk b1 32 (enc z)]) (fun i => i ≤ z.sets.len) (fun i => z.sets.len - i) 0 (Nat.zero_le _) (by (repeat (first | exact True.intro | refine ⟨rfl, ?_⟩ | refine Sub.int rfl (by omega) ?_))) rfl (by (repeat (first | exact List.Sublist.refl _ | exact List.nil_sublist _ | apply List.Sublist.cons_cons | apply List.Sublist.cons))) ?_
  intro i hi
  by_cases hlt : i < z.sets.len
  · have hiz : i < z.sets.els.length := by omega
    have hiB : i < B.length := by omega
    have hiO : i < O.length := by omega
    have hip : i < p.2.els.length := by rw [hpe]; exact hiB
    have hbe : p.2.els[i] = B[i] := by simp only [hpe]
    have hbc := hpg.cell (k := i) (j := 0) (by omega) (v := strV B[i]) (by rw [hbe]; rfl)
    have htc := hzg.2.cell (k := i) (j := 1) hlt (v := intV (z.sets.els[i]'hiz).set.typ) rfl
    have hown : O[i] = own1 B[i] (z.sets.els[i]'hiz) := by subst hOd; exact ownsOf_at hiB hiz hiO
    have ho := fillUp_at (d := false) hiO
    have hst := fillUp_next (d := false) hiO
    obtain ⟨b, hb⟩ : ∃ b, B[i] = b := ⟨_, rfl⟩
    obtain ⟨t, ht⟩ : ∃ t, (z.sets.els[i]'hiz).set.typ = t := ⟨_, rfl⟩
    rw [hb] at hbc
    rw [ht] at htc
    have hown2 : O[i] = (decide (b = []) || (!decide (t = 2) && !decide (t = 1))) := by rw [hown, hb]; unfold own1; rw [ht]
    obtain ⟨ov, hov⟩ : ∃ ov, (decide (b = []) || (!decide (t = 2) && !decide (t = 1))) = ov := ⟨_, rfl⟩
    rw [hown2, hov] at hst
    repeat (any_goals (first | refine T.seq ?_ | refine T.region ?_ | refine TL.nil ?_ | refine N.next ?_ | refine N.inBlock ?_ | refine N.exit_same ?_ | refine N.exit_then ?_ | refine T.ret ?_ | refine T.skip ?_ | refine T.exit ?_ | refine T.block ?_ | (apply T.test; rfl; (exact isx); intro _; rotate_left; intro _; rotate_right) | (apply TL.skip; rfl; rfl; rfl) | (apply TL.val; rfl; rfl; (apply V.elem (j := i); (iterate 6 rfl); omega; exact hzg.2.at_ (by omega))) | (apply TL.val; rfl; rfl; (apply V.elem (j := i); (iterate 6 rfl); omega; exact hpg.at_ (by omega))) | (apply TL.val; rfl; rfl; (apply V.elem (j := i); (iterate 6 rfl); exact hlt; rfl)) | (apply TL.val; rfl; rfl; (apply V.load_H; rfl; rfl; rfl; first | exact hbc | exact htc)) | (apply TL.x; rfl; rfl; (exact X.storeRowE 0 (vs := [.bool (true)]) rfl rfl rfl rfl rfl rfl rfl (by show 0 + i * 1 + 1 ≤ z.sets.len * 1; omega) (encs_put (j := 0) (y := (true)) ho (by show 0 + 1 ≤ 1; omega) rfl (by show 0 + i * 1 = i * 1 + 0; omega))); intro _ _) | (apply TL.x; rfl; rfl; (exact X.storeRowE 0 (vs := [.bool (false)]) rfl rfl rfl rfl rfl rfl rfl (by show 0 + i * 1 + 1 ≤ z.sets.len * 1; omega) (encs_put (j := 0) (y := (false)) ho (by show 0 + 1 ≤ 1; omega) rfl (by show 0 + i * 1 = i * 1 + 0; omega))); intro _ _) | (apply TL.x; rfl; rfl; (exact X.storeRowE 0 (vs := [.bool (!decide (t = 1))]) rfl rfl rfl rfl rfl rfl rfl (by show 0 + i * 1 + 1 ≤ z.sets.len * 1; omega) (encs_put (j := 0) (y := (!decide (t = 1))) ho (by show 0 + 1 ≤ 1; omega) rfl (by show 0 + i * 1 = i * 1 + 0; omega))); intro _ _) | (apply TL.val; rfl; rfl; (first | exact vpure | exact vread)) | (apply TL.guard; rfl; rfl; rfl; (exact isx); intro _; rotate_left; intro _; rotate_right)))
    all_goals (try (exfalso; omega))
    all_goals
      refine N.round (i + 1) (by show i + 1 ≤ _; omega) (by show z.sets.len - (i + 1) < z.sets.len - i; omega) (by (repeat (first | exact True.intro | refine ⟨rfl, ?_⟩ | refine Sub.int rfl (by omega) ?_))) rfl ?_
      simp only [hst]
      first
        | (rw [← hov, decide_eq_true (show b = [] by assumption), Bool.true_or]; exact List.Sublist.refl _)
        | (rw [← hov, decide_eq_false (show ¬ b = [] by assumption), decide_eq_true (show t = 2 by assumption)]; exact List.Sublist.refl _)
        | (rw [← hov, decide_eq_false (show ¬ b = [] by assumption), decide_eq_false (show ¬ t = 2 by assumption)]; exact List.Sublist.refl _)
  · have hie : i = z.sets.len := by omega
    subst hie
    rw [fillUp_all (by omega)]
    apply T.frzRow 0 (els := O); rfl; rfl; exact hOl
    · intro x hx; trivial
    intro H3 sl e1 e2 e3 hle3
    rw [← e1]
    repeat (any_goals (first | refine T.seq ?_ | refine T.region ?_ | refine TL.nil ?_ | refine N.next ?_ | refine N.exit_same ?_ | refine N.exit_then ?_ | refine T.ret ?_ | refine T.skip ?_ | refine T.exit ?_ | refine T.block ?_ | (apply T.test; rfl; (exact isx); intro _; rotate_left; intro _; rotate_right) | (apply TL.val; rfl; rfl; (first | exact vpure | exact vread))))
    all_goals (try (exfalso; omega))
    exact N.ret1 rfl (by (exact rvx)) fun w hst => ⟨(H3, sl), ⟨e2, e3⟩, rfl, hst.fresh⟩
theorem behT_at {z : ZoneV} {i : Nat} (h : i < (behT (behRZ z.c)).length) : (behT (behRZ z.c))[i] = ((behRZ z.c)[i]?.getD none).getD [] := by
  have e : (behT (behRZ z.c))[i]? = some (((behRZ z.c)[i]?.getD none).getD []) := by
    have h' : i < (behRZ z.c).length := by unfold behT at h; rwa [List.length_map] at h
    unfold behT
    rw [List.getElem?_map, List.getElem?_eq_getElem h']; rfl
  rw [List.getElem?_eq_getElem h] at e
  exact Option.some.inj e
theorem beh_ne {z : ZoneC} (hO : OneZ z) {i : Nat} {c : Bytes} (h : (behRZ z)[i]?.getD none = some c) : c ≠ [] := by
  have hi : i < (namesZ z).length := by
    rcases Nat.lt_or_ge i (namesZ z).length with h1 | h1
    · exact h1
    · rw [List.getElem?_eq_none (by unfold behRZ; rw [behO_len]; exact h1)] at h; cases h
  unfold behRZ at h
  rw [behO_get leN inN _ _ _ i hi] at h
  unfold behAt at h
  simp only [Option.getD_some] at h
  split at h
  · cases h
  · split at h
    · split at h
      · rename_i hh _
        have := cutNames_ok hO _ (highC_mem (List.mem_of_getElem? (by assumption)))
        cases h
        exact name_ne this
      · cases h
    · cases h
theorem behT_small {z : ZoneC} {i : Nat} (hO : OneZ z) : (((behRZ z)[i]?.getD none).getD [] = [] ↔ (behRZ z)[i]?.getD none = none) := by
  cases hb : (behRZ z)[i]?.getD none with
  | none => simp
  | some c => simp [beh_ne hO hb]
set_option maxHeartbeats 8000000 in
theorem c_Four06 (z : ZoneV) (hO : OneZ z.c) {H : Hp} {w : World} (hs : Sat H w) (hz : Enc.good H z) : Calls Tryz.prog 69 #[.agg (enc z).toArray] w (Tells w (FourZ z.c (behRZ z.c))) := by
  have hzl := hz.2.len
  refine T.enter (vs := [.agg (enc z).toArray]) (H := H) Tryz.func69 rfl rfl rfl hs ?_
  repeat (any_goals (first | refine T.seq ?_ | refine T.region ?_ | refine TL.nil ?_ | refine N.next ?_ | refine T.block ?_ | (apply TL.x; rfl; rfl; (apply X.box (d := 1); rfl; rfl; rfl); intro b1 _) | (apply TL.x; rfl; rfl; (apply X.callFE (f := 124) [.agg (enc z).toArray] Tryz.call124; rfl; rfl; rfl; exact (fun _ hs => c_Behind z hO hs.sat hz)); intro p hp) | (apply TL.val; rfl; rfl; (first | exact vpure | exact vread))))
  obtain ⟨⟨hpe, hpg⟩, hple⟩ := hp
  have hplen := hpg.len
  have hBl := behT_len z
  rw [hpe] at hplen
  have hzg := Enc.mono hple hz
  have hlim := hzg.2.lim
  refine T.loop (G := Nat) (fun i => [(1, .pointer (some ⟨b1, 0, none⟩)), (3, p.2.v), (4, intV i)]) (fun _ => p.1) (fun i => [.blk b1 32 (enc z)]) (fun i => i ≤ z.sets.len ∧ ∀ j (hj : j < z.sets.els.length), j < i → fourOK ((behRZ z.c)[j]?.getD none) z.sets.els[j].set.c) (fun i => z.sets.len - i) 0 ⟨Nat.zero_le _, fun j _ h => by omega⟩ (by (repeat (first | exact True.intro | refine ⟨rfl, ?_⟩ | refine Sub.int rfl (by omega) ?_))) rfl (by (repeat (first | exact List.Sublist.refl _ | exact List.nil_sublist _ | apply List.Sublist.cons_cons | apply List.Sublist.cons))) ?_
  rintro i ⟨hi, hrel⟩
  by_cases hlt : i < z.sets.len
  · have hiz : i < z.sets.els.length := by omega
    have hip : i < p.2.els.length := by rw [hpe]; omega
    obtain ⟨bo, hbo⟩ : ∃ bo, (behRZ z.c)[i]?.getD none = bo := ⟨_, rfl⟩
    have hbe : p.2.els[i] = bo.getD [] := by
      have := behT_at (z := z) (i := i) (by omega)
      simp only [hpe, this, hbo]
    have hsm := behT_small (z := z.c) (i := i) hO
    rw [hbo] at hsm
    obtain ⟨b, hb⟩ : ∃ b, bo.getD [] = b := ⟨_, rfl⟩
    rw [hb] at hbe hsm
    have hbc := hpg.cell (k := i) (j := 0) (by omega) (v := strV b) (by rw [hbe]; rfl)
    have hsg := hzg.2.els _ (List.getElem_mem hiz)
    have hrow := hzg.2.part (k := i) (j := 0) (m := 4) hlt (vs := enc (z.sets.els[i]'hiz).set) rfl
    obtain ⟨x, hx⟩ : ∃ x, z.sets.els[i]'hiz = x := ⟨_, rfl⟩
    rw [hx] at hrow hsg
    have hbsome : b ≠ [] → bo = some b := fun h => by
      cases bo with
      | none => exact absurd (hsm.2 rfl) h
      | some c => simp at hb; rw [hb]
    repeat (any_goals (first | refine T.seq ?_ | refine T.region ?_ | (apply T.regionD wide; rfl) | refine TL.nil ?_ | refine N.next ?_ | refine N.inBlock ?_ | refine N.exit_same ?_ | refine N.exit_then ?_ | refine N.ret_then ?_ | refine N.ret_block ?_ | refine T.ret ?_ | refine T.skip ?_ | refine T.exit ?_ | refine T.block ?_ | (apply T.cond_true; rfl) | (apply T.cond_false; rfl) | (apply T.test; rfl; (exact isx); intro _; rotate_left; intro _; rotate_right) | (apply TL.skip; rfl; rfl; rfl) | (apply GT.skip; rfl; rfl; rfl; decide +kernel) | (apply TL.val; rfl; rfl; (apply V.elem (j := i); (iterate 6 rfl); omega; exact hzg.2.at_ (by omega))) | (apply TL.val; rfl; rfl; (apply V.elem (j := i); (iterate 6 rfl); omega; exact hpg.at_ (by omega))) | (apply GT.pure; (iterate 4 rfl); (apply V.elem (j := i); (iterate 6 rfl); omega; exact hpg.at_ (by omega)); decide +kernel) | (apply TL.val; rfl; rfl; (apply V.load_H_row; rfl; rfl; rfl; exact hrow; rfl)) | (apply TL.val; rfl; rfl; (apply V.load_H; rfl; rfl; rfl; exact hbc)) | (apply GT.read; (iterate 4 rfl); (apply V.load_H; rfl; rfl; rfl; exact hbc); decide +kernel) | (apply TL.x; rfl; rfl; (apply X.alloc (d := 5); rfl; rfl; rfl); intro b5 _) | (apply TL.x; rfl; rfl; (apply X.storeTo 0 (enc x.set); (iterate 10 rfl)); intro _ _) | (apply TL.val; rfl; rfl; (first | exact vpure | exact vread)) | (apply GT.pure; (iterate 4 rfl); (first | exact vpure); decide +kernel) | (apply GT.read; (iterate 4 rfl); (first | exact vpure | exact vread); decide +kernel) | (apply GT.done; decide +kernel; apply N.ofQ) | (apply TL.guard; rfl; rfl; rfl; (exact isx); intro _; rotate_left; intro _; rotate_right) | (apply GT.guard; (iterate 4 rfl); (exact isx); intro _; rotate_left; intro _; rotate_right)))
    all_goals (try contradiction)
    all_goals (try (exfalso; omega))
    all_goals first
      | exact N.tellF rfl (by (exact rvx))
      | (refine N.round (i + 1) ⟨by show i + 1 ≤ _; omega, fun j hj hjk => ?_⟩ (by show z.sets.len - (i + 1) < z.sets.len - i; omega) (by (repeat (first | exact True.intro | refine ⟨rfl, ?_⟩ | refine Sub.int rfl (by omega) ?_))) rfl (by (repeat (first | exact List.Sublist.refl _ | exact List.nil_sublist _ | apply List.Sublist.cons_cons | apply List.Sublist.cons)))
         by_cases e : j = i
         · subst e
           rw [hbo]
           simp only [hx]
           show (∀ c, bo = some c → (x.set.typ = 1 ∨ x.set.name = c)) ∧ (bo = some x.set.name → x.set.typ = 1 ∨ x.set.typ = 2 ∨ x.set.typ = 6 ∨ x.set.typ = 8) ∧ (x.set.typ = 6 → bo = some x.set.name)
           clear hrel hbc hrow hsg hpg hzg
           grind
         · exact hrel j hj (by omega))
  · have hie : i = z.sets.len := by omega
    subst hie
    repeat (any_goals (first | refine T.seq ?_ | refine T.region ?_ | refine TL.nil ?_ | refine N.next ?_ | refine N.exit_same ?_ | refine N.exit_then ?_ | refine T.ret ?_ | refine T.skip ?_ | refine T.exit ?_ | refine T.block ?_ | (apply T.test; rfl; (exact isx); intro _; rotate_left; intro _; rotate_right) | (apply TL.val; rfl; rfl; (first | exact vpure | exact vread))))
    all_goals (try (exfalso; omega))
    refine N.tellT rfl (by (exact rvx)) fun i hi => ?_
    have h1 : i < z.sets.els.length := by rw [← setsC_len]; exact hi
    rw [setsC_at hi h1]
    exact hrel i h1 (by omega)
end Go.Proofs.YthabgdbhgcgemaaGreatDoor
