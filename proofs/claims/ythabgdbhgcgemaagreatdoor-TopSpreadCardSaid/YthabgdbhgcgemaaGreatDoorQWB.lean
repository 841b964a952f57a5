import Derived.Test.YthabgdbhgcgemaaGreatDoorQWA
import Derived.Test.YthabgdbhgcgemaaGreatDoorQWName
import Derived.Test.YthabgdbhgcgemaaGreatDoorQSpec
namespace Go.Proofs.YthabgdbhgcgemaaGreatDoor
set_option linter.unusedVariables false
set_option linter.unusedSimpArgs false
open Go Go.RowKit
open Enc (enc)
set_option maxRecDepth 20000
theorem c_isNaNI (x : Int) (H : Hp) (w : World) (hs : Sat H w) : Calls Tryz.prog 94 #[intV x] w (Ret w (.bool false)) := by
  refine T.enter (vs := [intV x]) (H := H) Tryz.func94 rfl rfl rfl hs ?_
  repeat (any_goals (first | refine T.seq ?_ | refine T.region ?_ | refine TL.nil ?_ | refine N.next ?_ | refine T.ret ?_ | (apply TL.val; rfl; rfl; (first | exact vpure | exact vread))))
  all_goals (try (first | (apply N.ret_bool; rfl; (exact rvx)) | (apply N.ret_int; rfl; (exact rvx)) | (apply N.ret_val; rfl; (exact rvx))))
  simp
theorem c_isNaNS (x : Bytes) (H : Hp) (w : World) (hs : Sat H w) : Calls Tryz.prog 196 #[strV x] w (Ret w (.bool false)) := by
  refine T.enter (vs := [strV x]) (H := H) Tryz.func196 rfl rfl rfl hs ?_
  repeat (any_goals (first | refine T.seq ?_ | refine T.region ?_ | refine TL.nil ?_ | refine N.next ?_ | refine T.ret ?_ | (apply TL.val; rfl; rfl; (first | exact vpure | exact vread))))
  all_goals (try (first | (apply N.ret_bool; rfl; (exact rvx)) | (apply N.ret_int; rfl; (exact rvx)) | (apply N.ret_val; rfl; (exact rvx))))
  simp
theorem c_cmpI (x y : Int) (H : Hp) (w : World) (hs : Sat H w) : Calls Tryz.prog 135 #[intV x, intV y] w (Ret w (intV (cmpI x y))) := by
  refine T.enter (vs := [intV x, intV y]) (H := H) Tryz.func135 rfl rfl rfl hs ?_
  repeat (any_goals (first | refine T.seq ?_ | refine T.region ?_ | refine TL.nil ?_ | refine N.next ?_ | refine N.ret_then ?_ | refine T.ret ?_ | refine T.skip ?_ | (apply T.cond_false; rfl) | (apply T.test; rfl; (exact isx); intro _; rotate_left; intro _; rotate_right) | (apply TL.call0 (f := 94) Tryz.call94; rfl; rfl; rfl; (exact fun _ hs => c_isNaNI _ _ _ hs.sat)) | (apply TL.val; rfl; rfl; (first | exact vpure | exact vread))))
  all_goals (apply N.ret_int; rfl; (exact rvx))
  all_goals (unfold cmpI; simp [*])
theorem c_cmpS (x y : Bytes) (H : Hp) (w : World) (hs : Sat H w) : Calls Tryz.prog 184 #[strV x, strV y] w (Ret w (intV (cmpS x y))) := by
  refine T.enter (vs := [strV x, strV y]) (H := H) Tryz.func184 rfl rfl rfl hs ?_
  repeat (any_goals (first | refine T.seq ?_ | refine T.region ?_ | refine TL.nil ?_ | refine N.next ?_ | refine N.ret_then ?_ | refine T.ret ?_ | refine T.skip ?_ | (apply T.cond_false; rfl) | (apply T.test; rfl; (exact isx); intro _; rotate_left; intro _; rotate_right) | (apply TL.call0 (f := 196) Tryz.call196; rfl; rfl; rfl; (exact fun _ hs => c_isNaNS _ _ _ hs.sat)) | (apply TL.val; rfl; rfl; (first | exact vpure | exact vread))))
  all_goals (apply N.ret_int; rfl; (exact rvx))
  all_goals (unfold cmpS; simp_all)
theorem c_Or (b : Nat) (xs : List Int) (H : Hp) (w : World) (hs : Sat H w) (hb : H.cells b 0 (xs.map intV)) (hl : xs.length ≤ 1000) : Calls Tryz.prog 183 #[.slice (some ⟨b, 0, none⟩) xs.length xs.length] w (Ret w (intV (orL xs))) := by
  refine T.enter (vs := [.slice (some ⟨b, 0, none⟩) xs.length xs.length]) (H := H) Tryz.func183 rfl rfl rfl hs ?_
  repeat (any_goals (first | refine T.seq ?_ | refine T.region ?_ | refine TL.nil ?_ | refine N.next ?_ | refine T.block ?_ | (apply TL.val; rfl; rfl; (first | exact vpure | exact vread))))
  refine T.loop (G := Nat) (fun k => [(3, intV 0), (6, .slice (some ⟨b, 0, none⟩) xs.length xs.length), (7, intV xs.length), (8, intV k)]) (fun _ => H) (fun _ => []) (fun k => k ≤ xs.length ∧ orL (xs.drop k) = orL xs) (fun k => xs.length - k) 0 ⟨Nat.zero_le _, rfl⟩ (by (repeat (first | exact True.intro | refine ⟨rfl, ?_⟩ | refine Sub.int rfl (by omega) ?_))) rfl (by (first | exact List.Sublist.refl _ | exact List.nil_sublist _ | exact List.Sublist.cons _ (List.Sublist.refl _) | exact List.Sublist.cons _ (List.Sublist.cons _ (List.Sublist.refl _)))) ?_
  rintro k ⟨hk, hrel⟩
  have hc : ∀ _ : k < xs.length, H.cell b (0 + k * 1) = some (intV (xs.getD k 0)) := fun h => by
    rw [Nat.mul_one]
    exact hb k _ (by rw [List.getElem?_map, List.getD_eq_getElem?_getD, List.getElem?_eq_getElem h]; rfl)
  have el : ∀ _ : k < xs.length, orL (xs.drop k) = if xs.getD k 0 = 0 then orL (xs.drop (k + 1)) else xs.getD k 0 := fun h => by
    rw [List.drop_eq_getElem_cons h, List.getD_eq_getElem?_getD, List.getElem?_eq_getElem h]; rfl
  repeat (any_goals (first | refine T.seq ?_ | refine T.region ?_ | refine TL.nil ?_ | refine N.next ?_ | refine N.inBlock ?_ | refine N.exit_same ?_ | refine N.exit_then ?_ | refine N.ret_then ?_ | refine N.ret_block ?_ | refine T.ret ?_ | refine T.skip ?_ | refine T.exit ?_ | refine T.block ?_ | (apply T.test; rfl; (exact isx); intro _; rotate_left; intro _; rotate_right) | (apply TL.val; rfl; rfl; (apply V.elem; (iterate 6 rfl); omega; rfl)) | (apply TL.val; rfl; rfl; (apply V.load_H; rfl; rfl; rfl; exact hc (by omega))) | (apply TL.val; rfl; rfl; (first | exact vpure | exact vread))))
  all_goals (try (apply N.ret_int; rfl; (exact rvx)))
  all_goals (try (refine N.round (k + 1) ?_ ?_ ?_ ?_ ?_; rotate_left 2; (repeat (first | exact True.intro | refine ⟨rfl, ?_⟩ | refine Sub.int rfl (by omega) ?_)); rfl; (first | exact List.Sublist.refl _ | exact List.nil_sublist _ | exact List.Sublist.cons _ (List.Sublist.refl _) | exact List.Sublist.cons _ (List.Sublist.cons _ (List.Sublist.refl _)))))
  all_goals first
    | omega
    | (rw [← hrel, el (by omega), if_neg (by assumption)])
    | exact ⟨by omega, by rw [← hrel, el (by omega), if_pos (by simp_all)]⟩
    | (rw [← hrel, List.drop_of_length_le (by omega)]; rfl)
theorem c_compareData (a b : Datum) (H : Hp) (w : World) (hs : Sat H w) : Calls Tryz.prog 157 #[.agg (enc a).toArray, .agg (enc b).toArray] w (Ret w (intV (cmpD a b))) := by
  refine T.enter (vs := [.agg (enc a).toArray, .agg (enc b).toArray]) (H := H) Tryz.func157 rfl rfl rfl hs ?_
  repeat (any_goals (first | refine T.seq ?_ | refine T.region ?_ | (apply T.regionD wide; rfl) | refine TL.nil ?_ | refine N.next ?_ | refine T.ret ?_ | (apply GT.call0 (f := 135) Tryz.call135; (iterate 5 rfl); (exact fun _ hs => c_cmpI _ _ _ _ hs.sat); decide +kernel) | (apply GT.call0 (f := 184) Tryz.call184; (iterate 5 rfl); (exact fun _ hs => c_cmpS _ _ _ _ hs.sat); decide +kernel) | (apply GS.grow; rfl; rfl; (apply X.callR0 (f := 183) Tryz.call183; rfl; rfl; (exact fun _ hs => c_Or _ [_, _, _] _ _ (hs.satBlk (List.Mem.head _)) Hp.put_cells (by simp))); intro _ _) | (apply TL.val; rfl; rfl; (first | exact vpure | exact vread)) | (apply GT.pure; (iterate 4 rfl); (first | exact vpure); decide +kernel) | (apply GT.read; (iterate 4 rfl); (first | exact vpure | exact vread); decide +kernel) | (apply GT.done; decide +kernel; apply N.ofQ) | (apply GT.adv; rfl) | (apply TL.x; rfl; rfl; (first | exact xgrow | exact xput); intro _ _) | (apply GS.grow; rfl; rfl; (first | exact xgrow); intro _ _) | (apply GT.fork1; decide +kernel)))
  all_goals (apply N.ret_int; rfl; (exact rvx))
  rfl
theorem c_Less (a b : Datum) (H : Hp) (w : World) (hs : Sat H w) : Calls Tryz.prog 148 #[.agg (enc a).toArray, .agg (enc b).toArray] w (Ret w (.bool (datumLt a b))) := by
  refine T.enter (vs := [.agg (enc a).toArray, .agg (enc b).toArray]) (H := H) Tryz.func148 rfl rfl rfl hs ?_
  repeat (any_goals (first | refine T.seq ?_ | refine T.region ?_ | refine TL.nil ?_ | refine N.next ?_ | refine N.ret_then ?_ | refine T.ret ?_ | refine T.skip ?_ | (apply T.test; rfl; (exact isx); intro _; rotate_left; intro _; rotate_right) | (apply TL.val; rfl; rfl; (first | exact vpure | exact vread)) | (apply TL.x; rfl; rfl; (first | exact xgrow | exact xput); intro _ _)))
  all_goals (try (first | (apply N.ret_bool; rfl; (exact rvx)) | (apply N.ret_int; rfl; (exact rvx)) | (apply N.ret_val; rfl; (exact rvx))))
  all_goals (unfold datumLt; simp [*])
theorem c_validDatum (r : Rule) (d : Datum) (H : Hp) (w : World) (hs : Sat H w) (hd : Enc.good H d) : Calls Tryz.prog 156 #[.agg r.cells.toArray, .agg (enc d).toArray] w (Ret w (.bool (datumBy r d))) := by
  have hl := hd.1
  refine T.enter (vs := [.agg r.cells.toArray, .agg (enc d).toArray]) (H := H) Tryz.func156 rfl rfl rfl hs ?_
  repeat (any_goals (first | refine T.seq ?_ | refine T.region ?_ | refine TL.nil ?_ | refine N.next ?_ | refine N.inBlock ?_ | refine N.ret_then ?_ | refine N.ret_block ?_ | refine T.ret ?_ | refine T.skip ?_ | refine T.block ?_ | (apply T.cond_true; rfl) | (apply T.cond_false; rfl) | (apply T.test; rfl; (exact isx); intro _; rotate_left; intro _; rotate_right) | (apply TL.skip; rfl; rfl; rfl) | (apply TL.call0 (f := 154) Tryz.call154; rfl; rfl; rfl; (exact fun _ hs => c_rwithin _ _ _ _ _ hs.sat)) | (apply TL.call0 (f := 127) Tryz.call127; rfl; rfl; rfl; (exact fun _ hs => c_nameValid _ _ _ hs.sat hl)) | (apply TL.call0 (f := 155) Tryz.call155; rfl; rfl; rfl; (exact fun _ hs => c_isWildcard _ _ _ hs.sat hl)) | (apply TL.call0 (f := 182) Tryz.call182; rfl; rfl; rfl; (exact fun _ hs => c_isFree _ _ _ hs.sat hl)) | (apply TL.val; rfl; rfl; (first | exact vpure | exact vread)) | (apply TL.x; rfl; rfl; (first | exact xgrow | exact xput); intro _ _) | (apply TL.guard; rfl; rfl; rfl; (exact isx); intro _; rotate_left; intro _; rotate_right)))
  all_goals (try (first | (apply N.ret_bool; rfl; (exact rvx)) | (apply N.ret_int; rfl; (exact rvx)) | (apply N.ret_val; rfl; (exact rvx))))
  all_goals (unfold datumBy; simp [*])
end Go.Proofs.YthabgdbhgcgemaaGreatDoor
namespace Go.Proofs.YthabgdbhgcgemaaGreatDoor
set_option linter.unusedVariables false
set_option linter.unusedSimpArgs false
open Go Go.RowKit
open Enc (enc)
set_option maxRecDepth 20000
set_option maxHeartbeats 1000000 in
theorem c_Datum02 (t : Int) (d : Datum) (H : Hp) (w : World) (hs : Sat H w) (hd : Enc.good H d) : Calls Tryz.prog 147 #[intV t, .agg (enc d).toArray] w (Ret w (.bool (datumOK t d))) := by
  have hl := hd.1
  refine T.enter (vs := [intV t, .agg (enc d).toArray]) (H := H) Tryz.func147 rfl rfl rfl hs ?_
  repeat (any_goals (first | refine T.seq ?_ | refine T.region ?_ | refine TL.nil ?_ | refine N.next ?_ | refine N.inBlock ?_ | refine N.ret_then ?_ | refine N.ret_block ?_ | refine T.ret ?_ | refine T.skip ?_ | refine T.block ?_ | (apply T.test; rfl; (exact isx); intro _; rotate_left; intro _; rotate_right) | (apply TL.skip; rfl; rfl; rfl) | (apply TL.call0 (f := 144) Tryz.call144; rfl; rfl; rfl; (exact fun _ hs => c_within02 _ _ _ _ _ hs.sat)) | (apply TL.call0 (f := 118) Tryz.call118; rfl; rfl; rfl; (exact fun _ hs => c_nameValid01 _ _ _ hs.sat hl)) | (apply TL.call0 (f := 146) Tryz.call146; rfl; rfl; rfl; (exact fun _ hs => c_Wild _ _ _ hs.sat hl)) | (apply TL.call0 (f := 179) Tryz.call179; rfl; rfl; rfl; (exact fun _ hs => c_text _ _ _ hs.sat hl)) | (apply TL.val; rfl; rfl; (first | exact vpure | exact vread)) | (apply TL.x; rfl; rfl; (first | exact xgrow | exact xput); intro _ _) | (apply TL.guard; rfl; rfl; rfl; (exact isx); intro _; rotate_left; intro _; rotate_right)))
  all_goals (try (first | (apply N.ret_bool; rfl; (exact rvx)) | (apply N.ret_int; rfl; (exact rvx)) | (apply N.ret_val; rfl; (exact rvx))))
  all_goals first
    | (have ht : t = 1 := by assumption
       subst ht; rw [datumOK_1]; simp [*]; done)
    | (have ht : t = 2 := by assumption
       subst ht; rw [datumOK_2]; simp [hostOK, *]; done)
    | (have ht : t = 3 := by assumption
       subst ht; rw [datumOK_3]; simp [hostOK, *]; done)
    | (have ht : t = 4 := by assumption
       subst ht; rw [datumOK_4]; simp [*]; done)
    | (have ht : t = 5 := by assumption
       subst ht; rw [datumOK_5]; simp [*]; done)
    | (have ht : t = 6 := by assumption
       subst ht; rw [datumOK_6]; simp [keyOK, *]; done)
    | (have ht : t = 7 := by assumption
       subst ht; rw [datumOK_7]; simp [keyOK, *]; done)
    | (have ht : t = 8 := by assumption
       subst ht; rw [datumOK_8]; simp [*]; done)
    | exact (datumOK_no (by omega) d).symm
end Go.Proofs.YthabgdbhgcgemaaGreatDoor
namespace Go.Proofs.YthabgdbhgcgemaaGreatDoor
set_option linter.unusedVariables false
set_option linter.unusedSimpArgs false
open Go Go.RowKit
open Enc (enc)
set_option maxRecDepth 20000
theorem headOK_iff (s : RSet) (hlen : s.c.data.length = s.data.len) : headOK s.c = true ↔ (nameOK s.name = true ∧ (1 ≤ s.typ ∧ s.typ ≤ 8) ∧ (0 ≤ s.life ∧ s.life ≤ 100000) ∧ (1 ≤ s.data.len ∧ s.data.len ≤ 8) ∧ ((s.typ = 3 ∨ s.typ = 4) → s.data.len = 1) ∧ (wild s.name = true → (s.typ = 1 ∨ s.typ = 5 ∨ s.typ = 8))) := by
  unfold headOK
  rw [show s.c.typ = s.typ from rfl, show s.c.name = s.name from rfl, show s.c.life = s.life from rfl, hlen]
  by_cases h : 1 ≤ s.typ ∧ s.typ ≤ 8
  · rw [rule_single h, rule_wild h]
    simp only [Bool.and_eq_true, Bool.or_eq_true, Bool.not_eq_true', decide_eq_true_eq, decide_eq_false_iff_not]
    cases nameOK s.name <;> cases wild s.name <;> simp <;> omega
  · simp [h]
set_option maxHeartbeats 2000000 in
theorem c_Valid02 (s : RSet) (H : Hp) (w : World) (hs : Sat H w) (hg : Enc.good H s) : Calls Tryz.prog 120 #[.agg (enc s).toArray] w (Ret w (.bool (setOK s.c))) := by
  obtain ⟨hl, ht, hlf, hd⟩ := hg
  have hlen : s.c.data.length = s.data.len := hd.len
  have hlen' : s.data.els.length = s.data.len := hd.len
  have hlim := hd.lim
  have headP : headOK s.c = true ↔ (nameOK s.name = true ∧ (1 ≤ s.typ ∧ s.typ ≤ 8) ∧ (0 ≤ s.life ∧ s.life ≤ 100000) ∧ (1 ≤ s.data.len ∧ s.data.len ≤ 8) ∧ ((s.typ = 3 ∨ s.typ = 4) → s.data.len = 1) ∧ (wild s.name = true → (s.typ = 1 ∨ s.typ = 5 ∨ s.typ = 8))) := headOK_iff s hlen
  have hno : headOK s.c = false → false = setOK s.c := fun h => by rw [setOK_eq, h]; rfl
  have hno' : ¬ (1 ≤ s.typ ∧ s.typ ≤ 8) → headOK s.c = false := fun h => by unfold headOK; rw [show s.c.typ = s.typ from rfl, decide_eq_false h]; simp
  refine T.enter (vs := [.agg (enc s).toArray]) (H := H) Tryz.func120 rfl rfl rfl hs ?_
  repeat (any_goals (first | (apply T.seqU 4; rfl) | refine T.region ?_ | refine TL.nil ?_ | refine N.next ?_ | (apply TL.val; rfl; rfl; (first | exact vpure | exact vread)) | (apply TL.x; rfl; rfl; (first | exact xgrow | exact xput); intro _ _)))
  rename_i b _
  refine T.cut (G := Unit) (fun _ => [(1, .pointer (some ⟨b, 0, none⟩)), (3, intV s.data.len)]) (fun _ => H) (fun _ => [.blk b 82 (enc s)]) (fun _ => nameOK s.name = true ∧ (1 ≤ s.typ ∧ s.typ ≤ 8) ∧ (0 ≤ s.life ∧ s.life ≤ 100000) ∧ (1 ≤ s.data.len ∧ s.data.len ≤ 8) ∧ ((s.typ = 3 ∨ s.typ = 4) → s.data.len = 1)) ?_ ?_
  · repeat (any_goals (first | refine T.seq ?_ | refine T.region ?_ | refine TL.nil ?_ | refine N.next ?_ | refine N.ret_then ?_ | refine T.ret ?_ | refine T.skip ?_ | (apply T.cond_true; rfl) | (apply T.cond_false; rfl) | (apply T.test; rfl; (exact isx); intro _; rotate_left; intro _; rotate_right) | (apply TL.skip; rfl; rfl; rfl) | (apply TL.call0 (f := 144) Tryz.call144; rfl; rfl; rfl; (exact fun _ hs => c_within02 _ _ _ _ _ hs.sat)) | (apply TL.call0 (f := 145) Tryz.call145; rfl; rfl; rfl; (exact fun _ hs => c_single _ _ _ hs.sat)) | (apply TL.call0 (f := 118) Tryz.call118; rfl; rfl; rfl; (exact fun _ hs => c_nameValid01 _ _ _ hs.sat hl)) | (apply TL.val; rfl; rfl; (first | exact vpure | exact vread)) | (apply TL.guard; rfl; rfl; rfl; (exact isx); intro _; rotate_left; intro _; rotate_right)))
    all_goals (try (first | (apply N.ret_bool; rfl; (exact rvx)) | (apply N.ret_int; rfl; (exact rvx)) | (apply N.ret_val; rfl; (exact rvx))))
    all_goals (try (refine N.cut (()) ?_ ?_ ?_ ?_; rotate_left 1; (repeat (first | exact True.intro | refine ⟨rfl, ?_⟩ | refine Sub.int rfl (by omega) ?_)); rfl; (first | exact List.Sublist.refl _ | exact List.nil_sublist _ | exact List.Sublist.cons _ (List.Sublist.refl _) | exact List.Sublist.cons _ (List.Sublist.cons _ (List.Sublist.refl _)))))
    all_goals first
      | exact ⟨by assumption, by assumption, by assumption, by omega, by omega⟩
      | exact hno (Bool.eq_false_iff.2 fun h => by obtain ⟨a1, a2, a3, a4, a5, a6⟩ := headP.1 h; first | omega | simp_all)
  · rintro ⟨⟩ ⟨h1, h2, h3, h4, h5⟩
    repeat (any_goals (first | (apply T.seqU 6; rfl)))
    refine T.cut (G := Unit) (fun _ => [(1, .pointer (some ⟨b, 0, none⟩)), (3, intV s.data.len)]) (fun _ => H) (fun _ => [.blk b 82 (enc s)]) (fun _ => headOK s.c = true) ?_ ?_
    · repeat (any_goals (first | refine T.seq ?_ | refine T.region ?_ | refine TL.nil ?_ | refine N.next ?_ | refine N.ret_then ?_ | refine T.ret ?_ | refine T.skip ?_ | (apply T.cond_false; rfl) | (apply T.test; rfl; (exact isx); intro _; rotate_left; intro _; rotate_right) | (apply TL.skip; rfl; rfl; rfl) | (apply TL.call0 (f := 146) Tryz.call146; rfl; rfl; rfl; (exact fun _ hs => c_Wild _ _ _ hs.sat hl)) | (apply TL.val; rfl; rfl; (first | exact vpure | exact vread)) | (apply TL.guard; rfl; rfl; rfl; (exact isx); intro _; rotate_left; intro _; rotate_right)))
      all_goals (try (first | (apply N.ret_bool; rfl; (exact rvx)) | (apply N.ret_int; rfl; (exact rvx)) | (apply N.ret_val; rfl; (exact rvx))))
      all_goals (try (refine N.cut (()) ?_ ?_ ?_ ?_; rotate_left 1; (repeat (first | exact True.intro | refine ⟨rfl, ?_⟩ | refine Sub.int rfl (by omega) ?_)); rfl; (first | exact List.Sublist.refl _ | exact List.nil_sublist _ | exact List.Sublist.cons _ (List.Sublist.refl _) | exact List.Sublist.cons _ (List.Sublist.cons _ (List.Sublist.refl _)))))
      all_goals first
        | exact headP.2 ⟨h1, h2, h3, h4, h5, fun hw => by first | omega | simp_all⟩
        | exact hno (Bool.eq_false_iff.2 fun h => by
            obtain ⟨a1, a2, a3, a4, a5, a6⟩ := headP.1 h
            have := a6 (by assumption)
            omega)
    · rintro ⟨⟩ hh
      have hset : setOK s.c = (s.data.els.all (datumOK s.typ) && chain datumLt s.data.els) := by rw [setOK_eq, hh]; rfl
      repeat (any_goals (first | refine T.seq ?_ | refine T.region ?_ | refine TL.nil ?_ | refine N.next ?_ | refine T.block ?_ | (apply TL.val; rfl; rfl; (first | exact vpure | exact vread))))
      refine T.loop (G := Nat) (fun k => [(1, .pointer (some ⟨b, 0, none⟩)), (3, intV s.data.len), (4, intV k)]) (fun _ => H) (fun _ => [.blk b 82 (enc s)]) (fun k => k ≤ s.data.len ∧ DataOK s.typ s.data.els k) (fun k => s.data.len - k) 0 ⟨Nat.zero_le _, fun j _ h => by omega⟩ (by (repeat (first | exact True.intro | refine ⟨rfl, ?_⟩ | refine Sub.int rfl (by omega) ?_))) rfl (by (first | exact List.Sublist.refl _ | exact List.nil_sublist _ | exact List.Sublist.cons _ (List.Sublist.refl _) | exact List.Sublist.cons _ (List.Sublist.cons _ (List.Sublist.refl _)))) ?_
      rintro k ⟨hk, hrel⟩
      repeat (any_goals (first | refine T.seq ?_ | refine T.region ?_ | (apply T.regionD wide; rfl) | refine TL.nil ?_ | refine N.next ?_ | refine N.inBlock ?_ | refine N.exit_same ?_ | refine N.exit_then ?_ | refine N.ret_then ?_ | refine N.ret_block ?_ | refine T.ret ?_ | refine T.skip ?_ | refine T.exit ?_ | refine T.block ?_ | (apply T.cond_true; rfl) | (apply T.cond_false; rfl) | (apply T.test; rfl; (exact isx); intro _; rotate_left; intro _; rotate_right) | (apply GT.skip; rfl; rfl; rfl; decide +kernel) | (apply GT.call0 (f := 147) Tryz.call147; (iterate 5 rfl); (exact fun _ hs => c_Datum02 _ _ _ _ hs.sat (hd.el (by omega))); decide +kernel) | (apply GT.call0 (f := 148) Tryz.call148; (iterate 5 rfl); (exact fun _ hs => c_Less _ _ _ _ hs.sat); decide +kernel) | (apply TL.val; rfl; rfl; (first | exact vpure | exact vread)) | (apply GT.pure; (iterate 4 rfl); (first | exact vpure); decide +kernel) | (apply GT.read; (iterate 4 rfl); (first | exact vpure | exact vread); decide +kernel) | (apply GT.done; decide +kernel; apply N.ofQ) | (apply GT.guard; (iterate 4 rfl); (exact isx); intro _; rotate_left; intro _; rotate_right)))
      all_goals (try (first | (apply N.ret_bool; rfl; (exact rvx)) | (apply N.ret_int; rfl; (exact rvx)) | (apply N.ret_val; rfl; (exact rvx))))
      all_goals (try (refine N.round (k + 1) ?_ ?_ ?_ ?_ ?_; rotate_left 2; (repeat (first | exact True.intro | refine ⟨rfl, ?_⟩ | refine Sub.int rfl (by omega) ?_)); rfl; (first | exact List.Sublist.refl _ | exact List.nil_sublist _ | exact List.Sublist.cons _ (List.Sublist.refl _) | exact List.Sublist.cons _ (List.Sublist.cons _ (List.Sublist.refl _)))))
      all_goals (try simp only [show ((k : Int) - 1).toNat = k - 1 by omega] at *)
      all_goals first
        | omega
        | exact ⟨by omega, dataOK_up (by omega) hrel (by assumption) (fun _ => by first | assumption | omega)⟩
        | (rw [hset]; exact (dataOK_no (k := k) (by omega) (.inl (by assumption))).symm)
        | (rw [hset]; exact (dataOK_no (k := k) (by omega) (.inr ⟨by omega, by assumption⟩)).symm)
        | (rw [hset]; exact ((dataOK_iff _ _).2 (fun j hj _ => hrel j hj (by omega))).symm)
end Go.Proofs.YthabgdbhgcgemaaGreatDoor
namespace Go.Proofs.YthabgdbhgcgemaaGreatDoor
set_option linter.unusedVariables false
set_option linter.unusedSimpArgs false
open Go Go.RowKit
open Enc (enc)
set_option maxRecDepth 20000
theorem headOK_iff' (s : RSet) (hlen : s.c.data.length = s.data.len) : headOK s.c = true ↔ (nameOK s.name = true ∧ (1 ≤ s.typ ∧ s.typ ≤ 8) ∧ (0 ≤ s.life ∧ s.life ≤ 100000) ∧ (1 ≤ s.data.len ∧ s.data.len ≤ 8) ∧ ((ruleOf s.typ.toNat).single = true → s.data.len = 1) ∧ (wild s.name = true → (ruleOf s.typ.toNat).wild = true)) := by
  unfold headOK
  rw [show s.c.typ = s.typ from rfl, show s.c.name = s.name from rfl, show s.c.life = s.life from rfl, hlen]
  simp only [Bool.and_eq_true, Bool.or_eq_true, Bool.not_eq_true', decide_eq_true_eq]
  cases nameOK s.name <;> cases wild s.name <;> cases (ruleOf s.typ.toNat).single <;> cases (ruleOf s.typ.toNat).wild <;> simp <;> omega
set_option maxHeartbeats 2000000 in
theorem c_recordValid (s : RSet) (H : Hp) (w : World) (hs : Sat H w) (hR : Rules H) (hg : Enc.good H s) : Calls Tryz.prog 129 #[.agg (enc s).toArray] w (Ret w (.bool (setOK s.c))) := by
  obtain ⟨hl, ht, hlf, hd⟩ := hg
  have hlen : s.c.data.length = s.data.len := hd.len
  have hlen' : s.data.els.length = s.data.len := hd.len
  have hlim := hd.lim
  have headP := headOK_iff' s hlen
  obtain ⟨r, hr⟩ : ∃ r, ruleOf s.typ.toNat = r := ⟨_, rfl⟩
  have hrow : ∀ _ : 1 ≤ s.typ ∧ s.typ ≤ 8, H.cells 0 (0 + s.typ.toNat * 8) [intV r.text, intV r.leastN, intV r.mostN, intV r.leastM, intV r.mostM, .bool r.even, .bool r.single, .bool r.wild] := fun h => by
    have h0 := hR s.typ.toNat (by omega); rw [hr] at h0; rw [Nat.zero_add]; exact h0
  have hno : headOK s.c = false → false = setOK s.c := fun h => by rw [setOK_eq, h]; rfl
  rw [hr] at headP
  refine T.enter (vs := [.agg (enc s).toArray]) (H := H) Tryz.func129 rfl rfl rfl hs ?_
  repeat (any_goals (first | (apply T.seqU 8; rfl) | refine T.region ?_ | refine TL.nil ?_ | refine N.next ?_ | refine N.ret_then ?_ | refine T.ret ?_ | refine T.skip ?_ | (apply T.cond_true; rfl) | (apply T.test; rfl; (exact isx); intro _; rotate_left; intro _; rotate_right) | (apply TL.skip; rfl; rfl; rfl) | (apply TL.call0 (f := 154) Tryz.call154; rfl; rfl; rfl; (exact fun _ hs => c_rwithin _ _ _ _ _ hs.sat)) | (apply TL.call0 (f := 127) Tryz.call127; rfl; rfl; rfl; (exact fun _ hs => c_nameValid _ _ _ hs.sat hl)) | (apply TL.val; rfl; rfl; (apply V.load_H_row; rfl; rfl; rfl; exact hrow (by assumption); rfl)) | (apply TL.val; rfl; rfl; (first | exact vpure | exact vread)) | (apply TL.x; rfl; rfl; (first | exact xgrow | exact xput); intro _ _) | (apply TL.guard; rfl; rfl; rfl; (exact isx); intro _; rotate_left; intro _; rotate_right)))
  all_goals (try (first | (apply N.ret_bool; rfl; (exact rvx)) | (apply N.ret_int; rfl; (exact rvx)) | (apply N.ret_val; rfl; (exact rvx))))
  all_goals (try (exact hno (Bool.eq_false_iff.2 fun h => by obtain ⟨a1, a2, a3, a4, a5, a6⟩ := headP.1 h; first | omega | exact absurd (a1.symm.trans (by assumption : nameOK s.name = false)) (by simp))))
  rename_i b _ h1 h2 h3 h4 br _ _ _
  refine T.cut (G := Unit) (fun _ => [(1, .pointer (some ⟨b, 0, none⟩)), (3, .pointer (some ⟨br, 0, none⟩))]) (fun _ => H) (fun _ => [.blk br 195 r.cells, .blk b 82 (enc s)]) (fun _ => headOK s.c = true) ?_ ?_
  · repeat (any_goals (first | refine T.seq ?_ | refine T.region ?_ | refine TL.nil ?_ | refine N.next ?_ | refine N.ret_then ?_ | refine T.ret ?_ | refine T.skip ?_ | (apply T.cond_true; rfl) | (apply T.cond_false; rfl) | (apply T.test; rfl; (exact isx); intro _; rotate_left; intro _; rotate_right) | (apply TL.skip; rfl; rfl; rfl) | (apply TL.call0 (f := 155) Tryz.call155; rfl; rfl; rfl; (exact fun _ hs => c_isWildcard _ _ _ hs.sat hl)) | (apply TL.val; rfl; rfl; (first | exact vpure | exact vread)) | (apply TL.guard; rfl; rfl; rfl; (exact isx); intro _; rotate_left; intro _; rotate_right)))
    all_goals (try (first | (apply N.ret_bool; rfl; (exact rvx)) | (apply N.ret_int; rfl; (exact rvx)) | (apply N.ret_val; rfl; (exact rvx))))
    all_goals (try (refine N.cut (()) ?_ ?_ ?_ ?_; rotate_left 1; (repeat (first | exact True.intro | refine ⟨rfl, ?_⟩ | refine Sub.int rfl (by omega) ?_)); rfl; (first | exact List.Sublist.refl _ | exact List.nil_sublist _ | exact List.Sublist.cons _ (List.Sublist.refl _) | exact List.Sublist.cons _ (List.Sublist.cons _ (List.Sublist.refl _)))))
    all_goals first
      | exact headP.2 ⟨h1, h2, h3, by omega, fun h => by first | omega | exact absurd (h.symm.trans (by assumption : r.single = false)) (by decide), fun h => by first | assumption | exact absurd (h.symm.trans (by assumption : wild s.name = false)) (by decide)⟩
      | exact hno (Bool.eq_false_iff.2 fun h => by
          obtain ⟨a1, a2, a3, a4, a5, a6⟩ := headP.1 h
          first
            | (have := a5 (by assumption); omega)
            | exact absurd ((a6 (by assumption)).symm.trans (by assumption : r.wild = false)) (by decide))
  · rintro ⟨⟩ hh
    have hset : setOK s.c = (s.data.els.all (datumOK s.typ) && chain datumLt s.data.els) := by rw [setOK_eq, hh]; rfl
    have hby : ∀ d, datumBy r d = datumOK s.typ d := fun d => by unfold datumOK; rw [decide_eq_true h2, hr]; rfl
    repeat (any_goals (first | refine T.seq ?_ | refine T.region ?_ | refine TL.nil ?_ | refine N.next ?_ | refine T.block ?_ | (apply TL.val; rfl; rfl; (first | exact vpure | exact vread))))
    refine T.loop (G := Nat) (fun k => [(1, .pointer (some ⟨b, 0, none⟩)), (3, .pointer (some ⟨br, 0, none⟩)), (50, s.data.v), (51, intV s.data.len), (52, intV k)]) (fun _ => H) (fun _ => [.blk br 195 r.cells, .blk b 82 (enc s)]) (fun k => k ≤ s.data.len ∧ DataOK s.typ s.data.els k) (fun k => s.data.len - k) 0 ⟨Nat.zero_le _, fun j _ h => by omega⟩ (by (repeat (first | exact True.intro | refine ⟨rfl, ?_⟩ | refine Sub.int rfl (by omega) ?_))) rfl (by (first | exact List.Sublist.refl _ | exact List.nil_sublist _ | exact List.Sublist.cons _ (List.Sublist.refl _) | exact List.Sublist.cons _ (List.Sublist.cons _ (List.Sublist.refl _)))) ?_
    rintro k ⟨hk, hrel⟩
    repeat (any_goals (first | refine T.seq ?_ | refine T.region ?_ | (apply T.regionD wide; rfl) | refine TL.nil ?_ | refine N.next ?_ | refine N.inBlock ?_ | refine N.exit_same ?_ | refine N.exit_then ?_ | refine N.ret_then ?_ | refine N.ret_block ?_ | refine T.ret ?_ | refine T.skip ?_ | refine T.exit ?_ | refine T.block ?_ | (apply T.cond_true; rfl) | (apply T.cond_false; rfl) | (apply T.test; rfl; (exact isx); intro _; rotate_left; intro _; rotate_right) | (apply GT.skip; rfl; rfl; rfl; decide +kernel) | (apply GT.call0 (f := 156) Tryz.call156; (iterate 5 rfl); (exact fun _ hs => c_validDatum r _ _ _ hs.sat (hd.el (by omega))); decide +kernel) | (apply GT.call0 (f := 157) Tryz.call157; (iterate 5 rfl); (exact fun _ hs => c_compareData _ _ _ _ hs.sat); decide +kernel) | (apply TL.val; rfl; rfl; (first | exact vpure | exact vread)) | (apply GT.pure; (iterate 4 rfl); (first | exact vpure); decide +kernel) | (apply GT.read; (iterate 4 rfl); (first | exact vpure | exact vread); decide +kernel) | (apply GT.done; decide +kernel; apply N.ofQ) | (apply TL.x; rfl; rfl; (first | exact xgrow | exact xput); intro _ _) | (apply GT.guard; (iterate 4 rfl); (exact isx); intro _; rotate_left; intro _; rotate_right)))
    all_goals (try (first | (apply N.ret_bool; rfl; (exact rvx)) | (apply N.ret_int; rfl; (exact rvx)) | (apply N.ret_val; rfl; (exact rvx))))
    all_goals (try (refine N.round (k + 1) ?_ ?_ ?_ ?_ ?_; rotate_left 2; (repeat (first | exact True.intro | refine ⟨rfl, ?_⟩ | refine Sub.int rfl (by omega) ?_)); rfl; (first | exact List.Sublist.refl _ | exact List.nil_sublist _ | exact List.Sublist.cons _ (List.Sublist.refl _) | exact List.Sublist.cons _ (List.Sublist.cons _ (List.Sublist.refl _)))))
    all_goals (try simp only [show ((k : Int) - 1).toNat = k - 1 by omega] at *)
    all_goals (try simp only [hby, cmpD_lt] at *)
    all_goals first
      | omega
      | exact ⟨by omega, dataOK_up (by omega) hrel (by assumption) (fun _ => by first | omega | (simp only [Bool.not_eq_false] at *; assumption))⟩
      | (rw [hset]; exact (dataOK_no (k := k) (by omega) (.inl (by assumption))).symm)
      | (rw [hset]; exact (dataOK_no (k := k) (by omega) (.inr ⟨by omega, by assumption⟩)).symm)
      | (rw [hset]; exact ((dataOK_iff _ _).2 (fun j hj _ => hrel j hj (by omega))).symm)
end Go.Proofs.YthabgdbhgcgemaaGreatDoor
