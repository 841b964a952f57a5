import Derived.Test.YthabgdbhgcgemaaGreatDoorQBX
import Derived.Test.YthabgdbhgcgemaaGreatDoorQTMap
namespace Go.Proofs.YthabgdbhgcgemaaGreatDoor
set_option linter.unusedVariables false
set_option linter.unusedSimpArgs false
open Go Go.RowKit
open Enc (enc)
set_option maxRecDepth 20000
theorem zoneV_eq {a b : ZoneV} : a.c = b.c ↔ a.apex = b.apex ∧ a.sets.els.map Signed.c = b.sets.els.map Signed.c := by
  unfold ZoneV.c
  constructor
  · intro h; injection h with h1 h2; exact ⟨h1, h2⟩
  · rintro ⟨h1, h2⟩; rw [h1, h2]
section
variable {H : Hp} {w : World}
theorem c_SameZone (a b : ZoneV) (hs : Sat H w) (ha : Enc.good H a) (hb : Enc.good H b) : Calls Tryz.prog 10 #[.agg (enc a).toArray, .agg (enc b).toArray] w (Ret w (.bool (decide (a.c = b.c)))) := by
  have ha1 := ha.1
  have hb1 := hb.1
  refine T.enter (vs := [.agg (enc a).toArray, .agg (enc b).toArray]) (H := H) Tryz.func10 rfl rfl rfl hs ?_
  repeat (any_goals (first | refine T.seq ?_ | refine T.region ?_ | refine TL.nil ?_ | refine N.next ?_ | refine T.ret ?_ | (apply TL.skip; rfl; rfl; rfl) | (apply TL.call0 (f := 29) Tryz.call29; rfl; rfl; rfl; (exact fun _ hs => c_SameList a.sets b.sets _ _ hs.sat ha.2 hb.2)) | (apply TL.val; rfl; rfl; (first | exact vpure | exact vread)) | (apply TL.x; rfl; rfl; (first | exact xgrow | exact xput); intro _ _) | (apply TL.guard; rfl; rfl; rfl; (exact isx); intro _; rotate_left; intro _; rotate_right)))
  all_goals (try (first | (apply N.ret_bool; rfl; (exact rvx)) | (apply N.ret_int; rfl; (exact rvx)) | (apply N.ret_val; rfl; (exact rvx))))
  all_goals (rw [Bool.eq_iff_iff]; simp [zoneV_eq, *])
set_option maxHeartbeats 8000000 in
theorem c_SameCopies (a b : Slc CopyV) (h : a.els.map copyC = b.els.map copyC) (hs : Sat H w) (ha : a.Good H) (hb : b.Good H) : Calls Tryz.prog 12 #[a.v, b.v] w (Ret w (.bool true)) := by
  have hla := ha.len
  have hlb := hb.len
  have hma := ha.lim
  have hmb := hb.lim
  have hab : a.len = b.len := by
    have := congrArg List.length h
    simp only [List.length_map] at this
    omega
  refine T.enter (vs := [a.v, b.v]) (H := H) Tryz.func12 rfl rfl rfl hs ?_
  repeat (any_goals (first | refine T.seq ?_ | refine T.region ?_ | refine TL.nil ?_ | refine N.next ?_ | refine N.ret_then ?_ | refine T.ret ?_ | refine T.skip ?_ | refine T.block ?_ | (apply T.test; rfl; (exact isx); intro _; rotate_left; intro _; rotate_right) | (apply TL.val; rfl; rfl; (first | exact vpure | exact vread))))
  all_goals (try contradiction)
  all_goals (try (exfalso; omega))
  refine T.loop (G := Nat) (fun k => [(0, a.v), (1, b.v), (5, intV k)]) (fun _ => H) (fun _ => []) (fun k => k ≤ a.len) (fun k => a.len - k) 0 (Nat.zero_le _) (by (repeat (first | exact True.intro | refine ⟨rfl, ?_⟩ | refine Sub.int rfl (by omega) ?_))) rfl (by (repeat (first | exact List.Sublist.refl _ | exact List.nil_sublist _ | apply List.Sublist.cons_cons | apply List.Sublist.cons))) ?_
  intro k hk
  by_cases hlt : k < a.len
  · have hka : k < a.els.length := by omega
    have hkb : k < b.els.length := by omega
    have hltb : k < b.len := by omega
    have hxg := ha.els _ (List.getElem_mem hka)
    have hyg := hb.els _ (List.getElem_mem hkb)
    have c0 := ha.cell (k := k) (j := 0) hlt rfl
    have c1 := ha.cell (k := k) (j := 1) hlt rfl
    have c2 := ha.cell (k := k) (j := 2) hlt rfl
    have cz := ha.part (k := k) (j := 3) (m := 2) hlt (vs := enc (a.els[k]'hka).zone) rfl
    have d0 := hb.cell (k := k) (j := 0) hltb rfl
    have d1 := hb.cell (k := k) (j := 1) hltb rfl
    have d2 := hb.cell (k := k) (j := 2) hltb rfl
    have dz := hb.part (k := k) (j := 3) (m := 2) hltb (vs := enc (b.els[k]'hkb).zone) rfl
    have hxy : copyC (a.els[k]'hka) = copyC (b.els[k]'hkb) := by
      have := List.getElem_of_eq h (i := k) (by rw [List.length_map]; exact hka)
      rwa [List.getElem_map, List.getElem_map] at this
    obtain ⟨x, hx⟩ : ∃ x, a.els[k]'hka = x := ⟨_, rfl⟩
    obtain ⟨y, hy⟩ : ∃ y, b.els[k]'hkb = y := ⟨_, rfl⟩
    have c0 : H.cell a.b (a.o + k * 5 + 0) = some (intV x.host) := by rw [← hx]; exact c0
    have c1 : H.cell a.b (a.o + k * 5 + 1) = some (intV x.frm) := by rw [← hx]; exact c1
    have c2 : H.cell a.b (a.o + k * 5 + 2) = some (intV x.til) := by rw [← hx]; exact c2
    have d0 : H.cell b.b (b.o + k * 5 + 0) = some (intV y.host) := by rw [← hy]; exact d0
    have d1 : H.cell b.b (b.o + k * 5 + 1) = some (intV y.frm) := by rw [← hy]; exact d1
    have d2 : H.cell b.b (b.o + k * 5 + 2) = some (intV y.til) := by rw [← hy]; exact d2
    rw [hx] at hxg cz hxy
    rw [hy] at hyg dz hxy
    have e0 : x.host = y.host := congrArg (·.1) hxy
    have e1 : x.frm = y.frm := congrArg (·.2.1) hxy
    have e2 : x.til = y.til := congrArg (·.2.2.1) hxy
    have ez : decide (x.zone.c = y.zone.c) = true := decide_eq_true (congrArg (·.2.2.2) hxy)
    repeat (any_goals (first | refine T.seq ?_ | refine T.region ?_ | (apply T.regionD wide; rfl) | refine TL.nil ?_ | refine N.next ?_ | refine N.inBlock ?_ | refine N.exit_same ?_ | refine N.exit_then ?_ | refine N.ret_then ?_ | refine N.ret_block ?_ | refine T.ret ?_ | refine T.skip ?_ | refine T.exit ?_ | refine T.block ?_ | (apply T.cond_true; rfl) | (apply T.cond_false; rfl) | (apply T.test; rfl; (exact isx); intro _; rotate_left; intro _; rotate_right) | (apply GT.skip; rfl; rfl; rfl; decide +kernel) | (apply GT.pure; (iterate 4 rfl); (apply V.elem (j := k); (iterate 6 rfl); omega; first | exact ha.at_ (by omega) | exact hb.at_ (by omega)); decide +kernel) | (apply GT.read; (iterate 4 rfl); (apply V.load_H; rfl; rfl; rfl; first | exact c0 | exact d0 | exact c1 | exact d1 | exact c2 | exact d2); decide +kernel) | (apply GT.read; (iterate 4 rfl); (apply V.load_H_row; rfl; rfl; rfl; (first | exact cz | exact dz); rfl); decide +kernel) | (apply GT.callE (f := 10) [.agg (enc x.zone).toArray, .agg (enc y.zone).toArray] Tryz.call10; (iterate 6 rfl); (exact fun _ hs => ez ▸ c_SameZone x.zone y.zone hs.sat hxg.2.2.2 hyg.2.2.2); decide +kernel) | (apply TL.val; rfl; rfl; (first | exact vpure | exact vread)) | (apply GT.pure; (iterate 4 rfl); (first | exact vpure); decide +kernel) | (apply GT.done; decide +kernel; apply N.ofQ) | (apply GT.guard; (iterate 4 rfl); (exact isx); intro _; rotate_left; intro _; rotate_right)))
    all_goals (try contradiction)
    all_goals (try (exfalso; omega))
    all_goals first
      | exact N.round (k + 1) (by omega) (by show a.len - (k + 1) < a.len - k; omega) (by (repeat (first | exact True.intro | refine ⟨rfl, ?_⟩ | refine Sub.int rfl (by omega) ?_))) rfl (by (repeat (first | exact List.Sublist.refl _ | exact List.nil_sublist _ | apply List.Sublist.cons_cons | apply List.Sublist.cons)))
      | trace_state
  · repeat (any_goals (first | refine T.seq ?_ | refine T.region ?_ | (apply T.regionD wide; rfl) | refine TL.nil ?_ | refine N.next ?_ | refine N.exit_same ?_ | refine N.exit_then ?_ | refine N.ret_then ?_ | refine N.ret_block ?_ | refine T.ret ?_ | refine T.skip ?_ | refine T.exit ?_ | refine T.block ?_ | (apply T.cond_true; rfl) | (apply T.test; rfl; (exact isx); intro _; rotate_left; intro _; rotate_right) | (apply GT.skip; rfl; rfl; rfl; decide +kernel) | (apply TL.val; rfl; rfl; (first | exact vpure | exact vread)) | (apply GT.pure; (iterate 4 rfl); (first | exact vpure); decide +kernel) | (apply GT.read; (iterate 4 rfl); (first | exact vpure | exact vread); decide +kernel) | (apply GT.done; decide +kernel; apply N.ofQ) | (apply GT.guard; (iterate 4 rfl); (exact isx); intro _; rotate_left; intro _; rotate_right)))
    all_goals (try (exfalso; omega))
    exact N.ret_bool rfl (by (exact rvx)) rfl
end
end Go.Proofs.YthabgdbhgcgemaaGreatDoor
