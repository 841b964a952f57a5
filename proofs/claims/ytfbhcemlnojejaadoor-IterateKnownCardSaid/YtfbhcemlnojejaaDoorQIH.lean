/- Walks: Ask, Zone and Same of the reference of iterating; Zone. -/
import Derived.Test.YtfbhcemlnojejaaDoorQIG
namespace Go.Proofs.YtfbhcemlnojejaaDoor
set_option linter.unusedVariables false
set_option linter.unusedSimpArgs false
open Go Go.RowKit
open Enc (enc)
set_option maxRecDepth 20000

theorem c_Question06V28 (q : Question) {b : Bool} (h : questionOK q = b) {H : Hp} {w : World} (hs : Sat H w) (hg : Enc.good H q) : Calls Tryd.prog 42 #[.agg (enc q).toArray] w (Ret w (.bool b)) := h ▸ c_Question06 q H w hs hg
set_option maxHeartbeats 8000000 in
theorem c_Ask28 (known : Slc Signed) (hints : Slc Int) (q : Question) (H : Hp) (w : World) (hs : Sat H w) (hkg : known.Good H) (hhg : hints.Good H) (hqg : Enc.good H q) (hh : hints.len ≤ 1000) : Calls Tryd.prog 36 #[known.v, hints.v, .agg (enc q).toArray] w (RetF w H (fun p : Hp × Nxt => p.2.c = (askC (known.els.map Signed.c) hints.els q).1 ∧ Enc.good p.1 p.2) (fun p => .tuple #[.agg (enc p.2).toArray, intV (askC (known.els.map Signed.c) hints.els q).2]) (fun p => p.1)) := by
  have hlen := hkg.len
  have hlim := hkg.lim
  refine T.enter (vs := [known.v, hints.v, .agg (enc q).toArray]) (H := H) Tryd.func36 rfl rfl rfl hs ?_
  obtain ⟨bq, hbq⟩ : ∃ x, questionOK q = x := ⟨_, rfl⟩
  obtain ⟨bk, hbk⟩ : ∃ x, knownOK (known.els.map Signed.c) = x := ⟨_, rfl⟩
  obtain ⟨bh, hbh⟩ : ∃ x, hintsC hints.els = x := ⟨_, rfl⟩
  by_cases hgo : bq = true ∧ bk = true ∧ bh = true
  rotate_left
  · rw [ask_no (by rintro ⟨h1, h2, h3⟩; exact hgo ⟨hbq.symm.trans h3, hbk.symm.trans h1, hbh.symm.trans h2⟩)]
    repeat (any_goals (first | refine T.seq ?_ | refine T.region ?_ | refine TL.nil ?_ | refine N.next ?_ | refine N.inBlock ?_ | refine N.exit_same ?_ | refine N.exit_then ?_ | refine N.ret_then ?_ | refine N.ret_block ?_ | (apply N.exit_other; rfl) | refine T.ret ?_ | refine T.skip ?_ | refine T.exit ?_ | refine T.block ?_ | (apply T.cond_true; rfl) | (apply T.cond_false; rfl) | (apply T.test; rfl; (with_reducible (first | exact Is.ndec | exact Is.dec | exact Is.not | ((fail_if_success exact Is.litT); (fail_if_success exact Is.litF); exact Is.base))); intro _; rotate_left; intro _; rotate_right) | (apply TL.skip; rfl; rfl; rfl) | (apply TL.skip_none; rfl; rfl) | (apply TL.callE (f := 42) [.agg (enc q).toArray] Tryd.call42; rfl; rfl; rfl; rfl; (exact fun _ hs => c_Question06V28 q hbq hs.sat hqg)) | (apply TL.callE (f := 46) [known.v] Tryd.call46; rfl; rfl; rfl; rfl; (exact fun _ hs => hbk ▸ c_Right28 known _ _ hs.sat hkg)) | (apply TL.callE (f := 85) [hints.v] Tryd.call85; rfl; rfl; rfl; rfl; (exact fun _ hs => hbh ▸ c_Hints28 hints _ _ hs.sat hhg)) | (apply TL.val; rfl; rfl; (apply V.build; rfl; rfl; rfl; rfl; rfl; rfl)) | (apply TL.x; rfl; rfl; (apply X.storeTo 0 (enc nilX); rfl; rfl; rfl; rfl; rfl; rfl; rfl; rfl; rfl; rfl); intro _ _) | (apply TL.val; rfl; rfl; (first | exact vpure | exact vread)) | (apply TL.x; rfl; rfl; (first | exact xgrow | exact xput); intro _ _) | (apply TL.guard; rfl; rfl; rfl; (with_reducible (first | exact Is.ndec | exact Is.dec | exact Is.not | ((fail_if_success exact Is.litT); (fail_if_success exact Is.litF); exact Is.base))); intro _; rotate_left; intro _; rotate_right)))
    all_goals (try contradiction)
    all_goals first
      | exact N.ret2 rfl (by (exact rvx)) (by (exact rvx)) fun w hst => ⟨(_, nilX), ⟨rfl, nilX_good⟩, rfl, hst.fresh⟩
      | (exfalso; exact hgo ⟨by assumption, by assumption, by assumption⟩)
  · obtain ⟨rfl, rfl, rfl⟩ := hgo
    have hqo := hbq
    unfold questionOK at hqo
    simp only [Bool.and_eq_true, decide_eq_true_eq] at hqo
    have hask : askC (known.els.map Signed.c) hints.els q = match followI (known.els.map Signed.c) 9 [] q.name q.typ with
        | none => (darkN, 0)
        | some (kept, e) => match findC (known.els.map Signed.c) e q.typ with
          | some s => (⟨2, [], [], qNil, kept ++ [s]⟩, 0)
          | none => (nextI (known.els.map Signed.c) hints.els 9 ⟨e, q.typ⟩ [], 0) := by
      unfold askC
      rw [hbk, hbh, hbq]
      rfl
    rw [hask]
    cases hf : followI (known.els.map Signed.c) 9 [] q.name q.typ with
    | none =>
      simp only
      repeat (any_goals (first | refine T.seq ?_ | refine T.region ?_ | refine TL.nil ?_ | refine N.next ?_ | refine N.inBlock ?_ | refine N.exit_same ?_ | refine N.exit_then ?_ | refine N.ret_then ?_ | refine N.ret_block ?_ | (apply N.exit_other; rfl) | refine T.ret ?_ | refine T.skip ?_ | refine T.exit ?_ | refine T.block ?_ | (apply T.cond_true; rfl) | (apply T.cond_false; rfl) | (apply T.test; rfl; (with_reducible (first | exact Is.ndec | exact Is.dec | exact Is.not | ((fail_if_success exact Is.litT); (fail_if_success exact Is.litF); exact Is.base))); intro _; rotate_left; intro _; rotate_right) | (apply TL.skip; rfl; rfl; rfl) | (apply TL.skip_none; rfl; rfl) | (apply TL.callE (f := 42) [.agg (enc q).toArray] Tryd.call42; rfl; rfl; rfl; rfl; (exact fun _ hs => c_Question06V28 q hbq hs.sat hqg)) | (apply TL.callE (f := 46) [known.v] Tryd.call46; rfl; rfl; rfl; rfl; (exact fun _ hs => hbk ▸ c_Right28 known _ _ hs.sat hkg)) | (apply TL.callE (f := 85) [hints.v] Tryd.call85; rfl; rfl; rfl; rfl; (exact fun _ hs => hbh ▸ c_Hints28 hints _ _ hs.sat hhg)) | (apply TL.val; rfl; rfl; (apply V.build; rfl; rfl; rfl; rfl; rfl; rfl)) | (apply TL.callE (f := 86) [known.v, strV q.name, intV q.typ] Tryd.call86; rfl; rfl; rfl; rfl; (exact fun _ hs => c_Follow28F hf hs.sat hkg hbk hqg.1 hqg.2)) | (apply TL.x; rfl; rfl; (apply X.storeTo 0 (enc darkX); rfl; rfl; rfl; rfl; rfl; rfl; rfl; rfl; rfl; rfl); intro _ _) | (apply TL.val; rfl; rfl; (first | exact vpure | exact vread)) | (apply TL.x; rfl; rfl; (first | exact xgrow | exact xput); intro _ _) | (apply TL.guard; rfl; rfl; rfl; (with_reducible (first | exact Is.ndec | exact Is.dec | exact Is.not | ((fail_if_success exact Is.litT); (fail_if_success exact Is.litF); exact Is.base))); intro _; rotate_left; intro _; rotate_right)))
      all_goals (try contradiction)
      exact N.ret2 rfl (by (exact rvx)) (by (exact rvx)) fun w hst => ⟨(_, darkX), ⟨rfl, darkX_good⟩, rfl, hst.fresh⟩
    | some ke =>
      obtain ⟨k, e⟩ := ke
      simp only
      have hen : nameOK e = true := follow_name hbk hqo.1 hf
      cases hfs : findS known.els e q.typ with
      | none =>
        have hfc : findC (known.els.map Signed.c) e q.typ = none := by rw [findS_c, hfs]; rfl
        have hkv := knownS_none hfs
        rw [hfc]
        simp only
        repeat (any_goals (first | refine T.seq ?_ | refine T.region ?_ | refine TL.nil ?_ | refine N.next ?_ | refine N.inBlock ?_ | refine N.exit_same ?_ | refine N.exit_then ?_ | refine N.ret_then ?_ | refine N.ret_block ?_ | (apply N.exit_other; rfl) | refine T.ret ?_ | refine T.skip ?_ | refine T.exit ?_ | refine T.block ?_ | (apply T.cond_true; rfl) | (apply T.cond_false; rfl) | (apply T.test; rfl; (with_reducible (first | exact Is.ndec | exact Is.dec | exact Is.not | ((fail_if_success exact Is.litT); (fail_if_success exact Is.litF); exact Is.base))); intro _; rotate_left; intro _; rotate_right) | (apply TL.skip; rfl; rfl; rfl) | (apply TL.skip_none; rfl; rfl) | (apply TL.callE (f := 42) [.agg (enc q).toArray] Tryd.call42; rfl; rfl; rfl; rfl; (exact fun _ hs => c_Question06V28 q hbq hs.sat hqg)) | (apply TL.callE (f := 46) [known.v] Tryd.call46; rfl; rfl; rfl; rfl; (exact fun _ hs => hbk ▸ c_Right28 known _ _ hs.sat hkg)) | (apply TL.callE (f := 85) [hints.v] Tryd.call85; rfl; rfl; rfl; rfl; (exact fun _ hs => hbh ▸ c_Hints28 hints _ _ hs.sat hhg)) | (apply TL.val; rfl; rfl; (apply V.build; rfl; rfl; rfl; rfl; rfl; rfl)) | (apply TL.x; rfl; rfl; (apply X.callO0 (f := 86) Tryd.call86; rfl; rfl; exact (fun _ hs => c_Follow28T hf hs.sat hkg hbk hqg.1 hqg.2)); intro g hg) | (apply TL.callE (f := 28) [known.v, strV e, intV q.typ] Tryd.call28; rfl; rfl; rfl; rfl; (exact fun _ hs => c_Known10V hkv hs.sat hkg)) | (apply TL.x; rfl; rfl; (apply X.callFE (f := 87) [known.v, hints.v, .agg (enc (⟨e, q.typ⟩ : Question)).toArray, .slice none 0 0] Tryd.call87; rfl; rfl; rfl; exact (fun _ hs => c_Need28 known hints hbk hh 8 ⟨e, q.typ⟩ (Slc.nil _) _ _ hs.sat hkg hhg Slc.nil_good rfl hen hqg.2)); intro pn hpn) | (apply TL.x; rfl; rfl; (apply X.storeTo 1 (enc pn.2); rfl; rfl; rfl; rfl; rfl; rfl; rfl; rfl; rfl; rfl); intro _ _) | (apply TL.val; rfl; rfl; (first | exact vpure | exact vread)) | (apply TL.x; rfl; rfl; (first | exact xgrow | exact xput); intro _ _) | (apply TL.guard; rfl; rfl; rfl; (with_reducible (first | exact Is.ndec | exact Is.dec | exact Is.not | ((fail_if_success exact Is.litT); (fail_if_success exact Is.litF); exact Is.base))); intro _; rotate_left; intro _; rotate_right)))
        all_goals (try contradiction)
        all_goals (try (exfalso; omega))
        exact N.ret2 rfl (by (exact rvx)) (by (exact rvx)) fun w hst => ⟨pn, hpn.1, rfl, hst.fresh⟩
      | some x =>
        have hfc : findC (known.els.map Signed.c) e q.typ = some x.c := by rw [findS_c, hfs]; rfl
        obtain ⟨i, hi, hki, hix⟩ := knownS_at hfs
        subst hix
        rw [hfc]
        simp only
        repeat (any_goals (first | refine T.seq ?_ | refine T.region ?_ | refine TL.nil ?_ | refine N.next ?_ | refine N.inBlock ?_ | refine N.exit_same ?_ | refine N.exit_then ?_ | refine N.ret_then ?_ | refine N.ret_block ?_ | (apply N.exit_other; rfl) | refine T.ret ?_ | refine T.skip ?_ | refine T.exit ?_ | refine T.block ?_ | (apply T.cond_true; rfl) | (apply T.cond_false; rfl) | (apply T.test; rfl; (with_reducible (first | exact Is.ndec | exact Is.dec | exact Is.not | ((fail_if_success exact Is.litT); (fail_if_success exact Is.litF); exact Is.base))); intro _; rotate_left; intro _; rotate_right) | (apply TL.skip; rfl; rfl; rfl) | (apply TL.skip_none; rfl; rfl) | (apply TL.callE (f := 42) [.agg (enc q).toArray] Tryd.call42; rfl; rfl; rfl; rfl; (exact fun _ hs => c_Question06V28 q hbq hs.sat hqg)) | (apply TL.callE (f := 46) [known.v] Tryd.call46; rfl; rfl; rfl; rfl; (exact fun _ hs => hbk ▸ c_Right28 known _ _ hs.sat hkg)) | (apply TL.callE (f := 85) [hints.v] Tryd.call85; rfl; rfl; rfl; rfl; (exact fun _ hs => hbh ▸ c_Hints28 hints _ _ hs.sat hhg)) | (apply TL.val; rfl; rfl; (apply V.build; rfl; rfl; rfl; rfl; rfl; rfl)) | (apply TL.x; rfl; rfl; (apply X.callO0 (f := 86) Tryd.call86; rfl; rfl; exact (fun _ hs => c_Follow28T hf hs.sat hkg hbk hqg.1 hqg.2)); rintro ⟨vg, got⟩ ⟨⟨hg1, hg2, hg3, hg4⟩, hg5⟩) | (apply TL.callE (f := 28) [known.v, strV e, intV q.typ] Tryd.call28; rfl; rfl; rfl; rfl; (exact fun _ hs => c_Known10V hki hs.sat hkg)) | (apply TL.x; rfl; rfl; (apply X.append1 1; rfl; rfl; rfl; rfl; rfl; rfl; rfl; rfl; rfl; exact List.Mem.head _; rfl; rfl; rfl; (refine Nat.le_trans (Nat.mul_le_mul_left _ (show _ ≤ 1000 by decide)) ?_; show (got.length + 1) * 1000 ≤ _; simp only at hg2; omega); (show got.length + 1 ≤ _; simp only at hg2; omega)); intro p2 _; apply TL.frzRowE 1 (got ++ [known.els[i]]); rfl; rfl; exact (encs_snoc got known.els[i]).symm; (rw [List.length_append]; rfl); (intro y hy; rcases List.mem_append.1 hy with hy | hy; exact hkg.els y (hg4 y hy); (rw [List.mem_singleton] at hy; rw [hy]; exact hkg.els _ (List.getElem_mem hi))); intro H5 s5 e5 e6 hg6 hle5; have hX : (⟨some ⟨p2.1, 0, none⟩, got.length + 1, p2.2, got ++ [known.els[i]]⟩ : Slc Signed).Good H5 := hg6.of_v e5 e6) | (apply TL.x; rfl; rfl; (apply X.storeTo 1 (enc (⟨2, [], Slc.nil _, ⟨[], 0⟩, ⟨some ⟨p2.1, 0, none⟩, got.length + 1, p2.2, got ++ [known.els[i]]⟩⟩ : Nxt)); rfl; rfl; rfl; rfl; rfl; rfl; rfl; rfl; rfl; rfl); intro _ _) | (apply TL.val; rfl; rfl; (first | exact vpure | exact vread)) | (apply TL.x; rfl; rfl; (first | exact xgrow | exact xput); intro _ _) | (apply TL.guard; rfl; rfl; rfl; (with_reducible (first | exact Is.ndec | exact Is.dec | exact Is.not | ((fail_if_success exact Is.litT); (fail_if_success exact Is.litF); exact Is.base))); intro _; rotate_left; intro _; rotate_right)))
        all_goals (try contradiction)
        all_goals (try (exfalso; omega))
        refine N.ret2 rfl (by (exact rvx)) (by (exact rvx)) fun w hst => ⟨(H5, ⟨2, [], Slc.nil _, ⟨[], 0⟩, ⟨some ⟨p2.1, 0, none⟩, got.length + 1, p2.2, got ++ [known.els[i]]⟩⟩), ⟨?_, show I64 2 by decide, show LenOk [] by decide, Slc.nil_good, ⟨show LenOk [] by decide, show I64 0 by decide⟩, hX⟩, rfl, hst.fresh⟩
        unfold Nxt.c
        simp only [List.map_append, hg1]
        rfl
theorem zone_first {K : List SignedC} {q : Question} (hq : q.typ = 2) : ∀ {m : List Bytes}, labsOK m = true → ((aboveL m).filter (asked K q [])).head? = some (((aboveL m).find? fun z => has K z 2).getD [46])
  | [], _ => by
    have har : asked K q [] [46] = true := by unfold asked; rfl
    show ([[46]].filter (asked K q [])).head? = some (([[46]].find? fun z => has K z 2).getD [46])
    rw [List.filter_cons, if_pos har]
    cases h : has K [46] 2 <;> simp [h]
  | x :: m, h => by
    have hr : glueC (x :: m) ≠ [46] := fun e => by have := (glue_root h).1 e; cases this
    have ha : asked K q [] (glueC (x :: m)) = has K (glueC (x :: m)) 2 := by
      unfold asked
      rw [decide_eq_false hr, hq]
      simp
    show ((glueC (x :: m) :: aboveL m).filter (asked K q [])).head? = some (((glueC (x :: m) :: aboveL m).find? fun z => has K z 2).getD [46])
    rw [List.filter_cons, ha]
    cases hb : has K (glueC (x :: m)) 2 with
    | true => rw [if_pos rfl, List.find?_cons]; simp only [hb]; rfl
    | false =>
      rw [if_neg (by simp), List.find?_cons]
      simp only [hb]
      exact zone_first hq (labs_tail h)
theorem zone_no {K : List SignedC} {s : Bytes} (h : ¬ (knownOK K = true ∧ nameOK s = true)) : zoneI K s = ([], 1) := by
  unfold zoneI
  rw [if_pos]
  simp only [Bool.not_eq_true', Bool.eq_false_iff, ne_eq, Bool.and_eq_true]
  exact h
theorem zone_yes {K : List SignedC} {s : Bytes} (h1 : knownOK K = true) (h2 : nameOK s = true) : zoneI K s = (((aboveC s).find? fun z => has K z 2).getD [46], 0) := by
  unfold zoneI
  rw [h1, h2]; rfl
theorem c_Zone28 (known : Slc Signed) (s : Bytes) (H : Hp) (w : World) (hs : Sat H w) (hkg : known.Good H) (hl : LenOk s) : Calls Tryd.prog 38 #[known.v, strV s] w (Ret w (.tuple #[strV (zoneI (known.els.map Signed.c) s).1, intV (zoneI (known.els.map Signed.c) s).2])) := by
  refine T.enter (vs := [known.v, strV s]) (H := H) Tryd.func38 rfl rfl rfl hs ?_
  obtain ⟨bn, hbn⟩ : ∃ x, nameOK s = x := ⟨_, rfl⟩
  obtain ⟨bk, hbk⟩ : ∃ x, knownOK (known.els.map Signed.c) = x := ⟨_, rfl⟩
  by_cases hgo : bk = true ∧ bn = true
  rotate_left
  · rw [zone_no (by rintro ⟨h1, h2⟩; exact hgo ⟨hbk.symm.trans h1, hbn.symm.trans h2⟩)]
    repeat (any_goals (first | refine T.seq ?_ | refine T.region ?_ | refine TL.nil ?_ | refine N.next ?_ | refine N.inBlock ?_ | refine N.exit_same ?_ | refine N.exit_then ?_ | refine N.ret_then ?_ | refine N.ret_block ?_ | (apply N.exit_other; rfl) | refine T.ret ?_ | refine T.skip ?_ | refine T.exit ?_ | refine T.block ?_ | (apply T.cond_true; rfl) | (apply T.cond_false; rfl) | (apply T.test; rfl; (with_reducible (first | exact Is.ndec | exact Is.dec | exact Is.not | ((fail_if_success exact Is.litT); (fail_if_success exact Is.litF); exact Is.base))); intro _; rotate_left; intro _; rotate_right) | (apply TL.skip; rfl; rfl; rfl) | (apply TL.skip_none; rfl; rfl) | (apply TL.callE (f := 41) [strV s] Tryd.call41; rfl; rfl; rfl; rfl; (exact fun _ hs => hbn ▸ c_nameValid01 s _ _ hs.sat hl)) | (apply TL.callE (f := 46) [known.v] Tryd.call46; rfl; rfl; rfl; rfl; (exact fun _ hs => hbk ▸ c_Right28 known _ _ hs.sat hkg)) | (exfalso; exact hgo ⟨by assumption, by assumption⟩) | (apply TL.val; rfl; rfl; (first | exact vpure | exact vread)) | (apply TL.x; rfl; rfl; (first | exact xgrow | exact xput); intro _ _) | (apply TL.guard; rfl; rfl; rfl; (with_reducible (first | exact Is.ndec | exact Is.dec | exact Is.not | ((fail_if_success exact Is.litT); (fail_if_success exact Is.litF); exact Is.base))); intro _; rotate_left; intro _; rotate_right)))
    all_goals first
      | exact N.ret_two rfl (by (exact rvx)) (by (exact rvx)) rfl
      | (exfalso; exact hgo ⟨by assumption, by assumption⟩)
  · obtain ⟨rfl, rfl⟩ := hgo
    rw [zone_yes hbk hbn]
    have hz := zone_first (K := known.els.map Signed.c) (q := ⟨s, 2⟩) rfl (parts_labs hbn).1
    repeat (any_goals (first | refine T.seq ?_ | refine T.region ?_ | refine TL.nil ?_ | refine N.next ?_ | refine N.inBlock ?_ | refine N.exit_same ?_ | refine N.exit_then ?_ | refine N.ret_then ?_ | refine N.ret_block ?_ | (apply N.exit_other; rfl) | refine T.ret ?_ | refine T.skip ?_ | refine T.exit ?_ | refine T.block ?_ | (apply T.cond_true; rfl) | (apply T.cond_false; rfl) | (apply T.test; rfl; (with_reducible (first | exact Is.ndec | exact Is.dec | exact Is.not | ((fail_if_success exact Is.litT); (fail_if_success exact Is.litF); exact Is.base))); intro _; rotate_left; intro _; rotate_right) | (apply TL.skip; rfl; rfl; rfl) | (apply TL.skip_none; rfl; rfl) | (apply TL.callE (f := 41) [strV s] Tryd.call41; rfl; rfl; rfl; rfl; (exact fun _ hs => hbn ▸ c_nameValid01 s _ _ hs.sat hl)) | (apply TL.callE (f := 46) [known.v] Tryd.call46; rfl; rfl; rfl; rfl; (exact fun _ hs => hbk ▸ c_Right28 known _ _ hs.sat hkg)) | (apply TL.val; rfl; rfl; (apply V.build; rfl; rfl; rfl; rfl; rfl; rfl)) | (apply TL.x; rfl; rfl; (apply X.callFE (f := 89) [known.v, .agg (enc (⟨s, 2⟩ : Question)).toArray] Tryd.call89; rfl; rfl; rfl; exact (fun _ hs => c_Zones28 known ⟨s, 2⟩ _ _ hs.sat hkg hbn (show I64 2 by decide))); intro p hp; have hpg := hp.1.2; have hpl := hpg.len; have h0 : p.2.els.head? = some (((aboveC s).find? fun z => has (known.els.map Signed.c) z 2).getD [46]) := (by rw [hp.1.1]; exact hz); have hpos : 0 < p.2.els.length := (by cases he : p.2.els with | nil => (rw [he] at h0; cases h0) | cons _ _ => simp); have hpos2 : 0 < p.2.len := (by omega); have hat := hpg.at_ hpos2) | (apply TL.val; rfl; rfl; (apply V.elem (j := 0); rfl; rfl; rfl; rfl; rfl; rfl; exact hpos2; exact hat)) | (apply TL.val; rfl; rfl; (first | exact vpure | exact vread)) | (apply TL.x; rfl; rfl; (first | exact xgrow | exact xput); intro _ _) | (apply TL.guard; rfl; rfl; rfl; (with_reducible (first | exact Is.ndec | exact Is.dec | exact Is.not | ((fail_if_success exact Is.litT); (fail_if_success exact Is.litF); exact Is.base))); intro _; rotate_left; intro _; rotate_right)))
    all_goals (try contradiction)
    refine N.ret_two rfl (by (exact rvx)) (by (exact rvx)) ?_
    rw [List.head?_eq_getElem?, List.getElem?_eq_getElem hpos] at h0
    exact congrArg (fun z => Value.tuple #[strV z, intV 0]) (Option.some.inj h0)
def zoLL2 (rd : LoopState → Option Code → Loop) (b ba b4 b5 b6 mb : Nat) (x : Bytes) : Option Bytes → List Loc
  | none => [.any (b + 1) (.loop (rd .ready none)), .any b (.deferred (some [])), .blk ba 9 [strV x], .blk b6 63 [.map (some mb)], .blk b5 31 [intV 0], .blk b4 9 [strV []]]
  | some z => [.any (b + 1) (.loop (rd .done (some .ret))), .any b (.deferred (some [])), .blk ba 9 [strV x], .blk b6 63 [.map (some mb)], .blk b5 31 [intV 0], .blk b4 9 [strV z]]
set_option maxHeartbeats 4000000 in
theorem c_iZone (known : Slc Signed) (s : Bytes) (H : Hp) (w : World) (hs : Sat H w) (hR : Rules H) (hkg : known.Good H) (hl : LenOk s) : Calls Tryd.prog 37 #[known.v, strV s] w (Ret w (.tuple #[strV (zoneI (known.els.map Signed.c) s).1, intV (zoneI (known.els.map Signed.c) s).2])) := by
  refine T.enterM (vs := [known.v, strV s]) (H := H) Tryd.func37 rfl rfl rfl hs ?_
  cases hok : knownOK (known.els.map Signed.c) with
  | false =>
    rw [zone_no (by rintro ⟨h1, _⟩; rw [hok] at h1; cases h1)]
    repeat (any_goals (first | refine T.seq ?_ | refine T.region ?_ | refine TL.nil ?_ | refine N.next ?_ | refine N.inBlock ?_ | refine N.exit_same ?_ | refine N.exit_then ?_ | refine N.ret_then ?_ | refine N.ret_block ?_ | (apply N.exit_other; rfl) | refine T.ret ?_ | refine T.skip ?_ | refine T.exit ?_ | refine T.block ?_ | (apply T.cond_true; rfl) | (apply T.cond_false; rfl) | (apply T.test; rfl; (with_reducible (first | exact Is.ndec | exact Is.dec | exact Is.not | ((fail_if_success exact Is.litT); (fail_if_success exact Is.litF); exact Is.base))); intro _; rotate_left; intro _; rotate_right) | (apply TL.skip; rfl; rfl; rfl) | (apply TL.skip_none; rfl; rfl) | (apply TL.callE (f := 79) [known.v] Tryd.call79; rfl; rfl; rfl; rfl; (exact fun _ hs => c_gatherF known _ _ hs.sat hR hkg hok)) | (apply TL.x; rfl; rfl; (apply X.storeTo 0 [.map none]; rfl; rfl; rfl; rfl; rfl; rfl; rfl; rfl; rfl; rfl); intro _ _) | (apply TL.x; rfl; rfl; (apply X.storeTo 2 [strV []]; rfl; rfl; rfl; rfl; rfl; rfl; rfl; rfl; rfl; rfl); intro _ _) | (apply TL.x; rfl; rfl; (apply X.storeTo 1 [intV 1]; rfl; rfl; rfl; rfl; rfl; rfl; rfl; rfl; rfl; rfl); intro _ _) | (apply TL.val; rfl; rfl; (first | exact vpure | exact vread)) | (apply TL.x; rfl; rfl; (first | exact xgrow | exact xput); intro _ _) | (apply TL.guard; rfl; rfl; rfl; (with_reducible (first | exact Is.ndec | exact Is.dec | exact Is.not | ((fail_if_success exact Is.litT); (fail_if_success exact Is.litF); exact Is.base))); intro _; rotate_left; intro _; rotate_right)))
    all_goals (try contradiction)
    exact N.bare (N.ret_two rfl (by (exact rvx)) (by (exact rvx)) rfl)
  | true =>
    cases hn : nameOK s with
    | false =>
      rw [zone_no (by rintro ⟨_, h1⟩; rw [hn] at h1; cases h1)]
      repeat (any_goals (first | refine T.seq ?_ | refine T.region ?_ | refine TL.nil ?_ | refine N.next ?_ | refine N.inBlock ?_ | refine N.exit_same ?_ | refine N.exit_then ?_ | refine N.ret_then ?_ | refine N.ret_block ?_ | (apply N.exit_other; rfl) | refine T.ret ?_ | refine T.skip ?_ | refine T.exit ?_ | refine T.block ?_ | (apply T.cond_true; rfl) | (apply T.cond_false; rfl) | (apply T.test; rfl; (with_reducible (first | exact Is.ndec | exact Is.dec | exact Is.not | ((fail_if_success exact Is.litT); (fail_if_success exact Is.litF); exact Is.base))); intro _; rotate_left; intro _; rotate_right) | (apply TL.skip; rfl; rfl; rfl) | (apply TL.skip_none; rfl; rfl) | (apply TL.x; rfl; rfl; (apply X.callFE (f := 79) [known.v] Tryd.call79; rfl; rfl; rfl; exact (fun _ hs => c_gatherT known _ _ hs.sat hR hkg hok)); intro p hp) | (apply TL.x; rfl; rfl; (apply X.storeTo 0 [.map (some p.2)]; rfl; rfl; rfl; rfl; rfl; rfl; rfl; rfl; rfl; rfl); intro _ _) | (apply TL.callE (f := 49) [strV s] Tryd.call49; rfl; rfl; rfl; rfl; (exact fun _ hs => hn ▸ c_nameValid s _ _ hs.sat hl)) | (apply TL.x; rfl; rfl; (apply X.storeTo 2 [strV []]; rfl; rfl; rfl; rfl; rfl; rfl; rfl; rfl; rfl; rfl); intro _ _) | (apply TL.x; rfl; rfl; (apply X.storeTo 1 [intV 1]; rfl; rfl; rfl; rfl; rfl; rfl; rfl; rfl; rfl; rfl); intro _ _) | (apply TL.val; rfl; rfl; (first | exact vpure | exact vread)) | (apply TL.x; rfl; rfl; (first | exact xgrow | exact xput); intro _ _) | (apply TL.guard; rfl; rfl; rfl; (with_reducible (first | exact Is.ndec | exact Is.dec | exact Is.not | ((fail_if_success exact Is.litT); (fail_if_success exact Is.litF); exact Is.base))); intro _; rotate_left; intro _; rotate_right)))
      all_goals (try contradiction)
      exact N.bare (N.ret_two rfl (by (exact rvx)) (by (exact rvx)) rfl)
    | true =>
      rw [zone_yes hok hn]
      obtain ⟨want, hwant⟩ : ∃ x, (aboveC s).find? (fun z => has (known.els.map Signed.c) z 2) = x := ⟨_, rfl⟩
      rw [hwant]
      repeat (any_goals (first | refine T.seq ?_ | refine T.region ?_ | refine TL.nil ?_ | refine N.next ?_ | refine N.inBlock ?_ | refine N.exit_same ?_ | refine N.exit_then ?_ | refine N.ret_then ?_ | refine N.ret_block ?_ | (apply N.exit_other; rfl) | refine T.ret ?_ | refine T.skip ?_ | refine T.exit ?_ | refine T.block ?_ | (apply T.cond_true; rfl) | (apply T.cond_false; rfl) | (apply T.test; rfl; (with_reducible (first | exact Is.ndec | exact Is.dec | exact Is.not | ((fail_if_success exact Is.litT); (fail_if_success exact Is.litF); exact Is.base))); intro _; rotate_left; intro _; rotate_right) | (apply TL.skip; rfl; rfl; rfl) | (apply TL.skip_none; rfl; rfl) | (apply TL.x; rfl; rfl; (apply X.callFE (f := 79) [known.v] Tryd.call79; rfl; rfl; rfl; exact (fun _ hs => c_gatherT known _ _ hs.sat hR hkg hok)); intro p hp) | (apply TL.x; rfl; rfl; (apply X.storeTo 0 [.map (some p.2)]; rfl; rfl; rfl; rfl; rfl; rfl; rfl; rfl; rfl; rfl); intro _ _) | (apply TL.callE (f := 49) [strV s] Tryd.call49; rfl; rfl; rfl; rfl; (exact fun _ hs => hn ▸ c_nameValid s _ _ hs.sat hl)) | (apply TL.x; rfl; rfl; (apply X.callO0 (f := 88) Tryd.call88; rfl; rfl; (exact fun _ hs => c_above s _ _ hs.sat)); intro _ _) | (apply TL.val; rfl; rfl; (first | exact vpure | exact vread)) | (apply TL.x; rfl; rfl; (first | exact xgrow | exact xput); intro _ _) | (apply TL.guard; rfl; rfl; rfl; (with_reducible (first | exact Is.ndec | exact Is.dec | exact Is.not | ((fail_if_success exact Is.litT); (fail_if_success exact Is.litF); exact Is.base))); intro _; rotate_left; intro _; rotate_right)))
      all_goals (try contradiction)
      rename_i b4 _ b5 _ b6 _ _ _ ba _
      obtain ⟨l, hml, hget⟩ := hp.1.obj
      refine T.rangeFunc (G := Option Bytes × Bytes) (fun g => if g.1.isSome = true then .ret else .normal) (fun _ => p.1) (fun g => [.blk ba 9 [strV g.2], .blk b6 63 [.map (some p.2)], .blk b5 31 [intV 0], .blk b4 9 [strV (g.1.getD [])]]) (fun g => g.1 = want) rfl Tryd.call123 (fun g _ => by obtain ⟨_ | _, _⟩ := g <;> trivial) ?_ ?_
      · intro fn a b hf w1 hs1
        refine (c_above1 s hn ba (G := Option Bytes) (fun k g => g = none ∧ ∀ j (hj : j < (aboveC s).length), j < k → has (known.els.map Signed.c) (aboveC s)[j] 2 = false) (fun g => ∃ z, g = some z ∧ want = some z) (fun _ => p.1) (fun x g => zoLL2 (recd fn a.tmps _ _ _ b) b ba b4 b5 b6 p.2 x g) 2 (fun x g => by cases g <;> rfl) (fun x y g => by cases g <;> rfl) ?_ none ⟨rfl, fun j _ h => by omega⟩ hs1).mono ?_
        · rintro k g ⟨rfl, hrel⟩ hk x w2 hs2
          obtain ⟨z, hz⟩ : ∃ z, (aboveC s)[k] = z := ⟨_, rfl⟩
          rw [hz]
          obtain ⟨hv, hhv⟩ : ∃ x, has (known.els.map Signed.c) z 2 = x := ⟨_, rfl⟩
          obtain ⟨sv, hsv⟩ : ∃ x, getS known.els z 2 = x := ⟨_, rfl⟩
          have h1 : (aGet (⟨z, 2⟩ : Question) l).getD (.agg (enc signedNil).toArray) = .agg (enc sv).toArray := by
            rw [hget ⟨z, 2⟩, ← hsv]
            unfold getS
            show (Option.map _ (findS known.els z 2)).getD _ = _
            cases findS known.els z 2 <;> rfl
          have h2 : (aGet (⟨z, 2⟩ : Question) l).isSome = hv := by
            rw [hget ⟨z, 2⟩, ← hhv, has_S]
            show (Option.map _ (findS known.els z 2)).isSome = _
            cases findS known.els z 2 <;> rfl
          refine yieldAt_of (i := 0) hs2 rfl rfl _ (Fr.round1 hf rfl) (env₁ := [(4, .pointer (some ⟨b4, 0, none⟩)), (5, .pointer (some ⟨b5, 0, none⟩)), (6, .pointer (some ⟨b6, 0, none⟩)), (8, strV z)]) ?_ ?_
          · repeat (any_goals (first | refine T.seq ?_ | refine T.region ?_ | refine TL.nil ?_ | refine N.next ?_ | refine N.inBlock ?_ | refine N.exit_same ?_ | refine N.exit_then ?_ | refine N.ret_then ?_ | refine N.ret_block ?_ | (apply N.exit_other; rfl) | refine T.ret ?_ | refine T.skip ?_ | refine T.exit ?_ | refine T.block ?_ | (apply T.cond_true; rfl) | (apply T.cond_false; rfl) | (apply T.test; rfl; (with_reducible (first | exact Is.ndec | exact Is.dec | exact Is.not | ((fail_if_success exact Is.litT); (fail_if_success exact Is.litF); exact Is.base))); intro _; rotate_left; intro _; rotate_right) | (apply TL.skip; rfl; rfl; rfl) | (apply TL.skip_none; rfl; rfl) | (apply TL.val; rfl; rfl; (first | exact vpure | exact vread)) | (apply TL.x; rfl; rfl; (first | exact xgrow | exact xput); intro _ _) | (apply TL.guard; rfl; rfl; rfl; (with_reducible (first | exact Is.ndec | exact Is.dec | exact Is.not | ((fail_if_success exact Is.litT); (fail_if_success exact Is.litF); exact Is.base))); intro _; rotate_left; intro _; rotate_right)))
            exact N.both (by (repeat (first | exact True.intro | refine ⟨rfl, ?_⟩ | refine Sub.int rfl (by omega) ?_)))
          · simp only [zoLL2, List.set_cons_zero]
            cases hv with
            | true =>
              repeat (any_goals (first | refine T.seq ?_ | refine T.region ?_ | refine TL.nil ?_ | refine N.next ?_ | refine N.inBlock ?_ | refine N.exit_same ?_ | refine N.exit_then ?_ | refine N.ret_then ?_ | refine N.ret_block ?_ | (apply N.exit_other; rfl) | refine T.ret ?_ | refine T.skip ?_ | refine T.exit ?_ | refine T.block ?_ | (apply T.cond_true; rfl) | (apply T.cond_false; rfl) | (apply T.test; rfl; (with_reducible (first | exact Is.ndec | exact Is.dec | exact Is.not | ((fail_if_success exact Is.litT); (fail_if_success exact Is.litF); exact Is.base))); intro _; rotate_left; intro _; rotate_right) | (apply TL.skip; rfl; rfl; rfl) | (apply TL.skip_none; rfl; rfl) | (apply TL.val; rfl; rfl; (apply V.build; rfl; rfl; rfl; rfl; rfl; rfl)) | (apply TL.val; rfl; rfl; (apply V.mlookupOkH (⟨z, 2⟩ : Question) (l := l); rfl; rfl; rfl; exact key_q; rfl; rfl; exact hml; exact h1; exact h2)) | (apply TL.x; rfl; rfl; (apply X.storeTo 0 (enc sv); rfl; rfl; rfl; rfl; rfl; rfl; rfl; rfl; rfl; rfl); intro _ _) | (apply TL.x; rfl; rfl; (apply X.storeTo 6 [strV z]; rfl; rfl; rfl; rfl; rfl; rfl; rfl; rfl; rfl; rfl); intro _ _) | (apply TL.x; rfl; rfl; (apply X.storeTo 5 [intV 0]; rfl; rfl; rfl; rfl; rfl; rfl; rfl; rfl; rfl; rfl); intro _ _) | (apply TL.val; rfl; rfl; (first | exact vpure | exact vread)) | (apply TL.x; rfl; rfl; (first | exact xgrow | exact xput); intro _ _) | (apply TL.guard; rfl; rfl; rfl; (with_reducible (first | exact Is.ndec | exact Is.dec | exact Is.not | ((fail_if_success exact Is.litT); (fail_if_success exact Is.litF); exact Is.base))); intro _; rotate_left; intro _; rotate_right)))
              all_goals (try contradiction)
              refine N.round_out (i := 1) (e := .ret) trivial rfl fun w hs => ⟨false, some z, rfl, ?_, hs.sub (List.Sublist.cons _ (List.Sublist.refl _))⟩
              rw [if_neg (by simp)]
              refine ⟨z, rfl, ?_⟩
              rw [← hwant, List.find?_eq_some_iff_getElem]
              exact ⟨hhv, k, hk, hz, fun j hj => by rw [hrel j (by omega) hj]; rfl⟩
            | false =>
              repeat (any_goals (first | refine T.seq ?_ | refine T.region ?_ | refine TL.nil ?_ | refine N.next ?_ | refine N.inBlock ?_ | refine N.exit_same ?_ | refine N.exit_then ?_ | refine N.ret_then ?_ | refine N.ret_block ?_ | (apply N.exit_other; rfl) | refine T.ret ?_ | refine T.skip ?_ | refine T.exit ?_ | refine T.block ?_ | (apply T.cond_true; rfl) | (apply T.cond_false; rfl) | (apply T.test; rfl; (with_reducible (first | exact Is.ndec | exact Is.dec | exact Is.not | ((fail_if_success exact Is.litT); (fail_if_success exact Is.litF); exact Is.base))); intro _; rotate_left; intro _; rotate_right) | (apply TL.skip; rfl; rfl; rfl) | (apply TL.skip_none; rfl; rfl) | (apply TL.val; rfl; rfl; (apply V.build; rfl; rfl; rfl; rfl; rfl; rfl)) | (apply TL.val; rfl; rfl; (apply V.mlookupOkH (⟨z, 2⟩ : Question) (l := l); rfl; rfl; rfl; exact key_q; rfl; rfl; exact hml; exact h1; exact h2)) | (apply TL.x; rfl; rfl; (apply X.storeTo 0 (enc sv); rfl; rfl; rfl; rfl; rfl; rfl; rfl; rfl; rfl; rfl); intro _ _) | (apply TL.val; rfl; rfl; (first | exact vpure | exact vread)) | (apply TL.x; rfl; rfl; (first | exact xgrow | exact xput); intro _ _) | (apply TL.guard; rfl; rfl; rfl; (with_reducible (first | exact Is.ndec | exact Is.dec | exact Is.not | ((fail_if_success exact Is.litT); (fail_if_success exact Is.litF); exact Is.base))); intro _; rotate_left; intro _; rotate_right)))
              all_goals (try contradiction)
              refine N.round_out (i := 1) (e := .normal) trivial rfl fun w hs => ⟨true, none, rfl, ?_, hs.sub (List.Sublist.cons _ (List.Sublist.refl _))⟩
              rw [if_pos rfl]
              refine ⟨rfl, fun j hj hjk => ?_⟩
              by_cases e : j = k
              · subst e; rw [hz]; exact hhv
              · exact hrel j hj (by omega)
        · rintro e w2 ⟨v, x, g, rfl, (⟨rfl, hall⟩ | ⟨z, rfl, hz⟩), hs2⟩
          · refine ⟨(none, x), v, .ready, rfl, ?_, by simp, hs2⟩
            rw [← hwant]
            refine (List.find?_eq_none.2 fun y hy => ?_).symm
            obtain ⟨j, hj, rfl⟩ := List.mem_iff_getElem.1 hy
            rw [hall j hj hj]; simp
          · exact ⟨(some z, x), v, .done, rfl, hz.symm, by simp, hs2⟩
      · rintro b ⟨o, x⟩ hgot
        simp only at hgot
        subst hgot
        cases o with
        | none =>
          show N _ _ _ _ .normal _ _ _
          simp only [Option.getD_none]
          repeat (any_goals (first | refine T.seq ?_ | refine T.region ?_ | refine TL.nil ?_ | refine N.next ?_ | refine N.inBlock ?_ | refine N.exit_same ?_ | refine N.exit_then ?_ | refine N.ret_then ?_ | refine N.ret_block ?_ | (apply N.exit_other; rfl) | refine T.ret ?_ | refine T.skip ?_ | refine T.exit ?_ | refine T.block ?_ | (apply T.cond_true; rfl) | (apply T.cond_false; rfl) | (apply T.test; rfl; (with_reducible (first | exact Is.ndec | exact Is.dec | exact Is.not | ((fail_if_success exact Is.litT); (fail_if_success exact Is.litF); exact Is.base))); intro _; rotate_left; intro _; rotate_right) | (apply TL.skip; rfl; rfl; rfl) | (apply TL.skip_none; rfl; rfl) | (apply TL.x; rfl; rfl; (apply X.storeTo 4 [strV [46]]; rfl; rfl; rfl; rfl; rfl; rfl; rfl; rfl; rfl; rfl); intro _ _) | (apply TL.x; rfl; rfl; (apply X.storeTo 3 [intV 0]; rfl; rfl; rfl; rfl; rfl; rfl; rfl; rfl; rfl; rfl); intro _ _) | (apply TL.val; rfl; rfl; (first | exact vpure | exact vread)) | (apply TL.x; rfl; rfl; (first | exact xgrow | exact xput); intro _ _) | (apply TL.guard; rfl; rfl; rfl; (with_reducible (first | exact Is.ndec | exact Is.dec | exact Is.not | ((fail_if_success exact Is.litT); (fail_if_success exact Is.litF); exact Is.base))); intro _; rotate_left; intro _; rotate_right)))
          exact N.marked (i := 0) rfl (N.ret_two rfl (by (exact rvx)) (by (exact rvx)) rfl)
        | some z =>
          show N _ _ _ _ .ret _ _ _
          simp only [Option.getD_some]
          repeat (any_goals (first | refine T.seq ?_ | refine T.region ?_ | refine TL.nil ?_ | refine N.next ?_ | refine N.inBlock ?_ | refine N.exit_same ?_ | refine N.exit_then ?_ | refine N.ret_then ?_ | refine N.ret_block ?_ | (apply N.exit_other; rfl) | refine T.ret ?_ | refine T.skip ?_ | refine T.exit ?_ | refine T.block ?_ | (apply T.cond_true; rfl) | (apply T.cond_false; rfl) | (apply T.test; rfl; (with_reducible (first | exact Is.ndec | exact Is.dec | exact Is.not | ((fail_if_success exact Is.litT); (fail_if_success exact Is.litF); exact Is.base))); intro _; rotate_left; intro _; rotate_right) | (apply TL.skip; rfl; rfl; rfl) | (apply TL.skip_none; rfl; rfl) | (apply TL.val; rfl; rfl; (first | exact vpure | exact vread)) | (apply TL.x; rfl; rfl; (first | exact xgrow | exact xput); intro _ _) | (apply TL.guard; rfl; rfl; rfl; (with_reducible (first | exact Is.ndec | exact Is.dec | exact Is.not | ((fail_if_success exact Is.litT); (fail_if_success exact Is.litF); exact Is.base))); intro _; rotate_left; intro _; rotate_right)))
          exact N.marked (i := 0) rfl (N.ret_two rfl (by (exact rvx)) (by (exact rvx)) rfl)
theorem nxt_eq {a b : Nxt} : a.c = b.c ↔ (a.kind = b.kind ∧ a.zone = b.zone ∧ a.addrs.els = b.addrs.els ∧ a.q = b.q ∧ a.sets.els.map Signed.c = b.sets.els.map Signed.c) := by unfold Nxt.c; simp
set_option maxHeartbeats 4000000 in
theorem c_SameN (a b : Nxt) (H : Hp) (w : World) (hs : Sat H w) (ha : Enc.good H a) (hb : Enc.good H b) : Calls Tryd.prog 39 #[.agg (enc a).toArray, .agg (enc b).toArray] w (Ret w (.bool (decide (a.c = b.c)))) := by
  obtain ⟨a1, a2, a3, a4, a5⟩ := ha
  obtain ⟨b1, b2, b3, b4, b5⟩ := hb
  have la := a3.len
  have lb := b3.len
  have limb := b3.lim
  refine T.enter (vs := [.agg (enc a).toArray, .agg (enc b).toArray]) (H := H) Tryd.func39 rfl rfl rfl hs ?_
  obtain ⟨sv, hsv⟩ : ∃ x, decide (a.sets.els.map Signed.c = b.sets.els.map Signed.c) = x := ⟨_, rfl⟩
  repeat (any_goals (first | refine T.seq ?_ | refine T.region ?_ | (apply T.regionD wide; rfl) | refine TL.nil ?_ | refine N.next ?_ | refine N.inBlock ?_ | refine N.exit_same ?_ | refine N.exit_then ?_ | refine N.ret_then ?_ | refine N.ret_block ?_ | (apply N.exit_other; rfl) | refine T.ret ?_ | refine T.skip ?_ | refine T.exit ?_ | refine T.block ?_ | (apply T.cond_true; rfl) | (apply T.cond_false; rfl) | (apply T.test; rfl; (with_reducible (first | exact Is.ndec | exact Is.dec | exact Is.not | ((fail_if_success exact Is.litT); (fail_if_success exact Is.litF); exact Is.base))); intro _; rotate_left; intro _; rotate_right) | (apply TL.skip; rfl; rfl; rfl) | (apply TL.skip_none; rfl; rfl) | (apply GT.skip; rfl; rfl; rfl; decide +kernel) | (apply TL.callE (f := 90) [a.sets.v, b.sets.v] Tryd.call90; rfl; rfl; rfl; rfl; (exact fun _ hs => hsv ▸ c_SameList a.sets b.sets _ _ hs.sat a5 b5)) | (apply GT.callE (f := 90) [a.sets.v, b.sets.v] Tryd.call90; rfl; rfl; rfl; rfl; rfl; rfl; (exact fun _ hs => hsv ▸ c_SameList a.sets b.sets _ _ hs.sat a5 b5); decide +kernel) | (apply TL.val; rfl; rfl; (apply V.aneq; rfl; rfl; exact Tryd.eqGuardType30; exact fun w => eq_Question a.q b.q w)) | (apply GT.pure; rfl; rfl; rfl; rfl; (apply V.aneq; rfl; rfl; exact Tryd.eqGuardType30; exact fun w => eq_Question a.q b.q w); decide +kernel) | (apply GT.read; rfl; rfl; rfl; rfl; (apply V.aneq; rfl; rfl; exact Tryd.eqGuardType30; exact fun w => eq_Question a.q b.q w); decide +kernel) | (apply TL.val; rfl; rfl; (first | exact vpure | exact vread)) | (apply GT.pure; rfl; rfl; rfl; rfl; (first | exact vpure); decide +kernel) | (apply GT.read; rfl; rfl; rfl; rfl; (first | exact vpure | exact vread); decide +kernel) | (apply GT.done; decide +kernel; apply N.ofQ) | (apply GT.adv; rfl) | (apply TL.x; rfl; rfl; (first | exact xgrow | exact xput); intro _ _) | (apply GS.grow; rfl; rfl; (first | exact xgrow); intro _ _) | (apply GS.eff; rfl; decide +kernel; rfl; (first | exact xput); intro _ _) | (apply TL.guard; rfl; rfl; rfl; (with_reducible (first | exact Is.ndec | exact Is.dec | exact Is.not | ((fail_if_success exact Is.litT); (fail_if_success exact Is.litF); exact Is.base))); intro _; rotate_left; intro _; rotate_right) | (apply GT.guard; rfl; rfl; rfl; rfl; (with_reducible (first | exact Is.ndec | exact Is.dec | exact Is.not | ((fail_if_success exact Is.litT); (fail_if_success exact Is.litF); exact Is.base))); intro _; rotate_left; intro _; rotate_right) | (apply GT.fork1; decide +kernel) | (apply GT.fork2 1; decide +kernel) | (apply GT.fork2 2; decide +kernel) | (apply GT.fork2 3; decide +kernel) | (apply GT.fork2 4; decide +kernel) | (apply GT.fork2 5; decide +kernel) | (apply GT.fork2 6; decide +kernel) | (apply GT.fork2 7; decide +kernel) | (apply GT.fork2 8; decide +kernel) | (apply GT.fork2 9; decide +kernel) | (apply GT.fork2 10; decide +kernel) | (apply GT.fork2 11; decide +kernel) | (apply GT.fork2 12; decide +kernel) | (apply GT.fork2 13; decide +kernel) | (apply GT.fork2 14; decide +kernel) | (apply GT.fork2 15; decide +kernel) | (apply GT.fork2 16; decide +kernel) | (apply GT.fork2 17; decide +kernel) | (apply GT.fork2 18; decide +kernel) | (apply GT.fork2 19; decide +kernel) | (apply GT.fork2 20; decide +kernel) | (apply GT.fork2 21; decide +kernel) | (apply GT.fork2 22; decide +kernel) | (apply GT.fork2 23; decide +kernel)))
  all_goals (try (first | (apply N.ret_bool; rfl; (exact rvx)) | (apply N.ret_int; rfl; (exact rvx)) | (apply N.ret_val; rfl; (exact rvx))))
  all_goals first
    | (refine (decide_eq_false fun h => ?_).symm
       obtain ⟨e1, e2, e3, e4, e5⟩ := nxt_eq.1 h
       have e6 := congrArg List.length e3
       first
         | contradiction
         | omega
         | (rw [decide_eq_true e5] at hsv; rw [← hsv] at *; contradiction))
    | skip
  rename_i b2 _ b3 _ h1 h2 h3 h4 h5
  refine T.loop (G := Nat) (fun k => [(2, .pointer (some ⟨b2, 0, none⟩)), (3, .pointer (some ⟨b3, 0, none⟩)), (6, intV k)]) (fun _ => H) (fun _ => [.blk b3 70 (enc b), .blk b2 70 (enc a)]) (fun k => k ≤ a.addrs.len ∧ ∀ j (h : j < a.addrs.els.length) (h' : j < b.addrs.els.length), j < k → a.addrs.els[j] = b.addrs.els[j]) (fun k => a.addrs.len - k) 0 ⟨Nat.zero_le _, fun j _ _ h => by omega⟩ (by (repeat (first | exact True.intro | refine ⟨rfl, ?_⟩ | refine Sub.int rfl (by omega) ?_))) rfl (List.Sublist.refl _) ?_
  rintro k ⟨hk, hrel⟩
  by_cases hlt : k < a.addrs.len
  · have hka : k < a.addrs.els.length := by omega
    have hkb : k < b.addrs.els.length := by omega
    repeat (any_goals (first | refine T.seq ?_ | refine T.region ?_ | (apply T.regionD wide; rfl) | refine TL.nil ?_ | refine N.next ?_ | refine N.inBlock ?_ | refine N.exit_same ?_ | refine N.exit_then ?_ | refine N.ret_then ?_ | refine N.ret_block ?_ | (apply N.exit_other; rfl) | refine T.ret ?_ | refine T.skip ?_ | refine T.exit ?_ | refine T.block ?_ | (apply T.cond_true; rfl) | (apply T.cond_false; rfl) | (apply T.test; rfl; (with_reducible (first | exact Is.ndec | exact Is.dec | exact Is.not | ((fail_if_success exact Is.litT); (fail_if_success exact Is.litF); exact Is.base))); intro _; rotate_left; intro _; rotate_right) | (apply TL.skip; rfl; rfl; rfl) | (apply TL.skip_none; rfl; rfl) | (apply GT.skip; rfl; rfl; rfl; decide +kernel) | (apply TL.val; rfl; rfl; (first | exact vpure | exact vread)) | (apply GT.pure; rfl; rfl; rfl; rfl; (first | exact vpure); decide +kernel) | (apply GT.read; rfl; rfl; rfl; rfl; (first | exact vpure | exact vread); decide +kernel) | (apply GT.done; decide +kernel; apply N.ofQ) | (apply GT.adv; rfl) | (apply TL.x; rfl; rfl; (first | exact xgrow | exact xput); intro _ _) | (apply GS.grow; rfl; rfl; (first | exact xgrow); intro _ _) | (apply GS.eff; rfl; decide +kernel; rfl; (first | exact xput); intro _ _) | (apply GT.pureAt 1; rfl; rfl; rfl; rfl; (first | exact vpure); decide +kernel) | (apply GT.readAt 1; rfl; rfl; rfl; rfl; (first | exact vpure | exact vread); decide +kernel) | (apply GT.pureAt 2; rfl; rfl; rfl; rfl; (first | exact vpure); decide +kernel) | (apply GT.readAt 2; rfl; rfl; rfl; rfl; (first | exact vpure | exact vread); decide +kernel) | (apply GT.pureAt 3; rfl; rfl; rfl; rfl; (first | exact vpure); decide +kernel) | (apply GT.readAt 3; rfl; rfl; rfl; rfl; (first | exact vpure | exact vread); decide +kernel) | (apply GT.pureAt 4; rfl; rfl; rfl; rfl; (first | exact vpure); decide +kernel) | (apply GT.readAt 4; rfl; rfl; rfl; rfl; (first | exact vpure | exact vread); decide +kernel) | (apply GT.pureAt 5; rfl; rfl; rfl; rfl; (first | exact vpure); decide +kernel) | (apply GT.readAt 5; rfl; rfl; rfl; rfl; (first | exact vpure | exact vread); decide +kernel) | (apply GT.pureAt 6; rfl; rfl; rfl; rfl; (first | exact vpure); decide +kernel) | (apply GT.readAt 6; rfl; rfl; rfl; rfl; (first | exact vpure | exact vread); decide +kernel) | (apply GT.pureAt 7; rfl; rfl; rfl; rfl; (first | exact vpure); decide +kernel) | (apply GT.readAt 7; rfl; rfl; rfl; rfl; (first | exact vpure | exact vread); decide +kernel) | (apply GT.pureAt 8; rfl; rfl; rfl; rfl; (first | exact vpure); decide +kernel) | (apply GT.readAt 8; rfl; rfl; rfl; rfl; (first | exact vpure | exact vread); decide +kernel) | (apply GT.pureAt 9; rfl; rfl; rfl; rfl; (first | exact vpure); decide +kernel) | (apply GT.readAt 9; rfl; rfl; rfl; rfl; (first | exact vpure | exact vread); decide +kernel) | (apply GT.pureAt 10; rfl; rfl; rfl; rfl; (first | exact vpure); decide +kernel) | (apply GT.readAt 10; rfl; rfl; rfl; rfl; (first | exact vpure | exact vread); decide +kernel) | (apply TL.guard; rfl; rfl; rfl; (with_reducible (first | exact Is.ndec | exact Is.dec | exact Is.not | ((fail_if_success exact Is.litT); (fail_if_success exact Is.litF); exact Is.base))); intro _; rotate_left; intro _; rotate_right) | (apply GT.guard; rfl; rfl; rfl; rfl; (with_reducible (first | exact Is.ndec | exact Is.dec | exact Is.not | ((fail_if_success exact Is.litT); (fail_if_success exact Is.litF); exact Is.base))); intro _; rotate_left; intro _; rotate_right) | (apply GT.fork1; decide +kernel) | (apply GT.fork2 1; decide +kernel) | (apply GT.fork2 2; decide +kernel) | (apply GT.fork2 3; decide +kernel) | (apply GT.fork2 4; decide +kernel) | (apply GT.fork2 5; decide +kernel) | (apply GT.fork2 6; decide +kernel) | (apply GT.fork2 7; decide +kernel) | (apply GT.fork2 8; decide +kernel) | (apply GT.fork2 9; decide +kernel) | (apply GT.fork2 10; decide +kernel) | (apply GT.fork2 11; decide +kernel) | (apply GT.fork2 12; decide +kernel) | (apply GT.fork2 13; decide +kernel) | (apply GT.fork2 14; decide +kernel) | (apply GT.fork2 15; decide +kernel) | (apply GT.fork2 16; decide +kernel) | (apply GT.fork2 17; decide +kernel) | (apply GT.fork2 18; decide +kernel) | (apply GT.fork2 19; decide +kernel) | (apply GT.fork2 20; decide +kernel) | (apply GT.fork2 21; decide +kernel) | (apply GT.fork2 22; decide +kernel) | (apply GT.fork2 23; decide +kernel)))
    all_goals (try contradiction)
    all_goals (try (exfalso; omega))
    all_goals first
      | (refine N.ret_bool rfl (by (exact rvx)) ?_
         refine (decide_eq_false fun h => ?_).symm
         have e3 := (nxt_eq.1 h).2.2.1
         have : a.addrs.els[k]'hka = b.addrs.els[k]'hkb := by simp only [e3]
         contradiction)
      | (refine N.round (k + 1) ⟨by omega, fun j hj hj' hjk => ?_⟩ (by show a.addrs.len - (k + 1) < a.addrs.len - k; omega) (by (repeat (first | exact True.intro | refine ⟨rfl, ?_⟩ | refine Sub.int rfl (by omega) ?_))) rfl (List.Sublist.refl _)
         by_cases e : j = k
         · subst e; assumption
         · exact hrel j hj hj' (by omega))
  · repeat (any_goals (first | refine T.seq ?_ | refine T.region ?_ | (apply T.regionD wide; rfl) | refine TL.nil ?_ | refine N.next ?_ | refine N.inBlock ?_ | refine N.exit_same ?_ | refine N.exit_then ?_ | refine N.ret_then ?_ | refine N.ret_block ?_ | (apply N.exit_other; rfl) | refine T.ret ?_ | refine T.skip ?_ | refine T.exit ?_ | refine T.block ?_ | (apply T.cond_true; rfl) | (apply T.cond_false; rfl) | (apply T.test; rfl; (with_reducible (first | exact Is.ndec | exact Is.dec | exact Is.not | ((fail_if_success exact Is.litT); (fail_if_success exact Is.litF); exact Is.base))); intro _; rotate_left; intro _; rotate_right) | (apply TL.skip; rfl; rfl; rfl) | (apply TL.skip_none; rfl; rfl) | (apply GT.skip; rfl; rfl; rfl; decide +kernel) | (apply TL.val; rfl; rfl; (first | exact vpure | exact vread)) | (apply GT.pure; rfl; rfl; rfl; rfl; (first | exact vpure); decide +kernel) | (apply GT.read; rfl; rfl; rfl; rfl; (first | exact vpure | exact vread); decide +kernel) | (apply GT.done; decide +kernel; apply N.ofQ) | (apply GT.adv; rfl) | (apply TL.x; rfl; rfl; (first | exact xgrow | exact xput); intro _ _) | (apply GS.grow; rfl; rfl; (first | exact xgrow); intro _ _) | (apply GS.eff; rfl; decide +kernel; rfl; (first | exact xput); intro _ _) | (apply TL.guard; rfl; rfl; rfl; (with_reducible (first | exact Is.ndec | exact Is.dec | exact Is.not | ((fail_if_success exact Is.litT); (fail_if_success exact Is.litF); exact Is.base))); intro _; rotate_left; intro _; rotate_right) | (apply GT.guard; rfl; rfl; rfl; rfl; (with_reducible (first | exact Is.ndec | exact Is.dec | exact Is.not | ((fail_if_success exact Is.litT); (fail_if_success exact Is.litF); exact Is.base))); intro _; rotate_left; intro _; rotate_right) | (apply GT.fork1; decide +kernel) | (apply GT.fork2 1; decide +kernel) | (apply GT.fork2 2; decide +kernel) | (apply GT.fork2 3; decide +kernel) | (apply GT.fork2 4; decide +kernel) | (apply GT.fork2 5; decide +kernel) | (apply GT.fork2 6; decide +kernel) | (apply GT.fork2 7; decide +kernel) | (apply GT.fork2 8; decide +kernel) | (apply GT.fork2 9; decide +kernel) | (apply GT.fork2 10; decide +kernel) | (apply GT.fork2 11; decide +kernel) | (apply GT.fork2 12; decide +kernel) | (apply GT.fork2 13; decide +kernel) | (apply GT.fork2 14; decide +kernel) | (apply GT.fork2 15; decide +kernel) | (apply GT.fork2 16; decide +kernel) | (apply GT.fork2 17; decide +kernel) | (apply GT.fork2 18; decide +kernel) | (apply GT.fork2 19; decide +kernel) | (apply GT.fork2 20; decide +kernel) | (apply GT.fork2 21; decide +kernel) | (apply GT.fork2 22; decide +kernel) | (apply GT.fork2 23; decide +kernel)))
    all_goals (try (exfalso; omega))
    refine N.ret_bool rfl (by (exact rvx)) ?_
    refine (decide_eq_true (nxt_eq.2 ⟨by assumption, by assumption, ?_, by assumption, ?_⟩)).symm
    · refine List.ext_getElem (by omega) fun j hj hj' => hrel j hj hj' (by omega)
    · rw [h1] at hsv; exact of_decide_eq_true hsv
end Go.Proofs.YtfbhcemlnojejaaDoor
namespace Go.Proofs.YtfbhcemlnojejaaDoor
set_option linter.unusedVariables false
set_option linter.unusedSimpArgs false
open Go Go.RowKit
open Enc (enc)
set_option maxRecDepth 20000

def textC (s : Bytes) (t : Int) (l : List Bytes) : SignedC := ⟨⟨s, t, 9, l.map fun x => ⟨x, 0, 0⟩⟩, []⟩
set_option maxHeartbeats 2000000 in
theorem c_textL (s : Bytes) (t : Int) (l : Slc Bytes) (H : Hp) (w : World) (hs : Sat H w) (hsl : LenOk s) (ht : I64 t) (hl : l.Good H) (hb : l.len ≤ 100) : Calls Tryd.prog 45 #[strV s, intV t, l.v] w (RetF w H (fun p : Hp × Signed => p.2.c = textC s t l.els ∧ Enc.good p.1 p.2) (fun p => .agg (enc p.2).toArray) (fun p => p.1)) := by
  have hlen := hl.len
  refine T.enter (vs := [strV s, intV t, l.v]) (H := H) Tryd.func45 rfl rfl rfl hs ?_
  repeat (any_goals (first | refine T.seq ?_ | refine T.region ?_ | refine TL.nil ?_ | refine N.next ?_ | refine N.inBlock ?_ | refine N.exit_same ?_ | refine N.exit_then ?_ | refine N.ret_then ?_ | refine N.ret_block ?_ | (apply N.exit_other; rfl) | refine T.ret ?_ | refine T.skip ?_ | refine T.exit ?_ | refine T.block ?_ | (apply T.cond_true; rfl) | (apply T.cond_false; rfl) | (apply T.test; rfl; (with_reducible (first | exact Is.ndec | exact Is.dec | exact Is.not | ((fail_if_success exact Is.litT); (fail_if_success exact Is.litF); exact Is.base))); intro _; rotate_left; intro _; rotate_right) | (apply TL.skip; rfl; rfl; rfl) | (apply TL.skip_none; rfl; rfl) | (apply TL.val; rfl; rfl; (apply V.build; rfl; rfl; rfl; rfl; rfl; rfl)) | (apply TL.x; rfl; rfl; (apply X.storeTo 0 [strV s, intV t, intV 9, .slice none 0 0, .slice none 0 0]; rfl; rfl; rfl; rfl; rfl; rfl; rfl; rfl; rfl; rfl); intro _ _) | (apply TL.val; rfl; rfl; (first | exact vpure | exact vread)) | (apply TL.x; rfl; rfl; (first | exact xgrow | exact xput); intro _ _) | (apply TL.guard; rfl; rfl; rfl; (with_reducible (first | exact Is.ndec | exact Is.dec | exact Is.not | ((fail_if_success exact Is.litT); (fail_if_success exact Is.litF); exact Is.base))); intro _; rotate_left; intro _; rotate_right)))
  rename_i b6 _ b7 _ _ _
  refine T.nilRow 65 3 ?_
  refine T.loop (G := Nat × List Datum × Value) (fun g => [(6, .pointer (some ⟨b6, 0, none⟩)), (7, .pointer (some ⟨b7, 0, none⟩)), (14, l.v), (15, intV l.len), (16, intV g.1)]) (fun _ => H) (fun g => [.row g.2.2 65 3 g.2.1.length (encs g.2.1), .blk b7 37 [strV s, intV t, intV 9, g.2.2, .slice none 0 0], .blk b6 37 (enc signedNil)]) (fun g => g.1 ≤ l.len ∧ (g.2.2 = .slice none 0 0 ∨ ∃ p : Nat × Nat, g.2.2 = .slice (some ⟨p.1, 0, none⟩) g.2.1.length p.2) ∧ g.2.1 = (l.els.take g.1).map fun x => ⟨x, 0, 0⟩) (fun g => l.len - g.1) (0, [], .slice none 0 0) ⟨Nat.zero_le _, .inl rfl, rfl⟩ (by (repeat (first | exact True.intro | refine ⟨rfl, ?_⟩ | refine Sub.int rfl (by omega) ?_))) rfl (List.Sublist.refl _) ?_
  rintro ⟨k, out, v⟩ ⟨hk, hv, hout⟩
  simp only at hk hv hout ⊢
  have hol : out.length = k := by rw [hout, List.length_map, List.length_take]; omega
  have hog : ∀ (H' : Hp) (y : Datum), y ∈ out → Enc.good H' y := fun H' y hy => by
    rw [hout] at hy
    obtain ⟨x, hx, rfl⟩ := List.mem_map.1 hy
    exact ⟨hl.els x (List.mem_of_mem_take hx), show I64 0 by decide, show I64 0 by decide⟩
  by_cases hlt : k < l.len
  · have hkl : k < l.els.length := by omega
    have hxk := hl.els _ (List.getElem_mem hkl)
    repeat (any_goals (first | refine T.seq ?_ | refine T.region ?_ | refine TL.nil ?_ | refine N.next ?_ | refine N.inBlock ?_ | refine N.exit_same ?_ | refine N.exit_then ?_ | refine N.ret_then ?_ | refine N.ret_block ?_ | (apply N.exit_other; rfl) | refine T.ret ?_ | refine T.skip ?_ | refine T.exit ?_ | refine T.block ?_ | (apply T.cond_true; rfl) | (apply T.cond_false; rfl) | (apply T.test; rfl; (with_reducible (first | exact Is.ndec | exact Is.dec | exact Is.not | ((fail_if_success exact Is.litT); (fail_if_success exact Is.litF); exact Is.base))); intro _; rotate_left; intro _; rotate_right) | (apply TL.skip; rfl; rfl; rfl) | (apply TL.skip_none; rfl; rfl) | (apply TL.val; rfl; rfl; (apply V.build; rfl; rfl; rfl; rfl; rfl; rfl)) | (apply TL.x; rfl; rfl; (apply X.append1 1; rfl; rfl; rfl; rfl; rfl; rfl; rfl; rfl; rfl; exact List.Mem.head _; rfl; rfl; rfl; (refine Nat.le_trans (Nat.mul_le_mul_left _ (show _ ≤ 1000 by decide)) ?_; show (out.length + 1) * 1000 ≤ _; omega); (show out.length + 1 ≤ _; omega)); intro p2 _; have hp2 : p2 = p2 := rfl) | (apply TL.x; rfl; rfl; (apply X.storeTo 2 [strV s, intV t, intV 9, .slice (some ⟨_, 0, none⟩) (out.length + 1) _, .slice none 0 0]; rfl; rfl; rfl; rfl; rfl; rfl; rfl; rfl; rfl; rfl); intro _ _) | (apply TL.val; rfl; rfl; (first | exact vpure | exact vread)) | (apply TL.x; rfl; rfl; (first | exact xgrow | exact xput); intro _ _) | (apply TL.guard; rfl; rfl; rfl; (with_reducible (first | exact Is.ndec | exact Is.dec | exact Is.not | ((fail_if_success exact Is.litT); (fail_if_success exact Is.litF); exact Is.base))); intro _; rotate_left; intro _; rotate_right)))
    all_goals (try (exfalso; omega))
    refine N.round (k + 1, out ++ [⟨l.els[k]'hkl, 0, 0⟩], .slice (some ⟨p2.1, 0, none⟩) (out.length + 1) p2.2) ⟨by show k + 1 ≤ _; omega, .inr ⟨p2, by show _ = Value.slice _ (out ++ [_]).length _; rw [List.length_append]; rfl⟩, ?_⟩ (by show l.len - (k + 1) < l.len - k; omega) (by (repeat (first | exact True.intro | refine ⟨rfl, ?_⟩ | refine Sub.int rfl (by omega) ?_))) rfl ?_
    · show out ++ [_] = _
      rw [List.take_succ_eq_append_getElem hkl, List.map_append, ← hout]; rfl
    · rw [List.length_append, encs_snoc]
      exact List.Sublist.cons _ (List.Sublist.refl _)
  · have hfin : ∀ {w0 w1 : World}, St w0 H H [.row v 65 3 out.length (encs out)] w1 → ∃ g : Hp × Signed, (g.2.c = textC s t l.els ∧ Enc.good g.1 g.2) ∧ Ending.returned (.agg #[strV s, intV t, intV 9, v, .slice none 0 0]) = Ending.returned (.agg (enc g.2).toArray) ∧ Fresh w0 H g.1 w1 := fun {w0 w1} hst => by
      obtain ⟨H', s', e1, e2, e3, e4, e5⟩ := hst.freezeRow rfl rfl (fun y hy => hog _ y hy)
      refine ⟨(H', ⟨⟨s, t, 9, s'⟩, Slc.nil _⟩), ⟨?_, ⟨hsl, ht, show I64 9 by decide, e3⟩, Slc.nil_good⟩, ?_, e5.fresh⟩
      · show (⟨⟨s, t, 9, s'.els⟩, []⟩ : SignedC) = _
        rw [e2, hout, List.take_of_length_le (by omega)]; rfl
      · show Ending.returned (.agg #[strV s, intV t, intV 9, v, .slice none 0 0]) = Ending.returned (.agg #[strV s, intV t, intV 9, s'.v, .slice none 0 0])
        rw [e1]
    rcases hv with rfl | ⟨p2, rfl⟩
    all_goals
      repeat (any_goals (first | refine T.seq ?_ | refine T.region ?_ | refine TL.nil ?_ | refine N.next ?_ | refine N.inBlock ?_ | refine N.exit_same ?_ | refine N.exit_then ?_ | refine N.ret_then ?_ | refine N.ret_block ?_ | (apply N.exit_other; rfl) | refine T.ret ?_ | refine T.skip ?_ | refine T.exit ?_ | refine T.block ?_ | (apply T.cond_true; rfl) | (apply T.cond_false; rfl) | (apply T.test; rfl; (with_reducible (first | exact Is.ndec | exact Is.dec | exact Is.not | ((fail_if_success exact Is.litT); (fail_if_success exact Is.litF); exact Is.base))); intro _; rotate_left; intro _; rotate_right) | (apply TL.skip; rfl; rfl; rfl) | (apply TL.skip_none; rfl; rfl) | (apply TL.x; rfl; rfl; (apply X.storeTo 2 [strV s, intV t, intV 9, .slice none 0 0, .slice none 0 0]; rfl; rfl; rfl; rfl; rfl; rfl; rfl; rfl; rfl; rfl); intro _ _) | (apply TL.x; rfl; rfl; (apply X.storeTo 2 [strV s, intV t, intV 9, .slice (some ⟨p2.1, 0, none⟩) out.length p2.2, .slice none 0 0]; rfl; rfl; rfl; rfl; rfl; rfl; rfl; rfl; rfl; rfl); intro _ _) | (apply TL.val; rfl; rfl; (first | exact vpure | exact vread)) | (apply TL.x; rfl; rfl; (first | exact xgrow | exact xput); intro _ _) | (apply TL.guard; rfl; rfl; rfl; (with_reducible (first | exact Is.ndec | exact Is.dec | exact Is.not | ((fail_if_success exact Is.litT); (fail_if_success exact Is.litF); exact Is.base))); intro _; rotate_left; intro _; rotate_right)))
    all_goals (try (exfalso; omega))
    all_goals (exact N.ret1 rfl (by (exact rvx)) fun w hst => hfin (hst.sub (List.singleton_sublist.2 (List.Mem.head _))))
theorem St.rowPut {α : Type} [Enc α] {w0 w : World} {H0 H : Hp} {L : List Loc} {b m c size : Nat} {e : TypeId} {els : List α} (hs : St w0 H0 H L w) (hmem : Loc.row (.slice (some ⟨b, 0, none⟩) m c) e size m (encs els) ∈ L) (hsz : size = Enc.size α) (hm : els.length = m) (hg : ∀ x ∈ els, Enc.good H x) : ∃ o : Obj, (⟨some ⟨b, 0, none⟩, m, c, els⟩ : Slc α).Good (H.put b o) ∧ Sat (H.put b o) w ∧ H b = none ∧ b < w.heap.size := by
  subst hsz
  obtain ⟨cur, hh, hbase, hl, hmc, hcm, hcs, htake⟩ := hs.row_get hmem
  have hnone : H b = none := hs.out _ hmem b rfl
  have hle := Hp.put_le H (.cells cur e (0, 0)) hnone
  refine ⟨.cells cur e (0, 0), ⟨hm, hmc, by simpa [maxLen] using hcm, fun _ => rfl, fun k x hk j u hj => ?_, fun x hx => Enc.mono hle (hg x hx)⟩, fun k o hk => ?_, hnone, ?_⟩
  · have h1 := encs_get els k j x u hk hj
    have hlt : k * Enc.size α + j < m * Enc.size α := by
      have := (List.getElem?_eq_some_iff.1 h1).1
      rw [encs_length, hm] at this; exact this
    have hc : (H.put b (.cells cur e (0, 0))).cell b (0 + k * Enc.size α + j) = cur[0 + k * Enc.size α + j]? := by
      unfold Hp.cell Hp.put
      rw [if_pos rfl]
    refine Eq.trans hc ?_
    rw [Nat.zero_add, ← h1, ← htake, List.getElem?_take, if_pos hlt]
    simp
  · unfold Hp.put at hk
    split at hk
    · rename_i e; subst e; cases hk; exact hh
    · exact hs.sat k o hk
  · exact (Array.getElem?_eq_some_iff.1 hh).1
theorem c_iAskOwn {w0 w : World} {H0 H : Hp} {L : List Loc} {b m c : Nat} {els : List Signed} {hints : Slc Int} {q : Question} {r : NextC} {e : Int} (hr : askC (els.map Signed.c) hints.els q = (r, e)) (hr0 : r.sets = []) (hs : St w0 H0 H L w) (hmem : Loc.row (.slice (some ⟨b, 0, none⟩) m c) 37 5 m (encs els) ∈ L) (hm : els.length = m) (hg : ∀ x ∈ els, Enc.good H x) (hR : Rules H) (hh : hints.Good H) (hq : Enc.good H q) (hsig : ∀ x ∈ els, x.sigs.els.length ≤ 1000) : Calls Tryd.prog 35 #[.slice (some ⟨b, 0, none⟩) m c, hints.v, .agg (enc q).toArray] w (RetF w H (fun p : Hp × Nxt => p.2.c = r ∧ Enc.good p.1 p.2) (fun p => .tuple #[.agg (enc p.2).toArray, intV e]) (fun p => p.1)) := by
  obtain ⟨o, h1, h2, h3, h4⟩ := hs.rowPut hmem rfl hm hg
  have hle := Hp.put_le H o h3
  have h := c_iAsk ⟨some ⟨b, 0, none⟩, m, c, els⟩ hints q (H.put b o) w w.heap.size (Nat.le_refl _) h2 (Rules.mono hle hR) h1 (hh.mono hle) (Enc.mono hle hq) hsig
  rw [show askC ((⟨some ⟨b, 0, none⟩, m, c, els⟩ : Slc Signed).els.map Signed.c) hints.els q = (r, e) from hr] at h
  refine h.mono ?_
  rintro en w' ⟨p, ⟨e1, e2, e3⟩, e4, e5⟩
  have hsat := e5.sat
  have hcell : ∀ (b' o' : Nat) (v : Value), b' ≠ b → p.1.cell b' o' = some v → Hp.cell (fun k => if k = b then none else p.1 k) b' o' = some v := fun b' o' v hb hv => by
    unfold Hp.cell at hv ⊢
    simp only [if_neg hb]; exact hv
  have hsets : p.2.sets.els = [] := by
    have : p.2.sets.els.map Signed.c = [] := by rw [← hr0]; exact congrArg NextC.sets e1
    exact List.map_eq_nil_iff.1 this
  obtain ⟨g1, g2, g3, g4, g5⟩ := e2
  have hsl := g5.len
  rw [hsets] at hsl
  refine ⟨(fun k => if k = b then none else p.1 k, p.2), ⟨e1, g1, g2, ⟨g3.len, g3.cap, g3.big, g3.at_, fun k x hx j v hj => ?_, g3.els⟩, g4, ⟨by rw [hsets]; exact hsl, g5.cap, g5.big, g5.at_, fun k x hx => by (rw [hsets] at hx; simp at hx), fun x hx => by (rw [hsets] at hx; cases hx)⟩⟩, e4, ⟨e5.below, fun k o hk => ?_, fun k o' hk => ?_, fun k hk hk' => ?_⟩⟩
  · refine hcell _ _ _ ?_ (g3.cells k x hx j v hj)
    have hlt : k < p.2.addrs.els.length := (List.getElem?_eq_some_iff.1 hx).1
    have hal := g3.len
    have := e3 (by omega)
    show p.2.addrs.b ≠ b
    omega
  · simp only at hk
    split at hk
    · cases hk
    · exact hsat k o hk
  · have hkb : k ≠ b := fun e => by rw [e, h3] at hk; cases hk
    simp only [if_neg hkb]
    exact e5.le k o' (hle k o' hk)
  · simp only at hk'
    have hkb : k ≠ b := fun e => by rw [if_pos e] at hk'; exact hk' rfl
    rw [if_neg hkb] at hk'
    refine e5.new k ?_ hk'
    unfold Hp.put
    rw [if_neg hkb]; exact hk
theorem c_iZoneOwn {w0 w : World} {H0 H : Hp} {L : List Loc} {b m c : Nat} {els : List Signed} {s z : Bytes} {e : Int} (hr : zoneI (els.map Signed.c) s = (z, e)) (hs : St w0 H0 H L w) (hmem : Loc.row (.slice (some ⟨b, 0, none⟩) m c) 37 5 m (encs els) ∈ L) (hm : els.length = m) (hg : ∀ x ∈ els, Enc.good H x) (hR : Rules H) (hl : LenOk s) : Calls Tryd.prog 37 #[.slice (some ⟨b, 0, none⟩) m c, strV s] w (Ret w (.tuple #[strV z, intV e])) := by
  obtain ⟨o, h1, h2, h3, h4⟩ := hs.rowPut hmem rfl hm hg
  have h := c_iZone ⟨some ⟨b, 0, none⟩, m, c, els⟩ s (H.put b o) w h2 (Rules.mono (Hp.put_le H o h3) hR) h1 hl
  rw [show zoneI ((⟨some ⟨b, 0, none⟩, m, c, els⟩ : Slc Signed).els.map Signed.c) s = (z, e) from hr] at h
  exact h
theorem c_iAskV {known : Slc Signed} {hints : Slc Int} {q : Question} {r : NextC} {e : Int} (hr : askC (known.els.map Signed.c) hints.els q = (r, e)) {H : Hp} {w : World} (hs : Sat H w) (hR : Rules H) (hk : known.Good H) (hh : hints.Good H) (hq : Enc.good H q) (hsig : ∀ x ∈ known.els, x.sigs.els.length ≤ 1000) : Calls Tryd.prog 35 #[known.v, hints.v, .agg (enc q).toArray] w (RetF w H (fun p : Hp × Nxt => p.2.c = r ∧ Enc.good p.1 p.2) (fun p => .tuple #[.agg (enc p.2).toArray, intV e]) (fun p => p.1)) := by
  have h := c_iAsk known hints q H w 0 (Nat.zero_le _) hs hR hk hh hq hsig
  rw [hr] at h
  refine h.mono ?_
  rintro en w' ⟨p, ⟨e1, e2, _⟩, e4, e5⟩
  exact ⟨p, ⟨e1, e2⟩, e4, e5⟩
theorem c_SameNV {a b : Nxt} {v : Bool} (h : decide (a.c = b.c) = v) {H : Hp} {w : World} (hs : Sat H w) (ha : Enc.good H a) (hb : Enc.good H b) : Calls Tryd.prog 39 #[.agg (enc a).toArray, .agg (enc b).toArray] w (Ret w (.bool v)) := h ▸ c_SameN a b H w hs ha hb
def kx : SignedC := textC [120] 2 [[97, 46, 110, 115]]
def kns : SignedC := textC [110, 115] 2 [[97, 46, 110, 115], [98, 46, 113]]
def kad : SignedC := ⟨⟨[97, 46, 110, 115], 1, 0, [⟨[], 5, 0⟩]⟩, []⟩
def klx : SignedC := textC [108, 46, 120] 3 [[116, 46, 120]]
def ktx : SignedC := textC [116, 46, 120] 5 [[116]]
def kaa : SignedC := textC [97] 3 [[97]]
def qtx : Question := ⟨[116, 46, 120], 5⟩
theorem ask_1 : askC [kx, kns] [1] qtx = (⟨1, [46], [1], ⟨[98, 46, 113], 1⟩, []⟩, 0) := by decide +kernel
theorem ask_2 : askC [kx, kns, kad] [1] qtx = (⟨1, [120], [5], qtx, []⟩, 0) := by decide +kernel
theorem zone_2 : zoneI [kx, kns, kad] [97, 46, 98, 46, 120] = ([120], 0) := by decide +kernel
theorem ask_3 : askC [kx, kns, kad, klx, ktx] [1] ⟨[108, 46, 120], 5⟩ = (⟨2, [], [], qNil, [klx, ktx]⟩, 0) := by decide +kernel
theorem ask_4 : askC [kx, kns, kad, klx, ktx] [] qtx = (nextNil, 1) := by decide +kernel
theorem ask_5 : askC [kaa] [1] ⟨[97], 5⟩ = (darkN, 0) := by decide +kernel
end Go.Proofs.YtfbhcemlnojejaaDoor
