/- Walks: the law TrustFurther. -/
import Derived.Test.YtfbhcemlnojejaaDoorTChains
import Derived.Test.YtfbhcemlnojejaaDoorTEngB
namespace Go.Proofs.YtfbhcemlnojejaaDoor
set_option linter.unusedVariables false
set_option linter.unusedSimpArgs false
open Go Go.RowKit
open Enc (enc)
set_option maxRecDepth 20000

set_option maxHeartbeats 8000000 in
theorem c_Further (known more : Slc Signed) (a : RSet) (zone : Bytes) (at_ drift : Int) (H : Hp) (w : World) (hs : Sat H w) (hR : Rules H) (hk : known.Good H) (hmo : more.Good H) (ha : Enc.good H a) (hz : LenOk zone) (hat : I64 at_) (hdr : I64 drift) : Calls Tryd.prog 7 #[known.v, more.v, .agg (enc a).toArray, strV zone, intV at_, intV drift] w (Ret w (.bool true)) := by
  have hlk := hk.len
  have hlm := hmo.len
  have hmk := hk.lim
  have hmm := hmo.lim
  refine T.enter (vs := [known.v, more.v, .agg (enc a).toArray, strV zone, intV at_, intV drift]) (H := H) Tryd.func7 rfl rfl rfl hs ?_
  obtain ⟨f1, hf1⟩ : ∃ b, fewT (known.els.map Signed.c) = b := ⟨_, rfl⟩
  obtain ⟨f2, hf2⟩ : ∃ b, fewT (more.els.map Signed.c) = b := ⟨_, rfl⟩
  by_cases hgo : f1 = true ∧ f2 = true ∧ known.len ≤ 30 ∧ more.len ≤ 30
  · obtain ⟨rfl, rfl, hk30, hm30⟩ := hgo
    obtain ⟨⟨ks, q, e⟩, hp⟩ : ∃ r, pathC (known.els.map Signed.c) a.c zone at_ drift = r := ⟨_, rfl⟩
    obtain ⟨⟨ks', q', e'⟩, hp'⟩ : ∃ r, pathC (known.els.map Signed.c ++ more.els.map Signed.c) a.c zone at_ drift = r := ⟨_, rfl⟩
    have hKl : (known.els.map Signed.c).length ≤ 30 := by rw [List.length_map]; omega
    have hMl : (more.els.map Signed.c).length ≤ 30 := by rw [List.length_map]; omega
    have harg : e = 1 → e' = 1 := fun h => by
      rw [path_arg hp'] 
      have := (path_arg hp).1 h
      rw [badP_more hKl hMl, this]; rfl
    have hsame : e' ≠ 1 → (e = 4 → findC (more.els.map Signed.c) q.name q.typ = none) → (ks', q', e') = (ks, q, e) := fun h1 h2 => by
      rw [← hp']
      refine path_more hKl hMl hp ?_ h2
      cases hb : badP (known.els.map Signed.c ++ more.els.map Signed.c) a.c zone at_ drift with
      | false => rfl
      | true => exact absurd ((path_arg hp').2 hb) h1
    have hmiss : e = 4 → findC (known.els.map Signed.c) q.name q.typ = none ∧ (q.typ = 6 ∨ q.typ = 7) := fun h => by
      rcases pathC_facts hp with ⟨h1, _⟩ | ⟨_, _, ⟨_, h1, h2⟩ | ⟨h1, _⟩⟩
      · omega
      · exact ⟨h2, h1⟩
      · exact absurd h h1
    obtain ⟨kq, hkq⟩ : ∃ i, knownI (known.els.map Signed.c) q.name q.typ = i := ⟨_, rfl⟩
    obtain ⟨mq, hmq⟩ : ∃ i, knownI (more.els.map Signed.c) q.name q.typ = i := ⟨_, rfl⟩
    have hkq0 : e = 4 → kq < 0 := fun h => by rw [← hkq]; exact knownI_neg.2 (hmiss h).1
    have hmq0 : mq < 0 → findC (more.els.map Signed.c) q.name q.typ = none := fun h => by rw [← hmq] at h; exact knownI_neg.1 h
    have hS : e' ≠ 1 → (e = 4 → mq < 0) → ks' = ks ∧ q' = q ∧ e' = e := fun h1 h2 => by
      have := hsame h1 (fun h => hmq0 (h2 h))
      simp only [Prod.mk.injEq] at this
      exact this
    have hlen2 : (known.els ++ more.els).length = 0 + known.len + more.len := by rw [List.length_append]; omega
    repeat (any_goals (first | refine T.seq ?_ | refine T.region ?_ | refine TL.nil ?_ | refine N.next ?_ | refine N.inBlock ?_ | refine N.exit_same ?_ | refine N.exit_then ?_ | refine N.ret_then ?_ | refine N.ret_block ?_ | (apply N.exit_other; rfl) | refine T.ret ?_ | refine T.skip ?_ | refine T.exit ?_ | refine T.block ?_ | (apply T.cond_true; rfl) | (apply T.cond_false; rfl) | (apply T.test; rfl; (with_reducible (first | exact Is.ndec | exact Is.dec | exact Is.not | ((fail_if_success exact Is.litT); (fail_if_success exact Is.litF); exact Is.base))); intro _; rotate_left; intro _; rotate_right) | (apply TL.skip; rfl; rfl; rfl) | (apply TL.skip_none; rfl; rfl) | (apply TL.call0 (f := 14) Tryd.call14; rfl; rfl; rfl; (exact fun _ hs => c_head10 _ _ hs.sat hR)) | (apply TL.callE (f := 15) [known.v] Tryd.call15; rfl; rfl; rfl; rfl; (exact fun _ hs => hf1 ▸ c_Few10 known _ _ hs.sat hk)) | (apply TL.callE (f := 15) [more.v] Tryd.call15; rfl; rfl; rfl; rfl; (exact fun _ hs => hf2 ▸ c_Few10 more _ _ hs.sat hmo)) | (apply TL.x; rfl; rfl; (apply X.appendSlc 0 known; rfl; rfl; rfl; rfl; rfl; rfl; rfl; rfl; rfl; rfl; exact hk; (refine Nat.le_trans (Nat.mul_le_mul_left _ (show _ ≤ 1000 by decide)) ?_; omega); omega); intro v1 _) | (apply TL.x; rfl; rfl; (apply X.appendSlc 0 more; rfl; rfl; rfl; rfl; rfl; rfl; rfl; rfl; rfl; rfl; exact hmo; (refine Nat.le_trans (Nat.mul_le_mul_left _ (show _ ≤ 1000 by decide)) ?_; omega); omega); intro v2 _; apply TL.frzRowE 0 (known.els ++ more.els) rfl rfl (encs_two _ _) hlen2 (good_two hk.els hmo.els); intro H4 sa e1 e2 hsa hle4; subst e1; have hR := Rules.mono hle4 hR; have hk := hk.mono hle4; have hmo := hmo.mono hle4; have ha := Enc.mono hle4 ha; have hp2 : pathC (sa.els.map Signed.c) a.c zone at_ drift = (ks', q', e') := by rw [e2, List.map_append]; exact hp') | (apply TL.x; rfl; rfl; (apply X.callFE (f := 16) [known.v, .agg (enc a).toArray, strV zone, intV at_, intV drift] Tryd.call16; rfl; rfl; rfl; exact (fun _ hs => c_PathV known a zone at_ drift hp hs.sat hR hk ha hz hat hdr)); intro p1 hp1; have hR := Rules.mono hp1.2 hR; have hk := hk.mono hp1.2; have hmo := hmo.mono hp1.2; have ha := Enc.mono hp1.2 ha; have hsa := hsa.mono hp1.2) | (apply TL.x; rfl; rfl; (apply X.storeTo 0 (enc q); rfl; rfl; rfl; rfl; rfl; rfl; rfl; rfl; rfl; rfl); intro _ _) | (apply TL.x; rfl; rfl; (apply X.callFE (f := 16) [sa.v, .agg (enc a).toArray, strV zone, intV at_, intV drift] Tryd.call16; rfl; rfl; rfl; exact (fun _ hs => c_PathV sa a zone at_ drift hp2 hs.sat hR hsa ha hz hat hdr)); intro p2 hp2; have hk := hk.mono hp2.2; have hmo := hmo.mono hp2.2; have hs1 := hp1.1.2.1.mono hp2.2) | (apply TL.x; rfl; rfl; (apply X.storeTo 0 (enc q'); rfl; rfl; rfl; rfl; rfl; rfl; rfl; rfl; rfl; rfl); intro _ _) | (apply TL.callE (f := 28) [known.v, strV q.name, intV q.typ] Tryd.call28; rfl; rfl; rfl; rfl; (exact fun _ hs => c_Known10V hkq hs.sat hk)) | (apply TL.callE (f := 28) [more.v, strV q.name, intV q.typ] Tryd.call28; rfl; rfl; rfl; rfl; (exact fun _ hs => c_Known10V hmq hs.sat hmo)) | (apply TL.callE (f := 18) [p1.2.v, p2.2.v] Tryd.call18; rfl; rfl; rfl; rfl; (exact fun _ hs => c_Same10 p1.2 p2.2 _ _ hs.sat hs1 hp2.1.2.1)) | (apply TL.val; rfl; rfl; (apply V.aeql; rfl; rfl; exact Tryd.eqGuardType30; exact fun w => eq_Question q q' w)) | (apply TL.val; rfl; rfl; (apply V.aeql; rfl; rfl; exact Tryd.eqGuardType30; exact fun w => eq_Question q' q w)) | (apply TL.val; rfl; rfl; (first | exact vpure | exact vread)) | (apply TL.x; rfl; rfl; (first | exact xgrow | exact xput); intro _ _) | (apply TL.guard; rfl; rfl; rfl; (with_reducible (first | exact Is.ndec | exact Is.dec | exact Is.not | ((fail_if_success exact Is.litT); (fail_if_success exact Is.litF); exact Is.base))); intro _; rotate_left; intro _; rotate_right)))
    all_goals (try contradiction)
    all_goals (try (exfalso; omega))
    all_goals (refine N.ret_bool rfl (by (exact rvx)) ?_)
    all_goals (try rfl)
    all_goals first
      | exact decide_eq_true (harg (by assumption))
      | (exfalso; have := hkq0 (by assumption); omega)
      | (exfalso; rcases (hmiss (by assumption)).2 with h | h <;> contradiction)
      | (obtain ⟨h1, h2, h3⟩ := hS (by assumption) (by first | (intro h; contradiction) | (intro _; omega))
         first
           | exact decide_eq_true h2
           | exact decide_eq_true h2.symm
           | exact absurd (hp1.1.1.trans (h1.symm.trans hp2.1.1.symm)) (by assumption)
           | (exfalso; omega))
  · cases f1 <;> cases f2
    all_goals
      repeat (any_goals (first | (apply T.seqU 5; rfl) | refine T.region ?_ | refine TL.nil ?_ | refine N.next ?_ | refine N.inBlock ?_ | refine N.exit_same ?_ | refine N.exit_then ?_ | refine N.ret_then ?_ | refine N.ret_block ?_ | (apply N.exit_other; rfl) | refine T.ret ?_ | refine T.skip ?_ | refine T.exit ?_ | refine T.block ?_ | (apply T.cond_true; rfl) | (apply T.cond_false; rfl) | (apply T.test; rfl; (with_reducible (first | exact Is.ndec | exact Is.dec | exact Is.not | ((fail_if_success exact Is.litT); (fail_if_success exact Is.litF); exact Is.base))); intro _; rotate_left; intro _; rotate_right) | (apply TL.skip; rfl; rfl; rfl) | (apply TL.skip_none; rfl; rfl) | (apply TL.call0 (f := 14) Tryd.call14; rfl; rfl; rfl; (exact fun _ hs => c_head10 _ _ hs.sat hR)) | (apply TL.callE (f := 15) [known.v] Tryd.call15; rfl; rfl; rfl; rfl; (exact fun _ hs => hf1 ▸ c_Few10 known _ _ hs.sat hk)) | (apply TL.callE (f := 15) [more.v] Tryd.call15; rfl; rfl; rfl; rfl; (exact fun _ hs => hf2 ▸ c_Few10 more _ _ hs.sat hmo)) | (apply TL.val; rfl; rfl; (first | exact vpure | exact vread)) | (apply TL.x; rfl; rfl; (first | exact xgrow | exact xput); intro _ _) | (apply TL.guard; rfl; rfl; rfl; (with_reducible (first | exact Is.ndec | exact Is.dec | exact Is.not | ((fail_if_success exact Is.litT); (fail_if_success exact Is.litF); exact Is.base))); intro _; rotate_left; intro _; rotate_right)))
    all_goals (try contradiction)
    all_goals (try (exfalso; exact hgo ⟨rfl, rfl, by omega, by omega⟩))
    all_goals (exact N.ret_bool rfl (by (exact rvx)) rfl)
end Go.Proofs.YtfbhcemlnojejaaDoor
