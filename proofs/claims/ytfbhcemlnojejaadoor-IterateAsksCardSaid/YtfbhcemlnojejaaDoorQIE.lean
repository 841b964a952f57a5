/- Walks: copies of signed sets; Ask and Zone. -/
import Derived.Test.YtfbhcemlnojejaaDoorQIC
import Derived.Test.YtfbhcemlnojejaaDoorQWM
namespace Go.Proofs.YtfbhcemlnojejaaDoor
set_option linter.unusedVariables false
set_option linter.unusedSimpArgs false
open Go Go.RowKit
open Enc (enc)
set_option maxRecDepth 20000

set_option maxHeartbeats 2000000 in
theorem c_icloned (s : Slc Signed) (H : Hp) (w : World) (hs : Sat H w) (hg : s.Good H) (hb : s.len ≤ 1000) (hd : ∀ x ∈ s.els, x.set.data.els.length ≤ 1000 ∧ x.sigs.els.length ≤ 1000) : Calls Tryd.prog 83 #[s.v] w (RetF w H (fun p : Hp × Slc Signed => p.2.els.map Signed.c = s.els.map Signed.c ∧ p.2.Good p.1) (fun p => p.2.v) (fun p => p.1)) := by
  have hlen := hg.len
  refine T.enter (vs := [s.v]) (H := H) Tryd.func83 rfl rfl rfl hs ?_
  repeat (any_goals (first | refine T.seq ?_ | refine T.region ?_ | refine TL.nil ?_ | refine N.next ?_ | refine N.inBlock ?_ | refine N.exit_same ?_ | refine N.exit_then ?_ | refine N.ret_then ?_ | refine N.ret_block ?_ | (apply N.exit_other; rfl) | refine T.ret ?_ | refine T.skip ?_ | refine T.exit ?_ | refine T.block ?_ | (apply T.cond_true; rfl) | (apply T.cond_false; rfl) | (apply T.test; rfl; (with_reducible (first | exact Is.ndec | exact Is.dec | exact Is.not | ((fail_if_success exact Is.litT); (fail_if_success exact Is.litF); exact Is.base))); intro _; rotate_left; intro _; rotate_right) | (apply TL.skip; rfl; rfl; rfl) | (apply TL.skip_none; rfl; rfl) | (apply TL.x; rfl; rfl; (apply X.callO0 (f := 112) Tryd.call112; rfl; rfl; (exact fun _ hs => c_CloneSignedO s _ _ hs.sat hg hb)); intro _ _) | (apply TL.val; rfl; rfl; (first | exact vpure | exact vread)) | (apply TL.x; rfl; rfl; (first | exact xgrow | exact xput); intro _ _) | (apply TL.guard; rfl; rfl; rfl; (with_reducible (first | exact Is.ndec | exact Is.dec | exact Is.not | ((fail_if_success exact Is.litT); (fail_if_success exact Is.litF); exact Is.base))); intro _; rotate_left; intro _; rotate_right)))
  rename_i p hp
  obtain ⟨o, c⟩ := p
  have hp0 : o = none → s.len = 0 ∧ c = 0 := hp.1
  refine T.loop (G := Nat × Hp × List Signed) (fun g => [(0, .slice (o.map fun g => ⟨g, 0, none⟩) s.len c), (7, intV s.len), (8, intV g.1)]) (fun g => g.2.1)
    (fun g => [.row (.slice (o.map fun g => ⟨g, 0, none⟩) s.len c) 37 5 s.len (encs g.2.2)])
    (fun g => g.1 ≤ s.len ∧ H.le g.2.1 ∧ CopyTo g.2.1 s.els g.2.2 g.1) (fun g => s.len - g.1) (0, H, s.els) ⟨Nat.zero_le _, .refl _, rfl, fun j s' hj => ⟨s', hj, rfl, hg.els _ (List.mem_of_getElem? hj), fun _ => rfl⟩⟩ (by (repeat (first | exact True.intro | refine ⟨rfl, ?_⟩ | refine Sub.int rfl (by omega) ?_))) rfl (by (first | exact List.Sublist.refl _ | exact List.nil_sublist _ | exact List.Sublist.cons _ (List.Sublist.refl _) | exact List.Sublist.cons _ (List.Sublist.cons _ (List.Sublist.refl _)))) ?_
  rintro ⟨k, H1, els1⟩ ⟨hk, hle, hrel⟩
  simp only at hk hle hrel ⊢
  have hl1 : els1.length = s.len := by rw [hrel.1, hlen]
  by_cases hlt : k < s.len
  · obtain ⟨gb, rfl⟩ : ∃ gb, o = some gb := by
      cases o with
      | none => have := (hp0 rfl).1; omega
      | some gb => exact ⟨gb, rfl⟩
    obtain ⟨s0, hs0⟩ : ∃ s0, s.els[k]? = some s0 := ⟨_, List.getElem?_eq_getElem (by omega)⟩
    have hs1 : els1[k]? = some s0 := by
      obtain ⟨s', e1, _, _, e4⟩ := hrel.2 k s0 hs0
      rw [e1, e4 (Nat.le_refl _)]
    have hs2 : Enc.good H1 s0 := Enc.mono hle (hg.els _ (List.mem_of_getElem? hs0))
    obtain ⟨hb3, hb4⟩ := hd s0 (List.mem_of_getElem? hs0)
    have hb5 := hs2.1.2.2.2.len
    have hb6 := hs2.2.len
    repeat (any_goals (first | refine T.seq ?_ | refine T.region ?_ | refine TL.nil ?_ | refine N.next ?_ | refine N.inBlock ?_ | refine N.exit_same ?_ | refine N.exit_then ?_ | refine N.ret_then ?_ | refine N.ret_block ?_ | (apply N.exit_other; rfl) | refine T.ret ?_ | refine T.skip ?_ | refine T.exit ?_ | refine T.block ?_ | (apply T.cond_true; rfl) | (apply T.cond_false; rfl) | (apply T.test; rfl; (with_reducible (first | exact Is.ndec | exact Is.dec | exact Is.not | ((fail_if_success exact Is.litT); (fail_if_success exact Is.litF); exact Is.base))); intro _; rotate_left; intro _; rotate_right) | (apply TL.skip; rfl; rfl; rfl) | (apply TL.skip_none; rfl; rfl) | (apply TL.val; rfl; rfl; (apply V.elem; rfl; rfl; rfl; rfl; rfl; rfl; (show k < s.len; omega); rfl)) | (apply TL.x; rfl; rfl; (apply X.callF0 (f := 113) Tryd.call113; rfl; rfl; (exact fun _ hs => c_CloneDatum s0.set.data _ _ hs.sat hs2.1.2.2.2 (by omega))); intro _ _) | (apply TL.val; rfl; rfl; (apply V.load_own; rfl; rfl; rfl; (exact lmem); exact encs_at (j := 3) hs1 rfl (by show 0 + k * 5 + 0 + 3 = k * 5 + 3; omega))) | (apply TL.val; rfl; rfl; (first | exact vpure | exact vread)) | (apply TL.x; rfl; rfl; (first | exact xgrow | exact xput); intro _ _) | (apply TL.guard; rfl; rfl; rfl; (with_reducible (first | exact Is.ndec | exact Is.dec | exact Is.not | ((fail_if_success exact Is.litT); (fail_if_success exact Is.litF); exact Is.base))); intro _; rotate_left; intro _; rotate_right)))
    all_goals (try (exfalso; omega))
    rename_i p3 hp3
    obtain ⟨⟨hd1, hd2⟩, hle3⟩ := hp3
    refine TL.x rfl rfl (X.storeRowE 0 (vs := [p3.2.v]) rfl rfl rfl rfl rfl rfl rfl (by show 0 + k * 5 + 0 + 3 + 1 ≤ s.len * 5; omega) (encs_put (j := 3) (y := ⟨⟨s0.set.name, s0.set.typ, s0.set.life, p3.2⟩, s0.sigs⟩) hs1 (by show 3 + 1 ≤ 5; omega) rfl (by show 0 + k * 5 + 0 + 3 = k * 5 + 3; omega))) ?_
    intro _ _
    repeat (any_goals (first | refine T.seq ?_ | refine T.region ?_ | refine TL.nil ?_ | refine N.next ?_ | refine N.inBlock ?_ | refine N.exit_same ?_ | refine N.exit_then ?_ | refine N.ret_then ?_ | refine N.ret_block ?_ | (apply N.exit_other; rfl) | refine T.ret ?_ | refine T.skip ?_ | refine T.exit ?_ | refine T.block ?_ | (apply T.cond_true; rfl) | (apply T.cond_false; rfl) | (apply T.test; rfl; (with_reducible (first | exact Is.ndec | exact Is.dec | exact Is.not | ((fail_if_success exact Is.litT); (fail_if_success exact Is.litF); exact Is.base))); intro _; rotate_left; intro _; rotate_right) | (apply TL.skip; rfl; rfl; rfl) | (apply TL.skip_none; rfl; rfl) | (apply TL.val; rfl; rfl; (apply V.elem; rfl; rfl; rfl; rfl; rfl; rfl; (show k < s.len; omega); rfl)) | (apply TL.x; rfl; rfl; (apply X.callF0 (f := 114) Tryd.call114; rfl; rfl; (exact fun _ hs => c_CloneSig s0.sigs _ _ hs.sat (hs2.2.mono hle3) (by omega))); intro _ _) | (apply TL.val; rfl; rfl; (apply V.load_own; rfl; rfl; rfl; (exact lmem); exact encs_at (j := 4) (List.getElem?_set_self (by omega)) rfl (by show 0 + k * 5 + 4 = k * 5 + 4; omega))) | (apply TL.val; rfl; rfl; (first | exact vpure | exact vread)) | (apply TL.x; rfl; rfl; (first | exact xgrow | exact xput); intro _ _) | (apply TL.guard; rfl; rfl; rfl; (with_reducible (first | exact Is.ndec | exact Is.dec | exact Is.not | ((fail_if_success exact Is.litT); (fail_if_success exact Is.litF); exact Is.base))); intro _; rotate_left; intro _; rotate_right)))
    rename_i p4 hp4
    obtain ⟨⟨hd3, hd4⟩, hle4⟩ := hp4
    refine TL.x rfl rfl (X.storeRowE 0 (vs := [p4.2.v]) rfl rfl rfl rfl rfl rfl rfl (by show 0 + k * 5 + 4 + 1 ≤ s.len * 5; omega) (encs_put (j := 4) (y := ⟨⟨s0.set.name, s0.set.typ, s0.set.life, p3.2⟩, p4.2⟩) (List.getElem?_set_self (by omega)) (by show 4 + 1 ≤ 5; omega) rfl (by show 0 + k * 5 + 4 = k * 5 + 4; omega))) ?_
    intro _ _
    repeat (any_goals (first | refine T.seq ?_ | refine T.region ?_ | refine TL.nil ?_ | refine N.next ?_ | refine N.inBlock ?_ | refine N.exit_same ?_ | refine N.exit_then ?_ | refine N.ret_then ?_ | refine N.ret_block ?_ | (apply N.exit_other; rfl) | refine T.ret ?_ | refine T.skip ?_ | refine T.exit ?_ | refine T.block ?_ | (apply T.cond_true; rfl) | (apply T.cond_false; rfl) | (apply T.test; rfl; (with_reducible (first | exact Is.ndec | exact Is.dec | exact Is.not | ((fail_if_success exact Is.litT); (fail_if_success exact Is.litF); exact Is.base))); intro _; rotate_left; intro _; rotate_right) | (apply TL.skip; rfl; rfl; rfl) | (apply TL.skip_none; rfl; rfl) | (apply TL.val; rfl; rfl; (first | exact vpure | exact vread)) | (apply TL.x; rfl; rfl; (first | exact xgrow | exact xput); intro _ _) | (apply TL.guard; rfl; rfl; rfl; (with_reducible (first | exact Is.ndec | exact Is.dec | exact Is.not | ((fail_if_success exact Is.litT); (fail_if_success exact Is.litF); exact Is.base))); intro _; rotate_left; intro _; rotate_right)))
    refine N.round (k + 1, p4.1, els1.set k ⟨⟨s0.set.name, s0.set.typ, s0.set.life, p3.2⟩, p4.2⟩) ⟨by show k + 1 ≤ _; omega, (hle.trans hle3).trans hle4, copyTo_up hrel (hle3.trans hle4) hs0 ?_ ⟨⟨hs2.1.1, hs2.1.2.1, hs2.1.2.2.1, hd2.mono hle4⟩, hd4⟩⟩ (by show s.len - (k + 1) < s.len - k; omega) (by (repeat (first | exact True.intro | refine ⟨rfl, ?_⟩ | refine Sub.int rfl (by omega) ?_))) rfl ?_
    · unfold Signed.c RSet.c
      simp only [hd1, hd3]
    · simp only [List.set_cons_zero, List.set_set]
      exact List.Sublist.refl _
  · repeat (any_goals (first | refine T.seq ?_ | refine T.region ?_ | refine TL.nil ?_ | refine N.next ?_ | refine N.inBlock ?_ | refine N.exit_same ?_ | refine N.exit_then ?_ | refine N.ret_then ?_ | refine N.ret_block ?_ | (apply N.exit_other; rfl) | refine T.ret ?_ | refine T.skip ?_ | refine T.exit ?_ | refine T.block ?_ | (apply T.cond_true; rfl) | (apply T.cond_false; rfl) | (apply T.test; rfl; (with_reducible (first | exact Is.ndec | exact Is.dec | exact Is.not | ((fail_if_success exact Is.litT); (fail_if_success exact Is.litF); exact Is.base))); intro _; rotate_left; intro _; rotate_right) | (apply TL.skip; rfl; rfl; rfl) | (apply TL.skip_none; rfl; rfl) | (apply TL.val; rfl; rfl; (first | exact vpure | exact vread)) | (apply TL.x; rfl; rfl; (first | exact xgrow | exact xput); intro _ _) | (apply TL.guard; rfl; rfl; rfl; (with_reducible (first | exact Is.ndec | exact Is.dec | exact Is.not | ((fail_if_success exact Is.litT); (fail_if_success exact Is.litF); exact Is.base))); intro _; rotate_left; intro _; rotate_right)))
    all_goals (try (exfalso; omega))
    apply N.ret1; rfl; (exact rvx)
    intro w1 hst
    obtain ⟨H2, s2, e1, e2, e3, e4, e5⟩ := hst.freezeRow rfl hl1 (copyTo_good hrel)
    exact ⟨(H2, s2), ⟨by show s2.els.map Signed.c = _; rw [e2, copyTo_c hrel], e3⟩, congrArg Ending.returned e1.symm, e5.fresh⟩
theorem c_gatherT (known : Slc Signed) (H : Hp) (w : World) (hs : Sat H w) (hR : Rules H) (hk : known.Good H) (hok : knownOK (known.els.map Signed.c) = true) : Calls Tryd.prog 79 #[known.v] w (RetF w H (fun p : Hp × Nat => MapOf p.1 p.2 known.els) (fun p => .tuple #[.map (some p.2), .bool true]) (fun p => p.1)) :=
  (c_gatherG known H w hs hR hk).mono fun e w' h => by
    rcases h with ⟨_, h⟩ | ⟨h, _⟩
    · exact h
    · rw [hok] at h; cases h
theorem c_gatherF (known : Slc Signed) (H : Hp) (w : World) (hs : Sat H w) (hR : Rules H) (hk : known.Good H) (hok : knownOK (known.els.map Signed.c) = false) : Calls Tryd.prog 79 #[known.v] w (Ret w (.tuple #[.map none, .bool false])) :=
  (c_gatherG known H w hs hR hk).mono fun e w' h => by
    rcases h with ⟨h, _⟩ | ⟨_, h⟩
    · rw [hok] at h; cases h
    · exact h
/-- What 'Ask' hands back. -/
def AskRet (a : NextC × Int) (n : Nat) (H : Hp) (w : World) : Ending → World → Prop := RetF w H (fun p : Hp × Nxt => p.2.c = a.1 ∧ Enc.good p.1 p.2 ∧ (0 < p.2.addrs.len → n ≤ p.2.addrs.b)) (fun p => .tuple #[.agg (enc p.2).toArray, intV a.2]) (fun p => p.1)
theorem ask_no {K : List SignedC} {hints : List Int} {q : Question} (h : ¬ (knownOK K = true ∧ hintsC hints = true ∧ questionOK q = true)) : askC K hints q = (nextNil, 1) := by
  unfold askC
  rw [if_pos]
  simp only [Bool.not_eq_true', Bool.eq_false_iff, ne_eq, Bool.and_eq_true]
  grind
set_option maxHeartbeats 8000000 in
theorem c_iAsk (known : Slc Signed) (hints : Slc Int) (q : Question) (H : Hp) (w : World) (n : Nat) (hnw : n ≤ w.heap.size) (hs : Sat H w) (hR : Rules H) (hk : known.Good H) (hh : hints.Good H) (hq : Enc.good H q) (hsig : ∀ x ∈ known.els, x.sigs.els.length ≤ 1000) : Calls Tryd.prog 35 #[known.v, hints.v, .agg (enc q).toArray] w (AskRet (askC (known.els.map Signed.c) hints.els q) n H w) := by
  refine T.enter (vs := [known.v, hints.v, .agg (enc q).toArray]) (H := H) Tryd.func35 rfl rfl rfl hs ?_
  unfold AskRet
  cases hok : knownOK (known.els.map Signed.c) with
  | false =>
    rw [ask_no (by rintro ⟨h, _⟩; rw [hok] at h; cases h)]
    repeat (any_goals (first | refine T.seq ?_ | refine T.region ?_ | refine TL.nil ?_ | refine N.next ?_ | refine N.inBlock ?_ | refine N.exit_same ?_ | refine N.exit_then ?_ | refine N.ret_then ?_ | refine N.ret_block ?_ | (apply N.exit_other; rfl) | refine T.ret ?_ | refine T.skip ?_ | refine T.exit ?_ | refine T.block ?_ | (apply T.cond_true; rfl) | (apply T.cond_false; rfl) | (apply T.test; rfl; (with_reducible (first | exact Is.ndec | exact Is.dec | exact Is.not | ((fail_if_success exact Is.litT); (fail_if_success exact Is.litF); exact Is.base))); intro _; rotate_left; intro _; rotate_right) | (apply TL.skip; rfl; rfl; rfl) | (apply TL.skip_none; rfl; rfl) | (apply TL.callE (f := 79) [known.v] Tryd.call79; rfl; rfl; rfl; rfl; (exact fun _ hs => c_gatherF known _ _ hs.sat hR hk hok)) | (apply TL.val; rfl; rfl; (apply V.build; rfl; rfl; rfl; rfl; rfl; rfl)) | (apply TL.x; rfl; rfl; (apply X.storeTo 0 (enc nilX); rfl; rfl; rfl; rfl; rfl; rfl; rfl; rfl; rfl; rfl); intro _ _) | (apply TL.val; rfl; rfl; (first | exact vpure | exact vread)) | (apply TL.x; rfl; rfl; (first | exact xgrow | exact xput); intro _ _) | (apply TL.guard; rfl; rfl; rfl; (with_reducible (first | exact Is.ndec | exact Is.dec | exact Is.not | ((fail_if_success exact Is.litT); (fail_if_success exact Is.litF); exact Is.base))); intro _; rotate_left; intro _; rotate_right)))
    all_goals (try contradiction)
    exact N.ret2 rfl (by (exact rvx)) (by (exact rvx)) fun w hst => ⟨(H, nilX), ⟨rfl, nilX_good, fun h => absurd h (Nat.lt_irrefl 0)⟩, rfl, hst.fresh⟩
  | true =>
    obtain ⟨bh, hbh⟩ : ∃ x, hintsC hints.els = x := ⟨_, rfl⟩
    obtain ⟨bn, hbn⟩ : ∃ x, nameOK q.name = x := ⟨_, rfl⟩
    have hqo : questionOK q = (bn && decide (1 ≤ q.typ ∧ q.typ ≤ 8)) := by unfold questionOK; rw [hbn]
    by_cases hgo : bh = true ∧ bn = true ∧ 1 ≤ q.typ ∧ q.typ ≤ 8
    rotate_left
    · rw [ask_no (by rintro ⟨_, h1, h2⟩; rw [hqo] at h2; simp only [Bool.and_eq_true, decide_eq_true_eq] at h2; exact hgo ⟨hbh.symm.trans h1, h2⟩)]
      repeat (any_goals (first | refine T.seq ?_ | refine T.region ?_ | refine TL.nil ?_ | refine N.next ?_ | refine N.inBlock ?_ | refine N.exit_same ?_ | refine N.exit_then ?_ | refine N.ret_then ?_ | refine N.ret_block ?_ | (apply N.exit_other; rfl) | refine T.ret ?_ | refine T.skip ?_ | refine T.exit ?_ | refine T.block ?_ | (apply T.cond_true; rfl) | (apply T.cond_false; rfl) | (apply T.test; rfl; (with_reducible (first | exact Is.ndec | exact Is.dec | exact Is.not | ((fail_if_success exact Is.litT); (fail_if_success exact Is.litF); exact Is.base))); intro _; rotate_left; intro _; rotate_right) | (apply TL.skip; rfl; rfl; rfl) | (apply TL.skip_none; rfl; rfl) | (apply TL.x; rfl; rfl; (apply X.callFE (f := 79) [known.v] Tryd.call79; rfl; rfl; rfl; exact (fun _ hs => c_gatherT known _ _ hs.sat hR hk hok)); intro p hp; have hhp := hh.mono hp.2) | (apply TL.callE (f := 80) [hints.v] Tryd.call80; rfl; rfl; rfl; rfl; (exact fun _ hs => hbh ▸ c_hintsOK hints _ _ hs.sat hhp)) | (apply TL.callE (f := 49) [strV q.name] Tryd.call49; rfl; rfl; rfl; rfl; (exact fun _ hs => hbn ▸ c_nameValid q.name _ _ hs.sat hq.1)) | (apply TL.val; rfl; rfl; (apply V.build; rfl; rfl; rfl; rfl; rfl; rfl)) | (apply TL.x; rfl; rfl; (apply X.storeTo 0 (enc nilX); rfl; rfl; rfl; rfl; rfl; rfl; rfl; rfl; rfl; rfl); intro _ _) | (apply TL.val; rfl; rfl; (first | exact vpure | exact vread)) | (apply TL.x; rfl; rfl; (first | exact xgrow | exact xput); intro _ _) | (apply TL.guard; rfl; rfl; rfl; (with_reducible (first | exact Is.ndec | exact Is.dec | exact Is.not | ((fail_if_success exact Is.litT); (fail_if_success exact Is.litF); exact Is.base))); intro _; rotate_left; intro _; rotate_right)))
      all_goals (try contradiction)
      all_goals first
        | exact N.ret2 rfl (by (exact rvx)) (by (exact rvx)) fun w hst => ⟨(_, nilX), ⟨rfl, nilX_good, fun h => absurd h (Nat.lt_irrefl 0)⟩, rfl, hst.fresh⟩
        | (exfalso; exact hgo ⟨by assumption, by assumption, by omega, by omega⟩)
    · obtain ⟨rfl, rfl, ht1, ht8⟩ := hgo
      have hask : askC (known.els.map Signed.c) hints.els q = match followI (known.els.map Signed.c) 9 [] q.name q.typ with
          | none => (darkN, 0)
          | some (kept, e) => match findC (known.els.map Signed.c) e q.typ with
            | some s => (⟨2, [], [], qNil, kept ++ [s]⟩, 0)
            | none => (nextI (known.els.map Signed.c) hints.els 9 ⟨e, q.typ⟩ [], 0) := by
        unfold askC
        rw [hok, hbh, hqo, decide_eq_true ⟨ht1, ht8⟩]
        rfl
      rw [hask]
      have hh8 : hints.len ≤ 1000 := by
        have := hbh
        unfold hintsC at this
        simp only [Bool.and_eq_true, decide_eq_true_eq] at this
        have := hh.len
        omega
      cases hf : followI (known.els.map Signed.c) 9 [] q.name q.typ with
      | none =>
        simp only
        repeat (any_goals (first | refine T.seq ?_ | refine T.region ?_ | refine TL.nil ?_ | refine N.next ?_ | refine N.inBlock ?_ | refine N.exit_same ?_ | refine N.exit_then ?_ | refine N.ret_then ?_ | refine N.ret_block ?_ | (apply N.exit_other; rfl) | refine T.ret ?_ | refine T.skip ?_ | refine T.exit ?_ | refine T.block ?_ | (apply T.cond_true; rfl) | (apply T.cond_false; rfl) | (apply T.test; rfl; (with_reducible (first | exact Is.ndec | exact Is.dec | exact Is.not | ((fail_if_success exact Is.litT); (fail_if_success exact Is.litF); exact Is.base))); intro _; rotate_left; intro _; rotate_right) | (apply TL.skip; rfl; rfl; rfl) | (apply TL.skip_none; rfl; rfl) | (apply TL.x; rfl; rfl; (apply X.callFE (f := 79) [known.v] Tryd.call79; rfl; rfl; rfl; exact (fun _ hs => c_gatherT known _ _ hs.sat hR hk hok)); intro p hp; have hhp := hh.mono hp.2; have hrp : Enc.good p.1 (⟨p.2, hints, known.els⟩ : Res) := ⟨hp.1, hhp⟩) | (apply TL.callE (f := 80) [hints.v] Tryd.call80; rfl; rfl; rfl; rfl; (exact fun _ hs => hbh ▸ c_hintsOK hints _ _ hs.sat hhp)) | (apply TL.callE (f := 49) [strV q.name] Tryd.call49; rfl; rfl; rfl; rfl; (exact fun _ hs => hbn ▸ c_nameValid q.name _ _ hs.sat hq.1)) | (apply TL.val; rfl; rfl; (apply V.build; rfl; rfl; rfl; rfl; rfl; rfl)) | (apply TL.x; rfl; rfl; (apply X.storeTo 0 (enc (⟨p.2, hints, known.els⟩ : Res)); rfl; rfl; rfl; rfl; rfl; rfl; rfl; rfl; rfl; rfl); intro _ _) | (apply TL.callE (f := 81) [.agg (enc (⟨p.2, hints, known.els⟩ : Res)).toArray, strV q.name, intV q.typ] Tryd.call81; rfl; rfl; rfl; rfl; (exact fun _ hs => c_ifollowF (r := ⟨p.2, hints, known.els⟩) hf hs.sat hrp hok hq.1 hq.2)) | (apply TL.x; rfl; rfl; (apply X.storeTo 1 (enc darkX); rfl; rfl; rfl; rfl; rfl; rfl; rfl; rfl; rfl; rfl); intro _ _) | (apply TL.val; rfl; rfl; (first | exact vpure | exact vread)) | (apply TL.x; rfl; rfl; (first | exact xgrow | exact xput); intro _ _) | (apply TL.guard; rfl; rfl; rfl; (with_reducible (first | exact Is.ndec | exact Is.dec | exact Is.not | ((fail_if_success exact Is.litT); (fail_if_success exact Is.litF); exact Is.base))); intro _; rotate_left; intro _; rotate_right)))
        all_goals (try contradiction)
        all_goals (try (exfalso; omega))
        exact N.ret2 rfl (by (exact rvx)) (by (exact rvx)) fun w hst => ⟨(_, darkX), ⟨rfl, darkX_good, fun h => absurd h (Nat.lt_irrefl 0)⟩, rfl, hst.fresh⟩
      | some ke =>
        obtain ⟨k, e⟩ := ke
        simp only
        have hen : nameOK e = true := follow_name hok hbn hf
        cases hfs : findS known.els e q.typ with
        | none =>
          have hfc : findC (known.els.map Signed.c) e q.typ = none := by rw [findS_c, hfs]; rfl
          have hb : has (known.els.map Signed.c) e q.typ = false := by rw [has_S, hfs]; rfl
          have hx : getS known.els e q.typ = signedNil := by unfold getS; rw [hfs]; rfl
          rw [hfc]
          simp only
          repeat (any_goals (first | refine T.seq ?_ | refine T.region ?_ | refine TL.nil ?_ | refine N.next ?_ | refine N.inBlock ?_ | refine N.exit_same ?_ | refine N.exit_then ?_ | refine N.ret_then ?_ | refine N.ret_block ?_ | (apply N.exit_other; rfl) | refine T.ret ?_ | refine T.skip ?_ | refine T.exit ?_ | refine T.block ?_ | (apply T.cond_true; rfl) | (apply T.cond_false; rfl) | (apply T.test; rfl; (with_reducible (first | exact Is.ndec | exact Is.dec | exact Is.not | ((fail_if_success exact Is.litT); (fail_if_success exact Is.litF); exact Is.base))); intro _; rotate_left; intro _; rotate_right) | (apply TL.skip; rfl; rfl; rfl) | (apply TL.skip_none; rfl; rfl) | (apply TL.x; rfl; rfl; (apply X.callFE (f := 79) [known.v] Tryd.call79; rfl; rfl; rfl; exact (fun _ hs => c_gatherT known _ _ hs.sat hR hk hok)); intro p hp; have hhp := hh.mono hp.2; have hrp : Enc.good p.1 (⟨p.2, hints, known.els⟩ : Res) := ⟨hp.1, hhp⟩) | (apply TL.callE (f := 80) [hints.v] Tryd.call80; rfl; rfl; rfl; rfl; (exact fun _ hs => hbh ▸ c_hintsOK hints _ _ hs.sat hhp)) | (apply TL.callE (f := 49) [strV q.name] Tryd.call49; rfl; rfl; rfl; rfl; (exact fun _ hs => hbn ▸ c_nameValid q.name _ _ hs.sat hq.1)) | (apply TL.val; rfl; rfl; (apply V.build; rfl; rfl; rfl; rfl; rfl; rfl)) | (apply TL.x; rfl; rfl; (apply X.storeTo 0 (enc (⟨p.2, hints, known.els⟩ : Res)); rfl; rfl; rfl; rfl; rfl; rfl; rfl; rfl; rfl; rfl); intro _ _) | (apply TL.x; rfl; rfl; (apply X.callO0 (f := 81) Tryd.call81; rfl; rfl; exact (fun _ hs => c_ifollowT (r := ⟨p.2, hints, known.els⟩) hf hs.sat hrp hok hq.1 hq.2)); intro g hg) | (apply TL.callE (f := 82) [.agg (enc (⟨p.2, hints, known.els⟩ : Res)).toArray, strV e, intV q.typ] Tryd.call82; rfl; rfl; rfl; rfl; (exact fun _ hs => c_isetV (r := ⟨p.2, hints, known.els⟩) hx hb hs.sat hrp)) | (apply TL.x; rfl; rfl; (apply X.storeTo 0 (enc signedNil); rfl; rfl; rfl; rfl; rfl; rfl; rfl; rfl; rfl; rfl); intro _ _) | (apply TL.x; rfl; rfl; (apply X.callFE (f := 84) [.agg (enc (⟨p.2, hints, known.els⟩ : Res)).toArray, .agg (enc (⟨e, q.typ⟩ : Question)).toArray, .slice none 0 0] Tryd.call84; rfl; rfl; rfl; exact (fun _ hs => c_inext ⟨p.2, hints, known.els⟩ hok hh8 8 ⟨e, q.typ⟩ (Slc.nil _) n _ _ (Nat.le_trans hnw hs.below.size) hs.sat hrp Slc.nil_good rfl hen hq.2)); intro pn hpn) | (apply TL.x; rfl; rfl; (apply X.storeTo 3 (enc pn.2); rfl; rfl; rfl; rfl; rfl; rfl; rfl; rfl; rfl; rfl); intro _ _) | (apply TL.val; rfl; rfl; (first | exact vpure | exact vread)) | (apply TL.x; rfl; rfl; (first | exact xgrow | exact xput); intro _ _) | (apply TL.guard; rfl; rfl; rfl; (with_reducible (first | exact Is.ndec | exact Is.dec | exact Is.not | ((fail_if_success exact Is.litT); (fail_if_success exact Is.litF); exact Is.base))); intro _; rotate_left; intro _; rotate_right)))
          all_goals (try contradiction)
          all_goals (try (exfalso; omega))
          exact N.ret2 rfl (by (exact rvx)) (by (exact rvx)) fun w hst => ⟨pn, hpn.1, rfl, hst.fresh⟩
        | some x =>
          have hfc : findC (known.els.map Signed.c) e q.typ = some x.c := by rw [findS_c, hfs]; rfl
          have hb : has (known.els.map Signed.c) e q.typ = true := by rw [has_S, hfs]; rfl
          have hx : getS known.els e q.typ = x := by unfold getS; rw [hfs]; rfl
          have hxm : x ∈ known.els := List.mem_of_find?_eq_some hfs
          rw [hfc]
          simp only
          repeat (any_goals (first | refine T.seq ?_ | refine T.region ?_ | refine TL.nil ?_ | refine N.next ?_ | refine N.inBlock ?_ | refine N.exit_same ?_ | refine N.exit_then ?_ | refine N.ret_then ?_ | refine N.ret_block ?_ | (apply N.exit_other; rfl) | refine T.ret ?_ | refine T.skip ?_ | refine T.exit ?_ | refine T.block ?_ | (apply T.cond_true; rfl) | (apply T.cond_false; rfl) | (apply T.test; rfl; (with_reducible (first | exact Is.ndec | exact Is.dec | exact Is.not | ((fail_if_success exact Is.litT); (fail_if_success exact Is.litF); exact Is.base))); intro _; rotate_left; intro _; rotate_right) | (apply TL.skip; rfl; rfl; rfl) | (apply TL.skip_none; rfl; rfl) | (apply TL.x; rfl; rfl; (apply X.callFE (f := 79) [known.v] Tryd.call79; rfl; rfl; rfl; exact (fun _ hs => c_gatherT known _ _ hs.sat hR hk hok)); intro p hp; have hhp := hh.mono hp.2; have hrp : Enc.good p.1 (⟨p.2, hints, known.els⟩ : Res) := ⟨hp.1, hhp⟩) | (apply TL.callE (f := 80) [hints.v] Tryd.call80; rfl; rfl; rfl; rfl; (exact fun _ hs => hbh ▸ c_hintsOK hints _ _ hs.sat hhp)) | (apply TL.callE (f := 49) [strV q.name] Tryd.call49; rfl; rfl; rfl; rfl; (exact fun _ hs => hbn ▸ c_nameValid q.name _ _ hs.sat hq.1)) | (apply TL.val; rfl; rfl; (apply V.build; rfl; rfl; rfl; rfl; rfl; rfl)) | (apply TL.x; rfl; rfl; (apply X.storeTo 0 (enc (⟨p.2, hints, known.els⟩ : Res)); rfl; rfl; rfl; rfl; rfl; rfl; rfl; rfl; rfl; rfl); intro _ _) | (apply TL.x; rfl; rfl; (apply X.callO0 (f := 81) Tryd.call81; rfl; rfl; exact (fun _ hs => c_ifollowT (r := ⟨p.2, hints, known.els⟩) hf hs.sat hrp hok hq.1 hq.2)); rintro ⟨vg, got⟩ ⟨⟨hg1, hg2, hg3, hg4⟩, hg5⟩) | (apply TL.callE (f := 82) [.agg (enc (⟨p.2, hints, known.els⟩ : Res)).toArray, strV e, intV q.typ] Tryd.call82; rfl; rfl; rfl; rfl; (exact fun _ hs => c_isetV (r := ⟨p.2, hints, known.els⟩) hx hb hs.sat hrp)) | (apply TL.x; rfl; rfl; (apply X.storeTo 0 (enc x); rfl; rfl; rfl; rfl; rfl; rfl; rfl; rfl; rfl; rfl); intro _ _) | (apply TL.x; rfl; rfl; (apply X.append1 2; rfl; rfl; rfl; rfl; rfl; rfl; rfl; rfl; rfl; exact List.Mem.head _; rfl; rfl; rfl; (refine Nat.le_trans (Nat.mul_le_mul_left _ (show _ ≤ 1000 by decide)) ?_; show (got.length + 1) * 1000 ≤ _; simp only at hg2; omega); (show got.length + 1 ≤ _; simp only at hg2; omega)); intro p2 _; apply TL.frzRowE 2 (got ++ [x]); rfl; rfl; exact (encs_snoc got x).symm; (rw [List.length_append]; rfl); (intro y hy; rcases List.mem_append.1 hy with hy | hy; exact hp.1.good y (hg4 y hy); (rw [List.mem_singleton] at hy; rw [hy]; exact hp.1.good x hxm)); intro H5 s5 e5 e6 hg6 hle5) | (apply TL.x; rfl; rfl; (apply X.callFE (f := 83) [.slice (some ⟨p2.1, 0, none⟩) (got.length + 1) p2.2] Tryd.call83; rfl; rfl; rfl; exact (fun _ hs => by have h := c_icloned s5 _ _ hs.sat hg6 (by have := hg6.len; rw [e6, List.length_append] at this; simp only at hg2; simp at this; omega) (by rw [e6]; intro y hy; rcases List.mem_append.1 hy with hy | hy; exact ⟨Nat.le_trans (setOK_short (known_set hok (List.mem_map_of_mem (f := Signed.c) (hg4 y hy)))).data (by decide), hsig y (hg4 y hy)⟩; (rw [List.mem_singleton] at hy; rw [hy]; exact ⟨Nat.le_trans (setOK_short (known_set hok (List.mem_map_of_mem (f := Signed.c) hxm))).data (by decide), hsig x hxm⟩)); rw [e5, e6] at h; exact h)); intro pc hpc) | (apply TL.x; rfl; rfl; (apply X.storeTo 4 (enc (⟨2, [], Slc.nil _, ⟨[], 0⟩, pc.2⟩ : Nxt)); rfl; rfl; rfl; rfl; rfl; rfl; rfl; rfl; rfl; rfl); intro _ _) | (apply TL.x; rfl; rfl; (apply X.storeTo 3 (enc (⟨2, [], Slc.nil _, ⟨[], 0⟩, pc.2⟩ : Nxt)); rfl; rfl; rfl; rfl; rfl; rfl; rfl; rfl; rfl; rfl); intro _ _) | (apply TL.val; rfl; rfl; (first | exact vpure | exact vread)) | (apply TL.x; rfl; rfl; (first | exact xgrow | exact xput); intro _ _) | (apply TL.guard; rfl; rfl; rfl; (with_reducible (first | exact Is.ndec | exact Is.dec | exact Is.not | ((fail_if_success exact Is.litT); (fail_if_success exact Is.litF); exact Is.base))); intro _; rotate_left; intro _; rotate_right)))
          all_goals (try contradiction)
          all_goals (try (exfalso; omega))
          refine N.ret2 rfl (by (exact rvx)) (by (exact rvx)) fun w hst => ⟨(pc.1, ⟨2, [], Slc.nil _, ⟨[], 0⟩, pc.2⟩), ⟨?_, ⟨show I64 2 by decide, show LenOk [] by decide, Slc.nil_good, ⟨show LenOk [] by decide, show I64 0 by decide⟩, hpc.1.2⟩, (fun h => absurd h (Nat.lt_irrefl 0))⟩, rfl, hst.fresh⟩
          unfold Nxt.c
          simp only [hpc.1.1, List.map_append, hg1]
          rfl
end Go.Proofs.YtfbhcemlnojejaaDoor
