/- Walks: a cache is copied (prefetch.cloned). -/
import Derived.Test.YtogcofeencgipaaGreatDoorZQE
import Derived.Test.YtogcofeencgipaaGreatDoorZNP
namespace Go.Proofs.YtogcofeencgipaaGreatDoor
set_option linter.unusedVariables false
set_option linter.unusedSimpArgs false
open Go Go.RowKit
open Enc (enc)
set_option maxRecDepth 20000
theorem c_CloneEntryO (s : Slc Entry) (H : Hp) (w : World) (hs : Sat H w) (hg : s.Good H) (hb : s.len ≤ 1000) : Calls Tryz.prog 151 #[s.v] w (RetO w H (fun p : Option Nat × Nat => p.1 = none → s.len = 0 ∧ p.2 = 0) (fun p => .slice (p.1.map fun g => ⟨g, 0, none⟩) s.len p.2) (fun _ => H) (fun p => [.row (.slice (p.1.map fun g => ⟨g, 0, none⟩) s.len p.2) 67 (Enc.size Entry) s.len (encs s.els)])) := by
  refine T.enter (vs := [s.v]) (H := H) Tryz.func151 rfl rfl rfl hs ?_
  repeat (any_goals (first | refine T.seq ?_ | refine T.region ?_ | refine TL.nil ?_ | refine N.next ?_ | refine N.inBlock ?_ | refine N.exit_same ?_ | refine N.exit_then ?_ | refine N.ret_then ?_ | refine N.ret_block ?_ | (apply N.exit_other; rfl) | refine T.ret ?_ | refine T.skip ?_ | refine T.exit ?_ | refine T.block ?_ | (apply T.cond_true; rfl) | (apply T.cond_false; rfl) | (apply T.test; rfl; (with_reducible (first | exact Is.ndec | exact Is.dec | exact Is.not | ((fail_if_success exact Is.litT); (fail_if_success exact Is.litF); exact Is.base))); intro _; rotate_left; intro _; rotate_right) | (apply TL.skip; rfl; rfl; rfl) | (apply TL.skip_none; rfl; rfl) | (apply TL.val; rfl; rfl; (apply V.sliceNil; rfl; rfl; rfl; rfl)) | (apply TL.x; rfl; rfl; (apply X.appendSlc 0 s; rfl; rfl; rfl; rfl; rfl; rfl; rfl; rfl; rfl; rfl; exact hg; (refine Nat.le_trans (Nat.mul_le_mul_left _ (show _ ≤ 1000 by decide)) ?_; omega); omega); intro _ _) | (apply TL.val; rfl; rfl; (first | exact vpure | exact vread)) | (apply TL.x; rfl; rfl; (first | exact xgrow | exact xput); intro _ _) | (apply TL.guard; rfl; rfl; rfl; (with_reducible (first | exact Is.ndec | exact Is.dec | exact Is.not | ((fail_if_success exact Is.litT); (fail_if_success exact Is.litF); exact Is.base))); intro _; rotate_left; intro _; rotate_right)))
  · rename_i h
    have hl0 : s.len = 0 := by
      rcases Nat.eq_zero_or_pos s.len with h' | h'
      · exact h'
      · rw [hg.at_ h'] at h; cases h
    have hels : s.els = [] := List.eq_nil_of_length_eq_zero (by rw [hg.len]; exact hl0)
    apply N.ret1; rfl; (exact rvx)
    intro w1 hst
    refine ⟨(none, 0), fun _ => ⟨hl0, rfl⟩, by rw [hl0]; rfl, ?_⟩
    rw [hl0, hels]
    exact hst.nilRow _ _
  · rename_i v _
    apply N.ret1; rfl; (exact rvx)
    intro w1 hst
    obtain ⟨o, c, hv, h0⟩ := hst.rowShape (List.Mem.head _)
    rw [Nat.zero_add] at hv h0
    refine ⟨(o, c), h0, by rw [hv], ?_⟩
    have hst' := hst.sub (L' := [.row v 67 _ (0 + s.len) ([] ++ encs s.els)]) (by (first | exact List.Sublist.refl _ | exact List.nil_sublist _ | exact List.Sublist.cons _ (List.Sublist.refl _) | exact List.Sublist.cons _ (List.Sublist.cons _ (List.Sublist.refl _))))
    rw [Nat.zero_add, List.nil_append, hv] at hst'
    exact hst'
theorem encs_atQ {α : Type} [Enc α] {l : List α} {k j o : Nat} {x : α} {v : Value} (hk : l[k]? = some x) (hj : (enc x)[j]? = some v) (ho : o = k * Enc.size α + j) : (encs l)[o]? = some v := by
  rw [ho]; exact encs_get l k j x v hk hj
set_option maxHeartbeats 4000000 in
theorem c_pcloned (c : Cache) (H : Hp) (w : World) (hs : Sat H w) (hg : Enc.good H c) (hb : c.list.len ≤ 1000) (hd : Short c.list.els) : Calls Tryz.prog 91 #[.agg (enc c).toArray] w (RetF w H (fun p : Hp × Cache => p.2.c = c.c ∧ Enc.good p.1 p.2) (fun p => .agg (enc p.2).toArray) (fun p => p.1)) := by
  have g8 : c.list.Good H := hg
  have hlen : c.list.els.length = c.list.len := g8.len
  refine T.enter (vs := [.agg (enc c).toArray]) (H := H) Tryz.func91 rfl rfl rfl hs ?_
  repeat (any_goals (first | refine T.seq ?_ | refine T.region ?_ | refine TL.nil ?_ | refine N.next ?_ | refine N.inBlock ?_ | refine N.exit_same ?_ | refine N.exit_then ?_ | refine N.ret_then ?_ | refine N.ret_block ?_ | (apply N.exit_other; rfl) | refine T.ret ?_ | refine T.skip ?_ | refine T.exit ?_ | refine T.block ?_ | (apply T.cond_true; rfl) | (apply T.cond_false; rfl) | (apply T.test; rfl; (with_reducible (first | exact Is.ndec | exact Is.dec | exact Is.not | ((fail_if_success exact Is.litT); (fail_if_success exact Is.litF); exact Is.base))); intro _; rotate_left; intro _; rotate_right) | (apply TL.skip; rfl; rfl; rfl) | (apply TL.skip_none; rfl; rfl) | (apply TL.x; rfl; rfl; (apply X.callO0 (f := 151) Tryz.call151; rfl; rfl; (exact fun _ hs => c_CloneEntryO _ _ _ hs.sat g8 (by omega))); intro _ _) | (apply TL.val; rfl; rfl; (first | exact vpure | exact vread)) | (apply TL.x; rfl; rfl; (first | exact xgrow | exact xput); intro _ _) | (apply TL.guard; rfl; rfl; rfl; (with_reducible (first | exact Is.ndec | exact Is.dec | exact Is.not | ((fail_if_success exact Is.litT); (fail_if_success exact Is.litF); exact Is.base))); intro _; rotate_left; intro _; rotate_right)))
  rename_i b1 _ b2 _ p hp _ _
  obtain ⟨o, c'⟩ := p
  have hp0 : o = none → c.list.len = 0 ∧ c' = 0 := hp.1
  refine T.loop (G := Nat × Hp × List Entry) (fun g => [(1, .pointer (some ⟨b1, 0, none⟩)), (2, .pointer (some ⟨b2, 0, none⟩)), (11, intV c.list.len), (12, intV g.1)]) (fun g => g.2.1)
    (fun g => [.row (.slice (o.map fun g => ⟨g, 0, none⟩) c.list.len c') 67 7 c.list.len (encs g.2.2), .blk b2 46 [.slice none 0 0], .blk b1 46 [.slice (o.map fun g => ⟨g, 0, none⟩) c.list.len c']])
    (fun g => g.1 ≤ c.list.len ∧ H.le g.2.1 ∧ CopyE g.2.1 c.list.els g.2.2 g.1) (fun g => c.list.len - g.1) (0, H, c.list.els) ⟨Nat.zero_le _, .refl _, rfl, fun j s hj => ⟨s, hj, rfl, g8.els _ (List.mem_of_getElem? hj), fun _ => rfl⟩⟩ (by (repeat (first | exact True.intro | refine ⟨rfl, ?_⟩ | refine Sub.int rfl (by omega) ?_))) rfl (by (first | exact List.Sublist.refl _ | exact List.nil_sublist _ | exact List.Sublist.cons _ (List.Sublist.refl _) | exact List.Sublist.cons _ (List.Sublist.cons _ (List.Sublist.refl _)))) ?_
  rintro ⟨k, H1, els1⟩ ⟨hk, hle, hrel⟩
  simp only at hk hle hrel ⊢
  have hl1 : els1.length = c.list.len := by rw [hrel.1, hlen]
  by_cases hlt : k < c.list.len
  · obtain ⟨gb, rfl⟩ : ∃ gb, o = some gb := by
      cases o with
      | none => have := (hp0 rfl).1; omega
      | some gb => exact ⟨gb, rfl⟩
    obtain ⟨s0, hs0⟩ : ∃ s0, c.list.els[k]? = some s0 := ⟨_, List.getElem?_eq_getElem (by omega)⟩
    have hs1 : els1[k]? = some s0 := by
      obtain ⟨s', e1, _, _, e4⟩ := hrel.2 k s0 hs0
      rw [e1, e4 (Nat.le_refl _)]
    have hs2 : Enc.good H1 s0 := Enc.mono hle (g8.els _ (List.mem_of_getElem? hs0))
    obtain ⟨hb3, hb4⟩ := hd s0 (List.mem_of_getElem? hs0)
    have hkl : k < els1.length := by omega
    repeat (any_goals (first | refine T.seq ?_ | refine T.region ?_ | refine TL.nil ?_ | refine N.next ?_ | refine N.inBlock ?_ | refine N.exit_same ?_ | refine N.exit_then ?_ | refine N.ret_then ?_ | refine N.ret_block ?_ | (apply N.exit_other; rfl) | refine T.ret ?_ | refine T.skip ?_ | refine T.exit ?_ | refine T.block ?_ | (apply T.cond_true; rfl) | (apply T.cond_false; rfl) | (apply T.test; rfl; (with_reducible (first | exact Is.ndec | exact Is.dec | exact Is.not | ((fail_if_success exact Is.litT); (fail_if_success exact Is.litF); exact Is.base))); intro _; rotate_left; intro _; rotate_right) | (apply TL.skip; rfl; rfl; rfl) | (apply TL.skip_none; rfl; rfl) | (apply TL.val; rfl; rfl; (apply V.nilCheck; rfl)) | (apply TL.val; rfl; rfl; (apply V.elem; rfl; rfl; rfl; rfl; rfl; rfl; (show k < c.list.len; omega); rfl)) | (apply TL.x; rfl; rfl; (apply X.callF0 (f := 152) Tryz.call152; rfl; rfl; (exact fun _ hs => c_CloneDatum s0.signed.set.data _ _ hs.sat hs2.1.1.2.2.2 hb3)); intro _ _) | (apply TL.val; rfl; rfl; (apply V.load_own; rfl; rfl; rfl; (exact lmem); exact encs_atQ (j := 3) hs1 rfl (by show 0 + k * 7 + 0 + 0 + 3 = k * 7 + 3; omega))) | (apply TL.val; rfl; rfl; (first | exact vpure | exact vread)) | (apply TL.x; rfl; rfl; (first | exact xgrow | exact xput); intro _ _) | (apply TL.guard; rfl; rfl; rfl; (with_reducible (first | exact Is.ndec | exact Is.dec | exact Is.not | ((fail_if_success exact Is.litT); (fail_if_success exact Is.litF); exact Is.base))); intro _; rotate_left; intro _; rotate_right)))
    all_goals (try (exfalso; omega))
    rename_i p3 hp3
    obtain ⟨⟨hd1, hd2⟩, hle3⟩ := hp3
    refine TL.x rfl rfl (X.storeRowE 0 (vs := [p3.2.v]) rfl rfl rfl rfl rfl rfl rfl (by show 0 + k * 7 + 0 + 0 + 3 + 1 ≤ c.list.len * 7; omega) (encs_put (j := 3) (y := (⟨⟨⟨s0.signed.set.name, s0.signed.set.typ, s0.signed.set.life, p3.2⟩, s0.signed.sigs⟩, s0.zone, s0.til⟩ : Entry)) hs1 (by show 3 + 1 ≤ 7; omega) rfl (by show 0 + k * 7 + 0 + 0 + 3 = k * 7 + 3; omega))) ?_
    intro _ _
    repeat (any_goals (first | refine T.seq ?_ | refine T.region ?_ | refine TL.nil ?_ | refine N.next ?_ | refine N.inBlock ?_ | refine N.exit_same ?_ | refine N.exit_then ?_ | refine N.ret_then ?_ | refine N.ret_block ?_ | (apply N.exit_other; rfl) | refine T.ret ?_ | refine T.skip ?_ | refine T.exit ?_ | refine T.block ?_ | (apply T.cond_true; rfl) | (apply T.cond_false; rfl) | (apply T.test; rfl; (with_reducible (first | exact Is.ndec | exact Is.dec | exact Is.not | ((fail_if_success exact Is.litT); (fail_if_success exact Is.litF); exact Is.base))); intro _; rotate_left; intro _; rotate_right) | (apply TL.skip; rfl; rfl; rfl) | (apply TL.skip_none; rfl; rfl) | (apply TL.val; rfl; rfl; (apply V.nilCheck; rfl)) | (apply TL.x; rfl; rfl; (apply X.callF0 (f := 153) Tryz.call153; rfl; rfl; (exact fun _ hs => c_CloneSig s0.signed.sigs _ _ hs.sat (hs2.1.2.mono hle3) hb4)); intro _ _) | (apply TL.val; rfl; rfl; (apply V.load_own; rfl; rfl; rfl; (exact lmem); exact encs_atQ (j := 4) (List.getElem?_set_self hkl) rfl (by show 0 + k * 7 + 0 + 4 = k * 7 + 4; omega))) | (apply TL.val; rfl; rfl; (first | exact vpure | exact vread)) | (apply TL.x; rfl; rfl; (first | exact xgrow | exact xput); intro _ _) | (apply TL.guard; rfl; rfl; rfl; (with_reducible (first | exact Is.ndec | exact Is.dec | exact Is.not | ((fail_if_success exact Is.litT); (fail_if_success exact Is.litF); exact Is.base))); intro _; rotate_left; intro _; rotate_right)))
    rename_i p4 hp4
    obtain ⟨⟨hd3, hd4⟩, hle4⟩ := hp4
    refine TL.x rfl rfl (X.storeRowE 0 (vs := [p4.2.v]) rfl rfl rfl rfl rfl rfl rfl (by show 0 + k * 7 + 0 + 4 + 1 ≤ c.list.len * 7; omega) (encs_put (j := 4) (y := (⟨⟨⟨s0.signed.set.name, s0.signed.set.typ, s0.signed.set.life, p3.2⟩, p4.2⟩, s0.zone, s0.til⟩ : Entry)) (List.getElem?_set_self hkl) (by show 4 + 1 ≤ 7; omega) rfl (by show 0 + k * 7 + 0 + 4 = k * 7 + 4; omega))) ?_
    intro _ _
    repeat (any_goals (first | refine T.seq ?_ | refine T.region ?_ | refine TL.nil ?_ | refine N.next ?_ | refine N.inBlock ?_ | refine N.exit_same ?_ | refine N.exit_then ?_ | refine N.ret_then ?_ | refine N.ret_block ?_ | (apply N.exit_other; rfl) | refine T.ret ?_ | refine T.skip ?_ | refine T.exit ?_ | refine T.block ?_ | (apply T.cond_true; rfl) | (apply T.cond_false; rfl) | (apply T.test; rfl; (with_reducible (first | exact Is.ndec | exact Is.dec | exact Is.not | ((fail_if_success exact Is.litT); (fail_if_success exact Is.litF); exact Is.base))); intro _; rotate_left; intro _; rotate_right) | (apply TL.skip; rfl; rfl; rfl) | (apply TL.skip_none; rfl; rfl) | (apply TL.val; rfl; rfl; (first | exact vpure | exact vread)) | (apply TL.x; rfl; rfl; (first | exact xgrow | exact xput); intro _ _) | (apply TL.guard; rfl; rfl; rfl; (with_reducible (first | exact Is.ndec | exact Is.dec | exact Is.not | ((fail_if_success exact Is.litT); (fail_if_success exact Is.litF); exact Is.base))); intro _; rotate_left; intro _; rotate_right)))
    refine N.round (k + 1, p4.1, els1.set k ⟨⟨⟨s0.signed.set.name, s0.signed.set.typ, s0.signed.set.life, p3.2⟩, p4.2⟩, s0.zone, s0.til⟩) ⟨by show k + 1 ≤ _; omega, (hle.trans hle3).trans hle4, copyE_up hrel (hle3.trans hle4) hs0 ?_ ⟨⟨⟨hs2.1.1.1, hs2.1.1.2.1, hs2.1.1.2.2.1, hd2.mono hle4⟩, hd4⟩, hs2.2⟩⟩ (by show c.list.len - (k + 1) < c.list.len - k; omega) (by (repeat (first | exact True.intro | refine ⟨rfl, ?_⟩ | refine Sub.int rfl (by omega) ?_))) rfl ?_
    · unfold Entry.c Signed.c RSet.c
      simp only [hd1, hd3]
    · simp only [List.set_cons_zero, List.set_set]
      exact List.Sublist.refl _
  · repeat (any_goals (first | refine T.seq ?_ | refine T.region ?_ | refine TL.nil ?_ | refine N.next ?_ | refine N.inBlock ?_ | refine N.exit_same ?_ | refine N.exit_then ?_ | refine N.ret_then ?_ | refine N.ret_block ?_ | (apply N.exit_other; rfl) | refine T.ret ?_ | refine T.skip ?_ | refine T.exit ?_ | refine T.block ?_ | (apply T.cond_true; rfl) | (apply T.cond_false; rfl) | (apply T.test; rfl; (with_reducible (first | exact Is.ndec | exact Is.dec | exact Is.not | ((fail_if_success exact Is.litT); (fail_if_success exact Is.litF); exact Is.base))); intro _; rotate_left; intro _; rotate_right) | (apply TL.skip; rfl; rfl; rfl) | (apply TL.skip_none; rfl; rfl) | (apply TL.val; rfl; rfl; (first | exact vpure | exact vread)) | (apply TL.x; rfl; rfl; (first | exact xgrow | exact xput); intro _ _) | (apply TL.guard; rfl; rfl; rfl; (with_reducible (first | exact Is.ndec | exact Is.dec | exact Is.not | ((fail_if_success exact Is.litT); (fail_if_success exact Is.litF); exact Is.base))); intro _; rotate_left; intro _; rotate_right)))
    all_goals (try (exfalso; omega))
    apply N.ret1; rfl; (exact rvx)
    intro w1 hst
    obtain ⟨H2, s2, e1, e2, e3, e4, e5⟩ := hst.freezeRow rfl hl1 (copyE_good hrel)
    refine ⟨(H2, ⟨s2⟩), ⟨?_, e3⟩, ?_, e5.fresh⟩
    · show s2.els.map Entry.c = c.list.els.map Entry.c
      rw [e2, copyE_c hrel]
    · show Ending.returned _ = Ending.returned (Value.agg #[s2.v])
      rw [e1]; rfl
end Go.Proofs.YtogcofeencgipaaGreatDoor
