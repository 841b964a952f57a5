/- Walks: copies of answers, and the moves of a forwarding resolver. -/
import Derived.Test.YtohfliekhbpopaaDoorFC
import Derived.Test.YtohfliekhbpopaaDoorFB
namespace Go.Proofs.YtohfliekhbpopaaDoor
set_option linter.unusedVariables false
set_option linter.unusedSimpArgs false
open Go Go.RowKit
open Enc (enc)
set_option maxRecDepth 20000

/-- els' says what els says; behind k it is the same. -/
def CopyTo (H : Hp) (els els' : List Signed) (k : Nat) : Prop := els'.length = els.length ∧ ∀ j s, els[j]? = some s → ∃ s', els'[j]? = some s' ∧ s'.c = s.c ∧ Enc.good H s' ∧ (k ≤ j → s' = s)
theorem copyTo_up {H H' : Hp} {els els' : List Signed} {k : Nat} {s y : Signed} (h : CopyTo H els els' k) (hle : H.le H') (hk : els[k]? = some s) (hc : y.c = s.c) (hy : Enc.good H' y) : CopyTo H' els (els'.set k y) (k + 1) := by
  refine ⟨by rw [List.length_set]; exact h.1, fun j t hj => ?_⟩
  obtain ⟨s', h1, h2, h3, h4⟩ := h.2 j t hj
  by_cases e : k = j
  · subst e
    rw [hk] at hj
    cases hj
    exact ⟨y, List.getElem?_set_self (List.getElem?_eq_some_iff.1 h1).1, hc, hy, fun h' => by omega⟩
  · exact ⟨s', by rw [List.getElem?_set_ne e]; exact h1, h2, Enc.mono hle h3, fun h' => h4 (by omega)⟩
theorem copyTo_c {H : Hp} {els els' : List Signed} {k : Nat} (h : CopyTo H els els' k) : els'.map Signed.c = els.map Signed.c := by
  apply List.ext_getElem?
  intro j
  rw [List.getElem?_map, List.getElem?_map]
  cases hj : els[j]? with
  | none =>
    rw [List.getElem?_eq_none_iff, ← h.1, ← List.getElem?_eq_none_iff] at hj
    rw [hj]
  | some s =>
    obtain ⟨s', h1, h2, _⟩ := h.2 j s hj
    rw [h1]; exact congrArg some h2
theorem copyTo_good {H : Hp} {els els' : List Signed} {k : Nat} (h : CopyTo H els els' k) : ∀ x ∈ els', Enc.good H x := fun x hx => by
  obtain ⟨j, hj, rfl⟩ := List.mem_iff_getElem.1 hx
  obtain ⟨s', h1, _, h3, _⟩ := h.2 j (els[j]'(by rw [← h.1]; exact hj)) (List.getElem?_eq_getElem _)
  rw [List.getElem?_eq_getElem hj] at h1
  cases h1; exact h3
theorem encs_at {α : Type} [Enc α] {l : List α} {k j o : Nat} {x : α} {v : Value} (hk : l[k]? = some x) (hj : (enc x)[j]? = some v) (ho : o = k * Enc.size α + j) : (encs l)[o]? = some v := by
  rw [ho]; exact encs_get l k j x v hk hj
def zeroAns : Answer := ⟨0, Slc.nil _, []⟩
def Answer.withSets (a : Answer) (s : Slc Signed) : Answer := { a with sets := s }
/-- Few enough to be copied. -/
def AnsFew (a : Answer) : Prop := a.sets.len ≤ 40 ∧ ∀ s ∈ a.sets.els, s.set.data.els.length ≤ 8 ∧ s.sigs.els.length ≤ 6
set_option maxHeartbeats 2000000 in
theorem c_fcloned (a : Answer) (H : Hp) (w : World) (hs : Sat H w) (hg : Enc.good H a) (hb : AnsFew a) : Calls Tryd.prog 60 #[.agg (enc a).toArray] w (RetF w H (fun p : Hp × Answer => p.2.c = a.c ∧ Enc.good p.1 p.2) (fun p => .agg (enc p.2).toArray) (fun p => p.1)) := by
  obtain ⟨hb1, hb2⟩ := hb
  have g8 := hg.2.1
  have hlen : a.sets.els.length = a.sets.len := g8.len
  refine T.enter (vs := [.agg (enc a).toArray]) (H := H) Tryd.func60 rfl rfl rfl hs ?_
  repeat (any_goals (first | refine T.seq ?_ | refine T.region ?_ | (apply T.regionD wide; rfl) | refine TL.nil ?_ | refine N.next ?_ | refine N.inBlock ?_ | refine N.exit_same ?_ | refine N.exit_then ?_ | refine N.ret_then ?_ | refine N.ret_block ?_ | (apply N.exit_other; rfl) | refine T.ret ?_ | refine T.skip ?_ | refine T.exit ?_ | refine T.block ?_ | (apply T.cond_true; rfl) | (apply T.cond_false; rfl) | (apply T.test; rfl; (with_reducible (first | exact Is.ndec | exact Is.dec | exact Is.not | ((fail_if_success exact Is.litT); (fail_if_success exact Is.litF); exact Is.base))); intro _; rotate_left; intro _; rotate_right) | (apply TL.skip; rfl; rfl; rfl) | (apply TL.skip_none; rfl; rfl) | (apply GT.skip; rfl; rfl; rfl; decide +kernel) | (apply TL.x; rfl; rfl; (apply X.callO0 (f := 89) Tryd.call89; rfl; rfl; (exact fun _ hs => c_CloneSignedO _ _ _ hs.sat g8 (by omega))); intro _ _) | (apply GS.grow; rfl; rfl; (apply X.callO0 (f := 89) Tryd.call89; rfl; rfl; (exact fun _ hs => c_CloneSignedO _ _ _ hs.sat g8 (by omega))); intro _ _) | (apply TL.val; rfl; rfl; (first | exact vpure | exact vread)) | (apply GT.pure; rfl; rfl; rfl; rfl; (first | exact vpure); decide +kernel) | (apply GT.read; rfl; rfl; rfl; rfl; (first | exact vpure | exact vread); decide +kernel) | (apply GT.done; decide +kernel; apply N.ofQ) | (apply GT.adv; rfl) | (apply TL.x; rfl; rfl; (first | exact xgrow | exact xput); intro _ _) | (apply GS.grow; rfl; rfl; (first | exact xgrow); intro _ _) | (apply GS.eff; rfl; decide +kernel; rfl; (first | exact xput); intro _ _) | (apply TL.guard; rfl; rfl; rfl; (with_reducible (first | exact Is.ndec | exact Is.dec | exact Is.not | ((fail_if_success exact Is.litT); (fail_if_success exact Is.litF); exact Is.base))); intro _; rotate_left; intro _; rotate_right) | (apply GT.guard; rfl; rfl; rfl; rfl; (with_reducible (first | exact Is.ndec | exact Is.dec | exact Is.not | ((fail_if_success exact Is.litT); (fail_if_success exact Is.litF); exact Is.base))); intro _; rotate_left; intro _; rotate_right) | (apply GT.fork1; decide +kernel) | (apply GT.fork2 1; decide +kernel) | (apply GT.fork2 2; decide +kernel) | (apply GT.fork2 3; decide +kernel) | (apply GT.fork2 4; decide +kernel) | (apply GT.fork2 5; decide +kernel) | (apply GT.fork2 6; decide +kernel) | (apply GT.fork2 7; decide +kernel) | (apply GT.fork2 8; decide +kernel) | (apply GT.fork2 9; decide +kernel) | (apply GT.fork2 10; decide +kernel) | (apply GT.fork2 11; decide +kernel) | (apply GT.fork2 12; decide +kernel) | (apply GT.fork2 13; decide +kernel) | (apply GT.fork2 14; decide +kernel) | (apply GT.fork2 15; decide +kernel) | (apply GT.fork2 16; decide +kernel) | (apply GT.fork2 17; decide +kernel) | (apply GT.fork2 18; decide +kernel) | (apply GT.fork2 19; decide +kernel) | (apply GT.fork2 20; decide +kernel) | (apply GT.fork2 21; decide +kernel) | (apply GT.fork2 22; decide +kernel) | (apply GT.fork2 23; decide +kernel)))
  rename_i b1 _ b2 _ p hp _ _
  obtain ⟨o, c⟩ := p
  have hp0 : o = none → a.sets.len = 0 ∧ c = 0 := hp.1
  refine T.loop (G := Nat × Hp × List Signed) (fun g => [(1, .pointer (some ⟨b1, 0, none⟩)), (2, .pointer (some ⟨b2, 0, none⟩)), (10, intV a.sets.len), (11, intV g.1)]) (fun g => g.2.1)
    (fun g => [.row (.slice (o.map fun g => ⟨g, 0, none⟩) a.sets.len c) 65 5 a.sets.len (encs g.2.2), .blk b2 27 (enc zeroAns), .blk b1 27 (enc (a.withSets ⟨o.map fun g => ⟨g, 0, none⟩, a.sets.len, c, []⟩))])
    (fun g => g.1 ≤ a.sets.len ∧ H.le g.2.1 ∧ CopyTo g.2.1 a.sets.els g.2.2 g.1) (fun g => a.sets.len - g.1) (0, H, a.sets.els) ⟨Nat.zero_le _, .refl _, rfl, fun j s hj => ⟨s, hj, rfl, g8.els _ (List.mem_of_getElem? hj), fun _ => rfl⟩⟩ (by (repeat (first | exact True.intro | refine ⟨rfl, ?_⟩ | refine Sub.int rfl (by omega) ?_))) rfl (by (first | exact List.Sublist.refl _ | exact List.nil_sublist _ | exact List.Sublist.cons _ (List.Sublist.refl _) | exact List.Sublist.cons _ (List.Sublist.cons _ (List.Sublist.refl _)))) ?_
  rintro ⟨k, H1, els1⟩ ⟨hk, hle, hrel⟩
  simp only at hk hle hrel ⊢
  have hl1 : els1.length = a.sets.len := by rw [hrel.1, hlen]
  by_cases hlt : k < a.sets.len
  · obtain ⟨gb, rfl⟩ : ∃ gb, o = some gb := by
      cases o with
      | none => have := (hp0 rfl).1; omega
      | some gb => exact ⟨gb, rfl⟩
    obtain ⟨s0, hs0⟩ : ∃ s0, a.sets.els[k]? = some s0 := ⟨_, List.getElem?_eq_getElem (by omega)⟩
    have hs1 : els1[k]? = some s0 := by
      obtain ⟨s', e1, _, _, e4⟩ := hrel.2 k s0 hs0
      rw [e1, e4 (Nat.le_refl _)]
    have hs2 : Enc.good H1 s0 := Enc.mono hle (g8.els _ (List.mem_of_getElem? hs0))
    obtain ⟨hb3, hb4⟩ := hb2 s0 (List.mem_of_getElem? hs0)
    have hb5 := hs2.1.2.2.2.len
    have hb6 := hs2.2.len
    have hkl : k < els1.length := by omega
    repeat (any_goals (first | refine T.seq ?_ | refine T.region ?_ | (apply T.regionD wide; rfl) | refine TL.nil ?_ | refine N.next ?_ | refine N.inBlock ?_ | refine N.exit_same ?_ | refine N.exit_then ?_ | refine N.ret_then ?_ | refine N.ret_block ?_ | (apply N.exit_other; rfl) | refine T.ret ?_ | refine T.skip ?_ | refine T.exit ?_ | refine T.block ?_ | (apply T.cond_true; rfl) | (apply T.cond_false; rfl) | (apply T.test; rfl; (with_reducible (first | exact Is.ndec | exact Is.dec | exact Is.not | ((fail_if_success exact Is.litT); (fail_if_success exact Is.litF); exact Is.base))); intro _; rotate_left; intro _; rotate_right) | (apply TL.skip; rfl; rfl; rfl) | (apply TL.skip_none; rfl; rfl) | (apply GT.skip; rfl; rfl; rfl; decide +kernel) | (apply TL.val; rfl; rfl; (apply V.elem; rfl; rfl; rfl; rfl; rfl; rfl; (show k < a.sets.len; omega); rfl)) | (apply GT.pure; rfl; rfl; rfl; rfl; (apply V.elem; rfl; rfl; rfl; rfl; rfl; rfl; (show k < a.sets.len; omega); rfl); decide +kernel) | (apply GT.read; rfl; rfl; rfl; rfl; (apply V.elem; rfl; rfl; rfl; rfl; rfl; rfl; (show k < a.sets.len; omega); rfl); decide +kernel) | (apply GT.pureAt 11; rfl; rfl; rfl; rfl; (apply V.elem; rfl; rfl; rfl; rfl; rfl; rfl; (show k < a.sets.len; omega); rfl); decide +kernel) | (apply GT.readAt 11; rfl; rfl; rfl; rfl; (apply V.elem; rfl; rfl; rfl; rfl; rfl; rfl; (show k < a.sets.len; omega); rfl); decide +kernel) | (apply GT.pureAt 10; rfl; rfl; rfl; rfl; (apply V.elem; rfl; rfl; rfl; rfl; rfl; rfl; (show k < a.sets.len; omega); rfl); decide +kernel) | (apply GT.readAt 10; rfl; rfl; rfl; rfl; (apply V.elem; rfl; rfl; rfl; rfl; rfl; rfl; (show k < a.sets.len; omega); rfl); decide +kernel) | (apply TL.val; rfl; rfl; (apply V.load_own; rfl; rfl; rfl; (exact lmem); exact encs_at (j := 3) hs1 rfl (by show 0 + k * 5 + 0 + 3 = k * 5 + 3; omega))) | (apply GT.pure; rfl; rfl; rfl; rfl; (apply V.load_own; rfl; rfl; rfl; (exact lmem); exact encs_at (j := 3) hs1 rfl (by show 0 + k * 5 + 0 + 3 = k * 5 + 3; omega)); decide +kernel) | (apply GT.read; rfl; rfl; rfl; rfl; (apply V.load_own; rfl; rfl; rfl; (exact lmem); exact encs_at (j := 3) hs1 rfl (by show 0 + k * 5 + 0 + 3 = k * 5 + 3; omega)); decide +kernel) | (apply GS.grow; rfl; rfl; (apply X.callF0 (f := 90) Tryd.call90; rfl; rfl; exact (fun _ hs => c_CloneDatum s0.set.data _ _ hs.sat hs2.1.2.2.2 (by omega))); intro p3 hp3) | (apply GS.eff; rfl; decide +kernel; rfl; (exact X.storeRowE 0 (vs := [p3.2.v]) rfl rfl rfl rfl rfl rfl rfl (by show 0 + k * 5 + 0 + 3 + 1 ≤ a.sets.len * 5; omega) (encs_put (j := 3) (y := ⟨⟨s0.set.name, s0.set.typ, s0.set.life, p3.2⟩, s0.sigs⟩) hs1 (by show 3 + 1 ≤ 5; omega) rfl (by show 0 + k * 5 + 0 + 3 = k * 5 + 3; omega))); intro _ _) | (apply TL.val; rfl; rfl; (apply V.load_own; rfl; rfl; rfl; (exact lmem); exact encs_at (j := 4) (List.getElem?_set_self hkl) rfl (by show 0 + k * 5 + 4 = k * 5 + 4; omega))) | (apply GT.pure; rfl; rfl; rfl; rfl; (apply V.load_own; rfl; rfl; rfl; (exact lmem); exact encs_at (j := 4) (List.getElem?_set_self hkl) rfl (by show 0 + k * 5 + 4 = k * 5 + 4; omega)); decide +kernel) | (apply GT.read; rfl; rfl; rfl; rfl; (apply V.load_own; rfl; rfl; rfl; (exact lmem); exact encs_at (j := 4) (List.getElem?_set_self hkl) rfl (by show 0 + k * 5 + 4 = k * 5 + 4; omega)); decide +kernel) | (apply GS.grow; rfl; rfl; (apply X.callF0 (f := 91) Tryd.call91; rfl; rfl; exact (fun _ hs => c_CloneSig s0.sigs _ _ hs.sat (hs2.2.mono hp3.2) (by omega))); intro p4 hp4) | (apply GS.eff; rfl; decide +kernel; rfl; (exact X.storeRowE 0 (vs := [p4.2.v]) rfl rfl rfl rfl rfl rfl rfl (by show 0 + k * 5 + 4 + 1 ≤ a.sets.len * 5; omega) (encs_put (j := 4) (y := ⟨⟨s0.set.name, s0.set.typ, s0.set.life, p3.2⟩, p4.2⟩) (List.getElem?_set_self hkl) (by show 4 + 1 ≤ 5; omega) rfl (by show 0 + k * 5 + 4 = k * 5 + 4; omega))); intro _ _) | (apply TL.val; rfl; rfl; (first | exact vpure | exact vread)) | (apply GT.pure; rfl; rfl; rfl; rfl; (first | exact vpure); decide +kernel) | (apply GT.read; rfl; rfl; rfl; rfl; (first | exact vpure | exact vread); decide +kernel) | (apply GT.done; decide +kernel; apply N.ofQ) | (apply GT.adv; rfl) | (apply TL.x; rfl; rfl; (first | exact xgrow | exact xput); intro _ _) | (apply GS.grow; rfl; rfl; (first | exact xgrow); intro _ _) | (apply GS.eff; rfl; decide +kernel; rfl; (first | exact xput); intro _ _) | (apply GT.pureAt 1; rfl; rfl; rfl; rfl; (first | exact vpure); decide +kernel) | (apply GT.readAt 1; rfl; rfl; rfl; rfl; (first | exact vpure | exact vread); decide +kernel) | (apply GT.pureAt 2; rfl; rfl; rfl; rfl; (first | exact vpure); decide +kernel) | (apply GT.readAt 2; rfl; rfl; rfl; rfl; (first | exact vpure | exact vread); decide +kernel) | (apply GT.pureAt 3; rfl; rfl; rfl; rfl; (first | exact vpure); decide +kernel) | (apply GT.readAt 3; rfl; rfl; rfl; rfl; (first | exact vpure | exact vread); decide +kernel) | (apply GT.pureAt 4; rfl; rfl; rfl; rfl; (first | exact vpure); decide +kernel) | (apply GT.readAt 4; rfl; rfl; rfl; rfl; (first | exact vpure | exact vread); decide +kernel) | (apply GT.pureAt 5; rfl; rfl; rfl; rfl; (first | exact vpure); decide +kernel) | (apply GT.readAt 5; rfl; rfl; rfl; rfl; (first | exact vpure | exact vread); decide +kernel) | (apply GT.pureAt 6; rfl; rfl; rfl; rfl; (first | exact vpure); decide +kernel) | (apply GT.readAt 6; rfl; rfl; rfl; rfl; (first | exact vpure | exact vread); decide +kernel) | (apply GT.pureAt 7; rfl; rfl; rfl; rfl; (first | exact vpure); decide +kernel) | (apply GT.readAt 7; rfl; rfl; rfl; rfl; (first | exact vpure | exact vread); decide +kernel) | (apply GT.pureAt 8; rfl; rfl; rfl; rfl; (first | exact vpure); decide +kernel) | (apply GT.readAt 8; rfl; rfl; rfl; rfl; (first | exact vpure | exact vread); decide +kernel) | (apply GT.pureAt 9; rfl; rfl; rfl; rfl; (first | exact vpure); decide +kernel) | (apply GT.readAt 9; rfl; rfl; rfl; rfl; (first | exact vpure | exact vread); decide +kernel) | (apply GT.pureAt 10; rfl; rfl; rfl; rfl; (first | exact vpure); decide +kernel) | (apply GT.readAt 10; rfl; rfl; rfl; rfl; (first | exact vpure | exact vread); decide +kernel) | (apply GT.pureAt 11; rfl; rfl; rfl; rfl; (first | exact vpure); decide +kernel) | (apply GT.readAt 11; rfl; rfl; rfl; rfl; (first | exact vpure | exact vread); decide +kernel) | (apply GT.pureAt 12; rfl; rfl; rfl; rfl; (first | exact vpure); decide +kernel) | (apply GT.readAt 12; rfl; rfl; rfl; rfl; (first | exact vpure | exact vread); decide +kernel) | (apply GT.pureAt 13; rfl; rfl; rfl; rfl; (first | exact vpure); decide +kernel) | (apply GT.readAt 13; rfl; rfl; rfl; rfl; (first | exact vpure | exact vread); decide +kernel) | (apply TL.guard; rfl; rfl; rfl; (with_reducible (first | exact Is.ndec | exact Is.dec | exact Is.not | ((fail_if_success exact Is.litT); (fail_if_success exact Is.litF); exact Is.base))); intro _; rotate_left; intro _; rotate_right) | (apply GT.guard; rfl; rfl; rfl; rfl; (with_reducible (first | exact Is.ndec | exact Is.dec | exact Is.not | ((fail_if_success exact Is.litT); (fail_if_success exact Is.litF); exact Is.base))); intro _; rotate_left; intro _; rotate_right) | (apply GT.fork1; decide +kernel) | (apply GT.fork2 1; decide +kernel) | (apply GT.fork2 2; decide +kernel) | (apply GT.fork2 3; decide +kernel) | (apply GT.fork2 4; decide +kernel) | (apply GT.fork2 5; decide +kernel) | (apply GT.fork2 6; decide +kernel) | (apply GT.fork2 7; decide +kernel) | (apply GT.fork2 8; decide +kernel) | (apply GT.fork2 9; decide +kernel) | (apply GT.fork2 10; decide +kernel) | (apply GT.fork2 11; decide +kernel) | (apply GT.fork2 12; decide +kernel) | (apply GT.fork2 13; decide +kernel) | (apply GT.fork2 14; decide +kernel) | (apply GT.fork2 15; decide +kernel) | (apply GT.fork2 16; decide +kernel) | (apply GT.fork2 17; decide +kernel) | (apply GT.fork2 18; decide +kernel) | (apply GT.fork2 19; decide +kernel) | (apply GT.fork2 20; decide +kernel) | (apply GT.fork2 21; decide +kernel) | (apply GT.fork2 22; decide +kernel) | (apply GT.fork2 23; decide +kernel)))
    all_goals (try (exfalso; omega))
    obtain ⟨⟨hd1, hd2⟩, hle3⟩ := hp3
    obtain ⟨⟨hd3, hd4⟩, hle4⟩ := hp4
    refine N.round (k + 1, p4.1, els1.set k ⟨⟨s0.set.name, s0.set.typ, s0.set.life, p3.2⟩, p4.2⟩) ⟨by show k + 1 ≤ _; omega, (hle.trans hle3).trans hle4, copyTo_up hrel (hle3.trans hle4) hs0 ?_ ⟨⟨hs2.1.1, hs2.1.2.1, hs2.1.2.2.1, hd2.mono hle4⟩, hd4⟩⟩ (by show a.sets.len - (k + 1) < a.sets.len - k; omega) (by (repeat (first | exact True.intro | refine ⟨rfl, ?_⟩ | refine Sub.int rfl (by omega) ?_))) rfl ?_
    · unfold Signed.c RSet.c
      simp only [hd1, hd3]
    · simp only [List.set_cons_zero, List.set_set]
      exact List.Sublist.refl _
  · repeat (any_goals (first | refine T.seq ?_ | refine T.region ?_ | (apply T.regionD wide; rfl) | refine TL.nil ?_ | refine N.next ?_ | refine N.inBlock ?_ | refine N.exit_same ?_ | refine N.exit_then ?_ | refine N.ret_then ?_ | refine N.ret_block ?_ | (apply N.exit_other; rfl) | refine T.ret ?_ | refine T.skip ?_ | refine T.exit ?_ | refine T.block ?_ | (apply T.cond_true; rfl) | (apply T.cond_false; rfl) | (apply T.test; rfl; (with_reducible (first | exact Is.ndec | exact Is.dec | exact Is.not | ((fail_if_success exact Is.litT); (fail_if_success exact Is.litF); exact Is.base))); intro _; rotate_left; intro _; rotate_right) | (apply TL.skip; rfl; rfl; rfl) | (apply TL.skip_none; rfl; rfl) | (apply GT.skip; rfl; rfl; rfl; decide +kernel) | (apply TL.val; rfl; rfl; (first | exact vpure | exact vread)) | (apply GT.pure; rfl; rfl; rfl; rfl; (first | exact vpure); decide +kernel) | (apply GT.read; rfl; rfl; rfl; rfl; (first | exact vpure | exact vread); decide +kernel) | (apply GT.done; decide +kernel; apply N.ofQ) | (apply GT.adv; rfl) | (apply TL.x; rfl; rfl; (first | exact xgrow | exact xput); intro _ _) | (apply GS.grow; rfl; rfl; (first | exact xgrow); intro _ _) | (apply GS.eff; rfl; decide +kernel; rfl; (first | exact xput); intro _ _) | (apply TL.guard; rfl; rfl; rfl; (with_reducible (first | exact Is.ndec | exact Is.dec | exact Is.not | ((fail_if_success exact Is.litT); (fail_if_success exact Is.litF); exact Is.base))); intro _; rotate_left; intro _; rotate_right) | (apply GT.guard; rfl; rfl; rfl; rfl; (with_reducible (first | exact Is.ndec | exact Is.dec | exact Is.not | ((fail_if_success exact Is.litT); (fail_if_success exact Is.litF); exact Is.base))); intro _; rotate_left; intro _; rotate_right) | (apply GT.fork1; decide +kernel) | (apply GT.fork2 1; decide +kernel) | (apply GT.fork2 2; decide +kernel) | (apply GT.fork2 3; decide +kernel) | (apply GT.fork2 4; decide +kernel) | (apply GT.fork2 5; decide +kernel) | (apply GT.fork2 6; decide +kernel) | (apply GT.fork2 7; decide +kernel) | (apply GT.fork2 8; decide +kernel) | (apply GT.fork2 9; decide +kernel) | (apply GT.fork2 10; decide +kernel) | (apply GT.fork2 11; decide +kernel) | (apply GT.fork2 12; decide +kernel) | (apply GT.fork2 13; decide +kernel) | (apply GT.fork2 14; decide +kernel) | (apply GT.fork2 15; decide +kernel) | (apply GT.fork2 16; decide +kernel) | (apply GT.fork2 17; decide +kernel) | (apply GT.fork2 18; decide +kernel) | (apply GT.fork2 19; decide +kernel) | (apply GT.fork2 20; decide +kernel) | (apply GT.fork2 21; decide +kernel) | (apply GT.fork2 22; decide +kernel) | (apply GT.fork2 23; decide +kernel)))
    all_goals (try (exfalso; omega))
    apply N.ret1; rfl; (exact rvx)
    intro w1 hst
    obtain ⟨H2, s2, e1, e2, e3, e4, e5⟩ := hst.freezeRow rfl hl1 (copyTo_good hrel)
    refine ⟨(H2, a.withSets s2), ⟨?_, ?_⟩, ?_, ?_⟩
    · show Answer.c (a.withSets s2) = a.c
      unfold Answer.c Answer.withSets
      simp only [e2, copyTo_c hrel]
    · exact ⟨hg.1, e3, hg.2.2⟩
    · have e : enc (a.withSets s2) = enc (a.withSets ⟨o.map fun g => ⟨g, 0, none⟩, a.sets.len, c, []⟩) := by
        show [intV a.kind, s2.v, strV a.cut] = _
        rw [e1]; rfl
      show Ending.returned _ = Ending.returned (Value.agg (enc (a.withSets s2)).toArray)
      rw [e]; rfl
    · exact e5.fresh
end Go.Proofs.YtohfliekhbpopaaDoor
