/- Walks: copies of messages. -/
import Derived.Test.YtpnoabbdcakjkaaGreatDoorQWL
namespace Go.Proofs.YtpnoabbdcakjkaaGreatDoor
set_option linter.unusedVariables false
set_option linter.unusedSimpArgs false
open Go Go.RowKit
open Enc (enc)
set_option maxRecDepth 20000

theorem setOK_data {s : SetC} (h : setOK s = true) : s.data.length ≤ 8 := by
  rw [setOK_eq, Bool.and_eq_true] at h
  have := h.1
  unfold headOK at this
  simp only [Bool.and_eq_true, decide_eq_true_eq] at this
  exact this.1.1.2.2
theorem msg_bounds {m : Msg} (hlen : m.ans.sets.els.length = m.ans.sets.len) (hok : msgOK m.c = true) : m.ans.sets.len ≤ 40 ∧ ∀ s ∈ m.ans.sets.els, s.set.data.els.length ≤ 8 ∧ s.sigs.els.length ≤ 6 := by
  obtain ⟨_, h1, h2⟩ := (msgOK_iff m hlen).1 hok
  by_cases hk : m.kind = 1
  · have h0 := (h1 hk).2.1
    have : m.ans.sets.els = [] := List.eq_nil_of_length_eq_zero (by omega)
    exact ⟨by omega, by rw [this]; simp⟩
  · obtain ⟨_, h3⟩ := h2 hk
    obtain ⟨h4, h5⟩ := (answerOK_iff m.ans hlen).1 h3
    refine ⟨h4.2.1, fun s hs => ?_⟩
    have := List.all_eq_true.1 h5 s hs
    have e : signedOK s.c = (decide (s.sigs.els.length ≤ 6) && setOK s.set.c && s.sigs.els.all sigOK) := rfl
    rw [e] at this
    simp only [Bool.and_eq_true, decide_eq_true_eq] at this
    exact ⟨setOK_data this.1.2, this.1.1⟩
def Msg.withSets (m : Msg) (s : Slc Signed) : Msg := { m with ans := { m.ans with sets := s } }
def zeroMsg : Msg := ⟨0, 0, 0, 0, ⟨[], 0⟩, ⟨0, Slc.nil _, []⟩⟩
/-- els' says what els says; behind k it is the same. -/
def CopyTo (H : Hp) (els els' : List Signed) (k : Nat) : Prop := els'.length = els.length ∧ ∀ j s, els[j]? = some s → ∃ s', els'[j]? = some s' ∧ s'.c = s.c ∧ Enc.good H s' ∧ (k ≤ j → s' = s)
theorem copyTo_up {H H' : Hp} {els els' : List Signed} {k : Nat} {s y : Signed} (h : CopyTo H els els' k) (hle : H.le H') (hk : els[k]? = some s) (hc : y.c = s.c) (hy : Enc.good H' y) : CopyTo H' els (els'.set k y) (k + 1) := by
  refine ⟨by rw [List.length_set]; exact h.1, fun j t hj => ?_⟩
  obtain ⟨s', h1, h2, h3, h4⟩ := h.2 j t hj
  by_cases e : k = j
  · subst e
    rw [hk] at hj
    cases hj
    exact ⟨y, List.getElem?_set_self (List.getElem?_eq_some_iff.1 h1).1, hc, hy, fun h' => by omega⟩
  · exact ⟨s', by rw [List.getElem?_set_ne e]; exact h1, h2, Enc.mono hle h3, fun h' => h4 (by omega)⟩
theorem copyTo_c {H : Hp} {els els' : List Signed} {k : Nat} (h : CopyTo H els els' k) : els'.map Signed.c = els.map Signed.c := by
  apply List.ext_getElem?
  intro j
  rw [List.getElem?_map, List.getElem?_map]
  cases hj : els[j]? with
  | none =>
    rw [List.getElem?_eq_none_iff, ← h.1, ← List.getElem?_eq_none_iff] at hj
    rw [hj]
  | some s =>
    obtain ⟨s', h1, h2, _⟩ := h.2 j s hj
    rw [h1]; exact congrArg some h2
theorem copyTo_good {H : Hp} {els els' : List Signed} {k : Nat} (h : CopyTo H els els' k) : ∀ x ∈ els', Enc.good H x := fun x hx => by
  obtain ⟨j, hj, rfl⟩ := List.mem_iff_getElem.1 hx
  obtain ⟨s', h1, _, h3, _⟩ := h.2 j (els[j]'(by rw [← h.1]; exact hj)) (List.getElem?_eq_getElem _)
  rw [List.getElem?_eq_getElem hj] at h1
  cases h1; exact h3
theorem encs_at {α : Type} [Enc α] {l : List α} {k j o : Nat} {x : α} {v : Value} (hk : l[k]? = some x) (hj : (enc x)[j]? = some v) (ho : o = k * Enc.size α + j) : (encs l)[o]? = some v := by
  rw [ho]; exact encs_get l k j x v hk hj
set_option maxHeartbeats 2000000 in
theorem c_cloned (m : Msg) (H : Hp) (w : World) (hs : Sat H w) (hg : Enc.good H m) (hok : msgOK m.c = true) : Calls Tryz.prog 30 #[.agg (enc m).toArray] w (RetF w H (fun p : Hp × Msg => p.2.c = m.c ∧ Enc.good p.1 p.2) (fun p => .agg (enc p.2).toArray) (fun p => p.1)) := by
  have hg' := hg
  obtain ⟨g1, g2, g3, g4, ⟨g5, g6⟩, g7⟩ := hg
  have g8 := g7.2.1
  have hlen : m.ans.sets.els.length = m.ans.sets.len := g8.len
  obtain ⟨hb1, hb2⟩ := msg_bounds hlen hok
  refine T.enter (vs := [.agg (enc m).toArray]) (H := H) Tryz.func30 rfl rfl rfl hs ?_
  repeat (any_goals (first | refine T.seq ?_ | refine T.region ?_ | refine TL.nil ?_ | refine N.next ?_ | refine N.inBlock ?_ | refine N.exit_same ?_ | refine N.exit_then ?_ | refine N.ret_then ?_ | refine N.ret_block ?_ | (apply N.exit_other; rfl) | refine T.ret ?_ | refine T.skip ?_ | refine T.exit ?_ | refine T.block ?_ | (apply T.cond_true; rfl) | (apply T.cond_false; rfl) | (apply T.test; rfl; (exact isx); intro _; rotate_left; intro _; rotate_right) | (apply TL.skip; rfl; rfl; rfl) | (apply TL.skip_none; rfl; rfl) | (apply TL.x; rfl; rfl; (apply X.callO0 (f := 60) Tryz.call60; rfl; rfl; (exact fun _ hs => c_CloneSignedO _ _ _ hs.sat g8 (by omega))); intro _ _) | (apply TL.val; rfl; rfl; (first | exact vpure | exact vread)) | (apply TL.x; rfl; rfl; (first | exact xgrow | exact xput); intro _ _) | (apply TL.guard; rfl; rfl; rfl; (exact isx); intro _; rotate_left; intro _; rotate_right)))
  rename_i b1 _ b2 _ p hp _ _
  obtain ⟨o, c⟩ := p
  have hp0 : o = none → m.ans.sets.len = 0 ∧ c = 0 := hp.1
  refine T.loop (G := Nat × Hp × List Signed) (fun g => [(1, .pointer (some ⟨b1, 0, none⟩)), (2, .pointer (some ⟨b2, 0, none⟩)), (14, intV m.ans.sets.len), (15, intV g.1)]) (fun g => g.2.1)
    (fun g => [.row (.slice (o.map fun g => ⟨g, 0, none⟩) m.ans.sets.len c) 69 5 m.ans.sets.len (encs g.2.2), .blk b2 33 (enc zeroMsg), .blk b1 33 (enc (m.withSets ⟨o.map fun g => ⟨g, 0, none⟩, m.ans.sets.len, c, []⟩))])
    (fun g => g.1 ≤ m.ans.sets.len ∧ H.le g.2.1 ∧ CopyTo g.2.1 m.ans.sets.els g.2.2 g.1) (fun g => m.ans.sets.len - g.1) (0, H, m.ans.sets.els) ⟨Nat.zero_le _, .refl _, rfl, fun j s hj => ⟨s, hj, rfl, g8.els _ (List.mem_of_getElem? hj), fun _ => rfl⟩⟩ (by (repeat (first | exact True.intro | refine ⟨rfl, ?_⟩ | refine Sub.int rfl (by omega) ?_))) rfl (by (first | exact List.Sublist.refl _ | exact List.nil_sublist _ | exact List.Sublist.cons _ (List.Sublist.refl _) | exact List.Sublist.cons _ (List.Sublist.cons _ (List.Sublist.refl _)))) ?_
  rintro ⟨k, H1, els1⟩ ⟨hk, hle, hrel⟩
  simp only at hk hle hrel ⊢
  have hl1 : els1.length = m.ans.sets.len := by rw [hrel.1, hlen]
  by_cases hlt : k < m.ans.sets.len
  · obtain ⟨gb, rfl⟩ : ∃ gb, o = some gb := by
      cases o with
      | none => have := (hp0 rfl).1; omega
      | some gb => exact ⟨gb, rfl⟩
    obtain ⟨s0, hs0⟩ : ∃ s0, m.ans.sets.els[k]? = some s0 := ⟨_, List.getElem?_eq_getElem (by omega)⟩
    have hs1 : els1[k]? = some s0 := by
      obtain ⟨s', e1, _, _, e4⟩ := hrel.2 k s0 hs0
      rw [e1, e4 (Nat.le_refl _)]
    have hs2 : Enc.good H1 s0 := Enc.mono hle (g8.els _ (List.mem_of_getElem? hs0))
    obtain ⟨hb3, hb4⟩ := hb2 s0 (List.mem_of_getElem? hs0)
    have hb5 := hs2.1.2.2.2.len
    have hb6 := hs2.2.len
    repeat (any_goals (first | refine T.seq ?_ | refine T.region ?_ | refine TL.nil ?_ | refine N.next ?_ | refine N.inBlock ?_ | refine N.exit_same ?_ | refine N.exit_then ?_ | refine N.ret_then ?_ | refine N.ret_block ?_ | (apply N.exit_other; rfl) | refine T.ret ?_ | refine T.skip ?_ | refine T.exit ?_ | refine T.block ?_ | (apply T.cond_true; rfl) | (apply T.cond_false; rfl) | (apply T.test; rfl; (exact isx); intro _; rotate_left; intro _; rotate_right) | (apply TL.skip; rfl; rfl; rfl) | (apply TL.skip_none; rfl; rfl) | (apply TL.val; rfl; rfl; (apply V.nilCheck; rfl)) | (apply TL.val; rfl; rfl; (apply V.elem; (iterate 6 rfl); (show k < m.ans.sets.len; omega); rfl)) | (apply TL.x; rfl; rfl; (apply X.callF0 (f := 61) Tryz.call61; rfl; rfl; (exact fun _ hs => c_CloneDatum s0.set.data _ _ hs.sat hs2.1.2.2.2 (by omega))); intro _ _) | (apply TL.val; rfl; rfl; (apply V.load_own; rfl; rfl; rfl; (exact lmem); exact encs_at (j := 3) hs1 rfl (by show 0 + k * 5 + 0 + 3 = k * 5 + 3; omega))) | (apply TL.val; rfl; rfl; (first | exact vpure | exact vread)) | (apply TL.x; rfl; rfl; (first | exact xgrow | exact xput); intro _ _) | (apply TL.guard; rfl; rfl; rfl; (exact isx); intro _; rotate_left; intro _; rotate_right)))
    all_goals (try (exfalso; omega))
    rename_i p3 hp3
    obtain ⟨⟨hd1, hd2⟩, hle3⟩ := hp3
    refine TL.x rfl rfl (X.storeRowE 0 (vs := [p3.2.v]) rfl rfl rfl rfl rfl rfl rfl (by show 0 + k * 5 + 0 + 3 + 1 ≤ m.ans.sets.len * 5; omega) (encs_put (j := 3) (y := ⟨⟨s0.set.name, s0.set.typ, s0.set.life, p3.2⟩, s0.sigs⟩) hs1 (by show 3 + 1 ≤ 5; omega) rfl (by show 0 + k * 5 + 0 + 3 = k * 5 + 3; omega))) ?_
    intro _ _
    repeat (any_goals (first | refine T.seq ?_ | refine T.region ?_ | refine TL.nil ?_ | refine N.next ?_ | refine N.inBlock ?_ | refine N.exit_same ?_ | refine N.exit_then ?_ | refine N.ret_then ?_ | refine N.ret_block ?_ | (apply N.exit_other; rfl) | refine T.ret ?_ | refine T.skip ?_ | refine T.exit ?_ | refine T.block ?_ | (apply T.cond_true; rfl) | (apply T.cond_false; rfl) | (apply T.test; rfl; (exact isx); intro _; rotate_left; intro _; rotate_right) | (apply TL.skip; rfl; rfl; rfl) | (apply TL.skip_none; rfl; rfl) | (apply TL.val; rfl; rfl; (apply V.nilCheck; rfl)) | (apply TL.x; rfl; rfl; (apply X.callF0 (f := 62) Tryz.call62; rfl; rfl; (exact fun _ hs => c_CloneSig s0.sigs _ _ hs.sat (hs2.2.mono hle3) (by omega))); intro _ _) | (apply TL.val; rfl; rfl; (apply V.load_own; rfl; rfl; rfl; (exact lmem); exact encs_at (j := 4) (List.getElem?_set_self (by omega)) rfl (by show 0 + k * 5 + 4 = k * 5 + 4; omega))) | (apply TL.val; rfl; rfl; (first | exact vpure | exact vread)) | (apply TL.x; rfl; rfl; (first | exact xgrow | exact xput); intro _ _) | (apply TL.guard; rfl; rfl; rfl; (exact isx); intro _; rotate_left; intro _; rotate_right)))
    rename_i p4 hp4
    obtain ⟨⟨hd3, hd4⟩, hle4⟩ := hp4
    refine TL.x rfl rfl (X.storeRowE 0 (vs := [p4.2.v]) rfl rfl rfl rfl rfl rfl rfl (by show 0 + k * 5 + 4 + 1 ≤ m.ans.sets.len * 5; omega) (encs_put (j := 4) (y := ⟨⟨s0.set.name, s0.set.typ, s0.set.life, p3.2⟩, p4.2⟩) (List.getElem?_set_self (by omega)) (by show 4 + 1 ≤ 5; omega) rfl (by show 0 + k * 5 + 4 = k * 5 + 4; omega))) ?_
    intro _ _
    repeat (any_goals (first | refine T.seq ?_ | refine T.region ?_ | refine TL.nil ?_ | refine N.next ?_ | refine N.inBlock ?_ | refine N.exit_same ?_ | refine N.exit_then ?_ | refine N.ret_then ?_ | refine N.ret_block ?_ | (apply N.exit_other; rfl) | refine T.ret ?_ | refine T.skip ?_ | refine T.exit ?_ | refine T.block ?_ | (apply T.cond_true; rfl) | (apply T.cond_false; rfl) | (apply T.test; rfl; (exact isx); intro _; rotate_left; intro _; rotate_right) | (apply TL.skip; rfl; rfl; rfl) | (apply TL.skip_none; rfl; rfl) | (apply TL.val; rfl; rfl; (first | exact vpure | exact vread)) | (apply TL.x; rfl; rfl; (first | exact xgrow | exact xput); intro _ _) | (apply TL.guard; rfl; rfl; rfl; (exact isx); intro _; rotate_left; intro _; rotate_right)))
    refine N.round (k + 1, p4.1, els1.set k ⟨⟨s0.set.name, s0.set.typ, s0.set.life, p3.2⟩, p4.2⟩) ⟨by show k + 1 ≤ _; omega, (hle.trans hle3).trans hle4, copyTo_up hrel (hle3.trans hle4) hs0 ?_ ⟨⟨hs2.1.1, hs2.1.2.1, hs2.1.2.2.1, hd2.mono hle4⟩, hd4⟩⟩ (by show m.ans.sets.len - (k + 1) < m.ans.sets.len - k; omega) (by (repeat (first | exact True.intro | refine ⟨rfl, ?_⟩ | refine Sub.int rfl (by omega) ?_))) rfl ?_
    · unfold Signed.c RSet.c
      simp only [hd1, hd3]
    · simp only [List.set_cons_zero, List.set_set]
      exact List.Sublist.refl _
  · repeat (any_goals (first | refine T.seq ?_ | refine T.region ?_ | refine TL.nil ?_ | refine N.next ?_ | refine N.inBlock ?_ | refine N.exit_same ?_ | refine N.exit_then ?_ | refine N.ret_then ?_ | refine N.ret_block ?_ | (apply N.exit_other; rfl) | refine T.ret ?_ | refine T.skip ?_ | refine T.exit ?_ | refine T.block ?_ | (apply T.cond_true; rfl) | (apply T.cond_false; rfl) | (apply T.test; rfl; (exact isx); intro _; rotate_left; intro _; rotate_right) | (apply TL.skip; rfl; rfl; rfl) | (apply TL.skip_none; rfl; rfl) | (apply TL.val; rfl; rfl; (first | exact vpure | exact vread)) | (apply TL.x; rfl; rfl; (first | exact xgrow | exact xput); intro _ _) | (apply TL.guard; rfl; rfl; rfl; (exact isx); intro _; rotate_left; intro _; rotate_right)))
    all_goals (try (exfalso; omega))
    apply N.ret1; rfl; (exact rvx)
    intro w1 hst
    obtain ⟨H2, s2, e1, e2, e3, e4, e5⟩ := hst.freezeRow rfl hl1 (copyTo_good hrel)
    refine ⟨(H2, m.withSets s2), ⟨?_, ?_⟩, ?_, ?_⟩
    · show Msg.c (m.withSets s2) = m.c
      unfold Msg.c Msg.withSets Answer.c
      simp only [e2, copyTo_c hrel]
    · exact ⟨g1, g2, g3, g4, ⟨g5, g6⟩, g7.1, e3, g7.2.2⟩
    · have e : enc (m.withSets s2) = enc (m.withSets ⟨o.map fun g => ⟨g, 0, none⟩, m.ans.sets.len, c, []⟩) := by
        show [intV m.kind, intV m.id, intV m.frm, intV m.to, strV m.q.name, intV m.q.typ, intV m.ans.kind, s2.v, strV m.ans.cut] = _
        rw [e1]; rfl
      show Ending.returned _ = Ending.returned (Value.agg (enc (m.withSets s2)).toArray)
      rw [e]; rfl
    · exact e5.fresh
end Go.Proofs.YtpnoabbdcakjkaaGreatDoor
