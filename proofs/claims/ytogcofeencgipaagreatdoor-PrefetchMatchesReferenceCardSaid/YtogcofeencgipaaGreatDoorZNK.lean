/- Walks: labels. -/
import Derived.Test.YtogcofeencgipaaGreatDoorZNA
import Derived.Test.YtogcofeencgipaaGreatDoorZEngC
import Derived.Test.YtogcofeencgipaaGreatDoorZEngN
namespace Go.Proofs.YtogcofeencgipaaGreatDoor
set_option linter.unusedVariables false
set_option linter.unusedSimpArgs false
open Go Go.RowKit
set_option maxRecDepth 20000

/-- The labels so far, at the end of their space. -/
def spaceAt (r : List Bytes) (k : Nat) : List Bytes := List.replicate (8 - k) [] ++ (r.take k).reverse
theorem space_len {r : List Bytes} {k : Nat} (hk : k ≤ r.length) (h8 : k ≤ 8) : (spaceAt r k).length = 8 := by
  unfold spaceAt
  rw [List.length_append, List.length_replicate, List.length_reverse, List.length_take]
  omega
theorem space_get {r : List Bytes} {k : Nat} (h8 : k < 8) : (spaceAt r k)[7 - k]? = some [] := by
  unfold spaceAt
  rw [List.getElem?_append_left (by rw [List.length_replicate]; omega), List.getElem?_replicate, if_pos (by omega)]
theorem space_up {r : List Bytes} {k : Nat} (hk : k < r.length) (h8 : k < 8) : (spaceAt r k).set (7 - k) r[k] = spaceAt r (k + 1) := by
  unfold spaceAt
  rw [show 8 - k = (8 - (k + 1)) + 1 by omega, List.replicate_succ', List.append_assoc, List.take_succ_eq_append_getElem hk, List.reverse_append]
  rw [List.set_append_right _ _ (by rw [List.length_replicate]; omega), List.length_replicate, show 7 - k - (8 - (k + 1)) = 0 by omega]
  rfl
theorem space_end {r : List Bytes} (h8 : r.length ≤ 8) : (spaceAt r r.length).drop (8 - r.length) = r.reverse := by
  unfold spaceAt
  rw [List.drop_append_of_le_length (by rw [List.length_replicate]; omega), List.drop_of_length_le (by rw [List.length_replicate]; omega), List.take_length, List.nil_append]
theorem labs_parts (l : Bytes) : (labs l).reverse = parts l := by
  unfold labs parts
  by_cases h : l = [46]
  · rw [if_pos h, if_pos h]; rfl
  · rw [if_neg h, if_neg h, List.reverse_reverse]
theorem labs_few {l : Bytes} (h : nameOK l = true) : (labs l).length ≤ 8 := by
  rcases (nameOK_iff l).1 h with h0 | ⟨_, h1⟩
  · unfold labs; rw [if_pos h0]; exact Nat.zero_le _
  · by_cases h0 : l = [46]
    · unfold labs; rw [if_pos h0]; exact Nat.zero_le _
    · have : labs l = (splitDots l).reverse := by unfold labs; rw [if_neg h0]
      rw [← this] at h1
      exact h1.1
theorem space_good {r : List Bytes} {k : Nat} {H : Hp} (h : ∀ x ∈ r, LenOk x) : ∀ x ∈ spaceAt r k, Enc.good H x := fun x hx => by
  unfold spaceAt at hx
  rcases List.mem_append.1 hx with hx | hx
  · rw [(List.mem_replicate.1 hx).2]; show LenOk []; decide
  · exact h x (List.mem_of_mem_take (List.mem_reverse.1 hx))
theorem c_LabelsNo (l : Bytes) (h : nameOK l = false) (H : Hp) (w : World) (hs : Sat H w) (hl : LenOk l) : Calls Tryz.prog 199 #[strV l] w (Ret w (.tuple #[.slice none 0 0, intV 11])) := by
  refine T.enterM (vs := [strV l]) (H := H) Tryz.func199 rfl rfl rfl hs ?_
  have hc : ∀ w, Sat H w → Calls Tryz.prog 126 #[strV l] w (Ret w (.bool false)) := fun w hs => by
    have := c_textValid l H w hs hl
    rwa [h] at this
  repeat (any_goals (first | refine T.seq ?_ | refine T.region ?_ | refine TL.nil ?_ | refine N.next ?_ | refine N.inBlock ?_ | refine N.exit_same ?_ | refine N.exit_then ?_ | refine N.ret_then ?_ | refine N.ret_block ?_ | (apply N.exit_other; rfl) | refine T.ret ?_ | refine T.skip ?_ | refine T.exit ?_ | refine T.block ?_ | (apply T.cond_true; rfl) | (apply T.cond_false; rfl) | (apply T.test; rfl; (with_reducible (first | exact Is.ndec | exact Is.dec | exact Is.not | ((fail_if_success exact Is.litT); (fail_if_success exact Is.litF); exact Is.base))); intro _; rotate_left; intro _; rotate_right) | (apply TL.skip; rfl; rfl; rfl) | (apply TL.skip_none; rfl; rfl) | (apply TL.call0 (f := 126) Tryz.call126; rfl; rfl; rfl; (exact fun _ hs => hc _ hs.sat)) | (apply TL.val; rfl; rfl; (first | exact vpure | exact vread)) | (apply TL.x; rfl; rfl; (first | exact xgrow | exact xput); intro _ _) | (apply TL.guard; rfl; rfl; rfl; (with_reducible (first | exact Is.ndec | exact Is.dec | exact Is.not | ((fail_if_success exact Is.litT); (fail_if_success exact Is.litF); exact Is.base))); intro _; rotate_left; intro _; rotate_right)))
  exact N.bare (N.ret_two rfl (by (exact rvx)) (by (exact rvx)) rfl)
set_option maxHeartbeats 4000000 in
theorem c_LabelsYes (l : Bytes) (h : nameOK l = true) (H : Hp) (w : World) (hs : Sat H w) (hl : LenOk l) : Calls Tryz.prog 199 #[strV l] w (RetF w H (fun g : Hp × Slc Bytes => g.2.els = parts l ∧ g.2.Good g.1) (fun g => .tuple #[g.2.v, intV 0]) (fun g => g.1)) := by
  have h8 := labs_few h
  have hl' : l.length ≤ 9223372036854775807 := hl
  have hgood : ∀ x ∈ labs l, LenOk x := fun x hx => Nat.le_trans (labs_len hx) hl'
  refine T.enterM (vs := [strV l]) (H := H) Tryz.func199 rfl rfl rfl hs ?_
  have hc : ∀ w, Sat H w → Calls Tryz.prog 126 #[strV l] w (Ret w (.bool true)) := fun w hs => by
    have := c_textValid l H w hs hl
    rwa [h] at this
  repeat (any_goals (first | refine T.seq ?_ | refine T.region ?_ | refine TL.nil ?_ | refine N.next ?_ | refine N.inBlock ?_ | refine N.exit_same ?_ | refine N.exit_then ?_ | refine N.ret_then ?_ | refine N.ret_block ?_ | (apply N.exit_other; rfl) | refine T.ret ?_ | refine T.skip ?_ | refine T.exit ?_ | refine T.block ?_ | (apply T.cond_true; rfl) | (apply T.cond_false; rfl) | (apply T.test; rfl; (with_reducible (first | exact Is.ndec | exact Is.dec | exact Is.not | ((fail_if_success exact Is.litT); (fail_if_success exact Is.litF); exact Is.base))); intro _; rotate_left; intro _; rotate_right) | (apply TL.skip; rfl; rfl; rfl) | (apply TL.skip_none; rfl; rfl) | (apply TL.call0 (f := 126) Tryz.call126; rfl; rfl; rfl; (exact fun _ hs => hc _ hs.sat)) | (apply TL.x; rfl; rfl; (apply X.makeSlice ([] : Bytes) 8; rfl; rfl; rfl; rfl; rfl; rfl; rfl; rfl; rfl; rfl; decide; decide); intro bm _) | (apply TL.val; rfl; rfl; (apply V.lenE; rfl; rfl; rfl; rfl; rfl)) | (apply TL.val; rfl; rfl; ((apply V.makeFunc (vs := [_]) (us := []) <;> rfl))) | (apply TL.val; rfl; rfl; (first | exact vpure | exact vread)) | (apply TL.x; rfl; rfl; (first | exact xgrow | exact xput); intro _ _) | (apply TL.guard; rfl; rfl; rfl; (with_reducible (first | exact Is.ndec | exact Is.dec | exact Is.not | ((fail_if_success exact Is.litT); (fail_if_success exact Is.litF); exact Is.base))); intro _; rotate_left; intro _; rotate_right)))
  rename_i b5 _ _ _ b6 _ _ _
  refine T.rangeFunc (G := Unit) (fun _ => .normal) (fun _ => H) (fun _ => [.blk b6 3 [intV (8 - ((labs l).length : Int))], .blk b5 152 [.slice (some ⟨bm, 0, none⟩) 8 8], .row (.slice (some ⟨bm, 0, none⟩) 8 8) 9 1 8 (encs (spaceAt (labs l) (labs l).length))]) (fun _ => True) rfl Tryz.call180 (fun _ _ => trivial) ?_ ?_
  · intro fn a b hf w1 hs1
    refine (c_backwards l hl (G := Nat) (fun k g => g = k) (fun _ => False) (fun _ => H) (fun k => [.any (b + 1) (.loop (recd fn a.tmps _ _ _ b .ready none)), .any b (.deferred (some [])), .blk b6 3 [intV (8 - (k : Int))], .blk b5 152 [.slice (some ⟨bm, 0, none⟩) 8 8], .row (.slice (some ⟨bm, 0, none⟩) 8 8) 9 1 8 (encs (spaceAt (labs l) k))]) ?_ 0 rfl hs1).mono ?_
    · rintro k g rfl hk w2 hs2
      refine yieldAt_of (i := 0) hs2 rfl rfl _ (Fr.round1 hf rfl) (env₁ := [(5, .pointer (some ⟨b5, 0, none⟩)), (6, .pointer (some ⟨b6, 0, none⟩)), (8, strV (labs l)[g])]) ?_ ?_
      · repeat (any_goals (first | refine T.seq ?_ | refine T.region ?_ | refine TL.nil ?_ | refine N.next ?_ | refine N.inBlock ?_ | refine N.exit_same ?_ | refine N.exit_then ?_ | refine N.ret_then ?_ | refine N.ret_block ?_ | (apply N.exit_other; rfl) | refine T.ret ?_ | refine T.skip ?_ | refine T.exit ?_ | refine T.block ?_ | (apply T.cond_true; rfl) | (apply T.cond_false; rfl) | (apply T.test; rfl; (with_reducible (first | exact Is.ndec | exact Is.dec | exact Is.not | ((fail_if_success exact Is.litT); (fail_if_success exact Is.litF); exact Is.base))); intro _; rotate_left; intro _; rotate_right) | (apply TL.skip; rfl; rfl; rfl) | (apply TL.skip_none; rfl; rfl) | (apply TL.val; rfl; rfl; (first | exact vpure | exact vread)) | (apply TL.x; rfl; rfl; (first | exact xgrow | exact xput); intro _ _) | (apply TL.guard; rfl; rfl; rfl; (with_reducible (first | exact Is.ndec | exact Is.dec | exact Is.not | ((fail_if_success exact Is.litT); (fail_if_success exact Is.litF); exact Is.base))); intro _; rotate_left; intro _; rotate_right)))
        exact N.both (by (repeat (first | exact True.intro | refine ⟨rfl, ?_⟩ | refine Sub.int rfl (by omega) ?_)))
      · simp only [List.set_cons_zero]
        have hk8 : g < 8 := by omega
        repeat (any_goals (first | refine T.seq ?_ | refine T.region ?_ | refine TL.nil ?_ | refine N.next ?_ | refine N.inBlock ?_ | refine N.exit_same ?_ | refine N.exit_then ?_ | refine N.ret_then ?_ | refine N.ret_block ?_ | (apply N.exit_other; rfl) | refine T.ret ?_ | refine T.skip ?_ | refine T.exit ?_ | refine T.block ?_ | (apply T.cond_true; rfl) | (apply T.cond_false; rfl) | (apply T.test; rfl; (with_reducible (first | exact Is.ndec | exact Is.dec | exact Is.not | ((fail_if_success exact Is.litT); (fail_if_success exact Is.litF); exact Is.base))); intro _; rotate_left; intro _; rotate_right) | (apply TL.skip; rfl; rfl; rfl) | (apply TL.skip_none; rfl; rfl) | (apply TL.val; rfl; rfl; (apply V.elemI; rfl; rfl; rfl; rfl; rfl; (show 0 ≤ 8 - (g : Int) - 1 ∧ 8 - (g : Int) - 1 < (8 : Nat); omega); rfl)) | (apply TL.val; rfl; rfl; (first | exact vpure | exact vread)) | (apply TL.x; rfl; rfl; (first | exact xgrow | exact xput); intro _ _) | (apply TL.guard; rfl; rfl; rfl; (with_reducible (first | exact Is.ndec | exact Is.dec | exact Is.not | ((fail_if_success exact Is.litT); (fail_if_success exact Is.litF); exact Is.base))); intro _; rotate_left; intro _; rotate_right)))
        refine TL.x rfl rfl (X.storeRowE 4 (vs := [strV (labs l)[g]]) (ys := encs (spaceAt (labs l) (g + 1))) rfl rfl rfl rfl rfl rfl rfl (by show 0 + (8 - (g : Int) - 1).toNat * 1 + 1 ≤ 8 * 1; omega) ?_) ?_
        · rw [← space_up hk hk8]
          exact encs_put (k := 7 - g) (j := 0) (vs := [strV (labs l)[g]]) (x := ([] : Bytes)) (y := (labs l)[g]) (space_get hk8) (by show 0 + 1 ≤ 1; omega) rfl (by show 0 + (8 - (g : Int) - 1).toNat * 1 = (7 - g) * 1 + 0; omega)
        intro _ _
        repeat (any_goals (first | refine T.seq ?_ | refine T.region ?_ | refine TL.nil ?_ | refine N.next ?_ | refine N.inBlock ?_ | refine N.exit_same ?_ | refine N.exit_then ?_ | refine N.ret_then ?_ | refine N.ret_block ?_ | (apply N.exit_other; rfl) | refine T.ret ?_ | refine T.skip ?_ | refine T.exit ?_ | refine T.block ?_ | (apply T.cond_true; rfl) | (apply T.cond_false; rfl) | (apply T.test; rfl; (with_reducible (first | exact Is.ndec | exact Is.dec | exact Is.not | ((fail_if_success exact Is.litT); (fail_if_success exact Is.litF); exact Is.base))); intro _; rotate_left; intro _; rotate_right) | (apply TL.skip; rfl; rfl; rfl) | (apply TL.skip_none; rfl; rfl) | (apply TL.val; rfl; rfl; (first | exact vpure | exact vread)) | (apply TL.x; rfl; rfl; (first | exact xgrow | exact xput); intro _ _) | (apply TL.guard; rfl; rfl; rfl; (with_reducible (first | exact Is.ndec | exact Is.dec | exact Is.not | ((fail_if_success exact Is.litT); (fail_if_success exact Is.litF); exact Is.base))); intro _; rotate_left; intro _; rotate_right)))
        refine N.round_out (i := 0) (e := .normal) trivial rfl fun w hs => ⟨true, g + 1, rfl, ?_, ?_⟩
        · rw [if_pos rfl]
        · rw [show (8 - (g : Int) - 1) = 8 - ((g + 1 : Nat) : Int) by omega] at hs
          exact hs
    · rintro e w2 ⟨v, g, rfl, (rfl | hF), hs2⟩
      · exact ⟨(), v, .ready, rfl, trivial, by simp, hs2⟩
      · exact hF.elim
  · intro b g hg
    show N _ _ _ _ .normal _ _ _
    repeat (any_goals (first | refine T.seq ?_ | refine T.region ?_ | refine TL.nil ?_ | refine N.next ?_ | refine N.inBlock ?_ | refine N.exit_same ?_ | refine N.exit_then ?_ | refine N.ret_then ?_ | refine N.ret_block ?_ | (apply N.exit_other; rfl) | refine T.ret ?_ | refine T.skip ?_ | refine T.exit ?_ | refine T.block ?_ | (apply T.cond_true; rfl) | (apply T.cond_false; rfl) | (apply T.test; rfl; (with_reducible (first | exact Is.ndec | exact Is.dec | exact Is.not | ((fail_if_success exact Is.litT); (fail_if_success exact Is.litF); exact Is.base))); intro _; rotate_left; intro _; rotate_right) | (apply TL.skip; rfl; rfl; rfl) | (apply TL.skip_none; rfl; rfl) | (apply TL.val; rfl; rfl; (apply V.lenE; rfl; rfl; rfl; rfl; rfl)) | (apply TL.val; rfl; rfl; (apply V.slice3 (8 - (labs l).length) 8 8; rfl; rfl; rfl; rfl; rfl; rfl; rfl; omega; rfl; rfl; omega; omega; omega)) | (apply TL.val; rfl; rfl; (first | exact vpure | exact vread)) | (apply TL.x; rfl; rfl; (first | exact xgrow | exact xput); intro _ _) | (apply TL.guard; rfl; rfl; rfl; (with_reducible (first | exact Is.ndec | exact Is.dec | exact Is.not | ((fail_if_success exact Is.litT); (fail_if_success exact Is.litF); exact Is.base))); intro _; rotate_left; intro _; rotate_right)))
    refine N.marked (i := 0) rfl (N.ret2 rfl (by (exact rvx)) (by (exact rvx)) fun w hst => ?_)
    obtain ⟨H', s, e1, e2, e3, e4, e5⟩ := (hst.sub (L' := [.row (.slice (some ⟨bm, 0, none⟩) 8 8) 9 1 8 (encs (spaceAt (labs l) (labs l).length))]) (.cons _ (.cons _ (.cons _ (List.Sublist.refl _))))).freezeRow rfl (space_len (Nat.le_refl _) h8) (space_good hgood)
    obtain ⟨A, m, c, els⟩ := s
    simp only [Slc.v, Value.slice.injEq] at e1
    simp only at e2
    obtain ⟨rfl, rfl, rfl⟩ := e1
    subst e2
    refine ⟨(H', (⟨some ⟨bm, 0, none⟩, 8, 8, spaceAt (labs l) (labs l).length⟩ : Slc Bytes).drop (8 - (labs l).length)), ⟨?_, e3.drop (by show 8 - (labs l).length ≤ 8; omega)⟩, rfl, e5.fresh⟩
    show (spaceAt (labs l) (labs l).length).drop (8 - (labs l).length) = parts l
    rw [space_end h8, labs_parts]
end Go.Proofs.YtogcofeencgipaaGreatDoor
namespace Go.Proofs.YtogcofeencgipaaGreatDoor
set_option linter.unusedVariables false
set_option linter.unusedSimpArgs false
open Go Go.RowKit
set_option maxRecDepth 20000

theorem inZone_no {s z : Bytes} (h : nameOK z = false) : inZone s z = false := by unfold inZone; simp [h]
theorem c_belongsNo (s z : Bytes) (h : nameOK z = false) (H : Hp) (w : World) (hs : Sat H w) (hl : LenOk s) (hz : LenOk z) : Calls Tryz.prog 158 #[strV s, strV z] w (Ret w (.bool (inZone s z))) := by
  refine T.enter (vs := [strV s, strV z]) (H := H) Tryz.func158 rfl rfl rfl hs ?_
  rw [inZone_no h]
  repeat (any_goals (first | refine T.seq ?_ | refine T.region ?_ | refine TL.nil ?_ | refine N.next ?_ | refine N.inBlock ?_ | refine N.exit_same ?_ | refine N.exit_then ?_ | refine N.ret_then ?_ | refine N.ret_block ?_ | (apply N.exit_other; rfl) | refine T.ret ?_ | refine T.skip ?_ | refine T.exit ?_ | refine T.block ?_ | (apply T.cond_true; rfl) | (apply T.cond_false; rfl) | (apply T.test; rfl; (with_reducible (first | exact Is.ndec | exact Is.dec | exact Is.not | ((fail_if_success exact Is.litT); (fail_if_success exact Is.litF); exact Is.base))); intro _; rotate_left; intro _; rotate_right) | (apply TL.skip; rfl; rfl; rfl) | (apply TL.skip_none; rfl; rfl) | (apply TL.call0 (f := 199) Tryz.call199; rfl; rfl; rfl; (exact fun _ hs => c_LabelsNo z h _ _ hs.sat hz)) | (apply TL.call0 (f := 188) Tryz.call188; rfl; rfl; rfl; (exact fun _ hs => c_Under _ _ _ _ hs.sat hl hz)) | (apply TL.val; rfl; rfl; (first | exact vpure | exact vread)) | (apply TL.x; rfl; rfl; (first | exact xgrow | exact xput); intro _ _) | (apply TL.guard; rfl; rfl; rfl; (with_reducible (first | exact Is.ndec | exact Is.dec | exact Is.not | ((fail_if_success exact Is.litT); (fail_if_success exact Is.litF); exact Is.base))); intro _; rotate_left; intro _; rotate_right)))
  all_goals (try (exfalso; omega))
  all_goals (try (first | (apply N.ret_bool; rfl; (exact rvx)) | (apply N.ret_int; rfl; (exact rvx)) | (apply N.ret_val; rfl; (exact rvx))))
  all_goals first | rfl | trace_state
theorem star_head {z : Bytes} (h0 : 0 < (parts z).length) : starN z = decide ((parts z)[0] = [42]) := by
  unfold starN
  rw [List.head?_eq_getElem?, List.getElem?_eq_getElem h0]
  simp
theorem star_none {z : Bytes} (h0 : ¬ 0 < (parts z).length) : starN z = false := by
  unfold starN
  rw [List.eq_nil_of_length_eq_zero (by omega : (parts z).length = 0)]
  simp
theorem inZone_yes {s z : Bytes} (h : nameOK z = true) (hst : starN z = false) : inZone s z = (underC s z).1 := by
  unfold inZone underC
  rw [h, hst]
  cases hs : nameOK s with
  | false => simp
  | true => simp [under_in h]
theorem underC_err {s z : Bytes} (h : nameOK z = true) : (underC s z).2 = 0 ∨ (underC s z).1 = false := by
  unfold underC
  split
  · exact .inl rfl
  · exact .inr rfl
set_option maxHeartbeats 1000000 in
theorem c_belongsYes (s z : Bytes) (h : nameOK z = true) (H : Hp) (w : World) (hs : Sat H w) (hl : LenOk s) (hz : LenOk z) : Calls Tryz.prog 158 #[strV s, strV z] w (Ret w (.bool (inZone s z))) := by
  refine T.enter (vs := [strV s, strV z]) (H := H) Tryz.func158 rfl rfl rfl hs ?_
  obtain ⟨ub, ue, hu⟩ : ∃ ub ue, underC s z = (ub, ue) := ⟨_, _, rfl⟩
  have hcu : ∀ H w, Sat H w → Calls Tryz.prog 188 #[strV s, strV z] w (Ret w (.tuple #[.bool ub, intV ue])) := fun H w hs => by
    have := c_Under s z H w hs hl hz
    rwa [hu] at this
  have hue : ue = 0 ∨ ub = false := by
    have := underC_err (s := s) h
    rw [hu] at this; exact this
  repeat (any_goals (first | refine T.seq ?_ | refine T.region ?_ | refine TL.nil ?_ | refine N.next ?_ | refine N.inBlock ?_ | refine N.exit_same ?_ | refine N.exit_then ?_ | refine N.ret_then ?_ | refine N.ret_block ?_ | (apply N.exit_other; rfl) | refine T.ret ?_ | refine T.skip ?_ | refine T.exit ?_ | refine T.block ?_ | (apply T.cond_true; rfl) | (apply T.cond_false; rfl) | (apply T.test; rfl; (with_reducible (first | exact Is.ndec | exact Is.dec | exact Is.not | ((fail_if_success exact Is.litT); (fail_if_success exact Is.litF); exact Is.base))); intro _; rotate_left; intro _; rotate_right) | (apply TL.skip; rfl; rfl; rfl) | (apply TL.skip_none; rfl; rfl) | (apply TL.x; rfl; rfl; (apply X.callFE (f := 199) [strV z] Tryz.call199; rfl; rfl; rfl; exact (fun _ hs => c_LabelsYes z h _ _ hs.sat hz)); intro g hg; obtain ⟨⟨hg1, hg2⟩, hg3⟩ := hg; have hgl := hg2.len) | (apply TL.val; rfl; rfl; (apply V.elem (j := 0); rfl; rfl; rfl; rfl; rfl; rfl; (show 0 < g.2.len; omega); exact hg2.at_ (by omega))) | (apply TL.val; rfl; rfl; (apply V.load_H; rfl; rfl; rfl; exact hg2.cell0 (k := 0) (by omega) rfl)) | (apply TL.call0 (f := 188) Tryz.call188; rfl; rfl; rfl; (exact fun _ hs => hcu _ _ hs.sat)) | (apply TL.val; rfl; rfl; (first | exact vpure | exact vread)) | (apply TL.x; rfl; rfl; (first | exact xgrow | exact xput); intro _ _) | (apply TL.guard; rfl; rfl; rfl; (with_reducible (first | exact Is.ndec | exact Is.dec | exact Is.not | ((fail_if_success exact Is.litT); (fail_if_success exact Is.litF); exact Is.base))); intro _; rotate_left; intro _; rotate_right)))
  all_goals (try (exfalso; omega))
  all_goals (try (first | (apply N.ret_bool; rfl; (exact rvx)) | (apply N.ret_int; rfl; (exact rvx)) | (apply N.ret_val; rfl; (exact rvx))))
  all_goals have hgl' : (parts z).length = g.2.len := by rw [← hg1]; exact hgl
  · have h0 : 0 < (parts z).length := by omega
    have e0 : g.2.els[0]'(by omega) = (parts z)[0] := by simp only [hg1]
    have hst : starN z = true := by rw [star_head h0, ← e0]; exact decide_eq_true (by assumption)
    unfold inZone; rw [hst]; simp
  all_goals
    have hst : starN z = false := by
      by_cases h0 : 0 < (parts z).length
      · have e0 : g.2.els[0]'(by omega) = (parts z)[0] := by simp only [hg1]
        rw [star_head h0, ← e0]
        first | exact decide_eq_false (by assumption) | (exfalso; omega)
      · exact star_none h0
    rw [inZone_yes h hst, hu]
    show _ = ub
    rcases hue with e | e
    · first | (symm; assumption) | (rw [e]; simp_all)
    · simp_all
theorem c_belongs (s z : Bytes) (H : Hp) (w : World) (hs : Sat H w) (hl : LenOk s) (hz : LenOk z) : Calls Tryz.prog 158 #[strV s, strV z] w (Ret w (.bool (inZone s z))) := by
  cases h : nameOK z with
  | false => exact c_belongsNo s z h H w hs hl hz
  | true => exact c_belongsYes s z h H w hs hl hz
end Go.Proofs.YtogcofeencgipaaGreatDoor
