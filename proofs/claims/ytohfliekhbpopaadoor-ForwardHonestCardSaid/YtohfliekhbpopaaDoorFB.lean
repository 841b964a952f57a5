/- Walks: which forwarding resolvers are valid. -/
import Derived.Test.YtohfliekhbpopaaDoorFA
import Derived.Test.YtohfliekhbpopaaDoorWG
namespace Go.Proofs.YtohfliekhbpopaaDoor
set_option linter.unusedVariables false
set_option linter.unusedSimpArgs false
open Go Go.RowKit
open Enc (enc)
set_option maxRecDepth 20000

theorem fwdc_iff (f : Fwd) (hlen : f.ups.els.length = f.ups.len) (hs : f.ans.sets.els.length = f.ans.sets.len) : fwdOK f.c = true ↔ nameOK f.q.name = true ∧ (1 ≤ f.q.typ ∧ f.q.typ ≤ 8) ∧ (1 ≤ f.own ∧ f.own ≤ 1000000) ∧ upsOK f.own f.ups.els = true ∧ (0 ≤ f.at_ ∧ f.at_ < f.ups.len) ∧ (0 ≤ f.tried ∧ f.tried ≤ 8) ∧ (0 ≤ f.til ∧ f.til ≤ 10000005) ∧ (0 ≤ f.id ∧ f.id ≤ 65535) ∧ ¬ (f.done = true ∧ f.dark = true) ∧ (f.dark = true ↔ f.tried = 8) ∧
    (f.done = true → answerOK f.ans.c = true ∧ f.ans.kind ≠ 7) ∧ (f.done = false → f.ans.kind = 0 ∧ f.ans.sets.len = 0 ∧ f.ans.cut = []) := by
  rw [fwdOK_iff]
  have e1 : questionOK f.c.q = true ↔ nameOK f.q.name = true ∧ (1 ≤ f.q.typ ∧ f.q.typ ≤ 8) := by
    show questionOK f.q = true ↔ _
    unfold questionOK
    rw [Bool.and_eq_true, decide_eq_true_iff]
  have e2 : f.c.ans = ansNil ↔ f.ans.kind = 0 ∧ f.ans.sets.len = 0 ∧ f.ans.cut = [] := by
    show Answer.c f.ans = ansNil ↔ _
    unfold Answer.c ansNil
    simp only [AnswerC.mk.injEq, List.map_eq_nil_iff, ← hs, List.length_eq_zero_iff]
  have e3 : (if f.c.done = true then answerOK f.c.ans = true ∧ f.c.ans.kind ≠ 7 else f.c.ans = ansNil) ↔ ((f.done = true → answerOK f.ans.c = true ∧ f.ans.kind ≠ 7) ∧ (f.done = false → f.ans.kind = 0 ∧ f.ans.sets.len = 0 ∧ f.ans.cut = [])) := by
    rw [e2]
    show (if f.done = true then answerOK f.ans.c = true ∧ f.ans.kind ≠ 7 else _) ↔ _
    cases f.done <;> simp
  rw [e1, e3, and_assoc]
  show _ ∧ _ ∧ _ ∧ _ ∧ (0 ≤ f.at_ ∧ f.at_ < (f.ups.els.length : Int)) ∧ _ ↔ _
  rw [hlen]
  exact Iff.rfl
theorem fwdc_no {f : Fwd} (hlen : f.ups.els.length = f.ups.len) (hs : f.ans.sets.els.length = f.ans.sets.len) (h : (nameOK f.q.name = true ∧ (1 ≤ f.q.typ ∧ f.q.typ ≤ 8) ∧ (1 ≤ f.own ∧ f.own ≤ 1000000) ∧ upsOK f.own f.ups.els = true ∧ (0 ≤ f.at_ ∧ f.at_ < f.ups.len) ∧ (0 ≤ f.tried ∧ f.tried ≤ 8) ∧ (0 ≤ f.til ∧ f.til ≤ 10000005) ∧ (0 ≤ f.id ∧ f.id ≤ 65535) ∧ ¬ (f.done = true ∧ f.dark = true) ∧ (f.dark = true ↔ f.tried = 8) ∧
    (f.done = true → answerOK f.ans.c = true ∧ f.ans.kind ≠ 7) ∧ (f.done = false → f.ans.kind = 0 ∧ f.ans.sets.len = 0 ∧ f.ans.cut = [])) → False) : false = fwdOK f.c := (Bool.eq_false_iff.2 fun h' => h ((fwdc_iff f hlen hs).1 h')).symm
def doneMsg (f : Fwd) : Msg := ⟨2, 0, 1, 1, f.q, f.ans⟩
theorem doneMsg_ok (f : Fwd) : msgOK (doneMsg f).c = (questionOK f.q && answerOK f.ans.c) := by
  rw [Bool.eq_iff_iff, msgOK_ands, Bool.and_eq_true]
  show (0 ≤ (0 : Int) ∧ (0 : Int) ≤ 65535) ∧ (1 ≤ (1 : Int) ∧ (1 : Int) ≤ 1000000) ∧ (1 ≤ (1 : Int) ∧ (1 : Int) ≤ 1000000) ∧ questionOK f.q = true ∧ (((2 : Int) = 1 ∧ _) ∨ ((2 : Int) = 2 ∧ answerOK f.ans.c = true)) ↔ _
  simp
theorem question_and {q : Question} (h1 : nameOK q.name = true) (h2 : 1 ≤ q.typ ∧ q.typ ≤ 8) : questionOK q = true := by
  unfold questionOK
  rw [h1, decide_eq_true h2]; rfl
set_option maxHeartbeats 2000000 in
theorem c_fvalid (f : Fwd) (H : Hp) (w : World) (hs : Sat H w) (hR : Rules H) (hg : Enc.good H f) : Calls Tryd.prog 53 #[.agg (enc f).toArray] w (Ret w (.bool (fwdOK f.c))) := by
  have hg' := hg
  obtain ⟨g1, g2, g3, g4, g5, g6, g7, g8⟩ := hg
  have hlen : f.ups.els.length = f.ups.len := g3.len
  have hsl : f.ans.sets.els.length = f.ans.sets.len := g8.2.1.len
  have hlim := g3.lim
  have hm : Enc.good H (doneMsg f) := ⟨by show I64 2; decide, by show I64 0; decide, by show I64 1; decide, by show I64 1; decide, g1, g8⟩
  refine T.enter (vs := [.agg (enc f).toArray]) (H := H) Tryd.func53 rfl rfl rfl hs ?_
  repeat (any_goals (first | refine T.seq ?_ | refine T.region ?_ | (apply T.regionD wide; rfl) | refine TL.nil ?_ | refine N.next ?_ | refine N.inBlock ?_ | refine N.exit_same ?_ | refine N.exit_then ?_ | refine N.ret_then ?_ | refine N.ret_block ?_ | (apply N.exit_other; rfl) | refine T.ret ?_ | refine T.skip ?_ | refine T.exit ?_ | refine T.block ?_ | (apply T.cond_true; rfl) | (apply T.cond_false; rfl) | (apply T.test; rfl; (with_reducible (first | exact Is.ndec | exact Is.dec | exact Is.not | ((fail_if_success exact Is.litT); (fail_if_success exact Is.litF); exact Is.base))); intro _; rotate_left; intro _; rotate_right) | (apply TL.skip; rfl; rfl; rfl) | (apply TL.skip_none; rfl; rfl) | (apply GT.skip; rfl; rfl; rfl; decide +kernel) | (apply GS.grow; rfl; rfl; (apply X.callR0 (f := 84) Tryd.call84; rfl; rfl; (exact fun _ hs => c_nameValid _ _ _ hs.sat g1.1)); intro _ _) | (apply TL.call0 (f := 84) Tryd.call84; rfl; rfl; rfl; (exact fun _ hs => c_nameValid _ _ _ hs.sat g1.1)) | (apply GT.call0 (f := 84) Tryd.call84; rfl; rfl; rfl; rfl; rfl; (exact fun _ hs => c_nameValid _ _ _ hs.sat g1.1); decide +kernel) | (apply GS.grow; rfl; rfl; (apply X.callR0 (f := 52) Tryd.call52; rfl; rfl; (exact fun _ hs => c_betweenF _ _ _ _ _ hs.sat)); intro _ _) | (apply TL.call0 (f := 52) Tryd.call52; rfl; rfl; rfl; (exact fun _ hs => c_betweenF _ _ _ _ _ hs.sat)) | (apply GT.call0 (f := 52) Tryd.call52; rfl; rfl; rfl; rfl; rfl; (exact fun _ hs => c_betweenF _ _ _ _ _ hs.sat); decide +kernel) | (apply GS.grow; rfl; rfl; (apply X.callR0 (f := 85) Tryd.call85; rfl; rfl; (exact fun _ hs => c_upsOK f.ups f.own _ _ hs.sat g3)); intro _ _) | (apply TL.call0 (f := 85) Tryd.call85; rfl; rfl; rfl; (exact fun _ hs => c_upsOK f.ups f.own _ _ hs.sat g3)) | (apply GT.call0 (f := 85) Tryd.call85; rfl; rfl; rfl; rfl; rfl; (exact fun _ hs => c_upsOK f.ups f.own _ _ hs.sat g3); decide +kernel) | (apply TL.val; rfl; rfl; (apply V.bneq; rfl; rfl; rfl)) | (apply GT.pure; rfl; rfl; rfl; rfl; (apply V.bneq; rfl; rfl; rfl); decide +kernel) | (apply GT.read; rfl; rfl; rfl; rfl; (apply V.bneq; rfl; rfl; rfl); decide +kernel) | (apply TL.val; rfl; rfl; (apply V.build; rfl; rfl; rfl; rfl; rfl; rfl)) | (apply GT.pure; rfl; rfl; rfl; rfl; (apply V.build; rfl; rfl; rfl; rfl; rfl; rfl); decide +kernel) | (apply GT.read; rfl; rfl; rfl; rfl; (apply V.build; rfl; rfl; rfl; rfl; rfl; rfl); decide +kernel) | (apply TL.callE (f := 57) [.agg (enc (doneMsg f)).toArray] Tryd.call57; rfl; rfl; rfl; rfl; (exact fun _ hs => c_packetValid (doneMsg f) _ _ hs.sat hR hm)) | (apply GT.callE (f := 57) [.agg (enc (doneMsg f)).toArray] Tryd.call57; rfl; rfl; rfl; rfl; rfl; rfl; (exact fun _ hs => c_packetValid (doneMsg f) _ _ hs.sat hR hm); decide +kernel) | (apply TL.val; rfl; rfl; (first | exact vpure | exact vread)) | (apply GT.pure; rfl; rfl; rfl; rfl; (first | exact vpure); decide +kernel) | (apply GT.read; rfl; rfl; rfl; rfl; (first | exact vpure | exact vread); decide +kernel) | (apply GT.done; decide +kernel; apply N.ofQ) | (apply GT.adv; rfl) | (apply TL.x; rfl; rfl; (first | exact xgrow | exact xput); intro _ _) | (apply GS.grow; rfl; rfl; (first | exact xgrow); intro _ _) | (apply GS.eff; rfl; decide +kernel; rfl; (first | exact xput); intro _ _) | (apply TL.guard; rfl; rfl; rfl; (with_reducible (first | exact Is.ndec | exact Is.dec | exact Is.not | ((fail_if_success exact Is.litT); (fail_if_success exact Is.litF); exact Is.base))); intro _; rotate_left; intro _; rotate_right) | (apply GT.guard; rfl; rfl; rfl; rfl; (with_reducible (first | exact Is.ndec | exact Is.dec | exact Is.not | ((fail_if_success exact Is.litT); (fail_if_success exact Is.litF); exact Is.base))); intro _; rotate_left; intro _; rotate_right) | (apply GT.fork1; decide +kernel) | (apply GT.fork2 1; decide +kernel) | (apply GT.fork2 2; decide +kernel) | (apply GT.fork2 3; decide +kernel) | (apply GT.fork2 4; decide +kernel) | (apply GT.fork2 5; decide +kernel) | (apply GT.fork2 6; decide +kernel) | (apply GT.fork2 7; decide +kernel) | (apply GT.fork2 8; decide +kernel) | (apply GT.fork2 9; decide +kernel) | (apply GT.fork2 10; decide +kernel) | (apply GT.fork2 11; decide +kernel) | (apply GT.fork2 12; decide +kernel) | (apply GT.fork2 13; decide +kernel) | (apply GT.fork2 14; decide +kernel) | (apply GT.fork2 15; decide +kernel) | (apply GT.fork2 16; decide +kernel) | (apply GT.fork2 17; decide +kernel) | (apply GT.fork2 18; decide +kernel) | (apply GT.fork2 19; decide +kernel) | (apply GT.fork2 20; decide +kernel) | (apply GT.fork2 21; decide +kernel) | (apply GT.fork2 22; decide +kernel) | (apply GT.fork2 23; decide +kernel)))
  all_goals (try (first | (apply N.ret_bool; rfl; (exact rvx)) | (apply N.ret_int; rfl; (exact rvx)) | (apply N.ret_val; rfl; (exact rvx))))
  all_goals first
    | exact fwdc_no hlen hsl (by
        rintro ⟨b1, b2, b3, b4, b5, b6, b7, b8, b9, b10, b11, b12⟩
        first
          | contradiction
          | omega)
    | (have h1 := fwdc_iff f hlen hsl
       have h2 := doneMsg_ok f
       have h3 : questionOK f.q = (nameOK f.q.name && decide (1 ≤ f.q.typ ∧ f.q.typ ≤ 8)) := rfl
       grind)
    | trace_state
set_option maxHeartbeats 2000000 in
theorem c_Valid29 (f : Fwd) (H : Hp) (w : World) (hs : Sat H w) (hg : Enc.good H f) : Calls Tryd.prog 25 #[.agg (enc f).toArray] w (Ret w (.bool (fwdOK f.c))) := by
  have hg' := hg
  obtain ⟨g1, g2, g3, g4, g5, g6, g7, g8⟩ := hg
  have hlen : f.ups.els.length = f.ups.len := g3.len
  have hsl : f.ans.sets.els.length = f.ans.sets.len := g8.2.1.len
  have hlim := g3.lim
  refine T.enter (vs := [.agg (enc f).toArray]) (H := H) Tryd.func25 rfl rfl rfl hs ?_
  repeat (any_goals (first | refine T.seq ?_ | refine T.region ?_ | (apply T.regionD wide; rfl) | refine TL.nil ?_ | refine N.next ?_ | refine N.inBlock ?_ | refine N.exit_same ?_ | refine N.exit_then ?_ | refine N.ret_then ?_ | refine N.ret_block ?_ | (apply N.exit_other; rfl) | refine T.ret ?_ | refine T.skip ?_ | refine T.exit ?_ | refine T.block ?_ | (apply T.cond_true; rfl) | (apply T.cond_false; rfl) | (apply T.test; rfl; (with_reducible (first | exact Is.ndec | exact Is.dec | exact Is.not | ((fail_if_success exact Is.litT); (fail_if_success exact Is.litF); exact Is.base))); intro _; rotate_left; intro _; rotate_right) | (apply TL.skip; rfl; rfl; rfl) | (apply TL.skip_none; rfl; rfl) | (apply GT.skip; rfl; rfl; rfl; decide +kernel) | (apply TL.callE (f := 64) [.agg (enc f.q).toArray] Tryd.call64; rfl; rfl; rfl; rfl; (exact fun _ hs => c_Question26 f.q _ _ hs.sat g1)) | (apply GT.callE (f := 64) [.agg (enc f.q).toArray] Tryd.call64; rfl; rfl; rfl; rfl; rfl; rfl; (exact fun _ hs => c_Question26 f.q _ _ hs.sat g1); decide +kernel) | (apply GS.grow; rfl; rfl; (apply X.callR0 (f := 65) Tryd.call65; rfl; rfl; (exact fun _ hs => c_address29 _ _ _ hs.sat)); intro _ _) | (apply TL.call0 (f := 65) Tryd.call65; rfl; rfl; rfl; (exact fun _ hs => c_address29 _ _ _ hs.sat)) | (apply GT.call0 (f := 65) Tryd.call65; rfl; rfl; rfl; rfl; rfl; (exact fun _ hs => c_address29 _ _ _ hs.sat); decide +kernel) | (apply GS.grow; rfl; rfl; (apply X.callR0 (f := 66) Tryd.call66; rfl; rfl; (exact fun _ hs => c_ups29 f.own f.ups _ _ hs.sat g3)); intro _ _) | (apply TL.call0 (f := 66) Tryd.call66; rfl; rfl; rfl; (exact fun _ hs => c_ups29 f.own f.ups _ _ hs.sat g3)) | (apply GT.call0 (f := 66) Tryd.call66; rfl; rfl; rfl; rfl; rfl; (exact fun _ hs => c_ups29 f.own f.ups _ _ hs.sat g3); decide +kernel) | (apply TL.val; rfl; rfl; (apply V.bneq; rfl; rfl; rfl)) | (apply GT.pure; rfl; rfl; rfl; rfl; (apply V.bneq; rfl; rfl; rfl); decide +kernel) | (apply GT.read; rfl; rfl; rfl; rfl; (apply V.bneq; rfl; rfl; rfl); decide +kernel) | (apply TL.callE (f := 32) [.agg (enc f.ans).toArray] Tryd.call32; rfl; rfl; rfl; rfl; (exact fun _ hs => c_Answer26 f.ans _ _ hs.sat g8)) | (apply GT.callE (f := 32) [.agg (enc f.ans).toArray] Tryd.call32; rfl; rfl; rfl; rfl; rfl; rfl; (exact fun _ hs => c_Answer26 f.ans _ _ hs.sat g8); decide +kernel) | (apply TL.val; rfl; rfl; (first | exact vpure | exact vread)) | (apply GT.pure; rfl; rfl; rfl; rfl; (first | exact vpure); decide +kernel) | (apply GT.read; rfl; rfl; rfl; rfl; (first | exact vpure | exact vread); decide +kernel) | (apply GT.done; decide +kernel; apply N.ofQ) | (apply GT.adv; rfl) | (apply TL.x; rfl; rfl; (first | exact xgrow | exact xput); intro _ _) | (apply GS.grow; rfl; rfl; (first | exact xgrow); intro _ _) | (apply GS.eff; rfl; decide +kernel; rfl; (first | exact xput); intro _ _) | (apply TL.guard; rfl; rfl; rfl; (with_reducible (first | exact Is.ndec | exact Is.dec | exact Is.not | ((fail_if_success exact Is.litT); (fail_if_success exact Is.litF); exact Is.base))); intro _; rotate_left; intro _; rotate_right) | (apply GT.guard; rfl; rfl; rfl; rfl; (with_reducible (first | exact Is.ndec | exact Is.dec | exact Is.not | ((fail_if_success exact Is.litT); (fail_if_success exact Is.litF); exact Is.base))); intro _; rotate_left; intro _; rotate_right) | (apply GT.fork1; decide +kernel) | (apply GT.fork2 1; decide +kernel) | (apply GT.fork2 2; decide +kernel) | (apply GT.fork2 3; decide +kernel) | (apply GT.fork2 4; decide +kernel) | (apply GT.fork2 5; decide +kernel) | (apply GT.fork2 6; decide +kernel) | (apply GT.fork2 7; decide +kernel) | (apply GT.fork2 8; decide +kernel) | (apply GT.fork2 9; decide +kernel) | (apply GT.fork2 10; decide +kernel) | (apply GT.fork2 11; decide +kernel) | (apply GT.fork2 12; decide +kernel) | (apply GT.fork2 13; decide +kernel) | (apply GT.fork2 14; decide +kernel) | (apply GT.fork2 15; decide +kernel) | (apply GT.fork2 16; decide +kernel) | (apply GT.fork2 17; decide +kernel) | (apply GT.fork2 18; decide +kernel) | (apply GT.fork2 19; decide +kernel) | (apply GT.fork2 20; decide +kernel) | (apply GT.fork2 21; decide +kernel) | (apply GT.fork2 22; decide +kernel) | (apply GT.fork2 23; decide +kernel)))
  all_goals (try (first | (apply N.ret_bool; rfl; (exact rvx)) | (apply N.ret_int; rfl; (exact rvx)) | (apply N.ret_val; rfl; (exact rvx))))
  all_goals first
    | exact fwdc_no hlen hsl (by
        rintro ⟨b1, b2, b3, b4, b5, b6, b7, b8, b9, b10, b11, b12⟩
        first
          | contradiction
          | omega)
    | (have h1 := fwdc_iff f hlen hsl
       have h2 := doneMsg_ok f
       have h3 : questionOK f.q = (nameOK f.q.name && decide (1 ≤ f.q.typ ∧ f.q.typ ≤ 8)) := rfl
       grind)
    | trace_state
end Go.Proofs.YtohfliekhbpopaaDoor
