/- Walks: answers, messages. -/
import Derived.Test.YtogcofeencgipaaGreatDoorZWF
import Derived.Test.YtogcofeencgipaaGreatDoorZWEq
namespace Go.Proofs.YtogcofeencgipaaGreatDoor
set_option linter.unusedVariables false
set_option linter.unusedSimpArgs false
open Go Go.RowKit
open Enc (enc)
set_option maxRecDepth 20000

def AnsHead (a : Answer) : Prop := (1 ≤ a.kind ∧ a.kind ≤ 7) ∧ a.sets.len ≤ 40 ∧ (a.kind = 4 → nameOK a.cut = true) ∧ (a.kind ≠ 4 → a.cut = [])
theorem answerOK_iff (a : Answer) (hlen : a.sets.els.length = a.sets.len) : answerOK a.c = true ↔ (AnsHead a ∧ a.sets.els.all (fun s => signedOK s.c) = true) := by
  unfold answerOK AnsHead
  rw [show a.c.kind = a.kind from rfl, show a.c.sets = a.sets.els.map Signed.c from rfl, show a.c.cut = a.cut from rfl, List.all_map, List.length_map, hlen]
  rw [show (signedOK ∘ Signed.c) = fun s => signedOK s.c from rfl]
  generalize (a.sets.els.all fun s => signedOK s.c) = e
  by_cases h : a.kind = 4
  · simp [h]; grind
  · simp [h]; grind
theorem answerOK_no {a : Answer} (hlen : a.sets.els.length = a.sets.len) (h : ¬ AnsHead a) : false = answerOK a.c := (Bool.eq_false_iff.2 fun h' => h ((answerOK_iff a hlen).1 h').1).symm
theorem c_answerOK (a : Answer) (H : Hp) (w : World) (hs : Sat H w) (hR : Rules H) (hg : Enc.good H a) : Calls Tryz.prog 67 #[.agg (enc a).toArray] w (Ret w (.bool (answerOK a.c))) := by
  obtain ⟨h1, h2, h3⟩ := hg
  have hlen : a.sets.els.length = a.sets.len := h2.len
  have hlim := h2.lim
  have hany : ∀ e, (a.sets.els.any fun x => !signedOK x.c) = e → (a.sets.els.all fun x => signedOK x.c) = !e := fun e h => by rw [← h, any_not]
  refine T.enter (vs := [.agg (enc a).toArray]) (H := H) Tryz.func67 rfl rfl rfl hs ?_
  repeat (any_goals (first | refine T.seq ?_ | refine T.region ?_ | refine TL.nil ?_ | refine N.next ?_ | refine N.inBlock ?_ | refine N.exit_same ?_ | refine N.exit_then ?_ | refine N.ret_then ?_ | refine N.ret_block ?_ | (apply N.exit_other; rfl) | refine T.ret ?_ | refine T.skip ?_ | refine T.exit ?_ | refine T.block ?_ | (apply T.cond_true; rfl) | (apply T.cond_false; rfl) | (apply T.test; rfl; (with_reducible (first | exact Is.ndec | exact Is.dec | exact Is.not | ((fail_if_success exact Is.litT); (fail_if_success exact Is.litF); exact Is.base))); intro _; rotate_left; intro _; rotate_right) | (apply TL.skip; rfl; rfl; rfl) | (apply TL.skip_none; rfl; rfl) | (apply TL.call0 (f := 65) Tryz.call65; rfl; rfl; rfl; (exact fun _ hs => c_between _ _ _ _ _ hs.sat)) | (apply TL.call0 (f := 127) Tryz.call127; rfl; rfl; rfl; (exact fun _ hs => c_ContSigned _ _ _ hs.sat hR h2)) | (apply TL.call0 (f := 66) Tryz.call66; rfl; rfl; rfl; (exact fun _ hs => c_nameValid _ _ _ hs.sat h3)) | (apply TL.val; rfl; rfl; (first | exact vpure | exact vread)) | (apply TL.x; rfl; rfl; (first | exact xgrow | exact xput); intro _ _) | (apply TL.guard; rfl; rfl; rfl; (with_reducible (first | exact Is.ndec | exact Is.dec | exact Is.not | ((fail_if_success exact Is.litT); (fail_if_success exact Is.litF); exact Is.base))); intro _; rotate_left; intro _; rotate_right)))
  all_goals (try (first | (apply N.ret_bool; rfl; (exact rvx)) | (apply N.ret_int; rfl; (exact rvx)) | (apply N.ret_val; rfl; (exact rvx))))
  all_goals first
    | exact answerOK_no hlen (by rintro ⟨b1, b2, b3, b4⟩; omega)
    | exact (Bool.eq_false_iff.2 fun h' => by
        have h2 := ((answerOK_iff a hlen).1 h').2
        have h3 := hany true (by assumption)
        rw [h2] at h3; exact absurd h3 (by decide)).symm
    | (have h4 : a.kind = 4 := by assumption
       rw [Bool.eq_iff_iff, answerOK_iff a hlen, hany false (by assumption)]
       exact ⟨fun h => ⟨⟨by assumption, by omega, fun _ => h, fun h' => absurd h4 h'⟩, rfl⟩, fun h => h.1.2.2.1 h4⟩)
    | (have h4 : ¬ a.kind = 4 := by assumption
       rw [Bool.eq_iff_iff, decide_eq_true_iff, answerOK_iff a hlen, hany false (by assumption)]
       exact ⟨fun h => ⟨⟨by assumption, by omega, fun h' => absurd h' h4, fun _ => h⟩, rfl⟩, fun h => h.1.2.2.2 h4⟩)
def MsgHead (m : Msg) : Prop := (0 ≤ m.id ∧ m.id ≤ 65535) ∧ (1 ≤ m.frm ∧ m.frm ≤ 1000000) ∧ (1 ≤ m.to ∧ m.to ≤ 1000000) ∧ questionOK m.q = true
theorem msgOK_iff (m : Msg) (hlen : m.ans.sets.els.length = m.ans.sets.len) : msgOK m.c = true ↔ (MsgHead m ∧ (m.kind = 1 → m.ans.kind = 0 ∧ m.ans.sets.len = 0 ∧ m.ans.cut = []) ∧ (m.kind ≠ 1 → m.kind = 2 ∧ answerOK m.ans.c = true)) := by
  unfold msgOK MsgHead
  rw [show m.c.kind = m.kind from rfl, show m.c.id = m.id from rfl, show m.c.frm = m.frm from rfl, show m.c.to = m.to from rfl, show m.c.q = m.q from rfl, show m.c.ans = m.ans.c from rfl, show m.ans.c.kind = m.ans.kind from rfl, show m.ans.c.sets = m.ans.sets.els.map Signed.c from rfl, show m.ans.c.cut = m.ans.cut from rfl]
  have e : (m.ans.sets.els.map Signed.c = []) ↔ m.ans.sets.len = 0 := by rw [List.map_eq_nil_iff, ← hlen, List.length_eq_zero_iff]
  have e' : decide (m.ans.sets.els.map Signed.c = []) = decide (m.ans.sets.len = 0) := decide_eq_decide.2 e
  rw [e']
  by_cases h : m.kind = 1
  · simp [h]; grind
  · simp [h]; grind
theorem msgOK_no {m : Msg} (hlen : m.ans.sets.els.length = m.ans.sets.len) (h : ¬ (MsgHead m ∧ (m.kind = 1 → m.ans.kind = 0 ∧ m.ans.sets.len = 0 ∧ m.ans.cut = []) ∧ (m.kind ≠ 1 → m.kind = 2 ∧ answerOK m.ans.c = true))) : false = msgOK m.c :=
  (Bool.eq_false_iff.2 fun h' => h ((msgOK_iff m hlen).1 h')).symm
theorem msgOK_qu {m : Msg} (hlen : m.ans.sets.els.length = m.ans.sets.len) (hh : MsgHead m) (h1 : m.kind = 1) (h2 : m.ans.kind = 0) (h3 : m.ans.sets.len = 0) : decide (m.ans.cut = []) = msgOK m.c := by
  rw [Bool.eq_iff_iff, decide_eq_true_iff, msgOK_iff m hlen]
  exact ⟨fun h => ⟨hh, fun _ => ⟨h2, h3, h⟩, fun h' => absurd h1 h'⟩, fun h => (h.2.1 h1).2.2⟩
theorem msgOK_an {m : Msg} (hlen : m.ans.sets.els.length = m.ans.sets.len) (hh : MsgHead m) (h1 : m.kind = 2) : answerOK m.ans.c = msgOK m.c := by
  rw [Bool.eq_iff_iff, msgOK_iff m hlen]
  exact ⟨fun h => ⟨hh, fun h' => by omega, fun _ => ⟨h1, h⟩⟩, fun h => (h.2.2 (by omega)).2⟩
theorem c_packetValid (m : Msg) (H : Hp) (w : World) (hs : Sat H w) (hR : Rules H) (hg : Enc.good H m) : Calls Tryz.prog 19 #[.agg (enc m).toArray] w (Ret w (.bool (msgOK m.c))) := by
  obtain ⟨g1, g2, g3, g4, ⟨g5, g6⟩, g7⟩ := hg
  have g8 := g7.2.1
  have hlen : m.ans.sets.els.length = m.ans.sets.len := g8.len
  have hlim := g8.lim
  have hq : questionOK m.q = (nameOK m.q.name && decide (1 ≤ m.q.typ ∧ m.q.typ ≤ 8)) := rfl
  have hh : questionOK m.q = true ↔ (nameOK m.q.name = true ∧ (1 ≤ m.q.typ ∧ m.q.typ ≤ 8)) := by rw [hq]; simp
  refine T.enter (vs := [.agg (enc m).toArray]) (H := H) Tryz.func19 rfl rfl rfl hs ?_
  repeat (any_goals (first | refine T.seq ?_ | refine T.region ?_ | refine TL.nil ?_ | refine N.next ?_ | refine N.inBlock ?_ | refine N.exit_same ?_ | refine N.exit_then ?_ | refine N.ret_then ?_ | refine N.ret_block ?_ | (apply N.exit_other; rfl) | refine T.ret ?_ | refine T.skip ?_ | refine T.exit ?_ | refine T.block ?_ | (apply T.cond_true; rfl) | (apply T.cond_false; rfl) | (apply T.test; rfl; (with_reducible (first | exact Is.ndec | exact Is.dec | exact Is.not | ((fail_if_success exact Is.litT); (fail_if_success exact Is.litF); exact Is.base))); intro _; rotate_left; intro _; rotate_right) | (apply TL.skip; rfl; rfl; rfl) | (apply TL.skip_none; rfl; rfl) | (apply TL.call0 (f := 65) Tryz.call65; rfl; rfl; rfl; (exact fun _ hs => c_between _ _ _ _ _ hs.sat)) | (apply TL.call0 (f := 67) Tryz.call67; rfl; rfl; rfl; (exact fun _ hs => c_answerOK _ _ _ hs.sat hR g7)) | (apply TL.call0 (f := 66) Tryz.call66; rfl; rfl; rfl; (exact fun _ hs => c_nameValid _ _ _ hs.sat g5)) | (apply TL.val; rfl; rfl; (first | exact vpure | exact vread)) | (apply TL.x; rfl; rfl; (first | exact xgrow | exact xput); intro _ _) | (apply TL.guard; rfl; rfl; rfl; (with_reducible (first | exact Is.ndec | exact Is.dec | exact Is.not | ((fail_if_success exact Is.litT); (fail_if_success exact Is.litF); exact Is.base))); intro _; rotate_left; intro _; rotate_right)))
  all_goals (try (first | (apply N.ret_bool; rfl; (exact rvx)) | (apply N.ret_int; rfl; (exact rvx)) | (apply N.ret_val; rfl; (exact rvx))))
  all_goals first
    | exact msgOK_an hlen ⟨by assumption, by assumption, by assumption, hh.2 ⟨by assumption, by assumption⟩⟩ (by assumption)
    | exact msgOK_qu hlen ⟨by assumption, by assumption, by assumption, hh.2 ⟨by assumption, by assumption⟩⟩ (by assumption) (by assumption) (by omega)
    | exact msgOK_no hlen (by
        rintro ⟨⟨b1, b2, b3, b4⟩, b5, b6⟩
        obtain ⟨b7, b8⟩ := hh.1 b4
        first
          | omega
          | exact absurd (b7.symm.trans (by assumption : nameOK m.q.name = false)) (by decide)
          | (have := b5 (by assumption); omega)
          | (have := b6 (by assumption); omega))
end Go.Proofs.YtogcofeencgipaaGreatDoor
namespace Go.Proofs.YtogcofeencgipaaGreatDoor
set_option linter.unusedVariables false
set_option linter.unusedSimpArgs false
open Go Go.RowKit
open Enc (enc)
set_option maxRecDepth 20000
end Go.Proofs.YtogcofeencgipaaGreatDoor
