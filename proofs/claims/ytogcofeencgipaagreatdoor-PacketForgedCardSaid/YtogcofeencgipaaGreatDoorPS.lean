/- The laws PacketMatches and PacketForged. -/
import Derived.Test.YtogcofeencgipaaGreatDoorPR
set_option pp.deepTerms true
set_option pp.maxSteps 10000000
namespace Go.Proofs.YtogcofeencgipaaGreatDoor
set_option linter.unusedVariables false
set_option linter.unusedSimpArgs false
open Go Go.RowKit
open Enc (enc)
set_option maxRecDepth 20000
def replyTo (q : Msg) (a : Answer) : Msg := ⟨2, q.id, q.to, q.frm, q.q, a⟩
theorem match_reply {q : Msg} {a : Answer} (hq : msgOK q.c = true) (hm : msgOK (replyTo q a).c = true) (hk : q.kind = 1) : matchOK q.c (replyTo q a).c = true := by
  unfold matchOK
  rw [hq, hm]
  show (true && true && decide (q.kind = 1) && decide ((2 : Int) = 2) && decide (q.id = q.id) && decide (q.q = q.q) && decide (q.frm = q.frm) && decide (q.to = q.to)) = true
  simp [hk]
theorem match_kind2 {p q : MsgC} (h : q.kind = 1) : matchOK p q = false := by
  unfold matchOK
  rw [show decide (q.kind = 2) = false by rw [h]; rfl]
  simp
theorem match_kind1 {p q : MsgC} (h : p.kind = 2) : matchOK p q = false := by
  unfold matchOK
  rw [show decide (p.kind = 1) = false by rw [h]; rfl]
  simp
theorem match_other {o q : Msg} {a : Answer} (hm : msgOK (replyTo q a).c = true) : matchOK o.c (replyTo q a).c = (msgOK o.c && decide (o.kind = 1) && decide (o.id = q.id) && decide (o.q = q.q) && decide (o.frm = q.frm) && decide (o.to = q.to)) := by
  unfold matchOK
  rw [hm]
  show (msgOK o.c && true && decide (o.kind = 1) && decide ((2 : Int) = 2) && decide (o.id = q.id) && decide (o.q = q.q) && decide (o.frm = q.frm) && decide (o.to = q.to)) = _
  simp
theorem query_ans {p : MsgC} (h : msgOK p = true) (hk : p.kind = 1) : p.ans = ⟨0, [], []⟩ := by
  unfold msgOK at h
  simp only [Bool.and_eq_true, decide_eq_true_eq] at h
  have h5 := h.2
  rw [if_pos hk] at h5
  simp only [Bool.and_eq_true, decide_eq_true_eq] at h5
  obtain ⟨⟨h1, h2⟩, h3⟩ := h5
  cases ha : p.ans with
  | mk k s c =>
    rw [ha] at h1 h2 h3
    simp only at h1 h2 h3
    rw [h1, h2, h3]
theorem match_forged {p q : Msg} {b : Answer} (hp : msgOK p.c = true) (hq : msgOK q.c = true) (hkp : p.kind = 1) (hkq : q.kind = 1) (hne : p.c ≠ q.c) : matchOK p.c (replyTo q b).c = false := by
  cases hm : matchOK p.c (replyTo q b).c with
  | false => rfl
  | true =>
    exfalso
    unfold matchOK at hm
    simp only [Bool.and_eq_true, decide_eq_true_eq] at hm
    obtain ⟨⟨⟨⟨⟨⟨⟨_, _⟩, _⟩, _⟩, h1⟩, h2⟩, h3⟩, h4⟩ := hm
    have ha := query_ans hp hkp
    have hb := query_ans hq hkq
    apply hne
    have h1 : p.id = q.id := h1
    have h2 : p.q = q.q := h2
    have h3 : p.frm = q.frm := h3
    have h4 : p.to = q.to := h4
    have ha : p.ans.c = ⟨0, [], []⟩ := ha
    have hb : q.ans.c = ⟨0, [], []⟩ := hb
    show (⟨p.kind, p.id, p.frm, p.to, p.q, p.ans.c⟩ : MsgC) = ⟨q.kind, q.id, q.frm, q.to, q.q, q.ans.c⟩
    rw [h1, h2, h3, h4, ha, hb, hkp, hkq]
set_option maxHeartbeats 4000000 in
theorem c_PMatches (q : Msg) (a : Answer) (o : Msg) (H : Hp) (w : World) (hs : Sat H w) (hR : Rules H) (hq : Enc.good H q) (ha : Enc.good H a) (ho : Enc.good H o) : Calls Tryz.prog 5 #[.agg (enc q).toArray, .agg (enc a).toArray, .agg (enc o).toArray] w (Ret w (.bool true)) := by
  have hm : Enc.good H (replyTo q a) := ⟨by show I64 2; decide, hq.2.1, hq.2.2.2.1, hq.2.2.1, hq.2.2.2.2.1, ha⟩
  refine T.enter (vs := [.agg (enc q).toArray, .agg (enc a).toArray, .agg (enc o).toArray]) (H := H) Tryz.func5 rfl rfl rfl hs ?_
  repeat (any_goals (first | refine T.seq ?_ | refine T.region ?_ | refine TL.nil ?_ | refine N.next ?_ | refine N.inBlock ?_ | refine N.exit_same ?_ | refine N.exit_then ?_ | refine N.ret_then ?_ | refine N.ret_block ?_ | (apply N.exit_other; rfl) | refine T.ret ?_ | refine T.skip ?_ | refine T.exit ?_ | refine T.block ?_ | (apply T.cond_true; rfl) | (apply T.cond_false; rfl) | (apply T.test; rfl; (with_reducible (first | exact Is.ndec | exact Is.dec | exact Is.not | ((fail_if_success exact Is.litT); (fail_if_success exact Is.litF); exact Is.base))); intro _; rotate_left; intro _; rotate_right) | (apply TL.skip; rfl; rfl; rfl) | (apply TL.skip_none; rfl; rfl) | (apply TL.callE (f := 13) [] Tryz.call13; rfl; rfl; rfl; rfl; (exact fun _ hs => c_head26 _ _ hs.sat hR)) | (apply TL.val; rfl; rfl; (apply V.build; rfl; rfl; rfl; rfl; rfl; rfl)) | (apply TL.x; rfl; rfl; (apply X.storeTo 0 (enc (replyTo q a)); rfl; rfl; rfl; rfl; rfl; rfl; rfl; rfl; rfl; rfl); intro _ _) | (apply TL.callE (f := 14) [.agg (enc q).toArray] Tryz.call14; rfl; rfl; rfl; rfl; (exact fun _ hs => c_Few26 q _ _ hs.sat hq)) | (apply TL.callE (f := 14) [.agg (enc (replyTo q a)).toArray] Tryz.call14; rfl; rfl; rfl; rfl; (exact fun _ hs => c_Few26 (replyTo q a) _ _ hs.sat hm)) | (apply TL.callE (f := 14) [.agg (enc o).toArray] Tryz.call14; rfl; rfl; rfl; rfl; (exact fun _ hs => c_Few26 o _ _ hs.sat ho)) | (apply TL.callE (f := 20) [.agg (enc q).toArray] Tryz.call20; rfl; rfl; rfl; rfl; (exact fun _ hs => c_Valid26 q _ _ hs.sat hq)) | (apply TL.callE (f := 20) [.agg (enc (replyTo q a)).toArray] Tryz.call20; rfl; rfl; rfl; rfl; (exact fun _ hs => c_Valid26 (replyTo q a) _ _ hs.sat hm)) | (apply TL.callE (f := 20) [.agg (enc o).toArray] Tryz.call20; rfl; rfl; rfl; rfl; (exact fun _ hs => c_Valid26 o _ _ hs.sat ho)) | (apply TL.callE (f := 23) [.agg (enc q).toArray, .agg (enc (replyTo q a)).toArray] Tryz.call23; rfl; rfl; rfl; rfl; (exact fun _ hs => c_packetMatchV (r := true) q (replyTo q a) (match_reply (by assumption) (by assumption) (by omega)) hs.sat hR hq hm)) | (apply TL.callE (f := 23) [.agg (enc (replyTo q a)).toArray, .agg (enc q).toArray] Tryz.call23; rfl; rfl; rfl; rfl; (exact fun _ hs => c_packetMatchV (r := false) (replyTo q a) q (match_kind1 rfl) hs.sat hR hm hq)) | (apply TL.callE (f := 23) [.agg (enc q).toArray, .agg (enc q).toArray] Tryz.call23; rfl; rfl; rfl; rfl; (exact fun _ hs => c_packetMatchV (r := false) q q (match_kind2 (show q.kind = 1 by omega)) hs.sat hR hq hq)) | (apply TL.callE (f := 23) [.agg (enc (replyTo q a)).toArray, .agg (enc (replyTo q a)).toArray] Tryz.call23; rfl; rfl; rfl; rfl; (exact fun _ hs => c_packetMatchV (r := false) (replyTo q a) (replyTo q a) (match_kind1 rfl) hs.sat hR hm hm)) | (apply TL.callE (f := 23) [.agg (enc o).toArray, .agg (enc (replyTo q a)).toArray] Tryz.call23; rfl; rfl; rfl; rfl; (exact fun _ hs => c_packetMatch o (replyTo q a) _ _ hs.sat hR ho hm)) | (apply TL.val; rfl; rfl; (apply V.aeql; rfl; rfl; exact Tryz.eqGuardType23; exact fun w => eq_Question o.q q.q w)) | (apply TL.val; rfl; rfl; (apply V.beql; exact Tryz.underlying4; rfl; rfl)) | (apply TL.val; rfl; rfl; (first | exact vpure | exact vread)) | (apply TL.x; rfl; rfl; (first | exact xgrow | exact xput); intro _ _) | (apply TL.guard; rfl; rfl; rfl; (with_reducible (first | exact Is.ndec | exact Is.dec | exact Is.not | ((fail_if_success exact Is.litT); (fail_if_success exact Is.litF); exact Is.base))); intro _; rotate_left; intro _; rotate_right)))
  all_goals (try (first | (apply N.ret_bool; rfl; (exact rvx)) | (apply N.ret_int; rfl; (exact rvx)) | (apply N.ret_val; rfl; (exact rvx))))
  all_goals (try rfl)
  all_goals (rw [match_other (by assumption)]; simp_all)
end Go.Proofs.YtogcofeencgipaaGreatDoor
