/- Walks: answers, messages. -/
import Derived.Test.YtpnoabbdcakjkaaGreatDoorQWF
import Derived.Test.YtpnoabbdcakjkaaGreatDoorQWEq
namespace Go.Proofs.YtpnoabbdcakjkaaGreatDoor
set_option linter.unusedVariables false
set_option linter.unusedSimpArgs false
open Go Go.RowKit
open Enc (enc)
set_option maxRecDepth 20000

theorem c_Signed26 (s : Signed) (H : Hp) (w : World) (hs : Sat H w) (hg : Enc.good H s) : Calls Tryz.prog 20 #[.agg (enc s).toArray] w (Ret w (.bool (signedOK s.c))) := by
  obtain ⟨h1, h2⟩ := hg
  have hlen : s.sigs.els.length = s.sigs.len := h2.len
  have hlim := h2.lim
  have hsp : signedOK s.c = (decide (s.sigs.els.length ≤ 6) && setOK s.set.c && s.sigs.els.all sigOK) := rfl
  refine T.enter (vs := [.agg (enc s).toArray]) (H := H) Tryz.func20 rfl rfl rfl hs ?_
  repeat (any_goals (first | refine T.seq ?_ | refine T.region ?_ | refine TL.nil ?_ | refine N.next ?_ | refine N.inBlock ?_ | refine N.exit_same ?_ | refine N.exit_then ?_ | refine N.ret_then ?_ | refine N.ret_block ?_ | (apply N.exit_other; rfl) | refine T.ret ?_ | refine T.skip ?_ | refine T.exit ?_ | refine T.block ?_ | (apply T.cond_true; rfl) | (apply T.cond_false; rfl) | (apply T.test; rfl; (exact isx); intro _; rotate_left; intro _; rotate_right) | (apply TL.skip; rfl; rfl; rfl) | (apply TL.skip_none; rfl; rfl) | (apply TL.val; rfl; rfl; (first | exact vpure | exact vread)) | (apply TL.x; rfl; rfl; (first | exact xgrow | exact xput); intro _ _) | (apply TL.guard; rfl; rfl; rfl; (exact isx); intro _; rotate_left; intro _; rotate_right)))
  rename_i b _
  refine T.loop (G := Nat) (fun k => [(1, .pointer (some ⟨b, 0, none⟩)), (3, intV k)]) (fun _ => H) (fun _ => [.blk b 69 (enc s)]) (fun k => k ≤ s.sigs.len ∧ AllTo sigOK s.sigs.els k) (fun k => s.sigs.len - k) 0 ⟨Nat.zero_le _, allTo_zero⟩ (by (repeat (first | exact True.intro | refine ⟨rfl, ?_⟩ | refine Sub.int rfl (by omega) ?_))) rfl (by (first | exact List.Sublist.refl _ | exact List.nil_sublist _ | exact List.Sublist.cons _ (List.Sublist.refl _) | exact List.Sublist.cons _ (List.Sublist.cons _ (List.Sublist.refl _)))) ?_
  rintro k ⟨hk, hrel⟩
  repeat (any_goals (first | refine T.seq ?_ | refine T.region ?_ | refine TL.nil ?_ | refine N.next ?_ | refine N.inBlock ?_ | refine N.exit_same ?_ | refine N.exit_then ?_ | refine N.ret_then ?_ | refine N.ret_block ?_ | (apply N.exit_other; rfl) | refine T.ret ?_ | refine T.skip ?_ | refine T.exit ?_ | refine T.block ?_ | (apply T.cond_true; rfl) | (apply T.cond_false; rfl) | (apply T.test; rfl; (exact isx); intro _; rotate_left; intro _; rotate_right) | (apply TL.skip; rfl; rfl; rfl) | (apply TL.skip_none; rfl; rfl) | (apply TL.call0 (f := 52) Tryz.call52; rfl; rfl; rfl; (exact fun _ hs => c_Sig26 _ _ _ hs.sat (h2.el (by omega)))) | (apply TL.call0 (f := 53) Tryz.call53; rfl; rfl; rfl; (exact fun _ hs => c_Valid02 _ _ _ hs.sat h1)) | (apply TL.val; rfl; rfl; (first | exact vpure | exact vread)) | (apply TL.x; rfl; rfl; (first | exact xgrow | exact xput); intro _ _) | (apply TL.guard; rfl; rfl; rfl; (exact isx); intro _; rotate_left; intro _; rotate_right)))
  all_goals (try (first | (apply N.ret_bool; rfl; (exact rvx)) | (apply N.ret_int; rfl; (exact rvx)) | (apply N.ret_val; rfl; (exact rvx))))
  all_goals (try (refine N.round (k + 1) ?_ ?_ ?_ ?_ ?_; rotate_left 2; (repeat (first | exact True.intro | refine ⟨rfl, ?_⟩ | refine Sub.int rfl (by omega) ?_)); rfl; (first | exact List.Sublist.refl _ | exact List.nil_sublist _ | exact List.Sublist.cons _ (List.Sublist.refl _) | exact List.Sublist.cons _ (List.Sublist.cons _ (List.Sublist.refl _)))))
  all_goals first
    | omega
    | exact ⟨by omega, allTo_up (by omega) hrel (by assumption)⟩
    | (rw [hsp, all_no (k := k) (by omega) (by assumption), Bool.and_false])
    | (rw [hsp, allTo_end hrel (by omega), Bool.and_true]; rename_i h; rw [h, hlen, Bool.and_true]; exact decide_eq_decide.2 (by omega))
    | (rw [hsp, allTo_end hrel (by omega), Bool.and_true]; rename_i h; rw [h, Bool.and_false])
def AnsHead (a : Answer) : Prop := (1 ≤ a.kind ∧ a.kind ≤ 7) ∧ a.sets.len ≤ 40 ∧ (a.kind = 4 → nameOK a.cut = true) ∧ (a.kind ≠ 4 → a.cut = [])
theorem answerOK_iff (a : Answer) (hlen : a.sets.els.length = a.sets.len) : answerOK a.c = true ↔ (AnsHead a ∧ a.sets.els.all (fun s => signedOK s.c) = true) := by
  unfold answerOK AnsHead
  rw [show a.c.kind = a.kind from rfl, show a.c.sets = a.sets.els.map Signed.c from rfl, show a.c.cut = a.cut from rfl, List.all_map, List.length_map, hlen]
  rw [show (signedOK ∘ Signed.c) = fun s => signedOK s.c from rfl]
  generalize (a.sets.els.all fun s => signedOK s.c) = e
  by_cases h : a.kind = 4
  · simp [h]; grind
  · simp [h]; grind
theorem answerOK_no {a : Answer} (hlen : a.sets.els.length = a.sets.len) (h : ¬ AnsHead a) : false = answerOK a.c := (Bool.eq_false_iff.2 fun h' => h ((answerOK_iff a hlen).1 h').1).symm
theorem answerOK_no' {a : Answer} (hlen : a.sets.els.length = a.sets.len) {k : Nat} (hk : k < a.sets.els.length) (h : signedOK a.sets.els[k].c = false) : false = answerOK a.c := (Bool.eq_false_iff.2 fun h' => by
  have := ((answerOK_iff a hlen).1 h').2
  rw [all_no hk (p := fun s => signedOK s.c) h] at this; cases this).symm
theorem answerOK_yes {a : Answer} (hlen : a.sets.els.length = a.sets.len) (h : AnsHead a) {k : Nat} (hk : a.sets.els.length ≤ k) (h' : AllTo (fun s => signedOK s.c) a.sets.els k) : true = answerOK a.c := ((answerOK_iff a hlen).2 ⟨h, allTo_end h' hk⟩).symm
theorem c_Answer26 (a : Answer) (H : Hp) (w : World) (hs : Sat H w) (hg : Enc.good H a) : Calls Tryz.prog 5 #[.agg (enc a).toArray] w (Ret w (.bool (answerOK a.c))) := by
  obtain ⟨h1, h2, h3⟩ := hg
  have hlen : a.sets.els.length = a.sets.len := h2.len
  have hlim := h2.lim
  refine T.enter (vs := [.agg (enc a).toArray]) (H := H) Tryz.func5 rfl rfl rfl hs ?_
  repeat (any_goals (first | (apply T.seqU 3; rfl) | refine T.region ?_ | refine TL.nil ?_ | refine N.next ?_ | refine N.inBlock ?_ | refine N.exit_same ?_ | refine N.exit_then ?_ | refine N.ret_then ?_ | refine N.ret_block ?_ | (apply N.exit_other; rfl) | refine T.ret ?_ | refine T.skip ?_ | refine T.exit ?_ | refine T.block ?_ | (apply T.cond_true; rfl) | (apply T.cond_false; rfl) | (apply T.test; rfl; (exact isx); intro _; rotate_left; intro _; rotate_right) | (apply TL.skip; rfl; rfl; rfl) | (apply TL.skip_none; rfl; rfl) | (apply TL.val; rfl; rfl; (first | exact vpure | exact vread)) | (apply TL.x; rfl; rfl; (first | exact xgrow | exact xput); intro _ _) | (apply TL.guard; rfl; rfl; rfl; (exact isx); intro _; rotate_left; intro _; rotate_right)))
  rename_i b _
  refine T.cut (G := Unit) (fun _ => [(1, .pointer (some ⟨b, 0, none⟩))]) (fun _ => H) (fun _ => [.blk b 27 (enc a)]) (fun _ => AnsHead a) ?_ ?_
  · repeat (any_goals (first | refine T.seq ?_ | refine T.region ?_ | refine TL.nil ?_ | refine N.next ?_ | refine N.inBlock ?_ | refine N.exit_same ?_ | refine N.exit_then ?_ | refine N.ret_then ?_ | refine N.ret_block ?_ | (apply N.exit_other; rfl) | refine T.ret ?_ | refine T.skip ?_ | refine T.exit ?_ | refine T.block ?_ | (apply T.cond_true; rfl) | (apply T.cond_false; rfl) | (apply T.test; rfl; (exact isx); intro _; rotate_left; intro _; rotate_right) | (apply TL.skip; rfl; rfl; rfl) | (apply TL.skip_none; rfl; rfl) | (apply TL.call0 (f := 18) Tryz.call18; rfl; rfl; rfl; (exact fun _ hs => c_within26 _ _ _ _ _ hs.sat)) | (apply TL.call0 (f := 19) Tryz.call19; rfl; rfl; rfl; (exact fun _ hs => c_nameValid01 _ _ _ hs.sat h3)) | (apply TL.val; rfl; rfl; (first | exact vpure | exact vread)) | (apply TL.x; rfl; rfl; (first | exact xgrow | exact xput); intro _ _) | (apply TL.guard; rfl; rfl; rfl; (exact isx); intro _; rotate_left; intro _; rotate_right)))
    all_goals (try (first | (apply N.ret_bool; rfl; (exact rvx)) | (apply N.ret_int; rfl; (exact rvx)) | (apply N.ret_val; rfl; (exact rvx))))
    all_goals (try (refine N.cut (()) ?_ ?_ ?_ ?_; rotate_left 1; (repeat (first | exact True.intro | refine ⟨rfl, ?_⟩ | refine Sub.int rfl (by omega) ?_)); rfl; (first | exact List.Sublist.refl _ | exact List.nil_sublist _ | exact List.Sublist.cons _ (List.Sublist.refl _) | exact List.Sublist.cons _ (List.Sublist.cons _ (List.Sublist.refl _)))))
    all_goals first
      | exact ⟨by assumption, by omega, fun _ => by first | assumption | (exfalso; omega), fun _ => by first | assumption | (exfalso; omega)⟩
      | exact answerOK_no hlen (by rintro ⟨b1, b2, b3, b4⟩; first | omega | exact absurd ((b3 (by assumption)).symm.trans (by assumption : nameOK a.cut = false)) (by decide) | exact absurd (b4 (by assumption)) (by assumption))
  · rintro ⟨⟩ hh
    repeat (any_goals (first | refine T.seq ?_ | refine T.region ?_ | refine TL.nil ?_ | refine N.next ?_ | refine N.inBlock ?_ | refine N.exit_same ?_ | refine N.exit_then ?_ | refine N.ret_then ?_ | refine N.ret_block ?_ | (apply N.exit_other; rfl) | refine T.ret ?_ | refine T.skip ?_ | refine T.exit ?_ | refine T.block ?_ | (apply T.cond_true; rfl) | (apply T.cond_false; rfl) | (apply T.test; rfl; (exact isx); intro _; rotate_left; intro _; rotate_right) | (apply TL.skip; rfl; rfl; rfl) | (apply TL.skip_none; rfl; rfl) | (apply TL.val; rfl; rfl; (first | exact vpure | exact vread)) | (apply TL.x; rfl; rfl; (first | exact xgrow | exact xput); intro _ _) | (apply TL.guard; rfl; rfl; rfl; (exact isx); intro _; rotate_left; intro _; rotate_right)))
    refine T.loop (G := Nat) (fun k => [(1, .pointer (some ⟨b, 0, none⟩)), (3, intV k)]) (fun _ => H) (fun _ => [.blk b 27 (enc a)]) (fun k => k ≤ a.sets.len ∧ AllTo (fun s => signedOK s.c) a.sets.els k) (fun k => a.sets.len - k) 0 ⟨Nat.zero_le _, allTo_zero⟩ (by (repeat (first | exact True.intro | refine ⟨rfl, ?_⟩ | refine Sub.int rfl (by omega) ?_))) rfl (by (first | exact List.Sublist.refl _ | exact List.nil_sublist _ | exact List.Sublist.cons _ (List.Sublist.refl _) | exact List.Sublist.cons _ (List.Sublist.cons _ (List.Sublist.refl _)))) ?_
    rintro k ⟨hk, hrel⟩
    repeat (any_goals (first | refine T.seq ?_ | refine T.region ?_ | refine TL.nil ?_ | refine N.next ?_ | refine N.inBlock ?_ | refine N.exit_same ?_ | refine N.exit_then ?_ | refine N.ret_then ?_ | refine N.ret_block ?_ | (apply N.exit_other; rfl) | refine T.ret ?_ | refine T.skip ?_ | refine T.exit ?_ | refine T.block ?_ | (apply T.cond_true; rfl) | (apply T.cond_false; rfl) | (apply T.test; rfl; (exact isx); intro _; rotate_left; intro _; rotate_right) | (apply TL.skip; rfl; rfl; rfl) | (apply TL.skip_none; rfl; rfl) | (apply TL.call0 (f := 20) Tryz.call20; rfl; rfl; rfl; (exact fun _ hs => c_Signed26 _ _ _ hs.sat (h2.el (by omega)))) | (apply TL.val; rfl; rfl; (first | exact vpure | exact vread)) | (apply TL.x; rfl; rfl; (first | exact xgrow | exact xput); intro _ _) | (apply TL.guard; rfl; rfl; rfl; (exact isx); intro _; rotate_left; intro _; rotate_right)))
    all_goals (try (first | (apply N.ret_bool; rfl; (exact rvx)) | (apply N.ret_int; rfl; (exact rvx)) | (apply N.ret_val; rfl; (exact rvx))))
    all_goals (try (refine N.round (k + 1) ?_ ?_ ?_ ?_ ?_; rotate_left 2; (repeat (first | exact True.intro | refine ⟨rfl, ?_⟩ | refine Sub.int rfl (by omega) ?_)); rfl; (first | exact List.Sublist.refl _ | exact List.nil_sublist _ | exact List.Sublist.cons _ (List.Sublist.refl _) | exact List.Sublist.cons _ (List.Sublist.cons _ (List.Sublist.refl _)))))
    all_goals first
      | omega
      | exact ⟨by omega, allTo_up (by omega) hrel (by assumption)⟩
      | exact answerOK_no' hlen (k := k) (by omega) (by assumption)
      | exact answerOK_yes hlen hh (by omega) hrel
theorem c_answerOK (a : Answer) (H : Hp) (w : World) (hs : Sat H w) (hR : Rules H) (hg : Enc.good H a) : Calls Tryz.prog 59 #[.agg (enc a).toArray] w (Ret w (.bool (answerOK a.c))) := by
  obtain ⟨h1, h2, h3⟩ := hg
  have hlen : a.sets.els.length = a.sets.len := h2.len
  have hlim := h2.lim
  have hany : ∀ e, (a.sets.els.any fun x => !signedOK x.c) = e → (a.sets.els.all fun x => signedOK x.c) = !e := fun e h => by rw [← h, any_not]
  refine T.enter (vs := [.agg (enc a).toArray]) (H := H) Tryz.func59 rfl rfl rfl hs ?_
  repeat (any_goals (first | refine T.seq ?_ | refine T.region ?_ | refine TL.nil ?_ | refine N.next ?_ | refine N.inBlock ?_ | refine N.exit_same ?_ | refine N.exit_then ?_ | refine N.ret_then ?_ | refine N.ret_block ?_ | (apply N.exit_other; rfl) | refine T.ret ?_ | refine T.skip ?_ | refine T.exit ?_ | refine T.block ?_ | (apply T.cond_true; rfl) | (apply T.cond_false; rfl) | (apply T.test; rfl; (exact isx); intro _; rotate_left; intro _; rotate_right) | (apply TL.skip; rfl; rfl; rfl) | (apply TL.skip_none; rfl; rfl) | (apply TL.call0 (f := 58) Tryz.call58; rfl; rfl; rfl; (exact fun _ hs => c_between _ _ _ _ _ hs.sat)) | (apply TL.call0 (f := 82) Tryz.call82; rfl; rfl; rfl; (exact fun _ hs => c_ContSigned _ _ _ hs.sat hR h2)) | (apply TL.call0 (f := 54) Tryz.call54; rfl; rfl; rfl; (exact fun _ hs => c_nameValid _ _ _ hs.sat h3)) | (apply TL.val; rfl; rfl; (first | exact vpure | exact vread)) | (apply TL.x; rfl; rfl; (first | exact xgrow | exact xput); intro _ _) | (apply TL.guard; rfl; rfl; rfl; (exact isx); intro _; rotate_left; intro _; rotate_right)))
  all_goals (try (first | (apply N.ret_bool; rfl; (exact rvx)) | (apply N.ret_int; rfl; (exact rvx)) | (apply N.ret_val; rfl; (exact rvx))))
  all_goals first
    | exact answerOK_no hlen (by rintro ⟨b1, b2, b3, b4⟩; omega)
    | exact (Bool.eq_false_iff.2 fun h' => by
        have h2 := ((answerOK_iff a hlen).1 h').2
        have h3 := hany true (by assumption)
        rw [h2] at h3; exact absurd h3 (by decide)).symm
    | (have h4 : a.kind = 4 := by assumption
       rw [Bool.eq_iff_iff, answerOK_iff a hlen, hany false (by assumption)]
       exact ⟨fun h => ⟨⟨by assumption, by omega, fun _ => h, fun h' => absurd h4 h'⟩, rfl⟩, fun h => h.1.2.2.1 h4⟩)
    | (have h4 : ¬ a.kind = 4 := by assumption
       rw [Bool.eq_iff_iff, decide_eq_true_iff, answerOK_iff a hlen, hany false (by assumption)]
       exact ⟨fun h => ⟨⟨by assumption, by omega, fun h' => absurd h' h4, fun _ => h⟩, rfl⟩, fun h => h.1.2.2.2 h4⟩)
def MsgHead (m : Msg) : Prop := (0 ≤ m.id ∧ m.id ≤ 65535) ∧ (1 ≤ m.frm ∧ m.frm ≤ 1000000) ∧ (1 ≤ m.to ∧ m.to ≤ 1000000) ∧ questionOK m.q = true
theorem msgOK_iff (m : Msg) (hlen : m.ans.sets.els.length = m.ans.sets.len) : msgOK m.c = true ↔ (MsgHead m ∧ (m.kind = 1 → m.ans.kind = 0 ∧ m.ans.sets.len = 0 ∧ m.ans.cut = []) ∧ (m.kind ≠ 1 → m.kind = 2 ∧ answerOK m.ans.c = true)) := by
  unfold msgOK MsgHead
  rw [show m.c.kind = m.kind from rfl, show m.c.id = m.id from rfl, show m.c.frm = m.frm from rfl, show m.c.to = m.to from rfl, show m.c.q = m.q from rfl, show m.c.ans = m.ans.c from rfl, show m.ans.c.kind = m.ans.kind from rfl, show m.ans.c.sets = m.ans.sets.els.map Signed.c from rfl, show m.ans.c.cut = m.ans.cut from rfl]
  have e : (m.ans.sets.els.map Signed.c = []) ↔ m.ans.sets.len = 0 := by rw [List.map_eq_nil_iff, ← hlen, List.length_eq_zero_iff]
  have e' : decide (m.ans.sets.els.map Signed.c = []) = decide (m.ans.sets.len = 0) := decide_eq_decide.2 e
  rw [e']
  by_cases h : m.kind = 1
  · simp [h]; grind
  · simp [h]; grind
theorem msgOK_no {m : Msg} (hlen : m.ans.sets.els.length = m.ans.sets.len) (h : ¬ (MsgHead m ∧ (m.kind = 1 → m.ans.kind = 0 ∧ m.ans.sets.len = 0 ∧ m.ans.cut = []) ∧ (m.kind ≠ 1 → m.kind = 2 ∧ answerOK m.ans.c = true))) : false = msgOK m.c :=
  (Bool.eq_false_iff.2 fun h' => h ((msgOK_iff m hlen).1 h')).symm
theorem msgOK_qu {m : Msg} (hlen : m.ans.sets.els.length = m.ans.sets.len) (hh : MsgHead m) (h1 : m.kind = 1) (h2 : m.ans.kind = 0) (h3 : m.ans.sets.len = 0) : decide (m.ans.cut = []) = msgOK m.c := by
  rw [Bool.eq_iff_iff, decide_eq_true_iff, msgOK_iff m hlen]
  exact ⟨fun h => ⟨hh, fun _ => ⟨h2, h3, h⟩, fun h' => absurd h1 h'⟩, fun h => (h.2.1 h1).2.2⟩
theorem msgOK_an {m : Msg} (hlen : m.ans.sets.els.length = m.ans.sets.len) (hh : MsgHead m) (h1 : m.kind = 2) : answerOK m.ans.c = msgOK m.c := by
  rw [Bool.eq_iff_iff, msgOK_iff m hlen]
  exact ⟨fun h => ⟨hh, fun h' => by omega, fun _ => ⟨h1, h⟩⟩, fun h => (h.2.2 (by omega)).2⟩
theorem c_packetValid (m : Msg) (H : Hp) (w : World) (hs : Sat H w) (hR : Rules H) (hg : Enc.good H m) : Calls Tryz.prog 27 #[.agg (enc m).toArray] w (Ret w (.bool (msgOK m.c))) := by
  obtain ⟨g1, g2, g3, g4, ⟨g5, g6⟩, g7⟩ := hg
  have g8 := g7.2.1
  have hlen : m.ans.sets.els.length = m.ans.sets.len := g8.len
  have hlim := g8.lim
  have hq : questionOK m.q = (nameOK m.q.name && decide (1 ≤ m.q.typ ∧ m.q.typ ≤ 8)) := rfl
  have hh : questionOK m.q = true ↔ (nameOK m.q.name = true ∧ (1 ≤ m.q.typ ∧ m.q.typ ≤ 8)) := by rw [hq]; simp
  refine T.enter (vs := [.agg (enc m).toArray]) (H := H) Tryz.func27 rfl rfl rfl hs ?_
  repeat (any_goals (first | refine T.seq ?_ | refine T.region ?_ | refine TL.nil ?_ | refine N.next ?_ | refine N.inBlock ?_ | refine N.exit_same ?_ | refine N.exit_then ?_ | refine N.ret_then ?_ | refine N.ret_block ?_ | (apply N.exit_other; rfl) | refine T.ret ?_ | refine T.skip ?_ | refine T.exit ?_ | refine T.block ?_ | (apply T.cond_true; rfl) | (apply T.cond_false; rfl) | (apply T.test; rfl; (exact isx); intro _; rotate_left; intro _; rotate_right) | (apply TL.skip; rfl; rfl; rfl) | (apply TL.skip_none; rfl; rfl) | (apply TL.call0 (f := 58) Tryz.call58; rfl; rfl; rfl; (exact fun _ hs => c_between _ _ _ _ _ hs.sat)) | (apply TL.call0 (f := 59) Tryz.call59; rfl; rfl; rfl; (exact fun _ hs => c_answerOK _ _ _ hs.sat hR g7)) | (apply TL.call0 (f := 54) Tryz.call54; rfl; rfl; rfl; (exact fun _ hs => c_nameValid _ _ _ hs.sat g5)) | (apply TL.val; rfl; rfl; (first | exact vpure | exact vread)) | (apply TL.x; rfl; rfl; (first | exact xgrow | exact xput); intro _ _) | (apply TL.guard; rfl; rfl; rfl; (exact isx); intro _; rotate_left; intro _; rotate_right)))
  all_goals (try (first | (apply N.ret_bool; rfl; (exact rvx)) | (apply N.ret_int; rfl; (exact rvx)) | (apply N.ret_val; rfl; (exact rvx))))
  all_goals first
    | exact msgOK_an hlen ⟨by assumption, by assumption, by assumption, hh.2 ⟨by assumption, by assumption⟩⟩ (by assumption)
    | exact msgOK_qu hlen ⟨by assumption, by assumption, by assumption, hh.2 ⟨by assumption, by assumption⟩⟩ (by assumption) (by assumption) (by omega)
    | exact msgOK_no hlen (by
        rintro ⟨⟨b1, b2, b3, b4⟩, b5, b6⟩
        obtain ⟨b7, b8⟩ := hh.1 b4
        first
          | omega
          | exact absurd (b7.symm.trans (by assumption : nameOK m.q.name = false)) (by decide)
          | (have := b5 (by assumption); omega)
          | (have := b6 (by assumption); omega))
theorem matchOK_eq (q a : Msg) : matchOK q.c a.c = (msgOK q.c && msgOK a.c && decide (q.kind = 1) && decide (a.kind = 2) && decide (q.id = a.id) && decide (q.q = a.q) && decide (q.frm = a.to) && decide (q.to = a.frm)) := rfl
end Go.Proofs.YtpnoabbdcakjkaaGreatDoor
namespace Go.Proofs.YtpnoabbdcakjkaaGreatDoor
set_option linter.unusedVariables false
set_option linter.unusedSimpArgs false
open Go Go.RowKit
open Enc (enc)
set_option maxRecDepth 20000
set_option maxHeartbeats 4000000 in
theorem c_packetMatch (q a : Msg) (H : Hp) (w : World) (hs : Sat H w) (hR : Rules H) (hq : Enc.good H q) (ha : Enc.good H a) : Calls Tryz.prog 34 #[.agg (enc q).toArray, .agg (enc a).toArray] w (Ret w (.bool (matchOK q.c a.c))) := by
  refine T.enter (vs := [.agg (enc q).toArray, .agg (enc a).toArray]) (H := H) Tryz.func34 rfl rfl rfl hs ?_
  repeat (any_goals (first | refine T.seq ?_ | refine T.region ?_ | refine TL.nil ?_ | refine N.next ?_ | refine N.inBlock ?_ | refine N.exit_same ?_ | refine N.exit_then ?_ | refine N.ret_then ?_ | refine N.ret_block ?_ | (apply N.exit_other; rfl) | refine T.ret ?_ | refine T.skip ?_ | refine T.exit ?_ | refine T.block ?_ | (apply T.cond_true; rfl) | (apply T.cond_false; rfl) | (apply T.test; rfl; (exact isx); intro _; rotate_left; intro _; rotate_right) | (apply TL.skip; rfl; rfl; rfl) | (apply TL.skip_none; rfl; rfl) | (apply TL.call0 (f := 27) Tryz.call27; rfl; rfl; rfl; (exact fun _ hs => c_packetValid _ _ _ hs.sat hR (by assumption))) | (apply TL.val; rfl; rfl; (apply V.aeql; rfl; rfl; exact Tryz.eqGuardType23; exact fun w => eq_Question q.q a.q w)) | (apply TL.val; rfl; rfl; (first | exact vpure | exact vread)) | (apply TL.x; rfl; rfl; (first | exact xgrow | exact xput); intro _ _) | (apply TL.guard; rfl; rfl; rfl; (exact isx); intro _; rotate_left; intro _; rotate_right)))
  all_goals (try (first | (apply N.ret_bool; rfl; (exact rvx)) | (apply N.ret_int; rfl; (exact rvx)) | (apply N.ret_val; rfl; (exact rvx))))
  all_goals (rw [matchOK_eq]; simp [*])
end Go.Proofs.YtpnoabbdcakjkaaGreatDoor
