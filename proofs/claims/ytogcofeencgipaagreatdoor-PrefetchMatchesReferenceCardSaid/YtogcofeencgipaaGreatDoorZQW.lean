/- Walks: validate.Filter and prefetch.Learn, for every answer. -/
import Derived.Test.YtogcofeencgipaaGreatDoorZQV
import Derived.Test.YtogcofeencgipaaGreatDoorZQM
namespace Go.Proofs.YtogcofeencgipaaGreatDoor
set_option linter.unusedVariables false
set_option linter.unusedSimpArgs false
open Go Go.RowKit
open Enc (enc)
set_option maxRecDepth 20000
/-- The rule of an answer. -/
def ruleF (zone : Bytes) (q : Question) (a : AnswerC) : SetC → Bool := if a.kind = 4 then referR zone q a else ruleC q a.kind
def takenF (zone : Bytes) (q : Question) (a : AnswerC) (s : SignedC) : Bool := (underC s.set.name zone).1 && ruleF zone q a s.set
def filterF (zone : Bytes) (q : Question) (a : AnswerC) : List SignedC × Int := if !(zoneV zone && questionOK q && answerOK a) then ([], 1) else if !(underC q.name zone).1 then ([], 0) else (a.sets.filter (takenF zone q a), 0)
set_option maxHeartbeats 4000000 in
theorem c_ruleOf (zone : Bytes) (q : Question) (a : Answer) (hk : 1 ≤ a.kind ∧ a.kind ≤ 7) (H : Hp) (w : World) (hs : Sat H w) (hz : LenOk zone) (hq : Enc.good H q) (ha : Enc.good H a) : Calls Tryz.prog 142 #[strV zone, .agg (enc q).toArray, .agg (enc a).toArray] w (RetF w H (fun g : Hp × RuleV => RuleGood g.1 g.2 ∧ g.2.p = ruleF zone q a.c) (fun g => g.2.v) (fun g => g.1)) := by
  obtain ⟨k, sets, cut⟩ := a
  simp only at hk ⊢
  refine T.enter (vs := [strV zone, .agg (enc q).toArray, .agg (enc (⟨k, sets, cut⟩ : Answer)).toArray]) (H := H) Tryz.func142 rfl rfl rfl hs ?_
  have hkk : k = 1 ∨ k = 2 ∨ k = 3 ∨ k = 4 ∨ k = 5 ∨ k = 6 ∨ k = 7 := by omega
  repeat (any_goals (first | refine T.seq ?_ | refine T.region ?_ | refine TL.nil ?_ | refine N.next ?_ | refine N.inBlock ?_ | refine N.exit_same ?_ | refine N.exit_then ?_ | refine N.ret_then ?_ | refine N.ret_block ?_ | (apply N.exit_other; rfl) | refine T.ret ?_ | refine T.skip ?_ | refine T.exit ?_ | refine T.block ?_ | (apply T.cond_true; rfl) | (apply T.cond_false; rfl) | (apply T.test; rfl; (with_reducible (first | exact Is.ndec | exact Is.dec | exact Is.not | ((fail_if_success exact Is.litT); (fail_if_success exact Is.litF); exact Is.base))); intro _; rotate_left; intro _; rotate_right) | (apply TL.skip; rfl; rfl; rfl) | (apply TL.skip_none; rfl; rfl) | (apply TL.val (d := 20); rfl; rfl; (exact vpure); rcases hkk with rfl | rfl | rfl | rfl | rfl | rfl | rfl) | (apply TL.x; rfl; rfl; (apply X.box (d := 4); rfl; rfl; rfl); intro b4 _; apply TL.frz 0; rfl; intro H1 z4 hle1; have hq1 := Enc.mono hle1 hq; have ha1 := Enc.mono hle1 ha) | (apply TL.x; rfl; rfl; (apply X.box (d := 5); rfl; rfl; rfl); intro b5 _) | (apply TL.val; rfl; rfl; (apply V.makeFunc (vs := []) (us := [.pointer (some ⟨b4, 0, none⟩)]) <;> rfl)) | (apply TL.val; rfl; rfl; (apply V.load_H_row; rfl; rfl; rfl; exact z4; rfl)) | (apply TL.x; rfl; rfl; (apply X.callFE (d := 16) (f := 194) [strV zone, .agg (enc q).toArray, .agg (enc (⟨k, sets, cut⟩ : Answer)).toArray] Tryz.call194; rfl; rfl; rfl; exact (fun _ hs => c_referral zone q ⟨k, sets, cut⟩ _ _ hs.sat hz hq1 ha1)); rintro ⟨H2, ⟨rv, rp⟩⟩ ⟨⟨hrg, hrp⟩, hle2⟩; simp only at hrg hrp hle2 ⊢; obtain ⟨F, cap, hrv, hcall, hrc⟩ := hrg; simp only at hrv hrc; subst hrv) | (apply TL.val; rfl; rfl; (apply V.buildArr; rfl; rfl; rfl; rfl; rfl; rfl)) | (apply TL.x; rfl; rfl; (apply X.alloc (d := 8); rfl; rfl; rfl); intro b8 _) | (apply TL.val; rfl; rfl; (apply V.elemArrI (i := 1); rfl; rfl; rfl; rfl; rfl; decide)) | (apply TL.val; rfl; rfl; (apply V.elemArrI (i := 2); rfl; rfl; rfl; rfl; rfl; decide)) | (apply TL.val; rfl; rfl; (apply V.elemArrI (i := 3); rfl; rfl; rfl; rfl; rfl; decide)) | (apply TL.val; rfl; rfl; (apply V.elemArrI (i := 4); rfl; rfl; rfl; rfl; rfl; decide)) | (apply TL.val; rfl; rfl; (apply V.elemArrI (i := 5); rfl; rfl; rfl; rfl; rfl; decide)) | (apply TL.val; rfl; rfl; (apply V.elemArrI (i := 6); rfl; rfl; rfl; rfl; rfl; decide)) | (apply TL.val; rfl; rfl; (apply V.elemArrI (i := 7); rfl; rfl; rfl; rfl; rfl; decide)) | (apply TL.val; rfl; rfl; (first | exact vpure | exact vread)) | (apply TL.x; rfl; rfl; (first | exact xgrow | exact xput); intro _ _) | (apply TL.guard; rfl; rfl; rfl; (with_reducible (first | exact Is.ndec | exact Is.dec | exact Is.not | ((fail_if_success exact Is.litT); (fail_if_success exact Is.litF); exact Is.base))); intro _; rotate_left; intro _; rotate_right)))
  · exact N.ret1 rfl (by (exact rvx)) fun w hst => ⟨(H2, ⟨_, dataR q⟩), ⟨⟨190, #[.pointer (some ⟨b4, 0, none⟩)], rfl, Tryz.call190, fun x H' w hle hs hx => by rw [cap1]; exact c_rule2 hs (z4.le (hle2.trans hle)) (Enc.mono (hle2.trans hle) hq1) hx⟩, rfl⟩, rfl, hst.fresh⟩
  · exact N.ret1 rfl (by (exact rvx)) fun w hst => ⟨(H2, ⟨_, wildR q⟩), ⟨⟨191, #[.pointer (some ⟨b4, 0, none⟩)], rfl, Tryz.call191, fun x H' w hle hs hx => by rw [cap1]; exact c_rule3 hs (z4.le (hle2.trans hle)) (Enc.mono (hle2.trans hle) hq1) hx⟩, rfl⟩, rfl, hst.fresh⟩
  · exact N.ret1 rfl (by (exact rvx)) fun w hst => ⟨(H2, ⟨_, aliasR q⟩), ⟨⟨193, #[.pointer (some ⟨b4, 0, none⟩)], rfl, Tryz.call193, fun x H' w hle hs hx => by rw [cap1]; exact c_rule4 hs (z4.le (hle2.trans hle)) (Enc.mono (hle2.trans hle) hq1) hx⟩, rfl⟩, rfl, hst.fresh⟩
  · exact N.ret1 rfl (by (exact rvx)) fun w hst => ⟨(H2, ⟨_, rp⟩), ⟨⟨F, cap, rfl, hcall, hrc⟩, by rw [hrp]; rfl⟩, rfl, hst.fresh⟩
  · exact N.ret1 rfl (by (exact rvx)) fun w hst => ⟨(H2, ⟨_, deniedR q⟩), ⟨⟨189, #[.pointer (some ⟨b4, 0, none⟩)], rfl, Tryz.call189, fun x H' w hle hs hx => by rw [cap1]; exact c_rule1 hs (z4.le (hle2.trans hle)) (Enc.mono (hle2.trans hle) hq1) hx⟩, rfl⟩, rfl, hst.fresh⟩
  · exact N.ret1 rfl (by (exact rvx)) fun w hst => ⟨(H2, ⟨_, deniedR q⟩), ⟨⟨189, #[.pointer (some ⟨b4, 0, none⟩)], rfl, Tryz.call189, fun x H' w hle hs hx => by rw [cap1]; exact c_rule1 hs (z4.le (hle2.trans hle)) (Enc.mono (hle2.trans hle) hq1) hx⟩, rfl⟩, rfl, hst.fresh⟩
  · exact N.ret1 rfl (by (exact rvx)) fun w hst => ⟨(H2, ⟨_, noneR⟩), ⟨⟨195, #[], rfl, Tryz.call195, fun x H' w hle hs hx => by rw [cap0]; exact c_rule5 hs⟩, rfl⟩, rfl, hst.fresh⟩
set_option maxHeartbeats 4000000 in
theorem c_Filter (zone : Bytes) (q : Question) (a : Answer) (H : Hp) (w : World) (hs : Sat H w) (hR : Rules H) (hz : LenOk zone) (hq : Enc.good H q) (ha : Enc.good H a) : Calls Tryz.prog 89 #[strV zone, .agg (enc q).toArray, .agg (enc a).toArray] w (RetF w H (fun g : Hp × Slc Signed => g.2.els.map Signed.c = (filterF zone q a.c).1 ∧ g.2.Good g.1 ∧ g.2.len ≤ 40) (fun g => .tuple #[g.2.v, intV (filterF zone q a.c).2]) (fun g => g.1)) := by
  refine T.enter (vs := [strV zone, .agg (enc q).toArray, .agg (enc a).toArray]) (H := H) Tryz.func89 rfl rfl rfl hs ?_
  cases h1 : zoneV zone with
  | false =>
    have hf : filterF zone q a.c = ([], 1) := by unfold filterF; rw [h1]; rfl
    repeat (any_goals (first | refine T.seq ?_ | refine T.region ?_ | refine TL.nil ?_ | refine N.next ?_ | refine N.inBlock ?_ | refine N.exit_same ?_ | refine N.exit_then ?_ | refine N.ret_then ?_ | refine N.ret_block ?_ | (apply N.exit_other; rfl) | refine T.ret ?_ | refine T.skip ?_ | refine T.exit ?_ | refine T.block ?_ | (apply T.cond_true; rfl) | (apply T.cond_false; rfl) | (apply T.test; rfl; (with_reducible (first | exact Is.ndec | exact Is.dec | exact Is.not | ((fail_if_success exact Is.litT); (fail_if_success exact Is.litF); exact Is.base))); intro _; rotate_left; intro _; rotate_right) | (apply TL.skip; rfl; rfl; rfl) | (apply TL.skip_none; rfl; rfl) | (apply TL.callE (f := 138) [strV zone] Tryz.call138; rfl; rfl; rfl; rfl; (exact fun _ hs => h1 ▸ c_vzoneOK zone _ _ hs.sat hz)) | (apply TL.callE (f := 139) [.agg (enc q).toArray] Tryz.call139; rfl; rfl; rfl; rfl; (exact fun _ hs => h2 ▸ c_vquestion q _ _ hs.sat hq)) | (apply TL.callE (f := 140) [.agg (enc a).toArray] Tryz.call140; rfl; rfl; rfl; rfl; (exact fun _ hs => h3 ▸ c_vanswer a _ _ hs.sat hR ha)) | (apply TL.val; rfl; rfl; (first | exact vpure | exact vread)) | (apply TL.x; rfl; rfl; (first | exact xgrow | exact xput); intro _ _) | (apply TL.guard; rfl; rfl; rfl; (with_reducible (first | exact Is.ndec | exact Is.dec | exact Is.not | ((fail_if_success exact Is.litT); (fail_if_success exact Is.litF); exact Is.base))); intro _; rotate_left; intro _; rotate_right)))
    all_goals (try contradiction)
    all_goals (rw [hf]; exact N.ret2 rfl (by (exact rvx)) (by (exact rvx)) fun w hst => ⟨(H, Slc.nil _), ⟨rfl, Slc.nil_good, Nat.zero_le _⟩, rfl, hst.fresh⟩)
  | true =>
  cases h2 : questionOK q with
  | false =>
    have hf : filterF zone q a.c = ([], 1) := by unfold filterF; rw [h1, h2]; rfl
    repeat (any_goals (first | refine T.seq ?_ | refine T.region ?_ | refine TL.nil ?_ | refine N.next ?_ | refine N.inBlock ?_ | refine N.exit_same ?_ | refine N.exit_then ?_ | refine N.ret_then ?_ | refine N.ret_block ?_ | (apply N.exit_other; rfl) | refine T.ret ?_ | refine T.skip ?_ | refine T.exit ?_ | refine T.block ?_ | (apply T.cond_true; rfl) | (apply T.cond_false; rfl) | (apply T.test; rfl; (with_reducible (first | exact Is.ndec | exact Is.dec | exact Is.not | ((fail_if_success exact Is.litT); (fail_if_success exact Is.litF); exact Is.base))); intro _; rotate_left; intro _; rotate_right) | (apply TL.skip; rfl; rfl; rfl) | (apply TL.skip_none; rfl; rfl) | (apply TL.callE (f := 138) [strV zone] Tryz.call138; rfl; rfl; rfl; rfl; (exact fun _ hs => h1 ▸ c_vzoneOK zone _ _ hs.sat hz)) | (apply TL.callE (f := 139) [.agg (enc q).toArray] Tryz.call139; rfl; rfl; rfl; rfl; (exact fun _ hs => h2 ▸ c_vquestion q _ _ hs.sat hq)) | (apply TL.callE (f := 140) [.agg (enc a).toArray] Tryz.call140; rfl; rfl; rfl; rfl; (exact fun _ hs => h3 ▸ c_vanswer a _ _ hs.sat hR ha)) | (apply TL.val; rfl; rfl; (first | exact vpure | exact vread)) | (apply TL.x; rfl; rfl; (first | exact xgrow | exact xput); intro _ _) | (apply TL.guard; rfl; rfl; rfl; (with_reducible (first | exact Is.ndec | exact Is.dec | exact Is.not | ((fail_if_success exact Is.litT); (fail_if_success exact Is.litF); exact Is.base))); intro _; rotate_left; intro _; rotate_right)))
    all_goals (try contradiction)
    all_goals (rw [hf]; exact N.ret2 rfl (by (exact rvx)) (by (exact rvx)) fun w hst => ⟨(H, Slc.nil _), ⟨rfl, Slc.nil_good, Nat.zero_le _⟩, rfl, hst.fresh⟩)
  | true =>
  cases h3 : answerOK a.c with
  | false =>
    have hf : filterF zone q a.c = ([], 1) := by unfold filterF; rw [h1, h2, h3]; rfl
    repeat (any_goals (first | refine T.seq ?_ | refine T.region ?_ | refine TL.nil ?_ | refine N.next ?_ | refine N.inBlock ?_ | refine N.exit_same ?_ | refine N.exit_then ?_ | refine N.ret_then ?_ | refine N.ret_block ?_ | (apply N.exit_other; rfl) | refine T.ret ?_ | refine T.skip ?_ | refine T.exit ?_ | refine T.block ?_ | (apply T.cond_true; rfl) | (apply T.cond_false; rfl) | (apply T.test; rfl; (with_reducible (first | exact Is.ndec | exact Is.dec | exact Is.not | ((fail_if_success exact Is.litT); (fail_if_success exact Is.litF); exact Is.base))); intro _; rotate_left; intro _; rotate_right) | (apply TL.skip; rfl; rfl; rfl) | (apply TL.skip_none; rfl; rfl) | (apply TL.callE (f := 138) [strV zone] Tryz.call138; rfl; rfl; rfl; rfl; (exact fun _ hs => h1 ▸ c_vzoneOK zone _ _ hs.sat hz)) | (apply TL.callE (f := 139) [.agg (enc q).toArray] Tryz.call139; rfl; rfl; rfl; rfl; (exact fun _ hs => h2 ▸ c_vquestion q _ _ hs.sat hq)) | (apply TL.callE (f := 140) [.agg (enc a).toArray] Tryz.call140; rfl; rfl; rfl; rfl; (exact fun _ hs => h3 ▸ c_vanswer a _ _ hs.sat hR ha)) | (apply TL.val; rfl; rfl; (first | exact vpure | exact vread)) | (apply TL.x; rfl; rfl; (first | exact xgrow | exact xput); intro _ _) | (apply TL.guard; rfl; rfl; rfl; (with_reducible (first | exact Is.ndec | exact Is.dec | exact Is.not | ((fail_if_success exact Is.litT); (fail_if_success exact Is.litF); exact Is.base))); intro _; rotate_left; intro _; rotate_right)))
    all_goals (try contradiction)
    all_goals (rw [hf]; exact N.ret2 rfl (by (exact rvx)) (by (exact rvx)) fun w hst => ⟨(H, Slc.nil _), ⟨rfl, Slc.nil_good, Nat.zero_le _⟩, rfl, hst.fresh⟩)
  | true =>
  obtain ⟨hk, hl40, hsh⟩ := answerOK_short h3
  cases hu : (underC q.name zone).1 with
  | false =>
    have hf : filterF zone q a.c = ([], 0) := by unfold filterF; rw [h1, h2, h3, hu]; rfl
    repeat (any_goals (first | refine T.seq ?_ | refine T.region ?_ | refine TL.nil ?_ | refine N.next ?_ | refine N.inBlock ?_ | refine N.exit_same ?_ | refine N.exit_then ?_ | refine N.ret_then ?_ | refine N.ret_block ?_ | (apply N.exit_other; rfl) | refine T.ret ?_ | refine T.skip ?_ | refine T.exit ?_ | refine T.block ?_ | (apply T.cond_true; rfl) | (apply T.cond_false; rfl) | (apply T.test; rfl; (with_reducible (first | exact Is.ndec | exact Is.dec | exact Is.not | ((fail_if_success exact Is.litT); (fail_if_success exact Is.litF); exact Is.base))); intro _; rotate_left; intro _; rotate_right) | (apply TL.skip; rfl; rfl; rfl) | (apply TL.skip_none; rfl; rfl) | (apply TL.callE (f := 138) [strV zone] Tryz.call138; rfl; rfl; rfl; rfl; (exact fun _ hs => h1 ▸ c_vzoneOK zone _ _ hs.sat hz)) | (apply TL.callE (f := 139) [.agg (enc q).toArray] Tryz.call139; rfl; rfl; rfl; rfl; (exact fun _ hs => h2 ▸ c_vquestion q _ _ hs.sat hq)) | (apply TL.callE (f := 140) [.agg (enc a).toArray] Tryz.call140; rfl; rfl; rfl; rfl; (exact fun _ hs => h3 ▸ c_vanswer a _ _ hs.sat hR ha)) | (apply TL.callE (f := 141) [strV q.name, strV zone] Tryz.call141; rfl; rfl; rfl; rfl; (exact fun _ hs => hu ▸ c_vunder q.name zone _ _ hs.sat hq.1 hz)) | (apply TL.val; rfl; rfl; (first | exact vpure | exact vread)) | (apply TL.x; rfl; rfl; (first | exact xgrow | exact xput); intro _ _) | (apply TL.guard; rfl; rfl; rfl; (with_reducible (first | exact Is.ndec | exact Is.dec | exact Is.not | ((fail_if_success exact Is.litT); (fail_if_success exact Is.litF); exact Is.base))); intro _; rotate_left; intro _; rotate_right)))
    all_goals (try contradiction)
    all_goals (rw [hf]; exact N.ret2 rfl (by (exact rvx)) (by (exact rvx)) fun w hst => ⟨(H, Slc.nil _), ⟨rfl, Slc.nil_good, Nat.zero_le _⟩, rfl, hst.fresh⟩)
  | true =>
  have hf : filterF zone q a.c = (a.c.sets.filter (takenF zone q a.c), 0) := by unfold filterF; rw [h1, h2, h3, hu]; rfl
  rw [hf]
  have hgs := ha.2.1
  have hlen := hgs.len
  have hlim := hgs.lim
  repeat (any_goals (first | refine T.seq ?_ | refine T.region ?_ | refine TL.nil ?_ | refine N.next ?_ | refine N.inBlock ?_ | refine N.exit_same ?_ | refine N.exit_then ?_ | refine N.ret_then ?_ | refine N.ret_block ?_ | (apply N.exit_other; rfl) | refine T.ret ?_ | refine T.skip ?_ | refine T.exit ?_ | refine T.block ?_ | (apply T.cond_true; rfl) | (apply T.cond_false; rfl) | (apply T.test; rfl; (with_reducible (first | exact Is.ndec | exact Is.dec | exact Is.not | ((fail_if_success exact Is.litT); (fail_if_success exact Is.litF); exact Is.base))); intro _; rotate_left; intro _; rotate_right) | (apply TL.skip; rfl; rfl; rfl) | (apply TL.skip_none; rfl; rfl) | (apply TL.callE (f := 138) [strV zone] Tryz.call138; rfl; rfl; rfl; rfl; (exact fun _ hs => h1 ▸ c_vzoneOK zone _ _ hs.sat hz)) | (apply TL.callE (f := 139) [.agg (enc q).toArray] Tryz.call139; rfl; rfl; rfl; rfl; (exact fun _ hs => h2 ▸ c_vquestion q _ _ hs.sat hq)) | (apply TL.callE (f := 140) [.agg (enc a).toArray] Tryz.call140; rfl; rfl; rfl; rfl; (exact fun _ hs => h3 ▸ c_vanswer a _ _ hs.sat hR ha)) | (apply TL.callE (f := 141) [strV q.name, strV zone] Tryz.call141; rfl; rfl; rfl; rfl; (exact fun _ hs => hu ▸ c_vunder q.name zone _ _ hs.sat hq.1 hz)) | (apply TL.x; rfl; rfl; (apply X.callFE (d := 33) (f := 142) [strV zone, .agg (enc q).toArray, .agg (enc a).toArray] Tryz.call142; rfl; rfl; rfl; exact (fun _ hs => c_ruleOf zone q a hk _ _ hs.sat hz hq ha)); rintro ⟨H1, rv, rp⟩ ⟨⟨hrg, hrp⟩, hle1⟩; simp only at hrg hrp hle1 ⊢; obtain ⟨F, cap, hrv, hcall, hrc⟩ := hrg; simp only at hrv hrc; subst hrv) | (apply TL.val; rfl; rfl; (first | exact vpure | exact vread)) | (apply TL.x; rfl; rfl; (first | exact xgrow | exact xput); intro _ _) | (apply TL.guard; rfl; rfl; rfl; (with_reducible (first | exact Is.ndec | exact Is.dec | exact Is.not | ((fail_if_success exact Is.litT); (fail_if_success exact Is.litF); exact Is.base))); intro _; rotate_left; intro _; rotate_right)))
  all_goals (try contradiction)
  refine T.nilRow 65 5 ?_
  refine T.loop (G := Hp × List Signed × Value × Nat) (fun g => [(0, strV zone), (8, .func (.func F) #[] cap), (9, g.2.2.1), (35, .slice a.sets.A a.sets.len a.sets.cap), (36, intV a.sets.len), (37, intV g.2.2.2)]) (fun g => g.1) (fun g => [.row g.2.2.1 65 5 g.2.1.length (encs g.2.1)]) (fun g => H1.le g.1 ∧ g.2.2.2 ≤ a.sets.len ∧ g.2.1.length ≤ g.2.2.2 ∧ (∀ y ∈ g.2.1, Enc.good g.1 y) ∧ g.2.1.map Signed.c = (a.c.sets.take g.2.2.2).filter (takenF zone q a.c)) (fun g => a.sets.len - g.2.2.2) (H1, [], .slice none 0 0, 0) ⟨Hp.le.refl _, Nat.zero_le _, Nat.le_refl _, by simp, by simp⟩ (by (repeat (first | exact True.intro | refine ⟨rfl, ?_⟩ | refine Sub.int rfl (by omega) ?_))) rfl (by (repeat (first | exact List.Sublist.refl _ | exact List.nil_sublist _ | apply List.Sublist.cons_cons | apply List.Sublist.cons))) ?_
  rintro ⟨Hk, ys, yv, i⟩ ⟨hlek, hi, hyl, hyg, hys⟩
  simp only at hlek hi hyl hyg hys ⊢
  by_cases hlt : i < a.sets.len
  · have hk2 : i < a.sets.els.length := by omega
    have hgk := (hgs.mono hle1).mono hlek
    have hx := hgk.els _ (List.getElem_mem hk2)
    obtain ⟨hx1, hx2, hx3⟩ := hsh _ (List.getElem_mem hk2)
    have hxd : (a.sets.els[i]'hk2).set.data.len ≤ 1000 := by rw [← hx.1.2.2.2.len]; omega
    have hxs : (a.sets.els[i]'hk2).sigs.len ≤ 1000 := by rw [← hx.2.len]; omega
    have hci : a.c.sets[i]? = some (a.sets.els[i]'hk2).c := by
      show (a.sets.els.map Signed.c)[i]? = _
      rw [List.getElem?_map, List.getElem?_eq_getElem hk2]; rfl
    have htk : takenF zone q a.c (a.sets.els[i]'hk2).c = ((underC (a.sets.els[i]'hk2).set.name zone).1 && rp (a.sets.els[i]'hk2).set.c) := by rw [hrp]; rfl
    repeat (any_goals (first | refine T.seq ?_ | refine T.region ?_ | refine TL.nil ?_ | refine N.next ?_ | refine N.inBlock ?_ | refine N.exit_same ?_ | refine N.exit_then ?_ | refine N.ret_then ?_ | refine N.ret_block ?_ | (apply N.exit_other; rfl) | refine T.ret ?_ | refine T.skip ?_ | refine T.exit ?_ | refine T.block ?_ | (apply T.cond_true; rfl) | (apply T.cond_false; rfl) | (apply T.test; rfl; (with_reducible (first | exact Is.ndec | exact Is.dec | exact Is.not | ((fail_if_success exact Is.litT); (fail_if_success exact Is.litF); exact Is.base))); intro _; rotate_left; intro _; rotate_right) | (apply TL.skip; rfl; rfl; rfl) | (apply TL.skip_none; rfl; rfl) | (apply TL.x; rfl; rfl; (apply X.storeTo 0 (enc (a.sets.els[i]'hk2)); rfl; rfl; rfl; rfl; rfl; rfl; rfl; rfl; rfl; rfl); intro _ _) | (apply TL.callE (f := 141) [strV (a.sets.els[i]'hk2).set.name, strV zone] Tryz.call141; rfl; rfl; rfl; rfl; (exact fun _ hs => c_vunder (a.sets.els[i]'hk2).set.name zone _ _ hs.sat hx.1.1 hz)) | (apply TL.call (d := 50) (f := F) (first := #[]) (cap := cap) (vs := [.agg (enc (a.sets.els[i]'hk2).set).toArray]); rfl; rfl; rfl; rfl; exact hcall; exact fun _ hs => hrc _ _ _ hlek hs.sat hx.1) | (apply TL.x; rfl; rfl; (apply X.callFE (d := 54) (f := 143) [.agg (enc (a.sets.els[i]'hk2)).toArray] Tryz.call143; rfl; rfl; rfl; exact (fun _ hs => c_vcloned (a.sets.els[i]'hk2) _ _ hs.sat hx hxd hxs)); rintro ⟨H2, y⟩ ⟨⟨hyc, hy⟩, hle2⟩; simp only at hyc hy hle2 ⊢) | (apply TL.x; rfl; rfl; (apply X.buildSlice1 (d := 55); rfl; rfl; rfl; rfl; rfl; rfl; rfl; rfl); intro b55 _) | (apply TL.x; rfl; rfl; (apply X.append1 2; rfl; rfl; rfl; rfl; rfl; rfl; rfl; rfl; rfl; exact List.Mem.head _; rfl; rfl; rfl; (refine Nat.le_trans (Nat.mul_le_mul_right _ (show _ ≤ 1000 by omega)) ?_; decide); omega); intro pa _) | (apply TL.val; rfl; rfl; (first | exact vpure | exact vread)) | (apply TL.x; rfl; rfl; (first | exact xgrow | exact xput); intro _ _) | (apply TL.guard; rfl; rfl; rfl; (with_reducible (first | exact Is.ndec | exact Is.dec | exact Is.not | ((fail_if_success exact Is.litT); (fail_if_success exact Is.litF); exact Is.base))); intro _; rotate_left; intro _; rotate_right)))
    all_goals (try (exfalso; omega))
    all_goals first
      | (have htt : takenF zone q a.c (a.sets.els[i]'hk2).c = true := by
           rw [htk, Bool.and_eq_true]
           exact ⟨by assumption, by assumption⟩
         refine N.round (H2, ys ++ [y], .slice (some ⟨pa.1, 0, none⟩) (ys.length + 1) pa.2, i + 1) ⟨hlek.trans hle2, by show i + 1 ≤ _; omega, by simp; omega, ?_, ?_⟩ (by show a.sets.len - (i + 1) < a.sets.len - i; omega) (by simp only [List.length_append, List.length_cons, List.length_nil]; (repeat (first | exact True.intro | refine ⟨rfl, ?_⟩ | refine Sub.int rfl (by omega) ?_))) rfl ?_
         · intro z hz
           rcases List.mem_append.1 hz with h | h
           · exact Enc.mono hle2 (hyg z h)
           · rw [List.mem_singleton.1 h]; exact hy
         · rw [filter_up hci, if_pos htt, List.map_append, hys]
           simp only [List.map_cons, List.map_nil, hyc]
         · simp only [List.length_append, List.length_cons, List.length_nil, Nat.zero_add, encs_snoc]
           exact List.Sublist.cons _ (List.Sublist.cons _ (List.Sublist.refl _)))
      | (have hnt : takenF zone q a.c (a.sets.els[i]'hk2).c = false := by
           rw [htk]
           first
             | rw [show (underC (a.sets.els[i]'hk2).set.name zone).1 = false by assumption, Bool.false_and]
             | rw [show rp (a.sets.els[i]'hk2).set.c = false by assumption, Bool.and_false]
         refine N.round (Hk, ys, yv, i + 1) ⟨hlek, by show i + 1 ≤ _; omega, by show ys.length ≤ i + 1; omega, hyg, ?_⟩ (by show a.sets.len - (i + 1) < a.sets.len - i; omega) (by (repeat (first | exact True.intro | refine ⟨rfl, ?_⟩ | refine Sub.int rfl (by omega) ?_))) rfl (List.Sublist.cons _ (List.Sublist.refl _))
         rw [filter_up hci, if_neg (by rw [hnt]; decide), List.append_nil]
         exact hys)
  · have hie : i = a.sets.len := by omega
    subst hie
    apply T.frzRow 0 (els := ys); rfl; rfl; rfl; exact hyg
    intro H3 sl e1 e2 e3 hle3
    subst e1
    repeat (any_goals (first | refine T.seq ?_ | refine T.region ?_ | refine TL.nil ?_ | refine N.next ?_ | refine N.inBlock ?_ | refine N.exit_same ?_ | refine N.exit_then ?_ | refine N.ret_then ?_ | refine N.ret_block ?_ | (apply N.exit_other; rfl) | refine T.ret ?_ | refine T.skip ?_ | refine T.exit ?_ | refine T.block ?_ | (apply T.cond_true; rfl) | (apply T.cond_false; rfl) | (apply T.test; rfl; (with_reducible (first | exact Is.ndec | exact Is.dec | exact Is.not | ((fail_if_success exact Is.litT); (fail_if_success exact Is.litF); exact Is.base))); intro _; rotate_left; intro _; rotate_right) | (apply TL.skip; rfl; rfl; rfl) | (apply TL.skip_none; rfl; rfl) | (apply TL.val; rfl; rfl; (first | exact vpure | exact vread)) | (apply TL.x; rfl; rfl; (first | exact xgrow | exact xput); intro _ _) | (apply TL.guard; rfl; rfl; rfl; (with_reducible (first | exact Is.ndec | exact Is.dec | exact Is.not | ((fail_if_success exact Is.litT); (fail_if_success exact Is.litF); exact Is.base))); intro _; rotate_left; intro _; rotate_right)))
    all_goals (try (exfalso; omega))
    refine N.ret2 rfl (by (exact rvx)) (by (exact rvx)) fun w hst => ⟨(H3, sl), ⟨?_, e3, ?_⟩, rfl, hst.fresh⟩
    · rw [e2, hys, List.take_of_length_le (by show (a.sets.els.map Signed.c).length ≤ _; rw [List.length_map]; omega)]
    · show sl.len ≤ 40
      rw [← e3.len, e2]; omega
theorem filterF_sets {zone : Bytes} {q : Question} {a : AnswerC} (h : answerOK a = true) : ∀ x ∈ (filterF zone q a).1, setOK x.set = true := fun x hx => by
  have hm : x ∈ a.sets := by
    unfold filterF at hx
    split at hx
    · cases hx
    · split at hx
      · cases hx
      · exact (List.mem_filter.1 hx).1
  unfold answerOK at h
  simp only [Bool.and_eq_true, decide_eq_true_eq, List.all_eq_true] at h
  have h5 := h.1.2 x hm
  unfold signedOK at h5
  simp only [Bool.and_eq_true, decide_eq_true_eq] at h5
  exact h5.1.2
theorem filterF_ok {zone : Bytes} {q : Question} {a : AnswerC} (h1 : zoneV zone = true) (h2 : questionOK q = true) (h3 : answerOK a = true) : (filterF zone q a).2 = 0 := by
  unfold filterF
  rw [h1, h2, h3]
  split
  · rename_i h; cases h
  · split <;> rfl
theorem c_Learn (c : Cache) (zone : Bytes) (q : Question) (a : Answer) (now : Int) (H : Hp) (w : World) (hs : Sat H w) (hR : Rules H) (hg : Enc.good H c) (hz : LenOk zone) (hq : Enc.good H q) (ha : Enc.good H a) (hnow : I64 now) : Calls Tryz.prog 31 #[.agg (enc c).toArray, strV zone, .agg (enc q).toArray, .agg (enc a).toArray, intV now] w (Caches w H (learnP zone q a.c now (filterF zone q a.c).1 c.c)) :=
  c_LearnG _ c zone q a now H w hs hR hg hz hq ha hnow (fun h1 h2 h3 w hs => by
    have := c_Filter zone q a H w hs hR hz hq ha
    rwa [filterF_ok h1 h2 h3] at this) (fun h => filterF_sets h)
end Go.Proofs.YtogcofeencgipaaGreatDoor
