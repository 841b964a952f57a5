/- The law PacketForged. -/
import Derived.Test.YtogcofeencgipaaGreatDoorPS
set_option pp.deepTerms true
set_option pp.maxSteps 10000000
namespace Go.Proofs.YtogcofeencgipaaGreatDoor
set_option linter.unusedVariables false
set_option linter.unusedSimpArgs false
open Go Go.RowKit
open Enc (enc)
set_option maxRecDepth 20000
set_option maxHeartbeats 4000000 in
theorem c_PForged (p q : Msg) (a b : Answer) (H : Hp) (w : World) (hs : Sat H w) (hR : Rules H) (hp : Enc.good H p) (hq : Enc.good H q) (ha : Enc.good H a) (hb : Enc.good H b) : Calls Tryz.prog 6 #[.agg (enc p).toArray, .agg (enc q).toArray, .agg (enc a).toArray, .agg (enc b).toArray] w (Ret w (.bool true)) := by
  have hm : Enc.good H (replyTo p a) := ⟨by show I64 2; decide, hp.2.1, hp.2.2.2.1, hp.2.2.1, hp.2.2.2.2.1, ha⟩
  have hn : Enc.good H (replyTo q b) := ⟨by show I64 2; decide, hq.2.1, hq.2.2.2.1, hq.2.2.1, hq.2.2.2.2.1, hb⟩
  refine T.enter (vs := [.agg (enc p).toArray, .agg (enc q).toArray, .agg (enc a).toArray, .agg (enc b).toArray]) (H := H) Tryz.func6 rfl rfl rfl hs ?_
  repeat (any_goals (first | refine T.seq ?_ | refine T.region ?_ | refine TL.nil ?_ | refine N.next ?_ | refine N.inBlock ?_ | refine N.exit_same ?_ | refine N.exit_then ?_ | refine N.ret_then ?_ | refine N.ret_block ?_ | (apply N.exit_other; rfl) | refine T.ret ?_ | refine T.skip ?_ | refine T.exit ?_ | refine T.block ?_ | (apply T.cond_true; rfl) | (apply T.cond_false; rfl) | (apply T.test; rfl; (with_reducible (first | exact Is.ndec | exact Is.dec | exact Is.not | ((fail_if_success exact Is.litT); (fail_if_success exact Is.litF); exact Is.base))); intro _; rotate_left; intro _; rotate_right) | (apply TL.skip; rfl; rfl; rfl) | (apply TL.skip_none; rfl; rfl) | (apply TL.x; rfl; rfl; (apply X.box (d := 4); rfl; rfl; rfl); intro b4 _) | (apply TL.x; rfl; rfl; (apply X.box (d := 5); rfl; rfl; rfl); intro b5 _) | (apply TL.callE (f := 13) [] Tryz.call13; rfl; rfl; rfl; rfl; (exact fun _ hs => c_head26 _ _ hs.sat hR)) | (apply TL.val; rfl; rfl; (apply V.build; rfl; rfl; rfl; rfl; rfl; rfl)) | (apply TL.x; rfl; rfl; (apply X.alloc (d := 10); rfl; rfl; rfl); intro b10 _) | (apply TL.x; rfl; rfl; (apply X.alloc (d := 11); rfl; rfl; rfl); intro b11 _) | (apply TL.x; rfl; rfl; (apply X.storeTo 0 (enc (replyTo p a)); rfl; rfl; rfl; rfl; rfl; rfl; rfl; rfl; rfl; rfl); intro _ _) | (apply TL.x; rfl; rfl; (apply X.storeTo 0 (enc (replyTo q b)); rfl; rfl; rfl; rfl; rfl; rfl; rfl; rfl; rfl; rfl); intro _ _) | (apply TL.x; rfl; rfl; (apply X.buildParts (enc p ++ enc q ++ enc (replyTo p a) ++ enc (replyTo q b)); rfl; rfl; rfl; rfl; rfl; rfl; rfl; rfl; rfl; rfl; rfl); intro b39 _; apply TL.frzBlk 0 (α := Msg) (els := [p, q, replyTo p a, replyTo q b]) (m := 4) rfl rfl rfl (by decide) (by intro x hx; simp only [List.mem_cons, List.not_mem_nil, or_false] at hx; rcases hx with rfl | rfl | rfl | rfl <;> assumption); intro H1 hs1 hle1) | (apply TL.val; rfl; rfl; (first | exact vpure | exact vread)) | (apply TL.x; rfl; rfl; (first | exact xgrow | exact xput); intro _ _) | (apply TL.guard; rfl; rfl; rfl; (with_reducible (first | exact Is.ndec | exact Is.dec | exact Is.not | ((fail_if_success exact Is.litT); (fail_if_success exact Is.litF); exact Is.base))); intro _; rotate_left; intro _; rotate_right)))
  have hp1 := Enc.mono hle1 hp
  have hq1 := Enc.mono hle1 hq
  have hm1 := Enc.mono hle1 hm
  have hn1 := Enc.mono hle1 hn
  have hR1 := Rules.mono hle1 hR
  refine T.loop (G := Nat) (fun i => [(4, .pointer (some ⟨b4, 0, none⟩)), (5, .pointer (some ⟨b5, 0, none⟩)), (10, .pointer (some ⟨b10, 0, none⟩)), (11, .pointer (some ⟨b11, 0, none⟩)), (9, .bool true), (39, .slice (some ⟨b39, 0, none⟩) 4 4), (40, intV 4), (41, intV i)]) (fun _ => H1) (fun _ => [.blk b11 28 (enc (replyTo q b)), .blk b10 28 (enc (replyTo p a)), .blk b5 28 (enc q), .blk b4 28 (enc p)]) (fun i => i ≤ 4 ∧ ∀ x ∈ [p, q, replyTo p a, replyTo q b].take i, msgOK x.c = true) (fun i => 4 - i) 0 ⟨by decide, fun x hx => by cases hx⟩ (by (repeat (first | exact True.intro | refine ⟨rfl, ?_⟩ | refine Sub.int rfl (by omega) ?_))) rfl (by (repeat (first | exact List.Sublist.refl _ | exact List.nil_sublist _ | apply List.Sublist.cons_cons | apply List.Sublist.cons))) ?_
  rintro i ⟨hi, hv⟩
  simp only at hi hv ⊢
  generalize hsl : (⟨some ⟨b39, 0, none⟩, 4, 4, [p, q, replyTo p a, replyTo q b]⟩ : Slc Msg) = s at *
  have hsv : Value.slice (some ⟨b39, 0, none⟩) 4 4 = s.v := by rw [← hsl]
  have hsn : s.len = 4 := by rw [← hsl]
  have hse : s.els = [p, q, replyTo p a, replyTo q b] := by rw [← hsl]
  rw [hsv]
  by_cases hlt : i < 4
  · have hk : i < s.els.length := by rw [hse]; exact hlt
    have hxg : Enc.good H1 (s.els[i]'hk) := hs1.els _ (List.getElem_mem hk)
    repeat (any_goals (first | refine T.seq ?_ | refine T.region ?_ | refine TL.nil ?_ | refine N.next ?_ | refine N.inBlock ?_ | refine N.exit_same ?_ | refine N.exit_then ?_ | refine N.ret_then ?_ | refine N.ret_block ?_ | (apply N.exit_other; rfl) | refine T.ret ?_ | refine T.skip ?_ | refine T.exit ?_ | refine T.block ?_ | (apply T.cond_true; rfl) | (apply T.cond_false; rfl) | (apply T.test; rfl; (with_reducible (first | exact Is.ndec | exact Is.dec | exact Is.not | ((fail_if_success exact Is.litT); (fail_if_success exact Is.litF); exact Is.base))); intro _; rotate_left; intro _; rotate_right) | (apply TL.skip; rfl; rfl; rfl) | (apply TL.skip_none; rfl; rfl) | (apply TL.x; rfl; rfl; (apply X.storeTo 0 (enc (s.els[i]'hk)); rfl; rfl; rfl; rfl; rfl; rfl; rfl; rfl; rfl; rfl); intro _ _) | (apply TL.callE (f := 14) [.agg (enc (s.els[i]'hk)).toArray] Tryz.call14; rfl; rfl; rfl; rfl; (exact fun _ hs => c_Few26 (s.els[i]'hk) _ _ hs.sat hxg)) | (apply TL.callE (f := 20) [.agg (enc (s.els[i]'hk)).toArray] Tryz.call20; rfl; rfl; rfl; rfl; (exact fun _ hs => c_Valid26 (s.els[i]'hk) _ _ hs.sat hxg)) | (apply TL.val; rfl; rfl; (first | exact vpure | exact vread)) | (apply TL.x; rfl; rfl; (first | exact xgrow | exact xput); intro _ _) | (apply TL.guard; rfl; rfl; rfl; (with_reducible (first | exact Is.ndec | exact Is.dec | exact Is.not | ((fail_if_success exact Is.litT); (fail_if_success exact Is.litF); exact Is.base))); intro _; rotate_left; intro _; rotate_right)))
    all_goals (try (exfalso; omega))
    all_goals (try exact N.ret_bool rfl (by (exact rvx)) rfl)
    all_goals (refine N.round (i + 1) ⟨by show i + 1 ≤ 4; omega, fun x hx => ?_⟩ (by show 4 - (i + 1) < 4 - i; omega) (by (repeat (first | exact True.intro | refine ⟨rfl, ?_⟩ | refine Sub.int rfl (by omega) ?_))) rfl (by exact List.Sublist.cons _ (List.Sublist.refl _)))
    all_goals (rw [← hse, List.take_add_one, List.getElem?_eq_getElem hk] at hx; rcases List.mem_append.1 hx with h | h; exact hv x (by rw [← hse]; exact h); (rw [List.mem_singleton.1 h]; assumption))
  · have hi4 : i = 4 := by omega
    subst hi4
    have hvp : msgOK p.c = true := hv p (by simp)
    have hvq : msgOK q.c = true := hv q (by simp)
    have hvm : msgOK (replyTo p a).c = true := hv _ (by simp)
    have hvn : msgOK (replyTo q b).c = true := hv _ (by simp)
    repeat (any_goals (first | refine T.seq ?_ | refine T.region ?_ | refine TL.nil ?_ | refine N.next ?_ | refine N.inBlock ?_ | refine N.exit_same ?_ | refine N.exit_then ?_ | refine N.ret_then ?_ | refine N.ret_block ?_ | (apply N.exit_other; rfl) | refine T.ret ?_ | refine T.skip ?_ | refine T.exit ?_ | refine T.block ?_ | (apply T.cond_true; rfl) | (apply T.cond_false; rfl) | (apply T.test; rfl; (with_reducible (first | exact Is.ndec | exact Is.dec | exact Is.not | ((fail_if_success exact Is.litT); (fail_if_success exact Is.litF); exact Is.base))); intro _; rotate_left; intro _; rotate_right) | (apply TL.skip; rfl; rfl; rfl) | (apply TL.skip_none; rfl; rfl) | (apply TL.callE (f := 22) [.agg (enc p).toArray, .agg (enc q).toArray] Tryz.call22; rfl; rfl; rfl; rfl; (exact fun _ hs => c_SameMsg p q _ _ hs.sat hp1 hq1)) | (apply TL.callE (f := 23) [.agg (enc p).toArray, .agg (enc (replyTo p a)).toArray] Tryz.call23; rfl; rfl; rfl; rfl; (exact fun _ hs => c_packetMatchV (r := true) p (replyTo p a) (match_reply hvp hvm (by omega)) hs.sat hR1 hp1 hm1)) | (apply TL.callE (f := 23) [.agg (enc q).toArray, .agg (enc (replyTo q b)).toArray] Tryz.call23; rfl; rfl; rfl; rfl; (exact fun _ hs => c_packetMatchV (r := true) q (replyTo q b) (match_reply hvq hvn (by omega)) hs.sat hR1 hq1 hn1)) | (apply TL.callE (f := 23) [.agg (enc p).toArray, .agg (enc (replyTo q b)).toArray] Tryz.call23; rfl; rfl; rfl; rfl; (exact fun _ hs => c_packetMatchV (r := false) p (replyTo q b) (match_forged hvp hvq (by omega) (by omega) (by assumption)) hs.sat hR1 hp1 hn1)) | (apply TL.callE (f := 23) [.agg (enc q).toArray, .agg (enc (replyTo p a)).toArray] Tryz.call23; rfl; rfl; rfl; rfl; (exact fun _ hs => c_packetMatchV (r := false) q (replyTo p a) (match_forged hvq hvp (by omega) (by omega) (Ne.symm (by assumption))) hs.sat hR1 hq1 hm1)) | (apply TL.val; rfl; rfl; (first | exact vpure | exact vread)) | (apply TL.x; rfl; rfl; (first | exact xgrow | exact xput); intro _ _) | (apply TL.guard; rfl; rfl; rfl; (with_reducible (first | exact Is.ndec | exact Is.dec | exact Is.not | ((fail_if_success exact Is.litT); (fail_if_success exact Is.litF); exact Is.base))); intro _; rotate_left; intro _; rotate_right)))
    all_goals (try (exfalso; omega))
    all_goals (try (first | (apply N.ret_bool; rfl; (exact rvx)) | (apply N.ret_int; rfl; (exact rvx)) | (apply N.ret_val; rfl; (exact rvx))))
    all_goals (try rfl)
    all_goals trace_state
end Go.Proofs.YtogcofeencgipaaGreatDoor
