/- Walks: validate.Filter, but for referrals. -/
import Derived.Test.YtogcofeencgipaaGreatDoorZQB
import Derived.Test.YtogcofeencgipaaGreatDoorZTC
namespace Go.Proofs.YtogcofeencgipaaGreatDoor
set_option linter.unusedVariables false
set_option linter.unusedSimpArgs false
open Go Go.RowKit
open Enc (enc)
set_option maxRecDepth 20000
def takenC (zone : Bytes) (q : Question) (k : Int) (s : SignedC) : Bool := (underC s.set.name zone).1 && ruleC q k s.set
def filterC (zone : Bytes) (q : Question) (a : AnswerC) : List SignedC × Int := if !(zoneV zone && questionOK q && answerOK a) then ([], 1) else if !(underC q.name zone).1 then ([], 0) else (a.sets.filter (takenC zone q a.kind), 0)
theorem answerOK_short {a : Answer} (h : answerOK a.c = true) : (1 ≤ a.kind ∧ a.kind ≤ 7) ∧ a.sets.els.length ≤ 40 ∧ ∀ x ∈ a.sets.els, setOK x.set.c = true ∧ x.set.data.els.length ≤ 8 ∧ x.sigs.els.length ≤ 6 := by
  unfold answerOK at h
  simp only [Bool.and_eq_true, decide_eq_true_eq, List.all_eq_true] at h
  obtain ⟨⟨⟨h1, h2⟩, h3⟩, _⟩ := h
  refine ⟨h1, by rw [← List.length_map Signed.c]; exact h2, fun x hx => ?_⟩
  have h5 := h3 _ (List.mem_map_of_mem hx)
  unfold signedOK at h5
  simp only [Bool.and_eq_true, decide_eq_true_eq] at h5
  exact ⟨h5.1.2, (setOK_short h5.1.2).data, h5.1.1⟩
theorem filter_up {α : Type} {p : α → Bool} {l : List α} {k : Nat} {x : α} (h : l[k]? = some x) : (l.take (k + 1)).filter p = (l.take k).filter p ++ if p x then [x] else [] := by
  rw [List.take_add_one, h, List.filter_append]
  simp only [Option.toList_some]
  cases hp : p x <;> simp [hp]
set_option maxHeartbeats 4000000 in
theorem c_FilterNo (zone : Bytes) (q : Question) (a : Answer) (hb : belowV a.cut zone = false) (H : Hp) (w : World) (hs : Sat H w) (hR : Rules H) (hz : LenOk zone) (hq : Enc.good H q) (ha : Enc.good H a) : Calls Tryz.prog 89 #[strV zone, .agg (enc q).toArray, .agg (enc a).toArray] w (RetF w H (fun g : Hp × Slc Signed => g.2.els.map Signed.c = (filterC zone q a.c).1 ∧ g.2.Good g.1 ∧ g.2.len ≤ 40) (fun g => .tuple #[g.2.v, intV (filterC zone q a.c).2]) (fun g => g.1)) := by
  refine T.enter (vs := [strV zone, .agg (enc q).toArray, .agg (enc a).toArray]) (H := H) Tryz.func89 rfl rfl rfl hs ?_
  cases h1 : zoneV zone with
  | false =>
    have hf : filterC zone q a.c = ([], 1) := by unfold filterC; rw [h1]; rfl
    repeat (any_goals (first | refine T.seq ?_ | refine T.region ?_ | refine TL.nil ?_ | refine N.next ?_ | refine N.inBlock ?_ | refine N.exit_same ?_ | refine N.exit_then ?_ | refine N.ret_then ?_ | refine N.ret_block ?_ | (apply N.exit_other; rfl) | refine T.ret ?_ | refine T.skip ?_ | refine T.exit ?_ | refine T.block ?_ | (apply T.cond_true; rfl) | (apply T.cond_false; rfl) | (apply T.test; rfl; (with_reducible (first | exact Is.ndec | exact Is.dec | exact Is.not | ((fail_if_success exact Is.litT); (fail_if_success exact Is.litF); exact Is.base))); intro _; rotate_left; intro _; rotate_right) | (apply TL.skip; rfl; rfl; rfl) | (apply TL.skip_none; rfl; rfl) | (apply TL.callE (f := 138) [strV zone] Tryz.call138; rfl; rfl; rfl; rfl; (exact fun _ hs => h1 ▸ c_vzoneOK zone _ _ hs.sat hz)) | (apply TL.callE (f := 139) [.agg (enc q).toArray] Tryz.call139; rfl; rfl; rfl; rfl; (exact fun _ hs => h2 ▸ c_vquestion q _ _ hs.sat hq)) | (apply TL.callE (f := 140) [.agg (enc a).toArray] Tryz.call140; rfl; rfl; rfl; rfl; (exact fun _ hs => h3 ▸ c_vanswer a _ _ hs.sat hR ha)) | (apply TL.val; rfl; rfl; (first | exact vpure | exact vread)) | (apply TL.x; rfl; rfl; (first | exact xgrow | exact xput); intro _ _) | (apply TL.guard; rfl; rfl; rfl; (with_reducible (first | exact Is.ndec | exact Is.dec | exact Is.not | ((fail_if_success exact Is.litT); (fail_if_success exact Is.litF); exact Is.base))); intro _; rotate_left; intro _; rotate_right)))
    all_goals (try contradiction)
    all_goals (rw [hf]; exact N.ret2 rfl (by (exact rvx)) (by (exact rvx)) fun w hst => ⟨(H, Slc.nil _), ⟨rfl, Slc.nil_good, Nat.zero_le _⟩, rfl, hst.fresh⟩)
  | true =>
  cases h2 : questionOK q with
  | false =>
    have hf : filterC zone q a.c = ([], 1) := by unfold filterC; rw [h1, h2]; rfl
    repeat (any_goals (first | refine T.seq ?_ | refine T.region ?_ | refine TL.nil ?_ | refine N.next ?_ | refine N.inBlock ?_ | refine N.exit_same ?_ | refine N.exit_then ?_ | refine N.ret_then ?_ | refine N.ret_block ?_ | (apply N.exit_other; rfl) | refine T.ret ?_ | refine T.skip ?_ | refine T.exit ?_ | refine T.block ?_ | (apply T.cond_true; rfl) | (apply T.cond_false; rfl) | (apply T.test; rfl; (with_reducible (first | exact Is.ndec | exact Is.dec | exact Is.not | ((fail_if_success exact Is.litT); (fail_if_success exact Is.litF); exact Is.base))); intro _; rotate_left; intro _; rotate_right) | (apply TL.skip; rfl; rfl; rfl) | (apply TL.skip_none; rfl; rfl) | (apply TL.callE (f := 138) [strV zone] Tryz.call138; rfl; rfl; rfl; rfl; (exact fun _ hs => h1 ▸ c_vzoneOK zone _ _ hs.sat hz)) | (apply TL.callE (f := 139) [.agg (enc q).toArray] Tryz.call139; rfl; rfl; rfl; rfl; (exact fun _ hs => h2 ▸ c_vquestion q _ _ hs.sat hq)) | (apply TL.callE (f := 140) [.agg (enc a).toArray] Tryz.call140; rfl; rfl; rfl; rfl; (exact fun _ hs => h3 ▸ c_vanswer a _ _ hs.sat hR ha)) | (apply TL.val; rfl; rfl; (first | exact vpure | exact vread)) | (apply TL.x; rfl; rfl; (first | exact xgrow | exact xput); intro _ _) | (apply TL.guard; rfl; rfl; rfl; (with_reducible (first | exact Is.ndec | exact Is.dec | exact Is.not | ((fail_if_success exact Is.litT); (fail_if_success exact Is.litF); exact Is.base))); intro _; rotate_left; intro _; rotate_right)))
    all_goals (try contradiction)
    all_goals (rw [hf]; exact N.ret2 rfl (by (exact rvx)) (by (exact rvx)) fun w hst => ⟨(H, Slc.nil _), ⟨rfl, Slc.nil_good, Nat.zero_le _⟩, rfl, hst.fresh⟩)
  | true =>
  cases h3 : answerOK a.c with
  | false =>
    have hf : filterC zone q a.c = ([], 1) := by unfold filterC; rw [h1, h2, h3]; rfl
    repeat (any_goals (first | refine T.seq ?_ | refine T.region ?_ | refine TL.nil ?_ | refine N.next ?_ | refine N.inBlock ?_ | refine N.exit_same ?_ | refine N.exit_then ?_ | refine N.ret_then ?_ | refine N.ret_block ?_ | (apply N.exit_other; rfl) | refine T.ret ?_ | refine T.skip ?_ | refine T.exit ?_ | refine T.block ?_ | (apply T.cond_true; rfl) | (apply T.cond_false; rfl) | (apply T.test; rfl; (with_reducible (first | exact Is.ndec | exact Is.dec | exact Is.not | ((fail_if_success exact Is.litT); (fail_if_success exact Is.litF); exact Is.base))); intro _; rotate_left; intro _; rotate_right) | (apply TL.skip; rfl; rfl; rfl) | (apply TL.skip_none; rfl; rfl) | (apply TL.callE (f := 138) [strV zone] Tryz.call138; rfl; rfl; rfl; rfl; (exact fun _ hs => h1 ▸ c_vzoneOK zone _ _ hs.sat hz)) | (apply TL.callE (f := 139) [.agg (enc q).toArray] Tryz.call139; rfl; rfl; rfl; rfl; (exact fun _ hs => h2 ▸ c_vquestion q _ _ hs.sat hq)) | (apply TL.callE (f := 140) [.agg (enc a).toArray] Tryz.call140; rfl; rfl; rfl; rfl; (exact fun _ hs => h3 ▸ c_vanswer a _ _ hs.sat hR ha)) | (apply TL.val; rfl; rfl; (first | exact vpure | exact vread)) | (apply TL.x; rfl; rfl; (first | exact xgrow | exact xput); intro _ _) | (apply TL.guard; rfl; rfl; rfl; (with_reducible (first | exact Is.ndec | exact Is.dec | exact Is.not | ((fail_if_success exact Is.litT); (fail_if_success exact Is.litF); exact Is.base))); intro _; rotate_left; intro _; rotate_right)))
    all_goals (try contradiction)
    all_goals (rw [hf]; exact N.ret2 rfl (by (exact rvx)) (by (exact rvx)) fun w hst => ⟨(H, Slc.nil _), ⟨rfl, Slc.nil_good, Nat.zero_le _⟩, rfl, hst.fresh⟩)
  | true =>
  obtain ⟨hk, hl40, hsh⟩ := answerOK_short h3
  cases hu : (underC q.name zone).1 with
  | false =>
    have hf : filterC zone q a.c = ([], 0) := by unfold filterC; rw [h1, h2, h3, hu]; rfl
    repeat (any_goals (first | refine T.seq ?_ | refine T.region ?_ | refine TL.nil ?_ | refine N.next ?_ | refine N.inBlock ?_ | refine N.exit_same ?_ | refine N.exit_then ?_ | refine N.ret_then ?_ | refine N.ret_block ?_ | (apply N.exit_other; rfl) | refine T.ret ?_ | refine T.skip ?_ | refine T.exit ?_ | refine T.block ?_ | (apply T.cond_true; rfl) | (apply T.cond_false; rfl) | (apply T.test; rfl; (with_reducible (first | exact Is.ndec | exact Is.dec | exact Is.not | ((fail_if_success exact Is.litT); (fail_if_success exact Is.litF); exact Is.base))); intro _; rotate_left; intro _; rotate_right) | (apply TL.skip; rfl; rfl; rfl) | (apply TL.skip_none; rfl; rfl) | (apply TL.callE (f := 138) [strV zone] Tryz.call138; rfl; rfl; rfl; rfl; (exact fun _ hs => h1 ▸ c_vzoneOK zone _ _ hs.sat hz)) | (apply TL.callE (f := 139) [.agg (enc q).toArray] Tryz.call139; rfl; rfl; rfl; rfl; (exact fun _ hs => h2 ▸ c_vquestion q _ _ hs.sat hq)) | (apply TL.callE (f := 140) [.agg (enc a).toArray] Tryz.call140; rfl; rfl; rfl; rfl; (exact fun _ hs => h3 ▸ c_vanswer a _ _ hs.sat hR ha)) | (apply TL.callE (f := 141) [strV q.name, strV zone] Tryz.call141; rfl; rfl; rfl; rfl; (exact fun _ hs => hu ▸ c_vunder q.name zone _ _ hs.sat hq.1 hz)) | (apply TL.val; rfl; rfl; (first | exact vpure | exact vread)) | (apply TL.x; rfl; rfl; (first | exact xgrow | exact xput); intro _ _) | (apply TL.guard; rfl; rfl; rfl; (with_reducible (first | exact Is.ndec | exact Is.dec | exact Is.not | ((fail_if_success exact Is.litT); (fail_if_success exact Is.litF); exact Is.base))); intro _; rotate_left; intro _; rotate_right)))
    all_goals (try contradiction)
    all_goals (rw [hf]; exact N.ret2 rfl (by (exact rvx)) (by (exact rvx)) fun w hst => ⟨(H, Slc.nil _), ⟨rfl, Slc.nil_good, Nat.zero_le _⟩, rfl, hst.fresh⟩)
  | true =>
  have hf : filterC zone q a.c = (a.c.sets.filter (takenC zone q a.kind), 0) := by unfold filterC; rw [h1, h2, h3, hu]; rfl
  rw [hf]
  have hgs := ha.2.1
  have hlen := hgs.len
  have hlim := hgs.lim
  repeat (any_goals (first | refine T.seq ?_ | refine T.region ?_ | refine TL.nil ?_ | refine N.next ?_ | refine N.inBlock ?_ | refine N.exit_same ?_ | refine N.exit_then ?_ | refine N.ret_then ?_ | refine N.ret_block ?_ | (apply N.exit_other; rfl) | refine T.ret ?_ | refine T.skip ?_ | refine T.exit ?_ | refine T.block ?_ | (apply T.cond_true; rfl) | (apply T.cond_false; rfl) | (apply T.test; rfl; (with_reducible (first | exact Is.ndec | exact Is.dec | exact Is.not | ((fail_if_success exact Is.litT); (fail_if_success exact Is.litF); exact Is.base))); intro _; rotate_left; intro _; rotate_right) | (apply TL.skip; rfl; rfl; rfl) | (apply TL.skip_none; rfl; rfl) | (apply TL.callE (f := 138) [strV zone] Tryz.call138; rfl; rfl; rfl; rfl; (exact fun _ hs => h1 ▸ c_vzoneOK zone _ _ hs.sat hz)) | (apply TL.callE (f := 139) [.agg (enc q).toArray] Tryz.call139; rfl; rfl; rfl; rfl; (exact fun _ hs => h2 ▸ c_vquestion q _ _ hs.sat hq)) | (apply TL.callE (f := 140) [.agg (enc a).toArray] Tryz.call140; rfl; rfl; rfl; rfl; (exact fun _ hs => h3 ▸ c_vanswer a _ _ hs.sat hR ha)) | (apply TL.callE (f := 141) [strV q.name, strV zone] Tryz.call141; rfl; rfl; rfl; rfl; (exact fun _ hs => hu ▸ c_vunder q.name zone _ _ hs.sat hq.1 hz)) | (apply TL.x; rfl; rfl; (apply X.callFE (d := 33) (f := 142) [strV zone, .agg (enc q).toArray, .agg (enc a).toArray] Tryz.call142; rfl; rfl; rfl; exact (fun _ hs => c_ruleOfNo zone q a hb hk _ _ hs.sat hz hq ha)); rintro ⟨H1, rv, rp⟩ ⟨⟨hrg, hrp⟩, hle1⟩; simp only at hrg hrp hle1 ⊢; obtain ⟨F, cap, hrv, hcall, hrc⟩ := hrg; simp only at hrv hrc; subst hrv) | (apply TL.val; rfl; rfl; (first | exact vpure | exact vread)) | (apply TL.x; rfl; rfl; (first | exact xgrow | exact xput); intro _ _) | (apply TL.guard; rfl; rfl; rfl; (with_reducible (first | exact Is.ndec | exact Is.dec | exact Is.not | ((fail_if_success exact Is.litT); (fail_if_success exact Is.litF); exact Is.base))); intro _; rotate_left; intro _; rotate_right)))
  all_goals (try contradiction)
  refine T.nilRow 65 5 ?_
  refine T.loop (G := Hp × List Signed × Value × Nat) (fun g => [(0, strV zone), (8, .func (.func F) #[] cap), (9, g.2.2.1), (35, .slice a.sets.A a.sets.len a.sets.cap), (36, intV a.sets.len), (37, intV g.2.2.2)]) (fun g => g.1) (fun g => [.row g.2.2.1 65 5 g.2.1.length (encs g.2.1)]) (fun g => H1.le g.1 ∧ g.2.2.2 ≤ a.sets.len ∧ g.2.1.length ≤ g.2.2.2 ∧ (∀ y ∈ g.2.1, Enc.good g.1 y) ∧ g.2.1.map Signed.c = (a.c.sets.take g.2.2.2).filter (takenC zone q a.kind)) (fun g => a.sets.len - g.2.2.2) (H1, [], .slice none 0 0, 0) ⟨Hp.le.refl _, Nat.zero_le _, Nat.le_refl _, by simp, by simp⟩ (by (repeat (first | exact True.intro | refine ⟨rfl, ?_⟩ | refine Sub.int rfl (by omega) ?_))) rfl (by (repeat (first | exact List.Sublist.refl _ | exact List.nil_sublist _ | apply List.Sublist.cons_cons | apply List.Sublist.cons))) ?_
  rintro ⟨Hk, ys, yv, i⟩ ⟨hlek, hi, hyl, hyg, hys⟩
  simp only at hlek hi hyl hyg hys ⊢
  by_cases hlt : i < a.sets.len
  · have hk2 : i < a.sets.els.length := by omega
    have hgk := (hgs.mono hle1).mono hlek
    have hx := hgk.els _ (List.getElem_mem hk2)
    obtain ⟨hx1, hx2, hx3⟩ := hsh _ (List.getElem_mem hk2)
    have hxd : (a.sets.els[i]'hk2).set.data.len ≤ 1000 := by rw [← hx.1.2.2.2.len]; omega
    have hxs : (a.sets.els[i]'hk2).sigs.len ≤ 1000 := by rw [← hx.2.len]; omega
    have hci : a.c.sets[i]? = some (a.sets.els[i]'hk2).c := by
      show (a.sets.els.map Signed.c)[i]? = _
      rw [List.getElem?_map, List.getElem?_eq_getElem hk2]; rfl
    have htk : takenC zone q a.kind (a.sets.els[i]'hk2).c = ((underC (a.sets.els[i]'hk2).set.name zone).1 && rp (a.sets.els[i]'hk2).set.c) := by rw [hrp]; rfl
    repeat (any_goals (first | refine T.seq ?_ | refine T.region ?_ | refine TL.nil ?_ | refine N.next ?_ | refine N.inBlock ?_ | refine N.exit_same ?_ | refine N.exit_then ?_ | refine N.ret_then ?_ | refine N.ret_block ?_ | (apply N.exit_other; rfl) | refine T.ret ?_ | refine T.skip ?_ | refine T.exit ?_ | refine T.block ?_ | (apply T.cond_true; rfl) | (apply T.cond_false; rfl) | (apply T.test; rfl; (with_reducible (first | exact Is.ndec | exact Is.dec | exact Is.not | ((fail_if_success exact Is.litT); (fail_if_success exact Is.litF); exact Is.base))); intro _; rotate_left; intro _; rotate_right) | (apply TL.skip; rfl; rfl; rfl) | (apply TL.skip_none; rfl; rfl) | (apply TL.x; rfl; rfl; (apply X.storeTo 0 (enc (a.sets.els[i]'hk2)); rfl; rfl; rfl; rfl; rfl; rfl; rfl; rfl; rfl; rfl); intro _ _) | (apply TL.callE (f := 141) [strV (a.sets.els[i]'hk2).set.name, strV zone] Tryz.call141; rfl; rfl; rfl; rfl; (exact fun _ hs => c_vunder (a.sets.els[i]'hk2).set.name zone _ _ hs.sat hx.1.1 hz)) | (apply TL.call (d := 50) (f := F) (first := #[]) (cap := cap) (vs := [.agg (enc (a.sets.els[i]'hk2).set).toArray]); rfl; rfl; rfl; rfl; exact hcall; exact fun _ hs => hrc _ _ _ hlek hs.sat hx.1) | (apply TL.x; rfl; rfl; (apply X.callFE (d := 54) (f := 143) [.agg (enc (a.sets.els[i]'hk2)).toArray] Tryz.call143; rfl; rfl; rfl; exact (fun _ hs => c_vcloned (a.sets.els[i]'hk2) _ _ hs.sat hx hxd hxs)); rintro ⟨H2, y⟩ ⟨⟨hyc, hy⟩, hle2⟩; simp only at hyc hy hle2 ⊢) | (apply TL.x; rfl; rfl; (apply X.buildSlice1 (d := 55); rfl; rfl; rfl; rfl; rfl; rfl; rfl; rfl); intro b55 _) | (apply TL.x; rfl; rfl; (apply X.append1 2; rfl; rfl; rfl; rfl; rfl; rfl; rfl; rfl; rfl; exact List.Mem.head _; rfl; rfl; rfl; (refine Nat.le_trans (Nat.mul_le_mul_right _ (show _ ≤ 1000 by omega)) ?_; decide); omega); intro pa _) | (apply TL.val; rfl; rfl; (first | exact vpure | exact vread)) | (apply TL.x; rfl; rfl; (first | exact xgrow | exact xput); intro _ _) | (apply TL.guard; rfl; rfl; rfl; (with_reducible (first | exact Is.ndec | exact Is.dec | exact Is.not | ((fail_if_success exact Is.litT); (fail_if_success exact Is.litF); exact Is.base))); intro _; rotate_left; intro _; rotate_right)))
    all_goals (try (exfalso; omega))
    all_goals first
      | (have htt : takenC zone q a.kind (a.sets.els[i]'hk2).c = true := by
           rw [htk, Bool.and_eq_true]
           exact ⟨by assumption, by assumption⟩
         refine N.round (H2, ys ++ [y], .slice (some ⟨pa.1, 0, none⟩) (ys.length + 1) pa.2, i + 1) ⟨hlek.trans hle2, by show i + 1 ≤ _; omega, by simp; omega, ?_, ?_⟩ (by show a.sets.len - (i + 1) < a.sets.len - i; omega) (by simp only [List.length_append, List.length_cons, List.length_nil]; (repeat (first | exact True.intro | refine ⟨rfl, ?_⟩ | refine Sub.int rfl (by omega) ?_))) rfl ?_
         · intro z hz
           rcases List.mem_append.1 hz with h | h
           · exact Enc.mono hle2 (hyg z h)
           · rw [List.mem_singleton.1 h]; exact hy
         · rw [filter_up hci, if_pos htt, List.map_append, hys]
           simp only [List.map_cons, List.map_nil, hyc]
         · simp only [List.length_append, List.length_cons, List.length_nil, Nat.zero_add, encs_snoc]
           exact List.Sublist.cons _ (List.Sublist.cons _ (List.Sublist.refl _)))
      | (have hnt : takenC zone q a.kind (a.sets.els[i]'hk2).c = false := by
           rw [htk]
           first
             | rw [show (underC (a.sets.els[i]'hk2).set.name zone).1 = false by assumption, Bool.false_and]
             | rw [show rp (a.sets.els[i]'hk2).set.c = false by assumption, Bool.and_false]
         refine N.round (Hk, ys, yv, i + 1) ⟨hlek, by show i + 1 ≤ _; omega, by show ys.length ≤ i + 1; omega, hyg, ?_⟩ (by show a.sets.len - (i + 1) < a.sets.len - i; omega) (by (repeat (first | exact True.intro | refine ⟨rfl, ?_⟩ | refine Sub.int rfl (by omega) ?_))) rfl (List.Sublist.cons _ (List.Sublist.refl _))
         rw [filter_up hci, if_neg (by rw [hnt]; decide), List.append_nil]
         exact hys)
  · have hie : i = a.sets.len := by omega
    subst hie
    apply T.frzRow 0 (els := ys); rfl; rfl; rfl; exact hyg
    intro H3 sl e1 e2 e3 hle3
    subst e1
    repeat (any_goals (first | refine T.seq ?_ | refine T.region ?_ | refine TL.nil ?_ | refine N.next ?_ | refine N.inBlock ?_ | refine N.exit_same ?_ | refine N.exit_then ?_ | refine N.ret_then ?_ | refine N.ret_block ?_ | (apply N.exit_other; rfl) | refine T.ret ?_ | refine T.skip ?_ | refine T.exit ?_ | refine T.block ?_ | (apply T.cond_true; rfl) | (apply T.cond_false; rfl) | (apply T.test; rfl; (with_reducible (first | exact Is.ndec | exact Is.dec | exact Is.not | ((fail_if_success exact Is.litT); (fail_if_success exact Is.litF); exact Is.base))); intro _; rotate_left; intro _; rotate_right) | (apply TL.skip; rfl; rfl; rfl) | (apply TL.skip_none; rfl; rfl) | (apply TL.val; rfl; rfl; (first | exact vpure | exact vread)) | (apply TL.x; rfl; rfl; (first | exact xgrow | exact xput); intro _ _) | (apply TL.guard; rfl; rfl; rfl; (with_reducible (first | exact Is.ndec | exact Is.dec | exact Is.not | ((fail_if_success exact Is.litT); (fail_if_success exact Is.litF); exact Is.base))); intro _; rotate_left; intro _; rotate_right)))
    all_goals (try (exfalso; omega))
    refine N.ret2 rfl (by (exact rvx)) (by (exact rvx)) fun w hst => ⟨(H3, sl), ⟨?_, e3, ?_⟩, rfl, hst.fresh⟩
    · rw [e2, hys, List.take_of_length_le (by show (a.sets.els.map Signed.c).length ≤ _; rw [List.length_map]; omega)]
    · show sl.len ≤ 40
      rw [← e3.len, e2]; omega
end Go.Proofs.YtogcofeencgipaaGreatDoor
