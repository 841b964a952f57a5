/- What comes over the net to a resolver that begins: the plain law of TopDropped. -/
import Derived.Test.YtpnoabbdcakjkaaGreatDoorQSpecF
import Derived.Test.YtpnoabbdcakjkaaGreatDoorQYU
import Derived.Test.YtpnoabbdcakjkaaGreatDoorQQW
import Derived.Test.YtpnoabbdcakjkaaGreatDoorQFG
import Derived.Test.YtpnoabbdcakjkaaGreatDoorQFH
import Derived.Test.YtpnoabbdcakjkaaGreatDoorQFS
import Derived.Test.YtpnoabbdcakjkaaGreatDoorQWQ
import Derived.Test.YtpnoabbdcakjkaaGreatDoorQWR
import Derived.Test.YtpnoabbdcakjkaaGreatDoorQQA
namespace Go.Proofs.YtpnoabbdcakjkaaGreatDoor
set_option linter.unusedVariables false
set_option linter.unusedSimpArgs false
open Go
def ansD (q : MsgC) (a : AnswerC) : MsgC := ⟨2, q.id, q.to, q.frm, q.q, a⟩
theorem begin_casesD (q : Question) (own : Int) (ups : List Int) (id now : Int) : beginC q own ups id now = (fwdNil, msgNil, 1) ∨ (isNow now = true ∧ fwdOK (startC q own ups id now) = true ∧ beginC q own ups id now = (startC q own ups id now, queryOf (startC q own ups id now), 0)) := by
  unfold beginC
  split
  · exact .inl rfl
  · rename_i h
    simp only [Bool.not_eq_true', Bool.not_eq_false, Bool.and_eq_true] at h
    exact .inr ⟨h.1, h.2, rfl⟩
structure DropOK (q : Question) (own : Int) (ups : List Int) (id now : Int) (a : AnswerC) (how : Int) : Prop where
  msg : msgOK (ansD (queryOf (startC q own ups id now)) a) = true
  sent : sendC netNil (ansD (queryOf (startC q own ups id now)) a) now ⟨false, 0, 1, how⟩ = (⟨1, [⟨now, 0, travelsC (ansD (queryOf (startC q own ups id now)) a) how⟩]⟩, 0)
  got : receiveC ⟨1, [⟨now, 0, travelsC (ansD (queryOf (startC q own ups id now)) a) how⟩]⟩ own now = (⟨1, []⟩, [travelsC (ansD (queryOf (startC q own ups id now)) a) how], 0)
  took : takeC (startC q own ups id now) (travelsC (ansD (queryOf (startC q own ups id now)) a) how) now = if how = 0 ∨ how = 3 then ({ startC q own ups id now with done := true, ans := (travelsC (ansD (queryOf (startC q own ups id now)) a) how).ans }, true, 0) else (startC q own ups id now, false, 0)
  third : how = 3 → (travelsC (ansD (queryOf (startC q own ups id now)) a) how).ans = ⟨6, [], []⟩
theorem dropped {q : Question} {own : Int} {ups : List Int} {id now : Int} {a : AnswerC} {how : Int} (hn : isNow now = true) (hf : fwdOK (startC q own ups id now) = true) (ha : answerOK a = true) (hk : a.kind ≠ 7) (hh : 0 ≤ how ∧ how ≤ 3) : DropOK q own ups id now a how := by
  have hn' := hn
  unfold isNow at hn'
  rw [decide_eq_true_iff] at hn'
  have hf' := hf
  rw [fwdOK_iff] at hf'
  obtain ⟨f1, f2, f3, f4, f5, f6, f7, _⟩ := hf'
  have f1 : questionOK q = true := f1
  have f2 : 1 ≤ own ∧ own ≤ 1000000 := f2
  have f7 : 0 ≤ id ∧ id ≤ 65535 := f7
  have hup : (1 ≤ upAt (startC q own ups id now) ∧ upAt (startC q own ups id now) ≤ 1000000) := by
    obtain ⟨u1, u2, _⟩ := (upsOK_iff _ _).1 f3
    have h0 : 0 < ups.length := u1.1
    have he : upAt (startC q own ups id now) = ups[0]'h0 := by
      show ups.getD (0 : Int).toNat 0 = _
      rw [List.getD_eq_getElem?_getD]
      show (ups[0]?).getD 0 = _
      rw [List.getElem?_eq_getElem h0]; rfl
    rw [he]
    exact (u2 _ (List.getElem_mem h0)).1
  generalize hu : upAt (startC q own ups id now) = up at hup
  have hqo : queryOf (startC q own ups id now) = ⟨1, id, own, up, q, ansNil⟩ := by unfold queryOf; rw [hu]; rfl
  have hm : ansD (queryOf (startC q own ups id now)) a = ⟨2, id, up, own, q, a⟩ := by rw [hqo]; rfl
  have hmo : msgOK ⟨2, id, up, own, q, a⟩ = true := by
    rw [msgOK_ands]
    exact ⟨f7, hup, f2, f1, .inr ⟨rfl, ha⟩⟩
  have hqm : msgOK ⟨1, id, own, up, q, ansNil⟩ = true := by
    rw [msgOK_ands]
    exact ⟨f7, f2, hup, f1, .inl ⟨rfl, rfl, rfl, rfl⟩⟩
  have hto : (travelsC ⟨2, id, up, own, q, a⟩ how).to = own := travels_to _ _
  have hmt : msgOK (travelsC ⟨2, id, up, own, q, a⟩ how) = true := msgOK_travels hmo (.inr rfl)
  have hnet : netOK (⟨1, [⟨now, 0, travelsC ⟨2, id, up, own, q, a⟩ how⟩]⟩ : NetC) = true := by
    have ht : transitOK 1 ⟨now, 0, travelsC ⟨2, id, up, own, q, a⟩ how⟩ = true := by
      unfold transitOK
      rw [hmt, decide_eq_true (⟨by omega, by omega⟩ : 0 ≤ now ∧ now ≤ 20000000)]; rfl
    unfold netOK
    simp only [List.all_cons, List.all_nil, ht, chain, nodupI, List.map_cons, List.map_nil, List.length_cons, List.length_nil]
    first | rfl | simp
  have htk : takeC (startC q own ups id now) (travelsC ⟨2, id, up, own, q, a⟩ how) now = if how = 0 ∨ how = 3 then ({ startC q own ups id now with done := true, ans := (travelsC ⟨2, id, up, own, q, a⟩ how).ans }, true, 0) else (startC q own ups id now, false, 0) := by
    unfold takeC
    rw [hf, hmt, hn]
    have hw : waitsC (startC q own ups id now) now = true := by
      show (!false && !false && decide (now < now + 5)) = true
      rw [decide_eq_true (by omega)]; rfl
    have e1 : (id + 1).tmod 65536 ≠ id := by
      rw [Int.tmod_eq_emod_of_nonneg (by omega)]; omega
    have e2 : up.tmod 1000000 + 1 ≠ up := by
      rw [Int.tmod_eq_emod_of_nonneg (by omega)]; omega
    have hmatch : matchOK (queryOf (startC q own ups id now)) (travelsC ⟨2, id, up, own, q, a⟩ how) = decide (how = 0 ∨ how = 3) := by
      rw [hqo]
      unfold matchOK
      rw [hqm, hmt, hto]
      have h4 : how = 0 ∨ how = 1 ∨ how = 2 ∨ how = 3 := by omega
      rcases h4 with rfl | rfl | rfl | rfl
      · simp [travelsC]
      · simp [travelsC]; exact fun h => absurd h.symm e1
      · simp [travelsC]; exact fun h => absurd h.symm e2
      · simp [travelsC]
    rw [hw, hmatch]
    by_cases h : how = 0 ∨ how = 3
    · rw [decide_eq_true h, if_pos h]
      have h7 : (travelsC ⟨2, id, up, own, q, a⟩ how).ans.kind ≠ 7 := by
        rcases h with rfl | rfl
        · exact hk
        · show (6 : Int) ≠ 7; decide
      simp only [Bool.true_and, Bool.not_true, Bool.false_eq_true, if_false]
      rw [if_neg h7]
    · rw [decide_eq_false h, if_neg h]; rfl
  refine ⟨by rw [hm]; exact hmo, ?_, ?_, by rw [hm]; exact htk, ?_⟩
  · rw [hm]
    have hfate : fateOK ⟨false, 0, 1, how⟩ 2 = true := by
      rw [fateOK_iff]
      exact ⟨⟨by show (0 : Int) ≤ 0; decide, by show (0 : Int) ≤ 100000; decide⟩, ⟨by show (1 : Int) ≤ 1; decide, by show (1 : Int) ≤ 8; decide⟩, hh, .inr rfl⟩
    have hn0 : netOK netNil = true := by decide
    unfold sendC
    rw [hn0, hmo, decide_eq_true (⟨by omega, by omega⟩ : 0 ≤ now ∧ now ≤ 20000000), hfate]
    simp only [Bool.true_and, Bool.not_true, Bool.false_eq_true, if_false]
    rw [if_neg (by simp only [netNil]; omega), if_neg (by simp [netNil])]
    show ((⟨0 + 1, [] ++ copiesC _ (now + 0) 0 1 ++ []⟩ : NetC), (0 : Int)) = _
    rw [Int.add_zero]; rfl
  · rw [hm]
    unfold receiveC
    rw [hnet, decide_eq_true f2, decide_eq_true (⟨by omega, by omega⟩ : 0 ≤ now ∧ now ≤ 20000000)]
    have hh1 : hitC own now ⟨now, 0, travelsC ⟨2, id, up, own, q, a⟩ how⟩ = true := by
      unfold hitC
      rw [hto]; simp
    simp only [Bool.true_and, Bool.not_true, Bool.false_eq_true, if_false, List.filter_cons, List.filter_nil, hh1, if_true, List.map_cons, List.map_nil]
  · rintro rfl
    rfl
end Go.Proofs.YtpnoabbdcakjkaaGreatDoor
set_option pp.deepTerms true
set_option pp.maxSteps 10000000
namespace Go.Proofs.YtpnoabbdcakjkaaGreatDoor
set_option linter.unusedVariables false
set_option linter.unusedSimpArgs false
open Go Go.RowKit
open Enc (enc)
set_option maxRecDepth 20000
theorem c_BeginV (q : Question) (own : Int) (l : Slc Int) (id now : Int) {r : FwdC × MsgC × Int} (h : beginC q own l.els id now = r) {H : Hp} {w : World} (hs : Sat H w) (hR : Rules H) (hq : Enc.good H q) (hown : I64 own) (hl : l.Good H) (hid : I64 id) (hnow : I64 now) : Calls Tryz.prog 6 #[.agg (enc q).toArray, intV own, l.v, intV id, intV now] w (Begun w H r) := by
  subst h; exact c_Begin q own l id now H w hs hR hq hown hl hid hnow
theorem c_SendD (n : Net) (m : Msg) (now : Int) (f : FateC) {nc : NetC} {mc : MsgC} {r : NetC × Int} (hn' : n.c = nc) (hm' : m.c = mc) (h : sendC nc mc now f = r) {H : Hp} {w : World} (hs : Sat H w) (hR : Rules H) (hn : Enc.good H n) (hm : Enc.good H m) (hnow : I64 now) (hf : Enc.good H f) : Calls Tryz.prog 7 #[.agg (enc n).toArray, .agg (enc m).toArray, intV now, .agg (enc f).toArray] w (Sent w H r) := by
  subst hn' hm' h; exact c_Send n m now f H w hs hR hn hm hnow hf
theorem c_ReceiveD (n : Net) (addr now : Int) {nc : NetC} {r : NetC × List MsgC × Int} (hn' : n.c = nc) (h : receiveC nc addr now = r) {H : Hp} {w : World} (hs : Sat H w) (hR : Rules H) (hn : Enc.good H n) : Calls Tryz.prog 8 #[.agg (enc n).toArray, intV addr, intV now] w (Got w H r) := by
  subst hn' h; exact c_Receive n addr now H w hs hR hn
theorem c_TakeD (f : Fwd) (m : Msg) (now : Int) {fc : FwdC} {mc : MsgC} {r : FwdC × Bool × Int} (hf' : f.c = fc) (hm' : m.c = mc) (h : takeC fc mc now = r) {H : Hp} {w : World} (hs : Sat H w) (hR : Rules H) (hf : Enc.good H f) (hm : Enc.good H m) (hnow : I64 now) : Calls Tryz.prog 9 #[.agg (enc f).toArray, .agg (enc m).toArray, intV now] w (Taken w H r) := by
  subst hf' hm' h; exact c_Take f m now H w hs hR hf hm hnow
theorem filter_third {zone : Bytes} {q : Question} : (filterF zone q ⟨6, [], []⟩).1 = [] ∧ ((filterF zone q ⟨6, [], []⟩).2 = 0 ∨ (filterF zone q ⟨6, [], []⟩).2 = 1) := by
  unfold filterF
  split
  · exact ⟨rfl, .inr rfl⟩
  · split
    · exact ⟨rfl, .inl rfl⟩
    · exact ⟨rfl, .inl rfl⟩
theorem one_msg {l : Slc Msg} {H : Hp} {m : MsgC} (h : l.els.map Msg.c = [m]) (hg : l.Good H) : l.len = 1 ∧ ∃ h0 : 0 < l.els.length, (l.els[0]'h0).c = m ∧ Enc.good H (l.els[0]'h0) := by
  have h1 := hg.len
  have h2 : l.els.length = 1 := by rw [← List.length_map Msg.c, h]; rfl
  have h0 : 0 < l.els.length := by omega
  refine ⟨by omega, h0, ?_, hg.els _ (List.getElem_mem h0)⟩
  have h3 : (l.els.map Msg.c)[0]? = some m := by rw [h]; rfl
  rw [List.getElem?_map, List.getElem?_eq_getElem h0] at h3
  exact Option.some.inj h3
theorem V.bneqE {P : Program} {n : FK} {S : World → Prop} {env : List (Nat × Value)} {t u : TypeId} {x y : Operand} {i j m : Bool} (hk : P.underlying t = some .bool) (hx : ev env x = some (.bool i)) (hy : ev env y = some (.bool j)) (h : (!(i == j)) = m) : V P n S env (.binOp .neq t x y u) (.bool m) := h ▸ V.bneq hk hx hy
theorem c_WhenT {x : Int} (h : whenOK x 0 = true) {H : Hp} {w : World} (hs : Sat H w) : Calls Tryz.prog 13 #[intV x, intV 0] w (Ret w (.bool true)) := h ▸ c_When x 0 H w hs
set_option maxHeartbeats 16000000 in
theorem c_TopDropped (q : Question) (own : Int) (ups : Slc Int) (id now : Int) (a : Answer) (forge : Int) (zone : Bytes) (H : Hp) (w : World) (hs : Sat H w) (hR : Rules H) (hq : Enc.good H q) (hown : I64 own) (hu : ups.Good H) (hid : I64 id) (hnow : I64 now) (ha : Enc.good H a) (hfo : 0 ≤ forge ∧ forge ≤ 255) (hz : LenOk zone) : Calls Tryz.prog 3 #[.agg (enc q).toArray, intV own, ups.v, intV id, intV now, .agg (enc a).toArray, .int .u8 forge, strV zone] w (Ret w (.bool true)) := by
  have hul := hu.len
  have hum := hu.lim
  have hal := ha.2.1.len
  have ham := ha.2.1.lim
  refine T.enter (vs := [.agg (enc q).toArray, intV own, ups.v, intV id, intV now, .agg (enc a).toArray, .int .u8 forge, strV zone]) (H := H) Tryz.func3 rfl rfl rfl hs ?_
  cases hv : answerOK a.c with
  | false =>
    repeat (any_goals (first | refine T.seq ?_ | refine T.region ?_ | (apply T.regionD wide; rfl) | refine TL.nil ?_ | refine N.next ?_ | refine N.inBlock ?_ | refine N.exit_same ?_ | refine N.exit_then ?_ | refine N.ret_then ?_ | refine N.ret_block ?_ | (apply N.exit_other; rfl) | refine T.ret ?_ | refine T.skip ?_ | refine T.exit ?_ | refine T.block ?_ | (apply T.cond_true; rfl) | (apply T.cond_false; rfl) | (apply T.test; rfl; (exact isx); intro _; rotate_left; intro _; rotate_right) | (apply TL.skip; rfl; rfl; rfl) | (apply TL.skip_none; rfl; rfl) | (apply GT.skip; rfl; rfl; rfl; decide +kernel) | (apply TL.x; rfl; rfl; (apply X.box (d := 8); rfl; rfl; rfl); intro b8 _) | (apply TL.x; rfl; rfl; (apply X.box (d := 13); rfl; rfl; rfl); intro b13 _) | (apply TL.callE (f := 4) [] Tryz.call4; (iterate 4 rfl); (exact fun _ hs => c_r14Trusts hs.sat hR)) | (apply GT.callE (f := 4) [] Tryz.call4; (iterate 6 rfl); (exact fun _ hs => c_r14Trusts hs.sat hR); decide +kernel) | (apply TL.callE (f := 5) [.agg (enc a).toArray] Tryz.call5; (iterate 4 rfl); (exact fun _ hs => hv ▸ c_Answer26 a _ _ hs.sat ha)) | (apply GT.callE (f := 5) [.agg (enc a).toArray] Tryz.call5; (iterate 6 rfl); (exact fun _ hs => hv ▸ c_Answer26 a _ _ hs.sat ha); decide +kernel) | (apply TL.val; rfl; rfl; (first | exact vpure | exact vread)) | (apply GT.pure; (iterate 4 rfl); (first | exact vpure); decide +kernel) | (apply GT.read; (iterate 4 rfl); (first | exact vpure | exact vread); decide +kernel) | (apply GT.done; decide +kernel; apply N.ofQ) | (apply GT.adv; rfl) | (apply TL.x; rfl; rfl; (first | exact xgrow | exact xput); intro _ _) | (apply GS.grow; rfl; rfl; (first | exact xgrow); intro _ _) | (apply GS.eff; rfl; decide +kernel; rfl; (first | exact xput); intro _ _) | (apply TL.guard; rfl; rfl; rfl; (exact isx); intro _; rotate_left; intro _; rotate_right) | (apply GT.guard; (iterate 4 rfl); (exact isx); intro _; rotate_left; intro _; rotate_right) | (apply GT.fork1; decide +kernel) | (apply GT.fork2 1; decide +kernel) | (apply GT.fork2 2; decide +kernel) | (apply GT.fork2 3; decide +kernel) | (apply GT.fork2 4; decide +kernel) | (apply GT.fork2 5; decide +kernel) | (apply GT.fork2 6; decide +kernel) | (apply GT.fork2 7; decide +kernel) | (apply GT.fork2 8; decide +kernel) | (apply GT.fork2 9; decide +kernel) | (apply GT.fork2 10; decide +kernel) | (apply GT.fork2 11; decide +kernel) | (apply GT.fork2 12; decide +kernel) | (apply GT.fork2 13; decide +kernel) | (apply GT.fork2 14; decide +kernel)))
    all_goals (try contradiction)
    all_goals exact N.ret_bool rfl (by (exact rvx)) rfl
  | true =>
  by_cases hpre : ups.len ≤ 20 ∧ a.sets.len ≤ 40 ∧ a.kind ≠ 7
  rotate_left
  · repeat (any_goals (first | refine T.seq ?_ | refine T.region ?_ | (apply T.regionD wide; rfl) | refine TL.nil ?_ | refine N.next ?_ | refine N.inBlock ?_ | refine N.exit_same ?_ | refine N.exit_then ?_ | refine N.ret_then ?_ | refine N.ret_block ?_ | (apply N.exit_other; rfl) | refine T.ret ?_ | refine T.skip ?_ | refine T.exit ?_ | refine T.block ?_ | (apply T.cond_true; rfl) | (apply T.cond_false; rfl) | (apply T.test; rfl; (exact isx); intro _; rotate_left; intro _; rotate_right) | (apply TL.skip; rfl; rfl; rfl) | (apply TL.skip_none; rfl; rfl) | (apply GT.skip; rfl; rfl; rfl; decide +kernel) | (apply TL.x; rfl; rfl; (apply X.box (d := 8); rfl; rfl; rfl); intro b8 _) | (apply TL.x; rfl; rfl; (apply X.box (d := 13); rfl; rfl; rfl); intro b13 _) | (apply TL.callE (f := 4) [] Tryz.call4; (iterate 4 rfl); (exact fun _ hs => c_r14Trusts hs.sat hR)) | (apply GT.callE (f := 4) [] Tryz.call4; (iterate 6 rfl); (exact fun _ hs => c_r14Trusts hs.sat hR); decide +kernel) | (apply TL.callE (f := 5) [.agg (enc a).toArray] Tryz.call5; (iterate 4 rfl); (exact fun _ hs => hv ▸ c_Answer26 a _ _ hs.sat ha)) | (apply GT.callE (f := 5) [.agg (enc a).toArray] Tryz.call5; (iterate 6 rfl); (exact fun _ hs => hv ▸ c_Answer26 a _ _ hs.sat ha); decide +kernel) | (apply TL.x; rfl; rfl; (apply X.callFE (f := 6) [.agg (enc q).toArray, intV own, ups.v, intV id, intV now] Tryz.call6; rfl; rfl; rfl; exact (fun _ hs => c_Begin q own ups id now _ _ hs.sat hR hq hown hu hid hnow)); exfalso; omega) | (apply TL.val; rfl; rfl; (first | exact vpure | exact vread)) | (apply GT.pure; (iterate 4 rfl); (first | exact vpure); decide +kernel) | (apply GT.read; (iterate 4 rfl); (first | exact vpure | exact vread); decide +kernel) | (apply GT.done; decide +kernel; apply N.ofQ) | (apply GT.adv; rfl) | (apply TL.x; rfl; rfl; (first | exact xgrow | exact xput); intro _ _) | (apply GS.grow; rfl; rfl; (first | exact xgrow); intro _ _) | (apply GS.eff; rfl; decide +kernel; rfl; (first | exact xput); intro _ _) | (apply TL.guard; rfl; rfl; rfl; (exact isx); intro _; rotate_left; intro _; rotate_right) | (apply GT.guard; (iterate 4 rfl); (exact isx); intro _; rotate_left; intro _; rotate_right) | (apply GT.fork1; decide +kernel) | (apply GT.fork2 1; decide +kernel) | (apply GT.fork2 2; decide +kernel) | (apply GT.fork2 3; decide +kernel) | (apply GT.fork2 4; decide +kernel) | (apply GT.fork2 5; decide +kernel) | (apply GT.fork2 6; decide +kernel) | (apply GT.fork2 7; decide +kernel) | (apply GT.fork2 8; decide +kernel) | (apply GT.fork2 9; decide +kernel) | (apply GT.fork2 10; decide +kernel) | (apply GT.fork2 11; decide +kernel) | (apply GT.fork2 12; decide +kernel) | (apply GT.fork2 13; decide +kernel) | (apply GT.fork2 14; decide +kernel)))
    all_goals (try contradiction)
    all_goals first
      | exact N.ret_bool rfl (by (exact rvx)) rfl
      | (exfalso; omega)
  obtain ⟨hp1, hp2, hp3⟩ := hpre
  rcases begin_casesD q own ups.els id now with hb | ⟨hn, hf, hb⟩
  · repeat (any_goals (first | refine T.seq ?_ | refine T.region ?_ | (apply T.regionD wide; rfl) | refine TL.nil ?_ | refine N.next ?_ | refine N.inBlock ?_ | refine N.exit_same ?_ | refine N.exit_then ?_ | refine N.ret_then ?_ | refine N.ret_block ?_ | (apply N.exit_other; rfl) | refine T.ret ?_ | refine T.skip ?_ | refine T.exit ?_ | refine T.block ?_ | (apply T.cond_true; rfl) | (apply T.cond_false; rfl) | (apply T.test; rfl; (exact isx); intro _; rotate_left; intro _; rotate_right) | (apply TL.skip; rfl; rfl; rfl) | (apply TL.skip_none; rfl; rfl) | (apply GT.skip; rfl; rfl; rfl; decide +kernel) | (apply TL.x; rfl; rfl; (apply X.box (d := 8); rfl; rfl; rfl); intro b8 _) | (apply TL.x; rfl; rfl; (apply X.box (d := 13); rfl; rfl; rfl); intro b13 _) | (apply TL.callE (f := 4) [] Tryz.call4; (iterate 4 rfl); (exact fun _ hs => c_r14Trusts hs.sat hR)) | (apply GT.callE (f := 4) [] Tryz.call4; (iterate 6 rfl); (exact fun _ hs => c_r14Trusts hs.sat hR); decide +kernel) | (apply TL.callE (f := 5) [.agg (enc a).toArray] Tryz.call5; (iterate 4 rfl); (exact fun _ hs => hv ▸ c_Answer26 a _ _ hs.sat ha)) | (apply GT.callE (f := 5) [.agg (enc a).toArray] Tryz.call5; (iterate 6 rfl); (exact fun _ hs => hv ▸ c_Answer26 a _ _ hs.sat ha); decide +kernel) | (apply TL.x; rfl; rfl; (apply X.callFE (f := 6) [.agg (enc q).toArray, intV own, ups.v, intV id, intV now] Tryz.call6; rfl; rfl; rfl; exact (fun _ hs => c_BeginV q own ups id now hb hs.sat hR hq hown hu hid hnow)); intro p hp) | (apply TL.x; rfl; rfl; (apply X.alloc (d := 18); rfl; rfl; rfl); intro b18 _) | (apply TL.x; rfl; rfl; (apply X.alloc (d := 19); rfl; rfl; rfl); intro b19 _) | (apply TL.x; rfl; rfl; (apply X.storeTo 1 (enc p.2.1); (iterate 10 rfl)); intro _ _) | (apply GS.eff; rfl; decide +kernel; rfl; (apply X.storeTo 1 (enc p.2.1); (iterate 10 rfl)); intro _ _) | (apply TL.x; rfl; rfl; (apply X.storeTo 0 (enc p.2.2); (iterate 10 rfl)); intro _ _) | (apply GS.eff; rfl; decide +kernel; rfl; (apply X.storeTo 0 (enc p.2.2); (iterate 10 rfl)); intro _ _) | (apply TL.val; rfl; rfl; (first | exact vpure | exact vread)) | (apply GT.pure; (iterate 4 rfl); (first | exact vpure); decide +kernel) | (apply GT.read; (iterate 4 rfl); (first | exact vpure | exact vread); decide +kernel) | (apply GT.done; decide +kernel; apply N.ofQ) | (apply GT.adv; rfl) | (apply TL.x; rfl; rfl; (first | exact xgrow | exact xput); intro _ _) | (apply GS.grow; rfl; rfl; (first | exact xgrow); intro _ _) | (apply GS.eff; rfl; decide +kernel; rfl; (first | exact xput); intro _ _) | (apply TL.guard; rfl; rfl; rfl; (exact isx); intro _; rotate_left; intro _; rotate_right) | (apply GT.guard; (iterate 4 rfl); (exact isx); intro _; rotate_left; intro _; rotate_right) | (apply GT.fork1; decide +kernel) | (apply GT.fork2 1; decide +kernel) | (apply GT.fork2 2; decide +kernel) | (apply GT.fork2 3; decide +kernel) | (apply GT.fork2 4; decide +kernel) | (apply GT.fork2 5; decide +kernel) | (apply GT.fork2 6; decide +kernel) | (apply GT.fork2 7; decide +kernel) | (apply GT.fork2 8; decide +kernel) | (apply GT.fork2 9; decide +kernel) | (apply GT.fork2 10; decide +kernel) | (apply GT.fork2 11; decide +kernel) | (apply GT.fork2 12; decide +kernel) | (apply GT.fork2 13; decide +kernel) | (apply GT.fork2 14; decide +kernel)))
    all_goals (try contradiction)
    all_goals (try (exfalso; omega))
    all_goals exact N.ret_bool rfl (by (exact rvx)) rfl
  obtain ⟨how, hhow, hh⟩ : ∃ how, forge.tmod 4 = how ∧ (0 ≤ how ∧ how ≤ 3) := by
    refine ⟨_, rfl, ?_⟩
    rw [Int.tmod_eq_emod_of_nonneg hfo.1]
    omega
  have hD := dropped hn hf hv hp3 hh
  obtain ⟨d1, d2, d3, d4, d5⟩ := hD
  have hf0 : ∀ {f : Fwd} {m : Msg}, f.c = startC q own ups.els id now → m.c = queryOf (startC q own ups.els id now) → ∀ {b : Msg}, b = (⟨2, m.id, m.to, m.frm, m.q, a⟩ : Msg) → b.c = ansD (queryOf (startC q own ups.els id now)) a.c := fun _ hm _ hb => by
    rw [hb, ← hm]; rfl
  obtain ⟨tm, htm⟩ : ∃ tm, travelsC (ansD (queryOf (startC q own ups.els id now)) a.c) how = tm := ⟨_, rfl⟩
  rw [htm] at d2 d3 d4 d5
  have htk : ∃ fc tk, takeC (startC q own ups.els id now) tm now = (fc, tk, 0) ∧ ((tk = true ∧ (how = 0 ∨ how = 3) ∧ fc = { startC q own ups.els id now with done := true, ans := tm.ans }) ∨ (tk = false ∧ ¬ (how = 0 ∨ how = 3) ∧ fc = startC q own ups.els id now)) := by
    by_cases h03 : how = 0 ∨ how = 3
    · rw [if_pos h03] at d4; exact ⟨_, _, d4, .inl ⟨rfl, h03, rfl⟩⟩
    · rw [if_neg h03] at d4; exact ⟨_, _, d4, .inr ⟨rfl, h03, rfl⟩⟩
  obtain ⟨fc, tk, htk1, htk2⟩ := htk
  -- Begin, Send, Receive
  repeat (any_goals (first | (apply T.seqU 14; rfl) | refine T.region ?_ | (apply T.regionD wide; rfl) | refine TL.nil ?_ | refine N.next ?_ | refine N.inBlock ?_ | refine N.exit_same ?_ | refine N.exit_then ?_ | refine N.ret_then ?_ | refine N.ret_block ?_ | (apply N.exit_other; rfl) | refine T.ret ?_ | refine T.skip ?_ | refine T.exit ?_ | refine T.block ?_ | (apply T.cond_true; rfl) | (apply T.cond_false; rfl) | (apply T.test; rfl; (exact isx); intro _; rotate_left; intro _; rotate_right) | (apply TL.skip; rfl; rfl; rfl) | (apply TL.skip_none; rfl; rfl) | (apply GT.skip; rfl; rfl; rfl; decide +kernel) | (apply TL.x; rfl; rfl; (apply X.box (d := 8); rfl; rfl; rfl); intro b8 _) | (apply TL.x; rfl; rfl; (apply X.box (d := 13); rfl; rfl; rfl); intro b13 _) | (apply TL.callE (f := 4) [] Tryz.call4; (iterate 4 rfl); (exact fun _ hs => c_r14Trusts hs.sat hR)) | (apply GT.callE (f := 4) [] Tryz.call4; (iterate 6 rfl); (exact fun _ hs => c_r14Trusts hs.sat hR); decide +kernel) | (apply TL.callE (f := 5) [.agg (enc a).toArray] Tryz.call5; (iterate 4 rfl); (exact fun _ hs => hv ▸ c_Answer26 a _ _ hs.sat ha)) | (apply GT.callE (f := 5) [.agg (enc a).toArray] Tryz.call5; (iterate 6 rfl); (exact fun _ hs => hv ▸ c_Answer26 a _ _ hs.sat ha); decide +kernel) | (apply TL.x; rfl; rfl; (apply X.callFE (f := 6) [.agg (enc q).toArray, intV own, ups.v, intV id, intV now] Tryz.call6; rfl; rfl; rfl; exact (fun _ hs => c_BeginV q own ups id now hb hs.sat hR hq hown hu hid hnow)); intro p hp; obtain ⟨⟨⟨hp4, hp5⟩, hp6, hp7⟩, hp8⟩ := hp; have hR := hR.mono hp8; have ha := Enc.mono hp8 ha; have hq := Enc.mono hp8 hq; simp only at hp4 hp5; have hg : Enc.good p.1 (⟨2, p.2.2.id, p.2.2.to, p.2.2.frm, p.2.2.q, a⟩ : Msg) := ⟨by show I64 2; decide, hp7.2.1, hp7.2.2.2.1, hp7.2.2.1, hp7.2.2.2.2.1, ha⟩; have hmc := hf0 hp4 hp5 (b := ⟨2, p.2.2.id, p.2.2.to, p.2.2.frm, p.2.2.q, a⟩) rfl) | (apply TL.x; rfl; rfl; (apply X.alloc (d := 18); rfl; rfl; rfl); intro b18 _) | (apply TL.x; rfl; rfl; (apply X.alloc (d := 19); rfl; rfl; rfl); intro b19 _) | (apply TL.x; rfl; rfl; (apply X.alloc (d := 21); rfl; rfl; rfl); intro b21 _) | (apply TL.x; rfl; rfl; (apply X.alloc (d := 23); rfl; rfl; rfl); intro b23 _) | (apply TL.x; rfl; rfl; (apply X.storeTo 1 (enc p.2.1); (iterate 10 rfl)); intro _ _) | (apply GS.eff; rfl; decide +kernel; rfl; (apply X.storeTo 1 (enc p.2.1); (iterate 10 rfl)); intro _ _) | (apply TL.x; rfl; rfl; (apply X.storeTo 0 (enc p.2.2); (iterate 10 rfl)); intro _ _) | (apply GS.eff; rfl; decide +kernel; rfl; (apply X.storeTo 0 (enc p.2.2); (iterate 10 rfl)); intro _ _) | (apply TL.val; rfl; rfl; (apply V.build; (iterate 6 rfl))) | (apply GT.pure; (iterate 4 rfl); (apply V.build; (iterate 6 rfl)); decide +kernel) | (apply GT.read; (iterate 4 rfl); (apply V.build; (iterate 6 rfl)); decide +kernel) | (apply TL.x; rfl; rfl; (apply X.storeTo 0 (enc (⟨2, p.2.2.id, p.2.2.to, p.2.2.frm, p.2.2.q, a⟩ : Msg)); (iterate 10 rfl)); intro _ _) | (apply GS.eff; rfl; decide +kernel; rfl; (apply X.storeTo 0 (enc (⟨2, p.2.2.id, p.2.2.to, p.2.2.frm, p.2.2.q, a⟩ : Msg)); (iterate 10 rfl)); intro _ _) | (apply TL.val; rfl; rfl; (apply V.conv; (iterate 4 rfl); exact IntWalk.i64_in _ (by omega))) | (apply GT.pure; (iterate 4 rfl); (apply V.conv; (iterate 4 rfl); exact IntWalk.i64_in _ (by omega)); decide +kernel) | (apply GT.read; (iterate 4 rfl); (apply V.conv; (iterate 4 rfl); exact IntWalk.i64_in _ (by omega)); decide +kernel) | (apply TL.val; rfl; rfl; (apply V.remE hhow; rfl; rfl; decide)) | (apply GT.pure; (iterate 4 rfl); (apply V.remE hhow; rfl; rfl; decide); decide +kernel) | (apply GT.read; (iterate 4 rfl); (apply V.remE hhow; rfl; rfl; decide); decide +kernel) | (apply TL.x; rfl; rfl; (apply X.callFE (f := 7) [.agg (enc (⟨0, Slc.nil _⟩ : Net)).toArray, .agg (enc (⟨2, p.2.2.id, p.2.2.to, p.2.2.frm, p.2.2.q, a⟩ : Msg)).toArray, intV now, .agg (enc (⟨false, 0, 1, how⟩ : FateC)).toArray] Tryz.call7; rfl; rfl; rfl; exact (fun _ hs => c_SendD ⟨0, Slc.nil _⟩ _ now ⟨false, 0, 1, how⟩ rfl hmc d2 hs.sat hR ⟨by show I64 0; decide, Slc.nil_good⟩ hg hnow ⟨by show I64 0; decide, by show I64 1; decide, (show I64 how from ⟨by omega, by omega⟩)⟩)); intro n hn; obtain ⟨⟨hn1, hn2⟩, hn3⟩ := hn; have hR := hR.mono hn3; simp only at hn1) | (apply TL.x; rfl; rfl; (apply X.storeTo 0 (enc n.2); (iterate 10 rfl)); intro _ _) | (apply GS.eff; rfl; decide +kernel; rfl; (apply X.storeTo 0 (enc n.2); (iterate 10 rfl)); intro _ _) | (apply TL.x; rfl; rfl; (apply X.callFE (f := 8) [.agg (enc n.2).toArray, intV own, intV now] Tryz.call8; rfl; rfl; rfl; exact (fun _ hs => c_ReceiveD n.2 own now hn1 d3 hs.sat hR hn2)); intro g hg; obtain ⟨⟨hg1, hg2, hg3, hg4⟩, hg5⟩ := hg; have hR := hR.mono hg5; obtain ⟨hl1, h0, hx0, hxg⟩ := one_msg hg2 hg4) | (apply TL.x; rfl; rfl; (apply X.alloc (d := 25); rfl; rfl; rfl); intro b25 _) | (apply TL.x; rfl; rfl; (apply X.storeTo 0 (enc g.2.1); (iterate 10 rfl)); intro _ _) | (apply GS.eff; rfl; decide +kernel; rfl; (apply X.storeTo 0 (enc g.2.1); (iterate 10 rfl)); intro _ _) | (apply TL.val; rfl; rfl; (apply V.neqF; rfl; rfl)) | (apply GT.pure; (iterate 4 rfl); (apply V.neqF; rfl; rfl); decide +kernel) | (apply GT.read; (iterate 4 rfl); (apply V.neqF; rfl; rfl); decide +kernel) | (apply TL.val; rfl; rfl; (apply V.neqE (show ((g.2.2.len : Nat) : Int) = 1 by rw [hl1]; rfl); rfl; rfl)) | (apply GT.pure; (iterate 4 rfl); (apply V.neqE (show ((g.2.2.len : Nat) : Int) = 1 by rw [hl1]; rfl); rfl; rfl); decide +kernel) | (apply GT.read; (iterate 4 rfl); (apply V.neqE (show ((g.2.2.len : Nat) : Int) = 1 by rw [hl1]; rfl); rfl; rfl); decide +kernel) | (apply TL.val; rfl; rfl; (first | exact vpure | exact vread)) | (apply GT.pure; (iterate 4 rfl); (first | exact vpure); decide +kernel) | (apply GT.read; (iterate 4 rfl); (first | exact vpure | exact vread); decide +kernel) | (apply GT.done; decide +kernel; apply N.ofQ) | (apply GT.adv; rfl) | (apply TL.x; rfl; rfl; (first | exact xgrow | exact xput); intro _ _) | (apply GS.grow; rfl; rfl; (first | exact xgrow); intro _ _) | (apply GS.eff; rfl; decide +kernel; rfl; (first | exact xput); intro _ _) | (apply TL.guard; rfl; rfl; rfl; (exact isx); intro _; rotate_left; intro _; rotate_right) | (apply GT.guard; (iterate 4 rfl); (exact isx); intro _; rotate_left; intro _; rotate_right) | (apply GT.fork1; decide +kernel) | (apply GT.fork2 1; decide +kernel) | (apply GT.fork2 2; decide +kernel) | (apply GT.fork2 3; decide +kernel) | (apply GT.fork2 4; decide +kernel) | (apply GT.fork2 5; decide +kernel) | (apply GT.fork2 6; decide +kernel) | (apply GT.fork2 7; decide +kernel) | (apply GT.fork2 8; decide +kernel) | (apply GT.fork2 9; decide +kernel) | (apply GT.fork2 10; decide +kernel) | (apply GT.fork2 11; decide +kernel) | (apply GT.fork2 12; decide +kernel) | (apply GT.fork2 13; decide +kernel) | (apply GT.fork2 14; decide +kernel)))
  all_goals (try contradiction)
  all_goals (try (exfalso; omega))
  have hpf : Enc.good g.1 p.2.1 := Enc.mono (hn3.trans hg5) hp6
  have hqg : Enc.good g.1 q := Enc.mono (hn3.trans hg5) hq
  have hlen0 : 0 < g.2.2.len := by omega
  obtain ⟨x0, hx0e⟩ : ∃ x0, x0 = g.2.2.els[0]'h0 := ⟨_, rfl⟩
  have hrow := hg4.row (k := 0) hlen0
  have hans := hg4.part (k := 0) (j := 6) (m := 3) hlen0 (vs := enc (g.2.2.els[0]'h0).ans) rfl
  rw [← hx0e] at hx0 hxg hrow hans
  refine T.cut (G := Hp × Fwd × Nat) (fun u => [(4, intV now), (7, strV zone), (8, .pointer (some ⟨b8, 0, none⟩)), (17, .bool true), (18, .pointer (some ⟨b18, 0, none⟩)), (22, intV how), (26, g.2.2.v), (28, .pointer (some ⟨u.2.2, 0, none⟩)), (29, .bool tk), (30, intV 0)]) (fun u => u.1) (fun u => [.blk u.2.2 31 (enc u.2.1), .blk b18 31 (enc p.2.1), .blk b8 23 (enc q)]) (fun u => g.1.le u.1 ∧ u.2.1.c = fc ∧ Enc.good u.1 u.2.1) ?_ ?_
  · repeat (any_goals (first | refine T.seq ?_ | refine T.region ?_ | (apply T.regionD wide; rfl) | refine TL.nil ?_ | refine N.next ?_ | refine N.inBlock ?_ | refine N.exit_same ?_ | refine N.exit_then ?_ | refine N.ret_then ?_ | refine N.ret_block ?_ | (apply N.exit_other; rfl) | refine T.ret ?_ | refine T.skip ?_ | refine T.exit ?_ | refine T.block ?_ | (apply T.cond_true; rfl) | (apply T.cond_false; rfl) | (apply T.test; rfl; (exact isx); intro _; rotate_left; intro _; rotate_right) | (apply TL.skip; rfl; rfl; rfl) | (apply TL.skip_none; rfl; rfl) | (apply GT.skip; rfl; rfl; rfl; decide +kernel) | (apply TL.val; rfl; rfl; (apply V.elem (j := 0); (iterate 6 rfl); exact hlen0; exact hg4.at_ hlen0)) | (apply GT.pure; (iterate 4 rfl); (apply V.elem (j := 0); (iterate 6 rfl); exact hlen0; exact hg4.at_ hlen0); decide +kernel) | (apply GT.read; (iterate 4 rfl); (apply V.elem (j := 0); (iterate 6 rfl); exact hlen0; exact hg4.at_ hlen0); decide +kernel) | (apply GT.pureAt 2; (iterate 4 rfl); (apply V.elem (j := 0); (iterate 6 rfl); exact hlen0; exact hg4.at_ hlen0); decide +kernel) | (apply GT.readAt 2; (iterate 4 rfl); (apply V.elem (j := 0); (iterate 6 rfl); exact hlen0; exact hg4.at_ hlen0); decide +kernel) | (apply TL.val; rfl; rfl; (apply V.load_H_row; rfl; rfl; rfl; exact hrow; rfl)) | (apply GT.pure; (iterate 4 rfl); (apply V.load_H_row; rfl; rfl; rfl; exact hrow; rfl); decide +kernel) | (apply GT.read; (iterate 4 rfl); (apply V.load_H_row; rfl; rfl; rfl; exact hrow; rfl); decide +kernel) | (apply GT.pureAt 3; (iterate 4 rfl); (apply V.load_H_row; rfl; rfl; rfl; exact hrow; rfl); decide +kernel) | (apply GT.readAt 3; (iterate 4 rfl); (apply V.load_H_row; rfl; rfl; rfl; exact hrow; rfl); decide +kernel) | (apply GS.grow; rfl; rfl; (apply X.callFE (f := 9) [.agg (enc p.2.1).toArray, .agg (enc x0).toArray, intV now] Tryz.call9; rfl; rfl; rfl; exact (fun _ hs => c_TakeD p.2.1 x0 now hp4 hx0 htk1 hs.sat hR hpf hxg hnow)); intro u hu) | (apply GS.grow; rfl; rfl; (apply X.alloc (d := 28); rfl; rfl; rfl); intro b28 _) | (apply TL.x; rfl; rfl; (apply X.storeTo 0 (enc u.2); (iterate 10 rfl)); intro _ _) | (apply GS.eff; rfl; decide +kernel; rfl; (apply X.storeTo 0 (enc u.2); (iterate 10 rfl)); intro _ _) | (apply TL.val; rfl; rfl; (first | exact vpure | exact vread)) | (apply GT.pure; (iterate 4 rfl); (first | exact vpure); decide +kernel) | (apply GT.read; (iterate 4 rfl); (first | exact vpure | exact vread); decide +kernel) | (apply GT.done; decide +kernel; apply N.ofQ) | (apply GT.adv; rfl) | (apply TL.x; rfl; rfl; (first | exact xgrow | exact xput); intro _ _) | (apply GS.grow; rfl; rfl; (first | exact xgrow); intro _ _) | (apply GS.eff; rfl; decide +kernel; rfl; (first | exact xput); intro _ _) | (apply GT.pureAt 1; (iterate 4 rfl); (first | exact vpure); decide +kernel) | (apply GT.readAt 1; (iterate 4 rfl); (first | exact vpure | exact vread); decide +kernel) | (apply GT.pureAt 2; (iterate 4 rfl); (first | exact vpure); decide +kernel) | (apply GT.readAt 2; (iterate 4 rfl); (first | exact vpure | exact vread); decide +kernel) | (apply GT.pureAt 3; (iterate 4 rfl); (first | exact vpure); decide +kernel) | (apply GT.readAt 3; (iterate 4 rfl); (first | exact vpure | exact vread); decide +kernel) | (apply GT.pureAt 4; (iterate 4 rfl); (first | exact vpure); decide +kernel) | (apply GT.readAt 4; (iterate 4 rfl); (first | exact vpure | exact vread); decide +kernel) | (apply GT.pureAt 5; (iterate 4 rfl); (first | exact vpure); decide +kernel) | (apply GT.readAt 5; (iterate 4 rfl); (first | exact vpure | exact vread); decide +kernel) | (apply GT.pureAt 6; (iterate 4 rfl); (first | exact vpure); decide +kernel) | (apply GT.readAt 6; (iterate 4 rfl); (first | exact vpure | exact vread); decide +kernel) | (apply GT.pureAt 7; (iterate 4 rfl); (first | exact vpure); decide +kernel) | (apply GT.readAt 7; (iterate 4 rfl); (first | exact vpure | exact vread); decide +kernel) | (apply GT.pureAt 8; (iterate 4 rfl); (first | exact vpure); decide +kernel) | (apply GT.readAt 8; (iterate 4 rfl); (first | exact vpure | exact vread); decide +kernel) | (apply GT.pureAt 9; (iterate 4 rfl); (first | exact vpure); decide +kernel) | (apply GT.readAt 9; (iterate 4 rfl); (first | exact vpure | exact vread); decide +kernel) | (apply GT.pureAt 10; (iterate 4 rfl); (first | exact vpure); decide +kernel) | (apply GT.readAt 10; (iterate 4 rfl); (first | exact vpure | exact vread); decide +kernel) | (apply GT.pureAt 11; (iterate 4 rfl); (first | exact vpure); decide +kernel) | (apply GT.readAt 11; (iterate 4 rfl); (first | exact vpure | exact vread); decide +kernel) | (apply GT.pureAt 12; (iterate 4 rfl); (first | exact vpure); decide +kernel) | (apply GT.readAt 12; (iterate 4 rfl); (first | exact vpure | exact vread); decide +kernel) | (apply TL.guard; rfl; rfl; rfl; (exact isx); intro _; rotate_left; intro _; rotate_right) | (apply GT.guard; (iterate 4 rfl); (exact isx); intro _; rotate_left; intro _; rotate_right) | (apply GT.fork1; decide +kernel) | (apply GT.fork2 1; decide +kernel) | (apply GT.fork2 2; decide +kernel) | (apply GT.fork2 3; decide +kernel) | (apply GT.fork2 4; decide +kernel) | (apply GT.fork2 5; decide +kernel) | (apply GT.fork2 6; decide +kernel) | (apply GT.fork2 7; decide +kernel) | (apply GT.fork2 8; decide +kernel) | (apply GT.fork2 9; decide +kernel) | (apply GT.fork2 10; decide +kernel) | (apply GT.fork2 11; decide +kernel) | (apply GT.fork2 12; decide +kernel) | (apply GT.fork2 13; decide +kernel) | (apply GT.fork2 14; decide +kernel)))
    all_goals exact N.cut (u.1, u.2, b28) ⟨hu.2, hu.1.1, hu.1.2⟩ (by (repeat (first | exact True.intro | refine ⟨rfl, ?_⟩ | refine Sub.int rfl (by omega) ?_))) rfl (by (repeat (first | exact List.Sublist.refl _ | exact List.nil_sublist _ | apply List.Sublist.cons_cons | apply List.Sublist.cons)))
  rintro ⟨H9, x, b28⟩ ⟨hle9, hxc, hxgd⟩
  simp only at hle9 hxc hxgd ⊢
  have hR9 := hR.mono hle9
  have hpf9 := Enc.mono hle9 hpf
  have hq9 := Enc.mono hle9 hqg
  have hx9 := Enc.mono hle9 hxg
  have ha9 : Enc.good H9 x0.ans := hx9.2.2.2.2.2
  have hans9 := Hp.cells_le hle9 hans
  have hwhen : whenOK now 0 = true := by
    unfold whenOK
    have hn' := hn
    unfold isNow at hn'
    rw [hn']; rfl
  have hac : x0.ans.c = tm.ans := by rw [← hx0]; rfl
  rcases htk2 with ⟨rfl, h03, hfc⟩ | ⟨rfl, h03, hfc⟩
  · have hdone : x.done = true := by
      have := congrArg FwdC.done (hxc.trans hfc)
      exact this
    have hxa : x.ans.c = x0.ans.c := by
      have := congrArg FwdC.ans (hxc.trans hfc)
      rw [hac]; exact this
    obtain ⟨er, her⟩ : ∃ er, (filterF zone q x0.ans.c).2 = er := ⟨_, rfl⟩
    have hth : how = 3 → (filterF zone q x0.ans.c).1 = [] ∧ (er = 0 ∨ er = 1) := fun h3 => by
      rw [← her, hac, d5 h3]; exact filter_third
    have hFil := fun w hs => c_Filter zone q x0.ans H9 w hs hR9 hz hq9 ha9
    rw [her] at hFil
    have h04 : how = 0 ∨ how = 3 := h03
    repeat (any_goals (first | refine T.seq ?_ | refine T.region ?_ | (apply T.regionD wide; rfl) | refine TL.nil ?_ | refine N.next ?_ | refine N.inBlock ?_ | refine N.exit_same ?_ | refine N.exit_then ?_ | refine N.ret_then ?_ | refine N.ret_block ?_ | (apply N.exit_other; rfl) | refine T.ret ?_ | refine T.skip ?_ | refine T.exit ?_ | refine T.block ?_ | (apply T.cond_true; rfl) | (apply T.cond_false; rfl) | (apply T.test; rfl; (exact isx); intro _; rotate_left; intro _; rotate_right) | (apply TL.skip; rfl; rfl; rfl) | (apply TL.skip_none; rfl; rfl) | (apply GT.skip; rfl; rfl; rfl; decide +kernel) | (apply TL.val; rfl; rfl; (apply V.neqF; rfl; rfl)) | (apply GT.pure; (iterate 4 rfl); (apply V.neqF; rfl; rfl); decide +kernel) | (apply GT.read; (iterate 4 rfl); (apply V.neqF; rfl; rfl); decide +kernel) | (apply TL.val; rfl; rfl; (apply V.bneqE (m := false); exact Tryz.underlying4; rfl; rfl; first | rfl | (rw [decide_eq_true (by assumption : how = 3)]; rfl) | (rw [decide_eq_true (by omega : how = 3)]; rfl))) | (apply GT.pure; (iterate 4 rfl); (apply V.bneqE (m := false); exact Tryz.underlying4; rfl; rfl; first | rfl | (rw [decide_eq_true (by assumption : how = 3)]; rfl) | (rw [decide_eq_true (by omega : how = 3)]; rfl)); decide +kernel) | (apply GT.read; (iterate 4 rfl); (apply V.bneqE (m := false); exact Tryz.underlying4; rfl; rfl; first | rfl | (rw [decide_eq_true (by assumption : how = 3)]; rfl) | (rw [decide_eq_true (by omega : how = 3)]; rfl)); decide +kernel) | (apply TL.val; rfl; rfl; (apply V.elem (j := 0); (iterate 6 rfl); exact hlen0; exact hg4.at_ hlen0)) | (apply GT.pure; (iterate 4 rfl); (apply V.elem (j := 0); (iterate 6 rfl); exact hlen0; exact hg4.at_ hlen0); decide +kernel) | (apply GT.read; (iterate 4 rfl); (apply V.elem (j := 0); (iterate 6 rfl); exact hlen0; exact hg4.at_ hlen0); decide +kernel) | (apply TL.val; rfl; rfl; (apply V.load_H_row; rfl; rfl; rfl; (first | exact hans9 | exact Hp.cells_le hu.2 hans9); rfl)) | (apply GT.pure; (iterate 4 rfl); (apply V.load_H_row; rfl; rfl; rfl; (first | exact hans9 | exact Hp.cells_le hu.2 hans9); rfl); decide +kernel) | (apply GT.read; (iterate 4 rfl); (apply V.load_H_row; rfl; rfl; rfl; (first | exact hans9 | exact Hp.cells_le hu.2 hans9); rfl); decide +kernel) | (apply GS.grow; rfl; rfl; (apply X.callFE (f := 11) [strV zone, .agg (enc q).toArray, .agg (enc x0.ans).toArray] Tryz.call11; rfl; rfl; rfl; exact (fun _ hs => hFil _ hs.sat)); intro u hu) | (apply TL.callE (f := 12) [.agg (enc x.ans).toArray, .agg (enc x0.ans).toArray] Tryz.call12; (iterate 4 rfl); (exact fun _ hs => c_SameAnswerT x.ans x0.ans hxa hs.sat (Enc.mono hu.2 hxgd).2.2.2.2.2.2.2 (Enc.mono hu.2 ha9))) | (apply GT.callE (f := 12) [.agg (enc x.ans).toArray, .agg (enc x0.ans).toArray] Tryz.call12; (iterate 6 rfl); (exact fun _ hs => c_SameAnswerT x.ans x0.ans hxa hs.sat (Enc.mono hu.2 hxgd).2.2.2.2.2.2.2 (Enc.mono hu.2 ha9)); decide +kernel) | (apply TL.callE (f := 13) [intV now, intV 0] Tryz.call13; (iterate 4 rfl); (exact fun _ hs => c_WhenT hwhen hs.sat)) | (apply GT.callE (f := 13) [intV now, intV 0] Tryz.call13; (iterate 6 rfl); (exact fun _ hs => c_WhenT hwhen hs.sat); decide +kernel) | (apply TL.val; rfl; rfl; (first | exact vpure | exact vread)) | (apply GT.pure; (iterate 4 rfl); (first | exact vpure); decide +kernel) | (apply GT.read; (iterate 4 rfl); (first | exact vpure | exact vread); decide +kernel) | (apply GT.done; decide +kernel; apply N.ofQ) | (apply GT.adv; rfl) | (apply TL.x; rfl; rfl; (first | exact xgrow | exact xput); intro _ _) | (apply GS.grow; rfl; rfl; (first | exact xgrow); intro _ _) | (apply GS.eff; rfl; decide +kernel; rfl; (first | exact xput); intro _ _) | (apply TL.guard; rfl; rfl; rfl; (exact isx); intro _; rotate_left; intro _; rotate_right) | (apply GT.guard; (iterate 4 rfl); (exact isx); intro _; rotate_left; intro _; rotate_right) | (apply GT.fork1; decide +kernel) | (apply GT.fork2 1; decide +kernel) | (apply GT.fork2 2; decide +kernel) | (apply GT.fork2 3; decide +kernel) | (apply GT.fork2 4; decide +kernel) | (apply GT.fork2 5; decide +kernel) | (apply GT.fork2 6; decide +kernel) | (apply GT.fork2 7; decide +kernel) | (apply GT.fork2 8; decide +kernel) | (apply GT.fork2 9; decide +kernel) | (apply GT.fork2 10; decide +kernel) | (apply GT.fork2 11; decide +kernel) | (apply GT.fork2 12; decide +kernel) | (apply GT.fork2 13; decide +kernel) | (apply GT.fork2 14; decide +kernel)))
    all_goals (try contradiction)
    all_goals (try (exfalso; omega))
    all_goals first
      | exact N.ret_bool rfl (by (exact rvx)) rfl
      | (exfalso
         have hdf : x.done = false := by assumption
         rw [hdone] at hdf
         cases hdf)
      | (exfalso
         obtain ⟨t1, t2⟩ := hth (by assumption)
         have t3 := hu.1.1
         rw [t1, List.map_eq_nil_iff] at t3
         have t4 := hu.1.2.1.len
         rw [t3, List.length_nil] at t4
         omega)
  · repeat (any_goals (first | refine T.seq ?_ | refine T.region ?_ | (apply T.regionD wide; rfl) | refine TL.nil ?_ | refine N.next ?_ | refine N.inBlock ?_ | refine N.exit_same ?_ | refine N.exit_then ?_ | refine N.ret_then ?_ | refine N.ret_block ?_ | (apply N.exit_other; rfl) | refine T.ret ?_ | refine T.skip ?_ | refine T.exit ?_ | refine T.block ?_ | (apply T.cond_true; rfl) | (apply T.cond_false; rfl) | (apply T.test; rfl; (exact isx); intro _; rotate_left; intro _; rotate_right) | (apply TL.skip; rfl; rfl; rfl) | (apply TL.skip_none; rfl; rfl) | (apply GT.skip; rfl; rfl; rfl; decide +kernel) | (apply TL.val; rfl; rfl; (apply V.neqF; rfl; rfl)) | (apply GT.pure; (iterate 4 rfl); (apply V.neqF; rfl; rfl); decide +kernel) | (apply GT.read; (iterate 4 rfl); (apply V.neqF; rfl; rfl); decide +kernel) | (apply TL.val; rfl; rfl; (apply V.bneqE (m := false); exact Tryz.underlying4; rfl; rfl; first | rfl | (rw [decide_eq_false (fun h => h03 (.inr h) : ¬ how = 3)]; rfl))) | (apply GT.pure; (iterate 4 rfl); (apply V.bneqE (m := false); exact Tryz.underlying4; rfl; rfl; first | rfl | (rw [decide_eq_false (fun h => h03 (.inr h) : ¬ how = 3)]; rfl)); decide +kernel) | (apply GT.read; (iterate 4 rfl); (apply V.bneqE (m := false); exact Tryz.underlying4; rfl; rfl; first | rfl | (rw [decide_eq_false (fun h => h03 (.inr h) : ¬ how = 3)]; rfl)); decide +kernel) | (apply TL.callE (f := 10) [.agg (enc x).toArray, .agg (enc p.2.1).toArray] Tryz.call10; (iterate 4 rfl); (exact fun _ hs => c_SameFwdT x p.2.1 (by rw [hxc, hfc, hp4]) hs.sat hxgd hpf9)) | (apply GT.callE (f := 10) [.agg (enc x).toArray, .agg (enc p.2.1).toArray] Tryz.call10; (iterate 6 rfl); (exact fun _ hs => c_SameFwdT x p.2.1 (by rw [hxc, hfc, hp4]) hs.sat hxgd hpf9); decide +kernel) | (apply TL.val; rfl; rfl; (first | exact vpure | exact vread)) | (apply GT.pure; (iterate 4 rfl); (first | exact vpure); decide +kernel) | (apply GT.read; (iterate 4 rfl); (first | exact vpure | exact vread); decide +kernel) | (apply GT.done; decide +kernel; apply N.ofQ) | (apply GT.adv; rfl) | (apply TL.x; rfl; rfl; (first | exact xgrow | exact xput); intro _ _) | (apply GS.grow; rfl; rfl; (first | exact xgrow); intro _ _) | (apply GS.eff; rfl; decide +kernel; rfl; (first | exact xput); intro _ _) | (apply TL.guard; rfl; rfl; rfl; (exact isx); intro _; rotate_left; intro _; rotate_right) | (apply GT.guard; (iterate 4 rfl); (exact isx); intro _; rotate_left; intro _; rotate_right) | (apply GT.fork1; decide +kernel) | (apply GT.fork2 1; decide +kernel) | (apply GT.fork2 2; decide +kernel) | (apply GT.fork2 3; decide +kernel) | (apply GT.fork2 4; decide +kernel) | (apply GT.fork2 5; decide +kernel) | (apply GT.fork2 6; decide +kernel) | (apply GT.fork2 7; decide +kernel) | (apply GT.fork2 8; decide +kernel) | (apply GT.fork2 9; decide +kernel) | (apply GT.fork2 10; decide +kernel) | (apply GT.fork2 11; decide +kernel) | (apply GT.fork2 12; decide +kernel) | (apply GT.fork2 13; decide +kernel) | (apply GT.fork2 14; decide +kernel)))
    all_goals (try contradiction)
    all_goals (try (exfalso; omega))
    all_goals exact N.ret_bool rfl (by (exact rvx)) rfl
end Go.Proofs.YtpnoabbdcakjkaaGreatDoor
