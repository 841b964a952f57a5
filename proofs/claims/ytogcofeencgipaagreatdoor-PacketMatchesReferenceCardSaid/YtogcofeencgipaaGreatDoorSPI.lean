/- Walks: record.Read. -/
import Derived.Test.YtogcofeencgipaaGreatDoorSPH
namespace Go.Proofs.YtogcofeencgipaaGreatDoor
set_option linter.unusedVariables false
set_option linter.unusedSimpArgs false
open Go Go.RowKit
open Enc (enc)
set_option maxRecDepth 20000
set_option maxHeartbeats 8000000 in
theorem c_recordRead (bs : Slc UInt8) (H : Hp) (w : World) (hs : Sat H w) (hR : Rules H) (hg : bs.Good H) : Calls Tryz.prog 174 #[bs.v] w (RetF w H (fun g : Hp × RSet × Int => ReadSet g.1 bs.els g.2.1 g.2.2) (fun g => .tuple #[.agg (enc g.2.1).toArray, intV g.2.2]) (fun g => g.1)) := by
  refine T.enter (vs := [bs.v]) (H := H) Tryz.func174 rfl rfl rfl hs ?_
  repeat (any_goals (first | (apply T.seqU 15; rfl) | refine T.region ?_ | refine TL.nil ?_ | refine N.next ?_ | refine N.inBlock ?_ | refine N.exit_same ?_ | refine N.exit_then ?_ | refine N.ret_then ?_ | refine N.ret_block ?_ | (apply N.exit_other; rfl) | refine T.ret ?_ | refine T.skip ?_ | refine T.exit ?_ | refine T.block ?_ | (apply T.cond_true; rfl) | (apply T.cond_false; rfl) | (apply T.test; rfl; (with_reducible (first | exact Is.ndec | exact Is.dec | exact Is.not | ((fail_if_success exact Is.litT); (fail_if_success exact Is.litF); exact Is.base))); intro _; rotate_left; intro _; rotate_right) | (apply TL.skip; rfl; rfl; rfl) | (apply TL.skip_none; rfl; rfl) | (apply TL.x; rfl; rfl; (apply X.storeTo 0 [bs.v, .bool false]; rfl; rfl; rfl; rfl; rfl; rfl; rfl; rfl; rfl; rfl); intro _ _) | (apply TL.x; rfl; rfl; (apply X.alloc (d := 2); rfl; rfl; rfl); intro b2 _) | (apply TL.x; rfl; rfl; (apply X.alloc (d := 4); rfl; rfl; rfl); intro b4 _) | (apply TL.x; rfl; rfl; (apply X.alloc (d := 7); rfl; rfl; rfl); intro b7 _) | (apply TL.val; rfl; rfl; (apply V.build; rfl; rfl; rfl; rfl; rfl; rfl)) | (apply TL.x; rfl; rfl; (apply X.callB [.pointer (some ⟨b4, 0, none⟩)] (d := 14) (f := 210); rfl; rfl; rfl; rfl; exact Tryz.call210; exact fun _ hs => CallsIn.at_ 0 hs rfl fun hs => c_rtext (s := bs) (f := false) hs hg); intro p1 hp1) | (apply TL.x; rfl; rfl; (apply X.storeTo 0 [strV p1.1, intV 0, intV 0, .slice none 0 0]; rfl; rfl; rfl; rfl; rfl; rfl; rfl; rfl; rfl; rfl); intro _ _) | (apply TL.x; rfl; rfl; (apply X.callB [.pointer (some ⟨b4, 0, none⟩)] (d := 17) (f := 211); rfl; rfl; rfl; rfl; exact Tryz.call211; exact fun _ hs => CallsIn.at_ 1 hs rfl fun hs => c_rnumber hs hp1.1); intro p2 hp2) | (apply TL.x; rfl; rfl; (apply X.storeTo 0 [strV p1.1, intV p2.1, intV 0, .slice none 0 0]; rfl; rfl; rfl; rfl; rfl; rfl; rfl; rfl; rfl; rfl); intro _ _) | (apply TL.x; rfl; rfl; (apply X.callB [.pointer (some ⟨b4, 0, none⟩)] (d := 20) (f := 211); rfl; rfl; rfl; rfl; exact Tryz.call211; exact fun _ hs => CallsIn.at_ 1 hs rfl fun hs => c_rnumber hs hp2.1); intro p3 hp3) | (apply TL.x; rfl; rfl; (apply X.storeTo 0 [strV p1.1, intV p2.1, intV p3.1, .slice none 0 0]; rfl; rfl; rfl; rfl; rfl; rfl; rfl; rfl; rfl; rfl); intro _ _) | (apply TL.x; rfl; rfl; (apply X.callS0 (d := 22) (f := 212) Tryz.call212; rfl; rfl; exact fun _ hs => CallsIn.at_ 1 hs rfl fun hs => c_rcount hs hp3.1); intro p4 hp4) | (apply TL.val; rfl; rfl; (first | exact vpure | exact vread)) | (apply TL.x; rfl; rfl; (first | exact xgrow | exact xput); intro _ _) | (apply TL.guard; rfl; rfl; rfl; (with_reducible (first | exact Is.ndec | exact Is.dec | exact Is.not | ((fail_if_success exact Is.litT); (fail_if_success exact Is.litF); exact Is.base))); intro _; rotate_left; intro _; rotate_right)))
  all_goals (try (exfalso; omega))
  obtain ⟨nm, s1, f1⟩ := p1
  obtain ⟨ty, s2, f2⟩ := p2
  obtain ⟨li, s3, f3⟩ := p3
  simp only at hp1 hp2 hp3 ⊢
  refine T.nilRow 86 3 ?_
  refine T.cut (G := List Datum × Value × Slc UInt8 × Bool) (fun _ => [(2, .pointer (some ⟨b2, 0, none⟩)), (4, .pointer (some ⟨b4, 0, none⟩)), (7, .pointer (some ⟨b7, 0, none⟩))]) (fun _ => H) (fun g => [.row g.2.1 86 3 g.1.length (encs g.1), .blk b7 62 [strV nm, intV ty, intV li, g.2.1], rrL b4 g.2.2.1 g.2.2.2, .blk b2 62 [strV [], intV 0, intV 0, .slice none 0 0]])
    (fun g => g.2.2.1.Good H ∧ (∀ d ∈ g.1, Enc.good H d) ∧ g.1.length ≤ 255 ∧ setCod.rd bs.els = (left g.2.2.1 g.2.2.2).map fun r => (⟨nm, ty, li, g.1⟩, r)) ?_ ?_
  · have e1 := readsTo_bind hp1.2
    have e2 := readsTo_bind hp2.2
    have e3 := readsTo_bind hp3.2
    refine T.seq ?_
    refine T.region ?_
    apply TL.x; rfl; rfl; (apply X.callS0 (d := 22) (f := 212) Tryz.call212; rfl; rfl; exact fun _ hs => CallsIn.at_ 2 hs rfl fun hs => c_rcount hs hp3.1)
    rintro ⟨n, s4, f4⟩ hp4
    simp only at hp4 ⊢
    have hn := smallR_lt hp4.2
    have e4 := readsTo_bind hp4.2
    have hfin : ∀ {ds : List Datum} {t : Slc UInt8} {f : Bool}, (left s4 f4).bind (datumCod.rdN n) = (left t f).map (fun r => (ds, r)) → setCod.rd bs.els = (left t f).map fun r => (⟨nm, ty, li, ds⟩, r) := fun h => set_rd e1 e2 e3 e4 h
    repeat (any_goals (first | refine T.seq ?_ | refine T.region ?_ | refine TL.nil ?_ | refine N.next ?_ | refine N.inBlock ?_ | refine N.exit_same ?_ | refine N.exit_then ?_ | refine N.ret_then ?_ | refine N.ret_block ?_ | (apply N.exit_other; rfl) | refine T.ret ?_ | refine T.skip ?_ | refine T.exit ?_ | refine T.block ?_ | (apply T.cond_true; rfl) | (apply T.cond_false; rfl) | (apply T.test; rfl; (with_reducible (first | exact Is.ndec | exact Is.dec | exact Is.not | ((fail_if_success exact Is.litT); (fail_if_success exact Is.litF); exact Is.base))); intro _; rotate_left; intro _; rotate_right) | (apply TL.skip; rfl; rfl; rfl) | (apply TL.skip_none; rfl; rfl) | (apply TL.val; rfl; rfl; (first | exact vpure | exact vread)) | (apply TL.x; rfl; rfl; (first | exact xgrow | exact xput); intro _ _) | (apply TL.guard; rfl; rfl; rfl; (with_reducible (first | exact Is.ndec | exact Is.dec | exact Is.not | ((fail_if_success exact Is.litT); (fail_if_success exact Is.litF); exact Is.base))); intro _; rotate_left; intro _; rotate_right)))
    refine T.loop (G := Nat × List Datum × Value × Slc UInt8 × Bool) (fun g => [(2, .pointer (some ⟨b2, 0, none⟩)), (4, .pointer (some ⟨b4, 0, none⟩)), (7, .pointer (some ⟨b7, 0, none⟩)), (5, .func (.func 210) #[.pointer (some ⟨b4, 0, none⟩)] #[]), (6, .func (.func 211) #[.pointer (some ⟨b4, 0, none⟩)] #[]), (22, intV n), (23, intV g.1)]) (fun _ => H) (fun g => [.row g.2.2.1 86 3 g.2.1.length (encs g.2.1), .blk b7 62 [strV nm, intV ty, intV li, g.2.2.1], rrL b4 g.2.2.2.1 g.2.2.2.2, .blk b2 62 [strV [], intV 0, intV 0, .slice none 0 0]])
      (fun g => g.1 ≤ n ∧ g.2.1.length = g.1 ∧ g.2.2.2.1.Good H ∧ (∀ d ∈ g.2.1, Enc.good H d) ∧ (g.1 < n → g.2.2.2.2 = false) ∧ (left s4 f4).bind (datumCod.rdN g.1) = (left g.2.2.2.1 g.2.2.2.2).map fun r => (g.2.1, r)) (fun g => n - g.1) (0, [], .slice none 0 0, s4, f4) ⟨Nat.zero_le _, rfl, hp4.1, by simp, fun h => ?_, by cases left s4 f4 <;> rfl⟩ (by (repeat (first | exact True.intro | refine ⟨rfl, ?_⟩ | refine Sub.int rfl (by omega) ?_))) rfl (List.Sublist.refl _) ?_
    · cases f4 with
      | false => rfl
      | true => have := hn.2 rfl; simp only at h; omega
    rintro ⟨k, ds, dv, t, f⟩ ⟨hk, hlen, ht, hd, hf, hinv⟩
    simp only at hk hlen ht hd hf hinv ⊢
    subst hlen
    by_cases hlt : ds.length < n
    · obtain rfl := hf hlt
      repeat (any_goals (first | refine T.seq ?_ | refine T.region ?_ | refine TL.nil ?_ | refine N.next ?_ | refine N.inBlock ?_ | refine N.exit_same ?_ | refine N.exit_then ?_ | refine N.ret_then ?_ | refine N.ret_block ?_ | (apply N.exit_other; rfl) | refine T.ret ?_ | refine T.skip ?_ | refine T.exit ?_ | refine T.block ?_ | (apply T.cond_true; rfl) | (apply T.cond_false; rfl) | (apply T.test; rfl; (with_reducible (first | exact Is.ndec | exact Is.dec | exact Is.not | ((fail_if_success exact Is.litT); (fail_if_success exact Is.litF); exact Is.base))); intro _; rotate_left; intro _; rotate_right) | (apply TL.skip; rfl; rfl; rfl) | (apply TL.skip_none; rfl; rfl) | (apply TL.x; rfl; rfl; (apply X.alloc (d := 8); rfl; rfl; rfl); intro b8 _) | (apply TL.x; rfl; rfl; (apply X.callB [.pointer (some ⟨b4, 0, none⟩)] (d := 26) (f := 210); rfl; rfl; rfl; rfl; exact Tryz.call210; exact fun _ hs => CallsIn.at_ 3 hs rfl fun hs => c_rtext (s := t) (f := false) hs ht); intro q1 hq1) | (apply TL.x; rfl; rfl; (apply X.storeTo 0 [strV q1.1, intV 0, intV 0]; rfl; rfl; rfl; rfl; rfl; rfl; rfl; rfl; rfl; rfl); intro _ _) | (apply TL.x; rfl; rfl; (apply X.callB [.pointer (some ⟨b4, 0, none⟩)] (d := 29) (f := 211); rfl; rfl; rfl; rfl; exact Tryz.call211; exact fun _ hs => CallsIn.at_ 3 hs rfl fun hs => c_rnumber hs hq1.1); intro q2 hq2) | (apply TL.x; rfl; rfl; (apply X.storeTo 0 [strV q1.1, intV q2.1, intV 0]; rfl; rfl; rfl; rfl; rfl; rfl; rfl; rfl; rfl; rfl); intro _ _) | (apply TL.x; rfl; rfl; (apply X.callB [.pointer (some ⟨b4, 0, none⟩)] (d := 32) (f := 211); rfl; rfl; rfl; rfl; exact Tryz.call211; exact fun _ hs => CallsIn.at_ 3 hs rfl fun hs => c_rnumber hs hq2.1); intro q3 hq3) | (apply TL.x; rfl; rfl; (apply X.storeTo 0 [strV q1.1, intV q2.1, intV q3.1]; rfl; rfl; rfl; rfl; rfl; rfl; rfl; rfl; rfl; rfl); intro _ _) | (apply TL.x; rfl; rfl; (apply X.append1 2; rfl; rfl; rfl; rfl; rfl; rfl; rfl; rfl; rfl; exact List.Mem.head _; rfl; rfl; rfl; (refine Nat.le_trans (Nat.mul_le_mul_right _ (show _ ≤ 1000 by omega)) ?_; decide); omega); intro pa _) | (apply TL.x; rfl; rfl; (apply X.storeTo 3 [strV nm, intV ty, intV li, .slice (some ⟨pa.1, 0, none⟩) (ds.length + 1) pa.2]; rfl; rfl; rfl; rfl; rfl; rfl; rfl; rfl; rfl; rfl); intro _ _) | (apply TL.val; rfl; rfl; (first | exact vpure | exact vread)) | (apply TL.x; rfl; rfl; (first | exact xgrow | exact xput); intro _ _) | (apply TL.guard; rfl; rfl; rfl; (with_reducible (first | exact Is.ndec | exact Is.dec | exact Is.not | ((fail_if_success exact Is.litT); (fail_if_success exact Is.litF); exact Is.base))); intro _; rotate_left; intro _; rotate_right)))
      all_goals (try (exfalso; omega))
      all_goals
        have a1 := readsTo_bind hq1.2
        have a2 := readsTo_bind hq2.2
        have a3 := readsTo_bind hq3.2
        have a4 := datum_rd (b := t.els) a1 a2 a3
        have a5 := rdN_step (st := left s4 f4) (k := ds.length) (l := ds) (r := t.els) hinv a4
        have hgood : Enc.good H (⟨q1.1, q2.1, q3.1⟩ : Datum) := ⟨Nat.le_trans (textR_len hq1.2) (by decide), numR_i64 hq2.2, numR_i64 hq3.2⟩
      · rename_i hft
        refine N.cut (ds, dv, q3.2.1, q3.2.2) ⟨hq3.1, hd, by show ds.length ≤ 255; omega, hfin ?_⟩ (by (repeat (first | exact True.intro | refine ⟨rfl, ?_⟩ | refine Sub.int rfl (by omega) ?_))) rfl ?_
        · rw [hft] at a5 ⊢
          exact rdN_stop a5 (by omega)
        · exact List.Sublist.cons _ (List.Sublist.refl _)
      · refine N.round (ds.length + 1, ds ++ [⟨q1.1, q2.1, q3.1⟩], .slice (some ⟨pa.1, 0, none⟩) (ds.length + 1) pa.2, q3.2.1, q3.2.2) ⟨by show ds.length + 1 ≤ n; omega, by simp, hq3.1, ?_, fun _ => (by show q3.2.2 = false; assumption), a5⟩ (by show n - (ds.length + 1) < n - ds.length; omega) (by (repeat (first | exact True.intro | refine ⟨rfl, ?_⟩ | refine Sub.int rfl (by omega) ?_))) rfl ?_
        · intro d hdm
          rcases List.mem_append.1 hdm with h | h
          · exact hd d h
          · rw [List.mem_singleton.1 h]; exact hgood
        · simp only [List.length_append, List.length_cons, List.length_nil, Nat.zero_add, encs_snoc]
          exact List.Sublist.cons _ (List.Sublist.cons _ (List.Sublist.refl _))
    · have hk8 : n = ds.length := by omega
      subst hk8
      repeat (any_goals (first | refine T.seq ?_ | refine T.region ?_ | refine TL.nil ?_ | refine N.next ?_ | refine N.inBlock ?_ | refine N.exit_same ?_ | refine N.exit_then ?_ | refine N.ret_then ?_ | refine N.ret_block ?_ | (apply N.exit_other; rfl) | refine T.ret ?_ | refine T.skip ?_ | refine T.exit ?_ | refine T.block ?_ | (apply T.cond_true; rfl) | (apply T.cond_false; rfl) | (apply T.test; rfl; (with_reducible (first | exact Is.ndec | exact Is.dec | exact Is.not | ((fail_if_success exact Is.litT); (fail_if_success exact Is.litF); exact Is.base))); intro _; rotate_left; intro _; rotate_right) | (apply TL.skip; rfl; rfl; rfl) | (apply TL.skip_none; rfl; rfl) | (apply TL.val; rfl; rfl; (first | exact vpure | exact vread)) | (apply TL.x; rfl; rfl; (first | exact xgrow | exact xput); intro _ _) | (apply TL.guard; rfl; rfl; rfl; (with_reducible (first | exact Is.ndec | exact Is.dec | exact Is.not | ((fail_if_success exact Is.litT); (fail_if_success exact Is.litF); exact Is.base))); intro _; rotate_left; intro _; rotate_right)))
      all_goals (try (exfalso; omega))
      exact N.cut (ds, dv, t, f) ⟨ht, hd, by show ds.length ≤ 255; omega, hfin hinv⟩ (by (repeat (first | exact True.intro | refine ⟨rfl, ?_⟩ | refine Sub.int rfl (by omega) ?_))) rfl (List.Sublist.refl _)
  · rintro ⟨ds, dv, t, f⟩ ⟨ht, hd, hlen, hrd⟩
    simp only at ht hd hlen hrd ⊢
    have hnm := textR_len hp1.2
    have hty := numR_i64 hp2.2
    have hli := numR_i64 hp3.2
    have htl := ht.len
    apply T.frzRow 0 (els := ds); rfl; rfl; rfl; exact hd
    intro H1 sd e1 e2 e3 hle
    subst e1
    have hgx : Enc.good H1 (⟨nm, ty, li, sd⟩ : RSet) := ⟨Nat.le_trans hnm (by decide), hty, hli, e3⟩
    have hxc : (⟨nm, ty, li, sd⟩ : RSet).c = ⟨nm, ty, li, ds⟩ := by rw [← e2]; rfl
    have hno : ¬ (f = false ∧ t.len = 0 ∧ setOK ⟨nm, ty, li, ds⟩ = true) → ReadSet H1 bs.els rsetNil 10 := fun h => by
      refine ⟨⟨Nat.zero_le _, by decide, by decide, Slc.nil_good⟩, .inr ⟨?_, rfl, rfl⟩⟩
      unfold readSet
      rw [hrd]
      cases f with
      | true => rfl
      | false =>
        show (match some ((⟨nm, ty, li, ds⟩ : SetC), t.els) with | some (s, []) => if setOK s then some s else none | _ => none) = none
        cases htc : t.els with
        | nil =>
          show (if setOK _ = true then _ else none) = none
          rw [if_neg fun h2 => h ⟨rfl, by rw [htc] at htl; exact htl.symm, h2⟩]
        | cons _ _ => rfl
    have hyes : f = false → t.len = 0 → setOK ⟨nm, ty, li, ds⟩ = true → ReadSet H1 bs.els ⟨nm, ty, li, sd⟩ 0 := fun h1 h2 h3 => by
      refine ⟨hgx, .inl ⟨?_, rfl⟩⟩
      have h4 : t.els = [] := List.eq_nil_of_length_eq_zero (by omega)
      subst h1
      unfold readSet
      rw [hrd]
      show (match some ((⟨nm, ty, li, ds⟩ : SetC), t.els) with | some (s, []) => if setOK s then some s else none | _ => none) = _
      rw [h4]
      show (if setOK _ = true then _ else none) = _
      rw [if_pos h3, hxc]
    have hR1 := Rules.mono hle hR
    repeat (any_goals (first | refine T.seq ?_ | refine T.region ?_ | refine TL.nil ?_ | refine N.next ?_ | refine N.inBlock ?_ | refine N.exit_same ?_ | refine N.exit_then ?_ | refine N.ret_then ?_ | refine N.ret_block ?_ | (apply N.exit_other; rfl) | refine T.ret ?_ | refine T.skip ?_ | refine T.exit ?_ | refine T.block ?_ | (apply T.cond_true; rfl) | (apply T.cond_false; rfl) | (apply T.test; rfl; (with_reducible (first | exact Is.ndec | exact Is.dec | exact Is.not | ((fail_if_success exact Is.litT); (fail_if_success exact Is.litF); exact Is.base))); intro _; rotate_left; intro _; rotate_right) | (apply TL.skip; rfl; rfl; rfl) | (apply TL.skip_none; rfl; rfl) | (apply TL.callE (f := 160) [.agg (enc (⟨nm, ty, li, sd⟩ : RSet)).toArray] Tryz.call160; rfl; rfl; rfl; rfl; (exact fun _ hs => hxc ▸ c_recordValid ⟨nm, ty, li, sd⟩ _ _ hs.sat hR1 hgx)) | (apply TL.val; rfl; rfl; (apply V.build; rfl; rfl; rfl; rfl; rfl; rfl)) | (apply TL.x; rfl; rfl; (apply X.storeTo 2 (enc rsetNil); rfl; rfl; rfl; rfl; rfl; rfl; rfl; rfl; rfl; rfl); intro _ _) | (apply TL.x; rfl; rfl; (apply X.storeTo 2 (enc (⟨nm, ty, li, sd⟩ : RSet)); rfl; rfl; rfl; rfl; rfl; rfl; rfl; rfl; rfl; rfl); intro _ _) | (apply TL.val; rfl; rfl; (first | exact vpure | exact vread)) | (apply TL.x; rfl; rfl; (first | exact xgrow | exact xput); intro _ _) | (apply TL.guard; rfl; rfl; rfl; (with_reducible (first | exact Is.ndec | exact Is.dec | exact Is.not | ((fail_if_success exact Is.litT); (fail_if_success exact Is.litF); exact Is.base))); intro _; rotate_left; intro _; rotate_right)))
    all_goals (try (exfalso; omega))
    all_goals (refine N.ret2 rfl (by (exact rvx)) (by (exact rvx)) fun w hst => ?_)
    · have h1 : f = true := by assumption
      exact ⟨(H1, rsetNil, 10), hno (fun h => by rw [h.1] at h1; cases h1), rfl, hst.fresh⟩
    · exact ⟨(H1, rsetNil, 10), hno (fun h => by omega), rfl, hst.fresh⟩
    · have h3 : setOK ⟨nm, ty, li, ds⟩ = false := by assumption
      exact ⟨(H1, rsetNil, 10), hno (fun h => by rw [h.2.2] at h3; cases h3), rfl, hst.fresh⟩
    · exact ⟨(H1, ⟨nm, ty, li, sd⟩, 0), hyes (by assumption) (by omega) (by assumption), rfl, hst.fresh⟩
end Go.Proofs.YtogcofeencgipaaGreatDoor
