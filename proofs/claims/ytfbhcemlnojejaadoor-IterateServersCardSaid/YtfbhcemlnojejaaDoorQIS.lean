/- Walks: the law IterateAsks. -/
import Derived.Test.YtfbhcemlnojejaaDoorQIP
namespace Go.Proofs.YtfbhcemlnojejaaDoor
set_option linter.unusedVariables false
set_option linter.unusedSimpArgs false
open Go Go.RowKit
open Enc (enc)
set_option maxRecDepth 20000

theorem ask_cases {K : List SignedC} {hints : List Int} {q : Question} {r : NextC} {e : Int} (h1 : knownOK K = true) (h2 : hintsC hints = true) (h3 : questionOK q = true) (hr : askC K hints q = (r, e)) : (r.kind = 1 ∧ AskOK K hints r) ∨ ((r.kind = 2 ∨ r.kind = 3) ∧ r.addrs = [] ∧ r.zone = [] ∧ r.q = qNil) := by
  have hq : nameOK q.name = true ∧ decide (1 ≤ q.typ ∧ q.typ ≤ 8) = true := by
    unfold questionOK at h3
    simp only [Bool.and_eq_true] at h3
    exact h3
  unfold askC at hr
  rw [h1, h2, h3] at hr
  simp only [Bool.and_self, Bool.not_true, Bool.false_eq_true, if_false] at hr
  cases hf : followI K 9 [] q.name q.typ with
  | none =>
    rw [hf] at hr
    obtain rfl : darkN = r := congrArg Prod.fst hr
    exact .inr ⟨.inr rfl, rfl, rfl, rfl⟩
  | some x =>
    obtain ⟨kept, e1⟩ := x
    rw [hf] at hr
    simp only at hr
    have hen := follow_name h1 hq.1 hf
    cases hg : findC K e1 q.typ with
    | some s1 =>
      rw [hg] at hr
      obtain rfl := congrArg Prod.fst hr
      exact .inr ⟨.inl rfl, rfl, rfl, rfl⟩
    | none =>
      rw [hg] at hr
      obtain rfl : nextI K hints 9 ⟨e1, q.typ⟩ [] = r := congrArg Prod.fst hr
      rcases next_ok (hints := hints) h1 (f := 9) (q := ⟨e1, q.typ⟩) (left := []) (by unfold questionOK; rw [hen, hq.2]; rfl) hg with h | ⟨h4, h5⟩
      · rw [h]; exact .inr ⟨.inr rfl, rfl, rfl, rfl⟩
      · exact .inl ⟨h4, h5⟩
def hasA (K : List SignedC) (x : Int) (t : Bytes) : Bool := (dataC K t).any fun d => decide (d.n = x)
theorem found_all {K : List SignedC} {hints : List Int} {z : Bytes} {x : Int} (h : x ∈ addrsI K hints z) : ((decide (z = [46]) && hints.contains x) || ((hostsC K z).map (·.text)).any (hasA K x)) = true := by
  rcases addrs_mem h with ⟨h1, h2⟩ | ⟨t, h1, d, h2, h3⟩
  · rw [decide_eq_true h1, List.contains_iff_mem.2 h2]; rfl
  · have : ((hostsC K z).map (·.text)).any (hasA K x) = true := by
      rw [List.any_eq_true]
      refine ⟨t.text, List.mem_map_of_mem h1, ?_⟩
      unfold hasA
      rw [List.any_eq_true]
      exact ⟨d, h2, decide_eq_true h3⟩
    rw [this, Bool.or_true]
set_option maxHeartbeats 16000000 in
theorem c_IAsks (known : Slc Signed) (hints : Slc Int) (q : Question) (H : Hp) (w : World) (hs : Sat H w) (hR : Rules H) (hk : known.Good H) (hh : hints.Good H) (hq : Enc.good H q) : Calls Tryd.prog 11 #[known.v, hints.v, .agg (enc q).toArray] w (Ret w (.bool true)) := by
  refine T.enter (vs := [known.v, hints.v, .agg (enc q).toArray]) (H := H) Tryd.func11 rfl rfl rfl hs ?_
  cases hu : usableI (known.els.map Signed.c) hints.els q with
  | false =>
    repeat (any_goals (first | (apply T.seqU 5; rfl) | refine T.region ?_ | refine TL.nil ?_ | refine N.next ?_ | refine N.inBlock ?_ | refine N.exit_same ?_ | refine N.exit_then ?_ | refine N.ret_then ?_ | refine N.ret_block ?_ | (apply N.exit_other; rfl) | refine T.ret ?_ | refine T.skip ?_ | refine T.exit ?_ | refine T.block ?_ | (apply T.cond_true; rfl) | (apply T.cond_false; rfl) | (apply T.test; rfl; (with_reducible (first | exact Is.ndec | exact Is.dec | exact Is.not | ((fail_if_success exact Is.litT); (fail_if_success exact Is.litF); exact Is.base))); intro _; rotate_left; intro _; rotate_right) | (apply TL.skip; rfl; rfl; rfl) | (apply TL.skip_none; rfl; rfl) | (apply TL.call0 (f := 34) Tryd.call34; rfl; rfl; rfl; (exact fun _ hs => c_head28 _ _ hs.sat hR)) | (apply TL.callE (f := 40) [known.v, hints.v, .agg (enc q).toArray] Tryd.call40; rfl; rfl; rfl; rfl; (exact fun _ hs => c_usable28 known hints q hu hs.sat hk hh hq)) | (apply TL.val; rfl; rfl; (first | exact vpure | exact vread)) | (apply TL.x; rfl; rfl; (first | exact xgrow | exact xput); intro _ _) | (apply TL.guard; rfl; rfl; rfl; (with_reducible (first | exact Is.ndec | exact Is.dec | exact Is.not | ((fail_if_success exact Is.litT); (fail_if_success exact Is.litF); exact Is.base))); intro _; rotate_left; intro _; rotate_right)))
    all_goals (try contradiction)
    exact N.ret_bool rfl (by (exact rvx)) rfl
  | true =>
    obtain ⟨u1, u2, u3, u4⟩ := usable_iff.1 hu
    have hh8 := hints_len hh u3
    have hl60 := few_len u1
    rw [List.length_map] at hl60
    have hkl := hk.len
    obtain ⟨⟨r, e⟩, hr⟩ : ∃ x, askC (known.els.map Signed.c) hints.els q = x := ⟨_, rfl⟩
    have he : e = 0 := by have := ask_err u2 u3 u4; rw [hr] at this; exact this
    subst he
    rcases ask_cases u2 u3 u4 hr with ⟨k1, ok0⟩ | ⟨k2, n1, n2, n3⟩
    rotate_left
    · repeat (any_goals (first | (apply T.seqU 11; rfl) | refine T.region ?_ | refine TL.nil ?_ | refine N.next ?_ | refine N.inBlock ?_ | refine N.exit_same ?_ | refine N.exit_then ?_ | refine N.ret_then ?_ | refine N.ret_block ?_ | (apply N.exit_other; rfl) | refine T.ret ?_ | refine T.skip ?_ | refine T.exit ?_ | refine T.block ?_ | (apply T.cond_true; rfl) | (apply T.cond_false; rfl) | (apply T.test; rfl; (with_reducible (first | exact Is.ndec | exact Is.dec | exact Is.not | ((fail_if_success exact Is.litT); (fail_if_success exact Is.litF); exact Is.base))); intro _; rotate_left; intro _; rotate_right) | (apply TL.skip; rfl; rfl; rfl) | (apply TL.skip_none; rfl; rfl) | (apply TL.call0 (f := 34) Tryd.call34; rfl; rfl; rfl; (exact fun _ hs => c_head28 _ _ hs.sat hR)) | (apply TL.callE (f := 40) [known.v, hints.v, .agg (enc q).toArray] Tryd.call40; rfl; rfl; rfl; rfl; (exact fun _ hs => c_usable28 known hints q hu hs.sat hk hh hq)) | (apply TL.x; rfl; rfl; (apply X.callFE (f := 35) [known.v, hints.v, .agg (enc q).toArray] Tryd.call35; rfl; rfl; rfl; exact (fun _ hs => c_iAskV hr hs.sat hR hk hh hq (few_sigs u1))); intro a ha; have ga := ha.1.2; have ka : a.2.kind = r.kind := congrArg NextC.kind ha.1.1; have na : a.2.addrs.len = 0 := (by have h1 := ga.2.2.1.len; have h2 : a.2.addrs.els = [] := (congrArg NextC.addrs ha.1.1).trans n1; rw [h2] at h1; exact h1.symm); have nz : a.2.zone = [] := (congrArg NextC.zone ha.1.1).trans n2; have nq : a.2.q = qNil := (congrArg NextC.q ha.1.1).trans n3) | (apply TL.x; rfl; rfl; (apply X.storeTo 0 (enc a.2); rfl; rfl; rfl; rfl; rfl; rfl; rfl; rfl; rfl; rfl); intro _ _) | (apply TL.val; rfl; rfl; (apply V.build; rfl; rfl; rfl; rfl; rfl; rfl)) | (apply TL.val; rfl; rfl; (apply V.aeql; rfl; rfl; exact Tryd.eqGuardType30; exact fun w => eq_Question a.2.q qNil w)) | (apply TL.val; rfl; rfl; (first | exact vpure | exact vread)) | (apply TL.x; rfl; rfl; (first | exact xgrow | exact xput); intro _ _) | (apply TL.guard; rfl; rfl; rfl; (with_reducible (first | exact Is.ndec | exact Is.dec | exact Is.not | ((fail_if_success exact Is.litT); (fail_if_success exact Is.litF); exact Is.base))); intro _; rotate_left; intro _; rotate_right)))
      all_goals (try contradiction)
      all_goals (try (exfalso; omega))
      all_goals (refine N.ret_bool rfl (by (exact rvx)) ?_)
      all_goals (try rfl)
      all_goals (exact decide_eq_true nq)
    · have hal := ok0.some_
      repeat (any_goals (first | refine T.seq ?_ | refine T.region ?_ | refine TL.nil ?_ | refine N.next ?_ | refine N.inBlock ?_ | refine N.exit_same ?_ | refine N.exit_then ?_ | refine N.ret_then ?_ | refine N.ret_block ?_ | (apply N.exit_other; rfl) | refine T.ret ?_ | refine T.skip ?_ | refine T.exit ?_ | refine T.block ?_ | (apply T.cond_true; rfl) | (apply T.cond_false; rfl) | (apply T.test; rfl; (with_reducible (first | exact Is.ndec | exact Is.dec | exact Is.not | ((fail_if_success exact Is.litT); (fail_if_success exact Is.litF); exact Is.base))); intro _; rotate_left; intro _; rotate_right) | (apply TL.skip; rfl; rfl; rfl) | (apply TL.skip_none; rfl; rfl) | (apply TL.call0 (f := 34) Tryd.call34; rfl; rfl; rfl; (exact fun _ hs => c_head28 _ _ hs.sat hR)) | (apply TL.callE (f := 40) [known.v, hints.v, .agg (enc q).toArray] Tryd.call40; rfl; rfl; rfl; rfl; (exact fun _ hs => c_usable28 known hints q hu hs.sat hk hh hq)) | (apply TL.x; rfl; rfl; (apply X.callFE (f := 35) [known.v, hints.v, .agg (enc q).toArray] Tryd.call35; rfl; rfl; rfl; exact (fun _ hs => c_iAskV hr hs.sat hR hk hh hq (few_sigs u1))); intro a ha; have ga := ha.1.2; have ok : AskOK (known.els.map Signed.c) hints.els a.2.c := (by rw [ha.1.1]; exact ok0); have ka : a.2.kind = 1 := (congrArg NextC.kind ha.1.1).trans k1; have hR := Rules.mono ha.2 hR; have hk := hk.mono ha.2; have hh := hh.mono ha.2; have na : a.2.addrs.len ≠ 0 := (by intro h0; exact ok.some_ (List.eq_nil_of_length_eq_zero (ga.2.2.1.len.trans h0))); obtain ⟨kq, hkq⟩ : ∃ x, knownI (known.els.map Signed.c) a.2.q.name a.2.q.typ = x := ⟨_, rfl⟩; have hkq0 : kq < 0 := (by rw [← hkq]; exact knownI_neg.2 ok.unknown); have hz60 := nameOK_le (l := a.2.zone) ok.name; have hzl : LenOk a.2.zone := Nat.le_trans hz60 (by decide); have hqn60 := nameOK_le (l := a.2.q.name) (by have := ok.q; unfold questionOK at this; simp only [Bool.and_eq_true] at this; exact this.1); have nan : ¬ (a.2.q.typ = 6 ∧ a.2.q.name = a.2.zone ∧ a.2.zone ≠ [46]) := ok.anchor) | (apply TL.x; rfl; rfl; (apply X.alloc; rfl; rfl; rfl); intro b8 _) | (apply TL.x; rfl; rfl; (apply X.storeTo 0 (enc a.2); rfl; rfl; rfl; rfl; rfl; rfl; rfl; rfl; rfl; rfl); intro _ _) | (apply TL.callE (f := 41) [strV a.2.zone] Tryd.call41; rfl; rfl; rfl; rfl; (exact fun _ hs => ok.name ▸ c_nameValid01 a.2.zone _ _ hs.sat hzl)) | (apply TL.callE (f := 42) [.agg (enc a.2.q).toArray] Tryd.call42; rfl; rfl; rfl; rfl; (exact fun _ hs => c_Question06V28 a.2.q ok.q hs.sat ga.2.2.2.1)) | (apply TL.callE (f := 30) [strV a.2.q.name, strV a.2.zone] Tryd.call30; rfl; rfl; rfl; rfl; (exact fun _ hs => ok.under ▸ c_In a.2.q.name a.2.zone _ _ hs.sat (by omega) (by omega))) | (apply TL.callE (f := 28) [known.v, strV a.2.q.name, intV a.2.q.typ] Tryd.call28; rfl; rfl; rfl; rfl; (exact fun _ hs => c_Known10V hkq hs.sat hk)) | (apply TL.x; rfl; rfl; (apply X.callFE (f := 43) [known.v, strV a.2.zone] Tryd.call43; rfl; rfl; rfl; exact (fun _ hs => c_Hosts28 known a.2.zone _ _ hs.sat hk u2)); intro p hp; have hk := hk.mono hp.2; have hh := hh.mono hp.2; have ga := Enc.mono hp.2 ga) | (apply TL.val; rfl; rfl; (first | exact vpure | exact vread)) | (apply TL.x; rfl; rfl; (first | exact xgrow | exact xput); intro _ _) | (apply TL.guard; rfl; rfl; rfl; (with_reducible (first | exact Is.ndec | exact Is.dec | exact Is.not | ((fail_if_success exact Is.litT); (fail_if_success exact Is.litF); exact Is.base))); intro _; rotate_left; intro _; rotate_right)))
      all_goals (try contradiction)
      all_goals (try (exfalso; omega))
      all_goals (try (exfalso; exact nan ⟨by assumption, by assumption, by assumption⟩))
      all_goals
        have hpl := hp.1.2.len
        have hae : a.2.addrs.els = addrsI (known.els.map Signed.c) hints.els a.2.zone := ok.addrs
        have hal1 := ga.2.2.1
        have hall := hal1.len
        have halim := hal1.lim
        have hplim := hp.1.2.lim
        have hpg := hp.1.2
        have hpe : p.2.els = (hostsC (known.els.map Signed.c) a.2.zone).map (·.text) := by rw [hosts_S]; exact hp.1.1
        refine T.loop (G := Nat) (fun k => [(0, known.v), (1, hints.v), (7, .bool true), (8, .pointer (some ⟨b8, 0, none⟩)), (10, p.2.v), (128, a.2.addrs.v), (129, intV a.2.addrs.len), (130, intV k)]) (fun _ => p.1) (fun _ => [.blk b8 70 (enc a.2)]) (fun k => k ≤ a.2.addrs.len) (fun k => a.2.addrs.len - k) 0 (Nat.zero_le _) (by (repeat (first | exact True.intro | refine ⟨rfl, ?_⟩ | refine Sub.int rfl (by omega) ?_))) rfl (List.Sublist.cons_cons _ (List.nil_sublist _)) ?_
        intro k hk1
        by_cases hlt : k < a.2.addrs.len
        rotate_left
        · repeat (any_goals (first | refine T.seq ?_ | refine T.region ?_ | refine TL.nil ?_ | refine N.next ?_ | refine N.inBlock ?_ | refine N.exit_same ?_ | refine N.exit_then ?_ | refine N.ret_then ?_ | refine N.ret_block ?_ | (apply N.exit_other; rfl) | refine T.ret ?_ | refine T.skip ?_ | refine T.exit ?_ | refine T.block ?_ | (apply T.cond_true; rfl) | (apply T.cond_false; rfl) | (apply T.test; rfl; (with_reducible (first | exact Is.ndec | exact Is.dec | exact Is.not | ((fail_if_success exact Is.litT); (fail_if_success exact Is.litF); exact Is.base))); intro _; rotate_left; intro _; rotate_right) | (apply TL.skip; rfl; rfl; rfl) | (apply TL.skip_none; rfl; rfl) | (apply TL.val; rfl; rfl; (first | exact vpure | exact vread)) | (apply TL.x; rfl; rfl; (first | exact xgrow | exact xput); intro _ _) | (apply TL.guard; rfl; rfl; rfl; (with_reducible (first | exact Is.ndec | exact Is.dec | exact Is.not | ((fail_if_success exact Is.litT); (fail_if_success exact Is.litF); exact Is.base))); intro _; rotate_left; intro _; rotate_right)))
          all_goals (try (exfalso; omega))
          exact N.ret_bool rfl (by (exact rvx)) rfl
        have hkk : k < a.2.addrs.els.length := by omega
        have hfa := found_all (hints := hints.els) (x := a.2.addrs.els[k]'hkk) (by rw [← hae]; exact List.getElem_mem hkk)
        rw [← hpe] at hfa
        obtain ⟨x, hx⟩ : ∃ x, x = a.2.addrs.els[k]'hkk := ⟨_, rfl⟩
        rw [← hx] at hfa
        obtain ⟨f0, hf0⟩ : ∃ b, hints.els.contains x = b := ⟨_, rfl⟩
        obtain ⟨f1, hf1⟩ : ∃ b, decide (a.2.zone = [46]) = b := ⟨_, rfl⟩
        rw [hf0, hf1] at hfa
        cases f1 <;> cases f0
        all_goals
          (first | have hz0 := of_decide_eq_true hf1 | have hz0 := of_decide_eq_false hf1)
          repeat (any_goals (first | refine T.seq ?_ | refine T.region ?_ | refine TL.nil ?_ | refine N.next ?_ | refine N.inBlock ?_ | refine N.exit_same ?_ | refine N.exit_then ?_ | refine N.ret_then ?_ | refine N.ret_block ?_ | (apply N.exit_other; rfl) | refine T.ret ?_ | refine T.skip ?_ | refine T.exit ?_ | refine T.block ?_ | (apply T.cond_true; rfl) | (apply T.cond_false; rfl) | (apply T.test; rfl; (with_reducible (first | exact Is.ndec | exact Is.dec | exact Is.not | ((fail_if_success exact Is.litT); (fail_if_success exact Is.litF); exact Is.base))); intro _; rotate_left; intro _; rotate_right) | (apply TL.skip; rfl; rfl; rfl) | (apply TL.skip_none; rfl; rfl) | (apply TL.callE (f := 44) [hints.v, intV (a.2.addrs.els[k]'hkk)] Tryd.call44; rfl; rfl; rfl; rfl; (exact fun _ hs => (hx ▸ c_Has28 hints x hf0 hs.sat hh))) | (apply TL.val; rfl; rfl; (first | exact vpure | exact vread)) | (apply TL.x; rfl; rfl; (first | exact xgrow | exact xput); intro _ _) | (apply TL.guard; rfl; rfl; rfl; (with_reducible (first | exact Is.ndec | exact Is.dec | exact Is.not | ((fail_if_success exact Is.litT); (fail_if_success exact Is.litF); exact Is.base))); intro _; rotate_left; intro _; rotate_right)))
          all_goals (try contradiction)
          all_goals (try (exfalso; omega))
          all_goals
            refine T.loop (G := Nat × Bool) (fun g => [(0, known.v), (1, hints.v), (7, .bool true), (8, .pointer (some ⟨b8, 0, none⟩)), (10, p.2.v), (128, a.2.addrs.v), (129, intV a.2.addrs.len), (130, intV k), (12, intV (a.2.addrs.els[k]'hkk)), (13, .bool g.2), (142, p.2.v), (143, intV p.2.len), (144, intV g.1)]) (fun _ => p.1) (fun _ => [.blk b8 70 (enc a.2)]) (fun g => g.1 ≤ p.2.len ∧ (g.2 || (p.2.els.drop g.1).any (hasA (known.els.map Signed.c) x)) = true) (fun g => p.2.len - g.1) (0, _) ⟨Nat.zero_le _, hfa⟩ (by (repeat (first | exact True.intro | refine ⟨rfl, ?_⟩ | refine Sub.int rfl (by omega) ?_))) rfl (List.Sublist.refl _) ?_
            rintro ⟨i, F⟩ ⟨hi1, hF⟩
            simp only at hi1 hF ⊢
            by_cases hil : i < p.2.len
            rotate_left
            · rw [List.drop_eq_nil_of_le (by omega)] at hF
              rw [List.any_nil, Bool.or_false] at hF
              subst hF
              repeat (any_goals (first | refine T.seq ?_ | refine T.region ?_ | refine TL.nil ?_ | refine N.next ?_ | refine N.inBlock ?_ | refine N.exit_same ?_ | refine N.exit_then ?_ | refine N.ret_then ?_ | refine N.ret_block ?_ | (apply N.exit_other; rfl) | refine T.ret ?_ | refine T.skip ?_ | refine T.exit ?_ | refine T.block ?_ | (apply T.cond_true; rfl) | (apply T.cond_false; rfl) | (apply T.test; rfl; (with_reducible (first | exact Is.ndec | exact Is.dec | exact Is.not | ((fail_if_success exact Is.litT); (fail_if_success exact Is.litF); exact Is.base))); intro _; rotate_left; intro _; rotate_right) | (apply TL.skip; rfl; rfl; rfl) | (apply TL.skip_none; rfl; rfl) | (apply TL.val; rfl; rfl; (first | exact vpure | exact vread)) | (apply TL.x; rfl; rfl; (first | exact xgrow | exact xput); intro _ _) | (apply TL.guard; rfl; rfl; rfl; (with_reducible (first | exact Is.ndec | exact Is.dec | exact Is.not | ((fail_if_success exact Is.litT); (fail_if_success exact Is.litF); exact Is.base))); intro _; rotate_left; intro _; rotate_right)))
              all_goals (try (exfalso; omega))
              exact N.round (k + 1) (by show k + 1 ≤ _; omega) (by show a.2.addrs.len - (k + 1) < a.2.addrs.len - k; omega) (by (repeat (first | exact True.intro | refine ⟨rfl, ?_⟩ | refine Sub.int rfl (by omega) ?_))) rfl (List.Sublist.refl _)
            have hii : i < p.2.els.length := by omega
            have hgi := hp.1.2.els _ (List.getElem_mem hii)
            have hdat : dataC (known.els.map Signed.c) (p.2.els[i]'hii) = (getS known.els (p.2.els[i]'hii) 1).set.data.els := data_S _ _
            rw [List.drop_eq_getElem_cons hii, List.any_cons, show hasA (known.els.map Signed.c) x (p.2.els[i]'hii) = (getS known.els (p.2.els[i]'hii) 1).set.data.els.any (fun d => decide (d.n = x)) from (congrArg (fun l : List Datum => l.any fun d => decide (d.n = x)) hdat)] at hF
            cases hf : findS known.els (p.2.els[i]'hii) 1 with
            | none =>
              have hkv := knownS_none hf
              rw [getS_no hf] at hF
              repeat (any_goals (first | refine T.seq ?_ | refine T.region ?_ | refine TL.nil ?_ | refine N.next ?_ | refine N.inBlock ?_ | refine N.exit_same ?_ | refine N.exit_then ?_ | refine N.ret_then ?_ | refine N.ret_block ?_ | (apply N.exit_other; rfl) | refine T.ret ?_ | refine T.skip ?_ | refine T.exit ?_ | refine T.block ?_ | (apply T.cond_true; rfl) | (apply T.cond_false; rfl) | (apply T.test; rfl; (with_reducible (first | exact Is.ndec | exact Is.dec | exact Is.not | ((fail_if_success exact Is.litT); (fail_if_success exact Is.litF); exact Is.base))); intro _; rotate_left; intro _; rotate_right) | (apply TL.skip; rfl; rfl; rfl) | (apply TL.skip_none; rfl; rfl) | (apply TL.callE (f := 28) [known.v, strV (p.2.els[i]'hii), intV 1] Tryd.call28; rfl; rfl; rfl; rfl; (exact fun _ hs => c_Known10V hkv hs.sat hk)) | (apply TL.val; rfl; rfl; (first | exact vpure | exact vread)) | (apply TL.x; rfl; rfl; (first | exact xgrow | exact xput); intro _ _) | (apply TL.guard; rfl; rfl; rfl; (with_reducible (first | exact Is.ndec | exact Is.dec | exact Is.not | ((fail_if_success exact Is.litT); (fail_if_success exact Is.litF); exact Is.base))); intro _; rotate_left; intro _; rotate_right)))
              all_goals (try (exfalso; omega))
              refine T.loop (G := Unit) (fun _ => [(0, known.v), (1, hints.v), (7, .bool true), (8, .pointer (some ⟨b8, 0, none⟩)), (10, p.2.v), (128, a.2.addrs.v), (129, intV a.2.addrs.len), (130, intV k), (12, intV (a.2.addrs.els[k]'hkk)), (13, .bool F), (142, p.2.v), (143, intV p.2.len), (144, intV i), (16, intV (-1))]) (fun _ => p.1) (fun _ => [.blk b8 70 (enc a.2)]) (fun _ => True) (fun _ => 0) () trivial (by (repeat (first | exact True.intro | refine ⟨rfl, ?_⟩ | refine Sub.int rfl (by omega) ?_))) rfl (List.Sublist.refl _) ?_
              rintro _ _
              repeat (any_goals (first | refine T.seq ?_ | refine T.region ?_ | refine TL.nil ?_ | refine N.next ?_ | refine N.inBlock ?_ | refine N.exit_same ?_ | refine N.exit_then ?_ | refine N.ret_then ?_ | refine N.ret_block ?_ | (apply N.exit_other; rfl) | refine T.ret ?_ | refine T.skip ?_ | refine T.exit ?_ | refine T.block ?_ | (apply T.cond_true; rfl) | (apply T.cond_false; rfl) | (apply T.test; rfl; (with_reducible (first | exact Is.ndec | exact Is.dec | exact Is.not | ((fail_if_success exact Is.litT); (fail_if_success exact Is.litF); exact Is.base))); intro _; rotate_left; intro _; rotate_right) | (apply TL.skip; rfl; rfl; rfl) | (apply TL.skip_none; rfl; rfl) | (apply TL.val; rfl; rfl; (first | exact vpure | exact vread)) | (apply TL.x; rfl; rfl; (first | exact xgrow | exact xput); intro _ _) | (apply TL.guard; rfl; rfl; rfl; (with_reducible (first | exact Is.ndec | exact Is.dec | exact Is.not | ((fail_if_success exact Is.litT); (fail_if_success exact Is.litF); exact Is.base))); intro _; rotate_left; intro _; rotate_right)))
              all_goals (try (exfalso; omega))
              exact N.round (i + 1, F) ⟨by show i + 1 ≤ _; omega, hF⟩ (by show p.2.len - (i + 1) < p.2.len - i; omega) (by (repeat (first | exact True.intro | refine ⟨rfl, ?_⟩ | refine Sub.int rfl (by omega) ?_))) rfl (List.Sublist.refl _)
            | some y =>
              obtain ⟨m, hm, hki, hia⟩ := knownS_at hf
              rw [getS_at hf] at hF
              subst hia
              have hag : Enc.good p.1 known.els[m] := hk.els _ (List.getElem_mem hm)
              have hdg := hag.1.2.2.2
              have hdl := hdg.len
              have hdlim := hdg.lim
              repeat (any_goals (first | refine T.seq ?_ | refine T.region ?_ | refine TL.nil ?_ | refine N.next ?_ | refine N.inBlock ?_ | refine N.exit_same ?_ | refine N.exit_then ?_ | refine N.ret_then ?_ | refine N.ret_block ?_ | (apply N.exit_other; rfl) | refine T.ret ?_ | refine T.skip ?_ | refine T.exit ?_ | refine T.block ?_ | (apply T.cond_true; rfl) | (apply T.cond_false; rfl) | (apply T.test; rfl; (with_reducible (first | exact Is.ndec | exact Is.dec | exact Is.not | ((fail_if_success exact Is.litT); (fail_if_success exact Is.litF); exact Is.base))); intro _; rotate_left; intro _; rotate_right) | (apply TL.skip; rfl; rfl; rfl) | (apply TL.skip_none; rfl; rfl) | (apply TL.callE (f := 28) [known.v, strV (p.2.els[i]'hii), intV 1] Tryd.call28; rfl; rfl; rfl; rfl; (exact fun _ hs => c_Known10V hki hs.sat hk)) | (apply TL.val; rfl; rfl; (first | exact vpure | exact vread)) | (apply TL.x; rfl; rfl; (first | exact xgrow | exact xput); intro _ _) | (apply TL.guard; rfl; rfl; rfl; (with_reducible (first | exact Is.ndec | exact Is.dec | exact Is.not | ((fail_if_success exact Is.litT); (fail_if_success exact Is.litF); exact Is.base))); intro _; rotate_left; intro _; rotate_right)))
              all_goals (try (exfalso; omega))
              refine T.loop (G := Nat × Bool) (fun g => [(0, known.v), (1, hints.v), (7, .bool true), (8, .pointer (some ⟨b8, 0, none⟩)), (10, p.2.v), (128, a.2.addrs.v), (129, intV a.2.addrs.len), (130, intV k), (12, intV (a.2.addrs.els[k]'hkk)), (13, .bool g.2), (142, p.2.v), (143, intV p.2.len), (144, intV i), (16, intV m), (17, intV g.1)]) (fun _ => p.1) (fun _ => [.blk b8 70 (enc a.2)]) (fun g => g.1 ≤ known.els[m].set.data.len ∧ (g.2 || ((known.els[m].set.data.els.drop g.1).any (fun d => decide (d.n = x)) || (p.2.els.drop (i + 1)).any (hasA (known.els.map Signed.c) x))) = true) (fun g => known.els[m].set.data.len - g.1) (0, F) ⟨Nat.zero_le _, hF⟩ (by (repeat (first | exact True.intro | refine ⟨rfl, ?_⟩ | refine Sub.int rfl (by omega) ?_))) rfl (List.Sublist.refl _) ?_
              rintro ⟨j, F2⟩ ⟨hj1, hF2⟩
              simp only at hj1 hF2 ⊢
              by_cases hjl : j < known.els[m].set.data.len
              rotate_left
              · rw [List.drop_eq_nil_of_le (by omega), List.any_nil, Bool.false_or] at hF2
                repeat (any_goals (first | refine T.seq ?_ | refine T.region ?_ | refine TL.nil ?_ | refine N.next ?_ | refine N.inBlock ?_ | refine N.exit_same ?_ | refine N.exit_then ?_ | refine N.ret_then ?_ | refine N.ret_block ?_ | (apply N.exit_other; rfl) | refine T.ret ?_ | refine T.skip ?_ | refine T.exit ?_ | refine T.block ?_ | (apply T.cond_true; rfl) | (apply T.cond_false; rfl) | (apply T.test; rfl; (with_reducible (first | exact Is.ndec | exact Is.dec | exact Is.not | ((fail_if_success exact Is.litT); (fail_if_success exact Is.litF); exact Is.base))); intro _; rotate_left; intro _; rotate_right) | (apply TL.skip; rfl; rfl; rfl) | (apply TL.skip_none; rfl; rfl) | (apply TL.val; rfl; rfl; (first | exact vpure | exact vread)) | (apply TL.x; rfl; rfl; (first | exact xgrow | exact xput); intro _ _) | (apply TL.guard; rfl; rfl; rfl; (with_reducible (first | exact Is.ndec | exact Is.dec | exact Is.not | ((fail_if_success exact Is.litT); (fail_if_success exact Is.litF); exact Is.base))); intro _; rotate_left; intro _; rotate_right)))
                all_goals (try (exfalso; omega))
                exact N.round (i + 1, F2) ⟨by show i + 1 ≤ _; omega, hF2⟩ (by show p.2.len - (i + 1) < p.2.len - i; omega) (by (repeat (first | exact True.intro | refine ⟨rfl, ?_⟩ | refine Sub.int rfl (by omega) ?_))) rfl (List.Sublist.refl _)
              have hjj : j < known.els[m].set.data.els.length := by omega
              have hd1g : Enc.good p.1 (known.els[m].set.data.els[j]'hjj) := hdg.els _ (List.getElem_mem hjj)
              rw [List.drop_eq_getElem_cons hjj, List.any_cons] at hF2
              cases F2 with
              | true =>
                repeat (any_goals (first | refine T.seq ?_ | refine T.region ?_ | refine TL.nil ?_ | refine N.next ?_ | refine N.inBlock ?_ | refine N.exit_same ?_ | refine N.exit_then ?_ | refine N.ret_then ?_ | refine N.ret_block ?_ | (apply N.exit_other; rfl) | refine T.ret ?_ | refine T.skip ?_ | refine T.exit ?_ | refine T.block ?_ | (apply T.cond_true; rfl) | (apply T.cond_false; rfl) | (apply T.test; rfl; (with_reducible (first | exact Is.ndec | exact Is.dec | exact Is.not | ((fail_if_success exact Is.litT); (fail_if_success exact Is.litF); exact Is.base))); intro _; rotate_left; intro _; rotate_right) | (apply TL.skip; rfl; rfl; rfl) | (apply TL.skip_none; rfl; rfl) | (apply TL.val; rfl; rfl; (first | exact vpure | exact vread)) | (apply TL.x; rfl; rfl; (first | exact xgrow | exact xput); intro _ _) | (apply TL.guard; rfl; rfl; rfl; (with_reducible (first | exact Is.ndec | exact Is.dec | exact Is.not | ((fail_if_success exact Is.litT); (fail_if_success exact Is.litF); exact Is.base))); intro _; rotate_left; intro _; rotate_right)))
                all_goals (try (exfalso; omega))
                exact N.round (j + 1, true) ⟨by show j + 1 ≤ _; omega, rfl⟩ (by show known.els[m].set.data.len - (j + 1) < known.els[m].set.data.len - j; omega) (by (repeat (first | exact True.intro | refine ⟨rfl, ?_⟩ | refine Sub.int rfl (by omega) ?_))) rfl (List.Sublist.refl _)
              | false =>
                rw [Bool.false_or, Bool.or_assoc] at hF2
                repeat (any_goals (first | refine T.seq ?_ | refine T.region ?_ | refine TL.nil ?_ | refine N.next ?_ | refine N.inBlock ?_ | refine N.exit_same ?_ | refine N.exit_then ?_ | refine N.ret_then ?_ | refine N.ret_block ?_ | (apply N.exit_other; rfl) | refine T.ret ?_ | refine T.skip ?_ | refine T.exit ?_ | refine T.block ?_ | (apply T.cond_true; rfl) | (apply T.cond_false; rfl) | (apply T.test; rfl; (with_reducible (first | exact Is.ndec | exact Is.dec | exact Is.not | ((fail_if_success exact Is.litT); (fail_if_success exact Is.litF); exact Is.base))); intro _; rotate_left; intro _; rotate_right) | (apply TL.skip; rfl; rfl; rfl) | (apply TL.skip_none; rfl; rfl) | (apply TL.val; rfl; rfl; (first | exact vpure | exact vread)) | (apply TL.x; rfl; rfl; (first | exact xgrow | exact xput); intro _ _) | (apply TL.guard; rfl; rfl; rfl; (with_reducible (first | exact Is.ndec | exact Is.dec | exact Is.not | ((fail_if_success exact Is.litT); (fail_if_success exact Is.litF); exact Is.base))); intro _; rotate_left; intro _; rotate_right)))
                all_goals (try (exfalso; omega))
                exact N.round (j + 1, decide ((known.els[m].set.data.els[j]'hjj).n = a.2.addrs.els[k]'hkk)) ⟨by show j + 1 ≤ _; omega, by rw [← hx]; exact hF2⟩ (by show known.els[m].set.data.len - (j + 1) < known.els[m].set.data.len - j; omega) (by (repeat (first | exact True.intro | refine ⟨rfl, ?_⟩ | refine Sub.int rfl (by omega) ?_))) rfl (List.Sublist.refl _)
end Go.Proofs.YtfbhcemlnojejaaDoor
