/- Walks: Clean, Put, Deny. -/
import Derived.Test.YtogcofeencgipaaGreatDoorZNM
import Derived.Test.YtogcofeencgipaaGreatDoorZNF
namespace Go.Proofs.YtogcofeencgipaaGreatDoor
set_option linter.unusedVariables false
set_option linter.unusedSimpArgs false
open Go Go.RowKit
open Enc (enc)
set_option maxRecDepth 20000

theorem set_few {s : SetC} (h : setOK s = true) : s.data.length ≤ 8 := by
  rw [setOK_eq, Bool.and_eq_true] at h
  have := h.1
  unfold headOK at this
  simp only [Bool.and_eq_true, decide_eq_true_eq] at this
  exact this.1.1.2.2
theorem short_of_ok {c : Cache} {H : Hp} (hg : Enc.good H c) (hok : cacheOK c.c = true) : Short c.list.els := fun x hx => by
  have hgx : Enc.good H x := Slc.Good.els hg x hx
  have hl1 := hgx.1.1.2.2.2.len
  have hl2 := hgx.1.2.len
  have he := ((cacheOK_iff _).1 hok).2.1 x.c (List.mem_map.2 ⟨x, hx, rfl⟩)
  obtain ⟨_, _, h1, h2⟩ := (entryOK_iff hl1 hl2).1 he
  by_cases h0 : x.signed.set.data.len = 0
  · obtain ⟨_, _, h3⟩ := h1 h0
    omega
  · obtain ⟨h3, h4⟩ := h2 h0
    have h5 := set_few h3
    have h6 := ((form_iff _ _).1 h4).1
    have h7 : x.signed.set.c.data.length = x.signed.set.data.els.length := rfl
    omega
theorem zero_end {w0 w : World} {H0 H : Hp} {L : List Loc} {r : List EntryC × Int} {z : Int} (hst : St w0 H0 H L w) (hr : r = ([], z)) : Caches w0 H0 r (.returned (.tuple #[.agg #[.slice none 0 0], intV z])) w := by
  subst hr
  exact ⟨(H, ⟨Slc.nil _⟩), ⟨rfl, Slc.nil_good⟩, rfl, hst.fresh⟩
set_option maxHeartbeats 1000000 in
theorem c_Clean (c : Cache) (now : Int) (H : Hp) (w : World) (hs : Sat H w) (hR : Rules H) (hg : Enc.good H c) (hnow : I64 now) : Calls Tryz.prog 47 #[.agg (enc c).toArray, intV now] w (Caches w H (cleanC c.c now)) := by
  refine T.enter (vs := [.agg (enc c).toArray, intV now]) (H := H) Tryz.func47 rfl rfl rfl hs ?_
  cases hok : cacheOK c.c with
  | false =>
    have hv : ∀ w, Sat H w → Calls Tryz.prog 44 #[.agg (enc c).toArray] w (Ret w (.bool false)) := fun w hs => by
      have := c_cacheValid c H w hs hR hg
      rwa [hok] at this
    repeat (any_goals (first | refine T.seq ?_ | refine T.region ?_ | refine TL.nil ?_ | refine N.next ?_ | refine N.inBlock ?_ | refine N.exit_same ?_ | refine N.exit_then ?_ | refine N.ret_then ?_ | refine N.ret_block ?_ | (apply N.exit_other; rfl) | refine T.ret ?_ | refine T.skip ?_ | refine T.exit ?_ | refine T.block ?_ | (apply T.cond_true; rfl) | (apply T.cond_false; rfl) | (apply T.test; rfl; (with_reducible (first | exact Is.ndec | exact Is.dec | exact Is.not | ((fail_if_success exact Is.litT); (fail_if_success exact Is.litF); exact Is.base))); intro _; rotate_left; intro _; rotate_right) | (apply TL.skip; rfl; rfl; rfl) | (apply TL.skip_none; rfl; rfl) | (apply TL.call0 (f := 44) Tryz.call44; rfl; rfl; rfl; (exact fun _ hs => hv _ hs.sat)) | (apply TL.call0 (f := 108) Tryz.call108; rfl; rfl; rfl; (exact fun _ hs => c_ctime _ _ _ hs.sat)) | (apply TL.val; rfl; rfl; (apply V.build; rfl; rfl; rfl; rfl; rfl; rfl)) | (apply TL.val; rfl; rfl; (first | exact vpure | exact vread)) | (apply TL.x; rfl; rfl; (first | exact xgrow | exact xput); intro _ _) | (apply TL.guard; rfl; rfl; rfl; (with_reducible (first | exact Is.ndec | exact Is.dec | exact Is.not | ((fail_if_success exact Is.litT); (fail_if_success exact Is.litF); exact Is.base))); intro _; rotate_left; intro _; rotate_right)))
    apply N.ret2; rfl; (exact rvx); (exact rvx)
    intro w1 hst
    exact zero_end hst (by unfold cleanC; simp [hok])
  | true =>
    have hv : ∀ w, Sat H w → Calls Tryz.prog 44 #[.agg (enc c).toArray] w (Ret w (.bool true)) := fun w hs => by
      have := c_cacheValid c H w hs hR hg
      rwa [hok] at this
    have hm := cache_len hg hok
    have hb := short_of_ok hg hok
    repeat (any_goals (first | refine T.seq ?_ | refine T.region ?_ | refine TL.nil ?_ | refine N.next ?_ | refine N.inBlock ?_ | refine N.exit_same ?_ | refine N.exit_then ?_ | refine N.ret_then ?_ | refine N.ret_block ?_ | (apply N.exit_other; rfl) | refine T.ret ?_ | refine T.skip ?_ | refine T.exit ?_ | refine T.block ?_ | (apply T.cond_true; rfl) | (apply T.cond_false; rfl) | (apply T.test; rfl; (with_reducible (first | exact Is.ndec | exact Is.dec | exact Is.not | ((fail_if_success exact Is.litT); (fail_if_success exact Is.litF); exact Is.base))); intro _; rotate_left; intro _; rotate_right) | (apply TL.skip; rfl; rfl; rfl) | (apply TL.skip_none; rfl; rfl) | (apply TL.call0 (f := 44) Tryz.call44; rfl; rfl; rfl; (exact fun _ hs => hv _ hs.sat)) | (apply TL.call0 (f := 108) Tryz.call108; rfl; rfl; rfl; (exact fun _ hs => c_ctime _ _ _ hs.sat)) | (apply TL.val; rfl; rfl; (apply V.build; rfl; rfl; rfl; rfl; rfl; rfl)) | (apply TL.x; rfl; rfl; (apply X.callO0 (f := 109) Tryz.call109; rfl; rfl; exact fun _ hs => c_fresh c now _ _ hs.sat hg hnow (by omega) hb); intro p hp; obtain ⟨⟨hp1, hp2, hp3, hp4, hp5⟩, hp6⟩ := hp) | (apply TL.val; rfl; rfl; (first | exact vpure | exact vread)) | (apply TL.x; rfl; rfl; (first | exact xgrow | exact xput); intro _ _) | (apply TL.guard; rfl; rfl; rfl; (with_reducible (first | exact Is.ndec | exact Is.dec | exact Is.not | ((fail_if_success exact Is.litT); (fail_if_success exact Is.litF); exact Is.base))); intro _; rotate_left; intro _; rotate_right)))
    all_goals
      apply N.ret2; rfl; (exact rvx); (exact rvx)
      intro w1 hst
    · exact zero_end hst (by unfold cleanC isT; simp [*])
    · exact cache_end hst (by repeat (first | exact List.Sublist.refl _ | exact List.nil_sublist _ | apply List.Sublist.cons_cons | apply List.Sublist.cons)) rfl hp2 (by unfold cleanC isT; simp [*])
theorem c_validV (c : Cache) {b : Bool} (h : cacheOK c.c = b) {H : Hp} {w : World} (hs : Sat H w) (hR : Rules H) (hg : Enc.good H c) : Calls Tryz.prog 44 #[.agg (enc c).toArray] w (Ret w (.bool b)) := by
  subst h
  exact c_cacheValid c H w hs hR hg
theorem put_no {l : List EntryC} {s : SignedC} {zone : Bytes} {now : Int} (h : ¬ (cacheOK l = true ∧ setOK s.set = true ∧ inZone s.set.name zone = true ∧ (0 ≤ now ∧ now ≤ 20000000))) : putC l s zone now = ([], 1) := by
  unfold putC isT
  rw [if_pos]
  simp only [Bool.not_eq_true', Bool.eq_false_iff, ne_eq, Bool.and_eq_true, decide_eq_true_eq]
  grind
theorem put_yes {l : List EntryC} {s : SignedC} {zone : Bytes} {now : Int} (h1 : cacheOK l = true) (h2 : setOK s.set = true) (h3 : inZone s.set.name zone = true) (h4 : 0 ≤ now ∧ now ≤ 20000000) : putC l s zone now = if sigsForm s.sigs zone = true then learnC l ⟨s, zone, untilC s now⟩ now else ([], 30) := by
  unfold putC isT
  rw [if_neg (by rw [h1, h2, h3, decide_eq_true h4]; decide)]
  cases sigsForm s.sigs zone <;> rfl
theorem deny_no {l : List EntryC} {q : Question} {zone : Bytes} {life now : Int} (h : ¬ (cacheOK l = true ∧ questionOK q = true ∧ inZone q.name zone = true ∧ (0 ≤ life ∧ life ≤ 100000) ∧ (0 ≤ now ∧ now ≤ 20000000))) : denyC l q zone life now = ([], 1) := by
  unfold denyC isT
  rw [if_pos]
  simp only [Bool.not_eq_true', Bool.eq_false_iff, ne_eq, Bool.and_eq_true, decide_eq_true_eq]
  grind
theorem deny_yes {l : List EntryC} {q : Question} {zone : Bytes} {life now : Int} (h1 : cacheOK l = true) (h2 : questionOK q = true) (h3 : inZone q.name zone = true) (h4 : 0 ≤ life ∧ life ≤ 100000) (h5 : 0 ≤ now ∧ now ≤ 20000000) : denyC l q zone life now = learnC l (denied q zone life now) now := by
  unfold denyC isT
  rw [if_neg (by rw [h1, h2, h3, decide_eq_true h4, decide_eq_true h5]; decide)]
  rfl
set_option maxHeartbeats 4000000 in
theorem c_Deny (c : Cache) (q : Question) (zone : Bytes) (life now : Int) (H : Hp) (w : World) (hs : Sat H w) (hR : Rules H) (hg : Enc.good H c) (hq : Enc.good H q) (hz : LenOk zone) (hlife : I64 life) (hnow : I64 now) : Calls Tryz.prog 150 #[.agg (enc c).toArray, .agg (enc q).toArray, strV zone, intV life, intV now] w (Caches w H (denyC c.c q zone life now)) := by
  refine T.enter (vs := [.agg (enc c).toArray, .agg (enc q).toArray, strV zone, intV life, intV now]) (H := H) Tryz.func150 rfl rfl rfl hs ?_
  repeat (any_goals (first | (apply T.seqU 3; rfl) | refine T.region ?_ | refine TL.nil ?_ | refine N.next ?_ | refine N.inBlock ?_ | refine N.exit_same ?_ | refine N.exit_then ?_ | refine N.ret_then ?_ | refine N.ret_block ?_ | (apply N.exit_other; rfl) | refine T.ret ?_ | refine T.skip ?_ | refine T.exit ?_ | refine T.block ?_ | (apply T.cond_true; rfl) | (apply T.cond_false; rfl) | (apply T.test; rfl; (with_reducible (first | exact Is.ndec | exact Is.dec | exact Is.not | ((fail_if_success exact Is.litT); (fail_if_success exact Is.litF); exact Is.base))); intro _; rotate_left; intro _; rotate_right) | (apply TL.skip; rfl; rfl; rfl) | (apply TL.skip_none; rfl; rfl) | (apply TL.val; rfl; rfl; (first | exact vpure | exact vread)) | (apply TL.x; rfl; rfl; (first | exact xgrow | exact xput); intro _ _) | (apply TL.guard; rfl; rfl; rfl; (with_reducible (first | exact Is.ndec | exact Is.dec | exact Is.not | ((fail_if_success exact Is.litT); (fail_if_success exact Is.litF); exact Is.base))); intro _; rotate_left; intro _; rotate_right)))
  rename_i b5 _ b6 _ b10 _
  refine T.cut (G := Unit) (fun _ => [(2, strV zone), (3, intV life), (4, intV now), (5, .pointer (some ⟨b5, 0, none⟩)), (6, .pointer (some ⟨b6, 0, none⟩)), (10, .pointer (some ⟨b10, 0, none⟩)), (11, intV 0)]) (fun _ => H) (fun _ => [.blk b10 46 [.slice none 0 0], .blk b6 23 (enc q), .blk b5 46 (enc c)]) (fun _ => cacheOK c.c = true ∧ questionOK q = true ∧ inZone q.name zone = true ∧ (0 ≤ life ∧ life ≤ 100000) ∧ (0 ≤ now ∧ now ≤ 20000000)) ?_ ?_
  · repeat (any_goals (first | refine T.seq ?_ | refine T.region ?_ | refine TL.nil ?_ | refine N.next ?_ | refine N.inBlock ?_ | refine N.exit_same ?_ | refine N.exit_then ?_ | refine N.ret_then ?_ | refine N.ret_block ?_ | (apply N.exit_other; rfl) | refine T.ret ?_ | refine T.skip ?_ | refine T.exit ?_ | refine T.block ?_ | (apply T.cond_true; rfl) | (apply T.cond_false; rfl) | (apply T.test; rfl; (with_reducible (first | exact Is.ndec | exact Is.dec | exact Is.not | ((fail_if_success exact Is.litT); (fail_if_success exact Is.litF); exact Is.base))); intro _; rotate_left; intro _; rotate_right) | (apply TL.skip; rfl; rfl; rfl) | (apply TL.skip_none; rfl; rfl) | (apply TL.call0 (f := 44) Tryz.call44; rfl; rfl; rfl; (exact fun _ hs => c_cacheValid c _ _ hs.sat hR hg)) | (apply TL.call0 (f := 132) Tryz.call132; rfl; rfl; rfl; (exact fun _ hs => c_cquestion q _ _ hs.sat hq)) | (apply TL.call0 (f := 158) Tryz.call158; rfl; rfl; rfl; (exact fun _ hs => c_belongs q.name zone _ _ hs.sat hq.1 hz)) | (apply TL.call0 (f := 108) Tryz.call108; rfl; rfl; rfl; (exact fun _ hs => c_ctime _ _ _ hs.sat)) | (apply TL.call0 (f := 159) Tryz.call159; rfl; rfl; rfl; (exact fun _ hs => c_clife _ _ _ hs.sat)) | (apply TL.val; rfl; rfl; (apply V.build; rfl; rfl; rfl; rfl; rfl; rfl)) | (apply TL.val; rfl; rfl; (first | exact vpure | exact vread)) | (apply TL.x; rfl; rfl; (first | exact xgrow | exact xput); intro _ _) | (apply TL.guard; rfl; rfl; rfl; (with_reducible (first | exact Is.ndec | exact Is.dec | exact Is.not | ((fail_if_success exact Is.litT); (fail_if_success exact Is.litF); exact Is.base))); intro _; rotate_left; intro _; rotate_right)))
    all_goals (try (refine N.cut (()) ?_ ?_ ?_ ?_; rotate_left 1; (repeat (first | exact True.intro | refine ⟨rfl, ?_⟩ | refine Sub.int rfl (by omega) ?_)); rfl; (first | exact List.Sublist.refl _ | exact List.nil_sublist _ | exact List.Sublist.cons _ (List.Sublist.refl _) | exact List.Sublist.cons _ (List.Sublist.cons _ (List.Sublist.refl _)))))
    all_goals first
      | exact ⟨by assumption, by assumption, by assumption, by assumption, by assumption⟩
      | (apply N.ret2; rfl; (exact rvx); (exact rvx)
         intro w1 hst
         exact zero_end hst (deny_no (by simp [*])))
      | trace_state
  · rintro ⟨⟩ ⟨o1, o2, o3, o4, o5⟩
    rw [deny_yes o1 o2 o3 o4 o5]
    have hmx := maxI_pos life
    have hmx2 : maxI life 1 ≤ 100000 := by unfold maxI; split <;> omega
    have he : Enc.good H (⟨⟨⟨q.name, q.typ, life, Slc.nil _⟩, Slc.nil _⟩, zone, now + maxI life 1⟩ : Entry) := ⟨⟨⟨hq.1, hq.2, hlife, Slc.nil_good⟩, Slc.nil_good⟩, hz, by show I64 (now + maxI life 1); exact ⟨by omega, by omega⟩⟩
    repeat (any_goals (first | refine T.seq ?_ | refine T.region ?_ | refine TL.nil ?_ | refine N.next ?_ | refine N.inBlock ?_ | refine N.exit_same ?_ | refine N.exit_then ?_ | refine N.ret_then ?_ | refine N.ret_block ?_ | (apply N.exit_other; rfl) | refine T.ret ?_ | refine T.skip ?_ | refine T.exit ?_ | refine T.block ?_ | (apply T.cond_true; rfl) | (apply T.cond_false; rfl) | (apply T.test; rfl; (with_reducible (first | exact Is.ndec | exact Is.dec | exact Is.not | ((fail_if_success exact Is.litT); (fail_if_success exact Is.litF); exact Is.base))); intro _; rotate_left; intro _; rotate_right) | (apply TL.skip; rfl; rfl; rfl) | (apply TL.skip_none; rfl; rfl) | (apply TL.val; rfl; rfl; (apply V.build; rfl; rfl; rfl; rfl; rfl; rfl)) | (apply TL.val; rfl; rfl; (apply V.max (M := maxI life 1) rfl; rfl; rfl)) | (apply TL.x; rfl; rfl; (apply X.callFE (f := 196) [.agg (enc c).toArray, .agg (enc (⟨⟨⟨q.name, q.typ, life, Slc.nil _⟩, Slc.nil _⟩, zone, now + maxI life 1⟩ : Entry)).toArray, intV now] Tryz.call196; rfl; rfl; rfl; exact (fun _ hs => c_learn c ⟨⟨⟨q.name, q.typ, life, Slc.nil _⟩, Slc.nil _⟩, zone, now + maxI life 1⟩ now _ _ hs.sat hg he hnow o1 (short_of_ok hg o1) ⟨Nat.zero_le _, Nat.zero_le _⟩)); intro p hp) | (apply TL.val; rfl; rfl; (first | exact vpure | exact vread)) | (apply TL.x; rfl; rfl; (first | exact xgrow | exact xput); intro _ _) | (apply TL.guard; rfl; rfl; rfl; (with_reducible (first | exact Is.ndec | exact Is.dec | exact Is.not | ((fail_if_success exact Is.litT); (fail_if_success exact Is.litF); exact Is.base))); intro _; rotate_left; intro _; rotate_right)))
    apply N.ret2; rfl; (exact rvx); (exact rvx)
    intro w1 hst
    exact ⟨p, hp.1, rfl, hst.fresh⟩
theorem until_nil {s : Signed} {now : Int} (h : s.sigs.els.length = s.sigs.len) (h0 : s.sigs.len = 0) : untilC s.c now = now + maxI s.set.life 1 := by
  have : s.c.sigs = [] := List.eq_nil_of_length_eq_zero (by show s.sigs.els.length = 0; omega)
  unfold untilC
  rw [this]; rfl
theorem until_cons {s : Signed} {now : Int} (h : s.sigs.els.length = s.sigs.len) (h0 : 0 < s.sigs.len) : untilC s.c now = minI (now + maxI s.set.life 1) ((s.sigs.els[0]'(by omega)).til + 1) := by
  have e : s.c.sigs = s.sigs.els := rfl
  obtain ⟨g, r, hl⟩ : ∃ g r, s.sigs.els = g :: r := by
    cases hl : s.sigs.els with
    | nil => rw [hl] at h; simp at h; omega
    | cons g r => exact ⟨g, r, rfl⟩
  unfold untilC
  rw [e]
  simp only [hl, List.getElem_cons_zero]
  rfl
set_option maxHeartbeats 8000000 in
theorem c_Put (c : Cache) (s : Signed) (zone : Bytes) (now : Int) (H : Hp) (w : World) (hs : Sat H w) (hR : Rules H) (hg : Enc.good H c) (hsg : Enc.good H s) (hz : LenOk zone) (hnow : I64 now) : Calls Tryz.prog 146 #[.agg (enc c).toArray, .agg (enc s).toArray, strV zone, intV now] w (Caches w H (putC c.c s.c zone now)) := by
  have hlen := hsg.2.len
  refine T.enter (vs := [.agg (enc c).toArray, .agg (enc s).toArray, strV zone, intV now]) (H := H) Tryz.func146 rfl rfl rfl hs ?_
  repeat (any_goals (first | (apply T.seqU 3; rfl) | refine T.region ?_ | refine TL.nil ?_ | refine N.next ?_ | refine N.inBlock ?_ | refine N.exit_same ?_ | refine N.exit_then ?_ | refine N.ret_then ?_ | refine N.ret_block ?_ | (apply N.exit_other; rfl) | refine T.ret ?_ | refine T.skip ?_ | refine T.exit ?_ | refine T.block ?_ | (apply T.cond_true; rfl) | (apply T.cond_false; rfl) | (apply T.test; rfl; (with_reducible (first | exact Is.ndec | exact Is.dec | exact Is.not | ((fail_if_success exact Is.litT); (fail_if_success exact Is.litF); exact Is.base))); intro _; rotate_left; intro _; rotate_right) | (apply TL.skip; rfl; rfl; rfl) | (apply TL.skip_none; rfl; rfl) | (apply TL.val; rfl; rfl; (first | exact vpure | exact vread)) | (apply TL.x; rfl; rfl; (first | exact xgrow | exact xput); intro _ _) | (apply TL.guard; rfl; rfl; rfl; (with_reducible (first | exact Is.ndec | exact Is.dec | exact Is.not | ((fail_if_success exact Is.litT); (fail_if_success exact Is.litF); exact Is.base))); intro _; rotate_left; intro _; rotate_right)))
  rename_i b4 _ b5 _ b8 _
  refine T.cut (G := Unit) (fun _ => [(2, strV zone), (3, intV now), (4, .pointer (some ⟨b4, 0, none⟩)), (5, .pointer (some ⟨b5, 0, none⟩)), (8, .pointer (some ⟨b8, 0, none⟩)), (9, intV 0)]) (fun _ => H) (fun _ => [.blk b8 46 [.slice none 0 0], .blk b5 65 (enc s), .blk b4 46 (enc c)]) (fun _ => cacheOK c.c = true ∧ setOK s.set.c = true ∧ inZone s.set.name zone = true ∧ (0 ≤ now ∧ now ≤ 20000000)) ?_ ?_
  · repeat (any_goals (first | refine T.seq ?_ | refine T.region ?_ | refine TL.nil ?_ | refine N.next ?_ | refine N.inBlock ?_ | refine N.exit_same ?_ | refine N.exit_then ?_ | refine N.ret_then ?_ | refine N.ret_block ?_ | (apply N.exit_other; rfl) | refine T.ret ?_ | refine T.skip ?_ | refine T.exit ?_ | refine T.block ?_ | (apply T.cond_true; rfl) | (apply T.cond_false; rfl) | (apply T.test; rfl; (with_reducible (first | exact Is.ndec | exact Is.dec | exact Is.not | ((fail_if_success exact Is.litT); (fail_if_success exact Is.litF); exact Is.base))); intro _; rotate_left; intro _; rotate_right) | (apply TL.skip; rfl; rfl; rfl) | (apply TL.skip_none; rfl; rfl) | (apply TL.call0 (f := 44) Tryz.call44; rfl; rfl; rfl; (exact fun _ hs => c_cacheValid c _ _ hs.sat hR hg)) | (apply TL.call0 (f := 160) Tryz.call160; rfl; rfl; rfl; (exact fun _ hs => c_recordValid s.set _ _ hs.sat hR hsg.1)) | (apply TL.call0 (f := 158) Tryz.call158; rfl; rfl; rfl; (exact fun _ hs => c_belongs s.set.name zone _ _ hs.sat hsg.1.1 hz)) | (apply TL.call0 (f := 108) Tryz.call108; rfl; rfl; rfl; (exact fun _ hs => c_ctime _ _ _ hs.sat)) | (apply TL.val; rfl; rfl; (apply V.build; rfl; rfl; rfl; rfl; rfl; rfl)) | (apply TL.val; rfl; rfl; (first | exact vpure | exact vread)) | (apply TL.x; rfl; rfl; (first | exact xgrow | exact xput); intro _ _) | (apply TL.guard; rfl; rfl; rfl; (with_reducible (first | exact Is.ndec | exact Is.dec | exact Is.not | ((fail_if_success exact Is.litT); (fail_if_success exact Is.litF); exact Is.base))); intro _; rotate_left; intro _; rotate_right)))
    all_goals (try (refine N.cut (()) ?_ ?_ ?_ ?_; rotate_left 1; (repeat (first | exact True.intro | refine ⟨rfl, ?_⟩ | refine Sub.int rfl (by omega) ?_)); rfl; (first | exact List.Sublist.refl _ | exact List.nil_sublist _ | exact List.Sublist.cons _ (List.Sublist.refl _) | exact List.Sublist.cons _ (List.Sublist.cons _ (List.Sublist.refl _)))))
    all_goals first
      | exact ⟨by assumption, by assumption, by assumption, by assumption⟩
      | (apply N.ret2; rfl; (exact rvx); (exact rvx)
         intro w1 hst
         exact zero_end hst (put_no (by
           rintro ⟨e1, e2, e3, e4⟩
           first
             | contradiction
             | exact absurd (e1.symm.trans (by assumption : cacheOK c.c = false)) (by decide)
             | exact absurd (e2.symm.trans (by assumption : setOK s.set.c = false)) (by decide)
             | exact absurd (e3.symm.trans (by assumption : inZone s.set.name zone = false)) (by decide))))
      | trace_state
  · rintro ⟨⟩ ⟨o1, o2, o3, o4⟩
    rw [put_yes (s := s.c) o1 o2 o3 o4]
    have hmx := maxI_pos s.set.life
    have hlf := (setOK_life o2).1
    have hlf' : 0 ≤ s.set.life ∧ s.set.life ≤ 100000 := hlf
    have hmx2 : maxI s.set.life 1 ≤ 100000 := by unfold maxI; split <;> omega
    have hd8 := set_few o2
    have hd8' : s.set.data.len ≤ 8 := by have := hsg.1.2.2.2.len; have e : s.set.c.data.length = s.set.data.els.length := rfl; omega
    cases hf : sigsForm s.sigs.els zone with
    | false =>
      rw [if_neg (by show ¬ sigsForm s.sigs.els zone = true; rw [hf]; decide)]
      have hv : ∀ w, Sat H w → Calls Tryz.prog 161 #[s.sigs.v, strV zone] w (Ret w (.bool false)) := fun w hs => by
        have := c_inForm s.sigs zone H w hs hsg.2 hz
        rwa [hf] at this
      repeat (any_goals (first | refine T.seq ?_ | refine T.region ?_ | refine TL.nil ?_ | refine N.next ?_ | refine N.inBlock ?_ | refine N.exit_same ?_ | refine N.exit_then ?_ | refine N.ret_then ?_ | refine N.ret_block ?_ | (apply N.exit_other; rfl) | refine T.ret ?_ | refine T.skip ?_ | refine T.exit ?_ | refine T.block ?_ | (apply T.cond_true; rfl) | (apply T.cond_false; rfl) | (apply T.test; rfl; (with_reducible (first | exact Is.ndec | exact Is.dec | exact Is.not | ((fail_if_success exact Is.litT); (fail_if_success exact Is.litF); exact Is.base))); intro _; rotate_left; intro _; rotate_right) | (apply TL.skip; rfl; rfl; rfl) | (apply TL.skip_none; rfl; rfl) | (apply TL.call0 (f := 161) Tryz.call161; rfl; rfl; rfl; (exact fun _ hs => hv _ hs.sat)) | (apply TL.val; rfl; rfl; (apply V.build; rfl; rfl; rfl; rfl; rfl; rfl)) | (apply TL.val; rfl; rfl; (first | exact vpure | exact vread)) | (apply TL.x; rfl; rfl; (first | exact xgrow | exact xput); intro _ _) | (apply TL.guard; rfl; rfl; rfl; (with_reducible (first | exact Is.ndec | exact Is.dec | exact Is.not | ((fail_if_success exact Is.litT); (fail_if_success exact Is.litF); exact Is.base))); intro _; rotate_left; intro _; rotate_right)))
      apply N.ret2; rfl; (exact rvx); (exact rvx)
      intro w1 hst
      exact zero_end hst rfl
    | true =>
      rw [if_pos (show sigsForm s.c.sigs zone = true from hf)]
      have hv : ∀ w, Sat H w → Calls Tryz.prog 161 #[s.sigs.v, strV zone] w (Ret w (.bool true)) := fun w hs => by
        have := c_inForm s.sigs zone H w hs hsg.2 hz
        rwa [hf] at this
      obtain ⟨h6, hft⟩ := (form_iff _ _).1 hf
      have hbe : s.set.data.len ≤ 1000 ∧ s.sigs.len ≤ 1000 := ⟨by omega, by omega⟩
      rcases Nat.eq_zero_or_pos s.sigs.len with h0 | h0
      · have hu := until_nil (now := now) hlen h0
        have he : Enc.good H (⟨s, zone, now + maxI s.set.life 1⟩ : Entry) := ⟨hsg, hz, by show I64 (now + maxI s.set.life 1); exact ⟨by omega, by omega⟩⟩
        rw [hu]
        repeat (any_goals (first | refine T.seq ?_ | refine T.region ?_ | refine TL.nil ?_ | refine N.next ?_ | refine N.inBlock ?_ | refine N.exit_same ?_ | refine N.exit_then ?_ | refine N.ret_then ?_ | refine N.ret_block ?_ | (apply N.exit_other; rfl) | refine T.ret ?_ | refine T.skip ?_ | refine T.exit ?_ | refine T.block ?_ | (apply T.cond_true; rfl) | (apply T.cond_false; rfl) | (apply T.test; rfl; (with_reducible (first | exact Is.ndec | exact Is.dec | exact Is.not | ((fail_if_success exact Is.litT); (fail_if_success exact Is.litF); exact Is.base))); intro _; rotate_left; intro _; rotate_right) | (apply TL.skip; rfl; rfl; rfl) | (apply TL.skip_none; rfl; rfl) | (apply TL.call0 (f := 161) Tryz.call161; rfl; rfl; rfl; (exact fun _ hs => hv _ hs.sat)) | (apply TL.val; rfl; rfl; (apply V.build; rfl; rfl; rfl; rfl; rfl; rfl)) | (apply TL.val; rfl; rfl; (apply V.max (M := maxI s.set.life 1) rfl; rfl; rfl)) | (apply TL.x; rfl; rfl; (apply X.callFE (f := 196) [.agg (enc c).toArray, .agg (enc (⟨s, zone, now + maxI s.set.life 1⟩ : Entry)).toArray, intV now] Tryz.call196; rfl; rfl; rfl; exact (fun _ hs => c_learn c ⟨s, zone, now + maxI s.set.life 1⟩ now _ _ hs.sat hg he hnow o1 (short_of_ok hg o1) hbe)); intro p hp) | (apply TL.val; rfl; rfl; (first | exact vpure | exact vread)) | (apply TL.x; rfl; rfl; (first | exact xgrow | exact xput); intro _ _) | (apply TL.guard; rfl; rfl; rfl; (with_reducible (first | exact Is.ndec | exact Is.dec | exact Is.not | ((fail_if_success exact Is.litT); (fail_if_success exact Is.litF); exact Is.base))); intro _; rotate_left; intro _; rotate_right)))
        all_goals (try (exfalso; omega))
        apply N.ret2; rfl; (exact rvx); (exact rvx)
        intro w1 hst
        exact ⟨p, hp.1, rfl, hst.fresh⟩
      · have hu := until_cons (now := now) hlen h0
        have ht0 := (hft 0 (by omega) (by omega)).2.2.2.2.2.1
        have hcell : H.cell s.sigs.b (s.sigs.o + 0 * 6 + 4) = some (intV (s.sigs.els[0]'(by omega)).til) := hsg.2.cell (k := 0) (j := 4) h0 rfl
        have hmn : minI (now + maxI s.set.life 1) ((s.sigs.els[0]'(by omega)).til + 1) ≤ now + maxI s.set.life 1 ∧ -9223372036854775808 ≤ minI (now + maxI s.set.life 1) ((s.sigs.els[0]'(by omega)).til + 1) := by unfold minI; split <;> omega
        rw [hu]
        obtain ⟨u, hue⟩ : ∃ u, minI (now + maxI s.set.life 1) ((s.sigs.els[0]'(by omega)).til + 1) = u := ⟨_, rfl⟩
        rw [hue] at hmn ⊢
        have he : Enc.good H (⟨s, zone, u⟩ : Entry) := ⟨hsg, hz, by show I64 u; exact ⟨by omega, by omega⟩⟩
        repeat (any_goals (first | refine T.seq ?_ | refine T.region ?_ | refine TL.nil ?_ | refine N.next ?_ | refine N.inBlock ?_ | refine N.exit_same ?_ | refine N.exit_then ?_ | refine N.ret_then ?_ | refine N.ret_block ?_ | (apply N.exit_other; rfl) | refine T.ret ?_ | refine T.skip ?_ | refine T.exit ?_ | refine T.block ?_ | (apply T.cond_true; rfl) | (apply T.cond_false; rfl) | (apply T.test; rfl; (with_reducible (first | exact Is.ndec | exact Is.dec | exact Is.not | ((fail_if_success exact Is.litT); (fail_if_success exact Is.litF); exact Is.base))); intro _; rotate_left; intro _; rotate_right) | (apply TL.skip; rfl; rfl; rfl) | (apply TL.skip_none; rfl; rfl) | (apply TL.call0 (f := 161) Tryz.call161; rfl; rfl; rfl; (exact fun _ hs => hv _ hs.sat)) | (apply TL.val; rfl; rfl; (apply V.build; rfl; rfl; rfl; rfl; rfl; rfl)) | (apply TL.val; rfl; rfl; (apply V.max (M := maxI s.set.life 1) rfl; rfl; rfl)) | (apply TL.val; rfl; rfl; (apply V.elem (j := 0); rfl; rfl; rfl; rfl; rfl; rfl; exact h0; exact hsg.2.at_ h0)) | (apply TL.val; rfl; rfl; (apply V.load_H; rfl; rfl; rfl; exact hcell)) | (apply TL.val; rfl; rfl; (apply V.min (M := u) hue; rfl; rfl)) | (apply TL.x; rfl; rfl; (apply X.callFE (f := 196) [.agg (enc c).toArray, .agg (enc (⟨s, zone, u⟩ : Entry)).toArray, intV now] Tryz.call196; rfl; rfl; rfl; exact (fun _ hs => c_learn c ⟨s, zone, u⟩ now _ _ hs.sat hg he hnow o1 (short_of_ok hg o1) hbe)); intro p hp) | (apply TL.val; rfl; rfl; (first | exact vpure | exact vread)) | (apply TL.x; rfl; rfl; (first | exact xgrow | exact xput); intro _ _) | (apply TL.guard; rfl; rfl; rfl; (with_reducible (first | exact Is.ndec | exact Is.dec | exact Is.not | ((fail_if_success exact Is.litT); (fail_if_success exact Is.litF); exact Is.base))); intro _; rotate_left; intro _; rotate_right)))
        all_goals (try (exfalso; omega))
        apply N.ret2; rfl; (exact rvx); (exact rvx)
        intro w1 hst
        exact ⟨p, hp.1, rfl, hst.fresh⟩
end Go.Proofs.YtogcofeencgipaaGreatDoor
