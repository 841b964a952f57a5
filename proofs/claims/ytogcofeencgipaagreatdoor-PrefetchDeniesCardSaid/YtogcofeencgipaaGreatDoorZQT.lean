/- The law PrefetchDenies. -/
import Derived.Test.YtogcofeencgipaaGreatDoorZQR
namespace Go.Proofs.YtogcofeencgipaaGreatDoor
set_option linter.unusedVariables false
set_option linter.unusedSimpArgs false
open Go Go.RowKit
open Enc (enc)
set_option maxRecDepth 20000
def sgn (st : RSet) : Signed := ⟨st, Slc.nil _⟩
set_option maxHeartbeats 16000000 in
theorem c_PDenies (c : Cache) (zone : Bytes) (q : Question) (st : RSet) (nm : Bool) (now : Int) (H : Hp) (w : World) (hs : Sat H w) (hR : Rules H) (hg : Enc.good H c) (hz : LenOk zone) (hq : Enc.good H q) (hst : Enc.good H st) (hnow : I64 now) : Calls Tryz.prog 11 #[.agg (enc c).toArray, strV zone, .agg (enc q).toArray, .agg (enc st).toArray, .bool nm, intV now] w (Ret w (.bool true)) := by
  refine T.enter (vs := [.agg (enc c).toArray, strV zone, .agg (enc q).toArray, .agg (enc st).toArray, .bool nm, intV now]) (H := H) Tryz.func11 rfl rfl rfl hs ?_
  have hzl : zone.length ≤ 9223372036854775807 := hz
  have hql : q.name.length ≤ 9223372036854775807 := hq.1
  by_cases hpre : st.typ = 4 ∧ st.name = zone ∧ setOK st.c = true ∧ questionOK q = true ∧ inN q.name zone = true
  · obtain ⟨k1, k2, k3, k4, k5⟩ := hpre
    obtain ⟨kd, hkd, hk56⟩ : ∃ kd : Int, kd = (if nm then 6 else 5) ∧ (kd = 5 ∨ kd = 6) := ⟨_, rfl, by cases nm <;> simp⟩
    have a1 : ∀ {w : World}, Sat H w → Calls Tryz.prog 45 #[.agg (enc st).toArray] w (Ret w (.bool true)) := fun hs => k3 ▸ c_Valid02 st _ _ hs hst
    have a2 : ∀ {w : World}, Sat H w → q.name.length ≤ 1000000 → zone.length ≤ 1000000 → Calls Tryz.prog 46 #[strV q.name, strV zone] w (Ret w (.bool true)) := fun hs h1 h2 => k5 ▸ c_In q.name zone _ _ hs h1 h2
    repeat (any_goals (first | (apply T.seqU 7; rfl) | refine T.region ?_ | refine TL.nil ?_ | refine N.next ?_ | refine N.inBlock ?_ | refine N.exit_same ?_ | refine N.exit_then ?_ | refine N.ret_then ?_ | refine N.ret_block ?_ | (apply N.exit_other; rfl) | refine T.ret ?_ | refine T.skip ?_ | refine T.exit ?_ | refine T.block ?_ | (apply T.cond_true; rfl) | (apply T.cond_false; rfl) | (apply T.test; rfl; (with_reducible (first | exact Is.ndec | exact Is.dec | exact Is.not | ((fail_if_success exact Is.litT); (fail_if_success exact Is.litF); exact Is.base))); intro _; rotate_left; intro _; rotate_right) | (apply TL.skip; rfl; rfl; rfl) | (apply TL.skip_none; rfl; rfl) | (apply TL.x; rfl; rfl; (apply X.box (d := 6); rfl; rfl; rfl); intro b6 _) | (apply TL.x; rfl; rfl; (apply X.box (d := 8); rfl; rfl; rfl); intro b8 _) | (apply TL.x; rfl; rfl; (apply X.box (d := 9); rfl; rfl; rfl); intro b9 _) | (apply TL.x; rfl; rfl; (apply X.alloc (d := 14); rfl; rfl; rfl); intro b14 _) | (apply TL.callE (f := 25) [] Tryz.call25; rfl; rfl; rfl; rfl; (exact fun _ hs => c_head32 _ _ hs.sat hR)) | (apply TL.val; rfl; rfl; (apply V.build; rfl; rfl; rfl; rfl; rfl; rfl)) | (apply TL.callE (f := 40) [.agg (enc c).toArray] Tryz.call40; rfl; rfl; rfl; rfl; (exact fun _ hs => c_Few22 c _ _ hs.sat hg)) | (apply TL.callE (f := 45) [.agg (enc st).toArray] Tryz.call45; rfl; rfl; rfl; rfl; (exact fun _ hs => a1 hs.sat)) | (apply TL.callE (f := 39) [.agg (enc q).toArray] Tryz.call39; rfl; rfl; rfl; rfl; (exact fun _ hs => c_Question06V q k4 hs.sat hq)) | (apply TL.callE (f := 46) [strV q.name, strV zone] Tryz.call46; rfl; rfl; rfl; rfl; (exact fun _ hs => a2 hs.sat (by omega) (by omega))) | (apply TL.x; rfl; rfl; (apply X.buildSlice1 (d := 66) (cs := enc (sgn st)); rfl; rfl; rfl; rfl; rfl; rfl; rfl; rfl); intro b66 _; apply TL.frzBlk 0 (α := Signed) (els := [sgn st]) (m := 1) rfl rfl rfl (by decide) (by intro x hx; simp only [List.mem_singleton] at hx; rw [hx]; exact ⟨hst, Slc.nil_good⟩); intro H66 h66 hl66) | (apply TL.x; rfl; rfl; (apply X.storeTo 0 (enc (ans1 5 b66 (sgn st))); rfl; rfl; rfl; rfl; rfl; rfl; rfl; rfl; rfl; rfl); intro _ _) | (apply TL.val; rfl; rfl; (first | exact vpure | exact vread)) | (apply TL.x; rfl; rfl; (first | exact xgrow | exact xput); intro _ _) | (apply TL.guard; rfl; rfl; rfl; (with_reducible (first | exact Is.ndec | exact Is.dec | exact Is.not | ((fail_if_success exact Is.litT); (fail_if_success exact Is.litF); exact Is.base))); intro _; rotate_left; intro _; rotate_right)))
    all_goals (try (exact N.ret_bool rfl (by (exact rvx)) rfl))
    all_goals (try contradiction)
    all_goals (try (exfalso; omega))
    refine T.cut (G := Unit) (fun _ => [(1, strV zone), (5, intV now), (6, .pointer (some ⟨b6, 0, none⟩)), (8, .pointer (some ⟨b8, 0, none⟩)), (9, .pointer (some ⟨b9, 0, none⟩)), (13, .bool true), (14, .pointer (some ⟨b14, 0, none⟩))]) (fun _ => H66) (fun _ => [.blk b14 26 (enc (ans1 kd b66 (sgn st))), .blk b9 62 (enc st), .blk b8 23 (enc q), .blk b6 46 (enc c)]) (fun _ => True) ?_ ?_
    · cases nm with
      | false =>
        subst hkd
        repeat (any_goals (first | refine T.seq ?_ | refine T.region ?_ | refine TL.nil ?_ | refine N.next ?_ | refine N.inBlock ?_ | refine N.exit_same ?_ | refine N.exit_then ?_ | refine N.ret_then ?_ | refine N.ret_block ?_ | (apply N.exit_other; rfl) | refine T.ret ?_ | refine T.skip ?_ | refine T.exit ?_ | refine T.block ?_ | (apply T.cond_true; rfl) | (apply T.cond_false; rfl) | (apply T.test; rfl; (with_reducible (first | exact Is.ndec | exact Is.dec | exact Is.not | ((fail_if_success exact Is.litT); (fail_if_success exact Is.litF); exact Is.base))); intro _; rotate_left; intro _; rotate_right) | (apply TL.skip; rfl; rfl; rfl) | (apply TL.skip_none; rfl; rfl) | (apply TL.val; rfl; rfl; (first | exact vpure | exact vread)) | (apply TL.x; rfl; rfl; (first | exact xgrow | exact xput); intro _ _) | (apply TL.guard; rfl; rfl; rfl; (with_reducible (first | exact Is.ndec | exact Is.dec | exact Is.not | ((fail_if_success exact Is.litT); (fail_if_success exact Is.litF); exact Is.base))); intro _; rotate_left; intro _; rotate_right)))
        all_goals (try contradiction)
        exact N.cut () trivial (by (repeat (first | exact True.intro | refine ⟨rfl, ?_⟩ | refine Sub.int rfl (by omega) ?_))) rfl (by (repeat (first | exact List.Sublist.refl _ | exact List.nil_sublist _ | apply List.Sublist.cons_cons | apply List.Sublist.cons)))
      | true =>
        subst hkd
        repeat (any_goals (first | refine T.seq ?_ | refine T.region ?_ | refine TL.nil ?_ | refine N.next ?_ | refine N.inBlock ?_ | refine N.exit_same ?_ | refine N.exit_then ?_ | refine N.ret_then ?_ | refine N.ret_block ?_ | (apply N.exit_other; rfl) | refine T.ret ?_ | refine T.skip ?_ | refine T.exit ?_ | refine T.block ?_ | (apply T.cond_true; rfl) | (apply T.cond_false; rfl) | (apply T.test; rfl; (with_reducible (first | exact Is.ndec | exact Is.dec | exact Is.not | ((fail_if_success exact Is.litT); (fail_if_success exact Is.litF); exact Is.base))); intro _; rotate_left; intro _; rotate_right) | (apply TL.skip; rfl; rfl; rfl) | (apply TL.skip_none; rfl; rfl) | (apply TL.x; rfl; rfl; (apply X.storeTo 0 (enc (ans1 6 b66 (sgn st))); rfl; rfl; rfl; rfl; rfl; rfl; rfl; rfl; rfl; rfl); intro _ _) | (apply TL.val; rfl; rfl; (first | exact vpure | exact vread)) | (apply TL.x; rfl; rfl; (first | exact xgrow | exact xput); intro _ _) | (apply TL.guard; rfl; rfl; rfl; (with_reducible (first | exact Is.ndec | exact Is.dec | exact Is.not | ((fail_if_success exact Is.litT); (fail_if_success exact Is.litF); exact Is.base))); intro _; rotate_left; intro _; rotate_right)))
        all_goals (try contradiction)
        exact N.cut () trivial (by (repeat (first | exact True.intro | refine ⟨rfl, ?_⟩ | refine Sub.int rfl (by omega) ?_))) rfl (by (repeat (first | exact List.Sublist.refl _ | exact List.nil_sublist _ | apply List.Sublist.cons_cons | apply List.Sublist.cons)))
    intro _ _
    have ga : Enc.good H66 (ans1 kd b66 (sgn st)) := ⟨by show I64 kd; rcases hk56 with h | h <;> rw [h] <;> decide, h66, show LenOk [] by decide⟩
    have gR := hR.mono hl66
    have gc := Enc.mono hl66 hg
    have gq := Enc.mono hl66 hq
    obtain ⟨⟨d0, er⟩, hr⟩ : ∃ x, learnP zone q ⟨kd, [⟨st.c, []⟩], []⟩ now (filterC zone q ⟨kd, [⟨st.c, []⟩], []⟩).1 c.c = x := ⟨_, rfl⟩
    obtain ⟨he0, hd0⟩ | ⟨he0, hok⟩ := learn_cases hr
    · subst hd0
      repeat (any_goals (first | refine T.seq ?_ | refine T.region ?_ | refine TL.nil ?_ | refine N.next ?_ | refine N.inBlock ?_ | refine N.exit_same ?_ | refine N.exit_then ?_ | refine N.ret_then ?_ | refine N.ret_block ?_ | (apply N.exit_other; rfl) | refine T.ret ?_ | refine T.skip ?_ | refine T.exit ?_ | refine T.block ?_ | (apply T.cond_true; rfl) | (apply T.cond_false; rfl) | (apply T.test; rfl; (with_reducible (first | exact Is.ndec | exact Is.dec | exact Is.not | ((fail_if_success exact Is.litT); (fail_if_success exact Is.litF); exact Is.base))); intro _; rotate_left; intro _; rotate_right) | (apply TL.skip; rfl; rfl; rfl) | (apply TL.skip_none; rfl; rfl) | (apply TL.x; rfl; rfl; (apply X.callFE (f := 31) [.agg (enc c).toArray, strV zone, .agg (enc q).toArray, .agg (enc (ans1 kd b66 (sgn st))).toArray, intV now] Tryz.call31; rfl; rfl; rfl; exact (fun _ hs => c_LearnV c zone q (ans1 kd b66 (sgn st)) now rfl (ans1_c (x := ⟨st.c, []⟩) rfl) hr (belowV_nil _) hs.sat gR gc hz gq ga hnow)); intro p hp; have hpl := cache_count hp.1.1 (show ([] : List EntryC).length = 0 from rfl) hp.1.2) | (apply TL.x; rfl; rfl; (apply X.storeTo 0 (enc p.2); rfl; rfl; rfl; rfl; rfl; rfl; rfl; rfl; rfl; rfl); intro _ _) | (apply TL.val; rfl; rfl; (first | exact vpure | exact vread)) | (apply TL.x; rfl; rfl; (first | exact xgrow | exact xput); intro _ _) | (apply TL.guard; rfl; rfl; rfl; (with_reducible (first | exact Is.ndec | exact Is.dec | exact Is.not | ((fail_if_success exact Is.litT); (fail_if_success exact Is.litF); exact Is.base))); intro _; rotate_left; intro _; rotate_right)))
      all_goals (try contradiction)
      all_goals (try (exfalso; omega))
      all_goals first
        | exact N.ret_bool rfl (by (exact rvx)) rfl
        | exact N.ret_bool rfl (by (exact rvx)) (decide_eq_true (by omega))
    · subst he0
      obtain ⟨hlv, hmem⟩ := denies_law hk56 hok k1 k2 k3 k5
      have hdp : 0 < st.data.els.length := by
        have h := (setOK_life k3).2
        exact h
      have hdl := hst.2.2.2.len
      have hpos : 0 < st.data.len := by omega
      have hlf : lifeOf ⟨st.c, []⟩ = (st.data.els[0]'hdp).m := by
        show (List.headD st.data.els ⟨[], 0, 0⟩).m = _
        generalize st.data.els = xs at hdp
        cases xs with
        | nil => simp at hdp
        | cons x t => rfl
      rw [hlf] at hlv hmem
      have hT := hok.time
      have hmx : (if (st.data.els[0]'hdp).m > 1 then (st.data.els[0]'hdp).m else 1) = maxI (st.data.els[0]'hdp).m 1 := by unfold maxI; split <;> split <;> omega
      have hmb : maxI (st.data.els[0]'hdp).m 1 ≤ 100000 ∧ 1 ≤ maxI (st.data.els[0]'hdp).m 1 := by unfold maxI; split <;> omega
      repeat (any_goals (first | refine T.seq ?_ | refine T.region ?_ | refine TL.nil ?_ | refine N.next ?_ | refine N.inBlock ?_ | refine N.exit_same ?_ | refine N.exit_then ?_ | refine N.ret_then ?_ | refine N.ret_block ?_ | (apply N.exit_other; rfl) | refine T.ret ?_ | refine T.skip ?_ | refine T.exit ?_ | refine T.block ?_ | (apply T.cond_true; rfl) | (apply T.cond_false; rfl) | (apply T.test; rfl; (with_reducible (first | exact Is.ndec | exact Is.dec | exact Is.not | ((fail_if_success exact Is.litT); (fail_if_success exact Is.litF); exact Is.base))); intro _; rotate_left; intro _; rotate_right) | (apply TL.skip; rfl; rfl; rfl) | (apply TL.skip_none; rfl; rfl) | (apply TL.x; rfl; rfl; (apply X.alloc (d := 15); rfl; rfl; rfl); intro b15 _) | (apply TL.x; rfl; rfl; (apply X.callFE (f := 31) [.agg (enc c).toArray, strV zone, .agg (enc q).toArray, .agg (enc (ans1 kd b66 (sgn st))).toArray, intV now] Tryz.call31; rfl; rfl; rfl; exact (fun _ hs => c_LearnV c zone q (ans1 kd b66 (sgn st)) now rfl (ans1_c (x := ⟨st.c, []⟩) rfl) hr (belowV_nil _) hs.sat gR gc hz gq ga hnow)); intro p hp; obtain ⟨⟨hp1, hp2⟩, hp3⟩ := hp; have gR1 := gR.mono hp3; have gst := Enc.mono (hl66.trans hp3) hst; simp only at hp1) | (apply TL.x; rfl; rfl; (apply X.storeTo 0 (enc p.2); rfl; rfl; rfl; rfl; rfl; rfl; rfl; rfl; rfl; rfl); intro _ _) | (apply TL.val; rfl; rfl; (apply V.elem (j := 0); rfl; rfl; rfl; rfl; rfl; rfl; exact hpos; exact gst.2.2.2.at_ hpos)) | (apply TL.val; rfl; rfl; (apply V.load_H; rfl; rfl; rfl; exact gst.2.2.2.cell (j := 2) hpos rfl)) | (apply TL.val; rfl; rfl; (apply V.max hmx; rfl; rfl)) | (apply TL.val; rfl; rfl; (first | exact vpure | exact vread)) | (apply TL.x; rfl; rfl; (first | exact xgrow | exact xput); intro _ _) | (apply TL.guard; rfl; rfl; rfl; (with_reducible (first | exact Is.ndec | exact Is.dec | exact Is.not | ((fail_if_success exact Is.litT); (fail_if_success exact Is.litF); exact Is.base))); intro _; rotate_left; intro _; rotate_right)))
      all_goals (try contradiction)
      all_goals (try (exfalso; omega))
      have g8 : p.2.list.Good p.1 := hp2
      have hcn := g8.len
      have hcm := g8.lim
      have hca : cacheOK p.2.c = true := by rw [hp1]; exact hok.after
      rw [← hp1] at hmem
      generalize hde : denied q zone (st.data.els[0]'hdp).m now = D at hmem
      have hDk : keyC D = (q.name, q.typ, zone) := by rw [← hde]; rfl
      have hDt : D.til = now + maxI (st.data.els[0]'hdp).m 1 := by rw [← hde]; rfl
      have hDd : denial D = true := by rw [← hde]; exact decide_eq_true rfl
      generalize now + maxI (st.data.els[0]'hdp).m 1 = U at hDt
      refine T.loop (G := Nat) (fun k => [(1, strV zone), (8, .pointer (some ⟨b8, 0, none⟩)), (13, .bool true), (15, .pointer (some ⟨b15, 0, none⟩)), (17, intV U), (97, p.2.list.v), (98, intV p.2.list.len), (99, intV k)]) (fun _ => p.1) (fun _ => [.blk b15 46 (enc p.2), .blk b8 23 (enc q)]) (fun k => k ≤ p.2.list.len ∧ D ∉ p.2.c.take k) (fun k => p.2.list.len - k) 0 ⟨Nat.zero_le _, by simp⟩ (by (repeat (first | exact True.intro | refine ⟨rfl, ?_⟩ | refine Sub.int rfl (by omega) ?_))) rfl (by (repeat (first | exact List.Sublist.refl _ | exact List.nil_sublist _ | apply List.Sublist.cons_cons | apply List.Sublist.cons))) ?_
      rintro k ⟨hk, hno⟩
      by_cases hlt : k < p.2.list.len
      · have hk2 : k < p.2.list.els.length := by omega
        have hx := g8.els _ (List.getElem_mem hk2)
        have hck : p.2.c[k]? = some (p.2.list.els[k]'hk2).c := by
          show (p.2.list.els.map Entry.c)[k]? = _
          rw [List.getElem?_map, List.getElem?_eq_getElem hk2]; rfl
        have hxm : (p.2.list.els[k]'hk2).c ∈ p.2.c := List.mem_map_of_mem (List.getElem_mem hk2)
        generalize hee : p.2.list.els[k]'hk2 = e at hck hx hxm
        have hEn : enc (p.2.list.els[k]'hk2) = enc e := by rw [hee]
        have hsame : e.zone = zone → e.signed.set.name = q.name → e.signed.set.typ = q.typ → e.c = D := fun h1 h2 h3 => nodup_key ((cacheOK_iff _).1 hca).2.2 hxm hmem (by rw [hDk]; show (e.signed.set.name, e.signed.set.typ, e.zone) = _; rw [h1, h2, h3])
        by_cases hm : e.zone = zone ∧ e.signed.set.name = q.name ∧ e.signed.set.typ = q.typ
        · have hed := hsame hm.1 hm.2.1 hm.2.2
          have het : e.til = U := (congrArg EntryC.til hed).trans hDt
          have hden : denial e.c = true := by rw [hed]; exact hDd
          repeat (any_goals (first | refine T.seq ?_ | refine T.region ?_ | refine TL.nil ?_ | refine N.next ?_ | refine N.inBlock ?_ | refine N.exit_same ?_ | refine N.exit_then ?_ | refine N.ret_then ?_ | refine N.ret_block ?_ | (apply N.exit_other; rfl) | refine T.ret ?_ | refine T.skip ?_ | refine T.exit ?_ | refine T.block ?_ | (apply T.cond_true; rfl) | (apply T.cond_false; rfl) | (apply T.test; rfl; (with_reducible (first | exact Is.ndec | exact Is.dec | exact Is.not | ((fail_if_success exact Is.litT); (fail_if_success exact Is.litF); exact Is.base))); intro _; rotate_left; intro _; rotate_right) | (apply TL.skip; rfl; rfl; rfl) | (apply TL.skip_none; rfl; rfl) | (apply TL.x; rfl; rfl; (apply X.storeTo 0 (enc e); rfl; rfl; rfl; rfl; rfl; rfl; rfl; rfl; exact hEn; rfl); intro _ _) | (apply TL.callE (f := 44) [.agg (enc p.2).toArray] Tryz.call44; rfl; rfl; rfl; rfl; (exact fun _ hs => c_validV p.2 hca hs.sat gR1 hp2)) | (apply TL.callE (f := 36) [.agg (enc e).toArray] Tryz.call36; rfl; rfl; rfl; rfl; (exact fun _ hs => hden ▸ c_Denial e _ _ hs.sat hx)) | (apply TL.val; rfl; rfl; (first | exact vpure | exact vread)) | (apply TL.x; rfl; rfl; (first | exact xgrow | exact xput); intro _ _) | (apply TL.guard; rfl; rfl; rfl; (with_reducible (first | exact Is.ndec | exact Is.dec | exact Is.not | ((fail_if_success exact Is.litT); (fail_if_success exact Is.litF); exact Is.base))); intro _; rotate_left; intro _; rotate_right)))
          all_goals (try (exfalso; omega))
          all_goals (try contradiction)
          all_goals (try (exact N.ret_bool rfl (by (exact rvx)) (decide_eq_true het)))
          all_goals (try (exact N.ret_bool rfl (by (exact rvx)) rfl))
          all_goals (exfalso; first | exact absurd hm.1 (by assumption) | exact absurd hm.2.1 (by assumption) | exact absurd hm.2.2 (by assumption))
        · have hne : e.c ≠ D := fun h => by
            have h2 : keyC e.c = (q.name, q.typ, zone) := by rw [h]; exact hDk
            have h3 : (e.signed.set.name, e.signed.set.typ, e.zone) = (q.name, q.typ, zone) := h2
            simp only [Prod.mk.injEq] at h3
            exact hm ⟨h3.2.2, h3.1, h3.2.1⟩
          repeat (any_goals (first | refine T.seq ?_ | refine T.region ?_ | refine TL.nil ?_ | refine N.next ?_ | refine N.inBlock ?_ | refine N.exit_same ?_ | refine N.exit_then ?_ | refine N.ret_then ?_ | refine N.ret_block ?_ | (apply N.exit_other; rfl) | refine T.ret ?_ | refine T.skip ?_ | refine T.exit ?_ | refine T.block ?_ | (apply T.cond_true; rfl) | (apply T.cond_false; rfl) | (apply T.test; rfl; (with_reducible (first | exact Is.ndec | exact Is.dec | exact Is.not | ((fail_if_success exact Is.litT); (fail_if_success exact Is.litF); exact Is.base))); intro _; rotate_left; intro _; rotate_right) | (apply TL.skip; rfl; rfl; rfl) | (apply TL.skip_none; rfl; rfl) | (apply TL.x; rfl; rfl; (apply X.storeTo 0 (enc e); rfl; rfl; rfl; rfl; rfl; rfl; rfl; rfl; exact hEn; rfl); intro _ _) | (apply TL.callE (f := 44) [.agg (enc p.2).toArray] Tryz.call44; rfl; rfl; rfl; rfl; (exact fun _ hs => c_validV p.2 hca hs.sat gR1 hp2)) | (apply TL.callE (f := 36) [.agg (enc e).toArray] Tryz.call36; rfl; rfl; rfl; rfl; (exact fun _ hs => c_Denial e _ _ hs.sat hx)) | (apply TL.val; rfl; rfl; (first | exact vpure | exact vread)) | (apply TL.x; rfl; rfl; (first | exact xgrow | exact xput); intro _ _) | (apply TL.guard; rfl; rfl; rfl; (with_reducible (first | exact Is.ndec | exact Is.dec | exact Is.not | ((fail_if_success exact Is.litT); (fail_if_success exact Is.litF); exact Is.base))); intro _; rotate_left; intro _; rotate_right)))
          all_goals (try (exfalso; omega))
          all_goals first
            | (exfalso; exact hm ⟨by assumption, by assumption, by assumption⟩)
            | (refine N.round (k + 1) ⟨by show k + 1 ≤ _; omega, ?_⟩ (by show p.2.list.len - (k + 1) < p.2.list.len - k; omega) (by (repeat (first | exact True.intro | refine ⟨rfl, ?_⟩ | refine Sub.int rfl (by omega) ?_))) rfl (by (repeat (first | exact List.Sublist.refl _ | exact List.nil_sublist _ | apply List.Sublist.cons_cons | apply List.Sublist.cons)))
               rw [List.take_add_one, hck]
               intro h
               rcases List.mem_append.1 h with h | h
               · exact hno h
               · exact hne (List.mem_singleton.1 h).symm)
      · exfalso
        rw [List.take_of_length_le (by show (p.2.list.els.map Entry.c).length ≤ _; rw [List.length_map]; omega)] at hno
        exact hno hmem
  · repeat (any_goals (first | refine T.seq ?_ | refine T.region ?_ | refine TL.nil ?_ | refine N.next ?_ | refine N.inBlock ?_ | refine N.exit_same ?_ | refine N.exit_then ?_ | refine N.ret_then ?_ | refine N.ret_block ?_ | (apply N.exit_other; rfl) | refine T.ret ?_ | refine T.skip ?_ | refine T.exit ?_ | refine T.block ?_ | (apply T.cond_true; rfl) | (apply T.cond_false; rfl) | (apply T.test; rfl; (with_reducible (first | exact Is.ndec | exact Is.dec | exact Is.not | ((fail_if_success exact Is.litT); (fail_if_success exact Is.litF); exact Is.base))); intro _; rotate_left; intro _; rotate_right) | (apply TL.skip; rfl; rfl; rfl) | (apply TL.skip_none; rfl; rfl) | (apply TL.x; rfl; rfl; (apply X.box (d := 6); rfl; rfl; rfl); intro b6 _) | (apply TL.x; rfl; rfl; (apply X.box (d := 8); rfl; rfl; rfl); intro b8 _) | (apply TL.x; rfl; rfl; (apply X.box (d := 9); rfl; rfl; rfl); intro b9 _) | (apply TL.callE (f := 25) [] Tryz.call25; rfl; rfl; rfl; rfl; (exact fun _ hs => c_head32 _ _ hs.sat hR)) | (apply TL.callE (f := 40) [.agg (enc c).toArray] Tryz.call40; rfl; rfl; rfl; rfl; (exact fun _ hs => c_Few22 c _ _ hs.sat hg)) | (apply TL.callE (f := 45) [.agg (enc st).toArray] Tryz.call45; rfl; rfl; rfl; rfl; (exact fun _ hs => c_Valid02 st _ _ hs.sat hst)) | (apply TL.callE (f := 39) [.agg (enc q).toArray] Tryz.call39; rfl; rfl; rfl; rfl; (exact fun _ hs => c_Question06V q rfl hs.sat hq)) | (apply TL.callE (f := 46) [strV q.name, strV zone] Tryz.call46; rfl; rfl; rfl; rfl; (exact fun _ hs => c_In q.name zone _ _ hs.sat (by omega) (by omega))) | (apply TL.val; rfl; rfl; (first | exact vpure | exact vread)) | (apply TL.x; rfl; rfl; (first | exact xgrow | exact xput); intro _ _) | (apply TL.guard; rfl; rfl; rfl; (with_reducible (first | exact Is.ndec | exact Is.dec | exact Is.not | ((fail_if_success exact Is.litT); (fail_if_success exact Is.litF); exact Is.base))); intro _; rotate_left; intro _; rotate_right)))
    all_goals first
      | exact N.ret_bool rfl (by (exact rvx)) rfl
      | (exfalso; exact hpre ⟨by assumption, by assumption, by assumption, by assumption, by assumption⟩)
      | trace_state
end Go.Proofs.YtogcofeencgipaaGreatDoor
