/- The law PrefetchLearns. -/
import Derived.Test.YtogcofeencgipaaGreatDoorZQQ
namespace Go.Proofs.YtogcofeencgipaaGreatDoor
set_option linter.unusedVariables false
set_option linter.unusedSimpArgs false
open Go Go.RowKit
open Enc (enc)
set_option maxRecDepth 20000
def matchE (zone : Bytes) (s : SignedC) (U : Int) (x : EntryC) : Bool := decide (x.zone = zone) && decide (x.signed.set.name = s.set.name) && decide (x.signed.set.typ = s.set.typ) && decide (x.signed = s) && decide (x.til = U)
theorem any_up {α : Type} {p : α → Bool} {l : List α} {k : Nat} {x : α} (h : l[k]? = some x) : (l.take (k + 1)).any p = ((l.take k).any p || p x) := by
  rw [List.take_add_one, h, List.any_append]; simp
set_option maxHeartbeats 16000000 in
theorem c_PLearns (c : Cache) (zone : Bytes) (s : Signed) (now : Int) (H : Hp) (w : World) (hs : Sat H w) (hR : Rules H) (hg : Enc.good H c) (hz : LenOk zone) (hsg : Enc.good H s) (hnow : I64 now) : Calls Tryz.prog 10 #[.agg (enc c).toArray, strV zone, .agg (enc s).toArray, intV now] w (Ret w (.bool true)) := by
  refine T.enter (vs := [.agg (enc c).toArray, strV zone, .agg (enc s).toArray, intV now]) (H := H) Tryz.func10 rfl rfl rfl hs ?_
  have hq : Enc.good H (⟨s.set.name, s.set.typ⟩ : Question) := ⟨hsg.1.1, hsg.1.2.1⟩
  obtain ⟨⟨d0, er⟩, hr⟩ : ∃ x, learnP zone ⟨s.set.name, s.set.typ⟩ ⟨1, [s.c], []⟩ now (filterC zone ⟨s.set.name, s.set.typ⟩ ⟨1, [s.c], []⟩).1 c.c = x := ⟨_, rfl⟩
  have hzl : zone.length ≤ 9223372036854775807 := hz
  have hnl : s.set.name.length ≤ 9223372036854775807 := hsg.1.1
  obtain ⟨he0, hd0⟩ | ⟨he0, hok⟩ := learn_cases hr
  · subst hd0
    repeat (any_goals (first | refine T.seq ?_ | refine T.region ?_ | refine TL.nil ?_ | refine N.next ?_ | refine N.inBlock ?_ | refine N.exit_same ?_ | refine N.exit_then ?_ | refine N.ret_then ?_ | refine N.ret_block ?_ | (apply N.exit_other; rfl) | refine T.ret ?_ | refine T.skip ?_ | refine T.exit ?_ | refine T.block ?_ | (apply T.cond_true; rfl) | (apply T.cond_false; rfl) | (apply T.test; rfl; (with_reducible (first | exact Is.ndec | exact Is.dec | exact Is.not | ((fail_if_success exact Is.litT); (fail_if_success exact Is.litF); exact Is.base))); intro _; rotate_left; intro _; rotate_right) | (apply TL.skip; rfl; rfl; rfl) | (apply TL.skip_none; rfl; rfl) | (apply TL.x; rfl; rfl; (apply X.box (d := 4); rfl; rfl; rfl); intro b4 _) | (apply TL.x; rfl; rfl; (apply X.box (d := 6); rfl; rfl; rfl); intro b6 _) | (apply TL.callE (f := 25) [] Tryz.call25; rfl; rfl; rfl; rfl; (exact fun _ hs => c_head32 _ _ hs.sat hR)) | (apply TL.val; rfl; rfl; (apply V.build; rfl; rfl; rfl; rfl; rfl; rfl)) | (apply TL.callE (f := 40) [.agg (enc c).toArray] Tryz.call40; rfl; rfl; rfl; rfl; (exact fun _ hs => c_Few22 c _ _ hs.sat hg)) | (apply TL.x; rfl; rfl; (apply X.storeTo 0 (enc (⟨s.set.name, s.set.typ⟩ : Question)); rfl; rfl; rfl; rfl; rfl; rfl; rfl; rfl; rfl; rfl); intro _ _) | (apply TL.x; rfl; rfl; (apply X.buildSlice1 (d := 60) (cs := enc s); rfl; rfl; rfl; rfl; rfl; rfl; rfl; rfl); intro b60 _; apply TL.frzBlk 0 (α := Signed) (els := [s]) (m := 1) rfl rfl rfl (by decide) (by intro x hx; simp only [List.mem_singleton] at hx; rw [hx]; exact hsg); intro H60 h60 hl60; have ga : Enc.good H60 (ans1 1 b60 s) := ⟨show I64 1 by decide, h60, show LenOk [] by decide⟩; have gR := hR.mono hl60; have gc := Enc.mono hl60 hg; have gq := Enc.mono hl60 hq) | (apply TL.x; rfl; rfl; (apply X.callFE (f := 31) [.agg (enc c).toArray, strV zone, .agg (enc (⟨s.set.name, s.set.typ⟩ : Question)).toArray, .agg (enc (ans1 1 b60 s)).toArray, intV now] Tryz.call31; rfl; rfl; rfl; exact (fun _ hs => c_LearnV c zone ⟨s.set.name, s.set.typ⟩ (ans1 1 b60 s) now rfl (ans1_c rfl) hr (belowV_nil _) hs.sat gR gc hz gq ga hnow)); intro p hp; have hpl := cache_count hp.1.1 (show ([] : List EntryC).length = 0 from rfl) hp.1.2) | (apply TL.x; rfl; rfl; (apply X.storeTo 0 (enc p.2); rfl; rfl; rfl; rfl; rfl; rfl; rfl; rfl; rfl; rfl); intro _ _) | (apply TL.val; rfl; rfl; (first | exact vpure | exact vread)) | (apply TL.x; rfl; rfl; (first | exact xgrow | exact xput); intro _ _) | (apply TL.guard; rfl; rfl; rfl; (with_reducible (first | exact Is.ndec | exact Is.dec | exact Is.not | ((fail_if_success exact Is.litT); (fail_if_success exact Is.litF); exact Is.base))); intro _; rotate_left; intro _; rotate_right)))
    all_goals (try contradiction)
    all_goals (try (exfalso; omega))
    all_goals first
      | exact N.ret_bool rfl (by (exact rvx)) rfl
      | exact N.ret_bool rfl (by (exact rvx)) (decide_eq_true (by omega))
  · subst he0
    have hlf := (setOK_life (answer_one hok.answer).1).1
    have hml := maxI_pos s.set.life
    have hT := hok.time
    have hlife : (0 : Int) ≤ s.set.life ∧ s.set.life ≤ 100000 := hlf
    have hmx : (if s.set.life > 1 then s.set.life else 1) = maxI s.set.life 1 := by unfold maxI; split <;> split <;> omega
    have hmb : maxI s.set.life 1 ≤ 100000 := by unfold maxI; split <;> omega
    have hU : untilC s.c now ≤ now + 100000 := until_le hlf
    repeat (any_goals (first | (apply T.seqU 11; rfl) | refine T.region ?_ | refine TL.nil ?_ | refine N.next ?_ | refine N.inBlock ?_ | refine N.exit_same ?_ | refine N.exit_then ?_ | refine N.ret_then ?_ | refine N.ret_block ?_ | (apply N.exit_other; rfl) | refine T.ret ?_ | refine T.skip ?_ | refine T.exit ?_ | refine T.block ?_ | (apply T.cond_true; rfl) | (apply T.cond_false; rfl) | (apply T.test; rfl; (with_reducible (first | exact Is.ndec | exact Is.dec | exact Is.not | ((fail_if_success exact Is.litT); (fail_if_success exact Is.litF); exact Is.base))); intro _; rotate_left; intro _; rotate_right) | (apply TL.skip; rfl; rfl; rfl) | (apply TL.skip_none; rfl; rfl) | (apply TL.x; rfl; rfl; (apply X.box (d := 4); rfl; rfl; rfl); intro b4 _) | (apply TL.x; rfl; rfl; (apply X.box (d := 6); rfl; rfl; rfl); intro b6 _) | (apply TL.x; rfl; rfl; (apply X.alloc (d := 10); rfl; rfl; rfl); intro b10 _) | (apply TL.x; rfl; rfl; (apply X.alloc (d := 11); rfl; rfl; rfl); intro b11 _) | (apply TL.callE (f := 25) [] Tryz.call25; rfl; rfl; rfl; rfl; (exact fun _ hs => c_head32 _ _ hs.sat hR)) | (apply TL.val; rfl; rfl; (apply V.build; rfl; rfl; rfl; rfl; rfl; rfl)) | (apply TL.callE (f := 40) [.agg (enc c).toArray] Tryz.call40; rfl; rfl; rfl; rfl; (exact fun _ hs => c_Few22 c _ _ hs.sat hg)) | (apply TL.x; rfl; rfl; (apply X.storeTo 0 (enc (⟨s.set.name, s.set.typ⟩ : Question)); rfl; rfl; rfl; rfl; rfl; rfl; rfl; rfl; rfl; rfl); intro _ _) | (apply TL.x; rfl; rfl; (apply X.buildSlice1 (d := 60) (cs := enc s); rfl; rfl; rfl; rfl; rfl; rfl; rfl; rfl); intro b60 _; apply TL.frzBlk 0 (α := Signed) (els := [s]) (m := 1) rfl rfl rfl (by decide) (by intro x hx; simp only [List.mem_singleton] at hx; rw [hx]; exact hsg); intro H60 h60 hl60; have ga : Enc.good H60 (ans1 1 b60 s) := ⟨show I64 1 by decide, h60, show LenOk [] by decide⟩; have gR := hR.mono hl60; have gc := Enc.mono hl60 hg; have gq := Enc.mono hl60 hq) | (apply TL.x; rfl; rfl; (apply X.callFE (f := 31) [.agg (enc c).toArray, strV zone, .agg (enc (⟨s.set.name, s.set.typ⟩ : Question)).toArray, .agg (enc (ans1 1 b60 s)).toArray, intV now] Tryz.call31; rfl; rfl; rfl; exact (fun _ hs => c_LearnV c zone ⟨s.set.name, s.set.typ⟩ (ans1 1 b60 s) now rfl (ans1_c rfl) hr (belowV_nil _) hs.sat gR gc hz gq ga hnow)); intro p hp; obtain ⟨⟨hp1, hp2⟩, hp3⟩ := hp; have gR1 := gR.mono hp3; have gs1 := Enc.mono (hl60.trans hp3) hsg; simp only at hp1) | (apply TL.x; rfl; rfl; (apply X.storeTo 0 (enc p.2); rfl; rfl; rfl; rfl; rfl; rfl; rfl; rfl; rfl; rfl); intro _ _) | (apply TL.val; rfl; rfl; (apply V.max hmx; rfl; rfl)) | (apply TL.val; rfl; rfl; (first | exact vpure | exact vread)) | (apply TL.x; rfl; rfl; (first | exact xgrow | exact xput); intro _ _) | (apply TL.guard; rfl; rfl; rfl; (with_reducible (first | exact Is.ndec | exact Is.dec | exact Is.not | ((fail_if_success exact Is.litT); (fail_if_success exact Is.litF); exact Is.base))); intro _; rotate_left; intro _; rotate_right)))
    all_goals (try (exact N.ret_bool rfl (by (exact rvx)) rfl))
    all_goals (try contradiction)
    all_goals (try (exfalso; omega))
    refine T.cut (G := Unit) (fun _ => [(1, strV zone), (3, intV now), (4, .pointer (some ⟨b4, 0, none⟩)), (6, .pointer (some ⟨b6, 0, none⟩)), (9, .bool true), (10, .pointer (some ⟨b10, 0, none⟩)), (11, .pointer (some ⟨b11, 0, none⟩)), (13, intV (untilC s.c now))]) (fun _ => p.1) (fun _ => [.blk b11 46 (enc p.2), .blk b10 23 (enc (⟨s.set.name, s.set.typ⟩ : Question)), .blk b6 65 (enc s)]) (fun _ => True) ?_ ?_
    · have hsl := gs1.2.len
      by_cases h0 : s.sigs.len = 0
      · have hu := until_nil (now := now) hsl h0
        repeat (any_goals (first | refine T.seq ?_ | refine T.region ?_ | refine TL.nil ?_ | refine N.next ?_ | refine N.inBlock ?_ | refine N.exit_same ?_ | refine N.exit_then ?_ | refine N.ret_then ?_ | refine N.ret_block ?_ | (apply N.exit_other; rfl) | refine T.ret ?_ | refine T.skip ?_ | refine T.exit ?_ | refine T.block ?_ | (apply T.cond_true; rfl) | (apply T.cond_false; rfl) | (apply T.test; rfl; (with_reducible (first | exact Is.ndec | exact Is.dec | exact Is.not | ((fail_if_success exact Is.litT); (fail_if_success exact Is.litF); exact Is.base))); intro _; rotate_left; intro _; rotate_right) | (apply TL.skip; rfl; rfl; rfl) | (apply TL.skip_none; rfl; rfl) | (apply TL.val; rfl; rfl; (first | exact vpure | exact vread)) | (apply TL.x; rfl; rfl; (first | exact xgrow | exact xput); intro _ _) | (apply TL.guard; rfl; rfl; rfl; (with_reducible (first | exact Is.ndec | exact Is.dec | exact Is.not | ((fail_if_success exact Is.litT); (fail_if_success exact Is.litF); exact Is.base))); intro _; rotate_left; intro _; rotate_right)))
        all_goals (try (exfalso; omega))
        exact N.cut () trivial (by rw [hu]; (repeat (first | exact True.intro | refine ⟨rfl, ?_⟩ | refine Sub.int rfl (by omega) ?_))) rfl (by (repeat (first | exact List.Sublist.refl _ | exact List.nil_sublist _ | apply List.Sublist.cons_cons | apply List.Sublist.cons)))
      · have hpos : 0 < s.sigs.len := by omega
        have hu := until_cons (now := now) hsl hpos
        have hpe : 0 < s.sigs.els.length := by omega
        have hgt := (List.all_eq_true.1 (answer_one hok.answer).2) _ (List.getElem_mem (l := s.sigs.els) hpe)
        have hgb : 0 ≤ (s.sigs.els[0]'hpe).til ∧ (s.sigs.els[0]'hpe).til ≤ 20000000 := by
          unfold sigOK at hgt
          simp only [Bool.and_eq_true, decide_eq_true_eq] at hgt
          omega
        repeat (any_goals (first | refine T.seq ?_ | refine T.region ?_ | refine TL.nil ?_ | refine N.next ?_ | refine N.inBlock ?_ | refine N.exit_same ?_ | refine N.exit_then ?_ | refine N.ret_then ?_ | refine N.ret_block ?_ | (apply N.exit_other; rfl) | refine T.ret ?_ | refine T.skip ?_ | refine T.exit ?_ | refine T.block ?_ | (apply T.cond_true; rfl) | (apply T.cond_false; rfl) | (apply T.test; rfl; (with_reducible (first | exact Is.ndec | exact Is.dec | exact Is.not | ((fail_if_success exact Is.litT); (fail_if_success exact Is.litF); exact Is.base))); intro _; rotate_left; intro _; rotate_right) | (apply TL.skip; rfl; rfl; rfl) | (apply TL.skip_none; rfl; rfl) | (apply TL.val; rfl; rfl; (apply V.elem (j := 0); rfl; rfl; rfl; rfl; rfl; rfl; exact hpos; exact gs1.2.at_ hpos)) | (apply TL.val; rfl; rfl; (apply V.load_H; rfl; rfl; rfl; exact gs1.2.cell (j := 4) hpos rfl)) | (apply TL.val; rfl; rfl; (apply V.min (M := untilC s.c now) hu.symm; rfl; rfl)) | (apply TL.val; rfl; rfl; (first | exact vpure | exact vread)) | (apply TL.x; rfl; rfl; (first | exact xgrow | exact xput); intro _ _) | (apply TL.guard; rfl; rfl; rfl; (with_reducible (first | exact Is.ndec | exact Is.dec | exact Is.not | ((fail_if_success exact Is.litT); (fail_if_success exact Is.litF); exact Is.base))); intro _; rotate_left; intro _; rotate_right)))
        all_goals (try (exfalso; omega))
        exact N.cut () trivial (by (repeat (first | exact True.intro | refine ⟨rfl, ?_⟩ | refine Sub.int rfl (by omega) ?_))) rfl (by (repeat (first | exact List.Sublist.refl _ | exact List.nil_sublist _ | apply List.Sublist.cons_cons | apply List.Sublist.cons)))
    intro _ _
    obtain ⟨wi, hwi⟩ : ∃ wi, inZone s.set.name zone = wi := ⟨_, rfl⟩
    obtain ⟨wf, hwf⟩ : ∃ wf, sigsForm s.sigs.els zone = wf := ⟨_, rfl⟩
    have hlaw : (wi && wf && decide (now < untilC s.c now)) = true → (⟨s.c, zone, untilC s.c now⟩ : EntryC) ∈ d0 := fun h => by
      simp only [Bool.and_eq_true, decide_eq_true_eq] at h
      exact learns_law hok (hwi.trans h.1.1) (hwf.trans h.1.2) h.2
    generalize hUe : untilC s.c now = U at hU hlaw
    refine T.cut (G := Unit) (fun _ => [(1, strV zone), (6, .pointer (some ⟨b6, 0, none⟩)), (9, .bool true), (10, .pointer (some ⟨b10, 0, none⟩)), (11, .pointer (some ⟨b11, 0, none⟩)), (13, intV U), (14, .bool (wi && wf && decide (now < U)))]) (fun _ => p.1) (fun _ => [.blk b11 46 (enc p.2), .blk b10 23 (enc (⟨s.set.name, s.set.typ⟩ : Question)), .blk b6 65 (enc s)]) (fun _ => True) ?_ ?_
    · cases wi with
      | false =>
        repeat (any_goals (first | refine T.seq ?_ | refine T.region ?_ | refine TL.nil ?_ | refine N.next ?_ | refine N.inBlock ?_ | refine N.exit_same ?_ | refine N.exit_then ?_ | refine N.ret_then ?_ | refine N.ret_block ?_ | (apply N.exit_other; rfl) | refine T.ret ?_ | refine T.skip ?_ | refine T.exit ?_ | refine T.block ?_ | (apply T.cond_true; rfl) | (apply T.cond_false; rfl) | (apply T.test; rfl; (with_reducible (first | exact Is.ndec | exact Is.dec | exact Is.not | ((fail_if_success exact Is.litT); (fail_if_success exact Is.litF); exact Is.base))); intro _; rotate_left; intro _; rotate_right) | (apply TL.skip; rfl; rfl; rfl) | (apply TL.skip_none; rfl; rfl) | (apply TL.callE (f := 41) [strV s.set.name, strV zone] Tryz.call41; rfl; rfl; rfl; rfl; (exact fun _ hs => hwi ▸ c_Inside s.set.name zone _ _ hs.sat hsg.1.1 hz)) | (apply TL.callE (f := 42) [s.sigs.v, strV zone] Tryz.call42; rfl; rfl; rfl; rfl; (exact fun _ hs => hwf ▸ c_Sigs06 s.sigs zone _ _ hs.sat gs1.2 hz)) | (apply TL.val; rfl; rfl; (first | exact vpure | exact vread)) | (apply TL.x; rfl; rfl; (first | exact xgrow | exact xput); intro _ _) | (apply TL.guard; rfl; rfl; rfl; (with_reducible (first | exact Is.ndec | exact Is.dec | exact Is.not | ((fail_if_success exact Is.litT); (fail_if_success exact Is.litF); exact Is.base))); intro _; rotate_left; intro _; rotate_right)))
        all_goals (try contradiction)
        all_goals exact N.cut () trivial (by (repeat (first | exact True.intro | refine ⟨rfl, ?_⟩ | refine Sub.int rfl (by omega) ?_))) rfl (by (repeat (first | exact List.Sublist.refl _ | exact List.nil_sublist _ | apply List.Sublist.cons_cons | apply List.Sublist.cons)))
      | true =>
        cases wf with
        | false =>
          repeat (any_goals (first | refine T.seq ?_ | refine T.region ?_ | refine TL.nil ?_ | refine N.next ?_ | refine N.inBlock ?_ | refine N.exit_same ?_ | refine N.exit_then ?_ | refine N.ret_then ?_ | refine N.ret_block ?_ | (apply N.exit_other; rfl) | refine T.ret ?_ | refine T.skip ?_ | refine T.exit ?_ | refine T.block ?_ | (apply T.cond_true; rfl) | (apply T.cond_false; rfl) | (apply T.test; rfl; (with_reducible (first | exact Is.ndec | exact Is.dec | exact Is.not | ((fail_if_success exact Is.litT); (fail_if_success exact Is.litF); exact Is.base))); intro _; rotate_left; intro _; rotate_right) | (apply TL.skip; rfl; rfl; rfl) | (apply TL.skip_none; rfl; rfl) | (apply TL.callE (f := 41) [strV s.set.name, strV zone] Tryz.call41; rfl; rfl; rfl; rfl; (exact fun _ hs => hwi ▸ c_Inside s.set.name zone _ _ hs.sat hsg.1.1 hz)) | (apply TL.callE (f := 42) [s.sigs.v, strV zone] Tryz.call42; rfl; rfl; rfl; rfl; (exact fun _ hs => hwf ▸ c_Sigs06 s.sigs zone _ _ hs.sat gs1.2 hz)) | (apply TL.val; rfl; rfl; (first | exact vpure | exact vread)) | (apply TL.x; rfl; rfl; (first | exact xgrow | exact xput); intro _ _) | (apply TL.guard; rfl; rfl; rfl; (with_reducible (first | exact Is.ndec | exact Is.dec | exact Is.not | ((fail_if_success exact Is.litT); (fail_if_success exact Is.litF); exact Is.base))); intro _; rotate_left; intro _; rotate_right)))
          all_goals (try contradiction)
          all_goals exact N.cut () trivial (by (repeat (first | exact True.intro | refine ⟨rfl, ?_⟩ | refine Sub.int rfl (by omega) ?_))) rfl (by (repeat (first | exact List.Sublist.refl _ | exact List.nil_sublist _ | apply List.Sublist.cons_cons | apply List.Sublist.cons)))
        | true =>
          repeat (any_goals (first | refine T.seq ?_ | refine T.region ?_ | refine TL.nil ?_ | refine N.next ?_ | refine N.inBlock ?_ | refine N.exit_same ?_ | refine N.exit_then ?_ | refine N.ret_then ?_ | refine N.ret_block ?_ | (apply N.exit_other; rfl) | refine T.ret ?_ | refine T.skip ?_ | refine T.exit ?_ | refine T.block ?_ | (apply T.cond_true; rfl) | (apply T.cond_false; rfl) | (apply T.test; rfl; (with_reducible (first | exact Is.ndec | exact Is.dec | exact Is.not | ((fail_if_success exact Is.litT); (fail_if_success exact Is.litF); exact Is.base))); intro _; rotate_left; intro _; rotate_right) | (apply TL.skip; rfl; rfl; rfl) | (apply TL.skip_none; rfl; rfl) | (apply TL.callE (f := 41) [strV s.set.name, strV zone] Tryz.call41; rfl; rfl; rfl; rfl; (exact fun _ hs => hwi ▸ c_Inside s.set.name zone _ _ hs.sat hsg.1.1 hz)) | (apply TL.callE (f := 42) [s.sigs.v, strV zone] Tryz.call42; rfl; rfl; rfl; rfl; (exact fun _ hs => hwf ▸ c_Sigs06 s.sigs zone _ _ hs.sat gs1.2 hz)) | (apply TL.val; rfl; rfl; (first | exact vpure | exact vread)) | (apply TL.x; rfl; rfl; (first | exact xgrow | exact xput); intro _ _) | (apply TL.guard; rfl; rfl; rfl; (with_reducible (first | exact Is.ndec | exact Is.dec | exact Is.not | ((fail_if_success exact Is.litT); (fail_if_success exact Is.litF); exact Is.base))); intro _; rotate_left; intro _; rotate_right)))
          all_goals (try contradiction)
          all_goals exact N.cut () trivial (by (repeat (first | exact True.intro | refine ⟨rfl, ?_⟩ | refine Sub.int rfl (by omega) ?_))) rfl (by (repeat (first | exact List.Sublist.refl _ | exact List.nil_sublist _ | apply List.Sublist.cons_cons | apply List.Sublist.cons)))
    intro _ _
    have g8 : p.2.list.Good p.1 := hp2
    have hcn := g8.len
    have hcm := g8.lim
    generalize hwb : (wi && wf && decide (now < U)) = wb at hlaw
    repeat (any_goals (first | refine T.seq ?_ | refine T.region ?_ | refine TL.nil ?_ | refine N.next ?_ | refine N.inBlock ?_ | refine N.exit_same ?_ | refine N.exit_then ?_ | refine N.ret_then ?_ | refine N.ret_block ?_ | (apply N.exit_other; rfl) | refine T.ret ?_ | refine T.skip ?_ | refine T.exit ?_ | refine T.block ?_ | (apply T.cond_true; rfl) | (apply T.cond_false; rfl) | (apply T.test; rfl; (with_reducible (first | exact Is.ndec | exact Is.dec | exact Is.not | ((fail_if_success exact Is.litT); (fail_if_success exact Is.litF); exact Is.base))); intro _; rotate_left; intro _; rotate_right) | (apply TL.skip; rfl; rfl; rfl) | (apply TL.skip_none; rfl; rfl) | (apply TL.val; rfl; rfl; (first | exact vpure | exact vread)) | (apply TL.x; rfl; rfl; (first | exact xgrow | exact xput); intro _ _) | (apply TL.guard; rfl; rfl; rfl; (with_reducible (first | exact Is.ndec | exact Is.dec | exact Is.not | ((fail_if_success exact Is.litT); (fail_if_success exact Is.litF); exact Is.base))); intro _; rotate_left; intro _; rotate_right)))
    all_goals (try (exfalso; omega))
    refine T.loop (G := Nat) (fun k => [(1, strV zone), (6, .pointer (some ⟨b6, 0, none⟩)), (9, .bool true), (10, .pointer (some ⟨b10, 0, none⟩)), (11, .pointer (some ⟨b11, 0, none⟩)), (13, intV U), (14, .bool wb), (15, .bool ((p.2.c.take k).any (matchE zone s.c U))), (110, p.2.list.v), (111, intV p.2.list.len), (112, intV k)]) (fun _ => p.1) (fun _ => [.blk b11 46 (enc p.2), .blk b10 23 (enc (⟨s.set.name, s.set.typ⟩ : Question)), .blk b6 65 (enc s)]) (fun k => k ≤ p.2.list.len) (fun k => p.2.list.len - k) 0 (Nat.zero_le _) (by (repeat (first | exact True.intro | refine ⟨rfl, ?_⟩ | refine Sub.int rfl (by omega) ?_))) rfl (by (repeat (first | exact List.Sublist.refl _ | exact List.nil_sublist _ | apply List.Sublist.cons_cons | apply List.Sublist.cons))) ?_
    intro k hk
    by_cases hlt : k < p.2.list.len
    · have hk2 : k < p.2.list.els.length := by omega
      have hx := g8.els _ (List.getElem_mem hk2)
      have hck : p.2.c[k]? = some (p.2.list.els[k]'hk2).c := by
        show (p.2.list.els.map Entry.c)[k]? = _
        rw [List.getElem?_map, List.getElem?_eq_getElem hk2]; rfl
      have hup := any_up (p := matchE zone s.c U) hck
      generalize hee : p.2.list.els[k]'hk2 = e at hup hx
      have hEn : enc (p.2.list.els[k]'hk2) = enc e := by rw [hee]
      have hme : matchE zone s.c U e.c = (decide (e.zone = zone) && decide (e.signed.set.name = s.set.name) && decide (e.signed.set.typ = s.set.typ) && decide (e.signed.c = s.c) && decide (e.til = U)) := rfl
      repeat (any_goals (first | refine T.seq ?_ | refine T.region ?_ | refine TL.nil ?_ | refine N.next ?_ | refine N.inBlock ?_ | refine N.exit_same ?_ | refine N.exit_then ?_ | refine N.ret_then ?_ | refine N.ret_block ?_ | (apply N.exit_other; rfl) | refine T.ret ?_ | refine T.skip ?_ | refine T.exit ?_ | refine T.block ?_ | (apply T.cond_true; rfl) | (apply T.cond_false; rfl) | (apply T.test; rfl; (with_reducible (first | exact Is.ndec | exact Is.dec | exact Is.not | ((fail_if_success exact Is.litT); (fail_if_success exact Is.litF); exact Is.base))); intro _; rotate_left; intro _; rotate_right) | (apply TL.skip; rfl; rfl; rfl) | (apply TL.skip_none; rfl; rfl) | (apply TL.x; rfl; rfl; (apply X.storeTo 0 (enc e); rfl; rfl; rfl; rfl; rfl; rfl; rfl; rfl; exact hEn; rfl); intro _ _) | (apply TL.callE (f := 43) [.agg (enc e.signed).toArray, .agg (enc s).toArray] Tryz.call43; rfl; rfl; rfl; rfl; (exact fun _ hs => c_SameSigned e.signed s _ _ hs.sat hx.1 gs1)) | (apply TL.val; rfl; rfl; (first | exact vpure | exact vread)) | (apply TL.x; rfl; rfl; (first | exact xgrow | exact xput); intro _ _) | (apply TL.guard; rfl; rfl; rfl; (with_reducible (first | exact Is.ndec | exact Is.dec | exact Is.not | ((fail_if_success exact Is.litT); (fail_if_success exact Is.litF); exact Is.base))); intro _; rotate_left; intro _; rotate_right)))
      all_goals (try (exfalso; omega))
      all_goals first
        | (have hmt : matchE zone s.c U e.c = true := by
             rw [hme, decide_eq_true (show e.zone = zone by assumption), decide_eq_true (show e.signed.set.name = s.set.name by assumption), decide_eq_true (show e.signed.set.typ = s.set.typ by assumption), decide_eq_true (show e.signed.c = s.c by assumption), decide_eq_true (show e.til = U by assumption)]; rfl
           rw [hmt, Bool.or_true] at hup
           exact N.round (k + 1) (by show k + 1 ≤ _; omega) (by show p.2.list.len - (k + 1) < p.2.list.len - k; omega) (by simp only [hup]; (repeat (first | exact True.intro | refine ⟨rfl, ?_⟩ | refine Sub.int rfl (by omega) ?_))) rfl (by (repeat (first | exact List.Sublist.refl _ | exact List.nil_sublist _ | apply List.Sublist.cons_cons | apply List.Sublist.cons))))
        | (have hmt : matchE zone s.c U e.c = false := by
             rw [hme]
             first
               | rw [decide_eq_false (show ¬ e.zone = zone by assumption)]; rfl
               | rw [decide_eq_false (show ¬ e.signed.set.name = s.set.name by assumption), Bool.and_false]; rfl
               | rw [decide_eq_false (show ¬ e.signed.set.typ = s.set.typ by assumption), Bool.and_false]; rfl
               | rw [decide_eq_false (show ¬ e.signed.c = s.c by assumption), Bool.and_false]; rfl
               | rw [decide_eq_false (show ¬ e.til = U by assumption), Bool.and_false]
           rw [hmt, Bool.or_false] at hup
           exact N.round (k + 1) (by show k + 1 ≤ _; omega) (by show p.2.list.len - (k + 1) < p.2.list.len - k; omega) (by simp only [hup]; (repeat (first | exact True.intro | refine ⟨rfl, ?_⟩ | refine Sub.int rfl (by omega) ?_))) rfl (by (repeat (first | exact List.Sublist.refl _ | exact List.nil_sublist _ | apply List.Sublist.cons_cons | apply List.Sublist.cons))))
    · have hke : p.2.c.take k = p.2.c := List.take_of_length_le (by show (p.2.list.els.map Entry.c).length ≤ _; rw [List.length_map]; omega)
      rw [hke]
      have hfin : wb = true → p.2.c.any (matchE zone s.c U) = true := fun h => by
        rw [List.any_eq_true]
        refine ⟨_, hp1 ▸ hlaw h, ?_⟩
        unfold matchE
        simp
      have hca : cacheOK p.2.c = true := by rw [hp1]; exact hok.after
      generalize p.2.c.any (matchE zone s.c U) = fb at hfin
      repeat (any_goals (first | refine T.seq ?_ | refine T.region ?_ | refine TL.nil ?_ | refine N.next ?_ | refine N.inBlock ?_ | refine N.exit_same ?_ | refine N.exit_then ?_ | refine N.ret_then ?_ | refine N.ret_block ?_ | (apply N.exit_other; rfl) | refine T.ret ?_ | refine T.skip ?_ | refine T.exit ?_ | refine T.block ?_ | (apply T.cond_true; rfl) | (apply T.cond_false; rfl) | (apply T.test; rfl; (with_reducible (first | exact Is.ndec | exact Is.dec | exact Is.not | ((fail_if_success exact Is.litT); (fail_if_success exact Is.litF); exact Is.base))); intro _; rotate_left; intro _; rotate_right) | (apply TL.skip; rfl; rfl; rfl) | (apply TL.skip_none; rfl; rfl) | (apply TL.callE (f := 44) [.agg (enc p.2).toArray] Tryz.call44; rfl; rfl; rfl; rfl; (exact fun _ hs => c_validV p.2 hca hs.sat gR1 hp2)) | (apply TL.val; rfl; rfl; (first | exact vpure | exact vread)) | (apply TL.x; rfl; rfl; (first | exact xgrow | exact xput); intro _ _) | (apply TL.guard; rfl; rfl; rfl; (with_reducible (first | exact Is.ndec | exact Is.dec | exact Is.not | ((fail_if_success exact Is.litT); (fail_if_success exact Is.litF); exact Is.base))); intro _; rotate_left; intro _; rotate_right)))
      all_goals (try (exfalso; omega))
      all_goals (try contradiction)
      all_goals first
        | exact N.ret_bool rfl (by (exact rvx)) rfl
        | exact N.ret_bool rfl (by (exact rvx)) (hfin (by assumption))
        | trace_state
end Go.Proofs.YtogcofeencgipaaGreatDoor
